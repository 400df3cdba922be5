/-
  Parts of the proofs of the laws: the executor, what functions of the program compute, and that it is what the statements ask. No premise.
-/
import Derived.Test.YtnkeljlllagddaaGreatVPsc1
import Derived.Shelf.Abstract
import Derived.RangeFuncRecord
import Derived.RangeFuncSeq
import Derived.RangeFuncLeaves
import Derived.Test.YtnkeljlllagddaaGreatRows
namespace Go.Aw
open Go.RowKit
set_option linter.unusedVariables false
set_option linter.unusedSimpArgs false

def resVals (T : Nat → Option TI) (s : FS) : List ResultVar → Option (List SV)
  | [] => some []
  | .tmp t :: l => match resVals T s l with
    | some m => some (s.sl t :: m)
    | none => none
  | .cell a t :: l => match s.sl a, T t with
    | .p k off, some i => match s.bk k with
      | .live own false cells => if ((cells.drop off).take i.size).length = i.size then
          match mkV i.agg ((cells.drop off).take i.size), resVals T s l with
          | some x, some m => some (x :: m)
          | _, _ => none
        else none
      | _ => none
    | _, _ => none

def resOf : List SV → SV
  | [x] => x
  | l => .t l

/-- A block that is handed back. -/
def outK (R : List Nat) : BK → Option BK
  | .dead => some .dead
  | .live true true cells => some (.live true true cells)
  | .live true false cells => match renL R cells with
    | some cells => some (.live true false cells)
    | none => none
  | _ => none

def outBs (ks : List Nat) (bk : Nat → BK) : List Nat → Option (List BK)
  | [] => some []
  | k :: l => match outK ks (bk k), outBs ks bk l with
    | some x, some m => some (x :: m)
    | _, _ => none

/-- The blocks that were handed over to be written. -/
def outMs (R : List Nat) (ms : List Nat) (bk : Nat → BK) : Nat → Nat → Option (List BK)
  | _, 0 => some []
  | i, n + 1 => match (if ms.contains i then outK R (bk i) else some .un), outMs R ms bk (i + 1) n with
    | some x, some m => some (x :: m)
    | _, _ => none

/-- The result, the new blocks 'ks' that are handed back, and those that were handed over to be written, 'ms'. -/
def fin (T : Nat → Option TI) (rv : List ResultVar) (base : Nat) (ms ks : List Nat) (s : LS) : Option (SV × List BK × List BK) :=
  match resVals T s.fs rv with
  | none => none
  | some l => match ren (List.range base ++ ks) (resOf l), outBs (List.range base ++ ks) s.fs.bk ks, (match ms with | [] => some [] | _ => outMs (List.range base ++ ks) ms s.fs.bk 0 base) with
    | some res, some nb, some mb => if nodupB ks && ks.all (fun k => decide (base ≤ k)) then some (res, nb, mb) else none
    | _, _, _ => none

section
variable {P : Program} {T : Nat → Option TI} {cx : Cx} {n : Nat}

def rvSem (tmps : Array Value) (x : ResultVar) : Sem Value :=
  match x with
  | .tmp t => pure (tmps.getD t undef)
  | .cell a t => do loadVar t (← asAddr (tmps.getD a undef))

theorem results_eq (fn : Func) (tmps : Array Value) : results fn tmps = (fn.results.mapM (rvSem tmps) >>= fun vs => pure (if h : vs.size = 1 then vs[0] else .tuple vs)) := by
  unfold results
  congr 2

theorem run_asAddr (x : Addr) (W : World) : (asAddr (.pointer (some x))).run P W = .ok x W := rfl

theorem resVals_ok (hT : TOk P T) {N : Nat} {D : List Deferred} {s : FS} {ρ : Env} {a : Act} {W : World} (hrep : Rep cx N D ρ s a W) : ∀ (rv : List ResultVar) (l : List SV), resVals T s rv = some l → ∀ acc : Array Value,
    ∃ vs : List Value, (rv.foldlM (fun (acc : Array Value) (x : ResultVar) => do pure (acc.push (← rvSem a.tmps x))) acc).run P W = .ok (acc ++ vs.toArray) W ∧ Rels ρ l vs
  | [], l, h, acc => by simp only [resVals, Option.some.injEq] at h; subst h; exact ⟨[], by simp, by simp [Rels]⟩
  | .tmp t :: rv, l, h, acc => by
    simp only [resVals] at h
    split at h
    · rename_i m hm
      simp only [Option.some.injEq] at h; subst h
      obtain ⟨vs, hr, hrel⟩ := resVals_ok hT hrep rv m hm (acc.push (a.tmps.getD t undef))
      refine ⟨a.tmps.getD t undef :: vs, ?_, by simp only [Rels]; exact ⟨hrep.sl t, hrel⟩⟩
      simp only [List.foldlM_cons, Sem.run_bind, rvSem, Sem.run_pure, Result.andThen_ok]
      refine Eq.trans hr ?_; simp
    · cases h
  | .cell c t :: rv, l, h, acc => by
    simp only [resVals] at h
    split at h
    · rename_i k off i hs hi
      split at h
      · rename_i own cells hb
        split at h
        · rename_i hl
          split at h
          · rename_i x m hx hm
            simp only [Option.some.injEq] at h; subst h
            obtain ⟨nf, d, z, h1, h2, h3, hie⟩ := conv_spec (hT t i hi)
            have hxr := hrep.sl c
            rw [hs] at hxr
            simp only [Rel] at hxr
            obtain ⟨b, o', m', hρ, hy⟩ := hxr
            have hbk := hrep.bk k
            rw [hb] at hbk
            rcases hbk.read with ⟨he, _⟩ | ⟨b', o'', m'', vs0, e1, ⟨e2, _⟩, _, e4⟩
            · rw [hρ] at he; cases he
            rw [hρ] at e1; cases e1
            rw [hie] at hx hl
            simp only at hx hl
            have hrr : Rels ρ ((cells.drop off).take nf.size) ((vs0.drop off).take nf.size) := Rels.take _ (Rels.drop _ e2)
            have hlen := hrr.length
            have hload : (loadVar t ⟨b, o' + off, none⟩).run P W = .ok (if isAggD d = true then .agg ((vs0.drop off).take nf.size).toArray else ((vs0.drop off).take nf.size).headD undef) W := by
              refine run_loadVar h1 h2 (by rw [← hlen]; exact hl) (fun hag hne => ?_) (fun j y hjy => ?_)
              · rw [hag] at hx
                rw [hne] at hlen
                have : (cells.drop off).take nf.size = [] := List.length_eq_zero_iff.1 (by simpa using hlen)
                rw [this] at hx; simp [mkV] at hx
              · have hj := (List.getElem?_eq_some_iff.1 hjy).1
                rw [List.getElem?_take_of_lt (by simp at hj; omega), List.getElem?_drop] at hjy
                have := e4 (off + j) y hjy
                rw [show o' + off + j = o' + (off + j) by omega]; exact this
            obtain ⟨vs, hr, hrel⟩ := resVals_ok hT hrep rv m hm (acc.push (if isAggD d = true then .agg ((vs0.drop off).take nf.size).toArray else ((vs0.drop off).take nf.size).headD undef))
            refine ⟨_ :: vs, ?_, by simp only [Rels]; exact ⟨mkV_rel hx hrr, hrel⟩⟩
            have hrv : (rvSem a.tmps (.cell c t)).run P W = .ok (if isAggD d = true then .agg ((vs0.drop off).take nf.size).toArray else ((vs0.drop off).take nf.size).headD undef) W := by
              simp only [rvSem, Sem.run_bind, hy, run_asAddr, Result.andThen_ok, hload]
            simp only [List.foldlM_cons, Sem.run_bind, hrv, Sem.run_pure, Result.andThen_ok]
            refine Eq.trans hr ?_; simp
          · cases h
        · cases h
      · cases h
    · cases h

theorem outBs_spec {ks : List Nat} {bk : Nat → BK} : ∀ (l : List Nat) (m : List BK), outBs ks bk l = some m → m.length = l.length ∧ ∀ (i : Nat) (y : BK), m[i]? = some y → ∃ k, l[i]? = some k ∧ outK ks (bk k) = some y
  | [], m, h => by simp only [outBs, Option.some.injEq] at h; subst h; simp
  | k :: l, m, h => by
    simp only [outBs] at h
    split at h
    · rename_i x m' hx hm
      simp only [Option.some.injEq] at h; subst h
      obtain ⟨h1, h2⟩ := outBs_spec l m' hm
      refine ⟨by simp [h1], fun i y hi => ?_⟩
      cases i with
      | zero => simp at hi; subst hi; exact ⟨k, by simp, hx⟩
      | succ i =>
        obtain ⟨k, e1, e2⟩ := h2 i y (by simpa using hi)
        exact ⟨k, by simpa using e1, e2⟩
    · cases h

theorem outMs_spec {R ms : List Nat} {bk : Nat → BK} : ∀ (n i : Nat) (m : List BK), outMs R ms bk i n = some m → m.length = n ∧ ∀ j y, m[j]? = some y → y = .un ∨ outK R (bk (i + j)) = some y
  | 0, i, m, h => by simp only [outMs, Option.some.injEq] at h; subst h; simp
  | n + 1, i, m, h => by
    simp only [outMs] at h
    split at h
    · rename_i x m' hx hm
      simp only [Option.some.injEq] at h; subst h
      obtain ⟨h1, h2⟩ := outMs_spec n (i + 1) m' hm
      refine ⟨by simp [h1], fun j y hj => ?_⟩
      cases j with
      | zero =>
        simp at hj; subst hj
        split at hx
        · exact .inr (by simpa using hx)
        · simp only [Option.some.injEq] at hx; exact .inl hx.symm
      | succ j =>
        rw [show i + (j + 1) = i + 1 + j by omega]
        exact h2 j y (by simpa using hj)
    · cases h

theorem outK_rep {R : List Nat} {ρ : Env} {M : Nat → Prop} {W : World} {j k : Nat} {x y : BK} (hj : R[j]? = some k) (h : outK R x = some y) (hp : x.pl) (hb : BRep ρ M W k x) : BRep (envOf ρ R) M W j y ∧ y.pl ∧ (y.own → x.own) := by
  have he : envOf ρ R j = ρ k := by simp only [envOf, hj]
  unfold outK at h
  split at h
  · simp only [Option.some.injEq] at h; subst h; exact ⟨trivial, trivial, fun h => h.elim⟩
  · simp only [Option.some.injEq] at h; subst h
    refine ⟨?_, hp, fun _ => trivial⟩
    rcases hb with ⟨q1, q2⟩ | ⟨b, vs, rest, ty, q1, q2, q3, q4⟩
    · exact .inl ⟨he.trans q1, q2⟩
    · exact .inr ⟨b, vs, rest, ty, he.trans q1, q2, Plain.congr hp q3, q4⟩
  · split at h
    · rename_i cells c' hc
      simp only [Option.some.injEq] at h; subst h
      refine ⟨?_, trivial, fun _ => trivial⟩
      rcases hb with ⟨q1, q2⟩ | ⟨b, vs, rest, ty, q1, q2, q3, q4⟩
      · subst q2
        simp only [renL, Option.some.injEq] at hc; subst hc
        exact .inl ⟨he.trans q1, rfl⟩
      · exact .inr ⟨b, vs, rest, ty, he.trans q1, q2, renL_rel _ _ _ hc q3, q4⟩
    · cases h
  · cases h

/-- At the return. -/
theorem fin_ok (hT : TOk P T) {fn : Func} {ms ks : List Nat} {s : LS} {res : SV} {nb mb : List BK} (h : fin T fn.results.toList cx.base ms ks s = some (res, nb, mb)) :
    GoodAt (bodyPost P fn (RR cx res nb mb)) .ret cx [] s := by
  intro ρ a W hrep
  unfold fin at h
  split at h
  · cases h
  · rename_i l hl
    split at h
    · rename_i res' nb' mb' hres hnb hmb
      split at h
      · rename_i hc
        simp only [Bool.and_eq_true, List.all_eq_true, decide_eq_true_eq] at hc
        simp only [Option.some.injEq, Prod.mk.injEq] at h
        obtain ⟨rfl, rfl, rfl⟩ := h
        obtain ⟨vs, hrun, hrel⟩ := resVals_ok hT hrep fn.results.toList l hl #[]
        have hmap : (fn.results.mapM (rvSem a.tmps)).run P W = .ok vs.toArray W := by
          rw [Array.mapM_eq_foldlM, ← Array.foldlM_toList]
          simp only [Array.empty_append] at hrun
          rw [← hrun]
          simp only [bind_pure_comp]
        have hresult : ∃ v, (results fn a.tmps).run P W = .ok v W ∧ Rel ρ (resOf l) v := by
          rw [results_eq]
          simp only [Sem.run_bind, hmap, Result.andThen_ok, Sem.run_pure]
          match l, vs, hrel with
          | [x], [y], hrel => simp only [Rels] at hrel; exact ⟨y, by simp, hrel.1⟩
          | [], [], _ => exact ⟨_, rfl, by simp only [resOf, Rel]; exact ⟨[], by simp, by simp [Rels]⟩⟩
          | x :: x' :: l', y :: y' :: vs', hrel => exact ⟨_, rfl, by simp only [resOf, Rel]; exact ⟨y :: y' :: vs', by simp, hrel⟩⟩
          | [], _ :: _, hrel => simp [Rels] at hrel
          | [_], [], hrel => simp [Rels] at hrel
          | [_], _ :: _ :: _, hrel => simp [Rels] at hrel
          | _ :: _ :: _, [], hrel => simp [Rels] at hrel
          | _ :: _ :: _, [_], hrel => simp [Rels] at hrel
        obtain ⟨v, hv, hvr⟩ := hresult
        obtain ⟨hol, hos⟩ := outBs_spec ks nb' hnb
        have hidx : ∀ j, (List.range cx.base ++ ks)[cx.base + j]? = ks[j]? := fun j => by
          rw [List.getElem?_append_right (by simp)]; simp
        have hidx0 : ∀ i, i < cx.base → (List.range cx.base ++ ks)[i]? = some i := fun i hi => by
          rw [List.getElem?_append_left (by simpa using hi)]; simp [hi]
        -- where each block of the post comes from
        have src : ∀ j, postB cx.base mb' nb' j = .un ∨ ∃ k, (List.range cx.base ++ ks)[j]? = some k ∧ outK (List.range cx.base ++ ks) (s.fs.bk k) = some (postB cx.base mb' nb' j) := fun j => by
          unfold postB
          split
          · rename_i hj
            cases hm : mb'[j]? with
            | none => exact .inl (by simp [List.getD_eq_getElem?_getD, hm])
            | some y =>
              rw [show mb'.getD j .un = y by simp [List.getD_eq_getElem?_getD, hm]]
              split at hmb
              · simp only [Option.some.injEq] at hmb; subst hmb; simp at hm
              · obtain ⟨_, h2⟩ := outMs_spec _ _ _ hmb
                have := h2 j y hm
                rw [Nat.zero_add] at this
                rcases this with h' | h'
                · exact .inl h'
                · exact .inr ⟨j, hidx0 j hj, h'⟩
          · rename_i hj
            cases hm : nb'[j - cx.base]? with
            | none => exact .inl (by simp [List.getD_eq_getElem?_getD, hm])
            | some y =>
              obtain ⟨k, h1, h2⟩ := hos (j - cx.base) y hm
              rw [show nb'.getD (j - cx.base) .un = y by simp [List.getD_eq_getElem?_getD, hm]]
              refine .inr ⟨k, ?_, h2⟩
              have := hidx (j - cx.base)
              rw [show cx.base + (j - cx.base) = j by omega] at this
              rw [this]; exact h1
        have inj : ∀ i j k, (List.range cx.base ++ ks)[i]? = some k → (List.range cx.base ++ ks)[j]? = some k → i = j := fun i j k h1 h2 => by
          have split : ∀ i, (List.range cx.base ++ ks)[i]? = some k → (i < cx.base ∧ i = k) ∨ (cx.base ≤ i ∧ ks[i - cx.base]? = some k ∧ cx.base ≤ k) := fun i h => by
            by_cases hi : i < cx.base
            · rw [hidx0 i hi] at h; cases h; exact .inl ⟨hi, rfl⟩
            · have := hidx (i - cx.base)
              rw [show cx.base + (i - cx.base) = i by omega] at this
              rw [this] at h
              exact .inr ⟨by omega, h, hc.2 k (List.mem_of_getElem? h)⟩
          rcases split i h1 with ⟨a1, a2⟩ | ⟨a1, a2, a3⟩ <;> rcases split j h2 with ⟨b1, b2⟩ | ⟨b1, b2, b3⟩
          · omega
          · omega
          · omega
          · have := nodupB_spec hc.1 _ _ k a2 b2; omega
        refine ⟨hrep.defs, v, hv, envOf ρ (List.range cx.base ++ ks), v, rfl, fun i hi => ?_, ren_rel _ _ _ hres hvr, hrep.kept, fun j => ?_, fun j => ?_, fun i j b m b' m' hij hi hj e1 e2 => ?_⟩
        · simp only [envOf, hidx0 i hi]
          exact (hrep.old i hi).1
        · rcases src j with h0 | ⟨k, h1, h2⟩
          · rw [h0]; trivial
          · exact (outK_rep h1 h2 (hrep.pl k) (hrep.bk k)).1
        · rcases src j with h0 | ⟨k, h1, h2⟩
          · rw [h0]; trivial
          · exact (outK_rep h1 h2 (hrep.pl k) (hrep.bk k)).2.1
        · have get : ∀ i, (postB cx.base mb' nb' i).own → ∃ k, (List.range cx.base ++ ks)[i]? = some k ∧ (s.fs.bk k).own := fun i hi => by
            rcases src i with h0 | ⟨k, h1, h2⟩
            · rw [h0] at hi; exact hi.elim
            · exact ⟨k, h1, (outK_rep h1 h2 (hrep.pl k) (hrep.bk k)).2.2 hi⟩
          obtain ⟨k1, g1, o1⟩ := get i hi
          obtain ⟨k2, g2, o2⟩ := get j hj
          simp only [envOf, g1] at e1
          simp only [envOf, g2] at e2
          refine hrep.apart k1 k2 b m b' m' (fun e => hij ?_) o1 o2 e1 e2
          subst e
          exact inj i j k1 g1 g2
      · cases h
    · cases h

def isLive : BK → Bool
  | .live _ _ _ => true
  | _ => false

mutual
def below (b : Nat) : SV → Bool
  | .p k _ => decide (k < b)
  | .s k _ _ _ => decide (k < b)
  | .f _ caps => belowL b caps
  | .a l => belowL b l
  | .t l => belowL b l
  | _ => true
def belowL (b : Nat) : List SV → Bool
  | [] => true
  | x :: l => below b x && belowL b l
end

mutual
theorem below_has {b k : Nat} : ∀ {x : SV}, below b x = true → x.has k → k < b
  | .u, _, h => by simp [SV.has] at h
  | .b _, _, h => by simp [SV.has] at h
  | .v _, _, h => by simp [SV.has] at h
  | .p j _, hb, h => by simp [below] at hb; simp [SV.has] at h; omega
  | .s j _ _ _, hb, h => by simp [below] at hb; simp [SV.has] at h; omega
  | .f _ caps, hb, h => by simp only [below] at hb; simp only [SV.has] at h; exact belowL_has hb h
  | .a l, hb, h => by simp only [below] at hb; simp only [SV.has] at h; exact belowL_has hb h
  | .t l, hb, h => by simp only [below] at hb; simp only [SV.has] at h; exact belowL_has hb h
theorem belowL_has {b k : Nat} : ∀ {l : List SV}, belowL b l = true → SV.hasl k l → k < b
  | [], _, h => by simp [SV.hasl] at h
  | x :: l, hb, h => by
    simp only [belowL, Bool.and_eq_true] at hb
    simp only [SV.hasl] at h
    rcases h with h | h
    · exact below_has hb.1 h
    · exact belowL_has hb.2 h
end

def belowB (b : Nat) : BK → Bool
  | .live _ false cells => belowL b cells
  | _ => true

def start (N : Nat) (args : List SV) (bs : List BK) : LS := { sl := args ++ List.replicate (N - args.length) (.v undef), bk := bs }

/-- The state at a function's start. -/
theorem start_rep {N : Nat} {args : List SV} {bs : List BK} {ρ : Env} {W : World} {vs : List Value} (hlen : args.length ≤ N) (hlive : (bs.all isLive && belowL bs.length args && bs.all (belowB bs.length)) = true)
    (hargs : Rels ρ args vs) (hbs : ∀ i, BRep ρ (callCx ρ W bs).mine W i (bs.getD i .un)) (hpl : ∀ i, (bs.getD i .un).pl)
    (hap : ∀ i j b n b' n', i ≠ j → (bs.getD i .un).own → (bs.getD j .un).own → ρ i = some (b, 0, n) → ρ j = some (b', 0, n') → b ≠ b') :
    Rep (callCx ρ W bs) (start N args bs).sl.length [] ρ (start N args bs).fs { tmps := vs.toArray ++ Array.replicate (N - vs.toArray.size) undef, defers := [] } W := by
  simp only [Bool.and_eq_true, List.all_eq_true] at hlive
  obtain ⟨⟨hl1, hl2⟩, hl3⟩ := hlive
  let cx : Cx := callCx ρ W bs
  have hvl := hargs.length
  have hslen : (start N args bs).sl.length = N := by simp [start]; omega
  have hbk : ∀ k, (start N args bs).fs.bk k = bs.getD k .un := fun k => rfl
  have hnun : ∀ k, k < bs.length → (start N args bs).fs.bk k ≠ .un := fun k hk => by
    rw [hbk]
    have := hl1 bs[k] (by simp)
    rw [show bs.getD k .un = bs[k] by simp [List.getD_eq_getElem?_getD, hk]]
    cases hx : bs[k] <;> rw [hx] at this <;> simp [isLive] at this
    simp
  have hrep : Rep cx (start N args bs).sl.length [] ρ (start N args bs).fs { tmps := vs.toArray ++ Array.replicate (N - vs.toArray.size) undef, defers := [] } W := by
    refine { defs := rfl, size := by rw [hslen]; simp; omega, sl := fun t => ?_, bk := fun k => ?_, apart := fun i j b m b' m' hij hi hj => ?_, wf1 := fun t k hk => ?_, wf2 := fun j k hk => ?_, kept := Kept.refl _ _, pl := fun k => (by rw [hbk]; exact hpl k), old := fun i hi => ⟨rfl, hnun i hi⟩ }
    · simp only [start, LS.fs, List.getD_eq_getElem?_getD]
      by_cases ht : t < args.length
      · rw [List.getElem?_append_left ht]
        obtain ⟨y, hy, hr⟩ := Rels.get t hargs (List.getElem?_eq_getElem ht)
        have : ({ tmps := vs.toArray ++ Array.replicate (N - vs.toArray.size) undef, defers := [] } : Act).tmps.getD t undef = y := by
          simp only [Array.getD_eq_getD_getElem?]
          rw [Array.getElem?_append_left (by simpa using (by omega : t < vs.length))]
          simp [hy]
        rw [this]
        simpa [List.getElem?_eq_getElem ht] using hr
      · rw [List.getElem?_append_right (by omega)]
        have : ({ tmps := vs.toArray ++ Array.replicate (N - vs.toArray.size) undef, defers := [] } : Act).tmps.getD t undef = undef := by
          simp only [Array.getD_eq_getD_getElem?]
          rw [Array.getElem?_append_right (by simp; omega)]
          cases hx : (Array.replicate (N - vs.toArray.size) undef)[t - vs.toArray.size]? with
          | none => rfl
          | some x => 
            have := (Array.getElem?_eq_some_iff.1 hx)
            obtain ⟨h1, h2⟩ := this
            simp at h2; simp [← h2]
        rw [this]
        cases hx : (List.replicate (N - args.length) (SV.v undef))[t - args.length]? with
        | none => simp [Rel]
        | some x =>
          have := List.mem_of_getElem? hx
          have := List.eq_of_mem_replicate this
          subst this; simp [Rel]
    · rw [hbk]; exact hbs k
    · rw [hbk] at hi hj
      exact hap i j b m b' m' hij hi hj
    · have : k < bs.length := by
        simp only [start, LS.fs, List.getD_eq_getElem?_getD] at hk
        by_cases ht : t < args.length
        · rw [List.getElem?_append_left ht, List.getElem?_eq_getElem ht] at hk
          exact belowL_has hl2 (hasl_iff.2 ⟨args[t], by simp, hk⟩)
        · rw [List.getElem?_append_right (by omega)] at hk
          cases hx : (List.replicate (N - args.length) (SV.v undef))[t - args.length]? with
          | none => rw [hx] at hk; simp [SV.has] at hk
          | some x =>
            have := List.eq_of_mem_replicate (List.mem_of_getElem? hx)
            subst this; rw [hx] at hk; simp [SV.has] at hk
      exact hnun k this
    · have : k < bs.length := by
        rw [hbk] at hk
        cases hx : bs[j]? with
        | none => simp [List.getD_eq_getElem?_getD, hx, BK.has] at hk
        | some x =>
          rw [show bs.getD j .un = x by simp [List.getD_eq_getElem?_getD, hx]] at hk
          have := hl3 x (List.mem_of_getElem? hx)
          have hp := hpl j
          rw [show bs.getD j .un = x by simp [List.getD_eq_getElem?_getD, hx]] at hp
          cases x <;> simp [BK.has] at hk
          rename_i o sy c
          cases sy with
          | true => exact (hp _ hk).elim
          | false =>
            simp only [belowB] at this
            exact belowL_has this hk
      exact hnun k this
  exact hrep

/-- **A function's contract.** -/
theorem con_of_good {f : Nat} {fn : Func} {c : Code} {args : List SV} {bs : List BK} {res : SV} {nb mb : List BK} (hf : P.funcs[f]? = some fn) (hb : fn.body = some c) (hent : Enters P f)
    (hlen : args.length ≤ fn.ntmps) (hlive : (bs.all isLive && belowL bs.length args && bs.all (belowB bs.length)) = true)
    (h : ∀ cx : Cx, cx.base = bs.length → Good P none n (bodyPost P fn (RR cx res nb mb)) cx [] [.c c] (start fn.ntmps args bs)) : Con P f args bs res nb mb := by
  refine ⟨hent, fun ρ W vs hargs hbs hpl hap => ?_⟩
  let cx : Cx := callCx ρ W bs
  refine (calls_of_wp (R := RR cx res nb mb) hf hb ?_)
  have hrep := start_rep hlen hlive hargs hbs hpl hap
  have := h cx rfl ρ _ W hrep
  simp only [cont] at this
  exact (wpIn_wide (n := n)).1 this

end
end Go.Aw

namespace Go.Aw
open Go.RowKit
set_option linter.unusedVariables false
set_option linter.unusedSimpArgs false

theorem ent {P : Program} {f : Nat} {fn : Func} {c : Code} (hf : P.funcs[f]? = some fn) (hname : (fn.name == "runtime.NumGoroutine") = false) (hb : fn.body = some c) : Enters P f := Go.Proofs.enters_of hf hname hb

/-- A run that comes to a return: the result, the new blocks, what is owed. -/
def retOf (T : Nat → Option TI) (rv : List ResultVar) (base : Nat) (ms ks : List Nat) : Option (Out × List Ob × List Or) → Option (SV × List BK × List BK × List Ob)
  | some (.ret s, obs, []) => match fin T rv base ms ks s with
    | some (res, nb, mb) => some (res, nb, mb, obs)
    | none => none
  | _ => none

def renSl (R ts : List Nat) : Nat → List SV → Option (List SV)
  | _, [] => some []
  | t, x :: l => match (if ts.contains t then ren R x else some .u), renSl R ts (t + 1) l with
    | some y, some m => some (y :: m)
    | _, _ => none

def renK (R : List Nat) : BK → Option BK
  | .live own true cells => some (.live own true cells)
  | .live own false cells => match renL R cells with
    | some l => some (.live own false l)
    | none => none
  | .dead => some .dead
  | .un => none

def renKs (R : List Nat) (bk : Nat → BK) : List Nat → Option (List BK)
  | [] => some []
  | k :: l => match renK R (bk k), renKs R bk l with
    | some x, some m => some (x :: m)
    | _, _ => none

/-- The state with the slots ts and the blocks ks (behind those that were handed over) alone. -/
def shrink (base : Nat) (ts ks : List Nat) (s : LS) : Option LS :=
  let R := List.range base ++ ks
  match renSl R ts 0 s.sl, renKs R s.fs.bk R with
  | some sl, some bk => if nodupB R then some ⟨sl, bk⟩ else none
  | _, _ => none

def enterOf (base : Nat) (ts ks : List Nat) : Option (Out × List Ob × List Or) → Option (Code × List K × LS × List Ob)
  | some (.enter body k s, obs, []) => match shrink base ts ks s with
    | some s' => some (body, k, s', obs)
    | none => none
  | _ => none

def backOf (base : Nat) (ts ks : List Nat) : Option (Out × List Ob × List Or) → Option (Code × Nat × List K × LS × List Ob)
  | some (.back body m k s, obs, []) => match shrink base ts ks s with
    | some s' => some (body, m, k, s', obs)
    | none => none
  | _ => none

section
variable {P : Program} {T : Nat → Option TI} {cx : Cx} {D : List Deferred} {r : Option Nat} {n : Nat} {Q : Exit → Act → World → Prop}

theorem renSl_spec {ρ : Env} {R ts : List Nat} : ∀ (l m : List SV) (t : Nat), renSl R ts t l = some m → m.length = l.length ∧ ∀ (i : Nat) (y : SV), m[i]? = some y → y = .u ∨ ∃ x, l[i]? = some x ∧ ren R x = some y
  | [], m, t, h => by simp only [renSl, Option.some.injEq] at h; subst h; simp
  | x :: l, m, t, h => by
    simp only [renSl] at h
    split at h
    · rename_i y m' hy hm
      simp only [Option.some.injEq] at h; subst h
      obtain ⟨h1, h2⟩ := renSl_spec (ρ := ρ) l m' (t + 1) hm
      refine ⟨by simp [h1], fun i z hi => ?_⟩
      cases i with
      | zero =>
        simp at hi; subst hi
        split at hy
        · exact .inr ⟨x, by simp, hy⟩
        · simp at hy; exact .inl hy.symm
      | succ i =>
        rcases h2 i z (by simpa using hi) with h' | ⟨x', h', h''⟩
        · exact .inl h'
        · exact .inr ⟨x', by simpa using h', h''⟩
    · cases h

theorem renKs_spec {R : List Nat} {bk : Nat → BK} : ∀ (l : List Nat) (m : List BK), renKs R bk l = some m → m.length = l.length ∧ ∀ (i : Nat) (y : BK), m[i]? = some y → ∃ k, l[i]? = some k ∧ renK R (bk k) = some y
  | [], m, h => by simp only [renKs, Option.some.injEq] at h; subst h; simp
  | k :: l, m, h => by
    simp only [renKs] at h
    split at h
    · rename_i x m' hx hm
      simp only [Option.some.injEq] at h; subst h
      obtain ⟨h1, h2⟩ := renKs_spec l m' hm
      refine ⟨by simp [h1], fun i y hi => ?_⟩
      cases i with
      | zero => simp at hi; subst hi; exact ⟨k, by simp, hx⟩
      | succ i =>
        obtain ⟨k', e1, e2⟩ := h2 i y (by simpa using hi)
        exact ⟨k', by simpa using e1, e2⟩
    · cases h

mutual
theorem ren_has {ks : List Nat} {k : Nat} : ∀ (x y : SV), ren ks x = some y → y.has k → k < ks.length
  | .u, y, h, hk => by simp only [ren, Option.some.injEq] at h; subst h; simp [SV.has] at hk
  | .b x, y, h, hk => by simp only [ren, Option.some.injEq] at h; subst h; simp [SV.has] at hk
  | .v x, y, h, hk => by simp only [ren, Option.some.injEq] at h; subst h; simp [SV.has] at hk
  | .p j off, y, h, hk => by
    simp only [ren] at h
    split at h
    · rename_i i hi; simp only [Option.some.injEq] at h; subst h
      simp only [SV.has] at hk; subst hk
      exact (List.getElem?_eq_some_iff.1 (idxOf_spec hi)).1
    · cases h
  | .s j off len es, y, h, hk => by
    simp only [ren] at h
    split at h
    · rename_i i hi; simp only [Option.some.injEq] at h; subst h
      simp only [SV.has] at hk; subst hk
      exact (List.getElem?_eq_some_iff.1 (idxOf_spec hi)).1
    · cases h
  | .f g caps, y, h, hk => by
    simp only [ren] at h
    split at h
    · rename_i l hl; simp only [Option.some.injEq] at h; subst h
      exact renL_has caps l hl (by simpa [SV.has] using hk)
    · cases h
  | .a l', y, h, hk => by
    simp only [ren] at h
    split at h
    · rename_i l hl; simp only [Option.some.injEq] at h; subst h
      exact renL_has l' l hl (by simpa [SV.has] using hk)
    · cases h
  | .t l', y, h, hk => by
    simp only [ren] at h
    split at h
    · rename_i l hl; simp only [Option.some.injEq] at h; subst h
      exact renL_has l' l hl (by simpa [SV.has] using hk)
    · cases h
theorem renL_has {ks : List Nat} {k : Nat} : ∀ (l m : List SV), renL ks l = some m → SV.hasl k m → k < ks.length
  | [], m, h, hk => by simp only [renL, Option.some.injEq] at h; subst h; simp [SV.hasl] at hk
  | x :: l, m, h, hk => by
    simp only [renL] at h
    split at h
    · rename_i y m' hy hm
      simp only [Option.some.injEq] at h; subst h
      simp only [SV.hasl] at hk
      rcases hk with hk | hk
      · exact ren_has x y hy hk
      · exact renL_has l m' hm hk
    · cases h
end

theorem renK_cases {R : List Nat} {x y : BK} (hx : renK R x = some y) (hp : x.pl) : (x = .dead ∧ y = .dead) ∨ ∃ own sym cells l, x = .live own sym cells ∧ y = .live own sym l ∧ (∀ (ρ : Env) vs, Rels ρ cells vs → Rels (envOf ρ R) l vs) ∧ (cells = [] → l = []) ∧ (∀ k, SV.hasl k l → k < R.length) ∧ y.pl := by
  cases x with
  | un => simp [renK] at hx
  | dead => simp only [renK, Option.some.injEq] at hx; exact .inl ⟨rfl, hx.symm⟩
  | live own sym cells =>
    cases sym with
    | true =>
      simp only [renK, Option.some.injEq] at hx; subst hx
      exact .inr ⟨own, true, cells, cells, rfl, rfl, fun ρ vs h => Plain.congr hp h, id, fun k hk => (hp k hk).elim, hp⟩
    | false =>
      simp only [renK] at hx
      split at hx
      · rename_i l hl
        simp only [Option.some.injEq] at hx; subst hx
        exact .inr ⟨own, false, cells, l, rfl, rfl, fun ρ vs h => renL_rel cells l vs hl h, fun e => by subst e; simp only [renL, Option.some.injEq] at hl; exact hl.symm, fun k hk => renL_has cells l hl hk, trivial⟩
      · cases hx

theorem renK_rep {ρ : Env} {R : List Nat} {M : Nat → Prop} {W : World} {k i : Nat} {x y : BK} (hk : R[i]? = some k) (hx : renK R x = some y) (hp : x.pl) (h : BRep ρ M W k x) : BRep (envOf ρ R) M W i y := by
  have he : envOf ρ R i = ρ k := by unfold envOf; rw [hk]
  rcases renK_cases hx hp with ⟨rfl, rfl⟩ | ⟨own, sym, cells, l, rfl, rfl, hr, hn, _, _⟩
  · trivial
  · cases own with
    | true =>
      rcases h with ⟨h1, h2⟩ | ⟨b, vs, rest, ty, h1, h2, h3, h4⟩
      · exact .inl ⟨he.trans h1, hn h2⟩
      · exact .inr ⟨b, vs, rest, ty, he.trans h1, h2, hr ρ vs h3, h4⟩
    | false =>
      rcases h with ⟨h1, h2⟩ | ⟨b, o, m, vs, h1, h2, h3, h4⟩
      · exact .inl ⟨he.trans h1, hn h2⟩
      · exact .inr ⟨b, o, m, vs, he.trans h1, h2, hr ρ vs h3, h4⟩

theorem renK_own {R : List Nat} {x y : BK} (hx : renK R x = some y) (hp : x.pl) (h : y.own) : x.own := by
  rcases renK_cases hx hp with ⟨rfl, rfl⟩ | ⟨own, sym, cells, l, rfl, rfl, _⟩
  · exact h
  · cases own <;> exact h

theorem renK_ne {R : List Nat} {x y : BK} (hx : renK R x = some y) (hp : x.pl) : y ≠ .un ∧ y.pl := by
  rcases renK_cases hx hp with ⟨rfl, rfl⟩ | ⟨own, sym, cells, l, rfl, rfl, _, _, _, h⟩
  · exact ⟨by simp, trivial⟩
  · exact ⟨by simp, h⟩

theorem Rep.shrink {N : Nat} {ρ : Env} {a : Act} {W : World} {s s' : LS} {ts ks : List Nat} (h : Rep cx N D ρ s.fs a W) (hs : Aw.shrink cx.base ts ks s = some s') :
    Rep cx N D (envOf ρ (List.range cx.base ++ ks)) s'.fs a W ∧ s'.sl.length = s.sl.length := by
  unfold Aw.shrink at hs
  simp only at hs
  split at hs
  · rename_i sl bk hsl hbk
    split at hs
    · rename_i hnd
      simp only [Option.some.injEq] at hs
      subst hs
      obtain ⟨l1, l2⟩ := renSl_spec (ρ := ρ) _ _ _ hsl
      obtain ⟨b1, b2⟩ := renKs_spec _ _ hbk
      have hnun : ∀ j, j < (List.range cx.base ++ ks).length → bk.getD j .un ≠ .un := fun j hj => by
        have hlt : j < bk.length := by rw [b1]; exact hj
        obtain ⟨k, _, hk⟩ := b2 j bk[j] (by simp [hlt])
        rw [show bk.getD j .un = bk[j] by simp [List.getD_eq_getElem?_getD, hlt]]
        exact (renK_ne hk (h.pl k)).1
      have get : ∀ j, (∃ k, (List.range cx.base ++ ks)[j]? = some k ∧ renK (List.range cx.base ++ ks) (s.fs.bk k) = some (bk.getD j .un)) ∨ bk.getD j .un = .un := fun j => by
        cases hj : bk[j]? with
        | none => exact .inr (by simp [List.getD_eq_getElem?_getD, hj])
        | some y =>
          obtain ⟨k, h1, h2⟩ := b2 j y hj
          exact .inl ⟨k, h1, by rw [show bk.getD j .un = y by simp [List.getD_eq_getElem?_getD, hj]]; exact h2⟩
      have hplg : ∀ j, (bk.getD j .un).pl := fun j => by
        rcases get j with ⟨k, _, h2⟩ | h0
        · exact (renK_ne h2 (h.pl k)).2
        · rw [h0]; trivial
      refine ⟨{ defs := h.defs, size := h.size, sl := fun t => ?_, bk := fun j => ?_, apart := fun i j b m b' m' hij hi hj e1 e2 => ?_, wf1 := fun t k hk => ?_, wf2 := fun j k hk => ?_, kept := h.kept, pl := hplg, old := fun i hi => ⟨?_, ?_⟩ }, l1⟩
      · simp only [LS.fs]
        cases ht : sl[t]? with
        | none => simp [List.getD_eq_getElem?_getD, ht, Rel]
        | some y =>
          rw [show sl.getD t .u = y by simp [List.getD_eq_getElem?_getD, ht]]
          rcases l2 t y ht with rfl | ⟨x, hx, hr⟩
          · simp [Rel]
          · have := h.sl t
            simp only [LS.fs, List.getD_eq_getElem?_getD, hx, Option.getD_some] at this
            exact ren_rel x y _ hr this
      · simp only [LS.fs]
        rcases get j with ⟨k, h1, h2⟩ | h0
        · exact renK_rep h1 h2 (h.pl k) (h.bk k)
        · rw [h0]; trivial
      · simp only [LS.fs] at hi hj
        rcases get i with ⟨k1, g1, g2⟩ | h0
        · rcases get j with ⟨k2, q1, q2⟩ | h0
          · simp only [envOf, g1] at e1
            simp only [envOf, q1] at e2
            refine h.apart k1 k2 b m b' m' (fun e => hij ?_) (renK_own g2 (h.pl k1) hi) (renK_own q2 (h.pl k2) hj) e1 e2
            subst e
            exact nodupB_spec hnd i j k1 g1 q1
          · rw [h0] at hj; exact hj.elim
        · rw [h0] at hi; exact hi.elim
      · simp only [LS.fs] at hk
        cases ht : sl[t]? with
        | none => rw [List.getD_eq_getElem?_getD, ht] at hk; simp [SV.has] at hk
        | some y =>
          rw [show sl.getD t .u = y by simp [List.getD_eq_getElem?_getD, ht]] at hk
          rcases l2 t y ht with rfl | ⟨x, hx, hr⟩
          · simp [SV.has] at hk
          · exact hnun k (ren_has x y hr hk)
      · simp only [LS.fs] at hk
        rcases get j with ⟨k1, g1, g2⟩ | h0
        · refine hnun k ?_
          rcases renK_cases g2 (h.pl k1) with ⟨e1, e2⟩ | ⟨own, sym, cells, l, e1, e2, _, _, hl, _⟩
          · rw [e2] at hk; exact hk.elim
          · rw [e2] at hk; exact hl k hk
        · rw [h0] at hk; exact hk.elim
      · have : (List.range cx.base ++ ks)[i]? = some i := by
          rw [List.getElem?_append_left (by simpa using hi)]; simp [hi]
        simp only [envOf, this]
        exact (h.old i hi).1
      · simp only [LS.fs]
        exact hnun i (by simp; omega)
    · cases hs
  · cases hs

theorem good_shrink {k : List K} {s s' : LS} {ts ks : List Nat} {base : Nat} (hb : cx.base = base) (hs : Aw.shrink base ts ks s = some s') (h : Good P r n Q cx D k s') : Good P r n Q cx D k s := by
  subst hb
  intro ρ a W hrep
  obtain ⟨h1, h2⟩ := hrep.shrink hs
  exact h _ a W (by rw [h2]; exact h1)

/-- Where a loop stands in a function's code: its body, and what is to be done behind it. -/
def loopAt : List Nat → List Nat → Code → List K → Option (Code × List K)
  | p, ms, .seq a b, k => match p with
    | 0 :: p => loopAt p ms a (.c b :: k)
    | _ :: p => loopAt p ms b k
    | [] => none
  | p, ms, .block id c, k => loopAt p ms c (.b id :: k)
  | p, ms, .cond _ a b, k => match p with
    | 0 :: p => loopAt p ms a k
    | _ :: p => loopAt p ms b k
    | [] => none
  | p, ms, .loop body, k => match p, ms with
    | [], _ => some (body, k)
    | _ :: p, m :: ms => loopAt p ms body (.l body m :: k)
    | _ :: _, [] => none
  | _, _, _, _ => none

end
end Go.Aw

namespace Go.Aw
open Go.RowKit
set_option linter.unusedVariables false
set_option linter.unusedSimpArgs false

section
variable {P : Program} {T : Nat → Option TI} {cx : Cx} {N : Nat} {D : List Deferred} {ρ : Env} {s : FS} {a : Act} {W : World}

/-- A name for no block. -/
theorem Rep.none (h : Rep cx N D ρ s a W) {k : Nat} (hk : s.bk k = .un) : Rep cx N D (fun j => if j = k then Option.none else ρ j) ⟨s.sl, fun j => if j = k then .live true true [] else s.bk j⟩ a W := by
  have hne : ∀ j, s.bk j ≠ .un → (if j = k then Option.none else ρ j) = ρ j := fun j hj => if_neg (fun e => hj (by rw [e]; exact hk))
  have hun : ∀ j, s.bk j ≠ .un → (if j = k then BK.live true true [] else s.bk j) ≠ .un := fun j hj => by
    split
    · simp
    · exact hj
  have hpl : ∀ j, (if j = k then BK.live true true [] else s.bk j).pl := fun j => by
    split
    · intro i hi; simp [SV.hasl] at hi
    · exact h.pl j
  refine { pl := hpl, defs := h.defs, size := h.size, sl := fun t => Rel.congr _ _ (fun j hj => hne j (h.wf1 t j hj)) (h.sl t), bk := fun j => ?_, apart := fun i j b n b' n' hij hi hj e1 e2 => ?_, wf1 := fun t j hj => hun j (h.wf1 t j hj), wf2 := fun i j hj => ?_, kept := h.kept, old := fun i hi => ⟨(hne i (h.old i hi).2).trans (h.old i hi).1, hun i (h.old i hi).2⟩ }
  · by_cases hj : j = k
    · subst hj; simp only [if_true]; exact .inl ⟨by simp, rfl⟩
    · simp only [hj, if_false]
      exact BRep.congr (by simp [hj]) (fun i hi => hne i (h.wf2 j i hi)) (h.bk j)
  · by_cases hik : i = k
    · simp [hik] at e1
    · by_cases hjk : j = k
      · simp [hjk] at e2
      · simp only [hik, hjk, if_false] at hi hj e1 e2
        exact h.apart i j b n b' n' hij hi hj e1 e2
  · by_cases hik : i = k
    · simp [hik, BK.has, SV.hasl] at hj
    · simp only [hik, if_false] at hj
      exact hun j (h.wf2 i j hj)

/-- The same, said in other words. -/
theorem Rep.sub (h : Rep cx N D ρ s a W) (s' : FS) (hsl : ∀ t y, Rel ρ (s.sl t) y → Rel ρ (s'.sl t) y) (hbk : ∀ k, BRep ρ cx.mine W k (s.bk k) → BRep ρ cx.mine W k (s'.bk k)) (hown : ∀ k, (s'.bk k).own → (s.bk k).own)
    (hun : ∀ k, s.bk k ≠ .un → s'.bk k ≠ .un) (hw1 : ∀ t k, (s'.sl t).has k → s'.bk k ≠ .un) (hw2 : ∀ j k, (s'.bk j).has k → s'.bk k ≠ .un) (hpl : ∀ k, (s'.bk k).pl) : Rep cx N D ρ s' a W :=
  { pl := hpl, defs := h.defs, size := h.size, sl := fun t => hsl t _ (h.sl t), bk := fun k => hbk k (h.bk k), apart := fun i j b n b' n' hij hi hj => h.apart i j b n b' n' hij (hown i hi) (hown j hj), wf1 := hw1, wf2 := hw2, kept := h.kept, old := fun i hi => ⟨(h.old i hi).1, hun i (h.old i hi).2⟩ }

theorem Rels.set {l : List SV} {m : List Value} {i : Nat} {x x' : SV} (h : Rels ρ l m) (hx : l[i]? = some x) (hs : ∀ y, Rel ρ x y → Rel ρ x' y) : Rels ρ (l.set i x') m := by
  induction l generalizing m i with
  | nil => simp at hx
  | cons z l ih =>
    cases m with
    | nil => simp [Rels] at h
    | cons y m =>
      simp only [Rels] at h
      cases i with
      | zero => simp at hx; subst hx; simp only [List.set_cons_zero, Rels]; exact ⟨hs y h.1, h.2⟩
      | succ i => simp at hx; simp only [List.set_cons_succ, Rels]; exact ⟨h.1, ih h.2 hx⟩

theorem hasl_set {k i : Nat} {x : SV} {l : List SV} (h : SV.hasl k (l.set i x)) : SV.hasl k l ∨ x.has k := by
  rw [hasl_iff] at h
  obtain ⟨y, hy, hk⟩ := h
  rcases List.mem_or_eq_of_mem_set hy with hy | rfl
  · exact .inl (hasl_iff.2 ⟨y, hy, hk⟩)
  · exact .inr hk

inductive Adj where
  | slot (t es : Nat)
  | cell (k i es : Nat)
  | sym (k : Nat) (b : Bool)
  | kill (k : Nat)

def adj1 : Adj → LS → Option LS
  | .slot t es, s => match s.sl[t]? with
    | some (.v (.slice none 0 0)) => some ⟨s.sl.set t (.s s.bk.length 0 0 es), s.bk ++ [.live true true []]⟩
    | _ => none
  | .cell k i es, s => match s.bk[k]? with
    | some (.live own false cells) => match cells[i]? with
      | some (.v (.slice none 0 0)) => some ⟨s.sl, s.bk.set k (.live own false (cells.set i (.s s.bk.length 0 0 es))) ++ [.live true true []]⟩
      | _ => none
    | _ => none
  | .sym k b, s => match s.bk[k]? with
    | some (.live own _ cells) => if (!b || cells.all SV.plain) = true then some ⟨s.sl, s.bk.set k (.live own b cells)⟩ else none
    | _ => none
  | .kill k, s => match s.bk[k]? with
    | some (.live own _ cells) => some ⟨s.sl, s.bk.set k .dead⟩
    | _ => none

def adjs : List Adj → LS → Option LS
  | [], s => some s
  | x :: l, s => match adj1 x s with
    | some s => adjs l s
    | none => none

theorem getD_append_un {l : List BK} {x : BK} {j : Nat} : (l ++ [x]).getD j .un = if j = l.length then x else l.getD j .un := by
  simp only [List.getD_eq_getElem?_getD]
  by_cases hj : j = l.length
  · subst hj; simp
  · rw [if_neg hj]
    by_cases hlt : j < l.length
    · rw [List.getElem?_append_left hlt]
    · rw [List.getElem?_eq_none (by simp; omega), List.getElem?_eq_none (by omega)]

theorem getD_set_un {l : List BK} {k j : Nat} {x : BK} (hk : k < l.length) : (l.set k x).getD j .un = if j = k then x else l.getD j .un := by
  simp only [List.getD_eq_getElem?_getD, List.getElem?_set]
  by_cases hj : j = k
  · subst hj; simp [hk]
  · rw [if_neg hj, if_neg (fun e => hj e.symm)]

theorem adj1_ok {s s' : LS} {x : Adj} (h : adj1 x s = some s') (hr : Rep cx N D ρ s.fs a W) : ∃ ρ', Rep cx N D ρ' s'.fs a W ∧ s'.sl.length = s.sl.length := by
  have hfree : s.fs.bk s.bk.length = .un := getD_len (Nat.le_refl _)
  cases x with
  | slot t es =>
    simp only [adj1] at h
    split at h
    · rename_i ht
      simp only [Option.some.injEq] at h; subst h
      have h1 := hr.none hfree
      refine ⟨_, h1.sub _ (fun u y hy => ?_) (fun k hk => ?_) (fun k hk => ?_) (fun k hk => ?_) (fun u k hk => ?_) (fun j k hk => ?_) (fun k => ?_), by simp⟩
      · simp only [LS.fs, List.getD_eq_getElem?_getD, List.getElem?_set] at hy ⊢
        by_cases hu : t = u
        · subst hu
          have hlt := (List.getElem?_eq_some_iff.1 ht).1
          rw [ht] at hy
          simp only [Option.getD_some, Rel] at hy
          subst hy
          simp [hlt, Rel]
        · simpa [hu] using hy
      · simp only [LS.fs, getD_append_un] at hk ⊢
        exact hk
      · simp only [LS.fs, getD_append_un] at hk ⊢
        exact hk
      · simp only [LS.fs, getD_append_un] at hk ⊢
        exact hk
      · simp only [LS.fs, getD_append_un]
        simp only [LS.fs, List.getD_eq_getElem?_getD, List.getElem?_set] at hk
        by_cases hu : t = u
        · subst hu
          have hlt := (List.getElem?_eq_some_iff.1 ht).1
          simp [hlt, SV.has] at hk
          rw [if_pos hk.symm]; simp
        · simp only [hu, if_false] at hk
          refine h1.wf1 u k ?_
          simp only [LS.fs, List.getD_eq_getElem?_getD]
          exact hk
      · simp only [LS.fs, getD_append_un] at hk ⊢
        have := h1.wf2 j k
        simp only [LS.fs] at this
        exact this hk
      · simp only [LS.fs, getD_append_un]
        exact h1.pl k
    · cases h
  | cell k0 i es =>
    simp only [adj1] at h
    split at h
    · rename_i own cells hb
      split at h
      · rename_i hi
        simp only [Option.some.injEq] at h; subst h
        have h1 := hr.none hfree
        have hlt := (List.getElem?_eq_some_iff.1 hb).1
        have hk0 : s.bk.getD k0 .un = .live own false cells := by simp [List.getD_eq_getElem?_getD, hb]
        have hg : ∀ j, (s.bk.set k0 (.live own false (cells.set i (.s s.bk.length 0 0 es))) ++ [BK.live true true []]).getD j .un = if j = s.bk.length then .live true true [] else if j = k0 then .live own false (cells.set i (.s s.bk.length 0 0 es)) else s.bk.getD j .un := fun j => by
          rw [getD_append_un, List.length_set, getD_set_un hlt]
        have hun : ∀ k, (if k = s.bk.length then BK.live true true [] else s.bk.getD k .un) ≠ .un → (if k = s.bk.length then BK.live true true [] else if k = k0 then .live own false (cells.set i (.s s.bk.length 0 0 es)) else s.bk.getD k .un) ≠ .un := fun k hk => by
          by_cases h' : k = s.bk.length
          · rw [if_pos h']; simp
          · rw [if_neg h'] at hk ⊢
            by_cases h'' : k = k0
            · rw [if_pos h'']; simp
            · rw [if_neg h'']; exact hk
        have hsub : ∀ y, Rel (fun j => if j = s.bk.length then Option.none else ρ j) (.v (.slice Option.none 0 0)) y → Rel (fun j => if j = s.bk.length then Option.none else ρ j) (.s s.bk.length 0 0 es) y := fun y hy => by
          simp only [Rel] at hy ⊢; subst hy; simp
        refine ⟨_, h1.sub _ (fun u y hy => hy) (fun k hk => ?_) (fun k hk => ?_) (fun k hk => ?_) (fun u k hk => ?_) (fun j k hk => ?_) (fun k => ?_), rfl⟩
        · simp only [LS.fs] at hk ⊢
          rw [hg]
          by_cases h' : k = s.bk.length
          · simp only [h', if_true] at hk ⊢; exact hk
          · simp only [h', if_false] at hk ⊢
            by_cases h'' : k = k0
            · subst h''
              rw [hk0] at hk
              simp only [if_true]
              cases own with
              | true =>
                rcases hk with ⟨q1, q2⟩ | ⟨b, vs, rest, ty, q1, q2, q3, q4⟩
                · rw [q2] at hi; simp at hi
                · exact .inr ⟨b, vs, rest, ty, q1, q2, q3.set hi hsub, q4⟩
              | false =>
                rcases hk with ⟨q1, q2⟩ | ⟨b, o, n, vs, q1, q2, q3, q4⟩
                · rw [q2] at hi; simp at hi
                · exact .inr ⟨b, o, n, vs, q1, q2, q3.set hi hsub, q4⟩
            · simp only [h'', if_false]; exact hk
        · simp only [LS.fs] at hk ⊢
          rw [hg] at hk
          by_cases h' : k = s.bk.length
          · simp only [h', if_true]; trivial
          · simp only [h', if_false] at hk ⊢
            by_cases h'' : k = k0
            · subst h''; simp only [if_true] at hk; rw [hk0]; cases own <;> exact hk
            · simp only [h'', if_false] at hk; exact hk
        · simp only [LS.fs] at hk ⊢
          rw [hg]; exact hun k hk
        · simp only [LS.fs] at hk ⊢
          rw [hg]; exact hun k (h1.wf1 u k hk)
        · simp only [LS.fs] at hk ⊢
          rw [hg] at hk ⊢
          refine hun k ?_
          by_cases h' : j = s.bk.length
          · simp [h', BK.has, SV.hasl] at hk
          · simp only [h', if_false] at hk
            by_cases h'' : j = k0
            · subst h''
              simp only [if_true, BK.has] at hk
              rcases hasl_set hk with hk | hk
              · refine h1.wf2 j k ?_
                simp only [LS.fs, h', if_false, hk0, BK.has]; exact hk
              · simp only [SV.has] at hk; rw [if_pos hk.symm]; simp
            · simp only [h'', if_false] at hk
              refine h1.wf2 j k ?_
              simp only [LS.fs, h', if_false]; exact hk
        · simp only [LS.fs]
          rw [hg]
          have := h1.pl k
          simp only [LS.fs] at this
          by_cases h' : k = s.bk.length
          · simp only [h', if_true] at this ⊢; exact this
          · simp only [h', if_false] at this ⊢
            by_cases h'' : k = k0
            · simp only [h'', if_true]; trivial
            · simp only [h'', if_false]; exact this
      · cases h
    · cases h
  | sym k0 b0 =>
    simp only [adj1] at h
    split at h
    · rename_i own sym cells hb
      split at h
      case isFalse => cases h
      rename_i hpb
      simp only [Option.some.injEq] at h; subst h
      have hlt := (List.getElem?_eq_some_iff.1 hb).1
      have hk0 : s.bk.getD k0 .un = .live own sym cells := by simp [List.getD_eq_getElem?_getD, hb]
      have hun : ∀ k, s.bk.getD k .un ≠ .un → (if k = k0 then BK.live own b0 cells else s.bk.getD k .un) ≠ .un := fun k hk => by
        split
        · simp
        · exact hk
      refine ⟨ρ, hr.sub _ (fun u y hy => hy) (fun k hk => ?_) (fun k hk => ?_) (fun k hk => ?_) (fun u k hk => ?_) (fun j k hk => ?_) (fun k => ?_), rfl⟩
      · simp only [LS.fs] at hk ⊢
        rw [getD_set_un hlt]
        by_cases h'' : k = k0
        · subst h''; rw [hk0] at hk; simp only [if_true]; cases own <;> exact hk
        · simp only [h'', if_false]; exact hk
      · simp only [LS.fs] at hk ⊢
        rw [getD_set_un hlt] at hk
        by_cases h'' : k = k0
        · subst h''; simp only [if_true] at hk; rw [hk0]; cases own <;> exact hk
        · simp only [h'', if_false] at hk; exact hk
      · simp only [LS.fs] at hk ⊢
        rw [getD_set_un hlt]; exact hun k hk
      · simp only [LS.fs] at hk ⊢
        rw [getD_set_un hlt]; exact hun k (hr.wf1 u k hk)
      · simp only [LS.fs] at hk ⊢
        rw [getD_set_un hlt] at hk ⊢
        refine hun k (hr.wf2 j k ?_)
        simp only [LS.fs]
        by_cases h'' : j = k0
        · subst h''; simp only [if_true] at hk; rw [hk0]; exact hk
        · simp only [h'', if_false] at hk; exact hk
      · simp only [LS.fs]
        rw [getD_set_un hlt]
        split
        · cases b0 with
          | false => trivial
          | true => exact plain_all (by simpa using hpb)
        · exact hr.pl k
    · cases h
  | kill k0 =>
    simp only [adj1] at h
    split at h
    · rename_i own sym cells hb
      simp only [Option.some.injEq] at h; subst h
      have hlt := (List.getElem?_eq_some_iff.1 hb).1
      have hk0 : s.fs.bk k0 ≠ .un := by simp [LS.fs, List.getD_eq_getElem?_getD, hb]
      have h1 := hr.kill k0 hk0
      refine ⟨ρ, ?_, rfl⟩
      have e : s.fs.app none { val := .u, ups := [(k0, .dead)] } = (⟨s.sl, s.bk.set k0 .dead⟩ : LS).fs := by
        simp only [FS.app, LS.fs, upds]
        congr 1
        funext k
        rw [getD_set_un hlt]
      rw [← e]; exact h1
    · cases h

theorem adjs_ok : ∀ (l : List Adj) {s s' : LS} {ρ : Env}, adjs l s = some s' → Rep cx N D ρ s.fs a W → ∃ ρ', Rep cx N D ρ' s'.fs a W ∧ s'.sl.length = s.sl.length
  | [], s, s', ρ, h, hr => by simp only [adjs, Option.some.injEq] at h; subst h; exact ⟨ρ, hr, rfl⟩
  | x :: l, s, s', ρ, h, hr => by
    simp only [adjs] at h
    split at h
    · rename_i s1 h1
      obtain ⟨ρ1, r1, e1⟩ := adj1_ok h1 hr
      obtain ⟨ρ2, r2, e2⟩ := adjs_ok l h r1
      exact ⟨ρ2, r2, e2.trans e1⟩
    · cases h

def adjO (l : List Adj) : Option (Out × List Ob × List Or) → Option (Out × List Ob × List Or)
  | some (.ret s, obs, orc) => match adjs l s with
    | some s => some (.ret s, obs, orc)
    | none => none
  | some (.norm s, obs, orc) => match adjs l s with
    | some s => some (.norm s, obs, orc)
    | none => none
  | some (.enter body k s, obs, orc) => match adjs l s with
    | some s => some (.enter body k s, obs, orc)
    | none => none
  | some (.back body m k s, obs, orc) => match adjs l s with
    | some s => some (.back body m k s, obs, orc)
    | none => none
  | some (.at x k s, obs, orc) => match adjs l s with
    | some s => some (.at x k s, obs, orc)
    | none => none
  | none => none

end

section
variable {P : Program} {T : Nat → Option TI} {cx : Cx} {D : List Deferred} {r : Option Nat} {n : Nat} {Q : Exit → Act → World → Prop}

theorem goodAt_adj {e : Exit} {l : List Adj} {s s' : LS} (h : adjs l s = some s') (hg : GoodAt Q e cx D s') : GoodAt Q e cx D s := fun ρ a W hr => by
  obtain ⟨ρ', r', e'⟩ := adjs_ok l h hr
  exact hg ρ' a W (by rw [e']; exact r')

theorem good_adj {k : List K} {l : List Adj} {s s' : LS} (h : adjs l s = some s') (hg : Good P r n Q cx D k s') : Good P r n Q cx D k s := fun ρ a W hr => by
  obtain ⟨ρ', r', e'⟩ := adjs_ok l h hr
  exact hg ρ' a W (by rw [e']; exact r')

theorem adjO_ok {l : List Adj} {x : Option (Out × List Ob × List Or)} {o : Out} {obs : List Ob} {orc : List Or} (h : adjO l x = some (o, obs, orc)) : ∃ o', x = some (o', obs, orc) ∧ (OutGood P r n Q cx D o → OutGood P r n Q cx D o') := by
  unfold adjO at h
  split at h
  all_goals first | (cases h; done) | skip
  all_goals
    split at h
    · rename_i s2 hs
      simp only [Option.some.injEq, Prod.mk.injEq] at h
      obtain ⟨rfl, rfl, rfl⟩ := h
      refine ⟨_, rfl, fun hg => ?_⟩
      first
        | exact goodAt_adj hs hg
        | exact good_adj hs hg
        | exact ⟨hg.choose, good_adj hs hg.choose_spec⟩
    · cases h

theorem ret_of (hT : TOk P T) (hm : P.follows .mixedOrders = true) {fn : Func} {f : Nat} {k : List K} {s : LS} {orc : List Or} (ads : List Adj) (ms ks : List Nat) {base : Nat} (hb : cx.base = base) {res : SV} {nb mb : List BK} {obs : List Ob}
    (h : retOf T fn.results.toList base ms ks (adjO ads (run T f k s orc)) = some (res, nb, mb, obs)) (hob : Obs P obs) : Good P none n (bodyPost P fn (RR cx res nb mb)) cx [] k s := by
  subst hb
  unfold retOf at h
  split at h
  · rename_i s' obs' hrun
    split at h
    · rename_i res' nb' mb' hf
      simp only [Option.some.injEq, Prod.mk.injEq] at h
      obtain ⟨rfl, rfl, rfl, rfl⟩ := h
      obtain ⟨o', hr, hg⟩ := adjO_ok (P := P) (r := none) (n := n) (Q := bodyPost P fn (RR cx res' nb' mb')) (cx := cx) (D := []) hrun
      exact run_ok hT hm f k s orc _ _ _ hr hob (hg (fin_ok hT hf))
    · cases h
  · cases h

theorem enter_of (hT : TOk P T) (hm : P.follows .mixedOrders = true) {f : Nat} {k k' : List K} {s s' : LS} {orc : List Or} (ads : List Adj) (ts ks : List Nat) {base : Nat} (hb : cx.base = base) {body : Code} {obs : List Ob}
    (h : enterOf base ts ks (adjO ads (run T f k s orc)) = some (body, k', s', obs)) (hob : Obs P obs) (hg : ∃ m, Good P r n Q cx D (.l body m :: k') s') : Good P r n Q cx D k s := by
  unfold enterOf at h
  split at h
  · rename_i body' k1 s1 obs' hrun
    split at h
    · rename_i s2 hs
      simp only [Option.some.injEq, Prod.mk.injEq] at h
      obtain ⟨rfl, rfl, rfl, rfl⟩ := h
      obtain ⟨m, hg⟩ := hg
      obtain ⟨o', hr, hg'⟩ := adjO_ok (P := P) (r := r) (n := n) (Q := Q) (cx := cx) (D := D) hrun
      exact run_ok hT hm f k s orc _ _ _ hr hob (hg' ⟨m, good_shrink hb hs hg⟩)
    · cases h
  · cases h

theorem back_of (hT : TOk P T) (hm : P.follows .mixedOrders = true) {f m : Nat} {k k' : List K} {s s' : LS} {orc : List Or} (ads : List Adj) (ts ks : List Nat) {base : Nat} (hb : cx.base = base) {body : Code} {obs : List Ob}
    (h : backOf base ts ks (adjO ads (run T f k s orc)) = some (body, m, k', s', obs)) (hob : Obs P obs) (hg : Good P r n Q cx D (.l body m :: k') s') : Good P r n Q cx D k s := by
  unfold backOf at h
  split at h
  · rename_i body' m' k1 s1 obs' hrun
    split at h
    · rename_i s2 hs
      simp only [Option.some.injEq, Prod.mk.injEq] at h
      obtain ⟨rfl, rfl, rfl, rfl, rfl⟩ := h
      obtain ⟨o', hr, hg'⟩ := adjO_ok (P := P) (r := r) (n := n) (Q := Q) (cx := cx) (D := D) hrun
      exact run_ok hT hm f k s orc _ _ _ hr hob (hg' (good_shrink hb hs hg))
    · cases h
  · cases h

end

/-! ### Loops that count -/
instance sumInh {α β : Type} [Inhabited β] : Inhabited (α ⊕ β) := ⟨.inr default⟩
theorem len_app {α : Type} (l m : List α) {n : Nat} (h : m.length = n) : l.length + n = (l ++ m).length := by rw [List.length_append, h]

/-- A loop: from state to state, until there is a result; at most n rounds. -/
def loopF {S R : Type} [Inhabited R] (step : S → S ⊕ R) : Nat → S → R
  | 0, _ => default
  | n + 1, v => match step v with
    | .inl v' => loopF step n v'
    | .inr x => x

theorem loopF_inl {S R : Type} [Inhabited R] {step : S → S ⊕ R} {n : Nat} {v v' : S} (h : step v = .inl v') : loopF step (n + 1) v = loopF step n v' := by simp only [loopF, h]
theorem loopF_inr {S R : Type} [Inhabited R] {step : S → S ⊕ R} {n : Nat} {v : S} {x : R} (h : step v = .inr x) : loopF step (n + 1) v = x := by simp only [loopF, h]

/-- Behind a round. -/
def thenF {S R : Type} [Inhabited R] (step : S → S ⊕ R) (n : Nat) : S ⊕ R → R
  | .inl v => loopF step n v
  | .inr x => x

def loopAtD (p ms : List Nat) (c : Code) (k : List K) : Code × List K := (loopAt p ms c k).getD (.skip, [])

/-! ### Lists of elements that take some cells each -/
def flat {α : Type} (c : α → List SV) (l : List α) : List SV := l.flatMap c

theorem flat_append {α : Type} {c : α → List SV} {l m : List α} : flat c (l ++ m) = flat c l ++ flat c m := by simp [flat]
theorem flat_cons {α : Type} {c : α → List SV} {l : List α} {x : α} : flat c (x :: l) = c x ++ flat c l := by simp [flat]

theorem flat_length {α : Type} {c : α → List SV} {es : Nat} (hc : ∀ x, (c x).length = es) (l : List α) : (flat c l).length = l.length * es := by
  induction l with
  | nil => simp [flat]
  | cons x l ih => rw [flat_cons, List.length_append, ih, hc, List.length_cons, Nat.add_mul]; omega

theorem flat_get {α : Type} {c : α → List SV} {es : Nat} (hc : ∀ x, (c x).length = es) (d : α) : ∀ (l : List α) (i : Nat), i < l.length → ((flat c l).drop (i * es)).take es = c (l.getD i d)
  | [], i, h => by simp at h
  | x :: l, 0, _ => by
    rw [flat_cons]
    simp only [Nat.zero_mul, List.drop_zero, List.getD_cons_zero]
    rw [← hc x, List.take_left]
  | x :: l, i + 1, h => by
    rw [flat_cons, List.getD_cons_succ, Nat.add_mul, Nat.one_mul, Nat.add_comm]
    rw [← hc x, ← List.drop_drop, List.drop_left, hc x]
    exact flat_get hc d l i (by simpa using h)

/-- The cells of part of an element. -/
theorem flat_part {α : Type} {c : α → List SV} {es : Nat} (hc : ∀ x, (c x).length = es) (d : α) (l : List α) (i o n : Nat) (h : i < l.length) (ho : o + n ≤ es) : ((flat c l).drop (i * es + o)).take n = ((c (l.getD i d)).drop o).take n := by
  rw [← flat_get hc d l i h]
  rw [← List.drop_drop, List.drop_take, List.take_take, Nat.min_eq_left (by omega)]

/-- A part of an element, loaded. -/
theorem ld_part {α : Type} {c : α → List SV} {es : Nat} (hc : ∀ x, (c x).length = es) (d : α) (l : List α) (i : Int) (o n : Nat) (h : 0 ≤ i ∧ i < (l.length : Int)) (ho : o + n ≤ es) {off : Nat} (he : off = i.toNat * es + o) {r : List SV}
    (hr : ((c (l.getD i.toNat d)).drop o).take n = r) : ((flat c l).drop off).take n = r := by
  subst he
  rw [flat_part hc d l i.toNat o n (by omega) ho]; exact hr

theorem app_ok {α : Type} {c : α → List SV} {es : Nat} (hc : ∀ x, (c x).length = es) {l : List α} {n by' : Nat} (h1 : l.length + n ≤ 2 ^ 40) (h2 : (l.length + n) * by' ≤ 2 ^ 47) : (flat c l).length = l.length * es ∧ l.length + n ≤ 2 ^ 40 ∧ (l.length + n) * by' ≤ 2 ^ 47 :=
  ⟨flat_length hc l, h1, h2⟩

def belowBs (n : Nat) : List BK → Prop
  | [] => True
  | x :: l => belowB n x = true ∧ belowBs n l

theorem belowBs_all {n : Nat} : ∀ {l : List BK}, belowBs n l → l.all (belowB n) = true
  | [], _ => rfl
  | x :: l, h => by simp only [List.all_cons, Bool.and_eq_true]; exact ⟨h.1, belowBs_all h.2⟩

theorem con_of {P : Program} {n : Nat} {f : Nat} {fn : Func} {c : Code} {args : List SV} {bs : List BK} {res : SV} {nb mb : List BK} (hf : P.funcs[f]? = some fn) (hb : fn.body = some c) (hent : Enters P f)
    (hlen : args.length ≤ fn.ntmps) (hlive : (bs.all isLive && belowL bs.length args) = true) (hbs : belowBs bs.length bs)
    (h : ∀ cx : Cx, cx.base = bs.length → Good P none n (bodyPost P fn (RR cx res nb mb)) cx [] [.c c] (start fn.ntmps args bs)) : Con P f args bs res nb mb :=
  con_of_good hf hb hent hlen (by rw [hlive, belowBs_all hbs]; rfl) h

/-! ### A contract does not depend on how its blocks' cells are written -/
def BK.fl : BK → BK
  | .live o _ c => .live o true c
  | x => x

theorem BRep.fl {ρ : Env} {M : Nat → Prop} {W : World} {k : Nat} {x y : BK} (e : x.fl = y.fl) (h : BRep ρ M W k x) : BRep ρ M W k y := by
  cases x <;> cases y <;> simp [BK.fl] at e <;> try trivial
  rename_i o1 s1 c1 o2 s2 c2
  obtain ⟨rfl, rfl⟩ := e
  cases o1 <;> exact h

theorem own_fl {x y : BK} (e : x.fl = y.fl) (h : x.own) : y.own := by
  cases x <;> cases y <;> simp [BK.fl] at e <;> try exact h
  rename_i o1 s1 c1 o2 s2 c2
  obtain ⟨rfl, rfl⟩ := e
  cases o1 <;> exact h

def plBs : List BK → Prop
  | [] => True
  | x :: l => x.pl ∧ plBs l

theorem plBs_get : ∀ {l : List BK}, plBs l → ∀ i, (l.getD i .un).pl
  | [], _, i => by simp [BK.pl]
  | x :: l, h, 0 => by simpa using h.1
  | x :: l, h, i + 1 => by simpa using plBs_get h.2 i

theorem flat_plain {α : Type} {c : α → List SV} (hc : ∀ x, (c x).all SV.plain = true) {l : List α} : Plain (flat c l) := by
  refine plain_all ?_
  induction l with
  | nil => rfl
  | cons x l ih => rw [flat_cons, List.all_append, hc x, ih]; rfl

theorem Con.flags {P : Program} {f : Nat} {args : List SV} {bs bs' : List BK} {res : SV} {nb mb : List BK} (h : Con P f args bs res nb mb) (e : bs'.map BK.fl = bs.map BK.fl) (hpl0 : plBs bs) : Con P f args bs' res nb mb := by
  have hp := plBs_get hpl0
  have hl : bs'.length = bs.length := by have := congrArg List.length e; simpa using this
  have hg : ∀ i, (bs'.getD i .un).fl = (bs.getD i .un).fl := fun i => by
    have := congrArg (fun l => l[i]?) e
    simp only [List.getElem?_map] at this
    simp only [List.getD_eq_getElem?_getD]
    cases h1 : bs'[i]? <;> cases h2 : bs[i]? <;> simp [h1, h2] at this ⊢
    exact this
  have ho : ∀ (ρ : Env), ownOf ρ bs = ownOf ρ bs' := fun ρ => by
    funext b
    refine propext ⟨fun ⟨i, n, h1, h2⟩ => ⟨i, n, own_fl (hg i).symm h1, h2⟩, fun ⟨i, n, h1, h2⟩ => ⟨i, n, own_fl (hg i) h1, h2⟩⟩
  refine ⟨h.1, fun ρ W vs hr hb hpl ha => ?_⟩
  have hcx : callCx ρ W bs' = callCx ρ W bs := by simp only [callCx, hl, ho]
  rw [hcx] at hb ⊢
  exact h.2 ρ W vs hr (fun i => BRep.fl (hg i) (hb i)) hp (fun i j b n b' n' hij h1 h2 => ha i j b n b' n' hij (own_fl (hg i).symm h1) (own_fl (hg j).symm h2))

end Go.Aw

namespace Go.Aw
open Go.RowKit
set_option linter.unusedVariables false
set_option linter.unusedSimpArgs false

/-! ### Blocks set aside -/
theorem Kept.trans {w A B : World} {own own' : Nat → Prop} (h : Kept w own A) (k : Kept A own' B) (ho : ∀ b, own' b → b < w.heap.size → own b) : Kept w own B :=
  ⟨k.os.trans h.os, k.tape.trans h.tape, k.output.trans h.output, Nat.le_trans h.size k.size, fun i hi hn => (k.block i (Nat.lt_of_lt_of_le hi h.size) (fun h' => hn (ho i h' hi))).trans (h.block i hi hn)⟩

theorem Kept.mono {w W : World} {own own' : Nat → Prop} (h : Kept w own W) (ho : ∀ b, own b → own' b) : Kept w own' W :=
  ⟨h.os, h.tape, h.output, h.size, fun k hk hn => h.block k hk (fun h' => hn (ho k h'))⟩

def isCellsAt (W : World) (b : Nat) : Prop := ∃ c ty m, W.heap[b]? = some (.cells c ty m)

theorem isCellsAt.lt {W : World} {b : Nat} (h : isCellsAt W b) : b < W.heap.size := by
  obtain ⟨c, ty, m, h⟩ := h; exact heap_lt h

theorem isCellsAt_of_cell {W : World} {b o : Nat} {x : Value} (h : W.cell? ⟨b, o, none⟩ = some x) : isCellsAt W b := by
  unfold World.cell? at h
  cases ho : W.heap[b]? with
  | none => simp [ho] at h
  | some o' =>
    cases o' with
    | cells c ty m => exact ⟨c, ty, m, ho⟩
    | _ => simp [ho] at h

/-- Only blocks that lie at or behind B and hold no cells have turned; new ones. -/
structure Turn (B : Nat) (W W' : World) : Prop where
  os : W'.os = W.os
  tape : W'.tape = W.tape
  output : W'.output = W.output
  size : W.heap.size ≤ W'.heap.size
  low : ∀ k, k < W.heap.size → k < B → W'.heap[k]? = W.heap[k]?
  cells : ∀ k, isCellsAt W k → W'.heap[k]? = W.heap[k]?

theorem Turn.of_below {B : Nat} {W W' : World} (h : Below W.heap.size W W') : Turn B W W' := ⟨h.os, h.tape, h.output, h.size, fun k hk _ => h.block k hk, fun k hk => h.block k hk.lt⟩
theorem Turn.put {B : Nat} {W : World} {l : Nat} {o o' : Obj} (hl : W.heap[l]? = some o) (hB : B ≤ l) (ho : ∀ c ty m, o ≠ .cells c ty m) : Turn B W (W.putObj l o') :=
  ⟨rfl, rfl, rfl, by simp, fun k _ hk => World.putObj_heap_other (by omega), fun k ⟨c, ty, m, hk⟩ => World.putObj_heap_other (fun e => by subst e; rw [hl] at hk; cases hk; exact ho _ _ _ rfl)⟩

theorem Turn.cell {B : Nat} {W W' : World} (h : Turn B W W') {b o : Nat} {x : Value} (hx : W.cell? ⟨b, o, none⟩ = some x) : W'.cell? ⟨b, o, none⟩ = some x := by
  have := h.cells b (isCellsAt_of_cell hx)
  simp only [World.cell?] at hx ⊢
  rw [this]; exact hx

section
variable {cx : Cx} {N : Nat} {D : List Deferred} {ρ : Env} {s : FS} {a : Act} {W : World}

theorem BRep.turn {M : Nat → Prop} {B : Nat} {W' : World} {k : Nat} {x : BK} (h : BRep ρ M W k x) (ht : Turn B W W') : BRep ρ M W' k x := by
  cases x with
  | un => trivial
  | dead => trivial
  | live own sym cells =>
    cases own with
    | true =>
      rcases h with h | ⟨b, vs, rest, ty, h1, h2, h3, h4⟩
      · exact .inl h
      · exact .inr ⟨b, vs, rest, ty, h1, h2, h3, (ht.cells b ⟨_, _, _, h4⟩).trans h4⟩
    | false =>
      rcases h with h | ⟨b, o, n, vs, h1, h2, h3, h4⟩
      · exact .inl h
      · exact .inr ⟨b, o, n, vs, h1, h2, h3, fun i x hx => ht.cell (h4 i x hx)⟩

theorem Rep.turned {B : Nat} {W' : World} (h : Rep cx N D ρ s a W) (ht : Turn B W W') (hB : cx.w.heap.size ≤ B) : Rep cx N D ρ s a W' :=
  { h with bk := fun k => (h.bk k).turn ht, kept := ⟨ht.os.trans h.kept.os, ht.tape.trans h.kept.tape, ht.output.trans h.kept.output, Nat.le_trans h.kept.size ht.size, fun k hk ho => (ht.low k (Nat.lt_of_lt_of_le hk h.kept.size) (Nat.lt_of_lt_of_le hk hB)).trans (h.kept.block k hk ho)⟩ }

theorem Rep.defer (h : Rep cx N D ρ s a W) (D' : List Deferred) : Rep cx N D' ρ s { a with defers := D' } W :=
  { defs := rfl, size := h.size, sl := h.sl, bk := h.bk, apart := h.apart, wf1 := h.wf1, wf2 := h.wf2, kept := h.kept, pl := h.pl, old := h.old }

/-- From here on, the blocks d (which hold no cells) are to lie as they lie. -/
def Cx.hold (cx : Cx) (W : World) (d : Nat → Prop) : Cx := { w := W, base := cx.base, ρ := cx.ρ, own := fun b => cx.mine b ∧ ¬ d b }

theorem Rep.hold (h : Rep cx N D ρ s a W) {d : Nat → Prop} (hd : ∀ b, d b → ¬ isCellsAt W b) : Rep (cx.hold W d) N D ρ s a W := by
  refine { defs := h.defs, size := h.size, sl := h.sl, bk := fun k => ?_, apart := h.apart, wf1 := h.wf1, wf2 := h.wf2, kept := Kept.refl _ _, pl := h.pl, old := h.old }
  have hb := h.bk k
  cases hx : s.bk k with
  | un => trivial
  | dead => trivial
  | live own sym cells =>
    rw [hx] at hb
    cases own with
    | true =>
      rcases hb with hb | ⟨b, vs, rest, ty, h1, h2, h3, h4⟩
      · exact .inl hb
      · exact .inr ⟨b, vs, rest, ty, h1, .inr ⟨h2, fun hdb => hd b hdb ⟨_, _, _, h4⟩⟩, h3, h4⟩
    | false =>
      rcases hb with hb | ⟨b, o, n, vs, h1, h2, h3, h4⟩
      · exact .inl hb
      · refine .inr ⟨b, o, n, vs, h1, ⟨h2.1, fun hne hM => ?_⟩, h3, h4⟩
        obtain ⟨x, vs', rfl⟩ := List.exists_cons_of_ne_nil hne
        have hlt := (isCellsAt_of_cell (h4 0 x (by simp))).lt
        rcases hM with hM | hM
        · exact absurd hM (Nat.not_le_of_lt hlt)
        · exact h2.2 hne hM.1

theorem Rep.unhold {W0 : World} {d : Nat → Prop} (h : Rep (cx.hold W0 d) N D ρ s a W) (hk : Kept cx.w cx.own W0) (hd : ∀ b, d b → b < W0.heap.size ∧ ¬ isCellsAt W0 b) : Rep cx N D ρ s a W := by
  have hkept : Kept W0 (cx.hold W0 d).own W := h.kept
  refine { defs := h.defs, size := h.size, sl := h.sl, bk := fun k => ?_, apart := h.apart, wf1 := h.wf1, wf2 := h.wf2, kept := hk.trans hkept (fun b hb hlt => ?_), pl := h.pl, old := h.old }
  · have hb := h.bk k
    cases hx : s.bk k with
    | un => trivial
    | dead => trivial
    | live own sym cells =>
      rw [hx] at hb
      cases own with
      | true =>
        rcases hb with hb | ⟨b, vs, rest, ty, h1, h2, h3, h4⟩
        · exact .inl hb
        · refine .inr ⟨b, vs, rest, ty, h1, ?_, h3, h4⟩
          rcases h2 with h2 | h2
          · exact .inl (Nat.le_trans hk.size h2)
          · exact h2.1
      | false =>
        rcases hb with hb | ⟨b, o, n, vs, h1, h2, h3, h4⟩
        · exact .inl hb
        · refine .inr ⟨b, o, n, vs, h1, ⟨h2.1, fun hne hM => ?_⟩, h3, h4⟩
          by_cases hdb : d b
          · obtain ⟨x, vs', rfl⟩ := List.exists_cons_of_ne_nil hne
            have hc := isCellsAt_of_cell (h4 0 x (by simp))
            obtain ⟨c, ty, m, hc⟩ := hc
            refine (hd b hdb).2 ⟨c, ty, m, ?_⟩
            rw [← hkept.block b (hd b hdb).1 (fun h' => h'.2 hdb)]; exact hc
          · exact h2.2 hne (.inr ⟨hM, hdb⟩)
  · rcases hb.1 with h' | h'
    · exact absurd h' (Nat.not_le_of_lt hlt)
    · exact h'

/-! ### A round: only the state's own blocks may be written -/
def OwnS (ρ : Env) (s : FS) (b : Nat) : Prop := ∃ k n, (s.bk k).own ∧ ρ k = some (b, 0, n)

theorem Rep.owns (h : Rep cx N D ρ s a W) {b : Nat} (hb : OwnS ρ s b) : isCellsAt W b ∧ cx.mine b := by
  obtain ⟨k, n, hk, hρ⟩ := hb
  have hb := h.bk k
  cases hx : s.bk k with
  | un => rw [hx] at hk; exact hk.elim
  | dead => rw [hx] at hk; exact hk.elim
  | live own sym cells =>
    rw [hx] at hb hk
    cases own with
    | false => exact hk.elim
    | true =>
      rcases hb with hb | ⟨b', vs, rest, ty, h1, h2, h3, h4⟩
      · rw [hρ] at hb; cases hb.1
      · rw [hρ] at h1; cases h1; exact ⟨⟨_, _, _, h4⟩, h2⟩

def Cx.only (base : Nat) (W : World) (ρ : Env) (S : Nat → Prop) : Cx := { w := W, base := base, ρ := ρ, own := S }

theorem Rep.only (h : Rep cx N D ρ s a W) {B : Nat} {W' : World} (ht : Turn B W W') (base : Nat) (hb : ∀ i, i < base → s.bk i ≠ .un) : Rep (Cx.only base W' ρ (OwnS ρ s)) N D ρ s a W' := by
  refine { defs := h.defs, size := h.size, sl := h.sl, bk := fun k => ?_, apart := h.apart, wf1 := h.wf1, wf2 := h.wf2, kept := Kept.refl _ _, pl := h.pl, old := fun i hi => ⟨rfl, hb i hi⟩ }
  refine BRep.turn ?_ ht
  have hsz := ht.size
  have hb := h.bk k
  cases hx : s.bk k with
  | un => trivial
  | dead => trivial
  | live own sym cells =>
    rw [hx] at hb
    cases own with
    | true =>
      rcases hb with hb | ⟨b, vs, rest, ty, h1, h2, h3, h4⟩
      · exact .inl hb
      · exact .inr ⟨b, vs, rest, ty, h1, .inr ⟨k, _, by rw [hx]; trivial, h1⟩, h3, h4⟩
    | false =>
      rcases hb with hb | ⟨b, o, n, vs, h1, h2, h3, h4⟩
      · exact .inl hb
      · refine .inr ⟨b, o, n, vs, h1, ⟨h2.1, fun hne hM => ?_⟩, h3, h4⟩
        obtain ⟨x, vs', rfl⟩ := List.exists_cons_of_ne_nil hne
        have hlt := (isCellsAt_of_cell (h4 0 x (by simp))).lt
        rcases hM with hM | hM
        · exact absurd (Nat.le_trans hsz hM) (Nat.not_le_of_lt hlt)
        · exact h2.2 hne (h.owns hM).2

/-- Behind a round: the state of the one who ranges again. -/
theorem Rep.rejoin (h : Rep cx N D ρ s a W) {base : Nat} {Wb W' : World} {ρ1 : Env} {S : Nat → Prop} (h1ρ : ∀ i, i < base → ρ1 i = ρ i) (hS : ∀ b, S b → OwnS ρ s b ∨ W.heap.size ≤ b) {N' : Nat} {D' : List Deferred} {ρ' : Env} {s' : FS} {a' : Act}
    (hr : Rep (Cx.only base Wb ρ1 S) N' D' ρ' s' a' W') (hsz : W.heap.size ≤ Wb.heap.size) (hk : Kept cx.w cx.own Wb) (hbase : cx.base ≤ base)
    (hsl : ∀ t k, (s.sl t).has k → k < base) (hro : ∀ k sym cells, s'.bk k = .live false sym cells → s.bk k = .live false sym cells ∧ k < base) :
    Rep cx N D ρ' ⟨s.sl, s'.bk⟩ a W' := by
  have hρ : ∀ i, i < base → ρ' i = ρ i := fun i hi => ((hr.old i hi).1).trans (h1ρ i hi)
  have hSm : ∀ b, S b → cx.mine b := fun b hb => by
    rcases hS b hb with h' | h'
    · exact (h.owns h').2
    · exact .inl (Nat.le_trans h.kept.size h')
  refine { defs := h.defs, size := h.size, sl := fun t => Rel.congr _ _ (fun k hk => hρ k (hsl t k hk)) (h.sl t), bk := fun k => ?_, apart := hr.apart, wf1 := fun t k hk => (hr.old k (hsl t k hk)).2, wf2 := hr.wf2,
           kept := hk.trans hr.kept (fun b hb hlt => ?_), pl := hr.pl, old := fun i hi => ⟨(hρ i (by omega)).trans (h.old i hi).1, (hr.old i (show i < base by omega)).2⟩ }
  · have hb := hr.bk k
    cases hx : s'.bk k with
    | un => trivial
    | dead => trivial
    | live own sym cells =>
      rw [hx] at hb
      cases own with
      | true =>
        rcases hb with hb | ⟨b, vs, rest, ty, h1, h2, h3, h4⟩
        · exact .inl hb
        · refine .inr ⟨b, vs, rest, ty, h1, ?_, h3, h4⟩
          rcases h2 with h2 | h2
          · exact .inl (Nat.le_trans (Nat.le_trans h.kept.size hsz) h2)
          · exact hSm b h2
      | false =>
        rcases hb with hb | ⟨b, o, n, vs, h1, h2, h3, h4⟩
        · exact .inl hb
        · refine .inr ⟨b, o, n, vs, h1, ⟨h2.1, fun hne => ?_⟩, h3, h4⟩
          obtain ⟨e1, e2⟩ := hro k sym cells hx
          have h0 := h.bk k
          rw [e1] at h0
          rcases h0 with ⟨q1, q2⟩ | ⟨b0, o0, n0, vs0, q1, q2, q3, q4⟩
          · rw [hρ k e2, q1] at h1; cases h1
          · rw [hρ k e2, q1] at h1; cases h1
            have hl : vs0.length = vs.length := by rw [← q3.length, h3.length]
            refine q2.2 (fun e => hne ?_)
            subst e; exact List.eq_nil_of_length_eq_zero hl.symm
  · have := hSm b hb
    rcases this with h' | h'
    · exact absurd h' (Nat.not_le_of_lt hlt)
    · exact h'

end

/-! ### Iterators -/
section
variable {α : Type} {P : Program}

/-- What a round comes to: it goes on, or it stops; the blocks S of the one who ranges may have changed. -/
def YR (J : Nat → (Nat → Prop) → World → Prop) (Jx : (Nat → Prop) → World → Prop) (i : Nat) (S : Nat → Prop) (W1 : World) (e : Ending) (W' : World) : Prop :=
  (e = .returned (.bool true) ∧ ∃ S', J (i + 1) S' W' ∧ Kept W1 S W' ∧ ∀ b, S' b → S b ∨ W1.heap.size ≤ b) ∨
  (e = .returned (.bool false) ∧ ∃ S', Jx S' W' ∧ Kept W1 S W')

/-- An iterator: called with a yield it gives the elements xs, one after the other, until it is told to stop; it writes nothing that lay when it was called. -/
def IterAt (P : Program) (g : Nat) (lb : List Value) (enc : α → Value) (xs : List α) (W0 : World) : Prop :=
  ∀ (l : Nat) (J : Nat → (Nat → Prop) → World → Prop) (Jx : (Nat → Prop) → World → Prop) (S0 : Nat → Prop),
    (∀ i S W W', J i S W → Below W.heap.size W W' → J i S W') → (∀ S W W', Jx S W → Below W.heap.size W W' → Jx S W') →
    (∀ i S W, J i S W → ∀ b, S b → b < W.heap.size) →
    (∀ i x S W1, xs[i]? = some x → J i S W1 → YieldAt (Fw none) 9 P l #[enc x] W1 (YR J Jx i S W1)) →
    J 0 S0 W0 →
    Calls P g (#[.func (.yield l) #[] #[]] ++ lb.toArray) W0 fun e W' => (∃ v, e = .returned v) ∧ ∃ S', (J xs.length S' W' ∨ Jx S' W') ∧ Kept W0 S0 W'

/-- How a round's body is left. -/
def RP (I : Nat → (Nat → Prop) → World → Prop) (Ix : (Nat → Prop) → World → Prop) (i : Nat) (S : Nat → Prop) (W1 W3 : World) : Exit → Act → World → Prop
  | .normal, _, W4 => ∃ S', I (i + 1) S' W4 ∧ Kept W3 (fun b => S b ∨ W1.heap.size ≤ b) W4 ∧ ∀ b, S' b → S b ∨ W1.heap.size ≤ b
  | .ret, _, W4 => ∃ S', Ix S' W4 ∧ Kept W3 (fun b => S b ∨ W1.heap.size ≤ b) W4
  | _, _, _ => False

def mark (d : Nat) : Deferred := { target := .collected d, args := #[] }

theorem roundIn_n {r : Option Nat} {n m : Nat} {l : Nat} {f : FuncId} {tmps : Array Value} {assign body : Code} {W : World} {R : Ending → World → Prop} (h : RoundIn (Fw r) n P l f tmps assign body W R) : RoundIn (Fw r) m P l f tmps assign body W R :=
  ⟨h.1, fun c cs _ => h.2 c cs (by simp [Fence.room, Fw])⟩

theorem wpIn_range {n : Nat} {gf : Nat} {lb : List Value} {g : Operand} {t : Tmp} {assign body : Code} {Q : Exit → Act → World → Prop} {a : Act} {W : World} {enc : α → Value} {xs : List α}
    (hg : a.eval g = .func (.func gf) #[] lb.toArray) (hE : Enters P gf) (hit : ∀ W', Below W.heap.size W W' → IterAt P gf lb enc xs W')
    (S0 : Nat → Prop) (I : Nat → (Nat → Prop) → World → Prop) (Ix : (Nat → Prop) → World → Prop)
    (hI : ∀ i S W1 W2, I i S W1 → Turn W.heap.size W1 W2 → I i S W2) (hIx : ∀ S W1 W2, Ix S W1 → Turn W.heap.size W1 W2 → Ix S W2)
    (hIS : ∀ i S W1, I i S W1 → ∀ b, S b → isCellsAt W1 b) (h0 : I 0 S0 W)
    (hround : ∀ (l i : Nat) (x : α) (S : Nat → Prop) (W1 : World), W.heap.size ≤ l → xs[i]? = some x → I i S W1 →
      assign.wpIn (Fw (some l)) 9 P (Exit.then (fun a1 W2 => Kept W1 S W2 ∧ ∀ W3, Turn W.heap.size W2 W3 → Kept W2 (fun b => b = l) W3 → body.wpIn (Fw (some l)) 9 P (RP I Ix i S W1 W3) a1 W3) (fun _ _ _ => False))
        { tmps := a.tmps.setIfInBounds t (enc x), defers := [] } W1)
    (hdone : ∀ (d : Nat) (S : Nat → Prop) (W' : World), W.heap.size ≤ d → I xs.length S W' → W'.heap[d]? = some (.deferred (some [])) → Q .normal { a with defers := mark d :: a.defers } W')
    (hstop : ∀ (d : Nat) (S : Nat → Prop) (W' : World), W.heap.size ≤ d → Ix S W' → W'.heap[d]? = some (.deferred (some [])) → Q .ret { a with defers := mark d :: a.defers } W') :
    (Code.rangeFunc g #[t] assign body).wpIn (Fw none) n P Q a W := by
  refine wpIn_rangeFunc ?_
  intro fn hfn
  let rc : LoopState → Option Code → Loop := fun st pe => { state := st, pending := pe, fn := fn, tmps := a.tmps, params := #[t], assign := assign, body := body, defers := W.heap.size }
  let l := W.heap.size + 1
  let W1 := (W.alloc (.deferred (some []))).alloc (.loop (rc .ready none))
  have hl1 : W1.heap[l]? = some (.loop (rc .ready none)) := by
    have := World.alloc_heap_new (W.alloc (.deferred (some []))) (.loop (rc .ready none)); rwa [World.size_alloc] at this
  have hd1 : W1.heap[W.heap.size]? = some (.deferred (some [])) := (Below.heap_alloc _ _ _ (by simp)).trans (World.alloc_heap_new W _)
  have hb1 : Below W.heap.size W W1 := ((Below.refl _ W).alloc (Nat.le_refl _) _).alloc (by simp) _
  have hcal := (hit W1 hb1) l (fun i Sf W' => ∃ S, I i S W' ∧ W'.heap[l]? = some (.loop (rc .ready none)) ∧ W'.heap[W.heap.size]? = some (.deferred (some [])) ∧ ∀ b, Sf b ↔ S b ∨ b = l)
    (fun Sf W' => ∃ S, Ix S W' ∧ W'.heap[l]? = some (.loop (rc .done (some .ret))) ∧ W'.heap[W.heap.size]? = some (.deferred (some []))) (fun b => S0 b ∨ b = l)
    (fun i Sf A B ⟨S, q1, q2, q3, q4⟩ hb => ⟨S, hI i S A B q1 (Turn.of_below hb), (hb.block _ (heap_lt q2)).trans q2, (hb.block _ (heap_lt q3)).trans q3, q4⟩)
    (fun Sf A B ⟨S, q1, q2, q3⟩ hb => ⟨S, hIx S A B q1 (Turn.of_below hb), (hb.block _ (heap_lt q2)).trans q2, (hb.block _ (heap_lt q3)).trans q3⟩)
    (fun i Sf A ⟨S, q1, q2, q3, q4⟩ b hb => by
      rcases (q4 b).1 hb with h | rfl
      · exact (hIS i S A q1 b h).lt
      · exact heap_lt q2)
    (fun i x Sf A hx ⟨S, q1, q2, q3, q4⟩ => by
      have hy := run_yield (P := P) (args := #[enc x]) q2 rfl
      have htm : ((rc .ready none).params.zip #[enc x]).foldl (fun tmps (t, a) => tmps.setIfInBounds t a) (rc .ready none).tmps = a.tmps.setIfInBounds t (enc x) := by
        rw [← Array.foldl_toList]; simp [rc]
      rw [htm] at hy
      refine ⟨fn, _, assign, body, hy, roundIn_of_wpIn hfn ?_⟩
      refine wpIn_mono (hround l i x S A (by omega) hx q1) ?_
      intro e a1 A2 hq
      cases e with
      | normal =>
        obtain ⟨hbel, hbody⟩ := hq
        have hSn : ∀ b o, A.heap[b]? = some o → (∀ c ty m, o ≠ .cells c ty m) → ¬ S b := fun b o ho hc hS => by
          obtain ⟨c, ty, m, h'⟩ := hIS i S A q1 b hS
          rw [ho] at h'; cases h'; exact hc _ _ _ rfl
        have nl : ¬ S l := hSn l _ q2 (by intros; simp)
        have nd : ¬ S W.heap.size := hSn _ _ q3 (by intros; simp)
        have ll : ¬ A.heap.size ≤ l := Nat.not_le_of_lt (heap_lt q2)
        have ld : ¬ A.heap.size ≤ W.heap.size := Nat.not_le_of_lt (heap_lt q3)
        have q2' : A2.heap[l]? = some (.loop (rc .ready none)) := (hbel.block _ (heap_lt q2) nl).trans q2
        have q3' : A2.heap[W.heap.size]? = some (.deferred (some [])) := (hbel.block _ (heap_lt q3) nd).trans q3
        refine ⟨_, run_beginRound q2' rfl, ?_⟩
        refine wpIn_mono (hbody _ (Turn.put q2' (by omega) (by intros; simp)) ⟨rfl, rfl, rfl, by simp, fun k hk hne => World.putObj_heap_other hne⟩) ?_
        have hlt : l < A2.heap.size := heap_lt q2'
        -- the record, busy
        have hbusy : (A2.putObj l (.loop (rc .busy none))).heap[l]? = some (.loop (rc .busy none)) := World.putObj_heap_same hlt
        have hdb : (A2.putObj l (.loop (rc .busy none))).heap[W.heap.size]? = some (.deferred (some [])) := (World.putObj_heap_other (by omega)).trans q3'
        have nl' : ¬ (S l ∨ A.heap.size ≤ l) := fun h => h.elim nl ll
        have nd' : ¬ (S W.heap.size ∨ A.heap.size ≤ W.heap.size) := fun h => h.elim nd ld
        have kept : ∀ (A4 : World) (o : Obj), Kept (A2.putObj l (.loop (rc .busy none))) (fun b => S b ∨ A.heap.size ≤ b) A4 → Kept A Sf (A4.putObj l o) := fun A4 o hk => by
          have hs0 := hbel.size
          refine ⟨hk.os.trans hbel.os, hk.tape.trans hbel.tape, hk.output.trans hbel.output, ?_, fun k hlk hn => ?_⟩
          · have := hk.size; simp at this ⊢; omega
          · have h1 : k ≠ l := fun e => hn ((q4 k).2 (.inr e))
            have h2 : ¬ S k := fun h => hn ((q4 k).2 (.inl h))
            rw [World.putObj_heap_other h1, hk.block k (by simp; omega) (fun h => h.elim h2 (fun h => absurd h (Nat.not_le_of_lt hlk))), World.putObj_heap_other h1]
            exact hbel.block k hlk h2
        intro e a4 A4 hp
        cases e with
        | normal =>
          obtain ⟨S', i1, i2, i3⟩ := hp
          have hl4 : A4.heap[l]? = some (.loop (rc .busy none)) := (i2.block l (heap_lt hbusy) nl').trans hbusy
          have hd4 : A4.heap[W.heap.size]? = some (.deferred (some [])) := (i2.block _ (heap_lt hdb) nd').trans hdb
          refine ⟨_, _, run_endRound none hl4, .inl ⟨rfl, fun b => S' b ∨ b = l, ⟨S', hI _ _ _ _ i1 (Turn.put hl4 (by omega) (by intros; simp)), World.putObj_heap_same (heap_lt hl4), (World.putObj_heap_other (by omega)).trans hd4, fun _ => Iff.rfl⟩, kept A4 _ i2, fun b hb => ?_⟩⟩
          rcases hb with hb | rfl
          · exact (i3 b hb).imp (fun h => (q4 b).2 (.inl h)) id
          · exact .inl ((q4 _).2 (.inr rfl))
        | ret =>
          obtain ⟨S', i1, i2⟩ := hp
          have hl4 : A4.heap[l]? = some (.loop (rc .busy none)) := (i2.block l (heap_lt hbusy) nl').trans hbusy
          have hd4 : A4.heap[W.heap.size]? = some (.deferred (some [])) := (i2.block _ (heap_lt hdb) nd').trans hdb
          exact ⟨_, _, run_endRound (some .ret) hl4, .inr ⟨rfl, fun b => S' b ∨ b = l, ⟨S', hIx _ _ _ i1 (Turn.put hl4 (by omega) (by intros; simp)), World.putObj_heap_same (heap_lt hl4), (World.putObj_heap_other (by omega)).trans hd4⟩, kept A4 _ i2⟩⟩
        | exit id => exact hp.elim
        | goto t => exact hp.elim
        | panic ch => exact hp.elim
        | outgrown => exact hp.elim
      | ret => exact hq.elim
      | exit id => exact hq.elim
      | goto t => exact hq.elim
      | panic ch => exact hq.elim
      | outgrown => exact hq.elim)
    ⟨S0, hI _ _ _ _ h0 (Turn.of_below hb1), hl1, hd1, fun _ => Iff.rfl⟩
  refine ⟨l, [mark W.heap.size], W1, { target := .fn (.func gf) lb.toArray, args := #[.func (.yield l) #[] #[]] }, W1, gf, #[.func (.yield l) #[] #[]] ++ lb.toArray, W1, ?_, ?_, ?_, ?_, ?_, ?_⟩
  · exact run_enterLoop_outer _ _ _ _ _
  · simp only [resolve, hg]
    simp [go_sem]
  · intro f' _; trivial
  · simp only [invoke]; rw [hE]
  · intro h; simp [Fw] at h
  · refine callsIn_Fw.2 (hcal.mono fun e W2 hp => ?_)
    obtain ⟨⟨v, rfl⟩, S', hJ, _⟩ := hp
    rcases hJ with ⟨S, q1, q2, q3, _⟩ | ⟨S, q1, q2, q3⟩
    · exact ⟨none, _, run_endLoop q2 (by simp [rc]), hdone _ _ _ (Nat.le_refl _) (hI _ _ _ _ q1 (Turn.put q2 (by omega) (by intros; simp))) ((World.putObj_heap_other (by omega)).trans q3)⟩
    · exact ⟨some .ret, _, run_endLoop q2 (by simp [rc]), wpIn_ret (hstop _ _ _ (Nat.le_refl _) (hIx _ _ _ q1 (Turn.put q2 (by omega) (by intros; simp))) ((World.putObj_heap_other (by omega)).trans q3))⟩
end
end Go.Aw

namespace Go.Aw
open Go.RowKit
set_option linter.unusedVariables false
set_option linter.unusedSimpArgs false

/-- Element by element, until there is a result. -/
def runL {V R α : Type} (step : V → α → V ⊕ R) : List α → V → V ⊕ R
  | [], v => .inl v
  | x :: l, v => match step v x with
    | .inl v' => runL step l v'
    | .inr r => .inr r

theorem runL_snoc {V R α : Type} {step : V → α → V ⊕ R} {x : α} : ∀ {l : List α} {v : V}, runL step (l ++ [x]) v = match runL step l v with
    | .inl v' => step v' x
    | .inr r => .inr r
  | [], v => by simp only [List.nil_append, runL]; cases step v x <;> rfl
  | y :: l, v => by
    simp only [List.cons_append, runL]
    cases step v y with
    | inl v' => exact runL_snoc
    | inr r => rfl

theorem runL_stop {V R α : Type} {step : V → α → V ⊕ R} {r : R} {m : List α} : ∀ {l : List α} {v : V}, runL step l v = .inr r → runL step (l ++ m) v = .inr r
  | [], v, h => by simp [runL] at h
  | y :: l, v, h => by
    simp only [List.cons_append, runL] at h ⊢
    cases hs : step v y with
    | inl v' => rw [hs] at h; exact runL_stop h
    | inr r' => rw [hs] at h; exact h

theorem runL_take {V R α : Type} {step : V → α → V ⊕ R} {xs : List α} {i : Nat} {x : α} {v0 v : V} (hx : xs[i]? = some x) (h : runL step (xs.take i) v0 = .inl v) : runL step (xs.take (i + 1)) v0 = step v x := by
  obtain ⟨hlt, hx⟩ := List.getElem?_eq_some_iff.1 hx
  rw [← hx, List.take_succ_eq_append_getElem hlt, runL_snoc, h]

/-- Behind a range. -/
def thenL {V R : Type} (k : V → R) : V ⊕ R → R
  | .inl v => k v
  | .inr r => r

section
variable {P : Program} {T : Nat → Option TI} {cx : Cx}

/-- An iterator's contract: the function g, with what it has captured. -/
def Iter {α : Type} (P : Program) (g : Nat) (caps : List SV) (bs : List BK) (enc : α → Value) (xs : List α) : Prop :=
  Enters P g ∧ ∀ (ρ : Env) (W : World) (lb : List Value), Rels ρ caps lb → (∀ i, BRep ρ (fun b => W.heap.size ≤ b) W i (bs.getD i .un)) → (∀ i, (bs.getD i .un).pl) → IterAt P g lb enc xs W

structure Held (cx : Cx) (d : Nat) (cx' : Cx) : Prop where
  ex : ∃ W0, cx' = cx.hold W0 (fun b => b = d) ∧ Kept cx.w cx.own W0 ∧ W0.heap[d]? = some (.deferred (some [])) ∧ cx.w.heap.size ≤ d

theorem Held.base {d : Nat} {cx' : Cx} (h : Held cx d cx') : cx'.base = cx.base := by
  obtain ⟨W0, rfl, _⟩ := h.ex; rfl

theorem good_range {α V R' : Type} {n : Nat} {Q : Exit → Act → World → Prop} {s0 : LS} {k : List K} {g : Operand} {t : Tmp} {assign body : Code} {gf : Nat} {caps capsR : List SV} {bs : List BK} {enc : α → Value} {xs : List α}
    (hgv : ev s0.fs.sl g = .f gf caps) (ks : List Nat) (hc : renL ks caps = some capsR) (hbs : renBs ks s0.fs.bk ks [] = some bs) (hit : Iter P gf capsR bs enc xs)
    (encS : α → SV) (henc : ∀ ρ x, Rel ρ (encS x) (enc x)) (hpl : ∀ x k, ¬ (encS x).has k)
    (base : Nat) (hbase : cx.base ≤ base) (ht : t < s0.sl.length)
    (st : V → LS) (v0 : V) (h0 : st v0 = s0) (hsl : ∀ v, (st v).sl = s0.sl) (hslb : belowL base s0.sl = true)
    (hro : ∀ v v' k sym cells, (st v').fs.bk k = .live false sym cells → (st v).fs.bk k = .live false sym cells ∧ k < base)
    (hun : ∀ v i, i < base → (st v).fs.bk i ≠ .un)
    (step : V → α → V ⊕ R') (str : R' → LS) (hroR : ∀ v r k sym cells, (str r).fs.bk k = .live false sym cells → (st v).fs.bk k = .live false sym cells ∧ k < base)
    (inv : Nat → V → Prop) (hi0 : inv 0 v0) (sA : V → α → LS) (hsAl : ∀ v x, (sA v x).sl.length = s0.sl.length) (hsAu : ∀ v x i, i < base → (sA v x).fs.bk i ≠ .un)
    (hA : ∀ (cx' : Cx) (l i : Nat) (v : V) (x : α) (QA : Exit → Act → World → Prop), cx'.base = base → xs[i]? = some x → inv i v → GoodAt QA .normal cx' [] (sA v x) → Good P (some l) 9 QA cx' [] [.c assign] ⟨s0.sl.set t (encS x), (st v).bk⟩)
    (hB : ∀ (cx' : Cx) (l i : Nat) (v : V) (x : α) (QB : Exit → Act → World → Prop), cx'.base = base → xs[i]? = some x → inv i v →
      (∀ v', step v x = .inl v' → inv (i + 1) v' → GoodAt QB .normal cx' [] ⟨List.replicate s0.sl.length .u, (st v').bk⟩) →
      (∀ r, step v x = .inr r → GoodAt QB .ret cx' [] ⟨List.replicate s0.sl.length .u, (str r).bk⟩) → Good P (some l) 9 QB cx' [] [.c body] (sA v x))
    (hrest : ∀ (cx' : Cx) (d : Nat) (v : V), Held cx d cx' → runL step xs v0 = .inl v → inv xs.length v → Good P none n Q cx' [mark d] k (st v))
    (hexit : ∀ (cx' : Cx) (d : Nat) (r : R'), Held cx d cx' → runL step xs v0 = .inr r → GoodAt Q .ret cx' [mark d] ⟨s0.sl, (str r).bk⟩) :
    Good P none n Q cx [] (.c (.rangeFunc g #[t] assign body) :: k) s0 := by
  intro ρ0 a W hrep
  simp only [cont]
  have hgr := ev_rel hrep g
  rw [hgv] at hgr
  simp only [Rel] at hgr
  obtain ⟨vs, hgval, hcr⟩ := hgr
  have hcapsR := renL_rel caps capsR vs hc hcr
  obtain ⟨hbl, hbsp⟩ := renBs_spec ks [] bs hbs
  have hslv : ∀ v, (st v).sl.length = s0.sl.length := fun v => by rw [hsl]
  have hfs : ∀ v, (st v).fs.sl = s0.fs.sl := fun v => by simp only [LS.fs, hsl]
  have hslk : ∀ (t k : Nat), (s0.fs.sl t).has k → k < base := fun t k hk => by
    simp only [LS.fs, List.getD_eq_getElem?_getD] at hk
    cases hx : s0.sl[t]? with
    | none => rw [hx] at hk; simp [SV.has] at hk
    | some y => rw [hx] at hk; exact belowL_has hslb (hasl_iff.2 ⟨y, List.mem_of_getElem? hx, hk⟩)
  have hcw := hrep.size_le
  refine wpIn_range (enc := enc) (xs := xs) hgval hit.1 (fun W' hb => hit.2 (envOf ρ0 ks) W' vs hcapsR (fun i => ?_) (fun i => ?_)) (OwnS ρ0 s0.fs)
    (fun i S W1 => ∃ v ρ, runL step (xs.take i) v0 = .inl v ∧ inv i v ∧ Rep cx s0.sl.length [] ρ (st v).fs a W1 ∧ ∀ b, S b ↔ OwnS ρ (st v).fs b)
    (fun S W1 => ∃ r ρ, runL step xs v0 = .inr r ∧ Rep cx s0.sl.length [] ρ ⟨s0.fs.sl, (str r).fs.bk⟩ a W1)
    (fun i S W1 W2 ⟨v, ρ, q1, q2, q3, q4⟩ hT => ⟨v, ρ, q1, q2, q3.turned hT hcw, q4⟩)
    (fun S W1 W2 ⟨r, ρ, q1, q2⟩ hT => ⟨r, ρ, q1, q2.turned hT hcw⟩)
    (fun i S W1 ⟨v, ρ, q1, q2, q3, q4⟩ b hb => (q3.owns ((q4 b).1 hb)).1)
    ⟨v0, ρ0, rfl, hi0, by rw [h0]; exact hrep, fun b => by rw [h0]⟩ ?_ ?_ ?_
  · cases hi : ks[i]? with
    | none =>
      have : bs[i]? = none := by rw [List.getElem?_eq_none_iff] at hi ⊢; omega
      simp [this, BRep]
    | some k =>
      obtain ⟨y, hy1, hy2⟩ := hbsp i k hi
      rw [show bs.getD i .un = y by simp [hy1]]
      simp only [List.getD_nil, isUn, Bool.not_true] at hy2
      refine (renB_rep hi hy2 (hrep.pl k) ((hrep.bk k).grow (hb.mono (Nat.le_refl _))) (fun _ h => by cases h) (fun _ b hlt _ hM => absurd hM (Nat.not_le_of_lt hlt))).1
  · cases hi : ks[i]? with
    | none =>
      have : bs[i]? = none := by rw [List.getElem?_eq_none_iff] at hi ⊢; omega
      simp [this, BK.pl]
    | some k =>
      obtain ⟨y, hy1, hy2⟩ := hbsp i k hi
      rw [show bs.getD i .un = y by simp [hy1]]
      exact renB_pl hy2 (hrep.pl k)
  · -- a round
    intro l i x S W1 hl hx ⟨v, ρ, hv, hinv, hrep1, hS⟩
    have h2 := hrep1.only (Turn.of_below (B := 0) (Below.refl _ W1)) base (hun v)
    have h3 := h2.put (some t) (fun d hd => by cases hd; exact ht) (henc ρ x) (fun k hk => absurd hk (hpl x k))
    have happ : (st v).app (some t) { val := encS x } = some ⟨s0.sl.set t (encS x), (st v).bk⟩ := by
      simp only [LS.app, updL]
      rw [hslv, if_pos ht, hsl]
    rw [← (app_fs happ).1] at h3
    have hlenA : (⟨s0.sl.set t (encS x), (st v).bk⟩ : LS).sl.length = s0.sl.length := by simp
    have hgA := hA (Cx.only base W1 ρ (OwnS ρ (st v).fs)) l i v x (Exit.then (fun a1 W2 => Kept W1 S W2 ∧ ∀ W3, Turn W.heap.size W2 W3 → Kept W2 (fun b => b = l) W3 → body.wpIn (Fw (some l)) 9 P (RP
      (fun i S W1 => ∃ v ρ, runL step (xs.take i) v0 = .inl v ∧ inv i v ∧ Rep cx s0.sl.length [] ρ (st v).fs a W1 ∧ ∀ b, S b ↔ OwnS ρ (st v).fs b)
      (fun S W1 => ∃ r ρ, runL step xs v0 = .inr r ∧ Rep cx s0.sl.length [] ρ ⟨s0.fs.sl, (str r).fs.bk⟩ a W1) i S W1 W3) a1 W3) (fun _ _ _ => False)) rfl hx hinv ?_ ρ (a.put (some t) (enc x)) W1 (by rw [hlenA]; exact h3)
    · have hdef : a.put (some t) (enc x) = { tmps := a.tmps.setIfInBounds t (enc x), defers := [] } := by
        simp only [Act.put, hrep1.defs]
      rw [hdef] at hgA
      simp only [cont] at hgA
      exact hgA
    · intro ρ1 a1 W2 hrep2
      rw [hsAl] at hrep2
      have hk2 : Kept W1 S W2 := hrep2.kept.mono (fun b hb => (hS b).2 hb)
      refine ⟨hk2, fun W3 hT hK => ?_⟩
      have h4 := hrep2.only hT base (hsAu v x)
      have hk3 : Kept cx.w cx.own W3 := by
        refine (hrep1.kept.trans hrep2.kept (fun b hb hlt => ?_)).trans hK (fun b hb hlt => ?_)
        · rcases (hrep1.owns hb).2 with h' | h'
          · exact absurd h' (Nat.not_le_of_lt hlt)
          · exact h'
        · subst hb; omega
      have hsub : ∀ b, OwnS ρ1 (sA v x).fs b → OwnS ρ (st v).fs b ∨ W1.heap.size ≤ b := fun b hb => by
        rcases (hrep2.owns hb).2 with h' | h'
        · exact .inr h'
        · exact .inl h'
      have hsz : W1.heap.size ≤ W3.heap.size := Nat.le_trans hk2.size hK.size
      have hgB := hB (Cx.only base W3 ρ1 (OwnS ρ1 (sA v x).fs)) l i v x (RP
        (fun i S W1 => ∃ v ρ, runL step (xs.take i) v0 = .inl v ∧ inv i v ∧ Rep cx s0.sl.length [] ρ (st v).fs a W1 ∧ ∀ b, S b ↔ OwnS ρ (st v).fs b)
        (fun S W1 => ∃ r ρ, runL step xs v0 = .inr r ∧ Rep cx s0.sl.length [] ρ ⟨s0.fs.sl, (str r).fs.bk⟩ a W1) i S W1 W3) rfl hx hinv ?_ ?_ ρ1 a1 W3 (by rw [hsAl]; exact h4)
      · simp only [cont] at hgB
        exact hgB
      · intro v' hst hinv' ρ4 a4 W4 h5
        have hj := hrep1.rejoin (fun i hi => (hrep2.old i hi).1) hsub h5 hsz hk3 hbase (fun t k hk => hslk t k (by rw [hfs] at hk; exact hk)) (fun k sym cells hk => hro v v' k sym cells hk)
        refine ⟨OwnS ρ4 (st v').fs, ⟨v', ρ4, (runL_take hx hv).trans hst, hinv', ?_, fun b => Iff.rfl⟩, h5.kept.mono (fun b hb => (hsub b hb).imp (fun h => (hS b).2 h) id), fun b hb => ?_⟩
        · have e : (st v').fs = ⟨(st v).fs.sl, (st v').fs.bk⟩ := by
            rw [hfs v, ← hfs v']
          rw [e]; exact hj
        · have h' : OwnS ρ4 (⟨List.replicate s0.sl.length .u, (st v').bk⟩ : LS).fs b := hb
          rcases (h5.owns h').2 with h' | h'
          · exact .inr (Nat.le_trans hsz h')
          · exact (hsub b h').imp (fun h => (hS b).2 h) id
      · intro r hst ρ4 a4 W4 h5
        have hj := hrep1.rejoin (fun i hi => (hrep2.old i hi).1) hsub h5 hsz hk3 hbase (fun t k hk => hslk t k (by rw [hfs] at hk; exact hk)) (fun k sym cells hk => hroR v r k sym cells hk)
        refine ⟨fun _ => False, ⟨r, ρ4, ?_, ?_⟩, h5.kept.mono (fun b hb => (hsub b hb).imp (fun h => (hS b).2 h) id)⟩
        · have := (runL_take hx hv).trans hst
          rw [← List.take_append_drop (i + 1) xs]; exact runL_stop this
        · rw [← hfs v]; exact hj
  · -- all have come
    intro d S W' hd ⟨v, ρ, hv, hinv, hrep1, hS⟩ hdd
    rw [List.take_length] at hv
    have hnc : ∀ b, b = d → ¬ isCellsAt W' b := fun b hb ⟨c, ty, m, h⟩ => by subst hb; rw [hdd] at h; cases h
    have := hrest (cx.hold W' (fun b => b = d)) d v ⟨_, rfl, hrep1.kept, hdd, Nat.le_trans hcw hd⟩ hv hinv ρ { a with defers := [mark d] } W' (by rw [hslv]; exact (hrep1.hold hnc).defer _)
    rw [hrep.defs]; exact this
  · intro d S W' hd ⟨r, ρ, hr, hrep1⟩ hdd
    have hnc : ∀ b, b = d → ¬ isCellsAt W' b := fun b hb ⟨c, ty, m, h⟩ => by subst hb; rw [hdd] at h; cases h
    have := hexit (cx.hold W' (fun b => b = d)) d r ⟨_, rfl, hrep1.kept, hdd, Nat.le_trans hcw hd⟩ hr ρ { a with defers := [mark d] } W' ((hrep1.hold hnc).defer _)
    rw [hrep.defs, cont_other (by simp) (by simp) (by simp)]; exact this

/-! ### Functions that hold such a statement -/
/-- At the return, behind the range. -/
theorem fin_mark (hT : TOk P T) {n : Nat} {fn : Func} {ms ks : List Nat} {s : LS} {res : SV} {nb mb : List BK} (h : fin T fn.results.toList cx.base ms ks s = some (res, nb, mb)) {d : Nat} {cx' : Cx} (hh : Held cx d cx') :
    GoodAt (bodyPostM (Fw none) n P fn (RR cx res nb mb)) .ret cx' [mark d] s := by
  obtain ⟨W0, rfl, hk, hd, hdl⟩ := hh.ex
  intro ρ a W hrep
  have hdW : W.heap[d]? = some (.deferred (some [])) := (hrep.kept.block d (heap_lt hd) (fun h => h.2 rfl)).trans hd
  have h1 := hrep.unhold hk (fun b hb => by
    subst hb
    exact ⟨heap_lt hd, fun ⟨c, ty, m, h⟩ => by rw [hd] at h; cases h⟩)
  have h2 := (h1.turned (Turn.put (o' := .deferred none) hdW hdl (by intros; simp)) (Nat.le_refl _)).defer []
  obtain ⟨_, v, hv, hR⟩ := fin_ok hT h ρ _ _ h2
  simp only [bodyPostM, hrep.defs, LeavesInM]
  refine ⟨by simp, .inl ⟨d, _, rfl, run_takeDeferred hdW, ?_⟩⟩
  simp only [LeavesIn]
  exact ⟨v, hv, hR⟩

/-- **A function's contract, where the function holds a range over a function.** -/
theorem con_of_mark {n : Nat} {f : Nat} {fn : Func} {c : Code} {args : List SV} {bs : List BK} {res : SV} {nb mb : List BK} (hf : P.funcs[f]? = some fn) (hb : fn.body = some c) (hent : Enters P f)
    (hlen : args.length ≤ fn.ntmps) (hlive : (bs.all isLive && belowL bs.length args) = true) (hbs : belowBs bs.length bs)
    (h : ∀ cx : Cx, cx.base = bs.length → Good P none n (bodyPostM (Fw none) n P fn (RR cx res nb mb)) cx [] [.c c] (start fn.ntmps args bs)) : Con P f args bs res nb mb := by
  refine ⟨hent, fun ρ W vs hargs hbs' hpl hap => ?_⟩
  have hrep := start_rep hlen (by rw [hlive, belowBs_all hbs]; rfl) hargs hbs' hpl hap
  have := h (callCx ρ W bs) rfl ρ _ W hrep
  simp only [cont] at this
  exact callsIn_Fw.1 (callsIn_of_wp_marks (n := n) hf hb trivial this)

/-! ### Certificates -/
def atOf (base : Nat) (ts ks : List Nat) : Option (Out × List Ob × List Or) → Option (Code × List K × LS × List Ob)
  | some (.at x k s, obs, []) => match shrink base ts ks s with
    | some s' => some (x, k, s', obs)
    | none => none
  | _ => none

def normOf (base : Nat) (ts ks : List Nat) : Option (Out × List Ob × List Or) → Option (LS × List Ob)
  | some (.norm s, obs, []) => match shrink base ts ks s with
    | some s' => some (s', obs)
    | none => none
  | _ => none

def retsOf (base : Nat) (ts ks : List Nat) : Option (Out × List Ob × List Or) → Option (LS × List Ob)
  | some (.ret s, obs, []) => match shrink base ts ks s with
    | some s' => some (s', obs)
    | none => none
  | _ => none

variable {D : List Deferred} {r : Option Nat} {n : Nat} {Q : Exit → Act → World → Prop}

theorem goodAt_shrink {e : Exit} {s s' : LS} {ts ks : List Nat} {base : Nat} (hb : cx.base = base) (hs : Aw.shrink base ts ks s = some s') (h : GoodAt Q e cx D s') : GoodAt Q e cx D s := by
  subst hb
  intro ρ a W hrep
  obtain ⟨h1, h2⟩ := hrep.shrink hs
  exact h _ a W (by rw [h2]; exact h1)

theorem at_of (hT : TOk P T) (hm : P.follows .mixedOrders = true) {f : Nat} {k k' : List K} {s s' : LS} {orc : List Or} (ads : List Adj) (ts ks : List Nat) {base : Nat} (hb : cx.base = base) {x : Code} {obs : List Ob}
    (h : atOf base ts ks (adjO ads (run T f k s orc)) = some (x, k', s', obs)) (hob : Obs P obs) (hg : Good P r n Q cx D (.c x :: k') s') : Good P r n Q cx D k s := by
  unfold atOf at h
  split at h
  · rename_i x' k1 s1 obs' hrun
    split at h
    · rename_i s2 hs
      simp only [Option.some.injEq, Prod.mk.injEq] at h
      obtain ⟨rfl, rfl, rfl, rfl⟩ := h
      obtain ⟨o', hr, hg'⟩ := adjO_ok (P := P) (r := r) (n := n) (Q := Q) (cx := cx) (D := D) hrun
      exact run_ok hT hm f k s orc _ _ _ hr hob (hg' (good_shrink hb hs hg))
    · cases h
  · cases h

theorem norm_of (hT : TOk P T) (hm : P.follows .mixedOrders = true) {f : Nat} {k : List K} {s s' : LS} {orc : List Or} (ads : List Adj) (ts ks : List Nat) {base : Nat} (hb : cx.base = base) {obs : List Ob}
    (h : normOf base ts ks (adjO ads (run T f k s orc)) = some (s', obs)) (hob : Obs P obs) (hg : GoodAt Q .normal cx D s') : Good P r n Q cx D k s := by
  unfold normOf at h
  split at h
  · rename_i s1 obs' hrun
    split at h
    · rename_i s2 hs
      simp only [Option.some.injEq, Prod.mk.injEq] at h
      obtain ⟨rfl, rfl⟩ := h
      obtain ⟨o', hr, hg'⟩ := adjO_ok (P := P) (r := r) (n := n) (Q := Q) (cx := cx) (D := D) hrun
      exact run_ok hT hm f k s orc _ _ _ hr hob (hg' (goodAt_shrink hb hs hg))
    · cases h
  · cases h

theorem rets_of (hT : TOk P T) (hm : P.follows .mixedOrders = true) {f : Nat} {k : List K} {s s' : LS} {orc : List Or} (ads : List Adj) (ts ks : List Nat) {base : Nat} (hb : cx.base = base) {obs : List Ob}
    (h : retsOf base ts ks (adjO ads (run T f k s orc)) = some (s', obs)) (hob : Obs P obs) (hg : GoodAt Q .ret cx D s') : Good P r n Q cx D k s := by
  unfold retsOf at h
  split at h
  · rename_i s1 obs' hrun
    split at h
    · rename_i s2 hs
      simp only [Option.some.injEq, Prod.mk.injEq] at h
      obtain ⟨rfl, rfl⟩ := h
      obtain ⟨o', hr, hg'⟩ := adjO_ok (P := P) (r := r) (n := n) (Q := Q) (cx := cx) (D := D) hrun
      exact run_ok hT hm f k s orc _ _ _ hr hob (hg' (goodAt_shrink hb hs hg))
    · cases h
  · cases h

/-- A run to a return, behind the range. -/
theorem retH_of (hT : TOk P T) (hm : P.follows .mixedOrders = true) {fn : Func} {f : Nat} {k : List K} {s : LS} {orc : List Or} (ads : List Adj) (ms ks : List Nat) {base d : Nat} {cx' : Cx} (hh : Held cx d cx') (hb : cx.base = base) {res : SV} {nb mb : List BK} {obs : List Ob}
    (h : retOf T fn.results.toList base ms ks (adjO ads (run T f k s orc)) = some (res, nb, mb, obs)) (hob : Obs P obs) : Good P none n (bodyPostM (Fw none) n P fn (RR cx res nb mb)) cx' [mark d] k s := by
  subst hb
  unfold retOf at h
  split at h
  · rename_i s' obs' hrun
    split at h
    · rename_i res' nb' mb' hf
      simp only [Option.some.injEq, Prod.mk.injEq] at h
      obtain ⟨rfl, rfl, rfl, rfl⟩ := h
      obtain ⟨o', hr, hg⟩ := adjO_ok (P := P) (r := none) (n := n) (Q := bodyPostM (Fw none) n P fn (RR cx res' nb' mb')) (cx := cx') (D := [mark d]) hrun
      exact run_ok hT hm f k s orc _ _ _ hr hob (hg (fin_mark hT hf hh))
    · cases h
  · cases h

/-- The result, where a round has left. -/
theorem finH_of (hT : TOk P T) {fn : Func} {s : LS} (ads : List Adj) (ms ks : List Nat) {s' : LS} (ha : adjs ads s = some s') {base d : Nat} {cx' : Cx} (hh : Held cx d cx') (hb : cx.base = base) {res : SV} {nb mb : List BK}
    (h : fin T fn.results.toList base ms ks s' = some (res, nb, mb)) : GoodAt (bodyPostM (Fw none) n P fn (RR cx res nb mb)) .ret cx' [mark d] s := by
  subst hb
  exact goodAt_adj ha (fin_mark hT h hh)
end
end Go.Aw

namespace Go.Aw
open Go.RowKit
set_option linter.unusedVariables false
set_option linter.unusedSimpArgs false

section
variable {P : Program} {T : Nat → Option TI} {cx : Cx} {N : Nat} {D : List Deferred} {ρ : Env} {s : FS} {a : Act} {W : World} {r : Option Nat} {n : Nat}

/-- Part of a region, in the text's order. -/
theorem ops_pre (hT : TOk P T) {ops : Array Oper} {Q : Exit → Act → World → Prop} {rest : List Nat} : ∀ (l : List Oper) (i : Nat) (s s' : LS) (orc orc' : List Or) (evs : List Ev) (obs : List Ob), evOps T ops l i s orc = some (evs, s', obs, orc') → Obs P obs →
    (∀ j o, l[j]? = some o → ops[i + j]? = some o) → ∀ (ρ : Env) (a : Act) (W : World), Rep cx s.sl.length D ρ s.fs a W →
    (∀ ρ' a' W', Rep cx s.sl.length D ρ' s'.fs a' W' → s'.sl.length = s.sl.length → wpOpsIn (Fw r) n P ops Q rest a' W') → wpOpsIn (Fw r) n P ops Q (List.range' i l.length ++ rest) a W
  | [], i, s, s', orc, orc', evs, obs, h, _, _, ρ, a, W, hrep, hK => by
    simp only [evOps, Option.some.injEq, Prod.mk.injEq] at h
    obtain ⟨_, rfl, _, _⟩ := h
    simpa using hK ρ a W hrep rfl
  | o :: l, i, s, s', orc, orc', evs, obs, h, hob, hl, ρ, a, W, hrep, hK => by
    simp only [evOps] at h
    split at h
    · cases h
    · rename_i v obs1 orc1 hv
      split at h
      · cases h
      · rename_i s1 happ
        split at h
        · cases h
        · rename_i vs s2 obs2 orc2 hrest
          simp only [Option.some.injEq, Prod.mk.injEq] at h
          obtain ⟨rfl, rfl, rfl, rfl⟩ := h
          obtain ⟨ho1, ho2⟩ := Obs.append hob
          have hi : ops[i]? = some o := by have := hl 0 o (by simp); simpa using this
          obtain ⟨hfs, hd, hlen⟩ := app_fs happ
          have hdst : dstOf ops i = o.dst := by simp [dstOf, hi]
          rw [List.length_cons, List.range'_succ, List.cons_append, wpOpsIn_cons]
          refine evOp_ok (r := r) (n := n) (w0 := cx) (D := D) hT hv ho1 hi hd s.fs (fun _ _ => rfl) (fun _ _ => rfl) ρ a W Q _ hrep (fun ρ' a' W' h' => ?_)
          rw [hdst, ← hfs] at h'
          refine ops_pre hT l (i + 1) s1 s2 orc1 orc2 vs obs2 hrest ho2 (fun j o' hj => ?_) ρ' a' W' (by rw [hlen]; exact h') (fun ρ'' a'' W'' h'' e'' => hK ρ'' a'' W'' (by rw [hlen] at h''; exact h'') (e''.trans hlen))
          rw [show i + 1 + j = i + (j + 1) by omega]; exact hl (j + 1) o' (by simpa using hj)

/-! ### Behind a call that another's blocks may have been written by -/
def BK.frz : BK → BK
  | .live _ sym cells => .live false sym cells
  | x => x

theorem Rep.freeze (h : Rep cx N D ρ s a W) {W' : World} {S : Nat → Prop} (hk : Kept W S W') (hS : ∀ k own sym cells, s.bk k = .live own sym cells → ∀ b o n, ρ k = some (b, o, n) → ¬ S b) (base : Nat) (hb : ∀ i, i < base → s.bk i ≠ .un) :
    Rep (Cx.only base W' ρ (fun _ => False)) N D ρ ⟨s.sl, fun k => (s.bk k).frz⟩ a W' := by
  have hun : ∀ k, s.bk k ≠ .un → (s.bk k).frz ≠ .un := fun k hk => by cases hx : s.bk k <;> simp_all [BK.frz]
  have cell : ∀ b o x, ¬ S b → W.cell? ⟨b, o, Option.none⟩ = some x → W'.cell? ⟨b, o, Option.none⟩ = some x := fun b o x hb hx => by
    have := hk.block b (isCellsAt_of_cell hx).lt hb
    simp only [World.cell?] at hx ⊢
    rw [this]; exact hx
  refine { defs := h.defs, size := h.size, sl := h.sl, bk := fun k => ?_, apart := fun i j b n b' n' hij hi hj => ?_, wf1 := fun t k hk => hun k (h.wf1 t k hk), wf2 := fun j k hk => hun k (h.wf2 j k ?_), kept := Kept.refl _ _, pl := fun k => ?_, old := fun i hi => ⟨rfl, hun i (hb i hi)⟩ }
  · have hbk := h.bk k
    show BRep ρ (Cx.only base W' ρ fun x => False).mine W' k (s.bk k).frz
    cases hx : s.bk k with
    | un => trivial
    | dead => trivial
    | live own sym cells =>
      rw [hx] at hbk
      simp only [BK.frz]
      cases own with
      | true =>
        rcases hbk with hbk | ⟨b, vs, rest, ty, h1, h2, h3, h4⟩
        · exact .inl hbk
        · refine .inr ⟨b, 0, _, vs, h1, ⟨by simp, fun _ hM => ?_⟩, h3, fun i x hi => ?_⟩
          · rcases hM with hM | hM
            · exact absurd (Nat.le_trans hk.size hM) (Nat.not_le_of_lt (heap_lt h4))
            · exact hM
          · refine cell b _ x (hS k _ _ _ hx b _ _ h1) ?_
            have hlt : i < vs.length := (List.getElem?_eq_some_iff.1 hi).1
            simp [World.cell?, h4, List.getElem?_append_left hlt, hi]
      | false =>
        rcases hbk with hbk | ⟨b, o, n, vs, h1, h2, h3, h4⟩
        · exact .inl hbk
        · refine .inr ⟨b, o, n, vs, h1, ⟨h2.1, fun hne hM => ?_⟩, h3, fun i x hi => cell b _ x (hS k _ _ _ hx b _ _ h1) (h4 i x hi)⟩
          obtain ⟨x, vs', rfl⟩ := List.exists_cons_of_ne_nil hne
          have hlt := (isCellsAt_of_cell (h4 0 x (by simp))).lt
          rcases hM with hM | hM
          · exact absurd (Nat.le_trans hk.size hM) (Nat.not_le_of_lt hlt)
          · exact hM
  · cases hx : s.bk i <;> simp only [hx, BK.frz] at hi <;> exact hi.elim
  · cases hx : s.bk j <;> simp only [hx, BK.frz, BK.has] at hk ⊢ <;> exact hk
  · have := h.pl k
    show (s.bk k).frz.pl
    cases hx : s.bk k with
    | un => trivial
    | dead => trivial
    | live own sym cells => rw [hx] at this; cases sym <;> exact this

/-! ### Between two calls of an iterator's -/
structure Seg (J : Nat → (Nat → Prop) → World → Prop) (W : World) (S : Nat → Prop) (i : Nat) (cx : Cx) (Sc : Nat → Prop) : Prop where
  j : J i Sc cx.w
  kept : Kept W S cx.w
  sub : ∀ b, Sc b → S b ∨ W.heap.size ≤ b
  apart : ∀ k b o n, k < cx.base → cx.ρ k = some (b, o, n) → ¬ Sc b
  own : ∀ b, ¬ cx.own b

structure SegX (Jx : (Nat → Prop) → World → Prop) (W : World) (S : Nat → Prop) (cx : Cx) : Prop where
  j : ∃ Sc, Jx Sc cx.w
  kept : Kept W S cx.w
  own : ∀ b, ¬ cx.own b

/-- What a call of an iterator's part comes to: it has gone on to m, or it has been told to stop. -/
def VR (J : Nat → (Nat → Prop) → World → Prop) (Jx : (Nat → Prop) → World → Prop) (m : Nat) (S : Nat → Prop) (W : World) (e : Ending) (W' : World) : Prop :=
  (e = .returned (.bool true) ∧ ∃ S', J m S' W' ∧ Kept W S W' ∧ ∀ b, S' b → S b ∨ W.heap.size ≤ b) ∨
  (e = .returned (.bool false) ∧ ∃ S', Jx S' W' ∧ Kept W S W')

def GrowsJ (J : Nat → (Nat → Prop) → World → Prop) : Prop := ∀ i S W W', J i S W → Below W.heap.size W W' → J i S W'
def GrowsX (Jx : (Nat → Prop) → World → Prop) : Prop := ∀ S W W', Jx S W → Below W.heap.size W W' → Jx S W'
def BoundJ (J : Nat → (Nat → Prop) → World → Prop) : Prop := ∀ i S W, J i S W → ∀ b, S b → b < W.heap.size

def liveC : BK → Bool
  | .live _ _ (_ :: _) => true
  | _ => false

/-- All blocks that may only be read were handed over. -/
def roBelow (base : Nat) : Nat → List BK → Bool
  | _, [] => true
  | i, .live false _ _ :: l => decide (i < base) && roBelow base (i + 1) l
  | i, _ :: l => roBelow base (i + 1) l

theorem roBelow_get {base : Nat} : ∀ {l : List BK} {i : Nat}, roBelow base i l = true → ∀ k sym cells, l[k]? = some (.live false sym cells) → i + k < base
  | [], i, _, k, _, _, h => by simp at h
  | x :: l, i, hr, k, sym, cells, h => by
    have hl : roBelow base (i + 1) l = true ∧ (∀ sym cells, x = .live false sym cells → i < base) := by
      cases x with
      | un => simp only [roBelow] at hr; exact ⟨hr, fun _ _ h => by cases h⟩
      | dead => simp only [roBelow] at hr; exact ⟨hr, fun _ _ h => by cases h⟩
      | live own sy cs => cases own with
        | true => simp only [roBelow] at hr; exact ⟨hr, fun _ _ h => by cases h⟩
        | false => simp only [roBelow, Bool.and_eq_true, decide_eq_true_eq] at hr; exact ⟨hr.2, fun _ _ _ => hr.1⟩
    cases k with
    | zero => simp at h; exact hl.2 _ _ h
    | succ k => have := roBelow_get hl.1 k sym cells (by simpa using h); omega

theorem Seg.safe {J : Nat → (Nat → Prop) → World → Prop} (hB : BoundJ J) {W0 : World} {S Sc : Nat → Prop} {i : Nat} (h : Seg J W0 S i cx Sc) {s : LS} (hr : Rep cx N D ρ s.fs a W) (hro : roBelow cx.base 0 s.bk = true) :
    ∀ k own sym cells, s.fs.bk k = .live own sym cells → ∀ b o n, ρ k = some (b, o, n) → ¬ Sc b := by
  intro k own sym cells hk b o n hρ hSc
  have hlt := hB _ _ _ h.j b hSc
  cases own with
  | true =>
    have := hr.bk k
    rw [hk] at this
    rcases this with ⟨q, _⟩ | ⟨b', vs, rest, ty, q1, q2, q3, q4⟩
    · rw [hρ] at q; cases q
    · rw [hρ] at q1; cases q1
      rcases q2 with q2 | q2
      · omega
      · exact h.own _ q2
  | false =>
    have hkb : k < cx.base := by
      have : s.bk[k]? = some (.live false sym cells) := by
        simp only [LS.fs, List.getD_eq_getElem?_getD] at hk
        cases hx : s.bk[k]? with
        | none => rw [hx] at hk; simp at hk
        | some y => rw [hx] at hk; simp at hk; rw [hk]
      have := roBelow_get hro k sym cells this; omega
    rw [(hr.old k hkb).1] at hρ
    exact h.apart k b o n hkb hρ hSc

theorem Seg.call {J : Nat → (Nat → Prop) → World → Prop} {Jx : (Nat → Prop) → World → Prop} (hB : BoundJ J) {W0 : World} {S Sc : Nat → Prop} {i m : Nat} (h : Seg J W0 S i cx Sc) {s : LS} (hr : Rep cx N D ρ s.fs a W) (hro : roBelow cx.base 0 s.bk = true)
    (hlive : s.bk.all liveC = true) {e : Ending} {W' : World} (hv : VR J Jx m Sc W e W') :
    ∃ b cx', e = .returned (.bool b) ∧ cx'.base = s.bk.length ∧ Rep cx' N D ρ ⟨s.fs.sl, fun k => (s.fs.bk k).frz⟩ a W' ∧ (b = true → ∃ Sc', Seg J W0 S m cx' Sc') ∧ (b = false → SegX Jx W0 S cx') := by
  have hsafe := h.safe hB hr hro
  have hlv : ∀ k, k < s.bk.length → ∃ own sym c cs, s.fs.bk k = .live own sym (c :: cs) := fun k hk => by
    have := List.all_eq_true.1 hlive s.bk[k] (by simp)
    rw [show s.fs.bk k = s.bk[k] by simp [LS.fs, List.getD_eq_getElem?_getD, hk]]
    cases hx : s.bk[k] with
    | un => rw [hx] at this; cases this
    | dead => rw [hx] at this; cases this
    | live own sym cells => cases cells with
      | nil => rw [hx] at this; cases this
      | cons c cs => exact ⟨own, sym, c, cs, rfl⟩
  have hun : ∀ k, k < s.bk.length → s.fs.bk k ≠ .un := fun k hk e => by
    obtain ⟨_, _, _, _, h⟩ := hlv k hk
    rw [e] at h; cases h
  have hbel : Below cx.w.heap.size cx.w W := by
    have := hr.kept
    exact ⟨this.os, this.tape, this.output, this.size, fun k hk => this.block k hk (h.own k)⟩
  have hkW : Kept W0 S W := h.kept.grow hbel
  have comp : ∀ {W' : World}, Kept W Sc W' → Kept W0 S W' := fun hk => hkW.trans hk (fun b hb hlt => by
    rcases h.sub b hb with h' | h'
    · exact h'
    · omega)
  rcases hv with ⟨rfl, S', j, k, sub⟩ | ⟨rfl, S', j, k⟩
  · refine ⟨true, Cx.only s.bk.length W' ρ (fun _ => False), rfl, rfl, hr.freeze k hsafe _ hun, fun _ => ⟨S', j, comp k, fun b hb => ?_, fun i b o n hi hρ hS' => ?_, fun b h => h⟩, (fun h => by cases h)⟩
    · rcases sub b hb with h' | h'
      · exact h.sub b h'
      · exact .inr (Nat.le_trans hkW.size h')
    · simp only [Cx.only] at hi hρ
      obtain ⟨own, sym, c, cs, hx⟩ := hlv i hi
      rcases sub b hS' with h' | h'
      · exact hsafe i own sym _ hx b o n hρ h'
      · have hbk := hr.bk i
        rw [hx] at hbk
        rcases hbk.read with ⟨q, _⟩ | ⟨b', o', n', vs, q1, ⟨q2, _⟩, _, q4⟩
        · rw [hρ] at q; cases q
        · rw [hρ] at q1; cases q1
          cases vs with
          | nil => simp [Rels] at q2
          | cons x vs =>
            have := (isCellsAt_of_cell (q4 0 x (by simp))).lt
            omega
  · exact ⟨false, Cx.only s.bk.length W' ρ (fun _ => False), rfl, rfl, hr.freeze k hsafe _ hun, (fun h => by cases h), fun _ => ⟨⟨S', j⟩, comp k, fun b h => h⟩⟩

theorem BRep.ro {M : Nat → Prop} {k : Nat} {sym : Bool} {cells : List SV} (h : BRep ρ M W k (.live false sym cells)) : BRep ρ (fun b => W.heap.size ≤ b) W k (.live false sym cells) := by
  rcases h with h | ⟨b, o, n, vs, h1, h2, h3, h4⟩
  · exact .inl h
  · refine .inr ⟨b, o, n, vs, h1, ⟨h2.1, fun hne hM => ?_⟩, h3, h4⟩
    obtain ⟨x, vs', rfl⟩ := List.exists_cons_of_ne_nil hne
    exact absurd hM (Nat.not_le_of_lt (isCellsAt_of_cell (h4 0 x (by simp))).lt)

/-- A call of a function value. -/
theorem op_call {o : Oper} {f : Operand} {args : Array Operand} {ts : Array TypeId} (hop : o.op = .call { callee := .value f, args := args, argTypes := ts }) {g : Nat} {caps : List Value} {R : Ending → World → Prop}
    (hf : a.eval f = .func (.func g) #[] caps.toArray) (hE : Enters P g) (hc : Calls P g (args.toList.map a.eval ++ caps).toArray W R) {K : Act → World → Prop} {Q : Exit → Act → World → Prop}
    (hK : ∀ e W', R e W' → ∃ v, e = .returned v ∧ K (a.put o.dst v) W') : o.wpIn (Fw r) n P a W K Q := by
  have hnd' : ∀ c, o.op ≠ .defer c := fun c hc => by rw [hop] at hc; cases hc
  have hrun : (execOp a.eval o).run P W = .ok (.enter g (args.toList.map a.eval ++ caps).toArray) W := by
    have e1 : (args.map a.eval) ++ caps.toArray = (args.toList.map a.eval ++ caps).toArray := by apply Array.ext'; simp
    simp only [execOp, hop, resolve, hf, Deferred.ofValue, Sem.run_bind, Sem.run_pure, Result.andThen_ok, invoke]
    simp only [Array.empty_append]
    rw [hE, e1]
  refine ⟨fun _ _ => trivial, ?_⟩
  rw [Oper.semAt_eq _ _ _ hnd', hrun]
  simp only [Oper.uponIn]
  refine ⟨fun h => by simp [Fw] at h, callsIn_Fw.2 (hc.mono fun e w' hR => ?_)⟩
  obtain ⟨v, rfl, h⟩ := hK e w' hR
  exact h

/-- A call of yield. -/
theorem op_yield {o : Oper} {f : Operand} {args : Array Operand} {ts : Array TypeId} (hop : o.op = .call { callee := .value f, args := args, argTypes := ts }) {l : Nat} {R : Ending → World → Prop}
    (hf : a.eval f = .func (.yield l) #[] #[]) {vs : Array Value} (hvs : args.map a.eval = vs) (hc : YieldAt (Fw Option.none) 9 P l vs W R) {K : Act → World → Prop} {Q : Exit → Act → World → Prop}
    (hK : ∀ e W', R e W' → ∃ v, e = .returned v ∧ K (a.put o.dst v) W') : o.wpIn (Fw Option.none) n P a W K Q := by
  have hnd' : ∀ c, o.op ≠ .defer c := fun c hc => by rw [hop] at hc; cases hc
  obtain ⟨fn, tmps, assign, body, hy, hround⟩ := hc
  have hrun : (execOp a.eval o).run P W = .ok (.round l fn tmps assign body) W := by
    simp only [execOp, hop, resolve, hf, Deferred.ofValue, Sem.run_bind, Sem.run_pure, Result.andThen_ok, invoke]
    simp only [Array.empty_append]
    rw [hvs]; exact hy
  refine ⟨fun _ _ => trivial, ?_⟩
  rw [Oper.semAt_eq _ _ _ hnd', hrun]
  simp only [Oper.uponIn]
  refine ⟨fun h => by simp [Fw] at h, roundIn_n (n := 9) (hround.mono fun e w' hR => ?_)⟩
  obtain ⟨v, rfl, h⟩ := hK e w' hR
  exact h

theorem range_split {x y : Nat} : List.range (x + (y + 1)) = List.range' 0 x ++ x :: List.range' (x + 1) y := by
  rw [List.range_eq_range', ← List.range'_succ, ← List.range'_append_1]
  simp

/-- **A region that calls such a function.** -/
theorem good_visit (hT : TOk P T) {Q : Exit → Act → World → Prop} {J : Nat → (Nat → Prop) → World → Prop} {Jx : (Nat → Prop) → World → Prop} (hJ : GrowsJ J) (hB : BoundJ J) {W0 : World} {S Sc : Nat → Prop} {i m : Nat} (hseg : Seg J W0 S i cx Sc)
    {ops : Array Oper} {id : Nat} {k : List K} {s s1 : LS} (l1 : List Oper) (o : Oper) (l2 : List Oper) (hops : ops.toList = l1 ++ o :: l2) {orc1 : List Or} {evs1 : List Ev} {obs1 : List Ob}
    (h1 : evOps T ops l1 0 s orc1 = some (evs1, s1, obs1, [])) (ho1 : Obs P obs1) (hg : o.guard = Option.none) {dst : Nat} (hd : o.dst = some dst) (hdl : dst < s1.sl.length)
    (hro : roBelow cx.base 0 s1.bk = true) (hlive : s1.bk.all liveC = true)
    (hcall : ∀ ρ a W2, Rep cx s1.sl.length D ρ s1.fs a W2 → (∀ k own sym cells, s1.fs.bk k = .live own sym cells → ∀ b o n, ρ k = some (b, o, n) → ¬ Sc b) → J i Sc W2 →
      ∀ (K : Act → World → Prop) (Q' : Exit → Act → World → Prop), (∀ e W', VR J Jx m Sc W2 e W' → ∃ v, e = .returned v ∧ K (a.put o.dst v) W') → o.wpIn (Fw Option.none) n P a W2 K Q')
    {s3 : Bool → LS} {orc2 : Bool → List Or} {evs2 : Bool → List Ev} {obs2 : Bool → List Ob} (h2 : ∀ b, evOps T ops l2 (l1.length + 1) ⟨s1.sl.set dst (.v (.bool b)), s1.bk.map BK.frz⟩ (orc2 b) = some (evs2 b, s3 b, obs2 b, [])) (ho2 : ∀ b, Obs P (obs2 b))
    (hgood : ∀ b cx', cx'.base = s1.bk.length → (b = true → ∃ Sc', Seg J W0 S m cx' Sc') → (b = false → SegX Jx W0 S cx') → Good P Option.none n Q cx' D k (s3 b)) :
    Good P Option.none n Q cx D (.c (.region id ops false) :: k) s := by
  intro ρ a W hrep
  simp only [cont]
  refine wpIn_region ?_
  have hsz : ops.size = l1.length + (l2.length + 1) := by
    have := congrArg List.length hops; simpa using this
  have hget : ∀ j, ops[j]? = (l1 ++ o :: l2)[j]? := fun j => by rw [← hops, Array.getElem?_toList]
  rw [hsz, range_split]
  refine ops_pre hT l1 0 s s1 orc1 [] evs1 obs1 h1 ho1 (fun j o' hj => ?_) ρ a W hrep (fun ρ1 a1 W1 hrep1 hl1 => ?_)
  · rw [hget, Nat.zero_add, List.getElem?_append_left (List.getElem?_eq_some_iff.1 hj).1]; exact hj
  rw [← hl1] at hrep1
  rw [wpOpsIn_cons]
  unfold wpOpIn
  have ho : ops[l1.length]? = some o := by rw [hget, List.getElem?_append_right (Nat.le_refl _)]; simp
  rw [ho]
  have hw : Region.wanted o (yielded ops a1.tmps) = true := by unfold Region.wanted; rw [hg]
  simp only [hw, if_true]
  have hbel : Below cx.w.heap.size cx.w W1 := by
    have := hrep1.kept
    exact ⟨this.os, this.tape, this.output, this.size, fun k hk => this.block k hk (hseg.own k)⟩
  refine hcall ρ1 a1 W1 hrep1 (hseg.safe hB hrep1 hro) (hJ _ _ _ _ hseg.j hbel) _ _ (fun e W' hv => ?_)
  obtain ⟨b, cx', rfl, hbase, hrep2, hs1, hs2⟩ := hseg.call hB hrep1 hro hlive hv
  refine ⟨_, rfl, ?_⟩
  have h3 := hrep2.put o.dst (fun d hd' => by rw [hd] at hd'; cases hd'; exact hdl) (x := .v (.bool b)) (y := .bool b) (by simp [Rel]) (fun k hk => absurd hk (by simp [SV.has]))
  have efs : ((⟨s1.fs.sl, fun k => (s1.fs.bk k).frz⟩ : FS).app o.dst { val := .v (.bool b) }) = (⟨s1.sl.set dst (.v (.bool b)), s1.bk.map BK.frz⟩ : LS).fs := by
    rw [hd]
    simp only [FS.app, LS.fs, upds]
    congr 1
    · funext t
      simp only [List.getD_eq_getElem?_getD, List.getElem?_set]
      by_cases ht : t = dst
      · subst ht; simp [hdl]
      · rw [if_neg ht, if_neg (fun e => ht e.symm)]
    · funext k
      simp only [List.getD_eq_getElem?_getD, List.getElem?_map]
      cases s1.bk[k]? <;> rfl
  rw [efs] at h3
  have hl3 : (⟨s1.sl.set dst (.v (.bool b)), s1.bk.map BK.frz⟩ : LS).sl.length = s1.sl.length := by simp
  have hpre := ops_pre (r := Option.none) (n := n) (Q := cont Option.none n P Q k) (rest := []) hT l2 (l1.length + 1) _ (s3 b) (orc2 b) [] (evs2 b) (obs2 b) (h2 b) (ho2 b) (fun j o' hj => ?_) ρ1 _ W' (by rw [hl3]; exact h3) (fun ρ4 a4 W4 hrep4 hl4 => ?_)
  · rw [List.append_nil] at hpre; exact hpre
  · rw [hget, List.getElem?_append_right (by omega), show l1.length + 1 + j - l1.length = j + 1 by omega]; simpa using hj
  · simp only [wpOpsIn]
    exact hgood b cx' hbase hs1 hs2 ρ4 a4 W4 (by rw [hl4]; exact hrep4)

/-- The end of an iterator's part. -/
theorem fin_iter (hT : TOk P T) {fn : Func} {R : Ending → World → Prop} {s : LS} {x : SV} {b : Bool} (hres : resVals T s.fs fn.results.toList = some [x]) (hx : ∀ ρ v, Rel ρ x v → v = .bool b) (hown : ∀ b, ¬ cx.own b)
    (hR : ∀ W, Below cx.w.heap.size cx.w W → R (.returned (.bool b)) W) : GoodAt (bodyPost P fn R) .ret cx [] s := by
  intro ρ a W hrep
  obtain ⟨vs, hrun, hrel⟩ := resVals_ok hT hrep fn.results.toList [x] hres #[]
  have hmap : (fn.results.mapM (rvSem a.tmps)).run P W = .ok vs.toArray W := by
    rw [Array.mapM_eq_foldlM, ← Array.foldlM_toList]
    simp only [Array.empty_append] at hrun
    rw [← hrun]
    simp only [bind_pure_comp]
  obtain ⟨y, rfl, hy⟩ : ∃ y, vs = [y] ∧ Rel ρ x y := rels1 hrel
  refine ⟨hrep.defs, y, ?_, ?_⟩
  · rw [results_eq]
    simp only [Sem.run_bind, hmap, Result.andThen_ok, Sem.run_pure]
    simp
  · have := hx ρ y hy
    subst this
    have hk := hrep.kept
    exact hR W ⟨hk.os, hk.tape, hk.output, hk.size, fun k hk' => hk.block k hk' (hown k)⟩

/-- Part of a region: the state behind it, and what is owed. -/
def evS (T : Nat → Option TI) (ops : Array Oper) (l : List Oper) (i : Nat) (s : LS) (orc : List Or) : Option (LS × List Ob) :=
  match evOps T ops l i s orc with
  | some (_, s', obs, []) => some (s', obs)
  | _ => Option.none

theorem evS_spec {ops : Array Oper} {l : List Oper} {i : Nat} {s s' : LS} {orc : List Or} {obs : List Ob} (h : evS T ops l i s orc = some (s', obs)) : ∃ evs, evOps T ops l i s orc = some (evs, s', obs, []) := by
  unfold evS at h
  split at h
  · rename_i evs s2 obs2 he
    simp only [Option.some.injEq, Prod.mk.injEq] at h
    obtain ⟨rfl, rfl⟩ := h
    exact ⟨evs, he⟩
  · cases h

/-- A region that calls such a function; certificates. -/
theorem visit_of (hT : TOk P T) {Q : Exit → Act → World → Prop} {J : Nat → (Nat → Prop) → World → Prop} {Jx : (Nat → Prop) → World → Prop} (hJ : GrowsJ J) (hB : BoundJ J) {W0 : World} {S Sc : Nat → Prop} {i m : Nat} (hseg : Seg J W0 S i cx Sc)
    {ops : Array Oper} {id : Nat} {k : List K} {s s1 : LS} (l1 : List Oper) (o : Oper) (l2 : List Oper) (hops : ops.toList = l1 ++ o :: l2)
    (h1 : evS T ops l1 0 s [] = some (s1, [])) (hg : o.guard = Option.none) (dst : Nat) (hd : o.dst = some dst) (hdl : dst < s1.sl.length)
    (base : Nat) (hbase : cx.base = base) (hro : roBelow base 0 s1.bk = true) (hlive : s1.bk.all liveC = true)
    (hcall : ∀ ρ a W2, Rep cx s1.sl.length D ρ s1.fs a W2 → (∀ k own sym cells, s1.fs.bk k = .live own sym cells → ∀ b o n, ρ k = some (b, o, n) → ¬ Sc b) → J i Sc W2 →
      ∀ (K : Act → World → Prop) (Q' : Exit → Act → World → Prop), (∀ e W', VR J Jx m Sc W2 e W' → ∃ v, e = .returned v ∧ K (a.put o.dst v) W') → o.wpIn (Fw Option.none) n P a W2 K Q')
    (s3 : Bool → LS) (h2 : ∀ b, evS T ops l2 (l1.length + 1) ⟨s1.sl.set dst (.v (.bool b)), s1.bk.map BK.frz⟩ [] = some (s3 b, []))
    (hgood : ∀ b cx', cx'.base = s1.bk.length → (b = true → ∃ Sc', Seg J W0 S m cx' Sc') → (b = false → SegX Jx W0 S cx') → Good P Option.none n Q cx' D k (s3 b)) :
    Good P Option.none n Q cx D (.c (.region id ops false) :: k) s := by
  subst hbase
  obtain ⟨evs1, h1'⟩ := evS_spec h1
  exact good_visit hT hJ hB hseg l1 o l2 hops h1' trivial hg hd hdl hro hlive hcall (s3 := s3) (orc2 := fun _ => []) (evs2 := fun b => (evS_spec (h2 b)).choose) (obs2 := fun _ => []) (fun b => (evS_spec (h2 b)).choose_spec) (fun _ => trivial) hgood

def retB (T : Nat → Option TI) (rv : List ResultVar) (b : Bool) : Option (Out × List Ob × List Or) → Option (List Ob)
  | some (.ret s, obs, []) => match resVals T s.fs rv with
    | some [.b c] => if c = b then some obs else Option.none
    | some [.v (.bool c)] => if c = b then some obs else Option.none
    | _ => Option.none
  | _ => Option.none

/-- A run to the end of an iterator's part, which returns b. -/
theorem retB_of (hT : TOk P T) (hm : P.follows .mixedOrders = true) {fn : Func} {R : Ending → World → Prop} {f : Nat} {k : List K} {s : LS} {orc : List Or} {b : Bool} {obs : List Ob} (h : retB T fn.results.toList b (run T f k s orc) = some obs) (hob : Obs P obs) (hown : ∀ b, ¬ cx.own b)
    (hR : ∀ W, Below cx.w.heap.size cx.w W → R (.returned (.bool b)) W) : Good P r n (bodyPost P fn R) cx [] k s := by
  unfold retB at h
  split at h
  · rename_i s' obs' hrun
    split at h
    · rename_i c hres
      split at h
      · rename_i hc
        subst hc
        simp only [Option.some.injEq] at h; subst h
        exact run_ok hT hm f k s orc _ _ _ hrun hob (fin_iter hT hres (fun ρ v hv => by simpa [Rel] using hv) hown hR)
      · cases h
    · rename_i c hres
      split at h
      · rename_i hc
        subst hc
        simp only [Option.some.injEq] at h; subst h
        exact run_ok hT hm f k s orc _ _ _ hrun hob (fin_iter hT hres (fun ρ v hv => by simpa [Rel] using hv) hown hR)
      · cases h
    · cases h
  · cases h

theorem results_nil {fn : Func} {W : World} {tmps : Array Value} (h : fn.results = #[]) : (results fn tmps).run P W = .ok (.tuple #[]) W := by
  rw [results_eq, h]
  simp [Array.mapM_eq_foldlM]

theorem calls_of_good {n : Nat} {f : Nat} {fn : Func} {c : Code} {args : List SV} {bs : List BK} {vs : List Value} {R : Ending → World → Prop} (hf : P.funcs[f]? = some fn) (hb : fn.body = some c)
    (hlen : args.length ≤ fn.ntmps) (hlive : (bs.all isLive && belowL bs.length args) = true) (hbs : belowBs bs.length bs) (hro : roBelow bs.length 0 bs = true) (hnown : ∀ i, ¬ (bs.getD i .un).own)
    (hargs : Rels ρ args vs) (hbr : ∀ i, BRep ρ (fun b => W.heap.size ≤ b) W i (bs.getD i .un)) (hpl : ∀ i, (bs.getD i .un).pl)
    (h : ∀ cx : Cx, cx.base = bs.length → cx.w = W → cx.ρ = ρ → (∀ b, ¬ cx.own b) → Good P Option.none n (bodyPost P fn R) cx [] [.c c] (start fn.ntmps args bs)) : Calls P f vs.toArray W R := by
  have ho : ∀ b, ¬ (callCx ρ W bs).own b := fun b ⟨i, n, hi, _⟩ => hnown i hi
  have hbr' : ∀ i, BRep ρ (callCx ρ W bs).mine W i (bs.getD i .un) := fun i => by
    have := hbr i
    cases hx : bs.getD i .un with
    | un => trivial
    | dead => trivial
    | live own sym cells =>
      rw [hx] at this
      cases own with
      | true => exact (hnown i (by rw [hx]; trivial)).elim
      | false =>
        rcases this with h | ⟨b, o, n, vs, h1, h2, h3, h4⟩
        · exact .inl h
        · refine .inr ⟨b, o, n, vs, h1, ⟨h2.1, fun hne hM => h2.2 hne ?_⟩, h3, h4⟩
          rcases hM with hM | hM
          · exact hM
          · exact (ho b hM).elim
  have hrep := start_rep hlen (by rw [hlive, belowBs_all hbs]; rfl) hargs hbr' hpl (fun i j b n b' n' _ hi => (hnown i hi).elim)
  refine calls_of_wp hf hb ?_
  have := h (callCx ρ W bs) rfl rfl rfl ho ρ _ W hrep
  simp only [cont] at this
  exact (wpIn_wide (n := n)).1 this

/-! ### Ranges, with certificates -/
theorem runL_foldl {V α : Type} (f : V → α → V) : ∀ (xs : List α) (v : V), runL (R := Empty) (fun v x => .inl (f v x)) xs v = .inl (xs.foldl f v)
  | [], v => rfl
  | x :: xs, v => by simp only [runL, List.foldl_cons]; exact runL_foldl f xs (f v x)

/-- What may only be read in l' may only be read in l, and is the same. -/
def roSub : List BK → List BK → Prop
  | [], _ => True
  | .live false sy c :: l', x :: l => x = .live false sy c ∧ roSub l' l
  | .live false _ _ :: _, [] => False
  | _ :: l', x :: l => roSub l' l
  | _ :: l', [] => roSub l' []

theorem roSub_ro {l' l : List BK} {sy : Bool} {c : List SV} (h : roSub l' l) : roSub (.live false sy c :: l') (.live false sy c :: l) := ⟨rfl, h⟩
theorem roSub_own {l' l : List BK} {sy : Bool} {c : List SV} {x : BK} (h : roSub l' l) : roSub (.live true sy c :: l') (x :: l) := h
theorem roSub_dead {l' l : List BK} {x : BK} (h : roSub l' l) : roSub (.dead :: l') (x :: l) := h
theorem roSub_nil {l : List BK} : roSub [] l := by cases l <;> exact trivial

theorem roSub_get : ∀ {l' l : List BK}, roSub l' l → ∀ (k : Nat) (sy : Bool) (c : List SV), l'[k]? = some (BK.live false sy c) → l[k]? = some (BK.live false sy c)
  | [], _, _, k, _, _, h => by simp at h
  | x :: l', y :: l, hr, k, sy, c, h => by
    have hl : roSub l' l ∧ (∀ sy c, x = .live false sy c → y = .live false sy c) := by
      cases x with
      | un => exact ⟨hr, fun _ _ h => by cases h⟩
      | dead => exact ⟨hr, fun _ _ h => by cases h⟩
      | live o s' c' => cases o with
        | true => exact ⟨hr, fun _ _ h => by cases h⟩
        | false => exact ⟨hr.2, fun _ _ h => by cases h; exact hr.1⟩
    cases k with
    | zero => simp at h; rw [h] at hl; simpa using hl.2 _ _ rfl
    | succ k => simpa using roSub_get hl.1 k sy c (by simpa using h)
  | x :: l', [], hr, k, sy, c, h => by
    cases x with
    | un => cases k with
      | zero => simp at h
      | succ k => have := roSub_get (l' := l') (l := []) hr k sy c (by simpa using h); simp at this
    | dead => cases k with
      | zero => simp at h
      | succ k => have := roSub_get (l' := l') (l := []) hr k sy c (by simpa using h); simp at this
    | live o s' c' => cases o with
      | true => cases k with
        | zero => simp at h
        | succ k => have := roSub_get (l' := l') (l := []) hr k sy c (by simpa using h); simp at this
      | false => exact hr.elim

theorem fs_get {s : LS} {k : Nat} {o sy : Bool} {c : List SV} (h : s.fs.bk k = .live o sy c) : s.bk[k]? = some (.live o sy c) := by
  simp only [LS.fs, List.getD_eq_getElem?_getD] at h
  cases hx : s.bk[k]? with
  | none => rw [hx] at h; simp at h
  | some y => rw [hx] at h; simp at h; rw [h]

theorem fs_of {s : LS} {k : Nat} {o sy : Bool} {c : List SV} (h : s.bk[k]? = some (.live o sy c)) : s.fs.bk k = .live o sy c := by
  simp only [LS.fs, List.getD_eq_getElem?_getD, h, Option.getD_some]

theorem range_of {α V R' : Type} {Q : Exit → Act → World → Prop} {s0 : LS} {k : List K} {g : Operand} {t : Tmp} {assign body : Code} {gf : Nat} {caps : List SV} {enc : α → Value} {xs : List α}
    {base0 : Nat} (hb0 : cx.base = base0) (hgv : ev s0.fs.sl g = .f gf caps) (ks : List Nat) (capsR : List SV) (bs : List BK) (hc : renL ks caps = some capsR) (hbs : renBs ks s0.fs.bk ks [] = some bs) (hit : Iter P gf capsR bs enc xs)
    (encS : α → SV) (henc : ∀ ρ x, Rel ρ (encS x) (enc x)) (hpl : ∀ x k, ¬ (encS x).has k)
    (base : Nat) (hbase : base0 ≤ base) (ht : t < s0.sl.length)
    (st : V → LS) (v0 : V) (h0 : st v0 = s0) (hsl : ∀ v, (st v).sl = s0.sl) (hslb : belowL base s0.sl = true)
    (hro1 : ∀ v v', roSub (st v').bk (st v).bk) (hro2 : ∀ v, roBelow base 0 (st v).bk = true)
    (hun1 : ∀ v, ((st v).bk.all fun b => !isUn b) = true) (hun2 : ∀ v, base ≤ (st v).bk.length)
    (step : V → α → V ⊕ R') (str : R' → LS) (hrr1 : ∀ v r, roSub (str r).bk (st v).bk) (hrr2 : ∀ r, roBelow base 0 (str r).bk = true)
    (inv : Nat → V → Prop) (hi0 : inv 0 v0) (sA : V → α → LS) (hsAl : ∀ v x, (sA v x).sl.length = s0.sl.length)
    (hsA1 : ∀ v x, ((sA v x).bk.all fun b => !isUn b) = true) (hsA2 : ∀ v x, base ≤ (sA v x).bk.length)
    (hA : ∀ (cx' : Cx) (l i : Nat) (v : V) (x : α) (QA : Exit → Act → World → Prop), cx'.base = base → xs[i]? = some x → inv i v → GoodAt QA .normal cx' [] (sA v x) → Good P (some l) 9 QA cx' [] [.c assign] ⟨s0.sl.set t (encS x), (st v).bk⟩)
    (hB : ∀ (cx' : Cx) (l i : Nat) (v : V) (x : α) (QB : Exit → Act → World → Prop), cx'.base = base → xs[i]? = some x → inv i v →
      (∀ v', step v x = .inl v' → inv (i + 1) v' → GoodAt QB .normal cx' [] ⟨List.replicate s0.sl.length .u, (st v').bk⟩) →
      (∀ r, step v x = .inr r → GoodAt QB .ret cx' [] ⟨List.replicate s0.sl.length .u, (str r).bk⟩) → Good P (some l) 9 QB cx' [] [.c body] (sA v x))
    (hrest : ∀ (cx' : Cx) (d : Nat) (v : V), Held cx d cx' → runL step xs v0 = .inl v → inv xs.length v → Good P Option.none n Q cx' [mark d] k (st v))
    (hexit : ∀ (cx' : Cx) (d : Nat) (r : R'), Held cx d cx' → runL step xs v0 = .inr r → GoodAt Q .ret cx' [mark d] ⟨s0.sl, (str r).bk⟩) :
    Good P Option.none n Q cx [] (.c (.rangeFunc g #[t] assign body) :: k) s0 := by
  subst hb0
  have nun : ∀ {l : List BK}, (l.all fun b => !isUn b) = true → base ≤ l.length → ∀ i, i < base → l.getD i .un ≠ .un := fun {l} h1 h2 i hi => by
    have hlt : i < l.length := Nat.lt_of_lt_of_le hi h2
    have := List.all_eq_true.1 h1 l[i] (by simp)
    rw [show l.getD i .un = l[i] by simp [List.getD_eq_getElem?_getD, hlt]]
    intro e; rw [e] at this; simp [isUn] at this
  exact good_range hgv ks hc hbs hit encS henc hpl base hbase ht st v0 h0 hsl hslb
    (fun v v' k sym cells hk => ⟨fs_of (roSub_get (hro1 v v') k sym cells (fs_get hk)), by have := roBelow_get (hro2 v') k sym cells (fs_get hk); omega⟩)
    (fun v i hi => nun (hun1 v) (hun2 v) i hi) step str
    (fun v r k sym cells hk => ⟨fs_of (roSub_get (hrr1 v r) k sym cells (fs_get hk)), by have := roBelow_get (hrr2 r) k sym cells (fs_get hk); omega⟩)
    inv hi0 sA hsAl (fun v x i hi => nun (hsA1 v x) (hsA2 v x) i hi) hA hB hrest hexit

/-- Where a piece of code stands: the piece, and what is to be done behind it. -/
def codeAt : List Nat → List Nat → Code → List K → Option (Code × List K)
  | [], _, x, k => some (x, k)
  | q :: p, ms, .seq a b, k => if q = 0 then codeAt p ms a (.c b :: k) else codeAt p ms b k
  | _ :: p, ms, .block id c, k => codeAt p ms c (.b id :: k)
  | q :: p, ms, .cond _ a b, k => if q = 0 then codeAt p ms a k else codeAt p ms b k
  | _ :: p, m :: ms, .loop body, k => codeAt p ms body (.l body m :: k)
  | _ :: p, m :: ms, .scope body, k => codeAt p ms body (.s body m :: k)
  | _, _, _, _ => Option.none

def codeAtD (p ms : List Nat) (c : Code) : Code × List K := (codeAt p ms c []).getD (.skip, [])
end
end Go.Aw

namespace Go.Proofs.YtnkeljlllagddaaGreat
open Go.Proofs Go.Aw Go.RowKit
set_option maxRecDepth 100000
set_option linter.unusedVariables false
set_option linter.unusedSimpArgs false

noncomputable def T0 := conv Tryz.prog
theorem hT : TOk Tryz.prog T0 := fun _ _ h => h
theorem hm : Tryz.prog.follows .mixedOrders = true := by kernel_rfl
def W (n : Int) : Int := IntKind.wrap .i64 n
theorem W_def (n : Int) : W n = if n % 18446744073709551616 ≥ 9223372036854775808 then n % 18446744073709551616 - 18446744073709551616 else n % 18446744073709551616 := by
  unfold W IntKind.wrap
  simp [IntKind.bits, IntKind.signed]
theorem W_eq {n : Int} (h1 : -9223372036854775808 ≤ n) (h2 : n < 9223372036854775808) : W n = n := by
  rw [W_def]; split <;> omega
theorem shr_eq (x : Int) (k : Nat) {m : Nat} (hm : (2 : Int) ^ (min (Int.toNat k) 64) = m) : Int.fdiv x (2 ^ (min (Int.toNat k) 64)) = x / m := by
  rw [hm]; exact Int.fdiv_eq_ediv_of_nonneg _ (by omega)
theorem mid1_eq {a b : Int} (h : 0 ≤ a ∧ a ≤ b ∧ b ≤ 2147483648) : W (Int.tdiv (W ((W (a + b)) + 1)) 2) = (a + b + 1) / 2 := by
  rw [W_eq (n := a + b) (by omega) (by omega), W_eq (n := a + b + 1) (by omega) (by omega), Int.tdiv_eq_ediv_of_nonneg (by omega), W_eq (by omega) (by omega)]
theorem mid2_eq {a b : Int} (h : 0 ≤ a ∧ a ≤ b ∧ b ≤ 2147483648) : W ((W (Int.tdiv (W ((W (a + b)) + 1)) 2)) - 1) = (a + b + 1) / 2 - 1 := by
  rw [mid1_eq h, W_eq (by omega) (by omega)]
theorem u64_nn (n : Int) : 0 ≤ IntKind.wrap .u64 n := by
  simp only [IntKind.wrap, IntKind.bits, IntKind.signed]
  simp
  omega
theorem bool_tf (b : Bool) : b = true ∨ b = false := by cases b <;> simp
/-- the cells of a panel, of a point, of a span -/
def k9 (x : (Int × Int × Int) × (Int × Int × Int) × Int × Int × Int) : List SV := [(iv x.1.1), (iv x.1.2.1), (iv x.1.2.2), (iv x.2.1.1), (iv x.2.1.2.1), (iv x.2.1.2.2), (iv x.2.2.1), (iv x.2.2.2.1), (iv x.2.2.2.2)]
def k3 (x : Int × Int × Int) : List SV := [(iv x.1), (iv x.2.1), (iv x.2.2)]
def k2 (x : Int × Int) : List SV := [(iv x.1), (iv x.2)]

/-- facet/field.times -/
def F170 (a0 : Int × Int × Int) (a1 : Int) : Int × Int × Int :=
  ((W (a1 * a0.1)), (W (a1 * a0.2.1)), (W (a1 * a0.2.2)))

theorem C170 (a0 : Int × Int × Int) (a1 : Int) : Con Tryz.prog 170 [(.a (k3 a0)), (iv a1)] [] (.a (k3 (F170 a0 a1))) [] := by
  have e : (F170 a0 a1) = ((W (a1 * a0.1)), (W (a1 * a0.2.1)), (W (a1 * a0.2.2))) := by simp only [F170]
  rw [e]
  refine con_of (n := 9) Tryz.func170 rfl (ent Tryz.func170 (by kernel_rfl) rfl) (by show 2 ≤ Tryz.f170.ntmps; decide) (by kernel_rfl) trivial (fun cx hcx => ?_)
  exact ret_of (T := T0) hT hm (f := 5000) (orc := []) [] [] [] hcx
    (obs := []) (by kernel_rfl) trivial

/-- facet/field.middle -/
def F223 (a0 : Int × Int × Int) (a1 : Int × Int × Int) : Int × Int × Int :=
  ((W (a0.1 + a1.1)), (W (a0.2.1 + a1.2.1)), (W (a0.2.2 + a1.2.2)))

theorem C223 (a0 : Int × Int × Int) (a1 : Int × Int × Int) : Con Tryz.prog 223 [(.a (k3 a0)), (.a (k3 a1))] [] (.a (k3 (F223 a0 a1))) [] := by
  have e : (F223 a0 a1) = ((W (a0.1 + a1.1)), (W (a0.2.1 + a1.2.1)), (W (a0.2.2 + a1.2.2))) := by simp only [F223]
  rw [e]
  refine con_of (n := 9) Tryz.func223 rfl (ent Tryz.func223 (by kernel_rfl) rfl) (by show 2 ≤ Tryz.f223.ntmps; decide) (by kernel_rfl) trivial (fun cx hcx => ?_)
  exact ret_of (T := T0) hT hm (f := 5000) (orc := []) [] [] [] hcx
    (obs := []) (by kernel_rfl) trivial

/-- a panel's cells -/
def cP (x : (Int × Int × Int) × (Int × Int × Int) × Int × Int × Int) : List SV := [iv x.1.1, iv x.1.2.1, iv x.1.2.2, iv x.2.1.1, iv x.2.1.2.1, iv x.2.1.2.2, iv x.2.2.1, iv x.2.2.2.1, iv x.2.2.2.2]
def encP (x : (Int × Int × Int) × (Int × Int × Int) × Int × Int × Int) : Value := .agg #[.int .i64 x.1.1, .int .i64 x.1.2.1, .int .i64 x.1.2.2, .int .i64 x.2.1.1, .int .i64 x.2.1.2.1, .int .i64 x.2.1.2.2, .int .i64 x.2.2.1, .int .i64 x.2.2.2.1, .int .i64 x.2.2.2.2]
theorem encP_rel (ρ : Env) (x : (Int × Int × Int) × (Int × Int × Int) × Int × Int × Int) : Rel ρ (.a (cP x)) (encP x) := by
  simp only [Rel]; exact ⟨_, rfl, by simp [cP, Rels, Rel, iv]⟩
theorem cP_has (x : (Int × Int × Int) × (Int × Int × Int) × Int × Int × Int) (k : Nat) : ¬ (SV.a (cP x)).has k := by
  simp [cP, SV.has, SV.hasl, iv]
def yv (l : Nat) : Value := .func (.yield l) #[] #[]
def q1 (p : (Int × Int × Int) × (Int × Int × Int) × Int × Int × Int) : (Int × Int × Int) × (Int × Int × Int) × Int × Int × Int := (F170 p.1 2, F223 p.1 p.2.1, F223 p.2.2 p.1)
def q2 (p : (Int × Int × Int) × (Int × Int × Int) × Int × Int × Int) : (Int × Int × Int) × (Int × Int × Int) × Int × Int × Int := (F223 p.1 p.2.1, F170 p.2.1 2, F223 p.2.1 p.2.2)
def q3 (p : (Int × Int × Int) × (Int × Int × Int) × Int × Int × Int) : (Int × Int × Int) × (Int × Int × Int) × Int × Int × Int := (F223 p.2.2 p.1, F223 p.2.1 p.2.2, F170 p.2.2 2)
def q4 (p : (Int × Int × Int) × (Int × Int × Int) × Int × Int × Int) : (Int × Int × Int) × (Int × Int × Int) × Int × Int × Int := (F223 p.1 p.2.1, F223 p.2.1 p.2.2, F223 p.2.2 p.1)
/-- the parts of a panel, in the order in which they come -/
def cutL : Nat → (Int × Int × Int) × (Int × Int × Int) × Int × Int × Int → List ((Int × Int × Int) × (Int × Int × Int) × Int × Int × Int)
  | 0, p => [p]
  | d + 1, p => cutL d (q1 p) ++ (cutL d (q2 p) ++ (cutL d (q3 p) ++ cutL d (q4 p)))
theorem cutL_length : ∀ (d : Nat) (p : (Int × Int × Int) × (Int × Int × Int) × Int × Int × Int), (cutL d p).length = 4 ^ d
  | 0, p => rfl
  | d + 1, p => by simp only [cutL, List.length_append, cutL_length d, Nat.pow_succ]; omega

/-- what the visiting function keeps to -/
def VisitAt (l : Nat) (J : Nat → (Nat → Prop) → World → Prop) (Jx : (Nat → Prop) → World → Prop) (xs : List ((Int × Int × Int) × (Int × Int × Int) × Int × Int × Int)) (d : Nat) : Prop :=
  ∀ (p : (Int × Int × Int) × (Int × Int × Int) × Int × Int × Int) (i : Nat) (S : Nat → Prop) (W : World) (ρ : Env) (vs : List Value), Rels ρ [.a (cP p), iv d, .p 0 0, .p 1 0] vs →
    BRep ρ (fun b => W.heap.size ≤ b) W 0 (.live false false [.v (yv l)]) → BRep ρ (fun b => W.heap.size ≤ b) W 1 (.live false false [.f 222 [.p 0 0, .p 1 0]]) →
    (∀ k, k < 2 → ∀ b o n, ρ k = some (b, o, n) → ¬ S b) → J i S W → (∀ j x, (cutL d p)[j]? = some x → xs[i + j]? = some x) →
    Calls Tryz.prog 222 vs.toArray W (VR J Jx (i + (cutL d p).length) S W)

noncomputable def OY : Array Oper := match (codeAtD [1, 0, 1, 0, 0] [] (Tryz.f222.body.getD .skip)).1 with
  | .region _ ops _ => ops
  | _ => #[]
noncomputable def KY : List K := (codeAtD [1, 0, 1, 0, 0] [] (Tryz.f222.body.getD .skip)).2
noncomputable def OV : Array Oper := match (codeAtD [1, 1, 1, 1, 0, 1, 0, 0, 1, 1, 0, 0, 1, 0] [0] (Tryz.f222.body.getD .skip)).1 with
  | .region _ ops _ => ops
  | _ => #[]
noncomputable def KV (m : Nat) : List K := (codeAtD [1, 1, 1, 1, 0, 1, 0, 0, 1, 1, 0, 0, 1, 0] [m] (Tryz.f222.body.getD .skip)).2
noncomputable def oY : Oper := OY.toList.getD 2 default
noncomputable def oV : Oper := OV.toList.getD 4 default
noncomputable def callTs (o : Oper) : Array TypeId := match o.op with
  | .call c => c.argTypes
  | _ => #[]
theorem oY_op : oY.op = .call { callee := .value (.tmp 17), args := #[.tmp 18], argTypes := callTs oY } := by kernel_rfl
theorem oV_op : oV.op = .call { callee := .value (.tmp 66), args := #[.tmp 67, .tmp 69], argTypes := callTs oV } := by kernel_rfl
theorem oY_split : OY.toList = OY.toList.take 2 ++ oY :: OY.toList.drop 3 := by kernel_rfl
theorem oV_split : OV.toList = OV.toList.take 4 ++ oV :: OV.toList.drop 5 := by kernel_rfl
theorem ent222 : Enters Tryz.prog 222 := ent Tryz.func222 (by kernel_rfl) rfl
theorem ent221 : Enters Tryz.prog 221 := ent Tryz.func221 (by kernel_rfl) rfl

def zY (l : Nat) (p : (Int × Int × Int) × (Int × Int × Int) × Int × Int × Int) : LS := ⟨[.u, .u, .p 0 0, .u, .p 2 0, .u, .u, .u, .u, .u, .u, .u, .u, .u, .u, .u, .u, .u, .u, .u, .u, .u, .u, .u, .u, .u, .u, .u, .u, .u, .u, .u, .u, .u, .u, .u, .u, .u, .u, .u, .u, .u, .u, .u, .u, .u, .u, .u, .u, .u, .u, .u, .u, .u, .u, .u, .u, .u, .u, .u, .u, .u, .u, .u, .u, .u, .u, .u, .u, .u, .u, .u, .u], [.live false false [.v (yv l)], .live false false [.f 222 [.p 0 0, .p 1 0]], .live true false (cP p)]⟩
def zY1 (l : Nat) (p : (Int × Int × Int) × (Int × Int × Int) × Int × Int × Int) : LS := ⟨[.u, .u, .p 0 0, .u, .p 2 0, .u, .u, .u, .u, .u, .u, .u, .u, .u, .u, .u, .u, .v (yv l), .a (cP p), .u, .u, .u, .u, .u, .u, .u, .u, .u, .u, .u, .u, .u, .u, .u, .u, .u, .u, .u, .u, .u, .u, .u, .u, .u, .u, .u, .u, .u, .u, .u, .u, .u, .u, .u, .u, .u, .u, .u, .u, .u, .u, .u, .u, .u, .u, .u, .u, .u, .u, .u, .u, .u, .u], [.live false false [.v (yv l)], .live false false [.f 222 [.p 0 0, .p 1 0]], .live true false (cP p)]⟩
def zY3 (l : Nat) (p : (Int × Int × Int) × (Int × Int × Int) × Int × Int × Int) (b : Bool) : LS := ⟨[.u, .u, .p 0 0, .u, .p 2 0, .u, .v (.bool b), .u, .u, .u, .u, .u, .u, .u, .u, .u, .u, .v (yv l), .a (cP p), .v (.bool b), .u, .u, .u, .u, .u, .u, .u, .u, .u, .u, .u, .u, .u, .u, .u, .u, .u, .u, .u, .u, .u, .u, .u, .u, .u, .u, .u, .u, .u, .u, .u, .u, .u, .u, .u, .u, .u, .u, .u, .u, .u, .u, .u, .u, .u, .u, .u, .u, .u, .u, .u, .u, .u], [.live false false [.v (yv l)], .live false false [.f 222 [.p 0 0, .p 1 0]], .live false false (cP p)]⟩

def zV1 (l : Nat) (p : (Int × Int × Int) × (Int × Int × Int) × Int × Int × Int) (d : Int) : LS := ⟨[.u, iv d, .u, .p 1 0, .u, .u, .u, .u, .u, .u, .u, .u, .u, .u, .p 3 0, .u, .u, .u, .u, .u, .u, .u, .u, .u, .u, .u, .u, .u, .u, .u, .u, .u, .u, .u, .u, .u, .u, .u, .u, .u, .u, .u, .u, .u, .u, .u, .u, .u, .u, .u, .u, .u, .u, .u, .u, .u, .u, .u, .u, .u, .s 2 0 4 9, iv 4, iv 0, .u, .u, .u, .u, .u, .u, .u, .u, .u, .u], [.live false false [.v (yv l)], .live false false [.f 222 [.p 0 0, .p 1 0]], .live true false (cP (q1 p) ++ (cP (q2 p) ++ (cP (q3 p) ++ cP (q4 p)))), .live true false (cP (q1 p))]⟩
def zV11 (l : Nat) (p : (Int × Int × Int) × (Int × Int × Int) × Int × Int × Int) (d : Int) : LS := ⟨[.u, iv d, .u, .p 1 0, .u, .u, .u, .u, .u, .u, .u, .u, .u, .u, .p 3 0, .u, .u, .u, .u, .u, .u, .u, .u, .u, .u, .u, .u, .u, .u, .u, .u, .u, .u, .u, .u, .u, .u, .u, .u, .u, .u, .u, .u, .u, .u, .u, .u, .u, .u, .u, .u, .u, .u, .u, .u, .u, .u, .u, .u, .u, .s 2 0 4 9, iv 4, iv 0, .u, .u, .u, .f 222 [.p 0 0, .p 1 0], .a (cP (q1 p)), iv d, iv (W (d - 1)), .u, .u, .u], [.live false false [.v (yv l)], .live false false [.f 222 [.p 0 0, .p 1 0]], .live true false (cP (q1 p) ++ (cP (q2 p) ++ (cP (q3 p) ++ cP (q4 p)))), .live true false (cP (q1 p))]⟩
def zV13 (l : Nat) (p : (Int × Int × Int) × (Int × Int × Int) × Int × Int × Int) (d : Int) (b : Bool) : LS := ⟨[.u, iv d, .u, .p 1 0, .u, .u, .u, .u, .u, .u, .u, .u, .u, .u, .p 3 0, .u, .u, .u, .u, .u, .u, .u, .u, .u, .u, .u, .u, .u, .u, .u, .u, .u, .u, .u, .u, .u, .u, .u, .u, .u, .u, .u, .u, .u, .u, .u, .u, .u, .u, .u, .u, .u, .u, .u, .u, .u, .u, .u, .u, .u, .s 2 0 4 9, iv 4, iv 0, .u, .u, .u, .f 222 [.p 0 0, .p 1 0], .a (cP (q1 p)), iv d, iv (W (d - 1)), .v (.bool b), .v (.bool (!b)), .u], [.live false false [.v (yv l)], .live false false [.f 222 [.p 0 0, .p 1 0]], .live false false (cP (q1 p) ++ (cP (q2 p) ++ (cP (q3 p) ++ cP (q4 p)))), .live false false (cP (q1 p))]⟩

def zV2 (l : Nat) (p : (Int × Int × Int) × (Int × Int × Int) × Int × Int × Int) (d : Int) : LS := ⟨[.u, iv d, .u, .p 1 0, .u, .u, .u, .u, .u, .u, .u, .u, .u, .u, .p 4 0, .u, .u, .u, .u, .u, .u, .u, .u, .u, .u, .u, .u, .u, .u, .u, .u, .u, .u, .u, .u, .u, .u, .u, .u, .u, .u, .u, .u, .u, .u, .u, .u, .u, .u, .u, .u, .u, .u, .u, .u, .u, .u, .u, .u, .u, .s 2 0 4 9, iv 4, iv 1, .u, .u, .u, .u, .u, .u, .u, .u, .u, .u], [.live false false [.v (yv l)], .live false false [.f 222 [.p 0 0, .p 1 0]], .live false false (cP (q1 p) ++ (cP (q2 p) ++ (cP (q3 p) ++ cP (q4 p)))), .live false false (cP (q1 p)), .live true false (cP (q2 p))]⟩
def zV21 (l : Nat) (p : (Int × Int × Int) × (Int × Int × Int) × Int × Int × Int) (d : Int) : LS := ⟨[.u, iv d, .u, .p 1 0, .u, .u, .u, .u, .u, .u, .u, .u, .u, .u, .p 4 0, .u, .u, .u, .u, .u, .u, .u, .u, .u, .u, .u, .u, .u, .u, .u, .u, .u, .u, .u, .u, .u, .u, .u, .u, .u, .u, .u, .u, .u, .u, .u, .u, .u, .u, .u, .u, .u, .u, .u, .u, .u, .u, .u, .u, .u, .s 2 0 4 9, iv 4, iv 1, .u, .u, .u, .f 222 [.p 0 0, .p 1 0], .a (cP (q2 p)), iv d, iv (W (d - 1)), .u, .u, .u], [.live false false [.v (yv l)], .live false false [.f 222 [.p 0 0, .p 1 0]], .live false false (cP (q1 p) ++ (cP (q2 p) ++ (cP (q3 p) ++ cP (q4 p)))), .live false false (cP (q1 p)), .live true false (cP (q2 p))]⟩
def zV23 (l : Nat) (p : (Int × Int × Int) × (Int × Int × Int) × Int × Int × Int) (d : Int) (b : Bool) : LS := ⟨[.u, iv d, .u, .p 1 0, .u, .u, .u, .u, .u, .u, .u, .u, .u, .u, .p 4 0, .u, .u, .u, .u, .u, .u, .u, .u, .u, .u, .u, .u, .u, .u, .u, .u, .u, .u, .u, .u, .u, .u, .u, .u, .u, .u, .u, .u, .u, .u, .u, .u, .u, .u, .u, .u, .u, .u, .u, .u, .u, .u, .u, .u, .u, .s 2 0 4 9, iv 4, iv 1, .u, .u, .u, .f 222 [.p 0 0, .p 1 0], .a (cP (q2 p)), iv d, iv (W (d - 1)), .v (.bool b), .v (.bool (!b)), .u], [.live false false [.v (yv l)], .live false false [.f 222 [.p 0 0, .p 1 0]], .live false false (cP (q1 p) ++ (cP (q2 p) ++ (cP (q3 p) ++ cP (q4 p)))), .live false false (cP (q1 p)), .live false false (cP (q2 p))]⟩

def zV3 (l : Nat) (p : (Int × Int × Int) × (Int × Int × Int) × Int × Int × Int) (d : Int) : LS := ⟨[.u, iv d, .u, .p 1 0, .u, .u, .u, .u, .u, .u, .u, .u, .u, .u, .p 5 0, .u, .u, .u, .u, .u, .u, .u, .u, .u, .u, .u, .u, .u, .u, .u, .u, .u, .u, .u, .u, .u, .u, .u, .u, .u, .u, .u, .u, .u, .u, .u, .u, .u, .u, .u, .u, .u, .u, .u, .u, .u, .u, .u, .u, .u, .s 2 0 4 9, iv 4, iv 2, .u, .u, .u, .u, .u, .u, .u, .u, .u, .u], [.live false false [.v (yv l)], .live false false [.f 222 [.p 0 0, .p 1 0]], .live false false (cP (q1 p) ++ (cP (q2 p) ++ (cP (q3 p) ++ cP (q4 p)))), .live false false (cP (q1 p)), .live false false (cP (q2 p)), .live true false (cP (q3 p))]⟩
def zV31 (l : Nat) (p : (Int × Int × Int) × (Int × Int × Int) × Int × Int × Int) (d : Int) : LS := ⟨[.u, iv d, .u, .p 1 0, .u, .u, .u, .u, .u, .u, .u, .u, .u, .u, .p 5 0, .u, .u, .u, .u, .u, .u, .u, .u, .u, .u, .u, .u, .u, .u, .u, .u, .u, .u, .u, .u, .u, .u, .u, .u, .u, .u, .u, .u, .u, .u, .u, .u, .u, .u, .u, .u, .u, .u, .u, .u, .u, .u, .u, .u, .u, .s 2 0 4 9, iv 4, iv 2, .u, .u, .u, .f 222 [.p 0 0, .p 1 0], .a (cP (q3 p)), iv d, iv (W (d - 1)), .u, .u, .u], [.live false false [.v (yv l)], .live false false [.f 222 [.p 0 0, .p 1 0]], .live false false (cP (q1 p) ++ (cP (q2 p) ++ (cP (q3 p) ++ cP (q4 p)))), .live false false (cP (q1 p)), .live false false (cP (q2 p)), .live true false (cP (q3 p))]⟩
def zV33 (l : Nat) (p : (Int × Int × Int) × (Int × Int × Int) × Int × Int × Int) (d : Int) (b : Bool) : LS := ⟨[.u, iv d, .u, .p 1 0, .u, .u, .u, .u, .u, .u, .u, .u, .u, .u, .p 5 0, .u, .u, .u, .u, .u, .u, .u, .u, .u, .u, .u, .u, .u, .u, .u, .u, .u, .u, .u, .u, .u, .u, .u, .u, .u, .u, .u, .u, .u, .u, .u, .u, .u, .u, .u, .u, .u, .u, .u, .u, .u, .u, .u, .u, .u, .s 2 0 4 9, iv 4, iv 2, .u, .u, .u, .f 222 [.p 0 0, .p 1 0], .a (cP (q3 p)), iv d, iv (W (d - 1)), .v (.bool b), .v (.bool (!b)), .u], [.live false false [.v (yv l)], .live false false [.f 222 [.p 0 0, .p 1 0]], .live false false (cP (q1 p) ++ (cP (q2 p) ++ (cP (q3 p) ++ cP (q4 p)))), .live false false (cP (q1 p)), .live false false (cP (q2 p)), .live false false (cP (q3 p))]⟩

def zV4 (l : Nat) (p : (Int × Int × Int) × (Int × Int × Int) × Int × Int × Int) (d : Int) : LS := ⟨[.u, iv d, .u, .p 1 0, .u, .u, .u, .u, .u, .u, .u, .u, .u, .u, .p 6 0, .u, .u, .u, .u, .u, .u, .u, .u, .u, .u, .u, .u, .u, .u, .u, .u, .u, .u, .u, .u, .u, .u, .u, .u, .u, .u, .u, .u, .u, .u, .u, .u, .u, .u, .u, .u, .u, .u, .u, .u, .u, .u, .u, .u, .u, .s 2 0 4 9, iv 4, iv 3, .u, .u, .u, .u, .u, .u, .u, .u, .u, .u], [.live false false [.v (yv l)], .live false false [.f 222 [.p 0 0, .p 1 0]], .live false false (cP (q1 p) ++ (cP (q2 p) ++ (cP (q3 p) ++ cP (q4 p)))), .live false false (cP (q1 p)), .live false false (cP (q2 p)), .live false false (cP (q3 p)), .live true false (cP (q4 p))]⟩
def zV41 (l : Nat) (p : (Int × Int × Int) × (Int × Int × Int) × Int × Int × Int) (d : Int) : LS := ⟨[.u, iv d, .u, .p 1 0, .u, .u, .u, .u, .u, .u, .u, .u, .u, .u, .p 6 0, .u, .u, .u, .u, .u, .u, .u, .u, .u, .u, .u, .u, .u, .u, .u, .u, .u, .u, .u, .u, .u, .u, .u, .u, .u, .u, .u, .u, .u, .u, .u, .u, .u, .u, .u, .u, .u, .u, .u, .u, .u, .u, .u, .u, .u, .s 2 0 4 9, iv 4, iv 3, .u, .u, .u, .f 222 [.p 0 0, .p 1 0], .a (cP (q4 p)), iv d, iv (W (d - 1)), .u, .u, .u], [.live false false [.v (yv l)], .live false false [.f 222 [.p 0 0, .p 1 0]], .live false false (cP (q1 p) ++ (cP (q2 p) ++ (cP (q3 p) ++ cP (q4 p)))), .live false false (cP (q1 p)), .live false false (cP (q2 p)), .live false false (cP (q3 p)), .live true false (cP (q4 p))]⟩
def zV43 (l : Nat) (p : (Int × Int × Int) × (Int × Int × Int) × Int × Int × Int) (d : Int) (b : Bool) : LS := ⟨[.u, iv d, .u, .p 1 0, .u, .u, .u, .u, .u, .u, .u, .u, .u, .u, .p 6 0, .u, .u, .u, .u, .u, .u, .u, .u, .u, .u, .u, .u, .u, .u, .u, .u, .u, .u, .u, .u, .u, .u, .u, .u, .u, .u, .u, .u, .u, .u, .u, .u, .u, .u, .u, .u, .u, .u, .u, .u, .u, .u, .u, .u, .u, .s 2 0 4 9, iv 4, iv 3, .u, .u, .u, .f 222 [.p 0 0, .p 1 0], .a (cP (q4 p)), iv d, iv (W (d - 1)), .v (.bool b), .v (.bool (!b)), .u], [.live false false [.v (yv l)], .live false false [.f 222 [.p 0 0, .p 1 0]], .live false false (cP (q1 p) ++ (cP (q2 p) ++ (cP (q3 p) ++ cP (q4 p)))), .live false false (cP (q1 p)), .live false false (cP (q2 p)), .live false false (cP (q3 p)), .live false false (cP (q4 p))]⟩

theorem rels_plain {ρ ρ' : Env} : ∀ {l : List SV} {vs us : List Value}, l.all SV.plain = true → Rels ρ l vs → Rels ρ' l us → vs = us
  | [], [], [], _, _, _ => rfl
  | [], _ :: _, _, _, h, _ => by simp [Rels] at h
  | [], [], _ :: _, _, _, h => by simp [Rels] at h
  | _ :: _, [], _, _, h, _ => by simp [Rels] at h
  | _ :: _, _ :: _, [], _, _, h => by simp [Rels] at h
  | x :: l, y :: vs, z :: us, hp, h1, h2 => by
    simp only [List.all_cons, Bool.and_eq_true] at hp
    simp only [Rels] at h1 h2
    rw [rels_plain hp.2 h1.2 h2.2]
    have : y = z := by
      cases x <;> simp only [SV.plain, Bool.false_eq_true, false_and] at hp
      · have a1 := h1.1; have a2 := h2.1; simp only [Rel] at a1 a2; rw [a1, a2]
      · have a1 := h1.1; have a2 := h2.1; simp only [Rel] at a1 a2; rw [a1, a2]
    rw [this]
theorem rels_cons {ρ : Env} {x : SV} {l : List SV} {y : Value} {m : List Value} (h : Rel ρ x y) (h' : Rels ρ l m) : Rels ρ (x :: l) (y :: m) := by simp only [Rels]; exact ⟨h, h'⟩
theorem sub_app {α : Type} {xs A B : List α} {i : Nat} (h : ∀ j x, (A ++ B)[j]? = some x → xs[i + j]? = some x) : (∀ j x, A[j]? = some x → xs[i + j]? = some x) ∧ (∀ j x, B[j]? = some x → xs[i + A.length + j]? = some x) :=
  ⟨fun j x hj => h j x (by rw [List.getElem?_append_left (List.getElem?_eq_some_iff.1 hj).1]; exact hj), fun j x hj => by
    have := h (A.length + j) x (by rw [List.getElem?_append_right (by omega), Nat.add_sub_cancel_left]; exact hj)
    rwa [← Nat.add_assoc] at this⟩

section
variable {l : Nat} {J : Nat → (Nat → Prop) → World → Prop} {Jx : (Nat → Prop) → World → Prop} {xs : List ((Int × Int × Int) × (Int × Int × Int) × Int × Int × Int)}

/-- the end of a visit -/
theorem visit_end (hJ : GrowsJ J) (hX : GrowsX Jx) {m m' : Nat} {W0 : World} {S : Nat → Prop} {cx : Cx} {b : Bool} (h1 : b = true → ∃ Sc, Seg J W0 S m' cx Sc) (h2 : b = false → SegX Jx W0 S cx) (hm : m' = m) (Wd : World) (hb : Below cx.w.heap.size cx.w Wd) :
    VR J Jx m S W0 (.returned (.bool b)) Wd := by
  subst hm
  cases b with
  | true =>
    obtain ⟨Sc, h⟩ := h1 rfl
    exact .inl ⟨rfl, Sc, hJ _ _ _ _ h.j hb, h.kept.grow hb, h.sub⟩
  | false =>
    have h := h2 rfl
    obtain ⟨Sc, hj⟩ := h.j
    exact .inr ⟨rfl, Sc, hX _ _ _ hj hb, h.kept.grow hb⟩

theorem visit0 (hJ : GrowsJ J) (hX : GrowsX Jx) (hB : BoundJ J) (hY : ∀ i x S W1, xs[i]? = some x → J i S W1 → YieldAt (Fw none) 9 Tryz.prog l #[encP x] W1 (YR J Jx i S W1)) : VisitAt l J Jx xs 0 := by
  intro p i S Wd ρ vs hargs hb0 hb1 hS hj hxs
  have hx : xs[i]? = some p := by have := hxs 0 p rfl; simpa using this
  refine calls_of_good (n := 9) (bs := [.live false false [.v (yv l)], .live false false [.f 222 [.p 0 0, .p 1 0]]]) Tryz.func222 rfl (by show 4 ≤ Tryz.f222.ntmps; decide) (by kernel_rfl) ⟨rfl, rfl, trivial⟩ (by kernel_rfl) (fun i => by rcases i with _ | _ | i <;> simp [BK.own]) hargs (fun i => by rcases i with _ | _ | i <;> first | exact hb0 | exact hb1 | simp [BRep]) (fun i => by rcases i with _ | _ | i <;> simp [BK.pl]) (fun cx hbase hw hρ hown => ?_)
  subst hw; subst hρ
  have hd : ((((0 : Nat) : Int) : Int) == 0) = true := rfl
  refine at_of (T := T0) hT hm (f := 5000) (orc := [.d true, .stop 2]) [] [2, 4] [2] hbase (x := .region 2 OY false) (k' := KY) (s' := zY l p)
    (obs := [.eq ((((0 : Nat) : Int) : Int) == 0) true]) (by kernel_rfl) ⟨hd, trivial⟩ ?_
  have hseg : Seg J cx.w S i cx S := ⟨hj, Kept.refl _ _, fun b h => .inl h, fun k b o n hk h => hS k (by rw [hbase] at hk; exact hk) b o n h, hown⟩
  refine visit_of (Jx := Jx) hT hJ hB (m := i + 1) hseg (OY.toList.take 2) oY (OY.toList.drop 3) oY_split (s1 := zY1 l p) (by kernel_rfl) (by kernel_rfl) 19 (by kernel_rfl) (of_decide_eq_true (by kernel_rfl)) 2 hbase (by kernel_rfl) (by kernel_rfl)
    (fun ρ a W2 hrep hsafe hj2 K Q' hK => ?_) (zY3 l p) (fun b => by kernel_rfl) (fun b cx' hb' h1 h2 => ?_)
  · have e1 := hrep.sl 17
    have e2 := hrep.sl 18
    refine op_yield oY_op (l := l) (vs := #[encP p]) ?_ ?_ (hY i p S W2 hx hj2) hK
    · exact e1
    · have : a.eval (.tmp 18) = encP p := by
        have e3 : Rel ρ (.a (cP p)) (a.tmps.getD 18 undef) := e2
        simp only [Rel] at e3
        obtain ⟨vs, hv, hr⟩ := e3
        have h' := encP_rel ρ p
        simp only [Rel] at h'
        obtain ⟨us, hu, hr'⟩ := h'
        show a.tmps.getD 18 undef = encP p
        rw [hv, hu]
        have : vs = us := rels_plain (by simp [cP, SV.plain, iv]) hr hr'
        rw [this]
      simp [this]
  · have hown' : ∀ c, ¬ cx'.own c := by
      cases b with
      | true => obtain ⟨Sc, h⟩ := h1 rfl; exact h.own
      | false => exact (h2 rfl).own
    exact retB_of (T := T0) hT hm (f := 5000) (orc := []) (b := b) (obs := []) (by cases b <;> kernel_rfl) trivial hown' (fun Wd hW => visit_end hJ hX h1 h2 rfl Wd hW)

/-- a visit within a visit -/
theorem vcall {d : Nat} (ih : VisitAt l J Jx xs d) {cx : Cx} {N : Nat} {D : List Deferred} {ρ : Env} {s : FS} {a : Act} {Wd : World} (hrep : Rep cx N D ρ s a Wd) {p : (Int × Int × Int) × (Int × Int × Int) × Int × Int × Int} {i : Nat} {S : Nat → Prop}
    (hdl : d < 1000) (e1 : s.sl 66 = .f 222 [.p 0 0, .p 1 0]) (e2 : s.sl 67 = .a (cP p)) (e3 : s.sl 69 = iv (W (((d + 1 : Nat) : Int) - 1))) (e4 : s.bk 0 = .live false false [.v (yv l)]) (e5 : s.bk 1 = .live false false [.f 222 [.p 0 0, .p 1 0]])
    (hS : ∀ k, k < 2 → ∀ b o n, ρ k = some (b, o, n) → ¬ S b) (hj : J i S Wd) (hxs : ∀ j x, (cutL d p)[j]? = some x → xs[i + j]? = some x)
    (K : Act → World → Prop) (Q : Exit → Act → World → Prop) (hK : ∀ e Wd', VR J Jx (i + (cutL d p).length) S Wd e Wd' → ∃ v, e = .returned v ∧ K (a.put oV.dst v) Wd') : oV.wpIn (Fw none) 9 Tryz.prog a Wd K Q := by
  have r1 := hrep.sl 66
  have r2 := hrep.sl 67
  have r3 := hrep.sl 69
  rw [e1] at r1; rw [e2] at r2; rw [e3] at r3
  have hw : W (((d + 1 : Nat) : Int) - 1) = (d : Int) := by rw [W_eq] <;> omega
  rw [hw] at r3
  simp only [Rel] at r1
  obtain ⟨vs, hv, hc⟩ := r1
  have b0 := hrep.bk 0
  have b1 := hrep.bk 1
  rw [e4] at b0; rw [e5] at b1
  refine op_call oV_op (g := 222) (caps := vs) hv ent222 (ih p i S Wd ρ _ ?_ b0.ro b1.ro hS hj hxs) hK
  exact rels_cons r2 (rels_cons r3 hc)

theorem visitS (hJ : GrowsJ J) (hX : GrowsX Jx) (hB : BoundJ J) {d : Nat} (hdl : d < 1000) (ih : VisitAt l J Jx xs d) : VisitAt l J Jx xs (d + 1) := by
  intro p i S Wd ρ vs hargs hb0 hb1 hS hj hxs
  obtain ⟨hx1, hr1⟩ := sub_app hxs
  obtain ⟨hx2, hr2⟩ := sub_app hr1
  obtain ⟨hx3, hx4⟩ := sub_app hr2
  refine calls_of_good (n := 9) (bs := [.live false false [.v (yv l)], .live false false [.f 222 [.p 0 0, .p 1 0]]]) Tryz.func222 rfl (by show 4 ≤ Tryz.f222.ntmps; decide) (by kernel_rfl) ⟨rfl, rfl, trivial⟩ (by kernel_rfl) (fun i => by rcases i with _ | _ | i <;> simp [BK.own]) hargs (fun i => by rcases i with _ | _ | i <;> first | exact hb0 | exact hb1 | simp [BRep]) (fun i => by rcases i with _ | _ | i <;> simp [BK.pl]) (fun cx hbase hw hρ hown => ?_)
  subst hw; subst hρ
  have hd : ((((d + 1 : Nat) : Int) : Int) == 0) = false := by rw [beq_eq_false_iff_ne]; omega
  have hseg : Seg J cx.w S i cx S := ⟨hj, Kept.refl _ _, fun b h => .inl h, fun k b o n hk h => hS k (by rw [hbase] at hk; exact hk) b o n h, hown⟩
  refine at_of (T := T0) hT hm (f := 5000) (orc := [.d false, .call [] (.a [(iv (F170 p.1 2).1), (iv (F170 p.1 2).2.1), (iv (F170 p.1 2).2.2)]) [], .call [] (.a [(iv (F170 p.2.1 2).1), (iv (F170 p.2.1 2).2.1), (iv (F170 p.2.1 2).2.2)]) [], .call [] (.a [(iv (F170 p.2.2 2).1), (iv (F170 p.2.2 2).2.1), (iv (F170 p.2.2 2).2.2)]) [], .call [] (.a [(iv (F223 p.1 p.2.1).1), (iv (F223 p.1 p.2.1).2.1), (iv (F223 p.1 p.2.1).2.2)]) [], .call [] (.a [(iv (F223 p.2.1 p.2.2).1), (iv (F223 p.2.1 p.2.2).2.1), (iv (F223 p.2.1 p.2.2).2.2)]) [], .call [] (.a [(iv (F223 p.2.2 p.1).1), (iv (F223 p.2.2 p.1).2.1), (iv (F223 p.2.2 p.1).2.2)]) [], .un 4, .d true, .stop 8]) [] [1, 3, 14, 60, 61, 62] [9, 10] hbase (x := .region 8 OV false) (k' := KV 4) (s' := zV1 l p (d + 1 : Nat))
    (obs := [.eq ((((d + 1 : Nat) : Int) : Int) == 0) false, .call 170 [(.a [(iv p.1.1), (iv p.1.2.1), (iv p.1.2.2)]), (iv 2)] [] (.a [(iv (F170 p.1 2).1), (iv (F170 p.1 2).2.1), (iv (F170 p.1 2).2.2)]) [], .call 170 [(.a [(iv p.2.1.1), (iv p.2.1.2.1), (iv p.2.1.2.2)]), (iv 2)] [] (.a [(iv (F170 p.2.1 2).1), (iv (F170 p.2.1 2).2.1), (iv (F170 p.2.1 2).2.2)]) [], .call 170 [(.a [(iv p.2.2.1), (iv p.2.2.2.1), (iv p.2.2.2.2)]), (iv 2)] [] (.a [(iv (F170 p.2.2 2).1), (iv (F170 p.2.2 2).2.1), (iv (F170 p.2.2 2).2.2)]) [], .call 223 [(.a [(iv p.1.1), (iv p.1.2.1), (iv p.1.2.2)]), (.a [(iv p.2.1.1), (iv p.2.1.2.1), (iv p.2.1.2.2)])] [] (.a [(iv (F223 p.1 p.2.1).1), (iv (F223 p.1 p.2.1).2.1), (iv (F223 p.1 p.2.1).2.2)]) [], .call 223 [(.a [(iv p.2.1.1), (iv p.2.1.2.1), (iv p.2.1.2.2)]), (.a [(iv p.2.2.1), (iv p.2.2.2.1), (iv p.2.2.2.2)])] [] (.a [(iv (F223 p.2.1 p.2.2).1), (iv (F223 p.2.1 p.2.2).2.1), (iv (F223 p.2.1 p.2.2).2.2)]) [], .call 223 [(.a [(iv p.2.2.1), (iv p.2.2.2.1), (iv p.2.2.2.2)]), (.a [(iv p.1.1), (iv p.1.2.1), (iv p.1.2.2)])] [] (.a [(iv (F223 p.2.2 p.1).1), (iv (F223 p.2.2 p.1).2.1), (iv (F223 p.2.2 p.1).2.2)]) [], .eq true true, .pr (0 ≤ (0 : Int) ∧ (0 : Int) < ((4 : Nat) : Int))]) (by kernel_rfl) ⟨hd, (C170 p.1 2), (C170 p.2.1 2), (C170 p.2.2 2), (C223 p.1 p.2.1), (C223 p.2.1 p.2.2), (C223 p.2.2 p.1), rfl, (show 0 ≤ (0 : Int) ∧ (0 : Int) < ((4 : Nat) : Int) from by decide), trivial⟩ ?_
  refine visit_of (Jx := Jx) hT hJ hB (m := i + (cutL d (q1 p)).length) hseg (OV.toList.take 4) oV (OV.toList.drop 5) oV_split (s1 := zV11 l p (d + 1 : Nat)) (by kernel_rfl) (by kernel_rfl) 70 (by kernel_rfl) (of_decide_eq_true (by kernel_rfl)) 2 hbase (by kernel_rfl) (by kernel_rfl)
    (fun ρ a W2 hrep hsafe hj2 K Q' hK => vcall ih hrep hdl rfl rfl rfl rfl rfl (fun k hk b o n h => (match k, hk, h with | 0, _, h => hsafe 0 _ _ _ rfl b o n h | 1, _, h => hsafe 1 _ _ _ rfl b o n h)) hj2 (fun j x hj => hx1 j x hj) K Q' hK) (zV13 l p (d + 1 : Nat)) (fun b => by kernel_rfl) (fun b cx hbase h1 h2 => ?_)
  cases b with
  | false =>
    exact retB_of (T := T0) hT hm (f := 5000) (orc := [.d true]) (b := false) (obs := [.eq (!false) true]) (by kernel_rfl) ⟨rfl, trivial⟩ (h2 rfl).own (fun W hW => visit_end (m' := i + (cutL (d + 1) p).length) hJ hX (fun h => by cases h) h2 rfl W hW)
  | true =>
    obtain ⟨Sc, hseg⟩ := h1 rfl
    refine at_of (T := T0) hT hm (f := 5000) (orc := [.d false, .un 0, .d true, .stop 8]) [] [1, 3, 14, 60, 61, 62] [4] hbase (x := .region 8 OV false) (k' := KV 3) (s' := zV2 l p (d + 1 : Nat))
      (obs := [.eq (!true) false, .eq (decide ((1 : Int) < 4)) true, .pr (0 ≤ (1 : Int) ∧ (1 : Int) < ((4 : Nat) : Int))]) (by kernel_rfl) ⟨rfl, rfl, (show 0 ≤ (1 : Int) ∧ (1 : Int) < ((4 : Nat) : Int) from by decide), trivial⟩ ?_
    refine visit_of (Jx := Jx) hT hJ hB (m := i + (cutL d (q1 p)).length + (cutL d (q2 p)).length) hseg (OV.toList.take 4) oV (OV.toList.drop 5) oV_split (s1 := zV21 l p (d + 1 : Nat)) (by kernel_rfl) (by kernel_rfl) 70 (by kernel_rfl) (of_decide_eq_true (by kernel_rfl)) 4 hbase (by kernel_rfl) (by kernel_rfl)
      (fun ρ a W2 hrep hsafe hj2 K Q' hK => vcall ih hrep hdl rfl rfl rfl rfl rfl (fun k hk b o n h => (match k, hk, h with | 0, _, h => hsafe 0 _ _ _ rfl b o n h | 1, _, h => hsafe 1 _ _ _ rfl b o n h)) hj2 (fun j x hj => hx2 j x hj) K Q' hK) (zV23 l p (d + 1 : Nat)) (fun b => by kernel_rfl) (fun b cx hbase h1 h2 => ?_)
    cases b with
    | false =>
      exact retB_of (T := T0) hT hm (f := 5000) (orc := [.d true]) (b := false) (obs := [.eq (!false) true]) (by kernel_rfl) ⟨rfl, trivial⟩ (h2 rfl).own (fun W hW => visit_end (m' := i + (cutL (d + 1) p).length) hJ hX (fun h => by cases h) h2 rfl W hW)
    | true =>
      obtain ⟨Sc, hseg⟩ := h1 rfl
      refine at_of (T := T0) hT hm (f := 5000) (orc := [.d false, .un 0, .d true, .stop 8]) [] [1, 3, 14, 60, 61, 62] [5] hbase (x := .region 8 OV false) (k' := KV 2) (s' := zV3 l p (d + 1 : Nat))
        (obs := [.eq (!true) false, .eq (decide ((2 : Int) < 4)) true, .pr (0 ≤ (2 : Int) ∧ (2 : Int) < ((4 : Nat) : Int))]) (by kernel_rfl) ⟨rfl, rfl, (show 0 ≤ (2 : Int) ∧ (2 : Int) < ((4 : Nat) : Int) from by decide), trivial⟩ ?_
      refine visit_of (Jx := Jx) hT hJ hB (m := i + (cutL d (q1 p)).length + (cutL d (q2 p)).length + (cutL d (q3 p)).length) hseg (OV.toList.take 4) oV (OV.toList.drop 5) oV_split (s1 := zV31 l p (d + 1 : Nat)) (by kernel_rfl) (by kernel_rfl) 70 (by kernel_rfl) (of_decide_eq_true (by kernel_rfl)) 5 hbase (by kernel_rfl) (by kernel_rfl)
        (fun ρ a W2 hrep hsafe hj2 K Q' hK => vcall ih hrep hdl rfl rfl rfl rfl rfl (fun k hk b o n h => (match k, hk, h with | 0, _, h => hsafe 0 _ _ _ rfl b o n h | 1, _, h => hsafe 1 _ _ _ rfl b o n h)) hj2 (fun j x hj => hx3 j x hj) K Q' hK) (zV33 l p (d + 1 : Nat)) (fun b => by kernel_rfl) (fun b cx hbase h1 h2 => ?_)
      cases b with
      | false =>
        exact retB_of (T := T0) hT hm (f := 5000) (orc := [.d true]) (b := false) (obs := [.eq (!false) true]) (by kernel_rfl) ⟨rfl, trivial⟩ (h2 rfl).own (fun W hW => visit_end (m' := i + (cutL (d + 1) p).length) hJ hX (fun h => by cases h) h2 rfl W hW)
      | true =>
        obtain ⟨Sc, hseg⟩ := h1 rfl
        refine at_of (T := T0) hT hm (f := 5000) (orc := [.d false, .un 0, .d true, .stop 8]) [] [1, 3, 14, 60, 61, 62] [6] hbase (x := .region 8 OV false) (k' := KV 1) (s' := zV4 l p (d + 1 : Nat))
          (obs := [.eq (!true) false, .eq (decide ((3 : Int) < 4)) true, .pr (0 ≤ (3 : Int) ∧ (3 : Int) < ((4 : Nat) : Int))]) (by kernel_rfl) ⟨rfl, rfl, (show 0 ≤ (3 : Int) ∧ (3 : Int) < ((4 : Nat) : Int) from by decide), trivial⟩ ?_
        refine visit_of (Jx := Jx) hT hJ hB (m := i + (cutL d (q1 p)).length + (cutL d (q2 p)).length + (cutL d (q3 p)).length + (cutL d (q4 p)).length) hseg (OV.toList.take 4) oV (OV.toList.drop 5) oV_split (s1 := zV41 l p (d + 1 : Nat)) (by kernel_rfl) (by kernel_rfl) 70 (by kernel_rfl) (of_decide_eq_true (by kernel_rfl)) 6 hbase (by kernel_rfl) (by kernel_rfl)
          (fun ρ a W2 hrep hsafe hj2 K Q' hK => vcall ih hrep hdl rfl rfl rfl rfl rfl (fun k hk b o n h => (match k, hk, h with | 0, _, h => hsafe 0 _ _ _ rfl b o n h | 1, _, h => hsafe 1 _ _ _ rfl b o n h)) hj2 (fun j x hj => hx4 j x hj) K Q' hK) (zV43 l p (d + 1 : Nat)) (fun b => by kernel_rfl) (fun b cx hbase h1 h2 => ?_)
        cases b with
        | false =>
          exact retB_of (T := T0) hT hm (f := 5000) (orc := [.d true]) (b := false) (obs := [.eq (!false) true]) (by kernel_rfl) ⟨rfl, trivial⟩ (h2 rfl).own (fun W hW => visit_end (m' := i + (cutL (d + 1) p).length) hJ hX (fun h => by cases h) h2 rfl W hW)
        | true =>
          exact retB_of (T := T0) hT hm (f := 5000) (orc := [.d false, .un 0, .d false]) (b := true) (obs := [.eq (!true) false, .eq (decide ((4 : Int) < 4)) false]) (by kernel_rfl) ⟨rfl, rfl, trivial⟩ (h1 rfl).choose_spec.own (fun W hW => visit_end hJ hX h1 h2 (by simp only [cutL, List.length_append]; omega) W hW)

theorem visit_all (hJ : GrowsJ J) (hX : GrowsX Jx) (hB : BoundJ J) (hY : ∀ i x S W1, xs[i]? = some x → J i S W1 → YieldAt (Fw none) 9 Tryz.prog l #[encP x] W1 (YR J Jx i S W1)) : ∀ d, d < 1000 → VisitAt l J Jx xs d
  | 0, _ => visit0 hJ hX hB hY
  | d + 1, h => visitS hJ hX hB (by omega) (visit_all hJ hX hB hY d (by omega))
end

noncomputable def O2 : Array Oper := match (codeAtD [1, 1, 1] [] (Tryz.f221.body.getD .skip)).1 with
  | .region _ ops _ => ops
  | _ => #[]
noncomputable def o2 : Oper := O2.toList.getD 3 default
theorem o2_op : o2.op = .call { callee := .value (.tmp 6), args := #[.tmp 7, .tmp 8], argTypes := callTs o2 } := by kernel_rfl
theorem o2_split : O2.toList = O2.toList.take 3 ++ [o2] := by kernel_rfl
def z2 (l : Nat) (p : (Int × Int × Int) × (Int × Int × Int) × Int × Int × Int) (d : Int) : LS := ⟨[.u, .p 0 0, .p 1 0, .u, .p 3 0, .u, .u, .u, .u, .u], [.live false false (cP p), .live false false [iv d], .live true false [.v (yv l)], .live true false [.f 222 [.p 2 0, .p 3 0]]]⟩
def z21 (l : Nat) (p : (Int × Int × Int) × (Int × Int × Int) × Int × Int × Int) (d : Int) : LS := ⟨[.u, .p 0 0, .p 1 0, .u, .p 3 0, .u, .f 222 [.p 2 0, .p 3 0], .a (cP p), iv d, .u], [.live false false (cP p), .live false false [iv d], .live true false [.v (yv l)], .live true false [.f 222 [.p 2 0, .p 3 0]]]⟩

/-- cut is an iterator over a panel's parts -/
theorem iter_cut (p : (Int × Int × Int) × (Int × Int × Int) × Int × Int × Int) (d : Nat) (hd : d < 1000) : Iter Tryz.prog 221 [.p 0 0, .p 1 0] [.live false false (cP p), .live false false [iv (d : Nat)]] encP (cutL d p) := by
  refine ⟨ent221, fun ρ Wd lb hcaps hbs hpl l J Jx S0 hJ hX hB hY h0 => ?_⟩
  have hcon : Calls Tryz.prog 221 ((Value.func (.yield l) #[] #[]) :: lb).toArray Wd fun e Wd' => (∃ v, e = .returned v) ∧ ∃ S', (J (cutL d p).length S' Wd' ∨ Jx S' Wd') ∧ Kept Wd S0 Wd' := by
    refine calls_of_good (n := 9) (args := [.v (yv l), .p 0 0, .p 1 0]) (bs := [.live false false (cP p), .live false false [iv (d : Nat)]]) Tryz.func221 rfl (by show 3 ≤ Tryz.f221.ntmps; decide) (by kernel_rfl) ⟨rfl, rfl, trivial⟩ (by kernel_rfl) (fun i => by rcases i with _ | _ | i <;> simp [BK.own]) ⟨rfl, hcaps⟩ hbs hpl (fun cx hbase hw hρ hown => ?_)
    subst hw; subst hρ
    refine at_of (T := T0) hT hm (f := 5000) (orc := [.stop 3]) [] [1, 2, 4] [2, 3] hbase (x := .region 3 O2 false) (k' := []) (s' := z2 l p d)
      (obs := []) (by kernel_rfl) trivial ?_
    intro ρ a Wd hrep
    simp only [cont]
    refine wpIn_region ?_
    have hsz : O2.size = (O2.toList.take 3).length + (0 + 1) := by kernel_rfl
    have hget : ∀ j, O2[j]? = (O2.toList.take 3 ++ [o2])[j]? := fun j => by rw [← o2_split, Array.getElem?_toList]
    rw [hsz, range_split]
    refine ops_pre hT (O2.toList.take 3) 0 (z2 l p d) (z21 l p d) [] [] _ [] (evS_spec (T := T0) (obs := []) (by kernel_rfl)).choose_spec trivial (fun j o' hj => ?_) ρ a Wd hrep (fun ρ1 a1 W1 hrep1 hl1 => ?_)
    · rw [hget, Nat.zero_add, List.getElem?_append_left (List.getElem?_eq_some_iff.1 hj).1]; exact hj
    rw [wpOpsIn_cons]
    unfold wpOpIn
    have ho : O2[(O2.toList.take 3).length]? = some o2 := by rw [hget, List.getElem?_append_right (Nat.le_refl _)]; simp
    rw [ho]
    have hw : Region.wanted o2 (yielded O2 a1.tmps) = true := by
      have hg : o2.guard = none := by kernel_rfl
      unfold Region.wanted; rw [hg]
    simp only [hw, if_true]
    have hbel : Below cx.w.heap.size cx.w W1 := by
      have := hrep1.kept
      exact ⟨this.os, this.tape, this.output, this.size, fun k hk => this.block k hk (hown k)⟩
    have r1 := hrep1.sl 6
    have r2 := hrep1.sl 7
    have r3 := hrep1.sl 8
    have r1' : Rel ρ1 (.f 222 [.p 2 0, .p 3 0]) (a1.tmps.getD 6 undef) := r1
    have r2' : Rel ρ1 (.a (cP p)) (a1.tmps.getD 7 undef) := r2
    have r3' : Rel ρ1 (iv (d : Nat)) (a1.tmps.getD 8 undef) := r3
    simp only [Rel] at r1'
    obtain ⟨vs, hv, hc⟩ := r1'
    have own2 : ∀ b, cx.mine b → cx.w.heap.size ≤ b := fun b hb => hb.elim id (fun h => (hown b h).elim)
    have b2 := (renB_rep (ks := [2, 3]) (i := 0) (m := false) (x := .live true false [.v (yv l)]) (y := .live false false [.v (yv l)]) (M' := fun b => W1.heap.size ≤ b) rfl rfl trivial (hrep1.bk 2) (fun _ h => by cases h) (fun _ b hlt _ hM => absurd hM (Nat.not_le_of_lt hlt))).1
    have b3 := (renB_rep (ks := [2, 3]) (i := 1) (m := false) (x := .live true false [.f 222 [.p 2 0, .p 3 0]]) (y := .live false false [.f 222 [.p 0 0, .p 1 0]]) (M' := fun b => W1.heap.size ≤ b) rfl rfl trivial (hrep1.bk 3) (fun _ h => by cases h) (fun _ b hlt _ hM => absurd hM (Nat.not_le_of_lt hlt))).1
    have hS2 : ∀ k, k < 2 → ∀ b o n, envOf ρ1 [2, 3] k = some (b, o, n) → ¬ S0 b := fun k hk b o n h hSb => by
      have hlt := hB _ _ _ h0 b hSb
      have own : ∀ j, (z21 l p d).fs.bk j ≠ .un → ((z21 l p d).fs.bk j).own → ρ1 j = some (b, o, n) → False := fun j _ hj hρ => by
        have hb := hrep1.bk j
        cases hx : (z21 l p d).fs.bk j with
        | un => rw [hx] at hj; exact hj
        | dead => rw [hx] at hj; exact hj
        | live ow sy cs => cases ow with
          | false => rw [hx] at hj; exact hj
          | true =>
            rw [hx] at hb
            rcases hb with ⟨q, _⟩ | ⟨b', vs, rest, ty, q1, q2, _⟩
            · rw [hρ] at q; cases q
            · rw [hρ] at q1; cases q1
              have := own2 b q2; omega
      match k, hk with
      | 0, _ => exact own 2 (by simp [z21, LS.fs]) (by trivial) h
      | 1, _ => exact own 3 (by simp [z21, LS.fs]) (by trivial) h
    refine op_call o2_op (g := 222) (caps := vs) hv ent222 ((visit_all (l := l) hJ hX hB hY d hd) p 0 S0 W1 (envOf ρ1 [2, 3]) (a1.tmps.getD 7 undef :: a1.tmps.getD 8 undef :: vs) ?_ b2 b3 hS2 (hJ _ _ _ _ h0 hbel) (fun j x hj => by rw [Nat.zero_add]; exact hj)) (fun e Wd' hR => ?_)
    · exact rels_cons (ren_rel (ks := [2, 3]) (.a (cP p)) (.a (cP p)) _ rfl r2') (rels_cons (ren_rel (ks := [2, 3]) (iv (d : Nat)) (iv (d : Nat)) _ rfl r3') (renL_rel (ks := [2, 3]) [.p 2 0, .p 3 0] [.p 0 0, .p 1 0] vs rfl hc))
    · have fin : ∀ v : Bool, e = .returned (.bool v) → (∃ S', (J (cutL d p).length S' Wd' ∨ Jx S' Wd') ∧ Kept W1 S0 Wd') → ∃ v, e = .returned v ∧ wpOpsIn (Fw none) 9 Tryz.prog O2 (cont none 9 Tryz.prog (bodyPost Tryz.prog Tryz.f221 (fun e Wd' => (∃ v, e = .returned v) ∧ ∃ S', (J (cutL d p).length S' Wd' ∨ Jx S' Wd') ∧ Kept cx.w S0 Wd')) []) (List.range' ((O2.toList.take 3).length + 1) 0) (a1.put o2.dst v) Wd' := fun v he ⟨S', hj', hk'⟩ => by
        refine ⟨_, he, ?_⟩
        simp only [List.range'_zero, wpOpsIn, cont]
        refine ⟨?_, _, results_nil (by kernel_rfl), ⟨_, rfl⟩, S', hj', ?_⟩
        · exact hrep1.defs
        · exact (Kept.of_below S0 hbel).trans hk' (fun b hb _ => hb)
      rcases hR with ⟨he, S', hj', hk', _⟩ | ⟨he, S', hj', hk'⟩
      · exact fin true he ⟨S', .inl (by rwa [Nat.zero_add] at hj'), hk'⟩
      · exact fin false he ⟨S', .inr hj', hk'⟩
  have e : ((Value.func (.yield l) #[] #[]) :: lb).toArray = #[.func (.yield l) #[] #[]] ++ lb.toArray := by apply Array.ext'; simp
  rw [← e]; exact hcon

theorem iter_cutI (p : (Int × Int × Int) × (Int × Int × Int) × Int × Int × Int) (d : Int) (h : 0 ≤ d ∧ d ≤ 3) : Iter Tryz.prog 221 [.p 0 0, .p 1 0] [.live false false (cP p), .live false false [iv d]] encP (cutL (Int.toNat d) p) := by
  have := iter_cut p d.toNat (by omega)
  rwa [Int.toNat_of_nonneg h.1] at this
theorem cut_lt {p : (Int × Int × Int) × (Int × Int × Int) × Int × Int × Int} {d : Int} (h : 0 ≤ d ∧ d ≤ 3) {i : Nat} {x : (Int × Int × Int) × (Int × Int × Int) × Int × Int × Int} (hx : (cutL (Int.toNat d) p)[i]? = some x) : i < 64 := by
  have hl := (List.getElem?_eq_some_iff.1 hx).1
  rw [cutL_length] at hl
  have : Int.toNat d ≤ 3 := by omega
  have : 4 ^ Int.toNat d ≤ 4 ^ 3 := Nat.pow_le_pow_right (by omega) this
  omega

end Go.Proofs.YtnkeljlllagddaaGreat

namespace Go.Proofs.YtnkeljlllagddaaGreat
open Go.Proofs Go.Aw Go.RowKit
set_option maxRecDepth 100000
set_option linter.unusedVariables false
set_option linter.unusedSimpArgs false

/-- facet/shape.from -/
def F152 (a0 : Int) (a1 : Int) (a2 : Int) : Bool :=
  (bif (decide ((a1 : Int) ≤ a0)) then
   (decide ((a0 : Int) ≤ a2))
  else
   false)

theorem C152 (a0 : Int) (a1 : Int) (a2 : Int) : Con Tryz.prog 152 [(iv a0), (iv a1), (iv a2)] [] (.v (.bool (F152 a0 a1 a2))) [] := by
  cases h0 : (decide ((a1 : Int) ≤ a0)) with
  | true =>
    have q0 := of_decide_eq_true h0
    have e : (F152 a0 a1 a2) = (decide ((a0 : Int) ≤ a2)) := by simp only [F152, h0, cond_true, cond_false]
    rw [e]
    refine con_of (n := 9) Tryz.func152 rfl (ent Tryz.func152 (by kernel_rfl) rfl) (by show 3 ≤ Tryz.f152.ntmps; decide) (by kernel_rfl) trivial (fun cx hcx => ?_)
    exact ret_of (T := T0) hT hm (f := 5000) (orc := [.d true]) [] [] [] hcx
      (obs := [.eq (decide ((a1 : Int) ≤ a0)) true]) (by kernel_rfl) ⟨h0, trivial⟩
  | false =>
    have q0 := of_decide_eq_false h0
    have e : (F152 a0 a1 a2) = false := by simp only [F152, h0, cond_true, cond_false]
    rw [e]
    refine con_of (n := 9) Tryz.func152 rfl (ent Tryz.func152 (by kernel_rfl) rfl) (by show 3 ≤ Tryz.f152.ntmps; decide) (by kernel_rfl) trivial (fun cx hcx => ?_)
    exact ret_of (T := T0) hT hm (f := 5000) (orc := [.d false]) [] [] [] hcx
      (obs := [.eq (decide ((a1 : Int) ≤ a0)) false]) (by kernel_rfl) ⟨h0, trivial⟩

/-- facet/shape.inRange -/
def F216 (a0 : Int × Int × Int) (a1 : Int) : Bool :=
  (bif (F152 a0.1 (W (0 - a1)) a1) then
   (bif (F152 a0.2.1 (W (0 - a1)) a1) then
    (F152 a0.2.2 (W (0 - a1)) a1)
   else
    false)
  else
   false)

noncomputable def oC216_0 (a0 : Int × Int × Int) (a1 : Int) : Ob := .call 152 [(iv a0.1), (iv (W (0 - a1))), (iv a1)] [] (.v (.bool (F152 a0.1 (W (0 - a1)) a1))) []
theorem C216 (a0 : Int × Int × Int) (a1 : Int) : Con Tryz.prog 216 [(.a (k3 a0)), (iv a1)] [] (.v (.bool (F216 a0 a1))) [] := by
  cases h0 : (F152 a0.1 (W (0 - a1)) a1) with
  | true =>
    cases h1 : (F152 a0.2.1 (W (0 - a1)) a1) with
    | true =>
      have e : (F216 a0 a1) = (F152 a0.2.2 (W (0 - a1)) a1) := by simp only [F216, h0, h1, cond_true, cond_false]
      rw [e]
      refine con_of (n := 9) Tryz.func216 rfl (ent Tryz.func216 (by kernel_rfl) rfl) (by show 2 ≤ Tryz.f216.ntmps; decide) (by kernel_rfl) trivial (fun cx hcx => ?_)
      exact ret_of (T := T0) hT hm (f := 5000) (orc := [.call [] (.v (.bool (F152 a0.1 (W (0 - a1)) a1))) [], .d true, .call [] (.v (.bool (F152 a0.2.1 (W (0 - a1)) a1))) [], .d true, .call [] (.v (.bool (F152 a0.2.2 (W (0 - a1)) a1))) []]) [] [] [] hcx
        (obs := [(oC216_0 a0 a1), .eq (F152 a0.1 (W (0 - a1)) a1) true, .call 152 [(iv a0.2.1), (iv (W (0 - a1))), (iv a1)] [] (.v (.bool (F152 a0.2.1 (W (0 - a1)) a1))) [], .eq (F152 a0.2.1 (W (0 - a1)) a1) true, .call 152 [(iv a0.2.2), (iv (W (0 - a1))), (iv a1)] [] (.v (.bool (F152 a0.2.2 (W (0 - a1)) a1))) []]) (by kernel_rfl) ⟨(C152 a0.1 (W (0 - a1)) a1), h0, (C152 a0.2.1 (W (0 - a1)) a1), h1, (C152 a0.2.2 (W (0 - a1)) a1), trivial⟩
    | false =>
      have e : (F216 a0 a1) = false := by simp only [F216, h0, h1, cond_true, cond_false]
      rw [e]
      refine con_of (n := 9) Tryz.func216 rfl (ent Tryz.func216 (by kernel_rfl) rfl) (by show 2 ≤ Tryz.f216.ntmps; decide) (by kernel_rfl) trivial (fun cx hcx => ?_)
      exact ret_of (T := T0) hT hm (f := 5000) (orc := [.call [] (.v (.bool (F152 a0.1 (W (0 - a1)) a1))) [], .d true, .call [] (.v (.bool (F152 a0.2.1 (W (0 - a1)) a1))) [], .d false]) [] [] [] hcx
        (obs := [(oC216_0 a0 a1), .eq (F152 a0.1 (W (0 - a1)) a1) true, .call 152 [(iv a0.2.1), (iv (W (0 - a1))), (iv a1)] [] (.v (.bool (F152 a0.2.1 (W (0 - a1)) a1))) [], .eq (F152 a0.2.1 (W (0 - a1)) a1) false]) (by kernel_rfl) ⟨(C152 a0.1 (W (0 - a1)) a1), h0, (C152 a0.2.1 (W (0 - a1)) a1), h1, trivial⟩
  | false =>
    have e : (F216 a0 a1) = false := by simp only [F216, h0, cond_true, cond_false]
    rw [e]
    refine con_of (n := 9) Tryz.func216 rfl (ent Tryz.func216 (by kernel_rfl) rfl) (by show 2 ≤ Tryz.f216.ntmps; decide) (by kernel_rfl) trivial (fun cx hcx => ?_)
    exact ret_of (T := T0) hT hm (f := 5000) (orc := [.call [] (.v (.bool (F152 a0.1 (W (0 - a1)) a1))) [], .d false]) [] [] [] hcx
      (obs := [(oC216_0 a0 a1), .eq (F152 a0.1 (W (0 - a1)) a1) false]) (by kernel_rfl) ⟨(C152 a0.1 (W (0 - a1)) a1), h0, trivial⟩

/-- facet/shape.plus -/
def F246 (a0 : Int × Int × Int) (a1 : Int) (a2 : Int × Int × Int) : Int × Int × Int :=
  ((W (a0.1 + (W (a1 * a2.1)))), (W (a0.2.1 + (W (a1 * a2.2.1)))), (W (a0.2.2 + (W (a1 * a2.2.2)))))

theorem C246 (a0 : Int × Int × Int) (a1 : Int) (a2 : Int × Int × Int) : Con Tryz.prog 246 [(.a (k3 a0)), (iv a1), (.a (k3 a2))] [] (.a (k3 (F246 a0 a1 a2))) [] := by
  have e : (F246 a0 a1 a2) = ((W (a0.1 + (W (a1 * a2.1)))), (W (a0.2.1 + (W (a1 * a2.2.1)))), (W (a0.2.2 + (W (a1 * a2.2.2))))) := by simp only [F246]
  rw [e]
  refine con_of (n := 9) Tryz.func246 rfl (ent Tryz.func246 (by kernel_rfl) rfl) (by show 3 ≤ Tryz.f246.ntmps; decide) (by kernel_rfl) trivial (fun cx hcx => ?_)
  exact ret_of (T := T0) hT hm (f := 5000) (orc := []) [] [] [] hcx
    (obs := []) (by kernel_rfl) trivial

/-- facet/shape.minus -/
def F238 (a0 : Int × Int × Int) (a1 : Int × Int × Int) : Int × Int × Int :=
  (F246 a0 (-1) a1)

theorem C238 (a0 : Int × Int × Int) (a1 : Int × Int × Int) : Con Tryz.prog 238 [(.a (k3 a0)), (.a (k3 a1))] [] (.a (k3 (F238 a0 a1))) [] := by
  have e : (F238 a0 a1) = (F246 a0 (-1) a1) := by simp only [F238]
  rw [e]
  refine con_of (n := 9) Tryz.func238 rfl (ent Tryz.func238 (by kernel_rfl) rfl) (by show 2 ≤ Tryz.f238.ntmps; decide) (by kernel_rfl) trivial (fun cx hcx => ?_)
  exact ret_of (T := T0) hT hm (f := 5000) (orc := [.call [] (.a (k3 (F246 a0 (-1) a1))) []]) [] [] [] hcx
    (obs := [.call 246 [(.a (k3 a0)), (iv (-1)), (.a (k3 a1))] [] (.a (k3 (F246 a0 (-1) a1))) []]) (by kernel_rfl) ⟨(C246 a0 (-1) a1), trivial⟩

/-- facet/shape.cross -/
def F237 (a0 : Int × Int × Int) (a1 : Int × Int × Int) : Int × Int × Int :=
  ((W ((W (a0.2.1 * a1.2.2)) - (W (a0.2.2 * a1.2.1)))), (W ((W (a0.2.2 * a1.1)) - (W (a0.1 * a1.2.2)))), (W ((W (a0.1 * a1.2.1)) - (W (a0.2.1 * a1.1)))))

theorem C237 (a0 : Int × Int × Int) (a1 : Int × Int × Int) : Con Tryz.prog 237 [(.a (k3 a0)), (.a (k3 a1))] [] (.a (k3 (F237 a0 a1))) [] := by
  have e : (F237 a0 a1) = ((W ((W (a0.2.1 * a1.2.2)) - (W (a0.2.2 * a1.2.1)))), (W ((W (a0.2.2 * a1.1)) - (W (a0.1 * a1.2.2)))), (W ((W (a0.1 * a1.2.1)) - (W (a0.2.1 * a1.1))))) := by simp only [F237]
  rw [e]
  refine con_of (n := 9) Tryz.func237 rfl (ent Tryz.func237 (by kernel_rfl) rfl) (by show 2 ≤ Tryz.f237.ntmps; decide) (by kernel_rfl) trivial (fun cx hcx => ?_)
  exact ret_of (T := T0) hT hm (f := 5000) (orc := []) [] [] [] hcx
    (obs := []) (by kernel_rfl) trivial

/-- facet/shape.normal -/
def F217 (a0 : (Int × Int × Int) × (Int × Int × Int) × Int × Int × Int) : Int × Int × Int :=
  (F237 (F238 a0.2.1 a0.1) (F238 a0.2.2 a0.1))

theorem C217 (a0 : (Int × Int × Int) × (Int × Int × Int) × Int × Int × Int) : Con Tryz.prog 217 [(.a (k9 a0))] [] (.a (k3 (F217 a0))) [] := by
  have e : (F217 a0) = (F237 (F238 a0.2.1 a0.1) (F238 a0.2.2 a0.1)) := by simp only [F217]
  rw [e]
  refine con_of (n := 9) Tryz.func217 rfl (ent Tryz.func217 (by kernel_rfl) rfl) (by show 1 ≤ Tryz.f217.ntmps; decide) (by kernel_rfl) trivial (fun cx hcx => ?_)
  exact ret_of (T := T0) hT hm (f := 5000) (orc := [.call [] (.a (k3 (F238 a0.2.1 a0.1))) [], .call [] (.a (k3 (F238 a0.2.2 a0.1))) [], .call [] (.a (k3 (F237 (F238 a0.2.1 a0.1) (F238 a0.2.2 a0.1)))) []]) [] [] [] hcx
    (obs := [.call 238 [(.a (k3 a0.2.1)), (.a (k3 a0.1))] [] (.a (k3 (F238 a0.2.1 a0.1))) [], .call 238 [(.a (k3 a0.2.2)), (.a (k3 a0.1))] [] (.a (k3 (F238 a0.2.2 a0.1))) [], .call 237 [(.a (k3 (F238 a0.2.1 a0.1))), (.a (k3 (F238 a0.2.2 a0.1)))] [] (.a (k3 (F237 (F238 a0.2.1 a0.1) (F238 a0.2.2 a0.1)))) []]) (by kernel_rfl) ⟨(C238 a0.2.1 a0.1), (C238 a0.2.2 a0.1), (C237 (F238 a0.2.1 a0.1) (F238 a0.2.2 a0.1)), trivial⟩

/-- facet/shape.ValidatePanel -/
def F194 (a0 : (Int × Int × Int) × (Int × Int × Int) × Int × Int × Int) : Int :=
  (bif (!(F216 a0.1 64)) then
   1
  else
   (bif (!(F216 a0.2.1 64)) then
    1
   else
    (bif (!(F216 a0.2.2 64)) then
     1
    else
     (bif ((((F217 a0).1 : Int) == 0) && ((((F217 a0).2.1 : Int) == 0) && ((((F217 a0).2.2 : Int) == 0) && true))) then
      6
     else
      0))))

noncomputable def oC194_0 (a0 : (Int × Int × Int) × (Int × Int × Int) × Int × Int × Int) : Ob := .call 216 [(.a (k3 a0.1)), (iv 64)] [] (.v (.bool (F216 a0.1 64))) []
noncomputable def oC194_1 (a0 : (Int × Int × Int) × (Int × Int × Int) × Int × Int × Int) : Ob := .call 216 [(.a (k3 a0.2.1)), (iv 64)] [] (.v (.bool (F216 a0.2.1 64))) []
theorem C194 (a0 : (Int × Int × Int) × (Int × Int × Int) × Int × Int × Int) : Con Tryz.prog 194 [(.a (k9 a0))] [] (iv (F194 a0)) [] := by
  cases h0 : (!(F216 a0.1 64)) with
  | true =>
    have e : (F194 a0) = 1 := by simp only [F194, h0, cond_true, cond_false]
    rw [e]
    refine con_of (n := 9) Tryz.func194 rfl (ent Tryz.func194 (by kernel_rfl) rfl) (by show 1 ≤ Tryz.f194.ntmps; decide) (by kernel_rfl) trivial (fun cx hcx => ?_)
    exact ret_of (T := T0) hT hm (f := 5000) (orc := [.call [] (.v (.bool (F216 a0.1 64))) [], .d true]) [] [] [] hcx
      (obs := [(oC194_0 a0), .eq (!(F216 a0.1 64)) true]) (by kernel_rfl) ⟨(C216 a0.1 64), h0, trivial⟩
  | false =>
    cases h1 : (!(F216 a0.2.1 64)) with
    | true =>
      have e : (F194 a0) = 1 := by simp only [F194, h0, h1, cond_true, cond_false]
      rw [e]
      refine con_of (n := 9) Tryz.func194 rfl (ent Tryz.func194 (by kernel_rfl) rfl) (by show 1 ≤ Tryz.f194.ntmps; decide) (by kernel_rfl) trivial (fun cx hcx => ?_)
      exact ret_of (T := T0) hT hm (f := 5000) (orc := [.call [] (.v (.bool (F216 a0.1 64))) [], .d false, .call [] (.v (.bool (F216 a0.2.1 64))) [], .d true]) [] [] [] hcx
        (obs := [(oC194_0 a0), .eq (!(F216 a0.1 64)) false, (oC194_1 a0), .eq (!(F216 a0.2.1 64)) true]) (by kernel_rfl) ⟨(C216 a0.1 64), h0, (C216 a0.2.1 64), h1, trivial⟩
    | false =>
      cases h2 : (!(F216 a0.2.2 64)) with
      | true =>
        have e : (F194 a0) = 1 := by simp only [F194, h0, h1, h2, cond_true, cond_false]
        rw [e]
        refine con_of (n := 9) Tryz.func194 rfl (ent Tryz.func194 (by kernel_rfl) rfl) (by show 1 ≤ Tryz.f194.ntmps; decide) (by kernel_rfl) trivial (fun cx hcx => ?_)
        exact ret_of (T := T0) hT hm (f := 5000) (orc := [.call [] (.v (.bool (F216 a0.1 64))) [], .d false, .call [] (.v (.bool (F216 a0.2.1 64))) [], .d false, .call [] (.v (.bool (F216 a0.2.2 64))) [], .d true]) [] [] [] hcx
          (obs := [(oC194_0 a0), .eq (!(F216 a0.1 64)) false, (oC194_1 a0), .eq (!(F216 a0.2.1 64)) false, .call 216 [(.a (k3 a0.2.2)), (iv 64)] [] (.v (.bool (F216 a0.2.2 64))) [], .eq (!(F216 a0.2.2 64)) true]) (by kernel_rfl) ⟨(C216 a0.1 64), h0, (C216 a0.2.1 64), h1, (C216 a0.2.2 64), h2, trivial⟩
      | false =>
        cases h3 : ((((F217 a0).1 : Int) == 0) && ((((F217 a0).2.1 : Int) == 0) && ((((F217 a0).2.2 : Int) == 0) && true))) with
        | true =>
          have e : (F194 a0) = 6 := by simp only [F194, h0, h1, h2, h3, cond_true, cond_false]
          rw [e]
          refine con_of (n := 9) Tryz.func194 rfl (ent Tryz.func194 (by kernel_rfl) rfl) (by show 1 ≤ Tryz.f194.ntmps; decide) (by kernel_rfl) trivial (fun cx hcx => ?_)
          exact ret_of (T := T0) hT hm (f := 5000) (orc := [.call [] (.v (.bool (F216 a0.1 64))) [], .d false, .call [] (.v (.bool (F216 a0.2.1 64))) [], .d false, .call [] (.v (.bool (F216 a0.2.2 64))) [], .d false, .call [] (.a (k3 (F217 a0))) [], .d true]) [] [] [] hcx
            (obs := [(oC194_0 a0), .eq (!(F216 a0.1 64)) false, (oC194_1 a0), .eq (!(F216 a0.2.1 64)) false, .call 216 [(.a (k3 a0.2.2)), (iv 64)] [] (.v (.bool (F216 a0.2.2 64))) [], .eq (!(F216 a0.2.2 64)) false, .call 217 [(.a (k9 a0))] [] (.a (k3 (F217 a0))) [], .eq ((((F217 a0).1 : Int) == 0) && ((((F217 a0).2.1 : Int) == 0) && ((((F217 a0).2.2 : Int) == 0) && true))) true]) (by kernel_rfl) ⟨(C216 a0.1 64), h0, (C216 a0.2.1 64), h1, (C216 a0.2.2 64), h2, (C217 a0), h3, trivial⟩
        | false =>
          have e : (F194 a0) = 0 := by simp only [F194, h0, h1, h2, h3, cond_true, cond_false]
          rw [e]
          refine con_of (n := 9) Tryz.func194 rfl (ent Tryz.func194 (by kernel_rfl) rfl) (by show 1 ≤ Tryz.f194.ntmps; decide) (by kernel_rfl) trivial (fun cx hcx => ?_)
          exact ret_of (T := T0) hT hm (f := 5000) (orc := [.call [] (.v (.bool (F216 a0.1 64))) [], .d false, .call [] (.v (.bool (F216 a0.2.1 64))) [], .d false, .call [] (.v (.bool (F216 a0.2.2 64))) [], .d false, .call [] (.a (k3 (F217 a0))) [], .d false]) [] [] [] hcx
            (obs := [(oC194_0 a0), .eq (!(F216 a0.1 64)) false, (oC194_1 a0), .eq (!(F216 a0.2.1 64)) false, .call 216 [(.a (k3 a0.2.2)), (iv 64)] [] (.v (.bool (F216 a0.2.2 64))) [], .eq (!(F216 a0.2.2 64)) false, .call 217 [(.a (k9 a0))] [] (.a (k3 (F217 a0))) [], .eq ((((F217 a0).1 : Int) == 0) && ((((F217 a0).2.1 : Int) == 0) && ((((F217 a0).2.2 : Int) == 0) && true))) false]) (by kernel_rfl) ⟨(C216 a0.1 64), h0, (C216 a0.2.1 64), h1, (C216 a0.2.2 64), h2, (C217 a0), h3, trivial⟩

/-- facet/field.within -/
def F71 (a0 : Int) (a1 : Int) (a2 : Int) : Bool :=
  (bif (decide ((a0 : Int) ≥ a1)) then
   (decide ((a0 : Int) ≤ a2))
  else
   false)

theorem C71 (a0 : Int) (a1 : Int) (a2 : Int) : Con Tryz.prog 71 [(iv a0), (iv a1), (iv a2)] [] (.v (.bool (F71 a0 a1 a2))) [] := by
  cases h0 : (decide ((a0 : Int) ≥ a1)) with
  | true =>
    have q0 := of_decide_eq_true h0
    have e : (F71 a0 a1 a2) = (decide ((a0 : Int) ≤ a2)) := by simp only [F71, h0, cond_true, cond_false]
    rw [e]
    refine con_of (n := 9) Tryz.func71 rfl (ent Tryz.func71 (by kernel_rfl) rfl) (by show 3 ≤ Tryz.f71.ntmps; decide) (by kernel_rfl) trivial (fun cx hcx => ?_)
    exact ret_of (T := T0) hT hm (f := 5000) (orc := [.d true]) [] [] [] hcx
      (obs := [.eq (decide ((a0 : Int) ≥ a1)) true]) (by kernel_rfl) ⟨h0, trivial⟩
  | false =>
    have q0 := of_decide_eq_false h0
    have e : (F71 a0 a1 a2) = false := by simp only [F71, h0, cond_true, cond_false]
    rw [e]
    refine con_of (n := 9) Tryz.func71 rfl (ent Tryz.func71 (by kernel_rfl) rfl) (by show 3 ≤ Tryz.f71.ntmps; decide) (by kernel_rfl) trivial (fun cx hcx => ?_)
    exact ret_of (T := T0) hT hm (f := 5000) (orc := [.d false]) [] [] [] hcx
      (obs := [.eq (decide ((a0 : Int) ≥ a1)) false]) (by kernel_rfl) ⟨h0, trivial⟩

/-- facet/field.seen -/
def F70 (a0 : Int × Int × Int) : Bool :=
  (bif (F71 a0.1 (-256) 256) then
   (bif (F71 a0.2.1 (-256) 256) then
    (F71 a0.2.2 (-256) 256)
   else
    false)
  else
   false)

noncomputable def oC70_0 (a0 : Int × Int × Int) : Ob := .call 71 [(iv a0.1), (iv (-256)), (iv 256)] [] (.v (.bool (F71 a0.1 (-256) 256))) []
theorem C70 (a0 : Int × Int × Int) : Con Tryz.prog 70 [(.a (k3 a0))] [] (.v (.bool (F70 a0))) [] := by
  cases h0 : (F71 a0.1 (-256) 256) with
  | true =>
    cases h1 : (F71 a0.2.1 (-256) 256) with
    | true =>
      have e : (F70 a0) = (F71 a0.2.2 (-256) 256) := by simp only [F70, h0, h1, cond_true, cond_false]
      rw [e]
      refine con_of (n := 9) Tryz.func70 rfl (ent Tryz.func70 (by kernel_rfl) rfl) (by show 1 ≤ Tryz.f70.ntmps; decide) (by kernel_rfl) trivial (fun cx hcx => ?_)
      exact ret_of (T := T0) hT hm (f := 5000) (orc := [.call [] (.v (.bool (F71 a0.1 (-256) 256))) [], .d true, .call [] (.v (.bool (F71 a0.2.1 (-256) 256))) [], .d true, .call [] (.v (.bool (F71 a0.2.2 (-256) 256))) []]) [] [] [] hcx
        (obs := [(oC70_0 a0), .eq (F71 a0.1 (-256) 256) true, .call 71 [(iv a0.2.1), (iv (-256)), (iv 256)] [] (.v (.bool (F71 a0.2.1 (-256) 256))) [], .eq (F71 a0.2.1 (-256) 256) true, .call 71 [(iv a0.2.2), (iv (-256)), (iv 256)] [] (.v (.bool (F71 a0.2.2 (-256) 256))) []]) (by kernel_rfl) ⟨(C71 a0.1 (-256) 256), h0, (C71 a0.2.1 (-256) 256), h1, (C71 a0.2.2 (-256) 256), trivial⟩
    | false =>
      have e : (F70 a0) = false := by simp only [F70, h0, h1, cond_true, cond_false]
      rw [e]
      refine con_of (n := 9) Tryz.func70 rfl (ent Tryz.func70 (by kernel_rfl) rfl) (by show 1 ≤ Tryz.f70.ntmps; decide) (by kernel_rfl) trivial (fun cx hcx => ?_)
      exact ret_of (T := T0) hT hm (f := 5000) (orc := [.call [] (.v (.bool (F71 a0.1 (-256) 256))) [], .d true, .call [] (.v (.bool (F71 a0.2.1 (-256) 256))) [], .d false]) [] [] [] hcx
        (obs := [(oC70_0 a0), .eq (F71 a0.1 (-256) 256) true, .call 71 [(iv a0.2.1), (iv (-256)), (iv 256)] [] (.v (.bool (F71 a0.2.1 (-256) 256))) [], .eq (F71 a0.2.1 (-256) 256) false]) (by kernel_rfl) ⟨(C71 a0.1 (-256) 256), h0, (C71 a0.2.1 (-256) 256), h1, trivial⟩
  | false =>
    have e : (F70 a0) = false := by simp only [F70, h0, cond_true, cond_false]
    rw [e]
    refine con_of (n := 9) Tryz.func70 rfl (ent Tryz.func70 (by kernel_rfl) rfl) (by show 1 ≤ Tryz.f70.ntmps; decide) (by kernel_rfl) trivial (fun cx hcx => ?_)
    exact ret_of (T := T0) hT hm (f := 5000) (orc := [.call [] (.v (.bool (F71 a0.1 (-256) 256))) [], .d false]) [] [] [] hcx
      (obs := [(oC70_0 a0), .eq (F71 a0.1 (-256) 256) false]) (by kernel_rfl) ⟨(C71 a0.1 (-256) 256), h0, trivial⟩

/-- facet/field.check -/
def F128 (a0 : (Int × Int × Int) × (Int × Int × Int) × Int × Int × Int) (a1 : Int × Int × Int) (a2 : Int) : Int :=
  (bif (((F194 a0) : Int) != 0) then
   (F194 a0)
  else
   (bif (!(F70 a1)) then
    1
   else
    (bif (!(F71 a2 0 3)) then
     1
    else
     0)))

theorem C128 (a0 : (Int × Int × Int) × (Int × Int × Int) × Int × Int × Int) (a1 : Int × Int × Int) (a2 : Int) : Con Tryz.prog 128 [(.a (k9 a0)), (.a (k3 a1)), (iv a2)] [] (iv (F128 a0 a1 a2)) [] := by
  cases h0 : (((F194 a0) : Int) != 0) with
  | true =>
    have q0 := bne_iff_ne.1 h0
    have e : (F128 a0 a1 a2) = (F194 a0) := by simp only [F128, h0, cond_true, cond_false]
    rw [e]
    refine con_of (n := 9) Tryz.func128 rfl (ent Tryz.func128 (by kernel_rfl) rfl) (by show 3 ≤ Tryz.f128.ntmps; decide) (by kernel_rfl) trivial (fun cx hcx => ?_)
    exact ret_of (T := T0) hT hm (f := 5000) (orc := [.call [] (iv (F194 a0)) [], .d true]) [] [] [] hcx
      (obs := [.call 194 [(.a (k9 a0))] [] (iv (F194 a0)) [], .eq (((F194 a0) : Int) != 0) true]) (by kernel_rfl) ⟨(C194 a0), h0, trivial⟩
  | false =>
    cases h1 : (!(F70 a1)) with
    | true =>
      have q0 := bne_eq_false_iff_eq.1 h0
      have e : (F128 a0 a1 a2) = 1 := by simp only [F128, h0, h1, cond_true, cond_false]
      rw [e]
      refine con_of (n := 9) Tryz.func128 rfl (ent Tryz.func128 (by kernel_rfl) rfl) (by show 3 ≤ Tryz.f128.ntmps; decide) (by kernel_rfl) trivial (fun cx hcx => ?_)
      exact ret_of (T := T0) hT hm (f := 5000) (orc := [.call [] (iv (F194 a0)) [], .d false, .call [] (.v (.bool (F70 a1))) [], .d true]) [] [] [] hcx
        (obs := [.call 194 [(.a (k9 a0))] [] (iv (F194 a0)) [], .eq (((F194 a0) : Int) != 0) false, .call 70 [(.a (k3 a1))] [] (.v (.bool (F70 a1))) [], .eq (!(F70 a1)) true]) (by kernel_rfl) ⟨(C194 a0), h0, (C70 a1), h1, trivial⟩
    | false =>
      cases h2 : (!(F71 a2 0 3)) with
      | true =>
        have q0 := bne_eq_false_iff_eq.1 h0
        have e : (F128 a0 a1 a2) = 1 := by simp only [F128, h0, h1, h2, cond_true, cond_false]
        rw [e]
        refine con_of (n := 9) Tryz.func128 rfl (ent Tryz.func128 (by kernel_rfl) rfl) (by show 3 ≤ Tryz.f128.ntmps; decide) (by kernel_rfl) trivial (fun cx hcx => ?_)
        exact ret_of (T := T0) hT hm (f := 5000) (orc := [.call [] (iv (F194 a0)) [], .d false, .call [] (.v (.bool (F70 a1))) [], .d false, .call [] (.v (.bool (F71 a2 0 3))) [], .d true]) [] [] [] hcx
          (obs := [.call 194 [(.a (k9 a0))] [] (iv (F194 a0)) [], .eq (((F194 a0) : Int) != 0) false, .call 70 [(.a (k3 a1))] [] (.v (.bool (F70 a1))) [], .eq (!(F70 a1)) false, .call 71 [(iv a2), (iv 0), (iv 3)] [] (.v (.bool (F71 a2 0 3))) [], .eq (!(F71 a2 0 3)) true]) (by kernel_rfl) ⟨(C194 a0), h0, (C70 a1), h1, (C71 a2 0 3), h2, trivial⟩
      | false =>
        have q0 := bne_eq_false_iff_eq.1 h0
        have e : (F128 a0 a1 a2) = 0 := by simp only [F128, h0, h1, h2, cond_true, cond_false]
        rw [e]
        refine con_of (n := 9) Tryz.func128 rfl (ent Tryz.func128 (by kernel_rfl) rfl) (by show 3 ≤ Tryz.f128.ntmps; decide) (by kernel_rfl) trivial (fun cx hcx => ?_)
        exact ret_of (T := T0) hT hm (f := 5000) (orc := [.call [] (iv (F194 a0)) [], .d false, .call [] (.v (.bool (F70 a1))) [], .d false, .call [] (.v (.bool (F71 a2 0 3))) [], .d false]) [] [] [] hcx
          (obs := [.call 194 [(.a (k9 a0))] [] (iv (F194 a0)) [], .eq (((F194 a0) : Int) != 0) false, .call 70 [(.a (k3 a1))] [] (.v (.bool (F70 a1))) [], .eq (!(F70 a1)) false, .call 71 [(iv a2), (iv 0), (iv 3)] [] (.v (.bool (F71 a2 0 3))) [], .eq (!(F71 a2 0 3)) false]) (by kernel_rfl) ⟨(C194 a0), h0, (C70 a1), h1, (C71 a2 0 3), h2, trivial⟩

/-- facet/field.pair -/
def F168 (a0 : (Int × Int × Int) × (Int × Int × Int) × Int × Int × Int) (a1 : (Int × Int × Int) × (Int × Int × Int) × Int × Int × Int) (a2 : Int) : Int :=
  (bif (((F194 a0) : Int) != 0) then
   (F194 a0)
  else
   (bif (((F194 a1) : Int) != 0) then
    (F194 a1)
   else
    (bif (!(F71 a2 0 2)) then
     1
    else
     0)))

/-- facet/field.sum[int] at (3,) -/
def F210_3 (a0 : (Int) × (Int) × (Int)) : Int :=
  (W ((W ((W (0 + a0.1)) + a0.2.1)) + a0.2.2))

theorem C210_3 (a0 : (Int) × (Int) × (Int)) : Con Tryz.prog 210 [(.s 0 0 3 1)] [(.live false false (k3 a0))] (iv (F210_3 a0)) [] := by
  have e : (F210_3 a0) = (W ((W ((W (0 + a0.1)) + a0.2.1)) + a0.2.2)) := by simp only [F210_3]
  rw [e]
  refine con_of (n := 9) Tryz.func210 rfl (ent Tryz.func210 (by kernel_rfl) rfl) (by show 1 ≤ Tryz.f210.ntmps; decide) (by kernel_rfl) ⟨rfl, trivial⟩ (fun cx hcx => ?_)
  exact ret_of (T := T0) hT hm (f := 5000) (orc := [.un 200, .d true, .un 0, .d true, .un 0, .d true, .un 0, .d false]) [] [] [] hcx
    (obs := [.eq true true, .pr (0 ≤ (0 : Int) ∧ (0 : Int) < ((3 : Nat) : Int)), .eq true true, .pr (0 ≤ (1 : Int) ∧ (1 : Int) < ((3 : Nat) : Int)), .eq true true, .pr (0 ≤ (2 : Int) ∧ (2 : Int) < ((3 : Nat) : Int)), .eq false false]) (by kernel_rfl) ⟨rfl, (show 0 ≤ (0 : Int) ∧ (0 : Int) < ((3 : Nat) : Int) from by decide), rfl, (show 0 ≤ (1 : Int) ∧ (1 : Int) < ((3 : Nat) : Int) from by decide), rfl, (show 0 ≤ (2 : Int) ∧ (2 : Int) < ((3 : Nat) : Int) from by decide), rfl, trivial⟩

/-- facet/field.dot -/
def F143 (a0 : Int × Int × Int) (a1 : Int × Int × Int) : Int :=
  (F210_3 ((W (a0.1 * a1.1)), (W (a0.2.1 * a1.2.1)), (W (a0.2.2 * a1.2.2))))

theorem C143 (a0 : Int × Int × Int) (a1 : Int × Int × Int) : Con Tryz.prog 143 [(.a (k3 a0)), (.a (k3 a1))] [] (iv (F143 a0 a1)) [] := by
  have e : (F143 a0 a1) = (F210_3 ((W (a0.1 * a1.1)), (W (a0.2.1 * a1.2.1)), (W (a0.2.2 * a1.2.2)))) := by simp only [F143]
  rw [e]
  refine con_of (n := 9) Tryz.func143 rfl (ent Tryz.func143 (by kernel_rfl) rfl) (by show 2 ≤ Tryz.f143.ntmps; decide) (by kernel_rfl) trivial (fun cx hcx => ?_)
  exact ret_of (T := T0) hT hm (f := 5000) (orc := [.call [2] (iv (F210_3 ((W (a0.1 * a1.1)), (W (a0.2.1 * a1.2.1)), (W (a0.2.2 * a1.2.2))))) []]) [] [] [] hcx
    (obs := [.call 210 [(.s 0 0 3 1)] [(.live false false [(iv (W (a0.1 * a1.1))), (iv (W (a0.2.1 * a1.2.1))), (iv (W (a0.2.2 * a1.2.2)))])] (iv (F210_3 ((W (a0.1 * a1.1)), (W (a0.2.1 * a1.2.1)), (W (a0.2.2 * a1.2.2))))) []]) (by kernel_rfl) ⟨(C210_3 ((W (a0.1 * a1.1)), (W (a0.2.1 * a1.2.1)), (W (a0.2.2 * a1.2.2)))), trivial⟩

/-- facet/field.vector -/
def F144 (a0 : Int × Int × Int) (a1 : Int × Int × Int) : Int × Int × Int :=
  ((W (a0.1 - a1.1)), (W (a0.2.1 - a1.2.1)), (W (a0.2.2 - a1.2.2)))

theorem C144 (a0 : Int × Int × Int) (a1 : Int × Int × Int) : Con Tryz.prog 144 [(.a (k3 a0)), (.a (k3 a1))] [] (.a (k3 (F144 a0 a1))) [] := by
  have e : (F144 a0 a1) = ((W (a0.1 - a1.1)), (W (a0.2.1 - a1.2.1)), (W (a0.2.2 - a1.2.2))) := by simp only [F144]
  rw [e]
  refine con_of (n := 9) Tryz.func144 rfl (ent Tryz.func144 (by kernel_rfl) rfl) (by show 2 ≤ Tryz.f144.ntmps; decide) (by kernel_rfl) trivial (fun cx hcx => ?_)
  exact ret_of (T := T0) hT hm (f := 5000) (orc := []) [] [] [] hcx
    (obs := []) (by kernel_rfl) trivial

/-- facet/field.box at (3,) -/
def F232_3 (a0 : (Int × Int × Int) × (Int × Int × Int) × (Int × Int × Int)) : (Int × Int × Int) × Int × Int × Int :=
  (((if (a0.2.2.1 : Int) < (if (a0.2.1.1 : Int) < (if (a0.1.1 : Int) < a0.1.1 then a0.1.1 else a0.1.1) then a0.2.1.1 else (if (a0.1.1 : Int) < a0.1.1 then a0.1.1 else a0.1.1)) then a0.2.2.1 else (if (a0.2.1.1 : Int) < (if (a0.1.1 : Int) < a0.1.1 then a0.1.1 else a0.1.1) then a0.2.1.1 else (if (a0.1.1 : Int) < a0.1.1 then a0.1.1 else a0.1.1))), (if (a0.2.2.2.1 : Int) < (if (a0.2.1.2.1 : Int) < (if (a0.1.2.1 : Int) < a0.1.2.1 then a0.1.2.1 else a0.1.2.1) then a0.2.1.2.1 else (if (a0.1.2.1 : Int) < a0.1.2.1 then a0.1.2.1 else a0.1.2.1)) then a0.2.2.2.1 else (if (a0.2.1.2.1 : Int) < (if (a0.1.2.1 : Int) < a0.1.2.1 then a0.1.2.1 else a0.1.2.1) then a0.2.1.2.1 else (if (a0.1.2.1 : Int) < a0.1.2.1 then a0.1.2.1 else a0.1.2.1))), (if (a0.2.2.2.2 : Int) < (if (a0.2.1.2.2 : Int) < (if (a0.1.2.2 : Int) < a0.1.2.2 then a0.1.2.2 else a0.1.2.2) then a0.2.1.2.2 else (if (a0.1.2.2 : Int) < a0.1.2.2 then a0.1.2.2 else a0.1.2.2)) then a0.2.2.2.2 else (if (a0.2.1.2.2 : Int) < (if (a0.1.2.2 : Int) < a0.1.2.2 then a0.1.2.2 else a0.1.2.2) then a0.2.1.2.2 else (if (a0.1.2.2 : Int) < a0.1.2.2 then a0.1.2.2 else a0.1.2.2)))), ((if ((if ((if (a0.1.1 : Int) < a0.1.1 then a0.1.1 else a0.1.1) : Int) < a0.2.1.1 then a0.2.1.1 else (if (a0.1.1 : Int) < a0.1.1 then a0.1.1 else a0.1.1)) : Int) < a0.2.2.1 then a0.2.2.1 else (if ((if (a0.1.1 : Int) < a0.1.1 then a0.1.1 else a0.1.1) : Int) < a0.2.1.1 then a0.2.1.1 else (if (a0.1.1 : Int) < a0.1.1 then a0.1.1 else a0.1.1))), (if ((if ((if (a0.1.2.1 : Int) < a0.1.2.1 then a0.1.2.1 else a0.1.2.1) : Int) < a0.2.1.2.1 then a0.2.1.2.1 else (if (a0.1.2.1 : Int) < a0.1.2.1 then a0.1.2.1 else a0.1.2.1)) : Int) < a0.2.2.2.1 then a0.2.2.2.1 else (if ((if (a0.1.2.1 : Int) < a0.1.2.1 then a0.1.2.1 else a0.1.2.1) : Int) < a0.2.1.2.1 then a0.2.1.2.1 else (if (a0.1.2.1 : Int) < a0.1.2.1 then a0.1.2.1 else a0.1.2.1))), (if ((if ((if (a0.1.2.2 : Int) < a0.1.2.2 then a0.1.2.2 else a0.1.2.2) : Int) < a0.2.1.2.2 then a0.2.1.2.2 else (if (a0.1.2.2 : Int) < a0.1.2.2 then a0.1.2.2 else a0.1.2.2)) : Int) < a0.2.2.2.2 then a0.2.2.2.2 else (if ((if (a0.1.2.2 : Int) < a0.1.2.2 then a0.1.2.2 else a0.1.2.2) : Int) < a0.2.1.2.2 then a0.2.1.2.2 else (if (a0.1.2.2 : Int) < a0.1.2.2 then a0.1.2.2 else a0.1.2.2)))))

theorem C232_3 (a0 : (Int × Int × Int) × (Int × Int × Int) × (Int × Int × Int)) : Con Tryz.prog 232 [(.s 0 0 3 3)] [(.live false false (k9 a0))] (.t [(.a (k3 (F232_3 a0).1)), (.a (k3 (F232_3 a0).2))]) [] := by
  have e : (F232_3 a0) = (((if (a0.2.2.1 : Int) < (if (a0.2.1.1 : Int) < (if (a0.1.1 : Int) < a0.1.1 then a0.1.1 else a0.1.1) then a0.2.1.1 else (if (a0.1.1 : Int) < a0.1.1 then a0.1.1 else a0.1.1)) then a0.2.2.1 else (if (a0.2.1.1 : Int) < (if (a0.1.1 : Int) < a0.1.1 then a0.1.1 else a0.1.1) then a0.2.1.1 else (if (a0.1.1 : Int) < a0.1.1 then a0.1.1 else a0.1.1))), (if (a0.2.2.2.1 : Int) < (if (a0.2.1.2.1 : Int) < (if (a0.1.2.1 : Int) < a0.1.2.1 then a0.1.2.1 else a0.1.2.1) then a0.2.1.2.1 else (if (a0.1.2.1 : Int) < a0.1.2.1 then a0.1.2.1 else a0.1.2.1)) then a0.2.2.2.1 else (if (a0.2.1.2.1 : Int) < (if (a0.1.2.1 : Int) < a0.1.2.1 then a0.1.2.1 else a0.1.2.1) then a0.2.1.2.1 else (if (a0.1.2.1 : Int) < a0.1.2.1 then a0.1.2.1 else a0.1.2.1))), (if (a0.2.2.2.2 : Int) < (if (a0.2.1.2.2 : Int) < (if (a0.1.2.2 : Int) < a0.1.2.2 then a0.1.2.2 else a0.1.2.2) then a0.2.1.2.2 else (if (a0.1.2.2 : Int) < a0.1.2.2 then a0.1.2.2 else a0.1.2.2)) then a0.2.2.2.2 else (if (a0.2.1.2.2 : Int) < (if (a0.1.2.2 : Int) < a0.1.2.2 then a0.1.2.2 else a0.1.2.2) then a0.2.1.2.2 else (if (a0.1.2.2 : Int) < a0.1.2.2 then a0.1.2.2 else a0.1.2.2)))), ((if ((if ((if (a0.1.1 : Int) < a0.1.1 then a0.1.1 else a0.1.1) : Int) < a0.2.1.1 then a0.2.1.1 else (if (a0.1.1 : Int) < a0.1.1 then a0.1.1 else a0.1.1)) : Int) < a0.2.2.1 then a0.2.2.1 else (if ((if (a0.1.1 : Int) < a0.1.1 then a0.1.1 else a0.1.1) : Int) < a0.2.1.1 then a0.2.1.1 else (if (a0.1.1 : Int) < a0.1.1 then a0.1.1 else a0.1.1))), (if ((if ((if (a0.1.2.1 : Int) < a0.1.2.1 then a0.1.2.1 else a0.1.2.1) : Int) < a0.2.1.2.1 then a0.2.1.2.1 else (if (a0.1.2.1 : Int) < a0.1.2.1 then a0.1.2.1 else a0.1.2.1)) : Int) < a0.2.2.2.1 then a0.2.2.2.1 else (if ((if (a0.1.2.1 : Int) < a0.1.2.1 then a0.1.2.1 else a0.1.2.1) : Int) < a0.2.1.2.1 then a0.2.1.2.1 else (if (a0.1.2.1 : Int) < a0.1.2.1 then a0.1.2.1 else a0.1.2.1))), (if ((if ((if (a0.1.2.2 : Int) < a0.1.2.2 then a0.1.2.2 else a0.1.2.2) : Int) < a0.2.1.2.2 then a0.2.1.2.2 else (if (a0.1.2.2 : Int) < a0.1.2.2 then a0.1.2.2 else a0.1.2.2)) : Int) < a0.2.2.2.2 then a0.2.2.2.2 else (if ((if (a0.1.2.2 : Int) < a0.1.2.2 then a0.1.2.2 else a0.1.2.2) : Int) < a0.2.1.2.2 then a0.2.1.2.2 else (if (a0.1.2.2 : Int) < a0.1.2.2 then a0.1.2.2 else a0.1.2.2))))) := by simp only [F232_3]
  rw [e]
  refine con_of (n := 9) Tryz.func232 rfl (ent Tryz.func232 (by kernel_rfl) rfl) (by show 1 ≤ Tryz.f232.ntmps; decide) (by kernel_rfl) ⟨rfl, trivial⟩ (fun cx hcx => ?_)
  exact ret_of (T := T0) hT hm (f := 5000) (orc := [.un 200, .d true, .un 0, .d true, .un 0, .d true, .un 0, .d false]) [] [] [] hcx
    (obs := [.pr (0 ≤ (0 : Int) ∧ (0 : Int) < ((3 : Nat) : Int)), .pr (0 ≤ (0 : Int) ∧ (0 : Int) < ((3 : Nat) : Int)), .eq true true, .pr (0 ≤ (0 : Int) ∧ (0 : Int) < ((3 : Nat) : Int)), .eq true true, .pr (0 ≤ (1 : Int) ∧ (1 : Int) < ((3 : Nat) : Int)), .eq true true, .pr (0 ≤ (2 : Int) ∧ (2 : Int) < ((3 : Nat) : Int)), .eq false false]) (by kernel_rfl) ⟨(show 0 ≤ (0 : Int) ∧ (0 : Int) < ((3 : Nat) : Int) from by decide), (show 0 ≤ (0 : Int) ∧ (0 : Int) < ((3 : Nat) : Int) from by decide), rfl, (show 0 ≤ (0 : Int) ∧ (0 : Int) < ((3 : Nat) : Int) from by decide), rfl, (show 0 ≤ (1 : Int) ∧ (1 : Int) < ((3 : Nat) : Int) from by decide), rfl, (show 0 ≤ (2 : Int) ∧ (2 : Int) < ((3 : Nat) : Int) from by decide), rfl, trivial⟩

/-- facet/field.box at (1,) -/
def F232_1 (a0 : Int × Int × Int) : (Int × Int × Int) × Int × Int × Int :=
  (((if (a0.1 : Int) < a0.1 then a0.1 else a0.1), (if (a0.2.1 : Int) < a0.2.1 then a0.2.1 else a0.2.1), (if (a0.2.2 : Int) < a0.2.2 then a0.2.2 else a0.2.2)), ((if (a0.1 : Int) < a0.1 then a0.1 else a0.1), (if (a0.2.1 : Int) < a0.2.1 then a0.2.1 else a0.2.1), (if (a0.2.2 : Int) < a0.2.2 then a0.2.2 else a0.2.2)))

theorem C232_1 (a0 : Int × Int × Int) : Con Tryz.prog 232 [(.s 0 0 1 3)] [(.live false false (k3 a0))] (.t [(.a (k3 (F232_1 a0).1)), (.a (k3 (F232_1 a0).2))]) [] := by
  have e : (F232_1 a0) = (((if (a0.1 : Int) < a0.1 then a0.1 else a0.1), (if (a0.2.1 : Int) < a0.2.1 then a0.2.1 else a0.2.1), (if (a0.2.2 : Int) < a0.2.2 then a0.2.2 else a0.2.2)), ((if (a0.1 : Int) < a0.1 then a0.1 else a0.1), (if (a0.2.1 : Int) < a0.2.1 then a0.2.1 else a0.2.1), (if (a0.2.2 : Int) < a0.2.2 then a0.2.2 else a0.2.2))) := by simp only [F232_1]
  rw [e]
  refine con_of (n := 9) Tryz.func232 rfl (ent Tryz.func232 (by kernel_rfl) rfl) (by show 1 ≤ Tryz.f232.ntmps; decide) (by kernel_rfl) ⟨rfl, trivial⟩ (fun cx hcx => ?_)
  exact ret_of (T := T0) hT hm (f := 5000) (orc := [.un 200, .d true, .un 0, .d false]) [] [] [] hcx
    (obs := [.pr (0 ≤ (0 : Int) ∧ (0 : Int) < ((1 : Nat) : Int)), .pr (0 ≤ (0 : Int) ∧ (0 : Int) < ((1 : Nat) : Int)), .eq true true, .pr (0 ≤ (0 : Int) ∧ (0 : Int) < ((1 : Nat) : Int)), .eq false false]) (by kernel_rfl) ⟨(show 0 ≤ (0 : Int) ∧ (0 : Int) < ((1 : Nat) : Int) from by decide), (show 0 ≤ (0 : Int) ∧ (0 : Int) < ((1 : Nat) : Int) from by decide), rfl, (show 0 ≤ (0 : Int) ∧ (0 : Int) < ((1 : Nat) : Int) from by decide), rfl, trivial⟩

/-- facet/field.gap -/
def F233 (a0 : Int) (a1 : Int) (a2 : Int) (a3 : Int) : Int :=
  (if ((if (0 : Int) < (W (a2 - a1)) then (W (a2 - a1)) else 0) : Int) < (W (a0 - a3)) then (W (a0 - a3)) else (if (0 : Int) < (W (a2 - a1)) then (W (a2 - a1)) else 0))

theorem C233 (a0 : Int) (a1 : Int) (a2 : Int) (a3 : Int) : Con Tryz.prog 233 [(iv a0), (iv a1), (iv a2), (iv a3)] [] (iv (F233 a0 a1 a2 a3)) [] := by
  have e : (F233 a0 a1 a2 a3) = (if ((if (0 : Int) < (W (a2 - a1)) then (W (a2 - a1)) else 0) : Int) < (W (a0 - a3)) then (W (a0 - a3)) else (if (0 : Int) < (W (a2 - a1)) then (W (a2 - a1)) else 0)) := by simp only [F233]
  rw [e]
  refine con_of (n := 9) Tryz.func233 rfl (ent Tryz.func233 (by kernel_rfl) rfl) (by show 4 ≤ Tryz.f233.ntmps; decide) (by kernel_rfl) trivial (fun cx hcx => ?_)
  exact ret_of (T := T0) hT hm (f := 5000) (orc := []) [] [] [] hcx
    (obs := []) (by kernel_rfl) trivial

/-- facet/field.near at (3, 1) -/
def F197_3_1 (a0 : (Int × Int × Int) × (Int × Int × Int) × (Int × Int × Int)) (a1 : Int × Int × Int) : Int :=
  (F143 ((F233 (F232_3 a0).1.1 (F232_3 a0).2.1 (F232_1 a1).1.1 (F232_1 a1).2.1), (F233 (F232_3 a0).1.2.1 (F232_3 a0).2.2.1 (F232_1 a1).1.2.1 (F232_1 a1).2.2.1), (F233 (F232_3 a0).1.2.2 (F232_3 a0).2.2.2 (F232_1 a1).1.2.2 (F232_1 a1).2.2.2)) ((F233 (F232_3 a0).1.1 (F232_3 a0).2.1 (F232_1 a1).1.1 (F232_1 a1).2.1), (F233 (F232_3 a0).1.2.1 (F232_3 a0).2.2.1 (F232_1 a1).1.2.1 (F232_1 a1).2.2.1), (F233 (F232_3 a0).1.2.2 (F232_3 a0).2.2.2 (F232_1 a1).1.2.2 (F232_1 a1).2.2.2)))

theorem C197_3_1 (a0 : (Int × Int × Int) × (Int × Int × Int) × (Int × Int × Int)) (a1 : Int × Int × Int) : Con Tryz.prog 197 [(.s 0 0 3 3), (.s 1 0 1 3)] [(.live false false (k9 a0)), (.live false false (k3 a1))] (iv (F197_3_1 a0 a1)) [] := by
  have e : (F197_3_1 a0 a1) = (F143 ((F233 (F232_3 a0).1.1 (F232_3 a0).2.1 (F232_1 a1).1.1 (F232_1 a1).2.1), (F233 (F232_3 a0).1.2.1 (F232_3 a0).2.2.1 (F232_1 a1).1.2.1 (F232_1 a1).2.2.1), (F233 (F232_3 a0).1.2.2 (F232_3 a0).2.2.2 (F232_1 a1).1.2.2 (F232_1 a1).2.2.2)) ((F233 (F232_3 a0).1.1 (F232_3 a0).2.1 (F232_1 a1).1.1 (F232_1 a1).2.1), (F233 (F232_3 a0).1.2.1 (F232_3 a0).2.2.1 (F232_1 a1).1.2.1 (F232_1 a1).2.2.1), (F233 (F232_3 a0).1.2.2 (F232_3 a0).2.2.2 (F232_1 a1).1.2.2 (F232_1 a1).2.2.2))) := by simp only [F197_3_1]
  rw [e]
  refine con_of (n := 9) Tryz.func197 rfl (ent Tryz.func197 (by kernel_rfl) rfl) (by show 2 ≤ Tryz.f197.ntmps; decide) (by kernel_rfl) ⟨rfl, rfl, trivial⟩ (fun cx hcx => ?_)
  exact ret_of (T := T0) hT hm (f := 5000) (orc := [.call [0] (.t [(.a (k3 (F232_3 a0).1)), (.a (k3 (F232_3 a0).2))]) [], .call [1] (.t [(.a (k3 (F232_1 a1).1)), (.a (k3 (F232_1 a1).2))]) [], .call [] (iv (F233 (F232_3 a0).1.1 (F232_3 a0).2.1 (F232_1 a1).1.1 (F232_1 a1).2.1)) [], .call [] (iv (F233 (F232_3 a0).1.2.1 (F232_3 a0).2.2.1 (F232_1 a1).1.2.1 (F232_1 a1).2.2.1)) [], .call [] (iv (F233 (F232_3 a0).1.2.2 (F232_3 a0).2.2.2 (F232_1 a1).1.2.2 (F232_1 a1).2.2.2)) [], .call [] (iv (F143 ((F233 (F232_3 a0).1.1 (F232_3 a0).2.1 (F232_1 a1).1.1 (F232_1 a1).2.1), (F233 (F232_3 a0).1.2.1 (F232_3 a0).2.2.1 (F232_1 a1).1.2.1 (F232_1 a1).2.2.1), (F233 (F232_3 a0).1.2.2 (F232_3 a0).2.2.2 (F232_1 a1).1.2.2 (F232_1 a1).2.2.2)) ((F233 (F232_3 a0).1.1 (F232_3 a0).2.1 (F232_1 a1).1.1 (F232_1 a1).2.1), (F233 (F232_3 a0).1.2.1 (F232_3 a0).2.2.1 (F232_1 a1).1.2.1 (F232_1 a1).2.2.1), (F233 (F232_3 a0).1.2.2 (F232_3 a0).2.2.2 (F232_1 a1).1.2.2 (F232_1 a1).2.2.2)))) []]) [] [] [] hcx
    (obs := [.call 232 [(.s 0 0 3 3)] [(.live false false (k9 a0))] (.t [(.a (k3 (F232_3 a0).1)), (.a (k3 (F232_3 a0).2))]) [], .call 232 [(.s 0 0 1 3)] [(.live false false (k3 a1))] (.t [(.a (k3 (F232_1 a1).1)), (.a (k3 (F232_1 a1).2))]) [], .call 233 [(iv (F232_3 a0).1.1), (iv (F232_3 a0).2.1), (iv (F232_1 a1).1.1), (iv (F232_1 a1).2.1)] [] (iv (F233 (F232_3 a0).1.1 (F232_3 a0).2.1 (F232_1 a1).1.1 (F232_1 a1).2.1)) [], .call 233 [(iv (F232_3 a0).1.2.1), (iv (F232_3 a0).2.2.1), (iv (F232_1 a1).1.2.1), (iv (F232_1 a1).2.2.1)] [] (iv (F233 (F232_3 a0).1.2.1 (F232_3 a0).2.2.1 (F232_1 a1).1.2.1 (F232_1 a1).2.2.1)) [], .call 233 [(iv (F232_3 a0).1.2.2), (iv (F232_3 a0).2.2.2), (iv (F232_1 a1).1.2.2), (iv (F232_1 a1).2.2.2)] [] (iv (F233 (F232_3 a0).1.2.2 (F232_3 a0).2.2.2 (F232_1 a1).1.2.2 (F232_1 a1).2.2.2)) [], .call 143 [(.a [(iv (F233 (F232_3 a0).1.1 (F232_3 a0).2.1 (F232_1 a1).1.1 (F232_1 a1).2.1)), (iv (F233 (F232_3 a0).1.2.1 (F232_3 a0).2.2.1 (F232_1 a1).1.2.1 (F232_1 a1).2.2.1)), (iv (F233 (F232_3 a0).1.2.2 (F232_3 a0).2.2.2 (F232_1 a1).1.2.2 (F232_1 a1).2.2.2))]), (.a [(iv (F233 (F232_3 a0).1.1 (F232_3 a0).2.1 (F232_1 a1).1.1 (F232_1 a1).2.1)), (iv (F233 (F232_3 a0).1.2.1 (F232_3 a0).2.2.1 (F232_1 a1).1.2.1 (F232_1 a1).2.2.1)), (iv (F233 (F232_3 a0).1.2.2 (F232_3 a0).2.2.2 (F232_1 a1).1.2.2 (F232_1 a1).2.2.2))])] [] (iv (F143 ((F233 (F232_3 a0).1.1 (F232_3 a0).2.1 (F232_1 a1).1.1 (F232_1 a1).2.1), (F233 (F232_3 a0).1.2.1 (F232_3 a0).2.2.1 (F232_1 a1).1.2.1 (F232_1 a1).2.2.1), (F233 (F232_3 a0).1.2.2 (F232_3 a0).2.2.2 (F232_1 a1).1.2.2 (F232_1 a1).2.2.2)) ((F233 (F232_3 a0).1.1 (F232_3 a0).2.1 (F232_1 a1).1.1 (F232_1 a1).2.1), (F233 (F232_3 a0).1.2.1 (F232_3 a0).2.2.1 (F232_1 a1).1.2.1 (F232_1 a1).2.2.1), (F233 (F232_3 a0).1.2.2 (F232_3 a0).2.2.2 (F232_1 a1).1.2.2 (F232_1 a1).2.2.2)))) []]) (by kernel_rfl) ⟨(C232_3 a0), (C232_1 a1), (C233 (F232_3 a0).1.1 (F232_3 a0).2.1 (F232_1 a1).1.1 (F232_1 a1).2.1), (C233 (F232_3 a0).1.2.1 (F232_3 a0).2.2.1 (F232_1 a1).1.2.1 (F232_1 a1).2.2.1), (C233 (F232_3 a0).1.2.2 (F232_3 a0).2.2.2 (F232_1 a1).1.2.2 (F232_1 a1).2.2.2), (C143 ((F233 (F232_3 a0).1.1 (F232_3 a0).2.1 (F232_1 a1).1.1 (F232_1 a1).2.1), (F233 (F232_3 a0).1.2.1 (F232_3 a0).2.2.1 (F232_1 a1).1.2.1 (F232_1 a1).2.2.1), (F233 (F232_3 a0).1.2.2 (F232_3 a0).2.2.2 (F232_1 a1).1.2.2 (F232_1 a1).2.2.2)) ((F233 (F232_3 a0).1.1 (F232_3 a0).2.1 (F232_1 a1).1.1 (F232_1 a1).2.1), (F233 (F232_3 a0).1.2.1 (F232_3 a0).2.2.1 (F232_1 a1).1.2.1 (F232_1 a1).2.2.1), (F233 (F232_3 a0).1.2.2 (F232_3 a0).2.2.2 (F232_1 a1).1.2.2 (F232_1 a1).2.2.2))), trivial⟩

/-- api.Point, as cells -/
def c24 (x : Int × Int × Int) : List SV := [(iv x.1), (iv x.2.1), (iv x.2.2)]
theorem c24_len (x : Int × Int × Int) : (c24 x).length = 3 := rfl

noncomputable def B198_L_L_1 : Code := (loopAtD [1, 1, 0, 1, 0, 1, 1, 0, 1, 1] [0] (Tryz.f198.body.getD .skip) []).1
noncomputable def K198_L_L_1 (m0 : Nat) : List K := (loopAtD [1, 1, 0, 1, 0, 1, 1, 0, 1, 1] [m0] (Tryz.f198.body.getD .skip) []).2

/-- a round of loop 1 of facet/field.far; the variables: v10 = s5, v11 = s13, v12 = s19, v13 = s7_0, v14 = s7_1, v15 = s7_2 -/
def S198_L_L_1 (a0 : List (Int × Int × Int)) (a1 : List (Int × Int × Int)) : Int × Int × Int × Int × Int × Int → (Int × Int × Int × Int × Int × Int) ⊕ ((Int × Int) ⊕ (Int))
  | (v10, v11, v12, v13, v14, v15) =>
   (bif (decide ((v12 : Int) < ((a1.length : Nat) : Int))) then
    (.inl ((if (v10 : Int) < (F143 (F144 (v13, v14, v15) (a1.getD (Int.toNat v12) default)) (F144 (v13, v14, v15) (a1.getD (Int.toNat v12) default))) then (F143 (F144 (v13, v14, v15) (a1.getD (Int.toNat v12) default)) (F144 (v13, v14, v15) (a1.getD (Int.toNat v12) default))) else v10), v11, (v12 + 1), v13, v14, v15))
   else
    (.inr (.inl (v10, (v11 + 1)))))

noncomputable def B198_L_L_0 : Code := (loopAtD [1, 1, 0, 1] [] (Tryz.f198.body.getD .skip) []).1
noncomputable def K198_L_L_0 : List K := (loopAtD [1, 1, 0, 1] [] (Tryz.f198.body.getD .skip) []).2

/-- a round of loop 0 of facet/field.far; the variables: v3 = s5, v4 = s13 -/
def S198_L_L_0 (a0 : List (Int × Int × Int)) (a1 : List (Int × Int × Int)) : Int × Int → (Int × Int) ⊕ (Int)
  | (v3, v4) =>
   (bif (decide ((v4 : Int) < ((a0.length : Nat) : Int))) then
    (loopF (S198_L_L_1 a0 a1) (Int.toNat (((a1.length : Nat) : Int) - 0) + 1) (v3, v4, 0, (a0.getD (Int.toNat v4) default).1, (a0.getD (Int.toNat v4) default).2.1, (a0.getD (Int.toNat v4) default).2.2))
   else
    (.inr v3))

set_option maxHeartbeats 4000000 in
theorem L198_L_L_1 (a0 : List (Int × Int × Int)) (a1 : List (Int × Int × Int)) (l0 : a0.length ≤ 9223372036854775807) (l1 : a1.length ≤ 9223372036854775807) {cx : Cx} (hcx : cx.base = 2)
    (n0 : Nat) (g0 : ∀ (v3 : Int) (v4 : Int), 0 ≤ v4 → Int.toNat (((a0.length : Nat) : Int) - v4) < n0 → Aw.Good Tryz.prog none 9 (bodyPost Tryz.prog Tryz.f198 (RR cx (iv (loopF (S198_L_L_0 a0 a1) n0 (v3, v4))) [] [])) cx [] (.l B198_L_L_0 n0 :: K198_L_L_0) ⟨[.u, (.s 1 0 a1.length 3), .u, .u, .u, (iv v3), .u, .u, .u, .u, .u, (.s 0 0 a0.length 3), (iv ((a0.length : Nat) : Int)), (iv v4), .u, .u, .u, .u, .u, .u, .u, .u, .u, .u, .u, .u, .u, .u, .u, .u, .u, .u, .u, .u], [(.live false true (flat c24 a0)), (.live false true (flat c24 a1))]⟩) : ∀ (n : Nat) (v10 : Int) (v11 : Int) (v12 : Int) (v13 : Int) (v14 : Int) (v15 : Int), (0 ≤ v12) ∧ ((0 ≤ v11)) ∧ (v11 < ((a0.length : Nat) : Int)) ∧ (Int.toNat (((a0.length : Nat) : Int) - v11) < n0 + 1) → Int.toNat (((a1.length : Nat) : Int) - v12) < n → Aw.Good Tryz.prog none 9 (bodyPost Tryz.prog Tryz.f198 (RR cx (iv (thenF (S198_L_L_0 a0 a1) n0 (loopF (S198_L_L_1 a0 a1) n (v10, v11, v12, v13, v14, v15)))) [] [])) cx [] (.l B198_L_L_1 n :: K198_L_L_1 n0) ⟨[.u, (.s 1 0 a1.length 3), .u, .u, .u, (iv v10), .u, (.p 2 0), .u, .u, .u, (.s 0 0 a0.length 3), (iv ((a0.length : Nat) : Int)), (iv v11), .u, .u, .u, (.s 1 0 a1.length 3), (iv ((a1.length : Nat) : Int)), (iv v12), .u, .u, .u, .u, .u, .u, .u, .u, .u, .u, .u, .u, .u, .u], [(.live false true (flat c24 a0)), (.live false true (flat c24 a1)), (.live true false [(iv v13), (iv v14), (iv v15)])]⟩ := by
  intro n
  induction n with
  | zero => intro v10 v11 v12 v13 v14 v15 hi hn; exact absurd hn (Nat.not_lt_zero _)
  | succ n ih =>
    intro v10 v11 v12 v13 v14 v15 hi hn
    refine good_round ?_
    cases h0 : (decide ((v12 : Int) < ((a1.length : Nat) : Int))) with
    | true =>
      have q0 := of_decide_eq_true h0
      have e : S198_L_L_1 a0 a1 (v10, v11, v12, v13, v14, v15) = (.inl ((if (v10 : Int) < (F143 (F144 (v13, v14, v15) (a1.getD (Int.toNat v12) default)) (F144 (v13, v14, v15) (a1.getD (Int.toNat v12) default))) then (F143 (F144 (v13, v14, v15) (a1.getD (Int.toNat v12) default)) (F144 (v13, v14, v15) (a1.getD (Int.toNat v12) default))) else v10), v11, (v12 + 1), v13, v14, v15)) := by simp only [S198_L_L_1, h0, cond_true, cond_false]
      rw [loopF_inl e]
      refine back_of (T := T0) hT hm (f := 5000) (orc := [.d true, .ld (k3 (a1.getD (Int.toNat v12) default)), .call [] (.a (k3 (F144 (v13, v14, v15) (a1.getD (Int.toNat v12) default)))) [], .call [] (iv (F143 (F144 (v13, v14, v15) (a1.getD (Int.toNat v12) default)) (F144 (v13, v14, v15) (a1.getD (Int.toNat v12) default)))) []]) [] [1, 5, 7, 11, 12, 13, 17, 18, 19] [2] hcx (body := B198_L_L_1) (m := n) (k' := K198_L_L_1 n0) (s' := ⟨[.u, (.s 1 0 a1.length 3), .u, .u, .u, (iv (if (v10 : Int) < (F143 (F144 (v13, v14, v15) (a1.getD (Int.toNat v12) default)) (F144 (v13, v14, v15) (a1.getD (Int.toNat v12) default))) then (F143 (F144 (v13, v14, v15) (a1.getD (Int.toNat v12) default)) (F144 (v13, v14, v15) (a1.getD (Int.toNat v12) default))) else v10)), .u, (.p 2 0), .u, .u, .u, (.s 0 0 a0.length 3), (iv ((a0.length : Nat) : Int)), (iv v11), .u, .u, .u, (.s 1 0 a1.length 3), (iv ((a1.length : Nat) : Int)), (iv (W (v12 + 1))), .u, .u, .u, .u, .u, .u, .u, .u, .u, .u, .u, .u, .u, .u], [(.live false true (flat c24 a0)), (.live false true (flat c24 a1)), (.live true false [(iv v13), (iv v14), (iv v15)])]⟩)
        (obs := [.eq (decide ((v12 : Int) < ((a1.length : Nat) : Int))) true, .pr (0 ≤ (v12 : Int) ∧ (v12 : Int) < ((a1.length : Nat) : Int)), .pr (((((flat c24 a1)).drop (0 + Int.toNat v12 * 3)).take 3) = (k3 (a1.getD (Int.toNat v12) default))), .call 144 [(.a [(iv v13), (iv v14), (iv v15)]), (.a (k3 (a1.getD (Int.toNat v12) default)))] [] (.a (k3 (F144 (v13, v14, v15) (a1.getD (Int.toNat v12) default)))) [], .call 143 [(.a (k3 (F144 (v13, v14, v15) (a1.getD (Int.toNat v12) default)))), (.a (k3 (F144 (v13, v14, v15) (a1.getD (Int.toNat v12) default))))] [] (iv (F143 (F144 (v13, v14, v15) (a1.getD (Int.toNat v12) default)) (F144 (v13, v14, v15) (a1.getD (Int.toNat v12) default)))) []]) (by kernel_rfl) ⟨h0, (show 0 ≤ (v12 : Int) ∧ (v12 : Int) < ((a1.length : Nat) : Int) from by first | omega | (rw [W_eq] <;> omega) | exact u64_nn _), (ld_part c24_len default a1 v12 0 3 (by omega) (by decide) (by omega) rfl), (C144 (v13, v14, v15) (a1.getD (Int.toNat v12) default)), (C143 (F144 (v13, v14, v15) (a1.getD (Int.toNat v12) default)) (F144 (v13, v14, v15) (a1.getD (Int.toNat v12) default))), trivial⟩ ?_
      have z0 : (W (v12 + 1)) = (v12 + 1) := W_eq (by omega) (by omega)
      rw [z0]
      exact ih (if (v10 : Int) < (F143 (F144 (v13, v14, v15) (a1.getD (Int.toNat v12) default)) (F144 (v13, v14, v15) (a1.getD (Int.toNat v12) default))) then (F143 (F144 (v13, v14, v15) (a1.getD (Int.toNat v12) default)) (F144 (v13, v14, v15) (a1.getD (Int.toNat v12) default))) else v10) v11 (v12 + 1) v13 v14 v15 (by refine ⟨?_, ?_, ?_, ?_⟩ <;> (try simp only [List.length_append, List.length_cons, List.length_nil, Int.toNat_zero]) <;> first | omega | assumption | simp) (by (try simp only [List.length_append, List.length_cons, List.length_nil, Int.toNat_zero]); omega)
    | false =>
      have q0 := of_decide_eq_false h0
      have e : S198_L_L_1 a0 a1 (v10, v11, v12, v13, v14, v15) = (.inr (.inl (v10, (v11 + 1)))) := by simp only [S198_L_L_1, h0, cond_true, cond_false]
      rw [show loopF (S198_L_L_1 a0 a1) (n + 1) (v10, v11, v12, v13, v14, v15) = thenF (S198_L_L_1 a0 a1) n (S198_L_L_1 a0 a1 (v10, v11, v12, v13, v14, v15)) from rfl, e]
      refine back_of (T := T0) hT hm (f := 5000) (orc := [.d false]) [] [1, 5, 11, 12, 13] [] hcx (body := B198_L_L_0) (m := n0) (k' := K198_L_L_0) (s' := ⟨[.u, (.s 1 0 a1.length 3), .u, .u, .u, (iv v10), .u, .u, .u, .u, .u, (.s 0 0 a0.length 3), (iv ((a0.length : Nat) : Int)), (iv (W (v11 + 1))), .u, .u, .u, .u, .u, .u, .u, .u, .u, .u, .u, .u, .u, .u, .u, .u, .u, .u, .u, .u], [(.live false true (flat c24 a0)), (.live false true (flat c24 a1))]⟩)
        (obs := [.eq (decide ((v12 : Int) < ((a1.length : Nat) : Int))) false]) (by kernel_rfl) ⟨h0, trivial⟩ ?_
      have z0 : (W (v11 + 1)) = (v11 + 1) := W_eq (by omega) (by omega)
      rw [z0]
      exact g0 v10 (v11 + 1) (by (try simp only [List.length_append, List.length_cons, List.length_nil, Int.toNat_zero]); omega) (by (try simp only [List.length_append, List.length_cons, List.length_nil, Int.toNat_zero]); omega)

set_option maxHeartbeats 4000000 in
theorem L198_L_L_0 (a0 : List (Int × Int × Int)) (a1 : List (Int × Int × Int)) (l0 : a0.length ≤ 9223372036854775807) (l1 : a1.length ≤ 9223372036854775807) {cx : Cx} (hcx : cx.base = 2) : ∀ (n : Nat) (v3 : Int) (v4 : Int), 0 ≤ v4 → Int.toNat (((a0.length : Nat) : Int) - v4) < n → Aw.Good Tryz.prog none 9 (bodyPost Tryz.prog Tryz.f198 (RR cx (iv (loopF (S198_L_L_0 a0 a1) n (v3, v4))) [] [])) cx [] (.l B198_L_L_0 n :: K198_L_L_0) ⟨[.u, (.s 1 0 a1.length 3), .u, .u, .u, (iv v3), .u, .u, .u, .u, .u, (.s 0 0 a0.length 3), (iv ((a0.length : Nat) : Int)), (iv v4), .u, .u, .u, .u, .u, .u, .u, .u, .u, .u, .u, .u, .u, .u, .u, .u, .u, .u, .u, .u], [(.live false true (flat c24 a0)), (.live false true (flat c24 a1))]⟩ := by
  intro n
  induction n with
  | zero => intro v3 v4 hi hn; exact absurd hn (Nat.not_lt_zero _)
  | succ n ih =>
    intro v3 v4 hi hn
    refine good_round ?_
    cases h0 : (decide ((v4 : Int) < ((a0.length : Nat) : Int))) with
    | true =>
      have q0 := of_decide_eq_true h0
      have e : S198_L_L_0 a0 a1 (v3, v4) = (loopF (S198_L_L_1 a0 a1) (Int.toNat (((a1.length : Nat) : Int) - 0) + 1) (v3, v4, 0, (a0.getD (Int.toNat v4) default).1, (a0.getD (Int.toNat v4) default).2.1, (a0.getD (Int.toNat v4) default).2.2)) := by simp only [S198_L_L_0, h0, cond_true, cond_false]
      rw [show loopF (S198_L_L_0 a0 a1) (n + 1) (v3, v4) = thenF (S198_L_L_0 a0 a1) n (S198_L_L_0 a0 a1 (v3, v4)) from rfl, e]
      refine enter_of (T := T0) hT hm (f := 5000) (orc := [.d true, .ld (k3 (a0.getD (Int.toNat v4) default))]) [] [1, 5, 7, 11, 12, 13, 17, 18, 19] [2] hcx (body := B198_L_L_1) (k' := K198_L_L_1 n) (s' := ⟨[.u, (.s 1 0 a1.length 3), .u, .u, .u, (iv v3), .u, (.p 2 0), .u, .u, .u, (.s 0 0 a0.length 3), (iv ((a0.length : Nat) : Int)), (iv v4), .u, .u, .u, (.s 1 0 a1.length 3), (iv ((a1.length : Nat) : Int)), (iv 0), .u, .u, .u, .u, .u, .u, .u, .u, .u, .u, .u, .u, .u, .u], [(.live false true (flat c24 a0)), (.live false true (flat c24 a1)), (.live true false (k3 (a0.getD (Int.toNat v4) default)))]⟩)
        (obs := [.eq (decide ((v4 : Int) < ((a0.length : Nat) : Int))) true, .pr (0 ≤ (v4 : Int) ∧ (v4 : Int) < ((a0.length : Nat) : Int)), .pr (((((flat c24 a0)).drop (0 + Int.toNat v4 * 3)).take 3) = (k3 (a0.getD (Int.toNat v4) default)))]) (by kernel_rfl) ⟨h0, (show 0 ≤ (v4 : Int) ∧ (v4 : Int) < ((a0.length : Nat) : Int) from by first | omega | (rw [W_eq] <;> omega) | exact u64_nn _), (ld_part c24_len default a0 v4 0 3 (by omega) (by decide) (by omega) rfl), trivial⟩ ⟨Int.toNat (((a1.length : Nat) : Int) - 0) + 1, ?_⟩
      exact L198_L_L_1 a0 a1 l0 l1 hcx n ih (Int.toNat (((a1.length : Nat) : Int) - 0) + 1) v3 v4 0 ((a0.getD (Int.toNat v4) default).1) ((a0.getD (Int.toNat v4) default).2.1) ((a0.getD (Int.toNat v4) default).2.2) (by refine ⟨?_, ?_, ?_, ?_⟩ <;> (try simp only [List.length_append, List.length_cons, List.length_nil, Int.toNat_zero]) <;> first | omega | assumption | simp) (by (try simp only [List.length_append, List.length_cons, List.length_nil, Int.toNat_zero]); omega)
    | false =>
      have q0 := of_decide_eq_false h0
      have e : S198_L_L_0 a0 a1 (v3, v4) = (.inr v3) := by simp only [S198_L_L_0, h0, cond_true, cond_false]
      rw [show loopF (S198_L_L_0 a0 a1) (n + 1) (v3, v4) = thenF (S198_L_L_0 a0 a1) n (S198_L_L_0 a0 a1 (v3, v4)) from rfl, e]
      exact ret_of (T := T0) hT hm (f := 5000) (orc := [.d false]) [] [] [] hcx
        (obs := [.eq (decide ((v4 : Int) < ((a0.length : Nat) : Int))) false]) (by kernel_rfl) ⟨h0, trivial⟩

/-- facet/field.far at ('L', 'L') -/
def F198_L_L (a0 : List (Int × Int × Int)) (a1 : List (Int × Int × Int)) : Int :=
  (loopF (S198_L_L_0 a0 a1) (Int.toNat (((a0.length : Nat) : Int) - 0) + 1) (0, 0))

theorem C198_L_L (a0 : List (Int × Int × Int)) (a1 : List (Int × Int × Int)) (l0 : a0.length ≤ 9223372036854775807) (l1 : a1.length ≤ 9223372036854775807) : Con Tryz.prog 198 [(.s 0 0 a0.length 3), (.s 1 0 a1.length 3)] [(.live false true (flat c24 a0)), (.live false true (flat c24 a1))] (iv (F198_L_L a0 a1)) [] := by
  have e : (F198_L_L a0 a1) = (loopF (S198_L_L_0 a0 a1) (Int.toNat (((a0.length : Nat) : Int) - 0) + 1) (0, 0)) := by simp only [F198_L_L]
  rw [e]
  refine con_of (n := 9) Tryz.func198 rfl (ent Tryz.func198 (by kernel_rfl) rfl) (by show 2 ≤ Tryz.f198.ntmps; decide) (by kernel_rfl) ⟨rfl, rfl, trivial⟩ (fun cx hcx => ?_)
  refine enter_of (T := T0) hT hm (f := 5000) (orc := []) [] [1, 5, 11, 12, 13] [] hcx (body := B198_L_L_0) (k' := K198_L_L_0) (s' := ⟨[.u, (.s 1 0 a1.length 3), .u, .u, .u, (iv 0), .u, .u, .u, .u, .u, (.s 0 0 a0.length 3), (iv ((a0.length : Nat) : Int)), (iv 0), .u, .u, .u, .u, .u, .u, .u, .u, .u, .u, .u, .u, .u, .u, .u, .u, .u, .u, .u, .u], [(.live false true (flat c24 a0)), (.live false true (flat c24 a1))]⟩)
    (obs := []) (by kernel_rfl) trivial ⟨Int.toNat (((a0.length : Nat) : Int) - 0) + 1, ?_⟩
  exact L198_L_L_0 a0 a1 l0 l1 hcx (Int.toNat (((a0.length : Nat) : Int) - 0) + 1) 0 0 (by (try simp only [List.length_append, List.length_cons, List.length_nil, Int.toNat_zero]); omega) (by (try simp only [List.length_append, List.length_cons, List.length_nil, Int.toNat_zero]); omega)

noncomputable def B159_0 : Code := match (codeAtD [1] [] (Tryz.f159.body.getD .skip)).1 with
  | .scope c => c
  | _ => .skip
noncomputable def K159_0 : List K := (codeAtD [1] [] (Tryz.f159.body.getD .skip)).2
noncomputable def R159_0 : Code := (findLabel B159_0 0).getD .skip

/-- a round of loop 0 of facet/span.root; the variables: v1 = s3, v2 = s4 -/
def S159_0 (a0 : Int) : Int × Int → (Int × Int) ⊕ (Int)
  | (v1, v2) =>
   (bif ((v2 : Int) == 0) then
    (.inr v1)
   else
    (bif (decide (((W ((W (v1 + v2)) * (W (v1 + v2)))) : Int) ≤ a0)) then
     (.inl ((W (v1 + v2)), (v2 / 2)))
    else
     (.inl (v1, (v2 / 2)))))

set_option maxHeartbeats 4000000 in
theorem L159_0 (a0 : Int) {cx : Cx} (hcx : cx.base = 0) : ∀ (n : Nat) (v1 : Int) (v2 : Int), 0 ≤ v2 → Int.toNat v2 < n → Aw.Good Tryz.prog none 9 (bodyPost Tryz.prog Tryz.f159 (RR cx (iv (loopF (S159_0 a0) n (v1, v2))) [] [])) cx [] (.c (.goto 0) :: .s B159_0 n :: K159_0) ⟨[(iv a0), .u, .u, (iv v1), (iv v2), .u, .u, .u, .u, .u, .u, .u, .u, .u, .u, .u, .u, .u, .u, .u, .u, .u], []⟩ := by
  intro n
  induction n with
  | zero => intro v1 v2 hi hn; exact absurd hn (Nat.not_lt_zero _)
  | succ n ih =>
    intro v1 v2 hi hn
    refine good_jump (rest := R159_0) (by kernel_rfl) ?_
    cases h0 : ((v2 : Int) == 0) with
    | true =>
      have q0 := eq_of_beq h0
      have e : S159_0 a0 (v1, v2) = (.inr v1) := by simp only [S159_0, h0, cond_true, cond_false]
      rw [show loopF (S159_0 a0) (n + 1) (v1, v2) = thenF (S159_0 a0) n (S159_0 a0 (v1, v2)) from rfl, e]
      exact ret_of (T := T0) hT hm (f := 5000) (orc := [.d true]) [] [] [] hcx
        (obs := [.eq ((v2 : Int) == 0) true]) (by kernel_rfl) ⟨h0, trivial⟩
    | false =>
      cases h1 : (decide (((W ((W (v1 + v2)) * (W (v1 + v2)))) : Int) ≤ a0)) with
      | true =>
        have q0 := ne_of_beq_false h0
        have q1 := of_decide_eq_true h1
        have e : S159_0 a0 (v1, v2) = (.inl ((W (v1 + v2)), (v2 / 2))) := by simp only [S159_0, h0, h1, cond_true, cond_false]
        rw [loopF_inl e]
        refine at_of (T := T0) hT hm (f := 5000) (orc := [.d false, .d true]) [] [0, 3, 4] [] hcx (x := .goto 0) (k' := .s B159_0 n :: K159_0) (s' := ⟨[(iv a0), .u, .u, (iv (W (v1 + v2))), (iv (Int.fdiv v2 (2 ^ (min (Int.toNat 1) 64)))), .u, .u, .u, .u, .u, .u, .u, .u, .u, .u, .u, .u, .u, .u, .u, .u, .u], []⟩)
          (obs := [.eq ((v2 : Int) == 0) false, .eq (decide (((W ((W (v1 + v2)) * (W (v1 + v2)))) : Int) ≤ a0)) true, .pr (0 ≤ (1 : Int))]) (by kernel_rfl) ⟨h0, h1, (show 0 ≤ (1 : Int) from by decide), trivial⟩ ?_
        have z0 : (Int.fdiv v2 (2 ^ (min (Int.toNat 1) 64))) = (v2 / 2) := shr_eq _ 1 (by decide)
        rw [z0]
        exact ih (W (v1 + v2)) (v2 / 2) (by (try simp only [List.length_append, List.length_cons, List.length_nil, Int.toNat_zero]); omega) (by omega)
      | false =>
        have q0 := ne_of_beq_false h0
        have q1 := of_decide_eq_false h1
        have e : S159_0 a0 (v1, v2) = (.inl (v1, (v2 / 2))) := by simp only [S159_0, h0, h1, cond_true, cond_false]
        rw [loopF_inl e]
        refine at_of (T := T0) hT hm (f := 5000) (orc := [.d false, .d false]) [] [0, 3, 4] [] hcx (x := .goto 0) (k' := .s B159_0 n :: K159_0) (s' := ⟨[(iv a0), .u, .u, (iv v1), (iv (Int.fdiv v2 (2 ^ (min (Int.toNat 1) 64)))), .u, .u, .u, .u, .u, .u, .u, .u, .u, .u, .u, .u, .u, .u, .u, .u, .u], []⟩)
          (obs := [.eq ((v2 : Int) == 0) false, .eq (decide (((W ((W (v1 + v2)) * (W (v1 + v2)))) : Int) ≤ a0)) false, .pr (0 ≤ (1 : Int))]) (by kernel_rfl) ⟨h0, h1, (show 0 ≤ (1 : Int) from by decide), trivial⟩ ?_
        have z0 : (Int.fdiv v2 (2 ^ (min (Int.toNat 1) 64))) = (v2 / 2) := shr_eq _ 1 (by decide)
        rw [z0]
        exact ih v1 (v2 / 2) (by (try simp only [List.length_append, List.length_cons, List.length_nil, Int.toNat_zero]); omega) (by omega)

/-- facet/span.root -/
def F159 (a0 : Int) : Int :=
  (bif (decide ((4611686018427387904 : Int) ≤ a0)) then
   (loopF (S159_0 a0) (Int.toNat 1073741824 + 1) (2147483648, 1073741824))
  else
   (loopF (S159_0 a0) (Int.toNat 1073741824 + 1) (0, 1073741824)))

theorem C159 (a0 : Int) : Con Tryz.prog 159 [(iv a0)] [] (iv (F159 a0)) [] := by
  cases h0 : (decide ((4611686018427387904 : Int) ≤ a0)) with
  | true =>
    have q0 := of_decide_eq_true h0
    have e : (F159 a0) = (loopF (S159_0 a0) (Int.toNat 1073741824 + 1) (2147483648, 1073741824)) := by simp only [F159, h0, cond_true, cond_false]
    rw [e]
    refine con_of (n := 9) Tryz.func159 rfl (ent Tryz.func159 (by kernel_rfl) rfl) (by show 1 ≤ Tryz.f159.ntmps; decide) (by kernel_rfl) trivial (fun cx hcx => ?_)
    refine at_of (T := T0) hT hm (f := 5000) (orc := [.un (Int.toNat 1073741824 + 1), .d false, .d true]) [] [0, 3, 4] [] hcx (x := .goto 0) (k' := .s B159_0 (Int.toNat 1073741824 + 1) :: K159_0) (s' := ⟨[(iv a0), .u, .u, (iv 2147483648), (iv 1073741824), .u, .u, .u, .u, .u, .u, .u, .u, .u, .u, .u, .u, .u, .u, .u, .u, .u], []⟩)
      (obs := [.eq false false, .eq (decide ((4611686018427387904 : Int) ≤ a0)) true, .pr (0 ≤ (1 : Int))]) (by kernel_rfl) ⟨rfl, h0, (show 0 ≤ (1 : Int) from by decide), trivial⟩ ?_
    exact L159_0 a0 hcx (Int.toNat 1073741824 + 1) 2147483648 1073741824 (by (try simp only [List.length_append, List.length_cons, List.length_nil, Int.toNat_zero]); omega) (by omega)
  | false =>
    have q0 := of_decide_eq_false h0
    have e : (F159 a0) = (loopF (S159_0 a0) (Int.toNat 1073741824 + 1) (0, 1073741824)) := by simp only [F159, h0, cond_true, cond_false]
    rw [e]
    refine con_of (n := 9) Tryz.func159 rfl (ent Tryz.func159 (by kernel_rfl) rfl) (by show 1 ≤ Tryz.f159.ntmps; decide) (by kernel_rfl) trivial (fun cx hcx => ?_)
    refine at_of (T := T0) hT hm (f := 5000) (orc := [.un (Int.toNat 1073741824 + 1), .d false, .d false]) [] [0, 3, 4] [] hcx (x := .goto 0) (k' := .s B159_0 (Int.toNat 1073741824 + 1) :: K159_0) (s' := ⟨[(iv a0), .u, .u, (iv 0), (iv 1073741824), .u, .u, .u, .u, .u, .u, .u, .u, .u, .u, .u, .u, .u, .u, .u, .u, .u], []⟩)
      (obs := [.eq false false, .eq (decide ((4611686018427387904 : Int) ≤ a0)) false, .pr (0 ≤ (1 : Int))]) (by kernel_rfl) ⟨rfl, h0, (show 0 ≤ (1 : Int) from by decide), trivial⟩ ?_
    exact L159_0 a0 hcx (Int.toNat 1073741824 + 1) 0 1073741824 (by (try simp only [List.length_append, List.length_cons, List.length_nil, Int.toNat_zero]); omega) (by omega)

/-- facet/span.Valid -/
def F184 (a0 : Int × Int) : Bool :=
  (bif (decide ((a0.1 : Int) ≥ (-1099511627776))) then
   (bif (decide ((a0.1 : Int) ≤ a0.2)) then
    (decide ((a0.2 : Int) ≤ 1099511627776))
   else
    false)
  else
   false)

theorem C184 (a0 : Int × Int) : Con Tryz.prog 184 [(.a [(iv a0.1), (iv a0.2)])] [] (.v (.bool (F184 a0))) [] := by
  cases h0 : (decide ((a0.1 : Int) ≥ (-1099511627776))) with
  | true =>
    cases h1 : (decide ((a0.1 : Int) ≤ a0.2)) with
    | true =>
      have q0 := of_decide_eq_true h0
      have q1 := of_decide_eq_true h1
      have e : (F184 a0) = (decide ((a0.2 : Int) ≤ 1099511627776)) := by simp only [F184, h0, h1, cond_true, cond_false]
      rw [e]
      refine con_of (n := 9) Tryz.func184 rfl (ent Tryz.func184 (by kernel_rfl) rfl) (by show 1 ≤ Tryz.f184.ntmps; decide) (by kernel_rfl) trivial (fun cx hcx => ?_)
      exact ret_of (T := T0) hT hm (f := 5000) (orc := [.d true, .d true]) [] [] [] hcx
        (obs := [.eq (decide ((a0.1 : Int) ≥ (-1099511627776))) true, .eq (decide ((a0.1 : Int) ≤ a0.2)) true]) (by kernel_rfl) ⟨h0, h1, trivial⟩
    | false =>
      have q0 := of_decide_eq_true h0
      have q1 := of_decide_eq_false h1
      have e : (F184 a0) = false := by simp only [F184, h0, h1, cond_true, cond_false]
      rw [e]
      refine con_of (n := 9) Tryz.func184 rfl (ent Tryz.func184 (by kernel_rfl) rfl) (by show 1 ≤ Tryz.f184.ntmps; decide) (by kernel_rfl) trivial (fun cx hcx => ?_)
      exact ret_of (T := T0) hT hm (f := 5000) (orc := [.d true, .d false]) [] [] [] hcx
        (obs := [.eq (decide ((a0.1 : Int) ≥ (-1099511627776))) true, .eq (decide ((a0.1 : Int) ≤ a0.2)) false]) (by kernel_rfl) ⟨h0, h1, trivial⟩
  | false =>
    have q0 := of_decide_eq_false h0
    have e : (F184 a0) = false := by simp only [F184, h0, cond_true, cond_false]
    rw [e]
    refine con_of (n := 9) Tryz.func184 rfl (ent Tryz.func184 (by kernel_rfl) rfl) (by show 1 ≤ Tryz.f184.ntmps; decide) (by kernel_rfl) trivial (fun cx hcx => ?_)
    exact ret_of (T := T0) hT hm (f := 5000) (orc := [.d false]) [] [] [] hcx
      (obs := [.eq (decide ((a0.1 : Int) ≥ (-1099511627776))) false]) (by kernel_rfl) ⟨h0, trivial⟩

/-- facet/span.result -/
def F134 (a0 : Int) (a1 : Int) : (Int × Int) × Int :=
  (bif (!(F184 (a0, a1))) then
   ((0, 0), 4)
  else
   ((a0, a1), 0))

theorem C134 (a0 : Int) (a1 : Int) : Con Tryz.prog 134 [(iv a0), (iv a1)] [] (.t [(.a (k2 (F134 a0 a1).1)), (iv (F134 a0 a1).2)]) [] := by
  cases h0 : (!(F184 (a0, a1))) with
  | true =>
    have e : (F134 a0 a1) = ((0, 0), 4) := by simp only [F134, h0, cond_true, cond_false]
    rw [e]
    refine con_of (n := 9) Tryz.func134 rfl (ent Tryz.func134 (by kernel_rfl) rfl) (by show 2 ≤ Tryz.f134.ntmps; decide) (by kernel_rfl) trivial (fun cx hcx => ?_)
    exact ret_of (T := T0) hT hm (f := 5000) (orc := [.call [] (.v (.bool (F184 (a0, a1)))) [], .d true]) [] [] [] hcx
      (obs := [.call 184 [(.a [(iv a0), (iv a1)])] [] (.v (.bool (F184 (a0, a1)))) [], .eq (!(F184 (a0, a1))) true]) (by kernel_rfl) ⟨(C184 (a0, a1)), h0, trivial⟩
  | false =>
    have e : (F134 a0 a1) = ((a0, a1), 0) := by simp only [F134, h0, cond_true, cond_false]
    rw [e]
    refine con_of (n := 9) Tryz.func134 rfl (ent Tryz.func134 (by kernel_rfl) rfl) (by show 2 ≤ Tryz.f134.ntmps; decide) (by kernel_rfl) trivial (fun cx hcx => ?_)
    exact ret_of (T := T0) hT hm (f := 5000) (orc := [.call [] (.v (.bool (F184 (a0, a1)))) [], .d false]) [] [] [] hcx
      (obs := [.call 184 [(.a [(iv a0), (iv a1)])] [] (.v (.bool (F184 (a0, a1)))) [], .eq (!(F184 (a0, a1))) false]) (by kernel_rfl) ⟨(C184 (a0, a1)), h0, trivial⟩

/-- facet/span.inverse -/
def F200 (a0 : Int) (a1 : Int) : (Int × Int) × Int :=
  (bif (((W ((W ((F159 (W (Int.tdiv a0 a1))) * (F159 (W (Int.tdiv a0 a1))))) * a1)) : Int) == a0) then
   ((F134 (F159 (W (Int.tdiv a0 a1))) (F159 (W (Int.tdiv a0 a1)))).1, (F134 (F159 (W (Int.tdiv a0 a1))) (F159 (W (Int.tdiv a0 a1)))).2)
  else
   ((F134 (F159 (W (Int.tdiv a0 a1))) (W ((F159 (W (Int.tdiv a0 a1))) + 1))).1, (F134 (F159 (W (Int.tdiv a0 a1))) (W ((F159 (W (Int.tdiv a0 a1))) + 1))).2))

theorem C200 (a0 : Int) (a1 : Int) (ha : a1 ≠ 0) : Con Tryz.prog 200 [(iv a0), (iv a1)] [] (.t [(.a (k2 (F200 a0 a1).1)), (iv (F200 a0 a1).2)]) [] := by
  cases h0 : (((W ((W ((F159 (W (Int.tdiv a0 a1))) * (F159 (W (Int.tdiv a0 a1))))) * a1)) : Int) == a0) with
  | true =>
    have q0 := eq_of_beq h0
    have e : (F200 a0 a1) = ((F134 (F159 (W (Int.tdiv a0 a1))) (F159 (W (Int.tdiv a0 a1)))).1, (F134 (F159 (W (Int.tdiv a0 a1))) (F159 (W (Int.tdiv a0 a1)))).2) := by simp only [F200, h0, cond_true, cond_false]
    rw [e]
    refine con_of (n := 9) Tryz.func200 rfl (ent Tryz.func200 (by kernel_rfl) rfl) (by show 2 ≤ Tryz.f200.ntmps; decide) (by kernel_rfl) trivial (fun cx hcx => ?_)
    exact ret_of (T := T0) hT hm (f := 5000) (orc := [.call [] (iv (F159 (W (Int.tdiv a0 a1)))) [], .d true, .call [] (.t [(.a (k2 (F134 (F159 (W (Int.tdiv a0 a1))) (F159 (W (Int.tdiv a0 a1)))).1)), (iv (F134 (F159 (W (Int.tdiv a0 a1))) (F159 (W (Int.tdiv a0 a1)))).2)]) []]) [] [] [] hcx
      (obs := [.pr ((a1 : Int) ≠ 0), .call 159 [(iv (W (Int.tdiv a0 a1)))] [] (iv (F159 (W (Int.tdiv a0 a1)))) [], .eq (((W ((W ((F159 (W (Int.tdiv a0 a1))) * (F159 (W (Int.tdiv a0 a1))))) * a1)) : Int) == a0) true, .call 134 [(iv (F159 (W (Int.tdiv a0 a1)))), (iv (F159 (W (Int.tdiv a0 a1))))] [] (.t [(.a (k2 (F134 (F159 (W (Int.tdiv a0 a1))) (F159 (W (Int.tdiv a0 a1)))).1)), (iv (F134 (F159 (W (Int.tdiv a0 a1))) (F159 (W (Int.tdiv a0 a1)))).2)]) []]) (by kernel_rfl) ⟨(show (a1 : Int) ≠ 0 from by first | omega | (rw [W_eq] <;> omega) | exact u64_nn _), (C159 (W (Int.tdiv a0 a1))), h0, (C134 (F159 (W (Int.tdiv a0 a1))) (F159 (W (Int.tdiv a0 a1)))), trivial⟩
  | false =>
    have q0 := ne_of_beq_false h0
    have e : (F200 a0 a1) = ((F134 (F159 (W (Int.tdiv a0 a1))) (W ((F159 (W (Int.tdiv a0 a1))) + 1))).1, (F134 (F159 (W (Int.tdiv a0 a1))) (W ((F159 (W (Int.tdiv a0 a1))) + 1))).2) := by simp only [F200, h0, cond_true, cond_false]
    rw [e]
    refine con_of (n := 9) Tryz.func200 rfl (ent Tryz.func200 (by kernel_rfl) rfl) (by show 2 ≤ Tryz.f200.ntmps; decide) (by kernel_rfl) trivial (fun cx hcx => ?_)
    exact ret_of (T := T0) hT hm (f := 5000) (orc := [.call [] (iv (F159 (W (Int.tdiv a0 a1)))) [], .d false, .call [] (.t [(.a (k2 (F134 (F159 (W (Int.tdiv a0 a1))) (W ((F159 (W (Int.tdiv a0 a1))) + 1))).1)), (iv (F134 (F159 (W (Int.tdiv a0 a1))) (W ((F159 (W (Int.tdiv a0 a1))) + 1))).2)]) []]) [] [] [] hcx
      (obs := [.pr ((a1 : Int) ≠ 0), .call 159 [(iv (W (Int.tdiv a0 a1)))] [] (iv (F159 (W (Int.tdiv a0 a1)))) [], .eq (((W ((W ((F159 (W (Int.tdiv a0 a1))) * (F159 (W (Int.tdiv a0 a1))))) * a1)) : Int) == a0) false, .call 134 [(iv (F159 (W (Int.tdiv a0 a1)))), (iv (W ((F159 (W (Int.tdiv a0 a1))) + 1)))] [] (.t [(.a (k2 (F134 (F159 (W (Int.tdiv a0 a1))) (W ((F159 (W (Int.tdiv a0 a1))) + 1))).1)), (iv (F134 (F159 (W (Int.tdiv a0 a1))) (W ((F159 (W (Int.tdiv a0 a1))) + 1))).2)]) []]) (by kernel_rfl) ⟨(show (a1 : Int) ≠ 0 from by first | omega | (rw [W_eq] <;> omega) | exact u64_nn _), (C159 (W (Int.tdiv a0 a1))), h0, (C134 (F159 (W (Int.tdiv a0 a1))) (W ((F159 (W (Int.tdiv a0 a1))) + 1))), trivial⟩

/-- facet/span.Inverse -/
def F130 (a0 : Int) (a1 : Int) : (Int × Int) × Int :=
  (bif (decide ((a0 : Int) < 1)) then
   ((0, 0), 1)
  else
   (bif (decide ((a0 : Int) > 1099511627776)) then
    ((0, 0), 1)
   else
    (bif (decide ((a1 : Int) < 1)) then
     ((0, 0), 1)
    else
     (bif (decide ((a1 : Int) > 8)) then
      ((0, 0), 1)
     else
      ((F200 (W ((W (a1 * a1)) * 2 ^ (min (Int.toNat 40) 64))) a0).1, (F200 (W ((W (a1 * a1)) * 2 ^ (min (Int.toNat 40) 64))) a0).2)))))

theorem C130 (a0 : Int) (a1 : Int) : Con Tryz.prog 130 [(iv a0), (iv a1)] [] (.t [(.a (k2 (F130 a0 a1).1)), (iv (F130 a0 a1).2)]) [] := by
  cases h0 : (decide ((a0 : Int) < 1)) with
  | true =>
    have q0 := of_decide_eq_true h0
    have e : (F130 a0 a1) = ((0, 0), 1) := by simp only [F130, h0, cond_true, cond_false]
    rw [e]
    refine con_of (n := 9) Tryz.func130 rfl (ent Tryz.func130 (by kernel_rfl) rfl) (by show 2 ≤ Tryz.f130.ntmps; decide) (by kernel_rfl) trivial (fun cx hcx => ?_)
    exact ret_of (T := T0) hT hm (f := 5000) (orc := [.d true]) [] [] [] hcx
      (obs := [.eq (decide ((a0 : Int) < 1)) true]) (by kernel_rfl) ⟨h0, trivial⟩
  | false =>
    cases h1 : (decide ((a0 : Int) > 1099511627776)) with
    | true =>
      have q0 := of_decide_eq_false h0
      have q1 := of_decide_eq_true h1
      have e : (F130 a0 a1) = ((0, 0), 1) := by simp only [F130, h0, h1, cond_true, cond_false]
      rw [e]
      refine con_of (n := 9) Tryz.func130 rfl (ent Tryz.func130 (by kernel_rfl) rfl) (by show 2 ≤ Tryz.f130.ntmps; decide) (by kernel_rfl) trivial (fun cx hcx => ?_)
      exact ret_of (T := T0) hT hm (f := 5000) (orc := [.d false, .d true]) [] [] [] hcx
        (obs := [.eq (decide ((a0 : Int) < 1)) false, .eq (decide ((a0 : Int) > 1099511627776)) true]) (by kernel_rfl) ⟨h0, h1, trivial⟩
    | false =>
      cases h2 : (decide ((a1 : Int) < 1)) with
      | true =>
        have q0 := of_decide_eq_false h0
        have q1 := of_decide_eq_false h1
        have q2 := of_decide_eq_true h2
        have e : (F130 a0 a1) = ((0, 0), 1) := by simp only [F130, h0, h1, h2, cond_true, cond_false]
        rw [e]
        refine con_of (n := 9) Tryz.func130 rfl (ent Tryz.func130 (by kernel_rfl) rfl) (by show 2 ≤ Tryz.f130.ntmps; decide) (by kernel_rfl) trivial (fun cx hcx => ?_)
        exact ret_of (T := T0) hT hm (f := 5000) (orc := [.d false, .d false, .d true]) [] [] [] hcx
          (obs := [.eq (decide ((a0 : Int) < 1)) false, .eq (decide ((a0 : Int) > 1099511627776)) false, .eq (decide ((a1 : Int) < 1)) true]) (by kernel_rfl) ⟨h0, h1, h2, trivial⟩
      | false =>
        cases h3 : (decide ((a1 : Int) > 8)) with
        | true =>
          have q0 := of_decide_eq_false h0
          have q1 := of_decide_eq_false h1
          have q2 := of_decide_eq_false h2
          have q3 := of_decide_eq_true h3
          have e : (F130 a0 a1) = ((0, 0), 1) := by simp only [F130, h0, h1, h2, h3, cond_true, cond_false]
          rw [e]
          refine con_of (n := 9) Tryz.func130 rfl (ent Tryz.func130 (by kernel_rfl) rfl) (by show 2 ≤ Tryz.f130.ntmps; decide) (by kernel_rfl) trivial (fun cx hcx => ?_)
          exact ret_of (T := T0) hT hm (f := 5000) (orc := [.d false, .d false, .d false, .d true]) [] [] [] hcx
            (obs := [.eq (decide ((a0 : Int) < 1)) false, .eq (decide ((a0 : Int) > 1099511627776)) false, .eq (decide ((a1 : Int) < 1)) false, .eq (decide ((a1 : Int) > 8)) true]) (by kernel_rfl) ⟨h0, h1, h2, h3, trivial⟩
        | false =>
          have q0 := of_decide_eq_false h0
          have q1 := of_decide_eq_false h1
          have q2 := of_decide_eq_false h2
          have q3 := of_decide_eq_false h3
          have e : (F130 a0 a1) = ((F200 (W ((W (a1 * a1)) * 2 ^ (min (Int.toNat 40) 64))) a0).1, (F200 (W ((W (a1 * a1)) * 2 ^ (min (Int.toNat 40) 64))) a0).2) := by simp only [F130, h0, h1, h2, h3, cond_true, cond_false]
          rw [e]
          refine con_of (n := 9) Tryz.func130 rfl (ent Tryz.func130 (by kernel_rfl) rfl) (by show 2 ≤ Tryz.f130.ntmps; decide) (by kernel_rfl) trivial (fun cx hcx => ?_)
          exact ret_of (T := T0) hT hm (f := 5000) (orc := [.d false, .d false, .d false, .d false, .call [] (.t [(.a (k2 (F200 (W ((W (a1 * a1)) * 2 ^ (min (Int.toNat 40) 64))) a0).1)), (iv (F200 (W ((W (a1 * a1)) * 2 ^ (min (Int.toNat 40) 64))) a0).2)]) []]) [] [] [] hcx
            (obs := [.eq (decide ((a0 : Int) < 1)) false, .eq (decide ((a0 : Int) > 1099511627776)) false, .eq (decide ((a1 : Int) < 1)) false, .eq (decide ((a1 : Int) > 8)) false, .pr (0 ≤ (40 : Int)), .call 200 [(iv (W ((W (a1 * a1)) * 2 ^ (min (Int.toNat 40) 64)))), (iv a0)] [] (.t [(.a (k2 (F200 (W ((W (a1 * a1)) * 2 ^ (min (Int.toNat 40) 64))) a0).1)), (iv (F200 (W ((W (a1 * a1)) * 2 ^ (min (Int.toNat 40) 64))) a0).2)]) []]) (by kernel_rfl) ⟨h0, h1, h2, h3, (show 0 ≤ (40 : Int) from by decide), (C200 (W ((W (a1 * a1)) * 2 ^ (min (Int.toNat 40) 64))) a0  (by (try simp only [List.length_append, List.length_cons, List.length_nil, Int.toNat_zero]); omega)), trivial⟩

/-- facet/span.check at (1,) -/
def F131_1 (a0 : Int × Int) : Int :=
  (bif (!(F184 a0)) then
   1
  else
   0)

theorem C131_1 (a0 : Int × Int) : Con Tryz.prog 131 [(.s 0 0 1 2)] [(.live false false [(iv a0.1), (iv a0.2)])] (iv (F131_1 a0)) [] := by
  cases h0 : (!(F184 a0)) with
  | true =>
    have e : (F131_1 a0) = 1 := by simp only [F131_1, h0, cond_true, cond_false]
    rw [e]
    refine con_of (n := 9) Tryz.func131 rfl (ent Tryz.func131 (by kernel_rfl) rfl) (by show 1 ≤ Tryz.f131.ntmps; decide) (by kernel_rfl) ⟨rfl, trivial⟩ (fun cx hcx => ?_)
    exact ret_of (T := T0) hT hm (f := 5000) (orc := [.un 200, .d true, .call [] (.v (.bool (F184 a0))) [], .d true]) [] [] [] hcx
      (obs := [.eq true true, .pr (0 ≤ (0 : Int) ∧ (0 : Int) < ((1 : Nat) : Int)), .call 184 [(.a [(iv a0.1), (iv a0.2)])] [] (.v (.bool (F184 a0))) [], .eq (!(F184 a0)) true]) (by kernel_rfl) ⟨rfl, (show 0 ≤ (0 : Int) ∧ (0 : Int) < ((1 : Nat) : Int) from by decide), (C184 a0), h0, trivial⟩
  | false =>
    have e : (F131_1 a0) = 0 := by simp only [F131_1, h0, cond_true, cond_false]
    rw [e]
    refine con_of (n := 9) Tryz.func131 rfl (ent Tryz.func131 (by kernel_rfl) rfl) (by show 1 ≤ Tryz.f131.ntmps; decide) (by kernel_rfl) ⟨rfl, trivial⟩ (fun cx hcx => ?_)
    exact ret_of (T := T0) hT hm (f := 5000) (orc := [.un 200, .d true, .call [] (.v (.bool (F184 a0))) [], .d false, .un 0, .d false]) [] [] [] hcx
      (obs := [.eq true true, .pr (0 ≤ (0 : Int) ∧ (0 : Int) < ((1 : Nat) : Int)), .call 184 [(.a [(iv a0.1), (iv a0.2)])] [] (.v (.bool (F184 a0))) [], .eq (!(F184 a0)) false, .eq false false]) (by kernel_rfl) ⟨rfl, (show 0 ≤ (0 : Int) ∧ (0 : Int) < ((1 : Nat) : Int) from by decide), (C184 a0), h0, rfl, trivial⟩

/-- facet/span.down -/
def F211 (a0 : Int) (a1 : Int) : Int :=
  (bif (((Int.tmod a0 a1) : Int) != 0) then
   (bif (!((decide ((a0 : Int) < 0)) == (decide ((a1 : Int) < 0)))) then
    (W ((W (Int.tdiv a0 a1)) - 1))
   else
    (W (Int.tdiv a0 a1)))
  else
   (W (Int.tdiv a0 a1)))

theorem C211 (a0 : Int) (a1 : Int) (ha : a1 ≠ 0) : Con Tryz.prog 211 [(iv a0), (iv a1)] [] (iv (F211 a0 a1)) [] := by
  cases h0 : (((Int.tmod a0 a1) : Int) != 0) with
  | true =>
    cases h1 : (!((decide ((a0 : Int) < 0)) == (decide ((a1 : Int) < 0)))) with
    | true =>
      have q0 := bne_iff_ne.1 h0
      have e : (F211 a0 a1) = (W ((W (Int.tdiv a0 a1)) - 1)) := by simp only [F211, h0, h1, cond_true, cond_false]
      rw [e]
      refine con_of (n := 9) Tryz.func211 rfl (ent Tryz.func211 (by kernel_rfl) rfl) (by show 2 ≤ Tryz.f211.ntmps; decide) (by kernel_rfl) trivial (fun cx hcx => ?_)
      exact ret_of (T := T0) hT hm (f := 5000) (orc := [.d true, .d true]) [] [] [] hcx
        (obs := [.pr ((a1 : Int) ≠ 0), .pr ((a1 : Int) ≠ 0), .eq (((Int.tmod a0 a1) : Int) != 0) true, .eq (!((decide ((a0 : Int) < 0)) == (decide ((a1 : Int) < 0)))) true]) (by kernel_rfl) ⟨(show (a1 : Int) ≠ 0 from by first | omega | (rw [W_eq] <;> omega) | exact u64_nn _), (show (a1 : Int) ≠ 0 from by first | omega | (rw [W_eq] <;> omega) | exact u64_nn _), h0, h1, trivial⟩
    | false =>
      have q0 := bne_iff_ne.1 h0
      have e : (F211 a0 a1) = (W (Int.tdiv a0 a1)) := by simp only [F211, h0, h1, cond_true, cond_false]
      rw [e]
      refine con_of (n := 9) Tryz.func211 rfl (ent Tryz.func211 (by kernel_rfl) rfl) (by show 2 ≤ Tryz.f211.ntmps; decide) (by kernel_rfl) trivial (fun cx hcx => ?_)
      exact ret_of (T := T0) hT hm (f := 5000) (orc := [.d true, .d false]) [] [] [] hcx
        (obs := [.pr ((a1 : Int) ≠ 0), .pr ((a1 : Int) ≠ 0), .eq (((Int.tmod a0 a1) : Int) != 0) true, .eq (!((decide ((a0 : Int) < 0)) == (decide ((a1 : Int) < 0)))) false]) (by kernel_rfl) ⟨(show (a1 : Int) ≠ 0 from by first | omega | (rw [W_eq] <;> omega) | exact u64_nn _), (show (a1 : Int) ≠ 0 from by first | omega | (rw [W_eq] <;> omega) | exact u64_nn _), h0, h1, trivial⟩
  | false =>
    have q0 := bne_eq_false_iff_eq.1 h0
    have e : (F211 a0 a1) = (W (Int.tdiv a0 a1)) := by simp only [F211, h0, cond_true, cond_false]
    rw [e]
    refine con_of (n := 9) Tryz.func211 rfl (ent Tryz.func211 (by kernel_rfl) rfl) (by show 2 ≤ Tryz.f211.ntmps; decide) (by kernel_rfl) trivial (fun cx hcx => ?_)
    exact ret_of (T := T0) hT hm (f := 5000) (orc := [.d false]) [] [] [] hcx
      (obs := [.pr ((a1 : Int) ≠ 0), .pr ((a1 : Int) ≠ 0), .eq (((Int.tmod a0 a1) : Int) != 0) false]) (by kernel_rfl) ⟨(show (a1 : Int) ≠ 0 from by first | omega | (rw [W_eq] <;> omega) | exact u64_nn _), (show (a1 : Int) ≠ 0 from by first | omega | (rw [W_eq] <;> omega) | exact u64_nn _), h0, trivial⟩

/-- facet/span.up -/
def F212 (a0 : Int) (a1 : Int) : Int :=
  (W (0 - (F211 (W (0 - a0)) a1)))

theorem C212 (a0 : Int) (a1 : Int) (ha : a1 ≠ 0) : Con Tryz.prog 212 [(iv a0), (iv a1)] [] (iv (F212 a0 a1)) [] := by
  have e : (F212 a0 a1) = (W (0 - (F211 (W (0 - a0)) a1))) := by simp only [F212]
  rw [e]
  refine con_of (n := 9) Tryz.func212 rfl (ent Tryz.func212 (by kernel_rfl) rfl) (by show 2 ≤ Tryz.f212.ntmps; decide) (by kernel_rfl) trivial (fun cx hcx => ?_)
  exact ret_of (T := T0) hT hm (f := 5000) (orc := [.call [] (iv (F211 (W (0 - a0)) a1)) []]) [] [] [] hcx
    (obs := [.call 211 [(iv (W (0 - a0))), (iv a1)] [] (iv (F211 (W (0 - a0)) a1)) []]) (by kernel_rfl) ⟨(C211 (W (0 - a0)) a1  (by (try simp only [List.length_append, List.length_cons, List.length_nil, Int.toNat_zero]); omega)), trivial⟩

/-- facet/span.Part -/
def F146 (a0 : Int × Int) (a1 : Int) : (Int × Int) × Int :=
  (bif (((F131_1 a0) : Int) != 0) then
   ((0, 0), (F131_1 a0))
  else
   (bif (decide ((a1 : Int) < 1)) then
    ((0, 0), 1)
   else
    (bif (decide ((a1 : Int) > 1099511627776)) then
     ((0, 0), 1)
    else
     ((F134 (F211 a0.1 a1) (F212 a0.2 a1)).1, (F134 (F211 a0.1 a1) (F212 a0.2 a1)).2))))

noncomputable def oC146_0 (a0 : Int × Int) : Ob := .call 131 [(.s 0 0 1 2)] [(.live false false [(iv a0.1), (iv a0.2)])] (iv (F131_1 a0)) []
theorem C146 (a0 : Int × Int) (a1 : Int) : Con Tryz.prog 146 [(.a [(iv a0.1), (iv a0.2)]), (iv a1)] [] (.t [(.a (k2 (F146 a0 a1).1)), (iv (F146 a0 a1).2)]) [] := by
  cases h0 : (((F131_1 a0) : Int) != 0) with
  | true =>
    have q0 := bne_iff_ne.1 h0
    have e : (F146 a0 a1) = ((0, 0), (F131_1 a0)) := by simp only [F146, h0, cond_true, cond_false]
    rw [e]
    refine con_of (n := 9) Tryz.func146 rfl (ent Tryz.func146 (by kernel_rfl) rfl) (by show 2 ≤ Tryz.f146.ntmps; decide) (by kernel_rfl) trivial (fun cx hcx => ?_)
    exact ret_of (T := T0) hT hm (f := 5000) (orc := [.call [2] (iv (F131_1 a0)) [], .d true]) [] [] [] hcx
      (obs := [(oC146_0 a0), .eq (((F131_1 a0) : Int) != 0) true]) (by kernel_rfl) ⟨(C131_1 a0), h0, trivial⟩
  | false =>
    cases h1 : (decide ((a1 : Int) < 1)) with
    | true =>
      have q0 := bne_eq_false_iff_eq.1 h0
      have q1 := of_decide_eq_true h1
      have e : (F146 a0 a1) = ((0, 0), 1) := by simp only [F146, h0, h1, cond_true, cond_false]
      rw [e]
      refine con_of (n := 9) Tryz.func146 rfl (ent Tryz.func146 (by kernel_rfl) rfl) (by show 2 ≤ Tryz.f146.ntmps; decide) (by kernel_rfl) trivial (fun cx hcx => ?_)
      exact ret_of (T := T0) hT hm (f := 5000) (orc := [.call [2] (iv (F131_1 a0)) [], .d false, .d true]) [] [] [] hcx
        (obs := [(oC146_0 a0), .eq (((F131_1 a0) : Int) != 0) false, .eq (decide ((a1 : Int) < 1)) true]) (by kernel_rfl) ⟨(C131_1 a0), h0, h1, trivial⟩
    | false =>
      cases h2 : (decide ((a1 : Int) > 1099511627776)) with
      | true =>
        have q0 := bne_eq_false_iff_eq.1 h0
        have q1 := of_decide_eq_false h1
        have q2 := of_decide_eq_true h2
        have e : (F146 a0 a1) = ((0, 0), 1) := by simp only [F146, h0, h1, h2, cond_true, cond_false]
        rw [e]
        refine con_of (n := 9) Tryz.func146 rfl (ent Tryz.func146 (by kernel_rfl) rfl) (by show 2 ≤ Tryz.f146.ntmps; decide) (by kernel_rfl) trivial (fun cx hcx => ?_)
        exact ret_of (T := T0) hT hm (f := 5000) (orc := [.call [2] (iv (F131_1 a0)) [], .d false, .d false, .d true]) [] [] [] hcx
          (obs := [(oC146_0 a0), .eq (((F131_1 a0) : Int) != 0) false, .eq (decide ((a1 : Int) < 1)) false, .eq (decide ((a1 : Int) > 1099511627776)) true]) (by kernel_rfl) ⟨(C131_1 a0), h0, h1, h2, trivial⟩
      | false =>
        have q0 := bne_eq_false_iff_eq.1 h0
        have q1 := of_decide_eq_false h1
        have q2 := of_decide_eq_false h2
        have e : (F146 a0 a1) = ((F134 (F211 a0.1 a1) (F212 a0.2 a1)).1, (F134 (F211 a0.1 a1) (F212 a0.2 a1)).2) := by simp only [F146, h0, h1, h2, cond_true, cond_false]
        rw [e]
        refine con_of (n := 9) Tryz.func146 rfl (ent Tryz.func146 (by kernel_rfl) rfl) (by show 2 ≤ Tryz.f146.ntmps; decide) (by kernel_rfl) trivial (fun cx hcx => ?_)
        exact ret_of (T := T0) hT hm (f := 5000) (orc := [.call [2] (iv (F131_1 a0)) [], .d false, .d false, .d false, .call [] (iv (F211 a0.1 a1)) [], .call [] (iv (F212 a0.2 a1)) [], .call [] (.t [(.a (k2 (F134 (F211 a0.1 a1) (F212 a0.2 a1)).1)), (iv (F134 (F211 a0.1 a1) (F212 a0.2 a1)).2)]) []]) [] [] [] hcx
          (obs := [(oC146_0 a0), .eq (((F131_1 a0) : Int) != 0) false, .eq (decide ((a1 : Int) < 1)) false, .eq (decide ((a1 : Int) > 1099511627776)) false, .call 211 [(iv a0.1), (iv a1)] [] (iv (F211 a0.1 a1)) [], .call 212 [(iv a0.2), (iv a1)] [] (iv (F212 a0.2 a1)) [], .call 134 [(iv (F211 a0.1 a1)), (iv (F212 a0.2 a1))] [] (.t [(.a (k2 (F134 (F211 a0.1 a1) (F212 a0.2 a1)).1)), (iv (F134 (F211 a0.1 a1) (F212 a0.2 a1)).2)]) []]) (by kernel_rfl) ⟨(C131_1 a0), h0, h1, h2, (C211 a0.1 a1  (by (try simp only [List.length_append, List.length_cons, List.length_nil, Int.toNat_zero]); omega)), (C212 a0.2 a1  (by (try simp only [List.length_append, List.length_cons, List.length_nil, Int.toNat_zero]); omega)), (C134 (F211 a0.1 a1) (F212 a0.2 a1)), trivial⟩

/-- api.Span, as cells -/
def c29 (x : Int × Int) : List SV := [(iv x.1), (iv x.2)]
theorem c29_len (x : Int × Int) : (c29 x).length = 2 := rfl

noncomputable def B131_L_0 : Code := (loopAtD [1, 0, 1] [] (Tryz.f131.body.getD .skip) []).1
noncomputable def K131_L_0 : List K := (loopAtD [1, 0, 1] [] (Tryz.f131.body.getD .skip) []).2

/-- a round of loop 0 of facet/span.check; the variables: v1 = s7 -/
def S131_L_0 (a0 : List (Int × Int)) : Int → (Int) ⊕ (Int)
  | v1 =>
   (bif (decide ((v1 : Int) < ((a0.length : Nat) : Int))) then
    (bif (!(F184 (a0.getD (Int.toNat v1) default))) then
     (.inr 1)
    else
     (.inl (v1 + 1)))
   else
    (.inr 0))

set_option maxHeartbeats 4000000 in
theorem L131_L_0 (a0 : List (Int × Int)) (l0 : a0.length ≤ 9223372036854775807) {cx : Cx} (hcx : cx.base = 1) : ∀ (n : Nat) (v1 : Int), 0 ≤ v1 → Int.toNat (((a0.length : Nat) : Int) - v1) < n → Aw.Good Tryz.prog none 9 (bodyPost Tryz.prog Tryz.f131 (RR cx (iv (loopF (S131_L_0 a0) n v1)) [] [])) cx [] (.l B131_L_0 n :: K131_L_0) ⟨[.u, .u, .u, .u, .u, (.s 0 0 a0.length 2), (iv ((a0.length : Nat) : Int)), (iv v1), .u, .u, .u, .u, .u, .u, .u], [(.live false true (flat c29 a0))]⟩ := by
  intro n
  induction n with
  | zero => intro v1 hi hn; exact absurd hn (Nat.not_lt_zero _)
  | succ n ih =>
    intro v1 hi hn
    refine good_round ?_
    cases h0 : (decide ((v1 : Int) < ((a0.length : Nat) : Int))) with
    | true =>
      cases h1 : (!(F184 (a0.getD (Int.toNat v1) default))) with
      | true =>
        have q0 := of_decide_eq_true h0
        have e : S131_L_0 a0 v1 = (.inr 1) := by simp only [S131_L_0, h0, h1, cond_true, cond_false]
        rw [show loopF (S131_L_0 a0) (n + 1) v1 = thenF (S131_L_0 a0) n (S131_L_0 a0 v1) from rfl, e]
        exact ret_of (T := T0) hT hm (f := 5000) (orc := [.d true, .ld (k2 (a0.getD (Int.toNat v1) default)), .call [] (.v (.bool (F184 (a0.getD (Int.toNat v1) default)))) [], .d true]) [] [] [] hcx
          (obs := [.eq (decide ((v1 : Int) < ((a0.length : Nat) : Int))) true, .pr (0 ≤ (v1 : Int) ∧ (v1 : Int) < ((a0.length : Nat) : Int)), .pr (((((flat c29 a0)).drop (0 + Int.toNat v1 * 2)).take 2) = (k2 (a0.getD (Int.toNat v1) default))), .call 184 [(.a (k2 (a0.getD (Int.toNat v1) default)))] [] (.v (.bool (F184 (a0.getD (Int.toNat v1) default)))) [], .eq (!(F184 (a0.getD (Int.toNat v1) default))) true]) (by kernel_rfl) ⟨h0, (show 0 ≤ (v1 : Int) ∧ (v1 : Int) < ((a0.length : Nat) : Int) from by first | omega | (rw [W_eq] <;> omega) | exact u64_nn _), (ld_part c29_len default a0 v1 0 2 (by omega) (by decide) (by omega) rfl), (C184 (a0.getD (Int.toNat v1) default)), h1, trivial⟩
      | false =>
        have q0 := of_decide_eq_true h0
        have e : S131_L_0 a0 v1 = (.inl (v1 + 1)) := by simp only [S131_L_0, h0, h1, cond_true, cond_false]
        rw [loopF_inl e]
        refine back_of (T := T0) hT hm (f := 5000) (orc := [.d true, .ld (k2 (a0.getD (Int.toNat v1) default)), .call [] (.v (.bool (F184 (a0.getD (Int.toNat v1) default)))) [], .d false]) [] [5, 6, 7] [] hcx (body := B131_L_0) (m := n) (k' := K131_L_0) (s' := ⟨[.u, .u, .u, .u, .u, (.s 0 0 a0.length 2), (iv ((a0.length : Nat) : Int)), (iv (W (v1 + 1))), .u, .u, .u, .u, .u, .u, .u], [(.live false true (flat c29 a0))]⟩)
          (obs := [.eq (decide ((v1 : Int) < ((a0.length : Nat) : Int))) true, .pr (0 ≤ (v1 : Int) ∧ (v1 : Int) < ((a0.length : Nat) : Int)), .pr (((((flat c29 a0)).drop (0 + Int.toNat v1 * 2)).take 2) = (k2 (a0.getD (Int.toNat v1) default))), .call 184 [(.a (k2 (a0.getD (Int.toNat v1) default)))] [] (.v (.bool (F184 (a0.getD (Int.toNat v1) default)))) [], .eq (!(F184 (a0.getD (Int.toNat v1) default))) false]) (by kernel_rfl) ⟨h0, (show 0 ≤ (v1 : Int) ∧ (v1 : Int) < ((a0.length : Nat) : Int) from by first | omega | (rw [W_eq] <;> omega) | exact u64_nn _), (ld_part c29_len default a0 v1 0 2 (by omega) (by decide) (by omega) rfl), (C184 (a0.getD (Int.toNat v1) default)), h1, trivial⟩ ?_
        have z0 : (W (v1 + 1)) = (v1 + 1) := W_eq (by omega) (by omega)
        rw [z0]
        exact ih (v1 + 1) (by (try simp only [List.length_append, List.length_cons, List.length_nil, Int.toNat_zero]); omega) (by (try simp only [List.length_append, List.length_cons, List.length_nil, Int.toNat_zero]); omega)
    | false =>
      have q0 := of_decide_eq_false h0
      have e : S131_L_0 a0 v1 = (.inr 0) := by simp only [S131_L_0, h0, cond_true, cond_false]
      rw [show loopF (S131_L_0 a0) (n + 1) v1 = thenF (S131_L_0 a0) n (S131_L_0 a0 v1) from rfl, e]
      exact ret_of (T := T0) hT hm (f := 5000) (orc := [.d false]) [] [] [] hcx
        (obs := [.eq (decide ((v1 : Int) < ((a0.length : Nat) : Int))) false]) (by kernel_rfl) ⟨h0, trivial⟩

/-- facet/span.check at ('L',) -/
def F131_L (a0 : List (Int × Int)) : Int :=
  (loopF (S131_L_0 a0) (Int.toNat (((a0.length : Nat) : Int) - 0) + 1) 0)

theorem C131_L (a0 : List (Int × Int)) (l0 : a0.length ≤ 9223372036854775807) : Con Tryz.prog 131 [(.s 0 0 a0.length 2)] [(.live false true (flat c29 a0))] (iv (F131_L a0)) [] := by
  have e : (F131_L a0) = (loopF (S131_L_0 a0) (Int.toNat (((a0.length : Nat) : Int) - 0) + 1) 0) := by simp only [F131_L]
  rw [e]
  refine con_of (n := 9) Tryz.func131 rfl (ent Tryz.func131 (by kernel_rfl) rfl) (by show 1 ≤ Tryz.f131.ntmps; decide) (by kernel_rfl) ⟨rfl, trivial⟩ (fun cx hcx => ?_)
  refine enter_of (T := T0) hT hm (f := 5000) (orc := []) [] [5, 6, 7] [] hcx (body := B131_L_0) (k' := K131_L_0) (s' := ⟨[.u, .u, .u, .u, .u, (.s 0 0 a0.length 2), (iv ((a0.length : Nat) : Int)), (iv 0), .u, .u, .u, .u, .u, .u, .u], [(.live false true (flat c29 a0))]⟩)
    (obs := []) (by kernel_rfl) trivial ⟨Int.toNat (((a0.length : Nat) : Int) - 0) + 1, ?_⟩
  exact L131_L_0 a0 l0 hcx (Int.toNat (((a0.length : Nat) : Int) - 0) + 1) 0 (by (try simp only [List.length_append, List.length_cons, List.length_nil, Int.toNat_zero]); omega) (by (try simp only [List.length_append, List.length_cons, List.length_nil, Int.toNat_zero]); omega)

noncomputable def B147_L_0 : Code := (loopAtD [1, 1, 1, 0, 1] [] (Tryz.f147.body.getD .skip) []).1
noncomputable def K147_L_0 : List K := (loopAtD [1, 1, 1, 0, 1] [] (Tryz.f147.body.getD .skip) []).2

/-- a round of loop 0 of facet/span.total; the variables: v1 = s2, v2 = s3, v3 = s18 -/
def S147_L_0 (a0 : List (Int × Int)) : Int × Int × Int → (Int × Int × Int) ⊕ (Int × Int × Int)
  | (v1, v2, v3) =>
   (bif (decide ((v3 : Int) < ((a0.length : Nat) : Int))) then
    (.inl ((W (v1 + (a0.getD (Int.toNat v3) default).1)), (W (v2 + (a0.getD (Int.toNat v3) default).2)), (v3 + 1)))
   else
    (.inr (v1, v2, 0)))

set_option maxHeartbeats 4000000 in
theorem L147_L_0 (a0 : List (Int × Int)) (l0 : a0.length ≤ 9223372036854775807) {cx : Cx} (hcx : cx.base = 1) : ∀ (n : Nat) (v1 : Int) (v2 : Int) (v3 : Int), 0 ≤ v3 → Int.toNat (((a0.length : Nat) : Int) - v3) < n → Aw.Good Tryz.prog none 9 (bodyPost Tryz.prog Tryz.f147 (RR cx (.t (k3 (loopF (S147_L_0 a0) n (v1, v2, v3)))) [] [])) cx [] (.l B147_L_0 n :: K147_L_0) ⟨[.u, .u, (iv v1), (iv v2), .u, .u, .u, .u, .u, .u, .u, .u, .u, .u, .u, .u, (.s 0 0 a0.length 2), (iv ((a0.length : Nat) : Int)), (iv v3), .u, .u, .u, .u, .u, .u, .u, .u, .u, .u, .u, .u, .u, .u], [(.live false true (flat c29 a0))]⟩ := by
  intro n
  induction n with
  | zero => intro v1 v2 v3 hi hn; exact absurd hn (Nat.not_lt_zero _)
  | succ n ih =>
    intro v1 v2 v3 hi hn
    refine good_round ?_
    cases h0 : (decide ((v3 : Int) < ((a0.length : Nat) : Int))) with
    | true =>
      have q0 := of_decide_eq_true h0
      have e : S147_L_0 a0 (v1, v2, v3) = (.inl ((W (v1 + (a0.getD (Int.toNat v3) default).1)), (W (v2 + (a0.getD (Int.toNat v3) default).2)), (v3 + 1))) := by simp only [S147_L_0, h0, cond_true, cond_false]
      rw [loopF_inl e]
      refine back_of (T := T0) hT hm (f := 5000) (orc := [.d true, .ld (k2 (a0.getD (Int.toNat v3) default))]) [] [2, 3, 16, 17, 18] [] hcx (body := B147_L_0) (m := n) (k' := K147_L_0) (s' := ⟨[.u, .u, (iv (W (v1 + (a0.getD (Int.toNat v3) default).1))), (iv (W (v2 + (a0.getD (Int.toNat v3) default).2))), .u, .u, .u, .u, .u, .u, .u, .u, .u, .u, .u, .u, (.s 0 0 a0.length 2), (iv ((a0.length : Nat) : Int)), (iv (W (v3 + 1))), .u, .u, .u, .u, .u, .u, .u, .u, .u, .u, .u, .u, .u, .u], [(.live false true (flat c29 a0))]⟩)
        (obs := [.eq (decide ((v3 : Int) < ((a0.length : Nat) : Int))) true, .pr (0 ≤ (v3 : Int) ∧ (v3 : Int) < ((a0.length : Nat) : Int)), .pr (((((flat c29 a0)).drop (0 + Int.toNat v3 * 2)).take 2) = (k2 (a0.getD (Int.toNat v3) default)))]) (by kernel_rfl) ⟨h0, (show 0 ≤ (v3 : Int) ∧ (v3 : Int) < ((a0.length : Nat) : Int) from by first | omega | (rw [W_eq] <;> omega) | exact u64_nn _), (ld_part c29_len default a0 v3 0 2 (by omega) (by decide) (by omega) rfl), trivial⟩ ?_
      have z0 : (W (v3 + 1)) = (v3 + 1) := W_eq (by omega) (by omega)
      rw [z0]
      exact ih (W (v1 + (a0.getD (Int.toNat v3) default).1)) (W (v2 + (a0.getD (Int.toNat v3) default).2)) (v3 + 1) (by (try simp only [List.length_append, List.length_cons, List.length_nil, Int.toNat_zero]); omega) (by (try simp only [List.length_append, List.length_cons, List.length_nil, Int.toNat_zero]); omega)
    | false =>
      have q0 := of_decide_eq_false h0
      have e : S147_L_0 a0 (v1, v2, v3) = (.inr (v1, v2, 0)) := by simp only [S147_L_0, h0, cond_true, cond_false]
      rw [show loopF (S147_L_0 a0) (n + 1) (v1, v2, v3) = thenF (S147_L_0 a0) n (S147_L_0 a0 (v1, v2, v3)) from rfl, e]
      exact ret_of (T := T0) hT hm (f := 5000) (orc := [.d false]) [] [] [] hcx
        (obs := [.eq (decide ((v3 : Int) < ((a0.length : Nat) : Int))) false]) (by kernel_rfl) ⟨h0, trivial⟩

/-- facet/span.total at ('L',) -/
def F147_L (a0 : List (Int × Int)) : Int × Int × Int :=
  (bif (decide ((((a0.length : Nat) : Int) : Int) > 10000)) then
   (0, 0, 4)
  else
   (bif (((F131_L a0) : Int) != 0) then
    (0, 0, (F131_L a0))
   else
    (loopF (S147_L_0 a0) (Int.toNat (((a0.length : Nat) : Int) - 0) + 1) (0, 0, 0))))

theorem C147_L (a0 : List (Int × Int)) (l0 : a0.length ≤ 9223372036854775807) : Con Tryz.prog 147 [(.s 0 0 a0.length 2)] [(.live false true (flat c29 a0))] (.t (k3 (F147_L a0))) [] := by
  cases h0 : (decide ((((a0.length : Nat) : Int) : Int) > 10000)) with
  | true =>
    have q0 := of_decide_eq_true h0
    have e : (F147_L a0) = (0, 0, 4) := by simp only [F147_L, h0, cond_true, cond_false]
    rw [e]
    refine con_of (n := 9) Tryz.func147 rfl (ent Tryz.func147 (by kernel_rfl) rfl) (by show 1 ≤ Tryz.f147.ntmps; decide) (by kernel_rfl) ⟨rfl, trivial⟩ (fun cx hcx => ?_)
    exact ret_of (T := T0) hT hm (f := 5000) (orc := [.d true]) [] [] [] hcx
      (obs := [.eq (decide ((((a0.length : Nat) : Int) : Int) > 10000)) true]) (by kernel_rfl) ⟨h0, trivial⟩
  | false =>
    cases h1 : (((F131_L a0) : Int) != 0) with
    | true =>
      have q0 := of_decide_eq_false h0
      have q1 := bne_iff_ne.1 h1
      have e : (F147_L a0) = (0, 0, (F131_L a0)) := by simp only [F147_L, h0, h1, cond_true, cond_false]
      rw [e]
      refine con_of (n := 9) Tryz.func147 rfl (ent Tryz.func147 (by kernel_rfl) rfl) (by show 1 ≤ Tryz.f147.ntmps; decide) (by kernel_rfl) ⟨rfl, trivial⟩ (fun cx hcx => ?_)
      exact ret_of (T := T0) hT hm (f := 5000) (orc := [.d false, .call [0] (iv (F131_L a0)) [], .d true]) [] [] [] hcx
        (obs := [.eq (decide ((((a0.length : Nat) : Int) : Int) > 10000)) false, .call 131 [(.s 0 0 a0.length 2)] [(.live false true (flat c29 a0))] (iv (F131_L a0)) [], .eq (((F131_L a0) : Int) != 0) true]) (by kernel_rfl) ⟨h0, (C131_L a0 (by (try simp only [List.length_append, List.length_cons, List.length_nil, Int.toNat_zero]); omega)), h1, trivial⟩
    | false =>
      have q0 := of_decide_eq_false h0
      have q1 := bne_eq_false_iff_eq.1 h1
      have e : (F147_L a0) = (loopF (S147_L_0 a0) (Int.toNat (((a0.length : Nat) : Int) - 0) + 1) (0, 0, 0)) := by simp only [F147_L, h0, h1, cond_true, cond_false]
      rw [e]
      refine con_of (n := 9) Tryz.func147 rfl (ent Tryz.func147 (by kernel_rfl) rfl) (by show 1 ≤ Tryz.f147.ntmps; decide) (by kernel_rfl) ⟨rfl, trivial⟩ (fun cx hcx => ?_)
      refine enter_of (T := T0) hT hm (f := 5000) (orc := [.d false, .call [0] (iv (F131_L a0)) [], .d false]) [] [2, 3, 16, 17, 18] [] hcx (body := B147_L_0) (k' := K147_L_0) (s' := ⟨[.u, .u, (iv 0), (iv 0), .u, .u, .u, .u, .u, .u, .u, .u, .u, .u, .u, .u, (.s 0 0 a0.length 2), (iv ((a0.length : Nat) : Int)), (iv 0), .u, .u, .u, .u, .u, .u, .u, .u, .u, .u, .u, .u, .u, .u], [(.live false true (flat c29 a0))]⟩)
        (obs := [.eq (decide ((((a0.length : Nat) : Int) : Int) > 10000)) false, .call 131 [(.s 0 0 a0.length 2)] [(.live false true (flat c29 a0))] (iv (F131_L a0)) [], .eq (((F131_L a0) : Int) != 0) false]) (by kernel_rfl) ⟨h0, (C131_L a0 (by (try simp only [List.length_append, List.length_cons, List.length_nil, Int.toNat_zero]); omega)), h1, trivial⟩ ⟨Int.toNat (((a0.length : Nat) : Int) - 0) + 1, ?_⟩
      exact L147_L_0 a0 l0 hcx (Int.toNat (((a0.length : Nat) : Int) - 0) + 1) 0 0 0 (by (try simp only [List.length_append, List.length_cons, List.length_nil, Int.toNat_zero]); omega) (by (try simp only [List.length_append, List.length_cons, List.length_nil, Int.toNat_zero]); omega)

/-- facet/span.Sum at ('L',) -/
def F73_L (a0 : List (Int × Int)) : (Int × Int) × Int :=
  (bif (((F147_L a0).2.2 : Int) != 0) then
   ((0, 0), (F147_L a0).2.2)
  else
   ((F134 (F147_L a0).1 (F147_L a0).2.1).1, (F134 (F147_L a0).1 (F147_L a0).2.1).2))

theorem C73_L (a0 : List (Int × Int)) (l0 : a0.length ≤ 9223372036854775807) : Con Tryz.prog 73 [(.s 0 0 a0.length 2)] [(.live false true (flat c29 a0))] (.t [(.a (k2 (F73_L a0).1)), (iv (F73_L a0).2)]) [] := by
  cases h0 : (((F147_L a0).2.2 : Int) != 0) with
  | true =>
    have q0 := bne_iff_ne.1 h0
    have e : (F73_L a0) = ((0, 0), (F147_L a0).2.2) := by simp only [F73_L, h0, cond_true, cond_false]
    rw [e]
    refine con_of (n := 9) Tryz.func73 rfl (ent Tryz.func73 (by kernel_rfl) rfl) (by show 1 ≤ Tryz.f73.ntmps; decide) (by kernel_rfl) ⟨rfl, trivial⟩ (fun cx hcx => ?_)
    exact ret_of (T := T0) hT hm (f := 5000) (orc := [.call [0] (.t (k3 (F147_L a0))) [], .d true]) [] [] [] hcx
      (obs := [.call 147 [(.s 0 0 a0.length 2)] [(.live false true (flat c29 a0))] (.t (k3 (F147_L a0))) [], .eq (((F147_L a0).2.2 : Int) != 0) true]) (by kernel_rfl) ⟨(C147_L a0 (by (try simp only [List.length_append, List.length_cons, List.length_nil, Int.toNat_zero]); omega)), h0, trivial⟩
  | false =>
    have q0 := bne_eq_false_iff_eq.1 h0
    have e : (F73_L a0) = ((F134 (F147_L a0).1 (F147_L a0).2.1).1, (F134 (F147_L a0).1 (F147_L a0).2.1).2) := by simp only [F73_L, h0, cond_true, cond_false]
    rw [e]
    refine con_of (n := 9) Tryz.func73 rfl (ent Tryz.func73 (by kernel_rfl) rfl) (by show 1 ≤ Tryz.f73.ntmps; decide) (by kernel_rfl) ⟨rfl, trivial⟩ (fun cx hcx => ?_)
    exact ret_of (T := T0) hT hm (f := 5000) (orc := [.call [0] (.t (k3 (F147_L a0))) [], .d false, .call [] (.t [(.a (k2 (F134 (F147_L a0).1 (F147_L a0).2.1).1)), (iv (F134 (F147_L a0).1 (F147_L a0).2.1).2)]) []]) [] [] [] hcx
      (obs := [.call 147 [(.s 0 0 a0.length 2)] [(.live false true (flat c29 a0))] (.t (k3 (F147_L a0))) [], .eq (((F147_L a0).2.2 : Int) != 0) false, .call 134 [(iv (F147_L a0).1), (iv (F147_L a0).2.1)] [] (.t [(.a (k2 (F134 (F147_L a0).1 (F147_L a0).2.1).1)), (iv (F134 (F147_L a0).1 (F147_L a0).2.1).2)]) []]) (by kernel_rfl) ⟨(C147_L a0 (by (try simp only [List.length_append, List.length_cons, List.length_nil, Int.toNat_zero]); omega)), h0, (C134 (F147_L a0).1 (F147_L a0).2.1), trivial⟩

/-- facet/span.Mean at ('L',) -/
def F177_L (a0 : List (Int × Int)) : (Int × Int) × Int :=
  (bif (((F147_L a0).2.2 : Int) != 0) then
   ((0, 0), (F147_L a0).2.2)
  else
   (bif ((((a0.length : Nat) : Int) : Int) == 0) then
    ((0, 0), 1)
   else
    ((F134 (F211 (F147_L a0).1 ((a0.length : Nat) : Int)) (F212 (F147_L a0).2.1 ((a0.length : Nat) : Int))).1, (F134 (F211 (F147_L a0).1 ((a0.length : Nat) : Int)) (F212 (F147_L a0).2.1 ((a0.length : Nat) : Int))).2)))

noncomputable def oC177_L_0 (a0 : List (Int × Int)) : Ob := .call 147 [(.s 0 0 a0.length 2)] [(.live false true (flat c29 a0))] (.t (k3 (F147_L a0))) []
theorem C177_L (a0 : List (Int × Int)) (l0 : a0.length ≤ 9223372036854775807) : Con Tryz.prog 177 [(.s 0 0 a0.length 2)] [(.live false true (flat c29 a0))] (.t [(.a (k2 (F177_L a0).1)), (iv (F177_L a0).2)]) [] := by
  cases h0 : (((F147_L a0).2.2 : Int) != 0) with
  | true =>
    have q0 := bne_iff_ne.1 h0
    have e : (F177_L a0) = ((0, 0), (F147_L a0).2.2) := by simp only [F177_L, h0, cond_true, cond_false]
    rw [e]
    refine con_of (n := 9) Tryz.func177 rfl (ent Tryz.func177 (by kernel_rfl) rfl) (by show 1 ≤ Tryz.f177.ntmps; decide) (by kernel_rfl) ⟨rfl, trivial⟩ (fun cx hcx => ?_)
    exact ret_of (T := T0) hT hm (f := 5000) (orc := [.call [0] (.t (k3 (F147_L a0))) [], .d true]) [] [] [] hcx
      (obs := [(oC177_L_0 a0), .eq (((F147_L a0).2.2 : Int) != 0) true]) (by kernel_rfl) ⟨(C147_L a0 (by (try simp only [List.length_append, List.length_cons, List.length_nil, Int.toNat_zero]); omega)), h0, trivial⟩
  | false =>
    cases h1 : ((((a0.length : Nat) : Int) : Int) == 0) with
    | true =>
      have q0 := bne_eq_false_iff_eq.1 h0
      have q1 := eq_of_beq h1
      have e : (F177_L a0) = ((0, 0), 1) := by simp only [F177_L, h0, h1, cond_true, cond_false]
      rw [e]
      refine con_of (n := 9) Tryz.func177 rfl (ent Tryz.func177 (by kernel_rfl) rfl) (by show 1 ≤ Tryz.f177.ntmps; decide) (by kernel_rfl) ⟨rfl, trivial⟩ (fun cx hcx => ?_)
      exact ret_of (T := T0) hT hm (f := 5000) (orc := [.call [0] (.t (k3 (F147_L a0))) [], .d false, .d true]) [] [] [] hcx
        (obs := [(oC177_L_0 a0), .eq (((F147_L a0).2.2 : Int) != 0) false, .eq ((((a0.length : Nat) : Int) : Int) == 0) true]) (by kernel_rfl) ⟨(C147_L a0 (by (try simp only [List.length_append, List.length_cons, List.length_nil, Int.toNat_zero]); omega)), h0, h1, trivial⟩
    | false =>
      have q0 := bne_eq_false_iff_eq.1 h0
      have q1 := ne_of_beq_false h1
      have e : (F177_L a0) = ((F134 (F211 (F147_L a0).1 ((a0.length : Nat) : Int)) (F212 (F147_L a0).2.1 ((a0.length : Nat) : Int))).1, (F134 (F211 (F147_L a0).1 ((a0.length : Nat) : Int)) (F212 (F147_L a0).2.1 ((a0.length : Nat) : Int))).2) := by simp only [F177_L, h0, h1, cond_true, cond_false]
      rw [e]
      refine con_of (n := 9) Tryz.func177 rfl (ent Tryz.func177 (by kernel_rfl) rfl) (by show 1 ≤ Tryz.f177.ntmps; decide) (by kernel_rfl) ⟨rfl, trivial⟩ (fun cx hcx => ?_)
      exact ret_of (T := T0) hT hm (f := 5000) (orc := [.call [0] (.t (k3 (F147_L a0))) [], .d false, .d false, .call [] (iv (F211 (F147_L a0).1 ((a0.length : Nat) : Int))) [], .call [] (iv (F212 (F147_L a0).2.1 ((a0.length : Nat) : Int))) [], .call [] (.t [(.a (k2 (F134 (F211 (F147_L a0).1 ((a0.length : Nat) : Int)) (F212 (F147_L a0).2.1 ((a0.length : Nat) : Int))).1)), (iv (F134 (F211 (F147_L a0).1 ((a0.length : Nat) : Int)) (F212 (F147_L a0).2.1 ((a0.length : Nat) : Int))).2)]) []]) [] [] [] hcx
        (obs := [(oC177_L_0 a0), .eq (((F147_L a0).2.2 : Int) != 0) false, .eq ((((a0.length : Nat) : Int) : Int) == 0) false, .call 211 [(iv (F147_L a0).1), (iv ((a0.length : Nat) : Int))] [] (iv (F211 (F147_L a0).1 ((a0.length : Nat) : Int))) [], .call 212 [(iv (F147_L a0).2.1), (iv ((a0.length : Nat) : Int))] [] (iv (F212 (F147_L a0).2.1 ((a0.length : Nat) : Int))) [], .call 134 [(iv (F211 (F147_L a0).1 ((a0.length : Nat) : Int))), (iv (F212 (F147_L a0).2.1 ((a0.length : Nat) : Int)))] [] (.t [(.a (k2 (F134 (F211 (F147_L a0).1 ((a0.length : Nat) : Int)) (F212 (F147_L a0).2.1 ((a0.length : Nat) : Int))).1)), (iv (F134 (F211 (F147_L a0).1 ((a0.length : Nat) : Int)) (F212 (F147_L a0).2.1 ((a0.length : Nat) : Int))).2)]) []]) (by kernel_rfl) ⟨(C147_L a0 (by (try simp only [List.length_append, List.length_cons, List.length_nil, Int.toNat_zero]); omega)), h0, h1, (C211 (F147_L a0).1 ((a0.length : Nat) : Int)  (by (try simp only [List.length_append, List.length_cons, List.length_nil, Int.toNat_zero]); omega)), (C212 (F147_L a0).2.1 ((a0.length : Nat) : Int)  (by (try simp only [List.length_append, List.length_cons, List.length_nil, Int.toNat_zero]); omega)), (C134 (F211 (F147_L a0).1 ((a0.length : Nat) : Int)) (F212 (F147_L a0).2.1 ((a0.length : Nat) : Int))), trivial⟩

/-- facet/span.product -/
def F133 (a0 : Int) (a1 : Int) : Int :=
  (bif ((a0 : Int) != 0) then
   (bif ((a1 : Int) != 0) then
    (bif (decide (((if (a1 : Int) < (W (0 - a1)) then (W (0 - a1)) else a1) : Int) > (W (Int.tdiv 1099511627776 (if (a0 : Int) < (W (0 - a0)) then (W (0 - a0)) else a0))))) then
     (bif (!((decide ((a0 : Int) < 0)) == (decide ((a1 : Int) < 0)))) then
      (-1099511627777)
     else
      1099511627777)
    else
     (W (a0 * a1)))
   else
    (W (a0 * a1)))
  else
   (W (a0 * a1)))

noncomputable def oC133_0 (a0 : Int) (a1 : Int) : Ob := .eq (decide (((if (a1 : Int) < (W (0 - a1)) then (W (0 - a1)) else a1) : Int) > (W (Int.tdiv 1099511627776 (if (a0 : Int) < (W (0 - a0)) then (W (0 - a0)) else a0))))) true
theorem C133 (a0 : Int) (a1 : Int) (ha : -1099511627776 ≤ a0 ∧ a0 ≤ 1099511627776) : Con Tryz.prog 133 [(iv a0), (iv a1)] [] (iv (F133 a0 a1)) [] := by
  cases h0 : ((a0 : Int) != 0) with
  | true =>
    cases h1 : ((a1 : Int) != 0) with
    | true =>
      cases h2 : (decide (((if (a1 : Int) < (W (0 - a1)) then (W (0 - a1)) else a1) : Int) > (W (Int.tdiv 1099511627776 (if (a0 : Int) < (W (0 - a0)) then (W (0 - a0)) else a0))))) with
      | true =>
        cases h3 : (!((decide ((a0 : Int) < 0)) == (decide ((a1 : Int) < 0)))) with
        | true =>
          have q0 := bne_iff_ne.1 h0
          have q1 := bne_iff_ne.1 h1
          have q2 := of_decide_eq_true h2
          have e : (F133 a0 a1) = (-1099511627777) := by simp only [F133, h0, h1, h2, h3, cond_true, cond_false]
          rw [e]
          refine con_of (n := 9) Tryz.func133 rfl (ent Tryz.func133 (by kernel_rfl) rfl) (by show 2 ≤ Tryz.f133.ntmps; decide) (by kernel_rfl) trivial (fun cx hcx => ?_)
          exact ret_of (T := T0) hT hm (f := 5000) (orc := [.d true, .d true, .d true, .d true]) [] [] [] hcx
            (obs := [.eq ((a0 : Int) != 0) true, .eq ((a1 : Int) != 0) true, .pr (((if (a0 : Int) < (W (0 - a0)) then (W (0 - a0)) else a0) : Int) ≠ 0), (oC133_0 a0 a1), .eq (!((decide ((a0 : Int) < 0)) == (decide ((a1 : Int) < 0)))) true]) (by kernel_rfl) ⟨h0, h1, (show ((if (a0 : Int) < (W (0 - a0)) then (W (0 - a0)) else a0) : Int) ≠ 0 from by (have hw := W_eq (n := 0 - a0) (by omega) (by omega); rw [hw]; split <;> omega)), h2, h3, trivial⟩
        | false =>
          have q0 := bne_iff_ne.1 h0
          have q1 := bne_iff_ne.1 h1
          have q2 := of_decide_eq_true h2
          have e : (F133 a0 a1) = 1099511627777 := by simp only [F133, h0, h1, h2, h3, cond_true, cond_false]
          rw [e]
          refine con_of (n := 9) Tryz.func133 rfl (ent Tryz.func133 (by kernel_rfl) rfl) (by show 2 ≤ Tryz.f133.ntmps; decide) (by kernel_rfl) trivial (fun cx hcx => ?_)
          exact ret_of (T := T0) hT hm (f := 5000) (orc := [.d true, .d true, .d true, .d false]) [] [] [] hcx
            (obs := [.eq ((a0 : Int) != 0) true, .eq ((a1 : Int) != 0) true, .pr (((if (a0 : Int) < (W (0 - a0)) then (W (0 - a0)) else a0) : Int) ≠ 0), (oC133_0 a0 a1), .eq (!((decide ((a0 : Int) < 0)) == (decide ((a1 : Int) < 0)))) false]) (by kernel_rfl) ⟨h0, h1, (show ((if (a0 : Int) < (W (0 - a0)) then (W (0 - a0)) else a0) : Int) ≠ 0 from by (have hw := W_eq (n := 0 - a0) (by omega) (by omega); rw [hw]; split <;> omega)), h2, h3, trivial⟩
      | false =>
        have q0 := bne_iff_ne.1 h0
        have q1 := bne_iff_ne.1 h1
        have q2 := of_decide_eq_false h2
        have e : (F133 a0 a1) = (W (a0 * a1)) := by simp only [F133, h0, h1, h2, cond_true, cond_false]
        rw [e]
        refine con_of (n := 9) Tryz.func133 rfl (ent Tryz.func133 (by kernel_rfl) rfl) (by show 2 ≤ Tryz.f133.ntmps; decide) (by kernel_rfl) trivial (fun cx hcx => ?_)
        exact ret_of (T := T0) hT hm (f := 5000) (orc := [.d true, .d true, .d false]) [] [] [] hcx
          (obs := [.eq ((a0 : Int) != 0) true, .eq ((a1 : Int) != 0) true, .pr (((if (a0 : Int) < (W (0 - a0)) then (W (0 - a0)) else a0) : Int) ≠ 0), .eq (decide (((if (a1 : Int) < (W (0 - a1)) then (W (0 - a1)) else a1) : Int) > (W (Int.tdiv 1099511627776 (if (a0 : Int) < (W (0 - a0)) then (W (0 - a0)) else a0))))) false]) (by kernel_rfl) ⟨h0, h1, (show ((if (a0 : Int) < (W (0 - a0)) then (W (0 - a0)) else a0) : Int) ≠ 0 from by (have hw := W_eq (n := 0 - a0) (by omega) (by omega); rw [hw]; split <;> omega)), h2, trivial⟩
    | false =>
      have q0 := bne_iff_ne.1 h0
      have q1 := bne_eq_false_iff_eq.1 h1
      have e : (F133 a0 a1) = (W (a0 * a1)) := by simp only [F133, h0, h1, cond_true, cond_false]
      rw [e]
      refine con_of (n := 9) Tryz.func133 rfl (ent Tryz.func133 (by kernel_rfl) rfl) (by show 2 ≤ Tryz.f133.ntmps; decide) (by kernel_rfl) trivial (fun cx hcx => ?_)
      exact ret_of (T := T0) hT hm (f := 5000) (orc := [.d true, .d false]) [] [] [] hcx
        (obs := [.eq ((a0 : Int) != 0) true, .eq ((a1 : Int) != 0) false]) (by kernel_rfl) ⟨h0, h1, trivial⟩
  | false =>
    have q0 := bne_eq_false_iff_eq.1 h0
    have e : (F133 a0 a1) = (W (a0 * a1)) := by simp only [F133, h0, cond_true, cond_false]
    rw [e]
    refine con_of (n := 9) Tryz.func133 rfl (ent Tryz.func133 (by kernel_rfl) rfl) (by show 2 ≤ Tryz.f133.ntmps; decide) (by kernel_rfl) trivial (fun cx hcx => ?_)
    exact ret_of (T := T0) hT hm (f := 5000) (orc := [.d false]) [] [] [] hcx
      (obs := [.eq ((a0 : Int) != 0) false]) (by kernel_rfl) ⟨h0, trivial⟩

end Go.Proofs.YtnkeljlllagddaaGreat
