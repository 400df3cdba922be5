/-
  A symbolic executor for the model's code, part P: a function's contract out of a run of its code. Generic in the program. No premise.
-/
import Derived.Test.YtopbnnmkdildgaaAwO
namespace Go.Aw
open Go.RowKit
set_option linter.unusedVariables false
set_option linter.unusedSimpArgs false

def resVals (T : Nat → Option TI) (s : FS) : List ResultVar → Option (List SV)
  | [] => some []
  | .tmp t :: l => match resVals T s l with
    | some m => some (s.sl t :: m)
    | none => none
  | .cell a t :: l => match s.sl a, T t with
    | .p k off, some i => match s.bk k with
      | .live own false cells => if ((cells.drop off).take i.size).length = i.size then
          match mkV i.agg ((cells.drop off).take i.size), resVals T s l with
          | some x, some m => some (x :: m)
          | _, _ => none
        else none
      | _ => none
    | _, _ => none

def resOf : List SV → SV
  | [x] => x
  | l => .t l

/-- A block that is handed back. -/
def outK (R : List Nat) : BK → Option BK
  | .dead => some .dead
  | .live true true cells => some (.live true true cells)
  | .live true false cells => match renL R cells with
    | some cells => some (.live true false cells)
    | none => none
  | _ => none

def outBs (ks : List Nat) (bk : Nat → BK) : List Nat → Option (List BK)
  | [] => some []
  | k :: l => match outK ks (bk k), outBs ks bk l with
    | some x, some m => some (x :: m)
    | _, _ => none

/-- The blocks that were handed over to be written. -/
def outMs (R : List Nat) (ms : List Nat) (bk : Nat → BK) : Nat → Nat → Option (List BK)
  | _, 0 => some []
  | i, n + 1 => match (if ms.contains i then outK R (bk i) else some .un), outMs R ms bk (i + 1) n with
    | some x, some m => some (x :: m)
    | _, _ => none

/-- The result, the new blocks 'ks' that are handed back, and those that were handed over to be written, 'ms'. -/
def fin (T : Nat → Option TI) (rv : List ResultVar) (base : Nat) (ms ks : List Nat) (s : LS) : Option (SV × List BK × List BK) :=
  match resVals T s.fs rv with
  | none => none
  | some l => match ren (List.range base ++ ks) (resOf l), outBs (List.range base ++ ks) s.fs.bk ks, (match ms with | [] => some [] | _ => outMs (List.range base ++ ks) ms s.fs.bk 0 base) with
    | some res, some nb, some mb => if nodupB ks && ks.all (fun k => decide (base ≤ k)) then some (res, nb, mb) else none
    | _, _, _ => none

section
variable {P : Program} {T : Nat → Option TI} {cx : Cx} {n : Nat}

def rvSem (tmps : Array Value) (x : ResultVar) : Sem Value :=
  match x with
  | .tmp t => pure (tmps.getD t undef)
  | .cell a t => do loadVar t (← asAddr (tmps.getD a undef))

theorem results_eq (fn : Func) (tmps : Array Value) : results fn tmps = (fn.results.mapM (rvSem tmps) >>= fun vs => pure (if h : vs.size = 1 then vs[0] else .tuple vs)) := by
  unfold results
  congr 2

theorem run_asAddr (x : Addr) (W : World) : (asAddr (.pointer (some x))).run P W = .ok x W := rfl

theorem resVals_ok (hT : TOk P T) {N : Nat} {D : List Deferred} {s : FS} {ρ : Env} {a : Act} {W : World} (hrep : Rep cx N D ρ s a W) : ∀ (rv : List ResultVar) (l : List SV), resVals T s rv = some l → ∀ acc : Array Value,
    ∃ vs : List Value, (rv.foldlM (fun (acc : Array Value) (x : ResultVar) => do pure (acc.push (← rvSem a.tmps x))) acc).run P W = .ok (acc ++ vs.toArray) W ∧ Rels ρ l vs
  | [], l, h, acc => by simp only [resVals, Option.some.injEq] at h; subst h; exact ⟨[], by simp, by simp [Rels]⟩
  | .tmp t :: rv, l, h, acc => by
    simp only [resVals] at h
    split at h
    · rename_i m hm
      simp only [Option.some.injEq] at h; subst h
      obtain ⟨vs, hr, hrel⟩ := resVals_ok hT hrep rv m hm (acc.push (a.tmps.getD t undef))
      refine ⟨a.tmps.getD t undef :: vs, ?_, by simp only [Rels]; exact ⟨hrep.sl t, hrel⟩⟩
      simp only [List.foldlM_cons, Sem.run_bind, rvSem, Sem.run_pure, Result.andThen_ok]
      refine Eq.trans hr ?_; simp
    · cases h
  | .cell c t :: rv, l, h, acc => by
    simp only [resVals] at h
    split at h
    · rename_i k off i hs hi
      split at h
      · rename_i own cells hb
        split at h
        · rename_i hl
          split at h
          · rename_i x m hx hm
            simp only [Option.some.injEq] at h; subst h
            obtain ⟨nf, d, z, h1, h2, h3, hie⟩ := conv_spec (hT t i hi)
            have hxr := hrep.sl c
            rw [hs] at hxr
            simp only [Rel] at hxr
            obtain ⟨b, o', m', hρ, hy⟩ := hxr
            have hbk := hrep.bk k
            rw [hb] at hbk
            rcases hbk.read with ⟨he, _⟩ | ⟨b', o'', m'', vs0, e1, ⟨e2, _⟩, _, e4⟩
            · rw [hρ] at he; cases he
            rw [hρ] at e1; cases e1
            rw [hie] at hx hl
            simp only at hx hl
            have hrr : Rels ρ ((cells.drop off).take nf.size) ((vs0.drop off).take nf.size) := Rels.take _ (Rels.drop _ e2)
            have hlen := hrr.length
            have hload : (loadVar t ⟨b, o' + off, none⟩).run P W = .ok (if isAggD d = true then .agg ((vs0.drop off).take nf.size).toArray else ((vs0.drop off).take nf.size).headD undef) W := by
              refine run_loadVar h1 h2 (by rw [← hlen]; exact hl) (fun hag hne => ?_) (fun j y hjy => ?_)
              · rw [hag] at hx
                rw [hne] at hlen
                have : (cells.drop off).take nf.size = [] := List.length_eq_zero_iff.1 (by simpa using hlen)
                rw [this] at hx; simp [mkV] at hx
              · have hj := (List.getElem?_eq_some_iff.1 hjy).1
                rw [List.getElem?_take_of_lt (by simp at hj; omega), List.getElem?_drop] at hjy
                have := e4 (off + j) y hjy
                rw [show o' + off + j = o' + (off + j) by omega]; exact this
            obtain ⟨vs, hr, hrel⟩ := resVals_ok hT hrep rv m hm (acc.push (if isAggD d = true then .agg ((vs0.drop off).take nf.size).toArray else ((vs0.drop off).take nf.size).headD undef))
            refine ⟨_ :: vs, ?_, by simp only [Rels]; exact ⟨mkV_rel hx hrr, hrel⟩⟩
            have hrv : (rvSem a.tmps (.cell c t)).run P W = .ok (if isAggD d = true then .agg ((vs0.drop off).take nf.size).toArray else ((vs0.drop off).take nf.size).headD undef) W := by
              simp only [rvSem, Sem.run_bind, hy, run_asAddr, Result.andThen_ok, hload]
            simp only [List.foldlM_cons, Sem.run_bind, hrv, Sem.run_pure, Result.andThen_ok]
            refine Eq.trans hr ?_; simp
          · cases h
        · cases h
      · cases h
    · cases h

theorem outBs_spec {ks : List Nat} {bk : Nat → BK} : ∀ (l : List Nat) (m : List BK), outBs ks bk l = some m → m.length = l.length ∧ ∀ (i : Nat) (y : BK), m[i]? = some y → ∃ k, l[i]? = some k ∧ outK ks (bk k) = some y
  | [], m, h => by simp only [outBs, Option.some.injEq] at h; subst h; simp
  | k :: l, m, h => by
    simp only [outBs] at h
    split at h
    · rename_i x m' hx hm
      simp only [Option.some.injEq] at h; subst h
      obtain ⟨h1, h2⟩ := outBs_spec l m' hm
      refine ⟨by simp [h1], fun i y hi => ?_⟩
      cases i with
      | zero => simp at hi; subst hi; exact ⟨k, by simp, hx⟩
      | succ i =>
        obtain ⟨k, e1, e2⟩ := h2 i y (by simpa using hi)
        exact ⟨k, by simpa using e1, e2⟩
    · cases h

theorem outMs_spec {R ms : List Nat} {bk : Nat → BK} : ∀ (n i : Nat) (m : List BK), outMs R ms bk i n = some m → m.length = n ∧ ∀ j y, m[j]? = some y → y = .un ∨ outK R (bk (i + j)) = some y
  | 0, i, m, h => by simp only [outMs, Option.some.injEq] at h; subst h; simp
  | n + 1, i, m, h => by
    simp only [outMs] at h
    split at h
    · rename_i x m' hx hm
      simp only [Option.some.injEq] at h; subst h
      obtain ⟨h1, h2⟩ := outMs_spec n (i + 1) m' hm
      refine ⟨by simp [h1], fun j y hj => ?_⟩
      cases j with
      | zero =>
        simp at hj; subst hj
        split at hx
        · exact .inr (by simpa using hx)
        · simp only [Option.some.injEq] at hx; exact .inl hx.symm
      | succ j =>
        rw [show i + (j + 1) = i + 1 + j by omega]
        exact h2 j y (by simpa using hj)
    · cases h

theorem outK_rep {R : List Nat} {ρ : Env} {M : Nat → Prop} {W : World} {j k : Nat} {x y : BK} (hj : R[j]? = some k) (h : outK R x = some y) (hp : x.pl) (hb : BRep ρ M W k x) : BRep (envOf ρ R) M W j y ∧ y.pl ∧ (y.own → x.own) := by
  have he : envOf ρ R j = ρ k := by simp only [envOf, hj]
  unfold outK at h
  split at h
  · simp only [Option.some.injEq] at h; subst h; exact ⟨trivial, trivial, fun h => h.elim⟩
  · simp only [Option.some.injEq] at h; subst h
    refine ⟨?_, hp, fun _ => trivial⟩
    rcases hb with ⟨q1, q2⟩ | ⟨b, vs, rest, ty, q1, q2, q3, q4⟩
    · exact .inl ⟨he.trans q1, q2⟩
    · exact .inr ⟨b, vs, rest, ty, he.trans q1, q2, Plain.congr hp q3, q4⟩
  · split at h
    · rename_i cells c' hc
      simp only [Option.some.injEq] at h; subst h
      refine ⟨?_, trivial, fun _ => trivial⟩
      rcases hb with ⟨q1, q2⟩ | ⟨b, vs, rest, ty, q1, q2, q3, q4⟩
      · subst q2
        simp only [renL, Option.some.injEq] at hc; subst hc
        exact .inl ⟨he.trans q1, rfl⟩
      · exact .inr ⟨b, vs, rest, ty, he.trans q1, q2, renL_rel _ _ _ hc q3, q4⟩
    · cases h
  · cases h

/-- At the return. -/
theorem fin_ok (hT : TOk P T) {fn : Func} {ms ks : List Nat} {s : LS} {res : SV} {nb mb : List BK} (h : fin T fn.results.toList cx.base ms ks s = some (res, nb, mb)) :
    GoodAt (bodyPost P fn (RR cx res nb mb)) .ret cx [] s := by
  intro ρ a W hrep
  unfold fin at h
  split at h
  · cases h
  · rename_i l hl
    split at h
    · rename_i res' nb' mb' hres hnb hmb
      split at h
      · rename_i hc
        simp only [Bool.and_eq_true, List.all_eq_true, decide_eq_true_eq] at hc
        simp only [Option.some.injEq, Prod.mk.injEq] at h
        obtain ⟨rfl, rfl, rfl⟩ := h
        obtain ⟨vs, hrun, hrel⟩ := resVals_ok hT hrep fn.results.toList l hl #[]
        have hmap : (fn.results.mapM (rvSem a.tmps)).run P W = .ok vs.toArray W := by
          rw [Array.mapM_eq_foldlM, ← Array.foldlM_toList]
          simp only [Array.empty_append] at hrun
          rw [← hrun]
          simp only [bind_pure_comp]
        have hresult : ∃ v, (results fn a.tmps).run P W = .ok v W ∧ Rel ρ (resOf l) v := by
          rw [results_eq]
          simp only [Sem.run_bind, hmap, Result.andThen_ok, Sem.run_pure]
          match l, vs, hrel with
          | [x], [y], hrel => simp only [Rels] at hrel; exact ⟨y, by simp, hrel.1⟩
          | [], [], _ => exact ⟨_, rfl, by simp only [resOf, Rel]; exact ⟨[], by simp, by simp [Rels]⟩⟩
          | x :: x' :: l', y :: y' :: vs', hrel => exact ⟨_, rfl, by simp only [resOf, Rel]; exact ⟨y :: y' :: vs', by simp, hrel⟩⟩
          | [], _ :: _, hrel => simp [Rels] at hrel
          | [_], [], hrel => simp [Rels] at hrel
          | [_], _ :: _ :: _, hrel => simp [Rels] at hrel
          | _ :: _ :: _, [], hrel => simp [Rels] at hrel
          | _ :: _ :: _, [_], hrel => simp [Rels] at hrel
        obtain ⟨v, hv, hvr⟩ := hresult
        obtain ⟨hol, hos⟩ := outBs_spec ks nb' hnb
        have hidx : ∀ j, (List.range cx.base ++ ks)[cx.base + j]? = ks[j]? := fun j => by
          rw [List.getElem?_append_right (by simp)]; simp
        have hidx0 : ∀ i, i < cx.base → (List.range cx.base ++ ks)[i]? = some i := fun i hi => by
          rw [List.getElem?_append_left (by simpa using hi)]; simp [hi]
        -- where each block of the post comes from
        have src : ∀ j, postB cx.base mb' nb' j = .un ∨ ∃ k, (List.range cx.base ++ ks)[j]? = some k ∧ outK (List.range cx.base ++ ks) (s.fs.bk k) = some (postB cx.base mb' nb' j) := fun j => by
          unfold postB
          split
          · rename_i hj
            cases hm : mb'[j]? with
            | none => exact .inl (by simp [List.getD_eq_getElem?_getD, hm])
            | some y =>
              rw [show mb'.getD j .un = y by simp [List.getD_eq_getElem?_getD, hm]]
              split at hmb
              · simp only [Option.some.injEq] at hmb; subst hmb; simp at hm
              · obtain ⟨_, h2⟩ := outMs_spec _ _ _ hmb
                have := h2 j y hm
                rw [Nat.zero_add] at this
                rcases this with h' | h'
                · exact .inl h'
                · exact .inr ⟨j, hidx0 j hj, h'⟩
          · rename_i hj
            cases hm : nb'[j - cx.base]? with
            | none => exact .inl (by simp [List.getD_eq_getElem?_getD, hm])
            | some y =>
              obtain ⟨k, h1, h2⟩ := hos (j - cx.base) y hm
              rw [show nb'.getD (j - cx.base) .un = y by simp [List.getD_eq_getElem?_getD, hm]]
              refine .inr ⟨k, ?_, h2⟩
              have := hidx (j - cx.base)
              rw [show cx.base + (j - cx.base) = j by omega] at this
              rw [this]; exact h1
        have inj : ∀ i j k, (List.range cx.base ++ ks)[i]? = some k → (List.range cx.base ++ ks)[j]? = some k → i = j := fun i j k h1 h2 => by
          have split : ∀ i, (List.range cx.base ++ ks)[i]? = some k → (i < cx.base ∧ i = k) ∨ (cx.base ≤ i ∧ ks[i - cx.base]? = some k ∧ cx.base ≤ k) := fun i h => by
            by_cases hi : i < cx.base
            · rw [hidx0 i hi] at h; cases h; exact .inl ⟨hi, rfl⟩
            · have := hidx (i - cx.base)
              rw [show cx.base + (i - cx.base) = i by omega] at this
              rw [this] at h
              exact .inr ⟨by omega, h, hc.2 k (List.mem_of_getElem? h)⟩
          rcases split i h1 with ⟨a1, a2⟩ | ⟨a1, a2, a3⟩ <;> rcases split j h2 with ⟨b1, b2⟩ | ⟨b1, b2, b3⟩
          · omega
          · omega
          · omega
          · have := nodupB_spec hc.1 _ _ k a2 b2; omega
        refine ⟨hrep.defs, v, hv, envOf ρ (List.range cx.base ++ ks), v, rfl, fun i hi => ?_, ren_rel _ _ _ hres hvr, hrep.kept, fun j => ?_, fun j => ?_, fun i j b m b' m' hij hi hj e1 e2 => ?_⟩
        · simp only [envOf, hidx0 i hi]
          exact (hrep.old i hi).1
        · rcases src j with h0 | ⟨k, h1, h2⟩
          · rw [h0]; trivial
          · exact (outK_rep h1 h2 (hrep.pl k) (hrep.bk k)).1
        · rcases src j with h0 | ⟨k, h1, h2⟩
          · rw [h0]; trivial
          · exact (outK_rep h1 h2 (hrep.pl k) (hrep.bk k)).2.1
        · have get : ∀ i, (postB cx.base mb' nb' i).own → ∃ k, (List.range cx.base ++ ks)[i]? = some k ∧ (s.fs.bk k).own := fun i hi => by
            rcases src i with h0 | ⟨k, h1, h2⟩
            · rw [h0] at hi; exact hi.elim
            · exact ⟨k, h1, (outK_rep h1 h2 (hrep.pl k) (hrep.bk k)).2.2 hi⟩
          obtain ⟨k1, g1, o1⟩ := get i hi
          obtain ⟨k2, g2, o2⟩ := get j hj
          simp only [envOf, g1] at e1
          simp only [envOf, g2] at e2
          refine hrep.apart k1 k2 b m b' m' (fun e => hij ?_) o1 o2 e1 e2
          subst e
          exact inj i j k1 g1 g2
      · cases h
    · cases h

def isLive : BK → Bool
  | .live _ _ _ => true
  | _ => false

mutual
def below (b : Nat) : SV → Bool
  | .p k _ => decide (k < b)
  | .s k _ _ _ => decide (k < b)
  | .f _ caps => belowL b caps
  | .a l => belowL b l
  | .t l => belowL b l
  | _ => true
def belowL (b : Nat) : List SV → Bool
  | [] => true
  | x :: l => below b x && belowL b l
end

mutual
theorem below_has {b k : Nat} : ∀ {x : SV}, below b x = true → x.has k → k < b
  | .u, _, h => by simp [SV.has] at h
  | .b _, _, h => by simp [SV.has] at h
  | .v _, _, h => by simp [SV.has] at h
  | .p j _, hb, h => by simp [below] at hb; simp [SV.has] at h; omega
  | .s j _ _ _, hb, h => by simp [below] at hb; simp [SV.has] at h; omega
  | .f _ caps, hb, h => by simp only [below] at hb; simp only [SV.has] at h; exact belowL_has hb h
  | .a l, hb, h => by simp only [below] at hb; simp only [SV.has] at h; exact belowL_has hb h
  | .t l, hb, h => by simp only [below] at hb; simp only [SV.has] at h; exact belowL_has hb h
theorem belowL_has {b k : Nat} : ∀ {l : List SV}, belowL b l = true → SV.hasl k l → k < b
  | [], _, h => by simp [SV.hasl] at h
  | x :: l, hb, h => by
    simp only [belowL, Bool.and_eq_true] at hb
    simp only [SV.hasl] at h
    rcases h with h | h
    · exact below_has hb.1 h
    · exact belowL_has hb.2 h
end

def belowB (b : Nat) : BK → Bool
  | .live _ false cells => belowL b cells
  | _ => true

def start (N : Nat) (args : List SV) (bs : List BK) : LS := { sl := args ++ List.replicate (N - args.length) (.v undef), bk := bs }

/-- The state at a function's start. -/
theorem start_rep {N : Nat} {args : List SV} {bs : List BK} {ρ : Env} {W : World} {vs : List Value} (hlen : args.length ≤ N) (hlive : (bs.all isLive && belowL bs.length args && bs.all (belowB bs.length)) = true)
    (hargs : Rels ρ args vs) (hbs : ∀ i, BRep ρ (callCx ρ W bs).mine W i (bs.getD i .un)) (hpl : ∀ i, (bs.getD i .un).pl)
    (hap : ∀ i j b n b' n', i ≠ j → (bs.getD i .un).own → (bs.getD j .un).own → ρ i = some (b, 0, n) → ρ j = some (b', 0, n') → b ≠ b') :
    Rep (callCx ρ W bs) (start N args bs).sl.length [] ρ (start N args bs).fs { tmps := vs.toArray ++ Array.replicate (N - vs.toArray.size) undef, defers := [] } W := by
  simp only [Bool.and_eq_true, List.all_eq_true] at hlive
  obtain ⟨⟨hl1, hl2⟩, hl3⟩ := hlive
  let cx : Cx := callCx ρ W bs
  have hvl := hargs.length
  have hslen : (start N args bs).sl.length = N := by simp [start]; omega
  have hbk : ∀ k, (start N args bs).fs.bk k = bs.getD k .un := fun k => rfl
  have hnun : ∀ k, k < bs.length → (start N args bs).fs.bk k ≠ .un := fun k hk => by
    rw [hbk]
    have := hl1 bs[k] (by simp)
    rw [show bs.getD k .un = bs[k] by simp [List.getD_eq_getElem?_getD, hk]]
    cases hx : bs[k] <;> rw [hx] at this <;> simp [isLive] at this
    simp
  have hrep : Rep cx (start N args bs).sl.length [] ρ (start N args bs).fs { tmps := vs.toArray ++ Array.replicate (N - vs.toArray.size) undef, defers := [] } W := by
    refine { defs := rfl, size := by rw [hslen]; simp; omega, sl := fun t => ?_, bk := fun k => ?_, apart := fun i j b m b' m' hij hi hj => ?_, wf1 := fun t k hk => ?_, wf2 := fun j k hk => ?_, kept := Kept.refl _ _, pl := fun k => (by rw [hbk]; exact hpl k), old := fun i hi => ⟨rfl, hnun i hi⟩ }
    · simp only [start, LS.fs, List.getD_eq_getElem?_getD]
      by_cases ht : t < args.length
      · rw [List.getElem?_append_left ht]
        obtain ⟨y, hy, hr⟩ := Rels.get t hargs (List.getElem?_eq_getElem ht)
        have : ({ tmps := vs.toArray ++ Array.replicate (N - vs.toArray.size) undef, defers := [] } : Act).tmps.getD t undef = y := by
          simp only [Array.getD_eq_getD_getElem?]
          rw [Array.getElem?_append_left (by simpa using (by omega : t < vs.length))]
          simp [hy]
        rw [this]
        simpa [List.getElem?_eq_getElem ht] using hr
      · rw [List.getElem?_append_right (by omega)]
        have : ({ tmps := vs.toArray ++ Array.replicate (N - vs.toArray.size) undef, defers := [] } : Act).tmps.getD t undef = undef := by
          simp only [Array.getD_eq_getD_getElem?]
          rw [Array.getElem?_append_right (by simp; omega)]
          cases hx : (Array.replicate (N - vs.toArray.size) undef)[t - vs.toArray.size]? with
          | none => rfl
          | some x => 
            have := (Array.getElem?_eq_some_iff.1 hx)
            obtain ⟨h1, h2⟩ := this
            simp at h2; simp [← h2]
        rw [this]
        cases hx : (List.replicate (N - args.length) (SV.v undef))[t - args.length]? with
        | none => simp [Rel]
        | some x =>
          have := List.mem_of_getElem? hx
          have := List.eq_of_mem_replicate this
          subst this; simp [Rel]
    · rw [hbk]; exact hbs k
    · rw [hbk] at hi hj
      exact hap i j b m b' m' hij hi hj
    · have : k < bs.length := by
        simp only [start, LS.fs, List.getD_eq_getElem?_getD] at hk
        by_cases ht : t < args.length
        · rw [List.getElem?_append_left ht, List.getElem?_eq_getElem ht] at hk
          exact belowL_has hl2 (hasl_iff.2 ⟨args[t], by simp, hk⟩)
        · rw [List.getElem?_append_right (by omega)] at hk
          cases hx : (List.replicate (N - args.length) (SV.v undef))[t - args.length]? with
          | none => rw [hx] at hk; simp [SV.has] at hk
          | some x =>
            have := List.eq_of_mem_replicate (List.mem_of_getElem? hx)
            subst this; rw [hx] at hk; simp [SV.has] at hk
      exact hnun k this
    · have : k < bs.length := by
        rw [hbk] at hk
        cases hx : bs[j]? with
        | none => simp [List.getD_eq_getElem?_getD, hx, BK.has] at hk
        | some x =>
          rw [show bs.getD j .un = x by simp [List.getD_eq_getElem?_getD, hx]] at hk
          have := hl3 x (List.mem_of_getElem? hx)
          have hp := hpl j
          rw [show bs.getD j .un = x by simp [List.getD_eq_getElem?_getD, hx]] at hp
          cases x <;> simp [BK.has] at hk
          rename_i o sy c
          cases sy with
          | true => exact (hp _ hk).elim
          | false =>
            simp only [belowB] at this
            exact belowL_has this hk
      exact hnun k this
  exact hrep

/-- **A function's contract.** -/
theorem con_of_good {f : Nat} {fn : Func} {c : Code} {args : List SV} {bs : List BK} {res : SV} {nb mb : List BK} (hf : P.funcs[f]? = some fn) (hb : fn.body = some c) (hent : Enters P f)
    (hlen : args.length ≤ fn.ntmps) (hlive : (bs.all isLive && belowL bs.length args && bs.all (belowB bs.length)) = true)
    (h : ∀ cx : Cx, cx.base = bs.length → Good P none n (bodyPost P fn (RR cx res nb mb)) cx [] [.c c] (start fn.ntmps args bs)) : Con P f args bs res nb mb := by
  refine ⟨hent, fun ρ W vs hargs hbs hpl hap => ?_⟩
  let cx : Cx := callCx ρ W bs
  refine (calls_of_wp (R := RR cx res nb mb) hf hb ?_)
  have hrep := start_rep hlen hlive hargs hbs hpl hap
  have := h cx rfl ρ _ W hrep
  simp only [cont] at this
  exact (wpIn_wide (n := n)).1 this

end
end Go.Aw
