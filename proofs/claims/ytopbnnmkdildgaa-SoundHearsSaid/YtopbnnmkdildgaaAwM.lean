/-
  A symbolic executor for the model's code, part M: whole regions. Generic in the program. No premise.
-/
import Derived.Test.YtopbnnmkdildgaaAwL
namespace Go.Aw
open Go.RowKit
set_option linter.unusedVariables false
set_option linter.unusedSimpArgs false

def tmpsOf (l : List Operand) : List Nat := l.filterMap fun | .tmp t => some t | _ => none

def gslot (ops : Array Oper) (o : Oper) : List Nat :=
  match o.guard with
  | none => []
  | some (j, _) => (dstOf ops j).toList

def wantS (ops : Array Oper) (sl : Nat → SV) (o : Oper) : Option Bool :=
  match o.guard with
  | none => some true
  | some (j, w) => match dstOf ops j with
    | none => none
    | some g => match sl g with
      | .b d => some (d == w)
      | .v (.tuple vs) => match vs.toList with
        | [] => some false
        | _ => none
      | _ => none

def opEff (T : Nat → Option TI) (o : Oper) (s : LS) (orc : List Or) : Option (Eff × List Ob × List Or × List Nat) :=
  match o.op with
  | .call { callee := .value _, args := _, argTypes := _ } => symCall (o.op.operands.toList.map (ev s.fs.sl)) s.fs.bk s.bk.length orc
  | .defer _ => none
  | op => match symOp T op (op.operands.toList.map (ev s.fs.sl)) ((opBlk op (op.operands.toList.map (ev s.fs.sl))).map s.fs.bk) s.bk.length orc with
    | some (e, obs, orc) => some (e, obs, orc, opBlk op (op.operands.toList.map (ev s.fs.sl)))
    | none => none

def evOp (T : Nat → Option TI) (ops : Array Oper) (isG : Bool) (o : Oper) (s : LS) (orc : List Or) : Option (Ev × List Ob × List Or) :=
  match wantS ops s.fs.sl o with
  | none => none
  | some false => some ({ eff := { val := .v undef }, rs := gslot ops o, rb := [] }, [], orc)
  | some true =>
    match opEff T o s orc with
    | none => none
    | some (e, obs, orc, rb) =>
      match isG, e.val with
      | true, .v (.bool c) =>
        match orc with
        | .d d :: orc => some ({ eff := { val := .b d, ups := e.ups }, rs := gslot ops o ++ tmpsOf o.op.operands.toList, rb := rb ++ e.ups.map (·.1) }, obs ++ [.eq c d], orc)
        | _ => none
      | _, _ => some ({ eff := e, rs := gslot ops o ++ tmpsOf o.op.operands.toList, rb := rb ++ e.ups.map (·.1) }, obs, orc)

def isGuard (ops : Array Oper) (i : Nat) : Bool := ops.toList.any fun o => match o.guard with
  | some (j, _) => j == i
  | none => false

def evOps (T : Nat → Option TI) (ops : Array Oper) : List Oper → Nat → LS → List Or → Option (List Ev × LS × List Ob × List Or)
  | [], _, s, orc => some ([], s, [], orc)
  | o :: l, i, s, orc =>
    match evOp T ops (isGuard ops i) o s orc with
    | none => none
    | some (v, obs, orc) =>
      match s.app o.dst v.eff with
      | none => none
      | some s' =>
        match evOps T ops l (i + 1) s' orc with
        | none => none
        | some (vs, s'', obs', orc) => some (v :: vs, s'', obs ++ obs', orc)

/-! ### No operation disturbs another -/
def anyEdges (o : Oper) : List Nat := (o.after.toList.filter fun e => Region.binds .any e).map (·.on)

def clos : List Oper → List Nat → List Nat
  | [], acc => acc
  | o :: l, acc => clos l (acc ++ [(anyEdges o).foldl (fun m e => m ||| (2 ^ e ||| acc.getD e 0)) 0])

def wrC (dst : Option Nat) (v : Ev) : List Nat := (dst.map (2 * ·)).toList ++ v.eff.ups.map (fun u => 2 * u.1 + 1)
def rdC (v : Ev) : List Nat := v.rs.map (2 * ·) ++ v.rb.map (2 * · + 1)

def disj (l m : List Nat) : Bool := l.all fun x => !m.contains x

def raceOK (ops : Array Oper) (evs : List Ev) : Bool :=
  let cl := clos ops.toList []
  let ws := (ops.toList.zip evs).map fun (o, v) => wrC o.dst v
  let rs := evs.map rdC
  (List.range evs.length).all fun i =>
    ((ops.toList[i]?).map fun o => (anyEdges o).all fun e => decide (e < i)).getD true &&
    (List.range i).all fun j => (cl.getD i 0).testBit j ||
      (disj (ws.getD j []) (ws.getD i []) && disj (ws.getD j []) (rs.getD i []) && disj (ws.getD i []) (rs.getD j []))

section
variable {P : Program} {T : Nat → Option TI} {w0 : Cx} {N : Nat} {D : List Deferred} {ρ : Env} {a : Act} {W : World} {r : Option Nat} {n : Nat} {ops : Array Oper}

theorem wantS_ok {s : FS} (hrep : Rep w0 N D ρ s a W) {o : Oper} {b : Bool} (h : wantS ops s.sl o = some b) : Region.wanted o (yielded ops a.tmps) = b := by
  unfold wantS at h
  unfold Region.wanted
  split at h
  · rename_i hg; rw [hg]; simpa using h
  · rename_i j w hg
    rw [hg]
    simp only
    split at h
    · cases h
    · rename_i g hd
      have hr := hrep.sl g
      have hy : yielded ops a.tmps j = match a.tmps[g]? with
          | some (.bool b) => some b
          | _ => none := by
        unfold yielded
        have : (ops[j]?).bind (·.dst) = some g := hd
        rw [this]; rfl
      split at h
      · rename_i d hs
        rw [hs] at hr
        simp only [Rel] at hr
        have : a.tmps[g]? = some (.bool d) := by
          rw [Array.getD_eq_getD_getElem?] at hr
          cases hx : a.tmps[g]? with
          | none => rw [hx] at hr; simp [undef] at hr
          | some x => rw [hx] at hr; simp at hr; rw [hr]
        rw [hy, this]
        simpa using h
      · rename_i vs hs
        rw [hs] at hr
        simp only [Rel] at hr
        split at h
        · simp only [Option.some.injEq] at h
          subst h
          have : yielded ops a.tmps j = none := by
            rw [hy]
            rw [Array.getD_eq_getD_getElem?] at hr
            cases hx : a.tmps[g]? with
            | none => rfl
            | some x => rw [hx] at hr; simp at hr; rw [hr]
          rw [this]; simp
        · cases h
      · cases h

theorem ev_congr {s s' : Nat → SV} (x : Operand) (h : ∀ t, x = .tmp t → s' t = s t) : ev s' x = ev s x := by
  cases x with
  | tmp t => exact h t rfl
  | const v => cases v <;> rfl
  | global g => rfl
  | func f => rfl

theorem evs_congr {s s' : Nat → SV} {l : List Operand} (h : ∀ t ∈ tmpsOf l, s' t = s t) : l.map (ev s') = l.map (ev s) := by
  refine List.map_congr_left fun x hx => ev_congr x fun t ht => h t ?_
  subst ht
  exact List.mem_filterMap.2 ⟨.tmp t, hx, rfl⟩

theorem renBs_congr {ks : List Nat} {bk bk' : Nat → BK} : ∀ (l : List Nat) (mb : List BK), (∀ k ∈ l, bk' k = bk k) → renBs ks bk' l mb = renBs ks bk l mb
  | [], _, _ => rfl
  | k :: l, mb, h => by simp only [renBs, h k (by simp), renBs_congr l mb.tail (fun j hj => h j (by simp [hj]))]

theorem symCall_congr {xs : List SV} {bk bk' : Nat → BK} {fr : Nat} {orc : List Or} {e : Eff} {obs : List Ob} {orc' : List Or} {ks : List Nat} (h : symCall xs bk fr orc = some (e, obs, orc', ks)) (hk : ∀ k ∈ ks, bk' k = bk k) :
    symCall xs bk' fr orc = some (e, obs, orc', ks) := by
  unfold symCall at h ⊢
  split at h
  · split at h
    · rename_i g caps hg
      split at h
      · rename_i args' bs res' upm upn h1 h2 h3 h4 h5
        split at h
        · rename_i hnd
          simp only [Option.some.injEq, Prod.mk.injEq] at h
          obtain ⟨rfl, rfl, rfl, rfl⟩ := h
          rw [renBs_congr _ _ hk]
          simp only [hg, h1, h2, h3, h4, h5, hnd, if_true]
        · cases h
      · cases h
    · cases h
  · cases h

theorem getD_len {l : List BK} {k : Nat} (h : l.length ≤ k) : l.getD k .un = .un := by
  simp [List.getD_eq_getElem?_getD, List.getElem?_eq_none h]

theorem wpIn_of_does {o : Oper} {s : FS} {e : Eff} (hd : Does P w0 N D s a W o e) (hnd : ∀ c, o.op ≠ .defer c) {Q : Exit → Act → World → Prop} {K : Act → World → Prop}
    (hK : ∀ ρ' a' W', Rep w0 N D ρ' (s.app o.dst e) a' W' → K a' W') : o.wpIn (Fw r) n P a W K Q := by
  obtain ⟨nx, v, W', ρ', hrun, hnx, hrep⟩ := hd
  refine ⟨fun _ _ => trivial, ?_⟩
  rw [Oper.semAt_eq _ _ _ hnd, hrun]
  rcases hnx with rfl | ⟨rfl, rfl⟩
  · exact hK ρ' _ _ hrep
  · exact hK ρ' _ _ hrep

theorem opEff_ok (hT : TOk P T) {o : Oper} {s : LS} {orc orc' : List Or} {e : Eff} {obs : List Ob} {rb : List Nat} (h : opEff T o s orc = some (e, obs, orc', rb)) (hob : Obs P obs)
    {s' : FS} (hs : ∀ t ∈ tmpsOf o.op.operands.toList, s'.sl t = s.fs.sl t) (hb : ∀ k ∈ rb ++ e.ups.map (·.1), s'.bk k = s.fs.bk k)
    (hrep : Rep w0 N D ρ s' a W) (hd : ∀ d, o.dst = some d → d < N) {Q : Exit → Act → World → Prop} {K : Act → World → Prop}
    (hK : ∀ ρ' a' W', Rep w0 N D ρ' (s'.app o.dst e) a' W' → K a' W') : o.wpIn (Fw r) n P a W K Q := by
  have hxs := evs_congr hs
  have hun : ∀ u ∈ e.ups, u.1 = s.bk.length → s'.bk s.bk.length = .un := fun u hu hx => by
    rw [← hx, hb u.1 (List.mem_append_right _ (List.mem_map_of_mem hu)), hx]; exact getD_len (Nat.le_refl _)
  unfold opEff at h
  split at h
  · rename_i f args ts hop
    have hc := symCall_congr (bk' := s'.bk) h (fun k hk => hb k (by simp [hk]))
    rw [← hxs] at hc
    refine call_ok hop hc hob hrep (fun u hu hle => ?_) hd hK
    rw [hb u.1 (List.mem_append_right _ (List.mem_map_of_mem hu))]
    exact getD_len hle
  · cases h
  · rename_i hn1 hn2
    split at h
    · rename_i e' obs' orc'' hs'
      simp only [Option.some.injEq, Prod.mk.injEq] at h
      obtain ⟨rfl, rfl, rfl, rfl⟩ := h
      rw [← hxs] at hs'
      have hs'' : symOp T o.op (o.op.operands.toList.map (ev s'.sl)) ((opBlk o.op (o.op.operands.toList.map (ev s'.sl))).map s'.bk) s.bk.length orc = some (e', obs', orc'') := by
        rw [show (opBlk o.op (o.op.operands.toList.map (ev s'.sl))).map s'.bk = (opBlk o.op (o.op.operands.toList.map (ev s'.sl))).map s.fs.bk from
          List.map_congr_left fun k hk => hb k (by rw [hxs] at hk; simp [hk])]
        exact hs'
      exact wpIn_of_does (symOp_ok hT hs'' hob hrep rfl rfl hun hd) (fun c hc => hn2 c hc) hK
    · cases h

theorem Rep.decide {s : FS} {dst : Option Nat} {c d : Bool} {ups : List (Nat × BK)} (h : Rep w0 N D ρ (s.app dst { val := .v (.bool c), ups := ups }) a W) (hcd : c = d) : Rep w0 N D ρ (s.app dst { val := .b d, ups := ups }) a W := by
  subst hcd
  cases dst with
  | none => exact h
  | some t =>
    refine { h with sl := fun u => ?_, wf1 := fun u k hk => ?_ }
    · have := h.sl u
      simp only [FS.app] at this ⊢
      split
      · rename_i hu; rw [if_pos hu] at this; simpa [Rel] using this
      · rename_i hu; rw [if_neg hu] at this; exact this
    · have := h.wf1 u k
      simp only [FS.app] at this hk ⊢
      split at hk
      · simp [SV.has] at hk
      · rename_i hu; rw [if_neg hu] at this; exact this hk

theorem evOp_ok (hT : TOk P T) {isG : Bool} {o : Oper} {s : LS} {orc orc' : List Or} {v : Ev} {obs : List Ob} (h : evOp T ops isG o s orc = some (v, obs, orc')) (hob : Obs P obs)
    {i : Nat} (hi : ops[i]? = some o) (hd : ∀ d, o.dst = some d → d < N) : LocalOK P r n w0 N D ops i s.fs v := by
  intro s' hs hb ρ a W Q K hrep hK
  unfold wpOpIn
  rw [hi]
  have hdst : dstOf ops i = o.dst := by simp [dstOf, hi]
  rw [hdst] at hK
  simp only
  unfold evOp at h
  have hwant : ∀ b, wantS ops s.fs.sl o = some b → (∀ t ∈ gslot ops o, s'.sl t = s.fs.sl t) → wantS ops s'.sl o = some b := fun b hb hg => by
    unfold wantS at hb ⊢
    split at hb
    · exact hb
    · rename_i j w hgd
      split at hb
      · cases hb
      · rename_i g hdj
        rw [hg g (by simp [gslot, hgd, hdj])]
        exact hb
  split at h
  · cases h
  · rename_i hw
    simp only [Option.some.injEq, Prod.mk.injEq] at h
    obtain ⟨rfl, _, _⟩ := h
    have := wantS_ok hrep (hwant _ hw (fun t ht => hs t ht))
    simp only [this, Bool.false_eq_true, if_false]
    refine ⟨fun _ _ => trivial, hK ρ _ _ ?_⟩
    exact hrep.put o.dst hd (by simp [Rel]) (fun k hk => (has_val hk).elim)
  · rename_i hw
    split at h
    · cases h
    · rename_i e obs' orc2 rb he
      split at h
      · rename_i c hval
        split at h
        · rename_i d orc3
          simp only [Option.some.injEq, Prod.mk.injEq] at h
          obtain ⟨rfl, rfl, _⟩ := h
          obtain ⟨ho1, ho2⟩ := Obs.append hob
          simp only [Obs, Ob.Holds, and_true] at ho2
          have := wantS_ok hrep (hwant _ hw (fun t ht => hs t (by simp [ht])))
          simp only [this, if_true]
          refine opEff_ok hT he ho1 (fun t ht => hs t (by simp [ht])) hb hrep hd (fun ρ' a' W' h' => hK ρ' a' W' ?_)
          obtain ⟨ev, eu⟩ := e
          simp only at hval
          subst hval
          exact h'.decide ho2
        · cases h
      · simp only [Option.some.injEq, Prod.mk.injEq] at h
        obtain ⟨rfl, rfl, _⟩ := h
        have := wantS_ok hrep (hwant _ hw (fun t ht => hs t (by simp [ht])))
        simp only [this, if_true]
        exact opEff_ok hT he hob (fun t ht => hs t (by simp [ht])) hb hrep hd hK

end
end Go.Aw
