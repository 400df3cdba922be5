/-
  A symbolic executor for the model's code, part E: the operations' effects are right. Generic in the program. No premise.
-/
import Derived.Test.YtopbnnmkdildgaaAwD
namespace Go.Aw
open Go.RowKit
set_option linter.unusedVariables false
set_option linter.unusedSimpArgs false

/-- What a contract says of block j behind the call: of one that was handed over (.un: nothing has changed), of a new one. -/
def postB (n : Nat) (mb nb : List BK) (j : Nat) : BK := if j < n then mb.getD j .un else nb.getD (j - n) .un

/-- Where the blocks lie that were handed over to be written. -/
def ownOf (ρ : Env) (bs : List BK) (b : Nat) : Prop := ∃ i n, (bs.getD i .un).own ∧ ρ i = some (b, 0, n)

def callCx (ρ : Env) (W : World) (bs : List BK) : Cx := { w := W, base := bs.length, ρ := ρ, own := ownOf ρ bs }

/-- What a contract says of the world behind the call. -/
def RR (cx : Cx) (res : SV) (nb : List BK) (mb : List BK) (e : Ending) (W' : World) : Prop :=
  ∃ (ρ' : Env) (v : Value), e = .returned v ∧ (∀ i, i < cx.base → ρ' i = cx.ρ i) ∧ Rel ρ' res v ∧ Kept cx.w cx.own W' ∧
    (∀ j, BRep ρ' cx.mine W' j (postB cx.base mb nb j)) ∧ (∀ j, (postB cx.base mb nb j).pl) ∧
    (∀ i j b n b' n', i ≠ j → (postB cx.base mb nb i).own → (postB cx.base mb nb j).own → ρ' i = some (b, 0, n) → ρ' j = some (b', 0, n') → b ≠ b')

/-- A call of function f: given arguments, and the blocks that they name (those marked own may be written), it returns the result, and new blocks; of what was there nothing has changed but the blocks marked own. -/
def SymCall (P : Program) (f : Nat) (args : List SV) (bs : List BK) (res : SV) (nb : List BK) (mb : List BK) : Prop :=
  ∀ (ρ : Env) (W : World) (vs : List Value), Rels ρ args vs → (∀ i, BRep ρ (callCx ρ W bs).mine W i (bs.getD i .un)) → (∀ i, (bs.getD i .un).pl) →
    (∀ i j b n b' n', i ≠ j → (bs.getD i .un).own → (bs.getD j .un).own → ρ i = some (b, 0, n) → ρ j = some (b', 0, n') → b ≠ b') →
    Calls P f vs.toArray W (RR (callCx ρ W bs) res nb mb)

/-- A program in which calling a function with Go text enters it. -/
def Enters (P : Program) (g : Nat) : Prop := ∀ (args : Array Value) (w : World), (callFunc g args).run P w = .ok (.enter g args) w

def Con (P : Program) (f : Nat) (args : List SV) (bs : List BK) (res : SV) (nb : List BK) (mb : List BK := []) : Prop := Enters P f ∧ SymCall P f args bs res nb mb

def Ob.Holds (P : Program) : Ob → Prop
  | .eq b c => b = c
  | .pr p => p
  | .call f args bs res nb mb => Con P f args bs res nb mb

def Obs (P : Program) : List Ob → Prop
  | [] => True
  | x :: l => x.Holds P ∧ Obs P l

theorem Obs.append {P : Program} : ∀ {l m : List Ob}, Obs P (l ++ m) → Obs P l ∧ Obs P m
  | [], _, h => ⟨trivial, h⟩
  | _ :: _, _, h => ⟨⟨h.1, (Obs.append h.2).1⟩, (Obs.append h.2).2⟩

section
variable {P : Program} {T : Nat → Option TI} {w0 : Cx} {N : Nat} {D : List Deferred} {ρ : Env} {s : FS} {a : Act} {W : World}

/-- What is shown of an operation. -/
def Does (P : Program) (w0 : Cx) (N : Nat) (D : List Deferred) (s : FS) (a : Act) (W : World) (o : Oper) (e : Eff) : Prop :=
  ∃ nx v W' ρ', (execOp a.eval o).run P W = .ok nx W' ∧ (nx = .value v ∨ (nx = .skip ∧ v = undef)) ∧ Rep w0 N D ρ' (s.app o.dst e) (a.put o.dst v) W'

theorem app_split (s : FS) (dst : Option Nat) (e : Eff) : s.app dst e = (s.app none { val := .u, ups := e.ups }).app dst { val := e.val } := by
  cases dst <;> rfl

theorem Does.value {o : Oper} {x : SV} {y : Value} (h : Rep w0 N D ρ s a W) (hd : ∀ d, o.dst = some d → d < N) (hr : (execOp a.eval o).run P W = .ok (.value y) W) (hx : Rel ρ x y) (hw : ∀ k, x.has k → s.bk k ≠ .un) :
    Does P w0 N D s a W o { val := x } :=
  ⟨_, y, W, ρ, hr, .inl rfl, h.put o.dst hd hx hw⟩

theorem Does.new {o : Oper} {x : SV} {y : Value} {fr : Nat} {cells : List SV} {vs rest : List Value} {ty : TypeId} (h : Rep w0 N D ρ s a W) (hd : ∀ d, o.dst = some d → d < N) (hfr : s.bk fr = .un)
    (hr : (execOp a.eval o).run P W = .ok (.value y) { W with heap := W.heap.push (.cells (vs ++ rest).toArray ty) })
    (hc : Rels ρ cells vs) (hw : ∀ j, SV.hasl j cells → s.bk j ≠ .un)
    (hx : Rel (fun j => if j = fr then some (W.heap.size, 0, (vs ++ rest).length) else ρ j) x y) (hwx : ∀ k, x.has k → k = fr) :
    Does P w0 N D s a W o { val := x, ups := [(fr, .live true false cells)] } := by
  have hn := h.new hfr false ty hc hw trivial (rest := rest)
  refine ⟨_, y, _, (fun j => if j = fr then some (W.heap.size, 0, (vs ++ rest).length) else ρ j), hr, .inl rfl, ?_⟩
  rw [app_split]
  refine hn.put o.dst hd hx (fun k hk => ?_)
  rw [hwx k hk]
  simp [FS.app, upds]

theorem mkV_rel {agg : Bool} {l : List SV} {m : List Value} {x : SV} (h : mkV agg l = some x) (hr : Rels ρ l m) : Rel ρ x (if agg = true then .agg m.toArray else m.headD undef) := by
  cases agg with
  | true => simp only [mkV, Option.some.injEq] at h; subst h; simp only [if_true, Rel]; exact ⟨m, rfl, hr⟩
  | false =>
    match l, m, h, hr with
    | [x'], [y], h, hr =>
      simp only [mkV, Option.some.injEq] at h; subst h
      simp only [Rels] at hr
      simpa using hr.1
    | [], _, h, _ => simp [mkV] at h
    | [_], [], _, hr => simp [Rels] at hr
    | [_], _ :: _ :: _, _, hr => simp [Rels] at hr
    | _ :: _ :: _, _, h, _ => simp [mkV] at h

theorem mkV_has {agg : Bool} {l : List SV} {x : SV} {k : Nat} (h : mkV agg l = some x) (hk : x.has k) : SV.hasl k l := by
  cases agg with
  | true => simp only [mkV, Option.some.injEq] at h; subst h; simpa [SV.has] using hk
  | false =>
    match l, h with
    | [x'], h => simp only [mkV, Option.some.injEq] at h; subst h; simp [SV.hasl, hk]
    | [], h => simp [mkV] at h
    | _ :: _ :: _, h => simp [mkV] at h

theorem run_loadVar {t b o : Nat} {n : TypeInfo} {d : TypeDesc} (hi : P.info? t = some n) (hu : P.underlying t = some d) {vs : List Value} (hl : vs.length = n.size)
    (hone : isAggD d = false → vs ≠ [])
    (h : ∀ (j : Nat) (x : Value), vs[j]? = some x → W.cell? ⟨b, o + j, none⟩ = some x) :
    (loadVar t ⟨b, o, none⟩).run P W = .ok (if isAggD d = true then .agg vs.toArray else vs.headD undef) W := by
  simp only [loadVar, Sem.run_bind, run_isAgg' hu, Result.andThen_ok]
  cases hd : isAggD d with
  | true =>
    simp only [if_true, Sem.run_bind, run_sizeOf' hi, Result.andThen_ok, loadCells]
    rw [← hl, run_loadCells vs 0 #[] (fun j x hx => by simpa using h j x hx)]
    simp
  | false =>
    match vs, hone hd with
    | y :: rest, _ =>
      have := h 0 y (by simp)
      simp only [Nat.add_zero] at this
      simp [this]
    | [], hne => exact (hne rfl).elim

theorem hasl_take {k n : Nat} {l : List SV} (h : SV.hasl k (l.take n)) : SV.hasl k l := by
  rw [hasl_iff] at h ⊢
  obtain ⟨x, hx, hk⟩ := h
  exact ⟨x, List.mem_of_mem_take hx, hk⟩

theorem hasl_drop {k n : Nat} {l : List SV} (h : SV.hasl k (l.drop n)) : SV.hasl k l := by
  rw [hasl_iff] at h ⊢
  obtain ⟨x, hx, hk⟩ := h
  exact ⟨x, List.mem_of_mem_drop hx, hk⟩

theorem hasl_append {k : Nat} {l m : List SV} (h : SV.hasl k (l ++ m)) : SV.hasl k l ∨ SV.hasl k m := by
  rw [hasl_iff] at h
  obtain ⟨x, hx, hk⟩ := h
  rcases List.mem_append.1 hx with hx | hx
  · exact .inl (hasl_iff.2 ⟨x, hx, hk⟩)
  · exact .inr (hasl_iff.2 ⟨x, hx, hk⟩)

theorem hasl_splice {k off : Nat} {l m : List SV} (h : SV.hasl k (splice l off m)) : SV.hasl k l ∨ SV.hasl k m := by
  unfold splice at h
  rcases hasl_append h with h | h
  · rcases hasl_append h with h | h
    · exact .inl (hasl_take h)
    · exact .inr h
  · exact .inl (hasl_drop h)

theorem hasl_vals {k : Nat} {l : List Value} : ¬ SV.hasl k (l.map .v) := by
  rw [hasl_iff]
  rintro ⟨x, hx, hk⟩
  obtain ⟨q, _, rfl⟩ := List.mem_map.1 hx
  exact has_val hk

/-- A load. -/
theorem does_load (hrep : Rep w0 N D ρ s a W) {o : Oper} {t : TypeId} {x : Operand} (hop : o.op = .load t x) (hd : ∀ d, o.dst = some d → d < N) {k off : Nat} (hx : ev s.sl x = .p k off)
    {own sym : Bool} {cells r : List SV} (hb : s.bk k = .live own sym cells) {i : TI} (hc : conv P t = some i) (hr : (cells.drop off).take i.size = r) (hl : r.length = i.size) {v : SV} (hv : mkV i.agg r = some v) :
    Does P w0 N D s a W o { val := v } := by
  obtain ⟨n, d, z, h1, h2, h3, rfl⟩ := conv_spec hc
  have hxr := ev_rel hrep x
  rw [hx] at hxr
  simp only [Rel] at hxr
  obtain ⟨b, o', m, hρ, hy⟩ := hxr
  have hbk := hrep.bk k
  rw [hb] at hbk
  rcases hbk.read with ⟨he, _⟩ | ⟨b', o'', m', vs, e1, ⟨e2, _⟩, _, e4⟩
  · rw [hρ] at he; cases he
  rw [hρ] at e1; cases e1
  have hrr : Rels ρ r ((vs.drop off).take n.size) := by rw [← hr]; exact Rels.take _ (Rels.drop _ e2)
  have hlen := hrr.length
  refine Does.value hrep hd (y := if isAggD d = true then .agg ((vs.drop off).take n.size).toArray else ((vs.drop off).take n.size).headD undef) ?_ (mkV_rel hv hrr) (fun j hj => ?_)
  · simp only [execOp, hop, hy]
    simp only [Instr.loadAt, Instr.sureAddr, Sem.run_bind, Sem.run_pure, Result.andThen_ok]
    rw [run_loadVar h1 h2 (vs := (vs.drop off).take n.size) (by rw [← hlen]; exact hl) (fun hag hne => ?_) (fun j y hjy => ?_)]
    · simp
    · simp only at hv
      rw [hag] at hv
      rw [hne] at hlen
      have : r = [] := List.length_eq_zero_iff.1 (by simpa using hlen)
      rw [this] at hv; simp [mkV] at hv
    · have hj := (List.getElem?_eq_some_iff.1 hjy).1
      rw [List.getElem?_take_of_lt (by simp at hj; omega), List.getElem?_drop] at hjy
      have := e4 (off + j) y hjy
      rw [show o' + off + j = o' + (off + j) by omega]; exact this
  · have := mkV_has hv hj
    rw [← hr] at this
    exact hrep.wf2 k j (by rw [hb]; exact hasl_drop (hasl_take this))

/-- A store. -/
theorem does_store (hrep : Rep w0 N D ρ s a W) {o : Oper} {t : TypeId} {x y : Operand} (hop : o.op = .store t x y) (hd : ∀ d, o.dst = some d → d < N) {k off : Nat} (hx : ev s.sl x = .p k off)
    {sym : Bool} {cells : List SV} (hb : s.bk k = .live true sym cells) {i : TI} (hc : conv P t = some i) {v : SV} (hv : ev s.sl y = v) (hk : v.known = true) (hl : v.cells.length = i.size)
    (hone : v.cells.all SV.one = true) (hbd : off + i.size ≤ cells.length) (hpl : (BK.live true sym (splice cells off v.cells)).pl) :
    Does P w0 N D s a W o { val := .v undef, ups := [(k, .live true sym (splice cells off v.cells))] } := by
  obtain ⟨n, d, z, h1, h2, h3, rfl⟩ := conv_spec hc
  have hxr := ev_rel hrep x
  rw [hx] at hxr
  simp only [Rel] at hxr
  obtain ⟨b, o', m, hρ, hy⟩ := hxr
  have hyr := ev_rel hrep y
  rw [hv] at hyr
  have hcr := Rel.cells hyr hk
  have hbk := hrep.bk k
  rw [hb] at hbk
  rcases hbk with ⟨he, _⟩ | ⟨b', vs, rest, ty, e1, e2, e3, e4⟩
  · rw [hρ] at he; cases he
  rw [hρ] at e1
  simp only [Option.some.injEq, Prod.mk.injEq] at e1
  obtain ⟨rfl, rfl, rfl⟩ := e1
  have hlen := e3.length
  have hlc := hcr.length
  simp only at hl hbd
  obtain ⟨W', hrun, ht⟩ := run_storeCells (P := P) (b := b) (o := 0 + off) (ty := ty) (a.eval y).cells.toList 0 W (vs ++ rest) e4 (Rels.ones hcr hone) (by simp only [List.length_append]; omega)
  have hspl : splice (vs ++ rest) (0 + off + 0) (a.eval y).cells.toList = splice vs off (a.eval y).cells.toList ++ rest := by
    rw [show 0 + off + 0 = off by omega]; exact splice_append (by omega)
  rw [hspl] at ht
  have hlen2 : (splice vs off (a.eval y).cells.toList ++ rest).length = (vs ++ rest).length := by
    simp only [List.length_append]; rw [splice_length (by omega)]
  have hrep' := hrep.turn (k := k) (vs' := splice vs off (a.eval y).cells.toList) (rest := rest) hb (by rw [hlen2]; exact hρ) e2 (Rels.splice off e3 hcr)
    (fun j hj => by
      rcases hasl_splice hj with hj | hj
      · exact hrep.wf2 k j (by rw [hb]; exact hj)
      · exact ev_wf hrep y j (by rw [hv]; exact has_cells hj)) hpl ht
  refine ⟨.skip, undef, W', ρ, ?_, .inr ⟨rfl, rfl⟩, ?_⟩
  · simp only [execOp, hop, hy]
    simp only [Instr.storeAt, Instr.sureAddr, Sem.run_bind, Sem.run_pure, Result.andThen_ok, storeVar, run_sizeOf' h1]
    have hsz : (a.eval y).cells.size = n.size := by rw [← hl, hlc]; simp
    simp only [hsz, ne_eq, not_true_eq_false, if_false, Sem.run_pure, Result.andThen_ok]
    rw [hrun]
    simp
  · rw [app_split]
    exact hrep'.put o.dst hd (by simp [Rel]) (fun k hk => (has_val hk).elim)

theorem run_newRow (t : TypeId) (cells : Array Value) : (newRow t cells).run P W = .ok ⟨W.heap.size, 0, none⟩ { W with heap := W.heap.push (.cells cells t) } := by
  simp [newRow]

theorem does_alloc (hrep : Rep w0 N D ρ s a W) {o : Oper} {t : TypeId} (hop : o.op = .alloc t) (hd : ∀ d, o.dst = some d → d < N) {i : TI} (hc : conv P t = some i) {fr : Nat} (hfr : s.bk fr = .un) :
    Does P w0 N D s a W o { val := .p fr 0, ups := [(fr, .live true false (i.zero.map .v))] } := by
  obtain ⟨n, d, z, h1, h2, h3, rfl⟩ := conv_spec hc
  refine Does.new (vs := z.cells.toList) (rest := []) (ty := t) (y := .pointer (some ⟨W.heap.size, 0, none⟩)) hrep hd hfr ?_ (Rels.vals _) (fun j hj => (hasl_vals hj).elim) ?_ (by simp [SV.has])
  · simp only [execOp, hop, Instr.alloc, Sem.run_bind, run_zeroValue' h1 h3, Result.andThen_ok]
    simp [newVar, run_newRow]
  · simp [Rel]

theorem does_box (hrep : Rep w0 N D ρ s a W) {o : Oper} {t : TypeId} {x : Operand} (hop : o.op = .box t x) (hd : ∀ d, o.dst = some d → d < N) {v : SV} (hv : ev s.sl x = v) (hk : v.known = true) {fr : Nat} (hfr : s.bk fr = .un) :
    Does P w0 N D s a W o { val := .p fr 0, ups := [(fr, .live true false v.cells)] } := by
  have hxr := ev_rel hrep x
  rw [hv] at hxr
  refine Does.new (vs := (a.eval x).cells.toList) (rest := []) (ty := t) (y := .pointer (some ⟨W.heap.size, 0, none⟩)) hrep hd hfr ?_ (Rel.cells hxr hk)
    (fun j hj => ev_wf hrep x j (by rw [hv]; exact has_cells hj)) ?_ (by simp [SV.has])
  · simp only [execOp, hop, Instr.box, Sem.run_bind]
    simp [newVar, run_newRow]
  · simp [Rel]

end
end Go.Aw
