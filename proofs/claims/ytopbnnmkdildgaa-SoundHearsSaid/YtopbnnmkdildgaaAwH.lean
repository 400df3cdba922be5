/-
  A symbolic executor for the model's code, part H: the theorem over all operations that call no function. Generic in the program. No premise.
-/
import Derived.Test.YtopbnnmkdildgaaAwG
namespace Go.Aw
open Go.RowKit
set_option linter.unusedVariables false
set_option linter.unusedSimpArgs false

section
variable {P : Program} {T : Nat → Option TI} {w0 : Cx} {N : Nat} {D : List Deferred} {ρ : Env} {s : FS} {a : Act} {W : World}

theorem binV_run {op : BinOp} {t : TypeId} {k k' : IntKind} {p q : Int} {r : SV} {obs : List Ob} (h : binV op k p q = some (r, obs)) (hk : op ≠ .shl → op ≠ .shr → k = k') (hob : Obs P obs) :
    ∃ v, r = .v v ∧ (binOp op t (.int k p) (.int k' q)).run P W = .ok v W := by
  cases op <;> simp only [binV] at h <;> first
    | (cases h; done)
    | (simp only [Option.some.injEq, Prod.mk.injEq] at h
       obtain ⟨rfl, rfl⟩ := h
       obtain rfl := hk (by simp) (by simp)
       simp only [Obs, Ob.Holds, and_true] at hob
       refine ⟨_, rfl, ?_⟩
       simp [binOp, Op.intArith, Op.intDiv, Op.intCmp, Op.intBits, Op.shift, hob]
       done)
    | (simp only [Option.some.injEq, Prod.mk.injEq] at h
       obtain ⟨rfl, rfl⟩ := h
       simp only [Obs, Ob.Holds, and_true] at hob
       refine ⟨_, rfl, ?_⟩
       have : ¬ q < 0 := by omega
       simp [binOp, Op.shift, this])

theorem does_binV (hrep : Rep w0 N D ρ s a W) {o : Oper} {op : BinOp} {t ty : TypeId} {x y : Operand} (hop : o.op = .binOp op t x y ty) (hd : ∀ d, o.dst = some d → d < N) {k k' : IntKind} {p q : Int}
    (hx : ev s.sl x = .v (.int k p)) (hy : ev s.sl y = .v (.int k' q)) {r : SV} {obs : List Ob} (h : binV op k p q = some (r, obs)) (hk : op ≠ .shl → op ≠ .shr → k = k') (hob : Obs P obs) :
    Does P w0 N D s a W o { val := r } := by
  have hxr := ev_rel hrep x
  have hyr := ev_rel hrep y
  rw [hx] at hxr; rw [hy] at hyr
  simp only [Rel] at hxr hyr
  have hg : (eqGuard op t x y (.int k p) (.int k' q)).run P W = .ok () W := by cases op <;> simp [eqGuard]
  obtain ⟨v, rfl, hr⟩ := binV_run (P := P) (W := W) (t := t) h hk hob
  refine Does.value hrep hd (y := v) ?_ (by simp only [Rel]) (fun j hj => (has_val hj).elim)
  simp only [execOp, hop, hxr, hyr, Sem.run_bind, hg, Result.andThen_ok, hr, Sem.run_pure]

theorem minV_ok (hrep : Rep w0 N D ρ s a W) {k : IntKind} : ∀ (xs : List SV) (vs : List Value) (p : Int) (r : SV), minV k p xs = some r → Rels ρ xs vs →
    ∃ v, (vs.foldlM Builtin.min2 (.int k p)).run P W = .ok v W ∧ Rel ρ r v ∧ ∀ j, ¬ r.has j
  | [], vs, p, r, h, hr => by
    simp only [minV, Option.some.injEq] at h
    subst h
    match vs, hr with
    | [], _ => exact ⟨_, rfl, by simp [Rel], fun j hj => has_val hj⟩
    | _ :: _, hr => simp [Rels] at hr
  | x :: xs, vs, p, r, h, hr => by
    match vs, hr with
    | [], hr => simp [Rels] at hr
    | v :: vs, hr =>
      simp only [Rels] at hr
      unfold minV at h
      split at h
      · rename_i heq; cases heq
      · rename_i k' b l heq
        simp only [List.cons.injEq] at heq
        obtain ⟨rfl, rfl⟩ := heq
        have hv := hr.1
        simp only [Rel] at hv
        subst hv
        obtain ⟨v, hv, hrel⟩ := minV_ok hrep xs vs _ r h hr.2
        refine ⟨v, ?_, hrel⟩
        simp only [List.foldlM_cons, Sem.run_bind, Builtin.min2, Sem.run_pure, Result.andThen_ok]
        exact hv
      · cases h

theorem maxV_ok (hrep : Rep w0 N D ρ s a W) {k : IntKind} : ∀ (xs : List SV) (vs : List Value) (p : Int) (r : SV), maxV k p xs = some r → Rels ρ xs vs →
    ∃ v, (vs.foldlM Builtin.max2 (.int k p)).run P W = .ok v W ∧ Rel ρ r v ∧ ∀ j, ¬ r.has j
  | [], vs, p, r, h, hr => by
    simp only [maxV, Option.some.injEq] at h
    subst h
    match vs, hr with
    | [], _ => exact ⟨_, rfl, by simp [Rel], fun j hj => has_val hj⟩
    | _ :: _, hr => simp [Rels] at hr
  | x :: xs, vs, p, r, h, hr => by
    match vs, hr with
    | [], hr => simp [Rels] at hr
    | v :: vs, hr =>
      simp only [Rels] at hr
      unfold maxV at h
      split at h
      · rename_i heq; cases heq
      · rename_i k' b l heq
        simp only [List.cons.injEq] at heq
        obtain ⟨rfl, rfl⟩ := heq
        have hv := hr.1
        simp only [Rel] at hv
        subst hv
        obtain ⟨v, hv, hrel⟩ := maxV_ok hrep xs vs _ r h hr.2
        refine ⟨v, ?_, hrel⟩
        simp only [List.foldlM_cons, Sem.run_bind, Builtin.max2, Sem.run_pure, Result.andThen_ok]
        exact hv
      · cases h

theorem lenV_ok (hT : TOk P T) {t : Nat} {x r : SV} {y : Value} (h : lenV T t x = some r) (hr : Rel ρ x y) : ∃ n d, P.underlying t = some (.slice d) ∧ (∃ b c, y = .slice b n c) ∧ r = iv n := by
  have key : ∀ i : TI, T t = some i → ∀ e es by', i.kind = .slice e es by' → ∃ d, P.underlying t = some (.slice d) := fun i hi e es by' hk => by
    obtain ⟨n, de, z, h1, h2, h3, hie⟩ := conv_spec (hT t i hi)
    rw [hie] at hk
    simp only at hk
    cases de <;> simp [kindOf] at hk
    exact ⟨_, h2⟩
  unfold lenV at h
  split at h
  · rename_i k off len es
    split at h
    · rename_i i hi
      split at h
      · rename_i e es' by' hk
        obtain ⟨d, hd⟩ := key i hi _ _ _ hk
        simp only [Option.some.injEq] at h
        simp only [Rel] at hr
        rcases hr with ⟨_, rfl, rfl⟩ | ⟨b, o, n, cap, off', _, rfl, _⟩
        · exact ⟨0, d, hd, ⟨_, _, rfl⟩, h.symm⟩
        · exact ⟨len, d, hd, ⟨_, _, rfl⟩, h.symm⟩
      · cases h
    · cases h
  · rename_i b len c
    split at h
    · rename_i i hi
      split at h
      · rename_i e es' by' hk
        obtain ⟨d, hd⟩ := key i hi _ _ _ hk
        simp only [Option.some.injEq] at h
        simp only [Rel] at hr
        exact ⟨len, d, hd, ⟨_, _, hr⟩, h.symm⟩
      · cases h
    · cases h
  · cases h

theorem placeSt_spec (P : Program) {fields : Array Field} {f off size : Nat} (h : placeSt (fields.toList.map fun f => (f.offset, f.type, P.cellsOf f.type)) f = some (off, size)) :
    ∃ fd, fields[f]? = some fd ∧ off = fd.offset ∧ P.cellsOf fd.type ≠ 0 := by
  unfold placeSt at h
  simp only [List.getElem?_map] at h
  cases hf : fields.toList[f]? with
  | none => simp [hf] at h
  | some fd =>
    simp only [hf, Option.map_some] at h
    split at h
    · cases h
    · rename_i hne
      simp only [Option.some.injEq, Prod.mk.injEq] at h
      exact ⟨fd, by simpa using hf, h.1.symm, hne⟩

theorem does_fieldAddr (hrep : Rep w0 N D ρ s a W) {o : Oper} {t f : Nat} {x : Operand} (hop : o.op = .fieldAddr t x f) (hd : ∀ d, o.dst = some d → d < N) {k off : Nat} (hx : ev s.sl x = .p k off) {i : TI} (hc : conv P t = some i)
    {fs : List (Nat × Nat × Nat)} (hk : i.kind = .st fs) {fd : Nat × Nat} (hf : placeSt fs f = some fd) : Does P w0 N D s a W o { val := .p k (off + fd.1) } := by
  obtain ⟨n, de, z, h1, h2, h3, rfl⟩ := conv_spec hc
  simp only at hk
  cases de <;> simp [kindOf] at hk
  rename_i fields
  subst hk
  obtain ⟨fd, hfd, e1, e2⟩ := placeSt_spec P (off := fd.1) (size := fd.2) hf
  have hxr := ev_rel hrep x
  have hxw := ev_wf hrep x
  rw [hx] at hxr hxw
  simp only [Rel] at hxr
  obtain ⟨b, o', m, hρ, hy⟩ := hxr
  refine Does.value hrep hd (y := .pointer (some ⟨b, o' + off + fd.offset, none⟩)) ?_ ?_ (fun j hj => hxw j (by simpa [SV.has] using hj))
  · simp only [execOp, hop, hy, Instr.fieldAt, Sem.run_bind, run_underlying' h2, Result.andThen_ok, hfd, Instr.sureAddr, Sem.run_pure, fieldPlace, cellsOf_run e2]
    simp only [e2, if_false, Sem.run_pure, Result.andThen_ok, add_eq]
  · simp only [Rel]
    exact ⟨b, o', m, hρ, by rw [e1]; simp [Nat.add_assoc]⟩

theorem does_indexArr (hrep : Rep w0 N D ρ s a W) {o : Oper} {t : Nat} {x y : Operand} (hop : o.op = .indexAddr t x y) (hd : ∀ d, o.dst = some d → d < N) {k off : Nat} (hx : ev s.sl x = .p k off) {kk : IntKind} {n : Int} (hy : ev s.sl y = .v (.int kk n))
    {i : TI} (hc : conv P t = some i) {len e es : Nat} (hk : i.kind = .arr len e es) (hes : es ≠ 0) (hn : 0 ≤ n ∧ n < len) : Does P w0 N D s a W o { val := .p k (off + n.toNat * es) } := by
  obtain ⟨m, de, z, h1, h2, h3, rfl⟩ := conv_spec hc
  simp only at hk
  cases de <;> simp [kindOf] at hk
  obtain ⟨rfl, rfl, hes'⟩ := hk
  have hso : ∀ W, (sizeOf _).run P W = .ok es W := fun W => by rw [← hes']; exact cellsOf_run (by rw [hes']; exact hes) W
  have hxr := ev_rel hrep x
  have hxw := ev_wf hrep x
  have hyr := ev_rel hrep y
  rw [hx] at hxr hxw
  rw [hy] at hyr
  simp only [Rel] at hxr hyr
  obtain ⟨b, o', m', hρ, hx'⟩ := hxr
  refine Does.value hrep hd (y := .pointer (some ⟨b, o' + off + n.toNat * es, none⟩)) ?_ ?_ (fun j hj => hxw j (by simpa [SV.has] using hj))
  · simp only [execOp, hop, hx', hyr, Instr.indexAt, Sem.run_bind, asIntOf, Sem.run_pure, Result.andThen_ok, run_underlying' h2, Instr.sureAddr]
    simp only [hn, and_self, if_true, Sem.run_bind, hso, Result.andThen_ok, Sem.run_pure, add_eq]
  · simp only [Rel]
    exact ⟨b, o', m', hρ, by simp [Nat.add_assoc]⟩

theorem does_index (hrep : Rep w0 N D ρ s a W) {o : Oper} {t : Nat} {x y : Operand} (hop : o.op = .index t x y) (hd : ∀ d, o.dst = some d → d < N) {cells : List SV} (hx : ev s.sl x = .a cells) {kk : IntKind} {n : Int} (hy : ev s.sl y = .v (.int kk n))
    {i : TI} (hc : conv P t = some i) {len e es : Nat} (hk : i.kind = .arr len e es) {ei : TI} (hce : conv P e = some ei) (hes : es ≠ 0) (hsz : ei.size = es) (hl : ((cells.drop (n.toNat * es)).take es).length = es) {v : SV} (hv : mkV ei.agg ((cells.drop (n.toNat * es)).take es) = some v) (hn : 0 ≤ n ∧ n < len) :
    Does P w0 N D s a W o { val := v } := by
  obtain ⟨m, de, z, h1, h2, h3, rfl⟩ := conv_spec hc
  simp only at hk
  cases de <;> simp [kindOf] at hk
  obtain ⟨rfl, rfl, hes'⟩ := hk
  obtain ⟨m', de', z', g1, g2, g3, rfl⟩ := conv_spec hce
  have hso : ∀ W, (sizeOf _).run P W = .ok es W := fun W => by rw [← hes']; exact cellsOf_run (by rw [hes']; exact hes) W
  have hxr := ev_rel hrep x
  have hxw := ev_wf hrep x
  have hyr := ev_rel hrep y
  rw [hx] at hxr hxw
  rw [hy] at hyr
  simp only [Rel] at hxr hyr
  obtain ⟨vs, hx', hrs⟩ := hxr
  have hrr : Rels ρ ((cells.drop (n.toNat * es)).take es) ((vs.drop (n.toNat * es)).take es) := Rels.take _ (Rels.drop _ hrs)
  simp only at hsz
  have hpl : ((vs.drop (n.toNat * es)).take m'.size).length = m'.size := by rw [hsz, ← hrr.length]; exact hl
  refine Does.value hrep hd (y := mkVal (isAggD de') ((vs.drop (n.toNat * es)).take m'.size)) ?_ ?_ (fun j hj => hxw j ?_)
  · simp only [execOp, hop, hx', hyr, Instr.index, Sem.run_bind, asIntOf, Sem.run_pure, Result.andThen_ok, run_underlying' h2]
    simp only [hn, and_self, if_true, Sem.run_bind, hso, Result.andThen_ok, run_part g1 g2 hpl (fun _ => by rw [hsz]; exact hes)]
  · rw [hsz]; exact mkV_rel hv hrr
  · have := mkV_has hv hj
    simp only [SV.has]
    exact hasl_drop (hasl_take this)

theorem does_indexSlice (hrep : Rep w0 N D ρ s a W) {o : Oper} {t : Nat} {x y : Operand} (hop : o.op = .indexAddr t x y) (hd : ∀ d, o.dst = some d → d < N) {k off len es' : Nat} (hx : ev s.sl x = .s k off len es') {kk : IntKind} {n : Int} (hy : ev s.sl y = .v (.int kk n))
    {i : TI} (hc : conv P t = some i) {e es bytes : Nat} (hk : i.kind = .slice e es bytes) (hes : es ≠ 0) (hn : 0 ≤ n ∧ n < len) : Does P w0 N D s a W o { val := .p k (off + n.toNat * es) } := by
  obtain ⟨m, de, z, h1, h2, h3, rfl⟩ := conv_spec hc
  simp only at hk
  cases de <;> simp [kindOf] at hk
  obtain ⟨rfl, hes', _⟩ := hk
  have hso : ∀ W, (sizeOf _).run P W = .ok es W := fun W => by rw [← hes']; exact cellsOf_run (by rw [hes']; exact hes) W
  have hxr := ev_rel hrep x
  have hxw := ev_wf hrep x
  have hyr := ev_rel hrep y
  rw [hx] at hxr hxw
  rw [hy] at hyr
  simp only [Rel] at hxr hyr
  rcases hxr with ⟨_, h0, _⟩ | ⟨b, o', m', cap, off', hρ, hx', hcl, _, hoff⟩
  · subst h0; omega
  have hoff := hoff (by omega)
  rw [hoff] at hx'
  refine Does.value hrep hd (y := .pointer (some ⟨b, o' + off + n.toNat * es, none⟩)) ?_ ?_ (fun j hj => hxw j (by simpa [SV.has] using hj))
  · simp only [execOp, hop, hx', hyr, Instr.indexAt, Sem.run_bind, asIntOf, Sem.run_pure, Result.andThen_ok, run_underlying' h2]
    simp only [hn, and_self, if_true, Sem.run_bind, hso, Result.andThen_ok, Sem.run_pure, add_eq]
  · simp only [Rel]
    exact ⟨b, o', m', hρ, by simp [Nat.add_assoc]⟩

theorem does_sliceArr (hrep : Rep w0 N D ρ s a W) {o : Oper} {t : Nat} {x : Operand} (hop : o.op = .slice t x none none none) (hd : ∀ d, o.dst = some d → d < N) {k off : Nat} (hx : ev s.sl x = .p k off)
    {own : Bool} {cells : List SV} (hb : s.bk k = .live own false cells) {i : TI} (hc : conv P t = some i) {len e es : Nat} (hk : i.kind = .arr len e es) (hes : es ≠ 0) (hl : off + len * es ≤ cells.length) :
    Does P w0 N D s a W o { val := .s k off len es } := by
  obtain ⟨m, de, z, h1, h2, h3, rfl⟩ := conv_spec hc
  simp only at hk
  cases de <;> simp [kindOf] at hk
  rename_i len' e'
  obtain ⟨rfl, rfl, hes'⟩ := hk
  have hso : ∀ W, (sizeOf _).run P W = .ok es W := fun W => by rw [← hes']; exact cellsOf_run (by rw [hes']; exact hes) W
  have hxr := ev_rel hrep x
  have hxw := ev_wf hrep x
  rw [hx] at hxr hxw
  simp only [Rel] at hxr
  obtain ⟨b, o', m', hρ, hx'⟩ := hxr
  have hbk := hrep.bk k
  rw [hb] at hbk
  rcases hbk.read with ⟨he, _⟩ | ⟨b', o'', m'', vs, e1, ⟨e2, e2'⟩, _, _⟩
  · rw [hρ] at he; cases he
  rw [hρ] at e1; cases e1
  have hlen := e2.length
  refine Does.value hrep hd (y := .slice (some ⟨b, o' + off, none⟩) len' len') ?_ ?_ (fun j hj => hxw j (by simpa [SV.has] using hj))
  · simp only [execOp, hop, hx', Instr.sliceAt, Option.map_none, Sem.run_bind, run_underlying' h2, Result.andThen_ok, Instr.sureAddr, Sem.run_pure, Instr.sliceBounds, hso]
    simp only [Nat.sub_zero]
    split
    · rename_i h0
      simp
    · simp [add_eq]
  · simp only [Rel]
    exact .inr ⟨b, o', _, _, off, hρ, rfl, Nat.le_refl _, by omega, fun _ => rfl⟩

theorem does_resliceLow (hrep : Rep w0 N D ρ s a W) {o : Oper} {t : Nat} {x y : Operand} (hop : o.op = .slice t x (some y) none none) (hd : ∀ d, o.dst = some d → d < N) {k off len es : Nat} (hx : ev s.sl x = .s k off len es) {kk : IntKind} {n : Int} (hy : ev s.sl y = .v (.int kk n))
    {i : TI} (hc : conv P t = some i) {e bytes : Nat} (hk : i.kind = .slice e es bytes) (hes : es ≠ 0) (hn : 0 ≤ n ∧ n ≤ len) : Does P w0 N D s a W o { val := .s k (off + n.toNat * es) (len - n.toNat) es } := by
  obtain ⟨m, de, z, h1, h2, h3, rfl⟩ := conv_spec hc
  simp only at hk
  cases de <;> simp [kindOf] at hk
  obtain ⟨rfl, hes', _⟩ := hk
  have hso : ∀ W, (sizeOf _).run P W = .ok es W := fun W => by rw [← hes']; exact cellsOf_run (by rw [hes']; exact hes) W
  have hxr := ev_rel hrep x
  have hxw := ev_wf hrep x
  have hyr := ev_rel hrep y
  rw [hx] at hxr hxw
  rw [hy] at hyr
  simp only [Rel] at hxr hyr
  rcases hxr with ⟨e1, rfl, hx'⟩ | ⟨b, o', m', cap, off', hρ, hx', hle, hcap, hoff⟩
  · have hn0 : n = 0 := by omega
    subst hn0
    refine Does.value hrep hd (y := .slice none 0 0) ?_ ?_ (fun j hj => hxw j (by simpa [SV.has] using hj))
    · simp only [execOp, hop, hx', hyr, Instr.sliceAt, Option.map_none, Option.map_some, Sem.run_bind, run_underlying' h2, Result.andThen_ok, Instr.slice, Sem.run_pure, Instr.sliceBounds, Instr.sliceBound, asIntOf, hso]
      simp
    · simp only [Rel]
      exact .inl ⟨e1, by simp, by first | trivial | rfl⟩
  · have hnc : n.toNat ≤ cap := by omega
    refine Does.value hrep hd (y := .slice (if cap = n.toNat then some ⟨b, o' + off', none⟩ else some ⟨b, o' + off' + n.toNat * es, none⟩) (len - n.toNat) (cap - n.toNat)) ?_ ?_ (fun j hj => hxw j (by simpa [SV.has] using hj))
    · simp only [execOp, hop, hx', hyr, Instr.sliceAt, Option.map_none, Option.map_some, Sem.run_bind, run_underlying' h2, Result.andThen_ok, Instr.slice, Sem.run_pure, Instr.sliceBounds, Instr.sliceBound, asIntOf, hso]
      simp only [hn, and_self, if_true, Sem.run_pure, Result.andThen_ok, hso, Sem.run_bind, Option.isSome_none, Bool.false_eq_true, if_false, Option.map_some, add_eq]
    · simp only [Rel]
      have hmul : n.toNat * es + (cap - n.toNat) * es = cap * es := by
        rw [← Nat.add_mul, Nat.add_sub_cancel' hnc]
      by_cases hcn : cap = n.toNat
      · rw [if_pos hcn]
        exact .inr ⟨b, o', m', cap - n.toNat, off', hρ, rfl, by omega, by rw [hcn]; simp; omega, fun h => by omega⟩
      · rw [if_neg hcn]
        refine .inr ⟨b, o', m', cap - n.toNat, off' + n.toNat * es, hρ, by simp [Nat.add_assoc], by omega, by omega, fun h => ?_⟩
        rw [hoff (by omega)]

theorem operands_binOp {op : BinOp} {t ty : TypeId} {x y : Operand} : (Op.binOp op t x y ty).operands.toList = [x, y] := rfl

theorem asB_rel {x : SV} {b : Bool} {y : Value} (h : asB x = some b) (hr : Rel ρ x y) : y = .bool b := by
  unfold asB at h
  split at h
  · simp only [Option.some.injEq] at h; subst h; simpa [Rel] using hr
  · simp only [Option.some.injEq] at h; subst h; simpa [Rel] using hr
  · cases h

theorem does_boolBin (hT : TOk P T) (hrep : Rep w0 N D ρ s a W) {o : Oper} {op : BinOp} {t ty : TypeId} {x y : Operand} (hop : o.op = .binOp op t x y ty) (hd : ∀ d, o.dst = some d → d < N)
    {r : SV} {obs : List Ob} (h : boolBin T op t (ev s.sl x) (ev s.sl y) = some (r, obs)) : Does P w0 N D s a W o { val := r } := by
  unfold boolBin at h
  split at h
  · rename_i p q i hx hy hi
    have hxv := asB_rel hx (ev_rel hrep x)
    have hyv := asB_rel hy (ev_rel hrep y)
    obtain ⟨n, de, z, h1, h2, h3, hie⟩ := conv_spec (hT t i hi)
    split at h
    · rename_i hk
      have hbool : P.underlying t = some .bool := by
        rw [h2]
        rw [hie] at hk
        simp only [kindOf] at hk
        cases de <;> simp at hk ⊢
      have hg : (eqGuard op t x y (.bool p) (.bool q)).run P W = .ok () W := by cases op <;> simp [eqGuard]
      split at h
      · simp only [Option.some.injEq, Prod.mk.injEq] at h
        obtain ⟨rfl, rfl⟩ := h
        refine Does.value hrep hd (y := .bool (p == q)) ?_ (by simp only [Rel]) (fun j hj => (has_val hj).elim)
        simp only [execOp, hop, hxv, hyv, Sem.run_bind, hg, Result.andThen_ok, run_eql_bool W t p q hbool, Sem.run_pure]
      · simp only [Option.some.injEq, Prod.mk.injEq] at h
        obtain ⟨rfl, rfl⟩ := h
        refine Does.value hrep hd (y := .bool (!(p == q))) ?_ (by simp only [Rel]) (fun j hj => (has_val hj).elim)
        simp only [execOp, hop, hxv, hyv, Sem.run_bind, hg, Result.andThen_ok, run_neq_bool W t p q hbool, Sem.run_pure]
      · cases h
    · cases h
  · cases h

theorem does_symBin (hT : TOk P T) (hrep : Rep w0 N D ρ s a W) {o : Oper} {op : BinOp} {t ty : TypeId} {x y : Operand} (hop : o.op = .binOp op t x y ty) (hd : ∀ d, o.dst = some d → d < N)
    {r : SV} {obs : List Ob} (h : symBin T op t (ev s.sl x) (ev s.sl y) = some (r, obs)) (hob : Obs P obs) : Does P w0 N D s a W o { val := r } := by
  unfold symBin at h
  split at h
  · rename_i k p k' q hx hy
    split at h
    · exact does_binV hrep hop hd hx hy h (fun h => (h rfl).elim) hob
    · exact does_binV hrep hop hd hx hy h (fun _ h => (h rfl).elim) hob
    · split at h
      · rename_i hk
        exact does_binV hrep hop hd hx hy h (fun _ _ => hk) hob
      · cases h
  · rename_i xs ys hx hy
    split at h
    · rename_i i hi
      split at h
      · rename_i hok
        simp only [Bool.and_eq_true] at hok
        have hci := hT t i hi
        obtain ⟨n, de, z, h1, h2, h3, hie⟩ := conv_spec hci
        have hxr := ev_rel hrep x
        have hyr := ev_rel hrep y
        rw [hx] at hxr; rw [hy] at hyr
        simp only [Rel] at hxr hyr
        obtain ⟨vs, hxv, hxs⟩ := hxr
        obtain ⟨us, hyv, hys⟩ := hyr
        have hg : (eqGuard op t x y (.agg vs.toArray) (.agg us.toArray)).run P W = .ok () W := by
          refine run_eqGuard_agg W op t x y _ _ ?_
          have := hok.1
          rw [hie] at this
          simp only [Bool.and_eq_true, Bool.not_eq_true'] at this
          exact this.1.2
        have heq : ∀ r', eqC T 100 t xs ys = some r' → (Op.equalIn 10000 t (.agg vs.toArray) (.agg us.toArray)).run P W = .ok r' W := fun r' hr' => by
          have := eqC_ok (W := W) hT 100 t xs ys vs us r' hr' hxs hys i hci 10000 (by omega)
          simpa [mkVal, hok.2] using this
        split at h
        · rename_i r' hr'
          simp only [Option.some.injEq, Prod.mk.injEq] at h
          obtain ⟨rfl, rfl⟩ := h
          refine Does.value hrep hd (y := .bool r') ?_ (by simp only [Rel]) (fun j hj => (has_val hj).elim)
          simp only [execOp, hop, hxv, hyv, Sem.run_bind, hg, Result.andThen_ok, run_eql_struct, heq r' hr', Sem.run_pure]
        · rename_i r' hr'
          simp only [Option.some.injEq, Prod.mk.injEq] at h
          obtain ⟨rfl, rfl⟩ := h
          refine Does.value hrep hd (y := .bool (!r')) ?_ (by simp only [Rel]) (fun j hj => (has_val hj).elim)
          simp only [execOp, hop, hxv, hyv, Sem.run_bind, hg, Result.andThen_ok, run_neq_struct, heq r' hr', Sem.run_pure]
        · cases h
      · cases h
    · cases h
  · exact does_boolBin hT hrep hop hd h

theorem does_symUn (hrep : Rep w0 N D ρ s a W) {o : Oper} {op : UnOp} {t : TypeId} {x : Operand} (hop : o.op = .unOp op t x) (hd : ∀ d, o.dst = some d → d < N)
    {r : SV} (h : symUn op (ev s.sl x) = some r) : Does P w0 N D s a W o { val := r } := by
  have hxr := ev_rel hrep x
  unfold symUn at h
  split at h
  · rename_i d hx
    rw [hx] at hxr
    simp only [Rel] at hxr
    split at h
    · simp only [Option.some.injEq] at h; subst h
      refine Does.value hrep hd (y := .bool (!d)) ?_ (by simp only [Rel]) (fun j hj => by simp [SV.has] at hj)
      simp [execOp, hop, hxr, Op.unary]
    · cases h
  · rename_i c hx
    rw [hx] at hxr
    simp only [Rel] at hxr
    split at h
    · simp only [Option.some.injEq] at h; subst h
      refine Does.value hrep hd (y := .bool (!c)) ?_ (by simp only [Rel]) (fun j hj => (has_val hj).elim)
      simp [execOp, hop, hxr, Op.unary]
    · cases h
  · rename_i k n hx
    rw [hx] at hxr
    simp only [Rel] at hxr
    split at h
    · simp only [Option.some.injEq] at h; subst h
      refine Does.value hrep hd (y := .int k (k.wrap (0 - n))) ?_ (by simp only [Rel]) (fun j hj => (has_val hj).elim)
      simp [execOp, hop, hxr, Op.unary, Op.intArith]
    · cases h
  · cases h

theorem does_callB (hT : TOk P T) (hrep : Rep w0 N D ρ s a W) {o : Oper} {b : Builtin} {args : Array Operand} {ts : Array TypeId} (hop : o.op = .call { callee := .builtin b, args := args, argTypes := ts }) (hd : ∀ d, o.dst = some d → d < N)
    {r : SV} (h : symCallB T b ts.toList (args.toList.map (ev s.sl)) = some r) : Does P w0 N D s a W o { val := r } := by
  have hrels := evs_rel hrep args.toList
  have hex : ∀ v, (builtin b ts o.type (args.map fun | .const _ => true | _ => false) (args.map a.eval)).run P W = .ok (.value v) W → (execOp a.eval o).run P W = .ok (.value v) W := fun v hv => by
    simp only [execOp, hop, resolve, Sem.run_bind, Sem.run_pure, Result.andThen_ok, invoke]
    exact hv
  unfold symCallB at h
  split at h
  · rename_i t rest x hts hxs
    rw [hxs] at hrels
    obtain ⟨y, hy, hxy⟩ := rels1 hrels
    obtain ⟨n, d, hu, ⟨b', c', rfl⟩, rfl⟩ := lenV_ok hT h hxy
    refine Does.value hrep hd (y := .int .i64 n) (hex _ ?_) (by simp [iv, Rel]) (fun j hj => by simp [iv, SV.has] at hj)
    have ht0 : ts[0]? = some t := by
      have : ts.toList[0]? = some t := by rw [hts]; rfl
      simpa using this
    have hx0 : (args.map a.eval)[0]? = some (.slice b' n c') := by
      have : (args.toList.map a.eval)[0]? = some (.slice b' n c') := by rw [hy]; rfl
      simpa using this
    simp [builtin, Builtin.len_, ht0, hx0, run_underlying' hu, goInt]
  · rename_i k p l hxs
    rw [hxs] at hrels
    obtain ⟨y0, ys, hys, h0, hl⟩ : ∃ y0 ys, args.toList.map a.eval = y0 :: ys ∧ Rel ρ (.v (.int k p)) y0 ∧ Rels ρ l ys := by
      match hm : args.toList.map a.eval, hrels with
      | [], hr => simp [Rels] at hr
      | y0 :: ys, hr => simp only [Rels] at hr; exact ⟨y0, ys, rfl, hr.1, hr.2⟩
    simp only [Rel] at h0
    subst h0
    obtain ⟨v, hv, hrel, hno⟩ := minV_ok (P := P) hrep _ _ _ _ h hl
    refine Does.value hrep hd (y := v) (hex _ ?_) hrel (fun j hj => (hno j hj).elim)
    have : (args.map a.eval).toList = .int k p :: ys := by simpa using hys
    simp only [builtin, Builtin.min_, this, Sem.run_bind, hv, Result.andThen_ok, Sem.run_pure]
  · rename_i k p l hxs
    rw [hxs] at hrels
    obtain ⟨y0, ys, hys, h0, hl⟩ : ∃ y0 ys, args.toList.map a.eval = y0 :: ys ∧ Rel ρ (.v (.int k p)) y0 ∧ Rels ρ l ys := by
      match hm : args.toList.map a.eval, hrels with
      | [], hr => simp [Rels] at hr
      | y0 :: ys, hr => simp only [Rels] at hr; exact ⟨y0, ys, rfl, hr.1, hr.2⟩
    simp only [Rel] at h0
    subst h0
    obtain ⟨v, hv, hrel, hno⟩ := maxV_ok (P := P) hrep _ _ _ _ h hl
    refine Does.value hrep hd (y := v) (hex _ ?_) hrel (fun j hj => (hno j hj).elim)
    have : (args.map a.eval).toList = .int k p :: ys := by simpa using hys
    simp only [builtin, Builtin.max_, this, Sem.run_bind, hv, Result.andThen_ok, Sem.run_pure]
  · cases h

end
end Go.Aw
