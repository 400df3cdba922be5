/-
  A symbolic executor for the model's code, part I: the theorem over all operations that call no function. Generic in the program. No premise.
-/
import Derived.Test.YtopbnnmkdildgaaAwHa
namespace Go.Aw
open Go.RowKit
set_option linter.unusedVariables false
set_option linter.unusedSimpArgs false

section
variable {P : Program} {T : Nat → Option TI} {w0 : Cx} {N : Nat} {D : List Deferred} {ρ : Env} {s : FS} {a : Act} {W : World}

theorem does_val1 (hrep : Rep w0 N D ρ s a W) {o : Oper} {x : Operand} (hd : ∀ d, o.dst = some d → d < N) (hr : (execOp a.eval o).run P W = .ok (.value (a.eval x)) W) : Does P w0 N D s a W o { val := ev s.sl x } :=
  Does.value hrep hd hr (ev_rel hrep x) (ev_wf hrep x)

theorem map1 {α β : Type} {f : α → β} {l : List α} {y : β} (h : l.map f = [y]) : ∃ x, l = [x] ∧ f x = y := by
  match l, h with
  | [x], h => simp at h; exact ⟨x, rfl, h⟩

theorem symAppend_ups {ts : List TypeId} {xs : List SV} {bs : List BK} {fr : Nat} {e : Eff} {obs : List Ob} (h : symAppend T ts xs bs fr = some (e, obs)) : ∃ u ∈ e.ups, u.1 = fr := by
  unfold symAppend at h
  repeat' split at h
  all_goals first | (cases h; done) | (simp only [Option.some.injEq, Prod.mk.injEq] at h; obtain ⟨rfl, _⟩ := h; simp)

theorem symAppendL_ups {ts : List TypeId} {xs : List SV} {bs : List BK} {fr : Nat} {e : Eff} {obs : List Ob} (h : symAppendL T ts xs bs fr = some (e, obs)) : ∃ u ∈ e.ups, u.1 = fr := by
  unfold symAppendL at h
  repeat' split at h
  all_goals first | (cases h; done) | (simp only [Option.some.injEq, Prod.mk.injEq] at h; obtain ⟨rfl, _⟩ := h; simp)

set_option maxHeartbeats 1000000 in
/-- **Every operation that calls no function does what 'symOp' says.** -/
theorem symOp_ok (hT : TOk P T) {o : Oper} {xs : List SV} {bs : List BK} {fr : Nat} {orc orc' : List Or} {e : Eff} {obs : List Ob} (h : symOp T o.op xs bs fr orc = some (e, obs, orc')) (hob : Obs P obs)
    (hrep : Rep w0 N D ρ s a W) (hxs : xs = o.op.operands.toList.map (ev s.sl)) (hbs : bs = (opBlk o.op xs).map s.bk) (hfr : ∀ u ∈ e.ups, u.1 = fr → s.bk fr = .un) (hd : ∀ d, o.dst = some d → d < N) :
    Does P w0 N D s a W o e := by
  obtain ⟨dst, op, type, pos, after, guard⟩ := o
  simp only at h hxs hbs hd
  cases op <;> simp only [symOp] at h <;> simp only [Op.operands] at hxs <;> try (cases h; done)
  case move x =>
    simp only [List.map_cons, List.map_nil] at hxs; subst hxs
    simp only [Option.some.injEq, Prod.mk.injEq] at h
    obtain ⟨rfl, _, _⟩ := h
    exact does_val1 hrep hd (by simp [execOp])
  case assign x =>
    simp only [List.map_cons, List.map_nil] at hxs; subst hxs
    simp only [Option.some.injEq, Prod.mk.injEq] at h
    obtain ⟨rfl, _, _⟩ := h
    exact does_val1 hrep hd (by simp [execOp])
  case pick c x y =>
    simp only [List.map_cons, List.map_nil] at hxs; subst hxs
    split at h
    · rename_i d x' y' heq
      simp only [List.cons.injEq, and_true] at heq
      obtain ⟨hc, rfl, rfl⟩ := heq
      simp only [Option.some.injEq, Prod.mk.injEq] at h
      obtain ⟨rfl, _, _⟩ := h
      have hcr := ev_rel hrep c
      rw [hc] at hcr
      simp only [Rel] at hcr
      cases d with
      | true => exact does_val1 hrep hd (by simp [execOp, hcr, asBool])
      | false => exact does_val1 hrep hd (by simp [execOp, hcr, asBool])
    · cases h
  case alloc t =>
    split at h
    · rename_i i hi
      simp only [Option.some.injEq, Prod.mk.injEq] at h
      obtain ⟨rfl, _, _⟩ := h
      exact does_alloc hrep rfl hd (hT t i hi) (hfr _ List.mem_cons_self rfl)
    · cases h
  case box t x =>
    simp only [List.map_cons, List.map_nil] at hxs; subst hxs
    simp only at h
    split at h
    · rename_i hk
      simp only [Option.some.injEq, Prod.mk.injEq] at h
      obtain ⟨rfl, _, _⟩ := h
      exact does_box hrep rfl hd rfl hk (hfr _ List.mem_cons_self rfl)
    · cases h
  case build t parts =>
    subst hxs
    split at h
    · rename_i i hi
      split at h
      · rename_i fs hk
        split at h
        · rename_i cells hf
          split at h
          · rename_i hall
            simp only [Option.some.injEq, Prod.mk.injEq] at h
            obtain ⟨rfl, _, _⟩ := h
            exact does_build_st hrep rfl hd (hT t i hi) hk hf hall
          · cases h
        · cases h
      · rename_i n e' es hk
        split at h
        · rename_i cells hf
          split at h
          · cases h
          · rename_i hes
            simp only [Option.some.injEq, Prod.mk.injEq] at h
            obtain ⟨rfl, _, _⟩ := h
            exact does_build_arr hrep rfl hd (hT t i hi) hk hes hf
        · cases h
      · cases h
    · cases h
  case buildSlice t len parts =>
    subst hxs
    split at h
    · rename_i i hi
      split at h
      · rename_i e' es bytes hk
        split at h
        · rename_i ei hei
          split at h
          · rename_i hcond
            split at h
            · rename_i cells hf
              split at h
              · rename_i hlc
                simp only [Option.some.injEq, Prod.mk.injEq] at h
                obtain ⟨rfl, _, _⟩ := h
                exact does_buildSlice hrep rfl hd (hT t i hi) hk hcond.1 (hT e' ei hei) hcond.2.1 hcond.2.2 (hfr _ List.mem_cons_self rfl) hf hlc
              · cases h
            · cases h
          · cases h
        · cases h
      · cases h
    · cases h
  case load t x =>
    simp only [List.map_cons, List.map_nil] at hxs; subst hxs
    split at h
    · rename_i k off own sym cells i hx hi
      simp only [List.cons.injEq, and_true] at hx
      rw [hx] at hbs
      simp only [opBlk, List.map_cons, List.map_nil, List.cons.injEq, and_true] at hbs
      split at h
      · split at h
        · rename_i hl
          split at h
          · rename_i v hv
            simp only [Option.some.injEq, Prod.mk.injEq] at h
            obtain ⟨rfl, _, _⟩ := h
            exact does_load hrep rfl hd hx hbs.symm (hT t i hi) rfl hl hv
          · cases h
        · cases h
      · split at h
        · rename_i r orc2
          split at h
          · rename_i hl
            split at h
            · rename_i v hv
              simp only [Option.some.injEq, Prod.mk.injEq] at h
              obtain ⟨rfl, rfl, _⟩ := h
              simp only [Obs, Ob.Holds, and_true] at hob
              exact does_load hrep rfl hd hx hbs.symm (hT t i hi) hob hl hv
            · cases h
          · cases h
        · cases h
    · cases h
  case store t x y =>
    simp only [List.map_cons, List.map_nil] at hxs; subst hxs
    split at h
    · rename_i k off v sym cells i hx hi
      simp only [List.cons.injEq, and_true] at hx
      obtain ⟨hx, hy⟩ := hx
      rw [hx] at hbs
      simp only [opBlk, List.map_cons, List.map_nil, List.cons.injEq, and_true] at hbs
      split at h
      · rename_i hc
        simp only [Bool.and_eq_true, beq_iff_eq] at hc
        split at h
        · split at h
          · rename_i hl
            simp only [Option.some.injEq, Prod.mk.injEq] at h
            obtain ⟨rfl, _, _⟩ := h
            exact does_store hrep rfl hd hx hbs.symm (hT t i hi) hy hc.1.1 hc.1.2 hc.2 hl trivial
          · cases h
        · split at h
          · rename_i hpl
            simp only [Option.some.injEq, Prod.mk.injEq] at h
            obtain ⟨rfl, rfl, _⟩ := h
            simp only [Obs, Ob.Holds, and_true] at hob
            refine does_store hrep rfl hd hx hbs.symm (hT t i hi) hy hc.1.1 hc.1.2 hc.2 hob (fun j hj => ?_)
            rcases hasl_splice hj with hj | hj
            · have := hrep.pl k
              rw [← hbs] at this
              exact this j hj
            · exact plain_all hpl j hj
          · cases h
      · cases h
    · cases h
  case fieldAddr t x f =>
    simp only [List.map_cons, List.map_nil] at hxs; subst hxs
    split at h
    · rename_i k off i hx hi
      simp only [List.cons.injEq, and_true] at hx
      split at h
      · rename_i fs hk
        split at h
        · rename_i fd hf
          simp only [Option.some.injEq, Prod.mk.injEq] at h
          obtain ⟨rfl, _, _⟩ := h
          exact does_fieldAddr hrep rfl hd hx (hT t i hi) hk hf
        · cases h
      · cases h
    · cases h
  case indexAddr t x y =>
    simp only [List.map_cons, List.map_nil] at hxs; subst hxs
    split at h
    · rename_i k off kk n i hx hi
      simp only [List.cons.injEq, and_true] at hx
      split at h
      · rename_i len e' es hk
        split at h
        · cases h
        · rename_i hes
          simp only [Option.some.injEq, Prod.mk.injEq] at h
          obtain ⟨rfl, rfl, _⟩ := h
          simp only [Obs, Ob.Holds, and_true] at hob
          exact does_indexArr hrep rfl hd hx.1 hx.2 (hT t i hi) hk hes hob
      · cases h
    · rename_i k off len es' kk n i hx hi
      simp only [List.cons.injEq, and_true] at hx
      split at h
      · rename_i e' es bytes hk
        split at h
        · cases h
        · rename_i hes
          simp only [Option.some.injEq, Prod.mk.injEq] at h
          obtain ⟨rfl, rfl, _⟩ := h
          simp only [Obs, Ob.Holds, and_true] at hob
          exact does_indexSlice hrep rfl hd hx.1 hx.2 (hT t i hi) hk hes hob
      · cases h
    · cases h
  case index t x y =>
    simp only [List.map_cons, List.map_nil] at hxs; subst hxs
    split at h
    · rename_i cells kk n i hx hi
      simp only [List.cons.injEq, and_true] at hx
      split at h
      · rename_i len e' es hk
        split at h
        · rename_i ei hei
          split at h
          · cases h
          · rename_i hes
            split at h
            · rename_i hl
              split at h
              · rename_i v hv
                simp only [Option.some.injEq, Prod.mk.injEq] at h
                obtain ⟨rfl, rfl, _⟩ := h
                simp only [Obs, Ob.Holds, and_true] at hob
                exact does_index hrep rfl hd hx.1 hx.2 (hT t i hi) hk (hT e' ei hei) (fun h => hes (Or.inl h)) (Decidable.of_not_not fun h => hes (Or.inr h)) hl hv hob
              · cases h
            · cases h
        · cases h
      · cases h
    · cases h
  case slice t x lo hi mx =>
    split at h
    · rename_i k off own cells i htt
      simp only [Option.toArray_none, Array.append_empty, List.map_cons, List.map_nil] at hxs
      simp only [List.cons.injEq, and_true] at hxs
      simp only [opBlk, List.map_cons, List.map_nil, List.cons.injEq, and_true] at hbs
      split at h
      · rename_i len e' es hk
        split at h
        · rename_i hc
          simp only [Option.some.injEq, Prod.mk.injEq] at h
          obtain ⟨rfl, _, _⟩ := h
          exact does_sliceArr hrep rfl hd hxs.symm hbs.symm (hT t i htt) hk hc.1 hc.2
        · cases h
      · cases h
    · rename_i y k off len es' kk n bs' i htt
      simp only [Option.toArray_none, Array.append_empty, List.map_cons, List.map_nil, Option.toArray_some, Array.toList_append, List.cons_append, List.nil_append, List.cons.injEq, and_true] at hxs
      split at h
      · rename_i e' es bytes hk
        split at h
        · rename_i hc
          obtain ⟨rfl, hes⟩ := hc
          simp only [Option.some.injEq, Prod.mk.injEq] at h
          obtain ⟨rfl, rfl, _⟩ := h
          simp only [Obs, Ob.Holds, and_true] at hob
          exact does_resliceLow hrep rfl hd hxs.1.symm hxs.2.symm (hT t i htt) hk hes hob
        · cases h
      · cases h
    · cases h
  case binOp op t x y ty =>
    simp only [List.map_cons, List.map_nil] at hxs; subst hxs
    simp only at h
    split at h
    · rename_i r obs' hs
      simp only [Option.some.injEq, Prod.mk.injEq] at h
      obtain ⟨rfl, rfl, _⟩ := h
      exact does_symBin hT hrep rfl hd hs hob
    · cases h
  case unOp op t x =>
    simp only [List.map_cons, List.map_nil] at hxs; subst hxs
    simp only at h
    split at h
    · rename_i r hs
      simp only [Option.some.injEq, Prod.mk.injEq] at h
      obtain ⟨rfl, _, _⟩ := h
      exact does_symUn hrep rfl hd hs
    · cases h
  case convert src dst' x =>
    simp only [List.map_cons, List.map_nil] at hxs; subst hxs
    split at h
    · rename_i k n i j hx hi hj
      simp only [List.cons.injEq, and_true] at hx
      split at h
      · rename_i k' k2 hk hk2
        simp only [Option.some.injEq, Prod.mk.injEq] at h
        obtain ⟨rfl, _, _⟩ := h
        obtain ⟨n1, d1, z1, _, u1, _, hi1⟩ := conv_spec (hT _ i hi)
        obtain ⟨n2, d2, z2, _, u2, _, hi2⟩ := conv_spec (hT _ j hj)
        rw [hi1] at hk; rw [hi2] at hk2
        simp only at hk hk2
        cases d1 <;> simp [kindOf] at hk
        cases d2 <;> simp [kindOf] at hk2
        rename_i q1 q2
        subst hk hk2
        have hxr := ev_rel hrep x
        rw [hx] at hxr
        simp only [Rel] at hxr
        refine Does.value hrep hd (y := .int q1 (q1.wrap n)) ?_ (by simp only [Rel]) (fun j hj => (has_val hj).elim)
        simp only [execOp, hxr, convert, Sem.run_bind, run_underlying' u1, run_underlying' u2, Result.andThen_ok, Conv.intToInt, Sem.run_pure]
      · cases h
    · cases h
  case extract x i =>
    simp only [List.map_cons, List.map_nil] at hxs; subst hxs
    split at h
    · rename_i l hx
      simp only [List.cons.injEq, and_true] at hx
      split at h
      · rename_i v hv
        simp only [Option.some.injEq, Prod.mk.injEq] at h
        obtain ⟨rfl, _, _⟩ := h
        have hxr := ev_rel hrep x
        have hxw := ev_wf hrep x
        rw [hx] at hxr hxw
        simp only [Rel] at hxr
        obtain ⟨vs, hxv, hrs⟩ := hxr
        obtain ⟨y, hy, hyr⟩ := Rels.get i hrs hv
        refine Does.value hrep hd (y := y) ?_ hyr (fun j hj => hxw j (by simp only [SV.has]; rw [hasl_iff]; exact ⟨v, List.mem_of_getElem? hv, hj⟩))
        have : (vs.toArray)[i]? = some y := by simpa using hy
        simp [execOp, hxv, Instr.extract, this]
      · cases h
    · cases h
  case makeFunc fn first captured =>
    cases fn with
    | func g =>
      simp only at h
      split at h
      · rename_i hf
        simp only [Option.some.injEq, Prod.mk.injEq] at h
        obtain ⟨rfl, _, _⟩ := h
        have hf' : first = #[] := Array.eq_empty_of_size_eq_zero hf
        subst hf'
        simp only [Array.empty_append] at hxs
        refine Does.value hrep hd (y := .func (.func g) #[] (captured.map a.eval)) ?_ ?_ (fun j hj => ?_)
        · simp [execOp, Instr.makeFunc]
        · simp only [Rel]
          refine ⟨captured.toList.map a.eval, by congr 1; apply Array.ext'; simp, ?_⟩
          rw [hxs]; exact evs_rel hrep _
        · simp only [SV.has] at hj
          rw [hxs] at hj
          exact evs_wf hrep hj
      · cases h
    | _ => simp at h
  case call c =>
    obtain ⟨callee, args, ts⟩ := c
    cases callee with
    | builtin b =>
      by_cases hb : b = .append
      · subst hb
        simp only at h
        split at h
        · rename_i e' obs' hs
          simp only [Option.some.injEq, Prod.mk.injEq] at h
          obtain ⟨rfl, rfl, _⟩ := h
          have hxs' : xs = args.toList.map (ev s.sl) := by rw [hxs]; simp [Call.operands]
          refine does_append hT hrep rfl hd (hfr := ?_) hxs' hbs hs hob
          have hmem : ∃ u ∈ e'.ups, u.1 = fr := symAppend_ups hs
          obtain ⟨u, hu, hu1⟩ := hmem
          exact hfr u hu hu1
        · split at h
          · rename_i e' obs' hs
            simp only [Option.some.injEq, Prod.mk.injEq] at h
            obtain ⟨rfl, rfl, _⟩ := h
            have hxs' : xs = args.toList.map (ev s.sl) := by rw [hxs]; simp [Call.operands]
            refine does_appendL hT hrep rfl hd (hfr := ?_) hxs' hbs hs hob
            have hmem : ∃ u ∈ e'.ups, u.1 = fr := symAppendL_ups hs
            obtain ⟨u, hu, hu1⟩ := hmem
            exact hfr u hu hu1
          · cases h
      have h : (match symCallB T b ts.toList xs with
        | some r => some (({ val := r } : Eff), ([] : List Ob), orc)
        | none => none) = some (e, obs, orc') := by
        cases b <;> first | exact (hb rfl).elim | exact h
      split at h
      · rename_i r hs
        simp only [Option.some.injEq, Prod.mk.injEq] at h
        obtain ⟨rfl, _, _⟩ := h
        refine does_callB hT hrep rfl hd (b := b) (args := args) (ts := ts) ?_
        have : xs = args.toList.map (ev s.sl) := by rw [hxs]; simp [Call.operands]
        rw [← this]; exact hs
      · cases h
    | _ => simp at h

end
end Go.Aw
