/-
  A symbolic executor for the model's code, part F: the remaining operations' effects are right; the theorem over all of them. Generic in the program. No premise.
-/
import Derived.Test.YtopbnnmkdildgaaAwE
namespace Go.Aw
open Go.RowKit
set_option linter.unusedVariables false
set_option linter.unusedSimpArgs false

section
variable {P : Program} {T : Nat → Option TI} {w0 : Cx} {N : Nat} {D : List Deferred} {ρ : Env} {s : FS} {a : Act} {W : World}

theorem evs_rel (h : Rep w0 N D ρ s a W) : ∀ (l : List Operand), Rels ρ (l.map (ev s.sl)) (l.map a.eval)
  | [] => by simp [Rels]
  | x :: l => by simp only [List.map_cons, Rels]; exact ⟨ev_rel h x, evs_rel h l⟩

theorem evs_wf (h : Rep w0 N D ρ s a W) {l : List Operand} {k : Nat} (hk : SV.hasl k (l.map (ev s.sl))) : s.bk k ≠ .un := by
  rw [hasl_iff] at hk
  obtain ⟨x, hx, hk⟩ := hk
  obtain ⟨y, _, rfl⟩ := List.mem_map.1 hx
  exact ev_wf h y k hk

theorem fillS_has {place : Nat → Option (Nat × Nat)} {k : Nat} : ∀ (ps : List (Nat × SV)) (cells r : List SV), fillS place cells ps = some r → SV.hasl k r → SV.hasl k cells ∨ SV.hasl k (ps.map (·.2))
  | [], cells, r, h, hk => by simp only [fillS, Option.some.injEq] at h; subst h; exact .inl hk
  | (i, x) :: ps, cells, r, h, hk => by
    simp only [fillS] at h
    split at h
    · cases h
    · split at h
      · rcases fillS_has ps _ r h hk with h' | h'
        · rcases hasl_splice h' with h' | h'
          · exact .inl h'
          · exact .inr (by simp only [List.map_cons, SV.hasl]; exact .inl (has_cells h'))
        · exact .inr (by simp only [List.map_cons, SV.hasl]; exact .inr h')
      · cases h

theorem run_places (P : Program) (W : World) : ∀ (fs : List Field), (∀ f ∈ fs, P.cellsOf f.type ≠ 0) →
    ∀ (acc : Array (Nat × Nat)), (fs.foldlM (fun (acc : Array (Nat × Nat)) f => do pure (acc.push (f.offset, ← sizeOf f.type))) acc : Sem _).run P W = .ok (acc ++ (fs.map fun f => (f.offset, P.cellsOf f.type)).toArray) W
  | [], _, acc => by simp
  | f :: fs, h, acc => by
    simp only [List.foldlM_cons, Sem.run_bind, cellsOf_run (h f (by simp)), Result.andThen_ok, Sem.run_pure]
    rw [run_places P W fs (fun g hg => h g (by simp [hg]))]
    simp

theorem run_mapM_places (fs : Array Field) (h : ∀ f ∈ fs.toList, P.cellsOf f.type ≠ 0) :
    (fs.mapM (fun f => do pure (f.offset, ← sizeOf f.type)) : Sem (Array (Nat × Nat))).run P W = .ok (fs.toList.map fun f => (f.offset, P.cellsOf f.type)).toArray W := by
  rw [Array.mapM_eq_foldlM, ← Array.foldlM_toList]
  have := run_places P W fs.toList h #[]
  simp only [Array.empty_append, List.append_toArray, List.nil_append] at this
  rw [← this]
  congr 1
  congr 1
  funext acc f
  simp [bind_pure_comp]

theorem parts_map (s : FS) (a : Act) (parts : Array (Nat × Operand)) :
    (zip1 (parts.toList.map (·.1)) ((parts.toList.map (·.2)).map (ev s.sl))).map (·.1) = (parts.map fun (i, x) => (i, a.eval x)).toList.map (·.1) := by
  unfold zip1
  rw [List.map_fst_zip (by simp)]
  simp only [Array.toList_map, List.map_map]
  rfl

theorem parts_map2 (s : FS) (parts : Array (Nat × Operand)) :
    (zip1 (parts.toList.map (·.1)) ((parts.toList.map (·.2)).map (ev s.sl))).map (·.2) = (parts.toList.map (·.2)).map (ev s.sl) := by
  unfold zip1
  rw [List.map_snd_zip (by simp)]

theorem parts_vals (a : Act) (parts : Array (Nat × Operand)) : (parts.map fun (i, x) => (i, a.eval x)).toList.map (·.2) = (parts.toList.map (·.2)).map a.eval := by
  simp only [Array.toList_map, List.map_map]
  rfl

theorem does_build_st (hrep : Rep w0 N D ρ s a W) {o : Oper} {t : TypeId} {parts : Array (Nat × Operand)} (hop : o.op = .build t parts) (hd : ∀ d, o.dst = some d → d < N) {i : TI} (hc : conv P t = some i) {fs : List (Nat × Nat × Nat)}
    (hk : i.kind = .st fs) {cells : List SV}
    (hf : fillS (placeSt fs) (i.zero.map .v) (zip1 (parts.toList.map (·.1)) ((parts.toList.map (·.2)).map (ev s.sl))) = some cells)
    (hall : fs.all (fun f => decide (f.2.2 ≠ 0)) = true) :
    Does P w0 N D s a W o { val := .a cells } := by
  obtain ⟨n, d, z, h1, h2, h3, rfl⟩ := conv_spec hc
  simp only at hk hf
  cases d with
  | struct fields =>
    simp only [kindOf, TK.st.injEq] at hk
    have hsz : ∀ f ∈ fields.toList, P.cellsOf f.type ≠ 0 := fun f hf => by
      rw [← hk, List.all_eq_true] at hall
      have := hall (f.offset, f.type, P.cellsOf f.type) (List.mem_map.2 ⟨f, hf, rfl⟩)
      simpa using this
    have hplace : ∀ j, placeSt fs j = ((fields.toList.map fun f => (f.offset, P.cellsOf f.type)).toArray[j]? : Option (Nat × Nat)) := fun j => by
      rw [← hk]
      simp only [placeSt, List.getElem?_map, List.getElem?_toArray]
      cases hj : fields.toList[j]? with
      | none => simp
      | some f =>
        have := hsz f (List.mem_of_getElem? hj)
        simp [this]
    rw [funext hplace] at hf
    have hrels : Rels ρ ((zip1 (parts.toList.map (·.1)) ((parts.toList.map (·.2)).map (ev s.sl))).map (·.2)) ((parts.map fun (i, x) => (i, a.eval x)).toList.map (·.2)) := by
      rw [parts_map2, parts_vals]; exact evs_rel hrep _
    obtain ⟨vs, hfill, hr⟩ := fill_ok _ (parts.map fun (i, x) => (i, a.eval x)).toList _ z.cells.toList _ (parts_map s a parts) hrels (Rels.vals _) hf
    refine Does.value hrep hd (y := .agg vs.toArray) ?_ (by simp only [Rel]; exact ⟨vs, rfl, hr⟩) (fun k hk => ?_)
    · simp only [execOp, hop, Instr.build, Sem.run_bind, run_zeroValue' h1 h3, Result.andThen_ok, run_underlying' h2, run_mapM_places fields hsz]
      rw [show z.cells = z.cells.toList.toArray by simp]
      rw [hfill]
      simp
    · simp only [SV.has] at hk
      rcases fillS_has _ _ _ hf hk with hk | hk
      · exact (hasl_vals hk).elim
      · rw [parts_map2] at hk; exact evs_wf hrep hk
  | _ => simp [kindOf] at hk

theorem does_build_arr (hrep : Rep w0 N D ρ s a W) {o : Oper} {t : TypeId} {parts : Array (Nat × Operand)} (hop : o.op = .build t parts) (hd : ∀ d, o.dst = some d → d < N) {i : TI} (hc : conv P t = some i) {m e es : Nat}
    (hk : i.kind = .arr m e es) (hes : es ≠ 0) {cells : List SV}
    (hf : fillS (fun i => some (i * es, es)) (i.zero.map .v) (zip1 (parts.toList.map (·.1)) ((parts.toList.map (·.2)).map (ev s.sl))) = some cells) :
    Does P w0 N D s a W o { val := .a cells } := by
  obtain ⟨n, d, z, h1, h2, h3, rfl⟩ := conv_spec hc
  simp only at hk hf
  cases d with
  | array m' e' =>
    simp only [kindOf, TK.arr.injEq] at hk
    obtain ⟨rfl, rfl, rfl⟩ := hk
    have hrels : Rels ρ ((zip1 (parts.toList.map (·.1)) ((parts.toList.map (·.2)).map (ev s.sl))).map (·.2)) ((parts.map fun (i, x) => (i, a.eval x)).toList.map (·.2)) := by
      rw [parts_map2, parts_vals]; exact evs_rel hrep _
    obtain ⟨vs, hfill, hr⟩ := fill_ok _ (parts.map fun (i, x) => (i, a.eval x)).toList _ z.cells.toList _ (parts_map s a parts) hrels (Rels.vals _) hf
    refine Does.value hrep hd (y := .agg vs.toArray) ?_ (by simp only [Rel]; exact ⟨vs, rfl, hr⟩) (fun k hk => ?_)
    · simp only [execOp, hop, Instr.build, Sem.run_bind, run_zeroValue' h1 h3, Result.andThen_ok, run_underlying' h2, cellsOf_run hes]
      rw [show z.cells = z.cells.toList.toArray by simp]
      rw [hfill]
      simp
    · simp only [SV.has] at hk
      rcases fillS_has _ _ _ hf hk with hk | hk
      · exact (hasl_vals hk).elim
      · rw [parts_map2] at hk; exact evs_wf hrep hk
  | _ => simp [kindOf] at hk

theorem does_buildSlice (hrep : Rep w0 N D ρ s a W) {o : Oper} {t : TypeId} {len : Nat} {parts : Array (Nat × Operand)} (hop : o.op = .buildSlice t len parts) (hd : ∀ d, o.dst = some d → d < N) {i ei : TI} (hc : conv P t = some i) {e es bytes : Nat}
    (hk : i.kind = .slice e es bytes) (hes : es ≠ 0) (hce : conv P e = some ei) (hle : len * es ≤ 2 ^ 24) (hz : ei.zero.length = es) {cells : List SV} {fr : Nat} (hfr : s.bk fr = .un)
    (hf : fillS (fun i => some (i * es, es)) ((List.range (len * es)).map fun i => .v (ei.zero.getD (i % es) undef)) (zip1 (parts.toList.map (·.1)) ((parts.toList.map (·.2)).map (ev s.sl))) = some cells)
    (hlc : cells.length = len * es) :
    Does P w0 N D s a W o { val := .s fr 0 len es, ups := [(fr, .live true false cells)] } := by
  obtain ⟨n, d, z, h1, h2, h3, rfl⟩ := conv_spec hc
  obtain ⟨ne, de, ze, g1, g2, g3, rfl⟩ := conv_spec hce
  simp only at hk hf hz
  cases d with
  | slice e' =>
    simp only [kindOf, TK.slice.injEq] at hk
    obtain ⟨rfl, rfl, rfl⟩ := hk
    have hrels : Rels ρ ((zip1 (parts.toList.map (·.1)) ((parts.toList.map (·.2)).map (ev s.sl))).map (·.2)) ((parts.map fun (i, x) => (i, a.eval x)).toList.map (·.2)) := by
      rw [parts_map2, parts_vals]; exact evs_rel hrep _
    have hz' : ze.cells.size = P.cellsOf e' := by rw [← hz]; simp
    have hzero : Rels ρ ((List.range (len * P.cellsOf e')).map fun i => SV.v (ze.cells.toList.getD (i % P.cellsOf e') undef)) ((List.range (len * P.cellsOf e')).map fun i => ze.cells[i % ze.cells.size]!) := by
      have : (List.range (len * P.cellsOf e')).map (fun i => SV.v (ze.cells.toList.getD (i % P.cellsOf e') undef)) = ((List.range (len * P.cellsOf e')).map fun i => ze.cells[i % ze.cells.size]!).map SV.v := by
        simp only [List.map_map]
        refine List.map_congr_left fun i _ => ?_
        simp only [Function.comp]
        have hlt : i % P.cellsOf e' < ze.cells.size := by rw [hz']; exact Nat.mod_lt _ (Nat.pos_of_ne_zero hes)
        congr 1
        rw [hz', Array.getElem!_eq_getD, Array.getD_eq_getD_getElem?, List.getD_eq_getElem?_getD]
        simp [hlt]
      rw [this]; exact Rels.vals _
    obtain ⟨vs, hfill, hr⟩ := fill_ok _ (parts.map fun (i, x) => (i, a.eval x)).toList _ _ _ (parts_map s a parts) hrels hzero hf
    have hvl := hr.length
    refine Does.new (vs := vs) (rest := []) (ty := e') (y := .slice (some ⟨W.heap.size, 0, none⟩) len len) hrep hd hfr ?_ hr (fun j hj => ?_) ?_ (by simp [SV.has])
    · simp only [execOp, hop, Instr.buildSlice, Sem.run_bind, Result.andThen_ok, run_underlying' h2, cellsOf_run hes]
      have hnz : ¬ len * P.cellsOf e' > 2 ^ 24 := by omega
      simp only [hnz, if_false]
      have hrun0 : (do if len * P.cellsOf e' = 0 then pure #[] else (do pure (← zeroValue e').cells) : Sem (Array Value)).run P W = .ok (if len * P.cellsOf e' = 0 then #[] else ze.cells) W := by
        split <;> simp [run_zeroValue' g1 g3]
      by_cases h0 : len * P.cellsOf e' = 0
      · simp only [h0, if_true, Sem.run_pure, Result.andThen_ok]
        simp only [h0] at hfill
        simp only [Array.range, List.range_zero, List.map_nil] at hfill ⊢
        have : (Array.ofFn (n := 0) fun i => (i : Nat)) = #[] := by simp
        simp only [Array.ofFn_zero, Array.map_empty, hfill]
        simp [run_newRow]
      · simp only [h0, if_false, Sem.run_bind, run_zeroValue' g1 g3, Result.andThen_ok, Sem.run_pure]
        have hr2 : (Array.range (len * P.cellsOf e')).map (fun i => ze.cells[i % ze.cells.size]!) = ((List.range (len * P.cellsOf e')).map fun i => ze.cells[i % ze.cells.size]!).toArray := by
          apply Array.ext'; simp [Array.toList_range]
        rw [hr2, hfill]
        simp [run_newRow]
    · rcases fillS_has _ _ _ hf hj with hj | hj
      · rw [hasl_iff] at hj
        obtain ⟨x, hx, hk⟩ := hj
        obtain ⟨q, _, rfl⟩ := List.mem_map.1 hx
        exact (has_val hk).elim
      · rw [parts_map2] at hj; exact evs_wf hrep hj
    · simp only [Rel]
      refine .inr ⟨W.heap.size, 0, (vs ++ []).length, len, 0, by simp, by simp, Nat.le_refl _, ?_, fun _ => rfl⟩
      simp only [List.append_nil]
      omega
  | _ => simp [kindOf] at hk

end
end Go.Aw
