/-
  A symbolic executor for the model's code, part Ha: append. Generic in the program. No premise.
-/
import Derived.Test.YtopbnnmkdildgaaAwH
import Derived.Laws.AppendOwn
namespace Go.Aw
open Go.RowKit
set_option linter.unusedVariables false
set_option linter.unusedSimpArgs false

section
variable {P : Program} {T : Nat → Option TI} {w0 : Cx} {N : Nat} {D : List Deferred} {ρ : Env} {s : FS} {a : Act} {W : World}

/-- The world behind an append in place: block b turned. -/
theorem Rep.inplace (h : Rep w0 N D ρ s a W) {k fr b nn : Nat} {sym sym' : Bool} {cells cells' : List SV} {vs' rest' : List Value} {W' : World} {ty : TypeId}
    (hk : s.bk k = .live true sym cells) (hfr : s.bk fr = .un) (hρ : ρ k = some (b, 0, nn)) (hb0 : w0.mine b) (hn : nn = (vs' ++ rest').length) (hc : Rels ρ cells' vs') (hw : ∀ j, SV.hasl j cells' → s.bk j ≠ .un) (hpl : (BK.live true sym' cells').pl)
    (ht : Turned W W' b (vs' ++ rest') ty) :
    Rep w0 N D (fun j => if j = fr then some (b, 0, nn) else ρ j) (s.app none { val := .u, ups := [(k, .dead), (fr, .live true sym' cells')] }) a W' := by
  have hkf : k ≠ fr := fun e => by rw [e, hfr] at hk; cases hk
  have hown : (s.bk k).own := by rw [hk]; trivial
  have hne : ∀ j, s.bk j ≠ .un → (if j = fr then some (b, 0, nn) else ρ j) = ρ j := fun j hj => by
    rw [if_neg (fun e : j = fr => hj (by rw [e]; exact hfr))]
  have hbk : ∀ j, (s.app none { val := .u, ups := [(k, .dead), (fr, .live true sym' cells')] }).bk j = if j = fr then .live true sym' cells' else if j = k then .dead else s.bk j := fun j => by
    simp [FS.app, upds]
  have hnun : ∀ j, s.bk j ≠ .un → (s.app none { val := .u, ups := [(k, .dead), (fr, .live true sym' cells')] }).bk j ≠ .un := fun j hj => by
    rw [hbk]; split
    · simp
    · split
      · simp
      · exact hj
  refine { defs := h.defs, size := h.size, sl := fun t => Rel.congr _ _ (fun j hj => hne j (h.wf1 t j hj)) (h.sl t), bk := fun j => ?_, apart := fun i j b1 n1 b2 n2 hij hi hj e1 e2 => ?_, wf1 := fun t j hj => hnun j (h.wf1 t j hj), wf2 := fun i j hj => ?_, kept := ?_, pl := fun j => (by rw [hbk]; split; exact hpl; split; trivial; exact h.pl j), old := fun i hi => ⟨(hne i (h.old i hi).2).trans (h.old i hi).1, hnun i (h.old i hi).2⟩ }
  · rw [hbk]
    by_cases hjf : j = fr
    · subst hjf
      rw [if_pos rfl]
      exact .inr ⟨b, vs', rest', ty, by simp [hn], hb0, Rels.congr _ _ (fun i hi => hne i (hw i hi)) hc, ht.this⟩
    · rw [if_neg hjf]
      by_cases hjk : j = k
      · rw [if_pos hjk]; trivial
      · rw [if_neg hjk]
        have hb := h.bk j
        refine BRep.congr (by simp [hjf]) (fun i hi => hne i (h.wf2 j i hi)) ?_
        cases hx : s.bk j with
        | un => trivial
        | dead => trivial
        | live own sy cs =>
          rw [hx] at hb
          cases own with
          | true =>
            rcases hb with hb | ⟨b₁, vs₁, rest₁, ty₁, e1, e2, e3, e4⟩
            · exact .inl hb
            · refine .inr ⟨b₁, vs₁, rest₁, ty₁, e1, e2, e3, ?_⟩
              rw [ht.other b₁ (h.apart j k b₁ _ b _ hjk (by rw [hx]; trivial) hown e1 hρ)]; exact e4
          | false =>
            rcases hb with hb | ⟨b₁, o, n, vs₁, e1, e2, e3, e4⟩
            · exact .inl hb
            · refine .inr ⟨b₁, o, n, vs₁, e1, e2, e3, fun i x hx => ?_⟩
              have hne : vs₁ ≠ [] := by rintro rfl; simp at hx
              have hnm := e2.2 hne
              have := e4 i x hx
              simp only [World.cell?] at this ⊢
              rw [ht.other b₁ (fun e => hnm (by rw [e]; exact hb0))]; exact this
  · rw [hbk] at hi hj
    have fix : ∀ i b1 n1, (if i = fr then BK.live true sym' cells' else if i = k then BK.dead else s.bk i).own → (if i = fr then some (b, 0, nn) else ρ i) = some (b1, 0, n1) → ∃ i', (i' = if i = fr then k else i) ∧ (s.bk i').own ∧ ρ i' = some (b1, 0, n1) := fun i b1 n1 hi e => by
      by_cases hif : i = fr
      · rw [if_pos hif] at e; cases e
        exact ⟨k, by simp [hif], hown, hρ⟩
      · rw [if_neg hif] at hi e
        by_cases hik : i = k
        · rw [if_pos hik] at hi; exact hi.elim
        · rw [if_neg hik] at hi; exact ⟨i, by simp [hif], hi, e⟩
    have notk : ∀ i, (if i = fr then BK.live true sym' cells' else if i = k then BK.dead else s.bk i).own → i ≠ k := fun i hi e => by
      subst e; rw [if_neg hkf, if_pos rfl] at hi; exact hi.elim
    obtain ⟨i', q1, q2, q3⟩ := fix i b1 n1 hi e1
    obtain ⟨j', r1, r2, r3⟩ := fix j b2 n2 hj e2
    refine h.apart i' j' b1 n1 b2 n2 (fun e => ?_) q2 r2 q3 r3
    have h1 := notk i hi
    have h2 := notk j hj
    rw [q1, r1] at e
    by_cases hif : i = fr <;> by_cases hjf : j = fr <;> simp [hif, hjf] at e <;> omega
  · rw [hbk] at hj
    have hj' : s.bk j ≠ .un := by
      by_cases hif : i = fr
      · rw [if_pos hif] at hj; exact hw j hj
      · rw [if_neg hif] at hj
        by_cases hik : i = k
        · rw [if_pos hik] at hj; exact hj.elim
        · rw [if_neg hik] at hj; exact h.wf2 i j hj
    exact hnun j hj'
  · exact ⟨ht.os.trans h.kept.os, ht.tape.trans h.kept.tape, ht.output.trans h.kept.output, by rw [ht.size]; exact h.kept.size, fun j hj ho => (ht.other j (fun e => (by rw [← e] at hb0; exact hb0.elim (Nat.not_le_of_lt hj) ho))).trans (h.kept.block j hj ho)⟩

theorem Rep.kill (h : Rep w0 N D ρ s a W) (k : Nat) (hk : s.bk k ≠ .un) : Rep w0 N D ρ (s.app none { val := .u, ups := [(k, .dead)] }) a W := by
  have hbk : ∀ j, (s.app none { val := .u, ups := [(k, .dead)] }).bk j = if j = k then .dead else s.bk j := fun j => by simp [FS.app, upds]
  have hnun : ∀ j, s.bk j ≠ .un → (s.app none { val := .u, ups := [(k, .dead)] }).bk j ≠ .un := fun j hj => by
    rw [hbk]; split
    · simp
    · exact hj
  refine { h with bk := fun j => ?_, apart := fun i j b1 n1 b2 n2 hij hi hj e1 e2 => ?_, wf1 := fun t j hj => hnun j (h.wf1 t j hj), wf2 := fun i j hj => ?_, pl := fun j => (by rw [hbk]; split; trivial; exact h.pl j), old := fun i hi => ⟨(h.old i hi).1, hnun i (h.old i hi).2⟩ }
  · rw [hbk]; split
    · trivial
    · exact h.bk j
  · rw [hbk] at hi hj
    have : ∀ i, (if i = k then BK.dead else s.bk i).own → (s.bk i).own := fun i hi => by
      split at hi
      · exact hi.elim
      · exact hi
    exact h.apart i j b1 n1 b2 n2 hij (this i hi) (this j hj) e1 e2
  · rw [hbk] at hj
    split at hj
    · exact hj.elim
    · exact hnun j (h.wf2 i j hj)

theorem appSrc_spec {off n es : Nat} {x : BK} {new : List SV} (h : appSrc off n es x = some new) : ∃ own cells, x = .live own false cells ∧ new = (cells.drop off).take (n * es) ∧ new.length = n * es := by
  unfold appSrc at h
  split at h
  · split at h
    · rename_i own cells hl
      simp only [Option.some.injEq] at h; subst h
      exact ⟨own, cells, rfl, rfl, hl⟩
    · cases h
  · cases h

/-- What is appended. -/
theorem src_cells (hrep : Rep w0 N D ρ s a W) {j off n es : Nat} {y : Value} (hy : Rel ρ (.s j off n es) y) {x : BK} (hx : s.bk j = x) {new : List SV} (hs : appSrc off n es x = some new) (hes : es ≠ 0) (hn : n ≠ 0) :
    ∃ (b : Addr) (c : Nat) (us : List Value), y = .slice (some b) n c ∧ Rels ρ new us ∧ us.length = n * es ∧ ∀ (i : Nat) (u : Value), us[i]? = some u → W.cell? (b.add i) = some u := by
  obtain ⟨own, cells, rfl, rfl, hl⟩ := appSrc_spec hs
  have hbk := hrep.bk j
  rw [hx] at hbk
  simp only [Rel] at hy
  rcases hy with ⟨h1, h2, rfl⟩ | ⟨b, o, nn, cap, off', hρ, rfl, hle, hcap, hoff⟩
  · exact (hn h2).elim
  · rcases hbk.read with ⟨he, _⟩ | ⟨b', o', n', vs, e1, ⟨e2, e2'⟩, _, e4⟩
    · rw [hρ] at he; cases he
    rw [hρ] at e1; cases e1
    have hrel : Rels ρ ((cells.drop off).take (n * es)) ((vs.drop off).take (n * es)) := Rels.take _ (Rels.drop _ e2)
    have hlen := hrel.length
    refine ⟨_, cap, (vs.drop off).take (n * es), rfl, hrel, by rw [← hlen]; exact hl, fun i x hi => ?_⟩
    have hi' := (List.getElem?_eq_some_iff.1 hi).1
    rw [hoff (by omega), add_eq]
    rw [List.getElem?_take_of_lt (by simp at hi'; omega), List.getElem?_drop] at hi
    have := e4 (off + i) x hi
    rw [show o + off + i = o + (off + i) by omega]; exact this

theorem src_has {j off n es k : Nat} {x : BK} (hx : s.bk j = x) {new : List SV} (hs : appSrc off n es x = some new) (hw : ∀ i, x.has i → s.bk i ≠ .un) (h : SV.hasl k new) : s.bk k ≠ .un := by
  obtain ⟨own, cells, rfl, rfl, hl⟩ := appSrc_spec hs
  exact hw k (hasl_drop (hasl_take h))

theorem append_app (s : FS) (dst : Option Nat) (v : SV) (ups : List (Nat × BK)) : s.app dst { val := v, ups := ups } = (s.app none { val := .u, ups := ups }).app dst { val := v } := by
  cases dst <;> rfl

theorem drew_below (W : World) : Below W.heap.size W W.drew := ⟨rfl, rfl, rfl, Nat.le_refl _, fun _ _ => rfl⟩

theorem grown_cap (e need old : Nat) (z : Value) (es : Nat) (vs : List Value) (hz : z.cells.size = es) (hl : vs.length = need * es) :
    grownCap W need old e * es ≤ (vs ++ (Builtin.zeroCells z.cells (grownCap W need old e - need)).toList).length := by
  have := grownCap_ge W need old e
  simp only [List.length_append, Array.length_toList, size_zeroCells, hz, hl]
  rw [← Nat.add_mul]
  exact Nat.mul_le_mul_right _ (by omega)

/-- append at a slice that has no block, or that has no room. -/
theorem append_grown (hrep : Rep w0 N D ρ s a W) {o : Oper} (hd : ∀ d, o.dst = some d → d < N) {fr : Nat} (hfr : s.bk fr = .un) (sym : Bool) {cells : List SV} {us : List Value} {e need old es : Nat} {z : Value}
    (hz : z.cells.size = es) (hl : us.length = need * es) (hc : Rels ρ cells us) (hw : ∀ j, SV.hasl j cells → s.bk j ≠ .un) (hpl : (BK.live true sym cells).pl)
    (hr : (execOp a.eval o).run P W = .ok (.value (.slice (some ⟨W.heap.size, 0, none⟩) need (grownCap W need old e))) (W.drew.alloc (.cells (us.toArray ++ Builtin.zeroCells z.cells (grownCap W need old e - need)) e))) :
    Does P w0 N D s a W o { val := .s fr 0 need es, ups := [(fr, .live true sym cells)] } := by
  have hrep' : Rep w0 N D ρ s a W.drew := hrep.grow (drew_below W)
  have hnew := hrep'.new hfr (cells := cells) (vs := us) (rest := (Builtin.zeroCells z.cells (grownCap W need old e - need)).toList) sym e hc hw hpl
  have hW : ({ W.drew with heap := W.drew.heap.push (.cells (us ++ (Builtin.zeroCells z.cells (grownCap W need old e - need)).toList).toArray e) } : World) = W.drew.alloc (.cells (us.toArray ++ Builtin.zeroCells z.cells (grownCap W need old e - need)) e) := by
    have : (us ++ (Builtin.zeroCells z.cells (grownCap W need old e - need)).toList).toArray = us.toArray ++ Builtin.zeroCells z.cells (grownCap W need old e - need) := by apply Array.ext'; simp
    rw [this]; rfl
  rw [hW] at hnew
  refine ⟨_, _, _, (fun j => if j = fr then some (W.drew.heap.size, 0, (us ++ (Builtin.zeroCells z.cells (grownCap W need old e - need)).toList).length) else ρ j), hr, .inl rfl, ?_⟩
  rw [append_app]
  refine hnew.put o.dst hd ?_ (fun k hk => ?_)
  · simp only [Rel]
    refine .inr ⟨W.heap.size, 0, (us ++ (Builtin.zeroCells z.cells (grownCap W need old e - need)).toList).length, grownCap W need old e, 0, (if_pos trivial), rfl, grownCap_ge W need old e, ?_, fun _ => rfl⟩
    have := grown_cap (W := W) e need old z es us hz hl
    omega
  · simp only [SV.has] at hk
    subst hk
    simp [FS.app, upds]

theorem Does.killed {o : Oper} {k fr : Nat} {x : BK} {v : SV} (hne : k ≠ fr) (h : Does P w0 N D (s.app none { val := .u, ups := [(k, .dead)] }) a W o { val := v, ups := [(fr, x)] }) :
    Does P w0 N D s a W o { val := v, ups := [(k, .dead), (fr, x)] } := h

/-- A new name for no block. -/
theorem Rep.empty (h : Rep w0 N D ρ s a W) {fr : Nat} (hfr : s.bk fr = .un) : Rep w0 N D (fun j => if j = fr then none else ρ j) (s.app none { val := .u, ups := [(fr, .live true true [])] }) a W := by
  have hne : ∀ j, s.bk j ≠ .un → (if j = fr then none else ρ j) = ρ j := fun j hj => by
    rw [if_neg (fun e : j = fr => hj (by rw [e]; exact hfr))]
  have hbk : ∀ j, (s.app none { val := .u, ups := [(fr, .live true true [])] }).bk j = if j = fr then .live true true [] else s.bk j := fun j => by simp [FS.app, upds]
  have hnun : ∀ j, s.bk j ≠ .un → (s.app none { val := .u, ups := [(fr, .live true true [])] }).bk j ≠ .un := fun j hj => by
    rw [hbk]; split
    · simp
    · exact hj
  refine { defs := h.defs, size := h.size, sl := fun t => Rel.congr _ _ (fun j hj => hne j (h.wf1 t j hj)) (h.sl t), bk := fun j => ?_, apart := fun i j b1 n1 b2 n2 hij hi hj e1 e2 => ?_, wf1 := fun t j hj => hnun j (h.wf1 t j hj), wf2 := fun i j hj => ?_, kept := h.kept, pl := fun j => (by rw [hbk]; split; exact (fun k hk => by simp [SV.hasl] at hk); exact h.pl j), old := fun i hi => ⟨(hne i (h.old i hi).2).trans (h.old i hi).1, hnun i (h.old i hi).2⟩ }
  · rw [hbk]
    by_cases hjf : j = fr
    · subst hjf
      rw [if_pos rfl]
      exact .inl ⟨by simp, rfl⟩
    · rw [if_neg hjf]
      exact BRep.congr (by simp [hjf]) (fun i hi => hne i (h.wf2 j i hi)) (h.bk j)
  · rw [hbk] at hi hj
    by_cases hif : i = fr
    · rw [if_pos hif] at e1; cases e1
    · by_cases hjf : j = fr
      · rw [if_pos hjf] at e2; cases e2
      · rw [if_neg hif] at hi e1; rw [if_neg hjf] at hj e2
        exact h.apart i j b1 n1 b2 n2 hij hi hj e1 e2
  · rw [hbk] at hj
    by_cases hif : i = fr
    · rw [if_pos hif] at hj; simp [BK.has, SV.hasl] at hj
    · rw [if_neg hif] at hj; exact hnun j (h.wf2 i j hj)

/-- append behind an own block. -/
theorem append_own (hrep : Rep w0 N D ρ s a W) {o : Oper} {args : Array Operand} {t' e' : TypeId} (hop : o.op = .call { callee := .builtin .append, args := args, argTypes := #[t', t'] }) (hd : ∀ d, o.dst = some d → d < N)
    {fr : Nat} (hfr : s.bk fr = .un) {ne : TypeInfo} {ze : Value} {es1 : Nat} (h2 : P.underlying t' = some (.slice e')) (g1 : P.info? e' = some ne) (g3 : ne.zero = some ze) (hsz : ne.size = es1) (hz' : ze.cells.size = es1)
    {k len n : Nat} {sym sym' : Bool} {cells new : List SV} (hkb : s.bk k = .live true sym cells) (hkf : k ≠ fr) (hcl : cells.length = len * es1) (hn : n ≠ 0) (hn1 : len + n ≤ 2 ^ 40) (hn2 : (len + n) * ne.bytes ≤ 2 ^ 47)
    {y1 : Value} {b : Addr} {c : Nat} {us : List Value} (r1 : Rel ρ (.s k 0 len es1) y1) (hargs : args.toList.map a.eval = [y1, .slice (some b) n c]) (hrl : Rels ρ new us) (hlen : us.length = n * es1)
    (hcell : ∀ (i : Nat) (u : Value), us[i]? = some u → W.cell? (b.add i) = some u) (hone : new.all SV.one = true) (hnewwf : ∀ i, SV.hasl i new → s.bk i ≠ .un) (hplc : (BK.live true sym' (cells ++ new)).pl) :
    Does P w0 N D s a W o { val := .s fr 0 (len + n) es1, ups := [(k, .dead), (fr, .live true sym' (cells ++ new))] } := by
  have hcellwf : ∀ i, SV.hasl i (cells ++ new) → s.bk i ≠ .un := fun i hi => by
    rcases hasl_append hi with hi | hi
    · exact hrep.wf2 k i (by rw [hkb]; exact hi)
    · exact hnewwf i hi
  have hkill := hrep.kill k (by rw [hkb]; simp)
  have hfr' : (s.app none { val := .u, ups := [(k, .dead)] }).bk fr = .un := by simp [FS.app, upds, Ne.symm hkf, hfr]
  have hwf' : ∀ i, SV.hasl i (cells ++ new) → (s.app none { val := .u, ups := [(k, .dead)] }).bk i ≠ .un := fun i hi => by
    simp only [FS.app, upds]
    split
    · simp
    · exact hcellwf i hi
  have hbk := hrep.bk k
  rw [hkb] at hbk
  have hones : ∀ v ∈ us, v.oneCell' = true := Rels.ones hrl hone
  simp only [Rel] at r1
  rcases r1 with ⟨q1, rfl, rfl⟩ | ⟨b1, o1, nn1, cap, off', q1, rfl, q3, q4, q5⟩
  · -- nil after all
    have hcn : cells = [] := List.eq_nil_of_length_eq_zero (by simpa using hcl)
    subst hcn
    have hev : args.map a.eval = #[.slice none 0 0, .slice (some b) n c] := by apply Array.ext'; simpa using hargs
    simp only [Nat.zero_add, List.nil_append] at hn1 hn2 hwf' hplc ⊢
    refine Does.killed hkf (append_grown hkill hd hfr' sym' (old := 0) (e := e') (z := ze) hz' hlen hrl hwf' hplc ?_)
    have hr := run_append_nil (P := P) W t' o.type e' ne ze h2 g1 g3 b n c us (by rw [hsz]; exact hlen) hcell (by omega) (by omega) (by omega)
    simp only [execOp, hop, resolve, invoke, builtin, Sem.run_bind, Sem.run_pure, Result.andThen_ok, hev, hr]
  · rcases hbk with ⟨x1, _⟩ | ⟨b2, vs, rest, ty, x1, x2, x3, x4⟩
    · rw [q1] at x1; cases x1
    rw [q1] at x1; cases x1
    have hvl : vs.length = len * es1 := by rw [← x3.length]; exact hcl
    have hev : args.map a.eval = #[.slice (some ⟨b1, 0 + off', none⟩) len cap, .slice (some b) n c] := by apply Array.ext'; simpa using hargs
    by_cases hroom : len + n ≤ cap
    · -- in place
      have ho : off' = 0 := q5 (by omega)
      subst ho
      have hfit : len * es1 + us.length ≤ (vs ++ rest).length := by
        rw [hlen, ← Nat.add_mul]
        have := Nat.mul_le_mul_right es1 hroom
        omega
      obtain ⟨W', hst, hturn⟩ := run_storeCells (P := P) (b := b1) (o := 0 + (0 + len * es1)) (ty := ty) us 0 W (vs ++ rest) x4 hones (by simpa using hfit)
      have hsp : splice (vs ++ rest) (0 + (0 + len * es1) + 0) us = (vs ++ us) ++ rest.drop us.length := by
        unfold splice
        simp only [Nat.zero_add, Nat.add_zero]
        rw [← hvl, List.take_left, List.drop_append]
        simp
      rw [hsp] at hturn
      have hrun : (execOp a.eval o).run P W = .ok (.value (.slice (some ⟨b1, 0, none⟩) (len + n) cap)) W' := by
        have hfc := run_firstCells_some (P := P) W es1 n b n c us hlen hcell
        simp only [execOp, hop, resolve, invoke, builtin, Sem.run_bind, Sem.run_pure, Result.andThen_ok, hev]
        simp only [Nat.zero_add] at hst
        simp [Builtin.append_, run_underlying h2, sizeOf, typeInfo, g1, Builtin.lenOf, hroom, hfc, Addr.add_lit, hsz, hst]
      have hin := hrep.inplace (cells' := cells ++ new) (vs' := vs ++ us) (rest' := rest.drop us.length) (sym' := sym') hkb hfr q1 x2 (by simp at hfit ⊢; omega) (Rels.append x3 hrl) hcellwf hplc hturn
      refine ⟨_, _, _, (fun j => if j = fr then some (b1, 0, (vs ++ rest).length) else ρ j), hrun, .inl rfl, ?_⟩
      rw [append_app]
      refine hin.put o.dst hd ?_ (fun i hi => ?_)
      · simp only [Rel]
        exact .inr ⟨b1, 0, (vs ++ rest).length, cap, 0, by simp, rfl, hroom, q4, fun _ => rfl⟩
      · simp only [SV.has] at hi
        subst hi
        simp [FS.app, upds]
    · -- it grows
      have hlen' : (vs ++ us).length = (len + n) * es1 := by rw [List.length_append, hvl, hlen, Nat.add_mul]
      have holds : ∀ (i : Nat) (u : Value), vs[i]? = some u → W.cell? ((Addr.mk b1 (0 + off') none).add i) = some u := fun i u hi => by
        have hi' := (List.getElem?_eq_some_iff.1 hi).1
        have hc0 : cap ≠ 0 := fun e => by
          have : len = 0 := by omega
          subst this; simp at hvl; subst hvl; simp at hi'
        rw [q5 hc0, add_eq]
        have hc1 : W.cell? ⟨b1, i, none⟩ = some u := by
          have hg : (vs ++ rest)[i]? = some u := by rw [List.getElem?_append_left hi', hi]
          simp [World.cell?, x4, hg]
        simpa using hc1
      refine Does.killed hkf (append_grown hkill hd hfr' sym' (old := cap) (e := e') (z := ze) hz' hlen' (Rels.append x3 hrl) hwf' hplc ?_)
      have hr := run_append_grow (P := P) W t' o.type e' ne ze h2 g1 g3 ⟨b1, 0 + off', none⟩ len cap vs (by rw [hsz]; exact hvl) holds b n c us (by rw [hsz]; exact hlen) hcell (by omega) (by omega) (growslice_fits (by omega) (by omega))
      simp only [execOp, hop, resolve, invoke, builtin, Sem.run_bind, Sem.run_pure, Result.andThen_ok, hev, hr]
      simp

theorem does_append (hT : TOk P T) (hrep : Rep w0 N D ρ s a W) {o : Oper} {args : Array Operand} {ts : Array TypeId} (hop : o.op = .call { callee := .builtin .append, args := args, argTypes := ts }) (hd : ∀ d, o.dst = some d → d < N)
    {fr : Nat} (hfr : s.bk fr = .un) {xs : List SV} (hxs : xs = args.toList.map (ev s.sl)) {bs : List BK} (hbs : bs = (opBlk o.op xs).map s.bk) {e : Eff} {obs : List Ob}
    (h : symAppend T ts.toList xs bs fr = some (e, obs)) (hob : Obs P obs) : Does P w0 N D s a W o e := by
  have hrels : Rels ρ xs (args.toList.map a.eval) := by rw [hxs]; exact evs_rel hrep _
  have hwfx : ∀ k, SV.hasl k xs → s.bk k ≠ .un := fun k hk => evs_wf hrep (by rw [hxs] at hk; exact hk)
  unfold symAppend at h
  split at h
  case h_2 => cases h
  rename_i t t' hts
  split at h
  case isFalse => cases h
  rename_i htt
  subst htt
  split at h
  · cases h
  rename_i i hTi
  split at h
  case h_2 => cases h
  rename_i el es by0 hk
  split at h
  · cases h
  rename_i ei hTe
  split at h
  case isFalse => cases h
  rename_i hes
  obtain ⟨hes, hsz, hzl⟩ := hes
  obtain ⟨nn, d, z0, h1, h2, h3, rfl⟩ := conv_spec (hT _ _ hTi)
  obtain ⟨ne, de, ze, g1, g2, g3, rfl⟩ := conv_spec (hT _ _ hTe)
  simp only at hk hsz hzl h
  have htsA : ts = #[t', t'] := by apply Array.ext'; simpa using hts
  cases d with
  | slice e' =>
    simp only [kindOf, TK.slice.injEq] at hk
    obtain ⟨rfl, he, -⟩ := hk
    clear he
    have hz' : ze.cells.size = es := by rw [← hzl]; simp
    split at h
    · -- a nil slice
      rename_i j off n es' src
      split at h
      case isFalse => cases h
      rename_i hc
      obtain ⟨rfl, hn, hn1, hn2⟩ := hc
      split at h
      case h_2 => cases h
      rename_i new hs
      split at h
      case isFalse => cases h
      rename_i hone
      simp only [Option.some.injEq, Prod.mk.injEq] at h
      obtain ⟨rfl, rfl⟩ := h
      obtain ⟨y1, l1, hargs⟩ : ∃ y1 l1, args.toList.map a.eval = y1 :: l1 := by
        cases hm : args.toList.map a.eval with
        | nil => rw [hm] at hrels; simp [Rels] at hrels
        | cons y1 l1 => exact ⟨y1, l1, rfl⟩
      rw [hargs] at hrels
      simp only [Rels] at hrels
      obtain ⟨r1, r2⟩ := hrels
      cases l1 with
      | nil => simp [Rels] at r2
      | cons y2 l2 =>
      simp only [Rels] at r2
      obtain ⟨r2, r3⟩ := r2
      cases l2 with
      | cons _ _ => simp [Rels] at r3
      | nil =>
      simp only [Rel] at r1
      subst r1
      have hsrc : s.bk j = src := by rw [hop] at hbs; simpa [opBlk] using hbs.symm
      obtain ⟨b, c, us, rfl, hrl, hlen, hcell⟩ := src_cells hrep r2 hsrc hs hes hn
      have hev : args.map a.eval = #[.slice none 0 0, .slice (some b) n c] := by apply Array.ext'; simpa using hargs
      refine append_grown hrep hd hfr false (old := 0) (e := e') (z := ze) hz' hlen hrl (fun k hk => src_has hsrc hs (fun i hi => hrep.wf2 j i (by rw [hsrc]; exact hi)) hk) trivial ?_
      have hr := run_append_nil (P := P) W t' o.type e' ne ze h2 g1 g3 b n c us (by rw [hsz]; exact hlen) hcell (by omega) (by omega) (by omega)
      simp only [execOp, hop, resolve, invoke, builtin, Sem.run_bind, Sem.run_pure, Result.andThen_ok, hev, htsA, hr]
    · -- an own block
      rename_i k len es1 j off n es' sym cells src
      split at h
      case isFalse => cases h
      rename_i hc
      obtain ⟨rfl, rfl, hn⟩ := hc
      split at h
      case h_2 => cases h
      rename_i new hs
      split at h
      case isFalse => cases h
      rename_i hone
      have hh : ∃ hfacts : (cells.length = len * es1 ∧ len + n ≤ 2 ^ 40 ∧ (len + n) * ne.bytes ≤ 2 ^ 47) ∧ (BK.live true sym new).pl, e = { val := .s fr 0 (len + n) es1, ups := [(k, .dead), (fr, .live true sym (cells ++ new))] } := by
        cases sym with
        | false =>
          simp only at h
          split at h
          · rename_i hf
            simp only [Option.some.injEq, Prod.mk.injEq] at h
            exact ⟨⟨hf, trivial⟩, h.1.symm⟩
          · cases h
        | true =>
          simp only at h
          split at h
          · cases h
          · rename_i hpl
            simp only [Option.some.injEq, Prod.mk.injEq] at h
            obtain ⟨rfl, rfl⟩ := h
            exact ⟨⟨hob.1, plain_all (by simpa using hpl)⟩, rfl⟩
      obtain ⟨⟨⟨hcl, hn1, hn2⟩, hpln⟩, rfl⟩ := hh
      clear h
      obtain ⟨y1, l1, hargs⟩ : ∃ y1 l1, args.toList.map a.eval = y1 :: l1 := by
        cases hm : args.toList.map a.eval with
        | nil => rw [hm] at hrels; simp [Rels] at hrels
        | cons y1 l1 => exact ⟨y1, l1, rfl⟩
      rw [hargs] at hrels
      simp only [Rels] at hrels
      obtain ⟨r1, r2⟩ := hrels
      cases l1 with
      | nil => simp [Rels] at r2
      | cons y2 l2 =>
      simp only [Rels] at r2
      obtain ⟨r2, r3⟩ := r2
      cases l2 with
      | cons _ _ => simp [Rels] at r3
      | nil =>
      have hbs' : s.bk k = .live true sym cells ∧ s.bk j = src := by
        rw [hop] at hbs; simp only [opBlk, List.map_cons, List.map_nil, List.cons.injEq, and_true] at hbs; exact ⟨hbs.1.symm, hbs.2.symm⟩
      obtain ⟨hkb, hsrc⟩ := hbs'
      have hkf : k ≠ fr := fun e => by rw [e, hfr] at hkb; cases hkb
      obtain ⟨b, c, us, rfl, hrl, hlen, hcell⟩ := src_cells hrep r2 hsrc hs hes hn
      have hnewwf : ∀ i, SV.hasl i new → s.bk i ≠ .un := fun i hi => src_has hsrc hs (fun i hi => hrep.wf2 j i (by rw [hsrc]; exact hi)) hi
      have hplc : (BK.live true sym (cells ++ new)).pl := by
        have h1 := hrep.pl k
        rw [hkb] at h1
        cases sym with
        | false => trivial
        | true =>
          intro j hj
          rcases hasl_append hj with hj | hj
          · exact h1 j hj
          · exact hpln j hj
      exact append_own hrep (by rw [hop, htsA]) hd hfr h2 g1 g3 hsz hz' hkb hkf hcl hn hn1 hn2 r1 hargs hrl hlen hcell hone hnewwf hplc
    · cases h
  | _ => simp [kindOf] at hk

theorem run_append_none (t ty e : TypeId) (i : TypeInfo) (ht : P.underlying t = some (.slice e)) (hi : P.info? e = some i) (base : Option Addr) (len cap : Nat) (hle : len ≤ cap) (y : Value) (hy : (∃ b c, y = .slice b 0 c)) :
    (Builtin.append_ #[t, t] ty #[.slice base len cap, y]).run P W = .ok (.slice base len cap) W := by
  obtain ⟨b, c, rfl⟩ := hy
  have hf : (Builtin.firstCells i.size 0 (.slice b 0 c)).run P W = .ok #[] W := by
    cases b with
    | none => exact run_firstCells_none _ _ _ _ _
    | some b => exact run_firstCells_some (P := P) W i.size 0 b 0 c [] (by simp) (by simp)
  cases base with
  | none => simp [Builtin.append_, run_underlying ht, sizeOf, typeInfo, hi, Builtin.lenOf, hle, hf]
  | some base => simp [Builtin.append_, run_underlying ht, sizeOf, typeInfo, hi, Builtin.lenOf, hle, hf, storeCells]

/-- append of a list. -/
theorem does_appendL (hT : TOk P T) (hrep : Rep w0 N D ρ s a W) {o : Oper} {args : Array Operand} {ts : Array TypeId} (hop : o.op = .call { callee := .builtin .append, args := args, argTypes := ts }) (hd : ∀ d, o.dst = some d → d < N)
    {fr : Nat} (hfr : s.bk fr = .un) {xs : List SV} (hxs : xs = args.toList.map (ev s.sl)) {bs : List BK} (hbs : bs = (opBlk o.op xs).map s.bk) {e : Eff} {obs : List Ob}
    (h : symAppendL T ts.toList xs bs fr = some (e, obs)) (hob : Obs P obs) : Does P w0 N D s a W o e := by
  have hrels : Rels ρ xs (args.toList.map a.eval) := by rw [hxs]; exact evs_rel hrep _
  unfold symAppendL at h
  split at h
  case h_2 => cases h
  rename_i t t' hts
  split at h
  case isFalse => cases h
  rename_i htt
  subst htt
  split at h
  · cases h
  rename_i i hTi
  split at h
  case h_2 => cases h
  rename_i el es by0 hk
  split at h
  · cases h
  rename_i ei hTe
  split at h
  case isFalse => cases h
  rename_i hes
  obtain ⟨hes, hsz, hzl⟩ := hes
  obtain ⟨nn, d, z0, h1, h2, h3, rfl⟩ := conv_spec (hT _ _ hTi)
  obtain ⟨ne, de, ze, g1, g2, g3, rfl⟩ := conv_spec (hT _ _ hTe)
  simp only at hk hsz hzl h
  have htsA : ts = #[t', t'] := by apply Array.ext'; simpa using hts
  cases d with
  | slice e' =>
    simp only [kindOf, TK.slice.injEq] at hk
    obtain ⟨rfl, he, -⟩ := hk
    clear he
    have hz' : ze.cells.size = es := by rw [← hzl]; simp
    -- what is appended, if it is anything
    have src : ∀ {j n : Nat} {own : Bool} {new : List SV} {y : Value}, Rel ρ (.s j 0 n es) y → s.bk j = .live own true new → new.length = n * es → n ≠ 0 →
        ∃ (b : Addr) (c : Nat) (us : List Value), y = .slice (some b) n c ∧ Rels ρ new us ∧ us.length = n * es ∧ ∀ (i : Nat) (u : Value), us[i]? = some u → W.cell? (b.add i) = some u := by
      intro j n own new y hy hx hl hn
      have hbk := hrep.bk j
      rw [hx] at hbk
      simp only [Rel] at hy
      rcases hy with ⟨h1, h2, rfl⟩ | ⟨b, o, nn, cap, off', hρ, rfl, hle, hcap, hoff⟩
      · exact (hn h2).elim
      · rcases hbk.read with ⟨he, _⟩ | ⟨b', o', n', vs, e1, ⟨e2, e2'⟩, _, e4⟩
        · rw [hρ] at he; cases he
        rw [hρ] at e1; cases e1
        refine ⟨_, cap, vs, rfl, e2, by rw [← e2.length]; exact hl, fun i x hi => ?_⟩
        rw [hoff (by omega), add_eq]
        simpa using e4 i x hi
    have srcwf : ∀ {j : Nat} {own : Bool} {new : List SV}, s.bk j = .live own true new → ∀ i, SV.hasl i new → s.bk i ≠ .un := fun hx i hi => hrep.wf2 _ i (by rw [hx]; exact hi)
    have srcpl : ∀ {j : Nat} {own : Bool} {new : List SV}, s.bk j = .live own true new → Plain new := fun {j own new} hx => by
      have := hrep.pl j; rw [hx] at this; exact this
    have none' : ∀ {j es : Nat} {y : Value}, Rel ρ (.s j 0 0 es) y → ∃ b c, y = .slice b 0 c := by
      intro j es y hy
      simp only [Rel] at hy
      rcases hy with ⟨h1, h2, rfl⟩ | ⟨b, o, nn, cap, off', hρ, rfl, hle, hcap, hoff⟩
      · exact ⟨_, _, rfl⟩
      · exact ⟨_, _, rfl⟩
    split at h
    · -- a nil slice
      rename_i j n es' own new
      split at h
      case isFalse => cases h
      rename_i hc
      subst hc
      simp only [Option.some.injEq, Prod.mk.injEq] at h
      obtain ⟨rfl, rfl⟩ := h
      obtain ⟨hnl, hone, hn1, hn2⟩ := hob.1
      obtain ⟨y1, l1, hargs⟩ : ∃ y1 l1, args.toList.map a.eval = y1 :: l1 := by
        cases hm : args.toList.map a.eval with
        | nil => rw [hm] at hrels; simp [Rels] at hrels
        | cons y1 l1 => exact ⟨y1, l1, rfl⟩
      rw [hargs] at hrels
      simp only [Rels] at hrels
      obtain ⟨r1, r2⟩ := hrels
      cases l1 with
      | nil => simp [Rels] at r2
      | cons y2 l2 =>
      simp only [Rels] at r2
      obtain ⟨r2, r3⟩ := r2
      cases l2 with
      | cons _ _ => simp [Rels] at r3
      | nil =>
      simp only [Rel] at r1
      subst r1
      have hsrc : s.bk j = .live own true new := by rw [hop] at hbs; simpa [opBlk] using hbs.symm
      by_cases hn : n = 0
      · subst hn
        have hnil : new = [] := List.eq_nil_of_length_eq_zero (by simpa using hnl)
        subst hnil
        have hev : args.map a.eval = #[.slice none 0 0, y2] := by apply Array.ext'; simpa using hargs
        have hr := run_append_none (P := P) (W := W) t' o.type e' ne h2 g1 none 0 0 (Nat.le_refl _) y2 (none' r2)
        refine ⟨.value (.slice none 0 0), .slice none 0 0, W, (fun j => if j = fr then none else ρ j), (by simp only [execOp, hop, resolve, invoke, builtin, Sem.run_bind, Sem.run_pure, Result.andThen_ok, hev, htsA, hr]), .inl rfl, ?_⟩
        rw [append_app]
        refine (hrep.empty hfr).put o.dst hd ?_ (fun i hi => ?_)
        · simp only [Rel]; exact .inl ⟨by simp, trivial, trivial⟩
        · simp only [SV.has] at hi
          subst hi
          simp [FS.app, upds]
      · obtain ⟨b, c, us, rfl, hrl, hlen, hcell⟩ := src r2 hsrc hnl hn
        have hev : args.map a.eval = #[.slice none 0 0, .slice (some b) n c] := by apply Array.ext'; simpa using hargs
        refine append_grown hrep hd hfr true (old := 0) (e := e') (z := ze) hz' hlen hrl (srcwf hsrc) (srcpl hsrc) ?_
        have hr := run_append_nil (P := P) W t' o.type e' ne ze h2 g1 g3 b n c us (by rw [hsz]; exact hlen) hcell (by omega) (by omega) (by omega)
        simp only [execOp, hop, resolve, invoke, builtin, Sem.run_bind, Sem.run_pure, Result.andThen_ok, hev, htsA, hr]
    · -- an own block
      rename_i k len es1 j n es' sym cells own new
      split at h
      case isFalse => cases h
      rename_i hc
      obtain ⟨rfl, rfl, hpl0⟩ := hc
      simp only [Option.some.injEq, Prod.mk.injEq] at h
      obtain ⟨rfl, rfl⟩ := h
      obtain ⟨hcl, hnl, hone, hn1, hn2⟩ := hob.1
      obtain ⟨y1, l1, hargs⟩ : ∃ y1 l1, args.toList.map a.eval = y1 :: l1 := by
        cases hm : args.toList.map a.eval with
        | nil => rw [hm] at hrels; simp [Rels] at hrels
        | cons y1 l1 => exact ⟨y1, l1, rfl⟩
      rw [hargs] at hrels
      simp only [Rels] at hrels
      obtain ⟨r1, r2⟩ := hrels
      cases l1 with
      | nil => simp [Rels] at r2
      | cons y2 l2 =>
      simp only [Rels] at r2
      obtain ⟨r2, r3⟩ := r2
      cases l2 with
      | cons _ _ => simp [Rels] at r3
      | nil =>
      have hbs' : s.bk k = .live true sym cells ∧ s.bk j = .live own true new := by
        rw [hop] at hbs; simp only [opBlk, List.map_cons, List.map_nil, List.cons.injEq, and_true] at hbs; exact ⟨hbs.1.symm, hbs.2.symm⟩
      obtain ⟨hkb, hsrc⟩ := hbs'
      have hkf : k ≠ fr := fun e => by rw [e, hfr] at hkb; cases hkb
      have hplk : Plain cells := by
        cases sym with
        | true => have := hrep.pl k; rw [hkb] at this; exact this
        | false => exact plain_all (by simpa using hpl0)
      have hplc : (BK.live true true (cells ++ new)).pl := by
        intro i hi
        rcases hasl_append hi with hi | hi
        · exact hplk i hi
        · exact srcpl hsrc i hi
      by_cases hn : n = 0
      · subst hn
        have hnil : new = [] := List.eq_nil_of_length_eq_zero (by simpa using hnl)
        subst hnil
        simp only [Rel] at r1
        rcases r1 with ⟨q1, rfl, rfl⟩ | ⟨b1, o1, nn1, cap, off', q1, rfl, q3, q4, q5⟩
        · have hcn : cells = [] := List.eq_nil_of_length_eq_zero (by simpa using hcl)
          subst hcn
          have hev : args.map a.eval = #[.slice none 0 0, y2] := by apply Array.ext'; simpa using hargs
          have hr := run_append_none (P := P) (W := W) t' o.type e' ne h2 g1 none 0 0 (Nat.le_refl _) y2 (none' r2)
          have hfr' : (s.app none { val := .u, ups := [(k, .dead)] }).bk fr = .un := by simp [FS.app, upds, Ne.symm hkf, hfr]
          refine Does.killed hkf ⟨.value (.slice none 0 0), .slice none 0 0, W, (fun j => if j = fr then none else ρ j), (by simp only [execOp, hop, resolve, invoke, builtin, Sem.run_bind, Sem.run_pure, Result.andThen_ok, hev, htsA, hr]), .inl rfl, ?_⟩
          rw [append_app]
          refine ((hrep.kill k (by rw [hkb]; simp)).empty hfr').put o.dst hd ?_ (fun i hi => ?_)
          · simp only [Rel]; exact .inl ⟨by simp, trivial, trivial⟩
          · simp only [SV.has] at hi
            subst hi
            simp [FS.app, upds]
        · have hbk := hrep.bk k
          rw [hkb] at hbk
          rcases hbk with ⟨x1, _⟩ | ⟨b2, vs, rest, ty, x1, x2, x3, x4⟩
          · rw [q1] at x1; cases x1
          rw [q1] at x1; cases x1
          have hev : args.map a.eval = #[.slice (some ⟨b1, 0 + off', none⟩) len cap, y2] := by apply Array.ext'; simpa using hargs
          have hr := run_append_none (P := P) (W := W) t' o.type e' ne h2 g1 (some ⟨b1, 0 + off', none⟩) len cap q3 y2 (none' r2)
          have hturn : Turned W W b1 (vs ++ rest) ty := ⟨rfl, rfl, rfl, rfl, fun _ _ => rfl, x4⟩
          have hin := hrep.inplace (cells' := cells ++ []) (vs' := vs) (rest' := rest) (sym' := true) hkb hfr q1 x2 rfl (by simpa using x3) (fun i hi => hrep.wf2 k i (by rw [hkb]; simp only [List.append_nil] at hi; exact hi)) hplc hturn
          refine ⟨.value (.slice (some ⟨b1, 0 + off', none⟩) len cap), .slice (some ⟨b1, 0 + off', none⟩) len cap, W, (fun j => if j = fr then some (b1, 0, (vs ++ rest).length) else ρ j), (by simp only [execOp, hop, resolve, invoke, builtin, Sem.run_bind, Sem.run_pure, Result.andThen_ok, hev, htsA, hr]), .inl rfl, ?_⟩
          rw [append_app]
          refine hin.put o.dst hd ?_ (fun i hi => ?_)
          · simp only [Rel]
            exact .inr ⟨b1, 0, (vs ++ rest).length, cap, off', by simp, rfl, by simpa using q3, q4, q5⟩
          · simp only [SV.has] at hi
            subst hi
            simp [FS.app, upds]
      · obtain ⟨b, c, us, rfl, hrl, hlen, hcell⟩ := src r2 hsrc hnl hn
        exact append_own hrep (by rw [hop, htsA]) hd hfr h2 g1 g3 hsz hz' hkb hkf hcl hn hn1 hn2 r1 hargs hrl hlen hcell hone (srcwf hsrc) hplc
    · cases h
  | _ => simp [kindOf] at hk

end
end Go.Aw
