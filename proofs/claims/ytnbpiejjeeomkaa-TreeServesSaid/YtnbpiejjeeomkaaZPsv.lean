/-
  TreeServes: for every list of charged panels and every question the law returns true, and its arguments read behind the call as they read before. No condition.
-/
import Derived.Test.YtnbpiejjeeomkaaVPsv6
import Derived.ProofKit
import Derived.OpenShut
namespace Go.Proofs.Ytnbpiejjeeomkaa
open Go.Proofs Go.Aw Go.RowKit
set_option maxRecDepth 100000
set_option linter.unusedVariables false
set_option linter.unusedSimpArgs false

/-! ### Arguments of mixed cells: numbers, truth values, slices of flat elements -/
open Go.ChangeShapes Go.WideShapes Go.ChangeAt
inductive CK where
  | i | b | s (es : Nat)
deriving DecidableEq
/-- what the cells of a type are -/
def kindsB (P : Program) : Nat → TypeId → Option (List CK)
  | 0, _ => none
  | k + 1, t => match P.underlying t with
    | some (.int .i64) => some [.i]
    | some .bool => some [.b]
    | some (.slice e) => bif flatB P 6 e then some [.s (P.cellsOf e)] else none
    | some (.struct fs) => fs.toList.foldr (fun f r o => bif f.offset == o then match kindsB P k f.type with
        | some a => bif a.length == P.cellsOf f.type then (r (o + P.cellsOf f.type)).map (a ++ ·) else none
        | none => none else none) (fun o => bif o == P.cellsOf t then some [] else none) 0
    | _ => none
section
variable {H : Type} {enc : TypeId × Value → H} {P : Program} {w : World}
theorem open_listC {e : TypeId} {t : TypeId} {v : Value} {fuel : Nat} {x : DataW H × List MemPlace} (ht : P.underlying t = some (.slice e)) (hf : flatB P 6 e = true)
    (hsp : ∀ a len cap, v = .slice (some a) len cap → a.spot = none) (hx : DataW.trod enc P w 0 (fun _ => true) true fuel t [v] = some x) : ∃ nss, SliceOf w (P.cellsOf e) v nss := by
  rcases Go.Deep.open_slice ht hx with ⟨hc, _⟩ | ⟨a', len', cap', m, n, D, Pl, hc, hb, hl, hm, hmm, _, hall⟩
  · simp only [List.cons.injEq, and_true] at hc
    exact ⟨[], fun ns h => by simp at h, by simp, .inl ⟨hc, rfl⟩⟩
  · simp only [List.cons.injEq, and_true] at hc
    subst hc
    have hsp := hsp a' len' cap' rfl
    obtain ⟨b, o, sp⟩ := a'
    simp only at hsp
    subst hsp
    simp only [if_true] at hmm
    obtain ⟨N, hN⟩ := Go.Deep.choose_lt (α := List Int) (p := fun i ns => ns.length = P.cellsOf e ∧ ∀ (q : Nat) (x : Value), (ns.map (Value.int .i64))[q]? = some x → w.cell? ⟨b, o + i * P.cellsOf e + q, none⟩ = some x) (n := len') (fun i hi => by
      obtain ⟨cs', h1, h2⟩ := hall i (by omega)
      obtain ⟨_, ns, rfl⟩ := flat_trod 6 e n cs' _ hf h2
      obtain ⟨_, hlen, hcell⟩ := World.cells?_some h1
      refine ⟨ns, by simpa using hlen, fun q x hq => ?_⟩
      have hq' := (List.getElem?_eq_some_iff.1 hq).1
      have := hcell q (by rw [← hlen]; omega)
      rw [Go.Aw.add_eq, Go.Aw.add_eq] at this
      rw [this, hq])
    refine ⟨(List.range len').map N, fun ns h => ?_, ?_, .inr ⟨b, o, cap', ?_, ?_, ?_⟩⟩
    · obtain ⟨i, hi, rfl⟩ := List.mem_map.1 h
      exact (hN i (by simpa using hi)).1
    · have : maxLen = 9223372036854775807 := rfl
      simp; omega
    · simp
    · simpa using hl
    · refine flat_cells (es := P.cellsOf e) _ o (fun j ns hj => ?_)
      have hjl := (List.getElem?_eq_some_iff.1 hj).1
      simp only [List.length_map, List.length_range] at hjl
      have : N j = ns := by simpa [hjl] using hj
      subst this
      exact hN j hjl
def CellIs (w : World) : CK → Value → Prop
  | .i, v => ∃ n : Int, v = .int .i64 n
  | .b, v => ∃ x : Bool, v = .bool x
  | .s es, v => ∃ nss, SliceOf w es v nss
def CellsAre (w : World) : List CK → List Value → Prop
  | [], [] => True
  | k :: ks, v :: vs => CellIs w k v ∧ CellsAre w ks vs
  | _, _ => False
theorem CellsAre.app : ∀ {ks ks' : List CK} {vs vs' : List Value}, CellsAre w ks vs → CellsAre w ks' vs' → CellsAre w (ks ++ ks') (vs ++ vs')
  | [], _, [], _, _, h => h
  | [], _, _ :: _, _, h, _ => h.elim
  | _ :: _, _, [], _, h, _ => h.elim
  | _ :: _, _, _ :: _, _, ⟨h1, h2⟩, h => ⟨h1, CellsAre.app h2 h⟩
theorem kinds_trod : ∀ (k : Nat) (t : TypeId) (ks : List CK) (fuel : Nat) (cs : List Value) (x : DataW H × List MemPlace), kindsB P k t = some ks →
    (∀ v ∈ cs, ∀ a len cap, v = .slice (some a) len cap → a.spot = none) → DataW.trod enc P w 0 (fun _ => true) true fuel t cs = some x → CellsAre w ks cs
  | 0, _, _, _, _, _, h, _, _ => by simp [kindsB] at h
  | k + 1, t, ks, fuel, cs, x, h, hsp, hx => by
    unfold kindsB at h
    split at h
    · rename_i ht
      obtain ⟨n, rfl, rfl, _⟩ := DataW.trod_int ht hx
      obtain rfl : [CK.i] = ks := Option.some.inj h
      exact ⟨⟨n, rfl⟩, trivial⟩
    · rename_i ht
      obtain ⟨n, rfl, rfl⟩ := DataW.trod_bool ht hx
      obtain rfl : [CK.b] = ks := Option.some.inj h
      exact ⟨⟨n, rfl⟩, trivial⟩
    · rename_i e ht
      cases hf : flatB P 6 e with
      | false => rw [hf] at h; cases h
      | true =>
        rw [hf] at h
        obtain rfl : [CK.s (P.cellsOf e)] = ks := Option.some.inj h
        have : ∃ v, cs = [v] := by
          rcases Go.Deep.open_slice ht hx with ⟨hc, _⟩ | ⟨a', len', cap', m, n, D, Pl, hc, _⟩ <;> exact ⟨_, hc⟩
        obtain ⟨v, rfl⟩ := this
        exact ⟨open_listC ht hf (hsp v List.mem_cons_self) hx, trivial⟩
    · rename_i fs ht
      obtain ⟨xs, m, rfl, rfl, hl, hlen, hF⟩ := DataW.trod_struct ht hx
      have key : ∀ (l : List Field) (o : Nat) (ks : List CK),
          l.foldr (fun f r o => bif f.offset == o then match kindsB P k f.type with
            | some a => bif a.length == P.cellsOf f.type then (r (o + P.cellsOf f.type)).map (a ++ ·) else none
            | none => none else none) (fun o => bif o == P.cellsOf t then some [] else none) o = some ks →
          (∀ f ∈ l, ∃ y, DataW.trod enc P w 0 (fun _ => true) true m f.type ((cs.drop f.offset).take (P.cellsOf f.type)) = some y) → CellsAre w ks (cs.drop o) := by
        intro l
        induction l with
        | nil =>
          intro o ks h _
          simp only [List.foldr_nil] at h
          cases ho : o == P.cellsOf t with
          | false => rw [ho] at h; cases h
          | true =>
            rw [ho] at h
            obtain rfl : [] = ks := Option.some.inj h
            rw [beq_iff_eq.1 ho, ← hl, List.drop_length]; trivial
        | cons f l ih =>
          intro o ks h hy
          simp only [List.foldr_cons] at h
          cases ho : f.offset == o with
          | false => rw [ho] at h; cases h
          | true =>
            rw [ho] at h
            simp only [cond_true] at h
            split at h
            · rename_i a ha
              cases hc : a.length == P.cellsOf f.type with
              | false => rw [hc] at h; cases h
              | true =>
                rw [hc] at h
                simp only [cond_true, Option.map_eq_some_iff] at h
                obtain ⟨ks', h1, rfl⟩ := h
                obtain ⟨y, hy0⟩ := hy f List.mem_cons_self
                rw [beq_iff_eq.1 ho] at hy0
                have g1 := kinds_trod k f.type a m _ y ha (fun v hv => hsp v (List.mem_of_mem_drop (List.mem_of_mem_take hv))) hy0
                have g2 := ih _ _ h1 (fun f' hf' => hy f' (List.mem_cons_of_mem _ hf'))
                have := g1.app g2
                rwa [← List.drop_drop, List.take_append_drop] at this
            · cases h
      have := key fs.toList 0 ks h (fun f hf => by
        obtain ⟨i, hi⟩ := List.getElem?_of_mem hf
        have := hF i f (by simpa using hi)
        have hil : i < xs.length := by rw [hlen]; have := (List.getElem?_eq_some_iff.1 hi).1; simpa using this
        rw [List.getElem?_eq_getElem hil] at this
        exact ⟨_, this⟩)
      simpa using this
    · cases h
theorem cell_spot {r : Reach} {b0 : Nat} {u : TypeId} {a : Addr} {len cap : Nat} (h : Cell.okWide P w r b0 u (.slice (some a) len cap)) : a.spot = none := by
  unfold Cell.okWide at h
  split at h <;> try (exact h.elim)
  all_goals try (simp_all; done)
  unfold Cell.ok at h
  split at h <;> simp_all [World.has]
theorem open_kinds {r : Reach} {b0 : Nat} {t : TypeId} {fs : Array Field} {v : Value} {d : DataW H} {ps : List MemPlace} (ks : List CK) (ht : P.underlying t = some (.struct fs)) (hk : kindsB P 6 t = some ks)
    (hval : Value.okWide P w r b0 t v) (hd : DataW.Trod enc P w 0 (fun _ => true) true t v d ps) : (∃ cs, v = .agg cs.toArray ∧ CellsAre w ks cs) ∧ ∀ x ∈ ps, x.block < w.heap.size := by
  obtain ⟨fuel, hx⟩ := hd
  refine ⟨?_, DataW.trod_lt fuel t _ _ hx⟩
  simp only [Value.okWide, ht] at hval
  obtain ⟨cs, rfl, hs, ts, _, _, hall⟩ := hval
  refine ⟨cs.toList, by simp, kinds_trod 6 t ks fuel _ _ hk (fun v hv a len cap e => ?_) (by simpa [Value.cells] using hx)⟩
  obtain ⟨i, hi⟩ := List.getElem?_of_mem hv
  obtain ⟨u, _, hu⟩ := hall i v (by simpa using hi)
  subst e
  exact cell_spot hu
theorem cells_cons {k : CK} {ks : List CK} {cs : List Value} (h : CellsAre w (k :: ks) cs) : ∃ v vs, cs = v :: vs ∧ CellIs w k v ∧ CellsAre w ks vs := by
  cases cs with
  | nil => exact h.elim
  | cons v vs => exact ⟨v, vs, rfl, h.1, h.2⟩
theorem cells_nil {cs : List Value} (h : CellsAre w [] cs) : cs = [] := by
  cases cs with
  | nil => rfl
  | cons v vs => exact h.elim
end
/-- slices that are handed over: size of an element, value, what they hold -/
def rhoN (l : List (Nat × Value × List (List Int))) : Env := ⟨fun k => match l[k]? with
  | some x => rho x.1 x.2.1
  | none => none, fun _ => none⟩
theorem law_callsN {P : Program} {f : Nat} {args : List SV} {vs : List Value} {x : Value} {W : World} (l : List (Nat × Value × List (List Int)))
    (hc : Con P f args (l.map fun y => .live false true ((y.2.2.flatten).map iv)) (.v x) []) (hs : ∀ y ∈ l, SliceOf W y.1 y.2.1 y.2.2) (hr : Rels (rhoN l) args vs) :
    Calls P f vs.toArray W fun e W' => e = .returned x ∧ Below W.heap.size W W' := by
  have hget : ∀ i, ((l.map fun y => BK.live false true ((y.2.2.flatten).map iv)).getD i .un = .un) ∨ ∃ y, l[i]? = some y ∧ (l.map fun y => BK.live false true ((y.2.2.flatten).map iv)).getD i .un = .live false true ((y.2.2.flatten).map iv) := by
    intro i
    rw [List.getD_eq_getElem?_getD, List.getElem?_map]
    cases h : l[i]? with
    | none => exact .inl rfl
    | some y => exact .inr ⟨y, rfl, rfl⟩
  refine law_callsL hc _ hr (fun i => ?_) (fun hM i => ?_) (fun i => ?_) (fun _ => rfl)
  · rcases hget i with h | ⟨y, _, h⟩ <;> rw [h] <;> simp [BK.own]
  · rcases hget i with h | ⟨y, h1, h⟩
    · rw [h]; simp [BRep]
    · rw [h]
      exact slice_brep (hs y (List.mem_of_getElem? h1)) (by simp only [rhoN, h1]) hM
  · rcases hget i with h | ⟨y, _, h⟩
    · rw [h]; simp [BK.pl]
    · rw [h]; exact plain_ivs _

abbrev ASK := Int × (Int × Int × Int) × Int × Int × Int
abbrev BQ (l : LCH) (a : ASK) : TR × Int := F11_L l a.1
abbrev CQ (l : LCH) (a : ASK) : List Int × List Int × Int := F25_L l ((F11_L l a.1).1.1, (F11_L l a.1).1.2) a.2.1 a.2.2.1
theorem ser_ok {l : LCH} {t : TR} {x : Int × Int × Int} {sep : Int} (h : (F25_L l t x sep).2.2 = 0) : F25_L l t x sep = ((F51 t x sep).1, (F51 t x sep).2, 0) := by
  unfold F25_L at h ⊢
  cases h0 : ((F49_L l (t.1, t.2) sep : Int) != 0) with
  | true => rw [h0, cond_true] at h; dsimp only at h; rw [h] at h0; cases h0
  | false =>
    rw [h0, cond_false] at h
    rw [cond_false]
    cases h1 : F50 x with
    | true => rfl
    | false => rw [h1] at h; exact absurd (show (1 : Int) = 0 from h) (by decide)
theorem ser_e2 {l : LCH} {t : TR} {x : Int × Int × Int} {sep : Int} (h : (F25_L l t x sep).2.2 ≠ 0) : (F25_L l t x sep).1 = [] ∧ (F25_L l t x sep).2.1 = [] := by
  unfold F25_L at h ⊢
  cases h0 : ((F49_L l (t.1, t.2) sep : Int) != 0) with
  | true => exact ⟨rfl, rfl⟩
  | false =>
    rw [h0, cond_false] at h
    rw [cond_false]
    cases h1 : F50 x with
    | true => rw [h1] at h; exact absurd rfl h
    | false => exact ⟨rfl, rfl⟩
theorem ser_e1 {l : LCH} {leaf : Int} (x : Int × Int × Int) (sep : Int) (h : (F11_L l leaf).2 ≠ 0) : (F25_L l ((F11_L l leaf).1.1, (F11_L l leaf).1.2) x sep).1 = [] ∧ (F25_L l ((F11_L l leaf).1.1, (F11_L l leaf).1.2) x sep).2.1 = [] := by
  have e : (F11_L l leaf).1 = ([], []) := by
    rw [Build_eq] at h ⊢
    unfold F12_L at h ⊢
    cases h0 : ((F35_L l : Int) != 0) with
    | true => rfl
    | false =>
      rw [h0, cond_false] at h
      rw [cond_false]
      by_cases h1 : leaf < 1
      · rw [decide_eq_true h1]; rfl
      · by_cases h2 : leaf > 16
        · rw [decide_eq_false h1, cond_false, decide_eq_true h2]; rfl
        · rw [decide_eq_false h1, cond_false, decide_eq_false h2, cond_false] at h; exact absurd rfl h
  rw [e]
  by_cases h2 : (F25_L l (([] : List Int), ([] : List NDE)) x sep).2.2 = 0
  · rw [ser_ok h2]; exact ⟨rfl, rfl⟩
  · exact ser_e2 h2
theorem part_non {l : List Int} {k u : Int} (h : u ≤ k) : Aw.part l k u = [] := by
  unfold Aw.part; rw [show Int.toNat u - Int.toNat k = 0 by omega]; rfl
theorem srv_in {l : LCH} {a : ASK} : ∀ (d n : Nat) (D : List Int) (i k w8 u w10 w11 w12 w13 w14 w15 : Int), Int.toNat (u - k) = d → d < n → 0 ≤ k → u ≤ (BQ l a).1.1.length →
    loopF (S8_L_1 l a) n (D, i, k, w8, u, w10, w11, w12, w13, w14, w15) = .inl ((Aw.part (BQ l a).1.1 k u).foldl inc D, i + 1)
  | 0, n, D, i, k, w8, u, w10, w11, w12, w13, w14, w15, hd, hn, h0, h1 => by
    obtain ⟨n, rfl⟩ : ∃ q, n = q + 1 := ⟨n - 1, by omega⟩
    rw [part_non (by omega)]
    refine loopF_inr ?_
    simp only [S8_L_1]
    rw [decide_eq_false (show ¬ k < u by omega)]
    rfl
  | d + 1, n, D, i, k, w8, u, w10, w11, w12, w13, w14, w15, hd, hn, h0, h1 => by
    obtain ⟨n, rfl⟩ : ∃ q, n = q + 1 := ⟨n - 1, by omega⟩
    rw [part_one (by omega), List.foldl_cons, ← srv_in d n (inc D ((BQ l a).1.1.getD (Int.toNat k) default)) i (k + 1) w8 u w10 w11 w12 w13 w14 w15 (by omega) (by omega) (by omega) h1]
    refine loopF_inl ?_
    simp only [S8_L_1]
    rw [decide_eq_true (show k < u by omega)]
    rfl
theorem srv_out {l : LCH} {a : ASK} (hN : ∀ i ∈ (CQ l a).1, 0 ≤ i ∧ i < (BQ l a).1.2.length) (hK : NODS (BQ l a).1) : ∀ (d n : Nat) (D : List Int) (i : Nat), (CQ l a).1.length - i = d → i ≤ (CQ l a).1.length → d < n →
    loopF (S8_L_0 l a) n (D, (i : Int)) = loopF (S8_L_2 l a) (Int.toNat ((((CQ l a).2.1.length : Nat) : Int) - 0) + 1) (((CQ l a).1.drop i).foldl (fun D i => (prt (BQ l a).1 i).foldl inc D) D, 0)
  | 0, n, D, i, hd, hi, hn => by
    obtain ⟨n, rfl⟩ : ∃ q, n = q + 1 := ⟨n - 1, by omega⟩
    rw [List.drop_eq_nil_of_le (by omega)]
    refine loopF_inr ?_
    simp only [S8_L_0]
    rw [decide_eq_false (show ¬ (i : Int) < (((CQ l a).1.length : Nat) : Int) by omega)]
    rfl
  | d + 1, n, D, i, hd, hi, hn => by
    obtain ⟨n, rfl⟩ : ∃ q, n = q + 1 := ⟨n - 1, by omega⟩
    have h1 : i < (CQ l a).1.length := by omega
    have hg : (CQ l a).1.getD i default = (CQ l a).1[i] := by rw [List.getD_eq_getElem?_getD, List.getElem?_eq_getElem h1]; rfl
    have hm := hN _ (List.getElem_mem h1)
    rw [← hg] at hm
    have hk := hK.2.2 (Int.toNat ((CQ l a).1.getD i default)) (by omega)
    rw [List.drop_eq_getElem_cons h1, List.foldl_cons, ← hg, ← srv_out hN hK d n ((prt (BQ l a).1 ((CQ l a).1.getD i default)).foldl inc D) (i + 1) (by omega) (by omega) (by omega)]
    refine loopF_inl ?_
    simp only [S8_L_0, Int.toNat_natCast]
    rw [decide_eq_true (show (i : Int) < (((CQ l a).1.length : Nat) : Int) by omega), cond_true, decide_eq_false (show ¬ (CQ l a).1.getD i default < 0 by omega), cond_false, decide_eq_false (show ¬ (CQ l a).1.getD i default ≥ (((BQ l a).1.2.length : Nat) : Int) by omega), cond_false]
    exact srv_in _ _ _ _ _ _ _ _ _ _ _ _ _ rfl (Nat.lt_succ_self _) hk.1 hk.2.2
theorem srv_pan {l : LCH} {a : ASK} (hN : ∀ i ∈ (CQ l a).2.1, 0 ≤ i ∧ i < l.length) : ∀ (d n : Nat) (D : List Int) (i : Nat), (CQ l a).2.1.length - i = d → i ≤ (CQ l a).2.1.length → d < n →
    loopF (S8_L_2 l a) n (D, (i : Int)) = loopF (S8_L_3 l a) (Int.toNat ((((((CQ l a).2.1.drop i).foldl inc D).length : Nat) : Int) - 0) + 1) (((CQ l a).2.1.drop i).foldl inc D, 0)
  | 0, n, D, i, hd, hi, hn => by
    obtain ⟨n, rfl⟩ : ∃ q, n = q + 1 := ⟨n - 1, by omega⟩
    rw [List.drop_eq_nil_of_le (by omega)]
    refine loopF_inr ?_
    simp only [S8_L_2]
    rw [decide_eq_false (show ¬ (i : Int) < (((CQ l a).2.1.length : Nat) : Int) by omega)]
    rfl
  | d + 1, n, D, i, hd, hi, hn => by
    obtain ⟨n, rfl⟩ : ∃ q, n = q + 1 := ⟨n - 1, by omega⟩
    have h1 : i < (CQ l a).2.1.length := by omega
    have hg : (CQ l a).2.1.getD i default = (CQ l a).2.1[i] := by rw [List.getD_eq_getElem?_getD, List.getElem?_eq_getElem h1]; rfl
    have hm := hN _ (List.getElem_mem h1)
    rw [← hg] at hm
    rw [List.drop_eq_getElem_cons h1, List.foldl_cons, ← hg, ← srv_pan hN d n (inc D ((CQ l a).2.1.getD i default)) (i + 1) (by omega) (by omega) (by omega)]
    refine loopF_inl ?_
    simp only [S8_L_2, Int.toNat_natCast]
    rw [decide_eq_true (show (i : Int) < (((CQ l a).2.1.length : Nat) : Int) by omega), cond_true, decide_eq_false (show ¬ (CQ l a).2.1.getD i default < 0 by omega), cond_false, decide_eq_false (show ¬ (CQ l a).2.1.getD i default ≥ ((l.length : Nat) : Int) by omega), cond_false]
    rfl
theorem srv_chk {l : LCH} {a : ASK} {D : List Int} (h : ∀ i, i < D.length → D.getD i default = 1) : ∀ (d n i : Nat), D.length - i = d → i ≤ D.length → d < n → loopF (S8_L_3 l a) n (D, (i : Int)) = true
  | 0, n, i, hd, hi, hn => by
    obtain ⟨n, rfl⟩ : ∃ q, n = q + 1 := ⟨n - 1, by omega⟩
    refine loopF_inr ?_
    simp only [S8_L_3]
    rw [decide_eq_false (show ¬ (i : Int) < ((D.length : Nat) : Int) by omega), sane_5]
    rfl
  | d + 1, n, i, hd, hi, hn => by
    obtain ⟨n, rfl⟩ : ∃ q, n = q + 1 := ⟨n - 1, by omega⟩
    rw [← srv_chk h d n (i + 1) (by omega) (by omega) (by omega)]
    refine loopF_inl ?_
    simp only [S8_L_3, Int.toNat_natCast]
    rw [decide_eq_true (show (i : Int) < ((D.length : Nat) : Int) by omega), cond_true, h i (by omega)]
    rfl
theorem fold_fm {g : Int → List Int} : ∀ (L : List Int) (D : List Int), L.foldl (fun D i => (g i).foldl inc D) D = (L.flatMap g).foldl inc D
  | [], _ => rfl
  | i :: L, D => by rw [List.foldl_cons, List.flatMap_cons, List.foldl_append, fold_fm L]
theorem law_serves (l : LCH) (a : ASK) : F8_L l a = true := by
  unfold F8_L
  rw [sane_5]
  cases F14_L l with
  | true => rfl
  | false =>
    rw [cond_false]
    cases h1 : (((BQ l a).2 : Int) != 0) with
    | true =>
      obtain ⟨e1, e2⟩ := ser_e1 a.2.1 a.2.2.1 (bne_iff_ne.1 h1)
      rw [e1, e2]
      rfl
    | false =>
      rw [cond_false]
      cases h2 : (((CQ l a).2.2 : Int) != 0) with
      | true =>
        obtain ⟨e1, e2⟩ := ser_e2 (bne_iff_ne.1 h2)
        rw [e1, e2]
        rfl
      | false =>
        rw [cond_false]
        obtain ⟨hv, h3, _, e⟩ := tbu_ok (l := l) (leaf := a.1) (bne_eq_false_iff_eq.1 h1)
        have hl := hv.1
        have hc := ser_ok (bne_eq_false_iff_eq.1 h2)
        have ho := cho_occ hv h3 a.2.1 a.2.2.1
        have ho' : (∀ i ∈ (CQ l a).1, 0 ≤ i ∧ i < (BQ l a).1.2.length) ∧ (occ (BQ l a).1 (CQ l a).1 (CQ l a).2.1).Perm (nums l.length) := by
          rw [show CQ l a = _ from hc]
          rw [← e] at ho
          exact ho
        obtain ⟨k1, k2⟩ := ho'
        have hK : NODS (BQ l a).1 := by rw [show (BQ l a).1 = _ from e]; exact BT_nods l hl h3
        have hP : ∀ i ∈ (CQ l a).2.1, 0 ≤ i ∧ i < l.length := fun i hi => nums_inr l.length i (k2.mem_iff.1 (List.mem_append_right _ hi))
        have e1 := srv_out k1 hK _ (Int.toNat ((((CQ l a).1.length : Nat) : Int) - 0) + 1) (List.replicate (Int.toNat ((l.length : Nat) : Int)) 0) 0 rfl (Nat.zero_le _) (by omega)
        refine Eq.trans e1 ?_
        have e2 := srv_pan hP _ (Int.toNat ((((CQ l a).2.1.length : Nat) : Int) - 0) + 1) (((CQ l a).1.drop 0).foldl (fun D i => (prt (BQ l a).1 i).foldl inc D) (List.replicate (Int.toNat ((l.length : Nat) : Int)) 0)) 0 rfl (Nat.zero_le _) (by omega)
        refine Eq.trans e2 ?_
        have hlen : ∀ L : List Int, (L.foldl inc (List.replicate l.length 0)).length = l.length := fun L => by rw [incs_len, List.length_replicate]
        have hone := incs_one hl k2
        rw [List.drop_zero, List.drop_zero, fold_fm, ← List.foldl_append, Int.toNat_natCast]
        have e3 := srv_chk (l := l) (a := a) (D := (occ (BQ l a).1 (CQ l a).1 (CQ l a).2.1).foldl inc (List.replicate l.length 0)) (fun i hi => hone i (by rw [hlen] at hi; exact hi)) _ (Int.toNat ((((((occ (BQ l a).1 (CQ l a).1 (CQ l a).2.1).foldl inc (List.replicate l.length 0)).length : Nat) : Int)) - 0) + 1) 0 rfl (Nat.zero_le _) (by omega)
        exact e3

open Go.ChangeShapes Go.WideShapes Go.ChangeAt
theorem treeServes_len7 {l : List Int} (h : l.length = 7) : ∃ a0 a1 a2 a3 a4 a5 a6, l = [a0, a1, a2, a3, a4, a5, a6] := by
  match l, h with
  | [a0, a1, a2, a3, a4, a5, a6], _ => exact ⟨a0, a1, a2, a3, a4, a5, a6, rfl⟩
theorem treeServes_len10 {l : List Int} (h : l.length = 10) : ∃ a0 a1 a2 a3 a4 a5 a6 a7 a8 a9, l = [a0, a1, a2, a3, a4, a5, a6, a7, a8, a9] := by
  match l, h with
  | [a0, a1, a2, a3, a4, a5, a6, a7, a8, a9], _ => exact ⟨a0, a1, a2, a3, a4, a5, a6, a7, a8, a9, rfl⟩
def treeServes_mk81 (ns : List Int) : ((Int × Int × Int) × (Int × Int × Int) × Int × Int × Int) × Int := ((((ns.getD 0 0), (ns.getD 1 0), (ns.getD 2 0)), ((ns.getD 3 0), (ns.getD 4 0), (ns.getD 5 0)), ((ns.getD 6 0), (ns.getD 7 0), (ns.getD 8 0))), (ns.getD 9 0))
theorem treeServes_mkc81 (ns : List Int) (h : ns.length = 10) : c81 (treeServes_mk81 ns) = ns.map iv := by
  obtain ⟨a0, a1, a2, a3, a4, a5, a6, a7, a8, a9, rfl⟩ := treeServes_len10 h
  rfl
set_option maxRecDepth 100000 in
theorem treeServes_lifted (os : Os) (started : os.Started) (H : Type) (enc : TypeId × Value → H) :
    ReturnsInHanded {} Try.checked os 8 .any (Rows.treeServesSpec.pre6 enc Try.prog Try.f8 Rows.treeServesRow.domain false) (Rows.treeServesSpec.post enc Try.prog Try.f8 false true false false) := by
  refine returnsInHanded_of_change (C := Try.checked) own started (by kernel_rfl) Try.func8
    (ChangeSpec.witness6 (enc := enc) (C := Try.checked) false ⟨#[], #[.slice none 0 0, .agg #[.int .i64 0, .int .i64 0, .int .i64 0, .int .i64 0, .int .i64 0, .int .i64 0, .int .i64 0]], []⟩ 8 (by kernel_rfl) (by kernel_rfl) (by kernel_rfl) (by kernel_rfl)) ?_
  intro W base args ds gs before hval0 hW hcnd _
  have hval : ∀ (j : Nat) t v, Try.f8.params[j]? = some t → args[j]? = some v → Value.okWide Try.prog W .any base t v := hval0
  have hW' := hW
  obtain ⟨p, q, hA0, hV, rfl, hfz, hnd⟩ := hW
  have hA : DataW.TrodAll enc Try.prog W 0 (fun _ => true) true Try.f8.params.toList args.toList ds p := hA0
  rw [Try.params8] at hA hval
  obtain ⟨v0, vs0, d0, ds0, p0, q0, hargs, rfl, rfl, h0, r0⟩ := trodAll_cons hA
  obtain ⟨v1, vs1, d1, ds1, p1, q1, rfl, rfl, rfl, h1, r1⟩ := trodAll_cons r0
  obtain ⟨rfl, rfl, rfl⟩ := trodAll_nil r1
  obtain rfl : args = #[v0, v1] := by cases args; simp_all
  obtain ⟨rfl, rfl⟩ := trodVars_none hV
  obtain ⟨⟨nss0, s0⟩, b0⟩ := open_list Try.underlying22 (by kernel_rfl) (show Try.prog.cellsOf 81 = 10 from by kernel_rfl) (hval 0 22 v0 rfl rfl) h0
  obtain ⟨rfl, ns1, rfl, l1⟩ := open_flat Try.underlying51 (by kernel_rfl) (hval 1 51 v1 rfl rfl) h1
  rw [show Try.prog.cellsOf 51 = 7 from by kernel_rfl] at l1
  obtain ⟨x1_0, x1_1, x1_2, x1_3, x1_4, x1_5, x1_6, rfl⟩ := treeServes_len7 l1
  clear hA0 hval0 hval hA
  simp only [List.append_nil, List.nil_append] at hW'
  have hC : Con Try.prog 8 [.s 0 0 nss0.length 10, .a ([x1_0, x1_1, x1_2, x1_3, x1_4, x1_5, x1_6].map iv)] [.live false true ((nss0.flatten).map iv)] (.v (.bool true)) [] := by
    have h := C8_L (nss0.map treeServes_mk81) (x1_0, (x1_1, x1_2, x1_3), x1_4, x1_5, x1_6) (by rw [List.length_map]; exact s0.2.1)
    rw [law_serves, flat_mk treeServes_mkc81 s0.1] at h
    simp only [List.length_map] at h
    exact h
  refine (law_calls1 (vs := [v0, .agg ([x1_0, x1_1, x1_2, x1_3, x1_4, x1_5, x1_6].map (Value.int .i64)).toArray]) hC s0 ⟨slice_rel s0 rfl, rel_agg [x1_0, x1_1, x1_2, x1_3, x1_4, x1_5, x1_6], trivial⟩).mono fun e W' ⟨he, hb⟩ => ?_
  subst he
  have hargs2 := (all_mk (Below.trod laidOut (by kernel_rfl) (of_decide_eq_true (by kernel_rfl)) h0 hb b0) (all_mk (Below.trod laidOut (by kernel_rfl) (of_decide_eq_true (by kernel_rfl)) h1 hb (fun x hx => by cases hx)) trodAll_mk0))
  simp only [List.append_nil, List.nil_append] at hargs2
  exact ⟨_, rfl, post_below hW' hb (fun _ _ _ => (all_mk (shut_bool Try.underlying4 _) trodAll_mk0)) hargs2 rfl⟩
theorem treeServes_over : Rows.treeServesRow.holds Try.pinned (OpenSpec.ofChange Rows.treeServesSpec) :=
  OpenClaim.holds_of_wide 8 Try.f8 rfl rfl rfl rfl rfl rfl rfl ⟨rfl, rfl, rfl, rfl, rfl⟩ rfl rfl rfl rfl rfl (by kernel_rfl) Try.func8 (by kernel_rfl)
    (of_decide_eq_true (by kernel_rfl)) (by unfold Func.isWrapper; first | (rw [if_pos (by decide +kernel)]; kernel_rfl) | (rw [if_neg (by decide +kernel)]; exact ⟨rfl, rfl⟩))
    (fun os started H enc _ => treeServes_lifted os started H enc)
/-- THE STATEMENT -/
theorem treeServes_proved : Rows.TreeServesSaid :=
  treeServes_over

end Go.Proofs.Ytnbpiejjeeomkaa
