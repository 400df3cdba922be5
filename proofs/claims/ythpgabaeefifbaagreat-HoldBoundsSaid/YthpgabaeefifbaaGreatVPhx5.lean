/-
  Parts of the proofs of the laws: the executor, what functions of the program compute, and that it is what the statements ask. No premise.
-/
import Derived.Test.YthpgabaeefifbaaGreatVPhx4
namespace Go.Proofs.YthpgabaeefifbaaGreat
open Go.Proofs Go.Aw Go.RowKit
set_option maxRecDepth 100000
set_option linter.unusedVariables false
set_option linter.unusedSimpArgs false

/-! ### Maps: what is put is got -/
section
variable {α β : Type} [DecidableEq α]
theorem mget_cons (e : α × β) (l : List (α × β)) (k : α) (d : β) : mget (e :: l) k d = if e.1 = k then e.2 else mget l k d := by
  unfold mget
  simp only [mfind]
  by_cases h : e.1 = k
  · rw [if_pos h, if_pos h]
  · rw [if_neg h, if_neg h]
    cases mfind k l <;> rfl
theorem mput_cons (e : α × β) (l : List (α × β)) (k : α) (v : β) : mput (e :: l) k v = if e.1 = k then (k, v) :: l else e :: mput l k v := by
  unfold mput
  simp only [mfind]
  by_cases h : e.1 = k
  · rw [if_pos h, if_pos h]; rfl
  · rw [if_neg h, if_neg h]
    cases mfind k l <;> rfl
theorem mget_put : ∀ (l : List (α × β)) (k k' : α) (v d : β), mget (mput l k v) k' d = if k = k' then v else mget l k' d
  | [], k, k', v, d => by
    show mget [(k, v)] k' d = _
    rw [mget_cons]
  | e :: l, k, k', v, d => by
    rw [mput_cons]
    by_cases h : e.1 = k
    · rw [if_pos h, mget_cons, mget_cons]
      by_cases h' : k = k'
      · rw [if_pos h', if_pos h']
      · rw [if_neg h', if_neg h', if_neg (fun x => h' (h ▸ x))]
    · rw [if_neg h, mget_cons, mget_cons, mget_put l k k' v d]
      by_cases h' : k = k'
      · rw [if_neg (fun x => h (x.trans h'.symm)), if_pos h', if_pos h']
      · rw [if_neg h', if_neg h']
theorem mget_nil (k : α) (d : β) : mget ([] : List (α × β)) k d = d := rfl
end
/-! ### Two loops that are one -/
theorem loopF_eq {S R : Type} [Inhabited R] {f g : S → S ⊕ R} (I : S → Prop) (hI : ∀ s, I s → f s = g s) (hp : ∀ s s', I s → f s = .inl s' → I s') : ∀ (n : Nat) (s : S), I s → loopF f n s = loopF g n s := by
  intro n
  induction n with
  | zero => intro s _; rfl
  | succ n ih =>
    intro s hs
    have e := hI s hs
    cases h : f s with
    | inl s' => rw [loopF_inl h, loopF_inl (e ▸ h)]; exact ih s' (hp s s' hs h)
    | inr r => rw [loopF_inr h, loopF_inr (e ▸ h)]
theorem foldE_inl {α σ R : Type} (g : σ → α → σ) : ∀ (l : List α) (v : σ), foldE (R := R) (fun v c => .inl (g v c)) l v = .inl (l.foldl g v)
  | [], _ => rfl
  | c :: l, v => by simp only [foldE, List.foldl_cons]; exact foldE_inl g l (g v c)
theorem getD_of {α : Type} [Inhabited α] {L : List α} {i : Nat} {c : α} (h : L[i]? = some c) : L.getD (Int.toNat (i : Int)) default = c := by
  rw [Int.toNat_natCast, List.getD_eq_getElem?_getD, h]; rfl
/-! ### How often a side is in the faces -/
abbrev ME := List P3 × List P3
def tri (f : P3) (p q : Int) : Int := (if f.1 = p ∧ f.2.1 = q then 1 else 0) + (if f.2.1 = p ∧ f.2.2 = q then 1 else 0) + (if f.2.2 = p ∧ f.1 = q then 1 else 0)
def cnt : List P3 → Int → Int → Int
  | [], _, _ => 0
  | f :: l, p, q => tri f p q + cnt l p q
theorem tri_bd (f : P3) (p q : Int) : 0 ≤ tri f p q ∧ tri f p q ≤ 3 := by unfold tri; split <;> split <;> split <;> omega
theorem ite_b (a b c d : Int) : (if a = b ∧ c = d then (1 : Int) else 0) = bif (a == b) && (c == d) then 1 else 0 := by
  rcases Decidable.em (a = b) with h1 | h1 <;> rcases Decidable.em (c = d) with h2 | h2
  · rw [if_pos ⟨h1, h2⟩, beq_iff_eq.2 h1, beq_iff_eq.2 h2]; rfl
  · rw [if_neg (fun h => h2 h.2), beq_eq_false_iff_ne.2 h2, Bool.and_false]; rfl
  · rw [if_neg (fun h => h1 h.1), beq_eq_false_iff_ne.2 h1]; rfl
  · rw [if_neg (fun h => h1 h.1), beq_eq_false_iff_ne.2 h1]; rfl
theorem edg_f (m : ME) (h : m.2.length ≤ 96) (p q : Int) : F79 m p q = cnt m.2 p q := by
  unfold F79
  rw [each_loop (fun v i => (v, i)) (fun v c => .inl (v + tri c p q)) (fun v => v) (L := m.2) (fun i v => 0 ≤ v ∧ v ≤ 3 * (i : Int)) ?_ ?_ ?_ (by omega) ⟨by omega, by omega⟩]
  · have key : ∀ (l : List P3) (v : Int), l.foldl (fun v c => v + tri c p q) v = v + cnt l p q := by
      intro l
      induction l with
      | nil => intro v; simp [cnt]
      | cons c l ih => intro v; rw [List.foldl_cons, ih]; simp only [cnt]; omega
    rw [foldE_inl, key]; simp [outE]
  · intro i c hc v hv
    obtain ⟨hlt, hce⟩ := List.getElem?_eq_some_iff.1 hc
    have w1 : W (v + 1) = v + 1 := W_eq (by omega) (by omega)
    have w2 : W (v + 1 + 1) = v + 1 + 1 := W_eq (by omega) (by omega)
    have w3 : W (v + 1 + 1 + 1) = v + 1 + 1 + 1 := W_eq (by omega) (by omega)
    simp only [S79_0]
    rw [decide_eq_true (by omega), cond_true, getD_of hc]
    unfold tri
    rw [ite_b, ite_b, ite_b]
    generalize (c.1 == p) = b1, (c.2.1 == q) = b2, (c.2.1 == p) = b3, (c.2.2 == q) = b4, (c.2.2 == p) = b5, (c.1 == q) = b6
    have fin : ∀ {a b : Int}, a = b → (Sum.inl (a, (i : Int) + 1) : (Int × Int) ⊕ Int) = Sum.inl (b, ((i + 1 : Nat) : Int)) := fun h => by rw [h]; rfl
    cases b1 <;> cases b2 <;> cases b3 <;> cases b4 <;> cases b5 <;> cases b6 <;> simp only [Bool.and_true, Bool.and_false, Bool.and_self, cond_true, cond_false, w1, w2, w3] <;> exact fin (by omega)
  · intro i c hc v v' hv e
    have := tri_bd c p q
    obtain rfl := Sum.inl.inj e
    omega
  · intro v _
    simp only [S79_0]
    rw [decide_eq_false (by omega), cond_false]
def incM (v : List ((Int × Int) × Int)) (s : Int × Int) : List ((Int × Int) × Int) := mput v s (W (mget v s 0 + 1))
def put3 (v : List ((Int × Int) × Int)) (f : P3) : List ((Int × Int) × Int) := incM (incM (incM v (F70 f).1) (F70 f).2.1) (F70 f).2.2
theorem inc_get {v : List ((Int × Int) × Int)} {s : Int × Int} (t : Int × Int) (h : 0 ≤ mget v s 0 ∧ mget v s 0 ≤ 1000) : mget (incM v s) t 0 = mget v t 0 + (if s = t then 1 else 0) := by
  unfold incM
  rw [mget_put, W_eq (by omega) (by omega)]
  by_cases e : s = t
  · subst e; rw [if_pos rfl, if_pos rfl]
  · rw [if_neg e, if_neg e]; omega
theorem put3_get {v : List ((Int × Int) × Int)} {B : Int} (hB : ∀ t, 0 ≤ mget v t 0 ∧ mget v t 0 ≤ B) (hb : B ≤ 900) (f : P3) (t : Int × Int) : mget (put3 v f) t 0 = mget v t 0 + tri f t.1 t.2 := by
  have g1 : ∀ t, mget (incM v (F70 f).1) t 0 = mget v t 0 + (if (F70 f).1 = t then 1 else 0) := fun t => inc_get t (by have := hB (F70 f).1; omega)
  have b1 : ∀ t, 0 ≤ mget (incM v (F70 f).1) t 0 ∧ mget (incM v (F70 f).1) t 0 ≤ B + 1 := fun t => by rw [g1]; have := hB t; split <;> omega
  have g2 : ∀ t, mget (incM (incM v (F70 f).1) (F70 f).2.1) t 0 = mget (incM v (F70 f).1) t 0 + (if (F70 f).2.1 = t then 1 else 0) := fun t => inc_get t (by have := b1 (F70 f).2.1; omega)
  have b2 : ∀ t, 0 ≤ mget (incM (incM v (F70 f).1) (F70 f).2.1) t 0 ∧ mget (incM (incM v (F70 f).1) (F70 f).2.1) t 0 ≤ B + 2 := fun t => by rw [g2]; have := b1 t; split <;> omega
  unfold put3
  rw [inc_get t (by have := b2 (F70 f).2.2; omega), g2, g1]
  unfold tri F70
  simp only [Prod.ext_iff]
  omega
theorem cnt_get : ∀ (l : List P3) (v : List ((Int × Int) × Int)) (B : Int), (∀ t, 0 ≤ mget v t 0 ∧ mget v t 0 ≤ B) → B + 3 * l.length ≤ 900 → ∀ t : Int × Int, mget (l.foldl put3 v) t 0 = mget v t 0 + cnt l t.1 t.2
  | [], v, B, _, _, t => by simp [cnt]
  | f :: l, v, B, hB, hb, t => by
    simp only [List.length_cons] at hb
    have g := put3_get hB (by omega) f
    rw [List.foldl_cons, cnt_get l (put3 v f) (B + 3) (fun t => by rw [g]; have := hB t; have := tri_bd f t.1 t.2; omega) (by omega) t, g]
    simp only [cnt]; omega
theorem ctd_f (m : ME) : F69 m = m.2.foldl put3 [] := by
  unfold F69
  rw [each_loop (fun v i => (v, i)) (fun v c => .inl (put3 v c)) (fun v => v) (L := m.2) (fun _ _ => True) ?_ (fun _ _ _ _ _ _ _ => trivial) ?_ (by omega) trivial]
  · rw [foldE_inl]; rfl
  · intro i c hc v _
    obtain ⟨hlt, hce⟩ := List.getElem?_eq_some_iff.1 hc
    simp only [S69_0]
    rw [decide_eq_true (by omega), cond_true, getD_of hc]
    rfl
  · intro v _
    simp only [S69_0]
    rw [decide_eq_false (by omega), cond_false]
theorem cget (m : ME) (h : m.2.length ≤ 96) (t : Int × Int) : mget (F69 m) t 0 = cnt m.2 t.1 t.2 := by
  rw [ctd_f, cnt_get m.2 [] 0 (fun t => by rw [mget_nil]; omega) (by omega) t, mget_nil]; omega
/-! ### Normals, volumes -/
theorem W_neg (x y : Int) : W (x + W (-1 * y)) = W (x - y) := by
  rw [W_def (-1 * y)]
  split <;> rw [W_def, W_def] <;> split <;> split <;> omega
theorem min_eq (a b : P3) : F144 a b = F115 a b := by
  unfold F144 F161 F115
  simp only [W_neg]
theorem nrm_eq (p : PN) : F109 p = F77 p := by
  unfold F109 F77
  rw [min_eq, min_eq]; rfl
theorem vol_a (m : ME) : F72 m = m.2.foldl (fun v c => W (v + F112 (F110 m c))) 0 := by
  unfold F72
  rw [each_loop (fun v i => (v, i)) (fun v c => .inl (W (v + F112 c))) (fun v => v) (L := F111 m) (fun _ _ => True) ?_ (fun _ _ _ _ _ _ _ => trivial) ?_ (by show _ < Int.toNat ((((F111 m).length : Nat) : Int) - 0) + 1; omega) trivial]
  · rw [foldE_inl, pnl_map, List.foldl_map]; rfl
  · intro i c hc v _
    obtain ⟨hlt, hce⟩ := List.getElem?_eq_some_iff.1 hc
    simp only [S72_0]
    rw [decide_eq_true (show ((i : Nat) : Int) < (((F111 (m.1, m.2)).length : Nat) : Int) from by show ((i : Nat) : Int) < (((F111 m).length : Nat) : Int); omega), cond_true, show (F111 (m.1, m.2)).getD (Int.toNat (i : Int)) default = c from getD_of hc]
    rfl
  · intro v _
    simp only [S72_0]
    rw [decide_eq_false (show ¬ (((F111 m).length : Nat) : Int) < (((F111 (m.1, m.2)).length : Nat) : Int) from by show ¬ (((F111 m).length : Nat) : Int) < (((F111 m).length : Nat) : Int); omega), cond_false]
theorem vol_b (m : ME) : F80 m = m.2.foldl (fun v c => W (v + F112 (F110 m c))) 0 := by
  unfold F80
  rw [each_loop (fun v i => (v, i)) (fun v c => .inl (W (v + F112 (F110 m c)))) (fun v => v) (L := m.2) (fun _ _ => True) ?_ (fun _ _ _ _ _ _ _ => trivial) ?_ (by omega) trivial]
  · rw [foldE_inl]; rfl
  · intro i c hc v _
    obtain ⟨hlt, hce⟩ := List.getElem?_eq_some_iff.1 hc
    simp only [S80_0]
    have hp : F78 (m.1, m.2) (i : Int) = F110 m c := by
      unfold F78
      simp only [getD_of hc]; rfl
    rw [decide_eq_true (by omega), cond_true, hp]
    rfl
  · intro v _
    simp only [S80_0]
    rw [decide_eq_false (by omega), cond_false]
theorem vol_eq (m : ME) : F72 m = F80 m := by rw [vol_a, vol_b]
/-! ### The same errors -/
theorem usd_eq (m : ME) : ∀ (n : Nat) (v : List Bool) (i : Int), 0 ≤ i → loopF (S32_4 m) n (v, ((v.length : Nat) : Int), i) = loopF (S35_6 m) n (v, i) := by
  intro n
  induction n with
  | zero => intro v i _; rfl
  | succ n ih =>
    intro v i hi
    by_cases h : i < ((v.length : Nat) : Int)
    · cases hb : v.getD (Int.toNat i) default with
      | true =>
        have e1 : S32_4 m (v, ((v.length : Nat) : Int), i) = .inl (v, ((v.length : Nat) : Int), i + 1) := by
          simp only [S32_4]; rw [decide_eq_true h, cond_true, hb]; rfl
        have e2 : S35_6 m (v, i) = .inl (v, i + 1) := by
          simp only [S35_6]; rw [decide_eq_true h, cond_true, hb]; rfl
        rw [loopF_inl e1, loopF_inl e2]; exact ih v (i + 1) (by omega)
      | false =>
        have e1 : S32_4 m (v, ((v.length : Nat) : Int), i) = .inr 5 := by
          simp only [S32_4]; rw [decide_eq_true h, cond_true, hb]; rfl
        have e2 : S35_6 m (v, i) = .inr 5 := by
          simp only [S35_6]; rw [decide_eq_true h, cond_true, hb]; rfl
        rw [loopF_inr e1, loopF_inr e2]
    · have e1 : S32_4 m (v, ((v.length : Nat) : Int), i) = .inr (bif decide (F80 m ≤ 0) then 8 else 0) := by
        simp only [S32_4]; rw [decide_eq_false h, cond_false, show F72 (m.1, m.2) = F80 m from vol_eq m]
        cases decide (F80 m ≤ 0) <;> rfl
      have e2 : S35_6 m (v, i) = .inr (bif decide (F80 m ≤ 0) then 8 else 0) := by
        simp only [S35_6]; rw [decide_eq_false h, cond_false, show F80 (m.1, m.2) = F80 m from rfl]
        cases decide (F80 m ≤ 0) <;> rfl
      rw [loopF_inr e1, loopF_inr e2]
theorem opn_eq (m : ME) (h : m.2.length ≤ 96) (n : Nat) (v : List Bool) : loopF (S32_2 m) n (v, 0) = loopF (S35_4 m) n (v, 0) := by
  refine loopF_eq (fun s => 0 ≤ s.2) (fun s hs => ?_) (fun s s' hs e => ?_) n (v, 0) (Int.le_refl 0)
  · obtain ⟨v, i⟩ := s
    simp only at hs
    simp only [S32_2, S35_4]
    rw [usd_eq m _ v 0 (Int.le_refl 0)]
    have hc : ∀ t, mget (F69 (m.1, m.2)) t 0 = cnt m.2 t.1 t.2 := cget m h
    have he : ∀ p q, F79 (m.1, m.2) p q = cnt m.2 p q := edg_f m h
    simp only [hc, he, F70, F71]
  · obtain ⟨v, i⟩ := s
    simp only [S32_2] at e
    by_cases hlt : i < ((m.2.length : Nat) : Int)
    · rw [decide_eq_true hlt, cond_true] at e
      simp only at hs
      have step : ∀ (b : Bool) (x y : (List Bool × Int) ⊕ Int), (bif b then x else y) = .inl s' → (∀ r, x ≠ .inl r) → y = .inl s' := fun b x y h hx => by
        cases b
        · exact h
        · exact absurd h (hx s')
      have e := step _ _ _ e (fun r h => by cases h)
      have e := step _ _ _ e (fun r h => by cases h)
      have e := step _ _ _ e (fun r h => by cases h)
      have e := step _ _ _ e (fun r h => by cases h)
      have e := step _ _ _ e (fun r h => by cases h)
      have e := step _ _ _ e (fun r h => by cases h)
      obtain rfl := Sum.inl.inj e
      show 0 ≤ i + 1
      omega
    · rw [decide_eq_false hlt, cond_false] at e; cases e
theorem from_in {n : Nat} (x : Int) (h : n ≤ 64) : (!F66 x 0 (W (((n : Nat) : Int) - 1))) = (decide (x < 0) || decide (x ≥ ((n : Nat) : Int))) := by
  rw [W_eq (by omega) (by omega)]
  unfold F66
  by_cases h1 : x < 0
  · rw [decide_eq_true h1, decide_eq_false (by omega)]; rfl
  · rw [decide_eq_false h1, decide_eq_true (by omega), cond_true]
    by_cases h2 : x ≥ ((n : Nat) : Int)
    · rw [decide_eq_true h2, decide_eq_false (by omega)]; rfl
    · rw [decide_eq_false h2, decide_eq_true (by omega)]; rfl
theorem fac_eq (m : ME) (h64 : m.1.length ≤ 64) (h : m.2.length ≤ 96) (n : Nat) (v : List Bool) : loopF (S32_0 m) n (v, 0) = loopF (S35_2 m) n (v, 0) := by
  have main : ∀ s : List Bool × Int, 0 ≤ s.2 → S32_0 m s = S35_2 m s ∧ ∀ s', S32_0 m s = .inl s' → 0 ≤ s'.2 := by
    rintro ⟨v, i⟩ hs
    simp only at hs
    simp only [S32_0, S35_2]
    rw [opn_eq m h _ v]
    have hp : F78 (m.1, m.2) i = F110 (m.1, m.2) (m.2.getD (Int.toNat i) default) := rfl
    rw [hp]
    unfold F68
    simp only [from_in _ h64, nrm_eq]
    generalize m.2.getD (Int.toNat i) default = c
    generalize F77 (F110 (m.1, m.2) c) = q
    generalize ((q.1 == 0) && ((q.2.1 == 0) && ((q.2.2 == 0) && true))) = b7
    generalize decide (c.1 < 0) = b1, decide (c.1 ≥ ((m.1.length : Nat) : Int)) = b2, decide (c.2.1 < 0) = b3, decide (c.2.1 ≥ ((m.1.length : Nat) : Int)) = b4, decide (c.2.2 < 0) = b5, decide (c.2.2 ≥ ((m.1.length : Nat) : Int)) = b6, decide (i < ((m.2.length : Nat) : Int)) = b0
    cases b0
    case false => exact ⟨rfl, fun s' e => by cases e⟩
    cases b1
    case true => exact ⟨rfl, fun s' e => by cases e⟩
    cases b2
    case true => exact ⟨rfl, fun s' e => by cases e⟩
    cases b3
    case true => exact ⟨rfl, fun s' e => by cases e⟩
    cases b4
    case true => exact ⟨rfl, fun s' e => by cases e⟩
    cases b5
    case true => exact ⟨rfl, fun s' e => by cases e⟩
    cases b6
    case true => exact ⟨rfl, fun s' e => by cases e⟩
    cases b7
    case true => exact ⟨rfl, fun s' e => by cases e⟩
    exact ⟨rfl, fun s' e => by obtain rfl := Sum.inl.inj e; show 0 ≤ i + 1; omega⟩
  exact loopF_eq (fun s => 0 ≤ s.2) (fun s hs => (main s hs).1) (fun s s' hs e => (main s hs).2 s' e) n (v, 0) (Int.le_refl 0)
theorem eq_b (a b : P3) : (((a.1 : Int) == b.1) && (((a.2.1 : Int) == b.2.1) && (((a.2.2 : Int) == b.2.2) && true))) = decide (a = b) := by
  rw [Bool.eq_iff_iff]
  simp only [Bool.and_eq_true, beq_iff_eq, and_true, decide_eq_true_eq, Prod.ext_iff]
theorem inn_t (m : ME) (i : Nat) : ∀ (n k : Nat), i - k < n → (∃ j, k ≤ j ∧ j < i ∧ m.1.getD j default = m.1.getD i default) → loopF (S35_1 m) n ((i : Int), (k : Int)) = .inr 1 := by
  intro n
  induction n with
  | zero => intro k hk; omega
  | succ n ih =>
    intro k hk ⟨j, h1, h2, h3⟩
    by_cases e : m.1.getD i default = m.1.getD k default
    · refine loopF_inr ?_
      simp only [S35_1]
      rw [decide_eq_true (by omega), cond_true, Int.toNat_natCast, Int.toNat_natCast, eq_b, decide_eq_true e]; rfl
    · have h : S35_1 m ((i : Int), (k : Int)) = .inl ((i : Int), ((k + 1 : Nat) : Int)) := by
        simp only [S35_1]
        rw [decide_eq_true (by omega), cond_true, Int.toNat_natCast, Int.toNat_natCast, eq_b, decide_eq_false e]; rfl
      rw [loopF_inl h]
      have : j ≠ k := fun x => e (x ▸ h3.symm)
      exact ih (k + 1) (by omega) ⟨j, by omega, h2, h3⟩
theorem inn_f (m : ME) (i : Nat) : ∀ (n k : Nat), k ≤ i → i - k < n → (∀ j, k ≤ j → j < i → m.1.getD j default ≠ m.1.getD i default) → loopF (S35_1 m) n ((i : Int), (k : Int)) = .inl ((i : Int) + 1) := by
  intro n
  induction n with
  | zero => intro k _ hk; omega
  | succ n ih =>
    intro k hki hk hj
    by_cases hlt : k < i
    · have h : S35_1 m ((i : Int), (k : Int)) = .inl ((i : Int), ((k + 1 : Nat) : Int)) := by
        simp only [S35_1]
        rw [decide_eq_true (by omega), cond_true, Int.toNat_natCast, Int.toNat_natCast, eq_b, decide_eq_false (fun e => hj k (Nat.le_refl k) hlt e.symm)]; rfl
      rw [loopF_inl h]
      exact ih (k + 1) (by omega) (by omega) (fun j h1 h2 => hj j (by omega) h2)
    · refine loopF_inr ?_
      simp only [S35_1]
      rw [decide_eq_false (by omega), cond_false]
open Classical in
theorem rng_eq (p : P3) : F108 p 64 = F76 p 64 := by rw [inRange_eq, near02_eq]
theorem pts_eq (m : ME) : ∀ (n i : Nat) (v : List (P3 × Bool)), i ≤ m.1.length → m.1.length - i < n → (∀ q, mget v q false = true ↔ ∃ j, j < i ∧ m.1.getD j default = q) →
    loopF (S35_0 m) n (i : Int) = bif (loopF (S67_0 m) n (v, (i : Int)) != 0) then loopF (S67_0 m) n (v, (i : Int)) else loopF (S35_2 m) (Int.toNat (((m.2.length : Nat) : Int) - 0) + 1) ((List.replicate (Int.toNat ((m.1.length : Nat) : Int)) false), 0) := by
  intro n
  induction n with
  | zero => intro i v _ h; omega
  | succ n ih =>
    intro i v hi hn hv
    by_cases hlt : i < m.1.length
    · have hw : ((i : Nat) : Int) < ((m.1.length : Nat) : Int) := by omega
      cases hr : F108 (m.1.getD i default) 64 with
      | false =>
        have e1 : S67_0 m (v, (i : Int)) = .inr 1 := by
          simp only [S67_0]; rw [decide_eq_true hw, cond_true, Int.toNat_natCast, hr]; rfl
        have e2 : S35_0 m (i : Int) = .inr 1 := by
          simp only [S35_0]; rw [decide_eq_true hw, cond_true, Int.toNat_natCast, ← rng_eq, hr]; rfl
        rw [loopF_inr e1, loopF_inr e2]; rfl
      | true =>
        cases hg : mget v (m.1.getD i default) false with
        | true =>
          have e1 : S67_0 m (v, (i : Int)) = .inr 1 := by
            simp only [S67_0]; rw [decide_eq_true hw, cond_true, Int.toNat_natCast, hr, hg]; rfl
          obtain ⟨j, h1, h2⟩ := (hv _).1 hg
          have e2 : S35_0 m (i : Int) = .inr 1 := by
            simp only [S35_0]; rw [decide_eq_true hw, cond_true, Int.toNat_natCast, ← rng_eq, hr]
            exact inn_t m i _ 0 (by omega) ⟨j, by omega, h1, h2⟩
          rw [loopF_inr e1, loopF_inr e2]; rfl
        | false =>
          have e1 : S67_0 m (v, (i : Int)) = .inl (mput v (m.1.getD i default) true, ((i + 1 : Nat) : Int)) := by
            simp only [S67_0]; rw [decide_eq_true hw, cond_true, Int.toNat_natCast, hr, hg]; rfl
          have e2 : S35_0 m (i : Int) = .inl ((i + 1 : Nat) : Int) := by
            simp only [S35_0]; rw [decide_eq_true hw, cond_true, Int.toNat_natCast, ← rng_eq, hr]
            exact inn_f m i _ 0 (by omega) (by omega) (fun j _ h2 h3 => by
              have := (hv _).2 ⟨j, h2, h3⟩
              rw [hg] at this; cases this)
          rw [loopF_inl e1, loopF_inl e2]
          refine ih (i + 1) _ (by omega) (by omega) (fun q => ?_)
          rw [mget_put]
          by_cases e : m.1.getD i default = q
          · rw [if_pos e]; exact ⟨fun _ => ⟨i, by omega, e⟩, fun _ => rfl⟩
          · rw [if_neg e, hv]
            constructor
            · rintro ⟨j, h1, h2⟩; exact ⟨j, by omega, h2⟩
            · rintro ⟨j, h1, h2⟩
              refine ⟨j, ?_, h2⟩
              rcases Nat.lt_or_ge j i with h | h
              · exact h
              · have : j = i := by omega
                exact absurd (this ▸ h2) e
    · have hw : ¬ ((i : Nat) : Int) < ((m.1.length : Nat) : Int) := by omega
      have e1 : S67_0 m (v, (i : Int)) = .inr 0 := by
        simp only [S67_0]; rw [decide_eq_false hw, cond_false]
      have e2 : S35_0 m (i : Int) = .inr (loopF (S35_2 m) (Int.toNat (((m.2.length : Nat) : Int) - 0) + 1) ((List.replicate (Int.toNat ((m.1.length : Nat) : Int)) false), 0)) := by
        simp only [S35_0]; rw [decide_eq_false hw, cond_false]
      rw [loopF_inr e1, loopF_inr e2]; rfl
theorem val_eq (m : ME) : F32 m = F35 m := by
  unfold F32 F35
  by_cases h1 : ((m.1.length : Nat) : Int) > 64
  · rw [decide_eq_true h1]; rfl
  · rw [decide_eq_false h1, cond_false, cond_false, show F75 ((m.2.length : Nat) : Int) 1 96 = F66 ((m.2.length : Nat) : Int) 1 96 from rfl]
    cases h2 : (!F66 ((m.2.length : Nat) : Int) 1 96) with
    | true => rfl
    | false =>
      rw [cond_false, cond_false]
      have g := from_p h2
      rw [fac_eq m (by omega) (by omega)]
      have hp := pts_eq m (Int.toNat (((m.1.length : Nat) : Int) - 0) + 1) 0 [] (by omega) (by omega) (fun q => by
        rw [mget_nil]
        constructor
        · intro h; cases h
        · rintro ⟨j, h, _⟩; omega)
      exact hp.symm

end Go.Proofs.YthpgabaeefifbaaGreat

namespace Go.Proofs.YthpgabaeefifbaaGreat
open Go.Proofs Go.Aw Go.RowKit
set_option maxRecDepth 100000
set_option linter.unusedVariables false
set_option linter.unusedSimpArgs false

/-! ### A valid mesh -/
theorem okl (m : ME) (h64 : m.1.length ≤ 64) : ∀ (n : Nat) (v : List Bool) (i : Int), 0 ≤ i → Int.toNat (((m.2.length : Nat) : Int) - i) < n → loopF (S32_0 m) n (v, i) = 0 → ∀ j : Int, i ≤ j → j < ((m.2.length : Nat) : Int) → F68 m (m.2.getD (Int.toNat j) default) = 0 := by
  intro n
  induction n with
  | zero => intro v i _ h; omega
  | succ n ih =>
    intro v i hi hn h j h1 h2
    have hlt : i < ((m.2.length : Nat) : Int) := by omega
    cases hf : ((F68 (m.1, m.2) (m.2.getD (Int.toNat i) default) : Int) != 0) with
    | true =>
      have e : S32_0 m (v, i) = .inr (F68 (m.1, m.2) (m.2.getD (Int.toNat i) default)) := by
        simp only [S32_0]; rw [decide_eq_true hlt, cond_true, hf, cond_true]
      rw [loopF_inr e] at h
      exact absurd h (bne_iff_ne.1 hf)
    | false =>
      by_cases hj : j = i
      · subst hj; exact bne_eq_false_iff_eq.1 hf
      · have e : S32_0 m (v, i) = .inl ((((v.set (Int.toNat (m.2.getD (Int.toNat i) default).1) true).set (Int.toNat (m.2.getD (Int.toNat i) default).2.1) true).set (Int.toNat (m.2.getD (Int.toNat i) default).2.2) true), (i + 1)) := by
          simp only [S32_0]; rw [decide_eq_true hlt, cond_true, hf, cond_false]
        rw [loopF_inl e] at h
        exact ih _ (i + 1) (by omega) (by omega) h j (by omega) h2
theorem val_parts {m : ME} (h : F32 m = 0) : m.1.length ≤ 64 ∧ 1 ≤ m.2.length ∧ m.2.length ≤ 96 ∧ F67 m = 0 ∧ ∀ j : Int, 0 ≤ j → j < ((m.2.length : Nat) : Int) → F68 m (m.2.getD (Int.toNat j) default) = 0 := by
  unfold F32 at h
  by_cases h1 : ((m.1.length : Nat) : Int) > 64
  · rw [decide_eq_true h1, cond_true] at h; exact absurd h (by decide)
  · rw [decide_eq_false h1, cond_false] at h
    cases h2 : (!F66 ((m.2.length : Nat) : Int) 1 96) with
    | true => rw [h2, cond_true] at h; exact absurd h (by decide)
    | false =>
      have g := from_p h2
      rw [h2, cond_false] at h
      cases h3 : ((F67 (m.1, m.2) : Int) != 0) with
      | true => rw [h3, cond_true] at h; exact absurd h (bne_iff_ne.1 h3)
      | false =>
        rw [h3, cond_false] at h
        exact ⟨by omega, by omega, by omega, bne_eq_false_iff_eq.1 h3, fun j h1 h2 => okl m (by omega) _ _ 0 (Int.le_refl 0) (by omega) h j h1 h2⟩
theorem val_ok {m : ME} (h : ((F32 m : Int) != 0) = false) : okTo m m.2.length ∧ m.2.length ≤ 96 := by
  obtain ⟨h1, _, h3, _, h4⟩ := val_parts (bne_eq_false_iff_eq.1 h)
  exact ⟨fun i g1 g2 => face_in (m := m) (by rw [h4 i g1 g2]; rfl) h1, h3⟩
theorem valr_ok {m : ME} (h : ((F35 m : Int) != 0) = false) : okTo m m.2.length ∧ m.2.length ≤ 96 := by
  rw [← val_eq] at h; exact val_ok h

def F86 (a0 : (List (Int × Int × Int)) × List (Int × Int × Int)) : (List ((Int × Int × Int) × (Int × Int × Int) × Int × Int × Int)) × Int :=
  (bif (((F32 (a0.1, a0.2)) : Int) != 0) then
   (([] : List ((Int × Int × Int) × (Int × Int × Int) × Int × Int × Int)), (F32 (a0.1, a0.2)))
  else
   ((F111 (a0.1, a0.2)), 0))

theorem C86 (a0 : (List (Int × Int × Int)) × List (Int × Int × Int)) (l0_1 : a0.1.length ≤ 9223372036854775807) (l0_2 : a0.2.length ≤ 9223372036854775807) : Con Tryz.prog 86 [(.a [(.s 0 0 a0.1.length 3), (.s 1 0 a0.2.length 3)])] [(.live false true (flat c27 a0.1)), (.live false true (flat c85 a0.2))] (.t [(.s 2 0 (F86 a0).1.length 9), (iv (F86 a0).2)]) [(.live true true (flat c65 (F86 a0).1))] := by
  refine con_s Tryz.func86 (by kernel_rfl) fun cx hcx => ?_
  let t0 : List (St Tryz.prog) := [.c [0, 1] (C32 (a0.1, a0.2) (by (try simp only [List.length_append, List.length_cons, List.length_nil, Int.toNat_zero]); omega) (by (try simp only [List.length_append, List.length_cons, List.length_nil, Int.toNat_zero]); omega))]
  cases h0 : (((F32 (a0.1, a0.2)) : Int) != 0) with
  | true =>
   have q0 := bne_iff_ne.1 h0
   have e := Eq.refl (F86 a0); conv at e => rhs; simp only [F86, h0, cond_true, cond_false]
   rw [e]
   exact rt (t0 ++ [.d h0]) [.slot 2 9] [3] hcx (by kernel_rfl)
  | false =>
   have q0 := bne_eq_false_iff_eq.1 h0
   have e := Eq.refl (F86 a0); conv at e => rhs; simp only [F86, h0, cond_true, cond_false]
   rw [e]
   exact rt (t0 ++ [.d h0, .c [0, 1] (C111 (a0.1, a0.2) (by (try simp only [List.length_append, List.length_cons, List.length_nil, Int.toNat_zero]); omega) (by (try simp only [List.length_append, List.length_cons, List.length_nil, Int.toNat_zero]); omega) (val_ok h0).1 (val_ok h0).2)]) [] [3] hcx (by kernel_rfl)

theorem pan_f (m : ME) : F86 m = bif ((F32 m : Int) != 0) then ([], F32 m) else (m.2.map (F110 m), 0) := by
  unfold F86
  rw [show F111 (m.1, m.2) = m.2.map (F110 m) from pnl_map m]
theorem pan_len (m : ME) : (F86 m).1.length ≤ 96 := by
  rw [pan_f]
  cases h : ((F32 m : Int) != 0) with
  | true => exact Nat.zero_le _
  | false => rw [cond_false]; show (m.2.map _).length ≤ 96; rw [List.length_map]; exact (val_ok h).2

end Go.Proofs.YthpgabaeefifbaaGreat

namespace Go.Proofs.YthpgabaeefifbaaGreat
open Go.Proofs Go.Aw Go.RowKit
set_option maxRecDepth 100000
set_option linter.unusedVariables false
set_option linter.unusedSimpArgs false

/-! ### Searches by bits and by halves, for whatever is to hold -/
theorem gbits {R : Type} [Inhabited R] {p : Int → Prop} [DecidablePred p] {G : Int → R} {M : Int} {S : Int × Int → (Int × Int) ⊕ R} (hS : ∀ k b, 0 ≤ k → 0 < b → k + b ≤ M → S (k, b) = if p (k + b) then .inl (k + b, b / 2) else .inl (k, b / 2)) (h0 : ∀ k, 0 ≤ k → k ≤ M → S (k, 0) = .inr (G k)) :
    ∀ (j f : Nat) (k : Int), j + 2 ≤ f → 0 ≤ k → k + 2 * 2 ^ j ≤ M → p k → ¬ p (k + 2 * 2 ^ j) → ∃ r, 0 ≤ r ∧ r ≤ M ∧ p r ∧ ¬ p (r + 1) ∧ loopF S f (k, 2 ^ j) = G r := by
  intro j
  induction j with
  | zero =>
    intro f k hf hk hb h1 h2
    obtain ⟨f, rfl⟩ : ∃ g, f = g + 2 := ⟨f - 2, by omega⟩
    simp only [Int.pow_zero] at h2 hb ⊢
    have hs := hS k 1 hk (by omega) (by omega)
    by_cases hc : p (k + 1)
    · rw [if_pos hc] at hs
      rw [loopF_inl hs, show ((1 : Int) / 2) = 0 by omega, loopF_inr (h0 _ (by omega) (by omega))]
      exact ⟨k + 1, by omega, by omega, hc, by rw [show k + 1 + 1 = k + 2 * 1 by omega]; exact h2, rfl⟩
    · rw [if_neg hc] at hs
      rw [loopF_inl hs, show ((1 : Int) / 2) = 0 by omega, loopF_inr (h0 _ hk (by omega))]
      exact ⟨k, hk, by omega, h1, hc, rfl⟩
  | succ j ih =>
    intro f k hf hk hb h1 h2
    obtain ⟨f, rfl⟩ : ∃ g, f = g + 1 := ⟨f - 1, by omega⟩
    have hp : (0 : Int) < 2 ^ j := Int.pow_pos (by omega)
    rw [Int.pow_succ] at h2 hb ⊢
    have hs := hS k (2 ^ j * 2) hk (by omega) (by omega)
    have hd : (2 : Int) ^ j * 2 / 2 = 2 ^ j := Int.mul_ediv_cancel _ (by omega)
    rw [hd] at hs
    by_cases hc : p (k + 2 ^ j * 2)
    · rw [if_pos hc] at hs
      rw [loopF_inl hs]
      refine ih f _ (by omega) (by omega) (by omega) hc ?_
      rw [show k + 2 ^ j * 2 + 2 * 2 ^ j = k + 2 * ((2 : Int) ^ j * 2) by omega]; exact h2
    · rw [if_neg hc] at hs
      rw [loopF_inl hs]
      refine ih f _ (by omega) hk (by omega) h1 ?_
      rw [show k + 2 * (2 : Int) ^ j = k + 2 ^ j * 2 by omega]; exact hc
theorem gbins {R : Type} [Inhabited R] {p : Int → Prop} [DecidablePred p] {G : Int → R} {M : Int} {S : Int × Int → (Int × Int) ⊕ R} (hS : ∀ a b, 0 ≤ a → a < b → b ≤ M → S (a, b) = if p ((a + b + 1) / 2) then .inl ((a + b + 1) / 2, b) else .inl (a, (a + b + 1) / 2 - 1)) (h0 : ∀ a, 0 ≤ a → a ≤ M → S (a, a) = .inr (G a)) :
    ∀ (f : Nat) (a b : Int), 0 ≤ a → a ≤ b → b ≤ M → b - a < f → p a → ¬ p (b + 1) → ∃ r, 0 ≤ r ∧ r ≤ M ∧ p r ∧ ¬ p (r + 1) ∧ loopF S f (a, b) = G r := by
  intro f
  induction f with
  | zero => intro a b _ h _ hf; omega
  | succ f ih =>
    intro a b ha hab hb hf h1 h2
    by_cases he : a = b
    · subst he
      rw [loopF_inr (h0 a ha hb)]; exact ⟨a, ha, hb, h1, h2, rfl⟩
    · have hs := hS a b ha (by omega) hb
      by_cases hc : p ((a + b + 1) / 2)
      · rw [if_pos hc] at hs
        rw [loopF_inl hs]
        exact ih _ _ (by omega) (by omega) hb (by omega) hc h2
      · rw [if_neg hc] at hs
        rw [loopF_inl hs]
        refine ih _ _ ha (by omega) (by omega) (by omega) h1 ?_
        rw [show (a + b + 1) / 2 - 1 + 1 = (a + b + 1) / 2 by omega]; exact hc

theorem um1 {a b : Int} (h : 0 ≤ a ∧ a ≤ b ∧ b ≤ 1099511627776) : IntKind.wrap .u64 (Int.tdiv (IntKind.wrap .u64 ((IntKind.wrap .u64 (a + b)) + 1)) 2) = (a + b + 1) / 2 := by
  rw [U_def (a + b), Int.emod_eq_of_lt (a := a + b) (by omega) (by omega), U_def (a + b + 1), Int.emod_eq_of_lt (a := a + b + 1) (by omega) (by omega), Int.tdiv_eq_ediv_of_nonneg (by omega), U_def, Int.emod_eq_of_lt (by omega) (by omega)]
theorem um2 {a b : Int} (h : 0 ≤ a ∧ a < b ∧ b ≤ 1099511627776) : IntKind.wrap .u64 ((IntKind.wrap .u64 (Int.tdiv (IntKind.wrap .u64 ((IntKind.wrap .u64 (a + b)) + 1)) 2)) - 1) = (a + b + 1) / 2 - 1 := by
  rw [um1 (by omega), U_def, Int.emod_eq_of_lt (by omega) (by omega)]
theorem half_eq {b : Int} (h : 0 ≤ b ∧ b ≤ 1099511627776) : W (Int.tdiv b 2) = b / 2 := by rw [Int.tdiv_eq_ediv_of_nonneg (by omega), W_eq (by omega) (by omega)]

noncomputable def B34_0 : Code := (loopAtD [1, 1, 1, 1, 1, 0, 1] [] (bodyOf Tryz.f34) []).1
noncomputable def K34_0 : List K := (loopAtD [1, 1, 1, 1, 1, 0, 1] [] (bodyOf Tryz.f34) []).2

def st34_0 (a0 : Int) (v1 : Int) (v2 : Int) : LS := ⟨slN 70 [(2, (.p 0 0)), (4, (iv (F73 a0))), (5, (iv (W ((W (a0 - (W ((F73 a0) * (F73 a0))))) * 2 ^ (min (Int.toNat 40) 64))))), (6, (iv v1)), (7, (iv v2))], [(.live true false [(iv 0), (iv 0)])]⟩

def S34_0 (a0 : Int) : Int × Int → (Int × Int) ⊕ ((Int × Int) × Int)
  | (v1, v2) =>
   (bif (decide ((v2 : Int) > 0)) then
    (bif (decide (((W ((W ((W ((W (2 * (F73 a0))) * (W (v1 + v2)))) * 2 ^ (min (Int.toNat 20) 64))) + (W ((W (v1 + v2)) * (W (v1 + v2)))))) : Int) ≤ (W ((W (a0 - (W ((F73 a0) * (F73 a0))))) * 2 ^ (min (Int.toNat 40) 64))))) then
     (.inl ((W (v1 + v2)), (W (Int.tdiv v2 2))))
    else
     (.inl (v1, (W (Int.tdiv v2 2)))))
   else
    (bif (((W ((W ((W ((W (2 * (F73 a0))) * v1)) * 2 ^ (min (Int.toNat 20) 64))) + (W (v1 * v1)))) : Int) == (W ((W (a0 - (W ((F73 a0) * (F73 a0))))) * 2 ^ (min (Int.toNat 40) 64)))) then
     (.inr ((F74 (W ((W ((F73 a0) * 2 ^ (min (Int.toNat 20) 64))) + v1)) (W ((W ((F73 a0) * 2 ^ (min (Int.toNat 20) 64))) + v1))).1, (F74 (W ((W ((F73 a0) * 2 ^ (min (Int.toNat 20) 64))) + v1)) (W ((W ((F73 a0) * 2 ^ (min (Int.toNat 20) 64))) + v1))).2))
    else
     (.inr ((F74 (W ((W ((F73 a0) * 2 ^ (min (Int.toNat 20) 64))) + v1)) (W ((W ((W ((F73 a0) * 2 ^ (min (Int.toNat 20) 64))) + v1)) + 1))).1, (F74 (W ((W ((F73 a0) * 2 ^ (min (Int.toNat 20) 64))) + v1)) (W ((W ((W ((F73 a0) * 2 ^ (min (Int.toNat 20) 64))) + v1)) + 1))).2))))

set_option maxHeartbeats 4000000 in
theorem L34_0 (a0 : Int) {cx : Cx} (hcx : cx.base = 0) : ∀ (n : Nat) (v1 : Int) (v2 : Int), (0 ≤ v2) ∧ (v2 ≤ 1099511627776) → Int.toNat v2 < n → Aw.Good Tryz.prog none 9 (bodyPost Tryz.prog Tryz.f34 (RR cx (.t [(.a (k2 (loopF (S34_0 a0) n (v1, v2)).1)), (iv (loopF (S34_0 a0) n (v1, v2)).2)]) [] [])) cx [] (.l B34_0 n :: K34_0) (st34_0 a0 v1 v2) := by
  intro n
  induction n with
  | zero => intro v1 v2 hi hn; exact absurd hn (Nat.not_lt_zero _)
  | succ n ih =>
    intro v1 v2 hi hn
    refine good_round ?_
    have hw1 := half_eq (b := v2) (by omega)
    cases h0 : (decide ((v2 : Int) > 0)) with
    | true =>
     have q0 := of_decide_eq_true h0
     let t1 : List (St Tryz.prog) := [.d h0, .p (show 0 ≤ (20 : Int) from by decide)]
     cases h1 : (decide (((W ((W ((W ((W (2 * (F73 a0))) * (W (v1 + v2)))) * 2 ^ (min (Int.toNat 20) 64))) + (W ((W (v1 + v2)) * (W (v1 + v2)))))) : Int) ≤ (W ((W (a0 - (W ((F73 a0) * (F73 a0))))) * 2 ^ (min (Int.toNat 40) 64))))) with
     | true =>
      have q1 := of_decide_eq_true h1
      have e := Eq.refl (S34_0 a0 (v1, v2)); conv at e => rhs; simp only [S34_0, h0, h1, cond_true, cond_false]
      rw [loopF_inl e]
      refine ba (t1 ++ [.d h1, .p (show (2 : Int) ≠ 0 from by decide)]) [] [2, 4, 5, 6, 7] [0] hcx (m := n) B34_0 (K34_0) (st34_0 a0 (W (v1 + v2)) (W (Int.tdiv v2 2))) (by kernel_rfl) ?_
      exact ih (W (v1 + v2)) (W (Int.tdiv v2 2)) (by refine ⟨?_, ?_⟩ <;> (try simp only [List.length_append, List.length_cons, List.length_nil, Int.toNat_zero]) <;> first | omega | assumption | simp) (by (try simp only [List.length_append, List.length_cons, List.length_nil, Int.toNat_zero]); omega)
     | false =>
      have q1 := of_decide_eq_false h1
      have e := Eq.refl (S34_0 a0 (v1, v2)); conv at e => rhs; simp only [S34_0, h0, h1, cond_true, cond_false]
      rw [loopF_inl e]
      refine ba (t1 ++ [.d h1, .p (show (2 : Int) ≠ 0 from by decide)]) [] [2, 4, 5, 6, 7] [0] hcx (m := n) B34_0 (K34_0) (st34_0 a0 v1 (W (Int.tdiv v2 2))) (by kernel_rfl) ?_
      exact ih v1 (W (Int.tdiv v2 2)) (by refine ⟨?_, ?_⟩ <;> (try simp only [List.length_append, List.length_cons, List.length_nil, Int.toNat_zero]) <;> first | omega | assumption | simp) (by (try simp only [List.length_append, List.length_cons, List.length_nil, Int.toNat_zero]); omega)
    | false =>
     have q0 := of_decide_eq_false h0
     let t1 : List (St Tryz.prog) := [.d h0, .p (show 0 ≤ (20 : Int) from by decide), .p (show 0 ≤ (20 : Int) from by decide)]
     cases h1 : (((W ((W ((W ((W (2 * (F73 a0))) * v1)) * 2 ^ (min (Int.toNat 20) 64))) + (W (v1 * v1)))) : Int) == (W ((W (a0 - (W ((F73 a0) * (F73 a0))))) * 2 ^ (min (Int.toNat 40) 64)))) with
     | true =>
      have q1 := eq_of_beq h1
      have e := Eq.refl (S34_0 a0 (v1, v2)); conv at e => rhs; simp only [S34_0, h0, h1, cond_true, cond_false]
      rw [loopF_s, e]
      exact rt (t1 ++ [.d h1, .c [] (C74 (W ((W ((F73 a0) * 2 ^ (min (Int.toNat 20) 64))) + v1)) (W ((W ((F73 a0) * 2 ^ (min (Int.toNat 20) 64))) + v1)))]) [] [] hcx (by kernel_rfl)
     | false =>
      have q1 := ne_of_beq_false h1
      have e := Eq.refl (S34_0 a0 (v1, v2)); conv at e => rhs; simp only [S34_0, h0, h1, cond_true, cond_false]
      rw [loopF_s, e]
      exact rt (t1 ++ [.d h1, .c [] (C74 (W ((W ((F73 a0) * 2 ^ (min (Int.toNat 20) 64))) + v1)) (W ((W ((W ((F73 a0) * 2 ^ (min (Int.toNat 20) 64))) + v1)) + 1)))]) [] [] hcx (by kernel_rfl)

def F34 (a0 : Int) : (Int × Int) × Int :=
  (bif (decide ((a0 : Int) < 0)) then
   ((0, 0), 1)
  else
   (bif (decide ((a0 : Int) > 1099511627776)) then
    ((0, 0), 1)
   else
    (loopF (S34_0 a0) (Int.toNat 524288 + 1) (0, 524288))))

theorem C34 (a0 : Int) : Con Tryz.prog 34 [(iv a0)] [] (.t [(.a (k2 (F34 a0).1)), (iv (F34 a0).2)]) [] := by
  refine con_s Tryz.func34 (by kernel_rfl) fun cx hcx => ?_
  cases h0 : (decide ((a0 : Int) < 0)) with
  | true =>
   have q0 := of_decide_eq_true h0
   have e := Eq.refl (F34 a0); conv at e => rhs; simp only [F34, h0, cond_true, cond_false]
   rw [e]
   exact rt [.d h0] [] [] hcx (by kernel_rfl)
  | false =>
   have q0 := of_decide_eq_false h0
   let t1 : List (St Tryz.prog) := [.d h0]
   cases h1 : (decide ((a0 : Int) > 1099511627776)) with
   | true =>
    have q1 := of_decide_eq_true h1
    have e := Eq.refl (F34 a0); conv at e => rhs; simp only [F34, h0, h1, cond_true, cond_false]
    rw [e]
    exact rt (t1 ++ [.d h1]) [] [] hcx (by kernel_rfl)
   | false =>
    have q1 := of_decide_eq_false h1
    have e := Eq.refl (F34 a0); conv at e => rhs; simp only [F34, h0, h1, cond_true, cond_false]
    rw [e]
    refine en (t1 ++ [.d h1, .c [] (C73 a0), .p (show 0 ≤ (40 : Int) from by decide)]) [] [2, 4, 5, 6, 7] [0] hcx B34_0 (K34_0) (st34_0 a0 0 524288) (Int.toNat 524288 + 1) (by kernel_rfl) ?_
    exact L34_0 a0 hcx (Int.toNat 524288 + 1) 0 524288 (by refine ⟨?_, ?_⟩ <;> (try simp only [List.length_append, List.length_cons, List.length_nil, Int.toNat_zero]) <;> first | omega | assumption | simp) (by (try simp only [List.length_append, List.length_cons, List.length_nil, Int.toNat_zero]); omega)

noncomputable def B39_0 : Code := (loopAtD [1, 1, 1, 1, 0] [] (bodyOf Tryz.f39) []).1
noncomputable def K39_0 : List K := (loopAtD [1, 1, 1, 1, 0] [] (bodyOf Tryz.f39) []).2

def st39_0 (a0 : Int) (v2 : Int) (v3 : Int) : LS := ⟨slN 82 [(2, (.p 0 0)), (4, (.v (.int .u64 (F83 (IntKind.wrap .u64 a0) 1099511627776).1))), (5, (.v (.int .u64 (F83 (IntKind.wrap .u64 a0) 1099511627776).2))), (6, (.v (.int .u64 v2))), (7, (.v (.int .u64 v3)))], [(.live true false [(iv 0), (iv 0)])]⟩

def S39_0 (a0 : Int) : Int × Int → (Int × Int) ⊕ ((Int × Int) × Int)
  | (v2, v3) =>
   (bif (decide ((v2 : Int) < v3)) then
    (bif (decide (((F83 (IntKind.wrap .u64 (Int.tdiv (IntKind.wrap .u64 ((IntKind.wrap .u64 (v2 + v3)) + 1)) 2)) (IntKind.wrap .u64 (Int.tdiv (IntKind.wrap .u64 ((IntKind.wrap .u64 (v2 + v3)) + 1)) 2))).1 : Int) < (F83 (IntKind.wrap .u64 a0) 1099511627776).1)) then
     (.inl ((IntKind.wrap .u64 (Int.tdiv (IntKind.wrap .u64 ((IntKind.wrap .u64 (v2 + v3)) + 1)) 2)), v3))
    else
     (bif (((F83 (IntKind.wrap .u64 (Int.tdiv (IntKind.wrap .u64 ((IntKind.wrap .u64 (v2 + v3)) + 1)) 2)) (IntKind.wrap .u64 (Int.tdiv (IntKind.wrap .u64 ((IntKind.wrap .u64 (v2 + v3)) + 1)) 2))).1 : Int) == (F83 (IntKind.wrap .u64 a0) 1099511627776).1) then
      (bif (decide (((F83 (IntKind.wrap .u64 (Int.tdiv (IntKind.wrap .u64 ((IntKind.wrap .u64 (v2 + v3)) + 1)) 2)) (IntKind.wrap .u64 (Int.tdiv (IntKind.wrap .u64 ((IntKind.wrap .u64 (v2 + v3)) + 1)) 2))).2 : Int) ≤ (F83 (IntKind.wrap .u64 a0) 1099511627776).2)) then
       (.inl ((IntKind.wrap .u64 (Int.tdiv (IntKind.wrap .u64 ((IntKind.wrap .u64 (v2 + v3)) + 1)) 2)), v3))
      else
       (.inl (v2, (IntKind.wrap .u64 ((IntKind.wrap .u64 (Int.tdiv (IntKind.wrap .u64 ((IntKind.wrap .u64 (v2 + v3)) + 1)) 2)) - 1)))))
     else
      (.inl (v2, (IntKind.wrap .u64 ((IntKind.wrap .u64 (Int.tdiv (IntKind.wrap .u64 ((IntKind.wrap .u64 (v2 + v3)) + 1)) 2)) - 1))))))
   else
    (bif (((F83 v2 v2).1 : Int) == (F83 (IntKind.wrap .u64 a0) 1099511627776).1) then
     (bif (((F83 v2 v2).2 : Int) == (F83 (IntKind.wrap .u64 a0) 1099511627776).2) then
      (.inr ((F84 (W v2) (W v2)).1, (F84 (W v2) (W v2)).2))
     else
      (.inr ((F84 (W v2) (W ((W v2) + 1))).1, (F84 (W v2) (W ((W v2) + 1))).2)))
    else
     (.inr ((F84 (W v2) (W ((W v2) + 1))).1, (F84 (W v2) (W ((W v2) + 1))).2))))

set_option maxHeartbeats 4000000 in
theorem L39_0 (a0 : Int) {cx : Cx} (hcx : cx.base = 0) : ∀ (n : Nat) (v2 : Int) (v3 : Int), (0 ≤ v2) ∧ (0 ≤ v2) ∧ (v2 ≤ v3) ∧ (v3 ≤ 1099511627776) → Int.toNat (v3 - v2) < n → Aw.Good Tryz.prog none 9 (bodyPost Tryz.prog Tryz.f39 (RR cx (.t [(.a (k2 (loopF (S39_0 a0) n (v2, v3)).1)), (iv (loopF (S39_0 a0) n (v2, v3)).2)]) [] [])) cx [] (.l B39_0 n :: K39_0) (st39_0 a0 v2 v3) := by
  intro n
  induction n with
  | zero => intro v2 v3 hi hn; exact absurd hn (Nat.not_lt_zero _)
  | succ n ih =>
    intro v2 v3 hi hn
    refine good_round ?_
    have hw1 := um1 (a := v2) (b := v3) (by omega)
    have hw2 := fun h => um2 (a := v2) (b := v3) h
    cases h0 : (decide ((v2 : Int) < v3)) with
    | true =>
     have q0 := of_decide_eq_true h0
     let t1 : List (St Tryz.prog) := [.d h0, .p (show (2 : Int) ≠ 0 from by decide), .c [] (C83 (IntKind.wrap .u64 (Int.tdiv (IntKind.wrap .u64 ((IntKind.wrap .u64 (v2 + v3)) + 1)) 2)) (IntKind.wrap .u64 (Int.tdiv (IntKind.wrap .u64 ((IntKind.wrap .u64 (v2 + v3)) + 1)) 2)))]
     cases h1 : (decide (((F83 (IntKind.wrap .u64 (Int.tdiv (IntKind.wrap .u64 ((IntKind.wrap .u64 (v2 + v3)) + 1)) 2)) (IntKind.wrap .u64 (Int.tdiv (IntKind.wrap .u64 ((IntKind.wrap .u64 (v2 + v3)) + 1)) 2))).1 : Int) < (F83 (IntKind.wrap .u64 a0) 1099511627776).1)) with
     | true =>
      have q1 := of_decide_eq_true h1
      have e := Eq.refl (S39_0 a0 (v2, v3)); conv at e => rhs; simp only [S39_0, h0, h1, cond_true, cond_false]
      rw [loopF_inl e]
      refine ba (t1 ++ [.d h1]) [] [2, 4, 5, 6, 7] [0] hcx (m := n) B39_0 (K39_0) (st39_0 a0 (IntKind.wrap .u64 (Int.tdiv (IntKind.wrap .u64 ((IntKind.wrap .u64 (v2 + v3)) + 1)) 2)) v3) (by kernel_rfl) ?_
      exact ih (IntKind.wrap .u64 (Int.tdiv (IntKind.wrap .u64 ((IntKind.wrap .u64 (v2 + v3)) + 1)) 2)) v3 (by refine ⟨?_, ?_, ?_, ?_⟩ <;> (try simp only [List.length_append, List.length_cons, List.length_nil, Int.toNat_zero]) <;> first | omega | assumption | simp) (by (try simp only [List.length_append, List.length_cons, List.length_nil, Int.toNat_zero]); omega)
     | false =>
      have q1 := of_decide_eq_false h1
      let t2 : List (St Tryz.prog) := (t1 ++ [.d h1])
      cases h2 : (((F83 (IntKind.wrap .u64 (Int.tdiv (IntKind.wrap .u64 ((IntKind.wrap .u64 (v2 + v3)) + 1)) 2)) (IntKind.wrap .u64 (Int.tdiv (IntKind.wrap .u64 ((IntKind.wrap .u64 (v2 + v3)) + 1)) 2))).1 : Int) == (F83 (IntKind.wrap .u64 a0) 1099511627776).1) with
      | true =>
       have q2 := eq_of_beq h2
       let t3 : List (St Tryz.prog) := (t2 ++ [.d h2])
       cases h3 : (decide (((F83 (IntKind.wrap .u64 (Int.tdiv (IntKind.wrap .u64 ((IntKind.wrap .u64 (v2 + v3)) + 1)) 2)) (IntKind.wrap .u64 (Int.tdiv (IntKind.wrap .u64 ((IntKind.wrap .u64 (v2 + v3)) + 1)) 2))).2 : Int) ≤ (F83 (IntKind.wrap .u64 a0) 1099511627776).2)) with
       | true =>
        have q3 := of_decide_eq_true h3
        have e := Eq.refl (S39_0 a0 (v2, v3)); conv at e => rhs; simp only [S39_0, h0, h1, h2, h3, cond_true, cond_false]
        rw [loopF_inl e]
        refine ba (t3 ++ [.d h3]) [] [2, 4, 5, 6, 7] [0] hcx (m := n) B39_0 (K39_0) (st39_0 a0 (IntKind.wrap .u64 (Int.tdiv (IntKind.wrap .u64 ((IntKind.wrap .u64 (v2 + v3)) + 1)) 2)) v3) (by kernel_rfl) ?_
        exact ih (IntKind.wrap .u64 (Int.tdiv (IntKind.wrap .u64 ((IntKind.wrap .u64 (v2 + v3)) + 1)) 2)) v3 (by refine ⟨?_, ?_, ?_, ?_⟩ <;> (try simp only [List.length_append, List.length_cons, List.length_nil, Int.toNat_zero]) <;> first | omega | assumption | simp) (by (try simp only [List.length_append, List.length_cons, List.length_nil, Int.toNat_zero]); omega)
       | false =>
        have q3 := of_decide_eq_false h3
        have e := Eq.refl (S39_0 a0 (v2, v3)); conv at e => rhs; simp only [S39_0, h0, h1, h2, h3, cond_true, cond_false]
        rw [loopF_inl e]
        refine ba (t3 ++ [.d h3]) [] [2, 4, 5, 6, 7] [0] hcx (m := n) B39_0 (K39_0) (st39_0 a0 v2 (IntKind.wrap .u64 ((IntKind.wrap .u64 (Int.tdiv (IntKind.wrap .u64 ((IntKind.wrap .u64 (v2 + v3)) + 1)) 2)) - 1))) (by kernel_rfl) ?_
        exact ih v2 (IntKind.wrap .u64 ((IntKind.wrap .u64 (Int.tdiv (IntKind.wrap .u64 ((IntKind.wrap .u64 (v2 + v3)) + 1)) 2)) - 1)) (by refine ⟨?_, ?_, ?_, ?_⟩ <;> (try simp only [List.length_append, List.length_cons, List.length_nil, Int.toNat_zero]) <;> first | omega | assumption | simp) (by (try simp only [List.length_append, List.length_cons, List.length_nil, Int.toNat_zero]); omega)
      | false =>
       have q2 := ne_of_beq_false h2
       have e := Eq.refl (S39_0 a0 (v2, v3)); conv at e => rhs; simp only [S39_0, h0, h1, h2, cond_true, cond_false]
       rw [loopF_inl e]
       refine ba (t2 ++ [.d h2]) [] [2, 4, 5, 6, 7] [0] hcx (m := n) B39_0 (K39_0) (st39_0 a0 v2 (IntKind.wrap .u64 ((IntKind.wrap .u64 (Int.tdiv (IntKind.wrap .u64 ((IntKind.wrap .u64 (v2 + v3)) + 1)) 2)) - 1))) (by kernel_rfl) ?_
       exact ih v2 (IntKind.wrap .u64 ((IntKind.wrap .u64 (Int.tdiv (IntKind.wrap .u64 ((IntKind.wrap .u64 (v2 + v3)) + 1)) 2)) - 1)) (by refine ⟨?_, ?_, ?_, ?_⟩ <;> (try simp only [List.length_append, List.length_cons, List.length_nil, Int.toNat_zero]) <;> first | omega | assumption | simp) (by (try simp only [List.length_append, List.length_cons, List.length_nil, Int.toNat_zero]); omega)
    | false =>
     have q0 := of_decide_eq_false h0
     let t1 : List (St Tryz.prog) := [.d h0, .c [] (C83 v2 v2)]
     cases h1 : (((F83 v2 v2).1 : Int) == (F83 (IntKind.wrap .u64 a0) 1099511627776).1) with
     | true =>
      have q1 := eq_of_beq h1
      let t2 : List (St Tryz.prog) := (t1 ++ [.d h1])
      cases h2 : (((F83 v2 v2).2 : Int) == (F83 (IntKind.wrap .u64 a0) 1099511627776).2) with
      | true =>
       have q2 := eq_of_beq h2
       have e := Eq.refl (S39_0 a0 (v2, v3)); conv at e => rhs; simp only [S39_0, h0, h1, h2, cond_true, cond_false]
       rw [loopF_s, e]
       exact rt (t2 ++ [.d h2, .c [] (C84 (W v2) (W v2))]) [] [] hcx (by kernel_rfl)
      | false =>
       have q2 := ne_of_beq_false h2
       have e := Eq.refl (S39_0 a0 (v2, v3)); conv at e => rhs; simp only [S39_0, h0, h1, h2, cond_true, cond_false]
       rw [loopF_s, e]
       exact rt (t2 ++ [.d h2, .c [] (C84 (W v2) (W ((W v2) + 1)))]) [] [] hcx (by kernel_rfl)
     | false =>
      have q1 := ne_of_beq_false h1
      have e := Eq.refl (S39_0 a0 (v2, v3)); conv at e => rhs; simp only [S39_0, h0, h1, cond_true, cond_false]
      rw [loopF_s, e]
      exact rt (t1 ++ [.d h1, .c [] (C84 (W v2) (W ((W v2) + 1)))]) [] [] hcx (by kernel_rfl)

def F39 (a0 : Int) : (Int × Int) × Int :=
  (bif (!(F82 a0 0 1099511627776)) then
   ((0, 0), 1)
  else
   (loopF (S39_0 a0) (Int.toNat (1099511627776 - 0) + 1) (0, 1099511627776)))

theorem C39 (a0 : Int) : Con Tryz.prog 39 [(iv a0)] [] (.t [(.a (k2 (F39 a0).1)), (iv (F39 a0).2)]) [] := by
  refine con_s Tryz.func39 (by kernel_rfl) fun cx hcx => ?_
  let t0 : List (St Tryz.prog) := [.c [] (C82 a0 0 1099511627776)]
  cases h0 : (!(F82 a0 0 1099511627776)) with
  | true =>
   have e := Eq.refl (F39 a0); conv at e => rhs; simp only [F39, h0, cond_true, cond_false]
   rw [e]
   exact rt (t0 ++ [.d h0]) [] [] hcx (by kernel_rfl)
  | false =>
   have e := Eq.refl (F39 a0); conv at e => rhs; simp only [F39, h0, cond_true, cond_false]
   rw [e]
   refine en (t0 ++ [.d h0, .c [] (C83 (IntKind.wrap .u64 a0) 1099511627776)]) [] [2, 4, 5, 6, 7] [0] hcx B39_0 (K39_0) (st39_0 a0 0 1099511627776) (Int.toNat (1099511627776 - 0) + 1) (by kernel_rfl) ?_
   exact L39_0 a0 hcx (Int.toNat (1099511627776 - 0) + 1) 0 1099511627776 (by refine ⟨?_, ?_, ?_, ?_⟩ <;> (try simp only [List.length_append, List.length_cons, List.length_nil, Int.toNat_zero]) <;> first | omega | assumption | simp) (by (try simp only [List.length_append, List.length_cons, List.length_nil, Int.toNat_zero]); omega)

/-! ### Lengths -/
def lenV (n r : Int) : (Int × Int) × Int := F74 r (if r * r = n * 1099511627776 then r else r + 1)
theorem Len_f {n : Int} (h : 0 ≤ n ∧ n ≤ 400000) : ∃ r, IsRt (n * 1099511627776) r ∧ F34 n = lenV n r := by
  have ha := rtSpan (n := n) h.1 (by omega)
  unfold F34
  rw [decide_eq_false (by omega), decide_eq_false (by omega), cond_false, cond_false]
  have hle : F73 n ≤ 1000 := ha.le (by omega) (by omega)
  have h0 := ha.1
  have h1 := ha.2.1
  have h2 := ha.2.2
  have p20 : (2 : Int) ^ (min (Int.toNat 20) 64) = 1048576 := by decide
  have p40 : (2 : Int) ^ (min (Int.toNat 40) 64) = 1099511627776 := by decide
  generalize ea : F73 n = a at *
  have haa : 0 ≤ a * a := Int.mul_nonneg h0 h0
  have ex : (a + 1) * (a + 1) = a * a + 2 * a + 1 := by grind
  have key : ∀ f : Int, 0 ≤ f → f ≤ 1048576 → W ((W ((W ((W (2 * a)) * (W f))) * 2 ^ (min (Int.toNat 20) 64))) + (W ((W f) * (W f)))) = (a * 1048576 + f) * (a * 1048576 + f) - a * a * 1099511627776 := by
    intro f f0 f1
    have m1 := mul_bd (a := 1000) (b := 1048576) (x := a) (y := f) ⟨by omega, by omega⟩ ⟨by omega, by omega⟩
    have m2 := mul_bd (a := 1048576) (b := 1048576) (x := f) (y := f) ⟨by omega, by omega⟩ ⟨by omega, by omega⟩
    have e1 : 2 * a * f = 2 * (a * f) := by grind
    rw [p20, W_eq (n := f) (by omega) (by omega), W_eq (n := 2 * a) (by omega) (by omega), e1, W_eq (n := 2 * (a * f)) (by omega) (by omega), W_eq (n := 2 * (a * f) * 1048576) (by omega) (by omega), W_eq (n := f * f) (by omega) (by omega), W_eq (by omega) (by omega)]
    grind
  have rest : W ((W (n - (W (a * a)))) * 2 ^ (min (Int.toNat 40) 64)) = n * 1099511627776 - a * a * 1099511627776 := by
    rw [p40, W_eq (n := a * a) (by omega) (by omega), W_eq (n := n - a * a) (by omega) (by omega), W_eq (by omega) (by omega)]
    omega
  have key0 : ∀ f : Int, 0 ≤ f → f ≤ 1048576 → W ((W ((W ((W (2 * a)) * f)) * 2 ^ (min (Int.toNat 20) 64))) + (W (f * f))) = (a * 1048576 + f) * (a * 1048576 + f) - a * a * 1099511627776 := by
    intro f f0 f1
    have := key f f0 f1
    rwa [W_eq (n := f) (by omega) (by omega)] at this
  have A20 : W (a * 2 ^ (min (Int.toNat 20) 64)) = a * 1048576 := by rw [p20, W_eq (by omega) (by omega)]
  obtain ⟨f, f0, f1, g1, g2, e⟩ := gbits (p := fun f => (a * 1048576 + f) * (a * 1048576 + f) ≤ n * 1099511627776) (G := fun f => lenV n (a * 1048576 + f)) (M := 1048576) (S := S34_0 n) (fun k b hk hb hkb => by
      simp only [S34_0, ea]
      rw [decide_eq_true (show b > 0 from hb), cond_true, key (k + b) (by omega) (by omega), rest, W_eq (n := k + b) (by omega) (by omega), Int.tdiv_eq_ediv_of_nonneg (by omega), W_eq (n := b / 2) (by omega) (by omega)]
      by_cases hc : (a * 1048576 + (k + b)) * (a * 1048576 + (k + b)) ≤ n * 1099511627776
      · rw [if_pos hc, decide_eq_true (by omega), cond_true]
      · rw [if_neg hc, decide_eq_false (by omega), cond_false])
    (fun k hk hk2 => by
      simp only [S34_0, ea]
      rw [decide_eq_false (by omega), cond_false, key0 k hk hk2, rest, A20, W_eq (n := a * 1048576 + k) (by omega) (by omega), W_eq (n := a * 1048576 + k + 1) (by omega) (by omega)]
      unfold lenV
      by_cases hc : (a * 1048576 + k) * (a * 1048576 + k) = n * 1099511627776
      · rw [if_pos hc, hc, beq_self_eq_true, cond_true]
      · rw [if_neg hc, beq_eq_false_iff_ne.2 (by omega), cond_false])
    19 (Int.toNat 524288 + 1) 0 (by decide) (by omega) (by decide) (by
      have : (a * 1048576 + 0) * (a * 1048576 + 0) = a * a * 1099511627776 := by grind
      omega) (by
      have : (a * 1048576 + (0 + 2 * 2 ^ 19)) * (a * 1048576 + (0 + 2 * 2 ^ 19)) = (a + 1) * (a + 1) * 1099511627776 := by grind
      rw [this]; omega)
  refine ⟨a * 1048576 + f, ⟨by omega, g1, ?_⟩, e⟩
  rw [show a * 1048576 + f + 1 = a * 1048576 + (f + 1) by omega]
  omega
theorem Len_r {n : Int} (h : 0 ≤ n ∧ n ≤ 400000) : ∃ r, IsRt (n * 1099511627776) r ∧ F39 n = lenV n r := by
  unfold F39
  have hw : (!F82 n 0 1099511627776) = false := by
    unfold F82
    rw [decide_eq_true (show n ≥ 0 from h.1), decide_eq_true (show n ≤ 1099511627776 by omega)]; rfl
  rw [hw, cond_false]
  have un : IntKind.wrap .u64 n = n := by rw [U_def]; omega
  have mm : ∀ k : Int, 0 ≤ k → k ≤ 1099511627776 → F83 k k = (k * k / 18446744073709551616, k * k % 18446744073709551616) := fun k k0 k1 => mul64 ⟨k0, k1⟩ ⟨k0, k1⟩
  have mn : F83 (IntKind.wrap .u64 n) 1099511627776 = (n * 1099511627776 / 18446744073709551616, n * 1099511627776 % 18446744073709551616) := by
    rw [un]; exact mul64 ⟨h.1, by omega⟩ ⟨by omega, by omega⟩
  obtain ⟨r, r0, r1, g1, g2, e⟩ := gbins (p := fun k => k * k ≤ n * 1099511627776) (G := fun r => lenV n r) (M := 1099511627776) (S := S39_0 n) (fun a b ha hab hb => by
      have wm : IntKind.wrap .u64 ((a + b + 1) / 2 - 1) = (a + b + 1) / 2 - 1 := by rw [U_def, Int.emod_eq_of_lt (by omega) (by omega)]
      simp only [S39_0, um1 (a := a) (b := b) (by omega), wm, mn]
      rw [mm ((a + b + 1) / 2) (by omega) (by omega), decide_eq_true hab, cond_true]
      simp only
      generalize (a + b + 1) / 2 * ((a + b + 1) / 2) = X
      generalize n * 1099511627776 = N
      by_cases hc : X ≤ N
      · rw [if_pos hc]
        by_cases c1 : X / 18446744073709551616 < N / 18446744073709551616
        · rw [decide_eq_true c1, cond_true]
        · rw [decide_eq_false c1, cond_false, beq_iff_eq.2 (show X / 18446744073709551616 = N / 18446744073709551616 by omega), cond_true, decide_eq_true (by omega), cond_true]
      · rw [if_neg hc, decide_eq_false (by omega), cond_false]
        by_cases c1 : X / 18446744073709551616 = N / 18446744073709551616
        · rw [beq_iff_eq.2 c1, cond_true, decide_eq_false (by omega), cond_false]
        · rw [beq_eq_false_iff_ne.2 c1, cond_false])
    (fun a ha ha2 => by
      simp only [S39_0, mn]
      rw [mm a ha ha2, decide_eq_false (by omega), cond_false, W_eq (n := a) (by omega) (by omega), W_eq (n := a + 1) (by omega) (by omega)]
      unfold lenV
      simp only
      generalize a * a = X
      generalize n * 1099511627776 = N
      by_cases hc : X = N
      · rw [if_pos hc, hc, beq_self_eq_true, cond_true, beq_self_eq_true, cond_true]; rfl
      · rw [if_neg hc]
        by_cases c1 : X / 18446744073709551616 = N / 18446744073709551616
        · rw [beq_iff_eq.2 c1, cond_true, beq_eq_false_iff_ne.2 (by omega), cond_false]; rfl
        · rw [beq_eq_false_iff_ne.2 c1, cond_false]; rfl)
    (Int.toNat (1099511627776 - 0) + 1) 0 1099511627776 (by omega) (by omega) (by omega) (by omega) (by omega) (by omega)
  exact ⟨r, ⟨r0, g1, by omega⟩, e⟩
theorem Len_eq {n : Int} (h : 0 ≤ n ∧ n ≤ 400000) : F34 n = F39 n := by
  obtain ⟨r, h1, e1⟩ := Len_f h
  obtain ⟨s, h2, e2⟩ := Len_r h
  rw [e1, e2, h1.eq h2]

end Go.Proofs.YthpgabaeefifbaaGreat

namespace Go.Proofs.YthpgabaeefifbaaGreat
open Go.Proofs Go.Aw Go.RowKit
set_option maxRecDepth 100000
set_option linter.unusedVariables false
set_option linter.unusedSimpArgs false

theorem pts_one {m : ME} (h : ((F32 m : Int) != 0) = false) : 1 ≤ m.1.length ∧ m.1.length ≤ 64 := by
  obtain ⟨h1, h2, h3, _, h4⟩ := val_parts (bne_eq_false_iff_eq.1 h)
  have := (val_ok h).1 0 (Int.le_refl 0) (by omega)
  exact ⟨by omega, h1⟩
theorem okTo_im {m : ME} {k : Int} (h : okTo m k) (i : Int) : (0 ≤ i ∧ i < k) → ((0 ≤ (m.2.getD (Int.toNat i) default).1 ∧ (m.2.getD (Int.toNat i) default).1 < (m.1.length : Int)) ∧ (0 ≤ (m.2.getD (Int.toNat i) default).2.1 ∧ (m.2.getD (Int.toNat i) default).2.1 < (m.1.length : Int)) ∧ 0 ≤ (m.2.getD (Int.toNat i) default).2.2 ∧ (m.2.getD (Int.toNat i) default).2.2 < (m.1.length : Int)) := fun g => h i g.1 g.2

def F33 (a0 : Int) (a1 : Int) (a2 : Int) : Bool :=
  (bif (decide ((a0 : Int) ≥ a1)) then
   (decide ((a0 : Int) ≤ a2))
  else
   false)

theorem C33 (a0 : Int) (a1 : Int) (a2 : Int) : Con Tryz.prog 33 [(iv a0), (iv a1), (iv a2)] [] (.v (.bool (F33 a0 a1 a2))) [] := by
  refine con_s Tryz.func33 (by kernel_rfl) fun cx hcx => ?_
  cases h0 : (decide ((a0 : Int) ≥ a1)) with
  | true =>
   have q0 := of_decide_eq_true h0
   have e := Eq.refl (F33 a0 a1 a2); conv at e => rhs; simp only [F33, h0, cond_true, cond_false]
   rw [e]
   exact rt [.d h0] [] [] hcx (by kernel_rfl)
  | false =>
   have q0 := of_decide_eq_false h0
   have e := Eq.refl (F33 a0 a1 a2); conv at e => rhs; simp only [F33, h0, cond_true, cond_false]
   rw [e]
   exact rt [.d h0] [] [] hcx (by kernel_rfl)

def F65 (a0 : Int) (a1 : Int) (a2 : Int) : Bool :=
  (bif (decide ((a0 : Int) ≥ a1)) then
   (decide ((a0 : Int) ≤ a2))
  else
   false)

theorem C65 (a0 : Int) (a1 : Int) (a2 : Int) : Con Tryz.prog 65 [(iv a0), (iv a1), (iv a2)] [] (.v (.bool (F65 a0 a1 a2))) [] := by
  refine con_s Tryz.func65 (by kernel_rfl) fun cx hcx => ?_
  cases h0 : (decide ((a0 : Int) ≥ a1)) with
  | true =>
   have q0 := of_decide_eq_true h0
   have e := Eq.refl (F65 a0 a1 a2); conv at e => rhs; simp only [F65, h0, cond_true, cond_false]
   rw [e]
   exact rt [.d h0] [] [] hcx (by kernel_rfl)
  | false =>
   have q0 := of_decide_eq_false h0
   have e := Eq.refl (F65 a0 a1 a2); conv at e => rhs; simp only [F65, h0, cond_true, cond_false]
   rw [e]
   exact rt [.d h0] [] [] hcx (by kernel_rfl)

theorem hwin_f {d : Int} {a b : Int} (h : (!F33 d a b) = false) : a ≤ d ∧ d ≤ b := by
  unfold F33 at h
  by_cases h1 : d ≥ a
  · by_cases h2 : d ≤ b
    · exact ⟨h1, h2⟩
    · rw [decide_eq_true h1, decide_eq_false h2] at h; simp at h
  · rw [decide_eq_false h1] at h; simp at h
theorem hwin_r {d : Int} {a b : Int} (h : (!F65 d a b) = false) : a ≤ d ∧ d ≤ b := hwin_f h

noncomputable def B85_L_0 : Code := (loopAtD [1, 1, 1, 1, 0, 1] [] (bodyOf Tryz.f85) []).1
noncomputable def K85_L_0 : List K := (loopAtD [1, 1, 1, 1, 0, 1] [] (bodyOf Tryz.f85) []).2

def st85_L_0 (a0 : (List (Int × Int × Int)) × List (Int × Int × Int)) (a1 : List (Int)) (v1 : Int) (v2 : Int) : LS := ⟨slN 35 [(6, (iv v1)), (20, (.s 2 0 a1.length 1)), (21, (iv ((a1.length : Nat) : Int))), (22, (iv v2))], [(.live false true (flat c27 a0.1)), (.live false true (flat c85 a0.2)), (.live false true (flat c3 a1))]⟩

def S85_L_0 (a0 : (List (Int × Int × Int)) × List (Int × Int × Int)) (a1 : List (Int)) : Int × Int → (Int × Int) ⊕ (Int)
  | (v1, v2) =>
   (bif (decide ((v2 : Int) < ((a1.length : Nat) : Int))) then
    (bif (!(F33 (a1.getD (Int.toNat v2) default) 0 100)) then
     (.inr 1)
    else
     (.inl ((W (v1 + (a1.getD (Int.toNat v2) default))), (v2 + 1))))
   else
    (bif ((v1 : Int) == 0) then
     (.inr 11)
    else
     (.inr 0)))

set_option maxHeartbeats 4000000 in
theorem L85_L_0 (a0 : (List (Int × Int × Int)) × List (Int × Int × Int)) (a1 : List (Int)) (l0_1 : a0.1.length ≤ 9223372036854775807) (l0_2 : a0.2.length ≤ 9223372036854775807) (l1 : a1.length ≤ 9223372036854775807) {cx : Cx} (hcx : cx.base = 3) : ∀ (n : Nat) (v1 : Int) (v2 : Int), 0 ≤ v2 → Int.toNat (((a1.length : Nat) : Int) - v2) < n → Aw.Good Tryz.prog none 9 (bodyPost Tryz.prog Tryz.f85 (RR cx (iv (loopF (S85_L_0 a0 a1) n (v1, v2))) [] [])) cx [] (.l B85_L_0 n :: K85_L_0) (st85_L_0 a0 a1 v1 v2) := by
  intro n
  induction n with
  | zero => intro v1 v2 hi hn; exact absurd hn (Nat.not_lt_zero _)
  | succ n ih =>
    intro v1 v2 hi hn
    refine good_round ?_
    cases h0 : (decide ((v2 : Int) < ((a1.length : Nat) : Int))) with
    | true =>
     have q0 := of_decide_eq_true h0
     let t1 : List (St Tryz.prog) := [.d h0, .i v2 (a1.length), .L c3_len a1 v2 0 1, .c [] (C33 (a1.getD (Int.toNat v2) default) 0 100)]
     cases h1 : (!(F33 (a1.getD (Int.toNat v2) default) 0 100)) with
     | true =>
      have e := Eq.refl (S85_L_0 a0 a1 (v1, v2)); conv at e => rhs; simp only [S85_L_0, h0, h1, cond_true, cond_false]
      rw [loopF_s, e]
      exact rt (t1 ++ [.d h1]) [] [] hcx (by kernel_rfl)
     | false =>
      have e := Eq.refl (S85_L_0 a0 a1 (v1, v2)); conv at e => rhs; simp only [S85_L_0, h0, h1, cond_true, cond_false]
      rw [loopF_inl e]
      refine ba (t1 ++ [.d h1]) [] [6, 20, 21, 22] [] hcx (m := n) B85_L_0 (K85_L_0) (st85_L_0 a0 a1 (W (v1 + (a1.getD (Int.toNat v2) default))) (W (v2 + 1))) (by kernel_rfl) ?_
      have z0 : (W (v2 + 1)) = (v2 + 1) := W_eq (by omega) (by omega)
      rw [z0]
      exact ih (W (v1 + (a1.getD (Int.toNat v2) default))) (v2 + 1) (by (try simp only [List.length_append, List.length_cons, List.length_nil, Int.toNat_zero]); omega) (by (try simp only [List.length_append, List.length_cons, List.length_nil, Int.toNat_zero]); omega)
    | false =>
     have q0 := of_decide_eq_false h0
     let t1 : List (St Tryz.prog) := [.d h0]
     cases h1 : ((v1 : Int) == 0) with
     | true =>
      have q1 := eq_of_beq h1
      have e := Eq.refl (S85_L_0 a0 a1 (v1, v2)); conv at e => rhs; simp only [S85_L_0, h0, h1, cond_true, cond_false]
      rw [loopF_s, e]
      exact rt (t1 ++ [.d h1]) [] [] hcx (by kernel_rfl)
     | false =>
      have q1 := ne_of_beq_false h1
      have e := Eq.refl (S85_L_0 a0 a1 (v1, v2)); conv at e => rhs; simp only [S85_L_0, h0, h1, cond_true, cond_false]
      rw [loopF_s, e]
      exact rt (t1 ++ [.d h1]) [] [] hcx (by kernel_rfl)

def F85_L (a0 : (List (Int × Int × Int)) × List (Int × Int × Int)) (a1 : List (Int)) : Int :=
  (bif (((F32 (a0.1, a0.2)) : Int) != 0) then
   (F32 (a0.1, a0.2))
  else
   (bif ((((a1.length : Nat) : Int) : Int) != ((a0.2.length : Nat) : Int)) then
    1
   else
    (loopF (S85_L_0 a0 a1) (Int.toNat (((a1.length : Nat) : Int) - 0) + 1) (0, 0))))

theorem C85_L (a0 : (List (Int × Int × Int)) × List (Int × Int × Int)) (a1 : List (Int)) (l0_1 : a0.1.length ≤ 9223372036854775807) (l0_2 : a0.2.length ≤ 9223372036854775807) (l1 : a1.length ≤ 9223372036854775807) : Con Tryz.prog 85 [(.a [(.s 0 0 a0.1.length 3), (.s 1 0 a0.2.length 3)]), (.s 2 0 a1.length 1)] [(.live false true (flat c27 a0.1)), (.live false true (flat c85 a0.2)), (.live false true (flat c3 a1))] (iv (F85_L a0 a1)) [] := by
  refine con_s Tryz.func85 (by kernel_rfl) fun cx hcx => ?_
  let t0 : List (St Tryz.prog) := [.c [0, 1] (C32 (a0.1, a0.2) (by (try simp only [List.length_append, List.length_cons, List.length_nil, Int.toNat_zero]); omega) (by (try simp only [List.length_append, List.length_cons, List.length_nil, Int.toNat_zero]); omega))]
  cases h0 : (((F32 (a0.1, a0.2)) : Int) != 0) with
  | true =>
   have q0 := bne_iff_ne.1 h0
   have e := Eq.refl (F85_L a0 a1); conv at e => rhs; simp only [F85_L, h0, cond_true, cond_false]
   rw [e]
   exact rt (t0 ++ [.d h0]) [] [] hcx (by kernel_rfl)
  | false =>
   have q0 := bne_eq_false_iff_eq.1 h0
   let t1 : List (St Tryz.prog) := (t0 ++ [.d h0])
   cases h1 : ((((a1.length : Nat) : Int) : Int) != ((a0.2.length : Nat) : Int)) with
   | true =>
    have q1 := bne_iff_ne.1 h1
    have e := Eq.refl (F85_L a0 a1); conv at e => rhs; simp only [F85_L, h0, h1, cond_true, cond_false]
    rw [e]
    exact rt (t1 ++ [.d h1]) [] [] hcx (by kernel_rfl)
   | false =>
    have q1 := bne_eq_false_iff_eq.1 h1
    have e := Eq.refl (F85_L a0 a1); conv at e => rhs; simp only [F85_L, h0, h1, cond_true, cond_false]
    rw [e]
    refine en (t1 ++ [.d h1]) [] [6, 20, 21, 22] [] hcx B85_L_0 (K85_L_0) (st85_L_0 a0 a1 0 0) (Int.toNat (((a1.length : Nat) : Int) - 0) + 1) (by kernel_rfl) ?_
    exact L85_L_0 a0 a1 l0_1 l0_2 l1 hcx (Int.toNat (((a1.length : Nat) : Int) - 0) + 1) 0 0 (by (try simp only [List.length_append, List.length_cons, List.length_nil, Int.toNat_zero]); omega) (by (try simp only [List.length_append, List.length_cons, List.length_nil, Int.toNat_zero]); omega)

def F40_L (a0 : (List (Int × Int × Int)) × List (Int × Int × Int)) (a1 : List (Int)) (a2 : Int) : Int :=
  (bif (((F85_L (a0.1, a0.2) a1) : Int) != 0) then
   (F85_L (a0.1, a0.2) a1)
  else
   (bif (!(F33 a2 0 2)) then
    1
   else
    0))

theorem C40_L (a0 : (List (Int × Int × Int)) × List (Int × Int × Int)) (a1 : List (Int)) (a2 : Int) (l0_1 : a0.1.length ≤ 9223372036854775807) (l0_2 : a0.2.length ≤ 9223372036854775807) (l1 : a1.length ≤ 9223372036854775807) : Con Tryz.prog 40 [(.a [(.s 0 0 a0.1.length 3), (.s 1 0 a0.2.length 3)]), (.s 2 0 a1.length 1), (iv a2)] [(.live false true (flat c27 a0.1)), (.live false true (flat c85 a0.2)), (.live false true (flat c3 a1))] (iv (F40_L a0 a1 a2)) [] := by
  refine con_s Tryz.func40 (by kernel_rfl) fun cx hcx => ?_
  let t0 : List (St Tryz.prog) := [.c [0, 1, 2] (C85_L (a0.1, a0.2) a1 (by (try simp only [List.length_append, List.length_cons, List.length_nil, Int.toNat_zero]); omega) (by (try simp only [List.length_append, List.length_cons, List.length_nil, Int.toNat_zero]); omega) (by (try simp only [List.length_append, List.length_cons, List.length_nil, Int.toNat_zero]); omega))]
  cases h0 : (((F85_L (a0.1, a0.2) a1) : Int) != 0) with
  | true =>
   have q0 := bne_iff_ne.1 h0
   have e := Eq.refl (F40_L a0 a1 a2); conv at e => rhs; simp only [F40_L, h0, cond_true, cond_false]
   rw [e]
   exact rt (t0 ++ [.d h0]) [] [] hcx (by kernel_rfl)
  | false =>
   have q0 := bne_eq_false_iff_eq.1 h0
   let t1 : List (St Tryz.prog) := (t0 ++ [.d h0, .c [] (C33 a2 0 2)])
   cases h1 : (!(F33 a2 0 2)) with
   | true =>
    have e := Eq.refl (F40_L a0 a1 a2); conv at e => rhs; simp only [F40_L, h0, h1, cond_true, cond_false]
    rw [e]
    exact rt (t1 ++ [.d h1]) [] [] hcx (by kernel_rfl)
   | false =>
    have e := Eq.refl (F40_L a0 a1 a2); conv at e => rhs; simp only [F40_L, h0, h1, cond_true, cond_false]
    rw [e]
    exact rt (t1 ++ [.d h1]) [] [] hcx (by kernel_rfl)

def F102 (a0 : Int) : Int × Int :=
  (bif (decide ((a0 : Int) > 1099511627776)) then
   (0, 4)
  else
   (a0, 0))

theorem C102 (a0 : Int) : Con Tryz.prog 102 [(iv a0)] [] (.t (k2 (F102 a0))) [] := by
  refine con_s Tryz.func102 (by kernel_rfl) fun cx hcx => ?_
  cases h0 : (decide ((a0 : Int) > 1099511627776)) with
  | true =>
   have q0 := of_decide_eq_true h0
   have e := Eq.refl (F102 a0); conv at e => rhs; simp only [F102, h0, cond_true, cond_false]
   rw [e]
   exact rt [.d h0] [] [] hcx (by kernel_rfl)
  | false =>
   have q0 := of_decide_eq_false h0
   have e := Eq.refl (F102 a0); conv at e => rhs; simp only [F102, h0, cond_true, cond_false]
   rw [e]
   exact rt [.d h0] [] [] hcx (by kernel_rfl)

noncomputable def B103_L_0 : Code := (loopAtD [1, 1, 0, 1] [] (bodyOf Tryz.f103) []).1
noncomputable def K103_L_0 : List K := (loopAtD [1, 1, 0, 1] [] (bodyOf Tryz.f103) []).2

def st103_L_0 (a0 : List (Int)) (v1 : Int) (v2 : Int) : LS := ⟨slN 19 [(3, (iv v1)), (6, (.s 0 0 a0.length 1)), (7, (iv ((a0.length : Nat) : Int))), (8, (iv v2))], [(.live false true (flat c3 a0))]⟩

def S103_L_0 (a0 : List (Int)) : Int × Int → (Int × Int) ⊕ (Int)
  | (v1, v2) =>
   (bif (decide ((v2 : Int) < ((a0.length : Nat) : Int))) then
    (.inl ((W (v1 + (a0.getD (Int.toNat v2) default))), (v2 + 1)))
   else
    (.inr (W ((W (v1 * 1048576)) * 1048576))))

set_option maxHeartbeats 4000000 in
theorem L103_L_0 (a0 : List (Int)) (l0 : a0.length ≤ 9223372036854775807) {cx : Cx} (hcx : cx.base = 1) : ∀ (n : Nat) (v1 : Int) (v2 : Int), 0 ≤ v2 → Int.toNat (((a0.length : Nat) : Int) - v2) < n → Aw.Good Tryz.prog none 9 (bodyPost Tryz.prog Tryz.f103 (RR cx (iv (loopF (S103_L_0 a0) n (v1, v2))) [] [])) cx [] (.l B103_L_0 n :: K103_L_0) (st103_L_0 a0 v1 v2) := by
  intro n
  induction n with
  | zero => intro v1 v2 hi hn; exact absurd hn (Nat.not_lt_zero _)
  | succ n ih =>
    intro v1 v2 hi hn
    refine good_round ?_
    cases h0 : (decide ((v2 : Int) < ((a0.length : Nat) : Int))) with
    | true =>
     have q0 := of_decide_eq_true h0
     have e := Eq.refl (S103_L_0 a0 (v1, v2)); conv at e => rhs; simp only [S103_L_0, h0, cond_true, cond_false]
     rw [loopF_inl e]
     refine ba [.d h0, .i v2 (a0.length), .L c3_len a0 v2 0 1] [] [3, 6, 7, 8] [] hcx (m := n) B103_L_0 (K103_L_0) (st103_L_0 a0 (W (v1 + (a0.getD (Int.toNat v2) default))) (W (v2 + 1))) (by kernel_rfl) ?_
     have z0 : (W (v2 + 1)) = (v2 + 1) := W_eq (by omega) (by omega)
     rw [z0]
     exact ih (W (v1 + (a0.getD (Int.toNat v2) default))) (v2 + 1) (by (try simp only [List.length_append, List.length_cons, List.length_nil, Int.toNat_zero]); omega) (by (try simp only [List.length_append, List.length_cons, List.length_nil, Int.toNat_zero]); omega)
    | false =>
     have q0 := of_decide_eq_false h0
     have e := Eq.refl (S103_L_0 a0 (v1, v2)); conv at e => rhs; simp only [S103_L_0, h0, cond_true, cond_false]
     rw [loopF_s, e]
     exact rt [.d h0] [] [] hcx (by kernel_rfl)

def F103_L (a0 : List (Int)) : Int :=
  (loopF (S103_L_0 a0) (Int.toNat (((a0.length : Nat) : Int) - 0) + 1) (0, 0))

theorem C103_L (a0 : List (Int)) (l0 : a0.length ≤ 9223372036854775807) : Con Tryz.prog 103 [(.s 0 0 a0.length 1)] [(.live false true (flat c3 a0))] (iv (F103_L a0)) [] := by
  refine con_s Tryz.func103 (by kernel_rfl) fun cx hcx => ?_
  have e := Eq.refl (F103_L a0); conv at e => rhs; simp only [F103_L]
  rw [e]
  refine en [] [] [3, 6, 7, 8] [] hcx B103_L_0 (K103_L_0) (st103_L_0 a0 0 0) (Int.toNat (((a0.length : Nat) : Int) - 0) + 1) (by kernel_rfl) ?_
  exact L103_L_0 a0 l0 hcx (Int.toNat (((a0.length : Nat) : Int) - 0) + 1) 0 0 (by (try simp only [List.length_append, List.length_cons, List.length_nil, Int.toNat_zero]); omega) (by (try simp only [List.length_append, List.length_cons, List.length_nil, Int.toNat_zero]); omega)

noncomputable def B11_1 : Code := (loopAtD [1, 1, 1, 1, 0, 1] [] (bodyOf Tryz.f11) []).1
noncomputable def K11_1 : List K := (loopAtD [1, 1, 1, 1, 0, 1] [] (bodyOf Tryz.f11) []).2

def st11_1 (a0 : (List (Int × Int × Int)) × List (Int × Int × Int)) (a1 : Int × Int × Int) (v1 : Int) (v2 : Int) : LS := ⟨slN 82 [(3, (.p 2 0)), (9, (iv v1)), (39, (.s 0 0 a0.1.length 3)), (40, (iv ((a0.1.length : Nat) : Int))), (41, (iv v2))], [(.live false true (flat c27 a0.1)), (.live false true (flat c85 a0.2)), (.live true false (k3 a1))]⟩

def S11_1 (a0 : (List (Int × Int × Int)) × List (Int × Int × Int)) (a1 : Int × Int × Int) : Int × Int → (Int × Int) ⊕ (Int × Int)
  | (v1, v2) =>
   (bif (decide ((v2 : Int) < ((a0.1.length : Nat) : Int))) then
    (.inl ((imx v1 (W ((W ((W ((W ((a0.1.getD (Int.toNat v2) default).1 - a1.1)) * (W ((a0.1.getD (Int.toNat v2) default).1 - a1.1)))) + (W ((W ((a0.1.getD (Int.toNat v2) default).2.1 - a1.2.1)) * (W ((a0.1.getD (Int.toNat v2) default).2.1 - a1.2.1)))))) + (W ((W ((a0.1.getD (Int.toNat v2) default).2.2 - a1.2.2)) * (W ((a0.1.getD (Int.toNat v2) default).2.2 - a1.2.2))))))), (v2 + 1)))
   else
    (.inr ((F34 v1).1.2, (F34 v1).2)))

set_option maxHeartbeats 4000000 in
theorem L11_1 (a0 : (List (Int × Int × Int)) × List (Int × Int × Int)) (a1 : Int × Int × Int) (l0_1 : a0.1.length ≤ 9223372036854775807) (l0_2 : a0.2.length ≤ 9223372036854775807) {cx : Cx} (hcx : cx.base = 2) : ∀ (n : Nat) (v1 : Int) (v2 : Int), 0 ≤ v2 → Int.toNat (((a0.1.length : Nat) : Int) - v2) < n → Aw.Good Tryz.prog none 9 (bodyPost Tryz.prog Tryz.f11 (RR cx (.t (k2 (loopF (S11_1 a0 a1) n (v1, v2)))) [] [])) cx [] (.l B11_1 n :: K11_1) (st11_1 a0 a1 v1 v2) := by
  intro n
  induction n with
  | zero => intro v1 v2 hi hn; exact absurd hn (Nat.not_lt_zero _)
  | succ n ih =>
    intro v1 v2 hi hn
    refine good_round ?_
    cases h0 : (decide ((v2 : Int) < ((a0.1.length : Nat) : Int))) with
    | true =>
     have q0 := of_decide_eq_true h0
     have e := Eq.refl (S11_1 a0 a1 (v1, v2)); conv at e => rhs; simp only [S11_1, h0, cond_true, cond_false]
     rw [loopF_inl e]
     refine ba [.d h0, .i v2 (a0.1.length), .L c27_len a0.1 v2 0 3] [] [3, 9, 39, 40, 41] [2] hcx (m := n) B11_1 (K11_1) (st11_1 a0 a1 (imx v1 (W ((W ((W ((W ((a0.1.getD (Int.toNat v2) default).1 - a1.1)) * (W ((a0.1.getD (Int.toNat v2) default).1 - a1.1)))) + (W ((W ((a0.1.getD (Int.toNat v2) default).2.1 - a1.2.1)) * (W ((a0.1.getD (Int.toNat v2) default).2.1 - a1.2.1)))))) + (W ((W ((a0.1.getD (Int.toNat v2) default).2.2 - a1.2.2)) * (W ((a0.1.getD (Int.toNat v2) default).2.2 - a1.2.2))))))) (W (v2 + 1))) (by kernel_rfl) ?_
     have z0 : (W (v2 + 1)) = (v2 + 1) := W_eq (by omega) (by omega)
     rw [z0]
     exact ih (imx v1 (W ((W ((W ((W ((a0.1.getD (Int.toNat v2) default).1 - a1.1)) * (W ((a0.1.getD (Int.toNat v2) default).1 - a1.1)))) + (W ((W ((a0.1.getD (Int.toNat v2) default).2.1 - a1.2.1)) * (W ((a0.1.getD (Int.toNat v2) default).2.1 - a1.2.1)))))) + (W ((W ((a0.1.getD (Int.toNat v2) default).2.2 - a1.2.2)) * (W ((a0.1.getD (Int.toNat v2) default).2.2 - a1.2.2))))))) (v2 + 1) (by (try simp only [List.length_append, List.length_cons, List.length_nil, Int.toNat_zero]); omega) (by (try simp only [List.length_append, List.length_cons, List.length_nil, Int.toNat_zero]); omega)
    | false =>
     have q0 := of_decide_eq_false h0
     have e := Eq.refl (S11_1 a0 a1 (v1, v2)); conv at e => rhs; simp only [S11_1, h0, cond_true, cond_false]
     rw [loopF_s, e]
     exact rt [.d h0, .c [] (C34 v1)] [] [] hcx (by kernel_rfl)

def F11 (a0 : (List (Int × Int × Int)) × List (Int × Int × Int)) (a1 : Int × Int × Int) : Int × Int :=
  (bif (((F32 (a0.1, a0.2)) : Int) != 0) then
   (0, (F32 (a0.1, a0.2)))
  else
   (bif (!(F33 a1.1 (-256) 256)) then
    (0, 1)
   else
    (bif (!(F33 a1.2.1 (-256) 256)) then
     (0, 1)
    else
     (bif (!(F33 a1.2.2 (-256) 256)) then
      (0, 1)
     else
      (loopF (S11_1 a0 a1) (Int.toNat (((a0.1.length : Nat) : Int) - 0) + 1) (0, 0))))))

theorem C11 (a0 : (List (Int × Int × Int)) × List (Int × Int × Int)) (a1 : Int × Int × Int) (l0_1 : a0.1.length ≤ 9223372036854775807) (l0_2 : a0.2.length ≤ 9223372036854775807) : Con Tryz.prog 11 [(.a [(.s 0 0 a0.1.length 3), (.s 1 0 a0.2.length 3)]), (.a (k3 a1))] [(.live false true (flat c27 a0.1)), (.live false true (flat c85 a0.2))] (.t (k2 (F11 a0 a1))) [] := by
  refine con_s Tryz.func11 (by kernel_rfl) fun cx hcx => ?_
  let t0 : List (St Tryz.prog) := [.c [0, 1] (C32 (a0.1, a0.2) (by (try simp only [List.length_append, List.length_cons, List.length_nil, Int.toNat_zero]); omega) (by (try simp only [List.length_append, List.length_cons, List.length_nil, Int.toNat_zero]); omega))]
  cases h0 : (((F32 (a0.1, a0.2)) : Int) != 0) with
  | true =>
   have q0 := bne_iff_ne.1 h0
   have e := Eq.refl (F11 a0 a1); conv at e => rhs; simp only [F11, h0, cond_true, cond_false]
   rw [e]
   exact rt (t0 ++ [.d h0]) [] [] hcx (by kernel_rfl)
  | false =>
   have q0 := bne_eq_false_iff_eq.1 h0
   let t1 : List (St Tryz.prog) := (t0 ++ [.d h0, .u 200, .T, .i 0 3 (by decide), .c [] (C33 a1.1 (-256) 256)])
   cases h1 : (!(F33 a1.1 (-256) 256)) with
   | true =>
    have e := Eq.refl (F11 a0 a1); conv at e => rhs; simp only [F11, h0, h1, cond_true, cond_false]
    rw [e]
    exact rt (t1 ++ [.d h1]) [] [] hcx (by kernel_rfl)
   | false =>
    let t2 : List (St Tryz.prog) := (t1 ++ [.d h1, .u 0, .T, .i 1 3 (by decide), .c [] (C33 a1.2.1 (-256) 256)])
    cases h2 : (!(F33 a1.2.1 (-256) 256)) with
    | true =>
     have e := Eq.refl (F11 a0 a1); conv at e => rhs; simp only [F11, h0, h1, h2, cond_true, cond_false]
     rw [e]
     exact rt (t2 ++ [.d h2]) [] [] hcx (by kernel_rfl)
    | false =>
     let t3 : List (St Tryz.prog) := (t2 ++ [.d h2, .u 0, .T, .i 2 3 (by decide), .c [] (C33 a1.2.2 (-256) 256)])
     cases h3 : (!(F33 a1.2.2 (-256) 256)) with
     | true =>
      have e := Eq.refl (F11 a0 a1); conv at e => rhs; simp only [F11, h0, h1, h2, h3, cond_true, cond_false]
      rw [e]
      exact rt (t3 ++ [.d h3]) [] [] hcx (by kernel_rfl)
     | false =>
      have e := Eq.refl (F11 a0 a1); conv at e => rhs; simp only [F11, h0, h1, h2, h3, cond_true, cond_false]
      rw [e]
      refine en (t3 ++ [.d h3, .u 0, .F]) [] [3, 9, 39, 40, 41] [3] hcx B11_1 (K11_1) (st11_1 a0 a1 0 0) (Int.toNat (((a0.1.length : Nat) : Int) - 0) + 1) (by kernel_rfl) ?_
      exact L11_1 a0 a1 l0_1 l0_2 hcx (Int.toNat (((a0.1.length : Nat) : Int) - 0) + 1) 0 0 (by (try simp only [List.length_append, List.length_cons, List.length_nil, Int.toNat_zero]); omega) (by (try simp only [List.length_append, List.length_cons, List.length_nil, Int.toNat_zero]); omega)

noncomputable def B105_0 : Code := (loopAtD [1, 1, 1, 0, 1] [] (bodyOf Tryz.f105) []).1
noncomputable def K105_0 : List K := (loopAtD [1, 1, 1, 0, 1] [] (bodyOf Tryz.f105) []).2

def st105_0 (a0 : (List (Int × Int × Int)) × List (Int × Int × Int)) (v1 : Int) (v2 : Int) (v3 : Int) (v4 : Int) (v5 : Int) (v6 : Int) (v7 : Int) : LS := ⟨slN 65 [(2, (.p 2 0)), (3, (.p 3 0)), (24, (.s 0 0 a0.1.length 3)), (25, (iv ((a0.1.length : Nat) : Int))), (26, (iv v1))], [(.live false true (flat c27 a0.1)), (.live false true (flat c85 a0.2)), (.live true false [(iv v2), (iv v3), (iv v4)]), (.live true false [(iv v5), (iv v6), (iv v7)])]⟩

def S105_0 (a0 : (List (Int × Int × Int)) × List (Int × Int × Int)) : Int × Int × Int × Int × Int × Int × Int → (Int × Int × Int × Int × Int × Int × Int) ⊕ ((Int × Int × Int) × (Int × Int × Int) × Int)
  | (v1, v2, v3, v4, v5, v6, v7) =>
   (bif (decide ((v1 : Int) < ((a0.1.length : Nat) : Int))) then
    (.inl ((v1 + 1), (if ((a0.1.getD (Int.toNat v1) default).1 : Int) < v2 then (a0.1.getD (Int.toNat v1) default).1 else v2), (if ((a0.1.getD (Int.toNat v1) default).2.1 : Int) < v3 then (a0.1.getD (Int.toNat v1) default).2.1 else v3), (if ((a0.1.getD (Int.toNat v1) default).2.2 : Int) < v4 then (a0.1.getD (Int.toNat v1) default).2.2 else v4), (if (v5 : Int) < (a0.1.getD (Int.toNat v1) default).1 then (a0.1.getD (Int.toNat v1) default).1 else v5), (if (v6 : Int) < (a0.1.getD (Int.toNat v1) default).2.1 then (a0.1.getD (Int.toNat v1) default).2.1 else v6), (if (v7 : Int) < (a0.1.getD (Int.toNat v1) default).2.2 then (a0.1.getD (Int.toNat v1) default).2.2 else v7)))
   else
    (.inr ((v2, v3, v4), (v5, v6, v7), 0)))

set_option maxHeartbeats 4000000 in
theorem L105_0 (a0 : (List (Int × Int × Int)) × List (Int × Int × Int)) (l0_1 : a0.1.length ≤ 9223372036854775807) (l0_2 : a0.2.length ≤ 9223372036854775807) {cx : Cx} (hcx : cx.base = 2) : ∀ (n : Nat) (v1 : Int) (v2 : Int) (v3 : Int) (v4 : Int) (v5 : Int) (v6 : Int) (v7 : Int), 0 ≤ v1 → Int.toNat (((a0.1.length : Nat) : Int) - v1) < n → Aw.Good Tryz.prog none 9 (bodyPost Tryz.prog Tryz.f105 (RR cx (.t [(.a (k3 (loopF (S105_0 a0) n (v1, v2, v3, v4, v5, v6, v7)).1)), (.a (k3 (loopF (S105_0 a0) n (v1, v2, v3, v4, v5, v6, v7)).2.1)), (iv (loopF (S105_0 a0) n (v1, v2, v3, v4, v5, v6, v7)).2.2)]) [] [])) cx [] (.l B105_0 n :: K105_0) (st105_0 a0 v1 v2 v3 v4 v5 v6 v7) := by
  intro n
  induction n with
  | zero => intro v1 v2 v3 v4 v5 v6 v7 hi hn; exact absurd hn (Nat.not_lt_zero _)
  | succ n ih =>
    intro v1 v2 v3 v4 v5 v6 v7 hi hn
    refine good_round ?_
    cases h0 : (decide ((v1 : Int) < ((a0.1.length : Nat) : Int))) with
    | true =>
     have q0 := of_decide_eq_true h0
     have e := Eq.refl (S105_0 a0 (v1, v2, v3, v4, v5, v6, v7)); conv at e => rhs; simp only [S105_0, h0, cond_true, cond_false]
     rw [loopF_inl e]
     refine ba [.d h0, .i v1 (a0.1.length), .L c27_len a0.1 v1 0 3] [] [2, 3, 24, 25, 26] [2, 3] hcx (m := n) B105_0 (K105_0) (st105_0 a0 (W (v1 + 1)) (if ((a0.1.getD (Int.toNat v1) default).1 : Int) < v2 then (a0.1.getD (Int.toNat v1) default).1 else v2) (if ((a0.1.getD (Int.toNat v1) default).2.1 : Int) < v3 then (a0.1.getD (Int.toNat v1) default).2.1 else v3) (if ((a0.1.getD (Int.toNat v1) default).2.2 : Int) < v4 then (a0.1.getD (Int.toNat v1) default).2.2 else v4) (if (v5 : Int) < (a0.1.getD (Int.toNat v1) default).1 then (a0.1.getD (Int.toNat v1) default).1 else v5) (if (v6 : Int) < (a0.1.getD (Int.toNat v1) default).2.1 then (a0.1.getD (Int.toNat v1) default).2.1 else v6) (if (v7 : Int) < (a0.1.getD (Int.toNat v1) default).2.2 then (a0.1.getD (Int.toNat v1) default).2.2 else v7)) (by kernel_rfl) ?_
     have z0 : (W (v1 + 1)) = (v1 + 1) := W_eq (by omega) (by omega)
     rw [z0]
     exact ih (v1 + 1) (if ((a0.1.getD (Int.toNat v1) default).1 : Int) < v2 then (a0.1.getD (Int.toNat v1) default).1 else v2) (if ((a0.1.getD (Int.toNat v1) default).2.1 : Int) < v3 then (a0.1.getD (Int.toNat v1) default).2.1 else v3) (if ((a0.1.getD (Int.toNat v1) default).2.2 : Int) < v4 then (a0.1.getD (Int.toNat v1) default).2.2 else v4) (if (v5 : Int) < (a0.1.getD (Int.toNat v1) default).1 then (a0.1.getD (Int.toNat v1) default).1 else v5) (if (v6 : Int) < (a0.1.getD (Int.toNat v1) default).2.1 then (a0.1.getD (Int.toNat v1) default).2.1 else v6) (if (v7 : Int) < (a0.1.getD (Int.toNat v1) default).2.2 then (a0.1.getD (Int.toNat v1) default).2.2 else v7) (by (try simp only [List.length_append, List.length_cons, List.length_nil, Int.toNat_zero]); omega) (by (try simp only [List.length_append, List.length_cons, List.length_nil, Int.toNat_zero]); omega)
    | false =>
     have q0 := of_decide_eq_false h0
     have e := Eq.refl (S105_0 a0 (v1, v2, v3, v4, v5, v6, v7)); conv at e => rhs; simp only [S105_0, h0, cond_true, cond_false]
     rw [loopF_s, e]
     exact rt [.d h0] [] [] hcx (by kernel_rfl)

def F105 (a0 : (List (Int × Int × Int)) × List (Int × Int × Int)) : (Int × Int × Int) × (Int × Int × Int) × Int :=
  (bif (((F32 (a0.1, a0.2)) : Int) != 0) then
   ((0, 0, 0), (0, 0, 0), (F32 (a0.1, a0.2)))
  else
   (loopF (S105_0 a0) (Int.toNat (((a0.1.length : Nat) : Int) - 0) + 1) (0, (a0.1.getD (Int.toNat 0) default).1, (a0.1.getD (Int.toNat 0) default).2.1, (a0.1.getD (Int.toNat 0) default).2.2, (a0.1.getD (Int.toNat 0) default).1, (a0.1.getD (Int.toNat 0) default).2.1, (a0.1.getD (Int.toNat 0) default).2.2)))

theorem C105 (a0 : (List (Int × Int × Int)) × List (Int × Int × Int)) (l0_1 : a0.1.length ≤ 9223372036854775807) (l0_2 : a0.2.length ≤ 9223372036854775807) : Con Tryz.prog 105 [(.a [(.s 0 0 a0.1.length 3), (.s 1 0 a0.2.length 3)])] [(.live false true (flat c27 a0.1)), (.live false true (flat c85 a0.2))] (.t [(.a (k3 (F105 a0).1)), (.a (k3 (F105 a0).2.1)), (iv (F105 a0).2.2)]) [] := by
  refine con_s Tryz.func105 (by kernel_rfl) fun cx hcx => ?_
  try have hp1 : 1 ≤ a0.1.length := (pts_one h0).1
  let t0 : List (St Tryz.prog) := [.c [0, 1] (C32 (a0.1, a0.2) (by (try simp only [List.length_append, List.length_cons, List.length_nil, Int.toNat_zero]); omega) (by (try simp only [List.length_append, List.length_cons, List.length_nil, Int.toNat_zero]); omega))]
  cases h0 : (((F32 (a0.1, a0.2)) : Int) != 0) with
  | true =>
   have q0 := bne_iff_ne.1 h0
   try have hp1 : 1 ≤ a0.1.length := (pts_one h0).1
   have e := Eq.refl (F105 a0); conv at e => rhs; simp only [F105, h0, cond_true, cond_false]
   rw [e]
   exact rt (t0 ++ [.d h0]) [] [] hcx (by kernel_rfl)
  | false =>
   have q0 := bne_eq_false_iff_eq.1 h0
   try have hp1 : 1 ≤ a0.1.length := (pts_one h0).1
   have e := Eq.refl (F105 a0); conv at e => rhs; simp only [F105, h0, cond_true, cond_false]
   rw [e]
   refine en (t0 ++ [.d h0, .i 0 (a0.1.length), .L c27_len a0.1 0 0 3, .i 0 (a0.1.length), .L c27_len a0.1 0 0 3]) [] [2, 3, 24, 25, 26] [3, 4] hcx B105_0 (K105_0) (st105_0 a0 0 ((a0.1.getD (Int.toNat 0) default).1) ((a0.1.getD (Int.toNat 0) default).2.1) ((a0.1.getD (Int.toNat 0) default).2.2) ((a0.1.getD (Int.toNat 0) default).1) ((a0.1.getD (Int.toNat 0) default).2.1) ((a0.1.getD (Int.toNat 0) default).2.2)) (Int.toNat (((a0.1.length : Nat) : Int) - 0) + 1) (by kernel_rfl) ?_
   exact L105_0 a0 l0_1 l0_2 hcx (Int.toNat (((a0.1.length : Nat) : Int) - 0) + 1) 0 ((a0.1.getD (Int.toNat 0) default).1) ((a0.1.getD (Int.toNat 0) default).2.1) ((a0.1.getD (Int.toNat 0) default).2.2) ((a0.1.getD (Int.toNat 0) default).1) ((a0.1.getD (Int.toNat 0) default).2.1) ((a0.1.getD (Int.toNat 0) default).2.2) (by (try simp only [List.length_append, List.length_cons, List.length_nil, Int.toNat_zero]); omega) (by (try simp only [List.length_append, List.length_cons, List.length_nil, Int.toNat_zero]); omega)

noncomputable def B60_0 : Code := (loopAtD [1, 1, 0, 1] [] (bodyOf Tryz.f60) []).1
noncomputable def K60_0 : List K := (loopAtD [1, 1, 0, 1] [] (bodyOf Tryz.f60) []).2

def st60_0 (a0 : (List (Int × Int × Int)) × List (Int × Int × Int)) (v1c : List SV) (v1n : Nat) (v2 : Int) : LS := ⟨slN 19 [(3, (.s 2 0 v1n 1)), (10, (iv (((Int.toNat ((a0.2.length : Nat) : Int)) : Nat) : Int))), (11, (iv v2))], [(.live false true (flat c27 a0.1)), (.live false true (flat c85 a0.2)), (.live true true v1c)]⟩

def S60_0 (a0 : (List (Int × Int × Int)) × List (Int × Int × Int)) : List (Int) × Int → (List (Int) × Int) ⊕ (List (Int))
  | (v1, v2) =>
   (bif (decide ((v2 : Int) < (((Int.toNat ((a0.2.length : Nat) : Int)) : Nat) : Int))) then
    (.inl ((v1.set (Int.toNat v2) 1), (v2 + 1)))
   else
    (.inr v1))

set_option maxHeartbeats 4000000 in
theorem L60_0 (a0 : (List (Int × Int × Int)) × List (Int × Int × Int)) (l0_1 : a0.1.length ≤ 9223372036854775807) (l0_2 : a0.2.length ≤ 9223372036854775807) (hn : a0.2.length ≤ 96) {cx : Cx} (hcx : cx.base = 2) : ∀ (n : Nat) (v1 : List (Int)) (v2 : Int), (0 ≤ v2) ∧ (v1.length = a0.2.length) → Int.toNat ((((Int.toNat ((a0.2.length : Nat) : Int)) : Nat) : Int) - v2) < n → Aw.Good Tryz.prog none 9 (bodyPost Tryz.prog Tryz.f60 (RR cx (.s 2 0 (loopF (S60_0 a0) n (v1, v2)).length 1) [(.live true true (flat c3 (loopF (S60_0 a0) n (v1, v2))))] [])) cx [] (.l B60_0 n :: K60_0) (st60_0 a0 (flat c3 v1) v1.length v2) := by
  intro n
  induction n with
  | zero => intro v1 v2 hi hn; exact absurd hn (Nat.not_lt_zero _)
  | succ n ih =>
    intro v1 v2 hi hn
    refine good_round ?_
    cases h0 : (decide ((v2 : Int) < (((Int.toNat ((a0.2.length : Nat) : Int)) : Nat) : Int))) with
    | true =>
     have q0 := of_decide_eq_true h0
     have e := Eq.refl (S60_0 a0 (v1, v2)); conv at e => rhs; simp only [S60_0, h0, cond_true, cond_false]
     rw [loopF_inl e]
     refine ba [.d h0, .i v2 (v1.length), .p (show ((0 + Int.toNat v2 * 1) + 1 ≤ (flat c3 v1).length) from (flat_setl c3_len (by first | omega | (simp only [List.length_set]; omega)) (i := Int.toNat v2) (o := 0) (n := 1) (Nat.le_of_ble_eq_true rfl)))] [] [3, 10, 11] [2] hcx (m := n) B60_0 (K60_0) (st60_0 a0 (splice (flat c3 v1) (0 + Int.toNat v2 * 1) [(iv 1)]) (v1.length) (W (v2 + 1))) (by kernel_rfl) ?_
     have z0 : (W (v2 + 1)) = (v2 + 1) := W_eq (by omega) (by omega)
     have z1 : (splice (flat c3 v1) (0 + Int.toNat v2 * 1) [(iv 1)]) = flat c3 (v1.set (Int.toNat v2) 1) := (flat_set c3_len (by first | omega | (simp only [List.length_set]; omega)) (i := Int.toNat v2) (o := 0) (d := default) (y := 1) (Nat.le_of_ble_eq_true rfl) rfl)
     have z2 : v1.length = (v1.set (Int.toNat v2) 1).length := by simp
     rw [z0, z1, z2]
     exact ih (v1.set (Int.toNat v2) 1) (v2 + 1) (by refine ⟨?_, ?_⟩ <;> (try simp only [List.length_append, List.length_cons, List.length_nil, Int.toNat_zero]) <;> first | omega | assumption | simp) (by (try simp only [List.length_append, List.length_cons, List.length_nil, Int.toNat_zero]); omega)
    | false =>
     have q0 := of_decide_eq_false h0
     have e := Eq.refl (S60_0 a0 (v1, v2)); conv at e => rhs; simp only [S60_0, h0, cond_true, cond_false]
     rw [loopF_s, e]
     exact rt [.d h0] [] [2] hcx (by kernel_rfl)

def F60 (a0 : (List (Int × Int × Int)) × List (Int × Int × Int)) : List (Int) :=
  (loopF (S60_0 a0) (Int.toNat ((((Int.toNat ((a0.2.length : Nat) : Int)) : Nat) : Int) - 0) + 1) ((List.replicate (Int.toNat ((a0.2.length : Nat) : Int)) 0), 0))

theorem C60 (a0 : (List (Int × Int × Int)) × List (Int × Int × Int)) (l0_1 : a0.1.length ≤ 9223372036854775807) (l0_2 : a0.2.length ≤ 9223372036854775807) (hn : a0.2.length ≤ 96) : Con Tryz.prog 60 [(.a [(.s 0 0 a0.1.length 3), (.s 1 0 a0.2.length 3)])] [(.live false true (flat c27 a0.1)), (.live false true (flat c85 a0.2))] (.s 2 0 (F60 a0).length 1) [(.live true true (flat c3 (F60 a0)))] := by
  refine con_s Tryz.func60 (by kernel_rfl) fun cx hcx => ?_
  have e := Eq.refl (F60 a0); conv at e => rhs; simp only [F60]
  rw [e]
  refine en [.Z c3 0 [(iv 0)] ((a0.2.length : Nat) : Int) 8] [] [3, 10, 11] [3] hcx B60_0 (K60_0) (st60_0 a0 (flat c3 (List.replicate (Int.toNat ((a0.2.length : Nat) : Int)) 0)) (Int.toNat ((a0.2.length : Nat) : Int)) 0) (Int.toNat ((((Int.toNat ((a0.2.length : Nat) : Int)) : Nat) : Int) - 0) + 1) (by kernel_rfl) ?_
  have q := L60_0 a0 l0_1 l0_2 hn hcx (Int.toNat ((((Int.toNat ((a0.2.length : Nat) : Int)) : Nat) : Int) - 0) + 1) (List.replicate (Int.toNat ((a0.2.length : Nat) : Int)) 0) 0 (by refine ⟨?_, ?_⟩ <;> (try simp only [List.length_append, List.length_cons, List.length_nil, Int.toNat_zero]) <;> first | omega | assumption | simp) (by (try simp only [List.length_append, List.length_cons, List.length_nil, Int.toNat_zero]); omega)
  simp only [List.length_replicate] at q
  exact q

def F31 (a0 : (List (Int × Int × Int)) × List (Int × Int × Int)) (a1 : Int) : Int × Int :=
  (bif (((F32 (a0.1, a0.2)) : Int) != 0) then
   (0, (F32 (a0.1, a0.2)))
  else
   (bif (!(F33 a1 0 2)) then
    (0, 1)
   else
    ((W ((W (((a0.2.length : Nat) : Int) * ((a0.2.length : Nat) : Int))) * (W ((W (1 * 2 ^ (min (Int.toNat (W (2 * a1))) 64))) + (W ((W (1 * 2 ^ (min (Int.toNat (W (2 * a1))) 64))) * (W (1 * 2 ^ (min (Int.toNat (W (2 * a1))) 64))))))))), 0)))

theorem C31 (a0 : (List (Int × Int × Int)) × List (Int × Int × Int)) (a1 : Int) (l0_1 : a0.1.length ≤ 9223372036854775807) (l0_2 : a0.2.length ≤ 9223372036854775807) : Con Tryz.prog 31 [(.a [(.s 0 0 a0.1.length 3), (.s 1 0 a0.2.length 3)]), (iv a1)] [(.live false true (flat c27 a0.1)), (.live false true (flat c85 a0.2))] (.t (k2 (F31 a0 a1))) [] := by
  refine con_s Tryz.func31 (by kernel_rfl) fun cx hcx => ?_
  try have hw1 := hwin_f h1
  let t0 : List (St Tryz.prog) := [.c [0, 1] (C32 (a0.1, a0.2) (by (try simp only [List.length_append, List.length_cons, List.length_nil, Int.toNat_zero]); omega) (by (try simp only [List.length_append, List.length_cons, List.length_nil, Int.toNat_zero]); omega))]
  cases h0 : (((F32 (a0.1, a0.2)) : Int) != 0) with
  | true =>
   have q0 := bne_iff_ne.1 h0
   try have hw1 := hwin_f h1
   have e := Eq.refl (F31 a0 a1); conv at e => rhs; simp only [F31, h0, cond_true, cond_false]
   rw [e]
   exact rt (t0 ++ [.d h0]) [] [] hcx (by kernel_rfl)
  | false =>
   have q0 := bne_eq_false_iff_eq.1 h0
   try have hw1 := hwin_f h1
   let t1 : List (St Tryz.prog) := (t0 ++ [.d h0, .c [] (C33 a1 0 2)])
   cases h1 : (!(F33 a1 0 2)) with
   | true =>
    try have hw1 := hwin_f h1
    have e := Eq.refl (F31 a0 a1); conv at e => rhs; simp only [F31, h0, h1, cond_true, cond_false]
    rw [e]
    exact rt (t1 ++ [.d h1]) [] [] hcx (by kernel_rfl)
   | false =>
    try have hw1 := hwin_f h1
    have e := Eq.refl (F31 a0 a1); conv at e => rhs; simp only [F31, h0, h1, cond_true, cond_false]
    rw [e]
    exact rt (t1 ++ [.d h1, .p (show 0 ≤ ((W (2 * a1)) : Int) from by first | omega | (rw [W_eq] <;> omega) | exact u64_nn _)]) [] [] hcx (by kernel_rfl)

noncomputable def B54_L_0 : Code := (loopAtD [1, 1, 0, 1] [] (bodyOf Tryz.f54) []).1
noncomputable def K54_L_0 : List K := (loopAtD [1, 1, 0, 1] [] (bodyOf Tryz.f54) []).2

def st54_L_0 (a0 : List (Int)) (v1 : Int) (v2 : Int) : LS := ⟨slN 18 [(0, (.s 0 0 a0.length 1)), (3, (iv v1)), (4, (iv v2))], [(.live false true (flat c3 a0))]⟩

def S54_L_0 (a0 : List (Int)) : Int × Int → (Int × Int) ⊕ (Int)
  | (v1, v2) =>
   (bif (decide ((v2 : Int) < ((a0.length : Nat) : Int))) then
    (.inl ((W (v1 + (a0.getD (Int.toNat v2) default))), (v2 + 1)))
   else
    (.inr v1))

set_option maxHeartbeats 4000000 in
theorem L54_L_0 (a0 : List (Int)) (l0 : a0.length ≤ 9223372036854775807) {cx : Cx} (hcx : cx.base = 1) : ∀ (n : Nat) (v1 : Int) (v2 : Int), 0 ≤ v2 → Int.toNat (((a0.length : Nat) : Int) - v2) < n → Aw.Good Tryz.prog none 9 (bodyPost Tryz.prog Tryz.f54 (RR cx (iv (loopF (S54_L_0 a0) n (v1, v2))) [] [])) cx [] (.l B54_L_0 n :: K54_L_0) (st54_L_0 a0 v1 v2) := by
  intro n
  induction n with
  | zero => intro v1 v2 hi hn; exact absurd hn (Nat.not_lt_zero _)
  | succ n ih =>
    intro v1 v2 hi hn
    refine good_round ?_
    cases h0 : (decide ((v2 : Int) < ((a0.length : Nat) : Int))) with
    | true =>
     have q0 := of_decide_eq_true h0
     have e := Eq.refl (S54_L_0 a0 (v1, v2)); conv at e => rhs; simp only [S54_L_0, h0, cond_true, cond_false]
     rw [loopF_inl e]
     refine ba [.d h0, .i v2 (a0.length), .L c3_len a0 v2 0 1] [] [0, 3, 4] [] hcx (m := n) B54_L_0 (K54_L_0) (st54_L_0 a0 (W (v1 + (a0.getD (Int.toNat v2) default))) (W (v2 + 1))) (by kernel_rfl) ?_
     have z0 : (W (v2 + 1)) = (v2 + 1) := W_eq (by omega) (by omega)
     rw [z0]
     exact ih (W (v1 + (a0.getD (Int.toNat v2) default))) (v2 + 1) (by (try simp only [List.length_append, List.length_cons, List.length_nil, Int.toNat_zero]); omega) (by (try simp only [List.length_append, List.length_cons, List.length_nil, Int.toNat_zero]); omega)
    | false =>
     have q0 := of_decide_eq_false h0
     have e := Eq.refl (S54_L_0 a0 (v1, v2)); conv at e => rhs; simp only [S54_L_0, h0, cond_true, cond_false]
     rw [loopF_s, e]
     exact rt [.d h0] [] [] hcx (by kernel_rfl)

def F54_L (a0 : List (Int)) : Int :=
  (loopF (S54_L_0 a0) (Int.toNat (((a0.length : Nat) : Int) - 0) + 1) (0, 0))

theorem C54_L (a0 : List (Int)) (l0 : a0.length ≤ 9223372036854775807) : Con Tryz.prog 54 [(.s 0 0 a0.length 1)] [(.live false true (flat c3 a0))] (iv (F54_L a0)) [] := by
  refine con_s Tryz.func54 (by kernel_rfl) fun cx hcx => ?_
  have e := Eq.refl (F54_L a0); conv at e => rhs; simp only [F54_L]
  rw [e]
  refine en [] [] [0, 3, 4] [] hcx B54_L_0 (K54_L_0) (st54_L_0 a0 0 0) (Int.toNat (((a0.length : Nat) : Int) - 0) + 1) (by kernel_rfl) ?_
  exact L54_L_0 a0 l0 hcx (Int.toNat (((a0.length : Nat) : Int) - 0) + 1) 0 0 (by (try simp only [List.length_append, List.length_cons, List.length_nil, Int.toNat_zero]); omega) (by (try simp only [List.length_append, List.length_cons, List.length_nil, Int.toNat_zero]); omega)

noncomputable def B91_L_0 : Code := (loopAtD [1, 1, 1, 1, 0, 1] [] (bodyOf Tryz.f91) []).1
noncomputable def K91_L_0 : List K := (loopAtD [1, 1, 1, 1, 0, 1] [] (bodyOf Tryz.f91) []).2

def st91_L_0 (a0 : (List (Int × Int × Int)) × List (Int × Int × Int)) (a1 : List (Int)) (v1 : Int) : LS := ⟨slN 33 [(1, (.s 2 0 a1.length 1)), (6, (iv v1))], [(.live false true (flat c27 a0.1)), (.live false true (flat c85 a0.2)), (.live false true (flat c3 a1))]⟩

def S91_L_0 (a0 : (List (Int × Int × Int)) × List (Int × Int × Int)) (a1 : List (Int)) : Int → (Int) ⊕ (Int)
  | v1 =>
   (bif (decide ((v1 : Int) < ((a1.length : Nat) : Int))) then
    (bif (!(F65 (a1.getD (Int.toNat v1) default) 0 100)) then
     (.inr 1)
    else
     (.inl (v1 + 1)))
   else
    (bif (((F54_L a1) : Int) == 0) then
     (.inr 11)
    else
     (.inr 0)))

set_option maxHeartbeats 4000000 in
theorem L91_L_0 (a0 : (List (Int × Int × Int)) × List (Int × Int × Int)) (a1 : List (Int)) (l0_1 : a0.1.length ≤ 9223372036854775807) (l0_2 : a0.2.length ≤ 9223372036854775807) (l1 : a1.length ≤ 9223372036854775807) {cx : Cx} (hcx : cx.base = 3) : ∀ (n : Nat) (v1 : Int), 0 ≤ v1 → Int.toNat (((a1.length : Nat) : Int) - v1) < n → Aw.Good Tryz.prog none 9 (bodyPost Tryz.prog Tryz.f91 (RR cx (iv (loopF (S91_L_0 a0 a1) n v1)) [] [])) cx [] (.l B91_L_0 n :: K91_L_0) (st91_L_0 a0 a1 v1) := by
  intro n
  induction n with
  | zero => intro v1 hi hn; exact absurd hn (Nat.not_lt_zero _)
  | succ n ih =>
    intro v1 hi hn
    refine good_round ?_
    cases h0 : (decide ((v1 : Int) < ((a1.length : Nat) : Int))) with
    | true =>
     have q0 := of_decide_eq_true h0
     let t1 : List (St Tryz.prog) := [.d h0, .i v1 (a1.length), .L c3_len a1 v1 0 1, .c [] (C65 (a1.getD (Int.toNat v1) default) 0 100)]
     cases h1 : (!(F65 (a1.getD (Int.toNat v1) default) 0 100)) with
     | true =>
      have e := Eq.refl (S91_L_0 a0 a1 v1); conv at e => rhs; simp only [S91_L_0, h0, h1, cond_true, cond_false]
      rw [loopF_s, e]
      exact rt (t1 ++ [.d h1]) [] [] hcx (by kernel_rfl)
     | false =>
      have e := Eq.refl (S91_L_0 a0 a1 v1); conv at e => rhs; simp only [S91_L_0, h0, h1, cond_true, cond_false]
      rw [loopF_inl e]
      refine ba (t1 ++ [.d h1]) [] [1, 6] [] hcx (m := n) B91_L_0 (K91_L_0) (st91_L_0 a0 a1 (W (v1 + 1))) (by kernel_rfl) ?_
      have z0 : (W (v1 + 1)) = (v1 + 1) := W_eq (by omega) (by omega)
      rw [z0]
      exact ih (v1 + 1) (by (try simp only [List.length_append, List.length_cons, List.length_nil, Int.toNat_zero]); omega) (by (try simp only [List.length_append, List.length_cons, List.length_nil, Int.toNat_zero]); omega)
    | false =>
     have q0 := of_decide_eq_false h0
     let t1 : List (St Tryz.prog) := [.d h0, .c [2] (C54_L a1 (by (try simp only [List.length_append, List.length_cons, List.length_nil, Int.toNat_zero]); omega))]
     cases h1 : (((F54_L a1) : Int) == 0) with
     | true =>
      have q1 := eq_of_beq h1
      have e := Eq.refl (S91_L_0 a0 a1 v1); conv at e => rhs; simp only [S91_L_0, h0, h1, cond_true, cond_false]
      rw [loopF_s, e]
      exact rt (t1 ++ [.d h1]) [] [] hcx (by kernel_rfl)
     | false =>
      have q1 := ne_of_beq_false h1
      have e := Eq.refl (S91_L_0 a0 a1 v1); conv at e => rhs; simp only [S91_L_0, h0, h1, cond_true, cond_false]
      rw [loopF_s, e]
      exact rt (t1 ++ [.d h1]) [] [] hcx (by kernel_rfl)

def F91_L (a0 : (List (Int × Int × Int)) × List (Int × Int × Int)) (a1 : List (Int)) : Int :=
  (bif (((F35 (a0.1, a0.2)) : Int) != 0) then
   (F35 (a0.1, a0.2))
  else
   (bif ((((a1.length : Nat) : Int) : Int) != ((a0.2.length : Nat) : Int)) then
    1
   else
    (loopF (S91_L_0 a0 a1) (Int.toNat (((a1.length : Nat) : Int) - 0) + 1) 0)))

theorem C91_L (a0 : (List (Int × Int × Int)) × List (Int × Int × Int)) (a1 : List (Int)) (l0_1 : a0.1.length ≤ 9223372036854775807) (l0_2 : a0.2.length ≤ 9223372036854775807) (l1 : a1.length ≤ 9223372036854775807) : Con Tryz.prog 91 [(.a [(.s 0 0 a0.1.length 3), (.s 1 0 a0.2.length 3)]), (.s 2 0 a1.length 1)] [(.live false true (flat c27 a0.1)), (.live false true (flat c85 a0.2)), (.live false true (flat c3 a1))] (iv (F91_L a0 a1)) [] := by
  refine con_s Tryz.func91 (by kernel_rfl) fun cx hcx => ?_
  let t0 : List (St Tryz.prog) := [.c [0, 1] (C35 (a0.1, a0.2) (by (try simp only [List.length_append, List.length_cons, List.length_nil, Int.toNat_zero]); omega) (by (try simp only [List.length_append, List.length_cons, List.length_nil, Int.toNat_zero]); omega))]
  cases h0 : (((F35 (a0.1, a0.2)) : Int) != 0) with
  | true =>
   have q0 := bne_iff_ne.1 h0
   have e := Eq.refl (F91_L a0 a1); conv at e => rhs; simp only [F91_L, h0, cond_true, cond_false]
   rw [e]
   exact rt (t0 ++ [.d h0]) [] [] hcx (by kernel_rfl)
  | false =>
   have q0 := bne_eq_false_iff_eq.1 h0
   let t1 : List (St Tryz.prog) := (t0 ++ [.d h0])
   cases h1 : ((((a1.length : Nat) : Int) : Int) != ((a0.2.length : Nat) : Int)) with
   | true =>
    have q1 := bne_iff_ne.1 h1
    have e := Eq.refl (F91_L a0 a1); conv at e => rhs; simp only [F91_L, h0, h1, cond_true, cond_false]
    rw [e]
    exact rt (t1 ++ [.d h1]) [] [] hcx (by kernel_rfl)
   | false =>
    have q1 := bne_eq_false_iff_eq.1 h1
    have e := Eq.refl (F91_L a0 a1); conv at e => rhs; simp only [F91_L, h0, h1, cond_true, cond_false]
    rw [e]
    refine en (t1 ++ [.d h1]) [] [1, 6] [] hcx B91_L_0 (K91_L_0) (st91_L_0 a0 a1 0) (Int.toNat (((a1.length : Nat) : Int) - 0) + 1) (by kernel_rfl) ?_
    exact L91_L_0 a0 a1 l0_1 l0_2 l1 hcx (Int.toNat (((a1.length : Nat) : Int) - 0) + 1) 0 (by (try simp only [List.length_append, List.length_cons, List.length_nil, Int.toNat_zero]); omega) (by (try simp only [List.length_append, List.length_cons, List.length_nil, Int.toNat_zero]); omega)

def F44_L (a0 : (List (Int × Int × Int)) × List (Int × Int × Int)) (a1 : List (Int)) (a2 : Int) : Int :=
  (bif (((F91_L (a0.1, a0.2) a1) : Int) != 0) then
   (F91_L (a0.1, a0.2) a1)
  else
   (bif (!(F65 a2 0 2)) then
    1
   else
    0))

theorem C44_L (a0 : (List (Int × Int × Int)) × List (Int × Int × Int)) (a1 : List (Int)) (a2 : Int) (l0_1 : a0.1.length ≤ 9223372036854775807) (l0_2 : a0.2.length ≤ 9223372036854775807) (l1 : a1.length ≤ 9223372036854775807) : Con Tryz.prog 44 [(.a [(.s 0 0 a0.1.length 3), (.s 1 0 a0.2.length 3)]), (.s 2 0 a1.length 1), (iv a2)] [(.live false true (flat c27 a0.1)), (.live false true (flat c85 a0.2)), (.live false true (flat c3 a1))] (iv (F44_L a0 a1 a2)) [] := by
  refine con_s Tryz.func44 (by kernel_rfl) fun cx hcx => ?_
  let t0 : List (St Tryz.prog) := [.c [0, 1, 2] (C91_L (a0.1, a0.2) a1 (by (try simp only [List.length_append, List.length_cons, List.length_nil, Int.toNat_zero]); omega) (by (try simp only [List.length_append, List.length_cons, List.length_nil, Int.toNat_zero]); omega) (by (try simp only [List.length_append, List.length_cons, List.length_nil, Int.toNat_zero]); omega))]
  cases h0 : (((F91_L (a0.1, a0.2) a1) : Int) != 0) with
  | true =>
   have q0 := bne_iff_ne.1 h0
   have e := Eq.refl (F44_L a0 a1 a2); conv at e => rhs; simp only [F44_L, h0, cond_true, cond_false]
   rw [e]
   exact rt (t0 ++ [.d h0]) [] [] hcx (by kernel_rfl)
  | false =>
   have q0 := bne_eq_false_iff_eq.1 h0
   let t1 : List (St Tryz.prog) := (t0 ++ [.d h0, .c [] (C65 a2 0 2)])
   cases h1 : (!(F65 a2 0 2)) with
   | true =>
    have e := Eq.refl (F44_L a0 a1 a2); conv at e => rhs; simp only [F44_L, h0, h1, cond_true, cond_false]
    rw [e]
    exact rt (t1 ++ [.d h1]) [] [] hcx (by kernel_rfl)
   | false =>
    have e := Eq.refl (F44_L a0 a1 a2); conv at e => rhs; simp only [F44_L, h0, h1, cond_true, cond_false]
    rw [e]
    exact rt (t1 ++ [.d h1]) [] [] hcx (by kernel_rfl)

noncomputable def B45_0 : Code := (loopAtD [1, 1, 0, 1] [] (bodyOf Tryz.f45) []).1
noncomputable def K45_0 : List K := (loopAtD [1, 1, 0, 1] [] (bodyOf Tryz.f45) []).2

def st45_0 (a0 : (List (Int × Int × Int)) × List (Int × Int × Int)) (v2c : List SV) (v2n : Nat) (v3 : Int) : LS := ⟨slN 41 [(1, (.p 2 0)), (3, (.s 3 0 v2n 9)), (4, (iv v3))], [(.live false true (flat c27 a0.1)), (.live false true (flat c85 a0.2)), (.live true false [(.s 0 0 a0.1.length 3), (.s 1 0 a0.2.length 3)]), (.live true true v2c)]⟩

def S45_0 (a0 : (List (Int × Int × Int)) × List (Int × Int × Int)) : (List ((Int × Int × Int) × (Int × Int × Int) × Int × Int × Int)) × Int → ((List ((Int × Int × Int) × (Int × Int × Int) × Int × Int × Int)) × Int) ⊕ (List ((Int × Int × Int) × (Int × Int × Int) × Int × Int × Int))
  | (v2, v3) =>
   (bif (decide ((v3 : Int) < ((a0.2.length : Nat) : Int))) then
    (.inl ((v2 ++ [((a0.1.getD (Int.toNat (a0.2.getD (Int.toNat v3) default).1) default), (a0.1.getD (Int.toNat (a0.2.getD (Int.toNat v3) default).2.1) default), (a0.1.getD (Int.toNat (a0.2.getD (Int.toNat v3) default).2.2) default))]), (v3 + 1)))
   else
    (.inr v2))

set_option maxHeartbeats 4000000 in
theorem L45_0 (a0 : (List (Int × Int × Int)) × List (Int × Int × Int)) (l0_1 : a0.1.length ≤ 9223372036854775807) (l0_2 : a0.2.length ≤ 9223372036854775807) (hv : okTo a0 a0.2.length) (hn : a0.2.length ≤ 96) {cx : Cx} (hcx : cx.base = 2) : ∀ (n : Nat) (v2 : List ((Int × Int × Int) × (Int × Int × Int) × Int × Int × Int)) (v3 : Int), (0 ≤ v3) ∧ (v2.length = Int.toNat v3) ∧ (v3 ≤ a0.2.length) → Int.toNat (((a0.2.length : Nat) : Int) - v3) < n → Aw.Good Tryz.prog none 9 (bodyPost Tryz.prog Tryz.f45 (RR cx (.s 2 0 (loopF (S45_0 a0) n (v2, v3)).length 9) [(.live true true (flat c65 (loopF (S45_0 a0) n (v2, v3))))] [])) cx [] (.l B45_0 n :: K45_0) (st45_0 a0 (flat c65 v2) v2.length v3) := by
  intro n
  induction n with
  | zero => intro v2 v3 hi hn; exact absurd hn (Nat.not_lt_zero _)
  | succ n ih =>
    intro v2 v3 hi hn
    refine good_round ?_
    have hf0 := okTo_im hv v3
    cases h0 : (decide ((v3 : Int) < ((a0.2.length : Nat) : Int))) with
    | true =>
     have q0 := of_decide_eq_true h0
     have e := Eq.refl (S45_0 a0 (v2, v3)); conv at e => rhs; simp only [S45_0, h0, cond_true, cond_false]
     rw [loopF_inl e]
     refine ba [.d h0, .i v3 (a0.2.length), .L c85_len a0.2 v3 0 3, .i 0 3 (by decide), .i ((a0.2.getD (Int.toNat v3) default).1) (a0.1.length), .L c27_len a0.1 (a0.2.getD (Int.toNat v3) default).1 0 3, .i 1 3 (by decide), .i ((a0.2.getD (Int.toNat v3) default).2.1) (a0.1.length), .L c27_len a0.1 (a0.2.getD (Int.toNat v3) default).2.1 0 3, .i 2 3 (by decide), .i ((a0.2.getD (Int.toNat v3) default).2.2) (a0.1.length), .L c27_len a0.1 (a0.2.getD (Int.toNat v3) default).2.2 0 3, .p (show ((flat c65 v2).length = v2.length * 9 ∧ v2.length + 1 ≤ 2 ^ 40 ∧ (v2.length + 1) * 72 ≤ 2 ^ 47) from app_ok c65_len (by omega) (by omega))] [] [1, 3, 4] [2, 6] hcx (m := n) B45_0 (K45_0) (st45_0 a0 (flat c65 v2 ++ [(iv (a0.1.getD (Int.toNat (a0.2.getD (Int.toNat v3) default).1) default).1), (iv (a0.1.getD (Int.toNat (a0.2.getD (Int.toNat v3) default).1) default).2.1), (iv (a0.1.getD (Int.toNat (a0.2.getD (Int.toNat v3) default).1) default).2.2), (iv (a0.1.getD (Int.toNat (a0.2.getD (Int.toNat v3) default).2.1) default).1), (iv (a0.1.getD (Int.toNat (a0.2.getD (Int.toNat v3) default).2.1) default).2.1), (iv (a0.1.getD (Int.toNat (a0.2.getD (Int.toNat v3) default).2.1) default).2.2), (iv (a0.1.getD (Int.toNat (a0.2.getD (Int.toNat v3) default).2.2) default).1), (iv (a0.1.getD (Int.toNat (a0.2.getD (Int.toNat v3) default).2.2) default).2.1), (iv (a0.1.getD (Int.toNat (a0.2.getD (Int.toNat v3) default).2.2) default).2.2)]) (v2.length + 1) (W (v3 + 1))) (by kernel_rfl) ?_
     have z0 : (W (v3 + 1)) = (v3 + 1) := W_eq (by omega) (by omega)
     have z1 : (flat c65 v2 ++ [(iv (a0.1.getD (Int.toNat (a0.2.getD (Int.toNat v3) default).1) default).1), (iv (a0.1.getD (Int.toNat (a0.2.getD (Int.toNat v3) default).1) default).2.1), (iv (a0.1.getD (Int.toNat (a0.2.getD (Int.toNat v3) default).1) default).2.2), (iv (a0.1.getD (Int.toNat (a0.2.getD (Int.toNat v3) default).2.1) default).1), (iv (a0.1.getD (Int.toNat (a0.2.getD (Int.toNat v3) default).2.1) default).2.1), (iv (a0.1.getD (Int.toNat (a0.2.getD (Int.toNat v3) default).2.1) default).2.2), (iv (a0.1.getD (Int.toNat (a0.2.getD (Int.toNat v3) default).2.2) default).1), (iv (a0.1.getD (Int.toNat (a0.2.getD (Int.toNat v3) default).2.2) default).2.1), (iv (a0.1.getD (Int.toNat (a0.2.getD (Int.toNat v3) default).2.2) default).2.2)]) = (flat c65 (v2 ++ [((a0.1.getD (Int.toNat (a0.2.getD (Int.toNat v3) default).1) default), (a0.1.getD (Int.toNat (a0.2.getD (Int.toNat v3) default).2.1) default), (a0.1.getD (Int.toNat (a0.2.getD (Int.toNat v3) default).2.2) default))])) := (flat_append (c := c65) (l := v2) (m := [((a0.1.getD (Int.toNat (a0.2.getD (Int.toNat v3) default).1) default), (a0.1.getD (Int.toNat (a0.2.getD (Int.toNat v3) default).2.1) default), (a0.1.getD (Int.toNat (a0.2.getD (Int.toNat v3) default).2.2) default))])).symm
     have z2 : (v2.length + 1) = (v2 ++ [((a0.1.getD (Int.toNat (a0.2.getD (Int.toNat v3) default).1) default), (a0.1.getD (Int.toNat (a0.2.getD (Int.toNat v3) default).2.1) default), (a0.1.getD (Int.toNat (a0.2.getD (Int.toNat v3) default).2.2) default))]).length := len_app v2 [((a0.1.getD (Int.toNat (a0.2.getD (Int.toNat v3) default).1) default), (a0.1.getD (Int.toNat (a0.2.getD (Int.toNat v3) default).2.1) default), (a0.1.getD (Int.toNat (a0.2.getD (Int.toNat v3) default).2.2) default))] rfl
     rw [z0, z1, z2]
     exact ih (v2 ++ [((a0.1.getD (Int.toNat (a0.2.getD (Int.toNat v3) default).1) default), (a0.1.getD (Int.toNat (a0.2.getD (Int.toNat v3) default).2.1) default), (a0.1.getD (Int.toNat (a0.2.getD (Int.toNat v3) default).2.2) default))]) (v3 + 1) (by refine ⟨?_, ?_, ?_⟩ <;> (try simp only [List.length_append, List.length_cons, List.length_nil, Int.toNat_zero]) <;> first | omega | assumption | simp) (by (try simp only [List.length_append, List.length_cons, List.length_nil, Int.toNat_zero]); omega)
    | false =>
     have q0 := of_decide_eq_false h0
     have e := Eq.refl (S45_0 a0 (v2, v3)); conv at e => rhs; simp only [S45_0, h0, cond_true, cond_false]
     rw [loopF_s, e]
     exact rt [.d h0] [] [3] hcx (by kernel_rfl)

def F45 (a0 : (List (Int × Int × Int)) × List (Int × Int × Int)) : List ((Int × Int × Int) × (Int × Int × Int) × Int × Int × Int) :=
  (loopF (S45_0 a0) (Int.toNat (((a0.2.length : Nat) : Int) - 0) + 1) (([] : List ((Int × Int × Int) × (Int × Int × Int) × Int × Int × Int)), 0))

theorem C45 (a0 : (List (Int × Int × Int)) × List (Int × Int × Int)) (l0_1 : a0.1.length ≤ 9223372036854775807) (l0_2 : a0.2.length ≤ 9223372036854775807) (hv : okTo a0 a0.2.length) (hn : a0.2.length ≤ 96) : Con Tryz.prog 45 [(.a [(.s 0 0 a0.1.length 3), (.s 1 0 a0.2.length 3)])] [(.live false true (flat c27 a0.1)), (.live false true (flat c85 a0.2))] (.s 2 0 (F45 a0).length 9) [(.live true true (flat c65 (F45 a0)))] := by
  refine con_s Tryz.func45 (by kernel_rfl) fun cx hcx => ?_
  have e := Eq.refl (F45 a0); conv at e => rhs; simp only [F45]
  rw [e]
  refine en [] [.slot 3 9] [1, 3, 4] [2, 3] hcx B45_0 (K45_0) (st45_0 a0 (flat c65 ([] : List ((Int × Int × Int) × (Int × Int × Int) × Int × Int × Int))) 0 0) (Int.toNat (((a0.2.length : Nat) : Int) - 0) + 1) (by kernel_rfl) ?_
  exact L45_0 a0 l0_1 l0_2 hv hn hcx (Int.toNat (((a0.2.length : Nat) : Int) - 0) + 1) ([] : List ((Int × Int × Int) × (Int × Int × Int) × Int × Int × Int)) 0 (by refine ⟨?_, ?_, ?_⟩ <;> (try simp only [List.length_append, List.length_cons, List.length_nil, Int.toNat_zero]) <;> first | omega | assumption | simp) (by (try simp only [List.length_append, List.length_cons, List.length_nil, Int.toNat_zero]); omega)

def F53 (a0 : Int) : Int × Int :=
  (bif (decide ((a0 : Int) > 1099511627776)) then
   (0, 4)
  else
   (a0, 0))

theorem C53 (a0 : Int) : Con Tryz.prog 53 [(iv a0)] [] (.t (k2 (F53 a0))) [] := by
  refine con_s Tryz.func53 (by kernel_rfl) fun cx hcx => ?_
  cases h0 : (decide ((a0 : Int) > 1099511627776)) with
  | true =>
   have q0 := of_decide_eq_true h0
   have e := Eq.refl (F53 a0); conv at e => rhs; simp only [F53, h0, cond_true, cond_false]
   rw [e]
   exact rt [.d h0] [] [] hcx (by kernel_rfl)
  | false =>
   have q0 := of_decide_eq_false h0
   have e := Eq.refl (F53 a0); conv at e => rhs; simp only [F53, h0, cond_true, cond_false]
   rw [e]
   exact rt [.d h0] [] [] hcx (by kernel_rfl)

noncomputable def B12_0 : Code := (loopAtD [1, 1, 1, 1, 1, 0, 1] [] (bodyOf Tryz.f12) []).1
noncomputable def K12_0 : List K := (loopAtD [1, 1, 1, 1, 1, 0, 1] [] (bodyOf Tryz.f12) []).2

def st12_0 (a0 : (List (Int × Int × Int)) × List (Int × Int × Int)) (a1 : Int × Int × Int) (v1 : Int) (v2 : Int) : LS := ⟨slN 43 [(2, (.p 2 0)), (3, (.p 3 0)), (7, (iv v1)), (8, (iv v2))], [(.live false true (flat c27 a0.1)), (.live false true (flat c85 a0.2)), (.live true false [(.s 0 0 a0.1.length 3), (.s 1 0 a0.2.length 3)]), (.live true false (k3 a1))]⟩

def S12_0 (a0 : (List (Int × Int × Int)) × List (Int × Int × Int)) (a1 : Int × Int × Int) : Int × Int → (Int × Int) ⊕ (Int × Int)
  | (v1, v2) =>
   (bif (decide ((v2 : Int) < ((a0.1.length : Nat) : Int))) then
    (.inl ((imx v1 (F37 (F38 (a0.1.getD (Int.toNat v2) default) a1))), (v2 + 1)))
   else
    (.inr ((F39 v1).1.2, (F39 v1).2)))

set_option maxHeartbeats 4000000 in
theorem L12_0 (a0 : (List (Int × Int × Int)) × List (Int × Int × Int)) (a1 : Int × Int × Int) (l0_1 : a0.1.length ≤ 9223372036854775807) (l0_2 : a0.2.length ≤ 9223372036854775807) {cx : Cx} (hcx : cx.base = 2) : ∀ (n : Nat) (v1 : Int) (v2 : Int), 0 ≤ v2 → Int.toNat (((a0.1.length : Nat) : Int) - v2) < n → Aw.Good Tryz.prog none 9 (bodyPost Tryz.prog Tryz.f12 (RR cx (.t (k2 (loopF (S12_0 a0 a1) n (v1, v2)))) [] [])) cx [] (.l B12_0 n :: K12_0) (st12_0 a0 a1 v1 v2) := by
  intro n
  induction n with
  | zero => intro v1 v2 hi hn; exact absurd hn (Nat.not_lt_zero _)
  | succ n ih =>
    intro v1 v2 hi hn
    refine good_round ?_
    cases h0 : (decide ((v2 : Int) < ((a0.1.length : Nat) : Int))) with
    | true =>
     have q0 := of_decide_eq_true h0
     have e := Eq.refl (S12_0 a0 a1 (v1, v2)); conv at e => rhs; simp only [S12_0, h0, cond_true, cond_false]
     rw [loopF_inl e]
     refine ba [.d h0, .i v2 (a0.1.length), .L c27_len a0.1 v2 0 3, .c [] (C38 (a0.1.getD (Int.toNat v2) default) a1), .c [] (C37 (F38 (a0.1.getD (Int.toNat v2) default) a1))] [] [2, 3, 7, 8] [2, 3] hcx (m := n) B12_0 (K12_0) (st12_0 a0 a1 (imx v1 (F37 (F38 (a0.1.getD (Int.toNat v2) default) a1))) (W (v2 + 1))) (by kernel_rfl) ?_
     have z0 : (W (v2 + 1)) = (v2 + 1) := W_eq (by omega) (by omega)
     rw [z0]
     exact ih (imx v1 (F37 (F38 (a0.1.getD (Int.toNat v2) default) a1))) (v2 + 1) (by (try simp only [List.length_append, List.length_cons, List.length_nil, Int.toNat_zero]); omega) (by (try simp only [List.length_append, List.length_cons, List.length_nil, Int.toNat_zero]); omega)
    | false =>
     have q0 := of_decide_eq_false h0
     have e := Eq.refl (S12_0 a0 a1 (v1, v2)); conv at e => rhs; simp only [S12_0, h0, cond_true, cond_false]
     rw [loopF_s, e]
     exact rt [.d h0, .c [] (C39 v1)] [] [] hcx (by kernel_rfl)

def F12 (a0 : (List (Int × Int × Int)) × List (Int × Int × Int)) (a1 : Int × Int × Int) : Int × Int :=
  (bif (((F35 (a0.1, a0.2)) : Int) != 0) then
   (0, (F35 (a0.1, a0.2)))
  else
   (bif (!(F36 a1 256)) then
    (0, 1)
   else
    (loopF (S12_0 a0 a1) (Int.toNat (((a0.1.length : Nat) : Int) - 0) + 1) (0, 0))))

theorem C12 (a0 : (List (Int × Int × Int)) × List (Int × Int × Int)) (a1 : Int × Int × Int) (l0_1 : a0.1.length ≤ 9223372036854775807) (l0_2 : a0.2.length ≤ 9223372036854775807) : Con Tryz.prog 12 [(.a [(.s 0 0 a0.1.length 3), (.s 1 0 a0.2.length 3)]), (.a (k3 a1))] [(.live false true (flat c27 a0.1)), (.live false true (flat c85 a0.2))] (.t (k2 (F12 a0 a1))) [] := by
  refine con_s Tryz.func12 (by kernel_rfl) fun cx hcx => ?_
  let t0 : List (St Tryz.prog) := [.c [0, 1] (C35 (a0.1, a0.2) (by (try simp only [List.length_append, List.length_cons, List.length_nil, Int.toNat_zero]); omega) (by (try simp only [List.length_append, List.length_cons, List.length_nil, Int.toNat_zero]); omega))]
  cases h0 : (((F35 (a0.1, a0.2)) : Int) != 0) with
  | true =>
   have q0 := bne_iff_ne.1 h0
   have e := Eq.refl (F12 a0 a1); conv at e => rhs; simp only [F12, h0, cond_true, cond_false]
   rw [e]
   exact rt (t0 ++ [.d h0]) [] [] hcx (by kernel_rfl)
  | false =>
   have q0 := bne_eq_false_iff_eq.1 h0
   let t1 : List (St Tryz.prog) := (t0 ++ [.d h0, .c [] (C36 a1 256)])
   cases h1 : (!(F36 a1 256)) with
   | true =>
    have e := Eq.refl (F12 a0 a1); conv at e => rhs; simp only [F12, h0, h1, cond_true, cond_false]
    rw [e]
    exact rt (t1 ++ [.d h1]) [] [] hcx (by kernel_rfl)
   | false =>
    have e := Eq.refl (F12 a0 a1); conv at e => rhs; simp only [F12, h0, h1, cond_true, cond_false]
    rw [e]
    refine en (t1 ++ [.d h1]) [] [2, 3, 7, 8] [2, 3] hcx B12_0 (K12_0) (st12_0 a0 a1 0 0) (Int.toNat (((a0.1.length : Nat) : Int) - 0) + 1) (by kernel_rfl) ?_
    exact L12_0 a0 a1 l0_1 l0_2 hcx (Int.toNat (((a0.1.length : Nat) : Int) - 0) + 1) 0 0 (by (try simp only [List.length_append, List.length_cons, List.length_nil, Int.toNat_zero]); omega) (by (try simp only [List.length_append, List.length_cons, List.length_nil, Int.toNat_zero]); omega)

noncomputable def B59_0 : Code := (loopAtD [1, 1, 0, 1] [] (bodyOf Tryz.f59) []).1
noncomputable def K59_0 : List K := (loopAtD [1, 1, 0, 1] [] (bodyOf Tryz.f59) []).2

def st59_0 (a0 : (List (Int × Int × Int)) × List (Int × Int × Int)) (v1 : Int) (v2 : Int) (v3 : Int) (v4 : Int) (v5 : Int) (v6 : Int) (v7 : Int) : LS := ⟨slN 78 [(1, (.p 2 0)), (2, (.p 3 0)), (3, (.p 4 0)), (4, (.p 5 0)), (5, (iv v1))], [(.live false true (flat c27 a0.1)), (.live false true (flat c85 a0.2)), (.live true false [(.s 0 0 a0.1.length 3), (.s 1 0 a0.2.length 3)]), (.live true false [(iv 0), (iv 0), (iv 0)]), (.live true false [(iv v2), (iv v3), (iv v4)]), (.live true false [(iv v5), (iv v6), (iv v7)])]⟩

def S59_0 (a0 : (List (Int × Int × Int)) × List (Int × Int × Int)) : Int × Int × Int × Int × Int × Int × Int → (Int × Int × Int × Int × Int × Int × Int) ⊕ (Int × Int × Int)
  | (v1, v2, v3, v4, v5, v6, v7) =>
   (bif (decide ((v1 : Int) < ((a0.1.length : Nat) : Int))) then
    (.inl ((v1 + 1), (imn v2 (a0.1.getD (Int.toNat v1) default).1), (imn v3 (a0.1.getD (Int.toNat v1) default).2.1), (imn v4 (a0.1.getD (Int.toNat v1) default).2.2), (imx v5 (a0.1.getD (Int.toNat v1) default).1), (imx v6 (a0.1.getD (Int.toNat v1) default).2.1), (imx v7 (a0.1.getD (Int.toNat v1) default).2.2)))
   else
    (.inr ((Int.fdiv (W (v2 + v5)) (2 ^ (min (Int.toNat 1) 64))), (Int.fdiv (W (v3 + v6)) (2 ^ (min (Int.toNat 1) 64))), (Int.fdiv (W (v4 + v7)) (2 ^ (min (Int.toNat 1) 64))))))

set_option maxHeartbeats 4000000 in
theorem L59_0 (a0 : (List (Int × Int × Int)) × List (Int × Int × Int)) (l0_1 : a0.1.length ≤ 9223372036854775807) (l0_2 : a0.2.length ≤ 9223372036854775807) (hp : 1 ≤ a0.1.length) {cx : Cx} (hcx : cx.base = 2) : ∀ (n : Nat) (v1 : Int) (v2 : Int) (v3 : Int) (v4 : Int) (v5 : Int) (v6 : Int) (v7 : Int), 0 ≤ v1 → Int.toNat (((a0.1.length : Nat) : Int) - v1) < n → Aw.Good Tryz.prog none 9 (bodyPost Tryz.prog Tryz.f59 (RR cx (.a (k3 (loopF (S59_0 a0) n (v1, v2, v3, v4, v5, v6, v7)))) [] [])) cx [] (.l B59_0 n :: K59_0) (st59_0 a0 v1 v2 v3 v4 v5 v6 v7) := by
  intro n
  induction n with
  | zero => intro v1 v2 v3 v4 v5 v6 v7 hi hn; exact absurd hn (Nat.not_lt_zero _)
  | succ n ih =>
    intro v1 v2 v3 v4 v5 v6 v7 hi hn
    refine good_round ?_
    cases h0 : (decide ((v1 : Int) < ((a0.1.length : Nat) : Int))) with
    | true =>
     have q0 := of_decide_eq_true h0
     have e := Eq.refl (S59_0 a0 (v1, v2, v3, v4, v5, v6, v7)); conv at e => rhs; simp only [S59_0, h0, cond_true, cond_false]
     rw [loopF_inl e]
     refine ba [.d h0, .i v1 (a0.1.length), .L c27_len a0.1 v1 0 3] [] [1, 2, 3, 4, 5] [2, 3, 4, 5] hcx (m := n) B59_0 (K59_0) (st59_0 a0 (W (v1 + 1)) (imn v2 (a0.1.getD (Int.toNat v1) default).1) (imn v3 (a0.1.getD (Int.toNat v1) default).2.1) (imn v4 (a0.1.getD (Int.toNat v1) default).2.2) (imx v5 (a0.1.getD (Int.toNat v1) default).1) (imx v6 (a0.1.getD (Int.toNat v1) default).2.1) (imx v7 (a0.1.getD (Int.toNat v1) default).2.2)) (by kernel_rfl) ?_
     have z0 : (W (v1 + 1)) = (v1 + 1) := W_eq (by omega) (by omega)
     rw [z0]
     exact ih (v1 + 1) (imn v2 (a0.1.getD (Int.toNat v1) default).1) (imn v3 (a0.1.getD (Int.toNat v1) default).2.1) (imn v4 (a0.1.getD (Int.toNat v1) default).2.2) (imx v5 (a0.1.getD (Int.toNat v1) default).1) (imx v6 (a0.1.getD (Int.toNat v1) default).2.1) (imx v7 (a0.1.getD (Int.toNat v1) default).2.2) (by (try simp only [List.length_append, List.length_cons, List.length_nil, Int.toNat_zero]); omega) (by (try simp only [List.length_append, List.length_cons, List.length_nil, Int.toNat_zero]); omega)
    | false =>
     have q0 := of_decide_eq_false h0
     have e := Eq.refl (S59_0 a0 (v1, v2, v3, v4, v5, v6, v7)); conv at e => rhs; simp only [S59_0, h0, cond_true, cond_false]
     rw [loopF_s, e]
     exact rt [.d h0, .p (show 0 ≤ (1 : Int) from by decide), .p (show 0 ≤ (1 : Int) from by decide), .p (show 0 ≤ (1 : Int) from by decide)] [] [] hcx (by kernel_rfl)

def F59 (a0 : (List (Int × Int × Int)) × List (Int × Int × Int)) : Int × Int × Int :=
  (loopF (S59_0 a0) (Int.toNat (((a0.1.length : Nat) : Int) - 1) + 1) (1, (a0.1.getD (Int.toNat 0) default).1, (a0.1.getD (Int.toNat 0) default).2.1, (a0.1.getD (Int.toNat 0) default).2.2, (a0.1.getD (Int.toNat 0) default).1, (a0.1.getD (Int.toNat 0) default).2.1, (a0.1.getD (Int.toNat 0) default).2.2))

theorem C59 (a0 : (List (Int × Int × Int)) × List (Int × Int × Int)) (l0_1 : a0.1.length ≤ 9223372036854775807) (l0_2 : a0.2.length ≤ 9223372036854775807) (hp : 1 ≤ a0.1.length) : Con Tryz.prog 59 [(.a [(.s 0 0 a0.1.length 3), (.s 1 0 a0.2.length 3)])] [(.live false true (flat c27 a0.1)), (.live false true (flat c85 a0.2))] (.a (k3 (F59 a0))) [] := by
  refine con_s Tryz.func59 (by kernel_rfl) fun cx hcx => ?_
  have e := Eq.refl (F59 a0); conv at e => rhs; simp only [F59]
  rw [e]
  refine en [.i 0 (a0.1.length), .L c27_len a0.1 0 0 3, .i 0 (a0.1.length), .L c27_len a0.1 0 0 3] [] [1, 2, 3, 4, 5] [2, 3, 4, 5] hcx B59_0 (K59_0) (st59_0 a0 1 ((a0.1.getD (Int.toNat 0) default).1) ((a0.1.getD (Int.toNat 0) default).2.1) ((a0.1.getD (Int.toNat 0) default).2.2) ((a0.1.getD (Int.toNat 0) default).1) ((a0.1.getD (Int.toNat 0) default).2.1) ((a0.1.getD (Int.toNat 0) default).2.2)) (Int.toNat (((a0.1.length : Nat) : Int) - 1) + 1) (by kernel_rfl) ?_
  exact L59_0 a0 l0_1 l0_2 hp hcx (Int.toNat (((a0.1.length : Nat) : Int) - 1) + 1) 1 ((a0.1.getD (Int.toNat 0) default).1) ((a0.1.getD (Int.toNat 0) default).2.1) ((a0.1.getD (Int.toNat 0) default).2.2) ((a0.1.getD (Int.toNat 0) default).1) ((a0.1.getD (Int.toNat 0) default).2.1) ((a0.1.getD (Int.toNat 0) default).2.2) (by (try simp only [List.length_append, List.length_cons, List.length_nil, Int.toNat_zero]); omega) (by (try simp only [List.length_append, List.length_cons, List.length_nil, Int.toNat_zero]); omega)

noncomputable def B61_0 : Code := (loopAtD [1, 1, 0, 1] [] (bodyOf Tryz.f61) []).1
noncomputable def K61_0 : List K := (loopAtD [1, 1, 0, 1] [] (bodyOf Tryz.f61) []).2

def st61_0 (a0 : (List (Int × Int × Int)) × List (Int × Int × Int)) (v2c : List SV) (v2n : Nat) (v3 : Int) : LS := ⟨slN 16 [(1, (.p 2 0)), (3, (.s 3 0 v2n 1)), (4, (iv v3))], [(.live false true (flat c27 a0.1)), (.live false true (flat c85 a0.2)), (.live true false [(.s 0 0 a0.1.length 3), (.s 1 0 a0.2.length 3)]), (.live true true v2c)]⟩

def S61_0 (a0 : (List (Int × Int × Int)) × List (Int × Int × Int)) : List (Int) × Int → (List (Int) × Int) ⊕ (List (Int))
  | (v2, v3) =>
   (bif (decide ((v3 : Int) < ((a0.2.length : Nat) : Int))) then
    (.inl ((v2 ++ [1]), (v3 + 1)))
   else
    (.inr v2))

set_option maxHeartbeats 4000000 in
theorem L61_0 (a0 : (List (Int × Int × Int)) × List (Int × Int × Int)) (l0_1 : a0.1.length ≤ 9223372036854775807) (l0_2 : a0.2.length ≤ 9223372036854775807) (hn : a0.2.length ≤ 96) {cx : Cx} (hcx : cx.base = 2) : ∀ (n : Nat) (v2 : List (Int)) (v3 : Int), (0 ≤ v3) ∧ (v2.length = Int.toNat v3) ∧ (v3 ≤ a0.2.length) → Int.toNat (((a0.2.length : Nat) : Int) - v3) < n → Aw.Good Tryz.prog none 9 (bodyPost Tryz.prog Tryz.f61 (RR cx (.s 2 0 (loopF (S61_0 a0) n (v2, v3)).length 1) [(.live true true (flat c3 (loopF (S61_0 a0) n (v2, v3))))] [])) cx [] (.l B61_0 n :: K61_0) (st61_0 a0 (flat c3 v2) v2.length v3) := by
  intro n
  induction n with
  | zero => intro v2 v3 hi hn; exact absurd hn (Nat.not_lt_zero _)
  | succ n ih =>
    intro v2 v3 hi hn
    refine good_round ?_
    cases h0 : (decide ((v3 : Int) < ((a0.2.length : Nat) : Int))) with
    | true =>
     have q0 := of_decide_eq_true h0
     have e := Eq.refl (S61_0 a0 (v2, v3)); conv at e => rhs; simp only [S61_0, h0, cond_true, cond_false]
     rw [loopF_inl e]
     refine ba [.d h0, .p (show ((flat c3 v2).length = v2.length * 1 ∧ v2.length + 1 ≤ 2 ^ 40 ∧ (v2.length + 1) * 8 ≤ 2 ^ 47) from app_ok c3_len (by omega) (by omega))] [] [1, 3, 4] [2, 5] hcx (m := n) B61_0 (K61_0) (st61_0 a0 (flat c3 v2 ++ [(iv 1)]) (v2.length + 1) (W (v3 + 1))) (by kernel_rfl) ?_
     have z0 : (W (v3 + 1)) = (v3 + 1) := W_eq (by omega) (by omega)
     have z1 : (flat c3 v2 ++ [(iv 1)]) = (flat c3 (v2 ++ [1])) := (flat_append (c := c3) (l := v2) (m := [1])).symm
     have z2 : (v2.length + 1) = (v2 ++ [1]).length := len_app v2 [1] rfl
     rw [z0, z1, z2]
     exact ih (v2 ++ [1]) (v3 + 1) (by refine ⟨?_, ?_, ?_⟩ <;> (try simp only [List.length_append, List.length_cons, List.length_nil, Int.toNat_zero]) <;> first | omega | assumption | simp) (by (try simp only [List.length_append, List.length_cons, List.length_nil, Int.toNat_zero]); omega)
    | false =>
     have q0 := of_decide_eq_false h0
     have e := Eq.refl (S61_0 a0 (v2, v3)); conv at e => rhs; simp only [S61_0, h0, cond_true, cond_false]
     rw [loopF_s, e]
     exact rt [.d h0] [] [3] hcx (by kernel_rfl)

def F61 (a0 : (List (Int × Int × Int)) × List (Int × Int × Int)) : List (Int) :=
  (loopF (S61_0 a0) (Int.toNat (((a0.2.length : Nat) : Int) - 0) + 1) (([] : List (Int)), 0))

theorem C61 (a0 : (List (Int × Int × Int)) × List (Int × Int × Int)) (l0_1 : a0.1.length ≤ 9223372036854775807) (l0_2 : a0.2.length ≤ 9223372036854775807) (hn : a0.2.length ≤ 96) : Con Tryz.prog 61 [(.a [(.s 0 0 a0.1.length 3), (.s 1 0 a0.2.length 3)])] [(.live false true (flat c27 a0.1)), (.live false true (flat c85 a0.2))] (.s 2 0 (F61 a0).length 1) [(.live true true (flat c3 (F61 a0)))] := by
  refine con_s Tryz.func61 (by kernel_rfl) fun cx hcx => ?_
  have e := Eq.refl (F61 a0); conv at e => rhs; simp only [F61]
  rw [e]
  refine en [] [.slot 3 1] [1, 3, 4] [2, 3] hcx B61_0 (K61_0) (st61_0 a0 (flat c3 ([] : List (Int))) 0 0) (Int.toNat (((a0.2.length : Nat) : Int) - 0) + 1) (by kernel_rfl) ?_
  exact L61_0 a0 l0_1 l0_2 hn hcx (Int.toNat (((a0.2.length : Nat) : Int) - 0) + 1) ([] : List (Int)) 0 (by refine ⟨?_, ?_, ?_⟩ <;> (try simp only [List.length_append, List.length_cons, List.length_nil, Int.toNat_zero]) <;> first | omega | assumption | simp) (by (try simp only [List.length_append, List.length_cons, List.length_nil, Int.toNat_zero]); omega)

noncomputable def B29_0 : Code := (loopAtD [1, 1, 1, 1, 1, 0, 1] [] (bodyOf Tryz.f29) []).1
noncomputable def K29_0 : List K := (loopAtD [1, 1, 1, 1, 1, 0, 1] [] (bodyOf Tryz.f29) []).2

def st29_0 (a0 : (List (Int × Int × Int)) × List (Int × Int × Int)) (a1 : Int) (v1 : Int) (v2 : Int) (v3 : Int) : LS := ⟨slN 38 [(1, (iv a1)), (2, (.p 2 0)), (7, (iv v1)), (8, (iv v2)), (9, (iv v3))], [(.live false true (flat c27 a0.1)), (.live false true (flat c85 a0.2)), (.live true false [(.s 0 0 a0.1.length 3), (.s 1 0 a0.2.length 3)])]⟩

def S29_0 (a0 : (List (Int × Int × Int)) × List (Int × Int × Int)) (a1 : Int) : Int × Int × Int → (Int × Int × Int) ⊕ (Int × Int)
  | (v1, v2, v3) =>
   (bif (decide ((v3 : Int) < a1)) then
    (.inl ((W (v1 * 4)), (W (v2 * 16)), (v3 + 1)))
   else
    (.inr ((W ((W (((a0.2.length : Nat) : Int) * ((a0.2.length : Nat) : Int))) * (W (v1 + v2)))), 0)))

set_option maxHeartbeats 4000000 in
theorem L29_0 (a0 : (List (Int × Int × Int)) × List (Int × Int × Int)) (a1 : Int) (l0_1 : a0.1.length ≤ 9223372036854775807) (l0_2 : a0.2.length ≤ 9223372036854775807) {cx : Cx} (hcx : cx.base = 2) : ∀ (n : Nat) (v1 : Int) (v2 : Int) (v3 : Int), (0 ≤ v3) ∧ (a1 ≤ 2) → Int.toNat (a1 - v3) < n → Aw.Good Tryz.prog none 9 (bodyPost Tryz.prog Tryz.f29 (RR cx (.t (k2 (loopF (S29_0 a0 a1) n (v1, v2, v3)))) [] [])) cx [] (.l B29_0 n :: K29_0) (st29_0 a0 a1 v1 v2 v3) := by
  intro n
  induction n with
  | zero => intro v1 v2 v3 hi hn; exact absurd hn (Nat.not_lt_zero _)
  | succ n ih =>
    intro v1 v2 v3 hi hn
    refine good_round ?_
    cases h0 : (decide ((v3 : Int) < a1)) with
    | true =>
     have q0 := of_decide_eq_true h0
     have e := Eq.refl (S29_0 a0 a1 (v1, v2, v3)); conv at e => rhs; simp only [S29_0, h0, cond_true, cond_false]
     rw [loopF_inl e]
     refine ba [.d h0] [] [1, 2, 7, 8, 9] [2] hcx (m := n) B29_0 (K29_0) (st29_0 a0 a1 (W (v1 * 4)) (W (v2 * 16)) (W (v3 + 1))) (by kernel_rfl) ?_
     have z0 : (W (v3 + 1)) = (v3 + 1) := W_eq (by omega) (by omega)
     rw [z0]
     exact ih (W (v1 * 4)) (W (v2 * 16)) (v3 + 1) (by refine ⟨?_, ?_⟩ <;> (try simp only [List.length_append, List.length_cons, List.length_nil, Int.toNat_zero]) <;> first | omega | assumption | simp) (by (try simp only [List.length_append, List.length_cons, List.length_nil, Int.toNat_zero]); omega)
    | false =>
     have q0 := of_decide_eq_false h0
     have e := Eq.refl (S29_0 a0 a1 (v1, v2, v3)); conv at e => rhs; simp only [S29_0, h0, cond_true, cond_false]
     rw [loopF_s, e]
     exact rt [.d h0] [] [] hcx (by kernel_rfl)

def F29 (a0 : (List (Int × Int × Int)) × List (Int × Int × Int)) (a1 : Int) : Int × Int :=
  (bif (((F35 (a0.1, a0.2)) : Int) != 0) then
   (0, (F35 (a0.1, a0.2)))
  else
   (bif (!(F65 a1 0 2)) then
    (0, 1)
   else
    (loopF (S29_0 a0 a1) (Int.toNat (a1 - 0) + 1) (1, 1, 0))))

theorem C29 (a0 : (List (Int × Int × Int)) × List (Int × Int × Int)) (a1 : Int) (l0_1 : a0.1.length ≤ 9223372036854775807) (l0_2 : a0.2.length ≤ 9223372036854775807) : Con Tryz.prog 29 [(.a [(.s 0 0 a0.1.length 3), (.s 1 0 a0.2.length 3)]), (iv a1)] [(.live false true (flat c27 a0.1)), (.live false true (flat c85 a0.2))] (.t (k2 (F29 a0 a1))) [] := by
  refine con_s Tryz.func29 (by kernel_rfl) fun cx hcx => ?_
  try have hw1 := hwin_r h1
  let t0 : List (St Tryz.prog) := [.c [0, 1] (C35 (a0.1, a0.2) (by (try simp only [List.length_append, List.length_cons, List.length_nil, Int.toNat_zero]); omega) (by (try simp only [List.length_append, List.length_cons, List.length_nil, Int.toNat_zero]); omega))]
  cases h0 : (((F35 (a0.1, a0.2)) : Int) != 0) with
  | true =>
   have q0 := bne_iff_ne.1 h0
   try have hw1 := hwin_r h1
   have e := Eq.refl (F29 a0 a1); conv at e => rhs; simp only [F29, h0, cond_true, cond_false]
   rw [e]
   exact rt (t0 ++ [.d h0]) [] [] hcx (by kernel_rfl)
  | false =>
   have q0 := bne_eq_false_iff_eq.1 h0
   try have hw1 := hwin_r h1
   let t1 : List (St Tryz.prog) := (t0 ++ [.d h0, .c [] (C65 a1 0 2)])
   cases h1 : (!(F65 a1 0 2)) with
   | true =>
    try have hw1 := hwin_r h1
    have e := Eq.refl (F29 a0 a1); conv at e => rhs; simp only [F29, h0, h1, cond_true, cond_false]
    rw [e]
    exact rt (t1 ++ [.d h1]) [] [] hcx (by kernel_rfl)
   | false =>
    try have hw1 := hwin_r h1
    have e := Eq.refl (F29 a0 a1); conv at e => rhs; simp only [F29, h0, h1, cond_true, cond_false]
    rw [e]
    refine en (t1 ++ [.d h1]) [] [1, 2, 7, 8, 9] [2] hcx B29_0 (K29_0) (st29_0 a0 a1 1 1 0) (Int.toNat (a1 - 0) + 1) (by kernel_rfl) ?_
    exact L29_0 a0 a1 l0_1 l0_2 hcx (Int.toNat (a1 - 0) + 1) 1 1 0 (by refine ⟨?_, ?_⟩ <;> (try simp only [List.length_append, List.length_cons, List.length_nil, Int.toNat_zero]) <;> first | omega | assumption | simp) (by (try simp only [List.length_append, List.length_cons, List.length_nil, Int.toNat_zero]); omega)

def F30 : (List (Int × Int × Int)) × List (Int × Int × Int) :=
  (([(1, 0, 0), ((-1), 0, 0), (0, 1, 0), (0, (-1), 0), (0, 0, 1), (0, 0, (-1))] : List (Int × Int × Int)), ([(0, 2, 4), (2, 1, 4), (1, 3, 4), (3, 0, 4), (2, 0, 5), (1, 2, 5), (3, 1, 5), (0, 3, 5)] : List (Int × Int × Int)))

theorem C30 : Con Tryz.prog 30 [] [] (.a [(.s 0 0 F30.1.length 3), (.s 1 0 F30.2.length 3)]) [(.live true true (flat c27 F30.1)), (.live true true (flat c85 F30.2))] := by
  refine con_s Tryz.func30 (by kernel_rfl) fun cx hcx => ?_
  have e := Eq.refl F30; conv at e => rhs; simp only [F30]
  rw [e]
  exact rt [] [.sym 1 true, .sym 2 true] [1, 2] hcx (by kernel_rfl)

def F9 (a0 : (List (Int × Int × Int)) × List (Int × Int × Int)) (a1 : Int) : Bool :=
  (bif (decide ((((a0.1.length : Nat) : Int) : Int) > 200)) then
   true
  else
   (bif (decide ((((a0.2.length : Nat) : Int) : Int) > 200)) then
    true
   else
    (bif (((F29 (a0.1, a0.2) a1).2 : Int) == 0) then
     (decide (((F29 (a0.1, a0.2) a1).1 : Int) > 20000))
    else
     false)))

theorem C9 (a0 : (List (Int × Int × Int)) × List (Int × Int × Int)) (a1 : Int) (l0_1 : a0.1.length ≤ 9223372036854775807) (l0_2 : a0.2.length ≤ 9223372036854775807) : Con Tryz.prog 9 [(.a [(.s 0 0 a0.1.length 3), (.s 1 0 a0.2.length 3)]), (iv a1)] [(.live false true (flat c27 a0.1)), (.live false true (flat c85 a0.2))] (.v (.bool (F9 a0 a1))) [] := by
  refine con_s Tryz.func9 (by kernel_rfl) fun cx hcx => ?_
  cases h0 : (decide ((((a0.1.length : Nat) : Int) : Int) > 200)) with
  | true =>
   have q0 := of_decide_eq_true h0
   have e := Eq.refl (F9 a0 a1); conv at e => rhs; simp only [F9, h0, cond_true, cond_false]
   rw [e]
   exact rt [.d h0] [] [] hcx (by kernel_rfl)
  | false =>
   have q0 := of_decide_eq_false h0
   let t1 : List (St Tryz.prog) := [.d h0]
   cases h1 : (decide ((((a0.2.length : Nat) : Int) : Int) > 200)) with
   | true =>
    have q1 := of_decide_eq_true h1
    have e := Eq.refl (F9 a0 a1); conv at e => rhs; simp only [F9, h0, h1, cond_true, cond_false]
    rw [e]
    exact rt (t1 ++ [.d h1]) [] [] hcx (by kernel_rfl)
   | false =>
    have q1 := of_decide_eq_false h1
    let t2 : List (St Tryz.prog) := (t1 ++ [.d h1, .c [0, 1] (C29 (a0.1, a0.2) a1 (by (try simp only [List.length_append, List.length_cons, List.length_nil, Int.toNat_zero]); omega) (by (try simp only [List.length_append, List.length_cons, List.length_nil, Int.toNat_zero]); omega))])
    cases h2 : (((F29 (a0.1, a0.2) a1).2 : Int) == 0) with
    | true =>
     have q2 := eq_of_beq h2
     have e := Eq.refl (F9 a0 a1); conv at e => rhs; simp only [F9, h0, h1, h2, cond_true, cond_false]
     rw [e]
     exact rt (t2 ++ [.d h2]) [] [] hcx (by kernel_rfl)
    | false =>
     have q2 := ne_of_beq_false h2
     have e := Eq.refl (F9 a0 a1); conv at e => rhs; simp only [F9, h0, h1, h2, cond_true, cond_false]
     rw [e]
     exact rt (t2 ++ [.d h2]) [] [] hcx (by kernel_rfl)

end Go.Proofs.YthpgabaeefifbaaGreat

namespace Go.Proofs.YthpgabaeefifbaaGreat
open Go.Proofs Go.Aw Go.RowKit
set_option maxRecDepth 100000
set_option linter.unusedVariables false
set_option linter.unusedSimpArgs false

/-! ### Panels see each other: the spans are above 0 -/
theorem of1_ge {s n : Int} (hs : s = 1 ∨ s = 2 ∨ s = 4 ∨ s = 8) (h1 : 1 ≤ n) (h2 : n ≤ 1099511627776) : 1 ≤ (of1 s n).1 := by
  unfold of1
  rw [if_neg (by omega)]
  unfold inv
  have hN : 1099511627776 ≤ NN s := by rcases hs with rfl | rfl | rfl | rfl <;> decide
  have hb := NN_bd hs
  obtain ⟨q1, q2, q3⟩ := quo_bd hb.1 h1
  have hq : 1 ≤ NN s / n := Int.le_ediv_of_mul_le (by omega) (by omega)
  have hr := rtSpan (n := NN s / n) q1 (by omega)
  exact hr.ge (by omega) (by omega)
theorem fa3_pos {p c q : PN} {d : Int} (hp : vp p = 0) (hd : 0 ≤ d ∧ d ≤ 3) (hc : c ∈ cutL d.toNat p) : 1 ≤ fa3 c q := by
  obtain ⟨g1, g2, g3⟩ := fa3_ge c q
  obtain ⟨hb, hn⟩ := vp_ok hp
  have h := nn_far c q.1 g1 g2 g3
  rw [nrm_in hb hd hc] at h
  rcases Int.lt_or_le (fa3 c q) 1 with h' | h'
  · have h0 : 0 ≤ fa3 c q := Int.le_trans (dt_self _) g1
    have : fa3 c q = 0 := by omega
    rw [this] at h; omega
  · exact h'
theorem sum_ge {α : Type} {g : α → Int} : ∀ (l : List α), (∀ c ∈ l, 1 ≤ g c) → ((l.length : Nat) : Int) ≤ (l.map g).sum
  | [], _ => by simp
  | c :: l, h => by
    have h1 := h c List.mem_cons_self
    have h2 := sum_ge l (fun c hc => h c (List.mem_cons_of_mem _ hc))
    simp only [List.map_cons, List.sum_cons, List.length_cons]; omega
theorem div_ge {v n : Int} (hn : 1 ≤ n) (h : n ≤ v) : 1 ≤ v / n := Int.le_ediv_of_mul_le (by omega) (by omega)
theorem bet_pos {p q : PN} {d : Int} (hp : vp p = 0) (hq : bdP 5000 q) (hd : 0 ≤ d ∧ d ≤ 3) : 1 ≤ (betS p q d).1 := by
  have hlen := cnt_len hd p
  have hc := cnt_in d
  unfold betS avg
  rw [accS_eq]
  simp only [Int.zero_add]
  refine div_ge (by omega) ?_
  rw [← hlen]
  refine sum_ge _ (fun c hcm => ?_)
  have hcb := (cutL_in (vp_ok hp).1 hd hcm).mono (show (512 : Int) ≤ 5000 by omega)
  have := fa3_bd hcb hq
  exact of1_ge (sc_in d) (fa3_pos hp hd hcm) (by omega)
def okP (a : Int × Int) : Prop := 1 ≤ a.1 ∧ a.1 ≤ a.2 ∧ a.2 ≤ 536870913
theorem bet_okP {p q : PN} {d : Int} (hp : vp p = 0) (hq : bdP 5000 q) (hd : 0 ≤ d ∧ d ≤ 3) : okP (betS p q d) := by
  have h1 := bet_pos hp hq hd
  have h2 := bet_ok (q := q) hp hd
  unfold okE at h2
  exact ⟨h1, h2.2.1, h2.2.2⟩
theorem Between_f {p q : PN} {d : Int} (h : pk p q d = 0) : F42 p q d = (betS p (tmP (sc d) q) d, 0) := by
  unfold F42
  rw [pair_eq, h]
  obtain ⟨h1, h2, h3⟩ := pk_ok h
  have hs := sc_bd d
  have hq := (vp_ok h2).1
  have hq' := hq.mono (show (64 : Int) ≤ 4096 by omega)
  have hd : 0 ≤ d ∧ d ≤ 3 := by omega
  have e1 := bet_f h1 (tmP_bd hs hq) hd
  unfold tmP at e1 ⊢
  rw [sc_f hd, tm_f hs hq'.1, tm_f hs hq'.2.1, tm_f hs hq'.2.2, e1]; rfl
theorem Between_okP {p q : PN} {d : Int} (h : pk p q d = 0) : (F42 p q d).2 = 0 ∧ okP (F42 p q d).1 := by
  rw [Between_f h]
  obtain ⟨h1, h2, h3⟩ := pk_ok h
  exact ⟨rfl, bet_okP h1 (tmP_bd (sc_bd d) (vp_ok h2).1) (by omega)⟩
theorem Mutual_okP {p q : PN} {d : Int} (h : pk p q d = 0) : (F49 p q d).2 = 0 ∧ okP (F49 p q d).1 := by
  rw [Mutual_f]
  obtain ⟨h1, h2, h3⟩ := pk_ok h
  have hd : 0 ≤ d ∧ d ≤ 3 := by omega
  unfold mutV
  rw [if_pos h]
  refine ⟨rfl, ?_⟩
  have hl := mutL_len (p := p) (q := q) hd
  have hc := cnt_in d
  have hpos : ∀ a ∈ mutL p q d, okP a := by
    intro a ha
    obtain ⟨b, hb, rfl⟩ := List.mem_map.1 ha
    exact bet_okP h1 ((cutL_in (vp_ok h2).1 hd hb).mono (by omega)) hd
  have hs1 : sc d * sc d ≤ ((mutL p q d).map (·.1)).sum := by rw [← hl]; exact sum_ge _ (fun a ha => (hpos a ha).1)
  have key : ∀ l : List (Int × Int), (∀ a ∈ l, okP a) → (l.map (·.1)).sum ≤ (l.map (·.2)).sum ∧ (l.map (·.2)).sum ≤ 536870913 * (l.length : Nat) := by
    intro l
    induction l with
    | nil => intro _; simp
    | cons c l ih =>
      intro h
      obtain ⟨a1, a2, a3⟩ := h c List.mem_cons_self
      have h2 := ih (fun c hc => h c (List.mem_cons_of_mem _ hc))
      simp only [List.map_cons, List.sum_cons, List.length_cons]; omega
  have hk := key _ hpos
  rw [hl] at hk
  rw [sums_eq]
  unfold avg okP
  simp only [Int.zero_add]
  generalize ((mutL p q d).map (·.1)).sum = x at *
  generalize ((mutL p q d).map (·.2)).sum = y at *
  rcases hc with e | e | e | e <;> rw [e] at hs1 hk ⊢ <;> omega
/-! ### The panels of a valid mesh are valid -/
theorem pts_bd (m : ME) : ∀ (n i : Nat) (v : List (P3 × Bool)), m.1.length - i < n → loopF (S67_0 m) n (v, (i : Int)) = 0 → ∀ j, i ≤ j → j < m.1.length → bd 64 (m.1.getD j default) := by
  intro n
  induction n with
  | zero => intro i v h; omega
  | succ n ih =>
    intro i v hn h j h1 h2
    have hw : ((i : Nat) : Int) < ((m.1.length : Nat) : Int) := by omega
    cases hr : F108 (m.1.getD i default) 64 with
    | false =>
      have e1 : S67_0 m (v, (i : Int)) = .inr 1 := by
        simp only [S67_0]; rw [decide_eq_true hw, cond_true, Int.toNat_natCast, hr]; rfl
      rw [loopF_inr e1] at h; exact absurd h (by decide)
    | true =>
      cases hg : mget v (m.1.getD i default) false with
      | true =>
        have e1 : S67_0 m (v, (i : Int)) = .inr 1 := by
          simp only [S67_0]; rw [decide_eq_true hw, cond_true, Int.toNat_natCast, hr, hg]; rfl
        rw [loopF_inr e1] at h; exact absurd h (by decide)
      | false =>
        have e1 : S67_0 m (v, (i : Int)) = .inl (mput v (m.1.getD i default) true, ((i + 1 : Nat) : Int)) := by
          simp only [S67_0]; rw [decide_eq_true hw, cond_true, Int.toNat_natCast, hr, hg]; rfl
        rw [loopF_inl e1] at h
        by_cases hj : j = i
        · subst hj
          classical
          rw [inRange_eq] at hr
          exact of_decide_eq_true hr
        · exact ih (i + 1) _ (by omega) h j (by omega) h2
theorem vld_pts {m : ME} (h : F32 m = 0) : ∀ j, j < m.1.length → bd 64 (m.1.getD j default) := by
  obtain ⟨_, _, _, h4, _⟩ := val_parts h
  exact fun j hj => pts_bd m _ 0 [] (by omega) h4 j (Nat.zero_le _) hj
theorem vld_pan {m : ME} (h : F32 m = 0) : ∀ c ∈ m.2, vp (F110 m c) = 0 := by
  intro c hc
  obtain ⟨i, hi⟩ := List.getElem?_of_mem hc
  obtain ⟨hlt, _⟩ := List.getElem?_eq_some_iff.1 hi
  have hpt := vld_pts h
  obtain ⟨h64, _, _, _, hf⟩ := val_parts h
  have hfc := hf (i : Int) (by omega) (by omega)
  rw [getD_of hi] at hfc
  have hin : inF m.1.length c := face_in (m := m) (by rw [hfc]; rfl) h64
  have hb : bdP 64 (F110 m c) := ⟨hpt _ (by have := hin.1; omega), hpt _ (by have := hin.2.1; omega), hpt _ (by have := hin.2.2; omega)⟩
  unfold F68 at hfc
  have hw : W (((m.1.length : Nat) : Int) - 1) = (m.1.length : Int) - 1 := W_eq (by omega) (by omega)
  have fr : ∀ x : Int, 0 ≤ x ∧ x < (m.1.length : Int) → (!F66 x 0 (W (((m.1.length : Nat) : Int) - 1))) = false := by
    intro x hx
    unfold F66
    rw [hw, decide_eq_true hx.1, decide_eq_true (show x ≤ (m.1.length : Int) - 1 by omega)]; rfl
  rw [fr _ hin.1, fr _ hin.2.1, fr _ hin.2.2, cond_false, cond_false, cond_false, show F109 (F110 (m.1, m.2) c) = nrm (F110 m c) from nrm_s hb] at hfc
  unfold vp
  rw [if_pos hb]
  generalize nrm (F110 m c) = q at hfc ⊢
  by_cases hz : q.1 = 0 ∧ q.2.1 = 0 ∧ q.2.2 = 0
  · rw [hz.1, hz.2.1, hz.2.2] at hfc; exact absurd hfc (by decide)
  · rw [if_neg hz]
theorem vld_pk {m : ME} (h : F32 m = 0) {d : Int} (hd : 0 ≤ d ∧ d ≤ 2) {p q : PN} (hp : p ∈ m.2.map (F110 m)) (hq : q ∈ m.2.map (F110 m)) : pk p q d = 0 := by
  obtain ⟨a, ha, rfl⟩ := List.mem_map.1 hp
  obtain ⟨b, hb, rfl⟩ := List.mem_map.1 hq
  unfold pk
  rw [if_pos (vld_pan h a ha), if_pos (vld_pan h b hb), if_pos hd]

end Go.Proofs.YthpgabaeefifbaaGreat

namespace Go.Proofs.YthpgabaeefifbaaGreat
open Go.Proofs Go.Aw Go.RowKit
set_option maxRecDepth 100000
set_option linter.unusedVariables false
set_option linter.unusedSimpArgs false

theorem row_im {α : Type} {n : Nat} {t : List (List α)} (h : ∀ r ∈ t, r.length = n) (j : Int) : (0 ≤ j ∧ j < ((t.length : Nat) : Int)) → (t.getD (Int.toNat j) default).length = n := fun g => by
  have hlt : Int.toNat j < t.length := by omega
  rw [List.getD_eq_getElem?_getD, List.getElem?_eq_getElem hlt, Option.getD_some]
  exact h _ (List.getElem_mem hlt)
theorem row_le {α : Type} {n : Nat} {t : List (List α)} (h : ∀ r ∈ t, r.length ≤ n) (j : Int) : (0 ≤ j ∧ j < ((t.length : Nat) : Int)) → (t.getD (Int.toNat j) default).length ≤ n := fun g => by
  have hlt : Int.toNat j < t.length := by omega
  rw [List.getD_eq_getElem?_getD, List.getElem?_eq_getElem hlt, Option.getD_some]
  exact h _ (List.getElem_mem hlt)

noncomputable def B90_L_L_0 : Code := (loopAtD [1, 1, 0, 1] [] (bodyOf Tryz.f90) []).1
noncomputable def K90_L_L_0 : List K := (loopAtD [1, 1, 0, 1] [] (bodyOf Tryz.f90) []).2

def st90_L_L_0 (a0 : List (Int × Int)) (a1 : List (Int)) (v2c : List SV) (v2n : Nat) (v3 : Int) : LS := ⟨slN 40 [(1, (.s 1 0 a1.length 1)), (4, (.p 2 0)), (6, (.s 3 0 v2n 2)), (11, (.s 0 0 a0.length 2)), (12, (iv ((a0.length : Nat) : Int))), (13, (iv v3))], [(.live false true (flat c41 a0)), (.live false true (flat c3 a1)), (.live true false [(iv 0), (iv 0)]), (.live true true v2c)]⟩

def S90_L_L_0 (a0 : List (Int × Int)) (a1 : List (Int)) : (List (Int × Int)) × Int → ((List (Int × Int)) × Int) ⊕ ((Int × Int) × Int)
  | (v2, v3) =>
   (bif (decide ((v3 : Int) < ((a0.length : Nat) : Int))) then
    (bif (((F125 (a0.getD (Int.toNat v3) default) (a1.getD (Int.toNat v3) default)).2 : Int) != 0) then
     (.inr ((0, 0), (F125 (a0.getD (Int.toNat v3) default) (a1.getD (Int.toNat v3) default)).2))
    else
     (.inl ((v2 ++ [(F125 (a0.getD (Int.toNat v3) default) (a1.getD (Int.toNat v3) default)).1]), (v3 + 1))))
   else
    (.inr ((F126_L v2).1, (F126_L v2).2)))

set_option maxHeartbeats 4000000 in
theorem L90_L_L_0 (a0 : List (Int × Int)) (a1 : List (Int)) (l0 : a0.length ≤ 9223372036854775807) (l1 : a1.length ≤ 9223372036854775807) (hl : a0.length ≤ a1.length) (hn : a0.length ≤ 9216) {cx : Cx} (hcx : cx.base = 2) : ∀ (n : Nat) (v2 : List (Int × Int)) (v3 : Int), (0 ≤ v3) ∧ (v2.length = Int.toNat v3) ∧ (v3 ≤ a0.length) → Int.toNat (((a0.length : Nat) : Int) - v3) < n → Aw.Good Tryz.prog none 9 (bodyPost Tryz.prog Tryz.f90 (RR cx (.t [(.a (k2 (loopF (S90_L_L_0 a0 a1) n (v2, v3)).1)), (iv (loopF (S90_L_L_0 a0 a1) n (v2, v3)).2)]) [] [])) cx [] (.l B90_L_L_0 n :: K90_L_L_0) (st90_L_L_0 a0 a1 (flat c41 v2) v2.length v3) := by
  intro n
  induction n with
  | zero => intro v2 v3 hi hn; exact absurd hn (Nat.not_lt_zero _)
  | succ n ih =>
    intro v2 v3 hi hn
    refine good_round ?_
    cases h0 : (decide ((v3 : Int) < ((a0.length : Nat) : Int))) with
    | true =>
     have q0 := of_decide_eq_true h0
     let t1 : List (St Tryz.prog) := [.d h0, .i v3 (a0.length), .L c41_len a0 v3 0 2, .i v3 (a1.length), .L c3_len a1 v3 0 1, .c [] (C125 (a0.getD (Int.toNat v3) default) (a1.getD (Int.toNat v3) default))]
     cases h1 : (((F125 (a0.getD (Int.toNat v3) default) (a1.getD (Int.toNat v3) default)).2 : Int) != 0) with
     | true =>
      have q1 := bne_iff_ne.1 h1
      have e := Eq.refl (S90_L_L_0 a0 a1 (v2, v3)); conv at e => rhs; simp only [S90_L_L_0, h0, h1, cond_true, cond_false]
      rw [loopF_s, e]
      exact rt (t1 ++ [.d h1]) [] [] hcx (by kernel_rfl)
     | false =>
      have q1 := bne_eq_false_iff_eq.1 h1
      have e := Eq.refl (S90_L_L_0 a0 a1 (v2, v3)); conv at e => rhs; simp only [S90_L_L_0, h0, h1, cond_true, cond_false]
      rw [loopF_inl e]
      refine ba (t1 ++ [.d h1, .p (show ((flat c41 v2).length = v2.length * 2 ∧ v2.length + 1 ≤ 2 ^ 40 ∧ (v2.length + 1) * 16 ≤ 2 ^ 47) from app_ok c41_len (by omega) (by omega))]) [] [1, 4, 6, 11, 12, 13] [2, 7] hcx (m := n) B90_L_L_0 (K90_L_L_0) (st90_L_L_0 a0 a1 (flat c41 v2 ++ (k2 (F125 (a0.getD (Int.toNat v3) default) (a1.getD (Int.toNat v3) default)).1)) (v2.length + 1) (W (v3 + 1))) (by kernel_rfl) ?_
      have z0 : (W (v3 + 1)) = (v3 + 1) := W_eq (by omega) (by omega)
      have z1 : (flat c41 v2 ++ (k2 (F125 (a0.getD (Int.toNat v3) default) (a1.getD (Int.toNat v3) default)).1)) = (flat c41 (v2 ++ [(F125 (a0.getD (Int.toNat v3) default) (a1.getD (Int.toNat v3) default)).1])) := (flat_append (c := c41) (l := v2) (m := [(F125 (a0.getD (Int.toNat v3) default) (a1.getD (Int.toNat v3) default)).1])).symm
      have z2 : (v2.length + 1) = (v2 ++ [(F125 (a0.getD (Int.toNat v3) default) (a1.getD (Int.toNat v3) default)).1]).length := len_app v2 [(F125 (a0.getD (Int.toNat v3) default) (a1.getD (Int.toNat v3) default)).1] rfl
      rw [z0, z1, z2]
      exact ih (v2 ++ [(F125 (a0.getD (Int.toNat v3) default) (a1.getD (Int.toNat v3) default)).1]) (v3 + 1) (by refine ⟨?_, ?_, ?_⟩ <;> (try simp only [List.length_append, List.length_cons, List.length_nil, Int.toNat_zero]) <;> first | omega | assumption | simp) (by (try simp only [List.length_append, List.length_cons, List.length_nil, Int.toNat_zero]); omega)
    | false =>
     have q0 := of_decide_eq_false h0
     have e := Eq.refl (S90_L_L_0 a0 a1 (v2, v3)); conv at e => rhs; simp only [S90_L_L_0, h0, cond_true, cond_false]
     rw [loopF_s, e]
     exact rt [.d h0, .c [3] (C126_L v2 (by (try simp only [List.length_append, List.length_cons, List.length_nil, Int.toNat_zero]); omega))] [] [] hcx (by kernel_rfl)

def F90_L_L (a0 : List (Int × Int)) (a1 : List (Int)) : (Int × Int) × Int :=
  (loopF (S90_L_L_0 a0 a1) (Int.toNat (((a0.length : Nat) : Int) - 0) + 1) (([] : List (Int × Int)), 0))

theorem C90_L_L (a0 : List (Int × Int)) (a1 : List (Int)) (l0 : a0.length ≤ 9223372036854775807) (l1 : a1.length ≤ 9223372036854775807) (hl : a0.length ≤ a1.length) (hn : a0.length ≤ 9216) : Con Tryz.prog 90 [(.s 0 0 a0.length 2), (.s 1 0 a1.length 1)] [(.live false true (flat c41 a0)), (.live false true (flat c3 a1))] (.t [(.a (k2 (F90_L_L a0 a1).1)), (iv (F90_L_L a0 a1).2)]) [] := by
  refine con_s Tryz.func90 (by kernel_rfl) fun cx hcx => ?_
  have e := Eq.refl (F90_L_L a0 a1); conv at e => rhs; simp only [F90_L_L]
  rw [e]
  refine en [] [.slot 6 2] [1, 4, 6, 11, 12, 13] [2, 3] hcx B90_L_L_0 (K90_L_L_0) (st90_L_L_0 a0 a1 (flat c41 ([] : List (Int × Int))) 0 0) (Int.toNat (((a0.length : Nat) : Int) - 0) + 1) (by kernel_rfl) ?_
  exact L90_L_L_0 a0 a1 l0 l1 hl hn hcx (Int.toNat (((a0.length : Nat) : Int) - 0) + 1) ([] : List (Int × Int)) 0 (by refine ⟨?_, ?_, ?_⟩ <;> (try simp only [List.length_append, List.length_cons, List.length_nil, Int.toNat_zero]) <;> first | omega | assumption | simp) (by (try simp only [List.length_append, List.length_cons, List.length_nil, Int.toNat_zero]); omega)

def c35 (x : List (Int × Int)) : List SV := [(.d (flat c41 x) x.length 2)]
theorem c35_len (x : List (Int × Int)) : (c35 x).length = 1 := rfl

noncomputable def B41_f42_1 : Code := (loopAtD [1, 1, 1, 1, 0, 1, 0, 1, 1, 0, 1, 1, 0, 1] [0] (bodyOf Tryz.f41) []).1
noncomputable def K41_f42_1 (m0 : Nat) : List K := (loopAtD [1, 1, 1, 1, 0, 1, 0, 1, 1, 0, 1, 1, 0, 1] [m0] (bodyOf Tryz.f41) []).2

def st41_f42_1 (a0 : (List (Int × Int × Int)) × List (Int × Int × Int)) (a1 : Int) (v10c : List SV) (v10n : Nat) (v11c : List SV) (v11n : Nat) (v12 : Int) (v13 : Int) (v14 : Int) (v15 : Int) (v16 : Int) (v17 : Int) (v18 : Int) (v19 : Int) (v20 : Int) (v21 : Int) (v22 : Int) : LS := ⟨slN 60 [(1, (iv a1)), (2, (.v (.func (.func 42) #[] #[]))), (8, (.s 2 0 (F86 (a0.1, a0.2)).1.length 9)), (10, (.s 3 0 v10n 1)), (12, (.p 4 0)), (13, (.s 5 0 v11n 2)), (26, (.s 2 0 (F86 (a0.1, a0.2)).1.length 9)), (27, (iv (((F86 (a0.1, a0.2)).1.length : Nat) : Int))), (28, (iv v12)), (32, (.s 2 0 (F86 (a0.1, a0.2)).1.length 9)), (33, (iv (((F86 (a0.1, a0.2)).1.length : Nat) : Int))), (34, (iv v13))], [(.live false true (flat c27 a0.1)), (.live false true (flat c85 a0.2)), (.live true true (flat c65 (F86 (a0.1, a0.2)).1)), (.live true true v10c), (.live true false [(iv v14), (iv v15), (iv v16), (iv v17), (iv v18), (iv v19), (iv v20), (iv v21), (iv v22)]), (.live true true v11c)]⟩

def S41_f42_1 (a0 : (List (Int × Int × Int)) × List (Int × Int × Int)) (a1 : Int) : (List (List (Int × Int))) × (List (Int × Int)) × Int × Int × Int × Int × Int × Int × Int × Int × Int × Int × Int → ((List (List (Int × Int))) × (List (Int × Int)) × Int × Int × Int × Int × Int × Int × Int × Int × Int × Int × Int) ⊕ (((List (List (Int × Int))) × Int) ⊕ ((List (List (Int × Int))) × Int))
  | (v10, v11, v12, v13, v14, v15, v16, v17, v18, v19, v20, v21, v22) =>
   (bif (decide ((v13 : Int) < (((F86 (a0.1, a0.2)).1.length : Nat) : Int))) then
    (bif (((F42 ((F86 (a0.1, a0.2)).1.getD (Int.toNat v13) default) ((v14, v15, v16), (v17, v18, v19), (v20, v21, v22)) a1).2 : Int) != 0) then
     (.inr (.inr (([] : List (List (Int × Int))), (F42 ((F86 (a0.1, a0.2)).1.getD (Int.toNat v13) default) ((v14, v15, v16), (v17, v18, v19), (v20, v21, v22)) a1).2)))
    else
     (.inl (v10, (v11 ++ [(F42 ((F86 (a0.1, a0.2)).1.getD (Int.toNat v13) default) ((v14, v15, v16), (v17, v18, v19), (v20, v21, v22)) a1).1]), v12, (v13 + 1), v14, v15, v16, v17, v18, v19, v20, v21, v22)))
   else
    (.inr (.inl ((v10 ++ [v11]), (v12 + 1)))))

noncomputable def B41_f42_0 : Code := (loopAtD [1, 1, 1, 1, 0, 1] [] (bodyOf Tryz.f41) []).1
noncomputable def K41_f42_0 : List K := (loopAtD [1, 1, 1, 1, 0, 1] [] (bodyOf Tryz.f41) []).2

def st41_f42_0 (a0 : (List (Int × Int × Int)) × List (Int × Int × Int)) (a1 : Int) (v8c : List SV) (v8n : Nat) (v9 : Int) : LS := ⟨slN 60 [(1, (iv a1)), (2, (.v (.func (.func 42) #[] #[]))), (8, (.s 2 0 (F86 (a0.1, a0.2)).1.length 9)), (10, (.s 3 0 v8n 1)), (26, (.s 2 0 (F86 (a0.1, a0.2)).1.length 9)), (27, (iv (((F86 (a0.1, a0.2)).1.length : Nat) : Int))), (28, (iv v9))], [(.live false true (flat c27 a0.1)), (.live false true (flat c85 a0.2)), (.live true true (flat c65 (F86 (a0.1, a0.2)).1)), (.live true true v8c)]⟩

def S41_f42_0 (a0 : (List (Int × Int × Int)) × List (Int × Int × Int)) (a1 : Int) : (List (List (Int × Int))) × Int → ((List (List (Int × Int))) × Int) ⊕ ((List (List (Int × Int))) × Int)
  | (v8, v9) =>
   (bif (decide ((v9 : Int) < (((F86 (a0.1, a0.2)).1.length : Nat) : Int))) then
    (loopF (S41_f42_1 a0 a1) (Int.toNat ((((F86 (a0.1, a0.2)).1.length : Nat) : Int) - 0) + 1) (v8, ([] : List (Int × Int)), v9, 0, ((F86 (a0.1, a0.2)).1.getD (Int.toNat v9) default).1.1, ((F86 (a0.1, a0.2)).1.getD (Int.toNat v9) default).1.2.1, ((F86 (a0.1, a0.2)).1.getD (Int.toNat v9) default).1.2.2, ((F86 (a0.1, a0.2)).1.getD (Int.toNat v9) default).2.1.1, ((F86 (a0.1, a0.2)).1.getD (Int.toNat v9) default).2.1.2.1, ((F86 (a0.1, a0.2)).1.getD (Int.toNat v9) default).2.1.2.2, ((F86 (a0.1, a0.2)).1.getD (Int.toNat v9) default).2.2.1, ((F86 (a0.1, a0.2)).1.getD (Int.toNat v9) default).2.2.2.1, ((F86 (a0.1, a0.2)).1.getD (Int.toNat v9) default).2.2.2.2))
   else
    (.inr (v8, 0)))

set_option maxHeartbeats 4000000 in
theorem L41_f42_1 (a0 : (List (Int × Int × Int)) × List (Int × Int × Int)) (a1 : Int) (l0_1 : a0.1.length ≤ 9223372036854775807) (l0_2 : a0.2.length ≤ 9223372036854775807) {cx : Cx} (hcx : cx.base = 2)
    (n0 : Nat) (g0 : ∀ (v8 : List (List (Int × Int))) (v9 : Int), (0 ≤ v9) ∧ (v8.length = Int.toNat v9) ∧ (v9 ≤ (F86 (a0.1, a0.2)).1.length) → Int.toNat ((((F86 (a0.1, a0.2)).1.length : Nat) : Int) - v9) < n0 → Aw.Good Tryz.prog none 9 (bodyPost Tryz.prog Tryz.f41 (RR cx (.t [(.s 2 0 (loopF (S41_f42_0 a0 a1) n0 (v8, v9)).1.length 1), (iv (loopF (S41_f42_0 a0 a1) n0 (v8, v9)).2)]) [(.live true true (flat c35 (loopF (S41_f42_0 a0 a1) n0 (v8, v9)).1))] [])) cx [] (.l B41_f42_0 n0 :: K41_f42_0) (st41_f42_0 a0 a1 (flat c35 v8) v8.length v9)) : ∀ (n : Nat) (v10 : List (List (Int × Int))) (v11 : List (Int × Int)) (v12 : Int) (v13 : Int) (v14 : Int) (v15 : Int) (v16 : Int) (v17 : Int) (v18 : Int) (v19 : Int) (v20 : Int) (v21 : Int) (v22 : Int), (0 ≤ v13) ∧ (v11.length = Int.toNat v13) ∧ (v13 ≤ (F86 (a0.1, a0.2)).1.length) ∧ (v10.length = Int.toNat v12) ∧ (0 ≤ v12) ∧ (v12 < (F86 (a0.1, a0.2)).1.length) ∧ ((0 ≤ v12)) ∧ ((v10.length = Int.toNat v12)) ∧ ((v12 ≤ (F86 (a0.1, a0.2)).1.length)) ∧ (v12 < (((F86 (a0.1, a0.2)).1.length : Nat) : Int)) ∧ (Int.toNat ((((F86 (a0.1, a0.2)).1.length : Nat) : Int) - v12) < n0 + 1) → Int.toNat ((((F86 (a0.1, a0.2)).1.length : Nat) : Int) - v13) < n → Aw.Good Tryz.prog none 9 (bodyPost Tryz.prog Tryz.f41 (RR cx (.t [(.s 2 0 (thenF (S41_f42_0 a0 a1) n0 (loopF (S41_f42_1 a0 a1) n (v10, v11, v12, v13, v14, v15, v16, v17, v18, v19, v20, v21, v22))).1.length 1), (iv (thenF (S41_f42_0 a0 a1) n0 (loopF (S41_f42_1 a0 a1) n (v10, v11, v12, v13, v14, v15, v16, v17, v18, v19, v20, v21, v22))).2)]) [(.live true true (flat c35 (thenF (S41_f42_0 a0 a1) n0 (loopF (S41_f42_1 a0 a1) n (v10, v11, v12, v13, v14, v15, v16, v17, v18, v19, v20, v21, v22))).1))] [])) cx [] (.l B41_f42_1 n :: K41_f42_1 n0) (st41_f42_1 a0 a1 (flat c35 v10) v10.length (flat c41 v11) v11.length v12 v13 v14 v15 v16 v17 v18 v19 v20 v21 v22) := by
  intro n
  induction n with
  | zero => intro v10 v11 v12 v13 v14 v15 v16 v17 v18 v19 v20 v21 v22 hi hn; exact absurd hn (Nat.not_lt_zero _)
  | succ n ih =>
    intro v10 v11 v12 v13 v14 v15 v16 v17 v18 v19 v20 v21 v22 hi hn
    refine good_round ?_
    have hpl := pan_len (a0.1, a0.2)
    cases h0 : (decide ((v13 : Int) < (((F86 (a0.1, a0.2)).1.length : Nat) : Int))) with
    | true =>
     have q0 := of_decide_eq_true h0
     let t1 : List (St Tryz.prog) := [.d h0, .i v13 ((F86 (a0.1, a0.2)).1.length), .L c65_len (F86 (a0.1, a0.2)).1 v13 0 9, .c [] (C42 ((F86 (a0.1, a0.2)).1.getD (Int.toNat v13) default) ((v14, v15, v16), (v17, v18, v19), (v20, v21, v22)) a1)]
     cases h1 : (((F42 ((F86 (a0.1, a0.2)).1.getD (Int.toNat v13) default) ((v14, v15, v16), (v17, v18, v19), (v20, v21, v22)) a1).2 : Int) != 0) with
     | true =>
      have q1 := bne_iff_ne.1 h1
      have e := Eq.refl (S41_f42_1 a0 a1 (v10, v11, v12, v13, v14, v15, v16, v17, v18, v19, v20, v21, v22)); conv at e => rhs; simp only [S41_f42_1, h0, h1, cond_true, cond_false]
      rw [loopF_s, e]
      exact rt (t1 ++ [.d h1]) [.slot 6 1] [8] hcx (by kernel_rfl)
     | false =>
      have q1 := bne_eq_false_iff_eq.1 h1
      have e := Eq.refl (S41_f42_1 a0 a1 (v10, v11, v12, v13, v14, v15, v16, v17, v18, v19, v20, v21, v22)); conv at e => rhs; simp only [S41_f42_1, h0, h1, cond_true, cond_false]
      rw [loopF_inl e]
      refine ba (t1 ++ [.d h1, .p (show ((flat c41 v11).length = v11.length * 2 ∧ v11.length + 1 ≤ 2 ^ 40 ∧ (v11.length + 1) * 16 ≤ 2 ^ 47) from app_ok c41_len (by omega) (by omega))]) [] [1, 2, 8, 10, 12, 13, 26, 27, 28, 32, 33, 34] [2, 3, 4, 9] hcx (m := n) B41_f42_1 (K41_f42_1 n0) (st41_f42_1 a0 a1 (flat c35 v10) (v10.length) (flat c41 v11 ++ (k2 (F42 ((F86 (a0.1, a0.2)).1.getD (Int.toNat v13) default) ((v14, v15, v16), (v17, v18, v19), (v20, v21, v22)) a1).1)) (v11.length + 1) v12 (W (v13 + 1)) v14 v15 v16 v17 v18 v19 v20 v21 v22) (by kernel_rfl) ?_
      have z0 : (W (v13 + 1)) = (v13 + 1) := W_eq (by omega) (by omega)
      have z1 : (flat c41 v11 ++ (k2 (F42 ((F86 (a0.1, a0.2)).1.getD (Int.toNat v13) default) ((v14, v15, v16), (v17, v18, v19), (v20, v21, v22)) a1).1)) = (flat c41 (v11 ++ [(F42 ((F86 (a0.1, a0.2)).1.getD (Int.toNat v13) default) ((v14, v15, v16), (v17, v18, v19), (v20, v21, v22)) a1).1])) := (flat_append (c := c41) (l := v11) (m := [(F42 ((F86 (a0.1, a0.2)).1.getD (Int.toNat v13) default) ((v14, v15, v16), (v17, v18, v19), (v20, v21, v22)) a1).1])).symm
      have z2 : (v11.length + 1) = (v11 ++ [(F42 ((F86 (a0.1, a0.2)).1.getD (Int.toNat v13) default) ((v14, v15, v16), (v17, v18, v19), (v20, v21, v22)) a1).1]).length := len_app v11 [(F42 ((F86 (a0.1, a0.2)).1.getD (Int.toNat v13) default) ((v14, v15, v16), (v17, v18, v19), (v20, v21, v22)) a1).1] rfl
      rw [z0, z1, z2]
      exact ih v10 (v11 ++ [(F42 ((F86 (a0.1, a0.2)).1.getD (Int.toNat v13) default) ((v14, v15, v16), (v17, v18, v19), (v20, v21, v22)) a1).1]) v12 (v13 + 1) v14 v15 v16 v17 v18 v19 v20 v21 v22 (by refine ⟨?_, ?_, ?_, ?_, ?_, ?_, ?_, ?_, ?_, ?_, ?_⟩ <;> (try simp only [List.length_append, List.length_cons, List.length_nil, Int.toNat_zero]) <;> first | omega | assumption | exact hi.2.1 | exact hi.2.2.1 | exact hi.2.2.2.1 | exact hi.2.2.2.2.1 | exact hi.2.2.2.2.2.1 | exact hi.2.2.2.2.2.2.1 | exact hi.2.2.2.2.2.2.2.1 | exact hi.2.2.2.2.2.2.2.2.1 | exact hi.2.2.2.2.2.2.2.2.2.1 | exact hi.2.2.2.2.2.2.2.2.2.2.1 | simp) (by (try simp only [List.length_append, List.length_cons, List.length_nil, Int.toNat_zero]); omega)
    | false =>
     have q0 := of_decide_eq_false h0
     have e := Eq.refl (S41_f42_1 a0 a1 (v10, v11, v12, v13, v14, v15, v16, v17, v18, v19, v20, v21, v22)); conv at e => rhs; simp only [S41_f42_1, h0, cond_true, cond_false]
     rw [loopF_s, e]
     refine ba [.d h0, .p (show ((flat c41 v11)).length = v11.length * 2 from by simp [flat_lenc c41_len]), .p (show ((flat c35 v10).length = v10.length * 1 ∧ v10.length + 1 ≤ 2 ^ 40 ∧ (v10.length + 1) * 24 ≤ 2 ^ 47) from app_ok c35_len (by omega) (by omega))] [] [1, 2, 8, 10, 26, 27, 28] [2, 7] hcx (m := n0) B41_f42_0 (K41_f42_0) (st41_f42_0 a0 a1 (flat c35 v10 ++ [(.d (flat c41 v11) v11.length 2)]) (v10.length + 1) (W (v12 + 1))) (by kernel_rfl) ?_
     have z0 : (W (v12 + 1)) = (v12 + 1) := W_eq (by omega) (by omega)
     have z1 : (flat c35 v10 ++ [(.d (flat c41 v11) v11.length 2)]) = (flat c35 (v10 ++ [v11])) := (flat_append (c := c35) (l := v10) (m := [v11])).symm
     have z2 : (v10.length + 1) = (v10 ++ [v11]).length := len_app v10 [v11] rfl
     rw [z0, z1, z2]
     exact g0 (v10 ++ [v11]) (v12 + 1) (by refine ⟨?_, ?_, ?_⟩ <;> (try simp only [List.length_append, List.length_cons, List.length_nil, Int.toNat_zero]) <;> first | omega | assumption | simp) (by (try simp only [List.length_append, List.length_cons, List.length_nil, Int.toNat_zero]); omega)

set_option maxHeartbeats 4000000 in
theorem L41_f42_0 (a0 : (List (Int × Int × Int)) × List (Int × Int × Int)) (a1 : Int) (l0_1 : a0.1.length ≤ 9223372036854775807) (l0_2 : a0.2.length ≤ 9223372036854775807) {cx : Cx} (hcx : cx.base = 2) : ∀ (n : Nat) (v8 : List (List (Int × Int))) (v9 : Int), (0 ≤ v9) ∧ (v8.length = Int.toNat v9) ∧ (v9 ≤ (F86 (a0.1, a0.2)).1.length) → Int.toNat ((((F86 (a0.1, a0.2)).1.length : Nat) : Int) - v9) < n → Aw.Good Tryz.prog none 9 (bodyPost Tryz.prog Tryz.f41 (RR cx (.t [(.s 2 0 (loopF (S41_f42_0 a0 a1) n (v8, v9)).1.length 1), (iv (loopF (S41_f42_0 a0 a1) n (v8, v9)).2)]) [(.live true true (flat c35 (loopF (S41_f42_0 a0 a1) n (v8, v9)).1))] [])) cx [] (.l B41_f42_0 n :: K41_f42_0) (st41_f42_0 a0 a1 (flat c35 v8) v8.length v9) := by
  intro n
  induction n with
  | zero => intro v8 v9 hi hn; exact absurd hn (Nat.not_lt_zero _)
  | succ n ih =>
    intro v8 v9 hi hn
    refine good_round ?_
    have hpl := pan_len (a0.1, a0.2)
    cases h0 : (decide ((v9 : Int) < (((F86 (a0.1, a0.2)).1.length : Nat) : Int))) with
    | true =>
     have q0 := of_decide_eq_true h0
     have e := Eq.refl (S41_f42_0 a0 a1 (v8, v9)); conv at e => rhs; simp only [S41_f42_0, h0, cond_true, cond_false]
     rw [loopF_s, e]
     refine en [.d h0, .i v9 ((F86 (a0.1, a0.2)).1.length), .L c65_len (F86 (a0.1, a0.2)).1 v9 0 9] [.slot 13 2] [1, 2, 8, 10, 12, 13, 26, 27, 28, 32, 33, 34] [2, 3, 4, 5] hcx B41_f42_1 (K41_f42_1 n) (st41_f42_1 a0 a1 (flat c35 v8) (v8.length) (flat c41 ([] : List (Int × Int))) 0 v9 0 (((F86 (a0.1, a0.2)).1.getD (Int.toNat v9) default).1.1) (((F86 (a0.1, a0.2)).1.getD (Int.toNat v9) default).1.2.1) (((F86 (a0.1, a0.2)).1.getD (Int.toNat v9) default).1.2.2) (((F86 (a0.1, a0.2)).1.getD (Int.toNat v9) default).2.1.1) (((F86 (a0.1, a0.2)).1.getD (Int.toNat v9) default).2.1.2.1) (((F86 (a0.1, a0.2)).1.getD (Int.toNat v9) default).2.1.2.2) (((F86 (a0.1, a0.2)).1.getD (Int.toNat v9) default).2.2.1) (((F86 (a0.1, a0.2)).1.getD (Int.toNat v9) default).2.2.2.1) (((F86 (a0.1, a0.2)).1.getD (Int.toNat v9) default).2.2.2.2)) (Int.toNat ((((F86 (a0.1, a0.2)).1.length : Nat) : Int) - 0) + 1) (by kernel_rfl) ?_
     exact L41_f42_1 a0 a1 l0_1 l0_2 hcx n ih (Int.toNat ((((F86 (a0.1, a0.2)).1.length : Nat) : Int) - 0) + 1) v8 ([] : List (Int × Int)) v9 0 (((F86 (a0.1, a0.2)).1.getD (Int.toNat v9) default).1.1) (((F86 (a0.1, a0.2)).1.getD (Int.toNat v9) default).1.2.1) (((F86 (a0.1, a0.2)).1.getD (Int.toNat v9) default).1.2.2) (((F86 (a0.1, a0.2)).1.getD (Int.toNat v9) default).2.1.1) (((F86 (a0.1, a0.2)).1.getD (Int.toNat v9) default).2.1.2.1) (((F86 (a0.1, a0.2)).1.getD (Int.toNat v9) default).2.1.2.2) (((F86 (a0.1, a0.2)).1.getD (Int.toNat v9) default).2.2.1) (((F86 (a0.1, a0.2)).1.getD (Int.toNat v9) default).2.2.2.1) (((F86 (a0.1, a0.2)).1.getD (Int.toNat v9) default).2.2.2.2) (by refine ⟨?_, ?_, ?_, ?_, ?_, ?_, ?_, ?_, ?_, ?_, ?_⟩ <;> (try simp only [List.length_append, List.length_cons, List.length_nil, Int.toNat_zero]) <;> first | omega | assumption | exact hi.2.1 | exact hi.2.2.1 | exact hi.2.2.2.1 | exact hi.2.2.2.2.1 | exact hi.2.2.2.2.2.1 | exact hi.2.2.2.2.2.2.1 | exact hi.2.2.2.2.2.2.2.1 | exact hi.2.2.2.2.2.2.2.2.1 | exact hi.2.2.2.2.2.2.2.2.2.1 | exact hi.2.2.2.2.2.2.2.2.2.2.1 | simp) (by (try simp only [List.length_append, List.length_cons, List.length_nil, Int.toNat_zero]); omega)
    | false =>
     have q0 := of_decide_eq_false h0
     have e := Eq.refl (S41_f42_0 a0 a1 (v8, v9)); conv at e => rhs; simp only [S41_f42_0, h0, cond_true, cond_false]
     rw [loopF_s, e]
     exact rt [.d h0] [] [3] hcx (by kernel_rfl)

def F41_f42 (a0 : (List (Int × Int × Int)) × List (Int × Int × Int)) (a1 : Int) : (List (List (Int × Int))) × Int :=
  (bif (((F86 (a0.1, a0.2)).2 : Int) != 0) then
   (([] : List (List (Int × Int))), (F86 (a0.1, a0.2)).2)
  else
   (loopF (S41_f42_0 a0 a1) (Int.toNat ((((F86 (a0.1, a0.2)).1.length : Nat) : Int) - 0) + 1) (([] : List (List (Int × Int))), 0)))

theorem C41_f42 (a0 : (List (Int × Int × Int)) × List (Int × Int × Int)) (a1 : Int) (l0_1 : a0.1.length ≤ 9223372036854775807) (l0_2 : a0.2.length ≤ 9223372036854775807) : Con Tryz.prog 41 [(.a [(.s 0 0 a0.1.length 3), (.s 1 0 a0.2.length 3)]), (iv a1), (.v (.func (.func 42) #[] #[]))] [(.live false true (flat c27 a0.1)), (.live false true (flat c85 a0.2))] (.t [(.s 2 0 (F41_f42 a0 a1).1.length 1), (iv (F41_f42 a0 a1).2)]) [(.live true true (flat c35 (F41_f42 a0 a1).1))] := by
  refine con_s Tryz.func41 (by kernel_rfl) fun cx hcx => ?_
  have hpl := pan_len (a0.1, a0.2)
  let t0 : List (St Tryz.prog) := [.c [0, 1] (C86 (a0.1, a0.2) (by (try simp only [List.length_append, List.length_cons, List.length_nil, Int.toNat_zero]); omega) (by (try simp only [List.length_append, List.length_cons, List.length_nil, Int.toNat_zero]); omega))]
  cases h0 : (((F86 (a0.1, a0.2)).2 : Int) != 0) with
  | true =>
   have q0 := bne_iff_ne.1 h0
   have e := Eq.refl (F41_f42 a0 a1); conv at e => rhs; simp only [F41_f42, h0, cond_true, cond_false]
   rw [e]
   exact rt (t0 ++ [.d h0]) [.slot 6 1] [4] hcx (by kernel_rfl)
  | false =>
   have q0 := bne_eq_false_iff_eq.1 h0
   have e := Eq.refl (F41_f42 a0 a1); conv at e => rhs; simp only [F41_f42, h0, cond_true, cond_false]
   rw [e]
   refine en (t0 ++ [.d h0]) [.slot 10 1] [1, 2, 8, 10, 26, 27, 28] [3, 4] hcx B41_f42_0 (K41_f42_0) (st41_f42_0 a0 a1 (flat c35 ([] : List (List (Int × Int)))) 0 0) (Int.toNat ((((F86 (a0.1, a0.2)).1.length : Nat) : Int) - 0) + 1) (by kernel_rfl) ?_
   exact L41_f42_0 a0 a1 l0_1 l0_2 hcx (Int.toNat ((((F86 (a0.1, a0.2)).1.length : Nat) : Int) - 0) + 1) ([] : List (List (Int × Int))) 0 (by refine ⟨?_, ?_, ?_⟩ <;> (try simp only [List.length_append, List.length_cons, List.length_nil, Int.toNat_zero]) <;> first | omega | assumption | simp) (by (try simp only [List.length_append, List.length_cons, List.length_nil, Int.toNat_zero]); omega)

noncomputable def B41_f49_1 : Code := (loopAtD [1, 1, 1, 1, 0, 1, 0, 1, 1, 0, 1, 1, 0, 1] [0] (bodyOf Tryz.f41) []).1
noncomputable def K41_f49_1 (m0 : Nat) : List K := (loopAtD [1, 1, 1, 1, 0, 1, 0, 1, 1, 0, 1, 1, 0, 1] [m0] (bodyOf Tryz.f41) []).2

def st41_f49_1 (a0 : (List (Int × Int × Int)) × List (Int × Int × Int)) (a1 : Int) (v10c : List SV) (v10n : Nat) (v11c : List SV) (v11n : Nat) (v12 : Int) (v13 : Int) (v14 : Int) (v15 : Int) (v16 : Int) (v17 : Int) (v18 : Int) (v19 : Int) (v20 : Int) (v21 : Int) (v22 : Int) : LS := ⟨slN 60 [(1, (iv a1)), (2, (.v (.func (.func 49) #[] #[]))), (8, (.s 2 0 (F86 (a0.1, a0.2)).1.length 9)), (10, (.s 3 0 v10n 1)), (12, (.p 4 0)), (13, (.s 5 0 v11n 2)), (26, (.s 2 0 (F86 (a0.1, a0.2)).1.length 9)), (27, (iv (((F86 (a0.1, a0.2)).1.length : Nat) : Int))), (28, (iv v12)), (32, (.s 2 0 (F86 (a0.1, a0.2)).1.length 9)), (33, (iv (((F86 (a0.1, a0.2)).1.length : Nat) : Int))), (34, (iv v13))], [(.live false true (flat c27 a0.1)), (.live false true (flat c85 a0.2)), (.live true true (flat c65 (F86 (a0.1, a0.2)).1)), (.live true true v10c), (.live true false [(iv v14), (iv v15), (iv v16), (iv v17), (iv v18), (iv v19), (iv v20), (iv v21), (iv v22)]), (.live true true v11c)]⟩

def S41_f49_1 (a0 : (List (Int × Int × Int)) × List (Int × Int × Int)) (a1 : Int) : (List (List (Int × Int))) × (List (Int × Int)) × Int × Int × Int × Int × Int × Int × Int × Int × Int × Int × Int → ((List (List (Int × Int))) × (List (Int × Int)) × Int × Int × Int × Int × Int × Int × Int × Int × Int × Int × Int) ⊕ (((List (List (Int × Int))) × Int) ⊕ ((List (List (Int × Int))) × Int))
  | (v10, v11, v12, v13, v14, v15, v16, v17, v18, v19, v20, v21, v22) =>
   (bif (decide ((v13 : Int) < (((F86 (a0.1, a0.2)).1.length : Nat) : Int))) then
    (bif (((F49 ((F86 (a0.1, a0.2)).1.getD (Int.toNat v13) default) ((v14, v15, v16), (v17, v18, v19), (v20, v21, v22)) a1).2 : Int) != 0) then
     (.inr (.inr (([] : List (List (Int × Int))), (F49 ((F86 (a0.1, a0.2)).1.getD (Int.toNat v13) default) ((v14, v15, v16), (v17, v18, v19), (v20, v21, v22)) a1).2)))
    else
     (.inl (v10, (v11 ++ [(F49 ((F86 (a0.1, a0.2)).1.getD (Int.toNat v13) default) ((v14, v15, v16), (v17, v18, v19), (v20, v21, v22)) a1).1]), v12, (v13 + 1), v14, v15, v16, v17, v18, v19, v20, v21, v22)))
   else
    (.inr (.inl ((v10 ++ [v11]), (v12 + 1)))))

noncomputable def B41_f49_0 : Code := (loopAtD [1, 1, 1, 1, 0, 1] [] (bodyOf Tryz.f41) []).1
noncomputable def K41_f49_0 : List K := (loopAtD [1, 1, 1, 1, 0, 1] [] (bodyOf Tryz.f41) []).2

def st41_f49_0 (a0 : (List (Int × Int × Int)) × List (Int × Int × Int)) (a1 : Int) (v8c : List SV) (v8n : Nat) (v9 : Int) : LS := ⟨slN 60 [(1, (iv a1)), (2, (.v (.func (.func 49) #[] #[]))), (8, (.s 2 0 (F86 (a0.1, a0.2)).1.length 9)), (10, (.s 3 0 v8n 1)), (26, (.s 2 0 (F86 (a0.1, a0.2)).1.length 9)), (27, (iv (((F86 (a0.1, a0.2)).1.length : Nat) : Int))), (28, (iv v9))], [(.live false true (flat c27 a0.1)), (.live false true (flat c85 a0.2)), (.live true true (flat c65 (F86 (a0.1, a0.2)).1)), (.live true true v8c)]⟩

def S41_f49_0 (a0 : (List (Int × Int × Int)) × List (Int × Int × Int)) (a1 : Int) : (List (List (Int × Int))) × Int → ((List (List (Int × Int))) × Int) ⊕ ((List (List (Int × Int))) × Int)
  | (v8, v9) =>
   (bif (decide ((v9 : Int) < (((F86 (a0.1, a0.2)).1.length : Nat) : Int))) then
    (loopF (S41_f49_1 a0 a1) (Int.toNat ((((F86 (a0.1, a0.2)).1.length : Nat) : Int) - 0) + 1) (v8, ([] : List (Int × Int)), v9, 0, ((F86 (a0.1, a0.2)).1.getD (Int.toNat v9) default).1.1, ((F86 (a0.1, a0.2)).1.getD (Int.toNat v9) default).1.2.1, ((F86 (a0.1, a0.2)).1.getD (Int.toNat v9) default).1.2.2, ((F86 (a0.1, a0.2)).1.getD (Int.toNat v9) default).2.1.1, ((F86 (a0.1, a0.2)).1.getD (Int.toNat v9) default).2.1.2.1, ((F86 (a0.1, a0.2)).1.getD (Int.toNat v9) default).2.1.2.2, ((F86 (a0.1, a0.2)).1.getD (Int.toNat v9) default).2.2.1, ((F86 (a0.1, a0.2)).1.getD (Int.toNat v9) default).2.2.2.1, ((F86 (a0.1, a0.2)).1.getD (Int.toNat v9) default).2.2.2.2))
   else
    (.inr (v8, 0)))

set_option maxHeartbeats 4000000 in
theorem L41_f49_1 (a0 : (List (Int × Int × Int)) × List (Int × Int × Int)) (a1 : Int) (l0_1 : a0.1.length ≤ 9223372036854775807) (l0_2 : a0.2.length ≤ 9223372036854775807) {cx : Cx} (hcx : cx.base = 2)
    (n0 : Nat) (g0 : ∀ (v8 : List (List (Int × Int))) (v9 : Int), (0 ≤ v9) ∧ (v8.length = Int.toNat v9) ∧ (v9 ≤ (F86 (a0.1, a0.2)).1.length) → Int.toNat ((((F86 (a0.1, a0.2)).1.length : Nat) : Int) - v9) < n0 → Aw.Good Tryz.prog none 9 (bodyPost Tryz.prog Tryz.f41 (RR cx (.t [(.s 2 0 (loopF (S41_f49_0 a0 a1) n0 (v8, v9)).1.length 1), (iv (loopF (S41_f49_0 a0 a1) n0 (v8, v9)).2)]) [(.live true true (flat c35 (loopF (S41_f49_0 a0 a1) n0 (v8, v9)).1))] [])) cx [] (.l B41_f49_0 n0 :: K41_f49_0) (st41_f49_0 a0 a1 (flat c35 v8) v8.length v9)) : ∀ (n : Nat) (v10 : List (List (Int × Int))) (v11 : List (Int × Int)) (v12 : Int) (v13 : Int) (v14 : Int) (v15 : Int) (v16 : Int) (v17 : Int) (v18 : Int) (v19 : Int) (v20 : Int) (v21 : Int) (v22 : Int), (0 ≤ v13) ∧ (v11.length = Int.toNat v13) ∧ (v13 ≤ (F86 (a0.1, a0.2)).1.length) ∧ (v10.length = Int.toNat v12) ∧ (0 ≤ v12) ∧ (v12 < (F86 (a0.1, a0.2)).1.length) ∧ ((0 ≤ v12)) ∧ ((v10.length = Int.toNat v12)) ∧ ((v12 ≤ (F86 (a0.1, a0.2)).1.length)) ∧ (v12 < (((F86 (a0.1, a0.2)).1.length : Nat) : Int)) ∧ (Int.toNat ((((F86 (a0.1, a0.2)).1.length : Nat) : Int) - v12) < n0 + 1) → Int.toNat ((((F86 (a0.1, a0.2)).1.length : Nat) : Int) - v13) < n → Aw.Good Tryz.prog none 9 (bodyPost Tryz.prog Tryz.f41 (RR cx (.t [(.s 2 0 (thenF (S41_f49_0 a0 a1) n0 (loopF (S41_f49_1 a0 a1) n (v10, v11, v12, v13, v14, v15, v16, v17, v18, v19, v20, v21, v22))).1.length 1), (iv (thenF (S41_f49_0 a0 a1) n0 (loopF (S41_f49_1 a0 a1) n (v10, v11, v12, v13, v14, v15, v16, v17, v18, v19, v20, v21, v22))).2)]) [(.live true true (flat c35 (thenF (S41_f49_0 a0 a1) n0 (loopF (S41_f49_1 a0 a1) n (v10, v11, v12, v13, v14, v15, v16, v17, v18, v19, v20, v21, v22))).1))] [])) cx [] (.l B41_f49_1 n :: K41_f49_1 n0) (st41_f49_1 a0 a1 (flat c35 v10) v10.length (flat c41 v11) v11.length v12 v13 v14 v15 v16 v17 v18 v19 v20 v21 v22) := by
  intro n
  induction n with
  | zero => intro v10 v11 v12 v13 v14 v15 v16 v17 v18 v19 v20 v21 v22 hi hn; exact absurd hn (Nat.not_lt_zero _)
  | succ n ih =>
    intro v10 v11 v12 v13 v14 v15 v16 v17 v18 v19 v20 v21 v22 hi hn
    refine good_round ?_
    have hpl := pan_len (a0.1, a0.2)
    cases h0 : (decide ((v13 : Int) < (((F86 (a0.1, a0.2)).1.length : Nat) : Int))) with
    | true =>
     have q0 := of_decide_eq_true h0
     let t1 : List (St Tryz.prog) := [.d h0, .i v13 ((F86 (a0.1, a0.2)).1.length), .L c65_len (F86 (a0.1, a0.2)).1 v13 0 9, .c [] (C49 ((F86 (a0.1, a0.2)).1.getD (Int.toNat v13) default) ((v14, v15, v16), (v17, v18, v19), (v20, v21, v22)) a1)]
     cases h1 : (((F49 ((F86 (a0.1, a0.2)).1.getD (Int.toNat v13) default) ((v14, v15, v16), (v17, v18, v19), (v20, v21, v22)) a1).2 : Int) != 0) with
     | true =>
      have q1 := bne_iff_ne.1 h1
      have e := Eq.refl (S41_f49_1 a0 a1 (v10, v11, v12, v13, v14, v15, v16, v17, v18, v19, v20, v21, v22)); conv at e => rhs; simp only [S41_f49_1, h0, h1, cond_true, cond_false]
      rw [loopF_s, e]
      exact rt (t1 ++ [.d h1]) [.slot 6 1] [8] hcx (by kernel_rfl)
     | false =>
      have q1 := bne_eq_false_iff_eq.1 h1
      have e := Eq.refl (S41_f49_1 a0 a1 (v10, v11, v12, v13, v14, v15, v16, v17, v18, v19, v20, v21, v22)); conv at e => rhs; simp only [S41_f49_1, h0, h1, cond_true, cond_false]
      rw [loopF_inl e]
      refine ba (t1 ++ [.d h1, .p (show ((flat c41 v11).length = v11.length * 2 ∧ v11.length + 1 ≤ 2 ^ 40 ∧ (v11.length + 1) * 16 ≤ 2 ^ 47) from app_ok c41_len (by omega) (by omega))]) [] [1, 2, 8, 10, 12, 13, 26, 27, 28, 32, 33, 34] [2, 3, 4, 9] hcx (m := n) B41_f49_1 (K41_f49_1 n0) (st41_f49_1 a0 a1 (flat c35 v10) (v10.length) (flat c41 v11 ++ (k2 (F49 ((F86 (a0.1, a0.2)).1.getD (Int.toNat v13) default) ((v14, v15, v16), (v17, v18, v19), (v20, v21, v22)) a1).1)) (v11.length + 1) v12 (W (v13 + 1)) v14 v15 v16 v17 v18 v19 v20 v21 v22) (by kernel_rfl) ?_
      have z0 : (W (v13 + 1)) = (v13 + 1) := W_eq (by omega) (by omega)
      have z1 : (flat c41 v11 ++ (k2 (F49 ((F86 (a0.1, a0.2)).1.getD (Int.toNat v13) default) ((v14, v15, v16), (v17, v18, v19), (v20, v21, v22)) a1).1)) = (flat c41 (v11 ++ [(F49 ((F86 (a0.1, a0.2)).1.getD (Int.toNat v13) default) ((v14, v15, v16), (v17, v18, v19), (v20, v21, v22)) a1).1])) := (flat_append (c := c41) (l := v11) (m := [(F49 ((F86 (a0.1, a0.2)).1.getD (Int.toNat v13) default) ((v14, v15, v16), (v17, v18, v19), (v20, v21, v22)) a1).1])).symm
      have z2 : (v11.length + 1) = (v11 ++ [(F49 ((F86 (a0.1, a0.2)).1.getD (Int.toNat v13) default) ((v14, v15, v16), (v17, v18, v19), (v20, v21, v22)) a1).1]).length := len_app v11 [(F49 ((F86 (a0.1, a0.2)).1.getD (Int.toNat v13) default) ((v14, v15, v16), (v17, v18, v19), (v20, v21, v22)) a1).1] rfl
      rw [z0, z1, z2]
      exact ih v10 (v11 ++ [(F49 ((F86 (a0.1, a0.2)).1.getD (Int.toNat v13) default) ((v14, v15, v16), (v17, v18, v19), (v20, v21, v22)) a1).1]) v12 (v13 + 1) v14 v15 v16 v17 v18 v19 v20 v21 v22 (by refine ⟨?_, ?_, ?_, ?_, ?_, ?_, ?_, ?_, ?_, ?_, ?_⟩ <;> (try simp only [List.length_append, List.length_cons, List.length_nil, Int.toNat_zero]) <;> first | omega | assumption | exact hi.2.1 | exact hi.2.2.1 | exact hi.2.2.2.1 | exact hi.2.2.2.2.1 | exact hi.2.2.2.2.2.1 | exact hi.2.2.2.2.2.2.1 | exact hi.2.2.2.2.2.2.2.1 | exact hi.2.2.2.2.2.2.2.2.1 | exact hi.2.2.2.2.2.2.2.2.2.1 | exact hi.2.2.2.2.2.2.2.2.2.2.1 | simp) (by (try simp only [List.length_append, List.length_cons, List.length_nil, Int.toNat_zero]); omega)
    | false =>
     have q0 := of_decide_eq_false h0
     have e := Eq.refl (S41_f49_1 a0 a1 (v10, v11, v12, v13, v14, v15, v16, v17, v18, v19, v20, v21, v22)); conv at e => rhs; simp only [S41_f49_1, h0, cond_true, cond_false]
     rw [loopF_s, e]
     refine ba [.d h0, .p (show ((flat c41 v11)).length = v11.length * 2 from by simp [flat_lenc c41_len]), .p (show ((flat c35 v10).length = v10.length * 1 ∧ v10.length + 1 ≤ 2 ^ 40 ∧ (v10.length + 1) * 24 ≤ 2 ^ 47) from app_ok c35_len (by omega) (by omega))] [] [1, 2, 8, 10, 26, 27, 28] [2, 7] hcx (m := n0) B41_f49_0 (K41_f49_0) (st41_f49_0 a0 a1 (flat c35 v10 ++ [(.d (flat c41 v11) v11.length 2)]) (v10.length + 1) (W (v12 + 1))) (by kernel_rfl) ?_
     have z0 : (W (v12 + 1)) = (v12 + 1) := W_eq (by omega) (by omega)
     have z1 : (flat c35 v10 ++ [(.d (flat c41 v11) v11.length 2)]) = (flat c35 (v10 ++ [v11])) := (flat_append (c := c35) (l := v10) (m := [v11])).symm
     have z2 : (v10.length + 1) = (v10 ++ [v11]).length := len_app v10 [v11] rfl
     rw [z0, z1, z2]
     exact g0 (v10 ++ [v11]) (v12 + 1) (by refine ⟨?_, ?_, ?_⟩ <;> (try simp only [List.length_append, List.length_cons, List.length_nil, Int.toNat_zero]) <;> first | omega | assumption | simp) (by (try simp only [List.length_append, List.length_cons, List.length_nil, Int.toNat_zero]); omega)

set_option maxHeartbeats 4000000 in
theorem L41_f49_0 (a0 : (List (Int × Int × Int)) × List (Int × Int × Int)) (a1 : Int) (l0_1 : a0.1.length ≤ 9223372036854775807) (l0_2 : a0.2.length ≤ 9223372036854775807) {cx : Cx} (hcx : cx.base = 2) : ∀ (n : Nat) (v8 : List (List (Int × Int))) (v9 : Int), (0 ≤ v9) ∧ (v8.length = Int.toNat v9) ∧ (v9 ≤ (F86 (a0.1, a0.2)).1.length) → Int.toNat ((((F86 (a0.1, a0.2)).1.length : Nat) : Int) - v9) < n → Aw.Good Tryz.prog none 9 (bodyPost Tryz.prog Tryz.f41 (RR cx (.t [(.s 2 0 (loopF (S41_f49_0 a0 a1) n (v8, v9)).1.length 1), (iv (loopF (S41_f49_0 a0 a1) n (v8, v9)).2)]) [(.live true true (flat c35 (loopF (S41_f49_0 a0 a1) n (v8, v9)).1))] [])) cx [] (.l B41_f49_0 n :: K41_f49_0) (st41_f49_0 a0 a1 (flat c35 v8) v8.length v9) := by
  intro n
  induction n with
  | zero => intro v8 v9 hi hn; exact absurd hn (Nat.not_lt_zero _)
  | succ n ih =>
    intro v8 v9 hi hn
    refine good_round ?_
    have hpl := pan_len (a0.1, a0.2)
    cases h0 : (decide ((v9 : Int) < (((F86 (a0.1, a0.2)).1.length : Nat) : Int))) with
    | true =>
     have q0 := of_decide_eq_true h0
     have e := Eq.refl (S41_f49_0 a0 a1 (v8, v9)); conv at e => rhs; simp only [S41_f49_0, h0, cond_true, cond_false]
     rw [loopF_s, e]
     refine en [.d h0, .i v9 ((F86 (a0.1, a0.2)).1.length), .L c65_len (F86 (a0.1, a0.2)).1 v9 0 9] [.slot 13 2] [1, 2, 8, 10, 12, 13, 26, 27, 28, 32, 33, 34] [2, 3, 4, 5] hcx B41_f49_1 (K41_f49_1 n) (st41_f49_1 a0 a1 (flat c35 v8) (v8.length) (flat c41 ([] : List (Int × Int))) 0 v9 0 (((F86 (a0.1, a0.2)).1.getD (Int.toNat v9) default).1.1) (((F86 (a0.1, a0.2)).1.getD (Int.toNat v9) default).1.2.1) (((F86 (a0.1, a0.2)).1.getD (Int.toNat v9) default).1.2.2) (((F86 (a0.1, a0.2)).1.getD (Int.toNat v9) default).2.1.1) (((F86 (a0.1, a0.2)).1.getD (Int.toNat v9) default).2.1.2.1) (((F86 (a0.1, a0.2)).1.getD (Int.toNat v9) default).2.1.2.2) (((F86 (a0.1, a0.2)).1.getD (Int.toNat v9) default).2.2.1) (((F86 (a0.1, a0.2)).1.getD (Int.toNat v9) default).2.2.2.1) (((F86 (a0.1, a0.2)).1.getD (Int.toNat v9) default).2.2.2.2)) (Int.toNat ((((F86 (a0.1, a0.2)).1.length : Nat) : Int) - 0) + 1) (by kernel_rfl) ?_
     exact L41_f49_1 a0 a1 l0_1 l0_2 hcx n ih (Int.toNat ((((F86 (a0.1, a0.2)).1.length : Nat) : Int) - 0) + 1) v8 ([] : List (Int × Int)) v9 0 (((F86 (a0.1, a0.2)).1.getD (Int.toNat v9) default).1.1) (((F86 (a0.1, a0.2)).1.getD (Int.toNat v9) default).1.2.1) (((F86 (a0.1, a0.2)).1.getD (Int.toNat v9) default).1.2.2) (((F86 (a0.1, a0.2)).1.getD (Int.toNat v9) default).2.1.1) (((F86 (a0.1, a0.2)).1.getD (Int.toNat v9) default).2.1.2.1) (((F86 (a0.1, a0.2)).1.getD (Int.toNat v9) default).2.1.2.2) (((F86 (a0.1, a0.2)).1.getD (Int.toNat v9) default).2.2.1) (((F86 (a0.1, a0.2)).1.getD (Int.toNat v9) default).2.2.2.1) (((F86 (a0.1, a0.2)).1.getD (Int.toNat v9) default).2.2.2.2) (by refine ⟨?_, ?_, ?_, ?_, ?_, ?_, ?_, ?_, ?_, ?_, ?_⟩ <;> (try simp only [List.length_append, List.length_cons, List.length_nil, Int.toNat_zero]) <;> first | omega | assumption | exact hi.2.1 | exact hi.2.2.1 | exact hi.2.2.2.1 | exact hi.2.2.2.2.1 | exact hi.2.2.2.2.2.1 | exact hi.2.2.2.2.2.2.1 | exact hi.2.2.2.2.2.2.2.1 | exact hi.2.2.2.2.2.2.2.2.1 | exact hi.2.2.2.2.2.2.2.2.2.1 | exact hi.2.2.2.2.2.2.2.2.2.2.1 | simp) (by (try simp only [List.length_append, List.length_cons, List.length_nil, Int.toNat_zero]); omega)
    | false =>
     have q0 := of_decide_eq_false h0
     have e := Eq.refl (S41_f49_0 a0 a1 (v8, v9)); conv at e => rhs; simp only [S41_f49_0, h0, cond_true, cond_false]
     rw [loopF_s, e]
     exact rt [.d h0] [] [3] hcx (by kernel_rfl)

def F41_f49 (a0 : (List (Int × Int × Int)) × List (Int × Int × Int)) (a1 : Int) : (List (List (Int × Int))) × Int :=
  (bif (((F86 (a0.1, a0.2)).2 : Int) != 0) then
   (([] : List (List (Int × Int))), (F86 (a0.1, a0.2)).2)
  else
   (loopF (S41_f49_0 a0 a1) (Int.toNat ((((F86 (a0.1, a0.2)).1.length : Nat) : Int) - 0) + 1) (([] : List (List (Int × Int))), 0)))

theorem C41_f49 (a0 : (List (Int × Int × Int)) × List (Int × Int × Int)) (a1 : Int) (l0_1 : a0.1.length ≤ 9223372036854775807) (l0_2 : a0.2.length ≤ 9223372036854775807) : Con Tryz.prog 41 [(.a [(.s 0 0 a0.1.length 3), (.s 1 0 a0.2.length 3)]), (iv a1), (.v (.func (.func 49) #[] #[]))] [(.live false true (flat c27 a0.1)), (.live false true (flat c85 a0.2))] (.t [(.s 2 0 (F41_f49 a0 a1).1.length 1), (iv (F41_f49 a0 a1).2)]) [(.live true true (flat c35 (F41_f49 a0 a1).1))] := by
  refine con_s Tryz.func41 (by kernel_rfl) fun cx hcx => ?_
  have hpl := pan_len (a0.1, a0.2)
  let t0 : List (St Tryz.prog) := [.c [0, 1] (C86 (a0.1, a0.2) (by (try simp only [List.length_append, List.length_cons, List.length_nil, Int.toNat_zero]); omega) (by (try simp only [List.length_append, List.length_cons, List.length_nil, Int.toNat_zero]); omega))]
  cases h0 : (((F86 (a0.1, a0.2)).2 : Int) != 0) with
  | true =>
   have q0 := bne_iff_ne.1 h0
   have e := Eq.refl (F41_f49 a0 a1); conv at e => rhs; simp only [F41_f49, h0, cond_true, cond_false]
   rw [e]
   exact rt (t0 ++ [.d h0]) [.slot 6 1] [4] hcx (by kernel_rfl)
  | false =>
   have q0 := bne_eq_false_iff_eq.1 h0
   have e := Eq.refl (F41_f49 a0 a1); conv at e => rhs; simp only [F41_f49, h0, cond_true, cond_false]
   rw [e]
   refine en (t0 ++ [.d h0]) [.slot 10 1] [1, 2, 8, 10, 26, 27, 28] [3, 4] hcx B41_f49_0 (K41_f49_0) (st41_f49_0 a0 a1 (flat c35 ([] : List (List (Int × Int)))) 0 0) (Int.toNat ((((F86 (a0.1, a0.2)).1.length : Nat) : Int) - 0) + 1) (by kernel_rfl) ?_
   exact L41_f49_0 a0 a1 l0_1 l0_2 hcx (Int.toNat ((((F86 (a0.1, a0.2)).1.length : Nat) : Int) - 0) + 1) ([] : List (List (Int × Int))) 0 (by refine ⟨?_, ?_, ?_⟩ <;> (try simp only [List.length_append, List.length_cons, List.length_nil, Int.toNat_zero]) <;> first | omega | assumption | simp) (by (try simp only [List.length_append, List.length_cons, List.length_nil, Int.toNat_zero]); omega)

noncomputable def B43_L_L_0 : Code := (loopAtD [1, 1, 0, 1] [] (bodyOf Tryz.f43) []).1
noncomputable def K43_L_L_0 : List K := (loopAtD [1, 1, 0, 1] [] (bodyOf Tryz.f43) []).2

def st43_L_L_0 (a0 : List (List (Int × Int))) (a1 : List (Int)) (v2c : List SV) (v2n : Nat) (v3 : Int) : LS := ⟨slN 32 [(1, (.s 1 0 a1.length 1)), (6, (.s 2 0 v2n 2)), (11, (.s 0 0 a0.length 1)), (12, (iv ((a0.length : Nat) : Int))), (13, (iv v3))], [(.live false true (flat c35 a0)), (.live false true (flat c3 a1)), (.live true true v2c)]⟩

def S43_L_L_0 (a0 : List (List (Int × Int))) (a1 : List (Int)) : (List (Int × Int)) × Int → ((List (Int × Int)) × Int) ⊕ ((List (Int × Int)) × Int)
  | (v2, v3) =>
   (bif (decide ((v3 : Int) < ((a0.length : Nat) : Int))) then
    (bif (((F90_L_L (a0.getD (Int.toNat v3) default) a1).2 : Int) != 0) then
     (.inr (([] : List (Int × Int)), (F90_L_L (a0.getD (Int.toNat v3) default) a1).2))
    else
     (.inl ((v2 ++ [(F90_L_L (a0.getD (Int.toNat v3) default) a1).1]), (v3 + 1))))
   else
    (.inr (v2, 0)))

set_option maxHeartbeats 4000000 in
theorem L43_L_L_0 (a0 : List (List (Int × Int))) (a1 : List (Int)) (l0 : a0.length ≤ 9223372036854775807) (l1 : a1.length ≤ 9223372036854775807) (hr : ∀ r ∈ a0, r.length ≤ a1.length) (hn : a0.length ≤ 96) (hm : a1.length ≤ 96) {cx : Cx} (hcx : cx.base = 2) : ∀ (n : Nat) (v2 : List (Int × Int)) (v3 : Int), (0 ≤ v3) ∧ (v2.length = Int.toNat v3) ∧ (v3 ≤ a0.length) → Int.toNat (((a0.length : Nat) : Int) - v3) < n → Aw.Good Tryz.prog none 9 (bodyPost Tryz.prog Tryz.f43 (RR cx (.t [(.s 2 0 (loopF (S43_L_L_0 a0 a1) n (v2, v3)).1.length 2), (iv (loopF (S43_L_L_0 a0 a1) n (v2, v3)).2)]) [(.live true true (flat c41 (loopF (S43_L_L_0 a0 a1) n (v2, v3)).1))] [])) cx [] (.l B43_L_L_0 n :: K43_L_L_0) (st43_L_L_0 a0 a1 (flat c41 v2) v2.length v3) := by
  intro n
  induction n with
  | zero => intro v2 v3 hi hn; exact absurd hn (Nat.not_lt_zero _)
  | succ n ih =>
    intro v2 v3 hi hn
    refine good_round ?_
    have hrl := row_le hr v3
    cases h0 : (decide ((v3 : Int) < ((a0.length : Nat) : Int))) with
    | true =>
     have q0 := of_decide_eq_true h0
     let t1 : List (St Tryz.prog) := [.d h0, .i v3 (a0.length), .L c35_len a0 v3 0 1, .p (d_plain (c := c41) (fun _ => rfl) (a0.getD (Int.toNat v3) default)), .c [3, 1] (C90_L_L (a0.getD (Int.toNat v3) default) a1 (by (try simp only [List.length_append, List.length_cons, List.length_nil, Int.toNat_zero]); omega) (by (try simp only [List.length_append, List.length_cons, List.length_nil, Int.toNat_zero]); omega) (by omega) (by omega))]
     cases h1 : (((F90_L_L (a0.getD (Int.toNat v3) default) a1).2 : Int) != 0) with
     | true =>
      have q1 := bne_iff_ne.1 h1
      have e := Eq.refl (S43_L_L_0 a0 a1 (v2, v3)); conv at e => rhs; simp only [S43_L_L_0, h0, h1, cond_true, cond_false]
      rw [loopF_s, e]
      exact rt (t1 ++ [.d h1]) [.slot 4 2] [5] hcx (by kernel_rfl)
     | false =>
      have q1 := bne_eq_false_iff_eq.1 h1
      have e := Eq.refl (S43_L_L_0 a0 a1 (v2, v3)); conv at e => rhs; simp only [S43_L_L_0, h0, h1, cond_true, cond_false]
      rw [loopF_inl e]
      refine ba (t1 ++ [.d h1, .p (show ((flat c41 v2).length = v2.length * 2 ∧ v2.length + 1 ≤ 2 ^ 40 ∧ (v2.length + 1) * 16 ≤ 2 ^ 47) from app_ok c41_len (by omega) (by omega))]) [] [1, 6, 11, 12, 13] [6] hcx (m := n) B43_L_L_0 (K43_L_L_0) (st43_L_L_0 a0 a1 (flat c41 v2 ++ (k2 (F90_L_L (a0.getD (Int.toNat v3) default) a1).1)) (v2.length + 1) (W (v3 + 1))) (by kernel_rfl) ?_
      have z0 : (W (v3 + 1)) = (v3 + 1) := W_eq (by omega) (by omega)
      have z1 : (flat c41 v2 ++ (k2 (F90_L_L (a0.getD (Int.toNat v3) default) a1).1)) = (flat c41 (v2 ++ [(F90_L_L (a0.getD (Int.toNat v3) default) a1).1])) := (flat_append (c := c41) (l := v2) (m := [(F90_L_L (a0.getD (Int.toNat v3) default) a1).1])).symm
      have z2 : (v2.length + 1) = (v2 ++ [(F90_L_L (a0.getD (Int.toNat v3) default) a1).1]).length := len_app v2 [(F90_L_L (a0.getD (Int.toNat v3) default) a1).1] rfl
      rw [z0, z1, z2]
      exact ih (v2 ++ [(F90_L_L (a0.getD (Int.toNat v3) default) a1).1]) (v3 + 1) (by refine ⟨?_, ?_, ?_⟩ <;> (try simp only [List.length_append, List.length_cons, List.length_nil, Int.toNat_zero]) <;> first | omega | assumption | simp) (by (try simp only [List.length_append, List.length_cons, List.length_nil, Int.toNat_zero]); omega)
    | false =>
     have q0 := of_decide_eq_false h0
     have e := Eq.refl (S43_L_L_0 a0 a1 (v2, v3)); conv at e => rhs; simp only [S43_L_L_0, h0, cond_true, cond_false]
     rw [loopF_s, e]
     exact rt [.d h0] [] [2] hcx (by kernel_rfl)

def F43_L_L (a0 : List (List (Int × Int))) (a1 : List (Int)) : (List (Int × Int)) × Int :=
  (loopF (S43_L_L_0 a0 a1) (Int.toNat (((a0.length : Nat) : Int) - 0) + 1) (([] : List (Int × Int)), 0))

theorem C43_L_L (a0 : List (List (Int × Int))) (a1 : List (Int)) (l0 : a0.length ≤ 9223372036854775807) (l1 : a1.length ≤ 9223372036854775807) (hr : ∀ r ∈ a0, r.length ≤ a1.length) (hn : a0.length ≤ 96) (hm : a1.length ≤ 96) : Con Tryz.prog 43 [(.s 0 0 a0.length 1), (.s 1 0 a1.length 1)] [(.live false true (flat c35 a0)), (.live false true (flat c3 a1))] (.t [(.s 2 0 (F43_L_L a0 a1).1.length 2), (iv (F43_L_L a0 a1).2)]) [(.live true true (flat c41 (F43_L_L a0 a1).1))] := by
  refine con_s Tryz.func43 (by kernel_rfl) fun cx hcx => ?_
  have e := Eq.refl (F43_L_L a0 a1); conv at e => rhs; simp only [F43_L_L]
  rw [e]
  refine en [] [.slot 6 2] [1, 6, 11, 12, 13] [2] hcx B43_L_L_0 (K43_L_L_0) (st43_L_L_0 a0 a1 (flat c41 ([] : List (Int × Int))) 0 0) (Int.toNat (((a0.length : Nat) : Int) - 0) + 1) (by kernel_rfl) ?_
  exact L43_L_L_0 a0 a1 l0 l1 hr hn hm hcx (Int.toNat (((a0.length : Nat) : Int) - 0) + 1) ([] : List (Int × Int)) 0 (by refine ⟨?_, ?_, ?_⟩ <;> (try simp only [List.length_append, List.length_cons, List.length_nil, Int.toNat_zero]) <;> first | omega | assumption | simp) (by (try simp only [List.length_append, List.length_cons, List.length_nil, Int.toNat_zero]); omega)

noncomputable def B50_L_L_1 : Code := (loopAtD [1, 1, 1, 0, 1, 0, 1, 1, 0, 1, 1] [0] (bodyOf Tryz.f50) []).1
noncomputable def K50_L_L_1 (m0 : Nat) : List K := (loopAtD [1, 1, 1, 0, 1, 0, 1, 1, 0, 1, 1] [m0] (bodyOf Tryz.f50) []).2

def st50_L_L_1 (a0 : List (List (Int × Int))) (a1 : List (Int)) (v14c : List SV) (v14n : Nat) (v15c : List SV) (v15n : Nat) (v16 : Int) (v17 : Int) (v18 : Int) (v19 : Int) : LS := ⟨slN 49 [(0, (.s 0 0 a0.length 1)), (1, (.s 1 0 a1.length 1)), (4, (.p 2 0)), (6, (.s 3 0 v14n 2)), (7, (.s 4 0 v15n 1)), (8, (iv v16)), (9, (iv v17)), (12, (.s 1 0 a1.length 1)), (13, (iv ((a1.length : Nat) : Int))), (14, (iv v18)), (19, (.s 1 0 a1.length 1)), (20, (iv ((a1.length : Nat) : Int))), (21, (iv v19))], [(.live false true (flat c35 a0)), (.live false true (flat c3 a1)), (.live true false [(iv 0), (iv 0)]), (.live true true v14c), (.live true true v15c)]⟩

def S50_L_L_1 (a0 : List (List (Int × Int))) (a1 : List (Int)) : (List (Int × Int)) × List (Int) × Int × Int × Int × Int → ((List (Int × Int)) × List (Int) × Int × Int × Int × Int) ⊕ (((List (Int × Int)) × List (Int) × Int) ⊕ ((Int × Int) × Int))
  | (v14, v15, v16, v17, v18, v19) =>
   (bif (decide ((v19 : Int) < ((a1.length : Nat) : Int))) then
    (.inl ((v14 ++ [((a0.getD (Int.toNat v19) default).getD (Int.toNat v16) default)]), (v15 ++ [(W (v17 * (a1.getD (Int.toNat v19) default)))]), v16, v17, v18, (v19 + 1)))
   else
    (.inr (.inl (v14, v15, (v18 + 1)))))

noncomputable def B50_L_L_0 : Code := (loopAtD [1, 1, 1, 0, 1] [] (bodyOf Tryz.f50) []).1
noncomputable def K50_L_L_0 : List K := (loopAtD [1, 1, 1, 0, 1] [] (bodyOf Tryz.f50) []).2

def st50_L_L_0 (a0 : List (List (Int × Int))) (a1 : List (Int)) (v11c : List SV) (v11n : Nat) (v12c : List SV) (v12n : Nat) (v13 : Int) : LS := ⟨slN 49 [(0, (.s 0 0 a0.length 1)), (1, (.s 1 0 a1.length 1)), (4, (.p 2 0)), (6, (.s 3 0 v11n 2)), (7, (.s 4 0 v12n 1)), (12, (.s 1 0 a1.length 1)), (13, (iv ((a1.length : Nat) : Int))), (14, (iv v13))], [(.live false true (flat c35 a0)), (.live false true (flat c3 a1)), (.live true false [(iv 0), (iv 0)]), (.live true true v11c), (.live true true v12c)]⟩

def S50_L_L_0 (a0 : List (List (Int × Int))) (a1 : List (Int)) : (List (Int × Int)) × List (Int) × Int → ((List (Int × Int)) × List (Int) × Int) ⊕ ((Int × Int) × Int)
  | (v11, v12, v13) =>
   (bif (decide ((v13 : Int) < ((a1.length : Nat) : Int))) then
    (loopF (S50_L_L_1 a0 a1) (Int.toNat (((a1.length : Nat) : Int) - 0) + 1) (v11, v12, v13, (a1.getD (Int.toNat v13) default), v13, 0))
   else
    (.inr ((F90_L_L v11 v12).1, (F90_L_L v11 v12).2)))

set_option maxHeartbeats 4000000 in
theorem L50_L_L_1 (a0 : List (List (Int × Int))) (a1 : List (Int)) (l0 : a0.length ≤ 9223372036854775807) (l1 : a1.length ≤ 9223372036854775807) (hl : a0.length = a1.length) (hr : ∀ r ∈ a0, r.length = a1.length) (hm : a1.length ≤ 96) {cx : Cx} (hcx : cx.base = 2)
    (n0 : Nat) (g0 : ∀ (v11 : List (Int × Int)) (v12 : List (Int)) (v13 : Int), (0 ≤ v13) ∧ (v11.length ≤ 96 * Int.toNat v13) ∧ (v12.length = v11.length) ∧ (v13 ≤ a1.length) → Int.toNat (((a1.length : Nat) : Int) - v13) < n0 → Aw.Good Tryz.prog none 9 (bodyPost Tryz.prog Tryz.f50 (RR cx (.t [(.a (k2 (loopF (S50_L_L_0 a0 a1) n0 (v11, v12, v13)).1)), (iv (loopF (S50_L_L_0 a0 a1) n0 (v11, v12, v13)).2)]) [] [])) cx [] (.l B50_L_L_0 n0 :: K50_L_L_0) (st50_L_L_0 a0 a1 (flat c41 v11) v11.length (flat c3 v12) v12.length v13)) : ∀ (n : Nat) (v14 : List (Int × Int)) (v15 : List (Int)) (v16 : Int) (v17 : Int) (v18 : Int) (v19 : Int), (0 ≤ v19) ∧ (v14.length ≤ 96 * Int.toNat v18 + Int.toNat v19) ∧ (v15.length = v14.length) ∧ (0 ≤ v16) ∧ (v16 < a1.length) ∧ (0 ≤ v18) ∧ (v18 < a1.length) ∧ (v19 ≤ a1.length) ∧ ((0 ≤ v18)) ∧ ((v15.length = v14.length)) ∧ ((v18 ≤ a1.length)) ∧ (v18 < ((a1.length : Nat) : Int)) ∧ (Int.toNat (((a1.length : Nat) : Int) - v18) < n0 + 1) → Int.toNat (((a1.length : Nat) : Int) - v19) < n → Aw.Good Tryz.prog none 9 (bodyPost Tryz.prog Tryz.f50 (RR cx (.t [(.a (k2 (thenF (S50_L_L_0 a0 a1) n0 (loopF (S50_L_L_1 a0 a1) n (v14, v15, v16, v17, v18, v19))).1)), (iv (thenF (S50_L_L_0 a0 a1) n0 (loopF (S50_L_L_1 a0 a1) n (v14, v15, v16, v17, v18, v19))).2)]) [] [])) cx [] (.l B50_L_L_1 n :: K50_L_L_1 n0) (st50_L_L_1 a0 a1 (flat c41 v14) v14.length (flat c3 v15) v15.length v16 v17 v18 v19) := by
  intro n
  induction n with
  | zero => intro v14 v15 v16 v17 v18 v19 hi hn; exact absurd hn (Nat.not_lt_zero _)
  | succ n ih =>
    intro v14 v15 v16 v17 v18 v19 hi hn
    refine good_round ?_
    have hrl := row_im hr v19
    cases h0 : (decide ((v19 : Int) < ((a1.length : Nat) : Int))) with
    | true =>
     have q0 := of_decide_eq_true h0
     have e := Eq.refl (S50_L_L_1 a0 a1 (v14, v15, v16, v17, v18, v19)); conv at e => rhs; simp only [S50_L_L_1, h0, cond_true, cond_false]
     rw [loopF_inl e]
     refine ba [.d h0, .i v19 (a1.length), .L c3_len a1 v19 0 1, .i v19 (a0.length), .L c35_len a0 v19 0 1, .p (d_plain (c := c41) (fun _ => rfl) (a0.getD (Int.toNat v19) default)), .i v16 ((a0.getD (Int.toNat v19) default).length), .L c41_len (a0.getD (Int.toNat v19) default) v16 0 2, .p (show ((flat c41 v14).length = v14.length * 2 ∧ v14.length + 1 ≤ 2 ^ 40 ∧ (v14.length + 1) * 16 ≤ 2 ^ 47) from app_ok c41_len (by omega) (by omega)), .p (show ((flat c3 v15).length = v15.length * 1 ∧ v15.length + 1 ≤ 2 ^ 40 ∧ (v15.length + 1) * 8 ≤ 2 ^ 47) from app_ok c3_len (by omega) (by omega))] [] [0, 1, 4, 6, 7, 8, 9, 12, 13, 14, 19, 20, 21] [2, 7, 9] hcx (m := n) B50_L_L_1 (K50_L_L_1 n0) (st50_L_L_1 a0 a1 (flat c41 v14 ++ (k2 ((a0.getD (Int.toNat v19) default).getD (Int.toNat v16) default))) (v14.length + 1) (flat c3 v15 ++ [(iv (W (v17 * (a1.getD (Int.toNat v19) default))))]) (v15.length + 1) v16 v17 v18 (W (v19 + 1))) (by kernel_rfl) ?_
     have z0 : (W (v19 + 1)) = (v19 + 1) := W_eq (by omega) (by omega)
     have z1 : (flat c41 v14 ++ (k2 ((a0.getD (Int.toNat v19) default).getD (Int.toNat v16) default))) = (flat c41 (v14 ++ [((a0.getD (Int.toNat v19) default).getD (Int.toNat v16) default)])) := (flat_append (c := c41) (l := v14) (m := [((a0.getD (Int.toNat v19) default).getD (Int.toNat v16) default)])).symm
     have z2 : (v14.length + 1) = (v14 ++ [((a0.getD (Int.toNat v19) default).getD (Int.toNat v16) default)]).length := len_app v14 [((a0.getD (Int.toNat v19) default).getD (Int.toNat v16) default)] rfl
     have z3 : (flat c3 v15 ++ [(iv (W (v17 * (a1.getD (Int.toNat v19) default))))]) = (flat c3 (v15 ++ [(W (v17 * (a1.getD (Int.toNat v19) default)))])) := (flat_append (c := c3) (l := v15) (m := [(W (v17 * (a1.getD (Int.toNat v19) default)))])).symm
     have z4 : (v15.length + 1) = (v15 ++ [(W (v17 * (a1.getD (Int.toNat v19) default)))]).length := len_app v15 [(W (v17 * (a1.getD (Int.toNat v19) default)))] rfl
     rw [z0, z1, z2, z3, z4]
     exact ih (v14 ++ [((a0.getD (Int.toNat v19) default).getD (Int.toNat v16) default)]) (v15 ++ [(W (v17 * (a1.getD (Int.toNat v19) default)))]) v16 v17 v18 (v19 + 1) (by refine ⟨?_, ?_, ?_, ?_, ?_, ?_, ?_, ?_, ?_, ?_, ?_, ?_, ?_⟩ <;> (try simp only [List.length_append, List.length_cons, List.length_nil, Int.toNat_zero]) <;> first | omega | assumption | exact hi.2.1 | exact hi.2.2.1 | exact hi.2.2.2.1 | exact hi.2.2.2.2.1 | exact hi.2.2.2.2.2.1 | exact hi.2.2.2.2.2.2.1 | exact hi.2.2.2.2.2.2.2.1 | exact hi.2.2.2.2.2.2.2.2.1 | exact hi.2.2.2.2.2.2.2.2.2.1 | exact hi.2.2.2.2.2.2.2.2.2.2.1 | exact hi.2.2.2.2.2.2.2.2.2.2.2.1 | exact hi.2.2.2.2.2.2.2.2.2.2.2.2.1 | simp) (by (try simp only [List.length_append, List.length_cons, List.length_nil, Int.toNat_zero]); omega)
    | false =>
     have q0 := of_decide_eq_false h0
     have e := Eq.refl (S50_L_L_1 a0 a1 (v14, v15, v16, v17, v18, v19)); conv at e => rhs; simp only [S50_L_L_1, h0, cond_true, cond_false]
     rw [loopF_s, e]
     refine ba [.d h0] [] [0, 1, 4, 6, 7, 12, 13, 14] [2, 3, 4] hcx (m := n0) B50_L_L_0 (K50_L_L_0) (st50_L_L_0 a0 a1 (flat c41 v14) (v14.length) (flat c3 v15) (v15.length) (W (v18 + 1))) (by kernel_rfl) ?_
     have z0 : (W (v18 + 1)) = (v18 + 1) := W_eq (by omega) (by omega)
     rw [z0]
     exact g0 v14 v15 (v18 + 1) (by refine ⟨?_, ?_, ?_, ?_⟩ <;> (try simp only [List.length_append, List.length_cons, List.length_nil, Int.toNat_zero]) <;> first | omega | assumption | simp) (by (try simp only [List.length_append, List.length_cons, List.length_nil, Int.toNat_zero]); omega)

set_option maxHeartbeats 4000000 in
theorem L50_L_L_0 (a0 : List (List (Int × Int))) (a1 : List (Int)) (l0 : a0.length ≤ 9223372036854775807) (l1 : a1.length ≤ 9223372036854775807) (hl : a0.length = a1.length) (hr : ∀ r ∈ a0, r.length = a1.length) (hm : a1.length ≤ 96) {cx : Cx} (hcx : cx.base = 2) : ∀ (n : Nat) (v11 : List (Int × Int)) (v12 : List (Int)) (v13 : Int), (0 ≤ v13) ∧ (v11.length ≤ 96 * Int.toNat v13) ∧ (v12.length = v11.length) ∧ (v13 ≤ a1.length) → Int.toNat (((a1.length : Nat) : Int) - v13) < n → Aw.Good Tryz.prog none 9 (bodyPost Tryz.prog Tryz.f50 (RR cx (.t [(.a (k2 (loopF (S50_L_L_0 a0 a1) n (v11, v12, v13)).1)), (iv (loopF (S50_L_L_0 a0 a1) n (v11, v12, v13)).2)]) [] [])) cx [] (.l B50_L_L_0 n :: K50_L_L_0) (st50_L_L_0 a0 a1 (flat c41 v11) v11.length (flat c3 v12) v12.length v13) := by
  intro n
  induction n with
  | zero => intro v11 v12 v13 hi hn; exact absurd hn (Nat.not_lt_zero _)
  | succ n ih =>
    intro v11 v12 v13 hi hn
    refine good_round ?_
    cases h0 : (decide ((v13 : Int) < ((a1.length : Nat) : Int))) with
    | true =>
     have q0 := of_decide_eq_true h0
     have e := Eq.refl (S50_L_L_0 a0 a1 (v11, v12, v13)); conv at e => rhs; simp only [S50_L_L_0, h0, cond_true, cond_false]
     rw [loopF_s, e]
     refine en [.d h0, .i v13 (a1.length), .L c3_len a1 v13 0 1] [] [0, 1, 4, 6, 7, 8, 9, 12, 13, 14, 19, 20, 21] [2, 3, 4] hcx B50_L_L_1 (K50_L_L_1 n) (st50_L_L_1 a0 a1 (flat c41 v11) (v11.length) (flat c3 v12) (v12.length) v13 (a1.getD (Int.toNat v13) default) v13 0) (Int.toNat (((a1.length : Nat) : Int) - 0) + 1) (by kernel_rfl) ?_
     exact L50_L_L_1 a0 a1 l0 l1 hl hr hm hcx n ih (Int.toNat (((a1.length : Nat) : Int) - 0) + 1) v11 v12 v13 (a1.getD (Int.toNat v13) default) v13 0 (by refine ⟨?_, ?_, ?_, ?_, ?_, ?_, ?_, ?_, ?_, ?_, ?_, ?_, ?_⟩ <;> (try simp only [List.length_append, List.length_cons, List.length_nil, Int.toNat_zero]) <;> first | omega | assumption | exact hi.2.1 | exact hi.2.2.1 | exact hi.2.2.2.1 | exact hi.2.2.2.2.1 | exact hi.2.2.2.2.2.1 | exact hi.2.2.2.2.2.2.1 | exact hi.2.2.2.2.2.2.2.1 | exact hi.2.2.2.2.2.2.2.2.1 | exact hi.2.2.2.2.2.2.2.2.2.1 | exact hi.2.2.2.2.2.2.2.2.2.2.1 | exact hi.2.2.2.2.2.2.2.2.2.2.2.1 | exact hi.2.2.2.2.2.2.2.2.2.2.2.2.1 | simp) (by (try simp only [List.length_append, List.length_cons, List.length_nil, Int.toNat_zero]); omega)
    | false =>
     have q0 := of_decide_eq_false h0
     have e := Eq.refl (S50_L_L_0 a0 a1 (v11, v12, v13)); conv at e => rhs; simp only [S50_L_L_0, h0, cond_true, cond_false]
     rw [loopF_s, e]
     exact rt [.d h0, .c [3, 4] (C90_L_L v11 v12 (by (try simp only [List.length_append, List.length_cons, List.length_nil, Int.toNat_zero]); omega) (by (try simp only [List.length_append, List.length_cons, List.length_nil, Int.toNat_zero]); omega) (by omega) (by omega))] [] [] hcx (by kernel_rfl)

def F50_L_L (a0 : List (List (Int × Int))) (a1 : List (Int)) : (Int × Int) × Int :=
  (loopF (S50_L_L_0 a0 a1) (Int.toNat (((a1.length : Nat) : Int) - 0) + 1) (([] : List (Int × Int)), ([] : List (Int)), 0))

theorem C50_L_L (a0 : List (List (Int × Int))) (a1 : List (Int)) (l0 : a0.length ≤ 9223372036854775807) (l1 : a1.length ≤ 9223372036854775807) (hl : a0.length = a1.length) (hr : ∀ r ∈ a0, r.length = a1.length) (hm : a1.length ≤ 96) : Con Tryz.prog 50 [(.s 0 0 a0.length 1), (.s 1 0 a1.length 1)] [(.live false true (flat c35 a0)), (.live false true (flat c3 a1))] (.t [(.a (k2 (F50_L_L a0 a1).1)), (iv (F50_L_L a0 a1).2)]) [] := by
  refine con_s Tryz.func50 (by kernel_rfl) fun cx hcx => ?_
  have e := Eq.refl (F50_L_L a0 a1); conv at e => rhs; simp only [F50_L_L]
  rw [e]
  refine en [] [.slot 6 2, .slot 7 1] [0, 1, 4, 6, 7, 12, 13, 14] [2, 3, 4] hcx B50_L_L_0 (K50_L_L_0) (st50_L_L_0 a0 a1 (flat c41 ([] : List (Int × Int))) 0 (flat c3 ([] : List (Int))) 0 0) (Int.toNat (((a1.length : Nat) : Int) - 0) + 1) (by kernel_rfl) ?_
  exact L50_L_L_0 a0 a1 l0 l1 hl hr hm hcx (Int.toNat (((a1.length : Nat) : Int) - 0) + 1) ([] : List (Int × Int)) ([] : List (Int)) 0 (by refine ⟨?_, ?_, ?_, ?_⟩ <;> (try simp only [List.length_append, List.length_cons, List.length_nil, Int.toNat_zero]) <;> first | omega | assumption | simp) (by (try simp only [List.length_append, List.length_cons, List.length_nil, Int.toNat_zero]); omega)

end Go.Proofs.YthpgabaeefifbaaGreat

namespace Go.Proofs.YthpgabaeefifbaaGreat
open Go.Proofs Go.Aw Go.RowKit
set_option maxRecDepth 100000
set_option linter.unusedVariables false
set_option linter.unusedSimpArgs false

/-! ### Tables -/
abbrev TB := List (List (Int × Int))
theorem tab_gen {S1 : TB × List (Int × Int) × Int × Int × Int × Int × Int × Int × Int × Int × Int × Int × Int → (TB × List (Int × Int) × Int × Int × Int × Int × Int × Int × Int × Int × Int × Int × Int) ⊕ ((TB × Int) ⊕ (TB × Int))} {S0 : TB × Int → (TB × Int) ⊕ (TB × Int)}
    (L : List PN) (of : PN → PN → (Int × Int) × Int) (hof : ∀ p ∈ L, ∀ q ∈ L, (of p q).2 = 0)
    (hS1 : ∀ (out : TB) (row : List (Int × Int)) (i j : Int) (q : PN), S1 (out, row, i, j, q.1.1, q.1.2.1, q.1.2.2, q.2.1.1, q.2.1.2.1, q.2.1.2.2, q.2.2.1, q.2.2.2.1, q.2.2.2.2) =
      bif decide (j < ((L.length : Nat) : Int)) then (bif ((of (L.getD (Int.toNat j) default) q).2 != 0) then .inr (.inr ([], (of (L.getD (Int.toNat j) default) q).2)) else .inl (out, row ++ [(of (L.getD (Int.toNat j) default) q).1], i, j + 1, q.1.1, q.1.2.1, q.1.2.2, q.2.1.1, q.2.1.2.1, q.2.1.2.2, q.2.2.1, q.2.2.2.1, q.2.2.2.2)) else .inr (.inl (out ++ [row], i + 1)))
    (hS0 : ∀ (out : TB) (i : Int), S0 (out, i) = bif decide (i < ((L.length : Nat) : Int)) then loopF S1 (Int.toNat (((L.length : Nat) : Int) - 0) + 1) (out, [], i, 0, (L.getD (Int.toNat i) default).1.1, (L.getD (Int.toNat i) default).1.2.1, (L.getD (Int.toNat i) default).1.2.2, (L.getD (Int.toNat i) default).2.1.1, (L.getD (Int.toNat i) default).2.1.2.1, (L.getD (Int.toNat i) default).2.1.2.2, (L.getD (Int.toNat i) default).2.2.1, (L.getD (Int.toNat i) default).2.2.2.1, (L.getD (Int.toNat i) default).2.2.2.2) else .inr (out, 0)) :
    loopF S0 (Int.toNat (((L.length : Nat) : Int) - 0) + 1) ([], 0) = (L.map fun q => L.map fun p => (of p q).1, 0) := by
  have snoc : ∀ {α β : Type} (g : α → β) (l : List α) (v : List β), l.foldl (fun v c => v ++ [g c]) v = v ++ l.map g := by
    intro α β g l
    induction l with
    | nil => intro v; simp
    | cons c l ih => intro v; rw [List.foldl_cons, ih]; simp
  have inner : ∀ (out : TB) (i : Int) (q : PN), q ∈ L → loopF S1 (Int.toNat (((L.length : Nat) : Int) - 0) + 1) (out, [], i, 0, q.1.1, q.1.2.1, q.1.2.2, q.2.1.1, q.2.1.2.1, q.2.1.2.2, q.2.2.1, q.2.2.2.1, q.2.2.2.2) = .inl (out ++ [L.map fun p => (of p q).1], i + 1) := by
    intro out i q hq
    rw [each_loop (fun row j => (out, row, i, j, q.1.1, q.1.2.1, q.1.2.2, q.2.1.1, q.2.1.2.1, q.2.1.2.2, q.2.2.1, q.2.2.2.1, q.2.2.2.2)) (fun row p => .inl (row ++ [(of p q).1])) (fun row => .inl (out ++ [row], i + 1)) (L := L) (fun _ _ => True) ?_ (fun _ _ _ _ _ _ _ => trivial) ?_ (by omega) trivial]
    · rw [foldE_inl, snoc]; rfl
    · intro j c hc row _
      obtain ⟨hlt, hce⟩ := List.getElem?_eq_some_iff.1 hc
      rw [hS1, decide_eq_true (by omega), cond_true, getD_of hc, hof c (List.mem_of_getElem? hc) q hq]
      rfl
    · intro row _
      rw [hS1, decide_eq_false (by omega), cond_false]
  rw [each_loop (fun out i => (out, i)) (fun out q => .inl (out ++ [L.map fun p => (of p q).1])) (fun out => (out, 0)) (L := L) (fun _ _ => True) ?_ (fun _ _ _ _ _ _ _ => trivial) ?_ (by omega) trivial]
  · rw [foldE_inl, snoc]; rfl
  · intro i c hc out _
    obtain ⟨hlt, hce⟩ := List.getElem?_eq_some_iff.1 hc
    rw [hS0, decide_eq_true (by omega), cond_true, getD_of hc, inner out i c (List.mem_of_getElem? hc)]
    rfl
  · intro out _
    rw [hS0, decide_eq_false (by omega), cond_false]
abbrev pans (m : ME) : List PN := m.2.map (F110 m)
theorem pan_v {m : ME} (h : F32 m = 0) : F86 m = (pans m, 0) := by
  rw [pan_f, h]; rfl
theorem tab_b {m : ME} {d : Int} (h : F32 m = 0) (hd : 0 ≤ d ∧ d ≤ 2) : F41_f42 m d = ((pans m).map fun q => (pans m).map fun p => (F42 p q d).1, 0) := by
  have hP := pan_v h
  have g := tab_gen (S1 := S41_f42_1 m d) (S0 := S41_f42_0 m d) (F86 m).1 (fun p q => F42 p q d) (by
    rw [hP]; exact fun p hp q hq => (Between_okP (vld_pk h hd hp hq)).1) (fun out row i j q => rfl) (fun out i => rfl)
  unfold F41_f42
  show (bif ((F86 m).2 != 0) then _ else _) = _
  rw [show ((F86 m).2 != 0) = false from by rw [hP]; rfl, cond_false]
  refine Eq.trans g ?_
  rw [hP]
theorem tab_m {m : ME} {d : Int} (h : F32 m = 0) (hd : 0 ≤ d ∧ d ≤ 2) : F41_f49 m d = ((pans m).map fun q => (pans m).map fun p => (F49 p q d).1, 0) := by
  have hP := pan_v h
  have g := tab_gen (S1 := S41_f49_1 m d) (S0 := S41_f49_0 m d) (F86 m).1 (fun p q => F49 p q d) (by
    rw [hP]; exact fun p hp q hq => (Mutual_okP (vld_pk h hd hp hq)).1) (fun out row i j q => rfl) (fun out i => rfl)
  unfold F41_f49
  show (bif ((F86 m).2 != 0) then _ else _) = _
  rw [show ((F86 m).2 != 0) = false from by rw [hP]; rfl, cond_false]
  refine Eq.trans g ?_
  rw [hP]
/-! ### Charges -/
def okC (q : List Int) : Prop := ∀ c ∈ q, 0 ≤ c ∧ c ≤ 100
def totW (q : List Int) (v : Int) : Int := q.foldl (fun v c => W (v + c)) v
theorem totW_eq : ∀ (q : List Int) (v : Int), okC q → 0 ≤ v → v + 100 * (q.length : Int) ≤ 1000000 → totW q v = v + q.sum ∧ v ≤ v + q.sum ∧ v + q.sum ≤ v + 100 * (q.length : Int)
  | [], v, _, _, _ => by simp [totW]
  | c :: q, v, h, h0, h1 => by
    have hc := h c List.mem_cons_self
    simp only [List.length_cons] at h1
    have ih := totW_eq q (v + c) (fun x hx => h x (List.mem_cons_of_mem _ hx)) (by omega) (by omega)
    have e : totW (c :: q) v = totW q (v + c) := by
      show totW q (W (v + c)) = _
      rw [W_eq (by omega) (by omega)]
    rw [e]
    simp only [List.sum_cons, List.length_cons]
    omega
theorem two_folds : ∀ (q : List Int) (v : Int), (foldE (R := Int) (fun v c => bif (!F33 c 0 100) then .inr 1 else .inl (W (v + c))) q v = .inr 1 ∧ foldE (σ := Unit) (R := Int) (fun _ c => bif (!F33 c 0 100) then .inr 1 else .inl ()) q () = .inr 1) ∨
    (foldE (R := Int) (fun v c => bif (!F33 c 0 100) then .inr 1 else .inl (W (v + c))) q v = .inl (totW q v) ∧ foldE (σ := Unit) (R := Int) (fun _ c => bif (!F33 c 0 100) then .inr 1 else .inl ()) q () = .inl () ∧ okC q)
  | [], v => .inr ⟨rfl, rfl, fun c hc => by simp at hc⟩
  | c :: q, v => by
    simp only [foldE]
    cases hc : (!F33 c 0 100) with
    | true => exact .inl ⟨rfl, rfl⟩
    | false =>
      simp only [cond_false]
      rcases two_folds q (W (v + c)) with h | ⟨h1, h2, h3⟩
      · exact .inl h
      · refine .inr ⟨h1, h2, fun x hx => ?_⟩
        rcases List.mem_cons.1 hx with rfl | hx
        · exact hwin_f hc
        · exact h3 x hx
theorem sum_r (q : List Int) : F54_L q = totW q 0 := by
  unfold F54_L
  rw [each_loop (fun v i => (v, i)) (fun v c => .inl (W (v + c))) (fun v => v) (L := q) (fun _ _ => True) ?_ (fun _ _ _ _ _ _ _ => trivial) ?_ (by omega) trivial]
  · rw [foldE_inl]; rfl
  · intro i c hc v _
    obtain ⟨hlt, hce⟩ := List.getElem?_eq_some_iff.1 hc
    simp only [S54_L_0]
    rw [decide_eq_true (by omega), cond_true, getD_of hc]; rfl
  · intro v _
    simp only [S54_L_0]
    rw [decide_eq_false (by omega), cond_false]
theorem tot_h (q : List Int) : F103_L q = W ((W (totW q 0 * 1048576)) * 1048576) := by
  unfold F103_L
  rw [each_loop (fun v i => (v, i)) (fun v c => .inl (W (v + c))) (fun v => W ((W (v * 1048576)) * 1048576)) (L := q) (fun _ _ => True) ?_ (fun _ _ _ _ _ _ _ => trivial) ?_ (by omega) trivial]
  · rw [foldE_inl]; rfl
  · intro i c hc v _
    obtain ⟨hlt, hce⟩ := List.getElem?_eq_some_iff.1 hc
    simp only [S103_L_0]
    rw [decide_eq_true (by omega), cond_true, getD_of hc]; rfl
  · intro v _
    simp only [S103_L_0]
    rw [decide_eq_false (by omega), cond_false]
noncomputable def chV (m : ME) (q : List Int) : Int := bif ((F32 m : Int) != 0) then F32 m else bif ((((q.length : Nat) : Int) : Int) != ((m.2.length : Nat) : Int)) then 1 else
  outE (fun v => bif (v == 0) then 11 else 0) (foldE (R := Int) (fun v c => bif (!F33 c 0 100) then .inr 1 else .inl (W (v + c))) q 0)
theorem vch_f (m : ME) (q : List Int) : F85_L m q = chV m q := by
  unfold F85_L chV
  show (bif ((F32 m : Int) != 0) then F32 m else _) = _
  congr 1
  congr 1
  refine each_loop (fun v i => (v, i)) _ (fun v => bif (v == 0) then 11 else 0) (L := q) (fun _ _ => True) ?_ (fun _ _ _ _ _ _ _ => trivial) ?_ (by omega) trivial
  · intro i c hc v _
    obtain ⟨hlt, hce⟩ := List.getElem?_eq_some_iff.1 hc
    simp only [S85_L_0]
    rw [decide_eq_true (by omega), cond_true, getD_of hc]
    cases (!F33 c 0 100) <;> rfl
  · intro v _
    simp only [S85_L_0]
    rw [decide_eq_false (by omega), cond_false]
    cases (v == 0) <;> rfl
theorem vch_r (m : ME) (q : List Int) : F91_L m q = chV m q := by
  unfold F91_L chV
  show (bif ((F35 m : Int) != 0) then F35 m else _) = _
  rw [← val_eq]
  congr 1
  congr 1
  refine Eq.trans (each_loop (σ := Unit) (fun _ i => i) (fun _ c => bif (!F33 c 0 100) then .inr 1 else .inl ()) (fun _ => bif (F54_L q == 0) then 11 else 0) (L := q) (v := ()) (fun _ _ => True) ?_ (fun _ _ _ _ _ _ _ => trivial) ?_ (by omega) trivial) ?_
  · intro i c hc v _
    obtain ⟨hlt, hce⟩ := List.getElem?_eq_some_iff.1 hc
    simp only [S91_L_0]
    rw [decide_eq_true (by omega), cond_true, getD_of hc, show F65 c 0 100 = F33 c 0 100 from rfl]
    cases (!F33 c 0 100) <;> rfl
  · intro v _
    simp only [S91_L_0]
    rw [decide_eq_false (by omega), cond_false]
    cases (F54_L q == 0) <;> rfl
  · rcases two_folds q 0 with ⟨h1, h2⟩ | ⟨h1, h2, _⟩
    · rw [h1, h2]; rfl
    · rw [h1, h2, sum_r]; rfl
structure ChOK (m : ME) (q : List Int) : Prop where
  v : F32 m = 0
  len : q.length = m.2.length
  ok : okC q
  pos : 1 ≤ q.sum
  le : q.sum ≤ 9600
  n : 1 ≤ m.2.length ∧ m.2.length ≤ 96
  tot : totW q 0 = q.sum
theorem ch_ok {m : ME} {q : List Int} (h : chV m q = 0) : ChOK m q := by
  unfold chV at h
  cases h1 : ((F32 m : Int) != 0) with
  | true => rw [h1, cond_true] at h; exact absurd h (bne_iff_ne.1 h1)
  | false =>
  rw [h1, cond_false] at h
  have hv := bne_eq_false_iff_eq.1 h1
  obtain ⟨_, n1, n2, _, _⟩ := val_parts hv
  cases h2 : ((((q.length : Nat) : Int) : Int) != ((m.2.length : Nat) : Int)) with
  | true => rw [h2, cond_true] at h; exact absurd h (by decide)
  | false =>
  rw [h2, cond_false] at h
  have hl := bne_eq_false_iff_eq.1 h2
  rcases two_folds q 0 with ⟨g1, _⟩ | ⟨g1, _, g3⟩
  · rw [g1] at h; exact absurd h (by decide)
  · rw [g1] at h
    have ht := totW_eq q 0 g3 (Int.le_refl 0) (by omega)
    simp only [outE] at h
    have hne : totW q 0 ≠ 0 := by
      intro e
      rw [e] at h; exact absurd h (by decide)
    exact ⟨hv, by omega, g3, by omega, by omega, ⟨n1, n2⟩, by omega⟩
noncomputable def chD (m : ME) (q : List Int) (d : Int) : Int := bif (chV m q != 0) then chV m q else bif (!F33 d 0 2) then 1 else 0
theorem chk_h (m : ME) (q : List Int) (d : Int) : F40_L m q d = chD m q d := by
  unfold F40_L chD
  rw [show F85_L (m.1, m.2) q = chV m q from vch_f m q]
theorem giv_r (m : ME) (q : List Int) (d : Int) : F44_L m q d = chD m q d := by
  unfold F44_L chD
  rw [show F91_L (m.1, m.2) q = chV m q from vch_r m q]
  rfl
theorem chD_ok {m : ME} {q : List Int} {d : Int} (h : chD m q d = 0) : ChOK m q ∧ 0 ≤ d ∧ d ≤ 2 := by
  unfold chD at h
  cases h1 : (chV m q != 0) with
  | true => rw [h1, cond_true] at h; exact absurd h (bne_iff_ne.1 h1)
  | false =>
  rw [h1, cond_false] at h
  cases h2 : (!F33 d 0 2) with
  | true => rw [h2, cond_true] at h; exact absurd h (by decide)
  | false => exact ⟨ch_ok (bne_eq_false_iff_eq.1 h1), hwin_f h2⟩
theorem tab_len {m : ME} {d : Int} {f : PN → PN → Int × Int} {T : TB} {n : Nat} (e : T = (pans m).map fun q => (pans m).map fun p => f p q) (hn : n = m.2.length) : T.length = n ∧ ∀ r ∈ T, r.length = n := by
  subst e hn
  refine ⟨by simp, fun r hr => ?_⟩
  obtain ⟨q, _, rfl⟩ := List.mem_map.1 hr
  simp

end Go.Proofs.YthpgabaeefifbaaGreat

namespace Go.Proofs.YthpgabaeefifbaaGreat
open Go.Proofs Go.Aw Go.RowKit
set_option maxRecDepth 100000
set_option linter.unusedVariables false
set_option linter.unusedSimpArgs false

/-! ### Sums of scaled spans -/
noncomputable def sclV (c : (Int × Int) × Int) : (Int × Int) × Int := F125 c.1 c.2
noncomputable def addV (l : List ((Int × Int) × Int)) : (Int × Int) × Int := out8 sumV (fun e => ((0, 0), e)) (shs sclV l [])
theorem okP_vs {a : Int × Int} (h : okP a) : vs a := by unfold okP at h; unfold vs; omega
theorem scl_pos {a : Int × Int} {n : Int} (ha : okP a) (hn : 0 ≤ n ∧ n ≤ 10000) (h : (F125 a n).2 = 0) : n ≤ (F125 a n).1.1 ∧ (F125 a n).1.1 ≤ (F125 a n).1.2 := by
  rw [Scale_f (okP_vs ha) (by omega)] at h ⊢
  unfold okP at ha
  have h1 := sat_mono ha.1 hn.1
  have h2 := sat_mono ha.2.1 hn.1
  have h3 : sat 1 n = n := by unfold sat; rw [Int.one_mul, if_neg (by omega), if_neg (by omega)]
  have e : scl a n = (sat a.1 n, sat a.2 n) := by unfold scl; rw [if_neg (by omega)]
  rw [e] at h ⊢
  rcases res_cases (sat a.1 n) (sat a.2 n) with ⟨g, _⟩ | g
  · rw [g]; simp only; omega
  · rw [g] at h; exact absurd h (by decide)
theorem scl_vs {c : (Int × Int) × Int} (h : (sclV c).2 = 0) : vs (sclV c).1 := scale_vs h
theorem shs_add {l : List ((Int × Int) × Int)} {m : List (Int × Int)} (h : shs sclV l [] = .inl m) (hn : l.length ≤ 9216) : (∀ a ∈ m, vs a) ∧ m.length ≤ 10000 := by
  obtain ⟨e, h0⟩ := shs_inl h
  rw [List.nil_append] at e
  subst e
  exact ⟨fun a ha => by obtain ⟨c, hc, rfl⟩ := List.mem_map.1 ha; exact scl_vs (h0 c hc), by rw [List.length_map]; omega⟩
theorem add_f {xs : List (Int × Int)} {q : List Int} (hl : xs.length ≤ q.length) (hn : xs.length ≤ 9216) : F90_L_L xs q = addV (xs.zip q) := by
  have hz : (xs.zip q).length = xs.length := by rw [List.length_zip]; omega
  unfold F90_L_L addV
  have key := shs_loopF (g := sclV) (S := S90_L_L_0 xs q) (E := fun e => (((0, 0) : Int × Int), e)) (L := xs.zip q) (G := fun l => ((F126_L l).1, (F126_L l).2))
    (fun i c hi l => ?_) (fun l => ?_) (xs.zip q) 0 (Int.toNat (((xs.length : Nat) : Int) - 0) + 1) [] rfl (Nat.zero_le _) (by omega)
  · refine Eq.trans key ?_
    cases hs : shs sclV (xs.zip q) [] with
    | inr r => rfl
    | inl m =>
      obtain ⟨hv, hm⟩ := shs_add hs (by omega)
      simp only [out8]
      rw [Sum_f hv hm]
  · obtain ⟨h1, h2⟩ := List.getElem?_zip_eq_some.1 hi
    have hlt := (List.getElem?_eq_some_iff.1 h1).1
    simp only [S90_L_L_0]
    rw [decide_eq_true (by omega), cond_true, getD_of h1, getD_of h2]
    show _ = bif ((F125 c.1 c.2).2 != 0) then _ else _
    cases ((F125 c.1 c.2).2 != 0) <;> rfl
  · simp only [S90_L_L_0]
    rw [decide_eq_false (by rw [hz]; omega), cond_false]
theorem add_pos {l : List ((Int × Int) × Int)} (hl : ∀ c ∈ l, okP c.1 ∧ 0 ≤ c.2 ∧ c.2 ≤ 10000) (h : (addV l).2 = 0) : (l.map (·.2)).sum ≤ (addV l).1.1 ∧ (addV l).1.1 ≤ (addV l).1.2 ∧ vs (addV l).1 := by
  unfold addV at h ⊢
  cases hs : shs sclV l [] with
  | inr r => rw [hs] at h; exact absurd h (shs_inr hs)
  | inl m =>
    rw [hs] at h
    simp only [out8] at h ⊢
    obtain ⟨e, hv⟩ := sumV_0 h
    rw [e]
    obtain ⟨e2, h0⟩ := shs_inl hs
    rw [List.nil_append] at e2
    refine ⟨?_, hv.2.1, hv⟩
    rw [sums_eq, e2]
    simp only [Int.zero_add, List.map_map]
    clear hs h e hv e2
    induction l with
    | nil => simp
    | cons c l ih =>
      have hc := hl c List.mem_cons_self
      have := scl_pos hc.1 hc.2 (h0 c List.mem_cons_self)
      have ih := ih (fun x hx => hl x (List.mem_cons_of_mem _ hx)) (fun x hx => h0 x (List.mem_cons_of_mem _ hx))
      simp only [List.map_cons, List.sum_cons, Function.comp] at ih ⊢
      have e : (sclV c).1.1 = (F125 c.1 c.2).1.1 := rfl
      omega
/-! ### Potentials -/
noncomputable def potV (T : TB) (q : List Int) : List (Int × Int) × Int := out8 (fun l => (l, 0)) (fun e => ([], e)) (shs (fun r : List (Int × Int) => addV (r.zip q)) T [])
theorem pot_h {T : TB} {q : List Int} (hr : ∀ r ∈ T, r.length ≤ q.length) (hm : q.length ≤ 96) : F43_L_L T q = potV T q := by
  unfold F43_L_L potV
  refine shs_loopF (g := fun r : List (Int × Int) => addV (r.zip q)) (S := S43_L_L_0 T q) (E := fun e => (([] : List (Int × Int)), e)) (L := T) (G := fun l => (l, 0))
    (fun i c hi l => ?_) (fun l => ?_) T 0 (Int.toNat (((T.length : Nat) : Int) - 0) + 1) [] rfl (Nat.zero_le _) (by omega)
  · obtain ⟨hlt, hce⟩ := List.getElem?_eq_some_iff.1 hi
    have hc := hr c (List.mem_of_getElem? hi)
    simp only [S43_L_L_0]
    rw [decide_eq_true (by omega), cond_true, getD_of hi, add_f hc (by omega)]
    cases ((addV (c.zip q)).2 != 0) <;> rfl
  · simp only [S43_L_L_0]
    rw [decide_eq_false (by omega), cond_false]
theorem pot_pos {T : TB} {q : List Int} (hT : ∀ r ∈ T, r.length = q.length ∧ ∀ s ∈ r, okP s) (hq : okC q) (h : (potV T q).2 = 0) :
    (potV T q).1.length = T.length ∧ ∀ s ∈ (potV T q).1, q.sum ≤ s.1 ∧ s.1 ≤ s.2 ∧ vs s := by
  unfold potV at h ⊢
  cases hs : shs (fun r : List (Int × Int) => addV (r.zip q)) T [] with
  | inr r => rw [hs] at h; exact absurd h (shs_inr hs)
  | inl m =>
    simp only [out8]
    obtain ⟨e, h0⟩ := shs_inl hs
    rw [List.nil_append] at e
    subst e
    refine ⟨by rw [List.length_map], fun s hsm => ?_⟩
    obtain ⟨r, hr, rfl⟩ := List.mem_map.1 hsm
    obtain ⟨hl, hP⟩ := hT r hr
    have hp := add_pos (l := r.zip q) (fun c hc => ⟨hP _ (List.of_mem_zip hc).1, by have := hq _ (List.of_mem_zip hc).2; omega⟩) (h0 r hr)
    have : (r.zip q).map (·.2) = q := List.map_snd_zip (by omega)
    rw [this] at hp
    exact hp

end Go.Proofs.YthpgabaeefifbaaGreat

namespace Go.Proofs.YthpgabaeefifbaaGreat
open Go.Proofs Go.Aw Go.RowKit
set_option maxRecDepth 100000
set_option linter.unusedVariables false
set_option linter.unusedSimpArgs false

theorem pot_pre {m : ME} {q : List Int} {d : Int} (h : ((F40_L m q d : Int) != 0) = false) : (∀ r ∈ (F41_f42 m d).1, r.length ≤ q.length) ∧ (F41_f42 m d).1.length ≤ 96 ∧ q.length ≤ 96 := by
  rw [chk_h] at h
  obtain ⟨hc, hd⟩ := chD_ok (bne_eq_false_iff_eq.1 h)
  obtain ⟨h1, h2⟩ := tab_len (d := d) (T := (F41_f42 m d).1) (by rw [tab_b hc.v hd]) hc.len.symm.symm
  have := hc.n; have := hc.len
  exact ⟨fun r hr => by rw [h2 r hr]; omega, by omega, by omega⟩
theorem en_pre {m : ME} {q : List Int} {d : Int} (h : ((F40_L m q d : Int) != 0) = false) : (F41_f49 m d).1.length = q.length ∧ (∀ r ∈ (F41_f49 m d).1, r.length = q.length) ∧ q.length ≤ 96 := by
  rw [chk_h] at h
  obtain ⟨hc, hd⟩ := chD_ok (bne_eq_false_iff_eq.1 h)
  obtain ⟨h1, h2⟩ := tab_len (d := d) (T := (F41_f49 m d).1) (by rw [tab_m hc.v hd]) hc.len
  have := hc.n; have := hc.len
  exact ⟨h1, h2, by omega⟩
theorem giv_pre {m : ME} {q : List Int} {d : Int} (h : ((F44_L m q d : Int) != 0) = false) : okTo m m.2.length ∧ m.2.length ≤ 96 ∧ q.length = m.2.length := by
  rw [giv_r] at h
  obtain ⟨hc, hd⟩ := chD_ok (bne_eq_false_iff_eq.1 h)
  exact ⟨(val_ok (by rw [hc.v]; rfl)).1, hc.n.2, hc.len⟩
theorem r7_map (m : ME) : F45 m = pans m := by
  unfold F45
  rw [each_loop (fun v i => (v, i)) (fun v c => .inl (v ++ [F110 m c])) (fun v => v) (L := m.2) (fun _ _ => True) ?_ (fun _ _ _ _ _ _ _ => trivial) ?_ (by omega) trivial]
  · have snoc : ∀ (l : List P3) (v : List PN), l.foldl (fun v c => v ++ [F110 m c]) v = v ++ l.map (F110 m) := by
      intro l
      induction l with
      | nil => intro v; simp
      | cons c l ih => intro v; rw [List.foldl_cons, ih]; simp
    rw [foldE_inl, snoc]; rfl
  · intro i c hc v _
    obtain ⟨hlt, hce⟩ := List.getElem?_eq_some_iff.1 hc
    simp only [S45_0]
    rw [decide_eq_true (by omega), cond_true, getD_of hc]
    rfl
  · intro v _
    simp only [S45_0]
    rw [decide_eq_false (by omega), cond_false]
theorem r7_len (m : ME) : (F45 m).length = m.2.length := by rw [r7_map, List.length_map]

def F13_L (a0 : (List (Int × Int × Int)) × List (Int × Int × Int)) (a1 : List (Int)) (a2 : Int) : (List (Int × Int)) × Int :=
  (bif (((F40_L (a0.1, a0.2) a1 a2) : Int) != 0) then
   (([] : List (Int × Int)), (F40_L (a0.1, a0.2) a1 a2))
  else
   (bif (((F41_f42 (a0.1, a0.2) a2).2 : Int) != 0) then
    (([] : List (Int × Int)), (F41_f42 (a0.1, a0.2) a2).2)
   else
    ((F43_L_L (F41_f42 (a0.1, a0.2) a2).1 a1).1, (F43_L_L (F41_f42 (a0.1, a0.2) a2).1 a1).2)))

def F16_L (a0 : (List (Int × Int × Int)) × List (Int × Int × Int)) (a1 : List (Int)) (a2 : Int) : (Int × Int) × Int :=
  (bif (((F40_L (a0.1, a0.2) a1 a2) : Int) != 0) then
   ((0, 0), (F40_L (a0.1, a0.2) a1 a2))
  else
   (bif (((F41_f49 (a0.1, a0.2) a2).2 : Int) != 0) then
    ((0, 0), (F41_f49 (a0.1, a0.2) a2).2)
   else
    ((F50_L_L (F41_f49 (a0.1, a0.2) a2).1 a1).1, (F50_L_L (F41_f49 (a0.1, a0.2) a2).1 a1).2)))

noncomputable def B14_L_1 : Code := (loopAtD [1, 1, 1, 1, 1, 0, 1, 0, 1, 0, 1, 0, 1] [0] (bodyOf Tryz.f14) []).1
noncomputable def K14_L_1 (m0 : Nat) : List K := (loopAtD [1, 1, 1, 1, 1, 0, 1, 0, 1, 0, 1, 0, 1] [m0] (bodyOf Tryz.f14) []).2

def st14_L_1 (a0 : (List (Int × Int × Int)) × List (Int × Int × Int)) (a1 : List (Int)) (a2 : Int) (v10c : List SV) (v10n : Nat) (v11c : List SV) (v11n : Nat) (v12 : Int) (v13 : Int) : LS := ⟨slN 84 [(1, (.s 2 0 a1.length 1)), (2, (iv a2)), (9, (.s 3 0 (F45 (a0.1, a0.2)).length 9)), (10, (.s 4 0 v10n 2)), (11, (iv v12)), (12, (.s 5 0 v11n 2)), (13, (iv v13))], [(.live false true (flat c27 a0.1)), (.live false true (flat c85 a0.2)), (.live false true (flat c3 a1)), (.live true true (flat c65 (F45 (a0.1, a0.2)))), (.live true true v10c), (.live true true v11c)]⟩

def S14_L_1 (a0 : (List (Int × Int × Int)) × List (Int × Int × Int)) (a1 : List (Int)) (a2 : Int) : (List (Int × Int)) × (List (Int × Int)) × Int × Int → ((List (Int × Int)) × (List (Int × Int)) × Int × Int) ⊕ (((List (Int × Int)) × Int) ⊕ ((List (Int × Int)) × Int))
  | (v10, v11, v12, v13) =>
   (bif (decide ((v13 : Int) < (((F45 (a0.1, a0.2)).length : Nat) : Int))) then
    (bif (((F46 ((F45 (a0.1, a0.2)).getD (Int.toNat v13) default) ((F45 (a0.1, a0.2)).getD (Int.toNat v12) default) a2).2 : Int) != 0) then
     (.inr (.inr (([] : List (Int × Int)), (F46 ((F45 (a0.1, a0.2)).getD (Int.toNat v13) default) ((F45 (a0.1, a0.2)).getD (Int.toNat v12) default) a2).2)))
    else
     (bif (((F47 (F46 ((F45 (a0.1, a0.2)).getD (Int.toNat v13) default) ((F45 (a0.1, a0.2)).getD (Int.toNat v12) default) a2).1 (a1.getD (Int.toNat v13) default)).2 : Int) != 0) then
      (.inr (.inr (([] : List (Int × Int)), (F47 (F46 ((F45 (a0.1, a0.2)).getD (Int.toNat v13) default) ((F45 (a0.1, a0.2)).getD (Int.toNat v12) default) a2).1 (a1.getD (Int.toNat v13) default)).2)))
     else
      (.inl (v10, (v11 ++ [(F47 (F46 ((F45 (a0.1, a0.2)).getD (Int.toNat v13) default) ((F45 (a0.1, a0.2)).getD (Int.toNat v12) default) a2).1 (a1.getD (Int.toNat v13) default)).1]), v12, (v13 + 1)))))
   else
    (bif (((F48_L v11).2 : Int) != 0) then
     (.inr (.inr (([] : List (Int × Int)), (F48_L v11).2)))
    else
     (.inr (.inl ((v10 ++ [(F48_L v11).1]), (v12 + 1))))))

noncomputable def B14_L_0 : Code := (loopAtD [1, 1, 1, 1, 1, 0, 1] [] (bodyOf Tryz.f14) []).1
noncomputable def K14_L_0 : List K := (loopAtD [1, 1, 1, 1, 1, 0, 1] [] (bodyOf Tryz.f14) []).2

def st14_L_0 (a0 : (List (Int × Int × Int)) × List (Int × Int × Int)) (a1 : List (Int)) (a2 : Int) (v8c : List SV) (v8n : Nat) (v9 : Int) : LS := ⟨slN 84 [(1, (.s 2 0 a1.length 1)), (2, (iv a2)), (9, (.s 3 0 (F45 (a0.1, a0.2)).length 9)), (10, (.s 4 0 v8n 2)), (11, (iv v9))], [(.live false true (flat c27 a0.1)), (.live false true (flat c85 a0.2)), (.live false true (flat c3 a1)), (.live true true (flat c65 (F45 (a0.1, a0.2)))), (.live true true v8c)]⟩

def S14_L_0 (a0 : (List (Int × Int × Int)) × List (Int × Int × Int)) (a1 : List (Int)) (a2 : Int) : (List (Int × Int)) × Int → ((List (Int × Int)) × Int) ⊕ ((List (Int × Int)) × Int)
  | (v8, v9) =>
   (bif (decide ((v9 : Int) < (((F45 (a0.1, a0.2)).length : Nat) : Int))) then
    (loopF (S14_L_1 a0 a1 a2) (Int.toNat ((((F45 (a0.1, a0.2)).length : Nat) : Int) - 0) + 1) (v8, ([] : List (Int × Int)), v9, 0))
   else
    (.inr (v8, 0)))

set_option maxHeartbeats 4000000 in
theorem L14_L_1 (a0 : (List (Int × Int × Int)) × List (Int × Int × Int)) (a1 : List (Int)) (a2 : Int) (l0_1 : a0.1.length ≤ 9223372036854775807) (l0_2 : a0.2.length ≤ 9223372036854775807) (l1 : a1.length ≤ 9223372036854775807) {cx : Cx} (hcx : cx.base = 3)
    (n0 : Nat) (g0 : ∀ (v8 : List (Int × Int)) (v9 : Int), (0 ≤ v9) ∧ (v8.length = Int.toNat v9) ∧ (v9 ≤ (F45 (a0.1, a0.2)).length) ∧ ((F45 (a0.1, a0.2)).length = a1.length) ∧ (a1.length ≤ 96) → Int.toNat ((((F45 (a0.1, a0.2)).length : Nat) : Int) - v9) < n0 → Aw.Good Tryz.prog none 9 (bodyPost Tryz.prog Tryz.f14 (RR cx (.t [(.s 3 0 (loopF (S14_L_0 a0 a1 a2) n0 (v8, v9)).1.length 2), (iv (loopF (S14_L_0 a0 a1 a2) n0 (v8, v9)).2)]) [(.live true true (flat c41 (loopF (S14_L_0 a0 a1 a2) n0 (v8, v9)).1))] [])) cx [] (.l B14_L_0 n0 :: K14_L_0) (st14_L_0 a0 a1 a2 (flat c41 v8) v8.length v9)) : ∀ (n : Nat) (v10 : List (Int × Int)) (v11 : List (Int × Int)) (v12 : Int) (v13 : Int), (0 ≤ v13) ∧ (v11.length = Int.toNat v13) ∧ (v13 ≤ (F45 (a0.1, a0.2)).length) ∧ (v10.length = Int.toNat v12) ∧ (0 ≤ v12) ∧ (v12 < (F45 (a0.1, a0.2)).length) ∧ ((F45 (a0.1, a0.2)).length = a1.length) ∧ (a1.length ≤ 96) ∧ ((0 ≤ v12)) ∧ ((v10.length = Int.toNat v12)) ∧ ((v12 ≤ (F45 (a0.1, a0.2)).length)) ∧ (((F45 (a0.1, a0.2)).length = a1.length)) ∧ ((a1.length ≤ 96)) ∧ (v12 < (((F45 (a0.1, a0.2)).length : Nat) : Int)) ∧ (Int.toNat ((((F45 (a0.1, a0.2)).length : Nat) : Int) - v12) < n0 + 1) → Int.toNat ((((F45 (a0.1, a0.2)).length : Nat) : Int) - v13) < n → Aw.Good Tryz.prog none 9 (bodyPost Tryz.prog Tryz.f14 (RR cx (.t [(.s 3 0 (thenF (S14_L_0 a0 a1 a2) n0 (loopF (S14_L_1 a0 a1 a2) n (v10, v11, v12, v13))).1.length 2), (iv (thenF (S14_L_0 a0 a1 a2) n0 (loopF (S14_L_1 a0 a1 a2) n (v10, v11, v12, v13))).2)]) [(.live true true (flat c41 (thenF (S14_L_0 a0 a1 a2) n0 (loopF (S14_L_1 a0 a1 a2) n (v10, v11, v12, v13))).1))] [])) cx [] (.l B14_L_1 n :: K14_L_1 n0) (st14_L_1 a0 a1 a2 (flat c41 v10) v10.length (flat c41 v11) v11.length v12 v13) := by
  intro n
  induction n with
  | zero => intro v10 v11 v12 v13 hi hn; exact absurd hn (Nat.not_lt_zero _)
  | succ n ih =>
    intro v10 v11 v12 v13 hi hn
    refine good_round ?_
    cases h0 : (decide ((v13 : Int) < (((F45 (a0.1, a0.2)).length : Nat) : Int))) with
    | true =>
     have q0 := of_decide_eq_true h0
     let t1 : List (St Tryz.prog) := [.d h0, .i v13 ((F45 (a0.1, a0.2)).length), .L c65_len (F45 (a0.1, a0.2)) v13 0 9, .i v12 ((F45 (a0.1, a0.2)).length), .L c65_len (F45 (a0.1, a0.2)) v12 0 9, .c [] (C46 ((F45 (a0.1, a0.2)).getD (Int.toNat v13) default) ((F45 (a0.1, a0.2)).getD (Int.toNat v12) default) a2)]
     cases h1 : (((F46 ((F45 (a0.1, a0.2)).getD (Int.toNat v13) default) ((F45 (a0.1, a0.2)).getD (Int.toNat v12) default) a2).2 : Int) != 0) with
     | true =>
      have q1 := bne_iff_ne.1 h1
      have e := Eq.refl (S14_L_1 a0 a1 a2 (v10, v11, v12, v13)); conv at e => rhs; simp only [S14_L_1, h0, h1, cond_true, cond_false]
      rw [loopF_s, e]
      exact rt (t1 ++ [.d h1]) [.slot 6 2] [7] hcx (by kernel_rfl)
     | false =>
      have q1 := bne_eq_false_iff_eq.1 h1
      let t2 : List (St Tryz.prog) := (t1 ++ [.d h1, .i v13 (a1.length), .L c3_len a1 v13 0 1, .c [] (C47 (F46 ((F45 (a0.1, a0.2)).getD (Int.toNat v13) default) ((F45 (a0.1, a0.2)).getD (Int.toNat v12) default) a2).1 (a1.getD (Int.toNat v13) default))])
      cases h2 : (((F47 (F46 ((F45 (a0.1, a0.2)).getD (Int.toNat v13) default) ((F45 (a0.1, a0.2)).getD (Int.toNat v12) default) a2).1 (a1.getD (Int.toNat v13) default)).2 : Int) != 0) with
      | true =>
       have q2 := bne_iff_ne.1 h2
       have e := Eq.refl (S14_L_1 a0 a1 a2 (v10, v11, v12, v13)); conv at e => rhs; simp only [S14_L_1, h0, h1, h2, cond_true, cond_false]
       rw [loopF_s, e]
       exact rt (t2 ++ [.d h2]) [.slot 6 2] [7] hcx (by kernel_rfl)
      | false =>
       have q2 := bne_eq_false_iff_eq.1 h2
       have e := Eq.refl (S14_L_1 a0 a1 a2 (v10, v11, v12, v13)); conv at e => rhs; simp only [S14_L_1, h0, h1, h2, cond_true, cond_false]
       rw [loopF_inl e]
       refine ba (t2 ++ [.d h2, .p (show ((flat c41 v11).length = v11.length * 2 ∧ v11.length + 1 ≤ 2 ^ 40 ∧ (v11.length + 1) * 16 ≤ 2 ^ 47) from app_ok c41_len (by omega) (by omega))]) [] [1, 2, 9, 10, 11, 12, 13] [3, 4, 8] hcx (m := n) B14_L_1 (K14_L_1 n0) (st14_L_1 a0 a1 a2 (flat c41 v10) (v10.length) (flat c41 v11 ++ (k2 (F47 (F46 ((F45 (a0.1, a0.2)).getD (Int.toNat v13) default) ((F45 (a0.1, a0.2)).getD (Int.toNat v12) default) a2).1 (a1.getD (Int.toNat v13) default)).1)) (v11.length + 1) v12 (W (v13 + 1))) (by kernel_rfl) ?_
       have z0 : (W (v13 + 1)) = (v13 + 1) := W_eq (by omega) (by omega)
       have z1 : (flat c41 v11 ++ (k2 (F47 (F46 ((F45 (a0.1, a0.2)).getD (Int.toNat v13) default) ((F45 (a0.1, a0.2)).getD (Int.toNat v12) default) a2).1 (a1.getD (Int.toNat v13) default)).1)) = (flat c41 (v11 ++ [(F47 (F46 ((F45 (a0.1, a0.2)).getD (Int.toNat v13) default) ((F45 (a0.1, a0.2)).getD (Int.toNat v12) default) a2).1 (a1.getD (Int.toNat v13) default)).1])) := (flat_append (c := c41) (l := v11) (m := [(F47 (F46 ((F45 (a0.1, a0.2)).getD (Int.toNat v13) default) ((F45 (a0.1, a0.2)).getD (Int.toNat v12) default) a2).1 (a1.getD (Int.toNat v13) default)).1])).symm
       have z2 : (v11.length + 1) = (v11 ++ [(F47 (F46 ((F45 (a0.1, a0.2)).getD (Int.toNat v13) default) ((F45 (a0.1, a0.2)).getD (Int.toNat v12) default) a2).1 (a1.getD (Int.toNat v13) default)).1]).length := len_app v11 [(F47 (F46 ((F45 (a0.1, a0.2)).getD (Int.toNat v13) default) ((F45 (a0.1, a0.2)).getD (Int.toNat v12) default) a2).1 (a1.getD (Int.toNat v13) default)).1] rfl
       rw [z0, z1, z2]
       exact ih v10 (v11 ++ [(F47 (F46 ((F45 (a0.1, a0.2)).getD (Int.toNat v13) default) ((F45 (a0.1, a0.2)).getD (Int.toNat v12) default) a2).1 (a1.getD (Int.toNat v13) default)).1]) v12 (v13 + 1) (by refine ⟨?_, ?_, ?_, ?_, ?_, ?_, ?_, ?_, ?_, ?_, ?_, ?_, ?_, ?_, ?_⟩ <;> (try simp only [List.length_append, List.length_cons, List.length_nil, Int.toNat_zero]) <;> first | omega | assumption | exact hi.2.1 | exact hi.2.2.1 | exact hi.2.2.2.1 | exact hi.2.2.2.2.1 | exact hi.2.2.2.2.2.1 | exact hi.2.2.2.2.2.2.1 | exact hi.2.2.2.2.2.2.2.1 | exact hi.2.2.2.2.2.2.2.2.1 | exact hi.2.2.2.2.2.2.2.2.2.1 | exact hi.2.2.2.2.2.2.2.2.2.2.1 | exact hi.2.2.2.2.2.2.2.2.2.2.2.1 | exact hi.2.2.2.2.2.2.2.2.2.2.2.2.1 | exact hi.2.2.2.2.2.2.2.2.2.2.2.2.2.1 | exact hi.2.2.2.2.2.2.2.2.2.2.2.2.2.2.1 | simp) (by (try simp only [List.length_append, List.length_cons, List.length_nil, Int.toNat_zero]); omega)
    | false =>
     have q0 := of_decide_eq_false h0
     let t1 : List (St Tryz.prog) := [.d h0, .c [5] (C48_L v11 (by (try simp only [List.length_append, List.length_cons, List.length_nil, Int.toNat_zero]); omega))]
     cases h1 : (((F48_L v11).2 : Int) != 0) with
     | true =>
      have q1 := bne_iff_ne.1 h1
      have e := Eq.refl (S14_L_1 a0 a1 a2 (v10, v11, v12, v13)); conv at e => rhs; simp only [S14_L_1, h0, h1, cond_true, cond_false]
      rw [loopF_s, e]
      exact rt (t1 ++ [.d h1]) [.slot 6 2] [7] hcx (by kernel_rfl)
     | false =>
      have q1 := bne_eq_false_iff_eq.1 h1
      have e := Eq.refl (S14_L_1 a0 a1 a2 (v10, v11, v12, v13)); conv at e => rhs; simp only [S14_L_1, h0, h1, cond_true, cond_false]
      rw [loopF_s, e]
      refine ba (t1 ++ [.d h1, .p (show ((flat c41 v10).length = v10.length * 2 ∧ v10.length + 1 ≤ 2 ^ 40 ∧ (v10.length + 1) * 16 ≤ 2 ^ 47) from app_ok c41_len (by omega) (by omega))]) [] [1, 2, 9, 10, 11] [3, 8] hcx (m := n0) B14_L_0 (K14_L_0) (st14_L_0 a0 a1 a2 (flat c41 v10 ++ (k2 (F48_L v11).1)) (v10.length + 1) (W (v12 + 1))) (by kernel_rfl) ?_
      have z0 : (W (v12 + 1)) = (v12 + 1) := W_eq (by omega) (by omega)
      have z1 : (flat c41 v10 ++ (k2 (F48_L v11).1)) = (flat c41 (v10 ++ [(F48_L v11).1])) := (flat_append (c := c41) (l := v10) (m := [(F48_L v11).1])).symm
      have z2 : (v10.length + 1) = (v10 ++ [(F48_L v11).1]).length := len_app v10 [(F48_L v11).1] rfl
      rw [z0, z1, z2]
      exact g0 (v10 ++ [(F48_L v11).1]) (v12 + 1) (by refine ⟨?_, ?_, ?_, ?_, ?_⟩ <;> (try simp only [List.length_append, List.length_cons, List.length_nil, Int.toNat_zero]) <;> first | omega | assumption | simp) (by (try simp only [List.length_append, List.length_cons, List.length_nil, Int.toNat_zero]); omega)

set_option maxHeartbeats 4000000 in
theorem L14_L_0 (a0 : (List (Int × Int × Int)) × List (Int × Int × Int)) (a1 : List (Int)) (a2 : Int) (l0_1 : a0.1.length ≤ 9223372036854775807) (l0_2 : a0.2.length ≤ 9223372036854775807) (l1 : a1.length ≤ 9223372036854775807) {cx : Cx} (hcx : cx.base = 3) : ∀ (n : Nat) (v8 : List (Int × Int)) (v9 : Int), (0 ≤ v9) ∧ (v8.length = Int.toNat v9) ∧ (v9 ≤ (F45 (a0.1, a0.2)).length) ∧ ((F45 (a0.1, a0.2)).length = a1.length) ∧ (a1.length ≤ 96) → Int.toNat ((((F45 (a0.1, a0.2)).length : Nat) : Int) - v9) < n → Aw.Good Tryz.prog none 9 (bodyPost Tryz.prog Tryz.f14 (RR cx (.t [(.s 3 0 (loopF (S14_L_0 a0 a1 a2) n (v8, v9)).1.length 2), (iv (loopF (S14_L_0 a0 a1 a2) n (v8, v9)).2)]) [(.live true true (flat c41 (loopF (S14_L_0 a0 a1 a2) n (v8, v9)).1))] [])) cx [] (.l B14_L_0 n :: K14_L_0) (st14_L_0 a0 a1 a2 (flat c41 v8) v8.length v9) := by
  intro n
  induction n with
  | zero => intro v8 v9 hi hn; exact absurd hn (Nat.not_lt_zero _)
  | succ n ih =>
    intro v8 v9 hi hn
    refine good_round ?_
    cases h0 : (decide ((v9 : Int) < (((F45 (a0.1, a0.2)).length : Nat) : Int))) with
    | true =>
     have q0 := of_decide_eq_true h0
     have e := Eq.refl (S14_L_0 a0 a1 a2 (v8, v9)); conv at e => rhs; simp only [S14_L_0, h0, cond_true, cond_false]
     rw [loopF_s, e]
     refine en [.d h0] [.slot 12 2] [1, 2, 9, 10, 11, 12, 13] [3, 4, 5] hcx B14_L_1 (K14_L_1 n) (st14_L_1 a0 a1 a2 (flat c41 v8) (v8.length) (flat c41 ([] : List (Int × Int))) 0 v9 0) (Int.toNat ((((F45 (a0.1, a0.2)).length : Nat) : Int) - 0) + 1) (by kernel_rfl) ?_
     exact L14_L_1 a0 a1 a2 l0_1 l0_2 l1 hcx n ih (Int.toNat ((((F45 (a0.1, a0.2)).length : Nat) : Int) - 0) + 1) v8 ([] : List (Int × Int)) v9 0 (by refine ⟨?_, ?_, ?_, ?_, ?_, ?_, ?_, ?_, ?_, ?_, ?_, ?_, ?_, ?_, ?_⟩ <;> (try simp only [List.length_append, List.length_cons, List.length_nil, Int.toNat_zero]) <;> first | omega | assumption | exact hi.2.1 | exact hi.2.2.1 | exact hi.2.2.2.1 | exact hi.2.2.2.2.1 | exact hi.2.2.2.2.2.1 | exact hi.2.2.2.2.2.2.1 | exact hi.2.2.2.2.2.2.2.1 | exact hi.2.2.2.2.2.2.2.2.1 | exact hi.2.2.2.2.2.2.2.2.2.1 | exact hi.2.2.2.2.2.2.2.2.2.2.1 | exact hi.2.2.2.2.2.2.2.2.2.2.2.1 | exact hi.2.2.2.2.2.2.2.2.2.2.2.2.1 | exact hi.2.2.2.2.2.2.2.2.2.2.2.2.2.1 | exact hi.2.2.2.2.2.2.2.2.2.2.2.2.2.2.1 | simp) (by (try simp only [List.length_append, List.length_cons, List.length_nil, Int.toNat_zero]); omega)
    | false =>
     have q0 := of_decide_eq_false h0
     have e := Eq.refl (S14_L_0 a0 a1 a2 (v8, v9)); conv at e => rhs; simp only [S14_L_0, h0, cond_true, cond_false]
     rw [loopF_s, e]
     exact rt [.d h0] [] [4] hcx (by kernel_rfl)

def F14_L (a0 : (List (Int × Int × Int)) × List (Int × Int × Int)) (a1 : List (Int)) (a2 : Int) : (List (Int × Int)) × Int :=
  (bif (((F44_L (a0.1, a0.2) a1 a2) : Int) != 0) then
   (([] : List (Int × Int)), (F44_L (a0.1, a0.2) a1 a2))
  else
   (loopF (S14_L_0 a0 a1 a2) (Int.toNat ((((F45 (a0.1, a0.2)).length : Nat) : Int) - 0) + 1) (([] : List (Int × Int)), 0)))

theorem C14_L (a0 : (List (Int × Int × Int)) × List (Int × Int × Int)) (a1 : List (Int)) (a2 : Int) (l0_1 : a0.1.length ≤ 9223372036854775807) (l0_2 : a0.2.length ≤ 9223372036854775807) (l1 : a1.length ≤ 9223372036854775807) : Con Tryz.prog 14 [(.a [(.s 0 0 a0.1.length 3), (.s 1 0 a0.2.length 3)]), (.s 2 0 a1.length 1), (iv a2)] [(.live false true (flat c27 a0.1)), (.live false true (flat c85 a0.2)), (.live false true (flat c3 a1))] (.t [(.s 3 0 (F14_L a0 a1 a2).1.length 2), (iv (F14_L a0 a1 a2).2)]) [(.live true true (flat c41 (F14_L a0 a1 a2).1))] := by
  refine con_s Tryz.func14 (by kernel_rfl) fun cx hcx => ?_
  try have hg1 : a0.2.length ≤ 96 := (giv_pre h0).2.1
  try have hg2 : a1.length = a0.2.length := (giv_pre h0).2.2
  have hg3 : (F45 (a0.1, a0.2)).length = a0.2.length := r7_len (a0.1, a0.2)
  let t0 : List (St Tryz.prog) := [.c [0, 1, 2] (C44_L (a0.1, a0.2) a1 a2 (by (try simp only [List.length_append, List.length_cons, List.length_nil, Int.toNat_zero]); omega) (by (try simp only [List.length_append, List.length_cons, List.length_nil, Int.toNat_zero]); omega) (by (try simp only [List.length_append, List.length_cons, List.length_nil, Int.toNat_zero]); omega))]
  cases h0 : (((F44_L (a0.1, a0.2) a1 a2) : Int) != 0) with
  | true =>
   have q0 := bne_iff_ne.1 h0
   try have hg1 : a0.2.length ≤ 96 := (giv_pre h0).2.1
   try have hg2 : a1.length = a0.2.length := (giv_pre h0).2.2
   have e := Eq.refl (F14_L a0 a1 a2); conv at e => rhs; simp only [F14_L, h0, cond_true, cond_false]
   rw [e]
   exact rt (t0 ++ [.d h0]) [.slot 6 2] [4] hcx (by kernel_rfl)
  | false =>
   have q0 := bne_eq_false_iff_eq.1 h0
   try have hg1 : a0.2.length ≤ 96 := (giv_pre h0).2.1
   try have hg2 : a1.length = a0.2.length := (giv_pre h0).2.2
   have e := Eq.refl (F14_L a0 a1 a2); conv at e => rhs; simp only [F14_L, h0, cond_true, cond_false]
   rw [e]
   refine en (t0 ++ [.d h0, .c [0, 1] (C45 (a0.1, a0.2) (by (try simp only [List.length_append, List.length_cons, List.length_nil, Int.toNat_zero]); omega) (by (try simp only [List.length_append, List.length_cons, List.length_nil, Int.toNat_zero]); omega) (giv_pre h0).1 (giv_pre h0).2.1)]) [.slot 10 2] [1, 2, 9, 10, 11] [4, 5] hcx B14_L_0 (K14_L_0) (st14_L_0 a0 a1 a2 (flat c41 ([] : List (Int × Int))) 0 0) (Int.toNat ((((F45 (a0.1, a0.2)).length : Nat) : Int) - 0) + 1) (by kernel_rfl) ?_
   exact L14_L_0 a0 a1 a2 l0_1 l0_2 l1 hcx (Int.toNat ((((F45 (a0.1, a0.2)).length : Nat) : Int) - 0) + 1) ([] : List (Int × Int)) 0 (by refine ⟨?_, ?_, ?_, ?_, ?_⟩ <;> (try simp only [List.length_append, List.length_cons, List.length_nil, Int.toNat_zero]) <;> first | omega | assumption | simp) (by (try simp only [List.length_append, List.length_cons, List.length_nil, Int.toNat_zero]); omega)

noncomputable def B17_L_1 : Code := (loopAtD [1, 1, 1, 1, 1, 0, 1, 0, 1, 0, 1] [0] (bodyOf Tryz.f17) []).1
noncomputable def K17_L_1 (m0 : Nat) : List K := (loopAtD [1, 1, 1, 1, 1, 0, 1, 0, 1, 0, 1] [m0] (bodyOf Tryz.f17) []).2

def st17_L_1 (a0 : (List (Int × Int × Int)) × List (Int × Int × Int)) (a1 : List (Int)) (a2 : Int) (v9c : List SV) (v9n : Nat) (v10 : Int) (v11 : Int) : LS := ⟨slN 80 [(1, (.s 2 0 a1.length 1)), (2, (iv a2)), (6, (.p 3 0)), (9, (.s 4 0 (F45 (a0.1, a0.2)).length 9)), (10, (.s 5 0 v9n 2)), (11, (iv v10)), (12, (iv v11))], [(.live false true (flat c27 a0.1)), (.live false true (flat c85 a0.2)), (.live false true (flat c3 a1)), (.live true false [(iv 0), (iv 0)]), (.live true true (flat c65 (F45 (a0.1, a0.2)))), (.live true true v9c)]⟩

def S17_L_1 (a0 : (List (Int × Int × Int)) × List (Int × Int × Int)) (a1 : List (Int)) (a2 : Int) : (List (Int × Int)) × Int × Int → ((List (Int × Int)) × Int × Int) ⊕ (((List (Int × Int)) × Int) ⊕ ((Int × Int) × Int))
  | (v9, v10, v11) =>
   (bif (decide ((v11 : Int) < (((F45 (a0.1, a0.2)).length : Nat) : Int))) then
    (bif (((F51 ((F45 (a0.1, a0.2)).getD (Int.toNat v10) default) ((F45 (a0.1, a0.2)).getD (Int.toNat v11) default) a2).2 : Int) != 0) then
     (.inr (.inr ((0, 0), (F51 ((F45 (a0.1, a0.2)).getD (Int.toNat v10) default) ((F45 (a0.1, a0.2)).getD (Int.toNat v11) default) a2).2)))
    else
     (bif (((F47 (F51 ((F45 (a0.1, a0.2)).getD (Int.toNat v10) default) ((F45 (a0.1, a0.2)).getD (Int.toNat v11) default) a2).1 (W ((a1.getD (Int.toNat v10) default) * (a1.getD (Int.toNat v11) default)))).2 : Int) != 0) then
      (.inr (.inr ((0, 0), (F47 (F51 ((F45 (a0.1, a0.2)).getD (Int.toNat v10) default) ((F45 (a0.1, a0.2)).getD (Int.toNat v11) default) a2).1 (W ((a1.getD (Int.toNat v10) default) * (a1.getD (Int.toNat v11) default)))).2)))
     else
      (.inl ((v9 ++ [(F47 (F51 ((F45 (a0.1, a0.2)).getD (Int.toNat v10) default) ((F45 (a0.1, a0.2)).getD (Int.toNat v11) default) a2).1 (W ((a1.getD (Int.toNat v10) default) * (a1.getD (Int.toNat v11) default)))).1]), v10, (v11 + 1)))))
   else
    (.inr (.inl (v9, (v10 + 1)))))

noncomputable def B17_L_0 : Code := (loopAtD [1, 1, 1, 1, 1, 0, 1] [] (bodyOf Tryz.f17) []).1
noncomputable def K17_L_0 : List K := (loopAtD [1, 1, 1, 1, 1, 0, 1] [] (bodyOf Tryz.f17) []).2

def st17_L_0 (a0 : (List (Int × Int × Int)) × List (Int × Int × Int)) (a1 : List (Int)) (a2 : Int) (v7c : List SV) (v7n : Nat) (v8 : Int) : LS := ⟨slN 80 [(1, (.s 2 0 a1.length 1)), (2, (iv a2)), (6, (.p 3 0)), (9, (.s 4 0 (F45 (a0.1, a0.2)).length 9)), (10, (.s 5 0 v7n 2)), (11, (iv v8))], [(.live false true (flat c27 a0.1)), (.live false true (flat c85 a0.2)), (.live false true (flat c3 a1)), (.live true false [(iv 0), (iv 0)]), (.live true true (flat c65 (F45 (a0.1, a0.2)))), (.live true true v7c)]⟩

def S17_L_0 (a0 : (List (Int × Int × Int)) × List (Int × Int × Int)) (a1 : List (Int)) (a2 : Int) : (List (Int × Int)) × Int → ((List (Int × Int)) × Int) ⊕ ((Int × Int) × Int)
  | (v7, v8) =>
   (bif (decide ((v8 : Int) < (((F45 (a0.1, a0.2)).length : Nat) : Int))) then
    (loopF (S17_L_1 a0 a1 a2) (Int.toNat ((((F45 (a0.1, a0.2)).length : Nat) : Int) - 0) + 1) (v7, v8, 0))
   else
    (.inr ((F48_L v7).1, (F48_L v7).2)))

set_option maxHeartbeats 4000000 in
theorem L17_L_1 (a0 : (List (Int × Int × Int)) × List (Int × Int × Int)) (a1 : List (Int)) (a2 : Int) (l0_1 : a0.1.length ≤ 9223372036854775807) (l0_2 : a0.2.length ≤ 9223372036854775807) (l1 : a1.length ≤ 9223372036854775807) {cx : Cx} (hcx : cx.base = 3)
    (n0 : Nat) (g0 : ∀ (v7 : List (Int × Int)) (v8 : Int), (0 ≤ v8) ∧ (v7.length ≤ 96 * Int.toNat v8) ∧ (v8 ≤ (F45 (a0.1, a0.2)).length) ∧ ((F45 (a0.1, a0.2)).length = a1.length) ∧ (a1.length ≤ 96) → Int.toNat ((((F45 (a0.1, a0.2)).length : Nat) : Int) - v8) < n0 → Aw.Good Tryz.prog none 9 (bodyPost Tryz.prog Tryz.f17 (RR cx (.t [(.a (k2 (loopF (S17_L_0 a0 a1 a2) n0 (v7, v8)).1)), (iv (loopF (S17_L_0 a0 a1 a2) n0 (v7, v8)).2)]) [] [])) cx [] (.l B17_L_0 n0 :: K17_L_0) (st17_L_0 a0 a1 a2 (flat c41 v7) v7.length v8)) : ∀ (n : Nat) (v9 : List (Int × Int)) (v10 : Int) (v11 : Int), (0 ≤ v11) ∧ (v9.length ≤ 96 * Int.toNat v10 + Int.toNat v11) ∧ (0 ≤ v10) ∧ (v10 < (F45 (a0.1, a0.2)).length) ∧ (v11 ≤ (F45 (a0.1, a0.2)).length) ∧ ((F45 (a0.1, a0.2)).length = a1.length) ∧ (a1.length ≤ 96) ∧ ((0 ≤ v10)) ∧ ((v10 ≤ (F45 (a0.1, a0.2)).length)) ∧ (((F45 (a0.1, a0.2)).length = a1.length)) ∧ ((a1.length ≤ 96)) ∧ (v10 < (((F45 (a0.1, a0.2)).length : Nat) : Int)) ∧ (Int.toNat ((((F45 (a0.1, a0.2)).length : Nat) : Int) - v10) < n0 + 1) → Int.toNat ((((F45 (a0.1, a0.2)).length : Nat) : Int) - v11) < n → Aw.Good Tryz.prog none 9 (bodyPost Tryz.prog Tryz.f17 (RR cx (.t [(.a (k2 (thenF (S17_L_0 a0 a1 a2) n0 (loopF (S17_L_1 a0 a1 a2) n (v9, v10, v11))).1)), (iv (thenF (S17_L_0 a0 a1 a2) n0 (loopF (S17_L_1 a0 a1 a2) n (v9, v10, v11))).2)]) [] [])) cx [] (.l B17_L_1 n :: K17_L_1 n0) (st17_L_1 a0 a1 a2 (flat c41 v9) v9.length v10 v11) := by
  intro n
  induction n with
  | zero => intro v9 v10 v11 hi hn; exact absurd hn (Nat.not_lt_zero _)
  | succ n ih =>
    intro v9 v10 v11 hi hn
    refine good_round ?_
    cases h0 : (decide ((v11 : Int) < (((F45 (a0.1, a0.2)).length : Nat) : Int))) with
    | true =>
     have q0 := of_decide_eq_true h0
     let t1 : List (St Tryz.prog) := [.d h0, .i v10 ((F45 (a0.1, a0.2)).length), .L c65_len (F45 (a0.1, a0.2)) v10 0 9, .i v11 ((F45 (a0.1, a0.2)).length), .L c65_len (F45 (a0.1, a0.2)) v11 0 9, .c [] (C51 ((F45 (a0.1, a0.2)).getD (Int.toNat v10) default) ((F45 (a0.1, a0.2)).getD (Int.toNat v11) default) a2)]
     cases h1 : (((F51 ((F45 (a0.1, a0.2)).getD (Int.toNat v10) default) ((F45 (a0.1, a0.2)).getD (Int.toNat v11) default) a2).2 : Int) != 0) with
     | true =>
      have q1 := bne_iff_ne.1 h1
      have e := Eq.refl (S17_L_1 a0 a1 a2 (v9, v10, v11)); conv at e => rhs; simp only [S17_L_1, h0, h1, cond_true, cond_false]
      rw [loopF_s, e]
      exact rt (t1 ++ [.d h1]) [] [] hcx (by kernel_rfl)
     | false =>
      have q1 := bne_eq_false_iff_eq.1 h1
      let t2 : List (St Tryz.prog) := (t1 ++ [.d h1, .i v10 (a1.length), .L c3_len a1 v10 0 1, .i v11 (a1.length), .L c3_len a1 v11 0 1, .c [] (C47 (F51 ((F45 (a0.1, a0.2)).getD (Int.toNat v10) default) ((F45 (a0.1, a0.2)).getD (Int.toNat v11) default) a2).1 (W ((a1.getD (Int.toNat v10) default) * (a1.getD (Int.toNat v11) default))))])
      cases h2 : (((F47 (F51 ((F45 (a0.1, a0.2)).getD (Int.toNat v10) default) ((F45 (a0.1, a0.2)).getD (Int.toNat v11) default) a2).1 (W ((a1.getD (Int.toNat v10) default) * (a1.getD (Int.toNat v11) default)))).2 : Int) != 0) with
      | true =>
       have q2 := bne_iff_ne.1 h2
       have e := Eq.refl (S17_L_1 a0 a1 a2 (v9, v10, v11)); conv at e => rhs; simp only [S17_L_1, h0, h1, h2, cond_true, cond_false]
       rw [loopF_s, e]
       exact rt (t2 ++ [.d h2]) [] [] hcx (by kernel_rfl)
      | false =>
       have q2 := bne_eq_false_iff_eq.1 h2
       have e := Eq.refl (S17_L_1 a0 a1 a2 (v9, v10, v11)); conv at e => rhs; simp only [S17_L_1, h0, h1, h2, cond_true, cond_false]
       rw [loopF_inl e]
       refine ba (t2 ++ [.d h2, .p (show ((flat c41 v9).length = v9.length * 2 ∧ v9.length + 1 ≤ 2 ^ 40 ∧ (v9.length + 1) * 16 ≤ 2 ^ 47) from app_ok c41_len (by omega) (by omega))]) [] [1, 2, 6, 9, 10, 11, 12] [3, 4, 8] hcx (m := n) B17_L_1 (K17_L_1 n0) (st17_L_1 a0 a1 a2 (flat c41 v9 ++ (k2 (F47 (F51 ((F45 (a0.1, a0.2)).getD (Int.toNat v10) default) ((F45 (a0.1, a0.2)).getD (Int.toNat v11) default) a2).1 (W ((a1.getD (Int.toNat v10) default) * (a1.getD (Int.toNat v11) default)))).1)) (v9.length + 1) v10 (W (v11 + 1))) (by kernel_rfl) ?_
       have z0 : (W (v11 + 1)) = (v11 + 1) := W_eq (by omega) (by omega)
       have z1 : (flat c41 v9 ++ (k2 (F47 (F51 ((F45 (a0.1, a0.2)).getD (Int.toNat v10) default) ((F45 (a0.1, a0.2)).getD (Int.toNat v11) default) a2).1 (W ((a1.getD (Int.toNat v10) default) * (a1.getD (Int.toNat v11) default)))).1)) = (flat c41 (v9 ++ [(F47 (F51 ((F45 (a0.1, a0.2)).getD (Int.toNat v10) default) ((F45 (a0.1, a0.2)).getD (Int.toNat v11) default) a2).1 (W ((a1.getD (Int.toNat v10) default) * (a1.getD (Int.toNat v11) default)))).1])) := (flat_append (c := c41) (l := v9) (m := [(F47 (F51 ((F45 (a0.1, a0.2)).getD (Int.toNat v10) default) ((F45 (a0.1, a0.2)).getD (Int.toNat v11) default) a2).1 (W ((a1.getD (Int.toNat v10) default) * (a1.getD (Int.toNat v11) default)))).1])).symm
       have z2 : (v9.length + 1) = (v9 ++ [(F47 (F51 ((F45 (a0.1, a0.2)).getD (Int.toNat v10) default) ((F45 (a0.1, a0.2)).getD (Int.toNat v11) default) a2).1 (W ((a1.getD (Int.toNat v10) default) * (a1.getD (Int.toNat v11) default)))).1]).length := len_app v9 [(F47 (F51 ((F45 (a0.1, a0.2)).getD (Int.toNat v10) default) ((F45 (a0.1, a0.2)).getD (Int.toNat v11) default) a2).1 (W ((a1.getD (Int.toNat v10) default) * (a1.getD (Int.toNat v11) default)))).1] rfl
       rw [z0, z1, z2]
       exact ih (v9 ++ [(F47 (F51 ((F45 (a0.1, a0.2)).getD (Int.toNat v10) default) ((F45 (a0.1, a0.2)).getD (Int.toNat v11) default) a2).1 (W ((a1.getD (Int.toNat v10) default) * (a1.getD (Int.toNat v11) default)))).1]) v10 (v11 + 1) (by refine ⟨?_, ?_, ?_, ?_, ?_, ?_, ?_, ?_, ?_, ?_, ?_, ?_, ?_⟩ <;> (try simp only [List.length_append, List.length_cons, List.length_nil, Int.toNat_zero]) <;> first | omega | assumption | exact hi.2.1 | exact hi.2.2.1 | exact hi.2.2.2.1 | exact hi.2.2.2.2.1 | exact hi.2.2.2.2.2.1 | exact hi.2.2.2.2.2.2.1 | exact hi.2.2.2.2.2.2.2.1 | exact hi.2.2.2.2.2.2.2.2.1 | exact hi.2.2.2.2.2.2.2.2.2.1 | exact hi.2.2.2.2.2.2.2.2.2.2.1 | exact hi.2.2.2.2.2.2.2.2.2.2.2.1 | exact hi.2.2.2.2.2.2.2.2.2.2.2.2.1 | simp) (by (try simp only [List.length_append, List.length_cons, List.length_nil, Int.toNat_zero]); omega)
    | false =>
     have q0 := of_decide_eq_false h0
     have e := Eq.refl (S17_L_1 a0 a1 a2 (v9, v10, v11)); conv at e => rhs; simp only [S17_L_1, h0, cond_true, cond_false]
     rw [loopF_s, e]
     refine ba [.d h0] [] [1, 2, 6, 9, 10, 11] [3, 4, 5] hcx (m := n0) B17_L_0 (K17_L_0) (st17_L_0 a0 a1 a2 (flat c41 v9) (v9.length) (W (v10 + 1))) (by kernel_rfl) ?_
     have z0 : (W (v10 + 1)) = (v10 + 1) := W_eq (by omega) (by omega)
     rw [z0]
     exact g0 v9 (v10 + 1) (by refine ⟨?_, ?_, ?_, ?_, ?_⟩ <;> (try simp only [List.length_append, List.length_cons, List.length_nil, Int.toNat_zero]) <;> first | omega | assumption | simp) (by (try simp only [List.length_append, List.length_cons, List.length_nil, Int.toNat_zero]); omega)

set_option maxHeartbeats 4000000 in
theorem L17_L_0 (a0 : (List (Int × Int × Int)) × List (Int × Int × Int)) (a1 : List (Int)) (a2 : Int) (l0_1 : a0.1.length ≤ 9223372036854775807) (l0_2 : a0.2.length ≤ 9223372036854775807) (l1 : a1.length ≤ 9223372036854775807) {cx : Cx} (hcx : cx.base = 3) : ∀ (n : Nat) (v7 : List (Int × Int)) (v8 : Int), (0 ≤ v8) ∧ (v7.length ≤ 96 * Int.toNat v8) ∧ (v8 ≤ (F45 (a0.1, a0.2)).length) ∧ ((F45 (a0.1, a0.2)).length = a1.length) ∧ (a1.length ≤ 96) → Int.toNat ((((F45 (a0.1, a0.2)).length : Nat) : Int) - v8) < n → Aw.Good Tryz.prog none 9 (bodyPost Tryz.prog Tryz.f17 (RR cx (.t [(.a (k2 (loopF (S17_L_0 a0 a1 a2) n (v7, v8)).1)), (iv (loopF (S17_L_0 a0 a1 a2) n (v7, v8)).2)]) [] [])) cx [] (.l B17_L_0 n :: K17_L_0) (st17_L_0 a0 a1 a2 (flat c41 v7) v7.length v8) := by
  intro n
  induction n with
  | zero => intro v7 v8 hi hn; exact absurd hn (Nat.not_lt_zero _)
  | succ n ih =>
    intro v7 v8 hi hn
    refine good_round ?_
    cases h0 : (decide ((v8 : Int) < (((F45 (a0.1, a0.2)).length : Nat) : Int))) with
    | true =>
     have q0 := of_decide_eq_true h0
     have e := Eq.refl (S17_L_0 a0 a1 a2 (v7, v8)); conv at e => rhs; simp only [S17_L_0, h0, cond_true, cond_false]
     rw [loopF_s, e]
     refine en [.d h0] [] [1, 2, 6, 9, 10, 11, 12] [3, 4, 5] hcx B17_L_1 (K17_L_1 n) (st17_L_1 a0 a1 a2 (flat c41 v7) (v7.length) v8 0) (Int.toNat ((((F45 (a0.1, a0.2)).length : Nat) : Int) - 0) + 1) (by kernel_rfl) ?_
     exact L17_L_1 a0 a1 a2 l0_1 l0_2 l1 hcx n ih (Int.toNat ((((F45 (a0.1, a0.2)).length : Nat) : Int) - 0) + 1) v7 v8 0 (by refine ⟨?_, ?_, ?_, ?_, ?_, ?_, ?_, ?_, ?_, ?_, ?_, ?_, ?_⟩ <;> (try simp only [List.length_append, List.length_cons, List.length_nil, Int.toNat_zero]) <;> first | omega | assumption | exact hi.2.1 | exact hi.2.2.1 | exact hi.2.2.2.1 | exact hi.2.2.2.2.1 | exact hi.2.2.2.2.2.1 | exact hi.2.2.2.2.2.2.1 | exact hi.2.2.2.2.2.2.2.1 | exact hi.2.2.2.2.2.2.2.2.1 | exact hi.2.2.2.2.2.2.2.2.2.1 | exact hi.2.2.2.2.2.2.2.2.2.2.1 | exact hi.2.2.2.2.2.2.2.2.2.2.2.1 | exact hi.2.2.2.2.2.2.2.2.2.2.2.2.1 | simp) (by (try simp only [List.length_append, List.length_cons, List.length_nil, Int.toNat_zero]); omega)
    | false =>
     have q0 := of_decide_eq_false h0
     have e := Eq.refl (S17_L_0 a0 a1 a2 (v7, v8)); conv at e => rhs; simp only [S17_L_0, h0, cond_true, cond_false]
     rw [loopF_s, e]
     exact rt [.d h0, .c [5] (C48_L v7 (by (try simp only [List.length_append, List.length_cons, List.length_nil, Int.toNat_zero]); omega))] [] [] hcx (by kernel_rfl)

def F17_L (a0 : (List (Int × Int × Int)) × List (Int × Int × Int)) (a1 : List (Int)) (a2 : Int) : (Int × Int) × Int :=
  (bif (((F44_L (a0.1, a0.2) a1 a2) : Int) != 0) then
   ((0, 0), (F44_L (a0.1, a0.2) a1 a2))
  else
   (loopF (S17_L_0 a0 a1 a2) (Int.toNat ((((F45 (a0.1, a0.2)).length : Nat) : Int) - 0) + 1) (([] : List (Int × Int)), 0)))

theorem C17_L (a0 : (List (Int × Int × Int)) × List (Int × Int × Int)) (a1 : List (Int)) (a2 : Int) (l0_1 : a0.1.length ≤ 9223372036854775807) (l0_2 : a0.2.length ≤ 9223372036854775807) (l1 : a1.length ≤ 9223372036854775807) : Con Tryz.prog 17 [(.a [(.s 0 0 a0.1.length 3), (.s 1 0 a0.2.length 3)]), (.s 2 0 a1.length 1), (iv a2)] [(.live false true (flat c27 a0.1)), (.live false true (flat c85 a0.2)), (.live false true (flat c3 a1))] (.t [(.a (k2 (F17_L a0 a1 a2).1)), (iv (F17_L a0 a1 a2).2)]) [] := by
  refine con_s Tryz.func17 (by kernel_rfl) fun cx hcx => ?_
  try have hg1 : a0.2.length ≤ 96 := (giv_pre h0).2.1
  try have hg2 : a1.length = a0.2.length := (giv_pre h0).2.2
  have hg3 : (F45 (a0.1, a0.2)).length = a0.2.length := r7_len (a0.1, a0.2)
  let t0 : List (St Tryz.prog) := [.c [0, 1, 2] (C44_L (a0.1, a0.2) a1 a2 (by (try simp only [List.length_append, List.length_cons, List.length_nil, Int.toNat_zero]); omega) (by (try simp only [List.length_append, List.length_cons, List.length_nil, Int.toNat_zero]); omega) (by (try simp only [List.length_append, List.length_cons, List.length_nil, Int.toNat_zero]); omega))]
  cases h0 : (((F44_L (a0.1, a0.2) a1 a2) : Int) != 0) with
  | true =>
   have q0 := bne_iff_ne.1 h0
   try have hg1 : a0.2.length ≤ 96 := (giv_pre h0).2.1
   try have hg2 : a1.length = a0.2.length := (giv_pre h0).2.2
   have e := Eq.refl (F17_L a0 a1 a2); conv at e => rhs; simp only [F17_L, h0, cond_true, cond_false]
   rw [e]
   exact rt (t0 ++ [.d h0]) [] [] hcx (by kernel_rfl)
  | false =>
   have q0 := bne_eq_false_iff_eq.1 h0
   try have hg1 : a0.2.length ≤ 96 := (giv_pre h0).2.1
   try have hg2 : a1.length = a0.2.length := (giv_pre h0).2.2
   have e := Eq.refl (F17_L a0 a1 a2); conv at e => rhs; simp only [F17_L, h0, cond_true, cond_false]
   rw [e]
   refine en (t0 ++ [.d h0, .c [0, 1] (C45 (a0.1, a0.2) (by (try simp only [List.length_append, List.length_cons, List.length_nil, Int.toNat_zero]); omega) (by (try simp only [List.length_append, List.length_cons, List.length_nil, Int.toNat_zero]); omega) (giv_pre h0).1 (giv_pre h0).2.1)]) [.slot 10 2] [1, 2, 6, 9, 10, 11] [4, 5, 6] hcx B17_L_0 (K17_L_0) (st17_L_0 a0 a1 a2 (flat c41 ([] : List (Int × Int))) 0 0) (Int.toNat ((((F45 (a0.1, a0.2)).length : Nat) : Int) - 0) + 1) (by kernel_rfl) ?_
   exact L17_L_0 a0 a1 a2 l0_1 l0_2 l1 hcx (Int.toNat ((((F45 (a0.1, a0.2)).length : Nat) : Int) - 0) + 1) ([] : List (Int × Int)) 0 (by refine ⟨?_, ?_, ?_, ?_, ?_⟩ <;> (try simp only [List.length_append, List.length_cons, List.length_nil, Int.toNat_zero]) <;> first | omega | assumption | simp) (by (try simp only [List.length_append, List.length_cons, List.length_nil, Int.toNat_zero]); omega)

end Go.Proofs.YthpgabaeefifbaaGreat

namespace Go.Proofs.YthpgabaeefifbaaGreat
open Go.Proofs Go.Aw Go.RowKit
set_option maxRecDepth 100000
set_option linter.unusedVariables false
set_option linter.unusedSimpArgs false

/-! ### The potentials of the program and of the document -/
theorem foldE_shs {α β R : Type} {g : α → β × Int} {E : Int → R} : ∀ (l : List α) (t : List β), foldE (fun t c => bif ((g c).2 != 0) then .inr (E (g c).2) else .inl (t ++ [(g c).1])) l t = (match shs g l t with | .inl m => .inl m | .inr e => .inr (E e))
  | [], t => rfl
  | c :: l, t => by
    unfold shs
    simp only [foldE]
    by_cases h : (g c).2 = 0
    · rw [if_pos h, h]
      exact foldE_shs l (t ++ [(g c).1])
    · rw [if_neg h, bne_iff_ne.2 h]; rfl
theorem shs_mapx {α β γ : Type} {g : α → β × Int} {g' : γ → β × Int} {f : γ → α} : ∀ {k : List γ} {m : List β}, (∀ c ∈ k, g (f c) = g' c) → shs g (k.map f) m = shs g' k m
  | [], _, _ => rfl
  | c :: k, m, h => by
    simp only [List.map_cons, shs]
    rw [h c List.mem_cons_self, shs_mapx (k := k) (fun x hx => h x (List.mem_cons_of_mem _ hx))]
noncomputable def rowB (m : ME) (d : Int) (pj : PN) : List (Int × Int) := (pans m).map fun p => (F42 p pj d).1
theorem zip_l {α β γ : Type} (f : α → γ) : ∀ (l : List α) (k : List β), (l.map f).zip k = (l.zip k).map (fun c => (f c.1, c.2))
  | [], _ => by simp
  | _ :: _, [] => by simp
  | a :: l, b :: k => by simp [zip_l f l k]
theorem scale_eq {a : Int × Int} {n : Int} (ha : okP a) (hn : 0 ≤ n ∧ n ≤ 10000) : F47 a n = F125 a n := by
  rw [Scale_f (okP_vs ha) (by omega), Scale_r (okP_vs ha) (by omega)]
theorem refrow {m : ME} {q : List Int} {d : Int} (hc : ChOK m q) (hd : 0 ≤ d ∧ d ≤ 2) (out : List (Int × Int)) (j : Nat) {pj : PN} (hj : (pans m)[j]? = some pj) :
    loopF (S14_L_1 m q d) (Int.toNat ((((pans m).length : Nat) : Int) - 0) + 1) (out, [], (j : Int), 0) =
      bif ((addV ((rowB m d pj).zip q)).2 != 0) then .inr ([], (addV ((rowB m d pj).zip q)).2) else .inl (out ++ [(addV ((rowB m d pj).zip q)).1], (j : Int) + 1) := by
  have hR : F45 (m.1, m.2) = pans m := r7_map m
  have hpl : (pans m).length = m.2.length := List.length_map _
  have hlen := hc.len
  have hz : ((pans m).zip q).length = (pans m).length := by rw [List.length_zip]; omega
  have hpj := List.mem_of_getElem? hj
  have hn := hc.n
  let g : PN × Int → (Int × Int) × Int := fun c => F125 (F42 c.1 pj d).1 c.2
  have key := each_loop (S := S14_L_1 m q d) (fun terms i => (out, terms, (j : Int), i)) (fun t c => bif ((g c).2 != 0) then .inr (.inr ([], (g c).2)) else .inl (t ++ [(g c).1]))
    (fun terms => bif ((F48_L terms).2 != 0) then .inr ([], (F48_L terms).2) else .inl (out ++ [(F48_L terms).1], (j : Int) + 1)) (L := (pans m).zip q) (v := []) (n := Int.toNat ((((pans m).length : Nat) : Int) - 0) + 1) (fun _ _ => True) ?_ (fun _ _ _ _ _ _ _ => trivial) ?_ (by omega) trivial
  · refine Eq.trans key ?_
    rw [foldE_shs (g := g) (E := fun e => (Sum.inr (([] : List (Int × Int)), e) : (List (Int × Int) × Int) ⊕ (List (Int × Int) × Int))) ((pans m).zip q) []]
    have e : addV ((rowB m d pj).zip q) = out8 sumV (fun e => ((0, 0), e)) (shs g ((pans m).zip q) []) := by
      unfold addV rowB
      rw [zip_l, shs_mapx (g := sclV) (g' := g) (f := fun c : PN × Int => ((F42 c.1 pj d).1, c.2)) (fun c _ => rfl)]
    rw [e]
    cases hs : shs g ((pans m).zip q) [] with
    | inr r =>
      have := shs_inr hs
      simp only [outE, out8]
      rw [bne_iff_ne.2 this]; rfl
    | inl t =>
      simp only [outE, out8]
      obtain ⟨e2, h0⟩ := shs_inl hs
      rw [List.nil_append] at e2
      have hS := Sum_r (l := t) (fun a ha => by
        rw [e2] at ha
        obtain ⟨c, hcm, rfl⟩ := List.mem_map.1 ha
        exact scale_vs (h0 c hcm)) (by rw [e2, List.length_map]; omega)
      rw [hS]
  · intro i c hi terms _
    obtain ⟨h1, h2⟩ := List.getElem?_zip_eq_some.1 hi
    have hlt := (List.getElem?_eq_some_iff.1 h1).1
    have hcp := List.mem_of_getElem? h1
    have hcq := hc.ok _ (List.mem_of_getElem? h2)
    obtain ⟨b0, bP⟩ := Between_okP (vld_pk hc.v hd hcp hpj)
    simp only [S14_L_1]
    rw [hR, decide_eq_true (by omega), cond_true, getD_of h1, getD_of h2, getD_of hj, ← Between_eq, b0, scale_eq bP (by omega)]
    show (bif ((g c).2 != 0) then _ else _) = _
    cases ((g c).2 != 0) <;> rfl
  · intro terms _
    simp only [S14_L_1]
    rw [hR, decide_eq_false (by omega), cond_false]
    cases ((F48_L terms).2 != 0) <;> rfl
noncomputable def PotV (m : ME) (q : List Int) (d : Int) : List (Int × Int) × Int := bif (chD m q d != 0) then ([], chD m q d) else potV ((pans m).map (rowB m d)) q
theorem Pot_f (m : ME) (q : List Int) (d : Int) : F13_L m q d = PotV m q d := by
  unfold F13_L PotV
  rw [show F40_L (m.1, m.2) q d = chD m q d from chk_h m q d]
  cases h : (chD m q d != 0) with
  | true => rfl
  | false =>
    obtain ⟨hc, hd⟩ := chD_ok (bne_eq_false_iff_eq.1 h)
    have hn := hc.n; have hl := hc.len
    have e : F41_f42 (m.1, m.2) d = ((pans m).map (rowB m d), 0) := tab_b hc.v hd
    rw [e, cond_false, cond_false, show (((0 : Int)) != 0) = false from rfl, cond_false]
    have hp := pot_h (T := (pans m).map (rowB m d)) (q := q) (fun r hr => by
      obtain ⟨p, _, rfl⟩ := List.mem_map.1 hr
      unfold rowB; rw [List.length_map, List.length_map]; omega) (by omega)
    simp only
    rw [hp]
theorem Pot_r (m : ME) (q : List Int) (d : Int) : F14_L m q d = PotV m q d := by
  unfold F14_L PotV
  rw [show F44_L (m.1, m.2) q d = chD m q d from giv_r m q d]
  cases h : (chD m q d != 0) with
  | true => rfl
  | false =>
    obtain ⟨hc, hd⟩ := chD_ok (bne_eq_false_iff_eq.1 h)
    have hR : F45 (m.1, m.2) = pans m := r7_map m
    rw [hR, cond_false, cond_false]
    have key := each_loop (S := S14_L_0 m q d) (fun out j => (out, j)) (fun out pj => bif ((addV ((rowB m d pj).zip q)).2 != 0) then .inr ([], (addV ((rowB m d pj).zip q)).2) else .inl (out ++ [(addV ((rowB m d pj).zip q)).1])) (fun out => (out, 0)) (L := pans m) (v := []) (n := Int.toNat ((((pans m).length : Nat) : Int) - 0) + 1) (fun _ _ => True) ?_ (fun _ _ _ _ _ _ _ => trivial) ?_ (by omega) trivial
    · refine Eq.trans key ?_
      rw [foldE_shs (g := fun pj => addV ((rowB m d pj).zip q)) (E := fun e => ([], e)) (pans m) []]
      unfold potV
      rw [shs_mapx (g := fun r : List (Int × Int) => addV (r.zip q)) (g' := fun pj => addV ((rowB m d pj).zip q)) (fun c _ => rfl)]
      cases shs (fun pj => addV ((rowB m d pj).zip q)) (pans m) [] <;> rfl
    · intro j pj hj out _
      obtain ⟨hlt, hce⟩ := List.getElem?_eq_some_iff.1 hj
      simp only [S14_L_0]
      rw [hR, decide_eq_true (by omega), cond_true, refrow hc hd out j hj]
      cases ((addV ((rowB m d pj).zip q)).2 != 0) <;> rfl
    · intro out _
      simp only [S14_L_0]
      rw [hR, decide_eq_false (by omega), cond_false]
theorem Pot_eq (m : ME) (q : List Int) (d : Int) : F13_L m q d = F14_L m q d := by rw [Pot_f, Pot_r]

end Go.Proofs.YthpgabaeefifbaaGreat

namespace Go.Proofs.YthpgabaeefifbaaGreat
open Go.Proofs Go.Aw Go.RowKit
set_option maxRecDepth 100000
set_option linter.unusedVariables false
set_option linter.unusedSimpArgs false

/-! ### The energy of the program and of the document -/
theorem shs_app {α β : Type} {g : α → β × Int} : ∀ {k k' : List α} {m : List β}, shs g (k ++ k') m = (match shs g k m with | .inl m' => shs g k' m' | .inr e => .inr e)
  | [], _, _ => rfl
  | c :: k, k', m => by
    simp only [List.cons_append, shs]
    by_cases h : (g c).2 = 0
    · rw [if_pos h, if_pos h]; exact shs_app
    · rw [if_neg h, if_neg h]
def mapE {γ R : Type} (E : Int → R) : List γ ⊕ Int → List γ ⊕ R
  | .inl m => .inl m
  | .inr e => .inr (E e)
theorem foldE_flat {α β γ R : Type} {g : β → γ × Int} {cs : α → List β} {E : Int → R} : ∀ (L : List α) (t : List γ), foldE (fun t c => mapE E (shs g (cs c) t)) L t = mapE E (shs g (L.flatMap cs) t)
  | [], _ => rfl
  | c :: L, t => by
    rw [List.flatMap_cons, shs_app]
    simp only [foldE]
    cases shs g (cs c) t with
    | inl m => exact foldE_flat L m
    | inr e => rfl
theorem foldl_zip {α β γ : Type} (fx : α → List β) (fy : α → List γ) (hl : ∀ c, (fx c).length = (fy c).length) : ∀ (L : List α) (v : List β × List γ), v.1.length = v.2.length →
    (L.foldl (fun v c => (v.1 ++ fx c, v.2 ++ fy c)) v).1.length = (L.foldl (fun v c => (v.1 ++ fx c, v.2 ++ fy c)) v).2.length ∧
    (L.foldl (fun v c => (v.1 ++ fx c, v.2 ++ fy c)) v).1.zip (L.foldl (fun v c => (v.1 ++ fx c, v.2 ++ fy c)) v).2 = v.1.zip v.2 ++ L.flatMap (fun c => (fx c).zip (fy c))
  | [], v, h => ⟨h, by simp⟩
  | c :: L, v, h => by
    have ih := foldl_zip fx fy hl L (v.1 ++ fx c, v.2 ++ fy c) (by simp only [List.length_append]; rw [h, hl c])
    rw [List.foldl_cons]
    refine ⟨ih.1, ih.2.trans ?_⟩
    simp only [List.flatMap_cons]
    rw [List.zip_append h, List.append_assoc]
theorem foldl_len {α β γ : Type} (fx : α → List β) (fy : α → List γ) (n : Nat) (hn : ∀ c, (fx c).length ≤ n) : ∀ (L : List α) (v : List β × List γ), (L.foldl (fun v c => (v.1 ++ fx c, v.2 ++ fy c)) v).1.length ≤ v.1.length + n * L.length
  | [], v => by simp
  | c :: L, v => by
    have ih := foldl_len fx fy n hn L (v.1 ++ fx c, v.2 ++ fy c)
    have := hn c
    rw [List.foldl_cons, List.length_cons, Nat.mul_succ]
    simp only [List.length_append] at ih
    omega
noncomputable def eC (m : ME) (q : List Int) (d : Int) (c : PN × Int) : List ((Int × Int) × Int) := ((pans m).zip q).map fun e => ((F49 c.1 e.1 d).1, W (c.2 * e.2))
noncomputable def eX (m : ME) (q : List Int) (d : Int) (c : PN × Int) : List (Int × Int) := ((pans m).zip q).map fun e => (F49 c.1 e.1 d).1
noncomputable def eY (m : ME) (q : List Int) (c : PN × Int) : List Int := ((pans m).zip q).map fun e => W (c.2 * e.2)
theorem eXY (m : ME) (q : List Int) (d : Int) (c : PN × Int) : (eX m q d c).zip (eY m q c) = eC m q d c := by
  unfold eX eY eC
  generalize (pans m).zip q = L
  induction L with
  | nil => rfl
  | cons e L ih => simp only [List.map_cons, List.zip_cons_cons, ih]
theorem snocs {α β : Type} (g : α → β) (l : List α) (v : List β) : l.foldl (fun v c => v ++ [g c]) v = v ++ l.map g := by
  induction l generalizing v with
  | nil => simp
  | cons c l ih => rw [List.foldl_cons, ih]; simp
theorem snocs2 {α β γ : Type} (g : α → β) (h : α → γ) (l : List α) (v : List β × List γ) : l.foldl (fun v c => (v.1 ++ [g c], v.2 ++ [h c])) v = (v.1 ++ l.map g, v.2 ++ l.map h) := by
  induction l generalizing v with
  | nil => simp
  | cons c l ih => rw [List.foldl_cons, ih]; simp
noncomputable def MT (m : ME) (d : Int) : TB := (pans m).map fun q => (pans m).map fun p => (F49 p q d).1
noncomputable def EnV (m : ME) (q : List Int) (d : Int) : (Int × Int) × Int := bif (chD m q d != 0) then ((0, 0), chD m q d) else addV (((pans m).zip q).flatMap (eC m q d))
theorem MT_get {m : ME} {d : Int} {i j : Nat} {p r : PN} (hi : (pans m)[i]? = some p) (hj : (pans m)[j]? = some r) : ((MT m d).getD (Int.toNat (j : Int)) default).getD (Int.toNat (i : Int)) default = (F49 p r d).1 := by
  have e1 : (MT m d)[j]? = some ((pans m).map fun p => (F49 p r d).1) := by unfold MT; rw [List.getElem?_map, hj]; rfl
  rw [getD_of e1]
  have e2 : ((pans m).map fun p => (F49 p r d).1)[i]? = some (F49 p r d).1 := by rw [List.getElem?_map, hi]; rfl
  rw [getD_of e2]
theorem en_row {m : ME} {q : List Int} {d : Int} (hl : (pans m).length = q.length) (xs : List (Int × Int)) (ys : List Int) (i : Nat) {c : PN × Int} (hi : ((pans m).zip q)[i]? = some c) :
    loopF (S50_L_L_1 (MT m d) q) (Int.toNat (((q.length : Nat) : Int) - 0) + 1) (xs, ys, (i : Int), c.2, (i : Int), 0) = .inl (xs ++ eX m q d c, ys ++ eY m q c, (i : Int) + 1) := by
  obtain ⟨hi1, hi2⟩ := List.getElem?_zip_eq_some.1 hi
  have hz : ((pans m).zip q).length = q.length := by rw [List.length_zip]; omega
  have key := each_loop (S := S50_L_L_1 (MT m d) q) (fun (v : List (Int × Int) × List Int) j => (v.1, v.2, (i : Int), c.2, (i : Int), j)) (fun v e => .inl (v.1 ++ [(F49 c.1 e.1 d).1], v.2 ++ [W (c.2 * e.2)])) (fun v => .inl (v.1, v.2, (i : Int) + 1)) (L := (pans m).zip q) (v := (xs, ys)) (n := Int.toNat (((q.length : Nat) : Int) - 0) + 1) (fun _ _ => True) ?_ (fun _ _ _ _ _ _ _ => trivial) ?_ (by omega) trivial
  · refine Eq.trans key ?_
    rw [foldE_inl, snocs2]; rfl
  · intro j e hj v _
    obtain ⟨h1, h2⟩ := List.getElem?_zip_eq_some.1 hj
    have hlt := (List.getElem?_eq_some_iff.1 h2).1
    simp only [S50_L_L_1]
    rw [decide_eq_true (by omega), cond_true, MT_get hi1 h1, getD_of h2]
    rfl
  · intro v _
    simp only [S50_L_L_1]
    rw [decide_eq_false (by omega), cond_false]
theorem en_h {m : ME} {q : List Int} {d : Int} (hl : (pans m).length = q.length) (hm : q.length ≤ 96) : F50_L_L (MT m d) q = addV (((pans m).zip q).flatMap (eC m q d)) := by
  have hz : ((pans m).zip q).length = q.length := by rw [List.length_zip]; omega
  unfold F50_L_L
  have key := each_loop (S := S50_L_L_0 (MT m d) q) (fun (v : List (Int × Int) × List Int) i => (v.1, v.2, i)) (fun v c => .inl (v.1 ++ eX m q d c, v.2 ++ eY m q c)) (fun v => ((F90_L_L v.1 v.2).1, (F90_L_L v.1 v.2).2)) (L := (pans m).zip q) (v := ([], [])) (n := Int.toNat (((q.length : Nat) : Int) - 0) + 1) (fun _ _ => True) ?_ (fun _ _ _ _ _ _ _ => trivial) ?_ (by omega) trivial
  · refine Eq.trans key ?_
    rw [foldE_inl]
    obtain ⟨h1, h2⟩ := foldl_zip (eX m q d) (eY m q) (fun c => by unfold eX eY; rw [List.length_map, List.length_map]) ((pans m).zip q) ([], []) rfl
    have h3 := foldl_len (eX m q d) (eY m q) 96 (fun c => by unfold eX; rw [List.length_map]; omega) ((pans m).zip q) ([], [])
    simp only [List.length_nil] at h3
    simp only [outE]
    rw [add_f (by omega) (by omega), h2]
    simp only [eXY, List.zip_nil_left, List.nil_append]
  · intro i c hi v _
    obtain ⟨h1, h2⟩ := List.getElem?_zip_eq_some.1 hi
    have hlt := (List.getElem?_eq_some_iff.1 h2).1
    simp only [S50_L_L_0]
    rw [decide_eq_true (by omega), cond_true, getD_of h2, en_row hl v.1 v.2 i hi]
    rfl
  · intro v _
    simp only [S50_L_L_0]
    rw [decide_eq_false (by omega), cond_false]
theorem En_f (m : ME) (q : List Int) (d : Int) : F16_L m q d = EnV m q d := by
  unfold F16_L EnV
  rw [show F40_L (m.1, m.2) q d = chD m q d from chk_h m q d]
  cases h : (chD m q d != 0) with
  | true => rfl
  | false =>
    obtain ⟨hc, hd⟩ := chD_ok (bne_eq_false_iff_eq.1 h)
    have hn := hc.n; have hl := hc.len
    have e : F41_f49 (m.1, m.2) d = (MT m d, 0) := tab_m hc.v hd
    have hpl : (pans m).length = m.2.length := List.length_map _
    rw [e, cond_false, cond_false, show (((0 : Int)) != 0) = false from rfl, cond_false]
    simp only
    rw [en_h (by omega) (by omega)]
theorem refen {m : ME} {q : List Int} {d : Int} (hc : ChOK m q) (hd : 0 ≤ d ∧ d ≤ 2) (i : Nat) {c : PN × Int} (hi : ((pans m).zip q)[i]? = some c) (t : List (Int × Int)) :
    loopF (S17_L_1 m q d) (Int.toNat ((((pans m).length : Nat) : Int) - 0) + 1) (t, (i : Int), 0) =
      (match shs sclV (eC m q d c) t with | .inl t' => .inl (t', (i : Int) + 1) | .inr e => .inr ((0, 0), e)) := by
  have hR : F45 (m.1, m.2) = pans m := r7_map m
  have hpl : (pans m).length = m.2.length := List.length_map _
  have hlen := hc.len
  have hz : ((pans m).zip q).length = (pans m).length := by rw [List.length_zip]; omega
  obtain ⟨hi1, hi2⟩ := List.getElem?_zip_eq_some.1 hi
  have hip := List.mem_of_getElem? hi1
  have hiq := hc.ok _ (List.mem_of_getElem? hi2)
  let g : PN × Int → (Int × Int) × Int := fun e => F125 (F49 c.1 e.1 d).1 (W (c.2 * e.2))
  have key := each_loop (S := S17_L_1 m q d) (fun t j => (t, (i : Int), j)) (fun t e => bif ((g e).2 != 0) then .inr (.inr ((0, 0), (g e).2)) else .inl (t ++ [(g e).1]))
    (fun t => .inl (t, (i : Int) + 1)) (L := (pans m).zip q) (v := t) (n := Int.toNat ((((pans m).length : Nat) : Int) - 0) + 1) (fun _ _ => True) ?_ (fun _ _ _ _ _ _ _ => trivial) ?_ (by omega) trivial
  · refine Eq.trans key ?_
    rw [foldE_shs (g := g) (E := fun e => (Sum.inr ((0, 0), e) : (List (Int × Int) × Int) ⊕ ((Int × Int) × Int))) ((pans m).zip q) t]
    have e : shs sclV (eC m q d c) t = shs g ((pans m).zip q) t := by
      unfold eC
      rw [shs_mapx (g := sclV) (g' := g) (f := fun e : PN × Int => ((F49 c.1 e.1 d).1, W (c.2 * e.2))) (fun c _ => rfl)]
    rw [e]
    cases shs g ((pans m).zip q) t <;> rfl
  · intro j e hj t _
    obtain ⟨h1, h2⟩ := List.getElem?_zip_eq_some.1 hj
    have hlt := (List.getElem?_eq_some_iff.1 h1).1
    have hcp := List.mem_of_getElem? h1
    have hcq := hc.ok _ (List.mem_of_getElem? h2)
    obtain ⟨b0, bP⟩ := Mutual_okP (vld_pk hc.v hd hip hcp)
    have hM : F51 c.1 e.1 d = F49 c.1 e.1 d := by rw [Mutual_f, Mutual_r]
    have p0 : 0 ≤ c.2 * e.2 := Int.mul_nonneg hiq.1 hcq.1
    have p1 : c.2 * e.2 ≤ 100 * 100 := Int.mul_le_mul hiq.2 hcq.2 hcq.1 (by omega)
    have hW : W (c.2 * e.2) = c.2 * e.2 := W_eq (by omega) (by omega)
    simp only [S17_L_1]
    rw [hR, decide_eq_true (by omega), cond_true, getD_of h1, getD_of h2, getD_of hi1, getD_of hi2, hM, b0, scale_eq bP (by omega)]
    show (bif ((g e).2 != 0) then _ else _) = _
    cases ((g e).2 != 0) <;> rfl
  · intro t _
    simp only [S17_L_1]
    rw [hR, decide_eq_false (by omega), cond_false]
theorem En_r (m : ME) (q : List Int) (d : Int) : F17_L m q d = EnV m q d := by
  unfold F17_L EnV
  rw [show F44_L (m.1, m.2) q d = chD m q d from giv_r m q d]
  cases h : (chD m q d != 0) with
  | true => rfl
  | false =>
    obtain ⟨hc, hd⟩ := chD_ok (bne_eq_false_iff_eq.1 h)
    have hn := hc.n; have hlen := hc.len
    have hR : F45 (m.1, m.2) = pans m := r7_map m
    have hpl : (pans m).length = m.2.length := List.length_map _
    have hz : ((pans m).zip q).length = (pans m).length := by rw [List.length_zip]; omega
    rw [hR, cond_false, cond_false]
    have key := each_loop (S := S17_L_0 m q d) (fun t i => (t, i)) (fun t c => mapE (fun e => (((0, 0) : Int × Int), e)) (shs sclV (eC m q d c) t)) (fun t => ((F48_L t).1, (F48_L t).2)) (L := (pans m).zip q) (v := []) (n := Int.toNat ((((pans m).length : Nat) : Int) - 0) + 1) (fun _ _ => True) ?_ (fun _ _ _ _ _ _ _ => trivial) ?_ (by omega) trivial
    · refine Eq.trans key ?_
      rw [foldE_flat]
      unfold addV
      have hfl : (((pans m).zip q).flatMap (eC m q d)).length ≤ 9216 := by
        have : ∀ L : List (PN × Int), (L.flatMap (eC m q d)).length ≤ 96 * L.length := by
          intro L
          induction L with
          | nil => simp
          | cons c L ih =>
            have : (eC m q d c).length ≤ 96 := by unfold eC; rw [List.length_map]; omega
            rw [List.flatMap_cons, List.length_append, List.length_cons]; omega
        have := this ((pans m).zip q)
        omega
      cases hs : shs sclV (((pans m).zip q).flatMap (eC m q d)) [] with
      | inr r => rfl
      | inl t =>
        obtain ⟨hv, hm⟩ := shs_add hs hfl
        simp only [mapE, outE, out8]
        rw [Sum_r hv hm]
    · intro i c hi t _
      obtain ⟨h1, h2⟩ := List.getElem?_zip_eq_some.1 hi
      have hlt := (List.getElem?_eq_some_iff.1 h1).1
      simp only [S17_L_0]
      rw [hR, decide_eq_true (by omega), cond_true, refen hc hd i hi t]
      cases shs sclV (eC m q d c) t <;> rfl
    · intro t _
      simp only [S17_L_0]
      rw [hR, decide_eq_false (by omega), cond_false]
theorem En_eq (m : ME) (q : List Int) (d : Int) : F16_L m q d = F17_L m q d := by rw [En_f, En_r]

end Go.Proofs.YthpgabaeefifbaaGreat
