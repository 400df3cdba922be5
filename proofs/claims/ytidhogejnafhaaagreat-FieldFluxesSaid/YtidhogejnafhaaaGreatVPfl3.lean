/-
  Parts of the proofs of the laws: the executor, what functions of the program compute, and that it is what the statements ask. No premise.
-/
import Derived.Test.YtidhogejnafhaaaGreatVPfl2
import Derived.Test.YtidhogejnafhaaaGreatRows
import Derived.Shelf.Abstract
namespace Go.Aw
open Go.RowKit
set_option linter.unusedVariables false
set_option linter.unusedSimpArgs false

theorem below0_has {x : SV} (h : below 0 x = true) (k : Nat) : ¬ x.has k := fun hk => absurd (below_has h hk) (Nat.not_lt_zero _)
def mapE {α β : Type} (kc : α → SV) (vc : β → SV) (l : List (α × β)) : List (SV × SV) := l.map fun e => (kc e.1, vc e.2)
def mfind {α β : Type} [DecidableEq α] (k : α) : List (α × β) → Option (Nat × β)
  | [] => none
  | e :: l => if e.1 = k then some (0, e.2) else match mfind k l with
    | some q => some (q.1 + 1, q.2)
    | none => none
/-- the value of a key -/
def mget {α β : Type} [DecidableEq α] (l : List (α × β)) (k : α) (d : β) : β := match mfind k l with
  | some q => q.2
  | none => d
def mput {α β : Type} [DecidableEq α] (l : List (α × β)) (k : α) (v : β) : List (α × β) := match mfind k l with
  | some q => l.set q.1 (k, v)
  | none => l ++ [(k, v)]
def ment {α β : Type} [DecidableEq α] (l : List (α × β)) (k : α) (d : β) : List (α × β) := match mfind k l with
  | some _ => l
  | none => l ++ [(k, d)]
def mix {α β : Type} [DecidableEq α] (l : List (α × β)) (k : α) : Nat := match mfind k l with
  | some q => q.1
  | none => l.length

structure KeyOK {α : Type} (T : Nat → Option TI) (kt : Nat) (kc : α → SV) : Prop where
  hb : ∀ x, keyB T kt (kc x) = true
  he : ∀ x y, ∃ b, eqC T 100 kt (kc x).cells (kc y).cells = some b ∧ (b = true ↔ kc y = kc x)
  inj : ∀ x y, kc x = kc y → x = y
  pl : ∀ x, below 0 (kc x) = true

theorem mapE_get {α β : Type} {kc : α → SV} {vc : β → SV} {l : List (α × β)} {i : Nat} {x : SV × SV} (h : (mapE kc vc l)[i]? = some x) : ∃ e, l[i]? = some e ∧ x = (kc e.1, vc e.2) := by
  unfold mapE at h
  rw [List.getElem?_map] at h
  cases hl : l[i]? with
  | none => rw [hl] at h; cases h
  | some e => rw [hl] at h; simp at h; exact ⟨e, rfl, h.symm⟩
theorem keyEq_of {α β : Type} {kc : α → SV} {vc : β → SV} {l : List (α × β)} {T : Nat → Option TI} {kt : Nat} {k : α} (hk : KeyOK T kt kc) : KeyEq T kt (mapE kc vc l) (kc k) := fun e he => by
  obtain ⟨i, hi⟩ := List.getElem?_of_mem he
  obtain ⟨e', _, rfl⟩ := mapE_get hi
  exact ⟨hk.hb _, hk.he k e'.1⟩
theorem plainE {α β : Type} {kc : α → SV} {vc : β → SV} {l : List (α × β)} {T : Nat → Option TI} {kt : Nat} (hk : KeyOK T kt kc) (hv : ∀ v, below 0 (vc v) = true) : Plain (flatE (mapE kc vc l)) := fun j hj => by
  rw [hasl_iff] at hj
  obtain ⟨x, hx, hj⟩ := hj
  unfold flatE at hx
  obtain ⟨e, he, hx⟩ := List.mem_flatMap.1 hx
  obtain ⟨i, hi⟩ := List.getElem?_of_mem he
  obtain ⟨e', _, rfl⟩ := mapE_get hi
  simp only [List.mem_cons, List.not_mem_nil, or_false] at hx
  rcases hx with rfl | rfl
  · exact below0_has (hk.pl _) j hj
  · exact below0_has (hv _) j hj
section
variable {α β : Type} [DecidableEq α] {kc : α → SV} {vc : β → SV} {l : List (α × β)} {k : α} {T : Nat → Option TI} {kt : Nat}
theorem mfind_some : ∀ {l : List (α × β)} {q : Nat × β}, mfind k l = some q → l[q.1]? = some (k, q.2) ∧ ∀ j e, j < q.1 → l[j]? = some e → e.1 ≠ k
  | [], q, h => by simp [mfind] at h
  | e :: l, q, h => by
    simp only [mfind] at h
    split at h
    · rename_i he
      simp only [Option.some.injEq] at h
      subst h
      exact ⟨by rw [← he]; rfl, fun j e hj => absurd hj (Nat.not_lt_zero _)⟩
    · rename_i he
      split at h
      · rename_i q' hq
        simp only [Option.some.injEq] at h
        subst h
        obtain ⟨h1, h2⟩ := mfind_some hq
        refine ⟨by simpa using h1, fun j e' hj hje => ?_⟩
        cases j with
        | zero => simp at hje; rw [← hje]; exact he
        | succ j => exact h2 j e' (by omega) (by simpa using hje)
      · cases h
theorem mfind_none : ∀ {l : List (α × β)}, mfind k l = none → ∀ e ∈ l, e.1 ≠ k
  | [], _, e, he => by simp at he
  | e :: l, h, e', he => by
    simp only [mfind] at h
    split at h
    · cases h
    · rename_i hne
      split at h
      · cases h
      · rename_i hn
        rcases List.mem_cons.1 he with rfl | he
        · exact hne
        · exact mfind_none hn e' he
theorem mget_of (hk : KeyOK T kt kc) : MGet (mapE kc vc l) (kc k) ((mfind k l).map fun q => (q.1, vc q.2)) := by
  cases h : mfind k l with
  | some q =>
    obtain ⟨h1, h2⟩ := mfind_some h
    refine .inl ⟨q.1, vc q.2, by unfold mapE; rw [List.getElem?_map, h1]; rfl, fun j e hj he => ?_, rfl⟩
    obtain ⟨e', he', rfl⟩ := mapE_get he
    exact fun hc => h2 j e' hj he' (hk.inj _ _ hc)
  | none =>
    refine .inr ⟨fun e he hc => ?_, rfl⟩
    obtain ⟨i, hi⟩ := List.getElem?_of_mem he
    obtain ⟨e', he', rfl⟩ := mapE_get hi
    exact mfind_none h e' (List.mem_of_getElem? he') (hk.inj _ _ hc)
theorem mget_val (d : β) : vc (mget l k d) = (((mfind k l).map fun q => (q.1, vc q.2)).map (·.2)).getD (vc d) := by
  unfold mget
  cases mfind k l <;> rfl
theorem mfind_app : ∀ {l : List (α × β)} (d : β), mfind k l = none → mfind k (l ++ [(k, d)]) = some (l.length, d)
  | [], d, _ => by simp [mfind]
  | e :: l, d, h => by
    simp only [mfind] at h
    split at h
    · cases h
    · rename_i hne
      split at h
      · cases h
      · rename_i hn
        simp only [List.cons_append, mfind, if_neg hne, mfind_app d hn, List.length_cons]
theorem mget_ment (l : List (α × β)) (k : α) (d : β) : mget (ment l k d) k d = mget l k d := by
  unfold ment mget
  cases h : mfind k l with
  | some q => simp only [h]
  | none => simp only [mfind_app d h]
theorem mget_alt (hk : KeyOK T kt kc) (d : β) : ∃ q, MGet (mapE kc vc (ment l k d)) (kc k) q ∧ vc (mget l k d) = (q.map (·.2)).getD (vc d) := by
  rw [← mget_ment l k d]
  exact ⟨_, mget_of hk, mget_val d⟩
theorem mset_of (hk : KeyOK T kt kc) (v : β) : MSet (mapE kc vc l) (kc k) (vc v) (mapE kc vc (mput l k v)) := by
  refine ⟨_, mget_of hk, ?_⟩
  unfold mput
  cases h : mfind k l with
  | some q => simp [mapE, List.map_set]
  | none => simp [mapE]
theorem ment_of (hk : KeyOK T kt kc) (d : β) : MEnt (mapE kc vc l) (kc k) (vc d) (mapE kc vc (ment l k d)) (vc (mget l k d)) (mix l k) := by
  refine ⟨_, mget_of hk, ?_⟩
  unfold ment mget mix
  cases h : mfind k l with
  | some q => simp
  | none => simp [mapE]
theorem mst_of (v : β) (d : β) : ∃ (j : Nat) (e : SV × SV), ((mix l k : Nat) : Int) = (j : Int) ∧ (mapE kc vc (ment l k d))[j]? = some e ∧ mapE kc vc (mput l k v) = (mapE kc vc (ment l k d)).set j (e.1, vc v) := by
  unfold ment mix mput
  cases h : mfind k l with
  | some q =>
    refine ⟨q.1, (kc k, vc q.2), rfl, ?_, ?_⟩
    · unfold mapE; rw [List.getElem?_map, (mfind_some h).1]; rfl
    · simp [mapE, List.map_set]
  | none =>
    refine ⟨l.length, (kc k, vc d), rfl, ?_, ?_⟩
    · simp [mapE]
    · simp [mapE]

/-! ### Steps -/
variable {P : Program}
def St.z (id : Nat) : St P := ⟨[.stop id], [], trivial⟩
def vB (b : Bool) : SV := .v (.bool b)
def St.mG (hk : KeyOK T kt kc) (vc : β → SV) (l : List (α × β)) (k : α) (d : β) : St P :=
  ⟨[.ld [vc (mget l k d)]], [.pr (KeyEq T kt (mapE kc vc l) (kc k)), .pr (∃ q, MGet (mapE kc vc l) (kc k) q ∧ vc (mget l k d) = (q.map (·.2)).getD (vc d))], keyEq_of hk, ⟨_, mget_of hk, mget_val d⟩, trivial⟩
/-- a look-up that may come behind the entry's being made (block b) -/
def St.mGa (hk : KeyOK T kt kc) (vc : β → SV) (l : List (α × β)) (k : α) (d : β) (b : Nat) : St P :=
  ⟨[.alt b (.map (mapE kc vc (ment l k d))), .ld [vc (mget l k d)]], [.pr (KeyEq T kt (mapE kc vc l) (kc k)), .pr (∃ q, MGet (mapE kc vc l) (kc k) q ∧ vc (mget l k d) = (q.map (·.2)).getD (vc d)),
    .pr (KeyEq T kt (mapE kc vc (ment l k d)) (kc k)), .pr (∃ q, MGet (mapE kc vc (ment l k d)) (kc k) q ∧ vc (mget l k d) = (q.map (·.2)).getD (vc d)), .pr (({ val := vc (mget l k d) } : Eff) = { val := vc (mget l k d) })],
    keyEq_of hk, ⟨_, mget_of hk, mget_val d⟩, keyEq_of hk, mget_alt hk d, rfl, trivial⟩
/-- .. at the region's end -/
def St.mR (kc : α → SV) (vc : β → SV) (l : List (α × β)) (k : α) (d : β) : St P := ⟨[], [.pr (BK.map (mapE kc vc (ment l k d)) = BK.map (mapE kc vc (ment l k d)))], rfl, trivial⟩
def St.mP (hk : KeyOK T kt kc) (vc : β → SV) (l : List (α × β)) (k : α) (v : β) (hv : ∀ v, below 0 (vc v) = true := by exact fun _ => rfl) : St P :=
  ⟨[.mp (mapE kc vc (mput l k v))], [.pr (KeyEq T kt (mapE kc vc l) (kc k)), .pr (MSet (mapE kc vc l) (kc k) (vc v) (mapE kc vc (mput l k v))), .pr (Plain (flatE (mapE kc vc (mput l k v))))], keyEq_of hk, mset_of hk v, plainE hk hv, trivial⟩
def St.mE (hk : KeyOK T kt kc) (vc : β → SV) (l : List (α × β)) (k : α) (d : β) (hv : ∀ v, below 0 (vc v) = true := by exact fun _ => rfl) : St P :=
  ⟨[.mp (mapE kc vc (ment l k d)), .ld [vc (mget l k d), iv ((mix l k : Nat) : Int)]], [.pr (KeyEq T kt (mapE kc vc l) (kc k)), .pr (∃ j : Nat, ((mix l k : Nat) : Int) = (j : Int) ∧ MEnt (mapE kc vc l) (kc k) (vc d) (mapE kc vc (ment l k d)) (vc (mget l k d)) j), .pr (Plain (flatE (mapE kc vc (ment l k d))))], keyEq_of hk, ⟨_, rfl, ment_of hk d⟩, plainE hk hv, trivial⟩
def St.mS (hk : KeyOK T kt kc) (vc : β → SV) (l : List (α × β)) (k : α) (d v : β) (hv : ∀ v, below 0 (vc v) = true := by exact fun _ => rfl) : St P :=
  ⟨[.mp (mapE kc vc (mput l k v))], [.pr (∃ (j : Nat) (e : SV × SV), ((mix l k : Nat) : Int) = (j : Int) ∧ (mapE kc vc (ment l k d))[j]? = some e ∧ mapE kc vc (mput l k v) = (mapE kc vc (ment l k d)).set j (e.1, vc v)), .pr (Plain (flatE (mapE kc vc (mput l k v))))], mst_of v d, plainE hk hv, trivial⟩
end

/-! ### Numbers as keys -/
/-! ### Lists of lists -/
section
variable {P : Program}
theorem d_plain {α : Type} {c : α → List SV} (hc : ∀ x, (c x).all SV.plain = true) (l : List α) : Plain (flat c l) := flat_plain hc
/-- a list out of a list of lists -/
def St.D {α : Type} {c : α → List SV} {c2 : List α → List SV} (es : Nat) (hc2 : ∀ x, c2 x = [.d (flat c x) x.length es]) (l : List (List α)) (i : Int) (h : 0 ≤ i ∧ i < (l.length : Int) := by omega) (hc : ∀ x, (c x).all SV.plain = true := by exact fun _ => rfl) : St P :=
  ⟨[.ld [.d (flat c (l.getD i.toNat default)) (l.getD i.toNat default).length es]], [.pr (((flat c2 l).drop (0 + i.toNat * 1)).take 1 = [.d (flat c (l.getD i.toNat default)) (l.getD i.toNat default).length es]), .pr (Plain (flat c (l.getD i.toNat default)))],
    by
      have h1 : ∀ x, (c2 x).length = 1 := fun x => by rw [hc2]; rfl
      have := ld_at h1 l i 0 1 h (by decide)
      rw [Nat.add_zero] at this
      show _ = _
      rw [this, hc2]; rfl, d_plain hc _, trivial⟩
/-- zeros -/
theorem rep_flat {α : Type} {c : α → List SV} {z : α} (n : Nat) : flat c (List.replicate n z) = (List.replicate n (c z)).flatten := by
  unfold flat
  rw [List.flatMap_def, List.map_replicate]
def St.Z {α : Type} (c : α → List SV) (z : α) (zs : List SV) (n : Int) (bytes : Nat) (h : 0 ≤ n ∧ n.toNat * bytes ≤ 2 ^ 47 ∧ n ≤ 2 ^ 47 := by omega) (e : c z = zs := by rfl) : St P :=
  ⟨[.ld (flat c (List.replicate n.toNat z))], [.pr (0 ≤ n ∧ n.toNat * bytes ≤ 2 ^ 47 ∧ n ≤ 2 ^ 47), .pr (n = n), .pr (flat c (List.replicate n.toNat z) = (List.replicate n.toNat zs).flatten)], h, rfl, by rw [← e]; exact rep_flat _, trivial⟩
theorem flat_drop {α : Type} {c : α → List SV} {es : Nat} (hc : ∀ x, (c x).length = es) : ∀ (l : List α) (n : Nat), (flat c l).drop (n * es) = flat c (l.drop n)
  | [], n => by simp [flat]
  | x :: l, 0 => by simp
  | x :: l, n + 1 => by
    rw [flat_cons, Nat.add_mul, Nat.one_mul, Nat.add_comm, ← List.drop_drop, List.drop_left' (hc x), flat_drop hc l n]; simp
theorem flat_take {α : Type} {c : α → List SV} {es : Nat} (hc : ∀ x, (c x).length = es) : ∀ (l : List α) (n : Nat), (flat c l).take (n * es) = flat c (l.take n)
  | [], n => by simp [flat]
  | x :: l, 0 => by simp [flat]
  | x :: l, n + 1 => by
    rw [flat_cons, Nat.add_mul, Nat.one_mul, Nat.add_comm, ← hc x, List.take_length_add_append, hc x, flat_take hc l n]; simp [flat_cons]
/-- a part of a list -/
def part {α : Type} (l : List α) (a b : Int) : List α := (l.drop a.toNat).take (b.toNat - a.toNat)
def St.S {α : Type} {c : α → List SV} {es : Nat} (hc : ∀ x, (c x).length = es) (l : List α) (a b : Int) (n : Nat) (h : 0 ≤ a ∧ a ≤ b ∧ b ≤ (n : Int) := by omega) : St P :=
  ⟨[.ld (flat c (part l a b))], [.pr (0 ≤ a ∧ a ≤ b ∧ b ≤ (n : Int)), .pr (flat c (part l a b) = ((flat c l).drop (0 + a.toNat * es)).take ((b.toNat - a.toNat) * es))], h, by rw [Nat.zero_add, flat_drop hc, flat_take hc]; rfl, trivial⟩
end
end Go.Aw

namespace Go.Proofs.YtidhogejnafhaaaGreat
open Go.Proofs Go.Aw Go.RowKit
set_option maxRecDepth 100000
set_option linter.unusedVariables false
set_option linter.unusedSimpArgs false

noncomputable def T0 := conv Tryz.prog
theorem hT : TOk Tryz.prog T0 := fun _ _ h => h
theorem hm : Tryz.prog.follows .mixedOrders = true := by kernel_rfl
def W (n : Int) : Int := IntKind.wrap .i64 n
theorem W_def (n : Int) : W n = if n % 18446744073709551616 ≥ 9223372036854775808 then n % 18446744073709551616 - 18446744073709551616 else n % 18446744073709551616 := by
  unfold W IntKind.wrap
  simp [IntKind.bits, IntKind.signed]
theorem W_eq {n : Int} (h1 : -9223372036854775808 ≤ n) (h2 : n < 9223372036854775808) : W n = n := by
  rw [W_def]; split <;> omega
theorem shr_eq (x : Int) (k : Nat) {m : Nat} (hm : (2 : Int) ^ (min (Int.toNat k) 64) = m) : Int.fdiv x (2 ^ (min (Int.toNat k) 64)) = x / m := by
  rw [hm]; exact Int.fdiv_eq_ediv_of_nonneg _ (by omega)
theorem mid1_eq {a b : Int} (h : 0 ≤ a ∧ a ≤ b ∧ b ≤ 2147483648) : W (Int.tdiv (W ((W (a + b)) + 1)) 2) = (a + b + 1) / 2 := by
  rw [W_eq (n := a + b) (by omega) (by omega), W_eq (n := a + b + 1) (by omega) (by omega), Int.tdiv_eq_ediv_of_nonneg (by omega), W_eq (by omega) (by omega)]
theorem mid2_eq {a b : Int} (h : 0 ≤ a ∧ a ≤ b ∧ b ≤ 2147483648) : W ((W (Int.tdiv (W ((W (a + b)) + 1)) 2)) - 1) = (a + b + 1) / 2 - 1 := by
  rw [mid1_eq h, W_eq (by omega) (by omega)]
theorem u64_nn (n : Int) : 0 ≤ IntKind.wrap .u64 n := by
  simp only [IntKind.wrap, IntKind.bits, IntKind.signed]
  simp
  omega
theorem bool_tf (b : Bool) : b = true ∨ b = false := by cases b <;> simp
/-- the cells of a panel, of a point, of a span -/
def k9 (x : (Int × Int × Int) × (Int × Int × Int) × Int × Int × Int) : List SV := [(iv x.1.1), (iv x.1.2.1), (iv x.1.2.2), (iv x.2.1.1), (iv x.2.1.2.1), (iv x.2.1.2.2), (iv x.2.2.1), (iv x.2.2.2.1), (iv x.2.2.2.2)]
def k3 (x : Int × Int × Int) : List SV := [(iv x.1), (iv x.2.1), (iv x.2.2)]
def k2 (x : Int × Int) : List SV := [(iv x.1), (iv x.2)]
section
variable {cx : Cx} {k : List K} {s : LS} {base : Nat} {Q : Exit → Act → World → Prop}
theorem rt {fn : Func} (sts : List (St Tryz.prog)) (ads : List Adj) (ks : List Nat) (hb : cx.base = base) {res : SV} {nb : List BK}
    (h : retOf T0 fn.results.toList base [] ks (adjO ads (run T0 5000 k s (stO sts))) = some (res, nb, [], stB sts)) : Aw.Good Tryz.prog none 9 (bodyPost Tryz.prog fn (RR cx res nb [])) cx [] k s := ret_s hT hm sts ads ks hb h
theorem en (sts : List (St Tryz.prog)) (ads : List Adj) (ts ks : List Nat) (hb : cx.base = base) (body : Code) (k' : List K) (s' : LS) (m : Nat)
    (h : enterOf base ts ks (adjO ads (run T0 5000 k s (stO sts))) = some (body, k', s', stB sts)) (hg : Aw.Good Tryz.prog none 9 Q cx [] (.l body m :: k') s') : Aw.Good Tryz.prog none 9 Q cx [] k s := enter_s hT hm sts ads ts ks hb body k' s' m h hg
theorem ba {m : Nat} (sts : List (St Tryz.prog)) (ads : List Adj) (ts ks : List Nat) (hb : cx.base = base) (body : Code) (k' : List K) (s' : LS)
    (h : backOf base ts ks (adjO ads (run T0 5000 k s (stO sts))) = some (body, m, k', s', stB sts)) (hg : Aw.Good Tryz.prog none 9 Q cx [] (.l body m :: k') s') : Aw.Good Tryz.prog none 9 Q cx [] k s := back_s hT hm sts ads ts ks hb body k' s' h hg
theorem ga (sts : List (St Tryz.prog)) (ads : List Adj) (ts ks : List Nat) (hb : cx.base = base) (x : Code) (k' : List K) (s' : LS)
    (h : atOf base ts ks (adjO ads (run T0 5000 k s (stO sts))) = some (x, k', s', stB sts)) (hg : Aw.Good Tryz.prog none 9 Q cx [] (.c x :: k') s') : Aw.Good Tryz.prog none 9 Q cx [] k s := at_s hT hm sts ads ts ks hb x k' s' h hg
end

/-- facet/field.times -/
def F97 (a0 : Int × Int × Int) (a1 : Int) : Int × Int × Int :=
  ((W (a1 * a0.1)), (W (a1 * a0.2.1)), (W (a1 * a0.2.2)))

theorem C97 (a0 : Int × Int × Int) (a1 : Int) : Con Tryz.prog 97 [(.a (k3 a0)), (iv a1)] [] (.a (k3 (F97 a0 a1))) [] := by
  refine con_s Tryz.func97 (by kernel_rfl) fun cx hcx => ?_
  have e := Eq.refl (F97 a0 a1); conv at e => rhs; simp only [F97]
  rw [e]
  exact rt [] [] [] hcx (by kernel_rfl)

/-- facet/field.middle -/
def F160 (a0 : Int × Int × Int) (a1 : Int × Int × Int) : Int × Int × Int :=
  ((W (a0.1 + a1.1)), (W (a0.2.1 + a1.2.1)), (W (a0.2.2 + a1.2.2)))

theorem C160 (a0 : Int × Int × Int) (a1 : Int × Int × Int) : Con Tryz.prog 160 [(.a (k3 a0)), (.a (k3 a1))] [] (.a (k3 (F160 a0 a1))) [] := by
  refine con_s Tryz.func160 (by kernel_rfl) fun cx hcx => ?_
  have e := Eq.refl (F160 a0 a1); conv at e => rhs; simp only [F160]
  rw [e]
  exact rt [] [] [] hcx (by kernel_rfl)

/-- a panel's cells -/
def cP (x : (Int × Int × Int) × (Int × Int × Int) × Int × Int × Int) : List SV := [iv x.1.1, iv x.1.2.1, iv x.1.2.2, iv x.2.1.1, iv x.2.1.2.1, iv x.2.1.2.2, iv x.2.2.1, iv x.2.2.2.1, iv x.2.2.2.2]
def encP (x : (Int × Int × Int) × (Int × Int × Int) × Int × Int × Int) : Value := .agg #[.int .i64 x.1.1, .int .i64 x.1.2.1, .int .i64 x.1.2.2, .int .i64 x.2.1.1, .int .i64 x.2.1.2.1, .int .i64 x.2.1.2.2, .int .i64 x.2.2.1, .int .i64 x.2.2.2.1, .int .i64 x.2.2.2.2]
theorem encP_rel (ρ : Env) (x : (Int × Int × Int) × (Int × Int × Int) × Int × Int × Int) : Rel ρ (.a (cP x)) (encP x) := by
  simp only [Rel]; exact ⟨_, rfl, by simp [cP, Rels, Rel, iv]⟩
theorem cP_has (x : (Int × Int × Int) × (Int × Int × Int) × Int × Int × Int) (k : Nat) : ¬ (SV.a (cP x)).has k := by
  simp [cP, SV.has, SV.hasl, iv]
def yv (l : Nat) : Value := .func (.yield l) #[] #[]
def q1 (p : (Int × Int × Int) × (Int × Int × Int) × Int × Int × Int) : (Int × Int × Int) × (Int × Int × Int) × Int × Int × Int := (F97 p.1 2, F160 p.1 p.2.1, F160 p.2.2 p.1)
def q2 (p : (Int × Int × Int) × (Int × Int × Int) × Int × Int × Int) : (Int × Int × Int) × (Int × Int × Int) × Int × Int × Int := (F160 p.1 p.2.1, F97 p.2.1 2, F160 p.2.1 p.2.2)
def q3 (p : (Int × Int × Int) × (Int × Int × Int) × Int × Int × Int) : (Int × Int × Int) × (Int × Int × Int) × Int × Int × Int := (F160 p.2.2 p.1, F160 p.2.1 p.2.2, F97 p.2.2 2)
def q4 (p : (Int × Int × Int) × (Int × Int × Int) × Int × Int × Int) : (Int × Int × Int) × (Int × Int × Int) × Int × Int × Int := (F160 p.1 p.2.1, F160 p.2.1 p.2.2, F160 p.2.2 p.1)
/-- the parts of a panel, in the order in which they come -/
def cutL : Nat → (Int × Int × Int) × (Int × Int × Int) × Int × Int × Int → List ((Int × Int × Int) × (Int × Int × Int) × Int × Int × Int)
  | 0, p => [p]
  | d + 1, p => cutL d (q1 p) ++ (cutL d (q2 p) ++ (cutL d (q3 p) ++ cutL d (q4 p)))
/-- what the visiting function keeps to -/
def VisitAt (l : Nat) (J : Nat → (Nat → Prop) → World → Prop) (Jx : (Nat → Prop) → World → Prop) (xs : List ((Int × Int × Int) × (Int × Int × Int) × Int × Int × Int)) (d : Nat) : Prop :=
  ∀ (p : (Int × Int × Int) × (Int × Int × Int) × Int × Int × Int) (i : Nat) (S : Nat → Prop) (W : World) (ρ : Env) (vs : List Value), Rels ρ [.a (cP p), iv d, .p 0 0, .p 1 0] vs →
    BRep ρ (fun b => W.heap.size ≤ b) W 0 (.live false false [.v (yv l)]) → BRep ρ (fun b => W.heap.size ≤ b) W 1 (.live false false [.f 159 [.p 0 0, .p 1 0]]) →
    (∀ k, k < 2 → ∀ b o n, ρ k = some (b, o, n) → ¬ S b) → J i S W → (∀ j x, (cutL d p)[j]? = some x → xs[i + j]? = some x) →
    Calls Tryz.prog 159 vs.toArray W (VR J Jx (i + (cutL d p).length) S W)

noncomputable def OY : Array Oper := match (codeAtD [1, 0, 1, 0, 0] [] (Tryz.f159.body.getD .skip)).1 with
  | .region _ ops _ => ops
  | _ => #[]
noncomputable def KY : List K := (codeAtD [1, 0, 1, 0, 0] [] (Tryz.f159.body.getD .skip)).2
noncomputable def OV : Array Oper := match (codeAtD [1, 1, 1, 1, 0, 1, 0, 0, 1, 1, 0, 0, 1, 0] [0] (Tryz.f159.body.getD .skip)).1 with
  | .region _ ops _ => ops
  | _ => #[]
noncomputable def KV (m : Nat) : List K := (codeAtD [1, 1, 1, 1, 0, 1, 0, 0, 1, 1, 0, 0, 1, 0] [m] (Tryz.f159.body.getD .skip)).2
noncomputable def oY : Oper := OY.toList.getD 2 default
noncomputable def oV : Oper := OV.toList.getD 4 default
noncomputable def callTs (o : Oper) : Array TypeId := match o.op with
  | .call c => c.argTypes
  | _ => #[]
theorem oY_op : oY.op = .call { callee := .value (.tmp 17), args := #[.tmp 18], argTypes := callTs oY } := by kernel_rfl
theorem oV_op : oV.op = .call { callee := .value (.tmp 66), args := #[.tmp 67, .tmp 69], argTypes := callTs oV } := by kernel_rfl
theorem oY_split : OY.toList = OY.toList.take 2 ++ oY :: OY.toList.drop 3 := by kernel_rfl
theorem oV_split : OV.toList = OV.toList.take 4 ++ oV :: OV.toList.drop 5 := by kernel_rfl
theorem ent159 : Enters Tryz.prog 159 := ent Tryz.func159 (by kernel_rfl) rfl
theorem ent158 : Enters Tryz.prog 158 := ent Tryz.func158 (by kernel_rfl) rfl

def zY (l : Nat) (p : (Int × Int × Int) × (Int × Int × Int) × Int × Int × Int) : LS := ⟨[.u, .u, .p 0 0, .u, .p 2 0, .u, .u, .u, .u, .u, .u, .u, .u, .u, .u, .u, .u, .u, .u, .u, .u, .u, .u, .u, .u, .u, .u, .u, .u, .u, .u, .u, .u, .u, .u, .u, .u, .u, .u, .u, .u, .u, .u, .u, .u, .u, .u, .u, .u, .u, .u, .u, .u, .u, .u, .u, .u, .u, .u, .u, .u, .u, .u, .u, .u, .u, .u, .u, .u, .u, .u, .u, .u], [.live false false [.v (yv l)], .live false false [.f 159 [.p 0 0, .p 1 0]], .live true false (cP p)]⟩
def zY1 (l : Nat) (p : (Int × Int × Int) × (Int × Int × Int) × Int × Int × Int) : LS := ⟨[.u, .u, .p 0 0, .u, .p 2 0, .u, .u, .u, .u, .u, .u, .u, .u, .u, .u, .u, .u, .v (yv l), .a (cP p), .u, .u, .u, .u, .u, .u, .u, .u, .u, .u, .u, .u, .u, .u, .u, .u, .u, .u, .u, .u, .u, .u, .u, .u, .u, .u, .u, .u, .u, .u, .u, .u, .u, .u, .u, .u, .u, .u, .u, .u, .u, .u, .u, .u, .u, .u, .u, .u, .u, .u, .u, .u, .u, .u], [.live false false [.v (yv l)], .live false false [.f 159 [.p 0 0, .p 1 0]], .live true false (cP p)]⟩
def zY3 (l : Nat) (p : (Int × Int × Int) × (Int × Int × Int) × Int × Int × Int) (b : Bool) : LS := ⟨[.u, .u, .p 0 0, .u, .p 2 0, .u, .v (.bool b), .u, .u, .u, .u, .u, .u, .u, .u, .u, .u, .v (yv l), .a (cP p), .v (.bool b), .u, .u, .u, .u, .u, .u, .u, .u, .u, .u, .u, .u, .u, .u, .u, .u, .u, .u, .u, .u, .u, .u, .u, .u, .u, .u, .u, .u, .u, .u, .u, .u, .u, .u, .u, .u, .u, .u, .u, .u, .u, .u, .u, .u, .u, .u, .u, .u, .u, .u, .u, .u, .u], [.live false false [.v (yv l)], .live false false [.f 159 [.p 0 0, .p 1 0]], .live false false (cP p)]⟩

def zV1 (l : Nat) (p : (Int × Int × Int) × (Int × Int × Int) × Int × Int × Int) (d : Int) : LS := ⟨[.u, iv d, .u, .p 1 0, .u, .u, .u, .u, .u, .u, .u, .u, .u, .u, .p 3 0, .u, .u, .u, .u, .u, .u, .u, .u, .u, .u, .u, .u, .u, .u, .u, .u, .u, .u, .u, .u, .u, .u, .u, .u, .u, .u, .u, .u, .u, .u, .u, .u, .u, .u, .u, .u, .u, .u, .u, .u, .u, .u, .u, .u, .u, .s 2 0 4 9, iv 4, iv 0, .u, .u, .u, .u, .u, .u, .u, .u, .u, .u], [.live false false [.v (yv l)], .live false false [.f 159 [.p 0 0, .p 1 0]], .live true false (cP (q1 p) ++ (cP (q2 p) ++ (cP (q3 p) ++ cP (q4 p)))), .live true false (cP (q1 p))]⟩
def zV11 (l : Nat) (p : (Int × Int × Int) × (Int × Int × Int) × Int × Int × Int) (d : Int) : LS := ⟨[.u, iv d, .u, .p 1 0, .u, .u, .u, .u, .u, .u, .u, .u, .u, .u, .p 3 0, .u, .u, .u, .u, .u, .u, .u, .u, .u, .u, .u, .u, .u, .u, .u, .u, .u, .u, .u, .u, .u, .u, .u, .u, .u, .u, .u, .u, .u, .u, .u, .u, .u, .u, .u, .u, .u, .u, .u, .u, .u, .u, .u, .u, .u, .s 2 0 4 9, iv 4, iv 0, .u, .u, .u, .f 159 [.p 0 0, .p 1 0], .a (cP (q1 p)), iv d, iv (W (d - 1)), .u, .u, .u], [.live false false [.v (yv l)], .live false false [.f 159 [.p 0 0, .p 1 0]], .live true false (cP (q1 p) ++ (cP (q2 p) ++ (cP (q3 p) ++ cP (q4 p)))), .live true false (cP (q1 p))]⟩
def zV13 (l : Nat) (p : (Int × Int × Int) × (Int × Int × Int) × Int × Int × Int) (d : Int) (b : Bool) : LS := ⟨[.u, iv d, .u, .p 1 0, .u, .u, .u, .u, .u, .u, .u, .u, .u, .u, .p 3 0, .u, .u, .u, .u, .u, .u, .u, .u, .u, .u, .u, .u, .u, .u, .u, .u, .u, .u, .u, .u, .u, .u, .u, .u, .u, .u, .u, .u, .u, .u, .u, .u, .u, .u, .u, .u, .u, .u, .u, .u, .u, .u, .u, .u, .u, .s 2 0 4 9, iv 4, iv 0, .u, .u, .u, .f 159 [.p 0 0, .p 1 0], .a (cP (q1 p)), iv d, iv (W (d - 1)), .v (.bool b), .v (.bool (!b)), .u], [.live false false [.v (yv l)], .live false false [.f 159 [.p 0 0, .p 1 0]], .live false false (cP (q1 p) ++ (cP (q2 p) ++ (cP (q3 p) ++ cP (q4 p)))), .live false false (cP (q1 p))]⟩

def zV2 (l : Nat) (p : (Int × Int × Int) × (Int × Int × Int) × Int × Int × Int) (d : Int) : LS := ⟨[.u, iv d, .u, .p 1 0, .u, .u, .u, .u, .u, .u, .u, .u, .u, .u, .p 4 0, .u, .u, .u, .u, .u, .u, .u, .u, .u, .u, .u, .u, .u, .u, .u, .u, .u, .u, .u, .u, .u, .u, .u, .u, .u, .u, .u, .u, .u, .u, .u, .u, .u, .u, .u, .u, .u, .u, .u, .u, .u, .u, .u, .u, .u, .s 2 0 4 9, iv 4, iv 1, .u, .u, .u, .u, .u, .u, .u, .u, .u, .u], [.live false false [.v (yv l)], .live false false [.f 159 [.p 0 0, .p 1 0]], .live false false (cP (q1 p) ++ (cP (q2 p) ++ (cP (q3 p) ++ cP (q4 p)))), .live false false (cP (q1 p)), .live true false (cP (q2 p))]⟩
def zV21 (l : Nat) (p : (Int × Int × Int) × (Int × Int × Int) × Int × Int × Int) (d : Int) : LS := ⟨[.u, iv d, .u, .p 1 0, .u, .u, .u, .u, .u, .u, .u, .u, .u, .u, .p 4 0, .u, .u, .u, .u, .u, .u, .u, .u, .u, .u, .u, .u, .u, .u, .u, .u, .u, .u, .u, .u, .u, .u, .u, .u, .u, .u, .u, .u, .u, .u, .u, .u, .u, .u, .u, .u, .u, .u, .u, .u, .u, .u, .u, .u, .u, .s 2 0 4 9, iv 4, iv 1, .u, .u, .u, .f 159 [.p 0 0, .p 1 0], .a (cP (q2 p)), iv d, iv (W (d - 1)), .u, .u, .u], [.live false false [.v (yv l)], .live false false [.f 159 [.p 0 0, .p 1 0]], .live false false (cP (q1 p) ++ (cP (q2 p) ++ (cP (q3 p) ++ cP (q4 p)))), .live false false (cP (q1 p)), .live true false (cP (q2 p))]⟩
def zV23 (l : Nat) (p : (Int × Int × Int) × (Int × Int × Int) × Int × Int × Int) (d : Int) (b : Bool) : LS := ⟨[.u, iv d, .u, .p 1 0, .u, .u, .u, .u, .u, .u, .u, .u, .u, .u, .p 4 0, .u, .u, .u, .u, .u, .u, .u, .u, .u, .u, .u, .u, .u, .u, .u, .u, .u, .u, .u, .u, .u, .u, .u, .u, .u, .u, .u, .u, .u, .u, .u, .u, .u, .u, .u, .u, .u, .u, .u, .u, .u, .u, .u, .u, .u, .s 2 0 4 9, iv 4, iv 1, .u, .u, .u, .f 159 [.p 0 0, .p 1 0], .a (cP (q2 p)), iv d, iv (W (d - 1)), .v (.bool b), .v (.bool (!b)), .u], [.live false false [.v (yv l)], .live false false [.f 159 [.p 0 0, .p 1 0]], .live false false (cP (q1 p) ++ (cP (q2 p) ++ (cP (q3 p) ++ cP (q4 p)))), .live false false (cP (q1 p)), .live false false (cP (q2 p))]⟩

def zV3 (l : Nat) (p : (Int × Int × Int) × (Int × Int × Int) × Int × Int × Int) (d : Int) : LS := ⟨[.u, iv d, .u, .p 1 0, .u, .u, .u, .u, .u, .u, .u, .u, .u, .u, .p 5 0, .u, .u, .u, .u, .u, .u, .u, .u, .u, .u, .u, .u, .u, .u, .u, .u, .u, .u, .u, .u, .u, .u, .u, .u, .u, .u, .u, .u, .u, .u, .u, .u, .u, .u, .u, .u, .u, .u, .u, .u, .u, .u, .u, .u, .u, .s 2 0 4 9, iv 4, iv 2, .u, .u, .u, .u, .u, .u, .u, .u, .u, .u], [.live false false [.v (yv l)], .live false false [.f 159 [.p 0 0, .p 1 0]], .live false false (cP (q1 p) ++ (cP (q2 p) ++ (cP (q3 p) ++ cP (q4 p)))), .live false false (cP (q1 p)), .live false false (cP (q2 p)), .live true false (cP (q3 p))]⟩
def zV31 (l : Nat) (p : (Int × Int × Int) × (Int × Int × Int) × Int × Int × Int) (d : Int) : LS := ⟨[.u, iv d, .u, .p 1 0, .u, .u, .u, .u, .u, .u, .u, .u, .u, .u, .p 5 0, .u, .u, .u, .u, .u, .u, .u, .u, .u, .u, .u, .u, .u, .u, .u, .u, .u, .u, .u, .u, .u, .u, .u, .u, .u, .u, .u, .u, .u, .u, .u, .u, .u, .u, .u, .u, .u, .u, .u, .u, .u, .u, .u, .u, .u, .s 2 0 4 9, iv 4, iv 2, .u, .u, .u, .f 159 [.p 0 0, .p 1 0], .a (cP (q3 p)), iv d, iv (W (d - 1)), .u, .u, .u], [.live false false [.v (yv l)], .live false false [.f 159 [.p 0 0, .p 1 0]], .live false false (cP (q1 p) ++ (cP (q2 p) ++ (cP (q3 p) ++ cP (q4 p)))), .live false false (cP (q1 p)), .live false false (cP (q2 p)), .live true false (cP (q3 p))]⟩
def zV33 (l : Nat) (p : (Int × Int × Int) × (Int × Int × Int) × Int × Int × Int) (d : Int) (b : Bool) : LS := ⟨[.u, iv d, .u, .p 1 0, .u, .u, .u, .u, .u, .u, .u, .u, .u, .u, .p 5 0, .u, .u, .u, .u, .u, .u, .u, .u, .u, .u, .u, .u, .u, .u, .u, .u, .u, .u, .u, .u, .u, .u, .u, .u, .u, .u, .u, .u, .u, .u, .u, .u, .u, .u, .u, .u, .u, .u, .u, .u, .u, .u, .u, .u, .u, .s 2 0 4 9, iv 4, iv 2, .u, .u, .u, .f 159 [.p 0 0, .p 1 0], .a (cP (q3 p)), iv d, iv (W (d - 1)), .v (.bool b), .v (.bool (!b)), .u], [.live false false [.v (yv l)], .live false false [.f 159 [.p 0 0, .p 1 0]], .live false false (cP (q1 p) ++ (cP (q2 p) ++ (cP (q3 p) ++ cP (q4 p)))), .live false false (cP (q1 p)), .live false false (cP (q2 p)), .live false false (cP (q3 p))]⟩

def zV4 (l : Nat) (p : (Int × Int × Int) × (Int × Int × Int) × Int × Int × Int) (d : Int) : LS := ⟨[.u, iv d, .u, .p 1 0, .u, .u, .u, .u, .u, .u, .u, .u, .u, .u, .p 6 0, .u, .u, .u, .u, .u, .u, .u, .u, .u, .u, .u, .u, .u, .u, .u, .u, .u, .u, .u, .u, .u, .u, .u, .u, .u, .u, .u, .u, .u, .u, .u, .u, .u, .u, .u, .u, .u, .u, .u, .u, .u, .u, .u, .u, .u, .s 2 0 4 9, iv 4, iv 3, .u, .u, .u, .u, .u, .u, .u, .u, .u, .u], [.live false false [.v (yv l)], .live false false [.f 159 [.p 0 0, .p 1 0]], .live false false (cP (q1 p) ++ (cP (q2 p) ++ (cP (q3 p) ++ cP (q4 p)))), .live false false (cP (q1 p)), .live false false (cP (q2 p)), .live false false (cP (q3 p)), .live true false (cP (q4 p))]⟩
def zV41 (l : Nat) (p : (Int × Int × Int) × (Int × Int × Int) × Int × Int × Int) (d : Int) : LS := ⟨[.u, iv d, .u, .p 1 0, .u, .u, .u, .u, .u, .u, .u, .u, .u, .u, .p 6 0, .u, .u, .u, .u, .u, .u, .u, .u, .u, .u, .u, .u, .u, .u, .u, .u, .u, .u, .u, .u, .u, .u, .u, .u, .u, .u, .u, .u, .u, .u, .u, .u, .u, .u, .u, .u, .u, .u, .u, .u, .u, .u, .u, .u, .u, .s 2 0 4 9, iv 4, iv 3, .u, .u, .u, .f 159 [.p 0 0, .p 1 0], .a (cP (q4 p)), iv d, iv (W (d - 1)), .u, .u, .u], [.live false false [.v (yv l)], .live false false [.f 159 [.p 0 0, .p 1 0]], .live false false (cP (q1 p) ++ (cP (q2 p) ++ (cP (q3 p) ++ cP (q4 p)))), .live false false (cP (q1 p)), .live false false (cP (q2 p)), .live false false (cP (q3 p)), .live true false (cP (q4 p))]⟩
def zV43 (l : Nat) (p : (Int × Int × Int) × (Int × Int × Int) × Int × Int × Int) (d : Int) (b : Bool) : LS := ⟨[.u, iv d, .u, .p 1 0, .u, .u, .u, .u, .u, .u, .u, .u, .u, .u, .p 6 0, .u, .u, .u, .u, .u, .u, .u, .u, .u, .u, .u, .u, .u, .u, .u, .u, .u, .u, .u, .u, .u, .u, .u, .u, .u, .u, .u, .u, .u, .u, .u, .u, .u, .u, .u, .u, .u, .u, .u, .u, .u, .u, .u, .u, .u, .s 2 0 4 9, iv 4, iv 3, .u, .u, .u, .f 159 [.p 0 0, .p 1 0], .a (cP (q4 p)), iv d, iv (W (d - 1)), .v (.bool b), .v (.bool (!b)), .u], [.live false false [.v (yv l)], .live false false [.f 159 [.p 0 0, .p 1 0]], .live false false (cP (q1 p) ++ (cP (q2 p) ++ (cP (q3 p) ++ cP (q4 p)))), .live false false (cP (q1 p)), .live false false (cP (q2 p)), .live false false (cP (q3 p)), .live false false (cP (q4 p))]⟩

def vb : SV → Bool
  | .v _ | .b _ => true
  | _ => false
theorem rels_plain {ρ ρ' : Env} : ∀ {l : List SV} {vs us : List Value}, l.all vb = true → Rels ρ l vs → Rels ρ' l us → vs = us
  | [], [], [], _, _, _ => rfl
  | [], _ :: _, _, _, h, _ => by simp [Rels] at h
  | [], [], _ :: _, _, _, h => by simp [Rels] at h
  | _ :: _, [], _, _, h, _ => by simp [Rels] at h
  | _ :: _, _ :: _, [], _, _, h => by simp [Rels] at h
  | x :: l, y :: vs, z :: us, hp, h1, h2 => by
    simp only [List.all_cons, Bool.and_eq_true] at hp
    simp only [Rels] at h1 h2
    rw [rels_plain hp.2 h1.2 h2.2]
    have : y = z := by
      cases x <;> simp only [vb, Bool.false_eq_true, false_and] at hp
      · have a1 := h1.1; have a2 := h2.1; simp only [Rel] at a1 a2; rw [a1, a2]
      · have a1 := h1.1; have a2 := h2.1; simp only [Rel] at a1 a2; rw [a1, a2]
    rw [this]
theorem rels_cons {ρ : Env} {x : SV} {l : List SV} {y : Value} {m : List Value} (h : Rel ρ x y) (h' : Rels ρ l m) : Rels ρ (x :: l) (y :: m) := by simp only [Rels]; exact ⟨h, h'⟩
theorem sub_app {α : Type} {xs A B : List α} {i : Nat} (h : ∀ j x, (A ++ B)[j]? = some x → xs[i + j]? = some x) : (∀ j x, A[j]? = some x → xs[i + j]? = some x) ∧ (∀ j x, B[j]? = some x → xs[i + A.length + j]? = some x) :=
  ⟨fun j x hj => h j x (by rw [List.getElem?_append_left (List.getElem?_eq_some_iff.1 hj).1]; exact hj), fun j x hj => by
    have := h (A.length + j) x (by rw [List.getElem?_append_right (by omega), Nat.add_sub_cancel_left]; exact hj)
    rwa [← Nat.add_assoc] at this⟩

section
variable {l : Nat} {J : Nat → (Nat → Prop) → World → Prop} {Jx : (Nat → Prop) → World → Prop} {xs : List ((Int × Int × Int) × (Int × Int × Int) × Int × Int × Int)}

/-- the end of a visit -/
theorem visit_end (hJ : GrowsJ J) (hX : GrowsX Jx) {m m' : Nat} {W0 : World} {S : Nat → Prop} {cx : Cx} {b : Bool} (h1 : b = true → ∃ Sc, Seg J W0 S m' cx Sc) (h2 : b = false → SegX Jx W0 S cx) (hm : m' = m) (Wd : World) (hb : Below cx.w.heap.size cx.w Wd) :
    VR J Jx m S W0 (.returned (.bool b)) Wd := by
  subst hm
  cases b with
  | true =>
    obtain ⟨Sc, h⟩ := h1 rfl
    exact .inl ⟨rfl, Sc, hJ _ _ _ _ h.j hb, h.kept.grow hb, h.sub⟩
  | false =>
    have h := h2 rfl
    obtain ⟨Sc, hj⟩ := h.j
    exact .inr ⟨rfl, Sc, hX _ _ _ hj hb, h.kept.grow hb⟩

theorem visit0 (hJ : GrowsJ J) (hX : GrowsX Jx) (hB : BoundJ J) (hY : ∀ i x S W1, xs[i]? = some x → J i S W1 → YieldAt (Fw none) 9 Tryz.prog l #[encP x] W1 (YR J Jx i S W1)) : VisitAt l J Jx xs 0 := by
  intro p i S Wd ρ vs hargs hb0 hb1 hS hj hxs
  have hx : xs[i]? = some p := by have := hxs 0 p rfl; simpa using this
  refine calls_of_good (n := 9) (bs := [.live false false [.v (yv l)], .live false false [.f 159 [.p 0 0, .p 1 0]]]) Tryz.func159 rfl (by show 4 ≤ Tryz.f159.ntmps; decide) (by kernel_rfl) ⟨rfl, rfl, trivial⟩ (by kernel_rfl) (fun i => by rcases i with _ | _ | i <;> simp [BK.own]) (by kernel_rfl) hargs (fun i => by rcases i with _ | _ | i <;> first | exact hb0 | exact hb1 | simp [BRep]) (fun i => by rcases i with _ | _ | i <;> simp [BK.pl]) (fun cx hbase hw hρ hfz hown => ?_)
  subst hw
  have hd : ((((0 : Nat) : Int) : Int) == 0) = true := rfl
  refine at_of (T := T0) hT hm (f := 5000) (orc := [.d true, .stop 2]) [] [2, 4] [2] hbase (x := .region 2 OY false) (k' := KY) (s' := zY l p)
    (obs := [.eq ((((0 : Nat) : Int) : Int) == 0) true]) (by kernel_rfl) ⟨hd, trivial⟩ ?_
  have hseg : Seg J cx.w S i cx S := ⟨hj, Kept.refl _ _, fun b h => .inl h, fun k b o n hk h => hS k (by rw [hbase] at hk; exact hk) b o n ((hρ k).symm.trans h), hown, fun b o ho => by rw [hfz b] at ho; cases ho⟩
  refine visit_of (Jx := Jx) hT hJ hB (m := i + 1) hseg (OY.toList.take 2) oY (OY.toList.drop 3) oY_split (s1 := zY1 l p) (by kernel_rfl) (by kernel_rfl) 19 (by kernel_rfl) (of_decide_eq_true (by kernel_rfl)) 2 hbase (by kernel_rfl) (by kernel_rfl)
    (fun ρ a W2 hrep hsafe hj2 K Q' hK => ?_) (zY3 l p) (fun b => by kernel_rfl) (fun b cx' hb' h1 h2 => ?_)
  · have e1 := hrep.sl 17
    have e2 := hrep.sl 18
    refine op_yield oY_op (l := l) (vs := #[encP p]) ?_ ?_ (hY i p S W2 hx hj2) hK
    · exact e1
    · have : a.eval (.tmp 18) = encP p := by
        have e3 : Rel ρ (.a (cP p)) (a.tmps.getD 18 undef) := e2
        simp only [Rel] at e3
        obtain ⟨vs, hv, hr⟩ := e3
        have h' := encP_rel ρ p
        simp only [Rel] at h'
        obtain ⟨us, hu, hr'⟩ := h'
        show a.tmps.getD 18 undef = encP p
        rw [hv, hu]
        have : vs = us := rels_plain (by simp [cP, vb, iv]) hr hr'
        rw [this]
      simp [this]
  · have hown' : ∀ c, ¬ cx'.own c := by
      cases b with
      | true => obtain ⟨Sc, h⟩ := h1 rfl; exact h.own
      | false => exact (h2 rfl).own
    exact retB_of (T := T0) hT hm (f := 5000) (orc := []) (b := b) (obs := []) (by cases b <;> kernel_rfl) trivial hown' (fun Wd hW => visit_end hJ hX h1 h2 rfl Wd hW)

/-- a visit within a visit -/
theorem vcall {d : Nat} (ih : VisitAt l J Jx xs d) {cx : Cx} {N : Nat} {D : List Deferred} {ρ : Env} {s : FS} {a : Act} {Wd : World} (hrep : Rep cx N D ρ s a Wd) {p : (Int × Int × Int) × (Int × Int × Int) × Int × Int × Int} {i : Nat} {S : Nat → Prop}
    (hdl : d < 1000) (e1 : s.sl 66 = .f 159 [.p 0 0, .p 1 0]) (e2 : s.sl 67 = .a (cP p)) (e3 : s.sl 69 = iv (W (((d + 1 : Nat) : Int) - 1))) (e4 : s.bk 0 = .live false false [.v (yv l)]) (e5 : s.bk 1 = .live false false [.f 159 [.p 0 0, .p 1 0]])
    (hS : ∀ k, k < 2 → ∀ b o n, ρ k = some (b, o, n) → ¬ S b) (hj : J i S Wd) (hxs : ∀ j x, (cutL d p)[j]? = some x → xs[i + j]? = some x)
    (K : Act → World → Prop) (Q : Exit → Act → World → Prop) (hK : ∀ e Wd', VR J Jx (i + (cutL d p).length) S Wd e Wd' → ∃ v, e = .returned v ∧ K (a.put oV.dst v) Wd') : oV.wpIn (Fw none) 9 Tryz.prog a Wd K Q := by
  have r1 := hrep.sl 66
  have r2 := hrep.sl 67
  have r3 := hrep.sl 69
  rw [e1] at r1; rw [e2] at r2; rw [e3] at r3
  have hw : W (((d + 1 : Nat) : Int) - 1) = (d : Int) := by rw [W_eq] <;> omega
  rw [hw] at r3
  simp only [Rel] at r1
  obtain ⟨vs, hv, hc⟩ := r1
  have b0 := hrep.bk 0
  have b1 := hrep.bk 1
  rw [e4] at b0; rw [e5] at b1
  refine op_call oV_op (g := 159) (caps := vs) hv ent159 (ih p i S Wd ρ _ ?_ b0.ro b1.ro hS hj hxs) hK
  exact rels_cons r2 (rels_cons r3 hc)

theorem visitS (hJ : GrowsJ J) (hX : GrowsX Jx) (hB : BoundJ J) {d : Nat} (hdl : d < 1000) (ih : VisitAt l J Jx xs d) : VisitAt l J Jx xs (d + 1) := by
  intro p i S Wd ρ vs hargs hb0 hb1 hS hj hxs
  obtain ⟨hx1, hr1⟩ := sub_app hxs
  obtain ⟨hx2, hr2⟩ := sub_app hr1
  obtain ⟨hx3, hx4⟩ := sub_app hr2
  refine calls_of_good (n := 9) (bs := [.live false false [.v (yv l)], .live false false [.f 159 [.p 0 0, .p 1 0]]]) Tryz.func159 rfl (by show 4 ≤ Tryz.f159.ntmps; decide) (by kernel_rfl) ⟨rfl, rfl, trivial⟩ (by kernel_rfl) (fun i => by rcases i with _ | _ | i <;> simp [BK.own]) (by kernel_rfl) hargs (fun i => by rcases i with _ | _ | i <;> first | exact hb0 | exact hb1 | simp [BRep]) (fun i => by rcases i with _ | _ | i <;> simp [BK.pl]) (fun cx hbase hw hρ hfz hown => ?_)
  subst hw
  have hd : ((((d + 1 : Nat) : Int) : Int) == 0) = false := by rw [beq_eq_false_iff_ne]; omega
  have hseg : Seg J cx.w S i cx S := ⟨hj, Kept.refl _ _, fun b h => .inl h, fun k b o n hk h => hS k (by rw [hbase] at hk; exact hk) b o n ((hρ k).symm.trans h), hown, fun b o ho => by rw [hfz b] at ho; cases ho⟩
  refine at_of (T := T0) hT hm (f := 5000) (orc := [.d false, .call [] (.a [(iv (F97 p.1 2).1), (iv (F97 p.1 2).2.1), (iv (F97 p.1 2).2.2)]) [], .call [] (.a [(iv (F97 p.2.1 2).1), (iv (F97 p.2.1 2).2.1), (iv (F97 p.2.1 2).2.2)]) [], .call [] (.a [(iv (F97 p.2.2 2).1), (iv (F97 p.2.2 2).2.1), (iv (F97 p.2.2 2).2.2)]) [], .call [] (.a [(iv (F160 p.1 p.2.1).1), (iv (F160 p.1 p.2.1).2.1), (iv (F160 p.1 p.2.1).2.2)]) [], .call [] (.a [(iv (F160 p.2.1 p.2.2).1), (iv (F160 p.2.1 p.2.2).2.1), (iv (F160 p.2.1 p.2.2).2.2)]) [], .call [] (.a [(iv (F160 p.2.2 p.1).1), (iv (F160 p.2.2 p.1).2.1), (iv (F160 p.2.2 p.1).2.2)]) [], .un 4, .d true, .stop 8]) [] [1, 3, 14, 60, 61, 62] [9, 10] hbase (x := .region 8 OV false) (k' := KV 4) (s' := zV1 l p (d + 1 : Nat))
    (obs := [.eq ((((d + 1 : Nat) : Int) : Int) == 0) false, .call 97 [(.a [(iv p.1.1), (iv p.1.2.1), (iv p.1.2.2)]), (iv 2)] [] (.a [(iv (F97 p.1 2).1), (iv (F97 p.1 2).2.1), (iv (F97 p.1 2).2.2)]) [], .call 97 [(.a [(iv p.2.1.1), (iv p.2.1.2.1), (iv p.2.1.2.2)]), (iv 2)] [] (.a [(iv (F97 p.2.1 2).1), (iv (F97 p.2.1 2).2.1), (iv (F97 p.2.1 2).2.2)]) [], .call 97 [(.a [(iv p.2.2.1), (iv p.2.2.2.1), (iv p.2.2.2.2)]), (iv 2)] [] (.a [(iv (F97 p.2.2 2).1), (iv (F97 p.2.2 2).2.1), (iv (F97 p.2.2 2).2.2)]) [], .call 160 [(.a [(iv p.1.1), (iv p.1.2.1), (iv p.1.2.2)]), (.a [(iv p.2.1.1), (iv p.2.1.2.1), (iv p.2.1.2.2)])] [] (.a [(iv (F160 p.1 p.2.1).1), (iv (F160 p.1 p.2.1).2.1), (iv (F160 p.1 p.2.1).2.2)]) [], .call 160 [(.a [(iv p.2.1.1), (iv p.2.1.2.1), (iv p.2.1.2.2)]), (.a [(iv p.2.2.1), (iv p.2.2.2.1), (iv p.2.2.2.2)])] [] (.a [(iv (F160 p.2.1 p.2.2).1), (iv (F160 p.2.1 p.2.2).2.1), (iv (F160 p.2.1 p.2.2).2.2)]) [], .call 160 [(.a [(iv p.2.2.1), (iv p.2.2.2.1), (iv p.2.2.2.2)]), (.a [(iv p.1.1), (iv p.1.2.1), (iv p.1.2.2)])] [] (.a [(iv (F160 p.2.2 p.1).1), (iv (F160 p.2.2 p.1).2.1), (iv (F160 p.2.2 p.1).2.2)]) [], .eq true true, .pr (0 ≤ (0 : Int) ∧ (0 : Int) < ((4 : Nat) : Int))]) (by kernel_rfl) ⟨hd, (C97 p.1 2), (C97 p.2.1 2), (C97 p.2.2 2), (C160 p.1 p.2.1), (C160 p.2.1 p.2.2), (C160 p.2.2 p.1), rfl, (show 0 ≤ (0 : Int) ∧ (0 : Int) < ((4 : Nat) : Int) from by decide), trivial⟩ ?_
  refine visit_of (Jx := Jx) hT hJ hB (m := i + (cutL d (q1 p)).length) hseg (OV.toList.take 4) oV (OV.toList.drop 5) oV_split (s1 := zV11 l p (d + 1 : Nat)) (by kernel_rfl) (by kernel_rfl) 70 (by kernel_rfl) (of_decide_eq_true (by kernel_rfl)) 2 hbase (by kernel_rfl) (by kernel_rfl)
    (fun ρ a W2 hrep hsafe hj2 K Q' hK => vcall ih hrep hdl rfl rfl rfl rfl rfl (fun k hk b o n h => (match k, hk, h with | 0, _, h => hsafe 0 _ _ _ rfl b o n h | 1, _, h => hsafe 1 _ _ _ rfl b o n h)) hj2 (fun j x hj => hx1 j x hj) K Q' hK) (zV13 l p (d + 1 : Nat)) (fun b => by kernel_rfl) (fun b cx hbase h1 h2 => ?_)
  cases b with
  | false =>
    exact retB_of (T := T0) hT hm (f := 5000) (orc := [.d true]) (b := false) (obs := [.eq (!false) true]) (by kernel_rfl) ⟨rfl, trivial⟩ (h2 rfl).own (fun W hW => visit_end (m' := i + (cutL (d + 1) p).length) hJ hX (fun h => by cases h) h2 rfl W hW)
  | true =>
    obtain ⟨Sc, hseg⟩ := h1 rfl
    refine at_of (T := T0) hT hm (f := 5000) (orc := [.d false, .un 0, .d true, .stop 8]) [] [1, 3, 14, 60, 61, 62] [4] hbase (x := .region 8 OV false) (k' := KV 3) (s' := zV2 l p (d + 1 : Nat))
      (obs := [.eq (!true) false, .eq (decide ((1 : Int) < 4)) true, .pr (0 ≤ (1 : Int) ∧ (1 : Int) < ((4 : Nat) : Int))]) (by kernel_rfl) ⟨rfl, rfl, (show 0 ≤ (1 : Int) ∧ (1 : Int) < ((4 : Nat) : Int) from by decide), trivial⟩ ?_
    refine visit_of (Jx := Jx) hT hJ hB (m := i + (cutL d (q1 p)).length + (cutL d (q2 p)).length) hseg (OV.toList.take 4) oV (OV.toList.drop 5) oV_split (s1 := zV21 l p (d + 1 : Nat)) (by kernel_rfl) (by kernel_rfl) 70 (by kernel_rfl) (of_decide_eq_true (by kernel_rfl)) 4 hbase (by kernel_rfl) (by kernel_rfl)
      (fun ρ a W2 hrep hsafe hj2 K Q' hK => vcall ih hrep hdl rfl rfl rfl rfl rfl (fun k hk b o n h => (match k, hk, h with | 0, _, h => hsafe 0 _ _ _ rfl b o n h | 1, _, h => hsafe 1 _ _ _ rfl b o n h)) hj2 (fun j x hj => hx2 j x hj) K Q' hK) (zV23 l p (d + 1 : Nat)) (fun b => by kernel_rfl) (fun b cx hbase h1 h2 => ?_)
    cases b with
    | false =>
      exact retB_of (T := T0) hT hm (f := 5000) (orc := [.d true]) (b := false) (obs := [.eq (!false) true]) (by kernel_rfl) ⟨rfl, trivial⟩ (h2 rfl).own (fun W hW => visit_end (m' := i + (cutL (d + 1) p).length) hJ hX (fun h => by cases h) h2 rfl W hW)
    | true =>
      obtain ⟨Sc, hseg⟩ := h1 rfl
      refine at_of (T := T0) hT hm (f := 5000) (orc := [.d false, .un 0, .d true, .stop 8]) [] [1, 3, 14, 60, 61, 62] [5] hbase (x := .region 8 OV false) (k' := KV 2) (s' := zV3 l p (d + 1 : Nat))
        (obs := [.eq (!true) false, .eq (decide ((2 : Int) < 4)) true, .pr (0 ≤ (2 : Int) ∧ (2 : Int) < ((4 : Nat) : Int))]) (by kernel_rfl) ⟨rfl, rfl, (show 0 ≤ (2 : Int) ∧ (2 : Int) < ((4 : Nat) : Int) from by decide), trivial⟩ ?_
      refine visit_of (Jx := Jx) hT hJ hB (m := i + (cutL d (q1 p)).length + (cutL d (q2 p)).length + (cutL d (q3 p)).length) hseg (OV.toList.take 4) oV (OV.toList.drop 5) oV_split (s1 := zV31 l p (d + 1 : Nat)) (by kernel_rfl) (by kernel_rfl) 70 (by kernel_rfl) (of_decide_eq_true (by kernel_rfl)) 5 hbase (by kernel_rfl) (by kernel_rfl)
        (fun ρ a W2 hrep hsafe hj2 K Q' hK => vcall ih hrep hdl rfl rfl rfl rfl rfl (fun k hk b o n h => (match k, hk, h with | 0, _, h => hsafe 0 _ _ _ rfl b o n h | 1, _, h => hsafe 1 _ _ _ rfl b o n h)) hj2 (fun j x hj => hx3 j x hj) K Q' hK) (zV33 l p (d + 1 : Nat)) (fun b => by kernel_rfl) (fun b cx hbase h1 h2 => ?_)
      cases b with
      | false =>
        exact retB_of (T := T0) hT hm (f := 5000) (orc := [.d true]) (b := false) (obs := [.eq (!false) true]) (by kernel_rfl) ⟨rfl, trivial⟩ (h2 rfl).own (fun W hW => visit_end (m' := i + (cutL (d + 1) p).length) hJ hX (fun h => by cases h) h2 rfl W hW)
      | true =>
        obtain ⟨Sc, hseg⟩ := h1 rfl
        refine at_of (T := T0) hT hm (f := 5000) (orc := [.d false, .un 0, .d true, .stop 8]) [] [1, 3, 14, 60, 61, 62] [6] hbase (x := .region 8 OV false) (k' := KV 1) (s' := zV4 l p (d + 1 : Nat))
          (obs := [.eq (!true) false, .eq (decide ((3 : Int) < 4)) true, .pr (0 ≤ (3 : Int) ∧ (3 : Int) < ((4 : Nat) : Int))]) (by kernel_rfl) ⟨rfl, rfl, (show 0 ≤ (3 : Int) ∧ (3 : Int) < ((4 : Nat) : Int) from by decide), trivial⟩ ?_
        refine visit_of (Jx := Jx) hT hJ hB (m := i + (cutL d (q1 p)).length + (cutL d (q2 p)).length + (cutL d (q3 p)).length + (cutL d (q4 p)).length) hseg (OV.toList.take 4) oV (OV.toList.drop 5) oV_split (s1 := zV41 l p (d + 1 : Nat)) (by kernel_rfl) (by kernel_rfl) 70 (by kernel_rfl) (of_decide_eq_true (by kernel_rfl)) 6 hbase (by kernel_rfl) (by kernel_rfl)
          (fun ρ a W2 hrep hsafe hj2 K Q' hK => vcall ih hrep hdl rfl rfl rfl rfl rfl (fun k hk b o n h => (match k, hk, h with | 0, _, h => hsafe 0 _ _ _ rfl b o n h | 1, _, h => hsafe 1 _ _ _ rfl b o n h)) hj2 (fun j x hj => hx4 j x hj) K Q' hK) (zV43 l p (d + 1 : Nat)) (fun b => by kernel_rfl) (fun b cx hbase h1 h2 => ?_)
        cases b with
        | false =>
          exact retB_of (T := T0) hT hm (f := 5000) (orc := [.d true]) (b := false) (obs := [.eq (!false) true]) (by kernel_rfl) ⟨rfl, trivial⟩ (h2 rfl).own (fun W hW => visit_end (m' := i + (cutL (d + 1) p).length) hJ hX (fun h => by cases h) h2 rfl W hW)
        | true =>
          exact retB_of (T := T0) hT hm (f := 5000) (orc := [.d false, .un 0, .d false]) (b := true) (obs := [.eq (!true) false, .eq (decide ((4 : Int) < 4)) false]) (by kernel_rfl) ⟨rfl, rfl, trivial⟩ (h1 rfl).choose_spec.own (fun W hW => visit_end hJ hX h1 h2 (by simp only [cutL, List.length_append]; omega) W hW)

theorem visit_all (hJ : GrowsJ J) (hX : GrowsX Jx) (hB : BoundJ J) (hY : ∀ i x S W1, xs[i]? = some x → J i S W1 → YieldAt (Fw none) 9 Tryz.prog l #[encP x] W1 (YR J Jx i S W1)) : ∀ d, d < 1000 → VisitAt l J Jx xs d
  | 0, _ => visit0 hJ hX hB hY
  | d + 1, h => visitS hJ hX hB (by omega) (visit_all hJ hX hB hY d (by omega))
end

noncomputable def O2 : Array Oper := match (codeAtD [1, 1, 1] [] (Tryz.f158.body.getD .skip)).1 with
  | .region _ ops _ => ops
  | _ => #[]
noncomputable def o2 : Oper := O2.toList.getD 3 default
theorem o2_op : o2.op = .call { callee := .value (.tmp 6), args := #[.tmp 7, .tmp 8], argTypes := callTs o2 } := by kernel_rfl
theorem o2_split : O2.toList = O2.toList.take 3 ++ [o2] := by kernel_rfl
def z2 (l : Nat) (p : (Int × Int × Int) × (Int × Int × Int) × Int × Int × Int) (d : Int) : LS := ⟨[.u, .p 0 0, .p 1 0, .u, .p 3 0, .u, .u, .u, .u, .u], [.live false false (cP p), .live false false [iv d], .live true false [.v (yv l)], .live true false [.f 159 [.p 2 0, .p 3 0]]]⟩
def z21 (l : Nat) (p : (Int × Int × Int) × (Int × Int × Int) × Int × Int × Int) (d : Int) : LS := ⟨[.u, .p 0 0, .p 1 0, .u, .p 3 0, .u, .f 159 [.p 2 0, .p 3 0], .a (cP p), iv d, .u], [.live false false (cP p), .live false false [iv d], .live true false [.v (yv l)], .live true false [.f 159 [.p 2 0, .p 3 0]]]⟩

/-- cut is an iterator over a panel's parts -/
theorem iter_cut (p : (Int × Int × Int) × (Int × Int × Int) × Int × Int × Int) (d : Nat) (hd : d < 1000) : Iter Tryz.prog 158 [.p 0 0, .p 1 0] [.live false false (cP p), .live false false [iv (d : Nat)]] encP (cutL d p) := by
  refine ⟨ent158, fun ρ Wd lb hcaps hbs hpl l J Jx S0 hJ hX hB hY h0 => ?_⟩
  have hcon : Calls Tryz.prog 158 ((Value.func (.yield l) #[] #[]) :: lb).toArray Wd fun e Wd' => (∃ v, e = .returned v) ∧ ∃ S', (J (cutL d p).length S' Wd' ∨ Jx S' Wd') ∧ Kept Wd S0 Wd' := by
    refine calls_of_good (n := 9) (args := [.v (yv l), .p 0 0, .p 1 0]) (bs := [.live false false (cP p), .live false false [iv (d : Nat)]]) Tryz.func158 rfl (by show 3 ≤ Tryz.f158.ntmps; decide) (by kernel_rfl) ⟨rfl, rfl, trivial⟩ (by kernel_rfl) (fun i => by rcases i with _ | _ | i <;> simp [BK.own]) (by kernel_rfl) ⟨rfl, hcaps⟩ hbs hpl (fun cx hbase hw hρ hfz hown => ?_)
    subst hw
    refine at_of (T := T0) hT hm (f := 5000) (orc := [.stop 3]) [] [1, 2, 4] [2, 3] hbase (x := .region 3 O2 false) (k' := []) (s' := z2 l p d)
      (obs := []) (by kernel_rfl) trivial ?_
    intro ρ a Wd hrep
    simp only [cont]
    refine wpIn_region ?_
    have hsz : O2.size = (O2.toList.take 3).length + (0 + 1) := by kernel_rfl
    have hget : ∀ j, O2[j]? = (O2.toList.take 3 ++ [o2])[j]? := fun j => by rw [← o2_split, Array.getElem?_toList]
    rw [hsz, range_split]
    refine ops_pre hT (O2.toList.take 3) 0 (z2 l p d) (z21 l p d) [] [] _ [] (evS_spec (T := T0) (obs := []) (by kernel_rfl)).choose_spec trivial (fun j o' hj => ?_) ρ a Wd hrep (fun ρ1 a1 W1 hrep1 hl1 => ?_)
    · rw [hget, Nat.zero_add, List.getElem?_append_left (List.getElem?_eq_some_iff.1 hj).1]; exact hj
    rw [wpOpsIn_cons]
    unfold wpOpIn
    have ho : O2[(O2.toList.take 3).length]? = some o2 := by rw [hget, List.getElem?_append_right (Nat.le_refl _)]; simp
    rw [ho]
    have hw : Region.wanted o2 (yielded O2 a1.tmps) = true := by
      have hg : o2.guard = none := by kernel_rfl
      unfold Region.wanted; rw [hg]
    simp only [hw, if_true]
    have hbel : Below cx.w.heap.size cx.w W1 := by
      have := hrep1.kept
      exact ⟨this.os, this.tape, this.output, this.size, fun k hk => this.block k hk (hown k)⟩
    have r1 := hrep1.sl 6
    have r2 := hrep1.sl 7
    have r3 := hrep1.sl 8
    have r1' : Rel ρ1 (.f 159 [.p 2 0, .p 3 0]) (a1.tmps.getD 6 undef) := r1
    have r2' : Rel ρ1 (.a (cP p)) (a1.tmps.getD 7 undef) := r2
    have r3' : Rel ρ1 (iv (d : Nat)) (a1.tmps.getD 8 undef) := r3
    simp only [Rel] at r1'
    obtain ⟨vs, hv, hc⟩ := r1'
    have own2 : ∀ b, cx.mine b → cx.w.heap.size ≤ b := fun b hb => hb.elim id (fun h => (hown b h).elim)
    have b2 := (renB_rep (ks := [2, 3]) (i := 0) (m := false) (x := .live true false [.v (yv l)]) (y := .live false false [.v (yv l)]) (M' := fun b => W1.heap.size ≤ b) rfl rfl trivial (hrep1.bk 2) (fun _ h => by cases h) (fun _ b hlt _ hM => absurd hM (Nat.not_le_of_lt hlt))).1
    have b3 := (renB_rep (ks := [2, 3]) (i := 1) (m := false) (x := .live true false [.f 159 [.p 2 0, .p 3 0]]) (y := .live false false [.f 159 [.p 0 0, .p 1 0]]) (M' := fun b => W1.heap.size ≤ b) rfl rfl trivial (hrep1.bk 3) (fun _ h => by cases h) (fun _ b hlt _ hM => absurd hM (Nat.not_le_of_lt hlt))).1
    have hS2 : ∀ k, k < 2 → ∀ b o n, envOf ρ1 [2, 3] k = some (b, o, n) → ¬ S0 b := fun k hk b o n h hSb => by
      have hlt := hB _ _ _ h0 b hSb
      have own : ∀ j, (z21 l p d).fs.bk j ≠ .un → ((z21 l p d).fs.bk j).own → ρ1 j = some (b, o, n) → False := fun j _ hj hρ => by
        have hb := hrep1.bk j
        cases hx : (z21 l p d).fs.bk j with
        | un => rw [hx] at hj; exact hj
        | dead => rw [hx] at hj; exact hj
        | map es =>
          rw [hx] at hb
          obtain ⟨b', n', arr, q1, q2, _⟩ := hb
          rw [hρ] at q1; cases q1
          have := own2 b q2; omega
        | live ow sy cs => cases ow with
          | false => rw [hx] at hj; exact hj
          | true =>
            rw [hx] at hb
            rcases hb with ⟨q, _⟩ | ⟨b', vs, rest, ty, q1, q2, _⟩
            · rw [hρ] at q; cases q
            · rw [hρ] at q1; cases q1
              have := own2 b q2; omega
      match k, hk with
      | 0, _ => exact own 2 (by simp [z21, LS.fs]) (by trivial) h
      | 1, _ => exact own 3 (by simp [z21, LS.fs]) (by trivial) h
    refine op_call o2_op (g := 159) (caps := vs) hv ent159 ((visit_all (l := l) hJ hX hB hY d hd) p 0 S0 W1 (envOf ρ1 [2, 3]) (a1.tmps.getD 7 undef :: a1.tmps.getD 8 undef :: vs) ?_ b2 b3 hS2 (hJ _ _ _ _ h0 hbel) (fun j x hj => by rw [Nat.zero_add]; exact hj)) (fun e Wd' hR => ?_)
    · exact rels_cons (ren_rel (ks := [2, 3]) (.a (cP p)) (.a (cP p)) _ rfl r2') (rels_cons (ren_rel (ks := [2, 3]) (iv (d : Nat)) (iv (d : Nat)) _ rfl r3') (renL_rel (ks := [2, 3]) [.p 2 0, .p 3 0] [.p 0 0, .p 1 0] vs rfl hc))
    · have fin : ∀ v : Bool, e = .returned (.bool v) → (∃ S', (J (cutL d p).length S' Wd' ∨ Jx S' Wd') ∧ Kept W1 S0 Wd') → ∃ v, e = .returned v ∧ wpOpsIn (Fw none) 9 Tryz.prog O2 (cont none 9 Tryz.prog (bodyPost Tryz.prog Tryz.f158 (fun e Wd' => (∃ v, e = .returned v) ∧ ∃ S', (J (cutL d p).length S' Wd' ∨ Jx S' Wd') ∧ Kept cx.w S0 Wd')) []) (List.range' ((O2.toList.take 3).length + 1) 0) (a1.put o2.dst v) Wd' := fun v he ⟨S', hj', hk'⟩ => by
        refine ⟨_, he, ?_⟩
        simp only [List.range'_zero, wpOpsIn, cont]
        refine ⟨?_, _, results_nil (by kernel_rfl), ⟨_, rfl⟩, S', hj', ?_⟩
        · exact hrep1.defs
        · exact (Kept.of_below S0 hbel).trans hk' (fun b hb _ => hb)
      rcases hR with ⟨he, S', hj', hk', _⟩ | ⟨he, S', hj', hk'⟩
      · exact fin true he ⟨S', .inl (by rwa [Nat.zero_add] at hj'), hk'⟩
      · exact fin false he ⟨S', .inr hj', hk'⟩
  have e : ((Value.func (.yield l) #[] #[]) :: lb).toArray = #[.func (.yield l) #[] #[]] ++ lb.toArray := by apply Array.ext'; simp
  rw [← e]; exact hcon

theorem iter_cutI (p : (Int × Int × Int) × (Int × Int × Int) × Int × Int × Int) (d : Int) (h : 0 ≤ d ∧ d ≤ 3) : Iter Tryz.prog 158 [.p 0 0, .p 1 0] [.live false false (cP p), .live false false [iv d]] encP (cutL (Int.toNat d) p) := by
  have := iter_cut p d.toNat (by omega)
  rwa [Int.toNat_of_nonneg h.1] at this
end Go.Proofs.YtidhogejnafhaaaGreat

namespace Go.Proofs.YtidhogejnafhaaaGreat
open Go.Proofs Go.Aw Go.RowKit
set_option maxRecDepth 100000
set_option linter.unusedVariables false
set_option linter.unusedSimpArgs false

/-- facet/shape.from -/
def F104 (a0 : Int) (a1 : Int) (a2 : Int) : Bool :=
  (bif (decide ((a1 : Int) ≤ a0)) then
   (decide ((a0 : Int) ≤ a2))
  else
   false)

theorem C104 (a0 : Int) (a1 : Int) (a2 : Int) : Con Tryz.prog 104 [(iv a0), (iv a1), (iv a2)] [] (.v (.bool (F104 a0 a1 a2))) [] := by
  refine con_s Tryz.func104 (by kernel_rfl) fun cx hcx => ?_
  cases h0 : (decide ((a1 : Int) ≤ a0)) with
  | true =>
   have q0 := of_decide_eq_true h0
   have e := Eq.refl (F104 a0 a1 a2); conv at e => rhs; simp only [F104, h0, cond_true, cond_false]
   rw [e]
   exact rt [.d h0] [] [] hcx (by kernel_rfl)
  | false =>
   have q0 := of_decide_eq_false h0
   have e := Eq.refl (F104 a0 a1 a2); conv at e => rhs; simp only [F104, h0, cond_true, cond_false]
   rw [e]
   exact rt [.d h0] [] [] hcx (by kernel_rfl)

/-- facet/shape.inRange -/
def F156 (a0 : Int × Int × Int) (a1 : Int) : Bool :=
  (bif (F104 a0.1 (W (0 - a1)) a1) then
   (bif (F104 a0.2.1 (W (0 - a1)) a1) then
    (F104 a0.2.2 (W (0 - a1)) a1)
   else
    false)
  else
   false)

theorem C156 (a0 : Int × Int × Int) (a1 : Int) : Con Tryz.prog 156 [(.a (k3 a0)), (iv a1)] [] (.v (.bool (F156 a0 a1))) [] := by
  refine con_s Tryz.func156 (by kernel_rfl) fun cx hcx => ?_
  let t0 : List (St Tryz.prog) := [.c [] (C104 a0.1 (W (0 - a1)) a1)]
  cases h0 : (F104 a0.1 (W (0 - a1)) a1) with
  | true =>
   let t1 : List (St Tryz.prog) := (t0 ++ [.d h0, .c [] (C104 a0.2.1 (W (0 - a1)) a1)])
   cases h1 : (F104 a0.2.1 (W (0 - a1)) a1) with
   | true =>
    have e := Eq.refl (F156 a0 a1); conv at e => rhs; simp only [F156, h0, h1, cond_true, cond_false]
    rw [e]
    exact rt (t1 ++ [.d h1, .c [] (C104 a0.2.2 (W (0 - a1)) a1)]) [] [] hcx (by kernel_rfl)
   | false =>
    have e := Eq.refl (F156 a0 a1); conv at e => rhs; simp only [F156, h0, h1, cond_true, cond_false]
    rw [e]
    exact rt (t1 ++ [.d h1]) [] [] hcx (by kernel_rfl)
  | false =>
   have e := Eq.refl (F156 a0 a1); conv at e => rhs; simp only [F156, h0, cond_true, cond_false]
   rw [e]
   exact rt (t0 ++ [.d h0]) [] [] hcx (by kernel_rfl)

/-- facet/shape.plus -/
def F191 (a0 : Int × Int × Int) (a1 : Int) (a2 : Int × Int × Int) : Int × Int × Int :=
  ((W (a0.1 + (W (a1 * a2.1)))), (W (a0.2.1 + (W (a1 * a2.2.1)))), (W (a0.2.2 + (W (a1 * a2.2.2)))))

theorem C191 (a0 : Int × Int × Int) (a1 : Int) (a2 : Int × Int × Int) : Con Tryz.prog 191 [(.a (k3 a0)), (iv a1), (.a (k3 a2))] [] (.a (k3 (F191 a0 a1 a2))) [] := by
  refine con_s Tryz.func191 (by kernel_rfl) fun cx hcx => ?_
  have e := Eq.refl (F191 a0 a1 a2); conv at e => rhs; simp only [F191]
  rw [e]
  exact rt [] [] [] hcx (by kernel_rfl)

/-- facet/shape.minus -/
def F183 (a0 : Int × Int × Int) (a1 : Int × Int × Int) : Int × Int × Int :=
  (F191 a0 (-1) a1)

theorem C183 (a0 : Int × Int × Int) (a1 : Int × Int × Int) : Con Tryz.prog 183 [(.a (k3 a0)), (.a (k3 a1))] [] (.a (k3 (F183 a0 a1))) [] := by
  refine con_s Tryz.func183 (by kernel_rfl) fun cx hcx => ?_
  have e := Eq.refl (F183 a0 a1); conv at e => rhs; simp only [F183]
  rw [e]
  exact rt [.c [] (C191 a0 (-1) a1)] [] [] hcx (by kernel_rfl)

/-- facet/shape.cross -/
def F182 (a0 : Int × Int × Int) (a1 : Int × Int × Int) : Int × Int × Int :=
  ((W ((W (a0.2.1 * a1.2.2)) - (W (a0.2.2 * a1.2.1)))), (W ((W (a0.2.2 * a1.1)) - (W (a0.1 * a1.2.2)))), (W ((W (a0.1 * a1.2.1)) - (W (a0.2.1 * a1.1)))))

theorem C182 (a0 : Int × Int × Int) (a1 : Int × Int × Int) : Con Tryz.prog 182 [(.a (k3 a0)), (.a (k3 a1))] [] (.a (k3 (F182 a0 a1))) [] := by
  refine con_s Tryz.func182 (by kernel_rfl) fun cx hcx => ?_
  have e := Eq.refl (F182 a0 a1); conv at e => rhs; simp only [F182]
  rw [e]
  exact rt [] [] [] hcx (by kernel_rfl)

/-- facet/shape.normal -/
def F157 (a0 : (Int × Int × Int) × (Int × Int × Int) × Int × Int × Int) : Int × Int × Int :=
  (F182 (F183 a0.2.1 a0.1) (F183 a0.2.2 a0.1))

theorem C157 (a0 : (Int × Int × Int) × (Int × Int × Int) × Int × Int × Int) : Con Tryz.prog 157 [(.a (k9 a0))] [] (.a (k3 (F157 a0))) [] := by
  refine con_s Tryz.func157 (by kernel_rfl) fun cx hcx => ?_
  have e := Eq.refl (F157 a0); conv at e => rhs; simp only [F157]
  rw [e]
  exact rt [.c [] (C183 a0.2.1 a0.1), .c [] (C183 a0.2.2 a0.1), .c [] (C182 (F183 a0.2.1 a0.1) (F183 a0.2.2 a0.1))] [] [] hcx (by kernel_rfl)

/-- facet/shape.ValidatePanel -/
def F96 (a0 : (Int × Int × Int) × (Int × Int × Int) × Int × Int × Int) : Int :=
  (bif (!(F156 a0.1 64)) then
   1
  else
   (bif (!(F156 a0.2.1 64)) then
    1
   else
    (bif (!(F156 a0.2.2 64)) then
     1
    else
     (bif ((((F157 a0).1 : Int) == 0) && ((((F157 a0).2.1 : Int) == 0) && ((((F157 a0).2.2 : Int) == 0) && true))) then
      6
     else
      0))))

theorem C96 (a0 : (Int × Int × Int) × (Int × Int × Int) × Int × Int × Int) : Con Tryz.prog 96 [(.a (k9 a0))] [] (iv (F96 a0)) [] := by
  refine con_s Tryz.func96 (by kernel_rfl) fun cx hcx => ?_
  let t0 : List (St Tryz.prog) := [.c [] (C156 a0.1 64)]
  cases h0 : (!(F156 a0.1 64)) with
  | true =>
   have e := Eq.refl (F96 a0); conv at e => rhs; simp only [F96, h0, cond_true, cond_false]
   rw [e]
   exact rt (t0 ++ [.d h0]) [] [] hcx (by kernel_rfl)
  | false =>
   let t1 : List (St Tryz.prog) := (t0 ++ [.d h0, .c [] (C156 a0.2.1 64)])
   cases h1 : (!(F156 a0.2.1 64)) with
   | true =>
    have e := Eq.refl (F96 a0); conv at e => rhs; simp only [F96, h0, h1, cond_true, cond_false]
    rw [e]
    exact rt (t1 ++ [.d h1]) [] [] hcx (by kernel_rfl)
   | false =>
    let t2 : List (St Tryz.prog) := (t1 ++ [.d h1, .c [] (C156 a0.2.2 64)])
    cases h2 : (!(F156 a0.2.2 64)) with
    | true =>
     have e := Eq.refl (F96 a0); conv at e => rhs; simp only [F96, h0, h1, h2, cond_true, cond_false]
     rw [e]
     exact rt (t2 ++ [.d h2]) [] [] hcx (by kernel_rfl)
    | false =>
     let t3 : List (St Tryz.prog) := (t2 ++ [.d h2, .c [] (C157 a0)])
     cases h3 : ((((F157 a0).1 : Int) == 0) && ((((F157 a0).2.1 : Int) == 0) && ((((F157 a0).2.2 : Int) == 0) && true))) with
     | true =>
      have e := Eq.refl (F96 a0); conv at e => rhs; simp only [F96, h0, h1, h2, h3, cond_true, cond_false]
      rw [e]
      exact rt (t3 ++ [.d h3]) [] [] hcx (by kernel_rfl)
     | false =>
      have e := Eq.refl (F96 a0); conv at e => rhs; simp only [F96, h0, h1, h2, h3, cond_true, cond_false]
      rw [e]
      exact rt (t3 ++ [.d h3]) [] [] hcx (by kernel_rfl)

/-- facet/field.within -/
def F26 (a0 : Int) (a1 : Int) (a2 : Int) : Bool :=
  (bif (decide ((a0 : Int) ≥ a1)) then
   (decide ((a0 : Int) ≤ a2))
  else
   false)

theorem C26 (a0 : Int) (a1 : Int) (a2 : Int) : Con Tryz.prog 26 [(iv a0), (iv a1), (iv a2)] [] (.v (.bool (F26 a0 a1 a2))) [] := by
  refine con_s Tryz.func26 (by kernel_rfl) fun cx hcx => ?_
  cases h0 : (decide ((a0 : Int) ≥ a1)) with
  | true =>
   have q0 := of_decide_eq_true h0
   have e := Eq.refl (F26 a0 a1 a2); conv at e => rhs; simp only [F26, h0, cond_true, cond_false]
   rw [e]
   exact rt [.d h0] [] [] hcx (by kernel_rfl)
  | false =>
   have q0 := of_decide_eq_false h0
   have e := Eq.refl (F26 a0 a1 a2); conv at e => rhs; simp only [F26, h0, cond_true, cond_false]
   rw [e]
   exact rt [.d h0] [] [] hcx (by kernel_rfl)

/-- facet/field.seen -/
def F25 (a0 : Int × Int × Int) : Bool :=
  (bif (F26 a0.1 (-256) 256) then
   (bif (F26 a0.2.1 (-256) 256) then
    (F26 a0.2.2 (-256) 256)
   else
    false)
  else
   false)

theorem C25 (a0 : Int × Int × Int) : Con Tryz.prog 25 [(.a (k3 a0))] [] (.v (.bool (F25 a0))) [] := by
  refine con_s Tryz.func25 (by kernel_rfl) fun cx hcx => ?_
  let t0 : List (St Tryz.prog) := [.c [] (C26 a0.1 (-256) 256)]
  cases h0 : (F26 a0.1 (-256) 256) with
  | true =>
   let t1 : List (St Tryz.prog) := (t0 ++ [.d h0, .c [] (C26 a0.2.1 (-256) 256)])
   cases h1 : (F26 a0.2.1 (-256) 256) with
   | true =>
    have e := Eq.refl (F25 a0); conv at e => rhs; simp only [F25, h0, h1, cond_true, cond_false]
    rw [e]
    exact rt (t1 ++ [.d h1, .c [] (C26 a0.2.2 (-256) 256)]) [] [] hcx (by kernel_rfl)
   | false =>
    have e := Eq.refl (F25 a0); conv at e => rhs; simp only [F25, h0, h1, cond_true, cond_false]
    rw [e]
    exact rt (t1 ++ [.d h1]) [] [] hcx (by kernel_rfl)
  | false =>
   have e := Eq.refl (F25 a0); conv at e => rhs; simp only [F25, h0, cond_true, cond_false]
   rw [e]
   exact rt (t0 ++ [.d h0]) [] [] hcx (by kernel_rfl)

/-- facet/field.check -/
def F57 (a0 : (Int × Int × Int) × (Int × Int × Int) × Int × Int × Int) (a1 : Int × Int × Int) (a2 : Int) : Int :=
  (bif (((F96 a0) : Int) != 0) then
   (F96 a0)
  else
   (bif (!(F25 a1)) then
    1
   else
    (bif (!(F26 a2 0 3)) then
     1
    else
     0)))

theorem C57 (a0 : (Int × Int × Int) × (Int × Int × Int) × Int × Int × Int) (a1 : Int × Int × Int) (a2 : Int) : Con Tryz.prog 57 [(.a (k9 a0)), (.a (k3 a1)), (iv a2)] [] (iv (F57 a0 a1 a2)) [] := by
  refine con_s Tryz.func57 (by kernel_rfl) fun cx hcx => ?_
  let t0 : List (St Tryz.prog) := [.c [] (C96 a0)]
  cases h0 : (((F96 a0) : Int) != 0) with
  | true =>
   have q0 := bne_iff_ne.1 h0
   have e := Eq.refl (F57 a0 a1 a2); conv at e => rhs; simp only [F57, h0, cond_true, cond_false]
   rw [e]
   exact rt (t0 ++ [.d h0]) [] [] hcx (by kernel_rfl)
  | false =>
   have q0 := bne_eq_false_iff_eq.1 h0
   let t1 : List (St Tryz.prog) := (t0 ++ [.d h0, .c [] (C25 a1)])
   cases h1 : (!(F25 a1)) with
   | true =>
    have e := Eq.refl (F57 a0 a1 a2); conv at e => rhs; simp only [F57, h0, h1, cond_true, cond_false]
    rw [e]
    exact rt (t1 ++ [.d h1]) [] [] hcx (by kernel_rfl)
   | false =>
    let t2 : List (St Tryz.prog) := (t1 ++ [.d h1, .c [] (C26 a2 0 3)])
    cases h2 : (!(F26 a2 0 3)) with
    | true =>
     have e := Eq.refl (F57 a0 a1 a2); conv at e => rhs; simp only [F57, h0, h1, h2, cond_true, cond_false]
     rw [e]
     exact rt (t2 ++ [.d h2]) [] [] hcx (by kernel_rfl)
    | false =>
     have e := Eq.refl (F57 a0 a1 a2); conv at e => rhs; simp only [F57, h0, h1, h2, cond_true, cond_false]
     rw [e]
     exact rt (t2 ++ [.d h2]) [] [] hcx (by kernel_rfl)

/-- facet/field.sum[int] at (3,) -/
def F113_3 (a0 : (Int) × (Int) × (Int)) : Int :=
  (W ((W ((W (0 + a0.1)) + a0.2.1)) + a0.2.2))

theorem C113_3 (a0 : (Int) × (Int) × (Int)) : Con Tryz.prog 113 [(.s 0 0 3 1)] [(.live false false (k3 a0))] (iv (F113_3 a0)) [] := by
  refine con_s Tryz.func113 (by kernel_rfl) fun cx hcx => ?_
  have e := Eq.refl (F113_3 a0); conv at e => rhs; simp only [F113_3]
  rw [e]
  exact rt [.u 200, .T, .i 0 3 (by decide), .u 0, .T, .i 1 3 (by decide), .u 0, .T, .i 2 3 (by decide), .u 0, .F] [] [] hcx (by kernel_rfl)

/-- facet/field.dot -/
def F63 (a0 : Int × Int × Int) (a1 : Int × Int × Int) : Int :=
  (F113_3 ((W (a0.1 * a1.1)), (W (a0.2.1 * a1.2.1)), (W (a0.2.2 * a1.2.2))))

theorem C63 (a0 : Int × Int × Int) (a1 : Int × Int × Int) : Con Tryz.prog 63 [(.a (k3 a0)), (.a (k3 a1))] [] (iv (F63 a0 a1)) [] := by
  refine con_s Tryz.func63 (by kernel_rfl) fun cx hcx => ?_
  have e := Eq.refl (F63 a0 a1); conv at e => rhs; simp only [F63]
  rw [e]
  exact rt [.c [2] (C113_3 ((W (a0.1 * a1.1)), (W (a0.2.1 * a1.2.1)), (W (a0.2.2 * a1.2.2))))] [] [] hcx (by kernel_rfl)

/-- facet/field.vector -/
def F64 (a0 : Int × Int × Int) (a1 : Int × Int × Int) : Int × Int × Int :=
  ((W (a0.1 - a1.1)), (W (a0.2.1 - a1.2.1)), (W (a0.2.2 - a1.2.2)))

theorem C64 (a0 : Int × Int × Int) (a1 : Int × Int × Int) : Con Tryz.prog 64 [(.a (k3 a0)), (.a (k3 a1))] [] (.a (k3 (F64 a0 a1))) [] := by
  refine con_s Tryz.func64 (by kernel_rfl) fun cx hcx => ?_
  have e := Eq.refl (F64 a0 a1); conv at e => rhs; simp only [F64]
  rw [e]
  exact rt [] [] [] hcx (by kernel_rfl)

/-- facet/field.product -/
def F65 (a0 : Int × Int × Int) (a1 : Int × Int × Int) : Int × Int × Int :=
  ((W ((W (a0.2.1 * a1.2.2)) - (W (a0.2.2 * a1.2.1)))), (W ((W (a0.2.2 * a1.1)) - (W (a0.1 * a1.2.2)))), (W ((W (a0.1 * a1.2.1)) - (W (a0.2.1 * a1.1)))))

theorem C65 (a0 : Int × Int × Int) (a1 : Int × Int × Int) : Con Tryz.prog 65 [(.a (k3 a0)), (.a (k3 a1))] [] (.a (k3 (F65 a0 a1))) [] := by
  refine con_s Tryz.func65 (by kernel_rfl) fun cx hcx => ?_
  have e := Eq.refl (F65 a0 a1); conv at e => rhs; simp only [F65]
  rw [e]
  exact rt [] [] [] hcx (by kernel_rfl)

/-- facet/field.box at (3,) -/
def F161_3 (a0 : (Int × Int × Int) × (Int × Int × Int) × (Int × Int × Int)) : (Int × Int × Int) × Int × Int × Int :=
  (((if (a0.2.2.1 : Int) < (if (a0.2.1.1 : Int) < (if (a0.1.1 : Int) < a0.1.1 then a0.1.1 else a0.1.1) then a0.2.1.1 else (if (a0.1.1 : Int) < a0.1.1 then a0.1.1 else a0.1.1)) then a0.2.2.1 else (if (a0.2.1.1 : Int) < (if (a0.1.1 : Int) < a0.1.1 then a0.1.1 else a0.1.1) then a0.2.1.1 else (if (a0.1.1 : Int) < a0.1.1 then a0.1.1 else a0.1.1))), (if (a0.2.2.2.1 : Int) < (if (a0.2.1.2.1 : Int) < (if (a0.1.2.1 : Int) < a0.1.2.1 then a0.1.2.1 else a0.1.2.1) then a0.2.1.2.1 else (if (a0.1.2.1 : Int) < a0.1.2.1 then a0.1.2.1 else a0.1.2.1)) then a0.2.2.2.1 else (if (a0.2.1.2.1 : Int) < (if (a0.1.2.1 : Int) < a0.1.2.1 then a0.1.2.1 else a0.1.2.1) then a0.2.1.2.1 else (if (a0.1.2.1 : Int) < a0.1.2.1 then a0.1.2.1 else a0.1.2.1))), (if (a0.2.2.2.2 : Int) < (if (a0.2.1.2.2 : Int) < (if (a0.1.2.2 : Int) < a0.1.2.2 then a0.1.2.2 else a0.1.2.2) then a0.2.1.2.2 else (if (a0.1.2.2 : Int) < a0.1.2.2 then a0.1.2.2 else a0.1.2.2)) then a0.2.2.2.2 else (if (a0.2.1.2.2 : Int) < (if (a0.1.2.2 : Int) < a0.1.2.2 then a0.1.2.2 else a0.1.2.2) then a0.2.1.2.2 else (if (a0.1.2.2 : Int) < a0.1.2.2 then a0.1.2.2 else a0.1.2.2)))), ((if ((if ((if (a0.1.1 : Int) < a0.1.1 then a0.1.1 else a0.1.1) : Int) < a0.2.1.1 then a0.2.1.1 else (if (a0.1.1 : Int) < a0.1.1 then a0.1.1 else a0.1.1)) : Int) < a0.2.2.1 then a0.2.2.1 else (if ((if (a0.1.1 : Int) < a0.1.1 then a0.1.1 else a0.1.1) : Int) < a0.2.1.1 then a0.2.1.1 else (if (a0.1.1 : Int) < a0.1.1 then a0.1.1 else a0.1.1))), (if ((if ((if (a0.1.2.1 : Int) < a0.1.2.1 then a0.1.2.1 else a0.1.2.1) : Int) < a0.2.1.2.1 then a0.2.1.2.1 else (if (a0.1.2.1 : Int) < a0.1.2.1 then a0.1.2.1 else a0.1.2.1)) : Int) < a0.2.2.2.1 then a0.2.2.2.1 else (if ((if (a0.1.2.1 : Int) < a0.1.2.1 then a0.1.2.1 else a0.1.2.1) : Int) < a0.2.1.2.1 then a0.2.1.2.1 else (if (a0.1.2.1 : Int) < a0.1.2.1 then a0.1.2.1 else a0.1.2.1))), (if ((if ((if (a0.1.2.2 : Int) < a0.1.2.2 then a0.1.2.2 else a0.1.2.2) : Int) < a0.2.1.2.2 then a0.2.1.2.2 else (if (a0.1.2.2 : Int) < a0.1.2.2 then a0.1.2.2 else a0.1.2.2)) : Int) < a0.2.2.2.2 then a0.2.2.2.2 else (if ((if (a0.1.2.2 : Int) < a0.1.2.2 then a0.1.2.2 else a0.1.2.2) : Int) < a0.2.1.2.2 then a0.2.1.2.2 else (if (a0.1.2.2 : Int) < a0.1.2.2 then a0.1.2.2 else a0.1.2.2)))))

theorem C161_3 (a0 : (Int × Int × Int) × (Int × Int × Int) × (Int × Int × Int)) : Con Tryz.prog 161 [(.s 0 0 3 3)] [(.live false false (k9 a0))] (.t [(.a (k3 (F161_3 a0).1)), (.a (k3 (F161_3 a0).2))]) [] := by
  refine con_s Tryz.func161 (by kernel_rfl) fun cx hcx => ?_
  have e := Eq.refl (F161_3 a0); conv at e => rhs; simp only [F161_3]
  rw [e]
  exact rt [.i 0 3 (by decide), .i 0 3 (by decide), .u 200, .T, .i 0 3 (by decide), .u 0, .T, .i 1 3 (by decide), .u 0, .T, .i 2 3 (by decide), .u 0, .F] [] [] hcx (by kernel_rfl)

/-- facet/field.box at (1,) -/
def F161_1 (a0 : Int × Int × Int) : (Int × Int × Int) × Int × Int × Int :=
  (((if (a0.1 : Int) < a0.1 then a0.1 else a0.1), (if (a0.2.1 : Int) < a0.2.1 then a0.2.1 else a0.2.1), (if (a0.2.2 : Int) < a0.2.2 then a0.2.2 else a0.2.2)), ((if (a0.1 : Int) < a0.1 then a0.1 else a0.1), (if (a0.2.1 : Int) < a0.2.1 then a0.2.1 else a0.2.1), (if (a0.2.2 : Int) < a0.2.2 then a0.2.2 else a0.2.2)))

theorem C161_1 (a0 : Int × Int × Int) : Con Tryz.prog 161 [(.s 0 0 1 3)] [(.live false false (k3 a0))] (.t [(.a (k3 (F161_1 a0).1)), (.a (k3 (F161_1 a0).2))]) [] := by
  refine con_s Tryz.func161 (by kernel_rfl) fun cx hcx => ?_
  have e := Eq.refl (F161_1 a0); conv at e => rhs; simp only [F161_1]
  rw [e]
  exact rt [.i 0 1 (by decide), .i 0 1 (by decide), .u 200, .T, .i 0 1 (by decide), .u 0, .F] [] [] hcx (by kernel_rfl)

/-- facet/field.gap -/
def F162 (a0 : Int) (a1 : Int) (a2 : Int) (a3 : Int) : Int :=
  (if ((if (0 : Int) < (W (a2 - a1)) then (W (a2 - a1)) else 0) : Int) < (W (a0 - a3)) then (W (a0 - a3)) else (if (0 : Int) < (W (a2 - a1)) then (W (a2 - a1)) else 0))

theorem C162 (a0 : Int) (a1 : Int) (a2 : Int) (a3 : Int) : Con Tryz.prog 162 [(iv a0), (iv a1), (iv a2), (iv a3)] [] (iv (F162 a0 a1 a2 a3)) [] := by
  refine con_s Tryz.func162 (by kernel_rfl) fun cx hcx => ?_
  have e := Eq.refl (F162 a0 a1 a2 a3); conv at e => rhs; simp only [F162]
  rw [e]
  exact rt [] [] [] hcx (by kernel_rfl)

/-- facet/field.near at (3, 1) -/
def F100_3_1 (a0 : (Int × Int × Int) × (Int × Int × Int) × (Int × Int × Int)) (a1 : Int × Int × Int) : Int :=
  (F63 ((F162 (F161_3 a0).1.1 (F161_3 a0).2.1 (F161_1 a1).1.1 (F161_1 a1).2.1), (F162 (F161_3 a0).1.2.1 (F161_3 a0).2.2.1 (F161_1 a1).1.2.1 (F161_1 a1).2.2.1), (F162 (F161_3 a0).1.2.2 (F161_3 a0).2.2.2 (F161_1 a1).1.2.2 (F161_1 a1).2.2.2)) ((F162 (F161_3 a0).1.1 (F161_3 a0).2.1 (F161_1 a1).1.1 (F161_1 a1).2.1), (F162 (F161_3 a0).1.2.1 (F161_3 a0).2.2.1 (F161_1 a1).1.2.1 (F161_1 a1).2.2.1), (F162 (F161_3 a0).1.2.2 (F161_3 a0).2.2.2 (F161_1 a1).1.2.2 (F161_1 a1).2.2.2)))

theorem C100_3_1 (a0 : (Int × Int × Int) × (Int × Int × Int) × (Int × Int × Int)) (a1 : Int × Int × Int) : Con Tryz.prog 100 [(.s 0 0 3 3), (.s 1 0 1 3)] [(.live false false (k9 a0)), (.live false false (k3 a1))] (iv (F100_3_1 a0 a1)) [] := by
  refine con_s Tryz.func100 (by kernel_rfl) fun cx hcx => ?_
  have e := Eq.refl (F100_3_1 a0 a1); conv at e => rhs; simp only [F100_3_1]
  rw [e]
  exact rt [.c [0] (C161_3 a0), .c [1] (C161_1 a1), .c [] (C162 (F161_3 a0).1.1 (F161_3 a0).2.1 (F161_1 a1).1.1 (F161_1 a1).2.1), .c [] (C162 (F161_3 a0).1.2.1 (F161_3 a0).2.2.1 (F161_1 a1).1.2.1 (F161_1 a1).2.2.1), .c [] (C162 (F161_3 a0).1.2.2 (F161_3 a0).2.2.2 (F161_1 a1).1.2.2 (F161_1 a1).2.2.2), .c [] (C63 ((F162 (F161_3 a0).1.1 (F161_3 a0).2.1 (F161_1 a1).1.1 (F161_1 a1).2.1), (F162 (F161_3 a0).1.2.1 (F161_3 a0).2.2.1 (F161_1 a1).1.2.1 (F161_1 a1).2.2.1), (F162 (F161_3 a0).1.2.2 (F161_3 a0).2.2.2 (F161_1 a1).1.2.2 (F161_1 a1).2.2.2)) ((F162 (F161_3 a0).1.1 (F161_3 a0).2.1 (F161_1 a1).1.1 (F161_1 a1).2.1), (F162 (F161_3 a0).1.2.1 (F161_3 a0).2.2.1 (F161_1 a1).1.2.1 (F161_1 a1).2.2.1), (F162 (F161_3 a0).1.2.2 (F161_3 a0).2.2.2 (F161_1 a1).1.2.2 (F161_1 a1).2.2.2)))] [] [] hcx (by kernel_rfl)

/-- api.Point, as cells -/
def c27 (x : Int × Int × Int) : List SV := [(iv x.1), (iv x.2.1), (iv x.2.2)]
theorem c27_len (x : Int × Int × Int) : (c27 x).length = 3 := rfl

noncomputable def B101_L_L_1 : Code := (loopAtD [1, 1, 0, 1, 0, 1, 1, 0, 1, 1] [0] (bodyOf Tryz.f101) []).1
noncomputable def K101_L_L_1 (m0 : Nat) : List K := (loopAtD [1, 1, 0, 1, 0, 1, 1, 0, 1, 1] [m0] (bodyOf Tryz.f101) []).2

def st101_L_L_1 (a0 : List (Int × Int × Int)) (a1 : List (Int × Int × Int)) (v5 : Int) (v6 : Int) (v7 : Int) (v8 : Int) (v9 : Int) (v10 : Int) : LS := ⟨slN 34 [(1, (.s 1 0 a1.length 3)), (5, (iv v5)), (7, (.p 2 0)), (11, (.s 0 0 a0.length 3)), (12, (iv ((a0.length : Nat) : Int))), (13, (iv v6)), (17, (.s 1 0 a1.length 3)), (18, (iv ((a1.length : Nat) : Int))), (19, (iv v7))], [(.live false true (flat c27 a0)), (.live false true (flat c27 a1)), (.live true false [(iv v8), (iv v9), (iv v10)])]⟩

/-- a round of loop 1 of facet/field.far; the variables: v5 = s5, v6 = s13, v7 = s19, v8 = s7_0, v9 = s7_1, v10 = s7_2 -/
def S101_L_L_1 (a0 : List (Int × Int × Int)) (a1 : List (Int × Int × Int)) : Int × Int × Int × Int × Int × Int → (Int × Int × Int × Int × Int × Int) ⊕ ((Int × Int) ⊕ (Int))
  | (v5, v6, v7, v8, v9, v10) =>
   (bif (decide ((v7 : Int) < ((a1.length : Nat) : Int))) then
    (.inl ((if (v5 : Int) < (F63 (F64 (v8, v9, v10) (a1.getD (Int.toNat v7) default)) (F64 (v8, v9, v10) (a1.getD (Int.toNat v7) default))) then (F63 (F64 (v8, v9, v10) (a1.getD (Int.toNat v7) default)) (F64 (v8, v9, v10) (a1.getD (Int.toNat v7) default))) else v5), v6, (v7 + 1), v8, v9, v10))
   else
    (.inr (.inl (v5, (v6 + 1)))))

noncomputable def B101_L_L_0 : Code := (loopAtD [1, 1, 0, 1] [] (bodyOf Tryz.f101) []).1
noncomputable def K101_L_L_0 : List K := (loopAtD [1, 1, 0, 1] [] (bodyOf Tryz.f101) []).2

def st101_L_L_0 (a0 : List (Int × Int × Int)) (a1 : List (Int × Int × Int)) (v3 : Int) (v4 : Int) : LS := ⟨slN 34 [(1, (.s 1 0 a1.length 3)), (5, (iv v3)), (11, (.s 0 0 a0.length 3)), (12, (iv ((a0.length : Nat) : Int))), (13, (iv v4))], [(.live false true (flat c27 a0)), (.live false true (flat c27 a1))]⟩

/-- a round of loop 0 of facet/field.far; the variables: v3 = s5, v4 = s13 -/
def S101_L_L_0 (a0 : List (Int × Int × Int)) (a1 : List (Int × Int × Int)) : Int × Int → (Int × Int) ⊕ (Int)
  | (v3, v4) =>
   (bif (decide ((v4 : Int) < ((a0.length : Nat) : Int))) then
    (loopF (S101_L_L_1 a0 a1) (Int.toNat (((a1.length : Nat) : Int) - 0) + 1) (v3, v4, 0, (a0.getD (Int.toNat v4) default).1, (a0.getD (Int.toNat v4) default).2.1, (a0.getD (Int.toNat v4) default).2.2))
   else
    (.inr v3))

set_option maxHeartbeats 4000000 in
theorem L101_L_L_1 (a0 : List (Int × Int × Int)) (a1 : List (Int × Int × Int)) (l0 : a0.length ≤ 9223372036854775807) (l1 : a1.length ≤ 9223372036854775807) {cx : Cx} (hcx : cx.base = 2)
    (n0 : Nat) (g0 : ∀ (v3 : Int) (v4 : Int), 0 ≤ v4 → Int.toNat (((a0.length : Nat) : Int) - v4) < n0 → Aw.Good Tryz.prog none 9 (bodyPost Tryz.prog Tryz.f101 (RR cx (iv (loopF (S101_L_L_0 a0 a1) n0 (v3, v4))) [] [])) cx [] (.l B101_L_L_0 n0 :: K101_L_L_0) (st101_L_L_0 a0 a1 v3 v4)) : ∀ (n : Nat) (v5 : Int) (v6 : Int) (v7 : Int) (v8 : Int) (v9 : Int) (v10 : Int), (0 ≤ v7) ∧ ((0 ≤ v6)) ∧ (v6 < ((a0.length : Nat) : Int)) ∧ (Int.toNat (((a0.length : Nat) : Int) - v6) < n0 + 1) → Int.toNat (((a1.length : Nat) : Int) - v7) < n → Aw.Good Tryz.prog none 9 (bodyPost Tryz.prog Tryz.f101 (RR cx (iv (thenF (S101_L_L_0 a0 a1) n0 (loopF (S101_L_L_1 a0 a1) n (v5, v6, v7, v8, v9, v10)))) [] [])) cx [] (.l B101_L_L_1 n :: K101_L_L_1 n0) (st101_L_L_1 a0 a1 v5 v6 v7 v8 v9 v10) := by
  intro n
  induction n with
  | zero => intro v5 v6 v7 v8 v9 v10 hi hn; exact absurd hn (Nat.not_lt_zero _)
  | succ n ih =>
    intro v5 v6 v7 v8 v9 v10 hi hn
    refine good_round ?_
    cases h0 : (decide ((v7 : Int) < ((a1.length : Nat) : Int))) with
    | true =>
     have q0 := of_decide_eq_true h0
     have e := Eq.refl (S101_L_L_1 a0 a1 (v5, v6, v7, v8, v9, v10)); conv at e => rhs; simp only [S101_L_L_1, h0, cond_true, cond_false]
     rw [loopF_inl e]
     refine ba [.d h0, .i v7 (a1.length), .L c27_len a1 v7 0 3, .c [] (C64 (v8, v9, v10) (a1.getD (Int.toNat v7) default)), .c [] (C63 (F64 (v8, v9, v10) (a1.getD (Int.toNat v7) default)) (F64 (v8, v9, v10) (a1.getD (Int.toNat v7) default)))] [] [1, 5, 7, 11, 12, 13, 17, 18, 19] [2] hcx (m := n) B101_L_L_1 (K101_L_L_1 n0) (st101_L_L_1 a0 a1 (if (v5 : Int) < (F63 (F64 (v8, v9, v10) (a1.getD (Int.toNat v7) default)) (F64 (v8, v9, v10) (a1.getD (Int.toNat v7) default))) then (F63 (F64 (v8, v9, v10) (a1.getD (Int.toNat v7) default)) (F64 (v8, v9, v10) (a1.getD (Int.toNat v7) default))) else v5) v6 (W (v7 + 1)) v8 v9 v10) (by kernel_rfl) ?_
     have z0 : (W (v7 + 1)) = (v7 + 1) := W_eq (by omega) (by omega)
     rw [z0]
     exact ih (if (v5 : Int) < (F63 (F64 (v8, v9, v10) (a1.getD (Int.toNat v7) default)) (F64 (v8, v9, v10) (a1.getD (Int.toNat v7) default))) then (F63 (F64 (v8, v9, v10) (a1.getD (Int.toNat v7) default)) (F64 (v8, v9, v10) (a1.getD (Int.toNat v7) default))) else v5) v6 (v7 + 1) v8 v9 v10 (by refine ⟨?_, ?_, ?_, ?_⟩ <;> (try simp only [List.length_append, List.length_cons, List.length_nil, Int.toNat_zero]) <;> first | omega | assumption | simp) (by (try simp only [List.length_append, List.length_cons, List.length_nil, Int.toNat_zero]); omega)
    | false =>
     have q0 := of_decide_eq_false h0
     have e := Eq.refl (S101_L_L_1 a0 a1 (v5, v6, v7, v8, v9, v10)); conv at e => rhs; simp only [S101_L_L_1, h0, cond_true, cond_false]
     rw [loopF_s, e]
     refine ba [.d h0] [] [1, 5, 11, 12, 13] [] hcx (m := n0) B101_L_L_0 (K101_L_L_0) (st101_L_L_0 a0 a1 v5 (W (v6 + 1))) (by kernel_rfl) ?_
     have z0 : (W (v6 + 1)) = (v6 + 1) := W_eq (by omega) (by omega)
     rw [z0]
     exact g0 v5 (v6 + 1) (by (try simp only [List.length_append, List.length_cons, List.length_nil, Int.toNat_zero]); omega) (by (try simp only [List.length_append, List.length_cons, List.length_nil, Int.toNat_zero]); omega)

set_option maxHeartbeats 4000000 in
theorem L101_L_L_0 (a0 : List (Int × Int × Int)) (a1 : List (Int × Int × Int)) (l0 : a0.length ≤ 9223372036854775807) (l1 : a1.length ≤ 9223372036854775807) {cx : Cx} (hcx : cx.base = 2) : ∀ (n : Nat) (v3 : Int) (v4 : Int), 0 ≤ v4 → Int.toNat (((a0.length : Nat) : Int) - v4) < n → Aw.Good Tryz.prog none 9 (bodyPost Tryz.prog Tryz.f101 (RR cx (iv (loopF (S101_L_L_0 a0 a1) n (v3, v4))) [] [])) cx [] (.l B101_L_L_0 n :: K101_L_L_0) (st101_L_L_0 a0 a1 v3 v4) := by
  intro n
  induction n with
  | zero => intro v3 v4 hi hn; exact absurd hn (Nat.not_lt_zero _)
  | succ n ih =>
    intro v3 v4 hi hn
    refine good_round ?_
    cases h0 : (decide ((v4 : Int) < ((a0.length : Nat) : Int))) with
    | true =>
     have q0 := of_decide_eq_true h0
     have e := Eq.refl (S101_L_L_0 a0 a1 (v3, v4)); conv at e => rhs; simp only [S101_L_L_0, h0, cond_true, cond_false]
     rw [loopF_s, e]
     refine en [.d h0, .i v4 (a0.length), .L c27_len a0 v4 0 3] [] [1, 5, 7, 11, 12, 13, 17, 18, 19] [2] hcx B101_L_L_1 (K101_L_L_1 n) (st101_L_L_1 a0 a1 v3 v4 0 ((a0.getD (Int.toNat v4) default).1) ((a0.getD (Int.toNat v4) default).2.1) ((a0.getD (Int.toNat v4) default).2.2)) (Int.toNat (((a1.length : Nat) : Int) - 0) + 1) (by kernel_rfl) ?_
     exact L101_L_L_1 a0 a1 l0 l1 hcx n ih (Int.toNat (((a1.length : Nat) : Int) - 0) + 1) v3 v4 0 ((a0.getD (Int.toNat v4) default).1) ((a0.getD (Int.toNat v4) default).2.1) ((a0.getD (Int.toNat v4) default).2.2) (by refine ⟨?_, ?_, ?_, ?_⟩ <;> (try simp only [List.length_append, List.length_cons, List.length_nil, Int.toNat_zero]) <;> first | omega | assumption | simp) (by (try simp only [List.length_append, List.length_cons, List.length_nil, Int.toNat_zero]); omega)
    | false =>
     have q0 := of_decide_eq_false h0
     have e := Eq.refl (S101_L_L_0 a0 a1 (v3, v4)); conv at e => rhs; simp only [S101_L_L_0, h0, cond_true, cond_false]
     rw [loopF_s, e]
     exact rt [.d h0] [] [] hcx (by kernel_rfl)

/-- facet/field.far at ('L', 'L') -/
def F101_L_L (a0 : List (Int × Int × Int)) (a1 : List (Int × Int × Int)) : Int :=
  (loopF (S101_L_L_0 a0 a1) (Int.toNat (((a0.length : Nat) : Int) - 0) + 1) (0, 0))

theorem C101_L_L (a0 : List (Int × Int × Int)) (a1 : List (Int × Int × Int)) (l0 : a0.length ≤ 9223372036854775807) (l1 : a1.length ≤ 9223372036854775807) : Con Tryz.prog 101 [(.s 0 0 a0.length 3), (.s 1 0 a1.length 3)] [(.live false true (flat c27 a0)), (.live false true (flat c27 a1))] (iv (F101_L_L a0 a1)) [] := by
  refine con_s Tryz.func101 (by kernel_rfl) fun cx hcx => ?_
  have e := Eq.refl (F101_L_L a0 a1); conv at e => rhs; simp only [F101_L_L]
  rw [e]
  refine en [] [] [1, 5, 11, 12, 13] [] hcx B101_L_L_0 (K101_L_L_0) (st101_L_L_0 a0 a1 0 0) (Int.toNat (((a0.length : Nat) : Int) - 0) + 1) (by kernel_rfl) ?_
  exact L101_L_L_0 a0 a1 l0 l1 hcx (Int.toNat (((a0.length : Nat) : Int) - 0) + 1) 0 0 (by (try simp only [List.length_append, List.length_cons, List.length_nil, Int.toNat_zero]); omega) (by (try simp only [List.length_append, List.length_cons, List.length_nil, Int.toNat_zero]); omega)

noncomputable def B163_0 : Code := match (codeAtD [1] [] (bodyOf Tryz.f163)).1 with
  | .scope c => c
  | _ => .skip
noncomputable def K163_0 : List K := (codeAtD [1] [] (bodyOf Tryz.f163)).2
noncomputable def R163_0 : Code := (findLabel B163_0 0).getD .skip

def st163_0 (a0 : Int) (v1 : Int) (v2 : Int) : LS := ⟨slN 22 [(0, (iv a0)), (3, (iv v1)), (4, (iv v2))], []⟩

/-- a round of loop 0 of facet/span.root; the variables: v1 = s3, v2 = s4 -/
def S163_0 (a0 : Int) : Int × Int → (Int × Int) ⊕ (Int)
  | (v1, v2) =>
   (bif ((v2 : Int) == 0) then
    (.inr v1)
   else
    (bif (decide (((W ((W (v1 + v2)) * (W (v1 + v2)))) : Int) ≤ a0)) then
     (.inl ((W (v1 + v2)), (v2 / 2)))
    else
     (.inl (v1, (v2 / 2)))))

set_option maxHeartbeats 4000000 in
theorem L163_0 (a0 : Int) {cx : Cx} (hcx : cx.base = 0) : ∀ (n : Nat) (v1 : Int) (v2 : Int), 0 ≤ v2 → Int.toNat v2 < n → Aw.Good Tryz.prog none 9 (bodyPost Tryz.prog Tryz.f163 (RR cx (iv (loopF (S163_0 a0) n (v1, v2))) [] [])) cx [] (.c (.goto 0) :: .s B163_0 n :: K163_0) (st163_0 a0 v1 v2) := by
  intro n
  induction n with
  | zero => intro v1 v2 hi hn; exact absurd hn (Nat.not_lt_zero _)
  | succ n ih =>
    intro v1 v2 hi hn
    refine good_jump (rest := R163_0) (by kernel_rfl) ?_
    cases h0 : ((v2 : Int) == 0) with
    | true =>
     have q0 := eq_of_beq h0
     have e := Eq.refl (S163_0 a0 (v1, v2)); conv at e => rhs; simp only [S163_0, h0, cond_true, cond_false]
     rw [loopF_s, e]
     exact rt [.d h0] [] [] hcx (by kernel_rfl)
    | false =>
     have q0 := ne_of_beq_false h0
     let t1 : List (St Tryz.prog) := [.d h0]
     cases h1 : (decide (((W ((W (v1 + v2)) * (W (v1 + v2)))) : Int) ≤ a0)) with
     | true =>
      have q1 := of_decide_eq_true h1
      have e := Eq.refl (S163_0 a0 (v1, v2)); conv at e => rhs; simp only [S163_0, h0, h1, cond_true, cond_false]
      rw [loopF_inl e]
      refine ga (t1 ++ [.d h1, .p (show 0 ≤ (1 : Int) from by decide)]) [] [0, 3, 4] [] hcx (.goto 0) (.s B163_0 n :: K163_0) (st163_0 a0 (W (v1 + v2)) (Int.fdiv v2 (2 ^ (min (Int.toNat 1) 64)))) (by kernel_rfl) ?_
      have z0 : (Int.fdiv v2 (2 ^ (min (Int.toNat 1) 64))) = (v2 / 2) := shr_eq _ 1 (by decide)
      rw [z0]
      exact ih (W (v1 + v2)) (v2 / 2) (by (try simp only [List.length_append, List.length_cons, List.length_nil, Int.toNat_zero]); omega) (by omega)
     | false =>
      have q1 := of_decide_eq_false h1
      have e := Eq.refl (S163_0 a0 (v1, v2)); conv at e => rhs; simp only [S163_0, h0, h1, cond_true, cond_false]
      rw [loopF_inl e]
      refine ga (t1 ++ [.d h1, .p (show 0 ≤ (1 : Int) from by decide)]) [] [0, 3, 4] [] hcx (.goto 0) (.s B163_0 n :: K163_0) (st163_0 a0 v1 (Int.fdiv v2 (2 ^ (min (Int.toNat 1) 64)))) (by kernel_rfl) ?_
      have z0 : (Int.fdiv v2 (2 ^ (min (Int.toNat 1) 64))) = (v2 / 2) := shr_eq _ 1 (by decide)
      rw [z0]
      exact ih v1 (v2 / 2) (by (try simp only [List.length_append, List.length_cons, List.length_nil, Int.toNat_zero]); omega) (by omega)

/-- facet/span.root -/
def F163 (a0 : Int) : Int :=
  (bif (decide ((4611686018427387904 : Int) ≤ a0)) then
   (loopF (S163_0 a0) (Int.toNat 1073741824 + 1) (2147483648, 1073741824))
  else
   (loopF (S163_0 a0) (Int.toNat 1073741824 + 1) (0, 1073741824)))

theorem C163 (a0 : Int) : Con Tryz.prog 163 [(iv a0)] [] (iv (F163 a0)) [] := by
  refine con_s Tryz.func163 (by kernel_rfl) fun cx hcx => ?_
  cases h0 : (decide ((4611686018427387904 : Int) ≤ a0)) with
  | true =>
   have q0 := of_decide_eq_true h0
   have e := Eq.refl (F163 a0); conv at e => rhs; simp only [F163, h0, cond_true, cond_false]
   rw [e]
   refine ga [.u (Int.toNat 1073741824 + 1), .F, .d h0, .p (show 0 ≤ (1 : Int) from by decide)] [] [0, 3, 4] [] hcx (.goto 0) (.s B163_0 (Int.toNat 1073741824 + 1) :: K163_0) (st163_0 a0 2147483648 1073741824) (by kernel_rfl) ?_
   exact L163_0 a0 hcx (Int.toNat 1073741824 + 1) 2147483648 1073741824 (by (try simp only [List.length_append, List.length_cons, List.length_nil, Int.toNat_zero]); omega) (by omega)
  | false =>
   have q0 := of_decide_eq_false h0
   have e := Eq.refl (F163 a0); conv at e => rhs; simp only [F163, h0, cond_true, cond_false]
   rw [e]
   refine ga [.u (Int.toNat 1073741824 + 1), .F, .d h0, .p (show 0 ≤ (1 : Int) from by decide)] [] [0, 3, 4] [] hcx (.goto 0) (.s B163_0 (Int.toNat 1073741824 + 1) :: K163_0) (st163_0 a0 0 1073741824) (by kernel_rfl) ?_
   exact L163_0 a0 hcx (Int.toNat 1073741824 + 1) 0 1073741824 (by (try simp only [List.length_append, List.length_cons, List.length_nil, Int.toNat_zero]); omega) (by omega)

/-- facet/span.Valid -/
def F85 (a0 : Int × Int) : Bool :=
  (bif (decide ((a0.1 : Int) ≥ (-1099511627776))) then
   (bif (decide ((a0.1 : Int) ≤ a0.2)) then
    (decide ((a0.2 : Int) ≤ 1099511627776))
   else
    false)
  else
   false)

theorem C85 (a0 : Int × Int) : Con Tryz.prog 85 [(.a [(iv a0.1), (iv a0.2)])] [] (.v (.bool (F85 a0))) [] := by
  refine con_s Tryz.func85 (by kernel_rfl) fun cx hcx => ?_
  cases h0 : (decide ((a0.1 : Int) ≥ (-1099511627776))) with
  | true =>
   have q0 := of_decide_eq_true h0
   let t1 : List (St Tryz.prog) := [.d h0]
   cases h1 : (decide ((a0.1 : Int) ≤ a0.2)) with
   | true =>
    have q1 := of_decide_eq_true h1
    have e := Eq.refl (F85 a0); conv at e => rhs; simp only [F85, h0, h1, cond_true, cond_false]
    rw [e]
    exact rt (t1 ++ [.d h1]) [] [] hcx (by kernel_rfl)
   | false =>
    have q1 := of_decide_eq_false h1
    have e := Eq.refl (F85 a0); conv at e => rhs; simp only [F85, h0, h1, cond_true, cond_false]
    rw [e]
    exact rt (t1 ++ [.d h1]) [] [] hcx (by kernel_rfl)
  | false =>
   have q0 := of_decide_eq_false h0
   have e := Eq.refl (F85 a0); conv at e => rhs; simp only [F85, h0, cond_true, cond_false]
   rw [e]
   exact rt [.d h0] [] [] hcx (by kernel_rfl)

/-- facet/span.result -/
def F48 (a0 : Int) (a1 : Int) : (Int × Int) × Int :=
  (bif (!(F85 (a0, a1))) then
   ((0, 0), 4)
  else
   ((a0, a1), 0))

theorem C48 (a0 : Int) (a1 : Int) : Con Tryz.prog 48 [(iv a0), (iv a1)] [] (.t [(.a (k2 (F48 a0 a1).1)), (iv (F48 a0 a1).2)]) [] := by
  refine con_s Tryz.func48 (by kernel_rfl) fun cx hcx => ?_
  let t0 : List (St Tryz.prog) := [.c [] (C85 (a0, a1))]
  cases h0 : (!(F85 (a0, a1))) with
  | true =>
   have e := Eq.refl (F48 a0 a1); conv at e => rhs; simp only [F48, h0, cond_true, cond_false]
   rw [e]
   exact rt (t0 ++ [.d h0]) [] [] hcx (by kernel_rfl)
  | false =>
   have e := Eq.refl (F48 a0 a1); conv at e => rhs; simp only [F48, h0, cond_true, cond_false]
   rw [e]
   exact rt (t0 ++ [.d h0]) [] [] hcx (by kernel_rfl)

/-- facet/span.inverse -/
def F103 (a0 : Int) (a1 : Int) : (Int × Int) × Int :=
  (bif (((W ((W ((F163 (W (Int.tdiv a0 a1))) * (F163 (W (Int.tdiv a0 a1))))) * a1)) : Int) == a0) then
   ((F48 (F163 (W (Int.tdiv a0 a1))) (F163 (W (Int.tdiv a0 a1)))).1, (F48 (F163 (W (Int.tdiv a0 a1))) (F163 (W (Int.tdiv a0 a1)))).2)
  else
   ((F48 (F163 (W (Int.tdiv a0 a1))) (W ((F163 (W (Int.tdiv a0 a1))) + 1))).1, (F48 (F163 (W (Int.tdiv a0 a1))) (W ((F163 (W (Int.tdiv a0 a1))) + 1))).2))

theorem C103 (a0 : Int) (a1 : Int) (ha : a1 ≠ 0) : Con Tryz.prog 103 [(iv a0), (iv a1)] [] (.t [(.a (k2 (F103 a0 a1).1)), (iv (F103 a0 a1).2)]) [] := by
  refine con_s Tryz.func103 (by kernel_rfl) fun cx hcx => ?_
  let t0 : List (St Tryz.prog) := [.p (show (a1 : Int) ≠ 0 from by first | omega | (rw [W_eq] <;> omega) | exact u64_nn _), .c [] (C163 (W (Int.tdiv a0 a1)))]
  cases h0 : (((W ((W ((F163 (W (Int.tdiv a0 a1))) * (F163 (W (Int.tdiv a0 a1))))) * a1)) : Int) == a0) with
  | true =>
   have q0 := eq_of_beq h0
   have e := Eq.refl (F103 a0 a1); conv at e => rhs; simp only [F103, h0, cond_true, cond_false]
   rw [e]
   exact rt (t0 ++ [.d h0, .c [] (C48 (F163 (W (Int.tdiv a0 a1))) (F163 (W (Int.tdiv a0 a1))))]) [] [] hcx (by kernel_rfl)
  | false =>
   have q0 := ne_of_beq_false h0
   have e := Eq.refl (F103 a0 a1); conv at e => rhs; simp only [F103, h0, cond_true, cond_false]
   rw [e]
   exact rt (t0 ++ [.d h0, .c [] (C48 (F163 (W (Int.tdiv a0 a1))) (W ((F163 (W (Int.tdiv a0 a1))) + 1)))]) [] [] hcx (by kernel_rfl)

/-- facet/span.Inverse -/
def F59 (a0 : Int) (a1 : Int) : (Int × Int) × Int :=
  (bif (decide ((a0 : Int) < 1)) then
   ((0, 0), 1)
  else
   (bif (decide ((a0 : Int) > 1099511627776)) then
    ((0, 0), 1)
   else
    (bif (decide ((a1 : Int) < 1)) then
     ((0, 0), 1)
    else
     (bif (decide ((a1 : Int) > 8)) then
      ((0, 0), 1)
     else
      ((F103 (W ((W (a1 * a1)) * 2 ^ (min (Int.toNat 40) 64))) a0).1, (F103 (W ((W (a1 * a1)) * 2 ^ (min (Int.toNat 40) 64))) a0).2)))))

theorem C59 (a0 : Int) (a1 : Int) : Con Tryz.prog 59 [(iv a0), (iv a1)] [] (.t [(.a (k2 (F59 a0 a1).1)), (iv (F59 a0 a1).2)]) [] := by
  refine con_s Tryz.func59 (by kernel_rfl) fun cx hcx => ?_
  cases h0 : (decide ((a0 : Int) < 1)) with
  | true =>
   have q0 := of_decide_eq_true h0
   have e := Eq.refl (F59 a0 a1); conv at e => rhs; simp only [F59, h0, cond_true, cond_false]
   rw [e]
   exact rt [.d h0] [] [] hcx (by kernel_rfl)
  | false =>
   have q0 := of_decide_eq_false h0
   let t1 : List (St Tryz.prog) := [.d h0]
   cases h1 : (decide ((a0 : Int) > 1099511627776)) with
   | true =>
    have q1 := of_decide_eq_true h1
    have e := Eq.refl (F59 a0 a1); conv at e => rhs; simp only [F59, h0, h1, cond_true, cond_false]
    rw [e]
    exact rt (t1 ++ [.d h1]) [] [] hcx (by kernel_rfl)
   | false =>
    have q1 := of_decide_eq_false h1
    let t2 : List (St Tryz.prog) := (t1 ++ [.d h1])
    cases h2 : (decide ((a1 : Int) < 1)) with
    | true =>
     have q2 := of_decide_eq_true h2
     have e := Eq.refl (F59 a0 a1); conv at e => rhs; simp only [F59, h0, h1, h2, cond_true, cond_false]
     rw [e]
     exact rt (t2 ++ [.d h2]) [] [] hcx (by kernel_rfl)
    | false =>
     have q2 := of_decide_eq_false h2
     let t3 : List (St Tryz.prog) := (t2 ++ [.d h2])
     cases h3 : (decide ((a1 : Int) > 8)) with
     | true =>
      have q3 := of_decide_eq_true h3
      have e := Eq.refl (F59 a0 a1); conv at e => rhs; simp only [F59, h0, h1, h2, h3, cond_true, cond_false]
      rw [e]
      exact rt (t3 ++ [.d h3]) [] [] hcx (by kernel_rfl)
     | false =>
      have q3 := of_decide_eq_false h3
      have e := Eq.refl (F59 a0 a1); conv at e => rhs; simp only [F59, h0, h1, h2, h3, cond_true, cond_false]
      rw [e]
      exact rt (t3 ++ [.d h3, .p (show 0 ≤ (40 : Int) from by decide), .c [] (C103 (W ((W (a1 * a1)) * 2 ^ (min (Int.toNat 40) 64))) a0  (by (try simp only [List.length_append, List.length_cons, List.length_nil, Int.toNat_zero]); omega))]) [] [] hcx (by kernel_rfl)

/-- facet/span.check at (1,) -/
def F77_1 (a0 : Int × Int) : Int :=
  (bif (!(F85 a0)) then
   1
  else
   0)

theorem C77_1 (a0 : Int × Int) : Con Tryz.prog 77 [(.s 0 0 1 2)] [(.live false false [(iv a0.1), (iv a0.2)])] (iv (F77_1 a0)) [] := by
  refine con_s Tryz.func77 (by kernel_rfl) fun cx hcx => ?_
  let t0 : List (St Tryz.prog) := [.u 200, .T, .i 0 1 (by decide), .c [] (C85 a0)]
  cases h0 : (!(F85 a0)) with
  | true =>
   have e := Eq.refl (F77_1 a0); conv at e => rhs; simp only [F77_1, h0, cond_true, cond_false]
   rw [e]
   exact rt (t0 ++ [.d h0]) [] [] hcx (by kernel_rfl)
  | false =>
   have e := Eq.refl (F77_1 a0); conv at e => rhs; simp only [F77_1, h0, cond_true, cond_false]
   rw [e]
   exact rt (t0 ++ [.d h0, .u 0, .F]) [] [] hcx (by kernel_rfl)

/-- facet/span.down -/
def F114 (a0 : Int) (a1 : Int) : Int :=
  (bif (((Int.tmod a0 a1) : Int) != 0) then
   (bif (!((decide ((a0 : Int) < 0)) == (decide ((a1 : Int) < 0)))) then
    (W ((W (Int.tdiv a0 a1)) - 1))
   else
    (W (Int.tdiv a0 a1)))
  else
   (W (Int.tdiv a0 a1)))

theorem C114 (a0 : Int) (a1 : Int) (ha : a1 ≠ 0) : Con Tryz.prog 114 [(iv a0), (iv a1)] [] (iv (F114 a0 a1)) [] := by
  refine con_s Tryz.func114 (by kernel_rfl) fun cx hcx => ?_
  let t0 : List (St Tryz.prog) := [.p (show (a1 : Int) ≠ 0 from by first | omega | (rw [W_eq] <;> omega) | exact u64_nn _), .p (show (a1 : Int) ≠ 0 from by first | omega | (rw [W_eq] <;> omega) | exact u64_nn _)]
  cases h0 : (((Int.tmod a0 a1) : Int) != 0) with
  | true =>
   have q0 := bne_iff_ne.1 h0
   let t1 : List (St Tryz.prog) := (t0 ++ [.d h0])
   cases h1 : (!((decide ((a0 : Int) < 0)) == (decide ((a1 : Int) < 0)))) with
   | true =>
    have e := Eq.refl (F114 a0 a1); conv at e => rhs; simp only [F114, h0, h1, cond_true, cond_false]
    rw [e]
    exact rt (t1 ++ [.d h1]) [] [] hcx (by kernel_rfl)
   | false =>
    have e := Eq.refl (F114 a0 a1); conv at e => rhs; simp only [F114, h0, h1, cond_true, cond_false]
    rw [e]
    exact rt (t1 ++ [.d h1]) [] [] hcx (by kernel_rfl)
  | false =>
   have q0 := bne_eq_false_iff_eq.1 h0
   have e := Eq.refl (F114 a0 a1); conv at e => rhs; simp only [F114, h0, cond_true, cond_false]
   rw [e]
   exact rt (t0 ++ [.d h0]) [] [] hcx (by kernel_rfl)

/-- facet/span.up -/
def F115 (a0 : Int) (a1 : Int) : Int :=
  (W (0 - (F114 (W (0 - a0)) a1)))

theorem C115 (a0 : Int) (a1 : Int) (ha : a1 ≠ 0) : Con Tryz.prog 115 [(iv a0), (iv a1)] [] (iv (F115 a0 a1)) [] := by
  refine con_s Tryz.func115 (by kernel_rfl) fun cx hcx => ?_
  have e := Eq.refl (F115 a0 a1); conv at e => rhs; simp only [F115]
  rw [e]
  exact rt [.c [] (C114 (W (0 - a0)) a1  (by (try simp only [List.length_append, List.length_cons, List.length_nil, Int.toNat_zero]); omega))] [] [] hcx (by kernel_rfl)

/-- facet/span.Part -/
def F66 (a0 : Int × Int) (a1 : Int) : (Int × Int) × Int :=
  (bif (((F77_1 a0) : Int) != 0) then
   ((0, 0), (F77_1 a0))
  else
   (bif (decide ((a1 : Int) < 1)) then
    ((0, 0), 1)
   else
    (bif (decide ((a1 : Int) > 1099511627776)) then
     ((0, 0), 1)
    else
     ((F48 (F114 a0.1 a1) (F115 a0.2 a1)).1, (F48 (F114 a0.1 a1) (F115 a0.2 a1)).2))))

theorem C66 (a0 : Int × Int) (a1 : Int) : Con Tryz.prog 66 [(.a [(iv a0.1), (iv a0.2)]), (iv a1)] [] (.t [(.a (k2 (F66 a0 a1).1)), (iv (F66 a0 a1).2)]) [] := by
  refine con_s Tryz.func66 (by kernel_rfl) fun cx hcx => ?_
  let t0 : List (St Tryz.prog) := [.c [2] (C77_1 a0)]
  cases h0 : (((F77_1 a0) : Int) != 0) with
  | true =>
   have q0 := bne_iff_ne.1 h0
   have e := Eq.refl (F66 a0 a1); conv at e => rhs; simp only [F66, h0, cond_true, cond_false]
   rw [e]
   exact rt (t0 ++ [.d h0]) [] [] hcx (by kernel_rfl)
  | false =>
   have q0 := bne_eq_false_iff_eq.1 h0
   let t1 : List (St Tryz.prog) := (t0 ++ [.d h0])
   cases h1 : (decide ((a1 : Int) < 1)) with
   | true =>
    have q1 := of_decide_eq_true h1
    have e := Eq.refl (F66 a0 a1); conv at e => rhs; simp only [F66, h0, h1, cond_true, cond_false]
    rw [e]
    exact rt (t1 ++ [.d h1]) [] [] hcx (by kernel_rfl)
   | false =>
    have q1 := of_decide_eq_false h1
    let t2 : List (St Tryz.prog) := (t1 ++ [.d h1])
    cases h2 : (decide ((a1 : Int) > 1099511627776)) with
    | true =>
     have q2 := of_decide_eq_true h2
     have e := Eq.refl (F66 a0 a1); conv at e => rhs; simp only [F66, h0, h1, h2, cond_true, cond_false]
     rw [e]
     exact rt (t2 ++ [.d h2]) [] [] hcx (by kernel_rfl)
    | false =>
     have q2 := of_decide_eq_false h2
     have e := Eq.refl (F66 a0 a1); conv at e => rhs; simp only [F66, h0, h1, h2, cond_true, cond_false]
     rw [e]
     exact rt (t2 ++ [.d h2, .c [] (C114 a0.1 a1  (by (try simp only [List.length_append, List.length_cons, List.length_nil, Int.toNat_zero]); omega)), .c [] (C115 a0.2 a1  (by (try simp only [List.length_append, List.length_cons, List.length_nil, Int.toNat_zero]); omega)), .c [] (C48 (F114 a0.1 a1) (F115 a0.2 a1))]) [] [] hcx (by kernel_rfl)

/-- api.Span, as cells -/
def c31 (x : Int × Int) : List SV := [(iv x.1), (iv x.2)]
theorem c31_len (x : Int × Int) : (c31 x).length = 2 := rfl

noncomputable def B77_L_0 : Code := (loopAtD [1, 0, 1] [] (bodyOf Tryz.f77) []).1
noncomputable def K77_L_0 : List K := (loopAtD [1, 0, 1] [] (bodyOf Tryz.f77) []).2

def st77_L_0 (a0 : List (Int × Int)) (v1 : Int) : LS := ⟨slN 15 [(5, (.s 0 0 a0.length 2)), (6, (iv ((a0.length : Nat) : Int))), (7, (iv v1))], [(.live false true (flat c31 a0))]⟩

/-- a round of loop 0 of facet/span.check; the variables: v1 = s7 -/
def S77_L_0 (a0 : List (Int × Int)) : Int → (Int) ⊕ (Int)
  | v1 =>
   (bif (decide ((v1 : Int) < ((a0.length : Nat) : Int))) then
    (bif (!(F85 (a0.getD (Int.toNat v1) default))) then
     (.inr 1)
    else
     (.inl (v1 + 1)))
   else
    (.inr 0))

set_option maxHeartbeats 4000000 in
theorem L77_L_0 (a0 : List (Int × Int)) (l0 : a0.length ≤ 9223372036854775807) {cx : Cx} (hcx : cx.base = 1) : ∀ (n : Nat) (v1 : Int), 0 ≤ v1 → Int.toNat (((a0.length : Nat) : Int) - v1) < n → Aw.Good Tryz.prog none 9 (bodyPost Tryz.prog Tryz.f77 (RR cx (iv (loopF (S77_L_0 a0) n v1)) [] [])) cx [] (.l B77_L_0 n :: K77_L_0) (st77_L_0 a0 v1) := by
  intro n
  induction n with
  | zero => intro v1 hi hn; exact absurd hn (Nat.not_lt_zero _)
  | succ n ih =>
    intro v1 hi hn
    refine good_round ?_
    cases h0 : (decide ((v1 : Int) < ((a0.length : Nat) : Int))) with
    | true =>
     have q0 := of_decide_eq_true h0
     let t1 : List (St Tryz.prog) := [.d h0, .i v1 (a0.length), .L c31_len a0 v1 0 2, .c [] (C85 (a0.getD (Int.toNat v1) default))]
     cases h1 : (!(F85 (a0.getD (Int.toNat v1) default))) with
     | true =>
      have e := Eq.refl (S77_L_0 a0 v1); conv at e => rhs; simp only [S77_L_0, h0, h1, cond_true, cond_false]
      rw [loopF_s, e]
      exact rt (t1 ++ [.d h1]) [] [] hcx (by kernel_rfl)
     | false =>
      have e := Eq.refl (S77_L_0 a0 v1); conv at e => rhs; simp only [S77_L_0, h0, h1, cond_true, cond_false]
      rw [loopF_inl e]
      refine ba (t1 ++ [.d h1]) [] [5, 6, 7] [] hcx (m := n) B77_L_0 (K77_L_0) (st77_L_0 a0 (W (v1 + 1))) (by kernel_rfl) ?_
      have z0 : (W (v1 + 1)) = (v1 + 1) := W_eq (by omega) (by omega)
      rw [z0]
      exact ih (v1 + 1) (by (try simp only [List.length_append, List.length_cons, List.length_nil, Int.toNat_zero]); omega) (by (try simp only [List.length_append, List.length_cons, List.length_nil, Int.toNat_zero]); omega)
    | false =>
     have q0 := of_decide_eq_false h0
     have e := Eq.refl (S77_L_0 a0 v1); conv at e => rhs; simp only [S77_L_0, h0, cond_true, cond_false]
     rw [loopF_s, e]
     exact rt [.d h0] [] [] hcx (by kernel_rfl)

/-- facet/span.check at ('L',) -/
def F77_L (a0 : List (Int × Int)) : Int :=
  (loopF (S77_L_0 a0) (Int.toNat (((a0.length : Nat) : Int) - 0) + 1) 0)

theorem C77_L (a0 : List (Int × Int)) (l0 : a0.length ≤ 9223372036854775807) : Con Tryz.prog 77 [(.s 0 0 a0.length 2)] [(.live false true (flat c31 a0))] (iv (F77_L a0)) [] := by
  refine con_s Tryz.func77 (by kernel_rfl) fun cx hcx => ?_
  have e := Eq.refl (F77_L a0); conv at e => rhs; simp only [F77_L]
  rw [e]
  refine en [] [] [5, 6, 7] [] hcx B77_L_0 (K77_L_0) (st77_L_0 a0 0) (Int.toNat (((a0.length : Nat) : Int) - 0) + 1) (by kernel_rfl) ?_
  exact L77_L_0 a0 l0 hcx (Int.toNat (((a0.length : Nat) : Int) - 0) + 1) 0 (by (try simp only [List.length_append, List.length_cons, List.length_nil, Int.toNat_zero]); omega) (by (try simp only [List.length_append, List.length_cons, List.length_nil, Int.toNat_zero]); omega)

noncomputable def B47_L_0 : Code := (loopAtD [1, 1, 1, 0, 1] [] (bodyOf Tryz.f47) []).1
noncomputable def K47_L_0 : List K := (loopAtD [1, 1, 1, 0, 1] [] (bodyOf Tryz.f47) []).2

def st47_L_0 (a0 : List (Int × Int)) (v1 : Int) (v2 : Int) (v3 : Int) : LS := ⟨slN 33 [(2, (iv v1)), (3, (iv v2)), (16, (.s 0 0 a0.length 2)), (17, (iv ((a0.length : Nat) : Int))), (18, (iv v3))], [(.live false true (flat c31 a0))]⟩

/-- a round of loop 0 of facet/span.total; the variables: v1 = s2, v2 = s3, v3 = s18 -/
def S47_L_0 (a0 : List (Int × Int)) : Int × Int × Int → (Int × Int × Int) ⊕ (Int × Int × Int)
  | (v1, v2, v3) =>
   (bif (decide ((v3 : Int) < ((a0.length : Nat) : Int))) then
    (.inl ((W (v1 + (a0.getD (Int.toNat v3) default).1)), (W (v2 + (a0.getD (Int.toNat v3) default).2)), (v3 + 1)))
   else
    (.inr (v1, v2, 0)))

set_option maxHeartbeats 4000000 in
theorem L47_L_0 (a0 : List (Int × Int)) (l0 : a0.length ≤ 9223372036854775807) {cx : Cx} (hcx : cx.base = 1) : ∀ (n : Nat) (v1 : Int) (v2 : Int) (v3 : Int), 0 ≤ v3 → Int.toNat (((a0.length : Nat) : Int) - v3) < n → Aw.Good Tryz.prog none 9 (bodyPost Tryz.prog Tryz.f47 (RR cx (.t (k3 (loopF (S47_L_0 a0) n (v1, v2, v3)))) [] [])) cx [] (.l B47_L_0 n :: K47_L_0) (st47_L_0 a0 v1 v2 v3) := by
  intro n
  induction n with
  | zero => intro v1 v2 v3 hi hn; exact absurd hn (Nat.not_lt_zero _)
  | succ n ih =>
    intro v1 v2 v3 hi hn
    refine good_round ?_
    cases h0 : (decide ((v3 : Int) < ((a0.length : Nat) : Int))) with
    | true =>
     have q0 := of_decide_eq_true h0
     have e := Eq.refl (S47_L_0 a0 (v1, v2, v3)); conv at e => rhs; simp only [S47_L_0, h0, cond_true, cond_false]
     rw [loopF_inl e]
     refine ba [.d h0, .i v3 (a0.length), .L c31_len a0 v3 0 2] [] [2, 3, 16, 17, 18] [] hcx (m := n) B47_L_0 (K47_L_0) (st47_L_0 a0 (W (v1 + (a0.getD (Int.toNat v3) default).1)) (W (v2 + (a0.getD (Int.toNat v3) default).2)) (W (v3 + 1))) (by kernel_rfl) ?_
     have z0 : (W (v3 + 1)) = (v3 + 1) := W_eq (by omega) (by omega)
     rw [z0]
     exact ih (W (v1 + (a0.getD (Int.toNat v3) default).1)) (W (v2 + (a0.getD (Int.toNat v3) default).2)) (v3 + 1) (by (try simp only [List.length_append, List.length_cons, List.length_nil, Int.toNat_zero]); omega) (by (try simp only [List.length_append, List.length_cons, List.length_nil, Int.toNat_zero]); omega)
    | false =>
     have q0 := of_decide_eq_false h0
     have e := Eq.refl (S47_L_0 a0 (v1, v2, v3)); conv at e => rhs; simp only [S47_L_0, h0, cond_true, cond_false]
     rw [loopF_s, e]
     exact rt [.d h0] [] [] hcx (by kernel_rfl)

/-- facet/span.total at ('L',) -/
def F47_L (a0 : List (Int × Int)) : Int × Int × Int :=
  (bif (decide ((((a0.length : Nat) : Int) : Int) > 10000)) then
   (0, 0, 4)
  else
   (bif (((F77_L a0) : Int) != 0) then
    (0, 0, (F77_L a0))
   else
    (loopF (S47_L_0 a0) (Int.toNat (((a0.length : Nat) : Int) - 0) + 1) (0, 0, 0))))

theorem C47_L (a0 : List (Int × Int)) (l0 : a0.length ≤ 9223372036854775807) : Con Tryz.prog 47 [(.s 0 0 a0.length 2)] [(.live false true (flat c31 a0))] (.t (k3 (F47_L a0))) [] := by
  refine con_s Tryz.func47 (by kernel_rfl) fun cx hcx => ?_
  cases h0 : (decide ((((a0.length : Nat) : Int) : Int) > 10000)) with
  | true =>
   have q0 := of_decide_eq_true h0
   have e := Eq.refl (F47_L a0); conv at e => rhs; simp only [F47_L, h0, cond_true, cond_false]
   rw [e]
   exact rt [.d h0] [] [] hcx (by kernel_rfl)
  | false =>
   have q0 := of_decide_eq_false h0
   let t1 : List (St Tryz.prog) := [.d h0, .c [0] (C77_L a0 (by (try simp only [List.length_append, List.length_cons, List.length_nil, Int.toNat_zero]); omega))]
   cases h1 : (((F77_L a0) : Int) != 0) with
   | true =>
    have q1 := bne_iff_ne.1 h1
    have e := Eq.refl (F47_L a0); conv at e => rhs; simp only [F47_L, h0, h1, cond_true, cond_false]
    rw [e]
    exact rt (t1 ++ [.d h1]) [] [] hcx (by kernel_rfl)
   | false =>
    have q1 := bne_eq_false_iff_eq.1 h1
    have e := Eq.refl (F47_L a0); conv at e => rhs; simp only [F47_L, h0, h1, cond_true, cond_false]
    rw [e]
    refine en (t1 ++ [.d h1]) [] [2, 3, 16, 17, 18] [] hcx B47_L_0 (K47_L_0) (st47_L_0 a0 0 0 0) (Int.toNat (((a0.length : Nat) : Int) - 0) + 1) (by kernel_rfl) ?_
    exact L47_L_0 a0 l0 hcx (Int.toNat (((a0.length : Nat) : Int) - 0) + 1) 0 0 0 (by (try simp only [List.length_append, List.length_cons, List.length_nil, Int.toNat_zero]); omega) (by (try simp only [List.length_append, List.length_cons, List.length_nil, Int.toNat_zero]); omega)

/-- facet/span.Sum at ('L',) -/
def F15_L (a0 : List (Int × Int)) : (Int × Int) × Int :=
  (bif (((F47_L a0).2.2 : Int) != 0) then
   ((0, 0), (F47_L a0).2.2)
  else
   ((F48 (F47_L a0).1 (F47_L a0).2.1).1, (F48 (F47_L a0).1 (F47_L a0).2.1).2))

theorem C15_L (a0 : List (Int × Int)) (l0 : a0.length ≤ 9223372036854775807) : Con Tryz.prog 15 [(.s 0 0 a0.length 2)] [(.live false true (flat c31 a0))] (.t [(.a (k2 (F15_L a0).1)), (iv (F15_L a0).2)]) [] := by
  refine con_s Tryz.func15 (by kernel_rfl) fun cx hcx => ?_
  let t0 : List (St Tryz.prog) := [.c [0] (C47_L a0 (by (try simp only [List.length_append, List.length_cons, List.length_nil, Int.toNat_zero]); omega))]
  cases h0 : (((F47_L a0).2.2 : Int) != 0) with
  | true =>
   have q0 := bne_iff_ne.1 h0
   have e := Eq.refl (F15_L a0); conv at e => rhs; simp only [F15_L, h0, cond_true, cond_false]
   rw [e]
   exact rt (t0 ++ [.d h0]) [] [] hcx (by kernel_rfl)
  | false =>
   have q0 := bne_eq_false_iff_eq.1 h0
   have e := Eq.refl (F15_L a0); conv at e => rhs; simp only [F15_L, h0, cond_true, cond_false]
   rw [e]
   exact rt (t0 ++ [.d h0, .c [] (C48 (F47_L a0).1 (F47_L a0).2.1)]) [] [] hcx (by kernel_rfl)

/-- facet/span.product -/
def F79 (a0 : Int) (a1 : Int) : Int :=
  (bif ((a0 : Int) != 0) then
   (bif ((a1 : Int) != 0) then
    (bif (decide (((if (a1 : Int) < (W (0 - a1)) then (W (0 - a1)) else a1) : Int) > (W (Int.tdiv 1099511627776 (if (a0 : Int) < (W (0 - a0)) then (W (0 - a0)) else a0))))) then
     (bif (!((decide ((a0 : Int) < 0)) == (decide ((a1 : Int) < 0)))) then
      (-1099511627777)
     else
      1099511627777)
    else
     (W (a0 * a1)))
   else
    (W (a0 * a1)))
  else
   (W (a0 * a1)))

theorem C79 (a0 : Int) (a1 : Int) (ha : -1099511627776 ≤ a0 ∧ a0 ≤ 1099511627776) : Con Tryz.prog 79 [(iv a0), (iv a1)] [] (iv (F79 a0 a1)) [] := by
  refine con_s Tryz.func79 (by kernel_rfl) fun cx hcx => ?_
  cases h0 : ((a0 : Int) != 0) with
  | true =>
   have q0 := bne_iff_ne.1 h0
   let t1 : List (St Tryz.prog) := [.d h0]
   cases h1 : ((a1 : Int) != 0) with
   | true =>
    have q1 := bne_iff_ne.1 h1
    let t2 : List (St Tryz.prog) := (t1 ++ [.d h1, .p (show ((if (a0 : Int) < (W (0 - a0)) then (W (0 - a0)) else a0) : Int) ≠ 0 from by (have hw := W_eq (n := 0 - a0) (by omega) (by omega); rw [hw]; split <;> omega))])
    cases h2 : (decide (((if (a1 : Int) < (W (0 - a1)) then (W (0 - a1)) else a1) : Int) > (W (Int.tdiv 1099511627776 (if (a0 : Int) < (W (0 - a0)) then (W (0 - a0)) else a0))))) with
    | true =>
     have q2 := of_decide_eq_true h2
     let t3 : List (St Tryz.prog) := (t2 ++ [.d h2])
     cases h3 : (!((decide ((a0 : Int) < 0)) == (decide ((a1 : Int) < 0)))) with
     | true =>
      have e := Eq.refl (F79 a0 a1); conv at e => rhs; simp only [F79, h0, h1, h2, h3, cond_true, cond_false]
      rw [e]
      exact rt (t3 ++ [.d h3]) [] [] hcx (by kernel_rfl)
     | false =>
      have e := Eq.refl (F79 a0 a1); conv at e => rhs; simp only [F79, h0, h1, h2, h3, cond_true, cond_false]
      rw [e]
      exact rt (t3 ++ [.d h3]) [] [] hcx (by kernel_rfl)
    | false =>
     have q2 := of_decide_eq_false h2
     have e := Eq.refl (F79 a0 a1); conv at e => rhs; simp only [F79, h0, h1, h2, cond_true, cond_false]
     rw [e]
     exact rt (t2 ++ [.d h2]) [] [] hcx (by kernel_rfl)
   | false =>
    have q1 := bne_eq_false_iff_eq.1 h1
    have e := Eq.refl (F79 a0 a1); conv at e => rhs; simp only [F79, h0, h1, cond_true, cond_false]
    rw [e]
    exact rt (t1 ++ [.d h1]) [] [] hcx (by kernel_rfl)
  | false =>
   have q0 := bne_eq_false_iff_eq.1 h0
   have e := Eq.refl (F79 a0 a1); conv at e => rhs; simp only [F79, h0, cond_true, cond_false]
   rw [e]
   exact rt [.d h0] [] [] hcx (by kernel_rfl)

end Go.Proofs.YtidhogejnafhaaaGreat

namespace Go.Proofs.YtidhogejnafhaaaGreat
open Go.Proofs Go.Aw Go.RowKit
set_option maxRecDepth 100000
set_option linter.unusedVariables false
set_option linter.unusedSimpArgs false

/-- facet/facetref01.within -/
def F124 (a0 : Int) (a1 : Int) (a2 : Int) : Bool :=
  (bif (decide ((a0 : Int) ≥ a1)) then
   (decide ((a0 : Int) ≤ a2))
  else
   false)

theorem C124 (a0 : Int) (a1 : Int) (a2 : Int) : Con Tryz.prog 124 [(iv a0), (iv a1), (iv a2)] [] (.v (.bool (F124 a0 a1 a2))) [] := by
  refine con_s Tryz.func124 (by kernel_rfl) fun cx hcx => ?_
  cases h0 : (decide ((a0 : Int) ≥ a1)) with
  | true =>
   have q0 := of_decide_eq_true h0
   have e := Eq.refl (F124 a0 a1 a2); conv at e => rhs; simp only [F124, h0, cond_true, cond_false]
   rw [e]
   exact rt [.d h0] [] [] hcx (by kernel_rfl)
  | false =>
   have q0 := of_decide_eq_false h0
   have e := Eq.refl (F124 a0 a1 a2); conv at e => rhs; simp only [F124, h0, cond_true, cond_false]
   rw [e]
   exact rt [.d h0] [] [] hcx (by kernel_rfl)

/-- facet/facetref01.Valid -/
def F123 (a0 : Int × Int) : Bool :=
  (bif (decide ((a0.1 : Int) ≥ (-1099511627776))) then
   (bif (decide ((a0.1 : Int) ≤ a0.2)) then
    (decide ((a0.2 : Int) ≤ 1099511627776))
   else
    false)
  else
   false)

theorem C123 (a0 : Int × Int) : Con Tryz.prog 123 [(.a [(iv a0.1), (iv a0.2)])] [] (.v (.bool (F123 a0))) [] := by
  refine con_s Tryz.func123 (by kernel_rfl) fun cx hcx => ?_
  cases h0 : (decide ((a0.1 : Int) ≥ (-1099511627776))) with
  | true =>
   have q0 := of_decide_eq_true h0
   let t1 : List (St Tryz.prog) := [.d h0]
   cases h1 : (decide ((a0.1 : Int) ≤ a0.2)) with
   | true =>
    have q1 := of_decide_eq_true h1
    have e := Eq.refl (F123 a0); conv at e => rhs; simp only [F123, h0, h1, cond_true, cond_false]
    rw [e]
    exact rt (t1 ++ [.d h1]) [] [] hcx (by kernel_rfl)
   | false =>
    have q1 := of_decide_eq_false h1
    have e := Eq.refl (F123 a0); conv at e => rhs; simp only [F123, h0, h1, cond_true, cond_false]
    rw [e]
    exact rt (t1 ++ [.d h1]) [] [] hcx (by kernel_rfl)
  | false =>
   have q0 := of_decide_eq_false h0
   have e := Eq.refl (F123 a0); conv at e => rhs; simp only [F123, h0, cond_true, cond_false]
   rw [e]
   exact rt [.d h0] [] [] hcx (by kernel_rfl)

/-- int, as cells -/
def c3 (x : Int) : List SV := [(iv x)]
theorem c3_len (x : Int) : (c3 x).length = 1 := rfl

/-- facet/facetref03.axis at (3,) -/
def F187_3 (a0 : (Int × Int × Int) × (Int × Int × Int) × (Int × Int × Int)) (a1 : Int) : List (Int) :=
  (bif ((a1 : Int) == 0) then
   ([a0.1.1, a0.2.1.1, a0.2.2.1] : List (Int))
  else
   (bif ((a1 : Int) == 1) then
    ([a0.1.2.1, a0.2.1.2.1, a0.2.2.2.1] : List (Int))
   else
    ([a0.1.2.2, a0.2.1.2.2, a0.2.2.2.2] : List (Int))))

theorem C187_3 (a0 : (Int × Int × Int) × (Int × Int × Int) × (Int × Int × Int)) (a1 : Int) : Con Tryz.prog 187 [(.s 0 0 3 3), (iv a1)] [(.live false false (k9 a0))] (.s 1 0 (F187_3 a0 a1).length 1) [(.live true true (flat c3 (F187_3 a0 a1)))] := by
  refine con_s Tryz.func187 (by kernel_rfl) fun cx hcx => ?_
  let t0 : List (St Tryz.prog) := [.u 200, .T]
  cases h0 : ((a1 : Int) == 0) with
  | true =>
   have q0 := eq_of_beq h0
   have e := Eq.refl (F187_3 a0 a1); conv at e => rhs; simp only [F187_3, h0, cond_true, cond_false]
   rw [e]
   exact rt (t0 ++ [.d h0, .i 0 3 (by decide), .u 0, .T, .d h0, .i 1 3 (by decide), .u 0, .T, .d h0, .i 2 3 (by decide), .u 0, .F]) [.sym 6 true] [6] hcx (by kernel_rfl)
  | false =>
   have q0 := ne_of_beq_false h0
   let t1 : List (St Tryz.prog) := (t0 ++ [.d h0])
   cases h1 : ((a1 : Int) == 1) with
   | true =>
    have q1 := eq_of_beq h1
    have e := Eq.refl (F187_3 a0 a1); conv at e => rhs; simp only [F187_3, h0, h1, cond_true, cond_false]
    rw [e]
    exact rt (t1 ++ [.d h1, .i 0 3 (by decide), .u 0, .T, .d h0, .d h1, .i 1 3 (by decide), .u 0, .T, .d h0, .d h1, .i 2 3 (by decide), .u 0, .F]) [.sym 6 true] [6] hcx (by kernel_rfl)
   | false =>
    have q1 := ne_of_beq_false h1
    have e := Eq.refl (F187_3 a0 a1); conv at e => rhs; simp only [F187_3, h0, h1, cond_true, cond_false]
    rw [e]
    exact rt (t1 ++ [.d h1, .i 0 3 (by decide), .u 0, .T, .d h0, .d h1, .i 1 3 (by decide), .u 0, .T, .d h0, .d h1, .i 2 3 (by decide), .u 0, .F]) [.sym 6 true] [6] hcx (by kernel_rfl)

/-- facet/facetref03.axis at (1,) -/
def F187_1 (a0 : Int × Int × Int) (a1 : Int) : List (Int) :=
  (bif ((a1 : Int) == 0) then
   ([a0.1] : List (Int))
  else
   (bif ((a1 : Int) == 1) then
    ([a0.2.1] : List (Int))
   else
    ([a0.2.2] : List (Int))))

theorem C187_1 (a0 : Int × Int × Int) (a1 : Int) : Con Tryz.prog 187 [(.s 0 0 1 3), (iv a1)] [(.live false false (k3 a0))] (.s 1 0 (F187_1 a0 a1).length 1) [(.live true true (flat c3 (F187_1 a0 a1)))] := by
  refine con_s Tryz.func187 (by kernel_rfl) fun cx hcx => ?_
  let t0 : List (St Tryz.prog) := [.u 200, .T]
  cases h0 : ((a1 : Int) == 0) with
  | true =>
   have q0 := eq_of_beq h0
   have e := Eq.refl (F187_1 a0 a1); conv at e => rhs; simp only [F187_1, h0, cond_true, cond_false]
   rw [e]
   exact rt (t0 ++ [.d h0, .i 0 1 (by decide), .u 0, .F]) [.sym 2 true] [2] hcx (by kernel_rfl)
  | false =>
   have q0 := ne_of_beq_false h0
   let t1 : List (St Tryz.prog) := (t0 ++ [.d h0])
   cases h1 : ((a1 : Int) == 1) with
   | true =>
    have q1 := eq_of_beq h1
    have e := Eq.refl (F187_1 a0 a1); conv at e => rhs; simp only [F187_1, h0, h1, cond_true, cond_false]
    rw [e]
    exact rt (t1 ++ [.d h1, .i 0 1 (by decide), .u 0, .F]) [.sym 2 true] [2] hcx (by kernel_rfl)
   | false =>
    have q1 := ne_of_beq_false h1
    have e := Eq.refl (F187_1 a0 a1); conv at e => rhs; simp only [F187_1, h0, h1, cond_true, cond_false]
    rw [e]
    exact rt (t1 ++ [.d h1, .i 0 1 (by decide), .u 0, .F]) [.sym 2 true] [2] hcx (by kernel_rfl)

theorem win_ne {a b c : Int} (h : (!(F124 a b c)) = false) (hb : 1 ≤ b := by omega) : a ≠ 0 := by
  unfold F124 at h
  cases h1 : decide ((a : Int) ≥ b) with
  | true => have := of_decide_eq_true h1; omega
  | false => simp [h1] at h
theorem cube_ne {n : Int} (h1 : 1 ≤ n) (h2 : n ≤ 1048576) : W ((W (n * n)) * n) ≠ 0 := by
  have a1 : 1 * 1 ≤ n * n := Int.mul_le_mul h1 h1 (by omega) (by omega)
  have a2 : n * n ≤ 1048576 * 1048576 := Int.mul_le_mul h2 h2 (by omega) (by omega)
  have b1 : 1 * 1 ≤ n * n * n := Int.mul_le_mul (by omega) h1 (by omega) (by omega)
  have b2 : n * n * n ≤ 1048576 * 1048576 * 1048576 := Int.mul_le_mul a2 h2 (by omega) (by omega)
  rw [W_eq (n := n * n) (by omega) (by omega), W_eq (by omega) (by omega)]
  omega
theorem win_ge {a b c : Int} (h : (!(F124 a b c)) = false) : b ≤ a := by
  unfold F124 at h
  cases h1 : decide ((a : Int) ≥ b) with
  | true => have := of_decide_eq_true h1; omega
  | false => simp [h1] at h
theorem axis3 (a : (Int × Int × Int) × (Int × Int × Int) × (Int × Int × Int)) (k : Int) : (F187_3 a k).length = 3 := by
  unfold F187_3
  cases ((k : Int) == 0) <;> cases ((k : Int) == 1) <;> rfl
theorem axis1 (a : Int × Int × Int) (k : Int) : (F187_1 a k).length = 1 := by
  unfold F187_1
  cases ((k : Int) == 0) <;> cases ((k : Int) == 1) <;> rfl

/-- facet/facetref01.Down -/
def F129 (a0 : Int) (a1 : Int) : Int :=
  (bif (decide (((Int.tmod a0 a1) : Int) < 0)) then
   (W ((W (Int.tdiv a0 a1)) - 1))
  else
   (W (Int.tdiv a0 a1)))

theorem C129 (a0 : Int) (a1 : Int) (ha : a1 ≠ 0) : Con Tryz.prog 129 [(iv a0), (iv a1)] [] (iv (F129 a0 a1)) [] := by
  refine con_s Tryz.func129 (by kernel_rfl) fun cx hcx => ?_
  let t0 : List (St Tryz.prog) := [.p (show (a1 : Int) ≠ 0 from by first | omega | (rw [W_eq] <;> omega) | exact u64_nn _), .p (show (a1 : Int) ≠ 0 from by first | omega | (rw [W_eq] <;> omega) | exact u64_nn _)]
  cases h0 : (decide (((Int.tmod a0 a1) : Int) < 0)) with
  | true =>
   have q0 := of_decide_eq_true h0
   have e := Eq.refl (F129 a0 a1); conv at e => rhs; simp only [F129, h0, cond_true, cond_false]
   rw [e]
   exact rt (t0 ++ [.d h0]) [] [] hcx (by kernel_rfl)
  | false =>
   have q0 := of_decide_eq_false h0
   have e := Eq.refl (F129 a0 a1); conv at e => rhs; simp only [F129, h0, cond_true, cond_false]
   rw [e]
   exact rt (t0 ++ [.d h0]) [] [] hcx (by kernel_rfl)

/-- facet/facetref01.Up -/
def F130 (a0 : Int) (a1 : Int) : Int :=
  (W (0 - (F129 (W (0 - a0)) a1)))

theorem C130 (a0 : Int) (a1 : Int) (ha : a1 ≠ 0) : Con Tryz.prog 130 [(iv a0), (iv a1)] [] (iv (F130 a0 a1)) [] := by
  refine con_s Tryz.func130 (by kernel_rfl) fun cx hcx => ?_
  have e := Eq.refl (F130 a0 a1); conv at e => rhs; simp only [F130]
  rw [e]
  exact rt [.c [] (C129 (W (0 - a0)) a1  (by (try simp only [List.length_append, List.length_cons, List.length_nil, Int.toNat_zero, axis3, axis1]); omega))] [] [] hcx (by kernel_rfl)

/-- facet/facetref01.told -/
def F74 (a0 : Int) (a1 : Int) : (Int × Int) × Int :=
  (bif (!(F123 (a0, a1))) then
   ((0, 0), 4)
  else
   ((a0, a1), 0))

theorem C74 (a0 : Int) (a1 : Int) : Con Tryz.prog 74 [(iv a0), (iv a1)] [] (.t [(.a (k2 (F74 a0 a1).1)), (iv (F74 a0 a1).2)]) [] := by
  refine con_s Tryz.func74 (by kernel_rfl) fun cx hcx => ?_
  let t0 : List (St Tryz.prog) := [.c [] (C123 (a0, a1))]
  cases h0 : (!(F123 (a0, a1))) with
  | true =>
   have e := Eq.refl (F74 a0 a1); conv at e => rhs; simp only [F74, h0, cond_true, cond_false]
   rw [e]
   exact rt (t0 ++ [.d h0]) [] [] hcx (by kernel_rfl)
  | false =>
   have e := Eq.refl (F74 a0 a1); conv at e => rhs; simp only [F74, h0, cond_true, cond_false]
   rw [e]
   exact rt (t0 ++ [.d h0]) [] [] hcx (by kernel_rfl)

/-- facet/facetref01.Part -/
def F72 (a0 : Int × Int) (a1 : Int) : (Int × Int) × Int :=
  (bif (!(F123 a0)) then
   ((0, 0), 1)
  else
   (bif (!(F124 a1 1 1099511627776)) then
    ((0, 0), 1)
   else
    ((F74 (F129 a0.1 a1) (F130 a0.2 a1)).1, (F74 (F129 a0.1 a1) (F130 a0.2 a1)).2)))

theorem C72 (a0 : Int × Int) (a1 : Int) : Con Tryz.prog 72 [(.a [(iv a0.1), (iv a0.2)]), (iv a1)] [] (.t [(.a (k2 (F72 a0 a1).1)), (iv (F72 a0 a1).2)]) [] := by
  refine con_s Tryz.func72 (by kernel_rfl) fun cx hcx => ?_
  let t0 : List (St Tryz.prog) := [.c [] (C123 a0)]
  cases h0 : (!(F123 a0)) with
  | true =>
   have e := Eq.refl (F72 a0 a1); conv at e => rhs; simp only [F72, h0, cond_true, cond_false]
   rw [e]
   exact rt (t0 ++ [.d h0]) [] [] hcx (by kernel_rfl)
  | false =>
   let t1 : List (St Tryz.prog) := (t0 ++ [.d h0, .c [] (C124 a1 1 1099511627776)])
   cases h1 : (!(F124 a1 1 1099511627776)) with
   | true =>
    have e := Eq.refl (F72 a0 a1); conv at e => rhs; simp only [F72, h0, h1, cond_true, cond_false]
    rw [e]
    exact rt (t1 ++ [.d h1]) [] [] hcx (by kernel_rfl)
   | false =>
    have e := Eq.refl (F72 a0 a1); conv at e => rhs; simp only [F72, h0, h1, cond_true, cond_false]
    rw [e]
    exact rt (t1 ++ [.d h1, .c [] (C129 a0.1 a1  (win_ne h1)), .c [] (C130 a0.2 a1  (win_ne h1)), .c [] (C74 (F129 a0.1 a1) (F130 a0.2 a1))]) [] [] hcx (by kernel_rfl)

noncomputable def B193_0 : Code := (loopAtD [1, 1, 0] [] (bodyOf Tryz.f193) []).1
noncomputable def K193_0 : List K := (loopAtD [1, 1, 0] [] (bodyOf Tryz.f193) []).2

def st193_0 (a0 : Int) (v2 : Int) (v3 : Int) : LS := ⟨slN 23 [(0, (iv a0)), (3, (iv v2)), (4, (iv v3))], []⟩

/-- a round of loop 0 of facet/facetref01.floor; the variables: v2 = s3, v3 = s4 -/
def S193_0 (a0 : Int) : Int × Int → (Int × Int) ⊕ (Int)
  | (v2, v3) =>
   (bif (decide ((v2 : Int) < v3)) then
    (bif (decide (((W ((W (Int.tdiv (W ((W (v2 + v3)) + 1)) 2)) * (W (Int.tdiv (W ((W (v2 + v3)) + 1)) 2)))) : Int) ≤ a0)) then
     (.inl ((W (Int.tdiv (W ((W (v2 + v3)) + 1)) 2)), v3))
    else
     (.inl (v2, (W ((W (Int.tdiv (W ((W (v2 + v3)) + 1)) 2)) - 1)))))
   else
    (.inr v2))

set_option maxHeartbeats 4000000 in
theorem L193_0 (a0 : Int) {cx : Cx} (hcx : cx.base = 0) : ∀ (n : Nat) (v2 : Int) (v3 : Int), (0 ≤ v2) ∧ (0 ≤ v2) ∧ (v2 ≤ v3) ∧ (v3 ≤ 2147483648) → Int.toNat (v3 - v2) < n → Aw.Good Tryz.prog none 9 (bodyPost Tryz.prog Tryz.f193 (RR cx (iv (loopF (S193_0 a0) n (v2, v3))) [] [])) cx [] (.l B193_0 n :: K193_0) (st193_0 a0 v2 v3) := by
  intro n
  induction n with
  | zero => intro v2 v3 hi hn; exact absurd hn (Nat.not_lt_zero _)
  | succ n ih =>
    intro v2 v3 hi hn
    refine good_round ?_
    have hw := mid1_eq (a := v2) (b := v3) (by omega)
    have hw2 := mid2_eq (a := v2) (b := v3) (by omega)
    cases h0 : (decide ((v2 : Int) < v3)) with
    | true =>
     have q0 := of_decide_eq_true h0
     let t1 : List (St Tryz.prog) := [.d h0, .p (show (2 : Int) ≠ 0 from by decide)]
     cases h1 : (decide (((W ((W (Int.tdiv (W ((W (v2 + v3)) + 1)) 2)) * (W (Int.tdiv (W ((W (v2 + v3)) + 1)) 2)))) : Int) ≤ a0)) with
     | true =>
      have q1 := of_decide_eq_true h1
      have e := Eq.refl (S193_0 a0 (v2, v3)); conv at e => rhs; simp only [S193_0, h0, h1, cond_true, cond_false]
      rw [loopF_inl e]
      refine ba (t1 ++ [.d h1]) [] [0, 3, 4] [] hcx (m := n) B193_0 (K193_0) (st193_0 a0 (W (Int.tdiv (W ((W (v2 + v3)) + 1)) 2)) v3) (by kernel_rfl) ?_
      exact ih (W (Int.tdiv (W ((W (v2 + v3)) + 1)) 2)) v3 (by refine ⟨?_, ?_, ?_, ?_⟩ <;> (try simp only [List.length_append, List.length_cons, List.length_nil, Int.toNat_zero]) <;> first | omega | assumption | simp) (by (try simp only [List.length_append, List.length_cons, List.length_nil, Int.toNat_zero]); omega)
     | false =>
      have q1 := of_decide_eq_false h1
      have e := Eq.refl (S193_0 a0 (v2, v3)); conv at e => rhs; simp only [S193_0, h0, h1, cond_true, cond_false]
      rw [loopF_inl e]
      refine ba (t1 ++ [.d h1]) [] [0, 3, 4] [] hcx (m := n) B193_0 (K193_0) (st193_0 a0 v2 (W ((W (Int.tdiv (W ((W (v2 + v3)) + 1)) 2)) - 1))) (by kernel_rfl) ?_
      exact ih v2 (W ((W (Int.tdiv (W ((W (v2 + v3)) + 1)) 2)) - 1)) (by refine ⟨?_, ?_, ?_, ?_⟩ <;> (try simp only [List.length_append, List.length_cons, List.length_nil, Int.toNat_zero]) <;> first | omega | assumption | simp) (by (try simp only [List.length_append, List.length_cons, List.length_nil, Int.toNat_zero]); omega)
    | false =>
     have q0 := of_decide_eq_false h0
     have e := Eq.refl (S193_0 a0 (v2, v3)); conv at e => rhs; simp only [S193_0, h0, cond_true, cond_false]
     rw [loopF_s, e]
     exact rt [.d h0] [] [] hcx (by kernel_rfl)

/-- facet/facetref01.floor -/
def F193 (a0 : Int) : Int :=
  (loopF (S193_0 a0) (Int.toNat (2147483648 - 0) + 1) (0, 2147483648))

theorem C193 (a0 : Int) : Con Tryz.prog 193 [(iv a0)] [] (iv (F193 a0)) [] := by
  refine con_s Tryz.func193 (by kernel_rfl) fun cx hcx => ?_
  have e := Eq.refl (F193 a0); conv at e => rhs; simp only [F193]
  rw [e]
  refine en [] [] [0, 3, 4] [] hcx B193_0 (K193_0) (st193_0 a0 0 2147483648) (Int.toNat (2147483648 - 0) + 1) (by kernel_rfl) ?_
  exact L193_0 a0 hcx (Int.toNat (2147483648 - 0) + 1) 0 2147483648 (by refine ⟨?_, ?_, ?_, ?_⟩ <;> (try simp only [List.length_append, List.length_cons, List.length_nil, Int.toNat_zero]) <;> first | omega | assumption | simp) (by (try simp only [List.length_append, List.length_cons, List.length_nil, Int.toNat_zero]); omega)

/-- facet/facetref01.below -/
def F188 (a0 : Int) (a1 : Int) : (Int × Int) × Int :=
  (bif (((Int.tmod a0 a1) : Int) == 0) then
   (bif (((W ((F193 (W (Int.tdiv a0 a1))) * (F193 (W (Int.tdiv a0 a1))))) : Int) == (W (Int.tdiv a0 a1))) then
    ((F74 (F193 (W (Int.tdiv a0 a1))) (F193 (W (Int.tdiv a0 a1)))).1, (F74 (F193 (W (Int.tdiv a0 a1))) (F193 (W (Int.tdiv a0 a1)))).2)
   else
    ((F74 (F193 (W (Int.tdiv a0 a1))) (W ((F193 (W (Int.tdiv a0 a1))) + 1))).1, (F74 (F193 (W (Int.tdiv a0 a1))) (W ((F193 (W (Int.tdiv a0 a1))) + 1))).2))
  else
   ((F74 (F193 (W (Int.tdiv a0 a1))) (W ((F193 (W (Int.tdiv a0 a1))) + 1))).1, (F74 (F193 (W (Int.tdiv a0 a1))) (W ((F193 (W (Int.tdiv a0 a1))) + 1))).2))

theorem C188 (a0 : Int) (a1 : Int) (ha : a1 ≠ 0) : Con Tryz.prog 188 [(iv a0), (iv a1)] [] (.t [(.a (k2 (F188 a0 a1).1)), (iv (F188 a0 a1).2)]) [] := by
  refine con_s Tryz.func188 (by kernel_rfl) fun cx hcx => ?_
  let t0 : List (St Tryz.prog) := [.p (show (a1 : Int) ≠ 0 from by first | omega | (rw [W_eq] <;> omega) | exact u64_nn _), .c [] (C193 (W (Int.tdiv a0 a1))), .p (show (a1 : Int) ≠ 0 from by first | omega | (rw [W_eq] <;> omega) | exact u64_nn _)]
  cases h0 : (((Int.tmod a0 a1) : Int) == 0) with
  | true =>
   have q0 := eq_of_beq h0
   let t1 : List (St Tryz.prog) := (t0 ++ [.d h0, .p (show (a1 : Int) ≠ 0 from by first | omega | (rw [W_eq] <;> omega) | exact u64_nn _)])
   cases h1 : (((W ((F193 (W (Int.tdiv a0 a1))) * (F193 (W (Int.tdiv a0 a1))))) : Int) == (W (Int.tdiv a0 a1))) with
   | true =>
    have q1 := eq_of_beq h1
    have e := Eq.refl (F188 a0 a1); conv at e => rhs; simp only [F188, h0, h1, cond_true, cond_false]
    rw [e]
    exact rt (t1 ++ [.d h1, .c [] (C74 (F193 (W (Int.tdiv a0 a1))) (F193 (W (Int.tdiv a0 a1))))]) [] [] hcx (by kernel_rfl)
   | false =>
    have q1 := ne_of_beq_false h1
    have e := Eq.refl (F188 a0 a1); conv at e => rhs; simp only [F188, h0, h1, cond_true, cond_false]
    rw [e]
    exact rt (t1 ++ [.d h1, .c [] (C74 (F193 (W (Int.tdiv a0 a1))) (W ((F193 (W (Int.tdiv a0 a1))) + 1)))]) [] [] hcx (by kernel_rfl)
  | false =>
   have q0 := ne_of_beq_false h0
   have e := Eq.refl (F188 a0 a1); conv at e => rhs; simp only [F188, h0, cond_true, cond_false]
   rw [e]
   exact rt (t0 ++ [.d h0, .c [] (C74 (F193 (W (Int.tdiv a0 a1))) (W ((F193 (W (Int.tdiv a0 a1))) + 1)))]) [] [] hcx (by kernel_rfl)

/-- facet/facetref01.Inverse -/
def F168 (a0 : Int) (a1 : Int) : (Int × Int) × Int :=
  (bif (!(F124 a0 1 1099511627776)) then
   ((0, 0), 1)
  else
   (bif (!(F124 a1 1 8)) then
    ((0, 0), 1)
   else
    ((F188 (W ((W ((W (1048576 * a1)) * 1048576)) * a1)) a0).1, (F188 (W ((W ((W (1048576 * a1)) * 1048576)) * a1)) a0).2)))

theorem C168 (a0 : Int) (a1 : Int) : Con Tryz.prog 168 [(iv a0), (iv a1)] [] (.t [(.a (k2 (F168 a0 a1).1)), (iv (F168 a0 a1).2)]) [] := by
  refine con_s Tryz.func168 (by kernel_rfl) fun cx hcx => ?_
  let t0 : List (St Tryz.prog) := [.c [] (C124 a0 1 1099511627776)]
  cases h0 : (!(F124 a0 1 1099511627776)) with
  | true =>
   have e := Eq.refl (F168 a0 a1); conv at e => rhs; simp only [F168, h0, cond_true, cond_false]
   rw [e]
   exact rt (t0 ++ [.d h0]) [] [] hcx (by kernel_rfl)
  | false =>
   let t1 : List (St Tryz.prog) := (t0 ++ [.d h0, .c [] (C124 a1 1 8)])
   cases h1 : (!(F124 a1 1 8)) with
   | true =>
    have e := Eq.refl (F168 a0 a1); conv at e => rhs; simp only [F168, h0, h1, cond_true, cond_false]
    rw [e]
    exact rt (t1 ++ [.d h1]) [] [] hcx (by kernel_rfl)
   | false =>
    have e := Eq.refl (F168 a0 a1); conv at e => rhs; simp only [F168, h0, h1, cond_true, cond_false]
    rw [e]
    exact rt (t1 ++ [.d h1, .c [] (C188 (W ((W ((W (1048576 * a1)) * 1048576)) * a1)) a0  (win_ne h0))]) [] [] hcx (by kernel_rfl)

/-- facet/facetref02.Minus -/
def F127 (a0 : Int × Int × Int) (a1 : Int × Int × Int) : Int × Int × Int :=
  ((W (a0.1 - a1.1)), (W (a0.2.1 - a1.2.1)), (W (a0.2.2 - a1.2.2)))

theorem C127 (a0 : Int × Int × Int) (a1 : Int × Int × Int) : Con Tryz.prog 127 [(.a (k3 a0)), (.a (k3 a1))] [] (.a (k3 (F127 a0 a1))) [] := by
  refine con_s Tryz.func127 (by kernel_rfl) fun cx hcx => ?_
  have e := Eq.refl (F127 a0 a1); conv at e => rhs; simp only [F127]
  rw [e]
  exact rt [] [] [] hcx (by kernel_rfl)

/-- facet/facetref02.Cross -/
def F128 (a0 : Int × Int × Int) (a1 : Int × Int × Int) : Int × Int × Int :=
  ((W ((W (a0.2.1 * a1.2.2)) - (W (a0.2.2 * a1.2.1)))), (W ((W (a0.2.2 * a1.1)) - (W (a0.1 * a1.2.2)))), (W ((W (a0.1 * a1.2.1)) - (W (a0.2.1 * a1.1)))))

theorem C128 (a0 : Int × Int × Int) (a1 : Int × Int × Int) : Con Tryz.prog 128 [(.a (k3 a0)), (.a (k3 a1))] [] (.a (k3 (F128 a0 a1))) [] := by
  refine con_s Tryz.func128 (by kernel_rfl) fun cx hcx => ?_
  have e := Eq.refl (F128 a0 a1); conv at e => rhs; simp only [F128]
  rw [e]
  exact rt [] [] [] hcx (by kernel_rfl)

/-- facet/facetref02.Across -/
def F118 (a0 : (Int × Int × Int) × (Int × Int × Int) × Int × Int × Int) : Int × Int × Int :=
  (F128 (F127 a0.2.1 a0.1) (F127 a0.2.2 a0.1))

theorem C118 (a0 : (Int × Int × Int) × (Int × Int × Int) × Int × Int × Int) : Con Tryz.prog 118 [(.a (k9 a0))] [] (.a (k3 (F118 a0))) [] := by
  refine con_s Tryz.func118 (by kernel_rfl) fun cx hcx => ?_
  have e := Eq.refl (F118 a0); conv at e => rhs; simp only [F118]
  rw [e]
  exact rt [.c [] (C127 a0.2.1 a0.1), .c [] (C127 a0.2.2 a0.1), .c [] (C128 (F127 a0.2.1 a0.1) (F127 a0.2.2 a0.1))] [] [] hcx (by kernel_rfl)

/-- facet/facetref02.Dot -/
def F126 (a0 : Int × Int × Int) (a1 : Int × Int × Int) : Int :=
  (W ((W ((W (a0.1 * a1.1)) + (W (a0.2.1 * a1.2.1)))) + (W (a0.2.2 * a1.2.2))))

theorem C126 (a0 : Int × Int × Int) (a1 : Int × Int × Int) : Con Tryz.prog 126 [(.a (k3 a0)), (.a (k3 a1))] [] (iv (F126 a0 a1)) [] := by
  refine con_s Tryz.func126 (by kernel_rfl) fun cx hcx => ?_
  have e := Eq.refl (F126 a0 a1); conv at e => rhs; simp only [F126]
  rw [e]
  exact rt [] [] [] hcx (by kernel_rfl)

/-- facet/facetref02.within -/
def F116 (a0 : Int) (a1 : Int) (a2 : Int) : Bool :=
  (bif (decide ((a0 : Int) ≥ a1)) then
   (decide ((a0 : Int) ≤ a2))
  else
   false)

theorem C116 (a0 : Int) (a1 : Int) (a2 : Int) : Con Tryz.prog 116 [(iv a0), (iv a1), (iv a2)] [] (.v (.bool (F116 a0 a1 a2))) [] := by
  refine con_s Tryz.func116 (by kernel_rfl) fun cx hcx => ?_
  cases h0 : (decide ((a0 : Int) ≥ a1)) with
  | true =>
   have q0 := of_decide_eq_true h0
   have e := Eq.refl (F116 a0 a1 a2); conv at e => rhs; simp only [F116, h0, cond_true, cond_false]
   rw [e]
   exact rt [.d h0] [] [] hcx (by kernel_rfl)
  | false =>
   have q0 := of_decide_eq_false h0
   have e := Eq.refl (F116 a0 a1 a2); conv at e => rhs; simp only [F116, h0, cond_true, cond_false]
   rw [e]
   exact rt [.d h0] [] [] hcx (by kernel_rfl)

/-- facet/facetref02.near -/
def F117 (a0 : Int × Int × Int) (a1 : Int) : Bool :=
  (bif (F116 a0.1 (W (0 - a1)) a1) then
   (bif (F116 a0.2.1 (W (0 - a1)) a1) then
    (F116 a0.2.2 (W (0 - a1)) a1)
   else
    false)
  else
   false)

theorem C117 (a0 : Int × Int × Int) (a1 : Int) : Con Tryz.prog 117 [(.a (k3 a0)), (iv a1)] [] (.v (.bool (F117 a0 a1))) [] := by
  refine con_s Tryz.func117 (by kernel_rfl) fun cx hcx => ?_
  let t0 : List (St Tryz.prog) := [.c [] (C116 a0.1 (W (0 - a1)) a1)]
  cases h0 : (F116 a0.1 (W (0 - a1)) a1) with
  | true =>
   let t1 : List (St Tryz.prog) := (t0 ++ [.d h0, .c [] (C116 a0.2.1 (W (0 - a1)) a1)])
   cases h1 : (F116 a0.2.1 (W (0 - a1)) a1) with
   | true =>
    have e := Eq.refl (F117 a0 a1); conv at e => rhs; simp only [F117, h0, h1, cond_true, cond_false]
    rw [e]
    exact rt (t1 ++ [.d h1, .c [] (C116 a0.2.2 (W (0 - a1)) a1)]) [] [] hcx (by kernel_rfl)
   | false =>
    have e := Eq.refl (F117 a0 a1); conv at e => rhs; simp only [F117, h0, h1, cond_true, cond_false]
    rw [e]
    exact rt (t1 ++ [.d h1]) [] [] hcx (by kernel_rfl)
  | false =>
   have e := Eq.refl (F117 a0 a1); conv at e => rhs; simp only [F117, h0, cond_true, cond_false]
   rw [e]
   exact rt (t0 ++ [.d h0]) [] [] hcx (by kernel_rfl)

/-- facet/facetref02.ValidatePanel -/
def F140 (a0 : (Int × Int × Int) × (Int × Int × Int) × Int × Int × Int) : Int :=
  (bif (!(F117 a0.1 64)) then
   1
  else
   (bif (!(F117 a0.2.1 64)) then
    1
   else
    (bif (!(F117 a0.2.2 64)) then
     1
    else
     (bif ((((F118 a0).1 : Int) == 0) && ((((F118 a0).2.1 : Int) == 0) && ((((F118 a0).2.2 : Int) == 0) && true))) then
      6
     else
      0))))

theorem C140 (a0 : (Int × Int × Int) × (Int × Int × Int) × Int × Int × Int) : Con Tryz.prog 140 [(.a (k9 a0))] [] (iv (F140 a0)) [] := by
  refine con_s Tryz.func140 (by kernel_rfl) fun cx hcx => ?_
  let t0 : List (St Tryz.prog) := [.c [] (C117 a0.1 64)]
  cases h0 : (!(F117 a0.1 64)) with
  | true =>
   have e := Eq.refl (F140 a0); conv at e => rhs; simp only [F140, h0, cond_true, cond_false]
   rw [e]
   exact rt (t0 ++ [.d h0]) [] [] hcx (by kernel_rfl)
  | false =>
   let t1 : List (St Tryz.prog) := (t0 ++ [.d h0, .c [] (C117 a0.2.1 64)])
   cases h1 : (!(F117 a0.2.1 64)) with
   | true =>
    have e := Eq.refl (F140 a0); conv at e => rhs; simp only [F140, h0, h1, cond_true, cond_false]
    rw [e]
    exact rt (t1 ++ [.d h1]) [] [] hcx (by kernel_rfl)
   | false =>
    let t2 : List (St Tryz.prog) := (t1 ++ [.d h1, .c [] (C117 a0.2.2 64)])
    cases h2 : (!(F117 a0.2.2 64)) with
    | true =>
     have e := Eq.refl (F140 a0); conv at e => rhs; simp only [F140, h0, h1, h2, cond_true, cond_false]
     rw [e]
     exact rt (t2 ++ [.d h2]) [] [] hcx (by kernel_rfl)
    | false =>
     let t3 : List (St Tryz.prog) := (t2 ++ [.d h2, .c [] (C118 a0)])
     cases h3 : ((((F118 a0).1 : Int) == 0) && ((((F118 a0).2.1 : Int) == 0) && ((((F118 a0).2.2 : Int) == 0) && true))) with
     | true =>
      have e := Eq.refl (F140 a0); conv at e => rhs; simp only [F140, h0, h1, h2, h3, cond_true, cond_false]
      rw [e]
      exact rt (t3 ++ [.d h3]) [] [] hcx (by kernel_rfl)
     | false =>
      have e := Eq.refl (F140 a0); conv at e => rhs; simp only [F140, h0, h1, h2, h3, cond_true, cond_false]
      rw [e]
      exact rt (t3 ++ [.d h3]) [] [] hcx (by kernel_rfl)

/-- facet/facetref03.within -/
def F30 (a0 : Int) (a1 : Int) (a2 : Int) : Bool :=
  (bif (decide ((a0 : Int) ≥ a1)) then
   (decide ((a0 : Int) ≤ a2))
  else
   false)

theorem C30 (a0 : Int) (a1 : Int) (a2 : Int) : Con Tryz.prog 30 [(iv a0), (iv a1), (iv a2)] [] (.v (.bool (F30 a0 a1 a2))) [] := by
  refine con_s Tryz.func30 (by kernel_rfl) fun cx hcx => ?_
  cases h0 : (decide ((a0 : Int) ≥ a1)) with
  | true =>
   have q0 := of_decide_eq_true h0
   have e := Eq.refl (F30 a0 a1 a2); conv at e => rhs; simp only [F30, h0, cond_true, cond_false]
   rw [e]
   exact rt [.d h0] [] [] hcx (by kernel_rfl)
  | false =>
   have q0 := of_decide_eq_false h0
   have e := Eq.refl (F30 a0 a1 a2); conv at e => rhs; simp only [F30, h0, cond_true, cond_false]
   rw [e]
   exact rt [.d h0] [] [] hcx (by kernel_rfl)

/-- facet/facetref03.place -/
def F29 (a0 : Int × Int × Int) : Bool :=
  (bif (F30 a0.1 (-256) 256) then
   (bif (F30 a0.2.1 (-256) 256) then
    (F30 a0.2.2 (-256) 256)
   else
    false)
  else
   false)

theorem C29 (a0 : Int × Int × Int) : Con Tryz.prog 29 [(.a (k3 a0))] [] (.v (.bool (F29 a0))) [] := by
  refine con_s Tryz.func29 (by kernel_rfl) fun cx hcx => ?_
  let t0 : List (St Tryz.prog) := [.c [] (C30 a0.1 (-256) 256)]
  cases h0 : (F30 a0.1 (-256) 256) with
  | true =>
   let t1 : List (St Tryz.prog) := (t0 ++ [.d h0, .c [] (C30 a0.2.1 (-256) 256)])
   cases h1 : (F30 a0.2.1 (-256) 256) with
   | true =>
    have e := Eq.refl (F29 a0); conv at e => rhs; simp only [F29, h0, h1, cond_true, cond_false]
    rw [e]
    exact rt (t1 ++ [.d h1, .c [] (C30 a0.2.2 (-256) 256)]) [] [] hcx (by kernel_rfl)
   | false =>
    have e := Eq.refl (F29 a0); conv at e => rhs; simp only [F29, h0, h1, cond_true, cond_false]
    rw [e]
    exact rt (t1 ++ [.d h1]) [] [] hcx (by kernel_rfl)
  | false =>
   have e := Eq.refl (F29 a0); conv at e => rhs; simp only [F29, h0, cond_true, cond_false]
   rw [e]
   exact rt (t0 ++ [.d h0]) [] [] hcx (by kernel_rfl)

/-- facet/facetref03.asked -/
def F121 (a0 : (Int × Int × Int) × (Int × Int × Int) × Int × Int × Int) (a1 : Int × Int × Int) (a2 : Int) : Int :=
  (bif (((F140 a0) : Int) != 0) then
   (F140 a0)
  else
   (bif (!(F29 a1)) then
    1
   else
    (bif (!(F30 a2 0 3)) then
     1
    else
     0)))

theorem C121 (a0 : (Int × Int × Int) × (Int × Int × Int) × Int × Int × Int) (a1 : Int × Int × Int) (a2 : Int) : Con Tryz.prog 121 [(.a (k9 a0)), (.a (k3 a1)), (iv a2)] [] (iv (F121 a0 a1 a2)) [] := by
  refine con_s Tryz.func121 (by kernel_rfl) fun cx hcx => ?_
  let t0 : List (St Tryz.prog) := [.c [] (C140 a0)]
  cases h0 : (((F140 a0) : Int) != 0) with
  | true =>
   have q0 := bne_iff_ne.1 h0
   have e := Eq.refl (F121 a0 a1 a2); conv at e => rhs; simp only [F121, h0, cond_true, cond_false]
   rw [e]
   exact rt (t0 ++ [.d h0]) [] [] hcx (by kernel_rfl)
  | false =>
   have q0 := bne_eq_false_iff_eq.1 h0
   let t1 : List (St Tryz.prog) := (t0 ++ [.d h0, .c [] (C29 a1)])
   cases h1 : (!(F29 a1)) with
   | true =>
    have e := Eq.refl (F121 a0 a1 a2); conv at e => rhs; simp only [F121, h0, h1, cond_true, cond_false]
    rw [e]
    exact rt (t1 ++ [.d h1]) [] [] hcx (by kernel_rfl)
   | false =>
    let t2 : List (St Tryz.prog) := (t1 ++ [.d h1, .c [] (C30 a2 0 3)])
    cases h2 : (!(F30 a2 0 3)) with
    | true =>
     have e := Eq.refl (F121 a0 a1 a2); conv at e => rhs; simp only [F121, h0, h1, h2, cond_true, cond_false]
     rw [e]
     exact rt (t2 ++ [.d h2]) [] [] hcx (by kernel_rfl)
    | false =>
     have e := Eq.refl (F121 a0 a1 a2); conv at e => rhs; simp only [F121, h0, h1, h2, cond_true, cond_false]
     rw [e]
     exact rt (t2 ++ [.d h2]) [] [] hcx (by kernel_rfl)

/-- facet/facetref03.Height -/
def F71 (a0 : (Int × Int × Int) × (Int × Int × Int) × Int × Int × Int) (a1 : Int × Int × Int) : Int :=
  (F126 (F127 a0.1 a1) (F128 (F127 a0.2.1 a1) (F127 a0.2.2 a1)))

theorem C71 (a0 : (Int × Int × Int) × (Int × Int × Int) × Int × Int × Int) (a1 : Int × Int × Int) : Con Tryz.prog 71 [(.a (k9 a0)), (.a (k3 a1))] [] (iv (F71 a0 a1)) [] := by
  refine con_s Tryz.func71 (by kernel_rfl) fun cx hcx => ?_
  have e := Eq.refl (F71 a0 a1); conv at e => rhs; simp only [F71]
  rw [e]
  exact rt [.c [] (C127 a0.1 a1), .c [] (C127 a0.2.1 a1), .c [] (C127 a0.2.2 a1), .c [] (C128 (F127 a0.2.1 a1) (F127 a0.2.2 a1)), .c [] (C126 (F127 a0.1 a1) (F128 (F127 a0.2.1 a1) (F127 a0.2.2 a1)))] [] [] hcx (by kernel_rfl)

/-- api.Panel, as cells -/
def c57 (x : (Int × Int × Int) × (Int × Int × Int) × Int × Int × Int) : List SV := [(iv x.1.1), (iv x.1.2.1), (iv x.1.2.2), (iv x.2.1.1), (iv x.2.1.2.1), (iv x.2.1.2.2), (iv x.2.2.1), (iv x.2.2.2.1), (iv x.2.2.2.2)]
theorem c57_len (x : (Int × Int × Int) × (Int × Int × Int) × Int × Int × Int) : (c57 x).length = 9 := rfl

/-- facet/facetref02.Times -/
def F166 (a0 : Int × Int × Int) (a1 : Int) : Int × Int × Int :=
  ((W (a1 * a0.1)), (W (a1 * a0.2.1)), (W (a1 * a0.2.2)))

theorem C166 (a0 : Int × Int × Int) (a1 : Int) : Con Tryz.prog 166 [(.a (k3 a0)), (iv a1)] [] (.a (k3 (F166 a0 a1))) [] := by
  refine con_s Tryz.func166 (by kernel_rfl) fun cx hcx => ?_
  have e := Eq.refl (F166 a0 a1); conv at e => rhs; simp only [F166]
  rw [e]
  exact rt [] [] [] hcx (by kernel_rfl)

/-- facet/facetref03.half -/
def F185 (a0 : Int × Int × Int) (a1 : Int × Int × Int) : Int × Int × Int :=
  ((W (Int.tdiv (W (a0.1 + a1.1)) 2)), (W (Int.tdiv (W (a0.2.1 + a1.2.1)) 2)), (W (Int.tdiv (W (a0.2.2 + a1.2.2)) 2)))

theorem C185 (a0 : Int × Int × Int) (a1 : Int × Int × Int) : Con Tryz.prog 185 [(.a (k3 a0)), (.a (k3 a1))] [] (.a (k3 (F185 a0 a1))) [] := by
  refine con_s Tryz.func185 (by kernel_rfl) fun cx hcx => ?_
  have e := Eq.refl (F185 a0 a1); conv at e => rhs; simp only [F185]
  rw [e]
  exact rt [.p (show (2 : Int) ≠ 0 from by decide), .p (show (2 : Int) ≠ 0 from by decide), .p (show (2 : Int) ≠ 0 from by decide)] [] [] hcx (by kernel_rfl)

noncomputable def B165_1 : Code := (loopAtD [1, 1, 0, 1, 0, 1, 0, 1, 0, 1] [0] (bodyOf Tryz.f165) []).1
noncomputable def K165_1 (m0 : Nat) : List K := (loopAtD [1, 1, 0, 1, 0, 1, 0, 1, 0, 1] [m0] (bodyOf Tryz.f165) []).2

def st165_1 (a0 : (Int × Int × Int) × (Int × Int × Int) × Int × Int × Int) (a1 : Int) (v13c : List SV) (v13n : Nat) (v14c : List SV) (v14n : Nat) (v15 : Int) (v16 : Int) : LS := ⟨slN 76 [(1, (iv a1)), (5, (.s 0 0 v13n 9)), (6, (iv v15)), (7, (.s 1 0 v14n 9)), (8, (iv v16))], [(.live true true v13c), (.live true true v14c)]⟩

/-- a round of loop 1 of facet/facetref03.Cut; the variables: v13 = s5, v14 = s7, v15 = s6, v16 = s8 -/
def S165_1 (a0 : (Int × Int × Int) × (Int × Int × Int) × Int × Int × Int) (a1 : Int) : (List ((Int × Int × Int) × (Int × Int × Int) × Int × Int × Int)) × (List ((Int × Int × Int) × (Int × Int × Int) × Int × Int × Int)) × Int × Int → ((List ((Int × Int × Int) × (Int × Int × Int) × Int × Int × Int)) × (List ((Int × Int × Int) × (Int × Int × Int) × Int × Int × Int)) × Int × Int) ⊕ (((List ((Int × Int × Int) × (Int × Int × Int) × Int × Int × Int)) × Int) ⊕ (List ((Int × Int × Int) × (Int × Int × Int) × Int × Int × Int)))
  | (v13, v14, v15, v16) =>
   (bif (decide ((v16 : Int) < ((v13.length : Nat) : Int))) then
    (.inl (v13, (v14 ++ [((F166 (v13.getD (Int.toNat v16) default).1 2), (F185 (F166 (v13.getD (Int.toNat v16) default).1 2) (F166 (v13.getD (Int.toNat v16) default).2.1 2)), (F185 (F166 (v13.getD (Int.toNat v16) default).2.2 2) (F166 (v13.getD (Int.toNat v16) default).1 2))), ((F185 (F166 (v13.getD (Int.toNat v16) default).1 2) (F166 (v13.getD (Int.toNat v16) default).2.1 2)), (F166 (v13.getD (Int.toNat v16) default).2.1 2), (F185 (F166 (v13.getD (Int.toNat v16) default).2.1 2) (F166 (v13.getD (Int.toNat v16) default).2.2 2))), ((F185 (F166 (v13.getD (Int.toNat v16) default).2.2 2) (F166 (v13.getD (Int.toNat v16) default).1 2)), (F185 (F166 (v13.getD (Int.toNat v16) default).2.1 2) (F166 (v13.getD (Int.toNat v16) default).2.2 2)), (F166 (v13.getD (Int.toNat v16) default).2.2 2)), ((F185 (F166 (v13.getD (Int.toNat v16) default).1 2) (F166 (v13.getD (Int.toNat v16) default).2.1 2)), (F185 (F166 (v13.getD (Int.toNat v16) default).2.1 2) (F166 (v13.getD (Int.toNat v16) default).2.2 2)), (F185 (F166 (v13.getD (Int.toNat v16) default).2.2 2) (F166 (v13.getD (Int.toNat v16) default).1 2)))]), v15, (v16 + 1)))
   else
    (.inr (.inl (v14, (v15 + 1)))))

noncomputable def B165_0 : Code := (loopAtD [1, 1, 0, 1] [] (bodyOf Tryz.f165) []).1
noncomputable def K165_0 : List K := (loopAtD [1, 1, 0, 1] [] (bodyOf Tryz.f165) []).2

def st165_0 (a0 : (Int × Int × Int) × (Int × Int × Int) × Int × Int × Int) (a1 : Int) (v11c : List SV) (v11n : Nat) (v12 : Int) : LS := ⟨slN 76 [(1, (iv a1)), (5, (.s 0 0 v11n 9)), (6, (iv v12))], [(.live true true v11c)]⟩

/-- a round of loop 0 of facet/facetref03.Cut; the variables: v11 = s5, v12 = s6 -/
def S165_0 (a0 : (Int × Int × Int) × (Int × Int × Int) × Int × Int × Int) (a1 : Int) : (List ((Int × Int × Int) × (Int × Int × Int) × Int × Int × Int)) × Int → ((List ((Int × Int × Int) × (Int × Int × Int) × Int × Int × Int)) × Int) ⊕ (List ((Int × Int × Int) × (Int × Int × Int) × Int × Int × Int))
  | (v11, v12) =>
   (bif (decide ((v12 : Int) < a1)) then
    (loopF (S165_1 a0 a1) (Int.toNat (((v11.length : Nat) : Int) - 0) + 1) (v11, ([] : List ((Int × Int × Int) × (Int × Int × Int) × Int × Int × Int)), v12, 0))
   else
    (.inr v11))

set_option maxHeartbeats 4000000 in
theorem L165_1 (a0 : (Int × Int × Int) × (Int × Int × Int) × Int × Int × Int) (a1 : Int) (ha : 0 ≤ a1 ∧ a1 ≤ 3) {cx : Cx} (hcx : cx.base = 0)
    (n0 : Nat) (g0 : ∀ (v11 : List ((Int × Int × Int) × (Int × Int × Int) × Int × Int × Int)) (v12 : Int), (0 ≤ v12) ∧ (v12 = 0 ∧ v11.length ≤ 1 ∨ v12 = 1 ∧ v11.length ≤ 4 ∨ v12 = 2 ∧ v11.length ≤ 16 ∨ 3 ≤ v12 ∧ v11.length ≤ 64) → Int.toNat (a1 - v12) < n0 → Aw.Good Tryz.prog none 9 (bodyPost Tryz.prog Tryz.f165 (RR cx (.s 0 0 (loopF (S165_0 a0 a1) n0 (v11, v12)).length 9) [(.live true true (flat c57 (loopF (S165_0 a0 a1) n0 (v11, v12))))] [])) cx [] (.l B165_0 n0 :: K165_0) (st165_0 a0 a1 (flat c57 v11) v11.length v12)) : ∀ (n : Nat) (v13 : List ((Int × Int × Int) × (Int × Int × Int) × Int × Int × Int)) (v14 : List ((Int × Int × Int) × (Int × Int × Int) × Int × Int × Int)) (v15 : Int) (v16 : Int), (0 ≤ v16) ∧ (v14.length = 4 * Int.toNat v16) ∧ (v16 ≤ v13.length) ∧ ((0 ≤ v15)) ∧ ((v15 = 0 ∧ v13.length ≤ 1 ∨ v15 = 1 ∧ v13.length ≤ 4 ∨ v15 = 2 ∧ v13.length ≤ 16 ∨ 3 ≤ v15 ∧ v13.length ≤ 64)) ∧ (v15 < a1) ∧ (Int.toNat (a1 - v15) < n0 + 1) → Int.toNat (((v13.length : Nat) : Int) - v16) < n → Aw.Good Tryz.prog none 9 (bodyPost Tryz.prog Tryz.f165 (RR cx (.s 0 0 (thenF (S165_0 a0 a1) n0 (loopF (S165_1 a0 a1) n (v13, v14, v15, v16))).length 9) [(.live true true (flat c57 (thenF (S165_0 a0 a1) n0 (loopF (S165_1 a0 a1) n (v13, v14, v15, v16)))))] [])) cx [] (.l B165_1 n :: K165_1 n0) (st165_1 a0 a1 (flat c57 v13) v13.length (flat c57 v14) v14.length v15 v16) := by
  intro n
  induction n with
  | zero => intro v13 v14 v15 v16 hi hn; exact absurd hn (Nat.not_lt_zero _)
  | succ n ih =>
    intro v13 v14 v15 v16 hi hn
    refine good_round ?_
    cases h0 : (decide ((v16 : Int) < ((v13.length : Nat) : Int))) with
    | true =>
     have q0 := of_decide_eq_true h0
     have e := Eq.refl (S165_1 a0 a1 (v13, v14, v15, v16)); conv at e => rhs; simp only [S165_1, h0, cond_true, cond_false]
     rw [loopF_inl e]
     refine ba [.d h0, .i v16 (v13.length), .L c57_len v13 v16 0 3, .c [] (C166 (v13.getD (Int.toNat v16) default).1 2), .i v16 (v13.length), .L c57_len v13 v16 3 3, .c [] (C166 (v13.getD (Int.toNat v16) default).2.1 2), .i v16 (v13.length), .L c57_len v13 v16 6 3, .c [] (C166 (v13.getD (Int.toNat v16) default).2.2 2), .c [] (C185 (F166 (v13.getD (Int.toNat v16) default).1 2) (F166 (v13.getD (Int.toNat v16) default).2.1 2)), .c [] (C185 (F166 (v13.getD (Int.toNat v16) default).2.1 2) (F166 (v13.getD (Int.toNat v16) default).2.2 2)), .c [] (C185 (F166 (v13.getD (Int.toNat v16) default).2.2 2) (F166 (v13.getD (Int.toNat v16) default).1 2)), .p (show ((flat c57 v14).length = v14.length * 9 ∧ v14.length + 4 ≤ 2 ^ 40 ∧ (v14.length + 4) * 72 ≤ 2 ^ 47) from app_ok c57_len (by omega) (by omega))] [] [1, 5, 6, 7, 8] [0, 9] hcx (m := n) B165_1 (K165_1 n0) (st165_1 a0 a1 (flat c57 v13) (v13.length) (flat c57 v14 ++ [(iv (F166 (v13.getD (Int.toNat v16) default).1 2).1), (iv (F166 (v13.getD (Int.toNat v16) default).1 2).2.1), (iv (F166 (v13.getD (Int.toNat v16) default).1 2).2.2), (iv (F185 (F166 (v13.getD (Int.toNat v16) default).1 2) (F166 (v13.getD (Int.toNat v16) default).2.1 2)).1), (iv (F185 (F166 (v13.getD (Int.toNat v16) default).1 2) (F166 (v13.getD (Int.toNat v16) default).2.1 2)).2.1), (iv (F185 (F166 (v13.getD (Int.toNat v16) default).1 2) (F166 (v13.getD (Int.toNat v16) default).2.1 2)).2.2), (iv (F185 (F166 (v13.getD (Int.toNat v16) default).2.2 2) (F166 (v13.getD (Int.toNat v16) default).1 2)).1), (iv (F185 (F166 (v13.getD (Int.toNat v16) default).2.2 2) (F166 (v13.getD (Int.toNat v16) default).1 2)).2.1), (iv (F185 (F166 (v13.getD (Int.toNat v16) default).2.2 2) (F166 (v13.getD (Int.toNat v16) default).1 2)).2.2), (iv (F185 (F166 (v13.getD (Int.toNat v16) default).1 2) (F166 (v13.getD (Int.toNat v16) default).2.1 2)).1), (iv (F185 (F166 (v13.getD (Int.toNat v16) default).1 2) (F166 (v13.getD (Int.toNat v16) default).2.1 2)).2.1), (iv (F185 (F166 (v13.getD (Int.toNat v16) default).1 2) (F166 (v13.getD (Int.toNat v16) default).2.1 2)).2.2), (iv (F166 (v13.getD (Int.toNat v16) default).2.1 2).1), (iv (F166 (v13.getD (Int.toNat v16) default).2.1 2).2.1), (iv (F166 (v13.getD (Int.toNat v16) default).2.1 2).2.2), (iv (F185 (F166 (v13.getD (Int.toNat v16) default).2.1 2) (F166 (v13.getD (Int.toNat v16) default).2.2 2)).1), (iv (F185 (F166 (v13.getD (Int.toNat v16) default).2.1 2) (F166 (v13.getD (Int.toNat v16) default).2.2 2)).2.1), (iv (F185 (F166 (v13.getD (Int.toNat v16) default).2.1 2) (F166 (v13.getD (Int.toNat v16) default).2.2 2)).2.2), (iv (F185 (F166 (v13.getD (Int.toNat v16) default).2.2 2) (F166 (v13.getD (Int.toNat v16) default).1 2)).1), (iv (F185 (F166 (v13.getD (Int.toNat v16) default).2.2 2) (F166 (v13.getD (Int.toNat v16) default).1 2)).2.1), (iv (F185 (F166 (v13.getD (Int.toNat v16) default).2.2 2) (F166 (v13.getD (Int.toNat v16) default).1 2)).2.2), (iv (F185 (F166 (v13.getD (Int.toNat v16) default).2.1 2) (F166 (v13.getD (Int.toNat v16) default).2.2 2)).1), (iv (F185 (F166 (v13.getD (Int.toNat v16) default).2.1 2) (F166 (v13.getD (Int.toNat v16) default).2.2 2)).2.1), (iv (F185 (F166 (v13.getD (Int.toNat v16) default).2.1 2) (F166 (v13.getD (Int.toNat v16) default).2.2 2)).2.2), (iv (F166 (v13.getD (Int.toNat v16) default).2.2 2).1), (iv (F166 (v13.getD (Int.toNat v16) default).2.2 2).2.1), (iv (F166 (v13.getD (Int.toNat v16) default).2.2 2).2.2), (iv (F185 (F166 (v13.getD (Int.toNat v16) default).1 2) (F166 (v13.getD (Int.toNat v16) default).2.1 2)).1), (iv (F185 (F166 (v13.getD (Int.toNat v16) default).1 2) (F166 (v13.getD (Int.toNat v16) default).2.1 2)).2.1), (iv (F185 (F166 (v13.getD (Int.toNat v16) default).1 2) (F166 (v13.getD (Int.toNat v16) default).2.1 2)).2.2), (iv (F185 (F166 (v13.getD (Int.toNat v16) default).2.1 2) (F166 (v13.getD (Int.toNat v16) default).2.2 2)).1), (iv (F185 (F166 (v13.getD (Int.toNat v16) default).2.1 2) (F166 (v13.getD (Int.toNat v16) default).2.2 2)).2.1), (iv (F185 (F166 (v13.getD (Int.toNat v16) default).2.1 2) (F166 (v13.getD (Int.toNat v16) default).2.2 2)).2.2), (iv (F185 (F166 (v13.getD (Int.toNat v16) default).2.2 2) (F166 (v13.getD (Int.toNat v16) default).1 2)).1), (iv (F185 (F166 (v13.getD (Int.toNat v16) default).2.2 2) (F166 (v13.getD (Int.toNat v16) default).1 2)).2.1), (iv (F185 (F166 (v13.getD (Int.toNat v16) default).2.2 2) (F166 (v13.getD (Int.toNat v16) default).1 2)).2.2)]) (v14.length + 4) v15 (W (v16 + 1))) (by kernel_rfl) ?_
     have z0 : (W (v16 + 1)) = (v16 + 1) := W_eq (by omega) (by omega)
     have z1 : (flat c57 v14 ++ [(iv (F166 (v13.getD (Int.toNat v16) default).1 2).1), (iv (F166 (v13.getD (Int.toNat v16) default).1 2).2.1), (iv (F166 (v13.getD (Int.toNat v16) default).1 2).2.2), (iv (F185 (F166 (v13.getD (Int.toNat v16) default).1 2) (F166 (v13.getD (Int.toNat v16) default).2.1 2)).1), (iv (F185 (F166 (v13.getD (Int.toNat v16) default).1 2) (F166 (v13.getD (Int.toNat v16) default).2.1 2)).2.1), (iv (F185 (F166 (v13.getD (Int.toNat v16) default).1 2) (F166 (v13.getD (Int.toNat v16) default).2.1 2)).2.2), (iv (F185 (F166 (v13.getD (Int.toNat v16) default).2.2 2) (F166 (v13.getD (Int.toNat v16) default).1 2)).1), (iv (F185 (F166 (v13.getD (Int.toNat v16) default).2.2 2) (F166 (v13.getD (Int.toNat v16) default).1 2)).2.1), (iv (F185 (F166 (v13.getD (Int.toNat v16) default).2.2 2) (F166 (v13.getD (Int.toNat v16) default).1 2)).2.2), (iv (F185 (F166 (v13.getD (Int.toNat v16) default).1 2) (F166 (v13.getD (Int.toNat v16) default).2.1 2)).1), (iv (F185 (F166 (v13.getD (Int.toNat v16) default).1 2) (F166 (v13.getD (Int.toNat v16) default).2.1 2)).2.1), (iv (F185 (F166 (v13.getD (Int.toNat v16) default).1 2) (F166 (v13.getD (Int.toNat v16) default).2.1 2)).2.2), (iv (F166 (v13.getD (Int.toNat v16) default).2.1 2).1), (iv (F166 (v13.getD (Int.toNat v16) default).2.1 2).2.1), (iv (F166 (v13.getD (Int.toNat v16) default).2.1 2).2.2), (iv (F185 (F166 (v13.getD (Int.toNat v16) default).2.1 2) (F166 (v13.getD (Int.toNat v16) default).2.2 2)).1), (iv (F185 (F166 (v13.getD (Int.toNat v16) default).2.1 2) (F166 (v13.getD (Int.toNat v16) default).2.2 2)).2.1), (iv (F185 (F166 (v13.getD (Int.toNat v16) default).2.1 2) (F166 (v13.getD (Int.toNat v16) default).2.2 2)).2.2), (iv (F185 (F166 (v13.getD (Int.toNat v16) default).2.2 2) (F166 (v13.getD (Int.toNat v16) default).1 2)).1), (iv (F185 (F166 (v13.getD (Int.toNat v16) default).2.2 2) (F166 (v13.getD (Int.toNat v16) default).1 2)).2.1), (iv (F185 (F166 (v13.getD (Int.toNat v16) default).2.2 2) (F166 (v13.getD (Int.toNat v16) default).1 2)).2.2), (iv (F185 (F166 (v13.getD (Int.toNat v16) default).2.1 2) (F166 (v13.getD (Int.toNat v16) default).2.2 2)).1), (iv (F185 (F166 (v13.getD (Int.toNat v16) default).2.1 2) (F166 (v13.getD (Int.toNat v16) default).2.2 2)).2.1), (iv (F185 (F166 (v13.getD (Int.toNat v16) default).2.1 2) (F166 (v13.getD (Int.toNat v16) default).2.2 2)).2.2), (iv (F166 (v13.getD (Int.toNat v16) default).2.2 2).1), (iv (F166 (v13.getD (Int.toNat v16) default).2.2 2).2.1), (iv (F166 (v13.getD (Int.toNat v16) default).2.2 2).2.2), (iv (F185 (F166 (v13.getD (Int.toNat v16) default).1 2) (F166 (v13.getD (Int.toNat v16) default).2.1 2)).1), (iv (F185 (F166 (v13.getD (Int.toNat v16) default).1 2) (F166 (v13.getD (Int.toNat v16) default).2.1 2)).2.1), (iv (F185 (F166 (v13.getD (Int.toNat v16) default).1 2) (F166 (v13.getD (Int.toNat v16) default).2.1 2)).2.2), (iv (F185 (F166 (v13.getD (Int.toNat v16) default).2.1 2) (F166 (v13.getD (Int.toNat v16) default).2.2 2)).1), (iv (F185 (F166 (v13.getD (Int.toNat v16) default).2.1 2) (F166 (v13.getD (Int.toNat v16) default).2.2 2)).2.1), (iv (F185 (F166 (v13.getD (Int.toNat v16) default).2.1 2) (F166 (v13.getD (Int.toNat v16) default).2.2 2)).2.2), (iv (F185 (F166 (v13.getD (Int.toNat v16) default).2.2 2) (F166 (v13.getD (Int.toNat v16) default).1 2)).1), (iv (F185 (F166 (v13.getD (Int.toNat v16) default).2.2 2) (F166 (v13.getD (Int.toNat v16) default).1 2)).2.1), (iv (F185 (F166 (v13.getD (Int.toNat v16) default).2.2 2) (F166 (v13.getD (Int.toNat v16) default).1 2)).2.2)]) = (flat c57 (v14 ++ [((F166 (v13.getD (Int.toNat v16) default).1 2), (F185 (F166 (v13.getD (Int.toNat v16) default).1 2) (F166 (v13.getD (Int.toNat v16) default).2.1 2)), (F185 (F166 (v13.getD (Int.toNat v16) default).2.2 2) (F166 (v13.getD (Int.toNat v16) default).1 2))), ((F185 (F166 (v13.getD (Int.toNat v16) default).1 2) (F166 (v13.getD (Int.toNat v16) default).2.1 2)), (F166 (v13.getD (Int.toNat v16) default).2.1 2), (F185 (F166 (v13.getD (Int.toNat v16) default).2.1 2) (F166 (v13.getD (Int.toNat v16) default).2.2 2))), ((F185 (F166 (v13.getD (Int.toNat v16) default).2.2 2) (F166 (v13.getD (Int.toNat v16) default).1 2)), (F185 (F166 (v13.getD (Int.toNat v16) default).2.1 2) (F166 (v13.getD (Int.toNat v16) default).2.2 2)), (F166 (v13.getD (Int.toNat v16) default).2.2 2)), ((F185 (F166 (v13.getD (Int.toNat v16) default).1 2) (F166 (v13.getD (Int.toNat v16) default).2.1 2)), (F185 (F166 (v13.getD (Int.toNat v16) default).2.1 2) (F166 (v13.getD (Int.toNat v16) default).2.2 2)), (F185 (F166 (v13.getD (Int.toNat v16) default).2.2 2) (F166 (v13.getD (Int.toNat v16) default).1 2)))])) := (flat_append (c := c57) (l := v14) (m := [((F166 (v13.getD (Int.toNat v16) default).1 2), (F185 (F166 (v13.getD (Int.toNat v16) default).1 2) (F166 (v13.getD (Int.toNat v16) default).2.1 2)), (F185 (F166 (v13.getD (Int.toNat v16) default).2.2 2) (F166 (v13.getD (Int.toNat v16) default).1 2))), ((F185 (F166 (v13.getD (Int.toNat v16) default).1 2) (F166 (v13.getD (Int.toNat v16) default).2.1 2)), (F166 (v13.getD (Int.toNat v16) default).2.1 2), (F185 (F166 (v13.getD (Int.toNat v16) default).2.1 2) (F166 (v13.getD (Int.toNat v16) default).2.2 2))), ((F185 (F166 (v13.getD (Int.toNat v16) default).2.2 2) (F166 (v13.getD (Int.toNat v16) default).1 2)), (F185 (F166 (v13.getD (Int.toNat v16) default).2.1 2) (F166 (v13.getD (Int.toNat v16) default).2.2 2)), (F166 (v13.getD (Int.toNat v16) default).2.2 2)), ((F185 (F166 (v13.getD (Int.toNat v16) default).1 2) (F166 (v13.getD (Int.toNat v16) default).2.1 2)), (F185 (F166 (v13.getD (Int.toNat v16) default).2.1 2) (F166 (v13.getD (Int.toNat v16) default).2.2 2)), (F185 (F166 (v13.getD (Int.toNat v16) default).2.2 2) (F166 (v13.getD (Int.toNat v16) default).1 2)))])).symm
     have z2 : (v14.length + 4) = (v14 ++ [((F166 (v13.getD (Int.toNat v16) default).1 2), (F185 (F166 (v13.getD (Int.toNat v16) default).1 2) (F166 (v13.getD (Int.toNat v16) default).2.1 2)), (F185 (F166 (v13.getD (Int.toNat v16) default).2.2 2) (F166 (v13.getD (Int.toNat v16) default).1 2))), ((F185 (F166 (v13.getD (Int.toNat v16) default).1 2) (F166 (v13.getD (Int.toNat v16) default).2.1 2)), (F166 (v13.getD (Int.toNat v16) default).2.1 2), (F185 (F166 (v13.getD (Int.toNat v16) default).2.1 2) (F166 (v13.getD (Int.toNat v16) default).2.2 2))), ((F185 (F166 (v13.getD (Int.toNat v16) default).2.2 2) (F166 (v13.getD (Int.toNat v16) default).1 2)), (F185 (F166 (v13.getD (Int.toNat v16) default).2.1 2) (F166 (v13.getD (Int.toNat v16) default).2.2 2)), (F166 (v13.getD (Int.toNat v16) default).2.2 2)), ((F185 (F166 (v13.getD (Int.toNat v16) default).1 2) (F166 (v13.getD (Int.toNat v16) default).2.1 2)), (F185 (F166 (v13.getD (Int.toNat v16) default).2.1 2) (F166 (v13.getD (Int.toNat v16) default).2.2 2)), (F185 (F166 (v13.getD (Int.toNat v16) default).2.2 2) (F166 (v13.getD (Int.toNat v16) default).1 2)))]).length := len_app v14 [((F166 (v13.getD (Int.toNat v16) default).1 2), (F185 (F166 (v13.getD (Int.toNat v16) default).1 2) (F166 (v13.getD (Int.toNat v16) default).2.1 2)), (F185 (F166 (v13.getD (Int.toNat v16) default).2.2 2) (F166 (v13.getD (Int.toNat v16) default).1 2))), ((F185 (F166 (v13.getD (Int.toNat v16) default).1 2) (F166 (v13.getD (Int.toNat v16) default).2.1 2)), (F166 (v13.getD (Int.toNat v16) default).2.1 2), (F185 (F166 (v13.getD (Int.toNat v16) default).2.1 2) (F166 (v13.getD (Int.toNat v16) default).2.2 2))), ((F185 (F166 (v13.getD (Int.toNat v16) default).2.2 2) (F166 (v13.getD (Int.toNat v16) default).1 2)), (F185 (F166 (v13.getD (Int.toNat v16) default).2.1 2) (F166 (v13.getD (Int.toNat v16) default).2.2 2)), (F166 (v13.getD (Int.toNat v16) default).2.2 2)), ((F185 (F166 (v13.getD (Int.toNat v16) default).1 2) (F166 (v13.getD (Int.toNat v16) default).2.1 2)), (F185 (F166 (v13.getD (Int.toNat v16) default).2.1 2) (F166 (v13.getD (Int.toNat v16) default).2.2 2)), (F185 (F166 (v13.getD (Int.toNat v16) default).2.2 2) (F166 (v13.getD (Int.toNat v16) default).1 2)))] rfl
     rw [z0, z1, z2]
     exact ih v13 (v14 ++ [((F166 (v13.getD (Int.toNat v16) default).1 2), (F185 (F166 (v13.getD (Int.toNat v16) default).1 2) (F166 (v13.getD (Int.toNat v16) default).2.1 2)), (F185 (F166 (v13.getD (Int.toNat v16) default).2.2 2) (F166 (v13.getD (Int.toNat v16) default).1 2))), ((F185 (F166 (v13.getD (Int.toNat v16) default).1 2) (F166 (v13.getD (Int.toNat v16) default).2.1 2)), (F166 (v13.getD (Int.toNat v16) default).2.1 2), (F185 (F166 (v13.getD (Int.toNat v16) default).2.1 2) (F166 (v13.getD (Int.toNat v16) default).2.2 2))), ((F185 (F166 (v13.getD (Int.toNat v16) default).2.2 2) (F166 (v13.getD (Int.toNat v16) default).1 2)), (F185 (F166 (v13.getD (Int.toNat v16) default).2.1 2) (F166 (v13.getD (Int.toNat v16) default).2.2 2)), (F166 (v13.getD (Int.toNat v16) default).2.2 2)), ((F185 (F166 (v13.getD (Int.toNat v16) default).1 2) (F166 (v13.getD (Int.toNat v16) default).2.1 2)), (F185 (F166 (v13.getD (Int.toNat v16) default).2.1 2) (F166 (v13.getD (Int.toNat v16) default).2.2 2)), (F185 (F166 (v13.getD (Int.toNat v16) default).2.2 2) (F166 (v13.getD (Int.toNat v16) default).1 2)))]) v15 (v16 + 1) (by refine ⟨?_, ?_, ?_, ?_, ?_, ?_, ?_⟩ <;> (try simp only [List.length_append, List.length_cons, List.length_nil, Int.toNat_zero]) <;> first | omega | assumption | exact hi.2.1 | exact hi.2.2.1 | exact hi.2.2.2.1 | exact hi.2.2.2.2.1 | exact hi.2.2.2.2.2.1 | exact hi.2.2.2.2.2.2.1 | simp) (by (try simp only [List.length_append, List.length_cons, List.length_nil, Int.toNat_zero]); omega)
    | false =>
     have q0 := of_decide_eq_false h0
     have e := Eq.refl (S165_1 a0 a1 (v13, v14, v15, v16)); conv at e => rhs; simp only [S165_1, h0, cond_true, cond_false]
     rw [loopF_s, e]
     refine ba [.d h0] [] [1, 5, 6] [1] hcx (m := n0) B165_0 (K165_0) (st165_0 a0 a1 (flat c57 v14) (v14.length) (W (v15 + 1))) (by kernel_rfl) ?_
     have z0 : (W (v15 + 1)) = (v15 + 1) := W_eq (by omega) (by omega)
     rw [z0]
     exact g0 v14 (v15 + 1) (by refine ⟨?_, ?_⟩ <;> (try simp only [List.length_append, List.length_cons, List.length_nil, Int.toNat_zero]) <;> first | omega | assumption | simp) (by (try simp only [List.length_append, List.length_cons, List.length_nil, Int.toNat_zero]); omega)

set_option maxHeartbeats 4000000 in
theorem L165_0 (a0 : (Int × Int × Int) × (Int × Int × Int) × Int × Int × Int) (a1 : Int) (ha : 0 ≤ a1 ∧ a1 ≤ 3) {cx : Cx} (hcx : cx.base = 0) : ∀ (n : Nat) (v11 : List ((Int × Int × Int) × (Int × Int × Int) × Int × Int × Int)) (v12 : Int), (0 ≤ v12) ∧ (v12 = 0 ∧ v11.length ≤ 1 ∨ v12 = 1 ∧ v11.length ≤ 4 ∨ v12 = 2 ∧ v11.length ≤ 16 ∨ 3 ≤ v12 ∧ v11.length ≤ 64) → Int.toNat (a1 - v12) < n → Aw.Good Tryz.prog none 9 (bodyPost Tryz.prog Tryz.f165 (RR cx (.s 0 0 (loopF (S165_0 a0 a1) n (v11, v12)).length 9) [(.live true true (flat c57 (loopF (S165_0 a0 a1) n (v11, v12))))] [])) cx [] (.l B165_0 n :: K165_0) (st165_0 a0 a1 (flat c57 v11) v11.length v12) := by
  intro n
  induction n with
  | zero => intro v11 v12 hi hn; exact absurd hn (Nat.not_lt_zero _)
  | succ n ih =>
    intro v11 v12 hi hn
    refine good_round ?_
    cases h0 : (decide ((v12 : Int) < a1)) with
    | true =>
     have q0 := of_decide_eq_true h0
     have e := Eq.refl (S165_0 a0 a1 (v11, v12)); conv at e => rhs; simp only [S165_0, h0, cond_true, cond_false]
     rw [loopF_s, e]
     refine en [.d h0] [.slot 7 9] [1, 5, 6, 7, 8] [0, 1] hcx B165_1 (K165_1 n) (st165_1 a0 a1 (flat c57 v11) (v11.length) (flat c57 ([] : List ((Int × Int × Int) × (Int × Int × Int) × Int × Int × Int))) 0 v12 0) (Int.toNat (((v11.length : Nat) : Int) - 0) + 1) (by kernel_rfl) ?_
     exact L165_1 a0 a1 ha hcx n ih (Int.toNat (((v11.length : Nat) : Int) - 0) + 1) v11 ([] : List ((Int × Int × Int) × (Int × Int × Int) × Int × Int × Int)) v12 0 (by refine ⟨?_, ?_, ?_, ?_, ?_, ?_, ?_⟩ <;> (try simp only [List.length_append, List.length_cons, List.length_nil, Int.toNat_zero]) <;> first | omega | assumption | exact hi.2.1 | exact hi.2.2.1 | exact hi.2.2.2.1 | exact hi.2.2.2.2.1 | exact hi.2.2.2.2.2.1 | exact hi.2.2.2.2.2.2.1 | simp) (by (try simp only [List.length_append, List.length_cons, List.length_nil, Int.toNat_zero]); omega)
    | false =>
     have q0 := of_decide_eq_false h0
     have e := Eq.refl (S165_0 a0 a1 (v11, v12)); conv at e => rhs; simp only [S165_0, h0, cond_true, cond_false]
     rw [loopF_s, e]
     exact rt [.d h0] [] [0] hcx (by kernel_rfl)

/-- facet/facetref03.Cut -/
def F165 (a0 : (Int × Int × Int) × (Int × Int × Int) × Int × Int × Int) (a1 : Int) : List ((Int × Int × Int) × (Int × Int × Int) × Int × Int × Int) :=
  (loopF (S165_0 a0 a1) (Int.toNat (a1 - 0) + 1) (([a0] : List ((Int × Int × Int) × (Int × Int × Int) × Int × Int × Int)), 0))

theorem C165 (a0 : (Int × Int × Int) × (Int × Int × Int) × Int × Int × Int) (a1 : Int) (ha : 0 ≤ a1 ∧ a1 ≤ 3) : Con Tryz.prog 165 [(.a (k9 a0)), (iv a1)] [] (.s 0 0 (F165 a0 a1).length 9) [(.live true true (flat c57 (F165 a0 a1)))] := by
  refine con_s Tryz.func165 (by kernel_rfl) fun cx hcx => ?_
  have e := Eq.refl (F165 a0 a1); conv at e => rhs; simp only [F165]
  rw [e]
  refine en [] [.sym 1 true] [1, 5, 6] [1] hcx B165_0 (K165_0) (st165_0 a0 a1 (flat c57 ([a0] : List ((Int × Int × Int) × (Int × Int × Int) × Int × Int × Int))) 1 0) (Int.toNat (a1 - 0) + 1) (by kernel_rfl) ?_
  exact L165_0 a0 a1 ha hcx (Int.toNat (a1 - 0) + 1) ([a0] : List ((Int × Int × Int) × (Int × Int × Int) × Int × Int × Int)) 0 (by refine ⟨?_, ?_⟩ <;> (try simp only [List.length_append, List.length_cons, List.length_nil, Int.toNat_zero]) <;> first | omega | assumption | simp) (by (try simp only [List.length_append, List.length_cons, List.length_nil, Int.toNat_zero]); omega)

noncomputable def B73_L_0 : Code := (loopAtD [1, 1, 1, 0, 1] [] (bodyOf Tryz.f73) []).1
noncomputable def K73_L_0 : List K := (loopAtD [1, 1, 1, 0, 1] [] (bodyOf Tryz.f73) []).2

def st73_L_0 (a0 : List (Int × Int)) (v1 : Int) (v2 : Int) (v3 : Int) : LS := ⟨slN 39 [(0, (.s 0 0 a0.length 2)), (5, (iv v1)), (6, (iv v2)), (7, (iv v3))], [(.live false true (flat c31 a0))]⟩

/-- a round of loop 0 of facet/facetref01.total; the variables: v1 = s5, v2 = s6, v3 = s7 -/
def S73_L_0 (a0 : List (Int × Int)) : Int × Int × Int → (Int × Int × Int) ⊕ (Int × Int × Int)
  | (v1, v2, v3) =>
   (bif (decide ((v3 : Int) < ((a0.length : Nat) : Int))) then
    (bif (!(F123 (a0.getD (Int.toNat v3) default))) then
     (.inr (0, 0, 1))
    else
     (.inl ((W (v1 + (a0.getD (Int.toNat v3) default).1)), (W (v2 + (a0.getD (Int.toNat v3) default).2)), (v3 + 1))))
   else
    (.inr (v1, v2, 0)))

set_option maxHeartbeats 4000000 in
theorem L73_L_0 (a0 : List (Int × Int)) (l0 : a0.length ≤ 9223372036854775807) {cx : Cx} (hcx : cx.base = 1) : ∀ (n : Nat) (v1 : Int) (v2 : Int) (v3 : Int), 0 ≤ v3 → Int.toNat (((a0.length : Nat) : Int) - v3) < n → Aw.Good Tryz.prog none 9 (bodyPost Tryz.prog Tryz.f73 (RR cx (.t (k3 (loopF (S73_L_0 a0) n (v1, v2, v3)))) [] [])) cx [] (.l B73_L_0 n :: K73_L_0) (st73_L_0 a0 v1 v2 v3) := by
  intro n
  induction n with
  | zero => intro v1 v2 v3 hi hn; exact absurd hn (Nat.not_lt_zero _)
  | succ n ih =>
    intro v1 v2 v3 hi hn
    refine good_round ?_
    cases h0 : (decide ((v3 : Int) < ((a0.length : Nat) : Int))) with
    | true =>
     have q0 := of_decide_eq_true h0
     let t1 : List (St Tryz.prog) := [.d h0, .i v3 (a0.length), .L c31_len a0 v3 0 2, .c [] (C123 (a0.getD (Int.toNat v3) default))]
     cases h1 : (!(F123 (a0.getD (Int.toNat v3) default))) with
     | true =>
      have e := Eq.refl (S73_L_0 a0 (v1, v2, v3)); conv at e => rhs; simp only [S73_L_0, h0, h1, cond_true, cond_false]
      rw [loopF_s, e]
      exact rt (t1 ++ [.d h1]) [] [] hcx (by kernel_rfl)
     | false =>
      have e := Eq.refl (S73_L_0 a0 (v1, v2, v3)); conv at e => rhs; simp only [S73_L_0, h0, h1, cond_true, cond_false]
      rw [loopF_inl e]
      refine ba (t1 ++ [.d h1, .i v3 (a0.length), .L c31_len a0 v3 0 1, .i v3 (a0.length), .L c31_len a0 v3 1 1]) [] [0, 5, 6, 7] [] hcx (m := n) B73_L_0 (K73_L_0) (st73_L_0 a0 (W (v1 + (a0.getD (Int.toNat v3) default).1)) (W (v2 + (a0.getD (Int.toNat v3) default).2)) (W (v3 + 1))) (by kernel_rfl) ?_
      have z0 : (W (v3 + 1)) = (v3 + 1) := W_eq (by omega) (by omega)
      rw [z0]
      exact ih (W (v1 + (a0.getD (Int.toNat v3) default).1)) (W (v2 + (a0.getD (Int.toNat v3) default).2)) (v3 + 1) (by (try simp only [List.length_append, List.length_cons, List.length_nil, Int.toNat_zero]); omega) (by (try simp only [List.length_append, List.length_cons, List.length_nil, Int.toNat_zero]); omega)
    | false =>
     have q0 := of_decide_eq_false h0
     have e := Eq.refl (S73_L_0 a0 (v1, v2, v3)); conv at e => rhs; simp only [S73_L_0, h0, cond_true, cond_false]
     rw [loopF_s, e]
     exact rt [.d h0] [] [] hcx (by kernel_rfl)

/-- facet/facetref01.total at ('L',) -/
def F73_L (a0 : List (Int × Int)) : Int × Int × Int :=
  (bif (decide ((((a0.length : Nat) : Int) : Int) > 10000)) then
   (0, 0, 4)
  else
   (loopF (S73_L_0 a0) (Int.toNat (((a0.length : Nat) : Int) - 0) + 1) (0, 0, 0)))

theorem C73_L (a0 : List (Int × Int)) (l0 : a0.length ≤ 9223372036854775807) : Con Tryz.prog 73 [(.s 0 0 a0.length 2)] [(.live false true (flat c31 a0))] (.t (k3 (F73_L a0))) [] := by
  refine con_s Tryz.func73 (by kernel_rfl) fun cx hcx => ?_
  cases h0 : (decide ((((a0.length : Nat) : Int) : Int) > 10000)) with
  | true =>
   have q0 := of_decide_eq_true h0
   have e := Eq.refl (F73_L a0); conv at e => rhs; simp only [F73_L, h0, cond_true, cond_false]
   rw [e]
   exact rt [.d h0] [] [] hcx (by kernel_rfl)
  | false =>
   have q0 := of_decide_eq_false h0
   have e := Eq.refl (F73_L a0); conv at e => rhs; simp only [F73_L, h0, cond_true, cond_false]
   rw [e]
   refine en [.d h0] [] [0, 5, 6, 7] [] hcx B73_L_0 (K73_L_0) (st73_L_0 a0 0 0 0) (Int.toNat (((a0.length : Nat) : Int) - 0) + 1) (by kernel_rfl) ?_
   exact L73_L_0 a0 l0 hcx (Int.toNat (((a0.length : Nat) : Int) - 0) + 1) 0 0 0 (by (try simp only [List.length_append, List.length_cons, List.length_nil, Int.toNat_zero]); omega) (by (try simp only [List.length_append, List.length_cons, List.length_nil, Int.toNat_zero]); omega)

/-- facet/facetref01.Sum at ('L',) -/
def F32_L (a0 : List (Int × Int)) : (Int × Int) × Int :=
  (bif (((F73_L a0).2.2 : Int) != 0) then
   ((0, 0), (F73_L a0).2.2)
  else
   ((F74 (F73_L a0).1 (F73_L a0).2.1).1, (F74 (F73_L a0).1 (F73_L a0).2.1).2))

theorem C32_L (a0 : List (Int × Int)) (l0 : a0.length ≤ 9223372036854775807) : Con Tryz.prog 32 [(.s 0 0 a0.length 2)] [(.live false true (flat c31 a0))] (.t [(.a (k2 (F32_L a0).1)), (iv (F32_L a0).2)]) [] := by
  refine con_s Tryz.func32 (by kernel_rfl) fun cx hcx => ?_
  let t0 : List (St Tryz.prog) := [.c [0] (C73_L a0 (by (try simp only [List.length_append, List.length_cons, List.length_nil, Int.toNat_zero, axis3, axis1]); omega))]
  cases h0 : (((F73_L a0).2.2 : Int) != 0) with
  | true =>
   have q0 := bne_iff_ne.1 h0
   have e := Eq.refl (F32_L a0); conv at e => rhs; simp only [F32_L, h0, cond_true, cond_false]
   rw [e]
   exact rt (t0 ++ [.d h0]) [] [] hcx (by kernel_rfl)
  | false =>
   have q0 := bne_eq_false_iff_eq.1 h0
   have e := Eq.refl (F32_L a0); conv at e => rhs; simp only [F32_L, h0, cond_true, cond_false]
   rw [e]
   exact rt (t0 ++ [.d h0, .c [] (C74 (F73_L a0).1 (F73_L a0).2.1)]) [] [] hcx (by kernel_rfl)

noncomputable def B169_L_0 : Code := (loopAtD [1, 1, 0, 1] [] (bodyOf Tryz.f169) []).1
noncomputable def K169_L_0 : List K := (loopAtD [1, 1, 0, 1] [] (bodyOf Tryz.f169) []).2

def st169_L_0 (a0 : (Int × Int × Int) × (Int × Int × Int) × Int × Int × Int) (a1 : List (Int × Int × Int)) (v1 : Int) (v2 : Int) : LS := ⟨slN 44 [(1, (.s 0 0 a1.length 3)), (2, (.p 1 0)), (5, (iv v1)), (6, (iv v2))], [(.live false true (flat c27 a1)), (.live true false (k9 a0))]⟩

/-- a round of loop 0 of facet/facetref03.far; the variables: v1 = s5, v2 = s6 -/
def S169_L_0 (a0 : (Int × Int × Int) × (Int × Int × Int) × Int × Int × Int) (a1 : List (Int × Int × Int)) : Int × Int → (Int × Int) ⊕ (Int)
  | (v1, v2) =>
   (bif (decide ((v2 : Int) < ((a1.length : Nat) : Int))) then
    (bif (decide (((F126 (F127 a0.1 (a1.getD (Int.toNat v2) default)) (F127 a0.1 (a1.getD (Int.toNat v2) default))) : Int) > v1)) then
     (bif (decide (((F126 (F127 a0.2.1 (a1.getD (Int.toNat v2) default)) (F127 a0.2.1 (a1.getD (Int.toNat v2) default))) : Int) > (F126 (F127 a0.1 (a1.getD (Int.toNat v2) default)) (F127 a0.1 (a1.getD (Int.toNat v2) default))))) then
      (bif (decide (((F126 (F127 a0.2.2 (a1.getD (Int.toNat v2) default)) (F127 a0.2.2 (a1.getD (Int.toNat v2) default))) : Int) > (F126 (F127 a0.2.1 (a1.getD (Int.toNat v2) default)) (F127 a0.2.1 (a1.getD (Int.toNat v2) default))))) then
       (.inl ((F126 (F127 a0.2.2 (a1.getD (Int.toNat v2) default)) (F127 a0.2.2 (a1.getD (Int.toNat v2) default))), (v2 + 1)))
      else
       (.inl ((F126 (F127 a0.2.1 (a1.getD (Int.toNat v2) default)) (F127 a0.2.1 (a1.getD (Int.toNat v2) default))), (v2 + 1))))
     else
      (bif (decide (((F126 (F127 a0.2.2 (a1.getD (Int.toNat v2) default)) (F127 a0.2.2 (a1.getD (Int.toNat v2) default))) : Int) > (F126 (F127 a0.1 (a1.getD (Int.toNat v2) default)) (F127 a0.1 (a1.getD (Int.toNat v2) default))))) then
       (.inl ((F126 (F127 a0.2.2 (a1.getD (Int.toNat v2) default)) (F127 a0.2.2 (a1.getD (Int.toNat v2) default))), (v2 + 1)))
      else
       (.inl ((F126 (F127 a0.1 (a1.getD (Int.toNat v2) default)) (F127 a0.1 (a1.getD (Int.toNat v2) default))), (v2 + 1)))))
    else
     (bif (decide (((F126 (F127 a0.2.1 (a1.getD (Int.toNat v2) default)) (F127 a0.2.1 (a1.getD (Int.toNat v2) default))) : Int) > v1)) then
      (bif (decide (((F126 (F127 a0.2.2 (a1.getD (Int.toNat v2) default)) (F127 a0.2.2 (a1.getD (Int.toNat v2) default))) : Int) > (F126 (F127 a0.2.1 (a1.getD (Int.toNat v2) default)) (F127 a0.2.1 (a1.getD (Int.toNat v2) default))))) then
       (.inl ((F126 (F127 a0.2.2 (a1.getD (Int.toNat v2) default)) (F127 a0.2.2 (a1.getD (Int.toNat v2) default))), (v2 + 1)))
      else
       (.inl ((F126 (F127 a0.2.1 (a1.getD (Int.toNat v2) default)) (F127 a0.2.1 (a1.getD (Int.toNat v2) default))), (v2 + 1))))
     else
      (bif (decide (((F126 (F127 a0.2.2 (a1.getD (Int.toNat v2) default)) (F127 a0.2.2 (a1.getD (Int.toNat v2) default))) : Int) > v1)) then
       (.inl ((F126 (F127 a0.2.2 (a1.getD (Int.toNat v2) default)) (F127 a0.2.2 (a1.getD (Int.toNat v2) default))), (v2 + 1)))
      else
       (.inl (v1, (v2 + 1))))))
   else
    (.inr v1))

set_option maxHeartbeats 4000000 in
theorem L169_L_0 (a0 : (Int × Int × Int) × (Int × Int × Int) × Int × Int × Int) (a1 : List (Int × Int × Int)) (l1 : a1.length ≤ 9223372036854775807) {cx : Cx} (hcx : cx.base = 1) : ∀ (n : Nat) (v1 : Int) (v2 : Int), 0 ≤ v2 → Int.toNat (((a1.length : Nat) : Int) - v2) < n → Aw.Good Tryz.prog none 9 (bodyPost Tryz.prog Tryz.f169 (RR cx (iv (loopF (S169_L_0 a0 a1) n (v1, v2))) [] [])) cx [] (.l B169_L_0 n :: K169_L_0) (st169_L_0 a0 a1 v1 v2) := by
  intro n
  induction n with
  | zero => intro v1 v2 hi hn; exact absurd hn (Nat.not_lt_zero _)
  | succ n ih =>
    intro v1 v2 hi hn
    refine good_round ?_
    cases h0 : (decide ((v2 : Int) < ((a1.length : Nat) : Int))) with
    | true =>
     have q0 := of_decide_eq_true h0
     let t1 : List (St Tryz.prog) := [.d h0, .u 200, .T, .i 0 3 (by decide), .i v2 (a1.length), .L c27_len a1 v2 0 3, .c [] (C127 a0.1 (a1.getD (Int.toNat v2) default)), .c [] (C126 (F127 a0.1 (a1.getD (Int.toNat v2) default)) (F127 a0.1 (a1.getD (Int.toNat v2) default)))]
     cases h1 : (decide (((F126 (F127 a0.1 (a1.getD (Int.toNat v2) default)) (F127 a0.1 (a1.getD (Int.toNat v2) default))) : Int) > v1)) with
     | true =>
      have q1 := of_decide_eq_true h1
      let t2 : List (St Tryz.prog) := (t1 ++ [.d h1, .u 0, .T, .i 1 3 (by decide), .i v2 (a1.length), .L c27_len a1 v2 0 3, .c [] (C127 a0.2.1 (a1.getD (Int.toNat v2) default)), .c [] (C126 (F127 a0.2.1 (a1.getD (Int.toNat v2) default)) (F127 a0.2.1 (a1.getD (Int.toNat v2) default)))])
      cases h2 : (decide (((F126 (F127 a0.2.1 (a1.getD (Int.toNat v2) default)) (F127 a0.2.1 (a1.getD (Int.toNat v2) default))) : Int) > (F126 (F127 a0.1 (a1.getD (Int.toNat v2) default)) (F127 a0.1 (a1.getD (Int.toNat v2) default))))) with
      | true =>
       have q2 := of_decide_eq_true h2
       let t3 : List (St Tryz.prog) := (t2 ++ [.d h2, .u 0, .T, .i 2 3 (by decide), .i v2 (a1.length), .L c27_len a1 v2 0 3, .c [] (C127 a0.2.2 (a1.getD (Int.toNat v2) default)), .c [] (C126 (F127 a0.2.2 (a1.getD (Int.toNat v2) default)) (F127 a0.2.2 (a1.getD (Int.toNat v2) default)))])
       cases h3 : (decide (((F126 (F127 a0.2.2 (a1.getD (Int.toNat v2) default)) (F127 a0.2.2 (a1.getD (Int.toNat v2) default))) : Int) > (F126 (F127 a0.2.1 (a1.getD (Int.toNat v2) default)) (F127 a0.2.1 (a1.getD (Int.toNat v2) default))))) with
       | true =>
        have q3 := of_decide_eq_true h3
        have e := Eq.refl (S169_L_0 a0 a1 (v1, v2)); conv at e => rhs; simp only [S169_L_0, h0, h1, h2, h3, cond_true, cond_false]
        rw [loopF_inl e]
        refine ba (t3 ++ [.d h3, .u 0, .F]) [] [1, 2, 5, 6] [1] hcx (m := n) B169_L_0 (K169_L_0) (st169_L_0 a0 a1 (F126 (F127 a0.2.2 (a1.getD (Int.toNat v2) default)) (F127 a0.2.2 (a1.getD (Int.toNat v2) default))) (W (v2 + 1))) (by kernel_rfl) ?_
        have z0 : (W (v2 + 1)) = (v2 + 1) := W_eq (by omega) (by omega)
        rw [z0]
        exact ih (F126 (F127 a0.2.2 (a1.getD (Int.toNat v2) default)) (F127 a0.2.2 (a1.getD (Int.toNat v2) default))) (v2 + 1) (by (try simp only [List.length_append, List.length_cons, List.length_nil, Int.toNat_zero]); omega) (by (try simp only [List.length_append, List.length_cons, List.length_nil, Int.toNat_zero]); omega)
       | false =>
        have q3 := of_decide_eq_false h3
        have e := Eq.refl (S169_L_0 a0 a1 (v1, v2)); conv at e => rhs; simp only [S169_L_0, h0, h1, h2, h3, cond_true, cond_false]
        rw [loopF_inl e]
        refine ba (t3 ++ [.d h3, .u 0, .F]) [] [1, 2, 5, 6] [1] hcx (m := n) B169_L_0 (K169_L_0) (st169_L_0 a0 a1 (F126 (F127 a0.2.1 (a1.getD (Int.toNat v2) default)) (F127 a0.2.1 (a1.getD (Int.toNat v2) default))) (W (v2 + 1))) (by kernel_rfl) ?_
        have z0 : (W (v2 + 1)) = (v2 + 1) := W_eq (by omega) (by omega)
        rw [z0]
        exact ih (F126 (F127 a0.2.1 (a1.getD (Int.toNat v2) default)) (F127 a0.2.1 (a1.getD (Int.toNat v2) default))) (v2 + 1) (by (try simp only [List.length_append, List.length_cons, List.length_nil, Int.toNat_zero]); omega) (by (try simp only [List.length_append, List.length_cons, List.length_nil, Int.toNat_zero]); omega)
      | false =>
       have q2 := of_decide_eq_false h2
       let t3 : List (St Tryz.prog) := (t2 ++ [.d h2, .u 0, .T, .i 2 3 (by decide), .i v2 (a1.length), .L c27_len a1 v2 0 3, .c [] (C127 a0.2.2 (a1.getD (Int.toNat v2) default)), .c [] (C126 (F127 a0.2.2 (a1.getD (Int.toNat v2) default)) (F127 a0.2.2 (a1.getD (Int.toNat v2) default)))])
       cases h3 : (decide (((F126 (F127 a0.2.2 (a1.getD (Int.toNat v2) default)) (F127 a0.2.2 (a1.getD (Int.toNat v2) default))) : Int) > (F126 (F127 a0.1 (a1.getD (Int.toNat v2) default)) (F127 a0.1 (a1.getD (Int.toNat v2) default))))) with
       | true =>
        have q3 := of_decide_eq_true h3
        have e := Eq.refl (S169_L_0 a0 a1 (v1, v2)); conv at e => rhs; simp only [S169_L_0, h0, h1, h2, h3, cond_true, cond_false]
        rw [loopF_inl e]
        refine ba (t3 ++ [.d h3, .u 0, .F]) [] [1, 2, 5, 6] [1] hcx (m := n) B169_L_0 (K169_L_0) (st169_L_0 a0 a1 (F126 (F127 a0.2.2 (a1.getD (Int.toNat v2) default)) (F127 a0.2.2 (a1.getD (Int.toNat v2) default))) (W (v2 + 1))) (by kernel_rfl) ?_
        have z0 : (W (v2 + 1)) = (v2 + 1) := W_eq (by omega) (by omega)
        rw [z0]
        exact ih (F126 (F127 a0.2.2 (a1.getD (Int.toNat v2) default)) (F127 a0.2.2 (a1.getD (Int.toNat v2) default))) (v2 + 1) (by (try simp only [List.length_append, List.length_cons, List.length_nil, Int.toNat_zero]); omega) (by (try simp only [List.length_append, List.length_cons, List.length_nil, Int.toNat_zero]); omega)
       | false =>
        have q3 := of_decide_eq_false h3
        have e := Eq.refl (S169_L_0 a0 a1 (v1, v2)); conv at e => rhs; simp only [S169_L_0, h0, h1, h2, h3, cond_true, cond_false]
        rw [loopF_inl e]
        refine ba (t3 ++ [.d h3, .u 0, .F]) [] [1, 2, 5, 6] [1] hcx (m := n) B169_L_0 (K169_L_0) (st169_L_0 a0 a1 (F126 (F127 a0.1 (a1.getD (Int.toNat v2) default)) (F127 a0.1 (a1.getD (Int.toNat v2) default))) (W (v2 + 1))) (by kernel_rfl) ?_
        have z0 : (W (v2 + 1)) = (v2 + 1) := W_eq (by omega) (by omega)
        rw [z0]
        exact ih (F126 (F127 a0.1 (a1.getD (Int.toNat v2) default)) (F127 a0.1 (a1.getD (Int.toNat v2) default))) (v2 + 1) (by (try simp only [List.length_append, List.length_cons, List.length_nil, Int.toNat_zero]); omega) (by (try simp only [List.length_append, List.length_cons, List.length_nil, Int.toNat_zero]); omega)
     | false =>
      have q1 := of_decide_eq_false h1
      let t2 : List (St Tryz.prog) := (t1 ++ [.d h1, .u 0, .T, .i 1 3 (by decide), .i v2 (a1.length), .L c27_len a1 v2 0 3, .c [] (C127 a0.2.1 (a1.getD (Int.toNat v2) default)), .c [] (C126 (F127 a0.2.1 (a1.getD (Int.toNat v2) default)) (F127 a0.2.1 (a1.getD (Int.toNat v2) default)))])
      cases h2 : (decide (((F126 (F127 a0.2.1 (a1.getD (Int.toNat v2) default)) (F127 a0.2.1 (a1.getD (Int.toNat v2) default))) : Int) > v1)) with
      | true =>
       have q2 := of_decide_eq_true h2
       let t3 : List (St Tryz.prog) := (t2 ++ [.d h2, .u 0, .T, .i 2 3 (by decide), .i v2 (a1.length), .L c27_len a1 v2 0 3, .c [] (C127 a0.2.2 (a1.getD (Int.toNat v2) default)), .c [] (C126 (F127 a0.2.2 (a1.getD (Int.toNat v2) default)) (F127 a0.2.2 (a1.getD (Int.toNat v2) default)))])
       cases h3 : (decide (((F126 (F127 a0.2.2 (a1.getD (Int.toNat v2) default)) (F127 a0.2.2 (a1.getD (Int.toNat v2) default))) : Int) > (F126 (F127 a0.2.1 (a1.getD (Int.toNat v2) default)) (F127 a0.2.1 (a1.getD (Int.toNat v2) default))))) with
       | true =>
        have q3 := of_decide_eq_true h3
        have e := Eq.refl (S169_L_0 a0 a1 (v1, v2)); conv at e => rhs; simp only [S169_L_0, h0, h1, h2, h3, cond_true, cond_false]
        rw [loopF_inl e]
        refine ba (t3 ++ [.d h3, .u 0, .F]) [] [1, 2, 5, 6] [1] hcx (m := n) B169_L_0 (K169_L_0) (st169_L_0 a0 a1 (F126 (F127 a0.2.2 (a1.getD (Int.toNat v2) default)) (F127 a0.2.2 (a1.getD (Int.toNat v2) default))) (W (v2 + 1))) (by kernel_rfl) ?_
        have z0 : (W (v2 + 1)) = (v2 + 1) := W_eq (by omega) (by omega)
        rw [z0]
        exact ih (F126 (F127 a0.2.2 (a1.getD (Int.toNat v2) default)) (F127 a0.2.2 (a1.getD (Int.toNat v2) default))) (v2 + 1) (by (try simp only [List.length_append, List.length_cons, List.length_nil, Int.toNat_zero]); omega) (by (try simp only [List.length_append, List.length_cons, List.length_nil, Int.toNat_zero]); omega)
       | false =>
        have q3 := of_decide_eq_false h3
        have e := Eq.refl (S169_L_0 a0 a1 (v1, v2)); conv at e => rhs; simp only [S169_L_0, h0, h1, h2, h3, cond_true, cond_false]
        rw [loopF_inl e]
        refine ba (t3 ++ [.d h3, .u 0, .F]) [] [1, 2, 5, 6] [1] hcx (m := n) B169_L_0 (K169_L_0) (st169_L_0 a0 a1 (F126 (F127 a0.2.1 (a1.getD (Int.toNat v2) default)) (F127 a0.2.1 (a1.getD (Int.toNat v2) default))) (W (v2 + 1))) (by kernel_rfl) ?_
        have z0 : (W (v2 + 1)) = (v2 + 1) := W_eq (by omega) (by omega)
        rw [z0]
        exact ih (F126 (F127 a0.2.1 (a1.getD (Int.toNat v2) default)) (F127 a0.2.1 (a1.getD (Int.toNat v2) default))) (v2 + 1) (by (try simp only [List.length_append, List.length_cons, List.length_nil, Int.toNat_zero]); omega) (by (try simp only [List.length_append, List.length_cons, List.length_nil, Int.toNat_zero]); omega)
      | false =>
       have q2 := of_decide_eq_false h2
       let t3 : List (St Tryz.prog) := (t2 ++ [.d h2, .u 0, .T, .i 2 3 (by decide), .i v2 (a1.length), .L c27_len a1 v2 0 3, .c [] (C127 a0.2.2 (a1.getD (Int.toNat v2) default)), .c [] (C126 (F127 a0.2.2 (a1.getD (Int.toNat v2) default)) (F127 a0.2.2 (a1.getD (Int.toNat v2) default)))])
       cases h3 : (decide (((F126 (F127 a0.2.2 (a1.getD (Int.toNat v2) default)) (F127 a0.2.2 (a1.getD (Int.toNat v2) default))) : Int) > v1)) with
       | true =>
        have q3 := of_decide_eq_true h3
        have e := Eq.refl (S169_L_0 a0 a1 (v1, v2)); conv at e => rhs; simp only [S169_L_0, h0, h1, h2, h3, cond_true, cond_false]
        rw [loopF_inl e]
        refine ba (t3 ++ [.d h3, .u 0, .F]) [] [1, 2, 5, 6] [1] hcx (m := n) B169_L_0 (K169_L_0) (st169_L_0 a0 a1 (F126 (F127 a0.2.2 (a1.getD (Int.toNat v2) default)) (F127 a0.2.2 (a1.getD (Int.toNat v2) default))) (W (v2 + 1))) (by kernel_rfl) ?_
        have z0 : (W (v2 + 1)) = (v2 + 1) := W_eq (by omega) (by omega)
        rw [z0]
        exact ih (F126 (F127 a0.2.2 (a1.getD (Int.toNat v2) default)) (F127 a0.2.2 (a1.getD (Int.toNat v2) default))) (v2 + 1) (by (try simp only [List.length_append, List.length_cons, List.length_nil, Int.toNat_zero]); omega) (by (try simp only [List.length_append, List.length_cons, List.length_nil, Int.toNat_zero]); omega)
       | false =>
        have q3 := of_decide_eq_false h3
        have e := Eq.refl (S169_L_0 a0 a1 (v1, v2)); conv at e => rhs; simp only [S169_L_0, h0, h1, h2, h3, cond_true, cond_false]
        rw [loopF_inl e]
        refine ba (t3 ++ [.d h3, .u 0, .F]) [] [1, 2, 5, 6] [1] hcx (m := n) B169_L_0 (K169_L_0) (st169_L_0 a0 a1 v1 (W (v2 + 1))) (by kernel_rfl) ?_
        have z0 : (W (v2 + 1)) = (v2 + 1) := W_eq (by omega) (by omega)
        rw [z0]
        exact ih v1 (v2 + 1) (by (try simp only [List.length_append, List.length_cons, List.length_nil, Int.toNat_zero]); omega) (by (try simp only [List.length_append, List.length_cons, List.length_nil, Int.toNat_zero]); omega)
    | false =>
     have q0 := of_decide_eq_false h0
     have e := Eq.refl (S169_L_0 a0 a1 (v1, v2)); conv at e => rhs; simp only [S169_L_0, h0, cond_true, cond_false]
     rw [loopF_s, e]
     exact rt [.d h0] [] [] hcx (by kernel_rfl)

/-- facet/facetref03.far at ('L',) -/
def F169_L (a0 : (Int × Int × Int) × (Int × Int × Int) × Int × Int × Int) (a1 : List (Int × Int × Int)) : Int :=
  (loopF (S169_L_0 a0 a1) (Int.toNat (((a1.length : Nat) : Int) - 0) + 1) (0, 0))

theorem C169_L (a0 : (Int × Int × Int) × (Int × Int × Int) × Int × Int × Int) (a1 : List (Int × Int × Int)) (l1 : a1.length ≤ 9223372036854775807) : Con Tryz.prog 169 [(.a (k9 a0)), (.s 0 0 a1.length 3)] [(.live false true (flat c27 a1))] (iv (F169_L a0 a1)) [] := by
  refine con_s Tryz.func169 (by kernel_rfl) fun cx hcx => ?_
  have e := Eq.refl (F169_L a0 a1); conv at e => rhs; simp only [F169_L]
  rw [e]
  refine en [] [] [1, 2, 5, 6] [1] hcx B169_L_0 (K169_L_0) (st169_L_0 a0 a1 0 0) (Int.toNat (((a1.length : Nat) : Int) - 0) + 1) (by kernel_rfl) ?_
  exact L169_L_0 a0 a1 l1 hcx (Int.toNat (((a1.length : Nat) : Int) - 0) + 1) 0 0 (by (try simp only [List.length_append, List.length_cons, List.length_nil, Int.toNat_zero]); omega) (by (try simp only [List.length_append, List.length_cons, List.length_nil, Int.toNat_zero]); omega)

noncomputable def B192_L_0 : Code := (loopAtD [1, 1, 0, 1] [] (bodyOf Tryz.f192) []).1
noncomputable def K192_L_0 : List K := (loopAtD [1, 1, 0, 1] [] (bodyOf Tryz.f192) []).2

def st192_L_0 (a0 : List (Int)) (v1 : Int) (v2 : Int) (v3 : Int) : LS := ⟨slN 33 [(0, (.s 0 0 a0.length 1)), (4, (iv v1)), (5, (iv v2)), (6, (iv v3))], [(.live false true (flat c3 a0))]⟩

/-- a round of loop 0 of facet/facetref03.bounds; the variables: v1 = s4, v2 = s5, v3 = s6 -/
def S192_L_0 (a0 : List (Int)) : Int × Int × Int → (Int × Int × Int) ⊕ (Int × Int)
  | (v1, v2, v3) =>
   (bif (decide ((v3 : Int) < ((a0.length : Nat) : Int))) then
    (.inl ((if ((a0.getD (Int.toNat v3) default) : Int) < v1 then (a0.getD (Int.toNat v3) default) else v1), (if (v2 : Int) < (a0.getD (Int.toNat v3) default) then (a0.getD (Int.toNat v3) default) else v2), (v3 + 1)))
   else
    (.inr (v1, v2)))

set_option maxHeartbeats 4000000 in
theorem L192_L_0 (a0 : List (Int)) (l0 : a0.length ≤ 9223372036854775807) (hl : 0 < a0.length) {cx : Cx} (hcx : cx.base = 1) : ∀ (n : Nat) (v1 : Int) (v2 : Int) (v3 : Int), 0 ≤ v3 → Int.toNat (((a0.length : Nat) : Int) - v3) < n → Aw.Good Tryz.prog none 9 (bodyPost Tryz.prog Tryz.f192 (RR cx (.t (k2 (loopF (S192_L_0 a0) n (v1, v2, v3)))) [] [])) cx [] (.l B192_L_0 n :: K192_L_0) (st192_L_0 a0 v1 v2 v3) := by
  intro n
  induction n with
  | zero => intro v1 v2 v3 hi hn; exact absurd hn (Nat.not_lt_zero _)
  | succ n ih =>
    intro v1 v2 v3 hi hn
    refine good_round ?_
    cases h0 : (decide ((v3 : Int) < ((a0.length : Nat) : Int))) with
    | true =>
     have q0 := of_decide_eq_true h0
     have e := Eq.refl (S192_L_0 a0 (v1, v2, v3)); conv at e => rhs; simp only [S192_L_0, h0, cond_true, cond_false]
     rw [loopF_inl e]
     refine ba [.d h0, .i v3 (a0.length), .L c3_len a0 v3 0 1, .i v3 (a0.length), .L c3_len a0 v3 0 1] [] [0, 4, 5, 6] [] hcx (m := n) B192_L_0 (K192_L_0) (st192_L_0 a0 (if ((a0.getD (Int.toNat v3) default) : Int) < v1 then (a0.getD (Int.toNat v3) default) else v1) (if (v2 : Int) < (a0.getD (Int.toNat v3) default) then (a0.getD (Int.toNat v3) default) else v2) (W (v3 + 1))) (by kernel_rfl) ?_
     have z0 : (W (v3 + 1)) = (v3 + 1) := W_eq (by omega) (by omega)
     rw [z0]
     exact ih (if ((a0.getD (Int.toNat v3) default) : Int) < v1 then (a0.getD (Int.toNat v3) default) else v1) (if (v2 : Int) < (a0.getD (Int.toNat v3) default) then (a0.getD (Int.toNat v3) default) else v2) (v3 + 1) (by (try simp only [List.length_append, List.length_cons, List.length_nil, Int.toNat_zero]); omega) (by (try simp only [List.length_append, List.length_cons, List.length_nil, Int.toNat_zero]); omega)
    | false =>
     have q0 := of_decide_eq_false h0
     have e := Eq.refl (S192_L_0 a0 (v1, v2, v3)); conv at e => rhs; simp only [S192_L_0, h0, cond_true, cond_false]
     rw [loopF_s, e]
     exact rt [.d h0] [] [] hcx (by kernel_rfl)

/-- facet/facetref03.bounds at ('L',) -/
def F192_L (a0 : List (Int)) : Int × Int :=
  (loopF (S192_L_0 a0) (Int.toNat (((a0.length : Nat) : Int) - 0) + 1) ((a0.getD (Int.toNat 0) default), (a0.getD (Int.toNat 0) default), 0))

theorem C192_L (a0 : List (Int)) (l0 : a0.length ≤ 9223372036854775807) (hl : 0 < a0.length) : Con Tryz.prog 192 [(.s 0 0 a0.length 1)] [(.live false true (flat c3 a0))] (.t (k2 (F192_L a0))) [] := by
  refine con_s Tryz.func192 (by kernel_rfl) fun cx hcx => ?_
  have e := Eq.refl (F192_L a0); conv at e => rhs; simp only [F192_L]
  rw [e]
  refine en [.i 0 (a0.length), .L c3_len a0 0 0 1, .i 0 (a0.length), .L c3_len a0 0 0 1] [] [0, 4, 5, 6] [] hcx B192_L_0 (K192_L_0) (st192_L_0 a0 (a0.getD (Int.toNat 0) default) (a0.getD (Int.toNat 0) default) 0) (Int.toNat (((a0.length : Nat) : Int) - 0) + 1) (by kernel_rfl) ?_
  exact L192_L_0 a0 l0 hl hcx (Int.toNat (((a0.length : Nat) : Int) - 0) + 1) (a0.getD (Int.toNat 0) default) (a0.getD (Int.toNat 0) default) 0 (by (try simp only [List.length_append, List.length_cons, List.length_nil, Int.toNat_zero]); omega) (by (try simp only [List.length_append, List.length_cons, List.length_nil, Int.toNat_zero]); omega)

/-- facet/facetref03.gap at ('L', 'L') -/
def F186_L_L (a0 : List (Int)) (a1 : List (Int)) : Int :=
  (W ((if ((if (0 : Int) < (W ((F192_L a0).1 - (F192_L a1).2)) then (W ((F192_L a0).1 - (F192_L a1).2)) else 0) : Int) < (W ((F192_L a1).1 - (F192_L a0).2)) then (W ((F192_L a1).1 - (F192_L a0).2)) else (if (0 : Int) < (W ((F192_L a0).1 - (F192_L a1).2)) then (W ((F192_L a0).1 - (F192_L a1).2)) else 0)) * (if ((if (0 : Int) < (W ((F192_L a0).1 - (F192_L a1).2)) then (W ((F192_L a0).1 - (F192_L a1).2)) else 0) : Int) < (W ((F192_L a1).1 - (F192_L a0).2)) then (W ((F192_L a1).1 - (F192_L a0).2)) else (if (0 : Int) < (W ((F192_L a0).1 - (F192_L a1).2)) then (W ((F192_L a0).1 - (F192_L a1).2)) else 0))))

theorem C186_L_L (a0 : List (Int)) (a1 : List (Int)) (l0 : a0.length ≤ 9223372036854775807) (l1 : a1.length ≤ 9223372036854775807) (h1 : 0 < a0.length) (h2 : 0 < a1.length) : Con Tryz.prog 186 [(.s 0 0 a0.length 1), (.s 1 0 a1.length 1)] [(.live false true (flat c3 a0)), (.live false true (flat c3 a1))] (iv (F186_L_L a0 a1)) [] := by
  refine con_s Tryz.func186 (by kernel_rfl) fun cx hcx => ?_
  have e := Eq.refl (F186_L_L a0 a1); conv at e => rhs; simp only [F186_L_L]
  rw [e]
  exact rt [.c [0] (C192_L a0 (by (try simp only [List.length_append, List.length_cons, List.length_nil, Int.toNat_zero, axis3, axis1]); omega) (by (try simp only [List.length_append, List.length_cons, List.length_nil, Int.toNat_zero, axis3, axis1]); omega)), .c [1] (C192_L a1 (by (try simp only [List.length_append, List.length_cons, List.length_nil, Int.toNat_zero, axis3, axis1]); omega) (by (try simp only [List.length_append, List.length_cons, List.length_nil, Int.toNat_zero, axis3, axis1]); omega))] [] [] hcx (by kernel_rfl)

/-- facet/facetref03.close at (1,) -/
def F167_1 (a0 : (Int × Int × Int) × (Int × Int × Int) × Int × Int × Int) (a1 : Int × Int × Int) : Int :=
  (W ((W ((F186_L_L (F187_3 a0 0) (F187_1 a1 0)) + (F186_L_L (F187_3 a0 1) (F187_1 a1 1)))) + (F186_L_L (F187_3 a0 2) (F187_1 a1 2))))

theorem C167_1 (a0 : (Int × Int × Int) × (Int × Int × Int) × Int × Int × Int) (a1 : Int × Int × Int) : Con Tryz.prog 167 [(.a (k9 a0)), (.s 0 0 1 3)] [(.live false false (k3 a1))] (iv (F167_1 a0 a1)) [] := by
  refine con_s Tryz.func167 (by kernel_rfl) fun cx hcx => ?_
  have e := Eq.refl (F167_1 a0 a1); conv at e => rhs; simp only [F167_1]
  rw [e]
  exact rt [.c [2] (C187_3 a0 0), .c [0] (C187_1 a1 0), .c [3, 4] (C186_L_L (F187_3 a0 0) (F187_1 a1 0) (by (try simp only [List.length_append, List.length_cons, List.length_nil, Int.toNat_zero, axis3, axis1]); omega) (by (try simp only [List.length_append, List.length_cons, List.length_nil, Int.toNat_zero, axis3, axis1]); omega) (by (try simp only [List.length_append, List.length_cons, List.length_nil, Int.toNat_zero, axis3, axis1]); omega) (by (try simp only [List.length_append, List.length_cons, List.length_nil, Int.toNat_zero, axis3, axis1]); omega)), .c [2] (C187_3 a0 1), .c [0] (C187_1 a1 1), .c [5, 6] (C186_L_L (F187_3 a0 1) (F187_1 a1 1) (by (try simp only [List.length_append, List.length_cons, List.length_nil, Int.toNat_zero, axis3, axis1]); omega) (by (try simp only [List.length_append, List.length_cons, List.length_nil, Int.toNat_zero, axis3, axis1]); omega) (by (try simp only [List.length_append, List.length_cons, List.length_nil, Int.toNat_zero, axis3, axis1]); omega) (by (try simp only [List.length_append, List.length_cons, List.length_nil, Int.toNat_zero, axis3, axis1]); omega)), .c [2] (C187_3 a0 2), .c [0] (C187_1 a1 2), .c [7, 8] (C186_L_L (F187_3 a0 2) (F187_1 a1 2) (by (try simp only [List.length_append, List.length_cons, List.length_nil, Int.toNat_zero, axis3, axis1]); omega) (by (try simp only [List.length_append, List.length_cons, List.length_nil, Int.toNat_zero, axis3, axis1]); omega) (by (try simp only [List.length_append, List.length_cons, List.length_nil, Int.toNat_zero, axis3, axis1]); omega) (by (try simp only [List.length_append, List.length_cons, List.length_nil, Int.toNat_zero, axis3, axis1]); omega))] [] [] hcx (by kernel_rfl)

end Go.Proofs.YtidhogejnafhaaaGreat

namespace Go.Proofs.YtidhogejnafhaaaGreat
open Go.Proofs Go.Aw Go.RowKit
set_option maxRecDepth 100000
set_option linter.unusedVariables false
set_option linter.unusedSimpArgs false

/-! ### Roots -/
theorem sq_unique {n a b : Int} (ha : 0 ≤ a) (hb : 0 ≤ b) (h1 : a * a ≤ n) (h2 : n < (a + 1) * (a + 1)) (h3 : b * b ≤ n) (h4 : n < (b + 1) * (b + 1)) : a = b := by
  rcases Int.lt_trichotomy a b with h | h | h
  · have : (a + 1) * (a + 1) ≤ b * b := Int.mul_le_mul (by omega) (by omega) (by omega) hb
    omega
  · exact h
  · have : (b + 1) * (b + 1) ≤ a * a := Int.mul_le_mul (by omega) (by omega) (by omega) ha
    omega
/-- r is the root of n, rounded down -/
def IsRt (n r : Int) : Prop := 0 ≤ r ∧ r * r ≤ n ∧ n < (r + 1) * (r + 1)
theorem IsRt.eq {n a b : Int} (h : IsRt n a) (h' : IsRt n b) : a = b := sq_unique h.1 h'.1 h.2.1 h.2.2 h'.2.1 h'.2.2
theorem IsRt.le {n r m : Int} (h : IsRt n r) (hm : 0 ≤ m) (hn : n < (m + 1) * (m + 1)) : r ≤ m := by
  rcases Int.lt_or_le m r with hlt | hle
  · have : (m + 1) * (m + 1) ≤ r * r := Int.mul_le_mul (by omega) (by omega) (by omega) h.1
    have := h.2.1; omega
  · exact hle
theorem IsRt.ge {n r m : Int} (h : IsRt n r) (hm : 0 ≤ m) (hn : m * m ≤ n) : m ≤ r := by
  rcases Int.lt_or_le r m with hlt | hle
  · have : (r + 1) * (r + 1) ≤ m * m := Int.mul_le_mul (by omega) (by omega) (by have := h.1; omega) hm
    have := h.2.2; omega
  · exact hle
theorem IsRt.mono {n m a b : Int} (h : IsRt n a) (h' : IsRt m b) (hnm : n ≤ m) : a ≤ b := h'.ge h.1 (Int.le_trans h.2.1 hnm)

theorem bits_spec {n : Int} {S : Int × Int → (Int × Int) ⊕ Int} (hS : ∀ k b, 0 ≤ k → 0 < b → k + b ≤ 2147483648 → S (k, b) = if (k + b) * (k + b) ≤ n then .inl (k + b, b / 2) else .inl (k, b / 2)) (h0 : ∀ k, S (k, 0) = .inr k) :
    ∀ (j f : Nat) (k : Int), j + 2 ≤ f → 0 ≤ k → k + 2 * 2 ^ j ≤ 2147483648 → k * k ≤ n → n < (k + 2 * 2 ^ j) * (k + 2 * 2 ^ j) → IsRt n (loopF S f (k, 2 ^ j)) := by
  intro j
  induction j with
  | zero =>
    intro f k hf hk hb h1 h2
    obtain ⟨f, rfl⟩ : ∃ g, f = g + 2 := ⟨f - 2, by omega⟩
    simp only [Int.pow_zero] at h2 hb ⊢
    have hs := hS k 1 hk (by omega) (by omega)
    by_cases hc : (k + 1) * (k + 1) ≤ n
    · rw [if_pos hc] at hs
      rw [loopF_inl hs, show ((1 : Int) / 2) = 0 by omega, loopF_inr (h0 _)]
      refine ⟨by omega, hc, ?_⟩
      rw [show k + 1 + 1 = k + 2 * 1 by omega]; exact h2
    · rw [if_neg hc] at hs
      rw [loopF_inl hs, show ((1 : Int) / 2) = 0 by omega, loopF_inr (h0 _)]
      exact ⟨hk, h1, by omega⟩
  | succ j ih =>
    intro f k hf hk hb h1 h2
    obtain ⟨f, rfl⟩ : ∃ g, f = g + 1 := ⟨f - 1, by omega⟩
    have hp : (0 : Int) < 2 ^ j := Int.pow_pos (by omega)
    rw [Int.pow_succ] at h2 hb ⊢
    have hs := hS k (2 ^ j * 2) hk (by omega) (by omega)
    have hd : (2 : Int) ^ j * 2 / 2 = 2 ^ j := Int.mul_ediv_cancel _ (by omega)
    rw [hd] at hs
    by_cases hc : (k + 2 ^ j * 2) * (k + 2 ^ j * 2) ≤ n
    · rw [if_pos hc] at hs
      rw [loopF_inl hs]
      refine ih f _ (by omega) (by omega) (by omega) hc ?_
      rw [show k + 2 ^ j * 2 + 2 * 2 ^ j = k + 2 * ((2 : Int) ^ j * 2) by omega]; exact h2
    · rw [if_neg hc] at hs
      rw [loopF_inl hs]
      refine ih f _ (by omega) hk (by omega) h1 ?_
      rw [show k + 2 * (2 : Int) ^ j = k + 2 ^ j * 2 by omega]; omega

theorem bins_spec {n : Int} {S : Int × Int → (Int × Int) ⊕ Int} (hS : ∀ a b, 0 ≤ a → a < b → b ≤ 2147483648 → S (a, b) = if ((a + b + 1) / 2) * ((a + b + 1) / 2) ≤ n then .inl ((a + b + 1) / 2, b) else .inl (a, (a + b + 1) / 2 - 1)) (h0 : ∀ a, S (a, a) = .inr a) :
    ∀ (f : Nat) (a b : Int), 0 ≤ a → a ≤ b → b ≤ 2147483648 → b - a < f → a * a ≤ n → n < (b + 1) * (b + 1) → IsRt n (loopF S f (a, b)) := by
  intro f
  induction f with
  | zero => intro a b _ h _ hf; omega
  | succ f ih =>
    intro a b ha hab hb hf h1 h2
    by_cases he : a = b
    · subst he
      rw [loopF_inr (h0 a)]; exact ⟨ha, h1, h2⟩
    · have hs := hS a b ha (by omega) hb
      by_cases hc : ((a + b + 1) / 2) * ((a + b + 1) / 2) ≤ n
      · rw [if_pos hc] at hs
        rw [loopF_inl hs]
        exact ih _ _ (by omega) (by omega) hb (by omega) hc h2
      · rw [if_neg hc] at hs
        rw [loopF_inl hs]
        refine ih _ _ ha (by omega) (by omega) (by omega) h1 ?_
        rw [show (a + b + 1) / 2 - 1 + 1 = (a + b + 1) / 2 by omega]; omega

theorem sq_bd {a : Int} (h : 0 ≤ a) (h' : a ≤ 2147483648) : 0 ≤ a * a ∧ a * a ≤ 4611686018427387904 := ⟨Int.mul_nonneg h h, Int.le_trans (Int.mul_le_mul h' h' h (by omega)) (by omega)⟩

theorem rtSpan {n : Int} (h0 : 0 ≤ n) (h : n < 4611686018427387904) : IsRt n (F163 n) := by
  unfold F163
  rw [show decide ((4611686018427387904 : Int) ≤ n) = false by simpa using h]
  simp only [cond_false]
  refine bits_spec (n := n) (fun k b hk hb hkb => ?_) (fun k => ?_) 30 _ 0 (by decide) (by omega) (by decide) (by omega) (by simpa using h)
  · have h2 : ((b : Int) == 0) = false := by rw [beq_eq_false_iff_ne]; omega
    have hw : W (k + b) = k + b := W_eq (by omega) (by omega)
    have hq := sq_bd (a := k + b) (by omega) hkb
    have hw2 : W ((k + b) * (k + b)) = (k + b) * (k + b) := W_eq (by omega) (by omega)
    simp only [S163_0, h2, cond_false, hw, hw2]
    by_cases hc : (k + b) * (k + b) ≤ n <;> simp [hc]
  · simp [S163_0]

theorem rtRef {n : Int} (h0 : 0 ≤ n) (h : n < 4611686018427387904) : IsRt n (F193 n) := by
  unfold F193
  refine bins_spec (n := n) (fun a b ha hab hb => ?_) (fun a => ?_) _ 0 2147483648 (by omega) (by omega) (by omega) (by decide) (by omega) (by omega)
  · have h2 : decide (a < b) = true := by simpa using hab
    have hw := mid1_eq (a := a) (b := b) (by omega)
    have hw3 := mid2_eq (a := a) (b := b) (by omega)
    have hq := sq_bd (a := (a + b + 1) / 2) (by omega) (by omega)
    have hw2 : W ((a + b + 1) / 2 * ((a + b + 1) / 2)) = (a + b + 1) / 2 * ((a + b + 1) / 2) := W_eq (by omega) (by omega)
    have hw4 : W ((a + b + 1) / 2 - 1) = (a + b + 1) / 2 - 1 := W_eq (by omega) (by omega)
    simp only [S193_0, h2, cond_true, hw, hw2, hw4]
    by_cases hc : (a + b + 1) / 2 * ((a + b + 1) / 2) ≤ n <;> simp [hc]
  · simp [S193_0]

/-! ### Points, in whole numbers -/
abbrev P3 := Int × Int × Int
abbrev PN := P3 × P3 × P3
def bd (m : Int) (p : P3) : Prop := (-m ≤ p.1 ∧ p.1 ≤ m) ∧ (-m ≤ p.2.1 ∧ p.2.1 ≤ m) ∧ (-m ≤ p.2.2 ∧ p.2.2 ≤ m)
def bdP (m : Int) (p : PN) : Prop := bd m p.1 ∧ bd m p.2.1 ∧ bd m p.2.2
def sb (p q : P3) : P3 := (p.1 - q.1, p.2.1 - q.2.1, p.2.2 - q.2.2)
def dt (p q : P3) : Int := p.1 * q.1 + p.2.1 * q.2.1 + p.2.2 * q.2.2
def cr (p q : P3) : P3 := (p.2.1 * q.2.2 - p.2.2 * q.2.1, p.2.2 * q.1 - p.1 * q.2.2, p.1 * q.2.1 - p.2.1 * q.1)
def nrm (p : PN) : P3 := cr (sb p.2.1 p.1) (sb p.2.2 p.1)

theorem mul_bd {a b x y : Int} (hx : -a ≤ x ∧ x ≤ a) (hy : -b ≤ y ∧ y ≤ b) : -(a * b) ≤ x * y ∧ x * y ≤ a * b := by
  have h1 := Int.mul_nonneg (show 0 ≤ a - x by omega) (show 0 ≤ b - y by omega)
  have h2 := Int.mul_nonneg (show 0 ≤ a + x by omega) (show 0 ≤ b + y by omega)
  have h3 := Int.mul_nonneg (show 0 ≤ a - x by omega) (show 0 ≤ b + y by omega)
  have h4 := Int.mul_nonneg (show 0 ≤ a + x by omega) (show 0 ≤ b - y by omega)
  rw [Int.sub_mul, Int.mul_sub, Int.mul_sub] at h1
  rw [Int.add_mul, Int.mul_add, Int.mul_add] at h2
  rw [Int.sub_mul, Int.mul_add, Int.mul_add] at h3
  rw [Int.add_mul, Int.mul_sub, Int.mul_sub] at h4
  omega

theorem bd_sb {a b : Int} {p q : P3} (hp : bd a p) (hq : bd b q) : bd (a + b) (sb p q) := by
  unfold bd at *; simp only [sb]; omega
theorem sq_nn (x : Int) : 0 ≤ x * x := by
  rcases Int.le_total 0 x with h | h
  · exact Int.mul_nonneg h h
  · exact Int.mul_nonneg_of_nonpos_of_nonpos h h
theorem dt_self (p : P3) : 0 ≤ dt p p := by
  have := sq_nn p.1; have := sq_nn p.2.1; have := sq_nn p.2.2
  simp only [dt]; omega
theorem dt_pos {p : P3} (h : ¬ (p.1 = 0 ∧ p.2.1 = 0 ∧ p.2.2 = 0)) : 1 ≤ dt p p := by
  have := sq_nn p.1; have := sq_nn p.2.1; have := sq_nn p.2.2
  have key : ∀ x : Int, x ≠ 0 → 1 ≤ x * x := fun x hx => by
    have h0 := sq_nn x
    have : x * x ≠ 0 := Int.mul_ne_zero hx hx
    omega
  simp only [dt]
  by_cases h1 : p.1 = 0
  · by_cases h2 : p.2.1 = 0
    · have := key p.2.2 (fun h3 => h ⟨h1, h2, h3⟩); omega
    · have := key _ h2; omega
  · have := key _ h1; omega
theorem dt_bd {a : Int} {p q : P3} (hp : bd a p) (hq : bd a q) : -(3 * (a * a)) ≤ dt p q ∧ dt p q ≤ 3 * (a * a) := by
  have := mul_bd hp.1 hq.1; have := mul_bd hp.2.1 hq.2.1; have := mul_bd hp.2.2 hq.2.2
  simp only [dt]; omega
theorem cr_bd {a : Int} {p q : P3} (hp : bd a p) (hq : bd a q) : bd (2 * (a * a)) (cr p q) := by
  have := mul_bd hp.2.1 hq.2.2; have := mul_bd hp.2.2 hq.2.1; have := mul_bd hp.2.2 hq.1; have := mul_bd hp.1 hq.2.2; have := mul_bd hp.1 hq.2.1; have := mul_bd hp.2.1 hq.1
  unfold bd; simp only [cr]; omega

theorem W0 {n : Int} (h : -9223372036854775808 ≤ n ∧ n < 9223372036854775808) : W n = n := W_eq h.1 h.2
theorem fsb {p q : P3} (hp : bd 100000 p) (hq : bd 100000 q) : F64 p q = sb p q := by
  unfold bd at *; simp only [F64, sb]
  rw [W_eq (by omega) (by omega), W_eq (by omega) (by omega), W_eq (by omega) (by omega)]
theorem fdt {p q : P3} (hp : bd 1000000000 p) (hq : bd 1000000000 q) : F63 p q = dt p q := by
  have h1 := mul_bd hp.1 hq.1; have h2 := mul_bd hp.2.1 hq.2.1; have h3 := mul_bd hp.2.2 hq.2.2
  simp only [F63, F113_3, dt]
  rw [W_eq (n := p.1 * q.1) (by omega) (by omega), W_eq (n := p.2.1 * q.2.1) (by omega) (by omega), W_eq (n := p.2.2 * q.2.2) (by omega) (by omega), Int.zero_add, W_eq (n := p.1 * q.1) (by omega) (by omega), W_eq (n := p.1 * q.1 + p.2.1 * q.2.1) (by omega) (by omega), W_eq (by omega) (by omega)]
theorem rdt {p q : P3} (hp : bd 1000000000 p) (hq : bd 1000000000 q) : F126 p q = dt p q := by
  have h1 := mul_bd hp.1 hq.1; have h2 := mul_bd hp.2.1 hq.2.1; have h3 := mul_bd hp.2.2 hq.2.2
  simp only [F126, dt]
  rw [W_eq (n := p.1 * q.1) (by omega) (by omega), W_eq (n := p.2.1 * q.2.1) (by omega) (by omega), W_eq (n := p.2.2 * q.2.2) (by omega) (by omega), W_eq (n := p.1 * q.1 + p.2.1 * q.2.1) (by omega) (by omega), W_eq (by omega) (by omega)]
theorem rsb {p q : P3} (hp : bd 100000 p) (hq : bd 100000 q) : F127 p q = sb p q := by
  unfold bd at *; simp only [F127, sb]
  rw [W_eq (by omega) (by omega), W_eq (by omega) (by omega), W_eq (by omega) (by omega)]
theorem cr_W {p q : P3} (hp : bd 1000000000 p) (hq : bd 1000000000 q) :
    ((W ((W (p.2.1 * q.2.2)) - (W (p.2.2 * q.2.1)))), (W ((W (p.2.2 * q.1)) - (W (p.1 * q.2.2)))), (W ((W (p.1 * q.2.1)) - (W (p.2.1 * q.1))))) = cr p q := by
  have h1 := mul_bd hp.2.1 hq.2.2; have h2 := mul_bd hp.2.2 hq.2.1; have h3 := mul_bd hp.2.2 hq.1; have h4 := mul_bd hp.1 hq.2.2; have h5 := mul_bd hp.1 hq.2.1; have h6 := mul_bd hp.2.1 hq.1
  simp only [cr]
  rw [W_eq (n := p.2.1 * q.2.2) (by omega) (by omega), W_eq (n := p.2.2 * q.2.1) (by omega) (by omega), W_eq (n := p.2.2 * q.1) (by omega) (by omega), W_eq (n := p.1 * q.2.2) (by omega) (by omega), W_eq (n := p.1 * q.2.1) (by omega) (by omega), W_eq (n := p.2.1 * q.1) (by omega) (by omega),
    W_eq (by omega) (by omega), W_eq (by omega) (by omega), W_eq (by omega) (by omega)]
theorem fcr {p q : P3} (hp : bd 1000000000 p) (hq : bd 1000000000 q) : F65 p q = cr p q := cr_W hp hq
theorem scr {p q : P3} (hp : bd 1000000000 p) (hq : bd 1000000000 q) : F182 p q = cr p q := cr_W hp hq
theorem rcr {p q : P3} (hp : bd 1000000000 p) (hq : bd 1000000000 q) : F128 p q = cr p q := cr_W hp hq
theorem ssb {p q : P3} (hp : bd 100000 p) (hq : bd 100000 q) : F183 p q = sb p q := by
  unfold bd at *; simp only [F183, F191, sb]
  rw [W_eq (n := -1 * q.1) (by omega) (by omega), W_eq (n := -1 * q.2.1) (by omega) (by omega), W_eq (n := -1 * q.2.2) (by omega) (by omega), W_eq (by omega) (by omega), W_eq (by omega) (by omega), W_eq (by omega) (by omega)]
  refine Prod.ext (by simp only; omega) (Prod.ext (by simp only; omega) (by simp only; omega))
theorem bd.mono {a b : Int} {p : P3} (h : bd a p) (hab : a ≤ b) : bd b p := by unfold bd at *; omega
theorem bdP.mono {a b : Int} {p : PN} (h : bdP a p) (hab : a ≤ b) : bdP b p := ⟨h.1.mono hab, h.2.1.mono hab, h.2.2.mono hab⟩

/-! ### Valid panels -/
theorem within_eq (n a b : Int) : F26 n a b = decide (a ≤ n ∧ n ≤ b) := by
  unfold F26
  by_cases h1 : n ≥ a <;> by_cases h2 : n ≤ b <;> simp [h1, h2] <;> omega
theorem within_eq3 (n a b : Int) : F30 n a b = decide (a ≤ n ∧ n ≤ b) := by
  unfold F30
  by_cases h1 : n ≥ a <;> by_cases h2 : n ≤ b <;> simp [h1, h2] <;> omega
theorem within_eq1 (n a b : Int) : F124 n a b = decide (a ≤ n ∧ n ≤ b) := by
  unfold F124
  by_cases h1 : n ≥ a <;> by_cases h2 : n ≤ b <;> simp [h1, h2] <;> omega
theorem within_eq2 (n a b : Int) : F116 n a b = decide (a ≤ n ∧ n ≤ b) := by
  unfold F116
  by_cases h1 : n ≥ a <;> by_cases h2 : n ≤ b <;> simp [h1, h2] <;> omega
theorem from_eq (n a b : Int) : F104 n a b = decide (a ≤ n ∧ n ≤ b) := by
  unfold F104
  by_cases h1 : a ≤ n <;> by_cases h2 : n ≤ b <;> simp [h1, h2]
theorem and3 {a b c d : Prop} [Decidable a] [Decidable b] [Decidable c] [Decidable d] (h : (a ∧ b ∧ c) ↔ d) : (bif decide a then (bif decide b then decide c else false) else false) = decide d := by
  by_cases h1 : a
  · by_cases h2 : b
    · rw [decide_eq_true h1, decide_eq_true h2, cond_true, cond_true]
      by_cases h3 : c
      · rw [decide_eq_true h3, decide_eq_true (h.1 ⟨h1, h2, h3⟩)]
      · rw [decide_eq_false h3, decide_eq_false (fun hd => h3 (h.2 hd).2.2)]
    · rw [decide_eq_true h1, decide_eq_false h2, cond_true, cond_false, decide_eq_false (fun hd => h2 (h.2 hd).2.1)]
  · rw [decide_eq_false h1, cond_false, decide_eq_false (fun hd => h1 (h.2 hd).1)]
theorem eq3 (x y z a b : Int) : (bif (((x : Int) == 0) && (((y : Int) == 0) && (((z : Int) == 0) && true))) then a else b) = if x = 0 ∧ y = 0 ∧ z = 0 then a else b := by
  have key : ∀ t : Int, (t == 0) = decide (t = 0) := fun t => by
    by_cases h : t = 0
    · rw [decide_eq_true h]; simpa using h
    · rw [decide_eq_false h]; simpa using h
  rw [key, key, key, Bool.and_true, ← Bool.decide_and, ← Bool.decide_and]
  by_cases h : x = 0 ∧ y = 0 ∧ z = 0
  · rw [if_pos h, decide_eq_true h, cond_true]
  · rw [if_neg h, decide_eq_false h, cond_false]
open Classical in
theorem inRange_eq (p : P3) : F156 p 64 = decide (bd 64 p) := by
  unfold F156
  rw [from_eq, from_eq, from_eq, W_eq (by omega) (by omega)]
  exact and3 (by unfold bd; omega)
open Classical in
theorem near02_eq (p : P3) : F117 p 64 = decide (bd 64 p) := by
  unfold F117
  rw [within_eq2, within_eq2, within_eq2, W_eq (by omega) (by omega)]
  exact and3 (by unfold bd; omega)
open Classical in
noncomputable def vp (p : PN) : Int := if bdP 64 p then (if (nrm p).1 = 0 ∧ (nrm p).2.1 = 0 ∧ (nrm p).2.2 = 0 then 6 else 0) else 1
theorem nrm_s {p : PN} (h : bdP 64 p) : F157 p = nrm p := by
  have h1 := h.1.mono (show (64 : Int) ≤ 100000 by omega); have h2 := h.2.1.mono (show (64 : Int) ≤ 100000 by omega); have h3 := h.2.2.mono (show (64 : Int) ≤ 100000 by omega)
  unfold F157 nrm
  rw [ssb h2 h1, ssb h3 h1]
  exact scr ((bd_sb h.2.1 h.1).mono (by omega)) ((bd_sb h.2.2 h.1).mono (by omega))
theorem nrm_r {p : PN} (h : bdP 64 p) : F118 p = nrm p := by
  have h1 := h.1.mono (show (64 : Int) ≤ 100000 by omega); have h2 := h.2.1.mono (show (64 : Int) ≤ 100000 by omega); have h3 := h.2.2.mono (show (64 : Int) ≤ 100000 by omega)
  unfold F118 nrm
  rw [rsb h2 h1, rsb h3 h1]
  exact rcr ((bd_sb h.2.1 h.1).mono (by omega)) ((bd_sb h.2.2 h.1).mono (by omega))
theorem vp_s (p : PN) : F96 p = vp p := by
  unfold F96 vp
  rw [inRange_eq, inRange_eq, inRange_eq]
  by_cases h1 : bd 64 p.1
  · by_cases h2 : bd 64 p.2.1
    · by_cases h3 : bd 64 p.2.2
      · have hb : bdP 64 p := ⟨h1, h2, h3⟩
        rw [nrm_s hb, if_pos hb]
        rw [eq3]; simp [h1, h2, h3]
      · simp [h1, h2, h3, bdP]
    · simp [h1, h2, bdP]
  · simp [h1, bdP]
theorem vp_r (p : PN) : F140 p = vp p := by
  unfold F140 vp
  rw [near02_eq, near02_eq, near02_eq]
  by_cases h1 : bd 64 p.1
  · by_cases h2 : bd 64 p.2.1
    · by_cases h3 : bd 64 p.2.2
      · have hb : bdP 64 p := ⟨h1, h2, h3⟩
        rw [nrm_r hb, if_pos hb]
        rw [eq3]; simp [h1, h2, h3]
      · simp [h1, h2, h3, bdP]
    · simp [h1, h2, bdP]
  · simp [h1, bdP]
/-- a valid panel -/
theorem vp_ok {p : PN} (h : vp p = 0) : bdP 64 p ∧ 1 ≤ dt (nrm p) (nrm p) := by
  unfold vp at h
  split at h
  · rename_i hb
    split at h
    · cases h
    · rename_i hn; exact ⟨hb, dt_pos hn⟩
  · cases h
end Go.Proofs.YtidhogejnafhaaaGreat

namespace Go.Proofs.YtidhogejnafhaaaGreat
open Go.Proofs Go.Aw Go.RowKit
set_option maxRecDepth 100000
set_option linter.unusedVariables false
set_option linter.unusedSimpArgs false

/-! ### The reference's list of parts -/
def quadR (x : PN) : List PN :=
  [(F166 x.1 2, F185 (F166 x.1 2) (F166 x.2.1 2), F185 (F166 x.2.2 2) (F166 x.1 2)),
   (F185 (F166 x.1 2) (F166 x.2.1 2), F166 x.2.1 2, F185 (F166 x.2.1 2) (F166 x.2.2 2)),
   (F185 (F166 x.2.2 2) (F166 x.1 2), F185 (F166 x.2.1 2) (F166 x.2.2 2), F166 x.2.2 2),
   (F185 (F166 x.1 2) (F166 x.2.1 2), F185 (F166 x.2.1 2) (F166 x.2.2 2), F185 (F166 x.2.2 2) (F166 x.1 2))]
def refL : Nat → List PN → List PN
  | 0, l => l
  | n + 1, l => refL n (l.flatMap quadR)
theorem refL_length : ∀ (n : Nat) (l : List PN), (refL n l).length = 4 ^ n * l.length
  | 0, l => by simp [refL]
  | n + 1, l => by
    have : (l.flatMap quadR).length = 4 * l.length := by
      induction l with
      | nil => rfl
      | cons x l ih => rw [List.flatMap_cons, List.length_append, ih]; simp only [quadR, List.length_cons, List.length_nil]; omega
    rw [refL, refL_length n, this, Nat.pow_succ]
    rw [← Nat.mul_assoc, Nat.mul_comm (4 ^ n) 4, Nat.mul_comm 4 (4 ^ n)]
theorem cut_in (a0 : PN) (a1 : Int) (l : List PN) : ∀ (f i : Nat) (nx : List PN) (d : Int), l.length - i < f → i ≤ l.length →
    loopF (S165_1 a0 a1) f (l, nx, d, (i : Int)) = .inl (nx ++ (l.drop i).flatMap quadR, d + 1) := by
  intro f
  induction f with
  | zero => intro i nx d h; omega
  | succ f ih =>
    intro i nx d h hi
    by_cases hlt : i < l.length
    · have hs : S165_1 a0 a1 (l, nx, d, (i : Int)) = .inl (l, nx ++ quadR (l.getD i default), d, ((i + 1 : Nat) : Int)) := by
        have : decide ((i : Int) < (l.length : Int)) = true := by simpa using hlt
        simp only [S165_1, this, cond_true, Int.toNat_natCast, quadR]
        rfl
      rw [loopF_inl hs, ih _ _ _ (by omega) (by omega)]
      have hd : l.drop i = l.getD i default :: l.drop (i + 1) := by
        rw [List.drop_eq_getElem_cons hlt]; simp [List.getD_eq_getElem?_getD, hlt]
      rw [hd, List.flatMap_cons, List.append_assoc]
    · have : decide ((i : Int) < (l.length : Int)) = false := by simpa using hlt
      have hs : S165_1 a0 a1 (l, nx, d, (i : Int)) = .inr (.inl (nx, d + 1)) := by
        simp only [S165_1, this, cond_false]
      rw [loopF_inr hs, List.drop_of_length_le (by omega)]; simp
theorem cut_out (a0 : PN) (a1 : Int) : ∀ (f n : Nat) (l : List PN), n < f → loopF (S165_0 a0 a1) f (l, a1 - n) = refL n l := by
  intro f
  induction f with
  | zero => intro n l h; omega
  | succ f ih =>
    intro n l h
    cases n with
    | zero =>
      have hs : S165_0 a0 a1 (l, a1 - (0 : Nat)) = .inr l := by
        have : decide (a1 - ((0 : Nat) : Int) < a1) = false := by simp
        simp only [S165_0, this, cond_false]
      rw [loopF_inr hs]; rfl
    | succ n =>
      have hs : S165_0 a0 a1 (l, a1 - ((n + 1 : Nat) : Int)) = .inl (l.flatMap quadR, a1 - (n : Nat)) := by
        have : decide (a1 - ((n + 1 : Nat) : Int) < a1) = true := by simp; omega
        simp only [S165_0, this, cond_true]
        have := cut_in a0 a1 l (Int.toNat (((l.length : Nat) : Int) - 0) + 1) 0 [] (a1 - ((n + 1 : Nat) : Int)) (by omega) (by omega)
        simp only [List.drop_zero, List.nil_append] at this
        rw [show ((0 : Nat) : Int) = 0 from rfl] at this
        rw [this, show a1 - ((n + 1 : Nat) : Int) + 1 = a1 - (n : Nat) by omega]
      rw [loopF_inl hs, ih _ _ (by omega)]; rfl
theorem cut_refL (p : PN) {d : Int} (h : 0 ≤ d) : F165 p d = refL d.toNat [p] := by
  unfold F165
  have := cut_out p d (Int.toNat (d - 0) + 1) d.toNat [p] (by omega)
  rw [show d - (d.toNat : Int) = 0 by omega] at this
  exact this
theorem cut_len (p : PN) {d : Int} (h : 0 ≤ d) : (F165 p d).length = 4 ^ d.toNat := by
  rw [cut_refL p h, refL_length]; simp
theorem cut_ne {p : PN} {d : Int} (h : 0 ≤ d) : ((((F165 p d).length : Nat)) : Int) ≠ 0 := by
  rw [cut_len p h]
  have : 0 < 4 ^ d.toNat := Nat.pow_pos (by omega)
  omega
theorem cut_le {p : PN} {d : Int} (h : 0 ≤ d ∧ d ≤ 3) : (F165 p d).length ≤ 64 := by
  rw [cut_len p h.1]
  have : d.toNat ≤ 3 := by omega
  calc 4 ^ d.toNat ≤ 4 ^ 3 := Nat.pow_le_pow_right (by omega) this
    _ = 64 := rfl

/-! ### It is the program's -/
def quad (x : PN) : List PN := [q1 x, q2 x, q3 x, q4 x]
theorem times_f {p : P3} (h : bd 100000 p) : F97 p 2 = (2 * p.1, 2 * p.2.1, 2 * p.2.2) := by
  unfold bd at h; simp only [F97]; rw [W_eq (by omega) (by omega), W_eq (by omega) (by omega), W_eq (by omega) (by omega)]
theorem times_r {p : P3} (h : bd 100000 p) : F166 p 2 = (2 * p.1, 2 * p.2.1, 2 * p.2.2) := by
  unfold bd at h; simp only [F166]; rw [W_eq (by omega) (by omega), W_eq (by omega) (by omega), W_eq (by omega) (by omega)]
theorem mid_f {p q : P3} (hp : bd 100000 p) (hq : bd 100000 q) : F160 p q = (p.1 + q.1, p.2.1 + q.2.1, p.2.2 + q.2.2) := by
  unfold bd at hp hq; simp only [F160]; rw [W_eq (by omega) (by omega), W_eq (by omega) (by omega), W_eq (by omega) (by omega)]
theorem mid_r {p q : P3} (hp : bd 100000 p) (hq : bd 100000 q) : F185 (F166 p 2) (F166 q 2) = (p.1 + q.1, p.2.1 + q.2.1, p.2.2 + q.2.2) := by
  rw [times_r hp, times_r hq]
  have key : ∀ a b : Int, (-100000 ≤ a ∧ a ≤ 100000) → (-100000 ≤ b ∧ b ≤ 100000) → W (Int.tdiv (W (2 * a + 2 * b)) 2) = a + b := fun a b h1 h2 => by
    rw [W_eq (n := 2 * a + 2 * b) (by omega) (by omega), ← Int.mul_add, Int.mul_tdiv_cancel_left _ (by omega), W_eq (by omega) (by omega)]
  simp only [F185]
  rw [key _ _ hp.1 hq.1, key _ _ hp.2.1 hq.2.1, key _ _ hp.2.2 hq.2.2]
theorem quad_eq {x : PN} (h : bdP 100000 x) : quadR x = quad x := by
  unfold quadR quad q1 q2 q3 q4
  rw [mid_r h.1 h.2.1, mid_r h.2.2 h.1, mid_r h.2.1 h.2.2, mid_f h.1 h.2.1, mid_f h.2.2 h.1, mid_f h.2.1 h.2.2, times_r h.1, times_r h.2.1, times_r h.2.2, times_f h.1, times_f h.2.1, times_f h.2.2]
theorem quad_bd {m : Int} {x y : PN} (h : bdP m x) (hm : m ≤ 100000) (hy : y ∈ quad x) : bdP (2 * m) y := by
  have h1 := h.1.mono hm; have h2 := h.2.1.mono hm; have h3 := h.2.2.mono hm
  unfold quad q1 q2 q3 q4 at hy
  rw [mid_f h1 h2, mid_f h3 h1, mid_f h2 h3, times_f h1, times_f h2, times_f h3] at hy
  have ha := h.1; have hb := h.2.1; have hc := h.2.2
  unfold bd at ha hb hc
  simp only [List.mem_cons, List.mem_nil_iff, or_false] at hy
  unfold bdP bd
  rcases hy with rfl | rfl | rfl | rfl <;> simp only <;> omega
theorem cutL_quad : ∀ (d : Nat) (p : PN), cutL (d + 1) p = (cutL d p).flatMap quad
  | 0, p => by simp [cutL, quad]
  | d + 1, p => by
    rw [show cutL (d + 1 + 1) p = cutL (d + 1) (q1 p) ++ (cutL (d + 1) (q2 p) ++ (cutL (d + 1) (q3 p) ++ cutL (d + 1) (q4 p))) from rfl]
    rw [cutL_quad d (q1 p), cutL_quad d (q2 p), cutL_quad d (q3 p), cutL_quad d (q4 p)]
    simp only [cutL, List.flatMap_append]
theorem cutL_bd : ∀ (d : Nat) {m : Int} {p x : PN}, bdP m p → m * 2 ^ d ≤ 100000 → 0 ≤ m → x ∈ cutL d p → bdP (m * 2 ^ d) x
  | 0, m, p, x, h, _, _, hx => by simp [cutL] at hx; subst hx; simpa using h
  | d + 1, m, p, x, h, hm, h0, hx => by
    rw [cutL_quad, List.mem_flatMap] at hx
    obtain ⟨y, hy, hx⟩ := hx
    have hp : (0 : Int) < 2 ^ d := Int.pow_pos (by omega)
    have hle : m * 2 ^ d ≤ m * 2 ^ (d + 1) := Int.mul_le_mul_of_nonneg_left (by rw [Int.pow_succ]; omega) h0
    have := quad_bd (cutL_bd d h (by omega) h0 hy) (by omega) hx
    rw [Int.pow_succ, ← Int.mul_assoc, Int.mul_comm]; exact this
theorem flatMap_eq {α β : Type} {f g : α → List β} : ∀ {l : List α}, (∀ x ∈ l, f x = g x) → l.flatMap f = l.flatMap g
  | [], _ => rfl
  | x :: l, h => by rw [List.flatMap_cons, List.flatMap_cons, h x (by simp), flatMap_eq (fun y hy => h y (by simp [hy]))]
theorem refL_snoc : ∀ (n : Nat) (l : List PN), refL (n + 1) l = (refL n l).flatMap quadR
  | 0, l => rfl
  | n + 1, l => by rw [refL, refL_snoc n]; rfl
theorem cut_eq {p : PN} (hp : bdP 64 p) : ∀ d : Nat, d ≤ 9 → refL d [p] = cutL d p
  | 0, _ => rfl
  | d + 1, h => by
    rw [refL_snoc, cut_eq hp d (by omega), cutL_quad]
    have hle : (64 : Int) * 2 ^ d ≤ 100000 := by
      have h1 : (2 : Nat) ^ d ≤ 2 ^ 9 := Nat.pow_le_pow_right (by omega) (by omega)
      have h2 : (2 : Int) ^ d = ((2 ^ d : Nat) : Int) := by simp
      omega
    exact flatMap_eq (fun x hx => quad_eq ((cutL_bd d hp hle (by omega) hx).mono hle))
theorem cutR {p : PN} (hp : bdP 64 p) {d : Int} (h : 0 ≤ d ∧ d ≤ 3) : F165 p d = cutL d.toNat p := by
  rw [cut_refL p h.1, cut_eq hp _ (by omega)]

end Go.Proofs.YtidhogejnafhaaaGreat

namespace Go.Proofs.YtidhogejnafhaaaGreat
open Go.Proofs Go.Aw Go.RowKit
set_option maxRecDepth 100000
set_option linter.unusedVariables false
set_option linter.unusedSimpArgs false

/-- facet/field.cut -/
theorem C98 (a0 : (Int × Int × Int) × (Int × Int × Int) × Int × Int × Int) (a1 : Int) : Con Tryz.prog 98 [(.a (k9 a0)), (iv a1)] [] (.f 158 [(.p 0 0), (.p 1 0)]) [(.live true false (k9 a0)), (.live true false [(iv a1)])] := by
  refine con_s Tryz.func98 (by kernel_rfl) fun cx hcx => ?_
  exact rt [] [] [0, 1] hcx (by kernel_rfl)

/-- facet/field.corners -/
def F99 (a0 : (Int × Int × Int) × (Int × Int × Int) × Int × Int × Int) : (Int × Int × Int) × (Int × Int × Int) × Int × Int × Int :=
  a0

theorem C99 (a0 : (Int × Int × Int) × (Int × Int × Int) × Int × Int × Int) : Con Tryz.prog 99 [(.a (k9 a0))] [] (.a (k9 (F99 a0))) [] := by
  refine con_s Tryz.func99 (by kernel_rfl) fun cx hcx => ?_
  have e := Eq.refl (F99 a0); conv at e => rhs; simp only [F99]
  rw [e]
  exact rt [] [] [] hcx (by kernel_rfl)

/-- facet/field.average -/
def F102 (a0 : Int) (a1 : Int) (a2 : Int) : Int × Int :=
  (F66 (a0, a1) a2).1

theorem C102 (a0 : Int) (a1 : Int) (a2 : Int) : Con Tryz.prog 102 [(iv a0), (iv a1), (iv a2)] [] (.a (k2 (F102 a0 a1 a2))) [] := by
  refine con_s Tryz.func102 (by kernel_rfl) fun cx hcx => ?_
  have e := Eq.refl (F102 a0 a1 a2); conv at e => rhs; simp only [F102]
  rw [e]
  exact rt [.c [] (C66 (a0, a1) a2)] [] [] hcx (by kernel_rfl)

noncomputable def RA58_f59 : Code := match (codeAtD [1, 1, 1, 1, 0, 1, 0] [] (Tryz.f58.body.getD .skip)).1 with
  | .rangeFunc _ _ a b => a
  | _ => .skip

noncomputable def RB58_f59 : Code := match (codeAtD [1, 1, 1, 1, 0, 1, 0] [] (Tryz.f58.body.getD .skip)).1 with
  | .rangeFunc _ _ a b => b
  | _ => .skip

noncomputable def RK58_f59 : List K := (codeAtD [1, 1, 1, 1, 0, 1, 0] [] (Tryz.f58.body.getD .skip)).2

/-- between two rounds of the range of facet/field.mean; the variables: v1 = h5_0, v2 = h6_0 -/
def st58_f59 (a0 : (Int × Int × Int) × (Int × Int × Int) × Int × Int × Int) (a1 : Int × Int × Int) (a2 : Int) : Int × Int → LS
  | (v1, v2) => ⟨[.u, .u, (iv a2), .u, .u, .u, .u, (.p 0 0), (.p 1 0), (.p 2 0), (.p 3 0), (.p 4 0), (.p 5 0), (.p 6 0), .u, .u, .u, .u, .u, .u, .u, .u, .u, .u, .u, .u, .u, .u, .u, (.f 158 [(.p 7 0), (.p 8 0)]), .u, .u, .u, .u, .u, .u, .u, .u, .u, .u, .u, .u, .u, .u, .u, .u, .u, .u, .u, .u, .u, .u, .u, .u, .u, .u, .u, .u, .u, .u, .u, .u, .u, .u, .u, .u, .u, .u, .u], [(.live true false [(.v (.func (.func 59) #[] #[]))]), (.live true false [(iv 0), (iv 0)]), (.live true false [(iv 0)]), (.live true false [(iv (W (1 * 2 ^ (min (Int.toNat a2) 64))))]), (.live true false [(.s 9 0 1 3)]), (.live true false [(iv v1)]), (.live true false [(iv v2)]), (.live true false (k9 a0)), (.live true false [(iv a2)]), (.live true false (k3 (F97 a1 (W (1 * 2 ^ (min (Int.toNat a2) 64))))))]⟩

def sA58_f59 (a0 : (Int × Int × Int) × (Int × Int × Int) × Int × Int × Int) (a1 : Int × Int × Int) (a2 : Int) : Int × Int → (Int × Int × Int) × (Int × Int × Int) × Int × Int × Int → LS
  | (v1, v2), x => ⟨[.u, .u, .u, .u, .u, .u, .u, (.p 0 0), (.p 1 0), (.p 2 0), (.p 3 0), (.p 4 0), (.p 5 0), (.p 6 0), (.p 10 0), .u, .u, .u, .u, .u, .u, .u, .u, .u, .u, .u, .u, .u, .u, .u, .u, .u, .u, .u, .u, .u, .u, .u, .u, .u, .u, .u, .u, .u, .u, .u, .u, .u, .u, .u, .u, .u, .u, .u, .u, .u, .u, .u, .u, .u, .u, .u, .u, .u, .u, .u, .u, .u, .u], [(.live true false [(.v (.func (.func 59) #[] #[]))]), (.live true false [(iv 0), (iv 0)]), (.live true false [(iv 0)]), (.live true false [(iv (W (1 * 2 ^ (min (Int.toNat a2) 64))))]), (.live true false [(.s 9 0 1 3)]), (.live true false [(iv v1)]), (.live true false [(iv v2)]), (.live true false (k9 a0)), (.live true false [(iv a2)]), (.live true false (k3 (F97 a1 (W (1 * 2 ^ (min (Int.toNat a2) 64)))))), (.live true false (k9 x))]⟩

def str58_f59 (a0 : (Int × Int × Int) × (Int × Int × Int) × Int × Int × Int) (a1 : Int × Int × Int) (a2 : Int) (r : (Int × Int) × Int) : LS := ⟨[], [.dead, (.live true false [(iv r.1.1), (iv r.1.2)]), (.live true false [(iv r.2)]), .dead, .dead, .dead, .dead, .dead, .dead, .dead]⟩

def S58_f59_r (a0 : (Int × Int × Int) × (Int × Int × Int) × Int × Int × Int) (a1 : Int × Int × Int) (a2 : Int) : Int × Int → (Int × Int × Int) × (Int × Int × Int) × Int × Int × Int → (Int × Int) ⊕ ((Int × Int) × Int)
  | (v1, v2), x =>
   (bif (((F100_3_1 (F99 x) (F97 a1 (W (1 * 2 ^ (min (Int.toNat a2) 64))))) : Int) == 0) then
    (.inr ((0, 0), 10))
   else
    (.inl ((W (v1 + (F59 (F101_L_L ([(F99 x).1, (F99 x).2.1, (F99 x).2.2] : List (Int × Int × Int)) ([(F97 a1 (W (1 * 2 ^ (min (Int.toNat a2) 64))))] : List (Int × Int × Int))) (W (1 * 2 ^ (min (Int.toNat a2) 64)))).1.1)), (W (v2 + (F59 (F100_3_1 (F99 x) (F97 a1 (W (1 * 2 ^ (min (Int.toNat a2) 64))))) (W (1 * 2 ^ (min (Int.toNat a2) 64)))).1.2)))))

def G58_f59 (a0 : (Int × Int × Int) × (Int × Int × Int) × Int × Int × Int) (a1 : Int × Int × Int) (a2 : Int) : Int × Int → (Int × Int) × Int
  | (v1, v2) =>
   ((F102 v1 v2 (W (1 * 2 ^ (min (Int.toNat (W (2 * a2))) 64)))), 0)

/-- facet/field.mean at ('f59',) -/
def F58_f59 (a0 : (Int × Int × Int) × (Int × Int × Int) × Int × Int × Int) (a1 : Int × Int × Int) (a2 : Int) : (Int × Int) × Int :=
  (thenL (G58_f59 a0 a1 a2) (runL (S58_f59_r a0 a1 a2) (cutL (Int.toNat a2) a0) (0, 0)))

theorem C58_f59 (a0 : (Int × Int × Int) × (Int × Int × Int) × Int × Int × Int) (a1 : Int × Int × Int) (a2 : Int) (ha : 0 ≤ a2 ∧ a2 ≤ 3) : Con Tryz.prog 58 [(.a (k9 a0)), (.a (k3 a1)), (iv a2), (.v (.func (.func 59) #[] #[]))] [] (.t [(.a (k2 (F58_f59 a0 a1 a2).1)), (iv (F58_f59 a0 a1 a2).2)]) [] := by
  have e : (F58_f59 a0 a1 a2) = (thenL (G58_f59 a0 a1 a2) (runL (S58_f59_r a0 a1 a2) (cutL (Int.toNat a2) a0) (0, 0))) := by simp only [F58_f59]
  rw [e]
  refine con_of_mark (n := 9) Tryz.func58 rfl (ent Tryz.func58 (by kernel_rfl) rfl) (by show 4 ≤ Tryz.f58.ntmps; decide) (by kernel_rfl) trivial (fun cx hcx => ?_)
  refine at_of (T := T0) hT hm (f := 5000) (orc := [.call [] (.a (k3 (F97 a1 (W (1 * 2 ^ (min (Int.toNat a2) 64)))))) [], .call [] (.f 158 [(.p 0 0), (.p 1 0)]) [(.live true false (k9 a0)), (.live true false [(iv a2)])]]) [] [2, 7, 8, 9, 10, 11, 12, 13, 29] [2, 3, 4, 5, 7, 8, 9, 10, 11, 6] hcx (x := .rangeFunc (.tmp 29) #[30] RA58_f59 RB58_f59) (k' := RK58_f59) (s' := st58_f59 a0 a1 a2 (0, 0))
    (obs := [.pr (0 ≤ (a2 : Int)), .call 97 [(.a (k3 a1)), (iv (W (1 * 2 ^ (min (Int.toNat a2) 64))))] [] (.a (k3 (F97 a1 (W (1 * 2 ^ (min (Int.toNat a2) 64)))))) [], .call 98 [(.a (k9 a0)), (iv a2)] [] (.f 158 [(.p 0 0), (.p 1 0)]) [(.live true false (k9 a0)), (.live true false [(iv a2)])]]) (by kernel_rfl) ⟨(show 0 ≤ (a2 : Int) from by first | omega | (rw [W_eq] <;> omega) | exact u64_nn _), (C97 a1 (W (1 * 2 ^ (min (Int.toNat a2) 64)))), (C98 a0 a2), trivial⟩ ?_
  refine range_of (xs := cutL (Int.toNat a2) a0) (enc := encP) (V := Int × Int) (R' := ((Int × Int) × Int)) hcx rfl [7, 8] [(.p 0 0), (.p 1 0)] [(.live false false (k9 a0)), (.live false false [(iv a2)])] rfl rfl (iter_cutI a0 a2 (by first | omega | exact pair_le h0)) (fun x => SV.a (cP x)) encP_rel cP_has 10 (Nat.le_of_ble_eq_true rfl) (of_decide_eq_true (by kernel_rfl))
    (st58_f59 a0 a1 a2) (0, 0) rfl (fun ⟨v1, v2⟩ => (by kernel_rfl)) (by kernel_rfl) (fun v v' => (roSub_own (roSub_own (roSub_own (roSub_own (roSub_own (roSub_own (roSub_own (roSub_own (roSub_own (roSub_own roSub_nil))))))))))) (fun ⟨v1, v2⟩ => (by kernel_rfl)) (fun ⟨v1, v2⟩ => (by kernel_rfl)) (fun ⟨v1, v2⟩ => (Nat.le_of_ble_eq_true (by kernel_rfl)))
    (S58_f59_r a0 a1 a2) (str58_f59 a0 a1 a2) (fun v r => (roSub_dead (roSub_own (roSub_own (roSub_dead (roSub_dead (roSub_dead (roSub_dead (roSub_dead (roSub_dead (roSub_dead roSub_nil))))))))))) (fun r => (by kernel_rfl))
    (fun _ _ => True) trivial (sA58_f59 a0 a1 a2) (fun ⟨v1, v2⟩ x => (by kernel_rfl)) (fun ⟨v1, v2⟩ x => (by kernel_rfl)) (fun ⟨v1, v2⟩ x => (Nat.le_of_ble_eq_true (by kernel_rfl)))
    (fun cx' l i ⟨v1, v2⟩ x QA hcx' hx hinv hg => norm_of (T := T0) hT hm (f := 5000) (orc := []) [] [7, 8, 9, 10, 11, 12, 13, 14] [10] hcx' (obs := []) (by kernel_rfl) trivial hg)
    (fun cx' l i ⟨v1, v2⟩ x QB hcx' hx hinv hb1 hb2 => ?_) (fun cx' d ⟨v1, v2⟩ hh hv hinv => ?_) (fun cx' d r hh hv => ?_)
  · show Aw.Good _ _ _ _ _ _ _ (sA58_f59 a0 a1 a2 (v1, v2) x)
    cases h0 : (((F100_3_1 (F99 x) (F97 a1 (W (1 * 2 ^ (min (Int.toNat a2) 64))))) : Int) == 0) with
    | true =>
      have q0 := eq_of_beq h0
      have e : S58_f59_r a0 a1 a2 (v1, v2) x = (.inr ((0, 0), 10)) := by simp only [S58_f59_r, h0, cond_true, cond_false]
      exact rets_of (T := T0) hT hm (f := 5000) (orc := [.call [] (.a (k9 (F99 x))) [], .call [11, 9] (iv (F100_3_1 (F99 x) (F97 a1 (W (1 * 2 ^ (min (Int.toNat a2) 64)))))) [], .d true]) [.kill 0, .kill 3, .kill 4, .kill 5, .kill 6, .kill 7, .kill 8, .kill 9] [] [] hcx' (s' := ⟨List.replicate 69 .u, (str58_f59 a0 a1 a2 ((0, 0), 10)).bk⟩)
        (obs := [.call 99 [(.a (k9 x))] [] (.a (k9 (F99 x))) [], .call 100 [(.s 0 0 3 3), (.s 1 0 1 3)] [(.live false false (k9 (F99 x))), (.live false false (k3 (F97 a1 (W (1 * 2 ^ (min (Int.toNat a2) 64))))))] (iv (F100_3_1 (F99 x) (F97 a1 (W (1 * 2 ^ (min (Int.toNat a2) 64)))))) [], .eq (((F100_3_1 (F99 x) (F97 a1 (W (1 * 2 ^ (min (Int.toNat a2) 64))))) : Int) == 0) true]) (by kernel_rfl) ⟨(C99 x), (C100_3_1 (F99 x) (F97 a1 (W (1 * 2 ^ (min (Int.toNat a2) 64))))), h0, trivial⟩ (hb2 _ e)
    | false =>
      have q0 := ne_of_beq_false h0
      have e : S58_f59_r a0 a1 a2 (v1, v2) x = (.inl ((W (v1 + (F59 (F101_L_L ([(F99 x).1, (F99 x).2.1, (F99 x).2.2] : List (Int × Int × Int)) ([(F97 a1 (W (1 * 2 ^ (min (Int.toNat a2) 64))))] : List (Int × Int × Int))) (W (1 * 2 ^ (min (Int.toNat a2) 64)))).1.1)), (W (v2 + (F59 (F100_3_1 (F99 x) (F97 a1 (W (1 * 2 ^ (min (Int.toNat a2) 64))))) (W (1 * 2 ^ (min (Int.toNat a2) 64)))).1.2)))) := by simp only [S58_f59_r, h0, cond_true, cond_false]
      refine norm_of (T := T0) hT hm (f := 5000) (orc := [.call [] (.a (k9 (F99 x))) [], .call [11, 9] (iv (F100_3_1 (F99 x) (F97 a1 (W (1 * 2 ^ (min (Int.toNat a2) 64)))))) [], .d false, .call [11, 9] (iv (F101_L_L ([(F99 x).1, (F99 x).2.1, (F99 x).2.2] : List (Int × Int × Int)) ([(F97 a1 (W (1 * 2 ^ (min (Int.toNat a2) 64))))] : List (Int × Int × Int)))) [], .call [] (.t [(.a (k2 (F59 (F101_L_L ([(F99 x).1, (F99 x).2.1, (F99 x).2.2] : List (Int × Int × Int)) ([(F97 a1 (W (1 * 2 ^ (min (Int.toNat a2) 64))))] : List (Int × Int × Int))) (W (1 * 2 ^ (min (Int.toNat a2) 64)))).1)), (iv (F59 (F101_L_L ([(F99 x).1, (F99 x).2.1, (F99 x).2.2] : List (Int × Int × Int)) ([(F97 a1 (W (1 * 2 ^ (min (Int.toNat a2) 64))))] : List (Int × Int × Int))) (W (1 * 2 ^ (min (Int.toNat a2) 64)))).2)]) [], .call [] (.t [(.a (k2 (F59 (F100_3_1 (F99 x) (F97 a1 (W (1 * 2 ^ (min (Int.toNat a2) 64))))) (W (1 * 2 ^ (min (Int.toNat a2) 64)))).1)), (iv (F59 (F100_3_1 (F99 x) (F97 a1 (W (1 * 2 ^ (min (Int.toNat a2) 64))))) (W (1 * 2 ^ (min (Int.toNat a2) 64)))).2)]) []]) [] [] [] hcx' (s' := ⟨List.replicate 69 .u, [(.live true false [(.v (.func (.func 59) #[] #[]))]), (.live true false [(iv 0), (iv 0)]), (.live true false [(iv 0)]), (.live true false [(iv (W (1 * 2 ^ (min (Int.toNat a2) 64))))]), (.live true false [(.s 9 0 1 3)]), (.live true false [(iv (W (v1 + (F59 (F101_L_L ([(F99 x).1, (F99 x).2.1, (F99 x).2.2] : List (Int × Int × Int)) ([(F97 a1 (W (1 * 2 ^ (min (Int.toNat a2) 64))))] : List (Int × Int × Int))) (W (1 * 2 ^ (min (Int.toNat a2) 64)))).1.1)))]), (.live true false [(iv (W (v2 + (F59 (F100_3_1 (F99 x) (F97 a1 (W (1 * 2 ^ (min (Int.toNat a2) 64))))) (W (1 * 2 ^ (min (Int.toNat a2) 64)))).1.2)))]), (.live true false (k9 a0)), (.live true false [(iv a2)]), (.live true false (k3 (F97 a1 (W (1 * 2 ^ (min (Int.toNat a2) 64))))))]⟩)
        (obs := [.call 99 [(.a (k9 x))] [] (.a (k9 (F99 x))) [], .call 100 [(.s 0 0 3 3), (.s 1 0 1 3)] [(.live false false (k9 (F99 x))), (.live false false (k3 (F97 a1 (W (1 * 2 ^ (min (Int.toNat a2) 64))))))] (iv (F100_3_1 (F99 x) (F97 a1 (W (1 * 2 ^ (min (Int.toNat a2) 64)))))) [], .eq (((F100_3_1 (F99 x) (F97 a1 (W (1 * 2 ^ (min (Int.toNat a2) 64))))) : Int) == 0) false, .call 101 [(.s 0 0 3 3), (.s 1 0 1 3)] [(.live false false (k9 (F99 x))), (.live false false (k3 (F97 a1 (W (1 * 2 ^ (min (Int.toNat a2) 64))))))] (iv (F101_L_L ([(F99 x).1, (F99 x).2.1, (F99 x).2.2] : List (Int × Int × Int)) ([(F97 a1 (W (1 * 2 ^ (min (Int.toNat a2) 64))))] : List (Int × Int × Int)))) [], .call 59 [(iv (F101_L_L ([(F99 x).1, (F99 x).2.1, (F99 x).2.2] : List (Int × Int × Int)) ([(F97 a1 (W (1 * 2 ^ (min (Int.toNat a2) 64))))] : List (Int × Int × Int)))), (iv (W (1 * 2 ^ (min (Int.toNat a2) 64))))] [] (.t [(.a (k2 (F59 (F101_L_L ([(F99 x).1, (F99 x).2.1, (F99 x).2.2] : List (Int × Int × Int)) ([(F97 a1 (W (1 * 2 ^ (min (Int.toNat a2) 64))))] : List (Int × Int × Int))) (W (1 * 2 ^ (min (Int.toNat a2) 64)))).1)), (iv (F59 (F101_L_L ([(F99 x).1, (F99 x).2.1, (F99 x).2.2] : List (Int × Int × Int)) ([(F97 a1 (W (1 * 2 ^ (min (Int.toNat a2) 64))))] : List (Int × Int × Int))) (W (1 * 2 ^ (min (Int.toNat a2) 64)))).2)]) [], .call 59 [(iv (F100_3_1 (F99 x) (F97 a1 (W (1 * 2 ^ (min (Int.toNat a2) 64)))))), (iv (W (1 * 2 ^ (min (Int.toNat a2) 64))))] [] (.t [(.a (k2 (F59 (F100_3_1 (F99 x) (F97 a1 (W (1 * 2 ^ (min (Int.toNat a2) 64))))) (W (1 * 2 ^ (min (Int.toNat a2) 64)))).1)), (iv (F59 (F100_3_1 (F99 x) (F97 a1 (W (1 * 2 ^ (min (Int.toNat a2) 64))))) (W (1 * 2 ^ (min (Int.toNat a2) 64)))).2)]) []]) (by kernel_rfl) ⟨(C99 x), (C100_3_1 (F99 x) (F97 a1 (W (1 * 2 ^ (min (Int.toNat a2) 64))))), h0, (Con.flags (bs' := [(.live false false (k9 (F99 x))), (.live false false (k3 (F97 a1 (W (1 * 2 ^ (min (Int.toNat a2) 64))))))]) (C101_L_L ([(F99 x).1, (F99 x).2.1, (F99 x).2.2] : List (Int × Int × Int)) ([(F97 a1 (W (1 * 2 ^ (min (Int.toNat a2) 64))))] : List (Int × Int × Int)) (by (try simp only [List.length_append, List.length_cons, List.length_nil, Int.toNat_zero]); omega) (by (try simp only [List.length_append, List.length_cons, List.length_nil, Int.toNat_zero]); omega)) rfl ⟨flat_plain (fun _ => rfl), flat_plain (fun _ => rfl), trivial⟩), (C59 (F101_L_L ([(F99 x).1, (F99 x).2.1, (F99 x).2.2] : List (Int × Int × Int)) ([(F97 a1 (W (1 * 2 ^ (min (Int.toNat a2) 64))))] : List (Int × Int × Int))) (W (1 * 2 ^ (min (Int.toNat a2) 64)))), (C59 (F100_3_1 (F99 x) (F97 a1 (W (1 * 2 ^ (min (Int.toNat a2) 64))))) (W (1 * 2 ^ (min (Int.toNat a2) 64)))), trivial⟩ ?_
      exact hb1 _ e trivial
  · rw [hv]
    show Aw.Good _ _ _ _ _ _ _ (st58_f59 a0 a1 a2 (v1, v2))
    have e : thenL (G58_f59 a0 a1 a2) (Sum.inl (v1, v2)) = ((F102 v1 v2 (W (1 * 2 ^ (min (Int.toNat (W (2 * a2))) 64)))), 0) := by simp only [thenL, G58_f59]
    rw [e]
    exact retH_of (T := T0) hT hm (f := 5000) (orc := [.call [] (.a (k2 (F102 v1 v2 (W (1 * 2 ^ (min (Int.toNat (W (2 * a2))) 64)))))) []]) [] [] [] hh hcx
      (obs := [.pr (0 ≤ ((W (2 * a2)) : Int)), .call 102 [(iv v1), (iv v2), (iv (W (1 * 2 ^ (min (Int.toNat (W (2 * a2))) 64))))] [] (.a (k2 (F102 v1 v2 (W (1 * 2 ^ (min (Int.toNat (W (2 * a2))) 64)))))) []]) (by kernel_rfl) ⟨(show 0 ≤ ((W (2 * a2)) : Int) from by first | omega | (rw [W_eq] <;> omega) | exact u64_nn _), (C102 v1 v2 (W (1 * 2 ^ (min (Int.toNat (W (2 * a2))) 64)))), trivial⟩
  · rw [hv]
    exact finH_of (T := T0) hT [] [] [] (s' := ⟨[.u, .u, (iv a2), .u, .u, .u, .u, (.p 0 0), (.p 1 0), (.p 2 0), (.p 3 0), (.p 4 0), (.p 5 0), (.p 6 0), .u, .u, .u, .u, .u, .u, .u, .u, .u, .u, .u, .u, .u, .u, .u, (.f 158 [(.p 7 0), (.p 8 0)]), .u, .u, .u, .u, .u, .u, .u, .u, .u, .u, .u, .u, .u, .u, .u, .u, .u, .u, .u, .u, .u, .u, .u, .u, .u, .u, .u, .u, .u, .u, .u, .u, .u, .u, .u, .u, .u, .u, .u], (str58_f59 a0 a1 a2 r).bk⟩) rfl hh hcx (by kernel_rfl)

/-- facet/span.Cube -/
def F112 (a0 : Int) (a1 : Int) : (Int × Int) × Int :=
  (bif (decide ((a0 : Int) < 1)) then
   ((0, 0), 1)
  else
   (bif (decide ((a0 : Int) > 1099511627776)) then
    ((0, 0), 1)
   else
    (bif (decide ((a1 : Int) < 1)) then
     ((0, 0), 1)
    else
     (bif (decide ((a1 : Int) > 8)) then
      ((0, 0), 1)
     else
      (bif (decide ((a0 : Int) > 1048576)) then
       ((0, 1), 0)
      else
       ((F103 (W ((W ((W ((W (a1 * a1)) * (W (a1 * a1)))) * (W (a1 * a1)))) * 2 ^ (min (Int.toNat 40) 64))) (W ((W (a0 * a0)) * a0))).1, (F103 (W ((W ((W ((W (a1 * a1)) * (W (a1 * a1)))) * (W (a1 * a1)))) * 2 ^ (min (Int.toNat 40) 64))) (W ((W (a0 * a0)) * a0))).2))))))

theorem C112 (a0 : Int) (a1 : Int) : Con Tryz.prog 112 [(iv a0), (iv a1)] [] (.t [(.a (k2 (F112 a0 a1).1)), (iv (F112 a0 a1).2)]) [] := by
  refine con_s Tryz.func112 (by kernel_rfl) fun cx hcx => ?_
  cases h0 : (decide ((a0 : Int) < 1)) with
  | true =>
   have q0 := of_decide_eq_true h0
   have e := Eq.refl (F112 a0 a1); conv at e => rhs; simp only [F112, h0, cond_true, cond_false]
   rw [e]
   exact rt [.d h0] [] [] hcx (by kernel_rfl)
  | false =>
   have q0 := of_decide_eq_false h0
   let t1 : List (St Tryz.prog) := [.d h0]
   cases h1 : (decide ((a0 : Int) > 1099511627776)) with
   | true =>
    have q1 := of_decide_eq_true h1
    have e := Eq.refl (F112 a0 a1); conv at e => rhs; simp only [F112, h0, h1, cond_true, cond_false]
    rw [e]
    exact rt (t1 ++ [.d h1]) [] [] hcx (by kernel_rfl)
   | false =>
    have q1 := of_decide_eq_false h1
    let t2 : List (St Tryz.prog) := (t1 ++ [.d h1])
    cases h2 : (decide ((a1 : Int) < 1)) with
    | true =>
     have q2 := of_decide_eq_true h2
     have e := Eq.refl (F112 a0 a1); conv at e => rhs; simp only [F112, h0, h1, h2, cond_true, cond_false]
     rw [e]
     exact rt (t2 ++ [.d h2]) [] [] hcx (by kernel_rfl)
    | false =>
     have q2 := of_decide_eq_false h2
     let t3 : List (St Tryz.prog) := (t2 ++ [.d h2])
     cases h3 : (decide ((a1 : Int) > 8)) with
     | true =>
      have q3 := of_decide_eq_true h3
      have e := Eq.refl (F112 a0 a1); conv at e => rhs; simp only [F112, h0, h1, h2, h3, cond_true, cond_false]
      rw [e]
      exact rt (t3 ++ [.d h3]) [] [] hcx (by kernel_rfl)
     | false =>
      have q3 := of_decide_eq_false h3
      let t4 : List (St Tryz.prog) := (t3 ++ [.d h3])
      cases h4 : (decide ((a0 : Int) > 1048576)) with
      | true =>
       have q4 := of_decide_eq_true h4
       have e := Eq.refl (F112 a0 a1); conv at e => rhs; simp only [F112, h0, h1, h2, h3, h4, cond_true, cond_false]
       rw [e]
       exact rt (t4 ++ [.d h4]) [] [] hcx (by kernel_rfl)
      | false =>
       have q4 := of_decide_eq_false h4
       have e := Eq.refl (F112 a0 a1); conv at e => rhs; simp only [F112, h0, h1, h2, h3, h4, cond_true, cond_false]
       rw [e]
       exact rt (t4 ++ [.d h4, .p (show 0 ≤ (40 : Int) from by decide), .c [] (C103 (W ((W ((W ((W (a1 * a1)) * (W (a1 * a1)))) * (W (a1 * a1)))) * 2 ^ (min (Int.toNat 40) 64))) (W ((W (a0 * a0)) * a0))  (cube_ne (by omega) (by omega)))]) [] [] hcx (by kernel_rfl)

noncomputable def RA58_f112 : Code := match (codeAtD [1, 1, 1, 1, 0, 1, 0] [] (Tryz.f58.body.getD .skip)).1 with
  | .rangeFunc _ _ a b => a
  | _ => .skip

noncomputable def RB58_f112 : Code := match (codeAtD [1, 1, 1, 1, 0, 1, 0] [] (Tryz.f58.body.getD .skip)).1 with
  | .rangeFunc _ _ a b => b
  | _ => .skip

noncomputable def RK58_f112 : List K := (codeAtD [1, 1, 1, 1, 0, 1, 0] [] (Tryz.f58.body.getD .skip)).2

/-- between two rounds of the range of facet/field.mean; the variables: v1 = h5_0, v2 = h6_0 -/
def st58_f112 (a0 : (Int × Int × Int) × (Int × Int × Int) × Int × Int × Int) (a1 : Int × Int × Int) (a2 : Int) : Int × Int → LS
  | (v1, v2) => ⟨[.u, .u, (iv a2), .u, .u, .u, .u, (.p 0 0), (.p 1 0), (.p 2 0), (.p 3 0), (.p 4 0), (.p 5 0), (.p 6 0), .u, .u, .u, .u, .u, .u, .u, .u, .u, .u, .u, .u, .u, .u, .u, (.f 158 [(.p 7 0), (.p 8 0)]), .u, .u, .u, .u, .u, .u, .u, .u, .u, .u, .u, .u, .u, .u, .u, .u, .u, .u, .u, .u, .u, .u, .u, .u, .u, .u, .u, .u, .u, .u, .u, .u, .u, .u, .u, .u, .u, .u, .u], [(.live true false [(.v (.func (.func 112) #[] #[]))]), (.live true false [(iv 0), (iv 0)]), (.live true false [(iv 0)]), (.live true false [(iv (W (1 * 2 ^ (min (Int.toNat a2) 64))))]), (.live true false [(.s 9 0 1 3)]), (.live true false [(iv v1)]), (.live true false [(iv v2)]), (.live true false (k9 a0)), (.live true false [(iv a2)]), (.live true false (k3 (F97 a1 (W (1 * 2 ^ (min (Int.toNat a2) 64))))))]⟩

def sA58_f112 (a0 : (Int × Int × Int) × (Int × Int × Int) × Int × Int × Int) (a1 : Int × Int × Int) (a2 : Int) : Int × Int → (Int × Int × Int) × (Int × Int × Int) × Int × Int × Int → LS
  | (v1, v2), x => ⟨[.u, .u, .u, .u, .u, .u, .u, (.p 0 0), (.p 1 0), (.p 2 0), (.p 3 0), (.p 4 0), (.p 5 0), (.p 6 0), (.p 10 0), .u, .u, .u, .u, .u, .u, .u, .u, .u, .u, .u, .u, .u, .u, .u, .u, .u, .u, .u, .u, .u, .u, .u, .u, .u, .u, .u, .u, .u, .u, .u, .u, .u, .u, .u, .u, .u, .u, .u, .u, .u, .u, .u, .u, .u, .u, .u, .u, .u, .u, .u, .u, .u, .u], [(.live true false [(.v (.func (.func 112) #[] #[]))]), (.live true false [(iv 0), (iv 0)]), (.live true false [(iv 0)]), (.live true false [(iv (W (1 * 2 ^ (min (Int.toNat a2) 64))))]), (.live true false [(.s 9 0 1 3)]), (.live true false [(iv v1)]), (.live true false [(iv v2)]), (.live true false (k9 a0)), (.live true false [(iv a2)]), (.live true false (k3 (F97 a1 (W (1 * 2 ^ (min (Int.toNat a2) 64)))))), (.live true false (k9 x))]⟩

def str58_f112 (a0 : (Int × Int × Int) × (Int × Int × Int) × Int × Int × Int) (a1 : Int × Int × Int) (a2 : Int) (r : (Int × Int) × Int) : LS := ⟨[], [.dead, (.live true false [(iv r.1.1), (iv r.1.2)]), (.live true false [(iv r.2)]), .dead, .dead, .dead, .dead, .dead, .dead, .dead]⟩

def S58_f112_r (a0 : (Int × Int × Int) × (Int × Int × Int) × Int × Int × Int) (a1 : Int × Int × Int) (a2 : Int) : Int × Int → (Int × Int × Int) × (Int × Int × Int) × Int × Int × Int → (Int × Int) ⊕ ((Int × Int) × Int)
  | (v1, v2), x =>
   (bif (((F100_3_1 (F99 x) (F97 a1 (W (1 * 2 ^ (min (Int.toNat a2) 64))))) : Int) == 0) then
    (.inr ((0, 0), 10))
   else
    (.inl ((W (v1 + (F112 (F101_L_L ([(F99 x).1, (F99 x).2.1, (F99 x).2.2] : List (Int × Int × Int)) ([(F97 a1 (W (1 * 2 ^ (min (Int.toNat a2) 64))))] : List (Int × Int × Int))) (W (1 * 2 ^ (min (Int.toNat a2) 64)))).1.1)), (W (v2 + (F112 (F100_3_1 (F99 x) (F97 a1 (W (1 * 2 ^ (min (Int.toNat a2) 64))))) (W (1 * 2 ^ (min (Int.toNat a2) 64)))).1.2)))))

def G58_f112 (a0 : (Int × Int × Int) × (Int × Int × Int) × Int × Int × Int) (a1 : Int × Int × Int) (a2 : Int) : Int × Int → (Int × Int) × Int
  | (v1, v2) =>
   ((F102 v1 v2 (W (1 * 2 ^ (min (Int.toNat (W (2 * a2))) 64)))), 0)

/-- facet/field.mean at ('f112',) -/
def F58_f112 (a0 : (Int × Int × Int) × (Int × Int × Int) × Int × Int × Int) (a1 : Int × Int × Int) (a2 : Int) : (Int × Int) × Int :=
  (thenL (G58_f112 a0 a1 a2) (runL (S58_f112_r a0 a1 a2) (cutL (Int.toNat a2) a0) (0, 0)))

theorem C58_f112 (a0 : (Int × Int × Int) × (Int × Int × Int) × Int × Int × Int) (a1 : Int × Int × Int) (a2 : Int) (ha : 0 ≤ a2 ∧ a2 ≤ 3) : Con Tryz.prog 58 [(.a (k9 a0)), (.a (k3 a1)), (iv a2), (.v (.func (.func 112) #[] #[]))] [] (.t [(.a (k2 (F58_f112 a0 a1 a2).1)), (iv (F58_f112 a0 a1 a2).2)]) [] := by
  have e : (F58_f112 a0 a1 a2) = (thenL (G58_f112 a0 a1 a2) (runL (S58_f112_r a0 a1 a2) (cutL (Int.toNat a2) a0) (0, 0))) := by simp only [F58_f112]
  rw [e]
  refine con_of_mark (n := 9) Tryz.func58 rfl (ent Tryz.func58 (by kernel_rfl) rfl) (by show 4 ≤ Tryz.f58.ntmps; decide) (by kernel_rfl) trivial (fun cx hcx => ?_)
  refine at_of (T := T0) hT hm (f := 5000) (orc := [.call [] (.a (k3 (F97 a1 (W (1 * 2 ^ (min (Int.toNat a2) 64)))))) [], .call [] (.f 158 [(.p 0 0), (.p 1 0)]) [(.live true false (k9 a0)), (.live true false [(iv a2)])]]) [] [2, 7, 8, 9, 10, 11, 12, 13, 29] [2, 3, 4, 5, 7, 8, 9, 10, 11, 6] hcx (x := .rangeFunc (.tmp 29) #[30] RA58_f112 RB58_f112) (k' := RK58_f112) (s' := st58_f112 a0 a1 a2 (0, 0))
    (obs := [.pr (0 ≤ (a2 : Int)), .call 97 [(.a (k3 a1)), (iv (W (1 * 2 ^ (min (Int.toNat a2) 64))))] [] (.a (k3 (F97 a1 (W (1 * 2 ^ (min (Int.toNat a2) 64)))))) [], .call 98 [(.a (k9 a0)), (iv a2)] [] (.f 158 [(.p 0 0), (.p 1 0)]) [(.live true false (k9 a0)), (.live true false [(iv a2)])]]) (by kernel_rfl) ⟨(show 0 ≤ (a2 : Int) from by first | omega | (rw [W_eq] <;> omega) | exact u64_nn _), (C97 a1 (W (1 * 2 ^ (min (Int.toNat a2) 64)))), (C98 a0 a2), trivial⟩ ?_
  refine range_of (xs := cutL (Int.toNat a2) a0) (enc := encP) (V := Int × Int) (R' := ((Int × Int) × Int)) hcx rfl [7, 8] [(.p 0 0), (.p 1 0)] [(.live false false (k9 a0)), (.live false false [(iv a2)])] rfl rfl (iter_cutI a0 a2 (by first | omega | exact pair_le h0)) (fun x => SV.a (cP x)) encP_rel cP_has 10 (Nat.le_of_ble_eq_true rfl) (of_decide_eq_true (by kernel_rfl))
    (st58_f112 a0 a1 a2) (0, 0) rfl (fun ⟨v1, v2⟩ => (by kernel_rfl)) (by kernel_rfl) (fun v v' => (roSub_own (roSub_own (roSub_own (roSub_own (roSub_own (roSub_own (roSub_own (roSub_own (roSub_own (roSub_own roSub_nil))))))))))) (fun ⟨v1, v2⟩ => (by kernel_rfl)) (fun ⟨v1, v2⟩ => (by kernel_rfl)) (fun ⟨v1, v2⟩ => (Nat.le_of_ble_eq_true (by kernel_rfl)))
    (S58_f112_r a0 a1 a2) (str58_f112 a0 a1 a2) (fun v r => (roSub_dead (roSub_own (roSub_own (roSub_dead (roSub_dead (roSub_dead (roSub_dead (roSub_dead (roSub_dead (roSub_dead roSub_nil))))))))))) (fun r => (by kernel_rfl))
    (fun _ _ => True) trivial (sA58_f112 a0 a1 a2) (fun ⟨v1, v2⟩ x => (by kernel_rfl)) (fun ⟨v1, v2⟩ x => (by kernel_rfl)) (fun ⟨v1, v2⟩ x => (Nat.le_of_ble_eq_true (by kernel_rfl)))
    (fun cx' l i ⟨v1, v2⟩ x QA hcx' hx hinv hg => norm_of (T := T0) hT hm (f := 5000) (orc := []) [] [7, 8, 9, 10, 11, 12, 13, 14] [10] hcx' (obs := []) (by kernel_rfl) trivial hg)
    (fun cx' l i ⟨v1, v2⟩ x QB hcx' hx hinv hb1 hb2 => ?_) (fun cx' d ⟨v1, v2⟩ hh hv hinv => ?_) (fun cx' d r hh hv => ?_)
  · show Aw.Good _ _ _ _ _ _ _ (sA58_f112 a0 a1 a2 (v1, v2) x)
    cases h0 : (((F100_3_1 (F99 x) (F97 a1 (W (1 * 2 ^ (min (Int.toNat a2) 64))))) : Int) == 0) with
    | true =>
      have q0 := eq_of_beq h0
      have e : S58_f112_r a0 a1 a2 (v1, v2) x = (.inr ((0, 0), 10)) := by simp only [S58_f112_r, h0, cond_true, cond_false]
      exact rets_of (T := T0) hT hm (f := 5000) (orc := [.call [] (.a (k9 (F99 x))) [], .call [11, 9] (iv (F100_3_1 (F99 x) (F97 a1 (W (1 * 2 ^ (min (Int.toNat a2) 64)))))) [], .d true]) [.kill 0, .kill 3, .kill 4, .kill 5, .kill 6, .kill 7, .kill 8, .kill 9] [] [] hcx' (s' := ⟨List.replicate 69 .u, (str58_f112 a0 a1 a2 ((0, 0), 10)).bk⟩)
        (obs := [.call 99 [(.a (k9 x))] [] (.a (k9 (F99 x))) [], .call 100 [(.s 0 0 3 3), (.s 1 0 1 3)] [(.live false false (k9 (F99 x))), (.live false false (k3 (F97 a1 (W (1 * 2 ^ (min (Int.toNat a2) 64))))))] (iv (F100_3_1 (F99 x) (F97 a1 (W (1 * 2 ^ (min (Int.toNat a2) 64)))))) [], .eq (((F100_3_1 (F99 x) (F97 a1 (W (1 * 2 ^ (min (Int.toNat a2) 64))))) : Int) == 0) true]) (by kernel_rfl) ⟨(C99 x), (C100_3_1 (F99 x) (F97 a1 (W (1 * 2 ^ (min (Int.toNat a2) 64))))), h0, trivial⟩ (hb2 _ e)
    | false =>
      have q0 := ne_of_beq_false h0
      have e : S58_f112_r a0 a1 a2 (v1, v2) x = (.inl ((W (v1 + (F112 (F101_L_L ([(F99 x).1, (F99 x).2.1, (F99 x).2.2] : List (Int × Int × Int)) ([(F97 a1 (W (1 * 2 ^ (min (Int.toNat a2) 64))))] : List (Int × Int × Int))) (W (1 * 2 ^ (min (Int.toNat a2) 64)))).1.1)), (W (v2 + (F112 (F100_3_1 (F99 x) (F97 a1 (W (1 * 2 ^ (min (Int.toNat a2) 64))))) (W (1 * 2 ^ (min (Int.toNat a2) 64)))).1.2)))) := by simp only [S58_f112_r, h0, cond_true, cond_false]
      refine norm_of (T := T0) hT hm (f := 5000) (orc := [.call [] (.a (k9 (F99 x))) [], .call [11, 9] (iv (F100_3_1 (F99 x) (F97 a1 (W (1 * 2 ^ (min (Int.toNat a2) 64)))))) [], .d false, .call [11, 9] (iv (F101_L_L ([(F99 x).1, (F99 x).2.1, (F99 x).2.2] : List (Int × Int × Int)) ([(F97 a1 (W (1 * 2 ^ (min (Int.toNat a2) 64))))] : List (Int × Int × Int)))) [], .call [] (.t [(.a (k2 (F112 (F101_L_L ([(F99 x).1, (F99 x).2.1, (F99 x).2.2] : List (Int × Int × Int)) ([(F97 a1 (W (1 * 2 ^ (min (Int.toNat a2) 64))))] : List (Int × Int × Int))) (W (1 * 2 ^ (min (Int.toNat a2) 64)))).1)), (iv (F112 (F101_L_L ([(F99 x).1, (F99 x).2.1, (F99 x).2.2] : List (Int × Int × Int)) ([(F97 a1 (W (1 * 2 ^ (min (Int.toNat a2) 64))))] : List (Int × Int × Int))) (W (1 * 2 ^ (min (Int.toNat a2) 64)))).2)]) [], .call [] (.t [(.a (k2 (F112 (F100_3_1 (F99 x) (F97 a1 (W (1 * 2 ^ (min (Int.toNat a2) 64))))) (W (1 * 2 ^ (min (Int.toNat a2) 64)))).1)), (iv (F112 (F100_3_1 (F99 x) (F97 a1 (W (1 * 2 ^ (min (Int.toNat a2) 64))))) (W (1 * 2 ^ (min (Int.toNat a2) 64)))).2)]) []]) [] [] [] hcx' (s' := ⟨List.replicate 69 .u, [(.live true false [(.v (.func (.func 112) #[] #[]))]), (.live true false [(iv 0), (iv 0)]), (.live true false [(iv 0)]), (.live true false [(iv (W (1 * 2 ^ (min (Int.toNat a2) 64))))]), (.live true false [(.s 9 0 1 3)]), (.live true false [(iv (W (v1 + (F112 (F101_L_L ([(F99 x).1, (F99 x).2.1, (F99 x).2.2] : List (Int × Int × Int)) ([(F97 a1 (W (1 * 2 ^ (min (Int.toNat a2) 64))))] : List (Int × Int × Int))) (W (1 * 2 ^ (min (Int.toNat a2) 64)))).1.1)))]), (.live true false [(iv (W (v2 + (F112 (F100_3_1 (F99 x) (F97 a1 (W (1 * 2 ^ (min (Int.toNat a2) 64))))) (W (1 * 2 ^ (min (Int.toNat a2) 64)))).1.2)))]), (.live true false (k9 a0)), (.live true false [(iv a2)]), (.live true false (k3 (F97 a1 (W (1 * 2 ^ (min (Int.toNat a2) 64))))))]⟩)
        (obs := [.call 99 [(.a (k9 x))] [] (.a (k9 (F99 x))) [], .call 100 [(.s 0 0 3 3), (.s 1 0 1 3)] [(.live false false (k9 (F99 x))), (.live false false (k3 (F97 a1 (W (1 * 2 ^ (min (Int.toNat a2) 64))))))] (iv (F100_3_1 (F99 x) (F97 a1 (W (1 * 2 ^ (min (Int.toNat a2) 64)))))) [], .eq (((F100_3_1 (F99 x) (F97 a1 (W (1 * 2 ^ (min (Int.toNat a2) 64))))) : Int) == 0) false, .call 101 [(.s 0 0 3 3), (.s 1 0 1 3)] [(.live false false (k9 (F99 x))), (.live false false (k3 (F97 a1 (W (1 * 2 ^ (min (Int.toNat a2) 64))))))] (iv (F101_L_L ([(F99 x).1, (F99 x).2.1, (F99 x).2.2] : List (Int × Int × Int)) ([(F97 a1 (W (1 * 2 ^ (min (Int.toNat a2) 64))))] : List (Int × Int × Int)))) [], .call 112 [(iv (F101_L_L ([(F99 x).1, (F99 x).2.1, (F99 x).2.2] : List (Int × Int × Int)) ([(F97 a1 (W (1 * 2 ^ (min (Int.toNat a2) 64))))] : List (Int × Int × Int)))), (iv (W (1 * 2 ^ (min (Int.toNat a2) 64))))] [] (.t [(.a (k2 (F112 (F101_L_L ([(F99 x).1, (F99 x).2.1, (F99 x).2.2] : List (Int × Int × Int)) ([(F97 a1 (W (1 * 2 ^ (min (Int.toNat a2) 64))))] : List (Int × Int × Int))) (W (1 * 2 ^ (min (Int.toNat a2) 64)))).1)), (iv (F112 (F101_L_L ([(F99 x).1, (F99 x).2.1, (F99 x).2.2] : List (Int × Int × Int)) ([(F97 a1 (W (1 * 2 ^ (min (Int.toNat a2) 64))))] : List (Int × Int × Int))) (W (1 * 2 ^ (min (Int.toNat a2) 64)))).2)]) [], .call 112 [(iv (F100_3_1 (F99 x) (F97 a1 (W (1 * 2 ^ (min (Int.toNat a2) 64)))))), (iv (W (1 * 2 ^ (min (Int.toNat a2) 64))))] [] (.t [(.a (k2 (F112 (F100_3_1 (F99 x) (F97 a1 (W (1 * 2 ^ (min (Int.toNat a2) 64))))) (W (1 * 2 ^ (min (Int.toNat a2) 64)))).1)), (iv (F112 (F100_3_1 (F99 x) (F97 a1 (W (1 * 2 ^ (min (Int.toNat a2) 64))))) (W (1 * 2 ^ (min (Int.toNat a2) 64)))).2)]) []]) (by kernel_rfl) ⟨(C99 x), (C100_3_1 (F99 x) (F97 a1 (W (1 * 2 ^ (min (Int.toNat a2) 64))))), h0, (Con.flags (bs' := [(.live false false (k9 (F99 x))), (.live false false (k3 (F97 a1 (W (1 * 2 ^ (min (Int.toNat a2) 64))))))]) (C101_L_L ([(F99 x).1, (F99 x).2.1, (F99 x).2.2] : List (Int × Int × Int)) ([(F97 a1 (W (1 * 2 ^ (min (Int.toNat a2) 64))))] : List (Int × Int × Int)) (by (try simp only [List.length_append, List.length_cons, List.length_nil, Int.toNat_zero]); omega) (by (try simp only [List.length_append, List.length_cons, List.length_nil, Int.toNat_zero]); omega)) rfl ⟨flat_plain (fun _ => rfl), flat_plain (fun _ => rfl), trivial⟩), (C112 (F101_L_L ([(F99 x).1, (F99 x).2.1, (F99 x).2.2] : List (Int × Int × Int)) ([(F97 a1 (W (1 * 2 ^ (min (Int.toNat a2) 64))))] : List (Int × Int × Int))) (W (1 * 2 ^ (min (Int.toNat a2) 64)))), (C112 (F100_3_1 (F99 x) (F97 a1 (W (1 * 2 ^ (min (Int.toNat a2) 64))))) (W (1 * 2 ^ (min (Int.toNat a2) 64)))), trivial⟩ ?_
      exact hb1 _ e trivial
  · rw [hv]
    show Aw.Good _ _ _ _ _ _ _ (st58_f112 a0 a1 a2 (v1, v2))
    have e : thenL (G58_f112 a0 a1 a2) (Sum.inl (v1, v2)) = ((F102 v1 v2 (W (1 * 2 ^ (min (Int.toNat (W (2 * a2))) 64)))), 0) := by simp only [thenL, G58_f112]
    rw [e]
    exact retH_of (T := T0) hT hm (f := 5000) (orc := [.call [] (.a (k2 (F102 v1 v2 (W (1 * 2 ^ (min (Int.toNat (W (2 * a2))) 64)))))) []]) [] [] [] hh hcx
      (obs := [.pr (0 ≤ ((W (2 * a2)) : Int)), .call 102 [(iv v1), (iv v2), (iv (W (1 * 2 ^ (min (Int.toNat (W (2 * a2))) 64))))] [] (.a (k2 (F102 v1 v2 (W (1 * 2 ^ (min (Int.toNat (W (2 * a2))) 64)))))) []]) (by kernel_rfl) ⟨(show 0 ≤ ((W (2 * a2)) : Int) from by first | omega | (rw [W_eq] <;> omega) | exact u64_nn _), (C102 v1 v2 (W (1 * 2 ^ (min (Int.toNat (W (2 * a2))) 64)))), trivial⟩
  · rw [hv]
    exact finH_of (T := T0) hT [] [] [] (s' := ⟨[.u, .u, (iv a2), .u, .u, .u, .u, (.p 0 0), (.p 1 0), (.p 2 0), (.p 3 0), (.p 4 0), (.p 5 0), (.p 6 0), .u, .u, .u, .u, .u, .u, .u, .u, .u, .u, .u, .u, .u, .u, .u, (.f 158 [(.p 7 0), (.p 8 0)]), .u, .u, .u, .u, .u, .u, .u, .u, .u, .u, .u, .u, .u, .u, .u, .u, .u, .u, .u, .u, .u, .u, .u, .u, .u, .u, .u, .u, .u, .u, .u, .u, .u, .u, .u, .u, .u, .u, .u], (str58_f112 a0 a1 a2 r).bk⟩) rfl hh hcx (by kernel_rfl)

end Go.Proofs.YtidhogejnafhaaaGreat

namespace Go.Proofs.YtidhogejnafhaaaGreat
open Go.Proofs Go.Aw Go.RowKit
set_option maxRecDepth 100000
set_option linter.unusedVariables false
set_option linter.unusedSimpArgs false

/-- facet/facetref01.Cube -/
def F170 (a0 : Int) (a1 : Int) : (Int × Int) × Int :=
  (bif (!(F124 a0 1 1099511627776)) then
   ((0, 0), 1)
  else
   (bif (!(F124 a1 1 8)) then
    ((0, 0), 1)
   else
    (bif (decide ((a0 : Int) > 1048576)) then
     ((F74 0 1).1, (F74 0 1).2)
    else
     ((F188 (W ((W ((W (1048576 * (W ((W (a1 * a1)) * a1)))) * 1048576)) * (W ((W (a1 * a1)) * a1)))) (W ((W (a0 * a0)) * a0))).1, (F188 (W ((W ((W (1048576 * (W ((W (a1 * a1)) * a1)))) * 1048576)) * (W ((W (a1 * a1)) * a1)))) (W ((W (a0 * a0)) * a0))).2))))

theorem C170 (a0 : Int) (a1 : Int) : Con Tryz.prog 170 [(iv a0), (iv a1)] [] (.t [(.a (k2 (F170 a0 a1).1)), (iv (F170 a0 a1).2)]) [] := by
  refine con_s Tryz.func170 (by kernel_rfl) fun cx hcx => ?_
  let t0 : List (St Tryz.prog) := [.c [] (C124 a0 1 1099511627776)]
  cases h0 : (!(F124 a0 1 1099511627776)) with
  | true =>
   have e := Eq.refl (F170 a0 a1); conv at e => rhs; simp only [F170, h0, cond_true, cond_false]
   rw [e]
   exact rt (t0 ++ [.d h0]) [] [] hcx (by kernel_rfl)
  | false =>
   let t1 : List (St Tryz.prog) := (t0 ++ [.d h0, .c [] (C124 a1 1 8)])
   cases h1 : (!(F124 a1 1 8)) with
   | true =>
    have e := Eq.refl (F170 a0 a1); conv at e => rhs; simp only [F170, h0, h1, cond_true, cond_false]
    rw [e]
    exact rt (t1 ++ [.d h1]) [] [] hcx (by kernel_rfl)
   | false =>
    let t2 : List (St Tryz.prog) := (t1 ++ [.d h1])
    cases h2 : (decide ((a0 : Int) > 1048576)) with
    | true =>
     have q2 := of_decide_eq_true h2
     have e := Eq.refl (F170 a0 a1); conv at e => rhs; simp only [F170, h0, h1, h2, cond_true, cond_false]
     rw [e]
     exact rt (t2 ++ [.d h2, .c [] (C74 0 1)]) [] [] hcx (by kernel_rfl)
    | false =>
     have q2 := of_decide_eq_false h2
     have e := Eq.refl (F170 a0 a1); conv at e => rhs; simp only [F170, h0, h1, h2, cond_true, cond_false]
     rw [e]
     exact rt (t2 ++ [.d h2, .c [] (C188 (W ((W ((W (1048576 * (W ((W (a1 * a1)) * a1)))) * 1048576)) * (W ((W (a1 * a1)) * a1)))) (W ((W (a0 * a0)) * a0))  (cube_ne (win_ge h0) (by omega)))]) [] [] hcx (by kernel_rfl)

noncomputable def B122_0 : Code := (loopAtD [1, 1, 1, 1, 1, 0, 1] [] (bodyOf Tryz.f122) []).1
noncomputable def K122_0 : List K := (loopAtD [1, 1, 1, 1, 1, 0, 1] [] (bodyOf Tryz.f122) []).2

def st122_0 (a0 : (Int × Int × Int) × (Int × Int × Int) × Int × Int × Int) (a1 : Int × Int × Int) (a2 : Int) (a3 : Bool) (v1 : Int) (v2 : Int) (v3 : Int) : LS := ⟨slN 98 [(3, (.v (.bool a3))), (8, (.p 0 0)), (10, (iv (W (1 * 2 ^ (min (Int.toNat (IntKind.wrap .u64 a2)) 64))))), (11, (.s 1 0 (F165 a0 a2).length 9)), (12, (.s 2 0 1 3)), (13, (iv v1)), (14, (iv v2)), (15, (iv v3))], [(.live true false [(iv 0), (iv 0)]), (.live true true (flat c57 (F165 a0 a2))), (.live true false (k3 (F166 a1 (W (1 * 2 ^ (min (Int.toNat (IntKind.wrap .u64 a2)) 64))))))]⟩

/-- a round of loop 0 of facet/facetref03.mean; the variables: v1 = s13, v2 = s14, v3 = s15 -/
def S122_0 (a0 : (Int × Int × Int) × (Int × Int × Int) × Int × Int × Int) (a1 : Int × Int × Int) (a2 : Int) (a3 : Bool) : Int × Int × Int → (Int × Int × Int) ⊕ ((Int × Int) × Int)
  | (v1, v2, v3) =>
   (bif (decide ((v3 : Int) < (((F165 a0 a2).length : Nat) : Int))) then
    (bif (((F167_1 ((F165 a0 a2).getD (Int.toNat v3) default) (F166 a1 (W (1 * 2 ^ (min (Int.toNat (IntKind.wrap .u64 a2)) 64))))) : Int) == 0) then
     (.inr ((0, 0), 10))
    else
     (bif a3 then
      (.inl ((W (v1 + (F170 (F169_L ((F165 a0 a2).getD (Int.toNat v3) default) ([(F166 a1 (W (1 * 2 ^ (min (Int.toNat (IntKind.wrap .u64 a2)) 64))))] : List (Int × Int × Int))) (W (1 * 2 ^ (min (Int.toNat (IntKind.wrap .u64 a2)) 64)))).1.1)), (W (v2 + (F170 (F167_1 ((F165 a0 a2).getD (Int.toNat v3) default) (F166 a1 (W (1 * 2 ^ (min (Int.toNat (IntKind.wrap .u64 a2)) 64))))) (W (1 * 2 ^ (min (Int.toNat (IntKind.wrap .u64 a2)) 64)))).1.2)), (v3 + 1)))
     else
      (.inl ((W (v1 + (F168 (F169_L ((F165 a0 a2).getD (Int.toNat v3) default) ([(F166 a1 (W (1 * 2 ^ (min (Int.toNat (IntKind.wrap .u64 a2)) 64))))] : List (Int × Int × Int))) (W (1 * 2 ^ (min (Int.toNat (IntKind.wrap .u64 a2)) 64)))).1.1)), (W (v2 + (F168 (F167_1 ((F165 a0 a2).getD (Int.toNat v3) default) (F166 a1 (W (1 * 2 ^ (min (Int.toNat (IntKind.wrap .u64 a2)) 64))))) (W (1 * 2 ^ (min (Int.toNat (IntKind.wrap .u64 a2)) 64)))).1.2)), (v3 + 1)))))
   else
    (.inr (((F129 v1 (((F165 a0 a2).length : Nat) : Int)), (F130 v2 (((F165 a0 a2).length : Nat) : Int))), 0)))

set_option maxHeartbeats 4000000 in
theorem L122_0 (a0 : (Int × Int × Int) × (Int × Int × Int) × Int × Int × Int) (a1 : Int × Int × Int) (a2 : Int) (a3 : Bool) (ha : 0 ≤ a2 ∧ a2 ≤ 3) {cx : Cx} (hcx : cx.base = 0) : ∀ (n : Nat) (v1 : Int) (v2 : Int) (v3 : Int), 0 ≤ v3 → Int.toNat ((((F165 a0 a2).length : Nat) : Int) - v3) < n → Aw.Good Tryz.prog none 9 (bodyPost Tryz.prog Tryz.f122 (RR cx (.t [(.a (k2 (loopF (S122_0 a0 a1 a2 a3) n (v1, v2, v3)).1)), (iv (loopF (S122_0 a0 a1 a2 a3) n (v1, v2, v3)).2)]) [] [])) cx [] (.l B122_0 n :: K122_0) (st122_0 a0 a1 a2 a3 v1 v2 v3) := by
  intro n
  induction n with
  | zero => intro v1 v2 v3 hi hn; exact absurd hn (Nat.not_lt_zero _)
  | succ n ih =>
    intro v1 v2 v3 hi hn
    refine good_round ?_
    have hcl := cut_le (p := a0) ha
    cases h0 : (decide ((v3 : Int) < (((F165 a0 a2).length : Nat) : Int))) with
    | true =>
     have q0 := of_decide_eq_true h0
     let t1 : List (St Tryz.prog) := [.d h0, .i v3 ((F165 a0 a2).length), .L c57_len (F165 a0 a2) v3 0 9, .c [2] (C167_1 ((F165 a0 a2).getD (Int.toNat v3) default) (F166 a1 (W (1 * 2 ^ (min (Int.toNat (IntKind.wrap .u64 a2)) 64)))))]
     cases h1 : (((F167_1 ((F165 a0 a2).getD (Int.toNat v3) default) (F166 a1 (W (1 * 2 ^ (min (Int.toNat (IntKind.wrap .u64 a2)) 64))))) : Int) == 0) with
     | true =>
      have q1 := eq_of_beq h1
      have e := Eq.refl (S122_0 a0 a1 a2 a3 (v1, v2, v3)); conv at e => rhs; simp only [S122_0, h0, h1, cond_true, cond_false]
      rw [loopF_s, e]
      exact rt (t1 ++ [.d h1]) [] [] hcx (by kernel_rfl)
     | false =>
      have q1 := ne_of_beq_false h1
      let t2 : List (St Tryz.prog) := (t1 ++ [.d h1, .i v3 ((F165 a0 a2).length), .L c57_len (F165 a0 a2) v3 0 9, .c [2] (Con.flags (bs' := [(.live false false (k3 (F166 a1 (W (1 * 2 ^ (min (Int.toNat (IntKind.wrap .u64 a2)) 64))))))]) (C169_L ((F165 a0 a2).getD (Int.toNat v3) default) ([(F166 a1 (W (1 * 2 ^ (min (Int.toNat (IntKind.wrap .u64 a2)) 64))))] : List (Int × Int × Int)) (by (try simp only [List.length_append, List.length_cons, List.length_nil, Int.toNat_zero]); omega)) rfl ⟨flat_plain (fun _ => rfl), trivial⟩), .c [] (C168 (F169_L ((F165 a0 a2).getD (Int.toNat v3) default) ([(F166 a1 (W (1 * 2 ^ (min (Int.toNat (IntKind.wrap .u64 a2)) 64))))] : List (Int × Int × Int))) (W (1 * 2 ^ (min (Int.toNat (IntKind.wrap .u64 a2)) 64)))), .c [] (C168 (F167_1 ((F165 a0 a2).getD (Int.toNat v3) default) (F166 a1 (W (1 * 2 ^ (min (Int.toNat (IntKind.wrap .u64 a2)) 64))))) (W (1 * 2 ^ (min (Int.toNat (IntKind.wrap .u64 a2)) 64))))])
      rcases bool_tf a3 with h2 | h2
      · skip
        have e := Eq.refl (S122_0 a0 a1 a2 a3 (v1, v2, v3)); conv at e => rhs; simp only [S122_0, h0, h1, h2, cond_true, cond_false]
        rw [loopF_inl e]
        refine ba (t2 ++ [.d h2, .i v3 ((F165 a0 a2).length), .L c57_len (F165 a0 a2) v3 0 9, .c [2] (Con.flags (bs' := [(.live false false (k3 (F166 a1 (W (1 * 2 ^ (min (Int.toNat (IntKind.wrap .u64 a2)) 64))))))]) (C169_L ((F165 a0 a2).getD (Int.toNat v3) default) ([(F166 a1 (W (1 * 2 ^ (min (Int.toNat (IntKind.wrap .u64 a2)) 64))))] : List (Int × Int × Int)) (by (try simp only [List.length_append, List.length_cons, List.length_nil, Int.toNat_zero]); omega)) rfl ⟨flat_plain (fun _ => rfl), trivial⟩), .c [] (C170 (F169_L ((F165 a0 a2).getD (Int.toNat v3) default) ([(F166 a1 (W (1 * 2 ^ (min (Int.toNat (IntKind.wrap .u64 a2)) 64))))] : List (Int × Int × Int))) (W (1 * 2 ^ (min (Int.toNat (IntKind.wrap .u64 a2)) 64)))), .c [] (C170 (F167_1 ((F165 a0 a2).getD (Int.toNat v3) default) (F166 a1 (W (1 * 2 ^ (min (Int.toNat (IntKind.wrap .u64 a2)) 64))))) (W (1 * 2 ^ (min (Int.toNat (IntKind.wrap .u64 a2)) 64))))]) [] [3, 8, 10, 11, 12, 13, 14, 15] [0, 1, 2] hcx (m := n) B122_0 (K122_0) (st122_0 a0 a1 a2 a3 (W (v1 + (F170 (F169_L ((F165 a0 a2).getD (Int.toNat v3) default) ([(F166 a1 (W (1 * 2 ^ (min (Int.toNat (IntKind.wrap .u64 a2)) 64))))] : List (Int × Int × Int))) (W (1 * 2 ^ (min (Int.toNat (IntKind.wrap .u64 a2)) 64)))).1.1)) (W (v2 + (F170 (F167_1 ((F165 a0 a2).getD (Int.toNat v3) default) (F166 a1 (W (1 * 2 ^ (min (Int.toNat (IntKind.wrap .u64 a2)) 64))))) (W (1 * 2 ^ (min (Int.toNat (IntKind.wrap .u64 a2)) 64)))).1.2)) (W (v3 + 1))) (by kernel_rfl) ?_
        have z0 : (W (v3 + 1)) = (v3 + 1) := W_eq (by omega) (by omega)
        rw [z0]
        exact ih (W (v1 + (F170 (F169_L ((F165 a0 a2).getD (Int.toNat v3) default) ([(F166 a1 (W (1 * 2 ^ (min (Int.toNat (IntKind.wrap .u64 a2)) 64))))] : List (Int × Int × Int))) (W (1 * 2 ^ (min (Int.toNat (IntKind.wrap .u64 a2)) 64)))).1.1)) (W (v2 + (F170 (F167_1 ((F165 a0 a2).getD (Int.toNat v3) default) (F166 a1 (W (1 * 2 ^ (min (Int.toNat (IntKind.wrap .u64 a2)) 64))))) (W (1 * 2 ^ (min (Int.toNat (IntKind.wrap .u64 a2)) 64)))).1.2)) (v3 + 1) (by (try simp only [List.length_append, List.length_cons, List.length_nil, Int.toNat_zero]); omega) (by (try simp only [List.length_append, List.length_cons, List.length_nil, Int.toNat_zero]); omega)
      · skip
        have e := Eq.refl (S122_0 a0 a1 a2 a3 (v1, v2, v3)); conv at e => rhs; simp only [S122_0, h0, h1, h2, cond_true, cond_false]
        rw [loopF_inl e]
        refine ba (t2 ++ [.d h2]) [] [3, 8, 10, 11, 12, 13, 14, 15] [0, 1, 2] hcx (m := n) B122_0 (K122_0) (st122_0 a0 a1 a2 a3 (W (v1 + (F168 (F169_L ((F165 a0 a2).getD (Int.toNat v3) default) ([(F166 a1 (W (1 * 2 ^ (min (Int.toNat (IntKind.wrap .u64 a2)) 64))))] : List (Int × Int × Int))) (W (1 * 2 ^ (min (Int.toNat (IntKind.wrap .u64 a2)) 64)))).1.1)) (W (v2 + (F168 (F167_1 ((F165 a0 a2).getD (Int.toNat v3) default) (F166 a1 (W (1 * 2 ^ (min (Int.toNat (IntKind.wrap .u64 a2)) 64))))) (W (1 * 2 ^ (min (Int.toNat (IntKind.wrap .u64 a2)) 64)))).1.2)) (W (v3 + 1))) (by kernel_rfl) ?_
        have z0 : (W (v3 + 1)) = (v3 + 1) := W_eq (by omega) (by omega)
        rw [z0]
        exact ih (W (v1 + (F168 (F169_L ((F165 a0 a2).getD (Int.toNat v3) default) ([(F166 a1 (W (1 * 2 ^ (min (Int.toNat (IntKind.wrap .u64 a2)) 64))))] : List (Int × Int × Int))) (W (1 * 2 ^ (min (Int.toNat (IntKind.wrap .u64 a2)) 64)))).1.1)) (W (v2 + (F168 (F167_1 ((F165 a0 a2).getD (Int.toNat v3) default) (F166 a1 (W (1 * 2 ^ (min (Int.toNat (IntKind.wrap .u64 a2)) 64))))) (W (1 * 2 ^ (min (Int.toNat (IntKind.wrap .u64 a2)) 64)))).1.2)) (v3 + 1) (by (try simp only [List.length_append, List.length_cons, List.length_nil, Int.toNat_zero]); omega) (by (try simp only [List.length_append, List.length_cons, List.length_nil, Int.toNat_zero]); omega)
    | false =>
     have q0 := of_decide_eq_false h0
     have e := Eq.refl (S122_0 a0 a1 a2 a3 (v1, v2, v3)); conv at e => rhs; simp only [S122_0, h0, cond_true, cond_false]
     rw [loopF_s, e]
     exact rt [.d h0, .c [] (C129 v1 (((F165 a0 a2).length : Nat) : Int)  (cut_ne (by omega))), .c [] (C130 v2 (((F165 a0 a2).length : Nat) : Int)  (cut_ne (by omega)))] [] [] hcx (by kernel_rfl)

/-- facet/facetref03.mean -/
def F122 (a0 : (Int × Int × Int) × (Int × Int × Int) × Int × Int × Int) (a1 : Int × Int × Int) (a2 : Int) (a3 : Bool) : (Int × Int) × Int :=
  (loopF (S122_0 a0 a1 a2 a3) (Int.toNat ((((F165 a0 a2).length : Nat) : Int) - 0) + 1) (0, 0, 0))

theorem C122 (a0 : (Int × Int × Int) × (Int × Int × Int) × Int × Int × Int) (a1 : Int × Int × Int) (a2 : Int) (a3 : Bool) (ha : 0 ≤ a2 ∧ a2 ≤ 3) : Con Tryz.prog 122 [(.a (k9 a0)), (.a (k3 a1)), (iv a2), (.v (.bool a3))] [] (.t [(.a (k2 (F122 a0 a1 a2 a3).1)), (iv (F122 a0 a1 a2 a3).2)]) [] := by
  refine con_s Tryz.func122 (by kernel_rfl) fun cx hcx => ?_
  have e := Eq.refl (F122 a0 a1 a2 a3); conv at e => rhs; simp only [F122]
  rw [e]
  refine en [.p (show 0 ≤ ((IntKind.wrap .u64 a2) : Int) from by first | omega | (rw [W_eq] <;> omega) | exact u64_nn _), .c [] (C165 a0 a2  (by (try simp only [List.length_append, List.length_cons, List.length_nil, Int.toNat_zero]); omega)), .c [] (C166 a1 (W (1 * 2 ^ (min (Int.toNat (IntKind.wrap .u64 a2)) 64))))] [] [3, 8, 10, 11, 12, 13, 14, 15] [2, 3, 4] hcx B122_0 (K122_0) (st122_0 a0 a1 a2 a3 0 0 0) (Int.toNat ((((F165 a0 a2).length : Nat) : Int) - 0) + 1) (by kernel_rfl) ?_
  exact L122_0 a0 a1 a2 a3 ha hcx (Int.toNat ((((F165 a0 a2).length : Nat) : Int) - 0) + 1) 0 0 0 (by (try simp only [List.length_append, List.length_cons, List.length_nil, Int.toNat_zero]); omega) (by (try simp only [List.length_append, List.length_cons, List.length_nil, Int.toNat_zero]); omega)

end Go.Proofs.YtidhogejnafhaaaGreat

namespace Go.Proofs.YtidhogejnafhaaaGreat
open Go.Proofs Go.Aw Go.RowKit
set_option maxRecDepth 100000
set_option linter.unusedVariables false
set_option linter.unusedSimpArgs false

/-! ### How far, how near -/
def mx (a b : Int) : Int := if a < b then b else a
theorem mx_le {a b c : Int} (h : a ≤ c) (h' : b ≤ c) : mx a b ≤ c := by unfold mx; split <;> assumption
theorem le_mx1 (a b : Int) : a ≤ mx a b := by unfold mx; split <;> omega
theorem le_mx2 (a b : Int) : b ≤ mx a b := by unfold mx; split <;> omega
def ds (p q : P3) : Int := dt (sb p q) (sb p q)
def fF (p q : P3) : Int := F63 (F64 p q) (F64 p q)
theorem fF_eq {p q : P3} (hp : bd 5000 p) (hq : bd 5000 q) : fF p q = ds p q := by
  unfold fF ds
  rw [fsb (hp.mono (by omega)) (hq.mono (by omega))]
  exact fdt ((bd_sb hp hq).mono (by omega)) ((bd_sb hp hq).mono (by omega))
def rF (p q : P3) : Int := F126 (F127 p q) (F127 p q)
theorem rF_eq {p q : P3} (hp : bd 5000 p) (hq : bd 5000 q) : rF p q = ds p q := by
  unfold rF ds
  rw [rsb (hp.mono (by omega)) (hq.mono (by omega))]
  exact rdt ((bd_sb hp hq).mono (by omega)) ((bd_sb hp hq).mono (by omega))
theorem farF1 (c : PN) (x : P3) : F101_L_L [c.1, c.2.1, c.2.2] [x] = mx (mx (mx 0 (fF c.1 x)) (fF c.2.1 x)) (fF c.2.2 x) := by
  rfl
theorem farR_step (c : PN) (l : List P3) (v : Int) (i : Nat) (h : i < l.length) :
    S169_L_0 c l (v, (i : Int)) = .inl (mx (mx (mx v (rF c.1 (l.getD i default))) (rF c.2.1 (l.getD i default))) (rF c.2.2 (l.getD i default)), ((i + 1 : Nat) : Int)) := by
  have h0 : decide ((i : Int) < ((l.length : Nat) : Int)) = true := by simpa using h
  simp only [S169_L_0, h0, cond_true, Int.toNat_natCast]
  have key : ∀ q : P3, (bif decide (rF c.1 q > v) then bif decide (rF c.2.1 q > rF c.1 q) then bif decide (rF c.2.2 q > rF c.2.1 q) then Sum.inl (rF c.2.2 q, (i : Int) + 1) else Sum.inl (rF c.2.1 q, (i : Int) + 1) else bif decide (rF c.2.2 q > rF c.1 q) then Sum.inl (rF c.2.2 q, (i : Int) + 1) else Sum.inl (rF c.1 q, (i : Int) + 1)
    else bif decide (rF c.2.1 q > v) then bif decide (rF c.2.2 q > rF c.2.1 q) then Sum.inl (rF c.2.2 q, (i : Int) + 1) else Sum.inl (rF c.2.1 q, (i : Int) + 1) else bif decide (rF c.2.2 q > v) then Sum.inl (rF c.2.2 q, (i : Int) + 1) else Sum.inl (v, (i : Int) + 1))
    = (Sum.inl (mx (mx (mx v (rF c.1 q)) (rF c.2.1 q)) (rF c.2.2 q), ((i : Int) + 1)) : (Int × Int) ⊕ Int) := by
    intro q
    generalize rF c.1 q = a1; generalize rF c.2.1 q = a2; generalize rF c.2.2 q = a3
    unfold mx
    by_cases h1 : a1 > v
    · rw [decide_eq_true h1, cond_true, if_pos h1]
      by_cases h2 : a2 > a1
      · rw [decide_eq_true h2, cond_true, if_pos h2]
        by_cases h3 : a3 > a2
        · rw [decide_eq_true h3, cond_true, if_pos h3]
        · rw [decide_eq_false h3, cond_false, if_neg h3]
      · rw [decide_eq_false h2, cond_false, if_neg h2]
        by_cases h3 : a3 > a1
        · rw [decide_eq_true h3, cond_true, if_pos h3]
        · rw [decide_eq_false h3, cond_false, if_neg h3]
    · rw [decide_eq_false h1, cond_false, if_neg h1]
      by_cases h2 : a2 > v
      · rw [decide_eq_true h2, cond_true, if_pos h2]
        by_cases h3 : a3 > a2
        · rw [decide_eq_true h3, cond_true, if_pos h3]
        · rw [decide_eq_false h3, cond_false, if_neg h3]
      · rw [decide_eq_false h2, cond_false, if_neg h2]
        by_cases h3 : a3 > v
        · rw [decide_eq_true h3, cond_true, if_pos h3]
        · rw [decide_eq_false h3, cond_false, if_neg h3]
  exact key (l.getD i default)
theorem farR_end (c : PN) (l : List P3) (v : Int) : S169_L_0 c l (v, (l.length : Int)) = .inr v := by
  have h0 : decide (((l.length : Nat) : Int) < ((l.length : Nat) : Int)) = false := by simp
  simp only [S169_L_0, h0, cond_false]
theorem farR1 (c : PN) (x : P3) : F169_L c [x] = mx (mx (mx 0 (rF c.1 x)) (rF c.2.1 x)) (rF c.2.2 x) := by
  unfold F169_L
  have e0 := farR_step c [x] 0 0 (by simp)
  have e1 := farR_end c [x] (mx (mx (mx 0 (rF c.1 x)) (rF c.2.1 x)) (rF c.2.2 x))
  rw [show Int.toNat ((([x] : List P3).length : Int) - 0) + 1 = 2 from rfl, show ((0, 0) : Int × Int) = (0, ((0 : Nat) : Int)) from rfl, loopF_inl e0]
  exact loopF_inr e1
/-! boxes -/
def lo3 (a b c : Int) : Int := if c < (if b < (if a < a then a else a) then b else (if a < a then a else a)) then c else (if b < (if a < a then a else a) then b else (if a < a then a else a))
def hi3 (a b c : Int) : Int := if (if (if a < a then a else a) < b then b else (if a < a then a else a)) < c then c else (if (if a < a then a else a) < b then b else (if a < a then a else a))
theorem lo3_le (a b c : Int) : lo3 a b c ≤ a ∧ lo3 a b c ≤ b ∧ lo3 a b c ≤ c := by
  unfold lo3; simp only [Int.lt_irrefl, if_false]; split <;> split at * <;> omega
theorem le_hi3 (a b c : Int) : a ≤ hi3 a b c ∧ b ≤ hi3 a b c ∧ c ≤ hi3 a b c := by
  unfold hi3; simp only [Int.lt_irrefl, if_false]; split <;> split at * <;> omega
theorem lo3_in (a b c : Int) : lo3 a b c = a ∨ lo3 a b c = b ∨ lo3 a b c = c := by
  unfold lo3; simp only [Int.lt_irrefl, if_false]; split <;> split at * <;> omega
theorem hi3_in (a b c : Int) : hi3 a b c = a ∨ hi3 a b c = b ∨ hi3 a b c = c := by
  unfold hi3; simp only [Int.lt_irrefl, if_false]; split <;> split at * <;> omega
/-- the gap between two intervals -/
def gp (a b c d : Int) : Int := mx (mx 0 (c - b)) (a - d)
theorem gp_nn (a b c d : Int) : 0 ≤ gp a b c d := Int.le_trans (le_mx1 0 _) (le_mx1 _ _)
theorem gp_comm (a b c d : Int) : gp c d a b = gp a b c d := by unfold gp mx; repeat' split <;> omega
/-- the squared distance of two boxes -/
def nr (a b c d : P3) : Int := gp a.1 b.1 c.1 d.1 * gp a.1 b.1 c.1 d.1 + gp a.2.1 b.2.1 c.2.1 d.2.1 * gp a.2.1 b.2.1 c.2.1 d.2.1 + gp a.2.2 b.2.2 c.2.2 d.2.2 * gp a.2.2 b.2.2 c.2.2 d.2.2
def blo (c : PN) : P3 := (lo3 c.1.1 c.2.1.1 c.2.2.1, lo3 c.1.2.1 c.2.1.2.1 c.2.2.2.1, lo3 c.1.2.2 c.2.1.2.2 c.2.2.2.2)
def bhi (c : PN) : P3 := (hi3 c.1.1 c.2.1.1 c.2.2.1, hi3 c.1.2.1 c.2.1.2.1 c.2.2.2.1, hi3 c.1.2.2 c.2.1.2.2 c.2.2.2.2)
theorem blo_bd {m : Int} {c : PN} (h : bdP m c) : bd m (blo c) := by
  have h1 := lo3_in c.1.1 c.2.1.1 c.2.2.1; have h2 := lo3_in c.1.2.1 c.2.1.2.1 c.2.2.2.1; have h3 := lo3_in c.1.2.2 c.2.1.2.2 c.2.2.2.2
  have ha := h.1; have hb := h.2.1; have hc := h.2.2
  unfold bd at *; simp only [blo]; omega
theorem bhi_bd {m : Int} {c : PN} (h : bdP m c) : bd m (bhi c) := by
  have h1 := hi3_in c.1.1 c.2.1.1 c.2.2.1; have h2 := hi3_in c.1.2.1 c.2.1.2.1 c.2.2.2.1; have h3 := hi3_in c.1.2.2 c.2.1.2.2 c.2.2.2.2
  have ha := h.1; have hb := h.2.1; have hc := h.2.2
  unfold bd at *; simp only [bhi]; omega
theorem box3 (c : PN) : F161_3 c = (blo c, bhi c) := rfl
theorem box1 (x : P3) : F161_1 x = (x, x) := by
  have key : ∀ a : Int, (if a < a then a else a) = a := fun a => by split <;> rfl
  unfold F161_1
  simp only [key]
theorem gap_f {a b c d : Int} (ha : -5000 ≤ a ∧ a ≤ 5000) (hb : -5000 ≤ b ∧ b ≤ 5000) (hc : -5000 ≤ c ∧ c ≤ 5000) (hd : -5000 ≤ d ∧ d ≤ 5000) : F162 a b c d = gp a b c d := by
  unfold F162
  rw [W_eq (n := c - b) (by omega) (by omega), W_eq (n := a - d) (by omega) (by omega)]; rfl
theorem gp_bd {a b c d : Int} (ha : -5000 ≤ a ∧ a ≤ 5000) (hb : -5000 ≤ b ∧ b ≤ 5000) (hc : -5000 ≤ c ∧ c ≤ 5000) (hd : -5000 ≤ d ∧ d ≤ 5000) : 0 ≤ gp a b c d ∧ gp a b c d ≤ 10000 :=
  ⟨gp_nn _ _ _ _, mx_le (mx_le (by omega) (by omega)) (by omega)⟩
theorem nrF {a b c d : P3} (ha : bd 5000 a) (hb : bd 5000 b) (hc : bd 5000 c) (hd : bd 5000 d) :
    F63 (F162 a.1 b.1 c.1 d.1, F162 a.2.1 b.2.1 c.2.1 d.2.1, F162 a.2.2 b.2.2 c.2.2 d.2.2) (F162 a.1 b.1 c.1 d.1, F162 a.2.1 b.2.1 c.2.1 d.2.1, F162 a.2.2 b.2.2 c.2.2 d.2.2) = nr a b c d := by
  rw [gap_f ha.1 hb.1 hc.1 hd.1, gap_f ha.2.1 hb.2.1 hc.2.1 hd.2.1, gap_f ha.2.2 hb.2.2 hc.2.2 hd.2.2]
  have h1 := gp_bd ha.1 hb.1 hc.1 hd.1; have h2 := gp_bd ha.2.1 hb.2.1 hc.2.1 hd.2.1; have h3 := gp_bd ha.2.2 hb.2.2 hc.2.2 hd.2.2
  have hv : bd 1000000000 (gp a.1 b.1 c.1 d.1, gp a.2.1 b.2.1 c.2.1 d.2.1, gp a.2.2 b.2.2 c.2.2 d.2.2) := by unfold bd; simp only; omega
  rw [fdt hv hv]; rfl
theorem near31 {c : PN} {x : P3} (hc : bdP 5000 c) (hx : bd 5000 x) : F100_3_1 c x = nr (blo c) (bhi c) x x := by
  unfold F100_3_1
  rw [box3, box1]
  exact nrF (blo_bd hc) (bhi_bd hc) hx hx
/-! the reference's -/
theorem bounds3 (a b c : Int) : F192_L [a, b, c] = (lo3 a b c, hi3 a b c) := rfl
theorem bounds1 (a : Int) : F192_L [a] = (a, a) := by
  have key : ∀ a : Int, (if a < a then a else a) = a := fun a => by split <;> rfl
  show ((if a < a then a else a), (if a < a then a else a)) = _
  rw [key]
theorem gap_r {l m : List Int} {a b c d : Int} (hl : F192_L l = (a, b)) (hm : F192_L m = (c, d)) (ha : -5000 ≤ a ∧ a ≤ 5000) (hb : -5000 ≤ b ∧ b ≤ 5000) (hc : -5000 ≤ c ∧ c ≤ 5000) (hd : -5000 ≤ d ∧ d ≤ 5000) :
    F186_L_L l m = gp a b c d * gp a b c d := by
  unfold F186_L_L
  rw [hl, hm]
  simp only
  rw [W_eq (n := a - d) (by omega) (by omega), W_eq (n := c - b) (by omega) (by omega)]
  have e : (if ((if (0 : Int) < a - d then a - d else 0) : Int) < c - b then c - b else (if (0 : Int) < a - d then a - d else 0)) = gp a b c d := gp_comm a b c d
  rw [e]
  have h1 := gp_bd ha hb hc hd
  have h2 := mul_bd (a := 10000) (b := 10000) (x := gp a b c d) (y := gp a b c d) (by omega) (by omega)
  exact W_eq (by omega) (by omega)
theorem sum3 {a b c : Int} (ha : 0 ≤ a ∧ a ≤ 100000000) (hb : 0 ≤ b ∧ b ≤ 100000000) (hc : 0 ≤ c ∧ c ≤ 100000000) : W ((W (a + b)) + c) = a + b + c := by
  rw [W_eq (n := a + b) (by omega) (by omega), W_eq (by omega) (by omega)]
theorem close1 {c : PN} {x : P3} (hc : bdP 5000 c) (hx : bd 5000 x) : F167_1 c x = nr (blo c) (bhi c) x x := by
  unfold F167_1
  have hl := blo_bd hc; have hh := bhi_bd hc
  have g1 := gap_r (l := F187_3 c 0) (m := F187_1 x 0) (bounds3 c.1.1 c.2.1.1 c.2.2.1) (bounds1 x.1) hl.1 hh.1 hx.1 hx.1
  have g2 := gap_r (l := F187_3 c 1) (m := F187_1 x 1) (bounds3 c.1.2.1 c.2.1.2.1 c.2.2.2.1) (bounds1 x.2.1) hl.2.1 hh.2.1 hx.2.1 hx.2.1
  have g3 := gap_r (l := F187_3 c 2) (m := F187_1 x 2) (bounds3 c.1.2.2 c.2.1.2.2 c.2.2.2.2) (bounds1 x.2.2) hl.2.2 hh.2.2 hx.2.2 hx.2.2
  have b1 := gp_bd hl.1 hh.1 hx.1 hx.1; have b2 := gp_bd hl.2.1 hh.2.1 hx.2.1 hx.2.1; have b3 := gp_bd hl.2.2 hh.2.2 hx.2.2 hx.2.2
  have m1 := mul_bd (a := 10000) (b := 10000) (by omega) (by omega) (x := gp (blo c).1 (bhi c).1 x.1 x.1) (y := gp (blo c).1 (bhi c).1 x.1 x.1)
  have m2 := mul_bd (a := 10000) (b := 10000) (by omega) (by omega) (x := gp (blo c).2.1 (bhi c).2.1 x.2.1 x.2.1) (y := gp (blo c).2.1 (bhi c).2.1 x.2.1 x.2.1)
  have m3 := mul_bd (a := 10000) (b := 10000) (by omega) (by omega) (x := gp (blo c).2.2 (bhi c).2.2 x.2.2 x.2.2) (y := gp (blo c).2.2 (bhi c).2.2 x.2.2 x.2.2)
  refine (show _ = _ from ?_)
  rw [show F186_L_L (F187_3 c 0) (F187_1 x 0) = _ from g1, show F186_L_L (F187_3 c 1) (F187_1 x 1) = _ from g2, show F186_L_L (F187_3 c 2) (F187_1 x 2) = _ from g3]
  exact sum3 ⟨sq_nn _, by have := m1.2; exact this⟩ ⟨sq_nn _, by have := m2.2; exact this⟩ ⟨sq_nn _, by have := m3.2; exact this⟩
end Go.Proofs.YtidhogejnafhaaaGreat
