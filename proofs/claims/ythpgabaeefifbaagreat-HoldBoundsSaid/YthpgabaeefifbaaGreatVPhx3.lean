/-
  Parts of the proofs of the laws: the executor, what functions of the program compute, and that it is what the statements ask. No premise.
-/
import Derived.Test.YthpgabaeefifbaaGreatVPhx2
import Derived.Test.YthpgabaeefifbaaGreatRows
import Derived.Shelf.Abstract
namespace Go.Aw
open Go.RowKit
set_option linter.unusedVariables false
set_option linter.unusedSimpArgs false

def imn (a b : Int) : Int := if b < a then b else a
def imx (a b : Int) : Int := if a < b then b else a

theorem below0_has {x : SV} (h : below 0 x = true) (k : Nat) : ¬ x.has k := fun hk => absurd (below_has h hk) (Nat.not_lt_zero _)
def mapE {α β : Type} (kc : α → SV) (vc : β → SV) (l : List (α × β)) : List (SV × SV) := l.map fun e => (kc e.1, vc e.2)
def mfind {α β : Type} [DecidableEq α] (k : α) : List (α × β) → Option (Nat × β)
  | [] => none
  | e :: l => if e.1 = k then some (0, e.2) else match mfind k l with
    | some q => some (q.1 + 1, q.2)
    | none => none
def mget {α β : Type} [DecidableEq α] (l : List (α × β)) (k : α) (d : β) : β := match mfind k l with
  | some q => q.2
  | none => d
def mput {α β : Type} [DecidableEq α] (l : List (α × β)) (k : α) (v : β) : List (α × β) := match mfind k l with
  | some q => l.set q.1 (k, v)
  | none => l ++ [(k, v)]
def ment {α β : Type} [DecidableEq α] (l : List (α × β)) (k : α) (d : β) : List (α × β) := match mfind k l with
  | some _ => l
  | none => l ++ [(k, d)]
def mix {α β : Type} [DecidableEq α] (l : List (α × β)) (k : α) : Nat := match mfind k l with
  | some q => q.1
  | none => l.length

structure KeyOK {α : Type} (T : Nat → Option TI) (kt : Nat) (kc : α → SV) : Prop where
  hb : ∀ x, keyB T kt (kc x) = true
  he : ∀ x y, ∃ b, eqC T 100 kt (kc x).cells (kc y).cells = some b ∧ (b = true ↔ kc y = kc x)
  inj : ∀ x y, kc x = kc y → x = y
  pl : ∀ x, below 0 (kc x) = true

theorem mapE_get {α β : Type} {kc : α → SV} {vc : β → SV} {l : List (α × β)} {i : Nat} {x : SV × SV} (h : (mapE kc vc l)[i]? = some x) : ∃ e, l[i]? = some e ∧ x = (kc e.1, vc e.2) := by
  unfold mapE at h
  rw [List.getElem?_map] at h
  cases hl : l[i]? with
  | none => rw [hl] at h; cases h
  | some e => rw [hl] at h; simp at h; exact ⟨e, rfl, h.symm⟩
theorem keyEq_of {α β : Type} {kc : α → SV} {vc : β → SV} {l : List (α × β)} {T : Nat → Option TI} {kt : Nat} {k : α} (hk : KeyOK T kt kc) : KeyEq T kt (mapE kc vc l) (kc k) := fun e he => by
  obtain ⟨i, hi⟩ := List.getElem?_of_mem he
  obtain ⟨e', _, rfl⟩ := mapE_get hi
  exact ⟨hk.hb _, hk.he k e'.1⟩
theorem plainE {α β : Type} {kc : α → SV} {vc : β → SV} {l : List (α × β)} {T : Nat → Option TI} {kt : Nat} (hk : KeyOK T kt kc) (hv : ∀ v, below 0 (vc v) = true) : Plain (flatE (mapE kc vc l)) := fun j hj => by
  rw [hasl_iff] at hj
  obtain ⟨x, hx, hj⟩ := hj
  unfold flatE at hx
  obtain ⟨e, he, hx⟩ := List.mem_flatMap.1 hx
  obtain ⟨i, hi⟩ := List.getElem?_of_mem he
  obtain ⟨e', _, rfl⟩ := mapE_get hi
  simp only [List.mem_cons, List.not_mem_nil, or_false] at hx
  rcases hx with rfl | rfl
  · exact below0_has (hk.pl _) j hj
  · exact below0_has (hv _) j hj
section
variable {α β : Type} [DecidableEq α] {kc : α → SV} {vc : β → SV} {l : List (α × β)} {k : α} {T : Nat → Option TI} {kt : Nat}
theorem mfind_some : ∀ {l : List (α × β)} {q : Nat × β}, mfind k l = some q → l[q.1]? = some (k, q.2) ∧ ∀ j e, j < q.1 → l[j]? = some e → e.1 ≠ k
  | [], q, h => by simp [mfind] at h
  | e :: l, q, h => by
    simp only [mfind] at h
    split at h
    · rename_i he
      simp only [Option.some.injEq] at h
      subst h
      exact ⟨by rw [← he]; rfl, fun j e hj => absurd hj (Nat.not_lt_zero _)⟩
    · rename_i he
      split at h
      · rename_i q' hq
        simp only [Option.some.injEq] at h
        subst h
        obtain ⟨h1, h2⟩ := mfind_some hq
        refine ⟨by simpa using h1, fun j e' hj hje => ?_⟩
        cases j with
        | zero => simp at hje; rw [← hje]; exact he
        | succ j => exact h2 j e' (by omega) (by simpa using hje)
      · cases h
theorem mfind_none : ∀ {l : List (α × β)}, mfind k l = none → ∀ e ∈ l, e.1 ≠ k
  | [], _, e, he => by simp at he
  | e :: l, h, e', he => by
    simp only [mfind] at h
    split at h
    · cases h
    · rename_i hne
      split at h
      · cases h
      · rename_i hn
        rcases List.mem_cons.1 he with rfl | he
        · exact hne
        · exact mfind_none hn e' he
theorem mget_of (hk : KeyOK T kt kc) : MGet (mapE kc vc l) (kc k) ((mfind k l).map fun q => (q.1, vc q.2)) := by
  cases h : mfind k l with
  | some q =>
    obtain ⟨h1, h2⟩ := mfind_some h
    refine .inl ⟨q.1, vc q.2, by unfold mapE; rw [List.getElem?_map, h1]; rfl, fun j e hj he => ?_, rfl⟩
    obtain ⟨e', he', rfl⟩ := mapE_get he
    exact fun hc => h2 j e' hj he' (hk.inj _ _ hc)
  | none =>
    refine .inr ⟨fun e he hc => ?_, rfl⟩
    obtain ⟨i, hi⟩ := List.getElem?_of_mem he
    obtain ⟨e', he', rfl⟩ := mapE_get hi
    exact mfind_none h e' (List.mem_of_getElem? he') (hk.inj _ _ hc)
theorem mget_val (d : β) : vc (mget l k d) = (((mfind k l).map fun q => (q.1, vc q.2)).map (·.2)).getD (vc d) := by
  unfold mget
  cases mfind k l <;> rfl
theorem mfind_app : ∀ {l : List (α × β)} (d : β), mfind k l = none → mfind k (l ++ [(k, d)]) = some (l.length, d)
  | [], d, _ => by simp [mfind]
  | e :: l, d, h => by
    simp only [mfind] at h
    split at h
    · cases h
    · rename_i hne
      split at h
      · cases h
      · rename_i hn
        simp only [List.cons_append, mfind, if_neg hne, mfind_app d hn, List.length_cons]
theorem mget_ment (l : List (α × β)) (k : α) (d : β) : mget (ment l k d) k d = mget l k d := by
  unfold ment mget
  cases h : mfind k l with
  | some q => simp only [h]
  | none => simp only [mfind_app d h]
theorem mget_alt (hk : KeyOK T kt kc) (d : β) : ∃ q, MGet (mapE kc vc (ment l k d)) (kc k) q ∧ vc (mget l k d) = (q.map (·.2)).getD (vc d) := by
  rw [← mget_ment l k d]
  exact ⟨_, mget_of hk, mget_val d⟩
theorem mset_of (hk : KeyOK T kt kc) (v : β) : MSet (mapE kc vc l) (kc k) (vc v) (mapE kc vc (mput l k v)) := by
  refine ⟨_, mget_of hk, ?_⟩
  unfold mput
  cases h : mfind k l with
  | some q => simp [mapE, List.map_set]
  | none => simp [mapE]
theorem ment_of (hk : KeyOK T kt kc) (d : β) : MEnt (mapE kc vc l) (kc k) (vc d) (mapE kc vc (ment l k d)) (vc (mget l k d)) (mix l k) := by
  refine ⟨_, mget_of hk, ?_⟩
  unfold ment mget mix
  cases h : mfind k l with
  | some q => simp
  | none => simp [mapE]
theorem mst_of (v : β) (d : β) : ∃ (j : Nat) (e : SV × SV), ((mix l k : Nat) : Int) = (j : Int) ∧ (mapE kc vc (ment l k d))[j]? = some e ∧ mapE kc vc (mput l k v) = (mapE kc vc (ment l k d)).set j (e.1, vc v) := by
  unfold ment mix mput
  cases h : mfind k l with
  | some q =>
    refine ⟨q.1, (kc k, vc q.2), rfl, ?_, ?_⟩
    · unfold mapE; rw [List.getElem?_map, (mfind_some h).1]; rfl
    · simp [mapE, List.map_set]
  | none =>
    refine ⟨l.length, (kc k, vc d), rfl, ?_, ?_⟩
    · simp [mapE]
    · simp [mapE]

/-! ### Steps -/
variable {P : Program}
def St.z (id : Nat) : St P := ⟨[.stop id], [], trivial⟩
def vB (b : Bool) : SV := .v (.bool b)
def St.mG (hk : KeyOK T kt kc) (vc : β → SV) (l : List (α × β)) (k : α) (d : β) : St P :=
  ⟨[.ld [vc (mget l k d)]], [.pr (KeyEq T kt (mapE kc vc l) (kc k)), .pr (∃ q, MGet (mapE kc vc l) (kc k) q ∧ vc (mget l k d) = (q.map (·.2)).getD (vc d))], keyEq_of hk, ⟨_, mget_of hk, mget_val d⟩, trivial⟩
def St.mGa (hk : KeyOK T kt kc) (vc : β → SV) (l : List (α × β)) (k : α) (d : β) (b : Nat) : St P :=
  ⟨[.alt b (.map (mapE kc vc (ment l k d))), .ld [vc (mget l k d)]], [.pr (KeyEq T kt (mapE kc vc l) (kc k)), .pr (∃ q, MGet (mapE kc vc l) (kc k) q ∧ vc (mget l k d) = (q.map (·.2)).getD (vc d)),
    .pr (KeyEq T kt (mapE kc vc (ment l k d)) (kc k)), .pr (∃ q, MGet (mapE kc vc (ment l k d)) (kc k) q ∧ vc (mget l k d) = (q.map (·.2)).getD (vc d)), .pr (({ val := vc (mget l k d) } : Eff) = { val := vc (mget l k d) })],
    keyEq_of hk, ⟨_, mget_of hk, mget_val d⟩, keyEq_of hk, mget_alt hk d, rfl, trivial⟩
def St.mR (kc : α → SV) (vc : β → SV) (l : List (α × β)) (k : α) (d : β) : St P := ⟨[], [.pr (BK.map (mapE kc vc (ment l k d)) = BK.map (mapE kc vc (ment l k d)))], rfl, trivial⟩
def St.mP (hk : KeyOK T kt kc) (vc : β → SV) (l : List (α × β)) (k : α) (v : β) (hv : ∀ v, below 0 (vc v) = true := by exact fun _ => rfl) : St P :=
  ⟨[.mp (mapE kc vc (mput l k v))], [.pr (KeyEq T kt (mapE kc vc l) (kc k)), .pr (MSet (mapE kc vc l) (kc k) (vc v) (mapE kc vc (mput l k v))), .pr (Plain (flatE (mapE kc vc (mput l k v))))], keyEq_of hk, mset_of hk v, plainE hk hv, trivial⟩
def St.mE (hk : KeyOK T kt kc) (vc : β → SV) (l : List (α × β)) (k : α) (d : β) (hv : ∀ v, below 0 (vc v) = true := by exact fun _ => rfl) : St P :=
  ⟨[.mp (mapE kc vc (ment l k d)), .ld [vc (mget l k d), iv ((mix l k : Nat) : Int)]], [.pr (KeyEq T kt (mapE kc vc l) (kc k)), .pr (∃ j : Nat, ((mix l k : Nat) : Int) = (j : Int) ∧ MEnt (mapE kc vc l) (kc k) (vc d) (mapE kc vc (ment l k d)) (vc (mget l k d)) j), .pr (Plain (flatE (mapE kc vc (ment l k d))))], keyEq_of hk, ⟨_, rfl, ment_of hk d⟩, plainE hk hv, trivial⟩
def St.mS (hk : KeyOK T kt kc) (vc : β → SV) (l : List (α × β)) (k : α) (d v : β) (hv : ∀ v, below 0 (vc v) = true := by exact fun _ => rfl) : St P :=
  ⟨[.mp (mapE kc vc (mput l k v))], [.pr (∃ (j : Nat) (e : SV × SV), ((mix l k : Nat) : Int) = (j : Int) ∧ (mapE kc vc (ment l k d))[j]? = some e ∧ mapE kc vc (mput l k v) = (mapE kc vc (ment l k d)).set j (e.1, vc v)), .pr (Plain (flatE (mapE kc vc (mput l k v))))], mst_of v d, plainE hk hv, trivial⟩
end

/-! ### Numbers as keys -/
/-! ### Lists of lists -/
section
variable {P : Program}
theorem d_plain {α : Type} {c : α → List SV} (hc : ∀ x, (c x).all SV.plain = true) (l : List α) : Plain (flat c l) := flat_plain hc
def St.D {α : Type} {c : α → List SV} {c2 : List α → List SV} (es : Nat) (hc2 : ∀ x, c2 x = [.d (flat c x) x.length es]) (l : List (List α)) (i : Int) (h : 0 ≤ i ∧ i < (l.length : Int) := by omega) (hc : ∀ x, (c x).all SV.plain = true := by exact fun _ => rfl) : St P :=
  ⟨[.ld [.d (flat c (l.getD i.toNat default)) (l.getD i.toNat default).length es]], [.pr (((flat c2 l).drop (0 + i.toNat * 1)).take 1 = [.d (flat c (l.getD i.toNat default)) (l.getD i.toNat default).length es]), .pr (Plain (flat c (l.getD i.toNat default)))],
    by
      have h1 : ∀ x, (c2 x).length = 1 := fun x => by rw [hc2]; rfl
      have := ld_at h1 l i 0 1 h (by decide)
      rw [Nat.add_zero] at this
      show _ = _
      rw [this, hc2]; rfl, d_plain hc _, trivial⟩
theorem rep_flat {α : Type} {c : α → List SV} {z : α} (n : Nat) : flat c (List.replicate n z) = (List.replicate n (c z)).flatten := by
  unfold flat
  rw [List.flatMap_def, List.map_replicate]
def St.Z {α : Type} (c : α → List SV) (z : α) (zs : List SV) (n : Int) (bytes : Nat) (h : 0 ≤ n ∧ n.toNat * bytes ≤ 2 ^ 47 ∧ n ≤ 2 ^ 47 := by omega) (e : c z = zs := by rfl) : St P :=
  ⟨[.ld (flat c (List.replicate n.toNat z))], [.pr (0 ≤ n ∧ n.toNat * bytes ≤ 2 ^ 47 ∧ n ≤ 2 ^ 47), .pr (n = n), .pr (flat c (List.replicate n.toNat z) = (List.replicate n.toNat zs).flatten)], h, rfl, by rw [← e]; exact rep_flat _, trivial⟩
theorem flat_drop {α : Type} {c : α → List SV} {es : Nat} (hc : ∀ x, (c x).length = es) : ∀ (l : List α) (n : Nat), (flat c l).drop (n * es) = flat c (l.drop n)
  | [], n => by simp [flat]
  | x :: l, 0 => by simp
  | x :: l, n + 1 => by
    rw [flat_cons, Nat.add_mul, Nat.one_mul, Nat.add_comm, ← List.drop_drop, List.drop_left' (hc x), flat_drop hc l n]; simp
theorem flat_take {α : Type} {c : α → List SV} {es : Nat} (hc : ∀ x, (c x).length = es) : ∀ (l : List α) (n : Nat), (flat c l).take (n * es) = flat c (l.take n)
  | [], n => by simp [flat]
  | x :: l, 0 => by simp [flat]
  | x :: l, n + 1 => by
    rw [flat_cons, Nat.add_mul, Nat.one_mul, Nat.add_comm, ← hc x, List.take_length_add_append, hc x, flat_take hc l n]; simp [flat_cons]
def part {α : Type} (l : List α) (a b : Int) : List α := (l.drop a.toNat).take (b.toNat - a.toNat)
def St.S {α : Type} {c : α → List SV} {es : Nat} (hc : ∀ x, (c x).length = es) (l : List α) (a b : Int) (n : Nat) (h : 0 ≤ a ∧ a ≤ b ∧ b ≤ (n : Int) := by omega) : St P :=
  ⟨[.ld (flat c (part l a b))], [.pr (0 ≤ a ∧ a ≤ b ∧ b ≤ (n : Int)), .pr (flat c (part l a b) = ((flat c l).drop (0 + a.toNat * es)).take ((b.toNat - a.toNat) * es))], h, by rw [Nat.zero_add, flat_drop hc, flat_take hc]; rfl, trivial⟩
end
end Go.Aw

namespace Go.Proofs.YthpgabaeefifbaaGreat
open Go.Proofs Go.Aw Go.RowKit
set_option maxRecDepth 100000
set_option linter.unusedVariables false
set_option linter.unusedSimpArgs false

noncomputable def T0 := conv Tryz.prog
theorem hT : TOk Tryz.prog T0 := fun _ _ h => h
theorem hm : Tryz.prog.follows .mixedOrders = true := by kernel_rfl
def W (n : Int) : Int := IntKind.wrap .i64 n
theorem W_def (n : Int) : W n = if n % 18446744073709551616 ≥ 9223372036854775808 then n % 18446744073709551616 - 18446744073709551616 else n % 18446744073709551616 := by
  unfold W IntKind.wrap
  simp [IntKind.bits, IntKind.signed]
theorem W_eq {n : Int} (h1 : -9223372036854775808 ≤ n) (h2 : n < 9223372036854775808) : W n = n := by
  rw [W_def]; split <;> omega
theorem shr_eq (x : Int) (k : Nat) {m : Nat} (hm : (2 : Int) ^ (min (Int.toNat k) 64) = m) : Int.fdiv x (2 ^ (min (Int.toNat k) 64)) = x / m := by
  rw [hm]; exact Int.fdiv_eq_ediv_of_nonneg _ (by omega)
theorem mid1_eq {a b : Int} (h : 0 ≤ a ∧ a ≤ b ∧ b ≤ 2147483648) : W (Int.tdiv (W ((W (a + b)) + 1)) 2) = (a + b + 1) / 2 := by
  rw [W_eq (n := a + b) (by omega) (by omega), W_eq (n := a + b + 1) (by omega) (by omega), Int.tdiv_eq_ediv_of_nonneg (by omega), W_eq (by omega) (by omega)]
theorem mid0_eq {a b : Int} (h : 0 ≤ a ∧ a ≤ b ∧ b ≤ 2147483648) : W (Int.tdiv (W (a + b)) 2) = (a + b) / 2 := by
  rw [W_eq (n := a + b) (by omega) (by omega), Int.tdiv_eq_ediv_of_nonneg (by omega), W_eq (by omega) (by omega)]
theorem mid2_eq {a b : Int} (h : 0 ≤ a ∧ a ≤ b ∧ b ≤ 2147483648) : W ((W (Int.tdiv (W ((W (a + b)) + 1)) 2)) - 1) = (a + b + 1) / 2 - 1 := by
  rw [mid1_eq h, W_eq (by omega) (by omega)]
theorem mid3_eq {a b : Int} (h : 0 ≤ a ∧ a ≤ b ∧ b ≤ 2147483648) : W ((W (Int.tdiv (W (a + b)) 2)) + 1) = (a + b) / 2 + 1 := by
  rw [mid0_eq h, W_eq (by omega) (by omega)]
theorem u64_nn (n : Int) : 0 ≤ IntKind.wrap .u64 n := by
  simp only [IntKind.wrap, IntKind.bits, IntKind.signed]
  simp
  omega
def k9 (x : (Int × Int × Int) × (Int × Int × Int) × Int × Int × Int) : List SV := [(iv x.1.1), (iv x.1.2.1), (iv x.1.2.2), (iv x.2.1.1), (iv x.2.1.2.1), (iv x.2.1.2.2), (iv x.2.2.1), (iv x.2.2.2.1), (iv x.2.2.2.2)]
def k3 (x : Int × Int × Int) : List SV := [(iv x.1), (iv x.2.1), (iv x.2.2)]
def k2 (x : Int × Int) : List SV := [(iv x.1), (iv x.2)]
section
variable {cx : Cx} {k : List K} {s : LS} {base : Nat} {Q : Exit → Act → World → Prop}
theorem rt {fn : Func} (sts : List (St Tryz.prog)) (ads : List Adj) (ks : List Nat) (hb : cx.base = base) {res : SV} {nb : List BK}
    (h : retOf T0 fn.results.toList base [] ks (adjO ads (run T0 5000 k s (stO sts))) = some (res, nb, [], stB sts)) : Aw.Good Tryz.prog none 9 (bodyPost Tryz.prog fn (RR cx res nb [])) cx [] k s := ret_s hT hm sts ads ks hb h
theorem en (sts : List (St Tryz.prog)) (ads : List Adj) (ts ks : List Nat) (hb : cx.base = base) (body : Code) (k' : List K) (s' : LS) (m : Nat)
    (h : enterOf base ts ks (adjO ads (run T0 5000 k s (stO sts))) = some (body, k', s', stB sts)) (hg : Aw.Good Tryz.prog none 9 Q cx [] (.l body m :: k') s') : Aw.Good Tryz.prog none 9 Q cx [] k s := enter_s hT hm sts ads ts ks hb body k' s' m h hg
theorem ba {m : Nat} (sts : List (St Tryz.prog)) (ads : List Adj) (ts ks : List Nat) (hb : cx.base = base) (body : Code) (k' : List K) (s' : LS)
    (h : backOf base ts ks (adjO ads (run T0 5000 k s (stO sts))) = some (body, m, k', s', stB sts)) (hg : Aw.Good Tryz.prog none 9 Q cx [] (.l body m :: k') s') : Aw.Good Tryz.prog none 9 Q cx [] k s := back_s hT hm sts ads ts ks hb body k' s' h hg
theorem ga (sts : List (St Tryz.prog)) (ads : List Adj) (ts ks : List Nat) (hb : cx.base = base) (x : Code) (k' : List K) (s' : LS)
    (h : atOf base ts ks (adjO ads (run T0 5000 k s (stO sts))) = some (x, k', s', stB sts)) (hg : Aw.Good Tryz.prog none 9 Q cx [] (.c x :: k') s') : Aw.Good Tryz.prog none 9 Q cx [] k s := at_s hT hm sts ads ts ks hb x k' s' h hg
end

def F89 (a0 : Int × Int × Int) (a1 : Int) : Int × Int × Int :=
  ((W (a1 * a0.1)), (W (a1 * a0.2.1)), (W (a1 * a0.2.2)))

theorem C89 (a0 : Int × Int × Int) (a1 : Int) : Con Tryz.prog 89 [(.a (k3 a0)), (iv a1)] [] (.a (k3 (F89 a0 a1))) [] := by
  refine con_s Tryz.func89 (by kernel_rfl) fun cx hcx => ?_
  have e := Eq.refl (F89 a0 a1); conv at e => rhs; simp only [F89]
  rw [e]
  exact rt [] [] [] hcx (by kernel_rfl)

def F138 (a0 : Int × Int × Int) (a1 : Int × Int × Int) : Int × Int × Int :=
  ((W (a0.1 + a1.1)), (W (a0.2.1 + a1.2.1)), (W (a0.2.2 + a1.2.2)))

theorem C138 (a0 : Int × Int × Int) (a1 : Int × Int × Int) : Con Tryz.prog 138 [(.a (k3 a0)), (.a (k3 a1))] [] (.a (k3 (F138 a0 a1))) [] := by
  refine con_s Tryz.func138 (by kernel_rfl) fun cx hcx => ?_
  have e := Eq.refl (F138 a0 a1); conv at e => rhs; simp only [F138]
  rw [e]
  exact rt [] [] [] hcx (by kernel_rfl)

def cP (x : (Int × Int × Int) × (Int × Int × Int) × Int × Int × Int) : List SV := [iv x.1.1, iv x.1.2.1, iv x.1.2.2, iv x.2.1.1, iv x.2.1.2.1, iv x.2.1.2.2, iv x.2.2.1, iv x.2.2.2.1, iv x.2.2.2.2]
def encP (x : (Int × Int × Int) × (Int × Int × Int) × Int × Int × Int) : Value := .agg #[.int .i64 x.1.1, .int .i64 x.1.2.1, .int .i64 x.1.2.2, .int .i64 x.2.1.1, .int .i64 x.2.1.2.1, .int .i64 x.2.1.2.2, .int .i64 x.2.2.1, .int .i64 x.2.2.2.1, .int .i64 x.2.2.2.2]
theorem encP_rel (ρ : Env) (x : (Int × Int × Int) × (Int × Int × Int) × Int × Int × Int) : Rel ρ (.a (cP x)) (encP x) := by
  simp only [Rel]; exact ⟨_, rfl, by simp [cP, Rels, Rel, iv]⟩
theorem cP_has (x : (Int × Int × Int) × (Int × Int × Int) × Int × Int × Int) (k : Nat) : ¬ (SV.a (cP x)).has k := by
  simp [cP, SV.has, SV.hasl, iv]
def yv (l : Nat) : Value := .func (.yield l) #[] #[]
def q1 (p : (Int × Int × Int) × (Int × Int × Int) × Int × Int × Int) : (Int × Int × Int) × (Int × Int × Int) × Int × Int × Int := (F89 p.1 2, F138 p.1 p.2.1, F138 p.2.2 p.1)
def q2 (p : (Int × Int × Int) × (Int × Int × Int) × Int × Int × Int) : (Int × Int × Int) × (Int × Int × Int) × Int × Int × Int := (F138 p.1 p.2.1, F89 p.2.1 2, F138 p.2.1 p.2.2)
def q3 (p : (Int × Int × Int) × (Int × Int × Int) × Int × Int × Int) : (Int × Int × Int) × (Int × Int × Int) × Int × Int × Int := (F138 p.2.2 p.1, F138 p.2.1 p.2.2, F89 p.2.2 2)
def q4 (p : (Int × Int × Int) × (Int × Int × Int) × Int × Int × Int) : (Int × Int × Int) × (Int × Int × Int) × Int × Int × Int := (F138 p.1 p.2.1, F138 p.2.1 p.2.2, F138 p.2.2 p.1)
def cutL : Nat → (Int × Int × Int) × (Int × Int × Int) × Int × Int × Int → List ((Int × Int × Int) × (Int × Int × Int) × Int × Int × Int)
  | 0, p => [p]
  | d + 1, p => cutL d (q1 p) ++ (cutL d (q2 p) ++ (cutL d (q3 p) ++ cutL d (q4 p)))
theorem cutL_length : ∀ (d : Nat) (p : (Int × Int × Int) × (Int × Int × Int) × Int × Int × Int), (cutL d p).length = 4 ^ d
  | 0, p => rfl
  | d + 1, p => by simp only [cutL, List.length_append, cutL_length d, Nat.pow_succ]; omega

def VisitAt (l : Nat) (J : Nat → (Nat → Prop) → World → Prop) (Jx : (Nat → Prop) → World → Prop) (xs : List ((Int × Int × Int) × (Int × Int × Int) × Int × Int × Int)) (d : Nat) : Prop :=
  ∀ (p : (Int × Int × Int) × (Int × Int × Int) × Int × Int × Int) (i : Nat) (S : Nat → Prop) (W : World) (ρ : Env) (vs : List Value), Rels ρ [.a (cP p), iv d, .p 0 0, .p 1 0] vs →
    BRep ρ (fun b => W.heap.size ≤ b) W 0 (.live false false [.v (yv l)]) → BRep ρ (fun b => W.heap.size ≤ b) W 1 (.live false false [.f 137 [.p 0 0, .p 1 0]]) →
    (∀ k, k < 2 → ∀ b o n, ρ k = some (b, o, n) → ¬ S b) → J i S W → (∀ j x, (cutL d p)[j]? = some x → xs[i + j]? = some x) →
    Calls Tryz.prog 137 vs.toArray W (VR J Jx (i + (cutL d p).length) S W)

noncomputable def OY : Array Oper := match (codeAtD [1, 0, 1, 0, 0] [] (Tryz.f137.body.getD .skip)).1 with
  | .region _ ops _ => ops
  | _ => #[]
noncomputable def KY : List K := (codeAtD [1, 0, 1, 0, 0] [] (Tryz.f137.body.getD .skip)).2
noncomputable def OV : Array Oper := match (codeAtD [1, 1, 1, 1, 0, 1, 0, 0, 1, 1, 0, 0, 1, 0] [0] (Tryz.f137.body.getD .skip)).1 with
  | .region _ ops _ => ops
  | _ => #[]
noncomputable def KV (m : Nat) : List K := (codeAtD [1, 1, 1, 1, 0, 1, 0, 0, 1, 1, 0, 0, 1, 0] [m] (Tryz.f137.body.getD .skip)).2
noncomputable def oY : Oper := OY.toList.getD 2 default
noncomputable def oV : Oper := OV.toList.getD 4 default
noncomputable def callTs (o : Oper) : Array TypeId := match o.op with
  | .call c => c.argTypes
  | _ => #[]
theorem oY_op : oY.op = .call { callee := .value (.tmp 17), args := #[.tmp 18], argTypes := callTs oY } := by kernel_rfl
theorem oV_op : oV.op = .call { callee := .value (.tmp 66), args := #[.tmp 67, .tmp 69], argTypes := callTs oV } := by kernel_rfl
theorem oY_split : OY.toList = OY.toList.take 2 ++ oY :: OY.toList.drop 3 := by kernel_rfl
theorem oV_split : OV.toList = OV.toList.take 4 ++ oV :: OV.toList.drop 5 := by kernel_rfl
theorem ent137 : Enters Tryz.prog 137 := ent Tryz.func137 (by kernel_rfl) rfl
theorem ent136 : Enters Tryz.prog 136 := ent Tryz.func136 (by kernel_rfl) rfl

def zY (l : Nat) (p : (Int × Int × Int) × (Int × Int × Int) × Int × Int × Int) : LS := ⟨[.u, .u, .p 0 0, .u, .p 2 0, .u, .u, .u, .u, .u, .u, .u, .u, .u, .u, .u, .u, .u, .u, .u, .u, .u, .u, .u, .u, .u, .u, .u, .u, .u, .u, .u, .u, .u, .u, .u, .u, .u, .u, .u, .u, .u, .u, .u, .u, .u, .u, .u, .u, .u, .u, .u, .u, .u, .u, .u, .u, .u, .u, .u, .u, .u, .u, .u, .u, .u, .u, .u, .u, .u, .u, .u, .u], [.live false false [.v (yv l)], .live false false [.f 137 [.p 0 0, .p 1 0]], .live true false (cP p)]⟩
def zY1 (l : Nat) (p : (Int × Int × Int) × (Int × Int × Int) × Int × Int × Int) : LS := ⟨[.u, .u, .p 0 0, .u, .p 2 0, .u, .u, .u, .u, .u, .u, .u, .u, .u, .u, .u, .u, .v (yv l), .a (cP p), .u, .u, .u, .u, .u, .u, .u, .u, .u, .u, .u, .u, .u, .u, .u, .u, .u, .u, .u, .u, .u, .u, .u, .u, .u, .u, .u, .u, .u, .u, .u, .u, .u, .u, .u, .u, .u, .u, .u, .u, .u, .u, .u, .u, .u, .u, .u, .u, .u, .u, .u, .u, .u, .u], [.live false false [.v (yv l)], .live false false [.f 137 [.p 0 0, .p 1 0]], .live true false (cP p)]⟩
def zY3 (l : Nat) (p : (Int × Int × Int) × (Int × Int × Int) × Int × Int × Int) (b : Bool) : LS := ⟨[.u, .u, .p 0 0, .u, .p 2 0, .u, .v (.bool b), .u, .u, .u, .u, .u, .u, .u, .u, .u, .u, .v (yv l), .a (cP p), .v (.bool b), .u, .u, .u, .u, .u, .u, .u, .u, .u, .u, .u, .u, .u, .u, .u, .u, .u, .u, .u, .u, .u, .u, .u, .u, .u, .u, .u, .u, .u, .u, .u, .u, .u, .u, .u, .u, .u, .u, .u, .u, .u, .u, .u, .u, .u, .u, .u, .u, .u, .u, .u, .u, .u], [.live false false [.v (yv l)], .live false false [.f 137 [.p 0 0, .p 1 0]], .live false false (cP p)]⟩

def zV1 (l : Nat) (p : (Int × Int × Int) × (Int × Int × Int) × Int × Int × Int) (d : Int) : LS := ⟨[.u, iv d, .u, .p 1 0, .u, .u, .u, .u, .u, .u, .u, .u, .u, .u, .p 3 0, .u, .u, .u, .u, .u, .u, .u, .u, .u, .u, .u, .u, .u, .u, .u, .u, .u, .u, .u, .u, .u, .u, .u, .u, .u, .u, .u, .u, .u, .u, .u, .u, .u, .u, .u, .u, .u, .u, .u, .u, .u, .u, .u, .u, .u, .s 2 0 4 9, iv 4, iv 0, .u, .u, .u, .u, .u, .u, .u, .u, .u, .u], [.live false false [.v (yv l)], .live false false [.f 137 [.p 0 0, .p 1 0]], .live true false (cP (q1 p) ++ (cP (q2 p) ++ (cP (q3 p) ++ cP (q4 p)))), .live true false (cP (q1 p))]⟩
def zV11 (l : Nat) (p : (Int × Int × Int) × (Int × Int × Int) × Int × Int × Int) (d : Int) : LS := ⟨[.u, iv d, .u, .p 1 0, .u, .u, .u, .u, .u, .u, .u, .u, .u, .u, .p 3 0, .u, .u, .u, .u, .u, .u, .u, .u, .u, .u, .u, .u, .u, .u, .u, .u, .u, .u, .u, .u, .u, .u, .u, .u, .u, .u, .u, .u, .u, .u, .u, .u, .u, .u, .u, .u, .u, .u, .u, .u, .u, .u, .u, .u, .u, .s 2 0 4 9, iv 4, iv 0, .u, .u, .u, .f 137 [.p 0 0, .p 1 0], .a (cP (q1 p)), iv d, iv (W (d - 1)), .u, .u, .u], [.live false false [.v (yv l)], .live false false [.f 137 [.p 0 0, .p 1 0]], .live true false (cP (q1 p) ++ (cP (q2 p) ++ (cP (q3 p) ++ cP (q4 p)))), .live true false (cP (q1 p))]⟩
def zV13 (l : Nat) (p : (Int × Int × Int) × (Int × Int × Int) × Int × Int × Int) (d : Int) (b : Bool) : LS := ⟨[.u, iv d, .u, .p 1 0, .u, .u, .u, .u, .u, .u, .u, .u, .u, .u, .p 3 0, .u, .u, .u, .u, .u, .u, .u, .u, .u, .u, .u, .u, .u, .u, .u, .u, .u, .u, .u, .u, .u, .u, .u, .u, .u, .u, .u, .u, .u, .u, .u, .u, .u, .u, .u, .u, .u, .u, .u, .u, .u, .u, .u, .u, .u, .s 2 0 4 9, iv 4, iv 0, .u, .u, .u, .f 137 [.p 0 0, .p 1 0], .a (cP (q1 p)), iv d, iv (W (d - 1)), .v (.bool b), .v (.bool (!b)), .u], [.live false false [.v (yv l)], .live false false [.f 137 [.p 0 0, .p 1 0]], .live false false (cP (q1 p) ++ (cP (q2 p) ++ (cP (q3 p) ++ cP (q4 p)))), .live false false (cP (q1 p))]⟩

def zV2 (l : Nat) (p : (Int × Int × Int) × (Int × Int × Int) × Int × Int × Int) (d : Int) : LS := ⟨[.u, iv d, .u, .p 1 0, .u, .u, .u, .u, .u, .u, .u, .u, .u, .u, .p 4 0, .u, .u, .u, .u, .u, .u, .u, .u, .u, .u, .u, .u, .u, .u, .u, .u, .u, .u, .u, .u, .u, .u, .u, .u, .u, .u, .u, .u, .u, .u, .u, .u, .u, .u, .u, .u, .u, .u, .u, .u, .u, .u, .u, .u, .u, .s 2 0 4 9, iv 4, iv 1, .u, .u, .u, .u, .u, .u, .u, .u, .u, .u], [.live false false [.v (yv l)], .live false false [.f 137 [.p 0 0, .p 1 0]], .live false false (cP (q1 p) ++ (cP (q2 p) ++ (cP (q3 p) ++ cP (q4 p)))), .live false false (cP (q1 p)), .live true false (cP (q2 p))]⟩
def zV21 (l : Nat) (p : (Int × Int × Int) × (Int × Int × Int) × Int × Int × Int) (d : Int) : LS := ⟨[.u, iv d, .u, .p 1 0, .u, .u, .u, .u, .u, .u, .u, .u, .u, .u, .p 4 0, .u, .u, .u, .u, .u, .u, .u, .u, .u, .u, .u, .u, .u, .u, .u, .u, .u, .u, .u, .u, .u, .u, .u, .u, .u, .u, .u, .u, .u, .u, .u, .u, .u, .u, .u, .u, .u, .u, .u, .u, .u, .u, .u, .u, .u, .s 2 0 4 9, iv 4, iv 1, .u, .u, .u, .f 137 [.p 0 0, .p 1 0], .a (cP (q2 p)), iv d, iv (W (d - 1)), .u, .u, .u], [.live false false [.v (yv l)], .live false false [.f 137 [.p 0 0, .p 1 0]], .live false false (cP (q1 p) ++ (cP (q2 p) ++ (cP (q3 p) ++ cP (q4 p)))), .live false false (cP (q1 p)), .live true false (cP (q2 p))]⟩
def zV23 (l : Nat) (p : (Int × Int × Int) × (Int × Int × Int) × Int × Int × Int) (d : Int) (b : Bool) : LS := ⟨[.u, iv d, .u, .p 1 0, .u, .u, .u, .u, .u, .u, .u, .u, .u, .u, .p 4 0, .u, .u, .u, .u, .u, .u, .u, .u, .u, .u, .u, .u, .u, .u, .u, .u, .u, .u, .u, .u, .u, .u, .u, .u, .u, .u, .u, .u, .u, .u, .u, .u, .u, .u, .u, .u, .u, .u, .u, .u, .u, .u, .u, .u, .u, .s 2 0 4 9, iv 4, iv 1, .u, .u, .u, .f 137 [.p 0 0, .p 1 0], .a (cP (q2 p)), iv d, iv (W (d - 1)), .v (.bool b), .v (.bool (!b)), .u], [.live false false [.v (yv l)], .live false false [.f 137 [.p 0 0, .p 1 0]], .live false false (cP (q1 p) ++ (cP (q2 p) ++ (cP (q3 p) ++ cP (q4 p)))), .live false false (cP (q1 p)), .live false false (cP (q2 p))]⟩

def zV3 (l : Nat) (p : (Int × Int × Int) × (Int × Int × Int) × Int × Int × Int) (d : Int) : LS := ⟨[.u, iv d, .u, .p 1 0, .u, .u, .u, .u, .u, .u, .u, .u, .u, .u, .p 5 0, .u, .u, .u, .u, .u, .u, .u, .u, .u, .u, .u, .u, .u, .u, .u, .u, .u, .u, .u, .u, .u, .u, .u, .u, .u, .u, .u, .u, .u, .u, .u, .u, .u, .u, .u, .u, .u, .u, .u, .u, .u, .u, .u, .u, .u, .s 2 0 4 9, iv 4, iv 2, .u, .u, .u, .u, .u, .u, .u, .u, .u, .u], [.live false false [.v (yv l)], .live false false [.f 137 [.p 0 0, .p 1 0]], .live false false (cP (q1 p) ++ (cP (q2 p) ++ (cP (q3 p) ++ cP (q4 p)))), .live false false (cP (q1 p)), .live false false (cP (q2 p)), .live true false (cP (q3 p))]⟩
def zV31 (l : Nat) (p : (Int × Int × Int) × (Int × Int × Int) × Int × Int × Int) (d : Int) : LS := ⟨[.u, iv d, .u, .p 1 0, .u, .u, .u, .u, .u, .u, .u, .u, .u, .u, .p 5 0, .u, .u, .u, .u, .u, .u, .u, .u, .u, .u, .u, .u, .u, .u, .u, .u, .u, .u, .u, .u, .u, .u, .u, .u, .u, .u, .u, .u, .u, .u, .u, .u, .u, .u, .u, .u, .u, .u, .u, .u, .u, .u, .u, .u, .u, .s 2 0 4 9, iv 4, iv 2, .u, .u, .u, .f 137 [.p 0 0, .p 1 0], .a (cP (q3 p)), iv d, iv (W (d - 1)), .u, .u, .u], [.live false false [.v (yv l)], .live false false [.f 137 [.p 0 0, .p 1 0]], .live false false (cP (q1 p) ++ (cP (q2 p) ++ (cP (q3 p) ++ cP (q4 p)))), .live false false (cP (q1 p)), .live false false (cP (q2 p)), .live true false (cP (q3 p))]⟩
def zV33 (l : Nat) (p : (Int × Int × Int) × (Int × Int × Int) × Int × Int × Int) (d : Int) (b : Bool) : LS := ⟨[.u, iv d, .u, .p 1 0, .u, .u, .u, .u, .u, .u, .u, .u, .u, .u, .p 5 0, .u, .u, .u, .u, .u, .u, .u, .u, .u, .u, .u, .u, .u, .u, .u, .u, .u, .u, .u, .u, .u, .u, .u, .u, .u, .u, .u, .u, .u, .u, .u, .u, .u, .u, .u, .u, .u, .u, .u, .u, .u, .u, .u, .u, .u, .s 2 0 4 9, iv 4, iv 2, .u, .u, .u, .f 137 [.p 0 0, .p 1 0], .a (cP (q3 p)), iv d, iv (W (d - 1)), .v (.bool b), .v (.bool (!b)), .u], [.live false false [.v (yv l)], .live false false [.f 137 [.p 0 0, .p 1 0]], .live false false (cP (q1 p) ++ (cP (q2 p) ++ (cP (q3 p) ++ cP (q4 p)))), .live false false (cP (q1 p)), .live false false (cP (q2 p)), .live false false (cP (q3 p))]⟩

def zV4 (l : Nat) (p : (Int × Int × Int) × (Int × Int × Int) × Int × Int × Int) (d : Int) : LS := ⟨[.u, iv d, .u, .p 1 0, .u, .u, .u, .u, .u, .u, .u, .u, .u, .u, .p 6 0, .u, .u, .u, .u, .u, .u, .u, .u, .u, .u, .u, .u, .u, .u, .u, .u, .u, .u, .u, .u, .u, .u, .u, .u, .u, .u, .u, .u, .u, .u, .u, .u, .u, .u, .u, .u, .u, .u, .u, .u, .u, .u, .u, .u, .u, .s 2 0 4 9, iv 4, iv 3, .u, .u, .u, .u, .u, .u, .u, .u, .u, .u], [.live false false [.v (yv l)], .live false false [.f 137 [.p 0 0, .p 1 0]], .live false false (cP (q1 p) ++ (cP (q2 p) ++ (cP (q3 p) ++ cP (q4 p)))), .live false false (cP (q1 p)), .live false false (cP (q2 p)), .live false false (cP (q3 p)), .live true false (cP (q4 p))]⟩
def zV41 (l : Nat) (p : (Int × Int × Int) × (Int × Int × Int) × Int × Int × Int) (d : Int) : LS := ⟨[.u, iv d, .u, .p 1 0, .u, .u, .u, .u, .u, .u, .u, .u, .u, .u, .p 6 0, .u, .u, .u, .u, .u, .u, .u, .u, .u, .u, .u, .u, .u, .u, .u, .u, .u, .u, .u, .u, .u, .u, .u, .u, .u, .u, .u, .u, .u, .u, .u, .u, .u, .u, .u, .u, .u, .u, .u, .u, .u, .u, .u, .u, .u, .s 2 0 4 9, iv 4, iv 3, .u, .u, .u, .f 137 [.p 0 0, .p 1 0], .a (cP (q4 p)), iv d, iv (W (d - 1)), .u, .u, .u], [.live false false [.v (yv l)], .live false false [.f 137 [.p 0 0, .p 1 0]], .live false false (cP (q1 p) ++ (cP (q2 p) ++ (cP (q3 p) ++ cP (q4 p)))), .live false false (cP (q1 p)), .live false false (cP (q2 p)), .live false false (cP (q3 p)), .live true false (cP (q4 p))]⟩
def zV43 (l : Nat) (p : (Int × Int × Int) × (Int × Int × Int) × Int × Int × Int) (d : Int) (b : Bool) : LS := ⟨[.u, iv d, .u, .p 1 0, .u, .u, .u, .u, .u, .u, .u, .u, .u, .u, .p 6 0, .u, .u, .u, .u, .u, .u, .u, .u, .u, .u, .u, .u, .u, .u, .u, .u, .u, .u, .u, .u, .u, .u, .u, .u, .u, .u, .u, .u, .u, .u, .u, .u, .u, .u, .u, .u, .u, .u, .u, .u, .u, .u, .u, .u, .u, .s 2 0 4 9, iv 4, iv 3, .u, .u, .u, .f 137 [.p 0 0, .p 1 0], .a (cP (q4 p)), iv d, iv (W (d - 1)), .v (.bool b), .v (.bool (!b)), .u], [.live false false [.v (yv l)], .live false false [.f 137 [.p 0 0, .p 1 0]], .live false false (cP (q1 p) ++ (cP (q2 p) ++ (cP (q3 p) ++ cP (q4 p)))), .live false false (cP (q1 p)), .live false false (cP (q2 p)), .live false false (cP (q3 p)), .live false false (cP (q4 p))]⟩

def vb : SV → Bool
  | .v _ | .b _ => true
  | _ => false
theorem rels_plain {ρ ρ' : Env} : ∀ {l : List SV} {vs us : List Value}, l.all vb = true → Rels ρ l vs → Rels ρ' l us → vs = us
  | [], [], [], _, _, _ => rfl
  | [], _ :: _, _, _, h, _ => by simp [Rels] at h
  | [], [], _ :: _, _, _, h => by simp [Rels] at h
  | _ :: _, [], _, _, h, _ => by simp [Rels] at h
  | _ :: _, _ :: _, [], _, _, h => by simp [Rels] at h
  | x :: l, y :: vs, z :: us, hp, h1, h2 => by
    simp only [List.all_cons, Bool.and_eq_true] at hp
    simp only [Rels] at h1 h2
    rw [rels_plain hp.2 h1.2 h2.2]
    have : y = z := by
      cases x <;> simp only [vb, Bool.false_eq_true, false_and] at hp
      · have a1 := h1.1; have a2 := h2.1; simp only [Rel] at a1 a2; rw [a1, a2]
      · have a1 := h1.1; have a2 := h2.1; simp only [Rel] at a1 a2; rw [a1, a2]
    rw [this]
theorem rels_cons {ρ : Env} {x : SV} {l : List SV} {y : Value} {m : List Value} (h : Rel ρ x y) (h' : Rels ρ l m) : Rels ρ (x :: l) (y :: m) := by simp only [Rels]; exact ⟨h, h'⟩
theorem sub_app {α : Type} {xs A B : List α} {i : Nat} (h : ∀ j x, (A ++ B)[j]? = some x → xs[i + j]? = some x) : (∀ j x, A[j]? = some x → xs[i + j]? = some x) ∧ (∀ j x, B[j]? = some x → xs[i + A.length + j]? = some x) :=
  ⟨fun j x hj => h j x (by rw [List.getElem?_append_left (List.getElem?_eq_some_iff.1 hj).1]; exact hj), fun j x hj => by
    have := h (A.length + j) x (by rw [List.getElem?_append_right (by omega), Nat.add_sub_cancel_left]; exact hj)
    rwa [← Nat.add_assoc] at this⟩

section
variable {l : Nat} {J : Nat → (Nat → Prop) → World → Prop} {Jx : (Nat → Prop) → World → Prop} {xs : List ((Int × Int × Int) × (Int × Int × Int) × Int × Int × Int)}

theorem visit_end (hJ : GrowsJ J) (hX : GrowsX Jx) {m m' : Nat} {W0 : World} {S : Nat → Prop} {cx : Cx} {b : Bool} (h1 : b = true → ∃ Sc, Seg J W0 S m' cx Sc) (h2 : b = false → SegX Jx W0 S cx) (hm : m' = m) (Wd : World) (hb : Below cx.w.heap.size cx.w Wd) (hd : cx.w.drawn ≤ Wd.drawn) :
    VR J Jx m S W0 (.returned (.bool b)) Wd := by
  subst hm
  cases b with
  | true =>
    obtain ⟨Sc, h⟩ := h1 rfl
    exact .inl ⟨rfl, Sc, hJ _ _ _ _ h.j hb hd, h.kept.grow hb hd, h.sub⟩
  | false =>
    have h := h2 rfl
    obtain ⟨Sc, hj⟩ := h.j
    exact .inr ⟨rfl, Sc, hX _ _ _ hj hb hd, h.kept.grow hb hd⟩

theorem visit0 (hJ : GrowsJ J) (hX : GrowsX Jx) (hB : BoundJ J) (hY : ∀ i x S W1, xs[i]? = some x → J i S W1 → YieldAt (Fw none) 9 Tryz.prog l #[encP x] W1 (YR J Jx i S W1)) : VisitAt l J Jx xs 0 := by
  intro p i S Wd ρ vs hargs hb0 hb1 hS hj hxs
  have hx : xs[i]? = some p := by have := hxs 0 p rfl; simpa using this
  refine calls_of_good (n := 9) (bs := [.live false false [.v (yv l)], .live false false [.f 137 [.p 0 0, .p 1 0]]]) Tryz.func137 rfl (by show 4 ≤ Tryz.f137.ntmps; decide) (by kernel_rfl) ⟨rfl, rfl, trivial⟩ (by kernel_rfl) (fun i => by rcases i with _ | _ | i <;> simp [BK.own]) (by kernel_rfl) hargs (fun i => by rcases i with _ | _ | i <;> first | exact hb0 | exact hb1 | simp [BRep]) (fun i => by rcases i with _ | _ | i <;> simp [BK.pl]) (fun cx hbase hw hρ hfz hown => ?_)
  subst hw
  have hd : ((((0 : Nat) : Int) : Int) == 0) = true := rfl
  refine at_of (T := T0) hT hm (f := 5000) (orc := [.d true, .stop 2]) [] [2, 4] [2] hbase (x := .region 2 OY false) (k' := KY) (s' := zY l p)
    (obs := [.eq ((((0 : Nat) : Int) : Int) == 0) true]) (by kernel_rfl) ⟨hd, trivial⟩ ?_
  have hseg : Seg J cx.w S i cx S := ⟨hj, Kept.refl _ _, fun b h => .inl h, fun k b o n hk h => hS k (by rw [hbase] at hk; exact hk) b o n ((hρ k).symm.trans h), hown, fun b o ho => by rw [hfz b] at ho; cases ho⟩
  refine visit_of (Jx := Jx) hT hJ hB (m := i + 1) hseg (OY.toList.take 2) oY (OY.toList.drop 3) oY_split (s1 := zY1 l p) (by kernel_rfl) (by kernel_rfl) 19 (by kernel_rfl) (of_decide_eq_true (by kernel_rfl)) 2 hbase (by kernel_rfl) (by kernel_rfl)
    (fun ρ a W2 hrep hsafe hj2 K Q' hK => ?_) (zY3 l p) (fun b => by kernel_rfl) (fun b cx' hb' h1 h2 => ?_)
  · have e1 := hrep.sl 17
    have e2 := hrep.sl 18
    refine op_yield oY_op (l := l) (vs := #[encP p]) ?_ ?_ (hY i p S W2 hx hj2) hK
    · exact e1
    · have : a.eval (.tmp 18) = encP p := by
        have e3 : Rel ρ (.a (cP p)) (a.tmps.getD 18 undef) := e2
        simp only [Rel] at e3
        obtain ⟨vs, hv, hr⟩ := e3
        have h' := encP_rel ρ p
        simp only [Rel] at h'
        obtain ⟨us, hu, hr'⟩ := h'
        show a.tmps.getD 18 undef = encP p
        rw [hv, hu]
        have : vs = us := rels_plain (by simp [cP, vb, iv]) hr hr'
        rw [this]
      simp [this]
  · have hown' : ∀ c, ¬ cx'.own c := by
      cases b with
      | true => obtain ⟨Sc, h⟩ := h1 rfl; exact h.own
      | false => exact (h2 rfl).own
    exact retB_of (T := T0) hT hm (f := 5000) (orc := []) (b := b) (obs := []) (by cases b <;> kernel_rfl) trivial hown' (fun Wd hW hWd => visit_end hJ hX h1 h2 rfl Wd hW hWd)

theorem vcall {d : Nat} (ih : VisitAt l J Jx xs d) {cx : Cx} {N : Nat} {D : List Deferred} {ρ : Env} {s : FS} {a : Act} {Wd : World} (hrep : Rep cx N D ρ s a Wd) {p : (Int × Int × Int) × (Int × Int × Int) × Int × Int × Int} {i : Nat} {S : Nat → Prop}
    (hdl : d < 1000) (e1 : s.sl 66 = .f 137 [.p 0 0, .p 1 0]) (e2 : s.sl 67 = .a (cP p)) (e3 : s.sl 69 = iv (W (((d + 1 : Nat) : Int) - 1))) (e4 : s.bk 0 = .live false false [.v (yv l)]) (e5 : s.bk 1 = .live false false [.f 137 [.p 0 0, .p 1 0]])
    (hS : ∀ k, k < 2 → ∀ b o n, ρ k = some (b, o, n) → ¬ S b) (hj : J i S Wd) (hxs : ∀ j x, (cutL d p)[j]? = some x → xs[i + j]? = some x)
    (K : Act → World → Prop) (Q : Exit → Act → World → Prop) (hK : ∀ e Wd', VR J Jx (i + (cutL d p).length) S Wd e Wd' → ∃ v, e = .returned v ∧ K (a.put oV.dst v) Wd') : oV.wpIn (Fw none) 9 Tryz.prog a Wd K Q := by
  have r1 := hrep.sl 66
  have r2 := hrep.sl 67
  have r3 := hrep.sl 69
  rw [e1] at r1; rw [e2] at r2; rw [e3] at r3
  have hw : W (((d + 1 : Nat) : Int) - 1) = (d : Int) := by rw [W_eq] <;> omega
  rw [hw] at r3
  simp only [Rel] at r1
  obtain ⟨vs, hv, hc⟩ := r1
  have b0 := hrep.bk 0
  have b1 := hrep.bk 1
  rw [e4] at b0; rw [e5] at b1
  refine op_call oV_op (g := 137) (caps := vs) hv ent137 (ih p i S Wd ρ _ ?_ b0.ro b1.ro hS hj hxs) hK
  exact rels_cons r2 (rels_cons r3 hc)

theorem visitS (hJ : GrowsJ J) (hX : GrowsX Jx) (hB : BoundJ J) {d : Nat} (hdl : d < 1000) (ih : VisitAt l J Jx xs d) : VisitAt l J Jx xs (d + 1) := by
  intro p i S Wd ρ vs hargs hb0 hb1 hS hj hxs
  obtain ⟨hx1, hr1⟩ := sub_app hxs
  obtain ⟨hx2, hr2⟩ := sub_app hr1
  obtain ⟨hx3, hx4⟩ := sub_app hr2
  refine calls_of_good (n := 9) (bs := [.live false false [.v (yv l)], .live false false [.f 137 [.p 0 0, .p 1 0]]]) Tryz.func137 rfl (by show 4 ≤ Tryz.f137.ntmps; decide) (by kernel_rfl) ⟨rfl, rfl, trivial⟩ (by kernel_rfl) (fun i => by rcases i with _ | _ | i <;> simp [BK.own]) (by kernel_rfl) hargs (fun i => by rcases i with _ | _ | i <;> first | exact hb0 | exact hb1 | simp [BRep]) (fun i => by rcases i with _ | _ | i <;> simp [BK.pl]) (fun cx hbase hw hρ hfz hown => ?_)
  subst hw
  have hd : ((((d + 1 : Nat) : Int) : Int) == 0) = false := by rw [beq_eq_false_iff_ne]; omega
  have hseg : Seg J cx.w S i cx S := ⟨hj, Kept.refl _ _, fun b h => .inl h, fun k b o n hk h => hS k (by rw [hbase] at hk; exact hk) b o n ((hρ k).symm.trans h), hown, fun b o ho => by rw [hfz b] at ho; cases ho⟩
  refine at_of (T := T0) hT hm (f := 5000) (orc := [.d false, .call [] (.a [(iv (F89 p.1 2).1), (iv (F89 p.1 2).2.1), (iv (F89 p.1 2).2.2)]) [], .call [] (.a [(iv (F89 p.2.1 2).1), (iv (F89 p.2.1 2).2.1), (iv (F89 p.2.1 2).2.2)]) [], .call [] (.a [(iv (F89 p.2.2 2).1), (iv (F89 p.2.2 2).2.1), (iv (F89 p.2.2 2).2.2)]) [], .call [] (.a [(iv (F138 p.1 p.2.1).1), (iv (F138 p.1 p.2.1).2.1), (iv (F138 p.1 p.2.1).2.2)]) [], .call [] (.a [(iv (F138 p.2.1 p.2.2).1), (iv (F138 p.2.1 p.2.2).2.1), (iv (F138 p.2.1 p.2.2).2.2)]) [], .call [] (.a [(iv (F138 p.2.2 p.1).1), (iv (F138 p.2.2 p.1).2.1), (iv (F138 p.2.2 p.1).2.2)]) [], .un 4, .d true, .stop 8]) [] [1, 3, 14, 60, 61, 62] [9, 10] hbase (x := .region 8 OV false) (k' := KV 4) (s' := zV1 l p (d + 1 : Nat))
    (obs := [.eq ((((d + 1 : Nat) : Int) : Int) == 0) false, .call 89 [(.a [(iv p.1.1), (iv p.1.2.1), (iv p.1.2.2)]), (iv 2)] [] (.a [(iv (F89 p.1 2).1), (iv (F89 p.1 2).2.1), (iv (F89 p.1 2).2.2)]) [], .call 89 [(.a [(iv p.2.1.1), (iv p.2.1.2.1), (iv p.2.1.2.2)]), (iv 2)] [] (.a [(iv (F89 p.2.1 2).1), (iv (F89 p.2.1 2).2.1), (iv (F89 p.2.1 2).2.2)]) [], .call 89 [(.a [(iv p.2.2.1), (iv p.2.2.2.1), (iv p.2.2.2.2)]), (iv 2)] [] (.a [(iv (F89 p.2.2 2).1), (iv (F89 p.2.2 2).2.1), (iv (F89 p.2.2 2).2.2)]) [], .call 138 [(.a [(iv p.1.1), (iv p.1.2.1), (iv p.1.2.2)]), (.a [(iv p.2.1.1), (iv p.2.1.2.1), (iv p.2.1.2.2)])] [] (.a [(iv (F138 p.1 p.2.1).1), (iv (F138 p.1 p.2.1).2.1), (iv (F138 p.1 p.2.1).2.2)]) [], .call 138 [(.a [(iv p.2.1.1), (iv p.2.1.2.1), (iv p.2.1.2.2)]), (.a [(iv p.2.2.1), (iv p.2.2.2.1), (iv p.2.2.2.2)])] [] (.a [(iv (F138 p.2.1 p.2.2).1), (iv (F138 p.2.1 p.2.2).2.1), (iv (F138 p.2.1 p.2.2).2.2)]) [], .call 138 [(.a [(iv p.2.2.1), (iv p.2.2.2.1), (iv p.2.2.2.2)]), (.a [(iv p.1.1), (iv p.1.2.1), (iv p.1.2.2)])] [] (.a [(iv (F138 p.2.2 p.1).1), (iv (F138 p.2.2 p.1).2.1), (iv (F138 p.2.2 p.1).2.2)]) [], .eq true true, .pr (0 ≤ (0 : Int) ∧ (0 : Int) < ((4 : Nat) : Int))]) (by kernel_rfl) ⟨hd, (C89 p.1 2), (C89 p.2.1 2), (C89 p.2.2 2), (C138 p.1 p.2.1), (C138 p.2.1 p.2.2), (C138 p.2.2 p.1), rfl, (show 0 ≤ (0 : Int) ∧ (0 : Int) < ((4 : Nat) : Int) from by decide), trivial⟩ ?_
  refine visit_of (Jx := Jx) hT hJ hB (m := i + (cutL d (q1 p)).length) hseg (OV.toList.take 4) oV (OV.toList.drop 5) oV_split (s1 := zV11 l p (d + 1 : Nat)) (by kernel_rfl) (by kernel_rfl) 70 (by kernel_rfl) (of_decide_eq_true (by kernel_rfl)) 2 hbase (by kernel_rfl) (by kernel_rfl)
    (fun ρ a W2 hrep hsafe hj2 K Q' hK => vcall ih hrep hdl rfl rfl rfl rfl rfl (fun k hk b o n h => (match k, hk, h with | 0, _, h => hsafe 0 _ _ _ rfl b o n h | 1, _, h => hsafe 1 _ _ _ rfl b o n h)) hj2 (fun j x hj => hx1 j x hj) K Q' hK) (zV13 l p (d + 1 : Nat)) (fun b => by kernel_rfl) (fun b cx hbase h1 h2 => ?_)
  cases b with
  | false =>
    exact retB_of (T := T0) hT hm (f := 5000) (orc := [.d true]) (b := false) (obs := [.eq (!false) true]) (by kernel_rfl) ⟨rfl, trivial⟩ (h2 rfl).own (fun W hW hWd => visit_end (m' := i + (cutL (d + 1) p).length) hJ hX (fun h => by cases h) h2 rfl W hW hWd)
  | true =>
    obtain ⟨Sc, hseg⟩ := h1 rfl
    refine at_of (T := T0) hT hm (f := 5000) (orc := [.d false, .un 0, .d true, .stop 8]) [] [1, 3, 14, 60, 61, 62] [4] hbase (x := .region 8 OV false) (k' := KV 3) (s' := zV2 l p (d + 1 : Nat))
      (obs := [.eq (!true) false, .eq (decide ((1 : Int) < 4)) true, .pr (0 ≤ (1 : Int) ∧ (1 : Int) < ((4 : Nat) : Int))]) (by kernel_rfl) ⟨rfl, rfl, (show 0 ≤ (1 : Int) ∧ (1 : Int) < ((4 : Nat) : Int) from by decide), trivial⟩ ?_
    refine visit_of (Jx := Jx) hT hJ hB (m := i + (cutL d (q1 p)).length + (cutL d (q2 p)).length) hseg (OV.toList.take 4) oV (OV.toList.drop 5) oV_split (s1 := zV21 l p (d + 1 : Nat)) (by kernel_rfl) (by kernel_rfl) 70 (by kernel_rfl) (of_decide_eq_true (by kernel_rfl)) 4 hbase (by kernel_rfl) (by kernel_rfl)
      (fun ρ a W2 hrep hsafe hj2 K Q' hK => vcall ih hrep hdl rfl rfl rfl rfl rfl (fun k hk b o n h => (match k, hk, h with | 0, _, h => hsafe 0 _ _ _ rfl b o n h | 1, _, h => hsafe 1 _ _ _ rfl b o n h)) hj2 (fun j x hj => hx2 j x hj) K Q' hK) (zV23 l p (d + 1 : Nat)) (fun b => by kernel_rfl) (fun b cx hbase h1 h2 => ?_)
    cases b with
    | false =>
      exact retB_of (T := T0) hT hm (f := 5000) (orc := [.d true]) (b := false) (obs := [.eq (!false) true]) (by kernel_rfl) ⟨rfl, trivial⟩ (h2 rfl).own (fun W hW hWd => visit_end (m' := i + (cutL (d + 1) p).length) hJ hX (fun h => by cases h) h2 rfl W hW hWd)
    | true =>
      obtain ⟨Sc, hseg⟩ := h1 rfl
      refine at_of (T := T0) hT hm (f := 5000) (orc := [.d false, .un 0, .d true, .stop 8]) [] [1, 3, 14, 60, 61, 62] [5] hbase (x := .region 8 OV false) (k' := KV 2) (s' := zV3 l p (d + 1 : Nat))
        (obs := [.eq (!true) false, .eq (decide ((2 : Int) < 4)) true, .pr (0 ≤ (2 : Int) ∧ (2 : Int) < ((4 : Nat) : Int))]) (by kernel_rfl) ⟨rfl, rfl, (show 0 ≤ (2 : Int) ∧ (2 : Int) < ((4 : Nat) : Int) from by decide), trivial⟩ ?_
      refine visit_of (Jx := Jx) hT hJ hB (m := i + (cutL d (q1 p)).length + (cutL d (q2 p)).length + (cutL d (q3 p)).length) hseg (OV.toList.take 4) oV (OV.toList.drop 5) oV_split (s1 := zV31 l p (d + 1 : Nat)) (by kernel_rfl) (by kernel_rfl) 70 (by kernel_rfl) (of_decide_eq_true (by kernel_rfl)) 5 hbase (by kernel_rfl) (by kernel_rfl)
        (fun ρ a W2 hrep hsafe hj2 K Q' hK => vcall ih hrep hdl rfl rfl rfl rfl rfl (fun k hk b o n h => (match k, hk, h with | 0, _, h => hsafe 0 _ _ _ rfl b o n h | 1, _, h => hsafe 1 _ _ _ rfl b o n h)) hj2 (fun j x hj => hx3 j x hj) K Q' hK) (zV33 l p (d + 1 : Nat)) (fun b => by kernel_rfl) (fun b cx hbase h1 h2 => ?_)
      cases b with
      | false =>
        exact retB_of (T := T0) hT hm (f := 5000) (orc := [.d true]) (b := false) (obs := [.eq (!false) true]) (by kernel_rfl) ⟨rfl, trivial⟩ (h2 rfl).own (fun W hW hWd => visit_end (m' := i + (cutL (d + 1) p).length) hJ hX (fun h => by cases h) h2 rfl W hW hWd)
      | true =>
        obtain ⟨Sc, hseg⟩ := h1 rfl
        refine at_of (T := T0) hT hm (f := 5000) (orc := [.d false, .un 0, .d true, .stop 8]) [] [1, 3, 14, 60, 61, 62] [6] hbase (x := .region 8 OV false) (k' := KV 1) (s' := zV4 l p (d + 1 : Nat))
          (obs := [.eq (!true) false, .eq (decide ((3 : Int) < 4)) true, .pr (0 ≤ (3 : Int) ∧ (3 : Int) < ((4 : Nat) : Int))]) (by kernel_rfl) ⟨rfl, rfl, (show 0 ≤ (3 : Int) ∧ (3 : Int) < ((4 : Nat) : Int) from by decide), trivial⟩ ?_
        refine visit_of (Jx := Jx) hT hJ hB (m := i + (cutL d (q1 p)).length + (cutL d (q2 p)).length + (cutL d (q3 p)).length + (cutL d (q4 p)).length) hseg (OV.toList.take 4) oV (OV.toList.drop 5) oV_split (s1 := zV41 l p (d + 1 : Nat)) (by kernel_rfl) (by kernel_rfl) 70 (by kernel_rfl) (of_decide_eq_true (by kernel_rfl)) 6 hbase (by kernel_rfl) (by kernel_rfl)
          (fun ρ a W2 hrep hsafe hj2 K Q' hK => vcall ih hrep hdl rfl rfl rfl rfl rfl (fun k hk b o n h => (match k, hk, h with | 0, _, h => hsafe 0 _ _ _ rfl b o n h | 1, _, h => hsafe 1 _ _ _ rfl b o n h)) hj2 (fun j x hj => hx4 j x hj) K Q' hK) (zV43 l p (d + 1 : Nat)) (fun b => by kernel_rfl) (fun b cx hbase h1 h2 => ?_)
        cases b with
        | false =>
          exact retB_of (T := T0) hT hm (f := 5000) (orc := [.d true]) (b := false) (obs := [.eq (!false) true]) (by kernel_rfl) ⟨rfl, trivial⟩ (h2 rfl).own (fun W hW hWd => visit_end (m' := i + (cutL (d + 1) p).length) hJ hX (fun h => by cases h) h2 rfl W hW hWd)
        | true =>
          exact retB_of (T := T0) hT hm (f := 5000) (orc := [.d false, .un 0, .d false]) (b := true) (obs := [.eq (!true) false, .eq (decide ((4 : Int) < 4)) false]) (by kernel_rfl) ⟨rfl, rfl, trivial⟩ (h1 rfl).choose_spec.own (fun W hW hWd => visit_end hJ hX h1 h2 (by simp only [cutL, List.length_append]; omega) W hW hWd)

theorem visit_all (hJ : GrowsJ J) (hX : GrowsX Jx) (hB : BoundJ J) (hY : ∀ i x S W1, xs[i]? = some x → J i S W1 → YieldAt (Fw none) 9 Tryz.prog l #[encP x] W1 (YR J Jx i S W1)) : ∀ d, d < 1000 → VisitAt l J Jx xs d
  | 0, _ => visit0 hJ hX hB hY
  | d + 1, h => visitS hJ hX hB (by omega) (visit_all hJ hX hB hY d (by omega))
end

noncomputable def O2 : Array Oper := match (codeAtD [1, 1, 1] [] (Tryz.f136.body.getD .skip)).1 with
  | .region _ ops _ => ops
  | _ => #[]
noncomputable def o2 : Oper := O2.toList.getD 3 default
theorem o2_op : o2.op = .call { callee := .value (.tmp 6), args := #[.tmp 7, .tmp 8], argTypes := callTs o2 } := by kernel_rfl
theorem o2_split : O2.toList = O2.toList.take 3 ++ [o2] := by kernel_rfl
def z2 (l : Nat) (p : (Int × Int × Int) × (Int × Int × Int) × Int × Int × Int) (d : Int) : LS := ⟨[.u, .p 0 0, .p 1 0, .u, .p 3 0, .u, .u, .u, .u, .u], [.live false false (cP p), .live false false [iv d], .live true false [.v (yv l)], .live true false [.f 137 [.p 2 0, .p 3 0]]]⟩
def z21 (l : Nat) (p : (Int × Int × Int) × (Int × Int × Int) × Int × Int × Int) (d : Int) : LS := ⟨[.u, .p 0 0, .p 1 0, .u, .p 3 0, .u, .f 137 [.p 2 0, .p 3 0], .a (cP p), iv d, .u], [.live false false (cP p), .live false false [iv d], .live true false [.v (yv l)], .live true false [.f 137 [.p 2 0, .p 3 0]]]⟩

theorem iter_cut (p : (Int × Int × Int) × (Int × Int × Int) × Int × Int × Int) (d : Nat) (hd : d < 1000) : Iter Tryz.prog 136 [.p 0 0, .p 1 0] [.live false false (cP p), .live false false [iv (d : Nat)]] encP (cutL d p) := by
  refine ⟨ent136, fun ρ Wd lb hcaps hbs hpl l J Jx S0 hJ hX hB hY h0 => ?_⟩
  have hcon : Calls Tryz.prog 136 ((Value.func (.yield l) #[] #[]) :: lb).toArray Wd fun e Wd' => (∃ v, e = .returned v) ∧ ∃ S', (J (cutL d p).length S' Wd' ∨ Jx S' Wd') ∧ Kept Wd S0 Wd' := by
    refine calls_of_good (n := 9) (args := [.v (yv l), .p 0 0, .p 1 0]) (bs := [.live false false (cP p), .live false false [iv (d : Nat)]]) Tryz.func136 rfl (by show 3 ≤ Tryz.f136.ntmps; decide) (by kernel_rfl) ⟨rfl, rfl, trivial⟩ (by kernel_rfl) (fun i => by rcases i with _ | _ | i <;> simp [BK.own]) (by kernel_rfl) ⟨rfl, hcaps⟩ hbs hpl (fun cx hbase hw hρ hfz hown => ?_)
    subst hw
    refine at_of (T := T0) hT hm (f := 5000) (orc := [.stop 3]) [] [1, 2, 4] [2, 3] hbase (x := .region 3 O2 false) (k' := []) (s' := z2 l p d)
      (obs := []) (by kernel_rfl) trivial ?_
    intro ρ a Wd hrep
    simp only [cont]
    refine wpIn_region ?_
    have hsz : O2.size = (O2.toList.take 3).length + (0 + 1) := by kernel_rfl
    have hget : ∀ j, O2[j]? = (O2.toList.take 3 ++ [o2])[j]? := fun j => by rw [← o2_split, Array.getElem?_toList]
    rw [hsz, range_split]
    refine ops_pre hT (O2.toList.take 3) 0 (z2 l p d) (z21 l p d) [] [] _ [] (evS_spec (T := T0) (obs := []) (by kernel_rfl)).choose_spec trivial (fun j o' hj => ?_) ρ a Wd hrep (fun ρ1 a1 W1 hrep1 hl1 => ?_)
    · rw [hget, Nat.zero_add, List.getElem?_append_left (List.getElem?_eq_some_iff.1 hj).1]; exact hj
    rw [wpOpsIn_cons]
    unfold wpOpIn
    have ho : O2[(O2.toList.take 3).length]? = some o2 := by rw [hget, List.getElem?_append_right (Nat.le_refl _)]; simp
    rw [ho]
    have hw : Region.wanted o2 (yielded O2 a1.tmps) = true := by
      have hg : o2.guard = none := by kernel_rfl
      unfold Region.wanted; rw [hg]
    simp only [hw, if_true]
    have hbel : Below cx.w.heap.size cx.w W1 := by
      have := hrep1.kept
      exact ⟨this.os, this.tape, this.output, this.size, fun k hk => this.block k hk (hown k)⟩
    have r1 := hrep1.sl 6
    have r2 := hrep1.sl 7
    have r3 := hrep1.sl 8
    have r1' : Rel ρ1 (.f 137 [.p 2 0, .p 3 0]) (a1.tmps.getD 6 undef) := r1
    have r2' : Rel ρ1 (.a (cP p)) (a1.tmps.getD 7 undef) := r2
    have r3' : Rel ρ1 (iv (d : Nat)) (a1.tmps.getD 8 undef) := r3
    simp only [Rel] at r1'
    obtain ⟨vs, hv, hc⟩ := r1'
    have own2 : ∀ b, cx.mine b → cx.w.heap.size ≤ b := fun b hb => hb.elim id (fun h => (hown b h).elim)
    have b2 := (renB_rep (ks := [2, 3]) (i := 0) (m := false) (x := .live true false [.v (yv l)]) (y := .live false false [.v (yv l)]) (M' := fun b => W1.heap.size ≤ b) rfl rfl trivial (hrep1.bk 2) (fun _ h => by cases h) (fun _ b hlt _ hM => absurd hM (Nat.not_le_of_lt hlt))).1
    have b3 := (renB_rep (ks := [2, 3]) (i := 1) (m := false) (x := .live true false [.f 137 [.p 2 0, .p 3 0]]) (y := .live false false [.f 137 [.p 0 0, .p 1 0]]) (M' := fun b => W1.heap.size ≤ b) rfl rfl trivial (hrep1.bk 3) (fun _ h => by cases h) (fun _ b hlt _ hM => absurd hM (Nat.not_le_of_lt hlt))).1
    have hS2 : ∀ k, k < 2 → ∀ b o n, envOf ρ1 [2, 3] k = some (b, o, n) → ¬ S0 b := fun k hk b o n h hSb => by
      have hlt := hB _ _ _ h0 b hSb
      have own : ∀ j, (z21 l p d).fs.bk j ≠ .un → ((z21 l p d).fs.bk j).own → ρ1 j = some (b, o, n) → False := fun j _ hj hρ => by
        have hb := hrep1.bk j
        cases hx : (z21 l p d).fs.bk j with
        | un => rw [hx] at hj; exact hj
        | dead => rw [hx] at hj; exact hj
        | map es =>
          rw [hx] at hb
          obtain ⟨b', n', arr, q1, q2, _⟩ := hb
          rw [hρ] at q1; cases q1
          have := own2 b q2; omega
        | live ow sy cs => cases ow with
          | false => rw [hx] at hj; exact hj
          | true =>
            rw [hx] at hb
            rcases hb with ⟨q, _⟩ | ⟨b', vs, rest, ty, q1, q2, _⟩
            · rw [hρ] at q; cases q
            · rw [hρ] at q1; cases q1
              have := own2 b q2; omega
      match k, hk with
      | 0, _ => exact own 2 (by simp [z21, LS.fs]) (by trivial) h
      | 1, _ => exact own 3 (by simp [z21, LS.fs]) (by trivial) h
    refine op_call o2_op (g := 137) (caps := vs) hv ent137 ((visit_all (l := l) hJ hX hB hY d hd) p 0 S0 W1 (envOf ρ1 [2, 3]) (a1.tmps.getD 7 undef :: a1.tmps.getD 8 undef :: vs) ?_ b2 b3 hS2 (hJ _ _ _ _ h0 hbel hrep1.kept.drawn) (fun j x hj => by rw [Nat.zero_add]; exact hj)) (fun e Wd' hR => ?_)
    · exact rels_cons (ren_rel (ks := [2, 3]) (.a (cP p)) (.a (cP p)) _ rfl r2') (rels_cons (ren_rel (ks := [2, 3]) (iv (d : Nat)) (iv (d : Nat)) _ rfl r3') (renL_rel (ks := [2, 3]) [.p 2 0, .p 3 0] [.p 0 0, .p 1 0] vs rfl hc))
    · have fin : ∀ v : Bool, e = .returned (.bool v) → (∃ S', (J (cutL d p).length S' Wd' ∨ Jx S' Wd') ∧ Kept W1 S0 Wd') → ∃ v, e = .returned v ∧ wpOpsIn (Fw none) 9 Tryz.prog O2 (cont none 9 Tryz.prog (bodyPost Tryz.prog Tryz.f136 (fun e Wd' => (∃ v, e = .returned v) ∧ ∃ S', (J (cutL d p).length S' Wd' ∨ Jx S' Wd') ∧ Kept cx.w S0 Wd')) []) (List.range' ((O2.toList.take 3).length + 1) 0) (a1.put o2.dst v) Wd' := fun v he ⟨S', hj', hk'⟩ => by
        refine ⟨_, he, ?_⟩
        simp only [List.range'_zero, wpOpsIn, cont]
        refine ⟨?_, _, results_nil (by kernel_rfl), ⟨_, rfl⟩, S', hj', ?_⟩
        · exact hrep1.defs
        · exact (Kept.of_below S0 hbel hrep1.kept.drawn).trans hk' (fun b hb _ => hb)
      rcases hR with ⟨he, S', hj', hk', _⟩ | ⟨he, S', hj', hk'⟩
      · exact fin true he ⟨S', .inl (by rwa [Nat.zero_add] at hj'), hk'⟩
      · exact fin false he ⟨S', .inr hj', hk'⟩
  have e : ((Value.func (.yield l) #[] #[]) :: lb).toArray = #[.func (.yield l) #[] #[]] ++ lb.toArray := by apply Array.ext'; simp
  rw [← e]; exact hcon

theorem iter_cutI (p : (Int × Int × Int) × (Int × Int × Int) × Int × Int × Int) (d : Int) (h : 0 ≤ d ∧ d ≤ 3) : Iter Tryz.prog 136 [.p 0 0, .p 1 0] [.live false false (cP p), .live false false [iv d]] encP (cutL (Int.toNat d) p) := by
  have := iter_cut p d.toNat (by omega)
  rwa [Int.toNat_of_nonneg h.1] at this
theorem cut_lt {p : (Int × Int × Int) × (Int × Int × Int) × Int × Int × Int} {d : Int} (h : 0 ≤ d ∧ d ≤ 3) {i : Nat} {x : (Int × Int × Int) × (Int × Int × Int) × Int × Int × Int} (hx : (cutL (Int.toNat d) p)[i]? = some x) : i < 64 := by
  have hl := (List.getElem?_eq_some_iff.1 hx).1
  rw [cutL_length] at hl
  have : Int.toNat d ≤ 3 := by omega
  have : 4 ^ Int.toNat d ≤ 4 ^ 3 := Nat.pow_le_pow_right (by omega) this
  omega

end Go.Proofs.YthpgabaeefifbaaGreat

namespace Go.Proofs.YthpgabaeefifbaaGreat
open Go.Proofs Go.Aw Go.RowKit
set_option maxRecDepth 100000
set_option linter.unusedVariables false
set_option linter.unusedSimpArgs false

def F66 (a0 : Int) (a1 : Int) (a2 : Int) : Bool :=
  (bif (decide ((a1 : Int) ≤ a0)) then
   (decide ((a0 : Int) ≤ a2))
  else
   false)

theorem C66 (a0 : Int) (a1 : Int) (a2 : Int) : Con Tryz.prog 66 [(iv a0), (iv a1), (iv a2)] [] (.v (.bool (F66 a0 a1 a2))) [] := by
  refine con_s Tryz.func66 (by kernel_rfl) fun cx hcx => ?_
  cases h0 : (decide ((a1 : Int) ≤ a0)) with
  | true =>
   have q0 := of_decide_eq_true h0
   have e := Eq.refl (F66 a0 a1 a2); conv at e => rhs; simp only [F66, h0, cond_true, cond_false]
   rw [e]
   exact rt [.d h0] [] [] hcx (by kernel_rfl)
  | false =>
   have q0 := of_decide_eq_false h0
   have e := Eq.refl (F66 a0 a1 a2); conv at e => rhs; simp only [F66, h0, cond_true, cond_false]
   rw [e]
   exact rt [.d h0] [] [] hcx (by kernel_rfl)

def F108 (a0 : Int × Int × Int) (a1 : Int) : Bool :=
  (bif (F66 a0.1 (W (0 - a1)) a1) then
   (bif (F66 a0.2.1 (W (0 - a1)) a1) then
    (F66 a0.2.2 (W (0 - a1)) a1)
   else
    false)
  else
   false)

theorem C108 (a0 : Int × Int × Int) (a1 : Int) : Con Tryz.prog 108 [(.a (k3 a0)), (iv a1)] [] (.v (.bool (F108 a0 a1))) [] := by
  refine con_s Tryz.func108 (by kernel_rfl) fun cx hcx => ?_
  let t0 : List (St Tryz.prog) := [.c [] (C66 a0.1 (W (0 - a1)) a1)]
  cases h0 : (F66 a0.1 (W (0 - a1)) a1) with
  | true =>
   let t1 : List (St Tryz.prog) := (t0 ++ [.d h0, .c [] (C66 a0.2.1 (W (0 - a1)) a1)])
   cases h1 : (F66 a0.2.1 (W (0 - a1)) a1) with
   | true =>
    have e := Eq.refl (F108 a0 a1); conv at e => rhs; simp only [F108, h0, h1, cond_true, cond_false]
    rw [e]
    exact rt (t1 ++ [.d h1, .c [] (C66 a0.2.2 (W (0 - a1)) a1)]) [] [] hcx (by kernel_rfl)
   | false =>
    have e := Eq.refl (F108 a0 a1); conv at e => rhs; simp only [F108, h0, h1, cond_true, cond_false]
    rw [e]
    exact rt (t1 ++ [.d h1]) [] [] hcx (by kernel_rfl)
  | false =>
   have e := Eq.refl (F108 a0 a1); conv at e => rhs; simp only [F108, h0, cond_true, cond_false]
   rw [e]
   exact rt (t0 ++ [.d h0]) [] [] hcx (by kernel_rfl)

def F161 (a0 : Int × Int × Int) (a1 : Int) (a2 : Int × Int × Int) : Int × Int × Int :=
  ((W (a0.1 + (W (a1 * a2.1)))), (W (a0.2.1 + (W (a1 * a2.2.1)))), (W (a0.2.2 + (W (a1 * a2.2.2)))))

theorem C161 (a0 : Int × Int × Int) (a1 : Int) (a2 : Int × Int × Int) : Con Tryz.prog 161 [(.a (k3 a0)), (iv a1), (.a (k3 a2))] [] (.a (k3 (F161 a0 a1 a2))) [] := by
  refine con_s Tryz.func161 (by kernel_rfl) fun cx hcx => ?_
  have e := Eq.refl (F161 a0 a1 a2); conv at e => rhs; simp only [F161]
  rw [e]
  exact rt [] [] [] hcx (by kernel_rfl)

def F144 (a0 : Int × Int × Int) (a1 : Int × Int × Int) : Int × Int × Int :=
  (F161 a0 (-1) a1)

theorem C144 (a0 : Int × Int × Int) (a1 : Int × Int × Int) : Con Tryz.prog 144 [(.a (k3 a0)), (.a (k3 a1))] [] (.a (k3 (F144 a0 a1))) [] := by
  refine con_s Tryz.func144 (by kernel_rfl) fun cx hcx => ?_
  have e := Eq.refl (F144 a0 a1); conv at e => rhs; simp only [F144]
  rw [e]
  exact rt [.c [] (C161 a0 (-1) a1)] [] [] hcx (by kernel_rfl)

def F143 (a0 : Int × Int × Int) (a1 : Int × Int × Int) : Int × Int × Int :=
  ((W ((W (a0.2.1 * a1.2.2)) - (W (a0.2.2 * a1.2.1)))), (W ((W (a0.2.2 * a1.1)) - (W (a0.1 * a1.2.2)))), (W ((W (a0.1 * a1.2.1)) - (W (a0.2.1 * a1.1)))))

theorem C143 (a0 : Int × Int × Int) (a1 : Int × Int × Int) : Con Tryz.prog 143 [(.a (k3 a0)), (.a (k3 a1))] [] (.a (k3 (F143 a0 a1))) [] := by
  refine con_s Tryz.func143 (by kernel_rfl) fun cx hcx => ?_
  have e := Eq.refl (F143 a0 a1); conv at e => rhs; simp only [F143]
  rw [e]
  exact rt [] [] [] hcx (by kernel_rfl)

def F109 (a0 : (Int × Int × Int) × (Int × Int × Int) × Int × Int × Int) : Int × Int × Int :=
  (F143 (F144 a0.2.1 a0.1) (F144 a0.2.2 a0.1))

theorem C109 (a0 : (Int × Int × Int) × (Int × Int × Int) × Int × Int × Int) : Con Tryz.prog 109 [(.a (k9 a0))] [] (.a (k3 (F109 a0))) [] := by
  refine con_s Tryz.func109 (by kernel_rfl) fun cx hcx => ?_
  have e := Eq.refl (F109 a0); conv at e => rhs; simp only [F109]
  rw [e]
  exact rt [.c [] (C144 a0.2.1 a0.1), .c [] (C144 a0.2.2 a0.1), .c [] (C143 (F144 a0.2.1 a0.1) (F144 a0.2.2 a0.1))] [] [] hcx (by kernel_rfl)

def F117 (a0 : (Int × Int × Int) × (Int × Int × Int) × Int × Int × Int) : Int :=
  (bif (!(F108 a0.1 64)) then
   1
  else
   (bif (!(F108 a0.2.1 64)) then
    1
   else
    (bif (!(F108 a0.2.2 64)) then
     1
    else
     (bif ((((F109 a0).1 : Int) == 0) && ((((F109 a0).2.1 : Int) == 0) && ((((F109 a0).2.2 : Int) == 0) && true))) then
      6
     else
      0))))

theorem C117 (a0 : (Int × Int × Int) × (Int × Int × Int) × Int × Int × Int) : Con Tryz.prog 117 [(.a (k9 a0))] [] (iv (F117 a0)) [] := by
  refine con_s Tryz.func117 (by kernel_rfl) fun cx hcx => ?_
  let t0 : List (St Tryz.prog) := [.c [] (C108 a0.1 64)]
  cases h0 : (!(F108 a0.1 64)) with
  | true =>
   have e := Eq.refl (F117 a0); conv at e => rhs; simp only [F117, h0, cond_true, cond_false]
   rw [e]
   exact rt (t0 ++ [.d h0]) [] [] hcx (by kernel_rfl)
  | false =>
   let t1 : List (St Tryz.prog) := (t0 ++ [.d h0, .c [] (C108 a0.2.1 64)])
   cases h1 : (!(F108 a0.2.1 64)) with
   | true =>
    have e := Eq.refl (F117 a0); conv at e => rhs; simp only [F117, h0, h1, cond_true, cond_false]
    rw [e]
    exact rt (t1 ++ [.d h1]) [] [] hcx (by kernel_rfl)
   | false =>
    let t2 : List (St Tryz.prog) := (t1 ++ [.d h1, .c [] (C108 a0.2.2 64)])
    cases h2 : (!(F108 a0.2.2 64)) with
    | true =>
     have e := Eq.refl (F117 a0); conv at e => rhs; simp only [F117, h0, h1, h2, cond_true, cond_false]
     rw [e]
     exact rt (t2 ++ [.d h2]) [] [] hcx (by kernel_rfl)
    | false =>
     let t3 : List (St Tryz.prog) := (t2 ++ [.d h2, .c [] (C109 a0)])
     cases h3 : ((((F109 a0).1 : Int) == 0) && ((((F109 a0).2.1 : Int) == 0) && ((((F109 a0).2.2 : Int) == 0) && true))) with
     | true =>
      have e := Eq.refl (F117 a0); conv at e => rhs; simp only [F117, h0, h1, h2, h3, cond_true, cond_false]
      rw [e]
      exact rt (t3 ++ [.d h3]) [] [] hcx (by kernel_rfl)
     | false =>
      have e := Eq.refl (F117 a0); conv at e => rhs; simp only [F117, h0, h1, h2, h3, cond_true, cond_false]
      rw [e]
      exact rt (t3 ++ [.d h3]) [] [] hcx (by kernel_rfl)

def F118 (a0 : Int) (a1 : Int) (a2 : Int) : Bool :=
  (bif (decide ((a0 : Int) ≥ a1)) then
   (decide ((a0 : Int) ≤ a2))
  else
   false)

theorem C118 (a0 : Int) (a1 : Int) (a2 : Int) : Con Tryz.prog 118 [(iv a0), (iv a1), (iv a2)] [] (.v (.bool (F118 a0 a1 a2))) [] := by
  refine con_s Tryz.func118 (by kernel_rfl) fun cx hcx => ?_
  cases h0 : (decide ((a0 : Int) ≥ a1)) with
  | true =>
   have q0 := of_decide_eq_true h0
   have e := Eq.refl (F118 a0 a1 a2); conv at e => rhs; simp only [F118, h0, cond_true, cond_false]
   rw [e]
   exact rt [.d h0] [] [] hcx (by kernel_rfl)
  | false =>
   have q0 := of_decide_eq_false h0
   have e := Eq.refl (F118 a0 a1 a2); conv at e => rhs; simp only [F118, h0, cond_true, cond_false]
   rw [e]
   exact rt [.d h0] [] [] hcx (by kernel_rfl)

def F87 (a0 : (Int × Int × Int) × (Int × Int × Int) × Int × Int × Int) (a1 : (Int × Int × Int) × (Int × Int × Int) × Int × Int × Int) (a2 : Int) : Int :=
  (bif (((F117 a0) : Int) != 0) then
   (F117 a0)
  else
   (bif (((F117 a1) : Int) != 0) then
    (F117 a1)
   else
    (bif (!(F118 a2 0 2)) then
     1
    else
     0)))

theorem C87 (a0 : (Int × Int × Int) × (Int × Int × Int) × Int × Int × Int) (a1 : (Int × Int × Int) × (Int × Int × Int) × Int × Int × Int) (a2 : Int) : Con Tryz.prog 87 [(.a (k9 a0)), (.a (k9 a1)), (iv a2)] [] (iv (F87 a0 a1 a2)) [] := by
  refine con_s Tryz.func87 (by kernel_rfl) fun cx hcx => ?_
  let t0 : List (St Tryz.prog) := [.c [] (C117 a0)]
  cases h0 : (((F117 a0) : Int) != 0) with
  | true =>
   have q0 := bne_iff_ne.1 h0
   have e := Eq.refl (F87 a0 a1 a2); conv at e => rhs; simp only [F87, h0, cond_true, cond_false]
   rw [e]
   exact rt (t0 ++ [.d h0]) [] [] hcx (by kernel_rfl)
  | false =>
   have q0 := bne_eq_false_iff_eq.1 h0
   let t1 : List (St Tryz.prog) := (t0 ++ [.d h0, .c [] (C117 a1)])
   cases h1 : (((F117 a1) : Int) != 0) with
   | true =>
    have q1 := bne_iff_ne.1 h1
    have e := Eq.refl (F87 a0 a1 a2); conv at e => rhs; simp only [F87, h0, h1, cond_true, cond_false]
    rw [e]
    exact rt (t1 ++ [.d h1]) [] [] hcx (by kernel_rfl)
   | false =>
    have q1 := bne_eq_false_iff_eq.1 h1
    let t2 : List (St Tryz.prog) := (t1 ++ [.d h1, .c [] (C118 a2 0 2)])
    cases h2 : (!(F118 a2 0 2)) with
    | true =>
     have e := Eq.refl (F87 a0 a1 a2); conv at e => rhs; simp only [F87, h0, h1, h2, cond_true, cond_false]
     rw [e]
     exact rt (t2 ++ [.d h2]) [] [] hcx (by kernel_rfl)
    | false =>
     have e := Eq.refl (F87 a0 a1 a2); conv at e => rhs; simp only [F87, h0, h1, h2, cond_true, cond_false]
     rw [e]
     exact rt (t2 ++ [.d h2]) [] [] hcx (by kernel_rfl)

noncomputable def B148_0 : Code := (loopAtD [1, 1, 0, 1] [] (bodyOf Tryz.f148) []).1
noncomputable def K148_0 : List K := (loopAtD [1, 1, 0, 1] [] (bodyOf Tryz.f148) []).2

def st148_0 (a0 : Int) (v1 : Int) (v2 : Int) : LS := ⟨slN 22 [(0, (iv a0)), (3, (iv v1)), (4, (iv v2))], []⟩

def S148_0 (a0 : Int) : Int × Int → (Int × Int) ⊕ (Int)
  | (v1, v2) =>
   (bif (decide ((v2 : Int) > 0)) then
    (bif (decide (((W ((W (v1 + v2)) * (W (v1 + v2)))) : Int) ≤ a0)) then
     (.inl ((W (v1 + v2)), (v2 / 2)))
    else
     (.inl (v1, (v2 / 2))))
   else
    (.inr v1))

set_option maxHeartbeats 4000000 in
theorem L148_0 (a0 : Int) {cx : Cx} (hcx : cx.base = 0) : ∀ (n : Nat) (v1 : Int) (v2 : Int), True → Int.toNat v2 < n → Aw.Good Tryz.prog none 9 (bodyPost Tryz.prog Tryz.f148 (RR cx (iv (loopF (S148_0 a0) n (v1, v2))) [] [])) cx [] (.l B148_0 n :: K148_0) (st148_0 a0 v1 v2) := by
  intro n
  induction n with
  | zero => intro v1 v2 hi hn; exact absurd hn (Nat.not_lt_zero _)
  | succ n ih =>
    intro v1 v2 hi hn
    refine good_round ?_
    cases h0 : (decide ((v2 : Int) > 0)) with
    | true =>
     have q0 := of_decide_eq_true h0
     let t1 : List (St Tryz.prog) := [.d h0]
     cases h1 : (decide (((W ((W (v1 + v2)) * (W (v1 + v2)))) : Int) ≤ a0)) with
     | true =>
      have q1 := of_decide_eq_true h1
      have e := Eq.refl (S148_0 a0 (v1, v2)); conv at e => rhs; simp only [S148_0, h0, h1, cond_true, cond_false]
      rw [loopF_inl e]
      refine ba (t1 ++ [.d h1, .p (show 0 ≤ (1 : Int) from by decide)]) [] [0, 3, 4] [] hcx (m := n) B148_0 (K148_0) (st148_0 a0 (W (v1 + v2)) (Int.fdiv v2 (2 ^ (min (Int.toNat 1) 64)))) (by kernel_rfl) ?_
      have z0 : (Int.fdiv v2 (2 ^ (min (Int.toNat 1) 64))) = (v2 / 2) := shr_eq _ 1 (by decide)
      rw [z0]
      exact ih (W (v1 + v2)) (v2 / 2) trivial (by (try simp only [List.length_append, List.length_cons, List.length_nil, Int.toNat_zero]); omega)
     | false =>
      have q1 := of_decide_eq_false h1
      have e := Eq.refl (S148_0 a0 (v1, v2)); conv at e => rhs; simp only [S148_0, h0, h1, cond_true, cond_false]
      rw [loopF_inl e]
      refine ba (t1 ++ [.d h1, .p (show 0 ≤ (1 : Int) from by decide)]) [] [0, 3, 4] [] hcx (m := n) B148_0 (K148_0) (st148_0 a0 v1 (Int.fdiv v2 (2 ^ (min (Int.toNat 1) 64)))) (by kernel_rfl) ?_
      have z0 : (Int.fdiv v2 (2 ^ (min (Int.toNat 1) 64))) = (v2 / 2) := shr_eq _ 1 (by decide)
      rw [z0]
      exact ih v1 (v2 / 2) trivial (by (try simp only [List.length_append, List.length_cons, List.length_nil, Int.toNat_zero]); omega)
    | false =>
     have q0 := of_decide_eq_false h0
     have e := Eq.refl (S148_0 a0 (v1, v2)); conv at e => rhs; simp only [S148_0, h0, cond_true, cond_false]
     rw [loopF_s, e]
     exact rt [.d h0] [] [] hcx (by kernel_rfl)

def F148 (a0 : Int) : Int :=
  (loopF (S148_0 a0) (Int.toNat 1073741824 + 1) (0, 1073741824))

theorem C148 (a0 : Int) : Con Tryz.prog 148 [(iv a0)] [] (iv (F148 a0)) [] := by
  refine con_s Tryz.func148 (by kernel_rfl) fun cx hcx => ?_
  have e := Eq.refl (F148 a0); conv at e => rhs; simp only [F148]
  rw [e]
  refine en [] [] [0, 3, 4] [] hcx B148_0 (K148_0) (st148_0 a0 0 1073741824) (Int.toNat 1073741824 + 1) (by kernel_rfl) ?_
  exact L148_0 a0 hcx (Int.toNat 1073741824 + 1) 0 1073741824 trivial (by (try simp only [List.length_append, List.length_cons, List.length_nil, Int.toNat_zero]); omega)

def F162_3 (a0 : (Int) × (Int) × (Int)) : Int :=
  (W ((W ((W (0 + a0.1)) + a0.2.1)) + a0.2.2))

theorem C162_3 (a0 : (Int) × (Int) × (Int)) : Con Tryz.prog 162 [(.s 0 0 3 1)] [(.live false false (k3 a0))] (iv (F162_3 a0)) [] := by
  refine con_s Tryz.func162 (by kernel_rfl) fun cx hcx => ?_
  have e := Eq.refl (F162_3 a0); conv at e => rhs; simp only [F162_3]
  rw [e]
  exact rt [.u 200, .T, .i 0 3 (by decide), .u 0, .T, .i 1 3 (by decide), .u 0, .T, .i 2 3 (by decide), .u 0, .F] [] [] hcx (by kernel_rfl)

def F149 (a0 : Int × Int × Int) (a1 : Int × Int × Int) : Int :=
  (F162_3 ((W (a0.1 * a1.1)), (W (a0.2.1 * a1.2.1)), (W (a0.2.2 * a1.2.2))))

theorem C149 (a0 : Int × Int × Int) (a1 : Int × Int × Int) : Con Tryz.prog 149 [(.a (k3 a0)), (.a (k3 a1))] [] (iv (F149 a0 a1)) [] := by
  refine con_s Tryz.func149 (by kernel_rfl) fun cx hcx => ?_
  have e := Eq.refl (F149 a0 a1); conv at e => rhs; simp only [F149]
  rw [e]
  exact rt [.c [2] (C162_3 ((W (a0.1 * a1.1)), (W (a0.2.1 * a1.2.1)), (W (a0.2.2 * a1.2.2))))] [] [] hcx (by kernel_rfl)

def F147 (a0 : Int × Int × Int) (a1 : Int × Int × Int) : Int × Int × Int :=
  ((W (a0.1 - a1.1)), (W (a0.2.1 - a1.2.1)), (W (a0.2.2 - a1.2.2)))

theorem C147 (a0 : Int × Int × Int) (a1 : Int × Int × Int) : Con Tryz.prog 147 [(.a (k3 a0)), (.a (k3 a1))] [] (.a (k3 (F147 a0 a1))) [] := by
  refine con_s Tryz.func147 (by kernel_rfl) fun cx hcx => ?_
  have e := Eq.refl (F147 a0 a1); conv at e => rhs; simp only [F147]
  rw [e]
  exact rt [] [] [] hcx (by kernel_rfl)

def F146 (a0 : Int × Int × Int) (a1 : Int × Int × Int) : Int × Int × Int :=
  ((W ((W (a0.2.1 * a1.2.2)) - (W (a0.2.2 * a1.2.1)))), (W ((W (a0.2.2 * a1.1)) - (W (a0.1 * a1.2.2)))), (W ((W (a0.1 * a1.2.1)) - (W (a0.2.1 * a1.1)))))

theorem C146 (a0 : Int × Int × Int) (a1 : Int × Int × Int) : Con Tryz.prog 146 [(.a (k3 a0)), (.a (k3 a1))] [] (.a (k3 (F146 a0 a1))) [] := by
  refine con_s Tryz.func146 (by kernel_rfl) fun cx hcx => ?_
  have e := Eq.refl (F146 a0 a1); conv at e => rhs; simp only [F146]
  rw [e]
  exact rt [] [] [] hcx (by kernel_rfl)

def F151_3 (a0 : (Int × Int × Int) × (Int × Int × Int) × (Int × Int × Int)) : (Int × Int × Int) × Int × Int × Int :=
  (((if (a0.2.2.1 : Int) < (if (a0.2.1.1 : Int) < (if (a0.1.1 : Int) < a0.1.1 then a0.1.1 else a0.1.1) then a0.2.1.1 else (if (a0.1.1 : Int) < a0.1.1 then a0.1.1 else a0.1.1)) then a0.2.2.1 else (if (a0.2.1.1 : Int) < (if (a0.1.1 : Int) < a0.1.1 then a0.1.1 else a0.1.1) then a0.2.1.1 else (if (a0.1.1 : Int) < a0.1.1 then a0.1.1 else a0.1.1))), (if (a0.2.2.2.1 : Int) < (if (a0.2.1.2.1 : Int) < (if (a0.1.2.1 : Int) < a0.1.2.1 then a0.1.2.1 else a0.1.2.1) then a0.2.1.2.1 else (if (a0.1.2.1 : Int) < a0.1.2.1 then a0.1.2.1 else a0.1.2.1)) then a0.2.2.2.1 else (if (a0.2.1.2.1 : Int) < (if (a0.1.2.1 : Int) < a0.1.2.1 then a0.1.2.1 else a0.1.2.1) then a0.2.1.2.1 else (if (a0.1.2.1 : Int) < a0.1.2.1 then a0.1.2.1 else a0.1.2.1))), (if (a0.2.2.2.2 : Int) < (if (a0.2.1.2.2 : Int) < (if (a0.1.2.2 : Int) < a0.1.2.2 then a0.1.2.2 else a0.1.2.2) then a0.2.1.2.2 else (if (a0.1.2.2 : Int) < a0.1.2.2 then a0.1.2.2 else a0.1.2.2)) then a0.2.2.2.2 else (if (a0.2.1.2.2 : Int) < (if (a0.1.2.2 : Int) < a0.1.2.2 then a0.1.2.2 else a0.1.2.2) then a0.2.1.2.2 else (if (a0.1.2.2 : Int) < a0.1.2.2 then a0.1.2.2 else a0.1.2.2)))), ((if ((if ((if (a0.1.1 : Int) < a0.1.1 then a0.1.1 else a0.1.1) : Int) < a0.2.1.1 then a0.2.1.1 else (if (a0.1.1 : Int) < a0.1.1 then a0.1.1 else a0.1.1)) : Int) < a0.2.2.1 then a0.2.2.1 else (if ((if (a0.1.1 : Int) < a0.1.1 then a0.1.1 else a0.1.1) : Int) < a0.2.1.1 then a0.2.1.1 else (if (a0.1.1 : Int) < a0.1.1 then a0.1.1 else a0.1.1))), (if ((if ((if (a0.1.2.1 : Int) < a0.1.2.1 then a0.1.2.1 else a0.1.2.1) : Int) < a0.2.1.2.1 then a0.2.1.2.1 else (if (a0.1.2.1 : Int) < a0.1.2.1 then a0.1.2.1 else a0.1.2.1)) : Int) < a0.2.2.2.1 then a0.2.2.2.1 else (if ((if (a0.1.2.1 : Int) < a0.1.2.1 then a0.1.2.1 else a0.1.2.1) : Int) < a0.2.1.2.1 then a0.2.1.2.1 else (if (a0.1.2.1 : Int) < a0.1.2.1 then a0.1.2.1 else a0.1.2.1))), (if ((if ((if (a0.1.2.2 : Int) < a0.1.2.2 then a0.1.2.2 else a0.1.2.2) : Int) < a0.2.1.2.2 then a0.2.1.2.2 else (if (a0.1.2.2 : Int) < a0.1.2.2 then a0.1.2.2 else a0.1.2.2)) : Int) < a0.2.2.2.2 then a0.2.2.2.2 else (if ((if (a0.1.2.2 : Int) < a0.1.2.2 then a0.1.2.2 else a0.1.2.2) : Int) < a0.2.1.2.2 then a0.2.1.2.2 else (if (a0.1.2.2 : Int) < a0.1.2.2 then a0.1.2.2 else a0.1.2.2)))))

theorem C151_3 (a0 : (Int × Int × Int) × (Int × Int × Int) × (Int × Int × Int)) : Con Tryz.prog 151 [(.s 0 0 3 3)] [(.live false false (k9 a0))] (.t [(.a (k3 (F151_3 a0).1)), (.a (k3 (F151_3 a0).2))]) [] := by
  refine con_s Tryz.func151 (by kernel_rfl) fun cx hcx => ?_
  have e := Eq.refl (F151_3 a0); conv at e => rhs; simp only [F151_3]
  rw [e]
  exact rt [.i 0 3 (by decide), .i 0 3 (by decide), .u 200, .T, .i 0 3 (by decide), .u 0, .T, .i 1 3 (by decide), .u 0, .T, .i 2 3 (by decide), .u 0, .F] [] [] hcx (by kernel_rfl)

def F152 (a0 : Int) (a1 : Int) (a2 : Int) (a3 : Int) : Int :=
  (if ((if (0 : Int) < (W (a2 - a1)) then (W (a2 - a1)) else 0) : Int) < (W (a0 - a3)) then (W (a0 - a3)) else (if (0 : Int) < (W (a2 - a1)) then (W (a2 - a1)) else 0))

theorem C152 (a0 : Int) (a1 : Int) (a2 : Int) (a3 : Int) : Con Tryz.prog 152 [(iv a0), (iv a1), (iv a2), (iv a3)] [] (iv (F152 a0 a1 a2 a3)) [] := by
  refine con_s Tryz.func152 (by kernel_rfl) fun cx hcx => ?_
  have e := Eq.refl (F152 a0 a1 a2 a3); conv at e => rhs; simp only [F152]
  rw [e]
  exact rt [] [] [] hcx (by kernel_rfl)

def F123_3_3 (a0 : (Int × Int × Int) × (Int × Int × Int) × (Int × Int × Int)) (a1 : (Int × Int × Int) × (Int × Int × Int) × (Int × Int × Int)) : Int :=
  (F149 ((F152 (F151_3 a0).1.1 (F151_3 a0).2.1 (F151_3 a1).1.1 (F151_3 a1).2.1), (F152 (F151_3 a0).1.2.1 (F151_3 a0).2.2.1 (F151_3 a1).1.2.1 (F151_3 a1).2.2.1), (F152 (F151_3 a0).1.2.2 (F151_3 a0).2.2.2 (F151_3 a1).1.2.2 (F151_3 a1).2.2.2)) ((F152 (F151_3 a0).1.1 (F151_3 a0).2.1 (F151_3 a1).1.1 (F151_3 a1).2.1), (F152 (F151_3 a0).1.2.1 (F151_3 a0).2.2.1 (F151_3 a1).1.2.1 (F151_3 a1).2.2.1), (F152 (F151_3 a0).1.2.2 (F151_3 a0).2.2.2 (F151_3 a1).1.2.2 (F151_3 a1).2.2.2)))

theorem C123_3_3 (a0 : (Int × Int × Int) × (Int × Int × Int) × (Int × Int × Int)) (a1 : (Int × Int × Int) × (Int × Int × Int) × (Int × Int × Int)) : Con Tryz.prog 123 [(.s 0 0 3 3), (.s 1 0 3 3)] [(.live false false (k9 a0)), (.live false false (k9 a1))] (iv (F123_3_3 a0 a1)) [] := by
  refine con_s Tryz.func123 (by kernel_rfl) fun cx hcx => ?_
  have e := Eq.refl (F123_3_3 a0 a1); conv at e => rhs; simp only [F123_3_3]
  rw [e]
  exact rt [.c [0] (C151_3 a0), .c [1] (C151_3 a1), .c [] (C152 (F151_3 a0).1.1 (F151_3 a0).2.1 (F151_3 a1).1.1 (F151_3 a1).2.1), .c [] (C152 (F151_3 a0).1.2.1 (F151_3 a0).2.2.1 (F151_3 a1).1.2.1 (F151_3 a1).2.2.1), .c [] (C152 (F151_3 a0).1.2.2 (F151_3 a0).2.2.2 (F151_3 a1).1.2.2 (F151_3 a1).2.2.2), .c [] (C149 ((F152 (F151_3 a0).1.1 (F151_3 a0).2.1 (F151_3 a1).1.1 (F151_3 a1).2.1), (F152 (F151_3 a0).1.2.1 (F151_3 a0).2.2.1 (F151_3 a1).1.2.1 (F151_3 a1).2.2.1), (F152 (F151_3 a0).1.2.2 (F151_3 a0).2.2.2 (F151_3 a1).1.2.2 (F151_3 a1).2.2.2)) ((F152 (F151_3 a0).1.1 (F151_3 a0).2.1 (F151_3 a1).1.1 (F151_3 a1).2.1), (F152 (F151_3 a0).1.2.1 (F151_3 a0).2.2.1 (F151_3 a1).1.2.1 (F151_3 a1).2.2.1), (F152 (F151_3 a0).1.2.2 (F151_3 a0).2.2.2 (F151_3 a1).1.2.2 (F151_3 a1).2.2.2)))] [] [] hcx (by kernel_rfl)

def c27 (x : Int × Int × Int) : List SV := [(iv x.1), (iv x.2.1), (iv x.2.2)]
theorem c27_len (x : Int × Int × Int) : (c27 x).length = 3 := rfl

noncomputable def B122_L_L_1 : Code := (loopAtD [1, 1, 0, 1, 0, 1, 1, 0, 1, 1] [0] (bodyOf Tryz.f122) []).1
noncomputable def K122_L_L_1 (m0 : Nat) : List K := (loopAtD [1, 1, 0, 1, 0, 1, 1, 0, 1, 1] [m0] (bodyOf Tryz.f122) []).2

def st122_L_L_1 (a0 : List (Int × Int × Int)) (a1 : List (Int × Int × Int)) (v5 : Int) (v6 : Int) (v7 : Int) (v8 : Int) (v9 : Int) (v10 : Int) : LS := ⟨slN 34 [(1, (.s 1 0 a1.length 3)), (5, (iv v5)), (7, (.p 2 0)), (11, (.s 0 0 a0.length 3)), (12, (iv ((a0.length : Nat) : Int))), (13, (iv v6)), (17, (.s 1 0 a1.length 3)), (18, (iv ((a1.length : Nat) : Int))), (19, (iv v7))], [(.live false true (flat c27 a0)), (.live false true (flat c27 a1)), (.live true false [(iv v8), (iv v9), (iv v10)])]⟩

def S122_L_L_1 (a0 : List (Int × Int × Int)) (a1 : List (Int × Int × Int)) : Int × Int × Int × Int × Int × Int → (Int × Int × Int × Int × Int × Int) ⊕ ((Int × Int) ⊕ (Int))
  | (v5, v6, v7, v8, v9, v10) =>
   (bif (decide ((v7 : Int) < ((a1.length : Nat) : Int))) then
    (.inl ((if (v5 : Int) < (F149 (F147 (v8, v9, v10) (a1.getD (Int.toNat v7) default)) (F147 (v8, v9, v10) (a1.getD (Int.toNat v7) default))) then (F149 (F147 (v8, v9, v10) (a1.getD (Int.toNat v7) default)) (F147 (v8, v9, v10) (a1.getD (Int.toNat v7) default))) else v5), v6, (v7 + 1), v8, v9, v10))
   else
    (.inr (.inl (v5, (v6 + 1)))))

noncomputable def B122_L_L_0 : Code := (loopAtD [1, 1, 0, 1] [] (bodyOf Tryz.f122) []).1
noncomputable def K122_L_L_0 : List K := (loopAtD [1, 1, 0, 1] [] (bodyOf Tryz.f122) []).2

def st122_L_L_0 (a0 : List (Int × Int × Int)) (a1 : List (Int × Int × Int)) (v3 : Int) (v4 : Int) : LS := ⟨slN 34 [(1, (.s 1 0 a1.length 3)), (5, (iv v3)), (11, (.s 0 0 a0.length 3)), (12, (iv ((a0.length : Nat) : Int))), (13, (iv v4))], [(.live false true (flat c27 a0)), (.live false true (flat c27 a1))]⟩

def S122_L_L_0 (a0 : List (Int × Int × Int)) (a1 : List (Int × Int × Int)) : Int × Int → (Int × Int) ⊕ (Int)
  | (v3, v4) =>
   (bif (decide ((v4 : Int) < ((a0.length : Nat) : Int))) then
    (loopF (S122_L_L_1 a0 a1) (Int.toNat (((a1.length : Nat) : Int) - 0) + 1) (v3, v4, 0, (a0.getD (Int.toNat v4) default).1, (a0.getD (Int.toNat v4) default).2.1, (a0.getD (Int.toNat v4) default).2.2))
   else
    (.inr v3))

set_option maxHeartbeats 4000000 in
theorem L122_L_L_1 (a0 : List (Int × Int × Int)) (a1 : List (Int × Int × Int)) (l0 : a0.length ≤ 9223372036854775807) (l1 : a1.length ≤ 9223372036854775807) {cx : Cx} (hcx : cx.base = 2)
    (n0 : Nat) (g0 : ∀ (v3 : Int) (v4 : Int), 0 ≤ v4 → Int.toNat (((a0.length : Nat) : Int) - v4) < n0 → Aw.Good Tryz.prog none 9 (bodyPost Tryz.prog Tryz.f122 (RR cx (iv (loopF (S122_L_L_0 a0 a1) n0 (v3, v4))) [] [])) cx [] (.l B122_L_L_0 n0 :: K122_L_L_0) (st122_L_L_0 a0 a1 v3 v4)) : ∀ (n : Nat) (v5 : Int) (v6 : Int) (v7 : Int) (v8 : Int) (v9 : Int) (v10 : Int), (0 ≤ v7) ∧ ((0 ≤ v6)) ∧ (v6 < ((a0.length : Nat) : Int)) ∧ (Int.toNat (((a0.length : Nat) : Int) - v6) < n0 + 1) → Int.toNat (((a1.length : Nat) : Int) - v7) < n → Aw.Good Tryz.prog none 9 (bodyPost Tryz.prog Tryz.f122 (RR cx (iv (thenF (S122_L_L_0 a0 a1) n0 (loopF (S122_L_L_1 a0 a1) n (v5, v6, v7, v8, v9, v10)))) [] [])) cx [] (.l B122_L_L_1 n :: K122_L_L_1 n0) (st122_L_L_1 a0 a1 v5 v6 v7 v8 v9 v10) := by
  intro n
  induction n with
  | zero => intro v5 v6 v7 v8 v9 v10 hi hn; exact absurd hn (Nat.not_lt_zero _)
  | succ n ih =>
    intro v5 v6 v7 v8 v9 v10 hi hn
    refine good_round ?_
    cases h0 : (decide ((v7 : Int) < ((a1.length : Nat) : Int))) with
    | true =>
     have q0 := of_decide_eq_true h0
     have e := Eq.refl (S122_L_L_1 a0 a1 (v5, v6, v7, v8, v9, v10)); conv at e => rhs; simp only [S122_L_L_1, h0, cond_true, cond_false]
     rw [loopF_inl e]
     refine ba [.d h0, .i v7 (a1.length), .L c27_len a1 v7 0 3, .c [] (C147 (v8, v9, v10) (a1.getD (Int.toNat v7) default)), .c [] (C149 (F147 (v8, v9, v10) (a1.getD (Int.toNat v7) default)) (F147 (v8, v9, v10) (a1.getD (Int.toNat v7) default)))] [] [1, 5, 7, 11, 12, 13, 17, 18, 19] [2] hcx (m := n) B122_L_L_1 (K122_L_L_1 n0) (st122_L_L_1 a0 a1 (if (v5 : Int) < (F149 (F147 (v8, v9, v10) (a1.getD (Int.toNat v7) default)) (F147 (v8, v9, v10) (a1.getD (Int.toNat v7) default))) then (F149 (F147 (v8, v9, v10) (a1.getD (Int.toNat v7) default)) (F147 (v8, v9, v10) (a1.getD (Int.toNat v7) default))) else v5) v6 (W (v7 + 1)) v8 v9 v10) (by kernel_rfl) ?_
     have z0 : (W (v7 + 1)) = (v7 + 1) := W_eq (by omega) (by omega)
     rw [z0]
     exact ih (if (v5 : Int) < (F149 (F147 (v8, v9, v10) (a1.getD (Int.toNat v7) default)) (F147 (v8, v9, v10) (a1.getD (Int.toNat v7) default))) then (F149 (F147 (v8, v9, v10) (a1.getD (Int.toNat v7) default)) (F147 (v8, v9, v10) (a1.getD (Int.toNat v7) default))) else v5) v6 (v7 + 1) v8 v9 v10 (by refine ⟨?_, ?_, ?_, ?_⟩ <;> (try simp only [List.length_append, List.length_cons, List.length_nil, Int.toNat_zero]) <;> first | omega | assumption | simp) (by (try simp only [List.length_append, List.length_cons, List.length_nil, Int.toNat_zero]); omega)
    | false =>
     have q0 := of_decide_eq_false h0
     have e := Eq.refl (S122_L_L_1 a0 a1 (v5, v6, v7, v8, v9, v10)); conv at e => rhs; simp only [S122_L_L_1, h0, cond_true, cond_false]
     rw [loopF_s, e]
     refine ba [.d h0] [] [1, 5, 11, 12, 13] [] hcx (m := n0) B122_L_L_0 (K122_L_L_0) (st122_L_L_0 a0 a1 v5 (W (v6 + 1))) (by kernel_rfl) ?_
     have z0 : (W (v6 + 1)) = (v6 + 1) := W_eq (by omega) (by omega)
     rw [z0]
     exact g0 v5 (v6 + 1) (by (try simp only [List.length_append, List.length_cons, List.length_nil, Int.toNat_zero]); omega) (by (try simp only [List.length_append, List.length_cons, List.length_nil, Int.toNat_zero]); omega)

set_option maxHeartbeats 4000000 in
theorem L122_L_L_0 (a0 : List (Int × Int × Int)) (a1 : List (Int × Int × Int)) (l0 : a0.length ≤ 9223372036854775807) (l1 : a1.length ≤ 9223372036854775807) {cx : Cx} (hcx : cx.base = 2) : ∀ (n : Nat) (v3 : Int) (v4 : Int), 0 ≤ v4 → Int.toNat (((a0.length : Nat) : Int) - v4) < n → Aw.Good Tryz.prog none 9 (bodyPost Tryz.prog Tryz.f122 (RR cx (iv (loopF (S122_L_L_0 a0 a1) n (v3, v4))) [] [])) cx [] (.l B122_L_L_0 n :: K122_L_L_0) (st122_L_L_0 a0 a1 v3 v4) := by
  intro n
  induction n with
  | zero => intro v3 v4 hi hn; exact absurd hn (Nat.not_lt_zero _)
  | succ n ih =>
    intro v3 v4 hi hn
    refine good_round ?_
    cases h0 : (decide ((v4 : Int) < ((a0.length : Nat) : Int))) with
    | true =>
     have q0 := of_decide_eq_true h0
     have e := Eq.refl (S122_L_L_0 a0 a1 (v3, v4)); conv at e => rhs; simp only [S122_L_L_0, h0, cond_true, cond_false]
     rw [loopF_s, e]
     refine en [.d h0, .i v4 (a0.length), .L c27_len a0 v4 0 3] [] [1, 5, 7, 11, 12, 13, 17, 18, 19] [2] hcx B122_L_L_1 (K122_L_L_1 n) (st122_L_L_1 a0 a1 v3 v4 0 ((a0.getD (Int.toNat v4) default).1) ((a0.getD (Int.toNat v4) default).2.1) ((a0.getD (Int.toNat v4) default).2.2)) (Int.toNat (((a1.length : Nat) : Int) - 0) + 1) (by kernel_rfl) ?_
     exact L122_L_L_1 a0 a1 l0 l1 hcx n ih (Int.toNat (((a1.length : Nat) : Int) - 0) + 1) v3 v4 0 ((a0.getD (Int.toNat v4) default).1) ((a0.getD (Int.toNat v4) default).2.1) ((a0.getD (Int.toNat v4) default).2.2) (by refine ⟨?_, ?_, ?_, ?_⟩ <;> (try simp only [List.length_append, List.length_cons, List.length_nil, Int.toNat_zero]) <;> first | omega | assumption | simp) (by (try simp only [List.length_append, List.length_cons, List.length_nil, Int.toNat_zero]); omega)
    | false =>
     have q0 := of_decide_eq_false h0
     have e := Eq.refl (S122_L_L_0 a0 a1 (v3, v4)); conv at e => rhs; simp only [S122_L_L_0, h0, cond_true, cond_false]
     rw [loopF_s, e]
     exact rt [.d h0] [] [] hcx (by kernel_rfl)

def F122_L_L (a0 : List (Int × Int × Int)) (a1 : List (Int × Int × Int)) : Int :=
  (loopF (S122_L_L_0 a0 a1) (Int.toNat (((a0.length : Nat) : Int) - 0) + 1) (0, 0))

theorem C122_L_L (a0 : List (Int × Int × Int)) (a1 : List (Int × Int × Int)) (l0 : a0.length ≤ 9223372036854775807) (l1 : a1.length ≤ 9223372036854775807) : Con Tryz.prog 122 [(.s 0 0 a0.length 3), (.s 1 0 a1.length 3)] [(.live false true (flat c27 a0)), (.live false true (flat c27 a1))] (iv (F122_L_L a0 a1)) [] := by
  refine con_s Tryz.func122 (by kernel_rfl) fun cx hcx => ?_
  have e := Eq.refl (F122_L_L a0 a1); conv at e => rhs; simp only [F122_L_L]
  rw [e]
  refine en [] [] [1, 5, 11, 12, 13] [] hcx B122_L_L_0 (K122_L_L_0) (st122_L_L_0 a0 a1 0 0) (Int.toNat (((a0.length : Nat) : Int) - 0) + 1) (by kernel_rfl) ?_
  exact L122_L_L_0 a0 a1 l0 l1 hcx (Int.toNat (((a0.length : Nat) : Int) - 0) + 1) 0 0 (by (try simp only [List.length_append, List.length_cons, List.length_nil, Int.toNat_zero]); omega) (by (try simp only [List.length_append, List.length_cons, List.length_nil, Int.toNat_zero]); omega)

noncomputable def B73_0 : Code := match (codeAtD [1] [] (bodyOf Tryz.f73)).1 with
  | .scope c => c
  | _ => .skip
noncomputable def K73_0 : List K := (codeAtD [1] [] (bodyOf Tryz.f73)).2
noncomputable def R73_0 : Code := (findLabel B73_0 0).getD .skip

def st73_0 (a0 : Int) (v1 : Int) (v2 : Int) : LS := ⟨slN 22 [(0, (iv a0)), (3, (iv v1)), (4, (iv v2))], []⟩

def S73_0 (a0 : Int) : Int × Int → (Int × Int) ⊕ (Int)
  | (v1, v2) =>
   (bif ((v2 : Int) == 0) then
    (.inr v1)
   else
    (bif (decide (((W ((W (v1 + v2)) * (W (v1 + v2)))) : Int) ≤ a0)) then
     (.inl ((W (v1 + v2)), (v2 / 2)))
    else
     (.inl (v1, (v2 / 2)))))

set_option maxHeartbeats 4000000 in
theorem L73_0 (a0 : Int) {cx : Cx} (hcx : cx.base = 0) : ∀ (n : Nat) (v1 : Int) (v2 : Int), 0 ≤ v2 → Int.toNat v2 < n → Aw.Good Tryz.prog none 9 (bodyPost Tryz.prog Tryz.f73 (RR cx (iv (loopF (S73_0 a0) n (v1, v2))) [] [])) cx [] (.c (.goto 0) :: .s B73_0 n :: K73_0) (st73_0 a0 v1 v2) := by
  intro n
  induction n with
  | zero => intro v1 v2 hi hn; exact absurd hn (Nat.not_lt_zero _)
  | succ n ih =>
    intro v1 v2 hi hn
    refine good_jump (rest := R73_0) (by kernel_rfl) ?_
    cases h0 : ((v2 : Int) == 0) with
    | true =>
     have q0 := eq_of_beq h0
     have e := Eq.refl (S73_0 a0 (v1, v2)); conv at e => rhs; simp only [S73_0, h0, cond_true, cond_false]
     rw [loopF_s, e]
     exact rt [.d h0] [] [] hcx (by kernel_rfl)
    | false =>
     have q0 := ne_of_beq_false h0
     let t1 : List (St Tryz.prog) := [.d h0]
     cases h1 : (decide (((W ((W (v1 + v2)) * (W (v1 + v2)))) : Int) ≤ a0)) with
     | true =>
      have q1 := of_decide_eq_true h1
      have e := Eq.refl (S73_0 a0 (v1, v2)); conv at e => rhs; simp only [S73_0, h0, h1, cond_true, cond_false]
      rw [loopF_inl e]
      refine ga (t1 ++ [.d h1, .p (show 0 ≤ (1 : Int) from by decide)]) [] [0, 3, 4] [] hcx (.goto 0) (.s B73_0 n :: K73_0) (st73_0 a0 (W (v1 + v2)) (Int.fdiv v2 (2 ^ (min (Int.toNat 1) 64)))) (by kernel_rfl) ?_
      have z0 : (Int.fdiv v2 (2 ^ (min (Int.toNat 1) 64))) = (v2 / 2) := shr_eq _ 1 (by decide)
      rw [z0]
      exact ih (W (v1 + v2)) (v2 / 2) (by (try simp only [List.length_append, List.length_cons, List.length_nil, Int.toNat_zero]); omega) (by omega)
     | false =>
      have q1 := of_decide_eq_false h1
      have e := Eq.refl (S73_0 a0 (v1, v2)); conv at e => rhs; simp only [S73_0, h0, h1, cond_true, cond_false]
      rw [loopF_inl e]
      refine ga (t1 ++ [.d h1, .p (show 0 ≤ (1 : Int) from by decide)]) [] [0, 3, 4] [] hcx (.goto 0) (.s B73_0 n :: K73_0) (st73_0 a0 v1 (Int.fdiv v2 (2 ^ (min (Int.toNat 1) 64)))) (by kernel_rfl) ?_
      have z0 : (Int.fdiv v2 (2 ^ (min (Int.toNat 1) 64))) = (v2 / 2) := shr_eq _ 1 (by decide)
      rw [z0]
      exact ih v1 (v2 / 2) (by (try simp only [List.length_append, List.length_cons, List.length_nil, Int.toNat_zero]); omega) (by omega)

def F73 (a0 : Int) : Int :=
  (bif (decide ((4611686018427387904 : Int) ≤ a0)) then
   (loopF (S73_0 a0) (Int.toNat 1073741824 + 1) (2147483648, 1073741824))
  else
   (loopF (S73_0 a0) (Int.toNat 1073741824 + 1) (0, 1073741824)))

theorem C73 (a0 : Int) : Con Tryz.prog 73 [(iv a0)] [] (iv (F73 a0)) [] := by
  refine con_s Tryz.func73 (by kernel_rfl) fun cx hcx => ?_
  cases h0 : (decide ((4611686018427387904 : Int) ≤ a0)) with
  | true =>
   have q0 := of_decide_eq_true h0
   have e := Eq.refl (F73 a0); conv at e => rhs; simp only [F73, h0, cond_true, cond_false]
   rw [e]
   refine ga [.u (Int.toNat 1073741824 + 1), .F, .d h0, .p (show 0 ≤ (1 : Int) from by decide)] [] [0, 3, 4] [] hcx (.goto 0) (.s B73_0 (Int.toNat 1073741824 + 1) :: K73_0) (st73_0 a0 2147483648 1073741824) (by kernel_rfl) ?_
   exact L73_0 a0 hcx (Int.toNat 1073741824 + 1) 2147483648 1073741824 (by (try simp only [List.length_append, List.length_cons, List.length_nil, Int.toNat_zero]); omega) (by omega)
  | false =>
   have q0 := of_decide_eq_false h0
   have e := Eq.refl (F73 a0); conv at e => rhs; simp only [F73, h0, cond_true, cond_false]
   rw [e]
   refine ga [.u (Int.toNat 1073741824 + 1), .F, .d h0, .p (show 0 ≤ (1 : Int) from by decide)] [] [0, 3, 4] [] hcx (.goto 0) (.s B73_0 (Int.toNat 1073741824 + 1) :: K73_0) (st73_0 a0 0 1073741824) (by kernel_rfl) ?_
   exact L73_0 a0 hcx (Int.toNat 1073741824 + 1) 0 1073741824 (by (try simp only [List.length_append, List.length_cons, List.length_nil, Int.toNat_zero]); omega) (by omega)

def F113 (a0 : Int × Int) : Bool :=
  (bif (decide ((a0.1 : Int) ≥ (-1099511627776))) then
   (bif (decide ((a0.1 : Int) ≤ a0.2)) then
    (decide ((a0.2 : Int) ≤ 1099511627776))
   else
    false)
  else
   false)

theorem C113 (a0 : Int × Int) : Con Tryz.prog 113 [(.a [(iv a0.1), (iv a0.2)])] [] (.v (.bool (F113 a0))) [] := by
  refine con_s Tryz.func113 (by kernel_rfl) fun cx hcx => ?_
  cases h0 : (decide ((a0.1 : Int) ≥ (-1099511627776))) with
  | true =>
   have q0 := of_decide_eq_true h0
   let t1 : List (St Tryz.prog) := [.d h0]
   cases h1 : (decide ((a0.1 : Int) ≤ a0.2)) with
   | true =>
    have q1 := of_decide_eq_true h1
    have e := Eq.refl (F113 a0); conv at e => rhs; simp only [F113, h0, h1, cond_true, cond_false]
    rw [e]
    exact rt (t1 ++ [.d h1]) [] [] hcx (by kernel_rfl)
   | false =>
    have q1 := of_decide_eq_false h1
    have e := Eq.refl (F113 a0); conv at e => rhs; simp only [F113, h0, h1, cond_true, cond_false]
    rw [e]
    exact rt (t1 ++ [.d h1]) [] [] hcx (by kernel_rfl)
  | false =>
   have q0 := of_decide_eq_false h0
   have e := Eq.refl (F113 a0); conv at e => rhs; simp only [F113, h0, cond_true, cond_false]
   rw [e]
   exact rt [.d h0] [] [] hcx (by kernel_rfl)

def F74 (a0 : Int) (a1 : Int) : (Int × Int) × Int :=
  (bif (!(F113 (a0, a1))) then
   ((0, 0), 4)
  else
   ((a0, a1), 0))

theorem C74 (a0 : Int) (a1 : Int) : Con Tryz.prog 74 [(iv a0), (iv a1)] [] (.t [(.a (k2 (F74 a0 a1).1)), (iv (F74 a0 a1).2)]) [] := by
  refine con_s Tryz.func74 (by kernel_rfl) fun cx hcx => ?_
  let t0 : List (St Tryz.prog) := [.c [] (C113 (a0, a1))]
  cases h0 : (!(F113 (a0, a1))) with
  | true =>
   have e := Eq.refl (F74 a0 a1); conv at e => rhs; simp only [F74, h0, cond_true, cond_false]
   rw [e]
   exact rt (t0 ++ [.d h0]) [] [] hcx (by kernel_rfl)
  | false =>
   have e := Eq.refl (F74 a0 a1); conv at e => rhs; simp only [F74, h0, cond_true, cond_false]
   rw [e]
   exact rt (t0 ++ [.d h0]) [] [] hcx (by kernel_rfl)

def F150 (a0 : Int) (a1 : Int) : (Int × Int) × Int :=
  (bif (((W ((W ((F73 (W (Int.tdiv a0 a1))) * (F73 (W (Int.tdiv a0 a1))))) * a1)) : Int) == a0) then
   ((F74 (F73 (W (Int.tdiv a0 a1))) (F73 (W (Int.tdiv a0 a1)))).1, (F74 (F73 (W (Int.tdiv a0 a1))) (F73 (W (Int.tdiv a0 a1)))).2)
  else
   ((F74 (F73 (W (Int.tdiv a0 a1))) (W ((F73 (W (Int.tdiv a0 a1))) + 1))).1, (F74 (F73 (W (Int.tdiv a0 a1))) (W ((F73 (W (Int.tdiv a0 a1))) + 1))).2))

theorem C150 (a0 : Int) (a1 : Int) (ha : a1 ≠ 0) : Con Tryz.prog 150 [(iv a0), (iv a1)] [] (.t [(.a (k2 (F150 a0 a1).1)), (iv (F150 a0 a1).2)]) [] := by
  refine con_s Tryz.func150 (by kernel_rfl) fun cx hcx => ?_
  let t0 : List (St Tryz.prog) := [.p (show (a1 : Int) ≠ 0 from by first | omega | (rw [W_eq] <;> omega) | exact u64_nn _), .c [] (C73 (W (Int.tdiv a0 a1)))]
  cases h0 : (((W ((W ((F73 (W (Int.tdiv a0 a1))) * (F73 (W (Int.tdiv a0 a1))))) * a1)) : Int) == a0) with
  | true =>
   have q0 := eq_of_beq h0
   have e := Eq.refl (F150 a0 a1); conv at e => rhs; simp only [F150, h0, cond_true, cond_false]
   rw [e]
   exact rt (t0 ++ [.d h0, .c [] (C74 (F73 (W (Int.tdiv a0 a1))) (F73 (W (Int.tdiv a0 a1))))]) [] [] hcx (by kernel_rfl)
  | false =>
   have q0 := ne_of_beq_false h0
   have e := Eq.refl (F150 a0 a1); conv at e => rhs; simp only [F150, h0, cond_true, cond_false]
   rw [e]
   exact rt (t0 ++ [.d h0, .c [] (C74 (F73 (W (Int.tdiv a0 a1))) (W ((F73 (W (Int.tdiv a0 a1))) + 1)))]) [] [] hcx (by kernel_rfl)

def F121 (a0 : Int) (a1 : Int) : (Int × Int) × Int :=
  (bif (decide ((a0 : Int) < 1)) then
   ((0, 0), 1)
  else
   (bif (decide ((a0 : Int) > 1099511627776)) then
    ((0, 0), 1)
   else
    (bif (decide ((a1 : Int) < 1)) then
     ((0, 0), 1)
    else
     (bif (decide ((a1 : Int) > 8)) then
      ((0, 0), 1)
     else
      ((F150 (W ((W (a1 * a1)) * 2 ^ (min (Int.toNat 40) 64))) a0).1, (F150 (W ((W (a1 * a1)) * 2 ^ (min (Int.toNat 40) 64))) a0).2)))))

theorem C121 (a0 : Int) (a1 : Int) : Con Tryz.prog 121 [(iv a0), (iv a1)] [] (.t [(.a (k2 (F121 a0 a1).1)), (iv (F121 a0 a1).2)]) [] := by
  refine con_s Tryz.func121 (by kernel_rfl) fun cx hcx => ?_
  cases h0 : (decide ((a0 : Int) < 1)) with
  | true =>
   have q0 := of_decide_eq_true h0
   have e := Eq.refl (F121 a0 a1); conv at e => rhs; simp only [F121, h0, cond_true, cond_false]
   rw [e]
   exact rt [.d h0] [] [] hcx (by kernel_rfl)
  | false =>
   have q0 := of_decide_eq_false h0
   let t1 : List (St Tryz.prog) := [.d h0]
   cases h1 : (decide ((a0 : Int) > 1099511627776)) with
   | true =>
    have q1 := of_decide_eq_true h1
    have e := Eq.refl (F121 a0 a1); conv at e => rhs; simp only [F121, h0, h1, cond_true, cond_false]
    rw [e]
    exact rt (t1 ++ [.d h1]) [] [] hcx (by kernel_rfl)
   | false =>
    have q1 := of_decide_eq_false h1
    let t2 : List (St Tryz.prog) := (t1 ++ [.d h1])
    cases h2 : (decide ((a1 : Int) < 1)) with
    | true =>
     have q2 := of_decide_eq_true h2
     have e := Eq.refl (F121 a0 a1); conv at e => rhs; simp only [F121, h0, h1, h2, cond_true, cond_false]
     rw [e]
     exact rt (t2 ++ [.d h2]) [] [] hcx (by kernel_rfl)
    | false =>
     have q2 := of_decide_eq_false h2
     let t3 : List (St Tryz.prog) := (t2 ++ [.d h2])
     cases h3 : (decide ((a1 : Int) > 8)) with
     | true =>
      have q3 := of_decide_eq_true h3
      have e := Eq.refl (F121 a0 a1); conv at e => rhs; simp only [F121, h0, h1, h2, h3, cond_true, cond_false]
      rw [e]
      exact rt (t3 ++ [.d h3]) [] [] hcx (by kernel_rfl)
     | false =>
      have q3 := of_decide_eq_false h3
      have e := Eq.refl (F121 a0 a1); conv at e => rhs; simp only [F121, h0, h1, h2, h3, cond_true, cond_false]
      rw [e]
      exact rt (t3 ++ [.d h3, .p (show 0 ≤ (40 : Int) from by decide), .c [] (C150 (W ((W (a1 * a1)) * 2 ^ (min (Int.toNat 40) 64))) a0  (by (try simp only [List.length_append, List.length_cons, List.length_nil, Int.toNat_zero]); omega))]) [] [] hcx (by kernel_rfl)

def F154_1 (a0 : Int × Int) : Int :=
  (bif (!(F113 a0)) then
   1
  else
   0)

theorem C154_1 (a0 : Int × Int) : Con Tryz.prog 154 [(.s 0 0 1 2)] [(.live false false [(iv a0.1), (iv a0.2)])] (iv (F154_1 a0)) [] := by
  refine con_s Tryz.func154 (by kernel_rfl) fun cx hcx => ?_
  let t0 : List (St Tryz.prog) := [.u 200, .T, .i 0 1 (by decide), .c [] (C113 a0)]
  cases h0 : (!(F113 a0)) with
  | true =>
   have e := Eq.refl (F154_1 a0); conv at e => rhs; simp only [F154_1, h0, cond_true, cond_false]
   rw [e]
   exact rt (t0 ++ [.d h0]) [] [] hcx (by kernel_rfl)
  | false =>
   have e := Eq.refl (F154_1 a0); conv at e => rhs; simp only [F154_1, h0, cond_true, cond_false]
   rw [e]
   exact rt (t0 ++ [.d h0, .u 0, .F]) [] [] hcx (by kernel_rfl)

def F140 (a0 : Int) (a1 : Int) : Int :=
  (bif (((Int.tmod a0 a1) : Int) != 0) then
   (bif (!((decide ((a0 : Int) < 0)) == (decide ((a1 : Int) < 0)))) then
    (W ((W (Int.tdiv a0 a1)) - 1))
   else
    (W (Int.tdiv a0 a1)))
  else
   (W (Int.tdiv a0 a1)))

theorem C140 (a0 : Int) (a1 : Int) (ha : a1 ≠ 0) : Con Tryz.prog 140 [(iv a0), (iv a1)] [] (iv (F140 a0 a1)) [] := by
  refine con_s Tryz.func140 (by kernel_rfl) fun cx hcx => ?_
  let t0 : List (St Tryz.prog) := [.p (show (a1 : Int) ≠ 0 from by first | omega | (rw [W_eq] <;> omega) | exact u64_nn _), .p (show (a1 : Int) ≠ 0 from by first | omega | (rw [W_eq] <;> omega) | exact u64_nn _)]
  cases h0 : (((Int.tmod a0 a1) : Int) != 0) with
  | true =>
   have q0 := bne_iff_ne.1 h0
   let t1 : List (St Tryz.prog) := (t0 ++ [.d h0])
   cases h1 : (!((decide ((a0 : Int) < 0)) == (decide ((a1 : Int) < 0)))) with
   | true =>
    have e := Eq.refl (F140 a0 a1); conv at e => rhs; simp only [F140, h0, h1, cond_true, cond_false]
    rw [e]
    exact rt (t1 ++ [.d h1]) [] [] hcx (by kernel_rfl)
   | false =>
    have e := Eq.refl (F140 a0 a1); conv at e => rhs; simp only [F140, h0, h1, cond_true, cond_false]
    rw [e]
    exact rt (t1 ++ [.d h1]) [] [] hcx (by kernel_rfl)
  | false =>
   have q0 := bne_eq_false_iff_eq.1 h0
   have e := Eq.refl (F140 a0 a1); conv at e => rhs; simp only [F140, h0, cond_true, cond_false]
   rw [e]
   exact rt (t0 ++ [.d h0]) [] [] hcx (by kernel_rfl)

def F141 (a0 : Int) (a1 : Int) : Int :=
  (W (0 - (F140 (W (0 - a0)) a1)))

theorem C141 (a0 : Int) (a1 : Int) (ha : a1 ≠ 0) : Con Tryz.prog 141 [(iv a0), (iv a1)] [] (iv (F141 a0 a1)) [] := by
  refine con_s Tryz.func141 (by kernel_rfl) fun cx hcx => ?_
  have e := Eq.refl (F141 a0 a1); conv at e => rhs; simp only [F141]
  rw [e]
  exact rt [.c [] (C140 (W (0 - a0)) a1  (by (try simp only [List.length_append, List.length_cons, List.length_nil, Int.toNat_zero]); omega))] [] [] hcx (by kernel_rfl)

def F153 (a0 : Int × Int) (a1 : Int) : (Int × Int) × Int :=
  (bif (((F154_1 a0) : Int) != 0) then
   ((0, 0), (F154_1 a0))
  else
   (bif (decide ((a1 : Int) < 1)) then
    ((0, 0), 1)
   else
    (bif (decide ((a1 : Int) > 1099511627776)) then
     ((0, 0), 1)
    else
     ((F74 (F140 a0.1 a1) (F141 a0.2 a1)).1, (F74 (F140 a0.1 a1) (F141 a0.2 a1)).2))))

theorem C153 (a0 : Int × Int) (a1 : Int) : Con Tryz.prog 153 [(.a [(iv a0.1), (iv a0.2)]), (iv a1)] [] (.t [(.a (k2 (F153 a0 a1).1)), (iv (F153 a0 a1).2)]) [] := by
  refine con_s Tryz.func153 (by kernel_rfl) fun cx hcx => ?_
  let t0 : List (St Tryz.prog) := [.c [2] (C154_1 a0)]
  cases h0 : (((F154_1 a0) : Int) != 0) with
  | true =>
   have q0 := bne_iff_ne.1 h0
   have e := Eq.refl (F153 a0 a1); conv at e => rhs; simp only [F153, h0, cond_true, cond_false]
   rw [e]
   exact rt (t0 ++ [.d h0]) [] [] hcx (by kernel_rfl)
  | false =>
   have q0 := bne_eq_false_iff_eq.1 h0
   let t1 : List (St Tryz.prog) := (t0 ++ [.d h0])
   cases h1 : (decide ((a1 : Int) < 1)) with
   | true =>
    have q1 := of_decide_eq_true h1
    have e := Eq.refl (F153 a0 a1); conv at e => rhs; simp only [F153, h0, h1, cond_true, cond_false]
    rw [e]
    exact rt (t1 ++ [.d h1]) [] [] hcx (by kernel_rfl)
   | false =>
    have q1 := of_decide_eq_false h1
    let t2 : List (St Tryz.prog) := (t1 ++ [.d h1])
    cases h2 : (decide ((a1 : Int) > 1099511627776)) with
    | true =>
     have q2 := of_decide_eq_true h2
     have e := Eq.refl (F153 a0 a1); conv at e => rhs; simp only [F153, h0, h1, h2, cond_true, cond_false]
     rw [e]
     exact rt (t2 ++ [.d h2]) [] [] hcx (by kernel_rfl)
    | false =>
     have q2 := of_decide_eq_false h2
     have e := Eq.refl (F153 a0 a1); conv at e => rhs; simp only [F153, h0, h1, h2, cond_true, cond_false]
     rw [e]
     exact rt (t2 ++ [.d h2, .c [] (C140 a0.1 a1  (by (try simp only [List.length_append, List.length_cons, List.length_nil, Int.toNat_zero]); omega)), .c [] (C141 a0.2 a1  (by (try simp only [List.length_append, List.length_cons, List.length_nil, Int.toNat_zero]); omega)), .c [] (C74 (F140 a0.1 a1) (F141 a0.2 a1))]) [] [] hcx (by kernel_rfl)

def c41 (x : Int × Int) : List SV := [(iv x.1), (iv x.2)]
theorem c41_len (x : Int × Int) : (c41 x).length = 2 := rfl

noncomputable def B154_L_0 : Code := (loopAtD [1, 0, 1] [] (bodyOf Tryz.f154) []).1
noncomputable def K154_L_0 : List K := (loopAtD [1, 0, 1] [] (bodyOf Tryz.f154) []).2

def st154_L_0 (a0 : List (Int × Int)) (v1 : Int) : LS := ⟨slN 15 [(5, (.s 0 0 a0.length 2)), (6, (iv ((a0.length : Nat) : Int))), (7, (iv v1))], [(.live false true (flat c41 a0))]⟩

def S154_L_0 (a0 : List (Int × Int)) : Int → (Int) ⊕ (Int)
  | v1 =>
   (bif (decide ((v1 : Int) < ((a0.length : Nat) : Int))) then
    (bif (!(F113 (a0.getD (Int.toNat v1) default))) then
     (.inr 1)
    else
     (.inl (v1 + 1)))
   else
    (.inr 0))

set_option maxHeartbeats 4000000 in
theorem L154_L_0 (a0 : List (Int × Int)) (l0 : a0.length ≤ 9223372036854775807) {cx : Cx} (hcx : cx.base = 1) : ∀ (n : Nat) (v1 : Int), 0 ≤ v1 → Int.toNat (((a0.length : Nat) : Int) - v1) < n → Aw.Good Tryz.prog none 9 (bodyPost Tryz.prog Tryz.f154 (RR cx (iv (loopF (S154_L_0 a0) n v1)) [] [])) cx [] (.l B154_L_0 n :: K154_L_0) (st154_L_0 a0 v1) := by
  intro n
  induction n with
  | zero => intro v1 hi hn; exact absurd hn (Nat.not_lt_zero _)
  | succ n ih =>
    intro v1 hi hn
    refine good_round ?_
    cases h0 : (decide ((v1 : Int) < ((a0.length : Nat) : Int))) with
    | true =>
     have q0 := of_decide_eq_true h0
     let t1 : List (St Tryz.prog) := [.d h0, .i v1 (a0.length), .L c41_len a0 v1 0 2, .c [] (C113 (a0.getD (Int.toNat v1) default))]
     cases h1 : (!(F113 (a0.getD (Int.toNat v1) default))) with
     | true =>
      have e := Eq.refl (S154_L_0 a0 v1); conv at e => rhs; simp only [S154_L_0, h0, h1, cond_true, cond_false]
      rw [loopF_s, e]
      exact rt (t1 ++ [.d h1]) [] [] hcx (by kernel_rfl)
     | false =>
      have e := Eq.refl (S154_L_0 a0 v1); conv at e => rhs; simp only [S154_L_0, h0, h1, cond_true, cond_false]
      rw [loopF_inl e]
      refine ba (t1 ++ [.d h1]) [] [5, 6, 7] [] hcx (m := n) B154_L_0 (K154_L_0) (st154_L_0 a0 (W (v1 + 1))) (by kernel_rfl) ?_
      have z0 : (W (v1 + 1)) = (v1 + 1) := W_eq (by omega) (by omega)
      rw [z0]
      exact ih (v1 + 1) (by (try simp only [List.length_append, List.length_cons, List.length_nil, Int.toNat_zero]); omega) (by (try simp only [List.length_append, List.length_cons, List.length_nil, Int.toNat_zero]); omega)
    | false =>
     have q0 := of_decide_eq_false h0
     have e := Eq.refl (S154_L_0 a0 v1); conv at e => rhs; simp only [S154_L_0, h0, cond_true, cond_false]
     rw [loopF_s, e]
     exact rt [.d h0] [] [] hcx (by kernel_rfl)

def F154_L (a0 : List (Int × Int)) : Int :=
  (loopF (S154_L_0 a0) (Int.toNat (((a0.length : Nat) : Int) - 0) + 1) 0)

theorem C154_L (a0 : List (Int × Int)) (l0 : a0.length ≤ 9223372036854775807) : Con Tryz.prog 154 [(.s 0 0 a0.length 2)] [(.live false true (flat c41 a0))] (iv (F154_L a0)) [] := by
  refine con_s Tryz.func154 (by kernel_rfl) fun cx hcx => ?_
  have e := Eq.refl (F154_L a0); conv at e => rhs; simp only [F154_L]
  rw [e]
  refine en [] [] [5, 6, 7] [] hcx B154_L_0 (K154_L_0) (st154_L_0 a0 0) (Int.toNat (((a0.length : Nat) : Int) - 0) + 1) (by kernel_rfl) ?_
  exact L154_L_0 a0 l0 hcx (Int.toNat (((a0.length : Nat) : Int) - 0) + 1) 0 (by (try simp only [List.length_append, List.length_cons, List.length_nil, Int.toNat_zero]); omega) (by (try simp only [List.length_append, List.length_cons, List.length_nil, Int.toNat_zero]); omega)

noncomputable def B139_L_0 : Code := (loopAtD [1, 1, 1, 0, 1] [] (bodyOf Tryz.f139) []).1
noncomputable def K139_L_0 : List K := (loopAtD [1, 1, 1, 0, 1] [] (bodyOf Tryz.f139) []).2

def st139_L_0 (a0 : List (Int × Int)) (v1 : Int) (v2 : Int) (v3 : Int) : LS := ⟨slN 33 [(2, (iv v1)), (3, (iv v2)), (16, (.s 0 0 a0.length 2)), (17, (iv ((a0.length : Nat) : Int))), (18, (iv v3))], [(.live false true (flat c41 a0))]⟩

def S139_L_0 (a0 : List (Int × Int)) : Int × Int × Int → (Int × Int × Int) ⊕ (Int × Int × Int)
  | (v1, v2, v3) =>
   (bif (decide ((v3 : Int) < ((a0.length : Nat) : Int))) then
    (.inl ((W (v1 + (a0.getD (Int.toNat v3) default).1)), (W (v2 + (a0.getD (Int.toNat v3) default).2)), (v3 + 1)))
   else
    (.inr (v1, v2, 0)))

set_option maxHeartbeats 4000000 in
theorem L139_L_0 (a0 : List (Int × Int)) (l0 : a0.length ≤ 9223372036854775807) {cx : Cx} (hcx : cx.base = 1) : ∀ (n : Nat) (v1 : Int) (v2 : Int) (v3 : Int), 0 ≤ v3 → Int.toNat (((a0.length : Nat) : Int) - v3) < n → Aw.Good Tryz.prog none 9 (bodyPost Tryz.prog Tryz.f139 (RR cx (.t (k3 (loopF (S139_L_0 a0) n (v1, v2, v3)))) [] [])) cx [] (.l B139_L_0 n :: K139_L_0) (st139_L_0 a0 v1 v2 v3) := by
  intro n
  induction n with
  | zero => intro v1 v2 v3 hi hn; exact absurd hn (Nat.not_lt_zero _)
  | succ n ih =>
    intro v1 v2 v3 hi hn
    refine good_round ?_
    cases h0 : (decide ((v3 : Int) < ((a0.length : Nat) : Int))) with
    | true =>
     have q0 := of_decide_eq_true h0
     have e := Eq.refl (S139_L_0 a0 (v1, v2, v3)); conv at e => rhs; simp only [S139_L_0, h0, cond_true, cond_false]
     rw [loopF_inl e]
     refine ba [.d h0, .i v3 (a0.length), .L c41_len a0 v3 0 2] [] [2, 3, 16, 17, 18] [] hcx (m := n) B139_L_0 (K139_L_0) (st139_L_0 a0 (W (v1 + (a0.getD (Int.toNat v3) default).1)) (W (v2 + (a0.getD (Int.toNat v3) default).2)) (W (v3 + 1))) (by kernel_rfl) ?_
     have z0 : (W (v3 + 1)) = (v3 + 1) := W_eq (by omega) (by omega)
     rw [z0]
     exact ih (W (v1 + (a0.getD (Int.toNat v3) default).1)) (W (v2 + (a0.getD (Int.toNat v3) default).2)) (v3 + 1) (by (try simp only [List.length_append, List.length_cons, List.length_nil, Int.toNat_zero]); omega) (by (try simp only [List.length_append, List.length_cons, List.length_nil, Int.toNat_zero]); omega)
    | false =>
     have q0 := of_decide_eq_false h0
     have e := Eq.refl (S139_L_0 a0 (v1, v2, v3)); conv at e => rhs; simp only [S139_L_0, h0, cond_true, cond_false]
     rw [loopF_s, e]
     exact rt [.d h0] [] [] hcx (by kernel_rfl)

def F139_L (a0 : List (Int × Int)) : Int × Int × Int :=
  (bif (decide ((((a0.length : Nat) : Int) : Int) > 10000)) then
   (0, 0, 4)
  else
   (bif (((F154_L a0) : Int) != 0) then
    (0, 0, (F154_L a0))
   else
    (loopF (S139_L_0 a0) (Int.toNat (((a0.length : Nat) : Int) - 0) + 1) (0, 0, 0))))

theorem C139_L (a0 : List (Int × Int)) (l0 : a0.length ≤ 9223372036854775807) : Con Tryz.prog 139 [(.s 0 0 a0.length 2)] [(.live false true (flat c41 a0))] (.t (k3 (F139_L a0))) [] := by
  refine con_s Tryz.func139 (by kernel_rfl) fun cx hcx => ?_
  cases h0 : (decide ((((a0.length : Nat) : Int) : Int) > 10000)) with
  | true =>
   have q0 := of_decide_eq_true h0
   have e := Eq.refl (F139_L a0); conv at e => rhs; simp only [F139_L, h0, cond_true, cond_false]
   rw [e]
   exact rt [.d h0] [] [] hcx (by kernel_rfl)
  | false =>
   have q0 := of_decide_eq_false h0
   let t1 : List (St Tryz.prog) := [.d h0, .c [0] (C154_L a0 (by (try simp only [List.length_append, List.length_cons, List.length_nil, Int.toNat_zero]); omega))]
   cases h1 : (((F154_L a0) : Int) != 0) with
   | true =>
    have q1 := bne_iff_ne.1 h1
    have e := Eq.refl (F139_L a0); conv at e => rhs; simp only [F139_L, h0, h1, cond_true, cond_false]
    rw [e]
    exact rt (t1 ++ [.d h1]) [] [] hcx (by kernel_rfl)
   | false =>
    have q1 := bne_eq_false_iff_eq.1 h1
    have e := Eq.refl (F139_L a0); conv at e => rhs; simp only [F139_L, h0, h1, cond_true, cond_false]
    rw [e]
    refine en (t1 ++ [.d h1]) [] [2, 3, 16, 17, 18] [] hcx B139_L_0 (K139_L_0) (st139_L_0 a0 0 0 0) (Int.toNat (((a0.length : Nat) : Int) - 0) + 1) (by kernel_rfl) ?_
    exact L139_L_0 a0 l0 hcx (Int.toNat (((a0.length : Nat) : Int) - 0) + 1) 0 0 0 (by (try simp only [List.length_append, List.length_cons, List.length_nil, Int.toNat_zero]); omega) (by (try simp only [List.length_append, List.length_cons, List.length_nil, Int.toNat_zero]); omega)

def F126_L (a0 : List (Int × Int)) : (Int × Int) × Int :=
  (bif (((F139_L a0).2.2 : Int) != 0) then
   ((0, 0), (F139_L a0).2.2)
  else
   ((F74 (F139_L a0).1 (F139_L a0).2.1).1, (F74 (F139_L a0).1 (F139_L a0).2.1).2))

theorem C126_L (a0 : List (Int × Int)) (l0 : a0.length ≤ 9223372036854775807) : Con Tryz.prog 126 [(.s 0 0 a0.length 2)] [(.live false true (flat c41 a0))] (.t [(.a (k2 (F126_L a0).1)), (iv (F126_L a0).2)]) [] := by
  refine con_s Tryz.func126 (by kernel_rfl) fun cx hcx => ?_
  let t0 : List (St Tryz.prog) := [.c [0] (C139_L a0 (by (try simp only [List.length_append, List.length_cons, List.length_nil, Int.toNat_zero]); omega))]
  cases h0 : (((F139_L a0).2.2 : Int) != 0) with
  | true =>
   have q0 := bne_iff_ne.1 h0
   have e := Eq.refl (F126_L a0); conv at e => rhs; simp only [F126_L, h0, cond_true, cond_false]
   rw [e]
   exact rt (t0 ++ [.d h0]) [] [] hcx (by kernel_rfl)
  | false =>
   have q0 := bne_eq_false_iff_eq.1 h0
   have e := Eq.refl (F126_L a0); conv at e => rhs; simp only [F126_L, h0, cond_true, cond_false]
   rw [e]
   exact rt (t0 ++ [.d h0, .c [] (C74 (F139_L a0).1 (F139_L a0).2.1)]) [] [] hcx (by kernel_rfl)

def F99_L (a0 : List (Int × Int)) : (Int × Int) × Int :=
  (bif (((F139_L a0).2.2 : Int) != 0) then
   ((0, 0), (F139_L a0).2.2)
  else
   (bif ((((a0.length : Nat) : Int) : Int) == 0) then
    ((0, 0), 1)
   else
    ((F74 (F140 (F139_L a0).1 ((a0.length : Nat) : Int)) (F141 (F139_L a0).2.1 ((a0.length : Nat) : Int))).1, (F74 (F140 (F139_L a0).1 ((a0.length : Nat) : Int)) (F141 (F139_L a0).2.1 ((a0.length : Nat) : Int))).2)))

theorem C99_L (a0 : List (Int × Int)) (l0 : a0.length ≤ 9223372036854775807) : Con Tryz.prog 99 [(.s 0 0 a0.length 2)] [(.live false true (flat c41 a0))] (.t [(.a (k2 (F99_L a0).1)), (iv (F99_L a0).2)]) [] := by
  refine con_s Tryz.func99 (by kernel_rfl) fun cx hcx => ?_
  let t0 : List (St Tryz.prog) := [.c [0] (C139_L a0 (by (try simp only [List.length_append, List.length_cons, List.length_nil, Int.toNat_zero]); omega))]
  cases h0 : (((F139_L a0).2.2 : Int) != 0) with
  | true =>
   have q0 := bne_iff_ne.1 h0
   have e := Eq.refl (F99_L a0); conv at e => rhs; simp only [F99_L, h0, cond_true, cond_false]
   rw [e]
   exact rt (t0 ++ [.d h0]) [] [] hcx (by kernel_rfl)
  | false =>
   have q0 := bne_eq_false_iff_eq.1 h0
   let t1 : List (St Tryz.prog) := (t0 ++ [.d h0])
   cases h1 : ((((a0.length : Nat) : Int) : Int) == 0) with
   | true =>
    have q1 := eq_of_beq h1
    have e := Eq.refl (F99_L a0); conv at e => rhs; simp only [F99_L, h0, h1, cond_true, cond_false]
    rw [e]
    exact rt (t1 ++ [.d h1]) [] [] hcx (by kernel_rfl)
   | false =>
    have q1 := ne_of_beq_false h1
    have e := Eq.refl (F99_L a0); conv at e => rhs; simp only [F99_L, h0, h1, cond_true, cond_false]
    rw [e]
    exact rt (t1 ++ [.d h1, .c [] (C140 (F139_L a0).1 ((a0.length : Nat) : Int)  (by (try simp only [List.length_append, List.length_cons, List.length_nil, Int.toNat_zero]); omega)), .c [] (C141 (F139_L a0).2.1 ((a0.length : Nat) : Int)  (by (try simp only [List.length_append, List.length_cons, List.length_nil, Int.toNat_zero]); omega)), .c [] (C74 (F140 (F139_L a0).1 ((a0.length : Nat) : Int)) (F141 (F139_L a0).2.1 ((a0.length : Nat) : Int)))]) [] [] hcx (by kernel_rfl)

def F156 (a0 : Int) (a1 : Int) : Int :=
  (bif ((a0 : Int) != 0) then
   (bif ((a1 : Int) != 0) then
    (bif (decide (((if (a1 : Int) < (W (0 - a1)) then (W (0 - a1)) else a1) : Int) > (W (Int.tdiv 1099511627776 (if (a0 : Int) < (W (0 - a0)) then (W (0 - a0)) else a0))))) then
     (bif (!((decide ((a0 : Int) < 0)) == (decide ((a1 : Int) < 0)))) then
      (-1099511627777)
     else
      1099511627777)
    else
     (W (a0 * a1)))
   else
    (W (a0 * a1)))
  else
   (W (a0 * a1)))

theorem C156 (a0 : Int) (a1 : Int) (ha : -1099511627776 ≤ a0 ∧ a0 ≤ 1099511627776) : Con Tryz.prog 156 [(iv a0), (iv a1)] [] (iv (F156 a0 a1)) [] := by
  refine con_s Tryz.func156 (by kernel_rfl) fun cx hcx => ?_
  cases h0 : ((a0 : Int) != 0) with
  | true =>
   have q0 := bne_iff_ne.1 h0
   let t1 : List (St Tryz.prog) := [.d h0]
   cases h1 : ((a1 : Int) != 0) with
   | true =>
    have q1 := bne_iff_ne.1 h1
    let t2 : List (St Tryz.prog) := (t1 ++ [.d h1, .p (show ((if (a0 : Int) < (W (0 - a0)) then (W (0 - a0)) else a0) : Int) ≠ 0 from by (have hw := W_eq (n := 0 - a0) (by omega) (by omega); rw [hw]; split <;> omega))])
    cases h2 : (decide (((if (a1 : Int) < (W (0 - a1)) then (W (0 - a1)) else a1) : Int) > (W (Int.tdiv 1099511627776 (if (a0 : Int) < (W (0 - a0)) then (W (0 - a0)) else a0))))) with
    | true =>
     have q2 := of_decide_eq_true h2
     let t3 : List (St Tryz.prog) := (t2 ++ [.d h2])
     cases h3 : (!((decide ((a0 : Int) < 0)) == (decide ((a1 : Int) < 0)))) with
     | true =>
      have e := Eq.refl (F156 a0 a1); conv at e => rhs; simp only [F156, h0, h1, h2, h3, cond_true, cond_false]
      rw [e]
      exact rt (t3 ++ [.d h3]) [] [] hcx (by kernel_rfl)
     | false =>
      have e := Eq.refl (F156 a0 a1); conv at e => rhs; simp only [F156, h0, h1, h2, h3, cond_true, cond_false]
      rw [e]
      exact rt (t3 ++ [.d h3]) [] [] hcx (by kernel_rfl)
    | false =>
     have q2 := of_decide_eq_false h2
     have e := Eq.refl (F156 a0 a1); conv at e => rhs; simp only [F156, h0, h1, h2, cond_true, cond_false]
     rw [e]
     exact rt (t2 ++ [.d h2]) [] [] hcx (by kernel_rfl)
   | false =>
    have q1 := bne_eq_false_iff_eq.1 h1
    have e := Eq.refl (F156 a0 a1); conv at e => rhs; simp only [F156, h0, h1, cond_true, cond_false]
    rw [e]
    exact rt (t1 ++ [.d h1]) [] [] hcx (by kernel_rfl)
  | false =>
   have q0 := bne_eq_false_iff_eq.1 h0
   have e := Eq.refl (F156 a0 a1); conv at e => rhs; simp only [F156, h0, cond_true, cond_false]
   rw [e]
   exact rt [.d h0] [] [] hcx (by kernel_rfl)

end Go.Proofs.YthpgabaeefifbaaGreat

namespace Go.Proofs.YthpgabaeefifbaaGreat
open Go.Proofs Go.Aw Go.RowKit
set_option maxRecDepth 100000
set_option linter.unusedVariables false
set_option linter.unusedSimpArgs false

def F82 (a0 : Int) (a1 : Int) (a2 : Int) : Bool :=
  (bif (decide ((a0 : Int) ≥ a1)) then
   (decide ((a0 : Int) ≤ a2))
  else
   false)

theorem C82 (a0 : Int) (a1 : Int) (a2 : Int) : Con Tryz.prog 82 [(iv a0), (iv a1), (iv a2)] [] (.v (.bool (F82 a0 a1 a2))) [] := by
  refine con_s Tryz.func82 (by kernel_rfl) fun cx hcx => ?_
  cases h0 : (decide ((a0 : Int) ≥ a1)) with
  | true =>
   have q0 := of_decide_eq_true h0
   have e := Eq.refl (F82 a0 a1 a2); conv at e => rhs; simp only [F82, h0, cond_true, cond_false]
   rw [e]
   exact rt [.d h0] [] [] hcx (by kernel_rfl)
  | false =>
   have q0 := of_decide_eq_false h0
   have e := Eq.refl (F82 a0 a1 a2); conv at e => rhs; simp only [F82, h0, cond_true, cond_false]
   rw [e]
   exact rt [.d h0] [] [] hcx (by kernel_rfl)

def F95 (a0 : Int × Int) : Bool :=
  (bif (decide ((a0.1 : Int) ≥ (-1099511627776))) then
   (bif (decide ((a0.1 : Int) ≤ a0.2)) then
    (decide ((a0.2 : Int) ≤ 1099511627776))
   else
    false)
  else
   false)

theorem C95 (a0 : Int × Int) : Con Tryz.prog 95 [(.a [(iv a0.1), (iv a0.2)])] [] (.v (.bool (F95 a0))) [] := by
  refine con_s Tryz.func95 (by kernel_rfl) fun cx hcx => ?_
  cases h0 : (decide ((a0.1 : Int) ≥ (-1099511627776))) with
  | true =>
   have q0 := of_decide_eq_true h0
   let t1 : List (St Tryz.prog) := [.d h0]
   cases h1 : (decide ((a0.1 : Int) ≤ a0.2)) with
   | true =>
    have q1 := of_decide_eq_true h1
    have e := Eq.refl (F95 a0); conv at e => rhs; simp only [F95, h0, h1, cond_true, cond_false]
    rw [e]
    exact rt (t1 ++ [.d h1]) [] [] hcx (by kernel_rfl)
   | false =>
    have q1 := of_decide_eq_false h1
    have e := Eq.refl (F95 a0); conv at e => rhs; simp only [F95, h0, h1, cond_true, cond_false]
    rw [e]
    exact rt (t1 ++ [.d h1]) [] [] hcx (by kernel_rfl)
  | false =>
   have q0 := of_decide_eq_false h0
   have e := Eq.refl (F95 a0); conv at e => rhs; simp only [F95, h0, cond_true, cond_false]
   rw [e]
   exact rt [.d h0] [] [] hcx (by kernel_rfl)

def c3 (x : Int) : List SV := [(iv x)]
theorem c3_len (x : Int) : (c3 x).length = 1 := rfl

def F160_3 (a0 : (Int × Int × Int) × (Int × Int × Int) × (Int × Int × Int)) (a1 : Int) : List (Int) :=
  (bif ((a1 : Int) == 0) then
   ([a0.1.1, a0.2.1.1, a0.2.2.1] : List (Int))
  else
   (bif ((a1 : Int) == 1) then
    ([a0.1.2.1, a0.2.1.2.1, a0.2.2.2.1] : List (Int))
   else
    ([a0.1.2.2, a0.2.1.2.2, a0.2.2.2.2] : List (Int))))

theorem C160_3 (a0 : (Int × Int × Int) × (Int × Int × Int) × (Int × Int × Int)) (a1 : Int) : Con Tryz.prog 160 [(.s 0 0 3 3), (iv a1)] [(.live false false (k9 a0))] (.s 1 0 (F160_3 a0 a1).length 1) [(.live true true (flat c3 (F160_3 a0 a1)))] := by
  refine con_s Tryz.func160 (by kernel_rfl) fun cx hcx => ?_
  let t0 : List (St Tryz.prog) := [.u 200, .T]
  cases h0 : ((a1 : Int) == 0) with
  | true =>
   have q0 := eq_of_beq h0
   have e := Eq.refl (F160_3 a0 a1); conv at e => rhs; simp only [F160_3, h0, cond_true, cond_false]
   rw [e]
   exact rt (t0 ++ [.d h0, .i 0 3 (by decide), .u 0, .T, .d h0, .i 1 3 (by decide), .u 0, .T, .d h0, .i 2 3 (by decide), .u 0, .F]) [.sym 6 true] [6] hcx (by kernel_rfl)
  | false =>
   have q0 := ne_of_beq_false h0
   let t1 : List (St Tryz.prog) := (t0 ++ [.d h0])
   cases h1 : ((a1 : Int) == 1) with
   | true =>
    have q1 := eq_of_beq h1
    have e := Eq.refl (F160_3 a0 a1); conv at e => rhs; simp only [F160_3, h0, h1, cond_true, cond_false]
    rw [e]
    exact rt (t1 ++ [.d h1, .i 0 3 (by decide), .u 0, .T, .d h0, .d h1, .i 1 3 (by decide), .u 0, .T, .d h0, .d h1, .i 2 3 (by decide), .u 0, .F]) [.sym 6 true] [6] hcx (by kernel_rfl)
   | false =>
    have q1 := ne_of_beq_false h1
    have e := Eq.refl (F160_3 a0 a1); conv at e => rhs; simp only [F160_3, h0, h1, cond_true, cond_false]
    rw [e]
    exact rt (t1 ++ [.d h1, .i 0 3 (by decide), .u 0, .T, .d h0, .d h1, .i 1 3 (by decide), .u 0, .T, .d h0, .d h1, .i 2 3 (by decide), .u 0, .F]) [.sym 6 true] [6] hcx (by kernel_rfl)

def F160_1 (a0 : Int × Int × Int) (a1 : Int) : List (Int) :=
  (bif ((a1 : Int) == 0) then
   ([a0.1] : List (Int))
  else
   (bif ((a1 : Int) == 1) then
    ([a0.2.1] : List (Int))
   else
    ([a0.2.2] : List (Int))))

theorem win_ne {a b c : Int} (h : (!(F82 a b c)) = false) (hb : 1 ≤ b := by omega) : a ≠ 0 := by
  unfold F82 at h
  cases h1 : decide ((a : Int) ≥ b) with
  | true => have := of_decide_eq_true h1; omega
  | false => simp [h1] at h
theorem axis3 (a : (Int × Int × Int) × (Int × Int × Int) × (Int × Int × Int)) (k : Int) : (F160_3 a k).length = 3 := by
  unfold F160_3
  cases ((k : Int) == 0) <;> cases ((k : Int) == 1) <;> rfl
theorem axis1 (a : Int × Int × Int) (k : Int) : (F160_1 a k).length = 1 := by
  unfold F160_1
  cases ((k : Int) == 0) <;> cases ((k : Int) == 1) <;> rfl

noncomputable def B163_0 : Code := (loopAtD [1, 1, 0] [] (bodyOf Tryz.f163) []).1
noncomputable def K163_0 : List K := (loopAtD [1, 1, 0] [] (bodyOf Tryz.f163) []).2

def st163_0 (a0 : Int) (v2 : Int) (v3 : Int) : LS := ⟨slN 23 [(0, (iv a0)), (3, (iv v2)), (4, (iv v3))], []⟩

def S163_0 (a0 : Int) : Int × Int → (Int × Int) ⊕ (Int)
  | (v2, v3) =>
   (bif (decide ((v2 : Int) < v3)) then
    (bif (decide (((W ((W (Int.tdiv (W ((W (v2 + v3)) + 1)) 2)) * (W (Int.tdiv (W ((W (v2 + v3)) + 1)) 2)))) : Int) ≤ a0)) then
     (.inl ((W (Int.tdiv (W ((W (v2 + v3)) + 1)) 2)), v3))
    else
     (.inl (v2, (W ((W (Int.tdiv (W ((W (v2 + v3)) + 1)) 2)) - 1)))))
   else
    (.inr v2))

set_option maxHeartbeats 4000000 in
theorem L163_0 (a0 : Int) {cx : Cx} (hcx : cx.base = 0) : ∀ (n : Nat) (v2 : Int) (v3 : Int), (0 ≤ v2) ∧ (0 ≤ v2) ∧ (v2 ≤ v3) ∧ (v3 ≤ 2147483648) → Int.toNat (v3 - v2) < n → Aw.Good Tryz.prog none 9 (bodyPost Tryz.prog Tryz.f163 (RR cx (iv (loopF (S163_0 a0) n (v2, v3))) [] [])) cx [] (.l B163_0 n :: K163_0) (st163_0 a0 v2 v3) := by
  intro n
  induction n with
  | zero => intro v2 v3 hi hn; exact absurd hn (Nat.not_lt_zero _)
  | succ n ih =>
    intro v2 v3 hi hn
    refine good_round ?_
    have hw := mid1_eq (a := v2) (b := v3) (by omega)
    have hw2 := mid2_eq (a := v2) (b := v3) (by omega)
    cases h0 : (decide ((v2 : Int) < v3)) with
    | true =>
     have q0 := of_decide_eq_true h0
     let t1 : List (St Tryz.prog) := [.d h0, .p (show (2 : Int) ≠ 0 from by decide)]
     cases h1 : (decide (((W ((W (Int.tdiv (W ((W (v2 + v3)) + 1)) 2)) * (W (Int.tdiv (W ((W (v2 + v3)) + 1)) 2)))) : Int) ≤ a0)) with
     | true =>
      have q1 := of_decide_eq_true h1
      have e := Eq.refl (S163_0 a0 (v2, v3)); conv at e => rhs; simp only [S163_0, h0, h1, cond_true, cond_false]
      rw [loopF_inl e]
      refine ba (t1 ++ [.d h1]) [] [0, 3, 4] [] hcx (m := n) B163_0 (K163_0) (st163_0 a0 (W (Int.tdiv (W ((W (v2 + v3)) + 1)) 2)) v3) (by kernel_rfl) ?_
      exact ih (W (Int.tdiv (W ((W (v2 + v3)) + 1)) 2)) v3 (by refine ⟨?_, ?_, ?_, ?_⟩ <;> (try simp only [List.length_append, List.length_cons, List.length_nil, Int.toNat_zero]) <;> first | omega | assumption | simp) (by (try simp only [List.length_append, List.length_cons, List.length_nil, Int.toNat_zero]); omega)
     | false =>
      have q1 := of_decide_eq_false h1
      have e := Eq.refl (S163_0 a0 (v2, v3)); conv at e => rhs; simp only [S163_0, h0, h1, cond_true, cond_false]
      rw [loopF_inl e]
      refine ba (t1 ++ [.d h1]) [] [0, 3, 4] [] hcx (m := n) B163_0 (K163_0) (st163_0 a0 v2 (W ((W (Int.tdiv (W ((W (v2 + v3)) + 1)) 2)) - 1))) (by kernel_rfl) ?_
      exact ih v2 (W ((W (Int.tdiv (W ((W (v2 + v3)) + 1)) 2)) - 1)) (by refine ⟨?_, ?_, ?_, ?_⟩ <;> (try simp only [List.length_append, List.length_cons, List.length_nil, Int.toNat_zero]) <;> first | omega | assumption | simp) (by (try simp only [List.length_append, List.length_cons, List.length_nil, Int.toNat_zero]); omega)
    | false =>
     have q0 := of_decide_eq_false h0
     have e := Eq.refl (S163_0 a0 (v2, v3)); conv at e => rhs; simp only [S163_0, h0, cond_true, cond_false]
     rw [loopF_s, e]
     exact rt [.d h0] [] [] hcx (by kernel_rfl)

def F163 (a0 : Int) : Int :=
  (loopF (S163_0 a0) (Int.toNat (2147483648 - 0) + 1) (0, 2147483648))

theorem C163 (a0 : Int) : Con Tryz.prog 163 [(iv a0)] [] (iv (F163 a0)) [] := by
  refine con_s Tryz.func163 (by kernel_rfl) fun cx hcx => ?_
  have e := Eq.refl (F163 a0); conv at e => rhs; simp only [F163]
  rw [e]
  refine en [] [] [0, 3, 4] [] hcx B163_0 (K163_0) (st163_0 a0 0 2147483648) (Int.toNat (2147483648 - 0) + 1) (by kernel_rfl) ?_
  exact L163_0 a0 hcx (Int.toNat (2147483648 - 0) + 1) 0 2147483648 (by refine ⟨?_, ?_, ?_, ?_⟩ <;> (try simp only [List.length_append, List.length_cons, List.length_nil, Int.toNat_zero]) <;> first | omega | assumption | simp) (by (try simp only [List.length_append, List.length_cons, List.length_nil, Int.toNat_zero]); omega)

def F84 (a0 : Int) (a1 : Int) : (Int × Int) × Int :=
  (bif (!(F95 (a0, a1))) then
   ((0, 0), 4)
  else
   ((a0, a1), 0))

theorem C84 (a0 : Int) (a1 : Int) : Con Tryz.prog 84 [(iv a0), (iv a1)] [] (.t [(.a (k2 (F84 a0 a1).1)), (iv (F84 a0 a1).2)]) [] := by
  refine con_s Tryz.func84 (by kernel_rfl) fun cx hcx => ?_
  let t0 : List (St Tryz.prog) := [.c [] (C95 (a0, a1))]
  cases h0 : (!(F95 (a0, a1))) with
  | true =>
   have e := Eq.refl (F84 a0 a1); conv at e => rhs; simp only [F84, h0, cond_true, cond_false]
   rw [e]
   exact rt (t0 ++ [.d h0]) [] [] hcx (by kernel_rfl)
  | false =>
   have e := Eq.refl (F84 a0 a1); conv at e => rhs; simp only [F84, h0, cond_true, cond_false]
   rw [e]
   exact rt (t0 ++ [.d h0]) [] [] hcx (by kernel_rfl)

def F158 (a0 : Int) (a1 : Int) : (Int × Int) × Int :=
  (bif (((Int.tmod a0 a1) : Int) == 0) then
   (bif (((W ((F163 (W (Int.tdiv a0 a1))) * (F163 (W (Int.tdiv a0 a1))))) : Int) == (W (Int.tdiv a0 a1))) then
    ((F84 (F163 (W (Int.tdiv a0 a1))) (F163 (W (Int.tdiv a0 a1)))).1, (F84 (F163 (W (Int.tdiv a0 a1))) (F163 (W (Int.tdiv a0 a1)))).2)
   else
    ((F84 (F163 (W (Int.tdiv a0 a1))) (W ((F163 (W (Int.tdiv a0 a1))) + 1))).1, (F84 (F163 (W (Int.tdiv a0 a1))) (W ((F163 (W (Int.tdiv a0 a1))) + 1))).2))
  else
   ((F84 (F163 (W (Int.tdiv a0 a1))) (W ((F163 (W (Int.tdiv a0 a1))) + 1))).1, (F84 (F163 (W (Int.tdiv a0 a1))) (W ((F163 (W (Int.tdiv a0 a1))) + 1))).2))

theorem C158 (a0 : Int) (a1 : Int) (ha : a1 ≠ 0) : Con Tryz.prog 158 [(iv a0), (iv a1)] [] (.t [(.a (k2 (F158 a0 a1).1)), (iv (F158 a0 a1).2)]) [] := by
  refine con_s Tryz.func158 (by kernel_rfl) fun cx hcx => ?_
  let t0 : List (St Tryz.prog) := [.p (show (a1 : Int) ≠ 0 from by first | omega | (rw [W_eq] <;> omega) | exact u64_nn _), .c [] (C163 (W (Int.tdiv a0 a1))), .p (show (a1 : Int) ≠ 0 from by first | omega | (rw [W_eq] <;> omega) | exact u64_nn _)]
  cases h0 : (((Int.tmod a0 a1) : Int) == 0) with
  | true =>
   have q0 := eq_of_beq h0
   let t1 : List (St Tryz.prog) := (t0 ++ [.d h0, .p (show (a1 : Int) ≠ 0 from by first | omega | (rw [W_eq] <;> omega) | exact u64_nn _)])
   cases h1 : (((W ((F163 (W (Int.tdiv a0 a1))) * (F163 (W (Int.tdiv a0 a1))))) : Int) == (W (Int.tdiv a0 a1))) with
   | true =>
    have q1 := eq_of_beq h1
    have e := Eq.refl (F158 a0 a1); conv at e => rhs; simp only [F158, h0, h1, cond_true, cond_false]
    rw [e]
    exact rt (t1 ++ [.d h1, .c [] (C84 (F163 (W (Int.tdiv a0 a1))) (F163 (W (Int.tdiv a0 a1))))]) [] [] hcx (by kernel_rfl)
   | false =>
    have q1 := ne_of_beq_false h1
    have e := Eq.refl (F158 a0 a1); conv at e => rhs; simp only [F158, h0, h1, cond_true, cond_false]
    rw [e]
    exact rt (t1 ++ [.d h1, .c [] (C84 (F163 (W (Int.tdiv a0 a1))) (W ((F163 (W (Int.tdiv a0 a1))) + 1)))]) [] [] hcx (by kernel_rfl)
  | false =>
   have q0 := ne_of_beq_false h0
   have e := Eq.refl (F158 a0 a1); conv at e => rhs; simp only [F158, h0, cond_true, cond_false]
   rw [e]
   exact rt (t0 ++ [.d h0, .c [] (C84 (F163 (W (Int.tdiv a0 a1))) (W ((F163 (W (Int.tdiv a0 a1))) + 1)))]) [] [] hcx (by kernel_rfl)

def F130 (a0 : Int) (a1 : Int) : (Int × Int) × Int :=
  (bif (!(F82 a0 1 1099511627776)) then
   ((0, 0), 1)
  else
   (bif (!(F82 a1 1 8)) then
    ((0, 0), 1)
   else
    ((F158 (W ((W ((W (1048576 * a1)) * 1048576)) * a1)) a0).1, (F158 (W ((W ((W (1048576 * a1)) * 1048576)) * a1)) a0).2)))

theorem C130 (a0 : Int) (a1 : Int) : Con Tryz.prog 130 [(iv a0), (iv a1)] [] (.t [(.a (k2 (F130 a0 a1).1)), (iv (F130 a0 a1).2)]) [] := by
  refine con_s Tryz.func130 (by kernel_rfl) fun cx hcx => ?_
  let t0 : List (St Tryz.prog) := [.c [] (C82 a0 1 1099511627776)]
  cases h0 : (!(F82 a0 1 1099511627776)) with
  | true =>
   have e := Eq.refl (F130 a0 a1); conv at e => rhs; simp only [F130, h0, cond_true, cond_false]
   rw [e]
   exact rt (t0 ++ [.d h0]) [] [] hcx (by kernel_rfl)
  | false =>
   let t1 : List (St Tryz.prog) := (t0 ++ [.d h0, .c [] (C82 a1 1 8)])
   cases h1 : (!(F82 a1 1 8)) with
   | true =>
    have e := Eq.refl (F130 a0 a1); conv at e => rhs; simp only [F130, h0, h1, cond_true, cond_false]
    rw [e]
    exact rt (t1 ++ [.d h1]) [] [] hcx (by kernel_rfl)
   | false =>
    have e := Eq.refl (F130 a0 a1); conv at e => rhs; simp only [F130, h0, h1, cond_true, cond_false]
    rw [e]
    exact rt (t1 ++ [.d h1, .c [] (C158 (W ((W ((W (1048576 * a1)) * 1048576)) * a1)) a0  (win_ne h0))]) [] [] hcx (by kernel_rfl)

def F157 (a0 : Int) : Int :=
  (F163 a0)

theorem C157 (a0 : Int) : Con Tryz.prog 157 [(iv a0)] [] (iv (F157 a0)) [] := by
  refine con_s Tryz.func157 (by kernel_rfl) fun cx hcx => ?_
  have e := Eq.refl (F157 a0); conv at e => rhs; simp only [F157]
  rw [e]
  exact rt [.c [] (C163 a0)] [] [] hcx (by kernel_rfl)

def F115 (a0 : Int × Int × Int) (a1 : Int × Int × Int) : Int × Int × Int :=
  ((W (a0.1 - a1.1)), (W (a0.2.1 - a1.2.1)), (W (a0.2.2 - a1.2.2)))

theorem C115 (a0 : Int × Int × Int) (a1 : Int × Int × Int) : Con Tryz.prog 115 [(.a (k3 a0)), (.a (k3 a1))] [] (.a (k3 (F115 a0 a1))) [] := by
  refine con_s Tryz.func115 (by kernel_rfl) fun cx hcx => ?_
  have e := Eq.refl (F115 a0 a1); conv at e => rhs; simp only [F115]
  rw [e]
  exact rt [] [] [] hcx (by kernel_rfl)

def F114 (a0 : Int × Int × Int) (a1 : Int × Int × Int) : Int × Int × Int :=
  ((W ((W (a0.2.1 * a1.2.2)) - (W (a0.2.2 * a1.2.1)))), (W ((W (a0.2.2 * a1.1)) - (W (a0.1 * a1.2.2)))), (W ((W (a0.1 * a1.2.1)) - (W (a0.2.1 * a1.1)))))

theorem C114 (a0 : Int × Int × Int) (a1 : Int × Int × Int) : Con Tryz.prog 114 [(.a (k3 a0)), (.a (k3 a1))] [] (.a (k3 (F114 a0 a1))) [] := by
  refine con_s Tryz.func114 (by kernel_rfl) fun cx hcx => ?_
  have e := Eq.refl (F114 a0 a1); conv at e => rhs; simp only [F114]
  rw [e]
  exact rt [] [] [] hcx (by kernel_rfl)

def F77 (a0 : (Int × Int × Int) × (Int × Int × Int) × Int × Int × Int) : Int × Int × Int :=
  (F114 (F115 a0.2.1 a0.1) (F115 a0.2.2 a0.1))

theorem C77 (a0 : (Int × Int × Int) × (Int × Int × Int) × Int × Int × Int) : Con Tryz.prog 77 [(.a (k9 a0))] [] (.a (k3 (F77 a0))) [] := by
  refine con_s Tryz.func77 (by kernel_rfl) fun cx hcx => ?_
  have e := Eq.refl (F77 a0); conv at e => rhs; simp only [F77]
  rw [e]
  exact rt [.c [] (C115 a0.2.1 a0.1), .c [] (C115 a0.2.2 a0.1), .c [] (C114 (F115 a0.2.1 a0.1) (F115 a0.2.2 a0.1))] [] [] hcx (by kernel_rfl)

def F116 (a0 : Int × Int × Int) (a1 : Int × Int × Int) : Int :=
  (W ((W ((W (a0.1 * a1.1)) + (W (a0.2.1 * a1.2.1)))) + (W (a0.2.2 * a1.2.2))))

theorem C116 (a0 : Int × Int × Int) (a1 : Int × Int × Int) : Con Tryz.prog 116 [(.a (k3 a0)), (.a (k3 a1))] [] (iv (F116 a0 a1)) [] := by
  refine con_s Tryz.func116 (by kernel_rfl) fun cx hcx => ?_
  have e := Eq.refl (F116 a0 a1); conv at e => rhs; simp only [F116]
  rw [e]
  exact rt [] [] [] hcx (by kernel_rfl)

def F75 (a0 : Int) (a1 : Int) (a2 : Int) : Bool :=
  (bif (decide ((a0 : Int) ≥ a1)) then
   (decide ((a0 : Int) ≤ a2))
  else
   false)

theorem C75 (a0 : Int) (a1 : Int) (a2 : Int) : Con Tryz.prog 75 [(iv a0), (iv a1), (iv a2)] [] (.v (.bool (F75 a0 a1 a2))) [] := by
  refine con_s Tryz.func75 (by kernel_rfl) fun cx hcx => ?_
  cases h0 : (decide ((a0 : Int) ≥ a1)) with
  | true =>
   have q0 := of_decide_eq_true h0
   have e := Eq.refl (F75 a0 a1 a2); conv at e => rhs; simp only [F75, h0, cond_true, cond_false]
   rw [e]
   exact rt [.d h0] [] [] hcx (by kernel_rfl)
  | false =>
   have q0 := of_decide_eq_false h0
   have e := Eq.refl (F75 a0 a1 a2); conv at e => rhs; simp only [F75, h0, cond_true, cond_false]
   rw [e]
   exact rt [.d h0] [] [] hcx (by kernel_rfl)

def F76 (a0 : Int × Int × Int) (a1 : Int) : Bool :=
  (bif (F75 a0.1 (W (0 - a1)) a1) then
   (bif (F75 a0.2.1 (W (0 - a1)) a1) then
    (F75 a0.2.2 (W (0 - a1)) a1)
   else
    false)
  else
   false)

theorem C76 (a0 : Int × Int × Int) (a1 : Int) : Con Tryz.prog 76 [(.a (k3 a0)), (iv a1)] [] (.v (.bool (F76 a0 a1))) [] := by
  refine con_s Tryz.func76 (by kernel_rfl) fun cx hcx => ?_
  let t0 : List (St Tryz.prog) := [.c [] (C75 a0.1 (W (0 - a1)) a1)]
  cases h0 : (F75 a0.1 (W (0 - a1)) a1) with
  | true =>
   let t1 : List (St Tryz.prog) := (t0 ++ [.d h0, .c [] (C75 a0.2.1 (W (0 - a1)) a1)])
   cases h1 : (F75 a0.2.1 (W (0 - a1)) a1) with
   | true =>
    have e := Eq.refl (F76 a0 a1); conv at e => rhs; simp only [F76, h0, h1, cond_true, cond_false]
    rw [e]
    exact rt (t1 ++ [.d h1, .c [] (C75 a0.2.2 (W (0 - a1)) a1)]) [] [] hcx (by kernel_rfl)
   | false =>
    have e := Eq.refl (F76 a0 a1); conv at e => rhs; simp only [F76, h0, h1, cond_true, cond_false]
    rw [e]
    exact rt (t1 ++ [.d h1]) [] [] hcx (by kernel_rfl)
  | false =>
   have e := Eq.refl (F76 a0 a1); conv at e => rhs; simp only [F76, h0, cond_true, cond_false]
   rw [e]
   exact rt (t0 ++ [.d h0]) [] [] hcx (by kernel_rfl)

def F127 (a0 : (Int × Int × Int) × (Int × Int × Int) × Int × Int × Int) : Int :=
  (bif (!(F76 a0.1 64)) then
   1
  else
   (bif (!(F76 a0.2.1 64)) then
    1
   else
    (bif (!(F76 a0.2.2 64)) then
     1
    else
     (bif ((((F77 a0).1 : Int) == 0) && ((((F77 a0).2.1 : Int) == 0) && ((((F77 a0).2.2 : Int) == 0) && true))) then
      6
     else
      0))))

theorem C127 (a0 : (Int × Int × Int) × (Int × Int × Int) × Int × Int × Int) : Con Tryz.prog 127 [(.a (k9 a0))] [] (iv (F127 a0)) [] := by
  refine con_s Tryz.func127 (by kernel_rfl) fun cx hcx => ?_
  let t0 : List (St Tryz.prog) := [.c [] (C76 a0.1 64)]
  cases h0 : (!(F76 a0.1 64)) with
  | true =>
   have e := Eq.refl (F127 a0); conv at e => rhs; simp only [F127, h0, cond_true, cond_false]
   rw [e]
   exact rt (t0 ++ [.d h0]) [] [] hcx (by kernel_rfl)
  | false =>
   let t1 : List (St Tryz.prog) := (t0 ++ [.d h0, .c [] (C76 a0.2.1 64)])
   cases h1 : (!(F76 a0.2.1 64)) with
   | true =>
    have e := Eq.refl (F127 a0); conv at e => rhs; simp only [F127, h0, h1, cond_true, cond_false]
    rw [e]
    exact rt (t1 ++ [.d h1]) [] [] hcx (by kernel_rfl)
   | false =>
    let t2 : List (St Tryz.prog) := (t1 ++ [.d h1, .c [] (C76 a0.2.2 64)])
    cases h2 : (!(F76 a0.2.2 64)) with
    | true =>
     have e := Eq.refl (F127 a0); conv at e => rhs; simp only [F127, h0, h1, h2, cond_true, cond_false]
     rw [e]
     exact rt (t2 ++ [.d h2]) [] [] hcx (by kernel_rfl)
    | false =>
     let t3 : List (St Tryz.prog) := (t2 ++ [.d h2, .c [] (C77 a0)])
     cases h3 : ((((F77 a0).1 : Int) == 0) && ((((F77 a0).2.1 : Int) == 0) && ((((F77 a0).2.2 : Int) == 0) && true))) with
     | true =>
      have e := Eq.refl (F127 a0); conv at e => rhs; simp only [F127, h0, h1, h2, h3, cond_true, cond_false]
      rw [e]
      exact rt (t3 ++ [.d h3]) [] [] hcx (by kernel_rfl)
     | false =>
      have e := Eq.refl (F127 a0); conv at e => rhs; simp only [F127, h0, h1, h2, h3, cond_true, cond_false]
      rw [e]
      exact rt (t3 ++ [.d h3]) [] [] hcx (by kernel_rfl)

def F128 (a0 : Int) (a1 : Int) (a2 : Int) : Bool :=
  (bif (decide ((a0 : Int) ≥ a1)) then
   (decide ((a0 : Int) ≤ a2))
  else
   false)

theorem C128 (a0 : Int) (a1 : Int) (a2 : Int) : Con Tryz.prog 128 [(iv a0), (iv a1), (iv a2)] [] (.v (.bool (F128 a0 a1 a2))) [] := by
  refine con_s Tryz.func128 (by kernel_rfl) fun cx hcx => ?_
  cases h0 : (decide ((a0 : Int) ≥ a1)) with
  | true =>
   have q0 := of_decide_eq_true h0
   have e := Eq.refl (F128 a0 a1 a2); conv at e => rhs; simp only [F128, h0, cond_true, cond_false]
   rw [e]
   exact rt [.d h0] [] [] hcx (by kernel_rfl)
  | false =>
   have q0 := of_decide_eq_false h0
   have e := Eq.refl (F128 a0 a1 a2); conv at e => rhs; simp only [F128, h0, cond_true, cond_false]
   rw [e]
   exact rt [.d h0] [] [] hcx (by kernel_rfl)

def F92 (a0 : (Int × Int × Int) × (Int × Int × Int) × Int × Int × Int) (a1 : (Int × Int × Int) × (Int × Int × Int) × Int × Int × Int) (a2 : Int) : Int :=
  (bif (((F127 a0) : Int) != 0) then
   (F127 a0)
  else
   (bif (((F127 a1) : Int) != 0) then
    (F127 a1)
   else
    (bif (!(F128 a2 0 2)) then
     1
    else
     0)))

theorem C92 (a0 : (Int × Int × Int) × (Int × Int × Int) × Int × Int × Int) (a1 : (Int × Int × Int) × (Int × Int × Int) × Int × Int × Int) (a2 : Int) : Con Tryz.prog 92 [(.a (k9 a0)), (.a (k9 a1)), (iv a2)] [] (iv (F92 a0 a1 a2)) [] := by
  refine con_s Tryz.func92 (by kernel_rfl) fun cx hcx => ?_
  let t0 : List (St Tryz.prog) := [.c [] (C127 a0)]
  cases h0 : (((F127 a0) : Int) != 0) with
  | true =>
   have q0 := bne_iff_ne.1 h0
   have e := Eq.refl (F92 a0 a1 a2); conv at e => rhs; simp only [F92, h0, cond_true, cond_false]
   rw [e]
   exact rt (t0 ++ [.d h0]) [] [] hcx (by kernel_rfl)
  | false =>
   have q0 := bne_eq_false_iff_eq.1 h0
   let t1 : List (St Tryz.prog) := (t0 ++ [.d h0, .c [] (C127 a1)])
   cases h1 : (((F127 a1) : Int) != 0) with
   | true =>
    have q1 := bne_iff_ne.1 h1
    have e := Eq.refl (F92 a0 a1 a2); conv at e => rhs; simp only [F92, h0, h1, cond_true, cond_false]
    rw [e]
    exact rt (t1 ++ [.d h1]) [] [] hcx (by kernel_rfl)
   | false =>
    have q1 := bne_eq_false_iff_eq.1 h1
    let t2 : List (St Tryz.prog) := (t1 ++ [.d h1, .c [] (C128 a2 0 2)])
    cases h2 : (!(F128 a2 0 2)) with
    | true =>
     have e := Eq.refl (F92 a0 a1 a2); conv at e => rhs; simp only [F92, h0, h1, h2, cond_true, cond_false]
     rw [e]
     exact rt (t2 ++ [.d h2]) [] [] hcx (by kernel_rfl)
    | false =>
     have e := Eq.refl (F92 a0 a1 a2); conv at e => rhs; simp only [F92, h0, h1, h2, cond_true, cond_false]
     rw [e]
     exact rt (t2 ++ [.d h2]) [] [] hcx (by kernel_rfl)

def c65 (x : (Int × Int × Int) × (Int × Int × Int) × Int × Int × Int) : List SV := [(iv x.1.1), (iv x.1.2.1), (iv x.1.2.2), (iv x.2.1.1), (iv x.2.1.2.1), (iv x.2.1.2.2), (iv x.2.2.1), (iv x.2.2.2.1), (iv x.2.2.2.2)]
theorem c65_len (x : (Int × Int × Int) × (Int × Int × Int) × Int × Int × Int) : (c65 x).length = 9 := rfl

def F94 (a0 : Int × Int × Int) (a1 : Int) : Int × Int × Int :=
  ((W (a1 * a0.1)), (W (a1 * a0.2.1)), (W (a1 * a0.2.2)))

theorem C94 (a0 : Int × Int × Int) (a1 : Int) : Con Tryz.prog 94 [(.a (k3 a0)), (iv a1)] [] (.a (k3 (F94 a0 a1))) [] := by
  refine con_s Tryz.func94 (by kernel_rfl) fun cx hcx => ?_
  have e := Eq.refl (F94 a0 a1); conv at e => rhs; simp only [F94]
  rw [e]
  exact rt [] [] [] hcx (by kernel_rfl)

def F142 (a0 : Int × Int × Int) (a1 : Int × Int × Int) : Int × Int × Int :=
  ((W (Int.tdiv (W (a0.1 + a1.1)) 2)), (W (Int.tdiv (W (a0.2.1 + a1.2.1)) 2)), (W (Int.tdiv (W (a0.2.2 + a1.2.2)) 2)))

theorem C142 (a0 : Int × Int × Int) (a1 : Int × Int × Int) : Con Tryz.prog 142 [(.a (k3 a0)), (.a (k3 a1))] [] (.a (k3 (F142 a0 a1))) [] := by
  refine con_s Tryz.func142 (by kernel_rfl) fun cx hcx => ?_
  have e := Eq.refl (F142 a0 a1); conv at e => rhs; simp only [F142]
  rw [e]
  exact rt [.p (show (2 : Int) ≠ 0 from by decide), .p (show (2 : Int) ≠ 0 from by decide), .p (show (2 : Int) ≠ 0 from by decide)] [] [] hcx (by kernel_rfl)

noncomputable def B100_1 : Code := (loopAtD [1, 1, 0, 1, 0, 1, 0, 1, 0, 1] [0] (bodyOf Tryz.f100) []).1
noncomputable def K100_1 (m0 : Nat) : List K := (loopAtD [1, 1, 0, 1, 0, 1, 0, 1, 0, 1] [m0] (bodyOf Tryz.f100) []).2

def st100_1 (a0 : (Int × Int × Int) × (Int × Int × Int) × Int × Int × Int) (a1 : Int) (v13c : List SV) (v13n : Nat) (v14c : List SV) (v14n : Nat) (v15 : Int) (v16 : Int) : LS := ⟨slN 76 [(1, (iv a1)), (5, (.s 0 0 v13n 9)), (6, (iv v15)), (7, (.s 1 0 v14n 9)), (8, (iv v16))], [(.live true true v13c), (.live true true v14c)]⟩

def S100_1 (a0 : (Int × Int × Int) × (Int × Int × Int) × Int × Int × Int) (a1 : Int) : (List ((Int × Int × Int) × (Int × Int × Int) × Int × Int × Int)) × (List ((Int × Int × Int) × (Int × Int × Int) × Int × Int × Int)) × Int × Int → ((List ((Int × Int × Int) × (Int × Int × Int) × Int × Int × Int)) × (List ((Int × Int × Int) × (Int × Int × Int) × Int × Int × Int)) × Int × Int) ⊕ (((List ((Int × Int × Int) × (Int × Int × Int) × Int × Int × Int)) × Int) ⊕ (List ((Int × Int × Int) × (Int × Int × Int) × Int × Int × Int)))
  | (v13, v14, v15, v16) =>
   (bif (decide ((v16 : Int) < ((v13.length : Nat) : Int))) then
    (.inl (v13, (v14 ++ [((F94 (v13.getD (Int.toNat v16) default).1 2), (F142 (F94 (v13.getD (Int.toNat v16) default).1 2) (F94 (v13.getD (Int.toNat v16) default).2.1 2)), (F142 (F94 (v13.getD (Int.toNat v16) default).2.2 2) (F94 (v13.getD (Int.toNat v16) default).1 2))), ((F142 (F94 (v13.getD (Int.toNat v16) default).1 2) (F94 (v13.getD (Int.toNat v16) default).2.1 2)), (F94 (v13.getD (Int.toNat v16) default).2.1 2), (F142 (F94 (v13.getD (Int.toNat v16) default).2.1 2) (F94 (v13.getD (Int.toNat v16) default).2.2 2))), ((F142 (F94 (v13.getD (Int.toNat v16) default).2.2 2) (F94 (v13.getD (Int.toNat v16) default).1 2)), (F142 (F94 (v13.getD (Int.toNat v16) default).2.1 2) (F94 (v13.getD (Int.toNat v16) default).2.2 2)), (F94 (v13.getD (Int.toNat v16) default).2.2 2)), ((F142 (F94 (v13.getD (Int.toNat v16) default).1 2) (F94 (v13.getD (Int.toNat v16) default).2.1 2)), (F142 (F94 (v13.getD (Int.toNat v16) default).2.1 2) (F94 (v13.getD (Int.toNat v16) default).2.2 2)), (F142 (F94 (v13.getD (Int.toNat v16) default).2.2 2) (F94 (v13.getD (Int.toNat v16) default).1 2)))]), v15, (v16 + 1)))
   else
    (.inr (.inl (v14, (v15 + 1)))))

noncomputable def B100_0 : Code := (loopAtD [1, 1, 0, 1] [] (bodyOf Tryz.f100) []).1
noncomputable def K100_0 : List K := (loopAtD [1, 1, 0, 1] [] (bodyOf Tryz.f100) []).2

def st100_0 (a0 : (Int × Int × Int) × (Int × Int × Int) × Int × Int × Int) (a1 : Int) (v11c : List SV) (v11n : Nat) (v12 : Int) : LS := ⟨slN 76 [(1, (iv a1)), (5, (.s 0 0 v11n 9)), (6, (iv v12))], [(.live true true v11c)]⟩

def S100_0 (a0 : (Int × Int × Int) × (Int × Int × Int) × Int × Int × Int) (a1 : Int) : (List ((Int × Int × Int) × (Int × Int × Int) × Int × Int × Int)) × Int → ((List ((Int × Int × Int) × (Int × Int × Int) × Int × Int × Int)) × Int) ⊕ (List ((Int × Int × Int) × (Int × Int × Int) × Int × Int × Int))
  | (v11, v12) =>
   (bif (decide ((v12 : Int) < a1)) then
    (loopF (S100_1 a0 a1) (Int.toNat (((v11.length : Nat) : Int) - 0) + 1) (v11, ([] : List ((Int × Int × Int) × (Int × Int × Int) × Int × Int × Int)), v12, 0))
   else
    (.inr v11))

set_option maxHeartbeats 4000000 in
theorem L100_1 (a0 : (Int × Int × Int) × (Int × Int × Int) × Int × Int × Int) (a1 : Int) (ha : 0 ≤ a1 ∧ a1 ≤ 3) {cx : Cx} (hcx : cx.base = 0)
    (n0 : Nat) (g0 : ∀ (v11 : List ((Int × Int × Int) × (Int × Int × Int) × Int × Int × Int)) (v12 : Int), (0 ≤ v12) ∧ (v12 = 0 ∧ v11.length ≤ 1 ∨ v12 = 1 ∧ v11.length ≤ 4 ∨ v12 = 2 ∧ v11.length ≤ 16 ∨ 3 ≤ v12 ∧ v11.length ≤ 64) → Int.toNat (a1 - v12) < n0 → Aw.Good Tryz.prog none 9 (bodyPost Tryz.prog Tryz.f100 (RR cx (.s 0 0 (loopF (S100_0 a0 a1) n0 (v11, v12)).length 9) [(.live true true (flat c65 (loopF (S100_0 a0 a1) n0 (v11, v12))))] [])) cx [] (.l B100_0 n0 :: K100_0) (st100_0 a0 a1 (flat c65 v11) v11.length v12)) : ∀ (n : Nat) (v13 : List ((Int × Int × Int) × (Int × Int × Int) × Int × Int × Int)) (v14 : List ((Int × Int × Int) × (Int × Int × Int) × Int × Int × Int)) (v15 : Int) (v16 : Int), (0 ≤ v16) ∧ (v14.length = 4 * Int.toNat v16) ∧ (v16 ≤ v13.length) ∧ ((0 ≤ v15)) ∧ ((v15 = 0 ∧ v13.length ≤ 1 ∨ v15 = 1 ∧ v13.length ≤ 4 ∨ v15 = 2 ∧ v13.length ≤ 16 ∨ 3 ≤ v15 ∧ v13.length ≤ 64)) ∧ (v15 < a1) ∧ (Int.toNat (a1 - v15) < n0 + 1) → Int.toNat (((v13.length : Nat) : Int) - v16) < n → Aw.Good Tryz.prog none 9 (bodyPost Tryz.prog Tryz.f100 (RR cx (.s 0 0 (thenF (S100_0 a0 a1) n0 (loopF (S100_1 a0 a1) n (v13, v14, v15, v16))).length 9) [(.live true true (flat c65 (thenF (S100_0 a0 a1) n0 (loopF (S100_1 a0 a1) n (v13, v14, v15, v16)))))] [])) cx [] (.l B100_1 n :: K100_1 n0) (st100_1 a0 a1 (flat c65 v13) v13.length (flat c65 v14) v14.length v15 v16) := by
  intro n
  induction n with
  | zero => intro v13 v14 v15 v16 hi hn; exact absurd hn (Nat.not_lt_zero _)
  | succ n ih =>
    intro v13 v14 v15 v16 hi hn
    refine good_round ?_
    cases h0 : (decide ((v16 : Int) < ((v13.length : Nat) : Int))) with
    | true =>
     have q0 := of_decide_eq_true h0
     have e := Eq.refl (S100_1 a0 a1 (v13, v14, v15, v16)); conv at e => rhs; simp only [S100_1, h0, cond_true, cond_false]
     rw [loopF_inl e]
     refine ba [.d h0, .i v16 (v13.length), .L c65_len v13 v16 0 3, .c [] (C94 (v13.getD (Int.toNat v16) default).1 2), .i v16 (v13.length), .L c65_len v13 v16 3 3, .c [] (C94 (v13.getD (Int.toNat v16) default).2.1 2), .i v16 (v13.length), .L c65_len v13 v16 6 3, .c [] (C94 (v13.getD (Int.toNat v16) default).2.2 2), .c [] (C142 (F94 (v13.getD (Int.toNat v16) default).1 2) (F94 (v13.getD (Int.toNat v16) default).2.1 2)), .c [] (C142 (F94 (v13.getD (Int.toNat v16) default).2.1 2) (F94 (v13.getD (Int.toNat v16) default).2.2 2)), .c [] (C142 (F94 (v13.getD (Int.toNat v16) default).2.2 2) (F94 (v13.getD (Int.toNat v16) default).1 2)), .p (show ((flat c65 v14).length = v14.length * 9 ∧ v14.length + 4 ≤ 2 ^ 40 ∧ (v14.length + 4) * 72 ≤ 2 ^ 47) from app_ok c65_len (by omega) (by omega))] [] [1, 5, 6, 7, 8] [0, 9] hcx (m := n) B100_1 (K100_1 n0) (st100_1 a0 a1 (flat c65 v13) (v13.length) (flat c65 v14 ++ [(iv (F94 (v13.getD (Int.toNat v16) default).1 2).1), (iv (F94 (v13.getD (Int.toNat v16) default).1 2).2.1), (iv (F94 (v13.getD (Int.toNat v16) default).1 2).2.2), (iv (F142 (F94 (v13.getD (Int.toNat v16) default).1 2) (F94 (v13.getD (Int.toNat v16) default).2.1 2)).1), (iv (F142 (F94 (v13.getD (Int.toNat v16) default).1 2) (F94 (v13.getD (Int.toNat v16) default).2.1 2)).2.1), (iv (F142 (F94 (v13.getD (Int.toNat v16) default).1 2) (F94 (v13.getD (Int.toNat v16) default).2.1 2)).2.2), (iv (F142 (F94 (v13.getD (Int.toNat v16) default).2.2 2) (F94 (v13.getD (Int.toNat v16) default).1 2)).1), (iv (F142 (F94 (v13.getD (Int.toNat v16) default).2.2 2) (F94 (v13.getD (Int.toNat v16) default).1 2)).2.1), (iv (F142 (F94 (v13.getD (Int.toNat v16) default).2.2 2) (F94 (v13.getD (Int.toNat v16) default).1 2)).2.2), (iv (F142 (F94 (v13.getD (Int.toNat v16) default).1 2) (F94 (v13.getD (Int.toNat v16) default).2.1 2)).1), (iv (F142 (F94 (v13.getD (Int.toNat v16) default).1 2) (F94 (v13.getD (Int.toNat v16) default).2.1 2)).2.1), (iv (F142 (F94 (v13.getD (Int.toNat v16) default).1 2) (F94 (v13.getD (Int.toNat v16) default).2.1 2)).2.2), (iv (F94 (v13.getD (Int.toNat v16) default).2.1 2).1), (iv (F94 (v13.getD (Int.toNat v16) default).2.1 2).2.1), (iv (F94 (v13.getD (Int.toNat v16) default).2.1 2).2.2), (iv (F142 (F94 (v13.getD (Int.toNat v16) default).2.1 2) (F94 (v13.getD (Int.toNat v16) default).2.2 2)).1), (iv (F142 (F94 (v13.getD (Int.toNat v16) default).2.1 2) (F94 (v13.getD (Int.toNat v16) default).2.2 2)).2.1), (iv (F142 (F94 (v13.getD (Int.toNat v16) default).2.1 2) (F94 (v13.getD (Int.toNat v16) default).2.2 2)).2.2), (iv (F142 (F94 (v13.getD (Int.toNat v16) default).2.2 2) (F94 (v13.getD (Int.toNat v16) default).1 2)).1), (iv (F142 (F94 (v13.getD (Int.toNat v16) default).2.2 2) (F94 (v13.getD (Int.toNat v16) default).1 2)).2.1), (iv (F142 (F94 (v13.getD (Int.toNat v16) default).2.2 2) (F94 (v13.getD (Int.toNat v16) default).1 2)).2.2), (iv (F142 (F94 (v13.getD (Int.toNat v16) default).2.1 2) (F94 (v13.getD (Int.toNat v16) default).2.2 2)).1), (iv (F142 (F94 (v13.getD (Int.toNat v16) default).2.1 2) (F94 (v13.getD (Int.toNat v16) default).2.2 2)).2.1), (iv (F142 (F94 (v13.getD (Int.toNat v16) default).2.1 2) (F94 (v13.getD (Int.toNat v16) default).2.2 2)).2.2), (iv (F94 (v13.getD (Int.toNat v16) default).2.2 2).1), (iv (F94 (v13.getD (Int.toNat v16) default).2.2 2).2.1), (iv (F94 (v13.getD (Int.toNat v16) default).2.2 2).2.2), (iv (F142 (F94 (v13.getD (Int.toNat v16) default).1 2) (F94 (v13.getD (Int.toNat v16) default).2.1 2)).1), (iv (F142 (F94 (v13.getD (Int.toNat v16) default).1 2) (F94 (v13.getD (Int.toNat v16) default).2.1 2)).2.1), (iv (F142 (F94 (v13.getD (Int.toNat v16) default).1 2) (F94 (v13.getD (Int.toNat v16) default).2.1 2)).2.2), (iv (F142 (F94 (v13.getD (Int.toNat v16) default).2.1 2) (F94 (v13.getD (Int.toNat v16) default).2.2 2)).1), (iv (F142 (F94 (v13.getD (Int.toNat v16) default).2.1 2) (F94 (v13.getD (Int.toNat v16) default).2.2 2)).2.1), (iv (F142 (F94 (v13.getD (Int.toNat v16) default).2.1 2) (F94 (v13.getD (Int.toNat v16) default).2.2 2)).2.2), (iv (F142 (F94 (v13.getD (Int.toNat v16) default).2.2 2) (F94 (v13.getD (Int.toNat v16) default).1 2)).1), (iv (F142 (F94 (v13.getD (Int.toNat v16) default).2.2 2) (F94 (v13.getD (Int.toNat v16) default).1 2)).2.1), (iv (F142 (F94 (v13.getD (Int.toNat v16) default).2.2 2) (F94 (v13.getD (Int.toNat v16) default).1 2)).2.2)]) (v14.length + 4) v15 (W (v16 + 1))) (by kernel_rfl) ?_
     have z0 : (W (v16 + 1)) = (v16 + 1) := W_eq (by omega) (by omega)
     have z1 : (flat c65 v14 ++ [(iv (F94 (v13.getD (Int.toNat v16) default).1 2).1), (iv (F94 (v13.getD (Int.toNat v16) default).1 2).2.1), (iv (F94 (v13.getD (Int.toNat v16) default).1 2).2.2), (iv (F142 (F94 (v13.getD (Int.toNat v16) default).1 2) (F94 (v13.getD (Int.toNat v16) default).2.1 2)).1), (iv (F142 (F94 (v13.getD (Int.toNat v16) default).1 2) (F94 (v13.getD (Int.toNat v16) default).2.1 2)).2.1), (iv (F142 (F94 (v13.getD (Int.toNat v16) default).1 2) (F94 (v13.getD (Int.toNat v16) default).2.1 2)).2.2), (iv (F142 (F94 (v13.getD (Int.toNat v16) default).2.2 2) (F94 (v13.getD (Int.toNat v16) default).1 2)).1), (iv (F142 (F94 (v13.getD (Int.toNat v16) default).2.2 2) (F94 (v13.getD (Int.toNat v16) default).1 2)).2.1), (iv (F142 (F94 (v13.getD (Int.toNat v16) default).2.2 2) (F94 (v13.getD (Int.toNat v16) default).1 2)).2.2), (iv (F142 (F94 (v13.getD (Int.toNat v16) default).1 2) (F94 (v13.getD (Int.toNat v16) default).2.1 2)).1), (iv (F142 (F94 (v13.getD (Int.toNat v16) default).1 2) (F94 (v13.getD (Int.toNat v16) default).2.1 2)).2.1), (iv (F142 (F94 (v13.getD (Int.toNat v16) default).1 2) (F94 (v13.getD (Int.toNat v16) default).2.1 2)).2.2), (iv (F94 (v13.getD (Int.toNat v16) default).2.1 2).1), (iv (F94 (v13.getD (Int.toNat v16) default).2.1 2).2.1), (iv (F94 (v13.getD (Int.toNat v16) default).2.1 2).2.2), (iv (F142 (F94 (v13.getD (Int.toNat v16) default).2.1 2) (F94 (v13.getD (Int.toNat v16) default).2.2 2)).1), (iv (F142 (F94 (v13.getD (Int.toNat v16) default).2.1 2) (F94 (v13.getD (Int.toNat v16) default).2.2 2)).2.1), (iv (F142 (F94 (v13.getD (Int.toNat v16) default).2.1 2) (F94 (v13.getD (Int.toNat v16) default).2.2 2)).2.2), (iv (F142 (F94 (v13.getD (Int.toNat v16) default).2.2 2) (F94 (v13.getD (Int.toNat v16) default).1 2)).1), (iv (F142 (F94 (v13.getD (Int.toNat v16) default).2.2 2) (F94 (v13.getD (Int.toNat v16) default).1 2)).2.1), (iv (F142 (F94 (v13.getD (Int.toNat v16) default).2.2 2) (F94 (v13.getD (Int.toNat v16) default).1 2)).2.2), (iv (F142 (F94 (v13.getD (Int.toNat v16) default).2.1 2) (F94 (v13.getD (Int.toNat v16) default).2.2 2)).1), (iv (F142 (F94 (v13.getD (Int.toNat v16) default).2.1 2) (F94 (v13.getD (Int.toNat v16) default).2.2 2)).2.1), (iv (F142 (F94 (v13.getD (Int.toNat v16) default).2.1 2) (F94 (v13.getD (Int.toNat v16) default).2.2 2)).2.2), (iv (F94 (v13.getD (Int.toNat v16) default).2.2 2).1), (iv (F94 (v13.getD (Int.toNat v16) default).2.2 2).2.1), (iv (F94 (v13.getD (Int.toNat v16) default).2.2 2).2.2), (iv (F142 (F94 (v13.getD (Int.toNat v16) default).1 2) (F94 (v13.getD (Int.toNat v16) default).2.1 2)).1), (iv (F142 (F94 (v13.getD (Int.toNat v16) default).1 2) (F94 (v13.getD (Int.toNat v16) default).2.1 2)).2.1), (iv (F142 (F94 (v13.getD (Int.toNat v16) default).1 2) (F94 (v13.getD (Int.toNat v16) default).2.1 2)).2.2), (iv (F142 (F94 (v13.getD (Int.toNat v16) default).2.1 2) (F94 (v13.getD (Int.toNat v16) default).2.2 2)).1), (iv (F142 (F94 (v13.getD (Int.toNat v16) default).2.1 2) (F94 (v13.getD (Int.toNat v16) default).2.2 2)).2.1), (iv (F142 (F94 (v13.getD (Int.toNat v16) default).2.1 2) (F94 (v13.getD (Int.toNat v16) default).2.2 2)).2.2), (iv (F142 (F94 (v13.getD (Int.toNat v16) default).2.2 2) (F94 (v13.getD (Int.toNat v16) default).1 2)).1), (iv (F142 (F94 (v13.getD (Int.toNat v16) default).2.2 2) (F94 (v13.getD (Int.toNat v16) default).1 2)).2.1), (iv (F142 (F94 (v13.getD (Int.toNat v16) default).2.2 2) (F94 (v13.getD (Int.toNat v16) default).1 2)).2.2)]) = (flat c65 (v14 ++ [((F94 (v13.getD (Int.toNat v16) default).1 2), (F142 (F94 (v13.getD (Int.toNat v16) default).1 2) (F94 (v13.getD (Int.toNat v16) default).2.1 2)), (F142 (F94 (v13.getD (Int.toNat v16) default).2.2 2) (F94 (v13.getD (Int.toNat v16) default).1 2))), ((F142 (F94 (v13.getD (Int.toNat v16) default).1 2) (F94 (v13.getD (Int.toNat v16) default).2.1 2)), (F94 (v13.getD (Int.toNat v16) default).2.1 2), (F142 (F94 (v13.getD (Int.toNat v16) default).2.1 2) (F94 (v13.getD (Int.toNat v16) default).2.2 2))), ((F142 (F94 (v13.getD (Int.toNat v16) default).2.2 2) (F94 (v13.getD (Int.toNat v16) default).1 2)), (F142 (F94 (v13.getD (Int.toNat v16) default).2.1 2) (F94 (v13.getD (Int.toNat v16) default).2.2 2)), (F94 (v13.getD (Int.toNat v16) default).2.2 2)), ((F142 (F94 (v13.getD (Int.toNat v16) default).1 2) (F94 (v13.getD (Int.toNat v16) default).2.1 2)), (F142 (F94 (v13.getD (Int.toNat v16) default).2.1 2) (F94 (v13.getD (Int.toNat v16) default).2.2 2)), (F142 (F94 (v13.getD (Int.toNat v16) default).2.2 2) (F94 (v13.getD (Int.toNat v16) default).1 2)))])) := (flat_append (c := c65) (l := v14) (m := [((F94 (v13.getD (Int.toNat v16) default).1 2), (F142 (F94 (v13.getD (Int.toNat v16) default).1 2) (F94 (v13.getD (Int.toNat v16) default).2.1 2)), (F142 (F94 (v13.getD (Int.toNat v16) default).2.2 2) (F94 (v13.getD (Int.toNat v16) default).1 2))), ((F142 (F94 (v13.getD (Int.toNat v16) default).1 2) (F94 (v13.getD (Int.toNat v16) default).2.1 2)), (F94 (v13.getD (Int.toNat v16) default).2.1 2), (F142 (F94 (v13.getD (Int.toNat v16) default).2.1 2) (F94 (v13.getD (Int.toNat v16) default).2.2 2))), ((F142 (F94 (v13.getD (Int.toNat v16) default).2.2 2) (F94 (v13.getD (Int.toNat v16) default).1 2)), (F142 (F94 (v13.getD (Int.toNat v16) default).2.1 2) (F94 (v13.getD (Int.toNat v16) default).2.2 2)), (F94 (v13.getD (Int.toNat v16) default).2.2 2)), ((F142 (F94 (v13.getD (Int.toNat v16) default).1 2) (F94 (v13.getD (Int.toNat v16) default).2.1 2)), (F142 (F94 (v13.getD (Int.toNat v16) default).2.1 2) (F94 (v13.getD (Int.toNat v16) default).2.2 2)), (F142 (F94 (v13.getD (Int.toNat v16) default).2.2 2) (F94 (v13.getD (Int.toNat v16) default).1 2)))])).symm
     have z2 : (v14.length + 4) = (v14 ++ [((F94 (v13.getD (Int.toNat v16) default).1 2), (F142 (F94 (v13.getD (Int.toNat v16) default).1 2) (F94 (v13.getD (Int.toNat v16) default).2.1 2)), (F142 (F94 (v13.getD (Int.toNat v16) default).2.2 2) (F94 (v13.getD (Int.toNat v16) default).1 2))), ((F142 (F94 (v13.getD (Int.toNat v16) default).1 2) (F94 (v13.getD (Int.toNat v16) default).2.1 2)), (F94 (v13.getD (Int.toNat v16) default).2.1 2), (F142 (F94 (v13.getD (Int.toNat v16) default).2.1 2) (F94 (v13.getD (Int.toNat v16) default).2.2 2))), ((F142 (F94 (v13.getD (Int.toNat v16) default).2.2 2) (F94 (v13.getD (Int.toNat v16) default).1 2)), (F142 (F94 (v13.getD (Int.toNat v16) default).2.1 2) (F94 (v13.getD (Int.toNat v16) default).2.2 2)), (F94 (v13.getD (Int.toNat v16) default).2.2 2)), ((F142 (F94 (v13.getD (Int.toNat v16) default).1 2) (F94 (v13.getD (Int.toNat v16) default).2.1 2)), (F142 (F94 (v13.getD (Int.toNat v16) default).2.1 2) (F94 (v13.getD (Int.toNat v16) default).2.2 2)), (F142 (F94 (v13.getD (Int.toNat v16) default).2.2 2) (F94 (v13.getD (Int.toNat v16) default).1 2)))]).length := len_app v14 [((F94 (v13.getD (Int.toNat v16) default).1 2), (F142 (F94 (v13.getD (Int.toNat v16) default).1 2) (F94 (v13.getD (Int.toNat v16) default).2.1 2)), (F142 (F94 (v13.getD (Int.toNat v16) default).2.2 2) (F94 (v13.getD (Int.toNat v16) default).1 2))), ((F142 (F94 (v13.getD (Int.toNat v16) default).1 2) (F94 (v13.getD (Int.toNat v16) default).2.1 2)), (F94 (v13.getD (Int.toNat v16) default).2.1 2), (F142 (F94 (v13.getD (Int.toNat v16) default).2.1 2) (F94 (v13.getD (Int.toNat v16) default).2.2 2))), ((F142 (F94 (v13.getD (Int.toNat v16) default).2.2 2) (F94 (v13.getD (Int.toNat v16) default).1 2)), (F142 (F94 (v13.getD (Int.toNat v16) default).2.1 2) (F94 (v13.getD (Int.toNat v16) default).2.2 2)), (F94 (v13.getD (Int.toNat v16) default).2.2 2)), ((F142 (F94 (v13.getD (Int.toNat v16) default).1 2) (F94 (v13.getD (Int.toNat v16) default).2.1 2)), (F142 (F94 (v13.getD (Int.toNat v16) default).2.1 2) (F94 (v13.getD (Int.toNat v16) default).2.2 2)), (F142 (F94 (v13.getD (Int.toNat v16) default).2.2 2) (F94 (v13.getD (Int.toNat v16) default).1 2)))] rfl
     rw [z0, z1, z2]
     exact ih v13 (v14 ++ [((F94 (v13.getD (Int.toNat v16) default).1 2), (F142 (F94 (v13.getD (Int.toNat v16) default).1 2) (F94 (v13.getD (Int.toNat v16) default).2.1 2)), (F142 (F94 (v13.getD (Int.toNat v16) default).2.2 2) (F94 (v13.getD (Int.toNat v16) default).1 2))), ((F142 (F94 (v13.getD (Int.toNat v16) default).1 2) (F94 (v13.getD (Int.toNat v16) default).2.1 2)), (F94 (v13.getD (Int.toNat v16) default).2.1 2), (F142 (F94 (v13.getD (Int.toNat v16) default).2.1 2) (F94 (v13.getD (Int.toNat v16) default).2.2 2))), ((F142 (F94 (v13.getD (Int.toNat v16) default).2.2 2) (F94 (v13.getD (Int.toNat v16) default).1 2)), (F142 (F94 (v13.getD (Int.toNat v16) default).2.1 2) (F94 (v13.getD (Int.toNat v16) default).2.2 2)), (F94 (v13.getD (Int.toNat v16) default).2.2 2)), ((F142 (F94 (v13.getD (Int.toNat v16) default).1 2) (F94 (v13.getD (Int.toNat v16) default).2.1 2)), (F142 (F94 (v13.getD (Int.toNat v16) default).2.1 2) (F94 (v13.getD (Int.toNat v16) default).2.2 2)), (F142 (F94 (v13.getD (Int.toNat v16) default).2.2 2) (F94 (v13.getD (Int.toNat v16) default).1 2)))]) v15 (v16 + 1) (by refine ⟨?_, ?_, ?_, ?_, ?_, ?_, ?_⟩ <;> (try simp only [List.length_append, List.length_cons, List.length_nil, Int.toNat_zero]) <;> first | omega | assumption | exact hi.2.1 | exact hi.2.2.1 | exact hi.2.2.2.1 | exact hi.2.2.2.2.1 | exact hi.2.2.2.2.2.1 | exact hi.2.2.2.2.2.2.1 | simp) (by (try simp only [List.length_append, List.length_cons, List.length_nil, Int.toNat_zero]); omega)
    | false =>
     have q0 := of_decide_eq_false h0
     have e := Eq.refl (S100_1 a0 a1 (v13, v14, v15, v16)); conv at e => rhs; simp only [S100_1, h0, cond_true, cond_false]
     rw [loopF_s, e]
     refine ba [.d h0] [] [1, 5, 6] [1] hcx (m := n0) B100_0 (K100_0) (st100_0 a0 a1 (flat c65 v14) (v14.length) (W (v15 + 1))) (by kernel_rfl) ?_
     have z0 : (W (v15 + 1)) = (v15 + 1) := W_eq (by omega) (by omega)
     rw [z0]
     exact g0 v14 (v15 + 1) (by refine ⟨?_, ?_⟩ <;> (try simp only [List.length_append, List.length_cons, List.length_nil, Int.toNat_zero]) <;> first | omega | assumption | simp) (by (try simp only [List.length_append, List.length_cons, List.length_nil, Int.toNat_zero]); omega)

set_option maxHeartbeats 4000000 in
theorem L100_0 (a0 : (Int × Int × Int) × (Int × Int × Int) × Int × Int × Int) (a1 : Int) (ha : 0 ≤ a1 ∧ a1 ≤ 3) {cx : Cx} (hcx : cx.base = 0) : ∀ (n : Nat) (v11 : List ((Int × Int × Int) × (Int × Int × Int) × Int × Int × Int)) (v12 : Int), (0 ≤ v12) ∧ (v12 = 0 ∧ v11.length ≤ 1 ∨ v12 = 1 ∧ v11.length ≤ 4 ∨ v12 = 2 ∧ v11.length ≤ 16 ∨ 3 ≤ v12 ∧ v11.length ≤ 64) → Int.toNat (a1 - v12) < n → Aw.Good Tryz.prog none 9 (bodyPost Tryz.prog Tryz.f100 (RR cx (.s 0 0 (loopF (S100_0 a0 a1) n (v11, v12)).length 9) [(.live true true (flat c65 (loopF (S100_0 a0 a1) n (v11, v12))))] [])) cx [] (.l B100_0 n :: K100_0) (st100_0 a0 a1 (flat c65 v11) v11.length v12) := by
  intro n
  induction n with
  | zero => intro v11 v12 hi hn; exact absurd hn (Nat.not_lt_zero _)
  | succ n ih =>
    intro v11 v12 hi hn
    refine good_round ?_
    cases h0 : (decide ((v12 : Int) < a1)) with
    | true =>
     have q0 := of_decide_eq_true h0
     have e := Eq.refl (S100_0 a0 a1 (v11, v12)); conv at e => rhs; simp only [S100_0, h0, cond_true, cond_false]
     rw [loopF_s, e]
     refine en [.d h0] [.slot 7 9] [1, 5, 6, 7, 8] [0, 1] hcx B100_1 (K100_1 n) (st100_1 a0 a1 (flat c65 v11) (v11.length) (flat c65 ([] : List ((Int × Int × Int) × (Int × Int × Int) × Int × Int × Int))) 0 v12 0) (Int.toNat (((v11.length : Nat) : Int) - 0) + 1) (by kernel_rfl) ?_
     exact L100_1 a0 a1 ha hcx n ih (Int.toNat (((v11.length : Nat) : Int) - 0) + 1) v11 ([] : List ((Int × Int × Int) × (Int × Int × Int) × Int × Int × Int)) v12 0 (by refine ⟨?_, ?_, ?_, ?_, ?_, ?_, ?_⟩ <;> (try simp only [List.length_append, List.length_cons, List.length_nil, Int.toNat_zero]) <;> first | omega | assumption | exact hi.2.1 | exact hi.2.2.1 | exact hi.2.2.2.1 | exact hi.2.2.2.2.1 | exact hi.2.2.2.2.2.1 | exact hi.2.2.2.2.2.2.1 | simp) (by (try simp only [List.length_append, List.length_cons, List.length_nil, Int.toNat_zero]); omega)
    | false =>
     have q0 := of_decide_eq_false h0
     have e := Eq.refl (S100_0 a0 a1 (v11, v12)); conv at e => rhs; simp only [S100_0, h0, cond_true, cond_false]
     rw [loopF_s, e]
     exact rt [.d h0] [] [0] hcx (by kernel_rfl)

def F100 (a0 : (Int × Int × Int) × (Int × Int × Int) × Int × Int × Int) (a1 : Int) : List ((Int × Int × Int) × (Int × Int × Int) × Int × Int × Int) :=
  (loopF (S100_0 a0 a1) (Int.toNat (a1 - 0) + 1) (([a0] : List ((Int × Int × Int) × (Int × Int × Int) × Int × Int × Int)), 0))

theorem C100 (a0 : (Int × Int × Int) × (Int × Int × Int) × Int × Int × Int) (a1 : Int) (ha : 0 ≤ a1 ∧ a1 ≤ 3) : Con Tryz.prog 100 [(.a (k9 a0)), (iv a1)] [] (.s 0 0 (F100 a0 a1).length 9) [(.live true true (flat c65 (F100 a0 a1)))] := by
  refine con_s Tryz.func100 (by kernel_rfl) fun cx hcx => ?_
  have e := Eq.refl (F100 a0 a1); conv at e => rhs; simp only [F100]
  rw [e]
  refine en [] [.sym 1 true] [1, 5, 6] [1] hcx B100_0 (K100_0) (st100_0 a0 a1 (flat c65 ([a0] : List ((Int × Int × Int) × (Int × Int × Int) × Int × Int × Int))) 1 0) (Int.toNat (a1 - 0) + 1) (by kernel_rfl) ?_
  exact L100_0 a0 a1 ha hcx (Int.toNat (a1 - 0) + 1) ([a0] : List ((Int × Int × Int) × (Int × Int × Int) × Int × Int × Int)) 0 (by refine ⟨?_, ?_⟩ <;> (try simp only [List.length_append, List.length_cons, List.length_nil, Int.toNat_zero]) <;> first | omega | assumption | simp) (by (try simp only [List.length_append, List.length_cons, List.length_nil, Int.toNat_zero]); omega)

noncomputable def B97_L_0 : Code := (loopAtD [1, 1, 1, 0, 1] [] (bodyOf Tryz.f97) []).1
noncomputable def K97_L_0 : List K := (loopAtD [1, 1, 1, 0, 1] [] (bodyOf Tryz.f97) []).2

def st97_L_0 (a0 : List (Int × Int)) (v1 : Int) (v2 : Int) (v3 : Int) : LS := ⟨slN 39 [(0, (.s 0 0 a0.length 2)), (5, (iv v1)), (6, (iv v2)), (7, (iv v3))], [(.live false true (flat c41 a0))]⟩

def S97_L_0 (a0 : List (Int × Int)) : Int × Int × Int → (Int × Int × Int) ⊕ (Int × Int × Int)
  | (v1, v2, v3) =>
   (bif (decide ((v3 : Int) < ((a0.length : Nat) : Int))) then
    (bif (!(F95 (a0.getD (Int.toNat v3) default))) then
     (.inr (0, 0, 1))
    else
     (.inl ((W (v1 + (a0.getD (Int.toNat v3) default).1)), (W (v2 + (a0.getD (Int.toNat v3) default).2)), (v3 + 1))))
   else
    (.inr (v1, v2, 0)))

set_option maxHeartbeats 4000000 in
theorem L97_L_0 (a0 : List (Int × Int)) (l0 : a0.length ≤ 9223372036854775807) {cx : Cx} (hcx : cx.base = 1) : ∀ (n : Nat) (v1 : Int) (v2 : Int) (v3 : Int), 0 ≤ v3 → Int.toNat (((a0.length : Nat) : Int) - v3) < n → Aw.Good Tryz.prog none 9 (bodyPost Tryz.prog Tryz.f97 (RR cx (.t (k3 (loopF (S97_L_0 a0) n (v1, v2, v3)))) [] [])) cx [] (.l B97_L_0 n :: K97_L_0) (st97_L_0 a0 v1 v2 v3) := by
  intro n
  induction n with
  | zero => intro v1 v2 v3 hi hn; exact absurd hn (Nat.not_lt_zero _)
  | succ n ih =>
    intro v1 v2 v3 hi hn
    refine good_round ?_
    cases h0 : (decide ((v3 : Int) < ((a0.length : Nat) : Int))) with
    | true =>
     have q0 := of_decide_eq_true h0
     let t1 : List (St Tryz.prog) := [.d h0, .i v3 (a0.length), .L c41_len a0 v3 0 2, .c [] (C95 (a0.getD (Int.toNat v3) default))]
     cases h1 : (!(F95 (a0.getD (Int.toNat v3) default))) with
     | true =>
      have e := Eq.refl (S97_L_0 a0 (v1, v2, v3)); conv at e => rhs; simp only [S97_L_0, h0, h1, cond_true, cond_false]
      rw [loopF_s, e]
      exact rt (t1 ++ [.d h1]) [] [] hcx (by kernel_rfl)
     | false =>
      have e := Eq.refl (S97_L_0 a0 (v1, v2, v3)); conv at e => rhs; simp only [S97_L_0, h0, h1, cond_true, cond_false]
      rw [loopF_inl e]
      refine ba (t1 ++ [.d h1, .i v3 (a0.length), .L c41_len a0 v3 0 1, .i v3 (a0.length), .L c41_len a0 v3 1 1]) [] [0, 5, 6, 7] [] hcx (m := n) B97_L_0 (K97_L_0) (st97_L_0 a0 (W (v1 + (a0.getD (Int.toNat v3) default).1)) (W (v2 + (a0.getD (Int.toNat v3) default).2)) (W (v3 + 1))) (by kernel_rfl) ?_
      have z0 : (W (v3 + 1)) = (v3 + 1) := W_eq (by omega) (by omega)
      rw [z0]
      exact ih (W (v1 + (a0.getD (Int.toNat v3) default).1)) (W (v2 + (a0.getD (Int.toNat v3) default).2)) (v3 + 1) (by (try simp only [List.length_append, List.length_cons, List.length_nil, Int.toNat_zero]); omega) (by (try simp only [List.length_append, List.length_cons, List.length_nil, Int.toNat_zero]); omega)
    | false =>
     have q0 := of_decide_eq_false h0
     have e := Eq.refl (S97_L_0 a0 (v1, v2, v3)); conv at e => rhs; simp only [S97_L_0, h0, cond_true, cond_false]
     rw [loopF_s, e]
     exact rt [.d h0] [] [] hcx (by kernel_rfl)

def F97_L (a0 : List (Int × Int)) : Int × Int × Int :=
  (bif (decide ((((a0.length : Nat) : Int) : Int) > 10000)) then
   (0, 0, 4)
  else
   (loopF (S97_L_0 a0) (Int.toNat (((a0.length : Nat) : Int) - 0) + 1) (0, 0, 0)))

theorem C97_L (a0 : List (Int × Int)) (l0 : a0.length ≤ 9223372036854775807) : Con Tryz.prog 97 [(.s 0 0 a0.length 2)] [(.live false true (flat c41 a0))] (.t (k3 (F97_L a0))) [] := by
  refine con_s Tryz.func97 (by kernel_rfl) fun cx hcx => ?_
  cases h0 : (decide ((((a0.length : Nat) : Int) : Int) > 10000)) with
  | true =>
   have q0 := of_decide_eq_true h0
   have e := Eq.refl (F97_L a0); conv at e => rhs; simp only [F97_L, h0, cond_true, cond_false]
   rw [e]
   exact rt [.d h0] [] [] hcx (by kernel_rfl)
  | false =>
   have q0 := of_decide_eq_false h0
   have e := Eq.refl (F97_L a0); conv at e => rhs; simp only [F97_L, h0, cond_true, cond_false]
   rw [e]
   refine en [.d h0] [] [0, 5, 6, 7] [] hcx B97_L_0 (K97_L_0) (st97_L_0 a0 0 0 0) (Int.toNat (((a0.length : Nat) : Int) - 0) + 1) (by kernel_rfl) ?_
   exact L97_L_0 a0 l0 hcx (Int.toNat (((a0.length : Nat) : Int) - 0) + 1) 0 0 0 (by (try simp only [List.length_append, List.length_cons, List.length_nil, Int.toNat_zero]); omega) (by (try simp only [List.length_append, List.length_cons, List.length_nil, Int.toNat_zero]); omega)

def F48_L (a0 : List (Int × Int)) : (Int × Int) × Int :=
  (bif (((F97_L a0).2.2 : Int) != 0) then
   ((0, 0), (F97_L a0).2.2)
  else
   ((F84 (F97_L a0).1 (F97_L a0).2.1).1, (F84 (F97_L a0).1 (F97_L a0).2.1).2))

theorem C48_L (a0 : List (Int × Int)) (l0 : a0.length ≤ 9223372036854775807) : Con Tryz.prog 48 [(.s 0 0 a0.length 2)] [(.live false true (flat c41 a0))] (.t [(.a (k2 (F48_L a0).1)), (iv (F48_L a0).2)]) [] := by
  refine con_s Tryz.func48 (by kernel_rfl) fun cx hcx => ?_
  let t0 : List (St Tryz.prog) := [.c [0] (C97_L a0 (by (try simp only [List.length_append, List.length_cons, List.length_nil, Int.toNat_zero, axis3, axis1]); omega))]
  cases h0 : (((F97_L a0).2.2 : Int) != 0) with
  | true =>
   have q0 := bne_iff_ne.1 h0
   have e := Eq.refl (F48_L a0); conv at e => rhs; simp only [F48_L, h0, cond_true, cond_false]
   rw [e]
   exact rt (t0 ++ [.d h0]) [] [] hcx (by kernel_rfl)
  | false =>
   have q0 := bne_eq_false_iff_eq.1 h0
   have e := Eq.refl (F48_L a0); conv at e => rhs; simp only [F48_L, h0, cond_true, cond_false]
   rw [e]
   exact rt (t0 ++ [.d h0, .c [] (C84 (F97_L a0).1 (F97_L a0).2.1)]) [] [] hcx (by kernel_rfl)

def F133 (a0 : Int) (a1 : Int) : Int :=
  (bif (decide (((Int.tmod a0 a1) : Int) < 0)) then
   (W ((W (Int.tdiv a0 a1)) - 1))
  else
   (W (Int.tdiv a0 a1)))

theorem C133 (a0 : Int) (a1 : Int) (ha : a1 ≠ 0) : Con Tryz.prog 133 [(iv a0), (iv a1)] [] (iv (F133 a0 a1)) [] := by
  refine con_s Tryz.func133 (by kernel_rfl) fun cx hcx => ?_
  let t0 : List (St Tryz.prog) := [.p (show (a1 : Int) ≠ 0 from by first | omega | (rw [W_eq] <;> omega) | exact u64_nn _), .p (show (a1 : Int) ≠ 0 from by first | omega | (rw [W_eq] <;> omega) | exact u64_nn _)]
  cases h0 : (decide (((Int.tmod a0 a1) : Int) < 0)) with
  | true =>
   have q0 := of_decide_eq_true h0
   have e := Eq.refl (F133 a0 a1); conv at e => rhs; simp only [F133, h0, cond_true, cond_false]
   rw [e]
   exact rt (t0 ++ [.d h0]) [] [] hcx (by kernel_rfl)
  | false =>
   have q0 := of_decide_eq_false h0
   have e := Eq.refl (F133 a0 a1); conv at e => rhs; simp only [F133, h0, cond_true, cond_false]
   rw [e]
   exact rt (t0 ++ [.d h0]) [] [] hcx (by kernel_rfl)

def F134 (a0 : Int) (a1 : Int) : Int :=
  (W (0 - (F133 (W (0 - a0)) a1)))

theorem C134 (a0 : Int) (a1 : Int) (ha : a1 ≠ 0) : Con Tryz.prog 134 [(iv a0), (iv a1)] [] (iv (F134 a0 a1)) [] := by
  refine con_s Tryz.func134 (by kernel_rfl) fun cx hcx => ?_
  have e := Eq.refl (F134 a0 a1); conv at e => rhs; simp only [F134]
  rw [e]
  exact rt [.c [] (C133 (W (0 - a0)) a1  (by (try simp only [List.length_append, List.length_cons, List.length_nil, Int.toNat_zero, axis3, axis1]); omega))] [] [] hcx (by kernel_rfl)

def F101_L (a0 : List (Int × Int)) : (Int × Int) × Int :=
  (bif (((F97_L a0).2.2 : Int) != 0) then
   ((0, 0), (F97_L a0).2.2)
  else
   (bif ((((a0.length : Nat) : Int) : Int) == 0) then
    ((0, 0), 1)
   else
    ((F84 (F133 (F97_L a0).1 ((a0.length : Nat) : Int)) (F134 (F97_L a0).2.1 ((a0.length : Nat) : Int))).1, (F84 (F133 (F97_L a0).1 ((a0.length : Nat) : Int)) (F134 (F97_L a0).2.1 ((a0.length : Nat) : Int))).2)))

theorem C101_L (a0 : List (Int × Int)) (l0 : a0.length ≤ 9223372036854775807) : Con Tryz.prog 101 [(.s 0 0 a0.length 2)] [(.live false true (flat c41 a0))] (.t [(.a (k2 (F101_L a0).1)), (iv (F101_L a0).2)]) [] := by
  refine con_s Tryz.func101 (by kernel_rfl) fun cx hcx => ?_
  let t0 : List (St Tryz.prog) := [.c [0] (C97_L a0 (by (try simp only [List.length_append, List.length_cons, List.length_nil, Int.toNat_zero, axis3, axis1]); omega))]
  cases h0 : (((F97_L a0).2.2 : Int) != 0) with
  | true =>
   have q0 := bne_iff_ne.1 h0
   have e := Eq.refl (F101_L a0); conv at e => rhs; simp only [F101_L, h0, cond_true, cond_false]
   rw [e]
   exact rt (t0 ++ [.d h0]) [] [] hcx (by kernel_rfl)
  | false =>
   have q0 := bne_eq_false_iff_eq.1 h0
   let t1 : List (St Tryz.prog) := (t0 ++ [.d h0])
   cases h1 : ((((a0.length : Nat) : Int) : Int) == 0) with
   | true =>
    have q1 := eq_of_beq h1
    have e := Eq.refl (F101_L a0); conv at e => rhs; simp only [F101_L, h0, h1, cond_true, cond_false]
    rw [e]
    exact rt (t1 ++ [.d h1]) [] [] hcx (by kernel_rfl)
   | false =>
    have q1 := ne_of_beq_false h1
    have e := Eq.refl (F101_L a0); conv at e => rhs; simp only [F101_L, h0, h1, cond_true, cond_false]
    rw [e]
    exact rt (t1 ++ [.d h1, .c [] (C133 (F97_L a0).1 ((a0.length : Nat) : Int)  (by (try simp only [List.length_append, List.length_cons, List.length_nil, Int.toNat_zero, axis3, axis1]); omega)), .c [] (C134 (F97_L a0).2.1 ((a0.length : Nat) : Int)  (by (try simp only [List.length_append, List.length_cons, List.length_nil, Int.toNat_zero, axis3, axis1]); omega)), .c [] (C84 (F133 (F97_L a0).1 ((a0.length : Nat) : Int)) (F134 (F97_L a0).2.1 ((a0.length : Nat) : Int)))]) [] [] hcx (by kernel_rfl)

noncomputable def B131_L_0 : Code := (loopAtD [1, 1, 0, 1] [] (bodyOf Tryz.f131) []).1
noncomputable def K131_L_0 : List K := (loopAtD [1, 1, 0, 1] [] (bodyOf Tryz.f131) []).2

def st131_L_0 (a0 : (Int × Int × Int) × (Int × Int × Int) × Int × Int × Int) (a1 : List (Int × Int × Int)) (v1 : Int) (v2 : Int) : LS := ⟨slN 44 [(1, (.s 0 0 a1.length 3)), (2, (.p 1 0)), (5, (iv v1)), (6, (iv v2))], [(.live false true (flat c27 a1)), (.live true false (k9 a0))]⟩

def S131_L_0 (a0 : (Int × Int × Int) × (Int × Int × Int) × Int × Int × Int) (a1 : List (Int × Int × Int)) : Int × Int → (Int × Int) ⊕ (Int)
  | (v1, v2) =>
   (bif (decide ((v2 : Int) < ((a1.length : Nat) : Int))) then
    (bif (decide (((F116 (F115 a0.1 (a1.getD (Int.toNat v2) default)) (F115 a0.1 (a1.getD (Int.toNat v2) default))) : Int) > v1)) then
     (bif (decide (((F116 (F115 a0.2.1 (a1.getD (Int.toNat v2) default)) (F115 a0.2.1 (a1.getD (Int.toNat v2) default))) : Int) > (F116 (F115 a0.1 (a1.getD (Int.toNat v2) default)) (F115 a0.1 (a1.getD (Int.toNat v2) default))))) then
      (bif (decide (((F116 (F115 a0.2.2 (a1.getD (Int.toNat v2) default)) (F115 a0.2.2 (a1.getD (Int.toNat v2) default))) : Int) > (F116 (F115 a0.2.1 (a1.getD (Int.toNat v2) default)) (F115 a0.2.1 (a1.getD (Int.toNat v2) default))))) then
       (.inl ((F116 (F115 a0.2.2 (a1.getD (Int.toNat v2) default)) (F115 a0.2.2 (a1.getD (Int.toNat v2) default))), (v2 + 1)))
      else
       (.inl ((F116 (F115 a0.2.1 (a1.getD (Int.toNat v2) default)) (F115 a0.2.1 (a1.getD (Int.toNat v2) default))), (v2 + 1))))
     else
      (bif (decide (((F116 (F115 a0.2.2 (a1.getD (Int.toNat v2) default)) (F115 a0.2.2 (a1.getD (Int.toNat v2) default))) : Int) > (F116 (F115 a0.1 (a1.getD (Int.toNat v2) default)) (F115 a0.1 (a1.getD (Int.toNat v2) default))))) then
       (.inl ((F116 (F115 a0.2.2 (a1.getD (Int.toNat v2) default)) (F115 a0.2.2 (a1.getD (Int.toNat v2) default))), (v2 + 1)))
      else
       (.inl ((F116 (F115 a0.1 (a1.getD (Int.toNat v2) default)) (F115 a0.1 (a1.getD (Int.toNat v2) default))), (v2 + 1)))))
    else
     (bif (decide (((F116 (F115 a0.2.1 (a1.getD (Int.toNat v2) default)) (F115 a0.2.1 (a1.getD (Int.toNat v2) default))) : Int) > v1)) then
      (bif (decide (((F116 (F115 a0.2.2 (a1.getD (Int.toNat v2) default)) (F115 a0.2.2 (a1.getD (Int.toNat v2) default))) : Int) > (F116 (F115 a0.2.1 (a1.getD (Int.toNat v2) default)) (F115 a0.2.1 (a1.getD (Int.toNat v2) default))))) then
       (.inl ((F116 (F115 a0.2.2 (a1.getD (Int.toNat v2) default)) (F115 a0.2.2 (a1.getD (Int.toNat v2) default))), (v2 + 1)))
      else
       (.inl ((F116 (F115 a0.2.1 (a1.getD (Int.toNat v2) default)) (F115 a0.2.1 (a1.getD (Int.toNat v2) default))), (v2 + 1))))
     else
      (bif (decide (((F116 (F115 a0.2.2 (a1.getD (Int.toNat v2) default)) (F115 a0.2.2 (a1.getD (Int.toNat v2) default))) : Int) > v1)) then
       (.inl ((F116 (F115 a0.2.2 (a1.getD (Int.toNat v2) default)) (F115 a0.2.2 (a1.getD (Int.toNat v2) default))), (v2 + 1)))
      else
       (.inl (v1, (v2 + 1))))))
   else
    (.inr v1))

set_option maxHeartbeats 4000000 in
theorem L131_L_0 (a0 : (Int × Int × Int) × (Int × Int × Int) × Int × Int × Int) (a1 : List (Int × Int × Int)) (l1 : a1.length ≤ 9223372036854775807) {cx : Cx} (hcx : cx.base = 1) : ∀ (n : Nat) (v1 : Int) (v2 : Int), 0 ≤ v2 → Int.toNat (((a1.length : Nat) : Int) - v2) < n → Aw.Good Tryz.prog none 9 (bodyPost Tryz.prog Tryz.f131 (RR cx (iv (loopF (S131_L_0 a0 a1) n (v1, v2))) [] [])) cx [] (.l B131_L_0 n :: K131_L_0) (st131_L_0 a0 a1 v1 v2) := by
  intro n
  induction n with
  | zero => intro v1 v2 hi hn; exact absurd hn (Nat.not_lt_zero _)
  | succ n ih =>
    intro v1 v2 hi hn
    refine good_round ?_
    cases h0 : (decide ((v2 : Int) < ((a1.length : Nat) : Int))) with
    | true =>
     have q0 := of_decide_eq_true h0
     let t1 : List (St Tryz.prog) := [.d h0, .u 200, .T, .i 0 3 (by decide), .i v2 (a1.length), .L c27_len a1 v2 0 3, .c [] (C115 a0.1 (a1.getD (Int.toNat v2) default)), .c [] (C116 (F115 a0.1 (a1.getD (Int.toNat v2) default)) (F115 a0.1 (a1.getD (Int.toNat v2) default)))]
     cases h1 : (decide (((F116 (F115 a0.1 (a1.getD (Int.toNat v2) default)) (F115 a0.1 (a1.getD (Int.toNat v2) default))) : Int) > v1)) with
     | true =>
      have q1 := of_decide_eq_true h1
      let t2 : List (St Tryz.prog) := (t1 ++ [.d h1, .u 0, .T, .i 1 3 (by decide), .i v2 (a1.length), .L c27_len a1 v2 0 3, .c [] (C115 a0.2.1 (a1.getD (Int.toNat v2) default)), .c [] (C116 (F115 a0.2.1 (a1.getD (Int.toNat v2) default)) (F115 a0.2.1 (a1.getD (Int.toNat v2) default)))])
      cases h2 : (decide (((F116 (F115 a0.2.1 (a1.getD (Int.toNat v2) default)) (F115 a0.2.1 (a1.getD (Int.toNat v2) default))) : Int) > (F116 (F115 a0.1 (a1.getD (Int.toNat v2) default)) (F115 a0.1 (a1.getD (Int.toNat v2) default))))) with
      | true =>
       have q2 := of_decide_eq_true h2
       let t3 : List (St Tryz.prog) := (t2 ++ [.d h2, .u 0, .T, .i 2 3 (by decide), .i v2 (a1.length), .L c27_len a1 v2 0 3, .c [] (C115 a0.2.2 (a1.getD (Int.toNat v2) default)), .c [] (C116 (F115 a0.2.2 (a1.getD (Int.toNat v2) default)) (F115 a0.2.2 (a1.getD (Int.toNat v2) default)))])
       cases h3 : (decide (((F116 (F115 a0.2.2 (a1.getD (Int.toNat v2) default)) (F115 a0.2.2 (a1.getD (Int.toNat v2) default))) : Int) > (F116 (F115 a0.2.1 (a1.getD (Int.toNat v2) default)) (F115 a0.2.1 (a1.getD (Int.toNat v2) default))))) with
       | true =>
        have q3 := of_decide_eq_true h3
        have e := Eq.refl (S131_L_0 a0 a1 (v1, v2)); conv at e => rhs; simp only [S131_L_0, h0, h1, h2, h3, cond_true, cond_false]
        rw [loopF_inl e]
        refine ba (t3 ++ [.d h3, .u 0, .F]) [] [1, 2, 5, 6] [1] hcx (m := n) B131_L_0 (K131_L_0) (st131_L_0 a0 a1 (F116 (F115 a0.2.2 (a1.getD (Int.toNat v2) default)) (F115 a0.2.2 (a1.getD (Int.toNat v2) default))) (W (v2 + 1))) (by kernel_rfl) ?_
        have z0 : (W (v2 + 1)) = (v2 + 1) := W_eq (by omega) (by omega)
        rw [z0]
        exact ih (F116 (F115 a0.2.2 (a1.getD (Int.toNat v2) default)) (F115 a0.2.2 (a1.getD (Int.toNat v2) default))) (v2 + 1) (by (try simp only [List.length_append, List.length_cons, List.length_nil, Int.toNat_zero]); omega) (by (try simp only [List.length_append, List.length_cons, List.length_nil, Int.toNat_zero]); omega)
       | false =>
        have q3 := of_decide_eq_false h3
        have e := Eq.refl (S131_L_0 a0 a1 (v1, v2)); conv at e => rhs; simp only [S131_L_0, h0, h1, h2, h3, cond_true, cond_false]
        rw [loopF_inl e]
        refine ba (t3 ++ [.d h3, .u 0, .F]) [] [1, 2, 5, 6] [1] hcx (m := n) B131_L_0 (K131_L_0) (st131_L_0 a0 a1 (F116 (F115 a0.2.1 (a1.getD (Int.toNat v2) default)) (F115 a0.2.1 (a1.getD (Int.toNat v2) default))) (W (v2 + 1))) (by kernel_rfl) ?_
        have z0 : (W (v2 + 1)) = (v2 + 1) := W_eq (by omega) (by omega)
        rw [z0]
        exact ih (F116 (F115 a0.2.1 (a1.getD (Int.toNat v2) default)) (F115 a0.2.1 (a1.getD (Int.toNat v2) default))) (v2 + 1) (by (try simp only [List.length_append, List.length_cons, List.length_nil, Int.toNat_zero]); omega) (by (try simp only [List.length_append, List.length_cons, List.length_nil, Int.toNat_zero]); omega)
      | false =>
       have q2 := of_decide_eq_false h2
       let t3 : List (St Tryz.prog) := (t2 ++ [.d h2, .u 0, .T, .i 2 3 (by decide), .i v2 (a1.length), .L c27_len a1 v2 0 3, .c [] (C115 a0.2.2 (a1.getD (Int.toNat v2) default)), .c [] (C116 (F115 a0.2.2 (a1.getD (Int.toNat v2) default)) (F115 a0.2.2 (a1.getD (Int.toNat v2) default)))])
       cases h3 : (decide (((F116 (F115 a0.2.2 (a1.getD (Int.toNat v2) default)) (F115 a0.2.2 (a1.getD (Int.toNat v2) default))) : Int) > (F116 (F115 a0.1 (a1.getD (Int.toNat v2) default)) (F115 a0.1 (a1.getD (Int.toNat v2) default))))) with
       | true =>
        have q3 := of_decide_eq_true h3
        have e := Eq.refl (S131_L_0 a0 a1 (v1, v2)); conv at e => rhs; simp only [S131_L_0, h0, h1, h2, h3, cond_true, cond_false]
        rw [loopF_inl e]
        refine ba (t3 ++ [.d h3, .u 0, .F]) [] [1, 2, 5, 6] [1] hcx (m := n) B131_L_0 (K131_L_0) (st131_L_0 a0 a1 (F116 (F115 a0.2.2 (a1.getD (Int.toNat v2) default)) (F115 a0.2.2 (a1.getD (Int.toNat v2) default))) (W (v2 + 1))) (by kernel_rfl) ?_
        have z0 : (W (v2 + 1)) = (v2 + 1) := W_eq (by omega) (by omega)
        rw [z0]
        exact ih (F116 (F115 a0.2.2 (a1.getD (Int.toNat v2) default)) (F115 a0.2.2 (a1.getD (Int.toNat v2) default))) (v2 + 1) (by (try simp only [List.length_append, List.length_cons, List.length_nil, Int.toNat_zero]); omega) (by (try simp only [List.length_append, List.length_cons, List.length_nil, Int.toNat_zero]); omega)
       | false =>
        have q3 := of_decide_eq_false h3
        have e := Eq.refl (S131_L_0 a0 a1 (v1, v2)); conv at e => rhs; simp only [S131_L_0, h0, h1, h2, h3, cond_true, cond_false]
        rw [loopF_inl e]
        refine ba (t3 ++ [.d h3, .u 0, .F]) [] [1, 2, 5, 6] [1] hcx (m := n) B131_L_0 (K131_L_0) (st131_L_0 a0 a1 (F116 (F115 a0.1 (a1.getD (Int.toNat v2) default)) (F115 a0.1 (a1.getD (Int.toNat v2) default))) (W (v2 + 1))) (by kernel_rfl) ?_
        have z0 : (W (v2 + 1)) = (v2 + 1) := W_eq (by omega) (by omega)
        rw [z0]
        exact ih (F116 (F115 a0.1 (a1.getD (Int.toNat v2) default)) (F115 a0.1 (a1.getD (Int.toNat v2) default))) (v2 + 1) (by (try simp only [List.length_append, List.length_cons, List.length_nil, Int.toNat_zero]); omega) (by (try simp only [List.length_append, List.length_cons, List.length_nil, Int.toNat_zero]); omega)
     | false =>
      have q1 := of_decide_eq_false h1
      let t2 : List (St Tryz.prog) := (t1 ++ [.d h1, .u 0, .T, .i 1 3 (by decide), .i v2 (a1.length), .L c27_len a1 v2 0 3, .c [] (C115 a0.2.1 (a1.getD (Int.toNat v2) default)), .c [] (C116 (F115 a0.2.1 (a1.getD (Int.toNat v2) default)) (F115 a0.2.1 (a1.getD (Int.toNat v2) default)))])
      cases h2 : (decide (((F116 (F115 a0.2.1 (a1.getD (Int.toNat v2) default)) (F115 a0.2.1 (a1.getD (Int.toNat v2) default))) : Int) > v1)) with
      | true =>
       have q2 := of_decide_eq_true h2
       let t3 : List (St Tryz.prog) := (t2 ++ [.d h2, .u 0, .T, .i 2 3 (by decide), .i v2 (a1.length), .L c27_len a1 v2 0 3, .c [] (C115 a0.2.2 (a1.getD (Int.toNat v2) default)), .c [] (C116 (F115 a0.2.2 (a1.getD (Int.toNat v2) default)) (F115 a0.2.2 (a1.getD (Int.toNat v2) default)))])
       cases h3 : (decide (((F116 (F115 a0.2.2 (a1.getD (Int.toNat v2) default)) (F115 a0.2.2 (a1.getD (Int.toNat v2) default))) : Int) > (F116 (F115 a0.2.1 (a1.getD (Int.toNat v2) default)) (F115 a0.2.1 (a1.getD (Int.toNat v2) default))))) with
       | true =>
        have q3 := of_decide_eq_true h3
        have e := Eq.refl (S131_L_0 a0 a1 (v1, v2)); conv at e => rhs; simp only [S131_L_0, h0, h1, h2, h3, cond_true, cond_false]
        rw [loopF_inl e]
        refine ba (t3 ++ [.d h3, .u 0, .F]) [] [1, 2, 5, 6] [1] hcx (m := n) B131_L_0 (K131_L_0) (st131_L_0 a0 a1 (F116 (F115 a0.2.2 (a1.getD (Int.toNat v2) default)) (F115 a0.2.2 (a1.getD (Int.toNat v2) default))) (W (v2 + 1))) (by kernel_rfl) ?_
        have z0 : (W (v2 + 1)) = (v2 + 1) := W_eq (by omega) (by omega)
        rw [z0]
        exact ih (F116 (F115 a0.2.2 (a1.getD (Int.toNat v2) default)) (F115 a0.2.2 (a1.getD (Int.toNat v2) default))) (v2 + 1) (by (try simp only [List.length_append, List.length_cons, List.length_nil, Int.toNat_zero]); omega) (by (try simp only [List.length_append, List.length_cons, List.length_nil, Int.toNat_zero]); omega)
       | false =>
        have q3 := of_decide_eq_false h3
        have e := Eq.refl (S131_L_0 a0 a1 (v1, v2)); conv at e => rhs; simp only [S131_L_0, h0, h1, h2, h3, cond_true, cond_false]
        rw [loopF_inl e]
        refine ba (t3 ++ [.d h3, .u 0, .F]) [] [1, 2, 5, 6] [1] hcx (m := n) B131_L_0 (K131_L_0) (st131_L_0 a0 a1 (F116 (F115 a0.2.1 (a1.getD (Int.toNat v2) default)) (F115 a0.2.1 (a1.getD (Int.toNat v2) default))) (W (v2 + 1))) (by kernel_rfl) ?_
        have z0 : (W (v2 + 1)) = (v2 + 1) := W_eq (by omega) (by omega)
        rw [z0]
        exact ih (F116 (F115 a0.2.1 (a1.getD (Int.toNat v2) default)) (F115 a0.2.1 (a1.getD (Int.toNat v2) default))) (v2 + 1) (by (try simp only [List.length_append, List.length_cons, List.length_nil, Int.toNat_zero]); omega) (by (try simp only [List.length_append, List.length_cons, List.length_nil, Int.toNat_zero]); omega)
      | false =>
       have q2 := of_decide_eq_false h2
       let t3 : List (St Tryz.prog) := (t2 ++ [.d h2, .u 0, .T, .i 2 3 (by decide), .i v2 (a1.length), .L c27_len a1 v2 0 3, .c [] (C115 a0.2.2 (a1.getD (Int.toNat v2) default)), .c [] (C116 (F115 a0.2.2 (a1.getD (Int.toNat v2) default)) (F115 a0.2.2 (a1.getD (Int.toNat v2) default)))])
       cases h3 : (decide (((F116 (F115 a0.2.2 (a1.getD (Int.toNat v2) default)) (F115 a0.2.2 (a1.getD (Int.toNat v2) default))) : Int) > v1)) with
       | true =>
        have q3 := of_decide_eq_true h3
        have e := Eq.refl (S131_L_0 a0 a1 (v1, v2)); conv at e => rhs; simp only [S131_L_0, h0, h1, h2, h3, cond_true, cond_false]
        rw [loopF_inl e]
        refine ba (t3 ++ [.d h3, .u 0, .F]) [] [1, 2, 5, 6] [1] hcx (m := n) B131_L_0 (K131_L_0) (st131_L_0 a0 a1 (F116 (F115 a0.2.2 (a1.getD (Int.toNat v2) default)) (F115 a0.2.2 (a1.getD (Int.toNat v2) default))) (W (v2 + 1))) (by kernel_rfl) ?_
        have z0 : (W (v2 + 1)) = (v2 + 1) := W_eq (by omega) (by omega)
        rw [z0]
        exact ih (F116 (F115 a0.2.2 (a1.getD (Int.toNat v2) default)) (F115 a0.2.2 (a1.getD (Int.toNat v2) default))) (v2 + 1) (by (try simp only [List.length_append, List.length_cons, List.length_nil, Int.toNat_zero]); omega) (by (try simp only [List.length_append, List.length_cons, List.length_nil, Int.toNat_zero]); omega)
       | false =>
        have q3 := of_decide_eq_false h3
        have e := Eq.refl (S131_L_0 a0 a1 (v1, v2)); conv at e => rhs; simp only [S131_L_0, h0, h1, h2, h3, cond_true, cond_false]
        rw [loopF_inl e]
        refine ba (t3 ++ [.d h3, .u 0, .F]) [] [1, 2, 5, 6] [1] hcx (m := n) B131_L_0 (K131_L_0) (st131_L_0 a0 a1 v1 (W (v2 + 1))) (by kernel_rfl) ?_
        have z0 : (W (v2 + 1)) = (v2 + 1) := W_eq (by omega) (by omega)
        rw [z0]
        exact ih v1 (v2 + 1) (by (try simp only [List.length_append, List.length_cons, List.length_nil, Int.toNat_zero]); omega) (by (try simp only [List.length_append, List.length_cons, List.length_nil, Int.toNat_zero]); omega)
    | false =>
     have q0 := of_decide_eq_false h0
     have e := Eq.refl (S131_L_0 a0 a1 (v1, v2)); conv at e => rhs; simp only [S131_L_0, h0, cond_true, cond_false]
     rw [loopF_s, e]
     exact rt [.d h0] [] [] hcx (by kernel_rfl)

def F131_L (a0 : (Int × Int × Int) × (Int × Int × Int) × Int × Int × Int) (a1 : List (Int × Int × Int)) : Int :=
  (loopF (S131_L_0 a0 a1) (Int.toNat (((a1.length : Nat) : Int) - 0) + 1) (0, 0))

theorem C131_L (a0 : (Int × Int × Int) × (Int × Int × Int) × Int × Int × Int) (a1 : List (Int × Int × Int)) (l1 : a1.length ≤ 9223372036854775807) : Con Tryz.prog 131 [(.a (k9 a0)), (.s 0 0 a1.length 3)] [(.live false true (flat c27 a1))] (iv (F131_L a0 a1)) [] := by
  refine con_s Tryz.func131 (by kernel_rfl) fun cx hcx => ?_
  have e := Eq.refl (F131_L a0 a1); conv at e => rhs; simp only [F131_L]
  rw [e]
  refine en [] [] [1, 2, 5, 6] [1] hcx B131_L_0 (K131_L_0) (st131_L_0 a0 a1 0 0) (Int.toNat (((a1.length : Nat) : Int) - 0) + 1) (by kernel_rfl) ?_
  exact L131_L_0 a0 a1 l1 hcx (Int.toNat (((a1.length : Nat) : Int) - 0) + 1) 0 0 (by (try simp only [List.length_append, List.length_cons, List.length_nil, Int.toNat_zero]); omega) (by (try simp only [List.length_append, List.length_cons, List.length_nil, Int.toNat_zero]); omega)

noncomputable def B164_L_0 : Code := (loopAtD [1, 1, 0, 1] [] (bodyOf Tryz.f164) []).1
noncomputable def K164_L_0 : List K := (loopAtD [1, 1, 0, 1] [] (bodyOf Tryz.f164) []).2

def st164_L_0 (a0 : List (Int)) (v1 : Int) (v2 : Int) (v3 : Int) : LS := ⟨slN 33 [(0, (.s 0 0 a0.length 1)), (4, (iv v1)), (5, (iv v2)), (6, (iv v3))], [(.live false true (flat c3 a0))]⟩

def S164_L_0 (a0 : List (Int)) : Int × Int × Int → (Int × Int × Int) ⊕ (Int × Int)
  | (v1, v2, v3) =>
   (bif (decide ((v3 : Int) < ((a0.length : Nat) : Int))) then
    (.inl ((if ((a0.getD (Int.toNat v3) default) : Int) < v1 then (a0.getD (Int.toNat v3) default) else v1), (if (v2 : Int) < (a0.getD (Int.toNat v3) default) then (a0.getD (Int.toNat v3) default) else v2), (v3 + 1)))
   else
    (.inr (v1, v2)))

set_option maxHeartbeats 4000000 in
theorem L164_L_0 (a0 : List (Int)) (l0 : a0.length ≤ 9223372036854775807) (hl : 0 < a0.length) {cx : Cx} (hcx : cx.base = 1) : ∀ (n : Nat) (v1 : Int) (v2 : Int) (v3 : Int), 0 ≤ v3 → Int.toNat (((a0.length : Nat) : Int) - v3) < n → Aw.Good Tryz.prog none 9 (bodyPost Tryz.prog Tryz.f164 (RR cx (.t (k2 (loopF (S164_L_0 a0) n (v1, v2, v3)))) [] [])) cx [] (.l B164_L_0 n :: K164_L_0) (st164_L_0 a0 v1 v2 v3) := by
  intro n
  induction n with
  | zero => intro v1 v2 v3 hi hn; exact absurd hn (Nat.not_lt_zero _)
  | succ n ih =>
    intro v1 v2 v3 hi hn
    refine good_round ?_
    cases h0 : (decide ((v3 : Int) < ((a0.length : Nat) : Int))) with
    | true =>
     have q0 := of_decide_eq_true h0
     have e := Eq.refl (S164_L_0 a0 (v1, v2, v3)); conv at e => rhs; simp only [S164_L_0, h0, cond_true, cond_false]
     rw [loopF_inl e]
     refine ba [.d h0, .i v3 (a0.length), .L c3_len a0 v3 0 1, .i v3 (a0.length), .L c3_len a0 v3 0 1] [] [0, 4, 5, 6] [] hcx (m := n) B164_L_0 (K164_L_0) (st164_L_0 a0 (if ((a0.getD (Int.toNat v3) default) : Int) < v1 then (a0.getD (Int.toNat v3) default) else v1) (if (v2 : Int) < (a0.getD (Int.toNat v3) default) then (a0.getD (Int.toNat v3) default) else v2) (W (v3 + 1))) (by kernel_rfl) ?_
     have z0 : (W (v3 + 1)) = (v3 + 1) := W_eq (by omega) (by omega)
     rw [z0]
     exact ih (if ((a0.getD (Int.toNat v3) default) : Int) < v1 then (a0.getD (Int.toNat v3) default) else v1) (if (v2 : Int) < (a0.getD (Int.toNat v3) default) then (a0.getD (Int.toNat v3) default) else v2) (v3 + 1) (by (try simp only [List.length_append, List.length_cons, List.length_nil, Int.toNat_zero]); omega) (by (try simp only [List.length_append, List.length_cons, List.length_nil, Int.toNat_zero]); omega)
    | false =>
     have q0 := of_decide_eq_false h0
     have e := Eq.refl (S164_L_0 a0 (v1, v2, v3)); conv at e => rhs; simp only [S164_L_0, h0, cond_true, cond_false]
     rw [loopF_s, e]
     exact rt [.d h0] [] [] hcx (by kernel_rfl)

def F164_L (a0 : List (Int)) : Int × Int :=
  (loopF (S164_L_0 a0) (Int.toNat (((a0.length : Nat) : Int) - 0) + 1) ((a0.getD (Int.toNat 0) default), (a0.getD (Int.toNat 0) default), 0))

theorem C164_L (a0 : List (Int)) (l0 : a0.length ≤ 9223372036854775807) (hl : 0 < a0.length) : Con Tryz.prog 164 [(.s 0 0 a0.length 1)] [(.live false true (flat c3 a0))] (.t (k2 (F164_L a0))) [] := by
  refine con_s Tryz.func164 (by kernel_rfl) fun cx hcx => ?_
  have e := Eq.refl (F164_L a0); conv at e => rhs; simp only [F164_L]
  rw [e]
  refine en [.i 0 (a0.length), .L c3_len a0 0 0 1, .i 0 (a0.length), .L c3_len a0 0 0 1] [] [0, 4, 5, 6] [] hcx B164_L_0 (K164_L_0) (st164_L_0 a0 (a0.getD (Int.toNat 0) default) (a0.getD (Int.toNat 0) default) 0) (Int.toNat (((a0.length : Nat) : Int) - 0) + 1) (by kernel_rfl) ?_
  exact L164_L_0 a0 l0 hl hcx (Int.toNat (((a0.length : Nat) : Int) - 0) + 1) (a0.getD (Int.toNat 0) default) (a0.getD (Int.toNat 0) default) 0 (by (try simp only [List.length_append, List.length_cons, List.length_nil, Int.toNat_zero]); omega) (by (try simp only [List.length_append, List.length_cons, List.length_nil, Int.toNat_zero]); omega)

def F159_L_L (a0 : List (Int)) (a1 : List (Int)) : Int :=
  (W ((if ((if (0 : Int) < (W ((F164_L a0).1 - (F164_L a1).2)) then (W ((F164_L a0).1 - (F164_L a1).2)) else 0) : Int) < (W ((F164_L a1).1 - (F164_L a0).2)) then (W ((F164_L a1).1 - (F164_L a0).2)) else (if (0 : Int) < (W ((F164_L a0).1 - (F164_L a1).2)) then (W ((F164_L a0).1 - (F164_L a1).2)) else 0)) * (if ((if (0 : Int) < (W ((F164_L a0).1 - (F164_L a1).2)) then (W ((F164_L a0).1 - (F164_L a1).2)) else 0) : Int) < (W ((F164_L a1).1 - (F164_L a0).2)) then (W ((F164_L a1).1 - (F164_L a0).2)) else (if (0 : Int) < (W ((F164_L a0).1 - (F164_L a1).2)) then (W ((F164_L a0).1 - (F164_L a1).2)) else 0))))

theorem C159_L_L (a0 : List (Int)) (a1 : List (Int)) (l0 : a0.length ≤ 9223372036854775807) (l1 : a1.length ≤ 9223372036854775807) (h1 : 0 < a0.length) (h2 : 0 < a1.length) : Con Tryz.prog 159 [(.s 0 0 a0.length 1), (.s 1 0 a1.length 1)] [(.live false true (flat c3 a0)), (.live false true (flat c3 a1))] (iv (F159_L_L a0 a1)) [] := by
  refine con_s Tryz.func159 (by kernel_rfl) fun cx hcx => ?_
  have e := Eq.refl (F159_L_L a0 a1); conv at e => rhs; simp only [F159_L_L]
  rw [e]
  exact rt [.c [0] (C164_L a0 (by (try simp only [List.length_append, List.length_cons, List.length_nil, Int.toNat_zero, axis3, axis1]); omega) (by (try simp only [List.length_append, List.length_cons, List.length_nil, Int.toNat_zero, axis3, axis1]); omega)), .c [1] (C164_L a1 (by (try simp only [List.length_append, List.length_cons, List.length_nil, Int.toNat_zero, axis3, axis1]); omega) (by (try simp only [List.length_append, List.length_cons, List.length_nil, Int.toNat_zero, axis3, axis1]); omega))] [] [] hcx (by kernel_rfl)

def F132_3 (a0 : (Int × Int × Int) × (Int × Int × Int) × Int × Int × Int) (a1 : (Int × Int × Int) × (Int × Int × Int) × (Int × Int × Int)) : Int :=
  (W ((W ((F159_L_L (F160_3 a0 0) (F160_3 a1 0)) + (F159_L_L (F160_3 a0 1) (F160_3 a1 1)))) + (F159_L_L (F160_3 a0 2) (F160_3 a1 2))))

theorem C132_3 (a0 : (Int × Int × Int) × (Int × Int × Int) × Int × Int × Int) (a1 : (Int × Int × Int) × (Int × Int × Int) × (Int × Int × Int)) : Con Tryz.prog 132 [(.a (k9 a0)), (.s 0 0 3 3)] [(.live false false (k9 a1))] (iv (F132_3 a0 a1)) [] := by
  refine con_s Tryz.func132 (by kernel_rfl) fun cx hcx => ?_
  have e := Eq.refl (F132_3 a0 a1); conv at e => rhs; simp only [F132_3]
  rw [e]
  exact rt [.c [2] (C160_3 a0 0), .c [0] (C160_3 a1 0), .c [3, 4] (C159_L_L (F160_3 a0 0) (F160_3 a1 0) (by (try simp only [List.length_append, List.length_cons, List.length_nil, Int.toNat_zero, axis3, axis1]); omega) (by (try simp only [List.length_append, List.length_cons, List.length_nil, Int.toNat_zero, axis3, axis1]); omega) (by (try simp only [List.length_append, List.length_cons, List.length_nil, Int.toNat_zero, axis3, axis1]); omega) (by (try simp only [List.length_append, List.length_cons, List.length_nil, Int.toNat_zero, axis3, axis1]); omega)), .c [2] (C160_3 a0 1), .c [0] (C160_3 a1 1), .c [5, 6] (C159_L_L (F160_3 a0 1) (F160_3 a1 1) (by (try simp only [List.length_append, List.length_cons, List.length_nil, Int.toNat_zero, axis3, axis1]); omega) (by (try simp only [List.length_append, List.length_cons, List.length_nil, Int.toNat_zero, axis3, axis1]); omega) (by (try simp only [List.length_append, List.length_cons, List.length_nil, Int.toNat_zero, axis3, axis1]); omega) (by (try simp only [List.length_append, List.length_cons, List.length_nil, Int.toNat_zero, axis3, axis1]); omega)), .c [2] (C160_3 a0 2), .c [0] (C160_3 a1 2), .c [7, 8] (C159_L_L (F160_3 a0 2) (F160_3 a1 2) (by (try simp only [List.length_append, List.length_cons, List.length_nil, Int.toNat_zero, axis3, axis1]); omega) (by (try simp only [List.length_append, List.length_cons, List.length_nil, Int.toNat_zero, axis3, axis1]); omega) (by (try simp only [List.length_append, List.length_cons, List.length_nil, Int.toNat_zero, axis3, axis1]); omega) (by (try simp only [List.length_append, List.length_cons, List.length_nil, Int.toNat_zero, axis3, axis1]); omega))] [] [] hcx (by kernel_rfl)

end Go.Proofs.YthpgabaeefifbaaGreat

namespace Go.Proofs.YthpgabaeefifbaaGreat
open Go.Proofs Go.Aw Go.RowKit
set_option maxRecDepth 100000
set_option linter.unusedVariables false
set_option linter.unusedSimpArgs false

/-! ### Roots -/
theorem sq_unique {n a b : Int} (ha : 0 ≤ a) (hb : 0 ≤ b) (h1 : a * a ≤ n) (h2 : n < (a + 1) * (a + 1)) (h3 : b * b ≤ n) (h4 : n < (b + 1) * (b + 1)) : a = b := by
  rcases Int.lt_trichotomy a b with h | h | h
  · have : (a + 1) * (a + 1) ≤ b * b := Int.mul_le_mul (by omega) (by omega) (by omega) hb
    omega
  · exact h
  · have : (b + 1) * (b + 1) ≤ a * a := Int.mul_le_mul (by omega) (by omega) (by omega) ha
    omega
def IsRt (n r : Int) : Prop := 0 ≤ r ∧ r * r ≤ n ∧ n < (r + 1) * (r + 1)
theorem IsRt.eq {n a b : Int} (h : IsRt n a) (h' : IsRt n b) : a = b := sq_unique h.1 h'.1 h.2.1 h.2.2 h'.2.1 h'.2.2
theorem IsRt.le {n r m : Int} (h : IsRt n r) (hm : 0 ≤ m) (hn : n < (m + 1) * (m + 1)) : r ≤ m := by
  rcases Int.lt_or_le m r with hlt | hle
  · have : (m + 1) * (m + 1) ≤ r * r := Int.mul_le_mul (by omega) (by omega) (by omega) h.1
    have := h.2.1; omega
  · exact hle
theorem IsRt.ge {n r m : Int} (h : IsRt n r) (hm : 0 ≤ m) (hn : m * m ≤ n) : m ≤ r := by
  rcases Int.lt_or_le r m with hlt | hle
  · have : (r + 1) * (r + 1) ≤ m * m := Int.mul_le_mul (by omega) (by omega) (by have := h.1; omega) hm
    have := h.2.2; omega
  · exact hle
theorem IsRt.mono {n m a b : Int} (h : IsRt n a) (h' : IsRt m b) (hnm : n ≤ m) : a ≤ b := h'.ge h.1 (Int.le_trans h.2.1 hnm)

theorem bits_spec {n : Int} {S : Int × Int → (Int × Int) ⊕ Int} (hS : ∀ k b, 0 ≤ k → 0 < b → k + b ≤ 2147483648 → S (k, b) = if (k + b) * (k + b) ≤ n then .inl (k + b, b / 2) else .inl (k, b / 2)) (h0 : ∀ k, S (k, 0) = .inr k) :
    ∀ (j f : Nat) (k : Int), j + 2 ≤ f → 0 ≤ k → k + 2 * 2 ^ j ≤ 2147483648 → k * k ≤ n → n < (k + 2 * 2 ^ j) * (k + 2 * 2 ^ j) → IsRt n (loopF S f (k, 2 ^ j)) := by
  intro j
  induction j with
  | zero =>
    intro f k hf hk hb h1 h2
    obtain ⟨f, rfl⟩ : ∃ g, f = g + 2 := ⟨f - 2, by omega⟩
    simp only [Int.pow_zero] at h2 hb ⊢
    have hs := hS k 1 hk (by omega) (by omega)
    by_cases hc : (k + 1) * (k + 1) ≤ n
    · rw [if_pos hc] at hs
      rw [loopF_inl hs, show ((1 : Int) / 2) = 0 by omega, loopF_inr (h0 _)]
      refine ⟨by omega, hc, ?_⟩
      rw [show k + 1 + 1 = k + 2 * 1 by omega]; exact h2
    · rw [if_neg hc] at hs
      rw [loopF_inl hs, show ((1 : Int) / 2) = 0 by omega, loopF_inr (h0 _)]
      exact ⟨hk, h1, by omega⟩
  | succ j ih =>
    intro f k hf hk hb h1 h2
    obtain ⟨f, rfl⟩ : ∃ g, f = g + 1 := ⟨f - 1, by omega⟩
    have hp : (0 : Int) < 2 ^ j := Int.pow_pos (by omega)
    rw [Int.pow_succ] at h2 hb ⊢
    have hs := hS k (2 ^ j * 2) hk (by omega) (by omega)
    have hd : (2 : Int) ^ j * 2 / 2 = 2 ^ j := Int.mul_ediv_cancel _ (by omega)
    rw [hd] at hs
    by_cases hc : (k + 2 ^ j * 2) * (k + 2 ^ j * 2) ≤ n
    · rw [if_pos hc] at hs
      rw [loopF_inl hs]
      refine ih f _ (by omega) (by omega) (by omega) hc ?_
      rw [show k + 2 ^ j * 2 + 2 * 2 ^ j = k + 2 * ((2 : Int) ^ j * 2) by omega]; exact h2
    · rw [if_neg hc] at hs
      rw [loopF_inl hs]
      refine ih f _ (by omega) hk (by omega) h1 ?_
      rw [show k + 2 * (2 : Int) ^ j = k + 2 ^ j * 2 by omega]; omega

theorem bins_spec {n : Int} {S : Int × Int → (Int × Int) ⊕ Int} (hS : ∀ a b, 0 ≤ a → a < b → b ≤ 2147483648 → S (a, b) = if ((a + b + 1) / 2) * ((a + b + 1) / 2) ≤ n then .inl ((a + b + 1) / 2, b) else .inl (a, (a + b + 1) / 2 - 1)) (h0 : ∀ a, S (a, a) = .inr a) :
    ∀ (f : Nat) (a b : Int), 0 ≤ a → a ≤ b → b ≤ 2147483648 → b - a < f → a * a ≤ n → n < (b + 1) * (b + 1) → IsRt n (loopF S f (a, b)) := by
  intro f
  induction f with
  | zero => intro a b _ h _ hf; omega
  | succ f ih =>
    intro a b ha hab hb hf h1 h2
    by_cases he : a = b
    · subst he
      rw [loopF_inr (h0 a)]; exact ⟨ha, h1, h2⟩
    · have hs := hS a b ha (by omega) hb
      by_cases hc : ((a + b + 1) / 2) * ((a + b + 1) / 2) ≤ n
      · rw [if_pos hc] at hs
        rw [loopF_inl hs]
        exact ih _ _ (by omega) (by omega) hb (by omega) hc h2
      · rw [if_neg hc] at hs
        rw [loopF_inl hs]
        refine ih _ _ ha (by omega) (by omega) (by omega) h1 ?_
        rw [show (a + b + 1) / 2 - 1 + 1 = (a + b + 1) / 2 by omega]; omega

theorem sq_bd {a : Int} (h : 0 ≤ a) (h' : a ≤ 2147483648) : 0 ≤ a * a ∧ a * a ≤ 4611686018427387904 := ⟨Int.mul_nonneg h h, Int.le_trans (Int.mul_le_mul h' h' h (by omega)) (by omega)⟩

theorem rtField {n : Int} (h0 : 0 ≤ n) (h : n < 4611686018427387904) : IsRt n (F148 n) := by
  unfold F148
  refine bits_spec (n := n) (fun k b hk hb hkb => ?_) (fun k => ?_) 30 _ 0 (by decide) (by omega) (by decide) (by omega) (by simpa using h)
  · have h2 : decide (b > 0) = true := by simpa using hb
    have hw : W (k + b) = k + b := W_eq (by omega) (by omega)
    have hq := sq_bd (a := k + b) (by omega) hkb
    have hw2 : W ((k + b) * (k + b)) = (k + b) * (k + b) := W_eq (by omega) (by omega)
    simp only [S148_0, h2, cond_true, hw, hw2]
    by_cases hc : (k + b) * (k + b) ≤ n <;> simp [hc]
  · simp [S148_0]

theorem rtSpan {n : Int} (h0 : 0 ≤ n) (h : n < 4611686018427387904) : IsRt n (F73 n) := by
  unfold F73
  rw [show decide ((4611686018427387904 : Int) ≤ n) = false by simpa using h]
  simp only [cond_false]
  refine bits_spec (n := n) (fun k b hk hb hkb => ?_) (fun k => ?_) 30 _ 0 (by decide) (by omega) (by decide) (by omega) (by simpa using h)
  · have h2 : ((b : Int) == 0) = false := by rw [beq_eq_false_iff_ne]; omega
    have hw : W (k + b) = k + b := W_eq (by omega) (by omega)
    have hq := sq_bd (a := k + b) (by omega) hkb
    have hw2 : W ((k + b) * (k + b)) = (k + b) * (k + b) := W_eq (by omega) (by omega)
    simp only [S73_0, h2, cond_false, hw, hw2]
    by_cases hc : (k + b) * (k + b) ≤ n <;> simp [hc]
  · simp [S73_0]

theorem rtRef {n : Int} (h0 : 0 ≤ n) (h : n < 4611686018427387904) : IsRt n (F163 n) := by
  unfold F163
  refine bins_spec (n := n) (fun a b ha hab hb => ?_) (fun a => ?_) _ 0 2147483648 (by omega) (by omega) (by omega) (by decide) (by omega) (by omega)
  · have h2 : decide (a < b) = true := by simpa using hab
    have hw := mid1_eq (a := a) (b := b) (by omega)
    have hw3 := mid2_eq (a := a) (b := b) (by omega)
    have hq := sq_bd (a := (a + b + 1) / 2) (by omega) (by omega)
    have hw2 : W ((a + b + 1) / 2 * ((a + b + 1) / 2)) = (a + b + 1) / 2 * ((a + b + 1) / 2) := W_eq (by omega) (by omega)
    have hw4 : W ((a + b + 1) / 2 - 1) = (a + b + 1) / 2 - 1 := W_eq (by omega) (by omega)
    simp only [S163_0, h2, cond_true, hw, hw2, hw4]
    by_cases hc : (a + b + 1) / 2 * ((a + b + 1) / 2) ≤ n <;> simp [hc]
  · simp [S163_0]

/-! ### Points, in whole numbers -/
abbrev P3 := Int × Int × Int
abbrev PN := P3 × P3 × P3
def bd (m : Int) (p : P3) : Prop := (-m ≤ p.1 ∧ p.1 ≤ m) ∧ (-m ≤ p.2.1 ∧ p.2.1 ≤ m) ∧ (-m ≤ p.2.2 ∧ p.2.2 ≤ m)
def bdP (m : Int) (p : PN) : Prop := bd m p.1 ∧ bd m p.2.1 ∧ bd m p.2.2
def sb (p q : P3) : P3 := (p.1 - q.1, p.2.1 - q.2.1, p.2.2 - q.2.2)
def dt (p q : P3) : Int := p.1 * q.1 + p.2.1 * q.2.1 + p.2.2 * q.2.2
def cr (p q : P3) : P3 := (p.2.1 * q.2.2 - p.2.2 * q.2.1, p.2.2 * q.1 - p.1 * q.2.2, p.1 * q.2.1 - p.2.1 * q.1)
def nrm (p : PN) : P3 := cr (sb p.2.1 p.1) (sb p.2.2 p.1)

theorem mul_bd {a b x y : Int} (hx : -a ≤ x ∧ x ≤ a) (hy : -b ≤ y ∧ y ≤ b) : -(a * b) ≤ x * y ∧ x * y ≤ a * b := by
  have h1 := Int.mul_nonneg (show 0 ≤ a - x by omega) (show 0 ≤ b - y by omega)
  have h2 := Int.mul_nonneg (show 0 ≤ a + x by omega) (show 0 ≤ b + y by omega)
  have h3 := Int.mul_nonneg (show 0 ≤ a - x by omega) (show 0 ≤ b + y by omega)
  have h4 := Int.mul_nonneg (show 0 ≤ a + x by omega) (show 0 ≤ b - y by omega)
  rw [Int.sub_mul, Int.mul_sub, Int.mul_sub] at h1
  rw [Int.add_mul, Int.mul_add, Int.mul_add] at h2
  rw [Int.sub_mul, Int.mul_add, Int.mul_add] at h3
  rw [Int.add_mul, Int.mul_sub, Int.mul_sub] at h4
  omega

theorem bd_sb {a b : Int} {p q : P3} (hp : bd a p) (hq : bd b q) : bd (a + b) (sb p q) := by
  unfold bd at *; simp only [sb]; omega
theorem sq_nn (x : Int) : 0 ≤ x * x := by
  rcases Int.le_total 0 x with h | h
  · exact Int.mul_nonneg h h
  · exact Int.mul_nonneg_of_nonpos_of_nonpos h h
theorem dt_self (p : P3) : 0 ≤ dt p p := by
  have := sq_nn p.1; have := sq_nn p.2.1; have := sq_nn p.2.2
  simp only [dt]; omega
theorem dt_pos {p : P3} (h : ¬ (p.1 = 0 ∧ p.2.1 = 0 ∧ p.2.2 = 0)) : 1 ≤ dt p p := by
  have := sq_nn p.1; have := sq_nn p.2.1; have := sq_nn p.2.2
  have key : ∀ x : Int, x ≠ 0 → 1 ≤ x * x := fun x hx => by
    have h0 := sq_nn x
    have : x * x ≠ 0 := Int.mul_ne_zero hx hx
    omega
  simp only [dt]
  by_cases h1 : p.1 = 0
  · by_cases h2 : p.2.1 = 0
    · have := key p.2.2 (fun h3 => h ⟨h1, h2, h3⟩); omega
    · have := key _ h2; omega
  · have := key _ h1; omega
theorem dt_bd {a : Int} {p q : P3} (hp : bd a p) (hq : bd a q) : -(3 * (a * a)) ≤ dt p q ∧ dt p q ≤ 3 * (a * a) := by
  have := mul_bd hp.1 hq.1; have := mul_bd hp.2.1 hq.2.1; have := mul_bd hp.2.2 hq.2.2
  simp only [dt]; omega
theorem cr_bd {a : Int} {p q : P3} (hp : bd a p) (hq : bd a q) : bd (2 * (a * a)) (cr p q) := by
  have := mul_bd hp.2.1 hq.2.2; have := mul_bd hp.2.2 hq.2.1; have := mul_bd hp.2.2 hq.1; have := mul_bd hp.1 hq.2.2; have := mul_bd hp.1 hq.2.1; have := mul_bd hp.2.1 hq.1
  unfold bd; simp only [cr]; omega

theorem W0 {n : Int} (h : -9223372036854775808 ≤ n ∧ n < 9223372036854775808) : W n = n := W_eq h.1 h.2
theorem fsb {p q : P3} (hp : bd 100000 p) (hq : bd 100000 q) : F147 p q = sb p q := by
  unfold bd at *; simp only [F147, sb]
  rw [W_eq (by omega) (by omega), W_eq (by omega) (by omega), W_eq (by omega) (by omega)]
theorem fdt {p q : P3} (hp : bd 1000000000 p) (hq : bd 1000000000 q) : F149 p q = dt p q := by
  have h1 := mul_bd hp.1 hq.1; have h2 := mul_bd hp.2.1 hq.2.1; have h3 := mul_bd hp.2.2 hq.2.2
  simp only [F149, F162_3, dt]
  rw [W_eq (n := p.1 * q.1) (by omega) (by omega), W_eq (n := p.2.1 * q.2.1) (by omega) (by omega), W_eq (n := p.2.2 * q.2.2) (by omega) (by omega), Int.zero_add, W_eq (n := p.1 * q.1) (by omega) (by omega), W_eq (n := p.1 * q.1 + p.2.1 * q.2.1) (by omega) (by omega), W_eq (by omega) (by omega)]
theorem rdt {p q : P3} (hp : bd 1000000000 p) (hq : bd 1000000000 q) : F116 p q = dt p q := by
  have h1 := mul_bd hp.1 hq.1; have h2 := mul_bd hp.2.1 hq.2.1; have h3 := mul_bd hp.2.2 hq.2.2
  simp only [F116, dt]
  rw [W_eq (n := p.1 * q.1) (by omega) (by omega), W_eq (n := p.2.1 * q.2.1) (by omega) (by omega), W_eq (n := p.2.2 * q.2.2) (by omega) (by omega), W_eq (n := p.1 * q.1 + p.2.1 * q.2.1) (by omega) (by omega), W_eq (by omega) (by omega)]
theorem rsb {p q : P3} (hp : bd 100000 p) (hq : bd 100000 q) : F115 p q = sb p q := by
  unfold bd at *; simp only [F115, sb]
  rw [W_eq (by omega) (by omega), W_eq (by omega) (by omega), W_eq (by omega) (by omega)]
theorem cr_W {p q : P3} (hp : bd 1000000000 p) (hq : bd 1000000000 q) :
    ((W ((W (p.2.1 * q.2.2)) - (W (p.2.2 * q.2.1)))), (W ((W (p.2.2 * q.1)) - (W (p.1 * q.2.2)))), (W ((W (p.1 * q.2.1)) - (W (p.2.1 * q.1))))) = cr p q := by
  have h1 := mul_bd hp.2.1 hq.2.2; have h2 := mul_bd hp.2.2 hq.2.1; have h3 := mul_bd hp.2.2 hq.1; have h4 := mul_bd hp.1 hq.2.2; have h5 := mul_bd hp.1 hq.2.1; have h6 := mul_bd hp.2.1 hq.1
  simp only [cr]
  rw [W_eq (n := p.2.1 * q.2.2) (by omega) (by omega), W_eq (n := p.2.2 * q.2.1) (by omega) (by omega), W_eq (n := p.2.2 * q.1) (by omega) (by omega), W_eq (n := p.1 * q.2.2) (by omega) (by omega), W_eq (n := p.1 * q.2.1) (by omega) (by omega), W_eq (n := p.2.1 * q.1) (by omega) (by omega),
    W_eq (by omega) (by omega), W_eq (by omega) (by omega), W_eq (by omega) (by omega)]
theorem fcr {p q : P3} (hp : bd 1000000000 p) (hq : bd 1000000000 q) : F146 p q = cr p q := cr_W hp hq
theorem scr {p q : P3} (hp : bd 1000000000 p) (hq : bd 1000000000 q) : F143 p q = cr p q := cr_W hp hq
theorem rcr {p q : P3} (hp : bd 1000000000 p) (hq : bd 1000000000 q) : F114 p q = cr p q := cr_W hp hq
theorem ssb {p q : P3} (hp : bd 100000 p) (hq : bd 100000 q) : F144 p q = sb p q := by
  unfold bd at *; simp only [F144, F161, sb]
  rw [W_eq (n := -1 * q.1) (by omega) (by omega), W_eq (n := -1 * q.2.1) (by omega) (by omega), W_eq (n := -1 * q.2.2) (by omega) (by omega), W_eq (by omega) (by omega), W_eq (by omega) (by omega), W_eq (by omega) (by omega)]
  refine Prod.ext (by simp only; omega) (Prod.ext (by simp only; omega) (by simp only; omega))
theorem bd.mono {a b : Int} {p : P3} (h : bd a p) (hab : a ≤ b) : bd b p := by unfold bd at *; omega
theorem bdP.mono {a b : Int} {p : PN} (h : bdP a p) (hab : a ≤ b) : bdP b p := ⟨h.1.mono hab, h.2.1.mono hab, h.2.2.mono hab⟩

/-! ### Valid panels -/
theorem within_eq (n a b : Int) : F118 n a b = decide (a ≤ n ∧ n ≤ b) := by
  unfold F118
  by_cases h1 : n ≥ a <;> by_cases h2 : n ≤ b <;> simp [h1, h2] <;> omega
theorem within_eq3 (n a b : Int) : F128 n a b = decide (a ≤ n ∧ n ≤ b) := by
  unfold F128
  by_cases h1 : n ≥ a <;> by_cases h2 : n ≤ b <;> simp [h1, h2] <;> omega
theorem within_eq1 (n a b : Int) : F82 n a b = decide (a ≤ n ∧ n ≤ b) := by
  unfold F82
  by_cases h1 : n ≥ a <;> by_cases h2 : n ≤ b <;> simp [h1, h2] <;> omega
theorem within_eq2 (n a b : Int) : F75 n a b = decide (a ≤ n ∧ n ≤ b) := by
  unfold F75
  by_cases h1 : n ≥ a <;> by_cases h2 : n ≤ b <;> simp [h1, h2] <;> omega
theorem from_eq (n a b : Int) : F66 n a b = decide (a ≤ n ∧ n ≤ b) := by
  unfold F66
  by_cases h1 : a ≤ n <;> by_cases h2 : n ≤ b <;> simp [h1, h2]
theorem and3 {a b c d : Prop} [Decidable a] [Decidable b] [Decidable c] [Decidable d] (h : (a ∧ b ∧ c) ↔ d) : (bif decide a then (bif decide b then decide c else false) else false) = decide d := by
  by_cases h1 : a
  · by_cases h2 : b
    · rw [decide_eq_true h1, decide_eq_true h2, cond_true, cond_true]
      by_cases h3 : c
      · rw [decide_eq_true h3, decide_eq_true (h.1 ⟨h1, h2, h3⟩)]
      · rw [decide_eq_false h3, decide_eq_false (fun hd => h3 (h.2 hd).2.2)]
    · rw [decide_eq_true h1, decide_eq_false h2, cond_true, cond_false, decide_eq_false (fun hd => h2 (h.2 hd).2.1)]
  · rw [decide_eq_false h1, cond_false, decide_eq_false (fun hd => h1 (h.2 hd).1)]
theorem eq3 (x y z a b : Int) : (bif (((x : Int) == 0) && (((y : Int) == 0) && (((z : Int) == 0) && true))) then a else b) = if x = 0 ∧ y = 0 ∧ z = 0 then a else b := by
  have key : ∀ t : Int, (t == 0) = decide (t = 0) := fun t => by
    by_cases h : t = 0
    · rw [decide_eq_true h]; simpa using h
    · rw [decide_eq_false h]; simpa using h
  rw [key, key, key, Bool.and_true, ← Bool.decide_and, ← Bool.decide_and]
  by_cases h : x = 0 ∧ y = 0 ∧ z = 0
  · rw [if_pos h, decide_eq_true h, cond_true]
  · rw [if_neg h, decide_eq_false h, cond_false]
open Classical in
theorem inRange_eq (p : P3) : F108 p 64 = decide (bd 64 p) := by
  unfold F108
  rw [from_eq, from_eq, from_eq, W_eq (by omega) (by omega)]
  exact and3 (by unfold bd; omega)
open Classical in
theorem near02_eq (p : P3) : F76 p 64 = decide (bd 64 p) := by
  unfold F76
  rw [within_eq2, within_eq2, within_eq2, W_eq (by omega) (by omega)]
  exact and3 (by unfold bd; omega)
open Classical in
noncomputable def vp (p : PN) : Int := if bdP 64 p then (if (nrm p).1 = 0 ∧ (nrm p).2.1 = 0 ∧ (nrm p).2.2 = 0 then 6 else 0) else 1
theorem nrm_s {p : PN} (h : bdP 64 p) : F109 p = nrm p := by
  have h1 := h.1.mono (show (64 : Int) ≤ 100000 by omega); have h2 := h.2.1.mono (show (64 : Int) ≤ 100000 by omega); have h3 := h.2.2.mono (show (64 : Int) ≤ 100000 by omega)
  unfold F109 nrm
  rw [ssb h2 h1, ssb h3 h1]
  exact scr ((bd_sb h.2.1 h.1).mono (by omega)) ((bd_sb h.2.2 h.1).mono (by omega))
theorem nrm_r {p : PN} (h : bdP 64 p) : F77 p = nrm p := by
  have h1 := h.1.mono (show (64 : Int) ≤ 100000 by omega); have h2 := h.2.1.mono (show (64 : Int) ≤ 100000 by omega); have h3 := h.2.2.mono (show (64 : Int) ≤ 100000 by omega)
  unfold F77 nrm
  rw [rsb h2 h1, rsb h3 h1]
  exact rcr ((bd_sb h.2.1 h.1).mono (by omega)) ((bd_sb h.2.2 h.1).mono (by omega))
theorem nrm_f {p : PN} (h : bdP 64 p) : F146 (F147 p.2.1 p.1) (F147 p.2.2 p.1) = nrm p := by
  have h1 := h.1.mono (show (64 : Int) ≤ 100000 by omega); have h2 := h.2.1.mono (show (64 : Int) ≤ 100000 by omega); have h3 := h.2.2.mono (show (64 : Int) ≤ 100000 by omega)
  unfold nrm
  rw [fsb h2 h1, fsb h3 h1]
  exact fcr ((bd_sb h.2.1 h.1).mono (by omega)) ((bd_sb h.2.2 h.1).mono (by omega))
theorem vp_s (p : PN) : F117 p = vp p := by
  unfold F117 vp
  rw [inRange_eq, inRange_eq, inRange_eq]
  by_cases h1 : bd 64 p.1
  · by_cases h2 : bd 64 p.2.1
    · by_cases h3 : bd 64 p.2.2
      · have hb : bdP 64 p := ⟨h1, h2, h3⟩
        rw [nrm_s hb, if_pos hb]
        rw [eq3]; simp [h1, h2, h3]
      · simp [h1, h2, h3, bdP]
    · simp [h1, h2, bdP]
  · simp [h1, bdP]
theorem vp_r (p : PN) : F127 p = vp p := by
  unfold F127 vp
  rw [near02_eq, near02_eq, near02_eq]
  by_cases h1 : bd 64 p.1
  · by_cases h2 : bd 64 p.2.1
    · by_cases h3 : bd 64 p.2.2
      · have hb : bdP 64 p := ⟨h1, h2, h3⟩
        rw [nrm_r hb, if_pos hb]
        rw [eq3]; simp [h1, h2, h3]
      · simp [h1, h2, h3, bdP]
    · simp [h1, h2, bdP]
  · simp [h1, bdP]
theorem vp_ok {p : PN} (h : vp p = 0) : bdP 64 p ∧ 1 ≤ dt (nrm p) (nrm p) := by
  unfold vp at h
  split at h
  · rename_i hb
    split at h
    · cases h
    · rename_i hn; exact ⟨hb, dt_pos hn⟩
  · cases h
theorem nn_bd {p : PN} (h : bdP 64 p) : bd 32768 (nrm p) ∧ dt (nrm p) (nrm p) ≤ 3221225472 := by
  have hb : bd (2 * (128 * 128)) (nrm p) := cr_bd (bd_sb h.2.1 h.1) (bd_sb h.2.2 h.1)
  exact ⟨hb.mono (by omega), by have := (dt_bd hb hb).2; omega⟩
theorem rt_rim {p : PN} (h : vp p = 0) : ∃ k, F148 (F149 (F146 (F147 p.2.1 p.1) (F147 p.2.2 p.1)) (F146 (F147 p.2.1 p.1) (F147 p.2.2 p.1))) = k ∧ IsRt (dt (nrm p) (nrm p)) k ∧ 1 ≤ k ∧ k ≤ 56755 := by
  obtain ⟨hb, hd⟩ := vp_ok h
  obtain ⟨hn, hu⟩ := nn_bd hb
  rw [nrm_f hb, fdt (hn.mono (by omega)) (hn.mono (by omega))]
  have := rtField (n := dt (nrm p) (nrm p)) (by omega) (by omega)
  exact ⟨_, rfl, this, this.ge (by omega) (by omega), this.le (by omega) (by omega)⟩
theorem rim_ne {p : PN} (h : F117 p = 0) : W (128 * F148 (F149 (F146 (F147 p.2.1 p.1) (F147 p.2.2 p.1)) (F146 (F147 p.2.1 p.1) (F147 p.2.2 p.1)))) ≠ 0 := by
  rw [vp_s] at h
  obtain ⟨k, e, _, h1, h2⟩ := rt_rim h
  rw [e, W_eq (by omega) (by omega)]; omega
theorem rim_neR {p : PN} (h : F127 p = 0) : W (128 * F157 (F116 (F77 p) (F77 p))) ≠ 0 := by
  rw [vp_r] at h
  obtain ⟨hb, hd⟩ := vp_ok h
  obtain ⟨hn, hu⟩ := nn_bd hb
  rw [nrm_r hb, rdt (hn.mono (by omega)) (hn.mono (by omega))]
  have := rtRef (n := dt (nrm p) (nrm p)) (by omega) (by omega)
  have h1 := this.ge (m := 1) (by omega) (by omega)
  have h2 := this.le (m := 56755) (by omega) (by omega)
  unfold F157
  rw [W_eq (by omega) (by omega)]; omega

end Go.Proofs.YthpgabaeefifbaaGreat

namespace Go.Proofs.YthpgabaeefifbaaGreat
open Go.Proofs Go.Aw Go.RowKit
set_option maxRecDepth 100000
set_option linter.unusedVariables false
set_option linter.unusedSimpArgs false

/-! ### The reference's list of parts -/
def quadR (x : PN) : List PN :=
  [(F94 x.1 2, F142 (F94 x.1 2) (F94 x.2.1 2), F142 (F94 x.2.2 2) (F94 x.1 2)),
   (F142 (F94 x.1 2) (F94 x.2.1 2), F94 x.2.1 2, F142 (F94 x.2.1 2) (F94 x.2.2 2)),
   (F142 (F94 x.2.2 2) (F94 x.1 2), F142 (F94 x.2.1 2) (F94 x.2.2 2), F94 x.2.2 2),
   (F142 (F94 x.1 2) (F94 x.2.1 2), F142 (F94 x.2.1 2) (F94 x.2.2 2), F142 (F94 x.2.2 2) (F94 x.1 2))]
def refL : Nat → List PN → List PN
  | 0, l => l
  | n + 1, l => refL n (l.flatMap quadR)
theorem refL_length : ∀ (n : Nat) (l : List PN), (refL n l).length = 4 ^ n * l.length
  | 0, l => by simp [refL]
  | n + 1, l => by
    have : (l.flatMap quadR).length = 4 * l.length := by
      induction l with
      | nil => rfl
      | cons x l ih => rw [List.flatMap_cons, List.length_append, ih]; simp only [quadR, List.length_cons, List.length_nil]; omega
    rw [refL, refL_length n, this, Nat.pow_succ]
    rw [← Nat.mul_assoc, Nat.mul_comm (4 ^ n) 4, Nat.mul_comm 4 (4 ^ n)]
theorem cut_in (a0 : PN) (a1 : Int) (l : List PN) : ∀ (f i : Nat) (nx : List PN) (d : Int), l.length - i < f → i ≤ l.length →
    loopF (S100_1 a0 a1) f (l, nx, d, (i : Int)) = .inl (nx ++ (l.drop i).flatMap quadR, d + 1) := by
  intro f
  induction f with
  | zero => intro i nx d h; omega
  | succ f ih =>
    intro i nx d h hi
    by_cases hlt : i < l.length
    · have hs : S100_1 a0 a1 (l, nx, d, (i : Int)) = .inl (l, nx ++ quadR (l.getD i default), d, ((i + 1 : Nat) : Int)) := by
        have : decide ((i : Int) < (l.length : Int)) = true := by simpa using hlt
        simp only [S100_1, this, cond_true, Int.toNat_natCast, quadR]
        rfl
      rw [loopF_inl hs, ih _ _ _ (by omega) (by omega)]
      have hd : l.drop i = l.getD i default :: l.drop (i + 1) := by
        rw [List.drop_eq_getElem_cons hlt]; simp [List.getD_eq_getElem?_getD, hlt]
      rw [hd, List.flatMap_cons, List.append_assoc]
    · have : decide ((i : Int) < (l.length : Int)) = false := by simpa using hlt
      have hs : S100_1 a0 a1 (l, nx, d, (i : Int)) = .inr (.inl (nx, d + 1)) := by
        simp only [S100_1, this, cond_false]
      rw [loopF_inr hs, List.drop_of_length_le (by omega)]; simp
theorem cut_out (a0 : PN) (a1 : Int) : ∀ (f n : Nat) (l : List PN), n < f → loopF (S100_0 a0 a1) f (l, a1 - n) = refL n l := by
  intro f
  induction f with
  | zero => intro n l h; omega
  | succ f ih =>
    intro n l h
    cases n with
    | zero =>
      have hs : S100_0 a0 a1 (l, a1 - (0 : Nat)) = .inr l := by
        have : decide (a1 - ((0 : Nat) : Int) < a1) = false := by simp
        simp only [S100_0, this, cond_false]
      rw [loopF_inr hs]; rfl
    | succ n =>
      have hs : S100_0 a0 a1 (l, a1 - ((n + 1 : Nat) : Int)) = .inl (l.flatMap quadR, a1 - (n : Nat)) := by
        have : decide (a1 - ((n + 1 : Nat) : Int) < a1) = true := by simp; omega
        simp only [S100_0, this, cond_true]
        have := cut_in a0 a1 l (Int.toNat (((l.length : Nat) : Int) - 0) + 1) 0 [] (a1 - ((n + 1 : Nat) : Int)) (by omega) (by omega)
        simp only [List.drop_zero, List.nil_append] at this
        rw [show ((0 : Nat) : Int) = 0 from rfl] at this
        rw [this, show a1 - ((n + 1 : Nat) : Int) + 1 = a1 - (n : Nat) by omega]
      rw [loopF_inl hs, ih _ _ (by omega)]; rfl
theorem cut_refL (p : PN) {d : Int} (h : 0 ≤ d) : F100 p d = refL d.toNat [p] := by
  unfold F100
  have := cut_out p d (Int.toNat (d - 0) + 1) d.toNat [p] (by omega)
  rw [show d - (d.toNat : Int) = 0 by omega] at this
  exact this
theorem cut_len (p : PN) {d : Int} (h : 0 ≤ d) : (F100 p d).length = 4 ^ d.toNat := by
  rw [cut_refL p h, refL_length]; simp
theorem cut_ne {p : PN} {d : Int} (h : 0 ≤ d) : ((((F100 p d).length : Nat)) : Int) ≠ 0 := by
  rw [cut_len p h]
  have : 0 < 4 ^ d.toNat := Nat.pow_pos (by omega)
  omega
theorem cut_le {p : PN} {d : Int} (h : 0 ≤ d ∧ d ≤ 3) : (F100 p d).length ≤ 64 := by
  rw [cut_len p h.1]
  have : d.toNat ≤ 3 := by omega
  calc 4 ^ d.toNat ≤ 4 ^ 3 := Nat.pow_le_pow_right (by omega) this
    _ = 64 := rfl

/-! ### It is the program's -/
def quad (x : PN) : List PN := [q1 x, q2 x, q3 x, q4 x]
theorem times_f {p : P3} (h : bd 100000 p) : F89 p 2 = (2 * p.1, 2 * p.2.1, 2 * p.2.2) := by
  unfold bd at h; simp only [F89]; rw [W_eq (by omega) (by omega), W_eq (by omega) (by omega), W_eq (by omega) (by omega)]
theorem times_r {p : P3} (h : bd 100000 p) : F94 p 2 = (2 * p.1, 2 * p.2.1, 2 * p.2.2) := by
  unfold bd at h; simp only [F94]; rw [W_eq (by omega) (by omega), W_eq (by omega) (by omega), W_eq (by omega) (by omega)]
theorem mid_f {p q : P3} (hp : bd 100000 p) (hq : bd 100000 q) : F138 p q = (p.1 + q.1, p.2.1 + q.2.1, p.2.2 + q.2.2) := by
  unfold bd at hp hq; simp only [F138]; rw [W_eq (by omega) (by omega), W_eq (by omega) (by omega), W_eq (by omega) (by omega)]
theorem mid_r {p q : P3} (hp : bd 100000 p) (hq : bd 100000 q) : F142 (F94 p 2) (F94 q 2) = (p.1 + q.1, p.2.1 + q.2.1, p.2.2 + q.2.2) := by
  rw [times_r hp, times_r hq]
  have key : ∀ a b : Int, (-100000 ≤ a ∧ a ≤ 100000) → (-100000 ≤ b ∧ b ≤ 100000) → W (Int.tdiv (W (2 * a + 2 * b)) 2) = a + b := fun a b h1 h2 => by
    rw [W_eq (n := 2 * a + 2 * b) (by omega) (by omega), ← Int.mul_add, Int.mul_tdiv_cancel_left _ (by omega), W_eq (by omega) (by omega)]
  simp only [F142]
  rw [key _ _ hp.1 hq.1, key _ _ hp.2.1 hq.2.1, key _ _ hp.2.2 hq.2.2]
theorem quad_eq {x : PN} (h : bdP 100000 x) : quadR x = quad x := by
  unfold quadR quad q1 q2 q3 q4
  rw [mid_r h.1 h.2.1, mid_r h.2.2 h.1, mid_r h.2.1 h.2.2, mid_f h.1 h.2.1, mid_f h.2.2 h.1, mid_f h.2.1 h.2.2, times_r h.1, times_r h.2.1, times_r h.2.2, times_f h.1, times_f h.2.1, times_f h.2.2]
theorem quad_bd {m : Int} {x y : PN} (h : bdP m x) (hm : m ≤ 100000) (hy : y ∈ quad x) : bdP (2 * m) y := by
  have h1 := h.1.mono hm; have h2 := h.2.1.mono hm; have h3 := h.2.2.mono hm
  unfold quad q1 q2 q3 q4 at hy
  rw [mid_f h1 h2, mid_f h3 h1, mid_f h2 h3, times_f h1, times_f h2, times_f h3] at hy
  have ha := h.1; have hb := h.2.1; have hc := h.2.2
  unfold bd at ha hb hc
  simp only [List.mem_cons, List.mem_nil_iff, or_false] at hy
  unfold bdP bd
  rcases hy with rfl | rfl | rfl | rfl <;> simp only <;> omega
theorem cutL_quad : ∀ (d : Nat) (p : PN), cutL (d + 1) p = (cutL d p).flatMap quad
  | 0, p => by simp [cutL, quad]
  | d + 1, p => by
    rw [show cutL (d + 1 + 1) p = cutL (d + 1) (q1 p) ++ (cutL (d + 1) (q2 p) ++ (cutL (d + 1) (q3 p) ++ cutL (d + 1) (q4 p))) from rfl]
    rw [cutL_quad d (q1 p), cutL_quad d (q2 p), cutL_quad d (q3 p), cutL_quad d (q4 p)]
    simp only [cutL, List.flatMap_append]
theorem cutL_bd : ∀ (d : Nat) {m : Int} {p x : PN}, bdP m p → m * 2 ^ d ≤ 100000 → 0 ≤ m → x ∈ cutL d p → bdP (m * 2 ^ d) x
  | 0, m, p, x, h, _, _, hx => by simp [cutL] at hx; subst hx; simpa using h
  | d + 1, m, p, x, h, hm, h0, hx => by
    rw [cutL_quad, List.mem_flatMap] at hx
    obtain ⟨y, hy, hx⟩ := hx
    have hp : (0 : Int) < 2 ^ d := Int.pow_pos (by omega)
    have hle : m * 2 ^ d ≤ m * 2 ^ (d + 1) := Int.mul_le_mul_of_nonneg_left (by rw [Int.pow_succ]; omega) h0
    have := quad_bd (cutL_bd d h (by omega) h0 hy) (by omega) hx
    rw [Int.pow_succ, ← Int.mul_assoc, Int.mul_comm]; exact this
theorem flatMap_eq {α β : Type} {f g : α → List β} : ∀ {l : List α}, (∀ x ∈ l, f x = g x) → l.flatMap f = l.flatMap g
  | [], _ => rfl
  | x :: l, h => by rw [List.flatMap_cons, List.flatMap_cons, h x (by simp), flatMap_eq (fun y hy => h y (by simp [hy]))]
theorem refL_snoc : ∀ (n : Nat) (l : List PN), refL (n + 1) l = (refL n l).flatMap quadR
  | 0, l => rfl
  | n + 1, l => by rw [refL, refL_snoc n]; rfl
theorem cut_eq {p : PN} (hp : bdP 64 p) : ∀ d : Nat, d ≤ 9 → refL d [p] = cutL d p
  | 0, _ => rfl
  | d + 1, h => by
    rw [refL_snoc, cut_eq hp d (by omega), cutL_quad]
    have hle : (64 : Int) * 2 ^ d ≤ 100000 := by
      have h1 : (2 : Nat) ^ d ≤ 2 ^ 9 := Nat.pow_le_pow_right (by omega) (by omega)
      have h2 : (2 : Int) ^ d = ((2 ^ d : Nat) : Int) := by simp
      omega
    exact flatMap_eq (fun x hx => quad_eq ((cutL_bd d hp hle (by omega) hx).mono hle))
theorem cutR {p : PN} (hp : bdP 64 p) {d : Int} (h : 0 ≤ d ∧ d ≤ 3) : F100 p d = cutL d.toNat p := by
  rw [cut_refL p h.1, cut_eq hp _ (by omega)]

end Go.Proofs.YthpgabaeefifbaaGreat

namespace Go.Proofs.YthpgabaeefifbaaGreat
open Go.Proofs Go.Aw Go.RowKit
set_option maxRecDepth 100000
set_option linter.unusedVariables false
set_option linter.unusedSimpArgs false

theorem C98 (a0 : (Int × Int × Int) × (Int × Int × Int) × Int × Int × Int) (a1 : Int) : Con Tryz.prog 98 [(.a (k9 a0)), (iv a1)] [] (.f 136 [(.p 0 0), (.p 1 0)]) [(.live true false (k9 a0)), (.live true false [(iv a1)])] := by
  refine con_s Tryz.func98 (by kernel_rfl) fun cx hcx => ?_
  exact rt [] [] [0, 1] hcx (by kernel_rfl)

def F119 (a0 : (Int × Int × Int) × (Int × Int × Int) × Int × Int × Int) (a1 : Int) : Int :=
  (bif (decide (((W ((W ((F148 (W (Int.tdiv (W (3537128906555392 * 2 ^ (min (Int.toNat (W (2 * a1))) 64))) (W (128 * (F148 (F149 (F146 (F147 a0.2.1 a0.1) (F147 a0.2.2 a0.1)) (F146 (F147 a0.2.1 a0.1) (F147 a0.2.2 a0.1))))))))) * (F148 (W (Int.tdiv (W (3537128906555392 * 2 ^ (min (Int.toNat (W (2 * a1))) 64))) (W (128 * (F148 (F149 (F146 (F147 a0.2.1 a0.1) (F147 a0.2.2 a0.1)) (F146 (F147 a0.2.1 a0.1) (F147 a0.2.2 a0.1))))))))))) * (W (128 * (F148 (F149 (F146 (F147 a0.2.1 a0.1) (F147 a0.2.2 a0.1)) (F146 (F147 a0.2.1 a0.1) (F147 a0.2.2 a0.1)))))))) : Int) < (W (3537128906555392 * 2 ^ (min (Int.toNat (W (2 * a1))) 64))))) then
   (W ((F148 (W (Int.tdiv (W (3537128906555392 * 2 ^ (min (Int.toNat (W (2 * a1))) 64))) (W (128 * (F148 (F149 (F146 (F147 a0.2.1 a0.1) (F147 a0.2.2 a0.1)) (F146 (F147 a0.2.1 a0.1) (F147 a0.2.2 a0.1))))))))) + 1))
  else
   (F148 (W (Int.tdiv (W (3537128906555392 * 2 ^ (min (Int.toNat (W (2 * a1))) 64))) (W (128 * (F148 (F149 (F146 (F147 a0.2.1 a0.1) (F147 a0.2.2 a0.1)) (F146 (F147 a0.2.1 a0.1) (F147 a0.2.2 a0.1))))))))))

theorem C119 (a0 : (Int × Int × Int) × (Int × Int × Int) × Int × Int × Int) (a1 : Int) (hp : F117 a0 = 0) (ha : 0 ≤ a1 ∧ a1 ≤ 3) : Con Tryz.prog 119 [(.a (k9 a0)), (iv a1)] [] (iv (F119 a0 a1)) [] := by
  refine con_s Tryz.func119 (by kernel_rfl) fun cx hcx => ?_
  let t0 : List (St Tryz.prog) := [.c [] (C147 a0.2.1 a0.1), .c [] (C147 a0.2.2 a0.1), .c [] (C146 (F147 a0.2.1 a0.1) (F147 a0.2.2 a0.1)), .c [] (C149 (F146 (F147 a0.2.1 a0.1) (F147 a0.2.2 a0.1)) (F146 (F147 a0.2.1 a0.1) (F147 a0.2.2 a0.1))), .c [] (C148 (F149 (F146 (F147 a0.2.1 a0.1) (F147 a0.2.2 a0.1)) (F146 (F147 a0.2.1 a0.1) (F147 a0.2.2 a0.1)))), .p (show 0 ≤ ((W (2 * a1)) : Int) from by first | (rw [W_eq] <;> omega) | exact rim_ne hp), .p (show ((W (128 * (F148 (F149 (F146 (F147 a0.2.1 a0.1) (F147 a0.2.2 a0.1)) (F146 (F147 a0.2.1 a0.1) (F147 a0.2.2 a0.1)))))) : Int) ≠ 0 from by first | (rw [W_eq] <;> omega) | exact rim_ne hp), .c [] (C148 (W (Int.tdiv (W (3537128906555392 * 2 ^ (min (Int.toNat (W (2 * a1))) 64))) (W (128 * (F148 (F149 (F146 (F147 a0.2.1 a0.1) (F147 a0.2.2 a0.1)) (F146 (F147 a0.2.1 a0.1) (F147 a0.2.2 a0.1)))))))))]
  cases h0 : (decide (((W ((W ((F148 (W (Int.tdiv (W (3537128906555392 * 2 ^ (min (Int.toNat (W (2 * a1))) 64))) (W (128 * (F148 (F149 (F146 (F147 a0.2.1 a0.1) (F147 a0.2.2 a0.1)) (F146 (F147 a0.2.1 a0.1) (F147 a0.2.2 a0.1))))))))) * (F148 (W (Int.tdiv (W (3537128906555392 * 2 ^ (min (Int.toNat (W (2 * a1))) 64))) (W (128 * (F148 (F149 (F146 (F147 a0.2.1 a0.1) (F147 a0.2.2 a0.1)) (F146 (F147 a0.2.1 a0.1) (F147 a0.2.2 a0.1))))))))))) * (W (128 * (F148 (F149 (F146 (F147 a0.2.1 a0.1) (F147 a0.2.2 a0.1)) (F146 (F147 a0.2.1 a0.1) (F147 a0.2.2 a0.1)))))))) : Int) < (W (3537128906555392 * 2 ^ (min (Int.toNat (W (2 * a1))) 64))))) with
  | true =>
   have q0 := of_decide_eq_true h0
   have e := Eq.refl (F119 a0 a1); conv at e => rhs; simp only [F119, h0, cond_true, cond_false]
   rw [e]
   exact rt (t0 ++ [.d h0]) [] [] hcx (by kernel_rfl)
  | false =>
   have q0 := of_decide_eq_false h0
   have e := Eq.refl (F119 a0 a1); conv at e => rhs; simp only [F119, h0, cond_true, cond_false]
   rw [e]
   exact rt (t0 ++ [.d h0]) [] [] hcx (by kernel_rfl)

def F120 (a0 : (Int × Int × Int) × (Int × Int × Int) × Int × Int × Int) : (Int × Int × Int) × (Int × Int × Int) × Int × Int × Int :=
  a0

theorem C120 (a0 : (Int × Int × Int) × (Int × Int × Int) × Int × Int × Int) : Con Tryz.prog 120 [(.a (k9 a0))] [] (.a (k9 (F120 a0))) [] := by
  refine con_s Tryz.func120 (by kernel_rfl) fun cx hcx => ?_
  have e := Eq.refl (F120 a0); conv at e => rhs; simp only [F120]
  rw [e]
  exact rt [] [] [] hcx (by kernel_rfl)

def F124 (a0 : Int) (a1 : Int) (a2 : Int) : Int × Int :=
  (F153 (a0, a1) a2).1

theorem C124 (a0 : Int) (a1 : Int) (a2 : Int) : Con Tryz.prog 124 [(iv a0), (iv a1), (iv a2)] [] (.a (k2 (F124 a0 a1 a2))) [] := by
  refine con_s Tryz.func124 (by kernel_rfl) fun cx hcx => ?_
  have e := Eq.refl (F124 a0 a1 a2); conv at e => rhs; simp only [F124]
  rw [e]
  exact rt [.c [] (C153 (a0, a1) a2)] [] [] hcx (by kernel_rfl)

noncomputable def RA88 : Code := match (codeAtD [1, 1, 1, 1, 0, 1, 0] [] (Tryz.f88.body.getD .skip)).1 with
  | .rangeFunc _ _ a b => a
  | _ => .skip

noncomputable def RB88 : Code := match (codeAtD [1, 1, 1, 1, 0, 1, 0] [] (Tryz.f88.body.getD .skip)).1 with
  | .rangeFunc _ _ a b => b
  | _ => .skip

noncomputable def RK88 : List K := (codeAtD [1, 1, 1, 1, 0, 1, 0] [] (Tryz.f88.body.getD .skip)).2

def st88 (a0 : (Int × Int × Int) × (Int × Int × Int) × Int × Int × Int) (a1 : (Int × Int × Int) × (Int × Int × Int) × Int × Int × Int) (a2 : Int) : Int × Int → LS
  | (v1, v2) => ⟨[.u, .u, (iv a2), .u, .u, .u, (.p 0 0), (.p 1 0), (.p 2 0), (.p 3 0), (.p 4 0), (.p 5 0), .u, .u, .u, .u, .u, .u, .u, .u, .u, .u, .u, .u, .u, .u, .u, .u, .u, (.f 136 [(.p 6 0), (.p 7 0)]), .u, .u, .u, .u, .u, .u, .u, .u, .u, .u, .u, .u, .u, .u, .u, .u, .u, .u, .u, .u, .u, .u, .u, .u, .u, .u, .u, .u, .u, .u, .u, .u, .u, .u, .u, .u, .u, .u, .u, .u], [(.live true false [(iv 0), (iv 0)]), (.live true false [(iv (W (1 * 2 ^ (min (Int.toNat a2) 64))))]), (.live true false [(iv (F119 a0 a2))]), (.live true false (k9 (F120 a1))), (.live true false [(iv v1)]), (.live true false [(iv v2)]), (.live true false (k9 a0)), (.live true false [(iv a2)])]⟩

def sA88 (a0 : (Int × Int × Int) × (Int × Int × Int) × Int × Int × Int) (a1 : (Int × Int × Int) × (Int × Int × Int) × Int × Int × Int) (a2 : Int) : Int × Int → (Int × Int × Int) × (Int × Int × Int) × Int × Int × Int → LS
  | (v1, v2), x => ⟨[.u, .u, .u, .u, .u, .u, .u, (.p 1 0), (.p 2 0), (.p 3 0), (.p 4 0), (.p 5 0), (.p 8 0), .u, .u, .u, .u, .u, .u, .u, .u, .u, .u, .u, .u, .u, .u, .u, .u, .u, .u, .u, .u, .u, .u, .u, .u, .u, .u, .u, .u, .u, .u, .u, .u, .u, .u, .u, .u, .u, .u, .u, .u, .u, .u, .u, .u, .u, .u, .u, .u, .u, .u, .u, .u, .u, .u, .u, .u, .u], [(.live true false [(iv 0), (iv 0)]), (.live true false [(iv (W (1 * 2 ^ (min (Int.toNat a2) 64))))]), (.live true false [(iv (F119 a0 a2))]), (.live true false (k9 (F120 a1))), (.live true false [(iv v1)]), (.live true false [(iv v2)]), (.live true false (k9 a0)), (.live true false [(iv a2)]), (.live true false (k9 x))]⟩

def S88_r (a0 : (Int × Int × Int) × (Int × Int × Int) × Int × Int × Int) (a1 : (Int × Int × Int) × (Int × Int × Int) × Int × Int × Int) (a2 : Int) : Int × Int → (Int × Int × Int) × (Int × Int × Int) × Int × Int × Int → Int × Int
  | (v1, v2), x =>
   (bif (decide (((F123_3_3 (F120 x) (F120 a1)) : Int) > 0)) then
    ((W (v1 + (F121 (F122_L_L ([(F120 x).1, (F120 x).2.1, (F120 x).2.2] : List (Int × Int × Int)) ([(F120 a1).1, (F120 a1).2.1, (F120 a1).2.2] : List (Int × Int × Int))) (W (1 * 2 ^ (min (Int.toNat a2) 64)))).1.1)), (W (v2 + (if ((F121 (F123_3_3 (F120 x) (F120 a1)) (W (1 * 2 ^ (min (Int.toNat a2) 64)))).1.2 : Int) < (F119 a0 a2) then (F121 (F123_3_3 (F120 x) (F120 a1)) (W (1 * 2 ^ (min (Int.toNat a2) 64)))).1.2 else (F119 a0 a2)))))
   else
    ((W (v1 + (F121 (F122_L_L ([(F120 x).1, (F120 x).2.1, (F120 x).2.2] : List (Int × Int × Int)) ([(F120 a1).1, (F120 a1).2.1, (F120 a1).2.2] : List (Int × Int × Int))) (W (1 * 2 ^ (min (Int.toNat a2) 64)))).1.1)), (W (v2 + (F119 a0 a2)))))

def G88 (a0 : (Int × Int × Int) × (Int × Int × Int) × Int × Int × Int) (a1 : (Int × Int × Int) × (Int × Int × Int) × Int × Int × Int) (a2 : Int) : Int × Int → Int × Int
  | (v1, v2) =>
   (F124 v1 v2 (W (1 * 2 ^ (min (Int.toNat (W (2 * a2))) 64))))

def F88 (a0 : (Int × Int × Int) × (Int × Int × Int) × Int × Int × Int) (a1 : (Int × Int × Int) × (Int × Int × Int) × Int × Int × Int) (a2 : Int) : Int × Int :=
  (G88 a0 a1 a2 ((cutL (Int.toNat a2) a0).foldl (S88_r a0 a1 a2) (0, 0)))

theorem C88 (a0 : (Int × Int × Int) × (Int × Int × Int) × Int × Int × Int) (a1 : (Int × Int × Int) × (Int × Int × Int) × Int × Int × Int) (a2 : Int) (hp : F117 a0 = 0) (ha : 0 ≤ a2 ∧ a2 ≤ 3) : Con Tryz.prog 88 [(.a (k9 a0)), (.a (k9 a1)), (iv a2)] [] (.a (k2 (F88 a0 a1 a2))) [] := by
  have e : (F88 a0 a1 a2) = (G88 a0 a1 a2 ((cutL (Int.toNat a2) a0).foldl (S88_r a0 a1 a2) (0, 0))) := by simp only [F88]
  rw [e]
  refine con_of_mark (n := 9) Tryz.func88 rfl (ent Tryz.func88 (by kernel_rfl) rfl) (by show 3 ≤ Tryz.f88.ntmps; decide) (by kernel_rfl) trivial (fun cx hcx => ?_)
  refine at_of (T := T0) hT hm (f := 5000) (orc := [.call [] (iv (F119 a0 a2)) [], .call [] (.a (k9 (F120 a1))) [], .call [] (.f 136 [(.p 0 0), (.p 1 0)]) [(.live true false (k9 a0)), (.live true false [(iv a2)])]]) [] [2, 6, 7, 8, 9, 10, 11, 29] [2, 3, 4, 5, 6, 7, 8, 9] hcx (x := .rangeFunc (.tmp 29) #[30] RA88 RB88) (k' := RK88) (s' := st88 a0 a1 a2 (0, 0))
    (obs := [.pr (0 ≤ (a2 : Int)), .call 119 [(.a (k9 a0)), (iv a2)] [] (iv (F119 a0 a2)) [], .call 120 [(.a (k9 a1))] [] (.a (k9 (F120 a1))) [], .call 98 [(.a (k9 a0)), (iv a2)] [] (.f 136 [(.p 0 0), (.p 1 0)]) [(.live true false (k9 a0)), (.live true false [(iv a2)])]]) (by kernel_rfl) ⟨(show 0 ≤ (a2 : Int) from by first | omega | (rw [W_eq] <;> omega) | exact u64_nn _), (C119 a0 a2  hp ha), (C120 a1), (C98 a0 a2), trivial⟩ ?_
  refine range_of (xs := cutL (Int.toNat a2) a0) (enc := encP) (V := Int × Int) (R' := Empty) hcx rfl [6, 7] [(.p 0 0), (.p 1 0)] [(.live false false (k9 a0)), (.live false false [(iv a2)])] rfl rfl (iter_cutI a0 a2 (by first | omega | exact pair_le h0)) (fun x => SV.a (cP x)) encP_rel cP_has 8 (Nat.le_of_ble_eq_true rfl) (of_decide_eq_true (by kernel_rfl))
    (st88 a0 a1 a2) (0, 0) rfl (fun ⟨v1, v2⟩ => (by kernel_rfl)) (by kernel_rfl) (fun v v' => (roSub_own (roSub_own (roSub_own (roSub_own (roSub_own (roSub_own (roSub_own (roSub_own roSub_nil))))))))) (fun ⟨v1, v2⟩ => (by kernel_rfl)) (fun ⟨v1, v2⟩ => (by kernel_rfl)) (fun ⟨v1, v2⟩ => (Nat.le_of_ble_eq_true (by kernel_rfl)))
    (fun v x => .inl (S88_r a0 a1 a2 v x)) (fun r => r.elim) (fun v r => r.elim) (fun r => r.elim)
    (fun _ _ => True) trivial (sA88 a0 a1 a2) (fun ⟨v1, v2⟩ x => (by kernel_rfl)) (fun ⟨v1, v2⟩ x => (by kernel_rfl)) (fun ⟨v1, v2⟩ x => (Nat.le_of_ble_eq_true (by kernel_rfl)))
    (fun cx' l i ⟨v1, v2⟩ x QA hcx' hx hinv hg => norm_of (T := T0) hT hm (f := 5000) (orc := []) [] [7, 8, 9, 10, 11, 12] [8] hcx' (obs := []) (by kernel_rfl) trivial hg)
    (fun cx' l i ⟨v1, v2⟩ x QB hcx' hx hinv hb1 hb2 => ?_) (fun cx' d ⟨v1, v2⟩ hh hv hinv => ?_) (fun cx' d r hh hv => ?_)
  · show Aw.Good _ _ _ _ _ _ _ (sA88 a0 a1 a2 (v1, v2) x)
    cases h0 : (decide (((F123_3_3 (F120 x) (F120 a1)) : Int) > 0)) with
    | true =>
      have q0 := of_decide_eq_true h0
      have e : (Sum.inl (S88_r a0 a1 a2 (v1, v2) x) : (Int × Int) ⊕ Empty) = .inl ((W (v1 + (F121 (F122_L_L ([(F120 x).1, (F120 x).2.1, (F120 x).2.2] : List (Int × Int × Int)) ([(F120 a1).1, (F120 a1).2.1, (F120 a1).2.2] : List (Int × Int × Int))) (W (1 * 2 ^ (min (Int.toNat a2) 64)))).1.1)), (W (v2 + (if ((F121 (F123_3_3 (F120 x) (F120 a1)) (W (1 * 2 ^ (min (Int.toNat a2) 64)))).1.2 : Int) < (F119 a0 a2) then (F121 (F123_3_3 (F120 x) (F120 a1)) (W (1 * 2 ^ (min (Int.toNat a2) 64)))).1.2 else (F119 a0 a2))))) := by simp only [S88_r, h0, cond_true, cond_false]
      refine norm_of (T := T0) hT hm (f := 5000) (orc := [.call [] (.a (k9 (F120 x))) [], .call [9, 3] (iv (F122_L_L ([(F120 x).1, (F120 x).2.1, (F120 x).2.2] : List (Int × Int × Int)) ([(F120 a1).1, (F120 a1).2.1, (F120 a1).2.2] : List (Int × Int × Int)))) [], .call [] (.t [(.a (k2 (F121 (F122_L_L ([(F120 x).1, (F120 x).2.1, (F120 x).2.2] : List (Int × Int × Int)) ([(F120 a1).1, (F120 a1).2.1, (F120 a1).2.2] : List (Int × Int × Int))) (W (1 * 2 ^ (min (Int.toNat a2) 64)))).1)), (iv (F121 (F122_L_L ([(F120 x).1, (F120 x).2.1, (F120 x).2.2] : List (Int × Int × Int)) ([(F120 a1).1, (F120 a1).2.1, (F120 a1).2.2] : List (Int × Int × Int))) (W (1 * 2 ^ (min (Int.toNat a2) 64)))).2)]) [], .call [9, 3] (iv (F123_3_3 (F120 x) (F120 a1))) [], .d true, .call [] (.t [(.a (k2 (F121 (F123_3_3 (F120 x) (F120 a1)) (W (1 * 2 ^ (min (Int.toNat a2) 64)))).1)), (iv (F121 (F123_3_3 (F120 x) (F120 a1)) (W (1 * 2 ^ (min (Int.toNat a2) 64)))).2)]) []]) [] [] [] hcx' (s' := ⟨List.replicate 70 .u, [(.live true false [(iv 0), (iv 0)]), (.live true false [(iv (W (1 * 2 ^ (min (Int.toNat a2) 64))))]), (.live true false [(iv (F119 a0 a2))]), (.live true false (k9 (F120 a1))), (.live true false [(iv (W (v1 + (F121 (F122_L_L ([(F120 x).1, (F120 x).2.1, (F120 x).2.2] : List (Int × Int × Int)) ([(F120 a1).1, (F120 a1).2.1, (F120 a1).2.2] : List (Int × Int × Int))) (W (1 * 2 ^ (min (Int.toNat a2) 64)))).1.1)))]), (.live true false [(iv (W (v2 + (if ((F121 (F123_3_3 (F120 x) (F120 a1)) (W (1 * 2 ^ (min (Int.toNat a2) 64)))).1.2 : Int) < (F119 a0 a2) then (F121 (F123_3_3 (F120 x) (F120 a1)) (W (1 * 2 ^ (min (Int.toNat a2) 64)))).1.2 else (F119 a0 a2)))))]), (.live true false (k9 a0)), (.live true false [(iv a2)])]⟩)
        (obs := [.call 120 [(.a (k9 x))] [] (.a (k9 (F120 x))) [], .call 122 [(.s 0 0 3 3), (.s 1 0 3 3)] [(.live false false (k9 (F120 x))), (.live false false (k9 (F120 a1)))] (iv (F122_L_L ([(F120 x).1, (F120 x).2.1, (F120 x).2.2] : List (Int × Int × Int)) ([(F120 a1).1, (F120 a1).2.1, (F120 a1).2.2] : List (Int × Int × Int)))) [], .call 121 [(iv (F122_L_L ([(F120 x).1, (F120 x).2.1, (F120 x).2.2] : List (Int × Int × Int)) ([(F120 a1).1, (F120 a1).2.1, (F120 a1).2.2] : List (Int × Int × Int)))), (iv (W (1 * 2 ^ (min (Int.toNat a2) 64))))] [] (.t [(.a (k2 (F121 (F122_L_L ([(F120 x).1, (F120 x).2.1, (F120 x).2.2] : List (Int × Int × Int)) ([(F120 a1).1, (F120 a1).2.1, (F120 a1).2.2] : List (Int × Int × Int))) (W (1 * 2 ^ (min (Int.toNat a2) 64)))).1)), (iv (F121 (F122_L_L ([(F120 x).1, (F120 x).2.1, (F120 x).2.2] : List (Int × Int × Int)) ([(F120 a1).1, (F120 a1).2.1, (F120 a1).2.2] : List (Int × Int × Int))) (W (1 * 2 ^ (min (Int.toNat a2) 64)))).2)]) [], .call 123 [(.s 0 0 3 3), (.s 1 0 3 3)] [(.live false false (k9 (F120 x))), (.live false false (k9 (F120 a1)))] (iv (F123_3_3 (F120 x) (F120 a1))) [], .eq (decide (((F123_3_3 (F120 x) (F120 a1)) : Int) > 0)) true, .call 121 [(iv (F123_3_3 (F120 x) (F120 a1))), (iv (W (1 * 2 ^ (min (Int.toNat a2) 64))))] [] (.t [(.a (k2 (F121 (F123_3_3 (F120 x) (F120 a1)) (W (1 * 2 ^ (min (Int.toNat a2) 64)))).1)), (iv (F121 (F123_3_3 (F120 x) (F120 a1)) (W (1 * 2 ^ (min (Int.toNat a2) 64)))).2)]) []]) (by kernel_rfl) ⟨(C120 x), (Con.flags (bs' := [(.live false false (k9 (F120 x))), (.live false false (k9 (F120 a1)))]) (C122_L_L ([(F120 x).1, (F120 x).2.1, (F120 x).2.2] : List (Int × Int × Int)) ([(F120 a1).1, (F120 a1).2.1, (F120 a1).2.2] : List (Int × Int × Int)) (by (try simp only [List.length_append, List.length_cons, List.length_nil, Int.toNat_zero]); omega) (by (try simp only [List.length_append, List.length_cons, List.length_nil, Int.toNat_zero]); omega)) rfl ⟨flat_plain (fun _ => rfl), flat_plain (fun _ => rfl), trivial⟩), (C121 (F122_L_L ([(F120 x).1, (F120 x).2.1, (F120 x).2.2] : List (Int × Int × Int)) ([(F120 a1).1, (F120 a1).2.1, (F120 a1).2.2] : List (Int × Int × Int))) (W (1 * 2 ^ (min (Int.toNat a2) 64)))), (C123_3_3 (F120 x) (F120 a1)), h0, (C121 (F123_3_3 (F120 x) (F120 a1)) (W (1 * 2 ^ (min (Int.toNat a2) 64)))), trivial⟩ ?_
      exact hb1 _ e trivial
    | false =>
      have q0 := of_decide_eq_false h0
      have e : (Sum.inl (S88_r a0 a1 a2 (v1, v2) x) : (Int × Int) ⊕ Empty) = .inl ((W (v1 + (F121 (F122_L_L ([(F120 x).1, (F120 x).2.1, (F120 x).2.2] : List (Int × Int × Int)) ([(F120 a1).1, (F120 a1).2.1, (F120 a1).2.2] : List (Int × Int × Int))) (W (1 * 2 ^ (min (Int.toNat a2) 64)))).1.1)), (W (v2 + (F119 a0 a2)))) := by simp only [S88_r, h0, cond_true, cond_false]
      refine norm_of (T := T0) hT hm (f := 5000) (orc := [.call [] (.a (k9 (F120 x))) [], .call [9, 3] (iv (F122_L_L ([(F120 x).1, (F120 x).2.1, (F120 x).2.2] : List (Int × Int × Int)) ([(F120 a1).1, (F120 a1).2.1, (F120 a1).2.2] : List (Int × Int × Int)))) [], .call [] (.t [(.a (k2 (F121 (F122_L_L ([(F120 x).1, (F120 x).2.1, (F120 x).2.2] : List (Int × Int × Int)) ([(F120 a1).1, (F120 a1).2.1, (F120 a1).2.2] : List (Int × Int × Int))) (W (1 * 2 ^ (min (Int.toNat a2) 64)))).1)), (iv (F121 (F122_L_L ([(F120 x).1, (F120 x).2.1, (F120 x).2.2] : List (Int × Int × Int)) ([(F120 a1).1, (F120 a1).2.1, (F120 a1).2.2] : List (Int × Int × Int))) (W (1 * 2 ^ (min (Int.toNat a2) 64)))).2)]) [], .call [9, 3] (iv (F123_3_3 (F120 x) (F120 a1))) [], .d false]) [] [] [] hcx' (s' := ⟨List.replicate 70 .u, [(.live true false [(iv 0), (iv 0)]), (.live true false [(iv (W (1 * 2 ^ (min (Int.toNat a2) 64))))]), (.live true false [(iv (F119 a0 a2))]), (.live true false (k9 (F120 a1))), (.live true false [(iv (W (v1 + (F121 (F122_L_L ([(F120 x).1, (F120 x).2.1, (F120 x).2.2] : List (Int × Int × Int)) ([(F120 a1).1, (F120 a1).2.1, (F120 a1).2.2] : List (Int × Int × Int))) (W (1 * 2 ^ (min (Int.toNat a2) 64)))).1.1)))]), (.live true false [(iv (W (v2 + (F119 a0 a2))))]), (.live true false (k9 a0)), (.live true false [(iv a2)])]⟩)
        (obs := [.call 120 [(.a (k9 x))] [] (.a (k9 (F120 x))) [], .call 122 [(.s 0 0 3 3), (.s 1 0 3 3)] [(.live false false (k9 (F120 x))), (.live false false (k9 (F120 a1)))] (iv (F122_L_L ([(F120 x).1, (F120 x).2.1, (F120 x).2.2] : List (Int × Int × Int)) ([(F120 a1).1, (F120 a1).2.1, (F120 a1).2.2] : List (Int × Int × Int)))) [], .call 121 [(iv (F122_L_L ([(F120 x).1, (F120 x).2.1, (F120 x).2.2] : List (Int × Int × Int)) ([(F120 a1).1, (F120 a1).2.1, (F120 a1).2.2] : List (Int × Int × Int)))), (iv (W (1 * 2 ^ (min (Int.toNat a2) 64))))] [] (.t [(.a (k2 (F121 (F122_L_L ([(F120 x).1, (F120 x).2.1, (F120 x).2.2] : List (Int × Int × Int)) ([(F120 a1).1, (F120 a1).2.1, (F120 a1).2.2] : List (Int × Int × Int))) (W (1 * 2 ^ (min (Int.toNat a2) 64)))).1)), (iv (F121 (F122_L_L ([(F120 x).1, (F120 x).2.1, (F120 x).2.2] : List (Int × Int × Int)) ([(F120 a1).1, (F120 a1).2.1, (F120 a1).2.2] : List (Int × Int × Int))) (W (1 * 2 ^ (min (Int.toNat a2) 64)))).2)]) [], .call 123 [(.s 0 0 3 3), (.s 1 0 3 3)] [(.live false false (k9 (F120 x))), (.live false false (k9 (F120 a1)))] (iv (F123_3_3 (F120 x) (F120 a1))) [], .eq (decide (((F123_3_3 (F120 x) (F120 a1)) : Int) > 0)) false]) (by kernel_rfl) ⟨(C120 x), (Con.flags (bs' := [(.live false false (k9 (F120 x))), (.live false false (k9 (F120 a1)))]) (C122_L_L ([(F120 x).1, (F120 x).2.1, (F120 x).2.2] : List (Int × Int × Int)) ([(F120 a1).1, (F120 a1).2.1, (F120 a1).2.2] : List (Int × Int × Int)) (by (try simp only [List.length_append, List.length_cons, List.length_nil, Int.toNat_zero]); omega) (by (try simp only [List.length_append, List.length_cons, List.length_nil, Int.toNat_zero]); omega)) rfl ⟨flat_plain (fun _ => rfl), flat_plain (fun _ => rfl), trivial⟩), (C121 (F122_L_L ([(F120 x).1, (F120 x).2.1, (F120 x).2.2] : List (Int × Int × Int)) ([(F120 a1).1, (F120 a1).2.1, (F120 a1).2.2] : List (Int × Int × Int))) (W (1 * 2 ^ (min (Int.toNat a2) 64)))), (C123_3_3 (F120 x) (F120 a1)), h0, trivial⟩ ?_
      exact hb1 _ e trivial
  · rw [runL_foldl, Sum.inl.injEq] at hv; rw [hv]
    show Aw.Good _ _ _ _ _ _ _ (st88 a0 a1 a2 (v1, v2))
    have e : G88 a0 a1 a2 (v1, v2) = (F124 v1 v2 (W (1 * 2 ^ (min (Int.toNat (W (2 * a2))) 64)))) := by simp only [G88]
    rw [e]
    exact retH_of (T := T0) hT hm (f := 5000) (orc := [.call [] (.a (k2 (F124 v1 v2 (W (1 * 2 ^ (min (Int.toNat (W (2 * a2))) 64)))))) []]) [] [] [] hh hcx
      (obs := [.pr (0 ≤ ((W (2 * a2)) : Int)), .call 124 [(iv v1), (iv v2), (iv (W (1 * 2 ^ (min (Int.toNat (W (2 * a2))) 64))))] [] (.a (k2 (F124 v1 v2 (W (1 * 2 ^ (min (Int.toNat (W (2 * a2))) 64)))))) []]) (by kernel_rfl) ⟨(show 0 ≤ ((W (2 * a2)) : Int) from by first | omega | (rw [W_eq] <;> omega) | exact u64_nn _), (C124 v1 v2 (W (1 * 2 ^ (min (Int.toNat (W (2 * a2))) 64)))), trivial⟩
  · exact r.elim

end Go.Proofs.YthpgabaeefifbaaGreat

namespace Go.Proofs.YthpgabaeefifbaaGreat
open Go.Proofs Go.Aw Go.RowKit
set_option maxRecDepth 100000
set_option linter.unusedVariables false
set_option linter.unusedSimpArgs false

noncomputable def B129_0 : Code := (loopAtD [1, 1, 1, 1, 1, 1, 0] [] (bodyOf Tryz.f129) []).1
noncomputable def K129_0 : List K := (loopAtD [1, 1, 1, 1, 1, 1, 0] [] (bodyOf Tryz.f129) []).2

def st129_0 (a0 : (Int × Int × Int) × (Int × Int × Int) × Int × Int × Int) (a1 : Int) (v2 : Int) (v3 : Int) : LS := ⟨slN 45 [(6, (iv (F157 (F116 (F77 a0) (F77 a0))))), (8, (iv (W ((W ((W (1099511627776 * (W (1 * 2 ^ (min (Int.toNat (IntKind.wrap .u64 a1)) 64))))) * (W (1 * 2 ^ (min (Int.toNat (IntKind.wrap .u64 a1)) 64))))) * 3217)))), (9, (iv v2)), (10, (iv v3))], []⟩

def S129_0 (a0 : (Int × Int × Int) × (Int × Int × Int) × Int × Int × Int) (a1 : Int) : Int × Int → (Int × Int) ⊕ (Int)
  | (v2, v3) =>
   (bif (decide ((v2 : Int) < v3)) then
    (bif (decide (((W ((W (Int.tdiv (W (v2 + v3)) 2)) * (W (Int.tdiv (W (v2 + v3)) 2)))) : Int) ≥ (F134 (W ((W ((W (1099511627776 * (W (1 * 2 ^ (min (Int.toNat (IntKind.wrap .u64 a1)) 64))))) * (W (1 * 2 ^ (min (Int.toNat (IntKind.wrap .u64 a1)) 64))))) * 3217)) (W (128 * (F157 (F116 (F77 a0) (F77 a0)))))))) then
     (.inl (v2, (W (Int.tdiv (W (v2 + v3)) 2))))
    else
     (.inl ((W ((W (Int.tdiv (W (v2 + v3)) 2)) + 1)), v3)))
   else
    (.inr v2))

set_option maxHeartbeats 4000000 in
theorem L129_0 (a0 : (Int × Int × Int) × (Int × Int × Int) × Int × Int × Int) (a1 : Int) (ha : 0 ≤ a1 ∧ a1 ≤ 3) (hr : W (128 * F157 (F116 (F77 a0) (F77 a0))) ≠ 0) {cx : Cx} (hcx : cx.base = 0) : ∀ (n : Nat) (v2 : Int) (v3 : Int), (0 ≤ v2) ∧ (0 ≤ v2) ∧ (v2 ≤ v3) ∧ (v3 ≤ 268435456) → Int.toNat (v3 - v2) < n → Aw.Good Tryz.prog none 9 (bodyPost Tryz.prog Tryz.f129 (RR cx (iv (loopF (S129_0 a0 a1) n (v2, v3))) [] [])) cx [] (.l B129_0 n :: K129_0) (st129_0 a0 a1 v2 v3) := by
  intro n
  induction n with
  | zero => intro v2 v3 hi hn; exact absurd hn (Nat.not_lt_zero _)
  | succ n ih =>
    intro v2 v3 hi hn
    refine good_round ?_
    have hw := mid0_eq (a := v2) (b := v3) (by omega)
    have hw2 := mid3_eq (a := v2) (b := v3) (by omega)
    cases h0 : (decide ((v2 : Int) < v3)) with
    | true =>
     have q0 := of_decide_eq_true h0
     let t1 : List (St Tryz.prog) := [.d h0, .p (show (2 : Int) ≠ 0 from by decide), .c [] (C134 (W ((W ((W (1099511627776 * (W (1 * 2 ^ (min (Int.toNat (IntKind.wrap .u64 a1)) 64))))) * (W (1 * 2 ^ (min (Int.toNat (IntKind.wrap .u64 a1)) 64))))) * 3217)) (W (128 * (F157 (F116 (F77 a0) (F77 a0)))))  (by (try simp only [List.length_append, List.length_cons, List.length_nil, Int.toNat_zero]); omega))]
     cases h1 : (decide (((W ((W (Int.tdiv (W (v2 + v3)) 2)) * (W (Int.tdiv (W (v2 + v3)) 2)))) : Int) ≥ (F134 (W ((W ((W (1099511627776 * (W (1 * 2 ^ (min (Int.toNat (IntKind.wrap .u64 a1)) 64))))) * (W (1 * 2 ^ (min (Int.toNat (IntKind.wrap .u64 a1)) 64))))) * 3217)) (W (128 * (F157 (F116 (F77 a0) (F77 a0)))))))) with
     | true =>
      have q1 := of_decide_eq_true h1
      have e := Eq.refl (S129_0 a0 a1 (v2, v3)); conv at e => rhs; simp only [S129_0, h0, h1, cond_true, cond_false]
      rw [loopF_inl e]
      refine ba (t1 ++ [.d h1]) [] [6, 8, 9, 10] [] hcx (m := n) B129_0 (K129_0) (st129_0 a0 a1 v2 (W (Int.tdiv (W (v2 + v3)) 2))) (by kernel_rfl) ?_
      exact ih v2 (W (Int.tdiv (W (v2 + v3)) 2)) (by refine ⟨?_, ?_, ?_, ?_⟩ <;> (try simp only [List.length_append, List.length_cons, List.length_nil, Int.toNat_zero]) <;> first | omega | assumption | simp) (by (try simp only [List.length_append, List.length_cons, List.length_nil, Int.toNat_zero]); omega)
     | false =>
      have q1 := of_decide_eq_false h1
      have e := Eq.refl (S129_0 a0 a1 (v2, v3)); conv at e => rhs; simp only [S129_0, h0, h1, cond_true, cond_false]
      rw [loopF_inl e]
      refine ba (t1 ++ [.d h1]) [] [6, 8, 9, 10] [] hcx (m := n) B129_0 (K129_0) (st129_0 a0 a1 (W ((W (Int.tdiv (W (v2 + v3)) 2)) + 1)) v3) (by kernel_rfl) ?_
      exact ih (W ((W (Int.tdiv (W (v2 + v3)) 2)) + 1)) v3 (by refine ⟨?_, ?_, ?_, ?_⟩ <;> (try simp only [List.length_append, List.length_cons, List.length_nil, Int.toNat_zero]) <;> first | omega | assumption | simp) (by (try simp only [List.length_append, List.length_cons, List.length_nil, Int.toNat_zero]); omega)
    | false =>
     have q0 := of_decide_eq_false h0
     have e := Eq.refl (S129_0 a0 a1 (v2, v3)); conv at e => rhs; simp only [S129_0, h0, cond_true, cond_false]
     rw [loopF_s, e]
     exact rt [.d h0] [] [] hcx (by kernel_rfl)

def F129 (a0 : (Int × Int × Int) × (Int × Int × Int) × Int × Int × Int) (a1 : Int) : Int :=
  (loopF (S129_0 a0 a1) (Int.toNat (268435456 - 0) + 1) (0, 268435456))

theorem C129 (a0 : (Int × Int × Int) × (Int × Int × Int) × Int × Int × Int) (a1 : Int) (ha : 0 ≤ a1 ∧ a1 ≤ 3) (hr : W (128 * F157 (F116 (F77 a0) (F77 a0))) ≠ 0) : Con Tryz.prog 129 [(.a (k9 a0)), (iv a1)] [] (iv (F129 a0 a1)) [] := by
  refine con_s Tryz.func129 (by kernel_rfl) fun cx hcx => ?_
  have e := Eq.refl (F129 a0 a1); conv at e => rhs; simp only [F129]
  rw [e]
  refine en [.c [] (C77 a0), .c [] (C116 (F77 a0) (F77 a0)), .c [] (C157 (F116 (F77 a0) (F77 a0))), .p (show 0 ≤ ((IntKind.wrap .u64 a1) : Int) from by first | omega | (rw [W_eq] <;> omega) | exact u64_nn _)] [] [6, 8, 9, 10] [] hcx B129_0 (K129_0) (st129_0 a0 a1 0 268435456) (Int.toNat (268435456 - 0) + 1) (by kernel_rfl) ?_
  exact L129_0 a0 a1 ha hr hcx (Int.toNat (268435456 - 0) + 1) 0 268435456 (by refine ⟨?_, ?_, ?_, ?_⟩ <;> (try simp only [List.length_append, List.length_cons, List.length_nil, Int.toNat_zero]) <;> first | omega | assumption | simp) (by (try simp only [List.length_append, List.length_cons, List.length_nil, Int.toNat_zero]); omega)

noncomputable def B93_0 : Code := (loopAtD [1, 1, 1, 1, 1, 0, 1] [] (bodyOf Tryz.f93) []).1
noncomputable def K93_0 : List K := (loopAtD [1, 1, 1, 1, 1, 0, 1] [] (bodyOf Tryz.f93) []).2

def st93_0 (a0 : (Int × Int × Int) × (Int × Int × Int) × Int × Int × Int) (a1 : Int) (a2 : (Int × Int × Int) × (Int × Int × Int) × Int × Int × Int) (v1 : Int) (v2 : Int) (v3 : Int) : LS := ⟨slN 88 [(6, (.p 0 0)), (7, (.s 1 0 (F100 a0 a1).length 9)), (8, (.s 2 0 3 3)), (9, (iv (W (1 * 2 ^ (min (Int.toNat (IntKind.wrap .u64 a1)) 64))))), (10, (iv (F129 a0 a1))), (11, (iv v1)), (12, (iv v2)), (13, (iv v3))], [(.live true false [(iv 0), (iv 0)]), (.live true true (flat c65 (F100 a0 a1))), (.live true false (k9 a2))]⟩

def S93_0 (a0 : (Int × Int × Int) × (Int × Int × Int) × Int × Int × Int) (a1 : Int) (a2 : (Int × Int × Int) × (Int × Int × Int) × Int × Int × Int) : Int × Int × Int → (Int × Int × Int) ⊕ (Int × Int)
  | (v1, v2, v3) =>
   (bif (decide ((v3 : Int) < (((F100 a0 a1).length : Nat) : Int))) then
    (bif (decide (((F132_3 ((F100 a0 a1).getD (Int.toNat v3) default) a2) : Int) > 0)) then
     (.inl ((W (v1 + (F130 (F131_L ((F100 a0 a1).getD (Int.toNat v3) default) ([a2.1, a2.2.1, a2.2.2] : List (Int × Int × Int))) (W (1 * 2 ^ (min (Int.toNat (IntKind.wrap .u64 a1)) 64)))).1.1)), (W (v2 + (if ((F130 (F132_3 ((F100 a0 a1).getD (Int.toNat v3) default) a2) (W (1 * 2 ^ (min (Int.toNat (IntKind.wrap .u64 a1)) 64)))).1.2 : Int) < (F129 a0 a1) then (F130 (F132_3 ((F100 a0 a1).getD (Int.toNat v3) default) a2) (W (1 * 2 ^ (min (Int.toNat (IntKind.wrap .u64 a1)) 64)))).1.2 else (F129 a0 a1)))), (v3 + 1)))
    else
     (.inl ((W (v1 + (F130 (F131_L ((F100 a0 a1).getD (Int.toNat v3) default) ([a2.1, a2.2.1, a2.2.2] : List (Int × Int × Int))) (W (1 * 2 ^ (min (Int.toNat (IntKind.wrap .u64 a1)) 64)))).1.1)), (W (v2 + (F129 a0 a1))), (v3 + 1))))
   else
    (.inr ((F133 v1 (((F100 a0 a1).length : Nat) : Int)), (F134 v2 (((F100 a0 a1).length : Nat) : Int)))))

set_option maxHeartbeats 4000000 in
theorem L93_0 (a0 : (Int × Int × Int) × (Int × Int × Int) × Int × Int × Int) (a1 : Int) (a2 : (Int × Int × Int) × (Int × Int × Int) × Int × Int × Int) (ha : 0 ≤ a1 ∧ a1 ≤ 3) (hr : W (128 * F157 (F116 (F77 a0) (F77 a0))) ≠ 0) {cx : Cx} (hcx : cx.base = 0) : ∀ (n : Nat) (v1 : Int) (v2 : Int) (v3 : Int), 0 ≤ v3 → Int.toNat ((((F100 a0 a1).length : Nat) : Int) - v3) < n → Aw.Good Tryz.prog none 9 (bodyPost Tryz.prog Tryz.f93 (RR cx (.a (k2 (loopF (S93_0 a0 a1 a2) n (v1, v2, v3)))) [] [])) cx [] (.l B93_0 n :: K93_0) (st93_0 a0 a1 a2 v1 v2 v3) := by
  intro n
  induction n with
  | zero => intro v1 v2 v3 hi hn; exact absurd hn (Nat.not_lt_zero _)
  | succ n ih =>
    intro v1 v2 v3 hi hn
    refine good_round ?_
    have hcl := cut_le (p := a0) ha
    cases h0 : (decide ((v3 : Int) < (((F100 a0 a1).length : Nat) : Int))) with
    | true =>
     have q0 := of_decide_eq_true h0
     let t1 : List (St Tryz.prog) := [.d h0, .i v3 ((F100 a0 a1).length), .L c65_len (F100 a0 a1) v3 0 9, .c [2] (Con.flags (bs' := [(.live false false (k9 a2))]) (C131_L ((F100 a0 a1).getD (Int.toNat v3) default) ([a2.1, a2.2.1, a2.2.2] : List (Int × Int × Int)) (by (try simp only [List.length_append, List.length_cons, List.length_nil, Int.toNat_zero]); omega)) rfl ⟨flat_plain (fun _ => rfl), trivial⟩), .c [] (C130 (F131_L ((F100 a0 a1).getD (Int.toNat v3) default) ([a2.1, a2.2.1, a2.2.2] : List (Int × Int × Int))) (W (1 * 2 ^ (min (Int.toNat (IntKind.wrap .u64 a1)) 64)))), .i v3 ((F100 a0 a1).length), .L c65_len (F100 a0 a1) v3 0 9, .c [2] (C132_3 ((F100 a0 a1).getD (Int.toNat v3) default) a2)]
     cases h1 : (decide (((F132_3 ((F100 a0 a1).getD (Int.toNat v3) default) a2) : Int) > 0)) with
     | true =>
      have q1 := of_decide_eq_true h1
      have e := Eq.refl (S93_0 a0 a1 a2 (v1, v2, v3)); conv at e => rhs; simp only [S93_0, h0, h1, cond_true, cond_false]
      rw [loopF_inl e]
      refine ba (t1 ++ [.d h1, .c [] (C130 (F132_3 ((F100 a0 a1).getD (Int.toNat v3) default) a2) (W (1 * 2 ^ (min (Int.toNat (IntKind.wrap .u64 a1)) 64))))]) [] [6, 7, 8, 9, 10, 11, 12, 13] [0, 1, 2] hcx (m := n) B93_0 (K93_0) (st93_0 a0 a1 a2 (W (v1 + (F130 (F131_L ((F100 a0 a1).getD (Int.toNat v3) default) ([a2.1, a2.2.1, a2.2.2] : List (Int × Int × Int))) (W (1 * 2 ^ (min (Int.toNat (IntKind.wrap .u64 a1)) 64)))).1.1)) (W (v2 + (if ((F130 (F132_3 ((F100 a0 a1).getD (Int.toNat v3) default) a2) (W (1 * 2 ^ (min (Int.toNat (IntKind.wrap .u64 a1)) 64)))).1.2 : Int) < (F129 a0 a1) then (F130 (F132_3 ((F100 a0 a1).getD (Int.toNat v3) default) a2) (W (1 * 2 ^ (min (Int.toNat (IntKind.wrap .u64 a1)) 64)))).1.2 else (F129 a0 a1)))) (W (v3 + 1))) (by kernel_rfl) ?_
      have z0 : (W (v3 + 1)) = (v3 + 1) := W_eq (by omega) (by omega)
      rw [z0]
      exact ih (W (v1 + (F130 (F131_L ((F100 a0 a1).getD (Int.toNat v3) default) ([a2.1, a2.2.1, a2.2.2] : List (Int × Int × Int))) (W (1 * 2 ^ (min (Int.toNat (IntKind.wrap .u64 a1)) 64)))).1.1)) (W (v2 + (if ((F130 (F132_3 ((F100 a0 a1).getD (Int.toNat v3) default) a2) (W (1 * 2 ^ (min (Int.toNat (IntKind.wrap .u64 a1)) 64)))).1.2 : Int) < (F129 a0 a1) then (F130 (F132_3 ((F100 a0 a1).getD (Int.toNat v3) default) a2) (W (1 * 2 ^ (min (Int.toNat (IntKind.wrap .u64 a1)) 64)))).1.2 else (F129 a0 a1)))) (v3 + 1) (by (try simp only [List.length_append, List.length_cons, List.length_nil, Int.toNat_zero]); omega) (by (try simp only [List.length_append, List.length_cons, List.length_nil, Int.toNat_zero]); omega)
     | false =>
      have q1 := of_decide_eq_false h1
      have e := Eq.refl (S93_0 a0 a1 a2 (v1, v2, v3)); conv at e => rhs; simp only [S93_0, h0, h1, cond_true, cond_false]
      rw [loopF_inl e]
      refine ba (t1 ++ [.d h1]) [] [6, 7, 8, 9, 10, 11, 12, 13] [0, 1, 2] hcx (m := n) B93_0 (K93_0) (st93_0 a0 a1 a2 (W (v1 + (F130 (F131_L ((F100 a0 a1).getD (Int.toNat v3) default) ([a2.1, a2.2.1, a2.2.2] : List (Int × Int × Int))) (W (1 * 2 ^ (min (Int.toNat (IntKind.wrap .u64 a1)) 64)))).1.1)) (W (v2 + (F129 a0 a1))) (W (v3 + 1))) (by kernel_rfl) ?_
      have z0 : (W (v3 + 1)) = (v3 + 1) := W_eq (by omega) (by omega)
      rw [z0]
      exact ih (W (v1 + (F130 (F131_L ((F100 a0 a1).getD (Int.toNat v3) default) ([a2.1, a2.2.1, a2.2.2] : List (Int × Int × Int))) (W (1 * 2 ^ (min (Int.toNat (IntKind.wrap .u64 a1)) 64)))).1.1)) (W (v2 + (F129 a0 a1))) (v3 + 1) (by (try simp only [List.length_append, List.length_cons, List.length_nil, Int.toNat_zero]); omega) (by (try simp only [List.length_append, List.length_cons, List.length_nil, Int.toNat_zero]); omega)
    | false =>
     have q0 := of_decide_eq_false h0
     have e := Eq.refl (S93_0 a0 a1 a2 (v1, v2, v3)); conv at e => rhs; simp only [S93_0, h0, cond_true, cond_false]
     rw [loopF_s, e]
     exact rt [.d h0, .c [] (C133 v1 (((F100 a0 a1).length : Nat) : Int)  (cut_ne (by omega))), .c [] (C134 v2 (((F100 a0 a1).length : Nat) : Int)  (cut_ne (by omega)))] [] [] hcx (by kernel_rfl)

def F93 (a0 : (Int × Int × Int) × (Int × Int × Int) × Int × Int × Int) (a1 : Int) (a2 : (Int × Int × Int) × (Int × Int × Int) × Int × Int × Int) : Int × Int :=
  (loopF (S93_0 a0 a1 a2) (Int.toNat ((((F100 a0 a1).length : Nat) : Int) - 0) + 1) (0, 0, 0))

theorem C93 (a0 : (Int × Int × Int) × (Int × Int × Int) × Int × Int × Int) (a1 : Int) (a2 : (Int × Int × Int) × (Int × Int × Int) × Int × Int × Int) (ha : 0 ≤ a1 ∧ a1 ≤ 3) (hr : W (128 * F157 (F116 (F77 a0) (F77 a0))) ≠ 0) : Con Tryz.prog 93 [(.a (k9 a0)), (iv a1), (.a (k9 a2))] [] (.a (k2 (F93 a0 a1 a2))) [] := by
  refine con_s Tryz.func93 (by kernel_rfl) fun cx hcx => ?_
  have e := Eq.refl (F93 a0 a1 a2); conv at e => rhs; simp only [F93]
  rw [e]
  refine en [.c [] (C100 a0 a1  (by (try simp only [List.length_append, List.length_cons, List.length_nil, Int.toNat_zero]); omega)), .p (show 0 ≤ ((IntKind.wrap .u64 a1) : Int) from by first | omega | (rw [W_eq] <;> omega) | exact u64_nn _), .c [] (C129 a0 a1  ha hr)] [] [6, 7, 8, 9, 10, 11, 12, 13] [2, 3, 4] hcx B93_0 (K93_0) (st93_0 a0 a1 a2 0 0 0) (Int.toNat ((((F100 a0 a1).length : Nat) : Int) - 0) + 1) (by kernel_rfl) ?_
  exact L93_0 a0 a1 a2 ha hr hcx (Int.toNat ((((F100 a0 a1).length : Nat) : Int) - 0) + 1) 0 0 0 (by (try simp only [List.length_append, List.length_cons, List.length_nil, Int.toNat_zero]); omega) (by (try simp only [List.length_append, List.length_cons, List.length_nil, Int.toNat_zero]); omega)

end Go.Proofs.YthpgabaeefifbaaGreat

namespace Go.Proofs.YthpgabaeefifbaaGreat
open Go.Proofs Go.Aw Go.RowKit
set_option maxRecDepth 100000
set_option linter.unusedVariables false
set_option linter.unusedSimpArgs false

/-! ### How far, how near -/
def mx (a b : Int) : Int := if a < b then b else a
theorem mx_le {a b c : Int} (h : a ≤ c) (h' : b ≤ c) : mx a b ≤ c := by unfold mx; split <;> assumption
theorem le_mx1 (a b : Int) : a ≤ mx a b := by unfold mx; split <;> omega
theorem le_mx2 (a b : Int) : b ≤ mx a b := by unfold mx; split <;> omega
def ds (p q : P3) : Int := dt (sb p q) (sb p q)
def fF (p q : P3) : Int := F149 (F147 p q) (F147 p q)
theorem fF_eq {p q : P3} (hp : bd 5000 p) (hq : bd 5000 q) : fF p q = ds p q := by
  unfold fF ds
  rw [fsb (hp.mono (by omega)) (hq.mono (by omega))]
  exact fdt ((bd_sb hp hq).mono (by omega)) ((bd_sb hp hq).mono (by omega))
def rF (p q : P3) : Int := F116 (F115 p q) (F115 p q)
theorem rF_eq {p q : P3} (hp : bd 5000 p) (hq : bd 5000 q) : rF p q = ds p q := by
  unfold rF ds
  rw [rsb (hp.mono (by omega)) (hq.mono (by omega))]
  exact rdt ((bd_sb hp hq).mono (by omega)) ((bd_sb hp hq).mono (by omega))
theorem farF3 (c : PN) (x y z : P3) : F122_L_L [c.1, c.2.1, c.2.2] [x, y, z] =
    mx (mx (mx (mx (mx (mx (mx (mx (mx 0 (fF c.1 x)) (fF c.1 y)) (fF c.1 z)) (fF c.2.1 x)) (fF c.2.1 y)) (fF c.2.1 z)) (fF c.2.2 x)) (fF c.2.2 y)) (fF c.2.2 z) := by
  rfl
theorem farR_step (c : PN) (l : List P3) (v : Int) (i : Nat) (h : i < l.length) :
    S131_L_0 c l (v, (i : Int)) = .inl (mx (mx (mx v (rF c.1 (l.getD i default))) (rF c.2.1 (l.getD i default))) (rF c.2.2 (l.getD i default)), ((i + 1 : Nat) : Int)) := by
  have h0 : decide ((i : Int) < ((l.length : Nat) : Int)) = true := by simpa using h
  simp only [S131_L_0, h0, cond_true, Int.toNat_natCast]
  have key : ∀ q : P3, (bif decide (rF c.1 q > v) then bif decide (rF c.2.1 q > rF c.1 q) then bif decide (rF c.2.2 q > rF c.2.1 q) then Sum.inl (rF c.2.2 q, (i : Int) + 1) else Sum.inl (rF c.2.1 q, (i : Int) + 1) else bif decide (rF c.2.2 q > rF c.1 q) then Sum.inl (rF c.2.2 q, (i : Int) + 1) else Sum.inl (rF c.1 q, (i : Int) + 1)
    else bif decide (rF c.2.1 q > v) then bif decide (rF c.2.2 q > rF c.2.1 q) then Sum.inl (rF c.2.2 q, (i : Int) + 1) else Sum.inl (rF c.2.1 q, (i : Int) + 1) else bif decide (rF c.2.2 q > v) then Sum.inl (rF c.2.2 q, (i : Int) + 1) else Sum.inl (v, (i : Int) + 1))
    = (Sum.inl (mx (mx (mx v (rF c.1 q)) (rF c.2.1 q)) (rF c.2.2 q), ((i : Int) + 1)) : (Int × Int) ⊕ Int) := by
    intro q
    generalize rF c.1 q = a1; generalize rF c.2.1 q = a2; generalize rF c.2.2 q = a3
    unfold mx
    by_cases h1 : a1 > v
    · rw [decide_eq_true h1, cond_true, if_pos h1]
      by_cases h2 : a2 > a1
      · rw [decide_eq_true h2, cond_true, if_pos h2]
        by_cases h3 : a3 > a2
        · rw [decide_eq_true h3, cond_true, if_pos h3]
        · rw [decide_eq_false h3, cond_false, if_neg h3]
      · rw [decide_eq_false h2, cond_false, if_neg h2]
        by_cases h3 : a3 > a1
        · rw [decide_eq_true h3, cond_true, if_pos h3]
        · rw [decide_eq_false h3, cond_false, if_neg h3]
    · rw [decide_eq_false h1, cond_false, if_neg h1]
      by_cases h2 : a2 > v
      · rw [decide_eq_true h2, cond_true, if_pos h2]
        by_cases h3 : a3 > a2
        · rw [decide_eq_true h3, cond_true, if_pos h3]
        · rw [decide_eq_false h3, cond_false, if_neg h3]
      · rw [decide_eq_false h2, cond_false, if_neg h2]
        by_cases h3 : a3 > v
        · rw [decide_eq_true h3, cond_true, if_pos h3]
        · rw [decide_eq_false h3, cond_false, if_neg h3]
  exact key (l.getD i default)
theorem farR_end (c : PN) (l : List P3) (v : Int) : S131_L_0 c l (v, (l.length : Int)) = .inr v := by
  have h0 : decide (((l.length : Nat) : Int) < ((l.length : Nat) : Int)) = false := by simp
  simp only [S131_L_0, h0, cond_false]
theorem farR3 (c : PN) (x y z : P3) : F131_L c [x, y, z] =
    mx (mx (mx (mx (mx (mx (mx (mx (mx 0 (rF c.1 x)) (rF c.2.1 x)) (rF c.2.2 x)) (rF c.1 y)) (rF c.2.1 y)) (rF c.2.2 y)) (rF c.1 z)) (rF c.2.1 z)) (rF c.2.2 z) := by
  unfold F131_L
  have e0 := farR_step c [x, y, z] 0 0 (by simp)
  have e1 := farR_step c [x, y, z] (mx (mx (mx 0 (rF c.1 x)) (rF c.2.1 x)) (rF c.2.2 x)) 1 (by simp)
  have e2 := farR_step c [x, y, z] (mx (mx (mx (mx (mx (mx 0 (rF c.1 x)) (rF c.2.1 x)) (rF c.2.2 x)) (rF c.1 y)) (rF c.2.1 y)) (rF c.2.2 y)) 2 (by simp)
  have e3 := farR_end c [x, y, z] (mx (mx (mx (mx (mx (mx (mx (mx (mx 0 (rF c.1 x)) (rF c.2.1 x)) (rF c.2.2 x)) (rF c.1 y)) (rF c.2.1 y)) (rF c.2.2 y)) (rF c.1 z)) (rF c.2.1 z)) (rF c.2.2 z))
  rw [show Int.toNat ((([x, y, z] : List P3).length : Int) - 0) + 1 = 4 from rfl, show ((0, 0) : Int × Int) = (0, ((0 : Nat) : Int)) from rfl, loopF_inl e0]
  refine (loopF_inl e1).trans ?_
  refine (loopF_inl e2).trans ?_
  exact loopF_inr e3
theorem mx_comm9 (a b c d e f g h i : Int) : mx (mx (mx (mx (mx (mx (mx (mx (mx 0 a) b) c) d) e) f) g) h) i = mx (mx (mx (mx (mx (mx (mx (mx (mx 0 a) d) g) b) e) h) c) f) i := by
  have key : ∀ a b c : Int, mx (mx a b) c = mx (mx a c) b := fun a b c => by unfold mx; repeat' split <;> omega
  rw [key _ c d, key _ b d, key _ f g, key _ e g, key _ c g, key _ b g]
  rw [key _ c e, key _ f h, key _ c h]

/-! boxes -/
def lo3 (a b c : Int) : Int := if c < (if b < (if a < a then a else a) then b else (if a < a then a else a)) then c else (if b < (if a < a then a else a) then b else (if a < a then a else a))
def hi3 (a b c : Int) : Int := if (if (if a < a then a else a) < b then b else (if a < a then a else a)) < c then c else (if (if a < a then a else a) < b then b else (if a < a then a else a))
theorem lo3_le (a b c : Int) : lo3 a b c ≤ a ∧ lo3 a b c ≤ b ∧ lo3 a b c ≤ c := by
  unfold lo3; simp only [Int.lt_irrefl, if_false]; split <;> split at * <;> omega
theorem le_hi3 (a b c : Int) : a ≤ hi3 a b c ∧ b ≤ hi3 a b c ∧ c ≤ hi3 a b c := by
  unfold hi3; simp only [Int.lt_irrefl, if_false]; split <;> split at * <;> omega
theorem lo3_in (a b c : Int) : lo3 a b c = a ∨ lo3 a b c = b ∨ lo3 a b c = c := by
  unfold lo3; simp only [Int.lt_irrefl, if_false]; split <;> split at * <;> omega
theorem hi3_in (a b c : Int) : hi3 a b c = a ∨ hi3 a b c = b ∨ hi3 a b c = c := by
  unfold hi3; simp only [Int.lt_irrefl, if_false]; split <;> split at * <;> omega
def gp (a b c d : Int) : Int := mx (mx 0 (c - b)) (a - d)
theorem gp_nn (a b c d : Int) : 0 ≤ gp a b c d := Int.le_trans (le_mx1 0 _) (le_mx1 _ _)
theorem gp_comm (a b c d : Int) : gp c d a b = gp a b c d := by unfold gp mx; repeat' split <;> omega
def nr (a b c d : P3) : Int := gp a.1 b.1 c.1 d.1 * gp a.1 b.1 c.1 d.1 + gp a.2.1 b.2.1 c.2.1 d.2.1 * gp a.2.1 b.2.1 c.2.1 d.2.1 + gp a.2.2 b.2.2 c.2.2 d.2.2 * gp a.2.2 b.2.2 c.2.2 d.2.2
def blo (c : PN) : P3 := (lo3 c.1.1 c.2.1.1 c.2.2.1, lo3 c.1.2.1 c.2.1.2.1 c.2.2.2.1, lo3 c.1.2.2 c.2.1.2.2 c.2.2.2.2)
def bhi (c : PN) : P3 := (hi3 c.1.1 c.2.1.1 c.2.2.1, hi3 c.1.2.1 c.2.1.2.1 c.2.2.2.1, hi3 c.1.2.2 c.2.1.2.2 c.2.2.2.2)
theorem blo_bd {m : Int} {c : PN} (h : bdP m c) : bd m (blo c) := by
  have h1 := lo3_in c.1.1 c.2.1.1 c.2.2.1; have h2 := lo3_in c.1.2.1 c.2.1.2.1 c.2.2.2.1; have h3 := lo3_in c.1.2.2 c.2.1.2.2 c.2.2.2.2
  have ha := h.1; have hb := h.2.1; have hc := h.2.2
  unfold bd at *; simp only [blo]; omega
theorem bhi_bd {m : Int} {c : PN} (h : bdP m c) : bd m (bhi c) := by
  have h1 := hi3_in c.1.1 c.2.1.1 c.2.2.1; have h2 := hi3_in c.1.2.1 c.2.1.2.1 c.2.2.2.1; have h3 := hi3_in c.1.2.2 c.2.1.2.2 c.2.2.2.2
  have ha := h.1; have hb := h.2.1; have hc := h.2.2
  unfold bd at *; simp only [bhi]; omega
theorem box3 (c : PN) : F151_3 c = (blo c, bhi c) := rfl
theorem gap_f {a b c d : Int} (ha : -5000 ≤ a ∧ a ≤ 5000) (hb : -5000 ≤ b ∧ b ≤ 5000) (hc : -5000 ≤ c ∧ c ≤ 5000) (hd : -5000 ≤ d ∧ d ≤ 5000) : F152 a b c d = gp a b c d := by
  unfold F152
  rw [W_eq (n := c - b) (by omega) (by omega), W_eq (n := a - d) (by omega) (by omega)]; rfl
theorem gp_bd {a b c d : Int} (ha : -5000 ≤ a ∧ a ≤ 5000) (hb : -5000 ≤ b ∧ b ≤ 5000) (hc : -5000 ≤ c ∧ c ≤ 5000) (hd : -5000 ≤ d ∧ d ≤ 5000) : 0 ≤ gp a b c d ∧ gp a b c d ≤ 10000 :=
  ⟨gp_nn _ _ _ _, mx_le (mx_le (by omega) (by omega)) (by omega)⟩
theorem nrF {a b c d : P3} (ha : bd 5000 a) (hb : bd 5000 b) (hc : bd 5000 c) (hd : bd 5000 d) :
    F149 (F152 a.1 b.1 c.1 d.1, F152 a.2.1 b.2.1 c.2.1 d.2.1, F152 a.2.2 b.2.2 c.2.2 d.2.2) (F152 a.1 b.1 c.1 d.1, F152 a.2.1 b.2.1 c.2.1 d.2.1, F152 a.2.2 b.2.2 c.2.2 d.2.2) = nr a b c d := by
  rw [gap_f ha.1 hb.1 hc.1 hd.1, gap_f ha.2.1 hb.2.1 hc.2.1 hd.2.1, gap_f ha.2.2 hb.2.2 hc.2.2 hd.2.2]
  have h1 := gp_bd ha.1 hb.1 hc.1 hd.1; have h2 := gp_bd ha.2.1 hb.2.1 hc.2.1 hd.2.1; have h3 := gp_bd ha.2.2 hb.2.2 hc.2.2 hd.2.2
  have hv : bd 1000000000 (gp a.1 b.1 c.1 d.1, gp a.2.1 b.2.1 c.2.1 d.2.1, gp a.2.2 b.2.2 c.2.2 d.2.2) := by unfold bd; simp only; omega
  rw [fdt hv hv]; rfl
theorem near33 {c q : PN} (hc : bdP 5000 c) (hq : bdP 5000 q) : F123_3_3 c q = nr (blo c) (bhi c) (blo q) (bhi q) := by
  unfold F123_3_3
  rw [box3, box3]
  exact nrF (blo_bd hc) (bhi_bd hc) (blo_bd hq) (bhi_bd hq)
/-! the reference's -/
theorem bounds3 (a b c : Int) : F164_L [a, b, c] = (lo3 a b c, hi3 a b c) := rfl
theorem gap_r {l m : List Int} {a b c d : Int} (hl : F164_L l = (a, b)) (hm : F164_L m = (c, d)) (ha : -5000 ≤ a ∧ a ≤ 5000) (hb : -5000 ≤ b ∧ b ≤ 5000) (hc : -5000 ≤ c ∧ c ≤ 5000) (hd : -5000 ≤ d ∧ d ≤ 5000) :
    F159_L_L l m = gp a b c d * gp a b c d := by
  unfold F159_L_L
  rw [hl, hm]
  simp only
  rw [W_eq (n := a - d) (by omega) (by omega), W_eq (n := c - b) (by omega) (by omega)]
  have e : (if ((if (0 : Int) < a - d then a - d else 0) : Int) < c - b then c - b else (if (0 : Int) < a - d then a - d else 0)) = gp a b c d := gp_comm a b c d
  rw [e]
  have h1 := gp_bd ha hb hc hd
  have h2 := mul_bd (a := 10000) (b := 10000) (x := gp a b c d) (y := gp a b c d) (by omega) (by omega)
  exact W_eq (by omega) (by omega)
theorem sum3 {a b c : Int} (ha : 0 ≤ a ∧ a ≤ 100000000) (hb : 0 ≤ b ∧ b ≤ 100000000) (hc : 0 ≤ c ∧ c ≤ 100000000) : W ((W (a + b)) + c) = a + b + c := by
  rw [W_eq (n := a + b) (by omega) (by omega), W_eq (by omega) (by omega)]
theorem close3 {c q : PN} (hc : bdP 5000 c) (hq : bdP 5000 q) : F132_3 c q = nr (blo c) (bhi c) (blo q) (bhi q) := by
  unfold F132_3
  have hl := blo_bd hc; have hh := bhi_bd hc; have kl := blo_bd hq; have kh := bhi_bd hq
  have g1 := gap_r (l := F160_3 c 0) (m := F160_3 q 0) (bounds3 c.1.1 c.2.1.1 c.2.2.1) (bounds3 q.1.1 q.2.1.1 q.2.2.1) hl.1 hh.1 kl.1 kh.1
  have g2 := gap_r (l := F160_3 c 1) (m := F160_3 q 1) (bounds3 c.1.2.1 c.2.1.2.1 c.2.2.2.1) (bounds3 q.1.2.1 q.2.1.2.1 q.2.2.2.1) hl.2.1 hh.2.1 kl.2.1 kh.2.1
  have g3 := gap_r (l := F160_3 c 2) (m := F160_3 q 2) (bounds3 c.1.2.2 c.2.1.2.2 c.2.2.2.2) (bounds3 q.1.2.2 q.2.1.2.2 q.2.2.2.2) hl.2.2 hh.2.2 kl.2.2 kh.2.2
  have b1 := gp_bd hl.1 hh.1 kl.1 kh.1; have b2 := gp_bd hl.2.1 hh.2.1 kl.2.1 kh.2.1; have b3 := gp_bd hl.2.2 hh.2.2 kl.2.2 kh.2.2
  have m1 := mul_bd (a := 10000) (b := 10000) (by omega) (by omega) (x := gp (blo c).1 (bhi c).1 (blo q).1 (bhi q).1) (y := gp (blo c).1 (bhi c).1 (blo q).1 (bhi q).1)
  have m2 := mul_bd (a := 10000) (b := 10000) (by omega) (by omega) (x := gp (blo c).2.1 (bhi c).2.1 (blo q).2.1 (bhi q).2.1) (y := gp (blo c).2.1 (bhi c).2.1 (blo q).2.1 (bhi q).2.1)
  have m3 := mul_bd (a := 10000) (b := 10000) (by omega) (by omega) (x := gp (blo c).2.2 (bhi c).2.2 (blo q).2.2 (bhi q).2.2) (y := gp (blo c).2.2 (bhi c).2.2 (blo q).2.2 (bhi q).2.2)
  rw [show F159_L_L (F160_3 c 0) (F160_3 q 0) = _ from g1, show F159_L_L (F160_3 c 1) (F160_3 q 1) = _ from g2, show F159_L_L (F160_3 c 2) (F160_3 q 2) = _ from g3]
  exact sum3 ⟨sq_nn _, by have := m1.2; exact this⟩ ⟨sq_nn _, by have := m2.2; exact this⟩ ⟨sq_nn _, by have := m3.2; exact this⟩

end Go.Proofs.YthpgabaeefifbaaGreat

namespace Go.Proofs.YthpgabaeefifbaaGreat
open Go.Proofs Go.Aw Go.RowKit
set_option maxRecDepth 100000
set_option linter.unusedVariables false
set_option linter.unusedSimpArgs false

/-! ### What is asked -/
open Classical in
noncomputable def pk (p q : PN) (d : Int) : Int := if vp p = 0 then (if vp q = 0 then (if 0 ≤ d ∧ d ≤ 2 then 0 else 1) else vp q) else vp p
theorem pk_aux (v w : Int) (b : Prop) [Decidable b] : (bif (v != 0) then v else (bif (w != 0) then w else (bif (!(decide b)) then (1 : Int) else 0))) = if v = 0 then (if w = 0 then (if b then 0 else 1) else w) else v := by
  by_cases hv : v = 0
  · subst hv
    by_cases hw : w = 0
    · subst hw; by_cases hb : b <;> simp [hb]
    · rw [bne_iff_ne.2 hw, cond_true, if_neg hw]; simp
  · rw [bne_iff_ne.2 hv, cond_true, if_neg hv]
theorem pair_eq (p q : PN) (d : Int) : F87 p q d = pk p q d := by
  unfold F87 pk
  rw [vp_s, vp_s, within_eq, pk_aux]
theorem paired_eq (p q : PN) (d : Int) : F92 p q d = pk p q d := by
  unfold F92 pk
  rw [vp_r, vp_r, within_eq3, pk_aux]
theorem pk_ok {p q : PN} {d : Int} (h : pk p q d = 0) : vp p = 0 ∧ vp q = 0 ∧ 0 ≤ d ∧ d ≤ 2 := by
  unfold pk at h
  split at h
  · rename_i h0
    split at h
    · rename_i h1
      split at h
      · rename_i h2; exact ⟨h0, h1, h2⟩
      · cases h
    · rename_i h1; exact absurd h h1
  · rename_i h0; exact absurd h h0
theorem pair_ok {p q : PN} {d : Int} (h : ((F87 p q d : Int) != 0) = false) : vp p = 0 ∧ vp q = 0 ∧ 0 ≤ d ∧ d ≤ 2 :=
  pk_ok (by rw [← pair_eq]; simpa using h)
theorem pair_vp {p q : PN} {d : Int} (h : ((F87 p q d : Int) != 0) = false) : F117 p = 0 := by
  rw [vp_s]; exact (pair_ok h).1
theorem pair_le {p q : PN} {d : Int} (h : ((F87 p q d : Int) != 0) = false) : 0 ≤ d ∧ d ≤ 3 := by have := pair_ok h; omega
theorem paired_le {p q : PN} {d : Int} (h : ((F92 p q d : Int) != 0) = false) : 0 ≤ d ∧ d ≤ 3 := by
  have := pk_ok (p := p) (q := q) (d := d) (by rw [← paired_eq]; simpa using h); omega
theorem paired_hr {p q : PN} {d : Int} (h : ((F92 p q d : Int) != 0) = false) : W (128 * F157 (F116 (F77 p) (F77 p))) ≠ 0 :=
  rim_neR (by rw [vp_r]; exact (pk_ok (p := p) (q := q) (d := d) (by rw [← paired_eq]; simpa using h)).1)
def F42 (a0 : (Int × Int × Int) × (Int × Int × Int) × Int × Int × Int) (a1 : (Int × Int × Int) × (Int × Int × Int) × Int × Int × Int) (a2 : Int) : (Int × Int) × Int :=
  (bif (((F87 a0 a1 a2) : Int) != 0) then
   ((0, 0), (F87 a0 a1 a2))
  else
   ((F88 a0 ((F89 a1.1 (W (1 * 2 ^ (min (Int.toNat a2) 64)))), (F89 a1.2.1 (W (1 * 2 ^ (min (Int.toNat a2) 64)))), (F89 a1.2.2 (W (1 * 2 ^ (min (Int.toNat a2) 64))))) a2), 0))

theorem C42 (a0 : (Int × Int × Int) × (Int × Int × Int) × Int × Int × Int) (a1 : (Int × Int × Int) × (Int × Int × Int) × Int × Int × Int) (a2 : Int) : Con Tryz.prog 42 [(.a (k9 a0)), (.a (k9 a1)), (iv a2)] [] (.t [(.a (k2 (F42 a0 a1 a2).1)), (iv (F42 a0 a1 a2).2)]) [] := by
  refine con_s Tryz.func42 (by kernel_rfl) fun cx hcx => ?_
  let t0 : List (St Tryz.prog) := [.c [] (C87 a0 a1 a2)]
  cases h0 : (((F87 a0 a1 a2) : Int) != 0) with
  | true =>
   have q0 := bne_iff_ne.1 h0
   have e := Eq.refl (F42 a0 a1 a2); conv at e => rhs; simp only [F42, h0, cond_true, cond_false]
   rw [e]
   exact rt (t0 ++ [.d h0]) [] [] hcx (by kernel_rfl)
  | false =>
   have q0 := bne_eq_false_iff_eq.1 h0
   have e := Eq.refl (F42 a0 a1 a2); conv at e => rhs; simp only [F42, h0, cond_true, cond_false]
   rw [e]
   exact rt (t0 ++ [.d h0, .p (show 0 ≤ (a2 : Int) from by exact (pair_le h0).1), .c [] (C89 a1.1 (W (1 * 2 ^ (min (Int.toNat a2) 64)))), .c [] (C89 a1.2.1 (W (1 * 2 ^ (min (Int.toNat a2) 64)))), .c [] (C89 a1.2.2 (W (1 * 2 ^ (min (Int.toNat a2) 64)))), .c [] (C88 a0 ((F89 a1.1 (W (1 * 2 ^ (min (Int.toNat a2) 64)))), (F89 a1.2.1 (W (1 * 2 ^ (min (Int.toNat a2) 64)))), (F89 a1.2.2 (W (1 * 2 ^ (min (Int.toNat a2) 64))))) a2  (pair_vp h0) (pair_le h0))]) [] [] hcx (by kernel_rfl)

def F46 (a0 : (Int × Int × Int) × (Int × Int × Int) × Int × Int × Int) (a1 : (Int × Int × Int) × (Int × Int × Int) × Int × Int × Int) (a2 : Int) : (Int × Int) × Int :=
  (bif (((F92 a0 a1 a2) : Int) != 0) then
   ((0, 0), (F92 a0 a1 a2))
  else
   ((F93 a0 a2 ((F94 a1.1 (W (1 * 2 ^ (min (Int.toNat (IntKind.wrap .u64 a2)) 64)))), (F94 a1.2.1 (W (1 * 2 ^ (min (Int.toNat (IntKind.wrap .u64 a2)) 64)))), (F94 a1.2.2 (W (1 * 2 ^ (min (Int.toNat (IntKind.wrap .u64 a2)) 64)))))), 0))

theorem C46 (a0 : (Int × Int × Int) × (Int × Int × Int) × Int × Int × Int) (a1 : (Int × Int × Int) × (Int × Int × Int) × Int × Int × Int) (a2 : Int) : Con Tryz.prog 46 [(.a (k9 a0)), (.a (k9 a1)), (iv a2)] [] (.t [(.a (k2 (F46 a0 a1 a2).1)), (iv (F46 a0 a1 a2).2)]) [] := by
  refine con_s Tryz.func46 (by kernel_rfl) fun cx hcx => ?_
  let t0 : List (St Tryz.prog) := [.c [] (C92 a0 a1 a2)]
  cases h0 : (((F92 a0 a1 a2) : Int) != 0) with
  | true =>
   have q0 := bne_iff_ne.1 h0
   have e := Eq.refl (F46 a0 a1 a2); conv at e => rhs; simp only [F46, h0, cond_true, cond_false]
   rw [e]
   exact rt (t0 ++ [.d h0]) [] [] hcx (by kernel_rfl)
  | false =>
   have q0 := bne_eq_false_iff_eq.1 h0
   have e := Eq.refl (F46 a0 a1 a2); conv at e => rhs; simp only [F46, h0, cond_true, cond_false]
   rw [e]
   exact rt (t0 ++ [.d h0, .p (show 0 ≤ ((IntKind.wrap .u64 a2) : Int) from by first | omega | (rw [W_eq] <;> omega) | exact u64_nn _), .c [] (C94 a1.1 (W (1 * 2 ^ (min (Int.toNat (IntKind.wrap .u64 a2)) 64)))), .c [] (C94 a1.2.1 (W (1 * 2 ^ (min (Int.toNat (IntKind.wrap .u64 a2)) 64)))), .c [] (C94 a1.2.2 (W (1 * 2 ^ (min (Int.toNat (IntKind.wrap .u64 a2)) 64)))), .c [] (C93 a0 a2 ((F94 a1.1 (W (1 * 2 ^ (min (Int.toNat (IntKind.wrap .u64 a2)) 64)))), (F94 a1.2.1 (W (1 * 2 ^ (min (Int.toNat (IntKind.wrap .u64 a2)) 64)))), (F94 a1.2.2 (W (1 * 2 ^ (min (Int.toNat (IntKind.wrap .u64 a2)) 64)))))  (paired_le h0) (paired_hr h0))]) [] [] hcx (by kernel_rfl)

end Go.Proofs.YthpgabaeefifbaaGreat

namespace Go.Proofs.YthpgabaeefifbaaGreat
open Go.Proofs Go.Aw Go.RowKit
set_option maxRecDepth 100000
set_option linter.unusedVariables false
set_option linter.unusedSimpArgs false

/-! ### The parts -/
theorem cutL_len : ∀ (d : Nat) (p : PN), (cutL d p).length = 4 ^ d
  | 0, p => rfl
  | d + 1, p => by
    rw [cutL_quad]
    have : ∀ l : List PN, (l.flatMap quad).length = 4 * l.length := fun l => by
      induction l with
      | nil => rfl
      | cons x l ih => rw [List.flatMap_cons, List.length_append, ih]; show 4 + _ = _; simp only [List.length_cons]; omega
    rw [this, cutL_len d p, Nat.pow_succ]; omega
end Go.Proofs.YthpgabaeefifbaaGreat
