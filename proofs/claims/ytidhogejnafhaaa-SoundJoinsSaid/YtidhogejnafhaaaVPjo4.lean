/-
  Parts of the proofs of the laws: the executor, what functions of the program compute, and that it is what the statements ask. No premise.
-/
import Derived.Test.YtidhogejnafhaaaVPjo3
namespace Go.Proofs.Ytidhogejnafhaaa
open Go.Proofs Go.Aw Go.RowKit
set_option maxRecDepth 100000
set_option linter.unusedVariables false
set_option linter.unusedSimpArgs false

/-! ### What is heard of all pulses -/
/-- a sum of pulses that are heard stays small -/
def bw (a : Int × Int) : Prop := -53687091300 ≤ a.1 ∧ a.1 ≤ a.2 ∧ a.2 ≤ 53687091300
theorem bw_vs {a : Int × Int} (h : bw a) : vs a := by unfold bw vs at *; omega
theorem sums_le : ∀ {l : List (Int × Int)} {v : Int × Int}, (∀ a ∈ l, okE a) → v.1 ≤ (sums l v).1 ∧ v.2 ≤ (sums l v).2 ∧ (sums l v).2 ≤ v.2 + 536870913 * l.length ∧ (v.1 ≤ v.2 → (sums l v).1 ≤ (sums l v).2)
  | [], v, _ => by simp only [sums, List.length_nil]; omega
  | a :: l, v, h => by
    have ha := h a List.mem_cons_self
    unfold okE at ha
    have ih := sums_le (l := l) (v := (v.1 + a.1, v.2 + a.2)) (fun b hb => h b (List.mem_cons_of_mem _ hb))
    simp only [sums, List.length_cons] at ih ⊢
    omega
theorem avg_small {l : List (Int × Int)} {n : Int} (hn : n = 1 ∨ n = 4 ∨ n = 16 ∨ n = 64) (hl : ∀ a ∈ l, okE a) (hk : ((l.length : Nat) : Int) = n) : okE (avg (sums l (0, 0)) n) := by
  have h := sums_le (v := (0, 0)) hl
  simp only at h
  unfold okE avg
  simp only
  rcases hn with rfl | rfl | rfl | rfl <;> omega
theorem sat_small {x n : Int} (hx : 0 ≤ x ∧ x ≤ 536870913) (hn : -100 ≤ n ∧ n ≤ 100) : sat x n = x * n ∧ -53687091300 ≤ x * n ∧ x * n ≤ 53687091300 := by
  have h := mul_bd (a := 536870913) (b := 100) (x := x) (y := n) ⟨by omega, hx.2⟩ hn
  unfold sat
  refine ⟨?_, by omega, by omega⟩
  rw [if_neg (by omega), if_neg (by omega)]
theorem scl_small {a : Int × Int} {n : Int} (ha : okE a) (hn : -100 ≤ n ∧ n ≤ 100) : bw (scl a n) := by
  unfold okE at ha
  have h1 := sat_small (x := a.1) ⟨ha.1, by omega⟩ hn
  have h2 := sat_small (x := a.2) ⟨by omega, ha.2.2⟩ hn
  unfold bw scl
  by_cases h : n < 0
  · have := sat_anti (n := n) ha.2.1 (by omega)
    rw [if_pos h]; simp only; omega
  · have := sat_mono (n := n) ha.2.1 (by omega)
    rw [if_neg h]; simp only; omega
theorem shG_map (p : PU) (x : P3) (s t d : Int) (k : List PN) : ∀ a ∈ k.map (fun c => (shG p x s t d c).1), okE a := by
  intro a ha
  obtain ⟨c, _, rfl⟩ := List.mem_map.1 ha
  exact shG_ok _ _ _ _ _ _
/-- what is heard of a pulse, without the span's limits -/
noncomputable def hrT (p : PU) (x : P3) (s t d : Int) : (Int × Int) × Int :=
  if t - p.2.1 < 1 then ((0, 0), 0) else out8 (fun l => (scl (avg (sums l (0, 0)) (sc d * sc d)) p.2.2, 0)) (fun e => ((0, 0), e)) (shs (shG p x s t d) (cutL d.toNat p.1) [])
theorem hrS_T {p : PU} {x : P3} {s t d : Int} (hp : POK p) (hd : 0 ≤ d ∧ d ≤ 3) : hrS p x s t d = hrT p x s t d := by
  unfold hrS hrT
  split
  · rfl
  · refine out8_ok (fun _ => ?_)
    have hb := scl_small (avg_small (cnt_in d) (shG_map p x s t d (cutL d.toNat p.1)) (by rw [List.length_map]; exact cnt_len hd p.1)) hp.2.2
    unfold bw at hb
    unfold hrE
    rw [res_f (by omega) (by omega) (by omega)]
theorem hrT_bw {p : PU} {x : P3} {s t d : Int} (hp : POK p) (hd : 0 ≤ d ∧ d ≤ 3) : bw (hrT p x s t d).1 := by
  unfold hrT
  split
  · unfold bw; simp
  · cases e : shs (shG p x s t d) (cutL d.toNat p.1) [] with
    | inr r => unfold bw out8; simp
    | inl m =>
      obtain ⟨h1, _⟩ := shs_inl e
      rw [List.nil_append] at h1
      subst h1
      exact scl_small (avg_small (cnt_in d) (shG_map p x s t d (cutL d.toNat p.1)) (by rw [List.length_map]; exact cnt_len hd p.1)) hp.2.2
theorem sums_bw : ∀ {l : List (Int × Int)} {v : Int × Int}, (∀ a ∈ l, bw a) → v.1 ≤ v.2 → v.1 - 53687091300 * l.length ≤ (sums l v).1 ∧ (sums l v).1 ≤ (sums l v).2 ∧ (sums l v).2 ≤ v.2 + 53687091300 * l.length
  | [], v, _, h => by simp only [sums, List.length_nil]; omega
  | a :: l, v, h, hv => by
    have ha := h a List.mem_cons_self
    unfold bw at ha
    have ih := sums_bw (l := l) (v := (v.1 + a.1, v.2 + a.2)) (fun b hb => h b (List.mem_cons_of_mem _ hb)) (by simp only; omega)
    simp only [sums, List.length_cons] at ih ⊢
    omega
theorem sumV_bw {l : List (Int × Int)} (h : ∀ a ∈ l, bw a) (hl : l.length ≤ 16) : sumV l = (sums l (0, 0), 0) ∧ vs (sums l (0, 0)) := by
  have hb := sums_bw (v := (0, 0)) h (by simp)
  simp only at hb
  have hv : vs (sums l (0, 0)) := by unfold vs; omega
  refine ⟨?_, hv⟩
  unfold sumV
  rw [res_f hv.1 hv.2.1 hv.2.2]
/-- what is heard of all pulses -/
noncomputable def scS (l : List PU) (x : P3) (s t d : Int) : (Int × Int) × Int := out8 (fun m => (sums m (0, 0), 0)) (fun e => ((0, 0), e)) (shs (fun p => hrT p x s t d) l [])
theorem mem_some {α : Type} {l : List α} {i : Nat} {c : α} (h : l[i]? = some c) : c ∈ l := by
  obtain ⟨hlt, hce⟩ := List.getElem?_eq_some_iff.1 h
  exact hce ▸ List.getElem_mem hlt
section
variable {l : List PU} {x : P3} {s t d : Int}
theorem scene_f (hv : vpL l = 0) (hx : bd 256 x) (hs : 1 ≤ s ∧ s ≤ 16) (ht : 0 ≤ t ∧ t ≤ 2000) (hd : 0 ≤ d ∧ d ≤ 3) : F46_L l x s t d = scS l x s t d := by
  obtain ⟨hl, hp⟩ := vpL_ok hv
  unfold F46_L F47_L_c59 scS
  have key := shs_loopF (g := fun p => hrT p x s t d) (S := S47_L_c59_0 l x s t d) (E := fun e => (((0, 0) : Int × Int), e)) (L := l)
    (G := fun m => ((F11_L m).1, (F11_L m).2)) (fun i c hi m => ?_) (fun m => ?_) l 0 (Int.toNat (((l.length : Nat) : Int) - 0) + 1) [] rfl (Nat.zero_le _) (by omega)
  · show (loopF (S47_L_c59_0 l x s t d) (Int.toNat (((l.length : Nat) : Int) - 0) + 1) ([], ((0 : Nat) : Int))) = _
    rw [key]
    refine out8_ok (fun _ => ?_)
    have hb : ∀ a ∈ l.map (fun c => (hrT c x s t d).1), bw a := fun a ha => by
      obtain ⟨c, hc, rfl⟩ := List.mem_map.1 ha
      exact hrT_bw (hp c hc) hd
    rw [Sum_f (fun a ha => bw_vs (hb a ha)) (by rw [List.length_map]; omega)]
    exact (sumV_bw hb (by rw [List.length_map]; exact hl)).1
  · obtain ⟨hg, hlt⟩ := getD_some hi
    have e : F59 c x s t d = hrT c x s t d := by
      unfold F59
      rw [heard_f (hp c (mem_some hi)) hx hs ht hd, hrS_T (hp c (mem_some hi)) hd]
    simp only [S47_L_c59_0]
    rw [decide_eq_true (show ((i : Nat) : Int) < (l.length : Nat) by omega), cond_true, Int.toNat_natCast, hg, e]; rfl
  · simp only [S47_L_c59_0]
    rw [decide_eq_false (Int.lt_irrefl _), cond_false]
end
/-- what is asked of a point, a speed, a tick and a depth -/
def askd (x : P3) (s t d : Int) : Prop := bd 256 x ∧ (1 ≤ s ∧ s ≤ 16) ∧ (0 ≤ t ∧ t ≤ 2000) ∧ (0 ≤ d ∧ d ≤ 3)
noncomputable def scV (l : List PU) (x : P3) (s t d : Int) : (Int × Int) × Int :=
  open Classical in if vpL l = 0 then (if askd x s t d then scS l x s t d else ((0, 0), 1)) else ((0, 0), vpL l)
open Classical in
theorem Scene_f (l : List PU) (x : P3) (s t d : Int) : F21_L l x s t d = scV l x s t d := by
  unfold F21_L scV askd
  rw [isP_f, isS_f, isT_f, isD_f]
  simp only [chkL_f]
  by_cases h : vpL l = 0
  · by_cases h1 : bd 256 x
    · by_cases h2 : 1 ≤ s ∧ s ≤ 16
      · by_cases h3 : 0 ≤ t ∧ t ≤ 2000
        · by_cases h4 : 0 ≤ d ∧ d ≤ 3
          · rw [scene_f h h1 h2 h3 h4]; simp [h, h1, h2, h3, h4]
          · simp [h, h1, h2, h3, h4]
        · simp [h, h1, h2, h3]
      · simp [h, h1, h2]
    · simp [h, h1]
  · simp only [if_neg h, bne_iff_ne.2 h, cond_true]
    cases decide (bd 256 x) <;> cases decide (1 ≤ s ∧ s ≤ 16) <;> cases decide (0 ≤ t ∧ t ≤ 2000) <;> rfl
end Go.Proofs.Ytidhogejnafhaaa

namespace Go.Proofs.Ytidhogejnafhaaa
open Go.Proofs Go.Aw Go.RowKit
set_option maxRecDepth 100000
set_option linter.unusedVariables false
set_option linter.unusedSimpArgs false

/-! ### Images of valid pulses are valid -/
/-! ### What is heard with a wall -/
end Go.Proofs.Ytidhogejnafhaaa

namespace Go.Proofs.Ytidhogejnafhaaa
open Go.Proofs Go.Aw Go.RowKit
set_option maxRecDepth 100000
set_option linter.unusedVariables false
set_option linter.unusedSimpArgs false

/-! ### On a wall -/
theorem shs_map {α β γ : Type} {g : α → β × Int} {g' : γ → β × Int} {f : γ → α} : ∀ {k : List γ} {m : List β}, (∀ c ∈ k, g (f c) = g' c) → shs g (k.map f) m = shs g' k m
  | [], m, _ => rfl
  | c :: k, m, h => by
    simp only [List.map_cons, shs]
    rw [h c List.mem_cons_self, shs_map (fun c hc => h c (List.mem_cons_of_mem _ hc))]
theorem shs_append {α β : Type} {g : α → β × Int} : ∀ {k k' : List α} {m : List β}, shs g (k ++ k') m = (match shs g k m with | .inl m' => shs g k' m' | .inr e => .inr e)
  | [], k', m => rfl
  | c :: k, k', m => by
    simp only [List.cons_append, shs]
    split
    · exact shs_append
    · rfl
theorem shs_pre {α β : Type} {g : α → β × Int} : ∀ {k : List α} {m : List β}, (∀ c ∈ k, (g c).2 = 0) → shs g k m = .inl (m ++ k.map fun c => (g c).1)
  | [], m, _ => by simp [shs]
  | c :: k, m, h => by
    simp only [shs]
    rw [if_pos (h c List.mem_cons_self), shs_pre (fun c hc => h c (List.mem_cons_of_mem _ hc))]; simp
def ngp (a : (Int × Int) × Int) : (Int × Int) × Int := ((-a.1.2, -a.1.1), a.2)
theorem sums_neg (l : List (Int × Int)) : sums (l.map fun a => (-a.2, -a.1)) (0, 0) = (-(sums l (0, 0)).2, -(sums l (0, 0)).1) := by
  induction l with
  | nil => rfl
  | cons a l ih =>
    have e : ∀ (k : List (Int × Int)) (b : Int × Int), sums (b :: k) (0, 0) = (b.1 + (sums k (0, 0)).1, b.2 + (sums k (0, 0)).2) := fun k b => by
      simp only [sums_eq, List.map_cons, List.sum_cons]
      simp only [Prod.mk.injEq]
      constructor <;> omega
    rw [List.map_cons, e, e, ih]
    simp only [Prod.mk.injEq]
    constructor <;> omega
end Go.Proofs.Ytidhogejnafhaaa
