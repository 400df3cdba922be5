/-
  Parts of the proofs of the laws: the executor, what functions of the program compute, and that it is what the statements ask. No premise.
-/
import Derived.Test.YtidhogejnafhaaaVPsu3
namespace Go.Proofs.Ytidhogejnafhaaa
open Go.Proofs Go.Aw Go.RowKit
set_option maxRecDepth 100000
set_option linter.unusedVariables false
set_option linter.unusedSimpArgs false

/-! ### What is heard of all pulses -/
/-- a sum of pulses that are heard stays small -/
def bw (a : Int × Int) : Prop := -53687091300 ≤ a.1 ∧ a.1 ≤ a.2 ∧ a.2 ≤ 53687091300
theorem bw_vs {a : Int × Int} (h : bw a) : vs a := by unfold bw vs at *; omega
theorem sums_le : ∀ {l : List (Int × Int)} {v : Int × Int}, (∀ a ∈ l, okE a) → v.1 ≤ (sums l v).1 ∧ v.2 ≤ (sums l v).2 ∧ (sums l v).2 ≤ v.2 + 536870913 * l.length ∧ (v.1 ≤ v.2 → (sums l v).1 ≤ (sums l v).2)
  | [], v, _ => by simp only [sums, List.length_nil]; omega
  | a :: l, v, h => by
    have ha := h a List.mem_cons_self
    unfold okE at ha
    have ih := sums_le (l := l) (v := (v.1 + a.1, v.2 + a.2)) (fun b hb => h b (List.mem_cons_of_mem _ hb))
    simp only [sums, List.length_cons] at ih ⊢
    omega
theorem avg_small {l : List (Int × Int)} {n : Int} (hn : n = 1 ∨ n = 4 ∨ n = 16 ∨ n = 64) (hl : ∀ a ∈ l, okE a) (hk : ((l.length : Nat) : Int) = n) : okE (avg (sums l (0, 0)) n) := by
  have h := sums_le (v := (0, 0)) hl
  simp only at h
  unfold okE avg
  simp only
  rcases hn with rfl | rfl | rfl | rfl <;> omega
theorem sat_small {x n : Int} (hx : 0 ≤ x ∧ x ≤ 536870913) (hn : -100 ≤ n ∧ n ≤ 100) : sat x n = x * n ∧ -53687091300 ≤ x * n ∧ x * n ≤ 53687091300 := by
  have h := mul_bd (a := 536870913) (b := 100) (x := x) (y := n) ⟨by omega, hx.2⟩ hn
  unfold sat
  refine ⟨?_, by omega, by omega⟩
  rw [if_neg (by omega), if_neg (by omega)]
theorem scl_small {a : Int × Int} {n : Int} (ha : okE a) (hn : -100 ≤ n ∧ n ≤ 100) : bw (scl a n) := by
  unfold okE at ha
  have h1 := sat_small (x := a.1) ⟨ha.1, by omega⟩ hn
  have h2 := sat_small (x := a.2) ⟨by omega, ha.2.2⟩ hn
  unfold bw scl
  by_cases h : n < 0
  · have := sat_anti (n := n) ha.2.1 (by omega)
    rw [if_pos h]; simp only; omega
  · have := sat_mono (n := n) ha.2.1 (by omega)
    rw [if_neg h]; simp only; omega
theorem shG_map (p : PU) (x : P3) (s t d : Int) (k : List PN) : ∀ a ∈ k.map (fun c => (shG p x s t d c).1), okE a := by
  intro a ha
  obtain ⟨c, _, rfl⟩ := List.mem_map.1 ha
  exact shG_ok _ _ _ _ _ _
/-- what is heard of a pulse, without the span's limits -/
noncomputable def hrT (p : PU) (x : P3) (s t d : Int) : (Int × Int) × Int :=
  if t - p.2.1 < 1 then ((0, 0), 0) else out8 (fun l => (scl (avg (sums l (0, 0)) (sc d * sc d)) p.2.2, 0)) (fun e => ((0, 0), e)) (shs (shG p x s t d) (cutL d.toNat p.1) [])
theorem hrS_T {p : PU} {x : P3} {s t d : Int} (hp : POK p) (hd : 0 ≤ d ∧ d ≤ 3) : hrS p x s t d = hrT p x s t d := by
  unfold hrS hrT
  split
  · rfl
  · refine out8_ok (fun _ => ?_)
    have hb := scl_small (avg_small (cnt_in d) (shG_map p x s t d (cutL d.toNat p.1)) (by rw [List.length_map]; exact cnt_len hd p.1)) hp.2.2
    unfold bw at hb
    unfold hrE
    rw [res_f (by omega) (by omega) (by omega)]
theorem hrT_bw {p : PU} {x : P3} {s t d : Int} (hp : POK p) (hd : 0 ≤ d ∧ d ≤ 3) : bw (hrT p x s t d).1 := by
  unfold hrT
  split
  · unfold bw; simp
  · cases e : shs (shG p x s t d) (cutL d.toNat p.1) [] with
    | inr r => unfold bw out8; simp
    | inl m =>
      obtain ⟨h1, _⟩ := shs_inl e
      rw [List.nil_append] at h1
      subst h1
      exact scl_small (avg_small (cnt_in d) (shG_map p x s t d (cutL d.toNat p.1)) (by rw [List.length_map]; exact cnt_len hd p.1)) hp.2.2
theorem sums_bw : ∀ {l : List (Int × Int)} {v : Int × Int}, (∀ a ∈ l, bw a) → v.1 ≤ v.2 → v.1 - 53687091300 * l.length ≤ (sums l v).1 ∧ (sums l v).1 ≤ (sums l v).2 ∧ (sums l v).2 ≤ v.2 + 53687091300 * l.length
  | [], v, _, h => by simp only [sums, List.length_nil]; omega
  | a :: l, v, h, hv => by
    have ha := h a List.mem_cons_self
    unfold bw at ha
    have ih := sums_bw (l := l) (v := (v.1 + a.1, v.2 + a.2)) (fun b hb => h b (List.mem_cons_of_mem _ hb)) (by simp only; omega)
    simp only [sums, List.length_cons] at ih ⊢
    omega
theorem sumV_bw {l : List (Int × Int)} (h : ∀ a ∈ l, bw a) (hl : l.length ≤ 16) : sumV l = (sums l (0, 0), 0) ∧ vs (sums l (0, 0)) := by
  have hb := sums_bw (v := (0, 0)) h (by simp)
  simp only at hb
  have hv : vs (sums l (0, 0)) := by unfold vs; omega
  refine ⟨?_, hv⟩
  unfold sumV
  rw [res_f hv.1 hv.2.1 hv.2.2]
/-- what is heard of all pulses -/
noncomputable def scS (l : List PU) (x : P3) (s t d : Int) : (Int × Int) × Int := out8 (fun m => (sums m (0, 0), 0)) (fun e => ((0, 0), e)) (shs (fun p => hrT p x s t d) l [])
theorem scS_vs {l : List PU} {x : P3} {s t d : Int} (hl : l.length ≤ 16) (hp : ∀ p ∈ l, POK p) (hd : 0 ≤ d ∧ d ≤ 3) : vs (scS l x s t d).1 := by
  unfold scS
  cases e : shs (fun p => hrT p x s t d) l [] with
  | inr r => unfold vs out8; simp
  | inl m =>
    obtain ⟨h1, _⟩ := shs_inl e
    rw [List.nil_append] at h1
    subst h1
    refine (sumV_bw (fun a ha => ?_) (by rw [List.length_map]; exact hl)).2
    obtain ⟨c, hc, rfl⟩ := List.mem_map.1 ha
    exact hrT_bw (hp c hc) hd
theorem mem_some {α : Type} {l : List α} {i : Nat} {c : α} (h : l[i]? = some c) : c ∈ l := by
  obtain ⟨hlt, hce⟩ := List.getElem?_eq_some_iff.1 h
  exact hce ▸ List.getElem_mem hlt
section
variable {l : List PU} {x : P3} {s t d : Int}
theorem scene_f (hv : vpL l = 0) (hx : bd 256 x) (hs : 1 ≤ s ∧ s ≤ 16) (ht : 0 ≤ t ∧ t ≤ 2000) (hd : 0 ≤ d ∧ d ≤ 3) : F46_L l x s t d = scS l x s t d := by
  obtain ⟨hl, hp⟩ := vpL_ok hv
  unfold F46_L F47_L_c59 scS
  have key := shs_loopF (g := fun p => hrT p x s t d) (S := S47_L_c59_0 l x s t d) (E := fun e => (((0, 0) : Int × Int), e)) (L := l)
    (G := fun m => ((F11_L m).1, (F11_L m).2)) (fun i c hi m => ?_) (fun m => ?_) l 0 (Int.toNat (((l.length : Nat) : Int) - 0) + 1) [] rfl (Nat.zero_le _) (by omega)
  · show (loopF (S47_L_c59_0 l x s t d) (Int.toNat (((l.length : Nat) : Int) - 0) + 1) ([], ((0 : Nat) : Int))) = _
    rw [key]
    refine out8_ok (fun _ => ?_)
    have hb : ∀ a ∈ l.map (fun c => (hrT c x s t d).1), bw a := fun a ha => by
      obtain ⟨c, hc, rfl⟩ := List.mem_map.1 ha
      exact hrT_bw (hp c hc) hd
    rw [Sum_f (fun a ha => bw_vs (hb a ha)) (by rw [List.length_map]; omega)]
    exact (sumV_bw hb (by rw [List.length_map]; exact hl)).1
  · obtain ⟨hg, hlt⟩ := getD_some hi
    have e : F59 c x s t d = hrT c x s t d := by
      unfold F59
      rw [heard_f (hp c (mem_some hi)) hx hs ht hd, hrS_T (hp c (mem_some hi)) hd]
    simp only [S47_L_c59_0]
    rw [decide_eq_true (show ((i : Nat) : Int) < (l.length : Nat) by omega), cond_true, Int.toNat_natCast, hg, e]; rfl
  · simp only [S47_L_c59_0]
    rw [decide_eq_false (Int.lt_irrefl _), cond_false]
end
/-- what is asked of a point, a speed, a tick and a depth -/
def askd (x : P3) (s t d : Int) : Prop := bd 256 x ∧ (1 ≤ s ∧ s ≤ 16) ∧ (0 ≤ t ∧ t ≤ 2000) ∧ (0 ≤ d ∧ d ≤ 3)
noncomputable def scV (l : List PU) (x : P3) (s t d : Int) : (Int × Int) × Int :=
  open Classical in if vpL l = 0 then (if askd x s t d then scS l x s t d else ((0, 0), 1)) else ((0, 0), vpL l)
open Classical in
theorem Scene_f (l : List PU) (x : P3) (s t d : Int) : F21_L l x s t d = scV l x s t d := by
  unfold F21_L scV askd
  rw [isP_f, isS_f, isT_f, isD_f]
  simp only [chkL_f]
  by_cases h : vpL l = 0
  · by_cases h1 : bd 256 x
    · by_cases h2 : 1 ≤ s ∧ s ≤ 16
      · by_cases h3 : 0 ≤ t ∧ t ≤ 2000
        · by_cases h4 : 0 ≤ d ∧ d ≤ 3
          · rw [scene_f h h1 h2 h3 h4]; simp [h, h1, h2, h3, h4]
          · simp [h, h1, h2, h3, h4]
        · simp [h, h1, h2, h3]
      · simp [h, h1, h2]
    · simp [h, h1]
  · simp only [if_neg h, bne_iff_ne.2 h, cond_true]
    cases decide (bd 256 x) <;> cases decide (1 ≤ s ∧ s ≤ 16) <;> cases decide (0 ≤ t ∧ t ≤ 2000) <;> rfl
end Go.Proofs.Ytidhogejnafhaaa

namespace Go.Proofs.Ytidhogejnafhaaa
open Go.Proofs Go.Aw Go.RowKit
set_option maxRecDepth 100000
set_option linter.unusedVariables false
set_option linter.unusedSimpArgs false

/-- facet/sound.Total$1 -/
def F48 (a0 : ((Int × Int × Int) × (Int × Int × Int) × Int × Int × Int) × Int × Int) (a1 : Int × Int × Int) (a2 : Int) : (Int × Int) × Int :=
  (bif (((F49 a0.1 a1 a2).2 : Int) != 0) then
   ((0, 0), (F49 a0.1 a1 a2).2)
  else
   ((F10 (F49 a0.1 a1 a2).1 a0.2.2).1, (F10 (F49 a0.1 a1 a2).1 a0.2.2).2))

theorem C48 (a0 : ((Int × Int × Int) × (Int × Int × Int) × Int × Int × Int) × Int × Int) (a1 : Int × Int × Int) (a2 : Int) : Con Try.prog 48 [(.a [(iv a0.1.1.1), (iv a0.1.1.2.1), (iv a0.1.1.2.2), (iv a0.1.2.1.1), (iv a0.1.2.1.2.1), (iv a0.1.2.1.2.2), (iv a0.1.2.2.1), (iv a0.1.2.2.2.1), (iv a0.1.2.2.2.2), (iv a0.2.1), (iv a0.2.2)]), (.p 0 0), (.p 1 0)] [(.live false false (k3 a1)), (.live false false [(iv a2)])] (.t [(.a (k2 (F48 a0 a1 a2).1)), (iv (F48 a0 a1 a2).2)]) [] := by
  refine con_s Try.func48 (by kernel_rfl) fun cx hcx => ?_
  let t0 : List (St Try.prog) := [.c [] (C49 a0.1 a1 a2)]
  cases h0 : (((F49 a0.1 a1 a2).2 : Int) != 0) with
  | true =>
   have q0 := bne_iff_ne.1 h0
   have e := Eq.refl (F48 a0 a1 a2); conv at e => rhs; simp only [F48, h0, cond_true, cond_false]
   rw [e]
   exact rt (t0 ++ [.d h0]) [] [] hcx (by kernel_rfl)
  | false =>
   have q0 := bne_eq_false_iff_eq.1 h0
   have e := Eq.refl (F48 a0 a1 a2); conv at e => rhs; simp only [F48, h0, cond_true, cond_false]
   rw [e]
   exact rt (t0 ++ [.d h0, .c [] (C10 (F49 a0.1 a1 a2).1 a0.2.2)]) [] [] hcx (by kernel_rfl)

noncomputable def B47_L_c48_0 : Code := (loopAtD [1, 1, 0, 1] [] (bodyOf Try.f47) []).1
noncomputable def K47_L_c48_0 : List K := (loopAtD [1, 1, 0, 1] [] (bodyOf Try.f47) []).2

def st47_L_c48_0 (a0 : List (((Int × Int × Int) × (Int × Int × Int) × Int × Int × Int) × Int × Int)) (a1_0 : Int × Int × Int) (a1_1 : Int) (v2c : List SV) (v2n : Nat) (v3 : Int) : LS := ⟨slN 36 [(1, (.f 48 [(.p 1 0), (.p 2 0)])), (4, (.p 3 0)), (6, (.s 4 0 v2n 2)), (11, (.s 0 0 a0.length 11)), (12, (iv ((a0.length : Nat) : Int))), (13, (iv v3))], [(.live false true (flat c47 a0)), (.live false false (k3 a1_0)), (.live false false [(iv a1_1)]), (.live true false [(iv 0), (iv 0)]), (.live true true v2c)]⟩

/-- a round of loop 0 of facet/sound.sum; the variables: v2 = s6, v3 = s13 -/
def S47_L_c48_0 (a0 : List (((Int × Int × Int) × (Int × Int × Int) × Int × Int × Int) × Int × Int)) (a1_0 : Int × Int × Int) (a1_1 : Int) : (List (Int × Int)) × Int → ((List (Int × Int)) × Int) ⊕ ((Int × Int) × Int)
  | (v2, v3) =>
   (bif (decide ((v3 : Int) < ((a0.length : Nat) : Int))) then
    (bif (((F48 (a0.getD (Int.toNat v3) default) a1_0 a1_1).2 : Int) != 0) then
     (.inr ((0, 0), (F48 (a0.getD (Int.toNat v3) default) a1_0 a1_1).2))
    else
     (.inl ((v2 ++ [(F48 (a0.getD (Int.toNat v3) default) a1_0 a1_1).1]), (v3 + 1))))
   else
    (.inr ((F11_L v2).1, (F11_L v2).2)))

set_option maxHeartbeats 4000000 in
theorem L47_L_c48_0 (a0 : List (((Int × Int × Int) × (Int × Int × Int) × Int × Int × Int) × Int × Int)) (a1_0 : Int × Int × Int) (a1_1 : Int) (l0 : a0.length ≤ 9223372036854775807) (hv : vpL a0 = 0) {cx : Cx} (hcx : cx.base = 3) : ∀ (n : Nat) (v2 : List (Int × Int)) (v3 : Int), (0 ≤ v3) ∧ (v2.length = Int.toNat v3) ∧ (v3 ≤ a0.length) → Int.toNat (((a0.length : Nat) : Int) - v3) < n → Aw.Good Try.prog none 9 (bodyPost Try.prog Try.f47 (RR cx (.t [(.a (k2 (loopF (S47_L_c48_0 a0 a1_0 a1_1) n (v2, v3)).1)), (iv (loopF (S47_L_c48_0 a0 a1_0 a1_1) n (v2, v3)).2)]) [] [])) cx [] (.l B47_L_c48_0 n :: K47_L_c48_0) (st47_L_c48_0 a0 a1_0 a1_1 (flat c23 v2) v2.length v3) := by
  intro n
  induction n with
  | zero => intro v2 v3 hi hn; exact absurd hn (Nat.not_lt_zero _)
  | succ n ih =>
    intro v2 v3 hi hn
    refine good_round ?_
    have hl16 := (vpL_ok hv).1
    cases h0 : (decide ((v3 : Int) < ((a0.length : Nat) : Int))) with
    | true =>
     have q0 := of_decide_eq_true h0
     let t1 : List (St Try.prog) := [.d h0, .i v3 (a0.length), .L c47_len a0 v3 0 11, .c [1, 2] (C48 (a0.getD (Int.toNat v3) default) a1_0 a1_1)]
     cases h1 : (((F48 (a0.getD (Int.toNat v3) default) a1_0 a1_1).2 : Int) != 0) with
     | true =>
      have q1 := bne_iff_ne.1 h1
      have e := Eq.refl (S47_L_c48_0 a0 a1_0 a1_1 (v2, v3)); conv at e => rhs; simp only [S47_L_c48_0, h0, h1, cond_true, cond_false]
      rw [loopF_s, e]
      exact rt (t1 ++ [.d h1]) [] [] hcx (by kernel_rfl)
     | false =>
      have q1 := bne_eq_false_iff_eq.1 h1
      have e := Eq.refl (S47_L_c48_0 a0 a1_0 a1_1 (v2, v3)); conv at e => rhs; simp only [S47_L_c48_0, h0, h1, cond_true, cond_false]
      rw [loopF_inl e]
      refine ba (t1 ++ [.d h1, .p (show ((flat c23 v2).length = v2.length * 2 ∧ v2.length + 1 ≤ 2 ^ 40 ∧ (v2.length + 1) * 16 ≤ 2 ^ 47) from app_ok c23_len (by omega) (by omega))]) [] [1, 4, 6, 11, 12, 13] [3, 8] hcx (m := n) B47_L_c48_0 (K47_L_c48_0) (st47_L_c48_0 a0 a1_0 a1_1 (flat c23 v2 ++ (k2 (F48 (a0.getD (Int.toNat v3) default) a1_0 a1_1).1)) (v2.length + 1) (W (v3 + 1))) (by kernel_rfl) ?_
      have z0 : (W (v3 + 1)) = (v3 + 1) := W_eq (by omega) (by omega)
      have z1 : (flat c23 v2 ++ (k2 (F48 (a0.getD (Int.toNat v3) default) a1_0 a1_1).1)) = (flat c23 (v2 ++ [(F48 (a0.getD (Int.toNat v3) default) a1_0 a1_1).1])) := (flat_append (c := c23) (l := v2) (m := [(F48 (a0.getD (Int.toNat v3) default) a1_0 a1_1).1])).symm
      have z2 : (v2.length + 1) = (v2 ++ [(F48 (a0.getD (Int.toNat v3) default) a1_0 a1_1).1]).length := len_app v2 [(F48 (a0.getD (Int.toNat v3) default) a1_0 a1_1).1] rfl
      rw [z0, z1, z2]
      exact ih (v2 ++ [(F48 (a0.getD (Int.toNat v3) default) a1_0 a1_1).1]) (v3 + 1) (by refine ⟨?_, ?_, ?_⟩ <;> (try simp only [List.length_append, List.length_cons, List.length_nil, Int.toNat_zero]) <;> first | omega | assumption | simp) (by (try simp only [List.length_append, List.length_cons, List.length_nil, Int.toNat_zero]); omega)
    | false =>
     have q0 := of_decide_eq_false h0
     have e := Eq.refl (S47_L_c48_0 a0 a1_0 a1_1 (v2, v3)); conv at e => rhs; simp only [S47_L_c48_0, h0, cond_true, cond_false]
     rw [loopF_s, e]
     exact rt [.d h0, .c [4] (C11_L v2 (by (try simp only [List.length_append, List.length_cons, List.length_nil, Int.toNat_zero]); omega))] [] [] hcx (by kernel_rfl)

/-- facet/sound.sum at ('L', 'c48') -/
def F47_L_c48 (a0 : List (((Int × Int × Int) × (Int × Int × Int) × Int × Int × Int) × Int × Int)) (a1_0 : Int × Int × Int) (a1_1 : Int) : (Int × Int) × Int :=
  (loopF (S47_L_c48_0 a0 a1_0 a1_1) (Int.toNat (((a0.length : Nat) : Int) - 0) + 1) (([] : List (Int × Int)), 0))

theorem C47_L_c48 (a0 : List (((Int × Int × Int) × (Int × Int × Int) × Int × Int × Int) × Int × Int)) (a1_0 : Int × Int × Int) (a1_1 : Int) (l0 : a0.length ≤ 9223372036854775807) (hv : vpL a0 = 0) : Con Try.prog 47 [(.s 0 0 a0.length 11), (.f 48 [(.p 1 0), (.p 2 0)])] [(.live false true (flat c47 a0)), (.live false false (k3 a1_0)), (.live false false [(iv a1_1)])] (.t [(.a (k2 (F47_L_c48 a0 a1_0 a1_1).1)), (iv (F47_L_c48 a0 a1_0 a1_1).2)]) [] := by
  refine con_s Try.func47 (by kernel_rfl) fun cx hcx => ?_
  have e := Eq.refl (F47_L_c48 a0 a1_0 a1_1); conv at e => rhs; simp only [F47_L_c48]
  rw [e]
  refine en [] [.slot 6 2] [1, 4, 6, 11, 12, 13] [3, 4] hcx B47_L_c48_0 (K47_L_c48_0) (st47_L_c48_0 a0 a1_0 a1_1 (flat c23 ([] : List (Int × Int))) 0 0) (Int.toNat (((a0.length : Nat) : Int) - 0) + 1) (by kernel_rfl) ?_
  exact L47_L_c48_0 a0 a1_0 a1_1 l0 hv hcx (Int.toNat (((a0.length : Nat) : Int) - 0) + 1) ([] : List (Int × Int)) 0 (by refine ⟨?_, ?_, ?_⟩ <;> (try simp only [List.length_append, List.length_cons, List.length_nil, Int.toNat_zero]) <;> first | omega | assumption | simp) (by (try simp only [List.length_append, List.length_cons, List.length_nil, Int.toNat_zero]); omega)

/-- facet/sound.Total at ('L',) -/
def F22_L (a0 : List (((Int × Int × Int) × (Int × Int × Int) × Int × Int × Int) × Int × Int)) (a1 : Int × Int × Int) (a2 : Int) : (Int × Int) × Int :=
  (bif (F42 a1) then
   (bif (((F41_L a0 (F45 a2)) : Int) != 0) then
    ((0, 0), (F41_L a0 (F45 a2)))
   else
    ((F47_L_c48 a0 a1 a2).1, (F47_L_c48 a0 a1 a2).2))
  else
   (bif (((F41_L a0 false) : Int) != 0) then
    ((0, 0), (F41_L a0 false))
   else
    ((F47_L_c48 a0 a1 a2).1, (F47_L_c48 a0 a1 a2).2)))

theorem C22_L (a0 : List (((Int × Int × Int) × (Int × Int × Int) × Int × Int × Int) × Int × Int)) (a1 : Int × Int × Int) (a2 : Int) (l0 : a0.length ≤ 9223372036854775807) : Con Try.prog 22 [(.s 0 0 a0.length 11), (.a (k3 a1)), (iv a2)] [(.live false true (flat c47 a0))] (.t [(.a (k2 (F22_L a0 a1 a2).1)), (iv (F22_L a0 a1 a2).2)]) [] := by
  refine con_s Try.func22 (by kernel_rfl) fun cx hcx => ?_
  let t0 : List (St Try.prog) := [.c [] (C42 a1)]
  cases h0 : (F42 a1) with
  | true =>
   let t1 : List (St Try.prog) := (t0 ++ [.d h0, .c [] (C45 a2), .c [0] (C41_L a0 (F45 a2) (by (try simp only [List.length_append, List.length_cons, List.length_nil, Int.toNat_zero]); omega))])
   cases h1 : (((F41_L a0 (F45 a2)) : Int) != 0) with
   | true =>
    have q1 := bne_iff_ne.1 h1
    have e := Eq.refl (F22_L a0 a1 a2); conv at e => rhs; simp only [F22_L, h0, h1, cond_true, cond_false]
    rw [e]
    exact rt (t1 ++ [.d h1]) [] [] hcx (by kernel_rfl)
   | false =>
    have q1 := bne_eq_false_iff_eq.1 h1
    have e := Eq.refl (F22_L a0 a1 a2); conv at e => rhs; simp only [F22_L, h0, h1, cond_true, cond_false]
    rw [e]
    exact rt (t1 ++ [.d h1, .c [0, 1, 2] (C47_L_c48 a0 a1 a2 (by (try simp only [List.length_append, List.length_cons, List.length_nil, Int.toNat_zero]); omega) (by first | exact ckL_v h1 | exact ckL_v h0))]) [] [] hcx (by kernel_rfl)
  | false =>
   let t1 : List (St Try.prog) := (t0 ++ [.d h0, .c [0] (C41_L a0 false (by (try simp only [List.length_append, List.length_cons, List.length_nil, Int.toNat_zero]); omega))])
   cases h1 : (((F41_L a0 false) : Int) != 0) with
   | true =>
    have q1 := bne_iff_ne.1 h1
    have e := Eq.refl (F22_L a0 a1 a2); conv at e => rhs; simp only [F22_L, h0, h1, cond_true, cond_false]
    rw [e]
    exact rt (t1 ++ [.d h1]) [] [] hcx (by kernel_rfl)
   | false =>
    have q1 := bne_eq_false_iff_eq.1 h1
    have e := Eq.refl (F22_L a0 a1 a2); conv at e => rhs; simp only [F22_L, h0, h1, cond_true, cond_false]
    rw [e]
    exact rt (t1 ++ [.d h1, .c [0, 1, 2] (C47_L_c48 a0 a1 a2 (by (try simp only [List.length_append, List.length_cons, List.length_nil, Int.toNat_zero]); omega) (by first | exact ckL_v h1 | exact ckL_v h0))]) [] [] hcx (by kernel_rfl)

/-! ### What is heard in all -/
noncomputable def toG (x : P3) (d : Int) (p : PU) : (Int × Int) × Int :=
  if (meanV of1 p.1 x d).2 = 0 then F26 (scl (meanV of1 p.1 x d).1 p.2.2).1 (scl (meanV of1 p.1 x d).1 p.2.2).2 else ((0, 0), (meanV of1 p.1 x d).2)
noncomputable def toS (l : List PU) (x : P3) (d : Int) : (Int × Int) × Int := out8 (fun m => sumV m) (fun e => ((0, 0), e)) (shs (toG x d) l [])
section
variable {l : List PU} {p : PU} {x : P3} {d : Int}
theorem toG_vs (h : (toG x d p).2 = 0) : vs (toG x d p).1 := by
  by_cases hm : (meanV of1 p.1 x d).2 = 0
  · have e : toG x d p = F26 (scl (meanV of1 p.1 x d).1 p.2.2).1 (scl (meanV of1 p.1 x d).1 p.2.2).2 := if_pos hm
    rw [e] at h ⊢
    rcases res_cases (scl (meanV of1 p.1 x d).1 p.2.2).1 (scl (meanV of1 p.1 x d).1 p.2.2).2 with ⟨e, hv⟩ | e
    · rw [e]; exact hv
    · rw [e] at h; exact absurd h (by decide)
  · have e : toG x d p = ((0, 0), (meanV of1 p.1 x d).2) := if_neg hm
    rw [e] at h; exact absurd h hm
theorem toG_f (hp : POK p) : F48 p x d = toG x d p := by
  unfold F48 toG
  rw [Mean_f]
  by_cases h : (meanV of1 p.1 x d).2 = 0
  · have hv := (meanV_vs of1_all h).2
    have hw := hp.2.2
    rw [if_pos h, h, Scale_f hv (by omega)]; rfl
  · rw [if_neg h, bne_iff_ne.2 h]; rfl
theorem total_f (hv : vpL l = 0) : F47_L_c48 l x d = toS l x d := by
  obtain ⟨hl, hp⟩ := vpL_ok hv
  unfold F47_L_c48 toS
  have key := shs_loopF (g := toG x d) (S := S47_L_c48_0 l x d) (E := fun e => (((0, 0) : Int × Int), e)) (L := l)
    (G := fun m => ((F11_L m).1, (F11_L m).2)) (fun i c hi m => ?_) (fun m => ?_) l 0 (Int.toNat (((l.length : Nat) : Int) - 0) + 1) [] rfl (Nat.zero_le _) (by omega)
  · show (loopF (S47_L_c48_0 l x d) (Int.toNat (((l.length : Nat) : Int) - 0) + 1) ([], ((0 : Nat) : Int))) = _
    rw [key]
    refine out8_ok (fun h0 => ?_)
    exact Sum_f (fun a ha => by
      obtain ⟨c, hc, rfl⟩ := List.mem_map.1 ha
      exact toG_vs (h0 c hc)) (by rw [List.length_map]; omega)
  · obtain ⟨hg, hlt⟩ := getD_some hi
    simp only [S47_L_c48_0]
    rw [decide_eq_true (show ((i : Nat) : Int) < (l.length : Nat) by omega), cond_true, Int.toNat_natCast, hg, toG_f (hp c (mem_some hi))]; rfl
  · simp only [S47_L_c48_0]
    rw [decide_eq_false (Int.lt_irrefl _), cond_false]
end
noncomputable def toV (l : List PU) (x : P3) (d : Int) : (Int × Int) × Int :=
  open Classical in if vpL l = 0 then (if bd 256 x ∧ (0 ≤ d ∧ d ≤ 3) then toS l x d else ((0, 0), 1)) else ((0, 0), vpL l)
open Classical in
theorem Total_f (l : List PU) (x : P3) (d : Int) : F22_L l x d = toV l x d := by
  unfold F22_L toV
  rw [isP_f, isD_f]
  simp only [chkL_f]
  by_cases h : vpL l = 0
  · by_cases h1 : bd 256 x
    · by_cases h4 : 0 ≤ d ∧ d ≤ 3
      · rw [total_f h]; simp [h, h1, h4]
      · simp [h, h1, h4]
    · simp [h, h1]
  · simp only [if_neg h, bne_iff_ne.2 h, cond_true]
    cases decide (bd 256 x) <;> rfl
end Go.Proofs.Ytidhogejnafhaaa

namespace Go.Proofs.Ytidhogejnafhaaa
open Go.Proofs Go.Aw Go.RowKit
set_option maxRecDepth 100000
set_option linter.unusedVariables false
set_option linter.unusedSimpArgs false

/-! ### What is heard in all ticks together -/
/-- the sum of the first n -/
def rs (f : Nat → Int) : Nat → Int
  | 0 => 0
  | n + 1 => rs f n + f n
theorem rs_range (f : Nat → Int) : ∀ n, ((List.range n).map f).sum = rs f n
  | 0 => rfl
  | n + 1 => by rw [List.range_succ, List.map_append, List.sum_append, rs_range f n]; simp [rs]
theorem rs_add (f g : Nat → Int) : ∀ n, rs (fun k => f k + g k) n = rs f n + rs g n
  | 0 => rfl
  | n + 1 => by simp only [rs]; rw [rs_add f g n]; omega
theorem rs_congr {f g : Nat → Int} : ∀ {n : Nat}, (∀ k, k < n → f k = g k) → rs f n = rs g n
  | 0, _ => rfl
  | n + 1, h => by
    have := rs_congr (n := n) (fun k hk => h k (by omega)); have := h n (by omega)
    simp only [rs]; omega
theorem rs_zero : ∀ n, rs (fun _ => 0) n = 0
  | 0 => rfl
  | n + 1 => by simp only [rs]; rw [rs_zero n]; rfl
theorem rs_mul (f : Nat → Int) (w : Int) : ∀ n, rs (fun k => f k * w) n = rs f n * w
  | 0 => by simp [rs]
  | n + 1 => by simp only [rs]; rw [rs_mul f w n, Int.add_mul]
theorem rs_split (f : Nat → Int) (a : Nat) : ∀ n, rs f (a + n) = rs f a + rs (fun k => f (a + k)) n
  | 0 => by simp [rs]
  | n + 1 => by rw [← Nat.add_assoc]; simp only [rs]; rw [rs_split f a n]; omega
theorem rs_swap {α : Type} (g : Nat → α → Int) (K : Nat) : ∀ L : List α, rs (fun k => (L.map (g k)).sum) K = (L.map fun c => rs (fun k => g k c) K).sum
  | [] => by simp [rs_zero]
  | c :: L => by simp only [List.map_cons, List.sum_cons]; rw [rs_add, rs_swap g K L]
theorem rs_div {f : Nat → Int} {n : Int} (hn : n = 1 ∨ n = 4) : ∀ K, rs (fun k => f k / n) K ≤ rs f K / n ∧ -(-(rs f K) / n) ≤ rs (fun k => -(-(f k) / n)) K
  | 0 => by rcases hn with rfl | rfl <;> simp [rs]
  | K + 1 => by
    have := rs_div (f := f) hn K
    simp only [rs]
    rcases hn with rfl | rfl <;> omega
theorem suml_le {α : Type} {f g : α → Int} : ∀ {l : List α}, (∀ c ∈ l, f c ≤ g c) → (l.map f).sum ≤ (l.map g).sum
  | [], _ => Int.le_refl _
  | c :: l, h => by
    have := h c List.mem_cons_self; have := suml_le (l := l) (fun c hc => h c (List.mem_cons_of_mem _ hc))
    simp only [List.map_cons, List.sum_cons]; omega
/-! a part, tick for tick -/
theorem shA_mono {s d : Int} (hs : 0 ≤ s) (k : Nat) : shA s d (k : Int) ≤ shA s d ((k + 1 : Nat) : Int) := by
  unfold shA
  have h0 := sc_bd d
  have h1 : 0 ≤ sc d * s := Int.mul_nonneg (by omega) hs
  have h2 : sc d * s * (k : Int) ≤ sc d * s * ((k + 1 : Nat) : Int) := Int.mul_le_mul_of_nonneg_left (by omega) h1
  have h3 : 0 ≤ sc d * s * (k : Int) := Int.mul_nonneg h1 (by omega)
  exact Int.mul_le_mul h2 h2 h3 (by omega)
noncomputable def gA (s d n f : Int) (k : Nat) : (Int × Int) × Int := gv (shA s d (k : Int)) (shA s d ((k + 1 : Nat) : Int)) (sc d) n f
section
variable {s d n f : Int}
theorem mx_nz {n a : Int} (h : 1 ≤ n) : mx n a ≠ 0 := by have := le_mx1 n a; omega
theorem gA_err (hn : 1 ≤ n) (k : Nat) : (gA s d n f k).2 = 0 := by
  unfold gA gv
  rw [if_neg (mx_nz hn)]
  (repeat' split) <;> rfl
theorem gA_lo (hn : 1 ≤ n) (k : Nat) : (gA s d n f k).1.1 ≤ if f ≤ shA s d (k : Int) then 0 else if f ≤ shA s d ((k + 1 : Nat) : Int) then (of1 (sc d) f).1 else 0 := by
  have h0 := (of1_ok (sc_in d)).lo f
  unfold gA gv
  rw [if_neg (mx_nz hn)]
  (repeat' split) <;> dsimp only <;> omega
theorem gA_hi (hn : 1 ≤ n) (hnf : n ≤ f) (k : Nat) : (if n ≤ shA s d (k : Int) then 0 else if n ≤ shA s d ((k + 1 : Nat) : Int) then (of1 (sc d) f).1 else 0) ≤ (gA s d n f k).1.2 := by
  have ho := of1_ok (sc_in d)
  have h5 : 0 ≤ (of1 (sc d) (mx n (shA s d (k : Int)))).2 := Int.le_trans (ho.lo _) (ho.le _)
  have h6 : ¬ n ≤ shA s d (k : Int) → (of1 (sc d) f).1 ≤ (of1 (sc d) (mx n (shA s d (k : Int)))).2 := fun h => by
    have : mx n (shA s d (k : Int)) = n := by unfold mx; split <;> omega
    rw [this]
    exact Int.le_trans (ho.mono n f hn hnf) (ho.le _)
  unfold gA gv
  rw [if_neg (mx_nz hn)]
  by_cases h7 : n ≤ shA s d (k : Int)
  · rw [if_pos h7]
    (repeat' split) <;> dsimp only <;> omega
  · have h6 := h6 h7
    rw [if_neg h7]
    (repeat' split) <;> dsimp only <;> omega
theorem part_lo (hs : 0 ≤ s) (hn : 1 ≤ n) (hnf : n ≤ f) : ∀ K : Nat, rs (fun k => (gA s d n f k).1.1) K ≤ if f ≤ shA s d (K : Int) then (of1 (sc d) f).1 else 0
  | 0 => by
    have := (of1_ok (sc_in d)).lo f
    simp only [rs]; split <;> omega
  | K + 1 => by
    have ih := part_lo hs hn hnf K
    have hm := shA_mono (d := d) hs K
    have h0 := (of1_ok (sc_in d)).lo f
    have hk := gA_lo (s := s) (d := d) (f := f) hn K
    simp only [rs]
    by_cases h1 : f ≤ shA s d (K : Int)
    · rw [if_pos h1] at ih hk
      rw [if_pos (by omega)]; omega
    · rw [if_neg h1] at ih hk
      by_cases h2 : f ≤ shA s d ((K + 1 : Nat) : Int)
      · rw [if_pos h2] at hk ⊢; omega
      · rw [if_neg h2] at hk ⊢; omega
theorem part_hi (hs : 0 ≤ s) (hn : 1 ≤ n) (hnf : n ≤ f) : ∀ K : Nat, (if n ≤ shA s d (K : Int) then (of1 (sc d) f).1 else 0) ≤ rs (fun k => (gA s d n f k).1.2) K
  | 0 => by
    have : shA s d ((0 : Nat) : Int) = 0 := by unfold shA; simp
    rw [if_neg (by omega)]; simp [rs]
  | K + 1 => by
    have ih := part_hi hs hn hnf K
    have hm := shA_mono (d := d) hs K
    have h0 := (of1_ok (sc_in d)).lo f
    have hk := gA_hi (s := s) (d := d) hn hnf K
    simp only [rs]
    by_cases h1 : n ≤ shA s d (K : Int)
    · rw [if_pos h1] at ih hk
      rw [if_pos (by omega)]; omega
    · rw [if_neg h1] at ih hk
      by_cases h2 : n ≤ shA s d ((K + 1 : Nat) : Int)
      · rw [if_pos h2] at hk ⊢; omega
      · rw [if_neg h2] at hk ⊢; omega
end
theorem far_in {p c : PN} {x : P3} {d : Int} (hb : bdP 64 p) (hd : d = 0 ∨ d = 1) (hc : c ∈ cutL d.toNat p) : fa c (tm (sc d) x) ≤ sc d * sc d * fa p x := by
  rcases hd with rfl | rfl
  · have hc : c ∈ [p] := hc
    rw [List.mem_singleton.1 hc, show sc 0 = 1 from rfl, show tm 1 x = x by unfold tm; simp]; omega
  · have hc : c ∈ cutL 1 p := hc
    rw [cutL_quad 0 p] at hc
    have hc : c ∈ quad p := by simpa [cutL] using hc
    rw [show sc 1 = 2 from rfl]
    have := fa_quad (x := x) (hb.mono (by omega)) hc
    omega
theorem zc_nz {y : P3} : ∀ {l : List PN}, ¬ 0 < (l.map (zc y)).sum → ∀ c ∈ l, ne c y ≠ 0
  | [], _, c, hc => by cases hc
  | a :: l, h, c, hc => by
    have hn : ∀ c, 0 ≤ zc y c := fun c => by unfold zc; split <;> omega
    have h0 := sum_nn (l := l) hn
    have h1 := hn a
    simp only [List.map_cons, List.sum_cons] at h
    rcases List.mem_cons.1 hc with rfl | hc
    · intro h2
      unfold zc at h; rw [if_pos h2] at h; unfold zc at h0; omega
    · exact zc_nz (by omega) c hc
theorem shs_oks {α β : Type} {g : α → β × Int} : ∀ {k : List α} {l : List β}, (∀ c ∈ k, (g c).2 = 0) → shs g k l = .inl (l ++ k.map fun c => (g c).1)
  | [], l, _ => by simp [shs]
  | c :: k, l, h => by
    simp only [shs]
    rw [if_pos (h c List.mem_cons_self), shs_oks (fun c hc => h c (List.mem_cons_of_mem _ hc))]; simp
/-- the least of a mean -/
noncomputable def mlo (p : PU) (x : P3) (d : Int) : Int := ((cutL d.toNat p.1).map fun c => (of1 (sc d) (fa c (tm (sc d) x))).1).sum / (sc d * sc d)
section
variable {p : PU} {x : P3} {s d : Int} {M : Int × Int}
theorem mean_lo (hd : d = 0 ∨ d = 1) (hM : meanS (of1 (sc d)) p.1 x d = (M, 0)) : (∀ c ∈ cutL d.toNat p.1, 1 ≤ ne c (tm (sc d) x)) ∧ M.1 = mlo p x d ∧ M.1 ≤ M.2 := by
  have ho := of1_ok (sc_in d)
  have hn : sc d * sc d = 1 ∨ sc d * sc d = 4 := by rcases hd with rfl | rfl <;> decide
  unfold meanS at hM
  rw [acc_sum] at hM
  by_cases hz : 0 < ((cutL d.toNat p.1).map (zc (tm (sc d) x))).sum
  · rw [if_pos hz] at hM; cases hM
  · rw [if_neg hz] at hM
    have hM1 : avg ((0 : Int) + ((cutL d.toNat p.1).map fun c => (of1 (sc d) (fa c (tm (sc d) x))).1).sum, (0 : Int) + ((cutL d.toNat p.1).map fun c => (of1 (sc d) (ne c (tm (sc d) x))).2).sum) (sc d * sc d) = M := congrArg Prod.fst hM
    have hall := zc_nz hz
    have h1 : ∀ c ∈ cutL d.toNat p.1, 1 ≤ ne c (tm (sc d) x) := fun c hc => by have := hall c hc; have := (ne_le c (tm (sc d) x)).1; omega
    have hle : ((cutL d.toNat p.1).map fun c => (of1 (sc d) (fa c (tm (sc d) x))).1).sum ≤ ((cutL d.toNat p.1).map fun c => (of1 (sc d) (ne c (tm (sc d) x))).2).sum :=
      suml_le (fun c hc => Int.le_trans (ho.mono _ _ (h1 c hc) (ne_le c _).2) (ho.le _))
    rw [← hM1]
    refine ⟨h1, ?_, ?_⟩
    · unfold mlo avg; rw [Int.zero_add]
    · unfold avg
      dsimp only
      rcases hn with h | h <;> rw [h] <;> omega
/-- what is heard of a pulse in a tick behind its start -/
theorem hr_at (h1 : ∀ c ∈ cutL d.toNat p.1, 1 ≤ ne c (tm (sc d) x)) (k : Nat) :
    hrT p x s (p.2.1 + 1 + (k : Int)) d = (scl (avg (sums ((cutL d.toNat p.1).map fun c => (gA s d (ne c (tm (sc d) x)) (fa c (tm (sc d) x)) k).1) (0, 0)) (sc d * sc d)) p.2.2, 0) := by
  have e : ∀ c, shG p x s (p.2.1 + 1 + (k : Int)) d c = gA s d (ne c (tm (sc d) x)) (fa c (tm (sc d) x)) k := fun c => by
    unfold shG gA
    rw [show p.2.1 + 1 + (k : Int) - p.2.1 - 1 = (k : Int) by omega, show p.2.1 + 1 + (k : Int) - p.2.1 = ((k + 1 : Nat) : Int) by omega]
  unfold hrT
  rw [if_neg (by omega), show (shG p x s (p.2.1 + 1 + (k : Int)) d) = fun c => gA s d (ne c (tm (sc d) x)) (fa c (tm (sc d) x)) k from funext e, shs_oks (fun c hc => gA_err (h1 c hc) k)]
  rfl
theorem hr_before (t : Int) (ht : t - p.2.1 < 1) : hrT p x s t d = ((0, 0), 0) := by unfold hrT; rw [if_pos ht]
theorem okE_g (hs : 0 ≤ s) (hd : d = 0 ∨ d = 1) (k : Nat) : okE (avg (sums ((cutL d.toNat p.1).map fun c => (gA s d (ne c (tm (sc d) x)) (fa c (tm (sc d) x)) k).1) (0, 0)) (sc d * sc d)) := by
  refine avg_small (cnt_in d) (fun a ha => ?_) (by rw [List.length_map]; exact cnt_len (by omega) p.1)
  obtain ⟨c, _, rfl⟩ := List.mem_map.1 ha
  exact gv_ok (sc_in d) (ne_le c _).1 (ne_le c _).2
/-- the sums over all ticks hold the least of the mean -/
theorem avg_sum (hp : POK p) (hs : 1 ≤ s) (hd : d = 0 ∨ d = 1) (h1 : ∀ c ∈ cutL d.toNat p.1, 1 ≤ ne c (tm (sc d) x)) {K : Nat} (hK : fa p.1 x ≤ s * (K : Int) * (s * (K : Int))) :
    rs (fun k => (avg (sums ((cutL d.toNat p.1).map fun c => (gA s d (ne c (tm (sc d) x)) (fa c (tm (sc d) x)) k).1) (0, 0)) (sc d * sc d)).1) K ≤ mlo p x d ∧
    mlo p x d ≤ rs (fun k => (avg (sums ((cutL d.toNat p.1).map fun c => (gA s d (ne c (tm (sc d) x)) (fa c (tm (sc d) x)) k).1) (0, 0)) (sc d * sc d)).2) K := by
  have hn : sc d * sc d = 1 ∨ sc d * sc d = 4 := by rcases hd with rfl | rfl <;> decide
  have hsh : ∀ c ∈ cutL d.toNat p.1, fa c (tm (sc d) x) ≤ shA s d (K : Int) := fun c hc => by
    refine Int.le_trans (far_in (pok_bd hp) hd hc) ?_
    have : shA s d (K : Int) = sc d * sc d * (s * (K : Int) * (s * (K : Int))) := by
      unfold shA
      simp only [Int.mul_assoc, Int.mul_left_comm, Int.mul_comm]
    rw [this]
    exact Int.mul_le_mul_of_nonneg_left hK (by omega)
  have e1 : ∀ k, (avg (sums ((cutL d.toNat p.1).map fun c => (gA s d (ne c (tm (sc d) x)) (fa c (tm (sc d) x)) k).1) (0, 0)) (sc d * sc d)).1 = ((cutL d.toNat p.1).map fun c => (gA s d (ne c (tm (sc d) x)) (fa c (tm (sc d) x)) k).1.1).sum / (sc d * sc d) := fun k => by
    unfold avg; rw [sums_eq]; simp only [List.map_map, Int.zero_add]; rfl
  have e2 : ∀ k, (avg (sums ((cutL d.toNat p.1).map fun c => (gA s d (ne c (tm (sc d) x)) (fa c (tm (sc d) x)) k).1) (0, 0)) (sc d * sc d)).2 = -(-((cutL d.toNat p.1).map fun c => (gA s d (ne c (tm (sc d) x)) (fa c (tm (sc d) x)) k).1.2).sum / (sc d * sc d)) := fun k => by
    unfold avg; rw [sums_eq]; simp only [List.map_map, Int.zero_add]; rfl
  simp only [e1, e2]
  have d1 := (rs_div (f := fun k => ((cutL d.toNat p.1).map fun c => (gA s d (ne c (tm (sc d) x)) (fa c (tm (sc d) x)) k).1.1).sum) hn K).1
  have d2 := (rs_div (f := fun k => ((cutL d.toNat p.1).map fun c => (gA s d (ne c (tm (sc d) x)) (fa c (tm (sc d) x)) k).1.2).sum) hn K).2
  have g1 : rs (fun k => ((cutL d.toNat p.1).map fun c => (gA s d (ne c (tm (sc d) x)) (fa c (tm (sc d) x)) k).1.1).sum) K ≤ ((cutL d.toNat p.1).map fun c => (of1 (sc d) (fa c (tm (sc d) x))).1).sum := by
    rw [rs_swap]
    refine suml_le (fun c hc => ?_)
    have := part_lo (d := d) (show 0 ≤ s by omega) (h1 c hc) (ne_le c _).2 K
    rwa [if_pos (hsh c hc)] at this
  have g2 : ((cutL d.toNat p.1).map fun c => (of1 (sc d) (fa c (tm (sc d) x))).1).sum ≤ rs (fun k => ((cutL d.toNat p.1).map fun c => (gA s d (ne c (tm (sc d) x)) (fa c (tm (sc d) x)) k).1.2).sum) K := by
    rw [rs_swap]
    refine suml_le (fun c hc => ?_)
    have := part_hi (d := d) (show 0 ≤ s by omega) (h1 c hc) (ne_le c _).2 K
    rwa [if_pos (Int.le_trans (ne_le c _).2 (hsh c hc))] at this
  unfold mlo
  rcases hn with h | h <;> rw [h] at d1 d2 ⊢ <;> omega
theorem scl_in {a : Int × Int} {n : Int} (ha : okE a) (hn : -100 ≤ n ∧ n ≤ 100) : scl a n = if n < 0 then (a.2 * n, a.1 * n) else (a.1 * n, a.2 * n) := by
  unfold okE at ha
  have h1 := sat_small (x := a.1) ⟨ha.1, by omega⟩ hn
  have h2 := sat_small (x := a.2) ⟨by omega, ha.2.2⟩ hn
  unfold scl; rw [h1.1, h2.1]
/-- a pulse, in all ticks -/
theorem pul_sum (hp : POK p) (hs : 1 ≤ s) (hd : d = 0 ∨ d = 1) (h1 : ∀ c ∈ cutL d.toNat p.1, 1 ≤ ne c (tm (sc d) x)) {T : Nat} (hT : p.2.1 ≤ (T : Int)) (hK : fa p.1 x ≤ s * ((T : Int) - p.2.1) * (s * ((T : Int) - p.2.1))) :
    rs (fun t => (hrT p x s (t : Int) d).1.1) (T + 1) ≤ mlo p x d * p.2.2 ∧ mlo p x d * p.2.2 ≤ rs (fun t => (hrT p x s (t : Int) d).1.2) (T + 1) := by
  have h0 := hp.2.1
  have hw := hp.2.2
  obtain ⟨A, hA⟩ : ∃ A : Nat, p.2.1 = (A : Int) := ⟨p.2.1.toNat, by omega⟩
  obtain ⟨K, hK'⟩ : ∃ K : Nat, T + 1 = A + 1 + K := ⟨T - A, by omega⟩
  have hKe : (T : Int) - p.2.1 = (K : Int) := by omega
  rw [hKe] at hK
  have hb : ∀ t : Nat, t < A + 1 → hrT p x s (t : Int) d = ((0, 0), 0) := fun t ht => hr_before _ (by omega)
  have ha : ∀ k : Nat, hrT p x s ((A + 1 + k : Nat) : Int) d = (scl (avg (sums ((cutL d.toNat p.1).map fun c => (gA s d (ne c (tm (sc d) x)) (fa c (tm (sc d) x)) k).1) (0, 0)) (sc d * sc d)) p.2.2, 0) := fun k => by
    rw [show ((A + 1 + k : Nat) : Int) = p.2.1 + 1 + (k : Int) by omega]; exact hr_at h1 k
  have hs' := avg_sum hp hs hd h1 hK
  have hok := okE_g (p := p) (x := x) (s := s) (d := d) (by omega) hd
  have f1 : rs (fun t : Nat => (hrT p x s (t : Int) d).1.1) (T + 1) = rs (fun k : Nat => (hrT p x s ((A + 1 + k : Nat) : Int) d).1.1) K := by
    rw [hK', rs_split _ (A + 1) K, rs_congr (g := fun _ => 0) (n := A + 1) (fun k hk => by rw [hb k hk]), rs_zero, Int.zero_add]
  have f2 : rs (fun t : Nat => (hrT p x s (t : Int) d).1.2) (T + 1) = rs (fun k : Nat => (hrT p x s ((A + 1 + k : Nat) : Int) d).1.2) K := by
    rw [hK', rs_split _ (A + 1) K, rs_congr (g := fun _ => 0) (n := A + 1) (fun k hk => by rw [hb k hk]), rs_zero, Int.zero_add]
  rw [f1, f2]
  simp only [ha]
  generalize hav : (fun k => avg (sums ((cutL d.toNat p.1).map fun c => (gA s d (ne c (tm (sc d) x)) (fa c (tm (sc d) x)) k).1) (0, 0)) (sc d * sc d)) = av at hs' hok
  have hav' : ∀ k, avg (sums ((cutL d.toNat p.1).map fun c => (gA s d (ne c (tm (sc d) x)) (fa c (tm (sc d) x)) k).1) (0, 0)) (sc d * sc d) = av k := fun k => congrFun hav k
  simp only [hav'] at hs' hok ⊢
  by_cases hn : p.2.2 < 0
  · have e : ∀ k, scl (av k) p.2.2 = ((av k).2 * p.2.2, (av k).1 * p.2.2) := fun k => by rw [scl_in (hok k) hw, if_pos hn]
    simp only [e]
    rw [rs_mul, rs_mul]
    exact ⟨Int.mul_le_mul_of_nonpos_right hs'.2 (by omega), Int.mul_le_mul_of_nonpos_right hs'.1 (by omega)⟩
  · have e : ∀ k, scl (av k) p.2.2 = ((av k).1 * p.2.2, (av k).2 * p.2.2) := fun k => by rw [scl_in (hok k) hw, if_neg hn]
    simp only [e]
    rw [rs_mul, rs_mul]
    exact ⟨Int.mul_le_mul_of_nonneg_right hs'.1 (by omega), Int.mul_le_mul_of_nonneg_right hs'.2 (by omega)⟩
end

end Go.Proofs.Ytidhogejnafhaaa

namespace Go.Proofs.Ytidhogejnafhaaa
open Go.Proofs Go.Aw Go.RowKit
set_option maxRecDepth 100000
set_option linter.unusedVariables false
set_option linter.unusedSimpArgs false

/-- facet/sound.last -/
def F63 (a0 : ((Int × Int × Int) × (Int × Int × Int) × Int × Int × Int) × Int × Int) (a1 : Int × Int × Int) (a2 : Int) : Int :=
  (W (a0.2.1 + (F53 (F77 a0.1 a1) a2)))

theorem C63 (a0 : ((Int × Int × Int) × (Int × Int × Int) × Int × Int × Int) × Int × Int) (a1 : Int × Int × Int) (a2 : Int) (hp : POK a0) (hx : bd 256 a1) (hs : 1 ≤ a2 ∧ a2 ≤ 16) : Con Try.prog 63 [(.a [(iv a0.1.1.1), (iv a0.1.1.2.1), (iv a0.1.1.2.2), (iv a0.1.2.1.1), (iv a0.1.2.1.2.1), (iv a0.1.2.1.2.2), (iv a0.1.2.2.1), (iv a0.1.2.2.2.1), (iv a0.1.2.2.2.2), (iv a0.2.1), (iv a0.2.2)]), (.a (k3 a1)), (iv a2)] [] (iv (F63 a0 a1 a2)) [] := by
  refine con_s Try.func63 (by kernel_rfl) fun cx hcx => ?_
  have e := Eq.refl (F63 a0 a1 a2); conv at e => rhs; simp only [F63]
  rw [e]
  exact rt [.c [] (C77 a0.1 a1), .c [] (C53 (F77 a0.1 a1) a2  (faf6 hp hx) (by omega))] [] [] hcx (by kernel_rfl)

/-- sound.arrival, as cells -/
def c73 (x : Int × Int × Int) : List SV := [(iv x.1), (iv x.2.1), (iv x.2.2)]
theorem c73_len (x : Int × Int × Int) : (c73 x).length = 3 := rfl

noncomputable def B50_L_0 : Code := (loopAtD [1, 1, 0, 1] [] (bodyOf Try.f50) []).1
noncomputable def K50_L_0 : List K := (loopAtD [1, 1, 0, 1] [] (bodyOf Try.f50) []).2

def st50_L_0 (a0 : List (((Int × Int × Int) × (Int × Int × Int) × Int × Int × Int) × Int × Int)) (a1 : Int × Int × Int) (a2 : Int) (v2c : List SV) (v2n : Nat) (v3 : Int) : LS := ⟨slN 32 [(2, (iv a2)), (4, (.p 1 0)), (7, (.s 2 0 v2n 3)), (10, (.s 0 0 a0.length 11)), (11, (iv ((a0.length : Nat) : Int))), (12, (iv v3))], [(.live false true (flat c47 a0)), (.live true false (k3 a1)), (.live true true v2c)]⟩

/-- a round of loop 0 of facet/sound.arrivals; the variables: v2 = s7, v3 = s12 -/
def S50_L_0 (a0 : List (((Int × Int × Int) × (Int × Int × Int) × Int × Int × Int) × Int × Int)) (a1 : Int × Int × Int) (a2 : Int) : (List (Int × Int × Int)) × Int → ((List (Int × Int × Int)) × Int) ⊕ (List (Int × Int × Int))
  | (v2, v3) =>
   (bif (decide ((v3 : Int) < ((a0.length : Nat) : Int))) then
    (.inl ((v2 ++ [((F55 (a0.getD (Int.toNat v3) default) a1 a2), (F63 (a0.getD (Int.toNat v3) default) a1 a2), v3)]), (v3 + 1)))
   else
    (.inr v2))

set_option maxHeartbeats 4000000 in
theorem L50_L_0 (a0 : List (((Int × Int × Int) × (Int × Int × Int) × Int × Int × Int) × Int × Int)) (a1 : Int × Int × Int) (a2 : Int) (l0 : a0.length ≤ 9223372036854775807) (hv : vpL a0 = 0) (hx : bd 256 a1) (hs : 1 ≤ a2 ∧ a2 ≤ 16) {cx : Cx} (hcx : cx.base = 1) : ∀ (n : Nat) (v2 : List (Int × Int × Int)) (v3 : Int), (0 ≤ v3) ∧ (v2.length = Int.toNat v3) ∧ (v3 ≤ a0.length) → Int.toNat (((a0.length : Nat) : Int) - v3) < n → Aw.Good Try.prog none 9 (bodyPost Try.prog Try.f50 (RR cx (.s 1 0 (loopF (S50_L_0 a0 a1 a2) n (v2, v3)).length 3) [(.live true true (flat c73 (loopF (S50_L_0 a0 a1 a2) n (v2, v3))))] [])) cx [] (.l B50_L_0 n :: K50_L_0) (st50_L_0 a0 a1 a2 (flat c73 v2) v2.length v3) := by
  intro n
  induction n with
  | zero => intro v2 v3 hi hn; exact absurd hn (Nat.not_lt_zero _)
  | succ n ih =>
    intro v2 v3 hi hn
    refine good_round ?_
    have hl16 := (vpL_ok hv).1
    cases h0 : (decide ((v3 : Int) < ((a0.length : Nat) : Int))) with
    | true =>
     have q0 := of_decide_eq_true h0
     have e := Eq.refl (S50_L_0 a0 a1 a2 (v2, v3)); conv at e => rhs; simp only [S50_L_0, h0, cond_true, cond_false]
     rw [loopF_inl e]
     refine ba [.d h0, .i v3 (a0.length), .L c47_len a0 v3 0 11, .c [] (C55 (a0.getD (Int.toNat v3) default) a1 a2  (vpL_get hv (by omega)) hx hs), .c [] (C63 (a0.getD (Int.toNat v3) default) a1 a2  (vpL_get hv (by omega)) hx hs), .p (show ((flat c73 v2).length = v2.length * 3 ∧ v2.length + 1 ≤ 2 ^ 40 ∧ (v2.length + 1) * 24 ≤ 2 ^ 47) from app_ok c73_len (by omega) (by omega))] [] [2, 4, 7, 10, 11, 12] [1, 5] hcx (m := n) B50_L_0 (K50_L_0) (st50_L_0 a0 a1 a2 (flat c73 v2 ++ [(iv (F55 (a0.getD (Int.toNat v3) default) a1 a2)), (iv (F63 (a0.getD (Int.toNat v3) default) a1 a2)), (iv v3)]) (v2.length + 1) (W (v3 + 1))) (by kernel_rfl) ?_
     have z0 : (W (v3 + 1)) = (v3 + 1) := W_eq (by omega) (by omega)
     have z1 : (flat c73 v2 ++ [(iv (F55 (a0.getD (Int.toNat v3) default) a1 a2)), (iv (F63 (a0.getD (Int.toNat v3) default) a1 a2)), (iv v3)]) = (flat c73 (v2 ++ [((F55 (a0.getD (Int.toNat v3) default) a1 a2), (F63 (a0.getD (Int.toNat v3) default) a1 a2), v3)])) := (flat_append (c := c73) (l := v2) (m := [((F55 (a0.getD (Int.toNat v3) default) a1 a2), (F63 (a0.getD (Int.toNat v3) default) a1 a2), v3)])).symm
     have z2 : (v2.length + 1) = (v2 ++ [((F55 (a0.getD (Int.toNat v3) default) a1 a2), (F63 (a0.getD (Int.toNat v3) default) a1 a2), v3)]).length := len_app v2 [((F55 (a0.getD (Int.toNat v3) default) a1 a2), (F63 (a0.getD (Int.toNat v3) default) a1 a2), v3)] rfl
     rw [z0, z1, z2]
     exact ih (v2 ++ [((F55 (a0.getD (Int.toNat v3) default) a1 a2), (F63 (a0.getD (Int.toNat v3) default) a1 a2), v3)]) (v3 + 1) (by refine ⟨?_, ?_, ?_⟩ <;> (try simp only [List.length_append, List.length_cons, List.length_nil, Int.toNat_zero]) <;> first | omega | assumption | simp) (by (try simp only [List.length_append, List.length_cons, List.length_nil, Int.toNat_zero]); omega)
    | false =>
     have q0 := of_decide_eq_false h0
     have e := Eq.refl (S50_L_0 a0 a1 a2 (v2, v3)); conv at e => rhs; simp only [S50_L_0, h0, cond_true, cond_false]
     rw [loopF_s, e]
     exact rt [.d h0] [] [2] hcx (by kernel_rfl)

/-- facet/sound.arrivals at ('L',) -/
def F50_L (a0 : List (((Int × Int × Int) × (Int × Int × Int) × Int × Int × Int) × Int × Int)) (a1 : Int × Int × Int) (a2 : Int) : List (Int × Int × Int) :=
  (loopF (S50_L_0 a0 a1 a2) (Int.toNat (((a0.length : Nat) : Int) - 0) + 1) (([] : List (Int × Int × Int)), 0))

theorem C50_L (a0 : List (((Int × Int × Int) × (Int × Int × Int) × Int × Int × Int) × Int × Int)) (a1 : Int × Int × Int) (a2 : Int) (l0 : a0.length ≤ 9223372036854775807) (hv : vpL a0 = 0) (hx : bd 256 a1) (hs : 1 ≤ a2 ∧ a2 ≤ 16) : Con Try.prog 50 [(.s 0 0 a0.length 11), (.a (k3 a1)), (iv a2)] [(.live false true (flat c47 a0))] (.s 1 0 (F50_L a0 a1 a2).length 3) [(.live true true (flat c73 (F50_L a0 a1 a2)))] := by
  refine con_s Try.func50 (by kernel_rfl) fun cx hcx => ?_
  try have hl16 := (vpL_ok hv).1
  have e := Eq.refl (F50_L a0 a1 a2); conv at e => rhs; simp only [F50_L]
  rw [e]
  refine en [] [.slot 7 3] [2, 4, 7, 10, 11, 12] [1, 2] hcx B50_L_0 (K50_L_0) (st50_L_0 a0 a1 a2 (flat c73 ([] : List (Int × Int × Int))) 0 0) (Int.toNat (((a0.length : Nat) : Int) - 0) + 1) (by kernel_rfl) ?_
  exact L50_L_0 a0 a1 a2 l0 hv hx hs hcx (Int.toNat (((a0.length : Nat) : Int) - 0) + 1) ([] : List (Int × Int × Int)) 0 (by refine ⟨?_, ?_, ?_⟩ <;> (try simp only [List.length_append, List.length_cons, List.length_nil, Int.toNat_zero]) <;> first | omega | assumption | simp) (by (try simp only [List.length_append, List.length_cons, List.length_nil, Int.toNat_zero]); omega)

/-! ### From when to when, of all pulses -/
section
variable {l : List PU} {x : P3} {s : Int}
theorem arr_loop : ∀ (k : List PU) (i n : Nat) (m : List (Int × Int × Int)), l.drop i = k → i ≤ l.length → k.length < n →
    (loopF (S50_L_0 l x s) n (m, (i : Int))).map (fun a => a.2.1) = m.map (fun a => a.2.1) ++ k.map (fun p => F63 p x s)
  | [], i, n, m, hd, hi, hn => by
    have : i = l.length := by have := List.drop_eq_nil_iff.1 hd; omega
    obtain ⟨n, rfl⟩ : ∃ m, n = m + 1 := ⟨n - 1, by simp only [List.length_nil] at hn; omega⟩
    subst this
    have e : S50_L_0 l x s (m, ((l.length : Nat) : Int)) = .inr m := by
      simp only [S50_L_0]; rw [decide_eq_false (Int.lt_irrefl _), cond_false]
    rw [loopF_inr e]; simp
  | c :: k, i, n, m, hd, hi, hn => by
    have hc : l[i]? = some c := by
      have : (l.drop i)[0]? = some c := by rw [hd]; rfl
      simpa using this
    obtain ⟨hg, hlt⟩ := getD_some hc
    obtain ⟨n, rfl⟩ : ∃ m, n = m + 1 := ⟨n - 1, by omega⟩
    have e : S50_L_0 l x s (m, (i : Int)) = .inl (m ++ [(F55 c x s, F63 c x s, (i : Int))], ((i + 1 : Nat) : Int)) := by
      simp only [S50_L_0]
      rw [decide_eq_true (show ((i : Nat) : Int) < (l.length : Nat) by omega), cond_true, Int.toNat_natCast, hg]; rfl
    rw [loopF_inl e, arr_loop k (i + 1) n _ (by rw [← List.drop_drop, hd]; rfl) (by omega) (by simp only [List.length_cons] at hn; omega)]
    simp
end
theorem arr_last (l : List PU) (x : P3) (s : Int) : (F50_L l x s).map (fun a => a.2.1) = l.map (fun p => F63 p x s) := by
  have := arr_loop (l := l) (x := x) (s := s) l 0 (Int.toNat (((l.length : Nat) : Int) - 0) + 1) [] rfl (Nat.zero_le _) (by omega)
  exact this
theorem arr_len (l : List PU) (x : P3) (s : Int) : (F50_L l x s).length = l.length := by
  have := congrArg List.length (arr_last l x s)
  simpa using this

noncomputable def B23_L_0 : Code := (loopAtD [1, 1, 1, 1, 1, 0, 1] [] (bodyOf Try.f23) []).1
noncomputable def K23_L_0 : List K := (loopAtD [1, 1, 1, 1, 1, 0, 1] [] (bodyOf Try.f23) []).2

def st23_L_0 (a0 : List (((Int × Int × Int) × (Int × Int × Int) × Int × Int × Int) × Int × Int)) (a1 : Int × Int × Int) (a2 : Int) (v1 : Int) (v2 : Int) (v3 : Int) : LS := ⟨slN 56 [(6, (iv v1)), (7, (iv v2)), (39, (.s 1 0 (F50_L a0 a1 a2).length 3)), (40, (iv (((F50_L a0 a1 a2).length : Nat) : Int))), (41, (iv v3))], [(.live false true (flat c47 a0)), (.live true true (flat c73 (F50_L a0 a1 a2)))]⟩

/-- a round of loop 0 of facet/sound.Ticks; the variables: v1 = s6, v2 = s7, v3 = s41 -/
def S23_L_0 (a0 : List (((Int × Int × Int) × (Int × Int × Int) × Int × Int × Int) × Int × Int)) (a1 : Int × Int × Int) (a2 : Int) : Int × Int × Int → (Int × Int × Int) ⊕ (Int × Int × Int)
  | (v1, v2, v3) =>
   (bif (decide ((v3 : Int) < (((F50_L a0 a1 a2).length : Nat) : Int))) then
    (.inl ((if (((F50_L a0 a1 a2).getD (Int.toNat v3) default).1 : Int) < v1 then ((F50_L a0 a1 a2).getD (Int.toNat v3) default).1 else v1), (if (v2 : Int) < ((F50_L a0 a1 a2).getD (Int.toNat v3) default).2.1 then ((F50_L a0 a1 a2).getD (Int.toNat v3) default).2.1 else v2), (v3 + 1)))
   else
    (.inr (v1, v2, 0)))

set_option maxHeartbeats 4000000 in
theorem L23_L_0 (a0 : List (((Int × Int × Int) × (Int × Int × Int) × Int × Int × Int) × Int × Int)) (a1 : Int × Int × Int) (a2 : Int) (l0 : a0.length ≤ 9223372036854775807) {cx : Cx} (hcx : cx.base = 1) : ∀ (n : Nat) (v1 : Int) (v2 : Int) (v3 : Int), (0 ≤ v3) ∧ (v3 ≤ (F50_L a0 a1 a2).length) → Int.toNat ((((F50_L a0 a1 a2).length : Nat) : Int) - v3) < n → Aw.Good Try.prog none 9 (bodyPost Try.prog Try.f23 (RR cx (.t (k3 (loopF (S23_L_0 a0 a1 a2) n (v1, v2, v3)))) [] [])) cx [] (.l B23_L_0 n :: K23_L_0) (st23_L_0 a0 a1 a2 v1 v2 v3) := by
  intro n
  induction n with
  | zero => intro v1 v2 v3 hi hn; exact absurd hn (Nat.not_lt_zero _)
  | succ n ih =>
    intro v1 v2 v3 hi hn
    refine good_round ?_
    have hal := arr_len a0 a1 a2
    cases h0 : (decide ((v3 : Int) < (((F50_L a0 a1 a2).length : Nat) : Int))) with
    | true =>
     have q0 := of_decide_eq_true h0
     have e := Eq.refl (S23_L_0 a0 a1 a2 (v1, v2, v3)); conv at e => rhs; simp only [S23_L_0, h0, cond_true, cond_false]
     rw [loopF_inl e]
     refine ba [.d h0, .i v3 ((F50_L a0 a1 a2).length), .L c73_len (F50_L a0 a1 a2) v3 0 3] [] [6, 7, 39, 40, 41] [1] hcx (m := n) B23_L_0 (K23_L_0) (st23_L_0 a0 a1 a2 (if (((F50_L a0 a1 a2).getD (Int.toNat v3) default).1 : Int) < v1 then ((F50_L a0 a1 a2).getD (Int.toNat v3) default).1 else v1) (if (v2 : Int) < ((F50_L a0 a1 a2).getD (Int.toNat v3) default).2.1 then ((F50_L a0 a1 a2).getD (Int.toNat v3) default).2.1 else v2) (W (v3 + 1))) (by kernel_rfl) ?_
     have z0 : (W (v3 + 1)) = (v3 + 1) := W_eq (by omega) (by omega)
     rw [z0]
     exact ih (if (((F50_L a0 a1 a2).getD (Int.toNat v3) default).1 : Int) < v1 then ((F50_L a0 a1 a2).getD (Int.toNat v3) default).1 else v1) (if (v2 : Int) < ((F50_L a0 a1 a2).getD (Int.toNat v3) default).2.1 then ((F50_L a0 a1 a2).getD (Int.toNat v3) default).2.1 else v2) (v3 + 1) (by refine ⟨?_, ?_⟩ <;> (try simp only [List.length_append, List.length_cons, List.length_nil, Int.toNat_zero]) <;> first | omega | assumption | simp) (by (try simp only [List.length_append, List.length_cons, List.length_nil, Int.toNat_zero]); omega)
    | false =>
     have q0 := of_decide_eq_false h0
     have e := Eq.refl (S23_L_0 a0 a1 a2 (v1, v2, v3)); conv at e => rhs; simp only [S23_L_0, h0, cond_true, cond_false]
     rw [loopF_s, e]
     exact rt [.d h0] [] [] hcx (by kernel_rfl)

/-- facet/sound.Ticks at ('L',) -/
def F23_L (a0 : List (((Int × Int × Int) × (Int × Int × Int) × Int × Int × Int) × Int × Int)) (a1 : Int × Int × Int) (a2 : Int) : Int × Int × Int :=
  (bif (F42 a1) then
   (bif (((F41_L a0 (F43 a2)) : Int) != 0) then
    (0, 0, (F41_L a0 (F43 a2)))
   else
    (bif (((((F50_L a0 a1 a2).length : Nat) : Int) : Int) == 0) then
     (0, 0, 5)
    else
     (loopF (S23_L_0 a0 a1 a2) (Int.toNat ((((F50_L a0 a1 a2).length : Nat) : Int) - 0) + 1) (((F50_L a0 a1 a2).getD (Int.toNat 0) default).1, ((F50_L a0 a1 a2).getD (Int.toNat 0) default).2.1, 0))))
  else
   (bif (((F41_L a0 false) : Int) != 0) then
    (0, 0, (F41_L a0 false))
   else
    (bif (((((F50_L a0 a1 a2).length : Nat) : Int) : Int) == 0) then
     (0, 0, 5)
    else
     (loopF (S23_L_0 a0 a1 a2) (Int.toNat ((((F50_L a0 a1 a2).length : Nat) : Int) - 0) + 1) (((F50_L a0 a1 a2).getD (Int.toNat 0) default).1, ((F50_L a0 a1 a2).getD (Int.toNat 0) default).2.1, 0)))))

theorem C23_L (a0 : List (((Int × Int × Int) × (Int × Int × Int) × Int × Int × Int) × Int × Int)) (a1 : Int × Int × Int) (a2 : Int) (l0 : a0.length ≤ 9223372036854775807) : Con Try.prog 23 [(.s 0 0 a0.length 11), (.a (k3 a1)), (iv a2)] [(.live false true (flat c47 a0))] (.t (k3 (F23_L a0 a1 a2))) [] := by
  refine con_s Try.func23 (by kernel_rfl) fun cx hcx => ?_
  have hal := arr_len a0 a1 a2
  let t0 : List (St Try.prog) := [.c [] (C42 a1)]
  cases h0 : (F42 a1) with
  | true =>
   let t1 : List (St Try.prog) := (t0 ++ [.d h0, .c [] (C43 a2), .c [0] (C41_L a0 (F43 a2) (by (try simp only [List.length_append, List.length_cons, List.length_nil, Int.toNat_zero]); omega))])
   cases h1 : (((F41_L a0 (F43 a2)) : Int) != 0) with
   | true =>
    have q1 := bne_iff_ne.1 h1
    have e := Eq.refl (F23_L a0 a1 a2); conv at e => rhs; simp only [F23_L, h0, h1, cond_true, cond_false]
    rw [e]
    exact rt (t1 ++ [.d h1]) [] [] hcx (by kernel_rfl)
   | false =>
    have q1 := bne_eq_false_iff_eq.1 h1
    let t2 : List (St Try.prog) := (t1 ++ [.d h1, .c [0] (C50_L a0 a1 a2 (by (try simp only [List.length_append, List.length_cons, List.length_nil, Int.toNat_zero]); omega) (by first | exact ckL_v h1 | exact ckL_v h2) (by first | exact isp_p h0 | exact absurd (ckL_b h1) (by decide) | exact absurd (ckL_b h2) (by decide)) (by first | exact iss_p (ckL_b h1) | exact iss_p h1 | exact absurd (ckL_b h1) (by decide) | exact absurd (ckL_b h2) (by decide)))])
    cases h2 : (((((F50_L a0 a1 a2).length : Nat) : Int) : Int) == 0) with
    | true =>
     have q2 := eq_of_beq h2
     have e := Eq.refl (F23_L a0 a1 a2); conv at e => rhs; simp only [F23_L, h0, h1, h2, cond_true, cond_false]
     rw [e]
     exact rt (t2 ++ [.d h2]) [] [] hcx (by kernel_rfl)
    | false =>
     have q2 := ne_of_beq_false h2
     have e := Eq.refl (F23_L a0 a1 a2); conv at e => rhs; simp only [F23_L, h0, h1, h2, cond_true, cond_false]
     rw [e]
     refine en (t2 ++ [.d h2, .i 0 ((F50_L a0 a1 a2).length), .L c73_len (F50_L a0 a1 a2) 0 0 1, .i 0 ((F50_L a0 a1 a2).length), .L c73_len (F50_L a0 a1 a2) 0 1 1]) [] [6, 7, 39, 40, 41] [2] hcx B23_L_0 (K23_L_0) (st23_L_0 a0 a1 a2 (((F50_L a0 a1 a2).getD (Int.toNat 0) default).1) (((F50_L a0 a1 a2).getD (Int.toNat 0) default).2.1) 0) (Int.toNat ((((F50_L a0 a1 a2).length : Nat) : Int) - 0) + 1) (by kernel_rfl) ?_
     exact L23_L_0 a0 a1 a2 l0 hcx (Int.toNat ((((F50_L a0 a1 a2).length : Nat) : Int) - 0) + 1) (((F50_L a0 a1 a2).getD (Int.toNat 0) default).1) (((F50_L a0 a1 a2).getD (Int.toNat 0) default).2.1) 0 (by refine ⟨?_, ?_⟩ <;> (try simp only [List.length_append, List.length_cons, List.length_nil, Int.toNat_zero]) <;> first | omega | assumption | simp) (by (try simp only [List.length_append, List.length_cons, List.length_nil, Int.toNat_zero]); omega)
  | false =>
   let t1 : List (St Try.prog) := (t0 ++ [.d h0, .c [0] (C41_L a0 false (by (try simp only [List.length_append, List.length_cons, List.length_nil, Int.toNat_zero]); omega))])
   cases h1 : (((F41_L a0 false) : Int) != 0) with
   | true =>
    have q1 := bne_iff_ne.1 h1
    have e := Eq.refl (F23_L a0 a1 a2); conv at e => rhs; simp only [F23_L, h0, h1, cond_true, cond_false]
    rw [e]
    exact rt (t1 ++ [.d h1]) [] [] hcx (by kernel_rfl)
   | false =>
    have q1 := bne_eq_false_iff_eq.1 h1
    let t2 : List (St Try.prog) := (t1 ++ [.d h1, .c [0] (C50_L a0 a1 a2 (by (try simp only [List.length_append, List.length_cons, List.length_nil, Int.toNat_zero]); omega) (by first | exact ckL_v h1 | exact ckL_v h2) (by first | exact isp_p h0 | exact absurd (ckL_b h1) (by decide) | exact absurd (ckL_b h2) (by decide)) (by first | exact iss_p (ckL_b h1) | exact iss_p h1 | exact absurd (ckL_b h1) (by decide) | exact absurd (ckL_b h2) (by decide)))])
    cases h2 : (((((F50_L a0 a1 a2).length : Nat) : Int) : Int) == 0) with
    | true =>
     have q2 := eq_of_beq h2
     have e := Eq.refl (F23_L a0 a1 a2); conv at e => rhs; simp only [F23_L, h0, h1, h2, cond_true, cond_false]
     rw [e]
     exact rt (t2 ++ [.d h2]) [] [] hcx (by kernel_rfl)
    | false =>
     have q2 := ne_of_beq_false h2
     have e := Eq.refl (F23_L a0 a1 a2); conv at e => rhs; simp only [F23_L, h0, h1, h2, cond_true, cond_false]
     rw [e]
     refine en (t2 ++ [.d h2, .i 0 ((F50_L a0 a1 a2).length), .L c73_len (F50_L a0 a1 a2) 0 0 1, .i 0 ((F50_L a0 a1 a2).length), .L c73_len (F50_L a0 a1 a2) 0 1 1]) [] [6, 7, 39, 40, 41] [2] hcx B23_L_0 (K23_L_0) (st23_L_0 a0 a1 a2 (((F50_L a0 a1 a2).getD (Int.toNat 0) default).1) (((F50_L a0 a1 a2).getD (Int.toNat 0) default).2.1) 0) (Int.toNat ((((F50_L a0 a1 a2).length : Nat) : Int) - 0) + 1) (by kernel_rfl) ?_
     exact L23_L_0 a0 a1 a2 l0 hcx (Int.toNat ((((F50_L a0 a1 a2).length : Nat) : Int) - 0) + 1) (((F50_L a0 a1 a2).getD (Int.toNat 0) default).1) (((F50_L a0 a1 a2).getD (Int.toNat 0) default).2.1) 0 (by refine ⟨?_, ?_⟩ <;> (try simp only [List.length_append, List.length_cons, List.length_nil, Int.toNat_zero]) <;> first | omega | assumption | simp) (by (try simp only [List.length_append, List.length_cons, List.length_nil, Int.toNat_zero]); omega)

section
variable {l : List PU} {x : P3} {s : Int}
theorem tick_loop : ∀ (k : List (Int × Int × Int)) (i n : Nat) (v1 v2 : Int), (F50_L l x s).drop i = k → i ≤ (F50_L l x s).length → k.length < n →
    v2 ≤ (loopF (S23_L_0 l x s) n (v1, v2, (i : Int))).2.1 ∧ ∀ a ∈ k, a.2.1 ≤ (loopF (S23_L_0 l x s) n (v1, v2, (i : Int))).2.1
  | [], i, n, v1, v2, hd, hi, hn => by
    have : i = (F50_L l x s).length := by have := List.drop_eq_nil_iff.1 hd; omega
    obtain ⟨n, rfl⟩ : ∃ m, n = m + 1 := ⟨n - 1, by simp only [List.length_nil] at hn; omega⟩
    subst this
    have e : S23_L_0 l x s (v1, v2, (((F50_L l x s).length : Nat) : Int)) = .inr (v1, v2, 0) := by
      simp only [S23_L_0]; rw [decide_eq_false (Int.lt_irrefl _), cond_false]
    rw [loopF_inr e]; simp
  | c :: k, i, n, v1, v2, hd, hi, hn => by
    have hc : (F50_L l x s)[i]? = some c := by
      have : ((F50_L l x s).drop i)[0]? = some c := by rw [hd]; rfl
      simpa using this
    obtain ⟨hg, hlt⟩ := getD_some hc
    obtain ⟨n, rfl⟩ : ∃ m, n = m + 1 := ⟨n - 1, by omega⟩
    have e : S23_L_0 l x s (v1, v2, (i : Int)) = .inl ((if (c.1 : Int) < v1 then c.1 else v1), (if (v2 : Int) < c.2.1 then c.2.1 else v2), ((i + 1 : Nat) : Int)) := by
      simp only [S23_L_0]
      rw [decide_eq_true (show ((i : Nat) : Int) < ((F50_L l x s).length : Nat) by omega), cond_true, Int.toNat_natCast, hg]; rfl
    have ih := tick_loop k (i + 1) n (if (c.1 : Int) < v1 then c.1 else v1) (if (v2 : Int) < c.2.1 then c.2.1 else v2) (by rw [← List.drop_drop, hd]; rfl) (by omega) (by simp only [List.length_cons] at hn; omega)
    rw [loopF_inl e]
    have h1 : v2 ≤ (if (v2 : Int) < c.2.1 then c.2.1 else v2) ∧ c.2.1 ≤ (if (v2 : Int) < c.2.1 then c.2.1 else v2) := by split <;> omega
    refine ⟨Int.le_trans h1.1 ih.1, fun a ha => ?_⟩
    rcases List.mem_cons.1 ha with rfl | ha
    · exact Int.le_trans h1.2 ih.1
    · exact ih.2 a ha
open Classical in
theorem Ticks_last (h : (F23_L l x s).2.2 = 0) : bd 256 x ∧ (1 ≤ s ∧ s ≤ 16) ∧ ∀ p ∈ l, F63 p x s ≤ (F23_L l x s).2.1 := by
  have key : ∀ (n : Nat) (v1 v2 : Int), (F50_L l x s).length < n → ∀ p ∈ l, F63 p x s ≤ (loopF (S23_L_0 l x s) n (v1, v2, 0)).2.1 := fun n v1 v2 hn p hp => by
    have hm : F63 p x s ∈ (F50_L l x s).map (fun a => a.2.1) := by rw [arr_last]; exact List.mem_map.2 ⟨p, hp, rfl⟩
    obtain ⟨a, ha, e⟩ := List.mem_map.1 hm
    rw [← e]
    exact (tick_loop (l := l) (x := x) (s := s) (F50_L l x s) 0 n v1 v2 rfl (Nat.zero_le _) hn).2 a ha
  unfold F23_L at h ⊢
  rw [isP_f, isS_f] at *
  by_cases h1 : bd 256 x
  · by_cases h2 : 1 ≤ s ∧ s ≤ 16
    · refine ⟨h1, h2, ?_⟩
      rw [decide_eq_true h1, cond_true] at h ⊢
      cases e1 : ((F41_L l (decide (1 ≤ s ∧ s ≤ 16)) : Int) != 0) with
      | true => rw [e1, cond_true] at h; exact absurd h (bne_iff_ne.1 e1)
      | false =>
        rw [e1, cond_false] at h
        cases e2 : ((((F50_L l x s).length : Nat) : Int) == 0) with
        | true => rw [e2, cond_true] at h; exact absurd h (by decide)
        | false =>
          simp only [cond_false]
          exact key _ _ _ (by omega)
    · rw [decide_eq_true h1, cond_true, decide_eq_false h2, chkL_f] at h
      exfalso
      by_cases h3 : vpL l = 0
      · rw [if_pos h3] at h; simp at h
      · rw [if_neg h3, bne_iff_ne.2 h3] at h; exact h3 h
  · rw [decide_eq_false h1, cond_false, chkL_f] at h
    exfalso
    by_cases h3 : vpL l = 0
    · rw [if_pos h3] at h; simp at h
    · rw [if_neg h3, bne_iff_ne.2 h3] at h; exact h3 h
/-- what travel returns is far enough -/
theorem trav_ge {n : Int} (hq : n ≤ 1000000) (hs : 1 ≤ s ∧ s ≤ 1000) : 0 ≤ F53 n s ∧ F53 n s ≤ 1000 ∧ n ≤ s * F53 n s * (s * F53 n s) := by
  have key : ∀ (f : Nat) (t : Int), 0 ≤ t ∧ t ≤ 1000 → Int.toNat (1000 - t) < f → 0 ≤ loopF (S53_0 n s) f t ∧ loopF (S53_0 n s) f t ≤ 1000 ∧ n ≤ s * loopF (S53_0 n s) f t * (s * loopF (S53_0 n s) f t) := by
    intro f
    induction f with
    | zero => intro t _ h; exact absurd h (Nat.not_lt_zero _)
    | succ f ih =>
      intro t ht h
      cases e : S53_0 n s t with
      | inl u =>
        have h1 := trav_next hq hs ht e
        rw [loopF_inl e]
        exact ih u (by omega) (by omega)
      | inr r =>
        rw [loopF_inr e]
        simp only [S53_0] at e
        rw [trav_sq hs ht] at e
        by_cases h1 : s * t * (s * t) < n
        · rw [decide_eq_true h1] at e; cases e
        · rw [decide_eq_false h1] at e; cases e; exact ⟨ht.1, ht.2, by omega⟩
  exact key _ 0 (by omega) (by omega)
end

end Go.Proofs.Ytidhogejnafhaaa
