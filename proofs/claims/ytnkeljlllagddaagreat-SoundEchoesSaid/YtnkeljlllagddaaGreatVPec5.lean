/-
  Parts of the proofs of the laws: the executor, what functions of the program compute, and that it is what the statements ask. No premise.
-/
import Derived.Test.YtnkeljlllagddaaGreatVPec4
namespace Go.Proofs.YtnkeljlllagddaaGreat
open Go.Proofs Go.Aw Go.RowKit
set_option maxRecDepth 100000
set_option linter.unusedVariables false
set_option linter.unusedSimpArgs false

/-! ### Images behind a wall -/
def bz (p : PU) : Prop := p.1.1.2.2 < 0 ∨ p.1.2.1.2.2 < 0 ∨ p.1.2.2.2.2 < 0
instance (p : PU) : Decidable (bz p) := by unfold bz; exact inferInstance
def gz (p : PU) : Int := if bz p then 1 else 0
theorem neg_f (p : PU) : F118 p = decide (bz p) := by
  unfold F118 bz
  apply decide_eq_decide.2
  (repeat' split) <;> omega
theorem idx_f (l : List PU) : ∀ (k : List PU) (i n : Nat), l.drop i = k → i ≤ l.length → k.length < n → (0 ≤ loopF (S191_L_f118_0 l) n (i : Int) ↔ fe gz k ≠ 0)
  | [], i, n, hd, hi', hn => by
    have : i = l.length := by have := List.drop_eq_nil_iff.1 hd; omega
    obtain ⟨n, rfl⟩ : ∃ m, n = m + 1 := ⟨n - 1, by simp only [List.length_nil] at hn; omega⟩
    subst this
    have e : S191_L_f118_0 l (l.length : Int) = .inr (-1) := by
      simp only [S191_L_f118_0]
      rw [decide_eq_false (Int.lt_irrefl _), cond_false]
    rw [loopF_inr e]; simp [fe]
  | c :: k, i, n, hd, hi', hn => by
    have hc : l[i]? = some c := by
      have : (l.drop i)[0]? = some c := by rw [hd]; rfl
      simpa using this
    obtain ⟨hg, hlt⟩ := getD_some hc
    obtain ⟨n, rfl⟩ : ∃ m, n = m + 1 := ⟨n - 1, by omega⟩
    have e : S191_L_f118_0 l (i : Int) = if bz c then .inr (i : Int) else .inl ((i + 1 : Nat) : Int) := by
      simp only [S191_L_f118_0]
      rw [decide_eq_true (show ((i : Nat) : Int) < (l.length : Nat) by omega), cond_true, Int.toNat_natCast, hg, neg_f]
      by_cases h : bz c <;> simp [h]
    unfold fe gz
    by_cases h : bz c
    · rw [if_pos h] at e
      rw [loopF_inr e, if_pos h]; simp
    · rw [if_neg h] at e
      rw [loopF_inl e, if_neg h, if_pos rfl]
      exact idx_f l k (i + 1) n (by rw [← List.drop_drop, hd]; rfl) (by omega) (by simp only [List.length_cons] at hn; omega)
theorem con_f (l : List PU) : F117_L_f118 l = decide (fe gz l ≠ 0) := by
  unfold F117_L_f118 F191_L_f118
  exact decide_eq_decide.2 (idx_f l l 0 _ rfl (Nat.zero_le _) (by omega))
def im (soft : Bool) (p : PU) : PU := ((F120 p.1.1, F120 p.1.2.1, F120 p.1.2.2), p.2.1, bif soft then W (0 - p.2.2) else p.2.2)
noncomputable def imV (l : List PU) (soft : Bool) : List PU × Int :=
  if vpL l = 0 then (if fe gz l = 0 then (if 16 < 2 * l.length then ([], 4) else (l ++ l.map (im soft), 0)) else ([], 1)) else ([], vpL l)
theorem shs_all {α β : Type} {f : α → β} : ∀ (k : List α) (l : List β), shs (fun c => (f c, 0)) k l = .inl (l ++ k.map f)
  | [], l => by simp [shs]
  | c :: k, l => by
    unfold shs
    rw [if_pos rfl, shs_all k]; simp
theorem Images_f (l : List PU) (soft : Bool) : F51_L l soft = imV l soft := by
  unfold F51_L imV
  rw [chkL_f, con_f]
  by_cases h : vpL l = 0
  · have h16 := (vpL_ok h).1
    rw [if_pos h, if_pos h, W_eq (n := 2 * ((l.length : Nat) : Int)) (by omega) (by omega)]
    by_cases h1 : fe gz l = 0
    · rw [if_pos h1, decide_eq_false (show ¬ fe gz l ≠ 0 from fun h => h h1), if_pos (show (!false) = true from rfl)]
      by_cases h2 : 16 < 2 * l.length
      · rw [if_pos h2, decide_eq_true (show 2 * ((l.length : Nat) : Int) > 16 by omega)]; rfl
      · rw [if_neg h2, decide_eq_false (show ¬ 2 * ((l.length : Nat) : Int) > 16 by omega)]
        have key := shs_loopF (g := fun p => (im soft p, 0)) (S := S51_L_0 l soft) (L := l) (G := fun m => (m, (0 : Int))) (E := fun e => (([] : List PU), e)) (fun i c hi m => ?_) (fun m => ?_) l 0 (Int.toNat (((l.length : Nat) : Int) - 0) + 1) l rfl (Nat.zero_le _) (by omega)
        · rw [shs_all] at key
          exact key
        · obtain ⟨hg, hlt⟩ := getD_some hi
          simp only [S51_L_0]
          rw [decide_eq_true (show ((i : Nat) : Int) < (l.length : Nat) by omega), cond_true, Int.toNat_natCast, hg]
          cases soft <;> rfl
        · simp only [S51_L_0]
          rw [decide_eq_false (Int.lt_irrefl _), cond_false]
    · rw [if_neg h1, decide_eq_true (show fe gz l ≠ 0 from h1)]; rfl
  · rw [if_neg h, if_neg h, bne_iff_ne.2 h]; rfl
theorem Images_r (l : List PU) (soft : Bool) : F57_L l soft = imV l soft := by
  unfold F57_L imV
  rw [vpl_r]
  by_cases h : vpL l = 0
  · have h16 := (vpL_ok h).1
    rw [if_pos h, h]
    have key := fe_loopF (g := gz) (S := S57_L_0 l soft) (L := l) (E := fun _ => (([] : List PU), (1 : Int)))
      (G := bif (decide (((W (2 * ((l.length : Nat) : Int))) : Int) > 16)) then ([], 4) else loopF (S57_L_1 l soft) (Int.toNat (((l.length : Nat) : Int) - 0) + 1) (([] : List PU) ++ l, 0))
      (fun i c hi => ?_) ?_ l 0 (Int.toNat (((l.length : Nat) : Int) - 0) + 1) rfl (Nat.zero_le _) (by omega)
    · refine Eq.trans key ?_
      by_cases h1 : fe gz l = 0
      · rw [if_pos h1, if_pos h1, W_eq (n := 2 * ((l.length : Nat) : Int)) (by omega) (by omega)]
        by_cases h2 : 16 < 2 * l.length
        · rw [if_pos h2, decide_eq_true (show 2 * ((l.length : Nat) : Int) > 16 by omega)]; rfl
        · rw [if_neg h2, decide_eq_false (show ¬ 2 * ((l.length : Nat) : Int) > 16 by omega), cond_false]
          have key := shs_loopF (g := fun p => (im soft p, 0)) (S := S57_L_1 l soft) (L := l) (G := fun m => (m, (0 : Int))) (E := fun e => (([] : List PU), e)) (fun i c hi m => ?_) (fun m => ?_) l 0 (Int.toNat (((l.length : Nat) : Int) - 0) + 1) ([] ++ l) rfl (Nat.zero_le _) (by omega)
          · rw [shs_all] at key
            exact key
          · obtain ⟨hg, hlt⟩ := getD_some hi
            simp only [S57_L_1]
            rw [decide_eq_true (show ((i : Nat) : Int) < (l.length : Nat) by omega), cond_true, Int.toNat_natCast, hg]
            cases soft <;> rfl
          · simp only [S57_L_1]
            rw [decide_eq_false (Int.lt_irrefl _), cond_false]
      · rw [if_neg h1, if_neg h1]
    · obtain ⟨hg, hlt⟩ := getD_some hi
      simp only [S57_L_0]
      rw [decide_eq_true (show ((i : Nat) : Int) < (l.length : Nat) by omega), cond_true, Int.toNat_natCast, hg]
      unfold gz bz
      by_cases h1 : c.1.1.2.2 < 0
      · simp [h1]
      · by_cases h2 : c.1.2.1.2.2 < 0
        · simp [h1, h2]
        · by_cases h3 : c.1.2.2.2.2 < 0 <;> simp [h1, h2, h3]
    · simp only [S57_L_0]
      rw [decide_eq_false (Int.lt_irrefl _), cond_false]
      cases decide (((W (2 * ((l.length : Nat) : Int))) : Int) > 16) <;> rfl
  · rw [if_neg h, bne_iff_ne.2 h]; rfl
theorem imV_len (l : List PU) (soft : Bool) : (imV l soft).1.length ≤ 32 := by
  unfold imV
  split
  · split
    · split
      · simp
      · simp only [List.length_append, List.length_map]; omega
    · simp
  · simp
theorem imf_len (l : List PU) (soft : Bool) : (F51_L l soft).1.length ≤ 32 := by rw [Images_f]; exact imV_len l soft
theorem imr_len (l : List PU) (soft : Bool) : (F57_L l soft).1.length ≤ 32 := by rw [Images_r]; exact imV_len l soft

end Go.Proofs.YtnkeljlllagddaaGreat

namespace Go.Proofs.YtnkeljlllagddaaGreat
open Go.Proofs Go.Aw Go.RowKit
set_option maxRecDepth 100000
set_option linter.unusedVariables false
set_option linter.unusedSimpArgs false

theorem vpL_get {l : List PU} (h : vpL l = 0) {i : Nat} (hi : i < l.length) : POK (l.getD i default) := by
  have : l.getD i default = l[i] := by rw [List.getD_eq_getElem?_getD, List.getElem?_eq_getElem hi]; rfl
  rw [this]
  exact (vpL_ok h).2 _ (List.getElem_mem hi)
/-- facet/sound.scene$1 -/
def F122 (a0 : ((Int × Int × Int) × (Int × Int × Int) × Int × Int × Int) × Int × Int) (a1 : Int × Int × Int) (a2 : Int) (a3 : Int) (a4 : Int) : (Int × Int) × Int :=
  ((F116 a0 a1 a2 a3 a4).1, (F116 a0 a1 a2 a3 a4).2)

theorem C122 (a0 : ((Int × Int × Int) × (Int × Int × Int) × Int × Int × Int) × Int × Int) (a1 : Int × Int × Int) (a2 : Int) (a3 : Int) (a4 : Int) (hp : POK a0) (hx : bd 256 a1) (hs : 1 ≤ a2 ∧ a2 ≤ 16) (ht : 0 ≤ a3 ∧ a3 ≤ 2000) (hd : 0 ≤ a4 ∧ a4 ≤ 3) : Con Tryz.prog 122 [(.a [(iv a0.1.1.1), (iv a0.1.1.2.1), (iv a0.1.1.2.2), (iv a0.1.2.1.1), (iv a0.1.2.1.2.1), (iv a0.1.2.1.2.2), (iv a0.1.2.2.1), (iv a0.1.2.2.2.1), (iv a0.1.2.2.2.2), (iv a0.2.1), (iv a0.2.2)]), (.p 0 0), (.p 1 0), (.p 2 0), (.p 3 0)] [(.live false false (k3 a1)), (.live false false [(iv a2)]), (.live false false [(iv a3)]), (.live false false [(iv a4)])] (.t [(.a (k2 (F122 a0 a1 a2 a3 a4).1)), (iv (F122 a0 a1 a2 a3 a4).2)]) [] := by
  have e : (F122 a0 a1 a2 a3 a4) = ((F116 a0 a1 a2 a3 a4).1, (F116 a0 a1 a2 a3 a4).2) := by simp only [F122]
  rw [e]
  refine con_of (n := 9) Tryz.func122 rfl (ent Tryz.func122 (by kernel_rfl) rfl) (by show 5 ≤ Tryz.f122.ntmps; decide) (by kernel_rfl) ⟨rfl, rfl, rfl, rfl, trivial⟩ (fun cx hcx => ?_)
  exact ret_of (T := T0) hT hm (f := 5000) (orc := [.call [] (.t [(.a (k2 (F116 a0 a1 a2 a3 a4).1)), (iv (F116 a0 a1 a2 a3 a4).2)]) []]) [] [] [] hcx
    (obs := [.call 116 [(.a [(iv a0.1.1.1), (iv a0.1.1.2.1), (iv a0.1.1.2.2), (iv a0.1.2.1.1), (iv a0.1.2.1.2.1), (iv a0.1.2.1.2.2), (iv a0.1.2.2.1), (iv a0.1.2.2.2.1), (iv a0.1.2.2.2.2), (iv a0.2.1), (iv a0.2.2)]), (.a (k3 a1)), (iv a2), (iv a3), (iv a4)] [] (.t [(.a (k2 (F116 a0 a1 a2 a3 a4).1)), (iv (F116 a0 a1 a2 a3 a4).2)]) []]) (by kernel_rfl) ⟨(C116 a0 a1 a2 a3 a4  hp hx hs ht hd), trivial⟩

noncomputable def B62_L_c122_0 : Code := (loopAtD [1, 1, 0, 1] [] (Tryz.f62.body.getD .skip) []).1
noncomputable def K62_L_c122_0 : List K := (loopAtD [1, 1, 0, 1] [] (Tryz.f62.body.getD .skip) []).2

/-- a round of loop 0 of facet/sound.sum; the variables: v2 = s6, v3 = s13 -/
def S62_L_c122_0 (a0 : List (((Int × Int × Int) × (Int × Int × Int) × Int × Int × Int) × Int × Int)) (a1_0 : Int × Int × Int) (a1_1 : Int) (a1_2 : Int) (a1_3 : Int) : (List (Int × Int)) × Int → ((List (Int × Int)) × Int) ⊕ ((Int × Int) × Int)
  | (v2, v3) =>
   (bif (decide ((v3 : Int) < ((a0.length : Nat) : Int))) then
    (bif (((F122 (a0.getD (Int.toNat v3) default) a1_0 a1_1 a1_2 a1_3).2 : Int) != 0) then
     (.inr ((0, 0), (F122 (a0.getD (Int.toNat v3) default) a1_0 a1_1 a1_2 a1_3).2))
    else
     (.inl ((v2 ++ [(F122 (a0.getD (Int.toNat v3) default) a1_0 a1_1 a1_2 a1_3).1]), (v3 + 1))))
   else
    (.inr ((F73_L v2).1, (F73_L v2).2)))

set_option maxHeartbeats 4000000 in
theorem L62_L_c122_0 (a0 : List (((Int × Int × Int) × (Int × Int × Int) × Int × Int × Int) × Int × Int)) (a1_0 : Int × Int × Int) (a1_1 : Int) (a1_2 : Int) (a1_3 : Int) (l0 : a0.length ≤ 9223372036854775807) (hv : vpL a0 = 0) (hx : bd 256 a1_0) (hs : 1 ≤ a1_1 ∧ a1_1 ≤ 16) (ht : 0 ≤ a1_2 ∧ a1_2 ≤ 2000) (hd : 0 ≤ a1_3 ∧ a1_3 ≤ 3) {cx : Cx} (hcx : cx.base = 5) : ∀ (n : Nat) (v2 : List (Int × Int)) (v3 : Int), (0 ≤ v3) ∧ (v2.length = Int.toNat v3) ∧ (v3 ≤ a0.length) → Int.toNat (((a0.length : Nat) : Int) - v3) < n → Aw.Good Tryz.prog none 9 (bodyPost Tryz.prog Tryz.f62 (RR cx (.t [(.a (k2 (loopF (S62_L_c122_0 a0 a1_0 a1_1 a1_2 a1_3) n (v2, v3)).1)), (iv (loopF (S62_L_c122_0 a0 a1_0 a1_1 a1_2 a1_3) n (v2, v3)).2)]) [] [])) cx [] (.l B62_L_c122_0 n :: K62_L_c122_0) ⟨[.u, (.f 122 [(.p 1 0), (.p 2 0), (.p 3 0), (.p 4 0)]), .u, .u, (.p 5 0), .u, (.s 6 0 v2.length 2), .u, .u, .u, .u, (.s 0 0 a0.length 11), (iv ((a0.length : Nat) : Int)), (iv v3), .u, .u, .u, .u, .u, .u, .u, .u, .u, .u, .u, .u, .u, .u, .u, .u, .u, .u, .u, .u, .u, .u], [(.live false true (flat c67 a0)), (.live false false (k3 a1_0)), (.live false false [(iv a1_1)]), (.live false false [(iv a1_2)]), (.live false false [(iv a1_3)]), (.live true false [(iv 0), (iv 0)]), (.live true true (flat c29 v2))]⟩ := by
  intro n
  induction n with
  | zero => intro v2 v3 hi hn; exact absurd hn (Nat.not_lt_zero _)
  | succ n ih =>
    intro v2 v3 hi hn
    refine good_round ?_
    cases h0 : (decide ((v3 : Int) < ((a0.length : Nat) : Int))) with
    | true =>
      cases h1 : (((F122 (a0.getD (Int.toNat v3) default) a1_0 a1_1 a1_2 a1_3).2 : Int) != 0) with
      | true =>
        have q0 := of_decide_eq_true h0
        have q1 := bne_iff_ne.1 h1
        have hl16 := (vpL_ok hv).1
        have e : S62_L_c122_0 a0 a1_0 a1_1 a1_2 a1_3 (v2, v3) = (.inr ((0, 0), (F122 (a0.getD (Int.toNat v3) default) a1_0 a1_1 a1_2 a1_3).2)) := by simp only [S62_L_c122_0, h0, h1, cond_true, cond_false]
        rw [show loopF (S62_L_c122_0 a0 a1_0 a1_1 a1_2 a1_3) (n + 1) (v2, v3) = thenF (S62_L_c122_0 a0 a1_0 a1_1 a1_2 a1_3) n (S62_L_c122_0 a0 a1_0 a1_1 a1_2 a1_3 (v2, v3)) from rfl, e]
        exact ret_of (T := T0) hT hm (f := 5000) (orc := [.d true, .ld [(iv (a0.getD (Int.toNat v3) default).1.1.1), (iv (a0.getD (Int.toNat v3) default).1.1.2.1), (iv (a0.getD (Int.toNat v3) default).1.1.2.2), (iv (a0.getD (Int.toNat v3) default).1.2.1.1), (iv (a0.getD (Int.toNat v3) default).1.2.1.2.1), (iv (a0.getD (Int.toNat v3) default).1.2.1.2.2), (iv (a0.getD (Int.toNat v3) default).1.2.2.1), (iv (a0.getD (Int.toNat v3) default).1.2.2.2.1), (iv (a0.getD (Int.toNat v3) default).1.2.2.2.2), (iv (a0.getD (Int.toNat v3) default).2.1), (iv (a0.getD (Int.toNat v3) default).2.2)], .call [1, 2, 3, 4] (.t [(.a (k2 (F122 (a0.getD (Int.toNat v3) default) a1_0 a1_1 a1_2 a1_3).1)), (iv (F122 (a0.getD (Int.toNat v3) default) a1_0 a1_1 a1_2 a1_3).2)]) [], .d true]) [] [] [] hcx
          (obs := [.eq (decide ((v3 : Int) < ((a0.length : Nat) : Int))) true, .pr (0 ≤ (v3 : Int) ∧ (v3 : Int) < ((a0.length : Nat) : Int)), .pr (((((flat c67 a0)).drop (0 + Int.toNat v3 * 11)).take 11) = [(iv (a0.getD (Int.toNat v3) default).1.1.1), (iv (a0.getD (Int.toNat v3) default).1.1.2.1), (iv (a0.getD (Int.toNat v3) default).1.1.2.2), (iv (a0.getD (Int.toNat v3) default).1.2.1.1), (iv (a0.getD (Int.toNat v3) default).1.2.1.2.1), (iv (a0.getD (Int.toNat v3) default).1.2.1.2.2), (iv (a0.getD (Int.toNat v3) default).1.2.2.1), (iv (a0.getD (Int.toNat v3) default).1.2.2.2.1), (iv (a0.getD (Int.toNat v3) default).1.2.2.2.2), (iv (a0.getD (Int.toNat v3) default).2.1), (iv (a0.getD (Int.toNat v3) default).2.2)]), .call 122 [(.a [(iv (a0.getD (Int.toNat v3) default).1.1.1), (iv (a0.getD (Int.toNat v3) default).1.1.2.1), (iv (a0.getD (Int.toNat v3) default).1.1.2.2), (iv (a0.getD (Int.toNat v3) default).1.2.1.1), (iv (a0.getD (Int.toNat v3) default).1.2.1.2.1), (iv (a0.getD (Int.toNat v3) default).1.2.1.2.2), (iv (a0.getD (Int.toNat v3) default).1.2.2.1), (iv (a0.getD (Int.toNat v3) default).1.2.2.2.1), (iv (a0.getD (Int.toNat v3) default).1.2.2.2.2), (iv (a0.getD (Int.toNat v3) default).2.1), (iv (a0.getD (Int.toNat v3) default).2.2)]), (.p 0 0), (.p 1 0), (.p 2 0), (.p 3 0)] [(.live false false (k3 a1_0)), (.live false false [(iv a1_1)]), (.live false false [(iv a1_2)]), (.live false false [(iv a1_3)])] (.t [(.a (k2 (F122 (a0.getD (Int.toNat v3) default) a1_0 a1_1 a1_2 a1_3).1)), (iv (F122 (a0.getD (Int.toNat v3) default) a1_0 a1_1 a1_2 a1_3).2)]) [], .eq (((F122 (a0.getD (Int.toNat v3) default) a1_0 a1_1 a1_2 a1_3).2 : Int) != 0) true]) (by kernel_rfl) ⟨h0, (show 0 ≤ (v3 : Int) ∧ (v3 : Int) < ((a0.length : Nat) : Int) from by first | omega | (rw [W_eq] <;> omega) | exact u64_nn _), (ld_part c67_len default a0 v3 0 11 (by omega) (by decide) (by omega) rfl), (C122 (a0.getD (Int.toNat v3) default) a1_0 a1_1 a1_2 a1_3  (vpL_get hv (by omega)) hx hs ht hd), h1, trivial⟩
      | false =>
        have q0 := of_decide_eq_true h0
        have q1 := bne_eq_false_iff_eq.1 h1
        have hl16 := (vpL_ok hv).1
        have e : S62_L_c122_0 a0 a1_0 a1_1 a1_2 a1_3 (v2, v3) = (.inl ((v2 ++ [(F122 (a0.getD (Int.toNat v3) default) a1_0 a1_1 a1_2 a1_3).1]), (v3 + 1))) := by simp only [S62_L_c122_0, h0, h1, cond_true, cond_false]
        rw [loopF_inl e]
        refine back_of (T := T0) hT hm (f := 5000) (orc := [.d true, .ld [(iv (a0.getD (Int.toNat v3) default).1.1.1), (iv (a0.getD (Int.toNat v3) default).1.1.2.1), (iv (a0.getD (Int.toNat v3) default).1.1.2.2), (iv (a0.getD (Int.toNat v3) default).1.2.1.1), (iv (a0.getD (Int.toNat v3) default).1.2.1.2.1), (iv (a0.getD (Int.toNat v3) default).1.2.1.2.2), (iv (a0.getD (Int.toNat v3) default).1.2.2.1), (iv (a0.getD (Int.toNat v3) default).1.2.2.2.1), (iv (a0.getD (Int.toNat v3) default).1.2.2.2.2), (iv (a0.getD (Int.toNat v3) default).2.1), (iv (a0.getD (Int.toNat v3) default).2.2)], .call [1, 2, 3, 4] (.t [(.a (k2 (F122 (a0.getD (Int.toNat v3) default) a1_0 a1_1 a1_2 a1_3).1)), (iv (F122 (a0.getD (Int.toNat v3) default) a1_0 a1_1 a1_2 a1_3).2)]) [], .d false]) [] [1, 4, 6, 11, 12, 13] [5, 10] hcx (body := B62_L_c122_0) (m := n) (k' := K62_L_c122_0) (s' := ⟨[.u, (.f 122 [(.p 1 0), (.p 2 0), (.p 3 0), (.p 4 0)]), .u, .u, (.p 5 0), .u, (.s 6 0 (v2.length + 1) 2), .u, .u, .u, .u, (.s 0 0 a0.length 11), (iv ((a0.length : Nat) : Int)), (iv (W (v3 + 1))), .u, .u, .u, .u, .u, .u, .u, .u, .u, .u, .u, .u, .u, .u, .u, .u, .u, .u, .u, .u, .u, .u], [(.live false true (flat c67 a0)), (.live false false (k3 a1_0)), (.live false false [(iv a1_1)]), (.live false false [(iv a1_2)]), (.live false false [(iv a1_3)]), (.live true false [(iv 0), (iv 0)]), (.live true true (flat c29 v2 ++ (k2 (F122 (a0.getD (Int.toNat v3) default) a1_0 a1_1 a1_2 a1_3).1)))]⟩)
          (obs := [.eq (decide ((v3 : Int) < ((a0.length : Nat) : Int))) true, .pr (0 ≤ (v3 : Int) ∧ (v3 : Int) < ((a0.length : Nat) : Int)), .pr (((((flat c67 a0)).drop (0 + Int.toNat v3 * 11)).take 11) = [(iv (a0.getD (Int.toNat v3) default).1.1.1), (iv (a0.getD (Int.toNat v3) default).1.1.2.1), (iv (a0.getD (Int.toNat v3) default).1.1.2.2), (iv (a0.getD (Int.toNat v3) default).1.2.1.1), (iv (a0.getD (Int.toNat v3) default).1.2.1.2.1), (iv (a0.getD (Int.toNat v3) default).1.2.1.2.2), (iv (a0.getD (Int.toNat v3) default).1.2.2.1), (iv (a0.getD (Int.toNat v3) default).1.2.2.2.1), (iv (a0.getD (Int.toNat v3) default).1.2.2.2.2), (iv (a0.getD (Int.toNat v3) default).2.1), (iv (a0.getD (Int.toNat v3) default).2.2)]), .call 122 [(.a [(iv (a0.getD (Int.toNat v3) default).1.1.1), (iv (a0.getD (Int.toNat v3) default).1.1.2.1), (iv (a0.getD (Int.toNat v3) default).1.1.2.2), (iv (a0.getD (Int.toNat v3) default).1.2.1.1), (iv (a0.getD (Int.toNat v3) default).1.2.1.2.1), (iv (a0.getD (Int.toNat v3) default).1.2.1.2.2), (iv (a0.getD (Int.toNat v3) default).1.2.2.1), (iv (a0.getD (Int.toNat v3) default).1.2.2.2.1), (iv (a0.getD (Int.toNat v3) default).1.2.2.2.2), (iv (a0.getD (Int.toNat v3) default).2.1), (iv (a0.getD (Int.toNat v3) default).2.2)]), (.p 0 0), (.p 1 0), (.p 2 0), (.p 3 0)] [(.live false false (k3 a1_0)), (.live false false [(iv a1_1)]), (.live false false [(iv a1_2)]), (.live false false [(iv a1_3)])] (.t [(.a (k2 (F122 (a0.getD (Int.toNat v3) default) a1_0 a1_1 a1_2 a1_3).1)), (iv (F122 (a0.getD (Int.toNat v3) default) a1_0 a1_1 a1_2 a1_3).2)]) [], .eq (((F122 (a0.getD (Int.toNat v3) default) a1_0 a1_1 a1_2 a1_3).2 : Int) != 0) false, .pr ((flat c29 v2).length = v2.length * 2 ∧ v2.length + 1 ≤ 2 ^ 40 ∧ (v2.length + 1) * 16 ≤ 2 ^ 47)]) (by kernel_rfl) ⟨h0, (show 0 ≤ (v3 : Int) ∧ (v3 : Int) < ((a0.length : Nat) : Int) from by first | omega | (rw [W_eq] <;> omega) | exact u64_nn _), (ld_part c67_len default a0 v3 0 11 (by omega) (by decide) (by omega) rfl), (C122 (a0.getD (Int.toNat v3) default) a1_0 a1_1 a1_2 a1_3  (vpL_get hv (by omega)) hx hs ht hd), h1, (app_ok c29_len (by omega) (by omega)), trivial⟩ ?_
        have z0 : (W (v3 + 1)) = (v3 + 1) := W_eq (by omega) (by omega)
        have z1 : (flat c29 v2 ++ (k2 (F122 (a0.getD (Int.toNat v3) default) a1_0 a1_1 a1_2 a1_3).1)) = (flat c29 (v2 ++ [(F122 (a0.getD (Int.toNat v3) default) a1_0 a1_1 a1_2 a1_3).1])) := (flat_append (c := c29) (l := v2) (m := [(F122 (a0.getD (Int.toNat v3) default) a1_0 a1_1 a1_2 a1_3).1])).symm
        have z2 : (v2.length + 1) = (v2 ++ [(F122 (a0.getD (Int.toNat v3) default) a1_0 a1_1 a1_2 a1_3).1]).length := len_app v2 [(F122 (a0.getD (Int.toNat v3) default) a1_0 a1_1 a1_2 a1_3).1] rfl
        rw [z0, z1, z2]
        exact ih (v2 ++ [(F122 (a0.getD (Int.toNat v3) default) a1_0 a1_1 a1_2 a1_3).1]) (v3 + 1) (by refine ⟨?_, ?_, ?_⟩ <;> (try simp only [List.length_append, List.length_cons, List.length_nil, Int.toNat_zero]) <;> first | omega | assumption | simp) (by (try simp only [List.length_append, List.length_cons, List.length_nil, Int.toNat_zero]); omega)
    | false =>
      have q0 := of_decide_eq_false h0
      have hl16 := (vpL_ok hv).1
      have e : S62_L_c122_0 a0 a1_0 a1_1 a1_2 a1_3 (v2, v3) = (.inr ((F73_L v2).1, (F73_L v2).2)) := by simp only [S62_L_c122_0, h0, cond_true, cond_false]
      rw [show loopF (S62_L_c122_0 a0 a1_0 a1_1 a1_2 a1_3) (n + 1) (v2, v3) = thenF (S62_L_c122_0 a0 a1_0 a1_1 a1_2 a1_3) n (S62_L_c122_0 a0 a1_0 a1_1 a1_2 a1_3 (v2, v3)) from rfl, e]
      exact ret_of (T := T0) hT hm (f := 5000) (orc := [.d false, .call [6] (.t [(.a (k2 (F73_L v2).1)), (iv (F73_L v2).2)]) []]) [] [] [] hcx
        (obs := [.eq (decide ((v3 : Int) < ((a0.length : Nat) : Int))) false, .call 73 [(.s 0 0 v2.length 2)] [(.live false true (flat c29 v2))] (.t [(.a (k2 (F73_L v2).1)), (iv (F73_L v2).2)]) []]) (by kernel_rfl) ⟨h0, (C73_L v2 (by (try simp only [List.length_append, List.length_cons, List.length_nil, Int.toNat_zero]); omega)), trivial⟩

/-- facet/sound.sum at ('L', 'c122') -/
def F62_L_c122 (a0 : List (((Int × Int × Int) × (Int × Int × Int) × Int × Int × Int) × Int × Int)) (a1_0 : Int × Int × Int) (a1_1 : Int) (a1_2 : Int) (a1_3 : Int) : (Int × Int) × Int :=
  (loopF (S62_L_c122_0 a0 a1_0 a1_1 a1_2 a1_3) (Int.toNat (((a0.length : Nat) : Int) - 0) + 1) (([] : List (Int × Int)), 0))

theorem C62_L_c122 (a0 : List (((Int × Int × Int) × (Int × Int × Int) × Int × Int × Int) × Int × Int)) (a1_0 : Int × Int × Int) (a1_1 : Int) (a1_2 : Int) (a1_3 : Int) (l0 : a0.length ≤ 9223372036854775807) (hv : vpL a0 = 0) (hx : bd 256 a1_0) (hs : 1 ≤ a1_1 ∧ a1_1 ≤ 16) (ht : 0 ≤ a1_2 ∧ a1_2 ≤ 2000) (hd : 0 ≤ a1_3 ∧ a1_3 ≤ 3) : Con Tryz.prog 62 [(.s 0 0 a0.length 11), (.f 122 [(.p 1 0), (.p 2 0), (.p 3 0), (.p 4 0)])] [(.live false true (flat c67 a0)), (.live false false (k3 a1_0)), (.live false false [(iv a1_1)]), (.live false false [(iv a1_2)]), (.live false false [(iv a1_3)])] (.t [(.a (k2 (F62_L_c122 a0 a1_0 a1_1 a1_2 a1_3).1)), (iv (F62_L_c122 a0 a1_0 a1_1 a1_2 a1_3).2)]) [] := by
  have e : (F62_L_c122 a0 a1_0 a1_1 a1_2 a1_3) = (loopF (S62_L_c122_0 a0 a1_0 a1_1 a1_2 a1_3) (Int.toNat (((a0.length : Nat) : Int) - 0) + 1) (([] : List (Int × Int)), 0)) := by simp only [F62_L_c122]
  rw [e]
  refine con_of (n := 9) Tryz.func62 rfl (ent Tryz.func62 (by kernel_rfl) rfl) (by show 2 ≤ Tryz.f62.ntmps; decide) (by kernel_rfl) ⟨rfl, rfl, rfl, rfl, rfl, trivial⟩ (fun cx hcx => ?_)
  refine enter_of (T := T0) hT hm (f := 5000) (orc := []) [.slot 6 2] [1, 4, 6, 11, 12, 13] [5, 6] hcx (body := B62_L_c122_0) (k' := K62_L_c122_0) (s' := ⟨[.u, (.f 122 [(.p 1 0), (.p 2 0), (.p 3 0), (.p 4 0)]), .u, .u, (.p 5 0), .u, (.s 6 0 0 2), .u, .u, .u, .u, (.s 0 0 a0.length 11), (iv ((a0.length : Nat) : Int)), (iv 0), .u, .u, .u, .u, .u, .u, .u, .u, .u, .u, .u, .u, .u, .u, .u, .u, .u, .u, .u, .u, .u, .u], [(.live false true (flat c67 a0)), (.live false false (k3 a1_0)), (.live false false [(iv a1_1)]), (.live false false [(iv a1_2)]), (.live false false [(iv a1_3)]), (.live true false [(iv 0), (iv 0)]), (.live true true (flat c29 ([] : List (Int × Int))))]⟩)
    (obs := []) (by kernel_rfl) trivial ⟨Int.toNat (((a0.length : Nat) : Int) - 0) + 1, ?_⟩
  exact L62_L_c122_0 a0 a1_0 a1_1 a1_2 a1_3 l0 hv hx hs ht hd hcx (Int.toNat (((a0.length : Nat) : Int) - 0) + 1) ([] : List (Int × Int)) 0 (by refine ⟨?_, ?_, ?_⟩ <;> (try simp only [List.length_append, List.length_cons, List.length_nil, Int.toNat_zero]) <;> first | omega | assumption | simp) (by (try simp only [List.length_append, List.length_cons, List.length_nil, Int.toNat_zero]); omega)

/-- facet/sound.scene at ('L',) -/
def F56_L (a0 : List (((Int × Int × Int) × (Int × Int × Int) × Int × Int × Int) × Int × Int)) (a1 : Int × Int × Int) (a2 : Int) (a3 : Int) (a4 : Int) : (Int × Int) × Int :=
  ((F62_L_c122 a0 a1 a2 a3 a4).1, (F62_L_c122 a0 a1 a2 a3 a4).2)

theorem C56_L (a0 : List (((Int × Int × Int) × (Int × Int × Int) × Int × Int × Int) × Int × Int)) (a1 : Int × Int × Int) (a2 : Int) (a3 : Int) (a4 : Int) (l0 : a0.length ≤ 9223372036854775807) (hv : vpL a0 = 0) (hx : bd 256 a1) (hs : 1 ≤ a2 ∧ a2 ≤ 16) (ht : 0 ≤ a3 ∧ a3 ≤ 2000) (hd : 0 ≤ a4 ∧ a4 ≤ 3) : Con Tryz.prog 56 [(.s 0 0 a0.length 11), (.a (k3 a1)), (iv a2), (iv a3), (iv a4)] [(.live false true (flat c67 a0))] (.t [(.a (k2 (F56_L a0 a1 a2 a3 a4).1)), (iv (F56_L a0 a1 a2 a3 a4).2)]) [] := by
  have e : (F56_L a0 a1 a2 a3 a4) = ((F62_L_c122 a0 a1 a2 a3 a4).1, (F62_L_c122 a0 a1 a2 a3 a4).2) := by simp only [F56_L]
  rw [e]
  refine con_of (n := 9) Tryz.func56 rfl (ent Tryz.func56 (by kernel_rfl) rfl) (by show 5 ≤ Tryz.f56.ntmps; decide) (by kernel_rfl) ⟨rfl, trivial⟩ (fun cx hcx => ?_)
  exact ret_of (T := T0) hT hm (f := 5000) (orc := [.call [0, 1, 2, 3, 4] (.t [(.a (k2 (F62_L_c122 a0 a1 a2 a3 a4).1)), (iv (F62_L_c122 a0 a1 a2 a3 a4).2)]) []]) [] [] [] hcx
    (obs := [.call 62 [(.s 0 0 a0.length 11), (.f 122 [(.p 1 0), (.p 2 0), (.p 3 0), (.p 4 0)])] [(.live false true (flat c67 a0)), (.live false false (k3 a1)), (.live false false [(iv a2)]), (.live false false [(iv a3)]), (.live false false [(iv a4)])] (.t [(.a (k2 (F62_L_c122 a0 a1 a2 a3 a4).1)), (iv (F62_L_c122 a0 a1 a2 a3 a4).2)]) []]) (by kernel_rfl) ⟨(C62_L_c122 a0 a1 a2 a3 a4 (by (try simp only [List.length_append, List.length_cons, List.length_nil, Int.toNat_zero]); omega) hv hx hs ht hd), trivial⟩

noncomputable def B59_L_0 : Code := (loopAtD [1, 1, 0, 1] [] (Tryz.f59.body.getD .skip) []).1
noncomputable def K59_L_0 : List K := (loopAtD [1, 1, 0, 1] [] (Tryz.f59.body.getD .skip) []).2

/-- a round of loop 0 of facet/facetref08.scene; the variables: v2 = s12, v3 = s13 -/
def S59_L_0 (a0 : List (((Int × Int × Int) × (Int × Int × Int) × Int × Int × Int) × Int × Int)) (a1 : Int × Int × Int) (a2 : Int) (a3 : Int) (a4 : Int) : (List (Int × Int)) × Int → ((List (Int × Int)) × Int) ⊕ ((Int × Int) × Int)
  | (v2, v3) =>
   (bif (decide ((v3 : Int) < ((a0.length : Nat) : Int))) then
    (bif (((F125 (a0.getD (Int.toNat v3) default) a1 a2 a3 a4).2 : Int) != 0) then
     (.inr ((0, 0), (F125 (a0.getD (Int.toNat v3) default) a1 a2 a3 a4).2))
    else
     (.inl ((v2 ++ [(F125 (a0.getD (Int.toNat v3) default) a1 a2 a3 a4).1]), (v3 + 1))))
   else
    (.inr ((F68_L v2).1, (F68_L v2).2)))

set_option maxHeartbeats 4000000 in
theorem L59_L_0 (a0 : List (((Int × Int × Int) × (Int × Int × Int) × Int × Int × Int) × Int × Int)) (a1 : Int × Int × Int) (a2 : Int) (a3 : Int) (a4 : Int) (l0 : a0.length ≤ 9223372036854775807) (hv : vpL a0 = 0) (hx : bd 256 a1) (hs : 1 ≤ a2 ∧ a2 ≤ 16) (ht : 0 ≤ a3 ∧ a3 ≤ 2000) (hd : 0 ≤ a4 ∧ a4 ≤ 3) {cx : Cx} (hcx : cx.base = 1) : ∀ (n : Nat) (v2 : List (Int × Int)) (v3 : Int), (0 ≤ v3) ∧ (v2.length = Int.toNat v3) ∧ (v3 ≤ a0.length) → Int.toNat (((a0.length : Nat) : Int) - v3) < n → Aw.Good Tryz.prog none 9 (bodyPost Tryz.prog Tryz.f59 (RR cx (.t [(.a (k2 (loopF (S59_L_0 a0 a1 a2 a3 a4) n (v2, v3)).1)), (iv (loopF (S59_L_0 a0 a1 a2 a3 a4) n (v2, v3)).2)]) [] [])) cx [] (.l B59_L_0 n :: K59_L_0) ⟨[(.s 0 0 a0.length 11), .u, (iv a2), (iv a3), (iv a4), .u, (.p 1 0), .u, .u, .u, (.p 2 0), .u, (.s 3 0 v2.length 2), (iv v3), .u, .u, .u, .u, .u, .u, .u, .u, .u, .u, .u, .u, .u, .u, .u, .u, .u, .u, .u, .u, .u, .u, .u, .u, .u, .u, .u, .u, .u, .u, .u, .u], [(.live false true (flat c67 a0)), (.live true false (k3 a1)), (.live true false [(iv 0), (iv 0)]), (.live true true (flat c29 v2))]⟩ := by
  intro n
  induction n with
  | zero => intro v2 v3 hi hn; exact absurd hn (Nat.not_lt_zero _)
  | succ n ih =>
    intro v2 v3 hi hn
    refine good_round ?_
    cases h0 : (decide ((v3 : Int) < ((a0.length : Nat) : Int))) with
    | true =>
      cases h1 : (((F125 (a0.getD (Int.toNat v3) default) a1 a2 a3 a4).2 : Int) != 0) with
      | true =>
        have q0 := of_decide_eq_true h0
        have q1 := bne_iff_ne.1 h1
        have hl16 := (vpL_ok hv).1
        have e : S59_L_0 a0 a1 a2 a3 a4 (v2, v3) = (.inr ((0, 0), (F125 (a0.getD (Int.toNat v3) default) a1 a2 a3 a4).2)) := by simp only [S59_L_0, h0, h1, cond_true, cond_false]
        rw [show loopF (S59_L_0 a0 a1 a2 a3 a4) (n + 1) (v2, v3) = thenF (S59_L_0 a0 a1 a2 a3 a4) n (S59_L_0 a0 a1 a2 a3 a4 (v2, v3)) from rfl, e]
        exact ret_of (T := T0) hT hm (f := 5000) (orc := [.d true, .ld [(iv (a0.getD (Int.toNat v3) default).1.1.1), (iv (a0.getD (Int.toNat v3) default).1.1.2.1), (iv (a0.getD (Int.toNat v3) default).1.1.2.2), (iv (a0.getD (Int.toNat v3) default).1.2.1.1), (iv (a0.getD (Int.toNat v3) default).1.2.1.2.1), (iv (a0.getD (Int.toNat v3) default).1.2.1.2.2), (iv (a0.getD (Int.toNat v3) default).1.2.2.1), (iv (a0.getD (Int.toNat v3) default).1.2.2.2.1), (iv (a0.getD (Int.toNat v3) default).1.2.2.2.2), (iv (a0.getD (Int.toNat v3) default).2.1), (iv (a0.getD (Int.toNat v3) default).2.2)], .call [] (.t [(.a (k2 (F125 (a0.getD (Int.toNat v3) default) a1 a2 a3 a4).1)), (iv (F125 (a0.getD (Int.toNat v3) default) a1 a2 a3 a4).2)]) [], .d true]) [] [] [] hcx
          (obs := [.eq (decide ((v3 : Int) < ((a0.length : Nat) : Int))) true, .pr (0 ≤ (v3 : Int) ∧ (v3 : Int) < ((a0.length : Nat) : Int)), .pr (((((flat c67 a0)).drop (0 + Int.toNat v3 * 11)).take 11) = [(iv (a0.getD (Int.toNat v3) default).1.1.1), (iv (a0.getD (Int.toNat v3) default).1.1.2.1), (iv (a0.getD (Int.toNat v3) default).1.1.2.2), (iv (a0.getD (Int.toNat v3) default).1.2.1.1), (iv (a0.getD (Int.toNat v3) default).1.2.1.2.1), (iv (a0.getD (Int.toNat v3) default).1.2.1.2.2), (iv (a0.getD (Int.toNat v3) default).1.2.2.1), (iv (a0.getD (Int.toNat v3) default).1.2.2.2.1), (iv (a0.getD (Int.toNat v3) default).1.2.2.2.2), (iv (a0.getD (Int.toNat v3) default).2.1), (iv (a0.getD (Int.toNat v3) default).2.2)]), .call 125 [(.a [(iv (a0.getD (Int.toNat v3) default).1.1.1), (iv (a0.getD (Int.toNat v3) default).1.1.2.1), (iv (a0.getD (Int.toNat v3) default).1.1.2.2), (iv (a0.getD (Int.toNat v3) default).1.2.1.1), (iv (a0.getD (Int.toNat v3) default).1.2.1.2.1), (iv (a0.getD (Int.toNat v3) default).1.2.1.2.2), (iv (a0.getD (Int.toNat v3) default).1.2.2.1), (iv (a0.getD (Int.toNat v3) default).1.2.2.2.1), (iv (a0.getD (Int.toNat v3) default).1.2.2.2.2), (iv (a0.getD (Int.toNat v3) default).2.1), (iv (a0.getD (Int.toNat v3) default).2.2)]), (.a (k3 a1)), (iv a2), (iv a3), (iv a4)] [] (.t [(.a (k2 (F125 (a0.getD (Int.toNat v3) default) a1 a2 a3 a4).1)), (iv (F125 (a0.getD (Int.toNat v3) default) a1 a2 a3 a4).2)]) [], .eq (((F125 (a0.getD (Int.toNat v3) default) a1 a2 a3 a4).2 : Int) != 0) true]) (by kernel_rfl) ⟨h0, (show 0 ≤ (v3 : Int) ∧ (v3 : Int) < ((a0.length : Nat) : Int) from by first | omega | (rw [W_eq] <;> omega) | exact u64_nn _), (ld_part c67_len default a0 v3 0 11 (by omega) (by decide) (by omega) rfl), (C125 (a0.getD (Int.toNat v3) default) a1 a2 a3 a4  (vpL_get hv (by omega)) hx hs ht hd), h1, trivial⟩
      | false =>
        have q0 := of_decide_eq_true h0
        have q1 := bne_eq_false_iff_eq.1 h1
        have hl16 := (vpL_ok hv).1
        have e : S59_L_0 a0 a1 a2 a3 a4 (v2, v3) = (.inl ((v2 ++ [(F125 (a0.getD (Int.toNat v3) default) a1 a2 a3 a4).1]), (v3 + 1))) := by simp only [S59_L_0, h0, h1, cond_true, cond_false]
        rw [loopF_inl e]
        refine back_of (T := T0) hT hm (f := 5000) (orc := [.d true, .ld [(iv (a0.getD (Int.toNat v3) default).1.1.1), (iv (a0.getD (Int.toNat v3) default).1.1.2.1), (iv (a0.getD (Int.toNat v3) default).1.1.2.2), (iv (a0.getD (Int.toNat v3) default).1.2.1.1), (iv (a0.getD (Int.toNat v3) default).1.2.1.2.1), (iv (a0.getD (Int.toNat v3) default).1.2.1.2.2), (iv (a0.getD (Int.toNat v3) default).1.2.2.1), (iv (a0.getD (Int.toNat v3) default).1.2.2.2.1), (iv (a0.getD (Int.toNat v3) default).1.2.2.2.2), (iv (a0.getD (Int.toNat v3) default).2.1), (iv (a0.getD (Int.toNat v3) default).2.2)], .call [] (.t [(.a (k2 (F125 (a0.getD (Int.toNat v3) default) a1 a2 a3 a4).1)), (iv (F125 (a0.getD (Int.toNat v3) default) a1 a2 a3 a4).2)]) [], .d false]) [] [0, 2, 3, 4, 6, 10, 12, 13] [1, 2, 6] hcx (body := B59_L_0) (m := n) (k' := K59_L_0) (s' := ⟨[(.s 0 0 a0.length 11), .u, (iv a2), (iv a3), (iv a4), .u, (.p 1 0), .u, .u, .u, (.p 2 0), .u, (.s 3 0 (v2.length + 1) 2), (iv (W (v3 + 1))), .u, .u, .u, .u, .u, .u, .u, .u, .u, .u, .u, .u, .u, .u, .u, .u, .u, .u, .u, .u, .u, .u, .u, .u, .u, .u, .u, .u, .u, .u, .u, .u], [(.live false true (flat c67 a0)), (.live true false (k3 a1)), (.live true false [(iv 0), (iv 0)]), (.live true true (flat c29 v2 ++ (k2 (F125 (a0.getD (Int.toNat v3) default) a1 a2 a3 a4).1)))]⟩)
          (obs := [.eq (decide ((v3 : Int) < ((a0.length : Nat) : Int))) true, .pr (0 ≤ (v3 : Int) ∧ (v3 : Int) < ((a0.length : Nat) : Int)), .pr (((((flat c67 a0)).drop (0 + Int.toNat v3 * 11)).take 11) = [(iv (a0.getD (Int.toNat v3) default).1.1.1), (iv (a0.getD (Int.toNat v3) default).1.1.2.1), (iv (a0.getD (Int.toNat v3) default).1.1.2.2), (iv (a0.getD (Int.toNat v3) default).1.2.1.1), (iv (a0.getD (Int.toNat v3) default).1.2.1.2.1), (iv (a0.getD (Int.toNat v3) default).1.2.1.2.2), (iv (a0.getD (Int.toNat v3) default).1.2.2.1), (iv (a0.getD (Int.toNat v3) default).1.2.2.2.1), (iv (a0.getD (Int.toNat v3) default).1.2.2.2.2), (iv (a0.getD (Int.toNat v3) default).2.1), (iv (a0.getD (Int.toNat v3) default).2.2)]), .call 125 [(.a [(iv (a0.getD (Int.toNat v3) default).1.1.1), (iv (a0.getD (Int.toNat v3) default).1.1.2.1), (iv (a0.getD (Int.toNat v3) default).1.1.2.2), (iv (a0.getD (Int.toNat v3) default).1.2.1.1), (iv (a0.getD (Int.toNat v3) default).1.2.1.2.1), (iv (a0.getD (Int.toNat v3) default).1.2.1.2.2), (iv (a0.getD (Int.toNat v3) default).1.2.2.1), (iv (a0.getD (Int.toNat v3) default).1.2.2.2.1), (iv (a0.getD (Int.toNat v3) default).1.2.2.2.2), (iv (a0.getD (Int.toNat v3) default).2.1), (iv (a0.getD (Int.toNat v3) default).2.2)]), (.a (k3 a1)), (iv a2), (iv a3), (iv a4)] [] (.t [(.a (k2 (F125 (a0.getD (Int.toNat v3) default) a1 a2 a3 a4).1)), (iv (F125 (a0.getD (Int.toNat v3) default) a1 a2 a3 a4).2)]) [], .eq (((F125 (a0.getD (Int.toNat v3) default) a1 a2 a3 a4).2 : Int) != 0) false, .pr ((flat c29 v2).length = v2.length * 2 ∧ v2.length + 1 ≤ 2 ^ 40 ∧ (v2.length + 1) * 16 ≤ 2 ^ 47)]) (by kernel_rfl) ⟨h0, (show 0 ≤ (v3 : Int) ∧ (v3 : Int) < ((a0.length : Nat) : Int) from by first | omega | (rw [W_eq] <;> omega) | exact u64_nn _), (ld_part c67_len default a0 v3 0 11 (by omega) (by decide) (by omega) rfl), (C125 (a0.getD (Int.toNat v3) default) a1 a2 a3 a4  (vpL_get hv (by omega)) hx hs ht hd), h1, (app_ok c29_len (by omega) (by omega)), trivial⟩ ?_
        have z0 : (W (v3 + 1)) = (v3 + 1) := W_eq (by omega) (by omega)
        have z1 : (flat c29 v2 ++ (k2 (F125 (a0.getD (Int.toNat v3) default) a1 a2 a3 a4).1)) = (flat c29 (v2 ++ [(F125 (a0.getD (Int.toNat v3) default) a1 a2 a3 a4).1])) := (flat_append (c := c29) (l := v2) (m := [(F125 (a0.getD (Int.toNat v3) default) a1 a2 a3 a4).1])).symm
        have z2 : (v2.length + 1) = (v2 ++ [(F125 (a0.getD (Int.toNat v3) default) a1 a2 a3 a4).1]).length := len_app v2 [(F125 (a0.getD (Int.toNat v3) default) a1 a2 a3 a4).1] rfl
        rw [z0, z1, z2]
        exact ih (v2 ++ [(F125 (a0.getD (Int.toNat v3) default) a1 a2 a3 a4).1]) (v3 + 1) (by refine ⟨?_, ?_, ?_⟩ <;> (try simp only [List.length_append, List.length_cons, List.length_nil, Int.toNat_zero]) <;> first | omega | assumption | simp) (by (try simp only [List.length_append, List.length_cons, List.length_nil, Int.toNat_zero]); omega)
    | false =>
      have q0 := of_decide_eq_false h0
      have hl16 := (vpL_ok hv).1
      have e : S59_L_0 a0 a1 a2 a3 a4 (v2, v3) = (.inr ((F68_L v2).1, (F68_L v2).2)) := by simp only [S59_L_0, h0, cond_true, cond_false]
      rw [show loopF (S59_L_0 a0 a1 a2 a3 a4) (n + 1) (v2, v3) = thenF (S59_L_0 a0 a1 a2 a3 a4) n (S59_L_0 a0 a1 a2 a3 a4 (v2, v3)) from rfl, e]
      exact ret_of (T := T0) hT hm (f := 5000) (orc := [.d false, .call [3] (.t [(.a (k2 (F68_L v2).1)), (iv (F68_L v2).2)]) []]) [] [] [] hcx
        (obs := [.eq (decide ((v3 : Int) < ((a0.length : Nat) : Int))) false, .call 68 [(.s 0 0 v2.length 2)] [(.live false true (flat c29 v2))] (.t [(.a (k2 (F68_L v2).1)), (iv (F68_L v2).2)]) []]) (by kernel_rfl) ⟨h0, (C68_L v2 (by (try simp only [List.length_append, List.length_cons, List.length_nil, Int.toNat_zero]); omega)), trivial⟩

/-- facet/facetref08.scene at ('L',) -/
def F59_L (a0 : List (((Int × Int × Int) × (Int × Int × Int) × Int × Int × Int) × Int × Int)) (a1 : Int × Int × Int) (a2 : Int) (a3 : Int) (a4 : Int) : (Int × Int) × Int :=
  (loopF (S59_L_0 a0 a1 a2 a3 a4) (Int.toNat (((a0.length : Nat) : Int) - 0) + 1) (([] : List (Int × Int)), 0))

theorem C59_L (a0 : List (((Int × Int × Int) × (Int × Int × Int) × Int × Int × Int) × Int × Int)) (a1 : Int × Int × Int) (a2 : Int) (a3 : Int) (a4 : Int) (l0 : a0.length ≤ 9223372036854775807) (hv : vpL a0 = 0) (hx : bd 256 a1) (hs : 1 ≤ a2 ∧ a2 ≤ 16) (ht : 0 ≤ a3 ∧ a3 ≤ 2000) (hd : 0 ≤ a4 ∧ a4 ≤ 3) : Con Tryz.prog 59 [(.s 0 0 a0.length 11), (.a (k3 a1)), (iv a2), (iv a3), (iv a4)] [(.live false true (flat c67 a0))] (.t [(.a (k2 (F59_L a0 a1 a2 a3 a4).1)), (iv (F59_L a0 a1 a2 a3 a4).2)]) [] := by
  have e : (F59_L a0 a1 a2 a3 a4) = (loopF (S59_L_0 a0 a1 a2 a3 a4) (Int.toNat (((a0.length : Nat) : Int) - 0) + 1) (([] : List (Int × Int)), 0)) := by simp only [F59_L]
  rw [e]
  refine con_of (n := 9) Tryz.func59 rfl (ent Tryz.func59 (by kernel_rfl) rfl) (by show 5 ≤ Tryz.f59.ntmps; decide) (by kernel_rfl) ⟨rfl, trivial⟩ (fun cx hcx => ?_)
  refine enter_of (T := T0) hT hm (f := 5000) (orc := []) [.slot 12 2] [0, 2, 3, 4, 6, 10, 12, 13] [1, 2, 3] hcx (body := B59_L_0) (k' := K59_L_0) (s' := ⟨[(.s 0 0 a0.length 11), .u, (iv a2), (iv a3), (iv a4), .u, (.p 1 0), .u, .u, .u, (.p 2 0), .u, (.s 3 0 0 2), (iv 0), .u, .u, .u, .u, .u, .u, .u, .u, .u, .u, .u, .u, .u, .u, .u, .u, .u, .u, .u, .u, .u, .u, .u, .u, .u, .u, .u, .u, .u, .u, .u, .u], [(.live false true (flat c67 a0)), (.live true false (k3 a1)), (.live true false [(iv 0), (iv 0)]), (.live true true (flat c29 ([] : List (Int × Int))))]⟩)
    (obs := []) (by kernel_rfl) trivial ⟨Int.toNat (((a0.length : Nat) : Int) - 0) + 1, ?_⟩
  exact L59_L_0 a0 a1 a2 a3 a4 l0 hv hx hs ht hd hcx (Int.toNat (((a0.length : Nat) : Int) - 0) + 1) ([] : List (Int × Int)) 0 (by refine ⟨?_, ?_, ?_⟩ <;> (try simp only [List.length_append, List.length_cons, List.length_nil, Int.toNat_zero]) <;> first | omega | assumption | simp) (by (try simp only [List.length_append, List.length_cons, List.length_nil, Int.toNat_zero]); omega)

end Go.Proofs.YtnkeljlllagddaaGreat

namespace Go.Proofs.YtnkeljlllagddaaGreat
open Go.Proofs Go.Aw Go.RowKit
set_option maxRecDepth 100000
set_option linter.unusedVariables false
set_option linter.unusedSimpArgs false

/-! ### What is heard of all pulses -/
/-- a sum of pulses that are heard stays small -/
def bw (a : Int × Int) : Prop := -53687091300 ≤ a.1 ∧ a.1 ≤ a.2 ∧ a.2 ≤ 53687091300
theorem bw_vs {a : Int × Int} (h : bw a) : vs a := by unfold bw vs at *; omega
theorem sums_le : ∀ {l : List (Int × Int)} {v : Int × Int}, (∀ a ∈ l, okE a) → v.1 ≤ (sums l v).1 ∧ v.2 ≤ (sums l v).2 ∧ (sums l v).2 ≤ v.2 + 536870913 * l.length ∧ (v.1 ≤ v.2 → (sums l v).1 ≤ (sums l v).2)
  | [], v, _ => by simp only [sums, List.length_nil]; omega
  | a :: l, v, h => by
    have ha := h a List.mem_cons_self
    unfold okE at ha
    have ih := sums_le (l := l) (v := (v.1 + a.1, v.2 + a.2)) (fun b hb => h b (List.mem_cons_of_mem _ hb))
    simp only [sums, List.length_cons] at ih ⊢
    omega
theorem avg_small {l : List (Int × Int)} {n : Int} (hn : n = 1 ∨ n = 4 ∨ n = 16 ∨ n = 64) (hl : ∀ a ∈ l, okE a) (hk : ((l.length : Nat) : Int) = n) : okE (avg (sums l (0, 0)) n) := by
  have h := sums_le (v := (0, 0)) hl
  simp only at h
  unfold okE avg
  simp only
  rcases hn with rfl | rfl | rfl | rfl <;> omega
theorem sat_small {x n : Int} (hx : 0 ≤ x ∧ x ≤ 536870913) (hn : -100 ≤ n ∧ n ≤ 100) : sat x n = x * n ∧ -53687091300 ≤ x * n ∧ x * n ≤ 53687091300 := by
  have h := mul_bd (a := 536870913) (b := 100) (x := x) (y := n) ⟨by omega, hx.2⟩ hn
  unfold sat
  refine ⟨?_, by omega, by omega⟩
  rw [if_neg (by omega), if_neg (by omega)]
theorem scl_small {a : Int × Int} {n : Int} (ha : okE a) (hn : -100 ≤ n ∧ n ≤ 100) : bw (scl a n) := by
  unfold okE at ha
  have h1 := sat_small (x := a.1) ⟨ha.1, by omega⟩ hn
  have h2 := sat_small (x := a.2) ⟨by omega, ha.2.2⟩ hn
  unfold bw scl
  by_cases h : n < 0
  · have := sat_anti (n := n) ha.2.1 (by omega)
    rw [if_pos h]; simp only; omega
  · have := sat_mono (n := n) ha.2.1 (by omega)
    rw [if_neg h]; simp only; omega
theorem shG_map (p : PU) (x : P3) (s t d : Int) (k : List PN) : ∀ a ∈ k.map (fun c => (shG p x s t d c).1), okE a := by
  intro a ha
  obtain ⟨c, _, rfl⟩ := List.mem_map.1 ha
  exact shG_ok _ _ _ _ _ _
/-- what is heard of a pulse, without the span's limits -/
noncomputable def hrT (p : PU) (x : P3) (s t d : Int) : (Int × Int) × Int :=
  if t - p.2.1 < 1 then ((0, 0), 0) else out8 (fun l => (scl (avg (sums l (0, 0)) (sc d * sc d)) p.2.2, 0)) (fun e => ((0, 0), e)) (shs (shG p x s t d) (cutL d.toNat p.1) [])
theorem hrS_T {p : PU} {x : P3} {s t d : Int} (hp : POK p) (hd : 0 ≤ d ∧ d ≤ 3) : hrS p x s t d = hrT p x s t d := by
  unfold hrS hrT
  split
  · rfl
  · refine out8_ok (fun _ => ?_)
    have hb := scl_small (avg_small (cnt_in d) (shG_map p x s t d (cutL d.toNat p.1)) (by rw [List.length_map]; exact cnt_len hd p.1)) hp.2.2
    unfold bw at hb
    unfold hrE
    rw [res_f (by omega) (by omega) (by omega)]
theorem hrT_bw {p : PU} {x : P3} {s t d : Int} (hp : POK p) (hd : 0 ≤ d ∧ d ≤ 3) : bw (hrT p x s t d).1 := by
  unfold hrT
  split
  · unfold bw; simp
  · cases e : shs (shG p x s t d) (cutL d.toNat p.1) [] with
    | inr r => unfold bw out8; simp
    | inl m =>
      obtain ⟨h1, _⟩ := shs_inl e
      rw [List.nil_append] at h1
      subst h1
      exact scl_small (avg_small (cnt_in d) (shG_map p x s t d (cutL d.toNat p.1)) (by rw [List.length_map]; exact cnt_len hd p.1)) hp.2.2
theorem sums_bw : ∀ {l : List (Int × Int)} {v : Int × Int}, (∀ a ∈ l, bw a) → v.1 ≤ v.2 → v.1 - 53687091300 * l.length ≤ (sums l v).1 ∧ (sums l v).1 ≤ (sums l v).2 ∧ (sums l v).2 ≤ v.2 + 53687091300 * l.length
  | [], v, _, h => by simp only [sums, List.length_nil]; omega
  | a :: l, v, h, hv => by
    have ha := h a List.mem_cons_self
    unfold bw at ha
    have ih := sums_bw (l := l) (v := (v.1 + a.1, v.2 + a.2)) (fun b hb => h b (List.mem_cons_of_mem _ hb)) (by simp only; omega)
    simp only [sums, List.length_cons] at ih ⊢
    omega
theorem sumV_bw {l : List (Int × Int)} (h : ∀ a ∈ l, bw a) (hl : l.length ≤ 16) : sumV l = (sums l (0, 0), 0) ∧ vs (sums l (0, 0)) := by
  have hb := sums_bw (v := (0, 0)) h (by simp)
  simp only at hb
  have hv : vs (sums l (0, 0)) := by unfold vs; omega
  refine ⟨?_, hv⟩
  unfold sumV
  rw [res_f hv.1 hv.2.1 hv.2.2]
/-- what is heard of all pulses -/
noncomputable def scS (l : List PU) (x : P3) (s t d : Int) : (Int × Int) × Int := out8 (fun m => (sums m (0, 0), 0)) (fun e => ((0, 0), e)) (shs (fun p => hrT p x s t d) l [])
theorem mem_some {α : Type} {l : List α} {i : Nat} {c : α} (h : l[i]? = some c) : c ∈ l := by
  obtain ⟨hlt, hce⟩ := List.getElem?_eq_some_iff.1 h
  exact hce ▸ List.getElem_mem hlt
section
variable {l : List PU} {x : P3} {s t d : Int}
theorem scene_f (hv : vpL l = 0) (hx : bd 256 x) (hs : 1 ≤ s ∧ s ≤ 16) (ht : 0 ≤ t ∧ t ≤ 2000) (hd : 0 ≤ d ∧ d ≤ 3) : F56_L l x s t d = scS l x s t d := by
  obtain ⟨hl, hp⟩ := vpL_ok hv
  unfold F56_L F62_L_c122 scS
  have key := shs_loopF (g := fun p => hrT p x s t d) (S := S62_L_c122_0 l x s t d) (E := fun e => (((0, 0) : Int × Int), e)) (L := l)
    (G := fun m => ((F73_L m).1, (F73_L m).2)) (fun i c hi m => ?_) (fun m => ?_) l 0 (Int.toNat (((l.length : Nat) : Int) - 0) + 1) [] rfl (Nat.zero_le _) (by omega)
  · show (loopF (S62_L_c122_0 l x s t d) (Int.toNat (((l.length : Nat) : Int) - 0) + 1) ([], ((0 : Nat) : Int))) = _
    rw [key]
    refine out8_ok (fun _ => ?_)
    have hb : ∀ a ∈ l.map (fun c => (hrT c x s t d).1), bw a := fun a ha => by
      obtain ⟨c, hc, rfl⟩ := List.mem_map.1 ha
      exact hrT_bw (hp c hc) hd
    rw [Sum_f (fun a ha => bw_vs (hb a ha)) (by rw [List.length_map]; omega)]
    exact (sumV_bw hb (by rw [List.length_map]; exact hl)).1
  · obtain ⟨hg, hlt⟩ := getD_some hi
    have e : F122 c x s t d = hrT c x s t d := by
      unfold F122
      rw [heard_f (hp c (mem_some hi)) hx hs ht hd, hrS_T (hp c (mem_some hi)) hd]
    simp only [S62_L_c122_0]
    rw [decide_eq_true (show ((i : Nat) : Int) < (l.length : Nat) by omega), cond_true, Int.toNat_natCast, hg, e]; rfl
  · simp only [S62_L_c122_0]
    rw [decide_eq_false (Int.lt_irrefl _), cond_false]
theorem scene_r (hv : vpL l = 0) (hx : bd 256 x) (hs : 1 ≤ s ∧ s ≤ 16) (ht : 0 ≤ t ∧ t ≤ 2000) (hd : 0 ≤ d ∧ d ≤ 3) : F59_L l x s t d = scS l x s t d := by
  obtain ⟨hl, hp⟩ := vpL_ok hv
  unfold F59_L scS
  have key := shs_loopF (g := fun p => hrT p x s t d) (S := S59_L_0 l x s t d) (E := fun e => (((0, 0) : Int × Int), e)) (L := l)
    (G := fun m => ((F68_L m).1, (F68_L m).2)) (fun i c hi m => ?_) (fun m => ?_) l 0 (Int.toNat (((l.length : Nat) : Int) - 0) + 1) [] rfl (Nat.zero_le _) (by omega)
  · show (loopF (S59_L_0 l x s t d) (Int.toNat (((l.length : Nat) : Int) - 0) + 1) ([], ((0 : Nat) : Int))) = _
    rw [key]
    refine out8_ok (fun _ => ?_)
    have hb : ∀ a ∈ l.map (fun c => (hrT c x s t d).1), bw a := fun a ha => by
      obtain ⟨c, hc, rfl⟩ := List.mem_map.1 ha
      exact hrT_bw (hp c hc) hd
    rw [Sum_r (fun a ha => bw_vs (hb a ha)) (by rw [List.length_map]; omega)]
    exact (sumV_bw hb (by rw [List.length_map]; exact hl)).1
  · obtain ⟨hg, hlt⟩ := getD_some hi
    simp only [S59_L_0]
    rw [decide_eq_true (show ((i : Nat) : Int) < (l.length : Nat) by omega), cond_true, Int.toNat_natCast, hg, heard_r (hp c (mem_some hi)) hx hs ht hd, hrS_T (hp c (mem_some hi)) hd]; rfl
  · simp only [S59_L_0]
    rw [decide_eq_false (Int.lt_irrefl _), cond_false]
end
/-- what is asked of a point, a speed, a tick and a depth -/
def askd (x : P3) (s t d : Int) : Prop := bd 256 x ∧ (1 ≤ s ∧ s ≤ 16) ∧ (0 ≤ t ∧ t ≤ 2000) ∧ (0 ≤ d ∧ d ≤ 3)
end Go.Proofs.YtnkeljlllagddaaGreat

namespace Go.Proofs.YtnkeljlllagddaaGreat
open Go.Proofs Go.Aw Go.RowKit
set_option maxRecDepth 100000
set_option linter.unusedVariables false
set_option linter.unusedSimpArgs false

/-! ### Images of valid pulses are valid -/
def mz (p : P3) : P3 := (p.1, p.2.1, -p.2.2)
def mzP (p : PN) : PN := (mz p.1, mz p.2.1, mz p.2.2)
theorem mz_f {m : Int} {p : P3} (h : bd m p) (hm : m ≤ 100000) : F120 p = mz p := by
  unfold bd at h
  unfold F120 mz
  rw [W_eq (n := 0 - p.2.2) (by omega) (by omega), Int.zero_sub]
theorem mz_bd {m : Int} {p : P3} (h : bd m p) : bd m (mz p) := by unfold bd mz at *; simp only; omega
theorem mzP_bd {m : Int} {p : PN} (h : bdP m p) : bdP m (mzP p) := ⟨mz_bd h.1, mz_bd h.2.1, mz_bd h.2.2⟩
theorem nrm_mz (p : PN) : nrm (mzP p) = (-(nrm p).1, -(nrm p).2.1, (nrm p).2.2) := by
  unfold nrm cr sb mzP mz
  simp only [Prod.mk.injEq]
  refine ⟨by grind, by grind, by grind⟩
theorem vp_mz {p : PN} (h : vp p = 0) : vp (mzP p) = 0 := by
  have hb := (vp_ok h).1
  unfold vp at h ⊢
  rw [if_pos hb] at h
  rw [if_pos (mzP_bd hb), nrm_mz]
  simp only
  split at h
  · exact absurd h (by decide)
  · rename_i h1
    rw [if_neg (by omega)]
theorem im_eq {soft : Bool} {p : PU} (h : POK p) : im soft p = (mzP p.1, p.2.1, bif soft then -p.2.2 else p.2.2) := by
  have hb := pok_bd h
  have hw := h.2.2
  unfold im mzP
  rw [mz_f hb.1 (by omega), mz_f hb.2.1 (by omega), mz_f hb.2.2 (by omega), W_eq (n := 0 - p.2.2) (by omega) (by omega), Int.zero_sub]
theorem im_pok {soft : Bool} {p : PU} (h : POK p) : POK (im soft p) := by
  rw [im_eq h]
  refine ⟨vp_mz h.1, h.2.1, ?_⟩
  have hw := h.2.2
  cases soft <;> simp only [cond_true, cond_false] <;> omega
theorem imV_ok {l : List PU} {soft : Bool} (h : (imV l soft).2 = 0) : vpL l = 0 ∧ (imV l soft).1 = l ++ l.map (im soft) ∧ 2 * l.length ≤ 16 ∧ vpL (imV l soft).1 = 0 := by
  unfold imV at h ⊢
  by_cases h1 : vpL l = 0
  · rw [if_pos h1] at h ⊢
    by_cases h2 : fe gz l = 0
    · rw [if_pos h2] at h ⊢
      by_cases h3 : 16 < 2 * l.length
      · rw [if_pos h3] at h; exact absurd h (by decide)
      · rw [if_neg h3]
        refine ⟨h1, rfl, by omega, ?_⟩
        unfold vpL
        simp only
        rw [if_neg (by rw [List.length_append, List.length_map]; omega), fe_0.2]
        intro q hq
        rcases List.mem_append.1 hq with hq | hq
        · exact pv_ok.2 ((vpL_ok h1).2 q hq)
        · obtain ⟨p, hp, rfl⟩ := List.mem_map.1 hq
          exact pv_ok.2 (im_pok ((vpL_ok h1).2 p hp))
    · rw [if_neg h2] at h; exact absurd h (by decide)
  · rw [if_neg h1] at h; exact absurd h h1
theorem imf_ok {l : List PU} {soft : Bool} (h : (((F51_L l soft).2 : Int) != 0) = false) : vpL (F51_L l soft).1 = 0 := by
  rw [Images_f] at h ⊢
  exact (imV_ok (bne_eq_false_iff_eq.1 h)).2.2.2
theorem imr_ok {l : List PU} {soft : Bool} (h : (((F57_L l soft).2 : Int) != 0) = false) : vpL (F57_L l soft).1 = 0 := by
  rw [Images_r] at h ⊢
  exact (imV_ok (bne_eq_false_iff_eq.1 h)).2.2.2
theorem ist_n {n : Int} (h : (!(F54 n)) = false) : 0 ≤ n ∧ n ≤ 2000 := ist_p (by simpa using h)
theorem isd_n {n : Int} (h : (!(F55 n)) = false) : 0 ≤ n ∧ n ≤ 3 := isd_p (by simpa using h)

/-- facet/sound.Echo at ('L',) -/
def F14_L (a0 : List (((Int × Int × Int) × (Int × Int × Int) × Int × Int × Int) × Int × Int)) (a1 : Int × Int × Int) (a2 : Bool) (a3 : Int) (a4 : Int) (a5 : Int) : (Int × Int) × Int :=
  (bif (((F51_L a0 a2).2 : Int) != 0) then
   ((0, 0), (F51_L a0 a2).2)
  else
   (bif (!(F52 a1)) then
    ((0, 0), 1)
   else
    (bif (!(F53 a3)) then
     ((0, 0), 1)
    else
     (bif (!(F54 a4)) then
      ((0, 0), 1)
     else
      (bif (!(F55 a5)) then
       ((0, 0), 1)
      else
       (bif (decide ((a1.2.2 : Int) < 0)) then
        ((0, 0), 1)
       else
        ((F56_L (F51_L a0 a2).1 a1 a3 a4 a5).1, (F56_L (F51_L a0 a2).1 a1 a3 a4 a5).2)))))))

noncomputable def oC14_L_0 (a0 : List (((Int × Int × Int) × (Int × Int × Int) × Int × Int × Int) × Int × Int)) (a2 : Bool) : Or := .call [0] (.t [(.s 1 0 (F51_L a0 a2).1.length 11), (iv (F51_L a0 a2).2)]) [(.live true true (flat c67 (F51_L a0 a2).1))]
noncomputable def oC14_L_1 (a0 : List (((Int × Int × Int) × (Int × Int × Int) × Int × Int × Int) × Int × Int)) (a2 : Bool) : Ob := .call 51 [(.s 0 0 a0.length 11), (.v (.bool a2))] [(.live false true (flat c67 a0))] (.t [(.s 1 0 (F51_L a0 a2).1.length 11), (iv (F51_L a0 a2).2)]) [(.live true true (flat c67 (F51_L a0 a2).1))]
theorem C14_L (a0 : List (((Int × Int × Int) × (Int × Int × Int) × Int × Int × Int) × Int × Int)) (a1 : Int × Int × Int) (a2 : Bool) (a3 : Int) (a4 : Int) (a5 : Int) (l0 : a0.length ≤ 9223372036854775807) : Con Tryz.prog 14 [(.s 0 0 a0.length 11), (.a (k3 a1)), (.v (.bool a2)), (iv a3), (iv a4), (iv a5)] [(.live false true (flat c67 a0))] (.t [(.a (k2 (F14_L a0 a1 a2 a3 a4 a5).1)), (iv (F14_L a0 a1 a2 a3 a4 a5).2)]) [] := by
  cases h0 : (((F51_L a0 a2).2 : Int) != 0) with
  | true =>
    have q0 := bne_iff_ne.1 h0
    have hd1 := imf_len a0 a2
    try have hv := imf_ok h0
    have e : (F14_L a0 a1 a2 a3 a4 a5) = ((0, 0), (F51_L a0 a2).2) := by simp only [F14_L, h0, cond_true, cond_false]
    rw [e]
    refine con_of (n := 9) Tryz.func14 rfl (ent Tryz.func14 (by kernel_rfl) rfl) (by show 6 ≤ Tryz.f14.ntmps; decide) (by kernel_rfl) ⟨rfl, trivial⟩ (fun cx hcx => ?_)
    exact ret_of (T := T0) hT hm (f := 5000) (orc := [(oC14_L_0 a0 a2), .d true]) [] [] [] hcx
      (obs := [(oC14_L_1 a0 a2), .eq (((F51_L a0 a2).2 : Int) != 0) true]) (by kernel_rfl) ⟨(C51_L a0 a2 (by (try simp only [List.length_append, List.length_cons, List.length_nil, Int.toNat_zero]); omega)), h0, trivial⟩
  | false =>
    cases h1 : (!(F52 a1)) with
    | true =>
      have q0 := bne_eq_false_iff_eq.1 h0
      have hd1 := imf_len a0 a2
      try have hv := imf_ok h0
      have e : (F14_L a0 a1 a2 a3 a4 a5) = ((0, 0), 1) := by simp only [F14_L, h0, h1, cond_true, cond_false]
      rw [e]
      refine con_of (n := 9) Tryz.func14 rfl (ent Tryz.func14 (by kernel_rfl) rfl) (by show 6 ≤ Tryz.f14.ntmps; decide) (by kernel_rfl) ⟨rfl, trivial⟩ (fun cx hcx => ?_)
      exact ret_of (T := T0) hT hm (f := 5000) (orc := [(oC14_L_0 a0 a2), .d false, .call [] (.v (.bool (F52 a1))) [], .d true]) [] [] [] hcx
        (obs := [(oC14_L_1 a0 a2), .eq (((F51_L a0 a2).2 : Int) != 0) false, .call 52 [(.a (k3 a1))] [] (.v (.bool (F52 a1))) [], .eq (!(F52 a1)) true]) (by kernel_rfl) ⟨(C51_L a0 a2 (by (try simp only [List.length_append, List.length_cons, List.length_nil, Int.toNat_zero]); omega)), h0, (C52 a1), h1, trivial⟩
    | false =>
      cases h2 : (!(F53 a3)) with
      | true =>
        have q0 := bne_eq_false_iff_eq.1 h0
        have hd1 := imf_len a0 a2
        try have hv := imf_ok h0
        have e : (F14_L a0 a1 a2 a3 a4 a5) = ((0, 0), 1) := by simp only [F14_L, h0, h1, h2, cond_true, cond_false]
        rw [e]
        refine con_of (n := 9) Tryz.func14 rfl (ent Tryz.func14 (by kernel_rfl) rfl) (by show 6 ≤ Tryz.f14.ntmps; decide) (by kernel_rfl) ⟨rfl, trivial⟩ (fun cx hcx => ?_)
        exact ret_of (T := T0) hT hm (f := 5000) (orc := [(oC14_L_0 a0 a2), .d false, .call [] (.v (.bool (F52 a1))) [], .d false, .call [] (.v (.bool (F53 a3))) [], .d true]) [] [] [] hcx
          (obs := [(oC14_L_1 a0 a2), .eq (((F51_L a0 a2).2 : Int) != 0) false, .call 52 [(.a (k3 a1))] [] (.v (.bool (F52 a1))) [], .eq (!(F52 a1)) false, .call 53 [(iv a3)] [] (.v (.bool (F53 a3))) [], .eq (!(F53 a3)) true]) (by kernel_rfl) ⟨(C51_L a0 a2 (by (try simp only [List.length_append, List.length_cons, List.length_nil, Int.toNat_zero]); omega)), h0, (C52 a1), h1, (C53 a3), h2, trivial⟩
      | false =>
        cases h3 : (!(F54 a4)) with
        | true =>
          have q0 := bne_eq_false_iff_eq.1 h0
          have hd1 := imf_len a0 a2
          try have hv := imf_ok h0
          have e : (F14_L a0 a1 a2 a3 a4 a5) = ((0, 0), 1) := by simp only [F14_L, h0, h1, h2, h3, cond_true, cond_false]
          rw [e]
          refine con_of (n := 9) Tryz.func14 rfl (ent Tryz.func14 (by kernel_rfl) rfl) (by show 6 ≤ Tryz.f14.ntmps; decide) (by kernel_rfl) ⟨rfl, trivial⟩ (fun cx hcx => ?_)
          exact ret_of (T := T0) hT hm (f := 5000) (orc := [(oC14_L_0 a0 a2), .d false, .call [] (.v (.bool (F52 a1))) [], .d false, .call [] (.v (.bool (F53 a3))) [], .d false, .call [] (.v (.bool (F54 a4))) [], .d true]) [] [] [] hcx
            (obs := [(oC14_L_1 a0 a2), .eq (((F51_L a0 a2).2 : Int) != 0) false, .call 52 [(.a (k3 a1))] [] (.v (.bool (F52 a1))) [], .eq (!(F52 a1)) false, .call 53 [(iv a3)] [] (.v (.bool (F53 a3))) [], .eq (!(F53 a3)) false, .call 54 [(iv a4)] [] (.v (.bool (F54 a4))) [], .eq (!(F54 a4)) true]) (by kernel_rfl) ⟨(C51_L a0 a2 (by (try simp only [List.length_append, List.length_cons, List.length_nil, Int.toNat_zero]); omega)), h0, (C52 a1), h1, (C53 a3), h2, (C54 a4), h3, trivial⟩
        | false =>
          cases h4 : (!(F55 a5)) with
          | true =>
            have q0 := bne_eq_false_iff_eq.1 h0
            have hd1 := imf_len a0 a2
            try have hv := imf_ok h0
            have e : (F14_L a0 a1 a2 a3 a4 a5) = ((0, 0), 1) := by simp only [F14_L, h0, h1, h2, h3, h4, cond_true, cond_false]
            rw [e]
            refine con_of (n := 9) Tryz.func14 rfl (ent Tryz.func14 (by kernel_rfl) rfl) (by show 6 ≤ Tryz.f14.ntmps; decide) (by kernel_rfl) ⟨rfl, trivial⟩ (fun cx hcx => ?_)
            exact ret_of (T := T0) hT hm (f := 5000) (orc := [(oC14_L_0 a0 a2), .d false, .call [] (.v (.bool (F52 a1))) [], .d false, .call [] (.v (.bool (F53 a3))) [], .d false, .call [] (.v (.bool (F54 a4))) [], .d false, .call [] (.v (.bool (F55 a5))) [], .d true]) [] [] [] hcx
              (obs := [(oC14_L_1 a0 a2), .eq (((F51_L a0 a2).2 : Int) != 0) false, .call 52 [(.a (k3 a1))] [] (.v (.bool (F52 a1))) [], .eq (!(F52 a1)) false, .call 53 [(iv a3)] [] (.v (.bool (F53 a3))) [], .eq (!(F53 a3)) false, .call 54 [(iv a4)] [] (.v (.bool (F54 a4))) [], .eq (!(F54 a4)) false, .call 55 [(iv a5)] [] (.v (.bool (F55 a5))) [], .eq (!(F55 a5)) true]) (by kernel_rfl) ⟨(C51_L a0 a2 (by (try simp only [List.length_append, List.length_cons, List.length_nil, Int.toNat_zero]); omega)), h0, (C52 a1), h1, (C53 a3), h2, (C54 a4), h3, (C55 a5), h4, trivial⟩
          | false =>
            cases h5 : (decide ((a1.2.2 : Int) < 0)) with
            | true =>
              have q0 := bne_eq_false_iff_eq.1 h0
              have q5 := of_decide_eq_true h5
              have hd1 := imf_len a0 a2
              try have hv := imf_ok h0
              have e : (F14_L a0 a1 a2 a3 a4 a5) = ((0, 0), 1) := by simp only [F14_L, h0, h1, h2, h3, h4, h5, cond_true, cond_false]
              rw [e]
              refine con_of (n := 9) Tryz.func14 rfl (ent Tryz.func14 (by kernel_rfl) rfl) (by show 6 ≤ Tryz.f14.ntmps; decide) (by kernel_rfl) ⟨rfl, trivial⟩ (fun cx hcx => ?_)
              exact ret_of (T := T0) hT hm (f := 5000) (orc := [(oC14_L_0 a0 a2), .d false, .call [] (.v (.bool (F52 a1))) [], .d false, .call [] (.v (.bool (F53 a3))) [], .d false, .call [] (.v (.bool (F54 a4))) [], .d false, .call [] (.v (.bool (F55 a5))) [], .d false, .d true]) [] [] [] hcx
                (obs := [(oC14_L_1 a0 a2), .eq (((F51_L a0 a2).2 : Int) != 0) false, .call 52 [(.a (k3 a1))] [] (.v (.bool (F52 a1))) [], .eq (!(F52 a1)) false, .call 53 [(iv a3)] [] (.v (.bool (F53 a3))) [], .eq (!(F53 a3)) false, .call 54 [(iv a4)] [] (.v (.bool (F54 a4))) [], .eq (!(F54 a4)) false, .call 55 [(iv a5)] [] (.v (.bool (F55 a5))) [], .eq (!(F55 a5)) false, .eq (decide ((a1.2.2 : Int) < 0)) true]) (by kernel_rfl) ⟨(C51_L a0 a2 (by (try simp only [List.length_append, List.length_cons, List.length_nil, Int.toNat_zero]); omega)), h0, (C52 a1), h1, (C53 a3), h2, (C54 a4), h3, (C55 a5), h4, h5, trivial⟩
            | false =>
              have q0 := bne_eq_false_iff_eq.1 h0
              have q5 := of_decide_eq_false h5
              have hd1 := imf_len a0 a2
              try have hv := imf_ok h0
              have e : (F14_L a0 a1 a2 a3 a4 a5) = ((F56_L (F51_L a0 a2).1 a1 a3 a4 a5).1, (F56_L (F51_L a0 a2).1 a1 a3 a4 a5).2) := by simp only [F14_L, h0, h1, h2, h3, h4, h5, cond_true, cond_false]
              rw [e]
              refine con_of (n := 9) Tryz.func14 rfl (ent Tryz.func14 (by kernel_rfl) rfl) (by show 6 ≤ Tryz.f14.ntmps; decide) (by kernel_rfl) ⟨rfl, trivial⟩ (fun cx hcx => ?_)
              exact ret_of (T := T0) hT hm (f := 5000) (orc := [(oC14_L_0 a0 a2), .d false, .call [] (.v (.bool (F52 a1))) [], .d false, .call [] (.v (.bool (F53 a3))) [], .d false, .call [] (.v (.bool (F54 a4))) [], .d false, .call [] (.v (.bool (F55 a5))) [], .d false, .d false, .call [3] (.t [(.a (k2 (F56_L (F51_L a0 a2).1 a1 a3 a4 a5).1)), (iv (F56_L (F51_L a0 a2).1 a1 a3 a4 a5).2)]) []]) [] [] [] hcx
                (obs := [(oC14_L_1 a0 a2), .eq (((F51_L a0 a2).2 : Int) != 0) false, .call 52 [(.a (k3 a1))] [] (.v (.bool (F52 a1))) [], .eq (!(F52 a1)) false, .call 53 [(iv a3)] [] (.v (.bool (F53 a3))) [], .eq (!(F53 a3)) false, .call 54 [(iv a4)] [] (.v (.bool (F54 a4))) [], .eq (!(F54 a4)) false, .call 55 [(iv a5)] [] (.v (.bool (F55 a5))) [], .eq (!(F55 a5)) false, .eq (decide ((a1.2.2 : Int) < 0)) false, .call 56 [(.s 0 0 (F51_L a0 a2).1.length 11), (.a (k3 a1)), (iv a3), (iv a4), (iv a5)] [(.live false true (flat c67 (F51_L a0 a2).1))] (.t [(.a (k2 (F56_L (F51_L a0 a2).1 a1 a3 a4 a5).1)), (iv (F56_L (F51_L a0 a2).1 a1 a3 a4 a5).2)]) []]) (by kernel_rfl) ⟨(C51_L a0 a2 (by (try simp only [List.length_append, List.length_cons, List.length_nil, Int.toNat_zero]); omega)), h0, (C52 a1), h1, (C53 a3), h2, (C54 a4), h3, (C55 a5), h4, h5, (C56_L (F51_L a0 a2).1 a1 a3 a4 a5 (by (try simp only [List.length_append, List.length_cons, List.length_nil, Int.toNat_zero]); omega) hv (isp_n h1) (iss_n h2) (ist_n h3) (isd_n h4)), trivial⟩

/-- facet/facetref08.Echo at ('L',) -/
def F15_L (a0 : List (((Int × Int × Int) × (Int × Int × Int) × Int × Int × Int) × Int × Int)) (a1 : Int × Int × Int) (a2 : Bool) (a3 : Int) (a4 : Int) (a5 : Int) : (Int × Int) × Int :=
  (bif (((F57_L a0 a2).2 : Int) != 0) then
   ((0, 0), (F57_L a0 a2).2)
  else
   (bif (((F58 a1 a3 a4 a5) : Int) != 0) then
    ((0, 0), (F58 a1 a3 a4 a5))
   else
    (bif (decide ((a1.2.2 : Int) < 0)) then
     ((0, 0), 1)
    else
     ((F59_L (F57_L a0 a2).1 a1 a3 a4 a5).1, (F59_L (F57_L a0 a2).1 a1 a3 a4 a5).2))))

noncomputable def oC15_L_0 (a0 : List (((Int × Int × Int) × (Int × Int × Int) × Int × Int × Int) × Int × Int)) (a2 : Bool) : Or := .call [0] (.t [(.s 1 0 (F57_L a0 a2).1.length 11), (iv (F57_L a0 a2).2)]) [(.live true true (flat c67 (F57_L a0 a2).1))]
noncomputable def oC15_L_1 (a0 : List (((Int × Int × Int) × (Int × Int × Int) × Int × Int × Int) × Int × Int)) (a2 : Bool) : Ob := .call 57 [(.s 0 0 a0.length 11), (.v (.bool a2))] [(.live false true (flat c67 a0))] (.t [(.s 1 0 (F57_L a0 a2).1.length 11), (iv (F57_L a0 a2).2)]) [(.live true true (flat c67 (F57_L a0 a2).1))]
theorem C15_L (a0 : List (((Int × Int × Int) × (Int × Int × Int) × Int × Int × Int) × Int × Int)) (a1 : Int × Int × Int) (a2 : Bool) (a3 : Int) (a4 : Int) (a5 : Int) (l0 : a0.length ≤ 9223372036854775807) : Con Tryz.prog 15 [(.s 0 0 a0.length 11), (.a (k3 a1)), (.v (.bool a2)), (iv a3), (iv a4), (iv a5)] [(.live false true (flat c67 a0))] (.t [(.a (k2 (F15_L a0 a1 a2 a3 a4 a5).1)), (iv (F15_L a0 a1 a2 a3 a4 a5).2)]) [] := by
  cases h0 : (((F57_L a0 a2).2 : Int) != 0) with
  | true =>
    have q0 := bne_iff_ne.1 h0
    have hd1 := imr_len a0 a2
    try have hv := imr_ok h0
    have e : (F15_L a0 a1 a2 a3 a4 a5) = ((0, 0), (F57_L a0 a2).2) := by simp only [F15_L, h0, cond_true, cond_false]
    rw [e]
    refine con_of (n := 9) Tryz.func15 rfl (ent Tryz.func15 (by kernel_rfl) rfl) (by show 6 ≤ Tryz.f15.ntmps; decide) (by kernel_rfl) ⟨rfl, trivial⟩ (fun cx hcx => ?_)
    exact ret_of (T := T0) hT hm (f := 5000) (orc := [(oC15_L_0 a0 a2), .d true]) [] [] [] hcx
      (obs := [(oC15_L_1 a0 a2), .eq (((F57_L a0 a2).2 : Int) != 0) true]) (by kernel_rfl) ⟨(C57_L a0 a2 (by (try simp only [List.length_append, List.length_cons, List.length_nil, Int.toNat_zero]); omega)), h0, trivial⟩
  | false =>
    cases h1 : (((F58 a1 a3 a4 a5) : Int) != 0) with
    | true =>
      have q0 := bne_eq_false_iff_eq.1 h0
      have q1 := bne_iff_ne.1 h1
      have hd1 := imr_len a0 a2
      try have hv := imr_ok h0
      have e : (F15_L a0 a1 a2 a3 a4 a5) = ((0, 0), (F58 a1 a3 a4 a5)) := by simp only [F15_L, h0, h1, cond_true, cond_false]
      rw [e]
      refine con_of (n := 9) Tryz.func15 rfl (ent Tryz.func15 (by kernel_rfl) rfl) (by show 6 ≤ Tryz.f15.ntmps; decide) (by kernel_rfl) ⟨rfl, trivial⟩ (fun cx hcx => ?_)
      exact ret_of (T := T0) hT hm (f := 5000) (orc := [(oC15_L_0 a0 a2), .d false, .call [] (iv (F58 a1 a3 a4 a5)) [], .d true]) [] [] [] hcx
        (obs := [(oC15_L_1 a0 a2), .eq (((F57_L a0 a2).2 : Int) != 0) false, .call 58 [(.a (k3 a1)), (iv a3), (iv a4), (iv a5)] [] (iv (F58 a1 a3 a4 a5)) [], .eq (((F58 a1 a3 a4 a5) : Int) != 0) true]) (by kernel_rfl) ⟨(C57_L a0 a2 (by (try simp only [List.length_append, List.length_cons, List.length_nil, Int.toNat_zero]); omega)), h0, (C58 a1 a3 a4 a5), h1, trivial⟩
    | false =>
      cases h2 : (decide ((a1.2.2 : Int) < 0)) with
      | true =>
        have q0 := bne_eq_false_iff_eq.1 h0
        have q1 := bne_eq_false_iff_eq.1 h1
        have q2 := of_decide_eq_true h2
        have hd1 := imr_len a0 a2
        try have hv := imr_ok h0
        have e : (F15_L a0 a1 a2 a3 a4 a5) = ((0, 0), 1) := by simp only [F15_L, h0, h1, h2, cond_true, cond_false]
        rw [e]
        refine con_of (n := 9) Tryz.func15 rfl (ent Tryz.func15 (by kernel_rfl) rfl) (by show 6 ≤ Tryz.f15.ntmps; decide) (by kernel_rfl) ⟨rfl, trivial⟩ (fun cx hcx => ?_)
        exact ret_of (T := T0) hT hm (f := 5000) (orc := [(oC15_L_0 a0 a2), .d false, .call [] (iv (F58 a1 a3 a4 a5)) [], .d false, .d true]) [] [] [] hcx
          (obs := [(oC15_L_1 a0 a2), .eq (((F57_L a0 a2).2 : Int) != 0) false, .call 58 [(.a (k3 a1)), (iv a3), (iv a4), (iv a5)] [] (iv (F58 a1 a3 a4 a5)) [], .eq (((F58 a1 a3 a4 a5) : Int) != 0) false, .eq (decide ((a1.2.2 : Int) < 0)) true]) (by kernel_rfl) ⟨(C57_L a0 a2 (by (try simp only [List.length_append, List.length_cons, List.length_nil, Int.toNat_zero]); omega)), h0, (C58 a1 a3 a4 a5), h1, h2, trivial⟩
      | false =>
        have q0 := bne_eq_false_iff_eq.1 h0
        have q1 := bne_eq_false_iff_eq.1 h1
        have q2 := of_decide_eq_false h2
        have hd1 := imr_len a0 a2
        try have hv := imr_ok h0
        have e : (F15_L a0 a1 a2 a3 a4 a5) = ((F59_L (F57_L a0 a2).1 a1 a3 a4 a5).1, (F59_L (F57_L a0 a2).1 a1 a3 a4 a5).2) := by simp only [F15_L, h0, h1, h2, cond_true, cond_false]
        rw [e]
        refine con_of (n := 9) Tryz.func15 rfl (ent Tryz.func15 (by kernel_rfl) rfl) (by show 6 ≤ Tryz.f15.ntmps; decide) (by kernel_rfl) ⟨rfl, trivial⟩ (fun cx hcx => ?_)
        exact ret_of (T := T0) hT hm (f := 5000) (orc := [(oC15_L_0 a0 a2), .d false, .call [] (iv (F58 a1 a3 a4 a5)) [], .d false, .d false, .call [3] (.t [(.a (k2 (F59_L (F57_L a0 a2).1 a1 a3 a4 a5).1)), (iv (F59_L (F57_L a0 a2).1 a1 a3 a4 a5).2)]) []]) [] [] [] hcx
          (obs := [(oC15_L_1 a0 a2), .eq (((F57_L a0 a2).2 : Int) != 0) false, .call 58 [(.a (k3 a1)), (iv a3), (iv a4), (iv a5)] [] (iv (F58 a1 a3 a4 a5)) [], .eq (((F58 a1 a3 a4 a5) : Int) != 0) false, .eq (decide ((a1.2.2 : Int) < 0)) false, .call 59 [(.s 0 0 (F57_L a0 a2).1.length 11), (.a (k3 a1)), (iv a3), (iv a4), (iv a5)] [(.live false true (flat c67 (F57_L a0 a2).1))] (.t [(.a (k2 (F59_L (F57_L a0 a2).1 a1 a3 a4 a5).1)), (iv (F59_L (F57_L a0 a2).1 a1 a3 a4 a5).2)]) []]) (by kernel_rfl) ⟨(C57_L a0 a2 (by (try simp only [List.length_append, List.length_cons, List.length_nil, Int.toNat_zero]); omega)), h0, (C58 a1 a3 a4 a5), h1, h2, (C59_L (F57_L a0 a2).1 a1 a3 a4 a5 (by (try simp only [List.length_append, List.length_cons, List.length_nil, Int.toNat_zero]); omega) hv (ask_p h1).1 (ask_p h1).2.1 (ask_p h1).2.2.1 (ask_p h1).2.2.2), trivial⟩

/-! ### What is heard with a wall -/
noncomputable def ecV (l : List PU) (x : P3) (soft : Bool) (s t d : Int) : (Int × Int) × Int :=
  open Classical in if (imV l soft).2 = 0 then (if askd x s t d ∧ 0 ≤ x.2.2 then scS (imV l soft).1 x s t d else ((0, 0), 1)) else ((0, 0), (imV l soft).2)
open Classical in
theorem Echo_f (l : List PU) (x : P3) (soft : Bool) (s t d : Int) : F14_L l x soft s t d = ecV l x soft s t d := by
  unfold F14_L ecV
  rw [Images_f, isP_f, isS_f, isT_f, isD_f]
  by_cases h : (imV l soft).2 = 0
  · obtain ⟨_, _, _, hv⟩ := imV_ok h
    rw [if_pos h, h]
    by_cases h1 : bd 256 x
    · by_cases h2 : 1 ≤ s ∧ s ≤ 16
      · by_cases h3 : 0 ≤ t ∧ t ≤ 2000
        · by_cases h4 : 0 ≤ d ∧ d ≤ 3
          · rw [scene_f hv h1 h2 h3 h4]
            by_cases h5 : x.2.2 < 0
            · rw [if_neg (fun h => by omega)]; simp [h1, h2, h3, h4, h5]
            · rw [if_pos ⟨⟨h1, h2, h3, h4⟩, by omega⟩]; simp [h1, h2, h3, h4, h5]
          · rw [if_neg (fun h => h4 h.1.2.2.2)]; simp [h1, h2, h3, h4]
        · rw [if_neg (fun h => h3 h.1.2.2.1)]; simp [h1, h2, h3]
      · rw [if_neg (fun h => h2 h.1.2.1)]; simp [h1, h2]
    · rw [if_neg (fun h => h1 h.1.1)]; simp [h1]
  · rw [if_neg h, bne_iff_ne.2 h]; rfl
open Classical in
theorem Echo_r (l : List PU) (x : P3) (soft : Bool) (s t d : Int) : F15_L l x soft s t d = ecV l x soft s t d := by
  unfold F15_L ecV
  rw [Images_r, asked_r]
  by_cases h : (imV l soft).2 = 0
  · obtain ⟨_, _, _, hv⟩ := imV_ok h
    rw [if_pos h, h]
    by_cases h1 : bd 256 x ∧ (1 ≤ s ∧ s ≤ 16) ∧ (0 ≤ t ∧ t ≤ 2000) ∧ (0 ≤ d ∧ d ≤ 3)
    · rw [if_pos h1, scene_r hv h1.1 h1.2.1 h1.2.2.1 h1.2.2.2]
      by_cases h5 : x.2.2 < 0
      · rw [if_neg (fun h : askd x s t d ∧ 0 ≤ x.2.2 => by omega)]; simp [h5]
      · rw [if_pos (show askd x s t d ∧ 0 ≤ x.2.2 from ⟨h1, by omega⟩)]; simp [h5]
    · rw [if_neg h1, if_neg (fun h : askd x s t d ∧ 0 ≤ x.2.2 => h1 h.1)]; rfl
  · rw [if_neg h, bne_iff_ne.2 h]; rfl

end Go.Proofs.YtnkeljlllagddaaGreat
