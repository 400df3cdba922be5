/-
  Parts of the proofs of the laws: the executor, what functions of the program compute, and that it is what the statements ask. No premise.
-/
import Derived.Test.YtcnnmgooolnebaaGreatVPto4
namespace Go.Proofs.YtcnnmgooolnebaaGreat
open Go.Proofs Go.Aw Go.RowKit
set_option maxRecDepth 100000
set_option linter.unusedVariables false
set_option linter.unusedSimpArgs false

def InR (n : Nat) (l : List Int) : Prop := ∀ x ∈ l, 0 ≤ x ∧ x < (n : Int)
theorem InR.at {n : Nat} {l : List Int} (h : InR n l) {i : Nat} (hi : i < l.length) : 0 ≤ l.getD i default ∧ l.getD i default < (n : Int) := by
  rw [List.getD_eq_getElem?_getD, List.getElem?_eq_getElem hi, Option.getD_some]
  exact h _ (List.getElem_mem hi)
theorem InR.set {n : Nat} {l : List Int} (h : InR n l) {i : Nat} {x : Int} (hx : 0 ≤ x ∧ x < (n : Int)) : InR n (l.set i x) := fun y hy => by
  rcases List.mem_or_eq_of_mem_set hy with hy | rfl
  · exact h y hy
  · exact hx
theorem InR.swap {n : Nat} {l : List Int} (h : InR n l) {i j p q : Nat} (hp : p < l.length) (hq : q < l.length) : InR n ((l.set i (l.getD p default)).set j (l.getD q default)) := (h.set (h.at hp)).set (h.at hq)
theorem InR.add {n : Nat} {l : List Int} (h : InR n l) {x : Int} (hx : 0 ≤ x ∧ x < (n : Int)) : InR n (l ++ [x]) := fun y hy => by
  rcases List.mem_append.1 hy with hy | hy
  · exact h y hy
  · rw [List.mem_singleton.1 hy]; exact hx
theorem InR.nil (n : Nat) : InR n [] := fun y hy => by simp at hy
theorem tm_doc {p : PU} {x : P3} {s : Int} (h : POK p) (hx : bd 256 x) (hs : 1 ≤ s ∧ s ≤ 16) :
    W (p.2.1 + F60 (F61 p.1 x) s) = F49 p x s ∧
    W (p.2.1 + F60 (F62 p.1 x) s) = F50 p x s := by
  have hb := (pok_bd h).mono (b := 5000) (by omega)
  have hx5 := hx.mono (b := 5000) (by omega)
  refine ⟨?_, ?_⟩
  · rw [trav_eq (ner6 h hx) (by omega)]
    unfold F49
    rw [sne_r hb hx5, sne_f hb hx5]
  · rw [trav_eq (far6 h hx) (by omega)]
    unfold F50
    rw [sfa_r hb hx5, sfa_f hb hx5]
section
variable {l : List PU} {x : P3} {s : Int}
theorem times_loop (hv : vpL l = 0) (hx : bd 256 x) (hs : 1 ≤ s ∧ s ≤ 16) : ∀ (k : List PU) (i n : Nat) (a b : List Int), l.drop i = k → i ≤ l.length → k.length < n →
    loopF (S40_L_0 l x s) n (a, b, (i : Int)) = (a ++ k.map (fun p => F49 p x s), b ++ k.map (fun p => F50 p x s))
  | [], i, n, a, b, hd, hi, hn => by
    have : i = l.length := by have := List.drop_eq_nil_iff.1 hd; omega
    obtain ⟨n, rfl⟩ : ∃ m, n = m + 1 := ⟨n - 1, by simp only [List.length_nil] at hn; omega⟩
    subst this
    have e : S40_L_0 l x s (a, b, ((l.length : Nat) : Int)) = .inr (a, b) := by
      simp only [S40_L_0]; rw [decide_eq_false (Int.lt_irrefl _), cond_false]
    rw [loopF_inr e]; simp
  | c :: k, i, n, a, b, hd, hi, hn => by
    have hc : l[i]? = some c := by
      have : (l.drop i)[0]? = some c := by rw [hd]; rfl
      simpa using this
    obtain ⟨hg, hlt⟩ := getD_some hc
    obtain ⟨n, rfl⟩ : ∃ m, n = m + 1 := ⟨n - 1, by omega⟩
    have hp : POK c := by rw [← hg]; exact vpL_get hv hlt
    have t := tm_doc hp hx hs
    have e : S40_L_0 l x s (a, b, (i : Int)) = .inl (a ++ [F49 c x s], b ++ [F50 c x s], ((i + 1 : Nat) : Int)) := by
      simp only [S40_L_0]
      rw [decide_eq_true (show ((i : Nat) : Int) < (l.length : Nat) by omega), cond_true, Int.toNat_natCast, hg, t.1, t.2]; rfl
    rw [loopF_inl e, times_loop hv hx hs k (i + 1) n _ _ (by rw [← List.drop_drop, hd]; rfl) (by omega) (by simp only [List.length_cons] at hn; omega)]
    simp
theorem times_eq (hv : vpL l = 0) (hx : bd 256 x) (hs : 1 ≤ s ∧ s ≤ 16) : F40_L l x s = (l.map (fun p => F49 p x s), l.map (fun p => F50 p x s)) :=
  times_loop hv hx hs l 0 (Int.toNat (((l.length : Nat) : Int) - 0) + 1) [] [] rfl (Nat.zero_le _) (by omega)
theorem times_len1 (hv : vpL l = 0) (hx : bd 256 x) (hs : 1 ≤ s ∧ s ≤ 16) : (F40_L l x s).1.length = l.length := by rw [times_eq hv hx hs]; simp
theorem times_len2 (hv : vpL l = 0) (hx : bd 256 x) (hs : 1 ≤ s ∧ s ≤ 16) : (F40_L l x s).2.length = l.length := by rw [times_eq hv hx hs]; simp
end

noncomputable def B13_L_0 : Code := (loopAtD [1, 1, 1, 1, 1, 1, 1, 1, 0, 1] [] (bodyOf Tryz.f13) []).1
noncomputable def K13_L_0 : List K := (loopAtD [1, 1, 1, 1, 1, 1, 1, 1, 0, 1] [] (bodyOf Tryz.f13) []).2

def st13_L_0 (a0 : List (((Int × Int × Int) × (Int × Int × Int) × Int × Int × Int) × Int × Int)) (a1 : Int × Int × Int) (a2 : Int) (v1 : Int) (v2 : Int) (v3 : Int) : LS := ⟨slN 62 [(0, (.s 0 0 a0.length 11)), (10, (.s 1 0 (F40_L a0 a1 a2).1.length 1)), (11, (.s 2 0 (F40_L a0 a1 a2).2.length 1)), (12, (iv v1)), (13, (iv v2)), (14, (iv v3))], [(.live false true (flat c63 a0)), (.live true true (flat c3 (F40_L a0 a1 a2).1)), (.live true true (flat c3 (F40_L a0 a1 a2).2))]⟩

def S13_L_0 (a0 : List (((Int × Int × Int) × (Int × Int × Int) × Int × Int × Int) × Int × Int)) (a1 : Int × Int × Int) (a2 : Int) : Int × Int × Int → (Int × Int × Int) ⊕ (Int × Int × Int)
  | (v1, v2, v3) =>
   (bif (decide ((v3 : Int) < ((a0.length : Nat) : Int))) then
    (.inl ((if (((F40_L a0 a1 a2).1.getD (Int.toNat v3) default) : Int) < v1 then ((F40_L a0 a1 a2).1.getD (Int.toNat v3) default) else v1), (if (v2 : Int) < ((F40_L a0 a1 a2).2.getD (Int.toNat v3) default) then ((F40_L a0 a1 a2).2.getD (Int.toNat v3) default) else v2), (v3 + 1)))
   else
    (.inr (v1, v2, 0)))

set_option maxHeartbeats 4000000 in
theorem L13_L_0 (a0 : List (((Int × Int × Int) × (Int × Int × Int) × Int × Int × Int) × Int × Int)) (a1 : Int × Int × Int) (a2 : Int) (l0 : a0.length ≤ 9223372036854775807) {cx : Cx} (hcx : cx.base = 1) : ∀ (n : Nat) (v1 : Int) (v2 : Int) (v3 : Int), (0 ≤ v3) ∧ (v3 ≤ a0.length) ∧ ((F40_L a0 a1 a2).1.length = a0.length) ∧ ((F40_L a0 a1 a2).2.length = a0.length) ∧ (a0.length ≤ 16) → Int.toNat (((a0.length : Nat) : Int) - v3) < n → Aw.Good Tryz.prog none 9 (bodyPost Tryz.prog Tryz.f13 (RR cx (.t (k3 (loopF (S13_L_0 a0 a1 a2) n (v1, v2, v3)))) [] [])) cx [] (.l B13_L_0 n :: K13_L_0) (st13_L_0 a0 a1 a2 v1 v2 v3) := by
  intro n
  induction n with
  | zero => intro v1 v2 v3 hi hn; exact absurd hn (Nat.not_lt_zero _)
  | succ n ih =>
    intro v1 v2 v3 hi hn
    refine good_round ?_
    cases h0 : (decide ((v3 : Int) < ((a0.length : Nat) : Int))) with
    | true =>
     have q0 := of_decide_eq_true h0
     have e := Eq.refl (S13_L_0 a0 a1 a2 (v1, v2, v3)); conv at e => rhs; simp only [S13_L_0, h0, cond_true, cond_false]
     rw [loopF_inl e]
     refine ba [.d h0, .i v3 ((F40_L a0 a1 a2).1.length), .L c3_len (F40_L a0 a1 a2).1 v3 0 1, .i v3 ((F40_L a0 a1 a2).2.length), .L c3_len (F40_L a0 a1 a2).2 v3 0 1] [] [0, 10, 11, 12, 13, 14] [1, 2] hcx (m := n) B13_L_0 (K13_L_0) (st13_L_0 a0 a1 a2 (if (((F40_L a0 a1 a2).1.getD (Int.toNat v3) default) : Int) < v1 then ((F40_L a0 a1 a2).1.getD (Int.toNat v3) default) else v1) (if (v2 : Int) < ((F40_L a0 a1 a2).2.getD (Int.toNat v3) default) then ((F40_L a0 a1 a2).2.getD (Int.toNat v3) default) else v2) (W (v3 + 1))) (by kernel_rfl) ?_
     have z0 : (W (v3 + 1)) = (v3 + 1) := W_eq (by omega) (by omega)
     rw [z0]
     exact ih (if (((F40_L a0 a1 a2).1.getD (Int.toNat v3) default) : Int) < v1 then ((F40_L a0 a1 a2).1.getD (Int.toNat v3) default) else v1) (if (v2 : Int) < ((F40_L a0 a1 a2).2.getD (Int.toNat v3) default) then ((F40_L a0 a1 a2).2.getD (Int.toNat v3) default) else v2) (v3 + 1) (by refine ⟨?_, ?_, ?_, ?_, ?_⟩ <;> (try simp only [List.length_append, List.length_cons, List.length_nil, Int.toNat_zero]) <;> first | omega | assumption | simp) (by (try simp only [List.length_append, List.length_cons, List.length_nil, Int.toNat_zero]); omega)
    | false =>
     have q0 := of_decide_eq_false h0
     have e := Eq.refl (S13_L_0 a0 a1 a2 (v1, v2, v3)); conv at e => rhs; simp only [S13_L_0, h0, cond_true, cond_false]
     rw [loopF_s, e]
     exact rt [.d h0] [] [] hcx (by kernel_rfl)

def F13_L (a0 : List (((Int × Int × Int) × (Int × Int × Int) × Int × Int × Int) × Int × Int)) (a1 : Int × Int × Int) (a2 : Int) : Int × Int × Int :=
  (bif (((F38_L a0) : Int) != 0) then
   (0, 0, (F38_L a0))
  else
   (bif (((F39 a1 a2 0 0) : Int) != 0) then
    (0, 0, (F39 a1 a2 0 0))
   else
    (bif ((((a0.length : Nat) : Int) : Int) == 0) then
     (0, 0, 5)
    else
     (loopF (S13_L_0 a0 a1 a2) (Int.toNat (((a0.length : Nat) : Int) - 0) + 1) (((F40_L a0 a1 a2).1.getD (Int.toNat 0) default), ((F40_L a0 a1 a2).2.getD (Int.toNat 0) default), 0)))))

theorem C13_L (a0 : List (((Int × Int × Int) × (Int × Int × Int) × Int × Int × Int) × Int × Int)) (a1 : Int × Int × Int) (a2 : Int) (l0 : a0.length ≤ 9223372036854775807) : Con Tryz.prog 13 [(.s 0 0 a0.length 11), (.a (k3 a1)), (iv a2)] [(.live false true (flat c63 a0))] (.t (k3 (F13_L a0 a1 a2))) [] := by
  refine con_s Tryz.func13 (by kernel_rfl) fun cx hcx => ?_
  try have hv := (vpl_r a0).symm.trans (bne_eq_false_iff_eq.1 h0)
  try have hl16 := (vpL_ok ((vpl_r a0).symm.trans (bne_eq_false_iff_eq.1 h0))).1
  try have ht1 := times_len1 ((vpl_r a0).symm.trans (bne_eq_false_iff_eq.1 h0)) (ask_p h1).1 (ask_p h1).2.1
  try have ht2 := times_len2 ((vpl_r a0).symm.trans (bne_eq_false_iff_eq.1 h0)) (ask_p h1).1 (ask_p h1).2.1
  let t0 : List (St Tryz.prog) := [.c [0] (C38_L a0 (by (try simp only [List.length_append, List.length_cons, List.length_nil, Int.toNat_zero]); omega))]
  cases h0 : (((F38_L a0) : Int) != 0) with
  | true =>
   have q0 := bne_iff_ne.1 h0
   try have hv := (vpl_r a0).symm.trans (bne_eq_false_iff_eq.1 h0)
   try have hl16 := (vpL_ok ((vpl_r a0).symm.trans (bne_eq_false_iff_eq.1 h0))).1
   try have ht1 := times_len1 ((vpl_r a0).symm.trans (bne_eq_false_iff_eq.1 h0)) (ask_p h1).1 (ask_p h1).2.1
   try have ht2 := times_len2 ((vpl_r a0).symm.trans (bne_eq_false_iff_eq.1 h0)) (ask_p h1).1 (ask_p h1).2.1
   have e := Eq.refl (F13_L a0 a1 a2); conv at e => rhs; simp only [F13_L, h0, cond_true, cond_false]
   rw [e]
   exact rt (t0 ++ [.d h0]) [] [] hcx (by kernel_rfl)
  | false =>
   have q0 := bne_eq_false_iff_eq.1 h0
   try have hv := (vpl_r a0).symm.trans (bne_eq_false_iff_eq.1 h0)
   try have hl16 := (vpL_ok ((vpl_r a0).symm.trans (bne_eq_false_iff_eq.1 h0))).1
   try have ht1 := times_len1 ((vpl_r a0).symm.trans (bne_eq_false_iff_eq.1 h0)) (ask_p h1).1 (ask_p h1).2.1
   try have ht2 := times_len2 ((vpl_r a0).symm.trans (bne_eq_false_iff_eq.1 h0)) (ask_p h1).1 (ask_p h1).2.1
   let t1 : List (St Tryz.prog) := (t0 ++ [.d h0, .c [] (C39 a1 a2 0 0)])
   cases h1 : (((F39 a1 a2 0 0) : Int) != 0) with
   | true =>
    have q1 := bne_iff_ne.1 h1
    try have hv := (vpl_r a0).symm.trans (bne_eq_false_iff_eq.1 h0)
    try have hl16 := (vpL_ok ((vpl_r a0).symm.trans (bne_eq_false_iff_eq.1 h0))).1
    try have ht1 := times_len1 ((vpl_r a0).symm.trans (bne_eq_false_iff_eq.1 h0)) (ask_p h1).1 (ask_p h1).2.1
    try have ht2 := times_len2 ((vpl_r a0).symm.trans (bne_eq_false_iff_eq.1 h0)) (ask_p h1).1 (ask_p h1).2.1
    have e := Eq.refl (F13_L a0 a1 a2); conv at e => rhs; simp only [F13_L, h0, h1, cond_true, cond_false]
    rw [e]
    exact rt (t1 ++ [.d h1]) [] [] hcx (by kernel_rfl)
   | false =>
    have q1 := bne_eq_false_iff_eq.1 h1
    try have hv := (vpl_r a0).symm.trans (bne_eq_false_iff_eq.1 h0)
    try have hl16 := (vpL_ok ((vpl_r a0).symm.trans (bne_eq_false_iff_eq.1 h0))).1
    try have ht1 := times_len1 ((vpl_r a0).symm.trans (bne_eq_false_iff_eq.1 h0)) (ask_p h1).1 (ask_p h1).2.1
    try have ht2 := times_len2 ((vpl_r a0).symm.trans (bne_eq_false_iff_eq.1 h0)) (ask_p h1).1 (ask_p h1).2.1
    let t2 : List (St Tryz.prog) := (t1 ++ [.d h1])
    cases h2 : ((((a0.length : Nat) : Int) : Int) == 0) with
    | true =>
     have q2 := eq_of_beq h2
     try have hv := (vpl_r a0).symm.trans (bne_eq_false_iff_eq.1 h0)
     try have hl16 := (vpL_ok ((vpl_r a0).symm.trans (bne_eq_false_iff_eq.1 h0))).1
     try have ht1 := times_len1 ((vpl_r a0).symm.trans (bne_eq_false_iff_eq.1 h0)) (ask_p h1).1 (ask_p h1).2.1
     try have ht2 := times_len2 ((vpl_r a0).symm.trans (bne_eq_false_iff_eq.1 h0)) (ask_p h1).1 (ask_p h1).2.1
     have e := Eq.refl (F13_L a0 a1 a2); conv at e => rhs; simp only [F13_L, h0, h1, h2, cond_true, cond_false]
     rw [e]
     exact rt (t2 ++ [.d h2]) [] [] hcx (by kernel_rfl)
    | false =>
     have q2 := ne_of_beq_false h2
     try have hv := (vpl_r a0).symm.trans (bne_eq_false_iff_eq.1 h0)
     try have hl16 := (vpL_ok ((vpl_r a0).symm.trans (bne_eq_false_iff_eq.1 h0))).1
     try have ht1 := times_len1 ((vpl_r a0).symm.trans (bne_eq_false_iff_eq.1 h0)) (ask_p h1).1 (ask_p h1).2.1
     try have ht2 := times_len2 ((vpl_r a0).symm.trans (bne_eq_false_iff_eq.1 h0)) (ask_p h1).1 (ask_p h1).2.1
     have e := Eq.refl (F13_L a0 a1 a2); conv at e => rhs; simp only [F13_L, h0, h1, h2, cond_true, cond_false]
     rw [e]
     refine en (t2 ++ [.d h2, .c [0] (C40_L a0 a1 a2 (by (try simp only [List.length_append, List.length_cons, List.length_nil, Int.toNat_zero]); omega) (by rw [← vpl_r]; exact bne_eq_false_iff_eq.1 h0) (ask_p h1).1 (ask_p h1).2.1), .i 0 ((F40_L a0 a1 a2).1.length), .L c3_len (F40_L a0 a1 a2).1 0 0 1, .i 0 ((F40_L a0 a1 a2).2.length), .L c3_len (F40_L a0 a1 a2).2 0 0 1]) [] [0, 10, 11, 12, 13, 14] [2, 3] hcx B13_L_0 (K13_L_0) (st13_L_0 a0 a1 a2 ((F40_L a0 a1 a2).1.getD (Int.toNat 0) default) ((F40_L a0 a1 a2).2.getD (Int.toNat 0) default) 0) (Int.toNat (((a0.length : Nat) : Int) - 0) + 1) (by kernel_rfl) ?_
     exact L13_L_0 a0 a1 a2 l0 hcx (Int.toNat (((a0.length : Nat) : Int) - 0) + 1) ((F40_L a0 a1 a2).1.getD (Int.toNat 0) default) ((F40_L a0 a1 a2).2.getD (Int.toNat 0) default) 0 (by refine ⟨?_, ?_, ?_, ?_, ?_⟩ <;> (try simp only [List.length_append, List.length_cons, List.length_nil, Int.toNat_zero]) <;> first | omega | assumption | simp) (by (try simp only [List.length_append, List.length_cons, List.length_nil, Int.toNat_zero]); omega)

noncomputable def B16_L_L_0 : Code := (loopAtD [1, 1, 0, 1] [] (bodyOf Tryz.f16) []).1
noncomputable def K16_L_L_0 : List K := (loopAtD [1, 1, 0, 1] [] (bodyOf Tryz.f16) []).2

def st16_L_L_0 (a0 : List (Int)) (a1 : List (Int)) (v1 : Int) : LS := ⟨slN 26 [(0, (.s 0 0 a0.length 1)), (1, (.s 1 0 a1.length 1)), (5, (iv v1))], [(.live false true (flat c3 a0)), (.live false true (flat c3 a1))]⟩

def S16_L_L_0 (a0 : List (Int)) (a1 : List (Int)) : Int → (Int) ⊕ (Bool)
  | v1 =>
   (bif (decide ((v1 : Int) < ((a0.length : Nat) : Int))) then
    (bif (((a0.getD (Int.toNat v1) default) : Int) != (a1.getD (Int.toNat v1) default)) then
     (.inr false)
    else
     (.inl (v1 + 1)))
   else
    (.inr true))

set_option maxHeartbeats 4000000 in
theorem L16_L_L_0 (a0 : List (Int)) (a1 : List (Int)) (l0 : a0.length ≤ 9223372036854775807) (l1 : a1.length ≤ 9223372036854775807) {cx : Cx} (hcx : cx.base = 2) : ∀ (n : Nat) (v1 : Int), (0 ≤ v1) ∧ (a0.length = a1.length) → Int.toNat (((a0.length : Nat) : Int) - v1) < n → Aw.Good Tryz.prog none 9 (bodyPost Tryz.prog Tryz.f16 (RR cx (.v (.bool (loopF (S16_L_L_0 a0 a1) n v1))) [] [])) cx [] (.l B16_L_L_0 n :: K16_L_L_0) (st16_L_L_0 a0 a1 v1) := by
  intro n
  induction n with
  | zero => intro v1 hi hn; exact absurd hn (Nat.not_lt_zero _)
  | succ n ih =>
    intro v1 hi hn
    refine good_round ?_
    cases h0 : (decide ((v1 : Int) < ((a0.length : Nat) : Int))) with
    | true =>
     have q0 := of_decide_eq_true h0
     let t1 : List (St Tryz.prog) := [.d h0, .i v1 (a0.length), .L c3_len a0 v1 0 1, .i v1 (a1.length), .L c3_len a1 v1 0 1]
     cases h1 : (((a0.getD (Int.toNat v1) default) : Int) != (a1.getD (Int.toNat v1) default)) with
     | true =>
      have q1 := bne_iff_ne.1 h1
      have e := Eq.refl (S16_L_L_0 a0 a1 v1); conv at e => rhs; simp only [S16_L_L_0, h0, h1, cond_true, cond_false]
      rw [loopF_s, e]
      exact rt (t1 ++ [.d h1]) [] [] hcx (by kernel_rfl)
     | false =>
      have q1 := bne_eq_false_iff_eq.1 h1
      have e := Eq.refl (S16_L_L_0 a0 a1 v1); conv at e => rhs; simp only [S16_L_L_0, h0, h1, cond_true, cond_false]
      rw [loopF_inl e]
      refine ba (t1 ++ [.d h1]) [] [0, 1, 5] [] hcx (m := n) B16_L_L_0 (K16_L_L_0) (st16_L_L_0 a0 a1 (W (v1 + 1))) (by kernel_rfl) ?_
      have z0 : (W (v1 + 1)) = (v1 + 1) := W_eq (by omega) (by omega)
      rw [z0]
      exact ih (v1 + 1) (by refine ⟨?_, ?_⟩ <;> (try simp only [List.length_append, List.length_cons, List.length_nil, Int.toNat_zero]) <;> first | omega | assumption | simp) (by (try simp only [List.length_append, List.length_cons, List.length_nil, Int.toNat_zero]); omega)
    | false =>
     have q0 := of_decide_eq_false h0
     have e := Eq.refl (S16_L_L_0 a0 a1 v1); conv at e => rhs; simp only [S16_L_L_0, h0, cond_true, cond_false]
     rw [loopF_s, e]
     exact rt [.d h0] [] [] hcx (by kernel_rfl)

def F16_L_L (a0 : List (Int)) (a1 : List (Int)) : Bool :=
  (bif ((((a0.length : Nat) : Int) : Int) != ((a1.length : Nat) : Int)) then
   false
  else
   (loopF (S16_L_L_0 a0 a1) (Int.toNat (((a0.length : Nat) : Int) - 0) + 1) 0))

theorem C16_L_L (a0 : List (Int)) (a1 : List (Int)) (l0 : a0.length ≤ 9223372036854775807) (l1 : a1.length ≤ 9223372036854775807) : Con Tryz.prog 16 [(.s 0 0 a0.length 1), (.s 1 0 a1.length 1)] [(.live false true (flat c3 a0)), (.live false true (flat c3 a1))] (.v (.bool (F16_L_L a0 a1))) [] := by
  refine con_s Tryz.func16 (by kernel_rfl) fun cx hcx => ?_
  cases h0 : ((((a0.length : Nat) : Int) : Int) != ((a1.length : Nat) : Int)) with
  | true =>
   have q0 := bne_iff_ne.1 h0
   have e := Eq.refl (F16_L_L a0 a1); conv at e => rhs; simp only [F16_L_L, h0, cond_true, cond_false]
   rw [e]
   exact rt [.d h0] [] [] hcx (by kernel_rfl)
  | false =>
   have q0 := bne_eq_false_iff_eq.1 h0
   have e := Eq.refl (F16_L_L a0 a1); conv at e => rhs; simp only [F16_L_L, h0, cond_true, cond_false]
   rw [e]
   refine en [.d h0] [] [0, 1, 5] [] hcx B16_L_L_0 (K16_L_L_0) (st16_L_L_0 a0 a1 0) (Int.toNat (((a0.length : Nat) : Int) - 0) + 1) (by kernel_rfl) ?_
   exact L16_L_L_0 a0 a1 l0 l1 hcx (Int.toNat (((a0.length : Nat) : Int) - 0) + 1) 0 (by refine ⟨?_, ?_⟩ <;> (try simp only [List.length_append, List.length_cons, List.length_nil, Int.toNat_zero]) <;> first | omega | assumption | simp) (by (try simp only [List.length_append, List.length_cons, List.length_nil, Int.toNat_zero]); omega)

end Go.Proofs.YtcnnmgooolnebaaGreat

namespace Go.Proofs.YtcnnmgooolnebaaGreat
open Go.Proofs Go.Aw Go.RowKit
set_option maxRecDepth 100000
set_option linter.unusedVariables false
set_option linter.unusedSimpArgs false

noncomputable def B15_L_1 : Code := (loopAtD [1, 1, 1, 1, 1, 1, 1, 0, 1, 0, 1, 0, 1, 1] [0] (bodyOf Tryz.f15) []).1
noncomputable def K15_L_1 (m0 : Nat) : List K := (loopAtD [1, 1, 1, 1, 1, 1, 1, 0, 1, 0, 1, 0, 1, 1] [m0] (bodyOf Tryz.f15) []).2

def st15_L_1 (a0 : List (((Int × Int × Int) × (Int × Int × Int) × Int × Int × Int) × Int × Int)) (a1 : Int × Int × Int) (a2 : Int) (v5c : List SV) (v5n : Nat) (v6 : Int) (v7 : Int) : LS := ⟨slN 99 [(0, (.s 0 0 a0.length 11)), (9, (.s 1 0 (F40_L a0 a1 a2).1.length 1)), (10, (.s 2 0 (F40_L a0 a1 a2).2.length 1)), (11, (.s 3 0 v5n 1)), (12, (iv v6)), (13, (iv v7))], [(.live false true (flat c63 a0)), (.live true true (flat c3 (F40_L a0 a1 a2).1)), (.live true true (flat c3 (F40_L a0 a1 a2).2)), (.live true true v5c)]⟩

def S15_L_1 (a0 : List (((Int × Int × Int) × (Int × Int × Int) × Int × Int × Int) × Int × Int)) (a1 : Int × Int × Int) (a2 : Int) : List (Int) × Int × Int → (List (Int) × Int × Int) ⊕ ((List (Int) × Int) ⊕ (List (Int) × Int))
  | (v5, v6, v7) =>
   (bif (decide ((v7 : Int) > 0)) then
    (bif (decide ((((F40_L a0 a1 a2).1.getD (Int.toNat (v5.getD (Int.toNat (W (v7 - 1))) default)) default) : Int) < ((F40_L a0 a1 a2).1.getD (Int.toNat (v5.getD (Int.toNat v7) default)) default))) then
     (.inr (.inl (v5, (v6 + 1))))
    else
     (bif ((((F40_L a0 a1 a2).1.getD (Int.toNat (v5.getD (Int.toNat (W (v7 - 1))) default)) default) : Int) == ((F40_L a0 a1 a2).1.getD (Int.toNat (v5.getD (Int.toNat v7) default)) default)) then
      (bif (decide ((((F40_L a0 a1 a2).2.getD (Int.toNat (v5.getD (Int.toNat (W (v7 - 1))) default)) default) : Int) ≤ ((F40_L a0 a1 a2).2.getD (Int.toNat (v5.getD (Int.toNat v7) default)) default))) then
       (.inr (.inl (v5, (v6 + 1))))
      else
       (.inl (((v5.set (Int.toNat (W (v7 - 1))) (v5.getD (Int.toNat v7) default)).set (Int.toNat v7) (v5.getD (Int.toNat (W (v7 - 1))) default)), v6, (W (v7 - 1)))))
     else
      (.inl (((v5.set (Int.toNat (W (v7 - 1))) (v5.getD (Int.toNat v7) default)).set (Int.toNat v7) (v5.getD (Int.toNat (W (v7 - 1))) default)), v6, (W (v7 - 1))))))
   else
    (.inr (.inl (v5, (v6 + 1)))))

noncomputable def B15_L_0 : Code := (loopAtD [1, 1, 1, 1, 1, 1, 1, 0, 1] [] (bodyOf Tryz.f15) []).1
noncomputable def K15_L_0 : List K := (loopAtD [1, 1, 1, 1, 1, 1, 1, 0, 1] [] (bodyOf Tryz.f15) []).2

def st15_L_0 (a0 : List (((Int × Int × Int) × (Int × Int × Int) × Int × Int × Int) × Int × Int)) (a1 : Int × Int × Int) (a2 : Int) (v3c : List SV) (v3n : Nat) (v4 : Int) : LS := ⟨slN 99 [(0, (.s 0 0 a0.length 11)), (9, (.s 1 0 (F40_L a0 a1 a2).1.length 1)), (10, (.s 2 0 (F40_L a0 a1 a2).2.length 1)), (11, (.s 3 0 v3n 1)), (12, (iv v4))], [(.live false true (flat c63 a0)), (.live true true (flat c3 (F40_L a0 a1 a2).1)), (.live true true (flat c3 (F40_L a0 a1 a2).2)), (.live true true v3c)]⟩

def S15_L_0 (a0 : List (((Int × Int × Int) × (Int × Int × Int) × Int × Int × Int) × Int × Int)) (a1 : Int × Int × Int) (a2 : Int) : List (Int) × Int → (List (Int) × Int) ⊕ (List (Int) × Int)
  | (v3, v4) =>
   (bif (decide ((v4 : Int) < ((a0.length : Nat) : Int))) then
    (loopF (S15_L_1 a0 a1 a2) (Int.toNat v4 + 1) ((v3 ++ [v4]), v4, v4))
   else
    (.inr (v3, 0)))

set_option maxHeartbeats 4000000 in
theorem L15_L_1 (a0 : List (((Int × Int × Int) × (Int × Int × Int) × Int × Int × Int) × Int × Int)) (a1 : Int × Int × Int) (a2 : Int) (l0 : a0.length ≤ 9223372036854775807) {cx : Cx} (hcx : cx.base = 1)
    (n0 : Nat) (g0 : ∀ (v3 : List (Int)) (v4 : Int), (0 ≤ v4) ∧ (v3.length = Int.toNat v4) ∧ (InR a0.length v3) ∧ (v4 ≤ a0.length) ∧ ((F40_L a0 a1 a2).1.length = a0.length) ∧ ((F40_L a0 a1 a2).2.length = a0.length) ∧ (a0.length ≤ 16) → Int.toNat (((a0.length : Nat) : Int) - v4) < n0 → Aw.Good Tryz.prog none 9 (bodyPost Tryz.prog Tryz.f15 (RR cx (.t [(.s 1 0 (loopF (S15_L_0 a0 a1 a2) n0 (v3, v4)).1.length 1), (iv (loopF (S15_L_0 a0 a1 a2) n0 (v3, v4)).2)]) [(.live true true (flat c3 (loopF (S15_L_0 a0 a1 a2) n0 (v3, v4)).1))] [])) cx [] (.l B15_L_0 n0 :: K15_L_0) (st15_L_0 a0 a1 a2 (flat c3 v3) v3.length v4)) : ∀ (n : Nat) (v5 : List (Int)) (v6 : Int) (v7 : Int), (v5.length = Int.toNat v6 + 1) ∧ (InR a0.length v5) ∧ (0 ≤ v6) ∧ (v6 < a0.length) ∧ (0 ≤ v7) ∧ (v7 ≤ v6) ∧ ((F40_L a0 a1 a2).1.length = a0.length) ∧ ((F40_L a0 a1 a2).2.length = a0.length) ∧ (a0.length ≤ 16) ∧ ((0 ≤ v6)) ∧ ((InR a0.length v5)) ∧ ((v6 ≤ a0.length)) ∧ (((F40_L a0 a1 a2).1.length = a0.length)) ∧ (((F40_L a0 a1 a2).2.length = a0.length)) ∧ ((a0.length ≤ 16)) ∧ (v6 < ((a0.length : Nat) : Int)) ∧ (Int.toNat (((a0.length : Nat) : Int) - v6) < n0 + 1) → Int.toNat v7 < n → Aw.Good Tryz.prog none 9 (bodyPost Tryz.prog Tryz.f15 (RR cx (.t [(.s 1 0 (thenF (S15_L_0 a0 a1 a2) n0 (loopF (S15_L_1 a0 a1 a2) n (v5, v6, v7))).1.length 1), (iv (thenF (S15_L_0 a0 a1 a2) n0 (loopF (S15_L_1 a0 a1 a2) n (v5, v6, v7))).2)]) [(.live true true (flat c3 (thenF (S15_L_0 a0 a1 a2) n0 (loopF (S15_L_1 a0 a1 a2) n (v5, v6, v7))).1))] [])) cx [] (.l B15_L_1 n :: K15_L_1 n0) (st15_L_1 a0 a1 a2 (flat c3 v5) v5.length v6 v7) := by
  intro n
  induction n with
  | zero => intro v5 v6 v7 hi hn; exact absurd hn (Nat.not_lt_zero _)
  | succ n ih =>
    intro v5 v6 v7 hi hn
    refine good_round ?_
    have hw_k := W_eq (n := v7 - 1) (by omega) (by omega)
    try have hr1 := hi.2.1.at (i := Int.toNat (W (v7 - 1))) (by have _ := h0; omega)
    try have hr2 := hi.2.1.at (i := Int.toNat v7) (by have _ := h0; omega)
    cases h0 : (decide ((v7 : Int) > 0)) with
    | true =>
     have q0 := of_decide_eq_true h0
     try have hr1 := hi.2.1.at (i := Int.toNat (W (v7 - 1))) (by have _ := h0; omega)
     try have hr2 := hi.2.1.at (i := Int.toNat v7) (by have _ := h0; omega)
     let t1 : List (St Tryz.prog) := [.d h0, .i (W (v7 - 1)) (v5.length), .L c3_len v5 (W (v7 - 1)) 0 1, .i v7 (v5.length), .L c3_len v5 v7 0 1, .i (v5.getD (Int.toNat (W (v7 - 1))) default) ((F40_L a0 a1 a2).1.length), .L c3_len (F40_L a0 a1 a2).1 (v5.getD (Int.toNat (W (v7 - 1))) default) 0 1, .i (v5.getD (Int.toNat v7) default) ((F40_L a0 a1 a2).1.length), .L c3_len (F40_L a0 a1 a2).1 (v5.getD (Int.toNat v7) default) 0 1]
     cases h1 : (decide ((((F40_L a0 a1 a2).1.getD (Int.toNat (v5.getD (Int.toNat (W (v7 - 1))) default)) default) : Int) < ((F40_L a0 a1 a2).1.getD (Int.toNat (v5.getD (Int.toNat v7) default)) default))) with
     | true =>
      have q1 := of_decide_eq_true h1
      try have hr1 := hi.2.1.at (i := Int.toNat (W (v7 - 1))) (by have _ := h0; omega)
      try have hr2 := hi.2.1.at (i := Int.toNat v7) (by have _ := h0; omega)
      have e := Eq.refl (S15_L_1 a0 a1 a2 (v5, v6, v7)); conv at e => rhs; simp only [S15_L_1, h0, h1, cond_true, cond_false]
      rw [loopF_s, e]
      refine ba (t1 ++ [.d h1]) [] [0, 9, 10, 11, 12] [1, 2, 3] hcx (m := n0) B15_L_0 (K15_L_0) (st15_L_0 a0 a1 a2 (flat c3 v5) (v5.length) (W (v6 + 1))) (by kernel_rfl) ?_
      have z0 : (W (v6 + 1)) = (v6 + 1) := W_eq (by omega) (by omega)
      rw [z0]
      exact g0 v5 (v6 + 1) (by refine ⟨?_, ?_, ?_, ?_, ?_, ?_, ?_⟩ <;> first | omega | assumption | exact InR.nil _ | exact hi.2.1 | exact hi.2.2.1 | exact hi.2.1.add (by omega) | exact hi.2.2.1.add (by omega) | exact InR.swap hi.2.1 (by omega) (by omega) | exact InR.swap hi.2.2.1 (by omega) (by omega) | (simp only [List.length_set]; omega) | (simp only [List.length_append, List.length_cons, List.length_nil, Int.toNat_zero]; omega) | simp) (by (try simp only [List.length_append, List.length_cons, List.length_nil, Int.toNat_zero]); omega)
     | false =>
      have q1 := of_decide_eq_false h1
      try have hr1 := hi.2.1.at (i := Int.toNat (W (v7 - 1))) (by have _ := h0; omega)
      try have hr2 := hi.2.1.at (i := Int.toNat v7) (by have _ := h0; omega)
      let t2 : List (St Tryz.prog) := (t1 ++ [.d h1, .i (v5.getD (Int.toNat (W (v7 - 1))) default) ((F40_L a0 a1 a2).1.length), .L c3_len (F40_L a0 a1 a2).1 (v5.getD (Int.toNat (W (v7 - 1))) default) 0 1, .i (v5.getD (Int.toNat v7) default) ((F40_L a0 a1 a2).1.length), .L c3_len (F40_L a0 a1 a2).1 (v5.getD (Int.toNat v7) default) 0 1])
      cases h2 : ((((F40_L a0 a1 a2).1.getD (Int.toNat (v5.getD (Int.toNat (W (v7 - 1))) default)) default) : Int) == ((F40_L a0 a1 a2).1.getD (Int.toNat (v5.getD (Int.toNat v7) default)) default)) with
      | true =>
       have q2 := eq_of_beq h2
       try have hr1 := hi.2.1.at (i := Int.toNat (W (v7 - 1))) (by have _ := h0; omega)
       try have hr2 := hi.2.1.at (i := Int.toNat v7) (by have _ := h0; omega)
       let t3 : List (St Tryz.prog) := (t2 ++ [.d h2, .i (v5.getD (Int.toNat (W (v7 - 1))) default) ((F40_L a0 a1 a2).2.length), .L c3_len (F40_L a0 a1 a2).2 (v5.getD (Int.toNat (W (v7 - 1))) default) 0 1, .i (v5.getD (Int.toNat v7) default) ((F40_L a0 a1 a2).2.length), .L c3_len (F40_L a0 a1 a2).2 (v5.getD (Int.toNat v7) default) 0 1])
       cases h3 : (decide ((((F40_L a0 a1 a2).2.getD (Int.toNat (v5.getD (Int.toNat (W (v7 - 1))) default)) default) : Int) ≤ ((F40_L a0 a1 a2).2.getD (Int.toNat (v5.getD (Int.toNat v7) default)) default))) with
       | true =>
        have q3 := of_decide_eq_true h3
        try have hr1 := hi.2.1.at (i := Int.toNat (W (v7 - 1))) (by have _ := h0; omega)
        try have hr2 := hi.2.1.at (i := Int.toNat v7) (by have _ := h0; omega)
        have e := Eq.refl (S15_L_1 a0 a1 a2 (v5, v6, v7)); conv at e => rhs; simp only [S15_L_1, h0, h1, h2, h3, cond_true, cond_false]
        rw [loopF_s, e]
        refine ba (t3 ++ [.d h3]) [] [0, 9, 10, 11, 12] [1, 2, 3] hcx (m := n0) B15_L_0 (K15_L_0) (st15_L_0 a0 a1 a2 (flat c3 v5) (v5.length) (W (v6 + 1))) (by kernel_rfl) ?_
        have z0 : (W (v6 + 1)) = (v6 + 1) := W_eq (by omega) (by omega)
        rw [z0]
        exact g0 v5 (v6 + 1) (by refine ⟨?_, ?_, ?_, ?_, ?_, ?_, ?_⟩ <;> first | omega | assumption | exact InR.nil _ | exact hi.2.1 | exact hi.2.2.1 | exact hi.2.1.add (by omega) | exact hi.2.2.1.add (by omega) | exact InR.swap hi.2.1 (by omega) (by omega) | exact InR.swap hi.2.2.1 (by omega) (by omega) | (simp only [List.length_set]; omega) | (simp only [List.length_append, List.length_cons, List.length_nil, Int.toNat_zero]; omega) | simp) (by (try simp only [List.length_append, List.length_cons, List.length_nil, Int.toNat_zero]); omega)
       | false =>
        have q3 := of_decide_eq_false h3
        try have hr1 := hi.2.1.at (i := Int.toNat (W (v7 - 1))) (by have _ := h0; omega)
        try have hr2 := hi.2.1.at (i := Int.toNat v7) (by have _ := h0; omega)
        have e := Eq.refl (S15_L_1 a0 a1 a2 (v5, v6, v7)); conv at e => rhs; simp only [S15_L_1, h0, h1, h2, h3, cond_true, cond_false]
        rw [loopF_inl e]
        refine ba (t3 ++ [.d h3, .i (W (v7 - 1)) (v5.length), .p (show ((0 + Int.toNat (W (v7 - 1)) * 1) + 1 ≤ (flat c3 v5).length) from (flat_setl c3_len (by first | omega | (simp only [List.length_set]; omega)) (i := Int.toNat (W (v7 - 1))) (o := 0) (n := 1) (Nat.le_of_ble_eq_true rfl))), .i v7 (v5.length), .p (show ((0 + Int.toNat v7 * 1) + 1 ≤ (splice (flat c3 v5) (0 + Int.toNat (W (v7 - 1)) * 1) [(iv (v5.getD (Int.toNat v7) default))]).length) from (by rw [show (splice (flat c3 v5) (0 + Int.toNat (W (v7 - 1)) * 1) [(iv (v5.getD (Int.toNat v7) default))]) = flat c3 (v5.set (Int.toNat (W (v7 - 1))) (v5.getD (Int.toNat v7) default)) from (flat_set c3_len (by first | omega | (simp only [List.length_set]; omega)) (i := Int.toNat (W (v7 - 1))) (o := 0) (d := default) (y := (v5.getD (Int.toNat v7) default)) (Nat.le_of_ble_eq_true rfl) rfl)]; exact flat_setl c3_len (by first | omega | (simp only [List.length_set]; omega)) (i := Int.toNat v7) (o := 0) (n := 1) (Nat.le_of_ble_eq_true rfl)))]) [] [0, 9, 10, 11, 12, 13] [1, 2, 3] hcx (m := n) B15_L_1 (K15_L_1 n0) (st15_L_1 a0 a1 a2 (splice (splice (flat c3 v5) (0 + Int.toNat (W (v7 - 1)) * 1) [(iv (v5.getD (Int.toNat v7) default))]) (0 + Int.toNat v7 * 1) [(iv (v5.getD (Int.toNat (W (v7 - 1))) default))]) (v5.length) v6 (W (v7 - 1))) (by kernel_rfl) ?_
        have z0 : (splice (splice (flat c3 v5) (0 + Int.toNat (W (v7 - 1)) * 1) [(iv (v5.getD (Int.toNat v7) default))]) (0 + Int.toNat v7 * 1) [(iv (v5.getD (Int.toNat (W (v7 - 1))) default))]) = flat c3 ((v5.set (Int.toNat (W (v7 - 1))) (v5.getD (Int.toNat v7) default)).set (Int.toNat v7) (v5.getD (Int.toNat (W (v7 - 1))) default)) := (by rw [show (splice (flat c3 v5) (0 + Int.toNat (W (v7 - 1)) * 1) [(iv (v5.getD (Int.toNat v7) default))]) = flat c3 (v5.set (Int.toNat (W (v7 - 1))) (v5.getD (Int.toNat v7) default)) from (flat_set c3_len (by first | omega | (simp only [List.length_set]; omega)) (i := Int.toNat (W (v7 - 1))) (o := 0) (d := default) (y := (v5.getD (Int.toNat v7) default)) (Nat.le_of_ble_eq_true rfl) rfl)]; exact flat_set c3_len (by first | omega | (simp only [List.length_set]; omega)) (i := Int.toNat v7) (o := 0) (d := default) (y := (v5.getD (Int.toNat (W (v7 - 1))) default)) (Nat.le_of_ble_eq_true rfl) rfl)
        have z1 : v5.length = ((v5.set (Int.toNat (W (v7 - 1))) (v5.getD (Int.toNat v7) default)).set (Int.toNat v7) (v5.getD (Int.toNat (W (v7 - 1))) default)).length := by simp
        rw [z0, z1]
        exact ih ((v5.set (Int.toNat (W (v7 - 1))) (v5.getD (Int.toNat v7) default)).set (Int.toNat v7) (v5.getD (Int.toNat (W (v7 - 1))) default)) v6 (W (v7 - 1)) (by refine ⟨?_, ?_, ?_, ?_, ?_, ?_, ?_, ?_, ?_, ?_, ?_, ?_, ?_, ?_, ?_, ?_, ?_⟩ <;> first | omega | assumption | exact InR.nil _ | exact hi.2.1 | exact hi.2.2.1 | exact hi.2.1.add (by omega) | exact hi.2.2.1.add (by omega) | exact InR.swap hi.2.1 (by omega) (by omega) | exact InR.swap hi.2.2.1 (by omega) (by omega) | (simp only [List.length_set]; omega) | (simp only [List.length_append, List.length_cons, List.length_nil, Int.toNat_zero]; omega) | simp) (by (try simp only [List.length_append, List.length_cons, List.length_nil, Int.toNat_zero]); omega)
      | false =>
       have q2 := ne_of_beq_false h2
       try have hr1 := hi.2.1.at (i := Int.toNat (W (v7 - 1))) (by have _ := h0; omega)
       try have hr2 := hi.2.1.at (i := Int.toNat v7) (by have _ := h0; omega)
       have e := Eq.refl (S15_L_1 a0 a1 a2 (v5, v6, v7)); conv at e => rhs; simp only [S15_L_1, h0, h1, h2, cond_true, cond_false]
       rw [loopF_inl e]
       refine ba (t2 ++ [.d h2, .i (W (v7 - 1)) (v5.length), .p (show ((0 + Int.toNat (W (v7 - 1)) * 1) + 1 ≤ (flat c3 v5).length) from (flat_setl c3_len (by first | omega | (simp only [List.length_set]; omega)) (i := Int.toNat (W (v7 - 1))) (o := 0) (n := 1) (Nat.le_of_ble_eq_true rfl))), .i v7 (v5.length), .p (show ((0 + Int.toNat v7 * 1) + 1 ≤ (splice (flat c3 v5) (0 + Int.toNat (W (v7 - 1)) * 1) [(iv (v5.getD (Int.toNat v7) default))]).length) from (by rw [show (splice (flat c3 v5) (0 + Int.toNat (W (v7 - 1)) * 1) [(iv (v5.getD (Int.toNat v7) default))]) = flat c3 (v5.set (Int.toNat (W (v7 - 1))) (v5.getD (Int.toNat v7) default)) from (flat_set c3_len (by first | omega | (simp only [List.length_set]; omega)) (i := Int.toNat (W (v7 - 1))) (o := 0) (d := default) (y := (v5.getD (Int.toNat v7) default)) (Nat.le_of_ble_eq_true rfl) rfl)]; exact flat_setl c3_len (by first | omega | (simp only [List.length_set]; omega)) (i := Int.toNat v7) (o := 0) (n := 1) (Nat.le_of_ble_eq_true rfl)))]) [] [0, 9, 10, 11, 12, 13] [1, 2, 3] hcx (m := n) B15_L_1 (K15_L_1 n0) (st15_L_1 a0 a1 a2 (splice (splice (flat c3 v5) (0 + Int.toNat (W (v7 - 1)) * 1) [(iv (v5.getD (Int.toNat v7) default))]) (0 + Int.toNat v7 * 1) [(iv (v5.getD (Int.toNat (W (v7 - 1))) default))]) (v5.length) v6 (W (v7 - 1))) (by kernel_rfl) ?_
       have z0 : (splice (splice (flat c3 v5) (0 + Int.toNat (W (v7 - 1)) * 1) [(iv (v5.getD (Int.toNat v7) default))]) (0 + Int.toNat v7 * 1) [(iv (v5.getD (Int.toNat (W (v7 - 1))) default))]) = flat c3 ((v5.set (Int.toNat (W (v7 - 1))) (v5.getD (Int.toNat v7) default)).set (Int.toNat v7) (v5.getD (Int.toNat (W (v7 - 1))) default)) := (by rw [show (splice (flat c3 v5) (0 + Int.toNat (W (v7 - 1)) * 1) [(iv (v5.getD (Int.toNat v7) default))]) = flat c3 (v5.set (Int.toNat (W (v7 - 1))) (v5.getD (Int.toNat v7) default)) from (flat_set c3_len (by first | omega | (simp only [List.length_set]; omega)) (i := Int.toNat (W (v7 - 1))) (o := 0) (d := default) (y := (v5.getD (Int.toNat v7) default)) (Nat.le_of_ble_eq_true rfl) rfl)]; exact flat_set c3_len (by first | omega | (simp only [List.length_set]; omega)) (i := Int.toNat v7) (o := 0) (d := default) (y := (v5.getD (Int.toNat (W (v7 - 1))) default)) (Nat.le_of_ble_eq_true rfl) rfl)
       have z1 : v5.length = ((v5.set (Int.toNat (W (v7 - 1))) (v5.getD (Int.toNat v7) default)).set (Int.toNat v7) (v5.getD (Int.toNat (W (v7 - 1))) default)).length := by simp
       rw [z0, z1]
       exact ih ((v5.set (Int.toNat (W (v7 - 1))) (v5.getD (Int.toNat v7) default)).set (Int.toNat v7) (v5.getD (Int.toNat (W (v7 - 1))) default)) v6 (W (v7 - 1)) (by refine ⟨?_, ?_, ?_, ?_, ?_, ?_, ?_, ?_, ?_, ?_, ?_, ?_, ?_, ?_, ?_, ?_, ?_⟩ <;> first | omega | assumption | exact InR.nil _ | exact hi.2.1 | exact hi.2.2.1 | exact hi.2.1.add (by omega) | exact hi.2.2.1.add (by omega) | exact InR.swap hi.2.1 (by omega) (by omega) | exact InR.swap hi.2.2.1 (by omega) (by omega) | (simp only [List.length_set]; omega) | (simp only [List.length_append, List.length_cons, List.length_nil, Int.toNat_zero]; omega) | simp) (by (try simp only [List.length_append, List.length_cons, List.length_nil, Int.toNat_zero]); omega)
    | false =>
     have q0 := of_decide_eq_false h0
     try have hr1 := hi.2.1.at (i := Int.toNat (W (v7 - 1))) (by have _ := h0; omega)
     try have hr2 := hi.2.1.at (i := Int.toNat v7) (by have _ := h0; omega)
     have e := Eq.refl (S15_L_1 a0 a1 a2 (v5, v6, v7)); conv at e => rhs; simp only [S15_L_1, h0, cond_true, cond_false]
     rw [loopF_s, e]
     refine ba [.d h0] [] [0, 9, 10, 11, 12] [1, 2, 3] hcx (m := n0) B15_L_0 (K15_L_0) (st15_L_0 a0 a1 a2 (flat c3 v5) (v5.length) (W (v6 + 1))) (by kernel_rfl) ?_
     have z0 : (W (v6 + 1)) = (v6 + 1) := W_eq (by omega) (by omega)
     rw [z0]
     exact g0 v5 (v6 + 1) (by refine ⟨?_, ?_, ?_, ?_, ?_, ?_, ?_⟩ <;> first | omega | assumption | exact InR.nil _ | exact hi.2.1 | exact hi.2.2.1 | exact hi.2.1.add (by omega) | exact hi.2.2.1.add (by omega) | exact InR.swap hi.2.1 (by omega) (by omega) | exact InR.swap hi.2.2.1 (by omega) (by omega) | (simp only [List.length_set]; omega) | (simp only [List.length_append, List.length_cons, List.length_nil, Int.toNat_zero]; omega) | simp) (by (try simp only [List.length_append, List.length_cons, List.length_nil, Int.toNat_zero]); omega)

set_option maxHeartbeats 4000000 in
theorem L15_L_0 (a0 : List (((Int × Int × Int) × (Int × Int × Int) × Int × Int × Int) × Int × Int)) (a1 : Int × Int × Int) (a2 : Int) (l0 : a0.length ≤ 9223372036854775807) {cx : Cx} (hcx : cx.base = 1) : ∀ (n : Nat) (v3 : List (Int)) (v4 : Int), (0 ≤ v4) ∧ (v3.length = Int.toNat v4) ∧ (InR a0.length v3) ∧ (v4 ≤ a0.length) ∧ ((F40_L a0 a1 a2).1.length = a0.length) ∧ ((F40_L a0 a1 a2).2.length = a0.length) ∧ (a0.length ≤ 16) → Int.toNat (((a0.length : Nat) : Int) - v4) < n → Aw.Good Tryz.prog none 9 (bodyPost Tryz.prog Tryz.f15 (RR cx (.t [(.s 1 0 (loopF (S15_L_0 a0 a1 a2) n (v3, v4)).1.length 1), (iv (loopF (S15_L_0 a0 a1 a2) n (v3, v4)).2)]) [(.live true true (flat c3 (loopF (S15_L_0 a0 a1 a2) n (v3, v4)).1))] [])) cx [] (.l B15_L_0 n :: K15_L_0) (st15_L_0 a0 a1 a2 (flat c3 v3) v3.length v4) := by
  intro n
  induction n with
  | zero => intro v3 v4 hi hn; exact absurd hn (Nat.not_lt_zero _)
  | succ n ih =>
    intro v3 v4 hi hn
    refine good_round ?_
    have hw_s12p1 := W_eq (n := v4 + 1) (by omega) (by omega)
    cases h0 : (decide ((v4 : Int) < ((a0.length : Nat) : Int))) with
    | true =>
     have q0 := of_decide_eq_true h0
     have e := Eq.refl (S15_L_0 a0 a1 a2 (v3, v4)); conv at e => rhs; simp only [S15_L_0, h0, cond_true, cond_false]
     rw [loopF_s, e]
     refine en [.d h0, .p (show ((flat c3 v3).length = v3.length * 1 ∧ v3.length + 1 ≤ 2 ^ 40 ∧ (v3.length + 1) * 8 ≤ 2 ^ 47) from app_ok c3_len (by omega) (by omega))] [] [0, 9, 10, 11, 12, 13] [1, 2, 5] hcx B15_L_1 (K15_L_1 n) (st15_L_1 a0 a1 a2 (flat c3 v3 ++ [(iv v4)]) (v3.length + 1) v4 v4) (Int.toNat v4 + 1) (by kernel_rfl) ?_
     have z0 : (flat c3 v3 ++ [(iv v4)]) = (flat c3 (v3 ++ [v4])) := (flat_append (c := c3) (l := v3) (m := [v4])).symm
     have z1 : (v3.length + 1) = (v3 ++ [v4]).length := len_app v3 [v4] rfl
     rw [z0, z1]
     exact L15_L_1 a0 a1 a2 l0 hcx n ih (Int.toNat v4 + 1) (v3 ++ [v4]) v4 v4 (by refine ⟨?_, ?_, ?_, ?_, ?_, ?_, ?_, ?_, ?_, ?_, ?_, ?_, ?_, ?_, ?_, ?_, ?_⟩ <;> first | omega | assumption | exact InR.nil _ | exact hi.2.1 | exact hi.2.2.1 | exact hi.2.1.add (by omega) | exact hi.2.2.1.add (by omega) | exact InR.swap hi.2.1 (by omega) (by omega) | exact InR.swap hi.2.2.1 (by omega) (by omega) | (simp only [List.length_set]; omega) | (simp only [List.length_append, List.length_cons, List.length_nil, Int.toNat_zero]; omega) | simp) (by (try simp only [List.length_append, List.length_cons, List.length_nil, Int.toNat_zero]); omega)
    | false =>
     have q0 := of_decide_eq_false h0
     have e := Eq.refl (S15_L_0 a0 a1 a2 (v3, v4)); conv at e => rhs; simp only [S15_L_0, h0, cond_true, cond_false]
     rw [loopF_s, e]
     exact rt [.d h0] [] [3] hcx (by kernel_rfl)

def F15_L (a0 : List (((Int × Int × Int) × (Int × Int × Int) × Int × Int × Int) × Int × Int)) (a1 : Int × Int × Int) (a2 : Int) : List (Int) × Int :=
  (bif (((F38_L a0) : Int) != 0) then
   (([] : List (Int)), (F38_L a0))
  else
   (bif (((F39 a1 a2 0 0) : Int) != 0) then
    (([] : List (Int)), (F39 a1 a2 0 0))
   else
    (loopF (S15_L_0 a0 a1 a2) (Int.toNat (((a0.length : Nat) : Int) - 0) + 1) (([] : List (Int)), 0))))

theorem C15_L (a0 : List (((Int × Int × Int) × (Int × Int × Int) × Int × Int × Int) × Int × Int)) (a1 : Int × Int × Int) (a2 : Int) (l0 : a0.length ≤ 9223372036854775807) : Con Tryz.prog 15 [(.s 0 0 a0.length 11), (.a (k3 a1)), (iv a2)] [(.live false true (flat c63 a0))] (.t [(.s 1 0 (F15_L a0 a1 a2).1.length 1), (iv (F15_L a0 a1 a2).2)]) [(.live true true (flat c3 (F15_L a0 a1 a2).1))] := by
  refine con_s Tryz.func15 (by kernel_rfl) fun cx hcx => ?_
  try have hv := (vpl_r a0).symm.trans (bne_eq_false_iff_eq.1 h0)
  try have hl16 := (vpL_ok ((vpl_r a0).symm.trans (bne_eq_false_iff_eq.1 h0))).1
  try have ht1 := times_len1 ((vpl_r a0).symm.trans (bne_eq_false_iff_eq.1 h0)) (ask_p h1).1 (ask_p h1).2.1
  try have ht2 := times_len2 ((vpl_r a0).symm.trans (bne_eq_false_iff_eq.1 h0)) (ask_p h1).1 (ask_p h1).2.1
  let t0 : List (St Tryz.prog) := [.c [0] (C38_L a0 (by (try simp only [List.length_append, List.length_cons, List.length_nil, Int.toNat_zero]); omega))]
  cases h0 : (((F38_L a0) : Int) != 0) with
  | true =>
   have q0 := bne_iff_ne.1 h0
   try have hv := (vpl_r a0).symm.trans (bne_eq_false_iff_eq.1 h0)
   try have hl16 := (vpL_ok ((vpl_r a0).symm.trans (bne_eq_false_iff_eq.1 h0))).1
   try have ht1 := times_len1 ((vpl_r a0).symm.trans (bne_eq_false_iff_eq.1 h0)) (ask_p h1).1 (ask_p h1).2.1
   try have ht2 := times_len2 ((vpl_r a0).symm.trans (bne_eq_false_iff_eq.1 h0)) (ask_p h1).1 (ask_p h1).2.1
   have e := Eq.refl (F15_L a0 a1 a2); conv at e => rhs; simp only [F15_L, h0, cond_true, cond_false]
   rw [e]
   exact rt (t0 ++ [.d h0]) [.slot 6 1] [2] hcx (by kernel_rfl)
  | false =>
   have q0 := bne_eq_false_iff_eq.1 h0
   try have hv := (vpl_r a0).symm.trans (bne_eq_false_iff_eq.1 h0)
   try have hl16 := (vpL_ok ((vpl_r a0).symm.trans (bne_eq_false_iff_eq.1 h0))).1
   try have ht1 := times_len1 ((vpl_r a0).symm.trans (bne_eq_false_iff_eq.1 h0)) (ask_p h1).1 (ask_p h1).2.1
   try have ht2 := times_len2 ((vpl_r a0).symm.trans (bne_eq_false_iff_eq.1 h0)) (ask_p h1).1 (ask_p h1).2.1
   let t1 : List (St Tryz.prog) := (t0 ++ [.d h0, .c [] (C39 a1 a2 0 0)])
   cases h1 : (((F39 a1 a2 0 0) : Int) != 0) with
   | true =>
    have q1 := bne_iff_ne.1 h1
    try have hv := (vpl_r a0).symm.trans (bne_eq_false_iff_eq.1 h0)
    try have hl16 := (vpL_ok ((vpl_r a0).symm.trans (bne_eq_false_iff_eq.1 h0))).1
    try have ht1 := times_len1 ((vpl_r a0).symm.trans (bne_eq_false_iff_eq.1 h0)) (ask_p h1).1 (ask_p h1).2.1
    try have ht2 := times_len2 ((vpl_r a0).symm.trans (bne_eq_false_iff_eq.1 h0)) (ask_p h1).1 (ask_p h1).2.1
    have e := Eq.refl (F15_L a0 a1 a2); conv at e => rhs; simp only [F15_L, h0, h1, cond_true, cond_false]
    rw [e]
    exact rt (t1 ++ [.d h1]) [.slot 6 1] [2] hcx (by kernel_rfl)
   | false =>
    have q1 := bne_eq_false_iff_eq.1 h1
    try have hv := (vpl_r a0).symm.trans (bne_eq_false_iff_eq.1 h0)
    try have hl16 := (vpL_ok ((vpl_r a0).symm.trans (bne_eq_false_iff_eq.1 h0))).1
    try have ht1 := times_len1 ((vpl_r a0).symm.trans (bne_eq_false_iff_eq.1 h0)) (ask_p h1).1 (ask_p h1).2.1
    try have ht2 := times_len2 ((vpl_r a0).symm.trans (bne_eq_false_iff_eq.1 h0)) (ask_p h1).1 (ask_p h1).2.1
    have e := Eq.refl (F15_L a0 a1 a2); conv at e => rhs; simp only [F15_L, h0, h1, cond_true, cond_false]
    rw [e]
    refine en (t1 ++ [.d h1, .c [0] (C40_L a0 a1 a2 (by (try simp only [List.length_append, List.length_cons, List.length_nil, Int.toNat_zero]); omega) (by rw [← vpl_r]; exact bne_eq_false_iff_eq.1 h0) (ask_p h1).1 (ask_p h1).2.1)]) [.slot 11 1] [0, 9, 10, 11, 12] [2, 3, 4] hcx B15_L_0 (K15_L_0) (st15_L_0 a0 a1 a2 (flat c3 ([] : List (Int))) 0 0) (Int.toNat (((a0.length : Nat) : Int) - 0) + 1) (by kernel_rfl) ?_
    exact L15_L_0 a0 a1 a2 l0 hcx (Int.toNat (((a0.length : Nat) : Int) - 0) + 1) ([] : List (Int)) 0 (by refine ⟨?_, ?_, ?_, ?_, ?_, ?_, ?_⟩ <;> first | omega | assumption | exact InR.nil _ | exact hi.2.1 | exact hi.2.2.1 | exact hi.2.1.add (by omega) | exact hi.2.2.1.add (by omega) | exact InR.swap hi.2.1 (by omega) (by omega) | exact InR.swap hi.2.2.1 (by omega) (by omega) | (simp only [List.length_set]; omega) | (simp only [List.length_append, List.length_cons, List.length_nil, Int.toNat_zero]; omega) | simp) (by (try simp only [List.length_append, List.length_cons, List.length_nil, Int.toNat_zero]); omega)

end Go.Proofs.YtcnnmgooolnebaaGreat

namespace Go.Proofs.YtcnnmgooolnebaaGreat
open Go.Proofs Go.Aw Go.RowKit
set_option maxRecDepth 100000
set_option linter.unusedVariables false
set_option linter.unusedSimpArgs false

/-! ### The order of pulses: program and document -/
open Go.Sort Go.Proofs in
theorem srtA_of {l m : List AR} (hp : m.Perm l) (hs : m.Pairwise ltA) : srtA l = m := by
  have hO := ordArr
  refine List.Perm.eq_of_pairwise (le := fun x y => (!ltOf cfA y x) = true) ?_ ?_ ?_ ((List.mergeSort_perm _ _).trans hp.symm)
  · intro a b _ _ h1 h2
    exact hO.one a b (by simpa using h2) (by simpa using h1)
  · refine List.pairwise_mergeSort ?_ ?_ l
    · intro a b c h1 h2
      simp only [Bool.not_eq_true', Bool.not_eq_eq_eq_not, Bool.not_true] at h1 h2 ⊢
      exact hO.swo.ntrans c b a h2 h1
    · intro a b
      simp only [Bool.or_eq_true, Bool.not_eq_true', Bool.not_eq_eq_eq_not, Bool.not_true]
      rw [lt_arrF, lt_arrF]
      unfold ltA; omega
  · refine hs.imp fun {x y} h => ?_
    simp only [Bool.not_eq_true', Bool.not_eq_eq_eq_not, Bool.not_true]
    rw [lt_arrF]
    unfold ltA at *; omega
section
variable {l : List PU} {x : P3} {s : Int}
def ftv (l : List PU) (x : P3) (s : Int) (i : Nat) : Int := F49 (l.getD i default) x s
def ltv (l : List PU) (x : P3) (s : Int) (i : Nat) : Int := F50 (l.getD i default) x s
def TA (l : List PU) (x : P3) (s : Int) (a : Int) : AR := (ftv l x s a.toNat, ltv l x s a.toNat, a)
theorem map_at {β : Type} [Inhabited β] (f : PU → β) {i : Nat} (hi : i < l.length) : (l.map f).getD i default = f (l.getD i default) := by
  rw [List.getD_eq_getElem?_getD, List.getElem?_map, List.getD_eq_getElem?_getD, List.getElem?_eq_getElem hi]; rfl
theorem range_from (f : Nat → AR) (i n : Nat) (h : i < n) : (List.range' i (n - i)).map f = f i :: (List.range' (i + 1) (n - (i + 1))).map f := by
  obtain ⟨d, hd⟩ : ∃ d, n - i = d + 1 := ⟨n - i - 1, by omega⟩
  rw [hd, List.range'_succ, List.map_cons, show n - (i + 1) = d by omega]
theorem arr_full_loop : ∀ (d i n : Nat) (m : List AR), d = l.length - i → i ≤ l.length → d < n →
    loopF (S25_L_0 l x s) n (m, (i : Int)) = m ++ (List.range' i (l.length - i)).map (fun i : Nat => TA l x s (i : Int))
  | 0, i, n, m, hd, hi, hn => by
    have : i = l.length := by omega
    obtain ⟨n, rfl⟩ : ∃ m, n = m + 1 := ⟨n - 1, by omega⟩
    subst this
    have e : S25_L_0 l x s (m, ((l.length : Nat) : Int)) = .inr m := by
      simp only [S25_L_0]; rw [decide_eq_false (Int.lt_irrefl _), cond_false]
    rw [loopF_inr e]; simp
  | d + 1, i, n, m, hd, hi, hn => by
    obtain ⟨n, rfl⟩ : ∃ m, n = m + 1 := ⟨n - 1, by omega⟩
    have e : S25_L_0 l x s (m, (i : Int)) = .inl (m ++ [TA l x s i], ((i + 1 : Nat) : Int)) := by
      simp only [S25_L_0]
      rw [decide_eq_true (show ((i : Nat) : Int) < (l.length : Nat) by omega), cond_true, Int.toNat_natCast]; rfl
    rw [loopF_inl e, arr_full_loop d (i + 1) n _ (by omega) (by omega) (by omega), range_from _ i l.length (by omega)]
    simp
theorem arr_full : F25_L l x s = (List.range' 0 l.length).map (fun i : Nat => TA l x s (i : Int)) := by
  have := arr_full_loop (l := l) (x := x) (s := s) l.length 0 (Int.toNat (((l.length : Nat) : Int) - 0) + 1) [] (by omega) (by omega) (by omega)
  exact this
theorem ord_prog_loop : ∀ (k : List AR) (i n : Nat) (m : List Int), (srtA (F25_L l x s)).drop i = k → i ≤ l.length → k.length < n →
    loopF (S14_L_0 l x s) n (m, (i : Int)) = (m ++ k.map (fun a => a.2.2), 0)
  | [], i, n, m, hd, hi, hn => by
    have hl : (srtA (F25_L l x s)).length = l.length := by rw [srtA_len, arr_len]
    have : i = l.length := by have := List.drop_eq_nil_iff.1 hd; omega
    obtain ⟨n, rfl⟩ : ∃ m, n = m + 1 := ⟨n - 1, by simp only [List.length_nil] at hn; omega⟩
    subst this
    have e : S14_L_0 l x s (m, ((l.length : Nat) : Int)) = .inr (m, 0) := by
      simp only [S14_L_0]; rw [arr_len, decide_eq_false (Int.lt_irrefl _), cond_false]
    rw [loopF_inr e]; simp
  | c :: k, i, n, m, hd, hi, hn => by
    have hl : (srtA (F25_L l x s)).length = l.length := by rw [srtA_len, arr_len]
    have hc : (srtA (F25_L l x s))[i]? = some c := by
      have : ((srtA (F25_L l x s)).drop i)[0]? = some c := by rw [hd]; rfl
      simpa using this
    obtain ⟨hg, hlt⟩ := getD_some hc
    obtain ⟨n, rfl⟩ : ∃ m, n = m + 1 := ⟨n - 1, by omega⟩
    have e : S14_L_0 l x s (m, (i : Int)) = .inl (m ++ [c.2.2], ((i + 1 : Nat) : Int)) := by
      simp only [S14_L_0]
      rw [arr_len, decide_eq_true (show ((i : Nat) : Int) < (l.length : Nat) by omega), cond_true, Int.toNat_natCast, hg]; rfl
    rw [loopF_inl e, ord_prog_loop k (i + 1) n _ (by rw [← List.drop_drop, hd]; rfl) (by omega) (by simp only [List.length_cons] at hn; omega)]
    simp
abbrev ltT (l : List PU) (x : P3) (s : Int) (a b : Int) : Prop := ltA (TA l x s a) (TA l x s b)
theorem ltT_trans {a b c : Int} (h1 : ltT l x s a b) (h2 : ltT l x s b c) : ltT l x s a c := by
  unfold ltT ltA at *; omega
theorem getD_mid1 {P Q : List Int} {b : Int} : (P ++ b :: Q).getD P.length default = b := by simp
section
variable (hv : vpL l = 0) (hx : bd 256 x) (hs : 1 ≤ s ∧ s ≤ 16)
include hv hx hs
theorem t1_at {a : Int} (ha : 0 ≤ a ∧ a < (l.length : Int)) : (F40_L l x s).1.getD (Int.toNat a) default = ftv l x s a.toNat := by
  rw [times_eq hv hx hs]; exact map_at _ (by omega)
theorem t2_at {a : Int} (ha : 0 ≤ a ∧ a < (l.length : Int)) : (F40_L l x s).2.getD (Int.toNat a) default = ltv l x s a.toNat := by
  rw [times_eq hv hx hs]; exact map_at _ (by omega)
theorem in_loop {b i : Int} (hb : 0 ≤ b ∧ b < (l.length : Int)) : ∀ (k : Nat) (P Q : List Int) (n : Nat), P.length = k → k < n → k < 1000000 → (∀ p ∈ P, 0 ≤ p ∧ p < b) → (∀ q ∈ Q, ltT l x s b q) → (P ++ Q).Pairwise (ltT l x s) →
    ∃ R, loopF (S15_L_1 l x s) n (P ++ b :: Q, i, (k : Int)) = .inl (R, i + 1) ∧ R.Perm (P ++ b :: Q) ∧ R.Pairwise (ltT l x s)
  | 0, P, Q, n, hk, hn, hK, hP, hQ, hw => by
    obtain ⟨n, rfl⟩ : ∃ m, n = m + 1 := ⟨n - 1, by omega⟩
    have hP0 : P = [] := List.eq_nil_of_length_eq_zero hk
    subst hP0
    have e : S15_L_1 l x s (b :: Q, i, ((0 : Nat) : Int)) = .inr (.inl (b :: Q, i + 1)) := rfl
    exact ⟨b :: Q, loopF_inr e, List.Perm.refl _, List.Pairwise.cons hQ hw⟩
  | k + 1, P, Q, n, hk, hn, hK, hP, hQ, hw => by
    obtain ⟨n, rfl⟩ : ∃ m, n = m + 1 := ⟨n - 1, by omega⟩
    obtain ⟨P', a, rfl⟩ : ∃ P' a, P = P' ++ [a] := ⟨P.dropLast, P.getLast (by intro h; simp [h] at hk), (List.dropLast_concat_getLast _).symm⟩
    have hk' : P'.length = k := by simp at hk; exact hk
    have ha := hP a (by simp)
    have g1 : (P' ++ [a] ++ b :: Q).getD (Int.toNat ((k + 1 : Nat) : Int)) default = b := by
      rw [Int.toNat_natCast, ← hk', show P'.length + 1 = (P' ++ [a]).length by simp]; exact getD_mid1
    have hW : W (((k + 1 : Nat) : Int) - 1) = (k : Int) := by rw [W_eq (by omega) (by omega)]; omega
    have g2 : (P' ++ [a] ++ b :: Q).getD (Int.toNat (W (((k + 1 : Nat) : Int) - 1))) default = a := by
      rw [hW, Int.toNat_natCast, ← hk', List.append_assoc]; exact getD_mid1
    have hset : ((P' ++ [a] ++ b :: Q).set k b).set (k + 1) a = P' ++ b :: (a :: Q) := by
      rw [← hk', List.append_assoc]; simp [List.set_append]
    have haQ : ∀ q ∈ Q, ltT l x s a q := fun q hq => by
      have := List.pairwise_append.1 hw
      exact this.2.2 a (by simp) q hq
    have hPa : ∀ p ∈ P', ltT l x s p a := fun p hp => by
      have := (List.pairwise_append.1 (List.pairwise_append.1 hw).1)
      exact this.2.2 p hp a (by simp)
    by_cases hc : ltT l x s a b
    · have e : S15_L_1 l x s (P' ++ [a] ++ b :: Q, i, ((k + 1 : Nat) : Int)) = .inr (.inl (P' ++ [a] ++ b :: Q, i + 1)) := by
        simp only [S15_L_1]
        rw [g1, g2, t1_at hv hx hs ⟨ha.1, by omega⟩, t1_at hv hx hs hb, t2_at hv hx hs ⟨ha.1, by omega⟩, t2_at hv hx hs hb, decide_eq_true (show ((k + 1 : Nat) : Int) > 0 by omega), cond_true]
        unfold ltT ltA TA at hc
        by_cases h1 : ftv l x s a.toNat < ftv l x s b.toNat
        · rw [decide_eq_true h1, cond_true]
        · have h2 : ftv l x s a.toNat = ftv l x s b.toNat := by simp only at hc; omega
          rw [decide_eq_false h1, cond_false, beq_iff_eq.2 h2, cond_true, decide_eq_true (by simp only at hc; omega), cond_true]
      refine ⟨_, loopF_inr e, List.Perm.refl _, ?_⟩
      refine List.pairwise_append.2 ⟨(List.pairwise_append.1 hw).1, List.Pairwise.cons hQ (List.pairwise_append.1 hw).2.1, fun p hp q hq => ?_⟩
      have hpb : ltT l x s p b := by
        rcases List.mem_append.1 hp with hp | hp
        · exact ltT_trans (hPa p hp) hc
        · rw [List.mem_singleton.1 hp]; exact hc
      rcases List.mem_cons.1 hq with rfl | hq
      · exact hpb
      · exact ltT_trans hpb (hQ q hq)
    · have hba : ltT l x s b a := by
        unfold ltT ltA TA at *
        simp only at *
        omega
      have e : S15_L_1 l x s (P' ++ [a] ++ b :: Q, i, ((k + 1 : Nat) : Int)) = .inl (P' ++ b :: (a :: Q), i, (k : Int)) := by
        simp only [S15_L_1]
        rw [g1, g2, t1_at hv hx hs ⟨ha.1, by omega⟩, t1_at hv hx hs hb, t2_at hv hx hs ⟨ha.1, by omega⟩, t2_at hv hx hs hb, decide_eq_true (show ((k + 1 : Nat) : Int) > 0 by omega), cond_true, hW, Int.toNat_natCast, Int.toNat_natCast, hset]
        unfold ltT ltA TA at hc
        rw [decide_eq_false (by simp only at hc; omega), cond_false]
        by_cases h2 : ftv l x s a.toNat = ftv l x s b.toNat
        · rw [beq_iff_eq.2 h2, cond_true, decide_eq_false (by simp only at hc; omega), cond_false]
        · rw [beq_eq_false_iff_ne.2 h2, cond_false]
      rw [loopF_inl e]
      obtain ⟨R, r1, r2, r3⟩ := in_loop hb k P' (a :: Q) n hk' (by omega) (by omega) (fun p hp => hP p (by simp [hp])) (fun q hq => by
        rcases List.mem_cons.1 hq with rfl | hq
        · exact hba
        · exact hQ q hq) (by rw [List.append_assoc] at hw; exact hw)
      refine ⟨R, r1, r2.trans ?_, r3⟩
      rw [List.append_assoc]
      exact List.Perm.append_left _ (List.Perm.swap _ _ _)
theorem out_loop : ∀ (d i n : Nat) (R : List Int), d = l.length - i → i ≤ l.length → d < n → R.Perm ((List.range i).map (fun j : Nat => (j : Int))) → R.Pairwise (ltT l x s) →
    ∃ R', loopF (S15_L_0 l x s) n (R, (i : Int)) = (R', 0) ∧ R'.Perm ((List.range l.length).map (fun j : Nat => (j : Int))) ∧ R'.Pairwise (ltT l x s)
  | 0, i, n, R, hd, hi, hn, hp, hw => by
    obtain ⟨n, rfl⟩ : ∃ m, n = m + 1 := ⟨n - 1, by omega⟩
    have : i = l.length := by omega
    subst this
    have e : S15_L_0 l x s (R, ((l.length : Nat) : Int)) = .inr (R, 0) := by
      simp only [S15_L_0]; rw [decide_eq_false (Int.lt_irrefl _), cond_false]
    exact ⟨R, loopF_inr e, hp, hw⟩
  | d + 1, i, n, R, hd, hi, hn, hp, hw => by
    obtain ⟨n, rfl⟩ : ∃ m, n = m + 1 := ⟨n - 1, by omega⟩
    have hl := (vpL_ok hv).1
    have hR : R.length = i := by rw [hp.length_eq]; simp
    obtain ⟨R2, r1, r2, r3⟩ := in_loop (i := (i : Int)) hv hx hs (b := (i : Int)) ⟨by omega, by omega⟩ i R [] (Int.toNat (i : Int) + 1) hR (by omega) (by omega) (fun p hp' => by
      have := hp.mem_iff.1 hp'
      obtain ⟨j, hj, rfl⟩ := List.mem_map.1 this
      have := List.mem_range.1 hj
      omega) (fun q hq => by simp at hq) (by simpa using hw)
    have e : S15_L_0 l x s (R, (i : Int)) = .inl (R2, ((i + 1 : Nat) : Int)) := by
      simp only [S15_L_0]
      rw [decide_eq_true (show ((i : Nat) : Int) < (l.length : Nat) by omega), cond_true]
      exact r1
    rw [loopF_inl e]
    refine out_loop d (i + 1) n R2 (by omega) (by omega) (by omega) ?_ r3
    refine r2.trans ?_
    rw [List.range_succ, List.map_append]
    exact hp.append_right _
theorem ord_eq (n1 n2 : Nat) (h1 : l.length < n1) (h2 : l.length < n2) : loopF (S14_L_0 l x s) n1 ([], 0) = loopF (S15_L_0 l x s) n2 ([], 0) := by
  obtain ⟨R, r1, r2, r3⟩ := out_loop hv hx hs l.length 0 n2 [] (by omega) (by omega) (by omega) (by simp) List.Pairwise.nil
  have hm : srtA (F25_L l x s) = R.map (TA l x s) := by
    refine srtA_of ?_ (List.pairwise_map.2 r3)
    rw [arr_full]
    refine (r2.map (TA l x s)).trans ?_
    rw [List.map_map, ← List.range_eq_range']
    exact List.Perm.refl _
  have := ord_prog_loop (l := l) (x := x) (s := s) (srtA (F25_L l x s)) 0 n1 [] rfl (by omega) (by rw [srtA_len, arr_len]; omega)
  refine this.trans (Eq.trans ?_ r1.symm)
  rw [hm, List.map_map, List.nil_append]
  have : (fun a : AR => a.2.2) ∘ TA l x s = id := rfl
  rw [this, List.map_id]
end
end

end Go.Proofs.YtcnnmgooolnebaaGreat

namespace Go.Proofs.YtcnnmgooolnebaaGreat
open Go.Proofs Go.Aw Go.RowKit
set_option maxRecDepth 100000
set_option linter.unusedVariables false
set_option linter.unusedSimpArgs false

section
variable {l : List PU} {x : P3} {s : Int}
open Classical in
theorem Order_eq (l : List PU) (x : P3) (s : Int) : F14_L l x s = F15_L l x s := by
  unfold F14_L F15_L
  rw [isP_f, isS_f, vpl_r, asked_r]
  simp only [chkL_f]
  by_cases h : vpL l = 0
  · by_cases h1 : bd 256 x
    · by_cases h2 : 1 ≤ s ∧ s ≤ 16
      · have := ord_eq h h1 h2 (Int.toNat ((((F25_L l x s).length : Nat) : Int) - 0) + 1) (Int.toNat (((l.length : Nat) : Int) - 0) + 1) (by rw [arr_len]; omega) (by omega)
        simp [h, h1, h2]
        simpa using this
      · simp [h, h1, h2]
    · simp [h, h1]
  · simp only [if_neg h, bne_iff_ne.2 h, cond_true]
    cases decide (bd 256 x) <;> rfl
theorem ord_len (l : List PU) (x : P3) (s : Int) : (F14_L l x s).1.length ≤ l.length := by
  have hl : ∀ n, l.length < n → (loopF (S14_L_0 l x s) n ([], 0)).1.length ≤ l.length := fun n hn => by
    have := ord_prog_loop (l := l) (x := x) (s := s) (srtA (F25_L l x s)) 0 n [] rfl (by omega) (by rw [srtA_len, arr_len]; omega)
    have e : loopF (S14_L_0 l x s) n ([], 0) = _ := this
    rw [e]; simp [srtA_len, arr_len]
  unfold F14_L
  have h0 := hl (Int.toNat ((((F25_L l x s).length : Nat) : Int) - 0) + 1) (by rw [arr_len]; omega)
  cases F18 x with
  | true =>
    cases (F24_L l (F19 s) : Int) != 0 with
    | true => simp
    | false => simpa using h0
  | false =>
    cases (F24_L l false : Int) != 0 with
    | true => simp
    | false => simpa using h0
theorem ord_lenr (l : List PU) (x : P3) (s : Int) : (F15_L l x s).1.length ≤ l.length := by rw [← Order_eq]; exact ord_len l x s
theorem arr_at {i : Nat} (hi : i < l.length) : (F25_L l x s).getD i default = TA l x s (i : Int) := by
  rw [arr_full, List.getD_eq_getElem?_getD, List.getElem?_map, List.getElem?_range' hi]
  simp
theorem tick_step (hv : vpL l = 0) (hx : bd 256 x) (hs : 1 ≤ s ∧ s ≤ 16) (i : Nat) (v1 v2 : Int) : S7_L_0 l x s (v1, v2, (i : Int)) = S13_L_0 l x s (v1, v2, (i : Int)) := by
  simp only [S7_L_0, S13_L_0]
  rw [arr_len]
  by_cases h : i < l.length
  · rw [decide_eq_true (show ((i : Nat) : Int) < (l.length : Nat) by omega), cond_true, cond_true, t1_at hv hx hs ⟨by omega, by omega⟩, t2_at hv hx hs ⟨by omega, by omega⟩, Int.toNat_natCast, arr_at h]
    rfl
  · rw [decide_eq_false (show ¬ ((i : Nat) : Int) < (l.length : Nat) by omega), cond_false, cond_false]
theorem tick_next {i : Nat} {v1 v2 : Int} {u : Int × Int × Int} (e : S7_L_0 l x s (v1, v2, (i : Int)) = .inl u) : u.2.2 = ((i + 1 : Nat) : Int) := by
  simp only [S7_L_0] at e
  by_cases h : ((i : Nat) : Int) < ((F25_L l x s).length : Nat)
  · rw [decide_eq_true h, cond_true] at e
    cases e; simp
  · rw [decide_eq_false h, cond_false] at e; cases e
theorem tick_eqF (hv : vpL l = 0) (hx : bd 256 x) (hs : 1 ≤ s ∧ s ≤ 16) : ∀ (n i : Nat) (v1 v2 : Int), loopF (S7_L_0 l x s) n (v1, v2, (i : Int)) = loopF (S13_L_0 l x s) n (v1, v2, (i : Int))
  | 0, i, v1, v2 => rfl
  | n + 1, i, v1, v2 => by
    have h := tick_step hv hx hs i v1 v2
    cases e : S7_L_0 l x s (v1, v2, (i : Int)) with
    | inr r => rw [loopF_inr e, loopF_inr (h ▸ e)]
    | inl u =>
      have h2 := tick_next e
      rw [loopF_inl e, loopF_inl (h ▸ e)]
      obtain ⟨u1, u2, u3⟩ := u
      simp only at h2
      subst h2
      exact tick_eqF hv hx hs n (i + 1) u1 u2
open Classical in
theorem Ticks_eq (l : List PU) (x : P3) (s : Int) : F7_L l x s = F13_L l x s := by
  unfold F7_L F13_L
  rw [isP_f, isS_f, vpl_r, asked_r]
  simp only [chkL_f]
  by_cases h : vpL l = 0
  · by_cases h1 : bd 256 x
    · by_cases h2 : 1 ≤ s ∧ s ≤ 16
      · by_cases h3 : l.length = 0
        · simp [h, h1, h2, h3, arr_len]
        · rw [arr_len]
          have e1 : (F25_L l x s).getD (Int.toNat 0) default = TA l x s ((0 : Nat) : Int) := arr_at (by omega)
          have e2 := t1_at h h1 h2 (a := 0) ⟨by omega, by omega⟩
          have e3 := t2_at h h1 h2 (a := 0) ⟨by omega, by omega⟩
          have key := tick_eqF h h1 h2 (Int.toNat (((l.length : Nat) : Int) - 0) + 1) 0 (ftv l x s 0) (ltv l x s 0)
          rw [e1, e2, e3]
          have h4 : ((((l.length : Nat) : Int) : Int) == 0) = false := by rw [beq_eq_false_iff_ne]; omega
          rw [h4]
          simp only [h, h1, h2, decide_true, cond_true, if_true, bne_self_eq_false, cond_false, and_self]
          simpa [h1, h2, TA] using key
      · simp [h, h1, h2]
    · simp [h, h1]
  · simp only [if_neg h, bne_iff_ne.2 h, cond_true]
    cases decide (bd 256 x) <;> rfl
theorem tick_loop1 : ∀ (d i n : Nat) (v1 v2 : Int), d = l.length - i → i ≤ l.length → d < n →
    (loopF (S7_L_0 l x s) n (v1, v2, (i : Int))).1 ≤ v1 ∧ ∀ j, i ≤ j → j < l.length → (loopF (S7_L_0 l x s) n (v1, v2, (i : Int))).1 ≤ ftv l x s j
  | 0, i, n, v1, v2, hd, hi, hn => by
    obtain ⟨n, rfl⟩ : ∃ m, n = m + 1 := ⟨n - 1, by omega⟩
    have e : S7_L_0 l x s (v1, v2, (i : Int)) = .inr (v1, v2, 0) := by
      simp only [S7_L_0]; rw [arr_len, decide_eq_false (by omega), cond_false]
    rw [loopF_inr e]
    exact ⟨by simp, fun j h1 h2 => by omega⟩
  | d + 1, i, n, v1, v2, hd, hi, hn => by
    obtain ⟨n, rfl⟩ : ∃ m, n = m + 1 := ⟨n - 1, by omega⟩
    have e : S7_L_0 l x s (v1, v2, (i : Int)) = .inl ((if ftv l x s i < v1 then ftv l x s i else v1), (if v2 < ltv l x s i then ltv l x s i else v2), ((i + 1 : Nat) : Int)) := by
      simp only [S7_L_0]
      rw [arr_len, decide_eq_true (show ((i : Nat) : Int) < (l.length : Nat) by omega), cond_true, Int.toNat_natCast, arr_at (by omega)]; rfl
    have ih := tick_loop1 d (i + 1) n (if ftv l x s i < v1 then ftv l x s i else v1) (if v2 < ltv l x s i then ltv l x s i else v2) (by omega) (by omega) (by omega)
    rw [loopF_inl e]
    have h1 : (if ftv l x s i < v1 then ftv l x s i else v1) ≤ v1 ∧ (if ftv l x s i < v1 then ftv l x s i else v1) ≤ ftv l x s i := by split <;> omega
    refine ⟨Int.le_trans ih.1 h1.1, fun j hj hl => ?_⟩
    by_cases hji : j = i
    · subst hji; exact Int.le_trans ih.1 h1.2
    · exact ih.2 j (by omega) hl
open Classical in
theorem Ticks_first (h : (F7_L l x s).2.2 = 0) : vpL l = 0 ∧ ∀ j, j < l.length → (F7_L l x s).1 ≤ ftv l x s j := by
  have hb := Ticks_last h
  unfold F7_L at h ⊢
  rw [isP_f, isS_f, decide_eq_true hb.1, cond_true, decide_eq_true hb.2.1, chkL_f] at h ⊢
  by_cases h3 : vpL l = 0
  · refine ⟨h3, ?_⟩
    simp only [if_pos h3, if_true, bne_self_eq_false, cond_false] at h ⊢
    cases e2 : ((((F25_L l x s).length : Nat) : Int) == 0) with
    | true => rw [e2] at h; simp at h
    | false =>
      intro j hj
      have := (tick_loop1 (l := l) (x := x) (s := s) l.length 0 (Int.toNat ((((F25_L l x s).length : Nat) : Int) - 0) + 1) ((F25_L l x s).getD (Int.toNat 0) default).1 ((F25_L l x s).getD (Int.toNat 0) default).2.1 (by omega) (by omega) (by rw [arr_len]; omega)).2 j (by omega) hj
      simpa using this
  · rw [if_neg h3, bne_iff_ne.2 h3, cond_true] at h; exact absurd h h3
end
/-! ### Quiet -/
theorem trav_min {n s : Int} (hq : n ≤ 1000000) (hs : 1 ≤ s ∧ s ≤ 1000) {q : Int} (h0 : 0 ≤ q) (h1 : q < F20 n s) : s * q * (s * q) < n := by
  have key : ∀ (f : Nat) (t : Int), 0 ≤ t ∧ t ≤ 1000 → Int.toNat (1000 - t) < f → ∀ q, t ≤ q → q < loopF (S20_0 n s) f t → s * q * (s * q) < n := by
    intro f
    induction f with
    | zero => intro t _ h; exact absurd h (Nat.not_lt_zero _)
    | succ f ih =>
      intro t ht h q hq1 hq2
      cases e : S20_0 n s t with
      | inl u =>
        have h1 := trav_next hq hs ht e
        rw [loopF_inl e] at hq2
        by_cases hqt : q = t
        · subst hqt; exact h1.1
        · exact ih u (by omega) (by omega) q (by omega) hq2
      | inr r =>
        rw [loopF_inr e] at hq2
        simp only [S20_0] at e
        rw [trav_sq hs ht] at e
        by_cases h1 : s * t * (s * t) < n
        · rw [decide_eq_true h1] at e; cases e
        · rw [decide_eq_false h1] at e; cases e; omega
  exact key _ 0 (by omega) (by omega) q h0 h1
theorem cut_nf {p : PN} {x : P3} (hb : bdP 64 p) : ∀ (k : Nat), k ≤ 3 → ∀ c ∈ cutL k p, fa c (tm (2 ^ k) x) ≤ 4 ^ k * fa p x ∧ 4 ^ k * ne p x ≤ ne c (tm (2 ^ k) x)
  | 0, _, c, hc => by
    have hc : c ∈ [p] := hc
    rw [List.mem_singleton.1 hc, show ((2 : Int) ^ 0) = 1 from rfl, show tm 1 x = x by unfold tm; simp]; simp
  | k + 1, hk, c, hc => by
    rw [cutL_quad k p] at hc
    obtain ⟨b, hb1, hb2⟩ := List.mem_flatMap.1 hc
    have ih := cut_nf (x := x) hb k (by omega) b hb1
    have hbb : bdP 100000 b := by
      have hk3 : k = 0 ∨ k = 1 ∨ k = 2 := by omega
      rcases hk3 with rfl | rfl | rfl <;> exact (cutL_bd _ hb (by omega) (by omega) hb1).mono (by omega)
    have f1 := fa_quad (x := tm (2 ^ k) x) hbb hb2
    have f2 := ne_quad (x := tm (2 ^ k) x) hbb hb2
    have e : tm 2 (tm (2 ^ k) x) = tm (2 ^ (k + 1)) x := by
      unfold tm; simp only [Int.pow_succ, ← Int.mul_assoc, Int.mul_comm _ (2 : Int)]
    rw [e] at f1 f2
    have e4 : (4 : Int) ^ (k + 1) = 4 * 4 ^ k := by rw [Int.pow_succ, Int.mul_comm]
    rw [e4, Int.mul_assoc, Int.mul_assoc]
    omega
theorem sc_pow {d : Int} (hd : 0 ≤ d ∧ d ≤ 3) : sc d = 2 ^ d.toNat ∧ sc d * sc d = 4 ^ d.toNat := by
  have : d = 0 ∨ d = 1 ∨ d = 2 ∨ d = 3 := by omega
  rcases this with rfl | rfl | rfl | rfl <;> decide
theorem cut_sc {p c : PN} {x : P3} {d : Int} (hb : bdP 64 p) (hd : 0 ≤ d ∧ d ≤ 3) (hc : c ∈ cutL d.toNat p) : fa c (tm (sc d) x) ≤ sc d * sc d * fa p x ∧ sc d * sc d * ne p x ≤ ne c (tm (sc d) x) := by
  rw [(sc_pow hd).2, (sc_pow hd).1]
  exact cut_nf hb d.toNat (by omega) c hc
theorem sums_zero : ∀ {L : List (Int × Int)}, (∀ a ∈ L, a = (0, 0)) → sums L (0, 0) = (0, 0)
  | [], _ => rfl
  | a :: L, h => by
    have ha := h a (by simp)
    subst ha
    exact sums_zero (L := L) fun b hb => h b (by simp [hb])
theorem avg_zero (n : Int) (hn : n = 1 ∨ n = 4 ∨ n = 16 ∨ n = 64) : avg ((0, 0) : Int × Int) n = (0, 0) := by
  rcases hn with rfl | rfl | rfl | rfl <;> kernel_rfl
theorem hrT_zero {p : PU} {x : P3} {s t d : Int} (hp : POK p) (hd : 0 ≤ d ∧ d ≤ 3) (h : ∀ c ∈ cutL d.toNat p.1, shG p x s t d c = ((0, 0), 0)) : hrT p x s t d = ((0, 0), 0) := by
  unfold hrT
  split
  · rfl
  · rw [shs_oks (g := shG p x s t d) (fun c hc => by rw [h c hc])]
    have e := sums_zero (L := (cutL d.toNat p.1).map fun c => (shG p x s t d c).1) (fun a ha => by
      obtain ⟨c, hc, rfl⟩ := List.mem_map.1 ha
      rw [h c hc])
    simp only [out8, List.nil_append]
    rw [e, avg_zero _ (cnt_in d), scl_in (by unfold okE; simp) hp.2.2]
    simp
theorem shA_sc (s d q : Int) : shA s d q = sc d * sc d * (s * q * (s * q)) := by unfold shA; grind
theorem quiet_lo {p : PU} {x : P3} {s t d : Int} (hp : POK p) (hx : bd 256 x) (hs : 1 ≤ s ∧ s ≤ 16) (hd : 0 ≤ d ∧ d ≤ 3) (h : t < F49 p x s) : hrT p x s t d = ((0, 0), 0) := by
  by_cases h1 : t - p.2.1 < 1
  · unfold hrT; rw [if_pos h1]
  · refine hrT_zero hp hd fun c hc => ?_
    have hn := nef6 hp hx
    have g := trav_ge hn (s := s) (by omega)
    unfold F49 at h
    rw [W_eq (by have := hp.2.1; omega) (by have := hp.2.1; omega)] at h
    have hm := trav_min hn (s := s) (q := t - p.2.1) (by omega) (by omega) (by omega)
    rw [sne_f ((pok_bd hp).mono (by omega)) (hx.mono (by omega))] at hm
    have hcn := (cut_sc (x := x) (pok_bd hp) hd hc).2
    have hS := sc_bd d
    have hSS : 1 ≤ sc d * sc d := by rcases sc_in d with e | e | e | e <;> rw [e] <;> decide
    have h5 : sc d * sc d * (s * (t - p.2.1) * (s * (t - p.2.1))) < sc d * sc d * ne p.1 x := Int.mul_lt_mul_of_pos_left hm (by omega)
    unfold shG gv
    rw [if_pos (Or.inr (by rw [shA_sc]; omega))]
theorem quiet_hi {p : PU} {x : P3} {s t d : Int} (hp : POK p) (hx : bd 256 x) (hs : 1 ≤ s ∧ s ≤ 16) (hd : 0 ≤ d ∧ d ≤ 3) (h : F50 p x s < t) : hrT p x s t d = ((0, 0), 0) := by
  refine hrT_zero hp hd fun c hc => ?_
  have hn := faf6 hp hx
  have g := trav_ge hn (s := s) (by omega)
  unfold F50 at h
  rw [W_eq (by have := hp.2.1; omega) (by have := hp.2.1; omega)] at h
  rw [sfa_f ((pok_bd hp).mono (by omega)) (hx.mono (by omega))] at g h
  have hcf := (cut_sc (x := x) (pok_bd hp) hd hc).1
  have hSS : 1 ≤ sc d * sc d := by rcases sc_in d with e | e | e | e <;> rw [e] <;> decide
  have m1 : s * F20 (fa p.1 x) s ≤ s * (t - p.2.1 - 1) := Int.mul_le_mul_of_nonneg_left (by omega) (by omega)
  have m0 : 0 ≤ s * F20 (fa p.1 x) s := Int.mul_nonneg (by omega) g.1
  have m2 : s * F20 (fa p.1 x) s * (s * F20 (fa p.1 x) s) ≤ s * (t - p.2.1 - 1) * (s * (t - p.2.1 - 1)) := Int.mul_le_mul m1 m1 m0 (by omega)
  have m3 : sc d * sc d * fa p.1 x ≤ sc d * sc d * (s * (t - p.2.1 - 1) * (s * (t - p.2.1 - 1))) := Int.mul_le_mul_of_nonneg_left (by omega) (by omega)
  unfold shG gv
  rw [if_pos (Or.inl (by rw [shA_sc]; omega))]
theorem scS_zero {l : List PU} {x : P3} {s t d : Int} (h : ∀ p ∈ l, hrT p x s t d = ((0, 0), 0)) : scS l x s t d = ((0, 0), 0) := by
  unfold scS
  rw [shs_oks (g := fun p => hrT p x s t d) (fun c hc => by rw [h c hc])]
  have e := sums_zero (L := l.map fun c => (hrT c x s t d).1) (fun a ha => by
    obtain ⟨c, hc, rfl⟩ := List.mem_map.1 ha
    rw [h c hc])
  simp only [out8, List.nil_append]
  rw [e]
theorem same_ints (l : List Int) : F16_L_L l l = true := by
  unfold F16_L_L
  rw [show ((((l.length : Nat) : Int) : Int) != ((l.length : Nat) : Int)) = false by simp, cond_false]
  have key := fe_loopF (α := Int) (g := fun _ => 0) (S := S16_L_L_0 l l) (L := l) (E := fun _ => false) (G := true) (fun i c hi => ?_) ?_ l 0 (Int.toNat (((l.length : Nat) : Int) - 0) + 1) rfl (Nat.zero_le _) (by omega)
  · exact key.trans (if_pos (fe_0.2 (fun _ _ => rfl)))
  · obtain ⟨hg, hlt⟩ := getD_some hi
    simp only [S16_L_L_0]
    rw [decide_eq_true (show ((i : Nat) : Int) < (l.length : Nat) by omega), cond_true, Int.toNat_natCast, hg]
    simp
  · simp only [S16_L_L_0]
    rw [decide_eq_false (Int.lt_irrefl _), cond_false]
theorem quiet {l : List PU} {x : P3} {s t d : Int} (h : (F7_L l x s).2.2 = 0) (hq : t < (F7_L l x s).1 ∨ (F7_L l x s).2.1 < t) (ht : 0 ≤ t ∧ t ≤ 2000) (hd : 0 ≤ d ∧ d ≤ 3) :
    F17_L l x s t d = ((0, 0), 0) := by
  have h1 := Ticks_first h
  have h2 := Ticks_last h
  rw [Scene_f]
  unfold scV
  rw [if_pos h1.1, if_pos (show askd x s t d from ⟨h2.1, h2.2.1, ht, hd⟩)]
  refine scS_zero fun p hp => ?_
  have hok := (vpL_ok h1.1).2 p hp
  rcases hq with hq | hq
  · obtain ⟨j, hj, e⟩ := List.mem_iff_getElem.1 hp
    have := h1.2 j hj
    unfold ftv at this
    rw [List.getD_eq_getElem?_getD, List.getElem?_eq_getElem hj, Option.getD_some, e] at this
    exact quiet_lo hok h2.1 h2.2.1 hd (by omega)
  · exact quiet_hi hok h2.1 h2.2.1 hd (by have := h2.2.2 p hp; omega)

end Go.Proofs.YtcnnmgooolnebaaGreat

namespace Go.Proofs.YtcnnmgooolnebaaGreat
open Go.Proofs Go.Aw Go.RowKit
set_option maxRecDepth 100000
set_option linter.unusedVariables false
set_option linter.unusedSimpArgs false

def F4_L (a0 : List (((Int × Int × Int) × (Int × Int × Int) × Int × Int × Int) × Int × Int)) (a1 : (Int × Int × Int) × Int × Int × Int) : Bool :=
  (bif (decide ((((a0.length : Nat) : Int) : Int) > 60)) then
   F12
  else
   (bif (((F7_L a0 a1.1 a1.2.1).1 : Int) != (F13_L a0 a1.1 a1.2.1).1) then
    false
   else
    (bif (((F7_L a0 a1.1 a1.2.1).2.1 : Int) != (F13_L a0 a1.1 a1.2.1).2.1) then
     false
    else
     (bif (((F7_L a0 a1.1 a1.2.1).2.2 : Int) != (F13_L a0 a1.1 a1.2.1).2.2) then
      false
     else
      (bif (((F14_L a0 a1.1 a1.2.1).2 : Int) != (F15_L a0 a1.1 a1.2.1).2) then
       false
      else
       (bif (!(F16_L_L (F14_L a0 a1.1 a1.2.1).1 (F15_L a0 a1.1 a1.2.1).1)) then
        false
       else
        (bif (((F7_L a0 a1.1 a1.2.1).2.2 : Int) != 0) then
         F12
        else
         (bif (decide ((a1.2.2.1 : Int) < (F7_L a0 a1.1 a1.2.1).1)) then
          (bif (decide ((a1.2.2.1 : Int) ≥ 0)) then
           (bif (decide ((a1.2.2.1 : Int) ≤ 2000)) then
            (bif (decide ((a1.2.2.2 : Int) ≥ 0)) then
             (bif (!(decide ((a1.2.2.2 : Int) ≤ 3))) then
              F12
             else
              (bif (((F17_L a0 a1.1 a1.2.1 a1.2.2.1 a1.2.2.2).2 : Int) == 0) then
               (bif ((((F17_L a0 a1.1 a1.2.1 a1.2.2.1 a1.2.2.2).1.1 : Int) == 0) && ((((F17_L a0 a1.1 a1.2.1 a1.2.2.1 a1.2.2.2).1.2 : Int) == 0) && true)) then
                F12
               else
                false)
              else
               false))
            else
             F12)
           else
            F12)
          else
           F12)
         else
          (bif (decide ((a1.2.2.1 : Int) ≥ 0)) then
           (bif (decide ((a1.2.2.1 : Int) ≤ 2000)) then
            (bif (decide ((a1.2.2.2 : Int) ≥ 0)) then
             (bif (!(decide ((a1.2.2.1 : Int) > (F7_L a0 a1.1 a1.2.1).2.1))) then
              F12
             else
              (bif (!(decide ((a1.2.2.2 : Int) ≤ 3))) then
               F12
              else
               (bif (((F17_L a0 a1.1 a1.2.1 a1.2.2.1 a1.2.2.2).2 : Int) == 0) then
                (bif ((((F17_L a0 a1.1 a1.2.1 a1.2.2.1 a1.2.2.2).1.1 : Int) == 0) && ((((F17_L a0 a1.1 a1.2.1 a1.2.2.1 a1.2.2.2).1.2 : Int) == 0) && true)) then
                 F12
                else
                 false)
               else
                false)))
            else
             (bif (!(decide ((a1.2.2.1 : Int) > (F7_L a0 a1.1 a1.2.1).2.1))) then
              F12
             else
              F12))
           else
            (bif (!(decide ((a1.2.2.1 : Int) > (F7_L a0 a1.1 a1.2.1).2.1))) then
             F12
            else
             F12))
          else
           (bif (!(decide ((a1.2.2.1 : Int) > (F7_L a0 a1.1 a1.2.1).2.1))) then
            F12
           else
            F12))))))))))

theorem C4_L (a0 : List (((Int × Int × Int) × (Int × Int × Int) × Int × Int × Int) × Int × Int)) (a1 : (Int × Int × Int) × Int × Int × Int) (l0 : a0.length ≤ 9223372036854775807) : Con Tryz.prog 4 [(.s 0 0 a0.length 11), (.a [(iv a1.1.1), (iv a1.1.2.1), (iv a1.1.2.2), (iv a1.2.1), (iv a1.2.2.1), (iv a1.2.2.2)])] [(.live false true (flat c63 a0))] (.v (.bool (F4_L a0 a1))) [] := by
  refine con_s Tryz.func4 (by kernel_rfl) fun cx hcx => ?_
  have hol1 := ord_len a0 a1.1 a1.2.1
  have hol2 := ord_lenr a0 a1.1 a1.2.1
  cases h0 : (decide ((((a0.length : Nat) : Int) : Int) > 60)) with
  | true =>
   have q0 := of_decide_eq_true h0
   have e := Eq.refl (F4_L a0 a1); conv at e => rhs; simp only [F4_L, h0, cond_true, cond_false]
   rw [e]
   exact rt [.d h0, .c [] (C12)] [] [] hcx (by kernel_rfl)
  | false =>
   have q0 := of_decide_eq_false h0
   let t1 : List (St Tryz.prog) := [.d h0, .c [0] (C7_L a0 a1.1 a1.2.1 (by (try simp only [List.length_append, List.length_cons, List.length_nil, Int.toNat_zero]); omega)), .c [0] (C13_L a0 a1.1 a1.2.1 (by (try simp only [List.length_append, List.length_cons, List.length_nil, Int.toNat_zero]); omega)), .c [0] (C14_L a0 a1.1 a1.2.1 (by (try simp only [List.length_append, List.length_cons, List.length_nil, Int.toNat_zero]); omega)), .c [0] (C15_L a0 a1.1 a1.2.1 (by (try simp only [List.length_append, List.length_cons, List.length_nil, Int.toNat_zero]); omega))]
   cases h1 : (((F7_L a0 a1.1 a1.2.1).1 : Int) != (F13_L a0 a1.1 a1.2.1).1) with
   | true =>
    have q1 := bne_iff_ne.1 h1
    have e := Eq.refl (F4_L a0 a1); conv at e => rhs; simp only [F4_L, h0, h1, cond_true, cond_false]
    rw [e]
    exact rt (t1 ++ [.d h1]) [] [] hcx (by kernel_rfl)
   | false =>
    have q1 := bne_eq_false_iff_eq.1 h1
    let t2 : List (St Tryz.prog) := (t1 ++ [.d h1])
    cases h2 : (((F7_L a0 a1.1 a1.2.1).2.1 : Int) != (F13_L a0 a1.1 a1.2.1).2.1) with
    | true =>
     have q2 := bne_iff_ne.1 h2
     have e := Eq.refl (F4_L a0 a1); conv at e => rhs; simp only [F4_L, h0, h1, h2, cond_true, cond_false]
     rw [e]
     exact rt (t2 ++ [.d h2]) [] [] hcx (by kernel_rfl)
    | false =>
     have q2 := bne_eq_false_iff_eq.1 h2
     let t3 : List (St Tryz.prog) := (t2 ++ [.d h2])
     cases h3 : (((F7_L a0 a1.1 a1.2.1).2.2 : Int) != (F13_L a0 a1.1 a1.2.1).2.2) with
     | true =>
      have q3 := bne_iff_ne.1 h3
      have e := Eq.refl (F4_L a0 a1); conv at e => rhs; simp only [F4_L, h0, h1, h2, h3, cond_true, cond_false]
      rw [e]
      exact rt (t3 ++ [.d h3]) [] [] hcx (by kernel_rfl)
     | false =>
      have q3 := bne_eq_false_iff_eq.1 h3
      let t4 : List (St Tryz.prog) := (t3 ++ [.d h3])
      cases h4 : (((F14_L a0 a1.1 a1.2.1).2 : Int) != (F15_L a0 a1.1 a1.2.1).2) with
      | true =>
       have q4 := bne_iff_ne.1 h4
       have e := Eq.refl (F4_L a0 a1); conv at e => rhs; simp only [F4_L, h0, h1, h2, h3, h4, cond_true, cond_false]
       rw [e]
       exact rt (t4 ++ [.d h4]) [] [] hcx (by kernel_rfl)
      | false =>
       have q4 := bne_eq_false_iff_eq.1 h4
       let t5 : List (St Tryz.prog) := (t4 ++ [.d h4, .c [2, 3] (C16_L_L (F14_L a0 a1.1 a1.2.1).1 (F15_L a0 a1.1 a1.2.1).1 (by (try simp only [List.length_append, List.length_cons, List.length_nil, Int.toNat_zero]); omega) (by (try simp only [List.length_append, List.length_cons, List.length_nil, Int.toNat_zero]); omega))])
       cases h5 : (!(F16_L_L (F14_L a0 a1.1 a1.2.1).1 (F15_L a0 a1.1 a1.2.1).1)) with
       | true =>
        have e := Eq.refl (F4_L a0 a1); conv at e => rhs; simp only [F4_L, h0, h1, h2, h3, h4, h5, cond_true, cond_false]
        rw [e]
        exact rt (t5 ++ [.d h5]) [] [] hcx (by kernel_rfl)
       | false =>
        let t6 : List (St Tryz.prog) := (t5 ++ [.d h5])
        cases h6 : (((F7_L a0 a1.1 a1.2.1).2.2 : Int) != 0) with
        | true =>
         have q6 := bne_iff_ne.1 h6
         have e := Eq.refl (F4_L a0 a1); conv at e => rhs; simp only [F4_L, h0, h1, h2, h3, h4, h5, h6, cond_true, cond_false]
         rw [e]
         exact rt (t6 ++ [.d h6, .c [] (C12)]) [] [] hcx (by kernel_rfl)
        | false =>
         have q6 := bne_eq_false_iff_eq.1 h6
         let t7 : List (St Tryz.prog) := (t6 ++ [.d h6, .c [0] (C17_L a0 a1.1 a1.2.1 a1.2.2.1 a1.2.2.2 (by (try simp only [List.length_append, List.length_cons, List.length_nil, Int.toNat_zero]); omega))])
         cases h7 : (decide ((a1.2.2.1 : Int) < (F7_L a0 a1.1 a1.2.1).1)) with
         | true =>
          have q7 := of_decide_eq_true h7
          let t8 : List (St Tryz.prog) := (t7 ++ [.d h7])
          cases h8 : (decide ((a1.2.2.1 : Int) ≥ 0)) with
          | true =>
           have q8 := of_decide_eq_true h8
           let t9 : List (St Tryz.prog) := (t8 ++ [.d h8])
           cases h9 : (decide ((a1.2.2.1 : Int) ≤ 2000)) with
           | true =>
            have q9 := of_decide_eq_true h9
            let t10 : List (St Tryz.prog) := (t9 ++ [.d h9])
            cases h10 : (decide ((a1.2.2.2 : Int) ≥ 0)) with
            | true =>
             have q10 := of_decide_eq_true h10
             let t11 : List (St Tryz.prog) := (t10 ++ [.d h10])
             cases h11 : (!(decide ((a1.2.2.2 : Int) ≤ 3))) with
             | true =>
              have e := Eq.refl (F4_L a0 a1); conv at e => rhs; simp only [F4_L, h0, h1, h2, h3, h4, h5, h6, h7, h8, h9, h10, h11, cond_true, cond_false]
              rw [e]
              exact rt (t11 ++ [.d h11, .c [] (C12)]) [] [] hcx (by kernel_rfl)
             | false =>
              let t12 : List (St Tryz.prog) := (t11 ++ [.d h11])
              cases h12 : (((F17_L a0 a1.1 a1.2.1 a1.2.2.1 a1.2.2.2).2 : Int) == 0) with
              | true =>
               have q12 := eq_of_beq h12
               let t13 : List (St Tryz.prog) := (t12 ++ [.d h12])
               cases h13 : ((((F17_L a0 a1.1 a1.2.1 a1.2.2.1 a1.2.2.2).1.1 : Int) == 0) && ((((F17_L a0 a1.1 a1.2.1 a1.2.2.1 a1.2.2.2).1.2 : Int) == 0) && true)) with
               | true =>
                have e := Eq.refl (F4_L a0 a1); conv at e => rhs; simp only [F4_L, h0, h1, h2, h3, h4, h5, h6, h7, h8, h9, h10, h11, h12, h13, cond_true, cond_false]
                rw [e]
                exact rt (t13 ++ [.d h13, .c [] (C12)]) [] [] hcx (by kernel_rfl)
               | false =>
                have e := Eq.refl (F4_L a0 a1); conv at e => rhs; simp only [F4_L, h0, h1, h2, h3, h4, h5, h6, h7, h8, h9, h10, h11, h12, h13, cond_true, cond_false]
                rw [e]
                exact rt (t13 ++ [.d h13]) [] [] hcx (by kernel_rfl)
              | false =>
               have q12 := ne_of_beq_false h12
               have e := Eq.refl (F4_L a0 a1); conv at e => rhs; simp only [F4_L, h0, h1, h2, h3, h4, h5, h6, h7, h8, h9, h10, h11, h12, cond_true, cond_false]
               rw [e]
               exact rt (t12 ++ [.d h12]) [] [] hcx (by kernel_rfl)
            | false =>
             have q10 := of_decide_eq_false h10
             have e := Eq.refl (F4_L a0 a1); conv at e => rhs; simp only [F4_L, h0, h1, h2, h3, h4, h5, h6, h7, h8, h9, h10, cond_true, cond_false]
             rw [e]
             exact rt (t10 ++ [.d h10, .c [] (C12)]) [] [] hcx (by kernel_rfl)
           | false =>
            have q9 := of_decide_eq_false h9
            have e := Eq.refl (F4_L a0 a1); conv at e => rhs; simp only [F4_L, h0, h1, h2, h3, h4, h5, h6, h7, h8, h9, cond_true, cond_false]
            rw [e]
            exact rt (t9 ++ [.d h9, .c [] (C12)]) [] [] hcx (by kernel_rfl)
          | false =>
           have q8 := of_decide_eq_false h8
           have e := Eq.refl (F4_L a0 a1); conv at e => rhs; simp only [F4_L, h0, h1, h2, h3, h4, h5, h6, h7, h8, cond_true, cond_false]
           rw [e]
           exact rt (t8 ++ [.d h8, .c [] (C12)]) [] [] hcx (by kernel_rfl)
         | false =>
          have q7 := of_decide_eq_false h7
          let t8 : List (St Tryz.prog) := (t7 ++ [.d h7])
          cases h8 : (decide ((a1.2.2.1 : Int) ≥ 0)) with
          | true =>
           have q8 := of_decide_eq_true h8
           let t9 : List (St Tryz.prog) := (t8 ++ [.d h8])
           cases h9 : (decide ((a1.2.2.1 : Int) ≤ 2000)) with
           | true =>
            have q9 := of_decide_eq_true h9
            let t10 : List (St Tryz.prog) := (t9 ++ [.d h9])
            cases h10 : (decide ((a1.2.2.2 : Int) ≥ 0)) with
            | true =>
             have q10 := of_decide_eq_true h10
             let t11 : List (St Tryz.prog) := (t10 ++ [.d h10])
             cases h11 : (!(decide ((a1.2.2.1 : Int) > (F7_L a0 a1.1 a1.2.1).2.1))) with
             | true =>
              have e := Eq.refl (F4_L a0 a1); conv at e => rhs; simp only [F4_L, h0, h1, h2, h3, h4, h5, h6, h7, h8, h9, h10, h11, cond_true, cond_false]
              rw [e]
              exact rt (t11 ++ [.d h11, .c [] (C12)]) [] [] hcx (by kernel_rfl)
             | false =>
              let t12 : List (St Tryz.prog) := (t11 ++ [.d h11])
              cases h12 : (!(decide ((a1.2.2.2 : Int) ≤ 3))) with
              | true =>
               have e := Eq.refl (F4_L a0 a1); conv at e => rhs; simp only [F4_L, h0, h1, h2, h3, h4, h5, h6, h7, h8, h9, h10, h11, h12, cond_true, cond_false]
               rw [e]
               exact rt (t12 ++ [.d h12, .c [] (C12)]) [] [] hcx (by kernel_rfl)
              | false =>
               let t13 : List (St Tryz.prog) := (t12 ++ [.d h12])
               cases h13 : (((F17_L a0 a1.1 a1.2.1 a1.2.2.1 a1.2.2.2).2 : Int) == 0) with
               | true =>
                have q13 := eq_of_beq h13
                let t14 : List (St Tryz.prog) := (t13 ++ [.d h13])
                cases h14 : ((((F17_L a0 a1.1 a1.2.1 a1.2.2.1 a1.2.2.2).1.1 : Int) == 0) && ((((F17_L a0 a1.1 a1.2.1 a1.2.2.1 a1.2.2.2).1.2 : Int) == 0) && true)) with
                | true =>
                 have e := Eq.refl (F4_L a0 a1); conv at e => rhs; simp only [F4_L, h0, h1, h2, h3, h4, h5, h6, h7, h8, h9, h10, h11, h12, h13, h14, cond_true, cond_false]
                 rw [e]
                 exact rt (t14 ++ [.d h14, .c [] (C12)]) [] [] hcx (by kernel_rfl)
                | false =>
                 have e := Eq.refl (F4_L a0 a1); conv at e => rhs; simp only [F4_L, h0, h1, h2, h3, h4, h5, h6, h7, h8, h9, h10, h11, h12, h13, h14, cond_true, cond_false]
                 rw [e]
                 exact rt (t14 ++ [.d h14]) [] [] hcx (by kernel_rfl)
               | false =>
                have q13 := ne_of_beq_false h13
                have e := Eq.refl (F4_L a0 a1); conv at e => rhs; simp only [F4_L, h0, h1, h2, h3, h4, h5, h6, h7, h8, h9, h10, h11, h12, h13, cond_true, cond_false]
                rw [e]
                exact rt (t13 ++ [.d h13]) [] [] hcx (by kernel_rfl)
            | false =>
             have q10 := of_decide_eq_false h10
             let t11 : List (St Tryz.prog) := (t10 ++ [.d h10])
             cases h11 : (!(decide ((a1.2.2.1 : Int) > (F7_L a0 a1.1 a1.2.1).2.1))) with
             | true =>
              have e := Eq.refl (F4_L a0 a1); conv at e => rhs; simp only [F4_L, h0, h1, h2, h3, h4, h5, h6, h7, h8, h9, h10, h11, cond_true, cond_false]
              rw [e]
              exact rt (t11 ++ [.d h11, .c [] (C12)]) [] [] hcx (by kernel_rfl)
             | false =>
              have e := Eq.refl (F4_L a0 a1); conv at e => rhs; simp only [F4_L, h0, h1, h2, h3, h4, h5, h6, h7, h8, h9, h10, h11, cond_true, cond_false]
              rw [e]
              exact rt (t11 ++ [.d h11, .c [] (C12)]) [] [] hcx (by kernel_rfl)
           | false =>
            have q9 := of_decide_eq_false h9
            let t10 : List (St Tryz.prog) := (t9 ++ [.d h9])
            cases h10 : (!(decide ((a1.2.2.1 : Int) > (F7_L a0 a1.1 a1.2.1).2.1))) with
            | true =>
             have e := Eq.refl (F4_L a0 a1); conv at e => rhs; simp only [F4_L, h0, h1, h2, h3, h4, h5, h6, h7, h8, h9, h10, cond_true, cond_false]
             rw [e]
             exact rt (t10 ++ [.d h10, .c [] (C12)]) [] [] hcx (by kernel_rfl)
            | false =>
             have e := Eq.refl (F4_L a0 a1); conv at e => rhs; simp only [F4_L, h0, h1, h2, h3, h4, h5, h6, h7, h8, h9, h10, cond_true, cond_false]
             rw [e]
             exact rt (t10 ++ [.d h10, .c [] (C12)]) [] [] hcx (by kernel_rfl)
          | false =>
           have q8 := of_decide_eq_false h8
           let t9 : List (St Tryz.prog) := (t8 ++ [.d h8])
           cases h9 : (!(decide ((a1.2.2.1 : Int) > (F7_L a0 a1.1 a1.2.1).2.1))) with
           | true =>
            have e := Eq.refl (F4_L a0 a1); conv at e => rhs; simp only [F4_L, h0, h1, h2, h3, h4, h5, h6, h7, h8, h9, cond_true, cond_false]
            rw [e]
            exact rt (t9 ++ [.d h9, .c [] (C12)]) [] [] hcx (by kernel_rfl)
           | false =>
            have e := Eq.refl (F4_L a0 a1); conv at e => rhs; simp only [F4_L, h0, h1, h2, h3, h4, h5, h6, h7, h8, h9, cond_true, cond_false]
            rw [e]
            exact rt (t9 ++ [.d h9, .c [] (C12)]) [] [] hcx (by kernel_rfl)

end Go.Proofs.YtcnnmgooolnebaaGreat

namespace Go.Proofs.YtcnnmgooolnebaaGreat
open Go.Proofs Go.Aw Go.RowKit
set_option maxRecDepth 100000
set_option linter.unusedVariables false
set_option linter.unusedSimpArgs false

/-! ### Images of valid pulses are valid -/
def mz (p : P3) : P3 := (p.1, p.2.1, -p.2.2)
def mzP (p : PN) : PN := (mz p.1, mz p.2.1, mz p.2.2)
theorem mz_f {m : Int} {p : P3} (h : bd m p) (hm : m ≤ 100000) : F70 p = mz p := by
  unfold bd at h
  unfold F70 mz
  rw [W_eq (n := 0 - p.2.2) (by omega) (by omega), Int.zero_sub]
theorem mz_bd {m : Int} {p : P3} (h : bd m p) : bd m (mz p) := by unfold bd mz at *; simp only; omega
theorem mzP_bd {m : Int} {p : PN} (h : bdP m p) : bdP m (mzP p) := ⟨mz_bd h.1, mz_bd h.2.1, mz_bd h.2.2⟩
theorem nrm_mz (p : PN) : nrm (mzP p) = (-(nrm p).1, -(nrm p).2.1, (nrm p).2.2) := by
  unfold nrm cr sb mzP mz
  simp only [Prod.mk.injEq]
  refine ⟨by grind, by grind, by grind⟩
theorem vp_mz {p : PN} (h : vp p = 0) : vp (mzP p) = 0 := by
  have hb := (vp_ok h).1
  unfold vp at h ⊢
  rw [if_pos hb] at h
  rw [if_pos (mzP_bd hb), nrm_mz]
  simp only
  split at h
  · exact absurd h (by decide)
  · rename_i h1
    rw [if_neg (by omega)]
theorem im_eq {soft : Bool} {p : PU} (h : POK p) : im soft p = (mzP p.1, p.2.1, bif soft then -p.2.2 else p.2.2) := by
  have hb := pok_bd h
  have hw := h.2.2
  unfold im mzP
  rw [mz_f hb.1 (by omega), mz_f hb.2.1 (by omega), mz_f hb.2.2 (by omega), W_eq (n := 0 - p.2.2) (by omega) (by omega), Int.zero_sub]
theorem im_pok {soft : Bool} {p : PU} (h : POK p) : POK (im soft p) := by
  rw [im_eq h]
  refine ⟨vp_mz h.1, h.2.1, ?_⟩
  have hw := h.2.2
  cases soft <;> simp only [cond_true, cond_false] <;> omega
theorem imV_ok {l : List PU} {soft : Bool} (h : (imV l soft).2 = 0) : vpL l = 0 ∧ (imV l soft).1 = l ++ l.map (im soft) ∧ 2 * l.length ≤ 16 ∧ vpL (imV l soft).1 = 0 := by
  unfold imV at h ⊢
  by_cases h1 : vpL l = 0
  · rw [if_pos h1] at h ⊢
    by_cases h2 : fe gz l = 0
    · rw [if_pos h2] at h ⊢
      by_cases h3 : 16 < 2 * l.length
      · rw [if_pos h3] at h; exact absurd h (by decide)
      · rw [if_neg h3]
        refine ⟨h1, rfl, by omega, ?_⟩
        unfold vpL
        simp only
        rw [if_neg (by rw [List.length_append, List.length_map]; omega), fe_0.2]
        intro q hq
        rcases List.mem_append.1 hq with hq | hq
        · exact pv_ok.2 ((vpL_ok h1).2 q hq)
        · obtain ⟨p, hp, rfl⟩ := List.mem_map.1 hq
          exact pv_ok.2 (im_pok ((vpL_ok h1).2 p hp))
    · rw [if_neg h2] at h; exact absurd h (by decide)
  · rw [if_neg h1] at h; exact absurd h h1
theorem imf_ok {l : List PU} {soft : Bool} (h : (((F44_L l soft).2 : Int) != 0) = false) : vpL (F44_L l soft).1 = 0 := by
  rw [Images_f] at h ⊢
  exact (imV_ok (bne_eq_false_iff_eq.1 h)).2.2.2
theorem ist_n {n : Int} (h : (!(F30 n)) = false) : 0 ≤ n ∧ n ≤ 2000 := ist_p (by simpa using h)
theorem isd_n {n : Int} (h : (!(F26 n)) = false) : 0 ≤ n ∧ n ≤ 3 := isd_p (by simpa using h)

def F22_L (a0 : List (((Int × Int × Int) × (Int × Int × Int) × Int × Int × Int) × Int × Int)) (a1 : Int × Int × Int) (a2 : Bool) (a3 : Int) (a4 : Int) (a5 : Int) : (Int × Int) × Int :=
  (bif (((F44_L a0 a2).2 : Int) != 0) then
   ((0, 0), (F44_L a0 a2).2)
  else
   (bif (!(F18 a1)) then
    ((0, 0), 1)
   else
    (bif (!(F19 a3)) then
     ((0, 0), 1)
    else
     (bif (!(F30 a4)) then
      ((0, 0), 1)
     else
      (bif (!(F26 a5)) then
       ((0, 0), 1)
      else
       (bif (decide ((a1.2.2 : Int) < 0)) then
        ((0, 0), 1)
       else
        ((F32_L (F44_L a0 a2).1 a1 a3 a4 a5).1, (F32_L (F44_L a0 a2).1 a1 a3 a4 a5).2)))))))

theorem C22_L (a0 : List (((Int × Int × Int) × (Int × Int × Int) × Int × Int × Int) × Int × Int)) (a1 : Int × Int × Int) (a2 : Bool) (a3 : Int) (a4 : Int) (a5 : Int) (l0 : a0.length ≤ 9223372036854775807) : Con Tryz.prog 22 [(.s 0 0 a0.length 11), (.a (k3 a1)), (.v (.bool a2)), (iv a3), (iv a4), (iv a5)] [(.live false true (flat c63 a0))] (.t [(.a (k2 (F22_L a0 a1 a2 a3 a4 a5).1)), (iv (F22_L a0 a1 a2 a3 a4 a5).2)]) [] := by
  refine con_s Tryz.func22 (by kernel_rfl) fun cx hcx => ?_
  have hd1 := imf_len a0 a2
  try have hv := imf_ok h0
  let t0 : List (St Tryz.prog) := [.c [0] (C44_L a0 a2 (by (try simp only [List.length_append, List.length_cons, List.length_nil, Int.toNat_zero]); omega))]
  cases h0 : (((F44_L a0 a2).2 : Int) != 0) with
  | true =>
   have q0 := bne_iff_ne.1 h0
   try have hv := imf_ok h0
   have e := Eq.refl (F22_L a0 a1 a2 a3 a4 a5); conv at e => rhs; simp only [F22_L, h0, cond_true, cond_false]
   rw [e]
   exact rt (t0 ++ [.d h0]) [] [] hcx (by kernel_rfl)
  | false =>
   have q0 := bne_eq_false_iff_eq.1 h0
   try have hv := imf_ok h0
   let t1 : List (St Tryz.prog) := (t0 ++ [.d h0, .c [] (C18 a1)])
   cases h1 : (!(F18 a1)) with
   | true =>
    try have hv := imf_ok h0
    have e := Eq.refl (F22_L a0 a1 a2 a3 a4 a5); conv at e => rhs; simp only [F22_L, h0, h1, cond_true, cond_false]
    rw [e]
    exact rt (t1 ++ [.d h1]) [] [] hcx (by kernel_rfl)
   | false =>
    try have hv := imf_ok h0
    let t2 : List (St Tryz.prog) := (t1 ++ [.d h1, .c [] (C19 a3)])
    cases h2 : (!(F19 a3)) with
    | true =>
     try have hv := imf_ok h0
     have e := Eq.refl (F22_L a0 a1 a2 a3 a4 a5); conv at e => rhs; simp only [F22_L, h0, h1, h2, cond_true, cond_false]
     rw [e]
     exact rt (t2 ++ [.d h2]) [] [] hcx (by kernel_rfl)
    | false =>
     try have hv := imf_ok h0
     let t3 : List (St Tryz.prog) := (t2 ++ [.d h2, .c [] (C30 a4)])
     cases h3 : (!(F30 a4)) with
     | true =>
      try have hv := imf_ok h0
      have e := Eq.refl (F22_L a0 a1 a2 a3 a4 a5); conv at e => rhs; simp only [F22_L, h0, h1, h2, h3, cond_true, cond_false]
      rw [e]
      exact rt (t3 ++ [.d h3]) [] [] hcx (by kernel_rfl)
     | false =>
      try have hv := imf_ok h0
      let t4 : List (St Tryz.prog) := (t3 ++ [.d h3, .c [] (C26 a5)])
      cases h4 : (!(F26 a5)) with
      | true =>
       try have hv := imf_ok h0
       have e := Eq.refl (F22_L a0 a1 a2 a3 a4 a5); conv at e => rhs; simp only [F22_L, h0, h1, h2, h3, h4, cond_true, cond_false]
       rw [e]
       exact rt (t4 ++ [.d h4]) [] [] hcx (by kernel_rfl)
      | false =>
       try have hv := imf_ok h0
       let t5 : List (St Tryz.prog) := (t4 ++ [.d h4])
       cases h5 : (decide ((a1.2.2 : Int) < 0)) with
       | true =>
        have q5 := of_decide_eq_true h5
        try have hv := imf_ok h0
        have e := Eq.refl (F22_L a0 a1 a2 a3 a4 a5); conv at e => rhs; simp only [F22_L, h0, h1, h2, h3, h4, h5, cond_true, cond_false]
        rw [e]
        exact rt (t5 ++ [.d h5]) [] [] hcx (by kernel_rfl)
       | false =>
        have q5 := of_decide_eq_false h5
        try have hv := imf_ok h0
        have e := Eq.refl (F22_L a0 a1 a2 a3 a4 a5); conv at e => rhs; simp only [F22_L, h0, h1, h2, h3, h4, h5, cond_true, cond_false]
        rw [e]
        exact rt (t5 ++ [.d h5, .c [3] (C32_L (F44_L a0 a2).1 a1 a3 a4 a5 (by (try simp only [List.length_append, List.length_cons, List.length_nil, Int.toNat_zero]); omega) hv (isp_n h1) (iss_n h2) (ist_n h3) (isd_n h4))]) [] [] hcx (by kernel_rfl)

/-! ### What is heard with a wall -/
noncomputable def ecV (l : List PU) (x : P3) (soft : Bool) (s t d : Int) : (Int × Int) × Int :=
  open Classical in if (imV l soft).2 = 0 then (if askd x s t d ∧ 0 ≤ x.2.2 then scS (imV l soft).1 x s t d else ((0, 0), 1)) else ((0, 0), (imV l soft).2)
open Classical in
theorem Echo_f (l : List PU) (x : P3) (soft : Bool) (s t d : Int) : F22_L l x soft s t d = ecV l x soft s t d := by
  unfold F22_L ecV
  rw [Images_f, isP_f, isS_f, isT_f, isD_f]
  by_cases h : (imV l soft).2 = 0
  · obtain ⟨_, _, _, hv⟩ := imV_ok h
    rw [if_pos h, h]
    by_cases h1 : bd 256 x
    · by_cases h2 : 1 ≤ s ∧ s ≤ 16
      · by_cases h3 : 0 ≤ t ∧ t ≤ 2000
        · by_cases h4 : 0 ≤ d ∧ d ≤ 3
          · rw [scene_f hv h1 h2 h3 h4]
            by_cases h5 : x.2.2 < 0
            · rw [if_neg (fun h => by omega)]; simp [h1, h2, h3, h4, h5]
            · rw [if_pos ⟨⟨h1, h2, h3, h4⟩, by omega⟩]; simp [h1, h2, h3, h4, h5]
          · rw [if_neg (fun h => h4 h.1.2.2.2)]; simp [h1, h2, h3, h4]
        · rw [if_neg (fun h => h3 h.1.2.2.1)]; simp [h1, h2, h3]
      · rw [if_neg (fun h => h2 h.1.2.1)]; simp [h1, h2]
    · rw [if_neg (fun h => h1 h.1.1)]; simp [h1]
  · rw [if_neg h, bne_iff_ne.2 h]; rfl
end Go.Proofs.YtcnnmgooolnebaaGreat

namespace Go.Proofs.YtcnnmgooolnebaaGreat
open Go.Proofs Go.Aw Go.RowKit
set_option maxRecDepth 100000
set_option linter.unusedVariables false
set_option linter.unusedSimpArgs false

/-! ### On a wall -/
theorem mid_mz {p q : P3} (hp : bd 100000 p) (hq : bd 100000 q) : F109 (mz p) (mz q) = mz (F109 p q) := by
  rw [mid_f (mz_bd hp) (mz_bd hq), mid_f hp hq]
  unfold mz
  simp only [Prod.mk.injEq, true_and]
  omega
theorem two_mz {p : P3} (hp : bd 100000 p) : F76 (mz p) 2 = mz (F76 p 2) := by
  rw [times_f (mz_bd hp), times_f hp]
  unfold mz
  simp only [Prod.mk.injEq, true_and]
  omega
theorem q_mz {p : PN} (h : bdP 100000 p) : q1 (mzP p) = mzP (q1 p) ∧ q2 (mzP p) = mzP (q2 p) ∧ q3 (mzP p) = mzP (q3 p) ∧ q4 (mzP p) = mzP (q4 p) := by
  obtain ⟨h1, h2, h3⟩ := h
  unfold q1 q2 q3 q4 mzP
  simp only [two_mz h1, two_mz h2, two_mz h3, mid_mz h1 h2, mid_mz h2 h3, mid_mz h3 h1, and_self]
theorem cutL_mz : ∀ (d : Nat) {m : Int} {p : PN}, bdP m p → m * 2 ^ d ≤ 100000 → 0 ≤ m → cutL d (mzP p) = (cutL d p).map mzP
  | 0, m, p, _, _, _ => rfl
  | d + 1, m, p, h, hm, h0 => by
    have hp : (1 : Int) ≤ 2 ^ d := Int.add_one_le_of_lt (Int.pow_pos (by omega))
    have e1 : m * 2 ^ (d + 1) = 2 * m * 2 ^ d := by rw [Int.pow_succ]; grind
    have hm1 : m ≤ m * 2 ^ d := by
      have := Int.mul_le_mul_of_nonneg_left hp h0
      omega
    have hm2 : m * 2 ^ (d + 1) = m * 2 ^ d + m * 2 ^ d := by rw [Int.pow_succ]; grind
    have hb : bdP 100000 p := h.mono (by omega)
    obtain ⟨k1, k2, k3, k4⟩ := q_mz hb
    have key : ∀ y, y ∈ quad p → cutL d (mzP y) = (cutL d y).map mzP := fun y hy => cutL_mz d (quad_bd h (by omega) hy) (by omega) (by omega)
    simp only [cutL, k1, k2, k3, k4, List.map_append]
    rw [key _ (by simp [quad]), key _ (by simp [quad]), key _ (by simp [quad]), key _ (by simp [quad])]
theorem lo3_neg (a b c : Int) : lo3 (-a) (-b) (-c) = -hi3 a b c := by unfold lo3 hi3; simp only [Int.lt_irrefl, if_false]; (repeat' split) <;> omega
theorem hi3_neg (a b c : Int) : hi3 (-a) (-b) (-c) = -lo3 a b c := by unfold lo3 hi3; simp only [Int.lt_irrefl, if_false]; (repeat' split) <;> omega
theorem gp_neg (l h : Int) : gp (-h) (-l) 0 0 = gp l h 0 0 := by unfold gp mx; (repeat' split) <;> omega
theorem ne_mz (c : PN) {x : P3} (hx : x.2.2 = 0) : ne (mzP c) x = ne c x := by
  unfold ne nr blo bhi mzP mz
  simp only [lo3_neg, hi3_neg, hx, gp_neg]
theorem ds_mz (a : P3) {x : P3} (hx : x.2.2 = 0) : ds (mz a) x = ds a x := by
  unfold ds dt sb mz
  simp only [hx]
  grind
theorem fa_mz (c : PN) {x : P3} (hx : x.2.2 = 0) : fa (mzP c) x = fa c x := by
  unfold fa mzP
  simp only [ds_mz _ hx]
theorem shs_map {α β γ : Type} {g : α → β × Int} {g' : γ → β × Int} {f : γ → α} : ∀ {k : List γ} {m : List β}, (∀ c ∈ k, g (f c) = g' c) → shs g (k.map f) m = shs g' k m
  | [], m, _ => rfl
  | c :: k, m, h => by
    simp only [List.map_cons, shs]
    rw [h c List.mem_cons_self, shs_map (fun c hc => h c (List.mem_cons_of_mem _ hc))]
theorem shs_append {α β : Type} {g : α → β × Int} : ∀ {k k' : List α} {m : List β}, shs g (k ++ k') m = (match shs g k m with | .inl m' => shs g k' m' | .inr e => .inr e)
  | [], k', m => rfl
  | c :: k, k', m => by
    simp only [List.cons_append, shs]
    split
    · exact shs_append
    · rfl
theorem shs_pre {α β : Type} {g : α → β × Int} : ∀ {k : List α} {m : List β}, (∀ c ∈ k, (g c).2 = 0) → shs g k m = .inl (m ++ k.map fun c => (g c).1)
  | [], m, _ => by simp [shs]
  | c :: k, m, h => by
    simp only [shs]
    rw [if_pos (h c List.mem_cons_self), shs_pre (fun c hc => h c (List.mem_cons_of_mem _ hc))]; simp
def ngp (a : (Int × Int) × Int) : (Int × Int) × Int := ((-a.1.2, -a.1.1), a.2)
theorem hrT_im {p : PU} {x : P3} {s t d : Int} (hp : POK p) (hd : 0 ≤ d ∧ d ≤ 3) (hx : x.2.2 = 0) : hrT (im false p) x s t d = hrT p x s t d ∧ hrT (im true p) x s t d = ngp (hrT p x s t d) := by
  have hb := pok_bd hp
  have htz : (tm (sc d) x).2.2 = 0 := by simp only [tm, hx, Int.mul_zero]
  have hcut : cutL d.toNat (mzP p.1) = (cutL d.toNat p.1).map mzP := by
    rcases d4 hd with rfl | rfl | rfl | rfl <;> exact cutL_mz (m := 64) _ hb (by decide) (by decide)
  have hG : ∀ (soft : Bool) (c : PN), shG (im soft p) x s t d (mzP c) = shG p x s t d c := fun soft c => by
    unfold shG
    rw [im_eq hp, ne_mz c htz, fa_mz c htz]
  have hS : ∀ soft : Bool, shs (shG (im soft p) x s t d) (cutL d.toNat (im soft p).1) [] = shs (shG p x s t d) (cutL d.toNat p.1) [] := fun soft => by
    rw [show (im soft p).1 = mzP p.1 by rw [im_eq hp], hcut]
    exact shs_map (fun c _ => hG soft c)
  have h1 : ∀ soft : Bool, (im soft p).2.1 = p.2.1 := fun soft => rfl
  constructor
  · unfold hrT
    rw [h1, hS, show (im false p).2.2 = p.2.2 from rfl]
  · unfold hrT
    rw [h1, hS, show (im true p).2.2 = -p.2.2 by rw [im_eq hp]; rfl]
    split
    · simp [ngp]
    · cases e : shs (shG p x s t d) (cutL d.toNat p.1) [] with
      | inr r => simp [out8, ngp]
      | inl m =>
        obtain ⟨e1, _⟩ := shs_inl e
        rw [List.nil_append] at e1
        have hok := avg_small (cnt_in d) (shG_map p x s t d (cutL d.toNat p.1)) (by rw [List.length_map]; exact cnt_len hd p.1)
        rw [← e1] at hok
        simp only [out8, ngp]
        rw [scl_neg hok.2.1]
theorem sums_neg (l : List (Int × Int)) : sums (l.map fun a => (-a.2, -a.1)) (0, 0) = (-(sums l (0, 0)).2, -(sums l (0, 0)).1) := by
  induction l with
  | nil => rfl
  | cons a l ih =>
    have e : ∀ (k : List (Int × Int)) (b : Int × Int), sums (b :: k) (0, 0) = (b.1 + (sums k (0, 0)).1, b.2 + (sums k (0, 0)).2) := fun k b => by
      simp only [sums_eq, List.map_cons, List.sum_cons]
      simp only [Prod.mk.injEq]
      constructor <;> omega
    rw [List.map_cons, e, e, ih]
    simp only [Prod.mk.injEq]
    constructor <;> omega
theorem wall_eq {l : List PU} {x : P3} {s t d : Int} (hp : ∀ p ∈ l, POK p) (hd : 0 ≤ d ∧ d ≤ 3) (hx : x.2.2 = 0) :
    (∃ e, e ≠ 0 ∧ scS l x s t d = ((0, 0), e) ∧ ∀ soft : Bool, scS (l ++ l.map (im soft)) x s t d = ((0, 0), e)) ∨
    (∃ a, scS l x s t d = (a, 0) ∧ scS (l ++ l.map (im false)) x s t d = ((a.1 + a.1, a.2 + a.2), 0) ∧ scS (l ++ l.map (im true)) x s t d = ((a.1 - a.2, a.2 - a.1), 0)) := by
  unfold scS
  cases e : shs (fun p => hrT p x s t d) l [] with
  | inr r =>
    refine .inl ⟨r, shs_inr e, rfl, fun soft => ?_⟩
    rw [shs_append, e]; rfl
  | inl m =>
    obtain ⟨e1, e2⟩ := shs_inl e
    rw [List.nil_append] at e1
    refine .inr ⟨sums m (0, 0), rfl, ?_, ?_⟩
    · rw [shs_append, e]
      simp only
      rw [shs_map (g' := fun p => hrT p x s t d) (fun p hpl => (hrT_im (hp p hpl) hd hx).1), shs_pre e2, ← e1]
      simp only [out8]
      rw [sums_app]
    · rw [shs_append, e]
      simp only
      rw [shs_map (g' := fun p => ngp (hrT p x s t d)) (fun p hpl => (hrT_im (hp p hpl) hd hx).2), shs_pre (g := fun p => ngp (hrT p x s t d)) (fun c hc => e2 c hc)]
      simp only [out8]
      have hm : (l.map fun c => (ngp (hrT c x s t d)).1) = m.map fun a => (-a.2, -a.1) := by rw [e1, List.map_map]; rfl
      rw [hm, sums_app, sums_neg]
      simp only [Prod.mk.injEq, and_true]
      constructor <;> omega
theorem scS_half {l : List PU} {x : P3} {s t d : Int} (hl : 2 * l.length ≤ 16) (hp : ∀ p ∈ l, POK p) (hd : 0 ≤ d ∧ d ≤ 3) : -429496730400 ≤ (scS l x s t d).1.1 ∧ (scS l x s t d).1.1 ≤ (scS l x s t d).1.2 ∧ (scS l x s t d).1.2 ≤ 429496730400 := by
  unfold scS
  cases e : shs (fun p => hrT p x s t d) l [] with
  | inr r => simp [out8]
  | inl m =>
    obtain ⟨h1, _⟩ := shs_inl e
    rw [List.nil_append] at h1
    subst h1
    have := sums_bw (l := l.map fun c => (hrT c x s t d).1) (v := (0, 0)) (fun a ha => by
      obtain ⟨c, hc, rfl⟩ := List.mem_map.1 ha
      exact hrT_bw (hp c hc) hd) (by simp)
    rw [List.length_map] at this
    simp only [out8] at this ⊢
    omega
theorem twice_f {a : Int × Int} (h : -429496730400 ≤ a.1 ∧ a.1 ≤ a.2 ∧ a.2 ≤ 429496730400) : F23 a 2 = ((a.1 + a.1, a.2 + a.2), 0) := by
  rw [Scale_f (by unfold vs; omega) (by omega)]
  unfold scl sat
  rw [if_neg (by omega), if_neg (by omega), if_neg (by omega), if_neg (by omega), if_neg (by omega)]
  rw [res_f (by simp only; omega) (by simp only; omega) (by simp only; omega)]
  simp only [Prod.mk.injEq, and_true]
  constructor <;> omega

end Go.Proofs.YtcnnmgooolnebaaGreat

namespace Go.Proofs.YtcnnmgooolnebaaGreat
open Go.Proofs Go.Aw Go.RowKit
set_option maxRecDepth 100000
set_option linter.unusedVariables false
set_option linter.unusedSimpArgs false

def F6_L (a0 : List (((Int × Int × Int) × (Int × Int × Int) × Int × Int × Int) × Int × Int)) (a1 : (Int × Int × Int) × Int × Int × Int) : Bool :=
  (bif (decide ((((a0.length : Nat) : Int) : Int) > 60)) then
   F12
  else
   (bif (((F22_L a0 (a1.1.1, a1.1.2.1, 0) false a1.2.1 a1.2.2.1 a1.2.2.2).2 : Int) != (F22_L a0 (a1.1.1, a1.1.2.1, 0) true a1.2.1 a1.2.2.1 a1.2.2.2).2) then
    false
   else
    (bif (((F22_L a0 (a1.1.1, a1.1.2.1, 0) false a1.2.1 a1.2.2.1 a1.2.2.2).2 : Int) != 0) then
     F12
    else
     (bif (((F17_L a0 (a1.1.1, a1.1.2.1, 0) a1.2.1 a1.2.2.1 a1.2.2.2).2 : Int) == 0) then
      (bif (((F23 (F17_L a0 (a1.1.1, a1.1.2.1, 0) a1.2.1 a1.2.2.1 a1.2.2.2).1 2).2 : Int) == 0) then
       (bif ((((F22_L a0 (a1.1.1, a1.1.2.1, 0) false a1.2.1 a1.2.2.1 a1.2.2.2).1.1 : Int) == (F23 (F17_L a0 (a1.1.1, a1.1.2.1, 0) a1.2.1 a1.2.2.1 a1.2.2.2).1 2).1.1) && ((((F22_L a0 (a1.1.1, a1.1.2.1, 0) false a1.2.1 a1.2.2.1 a1.2.2.2).1.2 : Int) == (F23 (F17_L a0 (a1.1.1, a1.1.2.1, 0) a1.2.1 a1.2.2.1 a1.2.2.2).1 2).1.2) && true)) then
        (bif (decide (((F22_L a0 (a1.1.1, a1.1.2.1, 0) true a1.2.1 a1.2.2.1 a1.2.2.2).1.1 : Int) ≤ 0)) then
         (bif (decide (((F22_L a0 (a1.1.1, a1.1.2.1, 0) true a1.2.1 a1.2.2.1 a1.2.2.2).1.2 : Int) ≥ 0)) then
          F12
         else
          false)
        else
         false)
       else
        false)
      else
       false)
     else
      false))))

theorem C6_L (a0 : List (((Int × Int × Int) × (Int × Int × Int) × Int × Int × Int) × Int × Int)) (a1 : (Int × Int × Int) × Int × Int × Int) (l0 : a0.length ≤ 9223372036854775807) : Con Tryz.prog 6 [(.s 0 0 a0.length 11), (.a [(iv a1.1.1), (iv a1.1.2.1), (iv a1.1.2.2), (iv a1.2.1), (iv a1.2.2.1), (iv a1.2.2.2)])] [(.live false true (flat c63 a0))] (.v (.bool (F6_L a0 a1))) [] := by
  refine con_s Tryz.func6 (by kernel_rfl) fun cx hcx => ?_
  cases h0 : (decide ((((a0.length : Nat) : Int) : Int) > 60)) with
  | true =>
   have q0 := of_decide_eq_true h0
   have e := Eq.refl (F6_L a0 a1); conv at e => rhs; simp only [F6_L, h0, cond_true, cond_false]
   rw [e]
   exact rt [.d h0, .c [] (C12)] [] [] hcx (by kernel_rfl)
  | false =>
   have q0 := of_decide_eq_false h0
   let t1 : List (St Tryz.prog) := [.d h0, .c [0] (C17_L a0 (a1.1.1, a1.1.2.1, 0) a1.2.1 a1.2.2.1 a1.2.2.2 (by (try simp only [List.length_append, List.length_cons, List.length_nil, Int.toNat_zero]); omega)), .c [0] (C22_L a0 (a1.1.1, a1.1.2.1, 0) false a1.2.1 a1.2.2.1 a1.2.2.2 (by (try simp only [List.length_append, List.length_cons, List.length_nil, Int.toNat_zero]); omega)), .c [0] (C22_L a0 (a1.1.1, a1.1.2.1, 0) true a1.2.1 a1.2.2.1 a1.2.2.2 (by (try simp only [List.length_append, List.length_cons, List.length_nil, Int.toNat_zero]); omega))]
   cases h1 : (((F22_L a0 (a1.1.1, a1.1.2.1, 0) false a1.2.1 a1.2.2.1 a1.2.2.2).2 : Int) != (F22_L a0 (a1.1.1, a1.1.2.1, 0) true a1.2.1 a1.2.2.1 a1.2.2.2).2) with
   | true =>
    have q1 := bne_iff_ne.1 h1
    have e := Eq.refl (F6_L a0 a1); conv at e => rhs; simp only [F6_L, h0, h1, cond_true, cond_false]
    rw [e]
    exact rt (t1 ++ [.d h1]) [] [] hcx (by kernel_rfl)
   | false =>
    have q1 := bne_eq_false_iff_eq.1 h1
    let t2 : List (St Tryz.prog) := (t1 ++ [.d h1])
    cases h2 : (((F22_L a0 (a1.1.1, a1.1.2.1, 0) false a1.2.1 a1.2.2.1 a1.2.2.2).2 : Int) != 0) with
    | true =>
     have q2 := bne_iff_ne.1 h2
     have e := Eq.refl (F6_L a0 a1); conv at e => rhs; simp only [F6_L, h0, h1, h2, cond_true, cond_false]
     rw [e]
     exact rt (t2 ++ [.d h2, .c [] (C12)]) [] [] hcx (by kernel_rfl)
    | false =>
     have q2 := bne_eq_false_iff_eq.1 h2
     let t3 : List (St Tryz.prog) := (t2 ++ [.d h2, .c [] (C23 (F17_L a0 (a1.1.1, a1.1.2.1, 0) a1.2.1 a1.2.2.1 a1.2.2.2).1 2)])
     cases h3 : (((F17_L a0 (a1.1.1, a1.1.2.1, 0) a1.2.1 a1.2.2.1 a1.2.2.2).2 : Int) == 0) with
     | true =>
      have q3 := eq_of_beq h3
      let t4 : List (St Tryz.prog) := (t3 ++ [.d h3])
      cases h4 : (((F23 (F17_L a0 (a1.1.1, a1.1.2.1, 0) a1.2.1 a1.2.2.1 a1.2.2.2).1 2).2 : Int) == 0) with
      | true =>
       have q4 := eq_of_beq h4
       let t5 : List (St Tryz.prog) := (t4 ++ [.d h4])
       cases h5 : ((((F22_L a0 (a1.1.1, a1.1.2.1, 0) false a1.2.1 a1.2.2.1 a1.2.2.2).1.1 : Int) == (F23 (F17_L a0 (a1.1.1, a1.1.2.1, 0) a1.2.1 a1.2.2.1 a1.2.2.2).1 2).1.1) && ((((F22_L a0 (a1.1.1, a1.1.2.1, 0) false a1.2.1 a1.2.2.1 a1.2.2.2).1.2 : Int) == (F23 (F17_L a0 (a1.1.1, a1.1.2.1, 0) a1.2.1 a1.2.2.1 a1.2.2.2).1 2).1.2) && true)) with
       | true =>
        let t6 : List (St Tryz.prog) := (t5 ++ [.d h5])
        cases h6 : (decide (((F22_L a0 (a1.1.1, a1.1.2.1, 0) true a1.2.1 a1.2.2.1 a1.2.2.2).1.1 : Int) ≤ 0)) with
        | true =>
         have q6 := of_decide_eq_true h6
         let t7 : List (St Tryz.prog) := (t6 ++ [.d h6])
         cases h7 : (decide (((F22_L a0 (a1.1.1, a1.1.2.1, 0) true a1.2.1 a1.2.2.1 a1.2.2.2).1.2 : Int) ≥ 0)) with
         | true =>
          have q7 := of_decide_eq_true h7
          have e := Eq.refl (F6_L a0 a1); conv at e => rhs; simp only [F6_L, h0, h1, h2, h3, h4, h5, h6, h7, cond_true, cond_false]
          rw [e]
          exact rt (t7 ++ [.d h7, .c [] (C12)]) [] [] hcx (by kernel_rfl)
         | false =>
          have q7 := of_decide_eq_false h7
          have e := Eq.refl (F6_L a0 a1); conv at e => rhs; simp only [F6_L, h0, h1, h2, h3, h4, h5, h6, h7, cond_true, cond_false]
          rw [e]
          exact rt (t7 ++ [.d h7]) [] [] hcx (by kernel_rfl)
        | false =>
         have q6 := of_decide_eq_false h6
         have e := Eq.refl (F6_L a0 a1); conv at e => rhs; simp only [F6_L, h0, h1, h2, h3, h4, h5, h6, cond_true, cond_false]
         rw [e]
         exact rt (t6 ++ [.d h6]) [] [] hcx (by kernel_rfl)
       | false =>
        have e := Eq.refl (F6_L a0 a1); conv at e => rhs; simp only [F6_L, h0, h1, h2, h3, h4, h5, cond_true, cond_false]
        rw [e]
        exact rt (t5 ++ [.d h5]) [] [] hcx (by kernel_rfl)
      | false =>
       have q4 := ne_of_beq_false h4
       have e := Eq.refl (F6_L a0 a1); conv at e => rhs; simp only [F6_L, h0, h1, h2, h3, h4, cond_true, cond_false]
       rw [e]
       exact rt (t4 ++ [.d h4]) [] [] hcx (by kernel_rfl)
     | false =>
      have q3 := ne_of_beq_false h3
      have e := Eq.refl (F6_L a0 a1); conv at e => rhs; simp only [F6_L, h0, h1, h2, h3, cond_true, cond_false]
      rw [e]
      exact rt (t3 ++ [.d h3]) [] [] hcx (by kernel_rfl)

theorem scV_w {l : List PU} {x : P3} {s t d : Int} (hv : vpL l = 0) (ha : askd x s t d) : scV l x s t d = scS l x s t d := by
  unfold scV; rw [if_pos hv, if_pos ha]
theorem law_walls (l : List PU) (x : P3 × Int × Int × Int) : F6_L l x = true := by
  unfold F6_L
  rw [sane_t]
  by_cases h1 : ((l.length : Nat) : Int) > 60
  · rw [decide_eq_true h1]; rfl
  rw [decide_eq_false h1, cond_false]
  generalize hX : ((x.1.1, x.1.2.1, 0) : P3) = X
  have hX0 : X.2.2 = 0 := by rw [← hX]
  simp only [Echo_f, Scene_f]
  have herr : ∀ soft : Bool, (imV l soft).2 = (imV l false).2 := fun soft => by
    unfold imV
    (repeat' split) <;> first | rfl | contradiction
  have hE : (∃ e, e ≠ 0 ∧ ∀ soft : Bool, ecV l X soft x.2.1 x.2.2.1 x.2.2.2 = ((0, 0), e)) ∨
      (∃ a : Int × Int, scV l X x.2.1 x.2.2.1 x.2.2.2 = (a, 0) ∧ ecV l X false x.2.1 x.2.2.1 x.2.2.2 = ((a.1 + a.1, a.2 + a.2), 0) ∧ ecV l X true x.2.1 x.2.2.1 x.2.2.2 = ((a.1 - a.2, a.2 - a.1), 0) ∧ (-429496730400 ≤ a.1 ∧ a.1 ≤ a.2 ∧ a.2 ≤ 429496730400)) := by
    unfold ecV
    by_cases h2 : (imV l false).2 = 0
    · by_cases h3 : askd X x.2.1 x.2.2.1 x.2.2.2
      · obtain ⟨hv, e1, hl, _⟩ := imV_ok h2
        obtain ⟨_, e2, _, _⟩ := imV_ok ((herr true).trans h2)
        have hp := (vpL_ok hv).2
        rcases wall_eq (s := x.2.1) (t := x.2.2.1) hp h3.2.2.2 hX0 with ⟨e, he, hs, hw⟩ | ⟨a, hs, hw1, hw2⟩
        · refine .inl ⟨e, he, fun soft => ?_⟩
          rw [if_pos ((herr soft).trans h2), if_pos ⟨h3, by omega⟩, (imV_ok ((herr soft).trans h2)).2.1, hw]
        · refine .inr ⟨a, ?_, ?_, ?_, ?_⟩
          · rw [scV_w hv h3, hs]
          · rw [if_pos h2, if_pos ⟨h3, by omega⟩, e1, hw1]
          · rw [if_pos ((herr true).trans h2), if_pos ⟨h3, by omega⟩, e2, hw2]
          · have := scS_half (s := x.2.1) (t := x.2.2.1) (x := X) hl hp h3.2.2.2
            rw [hs] at this; exact this
      · refine .inl ⟨1, by decide, fun soft => ?_⟩
        rw [if_pos ((herr soft).trans h2), if_neg (fun h => h3 h.1)]
    · exact .inl ⟨_, h2, fun soft => by rw [if_neg (by rw [herr]; exact h2), herr]⟩
  rcases hE with ⟨e, he, h⟩ | ⟨a, h1, h2, h3, hb⟩
  · rw [h, h]
    simp [he]
  · rw [h1, h2, h3, twice_f hb]
    simp only [bne_self_eq_false, cond_false, beq_self_eq_true, cond_true, Bool.and_self]
    rw [decide_eq_true (show a.1 - a.2 ≤ 0 by omega), decide_eq_true (show a.2 - a.1 ≥ 0 by omega)]; rfl

theorem law_quiet (l : List PU) (x : P3 × Int × Int × Int) : F4_L l x = true := by
  have hq := @quiet l x.1 x.2.1 x.2.2.1 x.2.2.2
  unfold F4_L
  rw [sane_t, ← Ticks_eq, ← Order_eq, same_ints]
  simp only [bne_self_eq_false, cond_false, Bool.not_true]
  by_cases h0 : (F7_L l x.1 x.2.1).2.2 = 0
  · rw [h0]
    simp only [bne_self_eq_false, cond_false]
    by_cases h1 : x.2.2.1 ≥ 0
    · by_cases h2 : x.2.2.1 ≤ 2000
      · by_cases h3 : x.2.2.2 ≥ 0
        · by_cases h4 : x.2.2.2 ≤ 3
          · by_cases h5 : x.2.2.1 < (F7_L l x.1 x.2.1).1
            · rw [hq h0 (.inl h5) ⟨h1, h2⟩ ⟨h3, h4⟩]; simp [h1, h2, h3, h4, h5]
            · by_cases h6 : x.2.2.1 > (F7_L l x.1 x.2.1).2.1
              · rw [hq h0 (.inr h6) ⟨h1, h2⟩ ⟨h3, h4⟩]; simp [h1, h2, h3, h4, h5, h6]
              · simp [h1, h2, h3, h4, h5, h6]
          · by_cases h5 : x.2.2.1 < (F7_L l x.1 x.2.1).1 <;> simp [h1, h2, h3, h4, h5]
        · by_cases h5 : x.2.2.1 < (F7_L l x.1 x.2.1).1 <;> simp [h1, h2, h3, h5]
      · by_cases h5 : x.2.2.1 < (F7_L l x.1 x.2.1).1 <;> simp [h1, h2, h5]
    · by_cases h5 : x.2.2.1 < (F7_L l x.1 x.2.1).1 <;> simp [h1, h5]
  · rw [bne_iff_ne.2 h0]; simp

end Go.Proofs.YtcnnmgooolnebaaGreat

namespace Go.Proofs.YtcnnmgooolnebaaGreat
open Go.Proofs Go.Aw Go.RowKit
set_option maxRecDepth 100000
set_option linter.unusedVariables false
set_option linter.unusedSimpArgs false

/-! ### From one tick to another one -/
def TRQ (l : List PU) (x : P3) (s b e d : Int) : Prop := vpL l = 0 ∧ bd 256 x ∧ (1 ≤ s ∧ s ≤ 16) ∧ (0 ≤ b ∧ b ≤ 2000) ∧ (0 ≤ d ∧ d ≤ 3) ∧ (e ≤ 2000 ∧ b ≤ e ∧ e ≤ b + 200)
theorem trq_f {l : List PU} {x : P3} {s b e d : Int} (h0 : F18 x = true) (h1 : F19 s = true) (h2 : F30 b = true) (h3 : F30 e = true) (h4 : F26 d = true)
    (h5 : ((F24_L l (F31 (W (e - b)) 0 200) : Int) != 0) = false) : TRQ l x s b e d := by
  have k2 := ist_p h2; have k3 := ist_p h3
  have k5 := ckL_b h5
  rw [sfrom_eq, W_eq (by omega) (by omega)] at k5
  have k6 := of_decide_eq_true k5
  exact ⟨ckL_v h5, isp_p h0, iss_p h1, k2, isd_p h4, by omega⟩
noncomputable def B9_L_0 : Code := (loopAtD [1, 1, 1, 0, 1] [] (bodyOf Tryz.f9) []).1
noncomputable def K9_L_0 : List K := (loopAtD [1, 1, 1, 0, 1] [] (bodyOf Tryz.f9) []).2

def st9_L_0 (a0 : List (((Int × Int × Int) × (Int × Int × Int) × Int × Int × Int) × Int × Int)) (a1 : Int × Int × Int) (a2 : Int) (a3 : Int) (a4 : Int) (a5 : Int) (v2c : List SV) (v2n : Nat) (v3 : Int) : LS := ⟨slN 71 [(0, (.s 0 0 a0.length 11)), (2, (iv a2)), (4, (iv a4)), (5, (iv a5)), (7, (.p 1 0)), (15, (.s 2 0 v2n 2)), (16, (iv v3))], [(.live false true (flat c63 a0)), (.live true false (k3 a1)), (.live true true v2c)]⟩

def S9_L_0 (a0 : List (((Int × Int × Int) × (Int × Int × Int) × Int × Int × Int) × Int × Int)) (a1 : Int × Int × Int) (a2 : Int) (a3 : Int) (a4 : Int) (a5 : Int) : (List (Int × Int)) × Int → ((List (Int × Int)) × Int) ⊕ ((List (Int × Int)) × Int)
  | (v2, v3) =>
   (bif (decide ((v3 : Int) ≤ a4)) then
    (bif (((F32_L a0 a1 a2 v3 a5).2 : Int) != 0) then
     (.inr (([] : List (Int × Int)), (F32_L a0 a1 a2 v3 a5).2))
    else
     (.inl ((v2 ++ [(F32_L a0 a1 a2 v3 a5).1]), (v3 + 1))))
   else
    (.inr (v2, 0)))

set_option maxHeartbeats 4000000 in
theorem L9_L_0 (a0 : List (((Int × Int × Int) × (Int × Int × Int) × Int × Int × Int) × Int × Int)) (a1 : Int × Int × Int) (a2 : Int) (a3 : Int) (a4 : Int) (a5 : Int) (l0 : a0.length ≤ 9223372036854775807) {cx : Cx} (hcx : cx.base = 1) : ∀ (n : Nat) (v2 : List (Int × Int)) (v3 : Int), (0 ≤ v3) ∧ (vpL a0 = 0) ∧ (bd 256 a1) ∧ (1 ≤ a2 ∧ a2 ≤ 16) ∧ (0 ≤ a5 ∧ a5 ≤ 3) ∧ (0 ≤ a3 ∧ a3 ≤ v3) ∧ (a4 ≤ 2000 ∧ a4 ≤ a3 + 200) ∧ (v2.length = Int.toNat (v3 - a3)) ∧ (v3 ≤ a4 + 1) → Int.toNat (a4 - v3 + 1) < n → Aw.Good Tryz.prog none 9 (bodyPost Tryz.prog Tryz.f9 (RR cx (.t [(.s 1 0 (loopF (S9_L_0 a0 a1 a2 a3 a4 a5) n (v2, v3)).1.length 2), (iv (loopF (S9_L_0 a0 a1 a2 a3 a4 a5) n (v2, v3)).2)]) [(.live true true (flat c34 (loopF (S9_L_0 a0 a1 a2 a3 a4 a5) n (v2, v3)).1))] [])) cx [] (.l B9_L_0 n :: K9_L_0) (st9_L_0 a0 a1 a2 a3 a4 a5 (flat c34 v2) v2.length v3) := by
  intro n
  induction n with
  | zero => intro v2 v3 hi hn; exact absurd hn (Nat.not_lt_zero _)
  | succ n ih =>
    intro v2 v3 hi hn
    refine good_round ?_
    cases h0 : (decide ((v3 : Int) ≤ a4)) with
    | true =>
     have q0 := of_decide_eq_true h0
     let t1 : List (St Tryz.prog) := [.d h0, .c [0] (C32_L a0 a1 a2 v3 a5 (by (try simp only [List.length_append, List.length_cons, List.length_nil, Int.toNat_zero]); omega) hi.2.1 hi.2.2.1 (by omega) (by omega) (by omega))]
     cases h1 : (((F32_L a0 a1 a2 v3 a5).2 : Int) != 0) with
     | true =>
      have q1 := bne_iff_ne.1 h1
      have e := Eq.refl (S9_L_0 a0 a1 a2 a3 a4 a5 (v2, v3)); conv at e => rhs; simp only [S9_L_0, h0, h1, cond_true, cond_false]
      rw [loopF_s, e]
      exact rt (t1 ++ [.d h1]) [.slot 12 2] [4] hcx (by kernel_rfl)
     | false =>
      have q1 := bne_eq_false_iff_eq.1 h1
      have e := Eq.refl (S9_L_0 a0 a1 a2 a3 a4 a5 (v2, v3)); conv at e => rhs; simp only [S9_L_0, h0, h1, cond_true, cond_false]
      rw [loopF_inl e]
      refine ba (t1 ++ [.d h1, .p (show ((flat c34 v2).length = v2.length * 2 ∧ v2.length + 1 ≤ 2 ^ 40 ∧ (v2.length + 1) * 16 ≤ 2 ^ 47) from app_ok c34_len (by omega) (by omega))]) [] [0, 2, 4, 5, 7, 15, 16] [1, 5] hcx (m := n) B9_L_0 (K9_L_0) (st9_L_0 a0 a1 a2 a3 a4 a5 (flat c34 v2 ++ (k2 (F32_L a0 a1 a2 v3 a5).1)) (v2.length + 1) (W (v3 + 1))) (by kernel_rfl) ?_
      have z0 : (W (v3 + 1)) = (v3 + 1) := W_eq (by omega) (by omega)
      have z1 : (flat c34 v2 ++ (k2 (F32_L a0 a1 a2 v3 a5).1)) = (flat c34 (v2 ++ [(F32_L a0 a1 a2 v3 a5).1])) := (flat_append (c := c34) (l := v2) (m := [(F32_L a0 a1 a2 v3 a5).1])).symm
      have z2 : (v2.length + 1) = (v2 ++ [(F32_L a0 a1 a2 v3 a5).1]).length := len_app v2 [(F32_L a0 a1 a2 v3 a5).1] rfl
      rw [z0, z1, z2]
      exact ih (v2 ++ [(F32_L a0 a1 a2 v3 a5).1]) (v3 + 1) (by refine ⟨?_, ?_, ?_, ?_, ?_, ?_, ?_, ?_, ?_⟩ <;> (try simp only [List.length_append, List.length_cons, List.length_nil, Int.toNat_zero]) <;> first | omega | assumption | exact hi.2.1 | exact hi.2.2.1 | exact hi.2.2.2.1 | exact hi.2.2.2.2.1 | exact hi.2.2.2.2.2.1 | exact hi.2.2.2.2.2.2.1 | exact hi.2.2.2.2.2.2.2.1 | exact hi.2.2.2.2.2.2.2.2.1 | simp) (by (try simp only [List.length_append, List.length_cons, List.length_nil, Int.toNat_zero]); omega)
    | false =>
     have q0 := of_decide_eq_false h0
     have e := Eq.refl (S9_L_0 a0 a1 a2 a3 a4 a5 (v2, v3)); conv at e => rhs; simp only [S9_L_0, h0, cond_true, cond_false]
     rw [loopF_s, e]
     exact rt [.d h0] [] [2] hcx (by kernel_rfl)

def F9_L (a0 : List (((Int × Int × Int) × (Int × Int × Int) × Int × Int × Int) × Int × Int)) (a1 : Int × Int × Int) (a2 : Int) (a3 : Int) (a4 : Int) (a5 : Int) : (List (Int × Int)) × Int :=
  (bif (F18 a1) then
   (bif (F19 a2) then
    (bif (F30 a3) then
     (bif (F30 a4) then
      (bif (F26 a5) then
       (bif (((F24_L a0 (F31 (W (a4 - a3)) 0 200)) : Int) != 0) then
        (([] : List (Int × Int)), (F24_L a0 (F31 (W (a4 - a3)) 0 200)))
       else
        (loopF (S9_L_0 a0 a1 a2 a3 a4 a5) (Int.toNat (a4 - a3 + 1) + 1) (([] : List (Int × Int)), a3)))
      else
       (bif (((F24_L a0 false) : Int) != 0) then
        (([] : List (Int × Int)), (F24_L a0 false))
       else
        (loopF (S9_L_0 a0 a1 a2 a3 a4 a5) (Int.toNat (a4 - a3 + 1) + 1) (([] : List (Int × Int)), a3))))
     else
      (bif (((F24_L a0 false) : Int) != 0) then
       (([] : List (Int × Int)), (F24_L a0 false))
      else
       (loopF (S9_L_0 a0 a1 a2 a3 a4 a5) (Int.toNat (a4 - a3 + 1) + 1) (([] : List (Int × Int)), a3))))
    else
     (bif (((F24_L a0 false) : Int) != 0) then
      (([] : List (Int × Int)), (F24_L a0 false))
     else
      (loopF (S9_L_0 a0 a1 a2 a3 a4 a5) (Int.toNat (a4 - a3 + 1) + 1) (([] : List (Int × Int)), a3))))
   else
    (bif (((F24_L a0 false) : Int) != 0) then
     (([] : List (Int × Int)), (F24_L a0 false))
    else
     (loopF (S9_L_0 a0 a1 a2 a3 a4 a5) (Int.toNat (a4 - a3 + 1) + 1) (([] : List (Int × Int)), a3))))
  else
   (bif (((F24_L a0 false) : Int) != 0) then
    (([] : List (Int × Int)), (F24_L a0 false))
   else
    (loopF (S9_L_0 a0 a1 a2 a3 a4 a5) (Int.toNat (a4 - a3 + 1) + 1) (([] : List (Int × Int)), a3))))

theorem C9_L (a0 : List (((Int × Int × Int) × (Int × Int × Int) × Int × Int × Int) × Int × Int)) (a1 : Int × Int × Int) (a2 : Int) (a3 : Int) (a4 : Int) (a5 : Int) (l0 : a0.length ≤ 9223372036854775807) : Con Tryz.prog 9 [(.s 0 0 a0.length 11), (.a (k3 a1)), (iv a2), (iv a3), (iv a4), (iv a5)] [(.live false true (flat c63 a0))] (.t [(.s 1 0 (F9_L a0 a1 a2 a3 a4 a5).1.length 2), (iv (F9_L a0 a1 a2 a3 a4 a5).2)]) [(.live true true (flat c34 (F9_L a0 a1 a2 a3 a4 a5).1))] := by
  refine con_s Tryz.func9 (by kernel_rfl) fun cx hcx => ?_
  try have hq : TRQ a0 a1 a2 a3 a4 a5 := by first | exact trq_f h0 h1 h2 h3 h4 h5 | exact absurd (ckL_b h1) (by decide) | exact absurd (ckL_b h2) (by decide) | exact absurd (ckL_b h3) (by decide) | exact absurd (ckL_b h4) (by decide) | exact absurd (ckL_b h5) (by decide)
  try obtain ⟨hv, hx, hs, hb, hd, he⟩ := (fun _ => hq) h0
  let t0 : List (St Tryz.prog) := [.c [] (C18 a1)]
  cases h0 : (F18 a1) with
  | true =>
   try have hq : TRQ a0 a1 a2 a3 a4 a5 := by first | exact trq_f h0 h1 h2 h3 h4 h5 | exact absurd (ckL_b h1) (by decide) | exact absurd (ckL_b h2) (by decide) | exact absurd (ckL_b h3) (by decide) | exact absurd (ckL_b h4) (by decide) | exact absurd (ckL_b h5) (by decide)
   try obtain ⟨hv, hx, hs, hb, hd, he⟩ := (fun _ => hq) h0
   let t1 : List (St Tryz.prog) := (t0 ++ [.d h0, .c [] (C19 a2)])
   cases h1 : (F19 a2) with
   | true =>
    try have hq : TRQ a0 a1 a2 a3 a4 a5 := by first | exact trq_f h0 h1 h2 h3 h4 h5 | exact absurd (ckL_b h1) (by decide) | exact absurd (ckL_b h2) (by decide) | exact absurd (ckL_b h3) (by decide) | exact absurd (ckL_b h4) (by decide) | exact absurd (ckL_b h5) (by decide)
    try obtain ⟨hv, hx, hs, hb, hd, he⟩ := (fun _ => hq) h0
    let t2 : List (St Tryz.prog) := (t1 ++ [.d h1, .c [] (C30 a3)])
    cases h2 : (F30 a3) with
    | true =>
     try have hq : TRQ a0 a1 a2 a3 a4 a5 := by first | exact trq_f h0 h1 h2 h3 h4 h5 | exact absurd (ckL_b h1) (by decide) | exact absurd (ckL_b h2) (by decide) | exact absurd (ckL_b h3) (by decide) | exact absurd (ckL_b h4) (by decide) | exact absurd (ckL_b h5) (by decide)
     try obtain ⟨hv, hx, hs, hb, hd, he⟩ := (fun _ => hq) h0
     let t3 : List (St Tryz.prog) := (t2 ++ [.d h2, .c [] (C30 a4)])
     cases h3 : (F30 a4) with
     | true =>
      try have hq : TRQ a0 a1 a2 a3 a4 a5 := by first | exact trq_f h0 h1 h2 h3 h4 h5 | exact absurd (ckL_b h1) (by decide) | exact absurd (ckL_b h2) (by decide) | exact absurd (ckL_b h3) (by decide) | exact absurd (ckL_b h4) (by decide) | exact absurd (ckL_b h5) (by decide)
      try obtain ⟨hv, hx, hs, hb, hd, he⟩ := (fun _ => hq) h0
      let t4 : List (St Tryz.prog) := (t3 ++ [.d h3, .c [] (C26 a5)])
      cases h4 : (F26 a5) with
      | true =>
       try have hq : TRQ a0 a1 a2 a3 a4 a5 := by first | exact trq_f h0 h1 h2 h3 h4 h5 | exact absurd (ckL_b h1) (by decide) | exact absurd (ckL_b h2) (by decide) | exact absurd (ckL_b h3) (by decide) | exact absurd (ckL_b h4) (by decide) | exact absurd (ckL_b h5) (by decide)
       try obtain ⟨hv, hx, hs, hb, hd, he⟩ := (fun _ => hq) h0
       let t5 : List (St Tryz.prog) := (t4 ++ [.d h4, .c [] (C31 (W (a4 - a3)) 0 200), .c [0] (C24_L a0 (F31 (W (a4 - a3)) 0 200) (by (try simp only [List.length_append, List.length_cons, List.length_nil, Int.toNat_zero]); omega))])
       cases h5 : (((F24_L a0 (F31 (W (a4 - a3)) 0 200)) : Int) != 0) with
       | true =>
        have q5 := bne_iff_ne.1 h5
        try have hq : TRQ a0 a1 a2 a3 a4 a5 := by first | exact trq_f h0 h1 h2 h3 h4 h5 | exact absurd (ckL_b h1) (by decide) | exact absurd (ckL_b h2) (by decide) | exact absurd (ckL_b h3) (by decide) | exact absurd (ckL_b h4) (by decide) | exact absurd (ckL_b h5) (by decide)
        try obtain ⟨hv, hx, hs, hb, hd, he⟩ := (fun _ => hq) h0
        have e := Eq.refl (F9_L a0 a1 a2 a3 a4 a5); conv at e => rhs; simp only [F9_L, h0, h1, h2, h3, h4, h5, cond_true, cond_false]
        rw [e]
        exact rt (t5 ++ [.d h5]) [.slot 12 2] [2] hcx (by kernel_rfl)
       | false =>
        have q5 := bne_eq_false_iff_eq.1 h5
        try have hq : TRQ a0 a1 a2 a3 a4 a5 := by first | exact trq_f h0 h1 h2 h3 h4 h5 | exact absurd (ckL_b h1) (by decide) | exact absurd (ckL_b h2) (by decide) | exact absurd (ckL_b h3) (by decide) | exact absurd (ckL_b h4) (by decide) | exact absurd (ckL_b h5) (by decide)
        try obtain ⟨hv, hx, hs, hb, hd, he⟩ := (fun _ => hq) h0
        have e := Eq.refl (F9_L a0 a1 a2 a3 a4 a5); conv at e => rhs; simp only [F9_L, h0, h1, h2, h3, h4, h5, cond_true, cond_false]
        rw [e]
        refine en (t5 ++ [.d h5]) [.slot 15 2] [0, 2, 4, 5, 7, 15, 16] [1, 2] hcx B9_L_0 (K9_L_0) (st9_L_0 a0 a1 a2 a3 a4 a5 (flat c34 ([] : List (Int × Int))) 0 a3) (Int.toNat (a4 - a3 + 1) + 1) (by kernel_rfl) ?_
        exact L9_L_0 a0 a1 a2 a3 a4 a5 l0 hcx (Int.toNat (a4 - a3 + 1) + 1) ([] : List (Int × Int)) a3 (by refine ⟨?_, ?_, ?_, ?_, ?_, ?_, ?_, ?_, ?_⟩ <;> (try simp only [List.length_append, List.length_cons, List.length_nil, Int.toNat_zero]) <;> first | omega | assumption | exact hi.2.1 | exact hi.2.2.1 | exact hi.2.2.2.1 | exact hi.2.2.2.2.1 | exact hi.2.2.2.2.2.1 | exact hi.2.2.2.2.2.2.1 | exact hi.2.2.2.2.2.2.2.1 | exact hi.2.2.2.2.2.2.2.2.1 | simp) (by (try simp only [List.length_append, List.length_cons, List.length_nil, Int.toNat_zero]); omega)
      | false =>
       try have hq : TRQ a0 a1 a2 a3 a4 a5 := by first | exact trq_f h0 h1 h2 h3 h4 h5 | exact absurd (ckL_b h1) (by decide) | exact absurd (ckL_b h2) (by decide) | exact absurd (ckL_b h3) (by decide) | exact absurd (ckL_b h4) (by decide) | exact absurd (ckL_b h5) (by decide)
       try obtain ⟨hv, hx, hs, hb, hd, he⟩ := (fun _ => hq) h0
       let t5 : List (St Tryz.prog) := (t4 ++ [.d h4, .c [0] (C24_L a0 false (by (try simp only [List.length_append, List.length_cons, List.length_nil, Int.toNat_zero]); omega))])
       cases h5 : (((F24_L a0 false) : Int) != 0) with
       | true =>
        have q5 := bne_iff_ne.1 h5
        try have hq : TRQ a0 a1 a2 a3 a4 a5 := by first | exact trq_f h0 h1 h2 h3 h4 h5 | exact absurd (ckL_b h1) (by decide) | exact absurd (ckL_b h2) (by decide) | exact absurd (ckL_b h3) (by decide) | exact absurd (ckL_b h4) (by decide) | exact absurd (ckL_b h5) (by decide)
        try obtain ⟨hv, hx, hs, hb, hd, he⟩ := (fun _ => hq) h0
        have e := Eq.refl (F9_L a0 a1 a2 a3 a4 a5); conv at e => rhs; simp only [F9_L, h0, h1, h2, h3, h4, h5, cond_true, cond_false]
        rw [e]
        exact rt (t5 ++ [.d h5]) [.slot 12 2] [2] hcx (by kernel_rfl)
       | false =>
        have q5 := bne_eq_false_iff_eq.1 h5
        try have hq : TRQ a0 a1 a2 a3 a4 a5 := by first | exact trq_f h0 h1 h2 h3 h4 h5 | exact absurd (ckL_b h1) (by decide) | exact absurd (ckL_b h2) (by decide) | exact absurd (ckL_b h3) (by decide) | exact absurd (ckL_b h4) (by decide) | exact absurd (ckL_b h5) (by decide)
        try obtain ⟨hv, hx, hs, hb, hd, he⟩ := (fun _ => hq) h0
        have e := Eq.refl (F9_L a0 a1 a2 a3 a4 a5); conv at e => rhs; simp only [F9_L, h0, h1, h2, h3, h4, h5, cond_true, cond_false]
        rw [e]
        refine en (t5 ++ [.d h5]) [.slot 15 2] [0, 2, 4, 5, 7, 15, 16] [1, 2] hcx B9_L_0 (K9_L_0) (st9_L_0 a0 a1 a2 a3 a4 a5 (flat c34 ([] : List (Int × Int))) 0 a3) (Int.toNat (a4 - a3 + 1) + 1) (by kernel_rfl) ?_
        exact L9_L_0 a0 a1 a2 a3 a4 a5 l0 hcx (Int.toNat (a4 - a3 + 1) + 1) ([] : List (Int × Int)) a3 (by refine ⟨?_, ?_, ?_, ?_, ?_, ?_, ?_, ?_, ?_⟩ <;> (try simp only [List.length_append, List.length_cons, List.length_nil, Int.toNat_zero]) <;> first | omega | assumption | exact hi.2.1 | exact hi.2.2.1 | exact hi.2.2.2.1 | exact hi.2.2.2.2.1 | exact hi.2.2.2.2.2.1 | exact hi.2.2.2.2.2.2.1 | exact hi.2.2.2.2.2.2.2.1 | exact hi.2.2.2.2.2.2.2.2.1 | simp) (by (try simp only [List.length_append, List.length_cons, List.length_nil, Int.toNat_zero]); omega)
     | false =>
      try have hq : TRQ a0 a1 a2 a3 a4 a5 := by first | exact trq_f h0 h1 h2 h3 h4 h5 | exact absurd (ckL_b h1) (by decide) | exact absurd (ckL_b h2) (by decide) | exact absurd (ckL_b h3) (by decide) | exact absurd (ckL_b h4) (by decide) | exact absurd (ckL_b h5) (by decide)
      try obtain ⟨hv, hx, hs, hb, hd, he⟩ := (fun _ => hq) h0
      let t4 : List (St Tryz.prog) := (t3 ++ [.d h3, .c [0] (C24_L a0 false (by (try simp only [List.length_append, List.length_cons, List.length_nil, Int.toNat_zero]); omega))])
      cases h4 : (((F24_L a0 false) : Int) != 0) with
      | true =>
       have q4 := bne_iff_ne.1 h4
       try have hq : TRQ a0 a1 a2 a3 a4 a5 := by first | exact trq_f h0 h1 h2 h3 h4 h5 | exact absurd (ckL_b h1) (by decide) | exact absurd (ckL_b h2) (by decide) | exact absurd (ckL_b h3) (by decide) | exact absurd (ckL_b h4) (by decide) | exact absurd (ckL_b h5) (by decide)
       try obtain ⟨hv, hx, hs, hb, hd, he⟩ := (fun _ => hq) h0
       have e := Eq.refl (F9_L a0 a1 a2 a3 a4 a5); conv at e => rhs; simp only [F9_L, h0, h1, h2, h3, h4, cond_true, cond_false]
       rw [e]
       exact rt (t4 ++ [.d h4]) [.slot 12 2] [2] hcx (by kernel_rfl)
      | false =>
       have q4 := bne_eq_false_iff_eq.1 h4
       try have hq : TRQ a0 a1 a2 a3 a4 a5 := by first | exact trq_f h0 h1 h2 h3 h4 h5 | exact absurd (ckL_b h1) (by decide) | exact absurd (ckL_b h2) (by decide) | exact absurd (ckL_b h3) (by decide) | exact absurd (ckL_b h4) (by decide) | exact absurd (ckL_b h5) (by decide)
       try obtain ⟨hv, hx, hs, hb, hd, he⟩ := (fun _ => hq) h0
       have e := Eq.refl (F9_L a0 a1 a2 a3 a4 a5); conv at e => rhs; simp only [F9_L, h0, h1, h2, h3, h4, cond_true, cond_false]
       rw [e]
       refine en (t4 ++ [.d h4]) [.slot 15 2] [0, 2, 4, 5, 7, 15, 16] [1, 2] hcx B9_L_0 (K9_L_0) (st9_L_0 a0 a1 a2 a3 a4 a5 (flat c34 ([] : List (Int × Int))) 0 a3) (Int.toNat (a4 - a3 + 1) + 1) (by kernel_rfl) ?_
       exact L9_L_0 a0 a1 a2 a3 a4 a5 l0 hcx (Int.toNat (a4 - a3 + 1) + 1) ([] : List (Int × Int)) a3 (by refine ⟨?_, ?_, ?_, ?_, ?_, ?_, ?_, ?_, ?_⟩ <;> (try simp only [List.length_append, List.length_cons, List.length_nil, Int.toNat_zero]) <;> first | omega | assumption | exact hi.2.1 | exact hi.2.2.1 | exact hi.2.2.2.1 | exact hi.2.2.2.2.1 | exact hi.2.2.2.2.2.1 | exact hi.2.2.2.2.2.2.1 | exact hi.2.2.2.2.2.2.2.1 | exact hi.2.2.2.2.2.2.2.2.1 | simp) (by (try simp only [List.length_append, List.length_cons, List.length_nil, Int.toNat_zero]); omega)
    | false =>
     try have hq : TRQ a0 a1 a2 a3 a4 a5 := by first | exact trq_f h0 h1 h2 h3 h4 h5 | exact absurd (ckL_b h1) (by decide) | exact absurd (ckL_b h2) (by decide) | exact absurd (ckL_b h3) (by decide) | exact absurd (ckL_b h4) (by decide) | exact absurd (ckL_b h5) (by decide)
     try obtain ⟨hv, hx, hs, hb, hd, he⟩ := (fun _ => hq) h0
     let t3 : List (St Tryz.prog) := (t2 ++ [.d h2, .c [0] (C24_L a0 false (by (try simp only [List.length_append, List.length_cons, List.length_nil, Int.toNat_zero]); omega))])
     cases h3 : (((F24_L a0 false) : Int) != 0) with
     | true =>
      have q3 := bne_iff_ne.1 h3
      try have hq : TRQ a0 a1 a2 a3 a4 a5 := by first | exact trq_f h0 h1 h2 h3 h4 h5 | exact absurd (ckL_b h1) (by decide) | exact absurd (ckL_b h2) (by decide) | exact absurd (ckL_b h3) (by decide) | exact absurd (ckL_b h4) (by decide) | exact absurd (ckL_b h5) (by decide)
      try obtain ⟨hv, hx, hs, hb, hd, he⟩ := (fun _ => hq) h0
      have e := Eq.refl (F9_L a0 a1 a2 a3 a4 a5); conv at e => rhs; simp only [F9_L, h0, h1, h2, h3, cond_true, cond_false]
      rw [e]
      exact rt (t3 ++ [.d h3]) [.slot 12 2] [2] hcx (by kernel_rfl)
     | false =>
      have q3 := bne_eq_false_iff_eq.1 h3
      try have hq : TRQ a0 a1 a2 a3 a4 a5 := by first | exact trq_f h0 h1 h2 h3 h4 h5 | exact absurd (ckL_b h1) (by decide) | exact absurd (ckL_b h2) (by decide) | exact absurd (ckL_b h3) (by decide) | exact absurd (ckL_b h4) (by decide) | exact absurd (ckL_b h5) (by decide)
      try obtain ⟨hv, hx, hs, hb, hd, he⟩ := (fun _ => hq) h0
      have e := Eq.refl (F9_L a0 a1 a2 a3 a4 a5); conv at e => rhs; simp only [F9_L, h0, h1, h2, h3, cond_true, cond_false]
      rw [e]
      refine en (t3 ++ [.d h3]) [.slot 15 2] [0, 2, 4, 5, 7, 15, 16] [1, 2] hcx B9_L_0 (K9_L_0) (st9_L_0 a0 a1 a2 a3 a4 a5 (flat c34 ([] : List (Int × Int))) 0 a3) (Int.toNat (a4 - a3 + 1) + 1) (by kernel_rfl) ?_
      exact L9_L_0 a0 a1 a2 a3 a4 a5 l0 hcx (Int.toNat (a4 - a3 + 1) + 1) ([] : List (Int × Int)) a3 (by refine ⟨?_, ?_, ?_, ?_, ?_, ?_, ?_, ?_, ?_⟩ <;> (try simp only [List.length_append, List.length_cons, List.length_nil, Int.toNat_zero]) <;> first | omega | assumption | exact hi.2.1 | exact hi.2.2.1 | exact hi.2.2.2.1 | exact hi.2.2.2.2.1 | exact hi.2.2.2.2.2.1 | exact hi.2.2.2.2.2.2.1 | exact hi.2.2.2.2.2.2.2.1 | exact hi.2.2.2.2.2.2.2.2.1 | simp) (by (try simp only [List.length_append, List.length_cons, List.length_nil, Int.toNat_zero]); omega)
   | false =>
    try have hq : TRQ a0 a1 a2 a3 a4 a5 := by first | exact trq_f h0 h1 h2 h3 h4 h5 | exact absurd (ckL_b h1) (by decide) | exact absurd (ckL_b h2) (by decide) | exact absurd (ckL_b h3) (by decide) | exact absurd (ckL_b h4) (by decide) | exact absurd (ckL_b h5) (by decide)
    try obtain ⟨hv, hx, hs, hb, hd, he⟩ := (fun _ => hq) h0
    let t2 : List (St Tryz.prog) := (t1 ++ [.d h1, .c [0] (C24_L a0 false (by (try simp only [List.length_append, List.length_cons, List.length_nil, Int.toNat_zero]); omega))])
    cases h2 : (((F24_L a0 false) : Int) != 0) with
    | true =>
     have q2 := bne_iff_ne.1 h2
     try have hq : TRQ a0 a1 a2 a3 a4 a5 := by first | exact trq_f h0 h1 h2 h3 h4 h5 | exact absurd (ckL_b h1) (by decide) | exact absurd (ckL_b h2) (by decide) | exact absurd (ckL_b h3) (by decide) | exact absurd (ckL_b h4) (by decide) | exact absurd (ckL_b h5) (by decide)
     try obtain ⟨hv, hx, hs, hb, hd, he⟩ := (fun _ => hq) h0
     have e := Eq.refl (F9_L a0 a1 a2 a3 a4 a5); conv at e => rhs; simp only [F9_L, h0, h1, h2, cond_true, cond_false]
     rw [e]
     exact rt (t2 ++ [.d h2]) [.slot 12 2] [2] hcx (by kernel_rfl)
    | false =>
     have q2 := bne_eq_false_iff_eq.1 h2
     try have hq : TRQ a0 a1 a2 a3 a4 a5 := by first | exact trq_f h0 h1 h2 h3 h4 h5 | exact absurd (ckL_b h1) (by decide) | exact absurd (ckL_b h2) (by decide) | exact absurd (ckL_b h3) (by decide) | exact absurd (ckL_b h4) (by decide) | exact absurd (ckL_b h5) (by decide)
     try obtain ⟨hv, hx, hs, hb, hd, he⟩ := (fun _ => hq) h0
     have e := Eq.refl (F9_L a0 a1 a2 a3 a4 a5); conv at e => rhs; simp only [F9_L, h0, h1, h2, cond_true, cond_false]
     rw [e]
     refine en (t2 ++ [.d h2]) [.slot 15 2] [0, 2, 4, 5, 7, 15, 16] [1, 2] hcx B9_L_0 (K9_L_0) (st9_L_0 a0 a1 a2 a3 a4 a5 (flat c34 ([] : List (Int × Int))) 0 a3) (Int.toNat (a4 - a3 + 1) + 1) (by kernel_rfl) ?_
     exact L9_L_0 a0 a1 a2 a3 a4 a5 l0 hcx (Int.toNat (a4 - a3 + 1) + 1) ([] : List (Int × Int)) a3 (by refine ⟨?_, ?_, ?_, ?_, ?_, ?_, ?_, ?_, ?_⟩ <;> (try simp only [List.length_append, List.length_cons, List.length_nil, Int.toNat_zero]) <;> first | omega | assumption | exact hi.2.1 | exact hi.2.2.1 | exact hi.2.2.2.1 | exact hi.2.2.2.2.1 | exact hi.2.2.2.2.2.1 | exact hi.2.2.2.2.2.2.1 | exact hi.2.2.2.2.2.2.2.1 | exact hi.2.2.2.2.2.2.2.2.1 | simp) (by (try simp only [List.length_append, List.length_cons, List.length_nil, Int.toNat_zero]); omega)
  | false =>
   try have hq : TRQ a0 a1 a2 a3 a4 a5 := by first | exact trq_f h0 h1 h2 h3 h4 h5 | exact absurd (ckL_b h1) (by decide) | exact absurd (ckL_b h2) (by decide) | exact absurd (ckL_b h3) (by decide) | exact absurd (ckL_b h4) (by decide) | exact absurd (ckL_b h5) (by decide)
   try obtain ⟨hv, hx, hs, hb, hd, he⟩ := (fun _ => hq) h0
   let t1 : List (St Tryz.prog) := (t0 ++ [.d h0, .c [0] (C24_L a0 false (by (try simp only [List.length_append, List.length_cons, List.length_nil, Int.toNat_zero]); omega))])
   cases h1 : (((F24_L a0 false) : Int) != 0) with
   | true =>
    have q1 := bne_iff_ne.1 h1
    try have hq : TRQ a0 a1 a2 a3 a4 a5 := by first | exact trq_f h0 h1 h2 h3 h4 h5 | exact absurd (ckL_b h1) (by decide) | exact absurd (ckL_b h2) (by decide) | exact absurd (ckL_b h3) (by decide) | exact absurd (ckL_b h4) (by decide) | exact absurd (ckL_b h5) (by decide)
    try obtain ⟨hv, hx, hs, hb, hd, he⟩ := (fun _ => hq) h0
    have e := Eq.refl (F9_L a0 a1 a2 a3 a4 a5); conv at e => rhs; simp only [F9_L, h0, h1, cond_true, cond_false]
    rw [e]
    exact rt (t1 ++ [.d h1]) [.slot 12 2] [2] hcx (by kernel_rfl)
   | false =>
    have q1 := bne_eq_false_iff_eq.1 h1
    try have hq : TRQ a0 a1 a2 a3 a4 a5 := by first | exact trq_f h0 h1 h2 h3 h4 h5 | exact absurd (ckL_b h1) (by decide) | exact absurd (ckL_b h2) (by decide) | exact absurd (ckL_b h3) (by decide) | exact absurd (ckL_b h4) (by decide) | exact absurd (ckL_b h5) (by decide)
    try obtain ⟨hv, hx, hs, hb, hd, he⟩ := (fun _ => hq) h0
    have e := Eq.refl (F9_L a0 a1 a2 a3 a4 a5); conv at e => rhs; simp only [F9_L, h0, h1, cond_true, cond_false]
    rw [e]
    refine en (t1 ++ [.d h1]) [.slot 15 2] [0, 2, 4, 5, 7, 15, 16] [1, 2] hcx B9_L_0 (K9_L_0) (st9_L_0 a0 a1 a2 a3 a4 a5 (flat c34 ([] : List (Int × Int))) 0 a3) (Int.toNat (a4 - a3 + 1) + 1) (by kernel_rfl) ?_
    exact L9_L_0 a0 a1 a2 a3 a4 a5 l0 hcx (Int.toNat (a4 - a3 + 1) + 1) ([] : List (Int × Int)) a3 (by refine ⟨?_, ?_, ?_, ?_, ?_, ?_, ?_, ?_, ?_⟩ <;> (try simp only [List.length_append, List.length_cons, List.length_nil, Int.toNat_zero]) <;> first | omega | assumption | exact hi.2.1 | exact hi.2.2.1 | exact hi.2.2.2.1 | exact hi.2.2.2.2.1 | exact hi.2.2.2.2.2.1 | exact hi.2.2.2.2.2.2.1 | exact hi.2.2.2.2.2.2.2.1 | exact hi.2.2.2.2.2.2.2.2.1 | simp) (by (try simp only [List.length_append, List.length_cons, List.length_nil, Int.toNat_zero]); omega)

end Go.Proofs.YtcnnmgooolnebaaGreat

namespace Go.Proofs.YtcnnmgooolnebaaGreat
open Go.Proofs Go.Aw Go.RowKit
set_option maxRecDepth 100000
set_option linter.unusedVariables false
set_option linter.unusedSimpArgs false

/-! ### What is heard from one tick to another one: the list -/
def ticks (b : Int) (n : Nat) : List Int := (List.range n).map fun (i : Nat) => b + (i : Int)
theorem ticks_len (b : Int) (n : Nat) : (ticks b n).length = n := by simp [ticks]
theorem ticks_get {b : Int} {n i : Nat} {c : Int} (h : (ticks b n)[i]? = some c) : c = b + (i : Int) ∧ i < n := by
  unfold ticks at h
  rw [List.getElem?_map] at h
  by_cases hi : i < n
  · rw [List.getElem?_range hi] at h
    simp only [Option.map_some, Option.some.injEq] at h
    exact ⟨h.symm, hi⟩
  · rw [List.getElem?_eq_none (by simpa using hi)] at h
    simp at h
theorem shs_loopFo {α β R : Type} [Inhabited R] {g : α → β × Int} {S : List β × Int → (List β × Int) ⊕ R} {G : List β → R} {E : Int → R} {L : List α} {b : Int}
    (hS : ∀ (i : Nat) (c : α), L[i]? = some c → ∀ l : List β, S (l, b + (i : Int)) = bif ((g c).2 != 0) then .inr (E (g c).2) else .inl (l ++ [(g c).1], b + ((i + 1 : Nat) : Int)))
    (hE : ∀ l : List β, S (l, b + (L.length : Int)) = .inr (G l)) (n : Nat) (l : List β) (hn : L.length < n) : loopF S n (l, b) = out8 G E (shs g L l) := by
  have key : ∀ (k : List α) (i n : Nat) (l : List β), L.drop i = k → i ≤ L.length → k.length < n → loopF S n (l, b + (i : Int)) = out8 G E (shs g k l) := by
    intro k
    induction k with
    | nil =>
      intro i n l hd hi' hn
      have : i = L.length := by have := List.drop_eq_nil_iff.1 hd; omega
      obtain ⟨n, rfl⟩ : ∃ m, n = m + 1 := ⟨n - 1, by simp only [List.length_nil] at hn; omega⟩
      subst this
      rw [loopF_inr (hE _)]; rfl
    | cons c k ih =>
      intro i n l hd hi' hn
      have hc : L[i]? = some c := by
        have : (L.drop i)[0]? = some c := by rw [hd]; rfl
        simpa using this
      obtain ⟨hlt, hce⟩ := List.getElem?_eq_some_iff.1 hc
      obtain ⟨n, rfl⟩ : ∃ m, n = m + 1 := ⟨n - 1, by omega⟩
      have h1 := hS i c hc l
      unfold shs
      by_cases h : (g c).2 = 0
      · rw [h] at h1
        rw [loopF_inl h1, if_pos h]
        exact ih (i + 1) n _ (by rw [← List.drop_drop, hd]; rfl) (by omega) (by simp only [List.length_cons] at hn; omega)
      · rw [bne_iff_ne.2 h, cond_true] at h1
        rw [loopF_inr h1, if_neg h]; rfl
  have := key L 0 n l rfl (Nat.zero_le _) hn
  rwa [show b + ((0 : Nat) : Int) = b by simp] at this
def TRA (x : P3) (s b e d : Int) : Prop := bd 256 x ∧ (1 ≤ s ∧ s ≤ 16) ∧ (0 ≤ b ∧ b ≤ 2000) ∧ (0 ≤ d ∧ d ≤ 3) ∧ (e ≤ 2000 ∧ b ≤ e ∧ e ≤ b + 200)
noncomputable def trL (l : List PU) (x : P3) (s b e d : Int) : List (Int × Int) × Int := out8 (fun m => (m, 0)) (fun r => ([], r)) (shs (fun t => scS l x s t d) (ticks b (Int.toNat (e - b + 1))) [])
noncomputable def trV (l : List PU) (x : P3) (s b e d : Int) : List (Int × Int) × Int :=
  open Classical in if vpL l = 0 then (if TRA x s b e d then trL l x s b e d else ([], 1)) else ([], vpL l)
theorem tr_f {l : List PU} {x : P3} {s b e d : Int} (hv : vpL l = 0) (h : TRA x s b e d) : loopF (S9_L_0 l x s b e d) (Int.toNat (e - b + 1) + 1) (([] : List (Int × Int)), b) = trL l x s b e d := by
  obtain ⟨hx, hs, hb, hd, he⟩ := h
  refine shs_loopFo (g := fun t => scS l x s t d) (L := ticks b (Int.toNat (e - b + 1))) (G := fun m => (m, (0 : Int))) (E := fun r => (([] : List (Int × Int)), r)) (fun i c hi m => ?_) (fun m => ?_) _ _ (by rw [ticks_len]; omega)
  · obtain ⟨rfl, hlt⟩ := ticks_get hi
    simp only [S9_L_0]
    rw [decide_eq_true (show b + ((i : Nat) : Int) ≤ e by omega), cond_true, scene_f hv hx hs (by omega) hd, show b + (i : Int) + 1 = b + ((i + 1 : Nat) : Int) by omega]
  · simp only [S9_L_0]
    rw [ticks_len, decide_eq_false (by omega), cond_false]
theorem chkL_ff (l : List PU) : F24_L l false = if vpL l = 0 then 1 else vpL l := by
  rw [chkL_f]; split <;> simp
theorem chkL_bad {l : List PU} {α : Type} (a : α) (E : Int → α) : (bif ((F24_L l false : Int) != 0) then E (F24_L l false) else a) = if vpL l = 0 then E 1 else E (vpL l) := by
  rw [chkL_ff]
  by_cases h : vpL l = 0
  · rw [if_pos h, if_pos h]; rfl
  · rw [if_neg h, if_neg h, bne_iff_ne.2 h]; rfl
open Classical in
theorem Trace_f (l : List PU) (x : P3) (s b e d : Int) : F9_L l x s b e d = trV l x s b e d := by
  unfold F9_L
  rw [isP_f, isS_f, isT_f, isT_f, isD_f]
  have bad : ¬ TRA x s b e d → trV l x s b e d = if vpL l = 0 then (([] : List (Int × Int)), (1 : Int)) else ([], vpL l) := fun h => by
    unfold trV; rw [if_neg h]
  by_cases h1 : bd 256 x
  · by_cases h2 : 1 ≤ s ∧ s ≤ 16
    · by_cases h3 : 0 ≤ b ∧ b ≤ 2000
      · by_cases h4 : 0 ≤ e ∧ e ≤ 2000
        · by_cases h5 : 0 ≤ d ∧ d ≤ 3
          · rw [decide_eq_true h1, decide_eq_true h2, decide_eq_true h3, decide_eq_true h4, decide_eq_true h5]
            simp only [cond_true]
            rw [sfrom_eq, W_eq (n := e - b) (by omega) (by omega)]
            by_cases h6 : 0 ≤ e - b ∧ e - b ≤ 200
            · have hT : TRA x s b e d := ⟨h1, h2, h3, h5, by omega⟩
              rw [decide_eq_true h6, chkL_f]
              unfold trV
              by_cases h : vpL l = 0
              · rw [if_pos h, if_pos h, if_pos rfl, if_pos hT]
                exact tr_f h hT
              · rw [if_neg h, if_neg h, bne_iff_ne.2 h]; rfl
            · rw [decide_eq_false h6, bad (by unfold TRA; omega)]
              exact chkL_bad _ (fun r => (([] : List (Int × Int)), r))
          · rw [decide_eq_true h1, decide_eq_true h2, decide_eq_true h3, decide_eq_true h4, decide_eq_false h5, bad (by unfold TRA; omega)]
            exact chkL_bad _ (fun r => (([] : List (Int × Int)), r))
        · rw [decide_eq_true h1, decide_eq_true h2, decide_eq_true h3, decide_eq_false h4, bad (by unfold TRA; omega)]
          exact chkL_bad _ (fun r => (([] : List (Int × Int)), r))
      · rw [decide_eq_true h1, decide_eq_true h2, decide_eq_false h3, bad (by unfold TRA; omega)]
        exact chkL_bad _ (fun r => (([] : List (Int × Int)), r))
    · rw [decide_eq_true h1, decide_eq_false h2, bad (by unfold TRA; omega)]
      exact chkL_bad _ (fun r => (([] : List (Int × Int)), r))
  · rw [decide_eq_false h1, bad (fun h => h1 h.1)]
    exact chkL_bad _ (fun r => (([] : List (Int × Int)), r))
theorem shs_len {α β : Type} {g : α → β × Int} {k : List α} {m : List β} (h : shs g k [] = .inl m) : m.length = k.length := by
  obtain ⟨h1, _⟩ := shs_inl h
  rw [h1]; simp
theorem trV_len (l : List PU) (x : P3) (s b e d : Int) : (trV l x s b e d).1.length ≤ 201 := by
  unfold trV
  split
  · split
    · rename_i hT
      unfold trL
      cases h : shs (fun t => scS l x s t d) (ticks b (Int.toNat (e - b + 1))) [] with
      | inr r => simp [out8]
      | inl m =>
        have h1 := shs_len h
        rw [ticks_len] at h1
        have he := hT.2.2.2.2
        simp only [out8]; omega
    · simp
  · simp
theorem trf_len (l : List PU) (x : P3) (s b e d : Int) : (F9_L l x s b e d).1.length ≤ 201 := by rw [Trace_f]; exact trV_len l x s b e d
end Go.Proofs.YtcnnmgooolnebaaGreat

namespace Go.Proofs.YtcnnmgooolnebaaGreat
open Go.Proofs Go.Aw Go.RowKit
set_option maxRecDepth 100000
set_option linter.unusedVariables false
set_option linter.unusedSimpArgs false

def F11 (a0 : Int × Int) (a1 : Int × Int) : Bool :=
  (bif (((F35 a0 a1).2.2 : Int) == 0) then
   (F35 a0 a1).2.1
  else
   false)

theorem C11 (a0 : Int × Int) (a1 : Int × Int) : Con Tryz.prog 11 [(.a [(iv a0.1), (iv a0.2)]), (.a [(iv a1.1), (iv a1.2)])] [] (.v (.bool (F11 a0 a1))) [] := by
  refine con_s Tryz.func11 (by kernel_rfl) fun cx hcx => ?_
  let t0 : List (St Tryz.prog) := [.c [] (C35 a0 a1)]
  cases h0 : (((F35 a0 a1).2.2 : Int) == 0) with
  | true =>
   have q0 := eq_of_beq h0
   have e := Eq.refl (F11 a0 a1); conv at e => rhs; simp only [F11, h0, cond_true, cond_false]
   rw [e]
   exact rt (t0 ++ [.d h0]) [] [] hcx (by kernel_rfl)
  | false =>
   have q0 := ne_of_beq_false h0
   have e := Eq.refl (F11 a0 a1); conv at e => rhs; simp only [F11, h0, cond_true, cond_false]
   rw [e]
   exact rt (t0 ++ [.d h0]) [] [] hcx (by kernel_rfl)

theorem meet_s {a c : Int × Int} (ha : vs a) (hc : vs c) (h1 : a.1 ≤ c.2) (h2 : c.1 ≤ a.2) : (F35 a c).2.1 = true ∧ (F35 a c).2.2 = 0 := by
  unfold F35 F45_2
  have e1 : F56 (a, c).1 = true := val_f (a := a.1) (b := a.2) ha.1 ha.2.1 ha.2.2
  have e2 : F56 (a, c).2 = true := val_f (a := c.1) (b := c.2) hc.1 hc.2.1 hc.2.2
  have h3 := ha.2.1; have h4 := hc.2.1
  rw [e1, e2, decide_eq_false (by (repeat' split) <;> omega)]
  exact ⟨rfl, rfl⟩
theorem sat_ok {a : Int × Int} {n m : Int} (ha : a.1 ≤ m ∧ m ≤ a.2) (h : (F34 (scl a n).1 (scl a n).2).2 = 0) :
    (F34 (scl a n).1 (scl a n).2).1.1 ≤ m * n ∧ m * n ≤ (F34 (scl a n).1 (scl a n).2).1.2 := by
  rcases res_cases (scl a n).1 (scl a n).2 with ⟨e, hv⟩ | e
  · rw [e]
    have hs : ∀ x, -1099511627776 ≤ sat x n ∧ sat x n ≤ 1099511627776 → sat x n = x * n := fun x h => by unfold sat at *; (repeat' split at h) <;> (repeat' split) <;> omega
    unfold vs scl at hv
    unfold scl
    by_cases hn : n < 0
    · rw [if_pos hn] at hv ⊢
      dsimp only at hv ⊢
      rw [hs a.2 (by omega), hs a.1 (by omega)]
      exact ⟨Int.mul_le_mul_of_nonpos_right ha.2 (by omega), Int.mul_le_mul_of_nonpos_right ha.1 (by omega)⟩
    · rw [if_neg hn] at hv ⊢
      dsimp only at hv ⊢
      rw [hs a.2 (by omega), hs a.1 (by omega)]
      exact ⟨Int.mul_le_mul_of_nonneg_right ha.1 (by omega), Int.mul_le_mul_of_nonneg_right ha.2 (by omega)⟩
  · rw [e] at h; exact absurd h (by decide)
section
variable {l : List PU} {x : P3} {s d : Int}
theorem both_in (hv : vpL l = 0) (hx : bd 256 x) (hs : 1 ≤ s ∧ s ≤ 16) (hd : d = 0 ∨ d = 1) (h0 : ∀ p ∈ l, (toG x d p).2 = 0) {T : Nat} (hT : ∀ p ∈ l, p.2.1 + F20 (fa p.1 x) s ≤ (T : Int)) :
    rs (fun t => (l.map fun p => (hrT p x s (t : Int) d).1.1).sum) (T + 1) ≤ (l.map fun p => mlo p x d * p.2.2).sum ∧ (l.map fun p => mlo p x d * p.2.2).sum ≤ rs (fun t => (l.map fun p => (hrT p x s (t : Int) d).1.2).sum) (T + 1) ∧
    (l.map fun p => (toG x d p).1.1).sum ≤ (l.map fun p => mlo p x d * p.2.2).sum ∧ (l.map fun p => mlo p x d * p.2.2).sum ≤ (l.map fun p => (toG x d p).1.2).sum := by
  obtain ⟨_, hpk⟩ := vpL_ok hv
  have hm : ∀ p ∈ l, ∃ M : Int × Int, meanS (of1 (sc d)) p.1 x d = (M, 0) ∧ toG x d p = F34 (scl M p.2.2).1 (scl M p.2.2).2 := fun p hp => by
    have h := h0 p hp
    by_cases hm : (meanV of1 p.1 x d).2 = 0
    · have e : toG x d p = F34 (scl (meanV of1 p.1 x d).1 p.2.2).1 (scl (meanV of1 p.1 x d).1 p.2.2).2 := if_pos hm
      have hc := (meanV_vs of1_all hm).1
      have e2 : meanV of1 p.1 x d = meanS (of1 (sc d)) p.1 x d := if_pos hc
      rw [e2] at e hm
      exact ⟨(meanS (of1 (sc d)) p.1 x d).1, by rw [← hm], e⟩
    · have e : toG x d p = ((0, 0), (meanV of1 p.1 x d).2) := if_neg hm
      rw [e] at h; exact absurd h hm
  have hk : ∀ p ∈ l, rs (fun t => (hrT p x s (t : Int) d).1.1) (T + 1) ≤ mlo p x d * p.2.2 ∧ mlo p x d * p.2.2 ≤ rs (fun t => (hrT p x s (t : Int) d).1.2) (T + 1) := fun p hp => by
    obtain ⟨M, hM, _⟩ := hm p hp
    obtain ⟨h1, _, _⟩ := mean_lo hd hM
    have hb := fa6 (pok_bd (hpk p hp)) hx
    have ht := trav_ge (s := s) (n := fa p.1 x) (by omega) (by omega)
    have hTp := hT p hp
    refine pul_sum (hpk p hp) hs.1 hd h1 (by omega) (Int.le_trans ht.2.2 ?_)
    have h2 : s * F20 (fa p.1 x) s ≤ s * ((T : Int) - p.2.1) := Int.mul_le_mul_of_nonneg_left (by omega) (by omega)
    have h3 : 0 ≤ s * F20 (fa p.1 x) s := Int.mul_nonneg (by omega) ht.1
    exact Int.mul_le_mul h2 h2 h3 (by omega)
  refine ⟨?_, ?_, suml_le fun p hp => ?_, suml_le fun p hp => ?_⟩
  · rw [rs_swap]; exact suml_le fun p hp => (hk p hp).1
  · rw [rs_swap]; exact suml_le fun p hp => (hk p hp).2
  · obtain ⟨M, hM, e⟩ := hm p hp
    obtain ⟨_, h2, h3⟩ := mean_lo hd hM
    have h := h0 p hp
    rw [e] at h ⊢
    exact (sat_ok ⟨by omega, by omega⟩ h).1
  · obtain ⟨M, hM, e⟩ := hm p hp
    obtain ⟨_, h2, h3⟩ := mean_lo hd hM
    have h := h0 p hp
    rw [e] at h ⊢
    exact (sat_ok ⟨by omega, by omega⟩ h).2
end
theorem shs_ok0 {α β : Type} {g : α → β × Int} {k : List α} {E : Int → β × Int} {G : List β → β × Int} (hE : ∀ e, (E e).2 = e) (h : (out8 G E (shs g k [])).2 = 0) : (∀ c ∈ k, (g c).2 = 0) ∧ out8 G E (shs g k []) = G (k.map fun c => (g c).1) := by
  cases e : shs g k [] with
  | inr r => rw [e] at h; have := shs_inr e; exact absurd ((hE r).symm.trans h) this
  | inl m =>
    obtain ⟨h1, h2⟩ := shs_inl e
    rw [List.nil_append] at h1
    subst h1
    exact ⟨h2, rfl⟩
end Go.Proofs.YtcnnmgooolnebaaGreat

namespace Go.Proofs.YtcnnmgooolnebaaGreat
open Go.Proofs Go.Aw Go.RowKit
set_option maxRecDepth 100000
set_option linter.unusedVariables false
set_option linter.unusedSimpArgs false

noncomputable def B3_L_j3 : Code := (codeAtD [1, 1, 0, 1, 0, 0] [] (bodyOf Tryz.f3)).1
noncomputable def K3_L_j3 : List K := (codeAtD [1, 1, 0, 1, 0, 0] [] (bodyOf Tryz.f3)).2

def st3_L_j3 (a0 : List (((Int × Int × Int) × (Int × Int × Int) × Int × Int × Int) × Int × Int)) (a1 : (Int × Int × Int) × Int × Int × Int) : LS := ⟨slN 120 [], [(.live false true (flat c63 a0))]⟩

def S3_L_j3 (a0 : List (((Int × Int × Int) × (Int × Int × Int) × Int × Int × Int) × Int × Int)) (a1 : (Int × Int × Int) × Int × Int × Int) : Unit → Bool
  | () =>
   false

noncomputable def B3_L_j5 : Code := (codeAtD [1, 1, 1, 0, 1, 0, 0] [] (bodyOf Tryz.f3)).1
noncomputable def K3_L_j5 : List K := (codeAtD [1, 1, 1, 0, 1, 0, 0] [] (bodyOf Tryz.f3)).2

def st3_L_j5 (a0 : List (((Int × Int × Int) × (Int × Int × Int) × Int × Int × Int) × Int × Int)) (a1 : (Int × Int × Int) × Int × Int × Int) : LS := ⟨slN 120 [(0, (.s 0 0 a0.length 11))], [(.live false true (flat c63 a0))]⟩

def S3_L_j5 (a0 : List (((Int × Int × Int) × (Int × Int × Int) × Int × Int × Int) × Int × Int)) (a1 : (Int × Int × Int) × Int × Int × Int) : Unit → Bool
  | () =>
   (decide ((((a0.length : Nat) : Int) : Int) > 16))

noncomputable def B3_L_j7 : Code := (codeAtD [1, 1, 1, 1, 0, 1, 0, 0] [] (bodyOf Tryz.f3)).1
noncomputable def K3_L_j7 : List K := (codeAtD [1, 1, 1, 1, 0, 1, 0, 0] [] (bodyOf Tryz.f3)).2

def st3_L_j7 (a0 : List (((Int × Int × Int) × (Int × Int × Int) × Int × Int × Int) × Int × Int)) (a1 : (Int × Int × Int) × Int × Int × Int) : LS := ⟨slN 120 [], [(.live false true (flat c63 a0))]⟩

def S3_L_j7 (a0 : List (((Int × Int × Int) × (Int × Int × Int) × Int × Int × Int) × Int × Int)) (a1 : (Int × Int × Int) × Int × Int × Int) : Unit → Bool
  | () =>
   true

noncomputable def B3_L_j11 : Code := (codeAtD [1, 1, 1, 1, 1, 1, 1, 0, 1, 0, 0] [] (bodyOf Tryz.f3)).1
noncomputable def K3_L_j11 : List K := (codeAtD [1, 1, 1, 1, 1, 1, 1, 0, 1, 0, 0] [] (bodyOf Tryz.f3)).2

def st3_L_j11 (a0 : List (((Int × Int × Int) × (Int × Int × Int) × Int × Int × Int) × Int × Int)) (a1 : (Int × Int × Int) × Int × Int × Int) : LS := ⟨slN 120 [], [(.live false true (flat c63 a0))]⟩

def S3_L_j11 (a0 : List (((Int × Int × Int) × (Int × Int × Int) × Int × Int × Int) × Int × Int)) (a1 : (Int × Int × Int) × Int × Int × Int) : Unit → Bool
  | () =>
   true

set_option maxHeartbeats 4000000 in
theorem L3_L_j3 (a0 : List (((Int × Int × Int) × (Int × Int × Int) × Int × Int × Int) × Int × Int)) (a1 : (Int × Int × Int) × Int × Int × Int) (l0 : a0.length ≤ 9223372036854775807) {cx : Cx} (hcx : cx.base = 1) : True → Aw.Good Tryz.prog none 9 (bodyPost Tryz.prog Tryz.f3 (RR cx (.v (.bool (S3_L_j3 a0 a1 ()))) [] [])) cx [] (.c B3_L_j3 :: K3_L_j3) (st3_L_j3 a0 a1) := by
  intro hi
  have e := Eq.refl (S3_L_j3 a0 a1 ()); conv at e => rhs; simp only [S3_L_j3]
  rw [e]
  exact rt [] [] [] hcx (by kernel_rfl)

set_option maxHeartbeats 4000000 in
theorem L3_L_j5 (a0 : List (((Int × Int × Int) × (Int × Int × Int) × Int × Int × Int) × Int × Int)) (a1 : (Int × Int × Int) × Int × Int × Int) (l0 : a0.length ≤ 9223372036854775807) {cx : Cx} (hcx : cx.base = 1) : True → Aw.Good Tryz.prog none 9 (bodyPost Tryz.prog Tryz.f3 (RR cx (.v (.bool (S3_L_j5 a0 a1 ()))) [] [])) cx [] (.c B3_L_j5 :: K3_L_j5) (st3_L_j5 a0 a1) := by
  intro hi
  have e := Eq.refl (S3_L_j5 a0 a1 ()); conv at e => rhs; simp only [S3_L_j5]
  rw [e]
  exact rt [] [] [] hcx (by kernel_rfl)

set_option maxHeartbeats 4000000 in
theorem L3_L_j7 (a0 : List (((Int × Int × Int) × (Int × Int × Int) × Int × Int × Int) × Int × Int)) (a1 : (Int × Int × Int) × Int × Int × Int) (l0 : a0.length ≤ 9223372036854775807) {cx : Cx} (hcx : cx.base = 1) : True → Aw.Good Tryz.prog none 9 (bodyPost Tryz.prog Tryz.f3 (RR cx (.v (.bool (S3_L_j7 a0 a1 ()))) [] [])) cx [] (.c B3_L_j7 :: K3_L_j7) (st3_L_j7 a0 a1) := by
  intro hi
  have e := Eq.refl (S3_L_j7 a0 a1 ()); conv at e => rhs; simp only [S3_L_j7]
  rw [e]
  exact rt [] [] [] hcx (by kernel_rfl)

set_option maxHeartbeats 4000000 in
theorem L3_L_j11 (a0 : List (((Int × Int × Int) × (Int × Int × Int) × Int × Int × Int) × Int × Int)) (a1 : (Int × Int × Int) × Int × Int × Int) (l0 : a0.length ≤ 9223372036854775807) {cx : Cx} (hcx : cx.base = 1) : True → Aw.Good Tryz.prog none 9 (bodyPost Tryz.prog Tryz.f3 (RR cx (.v (.bool (S3_L_j11 a0 a1 ()))) [] [])) cx [] (.c B3_L_j11 :: K3_L_j11) (st3_L_j11 a0 a1) := by
  intro hi
  have e := Eq.refl (S3_L_j11 a0 a1 ()); conv at e => rhs; simp only [S3_L_j11]
  rw [e]
  exact rt [] [] [] hcx (by kernel_rfl)

def F3_L (a0 : List (((Int × Int × Int) × (Int × Int × Int) × Int × Int × Int) × Int × Int)) (a1 : (Int × Int × Int) × Int × Int × Int) : Bool :=
  (bif (((F5 (0, 0, 0) (4, 0, 0) 2).2 : Int) != 0) then
   (S3_L_j3 a0 a1 ())
  else
   (bif (((F5 (0, 0, 0) (4, 0, 0) 2).1 : Int) != 2) then
    (S3_L_j3 a0 a1 ())
   else
    (bif (decide ((((a0.length : Nat) : Int) : Int) > 16)) then
     (S3_L_j5 a0 a1 ())
    else
     (bif (!(F4_L a0 a1)) then
      (S3_L_j5 a0 a1 ())
     else
      (bif (!(F6_L a0 a1)) then
       (S3_L_j5 a0 a1 ())
      else
       (bif (decide ((((a0.length : Nat) : Int) : Int) > 3)) then
        (S3_L_j7 a0 a1 ())
       else
        (bif (decide ((a1.2.2.2 : Int) < 0)) then
         (S3_L_j7 a0 a1 ())
        else
         (bif (decide ((a1.2.2.2 : Int) > 1)) then
          (S3_L_j7 a0 a1 ())
         else
          (bif (((F7_L a0 a1.1 a1.2.1).2.2 : Int) != 0) then
           (S3_L_j11 a0 a1 ())
          else
           (bif (((F8_L a0 a1.1 a1.2.2.2).2 : Int) != 0) then
            (S3_L_j11 a0 a1 ())
           else
            (bif (decide (((W ((F7_L a0 a1.1 a1.2.1).2.1 - (F7_L a0 a1.1 a1.2.1).1)) : Int) > 200)) then
             (S3_L_j11 a0 a1 ())
            else
             (bif (decide (((F7_L a0 a1.1 a1.2.1).2.1 : Int) > 2000)) then
              (S3_L_j11 a0 a1 ())
             else
              (bif (((F9_L a0 a1.1 a1.2.1 (F7_L a0 a1.1 a1.2.1).1 (F7_L a0 a1.1 a1.2.1).2.1 a1.2.2.2).2 : Int) != 0) then
               true
              else
               (bif (((F10_L (F9_L a0 a1.1 a1.2.1 (F7_L a0 a1.1 a1.2.1).1 (F7_L a0 a1.1 a1.2.1).2.1 a1.2.2.2).1).2 : Int) != 0) then
                true
               else
                (F11 (F10_L (F9_L a0 a1.1 a1.2.1 (F7_L a0 a1.1 a1.2.1).1 (F7_L a0 a1.1 a1.2.1).2.1 a1.2.2.2).1).1 (F8_L a0 a1.1 a1.2.2.2).1)))))))))))))))

theorem C3_L (a0 : List (((Int × Int × Int) × (Int × Int × Int) × Int × Int × Int) × Int × Int)) (a1 : (Int × Int × Int) × Int × Int × Int) (l0 : a0.length ≤ 9223372036854775807) : Con Tryz.prog 3 [(.s 0 0 a0.length 11), (.a [(iv a1.1.1), (iv a1.1.2.1), (iv a1.1.2.2), (iv a1.2.1), (iv a1.2.2.1), (iv a1.2.2.2)])] [(.live false true (flat c63 a0))] (.v (.bool (F3_L a0 a1))) [] := by
  refine con_s Tryz.func3 (by kernel_rfl) fun cx hcx => ?_
  have htl := trf_len a0 a1.1 a1.2.1 (F7_L a0 a1.1 a1.2.1).1 (F7_L a0 a1.1 a1.2.1).2.1 a1.2.2.2
  let t0 : List (St Tryz.prog) := [.c [] (C5 (0, 0, 0) (4, 0, 0) 2)]
  cases h0 : (((F5 (0, 0, 0) (4, 0, 0) 2).2 : Int) != 0) with
  | true =>
   have q0 := bne_iff_ne.1 h0
   have e := Eq.refl (F3_L a0 a1); conv at e => rhs; simp only [F3_L, h0, cond_true, cond_false]
   rw [e]
   refine ga (t0 ++ [.d h0, .z 3]) [] [] [] hcx B3_L_j3 (K3_L_j3) (st3_L_j3 a0 a1) (by kernel_rfl) ?_
   exact L3_L_j3 a0 a1 l0 hcx trivial
  | false =>
   have q0 := bne_eq_false_iff_eq.1 h0
   let t1 : List (St Tryz.prog) := (t0 ++ [.d h0])
   cases h1 : (((F5 (0, 0, 0) (4, 0, 0) 2).1 : Int) != 2) with
   | true =>
    have q1 := bne_iff_ne.1 h1
    have e := Eq.refl (F3_L a0 a1); conv at e => rhs; simp only [F3_L, h0, h1, cond_true, cond_false]
    rw [e]
    refine ga (t1 ++ [.d h1, .z 3]) [] [] [] hcx B3_L_j3 (K3_L_j3) (st3_L_j3 a0 a1) (by kernel_rfl) ?_
    exact L3_L_j3 a0 a1 l0 hcx trivial
   | false =>
    have q1 := bne_eq_false_iff_eq.1 h1
    let t2 : List (St Tryz.prog) := (t1 ++ [.d h1])
    cases h2 : (decide ((((a0.length : Nat) : Int) : Int) > 16)) with
    | true =>
     have q2 := of_decide_eq_true h2
     have e := Eq.refl (F3_L a0 a1); conv at e => rhs; simp only [F3_L, h0, h1, h2, cond_true, cond_false]
     rw [e]
     refine ga (t2 ++ [.d h2, .z 5]) [] [0] [] hcx B3_L_j5 (K3_L_j5) (st3_L_j5 a0 a1) (by kernel_rfl) ?_
     exact L3_L_j5 a0 a1 l0 hcx trivial
    | false =>
     have q2 := of_decide_eq_false h2
     let t3 : List (St Tryz.prog) := (t2 ++ [.d h2, .c [0] (C4_L a0 a1 (by (try simp only [List.length_append, List.length_cons, List.length_nil, Int.toNat_zero]); omega))])
     cases h3 : (!(F4_L a0 a1)) with
     | true =>
      have e := Eq.refl (F3_L a0 a1); conv at e => rhs; simp only [F3_L, h0, h1, h2, h3, cond_true, cond_false]
      rw [e]
      refine ga (t3 ++ [.d h3, .z 5]) [] [0] [] hcx B3_L_j5 (K3_L_j5) (st3_L_j5 a0 a1) (by kernel_rfl) ?_
      exact L3_L_j5 a0 a1 l0 hcx trivial
     | false =>
      let t4 : List (St Tryz.prog) := (t3 ++ [.d h3, .c [0] (C6_L a0 a1 (by (try simp only [List.length_append, List.length_cons, List.length_nil, Int.toNat_zero]); omega))])
      cases h4 : (!(F6_L a0 a1)) with
      | true =>
       have e := Eq.refl (F3_L a0 a1); conv at e => rhs; simp only [F3_L, h0, h1, h2, h3, h4, cond_true, cond_false]
       rw [e]
       refine ga (t4 ++ [.d h4, .z 5]) [] [0] [] hcx B3_L_j5 (K3_L_j5) (st3_L_j5 a0 a1) (by kernel_rfl) ?_
       exact L3_L_j5 a0 a1 l0 hcx trivial
      | false =>
       let t5 : List (St Tryz.prog) := (t4 ++ [.d h4])
       cases h5 : (decide ((((a0.length : Nat) : Int) : Int) > 3)) with
       | true =>
        have q5 := of_decide_eq_true h5
        have e := Eq.refl (F3_L a0 a1); conv at e => rhs; simp only [F3_L, h0, h1, h2, h3, h4, h5, cond_true, cond_false]
        rw [e]
        refine ga (t5 ++ [.d h5, .z 7]) [] [] [] hcx B3_L_j7 (K3_L_j7) (st3_L_j7 a0 a1) (by kernel_rfl) ?_
        exact L3_L_j7 a0 a1 l0 hcx trivial
       | false =>
        have q5 := of_decide_eq_false h5
        let t6 : List (St Tryz.prog) := (t5 ++ [.d h5])
        cases h6 : (decide ((a1.2.2.2 : Int) < 0)) with
        | true =>
         have q6 := of_decide_eq_true h6
         have e := Eq.refl (F3_L a0 a1); conv at e => rhs; simp only [F3_L, h0, h1, h2, h3, h4, h5, h6, cond_true, cond_false]
         rw [e]
         refine ga (t6 ++ [.d h6, .z 7]) [] [] [] hcx B3_L_j7 (K3_L_j7) (st3_L_j7 a0 a1) (by kernel_rfl) ?_
         exact L3_L_j7 a0 a1 l0 hcx trivial
        | false =>
         have q6 := of_decide_eq_false h6
         let t7 : List (St Tryz.prog) := (t6 ++ [.d h6])
         cases h7 : (decide ((a1.2.2.2 : Int) > 1)) with
         | true =>
          have q7 := of_decide_eq_true h7
          have e := Eq.refl (F3_L a0 a1); conv at e => rhs; simp only [F3_L, h0, h1, h2, h3, h4, h5, h6, h7, cond_true, cond_false]
          rw [e]
          refine ga (t7 ++ [.d h7, .z 7]) [] [] [] hcx B3_L_j7 (K3_L_j7) (st3_L_j7 a0 a1) (by kernel_rfl) ?_
          exact L3_L_j7 a0 a1 l0 hcx trivial
         | false =>
          have q7 := of_decide_eq_false h7
          let t8 : List (St Tryz.prog) := (t7 ++ [.d h7, .c [0] (C7_L a0 a1.1 a1.2.1 (by (try simp only [List.length_append, List.length_cons, List.length_nil, Int.toNat_zero]); omega)), .c [0] (C8_L a0 a1.1 a1.2.2.2 (by (try simp only [List.length_append, List.length_cons, List.length_nil, Int.toNat_zero]); omega))])
          cases h8 : (((F7_L a0 a1.1 a1.2.1).2.2 : Int) != 0) with
          | true =>
           have q8 := bne_iff_ne.1 h8
           have e := Eq.refl (F3_L a0 a1); conv at e => rhs; simp only [F3_L, h0, h1, h2, h3, h4, h5, h6, h7, h8, cond_true, cond_false]
           rw [e]
           refine ga (t8 ++ [.d h8, .z 11]) [] [] [] hcx B3_L_j11 (K3_L_j11) (st3_L_j11 a0 a1) (by kernel_rfl) ?_
           exact L3_L_j11 a0 a1 l0 hcx trivial
          | false =>
           have q8 := bne_eq_false_iff_eq.1 h8
           let t9 : List (St Tryz.prog) := (t8 ++ [.d h8])
           cases h9 : (((F8_L a0 a1.1 a1.2.2.2).2 : Int) != 0) with
           | true =>
            have q9 := bne_iff_ne.1 h9
            have e := Eq.refl (F3_L a0 a1); conv at e => rhs; simp only [F3_L, h0, h1, h2, h3, h4, h5, h6, h7, h8, h9, cond_true, cond_false]
            rw [e]
            refine ga (t9 ++ [.d h9, .z 11]) [] [] [] hcx B3_L_j11 (K3_L_j11) (st3_L_j11 a0 a1) (by kernel_rfl) ?_
            exact L3_L_j11 a0 a1 l0 hcx trivial
           | false =>
            have q9 := bne_eq_false_iff_eq.1 h9
            let t10 : List (St Tryz.prog) := (t9 ++ [.d h9])
            cases h10 : (decide (((W ((F7_L a0 a1.1 a1.2.1).2.1 - (F7_L a0 a1.1 a1.2.1).1)) : Int) > 200)) with
            | true =>
             have q10 := of_decide_eq_true h10
             have e := Eq.refl (F3_L a0 a1); conv at e => rhs; simp only [F3_L, h0, h1, h2, h3, h4, h5, h6, h7, h8, h9, h10, cond_true, cond_false]
             rw [e]
             refine ga (t10 ++ [.d h10, .z 11]) [] [] [] hcx B3_L_j11 (K3_L_j11) (st3_L_j11 a0 a1) (by kernel_rfl) ?_
             exact L3_L_j11 a0 a1 l0 hcx trivial
            | false =>
             have q10 := of_decide_eq_false h10
             let t11 : List (St Tryz.prog) := (t10 ++ [.d h10])
             cases h11 : (decide (((F7_L a0 a1.1 a1.2.1).2.1 : Int) > 2000)) with
             | true =>
              have q11 := of_decide_eq_true h11
              have e := Eq.refl (F3_L a0 a1); conv at e => rhs; simp only [F3_L, h0, h1, h2, h3, h4, h5, h6, h7, h8, h9, h10, h11, cond_true, cond_false]
              rw [e]
              refine ga (t11 ++ [.d h11, .z 11]) [] [] [] hcx B3_L_j11 (K3_L_j11) (st3_L_j11 a0 a1) (by kernel_rfl) ?_
              exact L3_L_j11 a0 a1 l0 hcx trivial
             | false =>
              have q11 := of_decide_eq_false h11
              let t12 : List (St Tryz.prog) := (t11 ++ [.d h11, .c [0] (C9_L a0 a1.1 a1.2.1 (F7_L a0 a1.1 a1.2.1).1 (F7_L a0 a1.1 a1.2.1).2.1 a1.2.2.2 (by (try simp only [List.length_append, List.length_cons, List.length_nil, Int.toNat_zero]); omega))])
              cases h12 : (((F9_L a0 a1.1 a1.2.1 (F7_L a0 a1.1 a1.2.1).1 (F7_L a0 a1.1 a1.2.1).2.1 a1.2.2.2).2 : Int) != 0) with
              | true =>
               have q12 := bne_iff_ne.1 h12
               have e := Eq.refl (F3_L a0 a1); conv at e => rhs; simp only [F3_L, h0, h1, h2, h3, h4, h5, h6, h7, h8, h9, h10, h11, h12, cond_true, cond_false]
               rw [e]
               exact rt (t12 ++ [.d h12]) [] [] hcx (by kernel_rfl)
              | false =>
               have q12 := bne_eq_false_iff_eq.1 h12
               let t13 : List (St Tryz.prog) := (t12 ++ [.d h12, .c [3] (C10_L (F9_L a0 a1.1 a1.2.1 (F7_L a0 a1.1 a1.2.1).1 (F7_L a0 a1.1 a1.2.1).2.1 a1.2.2.2).1 (by (try simp only [List.length_append, List.length_cons, List.length_nil, Int.toNat_zero]); omega))])
               cases h13 : (((F10_L (F9_L a0 a1.1 a1.2.1 (F7_L a0 a1.1 a1.2.1).1 (F7_L a0 a1.1 a1.2.1).2.1 a1.2.2.2).1).2 : Int) != 0) with
               | true =>
                have q13 := bne_iff_ne.1 h13
                have e := Eq.refl (F3_L a0 a1); conv at e => rhs; simp only [F3_L, h0, h1, h2, h3, h4, h5, h6, h7, h8, h9, h10, h11, h12, h13, cond_true, cond_false]
                rw [e]
                exact rt (t13 ++ [.d h13]) [] [] hcx (by kernel_rfl)
               | false =>
                have q13 := bne_eq_false_iff_eq.1 h13
                have e := Eq.refl (F3_L a0 a1); conv at e => rhs; simp only [F3_L, h0, h1, h2, h3, h4, h5, h6, h7, h8, h9, h10, h11, h12, h13, cond_true, cond_false]
                rw [e]
                exact rt (t13 ++ [.d h13, .c [] (C11 (F10_L (F9_L a0 a1.1 a1.2.1 (F7_L a0 a1.1 a1.2.1).1 (F7_L a0 a1.1 a1.2.1).2.1 a1.2.2.2).1).1 (F8_L a0 a1.1 a1.2.2.2).1)]) [] [] hcx (by kernel_rfl)

end Go.Proofs.YtcnnmgooolnebaaGreat
