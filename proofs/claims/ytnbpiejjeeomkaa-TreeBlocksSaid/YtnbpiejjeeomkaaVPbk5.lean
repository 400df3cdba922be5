/-
  Parts of the proofs of the laws: the executor, what functions of the program compute, and that it is what the statements ask. No premise.
-/
import Derived.Test.YtnbpiejjeeomkaaVPbk4
set_option linter.unusedVariables false
set_option linter.unusedSimpArgs false
set_option maxHeartbeats 4000000
open Int (toNat)
namespace Go.Proofs.Ytnbpiejjeeomkaa
open Go.Proofs Go.Aw Go.RowKit
set_option maxRecDepth 100000

abbrev BU := (List ((((Int × Int × Int) × (Int × Int × Int) × Int × Int × Int) × Int))) × Int × List Int × TyN
structure PADD (b : BU) (i k : Int) : Prop where
 inr : InR b.1.length b.2.2.1
 rng : 0 ≤ i ∧ i < k ∧ k ≤ b.2.2.1.length ∧ b.2.2.1.length ≤ 1048576
 nds : b.2.2.2.length + 2 * (k - i) ≤ 4194304
 lf : 1 ≤ b.2.1
theorem InR.part {n : Nat} {l : List Int} (h : InR n l) (a b : Int) : InR n (Aw.part l a b) := fun x hx => h x (List.mem_of_mem_drop (List.mem_of_mem_take hx))
theorem mem_loop {a0 : TyL} {a1 : List Int} : ∀ (d i n : Nat) (m : TyL), d = a1.length - i → i ≤ a1.length → d < n →
   loopF (S72_L_L_0 a0 a1) n (m, (i : Int)) = m ++ (a1.drop i).map (fun a => a0.getD (toNat a) default)
 | 0, i, n, m, hd, hi, hn => by
   obtain ⟨n, rfl⟩ : ∃ m, n = m + 1 := ⟨n - 1, by omega⟩
   have : i = a1.length := by omega
   subst this
   have e : S72_L_L_0 a0 a1 (m, (a1.length : Int)) = .inr m := by
     simp only [S72_L_L_0]; rw [dqf (Int.lt_irrefl _), cond_false]
   rw [loopF_inr e]; simp
 | d + 1, i, n, m, hd, hi, hn => by
   obtain ⟨n, rfl⟩ : ∃ m, n = m + 1 := ⟨n - 1, by omega⟩
   have e : S72_L_L_0 a0 a1 (m, (i : Int)) = .inl (m ++ [a0.getD (toNat (a1.getD i default)) default], ((i + 1 : Nat) : Int)) := by
     simp only [S72_L_L_0]
     rw [dqt (show ((i : Nat) : Int) < (a1.length : Nat) by omega), cond_true, itn]; rfl
   rw [loopF_inl e, mem_loop d (i + 1) n _ (by omega) (by omega) (by omega), List.drop_eq_getElem_cons (show i < a1.length by omega), List.map_cons]
   simp [gdq, List.getElem?_eq_getElem (show i < a1.length by omega)]
theorem mem_eq (a0 : TyL) (a1 : List Int) : F72_L_L a0 a1 = a1.map (fun a => a0.getD (toNat a) default) := by
 have := mem_loop (a0 := a0) (a1 := a1) a1.length 0 (toNat ((a1.length : Int) - 0) + 1) [] (by omega) (by omega) (by omega)
 exact this
theorem mem_len (a0 : TyL) (a1 : List Int) : (F72_L_L a0 a1).length = a1.length := by rw [mem_eq]; simp
theorem srt_in {N : Nat} {l : List Int} {o m : Nat} {c : BU × Int} (hw : o + m ≤ l.length ∧ l.length ≤ 1048576) (hi : InR N l) : (F75_W_b77 l o m c).length = l.length ∧ InR N (F75_W_b77 l o m c) :=
 pdq_inv _ hw hi (by omega) (by omega)
theorem mid_eq {i k : Int} (h : 0 ≤ i ∧ i < k ∧ k ≤ 1048576) : (W (i + (W (Int.tdiv (W ((W (k - i)) + 1)) 2)))) = i + (k - i + 1) / 2 := by
 rw [W_eq (n := k - i) (by omega) (by omega), W_eq (n := k - i + 1) (by omega) (by omega), Int.tdiv_eq_ediv_of_nonneg (by omega), W_eq (n := (k - i + 1) / 2) (by omega) (by omega), W_eq (by omega) (by omega)]

def A57_1 (a0 : TyL × Int × List (Int) × TyN) (a1 : Int) (a2 : Int) := (F72_L_L a0.1 (Aw.part (a0.2.2.1) a1 a2))

def A57_2 (a0 : TyL × Int × List (Int) × TyN) (a1 : Int) (a2 : Int) := (F74_L (A57_1 a0 a1 a2) (F73_L (A57_1 a0 a1 a2)))

def A57_3 (a0 : TyL × Int × List (Int) × TyN) (a1 : Int) (a2 : Int) := (F76_L (a0.1, a0.2.1, (a0.2.2.1, (a0.2.2.2 ++ [(a1, a2, (-1), (-1), (F73_L (A57_1 a0 a1 a2)), (A57_2 a0 a1 a2).1)]))) (Aw.part (a0.2.2.1) a1 a2))

def A57_4 (a0 : TyL × Int × List (Int) × TyN) (a1 : Int) (a2 : Int) := (F75_W_b77 (a0.2.2.1) (toNat a1) (toNat a2 - toNat a1) ((a0.1, a0.2.1, (a0.2.2.1, (a0.2.2.2 ++ [(a1, a2, (-1), (-1), (F73_L (A57_1 a0 a1 a2)), (A57_2 a0 a1 a2).1)]))), (A57_3 a0 a1 a2).2))

def A57_5 (rr : TyB → (Int) → (Int) → Int × TyL × Int × List (Int) × TyN) (a0 : TyL × Int × List (Int) × TyN) (a1 : Int) (a2 : Int) := (rr (a0.1, a0.2.1, ((A57_4 a0 a1 a2), (a0.2.2.2 ++ [(a1, a2, (-1), (-1), (F73_L (A57_1 a0 a1 a2)), (A57_2 a0 a1 a2).1)]))) a1 (W (a1 + (W (Int.tdiv (W ((W (a2 - a1)) + 1)) 2)))))

def A57_6 (rr : TyB → (Int) → (Int) → Int × TyL × Int × List (Int) × TyN) (a0 : TyL × Int × List (Int) × TyN) (a1 : Int) (a2 : Int) := (rr (a0.1, (A57_5 (rr) a0 a1 a2).2.2.1, ((A57_5 (rr) a0 a1 a2).2.2.2.1, (A57_5 (rr) a0 a1 a2).2.2.2.2)) (W (a1 + (W (Int.tdiv (W ((W (a2 - a1)) + 1)) 2)))) a2)

def R57 : Nat → TyB → (Int) → (Int) → Int × TyL × Int × List (Int) × TyN
 | 0, _, _, _ => default
 | nr + 1, a0, a1, a2 =>
 (bif (decide (((W (a2 - a1)) : Int) > a0.2.1)) then
  ((a0.2.2.2.length : Int), (a0.1, (A57_6 (R57 nr) a0 a1 a2).2.2.1, ((A57_6 (R57 nr) a0 a1 a2).2.2.2.1, (((A57_6 (R57 nr) a0 a1 a2).2.2.2.2.set (toNat (a0.2.2.2.length : Int)) (((A57_6 (R57 nr) a0 a1 a2).2.2.2.2.getD (toNat (a0.2.2.2.length : Int)) default).1, ((A57_6 (R57 nr) a0 a1 a2).2.2.2.2.getD (toNat (a0.2.2.2.length : Int)) default).2.1, (A57_5 (R57 nr) a0 a1 a2).1, ((A57_6 (R57 nr) a0 a1 a2).2.2.2.2.getD (toNat (a0.2.2.2.length : Int)) default).2.2.2.1, ((A57_6 (R57 nr) a0 a1 a2).2.2.2.2.getD (toNat (a0.2.2.2.length : Int)) default).2.2.2.2.1, ((A57_6 (R57 nr) a0 a1 a2).2.2.2.2.getD (toNat (a0.2.2.2.length : Int)) default).2.2.2.2.2)).set (toNat (a0.2.2.2.length : Int)) ((((A57_6 (R57 nr) a0 a1 a2).2.2.2.2.set (toNat (a0.2.2.2.length : Int)) (((A57_6 (R57 nr) a0 a1 a2).2.2.2.2.getD (toNat (a0.2.2.2.length : Int)) default).1, ((A57_6 (R57 nr) a0 a1 a2).2.2.2.2.getD (toNat (a0.2.2.2.length : Int)) default).2.1, (A57_5 (R57 nr) a0 a1 a2).1, ((A57_6 (R57 nr) a0 a1 a2).2.2.2.2.getD (toNat (a0.2.2.2.length : Int)) default).2.2.2.1, ((A57_6 (R57 nr) a0 a1 a2).2.2.2.2.getD (toNat (a0.2.2.2.length : Int)) default).2.2.2.2.1, ((A57_6 (R57 nr) a0 a1 a2).2.2.2.2.getD (toNat (a0.2.2.2.length : Int)) default).2.2.2.2.2)).getD (toNat (a0.2.2.2.length : Int)) default).1, (((A57_6 (R57 nr) a0 a1 a2).2.2.2.2.set (toNat (a0.2.2.2.length : Int)) (((A57_6 (R57 nr) a0 a1 a2).2.2.2.2.getD (toNat (a0.2.2.2.length : Int)) default).1, ((A57_6 (R57 nr) a0 a1 a2).2.2.2.2.getD (toNat (a0.2.2.2.length : Int)) default).2.1, (A57_5 (R57 nr) a0 a1 a2).1, ((A57_6 (R57 nr) a0 a1 a2).2.2.2.2.getD (toNat (a0.2.2.2.length : Int)) default).2.2.2.1, ((A57_6 (R57 nr) a0 a1 a2).2.2.2.2.getD (toNat (a0.2.2.2.length : Int)) default).2.2.2.2.1, ((A57_6 (R57 nr) a0 a1 a2).2.2.2.2.getD (toNat (a0.2.2.2.length : Int)) default).2.2.2.2.2)).getD (toNat (a0.2.2.2.length : Int)) default).2.1, (((A57_6 (R57 nr) a0 a1 a2).2.2.2.2.set (toNat (a0.2.2.2.length : Int)) (((A57_6 (R57 nr) a0 a1 a2).2.2.2.2.getD (toNat (a0.2.2.2.length : Int)) default).1, ((A57_6 (R57 nr) a0 a1 a2).2.2.2.2.getD (toNat (a0.2.2.2.length : Int)) default).2.1, (A57_5 (R57 nr) a0 a1 a2).1, ((A57_6 (R57 nr) a0 a1 a2).2.2.2.2.getD (toNat (a0.2.2.2.length : Int)) default).2.2.2.1, ((A57_6 (R57 nr) a0 a1 a2).2.2.2.2.getD (toNat (a0.2.2.2.length : Int)) default).2.2.2.2.1, ((A57_6 (R57 nr) a0 a1 a2).2.2.2.2.getD (toNat (a0.2.2.2.length : Int)) default).2.2.2.2.2)).getD (toNat (a0.2.2.2.length : Int)) default).2.2.1, (A57_6 (R57 nr) a0 a1 a2).1, (((A57_6 (R57 nr) a0 a1 a2).2.2.2.2.set (toNat (a0.2.2.2.length : Int)) (((A57_6 (R57 nr) a0 a1 a2).2.2.2.2.getD (toNat (a0.2.2.2.length : Int)) default).1, ((A57_6 (R57 nr) a0 a1 a2).2.2.2.2.getD (toNat (a0.2.2.2.length : Int)) default).2.1, (A57_5 (R57 nr) a0 a1 a2).1, ((A57_6 (R57 nr) a0 a1 a2).2.2.2.2.getD (toNat (a0.2.2.2.length : Int)) default).2.2.2.1, ((A57_6 (R57 nr) a0 a1 a2).2.2.2.2.getD (toNat (a0.2.2.2.length : Int)) default).2.2.2.2.1, ((A57_6 (R57 nr) a0 a1 a2).2.2.2.2.getD (toNat (a0.2.2.2.length : Int)) default).2.2.2.2.2)).getD (toNat (a0.2.2.2.length : Int)) default).2.2.2.2.1, (((A57_6 (R57 nr) a0 a1 a2).2.2.2.2.set (toNat (a0.2.2.2.length : Int)) (((A57_6 (R57 nr) a0 a1 a2).2.2.2.2.getD (toNat (a0.2.2.2.length : Int)) default).1, ((A57_6 (R57 nr) a0 a1 a2).2.2.2.2.getD (toNat (a0.2.2.2.length : Int)) default).2.1, (A57_5 (R57 nr) a0 a1 a2).1, ((A57_6 (R57 nr) a0 a1 a2).2.2.2.2.getD (toNat (a0.2.2.2.length : Int)) default).2.2.2.1, ((A57_6 (R57 nr) a0 a1 a2).2.2.2.2.getD (toNat (a0.2.2.2.length : Int)) default).2.2.2.2.1, ((A57_6 (R57 nr) a0 a1 a2).2.2.2.2.getD (toNat (a0.2.2.2.length : Int)) default).2.2.2.2.2)).getD (toNat (a0.2.2.2.length : Int)) default).2.2.2.2.2)))))
 else
  ((a0.2.2.2.length : Int), (a0.1, a0.2.1, (a0.2.2.1, (a0.2.2.2 ++ [(a1, a2, (-1), (-1), (F73_L (A57_1 a0 a1 a2)), (A57_2 a0 a1 a2).1)])))))

def F57 (a0 : TyL × Int × List (Int) × TyN) (a1 : Int) (a2 : Int) : Int × TyL × Int × List (Int) × TyN := R57 (toNat (a2 - a1) + 1) a0 a1 a2

structure ADDR (b r : BU) (i k : Int) : Prop where
 pan : r.1 = b.1
 leaf : r.2.1 = b.2.1
 ol : r.2.2.1.length = b.2.2.1.length
 oi : InR b.1.length r.2.2.1
 lo : b.2.2.2.length < r.2.2.2.length
 hi : r.2.2.2.length ≤ b.2.2.2.length + 2 * (k - i) - 1
section
variable {nr : Nat} {b : BU} {i k : Int} (hp : PADD b i k)
include hp
theorem add_4 : (A57_4 b i k).length = b.2.2.1.length ∧ InR b.1.length (A57_4 b i k) :=
 srt_in (by have := hp.rng; omega) hp.inr
theorem pad1 {x : Int × Int × Int × Int × (Int × Int × Int) × Int} (h2 : 2 ≤ k - i) : PADD (b.1, b.2.1, (A57_4 b i k), b.2.2.2 ++ [x]) i (W (i + (W (Int.tdiv (W ((W (k - i)) + 1)) 2)))) := by
 have h := hp.rng; have hn := hp.nds
 rw [mid_eq ⟨h.1, h.2.1, by omega⟩]
 have h4 := add_4 hp
 exact ⟨h4.2, ⟨h.1, by omega, by rw [h4.1]; omega, by rw [h4.1]; omega⟩, by simp only [List.length_append, List.length_cons, List.length_nil]; omega, hp.lf⟩
end
theorem pad2 {b r : BU} {i k : Int} {o : List Int} {x : Int × Int × Int × Int × (Int × Int × Int) × Int} (hp : PADD b i k) (ho : o.length = b.2.2.1.length) (h2 : 2 ≤ k - i) (hr : ADDR (b.1, b.2.1, o, b.2.2.2 ++ [x]) r i (W (i + (W (Int.tdiv (W ((W (k - i)) + 1)) 2))))) :
   PADD (b.1, r.2.1, r.2.2.1, r.2.2.2) (W (i + (W (Int.tdiv (W ((W (k - i)) + 1)) 2)))) k := by
 have h := hp.rng; have hn := hp.nds
 obtain ⟨g1, g2, g3, g4, g5, g6⟩ := hr
 rw [mid_eq ⟨h.1, h.2.1, by omega⟩] at g6 ⊢
 simp only [List.length_append, List.length_cons, List.length_nil] at g3 g5 g6 g2
 exact ⟨g4, ⟨by omega, by omega, by rw [g3]; omega, by rw [g3]; omega⟩, by simp only; omega, by rw [g2]; exact hp.lf⟩
theorem add_inv : ∀ (nr : Nat) (b : BU) (i k : Int), PADD b i k → toNat (k - i) < nr → ADDR b (R57 nr b i k).2 i k
 | 0, b, i, k, _, hn => absurd hn (nlz _)
 | nr + 1, b, i, k, hp, hn => by
   have h := hp.rng; have hn2 := hp.nds; have hl := hp.lf
   have hW : W (k - i) = k - i := W_eq (by omega) (by omega)
   simp only [R57]
   by_cases h0 : W (k - i) > b.2.1
   · rw [dqt h0, cond_true]
     have h2 : 2 ≤ k - i := by omega
     have hm := mid_eq ⟨h.1, h.2.1, by omega⟩
     have h5 : ADDR _ (A57_5 (R57 nr) b i k).2 i _ := add_inv nr _ _ _ (pad1 hp h2) (by rw [hm]; omega)
     have h6 : ADDR _ (A57_6 (R57 nr) b i k).2 _ k := add_inv nr _ _ _ (pad2 hp (add_4 hp).1 h2 h5) (by rw [hm]; omega)
     have g3 := h5.ol; have g5 := h5.lo; have g6 := h5.hi; have f3 := h6.ol; have f5 := h6.lo; have f6 := h6.hi
     rw [hm] at g6 f6
     simp only [List.length_append, List.length_cons, List.length_nil] at g3 g5 g6 f3 f5 f6
     refine ⟨rfl, h6.leaf.trans h5.leaf, ?_, h6.oi, ?_, ?_⟩
     · show (A57_6 (R57 nr) b i k).2.2.2.1.length = _
       rw [f3, g3]; exact (add_4 hp).1
     · simp only [List.length_set]; omega
     · simp only [List.length_set]; omega
   · rw [dqf h0, cond_false]
     exact ⟨rfl, rfl, rfl, hp.inr, by simp, by simp; omega⟩

theorem Cr57 : ∀ (nr : Nat) (a0 : TyL × Int × List (Int) × TyN) (a1 : Int) (a2 : Int) (l0_1 : a0.1.length ≤ 9223372036854775807) (l0_2_2_1 : a0.2.2.1.length ≤ 9223372036854775807) (l0_2_2_2 : a0.2.2.2.length ≤ 9223372036854775807) (hp : PADD a0 a1 a2), toNat (a2 - a1) < nr → Con Try.prog 57 [(.p 0 0), (iv a1), (iv a2)] [(.live true false [(.s 1 0 a0.1.length 10), (iv a0.2.1), (.s 2 0 a0.2.2.1.length 1), (.s 3 0 a0.2.2.2.length 8)]), (.live false true (flat c81 a0.1)), (.live true true (flat c3 a0.2.2.1)), (.live true true (flat c40 a0.2.2.2))] (iv (R57 nr a0 a1 a2).1) [(.live true true (flat c40 (R57 nr a0 a1 a2).2.2.2.2))] [(.live true false [(.s 1 0 a0.1.length 10), (iv (R57 nr a0 a1 a2).2.2.1), (.s 2 0 (R57 nr a0 a1 a2).2.2.2.1.length 1), (.s 4 0 (R57 nr a0 a1 a2).2.2.2.2.length 8)]), .un, (.live true true (flat c3 (R57 nr a0 a1 a2).2.2.2.1)), .dead] := by
 intro nr
 induction nr with
 | zero => intro a0 a1 a2 l0_1 l0_2_2_1 l0_2_2_2 hp hlt; exact absurd hlt (nlz _)
 | succ nr ihr =>
 intro a0 a1 a2 l0_1 l0_2_2_1 l0_2_2_2 hp hlt
 refine con_s Try.func57 (by kernel_rfl) fun cx hcx => ?_
 have hpr := hp.rng
 have hpn := hp.nds
 have hpl := hp.lf
 have hpt := part_len (l := a0.2.2.1) (a := a1) (b := a2) (by omega)
 have hm1 : (A57_1 a0 a1 a2).length = _ := mem_len a0.1 (Aw.part a0.2.2.1 a1 a2)
 have hW : W (a2 - a1) = a2 - a1 := W_eq (by omega) (by omega)
 have hmid := mid_eq (i := a1) (k := a2) (by omega)
 have h4 := add_4 hp
 try have h2 : 2 ≤ a2 - a1 := (fun _ => by omega) h0
 try have h5 : ADDR _ (A57_5 (R57 nr) a0 a1 a2).2 a1 _ := (fun _ => add_inv nr _ _ _ (pad1 hp h2) (by rw [hmid]; omega)) h0
 try have h6 : ADDR _ (A57_6 (R57 nr) a0 a1 a2).2 _ a2 := (fun _ => add_inv nr _ _ _ (pad2 hp (add_4 hp).1 h2 h5) (by rw [hmid]; omega)) h0
 try have g5 := (fun _ => h5.lo) h0
 try have g6 := (fun _ => h5.hi) h0
 try have g3 := (fun _ => h5.ol) h0
 try have f5 := (fun _ => h6.lo) h0
 try have f6 := (fun _ => h6.hi) h0
 try have f3 := (fun _ => h6.ol) h0
 try (have _ := h0; rw [hmid] at g6 f6; simp only [List.length_append, List.length_cons, List.length_nil] at g3 g5 g6 f3 f5 f6)
 let t0 : List (St Try.prog) := [.sub a1 a2 (a0.2.2.1.length), .c [1, 2] (show Con Try.prog 72 [(.s 0 0 a0.1.length 10), (.s 1 (0 + toNat a1 * 1) (toNat a2 - toNat a1) 1)] [(.live false true (flat c81 a0.1)), (.live false true (flat c3 a0.2.2.1))] (.s 2 0 (A57_1 a0 a1 a2).length 10) [(.live true true (flat c81 (A57_1 a0 a1 a2)))] from Con.part (l := a0.2.2.1) (a := a1) (b := a2) (c := c3) (pre := [(.s 0 0 a0.1.length 10)]) (post := []) (bs1 := [(.live false true (flat c81 a0.1))]) (bs2 := []) 1 c3_len (by omega) rfl (by rfl) (C72_L_L a0.1 (Aw.part (a0.2.2.1) a1 a2) (by omega) (by (try simp only [Lt]); omega) (hp.inr.part a1 a2) (by omega))), .c [4] (C73_L (A57_1 a0 a1 a2) (by (try simp only [Lt]); omega) (by omega)), .c [4] (C74_L (A57_1 a0 a1 a2) (F73_L (A57_1 a0 a1 a2)) (by (try simp only [Lt]); omega) (by omega)), .p (show ((flat c40 a0.2.2.2).length = a0.2.2.2.length * 8 ∧ a0.2.2.2.length + 1 ≤ 2 ^ 40 ∧ (a0.2.2.2.length + 1) * 64 ≤ 2 ^ 47) from app_ok c40_len (by omega) (by omega))]
 cases h0 : (decide (((W (a2 - a1)) : Int) > a0.2.1)) with
 | true =>
  have q0 := odt h0
  have h4 := add_4 hp
  try have h2 : 2 ≤ a2 - a1 := (fun _ => by omega) h0
  try have h5 : ADDR _ (A57_5 (R57 nr) a0 a1 a2).2 a1 _ := (fun _ => add_inv nr _ _ _ (pad1 hp h2) (by rw [hmid]; omega)) h0
  try have h6 : ADDR _ (A57_6 (R57 nr) a0 a1 a2).2 _ a2 := (fun _ => add_inv nr _ _ _ (pad2 hp (add_4 hp).1 h2 h5) (by rw [hmid]; omega)) h0
  try have g5 := (fun _ => h5.lo) h0
  try have g6 := (fun _ => h5.hi) h0
  try have g3 := (fun _ => h5.ol) h0
  try have f5 := (fun _ => h6.lo) h0
  try have f6 := (fun _ => h6.hi) h0
  try have f3 := (fun _ => h6.ol) h0
  try (have _ := h0; rw [hmid] at g6 f6; simp only [List.length_append, List.length_cons, List.length_nil] at g3 g5 g6 f3 f5 f6)
  have e := Eq.refl (R57 (nr + 1) a0 a1 a2); conv at e => rhs; simp only [R57, h0, cdb]
  rw [e]
  try dsimp only [thenF]
  try dsimp only
  rw [show flat c40 (((A57_6 (R57 nr) a0 a1 a2).2.2.2.2.set (toNat (a0.2.2.2.length : Int)) (((A57_6 (R57 nr) a0 a1 a2).2.2.2.2.getD (toNat (a0.2.2.2.length : Int)) default).1, ((A57_6 (R57 nr) a0 a1 a2).2.2.2.2.getD (toNat (a0.2.2.2.length : Int)) default).2.1, (A57_5 (R57 nr) a0 a1 a2).1, ((A57_6 (R57 nr) a0 a1 a2).2.2.2.2.getD (toNat (a0.2.2.2.length : Int)) default).2.2.2.1, ((A57_6 (R57 nr) a0 a1 a2).2.2.2.2.getD (toNat (a0.2.2.2.length : Int)) default).2.2.2.2.1, ((A57_6 (R57 nr) a0 a1 a2).2.2.2.2.getD (toNat (a0.2.2.2.length : Int)) default).2.2.2.2.2)).set (toNat (a0.2.2.2.length : Int)) ((((A57_6 (R57 nr) a0 a1 a2).2.2.2.2.set (toNat (a0.2.2.2.length : Int)) (((A57_6 (R57 nr) a0 a1 a2).2.2.2.2.getD (toNat (a0.2.2.2.length : Int)) default).1, ((A57_6 (R57 nr) a0 a1 a2).2.2.2.2.getD (toNat (a0.2.2.2.length : Int)) default).2.1, (A57_5 (R57 nr) a0 a1 a2).1, ((A57_6 (R57 nr) a0 a1 a2).2.2.2.2.getD (toNat (a0.2.2.2.length : Int)) default).2.2.2.1, ((A57_6 (R57 nr) a0 a1 a2).2.2.2.2.getD (toNat (a0.2.2.2.length : Int)) default).2.2.2.2.1, ((A57_6 (R57 nr) a0 a1 a2).2.2.2.2.getD (toNat (a0.2.2.2.length : Int)) default).2.2.2.2.2)).getD (toNat (a0.2.2.2.length : Int)) default).1, (((A57_6 (R57 nr) a0 a1 a2).2.2.2.2.set (toNat (a0.2.2.2.length : Int)) (((A57_6 (R57 nr) a0 a1 a2).2.2.2.2.getD (toNat (a0.2.2.2.length : Int)) default).1, ((A57_6 (R57 nr) a0 a1 a2).2.2.2.2.getD (toNat (a0.2.2.2.length : Int)) default).2.1, (A57_5 (R57 nr) a0 a1 a2).1, ((A57_6 (R57 nr) a0 a1 a2).2.2.2.2.getD (toNat (a0.2.2.2.length : Int)) default).2.2.2.1, ((A57_6 (R57 nr) a0 a1 a2).2.2.2.2.getD (toNat (a0.2.2.2.length : Int)) default).2.2.2.2.1, ((A57_6 (R57 nr) a0 a1 a2).2.2.2.2.getD (toNat (a0.2.2.2.length : Int)) default).2.2.2.2.2)).getD (toNat (a0.2.2.2.length : Int)) default).2.1, (((A57_6 (R57 nr) a0 a1 a2).2.2.2.2.set (toNat (a0.2.2.2.length : Int)) (((A57_6 (R57 nr) a0 a1 a2).2.2.2.2.getD (toNat (a0.2.2.2.length : Int)) default).1, ((A57_6 (R57 nr) a0 a1 a2).2.2.2.2.getD (toNat (a0.2.2.2.length : Int)) default).2.1, (A57_5 (R57 nr) a0 a1 a2).1, ((A57_6 (R57 nr) a0 a1 a2).2.2.2.2.getD (toNat (a0.2.2.2.length : Int)) default).2.2.2.1, ((A57_6 (R57 nr) a0 a1 a2).2.2.2.2.getD (toNat (a0.2.2.2.length : Int)) default).2.2.2.2.1, ((A57_6 (R57 nr) a0 a1 a2).2.2.2.2.getD (toNat (a0.2.2.2.length : Int)) default).2.2.2.2.2)).getD (toNat (a0.2.2.2.length : Int)) default).2.2.1, (A57_6 (R57 nr) a0 a1 a2).1, (((A57_6 (R57 nr) a0 a1 a2).2.2.2.2.set (toNat (a0.2.2.2.length : Int)) (((A57_6 (R57 nr) a0 a1 a2).2.2.2.2.getD (toNat (a0.2.2.2.length : Int)) default).1, ((A57_6 (R57 nr) a0 a1 a2).2.2.2.2.getD (toNat (a0.2.2.2.length : Int)) default).2.1, (A57_5 (R57 nr) a0 a1 a2).1, ((A57_6 (R57 nr) a0 a1 a2).2.2.2.2.getD (toNat (a0.2.2.2.length : Int)) default).2.2.2.1, ((A57_6 (R57 nr) a0 a1 a2).2.2.2.2.getD (toNat (a0.2.2.2.length : Int)) default).2.2.2.2.1, ((A57_6 (R57 nr) a0 a1 a2).2.2.2.2.getD (toNat (a0.2.2.2.length : Int)) default).2.2.2.2.2)).getD (toNat (a0.2.2.2.length : Int)) default).2.2.2.2.1, (((A57_6 (R57 nr) a0 a1 a2).2.2.2.2.set (toNat (a0.2.2.2.length : Int)) (((A57_6 (R57 nr) a0 a1 a2).2.2.2.2.getD (toNat (a0.2.2.2.length : Int)) default).1, ((A57_6 (R57 nr) a0 a1 a2).2.2.2.2.getD (toNat (a0.2.2.2.length : Int)) default).2.1, (A57_5 (R57 nr) a0 a1 a2).1, ((A57_6 (R57 nr) a0 a1 a2).2.2.2.2.getD (toNat (a0.2.2.2.length : Int)) default).2.2.2.1, ((A57_6 (R57 nr) a0 a1 a2).2.2.2.2.getD (toNat (a0.2.2.2.length : Int)) default).2.2.2.2.1, ((A57_6 (R57 nr) a0 a1 a2).2.2.2.2.getD (toNat (a0.2.2.2.length : Int)) default).2.2.2.2.2)).getD (toNat (a0.2.2.2.length : Int)) default).2.2.2.2.2)) = (splice (splice (flat c40 (A57_6 (R57 nr) a0 a1 a2).2.2.2.2) (0 + toNat (a0.2.2.2.length : Int) * 8 + 2) [(iv (A57_5 (R57 nr) a0 a1 a2).1)]) (0 + toNat (a0.2.2.2.length : Int) * 8 + 3) [(iv (A57_6 (R57 nr) a0 a1 a2).1)]) from Eq.symm (by rw [show (splice (flat c40 (A57_6 (R57 nr) a0 a1 a2).2.2.2.2) (0 + toNat (a0.2.2.2.length : Int) * 8 + 2) [(iv (A57_5 (R57 nr) a0 a1 a2).1)]) = flat c40 ((A57_6 (R57 nr) a0 a1 a2).2.2.2.2.set (toNat (a0.2.2.2.length : Int)) (((A57_6 (R57 nr) a0 a1 a2).2.2.2.2.getD (toNat (a0.2.2.2.length : Int)) default).1, ((A57_6 (R57 nr) a0 a1 a2).2.2.2.2.getD (toNat (a0.2.2.2.length : Int)) default).2.1, (A57_5 (R57 nr) a0 a1 a2).1, ((A57_6 (R57 nr) a0 a1 a2).2.2.2.2.getD (toNat (a0.2.2.2.length : Int)) default).2.2.2.1, ((A57_6 (R57 nr) a0 a1 a2).2.2.2.2.getD (toNat (a0.2.2.2.length : Int)) default).2.2.2.2.1, ((A57_6 (R57 nr) a0 a1 a2).2.2.2.2.getD (toNat (a0.2.2.2.length : Int)) default).2.2.2.2.2)) from (flat_set c40_len (by first | omega | (simp only [Lt]; omega)) (o := 2) (d := default) (Nb rfl) rfl)]; exact flat_set c40_len (by first | omega | (simp only [Lt]; omega)) (o := 3) (d := default) (Nb rfl) rfl)]
  try rw [show List.length (α := Int × Int × Int × Int × (Int × Int × Int) × Int) (((A57_6 (R57 nr) a0 a1 a2).2.2.2.2.set (toNat (a0.2.2.2.length : Int)) (((A57_6 (R57 nr) a0 a1 a2).2.2.2.2.getD (toNat (a0.2.2.2.length : Int)) default).1, ((A57_6 (R57 nr) a0 a1 a2).2.2.2.2.getD (toNat (a0.2.2.2.length : Int)) default).2.1, (A57_5 (R57 nr) a0 a1 a2).1, ((A57_6 (R57 nr) a0 a1 a2).2.2.2.2.getD (toNat (a0.2.2.2.length : Int)) default).2.2.2.1, ((A57_6 (R57 nr) a0 a1 a2).2.2.2.2.getD (toNat (a0.2.2.2.length : Int)) default).2.2.2.2.1, ((A57_6 (R57 nr) a0 a1 a2).2.2.2.2.getD (toNat (a0.2.2.2.length : Int)) default).2.2.2.2.2)).set (toNat (a0.2.2.2.length : Int)) ((((A57_6 (R57 nr) a0 a1 a2).2.2.2.2.set (toNat (a0.2.2.2.length : Int)) (((A57_6 (R57 nr) a0 a1 a2).2.2.2.2.getD (toNat (a0.2.2.2.length : Int)) default).1, ((A57_6 (R57 nr) a0 a1 a2).2.2.2.2.getD (toNat (a0.2.2.2.length : Int)) default).2.1, (A57_5 (R57 nr) a0 a1 a2).1, ((A57_6 (R57 nr) a0 a1 a2).2.2.2.2.getD (toNat (a0.2.2.2.length : Int)) default).2.2.2.1, ((A57_6 (R57 nr) a0 a1 a2).2.2.2.2.getD (toNat (a0.2.2.2.length : Int)) default).2.2.2.2.1, ((A57_6 (R57 nr) a0 a1 a2).2.2.2.2.getD (toNat (a0.2.2.2.length : Int)) default).2.2.2.2.2)).getD (toNat (a0.2.2.2.length : Int)) default).1, (((A57_6 (R57 nr) a0 a1 a2).2.2.2.2.set (toNat (a0.2.2.2.length : Int)) (((A57_6 (R57 nr) a0 a1 a2).2.2.2.2.getD (toNat (a0.2.2.2.length : Int)) default).1, ((A57_6 (R57 nr) a0 a1 a2).2.2.2.2.getD (toNat (a0.2.2.2.length : Int)) default).2.1, (A57_5 (R57 nr) a0 a1 a2).1, ((A57_6 (R57 nr) a0 a1 a2).2.2.2.2.getD (toNat (a0.2.2.2.length : Int)) default).2.2.2.1, ((A57_6 (R57 nr) a0 a1 a2).2.2.2.2.getD (toNat (a0.2.2.2.length : Int)) default).2.2.2.2.1, ((A57_6 (R57 nr) a0 a1 a2).2.2.2.2.getD (toNat (a0.2.2.2.length : Int)) default).2.2.2.2.2)).getD (toNat (a0.2.2.2.length : Int)) default).2.1, (((A57_6 (R57 nr) a0 a1 a2).2.2.2.2.set (toNat (a0.2.2.2.length : Int)) (((A57_6 (R57 nr) a0 a1 a2).2.2.2.2.getD (toNat (a0.2.2.2.length : Int)) default).1, ((A57_6 (R57 nr) a0 a1 a2).2.2.2.2.getD (toNat (a0.2.2.2.length : Int)) default).2.1, (A57_5 (R57 nr) a0 a1 a2).1, ((A57_6 (R57 nr) a0 a1 a2).2.2.2.2.getD (toNat (a0.2.2.2.length : Int)) default).2.2.2.1, ((A57_6 (R57 nr) a0 a1 a2).2.2.2.2.getD (toNat (a0.2.2.2.length : Int)) default).2.2.2.2.1, ((A57_6 (R57 nr) a0 a1 a2).2.2.2.2.getD (toNat (a0.2.2.2.length : Int)) default).2.2.2.2.2)).getD (toNat (a0.2.2.2.length : Int)) default).2.2.1, (A57_6 (R57 nr) a0 a1 a2).1, (((A57_6 (R57 nr) a0 a1 a2).2.2.2.2.set (toNat (a0.2.2.2.length : Int)) (((A57_6 (R57 nr) a0 a1 a2).2.2.2.2.getD (toNat (a0.2.2.2.length : Int)) default).1, ((A57_6 (R57 nr) a0 a1 a2).2.2.2.2.getD (toNat (a0.2.2.2.length : Int)) default).2.1, (A57_5 (R57 nr) a0 a1 a2).1, ((A57_6 (R57 nr) a0 a1 a2).2.2.2.2.getD (toNat (a0.2.2.2.length : Int)) default).2.2.2.1, ((A57_6 (R57 nr) a0 a1 a2).2.2.2.2.getD (toNat (a0.2.2.2.length : Int)) default).2.2.2.2.1, ((A57_6 (R57 nr) a0 a1 a2).2.2.2.2.getD (toNat (a0.2.2.2.length : Int)) default).2.2.2.2.2)).getD (toNat (a0.2.2.2.length : Int)) default).2.2.2.2.1, (((A57_6 (R57 nr) a0 a1 a2).2.2.2.2.set (toNat (a0.2.2.2.length : Int)) (((A57_6 (R57 nr) a0 a1 a2).2.2.2.2.getD (toNat (a0.2.2.2.length : Int)) default).1, ((A57_6 (R57 nr) a0 a1 a2).2.2.2.2.getD (toNat (a0.2.2.2.length : Int)) default).2.1, (A57_5 (R57 nr) a0 a1 a2).1, ((A57_6 (R57 nr) a0 a1 a2).2.2.2.2.getD (toNat (a0.2.2.2.length : Int)) default).2.2.2.1, ((A57_6 (R57 nr) a0 a1 a2).2.2.2.2.getD (toNat (a0.2.2.2.length : Int)) default).2.2.2.2.1, ((A57_6 (R57 nr) a0 a1 a2).2.2.2.2.getD (toNat (a0.2.2.2.length : Int)) default).2.2.2.2.2)).getD (toNat (a0.2.2.2.length : Int)) default).2.2.2.2.2)) = (A57_6 (R57 nr) a0 a1 a2).2.2.2.2.length from by first | simp; done | omega]
  exact rtm (t0 ++ [.d h0, .sub a1 a2 (a0.2.2.1.length), .sub a1 a2 (a0.2.2.1.length), .c [0, 1, 2, 7] (show Con Try.prog 76 [(.p 0 0), (.s 2 (0 + toNat a1 * 1) (toNat a2 - toNat a1) 1)] [(.live false false [(.s 1 0 a0.1.length 10), (iv a0.2.1), (.s 2 0 a0.2.2.1.length 1), (.s 3 0 (a0.2.2.2.length + 1) 8)]), (.live false true (flat c81 a0.1)), (.live false true (flat c3 a0.2.2.1)), (.live false true (flat c40 a0.2.2.2 ++ [(iv a1), (iv a2), (iv (-1)), (iv (-1)), (iv (F73_L (A57_1 a0 a1 a2)).1), (iv (F73_L (A57_1 a0 a1 a2)).2.1), (iv (F73_L (A57_1 a0 a1 a2)).2.2), (iv (A57_2 a0 a1 a2).1)]))] (.a [(.p 0 0), (iv (A57_3 a0 a1 a2).2)]) [] from Con.alias (l := a0.2.2.1) (a := a1) (b := a2) (c := c3) (pre := [(.p 0 0)]) (post := []) (bs := [(.live false false [(.s 1 0 a0.1.length 10), (iv a0.2.1), (.s 2 0 a0.2.2.1.length 1), (.s 3 0 (a0.2.2.2.length + 1) 8)]), (.live false true (flat c81 a0.1)), (.live false true (flat c3 a0.2.2.1)), (.live false true (flat c40 a0.2.2.2 ++ [(iv a1), (iv a2), (iv (-1)), (iv (-1)), (iv (F73_L (A57_1 a0 a1 a2)).1), (iv (F73_L (A57_1 a0 a1 a2)).2.1), (iv (F73_L (A57_1 a0 a1 a2)).2.2), (iv (A57_2 a0 a1 a2).1)]))]) 2 c3_len (by omega) rfl (by rfl) (by have q := (C76_L (a0.1, a0.2.1, (a0.2.2.1, (a0.2.2.2 ++ [(a1, a2, (-1), (-1), (F73_L (A57_1 a0 a1 a2)), (A57_2 a0 a1 a2).1)]))) (Aw.part (a0.2.2.1) a1 a2) (by (try simp only [Lt]); omega) (by (try simp only [Lt]); omega) (by (try simp only [Lt]); omega) (by (try simp only [Lt]); omega) (hp.inr.part a1 a2) (by omega)); (try dsimp only at q); rw [show flat c40 (a0.2.2.2 ++ [(a1, a2, (-1), (-1), (F73_L (A57_1 a0 a1 a2)), (A57_2 a0 a1 a2).1)]) = (flat c40 a0.2.2.2 ++ [(iv a1), (iv a2), (iv (-1)), (iv (-1)), (iv (F73_L (A57_1 a0 a1 a2)).1), (iv (F73_L (A57_1 a0 a1 a2)).2.1), (iv (F73_L (A57_1 a0 a1 a2)).2.2), (iv (A57_2 a0 a1 a2).1)]) from flat_append] at q; (try rw [show List.length (α := Int × Int × Int × Int × (Int × Int × Int) × Int) (a0.2.2.2 ++ [(a1, a2, (-1), (-1), (F73_L (A57_1 a0 a1 a2)), (A57_2 a0 a1 a2).1)]) = (a0.2.2.2.length + 1) from by first | simp; done | omega] at q); exact q)), .c [2, 0, 1, 7] (by have q := (C75_W_b77 (a0.2.2.1) (toNat a1) (toNat a2 - toNat a1) ((a0.1, a0.2.1, (a0.2.2.1, (a0.2.2.2 ++ [(a1, a2, (-1), (-1), (F73_L (A57_1 a0 a1 a2)), (A57_2 a0 a1 a2).1)]))), (A57_3 a0 a1 a2).2) (by (try simp only [Lt]); omega) (by (try simp only [Lt]); omega) (by (try simp only [Lt]); omega) (by (try simp only [Lt]); omega) (by omega) hp.inr); (try dsimp only at q); rw [show flat c40 (a0.2.2.2 ++ [(a1, a2, (-1), (-1), (F73_L (A57_1 a0 a1 a2)), (A57_2 a0 a1 a2).1)]) = (flat c40 a0.2.2.2 ++ [(iv a1), (iv a2), (iv (-1)), (iv (-1)), (iv (F73_L (A57_1 a0 a1 a2)).1), (iv (F73_L (A57_1 a0 a1 a2)).2.1), (iv (F73_L (A57_1 a0 a1 a2)).2.2), (iv (A57_2 a0 a1 a2).1)]) from flat_append] at q; (try rw [show List.length (α := Int × Int × Int × Int × (Int × Int × Int) × Int) (a0.2.2.2 ++ [(a1, a2, (-1), (-1), (F73_L (A57_1 a0 a1 a2)), (A57_2 a0 a1 a2).1)]) = (a0.2.2.2.length + 1) from by first | simp; done | omega] at q); exact q), .p (show (2 : Int) ≠ 0 from by decide), .c [0, 1, 2, 7] (by have q := (ihr (a0.1, a0.2.1, ((A57_4 a0 a1 a2), (a0.2.2.2 ++ [(a1, a2, (-1), (-1), (F73_L (A57_1 a0 a1 a2)), (A57_2 a0 a1 a2).1)]))) a1 (W (a1 + (W (Int.tdiv (W ((W (a2 - a1)) + 1)) 2)))) (by (try simp only [Lt]); omega) (by (try simp only [Lt]); omega) (by (try simp only [Lt]); omega) (by first | exact pad1 hp h2 | exact pad2 hp (add_4 hp).1 h2 h5) (by rw [hmid]; omega)); (try dsimp only at q); rw [show flat c40 (a0.2.2.2 ++ [(a1, a2, (-1), (-1), (F73_L (A57_1 a0 a1 a2)), (A57_2 a0 a1 a2).1)]) = (flat c40 a0.2.2.2 ++ [(iv a1), (iv a2), (iv (-1)), (iv (-1)), (iv (F73_L (A57_1 a0 a1 a2)).1), (iv (F73_L (A57_1 a0 a1 a2)).2.1), (iv (F73_L (A57_1 a0 a1 a2)).2.2), (iv (A57_2 a0 a1 a2).1)]) from flat_append] at q; (try rw [show List.length (α := Int) (A57_4 a0 a1 a2) = a0.2.2.1.length from by first | simp; done | omega] at q); (try rw [show List.length (α := Int × Int × Int × Int × (Int × Int × Int) × Int) (a0.2.2.2 ++ [(a1, a2, (-1), (-1), (F73_L (A57_1 a0 a1 a2)), (A57_2 a0 a1 a2).1)]) = (a0.2.2.2.length + 1) from by first | simp; done | omega] at q); exact q), .c [0, 1, 2, 8] (ihr (a0.1, (A57_5 (R57 nr) a0 a1 a2).2.2.1, ((A57_5 (R57 nr) a0 a1 a2).2.2.2.1, (A57_5 (R57 nr) a0 a1 a2).2.2.2.2)) (W (a1 + (W (Int.tdiv (W ((W (a2 - a1)) + 1)) 2)))) a2 (by (try simp only [Lt]); omega) (by (try simp only [Lt]); omega) (by (try simp only [Lt]); omega) (by first | exact pad1 hp h2 | exact pad2 hp (add_4 hp).1 h2 h5) (by rw [hmid]; omega)), .i (a0.2.2.2.length : Int) ((A57_6 (R57 nr) a0 a1 a2).2.2.2.2.length), .p (show ((0 + toNat (a0.2.2.2.length : Int) * 8 + 2) + 1 ≤ (flat c40 (A57_6 (R57 nr) a0 a1 a2).2.2.2.2).length) from (flat_setl c40_len (by first | omega | (simp only [Lt]; omega)) (o := 2) (Nb rfl))), .i (a0.2.2.2.length : Int) ((A57_6 (R57 nr) a0 a1 a2).2.2.2.2.length), .p (show ((0 + toNat (a0.2.2.2.length : Int) * 8 + 3) + 1 ≤ (splice (flat c40 (A57_6 (R57 nr) a0 a1 a2).2.2.2.2) (0 + toNat (a0.2.2.2.length : Int) * 8 + 2) [(iv (A57_5 (R57 nr) a0 a1 a2).1)]).length) from (by rw [show (splice (flat c40 (A57_6 (R57 nr) a0 a1 a2).2.2.2.2) (0 + toNat (a0.2.2.2.length : Int) * 8 + 2) [(iv (A57_5 (R57 nr) a0 a1 a2).1)]) = flat c40 ((A57_6 (R57 nr) a0 a1 a2).2.2.2.2.set (toNat (a0.2.2.2.length : Int)) (((A57_6 (R57 nr) a0 a1 a2).2.2.2.2.getD (toNat (a0.2.2.2.length : Int)) default).1, ((A57_6 (R57 nr) a0 a1 a2).2.2.2.2.getD (toNat (a0.2.2.2.length : Int)) default).2.1, (A57_5 (R57 nr) a0 a1 a2).1, ((A57_6 (R57 nr) a0 a1 a2).2.2.2.2.getD (toNat (a0.2.2.2.length : Int)) default).2.2.2.1, ((A57_6 (R57 nr) a0 a1 a2).2.2.2.2.getD (toNat (a0.2.2.2.length : Int)) default).2.2.2.2.1, ((A57_6 (R57 nr) a0 a1 a2).2.2.2.2.getD (toNat (a0.2.2.2.length : Int)) default).2.2.2.2.2)) from (flat_set c40_len (by first | omega | (simp only [Lt]; omega)) (o := 2) (d := default) (Nb rfl) rfl)]; exact flat_setl c40_len (by first | omega | (simp only [Lt]; omega)) (o := 3) (Nb rfl)))]) [] [0, 2, 3] [9] hcx (by kernel_rfl)
 | false =>
  have q0 := odf h0
  have h4 := add_4 hp
  try have h2 : 2 ≤ a2 - a1 := (fun _ => by omega) h0
  try have h5 : ADDR _ (A57_5 (R57 nr) a0 a1 a2).2 a1 _ := (fun _ => add_inv nr _ _ _ (pad1 hp h2) (by rw [hmid]; omega)) h0
  try have h6 : ADDR _ (A57_6 (R57 nr) a0 a1 a2).2 _ a2 := (fun _ => add_inv nr _ _ _ (pad2 hp (add_4 hp).1 h2 h5) (by rw [hmid]; omega)) h0
  try have g5 := (fun _ => h5.lo) h0
  try have g6 := (fun _ => h5.hi) h0
  try have g3 := (fun _ => h5.ol) h0
  try have f5 := (fun _ => h6.lo) h0
  try have f6 := (fun _ => h6.hi) h0
  try have f3 := (fun _ => h6.ol) h0
  try (have _ := h0; rw [hmid] at g6 f6; simp only [List.length_append, List.length_cons, List.length_nil] at g3 g5 g6 f3 f5 f6)
  have e := Eq.refl (R57 (nr + 1) a0 a1 a2); conv at e => rhs; simp only [R57, h0, cdb]
  rw [e]
  try dsimp only [thenF]
  try dsimp only
  rw [show flat c40 (a0.2.2.2 ++ [(a1, a2, (-1), (-1), (F73_L (A57_1 a0 a1 a2)), (A57_2 a0 a1 a2).1)]) = (flat c40 a0.2.2.2 ++ [(iv a1), (iv a2), (iv (-1)), (iv (-1)), (iv (F73_L (A57_1 a0 a1 a2)).1), (iv (F73_L (A57_1 a0 a1 a2)).2.1), (iv (F73_L (A57_1 a0 a1 a2)).2.2), (iv (A57_2 a0 a1 a2).1)]) from flat_append]
  try rw [show List.length (α := Int × Int × Int × Int × (Int × Int × Int) × Int) (a0.2.2.2 ++ [(a1, a2, (-1), (-1), (F73_L (A57_1 a0 a1 a2)), (A57_2 a0 a1 a2).1)]) = (a0.2.2.2.length + 1) from by first | simp; done | omega]
  exact rtm (t0 ++ [.d h0]) [] [0, 2, 3] [7] hcx (by kernel_rfl)

theorem C57 (a0 : TyL × Int × List (Int) × TyN) (a1 : Int) (a2 : Int) (l0_1 : a0.1.length ≤ 9223372036854775807) (l0_2_2_1 : a0.2.2.1.length ≤ 9223372036854775807) (l0_2_2_2 : a0.2.2.2.length ≤ 9223372036854775807) (hp : PADD a0 a1 a2) : Con Try.prog 57 [(.p 0 0), (iv a1), (iv a2)] [(.live true false [(.s 1 0 a0.1.length 10), (iv a0.2.1), (.s 2 0 a0.2.2.1.length 1), (.s 3 0 a0.2.2.2.length 8)]), (.live false true (flat c81 a0.1)), (.live true true (flat c3 a0.2.2.1)), (.live true true (flat c40 a0.2.2.2))] (iv (F57 a0 a1 a2).1) [(.live true true (flat c40 (F57 a0 a1 a2).2.2.2.2))] [(.live true false [(.s 1 0 a0.1.length 10), (iv (F57 a0 a1 a2).2.2.1), (.s 2 0 (F57 a0 a1 a2).2.2.2.1.length 1), (.s 4 0 (F57 a0 a1 a2).2.2.2.2.length 8)]), .un, (.live true true (flat c3 (F57 a0 a1 a2).2.2.2.1)), .dead] := Cr57 (toNat (a2 - a1) + 1) a0 a1 a2 l0_1 l0_2_2_1 l0_2_2_2 hp (lss _)

end Go.Proofs.Ytnbpiejjeeomkaa

namespace Go.Proofs.Ytnbpiejjeeomkaa
open Go.Proofs Go.Aw Go.RowKit
set_option maxRecDepth 100000

theorem InR.add {n : Nat} {l : List Int} (h : InR n l) {x : Int} (hx : 0 ≤ x ∧ x < (n : Int)) : InR n (l ++ [x]) := fun y hy => by
 rcases List.mem_append.1 hy with hy | hy
 · exact h y hy
 · rw [List.mem_singleton.1 hy]; exact hx
theorem InR.nil (n : Nat) : InR n [] := fun y hy => by simp at hy

noncomputable def B34_L_0 : Code := (loopAtD [1, 1, 0, 1] [] (bodyOf Try.f34) []).1
noncomputable def K34_L_0 : List K := (loopAtD [1, 1, 0, 1] [] (bodyOf Try.f34) []).2

def st34_L_0 (a0 : TyL) (a1 : Int) (v3c : List SV) (v3n : Nat) (v4c : List SV) (v4n : Nat) (v5 : Int) : LS := ⟨slN 40 [(0, (.s 0 0 a0.length 10)), (4, (.p 1 0)), (5, (.p 2 0)), (12, (iv (a0.length : Int))), (13, (iv v5))], [(.live false true (flat c81 a0)), (.live true false [(.v (.slice none 0 0)), (.v (.slice none 0 0))]), (.live true false [(.s 0 0 a0.length 10), (iv a1), (.s 3 0 v3n 1), (.s 4 0 v4n 8)]), (.live true true v3c), (.live true true v4c)]⟩

def S34_L_0 (a0 : TyL) (a1 : Int) : List (Int) × TyN × Int → (List (Int) × TyN × Int) ⊕ (List (Int) × TyN)
 | (v3, v4, v5) =>
  (bif (decide ((v5 : Int) < (a0.length : Int))) then
   (.inl ((v3 ++ [v5]), v4, (v5 + 1)))
  else
   (bif (decide (((a0.length : Int) : Int) > 0)) then
    (.inr ((F57 (a0, a1, (v3, v4)) 0 (a0.length : Int)).2.2.2.1, (F57 (a0, a1, (v3, v4)) 0 (a0.length : Int)).2.2.2.2))
   else
    (.inr (v3, v4))))

theorem L34_L_0 (a0 : TyL) (a1 : Int) (l0 : a0.length ≤ 9223372036854775807) (hl : a0.length ≤ 96) (hf : 1 ≤ a1) {cx : Cx} (hcx : cx.base = 1) : ∀ (n : Nat) (v3 : List (Int)) (v4 : TyN) (v5 : Int), (0 ≤ v5) ∧ (v3.length = toNat v5) ∧ (InR a0.length v3) ∧ (v4.length = 0) ∧ (v5 ≤ a0.length) ∧ (a0.length ≤ 96) ∧ (1 ≤ a1) → toNat ((a0.length : Int) - v5) < n → Aw.Good Try.prog none 9 (bodyPost Try.prog Try.f34 (RR cx (.a [(.s 1 0 (loopF (S34_L_0 a0 a1) n (v3, v4, v5)).1.length 1), (.s 2 0 (loopF (S34_L_0 a0 a1) n (v3, v4, v5)).2.length 8)]) [(.live true true (flat c3 (loopF (S34_L_0 a0 a1) n (v3, v4, v5)).1)), (.live true true (flat c40 (loopF (S34_L_0 a0 a1) n (v3, v4, v5)).2))] [])) cx [] (.l B34_L_0 n :: K34_L_0) (st34_L_0 a0 a1 (flat c3 v3) v3.length (flat c40 v4) v4.length v5) := by
 intro n
 induction n with
 | zero => intro v3 v4 v5 hi hn; exact absurd hn (nlz _)
 | succ n ih =>
   intro v3 v4 v5 hi hn
   refine good_round ?_
   cases h0 : (decide ((v5 : Int) < (a0.length : Int))) with
   | true =>
    have q0 := odt h0
    have e := Eq.refl (S34_L_0 a0 a1 (v3, v4, v5)); conv at e => rhs; simp only [S34_L_0, h0, cdb]
    rw [loopF_inl e]
    refine ba [.d h0, .p (show ((flat c3 v3).length = v3.length * 1 ∧ v3.length + 1 ≤ 2 ^ 40 ∧ (v3.length + 1) * 8 ≤ 2 ^ 47) from app_ok c3_len (by omega) (by omega))] [] [0, 4, 5, 12, 13] [1, 2, 6, 4] hcx (m := n) B34_L_0 (K34_L_0) (st34_L_0 a0 a1 (flat c3 v3 ++ [(iv v5)]) (v3.length + 1) (flat c40 v4) (v4.length) (W (v5 + 1))) (by kernel_rfl) ?_
    have z0 : (W (v5 + 1)) = (v5 + 1) := W_eq (by omega) (by omega)
    have z1 : (flat c3 v3 ++ [(iv v5)]) = (flat c3 (v3 ++ [v5])) := (flat_append (c := c3) (l := v3) (m := [v5])).symm
    have z2 : (v3.length + 1) = (v3 ++ [v5]).length := len_app v3 [v5] rfl
    rw [z0, z1, z2]
    exact ih (v3 ++ [v5]) v4 (v5 + 1) (by refine ⟨?_, ?_, ?_, ?_, ?_, ?_, ?_⟩ <;> first | omega | assumption | exact InR.nil _ | exact hi.2.2.1 | exact hi.2.2.1.add (by omega) | (simp only [Ls]; omega) | simp) (by (try simp only [Ls]); omega)
   | false =>
    have q0 := odf h0
    let t1 : List (St Try.prog) := [.d h0]
    cases h1 : (decide (((a0.length : Int) : Int) > 0)) with
    | true =>
     have q1 := odt h1
     have e := Eq.refl (S34_L_0 a0 a1 (v3, v4, v5)); conv at e => rhs; simp only [S34_L_0, h0, h1, cdb]
     rw [loopF_s, e]
     exact rt (t1 ++ [.d h1, .c [2, 0, 3, 4] (C57 (a0, a1, (v3, v4)) 0 (a0.length : Int) (by (try simp only [Lt]); omega) (by (try simp only [Lt]); omega) (by (try simp only [Lt]); omega) (by refine ⟨?_, ?_, ?_, ?_⟩ <;> first | exact hi.2.2.1 | (simp only []; omega) | omega))]) [] [3, 5] hcx (by kernel_rfl)
    | false =>
     have q1 := odf h1
     have e := Eq.refl (S34_L_0 a0 a1 (v3, v4, v5)); conv at e => rhs; simp only [S34_L_0, h0, h1, cdb]
     rw [loopF_s, e]
     exact rt (t1 ++ [.d h1]) [] [3, 4] hcx (by kernel_rfl)

def F34_L (a0 : TyL) (a1 : Int) : List (Int) × TyN :=
 (loopF (S34_L_0 a0 a1) (toNat ((a0.length : Int) - 0) + 1) (([] : List (Int)), ([] : TyN), 0))

theorem C34_L (a0 : TyL) (a1 : Int) (l0 : a0.length ≤ 9223372036854775807) (hl : a0.length ≤ 96) (hf : 1 ≤ a1) : Con Try.prog 34 [(.s 0 0 a0.length 10), (iv a1)] [(.live false true (flat c81 a0))] (.a [(.s 1 0 (F34_L a0 a1).1.length 1), (.s 2 0 (F34_L a0 a1).2.length 8)]) [(.live true true (flat c3 (F34_L a0 a1).1)), (.live true true (flat c40 (F34_L a0 a1).2))] := by
 refine con_s Try.func34 (by kernel_rfl) fun cx hcx => ?_
 have e := Eq.refl (F34_L a0 a1); conv at e => rhs; simp only [F34_L]
 rw [e]
 refine en [] [.cell 2 2 1, .cell 2 3 8] [0, 4, 5, 12, 13] [1, 2, 3, 4] hcx B34_L_0 (K34_L_0) (st34_L_0 a0 a1 (flat c3 ([] : List (Int))) 0 (flat c40 ([] : TyN)) 0 0) (toNat ((a0.length : Int) - 0) + 1) (by kernel_rfl) ?_
 exact L34_L_0 a0 a1 l0 hl hf hcx (toNat ((a0.length : Int) - 0) + 1) ([] : List (Int)) ([] : TyN) 0 (by refine ⟨?_, ?_, ?_, ?_, ?_, ?_, ?_⟩ <;> first | omega | assumption | exact InR.nil _ | exact hi.2.2.1 | exact hi.2.2.1.add (by omega) | (simp only [Ls]; omega) | simp) (by (try simp only [Ls]); omega)


noncomputable def B17_0 : Code := (loopAtD [1, 1, 0, 1] [] (bodyOf Try.f17) []).1
noncomputable def K17_0 : List K := (loopAtD [1, 1, 0, 1] [] (bodyOf Try.f17) []).2

def st17_0 (a0 : List (Int) × TyN) (v1 v2 : Int) : LS := ⟨slN 20 [(3, (iv v1)), (7, (.s 1 0 a0.2.length 8)), (8, (iv (a0.2.length : Int))), (9, (iv v2))], [(.live false true (flat c3 a0.1)), (.live false true (flat c40 a0.2))]⟩

def S17_0 (a0 : List (Int) × TyN) : Int × Int → (Int × Int) ⊕ (Int)
 | (v1, v2) =>
  (bif (decide ((v2 : Int) < (a0.2.length : Int))) then
   (bif (decide (((a0.2.getD (toNat v2) default).2.2.1 : Int) < 0)) then
    (.inl ((W (v1 + 1)), (v2 + 1)))
   else
    (.inl (v1, (v2 + 1))))
  else
   (.inr v1))

theorem L17_0 (a0 : List (Int) × TyN) (l0_1 : a0.1.length ≤ 9223372036854775807) (l0_2 : a0.2.length ≤ 9223372036854775807) (hl : a0.2.length ≤ 1048576) {cx : Cx} (hcx : cx.base = 2) : ∀ (n : Nat) (v1 v2 : Int), 0 ≤ v2 → toNat ((a0.2.length : Int) - v2) < n → Aw.Good Try.prog none 9 (bodyPost Try.prog Try.f17 (RR cx (iv (loopF (S17_0 a0) n (v1, v2))) [] [])) cx [] (.l B17_0 n :: K17_0) (st17_0 a0 v1 v2) := by
 intro n
 induction n with
 | zero => intro v1 v2 hi hn; exact absurd hn (nlz _)
 | succ n ih =>
   intro v1 v2 hi hn
   refine good_round ?_
   cases h0 : (decide ((v2 : Int) < (a0.2.length : Int))) with
   | true =>
    have q0 := odt h0
    let t1 : List (St Try.prog) := [.d h0, .i v2 (a0.2.length), .L c40_len a0.2 v2 0 8]
    cases h1 : (decide (((a0.2.getD (toNat v2) default).2.2.1 : Int) < 0)) with
    | true =>
     have q1 := odt h1
     have e := Eq.refl (S17_0 a0 (v1, v2)); conv at e => rhs; simp only [S17_0, h0, h1, cdb]
     rw [loopF_inl e]
     refine ba (t1 ++ [.d h1]) [] [3, 7, 8, 9] [] hcx (m := n) B17_0 (K17_0) (st17_0 a0 (W (v1 + 1)) (W (v2 + 1))) (by kernel_rfl) ?_
     have z0 : (W (v2 + 1)) = (v2 + 1) := W_eq (by omega) (by omega)
     rw [z0]
     exact ih (W (v1 + 1)) (v2 + 1) (by (try simp only [Ls]); omega) (by (try simp only [Ls]); omega)
    | false =>
     have q1 := odf h1
     have e := Eq.refl (S17_0 a0 (v1, v2)); conv at e => rhs; simp only [S17_0, h0, h1, cdb]
     rw [loopF_inl e]
     refine ba (t1 ++ [.d h1]) [] [3, 7, 8, 9] [] hcx (m := n) B17_0 (K17_0) (st17_0 a0 v1 (W (v2 + 1))) (by kernel_rfl) ?_
     have z0 : (W (v2 + 1)) = (v2 + 1) := W_eq (by omega) (by omega)
     rw [z0]
     exact ih v1 (v2 + 1) (by (try simp only [Ls]); omega) (by (try simp only [Ls]); omega)
   | false =>
    have q0 := odf h0
    have e := Eq.refl (S17_0 a0 (v1, v2)); conv at e => rhs; simp only [S17_0, h0, cdb]
    rw [loopF_s, e]
    exact rt [.d h0] [] [] hcx (by kernel_rfl)

def F17 (a0 : List (Int) × TyN) : Int :=
 (loopF (S17_0 a0) (toNat ((a0.2.length : Int) - 0) + 1) (0, 0))

theorem C17 (a0 : List (Int) × TyN) (l0_1 : a0.1.length ≤ 9223372036854775807) (l0_2 : a0.2.length ≤ 9223372036854775807) (hl : a0.2.length ≤ 1048576) : Con Try.prog 17 [(.a [(.s 0 0 a0.1.length 1), (.s 1 0 a0.2.length 8)])] [(.live false true (flat c3 a0.1)), (.live false true (flat c40 a0.2))] (iv (F17 a0)) [] := by
 refine con_s Try.func17 (by kernel_rfl) fun cx hcx => ?_
 have e := Eq.refl (F17 a0); conv at e => rhs; simp only [F17]
 rw [e]
 refine en [] [] [3, 7, 8, 9] [] hcx B17_0 (K17_0) (st17_0 a0 0 0) (toNat ((a0.2.length : Int) - 0) + 1) (by kernel_rfl) ?_
 exact L17_0 a0 l0_1 l0_2 hl hcx (toNat ((a0.2.length : Int) - 0) + 1) 0 0 (by (try simp only [Ls]); omega) (by (try simp only [Ls]); omega)

noncomputable def B31_0 : Code := (loopAtD [1, 1, 0, 1] [] (bodyOf Try.f31) []).1
noncomputable def K31_0 : List K := (loopAtD [1, 1, 0, 1] [] (bodyOf Try.f31) []).2

def st31_0 (v2c : List SV) (v2n : Nat) (v3 : Int) : LS := ⟨slN 23 [(1, (.s 0 0 v2n 10)), (2, (iv v3))], [(.live true true v2c)]⟩

def S31_0 : TyL × Int → (TyL × Int) ⊕ TyL
 | (v2, v3) =>
  (bif (decide ((v3 : Int) < 4)) then
   (.inl ((v2 ++ [((((W (9 * v3)), 0, 0), ((W ((W (9 * v3)) + 1)), 0, 0), ((W (9 * v3)), 1, 0)), 1)]), (v3 + 1)))
  else
   (.inr v2))

theorem L31_0 {cx : Cx} (hcx : cx.base = 0) : ∀ (n : Nat) (v2 : TyL) (v3 : Int), (0 ≤ v3) ∧ (v2.length = toNat v3) ∧ (v3 ≤ 4) → toNat (4 - v3) < n → Aw.Good Try.prog none 9 (bodyPost Try.prog Try.f31 (RR cx (.s 0 0 (loopF (S31_0) n (v2, v3)).length 10) [(.live true true (flat c81 (loopF (S31_0) n (v2, v3))))] [])) cx [] (.l B31_0 n :: K31_0) (st31_0 (flat c81 v2) v2.length v3) := by
 intro n
 induction n with
 | zero => intro v2 v3 hi hn; exact absurd hn (nlz _)
 | succ n ih =>
   intro v2 v3 hi hn
   refine good_round ?_
   cases h0 : (decide ((v3 : Int) < 4)) with
   | true =>
    have q0 := odt h0
    have e := Eq.refl (S31_0 (v2, v3)); conv at e => rhs; simp only [S31_0, h0, cdb]
    rw [loopF_inl e]
    refine ba [.d h0, .p (show ((flat c81 v2).length = v2.length * 10 ∧ v2.length + 1 ≤ 2 ^ 40 ∧ (v2.length + 1) * 80 ≤ 2 ^ 47) from app_ok c81_len (by omega) (by omega))] [] [1, 2] [2] hcx (m := n) B31_0 (K31_0) (st31_0 (flat c81 v2 ++ [(iv (W (9 * v3))), (iv 0), (iv 0), (iv (W ((W (9 * v3)) + 1))), (iv 0), (iv 0), (iv (W (9 * v3))), (iv 1), (iv 0), (iv 1)]) (v2.length + 1) (W (v3 + 1))) (by kernel_rfl) ?_
    have z0 : (W (v3 + 1)) = (v3 + 1) := W_eq (by omega) (by omega)
    have z1 : (flat c81 v2 ++ [(iv (W (9 * v3))), (iv 0), (iv 0), (iv (W ((W (9 * v3)) + 1))), (iv 0), (iv 0), (iv (W (9 * v3))), (iv 1), (iv 0), (iv 1)]) = (flat c81 (v2 ++ [((((W (9 * v3)), 0, 0), ((W ((W (9 * v3)) + 1)), 0, 0), ((W (9 * v3)), 1, 0)), 1)])) := (flat_append (c := c81) (l := v2) (m := [((((W (9 * v3)), 0, 0), ((W ((W (9 * v3)) + 1)), 0, 0), ((W (9 * v3)), 1, 0)), 1)])).symm
    have z2 : (v2.length + 1) = (v2 ++ [((((W (9 * v3)), 0, 0), ((W ((W (9 * v3)) + 1)), 0, 0), ((W (9 * v3)), 1, 0)), 1)]).length := len_app v2 [((((W (9 * v3)), 0, 0), ((W ((W (9 * v3)) + 1)), 0, 0), ((W (9 * v3)), 1, 0)), 1)] rfl
    rw [z0, z1, z2]
    exact ih (v2 ++ [((((W (9 * v3)), 0, 0), ((W ((W (9 * v3)) + 1)), 0, 0), ((W (9 * v3)), 1, 0)), 1)]) (v3 + 1) (by refine ⟨?_, ?_, ?_⟩ <;> (try simp only [Ls]) <;> first | omega | assumption | simp) (by (try simp only [Ls]); omega)
   | false =>
    have q0 := odf h0
    have e := Eq.refl (S31_0 (v2, v3)); conv at e => rhs; simp only [S31_0, h0, cdb]
    rw [loopF_s, e]
    exact rt [.d h0] [] [0] hcx (by kernel_rfl)

def F31 : TyL :=
 (loopF (S31_0) (toNat (4 - 0) + 1) (([] : TyL), 0))

theorem C31 : Con Try.prog 31 [] [] (.s 0 0 F31.length 10) [(.live true true (flat c81 F31))] := by
 refine con_s Try.func31 (by kernel_rfl) fun cx hcx => ?_
 have e := Eq.refl F31; conv at e => rhs; simp only [F31]
 rw [e]
 refine en [] [.slot 1 10] [1, 2] [0] hcx B31_0 (K31_0) (st31_0 (flat c81 ([] : TyL)) 0 0) (toNat (4 - 0) + 1) (by kernel_rfl) ?_
 exact L31_0 hcx (toNat (4 - 0) + 1) ([] : TyL) 0 (by refine ⟨?_, ?_, ?_⟩ <;> (try simp only [Ls]) <;> first | omega | assumption | simp) (by (try simp only [Ls]); omega)

def F33 (a0 : Int) (a1 : Int) (a2 : Int) : Bool :=
 (bif (decide ((a0 : Int) ≥ a1)) then
  (decide ((a0 : Int) ≤ a2))
 else
  false)

theorem C33 (a0 : Int) (a1 : Int) (a2 : Int) : Con Try.prog 33 [(iv a0), (iv a1), (iv a2)] [] (.v (.bool (F33 a0 a1 a2))) [] := by
 refine con_s Try.func33 (by kernel_rfl) fun cx hcx => ?_
 cases h0 : (decide ((a0 : Int) ≥ a1)) with
 | true =>
  have q0 := odt h0
  have e := Eq.refl (F33 a0 a1 a2); conv at e => rhs; simp only [F33, h0, cdb]
  rw [e]
  exact rt [.d h0] [] [] hcx (by kernel_rfl)
 | false =>
  have q0 := odf h0
  have e := Eq.refl (F33 a0 a1 a2); conv at e => rhs; simp only [F33, h0, cdb]
  rw [e]
  exact rt [.d h0] [] [] hcx (by kernel_rfl)

theorem wit_1 {n m k : Int} (h : (!(F33 n k m)) = false) : k ≤ n := by
 simp only [F33] at h
 by_cases h1 : n ≥ k
 · exact h1
 · rw [dqf h1] at h; simp at h

def F11_L (a0 : TyL) (a1 : Int) : (List (Int) × TyN) × Int :=
 (bif (((F32_L a0) : Int) != 0) then
  ((([] : List (Int)), ([] : TyN)), (F32_L a0))
 else
  (bif (!(F33 a1 1 16)) then
   ((([] : List (Int)), ([] : TyN)), 1)
  else
   (((F34_L a0 a1).1, (F34_L a0 a1).2), 0)))

theorem C11_L (a0 : TyL) (a1 : Int) (l0 : a0.length ≤ 9223372036854775807) : Con Try.prog 11 [(.s 0 0 a0.length 10), (iv a1)] [(.live false true (flat c81 a0))] (.t [(.a [(.s 1 0 (F11_L a0 a1).1.1.length 1), (.s 2 0 (F11_L a0 a1).1.2.length 8)]), (iv (F11_L a0 a1).2)]) [(.live true true (flat c3 (F11_L a0 a1).1.1)), (.live true true (flat c40 (F11_L a0 a1).1.2))] := by
 refine con_s Try.func11 (by kernel_rfl) fun cx hcx => ?_
 let t0 : List (St Try.prog) := [.c [0] (C32_L a0 (by omega))]
 cases h0 : (((F32_L a0) : Int) != 0) with
 | true =>
  have q0 := bne_iff_ne.1 h0
  have e := Eq.refl (F11_L a0 a1); conv at e => rhs; simp only [F11_L, h0, cdb]
  rw [e]
  exact rt (t0 ++ [.d h0]) [.cell 1 0 1, .cell 1 1 8] [2, 3] hcx (by kernel_rfl)
 | false =>
  have q0 := bne_eq_false_iff_eq.1 h0
  let t1 : List (St Try.prog) := (t0 ++ [.d h0, .c [] (C33 a1 1 16)])
  cases h1 : (!(F33 a1 1 16)) with
  | true =>
   have e := Eq.refl (F11_L a0 a1); conv at e => rhs; simp only [F11_L, h0, h1, cdb]
   rw [e]
   exact rt (t1 ++ [.d h1]) [.cell 1 0 1, .cell 1 1 8] [2, 3] hcx (by kernel_rfl)
  | false =>
   have e := Eq.refl (F11_L a0 a1); conv at e => rhs; simp only [F11_L, h0, h1, cdb]
   rw [e]
   exact rt (t1 ++ [.d h1, .c [0] (C34_L a0 a1 (by omega) (vch_len (l := a0) (bne_eq_false_iff_eq.1 h0)) (wit_1 h1))]) [] [2, 3] hcx (by kernel_rfl)


noncomputable def B18_0 : Code := (loopAtD [1, 1, 0, 1] [] (bodyOf Try.f18) []).1
noncomputable def K18_0 : List K := (loopAtD [1, 1, 0, 1] [] (bodyOf Try.f18) []).2

def st18_0 (a0 : List (Int) × TyN) (v1c : List SV) (v1n : Nat) (v2 : Int) : LS := ⟨slN 69 [(1, (.p 2 0)), (3, (.s 3 0 v1n 1)), (4, (iv v2))], [(.live false true (flat c3 a0.1)), (.live false true (flat c40 a0.2)), (.live true false [(.s 0 0 a0.1.length 1), (.s 1 0 a0.2.length 8)]), (.live true true v1c)]⟩

def S18_0 (a0 : List (Int) × TyN) : List (Int) × Int → (List (Int) × Int) ⊕ (Int)
 | (v1, v2) =>
  (bif (decide ((v2 : Int) ≥ 0)) then
   (bif (decide (((a0.2.getD (toNat v2) default).2.2.1 : Int) > v2)) then
    (bif (decide (((a0.2.getD (toNat v2) default).2.2.1 : Int) < (v1.length : Int))) then
     (bif (decide (((a0.2.getD (toNat v2) default).2.2.2.1 : Int) > v2)) then
      (bif (decide (((a0.2.getD (toNat v2) default).2.2.2.1 : Int) < (v1.length : Int))) then
       (.inl ((((v1.set (toNat v2) 1).set (toNat v2) (imx ((v1.set (toNat v2) 1).getD (toNat v2) default) (W (((v1.set (toNat v2) 1).getD (toNat (a0.2.getD (toNat v2) default).2.2.1) default) + 1)))).set (toNat v2) (imx (((v1.set (toNat v2) 1).set (toNat v2) (imx ((v1.set (toNat v2) 1).getD (toNat v2) default) (W (((v1.set (toNat v2) 1).getD (toNat (a0.2.getD (toNat v2) default).2.2.1) default) + 1)))).getD (toNat v2) default) (W ((((v1.set (toNat v2) 1).set (toNat v2) (imx ((v1.set (toNat v2) 1).getD (toNat v2) default) (W (((v1.set (toNat v2) 1).getD (toNat (a0.2.getD (toNat v2) default).2.2.1) default) + 1)))).getD (toNat (a0.2.getD (toNat v2) default).2.2.2.1) default) + 1)))), (W (v2 - 1))))
      else
       (.inl (((v1.set (toNat v2) 1).set (toNat v2) (imx ((v1.set (toNat v2) 1).getD (toNat v2) default) (W (((v1.set (toNat v2) 1).getD (toNat (a0.2.getD (toNat v2) default).2.2.1) default) + 1)))), (W (v2 - 1)))))
     else
      (.inl (((v1.set (toNat v2) 1).set (toNat v2) (imx ((v1.set (toNat v2) 1).getD (toNat v2) default) (W (((v1.set (toNat v2) 1).getD (toNat (a0.2.getD (toNat v2) default).2.2.1) default) + 1)))), (W (v2 - 1)))))
    else
     (bif (decide (((a0.2.getD (toNat v2) default).2.2.2.1 : Int) > v2)) then
      (bif (decide (((a0.2.getD (toNat v2) default).2.2.2.1 : Int) < (v1.length : Int))) then
       (.inl (((v1.set (toNat v2) 1).set (toNat v2) (imx ((v1.set (toNat v2) 1).getD (toNat v2) default) (W (((v1.set (toNat v2) 1).getD (toNat (a0.2.getD (toNat v2) default).2.2.2.1) default) + 1)))), (W (v2 - 1))))
      else
       (.inl ((v1.set (toNat v2) 1), (W (v2 - 1)))))
     else
      (.inl ((v1.set (toNat v2) 1), (W (v2 - 1))))))
   else
    (bif (decide (((a0.2.getD (toNat v2) default).2.2.2.1 : Int) > v2)) then
     (bif (decide (((a0.2.getD (toNat v2) default).2.2.2.1 : Int) < (v1.length : Int))) then
      (.inl (((v1.set (toNat v2) 1).set (toNat v2) (imx ((v1.set (toNat v2) 1).getD (toNat v2) default) (W (((v1.set (toNat v2) 1).getD (toNat (a0.2.getD (toNat v2) default).2.2.2.1) default) + 1)))), (W (v2 - 1))))
     else
      (.inl ((v1.set (toNat v2) 1), (W (v2 - 1)))))
    else
     (.inl ((v1.set (toNat v2) 1), (W (v2 - 1))))))
  else
   (bif (((v1.length : Int) : Int) == 0) then
    (.inr 0)
   else
    (.inr (v1.getD (toNat 0) default))))

theorem L18_0 (a0 : List (Int) × TyN) (l0_1 : a0.1.length ≤ 9223372036854775807) (l0_2 : a0.2.length ≤ 9223372036854775807) (hl : a0.2.length ≤ 1048576) {cx : Cx} (hcx : cx.base = 2) : ∀ (n : Nat) (v1 : List (Int)) (v2 : Int), (v1.length = a0.2.length) ∧ (-1 ≤ v2) ∧ (v2 < a0.2.length) → toNat (v2 + 1) < n → Aw.Good Try.prog none 9 (bodyPost Try.prog Try.f18 (RR cx (iv (loopF (S18_0 a0) n (v1, v2))) [] [])) cx [] (.l B18_0 n :: K18_0) (st18_0 a0 (flat c3 v1) v1.length v2) := by
 intro n
 induction n with
 | zero => intro v1 v2 hi hn; exact absurd hn (nlz _)
 | succ n ih =>
   intro v1 v2 hi hn
   refine good_round ?_
   have hw_i := W_eq (n := v2 - 1) (by omega) (by omega)
   cases h0 : (decide ((v2 : Int) ≥ 0)) with
   | true =>
    have q0 := odt h0
    let t1 : List (St Try.prog) := [.d h0, .i v2 (v1.length), .p (show ((0 + toNat v2 * 1) + 1 ≤ (flat c3 v1).length) from (flat_setl c3_len (by first | omega | (simp only [Lt]; omega)) (o := 0) (Nb rfl))), .i v2 (a0.2.length), .L c40_len a0.2 v2 2 1, .i v2 (a0.2.length), .L c40_len a0.2 v2 3 1, .u 200, .T, .i 0 2 (by decide)]
    cases h1 : (decide (((a0.2.getD (toNat v2) default).2.2.1 : Int) > v2)) with
    | true =>
     have q1 := odt h1
     let t2 : List (St Try.prog) := (t1 ++ [.d h1])
     cases h2 : (decide (((a0.2.getD (toNat v2) default).2.2.1 : Int) < (v1.length : Int))) with
     | true =>
      have q2 := odt h2
      let t3 : List (St Try.prog) := (t2 ++ [.d h2, .i v2 (v1.length), .R c3_len (v1.set (toNat v2) 1) v2 0 1 (show (splice (flat c3 v1) (0 + toNat v2 * 1) [(iv 1)]) = flat c3 (v1.set (toNat v2) 1) from (flat_set c3_len (by first | omega | (simp only [Lt]; omega)) (o := 0) (d := default) (Nb rfl) rfl)), .i ((a0.2.getD (toNat v2) default).2.2.1) (v1.length), .R c3_len (v1.set (toNat v2) 1) (a0.2.getD (toNat v2) default).2.2.1 0 1 (show (splice (flat c3 v1) (0 + toNat v2 * 1) [(iv 1)]) = flat c3 (v1.set (toNat v2) 1) from (flat_set c3_len (by first | omega | (simp only [Lt]; omega)) (o := 0) (d := default) (Nb rfl) rfl)), .i v2 (v1.length), .p (show ((0 + toNat v2 * 1) + 1 ≤ (splice (flat c3 v1) (0 + toNat v2 * 1) [(iv 1)]).length) from (by rw [show (splice (flat c3 v1) (0 + toNat v2 * 1) [(iv 1)]) = flat c3 (v1.set (toNat v2) 1) from (flat_set c3_len (by first | omega | (simp only [Lt]; omega)) (o := 0) (d := default) (Nb rfl) rfl)]; exact flat_setl c3_len (by first | omega | (simp only [Lt]; omega)) (o := 0) (Nb rfl))), .u 0, .T, .i 1 2 (by decide)])
      cases h3 : (decide (((a0.2.getD (toNat v2) default).2.2.2.1 : Int) > v2)) with
      | true =>
       have q3 := odt h3
       let t4 : List (St Try.prog) := (t3 ++ [.d h3])
       cases h4 : (decide (((a0.2.getD (toNat v2) default).2.2.2.1 : Int) < (v1.length : Int))) with
       | true =>
        have q4 := odt h4
        have e := Eq.refl (S18_0 a0 (v1, v2)); conv at e => rhs; simp only [S18_0, h0, h1, h2, h3, h4, cdb]
        rw [loopF_inl e]
        refine ba (t4 ++ [.d h4, .i v2 (v1.length), .R c3_len ((v1.set (toNat v2) 1).set (toNat v2) (imx ((v1.set (toNat v2) 1).getD (toNat v2) default) (W (((v1.set (toNat v2) 1).getD (toNat (a0.2.getD (toNat v2) default).2.2.1) default) + 1)))) v2 0 1 (show (splice (splice (flat c3 v1) (0 + toNat v2 * 1) [(iv 1)]) (0 + toNat v2 * 1) [(iv (imx ((v1.set (toNat v2) 1).getD (toNat v2) default) (W (((v1.set (toNat v2) 1).getD (toNat (a0.2.getD (toNat v2) default).2.2.1) default) + 1))))]) = flat c3 ((v1.set (toNat v2) 1).set (toNat v2) (imx ((v1.set (toNat v2) 1).getD (toNat v2) default) (W (((v1.set (toNat v2) 1).getD (toNat (a0.2.getD (toNat v2) default).2.2.1) default) + 1)))) from (by rw [show (splice (flat c3 v1) (0 + toNat v2 * 1) [(iv 1)]) = flat c3 (v1.set (toNat v2) 1) from (flat_set c3_len (by first | omega | (simp only [Lt]; omega)) (o := 0) (d := default) (Nb rfl) rfl)]; exact flat_set c3_len (by first | omega | (simp only [Lt]; omega)) (o := 0) (d := default) (Nb rfl) rfl)), .i ((a0.2.getD (toNat v2) default).2.2.2.1) (v1.length), .R c3_len ((v1.set (toNat v2) 1).set (toNat v2) (imx ((v1.set (toNat v2) 1).getD (toNat v2) default) (W (((v1.set (toNat v2) 1).getD (toNat (a0.2.getD (toNat v2) default).2.2.1) default) + 1)))) (a0.2.getD (toNat v2) default).2.2.2.1 0 1 (show (splice (splice (flat c3 v1) (0 + toNat v2 * 1) [(iv 1)]) (0 + toNat v2 * 1) [(iv (imx ((v1.set (toNat v2) 1).getD (toNat v2) default) (W (((v1.set (toNat v2) 1).getD (toNat (a0.2.getD (toNat v2) default).2.2.1) default) + 1))))]) = flat c3 ((v1.set (toNat v2) 1).set (toNat v2) (imx ((v1.set (toNat v2) 1).getD (toNat v2) default) (W (((v1.set (toNat v2) 1).getD (toNat (a0.2.getD (toNat v2) default).2.2.1) default) + 1)))) from (by rw [show (splice (flat c3 v1) (0 + toNat v2 * 1) [(iv 1)]) = flat c3 (v1.set (toNat v2) 1) from (flat_set c3_len (by first | omega | (simp only [Lt]; omega)) (o := 0) (d := default) (Nb rfl) rfl)]; exact flat_set c3_len (by first | omega | (simp only [Lt]; omega)) (o := 0) (d := default) (Nb rfl) rfl)), .i v2 (v1.length), .p (show ((0 + toNat v2 * 1) + 1 ≤ (splice (splice (flat c3 v1) (0 + toNat v2 * 1) [(iv 1)]) (0 + toNat v2 * 1) [(iv (imx ((v1.set (toNat v2) 1).getD (toNat v2) default) (W (((v1.set (toNat v2) 1).getD (toNat (a0.2.getD (toNat v2) default).2.2.1) default) + 1))))]).length) from (by rw [show (splice (splice (flat c3 v1) (0 + toNat v2 * 1) [(iv 1)]) (0 + toNat v2 * 1) [(iv (imx ((v1.set (toNat v2) 1).getD (toNat v2) default) (W (((v1.set (toNat v2) 1).getD (toNat (a0.2.getD (toNat v2) default).2.2.1) default) + 1))))]) = flat c3 ((v1.set (toNat v2) 1).set (toNat v2) (imx ((v1.set (toNat v2) 1).getD (toNat v2) default) (W (((v1.set (toNat v2) 1).getD (toNat (a0.2.getD (toNat v2) default).2.2.1) default) + 1)))) from (by rw [show (splice (flat c3 v1) (0 + toNat v2 * 1) [(iv 1)]) = flat c3 (v1.set (toNat v2) 1) from (flat_set c3_len (by first | omega | (simp only [Lt]; omega)) (o := 0) (d := default) (Nb rfl) rfl)]; exact flat_set c3_len (by first | omega | (simp only [Lt]; omega)) (o := 0) (d := default) (Nb rfl) rfl)]; exact flat_setl c3_len (by first | omega | (simp only [Lt]; omega)) (o := 0) (Nb rfl))), .u 0, .F]) [] [1, 3, 4] [2, 3] hcx (m := n) B18_0 (K18_0) (st18_0 a0 (splice (splice (splice (flat c3 v1) (0 + toNat v2 * 1) [(iv 1)]) (0 + toNat v2 * 1) [(iv (imx ((v1.set (toNat v2) 1).getD (toNat v2) default) (W (((v1.set (toNat v2) 1).getD (toNat (a0.2.getD (toNat v2) default).2.2.1) default) + 1))))]) (0 + toNat v2 * 1) [(iv (imx (((v1.set (toNat v2) 1).set (toNat v2) (imx ((v1.set (toNat v2) 1).getD (toNat v2) default) (W (((v1.set (toNat v2) 1).getD (toNat (a0.2.getD (toNat v2) default).2.2.1) default) + 1)))).getD (toNat v2) default) (W ((((v1.set (toNat v2) 1).set (toNat v2) (imx ((v1.set (toNat v2) 1).getD (toNat v2) default) (W (((v1.set (toNat v2) 1).getD (toNat (a0.2.getD (toNat v2) default).2.2.1) default) + 1)))).getD (toNat (a0.2.getD (toNat v2) default).2.2.2.1) default) + 1))))]) (v1.length) (W (v2 - 1))) (by kernel_rfl) ?_
        have z0 : (splice (splice (splice (flat c3 v1) (0 + toNat v2 * 1) [(iv 1)]) (0 + toNat v2 * 1) [(iv (imx ((v1.set (toNat v2) 1).getD (toNat v2) default) (W (((v1.set (toNat v2) 1).getD (toNat (a0.2.getD (toNat v2) default).2.2.1) default) + 1))))]) (0 + toNat v2 * 1) [(iv (imx (((v1.set (toNat v2) 1).set (toNat v2) (imx ((v1.set (toNat v2) 1).getD (toNat v2) default) (W (((v1.set (toNat v2) 1).getD (toNat (a0.2.getD (toNat v2) default).2.2.1) default) + 1)))).getD (toNat v2) default) (W ((((v1.set (toNat v2) 1).set (toNat v2) (imx ((v1.set (toNat v2) 1).getD (toNat v2) default) (W (((v1.set (toNat v2) 1).getD (toNat (a0.2.getD (toNat v2) default).2.2.1) default) + 1)))).getD (toNat (a0.2.getD (toNat v2) default).2.2.2.1) default) + 1))))]) = flat c3 (((v1.set (toNat v2) 1).set (toNat v2) (imx ((v1.set (toNat v2) 1).getD (toNat v2) default) (W (((v1.set (toNat v2) 1).getD (toNat (a0.2.getD (toNat v2) default).2.2.1) default) + 1)))).set (toNat v2) (imx (((v1.set (toNat v2) 1).set (toNat v2) (imx ((v1.set (toNat v2) 1).getD (toNat v2) default) (W (((v1.set (toNat v2) 1).getD (toNat (a0.2.getD (toNat v2) default).2.2.1) default) + 1)))).getD (toNat v2) default) (W ((((v1.set (toNat v2) 1).set (toNat v2) (imx ((v1.set (toNat v2) 1).getD (toNat v2) default) (W (((v1.set (toNat v2) 1).getD (toNat (a0.2.getD (toNat v2) default).2.2.1) default) + 1)))).getD (toNat (a0.2.getD (toNat v2) default).2.2.2.1) default) + 1)))) := (by rw [show (splice (splice (flat c3 v1) (0 + toNat v2 * 1) [(iv 1)]) (0 + toNat v2 * 1) [(iv (imx ((v1.set (toNat v2) 1).getD (toNat v2) default) (W (((v1.set (toNat v2) 1).getD (toNat (a0.2.getD (toNat v2) default).2.2.1) default) + 1))))]) = flat c3 ((v1.set (toNat v2) 1).set (toNat v2) (imx ((v1.set (toNat v2) 1).getD (toNat v2) default) (W (((v1.set (toNat v2) 1).getD (toNat (a0.2.getD (toNat v2) default).2.2.1) default) + 1)))) from (by rw [show (splice (flat c3 v1) (0 + toNat v2 * 1) [(iv 1)]) = flat c3 (v1.set (toNat v2) 1) from (flat_set c3_len (by first | omega | (simp only [Lt]; omega)) (o := 0) (d := default) (Nb rfl) rfl)]; exact flat_set c3_len (by first | omega | (simp only [Lt]; omega)) (o := 0) (d := default) (Nb rfl) rfl)]; exact flat_set c3_len (by first | omega | (simp only [Lt]; omega)) (o := 0) (d := default) (Nb rfl) rfl)
        have z1 : v1.length = (((v1.set (toNat v2) 1).set (toNat v2) (imx ((v1.set (toNat v2) 1).getD (toNat v2) default) (W (((v1.set (toNat v2) 1).getD (toNat (a0.2.getD (toNat v2) default).2.2.1) default) + 1)))).set (toNat v2) (imx (((v1.set (toNat v2) 1).set (toNat v2) (imx ((v1.set (toNat v2) 1).getD (toNat v2) default) (W (((v1.set (toNat v2) 1).getD (toNat (a0.2.getD (toNat v2) default).2.2.1) default) + 1)))).getD (toNat v2) default) (W ((((v1.set (toNat v2) 1).set (toNat v2) (imx ((v1.set (toNat v2) 1).getD (toNat v2) default) (W (((v1.set (toNat v2) 1).getD (toNat (a0.2.getD (toNat v2) default).2.2.1) default) + 1)))).getD (toNat (a0.2.getD (toNat v2) default).2.2.2.1) default) + 1)))).length := by simp
        rw [z0, z1]
        exact ih (((v1.set (toNat v2) 1).set (toNat v2) (imx ((v1.set (toNat v2) 1).getD (toNat v2) default) (W (((v1.set (toNat v2) 1).getD (toNat (a0.2.getD (toNat v2) default).2.2.1) default) + 1)))).set (toNat v2) (imx (((v1.set (toNat v2) 1).set (toNat v2) (imx ((v1.set (toNat v2) 1).getD (toNat v2) default) (W (((v1.set (toNat v2) 1).getD (toNat (a0.2.getD (toNat v2) default).2.2.1) default) + 1)))).getD (toNat v2) default) (W ((((v1.set (toNat v2) 1).set (toNat v2) (imx ((v1.set (toNat v2) 1).getD (toNat v2) default) (W (((v1.set (toNat v2) 1).getD (toNat (a0.2.getD (toNat v2) default).2.2.1) default) + 1)))).getD (toNat (a0.2.getD (toNat v2) default).2.2.2.1) default) + 1)))) (W (v2 - 1)) (by refine ⟨?_, ?_, ?_⟩ <;> (try simp only [Ls]) <;> first | omega | assumption | simp) (by (try simp only [Ls]); omega)
       | false =>
        have q4 := odf h4
        have e := Eq.refl (S18_0 a0 (v1, v2)); conv at e => rhs; simp only [S18_0, h0, h1, h2, h3, h4, cdb]
        rw [loopF_inl e]
        refine ba (t4 ++ [.d h4, .u 0, .F]) [] [1, 3, 4] [2, 3] hcx (m := n) B18_0 (K18_0) (st18_0 a0 (splice (splice (flat c3 v1) (0 + toNat v2 * 1) [(iv 1)]) (0 + toNat v2 * 1) [(iv (imx ((v1.set (toNat v2) 1).getD (toNat v2) default) (W (((v1.set (toNat v2) 1).getD (toNat (a0.2.getD (toNat v2) default).2.2.1) default) + 1))))]) (v1.length) (W (v2 - 1))) (by kernel_rfl) ?_
        have z0 : (splice (splice (flat c3 v1) (0 + toNat v2 * 1) [(iv 1)]) (0 + toNat v2 * 1) [(iv (imx ((v1.set (toNat v2) 1).getD (toNat v2) default) (W (((v1.set (toNat v2) 1).getD (toNat (a0.2.getD (toNat v2) default).2.2.1) default) + 1))))]) = flat c3 ((v1.set (toNat v2) 1).set (toNat v2) (imx ((v1.set (toNat v2) 1).getD (toNat v2) default) (W (((v1.set (toNat v2) 1).getD (toNat (a0.2.getD (toNat v2) default).2.2.1) default) + 1)))) := (by rw [show (splice (flat c3 v1) (0 + toNat v2 * 1) [(iv 1)]) = flat c3 (v1.set (toNat v2) 1) from (flat_set c3_len (by first | omega | (simp only [Lt]; omega)) (o := 0) (d := default) (Nb rfl) rfl)]; exact flat_set c3_len (by first | omega | (simp only [Lt]; omega)) (o := 0) (d := default) (Nb rfl) rfl)
        have z1 : v1.length = ((v1.set (toNat v2) 1).set (toNat v2) (imx ((v1.set (toNat v2) 1).getD (toNat v2) default) (W (((v1.set (toNat v2) 1).getD (toNat (a0.2.getD (toNat v2) default).2.2.1) default) + 1)))).length := by simp
        rw [z0, z1]
        exact ih ((v1.set (toNat v2) 1).set (toNat v2) (imx ((v1.set (toNat v2) 1).getD (toNat v2) default) (W (((v1.set (toNat v2) 1).getD (toNat (a0.2.getD (toNat v2) default).2.2.1) default) + 1)))) (W (v2 - 1)) (by refine ⟨?_, ?_, ?_⟩ <;> (try simp only [Ls]) <;> first | omega | assumption | simp) (by (try simp only [Ls]); omega)
      | false =>
       have q3 := odf h3
       have e := Eq.refl (S18_0 a0 (v1, v2)); conv at e => rhs; simp only [S18_0, h0, h1, h2, h3, cdb]
       rw [loopF_inl e]
       refine ba (t3 ++ [.d h3, .u 0, .F]) [] [1, 3, 4] [2, 3] hcx (m := n) B18_0 (K18_0) (st18_0 a0 (splice (splice (flat c3 v1) (0 + toNat v2 * 1) [(iv 1)]) (0 + toNat v2 * 1) [(iv (imx ((v1.set (toNat v2) 1).getD (toNat v2) default) (W (((v1.set (toNat v2) 1).getD (toNat (a0.2.getD (toNat v2) default).2.2.1) default) + 1))))]) (v1.length) (W (v2 - 1))) (by kernel_rfl) ?_
       have z0 : (splice (splice (flat c3 v1) (0 + toNat v2 * 1) [(iv 1)]) (0 + toNat v2 * 1) [(iv (imx ((v1.set (toNat v2) 1).getD (toNat v2) default) (W (((v1.set (toNat v2) 1).getD (toNat (a0.2.getD (toNat v2) default).2.2.1) default) + 1))))]) = flat c3 ((v1.set (toNat v2) 1).set (toNat v2) (imx ((v1.set (toNat v2) 1).getD (toNat v2) default) (W (((v1.set (toNat v2) 1).getD (toNat (a0.2.getD (toNat v2) default).2.2.1) default) + 1)))) := (by rw [show (splice (flat c3 v1) (0 + toNat v2 * 1) [(iv 1)]) = flat c3 (v1.set (toNat v2) 1) from (flat_set c3_len (by first | omega | (simp only [Lt]; omega)) (o := 0) (d := default) (Nb rfl) rfl)]; exact flat_set c3_len (by first | omega | (simp only [Lt]; omega)) (o := 0) (d := default) (Nb rfl) rfl)
       have z1 : v1.length = ((v1.set (toNat v2) 1).set (toNat v2) (imx ((v1.set (toNat v2) 1).getD (toNat v2) default) (W (((v1.set (toNat v2) 1).getD (toNat (a0.2.getD (toNat v2) default).2.2.1) default) + 1)))).length := by simp
       rw [z0, z1]
       exact ih ((v1.set (toNat v2) 1).set (toNat v2) (imx ((v1.set (toNat v2) 1).getD (toNat v2) default) (W (((v1.set (toNat v2) 1).getD (toNat (a0.2.getD (toNat v2) default).2.2.1) default) + 1)))) (W (v2 - 1)) (by refine ⟨?_, ?_, ?_⟩ <;> (try simp only [Ls]) <;> first | omega | assumption | simp) (by (try simp only [Ls]); omega)
     | false =>
      have q2 := odf h2
      let t3 : List (St Try.prog) := (t2 ++ [.d h2, .u 0, .T, .i 1 2 (by decide)])
      cases h3 : (decide (((a0.2.getD (toNat v2) default).2.2.2.1 : Int) > v2)) with
      | true =>
       have q3 := odt h3
       let t4 : List (St Try.prog) := (t3 ++ [.d h3])
       cases h4 : (decide (((a0.2.getD (toNat v2) default).2.2.2.1 : Int) < (v1.length : Int))) with
       | true =>
        have q4 := odt h4
        have e := Eq.refl (S18_0 a0 (v1, v2)); conv at e => rhs; simp only [S18_0, h0, h1, h2, h3, h4, cdb]
        rw [loopF_inl e]
        refine ba (t4 ++ [.d h4, .i v2 (v1.length), .R c3_len (v1.set (toNat v2) 1) v2 0 1 (show (splice (flat c3 v1) (0 + toNat v2 * 1) [(iv 1)]) = flat c3 (v1.set (toNat v2) 1) from (flat_set c3_len (by first | omega | (simp only [Lt]; omega)) (o := 0) (d := default) (Nb rfl) rfl)), .i ((a0.2.getD (toNat v2) default).2.2.2.1) (v1.length), .R c3_len (v1.set (toNat v2) 1) (a0.2.getD (toNat v2) default).2.2.2.1 0 1 (show (splice (flat c3 v1) (0 + toNat v2 * 1) [(iv 1)]) = flat c3 (v1.set (toNat v2) 1) from (flat_set c3_len (by first | omega | (simp only [Lt]; omega)) (o := 0) (d := default) (Nb rfl) rfl)), .i v2 (v1.length), .p (show ((0 + toNat v2 * 1) + 1 ≤ (splice (flat c3 v1) (0 + toNat v2 * 1) [(iv 1)]).length) from (by rw [show (splice (flat c3 v1) (0 + toNat v2 * 1) [(iv 1)]) = flat c3 (v1.set (toNat v2) 1) from (flat_set c3_len (by first | omega | (simp only [Lt]; omega)) (o := 0) (d := default) (Nb rfl) rfl)]; exact flat_setl c3_len (by first | omega | (simp only [Lt]; omega)) (o := 0) (Nb rfl))), .u 0, .F]) [] [1, 3, 4] [2, 3] hcx (m := n) B18_0 (K18_0) (st18_0 a0 (splice (splice (flat c3 v1) (0 + toNat v2 * 1) [(iv 1)]) (0 + toNat v2 * 1) [(iv (imx ((v1.set (toNat v2) 1).getD (toNat v2) default) (W (((v1.set (toNat v2) 1).getD (toNat (a0.2.getD (toNat v2) default).2.2.2.1) default) + 1))))]) (v1.length) (W (v2 - 1))) (by kernel_rfl) ?_
        have z0 : (splice (splice (flat c3 v1) (0 + toNat v2 * 1) [(iv 1)]) (0 + toNat v2 * 1) [(iv (imx ((v1.set (toNat v2) 1).getD (toNat v2) default) (W (((v1.set (toNat v2) 1).getD (toNat (a0.2.getD (toNat v2) default).2.2.2.1) default) + 1))))]) = flat c3 ((v1.set (toNat v2) 1).set (toNat v2) (imx ((v1.set (toNat v2) 1).getD (toNat v2) default) (W (((v1.set (toNat v2) 1).getD (toNat (a0.2.getD (toNat v2) default).2.2.2.1) default) + 1)))) := (by rw [show (splice (flat c3 v1) (0 + toNat v2 * 1) [(iv 1)]) = flat c3 (v1.set (toNat v2) 1) from (flat_set c3_len (by first | omega | (simp only [Lt]; omega)) (o := 0) (d := default) (Nb rfl) rfl)]; exact flat_set c3_len (by first | omega | (simp only [Lt]; omega)) (o := 0) (d := default) (Nb rfl) rfl)
        have z1 : v1.length = ((v1.set (toNat v2) 1).set (toNat v2) (imx ((v1.set (toNat v2) 1).getD (toNat v2) default) (W (((v1.set (toNat v2) 1).getD (toNat (a0.2.getD (toNat v2) default).2.2.2.1) default) + 1)))).length := by simp
        rw [z0, z1]
        exact ih ((v1.set (toNat v2) 1).set (toNat v2) (imx ((v1.set (toNat v2) 1).getD (toNat v2) default) (W (((v1.set (toNat v2) 1).getD (toNat (a0.2.getD (toNat v2) default).2.2.2.1) default) + 1)))) (W (v2 - 1)) (by refine ⟨?_, ?_, ?_⟩ <;> (try simp only [Ls]) <;> first | omega | assumption | simp) (by (try simp only [Ls]); omega)
       | false =>
        have q4 := odf h4
        have e := Eq.refl (S18_0 a0 (v1, v2)); conv at e => rhs; simp only [S18_0, h0, h1, h2, h3, h4, cdb]
        rw [loopF_inl e]
        refine ba (t4 ++ [.d h4, .u 0, .F]) [] [1, 3, 4] [2, 3] hcx (m := n) B18_0 (K18_0) (st18_0 a0 (splice (flat c3 v1) (0 + toNat v2 * 1) [(iv 1)]) (v1.length) (W (v2 - 1))) (by kernel_rfl) ?_
        have z0 : (splice (flat c3 v1) (0 + toNat v2 * 1) [(iv 1)]) = flat c3 (v1.set (toNat v2) 1) := (flat_set c3_len (by first | omega | (simp only [Lt]; omega)) (o := 0) (d := default) (Nb rfl) rfl)
        have z1 : v1.length = (v1.set (toNat v2) 1).length := by simp
        rw [z0, z1]
        exact ih (v1.set (toNat v2) 1) (W (v2 - 1)) (by refine ⟨?_, ?_, ?_⟩ <;> (try simp only [Ls]) <;> first | omega | assumption | simp) (by (try simp only [Ls]); omega)
      | false =>
       have q3 := odf h3
       have e := Eq.refl (S18_0 a0 (v1, v2)); conv at e => rhs; simp only [S18_0, h0, h1, h2, h3, cdb]
       rw [loopF_inl e]
       refine ba (t3 ++ [.d h3, .u 0, .F]) [] [1, 3, 4] [2, 3] hcx (m := n) B18_0 (K18_0) (st18_0 a0 (splice (flat c3 v1) (0 + toNat v2 * 1) [(iv 1)]) (v1.length) (W (v2 - 1))) (by kernel_rfl) ?_
       have z0 : (splice (flat c3 v1) (0 + toNat v2 * 1) [(iv 1)]) = flat c3 (v1.set (toNat v2) 1) := (flat_set c3_len (by first | omega | (simp only [Lt]; omega)) (o := 0) (d := default) (Nb rfl) rfl)
       have z1 : v1.length = (v1.set (toNat v2) 1).length := by simp
       rw [z0, z1]
       exact ih (v1.set (toNat v2) 1) (W (v2 - 1)) (by refine ⟨?_, ?_, ?_⟩ <;> (try simp only [Ls]) <;> first | omega | assumption | simp) (by (try simp only [Ls]); omega)
    | false =>
     have q1 := odf h1
     let t2 : List (St Try.prog) := (t1 ++ [.d h1, .u 0, .T, .i 1 2 (by decide)])
     cases h2 : (decide (((a0.2.getD (toNat v2) default).2.2.2.1 : Int) > v2)) with
     | true =>
      have q2 := odt h2
      let t3 : List (St Try.prog) := (t2 ++ [.d h2])
      cases h3 : (decide (((a0.2.getD (toNat v2) default).2.2.2.1 : Int) < (v1.length : Int))) with
      | true =>
       have q3 := odt h3
       have e := Eq.refl (S18_0 a0 (v1, v2)); conv at e => rhs; simp only [S18_0, h0, h1, h2, h3, cdb]
       rw [loopF_inl e]
       refine ba (t3 ++ [.d h3, .i v2 (v1.length), .R c3_len (v1.set (toNat v2) 1) v2 0 1 (show (splice (flat c3 v1) (0 + toNat v2 * 1) [(iv 1)]) = flat c3 (v1.set (toNat v2) 1) from (flat_set c3_len (by first | omega | (simp only [Lt]; omega)) (o := 0) (d := default) (Nb rfl) rfl)), .i ((a0.2.getD (toNat v2) default).2.2.2.1) (v1.length), .R c3_len (v1.set (toNat v2) 1) (a0.2.getD (toNat v2) default).2.2.2.1 0 1 (show (splice (flat c3 v1) (0 + toNat v2 * 1) [(iv 1)]) = flat c3 (v1.set (toNat v2) 1) from (flat_set c3_len (by first | omega | (simp only [Lt]; omega)) (o := 0) (d := default) (Nb rfl) rfl)), .i v2 (v1.length), .p (show ((0 + toNat v2 * 1) + 1 ≤ (splice (flat c3 v1) (0 + toNat v2 * 1) [(iv 1)]).length) from (by rw [show (splice (flat c3 v1) (0 + toNat v2 * 1) [(iv 1)]) = flat c3 (v1.set (toNat v2) 1) from (flat_set c3_len (by first | omega | (simp only [Lt]; omega)) (o := 0) (d := default) (Nb rfl) rfl)]; exact flat_setl c3_len (by first | omega | (simp only [Lt]; omega)) (o := 0) (Nb rfl))), .u 0, .F]) [] [1, 3, 4] [2, 3] hcx (m := n) B18_0 (K18_0) (st18_0 a0 (splice (splice (flat c3 v1) (0 + toNat v2 * 1) [(iv 1)]) (0 + toNat v2 * 1) [(iv (imx ((v1.set (toNat v2) 1).getD (toNat v2) default) (W (((v1.set (toNat v2) 1).getD (toNat (a0.2.getD (toNat v2) default).2.2.2.1) default) + 1))))]) (v1.length) (W (v2 - 1))) (by kernel_rfl) ?_
       have z0 : (splice (splice (flat c3 v1) (0 + toNat v2 * 1) [(iv 1)]) (0 + toNat v2 * 1) [(iv (imx ((v1.set (toNat v2) 1).getD (toNat v2) default) (W (((v1.set (toNat v2) 1).getD (toNat (a0.2.getD (toNat v2) default).2.2.2.1) default) + 1))))]) = flat c3 ((v1.set (toNat v2) 1).set (toNat v2) (imx ((v1.set (toNat v2) 1).getD (toNat v2) default) (W (((v1.set (toNat v2) 1).getD (toNat (a0.2.getD (toNat v2) default).2.2.2.1) default) + 1)))) := (by rw [show (splice (flat c3 v1) (0 + toNat v2 * 1) [(iv 1)]) = flat c3 (v1.set (toNat v2) 1) from (flat_set c3_len (by first | omega | (simp only [Lt]; omega)) (o := 0) (d := default) (Nb rfl) rfl)]; exact flat_set c3_len (by first | omega | (simp only [Lt]; omega)) (o := 0) (d := default) (Nb rfl) rfl)
       have z1 : v1.length = ((v1.set (toNat v2) 1).set (toNat v2) (imx ((v1.set (toNat v2) 1).getD (toNat v2) default) (W (((v1.set (toNat v2) 1).getD (toNat (a0.2.getD (toNat v2) default).2.2.2.1) default) + 1)))).length := by simp
       rw [z0, z1]
       exact ih ((v1.set (toNat v2) 1).set (toNat v2) (imx ((v1.set (toNat v2) 1).getD (toNat v2) default) (W (((v1.set (toNat v2) 1).getD (toNat (a0.2.getD (toNat v2) default).2.2.2.1) default) + 1)))) (W (v2 - 1)) (by refine ⟨?_, ?_, ?_⟩ <;> (try simp only [Ls]) <;> first | omega | assumption | simp) (by (try simp only [Ls]); omega)
      | false =>
       have q3 := odf h3
       have e := Eq.refl (S18_0 a0 (v1, v2)); conv at e => rhs; simp only [S18_0, h0, h1, h2, h3, cdb]
       rw [loopF_inl e]
       refine ba (t3 ++ [.d h3, .u 0, .F]) [] [1, 3, 4] [2, 3] hcx (m := n) B18_0 (K18_0) (st18_0 a0 (splice (flat c3 v1) (0 + toNat v2 * 1) [(iv 1)]) (v1.length) (W (v2 - 1))) (by kernel_rfl) ?_
       have z0 : (splice (flat c3 v1) (0 + toNat v2 * 1) [(iv 1)]) = flat c3 (v1.set (toNat v2) 1) := (flat_set c3_len (by first | omega | (simp only [Lt]; omega)) (o := 0) (d := default) (Nb rfl) rfl)
       have z1 : v1.length = (v1.set (toNat v2) 1).length := by simp
       rw [z0, z1]
       exact ih (v1.set (toNat v2) 1) (W (v2 - 1)) (by refine ⟨?_, ?_, ?_⟩ <;> (try simp only [Ls]) <;> first | omega | assumption | simp) (by (try simp only [Ls]); omega)
     | false =>
      have q2 := odf h2
      have e := Eq.refl (S18_0 a0 (v1, v2)); conv at e => rhs; simp only [S18_0, h0, h1, h2, cdb]
      rw [loopF_inl e]
      refine ba (t2 ++ [.d h2, .u 0, .F]) [] [1, 3, 4] [2, 3] hcx (m := n) B18_0 (K18_0) (st18_0 a0 (splice (flat c3 v1) (0 + toNat v2 * 1) [(iv 1)]) (v1.length) (W (v2 - 1))) (by kernel_rfl) ?_
      have z0 : (splice (flat c3 v1) (0 + toNat v2 * 1) [(iv 1)]) = flat c3 (v1.set (toNat v2) 1) := (flat_set c3_len (by first | omega | (simp only [Lt]; omega)) (o := 0) (d := default) (Nb rfl) rfl)
      have z1 : v1.length = (v1.set (toNat v2) 1).length := by simp
      rw [z0, z1]
      exact ih (v1.set (toNat v2) 1) (W (v2 - 1)) (by refine ⟨?_, ?_, ?_⟩ <;> (try simp only [Ls]) <;> first | omega | assumption | simp) (by (try simp only [Ls]); omega)
   | false =>
    have q0 := odf h0
    let t1 : List (St Try.prog) := [.d h0]
    cases h1 : (((v1.length : Int) : Int) == 0) with
    | true =>
     have q1 := eq_of_beq h1
     have e := Eq.refl (S18_0 a0 (v1, v2)); conv at e => rhs; simp only [S18_0, h0, h1, cdb]
     rw [loopF_s, e]
     exact rt (t1 ++ [.d h1]) [] [] hcx (by kernel_rfl)
    | false =>
     have q1 := ne_of_beq_false h1
     have e := Eq.refl (S18_0 a0 (v1, v2)); conv at e => rhs; simp only [S18_0, h0, h1, cdb]
     rw [loopF_s, e]
     exact rt (t1 ++ [.d h1, .i 0 (v1.length), .L c3_len v1 0 0 1]) [] [] hcx (by kernel_rfl)

def F18 (a0 : List (Int) × TyN) : Int :=
 (loopF (S18_0 a0) (toNat ((W ((a0.2.length : Int) - 1)) + 1) + 1) ((List.replicate (toNat (a0.2.length : Int)) 0), (W ((a0.2.length : Int) - 1))))

theorem C18 (a0 : List (Int) × TyN) (l0_1 : a0.1.length ≤ 9223372036854775807) (l0_2 : a0.2.length ≤ 9223372036854775807) (hl : a0.2.length ≤ 1048576) : Con Try.prog 18 [(.a [(.s 0 0 a0.1.length 1), (.s 1 0 a0.2.length 8)])] [(.live false true (flat c3 a0.1)), (.live false true (flat c40 a0.2))] (iv (F18 a0)) [] := by
 refine con_s Try.func18 (by kernel_rfl) fun cx hcx => ?_
 have hw_i := W_eq (n := (a0.2.length : Int) - 1) (by omega) (by omega)
 have e := Eq.refl (F18 a0); conv at e => rhs; simp only [F18]
 rw [e]
 refine en [.Z c3 0 [(iv 0)] (a0.2.length : Int) 8] [] [1, 3, 4] [2, 3] hcx B18_0 (K18_0) (st18_0 a0 (flat c3 (List.replicate (toNat (a0.2.length : Int)) 0)) (toNat (a0.2.length : Int)) (W ((a0.2.length : Int) - 1))) (toNat ((W ((a0.2.length : Int) - 1)) + 1) + 1) (by kernel_rfl) ?_
 have q := L18_0 a0 l0_1 l0_2 hl hcx (toNat ((W ((a0.2.length : Int) - 1)) + 1) + 1) (List.replicate (toNat (a0.2.length : Int)) 0) (W ((a0.2.length : Int) - 1)) (by refine ⟨?_, ?_, ?_⟩ <;> (try simp only [Ls]) <;> first | omega | assumption | simp) (by (try simp only [Ls]); omega)
 simp only [List.length_replicate] at q
 exact q


def F10 : Bool :=
 (bif (((F11_L F31 1).2 : Int) == 0) then
  (bif (((((F11_L F31 1).1.2.length : Nat) : Int) : Int) == 7) then
   (bif (((F18 ((F11_L F31 1).1.1, (F11_L F31 1).1.2)) : Int) == 3) then
    (bif (((F17 ((F11_L F31 1).1.1, (F11_L F31 1).1.2)) : Int) == 4) then
     (bif ((((F11_L F31 1).1.2.getD (toNat 0) default).2.2.1 : Int) == 1) then
      ((((F11_L F31 1).1.2.getD (toNat 0) default).2.2.2.1 : Int) == 4)
     else
      false)
    else
     false)
   else
    false)
  else
   false)
 else
  false)

theorem C10 : Con Try.prog 10 [] [] (.v (.bool F10)) [] := by
 refine con_s Try.func10 (by kernel_rfl) fun cx hcx => ?_
 have hrl : F31.length = 4 := by kernel_rfl
 have hbl : (F11_L F31 1).1.2.length = 7 := by kernel_rfl
 have hbo : (F11_L F31 1).1.1.length = 4 := by kernel_rfl
 let t0 : List (St Try.prog) := [.c [] (C31), .c [0] (C11_L F31 1 (by omega))]
 cases h0 : (((F11_L F31 1).2 : Int) == 0) with
 | true =>
  have q0 := eq_of_beq h0
  let t1 : List (St Try.prog) := (t0 ++ [.d h0])
  cases h1 : (((((F11_L F31 1).1.2.length : Nat) : Int) : Int) == 7) with
  | true =>
   have q1 := eq_of_beq h1
   let t2 : List (St Try.prog) := (t1 ++ [.d h1, .c [1, 2] (C18 ((F11_L F31 1).1.1, (F11_L F31 1).1.2) (by (try simp only [Lt]); omega) (by (try simp only [Lt]); omega) (by (try simp only [Lt]); omega))])
   cases h2 : (((F18 ((F11_L F31 1).1.1, (F11_L F31 1).1.2)) : Int) == 3) with
   | true =>
    have q2 := eq_of_beq h2
    let t3 : List (St Try.prog) := (t2 ++ [.d h2, .c [1, 2] (C17 ((F11_L F31 1).1.1, (F11_L F31 1).1.2) (by (try simp only [Lt]); omega) (by (try simp only [Lt]); omega) (by (try simp only [Lt]); omega))])
    cases h3 : (((F17 ((F11_L F31 1).1.1, (F11_L F31 1).1.2)) : Int) == 4) with
    | true =>
     have q3 := eq_of_beq h3
     let t4 : List (St Try.prog) := (t3 ++ [.d h3, .i 0 ((F11_L F31 1).1.2.length), .L c40_len (F11_L F31 1).1.2 0 2 1])
     cases h4 : ((((F11_L F31 1).1.2.getD (toNat 0) default).2.2.1 : Int) == 1) with
     | true =>
      have q4 := eq_of_beq h4
      have e := Eq.refl F10; conv at e => rhs; simp only [F10, h0, h1, h2, h3, h4, cdb]
      rw [e]
      exact rt (t4 ++ [.d h4, .i 0 ((F11_L F31 1).1.2.length), .L c40_len (F11_L F31 1).1.2 0 3 1]) [] [] hcx (by kernel_rfl)
     | false =>
      have q4 := ne_of_beq_false h4
      have e := Eq.refl F10; conv at e => rhs; simp only [F10, h0, h1, h2, h3, h4, cdb]
      rw [e]
      exact rt (t4 ++ [.d h4]) [] [] hcx (by kernel_rfl)
    | false =>
     have q3 := ne_of_beq_false h3
     have e := Eq.refl F10; conv at e => rhs; simp only [F10, h0, h1, h2, h3, cdb]
     rw [e]
     exact rt (t3 ++ [.d h3]) [] [] hcx (by kernel_rfl)
   | false =>
    have q2 := ne_of_beq_false h2
    have e := Eq.refl F10; conv at e => rhs; simp only [F10, h0, h1, h2, cdb]
    rw [e]
    exact rt (t2 ++ [.d h2]) [] [] hcx (by kernel_rfl)
  | false =>
   have q1 := ne_of_beq_false h1
   have e := Eq.refl F10; conv at e => rhs; simp only [F10, h0, h1, cdb]
   rw [e]
   exact rt (t1 ++ [.d h1]) [] [] hcx (by kernel_rfl)
 | false =>
  have q0 := ne_of_beq_false h0
  have e := Eq.refl F10; conv at e => rhs; simp only [F10, h0, cdb]
  rw [e]
  exact rt (t0 ++ [.d h0]) [] [] hcx (by kernel_rfl)

theorem sane_5 : F10 = true := by kernel_rfl


theorem win3_eq (n lo hi : Int) : F56 n lo hi = F59 n lo hi := by
 unfold F56 F59
 by_cases h1 : lo ≤ n <;> by_cases h2 : n ≤ hi <;> simp [h1, h2]
theorem vch_eq (l : List (PN × Int)) : F32_L l = F35_L l := by
 have e : S32_L_0 l = S35_L_0 l := by
   funext v
   simp only [S32_L_0, S35_L_0, vp_s, vp_r, win3_eq]
 unfold F32_L F35_L
 rw [e]
theorem vch_lenr {l : List (PN × Int)} (h : F35_L l = 0) : l.length ≤ 96 := vch_len (by rw [vch_eq]; exact h)


def F101 (a0 : Int × Int × Int) (a1 : Int) : Int :=
 (bif ((a1 : Int) == 0) then
  a0.1
 else
  (bif ((a1 : Int) == 1) then
   a0.2.1
  else
   a0.2.2))

theorem C101 (a0 : Int × Int × Int) (a1 : Int) : Con Try.prog 101 [(.a (k3 a0)), (iv a1)] [] (iv (F101 a0 a1)) [] := by
 refine con_s Try.func101 (by kernel_rfl) fun cx hcx => ?_
 cases h0 : ((a1 : Int) == 0) with
 | true =>
  have q0 := eq_of_beq h0
  have e := Eq.refl (F101 a0 a1); conv at e => rhs; simp only [F101, h0, cdb]
  rw [e]
  exact rt [.d h0] [] [] hcx (by kernel_rfl)
 | false =>
  have q0 := ne_of_beq_false h0
  let t1 : List (St Try.prog) := [.d h0]
  cases h1 : ((a1 : Int) == 1) with
  | true =>
   have q1 := eq_of_beq h1
   have e := Eq.refl (F101 a0 a1); conv at e => rhs; simp only [F101, h0, h1, cdb]
   rw [e]
   exact rt (t1 ++ [.d h1]) [] [] hcx (by kernel_rfl)
  | false =>
   have q1 := ne_of_beq_false h1
   have e := Eq.refl (F101 a0 a1); conv at e => rhs; simp only [F101, h0, h1, cdb]
   rw [e]
   exact rt (t1 ++ [.d h1]) [] [] hcx (by kernel_rfl)

def F104 (a0 : ((Int × Int × Int) × (Int × Int × Int) × Int × Int × Int) × Int) (a1 : Int) : Int :=
 (W ((W ((F101 a0.1.1 a1) + (F101 a0.1.2.1 a1))) + (F101 a0.1.2.2 a1)))

theorem C104 (a0 : ((Int × Int × Int) × (Int × Int × Int) × Int × Int × Int) × Int) (a1 : Int) : Con Try.prog 104 [(.a [(iv a0.1.1.1), (iv a0.1.1.2.1), (iv a0.1.1.2.2), (iv a0.1.2.1.1), (iv a0.1.2.1.2.1), (iv a0.1.2.1.2.2), (iv a0.1.2.2.1), (iv a0.1.2.2.2.1), (iv a0.1.2.2.2.2), (iv a0.2)]), (iv a1)] [] (iv (F104 a0 a1)) [] := by
 refine con_s Try.func104 (by kernel_rfl) fun cx hcx => ?_
 have e := Eq.refl (F104 a0 a1); conv at e => rhs; simp only [F104]
 rw [e]
 exact rt [.c [] (C101 a0.1.1 a1), .c [] (C101 a0.1.2.1 a1), .c [] (C101 a0.1.2.2 a1)] [] [] hcx (by kernel_rfl)

def F102 (a0 : Int) (a1 : Int) : Int :=
 (Int.fdiv (W (a0 + a1)) (2 ^ (min (toNat 1) 64)))

theorem C102 (a0 : Int) (a1 : Int) : Con Try.prog 102 [(iv a0), (iv a1)] [] (iv (F102 a0 a1)) [] := by
 refine con_s Try.func102 (by kernel_rfl) fun cx hcx => ?_
 have e := Eq.refl (F102 a0 a1); conv at e => rhs; simp only [F102]
 rw [e]
 exact rt [.p (show 0 ≤ (1 : Int) from by decide)] [] [] hcx (by kernel_rfl)

noncomputable def B80_L_L_0 : Code := (loopAtD [1, 1, 0, 1] [] (bodyOf Try.f80) []).1
noncomputable def K80_L_L_0 : List K := (loopAtD [1, 1, 0, 1] [] (bodyOf Try.f80) []).2

def st80_L_L_0 (a0 : TyL) (a1 : List (Int)) (a2 : Int) (v1 v2 v3 : Int) : LS := ⟨slN 56 [(0, (.s 0 0 a0.length 10)), (1, (.s 1 0 a1.length 1)), (2, (iv a2)), (7, (iv v1)), (8, (iv v2)), (9, (iv v3))], [(.live false true (flat c81 a0)), (.live false true (flat c3 a1))]⟩

def S80_L_L_0 (a0 : TyL) (a1 : List (Int)) (a2 : Int) : Int × Int × Int → (Int × Int × Int) ⊕ (Int)
 | (v1, v2, v3) =>
  (bif (decide ((v3 : Int) < (a1.length : Int))) then
   (.inl ((imn (imn (imn v1 (F101 (a0.getD (toNat (a1.getD (toNat v3) default)) default).1.1 a2)) (F101 (a0.getD (toNat (a1.getD (toNat v3) default)) default).1.2.1 a2)) (F101 (a0.getD (toNat (a1.getD (toNat v3) default)) default).1.2.2 a2)), (imx (imx (imx v2 (F101 (a0.getD (toNat (a1.getD (toNat v3) default)) default).1.1 a2)) (F101 (a0.getD (toNat (a1.getD (toNat v3) default)) default).1.2.1 a2)) (F101 (a0.getD (toNat (a1.getD (toNat v3) default)) default).1.2.2 a2)), (v3 + 1)))
  else
   (.inr (F102 v1 v2)))

theorem L80_L_L_0 (a0 : TyL) (a1 : List (Int)) (a2 : Int) (l0 : a0.length ≤ 9223372036854775807) (l1 : a1.length ≤ 9223372036854775807) (hir : InR a0.length a1) (hl : a1.length ≤ 1048576) {cx : Cx} (hcx : cx.base = 2) : ∀ (n : Nat) (v1 v2 v3 : Int), (0 ≤ v3) ∧ (v3 ≤ a1.length) → toNat ((a1.length : Int) - v3) < n → Aw.Good Try.prog none 9 (bodyPost Try.prog Try.f80 (RR cx (iv (loopF (S80_L_L_0 a0 a1 a2) n (v1, v2, v3))) [] [])) cx [] (.l B80_L_L_0 n :: K80_L_L_0) (st80_L_L_0 a0 a1 a2 v1 v2 v3) := by
 intro n
 induction n with
 | zero => intro v1 v2 v3 hi hn; exact absurd hn (nlz _)
 | succ n ih =>
   intro v1 v2 v3 hi hn
   refine good_round ?_
   try have hr1 := hir.at (i := toNat v3) (by have _ := h0; omega)
   cases h0 : (decide ((v3 : Int) < (a1.length : Int))) with
   | true =>
    have q0 := odt h0
    try have hr1 := hir.at (i := toNat v3) (by have _ := h0; omega)
    have e := Eq.refl (S80_L_L_0 a0 a1 a2 (v1, v2, v3)); conv at e => rhs; simp only [S80_L_L_0, h0, cdb]
    rw [loopF_inl e]
    refine ba [.d h0, .i v3 (a1.length), .L c3_len a1 v3 0 1, .i (a1.getD (toNat v3) default) (a0.length), .L c81_len a0 (a1.getD (toNat v3) default) 0 9, .c [] (C101 (a0.getD (toNat (a1.getD (toNat v3) default)) default).1.1 a2), .c [] (C101 (a0.getD (toNat (a1.getD (toNat v3) default)) default).1.2.1 a2), .c [] (C101 (a0.getD (toNat (a1.getD (toNat v3) default)) default).1.2.2 a2), .c [] (C101 (a0.getD (toNat (a1.getD (toNat v3) default)) default).1.1 a2), .c [] (C101 (a0.getD (toNat (a1.getD (toNat v3) default)) default).1.2.1 a2), .c [] (C101 (a0.getD (toNat (a1.getD (toNat v3) default)) default).1.2.2 a2)] [] [0, 1, 2, 7, 8, 9] [] hcx (m := n) B80_L_L_0 (K80_L_L_0) (st80_L_L_0 a0 a1 a2 (imn (imn (imn v1 (F101 (a0.getD (toNat (a1.getD (toNat v3) default)) default).1.1 a2)) (F101 (a0.getD (toNat (a1.getD (toNat v3) default)) default).1.2.1 a2)) (F101 (a0.getD (toNat (a1.getD (toNat v3) default)) default).1.2.2 a2)) (imx (imx (imx v2 (F101 (a0.getD (toNat (a1.getD (toNat v3) default)) default).1.1 a2)) (F101 (a0.getD (toNat (a1.getD (toNat v3) default)) default).1.2.1 a2)) (F101 (a0.getD (toNat (a1.getD (toNat v3) default)) default).1.2.2 a2)) (W (v3 + 1))) (by kernel_rfl) ?_
    have z0 : (W (v3 + 1)) = (v3 + 1) := W_eq (by omega) (by omega)
    rw [z0]
    exact ih (imn (imn (imn v1 (F101 (a0.getD (toNat (a1.getD (toNat v3) default)) default).1.1 a2)) (F101 (a0.getD (toNat (a1.getD (toNat v3) default)) default).1.2.1 a2)) (F101 (a0.getD (toNat (a1.getD (toNat v3) default)) default).1.2.2 a2)) (imx (imx (imx v2 (F101 (a0.getD (toNat (a1.getD (toNat v3) default)) default).1.1 a2)) (F101 (a0.getD (toNat (a1.getD (toNat v3) default)) default).1.2.1 a2)) (F101 (a0.getD (toNat (a1.getD (toNat v3) default)) default).1.2.2 a2)) (v3 + 1) (by refine ⟨?_, ?_⟩ <;> (try simp only [Ls]) <;> first | omega | assumption | simp) (by (try simp only [Ls]); omega)
   | false =>
    have q0 := odf h0
    try have hr1 := hir.at (i := toNat v3) (by have _ := h0; omega)
    have e := Eq.refl (S80_L_L_0 a0 a1 a2 (v1, v2, v3)); conv at e => rhs; simp only [S80_L_L_0, h0, cdb]
    rw [loopF_s, e]
    exact rt [.d h0, .c [] (C102 v1 v2)] [] [] hcx (by kernel_rfl)

def F80_L_L (a0 : TyL) (a1 : List (Int)) (a2 : Int) : Int :=
 (loopF (S80_L_L_0 a0 a1 a2) (toNat ((a1.length : Int) - 0) + 1) (64, (-64), 0))

theorem C80_L_L (a0 : TyL) (a1 : List (Int)) (a2 : Int) (l0 : a0.length ≤ 9223372036854775807) (l1 : a1.length ≤ 9223372036854775807) (hir : InR a0.length a1) (hl : a1.length ≤ 1048576) : Con Try.prog 80 [(.s 0 0 a0.length 10), (.s 1 0 a1.length 1), (iv a2)] [(.live false true (flat c81 a0)), (.live false true (flat c3 a1))] (iv (F80_L_L a0 a1 a2)) [] := by
 refine con_s Try.func80 (by kernel_rfl) fun cx hcx => ?_
 have e := Eq.refl (F80_L_L a0 a1 a2); conv at e => rhs; simp only [F80_L_L]
 rw [e]
 refine en [] [] [0, 1, 2, 7, 8, 9] [] hcx B80_L_L_0 (K80_L_L_0) (st80_L_L_0 a0 a1 a2 64 (-64) 0) (toNat ((a1.length : Int) - 0) + 1) (by kernel_rfl) ?_
 exact L80_L_L_0 a0 a1 a2 l0 l1 hir hl hcx (toNat ((a1.length : Int) - 0) + 1) 64 (-64) 0 (by refine ⟨?_, ?_⟩ <;> (try simp only [Ls]) <;> first | omega | assumption | simp) (by (try simp only [Ls]); omega)

noncomputable def B82_L_L_0 : Code := (loopAtD [1, 1, 0, 1] [] (bodyOf Try.f82) []).1
noncomputable def K82_L_L_0 : List K := (loopAtD [1, 1, 0, 1] [] (bodyOf Try.f82) []).2

def st82_L_L_0 (a0 : TyL) (a1 : List (Int)) (v2c : List SV) (v2n : Nat) (v3 : Int) : LS := ⟨slN 24 [(0, (.s 0 0 a0.length 10)), (1, (.s 1 0 a1.length 1)), (5, (.s 2 0 v2n 10)), (6, (iv v3))], [(.live false true (flat c81 a0)), (.live false true (flat c3 a1)), (.live true true v2c)]⟩

def S82_L_L_0 (a0 : TyL) (a1 : List (Int)) : TyL × Int → (TyL × Int) ⊕ TyL
 | (v2, v3) =>
  (bif (decide ((v3 : Int) < (a1.length : Int))) then
   (.inl ((v2 ++ [(a0.getD (toNat (a1.getD (toNat v3) default)) default)]), (v3 + 1)))
  else
   (.inr v2))

theorem L82_L_L_0 (a0 : TyL) (a1 : List (Int)) (l0 : a0.length ≤ 9223372036854775807) (l1 : a1.length ≤ 9223372036854775807) (hir : InR a0.length a1) (hl : a1.length ≤ 1048576) {cx : Cx} (hcx : cx.base = 2) : ∀ (n : Nat) (v2 : TyL) (v3 : Int), (0 ≤ v3) ∧ (v2.length = toNat v3) ∧ (v3 ≤ a1.length) → toNat ((a1.length : Int) - v3) < n → Aw.Good Try.prog none 9 (bodyPost Try.prog Try.f82 (RR cx (.s 2 0 (loopF (S82_L_L_0 a0 a1) n (v2, v3)).length 10) [(.live true true (flat c81 (loopF (S82_L_L_0 a0 a1) n (v2, v3))))] [])) cx [] (.l B82_L_L_0 n :: K82_L_L_0) (st82_L_L_0 a0 a1 (flat c81 v2) v2.length v3) := by
 intro n
 induction n with
 | zero => intro v2 v3 hi hn; exact absurd hn (nlz _)
 | succ n ih =>
   intro v2 v3 hi hn
   refine good_round ?_
   try have hr1 := hir.at (i := toNat v3) (by have _ := h0; omega)
   cases h0 : (decide ((v3 : Int) < (a1.length : Int))) with
   | true =>
    have q0 := odt h0
    try have hr1 := hir.at (i := toNat v3) (by have _ := h0; omega)
    have e := Eq.refl (S82_L_L_0 a0 a1 (v2, v3)); conv at e => rhs; simp only [S82_L_L_0, h0, cdb]
    rw [loopF_inl e]
    refine ba [.d h0, .i v3 (a1.length), .L c3_len a1 v3 0 1, .i (a1.getD (toNat v3) default) (a0.length), .L c81_len a0 (a1.getD (toNat v3) default) 0 10, .p (show ((flat c81 v2).length = v2.length * 10 ∧ v2.length + 1 ≤ 2 ^ 40 ∧ (v2.length + 1) * 80 ≤ 2 ^ 47) from app_ok c81_len (by omega) (by omega))] [] [0, 1, 5, 6] [4] hcx (m := n) B82_L_L_0 (K82_L_L_0) (st82_L_L_0 a0 a1 (flat c81 v2 ++ [(iv (a0.getD (toNat (a1.getD (toNat v3) default)) default).1.1.1), (iv (a0.getD (toNat (a1.getD (toNat v3) default)) default).1.1.2.1), (iv (a0.getD (toNat (a1.getD (toNat v3) default)) default).1.1.2.2), (iv (a0.getD (toNat (a1.getD (toNat v3) default)) default).1.2.1.1), (iv (a0.getD (toNat (a1.getD (toNat v3) default)) default).1.2.1.2.1), (iv (a0.getD (toNat (a1.getD (toNat v3) default)) default).1.2.1.2.2), (iv (a0.getD (toNat (a1.getD (toNat v3) default)) default).1.2.2.1), (iv (a0.getD (toNat (a1.getD (toNat v3) default)) default).1.2.2.2.1), (iv (a0.getD (toNat (a1.getD (toNat v3) default)) default).1.2.2.2.2), (iv (a0.getD (toNat (a1.getD (toNat v3) default)) default).2)]) (v2.length + 1) (W (v3 + 1))) (by kernel_rfl) ?_
    have z0 : (W (v3 + 1)) = (v3 + 1) := W_eq (by omega) (by omega)
    have z1 : (flat c81 v2 ++ [(iv (a0.getD (toNat (a1.getD (toNat v3) default)) default).1.1.1), (iv (a0.getD (toNat (a1.getD (toNat v3) default)) default).1.1.2.1), (iv (a0.getD (toNat (a1.getD (toNat v3) default)) default).1.1.2.2), (iv (a0.getD (toNat (a1.getD (toNat v3) default)) default).1.2.1.1), (iv (a0.getD (toNat (a1.getD (toNat v3) default)) default).1.2.1.2.1), (iv (a0.getD (toNat (a1.getD (toNat v3) default)) default).1.2.1.2.2), (iv (a0.getD (toNat (a1.getD (toNat v3) default)) default).1.2.2.1), (iv (a0.getD (toNat (a1.getD (toNat v3) default)) default).1.2.2.2.1), (iv (a0.getD (toNat (a1.getD (toNat v3) default)) default).1.2.2.2.2), (iv (a0.getD (toNat (a1.getD (toNat v3) default)) default).2)]) = (flat c81 (v2 ++ [(a0.getD (toNat (a1.getD (toNat v3) default)) default)])) := (flat_append (c := c81) (l := v2) (m := [(a0.getD (toNat (a1.getD (toNat v3) default)) default)])).symm
    have z2 : (v2.length + 1) = (v2 ++ [(a0.getD (toNat (a1.getD (toNat v3) default)) default)]).length := len_app v2 [(a0.getD (toNat (a1.getD (toNat v3) default)) default)] rfl
    rw [z0, z1, z2]
    exact ih (v2 ++ [(a0.getD (toNat (a1.getD (toNat v3) default)) default)]) (v3 + 1) (by refine ⟨?_, ?_, ?_⟩ <;> (try simp only [Ls]) <;> first | omega | assumption | simp) (by (try simp only [Ls]); omega)
   | false =>
    have q0 := odf h0
    try have hr1 := hir.at (i := toNat v3) (by have _ := h0; omega)
    have e := Eq.refl (S82_L_L_0 a0 a1 (v2, v3)); conv at e => rhs; simp only [S82_L_L_0, h0, cdb]
    rw [loopF_s, e]
    exact rt [.d h0] [] [2] hcx (by kernel_rfl)

def F82_L_L (a0 : TyL) (a1 : List (Int)) : TyL :=
 (loopF (S82_L_L_0 a0 a1) (toNat ((a1.length : Int) - 0) + 1) (([] : TyL), 0))

theorem C82_L_L (a0 : TyL) (a1 : List (Int)) (l0 : a0.length ≤ 9223372036854775807) (l1 : a1.length ≤ 9223372036854775807) (hir : InR a0.length a1) (hl : a1.length ≤ 1048576) : Con Try.prog 82 [(.s 0 0 a0.length 10), (.s 1 0 a1.length 1)] [(.live false true (flat c81 a0)), (.live false true (flat c3 a1))] (.s 2 0 (F82_L_L a0 a1).length 10) [(.live true true (flat c81 (F82_L_L a0 a1)))] := by
 refine con_s Try.func82 (by kernel_rfl) fun cx hcx => ?_
 have e := Eq.refl (F82_L_L a0 a1); conv at e => rhs; simp only [F82_L_L]
 rw [e]
 refine en [] [.slot 5 10] [0, 1, 5, 6] [2] hcx B82_L_L_0 (K82_L_L_0) (st82_L_L_0 a0 a1 (flat c81 ([] : TyL)) 0 0) (toNat ((a1.length : Int) - 0) + 1) (by kernel_rfl) ?_
 exact L82_L_L_0 a0 a1 l0 l1 hir hl hcx (toNat ((a1.length : Int) - 0) + 1) ([] : TyL) 0 (by refine ⟨?_, ?_, ?_⟩ <;> (try simp only [Ls]) <;> first | omega | assumption | simp) (by (try simp only [Ls]); omega)

noncomputable def B84_L_L_1 : Code := (loopAtD [1, 1, 0, 1, 0, 1, 0, 1, 0, 1] [0] (bodyOf Try.f84) []).1
noncomputable def K84_L_L_1 (m0 : Nat) : List K := (loopAtD [1, 1, 0, 1, 0, 1, 0, 1, 0, 1] [m0] (bodyOf Try.f84) []).2

def st84_L_L_1 (a0 : TyL) (a1 : List (Int)) (v14 v15 v16 v17 v18 v19 : Int) : LS := ⟨slN 69 [(0, (.s 0 0 a0.length 10)), (1, (.s 1 0 a1.length 1)), (5, (iv v14)), (6, (iv v15)), (7, (iv v16)), (8, (iv v17)), (9, (iv v18)), (10, (iv v19))], [(.live false true (flat c81 a0)), (.live false true (flat c3 a1))]⟩

def S84_L_L_1 (a0 : TyL) (a1 : List (Int)) : Int × Int × Int × Int × Int × Int → (Int × Int × Int × Int × Int × Int) ⊕ ((Int × Int × Int) ⊕ (Int))
 | (v14, v15, v16, v17, v18, v19) =>
  (bif (decide ((v19 : Int) < (a1.length : Int))) then
   (.inl (v14, v15, v16, (imn v17 (F104 (a0.getD (toNat (a1.getD (toNat v19) default)) default) v16)), (imx v18 (F104 (a0.getD (toNat (a1.getD (toNat v19) default)) default) v16)), (v19 + 1)))
  else
   (bif (decide (((W (v18 - v17)) : Int) > v15)) then
    (.inr (.inl (v16, (W (v18 - v17)), (v16 + 1))))
   else
    (.inr (.inl (v14, v15, (v16 + 1))))))

noncomputable def B84_L_L_0 : Code := (loopAtD [1, 1, 0, 1] [] (bodyOf Try.f84) []).1
noncomputable def K84_L_L_0 : List K := (loopAtD [1, 1, 0, 1] [] (bodyOf Try.f84) []).2

def st84_L_L_0 (a0 : TyL) (a1 : List (Int)) (v11 v12 v13 : Int) : LS := ⟨slN 69 [(0, (.s 0 0 a0.length 10)), (1, (.s 1 0 a1.length 1)), (5, (iv v11)), (6, (iv v12)), (7, (iv v13))], [(.live false true (flat c81 a0)), (.live false true (flat c3 a1))]⟩

def S84_L_L_0 (a0 : TyL) (a1 : List (Int)) : Int × Int × Int → (Int × Int × Int) ⊕ (Int)
 | (v11, v12, v13) =>
  (bif (decide ((v13 : Int) < 3)) then
   (loopF (S84_L_L_1 a0 a1) (toNat ((a1.length : Int) - 1) + 1) (v11, v12, v13, (F104 (a0.getD (toNat (a1.getD (toNat 0) default)) default) v13), (F104 (a0.getD (toNat (a1.getD (toNat 0) default)) default) v13), 1))
  else
   (.inr v11))

theorem L84_L_L_1 (a0 : TyL) (a1 : List (Int)) (l0 : a0.length ≤ 9223372036854775807) (l1 : a1.length ≤ 9223372036854775807) (hir : InR a0.length a1) (hl : 1 ≤ a1.length ∧ a1.length ≤ 1048576) {cx : Cx} (hcx : cx.base = 2)
   (n0 : Nat) (g0 : ∀ (v11 v12 v13 : Int), (0 ≤ v13) ∧ (v13 ≤ 3) → toNat (3 - v13) < n0 → Aw.Good Try.prog none 9 (bodyPost Try.prog Try.f84 (RR cx (iv (loopF (S84_L_L_0 a0 a1) n0 (v11, v12, v13))) [] [])) cx [] (.l B84_L_L_0 n0 :: K84_L_L_0) (st84_L_L_0 a0 a1 v11 v12 v13)) : ∀ (n : Nat) (v14 v15 v16 v17 v18 v19 : Int), (0 ≤ v19) ∧ (1 ≤ v19) ∧ (v19 ≤ a1.length) ∧ ((0 ≤ v16)) ∧ ((v16 ≤ 3)) ∧ (v16 < 3) ∧ (toNat (3 - v16) < n0 + 1) → toNat ((a1.length : Int) - v19) < n → Aw.Good Try.prog none 9 (bodyPost Try.prog Try.f84 (RR cx (iv (thenF (S84_L_L_0 a0 a1) n0 (loopF (S84_L_L_1 a0 a1) n (v14, v15, v16, v17, v18, v19)))) [] [])) cx [] (.l B84_L_L_1 n :: K84_L_L_1 n0) (st84_L_L_1 a0 a1 v14 v15 v16 v17 v18 v19) := by
 intro n
 induction n with
 | zero => intro v14 v15 v16 v17 v18 v19 hi hn; exact absurd hn (nlz _)
 | succ n ih =>
   intro v14 v15 v16 v17 v18 v19 hi hn
   refine good_round ?_
   have hr0 := hir.at (i := toNat 0) (by have := hl.1; simp; omega)
   try have hr1 := hir.at (i := toNat v19) (by have _ := h0; omega)
   cases h0 : (decide ((v19 : Int) < (a1.length : Int))) with
   | true =>
    have q0 := odt h0
    try have hr1 := hir.at (i := toNat v19) (by have _ := h0; omega)
    have e := Eq.refl (S84_L_L_1 a0 a1 (v14, v15, v16, v17, v18, v19)); conv at e => rhs; simp only [S84_L_L_1, h0, cdb]
    rw [loopF_inl e]
    refine ba [.d h0, .i v19 (a1.length), .L c3_len a1 v19 0 1, .i (a1.getD (toNat v19) default) (a0.length), .L c81_len a0 (a1.getD (toNat v19) default) 0 10, .c [] (C104 (a0.getD (toNat (a1.getD (toNat v19) default)) default) v16), .i v19 (a1.length), .L c3_len a1 v19 0 1, .i (a1.getD (toNat v19) default) (a0.length), .L c81_len a0 (a1.getD (toNat v19) default) 0 10, .c [] (C104 (a0.getD (toNat (a1.getD (toNat v19) default)) default) v16)] [] [0, 1, 5, 6, 7, 8, 9, 10] [] hcx (m := n) B84_L_L_1 (K84_L_L_1 n0) (st84_L_L_1 a0 a1 v14 v15 v16 (imn v17 (F104 (a0.getD (toNat (a1.getD (toNat v19) default)) default) v16)) (imx v18 (F104 (a0.getD (toNat (a1.getD (toNat v19) default)) default) v16)) (W (v19 + 1))) (by kernel_rfl) ?_
    have z0 : (W (v19 + 1)) = (v19 + 1) := W_eq (by omega) (by omega)
    rw [z0]
    exact ih v14 v15 v16 (imn v17 (F104 (a0.getD (toNat (a1.getD (toNat v19) default)) default) v16)) (imx v18 (F104 (a0.getD (toNat (a1.getD (toNat v19) default)) default) v16)) (v19 + 1) (by refine ⟨?_, ?_, ?_, ?_, ?_, ?_, ?_⟩ <;> (try simp only [Ls]) <;> first | omega | assumption | exact hi.2.1 | exact hi.2.2.1 | exact hi.2.2.2.1 | exact hi.2.2.2.2.1 | exact hi.2.2.2.2.2.1 | exact hi.2.2.2.2.2.2.1 | simp) (by (try simp only [Ls]); omega)
   | false =>
    have q0 := odf h0
    try have hr1 := hir.at (i := toNat v19) (by have _ := h0; omega)
    let t1 : List (St Try.prog) := [.d h0]
    cases h1 : (decide (((W (v18 - v17)) : Int) > v15)) with
    | true =>
     have q1 := odt h1
     try have hr1 := hir.at (i := toNat v19) (by have _ := h0; omega)
     have e := Eq.refl (S84_L_L_1 a0 a1 (v14, v15, v16, v17, v18, v19)); conv at e => rhs; simp only [S84_L_L_1, h0, h1, cdb]
     rw [loopF_s, e]
     refine ba (t1 ++ [.d h1]) [] [0, 1, 5, 6, 7] [] hcx (m := n0) B84_L_L_0 (K84_L_L_0) (st84_L_L_0 a0 a1 v16 (W (v18 - v17)) (W (v16 + 1))) (by kernel_rfl) ?_
     have z0 : (W (v16 + 1)) = (v16 + 1) := W_eq (by omega) (by omega)
     rw [z0]
     exact g0 v16 (W (v18 - v17)) (v16 + 1) (by refine ⟨?_, ?_⟩ <;> (try simp only [Ls]) <;> first | omega | assumption | simp) (by (try simp only [Ls]); omega)
    | false =>
     have q1 := odf h1
     try have hr1 := hir.at (i := toNat v19) (by have _ := h0; omega)
     have e := Eq.refl (S84_L_L_1 a0 a1 (v14, v15, v16, v17, v18, v19)); conv at e => rhs; simp only [S84_L_L_1, h0, h1, cdb]
     rw [loopF_s, e]
     refine ba (t1 ++ [.d h1]) [] [0, 1, 5, 6, 7] [] hcx (m := n0) B84_L_L_0 (K84_L_L_0) (st84_L_L_0 a0 a1 v14 v15 (W (v16 + 1))) (by kernel_rfl) ?_
     have z0 : (W (v16 + 1)) = (v16 + 1) := W_eq (by omega) (by omega)
     rw [z0]
     exact g0 v14 v15 (v16 + 1) (by refine ⟨?_, ?_⟩ <;> (try simp only [Ls]) <;> first | omega | assumption | simp) (by (try simp only [Ls]); omega)

theorem L84_L_L_0 (a0 : TyL) (a1 : List (Int)) (l0 : a0.length ≤ 9223372036854775807) (l1 : a1.length ≤ 9223372036854775807) (hir : InR a0.length a1) (hl : 1 ≤ a1.length ∧ a1.length ≤ 1048576) {cx : Cx} (hcx : cx.base = 2) : ∀ (n : Nat) (v11 v12 v13 : Int), (0 ≤ v13) ∧ (v13 ≤ 3) → toNat (3 - v13) < n → Aw.Good Try.prog none 9 (bodyPost Try.prog Try.f84 (RR cx (iv (loopF (S84_L_L_0 a0 a1) n (v11, v12, v13))) [] [])) cx [] (.l B84_L_L_0 n :: K84_L_L_0) (st84_L_L_0 a0 a1 v11 v12 v13) := by
 intro n
 induction n with
 | zero => intro v11 v12 v13 hi hn; exact absurd hn (nlz _)
 | succ n ih =>
   intro v11 v12 v13 hi hn
   refine good_round ?_
   have hr0 := hir.at (i := toNat 0) (by have := hl.1; simp; omega)
   cases h0 : (decide ((v13 : Int) < 3)) with
   | true =>
    have q0 := odt h0
    have e := Eq.refl (S84_L_L_0 a0 a1 (v11, v12, v13)); conv at e => rhs; simp only [S84_L_L_0, h0, cdb]
    rw [loopF_s, e]
    refine en [.d h0, .i 0 (a1.length), .L c3_len a1 0 0 1, .i (a1.getD (toNat 0) default) (a0.length), .L c81_len a0 (a1.getD (toNat 0) default) 0 10, .c [] (C104 (a0.getD (toNat (a1.getD (toNat 0) default)) default) v13), .i 0 (a1.length), .L c3_len a1 0 0 1, .i (a1.getD (toNat 0) default) (a0.length), .L c81_len a0 (a1.getD (toNat 0) default) 0 10, .c [] (C104 (a0.getD (toNat (a1.getD (toNat 0) default)) default) v13)] [] [0, 1, 5, 6, 7, 8, 9, 10] [] hcx B84_L_L_1 (K84_L_L_1 n) (st84_L_L_1 a0 a1 v11 v12 v13 (F104 (a0.getD (toNat (a1.getD (toNat 0) default)) default) v13) (F104 (a0.getD (toNat (a1.getD (toNat 0) default)) default) v13) 1) (toNat ((a1.length : Int) - 1) + 1) (by kernel_rfl) ?_
    exact L84_L_L_1 a0 a1 l0 l1 hir hl hcx n ih (toNat ((a1.length : Int) - 1) + 1) v11 v12 v13 (F104 (a0.getD (toNat (a1.getD (toNat 0) default)) default) v13) (F104 (a0.getD (toNat (a1.getD (toNat 0) default)) default) v13) 1 (by refine ⟨?_, ?_, ?_, ?_, ?_, ?_, ?_⟩ <;> (try simp only [Ls]) <;> first | omega | assumption | exact hi.2.1 | exact hi.2.2.1 | exact hi.2.2.2.1 | exact hi.2.2.2.2.1 | exact hi.2.2.2.2.2.1 | exact hi.2.2.2.2.2.2.1 | simp) (by (try simp only [Ls]); omega)
   | false =>
    have q0 := odf h0
    have e := Eq.refl (S84_L_L_0 a0 a1 (v11, v12, v13)); conv at e => rhs; simp only [S84_L_L_0, h0, cdb]
    rw [loopF_s, e]
    exact rt [.d h0] [] [] hcx (by kernel_rfl)

def F84_L_L (a0 : TyL) (a1 : List (Int)) : Int :=
 (loopF (S84_L_L_0 a0 a1) (toNat (3 - 0) + 1) (0, (-1), 0))

theorem C84_L_L (a0 : TyL) (a1 : List (Int)) (l0 : a0.length ≤ 9223372036854775807) (l1 : a1.length ≤ 9223372036854775807) (hir : InR a0.length a1) (hl : 1 ≤ a1.length ∧ a1.length ≤ 1048576) : Con Try.prog 84 [(.s 0 0 a0.length 10), (.s 1 0 a1.length 1)] [(.live false true (flat c81 a0)), (.live false true (flat c3 a1))] (iv (F84_L_L a0 a1)) [] := by
 refine con_s Try.func84 (by kernel_rfl) fun cx hcx => ?_
 have e := Eq.refl (F84_L_L a0 a1); conv at e => rhs; simp only [F84_L_L]
 rw [e]
 refine en [] [] [0, 1, 5, 6, 7] [] hcx B84_L_L_0 (K84_L_L_0) (st84_L_L_0 a0 a1 0 (-1) 0) (toNat (3 - 0) + 1) (by kernel_rfl) ?_
 exact L84_L_L_0 a0 a1 l0 l1 hir hl hcx (toNat (3 - 0) + 1) 0 (-1) 0 (by refine ⟨?_, ?_⟩ <;> (try simp only [Ls]) <;> first | omega | assumption | simp) (by (try simp only [Ls]); omega)

def F103_L (a0 : TyL) (a1 : Int × Int × Int) : Int :=
 (bif (((F35_L a0) : Int) != 0) then
  (F35_L a0)
 else
  (bif (!(F44 a1 64)) then
   1
  else
   0))

theorem C103_L (a0 : TyL) (a1 : Int × Int × Int) (l0 : a0.length ≤ 9223372036854775807) : Con Try.prog 103 [(.s 0 0 a0.length 10), (.a (k3 a1))] [(.live false true (flat c81 a0))] (iv (F103_L a0 a1)) [] := by
 refine con_s Try.func103 (by kernel_rfl) fun cx hcx => ?_
 let t0 : List (St Try.prog) := [.c [0] (C35_L a0 (by omega))]
 cases h0 : (((F35_L a0) : Int) != 0) with
 | true =>
  have q0 := bne_iff_ne.1 h0
  have e := Eq.refl (F103_L a0 a1); conv at e => rhs; simp only [F103_L, h0, cdb]
  rw [e]
  exact rt (t0 ++ [.d h0]) [] [] hcx (by kernel_rfl)
 | false =>
  have q0 := bne_eq_false_iff_eq.1 h0
  let t1 : List (St Try.prog) := (t0 ++ [.d h0, .c [] (C44 a1 64)])
  cases h1 : (!(F44 a1 64)) with
  | true =>
   have e := Eq.refl (F103_L a0 a1); conv at e => rhs; simp only [F103_L, h0, h1, cdb]
   rw [e]
   exact rt (t1 ++ [.d h1]) [] [] hcx (by kernel_rfl)
  | false =>
   have e := Eq.refl (F103_L a0 a1); conv at e => rhs; simp only [F103_L, h0, h1, cdb]
   rw [e]
   exact rt (t1 ++ [.d h1]) [] [] hcx (by kernel_rfl)

noncomputable def B81_L_0 : Code := (loopAtD [1, 1, 1, 1, 0, 1] [] (bodyOf Try.f81) []).1
noncomputable def K81_L_0 : List K := (loopAtD [1, 1, 1, 1, 0, 1] [] (bodyOf Try.f81) []).2

def st81_L_0 (a0 : TyL) (a1 : Int × Int × Int) (v1 v2 : Int) : LS := ⟨slN 45 [(0, (.s 0 0 a0.length 10)), (3, (.p 1 0)), (7, (iv v1)), (8, (iv v2))], [(.live false true (flat c81 a0)), (.live true false (k3 a1))]⟩

def S81_L_0 (a0 : TyL) (a1 : Int × Int × Int) : Int × Int → (Int × Int) ⊕ (Int × Int)
 | (v1, v2) =>
  (bif (decide ((v2 : Int) < (a0.length : Int))) then
   (.inl ((if ((if ((if (v1 : Int) < (F64 (F65 (a0.getD (toNat v2) default).1.1 a1)) then (F64 (F65 (a0.getD (toNat v2) default).1.1 a1)) else v1) : Int) < (F64 (F65 (a0.getD (toNat v2) default).1.2.1 a1)) then (F64 (F65 (a0.getD (toNat v2) default).1.2.1 a1)) else (if (v1 : Int) < (F64 (F65 (a0.getD (toNat v2) default).1.1 a1)) then (F64 (F65 (a0.getD (toNat v2) default).1.1 a1)) else v1)) : Int) < (F64 (F65 (a0.getD (toNat v2) default).1.2.2 a1)) then (F64 (F65 (a0.getD (toNat v2) default).1.2.2 a1)) else (if ((if (v1 : Int) < (F64 (F65 (a0.getD (toNat v2) default).1.1 a1)) then (F64 (F65 (a0.getD (toNat v2) default).1.1 a1)) else v1) : Int) < (F64 (F65 (a0.getD (toNat v2) default).1.2.1 a1)) then (F64 (F65 (a0.getD (toNat v2) default).1.2.1 a1)) else (if (v1 : Int) < (F64 (F65 (a0.getD (toNat v2) default).1.1 a1)) then (F64 (F65 (a0.getD (toNat v2) default).1.1 a1)) else v1))), (v2 + 1)))
  else
   (.inr (v1, 0)))

theorem L81_L_0 (a0 : TyL) (a1 : Int × Int × Int) (l0 : a0.length ≤ 9223372036854775807) {cx : Cx} (hcx : cx.base = 1) : ∀ (n : Nat) (v1 v2 : Int), 0 ≤ v2 → toNat ((a0.length : Int) - v2) < n → Aw.Good Try.prog none 9 (bodyPost Try.prog Try.f81 (RR cx (.t (k2 (loopF (S81_L_0 a0 a1) n (v1, v2)))) [] [])) cx [] (.l B81_L_0 n :: K81_L_0) (st81_L_0 a0 a1 v1 v2) := by
 intro n
 induction n with
 | zero => intro v1 v2 hi hn; exact absurd hn (nlz _)
 | succ n ih =>
   intro v1 v2 hi hn
   refine good_round ?_
   cases h0 : (decide ((v2 : Int) < (a0.length : Int))) with
   | true =>
    have q0 := odt h0
    have e := Eq.refl (S81_L_0 a0 a1 (v1, v2)); conv at e => rhs; simp only [S81_L_0, h0, cdb]
    rw [loopF_inl e]
    refine ba [.d h0, .i v2 (a0.length), .L c81_len a0 v2 0 9, .c [] (C65 (a0.getD (toNat v2) default).1.1 a1), .c [] (C64 (F65 (a0.getD (toNat v2) default).1.1 a1)), .c [] (C65 (a0.getD (toNat v2) default).1.2.1 a1), .c [] (C64 (F65 (a0.getD (toNat v2) default).1.2.1 a1)), .c [] (C65 (a0.getD (toNat v2) default).1.2.2 a1), .c [] (C64 (F65 (a0.getD (toNat v2) default).1.2.2 a1))] [] [0, 3, 7, 8] [1] hcx (m := n) B81_L_0 (K81_L_0) (st81_L_0 a0 a1 (if ((if ((if (v1 : Int) < (F64 (F65 (a0.getD (toNat v2) default).1.1 a1)) then (F64 (F65 (a0.getD (toNat v2) default).1.1 a1)) else v1) : Int) < (F64 (F65 (a0.getD (toNat v2) default).1.2.1 a1)) then (F64 (F65 (a0.getD (toNat v2) default).1.2.1 a1)) else (if (v1 : Int) < (F64 (F65 (a0.getD (toNat v2) default).1.1 a1)) then (F64 (F65 (a0.getD (toNat v2) default).1.1 a1)) else v1)) : Int) < (F64 (F65 (a0.getD (toNat v2) default).1.2.2 a1)) then (F64 (F65 (a0.getD (toNat v2) default).1.2.2 a1)) else (if ((if (v1 : Int) < (F64 (F65 (a0.getD (toNat v2) default).1.1 a1)) then (F64 (F65 (a0.getD (toNat v2) default).1.1 a1)) else v1) : Int) < (F64 (F65 (a0.getD (toNat v2) default).1.2.1 a1)) then (F64 (F65 (a0.getD (toNat v2) default).1.2.1 a1)) else (if (v1 : Int) < (F64 (F65 (a0.getD (toNat v2) default).1.1 a1)) then (F64 (F65 (a0.getD (toNat v2) default).1.1 a1)) else v1))) (W (v2 + 1))) (by kernel_rfl) ?_
    have z0 : (W (v2 + 1)) = (v2 + 1) := W_eq (by omega) (by omega)
    rw [z0]
    exact ih (if ((if ((if (v1 : Int) < (F64 (F65 (a0.getD (toNat v2) default).1.1 a1)) then (F64 (F65 (a0.getD (toNat v2) default).1.1 a1)) else v1) : Int) < (F64 (F65 (a0.getD (toNat v2) default).1.2.1 a1)) then (F64 (F65 (a0.getD (toNat v2) default).1.2.1 a1)) else (if (v1 : Int) < (F64 (F65 (a0.getD (toNat v2) default).1.1 a1)) then (F64 (F65 (a0.getD (toNat v2) default).1.1 a1)) else v1)) : Int) < (F64 (F65 (a0.getD (toNat v2) default).1.2.2 a1)) then (F64 (F65 (a0.getD (toNat v2) default).1.2.2 a1)) else (if ((if (v1 : Int) < (F64 (F65 (a0.getD (toNat v2) default).1.1 a1)) then (F64 (F65 (a0.getD (toNat v2) default).1.1 a1)) else v1) : Int) < (F64 (F65 (a0.getD (toNat v2) default).1.2.1 a1)) then (F64 (F65 (a0.getD (toNat v2) default).1.2.1 a1)) else (if (v1 : Int) < (F64 (F65 (a0.getD (toNat v2) default).1.1 a1)) then (F64 (F65 (a0.getD (toNat v2) default).1.1 a1)) else v1))) (v2 + 1) (by (try simp only [Ls]); omega) (by (try simp only [Ls]); omega)
   | false =>
    have q0 := odf h0
    have e := Eq.refl (S81_L_0 a0 a1 (v1, v2)); conv at e => rhs; simp only [S81_L_0, h0, cdb]
    rw [loopF_s, e]
    exact rt [.d h0] [] [] hcx (by kernel_rfl)

def F81_L (a0 : TyL) (a1 : Int × Int × Int) : Int × Int :=
 (bif (((F103_L a0 a1) : Int) != 0) then
  (0, (F103_L a0 a1))
 else
  (loopF (S81_L_0 a0 a1) (toNat ((a0.length : Int) - 0) + 1) (0, 0)))

theorem C81_L (a0 : TyL) (a1 : Int × Int × Int) (l0 : a0.length ≤ 9223372036854775807) : Con Try.prog 81 [(.s 0 0 a0.length 10), (.a (k3 a1))] [(.live false true (flat c81 a0))] (.t (k2 (F81_L a0 a1))) [] := by
 refine con_s Try.func81 (by kernel_rfl) fun cx hcx => ?_
 let t0 : List (St Try.prog) := [.c [0] (C103_L a0 a1 (by omega))]
 cases h0 : (((F103_L a0 a1) : Int) != 0) with
 | true =>
  have q0 := bne_iff_ne.1 h0
  have e := Eq.refl (F81_L a0 a1); conv at e => rhs; simp only [F81_L, h0, cdb]
  rw [e]
  exact rt (t0 ++ [.d h0]) [] [] hcx (by kernel_rfl)
 | false =>
  have q0 := bne_eq_false_iff_eq.1 h0
  have e := Eq.refl (F81_L a0 a1); conv at e => rhs; simp only [F81_L, h0, cdb]
  rw [e]
  refine en (t0 ++ [.d h0]) [] [0, 3, 7, 8] [1] hcx B81_L_0 (K81_L_0) (st81_L_0 a0 a1 0 0) (toNat ((a0.length : Int) - 0) + 1) (by kernel_rfl) ?_
  exact L81_L_0 a0 a1 l0 hcx (toNat ((a0.length : Int) - 0) + 1) 0 0 (by (try simp only [Ls]); omega) (by (try simp only [Ls]); omega)

noncomputable def B83_L_L_1 : Code := (loopAtD [1, 1, 0, 1, 0, 1, 0, 1] [0] (bodyOf Try.f83) []).1
noncomputable def K83_L_L_1 (m0 : Nat) : List K := (loopAtD [1, 1, 0, 1, 0, 1, 0, 1] [m0] (bodyOf Try.f83) []).2

def st83_L_L_1 (a0 : TyL) (a1 : List (Int)) (a2 : Int) (v5c : List SV) (v5n : Nat) (v6 v7 : Int) : LS := ⟨slN 99 [(0, (.s 0 0 a0.length 10)), (2, (iv a2)), (7, (.s 2 0 v5n 1)), (8, (iv v6)), (9, (iv v7))], [(.live false true (flat c81 a0)), (.live false true (flat c3 a1)), (.live true true v5c)]⟩

def S83_L_L_1 (a0 : TyL) (a1 : List (Int)) (a2 : Int) : List (Int) × Int × Int → (List (Int) × Int × Int) ⊕ ((List (Int) × Int) ⊕ (List (Int)))
 | (v5, v6, v7) =>
  (bif (decide ((v7 : Int) > 0)) then
   (bif (decide (((F104 (a0.getD (toNat (v5.getD (toNat v7) default)) default) a2) : Int) < (F104 (a0.getD (toNat (v5.getD (toNat (W (v7 - 1))) default)) default) a2))) then
    (.inl (((v5.set (toNat v7) (v5.getD (toNat (W (v7 - 1))) default)).set (toNat (W (v7 - 1))) (v5.getD (toNat v7) default)), v6, (W (v7 - 1))))
   else
    (bif (((F104 (a0.getD (toNat (v5.getD (toNat v7) default)) default) a2) : Int) == (F104 (a0.getD (toNat (v5.getD (toNat (W (v7 - 1))) default)) default) a2)) then
     (bif (decide (((v5.getD (toNat v7) default) : Int) < (v5.getD (toNat (W (v7 - 1))) default))) then
      (.inl (((v5.set (toNat v7) (v5.getD (toNat (W (v7 - 1))) default)).set (toNat (W (v7 - 1))) (v5.getD (toNat v7) default)), v6, (W (v7 - 1))))
     else
      (.inr (.inl (v5, (v6 + 1)))))
    else
     (.inr (.inl (v5, (v6 + 1))))))
  else
   (.inr (.inl (v5, (v6 + 1)))))

noncomputable def B83_L_L_0 : Code := (loopAtD [1, 1, 0, 1] [] (bodyOf Try.f83) []).1
noncomputable def K83_L_L_0 : List K := (loopAtD [1, 1, 0, 1] [] (bodyOf Try.f83) []).2

def st83_L_L_0 (a0 : TyL) (a1 : List (Int)) (a2 : Int) (v3c : List SV) (v3n : Nat) (v4 : Int) : LS := ⟨slN 99 [(0, (.s 0 0 a0.length 10)), (2, (iv a2)), (7, (.s 2 0 v3n 1)), (8, (iv v4))], [(.live false true (flat c81 a0)), (.live false true (flat c3 a1)), (.live true true v3c)]⟩

def S83_L_L_0 (a0 : TyL) (a1 : List (Int)) (a2 : Int) : List (Int) × Int → (List (Int) × Int) ⊕ (List (Int))
 | (v3, v4) =>
  (bif (decide ((v4 : Int) < (v3.length : Int))) then
   (loopF (S83_L_L_1 a0 a1 a2) (toNat v4 + 1) (v3, v4, v4))
  else
   (.inr v3))

theorem L83_L_L_1 (a0 : TyL) (a1 : List (Int)) (a2 : Int) (l0 : a0.length ≤ 9223372036854775807) (l1 : a1.length ≤ 9223372036854775807) (hir : InR a0.length a1) (hl : a1.length ≤ 1048576) {cx : Cx} (hcx : cx.base = 2)
   (n0 : Nat) (g0 : ∀ (v3 : List (Int)) (v4 : Int), (0 ≤ v4) ∧ (v3.length = a1.length) ∧ (InR a0.length v3) ∧ (1 ≤ v4) → toNat ((v3.length : Int) - v4) < n0 → Aw.Good Try.prog none 9 (bodyPost Try.prog Try.f83 (RR cx (.s 2 0 (loopF (S83_L_L_0 a0 a1 a2) n0 (v3, v4)).length 1) [(.live true true (flat c3 (loopF (S83_L_L_0 a0 a1 a2) n0 (v3, v4))))] [])) cx [] (.l B83_L_L_0 n0 :: K83_L_L_0) (st83_L_L_0 a0 a1 a2 (flat c3 v3) v3.length v4)) : ∀ (n : Nat) (v5 : List (Int)) (v6 v7 : Int), (v5.length = a1.length) ∧ (InR a0.length v5) ∧ (0 ≤ v7) ∧ (v7 ≤ v6) ∧ (1 ≤ v6) ∧ (v6 < a1.length) ∧ ((0 ≤ v6)) ∧ ((v5.length = a1.length)) ∧ ((InR a0.length v5)) ∧ ((1 ≤ v6)) ∧ (v6 < (v5.length : Int)) ∧ (toNat ((v5.length : Int) - v6) < n0 + 1) → toNat v7 < n → Aw.Good Try.prog none 9 (bodyPost Try.prog Try.f83 (RR cx (.s 2 0 (thenF (S83_L_L_0 a0 a1 a2) n0 (loopF (S83_L_L_1 a0 a1 a2) n (v5, v6, v7))).length 1) [(.live true true (flat c3 (thenF (S83_L_L_0 a0 a1 a2) n0 (loopF (S83_L_L_1 a0 a1 a2) n (v5, v6, v7)))))] [])) cx [] (.l B83_L_L_1 n :: K83_L_L_1 n0) (st83_L_L_1 a0 a1 a2 (flat c3 v5) v5.length v6 v7) := by
 intro n
 induction n with
 | zero => intro v5 v6 v7 hi hn; exact absurd hn (nlz _)
 | succ n ih =>
   intro v5 v6 v7 hi hn
   refine good_round ?_
   try have hw_k := (fun _ => W_eq (n := v7 - 1) (by omega) (by omega)) h0
   try have hr1 := hi.2.1.at (i := toNat v7) (by have _ := h0; omega)
   try have hr2 := hi.2.1.at (i := toNat (W (v7 - 1))) (by have _ := h0; omega)
   cases h0 : (decide ((v7 : Int) > 0)) with
   | true =>
    have q0 := odt h0
    try have hw_k := (fun _ => W_eq (n := v7 - 1) (by omega) (by omega)) h0
    try have hr1 := hi.2.1.at (i := toNat v7) (by have _ := h0; omega)
    try have hr2 := hi.2.1.at (i := toNat (W (v7 - 1))) (by have _ := h0; omega)
    let t1 : List (St Try.prog) := [.d h0, .i v7 (v5.length), .L c3_len v5 v7 0 1, .i (v5.getD (toNat v7) default) (a0.length), .L c81_len a0 (v5.getD (toNat v7) default) 0 10, .c [] (C104 (a0.getD (toNat (v5.getD (toNat v7) default)) default) a2), .i (W (v7 - 1)) (v5.length), .L c3_len v5 (W (v7 - 1)) 0 1, .i (v5.getD (toNat (W (v7 - 1))) default) (a0.length), .L c81_len a0 (v5.getD (toNat (W (v7 - 1))) default) 0 10, .c [] (C104 (a0.getD (toNat (v5.getD (toNat (W (v7 - 1))) default)) default) a2)]
    cases h1 : (decide (((F104 (a0.getD (toNat (v5.getD (toNat v7) default)) default) a2) : Int) < (F104 (a0.getD (toNat (v5.getD (toNat (W (v7 - 1))) default)) default) a2))) with
    | true =>
     have q1 := odt h1
     try have hw_k := (fun _ => W_eq (n := v7 - 1) (by omega) (by omega)) h0
     try have hr1 := hi.2.1.at (i := toNat v7) (by have _ := h0; omega)
     try have hr2 := hi.2.1.at (i := toNat (W (v7 - 1))) (by have _ := h0; omega)
     have e := Eq.refl (S83_L_L_1 a0 a1 a2 (v5, v6, v7)); conv at e => rhs; simp only [S83_L_L_1, h0, h1, cdb]
     rw [loopF_inl e]
     refine ba (t1 ++ [.d h1, .i v7 (v5.length), .L c3_len v5 v7 0 1, .i (W (v7 - 1)) (v5.length), .L c3_len v5 (W (v7 - 1)) 0 1, .i v7 (v5.length), .p (show ((0 + toNat v7 * 1) + 1 ≤ (flat c3 v5).length) from (flat_setl c3_len (by first | omega | (simp only [Lt]; omega)) (o := 0) (Nb rfl))), .i (W (v7 - 1)) (v5.length), .p (show ((0 + toNat (W (v7 - 1)) * 1) + 1 ≤ (splice (flat c3 v5) (0 + toNat v7 * 1) [(iv (v5.getD (toNat (W (v7 - 1))) default))]).length) from (by rw [show (splice (flat c3 v5) (0 + toNat v7 * 1) [(iv (v5.getD (toNat (W (v7 - 1))) default))]) = flat c3 (v5.set (toNat v7) (v5.getD (toNat (W (v7 - 1))) default)) from (flat_set c3_len (by first | omega | (simp only [Lt]; omega)) (o := 0) (d := default) (Nb rfl) rfl)]; exact flat_setl c3_len (by first | omega | (simp only [Lt]; omega)) (o := 0) (Nb rfl)))]) [] [0, 2, 7, 8, 9] [2] hcx (m := n) B83_L_L_1 (K83_L_L_1 n0) (st83_L_L_1 a0 a1 a2 (splice (splice (flat c3 v5) (0 + toNat v7 * 1) [(iv (v5.getD (toNat (W (v7 - 1))) default))]) (0 + toNat (W (v7 - 1)) * 1) [(iv (v5.getD (toNat v7) default))]) (v5.length) v6 (W (v7 - 1))) (by kernel_rfl) ?_
     have z0 : (splice (splice (flat c3 v5) (0 + toNat v7 * 1) [(iv (v5.getD (toNat (W (v7 - 1))) default))]) (0 + toNat (W (v7 - 1)) * 1) [(iv (v5.getD (toNat v7) default))]) = flat c3 ((v5.set (toNat v7) (v5.getD (toNat (W (v7 - 1))) default)).set (toNat (W (v7 - 1))) (v5.getD (toNat v7) default)) := (by rw [show (splice (flat c3 v5) (0 + toNat v7 * 1) [(iv (v5.getD (toNat (W (v7 - 1))) default))]) = flat c3 (v5.set (toNat v7) (v5.getD (toNat (W (v7 - 1))) default)) from (flat_set c3_len (by first | omega | (simp only [Lt]; omega)) (o := 0) (d := default) (Nb rfl) rfl)]; exact flat_set c3_len (by first | omega | (simp only [Lt]; omega)) (o := 0) (d := default) (Nb rfl) rfl)
     have z1 : v5.length = ((v5.set (toNat v7) (v5.getD (toNat (W (v7 - 1))) default)).set (toNat (W (v7 - 1))) (v5.getD (toNat v7) default)).length := by simp
     rw [z0, z1]
     exact ih ((v5.set (toNat v7) (v5.getD (toNat (W (v7 - 1))) default)).set (toNat (W (v7 - 1))) (v5.getD (toNat v7) default)) v6 (W (v7 - 1)) (by and_intros <;> (try simp only [Lt]) <;> first | omega | assumption | exact hi.2.1 | exact hi.2.2.1 | exact InR.swap hi.2.1 (by omega) (by omega) | exact InR.swap hr (by omega) (by omega)) (by (try simp only [Ls]); omega)
    | false =>
     have q1 := odf h1
     try have hw_k := (fun _ => W_eq (n := v7 - 1) (by omega) (by omega)) h0
     try have hr1 := hi.2.1.at (i := toNat v7) (by have _ := h0; omega)
     try have hr2 := hi.2.1.at (i := toNat (W (v7 - 1))) (by have _ := h0; omega)
     let t2 : List (St Try.prog) := (t1 ++ [.d h1, .i v7 (v5.length), .L c3_len v5 v7 0 1, .i (v5.getD (toNat v7) default) (a0.length), .L c81_len a0 (v5.getD (toNat v7) default) 0 10, .c [] (C104 (a0.getD (toNat (v5.getD (toNat v7) default)) default) a2), .i (W (v7 - 1)) (v5.length), .L c3_len v5 (W (v7 - 1)) 0 1, .i (v5.getD (toNat (W (v7 - 1))) default) (a0.length), .L c81_len a0 (v5.getD (toNat (W (v7 - 1))) default) 0 10, .c [] (C104 (a0.getD (toNat (v5.getD (toNat (W (v7 - 1))) default)) default) a2)])
     cases h2 : (((F104 (a0.getD (toNat (v5.getD (toNat v7) default)) default) a2) : Int) == (F104 (a0.getD (toNat (v5.getD (toNat (W (v7 - 1))) default)) default) a2)) with
     | true =>
      have q2 := eq_of_beq h2
      try have hw_k := (fun _ => W_eq (n := v7 - 1) (by omega) (by omega)) h0
      try have hr1 := hi.2.1.at (i := toNat v7) (by have _ := h0; omega)
      try have hr2 := hi.2.1.at (i := toNat (W (v7 - 1))) (by have _ := h0; omega)
      let t3 : List (St Try.prog) := (t2 ++ [.d h2, .i v7 (v5.length), .L c3_len v5 v7 0 1, .i (W (v7 - 1)) (v5.length), .L c3_len v5 (W (v7 - 1)) 0 1])
      cases h3 : (decide (((v5.getD (toNat v7) default) : Int) < (v5.getD (toNat (W (v7 - 1))) default))) with
      | true =>
       have q3 := odt h3
       try have hw_k := (fun _ => W_eq (n := v7 - 1) (by omega) (by omega)) h0
       try have hr1 := hi.2.1.at (i := toNat v7) (by have _ := h0; omega)
       try have hr2 := hi.2.1.at (i := toNat (W (v7 - 1))) (by have _ := h0; omega)
       have e := Eq.refl (S83_L_L_1 a0 a1 a2 (v5, v6, v7)); conv at e => rhs; simp only [S83_L_L_1, h0, h1, h2, h3, cdb]
       rw [loopF_inl e]
       refine ba (t3 ++ [.d h3, .i v7 (v5.length), .L c3_len v5 v7 0 1, .i (W (v7 - 1)) (v5.length), .L c3_len v5 (W (v7 - 1)) 0 1, .i v7 (v5.length), .p (show ((0 + toNat v7 * 1) + 1 ≤ (flat c3 v5).length) from (flat_setl c3_len (by first | omega | (simp only [Lt]; omega)) (o := 0) (Nb rfl))), .i (W (v7 - 1)) (v5.length), .p (show ((0 + toNat (W (v7 - 1)) * 1) + 1 ≤ (splice (flat c3 v5) (0 + toNat v7 * 1) [(iv (v5.getD (toNat (W (v7 - 1))) default))]).length) from (by rw [show (splice (flat c3 v5) (0 + toNat v7 * 1) [(iv (v5.getD (toNat (W (v7 - 1))) default))]) = flat c3 (v5.set (toNat v7) (v5.getD (toNat (W (v7 - 1))) default)) from (flat_set c3_len (by first | omega | (simp only [Lt]; omega)) (o := 0) (d := default) (Nb rfl) rfl)]; exact flat_setl c3_len (by first | omega | (simp only [Lt]; omega)) (o := 0) (Nb rfl)))]) [] [0, 2, 7, 8, 9] [2] hcx (m := n) B83_L_L_1 (K83_L_L_1 n0) (st83_L_L_1 a0 a1 a2 (splice (splice (flat c3 v5) (0 + toNat v7 * 1) [(iv (v5.getD (toNat (W (v7 - 1))) default))]) (0 + toNat (W (v7 - 1)) * 1) [(iv (v5.getD (toNat v7) default))]) (v5.length) v6 (W (v7 - 1))) (by kernel_rfl) ?_
       have z0 : (splice (splice (flat c3 v5) (0 + toNat v7 * 1) [(iv (v5.getD (toNat (W (v7 - 1))) default))]) (0 + toNat (W (v7 - 1)) * 1) [(iv (v5.getD (toNat v7) default))]) = flat c3 ((v5.set (toNat v7) (v5.getD (toNat (W (v7 - 1))) default)).set (toNat (W (v7 - 1))) (v5.getD (toNat v7) default)) := (by rw [show (splice (flat c3 v5) (0 + toNat v7 * 1) [(iv (v5.getD (toNat (W (v7 - 1))) default))]) = flat c3 (v5.set (toNat v7) (v5.getD (toNat (W (v7 - 1))) default)) from (flat_set c3_len (by first | omega | (simp only [Lt]; omega)) (o := 0) (d := default) (Nb rfl) rfl)]; exact flat_set c3_len (by first | omega | (simp only [Lt]; omega)) (o := 0) (d := default) (Nb rfl) rfl)
       have z1 : v5.length = ((v5.set (toNat v7) (v5.getD (toNat (W (v7 - 1))) default)).set (toNat (W (v7 - 1))) (v5.getD (toNat v7) default)).length := by simp
       rw [z0, z1]
       exact ih ((v5.set (toNat v7) (v5.getD (toNat (W (v7 - 1))) default)).set (toNat (W (v7 - 1))) (v5.getD (toNat v7) default)) v6 (W (v7 - 1)) (by and_intros <;> (try simp only [Lt]) <;> first | omega | assumption | exact hi.2.1 | exact hi.2.2.1 | exact InR.swap hi.2.1 (by omega) (by omega) | exact InR.swap hr (by omega) (by omega)) (by (try simp only [Ls]); omega)
      | false =>
       have q3 := odf h3
       try have hw_k := (fun _ => W_eq (n := v7 - 1) (by omega) (by omega)) h0
       try have hr1 := hi.2.1.at (i := toNat v7) (by have _ := h0; omega)
       try have hr2 := hi.2.1.at (i := toNat (W (v7 - 1))) (by have _ := h0; omega)
       have e := Eq.refl (S83_L_L_1 a0 a1 a2 (v5, v6, v7)); conv at e => rhs; simp only [S83_L_L_1, h0, h1, h2, h3, cdb]
       rw [loopF_s, e]
       refine ba (t3 ++ [.d h3]) [] [0, 2, 7, 8] [2] hcx (m := n0) B83_L_L_0 (K83_L_L_0) (st83_L_L_0 a0 a1 a2 (flat c3 v5) (v5.length) (W (v6 + 1))) (by kernel_rfl) ?_
       have z0 : (W (v6 + 1)) = (v6 + 1) := W_eq (by omega) (by omega)
       rw [z0]
       exact g0 v5 (v6 + 1) (by and_intros <;> (try simp only [Lt]) <;> first | omega | assumption | exact hi.2.1 | exact hi.2.2.1 | exact InR.swap hi.2.1 (by omega) (by omega) | exact InR.swap hr (by omega) (by omega)) (by (try simp only [Ls]); omega)
     | false =>
      have q2 := ne_of_beq_false h2
      try have hw_k := (fun _ => W_eq (n := v7 - 1) (by omega) (by omega)) h0
      try have hr1 := hi.2.1.at (i := toNat v7) (by have _ := h0; omega)
      try have hr2 := hi.2.1.at (i := toNat (W (v7 - 1))) (by have _ := h0; omega)
      have e := Eq.refl (S83_L_L_1 a0 a1 a2 (v5, v6, v7)); conv at e => rhs; simp only [S83_L_L_1, h0, h1, h2, cdb]
      rw [loopF_s, e]
      refine ba (t2 ++ [.d h2]) [] [0, 2, 7, 8] [2] hcx (m := n0) B83_L_L_0 (K83_L_L_0) (st83_L_L_0 a0 a1 a2 (flat c3 v5) (v5.length) (W (v6 + 1))) (by kernel_rfl) ?_
      have z0 : (W (v6 + 1)) = (v6 + 1) := W_eq (by omega) (by omega)
      rw [z0]
      exact g0 v5 (v6 + 1) (by and_intros <;> (try simp only [Lt]) <;> first | omega | assumption | exact hi.2.1 | exact hi.2.2.1 | exact InR.swap hi.2.1 (by omega) (by omega) | exact InR.swap hr (by omega) (by omega)) (by (try simp only [Ls]); omega)
   | false =>
    have q0 := odf h0
    try have hw_k := (fun _ => W_eq (n := v7 - 1) (by omega) (by omega)) h0
    try have hr1 := hi.2.1.at (i := toNat v7) (by have _ := h0; omega)
    try have hr2 := hi.2.1.at (i := toNat (W (v7 - 1))) (by have _ := h0; omega)
    have e := Eq.refl (S83_L_L_1 a0 a1 a2 (v5, v6, v7)); conv at e => rhs; simp only [S83_L_L_1, h0, cdb]
    rw [loopF_s, e]
    refine ba [.d h0] [] [0, 2, 7, 8] [2] hcx (m := n0) B83_L_L_0 (K83_L_L_0) (st83_L_L_0 a0 a1 a2 (flat c3 v5) (v5.length) (W (v6 + 1))) (by kernel_rfl) ?_
    have z0 : (W (v6 + 1)) = (v6 + 1) := W_eq (by omega) (by omega)
    rw [z0]
    exact g0 v5 (v6 + 1) (by and_intros <;> (try simp only [Lt]) <;> first | omega | assumption | exact hi.2.1 | exact hi.2.2.1 | exact InR.swap hi.2.1 (by omega) (by omega) | exact InR.swap hr (by omega) (by omega)) (by (try simp only [Ls]); omega)

theorem L83_L_L_0 (a0 : TyL) (a1 : List (Int)) (a2 : Int) (l0 : a0.length ≤ 9223372036854775807) (l1 : a1.length ≤ 9223372036854775807) (hir : InR a0.length a1) (hl : a1.length ≤ 1048576) {cx : Cx} (hcx : cx.base = 2) : ∀ (n : Nat) (v3 : List (Int)) (v4 : Int), (0 ≤ v4) ∧ (v3.length = a1.length) ∧ (InR a0.length v3) ∧ (1 ≤ v4) → toNat ((v3.length : Int) - v4) < n → Aw.Good Try.prog none 9 (bodyPost Try.prog Try.f83 (RR cx (.s 2 0 (loopF (S83_L_L_0 a0 a1 a2) n (v3, v4)).length 1) [(.live true true (flat c3 (loopF (S83_L_L_0 a0 a1 a2) n (v3, v4))))] [])) cx [] (.l B83_L_L_0 n :: K83_L_L_0) (st83_L_L_0 a0 a1 a2 (flat c3 v3) v3.length v4) := by
 intro n
 induction n with
 | zero => intro v3 v4 hi hn; exact absurd hn (nlz _)
 | succ n ih =>
   intro v3 v4 hi hn
   refine good_round ?_
   cases h0 : (decide ((v4 : Int) < (v3.length : Int))) with
   | true =>
    have q0 := odt h0
    have e := Eq.refl (S83_L_L_0 a0 a1 a2 (v3, v4)); conv at e => rhs; simp only [S83_L_L_0, h0, cdb]
    rw [loopF_s, e]
    refine en [.d h0] [] [0, 2, 7, 8, 9] [2] hcx B83_L_L_1 (K83_L_L_1 n) (st83_L_L_1 a0 a1 a2 (flat c3 v3) (v3.length) v4 v4) (toNat v4 + 1) (by kernel_rfl) ?_
    exact L83_L_L_1 a0 a1 a2 l0 l1 hir hl hcx n ih (toNat v4 + 1) v3 v4 v4 (by and_intros <;> (try simp only [Lt]) <;> first | omega | assumption | exact hi.2.1 | exact hi.2.2.1 | exact InR.swap hi.2.1 (by omega) (by omega) | exact InR.swap hr (by omega) (by omega)) (by (try simp only [Ls]); omega)
   | false =>
    have q0 := odf h0
    have e := Eq.refl (S83_L_L_0 a0 a1 a2 (v3, v4)); conv at e => rhs; simp only [S83_L_L_0, h0, cdb]
    rw [loopF_s, e]
    exact rt [.d h0] [] [2] hcx (by kernel_rfl)

def F83_L_L (a0 : TyL) (a1 : List (Int)) (a2 : Int) : List (Int) :=
 (loopF (S83_L_L_0 a0 a1 a2) (toNat ((((([] : List (Int)) ++ a1).length : Nat) : Int) - 1) + 1) ((([] : List (Int)) ++ a1), 1))

theorem C83_L_L (a0 : TyL) (a1 : List (Int)) (a2 : Int) (l0 : a0.length ≤ 9223372036854775807) (l1 : a1.length ≤ 9223372036854775807) (hir : InR a0.length a1) (hl : a1.length ≤ 1048576) : Con Try.prog 83 [(.s 0 0 a0.length 10), (.s 1 0 a1.length 1), (iv a2)] [(.live false true (flat c81 a0)), (.live false true (flat c3 a1))] (.s 2 0 (F83_L_L a0 a1 a2).length 1) [(.live true true (flat c3 (F83_L_L a0 a1 a2)))] := by
 refine con_s Try.func83 (by kernel_rfl) fun cx hcx => ?_
 have e := Eq.refl (F83_L_L a0 a1 a2); conv at e => rhs; simp only [F83_L_L]
 rw [e]
 refine en [.p (show (([] : List SV).length = 0 * 1 ∧ (flat c3 a1).length = a1.length * 1 ∧ (flat c3 a1).all SV.one = true ∧ 0 + a1.length ≤ 2 ^ 40 ∧ (0 + a1.length) * 8 ≤ 2 ^ 47) from by refine ⟨?_, ?_, ?_, ?_, ?_⟩ <;> first | omega | exact flat_one (fun _ => rfl) | (simp [flat_lenc c3_len]; done) | (simp [flat_lenc c3_len]; omega))] [] [0, 2, 7, 8] [3] hcx B83_L_L_0 (K83_L_L_0) (st83_L_L_0 a0 a1 a2 (([] : List SV) ++ (flat c3 a1)) (0 + a1.length) 1) (toNat ((((([] : List (Int)) ++ a1).length : Nat) : Int) - 1) + 1) (by kernel_rfl) ?_
 have z0 : (([] : List SV) ++ (flat c3 a1)) = flat c3 (([] : List (Int)) ++ a1) := (by simp [flat])
 have z1 : (0 + a1.length) = (([] : List (Int)) ++ a1).length := by simp
 rw [z0, z1]
 exact L83_L_L_0 a0 a1 a2 l0 l1 hir hl hcx (toNat ((((([] : List (Int)) ++ a1).length : Nat) : Int) - 1) + 1) (([] : List (Int)) ++ a1) 1 (by and_intros <;> (try simp only [Lt]) <;> first | omega | assumption | exact hi.2.1 | exact hi.2.2.1 | exact InR.swap hi.2.1 (by omega) (by omega) | exact InR.swap hr (by omega) (by omega)) (by (try simp only [Ls]); omega)


abbrev TR := List Int × TyN
abbrev LCH := TyL
structure PGRW (l : LCH) (t : TR) (ns : List Int) (leaf : Int) : Prop where
 inr : InR l.length ns
 rng : 1 ≤ ns.length ∧ t.1.length + ns.length ≤ 1048576
 nds : t.2.length + 2 * ns.length ≤ 4194304
 lf : 1 ≤ leaf
theorem rpi_mem (l : LCH) (ns : List Int) : F82_L_L l ns = F72_L_L l ns := rfl
theorem rpi_len (l : LCH) (ns : List Int) : (F82_L_L l ns).length = ns.length := by rw [rpi_mem, mem_len]
def cOf (l : LCH) (k : Int) : SBC := ((l, 0, [], []), k)
theorem key_eq (l : LCH) (k : Int) (x : Int) : F104 (l.getD (toNat x) default) k = kk (cOf l k) x := by
 unfold kk cOf F104 F95 F101
 cases h0 : (k == 0) with
 | true => rfl
 | false =>
   cases h1 : (k == 1) with
   | true => rfl
   | false => rfl
theorem rso_less (l : LCH) (k x y : Int) : (decide (F104 (l.getD (toNat x) default) k < F104 (l.getD (toNat y) default) k) || ((F104 (l.getD (toNat x) default) k == F104 (l.getD (toNat y) default) k) && decide (x < y))) = ltc (cOf l k) x y := by
 rw [key_eq, key_eq]
 cases h : ltc (cOf l k) x y with
 | true => rw [ltc_iff] at h; simp; exact h
 | false => rw [ltc_f] at h; simp; omega
section
open Go.Sort
variable {l : LCH} {ns : List Int} {k : Int}
theorem rso1_eq {n : Nat} (hn : n ≤ 1048576) (hns : ns.length = n) : ∀ (m : Nat) (d : Array Int) (j : Nat) (w : Int), d.size = n → j < n → j < m →
   loopF (S83_L_L_1 l ns k) m (wp ns 0 d, w, (j : Int)) = .inl (wp ns 0 (insInner (ltc (cOf l k)) 0 j d), w + 1)
 | 0, _, _, _, _, _, h => absurd h (nlz _)
 | m + 1, d, 0, w, hd, hj, hm => by
   refine loopF_inr ?_
   simp only [S83_L_L_1]
   rw [dqf (by omega), cond_false]; rfl
 | m + 1, d, j + 1, w, hd, hj, hm => by
   have hl' : 0 + d.size ≤ ns.length := by omega
   have e1 : W (((j + 1 : Nat) : Int) - 1) = ((j : Nat) : Int) := wN (by omega) (by omega)
   have g1 := wp_get hl' (i := j + 1) (by omega)
   have g0 := wp_get hl' (i := j) (by omega)
   have gs := wp_swp hl' (i := j + 1) (j := j) (by omega) (by omega)
   rw [Nat.zero_add] at g1 g0
   rw [Nat.zero_add, Nat.zero_add] at gs
   rw [insInner, dqt (show j + 1 > 0 by omega), Bool.true_and]
   have e : S83_L_L_1 l ns k (wp ns 0 d, w, ((j + 1 : Nat) : Int)) = bif ltc (cOf l k) d[j + 1]! d[j]! then .inl (wp ns 0 (swp d (j + 1) j), w, (j : Int)) else .inr (.inl (wp ns 0 d, w + 1)) := by
     rw [← rso_less]
     simp only [S83_L_L_1, e1, itn]
     rw [dqt (show ((j + 1 : Nat) : Int) > 0 by omega), cond_true, gs, g1, g0]
     cases decide (F104 (l.getD (toNat d[j + 1]!) default) k < F104 (l.getD (toNat d[j]!) default) k) with
     | true => rfl
     | false =>
       cases (F104 (l.getD (toNat d[j + 1]!) default) k == F104 (l.getD (toNat d[j]!) default) k) with
       | false => rfl
       | true => cases decide (d[j + 1]! < d[j]!) <;> rfl
   cases q : ltc (cOf l k) d[j + 1]! d[j]! with
   | true =>
     rw [q, cond_true] at e
     rw [loopF_inl e]
     exact rso1_eq hn hns m _ j w (by rw [Go.Sort.size_swp]; exact hd) (by omega) (by omega)
   | false => rw [q, cond_false] at e; exact loopF_inr e
theorem rso0_eq {n : Nat} (hn : n ≤ 1048576) (hns : ns.length = n) : ∀ (m : Nat) (d : Array Int) (i : Nat), d.size = n → n - i < m →
   loopF (S83_L_L_0 l ns k) m (wp ns 0 d, (i : Int)) = wp ns 0 (insOuter (ltc (cOf l k)) 0 n i d)
 | 0, _, _, _, h => absurd h (nlz _)
 | m + 1, d, i, hd, hm => by
   rw [insOuter]
   have hlen : (wp ns 0 d).length = n := by rw [wp_len (by omega), hns]
   by_cases h1 : i < n
   · rw [if_pos h1]
     have e : S83_L_L_0 l ns k (wp ns 0 d, (i : Int)) = loopF (S83_L_L_1 l ns k) (toNat (i : Int) + 1) (wp ns 0 d, (i : Int), (i : Int)) := by
       simp only [S83_L_L_0]; rw [dqt (by omega), cond_true]
     rw [loopF_inl (e.trans (rso1_eq hn hns _ d i _ hd (by omega) (by omega)))]
     exact rso0_eq hn hns m _ (i + 1) (by rw [insInner_size]; exact hd) (by omega)
   · rw [if_neg h1]
     refine loopF_inr ?_
     simp only [S83_L_L_0]; rw [dqf (by omega), cond_false]
def srt (l : LCH) (k : Int) (ns : List Int) : List Int := ns.mergeSort (fun x y => !ltc (cOf l k) y x)
theorem srt_len (l : LCH) (k : Int) (ns : List Int) : (srt l k ns).length = ns.length := (List.mergeSort_perm ns _).length_eq
theorem srt_inr {N : Nat} (h : InR N ns) : InR N (srt l k ns) := fun x hx => h x ((List.mergeSort_perm ns _).mem_iff.1 hx)
theorem wp_all {n : Nat} (h : ns.length = n) {d : Array Int} (hd : d.size = n) : wp ns 0 d = d.toList := by unfold wp; rw [Nat.zero_add, hd, ← h, List.drop_length]; simp
theorem ltc_cOf (c : SBC) : ltc c = ltc (cOf c.1.1 c.2) := rfl
theorem perm_srt {c : SBC} {d d' : Array Int} (h1 : PermIn 0 d.size d d') (h2 : SortedIn (ltc c) 0 d.size d') : d'.toList = srt c.1.1 c.2 d.toList := by
 unfold srt
 rw [← ltc_cOf]
 exact sorted_unique_holds (lt := ltc c) (ltc_swo c) (ltc_tot c) d d' h1 h2
theorem rso_eq (h : ns.length ≤ 1048576) : F83_L_L l ns k = srt l k ns := by
 unfold F83_L_L
 have hz : (ns.toArray).size = ns.length := by simp
 have hw : wp ns 0 ns.toArray = ns := by rw [wp_all rfl hz]
 have h1 := insertionSort_holds (lt := ltc (cOf l k)) (ltc_swo _) ns.toArray 0 ns.length (Nat.zero_le _) (by rw [hz]; exact Nat.le_refl _)
 have h0 := rso0_eq (l := l) (k := k) h rfl (toNat ((((([] : List (Int)) ++ ns).length : Nat) : Int) - 1) + 1) ns.toArray 1 hz (by rw [List.nil_append]; omega)
 have e : insOuter (ltc (cOf l k)) 0 ns.length 1 ns.toArray = insertionSort (ltc (cOf l k)) ns.toArray 0 ns.length := rfl
 rw [hw, e, wp_all (n := ns.length) (d := insertionSort (ltc (cOf l k)) ns.toArray 0 ns.length) rfl (by rw [h1.1.1]; exact hz), perm_srt (c := cOf l k) (by rw [hz]; exact h1.1) (by rw [hz]; exact h1.2)] at h0
 exact h0
theorem sf_srt {v : List Int} {o n : Nat} {c : SBC} (hw : o + n ≤ v.length ∧ v.length ≤ 1048576) :
   F75_W_b77 v o n c = v.take o ++ srt c.1.1 c.2 ((v.drop o).take n) ++ v.drop (o + n) := by
 have hz := wArr_size hw.1
 have hb : bitsLen n ≤ 1048576 := Nat.le_trans ((bitsLen_le_iff n 62).2 (by omega)) (by omega)
 have h := pdq_eq (l := v) hw.1 (by omega) (toNat (((n : Nat) : Int) - 0) + 1) ((c.1.1, c.1.2.1, (v, c.1.2.2.2)), c.2) (wArr v o n) 0 n (bitsLen n) hz (Nat.zero_le _) (Nat.le_refl _) hb (by omega)
 have hs := pdq_sorts (ltc ((c.1.1, c.1.2.1, (v, c.1.2.2.2)), c.2)) (ltc_swo _) (wArr v o n) 0 n (bitsLen n) true true (Nat.zero_le _) (by rw [hz]; exact Nat.le_refl _) (Or.inl rfl)
 rw [wp_win hw.1] at h
 have e : F75_W_b77 v o n c = R93_W_b77 (toNat (((n : Nat) : Int) - 0) + 1) v o n ((0 : Nat) : Int) ((n : Nat) : Int) ((bitsLen n : Nat) : Int) ((c.1.1, c.1.2.1, (v, c.1.2.2.2)), c.2) := by
   unfold F75_W_b77 F93_W_b77 F94
   rw [show IntKind.wrap .u64 ((n : Nat) : Int) = n by rw [IntKind.wrap_u64]; omega, itn, bitLen_eq _ (by omega)]
   rfl
 rw [e, h.1]
 unfold wp
 rw [h.2, perm_srt (c := ((c.1.1, c.1.2.1, (v, c.1.2.2.2)), c.2)) (d := wArr v o n) (by rw [hz]; exact hs.1) (by rw [hz]; exact hs.2)]
 rfl
end
theorem hf_eq {n : Nat} (h : n ≤ 1048576) : W (Int.tdiv (W (((n : Nat) : Int) + 1)) 2) = (((n + 1) / 2 : Nat) : Int) := by
 rw [wN (x := ((n : Nat) : Int) + 1) (n := n + 1) (by omega) (by omega), Int.tdiv_eq_ediv_of_nonneg (by omega)]; exact wN (by omega) (by omega)

end Go.Proofs.Ytnbpiejjeeomkaa

namespace Go.Proofs.Ytnbpiejjeeomkaa
open Go.Proofs Go.Aw Go.RowKit
set_option maxRecDepth 100000

structure GRR (t r : TR) (ns : List Int) : Prop where
 ol : r.1.length = t.1.length + ns.length
 lo : t.2.length < r.2.length
 hi : r.2.length ≤ t.2.length + 2 * ns.length - 1
section
variable {l : LCH} {t : TR} {ns : List Int} {leaf : Int} {x : Int × Int × Int × Int × (Int × Int × Int) × Int}
theorem grw_s (hp : PGRW l t ns leaf) (k : Int) : (F83_L_L l ns k).length = ns.length ∧ InR l.length (F83_L_L l ns k) := by
 rw [rso_eq (by have := hp.rng; omega)]
 exact ⟨srt_len _ _ _, srt_inr hp.inr⟩
theorem pgrw1 (hp : PGRW l t ns leaf) (k : Int) (h2 : 2 ≤ ns.length) : PGRW l (t.1, t.2 ++ [x]) (Aw.part (F83_L_L l ns k) 0 (W (Int.tdiv (W ((((F83_L_L l ns k).length : Nat) : Int) + 1)) 2))) leaf := by
 have hs := grw_s hp k
 have h := hp.rng; have hn := hp.nds
 rw [hf_eq (by omega), hs.1]
 have hpt := part_len (l := F83_L_L l ns k) (a := 0) (b := (((ns.length + 1) / 2 : Nat) : Int)) (by omega)
 refine ⟨hs.2.part _ _, ⟨by rw [hpt]; omega, ?_⟩, ?_, hp.lf⟩
 · rw [hpt]; dsimp only; omega
 · rw [hpt]; simp only [List.length_append, List.length_cons, List.length_nil]; omega
theorem pgrw2 {r : TR} (hp : PGRW l t ns leaf) (k : Int) (h2 : 2 ≤ ns.length) (hr : GRR (t.1, t.2 ++ [x]) r (Aw.part (F83_L_L l ns k) 0 (W (Int.tdiv (W ((((F83_L_L l ns k).length : Nat) : Int) + 1)) 2)))) :
   PGRW l (r.1, r.2) (Aw.part (F83_L_L l ns k) (W (Int.tdiv (W ((((F83_L_L l ns k).length : Nat) : Int) + 1)) 2)) (((F83_L_L l ns k).length : Nat) : Int)) leaf := by
 have hs := grw_s hp k
 have h := hp.rng; have hn := hp.nds
 obtain ⟨g1, g2, g3⟩ := hr
 rw [hf_eq (by omega), hs.1] at g1 g3 ⊢
 have hpt1 := part_len (l := F83_L_L l ns k) (a := 0) (b := (((ns.length + 1) / 2 : Nat) : Int)) (by omega)
 have hpt2 := part_len (l := F83_L_L l ns k) (a := (((ns.length + 1) / 2 : Nat) : Int)) (b := (ns.length : Int)) (by omega)
 rw [hpt1] at g1 g3
 simp only [List.length_append, List.length_cons, List.length_nil] at g1 g2 g3
 refine ⟨hs.2.part _ _, ⟨by rw [hpt2]; omega, ?_⟩, ?_, hp.lf⟩
 · rw [hpt2]; dsimp only; omega
 · rw [hpt2]; dsimp only; omega
end

def A60_L_z00_L_1 (a0 : TyL) (a1 : List (Int) × TyN) (a2 : List (Int)) (a3 : Int) := (F81_L (F82_L_L a0 a2) ((F80_L_L a0 a2 0), (F80_L_L a0 a2 1), (F80_L_L a0 a2 2)))

def A60_L_z00_L_2 (rr : TyL → (List (Int) × TyN) → (List (Int)) → (Int) → List (Int) × TyN) (a0 : TyL) (a1 : List (Int) × TyN) (a2 : List (Int)) (a3 : Int) := (rr a0 (a1.1, (a1.2 ++ [((a1.1.length : Int), (W ((a1.1.length : Int) + (a2.length : Int))), (-1), (-1), ((F80_L_L a0 a2 0), (F80_L_L a0 a2 1), (F80_L_L a0 a2 2)), (A60_L_z00_L_1 a0 a1 a2 a3).1)])) (Aw.part (F83_L_L a0 a2 (F84_L_L a0 a2)) 0 (W (Int.tdiv (W ((((F83_L_L a0 a2 (F84_L_L a0 a2)).length : Nat) : Int) + 1)) 2))) a3)

def A60_L_z00_L_3 (rr : TyL → (List (Int) × TyN) → (List (Int)) → (Int) → List (Int) × TyN) (a0 : TyL) (a1 : List (Int) × TyN) (a2 : List (Int)) (a3 : Int) := (rr a0 ((A60_L_z00_L_2 (rr) a0 a1 a2 a3).1, (A60_L_z00_L_2 (rr) a0 a1 a2 a3).2) (Aw.part (F83_L_L a0 a2 (F84_L_L a0 a2)) (W (Int.tdiv (W ((((F83_L_L a0 a2 (F84_L_L a0 a2)).length : Nat) : Int) + 1)) 2)) (((F83_L_L a0 a2 (F84_L_L a0 a2)).length : Nat) : Int)) a3)

def R60_L_z00_L : Nat → TyL → (List (Int) × TyN) → (List (Int)) → (Int) → List (Int) × TyN
 | 0, _, _, _, _ => default
 | nr + 1, a0, a1, a2, a3 =>
 (bif (decide (((a2.length : Int) : Int) ≤ a3)) then
  ((a1.1 ++ a2), (a1.2 ++ [((a1.1.length : Int), (W ((a1.1.length : Int) + (a2.length : Int))), (-1), (-1), ((F80_L_L a0 a2 0), (F80_L_L a0 a2 1), (F80_L_L a0 a2 2)), (A60_L_z00_L_1 a0 a1 a2 a3).1)]))
 else
  ((A60_L_z00_L_3 (R60_L_z00_L nr) a0 a1 a2 a3).1, (((A60_L_z00_L_3 (R60_L_z00_L nr) a0 a1 a2 a3).2.set (toNat (a1.2.length : Int)) (((A60_L_z00_L_3 (R60_L_z00_L nr) a0 a1 a2 a3).2.getD (toNat (a1.2.length : Int)) default).1, ((A60_L_z00_L_3 (R60_L_z00_L nr) a0 a1 a2 a3).2.getD (toNat (a1.2.length : Int)) default).2.1, (((a1.2.length + 1) : Nat) : Int), ((A60_L_z00_L_3 (R60_L_z00_L nr) a0 a1 a2 a3).2.getD (toNat (a1.2.length : Int)) default).2.2.2.1, ((A60_L_z00_L_3 (R60_L_z00_L nr) a0 a1 a2 a3).2.getD (toNat (a1.2.length : Int)) default).2.2.2.2.1, ((A60_L_z00_L_3 (R60_L_z00_L nr) a0 a1 a2 a3).2.getD (toNat (a1.2.length : Int)) default).2.2.2.2.2)).set (toNat (a1.2.length : Int)) ((((A60_L_z00_L_3 (R60_L_z00_L nr) a0 a1 a2 a3).2.set (toNat (a1.2.length : Int)) (((A60_L_z00_L_3 (R60_L_z00_L nr) a0 a1 a2 a3).2.getD (toNat (a1.2.length : Int)) default).1, ((A60_L_z00_L_3 (R60_L_z00_L nr) a0 a1 a2 a3).2.getD (toNat (a1.2.length : Int)) default).2.1, (((a1.2.length + 1) : Nat) : Int), ((A60_L_z00_L_3 (R60_L_z00_L nr) a0 a1 a2 a3).2.getD (toNat (a1.2.length : Int)) default).2.2.2.1, ((A60_L_z00_L_3 (R60_L_z00_L nr) a0 a1 a2 a3).2.getD (toNat (a1.2.length : Int)) default).2.2.2.2.1, ((A60_L_z00_L_3 (R60_L_z00_L nr) a0 a1 a2 a3).2.getD (toNat (a1.2.length : Int)) default).2.2.2.2.2)).getD (toNat (a1.2.length : Int)) default).1, (((A60_L_z00_L_3 (R60_L_z00_L nr) a0 a1 a2 a3).2.set (toNat (a1.2.length : Int)) (((A60_L_z00_L_3 (R60_L_z00_L nr) a0 a1 a2 a3).2.getD (toNat (a1.2.length : Int)) default).1, ((A60_L_z00_L_3 (R60_L_z00_L nr) a0 a1 a2 a3).2.getD (toNat (a1.2.length : Int)) default).2.1, (((a1.2.length + 1) : Nat) : Int), ((A60_L_z00_L_3 (R60_L_z00_L nr) a0 a1 a2 a3).2.getD (toNat (a1.2.length : Int)) default).2.2.2.1, ((A60_L_z00_L_3 (R60_L_z00_L nr) a0 a1 a2 a3).2.getD (toNat (a1.2.length : Int)) default).2.2.2.2.1, ((A60_L_z00_L_3 (R60_L_z00_L nr) a0 a1 a2 a3).2.getD (toNat (a1.2.length : Int)) default).2.2.2.2.2)).getD (toNat (a1.2.length : Int)) default).2.1, (((A60_L_z00_L_3 (R60_L_z00_L nr) a0 a1 a2 a3).2.set (toNat (a1.2.length : Int)) (((A60_L_z00_L_3 (R60_L_z00_L nr) a0 a1 a2 a3).2.getD (toNat (a1.2.length : Int)) default).1, ((A60_L_z00_L_3 (R60_L_z00_L nr) a0 a1 a2 a3).2.getD (toNat (a1.2.length : Int)) default).2.1, (((a1.2.length + 1) : Nat) : Int), ((A60_L_z00_L_3 (R60_L_z00_L nr) a0 a1 a2 a3).2.getD (toNat (a1.2.length : Int)) default).2.2.2.1, ((A60_L_z00_L_3 (R60_L_z00_L nr) a0 a1 a2 a3).2.getD (toNat (a1.2.length : Int)) default).2.2.2.2.1, ((A60_L_z00_L_3 (R60_L_z00_L nr) a0 a1 a2 a3).2.getD (toNat (a1.2.length : Int)) default).2.2.2.2.2)).getD (toNat (a1.2.length : Int)) default).2.2.1, (((A60_L_z00_L_2 (R60_L_z00_L nr) a0 a1 a2 a3).2.length : Nat) : Int), (((A60_L_z00_L_3 (R60_L_z00_L nr) a0 a1 a2 a3).2.set (toNat (a1.2.length : Int)) (((A60_L_z00_L_3 (R60_L_z00_L nr) a0 a1 a2 a3).2.getD (toNat (a1.2.length : Int)) default).1, ((A60_L_z00_L_3 (R60_L_z00_L nr) a0 a1 a2 a3).2.getD (toNat (a1.2.length : Int)) default).2.1, (((a1.2.length + 1) : Nat) : Int), ((A60_L_z00_L_3 (R60_L_z00_L nr) a0 a1 a2 a3).2.getD (toNat (a1.2.length : Int)) default).2.2.2.1, ((A60_L_z00_L_3 (R60_L_z00_L nr) a0 a1 a2 a3).2.getD (toNat (a1.2.length : Int)) default).2.2.2.2.1, ((A60_L_z00_L_3 (R60_L_z00_L nr) a0 a1 a2 a3).2.getD (toNat (a1.2.length : Int)) default).2.2.2.2.2)).getD (toNat (a1.2.length : Int)) default).2.2.2.2.1, (((A60_L_z00_L_3 (R60_L_z00_L nr) a0 a1 a2 a3).2.set (toNat (a1.2.length : Int)) (((A60_L_z00_L_3 (R60_L_z00_L nr) a0 a1 a2 a3).2.getD (toNat (a1.2.length : Int)) default).1, ((A60_L_z00_L_3 (R60_L_z00_L nr) a0 a1 a2 a3).2.getD (toNat (a1.2.length : Int)) default).2.1, (((a1.2.length + 1) : Nat) : Int), ((A60_L_z00_L_3 (R60_L_z00_L nr) a0 a1 a2 a3).2.getD (toNat (a1.2.length : Int)) default).2.2.2.1, ((A60_L_z00_L_3 (R60_L_z00_L nr) a0 a1 a2 a3).2.getD (toNat (a1.2.length : Int)) default).2.2.2.2.1, ((A60_L_z00_L_3 (R60_L_z00_L nr) a0 a1 a2 a3).2.getD (toNat (a1.2.length : Int)) default).2.2.2.2.2)).getD (toNat (a1.2.length : Int)) default).2.2.2.2.2))))

def F60_L_z00_L (a0 : TyL) (a1 : List (Int) × TyN) (a2 : List (Int)) (a3 : Int) : List (Int) × TyN := R60_L_z00_L (a2.length + 1) a0 a1 a2 a3

theorem grw_inv : ∀ (nr : Nat) (l : LCH) (t : TR) (ns : List Int) (leaf : Int), PGRW l t ns leaf → ns.length < nr → GRR t (R60_L_z00_L nr l t ns leaf) ns
 | 0, _, _, _, _, _, h => absurd h (nlz _)
 | nr + 1, l, t, ns, leaf, hp, hn => by
   have h := hp.rng; have hl := hp.lf
   simp only [R60_L_z00_L]
   by_cases h0 : (ns.length : Int) ≤ leaf
   · rw [dqt h0, cond_true]
     exact ⟨by simp, by simp, by simp; omega⟩
   · rw [dqf h0, cond_false]
     have h2 : 2 ≤ ns.length := by omega
     have hs := grw_s hp (F84_L_L l ns)
     have hf := hf_eq (n := ns.length) (by omega)
     have hpt1 := part_len (l := F83_L_L l ns (F84_L_L l ns)) (a := 0) (b := (((ns.length + 1) / 2 : Nat) : Int)) (by omega)
     have hpt2 := part_len (l := F83_L_L l ns (F84_L_L l ns)) (a := (((ns.length + 1) / 2 : Nat) : Int)) (b := (ns.length : Int)) (by omega)
     have h5 : GRR _ (A60_L_z00_L_2 (R60_L_z00_L nr) l t ns leaf) _ := grw_inv nr _ _ _ _ (pgrw1 hp _ h2) (by rw [hs.1, hf, hpt1]; omega)
     have h6 : GRR _ (A60_L_z00_L_3 (R60_L_z00_L nr) l t ns leaf) _ := grw_inv nr _ _ _ _ (pgrw2 hp _ h2 h5) (by rw [hs.1, hf, hpt2]; omega)
     obtain ⟨g1, g2, g3⟩ := h5
     obtain ⟨f1, f2, f3⟩ := h6
     rw [hs.1, hf, hpt1] at g1 g3
     rw [hs.1, hf, hpt2] at f1 f3
     dsimp only at g1 g2 g3 f1 f2 f3
     simp only [List.length_append, List.length_cons, List.length_nil] at g1 g2 g3
     exact ⟨by dsimp only; omega, by simp only [List.length_set]; omega, by simp only [List.length_set]; omega⟩

theorem Cr60_L_z00_L : ∀ (nr : Nat) (a0 : TyL) (a1 : List (Int) × TyN) (a2 : List (Int)) (a3 : Int) (l0 : a0.length ≤ 9223372036854775807) (l1_1 : a1.1.length ≤ 9223372036854775807) (l1_2 : a1.2.length ≤ 9223372036854775807) (l2 : a2.length ≤ 9223372036854775807) (hp : PGRW a0 a1 a2 a3), a2.length < nr → Con Try.prog 60 [(.s 0 0 a0.length 10), (.a [(.s 1 0 a1.1.length 1), (.s 2 0 a1.2.length 8)]), (.s 3 0 a2.length 1), (iv a3)] [(.live false true (flat c81 a0)), (.live true true (flat c3 a1.1)), (.live true true (flat c40 a1.2)), (.live false true (flat c3 a2))] (.a [(.s 4 0 (R60_L_z00_L nr a0 a1 a2 a3).1.length 1), (.s 5 0 (R60_L_z00_L nr a0 a1 a2 a3).2.length 8)]) [(.live true true (flat c3 (R60_L_z00_L nr a0 a1 a2 a3).1)), (.live true true (flat c40 (R60_L_z00_L nr a0 a1 a2 a3).2))] [.un, .dead, .dead, .un] := by
 intro nr
 induction nr with
 | zero => intro a0 a1 a2 a3 l0 l1_1 l1_2 l2 hp hlt; exact absurd hlt (nlz _)
 | succ nr ihr =>
 intro a0 a1 a2 a3 l0 l1_1 l1_2 l2 hp hlt
 refine con_s Try.func60 (by kernel_rfl) fun cx hcx => ?_
 have hpr := hp.rng
 have hpn := hp.nds
 try dsimp only at hpr hpn
 try simp only [List.length_nil, Nat.zero_add] at hpr hpn
 have hpl := hp.lf
 have hpk := rpi_len a0 a2
 have hso := grw_s hp (F84_L_L a0 a2)
 obtain ⟨hso1, hso2⟩ := hso
 have hhf : (W (Int.tdiv (W ((((F83_L_L a0 a2 (F84_L_L a0 a2)).length : Nat) : Int) + 1)) 2)) = (((a2.length + 1) / 2 : Nat) : Int) := by rw [hso1]; exact hf_eq (by omega)
 have hpt1 : (Aw.part (F83_L_L a0 a2 (F84_L_L a0 a2)) 0 (W (Int.tdiv (W ((((F83_L_L a0 a2 (F84_L_L a0 a2)).length : Nat) : Int) + 1)) 2))).length = (a2.length + 1) / 2 := by rw [part_len (by omega)]; omega
 have hpt2 : (Aw.part (F83_L_L a0 a2 (F84_L_L a0 a2)) (W (Int.tdiv (W ((((F83_L_L a0 a2 (F84_L_L a0 a2)).length : Nat) : Int) + 1)) 2)) (((F83_L_L a0 a2 (F84_L_L a0 a2)).length : Nat) : Int)).length = a2.length - (a2.length + 1) / 2 := by rw [part_len (by omega)]; omega
 try have h2 : 2 ≤ a2.length := (fun _ => by omega) h0
 try have h5 : GRR _ (A60_L_z10_L_2 (R60_L_z10_L nr) a0 a1 a2 a3) _ := (fun _ => grw_inv10 nr a0 ([], _) _ a3 (pgrw1 hp _ h2) (by omega)) h0
 try have h6 : GRR _ (A60_L_z10_L_3 (R60_L_z10_L nr) a0 a1 a2 a3) _ := (fun _ => grw_inv _ _ _ _ _ (pgrw2 hp _ h2 h5) (lss _)) h0
 try have h5 : GRR _ (A60_L_z00_L_2 (R60_L_z00_L nr) a0 a1 a2 a3) _ := (fun _ => grw_inv nr _ _ _ _ (pgrw1 hp _ h2) (by omega)) h0
 try have h6 : GRR _ (A60_L_z00_L_3 (R60_L_z00_L nr) a0 a1 a2 a3) _ := (fun _ => grw_inv nr _ _ _ _ (pgrw2 hp _ h2 h5) (by omega)) h0
 try have h5 : GRR _ (A60_L_z11_L_2 a0 a1 a2 a3) _ := (fun _ => grw_inv10 _ a0 ([], _) _ a3 (pgrw1 (t := ([], [])) hp _ h2) (lss _)) h0
 try have h6 : GRR _ (A60_L_z11_L_3 a0 a1 a2 a3) _ := (fun _ => grw_inv _ _ _ _ _ (pgrw2 (t := ([], [])) hp _ h2 h5) (lss _)) h0
 try have g1 := (fun _ => h5.ol) h0
 try have g2 := (fun _ => h5.lo) h0
 try have g3 := (fun _ => h5.hi) h0
 try have f1 := (fun _ => h6.ol) h0
 try have f2 := (fun _ => h6.lo) h0
 try have f3 := (fun _ => h6.hi) h0
 try (have _ := h0; simp only [List.length_append, List.length_cons, List.length_nil] at g1 g2 g3 f1 f2 f3)
 let t0 : List (St Try.prog) := [.c [0, 3] (C80_L_L a0 a2 0 (by omega) (by omega) hp.inr (by omega)), .c [0, 3] (C80_L_L a0 a2 1 (by omega) (by omega) hp.inr (by omega)), .c [0, 3] (C80_L_L a0 a2 2 (by omega) (by omega) hp.inr (by omega)), .c [0, 3] (C82_L_L a0 a2 (by omega) (by omega) hp.inr (by omega)), .c [7] (C81_L (F82_L_L a0 a2) ((F80_L_L a0 a2 0), (F80_L_L a0 a2 1), (F80_L_L a0 a2 2)) (by (try simp only [Lt]); omega)), .p (show ((flat c40 a1.2).length = a1.2.length * 8 ∧ a1.2.length + 1 ≤ 2 ^ 40 ∧ (a1.2.length + 1) * 64 ≤ 2 ^ 47) from app_ok c40_len (by omega) (by omega))]
 cases h0 : (decide (((a2.length : Int) : Int) ≤ a3)) with
 | true =>
  have q0 := odt h0
  try have h2 : 2 ≤ a2.length := (fun _ => by omega) h0
  try have h5 : GRR _ (A60_L_z10_L_2 (R60_L_z10_L nr) a0 a1 a2 a3) _ := (fun _ => grw_inv10 nr a0 ([], _) _ a3 (pgrw1 hp _ h2) (by omega)) h0
  try have h6 : GRR _ (A60_L_z10_L_3 (R60_L_z10_L nr) a0 a1 a2 a3) _ := (fun _ => grw_inv _ _ _ _ _ (pgrw2 hp _ h2 h5) (lss _)) h0
  try have h5 : GRR _ (A60_L_z00_L_2 (R60_L_z00_L nr) a0 a1 a2 a3) _ := (fun _ => grw_inv nr _ _ _ _ (pgrw1 hp _ h2) (by omega)) h0
  try have h6 : GRR _ (A60_L_z00_L_3 (R60_L_z00_L nr) a0 a1 a2 a3) _ := (fun _ => grw_inv nr _ _ _ _ (pgrw2 hp _ h2 h5) (by omega)) h0
  try have h5 : GRR _ (A60_L_z11_L_2 a0 a1 a2 a3) _ := (fun _ => grw_inv10 _ a0 ([], _) _ a3 (pgrw1 (t := ([], [])) hp _ h2) (lss _)) h0
  try have h6 : GRR _ (A60_L_z11_L_3 a0 a1 a2 a3) _ := (fun _ => grw_inv _ _ _ _ _ (pgrw2 (t := ([], [])) hp _ h2 h5) (lss _)) h0
  try have g1 := (fun _ => h5.ol) h0
  try have g2 := (fun _ => h5.lo) h0
  try have g3 := (fun _ => h5.hi) h0
  try have f1 := (fun _ => h6.ol) h0
  try have f2 := (fun _ => h6.lo) h0
  try have f3 := (fun _ => h6.hi) h0
  try (have _ := h0; simp only [List.length_append, List.length_cons, List.length_nil] at g1 g2 g3 f1 f2 f3)
  have e := Eq.refl (R60_L_z00_L (nr + 1) a0 a1 a2 a3); conv at e => rhs; simp only [R60_L_z00_L, h0, cdb]
  rw [e]
  try dsimp only [thenF]
  try dsimp only
  rw [show flat c3 (a1.1 ++ a2) = ((flat c3 a1.1) ++ (flat c3 a2)) from Eq.symm (by simp [flat])]
  try rw [show List.length (α := Int) (a1.1 ++ a2) = (a1.1.length + a2.length) from by first | simp; done | omega]
  rw [show flat c40 (a1.2 ++ [((a1.1.length : Int), (W ((a1.1.length : Int) + (a2.length : Int))), (-1), (-1), ((F80_L_L a0 a2 0), (F80_L_L a0 a2 1), (F80_L_L a0 a2 2)), (A60_L_z00_L_1 a0 a1 a2 a3).1)]) = (flat c40 a1.2 ++ [(iv (a1.1.length : Int)), (iv (W ((a1.1.length : Int) + (a2.length : Int)))), (iv (-1)), (iv (-1)), (iv (F80_L_L a0 a2 0)), (iv (F80_L_L a0 a2 1)), (iv (F80_L_L a0 a2 2)), (iv (A60_L_z00_L_1 a0 a1 a2 a3).1)]) from flat_append]
  try rw [show List.length (α := Int × Int × Int × Int × (Int × Int × Int) × Int) (a1.2 ++ [((a1.1.length : Int), (W ((a1.1.length : Int) + (a2.length : Int))), (-1), (-1), ((F80_L_L a0 a2 0), (F80_L_L a0 a2 1), (F80_L_L a0 a2 2)), (A60_L_z00_L_1 a0 a1 a2 a3).1)]) = (a1.2.length + 1) from by first | simp; done | omega]
  exact rtm (t0 ++ [.d h0, .p (show ((flat c3 a1.1).length = a1.1.length * 1 ∧ (flat c3 a2).length = a2.length * 1 ∧ (flat c3 a2).all SV.one = true ∧ a1.1.length + a2.length ≤ 2 ^ 40 ∧ (a1.1.length + a2.length) * 8 ≤ 2 ^ 47) from by refine ⟨?_, ?_, ?_, ?_, ?_⟩ <;> first | omega | exact flat_one (fun _ => rfl) | (simp [flat_lenc c3_len]; done) | (simp [flat_lenc c3_len]; omega))]) [] [1, 2] [10, 9] hcx (by kernel_rfl)
 | false =>
  have q0 := odf h0
  try have h2 : 2 ≤ a2.length := (fun _ => by omega) h0
  try have h5 : GRR _ (A60_L_z10_L_2 (R60_L_z10_L nr) a0 a1 a2 a3) _ := (fun _ => grw_inv10 nr a0 ([], _) _ a3 (pgrw1 hp _ h2) (by omega)) h0
  try have h6 : GRR _ (A60_L_z10_L_3 (R60_L_z10_L nr) a0 a1 a2 a3) _ := (fun _ => grw_inv _ _ _ _ _ (pgrw2 hp _ h2 h5) (lss _)) h0
  try have h5 : GRR _ (A60_L_z00_L_2 (R60_L_z00_L nr) a0 a1 a2 a3) _ := (fun _ => grw_inv nr _ _ _ _ (pgrw1 hp _ h2) (by omega)) h0
  try have h6 : GRR _ (A60_L_z00_L_3 (R60_L_z00_L nr) a0 a1 a2 a3) _ := (fun _ => grw_inv nr _ _ _ _ (pgrw2 hp _ h2 h5) (by omega)) h0
  try have h5 : GRR _ (A60_L_z11_L_2 a0 a1 a2 a3) _ := (fun _ => grw_inv10 _ a0 ([], _) _ a3 (pgrw1 (t := ([], [])) hp _ h2) (lss _)) h0
  try have h6 : GRR _ (A60_L_z11_L_3 a0 a1 a2 a3) _ := (fun _ => grw_inv _ _ _ _ _ (pgrw2 (t := ([], [])) hp _ h2 h5) (lss _)) h0
  try have g1 := (fun _ => h5.ol) h0
  try have g2 := (fun _ => h5.lo) h0
  try have g3 := (fun _ => h5.hi) h0
  try have f1 := (fun _ => h6.ol) h0
  try have f2 := (fun _ => h6.lo) h0
  try have f3 := (fun _ => h6.hi) h0
  try (have _ := h0; simp only [List.length_append, List.length_cons, List.length_nil] at g1 g2 g3 f1 f2 f3)
  have e := Eq.refl (R60_L_z00_L (nr + 1) a0 a1 a2 a3); conv at e => rhs; simp only [R60_L_z00_L, h0, cdb]
  rw [e]
  try dsimp only [thenF]
  try dsimp only
  rw [show flat c40 (((A60_L_z00_L_3 (R60_L_z00_L nr) a0 a1 a2 a3).2.set (toNat (a1.2.length : Int)) (((A60_L_z00_L_3 (R60_L_z00_L nr) a0 a1 a2 a3).2.getD (toNat (a1.2.length : Int)) default).1, ((A60_L_z00_L_3 (R60_L_z00_L nr) a0 a1 a2 a3).2.getD (toNat (a1.2.length : Int)) default).2.1, (((a1.2.length + 1) : Nat) : Int), ((A60_L_z00_L_3 (R60_L_z00_L nr) a0 a1 a2 a3).2.getD (toNat (a1.2.length : Int)) default).2.2.2.1, ((A60_L_z00_L_3 (R60_L_z00_L nr) a0 a1 a2 a3).2.getD (toNat (a1.2.length : Int)) default).2.2.2.2.1, ((A60_L_z00_L_3 (R60_L_z00_L nr) a0 a1 a2 a3).2.getD (toNat (a1.2.length : Int)) default).2.2.2.2.2)).set (toNat (a1.2.length : Int)) ((((A60_L_z00_L_3 (R60_L_z00_L nr) a0 a1 a2 a3).2.set (toNat (a1.2.length : Int)) (((A60_L_z00_L_3 (R60_L_z00_L nr) a0 a1 a2 a3).2.getD (toNat (a1.2.length : Int)) default).1, ((A60_L_z00_L_3 (R60_L_z00_L nr) a0 a1 a2 a3).2.getD (toNat (a1.2.length : Int)) default).2.1, (((a1.2.length + 1) : Nat) : Int), ((A60_L_z00_L_3 (R60_L_z00_L nr) a0 a1 a2 a3).2.getD (toNat (a1.2.length : Int)) default).2.2.2.1, ((A60_L_z00_L_3 (R60_L_z00_L nr) a0 a1 a2 a3).2.getD (toNat (a1.2.length : Int)) default).2.2.2.2.1, ((A60_L_z00_L_3 (R60_L_z00_L nr) a0 a1 a2 a3).2.getD (toNat (a1.2.length : Int)) default).2.2.2.2.2)).getD (toNat (a1.2.length : Int)) default).1, (((A60_L_z00_L_3 (R60_L_z00_L nr) a0 a1 a2 a3).2.set (toNat (a1.2.length : Int)) (((A60_L_z00_L_3 (R60_L_z00_L nr) a0 a1 a2 a3).2.getD (toNat (a1.2.length : Int)) default).1, ((A60_L_z00_L_3 (R60_L_z00_L nr) a0 a1 a2 a3).2.getD (toNat (a1.2.length : Int)) default).2.1, (((a1.2.length + 1) : Nat) : Int), ((A60_L_z00_L_3 (R60_L_z00_L nr) a0 a1 a2 a3).2.getD (toNat (a1.2.length : Int)) default).2.2.2.1, ((A60_L_z00_L_3 (R60_L_z00_L nr) a0 a1 a2 a3).2.getD (toNat (a1.2.length : Int)) default).2.2.2.2.1, ((A60_L_z00_L_3 (R60_L_z00_L nr) a0 a1 a2 a3).2.getD (toNat (a1.2.length : Int)) default).2.2.2.2.2)).getD (toNat (a1.2.length : Int)) default).2.1, (((A60_L_z00_L_3 (R60_L_z00_L nr) a0 a1 a2 a3).2.set (toNat (a1.2.length : Int)) (((A60_L_z00_L_3 (R60_L_z00_L nr) a0 a1 a2 a3).2.getD (toNat (a1.2.length : Int)) default).1, ((A60_L_z00_L_3 (R60_L_z00_L nr) a0 a1 a2 a3).2.getD (toNat (a1.2.length : Int)) default).2.1, (((a1.2.length + 1) : Nat) : Int), ((A60_L_z00_L_3 (R60_L_z00_L nr) a0 a1 a2 a3).2.getD (toNat (a1.2.length : Int)) default).2.2.2.1, ((A60_L_z00_L_3 (R60_L_z00_L nr) a0 a1 a2 a3).2.getD (toNat (a1.2.length : Int)) default).2.2.2.2.1, ((A60_L_z00_L_3 (R60_L_z00_L nr) a0 a1 a2 a3).2.getD (toNat (a1.2.length : Int)) default).2.2.2.2.2)).getD (toNat (a1.2.length : Int)) default).2.2.1, (((A60_L_z00_L_2 (R60_L_z00_L nr) a0 a1 a2 a3).2.length : Nat) : Int), (((A60_L_z00_L_3 (R60_L_z00_L nr) a0 a1 a2 a3).2.set (toNat (a1.2.length : Int)) (((A60_L_z00_L_3 (R60_L_z00_L nr) a0 a1 a2 a3).2.getD (toNat (a1.2.length : Int)) default).1, ((A60_L_z00_L_3 (R60_L_z00_L nr) a0 a1 a2 a3).2.getD (toNat (a1.2.length : Int)) default).2.1, (((a1.2.length + 1) : Nat) : Int), ((A60_L_z00_L_3 (R60_L_z00_L nr) a0 a1 a2 a3).2.getD (toNat (a1.2.length : Int)) default).2.2.2.1, ((A60_L_z00_L_3 (R60_L_z00_L nr) a0 a1 a2 a3).2.getD (toNat (a1.2.length : Int)) default).2.2.2.2.1, ((A60_L_z00_L_3 (R60_L_z00_L nr) a0 a1 a2 a3).2.getD (toNat (a1.2.length : Int)) default).2.2.2.2.2)).getD (toNat (a1.2.length : Int)) default).2.2.2.2.1, (((A60_L_z00_L_3 (R60_L_z00_L nr) a0 a1 a2 a3).2.set (toNat (a1.2.length : Int)) (((A60_L_z00_L_3 (R60_L_z00_L nr) a0 a1 a2 a3).2.getD (toNat (a1.2.length : Int)) default).1, ((A60_L_z00_L_3 (R60_L_z00_L nr) a0 a1 a2 a3).2.getD (toNat (a1.2.length : Int)) default).2.1, (((a1.2.length + 1) : Nat) : Int), ((A60_L_z00_L_3 (R60_L_z00_L nr) a0 a1 a2 a3).2.getD (toNat (a1.2.length : Int)) default).2.2.2.1, ((A60_L_z00_L_3 (R60_L_z00_L nr) a0 a1 a2 a3).2.getD (toNat (a1.2.length : Int)) default).2.2.2.2.1, ((A60_L_z00_L_3 (R60_L_z00_L nr) a0 a1 a2 a3).2.getD (toNat (a1.2.length : Int)) default).2.2.2.2.2)).getD (toNat (a1.2.length : Int)) default).2.2.2.2.2)) = (splice (splice (flat c40 (A60_L_z00_L_3 (R60_L_z00_L nr) a0 a1 a2 a3).2) (0 + toNat (a1.2.length : Int) * 8 + 2) [(iv (((a1.2.length + 1) : Nat) : Int))]) (0 + toNat (a1.2.length : Int) * 8 + 3) [(iv (((A60_L_z00_L_2 (R60_L_z00_L nr) a0 a1 a2 a3).2.length : Nat) : Int))]) from Eq.symm (by rw [show (splice (flat c40 (A60_L_z00_L_3 (R60_L_z00_L nr) a0 a1 a2 a3).2) (0 + toNat (a1.2.length : Int) * 8 + 2) [(iv (((a1.2.length + 1) : Nat) : Int))]) = flat c40 ((A60_L_z00_L_3 (R60_L_z00_L nr) a0 a1 a2 a3).2.set (toNat (a1.2.length : Int)) (((A60_L_z00_L_3 (R60_L_z00_L nr) a0 a1 a2 a3).2.getD (toNat (a1.2.length : Int)) default).1, ((A60_L_z00_L_3 (R60_L_z00_L nr) a0 a1 a2 a3).2.getD (toNat (a1.2.length : Int)) default).2.1, (((a1.2.length + 1) : Nat) : Int), ((A60_L_z00_L_3 (R60_L_z00_L nr) a0 a1 a2 a3).2.getD (toNat (a1.2.length : Int)) default).2.2.2.1, ((A60_L_z00_L_3 (R60_L_z00_L nr) a0 a1 a2 a3).2.getD (toNat (a1.2.length : Int)) default).2.2.2.2.1, ((A60_L_z00_L_3 (R60_L_z00_L nr) a0 a1 a2 a3).2.getD (toNat (a1.2.length : Int)) default).2.2.2.2.2)) from (flat_set c40_len (by first | omega | (simp only [Lt]; omega)) (o := 2) (d := default) (Nb rfl) rfl)]; exact flat_set c40_len (by first | omega | (simp only [Lt]; omega)) (o := 3) (d := default) (Nb rfl) rfl)]
  try rw [show List.length (α := Int × Int × Int × Int × (Int × Int × Int) × Int) (((A60_L_z00_L_3 (R60_L_z00_L nr) a0 a1 a2 a3).2.set (toNat (a1.2.length : Int)) (((A60_L_z00_L_3 (R60_L_z00_L nr) a0 a1 a2 a3).2.getD (toNat (a1.2.length : Int)) default).1, ((A60_L_z00_L_3 (R60_L_z00_L nr) a0 a1 a2 a3).2.getD (toNat (a1.2.length : Int)) default).2.1, (((a1.2.length + 1) : Nat) : Int), ((A60_L_z00_L_3 (R60_L_z00_L nr) a0 a1 a2 a3).2.getD (toNat (a1.2.length : Int)) default).2.2.2.1, ((A60_L_z00_L_3 (R60_L_z00_L nr) a0 a1 a2 a3).2.getD (toNat (a1.2.length : Int)) default).2.2.2.2.1, ((A60_L_z00_L_3 (R60_L_z00_L nr) a0 a1 a2 a3).2.getD (toNat (a1.2.length : Int)) default).2.2.2.2.2)).set (toNat (a1.2.length : Int)) ((((A60_L_z00_L_3 (R60_L_z00_L nr) a0 a1 a2 a3).2.set (toNat (a1.2.length : Int)) (((A60_L_z00_L_3 (R60_L_z00_L nr) a0 a1 a2 a3).2.getD (toNat (a1.2.length : Int)) default).1, ((A60_L_z00_L_3 (R60_L_z00_L nr) a0 a1 a2 a3).2.getD (toNat (a1.2.length : Int)) default).2.1, (((a1.2.length + 1) : Nat) : Int), ((A60_L_z00_L_3 (R60_L_z00_L nr) a0 a1 a2 a3).2.getD (toNat (a1.2.length : Int)) default).2.2.2.1, ((A60_L_z00_L_3 (R60_L_z00_L nr) a0 a1 a2 a3).2.getD (toNat (a1.2.length : Int)) default).2.2.2.2.1, ((A60_L_z00_L_3 (R60_L_z00_L nr) a0 a1 a2 a3).2.getD (toNat (a1.2.length : Int)) default).2.2.2.2.2)).getD (toNat (a1.2.length : Int)) default).1, (((A60_L_z00_L_3 (R60_L_z00_L nr) a0 a1 a2 a3).2.set (toNat (a1.2.length : Int)) (((A60_L_z00_L_3 (R60_L_z00_L nr) a0 a1 a2 a3).2.getD (toNat (a1.2.length : Int)) default).1, ((A60_L_z00_L_3 (R60_L_z00_L nr) a0 a1 a2 a3).2.getD (toNat (a1.2.length : Int)) default).2.1, (((a1.2.length + 1) : Nat) : Int), ((A60_L_z00_L_3 (R60_L_z00_L nr) a0 a1 a2 a3).2.getD (toNat (a1.2.length : Int)) default).2.2.2.1, ((A60_L_z00_L_3 (R60_L_z00_L nr) a0 a1 a2 a3).2.getD (toNat (a1.2.length : Int)) default).2.2.2.2.1, ((A60_L_z00_L_3 (R60_L_z00_L nr) a0 a1 a2 a3).2.getD (toNat (a1.2.length : Int)) default).2.2.2.2.2)).getD (toNat (a1.2.length : Int)) default).2.1, (((A60_L_z00_L_3 (R60_L_z00_L nr) a0 a1 a2 a3).2.set (toNat (a1.2.length : Int)) (((A60_L_z00_L_3 (R60_L_z00_L nr) a0 a1 a2 a3).2.getD (toNat (a1.2.length : Int)) default).1, ((A60_L_z00_L_3 (R60_L_z00_L nr) a0 a1 a2 a3).2.getD (toNat (a1.2.length : Int)) default).2.1, (((a1.2.length + 1) : Nat) : Int), ((A60_L_z00_L_3 (R60_L_z00_L nr) a0 a1 a2 a3).2.getD (toNat (a1.2.length : Int)) default).2.2.2.1, ((A60_L_z00_L_3 (R60_L_z00_L nr) a0 a1 a2 a3).2.getD (toNat (a1.2.length : Int)) default).2.2.2.2.1, ((A60_L_z00_L_3 (R60_L_z00_L nr) a0 a1 a2 a3).2.getD (toNat (a1.2.length : Int)) default).2.2.2.2.2)).getD (toNat (a1.2.length : Int)) default).2.2.1, (((A60_L_z00_L_2 (R60_L_z00_L nr) a0 a1 a2 a3).2.length : Nat) : Int), (((A60_L_z00_L_3 (R60_L_z00_L nr) a0 a1 a2 a3).2.set (toNat (a1.2.length : Int)) (((A60_L_z00_L_3 (R60_L_z00_L nr) a0 a1 a2 a3).2.getD (toNat (a1.2.length : Int)) default).1, ((A60_L_z00_L_3 (R60_L_z00_L nr) a0 a1 a2 a3).2.getD (toNat (a1.2.length : Int)) default).2.1, (((a1.2.length + 1) : Nat) : Int), ((A60_L_z00_L_3 (R60_L_z00_L nr) a0 a1 a2 a3).2.getD (toNat (a1.2.length : Int)) default).2.2.2.1, ((A60_L_z00_L_3 (R60_L_z00_L nr) a0 a1 a2 a3).2.getD (toNat (a1.2.length : Int)) default).2.2.2.2.1, ((A60_L_z00_L_3 (R60_L_z00_L nr) a0 a1 a2 a3).2.getD (toNat (a1.2.length : Int)) default).2.2.2.2.2)).getD (toNat (a1.2.length : Int)) default).2.2.2.2.1, (((A60_L_z00_L_3 (R60_L_z00_L nr) a0 a1 a2 a3).2.set (toNat (a1.2.length : Int)) (((A60_L_z00_L_3 (R60_L_z00_L nr) a0 a1 a2 a3).2.getD (toNat (a1.2.length : Int)) default).1, ((A60_L_z00_L_3 (R60_L_z00_L nr) a0 a1 a2 a3).2.getD (toNat (a1.2.length : Int)) default).2.1, (((a1.2.length + 1) : Nat) : Int), ((A60_L_z00_L_3 (R60_L_z00_L nr) a0 a1 a2 a3).2.getD (toNat (a1.2.length : Int)) default).2.2.2.1, ((A60_L_z00_L_3 (R60_L_z00_L nr) a0 a1 a2 a3).2.getD (toNat (a1.2.length : Int)) default).2.2.2.2.1, ((A60_L_z00_L_3 (R60_L_z00_L nr) a0 a1 a2 a3).2.getD (toNat (a1.2.length : Int)) default).2.2.2.2.2)).getD (toNat (a1.2.length : Int)) default).2.2.2.2.2)) = (A60_L_z00_L_3 (R60_L_z00_L nr) a0 a1 a2 a3).2.length from by first | simp; done | omega]
  exact rtm (t0 ++ [.d h0, .c [0, 3] (C84_L_L a0 a2 (by omega) (by omega) hp.inr (by omega)), .c [0, 3] (C83_L_L a0 a2 (F84_L_L a0 a2) (by omega) (by omega) hp.inr (by omega)), .p (show (2 : Int) ≠ 0 from by decide), .S c3_len (F83_L_L a0 a2 (F84_L_L a0 a2)) 0 (W (Int.tdiv (W ((((F83_L_L a0 a2 (F84_L_L a0 a2)).length : Nat) : Int) + 1)) 2)) ((F83_L_L a0 a2 (F84_L_L a0 a2)).length), .c [0, 1, 9, 11] (by have q := (ihr a0 (a1.1, (a1.2 ++ [((a1.1.length : Int), (W ((a1.1.length : Int) + (a2.length : Int))), (-1), (-1), ((F80_L_L a0 a2 0), (F80_L_L a0 a2 1), (F80_L_L a0 a2 2)), (A60_L_z00_L_1 a0 a1 a2 a3).1)])) (Aw.part (F83_L_L a0 a2 (F84_L_L a0 a2)) 0 (W (Int.tdiv (W ((((F83_L_L a0 a2 (F84_L_L a0 a2)).length : Nat) : Int) + 1)) 2))) a3 (by (try simp only [Lt]); omega) (by (try simp only [Lt]); omega) (by (try simp only [Lt]); omega) (by (try simp only [Lt]); omega) (by first | exact pgrw1 hp _ h2 | exact pgrw2 hp _ h2 h5) (by omega)); (try dsimp only at q); rw [show flat c40 (a1.2 ++ [((a1.1.length : Int), (W ((a1.1.length : Int) + (a2.length : Int))), (-1), (-1), ((F80_L_L a0 a2 0), (F80_L_L a0 a2 1), (F80_L_L a0 a2 2)), (A60_L_z00_L_1 a0 a1 a2 a3).1)]) = (flat c40 a1.2 ++ [(iv (a1.1.length : Int)), (iv (W ((a1.1.length : Int) + (a2.length : Int)))), (iv (-1)), (iv (-1)), (iv (F80_L_L a0 a2 0)), (iv (F80_L_L a0 a2 1)), (iv (F80_L_L a0 a2 2)), (iv (A60_L_z00_L_1 a0 a1 a2 a3).1)]) from flat_append] at q; (try rw [show List.length (α := Int × Int × Int × Int × (Int × Int × Int) × Int) (a1.2 ++ [((a1.1.length : Int), (W ((a1.1.length : Int) + (a2.length : Int))), (-1), (-1), ((F80_L_L a0 a2 0), (F80_L_L a0 a2 1), (F80_L_L a0 a2 2)), (A60_L_z00_L_1 a0 a1 a2 a3).1)]) = (a1.2.length + 1) from by first | simp; done | omega] at q); (try rw [show List.length (α := Int) (Aw.part (F83_L_L a0 a2 (F84_L_L a0 a2)) 0 (W (Int.tdiv (W ((((F83_L_L a0 a2 (F84_L_L a0 a2)).length : Nat) : Int) + 1)) 2))) = (toNat (W (Int.tdiv (W ((((F83_L_L a0 a2 (F84_L_L a0 a2)).length : Nat) : Int) + 1)) 2)) - toNat 0) from by first | simp; done | omega] at q); exact q), .S c3_len (F83_L_L a0 a2 (F84_L_L a0 a2)) (W (Int.tdiv (W ((((F83_L_L a0 a2 (F84_L_L a0 a2)).length : Nat) : Int) + 1)) 2)) (((F83_L_L a0 a2 (F84_L_L a0 a2)).length : Nat) : Int) ((F83_L_L a0 a2 (F84_L_L a0 a2)).length), .c [0, 12, 13, 14] (by have q := (ihr a0 ((A60_L_z00_L_2 (R60_L_z00_L nr) a0 a1 a2 a3).1, (A60_L_z00_L_2 (R60_L_z00_L nr) a0 a1 a2 a3).2) (Aw.part (F83_L_L a0 a2 (F84_L_L a0 a2)) (W (Int.tdiv (W ((((F83_L_L a0 a2 (F84_L_L a0 a2)).length : Nat) : Int) + 1)) 2)) (((F83_L_L a0 a2 (F84_L_L a0 a2)).length : Nat) : Int)) a3 (by (try simp only [Lt]); omega) (by (try simp only [Lt]); omega) (by (try simp only [Lt]); omega) (by (try simp only [Lt]); omega) (by first | exact pgrw1 hp _ h2 | exact pgrw2 hp _ h2 h5) (by omega)); (try dsimp only at q); (try rw [show List.length (α := Int) (Aw.part (F83_L_L a0 a2 (F84_L_L a0 a2)) (W (Int.tdiv (W ((((F83_L_L a0 a2 (F84_L_L a0 a2)).length : Nat) : Int) + 1)) 2)) (((F83_L_L a0 a2 (F84_L_L a0 a2)).length : Nat) : Int)) = (toNat (((F83_L_L a0 a2 (F84_L_L a0 a2)).length : Nat) : Int) - toNat (W (Int.tdiv (W ((((F83_L_L a0 a2 (F84_L_L a0 a2)).length : Nat) : Int) + 1)) 2))) from by first | simp; done | omega] at q); exact q), .i (a1.2.length : Int) ((A60_L_z00_L_3 (R60_L_z00_L nr) a0 a1 a2 a3).2.length), .p (show ((0 + toNat (a1.2.length : Int) * 8 + 2) + 1 ≤ (flat c40 (A60_L_z00_L_3 (R60_L_z00_L nr) a0 a1 a2 a3).2).length) from (flat_setl c40_len (by first | omega | (simp only [Lt]; omega)) (o := 2) (Nb rfl))), .i (a1.2.length : Int) ((A60_L_z00_L_3 (R60_L_z00_L nr) a0 a1 a2 a3).2.length), .p (show ((0 + toNat (a1.2.length : Int) * 8 + 3) + 1 ≤ (splice (flat c40 (A60_L_z00_L_3 (R60_L_z00_L nr) a0 a1 a2 a3).2) (0 + toNat (a1.2.length : Int) * 8 + 2) [(iv (((a1.2.length + 1) : Nat) : Int))]).length) from (by rw [show (splice (flat c40 (A60_L_z00_L_3 (R60_L_z00_L nr) a0 a1 a2 a3).2) (0 + toNat (a1.2.length : Int) * 8 + 2) [(iv (((a1.2.length + 1) : Nat) : Int))]) = flat c40 ((A60_L_z00_L_3 (R60_L_z00_L nr) a0 a1 a2 a3).2.set (toNat (a1.2.length : Int)) (((A60_L_z00_L_3 (R60_L_z00_L nr) a0 a1 a2 a3).2.getD (toNat (a1.2.length : Int)) default).1, ((A60_L_z00_L_3 (R60_L_z00_L nr) a0 a1 a2 a3).2.getD (toNat (a1.2.length : Int)) default).2.1, (((a1.2.length + 1) : Nat) : Int), ((A60_L_z00_L_3 (R60_L_z00_L nr) a0 a1 a2 a3).2.getD (toNat (a1.2.length : Int)) default).2.2.2.1, ((A60_L_z00_L_3 (R60_L_z00_L nr) a0 a1 a2 a3).2.getD (toNat (a1.2.length : Int)) default).2.2.2.2.1, ((A60_L_z00_L_3 (R60_L_z00_L nr) a0 a1 a2 a3).2.getD (toNat (a1.2.length : Int)) default).2.2.2.2.2)) from (flat_set c40_len (by first | omega | (simp only [Lt]; omega)) (o := 2) (d := default) (Nb rfl) rfl)]; exact flat_setl c40_len (by first | omega | (simp only [Lt]; omega)) (o := 3) (Nb rfl)))]) [] [1, 2] [15, 16] hcx (by kernel_rfl)

theorem C60_L_z00_L (a0 : TyL) (a1 : List (Int) × TyN) (a2 : List (Int)) (a3 : Int) (l0 : a0.length ≤ 9223372036854775807) (l1_1 : a1.1.length ≤ 9223372036854775807) (l1_2 : a1.2.length ≤ 9223372036854775807) (l2 : a2.length ≤ 9223372036854775807) (hp : PGRW a0 a1 a2 a3) : Con Try.prog 60 [(.s 0 0 a0.length 10), (.a [(.s 1 0 a1.1.length 1), (.s 2 0 a1.2.length 8)]), (.s 3 0 a2.length 1), (iv a3)] [(.live false true (flat c81 a0)), (.live true true (flat c3 a1.1)), (.live true true (flat c40 a1.2)), (.live false true (flat c3 a2))] (.a [(.s 4 0 (F60_L_z00_L a0 a1 a2 a3).1.length 1), (.s 5 0 (F60_L_z00_L a0 a1 a2 a3).2.length 8)]) [(.live true true (flat c3 (F60_L_z00_L a0 a1 a2 a3).1)), (.live true true (flat c40 (F60_L_z00_L a0 a1 a2 a3).2))] [.un, .dead, .dead, .un] := Cr60_L_z00_L (a2.length + 1) a0 a1 a2 a3 l0 l1_1 l1_2 l2 hp (lss _)

end Go.Proofs.Ytnbpiejjeeomkaa

namespace Go.Proofs.Ytnbpiejjeeomkaa
open Go.Proofs Go.Aw Go.RowKit
set_option maxRecDepth 100000

theorem grw_fuel : ∀ (n1 n2 : Nat) (l : LCH) (t : TR) (ns : List Int) (leaf : Int), PGRW l t ns leaf → ns.length < n1 → ns.length < n2 → R60_L_z00_L n1 l t ns leaf = R60_L_z00_L n2 l t ns leaf
 | 0, _, _, _, _, _, _, h, _ => absurd h (nlz _)
 | _ + 1, 0, _, _, _, _, _, _, h => absurd h (nlz _)
 | n1 + 1, n2 + 1, l, t, ns, leaf, hp, h1, h2 => by
   have h := hp.rng; have hl := hp.lf
   simp only [R60_L_z00_L]
   by_cases h0 : (ns.length : Int) ≤ leaf
   · rw [dqt h0]; rfl
   · rw [dqf h0, cond_false, cond_false]
     have g2 : 2 ≤ ns.length := by omega
     have hs := grw_s hp (F84_L_L l ns)
     have hf := hf_eq (n := ns.length) (by omega)
     have hpt1 := part_len (l := F83_L_L l ns (F84_L_L l ns)) (a := 0) (b := (((ns.length + 1) / 2 : Nat) : Int)) (by omega)
     have hpt2 := part_len (l := F83_L_L l ns (F84_L_L l ns)) (a := (((ns.length + 1) / 2 : Nat) : Int)) (b := (ns.length : Int)) (by omega)
     have h5 : GRR _ (A60_L_z00_L_2 (R60_L_z00_L n1) l t ns leaf) _ := grw_inv n1 _ _ _ _ (pgrw1 hp _ g2) (by rw [hs.1, hf, hpt1]; omega)
     have e2 : A60_L_z00_L_2 (R60_L_z00_L n1) l t ns leaf = A60_L_z00_L_2 (R60_L_z00_L n2) l t ns leaf := grw_fuel n1 n2 _ _ _ _ (pgrw1 hp _ g2) (by rw [hs.1, hf, hpt1]; omega) (by rw [hs.1, hf, hpt1]; omega)
     have e3 : A60_L_z00_L_3 (R60_L_z00_L n1) l t ns leaf = A60_L_z00_L_3 (R60_L_z00_L n2) l t ns leaf := by
       have := grw_fuel n1 n2 _ _ _ _ (pgrw2 hp _ g2 h5) (by rw [hs.1, hf, hpt2]; omega) (by rw [hs.1, hf, hpt2]; omega)
       unfold A60_L_z00_L_3
       rw [← e2]
       exact this
     rw [e3, e2]

def A60_L_z10_L_1 (a0 : TyL) (a1 : List (Int) × TyN) (a2 : List (Int)) (a3 : Int) := (F81_L (F82_L_L a0 a2) ((F80_L_L a0 a2 0), (F80_L_L a0 a2 1), (F80_L_L a0 a2 2)))

def A60_L_z10_L_2 (rr : TyL → (List (Int) × TyN) → (List (Int)) → (Int) → List (Int) × TyN) (a0 : TyL) (a1 : List (Int) × TyN) (a2 : List (Int)) (a3 : Int) := (rr a0 (([] : List (Int)), (a1.2 ++ [(0, (W (0 + (a2.length : Int))), (-1), (-1), ((F80_L_L a0 a2 0), (F80_L_L a0 a2 1), (F80_L_L a0 a2 2)), (A60_L_z10_L_1 a0 a1 a2 a3).1)])) (Aw.part (F83_L_L a0 a2 (F84_L_L a0 a2)) 0 (W (Int.tdiv (W ((((F83_L_L a0 a2 (F84_L_L a0 a2)).length : Nat) : Int) + 1)) 2))) a3)

def A60_L_z10_L_3 (rr : TyL → (List (Int) × TyN) → (List (Int)) → (Int) → List (Int) × TyN) (a0 : TyL) (a1 : List (Int) × TyN) (a2 : List (Int)) (a3 : Int) := (F60_L_z00_L a0 ((A60_L_z10_L_2 (rr) a0 a1 a2 a3).1, (A60_L_z10_L_2 (rr) a0 a1 a2 a3).2) (Aw.part (F83_L_L a0 a2 (F84_L_L a0 a2)) (W (Int.tdiv (W ((((F83_L_L a0 a2 (F84_L_L a0 a2)).length : Nat) : Int) + 1)) 2)) (((F83_L_L a0 a2 (F84_L_L a0 a2)).length : Nat) : Int)) a3)

def R60_L_z10_L : Nat → TyL → (List (Int) × TyN) → (List (Int)) → (Int) → List (Int) × TyN
 | 0, _, _, _, _ => default
 | nr + 1, a0, a1, a2, a3 =>
 (bif (decide (((a2.length : Int) : Int) ≤ a3)) then
  (a2, (a1.2 ++ [(0, (W (0 + (a2.length : Int))), (-1), (-1), ((F80_L_L a0 a2 0), (F80_L_L a0 a2 1), (F80_L_L a0 a2 2)), (A60_L_z10_L_1 a0 a1 a2 a3).1)]))
 else
  ((A60_L_z10_L_3 (R60_L_z10_L nr) a0 a1 a2 a3).1, (((A60_L_z10_L_3 (R60_L_z10_L nr) a0 a1 a2 a3).2.set (toNat (a1.2.length : Int)) (((A60_L_z10_L_3 (R60_L_z10_L nr) a0 a1 a2 a3).2.getD (toNat (a1.2.length : Int)) default).1, ((A60_L_z10_L_3 (R60_L_z10_L nr) a0 a1 a2 a3).2.getD (toNat (a1.2.length : Int)) default).2.1, (((a1.2.length + 1) : Nat) : Int), ((A60_L_z10_L_3 (R60_L_z10_L nr) a0 a1 a2 a3).2.getD (toNat (a1.2.length : Int)) default).2.2.2.1, ((A60_L_z10_L_3 (R60_L_z10_L nr) a0 a1 a2 a3).2.getD (toNat (a1.2.length : Int)) default).2.2.2.2.1, ((A60_L_z10_L_3 (R60_L_z10_L nr) a0 a1 a2 a3).2.getD (toNat (a1.2.length : Int)) default).2.2.2.2.2)).set (toNat (a1.2.length : Int)) ((((A60_L_z10_L_3 (R60_L_z10_L nr) a0 a1 a2 a3).2.set (toNat (a1.2.length : Int)) (((A60_L_z10_L_3 (R60_L_z10_L nr) a0 a1 a2 a3).2.getD (toNat (a1.2.length : Int)) default).1, ((A60_L_z10_L_3 (R60_L_z10_L nr) a0 a1 a2 a3).2.getD (toNat (a1.2.length : Int)) default).2.1, (((a1.2.length + 1) : Nat) : Int), ((A60_L_z10_L_3 (R60_L_z10_L nr) a0 a1 a2 a3).2.getD (toNat (a1.2.length : Int)) default).2.2.2.1, ((A60_L_z10_L_3 (R60_L_z10_L nr) a0 a1 a2 a3).2.getD (toNat (a1.2.length : Int)) default).2.2.2.2.1, ((A60_L_z10_L_3 (R60_L_z10_L nr) a0 a1 a2 a3).2.getD (toNat (a1.2.length : Int)) default).2.2.2.2.2)).getD (toNat (a1.2.length : Int)) default).1, (((A60_L_z10_L_3 (R60_L_z10_L nr) a0 a1 a2 a3).2.set (toNat (a1.2.length : Int)) (((A60_L_z10_L_3 (R60_L_z10_L nr) a0 a1 a2 a3).2.getD (toNat (a1.2.length : Int)) default).1, ((A60_L_z10_L_3 (R60_L_z10_L nr) a0 a1 a2 a3).2.getD (toNat (a1.2.length : Int)) default).2.1, (((a1.2.length + 1) : Nat) : Int), ((A60_L_z10_L_3 (R60_L_z10_L nr) a0 a1 a2 a3).2.getD (toNat (a1.2.length : Int)) default).2.2.2.1, ((A60_L_z10_L_3 (R60_L_z10_L nr) a0 a1 a2 a3).2.getD (toNat (a1.2.length : Int)) default).2.2.2.2.1, ((A60_L_z10_L_3 (R60_L_z10_L nr) a0 a1 a2 a3).2.getD (toNat (a1.2.length : Int)) default).2.2.2.2.2)).getD (toNat (a1.2.length : Int)) default).2.1, (((A60_L_z10_L_3 (R60_L_z10_L nr) a0 a1 a2 a3).2.set (toNat (a1.2.length : Int)) (((A60_L_z10_L_3 (R60_L_z10_L nr) a0 a1 a2 a3).2.getD (toNat (a1.2.length : Int)) default).1, ((A60_L_z10_L_3 (R60_L_z10_L nr) a0 a1 a2 a3).2.getD (toNat (a1.2.length : Int)) default).2.1, (((a1.2.length + 1) : Nat) : Int), ((A60_L_z10_L_3 (R60_L_z10_L nr) a0 a1 a2 a3).2.getD (toNat (a1.2.length : Int)) default).2.2.2.1, ((A60_L_z10_L_3 (R60_L_z10_L nr) a0 a1 a2 a3).2.getD (toNat (a1.2.length : Int)) default).2.2.2.2.1, ((A60_L_z10_L_3 (R60_L_z10_L nr) a0 a1 a2 a3).2.getD (toNat (a1.2.length : Int)) default).2.2.2.2.2)).getD (toNat (a1.2.length : Int)) default).2.2.1, (((A60_L_z10_L_2 (R60_L_z10_L nr) a0 a1 a2 a3).2.length : Nat) : Int), (((A60_L_z10_L_3 (R60_L_z10_L nr) a0 a1 a2 a3).2.set (toNat (a1.2.length : Int)) (((A60_L_z10_L_3 (R60_L_z10_L nr) a0 a1 a2 a3).2.getD (toNat (a1.2.length : Int)) default).1, ((A60_L_z10_L_3 (R60_L_z10_L nr) a0 a1 a2 a3).2.getD (toNat (a1.2.length : Int)) default).2.1, (((a1.2.length + 1) : Nat) : Int), ((A60_L_z10_L_3 (R60_L_z10_L nr) a0 a1 a2 a3).2.getD (toNat (a1.2.length : Int)) default).2.2.2.1, ((A60_L_z10_L_3 (R60_L_z10_L nr) a0 a1 a2 a3).2.getD (toNat (a1.2.length : Int)) default).2.2.2.2.1, ((A60_L_z10_L_3 (R60_L_z10_L nr) a0 a1 a2 a3).2.getD (toNat (a1.2.length : Int)) default).2.2.2.2.2)).getD (toNat (a1.2.length : Int)) default).2.2.2.2.1, (((A60_L_z10_L_3 (R60_L_z10_L nr) a0 a1 a2 a3).2.set (toNat (a1.2.length : Int)) (((A60_L_z10_L_3 (R60_L_z10_L nr) a0 a1 a2 a3).2.getD (toNat (a1.2.length : Int)) default).1, ((A60_L_z10_L_3 (R60_L_z10_L nr) a0 a1 a2 a3).2.getD (toNat (a1.2.length : Int)) default).2.1, (((a1.2.length + 1) : Nat) : Int), ((A60_L_z10_L_3 (R60_L_z10_L nr) a0 a1 a2 a3).2.getD (toNat (a1.2.length : Int)) default).2.2.2.1, ((A60_L_z10_L_3 (R60_L_z10_L nr) a0 a1 a2 a3).2.getD (toNat (a1.2.length : Int)) default).2.2.2.2.1, ((A60_L_z10_L_3 (R60_L_z10_L nr) a0 a1 a2 a3).2.getD (toNat (a1.2.length : Int)) default).2.2.2.2.2)).getD (toNat (a1.2.length : Int)) default).2.2.2.2.2))))

def F60_L_z10_L (a0 : TyL) (a1 : List (Int) × TyN) (a2 : List (Int)) (a3 : Int) : List (Int) × TyN := R60_L_z10_L (a2.length + 1) a0 a1 a2 a3

theorem grw10 : ∀ (nr : Nat) (l : LCH) (t : TR) (ns : List Int) (leaf : Int), PGRW l ([], t.2) ns leaf → ns.length < nr → R60_L_z10_L nr l t ns leaf = R60_L_z00_L nr l ([], t.2) ns leaf
 | 0, _, _, _, _, _, h => absurd h (nlz _)
 | nr + 1, l, t, ns, leaf, hp, hn => by
   have h := hp.rng; have hl := hp.lf
   simp only [R60_L_z10_L, R60_L_z00_L]
   by_cases h0 : (ns.length : Int) ≤ leaf
   · rw [dqt h0, cond_true, cond_true]
     rfl
   · rw [dqf h0, cond_false, cond_false]
     have g2 : 2 ≤ ns.length := by omega
     have hs := grw_s hp (F84_L_L l ns)
     have hf := hf_eq (n := ns.length) (by omega)
     have hpt1 := part_len (l := F83_L_L l ns (F84_L_L l ns)) (a := 0) (b := (((ns.length + 1) / 2 : Nat) : Int)) (by omega)
     have hpt2 := part_len (l := F83_L_L l ns (F84_L_L l ns)) (a := (((ns.length + 1) / 2 : Nat) : Int)) (b := (ns.length : Int)) (by omega)
     have e2 : A60_L_z10_L_2 (R60_L_z10_L nr) l t ns leaf = A60_L_z00_L_2 (R60_L_z00_L nr) l ([], t.2) ns leaf := grw10 nr _ ([], _) _ _ (pgrw1 hp _ g2) (by rw [hs.1, hf, hpt1]; omega)
     have h5 : GRR _ (A60_L_z00_L_2 (R60_L_z00_L nr) l ([], t.2) ns leaf) _ := grw_inv nr _ _ _ _ (pgrw1 hp _ g2) (by rw [hs.1, hf, hpt1]; omega)
     have e3 : A60_L_z10_L_3 (R60_L_z10_L nr) l t ns leaf = A60_L_z00_L_3 (R60_L_z00_L nr) l ([], t.2) ns leaf := by
       unfold A60_L_z10_L_3 A60_L_z00_L_3 F60_L_z00_L
       rw [e2]
       exact grw_fuel _ _ _ _ _ _ (pgrw2 hp _ g2 h5) (lss _) (by rw [hs.1, hf, hpt2]; omega)
     rw [e3, e2]
theorem grw_inv10 (nr : Nat) (l : LCH) (t : TR) (ns : List Int) (leaf : Int) (hp : PGRW l ([], t.2) ns leaf) (h : ns.length < nr) : GRR ([], t.2) (R60_L_z10_L nr l t ns leaf) ns := by
 rw [grw10 nr l t ns leaf hp h]; exact grw_inv nr _ _ _ _ hp h

theorem Cr60_L_z10_L : ∀ (nr : Nat) (a0 : TyL) (a1 : List (Int) × TyN) (a2 : List (Int)) (a3 : Int) (l0 : a0.length ≤ 9223372036854775807) (l1_1 : a1.1.length ≤ 9223372036854775807) (l1_2 : a1.2.length ≤ 9223372036854775807) (l2 : a2.length ≤ 9223372036854775807) (hp : PGRW a0 ([], a1.2) a2 a3), a2.length < nr → Con Try.prog 60 [(.s 0 0 a0.length 10), (.a [(.v (.slice none 0 0)), (.s 1 0 a1.2.length 8)]), (.s 2 0 a2.length 1), (iv a3)] [(.live false true (flat c81 a0)), (.live true true (flat c40 a1.2)), (.live false true (flat c3 a2))] (.a [(.s 3 0 (R60_L_z10_L nr a0 a1 a2 a3).1.length 1), (.s 4 0 (R60_L_z10_L nr a0 a1 a2 a3).2.length 8)]) [(.live true true (flat c3 (R60_L_z10_L nr a0 a1 a2 a3).1)), (.live true true (flat c40 (R60_L_z10_L nr a0 a1 a2 a3).2))] [.un, .dead, .un] := by
 intro nr
 induction nr with
 | zero => intro a0 a1 a2 a3 l0 l1_1 l1_2 l2 hp hlt; exact absurd hlt (nlz _)
 | succ nr ihr =>
 intro a0 a1 a2 a3 l0 l1_1 l1_2 l2 hp hlt
 refine con_s Try.func60 (by kernel_rfl) fun cx hcx => ?_
 have hpr := hp.rng
 have hpn := hp.nds
 try dsimp only at hpr hpn
 try simp only [List.length_nil, Nat.zero_add] at hpr hpn
 have hpl := hp.lf
 have hpk := rpi_len a0 a2
 have hso := grw_s hp (F84_L_L a0 a2)
 obtain ⟨hso1, hso2⟩ := hso
 have hhf : (W (Int.tdiv (W ((((F83_L_L a0 a2 (F84_L_L a0 a2)).length : Nat) : Int) + 1)) 2)) = (((a2.length + 1) / 2 : Nat) : Int) := by rw [hso1]; exact hf_eq (by omega)
 have hpt1 : (Aw.part (F83_L_L a0 a2 (F84_L_L a0 a2)) 0 (W (Int.tdiv (W ((((F83_L_L a0 a2 (F84_L_L a0 a2)).length : Nat) : Int) + 1)) 2))).length = (a2.length + 1) / 2 := by rw [part_len (by omega)]; omega
 have hpt2 : (Aw.part (F83_L_L a0 a2 (F84_L_L a0 a2)) (W (Int.tdiv (W ((((F83_L_L a0 a2 (F84_L_L a0 a2)).length : Nat) : Int) + 1)) 2)) (((F83_L_L a0 a2 (F84_L_L a0 a2)).length : Nat) : Int)).length = a2.length - (a2.length + 1) / 2 := by rw [part_len (by omega)]; omega
 try have h2 : 2 ≤ a2.length := (fun _ => by omega) h0
 try have h5 : GRR _ (A60_L_z10_L_2 (R60_L_z10_L nr) a0 a1 a2 a3) _ := (fun _ => grw_inv10 nr a0 ([], _) _ a3 (pgrw1 hp _ h2) (by omega)) h0
 try have h6 : GRR _ (A60_L_z10_L_3 (R60_L_z10_L nr) a0 a1 a2 a3) _ := (fun _ => grw_inv _ _ _ _ _ (pgrw2 hp _ h2 h5) (lss _)) h0
 try have h5 : GRR _ (A60_L_z00_L_2 (R60_L_z00_L nr) a0 a1 a2 a3) _ := (fun _ => grw_inv nr _ _ _ _ (pgrw1 hp _ h2) (by omega)) h0
 try have h6 : GRR _ (A60_L_z00_L_3 (R60_L_z00_L nr) a0 a1 a2 a3) _ := (fun _ => grw_inv nr _ _ _ _ (pgrw2 hp _ h2 h5) (by omega)) h0
 try have h5 : GRR _ (A60_L_z11_L_2 a0 a1 a2 a3) _ := (fun _ => grw_inv10 _ a0 ([], _) _ a3 (pgrw1 (t := ([], [])) hp _ h2) (lss _)) h0
 try have h6 : GRR _ (A60_L_z11_L_3 a0 a1 a2 a3) _ := (fun _ => grw_inv _ _ _ _ _ (pgrw2 (t := ([], [])) hp _ h2 h5) (lss _)) h0
 try have g1 := (fun _ => h5.ol) h0
 try have g2 := (fun _ => h5.lo) h0
 try have g3 := (fun _ => h5.hi) h0
 try have f1 := (fun _ => h6.ol) h0
 try have f2 := (fun _ => h6.lo) h0
 try have f3 := (fun _ => h6.hi) h0
 try (have _ := h0; simp only [List.length_append, List.length_cons, List.length_nil] at g1 g2 g3 f1 f2 f3)
 let t0 : List (St Try.prog) := [.c [0, 2] (C80_L_L a0 a2 0 (by omega) (by omega) hp.inr (by omega)), .c [0, 2] (C80_L_L a0 a2 1 (by omega) (by omega) hp.inr (by omega)), .c [0, 2] (C80_L_L a0 a2 2 (by omega) (by omega) hp.inr (by omega)), .c [0, 2] (C82_L_L a0 a2 (by omega) (by omega) hp.inr (by omega)), .c [6] (C81_L (F82_L_L a0 a2) ((F80_L_L a0 a2 0), (F80_L_L a0 a2 1), (F80_L_L a0 a2 2)) (by (try simp only [Lt]); omega)), .p (show ((flat c40 a1.2).length = a1.2.length * 8 ∧ a1.2.length + 1 ≤ 2 ^ 40 ∧ (a1.2.length + 1) * 64 ≤ 2 ^ 47) from app_ok c40_len (by omega) (by omega))]
 cases h0 : (decide (((a2.length : Int) : Int) ≤ a3)) with
 | true =>
  have q0 := odt h0
  try have h2 : 2 ≤ a2.length := (fun _ => by omega) h0
  try have h5 : GRR _ (A60_L_z10_L_2 (R60_L_z10_L nr) a0 a1 a2 a3) _ := (fun _ => grw_inv10 nr a0 ([], _) _ a3 (pgrw1 hp _ h2) (by omega)) h0
  try have h6 : GRR _ (A60_L_z10_L_3 (R60_L_z10_L nr) a0 a1 a2 a3) _ := (fun _ => grw_inv _ _ _ _ _ (pgrw2 hp _ h2 h5) (lss _)) h0
  try have h5 : GRR _ (A60_L_z00_L_2 (R60_L_z00_L nr) a0 a1 a2 a3) _ := (fun _ => grw_inv nr _ _ _ _ (pgrw1 hp _ h2) (by omega)) h0
  try have h6 : GRR _ (A60_L_z00_L_3 (R60_L_z00_L nr) a0 a1 a2 a3) _ := (fun _ => grw_inv nr _ _ _ _ (pgrw2 hp _ h2 h5) (by omega)) h0
  try have h5 : GRR _ (A60_L_z11_L_2 a0 a1 a2 a3) _ := (fun _ => grw_inv10 _ a0 ([], _) _ a3 (pgrw1 (t := ([], [])) hp _ h2) (lss _)) h0
  try have h6 : GRR _ (A60_L_z11_L_3 a0 a1 a2 a3) _ := (fun _ => grw_inv _ _ _ _ _ (pgrw2 (t := ([], [])) hp _ h2 h5) (lss _)) h0
  try have g1 := (fun _ => h5.ol) h0
  try have g2 := (fun _ => h5.lo) h0
  try have g3 := (fun _ => h5.hi) h0
  try have f1 := (fun _ => h6.ol) h0
  try have f2 := (fun _ => h6.lo) h0
  try have f3 := (fun _ => h6.hi) h0
  try (have _ := h0; simp only [List.length_append, List.length_cons, List.length_nil] at g1 g2 g3 f1 f2 f3)
  have e := Eq.refl (R60_L_z10_L (nr + 1) a0 a1 a2 a3); conv at e => rhs; simp only [R60_L_z10_L, h0, cdb]
  rw [e]
  try dsimp only [thenF]
  try dsimp only
  rw [show flat c40 (a1.2 ++ [(0, (W (0 + (a2.length : Int))), (-1), (-1), ((F80_L_L a0 a2 0), (F80_L_L a0 a2 1), (F80_L_L a0 a2 2)), (A60_L_z10_L_1 a0 a1 a2 a3).1)]) = (flat c40 a1.2 ++ [(iv 0), (iv (W (0 + (a2.length : Int)))), (iv (-1)), (iv (-1)), (iv (F80_L_L a0 a2 0)), (iv (F80_L_L a0 a2 1)), (iv (F80_L_L a0 a2 2)), (iv (A60_L_z10_L_1 a0 a1 a2 a3).1)]) from flat_append]
  try rw [show List.length (α := Int × Int × Int × Int × (Int × Int × Int) × Int) (a1.2 ++ [(0, (W (0 + (a2.length : Int))), (-1), (-1), ((F80_L_L a0 a2 0), (F80_L_L a0 a2 1), (F80_L_L a0 a2 2)), (A60_L_z10_L_1 a0 a1 a2 a3).1)]) = (a1.2.length + 1) from by first | simp; done | omega]
  exact rtm (t0 ++ [.d h0, .p (show ((flat c3 a2).length = a2.length * 1 ∧ (flat c3 a2).all SV.one = true ∧ a2.length ≤ 2 ^ 40 ∧ a2.length * 8 ≤ 2 ^ 47) from by refine ⟨?_, ?_, ?_, ?_⟩ <;> first | omega | exact flat_one (fun _ => rfl) | (simp [flat_lenc c3_len]; done) | (simp [flat_lenc c3_len]; omega))]) [] [1] [9, 8] hcx (by kernel_rfl)
 | false =>
  have q0 := odf h0
  try have h2 : 2 ≤ a2.length := (fun _ => by omega) h0
  try have h5 : GRR _ (A60_L_z10_L_2 (R60_L_z10_L nr) a0 a1 a2 a3) _ := (fun _ => grw_inv10 nr a0 ([], _) _ a3 (pgrw1 hp _ h2) (by omega)) h0
  try have h6 : GRR _ (A60_L_z10_L_3 (R60_L_z10_L nr) a0 a1 a2 a3) _ := (fun _ => grw_inv _ _ _ _ _ (pgrw2 hp _ h2 h5) (lss _)) h0
  try have h5 : GRR _ (A60_L_z00_L_2 (R60_L_z00_L nr) a0 a1 a2 a3) _ := (fun _ => grw_inv nr _ _ _ _ (pgrw1 hp _ h2) (by omega)) h0
  try have h6 : GRR _ (A60_L_z00_L_3 (R60_L_z00_L nr) a0 a1 a2 a3) _ := (fun _ => grw_inv nr _ _ _ _ (pgrw2 hp _ h2 h5) (by omega)) h0
  try have h5 : GRR _ (A60_L_z11_L_2 a0 a1 a2 a3) _ := (fun _ => grw_inv10 _ a0 ([], _) _ a3 (pgrw1 (t := ([], [])) hp _ h2) (lss _)) h0
  try have h6 : GRR _ (A60_L_z11_L_3 a0 a1 a2 a3) _ := (fun _ => grw_inv _ _ _ _ _ (pgrw2 (t := ([], [])) hp _ h2 h5) (lss _)) h0
  try have g1 := (fun _ => h5.ol) h0
  try have g2 := (fun _ => h5.lo) h0
  try have g3 := (fun _ => h5.hi) h0
  try have f1 := (fun _ => h6.ol) h0
  try have f2 := (fun _ => h6.lo) h0
  try have f3 := (fun _ => h6.hi) h0
  try (have _ := h0; simp only [List.length_append, List.length_cons, List.length_nil] at g1 g2 g3 f1 f2 f3)
  have e := Eq.refl (R60_L_z10_L (nr + 1) a0 a1 a2 a3); conv at e => rhs; simp only [R60_L_z10_L, h0, cdb]
  rw [e]
  try dsimp only [thenF]
  try dsimp only
  rw [show flat c40 (((A60_L_z10_L_3 (R60_L_z10_L nr) a0 a1 a2 a3).2.set (toNat (a1.2.length : Int)) (((A60_L_z10_L_3 (R60_L_z10_L nr) a0 a1 a2 a3).2.getD (toNat (a1.2.length : Int)) default).1, ((A60_L_z10_L_3 (R60_L_z10_L nr) a0 a1 a2 a3).2.getD (toNat (a1.2.length : Int)) default).2.1, (((a1.2.length + 1) : Nat) : Int), ((A60_L_z10_L_3 (R60_L_z10_L nr) a0 a1 a2 a3).2.getD (toNat (a1.2.length : Int)) default).2.2.2.1, ((A60_L_z10_L_3 (R60_L_z10_L nr) a0 a1 a2 a3).2.getD (toNat (a1.2.length : Int)) default).2.2.2.2.1, ((A60_L_z10_L_3 (R60_L_z10_L nr) a0 a1 a2 a3).2.getD (toNat (a1.2.length : Int)) default).2.2.2.2.2)).set (toNat (a1.2.length : Int)) ((((A60_L_z10_L_3 (R60_L_z10_L nr) a0 a1 a2 a3).2.set (toNat (a1.2.length : Int)) (((A60_L_z10_L_3 (R60_L_z10_L nr) a0 a1 a2 a3).2.getD (toNat (a1.2.length : Int)) default).1, ((A60_L_z10_L_3 (R60_L_z10_L nr) a0 a1 a2 a3).2.getD (toNat (a1.2.length : Int)) default).2.1, (((a1.2.length + 1) : Nat) : Int), ((A60_L_z10_L_3 (R60_L_z10_L nr) a0 a1 a2 a3).2.getD (toNat (a1.2.length : Int)) default).2.2.2.1, ((A60_L_z10_L_3 (R60_L_z10_L nr) a0 a1 a2 a3).2.getD (toNat (a1.2.length : Int)) default).2.2.2.2.1, ((A60_L_z10_L_3 (R60_L_z10_L nr) a0 a1 a2 a3).2.getD (toNat (a1.2.length : Int)) default).2.2.2.2.2)).getD (toNat (a1.2.length : Int)) default).1, (((A60_L_z10_L_3 (R60_L_z10_L nr) a0 a1 a2 a3).2.set (toNat (a1.2.length : Int)) (((A60_L_z10_L_3 (R60_L_z10_L nr) a0 a1 a2 a3).2.getD (toNat (a1.2.length : Int)) default).1, ((A60_L_z10_L_3 (R60_L_z10_L nr) a0 a1 a2 a3).2.getD (toNat (a1.2.length : Int)) default).2.1, (((a1.2.length + 1) : Nat) : Int), ((A60_L_z10_L_3 (R60_L_z10_L nr) a0 a1 a2 a3).2.getD (toNat (a1.2.length : Int)) default).2.2.2.1, ((A60_L_z10_L_3 (R60_L_z10_L nr) a0 a1 a2 a3).2.getD (toNat (a1.2.length : Int)) default).2.2.2.2.1, ((A60_L_z10_L_3 (R60_L_z10_L nr) a0 a1 a2 a3).2.getD (toNat (a1.2.length : Int)) default).2.2.2.2.2)).getD (toNat (a1.2.length : Int)) default).2.1, (((A60_L_z10_L_3 (R60_L_z10_L nr) a0 a1 a2 a3).2.set (toNat (a1.2.length : Int)) (((A60_L_z10_L_3 (R60_L_z10_L nr) a0 a1 a2 a3).2.getD (toNat (a1.2.length : Int)) default).1, ((A60_L_z10_L_3 (R60_L_z10_L nr) a0 a1 a2 a3).2.getD (toNat (a1.2.length : Int)) default).2.1, (((a1.2.length + 1) : Nat) : Int), ((A60_L_z10_L_3 (R60_L_z10_L nr) a0 a1 a2 a3).2.getD (toNat (a1.2.length : Int)) default).2.2.2.1, ((A60_L_z10_L_3 (R60_L_z10_L nr) a0 a1 a2 a3).2.getD (toNat (a1.2.length : Int)) default).2.2.2.2.1, ((A60_L_z10_L_3 (R60_L_z10_L nr) a0 a1 a2 a3).2.getD (toNat (a1.2.length : Int)) default).2.2.2.2.2)).getD (toNat (a1.2.length : Int)) default).2.2.1, (((A60_L_z10_L_2 (R60_L_z10_L nr) a0 a1 a2 a3).2.length : Nat) : Int), (((A60_L_z10_L_3 (R60_L_z10_L nr) a0 a1 a2 a3).2.set (toNat (a1.2.length : Int)) (((A60_L_z10_L_3 (R60_L_z10_L nr) a0 a1 a2 a3).2.getD (toNat (a1.2.length : Int)) default).1, ((A60_L_z10_L_3 (R60_L_z10_L nr) a0 a1 a2 a3).2.getD (toNat (a1.2.length : Int)) default).2.1, (((a1.2.length + 1) : Nat) : Int), ((A60_L_z10_L_3 (R60_L_z10_L nr) a0 a1 a2 a3).2.getD (toNat (a1.2.length : Int)) default).2.2.2.1, ((A60_L_z10_L_3 (R60_L_z10_L nr) a0 a1 a2 a3).2.getD (toNat (a1.2.length : Int)) default).2.2.2.2.1, ((A60_L_z10_L_3 (R60_L_z10_L nr) a0 a1 a2 a3).2.getD (toNat (a1.2.length : Int)) default).2.2.2.2.2)).getD (toNat (a1.2.length : Int)) default).2.2.2.2.1, (((A60_L_z10_L_3 (R60_L_z10_L nr) a0 a1 a2 a3).2.set (toNat (a1.2.length : Int)) (((A60_L_z10_L_3 (R60_L_z10_L nr) a0 a1 a2 a3).2.getD (toNat (a1.2.length : Int)) default).1, ((A60_L_z10_L_3 (R60_L_z10_L nr) a0 a1 a2 a3).2.getD (toNat (a1.2.length : Int)) default).2.1, (((a1.2.length + 1) : Nat) : Int), ((A60_L_z10_L_3 (R60_L_z10_L nr) a0 a1 a2 a3).2.getD (toNat (a1.2.length : Int)) default).2.2.2.1, ((A60_L_z10_L_3 (R60_L_z10_L nr) a0 a1 a2 a3).2.getD (toNat (a1.2.length : Int)) default).2.2.2.2.1, ((A60_L_z10_L_3 (R60_L_z10_L nr) a0 a1 a2 a3).2.getD (toNat (a1.2.length : Int)) default).2.2.2.2.2)).getD (toNat (a1.2.length : Int)) default).2.2.2.2.2)) = (splice (splice (flat c40 (A60_L_z10_L_3 (R60_L_z10_L nr) a0 a1 a2 a3).2) (0 + toNat (a1.2.length : Int) * 8 + 2) [(iv (((a1.2.length + 1) : Nat) : Int))]) (0 + toNat (a1.2.length : Int) * 8 + 3) [(iv (((A60_L_z10_L_2 (R60_L_z10_L nr) a0 a1 a2 a3).2.length : Nat) : Int))]) from Eq.symm (by rw [show (splice (flat c40 (A60_L_z10_L_3 (R60_L_z10_L nr) a0 a1 a2 a3).2) (0 + toNat (a1.2.length : Int) * 8 + 2) [(iv (((a1.2.length + 1) : Nat) : Int))]) = flat c40 ((A60_L_z10_L_3 (R60_L_z10_L nr) a0 a1 a2 a3).2.set (toNat (a1.2.length : Int)) (((A60_L_z10_L_3 (R60_L_z10_L nr) a0 a1 a2 a3).2.getD (toNat (a1.2.length : Int)) default).1, ((A60_L_z10_L_3 (R60_L_z10_L nr) a0 a1 a2 a3).2.getD (toNat (a1.2.length : Int)) default).2.1, (((a1.2.length + 1) : Nat) : Int), ((A60_L_z10_L_3 (R60_L_z10_L nr) a0 a1 a2 a3).2.getD (toNat (a1.2.length : Int)) default).2.2.2.1, ((A60_L_z10_L_3 (R60_L_z10_L nr) a0 a1 a2 a3).2.getD (toNat (a1.2.length : Int)) default).2.2.2.2.1, ((A60_L_z10_L_3 (R60_L_z10_L nr) a0 a1 a2 a3).2.getD (toNat (a1.2.length : Int)) default).2.2.2.2.2)) from (flat_set c40_len (by first | omega | (simp only [Lt]; omega)) (o := 2) (d := default) (Nb rfl) rfl)]; exact flat_set c40_len (by first | omega | (simp only [Lt]; omega)) (o := 3) (d := default) (Nb rfl) rfl)]
  try rw [show List.length (α := Int × Int × Int × Int × (Int × Int × Int) × Int) (((A60_L_z10_L_3 (R60_L_z10_L nr) a0 a1 a2 a3).2.set (toNat (a1.2.length : Int)) (((A60_L_z10_L_3 (R60_L_z10_L nr) a0 a1 a2 a3).2.getD (toNat (a1.2.length : Int)) default).1, ((A60_L_z10_L_3 (R60_L_z10_L nr) a0 a1 a2 a3).2.getD (toNat (a1.2.length : Int)) default).2.1, (((a1.2.length + 1) : Nat) : Int), ((A60_L_z10_L_3 (R60_L_z10_L nr) a0 a1 a2 a3).2.getD (toNat (a1.2.length : Int)) default).2.2.2.1, ((A60_L_z10_L_3 (R60_L_z10_L nr) a0 a1 a2 a3).2.getD (toNat (a1.2.length : Int)) default).2.2.2.2.1, ((A60_L_z10_L_3 (R60_L_z10_L nr) a0 a1 a2 a3).2.getD (toNat (a1.2.length : Int)) default).2.2.2.2.2)).set (toNat (a1.2.length : Int)) ((((A60_L_z10_L_3 (R60_L_z10_L nr) a0 a1 a2 a3).2.set (toNat (a1.2.length : Int)) (((A60_L_z10_L_3 (R60_L_z10_L nr) a0 a1 a2 a3).2.getD (toNat (a1.2.length : Int)) default).1, ((A60_L_z10_L_3 (R60_L_z10_L nr) a0 a1 a2 a3).2.getD (toNat (a1.2.length : Int)) default).2.1, (((a1.2.length + 1) : Nat) : Int), ((A60_L_z10_L_3 (R60_L_z10_L nr) a0 a1 a2 a3).2.getD (toNat (a1.2.length : Int)) default).2.2.2.1, ((A60_L_z10_L_3 (R60_L_z10_L nr) a0 a1 a2 a3).2.getD (toNat (a1.2.length : Int)) default).2.2.2.2.1, ((A60_L_z10_L_3 (R60_L_z10_L nr) a0 a1 a2 a3).2.getD (toNat (a1.2.length : Int)) default).2.2.2.2.2)).getD (toNat (a1.2.length : Int)) default).1, (((A60_L_z10_L_3 (R60_L_z10_L nr) a0 a1 a2 a3).2.set (toNat (a1.2.length : Int)) (((A60_L_z10_L_3 (R60_L_z10_L nr) a0 a1 a2 a3).2.getD (toNat (a1.2.length : Int)) default).1, ((A60_L_z10_L_3 (R60_L_z10_L nr) a0 a1 a2 a3).2.getD (toNat (a1.2.length : Int)) default).2.1, (((a1.2.length + 1) : Nat) : Int), ((A60_L_z10_L_3 (R60_L_z10_L nr) a0 a1 a2 a3).2.getD (toNat (a1.2.length : Int)) default).2.2.2.1, ((A60_L_z10_L_3 (R60_L_z10_L nr) a0 a1 a2 a3).2.getD (toNat (a1.2.length : Int)) default).2.2.2.2.1, ((A60_L_z10_L_3 (R60_L_z10_L nr) a0 a1 a2 a3).2.getD (toNat (a1.2.length : Int)) default).2.2.2.2.2)).getD (toNat (a1.2.length : Int)) default).2.1, (((A60_L_z10_L_3 (R60_L_z10_L nr) a0 a1 a2 a3).2.set (toNat (a1.2.length : Int)) (((A60_L_z10_L_3 (R60_L_z10_L nr) a0 a1 a2 a3).2.getD (toNat (a1.2.length : Int)) default).1, ((A60_L_z10_L_3 (R60_L_z10_L nr) a0 a1 a2 a3).2.getD (toNat (a1.2.length : Int)) default).2.1, (((a1.2.length + 1) : Nat) : Int), ((A60_L_z10_L_3 (R60_L_z10_L nr) a0 a1 a2 a3).2.getD (toNat (a1.2.length : Int)) default).2.2.2.1, ((A60_L_z10_L_3 (R60_L_z10_L nr) a0 a1 a2 a3).2.getD (toNat (a1.2.length : Int)) default).2.2.2.2.1, ((A60_L_z10_L_3 (R60_L_z10_L nr) a0 a1 a2 a3).2.getD (toNat (a1.2.length : Int)) default).2.2.2.2.2)).getD (toNat (a1.2.length : Int)) default).2.2.1, (((A60_L_z10_L_2 (R60_L_z10_L nr) a0 a1 a2 a3).2.length : Nat) : Int), (((A60_L_z10_L_3 (R60_L_z10_L nr) a0 a1 a2 a3).2.set (toNat (a1.2.length : Int)) (((A60_L_z10_L_3 (R60_L_z10_L nr) a0 a1 a2 a3).2.getD (toNat (a1.2.length : Int)) default).1, ((A60_L_z10_L_3 (R60_L_z10_L nr) a0 a1 a2 a3).2.getD (toNat (a1.2.length : Int)) default).2.1, (((a1.2.length + 1) : Nat) : Int), ((A60_L_z10_L_3 (R60_L_z10_L nr) a0 a1 a2 a3).2.getD (toNat (a1.2.length : Int)) default).2.2.2.1, ((A60_L_z10_L_3 (R60_L_z10_L nr) a0 a1 a2 a3).2.getD (toNat (a1.2.length : Int)) default).2.2.2.2.1, ((A60_L_z10_L_3 (R60_L_z10_L nr) a0 a1 a2 a3).2.getD (toNat (a1.2.length : Int)) default).2.2.2.2.2)).getD (toNat (a1.2.length : Int)) default).2.2.2.2.1, (((A60_L_z10_L_3 (R60_L_z10_L nr) a0 a1 a2 a3).2.set (toNat (a1.2.length : Int)) (((A60_L_z10_L_3 (R60_L_z10_L nr) a0 a1 a2 a3).2.getD (toNat (a1.2.length : Int)) default).1, ((A60_L_z10_L_3 (R60_L_z10_L nr) a0 a1 a2 a3).2.getD (toNat (a1.2.length : Int)) default).2.1, (((a1.2.length + 1) : Nat) : Int), ((A60_L_z10_L_3 (R60_L_z10_L nr) a0 a1 a2 a3).2.getD (toNat (a1.2.length : Int)) default).2.2.2.1, ((A60_L_z10_L_3 (R60_L_z10_L nr) a0 a1 a2 a3).2.getD (toNat (a1.2.length : Int)) default).2.2.2.2.1, ((A60_L_z10_L_3 (R60_L_z10_L nr) a0 a1 a2 a3).2.getD (toNat (a1.2.length : Int)) default).2.2.2.2.2)).getD (toNat (a1.2.length : Int)) default).2.2.2.2.2)) = (A60_L_z10_L_3 (R60_L_z10_L nr) a0 a1 a2 a3).2.length from by first | simp; done | omega]
  exact rtm (t0 ++ [.d h0, .c [0, 2] (C84_L_L a0 a2 (by omega) (by omega) hp.inr (by omega)), .c [0, 2] (C83_L_L a0 a2 (F84_L_L a0 a2) (by omega) (by omega) hp.inr (by omega)), .p (show (2 : Int) ≠ 0 from by decide), .S c3_len (F83_L_L a0 a2 (F84_L_L a0 a2)) 0 (W (Int.tdiv (W ((((F83_L_L a0 a2 (F84_L_L a0 a2)).length : Nat) : Int) + 1)) 2)) ((F83_L_L a0 a2 (F84_L_L a0 a2)).length), .c [0, 8, 10] (by have q := (ihr a0 (([] : List (Int)), (a1.2 ++ [(0, (W (0 + (a2.length : Int))), (-1), (-1), ((F80_L_L a0 a2 0), (F80_L_L a0 a2 1), (F80_L_L a0 a2 2)), (A60_L_z10_L_1 a0 a1 a2 a3).1)])) (Aw.part (F83_L_L a0 a2 (F84_L_L a0 a2)) 0 (W (Int.tdiv (W ((((F83_L_L a0 a2 (F84_L_L a0 a2)).length : Nat) : Int) + 1)) 2))) a3 (by (try simp only [Lt]); omega) (by (try simp only [Lt]); omega) (by (try simp only [Lt]); omega) (by (try simp only [Lt]); omega) (by first | exact pgrw1 hp _ h2 | exact pgrw2 hp _ h2 h5) (by omega)); (try dsimp only at q); rw [show flat c40 (a1.2 ++ [(0, (W (0 + (a2.length : Int))), (-1), (-1), ((F80_L_L a0 a2 0), (F80_L_L a0 a2 1), (F80_L_L a0 a2 2)), (A60_L_z10_L_1 a0 a1 a2 a3).1)]) = (flat c40 a1.2 ++ [(iv 0), (iv (W (0 + (a2.length : Int)))), (iv (-1)), (iv (-1)), (iv (F80_L_L a0 a2 0)), (iv (F80_L_L a0 a2 1)), (iv (F80_L_L a0 a2 2)), (iv (A60_L_z10_L_1 a0 a1 a2 a3).1)]) from flat_append] at q; (try rw [show List.length (α := Int × Int × Int × Int × (Int × Int × Int) × Int) (a1.2 ++ [(0, (W (0 + (a2.length : Int))), (-1), (-1), ((F80_L_L a0 a2 0), (F80_L_L a0 a2 1), (F80_L_L a0 a2 2)), (A60_L_z10_L_1 a0 a1 a2 a3).1)]) = (a1.2.length + 1) from by first | simp; done | omega] at q); (try rw [show List.length (α := Int) (Aw.part (F83_L_L a0 a2 (F84_L_L a0 a2)) 0 (W (Int.tdiv (W ((((F83_L_L a0 a2 (F84_L_L a0 a2)).length : Nat) : Int) + 1)) 2))) = (toNat (W (Int.tdiv (W ((((F83_L_L a0 a2 (F84_L_L a0 a2)).length : Nat) : Int) + 1)) 2)) - toNat 0) from by first | simp; done | omega] at q); exact q), .S c3_len (F83_L_L a0 a2 (F84_L_L a0 a2)) (W (Int.tdiv (W ((((F83_L_L a0 a2 (F84_L_L a0 a2)).length : Nat) : Int) + 1)) 2)) (((F83_L_L a0 a2 (F84_L_L a0 a2)).length : Nat) : Int) ((F83_L_L a0 a2 (F84_L_L a0 a2)).length), .c [0, 11, 12, 13] (by have q := (C60_L_z00_L a0 ((A60_L_z10_L_2 (R60_L_z10_L nr) a0 a1 a2 a3).1, (A60_L_z10_L_2 (R60_L_z10_L nr) a0 a1 a2 a3).2) (Aw.part (F83_L_L a0 a2 (F84_L_L a0 a2)) (W (Int.tdiv (W ((((F83_L_L a0 a2 (F84_L_L a0 a2)).length : Nat) : Int) + 1)) 2)) (((F83_L_L a0 a2 (F84_L_L a0 a2)).length : Nat) : Int)) a3 (by (try simp only [Lt]); omega) (by (try simp only [Lt]); omega) (by (try simp only [Lt]); omega) (by (try simp only [Lt]); omega) (by first | exact pgrw1 hp _ h2 | exact pgrw2 hp _ h2 h5)); (try dsimp only at q); (try rw [show List.length (α := Int) (Aw.part (F83_L_L a0 a2 (F84_L_L a0 a2)) (W (Int.tdiv (W ((((F83_L_L a0 a2 (F84_L_L a0 a2)).length : Nat) : Int) + 1)) 2)) (((F83_L_L a0 a2 (F84_L_L a0 a2)).length : Nat) : Int)) = (toNat (((F83_L_L a0 a2 (F84_L_L a0 a2)).length : Nat) : Int) - toNat (W (Int.tdiv (W ((((F83_L_L a0 a2 (F84_L_L a0 a2)).length : Nat) : Int) + 1)) 2))) from by first | simp; done | omega] at q); exact q), .i (a1.2.length : Int) ((A60_L_z10_L_3 (R60_L_z10_L nr) a0 a1 a2 a3).2.length), .p (show ((0 + toNat (a1.2.length : Int) * 8 + 2) + 1 ≤ (flat c40 (A60_L_z10_L_3 (R60_L_z10_L nr) a0 a1 a2 a3).2).length) from (flat_setl c40_len (by first | omega | (simp only [Lt]; omega)) (o := 2) (Nb rfl))), .i (a1.2.length : Int) ((A60_L_z10_L_3 (R60_L_z10_L nr) a0 a1 a2 a3).2.length), .p (show ((0 + toNat (a1.2.length : Int) * 8 + 3) + 1 ≤ (splice (flat c40 (A60_L_z10_L_3 (R60_L_z10_L nr) a0 a1 a2 a3).2) (0 + toNat (a1.2.length : Int) * 8 + 2) [(iv (((a1.2.length + 1) : Nat) : Int))]).length) from (by rw [show (splice (flat c40 (A60_L_z10_L_3 (R60_L_z10_L nr) a0 a1 a2 a3).2) (0 + toNat (a1.2.length : Int) * 8 + 2) [(iv (((a1.2.length + 1) : Nat) : Int))]) = flat c40 ((A60_L_z10_L_3 (R60_L_z10_L nr) a0 a1 a2 a3).2.set (toNat (a1.2.length : Int)) (((A60_L_z10_L_3 (R60_L_z10_L nr) a0 a1 a2 a3).2.getD (toNat (a1.2.length : Int)) default).1, ((A60_L_z10_L_3 (R60_L_z10_L nr) a0 a1 a2 a3).2.getD (toNat (a1.2.length : Int)) default).2.1, (((a1.2.length + 1) : Nat) : Int), ((A60_L_z10_L_3 (R60_L_z10_L nr) a0 a1 a2 a3).2.getD (toNat (a1.2.length : Int)) default).2.2.2.1, ((A60_L_z10_L_3 (R60_L_z10_L nr) a0 a1 a2 a3).2.getD (toNat (a1.2.length : Int)) default).2.2.2.2.1, ((A60_L_z10_L_3 (R60_L_z10_L nr) a0 a1 a2 a3).2.getD (toNat (a1.2.length : Int)) default).2.2.2.2.2)) from (flat_set c40_len (by first | omega | (simp only [Lt]; omega)) (o := 2) (d := default) (Nb rfl) rfl)]; exact flat_setl c40_len (by first | omega | (simp only [Lt]; omega)) (o := 3) (Nb rfl)))]) [] [1] [14, 15] hcx (by kernel_rfl)

theorem C60_L_z10_L (a0 : TyL) (a1 : List (Int) × TyN) (a2 : List (Int)) (a3 : Int) (l0 : a0.length ≤ 9223372036854775807) (l1_1 : a1.1.length ≤ 9223372036854775807) (l1_2 : a1.2.length ≤ 9223372036854775807) (l2 : a2.length ≤ 9223372036854775807) (hp : PGRW a0 ([], a1.2) a2 a3) : Con Try.prog 60 [(.s 0 0 a0.length 10), (.a [(.v (.slice none 0 0)), (.s 1 0 a1.2.length 8)]), (.s 2 0 a2.length 1), (iv a3)] [(.live false true (flat c81 a0)), (.live true true (flat c40 a1.2)), (.live false true (flat c3 a2))] (.a [(.s 3 0 (F60_L_z10_L a0 a1 a2 a3).1.length 1), (.s 4 0 (F60_L_z10_L a0 a1 a2 a3).2.length 8)]) [(.live true true (flat c3 (F60_L_z10_L a0 a1 a2 a3).1)), (.live true true (flat c40 (F60_L_z10_L a0 a1 a2 a3).2))] [.un, .dead, .un] := Cr60_L_z10_L (a2.length + 1) a0 a1 a2 a3 l0 l1_1 l1_2 l2 hp (lss _)

end Go.Proofs.Ytnbpiejjeeomkaa
