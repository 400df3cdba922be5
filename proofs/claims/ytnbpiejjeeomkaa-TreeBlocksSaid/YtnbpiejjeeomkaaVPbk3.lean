/-
  Parts of the proofs of the laws: the executor, what functions of the program compute, and that it is what the statements ask. No premise.
-/
import Derived.Test.YtnbpiejjeeomkaaVPbk2
import Derived.Deep.Slices
import Derived.ProofKit
import Derived.RowKit
import Derived.Sort.AssemblyPlain
set_option linter.unusedVariables false
set_option linter.unusedSimpArgs false
set_option maxHeartbeats 4000000
open Int (toNat)
namespace Go.Proofs.Ytnbpiejjeeomkaa
open Go.Proofs Go.Aw Go.RowKit
set_option maxRecDepth 100000

open Go.ChangeShapes Go.WideShapes Go.ChangeAt
section
variable {H : Type} {enc : TypeId × Value → H} {P : Program} {w : World}
def SliceOf (w : World) (es : Nat) (v : Value) (nss : List (List Int)) : Prop :=
 (∀ ns ∈ nss, ns.length = es) ∧ nss.length ≤ 9223372036854775807 ∧
 ((v = .slice none 0 0 ∧ nss = []) ∨ ∃ b o cap, v = .slice (some ⟨b, o, none⟩) nss.length cap ∧ nss.length ≤ cap ∧ ∀ (i : Nat) (x : Value), ((nss.flatten).map (Value.int .i64))[i]? = some x → w.cell? ⟨b, o + i, none⟩ = some x)
theorem flat_cells {es b : Nat} : ∀ (nss : List (List Int)) (o : Nat), (∀ (j : Nat) (ns : List Int), nss[j]? = some ns → ns.length = es ∧ ∀ (q : Nat) (x : Value), (ns.map (Value.int .i64))[q]? = some x → w.cell? ⟨b, o + j * es + q, none⟩ = some x) →
   ∀ (i : Nat) (x : Value), ((nss.flatten).map (Value.int .i64))[i]? = some x → w.cell? ⟨b, o + i, none⟩ = some x
 | [], o, _, i, x, hi => by simp at hi
 | ns :: l, o, h, i, x, hi => by
   obtain ⟨h1, h2⟩ := h 0 ns rfl
   rw [List.flatten_cons, List.map_append] at hi
   by_cases hlt : i < ns.length
   · rw [List.getElem?_append_left (by simpa using hlt)] at hi
     have := h2 i x hi
     simpa using this
   · rw [List.getElem?_append_right (by simpa using hlt)] at hi
     have := flat_cells l (o + es) (fun j ms hj => ⟨(h (j + 1) ms hj).1, fun q y hq => by
       have := (h (j + 1) ms hj).2 q y hq
       rw [show o + es + j * es + q = o + (j + 1) * es + q by rw [Nat.add_mul]; omega]; exact this⟩) (i - es) x (by simpa [h1] using hi)
     rw [show o + es + (i - es) = o + i by omega] at this; exact this
theorem open_list {r : Reach} {b0 : Nat} {t e : TypeId} {es : Nat} {v : Value} {d : DataW H} {ps : List MemPlace} (ht : P.underlying t = some (.slice e)) (hf : flatB P 6 e = true) (hes : P.cellsOf e = es)
   (hval : Value.okWide P w r b0 t v) (hd : DataW.Trod enc P w 0 (fun _ => true) true t v d ps) : (∃ nss, SliceOf w es v nss) ∧ ∀ x ∈ ps, x.block < w.heap.size := by
 obtain ⟨fuel, hx⟩ := hd
 refine ⟨?_, DataW.trod_lt fuel t _ _ hx⟩
 obtain ⟨a, len, cap, rfl⟩ := okWide_slice ht hval
 rcases Go.Deep.open_slice ht hx with ⟨hc, _⟩ | ⟨a', len', cap', m, n, D, Pl, hc, hb, hl, hm, hmm, _, hall⟩
 · simp only [Value.cells, List.cons.injEq, and_true] at hc
   exact ⟨[], fun ns h => by simp at h, by simp, .inl ⟨hc, rfl⟩⟩
 · simp only [Value.cells, List.cons.injEq, and_true, Value.slice.injEq] at hc
   obtain ⟨rfl, rfl, rfl⟩ := hc
   simp only [Value.okWide, ht, Cell.okWide, Cell.ok, World.has] at hval
   have hsp : a'.spot = none := hval.2.2.2.1
   obtain ⟨b, o, sp⟩ := a'
   simp only at hsp
   subst hsp
   simp only [if_true] at hmm
   obtain ⟨N, hN⟩ := Go.Deep.choose_lt (α := List Int) (p := fun i ns => ns.length = es ∧ ∀ (q : Nat) (x : Value), (ns.map (Value.int .i64))[q]? = some x → w.cell? ⟨b, o + i * es + q, none⟩ = some x) (n := len) (fun i hi => by
     obtain ⟨cs', h1, h2⟩ := hall i (by omega)
     obtain ⟨_, ns, rfl⟩ := flat_trod 6 e n cs' _ hf h2
     obtain ⟨_, hlen, hcell⟩ := World.cells?_some h1
     rw [hes] at hlen hcell
     refine ⟨ns, by simpa using hlen, fun q x hq => ?_⟩
     have hq' := (List.getElem?_eq_some_iff.1 hq).1
     have := hcell q (by omega)
     rw [Go.Aw.add_eq, Go.Aw.add_eq] at this
     rw [this, hq])
   refine ⟨(List.range len).map N, fun ns h => ?_, ?_, .inr ⟨b, o, cap, ?_, ?_, ?_⟩⟩
   · obtain ⟨i, hi, rfl⟩ := List.mem_map.1 h
     exact (hN i (by simpa using hi)).1
   · have : maxLen = 9223372036854775807 := rfl
     simp; omega
   · simp
   · simpa using hl
   · refine flat_cells (es := es) _ o (fun j ns hj => ?_)
     have hjl := (List.getElem?_eq_some_iff.1 hj).1
     simp only [List.length_map, List.length_range] at hjl
     have : N j = ns := by simpa [hjl] using hj
     subst this
     exact hN j hjl
def rho (es : Nat) : Value → Option (Nat × Nat × Nat)
 | .slice (some a) _ cap => some (a.block, a.off, cap * es)
 | _ => none
theorem slice_rel {es : Nat} {v : Value} {nss : List (List Int)} {ρ : Env} {k : Nat} (h : SliceOf w es v nss) (hk : ρ k = rho es v) : Rel ρ (.s k 0 nss.length es) v := by
 obtain ⟨h1, h2, ⟨rfl, rfl⟩ | ⟨b, o, cap, rfl, h3, h4⟩⟩ := h
 · simp only [Rel]; exact .inl ⟨hk, rfl, trivial⟩
 · simp only [Rel]; exact .inr ⟨b, o, cap * es, cap, 0, hk, rfl, h3, by omega, fun _ => rfl⟩
theorem flatten_len {es : Nat} : ∀ {nss : List (List Int)}, (∀ ns ∈ nss, ns.length = es) → nss.flatten.length = nss.length * es
 | [], _ => by simp
 | ns :: l, h => by
   rw [List.flatten_cons, List.length_append, flatten_len (fun m hm => h m (List.mem_cons_of_mem _ hm)), h ns List.mem_cons_self, List.length_cons, Nat.add_mul]; omega
theorem slice_brep {es : Nat} {v : Value} {nss : List (List Int)} {ρ : Env} {k : Nat} {M : Nat → Prop} (h : SliceOf w es v nss) (hk : ρ k = rho es v) (hM : ∀ b, M b → w.heap.size ≤ b) : BRep ρ M w k (.live false true ((nss.flatten).map iv)) := by
 obtain ⟨h1, h2, ⟨rfl, rfl⟩ | ⟨b, o, cap, rfl, h3, h4⟩⟩ := h
 · exact .inl ⟨hk, rfl⟩
 · have hlen := flatten_len h1
   refine .inr ⟨b, o, cap * es, (nss.flatten).map (Value.int .i64), hk, ⟨?_, fun hne hm => ?_⟩, rels_iv _, h4⟩
   · rw [List.length_map, hlen]; exact Nat.mul_le_mul_right _ h3
   · have hb := hM b hm
     obtain ⟨x, hx⟩ := List.exists_mem_of_ne_nil _ hne
     obtain ⟨i, hi⟩ := List.getElem?_of_mem hx
     have := World.block_lt_of_cell? w ⟨b, o + i, none⟩ (h4 i x hi)
     exact absurd this (Nat.not_lt_of_le hb)
theorem flat_mk {α : Type} {c : α → List SV} {f : List Int → α} {es : Nat} (hc : ∀ ns : List Int, ns.length = es → c (f ns) = ns.map iv) : ∀ {nss : List (List Int)}, (∀ ns ∈ nss, ns.length = es) → flat c (nss.map f) = (nss.flatten).map iv
 | [], _ => rfl
 | ns :: l, h => by
   have := flat_mk hc (nss := l) (fun m hm => h m (List.mem_cons_of_mem _ hm))
   unfold flat at *
   rw [List.map_cons, List.flatMap_cons, this, hc ns (h ns List.mem_cons_self), List.flatten_cons, List.map_append]
end
theorem plain_ivs : ∀ ns : List Int, Plain (ns.map iv)
 | [] => fun k hk => by simp [SV.hasl] at hk
 | n :: l => fun k hk => by
   simp only [List.map_cons, SV.hasl] at hk
   rcases hk with hk | hk
   · simp [iv, SV.has] at hk
   · exact plain_ivs l k hk
theorem law_callsL {P : Program} {f : Nat} {args : List SV} {vs : List Value} {x : Value} {bs : List BK} (hc : Con P f args bs (.v x) []) (ρ : Env) {W : World} (hr : Rels ρ args vs) (hown : ∀ i, ¬ (bs.getD i .un).own)
   (hb : (∀ b, (callCx ρ W bs).mine b → W.heap.size ≤ b) → ∀ i, BRep ρ (callCx ρ W bs).mine W i (bs.getD i .un)) (hpl : ∀ i, (bs.getD i .un).pl) (hnf : ∀ b, ρ.fz b = none) :
   Calls P f vs.toArray W fun e W' => e = .returned x ∧ Below W.heap.size W W' := by
 have hM : ∀ b, (callCx ρ W bs).mine b → W.heap.size ≤ b := by
   rintro b (h | ⟨i, n, hi, _⟩)
   · exact h
   · exact absurd hi (hown i)
 refine (hc.2 ρ W vs hr (hb hM) hpl (fun i j b n b' n' _ h => absurd h (hown i)) (fun b o h => by rw [hnf b] at h; cases h)).mono fun e W' h => ?_
 obtain ⟨ρ', v, rfl, _, hv, hk, _⟩ := h
 refine ⟨by rw [show v = x from hv], hk.os, hk.tape, hk.output, hk.size, fun k hk' => hk.block k hk' ?_⟩
 rintro ⟨i, n, hi, _⟩
 exact hown i hi
def rho1 (e : Nat) (v : Value) : Env := ⟨fun k => if k = 0 then rho e v else none, fun _ => none⟩
theorem law_calls1 {P : Program} {f es0 : Nat} {args : List SV} {vs : List Value} {x v0 : Value} {nss0 : List (List Int)} {W : World} (hc : Con P f args [.live false true ((nss0.flatten).map iv)] (.v x) [])
   (s0 : SliceOf W es0 v0 nss0) (hr : Rels (rho1 es0 v0) args vs) : Calls P f vs.toArray W fun e W' => e = .returned x ∧ Below W.heap.size W W' := by
 refine law_callsL hc _ hr (fun i => ?_) (fun hM i => ?_) (fun i => ?_) (fun _ => rfl)
 · rcases i with _ | i <;> simp [BK.own]
 · rcases i with _ | i
   · exact slice_brep s0 rfl hM
   · simp [BRep]
 · rcases i with _ | i
   · exact plain_ivs _
   · simp [BK.pl]
end Go.Proofs.Ytnbpiejjeeomkaa

namespace Go.Proofs.Ytnbpiejjeeomkaa
open Go.Proofs Go.Aw Go.RowKit
set_option maxRecDepth 100000

theorem flat_one {α : Type} {c : α → List SV} (hc : ∀ x, (c x).all SV.one = true) {l : List α} : (flat c l).all SV.one = true := by
 rw [List.all_eq_true]
 intro x hx
 obtain ⟨a, _, ha⟩ := List.mem_flatMap.1 hx
 exact List.all_eq_true.1 (hc a) x ha
theorem flat_lenc {α : Type} {c : α → List SV} {es : Nat} (hc : ∀ x, (c x).length = es) (l : List α) : (flat c l).length = l.length * es := flat_length hc l
section
variable {l : List (Int × Int)}
end
end Go.Proofs.Ytnbpiejjeeomkaa

namespace Go.Proofs.Ytnbpiejjeeomkaa
open Go.Proofs Go.Aw Go.RowKit
set_option maxRecDepth 100000

theorem vch_len {l : List (PN × Int)} (h : F32_L l = 0) : l.length ≤ 96 := by
 rcases Nat.lt_or_ge 96 l.length with h' | h'
 · exfalso
   unfold F32_L at h
   rw [dqt (by omega), cond_true] at h
   exact absurd h (by decide)
 · exact h'
theorem flat_set {α : Type} {c : α → List SV} {es : Nat} (hc : ∀ x, (c x).length = es) {L : List α} {i o : Nat} {xs : List SV} {d y : α} (hi : i < L.length) (ho : o + xs.length ≤ es) (hy : c y = splice (c (L.getD i d)) o xs) :
   splice (flat c L) (0 + i * es + o) xs = flat c (L.set i y) := by
 induction L generalizing i with
 | nil => simp at hi
 | cons x L ih =>
   cases i with
   | zero =>
     have hy' : c y = splice (c x) o xs := hy
     have hx := hc x
     simp only [flat, List.flatMap_cons, List.set_cons_zero, hy']
     unfold splice
     simp only [Nat.zero_mul, Nat.zero_add]
     rw [List.take_append_of_le_length (by omega), List.drop_append_of_le_length (by omega)]
     simp [List.append_assoc]
   | succ i =>
     have h := ih (i := i) (by simpa using hi) hy
     have hx := hc x
     simp only [flat, List.flatMap_cons, List.set_cons_succ] at h ⊢
     rw [← h]
     unfold splice
     have e1 : 0 + (i + 1) * es + o = (c x).length + (0 + i * es + o) := by rw [hx, Nat.add_mul]; omega
     rw [e1, List.take_length_add_append, show (c x).length + (0 + i * es + o) + xs.length = (c x).length + (0 + i * es + o + xs.length) by omega, List.drop_length_add_append]
     simp [List.append_assoc]
theorem flat_setl {α : Type} {c : α → List SV} {es : Nat} (hc : ∀ x, (c x).length = es) {L : List α} {i o n : Nat} (hi : i < L.length) (ho : o + n ≤ es) : 0 + i * es + o + n ≤ (flat c L).length := by
 rw [flat_length hc]
 have := Nat.mul_le_mul_right es (show i + 1 ≤ L.length by omega)
 rw [Nat.add_mul] at this
 omega


theorem mulw (w i es x : Nat) : 0 + w * es + i * es + x = 0 + (w + i) * es + x := by rw [Nat.add_mul]; omega
theorem flat_setw {α : Type} {c : α → List SV} {es : Nat} (hc : ∀ x, (c x).length = es) {L : List α} {w i o : Nat} {xs : List SV} {d y : α} (hi : w + i < L.length) (ho : o + xs.length ≤ es) (hy : c y = splice (c (L.getD (w + i) d)) o xs) :
 splice (flat c L) (0 + w * es + i * es + o) xs = flat c (L.set (w + i) y) := by rw [mulw]; exact flat_set hc hi ho hy
theorem flat_setwl {α : Type} {c : α → List SV} {es : Nat} (hc : ∀ x, (c x).length = es) {L : List α} {w i o n : Nat} (hi : w + i < L.length) (ho : o + n ≤ es) : 0 + w * es + i * es + o + n ≤ (flat c L).length := by rw [mulw]; exact flat_setl hc hi ho
theorem ldw {α : Type} [Inhabited α] {c : α → List SV} {es : Nat} (hc : ∀ x, (c x).length = es) (l : List α) (w : Nat) (i : Int) (o n : Nat) (h : w + i.toNat < l.length) (ho : o + n ≤ es) :
   ((flat c l).drop (0 + w * es + i.toNat * es + o)).take n = ((c (l.getD (w + i.toNat) default)).drop o).take n := by
 rw [mulw]
 have := ld_at hc l ((w + i.toNat : Nat) : Int) o n ⟨by omega, by omega⟩ ho
 rw [itn] at this
 exact this
def stLw {P : Program} {α : Type} [Inhabited α] {c : α → List SV} {es : Nat} (hc : ∀ x, (c x).length = es) (l : List α) (w : Nat) (i : Int) (o n : Nat) (h : w + i.toNat < l.length := by first | omega | (simp only [Lt]; omega)) (ho : o + n ≤ es := by decide) : St P :=
 St.l (l := flat c l) (o := 0 + w * es + i.toNat * es + o) (n := n) (((c (l.getD (w + i.toNat) default)).drop o).take n) (ldw hc l w i o n h ho)
def InR (n : Nat) (l : List Int) : Prop := ∀ x ∈ l, 0 ≤ x ∧ x < (n : Int)
theorem InR.at {n : Nat} {l : List Int} (h : InR n l) {i : Nat} (hi : i < l.length) : 0 ≤ l.getD i default ∧ l.getD i default < (n : Int) := by
 rw [gdq, List.getElem?_eq_getElem hi, Option.getD_some]
 exact h _ (List.getElem_mem hi)
theorem InR.set {n : Nat} {l : List Int} (h : InR n l) {i : Nat} {x : Int} (hx : 0 ≤ x ∧ x < (n : Int)) : InR n (l.set i x) := fun y hy => by
 rcases List.mem_or_eq_of_mem_set hy with hy | rfl
 · exact h y hy
 · exact hx
theorem InR.swap {n : Nat} {l : List Int} (h : InR n l) {i j p q : Nat} (hp : p < l.length) (hq : q < l.length) : InR n ((l.set i (l.getD p default)).set j (l.getD q default)) := (h.set (h.at hp)).set (h.at hq)

def c3 (x : Int) : List SV := [(iv x)]
theorem c3_len (x : Int) : (c3 x).length = 1 := rfl

def c40 (x : Int × Int × Int × Int × (Int × Int × Int) × Int) : List SV := [(iv x.1), (iv x.2.1), (iv x.2.2.1), (iv x.2.2.2.1), (iv x.2.2.2.2.1.1), (iv x.2.2.2.2.1.2.1), (iv x.2.2.2.2.1.2.2), (iv x.2.2.2.2.2)]
theorem c40_len (x : Int × Int × Int × Int × (Int × Int × Int) × Int) : (c40 x).length = 8 := rfl

def F95 (a0 : TyL × Int × List (Int) × TyN) (a1 : Int) (a2 : Int) : Int :=
 (bif ((a2 : Int) == 0) then
  (W ((W ((a0.1.getD (toNat a1) default).1.1.1 + (a0.1.getD (toNat a1) default).1.2.1.1)) + (a0.1.getD (toNat a1) default).1.2.2.1))
 else
  (bif ((a2 : Int) == 1) then
   (W ((W ((a0.1.getD (toNat a1) default).1.1.2.1 + (a0.1.getD (toNat a1) default).1.2.1.2.1)) + (a0.1.getD (toNat a1) default).1.2.2.2.1))
  else
   (W ((W ((a0.1.getD (toNat a1) default).1.1.2.2 + (a0.1.getD (toNat a1) default).1.2.1.2.2)) + (a0.1.getD (toNat a1) default).1.2.2.2.2))))

theorem C95 (a0 : TyL × Int × List (Int) × TyN) (a1 : Int) (a2 : Int) (l0_1 : a0.1.length ≤ 9223372036854775807) (l0_2_2_1 : a0.2.2.1.length ≤ 9223372036854775807) (l0_2_2_2 : a0.2.2.2.length ≤ 9223372036854775807) (hi : 0 ≤ a1 ∧ a1 < (a0.1.length : Int)) : Con Try.prog 95 [(.p 0 0), (iv a1), (iv a2)] [(.live false false [(.s 1 0 a0.1.length 10), (iv a0.2.1), (.s 2 0 a0.2.2.1.length 1), (.s 3 0 a0.2.2.2.length 8)]), (.live false true (flat c81 a0.1)), (.live false true (flat c3 a0.2.2.1)), (.live false true (flat c40 a0.2.2.2))] (iv (F95 a0 a1 a2)) [] := by
 refine con_s Try.func95 (by kernel_rfl) fun cx hcx => ?_
 let t0 : List (St Try.prog) := [.i a1 (a0.1.length), .L c81_len a0.1 a1 0 9]
 cases h0 : ((a2 : Int) == 0) with
 | true =>
  have q0 := eq_of_beq h0
  have e := Eq.refl (F95 a0 a1 a2); conv at e => rhs; simp only [F95, h0, cdb]
  rw [e]
  exact rt (t0 ++ [.d h0]) [] [] hcx (by kernel_rfl)
 | false =>
  have q0 := ne_of_beq_false h0
  let t1 : List (St Try.prog) := (t0 ++ [.d h0])
  cases h1 : ((a2 : Int) == 1) with
  | true =>
   have q1 := eq_of_beq h1
   have e := Eq.refl (F95 a0 a1 a2); conv at e => rhs; simp only [F95, h0, h1, cdb]
   rw [e]
   exact rt (t1 ++ [.d h1]) [] [] hcx (by kernel_rfl)
  | false =>
   have q1 := ne_of_beq_false h1
   have e := Eq.refl (F95 a0 a1 a2); conv at e => rhs; simp only [F95, h0, h1, cdb]
   rw [e]
   exact rt (t1 ++ [.d h1]) [] [] hcx (by kernel_rfl)

def F117 (a0 : Int) : Bool :=
 ((a0 : Int) != a0)

theorem C117 (a0 : Int) : Con Try.prog 117 [(iv a0)] [] (.v (.bool (F117 a0))) [] := by
 refine con_s Try.func117 (by kernel_rfl) fun cx hcx => ?_
 have e := Eq.refl (F117 a0); conv at e => rhs; simp only [F117]
 rw [e]
 exact rt [] [] [] hcx (by kernel_rfl)

def F97 (a0 : Int) (a1 : Int) : Int :=
 (bif (F117 a0) then
  (bif (F117 a1) then
   0
  else
   (-1))
 else
  (bif (F117 a1) then
   1
  else
   (bif (decide ((a0 : Int) < a1)) then
    (-1)
   else
    (bif (decide ((a0 : Int) > a1)) then
     1
    else
     0))))

theorem C97 (a0 : Int) (a1 : Int) : Con Try.prog 97 [(iv a0), (iv a1)] [] (iv (F97 a0 a1)) [] := by
 refine con_s Try.func97 (by kernel_rfl) fun cx hcx => ?_
 let t0 : List (St Try.prog) := [.c [] (C117 a0), .c [] (C117 a1)]
 cases h0 : (F117 a0) with
 | true =>
  let t1 : List (St Try.prog) := (t0 ++ [.d h0])
  cases h1 : (F117 a1) with
  | true =>
   have e := Eq.refl (F97 a0 a1); conv at e => rhs; simp only [F97, h0, h1, cdb]
   rw [e]
   exact rt (t1 ++ [.d h1]) [] [] hcx (by kernel_rfl)
  | false =>
   have e := Eq.refl (F97 a0 a1); conv at e => rhs; simp only [F97, h0, h1, cdb]
   rw [e]
   exact rt (t1 ++ [.d h1]) [] [] hcx (by kernel_rfl)
 | false =>
  let t1 : List (St Try.prog) := (t0 ++ [.d h0])
  cases h1 : (F117 a1) with
  | true =>
   have e := Eq.refl (F97 a0 a1); conv at e => rhs; simp only [F97, h0, h1, cdb]
   rw [e]
   exact rt (t1 ++ [.d h1]) [] [] hcx (by kernel_rfl)
  | false =>
   let t2 : List (St Try.prog) := (t1 ++ [.d h1])
   cases h2 : (decide ((a0 : Int) < a1)) with
   | true =>
    have q2 := odt h2
    have e := Eq.refl (F97 a0 a1); conv at e => rhs; simp only [F97, h0, h1, h2, cdb]
    rw [e]
    exact rt (t2 ++ [.d h2]) [] [] hcx (by kernel_rfl)
   | false =>
    have q2 := odf h2
    let t3 : List (St Try.prog) := (t2 ++ [.d h2])
    cases h3 : (decide ((a0 : Int) > a1)) with
    | true =>
     have q3 := odt h3
     have e := Eq.refl (F97 a0 a1); conv at e => rhs; simp only [F97, h0, h1, h2, h3, cdb]
     rw [e]
     exact rt (t3 ++ [.d h3]) [] [] hcx (by kernel_rfl)
    | false =>
     have q3 := odf h3
     have e := Eq.refl (F97 a0 a1); conv at e => rhs; simp only [F97, h0, h1, h2, h3, cdb]
     rw [e]
     exact rt (t3 ++ [.d h3]) [] [] hcx (by kernel_rfl)

def F96_2 (a0 : (Int) × (Int)) : Int :=
 (bif ((a0.1 : Int) != 0) then
  a0.1
 else
  (bif ((a0.2 : Int) != 0) then
   a0.2
  else
   0))

theorem C96_2 (a0 : (Int) × (Int)) : Con Try.prog 96 [(.s 0 0 2 1)] [(.live false false [(iv a0.1), (iv a0.2)])] (iv (F96_2 a0)) [] := by
 refine con_s Try.func96 (by kernel_rfl) fun cx hcx => ?_
 let t0 : List (St Try.prog) := [.u 200, .T, .i 0 2 (by decide)]
 cases h0 : ((a0.1 : Int) != 0) with
 | true =>
  have q0 := bne_iff_ne.1 h0
  have e := Eq.refl (F96_2 a0); conv at e => rhs; simp only [F96_2, h0, cdb]
  rw [e]
  exact rt (t0 ++ [.d h0]) [] [] hcx (by kernel_rfl)
 | false =>
  have q0 := bne_eq_false_iff_eq.1 h0
  let t1 : List (St Try.prog) := (t0 ++ [.d h0, .u 0, .T, .i 1 2 (by decide)])
  cases h1 : ((a0.2 : Int) != 0) with
  | true =>
   have q1 := bne_iff_ne.1 h1
   have e := Eq.refl (F96_2 a0); conv at e => rhs; simp only [F96_2, h0, h1, cdb]
   rw [e]
   exact rt (t1 ++ [.d h1]) [] [] hcx (by kernel_rfl)
  | false =>
   have q1 := bne_eq_false_iff_eq.1 h1
   have e := Eq.refl (F96_2 a0); conv at e => rhs; simp only [F96_2, h0, h1, cdb]
   rw [e]
   exact rt (t1 ++ [.d h1, .u 0, .F]) [] [] hcx (by kernel_rfl)

def F77 (a0 : TyB × Int) (a1 : Int) (a2 : Int) : Int :=
 (F96_2 ((F97 (F95 (a0.1.1, a0.1.2.1, (a0.1.2.2.1, a0.1.2.2.2)) a1 a0.2) (F95 (a0.1.1, a0.1.2.1, (a0.1.2.2.1, a0.1.2.2.2)) a2 a0.2)), (F97 a1 a2)))

theorem C77 (a0 : TyB × Int) (a1 : Int) (a2 : Int) (l0_1_1 : a0.1.1.length ≤ 9223372036854775807) (l0_1_2_2_1 : a0.1.2.2.1.length ≤ 9223372036854775807) (l0_1_2_2_2 : a0.1.2.2.2.length ≤ 9223372036854775807) (hi : 0 ≤ a1 ∧ a1 < (a0.1.1.length : Int)) (hk : 0 ≤ a2 ∧ a2 < (a0.1.1.length : Int)) : Con Try.prog 77 [(.a [(.p 0 0), (iv a0.2)]), (iv a1), (iv a2)] [(.live false false [(.s 1 0 a0.1.1.length 10), (iv a0.1.2.1), (.s 2 0 a0.1.2.2.1.length 1), (.s 3 0 a0.1.2.2.2.length 8)]), (.live false true (flat c81 a0.1.1)), (.live false true (flat c3 a0.1.2.2.1)), (.live false true (flat c40 a0.1.2.2.2))] (iv (F77 a0 a1 a2)) [] := by
 refine con_s Try.func77 (by kernel_rfl) fun cx hcx => ?_
 have e := Eq.refl (F77 a0 a1 a2); conv at e => rhs; simp only [F77]
 rw [e]
 exact rt [.c [0, 1, 2, 3] (C95 (a0.1.1, a0.1.2.1, (a0.1.2.2.1, a0.1.2.2.2)) a1 a0.2 (by (try simp only [Lt]); omega) (by (try simp only [Lt]); omega) (by (try simp only [Lt]); omega) (by first | exact hi | exact hk)), .c [0, 1, 2, 3] (C95 (a0.1.1, a0.1.2.1, (a0.1.2.2.1, a0.1.2.2.2)) a2 a0.2 (by (try simp only [Lt]); omega) (by (try simp only [Lt]); omega) (by (try simp only [Lt]); omega) (by first | exact hi | exact hk)), .c [] (C97 (F95 (a0.1.1, a0.1.2.1, (a0.1.2.2.1, a0.1.2.2.2)) a1 a0.2) (F95 (a0.1.1, a0.1.2.1, (a0.1.2.2.1, a0.1.2.2.2)) a2 a0.2)), .c [] (C97 a1 a2), .c [5] (C96_2 ((F97 (F95 (a0.1.1, a0.1.2.1, (a0.1.2.2.1, a0.1.2.2.2)) a1 a0.2) (F95 (a0.1.1, a0.1.2.1, (a0.1.2.2.1, a0.1.2.2.2)) a2 a0.2)), (F97 a1 a2)))] [] [] hcx (by kernel_rfl)


noncomputable def B107_W_b77_1 : Code := (loopAtD [1, 0, 1, 0, 1] [0] (bodyOf Try.f107) []).1
noncomputable def K107_W_b77_1 (m0 : Nat) : List K := (loopAtD [1, 0, 1, 0, 1] [m0] (bodyOf Try.f107) []).2

def st107_W_b77_1 (a0 : List (Int)) (a0_o : Nat) (a0_n : Nat) (a1 : Int) (a2 : Int) (a3 : TyB × Int) (v5c : List SV) (v5n : Nat) (v6 v7 : Int) : LS := ⟨slN 53 [(0, (.s 0 (0 + a0_o * 1) a0_n 1)), (1, (iv a1)), (2, (iv a2)), (3, (.f 1000077 [(.a [(.p 1 0), (iv a3.2)])])), (8, (iv v6)), (9, (iv v7))], [(.live true true v5c), (.live false false [(.s 2 0 a3.1.1.length 10), (iv a3.1.2.1), (.s 0 0 v5n 1), (.s 3 0 a3.1.2.2.2.length 8)]), (.live false true (flat c81 a3.1.1)), (.live false true (flat c40 a3.1.2.2.2))]⟩

def S107_W_b77_1 (a0 : List (Int)) (a0_o : Nat) (a0_n : Nat) (a1 : Int) (a2 : Int) (a3 : TyB × Int) : List (Int) × Int × Int → (List (Int) × Int × Int) ⊕ ((List (Int) × Int) ⊕ (List (Int)))
 | (v5, v6, v7) =>
  (bif (decide ((v7 : Int) > a1)) then
   (bif (decide (((F77 ((a3.1.1, a3.1.2.1, (v5, a3.1.2.2.2)), a3.2) (v5.getD (a0_o + toNat v7) default) (v5.getD (a0_o + toNat (W (v7 - 1))) default)) : Int) < 0)) then
    (.inl (((v5.set (a0_o + toNat v7) (v5.getD (a0_o + toNat (W (v7 - 1))) default)).set (a0_o + toNat (W (v7 - 1))) (v5.getD (a0_o + toNat v7) default)), v6, (W (v7 - 1))))
   else
    (.inr (.inl (v5, (v6 + 1)))))
  else
   (.inr (.inl (v5, (v6 + 1)))))

noncomputable def B107_W_b77_0 : Code := (loopAtD [1] [] (bodyOf Try.f107) []).1
noncomputable def K107_W_b77_0 : List K := (loopAtD [1] [] (bodyOf Try.f107) []).2

def st107_W_b77_0 (a0 : List (Int)) (a0_o : Nat) (a0_n : Nat) (a1 : Int) (a2 : Int) (a3 : TyB × Int) (v3c : List SV) (v3n : Nat) (v4 : Int) : LS := ⟨slN 53 [(0, (.s 0 (0 + a0_o * 1) a0_n 1)), (1, (iv a1)), (2, (iv a2)), (3, (.f 1000077 [(.a [(.p 1 0), (iv a3.2)])])), (8, (iv v4))], [(.live true true v3c), (.live false false [(.s 2 0 a3.1.1.length 10), (iv a3.1.2.1), (.s 0 0 v3n 1), (.s 3 0 a3.1.2.2.2.length 8)]), (.live false true (flat c81 a3.1.1)), (.live false true (flat c40 a3.1.2.2.2))]⟩

def S107_W_b77_0 (a0 : List (Int)) (a0_o : Nat) (a0_n : Nat) (a1 : Int) (a2 : Int) (a3 : TyB × Int) : List (Int) × Int → (List (Int) × Int) ⊕ (List (Int))
 | (v3, v4) =>
  (bif (decide ((v4 : Int) < a2)) then
   (loopF (S107_W_b77_1 a0 a0_o a0_n a1 a2 a3) (toNat (v4 - a1) + 1) (v3, v4, v4))
  else
   (.inr v3))

theorem L107_W_b77_1 (a0 : List (Int)) (a0_o : Nat) (a0_n : Nat) (a1 : Int) (a2 : Int) (a3 : TyB × Int) (l0 : a0.length ≤ 9223372036854775807) (l3_1_1 : a3.1.1.length ≤ 9223372036854775807) (l3_1_2_2_1 : a3.1.2.2.1.length ≤ 9223372036854775807) (l3_1_2_2_2 : a3.1.2.2.2.length ≤ 9223372036854775807) (hw : a0_o + a0_n ≤ a0.length ∧ a0.length ≤ 1048576) (hr : InR a3.1.1.length a0) (hab : 0 ≤ a1 ∧ a1 ≤ a2 ∧ a2 ≤ ↑a0_n) {cx : Cx} (hcx : cx.base = 4)
   (n0 : Nat) (g0 : ∀ (v3 : List (Int)) (v4 : Int), (0 ≤ v4) ∧ (v3.length = a0.length) ∧ (InR a3.1.1.length v3) ∧ (a1 < v4) ∧ (v4 ≤ a2 + 1) → toNat (a2 - v4) < n0 → Aw.Good Try.prog none 9 (bodyPost Try.prog Try.f107 (RR cx (.t []) [] [(.live true true (flat c3 (loopF (S107_W_b77_0 a0 a0_o a0_n a1 a2 a3) n0 (v3, v4)))), .un, .un, .un])) cx [] (.l B107_W_b77_0 n0 :: K107_W_b77_0) (st107_W_b77_0 a0 a0_o a0_n a1 a2 a3 (flat c3 v3) v3.length v4)) : ∀ (n : Nat) (v5 : List (Int)) (v6 v7 : Int), (v5.length = a0.length) ∧ (InR a3.1.1.length v5) ∧ (a1 ≤ v7) ∧ (v7 ≤ v6) ∧ (a1 < v6) ∧ (v6 < a2) ∧ ((0 ≤ v6)) ∧ ((v5.length = a0.length)) ∧ ((InR a3.1.1.length v5)) ∧ ((a1 < v6)) ∧ ((v6 ≤ a2 + 1)) ∧ (v6 < a2) ∧ (toNat (a2 - v6) < n0 + 1) → toNat (v7 - a1) < n → Aw.Good Try.prog none 9 (bodyPost Try.prog Try.f107 (RR cx (.t []) [] [(.live true true (flat c3 (thenF (S107_W_b77_0 a0 a0_o a0_n a1 a2 a3) n0 (loopF (S107_W_b77_1 a0 a0_o a0_n a1 a2 a3) n (v5, v6, v7))))), .un, .un, .un])) cx [] (.l B107_W_b77_1 n :: K107_W_b77_1 n0) (st107_W_b77_1 a0 a0_o a0_n a1 a2 a3 (flat c3 v5) v5.length v6 v7) := by
 intro n
 induction n with
 | zero => intro v5 v6 v7 hi hn; exact absurd hn (nlz _)
 | succ n ih =>
   intro v5 v6 v7 hi hn
   refine good_round ?_
   have hw_s9m1 := W_eq (n := v7 - 1) (by omega) (by omega)
   cases h0 : (decide ((v7 : Int) > a1)) with
   | true =>
    have q0 := odt h0
    let t1 : List (St Try.prog) := [.d h0, .i v7 a0_n, stLw c3_len v5 a0_o v7 0 1, .i (W (v7 - 1)) a0_n, stLw c3_len v5 a0_o (W (v7 - 1)) 0 1, .c [1, 2, 0, 3] (C77 ((a3.1.1, a3.1.2.1, (v5, a3.1.2.2.2)), a3.2) (v5.getD (a0_o + toNat v7) default) (v5.getD (a0_o + toNat (W (v7 - 1))) default) (by (try simp only [Lt]); omega) (by (try simp only [Lt]); omega) (by (try simp only [Lt]); omega) (hi.2.1.at (by omega)) (hi.2.1.at (by omega)))]
    cases h1 : (decide (((F77 ((a3.1.1, a3.1.2.1, (v5, a3.1.2.2.2)), a3.2) (v5.getD (a0_o + toNat v7) default) (v5.getD (a0_o + toNat (W (v7 - 1))) default)) : Int) < 0)) with
    | true =>
     have q1 := odt h1
     have e := Eq.refl (S107_W_b77_1 a0 a0_o a0_n a1 a2 a3 (v5, v6, v7)); conv at e => rhs; simp only [S107_W_b77_1, h0, h1, cdb]
     rw [loopF_inl e]
     refine ba (t1 ++ [.d h1, .i (W (v7 - 1)) a0_n, stLw c3_len v5 a0_o (W (v7 - 1)) 0 1, .i v7 a0_n, stLw c3_len v5 a0_o v7 0 1, .i v7 a0_n, .p (show ((0 + a0_o * 1 + toNat v7 * 1) + 1 ≤ (flat c3 v5).length) from (flat_setwl c3_len (by first | omega | (simp only [Lt]; omega)) (o := 0) (Nb rfl))), .i (W (v7 - 1)) a0_n, .p (show ((0 + a0_o * 1 + toNat (W (v7 - 1)) * 1) + 1 ≤ (splice (flat c3 v5) (0 + a0_o * 1 + toNat v7 * 1) [(iv (v5.getD (a0_o + toNat (W (v7 - 1))) default))]).length) from (by rw [show (splice (flat c3 v5) (0 + a0_o * 1 + toNat v7 * 1) [(iv (v5.getD (a0_o + toNat (W (v7 - 1))) default))]) = flat c3 (v5.set (a0_o + toNat v7) (v5.getD (a0_o + toNat (W (v7 - 1))) default)) from (flat_setw c3_len (by first | omega | (simp only [Lt]; omega)) (o := 0) (d := default) (Nb rfl) rfl)]; exact flat_setwl c3_len (by first | omega | (simp only [Lt]; omega)) (o := 0) (Nb rfl)))]) [] [0, 1, 2, 3, 8, 9] [] hcx (m := n) B107_W_b77_1 (K107_W_b77_1 n0) (st107_W_b77_1 a0 a0_o a0_n a1 a2 a3 (splice (splice (flat c3 v5) (0 + a0_o * 1 + toNat v7 * 1) [(iv (v5.getD (a0_o + toNat (W (v7 - 1))) default))]) (0 + a0_o * 1 + toNat (W (v7 - 1)) * 1) [(iv (v5.getD (a0_o + toNat v7) default))]) (v5.length) v6 (W (v7 - 1))) (by kernel_rfl) ?_
     have z0 : (splice (splice (flat c3 v5) (0 + a0_o * 1 + toNat v7 * 1) [(iv (v5.getD (a0_o + toNat (W (v7 - 1))) default))]) (0 + a0_o * 1 + toNat (W (v7 - 1)) * 1) [(iv (v5.getD (a0_o + toNat v7) default))]) = flat c3 ((v5.set (a0_o + toNat v7) (v5.getD (a0_o + toNat (W (v7 - 1))) default)).set (a0_o + toNat (W (v7 - 1))) (v5.getD (a0_o + toNat v7) default)) := (by rw [show (splice (flat c3 v5) (0 + a0_o * 1 + toNat v7 * 1) [(iv (v5.getD (a0_o + toNat (W (v7 - 1))) default))]) = flat c3 (v5.set (a0_o + toNat v7) (v5.getD (a0_o + toNat (W (v7 - 1))) default)) from (flat_setw c3_len (by first | omega | (simp only [Lt]; omega)) (o := 0) (d := default) (Nb rfl) rfl)]; exact flat_setw c3_len (by first | omega | (simp only [Lt]; omega)) (o := 0) (d := default) (Nb rfl) rfl)
     have z1 : v5.length = ((v5.set (a0_o + toNat v7) (v5.getD (a0_o + toNat (W (v7 - 1))) default)).set (a0_o + toNat (W (v7 - 1))) (v5.getD (a0_o + toNat v7) default)).length := by simp
     rw [z0, z1]
     exact ih ((v5.set (a0_o + toNat v7) (v5.getD (a0_o + toNat (W (v7 - 1))) default)).set (a0_o + toNat (W (v7 - 1))) (v5.getD (a0_o + toNat v7) default)) v6 (W (v7 - 1)) (by refine ⟨?_, ?_, ?_, ?_, ?_, ?_, ?_, ?_, ?_, ?_, ?_, ?_, ?_⟩ <;> first | omega | assumption | exact hi.2.1 | exact hi.2.2.1 | (simp only [Lt]; omega) | exact InR.swap hi.2.1 (by omega) (by omega)) (by (try simp only [Ls]); omega)
    | false =>
     have q1 := odf h1
     have e := Eq.refl (S107_W_b77_1 a0 a0_o a0_n a1 a2 a3 (v5, v6, v7)); conv at e => rhs; simp only [S107_W_b77_1, h0, h1, cdb]
     rw [loopF_s, e]
     refine ba (t1 ++ [.d h1]) [] [0, 1, 2, 3, 8] [] hcx (m := n0) B107_W_b77_0 (K107_W_b77_0) (st107_W_b77_0 a0 a0_o a0_n a1 a2 a3 (flat c3 v5) (v5.length) (W (v6 + 1))) (by kernel_rfl) ?_
     have z0 : (W (v6 + 1)) = (v6 + 1) := W_eq (by omega) (by omega)
     rw [z0]
     exact g0 v5 (v6 + 1) (by refine ⟨?_, ?_, ?_, ?_⟩ <;> first | omega | assumption | exact hi.2.1 | exact hi.2.2.1 | (simp only [Lt]; omega) | exact InR.swap hi.2.1 (by omega) (by omega)) (by (try simp only [Ls]); omega)
   | false =>
    have q0 := odf h0
    have e := Eq.refl (S107_W_b77_1 a0 a0_o a0_n a1 a2 a3 (v5, v6, v7)); conv at e => rhs; simp only [S107_W_b77_1, h0, cdb]
    rw [loopF_s, e]
    refine ba [.d h0] [] [0, 1, 2, 3, 8] [] hcx (m := n0) B107_W_b77_0 (K107_W_b77_0) (st107_W_b77_0 a0 a0_o a0_n a1 a2 a3 (flat c3 v5) (v5.length) (W (v6 + 1))) (by kernel_rfl) ?_
    have z0 : (W (v6 + 1)) = (v6 + 1) := W_eq (by omega) (by omega)
    rw [z0]
    exact g0 v5 (v6 + 1) (by refine ⟨?_, ?_, ?_, ?_⟩ <;> first | omega | assumption | exact hi.2.1 | exact hi.2.2.1 | (simp only [Lt]; omega) | exact InR.swap hi.2.1 (by omega) (by omega)) (by (try simp only [Ls]); omega)

theorem L107_W_b77_0 (a0 : List (Int)) (a0_o : Nat) (a0_n : Nat) (a1 : Int) (a2 : Int) (a3 : TyB × Int) (l0 : a0.length ≤ 9223372036854775807) (l3_1_1 : a3.1.1.length ≤ 9223372036854775807) (l3_1_2_2_1 : a3.1.2.2.1.length ≤ 9223372036854775807) (l3_1_2_2_2 : a3.1.2.2.2.length ≤ 9223372036854775807) (hw : a0_o + a0_n ≤ a0.length ∧ a0.length ≤ 1048576) (hr : InR a3.1.1.length a0) (hab : 0 ≤ a1 ∧ a1 ≤ a2 ∧ a2 ≤ ↑a0_n) {cx : Cx} (hcx : cx.base = 4) : ∀ (n : Nat) (v3 : List (Int)) (v4 : Int), (0 ≤ v4) ∧ (v3.length = a0.length) ∧ (InR a3.1.1.length v3) ∧ (a1 < v4) ∧ (v4 ≤ a2 + 1) → toNat (a2 - v4) < n → Aw.Good Try.prog none 9 (bodyPost Try.prog Try.f107 (RR cx (.t []) [] [(.live true true (flat c3 (loopF (S107_W_b77_0 a0 a0_o a0_n a1 a2 a3) n (v3, v4)))), .un, .un, .un])) cx [] (.l B107_W_b77_0 n :: K107_W_b77_0) (st107_W_b77_0 a0 a0_o a0_n a1 a2 a3 (flat c3 v3) v3.length v4) := by
 intro n
 induction n with
 | zero => intro v3 v4 hi hn; exact absurd hn (nlz _)
 | succ n ih =>
   intro v3 v4 hi hn
   refine good_round ?_
   have hw_s8p1 := W_eq (n := v4 + 1) (by omega) (by omega)
   cases h0 : (decide ((v4 : Int) < a2)) with
   | true =>
    have q0 := odt h0
    have e := Eq.refl (S107_W_b77_0 a0 a0_o a0_n a1 a2 a3 (v3, v4)); conv at e => rhs; simp only [S107_W_b77_0, h0, cdb]
    rw [loopF_s, e]
    refine en [.d h0] [] [0, 1, 2, 3, 8, 9] [] hcx B107_W_b77_1 (K107_W_b77_1 n) (st107_W_b77_1 a0 a0_o a0_n a1 a2 a3 (flat c3 v3) (v3.length) v4 v4) (toNat (v4 - a1) + 1) (by kernel_rfl) ?_
    exact L107_W_b77_1 a0 a0_o a0_n a1 a2 a3 l0 l3_1_1 l3_1_2_2_1 l3_1_2_2_2 hw hr hab hcx n ih (toNat (v4 - a1) + 1) v3 v4 v4 (by refine ⟨?_, ?_, ?_, ?_, ?_, ?_, ?_, ?_, ?_, ?_, ?_, ?_, ?_⟩ <;> first | omega | assumption | exact hi.2.1 | exact hi.2.2.1 | (simp only [Lt]; omega) | exact InR.swap hi.2.1 (by omega) (by omega)) (by (try simp only [Ls]); omega)
   | false =>
    have q0 := odf h0
    have e := Eq.refl (S107_W_b77_0 a0 a0_o a0_n a1 a2 a3 (v3, v4)); conv at e => rhs; simp only [S107_W_b77_0, h0, cdb]
    rw [loopF_s, e]
    try dsimp only [thenF]
    try dsimp only
    exact rtn [.d h0] [] [0] [] hcx (by kernel_rfl)

def F107_W_b77 (a0 : List (Int)) (a0_o : Nat) (a0_n : Nat) (a1 : Int) (a2 : Int) (a3 : TyB × Int) : List (Int) :=
 (loopF (S107_W_b77_0 a0 a0_o a0_n a1 a2 a3) (toNat (a2 - (W (a1 + 1))) + 1) (a0, (W (a1 + 1))))

theorem C107_W_b77 (a0 : List (Int)) (a0_o : Nat) (a0_n : Nat) (a1 : Int) (a2 : Int) (a3 : TyB × Int) (l0 : a0.length ≤ 9223372036854775807) (l3_1_1 : a3.1.1.length ≤ 9223372036854775807) (l3_1_2_2_1 : a3.1.2.2.1.length ≤ 9223372036854775807) (l3_1_2_2_2 : a3.1.2.2.2.length ≤ 9223372036854775807) (hw : a0_o + a0_n ≤ a0.length ∧ a0.length ≤ 1048576) (hr : InR a3.1.1.length a0) (hab : 0 ≤ a1 ∧ a1 ≤ a2 ∧ a2 ≤ ↑a0_n) : Con Try.prog 107 [(.s 0 (0 + a0_o * 1) a0_n 1), (iv a1), (iv a2), (.f 1000077 [(.a [(.p 1 0), (iv a3.2)])])] [(.live true true (flat c3 a0)), (.live false false [(.s 2 0 a3.1.1.length 10), (iv a3.1.2.1), (.s 0 0 a0.length 1), (.s 3 0 a3.1.2.2.2.length 8)]), (.live false true (flat c81 a3.1.1)), (.live false true (flat c40 a3.1.2.2.2))] (.t []) [] [(.live true true (flat c3 (F107_W_b77 a0 a0_o a0_n a1 a2 a3))), .un, .un, .un] := by
 refine con_s Try.func107 (by kernel_rfl) fun cx hcx => ?_
 have hw_a := W_eq (n := a1 + 1) (by omega) (by omega)
 have e := Eq.refl (F107_W_b77 a0 a0_o a0_n a1 a2 a3); conv at e => rhs; simp only [F107_W_b77]
 rw [e]
 refine en [] [] [0, 1, 2, 3, 8] [] hcx B107_W_b77_0 (K107_W_b77_0) (st107_W_b77_0 a0 a0_o a0_n a1 a2 a3 (flat c3 a0) (a0.length) (W (a1 + 1))) (toNat (a2 - (W (a1 + 1))) + 1) (by kernel_rfl) ?_
 exact L107_W_b77_0 a0 a0_o a0_n a1 a2 a3 l0 l3_1_1 l3_1_2_2_1 l3_1_2_2_2 hw hr hab hcx (toNat (a2 - (W (a1 + 1))) + 1) a0 (W (a1 + 1)) (by refine ⟨?_, ?_, ?_, ?_⟩ <;> first | omega | assumption | exact hi.2.1 | exact hi.2.2.1 | (simp only [Lt]; omega) | exact InR.swap hi.2.1 (by omega) (by omega)) (by (try simp only [Ls]); omega)


noncomputable def B111_W_b77_0 : Code := (loopAtD [1, 1] [] (bodyOf Try.f111) []).1
noncomputable def K111_W_b77_0 : List K := (loopAtD [1, 1] [] (bodyOf Try.f111) []).2

def st111_W_b77_0 (a0 : List (Int)) (a0_o : Nat) (a0_n : Nat) (a1 : Int) (a2 : Int) (a3 : TyB × Int) (v1c : List SV) (v1n : Nat) (v2 v3 : Int) : LS := ⟨slN 34 [(0, (.s 0 (0 + a0_o * 1) a0_n 1)), (8, (iv v2)), (9, (iv v3))], [(.live true true v1c), (.live false false [(.s 2 0 a3.1.1.length 10), (iv a3.1.2.1), (.s 0 0 v1n 1), (.s 3 0 a3.1.2.2.2.length 8)]), (.live false true (flat c81 a3.1.1)), (.live false true (flat c40 a3.1.2.2.2))]⟩

def S111_W_b77_0 (a0 : List (Int)) (a0_o : Nat) (a0_n : Nat) (a1 : Int) (a2 : Int) (a3 : TyB × Int) : List (Int) × Int × Int → (List (Int) × Int × Int) ⊕ (List (Int))
 | (v1, v2, v3) =>
  (bif (decide ((v2 : Int) < v3)) then
   (.inl (((v1.set (a0_o + toNat v2) (v1.getD (a0_o + toNat v3) default)).set (a0_o + toNat v3) (v1.getD (a0_o + toNat v2) default)), (v2 + 1), (W (v3 - 1))))
  else
   (.inr v1))

theorem L111_W_b77_0 (a0 : List (Int)) (a0_o : Nat) (a0_n : Nat) (a1 : Int) (a2 : Int) (a3 : TyB × Int) (l0 : a0.length ≤ 9223372036854775807) (l3_1_1 : a3.1.1.length ≤ 9223372036854775807) (l3_1_2_2_1 : a3.1.2.2.1.length ≤ 9223372036854775807) (l3_1_2_2_2 : a3.1.2.2.2.length ≤ 9223372036854775807) (hw : a0_o + a0_n ≤ a0.length ∧ a0.length ≤ 1048576) (hr : InR a3.1.1.length a0) (hab : 0 ≤ a1 ∧ a1 ≤ a2 ∧ a2 ≤ ↑a0_n) {cx : Cx} (hcx : cx.base = 4) : ∀ (n : Nat) (v1 : List (Int)) (v2 v3 : Int), (v1.length = a0.length) ∧ (InR a3.1.1.length v1) ∧ (a1 ≤ v2) ∧ (-1 ≤ v3) ∧ (v3 < a2) ∧ (v2 ≤ a2) → toNat (v3 - v2) < n → Aw.Good Try.prog none 9 (bodyPost Try.prog Try.f111 (RR cx (.t []) [] [(.live true true (flat c3 (loopF (S111_W_b77_0 a0 a0_o a0_n a1 a2 a3) n (v1, v2, v3)))), .un, .un, .un])) cx [] (.l B111_W_b77_0 n :: K111_W_b77_0) (st111_W_b77_0 a0 a0_o a0_n a1 a2 a3 (flat c3 v1) v1.length v2 v3) := by
 intro n
 induction n with
 | zero => intro v1 v2 v3 hi hn; exact absurd hn (nlz _)
 | succ n ih =>
   intro v1 v2 v3 hi hn
   refine good_round ?_
   have hw_0 : W (v2 + 1) = v2 + 1 := (W_eq (n := v2 + 1) (by omega) (by omega)).trans (by omega)
   have hw_1 : W (v3 - 1) = v3 - 1 := (W_eq (n := v3 - 1) (by omega) (by omega)).trans (by omega)
   cases h0 : (decide ((v2 : Int) < v3)) with
   | true =>
    have q0 := odt h0
    have e := Eq.refl (S111_W_b77_0 a0 a0_o a0_n a1 a2 a3 (v1, v2, v3)); conv at e => rhs; simp only [S111_W_b77_0, h0, cdb]
    rw [loopF_inl e]
    refine ba [.d h0, .i v3 a0_n, stLw c3_len v1 a0_o v3 0 1, .i v2 a0_n, stLw c3_len v1 a0_o v2 0 1, .i v2 a0_n, .p (show ((0 + a0_o * 1 + toNat v2 * 1) + 1 ≤ (flat c3 v1).length) from (flat_setwl c3_len (by first | omega | (simp only [Lt]; omega)) (o := 0) (Nb rfl))), .i v3 a0_n, .p (show ((0 + a0_o * 1 + toNat v3 * 1) + 1 ≤ (splice (flat c3 v1) (0 + a0_o * 1 + toNat v2 * 1) [(iv (v1.getD (a0_o + toNat v3) default))]).length) from (by rw [show (splice (flat c3 v1) (0 + a0_o * 1 + toNat v2 * 1) [(iv (v1.getD (a0_o + toNat v3) default))]) = flat c3 (v1.set (a0_o + toNat v2) (v1.getD (a0_o + toNat v3) default)) from (flat_setw c3_len (by first | omega | (simp only [Lt]; omega)) (o := 0) (d := default) (Nb rfl) rfl)]; exact flat_setwl c3_len (by first | omega | (simp only [Lt]; omega)) (o := 0) (Nb rfl)))] [] [0, 8, 9] [] hcx (m := n) B111_W_b77_0 (K111_W_b77_0) (st111_W_b77_0 a0 a0_o a0_n a1 a2 a3 (splice (splice (flat c3 v1) (0 + a0_o * 1 + toNat v2 * 1) [(iv (v1.getD (a0_o + toNat v3) default))]) (0 + a0_o * 1 + toNat v3 * 1) [(iv (v1.getD (a0_o + toNat v2) default))]) (v1.length) (W (v2 + 1)) (W (v3 - 1))) (by kernel_rfl) ?_
    have z0 : (W (v2 + 1)) = (v2 + 1) := W_eq (by omega) (by omega)
    have z1 : (splice (splice (flat c3 v1) (0 + a0_o * 1 + toNat v2 * 1) [(iv (v1.getD (a0_o + toNat v3) default))]) (0 + a0_o * 1 + toNat v3 * 1) [(iv (v1.getD (a0_o + toNat v2) default))]) = flat c3 ((v1.set (a0_o + toNat v2) (v1.getD (a0_o + toNat v3) default)).set (a0_o + toNat v3) (v1.getD (a0_o + toNat v2) default)) := (by rw [show (splice (flat c3 v1) (0 + a0_o * 1 + toNat v2 * 1) [(iv (v1.getD (a0_o + toNat v3) default))]) = flat c3 (v1.set (a0_o + toNat v2) (v1.getD (a0_o + toNat v3) default)) from (flat_setw c3_len (by first | omega | (simp only [Lt]; omega)) (o := 0) (d := default) (Nb rfl) rfl)]; exact flat_setw c3_len (by first | omega | (simp only [Lt]; omega)) (o := 0) (d := default) (Nb rfl) rfl)
    have z2 : v1.length = ((v1.set (a0_o + toNat v2) (v1.getD (a0_o + toNat v3) default)).set (a0_o + toNat v3) (v1.getD (a0_o + toNat v2) default)).length := by simp
    rw [z0, z1, z2]
    exact ih ((v1.set (a0_o + toNat v2) (v1.getD (a0_o + toNat v3) default)).set (a0_o + toNat v3) (v1.getD (a0_o + toNat v2) default)) (v2 + 1) (W (v3 - 1)) (by refine ⟨?_, ?_, ?_, ?_, ?_, ?_⟩ <;> first | omega | assumption | exact hi.2.1 | exact hi.2.2.1 | (simp only [Lt]; omega) | exact InR.swap hi.2.1 (by omega) (by omega)) (by (try simp only [Ls]); omega)
   | false =>
    have q0 := odf h0
    have e := Eq.refl (S111_W_b77_0 a0 a0_o a0_n a1 a2 a3 (v1, v2, v3)); conv at e => rhs; simp only [S111_W_b77_0, h0, cdb]
    rw [loopF_s, e]
    try dsimp only [thenF]
    try dsimp only
    exact rtn [.d h0] [] [0] [] hcx (by kernel_rfl)

def F111_W_b77 (a0 : List (Int)) (a0_o : Nat) (a0_n : Nat) (a1 : Int) (a2 : Int) (a3 : TyB × Int) : List (Int) :=
 (loopF (S111_W_b77_0 a0 a0_o a0_n a1 a2 a3) (toNat ((W (a2 - 1)) - a1) + 1) (a0, a1, (W (a2 - 1))))

theorem C111_W_b77 (a0 : List (Int)) (a0_o : Nat) (a0_n : Nat) (a1 : Int) (a2 : Int) (a3 : TyB × Int) (l0 : a0.length ≤ 9223372036854775807) (l3_1_1 : a3.1.1.length ≤ 9223372036854775807) (l3_1_2_2_1 : a3.1.2.2.1.length ≤ 9223372036854775807) (l3_1_2_2_2 : a3.1.2.2.2.length ≤ 9223372036854775807) (hw : a0_o + a0_n ≤ a0.length ∧ a0.length ≤ 1048576) (hr : InR a3.1.1.length a0) (hab : 0 ≤ a1 ∧ a1 ≤ a2 ∧ a2 ≤ ↑a0_n) : Con Try.prog 111 [(.s 0 (0 + a0_o * 1) a0_n 1), (iv a1), (iv a2), (.f 1000077 [(.a [(.p 1 0), (iv a3.2)])])] [(.live true true (flat c3 a0)), (.live false false [(.s 2 0 a3.1.1.length 10), (iv a3.1.2.1), (.s 0 0 a0.length 1), (.s 3 0 a3.1.2.2.2.length 8)]), (.live false true (flat c81 a3.1.1)), (.live false true (flat c40 a3.1.2.2.2))] (.t []) [] [(.live true true (flat c3 (F111_W_b77 a0 a0_o a0_n a1 a2 a3))), .un, .un, .un] := by
 refine con_s Try.func111 (by kernel_rfl) fun cx hcx => ?_
 have hw_0 : W (a2 - 1) = a2 - 1 := (W_eq (n := a2 - 1) (by omega) (by omega)).trans (by omega)
 have e := Eq.refl (F111_W_b77 a0 a0_o a0_n a1 a2 a3); conv at e => rhs; simp only [F111_W_b77]
 rw [e]
 refine en [] [] [0, 8, 9] [] hcx B111_W_b77_0 (K111_W_b77_0) (st111_W_b77_0 a0 a0_o a0_n a1 a2 a3 (flat c3 a0) (a0.length) a1 (W (a2 - 1))) (toNat ((W (a2 - 1)) - a1) + 1) (by kernel_rfl) ?_
 exact L111_W_b77_0 a0 a0_o a0_n a1 a2 a3 l0 l3_1_1 l3_1_2_2_1 l3_1_2_2_2 hw hr hab hcx (toNat ((W (a2 - 1)) - a1) + 1) a0 a1 (W (a2 - 1)) (by refine ⟨?_, ?_, ?_, ?_, ?_, ?_⟩ <;> first | omega | assumption | exact hi.2.1 | exact hi.2.2.1 | (simp only [Lt]; omega) | exact InR.swap hi.2.1 (by omega) (by omega)) (by (try simp only [Ls]); omega)

noncomputable def B119_W_b77_0 : Code := (loopAtD [1] [] (bodyOf Try.f119) []).1
noncomputable def K119_W_b77_0 : List K := (loopAtD [1] [] (bodyOf Try.f119) []).2

def st119_W_b77_0 (a0 : List (Int)) (a0_o : Nat) (a0_n : Nat) (a1 : Int) (a2 : Int) (a3 : Int) (a4 : TyB × Int) (v1c : List SV) (v1n : Nat) (v2 : Int) : LS := ⟨slN 82 [(0, (.s 0 (0 + a0_o * 1) a0_n 1)), (2, (iv a2)), (3, (iv a3)), (4, (.f 1000077 [(.a [(.p 1 0), (iv a4.2)])])), (10, (iv v2))], [(.live true true v1c), (.live false false [(.s 2 0 a4.1.1.length 10), (iv a4.1.2.1), (.s 0 0 v1n 1), (.s 3 0 a4.1.2.2.2.length 8)]), (.live false true (flat c81 a4.1.1)), (.live false true (flat c40 a4.1.2.2.2))]⟩

def S119_W_b77_0 (a0 : List (Int)) (a0_o : Nat) (a0_n : Nat) (a1 : Int) (a2 : Int) (a3 : Int) (a4 : TyB × Int) : List (Int) × Int → (List (Int) × Int) ⊕ (List (Int))
 | (v1, v2) =>
  (bif (decide (((W ((W (2 * v2)) + 1)) : Int) ≥ a2)) then
   (.inr v1)
  else
   (bif (decide (((W ((W ((W (2 * v2)) + 1)) + 1)) : Int) < a2)) then
    (bif (decide (((F77 ((a4.1.1, a4.1.2.1, (v1, a4.1.2.2.2)), a4.2) (v1.getD (a0_o + toNat (W (a3 + (W ((W (2 * v2)) + 1))))) default) (v1.getD (a0_o + toNat (W ((W (a3 + (W ((W (2 * v2)) + 1)))) + 1))) default)) : Int) < 0)) then
     (bif (!(decide (((F77 ((a4.1.1, a4.1.2.1, (v1, a4.1.2.2.2)), a4.2) (v1.getD (a0_o + toNat (W (a3 + v2))) default) (v1.getD (a0_o + toNat (W (a3 + (W ((W ((W (2 * v2)) + 1)) + 1))))) default)) : Int) < 0))) then
      (.inr v1)
     else
      (.inl (((v1.set (a0_o + toNat (W (a3 + v2))) (v1.getD (a0_o + toNat (W (a3 + (W ((W ((W (2 * v2)) + 1)) + 1))))) default)).set (a0_o + toNat (W (a3 + (W ((W ((W (2 * v2)) + 1)) + 1))))) (v1.getD (a0_o + toNat (W (a3 + v2))) default)), (W ((W ((W (2 * v2)) + 1)) + 1)))))
    else
     (bif (!(decide (((F77 ((a4.1.1, a4.1.2.1, (v1, a4.1.2.2.2)), a4.2) (v1.getD (a0_o + toNat (W (a3 + v2))) default) (v1.getD (a0_o + toNat (W (a3 + (W ((W (2 * v2)) + 1))))) default)) : Int) < 0))) then
      (.inr v1)
     else
      (.inl (((v1.set (a0_o + toNat (W (a3 + v2))) (v1.getD (a0_o + toNat (W (a3 + (W ((W (2 * v2)) + 1))))) default)).set (a0_o + toNat (W (a3 + (W ((W (2 * v2)) + 1))))) (v1.getD (a0_o + toNat (W (a3 + v2))) default)), (W ((W (2 * v2)) + 1))))))
   else
    (bif (!(decide (((F77 ((a4.1.1, a4.1.2.1, (v1, a4.1.2.2.2)), a4.2) (v1.getD (a0_o + toNat (W (a3 + v2))) default) (v1.getD (a0_o + toNat (W (a3 + (W ((W (2 * v2)) + 1))))) default)) : Int) < 0))) then
     (.inr v1)
    else
     (.inl (((v1.set (a0_o + toNat (W (a3 + v2))) (v1.getD (a0_o + toNat (W (a3 + (W ((W (2 * v2)) + 1))))) default)).set (a0_o + toNat (W (a3 + (W ((W (2 * v2)) + 1))))) (v1.getD (a0_o + toNat (W (a3 + v2))) default)), (W ((W (2 * v2)) + 1)))))))

theorem L119_W_b77_0 (a0 : List (Int)) (a0_o : Nat) (a0_n : Nat) (a1 : Int) (a2 : Int) (a3 : Int) (a4 : TyB × Int) (l0 : a0.length ≤ 9223372036854775807) (l4_1_1 : a4.1.1.length ≤ 9223372036854775807) (l4_1_2_2_1 : a4.1.2.2.1.length ≤ 9223372036854775807) (l4_1_2_2_2 : a4.1.2.2.2.length ≤ 9223372036854775807) (hw : a0_o + a0_n ≤ a0.length ∧ a0.length ≤ 1048576) (hr : InR a4.1.1.length a0) (hab : 0 ≤ a1 ∧ a1 ≤ 1048576 ∧ 0 ≤ a3 ∧ 0 ≤ a2 ∧ a3 + a2 ≤ ↑a0_n) {cx : Cx} (hcx : cx.base = 4) : ∀ (n : Nat) (v1 : List (Int)) (v2 : Int), (v1.length = a0.length) ∧ (InR a4.1.1.length v1) ∧ (0 ≤ v2) ∧ (v2 ≤ 1048576) → toNat (a2 - v2) < n → Aw.Good Try.prog none 9 (bodyPost Try.prog Try.f119 (RR cx (.t []) [] [(.live true true (flat c3 (loopF (S119_W_b77_0 a0 a0_o a0_n a1 a2 a3 a4) n (v1, v2)))), .un, .un, .un])) cx [] (.l B119_W_b77_0 n :: K119_W_b77_0) (st119_W_b77_0 a0 a0_o a0_n a1 a2 a3 a4 (flat c3 v1) v1.length v2) := by
 intro n
 induction n with
 | zero => intro v1 v2 hi hn; exact absurd hn (nlz _)
 | succ n ih =>
   intro v1 v2 hi hn
   refine good_round ?_
   have hw_0 : W (2 * v2) = 2 * v2 := (W_eq (n := 2 * v2) (by omega) (by omega)).trans (by omega)
   have hw_1 : W ((W (2 * v2)) + 1) = 2 * v2 + 1 := (W_eq (n := (W (2 * v2)) + 1) (by omega) (by omega)).trans (by omega)
   have hw_2 : W ((W ((W (2 * v2)) + 1)) + 1) = 2 * v2 + 2 := (W_eq (n := (W ((W (2 * v2)) + 1)) + 1) (by omega) (by omega)).trans (by omega)
   have hw_3 : W (a3 + (W ((W (2 * v2)) + 1))) = a3 + 2 * v2 + 1 := (W_eq (n := a3 + (W ((W (2 * v2)) + 1))) (by omega) (by omega)).trans (by omega)
   have hw_4 : W ((W (a3 + (W ((W (2 * v2)) + 1)))) + 1) = a3 + 2 * v2 + 2 := (W_eq (n := (W (a3 + (W ((W (2 * v2)) + 1)))) + 1) (by omega) (by omega)).trans (by omega)
   have hw_5 : W (a3 + v2) = a3 + v2 := (W_eq (n := a3 + v2) (by omega) (by omega)).trans (by omega)
   have hw_6 : W (a3 + (W ((W ((W (2 * v2)) + 1)) + 1))) = a3 + 2 * v2 + 2 := (W_eq (n := a3 + (W ((W ((W (2 * v2)) + 1)) + 1))) (by omega) (by omega)).trans (by omega)
   cases h0 : (decide (((W ((W (2 * v2)) + 1)) : Int) ≥ a2)) with
   | true =>
    have q0 := odt h0
    have e := Eq.refl (S119_W_b77_0 a0 a0_o a0_n a1 a2 a3 a4 (v1, v2)); conv at e => rhs; simp only [S119_W_b77_0, h0, cdb]
    rw [loopF_s, e]
    try dsimp only [thenF]
    try dsimp only
    exact rtn [.d h0] [] [0] [] hcx (by kernel_rfl)
   | false =>
    have q0 := odf h0
    let t1 : List (St Try.prog) := [.d h0]
    cases h1 : (decide (((W ((W ((W (2 * v2)) + 1)) + 1)) : Int) < a2)) with
    | true =>
     have q1 := odt h1
     let t2 : List (St Try.prog) := (t1 ++ [.d h1, .i (W (a3 + (W ((W (2 * v2)) + 1)))) a0_n, stLw c3_len v1 a0_o (W (a3 + (W ((W (2 * v2)) + 1)))) 0 1, .i (W ((W (a3 + (W ((W (2 * v2)) + 1)))) + 1)) a0_n, stLw c3_len v1 a0_o (W ((W (a3 + (W ((W (2 * v2)) + 1)))) + 1)) 0 1, .c [1, 2, 0, 3] (C77 ((a4.1.1, a4.1.2.1, (v1, a4.1.2.2.2)), a4.2) (v1.getD (a0_o + toNat (W (a3 + (W ((W (2 * v2)) + 1))))) default) (v1.getD (a0_o + toNat (W ((W (a3 + (W ((W (2 * v2)) + 1)))) + 1))) default) (by (try simp only [Lt]); omega) (by (try simp only [Lt]); omega) (by (try simp only [Lt]); omega) (hi.2.1.at (by omega)) (hi.2.1.at (by omega)))])
     cases h2 : (decide (((F77 ((a4.1.1, a4.1.2.1, (v1, a4.1.2.2.2)), a4.2) (v1.getD (a0_o + toNat (W (a3 + (W ((W (2 * v2)) + 1))))) default) (v1.getD (a0_o + toNat (W ((W (a3 + (W ((W (2 * v2)) + 1)))) + 1))) default)) : Int) < 0)) with
     | true =>
      have q2 := odt h2
      let t3 : List (St Try.prog) := (t2 ++ [.d h2, .i (W (a3 + v2)) a0_n, stLw c3_len v1 a0_o (W (a3 + v2)) 0 1, .i (W (a3 + (W ((W ((W (2 * v2)) + 1)) + 1)))) a0_n, stLw c3_len v1 a0_o (W (a3 + (W ((W ((W (2 * v2)) + 1)) + 1)))) 0 1, .c [1, 2, 0, 3] (C77 ((a4.1.1, a4.1.2.1, (v1, a4.1.2.2.2)), a4.2) (v1.getD (a0_o + toNat (W (a3 + v2))) default) (v1.getD (a0_o + toNat (W (a3 + (W ((W ((W (2 * v2)) + 1)) + 1))))) default) (by (try simp only [Lt]); omega) (by (try simp only [Lt]); omega) (by (try simp only [Lt]); omega) (hi.2.1.at (by omega)) (hi.2.1.at (by omega)))])
      cases h3 : (!(decide (((F77 ((a4.1.1, a4.1.2.1, (v1, a4.1.2.2.2)), a4.2) (v1.getD (a0_o + toNat (W (a3 + v2))) default) (v1.getD (a0_o + toNat (W (a3 + (W ((W ((W (2 * v2)) + 1)) + 1))))) default)) : Int) < 0))) with
      | true =>
       have e := Eq.refl (S119_W_b77_0 a0 a0_o a0_n a1 a2 a3 a4 (v1, v2)); conv at e => rhs; simp only [S119_W_b77_0, h0, h1, h2, h3, cdb]
       rw [loopF_s, e]
       try dsimp only [thenF]
       try dsimp only
       exact rtm (t3 ++ [.d h3]) [] [0] [] hcx (by kernel_rfl)
      | false =>
       have e := Eq.refl (S119_W_b77_0 a0 a0_o a0_n a1 a2 a3 a4 (v1, v2)); conv at e => rhs; simp only [S119_W_b77_0, h0, h1, h2, h3, cdb]
       rw [loopF_inl e]
       refine ba (t3 ++ [.d h3, .i (W (a3 + (W ((W ((W (2 * v2)) + 1)) + 1)))) a0_n, stLw c3_len v1 a0_o (W (a3 + (W ((W ((W (2 * v2)) + 1)) + 1)))) 0 1, .i (W (a3 + v2)) a0_n, stLw c3_len v1 a0_o (W (a3 + v2)) 0 1, .i (W (a3 + v2)) a0_n, .p (show ((0 + a0_o * 1 + toNat (W (a3 + v2)) * 1) + 1 ≤ (flat c3 v1).length) from (flat_setwl c3_len (by first | omega | (simp only [Lt]; omega)) (o := 0) (Nb rfl))), .i (W (a3 + (W ((W ((W (2 * v2)) + 1)) + 1)))) a0_n, .p (show ((0 + a0_o * 1 + toNat (W (a3 + (W ((W ((W (2 * v2)) + 1)) + 1)))) * 1) + 1 ≤ (splice (flat c3 v1) (0 + a0_o * 1 + toNat (W (a3 + v2)) * 1) [(iv (v1.getD (a0_o + toNat (W (a3 + (W ((W ((W (2 * v2)) + 1)) + 1))))) default))]).length) from (by rw [show (splice (flat c3 v1) (0 + a0_o * 1 + toNat (W (a3 + v2)) * 1) [(iv (v1.getD (a0_o + toNat (W (a3 + (W ((W ((W (2 * v2)) + 1)) + 1))))) default))]) = flat c3 (v1.set (a0_o + toNat (W (a3 + v2))) (v1.getD (a0_o + toNat (W (a3 + (W ((W ((W (2 * v2)) + 1)) + 1))))) default)) from (flat_setw c3_len (by first | omega | (simp only [Lt]; omega)) (o := 0) (d := default) (Nb rfl) rfl)]; exact flat_setwl c3_len (by first | omega | (simp only [Lt]; omega)) (o := 0) (Nb rfl)))]) [] [0, 2, 3, 4, 10] [] hcx (m := n) B119_W_b77_0 (K119_W_b77_0) (st119_W_b77_0 a0 a0_o a0_n a1 a2 a3 a4 (splice (splice (flat c3 v1) (0 + a0_o * 1 + toNat (W (a3 + v2)) * 1) [(iv (v1.getD (a0_o + toNat (W (a3 + (W ((W ((W (2 * v2)) + 1)) + 1))))) default))]) (0 + a0_o * 1 + toNat (W (a3 + (W ((W ((W (2 * v2)) + 1)) + 1)))) * 1) [(iv (v1.getD (a0_o + toNat (W (a3 + v2))) default))]) (v1.length) (W ((W ((W (2 * v2)) + 1)) + 1))) (by kernel_rfl) ?_
       have z0 : (splice (splice (flat c3 v1) (0 + a0_o * 1 + toNat (W (a3 + v2)) * 1) [(iv (v1.getD (a0_o + toNat (W (a3 + (W ((W ((W (2 * v2)) + 1)) + 1))))) default))]) (0 + a0_o * 1 + toNat (W (a3 + (W ((W ((W (2 * v2)) + 1)) + 1)))) * 1) [(iv (v1.getD (a0_o + toNat (W (a3 + v2))) default))]) = flat c3 ((v1.set (a0_o + toNat (W (a3 + v2))) (v1.getD (a0_o + toNat (W (a3 + (W ((W ((W (2 * v2)) + 1)) + 1))))) default)).set (a0_o + toNat (W (a3 + (W ((W ((W (2 * v2)) + 1)) + 1))))) (v1.getD (a0_o + toNat (W (a3 + v2))) default)) := (by rw [show (splice (flat c3 v1) (0 + a0_o * 1 + toNat (W (a3 + v2)) * 1) [(iv (v1.getD (a0_o + toNat (W (a3 + (W ((W ((W (2 * v2)) + 1)) + 1))))) default))]) = flat c3 (v1.set (a0_o + toNat (W (a3 + v2))) (v1.getD (a0_o + toNat (W (a3 + (W ((W ((W (2 * v2)) + 1)) + 1))))) default)) from (flat_setw c3_len (by first | omega | (simp only [Lt]; omega)) (o := 0) (d := default) (Nb rfl) rfl)]; exact flat_setw c3_len (by first | omega | (simp only [Lt]; omega)) (o := 0) (d := default) (Nb rfl) rfl)
       have z1 : v1.length = ((v1.set (a0_o + toNat (W (a3 + v2))) (v1.getD (a0_o + toNat (W (a3 + (W ((W ((W (2 * v2)) + 1)) + 1))))) default)).set (a0_o + toNat (W (a3 + (W ((W ((W (2 * v2)) + 1)) + 1))))) (v1.getD (a0_o + toNat (W (a3 + v2))) default)).length := by simp
       rw [z0, z1]
       exact ih ((v1.set (a0_o + toNat (W (a3 + v2))) (v1.getD (a0_o + toNat (W (a3 + (W ((W ((W (2 * v2)) + 1)) + 1))))) default)).set (a0_o + toNat (W (a3 + (W ((W ((W (2 * v2)) + 1)) + 1))))) (v1.getD (a0_o + toNat (W (a3 + v2))) default)) (W ((W ((W (2 * v2)) + 1)) + 1)) (by refine ⟨?_, ?_, ?_, ?_⟩ <;> first | omega | assumption | exact hi.2.1 | exact hi.2.2.1 | (simp only [Lt]; omega) | exact InR.swap hi.2.1 (by omega) (by omega)) (by (try simp only [Ls]); omega)
     | false =>
      have q2 := odf h2
      let t3 : List (St Try.prog) := (t2 ++ [.d h2, .i (W (a3 + v2)) a0_n, stLw c3_len v1 a0_o (W (a3 + v2)) 0 1, .i (W (a3 + (W ((W (2 * v2)) + 1)))) a0_n, stLw c3_len v1 a0_o (W (a3 + (W ((W (2 * v2)) + 1)))) 0 1, .c [1, 2, 0, 3] (C77 ((a4.1.1, a4.1.2.1, (v1, a4.1.2.2.2)), a4.2) (v1.getD (a0_o + toNat (W (a3 + v2))) default) (v1.getD (a0_o + toNat (W (a3 + (W ((W (2 * v2)) + 1))))) default) (by (try simp only [Lt]); omega) (by (try simp only [Lt]); omega) (by (try simp only [Lt]); omega) (hi.2.1.at (by omega)) (hi.2.1.at (by omega)))])
      cases h3 : (!(decide (((F77 ((a4.1.1, a4.1.2.1, (v1, a4.1.2.2.2)), a4.2) (v1.getD (a0_o + toNat (W (a3 + v2))) default) (v1.getD (a0_o + toNat (W (a3 + (W ((W (2 * v2)) + 1))))) default)) : Int) < 0))) with
      | true =>
       have e := Eq.refl (S119_W_b77_0 a0 a0_o a0_n a1 a2 a3 a4 (v1, v2)); conv at e => rhs; simp only [S119_W_b77_0, h0, h1, h2, h3, cdb]
       rw [loopF_s, e]
       try dsimp only [thenF]
       try dsimp only
       exact rtm (t3 ++ [.d h3]) [] [0] [] hcx (by kernel_rfl)
      | false =>
       have e := Eq.refl (S119_W_b77_0 a0 a0_o a0_n a1 a2 a3 a4 (v1, v2)); conv at e => rhs; simp only [S119_W_b77_0, h0, h1, h2, h3, cdb]
       rw [loopF_inl e]
       refine ba (t3 ++ [.d h3, .i (W (a3 + (W ((W (2 * v2)) + 1)))) a0_n, stLw c3_len v1 a0_o (W (a3 + (W ((W (2 * v2)) + 1)))) 0 1, .i (W (a3 + v2)) a0_n, stLw c3_len v1 a0_o (W (a3 + v2)) 0 1, .i (W (a3 + v2)) a0_n, .p (show ((0 + a0_o * 1 + toNat (W (a3 + v2)) * 1) + 1 ≤ (flat c3 v1).length) from (flat_setwl c3_len (by first | omega | (simp only [Lt]; omega)) (o := 0) (Nb rfl))), .i (W (a3 + (W ((W (2 * v2)) + 1)))) a0_n, .p (show ((0 + a0_o * 1 + toNat (W (a3 + (W ((W (2 * v2)) + 1)))) * 1) + 1 ≤ (splice (flat c3 v1) (0 + a0_o * 1 + toNat (W (a3 + v2)) * 1) [(iv (v1.getD (a0_o + toNat (W (a3 + (W ((W (2 * v2)) + 1))))) default))]).length) from (by rw [show (splice (flat c3 v1) (0 + a0_o * 1 + toNat (W (a3 + v2)) * 1) [(iv (v1.getD (a0_o + toNat (W (a3 + (W ((W (2 * v2)) + 1))))) default))]) = flat c3 (v1.set (a0_o + toNat (W (a3 + v2))) (v1.getD (a0_o + toNat (W (a3 + (W ((W (2 * v2)) + 1))))) default)) from (flat_setw c3_len (by first | omega | (simp only [Lt]; omega)) (o := 0) (d := default) (Nb rfl) rfl)]; exact flat_setwl c3_len (by first | omega | (simp only [Lt]; omega)) (o := 0) (Nb rfl)))]) [] [0, 2, 3, 4, 10] [] hcx (m := n) B119_W_b77_0 (K119_W_b77_0) (st119_W_b77_0 a0 a0_o a0_n a1 a2 a3 a4 (splice (splice (flat c3 v1) (0 + a0_o * 1 + toNat (W (a3 + v2)) * 1) [(iv (v1.getD (a0_o + toNat (W (a3 + (W ((W (2 * v2)) + 1))))) default))]) (0 + a0_o * 1 + toNat (W (a3 + (W ((W (2 * v2)) + 1)))) * 1) [(iv (v1.getD (a0_o + toNat (W (a3 + v2))) default))]) (v1.length) (W ((W (2 * v2)) + 1))) (by kernel_rfl) ?_
       have z0 : (splice (splice (flat c3 v1) (0 + a0_o * 1 + toNat (W (a3 + v2)) * 1) [(iv (v1.getD (a0_o + toNat (W (a3 + (W ((W (2 * v2)) + 1))))) default))]) (0 + a0_o * 1 + toNat (W (a3 + (W ((W (2 * v2)) + 1)))) * 1) [(iv (v1.getD (a0_o + toNat (W (a3 + v2))) default))]) = flat c3 ((v1.set (a0_o + toNat (W (a3 + v2))) (v1.getD (a0_o + toNat (W (a3 + (W ((W (2 * v2)) + 1))))) default)).set (a0_o + toNat (W (a3 + (W ((W (2 * v2)) + 1))))) (v1.getD (a0_o + toNat (W (a3 + v2))) default)) := (by rw [show (splice (flat c3 v1) (0 + a0_o * 1 + toNat (W (a3 + v2)) * 1) [(iv (v1.getD (a0_o + toNat (W (a3 + (W ((W (2 * v2)) + 1))))) default))]) = flat c3 (v1.set (a0_o + toNat (W (a3 + v2))) (v1.getD (a0_o + toNat (W (a3 + (W ((W (2 * v2)) + 1))))) default)) from (flat_setw c3_len (by first | omega | (simp only [Lt]; omega)) (o := 0) (d := default) (Nb rfl) rfl)]; exact flat_setw c3_len (by first | omega | (simp only [Lt]; omega)) (o := 0) (d := default) (Nb rfl) rfl)
       have z1 : v1.length = ((v1.set (a0_o + toNat (W (a3 + v2))) (v1.getD (a0_o + toNat (W (a3 + (W ((W (2 * v2)) + 1))))) default)).set (a0_o + toNat (W (a3 + (W ((W (2 * v2)) + 1))))) (v1.getD (a0_o + toNat (W (a3 + v2))) default)).length := by simp
       rw [z0, z1]
       exact ih ((v1.set (a0_o + toNat (W (a3 + v2))) (v1.getD (a0_o + toNat (W (a3 + (W ((W (2 * v2)) + 1))))) default)).set (a0_o + toNat (W (a3 + (W ((W (2 * v2)) + 1))))) (v1.getD (a0_o + toNat (W (a3 + v2))) default)) (W ((W (2 * v2)) + 1)) (by refine ⟨?_, ?_, ?_, ?_⟩ <;> first | omega | assumption | exact hi.2.1 | exact hi.2.2.1 | (simp only [Lt]; omega) | exact InR.swap hi.2.1 (by omega) (by omega)) (by (try simp only [Ls]); omega)
    | false =>
     have q1 := odf h1
     let t2 : List (St Try.prog) := (t1 ++ [.d h1, .i (W (a3 + v2)) a0_n, stLw c3_len v1 a0_o (W (a3 + v2)) 0 1, .i (W (a3 + (W ((W (2 * v2)) + 1)))) a0_n, stLw c3_len v1 a0_o (W (a3 + (W ((W (2 * v2)) + 1)))) 0 1, .c [1, 2, 0, 3] (C77 ((a4.1.1, a4.1.2.1, (v1, a4.1.2.2.2)), a4.2) (v1.getD (a0_o + toNat (W (a3 + v2))) default) (v1.getD (a0_o + toNat (W (a3 + (W ((W (2 * v2)) + 1))))) default) (by (try simp only [Lt]); omega) (by (try simp only [Lt]); omega) (by (try simp only [Lt]); omega) (hi.2.1.at (by omega)) (hi.2.1.at (by omega)))])
     cases h2 : (!(decide (((F77 ((a4.1.1, a4.1.2.1, (v1, a4.1.2.2.2)), a4.2) (v1.getD (a0_o + toNat (W (a3 + v2))) default) (v1.getD (a0_o + toNat (W (a3 + (W ((W (2 * v2)) + 1))))) default)) : Int) < 0))) with
     | true =>
      have e := Eq.refl (S119_W_b77_0 a0 a0_o a0_n a1 a2 a3 a4 (v1, v2)); conv at e => rhs; simp only [S119_W_b77_0, h0, h1, h2, cdb]
      rw [loopF_s, e]
      try dsimp only [thenF]
      try dsimp only
      exact rtm (t2 ++ [.d h2]) [] [0] [] hcx (by kernel_rfl)
     | false =>
      have e := Eq.refl (S119_W_b77_0 a0 a0_o a0_n a1 a2 a3 a4 (v1, v2)); conv at e => rhs; simp only [S119_W_b77_0, h0, h1, h2, cdb]
      rw [loopF_inl e]
      refine ba (t2 ++ [.d h2, .i (W (a3 + (W ((W (2 * v2)) + 1)))) a0_n, stLw c3_len v1 a0_o (W (a3 + (W ((W (2 * v2)) + 1)))) 0 1, .i (W (a3 + v2)) a0_n, stLw c3_len v1 a0_o (W (a3 + v2)) 0 1, .i (W (a3 + v2)) a0_n, .p (show ((0 + a0_o * 1 + toNat (W (a3 + v2)) * 1) + 1 ≤ (flat c3 v1).length) from (flat_setwl c3_len (by first | omega | (simp only [Lt]; omega)) (o := 0) (Nb rfl))), .i (W (a3 + (W ((W (2 * v2)) + 1)))) a0_n, .p (show ((0 + a0_o * 1 + toNat (W (a3 + (W ((W (2 * v2)) + 1)))) * 1) + 1 ≤ (splice (flat c3 v1) (0 + a0_o * 1 + toNat (W (a3 + v2)) * 1) [(iv (v1.getD (a0_o + toNat (W (a3 + (W ((W (2 * v2)) + 1))))) default))]).length) from (by rw [show (splice (flat c3 v1) (0 + a0_o * 1 + toNat (W (a3 + v2)) * 1) [(iv (v1.getD (a0_o + toNat (W (a3 + (W ((W (2 * v2)) + 1))))) default))]) = flat c3 (v1.set (a0_o + toNat (W (a3 + v2))) (v1.getD (a0_o + toNat (W (a3 + (W ((W (2 * v2)) + 1))))) default)) from (flat_setw c3_len (by first | omega | (simp only [Lt]; omega)) (o := 0) (d := default) (Nb rfl) rfl)]; exact flat_setwl c3_len (by first | omega | (simp only [Lt]; omega)) (o := 0) (Nb rfl)))]) [] [0, 2, 3, 4, 10] [] hcx (m := n) B119_W_b77_0 (K119_W_b77_0) (st119_W_b77_0 a0 a0_o a0_n a1 a2 a3 a4 (splice (splice (flat c3 v1) (0 + a0_o * 1 + toNat (W (a3 + v2)) * 1) [(iv (v1.getD (a0_o + toNat (W (a3 + (W ((W (2 * v2)) + 1))))) default))]) (0 + a0_o * 1 + toNat (W (a3 + (W ((W (2 * v2)) + 1)))) * 1) [(iv (v1.getD (a0_o + toNat (W (a3 + v2))) default))]) (v1.length) (W ((W (2 * v2)) + 1))) (by kernel_rfl) ?_
      have z0 : (splice (splice (flat c3 v1) (0 + a0_o * 1 + toNat (W (a3 + v2)) * 1) [(iv (v1.getD (a0_o + toNat (W (a3 + (W ((W (2 * v2)) + 1))))) default))]) (0 + a0_o * 1 + toNat (W (a3 + (W ((W (2 * v2)) + 1)))) * 1) [(iv (v1.getD (a0_o + toNat (W (a3 + v2))) default))]) = flat c3 ((v1.set (a0_o + toNat (W (a3 + v2))) (v1.getD (a0_o + toNat (W (a3 + (W ((W (2 * v2)) + 1))))) default)).set (a0_o + toNat (W (a3 + (W ((W (2 * v2)) + 1))))) (v1.getD (a0_o + toNat (W (a3 + v2))) default)) := (by rw [show (splice (flat c3 v1) (0 + a0_o * 1 + toNat (W (a3 + v2)) * 1) [(iv (v1.getD (a0_o + toNat (W (a3 + (W ((W (2 * v2)) + 1))))) default))]) = flat c3 (v1.set (a0_o + toNat (W (a3 + v2))) (v1.getD (a0_o + toNat (W (a3 + (W ((W (2 * v2)) + 1))))) default)) from (flat_setw c3_len (by first | omega | (simp only [Lt]; omega)) (o := 0) (d := default) (Nb rfl) rfl)]; exact flat_setw c3_len (by first | omega | (simp only [Lt]; omega)) (o := 0) (d := default) (Nb rfl) rfl)
      have z1 : v1.length = ((v1.set (a0_o + toNat (W (a3 + v2))) (v1.getD (a0_o + toNat (W (a3 + (W ((W (2 * v2)) + 1))))) default)).set (a0_o + toNat (W (a3 + (W ((W (2 * v2)) + 1))))) (v1.getD (a0_o + toNat (W (a3 + v2))) default)).length := by simp
      rw [z0, z1]
      exact ih ((v1.set (a0_o + toNat (W (a3 + v2))) (v1.getD (a0_o + toNat (W (a3 + (W ((W (2 * v2)) + 1))))) default)).set (a0_o + toNat (W (a3 + (W ((W (2 * v2)) + 1))))) (v1.getD (a0_o + toNat (W (a3 + v2))) default)) (W ((W (2 * v2)) + 1)) (by refine ⟨?_, ?_, ?_, ?_⟩ <;> first | omega | assumption | exact hi.2.1 | exact hi.2.2.1 | (simp only [Lt]; omega) | exact InR.swap hi.2.1 (by omega) (by omega)) (by (try simp only [Ls]); omega)

def F119_W_b77 (a0 : List (Int)) (a0_o : Nat) (a0_n : Nat) (a1 : Int) (a2 : Int) (a3 : Int) (a4 : TyB × Int) : List (Int) :=
 (loopF (S119_W_b77_0 a0 a0_o a0_n a1 a2 a3 a4) (toNat (a2 - a1) + 1) (a0, a1))

theorem C119_W_b77 (a0 : List (Int)) (a0_o : Nat) (a0_n : Nat) (a1 : Int) (a2 : Int) (a3 : Int) (a4 : TyB × Int) (l0 : a0.length ≤ 9223372036854775807) (l4_1_1 : a4.1.1.length ≤ 9223372036854775807) (l4_1_2_2_1 : a4.1.2.2.1.length ≤ 9223372036854775807) (l4_1_2_2_2 : a4.1.2.2.2.length ≤ 9223372036854775807) (hw : a0_o + a0_n ≤ a0.length ∧ a0.length ≤ 1048576) (hr : InR a4.1.1.length a0) (hab : 0 ≤ a1 ∧ a1 ≤ 1048576 ∧ 0 ≤ a3 ∧ 0 ≤ a2 ∧ a3 + a2 ≤ ↑a0_n) : Con Try.prog 119 [(.s 0 (0 + a0_o * 1) a0_n 1), (iv a1), (iv a2), (iv a3), (.f 1000077 [(.a [(.p 1 0), (iv a4.2)])])] [(.live true true (flat c3 a0)), (.live false false [(.s 2 0 a4.1.1.length 10), (iv a4.1.2.1), (.s 0 0 a0.length 1), (.s 3 0 a4.1.2.2.2.length 8)]), (.live false true (flat c81 a4.1.1)), (.live false true (flat c40 a4.1.2.2.2))] (.t []) [] [(.live true true (flat c3 (F119_W_b77 a0 a0_o a0_n a1 a2 a3 a4))), .un, .un, .un] := by
 refine con_s Try.func119 (by kernel_rfl) fun cx hcx => ?_
 have e := Eq.refl (F119_W_b77 a0 a0_o a0_n a1 a2 a3 a4); conv at e => rhs; simp only [F119_W_b77]
 rw [e]
 refine en [] [] [0, 2, 3, 4, 10] [] hcx B119_W_b77_0 (K119_W_b77_0) (st119_W_b77_0 a0 a0_o a0_n a1 a2 a3 a4 (flat c3 a0) (a0.length) a1) (toNat (a2 - a1) + 1) (by kernel_rfl) ?_
 exact L119_W_b77_0 a0 a0_o a0_n a1 a2 a3 a4 l0 l4_1_1 l4_1_2_2_1 l4_1_2_2_2 hw hr hab hcx (toNat (a2 - a1) + 1) a0 a1 (by refine ⟨?_, ?_, ?_, ?_⟩ <;> first | omega | assumption | exact hi.2.1 | exact hi.2.2.1 | (simp only [Lt]; omega) | exact InR.swap hi.2.1 (by omega) (by omega)) (by (try simp only [Ls]); omega)


noncomputable def B114_W_b77_4 : Code := (loopAtD [1, 1, 1, 1, 1, 1, 1, 1, 1, 0, 0, 1, 0] [0] (bodyOf Try.f114) []).1
noncomputable def K114_W_b77_4 (m0 : Nat) : List K := (loopAtD [1, 1, 1, 1, 1, 1, 1, 1, 1, 0, 0, 1, 0] [m0] (bodyOf Try.f114) []).2

def st114_W_b77_4 (a0 : List (Int)) (a0_o : Nat) (a0_n : Nat) (a1 : Int) (a2 : Int) (a3 : Int) (a4 : TyB × Int) (v13c : List SV) (v13n : Nat) (v14 v15 : Int) : LS := ⟨slN 178 [(0, (.s 0 (0 + a0_o * 1) a0_n 1)), (1, (iv a1)), (4, (.f 1000077 [(.a [(.p 1 0), (iv a4.2)])])), (12, (iv v14)), (13, (iv v15))], [(.live true true v13c), (.live false false [(.s 2 0 a4.1.1.length 10), (iv a4.1.2.1), (.s 0 0 v13n 1), (.s 3 0 a4.1.2.2.2.length 8)]), (.live false true (flat c81 a4.1.1)), (.live false true (flat c40 a4.1.2.2.2))]⟩

def S114_W_b77_4 (a0 : List (Int)) (a0_o : Nat) (a0_n : Nat) (a1 : Int) (a2 : Int) (a3 : Int) (a4 : TyB × Int) : List (Int) × Int × Int → (List (Int) × Int × Int) ⊕ ((List (Int) × Int × Int) ⊕ (Int × Bool × List (Int)))
 | (v13, v14, v15) =>
  (bif (decide ((v14 : Int) ≤ v15)) then
   (bif (!(decide (((F77 ((a4.1.1, a4.1.2.1, (v13, a4.1.2.2.2)), a4.2) (v13.getD (a0_o + toNat v15) default) (v13.getD (a0_o + toNat a1) default)) : Int) < 0))) then
    (.inl (v13, v14, (W (v15 - 1))))
   else
    (bif (decide ((v14 : Int) > v15)) then
     (.inr (.inr (v15, false, ((v13.set (a0_o + toNat v15) (v13.getD (a0_o + toNat a1) default)).set (a0_o + toNat a1) (v13.getD (a0_o + toNat v15) default)))))
    else
     (.inr (.inl (((v13.set (a0_o + toNat v14) (v13.getD (a0_o + toNat v15) default)).set (a0_o + toNat v15) (v13.getD (a0_o + toNat v14) default)), (W (v14 + 1)), (W (v15 - 1)))))))
  else
   (bif (decide ((v14 : Int) > v15)) then
    (.inr (.inr (v15, false, ((v13.set (a0_o + toNat v15) (v13.getD (a0_o + toNat a1) default)).set (a0_o + toNat a1) (v13.getD (a0_o + toNat v15) default)))))
   else
    (.inr (.inl (((v13.set (a0_o + toNat v14) (v13.getD (a0_o + toNat v15) default)).set (a0_o + toNat v15) (v13.getD (a0_o + toNat v14) default)), (W (v14 + 1)), (W (v15 - 1)))))))

noncomputable def B114_W_b77_3 : Code := (loopAtD [1, 1, 1, 1, 1, 1, 1, 1, 1, 0, 0, 0] [0] (bodyOf Try.f114) []).1
noncomputable def K114_W_b77_3 (m0 : Nat) : List K := (loopAtD [1, 1, 1, 1, 1, 1, 1, 1, 1, 0, 0, 0] [m0] (bodyOf Try.f114) []).2

def st114_W_b77_3 (a0 : List (Int)) (a0_o : Nat) (a0_n : Nat) (a1 : Int) (a2 : Int) (a3 : Int) (a4 : TyB × Int) (v10c : List SV) (v10n : Nat) (v11 v12 : Int) : LS := ⟨slN 178 [(0, (.s 0 (0 + a0_o * 1) a0_n 1)), (1, (iv a1)), (4, (.f 1000077 [(.a [(.p 1 0), (iv a4.2)])])), (12, (iv v11)), (13, (iv v12))], [(.live true true v10c), (.live false false [(.s 2 0 a4.1.1.length 10), (iv a4.1.2.1), (.s 0 0 v10n 1), (.s 3 0 a4.1.2.2.2.length 8)]), (.live false true (flat c81 a4.1.1)), (.live false true (flat c40 a4.1.2.2.2))]⟩

def S114_W_b77_3 (a0 : List (Int)) (a0_o : Nat) (a0_n : Nat) (a1 : Int) (a2 : Int) (a3 : Int) (a4 : TyB × Int) : List (Int) × Int × Int → (List (Int) × Int × Int) ⊕ ((List (Int) × Int × Int) ⊕ (Int × Bool × List (Int)))
 | (v10, v11, v12) =>
  (bif (decide ((v11 : Int) ≤ v12)) then
   (bif (decide (((F77 ((a4.1.1, a4.1.2.1, (v10, a4.1.2.2.2)), a4.2) (v10.getD (a0_o + toNat v11) default) (v10.getD (a0_o + toNat a1) default)) : Int) < 0)) then
    (.inl (v10, (v11 + 1), v12))
   else
    (.inr (loopF (S114_W_b77_4 a0 a0_o a0_n a1 a2 a3 a4) (toNat (v12 + 2 - v11) + 1) (v10, v11, v12))))
  else
   (.inr (loopF (S114_W_b77_4 a0 a0_o a0_n a1 a2 a3 a4) (toNat (v12 + 2 - v11) + 1) (v10, v11, v12))))

noncomputable def B114_W_b77_2 : Code := (loopAtD [1, 1, 1, 1, 1, 1, 1, 1, 1, 0] [] (bodyOf Try.f114) []).1
noncomputable def K114_W_b77_2 : List K := (loopAtD [1, 1, 1, 1, 1, 1, 1, 1, 1, 0] [] (bodyOf Try.f114) []).2

def st114_W_b77_2 (a0 : List (Int)) (a0_o : Nat) (a0_n : Nat) (a1 : Int) (a2 : Int) (a3 : Int) (a4 : TyB × Int) (v7c : List SV) (v7n : Nat) (v8 v9 : Int) : LS := ⟨slN 178 [(0, (.s 0 (0 + a0_o * 1) a0_n 1)), (1, (iv a1)), (4, (.f 1000077 [(.a [(.p 1 0), (iv a4.2)])])), (12, (iv v8)), (13, (iv v9))], [(.live true true v7c), (.live false false [(.s 2 0 a4.1.1.length 10), (iv a4.1.2.1), (.s 0 0 v7n 1), (.s 3 0 a4.1.2.2.2.length 8)]), (.live false true (flat c81 a4.1.1)), (.live false true (flat c40 a4.1.2.2.2))]⟩

def S114_W_b77_2 (a0 : List (Int)) (a0_o : Nat) (a0_n : Nat) (a1 : Int) (a2 : Int) (a3 : Int) (a4 : TyB × Int) : List (Int) × Int × Int → (List (Int) × Int × Int) ⊕ (Int × Bool × List (Int))
 | (v7, v8, v9) =>
  (loopF (S114_W_b77_3 a0 a0_o a0_n a1 a2 a3 a4) (toNat (v9 + 2 - v8) + 1) (v7, v8, v9))

noncomputable def B114_W_b77_1 : Code := (loopAtD [1, 1, 1, 1, 0] [] (bodyOf Try.f114) []).1
noncomputable def K114_W_b77_1 : List K := (loopAtD [1, 1, 1, 1, 0] [] (bodyOf Try.f114) []).2

def st114_W_b77_1 (a0 : List (Int)) (a0_o : Nat) (a0_n : Nat) (a1 : Int) (a2 : Int) (a3 : Int) (a4 : TyB × Int) (v4c : List SV) (v4n : Nat) (v5 v6 : Int) : LS := ⟨slN 178 [(0, (.s 0 (0 + a0_o * 1) a0_n 1)), (1, (iv a1)), (4, (.f 1000077 [(.a [(.p 1 0), (iv a4.2)])])), (12, (iv v5)), (13, (iv v6))], [(.live true true v4c), (.live false false [(.s 2 0 a4.1.1.length 10), (iv a4.1.2.1), (.s 0 0 v4n 1), (.s 3 0 a4.1.2.2.2.length 8)]), (.live false true (flat c81 a4.1.1)), (.live false true (flat c40 a4.1.2.2.2))]⟩

def S114_W_b77_1 (a0 : List (Int)) (a0_o : Nat) (a0_n : Nat) (a1 : Int) (a2 : Int) (a3 : Int) (a4 : TyB × Int) : List (Int) × Int × Int → (List (Int) × Int × Int) ⊕ (Int × Bool × List (Int))
 | (v4, v5, v6) =>
  (bif (decide ((v5 : Int) ≤ v6)) then
   (bif (!(decide (((F77 ((a4.1.1, a4.1.2.1, (v4, a4.1.2.2.2)), a4.2) (v4.getD (a0_o + toNat v6) default) (v4.getD (a0_o + toNat a1) default)) : Int) < 0))) then
    (.inl (v4, v5, (W (v6 - 1))))
   else
    (bif (decide ((v5 : Int) > v6)) then
     (.inr (v6, true, ((v4.set (a0_o + toNat v6) (v4.getD (a0_o + toNat a1) default)).set (a0_o + toNat a1) (v4.getD (a0_o + toNat v6) default))))
    else
     (.inr (loopF (S114_W_b77_2 a0 a0_o a0_n a1 a2 a3 a4) (toNat ((W (v6 - 1)) + 2 - (W (v5 + 1))) + 1) (((v4.set (a0_o + toNat v5) (v4.getD (a0_o + toNat v6) default)).set (a0_o + toNat v6) (v4.getD (a0_o + toNat v5) default)), (W (v5 + 1)), (W (v6 - 1)))))))
  else
   (bif (decide ((v5 : Int) > v6)) then
    (.inr (v6, true, ((v4.set (a0_o + toNat v6) (v4.getD (a0_o + toNat a1) default)).set (a0_o + toNat a1) (v4.getD (a0_o + toNat v6) default))))
   else
    (.inr (loopF (S114_W_b77_2 a0 a0_o a0_n a1 a2 a3 a4) (toNat ((W (v6 - 1)) + 2 - (W (v5 + 1))) + 1) (((v4.set (a0_o + toNat v5) (v4.getD (a0_o + toNat v6) default)).set (a0_o + toNat v6) (v4.getD (a0_o + toNat v5) default)), (W (v5 + 1)), (W (v6 - 1)))))))

noncomputable def B114_W_b77_0 : Code := (loopAtD [1, 1, 1, 0] [] (bodyOf Try.f114) []).1
noncomputable def K114_W_b77_0 : List K := (loopAtD [1, 1, 1, 0] [] (bodyOf Try.f114) []).2

def st114_W_b77_0 (a0 : List (Int)) (a0_o : Nat) (a0_n : Nat) (a1 : Int) (a2 : Int) (a3 : Int) (a4 : TyB × Int) (v1c : List SV) (v1n : Nat) (v2 v3 : Int) : LS := ⟨slN 178 [(0, (.s 0 (0 + a0_o * 1) a0_n 1)), (1, (iv a1)), (4, (.f 1000077 [(.a [(.p 1 0), (iv a4.2)])])), (12, (iv v2)), (13, (iv v3))], [(.live true true v1c), (.live false false [(.s 2 0 a4.1.1.length 10), (iv a4.1.2.1), (.s 0 0 v1n 1), (.s 3 0 a4.1.2.2.2.length 8)]), (.live false true (flat c81 a4.1.1)), (.live false true (flat c40 a4.1.2.2.2))]⟩

def S114_W_b77_0 (a0 : List (Int)) (a0_o : Nat) (a0_n : Nat) (a1 : Int) (a2 : Int) (a3 : Int) (a4 : TyB × Int) : List (Int) × Int × Int → (List (Int) × Int × Int) ⊕ (Int × Bool × List (Int))
 | (v1, v2, v3) =>
  (bif (decide ((v2 : Int) ≤ v3)) then
   (bif (decide (((F77 ((a4.1.1, a4.1.2.1, (v1, a4.1.2.2.2)), a4.2) (v1.getD (a0_o + toNat v2) default) (v1.getD (a0_o + toNat a1) default)) : Int) < 0)) then
    (.inl (v1, (v2 + 1), v3))
   else
    (.inr (loopF (S114_W_b77_1 a0 a0_o a0_n a1 a2 a3 a4) (toNat (v3 + 2 - v2) + 1) (v1, v2, v3))))
  else
   (.inr (loopF (S114_W_b77_1 a0 a0_o a0_n a1 a2 a3 a4) (toNat (v3 + 2 - v2) + 1) (v1, v2, v3))))

theorem L114_W_b77_4 (a0 : List (Int)) (a0_o : Nat) (a0_n : Nat) (a1 : Int) (a2 : Int) (a3 : Int) (a4 : TyB × Int) (l0 : a0.length ≤ 9223372036854775807) (l4_1_1 : a4.1.1.length ≤ 9223372036854775807) (l4_1_2_2_1 : a4.1.2.2.1.length ≤ 9223372036854775807) (l4_1_2_2_2 : a4.1.2.2.2.length ≤ 9223372036854775807) (hw : a0_o + a0_n ≤ a0.length ∧ a0.length ≤ 1048576) (hr : InR a4.1.1.length a0) (hab : 0 ≤ a1 ∧ a1 ≤ a3 ∧ a3 < a2 ∧ a2 ≤ ↑a0_n) {cx : Cx} (hcx : cx.base = 4)
   (n0 : Nat) (g0 : ∀ (v7 : List (Int)) (v8 v9 : Int), (v7.length = a0.length) ∧ (InR a4.1.1.length v7) ∧ (a1 < v8) ∧ (v8 ≤ v9 + 2) ∧ (v9 < a2) ∧ (a1 ≤ v9) → toNat (v9 + 2 - v8) < n0 → Aw.Good Try.prog none 9 (bodyPost Try.prog Try.f114 (RR cx (.t [(iv (loopF (S114_W_b77_2 a0 a0_o a0_n a1 a2 a3 a4) n0 (v7, v8, v9)).1), (.v (.bool (loopF (S114_W_b77_2 a0 a0_o a0_n a1 a2 a3 a4) n0 (v7, v8, v9)).2.1))]) [] [(.live true true (flat c3 (loopF (S114_W_b77_2 a0 a0_o a0_n a1 a2 a3 a4) n0 (v7, v8, v9)).2.2)), .un, .un, .un])) cx [] (.l B114_W_b77_2 n0 :: K114_W_b77_2) (st114_W_b77_2 a0 a0_o a0_n a1 a2 a3 a4 (flat c3 v7) v7.length v8 v9)) : ∀ (n : Nat) (v13 : List (Int)) (v14 v15 : Int), (v13.length = a0.length) ∧ (InR a4.1.1.length v13) ∧ (a1 < v14) ∧ (v14 ≤ v15 + 2) ∧ (v15 < a2) ∧ (a1 ≤ v15) ∧ ((v13.length = a0.length)) ∧ ((InR a4.1.1.length v13)) ∧ ((a1 < v14)) ∧ ((v14 ≤ v15 + 2)) ∧ ((v15 < a2)) ∧ ((a1 ≤ v15)) ∧ (toNat (v15 + 2 - v14) < n0 + 1) → toNat (v15 + 2 - v14) < n → Aw.Good Try.prog none 9 (bodyPost Try.prog Try.f114 (RR cx (.t [(iv (thenF (S114_W_b77_2 a0 a0_o a0_n a1 a2 a3 a4) n0 (loopF (S114_W_b77_4 a0 a0_o a0_n a1 a2 a3 a4) n (v13, v14, v15))).1), (.v (.bool (thenF (S114_W_b77_2 a0 a0_o a0_n a1 a2 a3 a4) n0 (loopF (S114_W_b77_4 a0 a0_o a0_n a1 a2 a3 a4) n (v13, v14, v15))).2.1))]) [] [(.live true true (flat c3 (thenF (S114_W_b77_2 a0 a0_o a0_n a1 a2 a3 a4) n0 (loopF (S114_W_b77_4 a0 a0_o a0_n a1 a2 a3 a4) n (v13, v14, v15))).2.2)), .un, .un, .un])) cx [] (.l B114_W_b77_4 n :: K114_W_b77_4 n0) (st114_W_b77_4 a0 a0_o a0_n a1 a2 a3 a4 (flat c3 v13) v13.length v14 v15) := by
 intro n
 induction n with
 | zero => intro v13 v14 v15 hi hn; exact absurd hn (nlz _)
 | succ n ih =>
   intro v13 v14 v15 hi hn
   refine good_round ?_
   have hw_0 : W (v14 + 1) = v14 + 1 := (W_eq (n := v14 + 1) (by omega) (by omega)).trans (by omega)
   have hw_1 : W (v15 - 1) = v15 - 1 := (W_eq (n := v15 - 1) (by omega) (by omega)).trans (by omega)
   cases h0 : (decide ((v14 : Int) ≤ v15)) with
   | true =>
    have q0 := odt h0
    let t1 : List (St Try.prog) := [.d h0, .i v15 a0_n, stLw c3_len v13 a0_o v15 0 1, .i a1 a0_n, stLw c3_len v13 a0_o a1 0 1, .c [1, 2, 0, 3] (C77 ((a4.1.1, a4.1.2.1, (v13, a4.1.2.2.2)), a4.2) (v13.getD (a0_o + toNat v15) default) (v13.getD (a0_o + toNat a1) default) (by (try simp only [Lt]); omega) (by (try simp only [Lt]); omega) (by (try simp only [Lt]); omega) (hi.2.1.at (by omega)) (hi.2.1.at (by omega)))]
    cases h1 : (!(decide (((F77 ((a4.1.1, a4.1.2.1, (v13, a4.1.2.2.2)), a4.2) (v13.getD (a0_o + toNat v15) default) (v13.getD (a0_o + toNat a1) default)) : Int) < 0))) with
    | true =>
     have e := Eq.refl (S114_W_b77_4 a0 a0_o a0_n a1 a2 a3 a4 (v13, v14, v15)); conv at e => rhs; simp only [S114_W_b77_4, h0, h1, cdb]
     rw [loopF_inl e]
     refine ba (t1 ++ [.d h1]) [] [0, 1, 4, 12, 13] [] hcx (m := n) B114_W_b77_4 (K114_W_b77_4 n0) (st114_W_b77_4 a0 a0_o a0_n a1 a2 a3 a4 (flat c3 v13) (v13.length) v14 (W (v15 - 1))) (by kernel_rfl) ?_
     exact ih v13 v14 (W (v15 - 1)) (by refine ⟨?_, ?_, ?_, ?_, ?_, ?_, ?_, ?_, ?_, ?_, ?_, ?_, ?_⟩ <;> first | omega | assumption | exact hi.2.1 | exact hi.2.2.1 | (simp only [Lt]; omega) | exact InR.swap hi.2.1 (by omega) (by omega) | exact InR.swap hr (by omega) (by omega)) (by (try simp only [Ls]); omega)
    | false =>
     let t2 : List (St Try.prog) := (t1 ++ [.d h1])
     cases h2 : (decide ((v14 : Int) > v15)) with
     | true =>
      have q2 := odt h2
      have e := Eq.refl (S114_W_b77_4 a0 a0_o a0_n a1 a2 a3 a4 (v13, v14, v15)); conv at e => rhs; simp only [S114_W_b77_4, h0, h1, h2, cdb]
      rw [loopF_s, e]
      try dsimp only [thenF]
      try dsimp only
      rw [show flat c3 ((v13.set (a0_o + toNat v15) (v13.getD (a0_o + toNat a1) default)).set (a0_o + toNat a1) (v13.getD (a0_o + toNat v15) default)) = (splice (splice (flat c3 v13) (0 + a0_o * 1 + toNat v15 * 1) [(iv (v13.getD (a0_o + toNat a1) default))]) (0 + a0_o * 1 + toNat a1 * 1) [(iv (v13.getD (a0_o + toNat v15) default))]) from Eq.symm (by rw [show (splice (flat c3 v13) (0 + a0_o * 1 + toNat v15 * 1) [(iv (v13.getD (a0_o + toNat a1) default))]) = flat c3 (v13.set (a0_o + toNat v15) (v13.getD (a0_o + toNat a1) default)) from (flat_setw c3_len (by first | omega | (simp only [Lt]; omega)) (o := 0) (d := default) (Nb rfl) rfl)]; exact flat_setw c3_len (by first | omega | (simp only [Lt]; omega)) (o := 0) (d := default) (Nb rfl) rfl)]
      try rw [show List.length (α := Int) ((v13.set (a0_o + toNat v15) (v13.getD (a0_o + toNat a1) default)).set (a0_o + toNat a1) (v13.getD (a0_o + toNat v15) default)) = v13.length from by first | simp; done | omega]
      exact rtm (t2 ++ [.d h2, .i a1 a0_n, stLw c3_len v13 a0_o a1 0 1, .i v15 a0_n, stLw c3_len v13 a0_o v15 0 1, .i v15 a0_n, .p (show ((0 + a0_o * 1 + toNat v15 * 1) + 1 ≤ (flat c3 v13).length) from (flat_setwl c3_len (by first | omega | (simp only [Lt]; omega)) (o := 0) (Nb rfl))), .i a1 a0_n, .p (show ((0 + a0_o * 1 + toNat a1 * 1) + 1 ≤ (splice (flat c3 v13) (0 + a0_o * 1 + toNat v15 * 1) [(iv (v13.getD (a0_o + toNat a1) default))]).length) from (by rw [show (splice (flat c3 v13) (0 + a0_o * 1 + toNat v15 * 1) [(iv (v13.getD (a0_o + toNat a1) default))]) = flat c3 (v13.set (a0_o + toNat v15) (v13.getD (a0_o + toNat a1) default)) from (flat_setw c3_len (by first | omega | (simp only [Lt]; omega)) (o := 0) (d := default) (Nb rfl) rfl)]; exact flat_setwl c3_len (by first | omega | (simp only [Lt]; omega)) (o := 0) (Nb rfl)))]) [] [0] [] hcx (by kernel_rfl)
     | false =>
      have q2 := odf h2
      have e := Eq.refl (S114_W_b77_4 a0 a0_o a0_n a1 a2 a3 a4 (v13, v14, v15)); conv at e => rhs; simp only [S114_W_b77_4, h0, h1, h2, cdb]
      rw [loopF_s, e]
      refine ba (t2 ++ [.d h2, .i v15 a0_n, stLw c3_len v13 a0_o v15 0 1, .i v14 a0_n, stLw c3_len v13 a0_o v14 0 1, .i v14 a0_n, .p (show ((0 + a0_o * 1 + toNat v14 * 1) + 1 ≤ (flat c3 v13).length) from (flat_setwl c3_len (by first | omega | (simp only [Lt]; omega)) (o := 0) (Nb rfl))), .i v15 a0_n, .p (show ((0 + a0_o * 1 + toNat v15 * 1) + 1 ≤ (splice (flat c3 v13) (0 + a0_o * 1 + toNat v14 * 1) [(iv (v13.getD (a0_o + toNat v15) default))]).length) from (by rw [show (splice (flat c3 v13) (0 + a0_o * 1 + toNat v14 * 1) [(iv (v13.getD (a0_o + toNat v15) default))]) = flat c3 (v13.set (a0_o + toNat v14) (v13.getD (a0_o + toNat v15) default)) from (flat_setw c3_len (by first | omega | (simp only [Lt]; omega)) (o := 0) (d := default) (Nb rfl) rfl)]; exact flat_setwl c3_len (by first | omega | (simp only [Lt]; omega)) (o := 0) (Nb rfl)))]) [] [0, 1, 4, 12, 13] [] hcx (m := n0) B114_W_b77_2 (K114_W_b77_2) (st114_W_b77_2 a0 a0_o a0_n a1 a2 a3 a4 (splice (splice (flat c3 v13) (0 + a0_o * 1 + toNat v14 * 1) [(iv (v13.getD (a0_o + toNat v15) default))]) (0 + a0_o * 1 + toNat v15 * 1) [(iv (v13.getD (a0_o + toNat v14) default))]) (v13.length) (W (v14 + 1)) (W (v15 - 1))) (by kernel_rfl) ?_
      have z0 : (splice (splice (flat c3 v13) (0 + a0_o * 1 + toNat v14 * 1) [(iv (v13.getD (a0_o + toNat v15) default))]) (0 + a0_o * 1 + toNat v15 * 1) [(iv (v13.getD (a0_o + toNat v14) default))]) = flat c3 ((v13.set (a0_o + toNat v14) (v13.getD (a0_o + toNat v15) default)).set (a0_o + toNat v15) (v13.getD (a0_o + toNat v14) default)) := (by rw [show (splice (flat c3 v13) (0 + a0_o * 1 + toNat v14 * 1) [(iv (v13.getD (a0_o + toNat v15) default))]) = flat c3 (v13.set (a0_o + toNat v14) (v13.getD (a0_o + toNat v15) default)) from (flat_setw c3_len (by first | omega | (simp only [Lt]; omega)) (o := 0) (d := default) (Nb rfl) rfl)]; exact flat_setw c3_len (by first | omega | (simp only [Lt]; omega)) (o := 0) (d := default) (Nb rfl) rfl)
      have z1 : v13.length = ((v13.set (a0_o + toNat v14) (v13.getD (a0_o + toNat v15) default)).set (a0_o + toNat v15) (v13.getD (a0_o + toNat v14) default)).length := by simp
      rw [z0, z1]
      exact g0 ((v13.set (a0_o + toNat v14) (v13.getD (a0_o + toNat v15) default)).set (a0_o + toNat v15) (v13.getD (a0_o + toNat v14) default)) (W (v14 + 1)) (W (v15 - 1)) (by refine ⟨?_, ?_, ?_, ?_, ?_, ?_⟩ <;> first | omega | assumption | exact hi.2.1 | exact hi.2.2.1 | (simp only [Lt]; omega) | exact InR.swap hi.2.1 (by omega) (by omega) | exact InR.swap hr (by omega) (by omega)) (by (try simp only [Ls]); omega)
   | false =>
    have q0 := odf h0
    let t1 : List (St Try.prog) := [.d h0]
    cases h1 : (decide ((v14 : Int) > v15)) with
    | true =>
     have q1 := odt h1
     have e := Eq.refl (S114_W_b77_4 a0 a0_o a0_n a1 a2 a3 a4 (v13, v14, v15)); conv at e => rhs; simp only [S114_W_b77_4, h0, h1, cdb]
     rw [loopF_s, e]
     try dsimp only [thenF]
     try dsimp only
     rw [show flat c3 ((v13.set (a0_o + toNat v15) (v13.getD (a0_o + toNat a1) default)).set (a0_o + toNat a1) (v13.getD (a0_o + toNat v15) default)) = (splice (splice (flat c3 v13) (0 + a0_o * 1 + toNat v15 * 1) [(iv (v13.getD (a0_o + toNat a1) default))]) (0 + a0_o * 1 + toNat a1 * 1) [(iv (v13.getD (a0_o + toNat v15) default))]) from Eq.symm (by rw [show (splice (flat c3 v13) (0 + a0_o * 1 + toNat v15 * 1) [(iv (v13.getD (a0_o + toNat a1) default))]) = flat c3 (v13.set (a0_o + toNat v15) (v13.getD (a0_o + toNat a1) default)) from (flat_setw c3_len (by first | omega | (simp only [Lt]; omega)) (o := 0) (d := default) (Nb rfl) rfl)]; exact flat_setw c3_len (by first | omega | (simp only [Lt]; omega)) (o := 0) (d := default) (Nb rfl) rfl)]
     try rw [show List.length (α := Int) ((v13.set (a0_o + toNat v15) (v13.getD (a0_o + toNat a1) default)).set (a0_o + toNat a1) (v13.getD (a0_o + toNat v15) default)) = v13.length from by first | simp; done | omega]
     exact rtm (t1 ++ [.d h1, .i a1 a0_n, stLw c3_len v13 a0_o a1 0 1, .i v15 a0_n, stLw c3_len v13 a0_o v15 0 1, .i v15 a0_n, .p (show ((0 + a0_o * 1 + toNat v15 * 1) + 1 ≤ (flat c3 v13).length) from (flat_setwl c3_len (by first | omega | (simp only [Lt]; omega)) (o := 0) (Nb rfl))), .i a1 a0_n, .p (show ((0 + a0_o * 1 + toNat a1 * 1) + 1 ≤ (splice (flat c3 v13) (0 + a0_o * 1 + toNat v15 * 1) [(iv (v13.getD (a0_o + toNat a1) default))]).length) from (by rw [show (splice (flat c3 v13) (0 + a0_o * 1 + toNat v15 * 1) [(iv (v13.getD (a0_o + toNat a1) default))]) = flat c3 (v13.set (a0_o + toNat v15) (v13.getD (a0_o + toNat a1) default)) from (flat_setw c3_len (by first | omega | (simp only [Lt]; omega)) (o := 0) (d := default) (Nb rfl) rfl)]; exact flat_setwl c3_len (by first | omega | (simp only [Lt]; omega)) (o := 0) (Nb rfl)))]) [] [0] [] hcx (by kernel_rfl)
    | false =>
     have q1 := odf h1
     have e := Eq.refl (S114_W_b77_4 a0 a0_o a0_n a1 a2 a3 a4 (v13, v14, v15)); conv at e => rhs; simp only [S114_W_b77_4, h0, h1, cdb]
     rw [loopF_s, e]
     refine ba (t1 ++ [.d h1, .i v15 a0_n, stLw c3_len v13 a0_o v15 0 1, .i v14 a0_n, stLw c3_len v13 a0_o v14 0 1, .i v14 a0_n, .p (show ((0 + a0_o * 1 + toNat v14 * 1) + 1 ≤ (flat c3 v13).length) from (flat_setwl c3_len (by first | omega | (simp only [Lt]; omega)) (o := 0) (Nb rfl))), .i v15 a0_n, .p (show ((0 + a0_o * 1 + toNat v15 * 1) + 1 ≤ (splice (flat c3 v13) (0 + a0_o * 1 + toNat v14 * 1) [(iv (v13.getD (a0_o + toNat v15) default))]).length) from (by rw [show (splice (flat c3 v13) (0 + a0_o * 1 + toNat v14 * 1) [(iv (v13.getD (a0_o + toNat v15) default))]) = flat c3 (v13.set (a0_o + toNat v14) (v13.getD (a0_o + toNat v15) default)) from (flat_setw c3_len (by first | omega | (simp only [Lt]; omega)) (o := 0) (d := default) (Nb rfl) rfl)]; exact flat_setwl c3_len (by first | omega | (simp only [Lt]; omega)) (o := 0) (Nb rfl)))]) [] [0, 1, 4, 12, 13] [] hcx (m := n0) B114_W_b77_2 (K114_W_b77_2) (st114_W_b77_2 a0 a0_o a0_n a1 a2 a3 a4 (splice (splice (flat c3 v13) (0 + a0_o * 1 + toNat v14 * 1) [(iv (v13.getD (a0_o + toNat v15) default))]) (0 + a0_o * 1 + toNat v15 * 1) [(iv (v13.getD (a0_o + toNat v14) default))]) (v13.length) (W (v14 + 1)) (W (v15 - 1))) (by kernel_rfl) ?_
     have z0 : (splice (splice (flat c3 v13) (0 + a0_o * 1 + toNat v14 * 1) [(iv (v13.getD (a0_o + toNat v15) default))]) (0 + a0_o * 1 + toNat v15 * 1) [(iv (v13.getD (a0_o + toNat v14) default))]) = flat c3 ((v13.set (a0_o + toNat v14) (v13.getD (a0_o + toNat v15) default)).set (a0_o + toNat v15) (v13.getD (a0_o + toNat v14) default)) := (by rw [show (splice (flat c3 v13) (0 + a0_o * 1 + toNat v14 * 1) [(iv (v13.getD (a0_o + toNat v15) default))]) = flat c3 (v13.set (a0_o + toNat v14) (v13.getD (a0_o + toNat v15) default)) from (flat_setw c3_len (by first | omega | (simp only [Lt]; omega)) (o := 0) (d := default) (Nb rfl) rfl)]; exact flat_setw c3_len (by first | omega | (simp only [Lt]; omega)) (o := 0) (d := default) (Nb rfl) rfl)
     have z1 : v13.length = ((v13.set (a0_o + toNat v14) (v13.getD (a0_o + toNat v15) default)).set (a0_o + toNat v15) (v13.getD (a0_o + toNat v14) default)).length := by simp
     rw [z0, z1]
     exact g0 ((v13.set (a0_o + toNat v14) (v13.getD (a0_o + toNat v15) default)).set (a0_o + toNat v15) (v13.getD (a0_o + toNat v14) default)) (W (v14 + 1)) (W (v15 - 1)) (by refine ⟨?_, ?_, ?_, ?_, ?_, ?_⟩ <;> first | omega | assumption | exact hi.2.1 | exact hi.2.2.1 | (simp only [Lt]; omega) | exact InR.swap hi.2.1 (by omega) (by omega) | exact InR.swap hr (by omega) (by omega)) (by (try simp only [Ls]); omega)

theorem L114_W_b77_3 (a0 : List (Int)) (a0_o : Nat) (a0_n : Nat) (a1 : Int) (a2 : Int) (a3 : Int) (a4 : TyB × Int) (l0 : a0.length ≤ 9223372036854775807) (l4_1_1 : a4.1.1.length ≤ 9223372036854775807) (l4_1_2_2_1 : a4.1.2.2.1.length ≤ 9223372036854775807) (l4_1_2_2_2 : a4.1.2.2.2.length ≤ 9223372036854775807) (hw : a0_o + a0_n ≤ a0.length ∧ a0.length ≤ 1048576) (hr : InR a4.1.1.length a0) (hab : 0 ≤ a1 ∧ a1 ≤ a3 ∧ a3 < a2 ∧ a2 ≤ ↑a0_n) {cx : Cx} (hcx : cx.base = 4)
   (n0 : Nat) (g0 : ∀ (v7 : List (Int)) (v8 v9 : Int), (v7.length = a0.length) ∧ (InR a4.1.1.length v7) ∧ (a1 < v8) ∧ (v8 ≤ v9 + 2) ∧ (v9 < a2) ∧ (a1 ≤ v9) → toNat (v9 + 2 - v8) < n0 → Aw.Good Try.prog none 9 (bodyPost Try.prog Try.f114 (RR cx (.t [(iv (loopF (S114_W_b77_2 a0 a0_o a0_n a1 a2 a3 a4) n0 (v7, v8, v9)).1), (.v (.bool (loopF (S114_W_b77_2 a0 a0_o a0_n a1 a2 a3 a4) n0 (v7, v8, v9)).2.1))]) [] [(.live true true (flat c3 (loopF (S114_W_b77_2 a0 a0_o a0_n a1 a2 a3 a4) n0 (v7, v8, v9)).2.2)), .un, .un, .un])) cx [] (.l B114_W_b77_2 n0 :: K114_W_b77_2) (st114_W_b77_2 a0 a0_o a0_n a1 a2 a3 a4 (flat c3 v7) v7.length v8 v9)) : ∀ (n : Nat) (v10 : List (Int)) (v11 v12 : Int), (v10.length = a0.length) ∧ (InR a4.1.1.length v10) ∧ (a1 < v11) ∧ (v11 ≤ v12 + 2) ∧ (v12 < a2) ∧ (a1 ≤ v12) ∧ ((v10.length = a0.length)) ∧ ((InR a4.1.1.length v10)) ∧ ((a1 < v11)) ∧ ((v11 ≤ v12 + 2)) ∧ ((v12 < a2)) ∧ ((a1 ≤ v12)) ∧ (toNat (v12 + 2 - v11) < n0 + 1) → toNat (v12 + 2 - v11) < n → Aw.Good Try.prog none 9 (bodyPost Try.prog Try.f114 (RR cx (.t [(iv (thenF (S114_W_b77_2 a0 a0_o a0_n a1 a2 a3 a4) n0 (loopF (S114_W_b77_3 a0 a0_o a0_n a1 a2 a3 a4) n (v10, v11, v12))).1), (.v (.bool (thenF (S114_W_b77_2 a0 a0_o a0_n a1 a2 a3 a4) n0 (loopF (S114_W_b77_3 a0 a0_o a0_n a1 a2 a3 a4) n (v10, v11, v12))).2.1))]) [] [(.live true true (flat c3 (thenF (S114_W_b77_2 a0 a0_o a0_n a1 a2 a3 a4) n0 (loopF (S114_W_b77_3 a0 a0_o a0_n a1 a2 a3 a4) n (v10, v11, v12))).2.2)), .un, .un, .un])) cx [] (.l B114_W_b77_3 n :: K114_W_b77_3 n0) (st114_W_b77_3 a0 a0_o a0_n a1 a2 a3 a4 (flat c3 v10) v10.length v11 v12) := by
 intro n
 induction n with
 | zero => intro v10 v11 v12 hi hn; exact absurd hn (nlz _)
 | succ n ih =>
   intro v10 v11 v12 hi hn
   refine good_round ?_
   have hw_0 : W (v11 + 1) = v11 + 1 := (W_eq (n := v11 + 1) (by omega) (by omega)).trans (by omega)
   have hw_1 : W (v12 - 1) = v12 - 1 := (W_eq (n := v12 - 1) (by omega) (by omega)).trans (by omega)
   cases h0 : (decide ((v11 : Int) ≤ v12)) with
   | true =>
    have q0 := odt h0
    let t1 : List (St Try.prog) := [.d h0, .i v11 a0_n, stLw c3_len v10 a0_o v11 0 1, .i a1 a0_n, stLw c3_len v10 a0_o a1 0 1, .c [1, 2, 0, 3] (C77 ((a4.1.1, a4.1.2.1, (v10, a4.1.2.2.2)), a4.2) (v10.getD (a0_o + toNat v11) default) (v10.getD (a0_o + toNat a1) default) (by (try simp only [Lt]); omega) (by (try simp only [Lt]); omega) (by (try simp only [Lt]); omega) (hi.2.1.at (by omega)) (hi.2.1.at (by omega)))]
    cases h1 : (decide (((F77 ((a4.1.1, a4.1.2.1, (v10, a4.1.2.2.2)), a4.2) (v10.getD (a0_o + toNat v11) default) (v10.getD (a0_o + toNat a1) default)) : Int) < 0)) with
    | true =>
     have q1 := odt h1
     have e := Eq.refl (S114_W_b77_3 a0 a0_o a0_n a1 a2 a3 a4 (v10, v11, v12)); conv at e => rhs; simp only [S114_W_b77_3, h0, h1, cdb]
     rw [loopF_inl e]
     refine ba (t1 ++ [.d h1]) [] [0, 1, 4, 12, 13] [] hcx (m := n) B114_W_b77_3 (K114_W_b77_3 n0) (st114_W_b77_3 a0 a0_o a0_n a1 a2 a3 a4 (flat c3 v10) (v10.length) (W (v11 + 1)) v12) (by kernel_rfl) ?_
     have z0 : (W (v11 + 1)) = (v11 + 1) := W_eq (by omega) (by omega)
     rw [z0]
     exact ih v10 (v11 + 1) v12 (by refine ⟨?_, ?_, ?_, ?_, ?_, ?_, ?_, ?_, ?_, ?_, ?_, ?_, ?_⟩ <;> first | omega | assumption | exact hi.2.1 | exact hi.2.2.1 | (simp only [Lt]; omega) | exact InR.swap hi.2.1 (by omega) (by omega) | exact InR.swap hr (by omega) (by omega)) (by (try simp only [Ls]); omega)
    | false =>
     have q1 := odf h1
     have e := Eq.refl (S114_W_b77_3 a0 a0_o a0_n a1 a2 a3 a4 (v10, v11, v12)); conv at e => rhs; simp only [S114_W_b77_3, h0, h1, cdb]
     rw [loopF_s, e]
     refine en (t1 ++ [.d h1]) [] [0, 1, 4, 12, 13] [] hcx B114_W_b77_4 (K114_W_b77_4 n0) (st114_W_b77_4 a0 a0_o a0_n a1 a2 a3 a4 (flat c3 v10) (v10.length) v11 v12) (toNat (v12 + 2 - v11) + 1) (by kernel_rfl) ?_
     exact L114_W_b77_4 a0 a0_o a0_n a1 a2 a3 a4 l0 l4_1_1 l4_1_2_2_1 l4_1_2_2_2 hw hr hab hcx n0 g0 (toNat (v12 + 2 - v11) + 1) v10 v11 v12 (by refine ⟨?_, ?_, ?_, ?_, ?_, ?_, ?_, ?_, ?_, ?_, ?_, ?_, ?_⟩ <;> first | omega | assumption | exact hi.2.1 | exact hi.2.2.1 | (simp only [Lt]; omega) | exact InR.swap hi.2.1 (by omega) (by omega) | exact InR.swap hr (by omega) (by omega)) (by (try simp only [Ls]); omega)
   | false =>
    have q0 := odf h0
    have e := Eq.refl (S114_W_b77_3 a0 a0_o a0_n a1 a2 a3 a4 (v10, v11, v12)); conv at e => rhs; simp only [S114_W_b77_3, h0, cdb]
    rw [loopF_s, e]
    refine en [.d h0] [] [0, 1, 4, 12, 13] [] hcx B114_W_b77_4 (K114_W_b77_4 n0) (st114_W_b77_4 a0 a0_o a0_n a1 a2 a3 a4 (flat c3 v10) (v10.length) v11 v12) (toNat (v12 + 2 - v11) + 1) (by kernel_rfl) ?_
    exact L114_W_b77_4 a0 a0_o a0_n a1 a2 a3 a4 l0 l4_1_1 l4_1_2_2_1 l4_1_2_2_2 hw hr hab hcx n0 g0 (toNat (v12 + 2 - v11) + 1) v10 v11 v12 (by refine ⟨?_, ?_, ?_, ?_, ?_, ?_, ?_, ?_, ?_, ?_, ?_, ?_, ?_⟩ <;> first | omega | assumption | exact hi.2.1 | exact hi.2.2.1 | (simp only [Lt]; omega) | exact InR.swap hi.2.1 (by omega) (by omega) | exact InR.swap hr (by omega) (by omega)) (by (try simp only [Ls]); omega)

theorem L114_W_b77_2 (a0 : List (Int)) (a0_o : Nat) (a0_n : Nat) (a1 : Int) (a2 : Int) (a3 : Int) (a4 : TyB × Int) (l0 : a0.length ≤ 9223372036854775807) (l4_1_1 : a4.1.1.length ≤ 9223372036854775807) (l4_1_2_2_1 : a4.1.2.2.1.length ≤ 9223372036854775807) (l4_1_2_2_2 : a4.1.2.2.2.length ≤ 9223372036854775807) (hw : a0_o + a0_n ≤ a0.length ∧ a0.length ≤ 1048576) (hr : InR a4.1.1.length a0) (hab : 0 ≤ a1 ∧ a1 ≤ a3 ∧ a3 < a2 ∧ a2 ≤ ↑a0_n) {cx : Cx} (hcx : cx.base = 4) : ∀ (n : Nat) (v7 : List (Int)) (v8 v9 : Int), (v7.length = a0.length) ∧ (InR a4.1.1.length v7) ∧ (a1 < v8) ∧ (v8 ≤ v9 + 2) ∧ (v9 < a2) ∧ (a1 ≤ v9) → toNat (v9 + 2 - v8) < n → Aw.Good Try.prog none 9 (bodyPost Try.prog Try.f114 (RR cx (.t [(iv (loopF (S114_W_b77_2 a0 a0_o a0_n a1 a2 a3 a4) n (v7, v8, v9)).1), (.v (.bool (loopF (S114_W_b77_2 a0 a0_o a0_n a1 a2 a3 a4) n (v7, v8, v9)).2.1))]) [] [(.live true true (flat c3 (loopF (S114_W_b77_2 a0 a0_o a0_n a1 a2 a3 a4) n (v7, v8, v9)).2.2)), .un, .un, .un])) cx [] (.l B114_W_b77_2 n :: K114_W_b77_2) (st114_W_b77_2 a0 a0_o a0_n a1 a2 a3 a4 (flat c3 v7) v7.length v8 v9) := by
 intro n
 induction n with
 | zero => intro v7 v8 v9 hi hn; exact absurd hn (nlz _)
 | succ n ih =>
   intro v7 v8 v9 hi hn
   refine good_round ?_
   have hw_0 : W (v8 + 1) = v8 + 1 := (W_eq (n := v8 + 1) (by omega) (by omega)).trans (by omega)
   have hw_1 : W (v9 - 1) = v9 - 1 := (W_eq (n := v9 - 1) (by omega) (by omega)).trans (by omega)
   have e := Eq.refl (S114_W_b77_2 a0 a0_o a0_n a1 a2 a3 a4 (v7, v8, v9)); conv at e => rhs; simp only [S114_W_b77_2]
   rw [loopF_s, e]
   refine en [] [] [0, 1, 4, 12, 13] [] hcx B114_W_b77_3 (K114_W_b77_3 n) (st114_W_b77_3 a0 a0_o a0_n a1 a2 a3 a4 (flat c3 v7) (v7.length) v8 v9) (toNat (v9 + 2 - v8) + 1) (by kernel_rfl) ?_
   exact L114_W_b77_3 a0 a0_o a0_n a1 a2 a3 a4 l0 l4_1_1 l4_1_2_2_1 l4_1_2_2_2 hw hr hab hcx n ih (toNat (v9 + 2 - v8) + 1) v7 v8 v9 (by refine ⟨?_, ?_, ?_, ?_, ?_, ?_, ?_, ?_, ?_, ?_, ?_, ?_, ?_⟩ <;> first | omega | assumption | exact hi.2.1 | exact hi.2.2.1 | (simp only [Lt]; omega) | exact InR.swap hi.2.1 (by omega) (by omega) | exact InR.swap hr (by omega) (by omega)) (by (try simp only [Ls]); omega)

theorem L114_W_b77_1 (a0 : List (Int)) (a0_o : Nat) (a0_n : Nat) (a1 : Int) (a2 : Int) (a3 : Int) (a4 : TyB × Int) (l0 : a0.length ≤ 9223372036854775807) (l4_1_1 : a4.1.1.length ≤ 9223372036854775807) (l4_1_2_2_1 : a4.1.2.2.1.length ≤ 9223372036854775807) (l4_1_2_2_2 : a4.1.2.2.2.length ≤ 9223372036854775807) (hw : a0_o + a0_n ≤ a0.length ∧ a0.length ≤ 1048576) (hr : InR a4.1.1.length a0) (hab : 0 ≤ a1 ∧ a1 ≤ a3 ∧ a3 < a2 ∧ a2 ≤ ↑a0_n) {cx : Cx} (hcx : cx.base = 4) : ∀ (n : Nat) (v4 : List (Int)) (v5 v6 : Int), (v4.length = a0.length) ∧ (InR a4.1.1.length v4) ∧ (a1 < v5) ∧ (v5 ≤ v6 + 1) ∧ (v6 < a2) → toNat (v6 + 2 - v5) < n → Aw.Good Try.prog none 9 (bodyPost Try.prog Try.f114 (RR cx (.t [(iv (loopF (S114_W_b77_1 a0 a0_o a0_n a1 a2 a3 a4) n (v4, v5, v6)).1), (.v (.bool (loopF (S114_W_b77_1 a0 a0_o a0_n a1 a2 a3 a4) n (v4, v5, v6)).2.1))]) [] [(.live true true (flat c3 (loopF (S114_W_b77_1 a0 a0_o a0_n a1 a2 a3 a4) n (v4, v5, v6)).2.2)), .un, .un, .un])) cx [] (.l B114_W_b77_1 n :: K114_W_b77_1) (st114_W_b77_1 a0 a0_o a0_n a1 a2 a3 a4 (flat c3 v4) v4.length v5 v6) := by
 intro n
 induction n with
 | zero => intro v4 v5 v6 hi hn; exact absurd hn (nlz _)
 | succ n ih =>
   intro v4 v5 v6 hi hn
   refine good_round ?_
   have hw_0 : W (v5 + 1) = v5 + 1 := (W_eq (n := v5 + 1) (by omega) (by omega)).trans (by omega)
   have hw_1 : W (v6 - 1) = v6 - 1 := (W_eq (n := v6 - 1) (by omega) (by omega)).trans (by omega)
   cases h0 : (decide ((v5 : Int) ≤ v6)) with
   | true =>
    have q0 := odt h0
    let t1 : List (St Try.prog) := [.d h0, .i v6 a0_n, stLw c3_len v4 a0_o v6 0 1, .i a1 a0_n, stLw c3_len v4 a0_o a1 0 1, .c [1, 2, 0, 3] (C77 ((a4.1.1, a4.1.2.1, (v4, a4.1.2.2.2)), a4.2) (v4.getD (a0_o + toNat v6) default) (v4.getD (a0_o + toNat a1) default) (by (try simp only [Lt]); omega) (by (try simp only [Lt]); omega) (by (try simp only [Lt]); omega) (hi.2.1.at (by omega)) (hi.2.1.at (by omega)))]
    cases h1 : (!(decide (((F77 ((a4.1.1, a4.1.2.1, (v4, a4.1.2.2.2)), a4.2) (v4.getD (a0_o + toNat v6) default) (v4.getD (a0_o + toNat a1) default)) : Int) < 0))) with
    | true =>
     have e := Eq.refl (S114_W_b77_1 a0 a0_o a0_n a1 a2 a3 a4 (v4, v5, v6)); conv at e => rhs; simp only [S114_W_b77_1, h0, h1, cdb]
     rw [loopF_inl e]
     refine ba (t1 ++ [.d h1]) [] [0, 1, 4, 12, 13] [] hcx (m := n) B114_W_b77_1 (K114_W_b77_1) (st114_W_b77_1 a0 a0_o a0_n a1 a2 a3 a4 (flat c3 v4) (v4.length) v5 (W (v6 - 1))) (by kernel_rfl) ?_
     exact ih v4 v5 (W (v6 - 1)) (by refine ⟨?_, ?_, ?_, ?_, ?_⟩ <;> first | omega | assumption | exact hi.2.1 | exact hi.2.2.1 | (simp only [Lt]; omega) | exact InR.swap hi.2.1 (by omega) (by omega) | exact InR.swap hr (by omega) (by omega)) (by (try simp only [Ls]); omega)
    | false =>
     let t2 : List (St Try.prog) := (t1 ++ [.d h1])
     cases h2 : (decide ((v5 : Int) > v6)) with
     | true =>
      have q2 := odt h2
      have e := Eq.refl (S114_W_b77_1 a0 a0_o a0_n a1 a2 a3 a4 (v4, v5, v6)); conv at e => rhs; simp only [S114_W_b77_1, h0, h1, h2, cdb]
      rw [loopF_s, e]
      try dsimp only [thenF]
      try dsimp only
      rw [show flat c3 ((v4.set (a0_o + toNat v6) (v4.getD (a0_o + toNat a1) default)).set (a0_o + toNat a1) (v4.getD (a0_o + toNat v6) default)) = (splice (splice (flat c3 v4) (0 + a0_o * 1 + toNat v6 * 1) [(iv (v4.getD (a0_o + toNat a1) default))]) (0 + a0_o * 1 + toNat a1 * 1) [(iv (v4.getD (a0_o + toNat v6) default))]) from Eq.symm (by rw [show (splice (flat c3 v4) (0 + a0_o * 1 + toNat v6 * 1) [(iv (v4.getD (a0_o + toNat a1) default))]) = flat c3 (v4.set (a0_o + toNat v6) (v4.getD (a0_o + toNat a1) default)) from (flat_setw c3_len (by first | omega | (simp only [Lt]; omega)) (o := 0) (d := default) (Nb rfl) rfl)]; exact flat_setw c3_len (by first | omega | (simp only [Lt]; omega)) (o := 0) (d := default) (Nb rfl) rfl)]
      try rw [show List.length (α := Int) ((v4.set (a0_o + toNat v6) (v4.getD (a0_o + toNat a1) default)).set (a0_o + toNat a1) (v4.getD (a0_o + toNat v6) default)) = v4.length from by first | simp; done | omega]
      exact rtm (t2 ++ [.d h2, .i a1 a0_n, stLw c3_len v4 a0_o a1 0 1, .i v6 a0_n, stLw c3_len v4 a0_o v6 0 1, .i v6 a0_n, .p (show ((0 + a0_o * 1 + toNat v6 * 1) + 1 ≤ (flat c3 v4).length) from (flat_setwl c3_len (by first | omega | (simp only [Lt]; omega)) (o := 0) (Nb rfl))), .i a1 a0_n, .p (show ((0 + a0_o * 1 + toNat a1 * 1) + 1 ≤ (splice (flat c3 v4) (0 + a0_o * 1 + toNat v6 * 1) [(iv (v4.getD (a0_o + toNat a1) default))]).length) from (by rw [show (splice (flat c3 v4) (0 + a0_o * 1 + toNat v6 * 1) [(iv (v4.getD (a0_o + toNat a1) default))]) = flat c3 (v4.set (a0_o + toNat v6) (v4.getD (a0_o + toNat a1) default)) from (flat_setw c3_len (by first | omega | (simp only [Lt]; omega)) (o := 0) (d := default) (Nb rfl) rfl)]; exact flat_setwl c3_len (by first | omega | (simp only [Lt]; omega)) (o := 0) (Nb rfl)))]) [] [0] [] hcx (by kernel_rfl)
     | false =>
      have q2 := odf h2
      have e := Eq.refl (S114_W_b77_1 a0 a0_o a0_n a1 a2 a3 a4 (v4, v5, v6)); conv at e => rhs; simp only [S114_W_b77_1, h0, h1, h2, cdb]
      rw [loopF_s, e]
      refine en (t2 ++ [.d h2, .i v6 a0_n, stLw c3_len v4 a0_o v6 0 1, .i v5 a0_n, stLw c3_len v4 a0_o v5 0 1, .i v5 a0_n, .p (show ((0 + a0_o * 1 + toNat v5 * 1) + 1 ≤ (flat c3 v4).length) from (flat_setwl c3_len (by first | omega | (simp only [Lt]; omega)) (o := 0) (Nb rfl))), .i v6 a0_n, .p (show ((0 + a0_o * 1 + toNat v6 * 1) + 1 ≤ (splice (flat c3 v4) (0 + a0_o * 1 + toNat v5 * 1) [(iv (v4.getD (a0_o + toNat v6) default))]).length) from (by rw [show (splice (flat c3 v4) (0 + a0_o * 1 + toNat v5 * 1) [(iv (v4.getD (a0_o + toNat v6) default))]) = flat c3 (v4.set (a0_o + toNat v5) (v4.getD (a0_o + toNat v6) default)) from (flat_setw c3_len (by first | omega | (simp only [Lt]; omega)) (o := 0) (d := default) (Nb rfl) rfl)]; exact flat_setwl c3_len (by first | omega | (simp only [Lt]; omega)) (o := 0) (Nb rfl)))]) [] [0, 1, 4, 12, 13] [] hcx B114_W_b77_2 (K114_W_b77_2) (st114_W_b77_2 a0 a0_o a0_n a1 a2 a3 a4 (splice (splice (flat c3 v4) (0 + a0_o * 1 + toNat v5 * 1) [(iv (v4.getD (a0_o + toNat v6) default))]) (0 + a0_o * 1 + toNat v6 * 1) [(iv (v4.getD (a0_o + toNat v5) default))]) (v4.length) (W (v5 + 1)) (W (v6 - 1))) (toNat ((W (v6 - 1)) + 2 - (W (v5 + 1))) + 1) (by kernel_rfl) ?_
      have z0 : (splice (splice (flat c3 v4) (0 + a0_o * 1 + toNat v5 * 1) [(iv (v4.getD (a0_o + toNat v6) default))]) (0 + a0_o * 1 + toNat v6 * 1) [(iv (v4.getD (a0_o + toNat v5) default))]) = flat c3 ((v4.set (a0_o + toNat v5) (v4.getD (a0_o + toNat v6) default)).set (a0_o + toNat v6) (v4.getD (a0_o + toNat v5) default)) := (by rw [show (splice (flat c3 v4) (0 + a0_o * 1 + toNat v5 * 1) [(iv (v4.getD (a0_o + toNat v6) default))]) = flat c3 (v4.set (a0_o + toNat v5) (v4.getD (a0_o + toNat v6) default)) from (flat_setw c3_len (by first | omega | (simp only [Lt]; omega)) (o := 0) (d := default) (Nb rfl) rfl)]; exact flat_setw c3_len (by first | omega | (simp only [Lt]; omega)) (o := 0) (d := default) (Nb rfl) rfl)
      have z1 : v4.length = ((v4.set (a0_o + toNat v5) (v4.getD (a0_o + toNat v6) default)).set (a0_o + toNat v6) (v4.getD (a0_o + toNat v5) default)).length := by simp
      rw [z0, z1]
      exact L114_W_b77_2 a0 a0_o a0_n a1 a2 a3 a4 l0 l4_1_1 l4_1_2_2_1 l4_1_2_2_2 hw hr hab hcx (toNat ((W (v6 - 1)) + 2 - (W (v5 + 1))) + 1) ((v4.set (a0_o + toNat v5) (v4.getD (a0_o + toNat v6) default)).set (a0_o + toNat v6) (v4.getD (a0_o + toNat v5) default)) (W (v5 + 1)) (W (v6 - 1)) (by refine ⟨?_, ?_, ?_, ?_, ?_, ?_⟩ <;> first | omega | assumption | exact hi.2.1 | exact hi.2.2.1 | (simp only [Lt]; omega) | exact InR.swap hi.2.1 (by omega) (by omega) | exact InR.swap hr (by omega) (by omega)) (by (try simp only [Ls]); omega)
   | false =>
    have q0 := odf h0
    let t1 : List (St Try.prog) := [.d h0]
    cases h1 : (decide ((v5 : Int) > v6)) with
    | true =>
     have q1 := odt h1
     have e := Eq.refl (S114_W_b77_1 a0 a0_o a0_n a1 a2 a3 a4 (v4, v5, v6)); conv at e => rhs; simp only [S114_W_b77_1, h0, h1, cdb]
     rw [loopF_s, e]
     try dsimp only [thenF]
     try dsimp only
     rw [show flat c3 ((v4.set (a0_o + toNat v6) (v4.getD (a0_o + toNat a1) default)).set (a0_o + toNat a1) (v4.getD (a0_o + toNat v6) default)) = (splice (splice (flat c3 v4) (0 + a0_o * 1 + toNat v6 * 1) [(iv (v4.getD (a0_o + toNat a1) default))]) (0 + a0_o * 1 + toNat a1 * 1) [(iv (v4.getD (a0_o + toNat v6) default))]) from Eq.symm (by rw [show (splice (flat c3 v4) (0 + a0_o * 1 + toNat v6 * 1) [(iv (v4.getD (a0_o + toNat a1) default))]) = flat c3 (v4.set (a0_o + toNat v6) (v4.getD (a0_o + toNat a1) default)) from (flat_setw c3_len (by first | omega | (simp only [Lt]; omega)) (o := 0) (d := default) (Nb rfl) rfl)]; exact flat_setw c3_len (by first | omega | (simp only [Lt]; omega)) (o := 0) (d := default) (Nb rfl) rfl)]
     try rw [show List.length (α := Int) ((v4.set (a0_o + toNat v6) (v4.getD (a0_o + toNat a1) default)).set (a0_o + toNat a1) (v4.getD (a0_o + toNat v6) default)) = v4.length from by first | simp; done | omega]
     exact rtm (t1 ++ [.d h1, .i a1 a0_n, stLw c3_len v4 a0_o a1 0 1, .i v6 a0_n, stLw c3_len v4 a0_o v6 0 1, .i v6 a0_n, .p (show ((0 + a0_o * 1 + toNat v6 * 1) + 1 ≤ (flat c3 v4).length) from (flat_setwl c3_len (by first | omega | (simp only [Lt]; omega)) (o := 0) (Nb rfl))), .i a1 a0_n, .p (show ((0 + a0_o * 1 + toNat a1 * 1) + 1 ≤ (splice (flat c3 v4) (0 + a0_o * 1 + toNat v6 * 1) [(iv (v4.getD (a0_o + toNat a1) default))]).length) from (by rw [show (splice (flat c3 v4) (0 + a0_o * 1 + toNat v6 * 1) [(iv (v4.getD (a0_o + toNat a1) default))]) = flat c3 (v4.set (a0_o + toNat v6) (v4.getD (a0_o + toNat a1) default)) from (flat_setw c3_len (by first | omega | (simp only [Lt]; omega)) (o := 0) (d := default) (Nb rfl) rfl)]; exact flat_setwl c3_len (by first | omega | (simp only [Lt]; omega)) (o := 0) (Nb rfl)))]) [] [0] [] hcx (by kernel_rfl)
    | false =>
     have q1 := odf h1
     have e := Eq.refl (S114_W_b77_1 a0 a0_o a0_n a1 a2 a3 a4 (v4, v5, v6)); conv at e => rhs; simp only [S114_W_b77_1, h0, h1, cdb]
     rw [loopF_s, e]
     refine en (t1 ++ [.d h1, .i v6 a0_n, stLw c3_len v4 a0_o v6 0 1, .i v5 a0_n, stLw c3_len v4 a0_o v5 0 1, .i v5 a0_n, .p (show ((0 + a0_o * 1 + toNat v5 * 1) + 1 ≤ (flat c3 v4).length) from (flat_setwl c3_len (by first | omega | (simp only [Lt]; omega)) (o := 0) (Nb rfl))), .i v6 a0_n, .p (show ((0 + a0_o * 1 + toNat v6 * 1) + 1 ≤ (splice (flat c3 v4) (0 + a0_o * 1 + toNat v5 * 1) [(iv (v4.getD (a0_o + toNat v6) default))]).length) from (by rw [show (splice (flat c3 v4) (0 + a0_o * 1 + toNat v5 * 1) [(iv (v4.getD (a0_o + toNat v6) default))]) = flat c3 (v4.set (a0_o + toNat v5) (v4.getD (a0_o + toNat v6) default)) from (flat_setw c3_len (by first | omega | (simp only [Lt]; omega)) (o := 0) (d := default) (Nb rfl) rfl)]; exact flat_setwl c3_len (by first | omega | (simp only [Lt]; omega)) (o := 0) (Nb rfl)))]) [] [0, 1, 4, 12, 13] [] hcx B114_W_b77_2 (K114_W_b77_2) (st114_W_b77_2 a0 a0_o a0_n a1 a2 a3 a4 (splice (splice (flat c3 v4) (0 + a0_o * 1 + toNat v5 * 1) [(iv (v4.getD (a0_o + toNat v6) default))]) (0 + a0_o * 1 + toNat v6 * 1) [(iv (v4.getD (a0_o + toNat v5) default))]) (v4.length) (W (v5 + 1)) (W (v6 - 1))) (toNat ((W (v6 - 1)) + 2 - (W (v5 + 1))) + 1) (by kernel_rfl) ?_
     have z0 : (splice (splice (flat c3 v4) (0 + a0_o * 1 + toNat v5 * 1) [(iv (v4.getD (a0_o + toNat v6) default))]) (0 + a0_o * 1 + toNat v6 * 1) [(iv (v4.getD (a0_o + toNat v5) default))]) = flat c3 ((v4.set (a0_o + toNat v5) (v4.getD (a0_o + toNat v6) default)).set (a0_o + toNat v6) (v4.getD (a0_o + toNat v5) default)) := (by rw [show (splice (flat c3 v4) (0 + a0_o * 1 + toNat v5 * 1) [(iv (v4.getD (a0_o + toNat v6) default))]) = flat c3 (v4.set (a0_o + toNat v5) (v4.getD (a0_o + toNat v6) default)) from (flat_setw c3_len (by first | omega | (simp only [Lt]; omega)) (o := 0) (d := default) (Nb rfl) rfl)]; exact flat_setw c3_len (by first | omega | (simp only [Lt]; omega)) (o := 0) (d := default) (Nb rfl) rfl)
     have z1 : v4.length = ((v4.set (a0_o + toNat v5) (v4.getD (a0_o + toNat v6) default)).set (a0_o + toNat v6) (v4.getD (a0_o + toNat v5) default)).length := by simp
     rw [z0, z1]
     exact L114_W_b77_2 a0 a0_o a0_n a1 a2 a3 a4 l0 l4_1_1 l4_1_2_2_1 l4_1_2_2_2 hw hr hab hcx (toNat ((W (v6 - 1)) + 2 - (W (v5 + 1))) + 1) ((v4.set (a0_o + toNat v5) (v4.getD (a0_o + toNat v6) default)).set (a0_o + toNat v6) (v4.getD (a0_o + toNat v5) default)) (W (v5 + 1)) (W (v6 - 1)) (by refine ⟨?_, ?_, ?_, ?_, ?_, ?_⟩ <;> first | omega | assumption | exact hi.2.1 | exact hi.2.2.1 | (simp only [Lt]; omega) | exact InR.swap hi.2.1 (by omega) (by omega) | exact InR.swap hr (by omega) (by omega)) (by (try simp only [Ls]); omega)

theorem L114_W_b77_0 (a0 : List (Int)) (a0_o : Nat) (a0_n : Nat) (a1 : Int) (a2 : Int) (a3 : Int) (a4 : TyB × Int) (l0 : a0.length ≤ 9223372036854775807) (l4_1_1 : a4.1.1.length ≤ 9223372036854775807) (l4_1_2_2_1 : a4.1.2.2.1.length ≤ 9223372036854775807) (l4_1_2_2_2 : a4.1.2.2.2.length ≤ 9223372036854775807) (hw : a0_o + a0_n ≤ a0.length ∧ a0.length ≤ 1048576) (hr : InR a4.1.1.length a0) (hab : 0 ≤ a1 ∧ a1 ≤ a3 ∧ a3 < a2 ∧ a2 ≤ ↑a0_n) {cx : Cx} (hcx : cx.base = 4) : ∀ (n : Nat) (v1 : List (Int)) (v2 v3 : Int), (v1.length = a0.length) ∧ (InR a4.1.1.length v1) ∧ (a1 < v2) ∧ (v2 ≤ v3 + 1) ∧ (v3 < a2) → toNat (v3 + 2 - v2) < n → Aw.Good Try.prog none 9 (bodyPost Try.prog Try.f114 (RR cx (.t [(iv (loopF (S114_W_b77_0 a0 a0_o a0_n a1 a2 a3 a4) n (v1, v2, v3)).1), (.v (.bool (loopF (S114_W_b77_0 a0 a0_o a0_n a1 a2 a3 a4) n (v1, v2, v3)).2.1))]) [] [(.live true true (flat c3 (loopF (S114_W_b77_0 a0 a0_o a0_n a1 a2 a3 a4) n (v1, v2, v3)).2.2)), .un, .un, .un])) cx [] (.l B114_W_b77_0 n :: K114_W_b77_0) (st114_W_b77_0 a0 a0_o a0_n a1 a2 a3 a4 (flat c3 v1) v1.length v2 v3) := by
 intro n
 induction n with
 | zero => intro v1 v2 v3 hi hn; exact absurd hn (nlz _)
 | succ n ih =>
   intro v1 v2 v3 hi hn
   refine good_round ?_
   have hw_0 : W (v2 + 1) = v2 + 1 := (W_eq (n := v2 + 1) (by omega) (by omega)).trans (by omega)
   have hw_1 : W (v3 - 1) = v3 - 1 := (W_eq (n := v3 - 1) (by omega) (by omega)).trans (by omega)
   cases h0 : (decide ((v2 : Int) ≤ v3)) with
   | true =>
    have q0 := odt h0
    let t1 : List (St Try.prog) := [.d h0, .i v2 a0_n, stLw c3_len v1 a0_o v2 0 1, .i a1 a0_n, stLw c3_len v1 a0_o a1 0 1, .c [1, 2, 0, 3] (C77 ((a4.1.1, a4.1.2.1, (v1, a4.1.2.2.2)), a4.2) (v1.getD (a0_o + toNat v2) default) (v1.getD (a0_o + toNat a1) default) (by (try simp only [Lt]); omega) (by (try simp only [Lt]); omega) (by (try simp only [Lt]); omega) (hi.2.1.at (by omega)) (hi.2.1.at (by omega)))]
    cases h1 : (decide (((F77 ((a4.1.1, a4.1.2.1, (v1, a4.1.2.2.2)), a4.2) (v1.getD (a0_o + toNat v2) default) (v1.getD (a0_o + toNat a1) default)) : Int) < 0)) with
    | true =>
     have q1 := odt h1
     have e := Eq.refl (S114_W_b77_0 a0 a0_o a0_n a1 a2 a3 a4 (v1, v2, v3)); conv at e => rhs; simp only [S114_W_b77_0, h0, h1, cdb]
     rw [loopF_inl e]
     refine ba (t1 ++ [.d h1]) [] [0, 1, 4, 12, 13] [] hcx (m := n) B114_W_b77_0 (K114_W_b77_0) (st114_W_b77_0 a0 a0_o a0_n a1 a2 a3 a4 (flat c3 v1) (v1.length) (W (v2 + 1)) v3) (by kernel_rfl) ?_
     have z0 : (W (v2 + 1)) = (v2 + 1) := W_eq (by omega) (by omega)
     rw [z0]
     exact ih v1 (v2 + 1) v3 (by refine ⟨?_, ?_, ?_, ?_, ?_⟩ <;> first | omega | assumption | exact hi.2.1 | exact hi.2.2.1 | (simp only [Lt]; omega) | exact InR.swap hi.2.1 (by omega) (by omega) | exact InR.swap hr (by omega) (by omega)) (by (try simp only [Ls]); omega)
    | false =>
     have q1 := odf h1
     have e := Eq.refl (S114_W_b77_0 a0 a0_o a0_n a1 a2 a3 a4 (v1, v2, v3)); conv at e => rhs; simp only [S114_W_b77_0, h0, h1, cdb]
     rw [loopF_s, e]
     refine en (t1 ++ [.d h1]) [] [0, 1, 4, 12, 13] [] hcx B114_W_b77_1 (K114_W_b77_1) (st114_W_b77_1 a0 a0_o a0_n a1 a2 a3 a4 (flat c3 v1) (v1.length) v2 v3) (toNat (v3 + 2 - v2) + 1) (by kernel_rfl) ?_
     exact L114_W_b77_1 a0 a0_o a0_n a1 a2 a3 a4 l0 l4_1_1 l4_1_2_2_1 l4_1_2_2_2 hw hr hab hcx (toNat (v3 + 2 - v2) + 1) v1 v2 v3 (by refine ⟨?_, ?_, ?_, ?_, ?_⟩ <;> first | omega | assumption | exact hi.2.1 | exact hi.2.2.1 | (simp only [Lt]; omega) | exact InR.swap hi.2.1 (by omega) (by omega) | exact InR.swap hr (by omega) (by omega)) (by (try simp only [Ls]); omega)
   | false =>
    have q0 := odf h0
    have e := Eq.refl (S114_W_b77_0 a0 a0_o a0_n a1 a2 a3 a4 (v1, v2, v3)); conv at e => rhs; simp only [S114_W_b77_0, h0, cdb]
    rw [loopF_s, e]
    refine en [.d h0] [] [0, 1, 4, 12, 13] [] hcx B114_W_b77_1 (K114_W_b77_1) (st114_W_b77_1 a0 a0_o a0_n a1 a2 a3 a4 (flat c3 v1) (v1.length) v2 v3) (toNat (v3 + 2 - v2) + 1) (by kernel_rfl) ?_
    exact L114_W_b77_1 a0 a0_o a0_n a1 a2 a3 a4 l0 l4_1_1 l4_1_2_2_1 l4_1_2_2_2 hw hr hab hcx (toNat (v3 + 2 - v2) + 1) v1 v2 v3 (by refine ⟨?_, ?_, ?_, ?_, ?_⟩ <;> first | omega | assumption | exact hi.2.1 | exact hi.2.2.1 | (simp only [Lt]; omega) | exact InR.swap hi.2.1 (by omega) (by omega) | exact InR.swap hr (by omega) (by omega)) (by (try simp only [Ls]); omega)

def F114_W_b77 (a0 : List (Int)) (a0_o : Nat) (a0_n : Nat) (a1 : Int) (a2 : Int) (a3 : Int) (a4 : TyB × Int) : Int × Bool × List (Int) :=
 (loopF (S114_W_b77_0 a0 a0_o a0_n a1 a2 a3 a4) (toNat ((W (a2 - 1)) + 2 - (W (a1 + 1))) + 1) (((a0.set (a0_o + toNat a1) (a0.getD (a0_o + toNat a3) default)).set (a0_o + toNat a3) (a0.getD (a0_o + toNat a1) default)), (W (a1 + 1)), (W (a2 - 1))))

theorem C114_W_b77 (a0 : List (Int)) (a0_o : Nat) (a0_n : Nat) (a1 : Int) (a2 : Int) (a3 : Int) (a4 : TyB × Int) (l0 : a0.length ≤ 9223372036854775807) (l4_1_1 : a4.1.1.length ≤ 9223372036854775807) (l4_1_2_2_1 : a4.1.2.2.1.length ≤ 9223372036854775807) (l4_1_2_2_2 : a4.1.2.2.2.length ≤ 9223372036854775807) (hw : a0_o + a0_n ≤ a0.length ∧ a0.length ≤ 1048576) (hr : InR a4.1.1.length a0) (hab : 0 ≤ a1 ∧ a1 ≤ a3 ∧ a3 < a2 ∧ a2 ≤ ↑a0_n) : Con Try.prog 114 [(.s 0 (0 + a0_o * 1) a0_n 1), (iv a1), (iv a2), (iv a3), (.f 1000077 [(.a [(.p 1 0), (iv a4.2)])])] [(.live true true (flat c3 a0)), (.live false false [(.s 2 0 a4.1.1.length 10), (iv a4.1.2.1), (.s 0 0 a0.length 1), (.s 3 0 a4.1.2.2.2.length 8)]), (.live false true (flat c81 a4.1.1)), (.live false true (flat c40 a4.1.2.2.2))] (.t [(iv (F114_W_b77 a0 a0_o a0_n a1 a2 a3 a4).1), (.v (.bool (F114_W_b77 a0 a0_o a0_n a1 a2 a3 a4).2.1))]) [] [(.live true true (flat c3 (F114_W_b77 a0 a0_o a0_n a1 a2 a3 a4).2.2)), .un, .un, .un] := by
 refine con_s Try.func114 (by kernel_rfl) fun cx hcx => ?_
 have hw_0 : W (a1 + 1) = a1 + 1 := (W_eq (n := a1 + 1) (by omega) (by omega)).trans (by omega)
 have hw_1 : W (a2 - 1) = a2 - 1 := (W_eq (n := a2 - 1) (by omega) (by omega)).trans (by omega)
 have e := Eq.refl (F114_W_b77 a0 a0_o a0_n a1 a2 a3 a4); conv at e => rhs; simp only [F114_W_b77]
 rw [e]
 refine en [.i a3 a0_n, stLw c3_len a0 a0_o a3 0 1, .i a1 a0_n, stLw c3_len a0 a0_o a1 0 1, .i a1 a0_n, .p (show ((0 + a0_o * 1 + toNat a1 * 1) + 1 ≤ (flat c3 a0).length) from (flat_setwl c3_len (by first | omega | (simp only [Lt]; omega)) (o := 0) (Nb rfl))), .i a3 a0_n, .p (show ((0 + a0_o * 1 + toNat a3 * 1) + 1 ≤ (splice (flat c3 a0) (0 + a0_o * 1 + toNat a1 * 1) [(iv (a0.getD (a0_o + toNat a3) default))]).length) from (by rw [show (splice (flat c3 a0) (0 + a0_o * 1 + toNat a1 * 1) [(iv (a0.getD (a0_o + toNat a3) default))]) = flat c3 (a0.set (a0_o + toNat a1) (a0.getD (a0_o + toNat a3) default)) from (flat_setw c3_len (by first | omega | (simp only [Lt]; omega)) (o := 0) (d := default) (Nb rfl) rfl)]; exact flat_setwl c3_len (by first | omega | (simp only [Lt]; omega)) (o := 0) (Nb rfl)))] [] [0, 1, 4, 12, 13] [] hcx B114_W_b77_0 (K114_W_b77_0) (st114_W_b77_0 a0 a0_o a0_n a1 a2 a3 a4 (splice (splice (flat c3 a0) (0 + a0_o * 1 + toNat a1 * 1) [(iv (a0.getD (a0_o + toNat a3) default))]) (0 + a0_o * 1 + toNat a3 * 1) [(iv (a0.getD (a0_o + toNat a1) default))]) (a0.length) (W (a1 + 1)) (W (a2 - 1))) (toNat ((W (a2 - 1)) + 2 - (W (a1 + 1))) + 1) (by kernel_rfl) ?_
 have z0 : (splice (splice (flat c3 a0) (0 + a0_o * 1 + toNat a1 * 1) [(iv (a0.getD (a0_o + toNat a3) default))]) (0 + a0_o * 1 + toNat a3 * 1) [(iv (a0.getD (a0_o + toNat a1) default))]) = flat c3 ((a0.set (a0_o + toNat a1) (a0.getD (a0_o + toNat a3) default)).set (a0_o + toNat a3) (a0.getD (a0_o + toNat a1) default)) := (by rw [show (splice (flat c3 a0) (0 + a0_o * 1 + toNat a1 * 1) [(iv (a0.getD (a0_o + toNat a3) default))]) = flat c3 (a0.set (a0_o + toNat a1) (a0.getD (a0_o + toNat a3) default)) from (flat_setw c3_len (by first | omega | (simp only [Lt]; omega)) (o := 0) (d := default) (Nb rfl) rfl)]; exact flat_setw c3_len (by first | omega | (simp only [Lt]; omega)) (o := 0) (d := default) (Nb rfl) rfl)
 have z1 : a0.length = ((a0.set (a0_o + toNat a1) (a0.getD (a0_o + toNat a3) default)).set (a0_o + toNat a3) (a0.getD (a0_o + toNat a1) default)).length := by simp
 rw [z0, z1]
 exact L114_W_b77_0 a0 a0_o a0_n a1 a2 a3 a4 l0 l4_1_1 l4_1_2_2_1 l4_1_2_2_2 hw hr hab hcx (toNat ((W (a2 - 1)) + 2 - (W (a1 + 1))) + 1) ((a0.set (a0_o + toNat a1) (a0.getD (a0_o + toNat a3) default)).set (a0_o + toNat a3) (a0.getD (a0_o + toNat a1) default)) (W (a1 + 1)) (W (a2 - 1)) (by refine ⟨?_, ?_, ?_, ?_, ?_⟩ <;> first | omega | assumption | exact hi.2.1 | exact hi.2.2.1 | (simp only [Lt]; omega) | exact InR.swap hi.2.1 (by omega) (by omega) | exact InR.swap hr (by omega) (by omega)) (by (try simp only [Ls]); omega)


noncomputable def B113_W_b77_2 : Code := (loopAtD [1, 1, 1, 0, 0, 1, 0] [0] (bodyOf Try.f113) []).1
noncomputable def K113_W_b77_2 (m0 : Nat) : List K := (loopAtD [1, 1, 1, 0, 0, 1, 0] [m0] (bodyOf Try.f113) []).2

def st113_W_b77_2 (a0 : List (Int)) (a0_o : Nat) (a0_n : Nat) (a1 : Int) (a2 : Int) (a3 : Int) (a4 : TyB × Int) (v7c : List SV) (v7n : Nat) (v8 v9 : Int) : LS := ⟨slN 90 [(0, (.s 0 (0 + a0_o * 1) a0_n 1)), (1, (iv a1)), (4, (.f 1000077 [(.a [(.p 1 0), (iv a4.2)])])), (11, (iv v8)), (12, (iv v9))], [(.live true true v7c), (.live false false [(.s 2 0 a4.1.1.length 10), (iv a4.1.2.1), (.s 0 0 v7n 1), (.s 3 0 a4.1.2.2.2.length 8)]), (.live false true (flat c81 a4.1.1)), (.live false true (flat c40 a4.1.2.2.2))]⟩

def S113_W_b77_2 (a0 : List (Int)) (a0_o : Nat) (a0_n : Nat) (a1 : Int) (a2 : Int) (a3 : Int) (a4 : TyB × Int) : List (Int) × Int × Int → (List (Int) × Int × Int) ⊕ ((List (Int) × Int × Int) ⊕ (Int × List (Int)))
 | (v7, v8, v9) =>
  (bif (decide ((v8 : Int) ≤ v9)) then
   (bif (decide (((F77 ((a4.1.1, a4.1.2.1, (v7, a4.1.2.2.2)), a4.2) (v7.getD (a0_o + toNat a1) default) (v7.getD (a0_o + toNat v9) default)) : Int) < 0)) then
    (.inl (v7, v8, (W (v9 - 1))))
   else
    (bif (decide ((v8 : Int) > v9)) then
     (.inr (.inr (v8, v7)))
    else
     (.inr (.inl (((v7.set (a0_o + toNat v8) (v7.getD (a0_o + toNat v9) default)).set (a0_o + toNat v9) (v7.getD (a0_o + toNat v8) default)), (W (v8 + 1)), (W (v9 - 1)))))))
  else
   (bif (decide ((v8 : Int) > v9)) then
    (.inr (.inr (v8, v7)))
   else
    (.inr (.inl (((v7.set (a0_o + toNat v8) (v7.getD (a0_o + toNat v9) default)).set (a0_o + toNat v9) (v7.getD (a0_o + toNat v8) default)), (W (v8 + 1)), (W (v9 - 1)))))))

noncomputable def B113_W_b77_1 : Code := (loopAtD [1, 1, 1, 0, 0, 0] [0] (bodyOf Try.f113) []).1
noncomputable def K113_W_b77_1 (m0 : Nat) : List K := (loopAtD [1, 1, 1, 0, 0, 0] [m0] (bodyOf Try.f113) []).2

def st113_W_b77_1 (a0 : List (Int)) (a0_o : Nat) (a0_n : Nat) (a1 : Int) (a2 : Int) (a3 : Int) (a4 : TyB × Int) (v4c : List SV) (v4n : Nat) (v5 v6 : Int) : LS := ⟨slN 90 [(0, (.s 0 (0 + a0_o * 1) a0_n 1)), (1, (iv a1)), (4, (.f 1000077 [(.a [(.p 1 0), (iv a4.2)])])), (11, (iv v5)), (12, (iv v6))], [(.live true true v4c), (.live false false [(.s 2 0 a4.1.1.length 10), (iv a4.1.2.1), (.s 0 0 v4n 1), (.s 3 0 a4.1.2.2.2.length 8)]), (.live false true (flat c81 a4.1.1)), (.live false true (flat c40 a4.1.2.2.2))]⟩

def S113_W_b77_1 (a0 : List (Int)) (a0_o : Nat) (a0_n : Nat) (a1 : Int) (a2 : Int) (a3 : Int) (a4 : TyB × Int) : List (Int) × Int × Int → (List (Int) × Int × Int) ⊕ ((List (Int) × Int × Int) ⊕ (Int × List (Int)))
 | (v4, v5, v6) =>
  (bif (decide ((v5 : Int) ≤ v6)) then
   (bif (!(decide (((F77 ((a4.1.1, a4.1.2.1, (v4, a4.1.2.2.2)), a4.2) (v4.getD (a0_o + toNat a1) default) (v4.getD (a0_o + toNat v5) default)) : Int) < 0))) then
    (.inl (v4, (v5 + 1), v6))
   else
    (.inr (loopF (S113_W_b77_2 a0 a0_o a0_n a1 a2 a3 a4) (toNat (v6 + 2 - v5) + 1) (v4, v5, v6))))
  else
   (.inr (loopF (S113_W_b77_2 a0 a0_o a0_n a1 a2 a3 a4) (toNat (v6 + 2 - v5) + 1) (v4, v5, v6))))

noncomputable def B113_W_b77_0 : Code := (loopAtD [1, 1, 1, 0] [] (bodyOf Try.f113) []).1
noncomputable def K113_W_b77_0 : List K := (loopAtD [1, 1, 1, 0] [] (bodyOf Try.f113) []).2

def st113_W_b77_0 (a0 : List (Int)) (a0_o : Nat) (a0_n : Nat) (a1 : Int) (a2 : Int) (a3 : Int) (a4 : TyB × Int) (v1c : List SV) (v1n : Nat) (v2 v3 : Int) : LS := ⟨slN 90 [(0, (.s 0 (0 + a0_o * 1) a0_n 1)), (1, (iv a1)), (4, (.f 1000077 [(.a [(.p 1 0), (iv a4.2)])])), (11, (iv v2)), (12, (iv v3))], [(.live true true v1c), (.live false false [(.s 2 0 a4.1.1.length 10), (iv a4.1.2.1), (.s 0 0 v1n 1), (.s 3 0 a4.1.2.2.2.length 8)]), (.live false true (flat c81 a4.1.1)), (.live false true (flat c40 a4.1.2.2.2))]⟩

def S113_W_b77_0 (a0 : List (Int)) (a0_o : Nat) (a0_n : Nat) (a1 : Int) (a2 : Int) (a3 : Int) (a4 : TyB × Int) : List (Int) × Int × Int → (List (Int) × Int × Int) ⊕ (Int × List (Int))
 | (v1, v2, v3) =>
  (loopF (S113_W_b77_1 a0 a0_o a0_n a1 a2 a3 a4) (toNat (v3 + 2 - v2) + 1) (v1, v2, v3))

theorem L113_W_b77_2 (a0 : List (Int)) (a0_o : Nat) (a0_n : Nat) (a1 : Int) (a2 : Int) (a3 : Int) (a4 : TyB × Int) (l0 : a0.length ≤ 9223372036854775807) (l4_1_1 : a4.1.1.length ≤ 9223372036854775807) (l4_1_2_2_1 : a4.1.2.2.1.length ≤ 9223372036854775807) (l4_1_2_2_2 : a4.1.2.2.2.length ≤ 9223372036854775807) (hw : a0_o + a0_n ≤ a0.length ∧ a0.length ≤ 1048576) (hr : InR a4.1.1.length a0) (hab : 0 ≤ a1 ∧ a1 ≤ a3 ∧ a3 < a2 ∧ a2 ≤ ↑a0_n) {cx : Cx} (hcx : cx.base = 4)
   (n0 : Nat) (g0 : ∀ (v1 : List (Int)) (v2 v3 : Int), (v1.length = a0.length) ∧ (InR a4.1.1.length v1) ∧ (a1 < v2) ∧ (v2 ≤ v3 + 2) ∧ (v3 < a2) ∧ (a1 ≤ v3) → toNat (v3 + 2 - v2) < n0 → Aw.Good Try.prog none 9 (bodyPost Try.prog Try.f113 (RR cx (iv (loopF (S113_W_b77_0 a0 a0_o a0_n a1 a2 a3 a4) n0 (v1, v2, v3)).1) [] [(.live true true (flat c3 (loopF (S113_W_b77_0 a0 a0_o a0_n a1 a2 a3 a4) n0 (v1, v2, v3)).2)), .un, .un, .un])) cx [] (.l B113_W_b77_0 n0 :: K113_W_b77_0) (st113_W_b77_0 a0 a0_o a0_n a1 a2 a3 a4 (flat c3 v1) v1.length v2 v3)) : ∀ (n : Nat) (v7 : List (Int)) (v8 v9 : Int), (v7.length = a0.length) ∧ (InR a4.1.1.length v7) ∧ (a1 < v8) ∧ (v8 ≤ v9 + 2) ∧ (v9 < a2) ∧ (a1 ≤ v9) ∧ ((v7.length = a0.length)) ∧ ((InR a4.1.1.length v7)) ∧ ((a1 < v8)) ∧ ((v8 ≤ v9 + 2)) ∧ ((v9 < a2)) ∧ ((a1 ≤ v9)) ∧ (toNat (v9 + 2 - v8) < n0 + 1) → toNat (v9 + 2 - v8) < n → Aw.Good Try.prog none 9 (bodyPost Try.prog Try.f113 (RR cx (iv (thenF (S113_W_b77_0 a0 a0_o a0_n a1 a2 a3 a4) n0 (loopF (S113_W_b77_2 a0 a0_o a0_n a1 a2 a3 a4) n (v7, v8, v9))).1) [] [(.live true true (flat c3 (thenF (S113_W_b77_0 a0 a0_o a0_n a1 a2 a3 a4) n0 (loopF (S113_W_b77_2 a0 a0_o a0_n a1 a2 a3 a4) n (v7, v8, v9))).2)), .un, .un, .un])) cx [] (.l B113_W_b77_2 n :: K113_W_b77_2 n0) (st113_W_b77_2 a0 a0_o a0_n a1 a2 a3 a4 (flat c3 v7) v7.length v8 v9) := by
 intro n
 induction n with
 | zero => intro v7 v8 v9 hi hn; exact absurd hn (nlz _)
 | succ n ih =>
   intro v7 v8 v9 hi hn
   refine good_round ?_
   have hw_0 : W (v8 + 1) = v8 + 1 := (W_eq (n := v8 + 1) (by omega) (by omega)).trans (by omega)
   have hw_1 : W (v9 - 1) = v9 - 1 := (W_eq (n := v9 - 1) (by omega) (by omega)).trans (by omega)
   cases h0 : (decide ((v8 : Int) ≤ v9)) with
   | true =>
    have q0 := odt h0
    let t1 : List (St Try.prog) := [.d h0, .i a1 a0_n, stLw c3_len v7 a0_o a1 0 1, .i v9 a0_n, stLw c3_len v7 a0_o v9 0 1, .c [1, 2, 0, 3] (C77 ((a4.1.1, a4.1.2.1, (v7, a4.1.2.2.2)), a4.2) (v7.getD (a0_o + toNat a1) default) (v7.getD (a0_o + toNat v9) default) (by (try simp only [Lt]); omega) (by (try simp only [Lt]); omega) (by (try simp only [Lt]); omega) (hi.2.1.at (by omega)) (hi.2.1.at (by omega)))]
    cases h1 : (decide (((F77 ((a4.1.1, a4.1.2.1, (v7, a4.1.2.2.2)), a4.2) (v7.getD (a0_o + toNat a1) default) (v7.getD (a0_o + toNat v9) default)) : Int) < 0)) with
    | true =>
     have q1 := odt h1
     have e := Eq.refl (S113_W_b77_2 a0 a0_o a0_n a1 a2 a3 a4 (v7, v8, v9)); conv at e => rhs; simp only [S113_W_b77_2, h0, h1, cdb]
     rw [loopF_inl e]
     refine ba (t1 ++ [.d h1]) [] [0, 1, 4, 11, 12] [] hcx (m := n) B113_W_b77_2 (K113_W_b77_2 n0) (st113_W_b77_2 a0 a0_o a0_n a1 a2 a3 a4 (flat c3 v7) (v7.length) v8 (W (v9 - 1))) (by kernel_rfl) ?_
     exact ih v7 v8 (W (v9 - 1)) (by refine ⟨?_, ?_, ?_, ?_, ?_, ?_, ?_, ?_, ?_, ?_, ?_, ?_, ?_⟩ <;> first | omega | assumption | exact hi.2.1 | exact hi.2.2.1 | (simp only [Lt]; omega) | exact InR.swap hi.2.1 (by omega) (by omega) | exact InR.swap hr (by omega) (by omega)) (by (try simp only [Ls]); omega)
    | false =>
     have q1 := odf h1
     let t2 : List (St Try.prog) := (t1 ++ [.d h1])
     cases h2 : (decide ((v8 : Int) > v9)) with
     | true =>
      have q2 := odt h2
      have e := Eq.refl (S113_W_b77_2 a0 a0_o a0_n a1 a2 a3 a4 (v7, v8, v9)); conv at e => rhs; simp only [S113_W_b77_2, h0, h1, h2, cdb]
      rw [loopF_s, e]
      try dsimp only [thenF]
      try dsimp only
      exact rtm (t2 ++ [.d h2]) [] [0] [] hcx (by kernel_rfl)
     | false =>
      have q2 := odf h2
      have e := Eq.refl (S113_W_b77_2 a0 a0_o a0_n a1 a2 a3 a4 (v7, v8, v9)); conv at e => rhs; simp only [S113_W_b77_2, h0, h1, h2, cdb]
      rw [loopF_s, e]
      refine ba (t2 ++ [.d h2, .i v9 a0_n, stLw c3_len v7 a0_o v9 0 1, .i v8 a0_n, stLw c3_len v7 a0_o v8 0 1, .i v8 a0_n, .p (show ((0 + a0_o * 1 + toNat v8 * 1) + 1 ≤ (flat c3 v7).length) from (flat_setwl c3_len (by first | omega | (simp only [Lt]; omega)) (o := 0) (Nb rfl))), .i v9 a0_n, .p (show ((0 + a0_o * 1 + toNat v9 * 1) + 1 ≤ (splice (flat c3 v7) (0 + a0_o * 1 + toNat v8 * 1) [(iv (v7.getD (a0_o + toNat v9) default))]).length) from (by rw [show (splice (flat c3 v7) (0 + a0_o * 1 + toNat v8 * 1) [(iv (v7.getD (a0_o + toNat v9) default))]) = flat c3 (v7.set (a0_o + toNat v8) (v7.getD (a0_o + toNat v9) default)) from (flat_setw c3_len (by first | omega | (simp only [Lt]; omega)) (o := 0) (d := default) (Nb rfl) rfl)]; exact flat_setwl c3_len (by first | omega | (simp only [Lt]; omega)) (o := 0) (Nb rfl)))]) [] [0, 1, 4, 11, 12] [] hcx (m := n0) B113_W_b77_0 (K113_W_b77_0) (st113_W_b77_0 a0 a0_o a0_n a1 a2 a3 a4 (splice (splice (flat c3 v7) (0 + a0_o * 1 + toNat v8 * 1) [(iv (v7.getD (a0_o + toNat v9) default))]) (0 + a0_o * 1 + toNat v9 * 1) [(iv (v7.getD (a0_o + toNat v8) default))]) (v7.length) (W (v8 + 1)) (W (v9 - 1))) (by kernel_rfl) ?_
      have z0 : (splice (splice (flat c3 v7) (0 + a0_o * 1 + toNat v8 * 1) [(iv (v7.getD (a0_o + toNat v9) default))]) (0 + a0_o * 1 + toNat v9 * 1) [(iv (v7.getD (a0_o + toNat v8) default))]) = flat c3 ((v7.set (a0_o + toNat v8) (v7.getD (a0_o + toNat v9) default)).set (a0_o + toNat v9) (v7.getD (a0_o + toNat v8) default)) := (by rw [show (splice (flat c3 v7) (0 + a0_o * 1 + toNat v8 * 1) [(iv (v7.getD (a0_o + toNat v9) default))]) = flat c3 (v7.set (a0_o + toNat v8) (v7.getD (a0_o + toNat v9) default)) from (flat_setw c3_len (by first | omega | (simp only [Lt]; omega)) (o := 0) (d := default) (Nb rfl) rfl)]; exact flat_setw c3_len (by first | omega | (simp only [Lt]; omega)) (o := 0) (d := default) (Nb rfl) rfl)
      have z1 : v7.length = ((v7.set (a0_o + toNat v8) (v7.getD (a0_o + toNat v9) default)).set (a0_o + toNat v9) (v7.getD (a0_o + toNat v8) default)).length := by simp
      rw [z0, z1]
      exact g0 ((v7.set (a0_o + toNat v8) (v7.getD (a0_o + toNat v9) default)).set (a0_o + toNat v9) (v7.getD (a0_o + toNat v8) default)) (W (v8 + 1)) (W (v9 - 1)) (by refine ⟨?_, ?_, ?_, ?_, ?_, ?_⟩ <;> first | omega | assumption | exact hi.2.1 | exact hi.2.2.1 | (simp only [Lt]; omega) | exact InR.swap hi.2.1 (by omega) (by omega) | exact InR.swap hr (by omega) (by omega)) (by (try simp only [Ls]); omega)
   | false =>
    have q0 := odf h0
    let t1 : List (St Try.prog) := [.d h0]
    cases h1 : (decide ((v8 : Int) > v9)) with
    | true =>
     have q1 := odt h1
     have e := Eq.refl (S113_W_b77_2 a0 a0_o a0_n a1 a2 a3 a4 (v7, v8, v9)); conv at e => rhs; simp only [S113_W_b77_2, h0, h1, cdb]
     rw [loopF_s, e]
     try dsimp only [thenF]
     try dsimp only
     exact rtm (t1 ++ [.d h1]) [] [0] [] hcx (by kernel_rfl)
    | false =>
     have q1 := odf h1
     have e := Eq.refl (S113_W_b77_2 a0 a0_o a0_n a1 a2 a3 a4 (v7, v8, v9)); conv at e => rhs; simp only [S113_W_b77_2, h0, h1, cdb]
     rw [loopF_s, e]
     refine ba (t1 ++ [.d h1, .i v9 a0_n, stLw c3_len v7 a0_o v9 0 1, .i v8 a0_n, stLw c3_len v7 a0_o v8 0 1, .i v8 a0_n, .p (show ((0 + a0_o * 1 + toNat v8 * 1) + 1 ≤ (flat c3 v7).length) from (flat_setwl c3_len (by first | omega | (simp only [Lt]; omega)) (o := 0) (Nb rfl))), .i v9 a0_n, .p (show ((0 + a0_o * 1 + toNat v9 * 1) + 1 ≤ (splice (flat c3 v7) (0 + a0_o * 1 + toNat v8 * 1) [(iv (v7.getD (a0_o + toNat v9) default))]).length) from (by rw [show (splice (flat c3 v7) (0 + a0_o * 1 + toNat v8 * 1) [(iv (v7.getD (a0_o + toNat v9) default))]) = flat c3 (v7.set (a0_o + toNat v8) (v7.getD (a0_o + toNat v9) default)) from (flat_setw c3_len (by first | omega | (simp only [Lt]; omega)) (o := 0) (d := default) (Nb rfl) rfl)]; exact flat_setwl c3_len (by first | omega | (simp only [Lt]; omega)) (o := 0) (Nb rfl)))]) [] [0, 1, 4, 11, 12] [] hcx (m := n0) B113_W_b77_0 (K113_W_b77_0) (st113_W_b77_0 a0 a0_o a0_n a1 a2 a3 a4 (splice (splice (flat c3 v7) (0 + a0_o * 1 + toNat v8 * 1) [(iv (v7.getD (a0_o + toNat v9) default))]) (0 + a0_o * 1 + toNat v9 * 1) [(iv (v7.getD (a0_o + toNat v8) default))]) (v7.length) (W (v8 + 1)) (W (v9 - 1))) (by kernel_rfl) ?_
     have z0 : (splice (splice (flat c3 v7) (0 + a0_o * 1 + toNat v8 * 1) [(iv (v7.getD (a0_o + toNat v9) default))]) (0 + a0_o * 1 + toNat v9 * 1) [(iv (v7.getD (a0_o + toNat v8) default))]) = flat c3 ((v7.set (a0_o + toNat v8) (v7.getD (a0_o + toNat v9) default)).set (a0_o + toNat v9) (v7.getD (a0_o + toNat v8) default)) := (by rw [show (splice (flat c3 v7) (0 + a0_o * 1 + toNat v8 * 1) [(iv (v7.getD (a0_o + toNat v9) default))]) = flat c3 (v7.set (a0_o + toNat v8) (v7.getD (a0_o + toNat v9) default)) from (flat_setw c3_len (by first | omega | (simp only [Lt]; omega)) (o := 0) (d := default) (Nb rfl) rfl)]; exact flat_setw c3_len (by first | omega | (simp only [Lt]; omega)) (o := 0) (d := default) (Nb rfl) rfl)
     have z1 : v7.length = ((v7.set (a0_o + toNat v8) (v7.getD (a0_o + toNat v9) default)).set (a0_o + toNat v9) (v7.getD (a0_o + toNat v8) default)).length := by simp
     rw [z0, z1]
     exact g0 ((v7.set (a0_o + toNat v8) (v7.getD (a0_o + toNat v9) default)).set (a0_o + toNat v9) (v7.getD (a0_o + toNat v8) default)) (W (v8 + 1)) (W (v9 - 1)) (by refine ⟨?_, ?_, ?_, ?_, ?_, ?_⟩ <;> first | omega | assumption | exact hi.2.1 | exact hi.2.2.1 | (simp only [Lt]; omega) | exact InR.swap hi.2.1 (by omega) (by omega) | exact InR.swap hr (by omega) (by omega)) (by (try simp only [Ls]); omega)

theorem L113_W_b77_1 (a0 : List (Int)) (a0_o : Nat) (a0_n : Nat) (a1 : Int) (a2 : Int) (a3 : Int) (a4 : TyB × Int) (l0 : a0.length ≤ 9223372036854775807) (l4_1_1 : a4.1.1.length ≤ 9223372036854775807) (l4_1_2_2_1 : a4.1.2.2.1.length ≤ 9223372036854775807) (l4_1_2_2_2 : a4.1.2.2.2.length ≤ 9223372036854775807) (hw : a0_o + a0_n ≤ a0.length ∧ a0.length ≤ 1048576) (hr : InR a4.1.1.length a0) (hab : 0 ≤ a1 ∧ a1 ≤ a3 ∧ a3 < a2 ∧ a2 ≤ ↑a0_n) {cx : Cx} (hcx : cx.base = 4)
   (n0 : Nat) (g0 : ∀ (v1 : List (Int)) (v2 v3 : Int), (v1.length = a0.length) ∧ (InR a4.1.1.length v1) ∧ (a1 < v2) ∧ (v2 ≤ v3 + 2) ∧ (v3 < a2) ∧ (a1 ≤ v3) → toNat (v3 + 2 - v2) < n0 → Aw.Good Try.prog none 9 (bodyPost Try.prog Try.f113 (RR cx (iv (loopF (S113_W_b77_0 a0 a0_o a0_n a1 a2 a3 a4) n0 (v1, v2, v3)).1) [] [(.live true true (flat c3 (loopF (S113_W_b77_0 a0 a0_o a0_n a1 a2 a3 a4) n0 (v1, v2, v3)).2)), .un, .un, .un])) cx [] (.l B113_W_b77_0 n0 :: K113_W_b77_0) (st113_W_b77_0 a0 a0_o a0_n a1 a2 a3 a4 (flat c3 v1) v1.length v2 v3)) : ∀ (n : Nat) (v4 : List (Int)) (v5 v6 : Int), (v4.length = a0.length) ∧ (InR a4.1.1.length v4) ∧ (a1 < v5) ∧ (v5 ≤ v6 + 2) ∧ (v6 < a2) ∧ (a1 ≤ v6) ∧ ((v4.length = a0.length)) ∧ ((InR a4.1.1.length v4)) ∧ ((a1 < v5)) ∧ ((v5 ≤ v6 + 2)) ∧ ((v6 < a2)) ∧ ((a1 ≤ v6)) ∧ (toNat (v6 + 2 - v5) < n0 + 1) → toNat (v6 + 2 - v5) < n → Aw.Good Try.prog none 9 (bodyPost Try.prog Try.f113 (RR cx (iv (thenF (S113_W_b77_0 a0 a0_o a0_n a1 a2 a3 a4) n0 (loopF (S113_W_b77_1 a0 a0_o a0_n a1 a2 a3 a4) n (v4, v5, v6))).1) [] [(.live true true (flat c3 (thenF (S113_W_b77_0 a0 a0_o a0_n a1 a2 a3 a4) n0 (loopF (S113_W_b77_1 a0 a0_o a0_n a1 a2 a3 a4) n (v4, v5, v6))).2)), .un, .un, .un])) cx [] (.l B113_W_b77_1 n :: K113_W_b77_1 n0) (st113_W_b77_1 a0 a0_o a0_n a1 a2 a3 a4 (flat c3 v4) v4.length v5 v6) := by
 intro n
 induction n with
 | zero => intro v4 v5 v6 hi hn; exact absurd hn (nlz _)
 | succ n ih =>
   intro v4 v5 v6 hi hn
   refine good_round ?_
   have hw_0 : W (v5 + 1) = v5 + 1 := (W_eq (n := v5 + 1) (by omega) (by omega)).trans (by omega)
   have hw_1 : W (v6 - 1) = v6 - 1 := (W_eq (n := v6 - 1) (by omega) (by omega)).trans (by omega)
   cases h0 : (decide ((v5 : Int) ≤ v6)) with
   | true =>
    have q0 := odt h0
    let t1 : List (St Try.prog) := [.d h0, .i a1 a0_n, stLw c3_len v4 a0_o a1 0 1, .i v5 a0_n, stLw c3_len v4 a0_o v5 0 1, .c [1, 2, 0, 3] (C77 ((a4.1.1, a4.1.2.1, (v4, a4.1.2.2.2)), a4.2) (v4.getD (a0_o + toNat a1) default) (v4.getD (a0_o + toNat v5) default) (by (try simp only [Lt]); omega) (by (try simp only [Lt]); omega) (by (try simp only [Lt]); omega) (hi.2.1.at (by omega)) (hi.2.1.at (by omega)))]
    cases h1 : (!(decide (((F77 ((a4.1.1, a4.1.2.1, (v4, a4.1.2.2.2)), a4.2) (v4.getD (a0_o + toNat a1) default) (v4.getD (a0_o + toNat v5) default)) : Int) < 0))) with
    | true =>
     have e := Eq.refl (S113_W_b77_1 a0 a0_o a0_n a1 a2 a3 a4 (v4, v5, v6)); conv at e => rhs; simp only [S113_W_b77_1, h0, h1, cdb]
     rw [loopF_inl e]
     refine ba (t1 ++ [.d h1]) [] [0, 1, 4, 11, 12] [] hcx (m := n) B113_W_b77_1 (K113_W_b77_1 n0) (st113_W_b77_1 a0 a0_o a0_n a1 a2 a3 a4 (flat c3 v4) (v4.length) (W (v5 + 1)) v6) (by kernel_rfl) ?_
     have z0 : (W (v5 + 1)) = (v5 + 1) := W_eq (by omega) (by omega)
     rw [z0]
     exact ih v4 (v5 + 1) v6 (by refine ⟨?_, ?_, ?_, ?_, ?_, ?_, ?_, ?_, ?_, ?_, ?_, ?_, ?_⟩ <;> first | omega | assumption | exact hi.2.1 | exact hi.2.2.1 | (simp only [Lt]; omega) | exact InR.swap hi.2.1 (by omega) (by omega) | exact InR.swap hr (by omega) (by omega)) (by (try simp only [Ls]); omega)
    | false =>
     have e := Eq.refl (S113_W_b77_1 a0 a0_o a0_n a1 a2 a3 a4 (v4, v5, v6)); conv at e => rhs; simp only [S113_W_b77_1, h0, h1, cdb]
     rw [loopF_s, e]
     refine en (t1 ++ [.d h1]) [] [0, 1, 4, 11, 12] [] hcx B113_W_b77_2 (K113_W_b77_2 n0) (st113_W_b77_2 a0 a0_o a0_n a1 a2 a3 a4 (flat c3 v4) (v4.length) v5 v6) (toNat (v6 + 2 - v5) + 1) (by kernel_rfl) ?_
     exact L113_W_b77_2 a0 a0_o a0_n a1 a2 a3 a4 l0 l4_1_1 l4_1_2_2_1 l4_1_2_2_2 hw hr hab hcx n0 g0 (toNat (v6 + 2 - v5) + 1) v4 v5 v6 (by refine ⟨?_, ?_, ?_, ?_, ?_, ?_, ?_, ?_, ?_, ?_, ?_, ?_, ?_⟩ <;> first | omega | assumption | exact hi.2.1 | exact hi.2.2.1 | (simp only [Lt]; omega) | exact InR.swap hi.2.1 (by omega) (by omega) | exact InR.swap hr (by omega) (by omega)) (by (try simp only [Ls]); omega)
   | false =>
    have q0 := odf h0
    have e := Eq.refl (S113_W_b77_1 a0 a0_o a0_n a1 a2 a3 a4 (v4, v5, v6)); conv at e => rhs; simp only [S113_W_b77_1, h0, cdb]
    rw [loopF_s, e]
    refine en [.d h0] [] [0, 1, 4, 11, 12] [] hcx B113_W_b77_2 (K113_W_b77_2 n0) (st113_W_b77_2 a0 a0_o a0_n a1 a2 a3 a4 (flat c3 v4) (v4.length) v5 v6) (toNat (v6 + 2 - v5) + 1) (by kernel_rfl) ?_
    exact L113_W_b77_2 a0 a0_o a0_n a1 a2 a3 a4 l0 l4_1_1 l4_1_2_2_1 l4_1_2_2_2 hw hr hab hcx n0 g0 (toNat (v6 + 2 - v5) + 1) v4 v5 v6 (by refine ⟨?_, ?_, ?_, ?_, ?_, ?_, ?_, ?_, ?_, ?_, ?_, ?_, ?_⟩ <;> first | omega | assumption | exact hi.2.1 | exact hi.2.2.1 | (simp only [Lt]; omega) | exact InR.swap hi.2.1 (by omega) (by omega) | exact InR.swap hr (by omega) (by omega)) (by (try simp only [Ls]); omega)

theorem L113_W_b77_0 (a0 : List (Int)) (a0_o : Nat) (a0_n : Nat) (a1 : Int) (a2 : Int) (a3 : Int) (a4 : TyB × Int) (l0 : a0.length ≤ 9223372036854775807) (l4_1_1 : a4.1.1.length ≤ 9223372036854775807) (l4_1_2_2_1 : a4.1.2.2.1.length ≤ 9223372036854775807) (l4_1_2_2_2 : a4.1.2.2.2.length ≤ 9223372036854775807) (hw : a0_o + a0_n ≤ a0.length ∧ a0.length ≤ 1048576) (hr : InR a4.1.1.length a0) (hab : 0 ≤ a1 ∧ a1 ≤ a3 ∧ a3 < a2 ∧ a2 ≤ ↑a0_n) {cx : Cx} (hcx : cx.base = 4) : ∀ (n : Nat) (v1 : List (Int)) (v2 v3 : Int), (v1.length = a0.length) ∧ (InR a4.1.1.length v1) ∧ (a1 < v2) ∧ (v2 ≤ v3 + 2) ∧ (v3 < a2) ∧ (a1 ≤ v3) → toNat (v3 + 2 - v2) < n → Aw.Good Try.prog none 9 (bodyPost Try.prog Try.f113 (RR cx (iv (loopF (S113_W_b77_0 a0 a0_o a0_n a1 a2 a3 a4) n (v1, v2, v3)).1) [] [(.live true true (flat c3 (loopF (S113_W_b77_0 a0 a0_o a0_n a1 a2 a3 a4) n (v1, v2, v3)).2)), .un, .un, .un])) cx [] (.l B113_W_b77_0 n :: K113_W_b77_0) (st113_W_b77_0 a0 a0_o a0_n a1 a2 a3 a4 (flat c3 v1) v1.length v2 v3) := by
 intro n
 induction n with
 | zero => intro v1 v2 v3 hi hn; exact absurd hn (nlz _)
 | succ n ih =>
   intro v1 v2 v3 hi hn
   refine good_round ?_
   have hw_0 : W (v2 + 1) = v2 + 1 := (W_eq (n := v2 + 1) (by omega) (by omega)).trans (by omega)
   have hw_1 : W (v3 - 1) = v3 - 1 := (W_eq (n := v3 - 1) (by omega) (by omega)).trans (by omega)
   have e := Eq.refl (S113_W_b77_0 a0 a0_o a0_n a1 a2 a3 a4 (v1, v2, v3)); conv at e => rhs; simp only [S113_W_b77_0]
   rw [loopF_s, e]
   refine en [] [] [0, 1, 4, 11, 12] [] hcx B113_W_b77_1 (K113_W_b77_1 n) (st113_W_b77_1 a0 a0_o a0_n a1 a2 a3 a4 (flat c3 v1) (v1.length) v2 v3) (toNat (v3 + 2 - v2) + 1) (by kernel_rfl) ?_
   exact L113_W_b77_1 a0 a0_o a0_n a1 a2 a3 a4 l0 l4_1_1 l4_1_2_2_1 l4_1_2_2_2 hw hr hab hcx n ih (toNat (v3 + 2 - v2) + 1) v1 v2 v3 (by refine ⟨?_, ?_, ?_, ?_, ?_, ?_, ?_, ?_, ?_, ?_, ?_, ?_, ?_⟩ <;> first | omega | assumption | exact hi.2.1 | exact hi.2.2.1 | (simp only [Lt]; omega) | exact InR.swap hi.2.1 (by omega) (by omega) | exact InR.swap hr (by omega) (by omega)) (by (try simp only [Ls]); omega)

def F113_W_b77 (a0 : List (Int)) (a0_o : Nat) (a0_n : Nat) (a1 : Int) (a2 : Int) (a3 : Int) (a4 : TyB × Int) : Int × List (Int) :=
 (loopF (S113_W_b77_0 a0 a0_o a0_n a1 a2 a3 a4) (toNat ((W (a2 - 1)) + 2 - (W (a1 + 1))) + 1) (((a0.set (a0_o + toNat a1) (a0.getD (a0_o + toNat a3) default)).set (a0_o + toNat a3) (a0.getD (a0_o + toNat a1) default)), (W (a1 + 1)), (W (a2 - 1))))

theorem C113_W_b77 (a0 : List (Int)) (a0_o : Nat) (a0_n : Nat) (a1 : Int) (a2 : Int) (a3 : Int) (a4 : TyB × Int) (l0 : a0.length ≤ 9223372036854775807) (l4_1_1 : a4.1.1.length ≤ 9223372036854775807) (l4_1_2_2_1 : a4.1.2.2.1.length ≤ 9223372036854775807) (l4_1_2_2_2 : a4.1.2.2.2.length ≤ 9223372036854775807) (hw : a0_o + a0_n ≤ a0.length ∧ a0.length ≤ 1048576) (hr : InR a4.1.1.length a0) (hab : 0 ≤ a1 ∧ a1 ≤ a3 ∧ a3 < a2 ∧ a2 ≤ ↑a0_n) : Con Try.prog 113 [(.s 0 (0 + a0_o * 1) a0_n 1), (iv a1), (iv a2), (iv a3), (.f 1000077 [(.a [(.p 1 0), (iv a4.2)])])] [(.live true true (flat c3 a0)), (.live false false [(.s 2 0 a4.1.1.length 10), (iv a4.1.2.1), (.s 0 0 a0.length 1), (.s 3 0 a4.1.2.2.2.length 8)]), (.live false true (flat c81 a4.1.1)), (.live false true (flat c40 a4.1.2.2.2))] (iv (F113_W_b77 a0 a0_o a0_n a1 a2 a3 a4).1) [] [(.live true true (flat c3 (F113_W_b77 a0 a0_o a0_n a1 a2 a3 a4).2)), .un, .un, .un] := by
 refine con_s Try.func113 (by kernel_rfl) fun cx hcx => ?_
 have hw_0 : W (a1 + 1) = a1 + 1 := (W_eq (n := a1 + 1) (by omega) (by omega)).trans (by omega)
 have hw_1 : W (a2 - 1) = a2 - 1 := (W_eq (n := a2 - 1) (by omega) (by omega)).trans (by omega)
 have e := Eq.refl (F113_W_b77 a0 a0_o a0_n a1 a2 a3 a4); conv at e => rhs; simp only [F113_W_b77]
 rw [e]
 refine en [.i a3 a0_n, stLw c3_len a0 a0_o a3 0 1, .i a1 a0_n, stLw c3_len a0 a0_o a1 0 1, .i a1 a0_n, .p (show ((0 + a0_o * 1 + toNat a1 * 1) + 1 ≤ (flat c3 a0).length) from (flat_setwl c3_len (by first | omega | (simp only [Lt]; omega)) (o := 0) (Nb rfl))), .i a3 a0_n, .p (show ((0 + a0_o * 1 + toNat a3 * 1) + 1 ≤ (splice (flat c3 a0) (0 + a0_o * 1 + toNat a1 * 1) [(iv (a0.getD (a0_o + toNat a3) default))]).length) from (by rw [show (splice (flat c3 a0) (0 + a0_o * 1 + toNat a1 * 1) [(iv (a0.getD (a0_o + toNat a3) default))]) = flat c3 (a0.set (a0_o + toNat a1) (a0.getD (a0_o + toNat a3) default)) from (flat_setw c3_len (by first | omega | (simp only [Lt]; omega)) (o := 0) (d := default) (Nb rfl) rfl)]; exact flat_setwl c3_len (by first | omega | (simp only [Lt]; omega)) (o := 0) (Nb rfl)))] [] [0, 1, 4, 11, 12] [] hcx B113_W_b77_0 (K113_W_b77_0) (st113_W_b77_0 a0 a0_o a0_n a1 a2 a3 a4 (splice (splice (flat c3 a0) (0 + a0_o * 1 + toNat a1 * 1) [(iv (a0.getD (a0_o + toNat a3) default))]) (0 + a0_o * 1 + toNat a3 * 1) [(iv (a0.getD (a0_o + toNat a1) default))]) (a0.length) (W (a1 + 1)) (W (a2 - 1))) (toNat ((W (a2 - 1)) + 2 - (W (a1 + 1))) + 1) (by kernel_rfl) ?_
 have z0 : (splice (splice (flat c3 a0) (0 + a0_o * 1 + toNat a1 * 1) [(iv (a0.getD (a0_o + toNat a3) default))]) (0 + a0_o * 1 + toNat a3 * 1) [(iv (a0.getD (a0_o + toNat a1) default))]) = flat c3 ((a0.set (a0_o + toNat a1) (a0.getD (a0_o + toNat a3) default)).set (a0_o + toNat a3) (a0.getD (a0_o + toNat a1) default)) := (by rw [show (splice (flat c3 a0) (0 + a0_o * 1 + toNat a1 * 1) [(iv (a0.getD (a0_o + toNat a3) default))]) = flat c3 (a0.set (a0_o + toNat a1) (a0.getD (a0_o + toNat a3) default)) from (flat_setw c3_len (by first | omega | (simp only [Lt]; omega)) (o := 0) (d := default) (Nb rfl) rfl)]; exact flat_setw c3_len (by first | omega | (simp only [Lt]; omega)) (o := 0) (d := default) (Nb rfl) rfl)
 have z1 : a0.length = ((a0.set (a0_o + toNat a1) (a0.getD (a0_o + toNat a3) default)).set (a0_o + toNat a3) (a0.getD (a0_o + toNat a1) default)).length := by simp
 rw [z0, z1]
 exact L113_W_b77_0 a0 a0_o a0_n a1 a2 a3 a4 l0 l4_1_1 l4_1_2_2_1 l4_1_2_2_2 hw hr hab hcx (toNat ((W (a2 - 1)) + 2 - (W (a1 + 1))) + 1) ((a0.set (a0_o + toNat a1) (a0.getD (a0_o + toNat a3) default)).set (a0_o + toNat a3) (a0.getD (a0_o + toNat a1) default)) (W (a1 + 1)) (W (a2 - 1)) (by refine ⟨?_, ?_, ?_, ?_, ?_, ?_⟩ <;> first | omega | assumption | exact hi.2.1 | exact hi.2.2.1 | (simp only [Lt]; omega) | exact InR.swap hi.2.1 (by omega) (by omega) | exact InR.swap hr (by omega) (by omega)) (by (try simp only [Ls]); omega)


noncomputable def B112_W_b77_3 : Code := (loopAtD [1, 1, 0, 1, 0, 1, 0, 1, 1, 1, 1, 1, 1, 0, 1] [0] (bodyOf Try.f112) []).1
noncomputable def K112_W_b77_3 (m0 : Nat) : List K := (loopAtD [1, 1, 0, 1, 0, 1, 0, 1, 1, 1, 1, 1, 1, 0, 1] [m0] (bodyOf Try.f112) []).2

def st112_W_b77_3 (a0 : List (Int)) (a0_o : Nat) (a0_n : Nat) (a1 : Int) (a2 : Int) (a3 : TyB × Int) (v11c : List SV) (v11n : Nat) (v12 v13 v14 : Int) : LS := ⟨slN 141 [(0, (.s 0 (0 + a0_o * 1) a0_n 1)), (1, (iv a1)), (2, (iv a2)), (3, (.f 1000077 [(.a [(.p 1 0), (iv a3.2)])])), (9, (iv v12)), (10, (iv v13)), (12, (iv v14))], [(.live true true v11c), (.live false false [(.s 2 0 a3.1.1.length 10), (iv a3.1.2.1), (.s 0 0 v11n 1), (.s 3 0 a3.1.2.2.2.length 8)]), (.live false true (flat c81 a3.1.1)), (.live false true (flat c40 a3.1.2.2.2))]⟩

def S112_W_b77_3 (a0 : List (Int)) (a0_o : Nat) (a0_n : Nat) (a1 : Int) (a2 : Int) (a3 : TyB × Int) : List (Int) × Int × Int × Int → (List (Int) × Int × Int × Int) ⊕ ((List (Int) × Int × Int) ⊕ (Bool × List (Int)))
 | (v11, v12, v13, v14) =>
  (bif (decide ((v14 : Int) < a2)) then
   (bif (!(decide (((F77 ((a3.1.1, a3.1.2.1, (v11, a3.1.2.2.2)), a3.2) (v11.getD (a0_o + toNat v14) default) (v11.getD (a0_o + toNat (W (v14 - 1))) default)) : Int) < 0))) then
    (.inr (.inl (v11, v12, (v13 + 1))))
   else
    (.inl (((v11.set (a0_o + toNat v14) (v11.getD (a0_o + toNat (W (v14 - 1))) default)).set (a0_o + toNat (W (v14 - 1))) (v11.getD (a0_o + toNat v14) default)), v12, v13, (v14 + 1))))
  else
   (.inr (.inl (v11, v12, (v13 + 1)))))

noncomputable def B112_W_b77_2 : Code := (loopAtD [1, 1, 0, 1, 0, 1, 0, 1, 1, 1, 1, 0, 1, 0, 1] [0] (bodyOf Try.f112) []).1
noncomputable def K112_W_b77_2 (m0 : Nat) : List K := (loopAtD [1, 1, 0, 1, 0, 1, 0, 1, 1, 1, 1, 0, 1, 0, 1] [m0] (bodyOf Try.f112) []).2

def st112_W_b77_2 (a0 : List (Int)) (a0_o : Nat) (a0_n : Nat) (a1 : Int) (a2 : Int) (a3 : TyB × Int) (v7c : List SV) (v7n : Nat) (v8 v9 v10 : Int) : LS := ⟨slN 141 [(0, (.s 0 (0 + a0_o * 1) a0_n 1)), (1, (iv a1)), (2, (iv a2)), (3, (.f 1000077 [(.a [(.p 1 0), (iv a3.2)])])), (9, (iv v8)), (10, (iv v9)), (11, (iv v10))], [(.live true true v7c), (.live false false [(.s 2 0 a3.1.1.length 10), (iv a3.1.2.1), (.s 0 0 v7n 1), (.s 3 0 a3.1.2.2.2.length 8)]), (.live false true (flat c81 a3.1.1)), (.live false true (flat c40 a3.1.2.2.2))]⟩

def S112_W_b77_2 (a0 : List (Int)) (a0_o : Nat) (a0_n : Nat) (a1 : Int) (a2 : Int) (a3 : TyB × Int) : List (Int) × Int × Int × Int → (List (Int) × Int × Int × Int) ⊕ ((List (Int) × Int × Int) ⊕ (Bool × List (Int)))
 | (v7, v8, v9, v10) =>
  (bif (decide ((v10 : Int) ≥ 1)) then
   (bif (!(decide (((F77 ((a3.1.1, a3.1.2.1, (v7, a3.1.2.2.2)), a3.2) (v7.getD (a0_o + toNat v10) default) (v7.getD (a0_o + toNat (W (v10 - 1))) default)) : Int) < 0))) then
    (bif (decide (((W (a2 - v8)) : Int) ≥ 2)) then
     (.inr (loopF (S112_W_b77_3 a0 a0_o a0_n a1 a2 a3) (toNat (a2 - (v8 + 1)) + 1) (v7, v8, v9, (v8 + 1))))
    else
     (.inr (.inl (v7, v8, (v9 + 1)))))
   else
    (.inl (((v7.set (a0_o + toNat v10) (v7.getD (a0_o + toNat (W (v10 - 1))) default)).set (a0_o + toNat (W (v10 - 1))) (v7.getD (a0_o + toNat v10) default)), v8, v9, (W (v10 - 1)))))
  else
   (bif (decide (((W (a2 - v8)) : Int) ≥ 2)) then
    (.inr (loopF (S112_W_b77_3 a0 a0_o a0_n a1 a2 a3) (toNat (a2 - (v8 + 1)) + 1) (v7, v8, v9, (v8 + 1))))
   else
    (.inr (.inl (v7, v8, (v9 + 1))))))

noncomputable def B112_W_b77_1 : Code := (loopAtD [1, 1, 0, 1, 0, 1, 0, 0] [0] (bodyOf Try.f112) []).1
noncomputable def K112_W_b77_1 (m0 : Nat) : List K := (loopAtD [1, 1, 0, 1, 0, 1, 0, 0] [m0] (bodyOf Try.f112) []).2

def st112_W_b77_1 (a0 : List (Int)) (a0_o : Nat) (a0_n : Nat) (a1 : Int) (a2 : Int) (a3 : TyB × Int) (v4c : List SV) (v4n : Nat) (v5 v6 : Int) : LS := ⟨slN 141 [(0, (.s 0 (0 + a0_o * 1) a0_n 1)), (1, (iv a1)), (2, (iv a2)), (3, (.f 1000077 [(.a [(.p 1 0), (iv a3.2)])])), (9, (iv v5)), (10, (iv v6))], [(.live true true v4c), (.live false false [(.s 2 0 a3.1.1.length 10), (iv a3.1.2.1), (.s 0 0 v4n 1), (.s 3 0 a3.1.2.2.2.length 8)]), (.live false true (flat c81 a3.1.1)), (.live false true (flat c40 a3.1.2.2.2))]⟩

def S112_W_b77_1 (a0 : List (Int)) (a0_o : Nat) (a0_n : Nat) (a1 : Int) (a2 : Int) (a3 : TyB × Int) : List (Int) × Int × Int → (List (Int) × Int × Int) ⊕ ((List (Int) × Int × Int) ⊕ (Bool × List (Int)))
 | (v4, v5, v6) =>
  (bif (decide ((v5 : Int) < a2)) then
   (bif (!(decide (((F77 ((a3.1.1, a3.1.2.1, (v4, a3.1.2.2.2)), a3.2) (v4.getD (a0_o + toNat v5) default) (v4.getD (a0_o + toNat (W (v5 - 1))) default)) : Int) < 0))) then
    (.inl (v4, (v5 + 1), v6))
   else
    (bif ((v5 : Int) == a2) then
     (.inr (.inr (true, v4)))
    else
     (bif (decide (((W (a2 - a1)) : Int) < 50)) then
      (.inr (.inr (false, v4)))
     else
      (bif (decide (((W (v5 - a1)) : Int) ≥ 2)) then
       (.inr (loopF (S112_W_b77_2 a0 a0_o a0_n a1 a2 a3) (toNat (W (v5 - 1)) + 1) (((v4.set (a0_o + toNat v5) (v4.getD (a0_o + toNat (W (v5 - 1))) default)).set (a0_o + toNat (W (v5 - 1))) (v4.getD (a0_o + toNat v5) default)), v5, v6, (W (v5 - 1)))))
      else
       (bif (decide (((W (a2 - v5)) : Int) ≥ 2)) then
        (.inr (loopF (S112_W_b77_3 a0 a0_o a0_n a1 a2 a3) (toNat (a2 - (v5 + 1)) + 1) (((v4.set (a0_o + toNat v5) (v4.getD (a0_o + toNat (W (v5 - 1))) default)).set (a0_o + toNat (W (v5 - 1))) (v4.getD (a0_o + toNat v5) default)), v5, v6, (v5 + 1))))
       else
        (.inr (.inl (((v4.set (a0_o + toNat v5) (v4.getD (a0_o + toNat (W (v5 - 1))) default)).set (a0_o + toNat (W (v5 - 1))) (v4.getD (a0_o + toNat v5) default)), v5, (v6 + 1)))))))))
  else
   (bif ((v5 : Int) == a2) then
    (.inr (.inr (true, v4)))
   else
    (bif (decide (((W (a2 - a1)) : Int) < 50)) then
     (.inr (.inr (false, v4)))
    else
     (bif (decide (((W (v5 - a1)) : Int) ≥ 2)) then
      (.inr (loopF (S112_W_b77_2 a0 a0_o a0_n a1 a2 a3) (toNat (W (v5 - 1)) + 1) (((v4.set (a0_o + toNat v5) (v4.getD (a0_o + toNat (W (v5 - 1))) default)).set (a0_o + toNat (W (v5 - 1))) (v4.getD (a0_o + toNat v5) default)), v5, v6, (W (v5 - 1)))))
     else
      (bif (decide (((W (a2 - v5)) : Int) ≥ 2)) then
       (.inr (loopF (S112_W_b77_3 a0 a0_o a0_n a1 a2 a3) (toNat (a2 - (v5 + 1)) + 1) (((v4.set (a0_o + toNat v5) (v4.getD (a0_o + toNat (W (v5 - 1))) default)).set (a0_o + toNat (W (v5 - 1))) (v4.getD (a0_o + toNat v5) default)), v5, v6, (v5 + 1))))
      else
       (.inr (.inl (((v4.set (a0_o + toNat v5) (v4.getD (a0_o + toNat (W (v5 - 1))) default)).set (a0_o + toNat (W (v5 - 1))) (v4.getD (a0_o + toNat v5) default)), v5, (v6 + 1)))))))))

noncomputable def B112_W_b77_0 : Code := (loopAtD [1, 1, 0, 1] [] (bodyOf Try.f112) []).1
noncomputable def K112_W_b77_0 : List K := (loopAtD [1, 1, 0, 1] [] (bodyOf Try.f112) []).2

def st112_W_b77_0 (a0 : List (Int)) (a0_o : Nat) (a0_n : Nat) (a1 : Int) (a2 : Int) (a3 : TyB × Int) (v1c : List SV) (v1n : Nat) (v2 v3 : Int) : LS := ⟨slN 141 [(0, (.s 0 (0 + a0_o * 1) a0_n 1)), (1, (iv a1)), (2, (iv a2)), (3, (.f 1000077 [(.a [(.p 1 0), (iv a3.2)])])), (9, (iv v2)), (10, (iv v3))], [(.live true true v1c), (.live false false [(.s 2 0 a3.1.1.length 10), (iv a3.1.2.1), (.s 0 0 v1n 1), (.s 3 0 a3.1.2.2.2.length 8)]), (.live false true (flat c81 a3.1.1)), (.live false true (flat c40 a3.1.2.2.2))]⟩

def S112_W_b77_0 (a0 : List (Int)) (a0_o : Nat) (a0_n : Nat) (a1 : Int) (a2 : Int) (a3 : TyB × Int) : List (Int) × Int × Int → (List (Int) × Int × Int) ⊕ (Bool × List (Int))
 | (v1, v2, v3) =>
  (bif (decide ((v3 : Int) < 5)) then
   (loopF (S112_W_b77_1 a0 a0_o a0_n a1 a2 a3) (toNat (a2 - v2) + 1) (v1, v2, v3))
  else
   (.inr (false, v1)))

theorem L112_W_b77_3 (a0 : List (Int)) (a0_o : Nat) (a0_n : Nat) (a1 : Int) (a2 : Int) (a3 : TyB × Int) (l0 : a0.length ≤ 9223372036854775807) (l3_1_1 : a3.1.1.length ≤ 9223372036854775807) (l3_1_2_2_1 : a3.1.2.2.1.length ≤ 9223372036854775807) (l3_1_2_2_2 : a3.1.2.2.2.length ≤ 9223372036854775807) (hw : a0_o + a0_n ≤ a0.length ∧ a0.length ≤ 1048576) (hr : InR a3.1.1.length a0) (hab : 0 ≤ a1 ∧ a1 < a2 ∧ a2 ≤ ↑a0_n) {cx : Cx} (hcx : cx.base = 4)
   (n0 : Nat) (g0 : ∀ (v1 : List (Int)) (v2 v3 : Int), (v1.length = a0.length) ∧ (InR a3.1.1.length v1) ∧ (a1 < v2) ∧ (v2 ≤ a2) ∧ (0 ≤ v3) ∧ (v3 ≤ 5) → toNat (5 - v3) < n0 → Aw.Good Try.prog none 9 (bodyPost Try.prog Try.f112 (RR cx (.v (.bool (loopF (S112_W_b77_0 a0 a0_o a0_n a1 a2 a3) n0 (v1, v2, v3)).1)) [] [(.live true true (flat c3 (loopF (S112_W_b77_0 a0 a0_o a0_n a1 a2 a3) n0 (v1, v2, v3)).2)), .un, .un, .un])) cx [] (.l B112_W_b77_0 n0 :: K112_W_b77_0) (st112_W_b77_0 a0 a0_o a0_n a1 a2 a3 (flat c3 v1) v1.length v2 v3)) : ∀ (n : Nat) (v11 : List (Int)) (v12 v13 v14 : Int), (v11.length = a0.length) ∧ (InR a3.1.1.length v11) ∧ (a1 < v12) ∧ (v12 < a2) ∧ (0 ≤ v13) ∧ (v13 < 5) ∧ (a1 < v14) ∧ (v14 ≤ a2) ∧ ((v11.length = a0.length)) ∧ ((InR a3.1.1.length v11)) ∧ ((a1 < v12)) ∧ ((v12 ≤ a2)) ∧ ((0 ≤ v13)) ∧ ((v13 ≤ 5)) ∧ (toNat (5 - v13) < n0 + 1) → toNat (a2 - v14) < n → Aw.Good Try.prog none 9 (bodyPost Try.prog Try.f112 (RR cx (.v (.bool (thenF (S112_W_b77_0 a0 a0_o a0_n a1 a2 a3) n0 (loopF (S112_W_b77_3 a0 a0_o a0_n a1 a2 a3) n (v11, v12, v13, v14))).1)) [] [(.live true true (flat c3 (thenF (S112_W_b77_0 a0 a0_o a0_n a1 a2 a3) n0 (loopF (S112_W_b77_3 a0 a0_o a0_n a1 a2 a3) n (v11, v12, v13, v14))).2)), .un, .un, .un])) cx [] (.l B112_W_b77_3 n :: K112_W_b77_3 n0) (st112_W_b77_3 a0 a0_o a0_n a1 a2 a3 (flat c3 v11) v11.length v12 v13 v14) := by
 intro n
 induction n with
 | zero => intro v11 v12 v13 v14 hi hn; exact absurd hn (nlz _)
 | succ n ih =>
   intro v11 v12 v13 v14 hi hn
   refine good_round ?_
   have hw_0 : W (v12 - 1) = v12 - 1 := (W_eq (n := v12 - 1) (by omega) (by omega)).trans (by omega)
   have hw_1 : W (v12 + 1) = v12 + 1 := (W_eq (n := v12 + 1) (by omega) (by omega)).trans (by omega)
   have hw_2 : W (v13 + 1) = v13 + 1 := (W_eq (n := v13 + 1) (by omega) (by omega)).trans (by omega)
   have hw_3 : W (a2 - a1) = a2 - a1 := (W_eq (n := a2 - a1) (by omega) (by omega)).trans (by omega)
   have hw_4 : W (v12 - a1) = v12 - a1 := (W_eq (n := v12 - a1) (by omega) (by omega)).trans (by omega)
   have hw_5 : W (a2 - v12) = a2 - v12 := (W_eq (n := a2 - v12) (by omega) (by omega)).trans (by omega)
   have hw_6 : W (v14 - 1) = v14 - 1 := (W_eq (n := v14 - 1) (by omega) (by omega)).trans (by omega)
   have hw_7 : W (v14 + 1) = v14 + 1 := (W_eq (n := v14 + 1) (by omega) (by omega)).trans (by omega)
   cases h0 : (decide ((v14 : Int) < a2)) with
   | true =>
    have q0 := odt h0
    let t1 : List (St Try.prog) := [.d h0, .i v14 a0_n, stLw c3_len v11 a0_o v14 0 1, .i (W (v14 - 1)) a0_n, stLw c3_len v11 a0_o (W (v14 - 1)) 0 1, .c [1, 2, 0, 3] (C77 ((a3.1.1, a3.1.2.1, (v11, a3.1.2.2.2)), a3.2) (v11.getD (a0_o + toNat v14) default) (v11.getD (a0_o + toNat (W (v14 - 1))) default) (by (try simp only [Lt]); omega) (by (try simp only [Lt]); omega) (by (try simp only [Lt]); omega) (hi.2.1.at (by omega)) (hi.2.1.at (by omega)))]
    cases h1 : (!(decide (((F77 ((a3.1.1, a3.1.2.1, (v11, a3.1.2.2.2)), a3.2) (v11.getD (a0_o + toNat v14) default) (v11.getD (a0_o + toNat (W (v14 - 1))) default)) : Int) < 0))) with
    | true =>
     have e := Eq.refl (S112_W_b77_3 a0 a0_o a0_n a1 a2 a3 (v11, v12, v13, v14)); conv at e => rhs; simp only [S112_W_b77_3, h0, h1, cdb]
     rw [loopF_s, e]
     refine ba (t1 ++ [.d h1]) [] [0, 1, 2, 3, 9, 10] [] hcx (m := n0) B112_W_b77_0 (K112_W_b77_0) (st112_W_b77_0 a0 a0_o a0_n a1 a2 a3 (flat c3 v11) (v11.length) v12 (W (v13 + 1))) (by kernel_rfl) ?_
     have z0 : (W (v13 + 1)) = (v13 + 1) := W_eq (by omega) (by omega)
     rw [z0]
     exact g0 v11 v12 (v13 + 1) (by and_intros <;> (try simp only [Lt]) <;> first | omega | assumption | exact hi.2.1 | exact hi.2.2.1 | exact InR.swap hi.2.1 (by omega) (by omega) | exact InR.swap hr (by omega) (by omega)) (by (try simp only [Ls]); omega)
    | false =>
     have e := Eq.refl (S112_W_b77_3 a0 a0_o a0_n a1 a2 a3 (v11, v12, v13, v14)); conv at e => rhs; simp only [S112_W_b77_3, h0, h1, cdb]
     rw [loopF_inl e]
     refine ba (t1 ++ [.d h1, .i (W (v14 - 1)) a0_n, stLw c3_len v11 a0_o (W (v14 - 1)) 0 1, .i v14 a0_n, stLw c3_len v11 a0_o v14 0 1, .i v14 a0_n, .p (show ((0 + a0_o * 1 + toNat v14 * 1) + 1 ≤ (flat c3 v11).length) from (flat_setwl c3_len (by first | omega | (simp only [Lt]; omega)) (o := 0) (Nb rfl))), .i (W (v14 - 1)) a0_n, .p (show ((0 + a0_o * 1 + toNat (W (v14 - 1)) * 1) + 1 ≤ (splice (flat c3 v11) (0 + a0_o * 1 + toNat v14 * 1) [(iv (v11.getD (a0_o + toNat (W (v14 - 1))) default))]).length) from (by rw [show (splice (flat c3 v11) (0 + a0_o * 1 + toNat v14 * 1) [(iv (v11.getD (a0_o + toNat (W (v14 - 1))) default))]) = flat c3 (v11.set (a0_o + toNat v14) (v11.getD (a0_o + toNat (W (v14 - 1))) default)) from (flat_setw c3_len (by first | omega | (simp only [Lt]; omega)) (o := 0) (d := default) (Nb rfl) rfl)]; exact flat_setwl c3_len (by first | omega | (simp only [Lt]; omega)) (o := 0) (Nb rfl)))]) [] [0, 1, 2, 3, 9, 10, 12] [] hcx (m := n) B112_W_b77_3 (K112_W_b77_3 n0) (st112_W_b77_3 a0 a0_o a0_n a1 a2 a3 (splice (splice (flat c3 v11) (0 + a0_o * 1 + toNat v14 * 1) [(iv (v11.getD (a0_o + toNat (W (v14 - 1))) default))]) (0 + a0_o * 1 + toNat (W (v14 - 1)) * 1) [(iv (v11.getD (a0_o + toNat v14) default))]) (v11.length) v12 v13 (W (v14 + 1))) (by kernel_rfl) ?_
     have z0 : (W (v14 + 1)) = (v14 + 1) := W_eq (by omega) (by omega)
     have z1 : (splice (splice (flat c3 v11) (0 + a0_o * 1 + toNat v14 * 1) [(iv (v11.getD (a0_o + toNat (W (v14 - 1))) default))]) (0 + a0_o * 1 + toNat (W (v14 - 1)) * 1) [(iv (v11.getD (a0_o + toNat v14) default))]) = flat c3 ((v11.set (a0_o + toNat v14) (v11.getD (a0_o + toNat (W (v14 - 1))) default)).set (a0_o + toNat (W (v14 - 1))) (v11.getD (a0_o + toNat v14) default)) := (by rw [show (splice (flat c3 v11) (0 + a0_o * 1 + toNat v14 * 1) [(iv (v11.getD (a0_o + toNat (W (v14 - 1))) default))]) = flat c3 (v11.set (a0_o + toNat v14) (v11.getD (a0_o + toNat (W (v14 - 1))) default)) from (flat_setw c3_len (by first | omega | (simp only [Lt]; omega)) (o := 0) (d := default) (Nb rfl) rfl)]; exact flat_setw c3_len (by first | omega | (simp only [Lt]; omega)) (o := 0) (d := default) (Nb rfl) rfl)
     have z2 : v11.length = ((v11.set (a0_o + toNat v14) (v11.getD (a0_o + toNat (W (v14 - 1))) default)).set (a0_o + toNat (W (v14 - 1))) (v11.getD (a0_o + toNat v14) default)).length := by simp
     rw [z0, z1, z2]
     exact ih ((v11.set (a0_o + toNat v14) (v11.getD (a0_o + toNat (W (v14 - 1))) default)).set (a0_o + toNat (W (v14 - 1))) (v11.getD (a0_o + toNat v14) default)) v12 v13 (v14 + 1) (by and_intros <;> (try simp only [Lt]) <;> first | omega | assumption | exact hi.2.1 | exact hi.2.2.1 | exact InR.swap hi.2.1 (by omega) (by omega) | exact InR.swap hr (by omega) (by omega)) (by (try simp only [Ls]); omega)
   | false =>
    have q0 := odf h0
    have e := Eq.refl (S112_W_b77_3 a0 a0_o a0_n a1 a2 a3 (v11, v12, v13, v14)); conv at e => rhs; simp only [S112_W_b77_3, h0, cdb]
    rw [loopF_s, e]
    refine ba [.d h0] [] [0, 1, 2, 3, 9, 10] [] hcx (m := n0) B112_W_b77_0 (K112_W_b77_0) (st112_W_b77_0 a0 a0_o a0_n a1 a2 a3 (flat c3 v11) (v11.length) v12 (W (v13 + 1))) (by kernel_rfl) ?_
    have z0 : (W (v13 + 1)) = (v13 + 1) := W_eq (by omega) (by omega)
    rw [z0]
    exact g0 v11 v12 (v13 + 1) (by and_intros <;> (try simp only [Lt]) <;> first | omega | assumption | exact hi.2.1 | exact hi.2.2.1 | exact InR.swap hi.2.1 (by omega) (by omega) | exact InR.swap hr (by omega) (by omega)) (by (try simp only [Ls]); omega)

theorem L112_W_b77_2 (a0 : List (Int)) (a0_o : Nat) (a0_n : Nat) (a1 : Int) (a2 : Int) (a3 : TyB × Int) (l0 : a0.length ≤ 9223372036854775807) (l3_1_1 : a3.1.1.length ≤ 9223372036854775807) (l3_1_2_2_1 : a3.1.2.2.1.length ≤ 9223372036854775807) (l3_1_2_2_2 : a3.1.2.2.2.length ≤ 9223372036854775807) (hw : a0_o + a0_n ≤ a0.length ∧ a0.length ≤ 1048576) (hr : InR a3.1.1.length a0) (hab : 0 ≤ a1 ∧ a1 < a2 ∧ a2 ≤ ↑a0_n) {cx : Cx} (hcx : cx.base = 4)
   (n0 : Nat) (g0 : ∀ (v1 : List (Int)) (v2 v3 : Int), (v1.length = a0.length) ∧ (InR a3.1.1.length v1) ∧ (a1 < v2) ∧ (v2 ≤ a2) ∧ (0 ≤ v3) ∧ (v3 ≤ 5) → toNat (5 - v3) < n0 → Aw.Good Try.prog none 9 (bodyPost Try.prog Try.f112 (RR cx (.v (.bool (loopF (S112_W_b77_0 a0 a0_o a0_n a1 a2 a3) n0 (v1, v2, v3)).1)) [] [(.live true true (flat c3 (loopF (S112_W_b77_0 a0 a0_o a0_n a1 a2 a3) n0 (v1, v2, v3)).2)), .un, .un, .un])) cx [] (.l B112_W_b77_0 n0 :: K112_W_b77_0) (st112_W_b77_0 a0 a0_o a0_n a1 a2 a3 (flat c3 v1) v1.length v2 v3)) : ∀ (n : Nat) (v7 : List (Int)) (v8 v9 v10 : Int), (v7.length = a0.length) ∧ (InR a3.1.1.length v7) ∧ (a1 < v8) ∧ (v8 < a2) ∧ (0 ≤ v9) ∧ (v9 < 5) ∧ (0 ≤ v10) ∧ (v10 < v8) ∧ ((v7.length = a0.length)) ∧ ((InR a3.1.1.length v7)) ∧ ((a1 < v8)) ∧ ((v8 ≤ a2)) ∧ ((0 ≤ v9)) ∧ ((v9 ≤ 5)) ∧ (toNat (5 - v9) < n0 + 1) → toNat v10 < n → Aw.Good Try.prog none 9 (bodyPost Try.prog Try.f112 (RR cx (.v (.bool (thenF (S112_W_b77_0 a0 a0_o a0_n a1 a2 a3) n0 (loopF (S112_W_b77_2 a0 a0_o a0_n a1 a2 a3) n (v7, v8, v9, v10))).1)) [] [(.live true true (flat c3 (thenF (S112_W_b77_0 a0 a0_o a0_n a1 a2 a3) n0 (loopF (S112_W_b77_2 a0 a0_o a0_n a1 a2 a3) n (v7, v8, v9, v10))).2)), .un, .un, .un])) cx [] (.l B112_W_b77_2 n :: K112_W_b77_2 n0) (st112_W_b77_2 a0 a0_o a0_n a1 a2 a3 (flat c3 v7) v7.length v8 v9 v10) := by
 intro n
 induction n with
 | zero => intro v7 v8 v9 v10 hi hn; exact absurd hn (nlz _)
 | succ n ih =>
   intro v7 v8 v9 v10 hi hn
   refine good_round ?_
   have hw_0 : W (v8 - 1) = v8 - 1 := (W_eq (n := v8 - 1) (by omega) (by omega)).trans (by omega)
   have hw_1 : W (v8 + 1) = v8 + 1 := (W_eq (n := v8 + 1) (by omega) (by omega)).trans (by omega)
   have hw_2 : W (v9 + 1) = v9 + 1 := (W_eq (n := v9 + 1) (by omega) (by omega)).trans (by omega)
   have hw_3 : W (a2 - a1) = a2 - a1 := (W_eq (n := a2 - a1) (by omega) (by omega)).trans (by omega)
   have hw_4 : W (v8 - a1) = v8 - a1 := (W_eq (n := v8 - a1) (by omega) (by omega)).trans (by omega)
   have hw_5 : W (a2 - v8) = a2 - v8 := (W_eq (n := a2 - v8) (by omega) (by omega)).trans (by omega)
   have hw_6 : W (v10 - 1) = v10 - 1 := (W_eq (n := v10 - 1) (by omega) (by omega)).trans (by omega)
   cases h0 : (decide ((v10 : Int) ≥ 1)) with
   | true =>
    have q0 := odt h0
    let t1 : List (St Try.prog) := [.d h0, .i v10 a0_n, stLw c3_len v7 a0_o v10 0 1, .i (W (v10 - 1)) a0_n, stLw c3_len v7 a0_o (W (v10 - 1)) 0 1, .c [1, 2, 0, 3] (C77 ((a3.1.1, a3.1.2.1, (v7, a3.1.2.2.2)), a3.2) (v7.getD (a0_o + toNat v10) default) (v7.getD (a0_o + toNat (W (v10 - 1))) default) (by (try simp only [Lt]); omega) (by (try simp only [Lt]); omega) (by (try simp only [Lt]); omega) (hi.2.1.at (by omega)) (hi.2.1.at (by omega)))]
    cases h1 : (!(decide (((F77 ((a3.1.1, a3.1.2.1, (v7, a3.1.2.2.2)), a3.2) (v7.getD (a0_o + toNat v10) default) (v7.getD (a0_o + toNat (W (v10 - 1))) default)) : Int) < 0))) with
    | true =>
     let t2 : List (St Try.prog) := (t1 ++ [.d h1])
     cases h2 : (decide (((W (a2 - v8)) : Int) ≥ 2)) with
     | true =>
      have q2 := odt h2
      have e := Eq.refl (S112_W_b77_2 a0 a0_o a0_n a1 a2 a3 (v7, v8, v9, v10)); conv at e => rhs; simp only [S112_W_b77_2, h0, h1, h2, cdb]
      rw [loopF_s, e]
      refine en (t2 ++ [.d h2]) [] [0, 1, 2, 3, 9, 10, 12] [] hcx B112_W_b77_3 (K112_W_b77_3 n0) (st112_W_b77_3 a0 a0_o a0_n a1 a2 a3 (flat c3 v7) (v7.length) v8 v9 (W (v8 + 1))) (toNat (a2 - (v8 + 1)) + 1) (by kernel_rfl) ?_
      have z0 : (W (v8 + 1)) = (v8 + 1) := W_eq (by omega) (by omega)
      rw [z0]
      exact L112_W_b77_3 a0 a0_o a0_n a1 a2 a3 l0 l3_1_1 l3_1_2_2_1 l3_1_2_2_2 hw hr hab hcx n0 g0 (toNat (a2 - (v8 + 1)) + 1) v7 v8 v9 (v8 + 1) (by and_intros <;> (try simp only [Lt]) <;> first | omega | assumption | exact hi.2.1 | exact hi.2.2.1 | exact InR.swap hi.2.1 (by omega) (by omega) | exact InR.swap hr (by omega) (by omega)) (by (try simp only [Ls]); omega)
     | false =>
      have q2 := odf h2
      have e := Eq.refl (S112_W_b77_2 a0 a0_o a0_n a1 a2 a3 (v7, v8, v9, v10)); conv at e => rhs; simp only [S112_W_b77_2, h0, h1, h2, cdb]
      rw [loopF_s, e]
      refine ba (t2 ++ [.d h2]) [] [0, 1, 2, 3, 9, 10] [] hcx (m := n0) B112_W_b77_0 (K112_W_b77_0) (st112_W_b77_0 a0 a0_o a0_n a1 a2 a3 (flat c3 v7) (v7.length) v8 (W (v9 + 1))) (by kernel_rfl) ?_
      have z0 : (W (v9 + 1)) = (v9 + 1) := W_eq (by omega) (by omega)
      rw [z0]
      exact g0 v7 v8 (v9 + 1) (by and_intros <;> (try simp only [Lt]) <;> first | omega | assumption | exact hi.2.1 | exact hi.2.2.1 | exact InR.swap hi.2.1 (by omega) (by omega) | exact InR.swap hr (by omega) (by omega)) (by (try simp only [Ls]); omega)
    | false =>
     have e := Eq.refl (S112_W_b77_2 a0 a0_o a0_n a1 a2 a3 (v7, v8, v9, v10)); conv at e => rhs; simp only [S112_W_b77_2, h0, h1, cdb]
     rw [loopF_inl e]
     refine ba (t1 ++ [.d h1, .i (W (v10 - 1)) a0_n, stLw c3_len v7 a0_o (W (v10 - 1)) 0 1, .i v10 a0_n, stLw c3_len v7 a0_o v10 0 1, .i v10 a0_n, .p (show ((0 + a0_o * 1 + toNat v10 * 1) + 1 ≤ (flat c3 v7).length) from (flat_setwl c3_len (by first | omega | (simp only [Lt]; omega)) (o := 0) (Nb rfl))), .i (W (v10 - 1)) a0_n, .p (show ((0 + a0_o * 1 + toNat (W (v10 - 1)) * 1) + 1 ≤ (splice (flat c3 v7) (0 + a0_o * 1 + toNat v10 * 1) [(iv (v7.getD (a0_o + toNat (W (v10 - 1))) default))]).length) from (by rw [show (splice (flat c3 v7) (0 + a0_o * 1 + toNat v10 * 1) [(iv (v7.getD (a0_o + toNat (W (v10 - 1))) default))]) = flat c3 (v7.set (a0_o + toNat v10) (v7.getD (a0_o + toNat (W (v10 - 1))) default)) from (flat_setw c3_len (by first | omega | (simp only [Lt]; omega)) (o := 0) (d := default) (Nb rfl) rfl)]; exact flat_setwl c3_len (by first | omega | (simp only [Lt]; omega)) (o := 0) (Nb rfl)))]) [] [0, 1, 2, 3, 9, 10, 11] [] hcx (m := n) B112_W_b77_2 (K112_W_b77_2 n0) (st112_W_b77_2 a0 a0_o a0_n a1 a2 a3 (splice (splice (flat c3 v7) (0 + a0_o * 1 + toNat v10 * 1) [(iv (v7.getD (a0_o + toNat (W (v10 - 1))) default))]) (0 + a0_o * 1 + toNat (W (v10 - 1)) * 1) [(iv (v7.getD (a0_o + toNat v10) default))]) (v7.length) v8 v9 (W (v10 - 1))) (by kernel_rfl) ?_
     have z0 : (splice (splice (flat c3 v7) (0 + a0_o * 1 + toNat v10 * 1) [(iv (v7.getD (a0_o + toNat (W (v10 - 1))) default))]) (0 + a0_o * 1 + toNat (W (v10 - 1)) * 1) [(iv (v7.getD (a0_o + toNat v10) default))]) = flat c3 ((v7.set (a0_o + toNat v10) (v7.getD (a0_o + toNat (W (v10 - 1))) default)).set (a0_o + toNat (W (v10 - 1))) (v7.getD (a0_o + toNat v10) default)) := (by rw [show (splice (flat c3 v7) (0 + a0_o * 1 + toNat v10 * 1) [(iv (v7.getD (a0_o + toNat (W (v10 - 1))) default))]) = flat c3 (v7.set (a0_o + toNat v10) (v7.getD (a0_o + toNat (W (v10 - 1))) default)) from (flat_setw c3_len (by first | omega | (simp only [Lt]; omega)) (o := 0) (d := default) (Nb rfl) rfl)]; exact flat_setw c3_len (by first | omega | (simp only [Lt]; omega)) (o := 0) (d := default) (Nb rfl) rfl)
     have z1 : v7.length = ((v7.set (a0_o + toNat v10) (v7.getD (a0_o + toNat (W (v10 - 1))) default)).set (a0_o + toNat (W (v10 - 1))) (v7.getD (a0_o + toNat v10) default)).length := by simp
     rw [z0, z1]
     exact ih ((v7.set (a0_o + toNat v10) (v7.getD (a0_o + toNat (W (v10 - 1))) default)).set (a0_o + toNat (W (v10 - 1))) (v7.getD (a0_o + toNat v10) default)) v8 v9 (W (v10 - 1)) (by and_intros <;> (try simp only [Lt]) <;> first | omega | assumption | exact hi.2.1 | exact hi.2.2.1 | exact InR.swap hi.2.1 (by omega) (by omega) | exact InR.swap hr (by omega) (by omega)) (by (try simp only [Ls]); omega)
   | false =>
    have q0 := odf h0
    let t1 : List (St Try.prog) := [.d h0]
    cases h1 : (decide (((W (a2 - v8)) : Int) ≥ 2)) with
    | true =>
     have q1 := odt h1
     have e := Eq.refl (S112_W_b77_2 a0 a0_o a0_n a1 a2 a3 (v7, v8, v9, v10)); conv at e => rhs; simp only [S112_W_b77_2, h0, h1, cdb]
     rw [loopF_s, e]
     refine en (t1 ++ [.d h1]) [] [0, 1, 2, 3, 9, 10, 12] [] hcx B112_W_b77_3 (K112_W_b77_3 n0) (st112_W_b77_3 a0 a0_o a0_n a1 a2 a3 (flat c3 v7) (v7.length) v8 v9 (W (v8 + 1))) (toNat (a2 - (v8 + 1)) + 1) (by kernel_rfl) ?_
     have z0 : (W (v8 + 1)) = (v8 + 1) := W_eq (by omega) (by omega)
     rw [z0]
     exact L112_W_b77_3 a0 a0_o a0_n a1 a2 a3 l0 l3_1_1 l3_1_2_2_1 l3_1_2_2_2 hw hr hab hcx n0 g0 (toNat (a2 - (v8 + 1)) + 1) v7 v8 v9 (v8 + 1) (by and_intros <;> (try simp only [Lt]) <;> first | omega | assumption | exact hi.2.1 | exact hi.2.2.1 | exact InR.swap hi.2.1 (by omega) (by omega) | exact InR.swap hr (by omega) (by omega)) (by (try simp only [Ls]); omega)
    | false =>
     have q1 := odf h1
     have e := Eq.refl (S112_W_b77_2 a0 a0_o a0_n a1 a2 a3 (v7, v8, v9, v10)); conv at e => rhs; simp only [S112_W_b77_2, h0, h1, cdb]
     rw [loopF_s, e]
     refine ba (t1 ++ [.d h1]) [] [0, 1, 2, 3, 9, 10] [] hcx (m := n0) B112_W_b77_0 (K112_W_b77_0) (st112_W_b77_0 a0 a0_o a0_n a1 a2 a3 (flat c3 v7) (v7.length) v8 (W (v9 + 1))) (by kernel_rfl) ?_
     have z0 : (W (v9 + 1)) = (v9 + 1) := W_eq (by omega) (by omega)
     rw [z0]
     exact g0 v7 v8 (v9 + 1) (by and_intros <;> (try simp only [Lt]) <;> first | omega | assumption | exact hi.2.1 | exact hi.2.2.1 | exact InR.swap hi.2.1 (by omega) (by omega) | exact InR.swap hr (by omega) (by omega)) (by (try simp only [Ls]); omega)

theorem L112_W_b77_1 (a0 : List (Int)) (a0_o : Nat) (a0_n : Nat) (a1 : Int) (a2 : Int) (a3 : TyB × Int) (l0 : a0.length ≤ 9223372036854775807) (l3_1_1 : a3.1.1.length ≤ 9223372036854775807) (l3_1_2_2_1 : a3.1.2.2.1.length ≤ 9223372036854775807) (l3_1_2_2_2 : a3.1.2.2.2.length ≤ 9223372036854775807) (hw : a0_o + a0_n ≤ a0.length ∧ a0.length ≤ 1048576) (hr : InR a3.1.1.length a0) (hab : 0 ≤ a1 ∧ a1 < a2 ∧ a2 ≤ ↑a0_n) {cx : Cx} (hcx : cx.base = 4)
   (n0 : Nat) (g0 : ∀ (v1 : List (Int)) (v2 v3 : Int), (v1.length = a0.length) ∧ (InR a3.1.1.length v1) ∧ (a1 < v2) ∧ (v2 ≤ a2) ∧ (0 ≤ v3) ∧ (v3 ≤ 5) → toNat (5 - v3) < n0 → Aw.Good Try.prog none 9 (bodyPost Try.prog Try.f112 (RR cx (.v (.bool (loopF (S112_W_b77_0 a0 a0_o a0_n a1 a2 a3) n0 (v1, v2, v3)).1)) [] [(.live true true (flat c3 (loopF (S112_W_b77_0 a0 a0_o a0_n a1 a2 a3) n0 (v1, v2, v3)).2)), .un, .un, .un])) cx [] (.l B112_W_b77_0 n0 :: K112_W_b77_0) (st112_W_b77_0 a0 a0_o a0_n a1 a2 a3 (flat c3 v1) v1.length v2 v3)) : ∀ (n : Nat) (v4 : List (Int)) (v5 v6 : Int), (v4.length = a0.length) ∧ (InR a3.1.1.length v4) ∧ (a1 < v5) ∧ (v5 ≤ a2) ∧ (0 ≤ v6) ∧ (v6 < 5) ∧ ((v4.length = a0.length)) ∧ ((InR a3.1.1.length v4)) ∧ ((a1 < v5)) ∧ ((v5 ≤ a2)) ∧ ((0 ≤ v6)) ∧ ((v6 ≤ 5)) ∧ (toNat (5 - v6) < n0 + 1) → toNat (a2 - v5) < n → Aw.Good Try.prog none 9 (bodyPost Try.prog Try.f112 (RR cx (.v (.bool (thenF (S112_W_b77_0 a0 a0_o a0_n a1 a2 a3) n0 (loopF (S112_W_b77_1 a0 a0_o a0_n a1 a2 a3) n (v4, v5, v6))).1)) [] [(.live true true (flat c3 (thenF (S112_W_b77_0 a0 a0_o a0_n a1 a2 a3) n0 (loopF (S112_W_b77_1 a0 a0_o a0_n a1 a2 a3) n (v4, v5, v6))).2)), .un, .un, .un])) cx [] (.l B112_W_b77_1 n :: K112_W_b77_1 n0) (st112_W_b77_1 a0 a0_o a0_n a1 a2 a3 (flat c3 v4) v4.length v5 v6) := by
 intro n
 induction n with
 | zero => intro v4 v5 v6 hi hn; exact absurd hn (nlz _)
 | succ n ih =>
   intro v4 v5 v6 hi hn
   refine good_round ?_
   have hw_0 : W (v5 - 1) = v5 - 1 := (W_eq (n := v5 - 1) (by omega) (by omega)).trans (by omega)
   have hw_1 : W (v5 + 1) = v5 + 1 := (W_eq (n := v5 + 1) (by omega) (by omega)).trans (by omega)
   have hw_2 : W (v6 + 1) = v6 + 1 := (W_eq (n := v6 + 1) (by omega) (by omega)).trans (by omega)
   have hw_3 : W (a2 - a1) = a2 - a1 := (W_eq (n := a2 - a1) (by omega) (by omega)).trans (by omega)
   have hw_4 : W (v5 - a1) = v5 - a1 := (W_eq (n := v5 - a1) (by omega) (by omega)).trans (by omega)
   have hw_5 : W (a2 - v5) = a2 - v5 := (W_eq (n := a2 - v5) (by omega) (by omega)).trans (by omega)
   cases h0 : (decide ((v5 : Int) < a2)) with
   | true =>
    have q0 := odt h0
    let t1 : List (St Try.prog) := [.d h0, .i v5 a0_n, stLw c3_len v4 a0_o v5 0 1, .i (W (v5 - 1)) a0_n, stLw c3_len v4 a0_o (W (v5 - 1)) 0 1, .c [1, 2, 0, 3] (C77 ((a3.1.1, a3.1.2.1, (v4, a3.1.2.2.2)), a3.2) (v4.getD (a0_o + toNat v5) default) (v4.getD (a0_o + toNat (W (v5 - 1))) default) (by (try simp only [Lt]); omega) (by (try simp only [Lt]); omega) (by (try simp only [Lt]); omega) (hi.2.1.at (by omega)) (hi.2.1.at (by omega)))]
    cases h1 : (!(decide (((F77 ((a3.1.1, a3.1.2.1, (v4, a3.1.2.2.2)), a3.2) (v4.getD (a0_o + toNat v5) default) (v4.getD (a0_o + toNat (W (v5 - 1))) default)) : Int) < 0))) with
    | true =>
     have e := Eq.refl (S112_W_b77_1 a0 a0_o a0_n a1 a2 a3 (v4, v5, v6)); conv at e => rhs; simp only [S112_W_b77_1, h0, h1, cdb]
     rw [loopF_inl e]
     refine ba (t1 ++ [.d h1]) [] [0, 1, 2, 3, 9, 10] [] hcx (m := n) B112_W_b77_1 (K112_W_b77_1 n0) (st112_W_b77_1 a0 a0_o a0_n a1 a2 a3 (flat c3 v4) (v4.length) (W (v5 + 1)) v6) (by kernel_rfl) ?_
     have z0 : (W (v5 + 1)) = (v5 + 1) := W_eq (by omega) (by omega)
     rw [z0]
     exact ih v4 (v5 + 1) v6 (by and_intros <;> (try simp only [Lt]) <;> first | omega | assumption | exact hi.2.1 | exact hi.2.2.1 | exact InR.swap hi.2.1 (by omega) (by omega) | exact InR.swap hr (by omega) (by omega)) (by (try simp only [Ls]); omega)
    | false =>
     let t2 : List (St Try.prog) := (t1 ++ [.d h1])
     cases h2 : ((v5 : Int) == a2) with
     | true =>
      have q2 := eq_of_beq h2
      have e := Eq.refl (S112_W_b77_1 a0 a0_o a0_n a1 a2 a3 (v4, v5, v6)); conv at e => rhs; simp only [S112_W_b77_1, h0, h1, h2, cdb]
      rw [loopF_s, e]
      try dsimp only [thenF]
      try dsimp only
      exact rtm (t2 ++ [.d h2]) [] [0] [] hcx (by kernel_rfl)
     | false =>
      have q2 := ne_of_beq_false h2
      let t3 : List (St Try.prog) := (t2 ++ [.d h2])
      cases h3 : (decide (((W (a2 - a1)) : Int) < 50)) with
      | true =>
       have q3 := odt h3
       have e := Eq.refl (S112_W_b77_1 a0 a0_o a0_n a1 a2 a3 (v4, v5, v6)); conv at e => rhs; simp only [S112_W_b77_1, h0, h1, h2, h3, cdb]
       rw [loopF_s, e]
       try dsimp only [thenF]
       try dsimp only
       exact rtm (t3 ++ [.d h3]) [] [0] [] hcx (by kernel_rfl)
      | false =>
       have q3 := odf h3
       let t4 : List (St Try.prog) := (t3 ++ [.d h3, .i (W (v5 - 1)) a0_n, stLw c3_len v4 a0_o (W (v5 - 1)) 0 1, .i v5 a0_n, stLw c3_len v4 a0_o v5 0 1, .i v5 a0_n, .p (show ((0 + a0_o * 1 + toNat v5 * 1) + 1 ≤ (flat c3 v4).length) from (flat_setwl c3_len (by first | omega | (simp only [Lt]; omega)) (o := 0) (Nb rfl))), .i (W (v5 - 1)) a0_n, .p (show ((0 + a0_o * 1 + toNat (W (v5 - 1)) * 1) + 1 ≤ (splice (flat c3 v4) (0 + a0_o * 1 + toNat v5 * 1) [(iv (v4.getD (a0_o + toNat (W (v5 - 1))) default))]).length) from (by rw [show (splice (flat c3 v4) (0 + a0_o * 1 + toNat v5 * 1) [(iv (v4.getD (a0_o + toNat (W (v5 - 1))) default))]) = flat c3 (v4.set (a0_o + toNat v5) (v4.getD (a0_o + toNat (W (v5 - 1))) default)) from (flat_setw c3_len (by first | omega | (simp only [Lt]; omega)) (o := 0) (d := default) (Nb rfl) rfl)]; exact flat_setwl c3_len (by first | omega | (simp only [Lt]; omega)) (o := 0) (Nb rfl)))])
       cases h4 : (decide (((W (v5 - a1)) : Int) ≥ 2)) with
       | true =>
        have q4 := odt h4
        have e := Eq.refl (S112_W_b77_1 a0 a0_o a0_n a1 a2 a3 (v4, v5, v6)); conv at e => rhs; simp only [S112_W_b77_1, h0, h1, h2, h3, h4, cdb]
        rw [loopF_s, e]
        refine en (t4 ++ [.d h4]) [] [0, 1, 2, 3, 9, 10, 11] [] hcx B112_W_b77_2 (K112_W_b77_2 n0) (st112_W_b77_2 a0 a0_o a0_n a1 a2 a3 (splice (splice (flat c3 v4) (0 + a0_o * 1 + toNat v5 * 1) [(iv (v4.getD (a0_o + toNat (W (v5 - 1))) default))]) (0 + a0_o * 1 + toNat (W (v5 - 1)) * 1) [(iv (v4.getD (a0_o + toNat v5) default))]) (v4.length) v5 v6 (W (v5 - 1))) (toNat (W (v5 - 1)) + 1) (by kernel_rfl) ?_
        have z0 : (splice (splice (flat c3 v4) (0 + a0_o * 1 + toNat v5 * 1) [(iv (v4.getD (a0_o + toNat (W (v5 - 1))) default))]) (0 + a0_o * 1 + toNat (W (v5 - 1)) * 1) [(iv (v4.getD (a0_o + toNat v5) default))]) = flat c3 ((v4.set (a0_o + toNat v5) (v4.getD (a0_o + toNat (W (v5 - 1))) default)).set (a0_o + toNat (W (v5 - 1))) (v4.getD (a0_o + toNat v5) default)) := (by rw [show (splice (flat c3 v4) (0 + a0_o * 1 + toNat v5 * 1) [(iv (v4.getD (a0_o + toNat (W (v5 - 1))) default))]) = flat c3 (v4.set (a0_o + toNat v5) (v4.getD (a0_o + toNat (W (v5 - 1))) default)) from (flat_setw c3_len (by first | omega | (simp only [Lt]; omega)) (o := 0) (d := default) (Nb rfl) rfl)]; exact flat_setw c3_len (by first | omega | (simp only [Lt]; omega)) (o := 0) (d := default) (Nb rfl) rfl)
        have z1 : v4.length = ((v4.set (a0_o + toNat v5) (v4.getD (a0_o + toNat (W (v5 - 1))) default)).set (a0_o + toNat (W (v5 - 1))) (v4.getD (a0_o + toNat v5) default)).length := by simp
        rw [z0, z1]
        exact L112_W_b77_2 a0 a0_o a0_n a1 a2 a3 l0 l3_1_1 l3_1_2_2_1 l3_1_2_2_2 hw hr hab hcx n0 g0 (toNat (W (v5 - 1)) + 1) ((v4.set (a0_o + toNat v5) (v4.getD (a0_o + toNat (W (v5 - 1))) default)).set (a0_o + toNat (W (v5 - 1))) (v4.getD (a0_o + toNat v5) default)) v5 v6 (W (v5 - 1)) (by and_intros <;> (try simp only [Lt]) <;> first | omega | assumption | exact hi.2.1 | exact hi.2.2.1 | exact InR.swap hi.2.1 (by omega) (by omega) | exact InR.swap hr (by omega) (by omega)) (by (try simp only [Ls]); omega)
       | false =>
        have q4 := odf h4
        let t5 : List (St Try.prog) := (t4 ++ [.d h4])
        cases h5 : (decide (((W (a2 - v5)) : Int) ≥ 2)) with
        | true =>
         have q5 := odt h5
         have e := Eq.refl (S112_W_b77_1 a0 a0_o a0_n a1 a2 a3 (v4, v5, v6)); conv at e => rhs; simp only [S112_W_b77_1, h0, h1, h2, h3, h4, h5, cdb]
         rw [loopF_s, e]
         refine en (t5 ++ [.d h5]) [] [0, 1, 2, 3, 9, 10, 12] [] hcx B112_W_b77_3 (K112_W_b77_3 n0) (st112_W_b77_3 a0 a0_o a0_n a1 a2 a3 (splice (splice (flat c3 v4) (0 + a0_o * 1 + toNat v5 * 1) [(iv (v4.getD (a0_o + toNat (W (v5 - 1))) default))]) (0 + a0_o * 1 + toNat (W (v5 - 1)) * 1) [(iv (v4.getD (a0_o + toNat v5) default))]) (v4.length) v5 v6 (W (v5 + 1))) (toNat (a2 - (v5 + 1)) + 1) (by kernel_rfl) ?_
         have z0 : (W (v5 + 1)) = (v5 + 1) := W_eq (by omega) (by omega)
         have z1 : (splice (splice (flat c3 v4) (0 + a0_o * 1 + toNat v5 * 1) [(iv (v4.getD (a0_o + toNat (W (v5 - 1))) default))]) (0 + a0_o * 1 + toNat (W (v5 - 1)) * 1) [(iv (v4.getD (a0_o + toNat v5) default))]) = flat c3 ((v4.set (a0_o + toNat v5) (v4.getD (a0_o + toNat (W (v5 - 1))) default)).set (a0_o + toNat (W (v5 - 1))) (v4.getD (a0_o + toNat v5) default)) := (by rw [show (splice (flat c3 v4) (0 + a0_o * 1 + toNat v5 * 1) [(iv (v4.getD (a0_o + toNat (W (v5 - 1))) default))]) = flat c3 (v4.set (a0_o + toNat v5) (v4.getD (a0_o + toNat (W (v5 - 1))) default)) from (flat_setw c3_len (by first | omega | (simp only [Lt]; omega)) (o := 0) (d := default) (Nb rfl) rfl)]; exact flat_setw c3_len (by first | omega | (simp only [Lt]; omega)) (o := 0) (d := default) (Nb rfl) rfl)
         have z2 : v4.length = ((v4.set (a0_o + toNat v5) (v4.getD (a0_o + toNat (W (v5 - 1))) default)).set (a0_o + toNat (W (v5 - 1))) (v4.getD (a0_o + toNat v5) default)).length := by simp
         rw [z0, z1, z2]
         exact L112_W_b77_3 a0 a0_o a0_n a1 a2 a3 l0 l3_1_1 l3_1_2_2_1 l3_1_2_2_2 hw hr hab hcx n0 g0 (toNat (a2 - (v5 + 1)) + 1) ((v4.set (a0_o + toNat v5) (v4.getD (a0_o + toNat (W (v5 - 1))) default)).set (a0_o + toNat (W (v5 - 1))) (v4.getD (a0_o + toNat v5) default)) v5 v6 (v5 + 1) (by and_intros <;> (try simp only [Lt]) <;> first | omega | assumption | exact hi.2.1 | exact hi.2.2.1 | exact InR.swap hi.2.1 (by omega) (by omega) | exact InR.swap hr (by omega) (by omega)) (by (try simp only [Ls]); omega)
        | false =>
         have q5 := odf h5
         have e := Eq.refl (S112_W_b77_1 a0 a0_o a0_n a1 a2 a3 (v4, v5, v6)); conv at e => rhs; simp only [S112_W_b77_1, h0, h1, h2, h3, h4, h5, cdb]
         rw [loopF_s, e]
         refine ba (t5 ++ [.d h5]) [] [0, 1, 2, 3, 9, 10] [] hcx (m := n0) B112_W_b77_0 (K112_W_b77_0) (st112_W_b77_0 a0 a0_o a0_n a1 a2 a3 (splice (splice (flat c3 v4) (0 + a0_o * 1 + toNat v5 * 1) [(iv (v4.getD (a0_o + toNat (W (v5 - 1))) default))]) (0 + a0_o * 1 + toNat (W (v5 - 1)) * 1) [(iv (v4.getD (a0_o + toNat v5) default))]) (v4.length) v5 (W (v6 + 1))) (by kernel_rfl) ?_
         have z0 : (W (v6 + 1)) = (v6 + 1) := W_eq (by omega) (by omega)
         have z1 : (splice (splice (flat c3 v4) (0 + a0_o * 1 + toNat v5 * 1) [(iv (v4.getD (a0_o + toNat (W (v5 - 1))) default))]) (0 + a0_o * 1 + toNat (W (v5 - 1)) * 1) [(iv (v4.getD (a0_o + toNat v5) default))]) = flat c3 ((v4.set (a0_o + toNat v5) (v4.getD (a0_o + toNat (W (v5 - 1))) default)).set (a0_o + toNat (W (v5 - 1))) (v4.getD (a0_o + toNat v5) default)) := (by rw [show (splice (flat c3 v4) (0 + a0_o * 1 + toNat v5 * 1) [(iv (v4.getD (a0_o + toNat (W (v5 - 1))) default))]) = flat c3 (v4.set (a0_o + toNat v5) (v4.getD (a0_o + toNat (W (v5 - 1))) default)) from (flat_setw c3_len (by first | omega | (simp only [Lt]; omega)) (o := 0) (d := default) (Nb rfl) rfl)]; exact flat_setw c3_len (by first | omega | (simp only [Lt]; omega)) (o := 0) (d := default) (Nb rfl) rfl)
         have z2 : v4.length = ((v4.set (a0_o + toNat v5) (v4.getD (a0_o + toNat (W (v5 - 1))) default)).set (a0_o + toNat (W (v5 - 1))) (v4.getD (a0_o + toNat v5) default)).length := by simp
         rw [z0, z1, z2]
         exact g0 ((v4.set (a0_o + toNat v5) (v4.getD (a0_o + toNat (W (v5 - 1))) default)).set (a0_o + toNat (W (v5 - 1))) (v4.getD (a0_o + toNat v5) default)) v5 (v6 + 1) (by and_intros <;> (try simp only [Lt]) <;> first | omega | assumption | exact hi.2.1 | exact hi.2.2.1 | exact InR.swap hi.2.1 (by omega) (by omega) | exact InR.swap hr (by omega) (by omega)) (by (try simp only [Ls]); omega)
   | false =>
    have q0 := odf h0
    let t1 : List (St Try.prog) := [.d h0]
    cases h1 : ((v5 : Int) == a2) with
    | true =>
     have q1 := eq_of_beq h1
     have e := Eq.refl (S112_W_b77_1 a0 a0_o a0_n a1 a2 a3 (v4, v5, v6)); conv at e => rhs; simp only [S112_W_b77_1, h0, h1, cdb]
     rw [loopF_s, e]
     try dsimp only [thenF]
     try dsimp only
     exact rtm (t1 ++ [.d h1]) [] [0] [] hcx (by kernel_rfl)
    | false =>
     have q1 := ne_of_beq_false h1
     let t2 : List (St Try.prog) := (t1 ++ [.d h1])
     cases h2 : (decide (((W (a2 - a1)) : Int) < 50)) with
     | true =>
      have q2 := odt h2
      have e := Eq.refl (S112_W_b77_1 a0 a0_o a0_n a1 a2 a3 (v4, v5, v6)); conv at e => rhs; simp only [S112_W_b77_1, h0, h1, h2, cdb]
      rw [loopF_s, e]
      try dsimp only [thenF]
      try dsimp only
      exact rtm (t2 ++ [.d h2]) [] [0] [] hcx (by kernel_rfl)
     | false =>
      have q2 := odf h2
      let t3 : List (St Try.prog) := (t2 ++ [.d h2, .i (W (v5 - 1)) a0_n, stLw c3_len v4 a0_o (W (v5 - 1)) 0 1, .i v5 a0_n, stLw c3_len v4 a0_o v5 0 1, .i v5 a0_n, .p (show ((0 + a0_o * 1 + toNat v5 * 1) + 1 ≤ (flat c3 v4).length) from (flat_setwl c3_len (by first | omega | (simp only [Lt]; omega)) (o := 0) (Nb rfl))), .i (W (v5 - 1)) a0_n, .p (show ((0 + a0_o * 1 + toNat (W (v5 - 1)) * 1) + 1 ≤ (splice (flat c3 v4) (0 + a0_o * 1 + toNat v5 * 1) [(iv (v4.getD (a0_o + toNat (W (v5 - 1))) default))]).length) from (by rw [show (splice (flat c3 v4) (0 + a0_o * 1 + toNat v5 * 1) [(iv (v4.getD (a0_o + toNat (W (v5 - 1))) default))]) = flat c3 (v4.set (a0_o + toNat v5) (v4.getD (a0_o + toNat (W (v5 - 1))) default)) from (flat_setw c3_len (by first | omega | (simp only [Lt]; omega)) (o := 0) (d := default) (Nb rfl) rfl)]; exact flat_setwl c3_len (by first | omega | (simp only [Lt]; omega)) (o := 0) (Nb rfl)))])
      cases h3 : (decide (((W (v5 - a1)) : Int) ≥ 2)) with
      | true =>
       have q3 := odt h3
       have e := Eq.refl (S112_W_b77_1 a0 a0_o a0_n a1 a2 a3 (v4, v5, v6)); conv at e => rhs; simp only [S112_W_b77_1, h0, h1, h2, h3, cdb]
       rw [loopF_s, e]
       refine en (t3 ++ [.d h3]) [] [0, 1, 2, 3, 9, 10, 11] [] hcx B112_W_b77_2 (K112_W_b77_2 n0) (st112_W_b77_2 a0 a0_o a0_n a1 a2 a3 (splice (splice (flat c3 v4) (0 + a0_o * 1 + toNat v5 * 1) [(iv (v4.getD (a0_o + toNat (W (v5 - 1))) default))]) (0 + a0_o * 1 + toNat (W (v5 - 1)) * 1) [(iv (v4.getD (a0_o + toNat v5) default))]) (v4.length) v5 v6 (W (v5 - 1))) (toNat (W (v5 - 1)) + 1) (by kernel_rfl) ?_
       have z0 : (splice (splice (flat c3 v4) (0 + a0_o * 1 + toNat v5 * 1) [(iv (v4.getD (a0_o + toNat (W (v5 - 1))) default))]) (0 + a0_o * 1 + toNat (W (v5 - 1)) * 1) [(iv (v4.getD (a0_o + toNat v5) default))]) = flat c3 ((v4.set (a0_o + toNat v5) (v4.getD (a0_o + toNat (W (v5 - 1))) default)).set (a0_o + toNat (W (v5 - 1))) (v4.getD (a0_o + toNat v5) default)) := (by rw [show (splice (flat c3 v4) (0 + a0_o * 1 + toNat v5 * 1) [(iv (v4.getD (a0_o + toNat (W (v5 - 1))) default))]) = flat c3 (v4.set (a0_o + toNat v5) (v4.getD (a0_o + toNat (W (v5 - 1))) default)) from (flat_setw c3_len (by first | omega | (simp only [Lt]; omega)) (o := 0) (d := default) (Nb rfl) rfl)]; exact flat_setw c3_len (by first | omega | (simp only [Lt]; omega)) (o := 0) (d := default) (Nb rfl) rfl)
       have z1 : v4.length = ((v4.set (a0_o + toNat v5) (v4.getD (a0_o + toNat (W (v5 - 1))) default)).set (a0_o + toNat (W (v5 - 1))) (v4.getD (a0_o + toNat v5) default)).length := by simp
       rw [z0, z1]
       exact L112_W_b77_2 a0 a0_o a0_n a1 a2 a3 l0 l3_1_1 l3_1_2_2_1 l3_1_2_2_2 hw hr hab hcx n0 g0 (toNat (W (v5 - 1)) + 1) ((v4.set (a0_o + toNat v5) (v4.getD (a0_o + toNat (W (v5 - 1))) default)).set (a0_o + toNat (W (v5 - 1))) (v4.getD (a0_o + toNat v5) default)) v5 v6 (W (v5 - 1)) (by and_intros <;> (try simp only [Lt]) <;> first | omega | assumption | exact hi.2.1 | exact hi.2.2.1 | exact InR.swap hi.2.1 (by omega) (by omega) | exact InR.swap hr (by omega) (by omega)) (by (try simp only [Ls]); omega)
      | false =>
       have q3 := odf h3
       let t4 : List (St Try.prog) := (t3 ++ [.d h3])
       cases h4 : (decide (((W (a2 - v5)) : Int) ≥ 2)) with
       | true =>
        have q4 := odt h4
        have e := Eq.refl (S112_W_b77_1 a0 a0_o a0_n a1 a2 a3 (v4, v5, v6)); conv at e => rhs; simp only [S112_W_b77_1, h0, h1, h2, h3, h4, cdb]
        rw [loopF_s, e]
        refine en (t4 ++ [.d h4]) [] [0, 1, 2, 3, 9, 10, 12] [] hcx B112_W_b77_3 (K112_W_b77_3 n0) (st112_W_b77_3 a0 a0_o a0_n a1 a2 a3 (splice (splice (flat c3 v4) (0 + a0_o * 1 + toNat v5 * 1) [(iv (v4.getD (a0_o + toNat (W (v5 - 1))) default))]) (0 + a0_o * 1 + toNat (W (v5 - 1)) * 1) [(iv (v4.getD (a0_o + toNat v5) default))]) (v4.length) v5 v6 (W (v5 + 1))) (toNat (a2 - (v5 + 1)) + 1) (by kernel_rfl) ?_
        have z0 : (W (v5 + 1)) = (v5 + 1) := W_eq (by omega) (by omega)
        have z1 : (splice (splice (flat c3 v4) (0 + a0_o * 1 + toNat v5 * 1) [(iv (v4.getD (a0_o + toNat (W (v5 - 1))) default))]) (0 + a0_o * 1 + toNat (W (v5 - 1)) * 1) [(iv (v4.getD (a0_o + toNat v5) default))]) = flat c3 ((v4.set (a0_o + toNat v5) (v4.getD (a0_o + toNat (W (v5 - 1))) default)).set (a0_o + toNat (W (v5 - 1))) (v4.getD (a0_o + toNat v5) default)) := (by rw [show (splice (flat c3 v4) (0 + a0_o * 1 + toNat v5 * 1) [(iv (v4.getD (a0_o + toNat (W (v5 - 1))) default))]) = flat c3 (v4.set (a0_o + toNat v5) (v4.getD (a0_o + toNat (W (v5 - 1))) default)) from (flat_setw c3_len (by first | omega | (simp only [Lt]; omega)) (o := 0) (d := default) (Nb rfl) rfl)]; exact flat_setw c3_len (by first | omega | (simp only [Lt]; omega)) (o := 0) (d := default) (Nb rfl) rfl)
        have z2 : v4.length = ((v4.set (a0_o + toNat v5) (v4.getD (a0_o + toNat (W (v5 - 1))) default)).set (a0_o + toNat (W (v5 - 1))) (v4.getD (a0_o + toNat v5) default)).length := by simp
        rw [z0, z1, z2]
        exact L112_W_b77_3 a0 a0_o a0_n a1 a2 a3 l0 l3_1_1 l3_1_2_2_1 l3_1_2_2_2 hw hr hab hcx n0 g0 (toNat (a2 - (v5 + 1)) + 1) ((v4.set (a0_o + toNat v5) (v4.getD (a0_o + toNat (W (v5 - 1))) default)).set (a0_o + toNat (W (v5 - 1))) (v4.getD (a0_o + toNat v5) default)) v5 v6 (v5 + 1) (by and_intros <;> (try simp only [Lt]) <;> first | omega | assumption | exact hi.2.1 | exact hi.2.2.1 | exact InR.swap hi.2.1 (by omega) (by omega) | exact InR.swap hr (by omega) (by omega)) (by (try simp only [Ls]); omega)
       | false =>
        have q4 := odf h4
        have e := Eq.refl (S112_W_b77_1 a0 a0_o a0_n a1 a2 a3 (v4, v5, v6)); conv at e => rhs; simp only [S112_W_b77_1, h0, h1, h2, h3, h4, cdb]
        rw [loopF_s, e]
        refine ba (t4 ++ [.d h4]) [] [0, 1, 2, 3, 9, 10] [] hcx (m := n0) B112_W_b77_0 (K112_W_b77_0) (st112_W_b77_0 a0 a0_o a0_n a1 a2 a3 (splice (splice (flat c3 v4) (0 + a0_o * 1 + toNat v5 * 1) [(iv (v4.getD (a0_o + toNat (W (v5 - 1))) default))]) (0 + a0_o * 1 + toNat (W (v5 - 1)) * 1) [(iv (v4.getD (a0_o + toNat v5) default))]) (v4.length) v5 (W (v6 + 1))) (by kernel_rfl) ?_
        have z0 : (W (v6 + 1)) = (v6 + 1) := W_eq (by omega) (by omega)
        have z1 : (splice (splice (flat c3 v4) (0 + a0_o * 1 + toNat v5 * 1) [(iv (v4.getD (a0_o + toNat (W (v5 - 1))) default))]) (0 + a0_o * 1 + toNat (W (v5 - 1)) * 1) [(iv (v4.getD (a0_o + toNat v5) default))]) = flat c3 ((v4.set (a0_o + toNat v5) (v4.getD (a0_o + toNat (W (v5 - 1))) default)).set (a0_o + toNat (W (v5 - 1))) (v4.getD (a0_o + toNat v5) default)) := (by rw [show (splice (flat c3 v4) (0 + a0_o * 1 + toNat v5 * 1) [(iv (v4.getD (a0_o + toNat (W (v5 - 1))) default))]) = flat c3 (v4.set (a0_o + toNat v5) (v4.getD (a0_o + toNat (W (v5 - 1))) default)) from (flat_setw c3_len (by first | omega | (simp only [Lt]; omega)) (o := 0) (d := default) (Nb rfl) rfl)]; exact flat_setw c3_len (by first | omega | (simp only [Lt]; omega)) (o := 0) (d := default) (Nb rfl) rfl)
        have z2 : v4.length = ((v4.set (a0_o + toNat v5) (v4.getD (a0_o + toNat (W (v5 - 1))) default)).set (a0_o + toNat (W (v5 - 1))) (v4.getD (a0_o + toNat v5) default)).length := by simp
        rw [z0, z1, z2]
        exact g0 ((v4.set (a0_o + toNat v5) (v4.getD (a0_o + toNat (W (v5 - 1))) default)).set (a0_o + toNat (W (v5 - 1))) (v4.getD (a0_o + toNat v5) default)) v5 (v6 + 1) (by and_intros <;> (try simp only [Lt]) <;> first | omega | assumption | exact hi.2.1 | exact hi.2.2.1 | exact InR.swap hi.2.1 (by omega) (by omega) | exact InR.swap hr (by omega) (by omega)) (by (try simp only [Ls]); omega)

theorem L112_W_b77_0 (a0 : List (Int)) (a0_o : Nat) (a0_n : Nat) (a1 : Int) (a2 : Int) (a3 : TyB × Int) (l0 : a0.length ≤ 9223372036854775807) (l3_1_1 : a3.1.1.length ≤ 9223372036854775807) (l3_1_2_2_1 : a3.1.2.2.1.length ≤ 9223372036854775807) (l3_1_2_2_2 : a3.1.2.2.2.length ≤ 9223372036854775807) (hw : a0_o + a0_n ≤ a0.length ∧ a0.length ≤ 1048576) (hr : InR a3.1.1.length a0) (hab : 0 ≤ a1 ∧ a1 < a2 ∧ a2 ≤ ↑a0_n) {cx : Cx} (hcx : cx.base = 4) : ∀ (n : Nat) (v1 : List (Int)) (v2 v3 : Int), (v1.length = a0.length) ∧ (InR a3.1.1.length v1) ∧ (a1 < v2) ∧ (v2 ≤ a2) ∧ (0 ≤ v3) ∧ (v3 ≤ 5) → toNat (5 - v3) < n → Aw.Good Try.prog none 9 (bodyPost Try.prog Try.f112 (RR cx (.v (.bool (loopF (S112_W_b77_0 a0 a0_o a0_n a1 a2 a3) n (v1, v2, v3)).1)) [] [(.live true true (flat c3 (loopF (S112_W_b77_0 a0 a0_o a0_n a1 a2 a3) n (v1, v2, v3)).2)), .un, .un, .un])) cx [] (.l B112_W_b77_0 n :: K112_W_b77_0) (st112_W_b77_0 a0 a0_o a0_n a1 a2 a3 (flat c3 v1) v1.length v2 v3) := by
 intro n
 induction n with
 | zero => intro v1 v2 v3 hi hn; exact absurd hn (nlz _)
 | succ n ih =>
   intro v1 v2 v3 hi hn
   refine good_round ?_
   have hw_0 : W (v2 - 1) = v2 - 1 := (W_eq (n := v2 - 1) (by omega) (by omega)).trans (by omega)
   have hw_1 : W (v2 + 1) = v2 + 1 := (W_eq (n := v2 + 1) (by omega) (by omega)).trans (by omega)
   have hw_2 : W (v3 + 1) = v3 + 1 := (W_eq (n := v3 + 1) (by omega) (by omega)).trans (by omega)
   have hw_3 : W (a2 - a1) = a2 - a1 := (W_eq (n := a2 - a1) (by omega) (by omega)).trans (by omega)
   have hw_4 : W (v2 - a1) = v2 - a1 := (W_eq (n := v2 - a1) (by omega) (by omega)).trans (by omega)
   have hw_5 : W (a2 - v2) = a2 - v2 := (W_eq (n := a2 - v2) (by omega) (by omega)).trans (by omega)
   cases h0 : (decide ((v3 : Int) < 5)) with
   | true =>
    have q0 := odt h0
    have e := Eq.refl (S112_W_b77_0 a0 a0_o a0_n a1 a2 a3 (v1, v2, v3)); conv at e => rhs; simp only [S112_W_b77_0, h0, cdb]
    rw [loopF_s, e]
    refine en [.d h0] [] [0, 1, 2, 3, 9, 10] [] hcx B112_W_b77_1 (K112_W_b77_1 n) (st112_W_b77_1 a0 a0_o a0_n a1 a2 a3 (flat c3 v1) (v1.length) v2 v3) (toNat (a2 - v2) + 1) (by kernel_rfl) ?_
    exact L112_W_b77_1 a0 a0_o a0_n a1 a2 a3 l0 l3_1_1 l3_1_2_2_1 l3_1_2_2_2 hw hr hab hcx n ih (toNat (a2 - v2) + 1) v1 v2 v3 (by and_intros <;> (try simp only [Lt]) <;> first | omega | assumption | exact hi.2.1 | exact hi.2.2.1 | exact InR.swap hi.2.1 (by omega) (by omega) | exact InR.swap hr (by omega) (by omega)) (by (try simp only [Ls]); omega)
   | false =>
    have q0 := odf h0
    have e := Eq.refl (S112_W_b77_0 a0 a0_o a0_n a1 a2 a3 (v1, v2, v3)); conv at e => rhs; simp only [S112_W_b77_0, h0, cdb]
    rw [loopF_s, e]
    try dsimp only [thenF]
    try dsimp only
    exact rtm [.d h0] [] [0] [] hcx (by kernel_rfl)

def F112_W_b77 (a0 : List (Int)) (a0_o : Nat) (a0_n : Nat) (a1 : Int) (a2 : Int) (a3 : TyB × Int) : Bool × List (Int) :=
 (loopF (S112_W_b77_0 a0 a0_o a0_n a1 a2 a3) (toNat (5 - 0) + 1) (a0, (W (a1 + 1)), 0))

theorem C112_W_b77 (a0 : List (Int)) (a0_o : Nat) (a0_n : Nat) (a1 : Int) (a2 : Int) (a3 : TyB × Int) (l0 : a0.length ≤ 9223372036854775807) (l3_1_1 : a3.1.1.length ≤ 9223372036854775807) (l3_1_2_2_1 : a3.1.2.2.1.length ≤ 9223372036854775807) (l3_1_2_2_2 : a3.1.2.2.2.length ≤ 9223372036854775807) (hw : a0_o + a0_n ≤ a0.length ∧ a0.length ≤ 1048576) (hr : InR a3.1.1.length a0) (hab : 0 ≤ a1 ∧ a1 < a2 ∧ a2 ≤ ↑a0_n) : Con Try.prog 112 [(.s 0 (0 + a0_o * 1) a0_n 1), (iv a1), (iv a2), (.f 1000077 [(.a [(.p 1 0), (iv a3.2)])])] [(.live true true (flat c3 a0)), (.live false false [(.s 2 0 a3.1.1.length 10), (iv a3.1.2.1), (.s 0 0 a0.length 1), (.s 3 0 a3.1.2.2.2.length 8)]), (.live false true (flat c81 a3.1.1)), (.live false true (flat c40 a3.1.2.2.2))] (.v (.bool (F112_W_b77 a0 a0_o a0_n a1 a2 a3).1)) [] [(.live true true (flat c3 (F112_W_b77 a0 a0_o a0_n a1 a2 a3).2)), .un, .un, .un] := by
 refine con_s Try.func112 (by kernel_rfl) fun cx hcx => ?_
 have hw_0 : W (a1 + 1) = a1 + 1 := (W_eq (n := a1 + 1) (by omega) (by omega)).trans (by omega)
 have e := Eq.refl (F112_W_b77 a0 a0_o a0_n a1 a2 a3); conv at e => rhs; simp only [F112_W_b77]
 rw [e]
 refine en [] [] [0, 1, 2, 3, 9, 10] [] hcx B112_W_b77_0 (K112_W_b77_0) (st112_W_b77_0 a0 a0_o a0_n a1 a2 a3 (flat c3 a0) (a0.length) (W (a1 + 1)) 0) (toNat (5 - 0) + 1) (by kernel_rfl) ?_
 exact L112_W_b77_0 a0 a0_o a0_n a1 a2 a3 l0 l3_1_1 l3_1_2_2_1 l3_1_2_2_2 hw hr hab hcx (toNat (5 - 0) + 1) a0 (W (a1 + 1)) 0 (by and_intros <;> (try simp only [Lt]) <;> first | omega | assumption | exact hi.2.1 | exact hi.2.2.1 | exact InR.swap hi.2.1 (by omega) (by omega) | exact InR.swap hr (by omega) (by omega)) (by (try simp only [Ls]); omega)


def F124_W_b77 (a0 : List (Int)) (a0_o : Nat) (a0_n : Nat) (a1 : Int) (a2 : Int) (a3 : Int) (a4 : TyB × Int) : Int × Int × Int :=
 (bif (decide (((F77 ((a4.1.1, a4.1.2.1, (a0, a4.1.2.2.2)), a4.2) (a0.getD (a0_o + toNat a2) default) (a0.getD (a0_o + toNat a1) default)) : Int) < 0)) then
  (a2, a1, (W (a3 + 1)))
 else
  (a1, a2, a3))

theorem C124_W_b77 (a0 : List (Int)) (a0_o : Nat) (a0_n : Nat) (a1 : Int) (a2 : Int) (a3 : Int) (a4 : TyB × Int) (l0 : a0.length ≤ 9223372036854775807) (l4_1_1 : a4.1.1.length ≤ 9223372036854775807) (l4_1_2_2_1 : a4.1.2.2.1.length ≤ 9223372036854775807) (l4_1_2_2_2 : a4.1.2.2.2.length ≤ 9223372036854775807) (hw : a0_o + a0_n ≤ a0.length ∧ a0.length ≤ 1048576) (hr : InR a4.1.1.length a0) (hab : 0 ≤ a1 ∧ a1 < ↑a0_n ∧ 0 ≤ a2 ∧ a2 < ↑a0_n) : Con Try.prog 124 [(.s 0 (0 + a0_o * 1) a0_n 1), (iv a1), (iv a2), (.p 1 0), (.f 1000077 [(.a [(.p 2 0), (iv a4.2)])])] [(.live false true (flat c3 a0)), (.live true false [(iv a3)]), (.live false false [(.s 3 0 a4.1.1.length 10), (iv a4.1.2.1), (.s 0 0 a0.length 1), (.s 4 0 a4.1.2.2.2.length 8)]), (.live false true (flat c81 a4.1.1)), (.live false true (flat c40 a4.1.2.2.2))] (.t [(iv (F124_W_b77 a0 a0_o a0_n a1 a2 a3 a4).1), (iv (F124_W_b77 a0 a0_o a0_n a1 a2 a3 a4).2.1)]) [] [.un, (.live true false [(iv (F124_W_b77 a0 a0_o a0_n a1 a2 a3 a4).2.2)]), .un, .un, .un] := by
 refine con_s Try.func124 (by kernel_rfl) fun cx hcx => ?_
 let t0 : List (St Try.prog) := [.i a2 a0_n, stLw c3_len a0 a0_o a2 0 1, .i a1 a0_n, stLw c3_len a0 a0_o a1 0 1, .c [2, 3, 0, 4] (C77 ((a4.1.1, a4.1.2.1, (a0, a4.1.2.2.2)), a4.2) (a0.getD (a0_o + toNat a2) default) (a0.getD (a0_o + toNat a1) default) (by (try simp only [Lt]); omega) (by (try simp only [Lt]); omega) (by (try simp only [Lt]); omega) (hr.at (by omega)) (hr.at (by omega)))]
 cases h0 : (decide (((F77 ((a4.1.1, a4.1.2.1, (a0, a4.1.2.2.2)), a4.2) (a0.getD (a0_o + toNat a2) default) (a0.getD (a0_o + toNat a1) default)) : Int) < 0)) with
 | true =>
  have q0 := odt h0
  have e := Eq.refl (F124_W_b77 a0 a0_o a0_n a1 a2 a3 a4); conv at e => rhs; simp only [F124_W_b77, h0, cdb]
  rw [e]
  try dsimp only [thenF]
  try dsimp only
  exact rtm (t0 ++ [.d h0]) [] [1] [] hcx (by kernel_rfl)
 | false =>
  have q0 := odf h0
  have e := Eq.refl (F124_W_b77 a0 a0_o a0_n a1 a2 a3 a4); conv at e => rhs; simp only [F124_W_b77, h0, cdb]
  rw [e]
  try dsimp only [thenF]
  try dsimp only
  exact rtm (t0 ++ [.d h0]) [] [1] [] hcx (by kernel_rfl)


abbrev SBC := TyB × Int
def ltc (c : SBC) (x y : Int) : Bool := decide (F77 c x y < 0)
theorem ord_irr (c : SBC) (v : List Int) (x y : Int) : F77 ((c.1.1, c.1.2.1, (v, c.1.2.2.2)), c.2) x y = F77 c x y := rfl
theorem ltc_def (c : SBC) (x y : Int) : decide (F77 c x y < 0) = ltc c x y := rfl
def wp (l : List Int) (o : Nat) (d : Array Int) : List Int := l.take o ++ d.toList ++ l.drop (o + d.size)
def wArr (l : List Int) (o n : Nat) : Array Int := ((l.drop o).take n).toArray
theorem wArr_size {l : List Int} {o n : Nat} (h : o + n ≤ l.length) : (wArr l o n).size = n := by unfold wArr; simp; omega
section
variable {l : List Int} {o : Nat} {d : Array Int}
theorem wp_len (h : o + d.size ≤ l.length) : (wp l o d).length = l.length := by unfold wp; simp; omega
theorem wp_get (h : o + d.size ≤ l.length) {i : Nat} (hi : i < d.size) : (wp l o d).getD (o + i) default = d[i]! := by
 unfold wp
 have h1 : (l.take o ++ d.toList).length = o + d.size := by simp; omega
 rw [gdq, List.getElem?_append_left (by omega), List.getElem?_append_right (by simp; omega)]
 rw [show o + i - (l.take o).length = i by simp; omega]
 rw [getElem!_pos d i hi]
 simp [hi]
theorem wp_set (h : o + d.size ≤ l.length) {i : Nat} (hi : i < d.size) (x : Int) : (wp l o d).set (o + i) x = wp l o (d.setIfInBounds i x) := by
 unfold wp
 have h0 : (l.take o).length = o := by simp; omega
 rw [List.append_assoc, List.set_append_right _ _ (by omega), h0, show o + i - o = i by omega, List.set_append_left _ _ (by simpa using hi), List.append_assoc, Array.toList_setIfInBounds, Array.size_setIfInBounds]
theorem wp_swp (h : o + d.size ≤ l.length) {i j : Nat} (hi : i < d.size) (hj : j < d.size) :
   ((wp l o d).set (o + i) ((wp l o d).getD (o + j) default)).set (o + j) ((wp l o d).getD (o + i) default) = wp l o (Go.Sort.swp d i j) := by
 rw [wp_get h hi, wp_get h hj, wp_set h hi, wp_set (by simpa using h) (by simpa using hj)]
 rfl
theorem wp_win {n : Nat} (h : o + n ≤ l.length) : wp l o (wArr l o n) = l := by
 unfold wp
 rw [wArr_size h]
 unfold wArr
 have : (l.drop o).drop n = l.drop (o + n) := by rw [List.drop_drop]
 rw [← this, List.append_assoc]
 show l.take o ++ ((l.drop o).take n ++ (l.drop o).drop n) = l
 rw [List.take_append_drop, List.take_append_drop]
theorem swp_size (d : Array Int) (i j : Nat) : (Go.Sort.swp d i j).size = d.size := by simp [Go.Sort.swp]
theorem wN {x : Int} {n : Nat} (h : x = (n : Int)) (hn : n ≤ 4611686018427387904) : W x = (n : Int) := by rw [h]; exact W_eq (by omega) (by omega)
end

end Go.Proofs.Ytnbpiejjeeomkaa

namespace Go.Proofs.Ytnbpiejjeeomkaa
open Go.Proofs Go.Aw Go.RowKit
set_option maxRecDepth 100000

section
variable {N o n hi first : Nat} {l l0 : List Int} {a1 : Int} {c : SBC}
theorem sd_loop (hl : o + n ≤ l.length) (hfh : first + hi ≤ n) (hn : n ≤ 1048576) : ∀ (m : Nat) (d : Array Int) (root : Nat), d.size = n → root ≤ 1048576 → hi - root < m →
   loopF (S119_W_b77_0 l0 o n a1 (hi : Int) (first : Int) c) m (wp l o d, (root : Int)) = wp l o (Go.Sort.siftDown (ltc c) hi first root d) ∧ (InR N (wp l o d) → InR N (wp l o (Go.Sort.siftDown (ltc c) hi first root d))) ∧ (Go.Sort.siftDown (ltc c) hi first root d).size = n
 | 0, d, root, _, _, h => absurd h (nlz _)
 | m + 1, d, root, hd, hr, hm => by
   have e1 : W ((W (2 * (root : Int))) + 1) = ((2 * root + 1 : Nat) : Int) := by rw [wN (x := 2 * (root : Int)) (n := 2 * root) (by omega) (by omega)]; exact wN (by omega) (by omega)
   have e2 : W (((2 * root + 1 : Nat) : Int) + 1) = ((2 * root + 2 : Nat) : Int) := wN (by omega) (by omega)
   have e3 : W ((first : Int) + (root : Int)) = ((first + root : Nat) : Int) := wN (by omega) (by omega)
   have e4 : W ((first : Int) + ((2 * root + 1 : Nat) : Int)) = ((first + (2 * root + 1) : Nat) : Int) := wN (by omega) (by omega)
   have e5 : W ((first : Int) + ((2 * root + 2 : Nat) : Int)) = ((first + (2 * root + 2) : Nat) : Int) := wN (by omega) (by omega)
   have e6 : W (((first + (2 * root + 1) : Nat) : Int) + 1) = ((first + (2 * root + 2) : Nat) : Int) := wN (by omega) (by omega)
   have hl' : o + d.size ≤ l.length := by omega
   rw [Go.Sort.siftDown]
   by_cases h1 : 2 * root + 1 ≥ hi
   · rw [dif_pos h1]
     refine ⟨loopF_inr ?_, id, hd⟩
     simp only [S119_W_b77_0, e1]
     rw [dqt (by omega), cond_true]
   · rw [dif_neg h1]
     have g1 := wp_get hl' (i := first + (2 * root + 1)) (by omega)
     have g0 := wp_get hl' (i := first + root) (by omega)
     have one : ∀ k, k < hi → root < k → ((S119_W_b77_0 l0 o n a1 (hi : Int) (first : Int) c (wp l o d, (root : Int)) = (bif (!ltc c d[first + root]! d[first + k]!) then .inr (wp l o d) else .inl (wp l o (Go.Sort.swp d (first + root) (first + k)), (k : Int)))) →
         loopF (S119_W_b77_0 l0 o n a1 (hi : Int) (first : Int) c) (m + 1) (wp l o d, (root : Int)) = wp l o (if !ltc c d[first + root]! d[first + k]! then d else Go.Sort.siftDown (ltc c) hi first k (Go.Sort.swp d (first + root) (first + k))) ∧ (InR N (wp l o d) → InR N (wp l o (if !ltc c d[first + root]! d[first + k]! then d else Go.Sort.siftDown (ltc c) hi first k (Go.Sort.swp d (first + root) (first + k))))) ∧ (if !ltc c d[first + root]! d[first + k]! then d else Go.Sort.siftDown (ltc c) hi first k (Go.Sort.swp d (first + root) (first + k))).size = n) := fun k hk hrk e => by
       cases q : ltc c d[first + root]! d[first + k]! with
       | false =>
         rw [q] at e
         exact ⟨loopF_inr e, id, hd⟩
       | true =>
         rw [q] at e
         have e' : S119_W_b77_0 l0 o n a1 (hi : Int) (first : Int) c (wp l o d, (root : Int)) = .inl (wp l o (Go.Sort.swp d (first + root) (first + k)), (k : Int)) := e
         rw [loopF_inl e']
         simp only [Bool.not_true, Bool.false_eq_true, if_false]
         have ih := sd_loop hl hfh hn m (Go.Sort.swp d (first + root) (first + k)) k (by rw [swp_size]; exact hd) (by omega) (by omega)
         refine ⟨ih.1, fun hI => ih.2.1 ?_, ih.2.2⟩
         rw [← wp_swp hl' (by omega) (by omega)]
         exact hI.swap (by rw [wp_len hl']; omega) (by rw [wp_len hl']; omega)
     have big : S119_W_b77_0 l0 o n a1 (hi : Int) (first : Int) c (wp l o d, (root : Int)) =
         if 2 * root + 1 + 1 < hi && ltc c d[first + (2 * root + 1)]! d[first + (2 * root + 1) + 1]! then (bif (!ltc c d[first + root]! d[first + (2 * root + 2)]!) then .inr (wp l o d) else .inl (wp l o (Go.Sort.swp d (first + root) (first + (2 * root + 2))), ((2 * root + 2 : Nat) : Int)))
         else (bif (!ltc c d[first + root]! d[first + (2 * root + 1)]!) then .inr (wp l o d) else .inl (wp l o (Go.Sort.swp d (first + root) (first + (2 * root + 1))), ((2 * root + 1 : Nat) : Int))) := by
       simp only [S119_W_b77_0, e1, e2, e3, e4, e5, e6, itn, ord_irr, ltc_def, g1, g0]
       rw [dqf (show ¬ ((2 * root + 1 : Nat) : Int) ≥ (hi : Int) by omega), cond_false, wp_swp hl' (i := first + root) (j := first + (2 * root + 1)) (by omega) (by omega) |>.symm, g1, g0]
       by_cases h2 : 2 * root + 2 < hi
       · have g2 := wp_get hl' (i := first + (2 * root + 2)) (by omega)
         rw [dqt (show ((2 * root + 2 : Nat) : Int) < (hi : Int) by omega), cond_true, g2, dqt (show 2 * root + 1 + 1 < hi from h2), Bool.true_and, wp_swp hl' (i := first + root) (j := first + (2 * root + 2)) (by omega) (by omega) |>.symm, g2, g0]
         show _ = if ltc c d[first + (2 * root + 1)]! d[first + (2 * root + 2)]! = true then _ else _
         cases ltc c d[first + (2 * root + 1)]! d[first + (2 * root + 2)]! <;> rfl
       · rw [dqf (show ¬ ((2 * root + 2 : Nat) : Int) < (hi : Int) by omega), cond_false, dqf (show ¬ 2 * root + 1 + 1 < hi from h2), Bool.false_and]
         rfl
     by_cases h2 : (2 * root + 1 + 1 < hi && ltc c d[first + (2 * root + 1)]! d[first + (2 * root + 1) + 1]!) = true
     · rw [if_pos h2] at big
       have hlt : 2 * root + 2 < hi := by simp at h2; omega
       rw [if_pos h2]
       simp only [hlt, dite_true]
       exact one _ hlt (by omega) big
     · rw [if_neg h2] at big
       rw [if_neg h2]
       exact one _ (by omega) (by omega) big
theorem sd_eq (hl : o + n ≤ l.length) (hn : n ≤ 1048576) (lo : Int) (hlo : 0 ≤ lo ∧ lo ≤ 1048576) (hif : (0 : Int) ≤ hi ∧ first + hi ≤ n) (hI : InR N l) :
   F119_W_b77 l o n lo (hi : Int) (first : Int) c = wp l o (Go.Sort.siftDown (ltc c) hi first lo.toNat (wArr l o n)) ∧ InR N (F119_W_b77 l o n lo (hi : Int) (first : Int) c) ∧ (Go.Sort.siftDown (ltc c) hi first lo.toNat (wArr l o n)).size = n := by
 unfold F119_W_b77
 have := sd_loop (N := N) (l := l) (l0 := l) (o := o) (n := n) (a1 := lo) (hi := hi) (first := first) (c := c) hl hif.2 hn (toNat ((hi : Int) - lo) + 1) (wArr l o n) lo.toNat (wArr_size hl) (by omega) (by omega)
 rw [wp_win hl, Int.toNat_of_nonneg hlo.1] at this
 refine ⟨this.1, ?_, this.2.2⟩
 rw [this.1]; exact this.2.1 hI
theorem sd_wp {d : Array Int} {lo : Nat} (hl : o + n ≤ l.length) (hn : n ≤ 1048576) (hlo : lo ≤ 1048576) (hf : first + hi ≤ n) (hd : d.size = n) :
   F119_W_b77 (wp l o d) o n (lo : Int) (hi : Int) (first : Int) c = wp l o (Go.Sort.siftDown (ltc c) hi first lo d) ∧ (Go.Sort.siftDown (ltc c) hi first lo d).size = n := by
 unfold F119_W_b77
 have := sd_loop (N := 0) (l := l) (l0 := wp l o d) (o := o) (n := n) (a1 := (lo : Int)) (hi := hi) (first := first) (c := c) hl hf hn (toNat ((hi : Int) - (lo : Int)) + 1) d lo hd hlo (by omega)
 exact ⟨this.1, this.2.2⟩
end
theorem sd_in {N o n : Nat} {l : List Int} {lo hi first : Int} {c : SBC} (hl : o + n ≤ l.length) (hn : n ≤ 1048576) (hlo : 0 ≤ lo ∧ lo ≤ 1048576) (h0 : 0 ≤ hi ∧ 0 ≤ first ∧ first + hi ≤ n) (hI : InR N l) :
   (F119_W_b77 l o n lo hi first c).length = l.length ∧ InR N (F119_W_b77 l o n lo hi first c) := by
 obtain ⟨hi, rfl⟩ : ∃ k : Nat, hi = k := ⟨hi.toNat, by omega⟩
 obtain ⟨first, rfl⟩ : ∃ k : Nat, first = k := ⟨first.toNat, by omega⟩
 have := sd_eq (c := c) hl hn lo hlo (hi := hi) (first := first) (by omega) hI
 refine ⟨?_, this.2.1⟩
 rw [this.1, wp_len (by rw [this.2.2]; exact hl)]
theorem hp_mid {n : Int} (h : 0 ≤ n ∧ n ≤ 1048576) : W (Int.tdiv (W (n - 1)) 2) = (n + 1) / 2 - 1 ∨ n = 0 ∧ W (Int.tdiv (W (n - 1)) 2) = 0 := by
 by_cases h0 : n = 0
 · subst h0; right; exact ⟨rfl, by decide⟩
 · left
   rw [W_eq (n := n - 1) (by omega) (by omega), Int.tdiv_eq_ediv_of_nonneg (by omega), W_eq (by omega) (by omega)]
   omega

end Go.Proofs.Ytnbpiejjeeomkaa

namespace Go.Proofs.Ytnbpiejjeeomkaa
open Go.Proofs Go.Aw Go.RowKit
set_option maxRecDepth 100000

noncomputable def B108_W_b77_1 : Code := (loopAtD [1, 1, 1, 1, 1] [] (bodyOf Try.f108) []).1
noncomputable def K108_W_b77_1 : List K := (loopAtD [1, 1, 1, 1, 1] [] (bodyOf Try.f108) []).2

def st108_W_b77_1 (a0 : List (Int)) (a0_o : Nat) (a0_n : Nat) (a1 : Int) (a2 : Int) (a3 : TyB × Int) (v4c : List SV) (v4n : Nat) (v5 : Int) : LS := ⟨slN 60 [(0, (.s 0 (0 + a0_o * 1) a0_n 1)), (3, (.f 1000077 [(.a [(.p 1 0), (iv a3.2)])])), (8, (iv a1)), (9, (iv 0)), (12, (iv v5))], [(.live true true v4c), (.live false false [(.s 2 0 a3.1.1.length 10), (iv a3.1.2.1), (.s 0 0 v4n 1), (.s 3 0 a3.1.2.2.2.length 8)]), (.live false true (flat c81 a3.1.1)), (.live false true (flat c40 a3.1.2.2.2))]⟩

def S108_W_b77_1 (a0 : List (Int)) (a0_o : Nat) (a0_n : Nat) (a1 : Int) (a2 : Int) (a3 : TyB × Int) : List (Int) × Int → (List (Int) × Int) ⊕ (List (Int))
 | (v4, v5) =>
  (bif (decide ((v5 : Int) ≥ 0)) then
   (.inl ((F119_W_b77 ((v4.set (a0_o + toNat a1) (v4.getD (a0_o + toNat (W (a1 + v5))) default)).set (a0_o + toNat (W (a1 + v5))) (v4.getD (a0_o + toNat a1) default)) a0_o a0_n 0 v5 a1 ((a3.1.1, a3.1.2.1, (((v4.set (a0_o + toNat a1) (v4.getD (a0_o + toNat (W (a1 + v5))) default)).set (a0_o + toNat (W (a1 + v5))) (v4.getD (a0_o + toNat a1) default)), a3.1.2.2.2)), a3.2)), (W (v5 - 1))))
  else
   (.inr v4))

noncomputable def B108_W_b77_0 : Code := (loopAtD [1, 1, 1, 0, 1] [] (bodyOf Try.f108) []).1
noncomputable def K108_W_b77_0 : List K := (loopAtD [1, 1, 1, 0, 1] [] (bodyOf Try.f108) []).2

def st108_W_b77_0 (a0 : List (Int)) (a0_o : Nat) (a0_n : Nat) (a1 : Int) (a2 : Int) (a3 : TyB × Int) (v1c : List SV) (v1n : Nat) (v2 : Int) : LS := ⟨slN 60 [(0, (.s 0 (0 + a0_o * 1) a0_n 1)), (3, (.f 1000077 [(.a [(.p 1 0), (iv a3.2)])])), (8, (iv a1)), (9, (iv 0)), (10, (iv (W (a2 - a1)))), (11, (iv v2))], [(.live true true v1c), (.live false false [(.s 2 0 a3.1.1.length 10), (iv a3.1.2.1), (.s 0 0 v1n 1), (.s 3 0 a3.1.2.2.2.length 8)]), (.live false true (flat c81 a3.1.1)), (.live false true (flat c40 a3.1.2.2.2))]⟩

def S108_W_b77_0 (a0 : List (Int)) (a0_o : Nat) (a0_n : Nat) (a1 : Int) (a2 : Int) (a3 : TyB × Int) : List (Int) × Int → (List (Int) × Int) ⊕ (List (Int))
 | (v1, v2) =>
  (bif (decide ((v2 : Int) ≥ 0)) then
   (.inl ((F119_W_b77 v1 a0_o a0_n v2 (W (a2 - a1)) a1 ((a3.1.1, a3.1.2.1, (v1, a3.1.2.2.2)), a3.2)), (W (v2 - 1))))
  else
   (.inr (loopF (S108_W_b77_1 a0 a0_o a0_n a1 a2 a3) (toNat ((W ((W (a2 - a1)) - 1)) + 1) + 1) (v1, (W ((W (a2 - a1)) - 1))))))

theorem L108_W_b77_1 (a0 : List (Int)) (a0_o : Nat) (a0_n : Nat) (a1 : Int) (a2 : Int) (a3 : TyB × Int) (l0 : a0.length ≤ 9223372036854775807) (l3_1_1 : a3.1.1.length ≤ 9223372036854775807) (l3_1_2_2_1 : a3.1.2.2.1.length ≤ 9223372036854775807) (l3_1_2_2_2 : a3.1.2.2.2.length ≤ 9223372036854775807) (hw : a0_o + a0_n ≤ a0.length ∧ a0.length ≤ 1048576) (hr : InR a3.1.1.length a0) (hab : 0 ≤ a1 ∧ a1 ≤ a2 ∧ a2 ≤ ↑a0_n) {cx : Cx} (hcx : cx.base = 4) : ∀ (n : Nat) (v4 : List (Int)) (v5 : Int), (v4.length = a0.length) ∧ (InR a3.1.1.length v4) ∧ (-1 ≤ v5) ∧ (v5 < a2 - a1) → toNat (v5 + 1) < n → Aw.Good Try.prog none 9 (bodyPost Try.prog Try.f108 (RR cx (.t []) [] [(.live true true (flat c3 (loopF (S108_W_b77_1 a0 a0_o a0_n a1 a2 a3) n (v4, v5)))), .un, .un, .un])) cx [] (.l B108_W_b77_1 n :: K108_W_b77_1) (st108_W_b77_1 a0 a0_o a0_n a1 a2 a3 (flat c3 v4) v4.length v5) := by
 intro n
 induction n with
 | zero => intro v4 v5 hi hn; exact absurd hn (nlz _)
 | succ n ih =>
   intro v4 v5 hi hn
   refine good_round ?_
   have hw_0 : W (a2 - a1) = a2 - a1 := (W_eq (n := a2 - a1) (by omega) (by omega)).trans (by omega)
   have hw_1 : W ((W (a2 - a1)) - 1) = a2 - a1 - 1 := (W_eq (n := (W (a2 - a1)) - 1) (by omega) (by omega)).trans (by omega)
   have hw_2 : W (v5 - 1) = v5 - 1 := (W_eq (n := v5 - 1) (by omega) (by omega)).trans (by omega)
   have hw_3 : W (a1 + v5) = a1 + v5 := (W_eq (n := a1 + v5) (by omega) (by omega)).trans (by omega)
   try have hsd := (fun _ => sd_in (N := a3.1.1.length) (l := ((v4.set (a0_o + toNat a1) (v4.getD (a0_o + toNat (W (a1 + v5))) default)).set (a0_o + toNat (W (a1 + v5))) (v4.getD (a0_o + toNat a1) default))) (o := a0_o) (n := a0_n) (lo := 0) (hi := v5) (first := a1) (c := ((a3.1.1, a3.1.2.1, (((v4.set (a0_o + toNat a1) (v4.getD (a0_o + toNat (W (a1 + v5))) default)).set (a0_o + toNat (W (a1 + v5))) (v4.getD (a0_o + toNat a1) default)), a3.1.2.2.2)), a3.2)) (by (try simp only [List.length_set]); omega) (by omega) (by omega) (by omega) (by first | exact hi.2.1 | exact InR.swap hi.2.1 (by omega) (by omega))) h0
   try obtain ⟨hsd1, hsd2⟩ := (fun _ => hsd) h0
   try (have _ := h0; simp only [List.length_set] at hsd1)
   cases h0 : (decide ((v5 : Int) ≥ 0)) with
   | true =>
    have q0 := odt h0
    try have hsd := (fun _ => sd_in (N := a3.1.1.length) (l := ((v4.set (a0_o + toNat a1) (v4.getD (a0_o + toNat (W (a1 + v5))) default)).set (a0_o + toNat (W (a1 + v5))) (v4.getD (a0_o + toNat a1) default))) (o := a0_o) (n := a0_n) (lo := 0) (hi := v5) (first := a1) (c := ((a3.1.1, a3.1.2.1, (((v4.set (a0_o + toNat a1) (v4.getD (a0_o + toNat (W (a1 + v5))) default)).set (a0_o + toNat (W (a1 + v5))) (v4.getD (a0_o + toNat a1) default)), a3.1.2.2.2)), a3.2)) (by (try simp only [List.length_set]); omega) (by omega) (by omega) (by omega) (by first | exact hi.2.1 | exact InR.swap hi.2.1 (by omega) (by omega))) h0
    try obtain ⟨hsd1, hsd2⟩ := (fun _ => hsd) h0
    try (have _ := h0; simp only [List.length_set] at hsd1)
    have e := Eq.refl (S108_W_b77_1 a0 a0_o a0_n a1 a2 a3 (v4, v5)); conv at e => rhs; simp only [S108_W_b77_1, h0, cdb]
    rw [loopF_inl e]
    refine ba [.d h0, .i (W (a1 + v5)) a0_n, stLw c3_len v4 a0_o (W (a1 + v5)) 0 1, .i a1 a0_n, stLw c3_len v4 a0_o a1 0 1, .i a1 a0_n, .p (show ((0 + a0_o * 1 + toNat a1 * 1) + 1 ≤ (flat c3 v4).length) from (flat_setwl c3_len (by first | omega | (simp only [Lt]; omega)) (o := 0) (Nb rfl))), .i (W (a1 + v5)) a0_n, .p (show ((0 + a0_o * 1 + toNat (W (a1 + v5)) * 1) + 1 ≤ (splice (flat c3 v4) (0 + a0_o * 1 + toNat a1 * 1) [(iv (v4.getD (a0_o + toNat (W (a1 + v5))) default))]).length) from (by rw [show (splice (flat c3 v4) (0 + a0_o * 1 + toNat a1 * 1) [(iv (v4.getD (a0_o + toNat (W (a1 + v5))) default))]) = flat c3 (v4.set (a0_o + toNat a1) (v4.getD (a0_o + toNat (W (a1 + v5))) default)) from (flat_setw c3_len (by first | omega | (simp only [Lt]; omega)) (o := 0) (d := default) (Nb rfl) rfl)]; exact flat_setwl c3_len (by first | omega | (simp only [Lt]; omega)) (o := 0) (Nb rfl))), .c [0, 1, 2, 3] (by have q := (C119_W_b77 ((v4.set (a0_o + toNat a1) (v4.getD (a0_o + toNat (W (a1 + v5))) default)).set (a0_o + toNat (W (a1 + v5))) (v4.getD (a0_o + toNat a1) default)) a0_o a0_n 0 v5 a1 ((a3.1.1, a3.1.2.1, (((v4.set (a0_o + toNat a1) (v4.getD (a0_o + toNat (W (a1 + v5))) default)).set (a0_o + toNat (W (a1 + v5))) (v4.getD (a0_o + toNat a1) default)), a3.1.2.2.2)), a3.2) (by (try simp only [Lt]); omega) (by (try simp only [Lt]); omega) (by (try simp only [Lt]); omega) (by (try simp only [Lt]); omega) (by (try simp only [List.length_set]); omega) (by first | exact hi.2.1 | exact InR.swap hi.2.1 (by omega) (by omega)) (by omega)); (try dsimp only at q); rw [show flat c3 ((v4.set (a0_o + toNat a1) (v4.getD (a0_o + toNat (W (a1 + v5))) default)).set (a0_o + toNat (W (a1 + v5))) (v4.getD (a0_o + toNat a1) default)) = (splice (splice (flat c3 v4) (0 + a0_o * 1 + toNat a1 * 1) [(iv (v4.getD (a0_o + toNat (W (a1 + v5))) default))]) (0 + a0_o * 1 + toNat (W (a1 + v5)) * 1) [(iv (v4.getD (a0_o + toNat a1) default))]) from Eq.symm (by rw [show (splice (flat c3 v4) (0 + a0_o * 1 + toNat a1 * 1) [(iv (v4.getD (a0_o + toNat (W (a1 + v5))) default))]) = flat c3 (v4.set (a0_o + toNat a1) (v4.getD (a0_o + toNat (W (a1 + v5))) default)) from (flat_setw c3_len (by first | omega | (simp only [Lt]; omega)) (o := 0) (d := default) (Nb rfl) rfl)]; exact flat_setw c3_len (by first | omega | (simp only [Lt]; omega)) (o := 0) (d := default) (Nb rfl) rfl)] at q; (try rw [show List.length (α := Int) ((v4.set (a0_o + toNat a1) (v4.getD (a0_o + toNat (W (a1 + v5))) default)).set (a0_o + toNat (W (a1 + v5))) (v4.getD (a0_o + toNat a1) default)) = v4.length from by first | simp; done | omega] at q); exact q)] [] [0, 3, 8, 9, 12] [] hcx (m := n) B108_W_b77_1 (K108_W_b77_1) (st108_W_b77_1 a0 a0_o a0_n a1 a2 a3 (flat c3 (F119_W_b77 ((v4.set (a0_o + toNat a1) (v4.getD (a0_o + toNat (W (a1 + v5))) default)).set (a0_o + toNat (W (a1 + v5))) (v4.getD (a0_o + toNat a1) default)) a0_o a0_n 0 v5 a1 ((a3.1.1, a3.1.2.1, (((v4.set (a0_o + toNat a1) (v4.getD (a0_o + toNat (W (a1 + v5))) default)).set (a0_o + toNat (W (a1 + v5))) (v4.getD (a0_o + toNat a1) default)), a3.1.2.2.2)), a3.2))) (v4.length) (W (v5 - 1))) (by kernel_rfl) ?_
    have z0 : v4.length = (F119_W_b77 ((v4.set (a0_o + toNat a1) (v4.getD (a0_o + toNat (W (a1 + v5))) default)).set (a0_o + toNat (W (a1 + v5))) (v4.getD (a0_o + toNat a1) default)) a0_o a0_n 0 v5 a1 ((a3.1.1, a3.1.2.1, (((v4.set (a0_o + toNat a1) (v4.getD (a0_o + toNat (W (a1 + v5))) default)).set (a0_o + toNat (W (a1 + v5))) (v4.getD (a0_o + toNat a1) default)), a3.1.2.2.2)), a3.2)).length := by first | omega | (simp; done)
    rw [z0]
    exact ih (F119_W_b77 ((v4.set (a0_o + toNat a1) (v4.getD (a0_o + toNat (W (a1 + v5))) default)).set (a0_o + toNat (W (a1 + v5))) (v4.getD (a0_o + toNat a1) default)) a0_o a0_n 0 v5 a1 ((a3.1.1, a3.1.2.1, (((v4.set (a0_o + toNat a1) (v4.getD (a0_o + toNat (W (a1 + v5))) default)).set (a0_o + toNat (W (a1 + v5))) (v4.getD (a0_o + toNat a1) default)), a3.1.2.2.2)), a3.2)) (W (v5 - 1)) (by and_intros <;> (try simp only [Lt]) <;> first | omega | assumption | exact hi.2.1 | exact hi.2.2.1 | exact InR.swap hi.2.1 (by omega) (by omega) | exact InR.swap hr (by omega) (by omega) | exact hsd2 | (rw [hsd1]; omega)) (by (try simp only [Ls]); omega)
   | false =>
    have q0 := odf h0
    try have hsd := (fun _ => sd_in (N := a3.1.1.length) (l := ((v4.set (a0_o + toNat a1) (v4.getD (a0_o + toNat (W (a1 + v5))) default)).set (a0_o + toNat (W (a1 + v5))) (v4.getD (a0_o + toNat a1) default))) (o := a0_o) (n := a0_n) (lo := 0) (hi := v5) (first := a1) (c := ((a3.1.1, a3.1.2.1, (((v4.set (a0_o + toNat a1) (v4.getD (a0_o + toNat (W (a1 + v5))) default)).set (a0_o + toNat (W (a1 + v5))) (v4.getD (a0_o + toNat a1) default)), a3.1.2.2.2)), a3.2)) (by (try simp only [List.length_set]); omega) (by omega) (by omega) (by omega) (by first | exact hi.2.1 | exact InR.swap hi.2.1 (by omega) (by omega))) h0
    try obtain ⟨hsd1, hsd2⟩ := (fun _ => hsd) h0
    try (have _ := h0; simp only [List.length_set] at hsd1)
    have e := Eq.refl (S108_W_b77_1 a0 a0_o a0_n a1 a2 a3 (v4, v5)); conv at e => rhs; simp only [S108_W_b77_1, h0, cdb]
    rw [loopF_s, e]
    try dsimp only [thenF]
    try dsimp only
    exact rtn [.d h0] [] [0] [] hcx (by kernel_rfl)

theorem L108_W_b77_0 (a0 : List (Int)) (a0_o : Nat) (a0_n : Nat) (a1 : Int) (a2 : Int) (a3 : TyB × Int) (l0 : a0.length ≤ 9223372036854775807) (l3_1_1 : a3.1.1.length ≤ 9223372036854775807) (l3_1_2_2_1 : a3.1.2.2.1.length ≤ 9223372036854775807) (l3_1_2_2_2 : a3.1.2.2.2.length ≤ 9223372036854775807) (hw : a0_o + a0_n ≤ a0.length ∧ a0.length ≤ 1048576) (hr : InR a3.1.1.length a0) (hab : 0 ≤ a1 ∧ a1 ≤ a2 ∧ a2 ≤ ↑a0_n) {cx : Cx} (hcx : cx.base = 4) : ∀ (n : Nat) (v1 : List (Int)) (v2 : Int), (v1.length = a0.length) ∧ (InR a3.1.1.length v1) ∧ (-1 ≤ v2) ∧ (v2 ≤ a2 - a1) → toNat (v2 + 1) < n → Aw.Good Try.prog none 9 (bodyPost Try.prog Try.f108 (RR cx (.t []) [] [(.live true true (flat c3 (loopF (S108_W_b77_0 a0 a0_o a0_n a1 a2 a3) n (v1, v2)))), .un, .un, .un])) cx [] (.l B108_W_b77_0 n :: K108_W_b77_0) (st108_W_b77_0 a0 a0_o a0_n a1 a2 a3 (flat c3 v1) v1.length v2) := by
 intro n
 induction n with
 | zero => intro v1 v2 hi hn; exact absurd hn (nlz _)
 | succ n ih =>
   intro v1 v2 hi hn
   refine good_round ?_
   have hw_0 : W (a2 - a1) = a2 - a1 := (W_eq (n := a2 - a1) (by omega) (by omega)).trans (by omega)
   have hw_1 : W ((W (a2 - a1)) - 1) = a2 - a1 - 1 := (W_eq (n := (W (a2 - a1)) - 1) (by omega) (by omega)).trans (by omega)
   have hw_2 : W (v2 - 1) = v2 - 1 := (W_eq (n := v2 - 1) (by omega) (by omega)).trans (by omega)
   try have hsd := (fun _ => sd_in (N := a3.1.1.length) (l := v1) (o := a0_o) (n := a0_n) (lo := v2) (hi := (W (a2 - a1))) (first := a1) (c := ((a3.1.1, a3.1.2.1, (v1, a3.1.2.2.2)), a3.2)) (by (try simp only [List.length_set]); omega) (by omega) (by omega) (by omega) (by first | exact hi.2.1 | exact InR.swap hi.2.1 (by omega) (by omega))) h0
   try obtain ⟨hsd1, hsd2⟩ := (fun _ => hsd) h0
   try (have _ := h0; simp only [List.length_set] at hsd1)
   cases h0 : (decide ((v2 : Int) ≥ 0)) with
   | true =>
    have q0 := odt h0
    try have hsd := (fun _ => sd_in (N := a3.1.1.length) (l := v1) (o := a0_o) (n := a0_n) (lo := v2) (hi := (W (a2 - a1))) (first := a1) (c := ((a3.1.1, a3.1.2.1, (v1, a3.1.2.2.2)), a3.2)) (by (try simp only [List.length_set]); omega) (by omega) (by omega) (by omega) (by first | exact hi.2.1 | exact InR.swap hi.2.1 (by omega) (by omega))) h0
    try obtain ⟨hsd1, hsd2⟩ := (fun _ => hsd) h0
    try (have _ := h0; simp only [List.length_set] at hsd1)
    have e := Eq.refl (S108_W_b77_0 a0 a0_o a0_n a1 a2 a3 (v1, v2)); conv at e => rhs; simp only [S108_W_b77_0, h0, cdb]
    rw [loopF_inl e]
    refine ba [.d h0, .c [0, 1, 2, 3] (C119_W_b77 v1 a0_o a0_n v2 (W (a2 - a1)) a1 ((a3.1.1, a3.1.2.1, (v1, a3.1.2.2.2)), a3.2) (by (try simp only [Lt]); omega) (by (try simp only [Lt]); omega) (by (try simp only [Lt]); omega) (by (try simp only [Lt]); omega) (by (try simp only [List.length_set]); omega) (by first | exact hi.2.1 | exact InR.swap hi.2.1 (by omega) (by omega)) (by omega))] [] [0, 3, 8, 9, 10, 11] [] hcx (m := n) B108_W_b77_0 (K108_W_b77_0) (st108_W_b77_0 a0 a0_o a0_n a1 a2 a3 (flat c3 (F119_W_b77 v1 a0_o a0_n v2 (W (a2 - a1)) a1 ((a3.1.1, a3.1.2.1, (v1, a3.1.2.2.2)), a3.2))) (v1.length) (W (v2 - 1))) (by kernel_rfl) ?_
    have z0 : v1.length = (F119_W_b77 v1 a0_o a0_n v2 (W (a2 - a1)) a1 ((a3.1.1, a3.1.2.1, (v1, a3.1.2.2.2)), a3.2)).length := by first | omega | (simp; done)
    rw [z0]
    exact ih (F119_W_b77 v1 a0_o a0_n v2 (W (a2 - a1)) a1 ((a3.1.1, a3.1.2.1, (v1, a3.1.2.2.2)), a3.2)) (W (v2 - 1)) (by and_intros <;> (try simp only [Lt]) <;> first | omega | assumption | exact hi.2.1 | exact hi.2.2.1 | exact InR.swap hi.2.1 (by omega) (by omega) | exact InR.swap hr (by omega) (by omega) | exact hsd2 | (rw [hsd1]; omega)) (by (try simp only [Ls]); omega)
   | false =>
    have q0 := odf h0
    try have hsd := (fun _ => sd_in (N := a3.1.1.length) (l := v1) (o := a0_o) (n := a0_n) (lo := v2) (hi := (W (a2 - a1))) (first := a1) (c := ((a3.1.1, a3.1.2.1, (v1, a3.1.2.2.2)), a3.2)) (by (try simp only [List.length_set]); omega) (by omega) (by omega) (by omega) (by first | exact hi.2.1 | exact InR.swap hi.2.1 (by omega) (by omega))) h0
    try obtain ⟨hsd1, hsd2⟩ := (fun _ => hsd) h0
    try (have _ := h0; simp only [List.length_set] at hsd1)
    have e := Eq.refl (S108_W_b77_0 a0 a0_o a0_n a1 a2 a3 (v1, v2)); conv at e => rhs; simp only [S108_W_b77_0, h0, cdb]
    rw [loopF_s, e]
    refine en [.d h0] [] [0, 3, 8, 9, 12] [] hcx B108_W_b77_1 (K108_W_b77_1) (st108_W_b77_1 a0 a0_o a0_n a1 a2 a3 (flat c3 v1) (v1.length) (W ((W (a2 - a1)) - 1))) (toNat ((W ((W (a2 - a1)) - 1)) + 1) + 1) (by kernel_rfl) ?_
    exact L108_W_b77_1 a0 a0_o a0_n a1 a2 a3 l0 l3_1_1 l3_1_2_2_1 l3_1_2_2_2 hw hr hab hcx (toNat ((W ((W (a2 - a1)) - 1)) + 1) + 1) v1 (W ((W (a2 - a1)) - 1)) (by and_intros <;> (try simp only [Lt]) <;> first | omega | assumption | exact hi.2.1 | exact hi.2.2.1 | exact InR.swap hi.2.1 (by omega) (by omega) | exact InR.swap hr (by omega) (by omega) | exact hsd2 | (rw [hsd1]; omega)) (by (try simp only [Ls]); omega)

def F108_W_b77 (a0 : List (Int)) (a0_o : Nat) (a0_n : Nat) (a1 : Int) (a2 : Int) (a3 : TyB × Int) : List (Int) :=
 (loopF (S108_W_b77_0 a0 a0_o a0_n a1 a2 a3) (toNat ((W (Int.tdiv (W ((W (a2 - a1)) - 1)) 2)) + 1) + 1) (a0, (W (Int.tdiv (W ((W (a2 - a1)) - 1)) 2))))

theorem C108_W_b77 (a0 : List (Int)) (a0_o : Nat) (a0_n : Nat) (a1 : Int) (a2 : Int) (a3 : TyB × Int) (l0 : a0.length ≤ 9223372036854775807) (l3_1_1 : a3.1.1.length ≤ 9223372036854775807) (l3_1_2_2_1 : a3.1.2.2.1.length ≤ 9223372036854775807) (l3_1_2_2_2 : a3.1.2.2.2.length ≤ 9223372036854775807) (hw : a0_o + a0_n ≤ a0.length ∧ a0.length ≤ 1048576) (hr : InR a3.1.1.length a0) (hab : 0 ≤ a1 ∧ a1 ≤ a2 ∧ a2 ≤ ↑a0_n) : Con Try.prog 108 [(.s 0 (0 + a0_o * 1) a0_n 1), (iv a1), (iv a2), (.f 1000077 [(.a [(.p 1 0), (iv a3.2)])])] [(.live true true (flat c3 a0)), (.live false false [(.s 2 0 a3.1.1.length 10), (iv a3.1.2.1), (.s 0 0 a0.length 1), (.s 3 0 a3.1.2.2.2.length 8)]), (.live false true (flat c81 a3.1.1)), (.live false true (flat c40 a3.1.2.2.2))] (.t []) [] [(.live true true (flat c3 (F108_W_b77 a0 a0_o a0_n a1 a2 a3))), .un, .un, .un] := by
 refine con_s Try.func108 (by kernel_rfl) fun cx hcx => ?_
 have hw_0 : W (a2 - a1) = a2 - a1 := (W_eq (n := a2 - a1) (by omega) (by omega)).trans (by omega)
 have hw_1 : W ((W (a2 - a1)) - 1) = a2 - a1 - 1 := (W_eq (n := (W (a2 - a1)) - 1) (by omega) (by omega)).trans (by omega)
 have hw_m := hp_mid (n := a2 - a1) (by omega)
 rw [← hw_0] at hw_m
 have e := Eq.refl (F108_W_b77 a0 a0_o a0_n a1 a2 a3); conv at e => rhs; simp only [F108_W_b77]
 rw [e]
 refine en [.p (show (2 : Int) ≠ 0 from by decide)] [] [0, 3, 8, 9, 10, 11] [] hcx B108_W_b77_0 (K108_W_b77_0) (st108_W_b77_0 a0 a0_o a0_n a1 a2 a3 (flat c3 a0) (a0.length) (W (Int.tdiv (W ((W (a2 - a1)) - 1)) 2))) (toNat ((W (Int.tdiv (W ((W (a2 - a1)) - 1)) 2)) + 1) + 1) (by kernel_rfl) ?_
 exact L108_W_b77_0 a0 a0_o a0_n a1 a2 a3 l0 l3_1_1 l3_1_2_2_1 l3_1_2_2_2 hw hr hab hcx (toNat ((W (Int.tdiv (W ((W (a2 - a1)) - 1)) 2)) + 1) + 1) a0 (W (Int.tdiv (W ((W (a2 - a1)) - 1)) 2)) (by and_intros <;> (try simp only [Lt]) <;> first | omega | assumption | exact hi.2.1 | exact hi.2.2.1 | exact InR.swap hi.2.1 (by omega) (by omega) | exact InR.swap hr (by omega) (by omega) | exact hsd2 | (rw [hsd1]; omega)) (by (try simp only [Ls]); omega)

end Go.Proofs.Ytnbpiejjeeomkaa
