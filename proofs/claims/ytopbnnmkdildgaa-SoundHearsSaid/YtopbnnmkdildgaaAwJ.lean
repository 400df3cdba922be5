/-
  A symbolic executor for the model's code, part J: a region whose operations do not disturb one another comes, in whatever order, to the state of the text's order. Generic in the program. No premise.
-/
import Derived.Test.YtopbnnmkdildgaaAwI
namespace Go.Aw
open Go.RowKit
set_option linter.unusedVariables false
set_option linter.unusedSimpArgs false

/-- All functions may be called, to any depth; 'r': the round, if the frame is a round's. -/
def Fw (r : Option Nat) : Fence := { fn := fun _ => True, depth := none, alive := false, round := r }

theorem callsIn_Fw {r : Option Nat} {n : Nat} {P : Program} {f : FuncId} {args : Array Value} {w : World} {R : Ending → World → Prop} : CallsIn (Fw r) n P f args w R ↔ Calls P f args w R :=
  callsIn_wide

/-! ### Resources -/
def FS.at' (s : FS) : Nat ⊕ Nat → SV ⊕ BK
  | .inl t => .inl (s.sl t)
  | .inr k => .inr (s.bk k)

theorem FS.ext_at {s s' : FS} (h : ∀ x, s.at' x = s'.at' x) : s = s' := by
  cases s with | mk sl bk => cases s' with | mk sl' bk' =>
  have h1 : sl = sl' := funext fun t => by have := h (.inl t); simpa [FS.at'] using this
  have h2 : bk = bk' := funext fun k => by have := h (.inr k); simpa [FS.at'] using this
  subst h1 h2; rfl

structure Conf (n : Nat) (A : Nat → FS → FS) (wr rd : Nat → Nat ⊕ Nat → Prop) (dep : Nat → Nat → Prop) : Prop where
  out : ∀ i s x, ¬ wr i x → (A i s).at' x = s.at' x
  same : ∀ i s s' x, wr i x → (A i s).at' x = (A i s').at' x
  low : ∀ i j, dep i j → j < i
  free : ∀ i j, i < n → j < n → i ≠ j → dep i j ∨ dep j i ∨ ((∀ x, wr i x → ¬ wr j x ∧ ¬ rd j x) ∧ (∀ x, wr j x → ¬ rd i x))

section conf
variable {n : Nat} {A : Nat → FS → FS} {wr rd : Nat → Nat ⊕ Nat → Prop} {dep : Nat → Nat → Prop}

/-- What the operations of D come to, in the text's order. -/
noncomputable def SD (A : Nat → FS → FS) (D : Nat → Bool) (s0 : FS) : Nat → FS
  | 0 => s0
  | m + 1 => if D m = true then A m (SD A D s0 m) else SD A D s0 m

theorem SD_lt (i : Nat) (s0 : FS) : ∀ m, i ≤ m → SD A (fun j => decide (j < i)) s0 m = SD A (fun _ => true) s0 i := by
  intro m
  induction m with
  | zero => intro h; obtain rfl : i = 0 := by omega
            rfl
  | succ m ih =>
    intro h
    by_cases hi : i = m + 1
    · subst hi
      have : ∀ k, k ≤ m + 1 → SD A (fun j => decide (j < m + 1)) s0 k = SD A (fun _ => true) s0 k := by
        intro k
        induction k with
        | zero => intro _; rfl
        | succ k ihk => intro hk; simp only [SD, ihk (by omega)]; simp [show k < m + 1 by omega]
      exact this _ (Nat.le_refl _)
    · simp only [SD]
      rw [if_neg (by simp; omega), ih (by omega)]

theorem Conf.reads (c : Conf n A wr rd dep) {D : Nat → Bool} {s0 : FS} {i : Nat} (hi : i < n) (hD : D i = false) (hcl : ∀ j k, j < n → D j = true → dep j k → D k = true) (hdep : ∀ k, dep i k → D k = true) {x : Nat ⊕ Nat} (hx : rd i x) :
    (SD A D s0 n).at' x = (SD A (fun _ => true) s0 i).at' x := by
  rw [← SD_lt i s0 n (by omega)]
  have : ∀ m, m ≤ n → (SD A D s0 m).at' x = (SD A (fun j => decide (j < i)) s0 m).at' x := by
    intro m
    induction m with
    | zero => intro _; rfl
    | succ m ih =>
      intro hm
      have ih := ih (by omega)
      simp only [SD]
      by_cases hw : wr m x
      · by_cases hmi : m = i
        · subst hmi
          rw [if_neg (by simp [hD]), if_neg (by simp)]; exact ih
        · rcases c.free i m hi (by omega) (Ne.symm hmi) with h | h | h
          · have := c.low i m h
            rw [if_pos (hdep m h), if_pos (by simp [this])]
            exact c.same m _ _ x hw
          · have := c.low m i h
            have hDm : D m = false := by
              cases hDm : D m with
              | false => rfl
              | true => have := hcl m i (by omega) hDm h; rw [hD] at this; cases this
            rw [if_neg (by simp [hDm]), if_neg (by simp; omega)]; exact ih
          · exact (h.2 x hw hx).elim
      · split <;> split <;> (try simp only [c.out m _ x hw]) <;> exact ih
  exact this n (Nat.le_refl _)

theorem Conf.add (c : Conf n A wr rd dep) {D D' : Nat → Bool} {s0 : FS} {i : Nat} (hi : i < n) (hD : D i = false) (hD' : ∀ j, D' j = (D j || decide (j = i))) (hcl : ∀ j k, j < n → D j = true → dep j k → D k = true) (hlo : ∀ j, D j = true → j < n) :
    SD A D' s0 n = A i (SD A D s0 n) := by
  refine FS.ext_at fun x => ?_
  have e1 : ∀ m, m ≤ i → SD A D' s0 m = SD A D s0 m := by
    intro m
    induction m with
    | zero => intro _; rfl
    | succ m ih => intro hm; simp only [SD, hD', ih (by omega)]; simp [show m ≠ i by omega]
  have e2 : ∀ m, i < m → m ≤ n → (SD A D' s0 m).at' x = (A i (SD A D s0 m)).at' x := by
    intro m
    induction m with
    | zero => intro h; omega
    | succ m ih =>
      intro h hm
      by_cases hmi : m = i
      · subst hmi
        simp only [SD, hD', hD]
        simp [e1 m (Nat.le_refl _)]
      · have ih := ih (by omega) (by omega)
        simp only [SD, hD']
        have : decide (m = i) = false := by simp [hmi]
        rw [this, Bool.or_false]
        cases hDm : D m with
        | false => simpa using ih
        | true =>
          simp only [if_true]
          have hno : ∀ x, wr i x → ¬ wr m x := by
            rcases c.free i m hi (by omega) (Ne.symm hmi) with h' | h' | h'
            · have := c.low i m h'; omega
            · have := hcl m i (by omega) hDm h'; rw [hD] at this; cases this
            · exact fun x hx => (h'.1 x hx).1
          by_cases hwm : wr m x
          · have hwi : ¬ wr i x := fun h => hno x h hwm
            rw [c.out i _ x hwi]
            exact c.same m _ _ x hwm
          · rw [c.out m _ x hwm, ih]
            by_cases hwi : wr i x
            · exact c.same i _ _ x hwi
            · rw [c.out i _ x hwi, c.out i _ x hwi, c.out m _ x hwm]
  exact e2 n hi (Nat.le_refl _)
end conf

/-! ### Regions -/
/-- An operation's event: its effect, and what it reads: slots, blocks. -/
structure Ev where
  eff : Eff
  rs : List Nat
  rb : List Nat

section region
variable {P : Program} {w0 : Cx} {N : Nat} {D : List Deferred} {r : Option Nat} {n : Nat} {ops : Array Oper} {Q : Exit → Act → World → Prop}

def dstOf (ops : Array Oper) (i : Nat) : Option Nat := (ops[i]?).bind (·.dst)

/-- From every state that agrees with s on what operation i reads, it has its effect. -/
def LocalOK (P : Program) (r : Option Nat) (n : Nat) (w0 : Cx) (N : Nat) (D : List Deferred) (ops : Array Oper) (i : Nat) (s : FS) (v : Ev) : Prop :=
  ∀ (s' : FS), (∀ t ∈ v.rs, s'.sl t = s.sl t) → (∀ k ∈ v.rb, s'.bk k = s.bk k) → ∀ (ρ : Env) (a : Act) (W : World) (Q : Exit → Act → World → Prop) (K : Act → World → Prop), Rep w0 N D ρ s' a W →
    (∀ ρ' a' W', Rep w0 N D ρ' (s'.app (dstOf ops i) v.eff) a' W' → K a' W') → wpOpIn (Fw r) n P ops Q i K a W

def stepA (ops : Array Oper) (evs : List Ev) (i : Nat) (s : FS) : FS :=
  match evs[i]? with
  | some v => s.app (dstOf ops i) v.eff
  | none => s

/-- In the text's order. -/
theorem region_text {evs : List Ev} (hlen : evs.length = ops.size) {s0 : FS}
    (hloc : ∀ i v, evs[i]? = some v → LocalOK P r n w0 N D ops i (SD (stepA ops evs) (fun _ => true) s0 i) v)
    {ρ : Env} {a : Act} {W : World} (hrep : Rep w0 N D ρ s0 a W)
    (hQ : ∀ ρ' a' W', Rep w0 N D ρ' (SD (stepA ops evs) (fun _ => true) s0 ops.size) a' W' → Q .normal a' W') {id : Nat} :
    (Code.region id ops false).wpIn (Fw r) n P Q a W := by
  refine wpIn_region ?_
  have key : ∀ m i, i + m = ops.size → ∀ ρ a W, Rep w0 N D ρ (SD (stepA ops evs) (fun _ => true) s0 i) a W → wpOpsIn (Fw r) n P ops Q (List.range' i m) a W := by
    intro m
    induction m with
    | zero =>
      intro i hi ρ a W h
      obtain rfl : i = ops.size := by omega
      show wpOpsIn (Fw r) n P ops Q [] a W
      simp only [wpOpsIn]
      exact hQ ρ a W h
    | succ m ih =>
      intro i hi ρ a W h
      rw [List.range'_succ, wpOpsIn_cons]
      have hlt : i < evs.length := by omega
      refine hloc i evs[i] (by simp [hlt]) _ (fun _ _ => rfl) (fun _ _ => rfl) ρ a W Q _ h (fun ρ' a' W' h' => ih (i + 1) (by omega) ρ' a' W' ?_)
      simp only [SD, if_true, stepA]
      rw [List.getElem?_eq_getElem hlt]
      exact h'
  have := key ops.size 0 (by omega) ρ a W hrep
  rwa [List.range_eq_range']

theorem filter_lt {p q : Nat → Bool} (hpq : ∀ j, q j = true → p j = true) {i : Nat} (hi : p i = true) (hn : q i = false) : ∀ (l : List Nat), i ∈ l → (l.filter q).length < (l.filter p).length
  | x :: l, h => by
    have hle : ∀ l : List Nat, (l.filter q).length ≤ (l.filter p).length := by
      intro l
      induction l with
      | nil => simp
      | cons y l ih =>
        simp only [List.filter_cons]
        by_cases hq : q y = true
        · simp [hq, hpq y hq, ih]
        · simp only [hq, Bool.false_eq_true, if_false]
          split <;> (try simp) <;> omega
    by_cases hx : x = i
    · subst hx
      simp only [List.filter_cons, hi, hn, if_true, Bool.false_eq_true, if_false, List.length_cons]
      have := hle l; omega
    · have hm : i ∈ l := by
        rcases List.mem_cons.1 h with h | h
        · exact (hx h.symm).elim
        · exact h
      have ih := filter_lt hpq hi hn l hm
      simp only [List.filter_cons]
      by_cases hq : q x = true
      · simp [hq, hpq x hq, ih]
      · simp only [hq, Bool.false_eq_true, if_false]
        split <;> (try simp) <;> omega

/-- In whatever order. -/
theorem region_any {evs : List Ev} (hlen : evs.length = ops.size) {s0 : FS} (hm : P.follows .mixedOrders = true)
    {wr rd : Nat → Nat ⊕ Nat → Prop} {dep : Nat → Nat → Prop} (c : Conf ops.size (stepA ops evs) wr rd dep)
    (hrs : ∀ i v t, evs[i]? = some v → t ∈ v.rs → rd i (.inl t)) (hrb : ∀ i v k, evs[i]? = some v → k ∈ v.rb → rd i (.inr k))
    (hlow : ∀ i o, ops[i]? = some o → ∀ e ∈ o.after, Region.binds .any e = true → e.on < i)
    (hdep : ∀ (D : Nat → Bool) i o, ops[i]? = some o → (∀ j o, ops[j]? = some o → D j = true → ∀ e ∈ o.after, Region.binds .any e = true → D e.on = true) → (∀ e ∈ o.after, Region.binds .any e = true → D e.on = true) → ∀ k, dep i k → D k = true)
    (hloc : ∀ i v, evs[i]? = some v → LocalOK P r n w0 N D ops i (SD (stepA ops evs) (fun _ => true) s0 i) v)
    {ρ : Env} {a : Act} {W : World} (hrep : Rep w0 N D ρ s0 a W)
    (hQ : ∀ ρ' a' W', Rep w0 N D ρ' (SD (stepA ops evs) (fun _ => true) s0 ops.size) a' W' → Q .normal a' W') {id : Nat} :
    (Code.region id ops true).wpIn (Fw r) n P Q a W := by
  refine wpIn_region_any hm ?_
  have hrep' : Rep w0 N D ρ s0 a { W with drawn := W.drawn + 1 } := hrep.grow ⟨rfl, rfl, rfl, Nat.le_refl _, fun _ _ => rfl⟩
  have key : ∀ fuel (listed : Array Bool), listed.size = ops.size → ((List.range ops.size).filter fun j => !listed.getD j false).length ≤ fuel →
      (∀ j o, ops[j]? = some o → listed.getD j false = true → ∀ e ∈ o.after, Region.binds .any e = true → listed.getD e.on false = true) →
      ∀ ρ a W, Rep w0 N D ρ (SD (stepA ops evs) (fun j => listed.getD j false) s0 ops.size) a W → wpAnyIn (Fw r) n P .any ops Q fuel listed a W := by
    intro fuel
    induction fuel with
    | zero =>
      intro listed hsz hfew hcl ρ a W h
      have hall : ∀ j, j < ops.size → listed.getD j false = true := fun j hj => by
        have h0 : (List.range ops.size).filter (fun j => !listed.getD j false) = [] := List.length_eq_zero_iff.1 (by omega)
        have := (List.filter_eq_nil_iff.1 h0) j (by simp [hj])
        simpa using this
      have hS : SD (stepA ops evs) (fun j => listed.getD j false) s0 ops.size = SD (stepA ops evs) (fun _ => true) s0 ops.size := by
        have : ∀ m, m ≤ ops.size → SD (stepA ops evs) (fun j => listed.getD j false) s0 m = SD (stepA ops evs) (fun _ => true) s0 m := by
          intro m
          induction m with
          | zero => intro _; rfl
          | succ m ihm => intro hm'; simp only [SD, ihm (by omega), hall m (by omega)]
        exact this _ (Nat.le_refl _)
      simp only [wpAnyIn]
      refine ⟨?_, hQ ρ a W (hS ▸ h)⟩
      rw [List.eq_nil_iff_forall_not_mem]
      intro j hj
      obtain ⟨h1, o, ho, _⟩ := mem_ready.1 hj
      have hjs := (Array.getElem?_eq_some_iff.1 ho).1
      have := hall j hjs
      have hjl : j < listed.size := by omega
      simp only [Array.getD_eq_getD_getElem?, Array.getElem?_eq_getElem hjl, Option.getD_some] at h1 this
      rw [this] at h1; cases h1
    | succ fuel ih =>
      intro listed hsz hfew hcl ρ a W h
      refine ⟨fun hnil => ?_, fun i hi => ?_⟩
      · -- nothing may come up: all have come up
        have hall : ∀ j, j < ops.size → listed.getD j false = true := by
          intro j
          induction j using Nat.strongRecOn with
          | ind j ihj =>
            intro hj
            cases hlj : listed.getD j false with
            | true => rfl
            | false =>
              exfalso
              have ho : ops[j]? = some ops[j] := by simp [hj]
              have : j ∈ Region.ready .any ops listed := by
                refine mem_ready.2 ⟨?_, ops[j], ho, fun e he hb => ihj e.on (hlow j _ ho e he hb) (by have := hlow j _ ho e he hb; omega)⟩
                have hjl : j < listed.size := by omega
                simp only [Array.getD_eq_getD_getElem?, Array.getElem?_eq_getElem hjl, Option.getD_some] at hlj ⊢
                exact hlj
              rw [hnil] at this; cases this
        have hS : SD (stepA ops evs) (fun j => listed.getD j false) s0 ops.size = SD (stepA ops evs) (fun _ => true) s0 ops.size := by
          have : ∀ m, m ≤ ops.size → SD (stepA ops evs) (fun j => listed.getD j false) s0 m = SD (stepA ops evs) (fun _ => true) s0 m := by
            intro m
            induction m with
            | zero => intro _; rfl
            | succ m ihm => intro hm'; simp only [SD, ihm (by omega), hall m (by omega)]
          exact this _ (Nat.le_refl _)
        exact hQ ρ a W (hS ▸ h)
      · obtain ⟨h1, o, ho, hall⟩ := mem_ready.1 hi
        have his := (Array.getElem?_eq_some_iff.1 ho).1
        have hil : i < listed.size := by omega
        have hDi : listed.getD i false = false := by
          simp only [Array.getD_eq_getD_getElem?, Array.getElem?_eq_getElem hil, Option.getD_some] at h1 ⊢
          exact h1
        have hie : i < evs.length := by omega
        have hev : evs[i]? = some evs[i] := by simp [hie]
        have hD' : ∀ j, (listed.setIfInBounds i true).getD j false = (listed.getD j false || decide (j = i)) := fun j => by
          by_cases hj : j = i
          · subst hj; simp [hil]
          · rw [getD_set_ne false (Ne.symm hj)]; simp [hj]
        have hclo : ∀ j k, j < ops.size → listed.getD j false = true → dep j k → listed.getD k false = true := fun j k hj hDj hd =>
          hdep (fun j => listed.getD j false) j ops[j] (by simp [hj]) hcl (hcl j _ (by simp [hj]) hDj) k hd
        have hcond : ∀ k, dep i k → listed.getD k false = true := fun k hk => hdep (fun j => listed.getD j false) i o ho hcl hall k hk
        have hlo : ∀ j, listed.getD j false = true → j < ops.size := fun j hj => by
          rcases Nat.lt_or_ge j listed.size with h' | h'
          · omega
          · simp [Array.getElem?_eq_none h'] at hj
        refine hloc i evs[i] hev (SD (stepA ops evs) (fun j => listed.getD j false) s0 ops.size) (fun t ht => ?_) (fun k hk => ?_) ρ a W Q _ h (fun ρ' a' W' h' => ?_)
        · have := c.reads (s0 := s0) his hDi hclo hcond (hrs i _ t hev ht)
          simpa [FS.at'] using this
        · have := c.reads (s0 := s0) his hDi hclo hcond (hrb i _ k hev hk)
          simpa [FS.at'] using this
        · refine ih (listed.setIfInBounds i true) (by simp [hsz]) ?_ (fun j o' ho' hj e he hb => ?_) ρ' a' W' ?_
          · have := filter_lt (p := fun j => !listed.getD j false) (q := fun j => !(listed.setIfInBounds i true).getD j false) (i := i) (fun j hj => by
              rw [hD'] at hj; simp at hj ⊢; exact hj.1) (by simp only [hDi]; rfl) (by rw [hD']; simp) (List.range ops.size) (by simp [his])
            omega
          · rw [hD'] at hj ⊢
            by_cases hji : j = i
            · subst hji
              rw [ho] at ho'; cases ho'
              simp [hall e he hb]
            · simp only [hji, decide_false, Bool.or_false] at hj
              simp [hcl j o' ho' hj e he hb]
          · have hadd := c.add (s0 := s0) his hDi hD' hclo hlo
            rw [hadd]
            simp only [stepA, hev]
            exact h'
  have h0 : ∀ j, (Array.replicate ops.size false).getD j false = false := fun j => by
    rcases Nat.lt_or_ge j ops.size with h' | h'
    · simp [h']
    · simp [Array.getElem?_eq_none (xs := Array.replicate ops.size false) (by simpa using h')]
  refine key ops.size (Array.replicate ops.size false) (by simp) (Nat.le_trans (List.length_filter_le _ _) (by simp)) (fun j o _ hj => by rw [h0] at hj; cases hj) ρ a _ ?_
  have : SD (stepA ops evs) (fun j => (Array.replicate ops.size false).getD j false) s0 ops.size = s0 := by
    have : ∀ m, SD (stepA ops evs) (fun j => (Array.replicate ops.size false).getD j false) s0 m = s0 := by
      intro m
      induction m with
      | zero => rfl
      | succ m ihm => have hm0 := h0 m; simp only [SD]; exact (if_neg (by rw [hm0]; simp)).trans ihm
    exact this _
  rw [this]; exact hrep'
end region
end Go.Aw
