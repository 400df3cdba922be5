/-
  Parts of the proofs of the laws: the executor, what functions of the program compute, and that it is what the statements ask. No premise.
-/
import Derived.Test.YtkdfcbmcgnaicaaGreatVPen1
import Derived.Shelf.Abstract
import Derived.RangeFuncRecord
import Derived.RangeFuncSeq
import Derived.RangeFuncLeaves
import Derived.Test.YtkdfcbmcgnaicaaGreatRows
set_option linter.unusedVariables false
set_option linter.unusedSimpArgs false
set_option maxHeartbeats 4000000
open Int renaming toNat → tN
open Inhabited renaming default → dF
namespace Go.Aw
open Go.RowKit
def Fw (r:Option Nat):Fence:={ fn:=fun _=>True,depth:=none,alive:=false,round:=r }
theorem aH8 {r:Option Nat} {n:Nat} {P:Program} {f:FuncId} {args:Array Value} {w:World} {R:Ending->World->Prop}:CallsIn (Fw r) n P f args w R↔Calls P f args w R :=
 callsIn_wide
def FS.at' (s:FS):Nat⊕Nat->SV⊕BK
 | .inl t=>.inl (s.sl t)
 | .inr k=>.inr (s.bk k)
theorem FS.ext_at {s s':FS} (h:∀x,s.at' x=s'.at' x):s=s':=by
 cases s with | mk sl bk=>cases s' with | mk sl' bk' =>
 have h1:sl=sl':=funext fun t=>by have:=h (.inl t);simpa [FS.at'] using this
 have h2:bk=bk':=funext fun k=>by have:=h (.inr k);simpa [FS.at'] using this
 subst h1 h2;rfl
structure Conf (n:Nat) (A:Nat->FS->FS) (wr rd ard:Nat->Nat⊕Nat->Prop) (alt:Nat->Nat⊕Nat->SV⊕BK->Prop) (dep:Nat->Nat->Prop):Prop where
 out:∀i s x,¬wr i x->(A i s).at' x=s.at' x
 same:∀i s s' x,wr i x->(A i s).at' x=(A i s').at' x
 low:∀i j,dep i j->j < i
 free:∀i j,i < n->j < n->i≠j->dep i j\/dep j i\/((∀x,wr i x->¬wr j x/\¬rd j x)/\(∀x,wr j x->¬rd i x/\(ard i x->i < j/\∀s,alt i x ((A j s).at' x))))
section conf
variable {n : Nat} {A : Nat → FS → FS} {wr rd ard : Nat → Nat ⊕ Nat → Prop} {alt : Nat → Nat ⊕ Nat → SV ⊕ BK → Prop} {dep : Nat → Nat → Prop}
noncomputable def SD (A:Nat->FS->FS)(D:Nat->Bool)(s0:FS):Nat->FS
 | 0=>s0
 | m+1=>if D m=true then A m (SD A D s0 m) else SD A D s0 m
theorem aSf (i:Nat)(s0:FS):∀m,i<=m->SD A (fun j=>decide (j < i)) s0 m=SD A (fun _=>true) s0 i:=by
 intro m
 induction m with
 | zero =>
  intro h;obtain rfl:i=0:=by omega
  rfl
 | succ m ih =>
  intro h
  by_cases hi:i=m+1
  ·subst hi
   have:∀k,k<=m+1->SD A (fun j=>decide (j < m+1)) s0 k=SD A (fun _=>true) s0 k:=by
    intro k
    induction k with
    | zero=>intro _;rfl
    | succ k ihk=>intro hk;simp only [SD,ihk (by omega)];simp [show k < m+1 by omega]
   exact this _ (Nat.le_refl _)
  ·simp only [SD]
   rw [if_neg (by simp;omega),ih (by omega)]
theorem Conf.reads (c:Conf n A wr rd ard alt dep) {D:Nat->Bool} {s0:FS} {i:Nat} (hi:i < n)(hD:D i=false)(hcl:∀j k,j < n->D j=true->dep j k->D k=true)(hdep:∀k,dep i k->D k=true) {x:Nat⊕Nat} (hx:rd i x) :
 (SD A D s0 n).at' x=(SD A (fun _=>true) s0 i).at' x:=by
 rw [←aSf i s0 n (by omega)]
 have:∀m,m<=n->(SD A D s0 m).at' x=(SD A (fun j=>decide (j < i)) s0 m).at' x:=by
  intro m
  induction m with
  | zero=>intro _;rfl
  | succ m ih =>
   intro hm
   have ih:=ih (by omega)
   simp only [SD]
   by_cases hw:wr m x
   ·by_cases hmi:m=i
    ·subst hmi
     rw [if_neg (by simp [hD]),if_neg (by simp)];exact ih
    ·rcases c.free i m hi (by omega) (Ne.symm hmi) with h | h | h
     ·have:=c.low i m h
      rw [if_pos (hdep m h),if_pos (by simp [this])]
      exact c.same m _ _ x hw
     ·have:=c.low m i h
      have hDm:D m=false:=by
       cases hDm:D m with
       | false=>rfl
       | true=>have:=hcl m i (by omega) hDm h;rw [hD] at this;cases this
      rw [if_neg (by simp [hDm]),if_neg (by simp;omega)];exact ih
     ·exact((h.2 x hw).1 hx).elim
   ·split<;>split<;>(try simp only [c.out m _ x hw])<;>exact ih
 exact this n (Nat.le_refl _)
theorem Conf.areads (c:Conf n A wr rd ard alt dep) {D:Nat->Bool} {s0:FS} {i:Nat} (hi:i < n)(hD:D i=false)(hcl:∀j k,j < n->D j=true->dep j k->D k=true)(hdep:∀k,dep i k->D k=true) {x:Nat⊕Nat} (hx:ard i x) :
 (SD A D s0 n).at' x=(SD A (fun _=>true) s0 i).at' x\/alt i x ((SD A D s0 n).at' x):=by
 rw [←aSf i s0 n (by omega)]
 have:∀m,m<=n->(SD A D s0 m).at' x=(SD A (fun j=>decide (j < i)) s0 m).at' x\/(i < m/\alt i x ((SD A D s0 m).at' x)):=by
  intro m
  induction m with
  | zero=>intro _;exact .inl rfl
  | succ m ih =>
   intro hm
   have ih:=ih (by omega)
   simp only [SD]
   by_cases hw:wr m x
   ·by_cases hmi:m=i
    ·subst hmi
     rw [if_neg (by simp [hD]),if_neg (by simp)]
     rcases ih with h | ⟨h,_⟩
     ·exact .inl h
     ·omega
    ·rcases c.free i m hi (by omega) (Ne.symm hmi) with h | h | h
     ·have hlt:=c.low i m h
      rw [if_pos (hdep m h),if_pos (by simp [hlt])]
      exact .inl (c.same m _ _ x hw)
     ·have hlt:=c.low m i h
      have hDm:D m=false:=by
       cases hDm:D m with
       | false=>rfl
       | true=>have:=hcl m i (by omega) hDm h;rw [hD] at this;cases this
      rw [if_neg (by simp [hDm]),if_neg (by simp;omega)]
      exact ih.imp id (fun h=>⟨by omega,h.2⟩)
     ·obtain⟨hlt,ha⟩:=(h.2 x hw).2 hx
      cases hDm:D m with
      | false =>
       rw [if_neg (by simp),if_neg (by simp;omega)]
       exact ih.imp id (fun h=>⟨by omega,h.2⟩)
      | true =>
       rw [if_pos rfl]
       exact .inr ⟨by omega,ha _⟩
   ·have e:∀s:FS,(A m s).at' x=s.at' x:=fun s=>c.out m s x hw
    rcases ih with h | ⟨h,h'⟩
    ·left;split<;>split<;>(try simp only [e])<;>exact h
    ·right;refine⟨by omega,?_⟩;split<;>(try simp only [e])<;>exact h'
 rcases this n (Nat.le_refl _) with h | ⟨_,h⟩
 ·exact .inl h
 ·exact .inr h
theorem Conf.add (c:Conf n A wr rd ard alt dep) {D D':Nat->Bool} {s0:FS} {i:Nat} (hi:i < n)(hD:D i=false)(hD':∀j,D' j=(D j || decide (j=i)))(hcl:∀j k,j < n->D j=true->dep j k->D k=true)(hlo:∀j,D j=true->j < n) :
 SD A D' s0 n=A i (SD A D s0 n):=by
 refine FS.ext_at fun x=>?_
 have e1:∀m,m<=i->SD A D' s0 m=SD A D s0 m:=by
  intro m
  induction m with
  | zero=>intro _;rfl
  | succ m ih=>intro hm;simp only [SD,hD',ih (by omega)];simp [show m≠i by omega]
 have e2:∀m,i < m->m<=n->(SD A D' s0 m).at' x=(A i (SD A D s0 m)).at' x:=by
  intro m
  induction m with
  | zero=>intro h;omega
  | succ m ih =>
   intro h hm
   by_cases hmi:m=i
   ·subst hmi
    simp only [SD,hD',hD]
    simp [e1 m (Nat.le_refl _)]
   ·have ih:=ih (by omega) (by omega)
    simp only [SD,hD']
    have:decide (m=i)=false:=by simp [hmi]
    rw [this,Bool.or_false]
    cases hDm:D m with
    | false=>simpa using ih
    | true =>
     simp only [if_true]
     have hno:∀x,wr i x->¬wr m x:=by
      rcases c.free i m hi (by omega) (Ne.symm hmi) with h' | h' | h'
      ·have:=c.low i m h';omega
      ·have:=hcl m i (by omega) hDm h';rw [hD] at this;cases this
      ·exact fun x hx=>(h'.1 x hx).1
     by_cases hwm:wr m x
     ·have hwi:¬wr i x:=fun h=>hno x h hwm
      rw [c.out i _ x hwi]
      exact c.same m _ _ x hwm
     ·rw [c.out m _ x hwm,ih]
      by_cases hwi:wr i x
      ·exact c.same i _ _ x hwi
      ·rw [c.out i _ x hwi,c.out i _ x hwi,c.out m _ x hwm]
 exact e2 n hi (Nat.le_refl _)
end conf
structure Ev where
 eff:Eff
 rs:List Nat
 rb:List Nat
 alt:List (Nat×BK):=[]
section region
variable {P : Program} {w0 : Cx} {N : Nat} {D : List Deferred} {r : Option Nat} {n : Nat} {ops : Array Oper} {Q : Exit → Act → World → Prop}
def hZ (ops:Array Oper)(i:Nat):Option Nat:=(ops[i]?).bind (·.dst)
def pM (P:Program)(r:Option Nat)(n:Nat)(w0:Cx)(N:Nat)(D:List Deferred)(ops:Array Oper)(i:Nat)(s:FS)(v:Ev):Prop :=
 ∀(s':FS),(∀t∈v.rs,s'.sl t=s.sl t)->(∀k∈v.rb,s'.bk k=s.bk k\/(k,s'.bk k)∈v.alt)->∀(ρ:Env) (a:Act) (W:World) (Q:Exit->Act->World->Prop) (K:Act->World->Prop),Rep w0 N D ρ s' a W ->
   (∀ρ' a' W',Rep w0 N D ρ' (s'.app (hZ ops i) v.eff) a' W'->K a' W')->wpOpIn (Fw r) n P ops Q i K a W
def cK (ops:Array Oper)(evs:List Ev)(i:Nat)(s:FS):FS :=
 match evs[i]? with
 | some v=>s.app (hZ ops i) v.eff
 | none=>s
theorem aF5 {evs:List Ev} (hlen:evs.length=ops.size) {s0:FS}
 (hloc:∀i v,evs[i]? = some v->pM P r n w0 N D ops i (SD (cK ops evs) (fun _=>true) s0 i) v)
 {ρ:Env} {a:Act} {W:World} (hrep:Rep w0 N D ρ s0 a W)
 (hQ:∀ρ' a' W',Rep w0 N D ρ' (SD (cK ops evs) (fun _=>true) s0 ops.size) a' W'->Q .normal a' W') {id:Nat} :
 (Code.region id ops false).wpIn (Fw r) n P Q a W:=by
 refine wpIn_region ?_
 have key:∀m i,i+m=ops.size->∀ρ a W,Rep w0 N D ρ (SD (cK ops evs) (fun _=>true) s0 i) a W->wpOpsIn (Fw r) n P ops Q (List.range' i m) a W:=by
  intro m
  induction m with
  | zero =>
   intro i hi ρ a W h
   obtain rfl:i=ops.size:=by omega
   show wpOpsIn (Fw r) n P ops Q [] a W
   simp only [wpOpsIn]
   exact hQ ρ a W h
  | succ m ih =>
   intro i hi ρ a W h
   rw [List.range'_succ,wpOpsIn_cons]
   have hlt:i < evs.length:=by omega
   refine hloc i evs[i] (by simp [hlt]) _ (fun _ _=>rfl) (fun _ _=>.inl rfl) ρ a W Q _ h (fun ρ' a' W' h'=>ih (i+1) (by omega) ρ' a' W' ?_)
   simp only [SD,if_true,cK]
   rw [List.getElem?_eq_getElem hlt]
   exact h'
 have:=key ops.size 0 (by omega) ρ a W hrep
 rwa [List.range_eq_range']
theorem wP {p q:Nat->Bool} (hpq:∀j,q j=true->p j=true) {i:Nat} (hi:p i=true)(hn:q i=false):∀(l:List Nat),i∈l->(l.filter q).length < (l.filter p).length
 | x::l,h=>by
  have hle:∀l:List Nat,(l.filter q).length<=(l.filter p).length:=by
   intro l
   induction l with
   | nil=>simp
   | cons y l ih =>
    simp only [List.filter_cons]
    by_cases hq:q y=true
    ·simp [hq,hpq y hq,ih]
    ·simp only [hq,Bool.false_eq_true,if_false]
     split<;>(try simp)<;>omega
  by_cases hx:x=i
  ·subst hx
   simp only [List.filter_cons,hi,hn,if_true,Bool.false_eq_true,if_false,List.length_cons]
   have:=hle l;omega
  ·have hm:i∈l:=by
    rcases List.mem_cons.1 h with h | h
    ·exact(hx h.symm).elim
    ·exact h
   have ih:=wP hpq hi hn l hm
   simp only [List.filter_cons]
   by_cases hq:q x=true
   ·simp [hq,hpq x hq,ih]
   ·simp only [hq,Bool.false_eq_true,if_false]
    split<;>(try simp)<;>omega
theorem aH9 {evs:List Ev} (hlen:evs.length=ops.size) {s0:FS} (hm:P.follows .mixedOrders=true)
 {wr rd ard:Nat->Nat⊕Nat->Prop} {alt:Nat->Nat⊕Nat->SV⊕BK->Prop} {dep:Nat->Nat->Prop} (c:Conf ops.size (cK ops evs) wr rd ard alt dep)
 (hrs:∀i v t,evs[i]? = some v->t∈v.rs->rd i (.inl t)) (hrb:∀i v k,evs[i]? = some v->k∈v.rb->rd i (.inr k)\/(ard i (.inr k)/\∀y,alt i (.inr k) y->∃b,y=.inr b/\(k,b)∈v.alt))
 (hlow:∀i o,ops[i]? = some o->∀e∈o.after,Region.binds .any e=true->e.on < i)
 (hdep:∀(D:Nat->Bool) i o,ops[i]? = some o->(∀j o,ops[j]? = some o->D j=true->∀e∈o.after,Region.binds .any e=true->D e.on=true)->(∀e∈o.after,Region.binds .any e=true->D e.on=true)->∀k,dep i k->D k=true)
 (hloc:∀i v,evs[i]? = some v->pM P r n w0 N D ops i (SD (cK ops evs) (fun _=>true) s0 i) v)
 {ρ:Env} {a:Act} {W:World} (hrep:Rep w0 N D ρ s0 a W)
 (hQ:∀ρ' a' W',Rep w0 N D ρ' (SD (cK ops evs) (fun _=>true) s0 ops.size) a' W'->Q .normal a' W') {id:Nat} :
 (Code.region id ops true).wpIn (Fw r) n P Q a W:=by
 refine wpIn_region_any hm ?_
 have hrep':Rep w0 N D ρ s0 a { W with drawn:=W.drawn+1 }:=hrep.grow ⟨rfl,rfl,rfl,Nat.le_refl _,fun _ _=>rfl⟩ (Nat.le_succ _)
 have key:∀fuel (listed:Array Bool),listed.size=ops.size->((List.range ops.size).filter fun j=>!listed.getD j false).length<=fuel ->
  (∀j o,ops[j]? = some o->listed.getD j false=true->∀e∈o.after,Region.binds .any e=true->listed.getD e.on false=true) ->
  ∀ρ a W,Rep w0 N D ρ (SD (cK ops evs) (fun j=>listed.getD j false) s0 ops.size) a W->wpAnyIn (Fw r) n P .any ops Q fuel listed a W:=by
  intro fuel
  induction fuel with
  | zero =>
   intro listed hsz hfew hcl ρ a W h
   have hall:∀j,j < ops.size->listed.getD j false=true:=fun j hj=>by
    have h0:(List.range ops.size).filter (fun j=>!listed.getD j false)=[]:=List.length_eq_zero_iff.1 (by omega)
    have:=(List.filter_eq_nil_iff.1 h0) j (by simp [hj])
    simpa using this
   have hS:SD (cK ops evs) (fun j=>listed.getD j false) s0 ops.size=SD (cK ops evs) (fun _=>true) s0 ops.size:=by
    have:∀m,m<=ops.size->SD (cK ops evs) (fun j=>listed.getD j false) s0 m=SD (cK ops evs) (fun _=>true) s0 m:=by
     intro m
     induction m with
     | zero=>intro _;rfl
     | succ m ihm=>intro hm';simp only [SD,ihm (by omega),hall m (by omega)]
    exact this _ (Nat.le_refl _)
   simp only [wpAnyIn]
   refine⟨?_,hQ ρ a W (hS▸h)⟩
   rw [List.eq_nil_iff_forall_not_mem]
   intro j hj
   obtain⟨h1,o,ho,_⟩:=mem_ready.1 hj
   have hjs:=(Array.getElem?_eq_some_iff.1 ho).1
   have:=hall j hjs
   have hjl:j < listed.size:=by omega
   simp only [Array.getD_eq_getD_getElem?,Array.getElem?_eq_getElem hjl,Option.getD_some] at h1 this
   rw [this] at h1;cases h1
  | succ fuel ih =>
   intro listed hsz hfew hcl ρ a W h
   refine⟨fun hnil=>?_,fun i hi=>?_⟩
   ·-- nothing may come up: all have come up
    have hall:∀j,j < ops.size->listed.getD j false=true:=by
     intro j
     induction j using Nat.strongRecOn with
     | ind j ihj =>
      intro hj
      cases hlj:listed.getD j false with
      | true=>rfl
      | false =>
       exfalso
       have ho:ops[j]? = some ops[j]:=by simp [hj]
       have:j∈Region.ready .any ops listed:=by
        refine mem_ready.2 ⟨?_,ops[j],ho,fun e he hb=>ihj e.on (hlow j _ ho e he hb) (by have:=hlow j _ ho e he hb;omega)⟩
        have hjl:j < listed.size:=by omega
        simp only [Array.getD_eq_getD_getElem?,Array.getElem?_eq_getElem hjl,Option.getD_some] at hlj ⊢
        exact hlj
       rw [hnil] at this;cases this
    have hS:SD (cK ops evs) (fun j=>listed.getD j false) s0 ops.size=SD (cK ops evs) (fun _=>true) s0 ops.size:=by
     have:∀m,m<=ops.size->SD (cK ops evs) (fun j=>listed.getD j false) s0 m=SD (cK ops evs) (fun _=>true) s0 m:=by
      intro m
      induction m with
      | zero=>intro _;rfl
      | succ m ihm=>intro hm';simp only [SD,ihm (by omega),hall m (by omega)]
     exact this _ (Nat.le_refl _)
    exact hQ ρ a W (hS▸h)
   ·obtain⟨h1,o,ho,hall⟩:=mem_ready.1 hi
    have his:=(Array.getElem?_eq_some_iff.1 ho).1
    have hil:i < listed.size:=by omega
    have hDi:listed.getD i false=false:=by
     simp only [Array.getD_eq_getD_getElem?,Array.getElem?_eq_getElem hil,Option.getD_some] at h1 ⊢
     exact h1
    have hie:i < evs.length:=by omega
    have hev:evs[i]? = some evs[i]:=by simp [hie]
    have hD':∀j,(listed.setIfInBounds i true).getD j false=(listed.getD j false || decide (j=i)):=fun j=>by
     by_cases hj:j=i
     ·subst hj;simp [hil]
     ·rw [getD_set_ne false (Ne.symm hj)];simp [hj]
    have hclo:∀j k,j < ops.size->listed.getD j false=true->dep j k->listed.getD k false=true:=fun j k hj hDj hd =>
     hdep (fun j=>listed.getD j false) j ops[j] (by simp [hj]) hcl (hcl j _ (by simp [hj]) hDj) k hd
    have hcond:∀k,dep i k->listed.getD k false=true:=fun k hk=>hdep (fun j=>listed.getD j false) i o ho hcl hall k hk
    have hlo:∀j,listed.getD j false=true->j < ops.size:=fun j hj=>by
     rcases Nat.lt_or_ge j listed.size with h' | h'
     ·omega
     ·simp [Array.getElem?_eq_none h'] at hj
    refine hloc i evs[i] hev (SD (cK ops evs) (fun j=>listed.getD j false) s0 ops.size) (fun t ht=>?_) (fun k hk=>?_) ρ a W Q _ h (fun ρ' a' W' h'=>?_)
    ·have:=c.reads (s0:=s0) his hDi hclo hcond (hrs i _ t hev ht)
     simpa [FS.at'] using this
    ·rcases hrb i _ k hev hk with h5 | ⟨h5,h6⟩
     ·have:=c.reads (s0:=s0) his hDi hclo hcond h5
      exact .inl (by simpa [FS.at'] using this)
     ·rcases c.areads (s0:=s0) his hDi hclo hcond h5 with h7 | h7
      ·exact .inl (by simpa [FS.at'] using h7)
      ·obtain⟨b,e,hb⟩:=h6 _ h7
       have e':(SD (cK ops evs) (fun j=>listed.getD j false) s0 ops.size).bk k=b:=by simpa [FS.at'] using e
       exact .inr (by rw [e'];exact hb)
    ·refine ih (listed.setIfInBounds i true) (by simp [hsz]) ?_ (fun j o' ho' hj e he hb=>?_) ρ' a' W' ?_
     ·have:=wP (p:=fun j=>!listed.getD j false) (q:=fun j=>!(listed.setIfInBounds i true).getD j false) (i:=i) (fun j hj=>by
       rw [hD'] at hj;simp at hj ⊢;exact hj.1) (by simp only [hDi];rfl) (by rw [hD'];simp) (List.range ops.size) (by simp [his])
      omega
     ·rw [hD'] at hj ⊢
      by_cases hji:j=i
      ·subst hji
       rw [ho] at ho';cases ho'
       simp [hall e he hb]
      ·simp only [hji,decide_false,Bool.or_false] at hj
       simp [hcl j o' ho' hj e he hb]
     ·have hadd:=c.add (s0:=s0) his hDi hD' hclo hlo
      rw [hadd]
      simp only [cK,hev]
      exact h'
 have h0:∀j,(Array.replicate ops.size false).getD j false=false:=fun j=>by
  rcases Nat.lt_or_ge j ops.size with h' | h'
  ·simp [h']
  ·simp [Array.getElem?_eq_none (xs:=Array.replicate ops.size false) (by simpa using h')]
 refine key ops.size (Array.replicate ops.size false) (by simp) (Nat.le_trans (List.length_filter_le _ _) (by simp)) (fun j o _ hj=>by rw [h0] at hj;cases hj) ρ a _ ?_
 have:SD (cK ops evs) (fun j=>(Array.replicate ops.size false).getD j false) s0 ops.size=s0:=by
  have:∀m,SD (cK ops evs) (fun j=>(Array.replicate ops.size false).getD j false) s0 m=s0:=by
   intro m
   induction m with
   | zero=>rfl
   | succ m ihm=>have hm0:=h0 m;simp only [SD];exact(if_neg (by rw [hm0];simp)).trans ihm
  exact this _
 rw [this];exact hrep'
end region
end Go.Aw
namespace Go.Aw
open Go.RowKit
structure LS where
 sl:List SV
 bk:List BK
def LS.fs (s:LS):FS:=⟨fun t=>s.sl.getD t .u,fun k=>s.bk.getD k .un⟩
def aL9 (l:List BK):List (Nat×BK)->Option (List BK)
 | []=>some l
 | (k,x)::us=>if k < l.length then aL9 (l.set k x) us else if k=l.length then aL9 (l++[x]) us else none
def LS.app (s:LS)(dst:Option Nat)(e:Eff):Option LS :=
 match aL9 s.bk e.ups with
 | none=>none
 | some bk =>
  match dst with
  | none=>some { s with bk:=bk }
  | some d=>if d < s.sl.length then some { sl:=s.sl.set d e.val,bk:=bk } else none
theorem aDj:∀(us:List (Nat×BK)) (l l':List BK),aL9 l us=some l'->(fun k=>l'.getD k .un)=cW (fun k=>l.getD k .un) us
 | [],l,l',h=>by simp only [aL9,bG] at h;subst h;rfl
 | (k,x)::us,l,l',h=>by
  simp only [aL9] at h
  simp only [cW]
  split at h
  ·rename_i hk
   rw [aDj us _ l' h]
   congr 1
   funext j
   simp only [fP,List.getElem?_set]
   by_cases hj:j=k
   ·subst hj;simp [hk]
   ·rw [if_neg (fun e=>hj e.symm),if_neg hj]
  ·split at h
   ·rename_i hk
    rw [aDj us _ l' h]
    congr 1
    funext j
    simp only [fP]
    by_cases hj:j=k
    ·subst hj;simp [hk]
    ·rw [if_neg hj]
     by_cases hlt:j < l.length
     ·rw [List.getElem?_append_left hlt]
     ·rw [List.getElem?_eq_none (by simp;omega),List.getElem?_eq_none (by omega)]
   ·cases h
theorem aIa {s s':LS} {dst:Option Nat} {e:Eff} (h:s.app dst e=some s'):s'.fs=s.fs.app dst e/\(∀d,dst=some d->d < s.sl.length)/\s'.sl.length=s.sl.length:=by
 unfold LS.app at h
 split at h
 ·cases h
 ·rename_i bk hbk
  have hb:=aDj _ _ _ hbk
  cases dst with
  | none =>
   simp only [bG] at h
   subst h
   refine⟨?_,by simp,rfl⟩
   simp only [LS.fs,FS.app,hb]
  | some d =>
   simp only at h
   split at h
   ·rename_i hd
    simp only [bG] at h
    subst h
    refine⟨?_,fun d' hd'=>by cases hd';exact hd,by simp⟩
    simp only [LS.fs,FS.app,hb]
    congr 1
    funext t
    simp only [fP,List.getElem?_set]
    by_cases ht:t=d
    ·subst ht;simp [hd]
    ·rw [if_neg (fun e=>ht e.symm),if_neg ht]
   ·cases h
def xX (k:Nat):List Nat->Option Nat
 | []=>none
 | j::l=>if j=k then some 0 else match xX k l with
  | some i=>some (i+1)
  | none=>none
mutual
def xY (ks:List Nat):SV->Option SV
 | .u=>some .u
 | .b x=>some (.v (.bool x))
 | .v x=>some (.v x)
 | .p k off=>match xX k ks with
  | some i=>some (.p i off)
  | none=>none
 | .s k off len es=>match xX k ks with
  | some i=>some (.s i off len es)
  | none=>none
 | .d cells len es=>some (.d cells len es)
 | .m k=>match xX k ks with
  | some i=>some (.m i)
  | none=>none
 | .f g caps=>match renL ks caps with
  | some l=>some (.f g l)
  | none=>none
 | .a l=>match renL ks l with
  | some l=>some (.a l)
  | none=>none
 | .t l=>match renL ks l with
  | some l=>some (.t l)
  | none=>none
def renL (ks:List Nat):List SV->Option (List SV)
 | []=>some []
 | x::l=>match xY ks x,renL ks l with
  | some y,some m=>some (y::m)
  | _,_=>none
end
mutual
def back (ks:List Nat)(nn fr:Nat):SV->Option SV
 | .u=>some .u
 | .b x=>some (.b x)
 | .v x=>some (.v x)
 | .p k off=>match ks[k]? with
  | some j=>some (.p j off)
  | none=>if k - ks.length < nn then some (.p (fr+(k - ks.length)) off) else none
 | .s k off len es=>match ks[k]? with
  | some j=>some (.s j off len es)
  | none=>if k - ks.length < nn then some (.s (fr+(k - ks.length)) off len es) else none
 | .d cells len es=>some (.d cells len es)
 | .m k=>match ks[k]? with
  | some j=>some (.m j)
  | none=>if k - ks.length < nn then some (.m (fr+(k - ks.length))) else none
 | .f g caps=>match backL ks nn fr caps with
  | some l=>some (.f g l)
  | none=>none
 | .a l=>match backL ks nn fr l with
  | some l=>some (.a l)
  | none=>none
 | .t l=>match backL ks nn fr l with
  | some l=>some (.t l)
  | none=>none
def backL (ks:List Nat)(nn fr:Nat):List SV->Option (List SV)
 | []=>some []
 | x::l=>match back ks nn fr x,backL ks nn fr l with
  | some y,some m=>some (y::m)
  | _,_=>none
end
theorem mS {k:Nat}:∀{ks:List Nat} {i:Nat},xX k ks=some i->ks[i]? = some k
 | [],_,h=>by simp [xX] at h
 | j::l,i,h=>by
  simp only [xX] at h
  split at h
  ·rename_i hj;simp only [bG] at h;subst h;simp [hj]
  ·split at h
   ·rename_i i' hi';simp only [bG] at h;subst h
    simpa using mS hi'
   ·cases h
def jA (ρ:Env)(ks:List Nat):Env:=⟨fun i=>match ks[i]? with
 | some k=>ρ k
 | none=>none,ρ.fz⟩
theorem wQ {ρ:Env} {ks:List Nat} {k i:Nat} (h:xX k ks=some i):jA ρ ks i=ρ k:=by
 unfold jA;simp only [Env.mk_loc];rw [mS h]
theorem oT (ρ:Env)(ks:List Nat):ρ.le (jA ρ ks):=fun _ _ h=>h
theorem dK {ρ:Env} {ks:List Nat} {i k:Nat} (h:ks[i]? = some k):jA ρ ks i=ρ k:=by unfold jA;simp only [Env.mk_loc,h]
@[simp] theorem aUg (ρ:Env) (ks:List Nat):(jA ρ ks).fz=ρ.fz:=rfl
mutual
theorem aDk {ρ:Env} {ks:List Nat}:∀(x y:SV) (v:Value),xY ks x=some y->Rel ρ x v->Rel (jA ρ ks) y v
 | .u,y,v,h,hr=>by simp only [xY,bG] at h;subst h;simp [Rel]
 | .b x,y,v,h,hr=>by simp only [xY,bG] at h;subst h;simpa [Rel] using hr
 | .v x,y,v,h,hr=>by simp only [xY,bG] at h;subst h;simpa [Rel] using hr
 | .p k off,y,v,h,hr=>by
  simp only [xY] at h
  split at h
  ·rename_i i hi;simp only [bG] at h;subst h
   simp only [Rel] at hr ⊢;rw [wQ hi];exact hr
  ·cases h
 | .s k off len es,y,v,h,hr=>by
  simp only [xY] at h
  split at h
  ·rename_i i hi;simp only [bG] at h;subst h
   simp only [Rel] at hr ⊢;rw [wQ hi];exact hr
  ·cases h
 | .d cells len es,y,v,h,hr=>by simp only [xY,bG] at h;subst h;simp only [Rel] at hr ⊢;exact hr
 | .m k,y,v,h,hr=>by
  simp only [xY] at h
  split at h
  ·rename_i i hi;simp only [bG] at h;subst h
   simp only [Rel] at hr ⊢;rw [wQ hi];exact hr
  ·cases h
 | .f g caps,y,v,h,hr=>by
  simp only [xY] at h
  split at h
  ·rename_i l hl;simp only [bG] at h;subst h
   simp only [Rel] at hr ⊢
   obtain⟨vs,hv,hr⟩:=hr
   exact⟨vs,hv,renL_rel caps l vs hl hr⟩
  ·cases h
 | .a l',y,v,h,hr=>by
  simp only [xY] at h
  split at h
  ·rename_i l hl;simp only [bG] at h;subst h
   simp only [Rel] at hr ⊢
   obtain⟨vs,hv,hr⟩:=hr
   exact⟨vs,hv,renL_rel l' l vs hl hr⟩
  ·cases h
 | .t l',y,v,h,hr=>by
  simp only [xY] at h
  split at h
  ·rename_i l hl;simp only [bG] at h;subst h
   simp only [Rel] at hr ⊢
   obtain⟨vs,hv,hr⟩:=hr
   exact⟨vs,hv,renL_rel l' l vs hl hr⟩
  ·cases h
theorem renL_rel {ρ:Env} {ks:List Nat}:∀(l m:List SV) (vs:List Value),renL ks l=some m->Rels ρ l vs->Rels (jA ρ ks) m vs
 | [],m,vs,h,hr=>by simp only [renL,bG] at h;subst h;cases vs<;>simp [Rels] at hr ⊢
 | x::l,m,vs,h,hr=>by
  simp only [renL] at h
  split at h
  ·rename_i y m' hy hm
   simp only [bG] at h;subst h
   cases vs with
   | nil=>simp [Rels] at hr
   | cons v vs =>
    simp only [Rels] at hr ⊢
    exact⟨aDk x y v hy hr.1,renL_rel l m' vs hm hr.2⟩
  ·cases h
end
mutual
theorem aF6 {ρc ρ':Env} {ks:List Nat} {nn fr:Nat} (h0:ρc.le ρ')(h1:∀i k,ks[i]? = some k->ρ' k=ρc i)(h2:∀j,j < nn->ρ' (fr+j)=ρc (ks.length+j)) :
 ∀(x y:SV) (v:Value),back ks nn fr x=some y->Rel ρc x v->Rel ρ' y v
 | .u,y,v,h,hr=>by simp only [back,bG] at h;subst h;simp [Rel]
 | .b x,y,v,h,hr=>by simp only [back,bG] at h;subst h;simpa [Rel] using hr
 | .v x,y,v,h,hr=>by simp only [back,bG] at h;subst h;simpa [Rel] using hr
 | .p k off,y,v,h,hr=>by
  simp only [back] at h
  split at h
  ·rename_i j hj;simp only [bG] at h;subst h
   simp only [Rel] at hr ⊢;rw [h1 k j hj];exact hr
  ·rename_i hn
   split at h
   ·rename_i hlt;simp only [bG] at h;subst h
    have hle:ks.length<=k:=by simpa using hn
    simp only [Rel] at hr ⊢;rw [h2 _ hlt,Nat.add_sub_cancel' hle];exact hr
   ·cases h
 | .s k off len es,y,v,h,hr=>by
  simp only [back] at h
  split at h
  ·rename_i j hj;simp only [bG] at h;subst h
   simp only [Rel] at hr ⊢;rw [h1 k j hj];exact hr
  ·rename_i hn
   split at h
   ·rename_i hlt;simp only [bG] at h;subst h
    have hle:ks.length<=k:=by simpa using hn
    simp only [Rel] at hr ⊢;rw [h2 _ hlt,Nat.add_sub_cancel' hle];exact hr
   ·cases h
 | .d cells len es,y,v,h,hr=>by
  simp only [back,bG] at h;subst h
  exact Rel.congr h0 _ _ (fun k hk=>by simp [SV.has] at hk) hr
 | .m k,y,v,h,hr=>by
  simp only [back] at h
  split at h
  ·rename_i j hj;simp only [bG] at h;subst h
   simp only [Rel] at hr ⊢;rw [h1 k j hj];exact hr
  ·rename_i hn
   split at h
   ·rename_i hlt;simp only [bG] at h;subst h
    have hle:ks.length<=k:=by simpa using hn
    simp only [Rel] at hr ⊢;rw [h2 _ hlt,Nat.add_sub_cancel' hle];exact hr
   ·cases h
 | .f g caps,y,v,h,hr=>by
  simp only [back] at h
  split at h
  ·rename_i l hl;simp only [bG] at h;subst h
   simp only [Rel] at hr ⊢
   obtain⟨vs,hv,hr⟩:=hr
   exact⟨vs,hv,backL_rel h0 h1 h2 caps l vs hl hr⟩
  ·cases h
 | .a l',y,v,h,hr=>by
  simp only [back] at h
  split at h
  ·rename_i l hl;simp only [bG] at h;subst h
   simp only [Rel] at hr ⊢
   obtain⟨vs,hv,hr⟩:=hr
   exact⟨vs,hv,backL_rel h0 h1 h2 l' l vs hl hr⟩
  ·cases h
 | .t l',y,v,h,hr=>by
  simp only [back] at h
  split at h
  ·rename_i l hl;simp only [bG] at h;subst h
   simp only [Rel] at hr ⊢
   obtain⟨vs,hv,hr⟩:=hr
   exact⟨vs,hv,backL_rel h0 h1 h2 l' l vs hl hr⟩
  ·cases h
theorem backL_rel {ρc ρ':Env} {ks:List Nat} {nn fr:Nat} (h0:ρc.le ρ')(h1:∀i k,ks[i]? = some k->ρ' k=ρc i)(h2:∀j,j < nn->ρ' (fr+j)=ρc (ks.length+j)) :
 ∀(l m:List SV) (vs:List Value),backL ks nn fr l=some m->Rels ρc l vs->Rels ρ' m vs
 | [],m,vs,h,hr=>by simp only [backL,bG] at h;subst h;cases vs<;>simp [Rels] at hr ⊢
 | x::l,m,vs,h,hr=>by
  simp only [backL] at h
  split at h
  ·rename_i y m' hy hm
   simp only [bG] at h;subst h
   cases vs with
   | nil=>simp [Rels] at hr
   | cons v vs =>
    simp only [Rels] at hr ⊢
    exact⟨aF6 h0 h1 h2 x y v hy hr.1,backL_rel h0 h1 h2 l m' vs hm hr.2⟩
  ·cases h
end
mutual
theorem aF7 {ks:List Nat} {nn fr k:Nat}:∀(x y:SV),back ks nn fr x=some y->y.has k->k∈ks\/(fr<=k/\k < fr+nn)
 | .u,y,h,hk=>by simp only [back,bG] at h;subst h;simp [SV.has] at hk
 | .b x,y,h,hk=>by simp only [back,bG] at h;subst h;simp [SV.has] at hk
 | .v x,y,h,hk=>by simp only [back,bG] at h;subst h;simp [SV.has] at hk
 | .p j off,y,h,hk=>by
  simp only [back] at h
  split at h
  ·rename_i j' hj;simp only [bG] at h;subst h
   simp only [SV.has] at hk;subst hk;exact .inl (List.mem_of_getElem? hj)
  ·split at h
   ·rename_i hlt;simp only [bG] at h;subst h
    simp only [SV.has] at hk;exact .inr ⟨by omega,by omega⟩
   ·cases h
 | .s j off len es,y,h,hk=>by
  simp only [back] at h
  split at h
  ·rename_i j' hj;simp only [bG] at h;subst h
   simp only [SV.has] at hk;subst hk;exact .inl (List.mem_of_getElem? hj)
  ·split at h
   ·rename_i hlt;simp only [bG] at h;subst h
    simp only [SV.has] at hk;exact .inr ⟨by omega,by omega⟩
   ·cases h
 | .d cells len es,y,h,hk=>by simp only [back,bG] at h;subst h;simp [SV.has] at hk
 | .m j,y,h,hk=>by
  simp only [back] at h
  split at h
  ·rename_i j' hj;simp only [bG] at h;subst h
   simp only [SV.has] at hk;subst hk;exact .inl (List.mem_of_getElem? hj)
  ·split at h
   ·rename_i hlt;simp only [bG] at h;subst h
    simp only [SV.has] at hk;exact .inr ⟨by omega,by omega⟩
   ·cases h
 | .f g caps,y,h,hk=>by
  simp only [back] at h
  split at h
  ·rename_i l hl;simp only [bG] at h;subst h
   exact backL_has caps l hl (by simpa [SV.has] using hk)
  ·cases h
 | .a l',y,h,hk=>by
  simp only [back] at h
  split at h
  ·rename_i l hl;simp only [bG] at h;subst h
   exact backL_has l' l hl (by simpa [SV.has] using hk)
  ·cases h
 | .t l',y,h,hk=>by
  simp only [back] at h
  split at h
  ·rename_i l hl;simp only [bG] at h;subst h
   exact backL_has l' l hl (by simpa [SV.has] using hk)
  ·cases h
theorem backL_has {ks:List Nat} {nn fr k:Nat}:∀(l m:List SV),backL ks nn fr l=some m->SV.hasl k m->k∈ks\/(fr<=k/\k < fr+nn)
 | [],m,h,hk=>by simp only [backL,bG] at h;subst h;simp [SV.hasl] at hk
 | x::l,m,h,hk=>by
  simp only [backL] at h
  split at h
  ·rename_i y m' hy hm
   simp only [bG] at h;subst h
   simp only [SV.hasl] at hk
   rcases hk with hk | hk
   ·exact aF7 x y hy hk
   ·exact backL_has l m' hm hk
  ·cases h
end
def aIb:BK->Bool
 | .un=>true
 | _=>false
def tJ:List Nat->Bool
 | []=>true
 | x::l=>!l.contains x&&tJ l
def nK (ks:List Nat)(m:Bool):BK->Option BK
 | .live own true cells=>if m=true/\own=false then none else some (.live m true cells)
 | .live own false cells=>if m=true/\own=false then none else match renL ks cells with
  | some l=>some (.live m false l)
  | none=>none
 | .map es=>match m with
  | true=>some (.map es)
  | false=>none
 | _=>none
def xZ (ks:List Nat)(bk:Nat->BK):List Nat->List BK->Option (List BK)
 | [],_=>some []
 | k::l,mb=>match nK ks (!aIb (mb.headD .un)) (bk k),xZ ks bk l mb.tail with
  | some x,some m=>some (x::m)
  | _,_=>none
def rC (ks:List Nat)(nn fr:Nat):BK->Option BK
 | .dead=>some .dead
 | .map es=>some (.map es)
 | .live true true cells=>some (.live true true cells)
 | .live true false cells=>match backL ks nn fr cells with
  | some cells=>some (.live true false cells)
  | none=>none
 | _=>none
def tK (ks:List Nat)(nn fr:Nat):List Nat->List BK->Option (List (Nat×BK))
 | _,[]=>some []
 | [],_::_=>none
 | k::l,x::m=>match tK ks nn fr l m with
  | none=>none
  | some us=>match aIb x with
   | true=>some us
   | false=>match rC ks nn fr x with
    | some y=>some ((k,y)::us)
    | none=>none
def wR (ks:List Nat)(nn fr:Nat):Nat->List BK->Option (List (Nat×BK))
 | _,[]=>some []
 | j,x::l=>match rC ks nn fr x,wR ks nn fr (j+1) l with
  | some y,some m=>some ((j,y)::m)
  | _,_=>none
def callee:SV->Option (Nat×List SV×List SV)
 | .v (.func (.func g) first caps)=>match first.toList,caps.toList with
  | [],[]=>some (g,[],[])
  | _,_=>none
 | .f g caps=>if g < 1000000 then some (g,[],caps) else some (g - 1000000,caps,[])
 | _=>none
def sC (xs:List SV)(bk:Nat->BK)(fr:Nat)(orc:List Or):Option (Eff×List Ob×List Or×List Nat) :=
 match xs,orc with
 | fv::args,.call ks res nb mb::orc =>
  match callee fv with
  | some (g,fst,caps) =>
   match renL ks (fst++args++caps),xZ ks bk ks mb,back ks nb.length fr res,tK ks nb.length fr ks mb,wR ks nb.length fr fr nb with
   | some args',some bs,some res',some upm,some upn=>if tJ ks then some ({ val:=res',ups:=upm++upn },[.call g args' bs res nb mb],orc,ks) else none
   | _,_,_,_,_=>none
  | none=>none
 | _,_=>none
section
variable {P : Program} {T : Nat → Option TI} {w0 : Cx} {N : Nat} {D : List Deferred} {ρ : Env} {s : FS} {a : Act} {W : World}
theorem lN:∀{l:List Nat},tJ l=true->∀(i j k:Nat),l[i]? = some k->l[j]? = some k->i=j
 | [],_,i,j,k,h,_=>by simp at h
 | x::l,h,i,j,k,hi,hj=>by
  simp only [tJ,Bool.and_eq_true,Bool.not_eq_true',List.contains_eq_mem,decide_eq_false_iff_not] at h
  cases i with
  | zero=>cases j with
   | zero=>rfl
   | succ j=>simp at hi hj;subst hi;exact(h.1 (List.mem_of_getElem? hj)).elim
  | succ i=>cases j with
   | zero=>simp at hi hj;subst hj;exact(h.1 (List.mem_of_getElem? hi)).elim
   | succ j=>simp at hi hj;rw [lN h.2 i j k hi hj]
theorem aF8 {x:BK}:aIb x=true↔x=.un:=by cases x<;>simp [aIb]
theorem aAc {ks:List Nat} {bk:Nat->BK}:∀(l:List Nat) (mb:List BK) (m:List BK),xZ ks bk l mb=some m->m.length=l.length/\∀(i k:Nat),l[i]? = some k->∃y,m[i]? = some y/\nK ks (!aIb (mb.getD i .un)) (bk k)=some y
 | [],mb,m,h=>by simp only [xZ,bG] at h;subst h;simp
 | k::l,mb,m,h=>by
  simp only [xZ] at h
  split at h
  ·rename_i x m' hx hm
   simp only [bG] at h;subst h
   obtain⟨h1,h2⟩:=aAc l _ m' hm
   refine⟨by simp [h1],fun i k' hi=>?_⟩
   cases i with
   | zero =>
    simp at hi;subst hi
    refine⟨x,by simp,?_⟩
    cases mb<;>simpa using hx
   | succ i =>
    simp at hi ⊢
    obtain⟨y,e1,e2⟩:=h2 i k' hi
    refine⟨y,e1,?_⟩
    cases mb<;>simpa using e2
  ·cases h
theorem yA {ks:List Nat} {nn fr:Nat}:∀(l:List Nat) (mb:List BK) (us:List (Nat×BK)),tK ks nn fr l mb=some us ->
 (∀k y,(k,y)∈us->∃i,l[i]? = some k/\mb.getD i .un≠.un/\rC ks nn fr (mb.getD i .un)=some y)/\(∀i k,l[i]? = some k->mb.getD i .un≠.un->∃y,(k,y)∈us)
 | l,[],us,h=>by
  have:us=[]:=by cases l<;>(simp only [tK,bG] at h;exact h.symm)
  subst this
  exact⟨fun k y hm=>by simp at hm,fun i k _ hne=>by simp at hne⟩
 | [],x::m,us,h=>by simp [tK] at h
 | k::l,x::m,us,h=>by
  simp only [tK] at h
  split at h
  ·cases h
  ·rename_i us' hus
   obtain⟨h1,h2⟩:=yA l m us' hus
   split at h
   ·rename_i hun
    rw [aF8] at hun
    simp only [bG] at h;subst h
    refine⟨fun k' y hm=>?_,fun i k' hi hne=>?_⟩
    ·obtain⟨i,e1,e2,e3⟩:=h1 k' y hm
     exact⟨i+1,by simpa using e1,by simpa using e2,by simpa using e3⟩
    ·cases i with
     | zero=>simp [hun] at hne
     | succ i=>exact h2 i k' (by simpa using hi) (by simpa using hne)
   ·rename_i hun
    split at h
    ·rename_i y hy
     simp only [bG] at h;subst h
     refine⟨fun k' y' hm=>?_,fun i k' hi hne=>?_⟩
     ·rcases List.mem_cons.1 hm with e | hm
      ·cases e
       exact⟨0,by simp,by simp;intro e;rw [e] at hun;simp [aIb] at hun,by simpa using hy⟩
      ·obtain⟨i,e1,e2,e3⟩:=h1 k' y' hm
       exact⟨i+1,by simpa using e1,by simpa using e2,by simpa using e3⟩
     ·cases i with
      | zero=>simp at hi;subst hi;exact⟨y,by simp⟩
      | succ i =>
       obtain⟨y',hm⟩:=h2 i k' (by simpa using hi) (by simpa using hne)
       exact⟨y',by simp [hm]⟩
    ·cases h
theorem rD {ks:List Nat} {nn fr:Nat}:∀(l:List BK) (j:Nat) (m:List (Nat×BK)),wR ks nn fr j l=some m ->
 m.length=l.length/\∀i x,l[i]? = some x->∃y,rC ks nn fr x=some y/\m[i]? = some (j+i,y)
 | [],j,m,h=>by simp only [wR,bG] at h;subst h;simp
 | x::l,j,m,h=>by
  simp only [wR] at h
  split at h
  ·rename_i y m' hc hm
   simp only [bG] at h;subst h
   obtain⟨h1,h2⟩:=rD l _ m' hm
   refine⟨by simp [h1],fun i x hi=>?_⟩
   cases i with
   | zero=>simp at hi;subst hi;exact⟨y,hc,by simp⟩
   | succ i =>
    simp at hi
    obtain⟨y',e1,e2⟩:=h2 i x hi
    exact⟨y',e1,by simp;rw [e2];simp;omega⟩
  ·cases h
theorem mT:∀(us:List (Nat×BK)) (f:Nat->BK) (k:Nat),(∀u∈us,u.1≠k)->cW f us k=f k
 | [],f,k,_=>rfl
 | (j,x)::us,f,k,h=>by
  simp only [cW]
  rw [mT us _ k (fun u hu=>h u (by simp [hu]))]
  have:=h (j,x) (by simp)
  simp only at this
  rw [if_neg (fun e=>this e.symm)]
theorem aAd:∀(us:List (Nat×BK)) (f:Nat->BK) (k:Nat),(cW f us k=f k/\∀u∈us,u.1≠k)\/(k,cW f us k)∈us
 | [],f,k=>.inl ⟨rfl,fun u hu=>by simp at hu⟩
 | (j,x)::us,f,k=>by
  simp only [cW]
  rcases aAd us (fun i=>if i=j then x else f i) k with⟨h1,h2⟩ | h
  ·by_cases hk:k=j
   ·subst hk
    exact .inr (by rw [h1];simp)
   ·refine .inl ⟨by rw [h1,if_neg hk],fun u hu=>?_⟩
    rcases List.mem_cons.1 hu with rfl | hu
    ·exact fun e=>hk e.symm
    ·exact h2 u hu
  ·exact .inr (List.mem_cons_of_mem _ h)
theorem lO {ks:List Nat} {nn fr:Nat} {x y:BK} (h:rC ks nn fr x=some y)(hp:x.pl):y≠.un/\(y.own->x.own)/\(∀k,y.has k->k∈ks\/(fr<=k/\k < fr+nn))/\y.pl:=by
 unfold rC at h
 split at h
 ·simp only [bG] at h;subst h;exact⟨by simp,fun h=>h.elim,fun k hk=>hk.elim,trivial⟩
 ·simp only [bG] at h;subst h
  exact⟨by simp,fun _=>trivial,fun k hk=>(hp k hk).elim,hp⟩
 ·simp only [bG] at h;subst h
  exact⟨by simp,fun _=>trivial,fun k hk=>(hp k hk).elim,hp⟩
 ·split at h
  ·rename_i cells c' hc
   simp only [bG] at h;subst h
   exact⟨by simp,fun _=>trivial,fun k hk=>backL_has _ _ hc hk,trivial⟩
  ·cases h
 ·cases h
theorem aMa {ρc ρ':Env} {ks:List Nat} {nn fr:Nat} {M M':Nat->Prop} {j k:Nat} {x y:BK} (h0:ρc.le ρ')(h1:∀i k,ks[i]? = some k->ρ' k=ρc i)(h2:∀j,j < nn->ρ' (fr+j)=ρc (ks.length+j))(hk:ρ' k=ρc j)(hM:∀b,M' b->M b)
 (h:rC ks nn fr x=some y) (hp:x.pl) (hb:BRep ρc M' W j x):BRep ρ' M W k y:=by
 unfold rC at h
 split at h
 ·simp only [bG] at h;subst h;trivial
 ·simp only [bG] at h;subst h
  obtain⟨b,n,arr,q1,q2,q3,q4⟩:=hb
  exact⟨b,n,arr,hk.trans q1,hM b q2,MEs.congr h0 _ _ _ (fun k hk=>(hp k hk).elim) q3,q4⟩
 ·simp only [bG] at h;subst h
  rcases hb with⟨q1,q2⟩ | ⟨b,vs,rest,ty,q1,q2,q3,q4⟩
  ·exact .inl ⟨hk.trans q1,q2⟩
  ·exact .inr ⟨b,vs,rest,ty,hk.trans q1,hM b q2,Plain.congr h0 hp q3,q4⟩
 ·split at h
  ·rename_i cells c' hc
   simp only [bG] at h;subst h
   rcases hb with⟨q1,q2⟩ | ⟨b,vs,rest,ty,q1,q2,q3,q4⟩
   ·subst q2
    simp only [backL,bG] at hc;subst hc
    exact .inl ⟨hk.trans q1,rfl⟩
   ·exact .inr ⟨b,vs,rest,ty,hk.trans q1,hM b q2,backL_rel h0 h1 h2 _ _ vs hc q3,q4⟩
  ·cases h
 ·cases h
theorem Rep.called (h:Rep w0 N D ρ s a W) {W':World} {own':Nat->Prop} (hb:Kept W own' W') {ks:List Nat} (hnd:tJ ks=true) {mb nb:List BK} {fr:Nat} (hfr:∀k,fr<=k->k < fr+nb.length->s.bk k=.un)(hks:∀k∈ks,s.bk k≠.un)
 {upm upn:List (Nat×BK)} (hm:tK ks nb.length fr ks mb=some upm) (hu:wR ks nb.length fr fr nb=some upn)
 (hown:∀b,own' b->∃i k n,ks[i]? = some k/\mb.getD i .un≠.un/\(s.bk k).own/\ρ k=some (b,0,n)) {ρ':Env} (hold:∀i k,ks[i]? = some k->ρ' i=ρ k) (hle:ρ.le ρ')
 (hfz:∀b o,ρ'.fz b=some o->W'.heap[b]? = some o.obj/\(∀j n,(fW ks.length mb nb j).own->ρ' j≠some (b,0,n))/\(ρ.fz b=some o\/W.heap.size<=b\/own' b))
 (hnew:∀j,BRep ρ' (fun b=>W.heap.size<=b\/own' b) W' j (fW ks.length mb nb j)) (hplp:∀j,(fW ks.length mb nb j).pl)
 (hap:∀i j b n b' n',i≠j->(fW ks.length mb nb i).own->(fW ks.length mb nb j).own->ρ' i=some (b,0,n)->ρ' j=some (b',0,n')->b≠b') :
 Rep w0 N D ⟨fun k=>if fr<=k/\k < fr+nb.length then ρ' (ks.length+(k - fr)) else ρ k,ρ'.fz⟩ (s.app none { val:=.u,ups:=upm++upn }) a W' /\
 (∀k,k∈ks\/(fr<=k/\k < fr+nb.length)->(s.app none { val:=.u,ups:=upm++upn }).bk k≠.un):=by
 obtain⟨hm1,hm2⟩:=yA ks mb upm hm
 obtain⟨hul,hus⟩:=rD nb fr upn hu
 have hnewk:∀k y,(k,y)∈upn->(fr<=k/\k < fr+nb.length)/\rC ks nb.length fr (nb.getD (k - fr) .un)=some y:=fun k y hm=>by
  obtain⟨i,hi⟩:=List.getElem?_of_mem hm
  have hlt:i < nb.length:=by rw [←hul];exact(List.getElem?_eq_some_iff.1 hi).1
  obtain⟨y',e2,e3⟩:=hus i nb[i] (by simp)
  rw [hi] at e3;cases e3
  refine⟨by omega,?_⟩
  rw [Nat.add_sub_cancel_left,show nb.getD i .un=nb[i] by simp [fP,hlt]]
  exact e2
 have hnewm:∀k,fr<=k->k < fr+nb.length->∃y,(k,y)∈upn:=fun k h1 h2=>by
  obtain⟨y',_,e3⟩:=hus (k - fr) (nb[k - fr]'(by omega)) (by simp)
  rw [Nat.add_sub_cancel' h1] at e3
  exact⟨_,List.mem_of_getElem? e3⟩
 -- what each block has come to
 have cls:∀k,((s.app none { val:=.u,ups:=upm++upn }).bk k=s.bk k/\¬(fr<=k/\k < fr+nb.length)/\∀i,ks[i]? = some k->mb.getD i .un=.un) \/
  ∃j,rC ks nb.length fr (fW ks.length mb nb j)=some ((s.app none { val:=.u,ups:=upm++upn }).bk k) /\
   ((fr<=k/\k < fr+nb.length/\j=ks.length+(k - fr))\/(¬(fr<=k/\k < fr+nb.length)/\ks[j]? = some k/\j < ks.length)):=fun k=>by
  simp only [FS.app]
  rcases aAd (upm++upn) s.bk k with⟨h1,h2⟩ | h1
  ·refine .inl ⟨h1,fun hn=>?_,fun i hi=>?_⟩
   ·obtain⟨y,hy⟩:=hnewm k hn.1 hn.2
    exact h2 _ (List.mem_append_right _ hy) rfl
   ·refine Classical.byContradiction fun hne=>?_
    obtain⟨y,hy⟩:=hm2 i k hi hne
    exact h2 _ (List.mem_append_left _ hy) rfl
  ·rcases List.mem_append.1 h1 with h1 | h1
   ·obtain⟨i,e1,e2,e3⟩:=hm1 _ _ h1
    have hlt:=(List.getElem?_eq_some_iff.1 e1).1
    refine .inr ⟨i,by rw [fW,if_pos hlt];exact e3,.inr ⟨fun hn=>hks k (List.mem_of_getElem? e1) (hfr k hn.1 hn.2),e1,hlt⟩⟩
   ·obtain⟨e1,e2⟩:=hnewk _ _ h1
    refine .inr ⟨ks.length+(k - fr),?_,.inl ⟨e1.1,e1.2,rfl⟩⟩
    rw [fW,if_neg (by omega),Nat.add_sub_cancel_left];exact e2
 have hne:∀k,s.bk k≠.un->¬(fr<=k/\k < fr+nb.length):=fun k hk h'=>hk (hfr k h'.1 h'.2)
 have hρ:∀k,s.bk k≠.un->(if fr<=k/\k < fr+nb.length then ρ' (ks.length+(k - fr)) else ρ k)=ρ k:=fun k hk=>if_neg (hne k hk)
 have hr1:∀i k,ks[i]? = some k->(if fr<=k/\k < fr+nb.length then ρ' (ks.length+(k - fr)) else ρ k)=ρ' i:=fun i k hi=>by
  rw [hρ k (hks k (List.mem_of_getElem? hi))];exact(hold i k hi).symm
 have hr2:∀j,j < nb.length->(if fr<=fr+j/\fr+j < fr+nb.length then ρ' (ks.length+(fr+j - fr)) else ρ (fr+j))=ρ' (ks.length+j):=fun j hj=>by
  rw [if_pos (by omega),Nat.add_sub_cancel_left]
 have hkeep:∀k,s.bk k≠.un->(s.app none { val:=.u,ups:=upm++upn }).bk k≠.un:=fun k hk=>by
  rcases cls k with⟨e,_,_⟩ | ⟨j,e,_⟩
  ·rw [e];exact hk
  ·exact(lO e (hplp j)).1
 have hmem:∀k,k∈ks\/(fr<=k/\k < fr+nb.length)->(s.app none { val:=.u,ups:=upm++upn }).bk k≠.un:=fun k hk=>by
  rcases cls k with⟨e,hn,_⟩ | ⟨j,e,_⟩
  ·rw [e];exact hks k (hk.resolve_right hn)
  ·exact(lO e (hplp j)).1
 have hpl2:∀k,((s.app none { val:=.u,ups:=upm++upn }).bk k).pl:=fun k=>by
  rcases cls k with⟨e,_,_⟩ | ⟨j,e,_⟩
  ·rw [e];exact h.pl k
  ·exact(lO e (hplp j)).2.2.2
 -- blocks that may be written
 have ownM:∀b,own' b->w0.mine b:=fun b hb=>by
  obtain⟨i,k,n,_,_,e3,e4⟩:=hown b hb
  have:=h.bk k
  cases hx:s.bk k with
  | un=>rw [hx] at e3;exact e3.elim
  | dead=>rw [hx] at e3;exact e3.elim
  | live own sy cs =>
   rw [hx] at this e3
   cases own with
   | false=>exact e3.elim
   | true =>
    rcases this with⟨q,_⟩ | ⟨b₁,vs,rest,ty,q1,q2,_,_⟩
    ·rw [e4] at q;cases q
    ·rw [e4] at q1;cases q1;exact q2
  | map es =>
   rw [hx] at this
   obtain⟨b₁,n₁,arr,q1,q2,_,_⟩:=this
   rw [e4] at q1;cases q1;exact q2
 have oldown:∀k b n,(s.bk k).own->ρ k=some (b,0,n)->(∀i,ks[i]? = some k->mb.getD i .un=.un)->b < W.heap.size/\¬own' b:=fun k b n hk e1 hno=>by
  constructor
  ·have:=h.bk k
   cases hx:s.bk k with
   | un=>rw [hx] at hk;exact hk.elim
   | dead=>rw [hx] at hk;exact hk.elim
   | live own sy cs =>
    rw [hx] at this hk
    cases own with
    | false=>exact hk.elim
    | true =>
     rcases this with⟨q,_⟩ | ⟨b₁,vs,rest,ty,q1,_,_,q4⟩
     ·rw [e1] at q;cases q
     ·rw [e1] at q1;cases q1;exact iG q4
   | map es =>
    rw [hx] at this
    obtain⟨b₁,n₁,arr,q1,_,_,q4⟩:=this
    rw [e1] at q1;cases q1;exact iG q4
  ·intro hb'
   obtain⟨i,k',n',g1,g2,g3,g4⟩:=hown b hb'
   by_cases hkk:k=k'
   ·subst hkk;exact g2 (hno i g1)
   ·exact h.apart k k' b n b n' hkk hk g3 e1 g4 rfl
 have hle':ρ.le ⟨fun k=>if fr<=k/\k < fr+nb.length then ρ' (ks.length+(k - fr)) else ρ k,ρ'.fz⟩:=hle
 have hle0:ρ'.le ⟨fun k=>if fr<=k/\k < fr+nb.length then ρ' (ks.length+(k - fr)) else ρ k,ρ'.fz⟩:=fun _ _ h=>h
 refine⟨{ defs:=h.defs,size:=h.size,sl:=fun t=>Rel.congr hle' _ _ (fun k hk=>hρ k (h.wf1 t k hk)) (h.sl t),bk:=fun k=>?_,apart:=fun i j b n b' n' hij hi hj e1 e2=>?_,wf1:=fun t k hk=>hkeep k (h.wf1 t k hk),wf2:=fun i k hk=>?_,kept:=?_,pl:=hpl2,old:=fun i hi=>⟨(hρ i (h.old i hi).2).trans (h.old i hi).1,hkeep i (h.old i hi).2⟩,fzn:=fun b o ho=>⟨(hfz b o ho).1,fun k n hk e1=>?_,?_⟩,fzo:=fun b o ho=>hle b o (h.fzo b o ho) },hmem⟩
 ·rcases cls k with⟨e,hn,hno⟩ | ⟨j,e,hj⟩
  ·rw [e]
   by_cases hun:s.bk k=.un
   ·rw [hun];trivial
   ·refine BRep.congr hle' (hρ k hun) (fun j hj=>hρ j (h.wf2 k j hj)) ?_
    have hb0:=h.bk k
    cases hx:s.bk k with
    | un=>trivial
    | dead=>trivial
    | live own sy cs =>
     rw [hx] at hb0
     cases own with
     | true =>
      rcases hb0 with hb0 | ⟨b,vs,rest,ty,q1,q2,q3,q4⟩
      ·exact .inl hb0
      ·obtain⟨g1,g2⟩:=oldown k b _ (by rw [hx];trivial) q1 hno
       exact .inr ⟨b,vs,rest,ty,q1,q2,q3,by rw [hb.block b g1 g2];exact q4⟩
     | false =>
      rcases hb0 with hb0 | ⟨b,o,n,vs,q1,q2,q3,q4⟩
      ·exact .inl hb0
      ·refine .inr ⟨b,o,n,vs,q1,q2,q3,fun i x hx'=>?_⟩
       have hne:vs≠[]:=by rintro rfl;simp at hx'
       have hc:=q4 i x hx'
       have hlt:=aDa hc
       simp only [World.cell?] at hc ⊢
       by_cases ho:own' b
       ·obtain⟨ob,hob⟩:=q2.2 hne (ownM b ho)
        rw [(hfz b ob (hle b ob hob)).1]
        rw [(h.fzn b ob hob).1] at hc;exact hc
       ·rw [hb.block b hlt ho];exact hc
    | map es =>
     rw [hx] at hb0
     obtain⟨b,n,arr,q1,q2,q3,q4⟩:=hb0
     obtain⟨g1,g2⟩:=oldown k b _ (by rw [hx];trivial) q1 hno
     exact⟨b,n,arr,q1,q2,q3,by rw [hb.block b g1 g2];exact q4⟩
  ·have hb0:=hnew j
   have hkj:(if fr<=k/\k < fr+nb.length then ρ' (ks.length+(k - fr)) else ρ k)=ρ' j:=by
    rcases hj with⟨g1,g2,g3⟩ | ⟨g1,g2,g3⟩
    ·rw [if_pos ⟨g1,g2⟩,g3]
    ·rw [if_neg g1];exact(hold j k g2).symm
   exact aMa hle0 hr1 hr2 hkj (fun b hb'=>hb'.elim (fun h'=>.inl (Nat.le_trans h.size_le h')) (ownM b)) e (hplp j) hb0
 ·have new:∀k j b n,rC ks nb.length fr (fW ks.length mb nb j)=some ((s.app none { val:=.u,ups:=upm++upn }).bk k)->((s.app none { val:=.u,ups:=upm++upn }).bk k).own->ρ' j=some (b,0,n)->W.heap.size<=b\/own' b:=fun k j b n e ho hr=>by
   have ho':=(lO e (hplp j)).2.1 ho
   have hb0:=hnew j
   cases hx:fW ks.length mb nb j with
   | un=>rw [hx] at ho';exact ho'.elim
   | dead=>rw [hx] at ho';exact ho'.elim
   | live own sy cs =>
    rw [hx] at hb0 ho'
    cases own with
    | false=>exact ho'.elim
    | true =>
     rcases hb0 with⟨q,_⟩ | ⟨b₁,vs,rest,ty,q1,q2,_,_⟩
     ·rw [hr] at q;cases q
     ·rw [hr] at q1;cases q1;exact q2
   | map es =>
    rw [hx] at hb0
    obtain⟨b₁,n₁,arr,q1,q2,_,_⟩:=hb0
    rw [hr] at q1;cases q1;exact q2
  have rhoj:∀k j,((fr<=k/\k < fr+nb.length/\j=ks.length+(k - fr))\/(¬(fr<=k/\k < fr+nb.length)/\ks[j]? = some k/\j < ks.length))->(if fr<=k/\k < fr+nb.length then ρ' (ks.length+(k - fr)) else ρ k)=ρ' j:=fun k j hj=>by
   rcases hj with⟨g1,g2,g3⟩ | ⟨g1,g2,g3⟩
   ·rw [if_pos ⟨g1,g2⟩,g3]
   ·rw [if_neg g1];exact(hold j k g2).symm
  simp only [Env.mk_loc] at e1 e2
  rcases cls i with⟨ei,ni,noi⟩ | ⟨ji,ei,hji⟩
  ·rw [ei] at hi
   rw [if_neg ni] at e1
   rcases cls j with⟨ej,nj,noj⟩ | ⟨jj,ej,hjj⟩
   ·rw [ej] at hj
    rw [if_neg nj] at e2
    exact h.apart i j b n b' n' hij hi hj e1 e2
   ·rw [rhoj j jj hjj] at e2
    obtain⟨g1,g2⟩:=oldown i b n hi e1 noi
    rcases new j jj b' n' ej hj e2 with g | g
    ·omega
    ·intro eb;rw [eb] at g2;exact g2 g
  ·rw [rhoj i ji hji] at e1
   rcases cls j with⟨ej,nj,noj⟩ | ⟨jj,ej,hjj⟩
   ·rw [ej] at hj
    rw [if_neg nj] at e2
    obtain⟨g1,g2⟩:=oldown j b' n' hj e2 noj
    rcases new i ji b n ei hi e1 with g | g
    ·omega
    ·intro eb;rw [←eb] at g2;exact g2 g
   ·rw [rhoj j jj hjj] at e2
    refine hap ji jj b n b' n' (fun e=>hij ?_) ((lO ei (hplp ji)).2.1 hi) ((lO ej (hplp jj)).2.1 hj) e1 e2
    subst e
    rcases hji with⟨g1,g2,g3⟩ | ⟨g1,g2,g3⟩<;>rcases hjj with⟨f1,f2,f3⟩ | ⟨f1,f2,f3⟩
    ·omega
    ·omega
    ·omega
    ·rw [g2] at f2;cases f2;rfl
 ·rcases cls i with⟨e,hn,hno⟩ | ⟨j,e,hj⟩
  ·rw [e] at hk
   exact hkeep k (h.wf2 i k hk)
  ·exact hmem k ((lO e (hplp j)).2.2.1 k hk)
 ·exact⟨hb.os.trans h.kept.os,hb.tape.trans h.kept.tape,hb.output.trans h.kept.output,Nat.le_trans h.kept.size hb.size,fun k hk ho=>(hb.block k (Nat.lt_of_lt_of_le hk h.kept.size) (fun h'=>by
   rcases ownM k h' with g | g
   ·omega
   ·exact ho g)).trans (h.kept.block k hk ho),Nat.le_trans h.kept.drawn hb.drawn⟩
 ·have e1':(if fr<=k/\k < fr+nb.length then ρ' (ks.length+(k - fr)) else ρ k)=some (b,0,n):=e1
  rcases cls k with⟨e,hn,hno⟩ | ⟨j,e,hj⟩
  ·rw [e] at hk
   rw [if_neg hn] at e1'
   obtain⟨g1,g2⟩:=oldown k b n hk e1' hno
   rcases (hfz b o ho).2.2 with g | g | g
   ·exact(h.fzn b o g).2.1 k n hk e1'
   ·omega
   ·exact g2 g
  ·refine(hfz b o ho).2.1 j n ((lO e (hplp j)).2.1 hk) ?_
   rcases hj with⟨g1,g2,g3⟩ | ⟨g1,g2,g3⟩
   ·rw [if_pos ⟨g1,g2⟩] at e1';rw [g3];exact e1'
   ·rw [if_neg g1] at e1';rw [hold j k g2];exact e1'
 ·rcases (hfz b o ho).2.2 with g | g | g
  ·exact(h.fzn b o g).2.2
  ·exact .inr (.inl (Nat.le_trans h.size_le g))
  ·exact .inr (ownM b g)
theorem aNe {ks:List Nat} {k i:Nat} {m:Bool} {x y:BK} {M M':Nat->Prop} (hk:ks[i]? = some k)(hx:nK ks m x=some y)(hp:x.pl)(h:BRep ρ M W k x)
 (hM:x.own->m=true->∀b n,ρ k=some (b,0,n)->M' b) (hM':m=false->∀b,b < W.heap.size->(M b->(∃n,ρ k=some (b,0,n)/\x.own)\/∃o,ρ.fz b=some o)->¬M' b):BRep (jA ρ ks) M' W i y/\y.pl:=by
 have he:jA ρ ks i=ρ k:=dK hk
 have key:∀(own sym:Bool) (cells l:List SV),x=.live own sym cells->¬(m=true/\own=false)->(∀vs,Rels ρ cells vs->Rels (jA ρ ks) l vs)->(cells=[]->l=[])->BRep (jA ρ ks) M' W i (.live m sym l):=fun own sym cells l hxe hmo hrl hnil=>by
  subst hxe
  cases own with
  | true =>
   rcases h with⟨h1,h2⟩ | ⟨b,vs,rest,ty,h1,h2,h3,h4⟩
   ·cases m<;>exact .inl ⟨he.trans h1,hnil h2⟩
   ·cases m with
    | true=>exact .inr ⟨b,vs,rest,ty,he.trans h1,hM trivial rfl b _ h1,hrl vs h3,h4⟩
    | false =>
     refine .inr ⟨b,0,_,vs,he.trans h1,⟨by simp,fun _ hmb=>(hM' rfl b (iG h4) (fun _=>.inl ⟨_,h1,trivial⟩) hmb).elim⟩,hrl vs h3,fun j x hj=>?_⟩
     have hi:j < vs.length:=(List.getElem?_eq_some_iff.1 hj).1
     simp [World.cell?,h4,List.getElem?_append_left hi,hj]
  | false =>
   have hmf:m=false:=by cases m<;>simp at hmo ⊢
   subst hmf
   rcases h with⟨h1,h2⟩ | ⟨b,o,n,vs,h1,h2,h3,h4⟩
   ·exact .inl ⟨he.trans h1,hnil h2⟩
   ·refine .inr ⟨b,o,n,vs,he.trans h1,⟨h2.1,fun hne hmb=>?_⟩,hrl vs h3,h4⟩
    obtain⟨x,hx⟩:∃x,vs[0]? = some x:=by cases vs with
     | nil=>exact(hne rfl).elim
     | cons x _=>exact⟨x,rfl⟩
    exact(hM' rfl b (aDa (h4 0 x hx)) (fun hm=>.inr (h2.2 hne hm)) hmb).elim
 cases x with
 | un=>simp [nK] at hx
 | dead=>simp [nK] at hx
 | map es =>
  cases m with
  | false=>simp [nK] at hx
  | true =>
   simp only [nK,bG] at hx
   subst hx
   obtain⟨b,n,arr,h1,h2,h3,h4⟩:=h
   exact⟨⟨b,n,arr,he.trans h1,hM trivial rfl b _ h1,MEs.congr (oT _ _) _ _ _ (fun k hk=>(hp k hk).elim) h3,h4⟩,hp⟩
 | live own sym cells =>
  cases sym with
  | true =>
   simp only [nK] at hx
   split at hx
   ·cases hx
   rename_i hmo
   simp only [bG] at hx
   subst hx
   exact⟨key own true cells cells rfl hmo (fun vs hv=>Plain.congr (oT _ _) hp hv) id,hp⟩
  | false =>
   simp only [nK] at hx
   split at hx
   ·cases hx
   rename_i hmo
   split at hx
   ·rename_i l hl
    simp only [bG] at hx
    subst hx
    exact⟨key own false cells l rfl hmo (fun vs hv=>renL_rel cells l vs hl hv) (fun e=>by subst e;simp only [renL,bG] at hl;exact hl.symm),trivial⟩
   ·cases hx
theorem aQh {ks:List Nat} {m:Bool} {x y:BK} (hx:nK ks m x=some y)(hp:x.pl):y.pl:=by
 cases x with
 | un=>simp [nK] at hx
 | dead=>simp [nK] at hx
 | map es =>
  cases m with
  | false=>simp [nK] at hx
  | true =>
   simp only [nK,bG] at hx
   subst hx;exact hp
 | live own sym cells =>
  cases sym<;>simp only [nK] at hx<;>split at hx<;>try (cases hx;done)
  ·split at hx
   ·simp only [bG] at hx;subst hx;trivial
   ·cases hx
  ·simp only [bG] at hx;subst hx;exact hp
theorem aAe {ks:List Nat} {m:Bool} {x y:BK} (hx:nK ks m x=some y):(y.own↔m=true)/\(m=true->x.own):=by
 cases x with
 | un=>simp [nK] at hx
 | dead=>simp [nK] at hx
 | map es =>
  cases m with
  | false=>simp [nK] at hx
  | true =>
   simp only [nK,bG] at hx
   subst hx;simp [BK.own]
 | live own sym cells =>
  cases sym<;>simp only [nK] at hx<;>split at hx<;>try (cases hx;done)
  all_goals rename_i hmo
  ·split at hx
   ·simp only [bG] at hx
    subst hx
    cases m<;>cases own<;>simp_all [BK.own]
   ·cases hx
  ·simp only [bG] at hx
   subst hx
   cases m<;>cases own<;>simp_all [BK.own]
theorem aF9 {fv:SV} {g:Nat} {fst caps:List SV} (h:callee fv=some (g,fst,caps)) {v:Value} (hr:Rel ρ fv v):∃us vs:List Value,v=.func (.func g) us.toArray vs.toArray/\Rels ρ fst us/\Rels ρ caps vs:=by
 unfold callee at h
 split at h
 ·rename_i g' first caps'
  split at h
  ·rename_i h1 h2
   simp only [bG,eV] at h
   obtain⟨rfl,rfl,rfl⟩:=h
   simp only [Rel] at hr
   have e1:first=#[]:=by apply Array.ext';simp [h1]
   have e2:caps'=#[]:=by apply Array.ext';simp [h2]
   exact⟨[],[],by rw [hr,e1,e2],by simp [Rels],by simp [Rels]⟩
  ·cases h
 ·rename_i g' caps'
  simp only [Rel] at hr
  obtain⟨vs,hv,hr⟩:=hr
  split at h
  ·rename_i hlt
   simp only [bG,eV] at h
   obtain⟨rfl,rfl,rfl⟩:=h
   exact⟨[],vs,by rw [hv,aM3 hlt],by simp [Rels],hr⟩
  ·rename_i hge
   simp only [bG,eV] at h
   obtain⟨rfl,rfl,rfl⟩:=h
   exact⟨vs,[],by rw [hv];unfold fnV;rw [if_neg hge],hr,by simp [Rels]⟩
 ·cases h
theorem aQi {r:Option Nat} {n:Nat} {o:Oper} {f:Operand} {args:Array Operand} {ts:Array TypeId} (hop:o.op=.call { callee:=.value f,args:=args,argTypes:=ts })
 {fr:Nat} {orc orc':List Or} {e:Eff} {obs:List Ob} {ks:List Nat} (h:sC (o.op.operands.toList.map (ev s.sl)) s.bk fr orc=some (e,obs,orc',ks)) (hob:Obs P obs)
 (hrep:Rep w0 N D ρ s a W) (hfr:∀u∈e.ups,fr<=u.1->s.bk u.1=.un) (hd:∀d,o.dst=some d->d < N) {Q:Exit->Act->World->Prop} {K:Act->World->Prop}
 (hK:∀ρ' a' W',Rep w0 N D ρ' (s.app o.dst e) a' W'->K a' W'):o.wpIn (Fw r) n P a W K Q:=by
 have hops:o.op.operands.toList=f::args.toList:=by rw [hop];simp [Op.operands,Call.operands]
 rw [hops,List.map_cons] at h
 unfold sC at h
 split at h
 ·rename_i fv as0 ks' res nb mb orc2 hcons
  simp only [List.cons.injEq] at hcons
  obtain⟨hfv,has⟩:=hcons
  split at h
  ·rename_i g fst caps hg
   split at h
   ·rename_i args' bs res' upm upn h1 h2 h3 h4m h4
    split at h
    case isFalse=>cases h
    rename_i hnd
    simp only [bG,eV] at h
    obtain⟨rfl,rfl,rfl,rfl⟩:=h
    simp only [Obs,Ob.Holds,and_true] at hob
    have hfr':=bY hrep f
    rw [hfv] at hfr'
    obtain⟨us,vs,hfval,hfst,hcaps⟩:=aF9 hg hfr'
    have hargs:=lC hrep args.toList
    rw [has] at hargs
    have hall:Rels ρ (fst++as0++caps) (us++args.toList.map a.eval++vs):=Rels.append (Rels.append hfst hargs) hcaps
    have hren:=renL_rel (ks:=ks') _ _ _ h1 hall
    obtain⟨hbl,hbs⟩:=aAc ks' mb bs h2
    have hks:∀k∈ks',s.bk k≠.un:=fun k hk hun=>by
     obtain⟨i,hi⟩:=List.getElem?_of_mem hk
     obtain⟨y,_,hy⟩:=hbs i k hi
     rw [hun] at hy;simp [nK] at hy
    -- which of the blocks handed over may be written
    have hownb:∀i,(bs.getD i .un).own->∃k,ks'[i]? = some k/\mb.getD i .un≠.un/\(s.bk k).own:=fun i hi=>by
     cases hk:ks'[i]? with
     | none =>
      have:bs[i]? = none:=by rw [List.getElem?_eq_none_iff] at hk ⊢;omega
      rw [fP,this] at hi;exact hi.elim
     | some k =>
      obtain⟨y,hy1,hy2⟩:=hbs i k hk
      rw [show bs.getD i .un=y by simp [hy1]] at hi
      have hm:=(aAe hy2).1.1 hi
      exact⟨k,rfl,fun e=>by rw [e] at hm;simp [aIb] at hm,(aAe hy2).2 hm⟩
    have hownOf:∀b,sQ (jA ρ ks') bs b->∃i k n,ks'[i]? = some k/\mb.getD i .un≠.un/\(s.bk k).own/\ρ k=some (b,0,n):=fun b ⟨i,n,hi,hr⟩=>by
     obtain⟨k,e1,e2,e3⟩:=hownb i hi
     refine⟨i,k,n,e1,e2,e3,?_⟩
     rw [dK e1] at hr;exact hr
    have hMown:∀k b n,(s.bk k).own->ρ k=some (b,0,n)->w0.mine b/\b < W.heap.size:=fun k b n hk hr=>by
     have:=hrep.bk k
     cases hx:s.bk k with
     | un=>rw [hx] at hk;exact hk.elim
     | dead=>rw [hx] at hk;exact hk.elim
     | live own sy cs =>
      rw [hx] at this hk
      cases own with
      | false=>exact hk.elim
      | true =>
       rcases this with⟨q,_⟩ | ⟨b₁,vs,rest,ty,q1,q2,_,q4⟩
       ·rw [hr] at q;cases q
       ·rw [hr] at q1;cases q1;exact⟨q2,iG q4⟩
     | map es =>
      rw [hx] at this
      obtain⟨b₁,n₁,arr,q1,q2,_,q4⟩:=this
      rw [hr] at q1;cases q1;exact⟨q2,iG q4⟩
    obtain⟨hE,hob⟩:=hob
    have hcall:=hob (jA ρ ks') W (us++args.toList.map a.eval++vs) hren (fun i=>by
     cases hi:ks'[i]? with
     | none =>
      have:bs[i]? = none:=by rw [List.getElem?_eq_none_iff] at hi ⊢;omega
      simp [this,BRep]
     | some k =>
      obtain⟨y,hy1,hy2⟩:=hbs i k hi
      rw [show bs.getD i .un=y by simp [hy1]]
      refine(aNe hi hy2 (hrep.pl k) (hrep.bk k) (fun ho hm b n hr=>.inr ⟨i,n,by rw [show bs.getD i .un=y by simp [hy1]];exact(aAe hy2).1.2 hm,by rw [dK hi];exact hr⟩) (fun hm b hlt hMb hM'=>?_)).1
      ·rcases hM' with hM' | hM'
       ·simp only [dM] at hM';omega
       ·obtain⟨i',k',n',g1,g2,g3,g4⟩:=hownOf b hM'
        rcases hMb (hMown k' b n' g3 g4).1 with⟨n2,q1,q2⟩ | ⟨ob,hob⟩
        rotate_left
        ·exact(hrep.fzn b ob hob).2.1 k' n' g3 g4
        by_cases hkk:k=k'
        ·subst hkk
         have:=lN hnd i i' k hi g1
         subst this
         simp only [Bool.not_eq_false'] at hm
         exact g2 (aF8.1 hm)
        ·exact hrep.apart k k' b n2 b n' hkk q2 g3 q1 g4 rfl) (fun i=>by
     cases hi:ks'[i]? with
     | none =>
      have:bs[i]? = none:=by rw [List.getElem?_eq_none_iff] at hi ⊢;omega
      simp [this,BK.pl]
     | some k =>
      obtain⟨y,hy1,hy2⟩:=hbs i k hi
      rw [show bs.getD i .un=y by simp [hy1]]
      exact aQh hy2 (hrep.pl k)) (fun i j b n b' n' hij hi hj e1 e2=>by
     obtain⟨k1,q1,_,q3⟩:=hownb i hi
     obtain⟨k2,p1,_,p3⟩:=hownb j hj
     rw [dK q1] at e1;rw [dK p1] at e2
     refine hrep.apart k1 k2 b n b' n' (fun e=>hij ?_) q3 p3 e1 e2
     subst e
     exact lN hnd i j k1 q1 p1) (fun b o ho=>⟨(hrep.fzn b o ho).1,fun i n hi e1=>by
     obtain⟨k1,q1,_,q3⟩:=hownb i hi
     rw [dK q1] at e1
     exact(hrep.fzn b o ho).2.1 k1 n q3 e1⟩)
    have hnd':∀c,o.op≠.defer c:=fun c hc=>by rw [hop] at hc;cases hc
    have hrun:(execOp a.eval o).run P W=.ok (.enter g (us++args.toList.map a.eval++vs).toArray) W:=by
     have e1:us.toArray++(args.map a.eval)++vs.toArray=(us++args.toList.map a.eval++vs).toArray:=by apply Array.ext';simp
     simp only [execOp,hop,resolve,hfval,Deferred.ofValue,Sem.run_bind,Sem.run_pure,Result.andThen_ok,invoke]
     rw [hE,e1]
    refine⟨fun _ _=>trivial,?_⟩
    rw [Oper.semAt_eq _ _ _ hnd',hrun]
    simp only [Oper.uponIn]
    refine⟨fun h=>by simp [Fw] at h,aH8.2 (hcall.mono fun e w' hR=>?_)⟩
    obtain⟨ρ',v,rfl,hold,hres,hkept,hnew,hplp,hap,hle,hfz⟩:=hR
    simp only [dM] at hold hkept hnew hplp hap hle hfz
    rw [hbl] at hnew hplp hap hfz
    have hold':∀i k,ks'[i]? = some k->ρ' i=ρ k:=fun i k hi=>by
     have hlt:i < bs.length:=by rw [hbl];exact(List.getElem?_eq_some_iff.1 hi).1
     rw [hold i hlt,dK hi]
    obtain⟨hul,hus⟩:=rD nb fr upn h4
    have hfr:∀k,fr<=k->k < fr+nb.length->s.bk k=.un:=fun k h1 h2=>by
     obtain⟨y',_,e3⟩:=hus (k - fr) (nb[k - fr]'(by omega)) (by simp)
     rw [Nat.add_sub_cancel' h1] at e3
     exact hfr _ (List.mem_append_right _ (List.mem_of_getElem? e3)) h1
    obtain⟨hrep2,hmem⟩:=hrep.called hkept hnd hfr hks h4m h4 hownOf hold' hle hfz hnew hplp hap
    refine hK ⟨fun k=>if fr<=k/\k < fr+nb.length then ρ' (ks'.length+(k - fr)) else ρ k,ρ'.fz⟩ _ _ ?_
    rw [fR]
    refine hrep2.put o.dst hd ?_ (fun k hk=>hmem k (aF7 res res' h3 hk))
    have hL:ρ'.le ⟨fun k=>if fr<=k/\k < fr+nb.length then ρ' (ks'.length+(k - fr)) else ρ k,ρ'.fz⟩:=fun _ _ h=>h
    refine aF6 hL (fun i k hi=>?_) (fun j hj=>?_) res res' v h3 hres
    ·have hk':s.bk k≠.un:=hks k (List.mem_of_getElem? hi)
     simp only [Env.mk_loc]
     rw [if_neg (fun h'=>hk' (hfr k h'.1 h'.2))];exact(hold' i k hi).symm
    ·simp only [Env.mk_loc]
     rw [if_pos (by omega),Nat.add_sub_cancel_left]
   ·cases h
  ·cases h
 ·cases h
end
end Go.Aw
namespace Go.Aw
open Go.RowKit
def aAf (l:List Operand):List Nat:=l.filterMap fun | .tmp t=>some t | _=>none
def aCn (ops:Array Oper)(o:Oper):List Nat :=
 match o.guard with
 | none=>[]
 | some (j,_)=>(hZ ops j).toList
def aCo (ops:Array Oper)(sl:Nat->SV)(o:Oper):Option Bool :=
 match o.guard with
 | none=>some true
 | some (j,w)=>match hZ ops j with
  | none=>none
  | some g=>match sl g with
   | .b d=>some (d == w)
   | .v (.tuple vs)=>match vs.toList with
    | []=>some false
    | _=>none
   | _=>none
def aGa (T:Nat->Option TI)(o:Oper)(s:LS)(orc:List Or):Option (Eff×List Ob×List Or×List Nat) :=
 match o.op with
 | .call { callee:=.value _,args:=_,argTypes:=_ }=>sC (o.op.operands.toList.map (ev s.fs.sl)) s.fs.bk s.bk.length orc
 | .defer _=>none
 | op=>match aJ0 T op (op.operands.toList.map (ev s.fs.sl)) ((iZ op (op.operands.toList.map (ev s.fs.sl))).map s.fs.bk) s.bk.length orc with
  | some (e,obs,orc)=>some (e,obs,orc,iZ op (op.operands.toList.map (ev s.fs.sl)))
  | none=>none
def aUh (isG:Bool)(op:Op):List Or->Option (Nat×BK×List Or)
 | .alt k b::orc=>match isG,op with
  | false,.lookup _ _ _ _=>some (k,b,orc)
  | _,_=>none
 | _=>none
def aTa (T:Nat->Option TI)(ops:Array Oper)(isG:Bool)(o:Oper)(s:LS)(orc:List Or):Option (Ev×List Ob×List Or) :=
 match aCo ops s.fs.sl o with
 | none=>none
 | some false=>some ({ eff:={ val:=.v undef },rs:=aCn ops o,rb:=[] },[],orc)
 | some true =>
  match aUh isG o.op orc with
  | some (k,b,orc) =>
   match aGa T o s orc,aGa T o ⟨s.sl,s.bk.set k b⟩ orc with
   | some (e,obs,orc,rb),some (e',obs',_,rb') =>
    if k < s.bk.length/\rb'=rb then some ({ eff:=e,rs:=aCn ops o++aAf o.op.operands.toList,rb:=rb++e.ups.map (·.1),alt:=[(k,b)] },obs++(obs'++[.pr (e'=e)]),orc) else none
   | _,_=>none
  | none =>
  match aGa T o s orc with
  | none=>none
  | some (e,obs,orc,rb) =>
   match isG,e.val with
   | true,.v (.bool c) =>
    match orc with
    | .d d::orc=>some ({ eff:={ val:=.b d,ups:=e.ups },rs:=aCn ops o++aAf o.op.operands.toList,rb:=rb++e.ups.map (·.1) },obs++[.eq c d],orc)
    | _=>none
   | _,_=>some ({ eff:=e,rs:=aCn ops o++aAf o.op.operands.toList,rb:=rb++e.ups.map (·.1) },obs,orc)
def aQj (ops:Array Oper)(i:Nat):Bool:=ops.toList.any fun o=>match o.guard with
 | some (j,_)=>j == i
 | none=>false
def mU (T:Nat->Option TI)(ops:Array Oper):List Oper->Nat->LS->List Or->Option (List Ev×LS×List Ob×List Or)
 | [],_,s,orc=>some ([],s,[],orc)
 | o::l,i,s,orc =>
  match aTa T ops (aQj ops i) o s orc with
  | none=>none
  | some (v,obs,orc) =>
   match s.app o.dst v.eff with
   | none=>none
   | some s' =>
    match mU T ops l (i+1) s' orc with
    | none=>none
    | some (vs,s'',obs',orc)=>some (v::vs,s'',obs++obs',orc)
def jZ (o:Oper):List Nat:=(o.after.toList.filter fun e=>Region.binds .any e).map (·.on)
def tL:List Oper->List Nat->List Nat
 | [],acc=>acc
 | o::l,acc=>tL l (acc++[(jZ o).foldl (fun m e=>m ||| (2 ^ e ||| acc.getD e 0)) 0])
def wrC (dst:Option Nat)(v:Ev):List Nat:=(dst.map (2*·)).toList++v.eff.ups.map (fun u=>2*u.1+1)
def rdC (v:Ev):List Nat:=v.rs.map (2*·)++(v.rb.filter fun k=>!(v.alt.map (·.1)).contains k).map (2*·+1)
def aDl (v:Ev):List Nat:=v.alt.map (2*·.1+1)
def aNf (l m:List Nat):Bool:=l.all fun x=>!m.contains x
def aAg (ops:Array Oper)(evs:List Ev):Bool :=
 let cl:=tL ops.toList []
 let ws:=(ops.toList.zip evs).map fun(o,v)=>wrC o.dst v
 let rs:=evs.map rdC
 let qs:=evs.map aDl
 (List.range evs.length).all fun i =>
  ((ops.toList[i]?).map fun o=>(jZ o).all fun e=>decide (e < i)).getD true &&
  (List.range i).all fun j=>(cl.getD i 0).testBit j ||
   (aNf (ws.getD j []) (ws.getD i [])&&aNf (ws.getD j []) (rs.getD i [])&&aNf (ws.getD i []) (rs.getD j [])&&aNf (ws.getD j []) (qs.getD i []))
def tM (ops:Array Oper)(evs:List Ev):List Ob :=
 (List.range evs.length).flatMap fun j=>(((evs[j]?).map (·.alt)).getD []).flatMap fun q=>(List.range evs.length).flatMap fun i =>
  (((evs[i]?).map (·.eff.ups)).getD []).flatMap fun u=>if(decide (j < i)&&u.1 == q.1&&!(((tL ops.toList []).getD i 0).testBit j))=true then [.pr (u.2=q.2)] else []
section
variable {P : Program} {T : Nat → Option TI} {w0 : Cx} {N : Nat} {D : List Deferred} {ρ : Env} {a : Act} {W : World} {r : Option Nat} {n : Nat} {ops : Array Oper}
theorem uT {s:FS} (hrep:Rep w0 N D ρ s a W) {o:Oper} {b:Bool} (h:aCo ops s.sl o=some b):Region.wanted o (yielded ops a.tmps)=b:=by
 unfold aCo at h
 unfold Region.wanted
 split at h
 ·rename_i hg;rw [hg];simpa using h
 ·rename_i j w hg
  rw [hg]
  simp only
  split at h
  ·cases h
  ·rename_i g hd
   have hr:=hrep.sl g
   have hy:yielded ops a.tmps j=match a.tmps[g]? with
    | some (.bool b)=>some b
    | _=>none:=by
    unfold yielded
    have:(ops[j]?).bind (·.dst)=some g:=hd
    rw [this];rfl
   split at h
   ·rename_i d hs
    rw [hs] at hr
    simp only [Rel] at hr
    have:a.tmps[g]? = some (.bool d):=by
     rw [Array.getD_eq_getD_getElem?] at hr
     cases hx:a.tmps[g]? with
     | none=>rw [hx] at hr;simp [undef] at hr
     | some x=>rw [hx] at hr;simp at hr;rw [hr]
    rw [hy,this]
    simpa using h
   ·rename_i vs hs
    rw [hs] at hr
    simp only [Rel] at hr
    split at h
    ·simp only [bG] at h
     subst h
     have:yielded ops a.tmps j=none:=by
      rw [hy]
      rw [Array.getD_eq_getD_getElem?] at hr
      cases hx:a.tmps[g]? with
      | none=>rfl
      | some x=>rw [hx] at hr;simp at hr;rw [hr]
     rw [this];simp
    ·cases h
   ·cases h
theorem aNg {s s':Nat->SV} (x:Operand)(h:∀t,x=.tmp t->s' t=s t):ev s' x=ev s x:=by
 cases x with
 | tmp t=>exact h t rfl
 | const v=>cases v<;>rfl
 | global g=>rfl
 | func f=>rfl
theorem aMb {s s':Nat->SV} {l:List Operand} (h:∀t∈aAf l,s' t=s t):l.map (ev s')=l.map (ev s):=by
 refine List.map_congr_left fun x hx=>aNg x fun t ht=>h t ?_
 subst ht
 exact List.mem_filterMap.2 ⟨.tmp t,hx,rfl⟩
theorem yB {ks:List Nat} {bk bk':Nat->BK}:∀(l:List Nat) (mb:List BK),(∀k∈l,bk' k=bk k)->xZ ks bk' l mb=xZ ks bk l mb
 | [],_,_=>rfl
 | k::l,mb,h=>by simp only [xZ,h k (by simp),yB l mb.tail (fun j hj=>h j (by simp [hj]))]
theorem aCc {xs:List SV} {bk bk':Nat->BK} {fr:Nat} {orc:List Or} {e:Eff} {obs:List Ob} {orc':List Or} {ks:List Nat} (h:sC xs bk fr orc=some (e,obs,orc',ks))(hk:∀k∈ks,bk' k=bk k) :
 sC xs bk' fr orc=some (e,obs,orc',ks):=by
 unfold sC at h ⊢
 split at h
 ·split at h
  ·rename_i g fst caps hg
   split at h
   ·rename_i args' bs res' upm upn h1 h2 h3 h4 h5
    split at h
    ·rename_i hnd
     simp only [bG,eV] at h
     obtain⟨rfl,rfl,rfl,rfl⟩:=h
     rw [yB _ _ hk]
     simp only [hg,h1,h2,h3,h4,h5,hnd,if_true]
    ·cases h
   ·cases h
  ·cases h
 ·cases h
theorem rE {l:List BK} {k:Nat} (h:l.length<=k):l.getD k .un=.un:=by
 simp [fP,List.getElem?_eq_none h]
theorem aDm {o:Oper} {s:FS} {e:Eff} (hd:Does P w0 N D s a W o e)(hnd:∀c,o.op≠.defer c) {Q:Exit->Act->World->Prop} {K:Act->World->Prop}
 (hK:∀ρ' a' W',Rep w0 N D ρ' (s.app o.dst e) a' W'->K a' W'):o.wpIn (Fw r) n P a W K Q:=by
 obtain⟨nx,v,W',ρ',hrun,hnx,hrep⟩:=hd
 refine⟨fun _ _=>trivial,?_⟩
 rw [Oper.semAt_eq _ _ _ hnd,hrun]
 rcases hnx with rfl | ⟨rfl,rfl⟩
 ·exact hK ρ' _ _ hrep
 ·exact hK ρ' _ _ hrep
theorem uU (hT:nI P T) {o:Oper} {s:LS} {orc orc':List Or} {e:Eff} {obs:List Ob} {rb:List Nat} (h:aGa T o s orc=some (e,obs,orc',rb))(hob:Obs P obs)
 {s':FS} (hs:∀t∈aAf o.op.operands.toList,s'.sl t=s.fs.sl t) (hb:∀k∈rb++e.ups.map (·.1),s'.bk k=s.fs.bk k)
 (hrep:Rep w0 N D ρ s' a W) (hd:∀d,o.dst=some d->d < N) {Q:Exit->Act->World->Prop} {K:Act->World->Prop}
 (hK:∀ρ' a' W',Rep w0 N D ρ' (s'.app o.dst e) a' W'->K a' W'):o.wpIn (Fw r) n P a W K Q:=by
 have hxs:=aMb hs
 have hun:∀u∈e.ups,u.1=s.bk.length->s'.bk s.bk.length=.un:=fun u hu hx=>by
  rw [←hx,hb u.1 (List.mem_append_right _ (List.mem_map_of_mem hu)),hx];exact rE (Nat.le_refl _)
 unfold aGa at h
 split at h
 ·rename_i f args ts hop
  have hc:=aCc (bk':=s'.bk) h (fun k hk=>hb k (by simp [hk]))
  rw [←hxs] at hc
  refine aQi hop hc hob hrep (fun u hu hle=>?_) hd hK
  rw [hb u.1 (List.mem_append_right _ (List.mem_map_of_mem hu))]
  exact rE hle
 ·cases h
 ·rename_i hn1 hn2
  split at h
  ·rename_i e' obs' orc'' hs'
   simp only [bG,eV] at h
   obtain⟨rfl,rfl,rfl,rfl⟩:=h
   rw [←hxs] at hs'
   have hs'':aJ0 T o.op (o.op.operands.toList.map (ev s'.sl)) ((iZ o.op (o.op.operands.toList.map (ev s'.sl))).map s'.bk) s.bk.length orc=some (e',obs',orc''):=by
    rw [show(iZ o.op (o.op.operands.toList.map (ev s'.sl))).map s'.bk=(iZ o.op (o.op.operands.toList.map (ev s'.sl))).map s.fs.bk from
     List.map_congr_left fun k hk=>hb k (by rw [hxs] at hk;simp [hk])]
    exact hs'
   exact aDm (aNd hT hs'' hob hrep rfl rfl hun hd) (fun c hc=>hn2 c hc) hK
  ·cases h
theorem Rep.decide {s:FS} {dst:Option Nat} {c d:Bool} {ups:List (Nat×BK)} (h:Rep w0 N D ρ (s.app dst { val:=.v (.bool c),ups:=ups }) a W) (hcd:c=d):Rep w0 N D ρ (s.app dst { val:=.b d,ups:=ups }) a W:=by
 subst hcd
 cases dst with
 | none=>exact h
 | some t =>
  refine { h with sl:=fun u=>?_,wf1:=fun u k hk=>?_ }
  ·have:=h.sl u
   simp only [FS.app] at this ⊢
   split
   ·rename_i hu;rw [if_pos hu] at this;simpa [Rel] using this
   ·rename_i hu;rw [if_neg hu] at this;exact this
  ·have:=h.wf1 u k
   simp only [FS.app] at this hk ⊢
   split at hk
   ·simp [SV.has] at hk
   ·rename_i hu;rw [if_neg hu] at this;exact this hk
theorem aDn (hT:nI P T) {isG:Bool} {o:Oper} {s:LS} {orc orc':List Or} {v:Ev} {obs:List Ob} (h:aTa T ops isG o s orc=some (v,obs,orc'))(hob:Obs P obs)
 {i:Nat} (hi:ops[i]? = some o) (hd:∀d,o.dst=some d->d < N):pM P r n w0 N D ops i s.fs v:=by
 intro s' hs hb ρ a W Q K hrep hK
 unfold wpOpIn
 rw [hi]
 have hdst:hZ ops i=o.dst:=by simp [hZ,hi]
 rw [hdst] at hK
 simp only
 unfold aTa at h
 have hwant:∀b,aCo ops s.fs.sl o=some b->(∀t∈aCn ops o,s'.sl t=s.fs.sl t)->aCo ops s'.sl o=some b:=fun b hb hg=>by
  unfold aCo at hb ⊢
  split at hb
  ·exact hb
  ·rename_i j w hgd
   split at hb
   ·cases hb
   ·rename_i g hdj
    rw [hg g (by simp [aCn,hgd,hdj])]
    exact hb
 split at h
 ·cases h
 ·rename_i hw
  simp only [bG,eV] at h
  obtain⟨rfl,_,_⟩:=h
  have:=uT hrep (hwant _ hw (fun t ht=>hs t ht))
  simp only [this,Bool.false_eq_true,if_false]
  refine⟨fun _ _=>trivial,hK ρ _ _ ?_⟩
  exact hrep.put o.dst hd (by simp [Rel]) (fun k hk=>(eX hk).elim)
 ·rename_i hw
  split at h
  ·rename_i k b orc1 ha
   split at h
   ·rename_i e obs1 orc2 rb e' obs2 orc3 rb' he1 he2
    split at h
    ·rename_i hc
     obtain⟨hk,hrb⟩:=hc
     simp only [bG,eV] at h
     obtain⟨rfl,rfl,_⟩:=h
     obtain⟨ho1,ho2⟩:=Obs.append hob
     obtain⟨ho2',ho3⟩:=Obs.append ho2
     simp only [Obs,Ob.Holds,and_true] at ho3
     subst ho3 hrb
     have:=uT hrep (hwant _ hw (fun t ht=>hs t (by simp [ht])))
     simp only [this,if_true]
     by_cases hag:s'.bk k=s.fs.bk k
     ·refine uU hT he1 ho1 (fun t ht=>hs t (by simp [ht])) (fun j hj=>?_) hrep hd hK
      rcases hb j hj with h5 | h5
      ·exact h5
      ·simp only [List.mem_singleton,eV] at h5
       obtain⟨rfl,_⟩:=h5
       exact hag
     ·refine uU (s:=⟨s.sl,s.bk.set k b⟩) hT he2 ho2' (fun t ht=>hs t (by simp [ht])) (fun j hj=>?_) hrep hd hK
      by_cases hjk:j=k
      ·subst hjk
       rcases hb j hj with h5 | h5
       ·exact absurd h5 hag
       ·simp only [List.mem_singleton,eV,true_and] at h5
        rw [h5]
        show b=(s.bk.set j b).getD j .un
        simp [fP,hk]
      ·rcases hb j hj with h5 | h5
       ·rw [h5]
        show s.bk.getD j .un=(s.bk.set k b).getD j .un
        simp [fP,List.getElem?_set,Ne.symm hjk]
       ·simp only [List.mem_singleton,eV] at h5
        exact absurd h5.1 hjk
    ·cases h
   ·cases h
  rename_i hal0
  clear hal0
  split at h
  ·cases h
  ·rename_i e obs' orc2 rb he
   split at h
   ·rename_i c hval
    split at h
    ·rename_i d orc3
     simp only [bG,eV] at h
     obtain⟨rfl,rfl,_⟩:=h
     obtain⟨ho1,ho2⟩:=Obs.append hob
     simp only [Obs,Ob.Holds,and_true] at ho2
     have:=uT hrep (hwant _ hw (fun t ht=>hs t (by simp [ht])))
     simp only [this,if_true]
     refine uU hT he ho1 (fun t ht=>hs t (by simp [ht])) (fun j hj=>(hb j hj).resolve_right (fun h=>by cases h)) hrep hd (fun ρ' a' W' h'=>hK ρ' a' W' ?_)
     obtain⟨ev,eu⟩:=e
     simp only at hval
     subst hval
     exact h'.decide ho2
    ·cases h
   ·simp only [bG,eV] at h
    obtain⟨rfl,rfl,_⟩:=h
    have:=uT hrep (hwant _ hw (fun t ht=>hs t (by simp [ht])))
    simp only [this,if_true]
    exact uU hT he hob (fun t ht=>hs t (by simp [ht])) (fun j hj=>(hb j hj).resolve_right (fun h=>by cases h)) hrep hd hK
end
end Go.Aw
namespace Go.Aw
open Go.RowKit
section
variable {P : Program} {T : Nat → Option TI} {w0 : Cx} {N : Nat} {D : List Deferred} {ρ : Env} {a : Act} {W : World} {r : Option Nat} {n : Nat} {ops : Array Oper}
theorem aGb (hT:nI P T) {all:List Ev} {s0:FS}:∀(l:List Oper) (i:Nat) (s:LS) (orc:List Or) (evs:List Ev) (s':LS) (obs:List Ob) (orc':List Or),mU T ops l i s orc=some (evs,s',obs,orc')->Obs P obs ->
 (∀j,l[j]? = ops[i+j]?)->(∀j,evs[j]? = all[i+j]?)->s.fs=SD (cK ops all) (fun _=>true) s0 i ->
 evs.length=l.length/\s'.fs=SD (cK ops all) (fun _=>true) s0 (i+l.length)/\s'.sl.length=s.sl.length /\
  ∀j v,evs[j]? = some v->pM P r n w0 s.sl.length D ops (i+j) (SD (cK ops all) (fun _=>true) s0 (i+j)) v
 | [],i,s,orc,evs,s',obs,orc',h,_,_,_,hs=>by
  simp only [mU,bG,eV] at h
  obtain⟨rfl,rfl,_,_⟩:=h
  exact⟨rfl,hs,rfl,fun j v hv=>by simp at hv⟩
 | o::l,i,s,orc,evs,s',obs,orc',h,hob,hl,he,hs=>by
  simp only [mU] at h
  split at h
  ·cases h
  ·rename_i v obs1 orc1 hv
   split at h
   ·cases h
   ·rename_i s1 happ
    split at h
    ·cases h
    ·rename_i vs s2 obs2 orc2 hrest
     simp only [bG,eV] at h
     obtain⟨rfl,rfl,rfl,rfl⟩:=h
     obtain⟨ho1,ho2⟩:=Obs.append hob
     have hi:ops[i]? = some o:=by have:=hl 0;simpa using this.symm
     have hall:all[i]? = some v:=by have:=he 0;simpa using this.symm
     obtain⟨hfs,hd,hlen⟩:=aIa happ
     have hs1:s1.fs=SD (cK ops all) (fun _=>true) s0 (i+1):=by
      simp only [SD,if_true,cK,hall,←hs]
      rw [hfs];simp [hZ,hi]
     obtain⟨h1,h2,h3,h4⟩:=aGb hT l (i+1) s1 orc1 vs s2 obs2 orc2 hrest ho2 (fun j=>by have:=hl (j+1);simpa [Nat.add_assoc,Nat.add_comm 1 j] using this)
      (fun j=>by have:=he (j+1);simpa [Nat.add_assoc,Nat.add_comm 1 j] using this) hs1
     refine⟨by simp [h1],by rw [h2];congr 1;simp;omega,h3.trans hlen,fun j w hw=>?_⟩
     cases j with
     | zero =>
      simp at hw;subst hw
      have:=aDn (r:=r) (n:=n) (w0:=w0) (D:=D) hT hv ho1 hi hd
      rw [Nat.add_zero,←hs];exact this
     | succ j =>
      have:=h4 j w (by simpa using hw)
      rw [hlen] at this
      rw [show i+(j+1)=i+1+j by omega];exact this
theorem aGc:∀(l:List Oper) (acc:List Nat),(∀j,j < acc.length->(tL l acc)[j]? = acc[j]?)/\(tL l acc).length=acc.length+l.length
 | [],acc=>⟨fun _ _=>rfl,by simp [tL]⟩
 | o::l,acc=>by
  simp only [tL]
  obtain⟨h1,h2⟩:=aGc l (acc++[(jZ o).foldl (fun m e=>m ||| (2 ^ e ||| acc.getD e 0)) 0])
  refine⟨fun j hj=>?_,by rw [h2];simp;omega⟩
  rw [h1 j (by simp;omega),List.getElem?_append_left hj]
theorem aAh (acc:List Nat):∀(es:List Nat) (m k:Nat),(es.foldl (fun m e=>m ||| (2 ^ e ||| acc.getD e 0)) m).testBit k=true->m.testBit k=true\/∃e∈es,k=e\/(acc.getD e 0).testBit k=true
 | [],m,k,h=>.inl h
 | e::es,m,k,h=>by
  simp only [List.foldl_cons] at h
  rcases aAh acc es _ k h with h | ⟨e',he',h⟩
  ·simp only [Nat.testBit_or,Bool.or_eq_true,Nat.testBit_two_pow,decide_eq_true_eq] at h
   rcases h with h | h | h
   ·exact .inl h
   ·exact .inr ⟨e,by simp,.inl h.symm⟩
   ·exact .inr ⟨e,by simp,.inr h⟩
  ·exact .inr ⟨e',by simp [he'],h⟩
theorem aKa:∀(l:List Oper) (acc:List Nat) (i:Nat) (o:Oper),l[i]? = some o->∃acc':List Nat,(∀j,j < acc'.length->(tL l acc)[j]? = acc'[j]?)/\acc'.length=acc.length+i /\
 (tL l acc)[acc.length+i]? = some ((jZ o).foldl (fun m e=>m ||| (2 ^ e ||| acc'.getD e 0)) 0)
 | [],acc,i,o,h=>by simp at h
 | o'::l,acc,i,o,h=>by
  simp only [tL]
  cases i with
  | zero =>
   simp at h;subst h
   have:=aGc l (acc++[(jZ o').foldl (fun m e=>m ||| (2 ^ e ||| acc.getD e 0)) 0])
   refine⟨acc,fun j hj=>?_,by simp,?_⟩
   ·rw [this.1 j (by simp;omega),List.getElem?_append_left hj]
   ·rw [this.1 _ (by simp)];simp
  | succ i =>
   simp at h
   obtain⟨acc',h1,h2,h3⟩:=aKa l (acc++[(jZ o').foldl (fun m e=>m ||| (2 ^ e ||| acc.getD e 0)) 0]) i o h
   refine⟨acc',h1,by rw [h2];simp;omega,?_⟩
   rw [←h3];congr 1;simp;omega
theorem pN {o:Oper} {e:Nat}:e∈jZ o↔∃x∈o.after,Region.binds .any x=true/\x.on=e:=by
 simp [jZ,List.mem_map,List.mem_filter,and_assoc]
def aQk (ops:Array Oper)(i j:Nat):Prop:=j < i/\((tL ops.toList []).getD i 0).testBit j=true
theorem tO {D:Nat->Bool} (hcl:∀j o,ops[j]? = some o->D j=true->∀e∈o.after,Region.binds .any e=true->D e.on=true)(hlow:∀i o,ops[i]? = some o->∀e∈o.after,Region.binds .any e=true->e.on < i) :
 ∀(i:Nat) (o:Oper),ops[i]? = some o->(∀e∈o.after,Region.binds .any e=true->D e.on=true)->∀k,((tL ops.toList []).getD i 0).testBit k=true->D k=true:=by
 intro i
 induction i using Nat.strongRecOn with
 | ind i ih =>
  intro o ho hd k hk
  obtain⟨acc',h1,h2,h3⟩:=aKa ops.toList [] i o (by simpa using ho)
  simp only [List.length_nil,Nat.zero_add] at h2 h3
  rw [fP,h3] at hk
  simp only [Option.getD_some] at hk
  rcases aAh _ _ _ _ hk with h | ⟨e,he,h⟩
  ·simp at h
  ·obtain⟨x,hx,hb,rfl⟩:=pN.1 he
   have hlt:=hlow i o ho x hx hb
   have hDx:=hd x hx hb
   rcases h with rfl | h
   ·exact hDx
   ·have hsz:x.on < ops.size:=by have:=(Array.getElem?_eq_some_iff.1 ho).1;omega
    have hox:ops[x.on]? = some ops[x.on]:=by simp [hsz]
    refine ih x.on hlt _ hox (hcl _ _ hox hDx) k ?_
    rw [fP,h1 x.on (by omega),←fP];exact h
theorem sD {l m:List Nat} (h:aNf l m=true):∀x∈l,x ∉ m:=by
 intro x hx
 have:=List.all_eq_true.1 h x hx
 simpa using this
def gL:Nat⊕Nat->Nat
 | .inl t=>2*t
 | .inr k=>2*k+1
theorem Obs.mem:∀{l:List Ob},Obs P l->∀o∈l,o.Holds P
 | _::_,h,o,ho=>by
  rcases List.mem_cons.1 ho with rfl | ho
  ·exact h.1
  ·exact Obs.mem h.2 o ho
theorem aGd {k:Nat} {b:BK}:∀(us:List (Nat×BK)) (f:Nat->BK),(∃u∈us,u.1=k)->(∀u∈us,u.1=k->u.2=b)->cW f us k=b
 | [],_,h,_=>by obtain⟨u,hu,_⟩:=h;cases hu
 | (j,y)::us,f,h,ha=>by
  simp only [cW]
  by_cases hin:∃u∈us,u.1=k
  ·exact aGd us _ hin (fun u hu=>ha u (List.mem_cons_of_mem _ hu))
  ·rw [mT us _ k (fun u hu e=>hin ⟨u,hu,e⟩)]
   obtain⟨u,hu,e⟩:=h
   rcases List.mem_cons.1 hu with rfl | hu
   ·simp only at e
    have:=ha (j,y) List.mem_cons_self e
    simp [e,←this]
   ·exact(hin ⟨u,hu,e⟩).elim
theorem aNh {evs:List Ev} (hob:Obs P (tM ops evs)) {i j:Nat} (hji:j < i)(hd:¬aQk ops i j) {vi vj:Ev} (hi:evs[i]? = some vi)(hj:evs[j]? = some vj) {x:Nat⊕Nat} (hw:gL x∈wrC (hZ ops i) vi)(ha:gL x∈aDl vj)(s:FS) :
 ∃v k b,evs[j]? = some v/\x=.inr k/\(k,b)∈v.alt/\(cK ops evs i s).at' x=.inr b:=by
 obtain⟨q,hq,he⟩:=List.mem_map.1 ha
 cases x with
 | inl t=>simp only [gL] at he;omega
 | inr k =>
  simp only [gL] at he
  have hqk:q.1=k:=by omega
  refine⟨vj,k,q.2,hj,rfl,by rw [←hqk];exact hq,?_⟩
  have hmem:∃u∈vi.eff.ups,u.1=k:=by
   simp only [wrC,gL,List.mem_append,List.mem_map,Option.mem_toList] at hw
   rcases hw with hw | ⟨u,hu,e⟩
   ·cases hdd:hZ ops i with
    | none=>rw [hdd] at hw;simp at hw
    | some d=>rw [hdd] at hw;simp at hw;omega
   ·exact⟨u,hu,by omega⟩
  have hall:∀u∈vi.eff.ups,u.1=k->u.2=q.2:=fun u hu e=>by
   have hil:=(List.getElem?_eq_some_iff.1 hi).1
   have hjl:=(List.getElem?_eq_some_iff.1 hj).1
   have hm:(Ob.pr (u.2=q.2))∈tM ops evs:=by
    unfold tM
    refine List.mem_flatMap.2 ⟨j,by simp [hjl],List.mem_flatMap.2 ⟨q,by rw [hj];exact hq,List.mem_flatMap.2 ⟨i,by simp [hil],List.mem_flatMap.2 ⟨u,by rw [hi];exact hu,?_⟩⟩⟩⟩
    have hb:(((tL ops.toList []).getD i 0).testBit j)=false:=by
     cases hb:(((tL ops.toList []).getD i 0).testBit j) with
     | false=>rfl
     | true=>exact absurd ⟨hji,hb⟩ hd
    rw [hb,if_pos (by simp [hji,e,hqk])]
    simp
   exact Obs.mem hob _ hm
  simp only [FS.at',cK,hi,FS.app]
  rw [aGd vi.eff.ups s.bk hmem hall]
theorem uV {evs:List Ev} (hlen:evs.length=ops.size)(h:aAg ops evs=true)(hob:Obs P (tM ops evs)) :
 Conf ops.size (cK ops evs) (fun i x=>∃v,evs[i]? = some v/\gL x∈wrC (hZ ops i) v) (fun i x=>∃v,evs[i]? = some v/\gL x∈rdC v) (fun i x=>∃v,evs[i]? = some v/\gL x∈aDl v)
  (fun i x y=>∃v k b,evs[i]? = some v/\x=.inr k/\(k,b)∈v.alt/\y=.inr b) (aQk ops) /\
 (∀i o,ops[i]? = some o->∀e∈o.after,Region.binds .any e=true->e.on < i):=by
 unfold aAg at h
 simp only [List.all_eq_true,List.mem_range,Bool.and_eq_true] at h
 have hw:∀i v,evs[i]? = some v->(((ops.toList.zip evs).map fun(x:Oper×Ev)=>wrC x.1.dst x.2).getD i [])=wrC (hZ ops i) v:=fun i v hv=>by
  have hi:i < ops.size:=by rw [←hlen];exact(List.getElem?_eq_some_iff.1 hv).1
  have ho:ops.toList[i]? = some ops[i]:=by simp [hi]
  have hz:(ops.toList.zip evs)[i]? = some (ops[i],v):=List.getElem?_zip_eq_some.2 ⟨ho,hv⟩
  simp only [fP,List.getElem?_map,hz,Option.map_some,Option.getD_some]
  simp [hZ,hi]
 have hr:∀i v,evs[i]? = some v->((evs.map rdC).getD i [])=rdC v:=fun i v hv=>by
  simp [fP,hv]
 have hq:∀i v,evs[i]? = some v->((evs.map aDl).getD i [])=aDl v:=fun i v hv=>by
  simp [fP,hv]
 have pair:∀i j vi vj,j < i->evs[i]? = some vi->evs[j]? = some vj->aQk ops i j\/((∀x,gL x∈wrC (hZ ops j) vj->gL x ∉ wrC (hZ ops i) vi/\gL x ∉ rdC vi/\gL x ∉ aDl vi)/\(∀x,gL x∈wrC (hZ ops i) vi->gL x ∉ rdC vj/\(gL x∈aDl vj->∀s,∃v k b,evs[j]? = some v/\x=.inr k/\(k,b)∈v.alt/\(cK ops evs i s).at' x=.inr b))):=fun i j vi vj hji hi hj=>by
  have hil:=(List.getElem?_eq_some_iff.1 hi).1
  have:=(h i hil).2 j hji
  simp only [Bool.or_eq_true,Bool.and_eq_true] at this
  by_cases hdp:aQk ops i j
  ·exact .inl hdp
  rcases this with h' | ⟨⟨⟨h1,h2⟩,h3⟩,h4⟩
  ·exact .inl ⟨hji,h'⟩
  ·rw [show(fun x:Oper×Ev=>match x with | (o,v)=>wrC o.dst v)=fun x:Oper×Ev=>wrC x.1.dst x.2 from rfl] at h1 h2 h3 h4
   rw [hw i vi hi] at h1 h3
   rw [hw j vj hj] at h1 h2 h4
   rw [hq i vi hi] at h4
   rw [hr i vi hi] at h2
   rw [hr j vj hj] at h3
   exact .inr ⟨fun x hx=>⟨sD h1 _ hx,sD h2 _ hx,sD h4 _ hx⟩,fun x hx=>⟨sD h3 _ hx,fun ha s=>aNh hob hji hdp hi hj hx ha s⟩⟩
 refine⟨{ out:=fun i s x hx=>?_,same:=fun i s s' x hx=>?_,low:=fun i j hd=>hd.1,free:=fun i j hi hj hij=>?_ },fun i o ho e he hb=>?_⟩
 ·unfold cK
  cases hv:evs[i]? with
  | none=>rfl
  | some v =>
   have hnot:gL x ∉ wrC (hZ ops i) v:=fun h=>hx ⟨v,hv,h⟩
   simp only [wrC,List.mem_append,not_or] at hnot
   cases x with
   | inl t =>
    simp only [FS.at',FS.app]
    cases hd:hZ ops i with
    | none=>rfl
    | some d =>
     have:t≠d:=fun e=>hnot.1 (by rw [hd];simp [gL,e])
     simp [this]
   | inr k =>
    simp only [FS.at',FS.app]
    rw [mT]
    intro u hu e
    exact hnot.2 (List.mem_map.2 ⟨u,hu,by simp [gL,e]⟩)
 ·obtain⟨v,hv,hx⟩:=hx
  simp only [cK,hv]
  simp only [wrC,List.mem_append] at hx
  cases x with
  | inl t =>
   simp only [FS.at',FS.app]
   rcases hx with hx | hx
   ·cases hd:hZ ops i with
    | none=>rw [hd] at hx;simp at hx
    | some d =>
     rw [hd] at hx
     simp [gL] at hx
     have:t=d:=by omega
     simp [this]
   ·simp [gL] at hx;omega
  | inr k =>
   simp only [FS.at',FS.app]
   rcases hx with hx | hx
   ·cases hd:hZ ops i with
    | none=>rw [hd] at hx;simp at hx
    | some d=>rw [hd] at hx;simp [gL] at hx;omega
   ·congr 1
    have hmem:∃u∈v.eff.ups,u.1=k:=by
     obtain⟨u,hu,e⟩:=List.mem_map.1 hx
     exact⟨u,hu,by simp [gL] at e;omega⟩
    clear hx hv
    generalize v.eff.ups=us at hmem
    generalize s.bk=f
    generalize s'.bk=g
    induction us generalizing f g with
    | nil=>obtain⟨u,hu,_⟩:=hmem;cases hu
    | cons u us ih =>
     obtain⟨j,y⟩:=u
     simp only [cW]
     by_cases hin:∃u∈us,u.1=k
     ·exact ih hin _ _
     ·rw [mT us _ k (fun u hu e=>hin ⟨u,hu,e⟩),mT us _ k (fun u hu e=>hin ⟨u,hu,e⟩)]
      obtain⟨u,hu,e⟩:=hmem
      rcases List.mem_cons.1 hu with rfl | hu
      ·simp only at e;simp [e]
      ·exact(hin ⟨u,hu,e⟩).elim
 ·have hvi:evs[i]? = some evs[i]:=by simp
  have hvj:evs[j]? = some evs[j]:=by simp
  rcases Nat.lt_or_ge j i with hlt | hge
  ·rcases pair i j _ _ hlt hvi hvj with h' | ⟨h1,h2⟩
   ·exact .inl h'
   ·refine .inr (.inr ⟨fun x hx=>?_,fun x hx=>?_⟩)
    ·obtain⟨v,hv,hx⟩:=hx
     rw [hvi] at hv;cases hv
     refine⟨fun⟨v,hv,hx'⟩=>?_,fun⟨v,hv,hx'⟩=>?_⟩
     ·rw [hvj] at hv;cases hv;exact(h1 x hx').1 hx
     ·rw [hvj] at hv;cases hv;exact(h2 x hx).1 hx'
    ·obtain⟨v,hv,hx⟩:=hx
     rw [hvj] at hv;cases hv
     refine⟨fun⟨v,hv,hx'⟩=>?_,fun⟨v,hv,hx'⟩=>?_⟩
     ·rw [hvi] at hv;cases hv;exact(h1 x hx).2.1 hx'
     ·rw [hvi] at hv;cases hv;exact((h1 x hx).2.2 hx').elim
  ·have hlt:i < j:=by omega
   rcases pair j i _ _ hlt hvj hvi with h' | ⟨h1,h2⟩
   ·exact .inr (.inl h')
   ·refine .inr (.inr ⟨fun x hx=>?_,fun x hx=>?_⟩)
    ·obtain⟨v,hv,hx⟩:=hx
     rw [hvi] at hv;cases hv
     exact⟨fun⟨v,hv,hx'⟩=>by rw [hvj] at hv;cases hv;exact(h1 x hx).1 hx',fun⟨v,hv,hx'⟩=>by rw [hvj] at hv;cases hv;exact(h1 x hx).2.1 hx'⟩
    ·obtain⟨v,hv,hx⟩:=hx
     rw [hvj] at hv;cases hv
     refine⟨fun⟨v,hv,hx'⟩=>?_,fun⟨v,hv,hx'⟩=>?_⟩
     ·rw [hvi] at hv;cases hv;exact(h2 x hx).1 hx'
     ·rw [hvi] at hv;cases hv;exact⟨hlt,(h2 x hx).2 hx'⟩
 ·have hi:i < evs.length:=by rw [hlen];exact(Array.getElem?_eq_some_iff.1 ho).1
  have:=(h i hi).1
  have ho':ops.toList[i]? = some o:=by simpa using ho
  rw [ho'] at this
  simp only [Option.map_some,Option.getD_some,List.all_eq_true,decide_eq_true_eq] at this
  exact this e.on (pN.2 ⟨e,he,hb,rfl⟩)
theorem aDo (hT:nI P T)(hm:P.follows .mixedOrders=true) {s s':LS} {orc orc':List Or} {evs:List Ev} {obs:List Ob} {draw:Bool} {id:Nat}
 (h:mU T ops ops.toList 0 s orc=some (evs,s',obs,orc')) (hob:Obs P obs) (hrace:draw=true->aAg ops evs=true/\Obs P (tM ops evs)) (hrep:Rep w0 s.sl.length D ρ s.fs a W) {Q:Exit->Act->World->Prop}
 (hQ:∀ρ' a' W',Rep w0 s'.sl.length D ρ' s'.fs a' W'->Q .normal a' W'):(Code.region id ops draw).wpIn (Fw r) n P Q a W:=by
 obtain⟨h1,h2,h3,h4⟩:=aGb (ops:=ops) (r:=r) (n:=n) (w0:=w0) (D:=D) (all:=evs) (s0:=s.fs) hT ops.toList 0 s orc evs s' obs orc' h hob (fun j=>by simp) (fun j=>by simp) rfl
 have hlen:evs.length=ops.size:=by rw [h1];simp
 have hfin:s'.fs=SD (cK ops evs) (fun _=>true) s.fs ops.size:=by rw [h2];simp
 have hloc:∀i v,evs[i]? = some v->pM P r n w0 s.sl.length D ops i (SD (cK ops evs) (fun _=>true) s.fs i) v:=fun i v hv=>by
  have:=h4 i v hv;simpa using this
 have hQ':∀ρ' a' W',Rep w0 s.sl.length D ρ' (SD (cK ops evs) (fun _=>true) s.fs ops.size) a' W'->Q .normal a' W':=fun ρ' a' W' h'=>hQ ρ' a' W' (by rw [h3,hfin];exact h')
 cases draw with
 | false=>exact aF5 hlen hloc hrep hQ'
 | true =>
  obtain⟨c,hlow⟩:=uV hlen (hrace rfl).1 (hrace rfl).2
  refine aH9 hlen hm c (fun i v t hv ht=>⟨v,hv,?_⟩) (fun i v k hv hk=>?_) hlow (fun D i o ho hcl hd k hk=>?_) hloc hrep hQ'
  ·simp only [rdC,gL];exact List.mem_append_left _ (List.mem_map.2 ⟨t,ht,rfl⟩)
  ·by_cases hal:k∈v.alt.map (·.1)
   ·obtain⟨q,hq,rfl⟩:=List.mem_map.1 hal
    refine .inr ⟨⟨v,hv,by simp only [aDl,gL];exact List.mem_map.2 ⟨q,hq,rfl⟩⟩,fun y hy=>?_⟩
    obtain⟨v',k',b,hv',hk',hb,rfl⟩:=hy
    rw [hv] at hv';cases hv'
    cases hk'
    exact⟨b,rfl,hb⟩
   ·refine .inl ⟨v,hv,?_⟩
    simp only [rdC,gL]
    exact List.mem_append_right _ (List.mem_map.2 ⟨k,List.mem_filter.2 ⟨hk,by simpa using hal⟩,rfl⟩)
  ·exact tO hcl hlow i o ho hd k hk.2
end
end Go.Aw
namespace Go.Aw
open Go.RowKit
inductive K where
 | c (x:Code)
 | b (id:Nat)
 | l (body:Code) (m:Nat)
 | s (body : Code) (m : Nat)     -- the end of a scope; at most m jumps to a label of it
def aAi (F:Fence)(n:Nat)(P:Program)(c:Code)(Q:Exit->Act->World->Prop):Nat->Exit->Act->World->Prop
 | 0,e,a,w=>match e with
  | .goto _=>False
  | e=>Q e a w
 | m+1,e,a,w=>match e with
  | .goto l=>∃rest,findLabel c l=some rest/\rest.wpIn F n P (aAi F n P c Q m) a w
  | e=>Q e a w
theorem pO {F:Fence} {n:Nat} {P:Program} {c:Code} {Q:Exit->Act->World->Prop} {m:Nat} {e:Exit} {a:Act} {w:World} (h:∀l,e≠.goto l):aAi F n P c Q m e a w=Q e a w:=by
 cases m<;>cases e<;>first | rfl | exact absurd rfl (h _)
theorem aGe {P:Program} {b:Frame} {a:Act} {k:List Item} {cs:List Frame} {w:World} {c:Code}:step P (lone (b.atR a (.code (.scope c)::k)) cs w)=.next (lone (b.atR a (.code c::.inScope c::k)) cs w) :=
 step_lone_go (by simp [stepG,stepG.exec,Frame.atR])
theorem sR {P:Program} {b:Frame} {a:Act} {k:List Item} {cs:List Frame} {w:World} {c:Code}:step P (lone (b.atR a (.inScope c::k)) cs w)=.next (lone (b.atR a k) cs w) :=
 step_lone_go (by simp [stepG,stepG.exec,Frame.atR])
theorem aIc {F:Fence} {n:Nat} {P:Program} {c:Code} {Q:Exit->Act->World->Prop} {a:Act} {w:World} (m:Nat)(h:c.wpIn F n P (aAi F n P c Q m) a w):(Code.scope c).wpIn F n P Q a w:=by
 intro b k cs hro hb hr
 have key:∀m (c':Code) a w,c'.wpIn F n P (aAi F n P c Q m) a w->∃e a' w',Q e a' w'/\ArrivesIn (Machine.fenced P F) P (lone (b.atR a (.code c'::.inScope c::k)) cs w) b k cs e a' w':=by
  intro m
  induction m with
  | zero =>
   intro c' a w h
   obtain⟨e,a₁,w₁,hq,harr⟩:=h b (.inScope c::k) cs hro hb hr
   cases e with
   | normal=>exact⟨.normal,a₁,w₁,hq,StepsIn.trans harr (.one (fenced_calm hb hr rfl) sR)⟩
   | exit id=>exact⟨.exit id,a₁,w₁,hq,fun k' hk=>harr.1 k' (by simp [exitTo,hk]),fun hr' hk=>harr.2 hr' (by simp [exitTo,hk])⟩
   | goto l=>exact hq.elim
   | ret=>exact⟨_,a₁,w₁,hq,harr⟩
   | panic ch=>exact⟨_,a₁,w₁,hq,harr⟩
   | outgrown=>exact⟨_,a₁,w₁,hq,harr⟩
  | succ m ih =>
   intro c' a w h
   obtain⟨e,a₁,w₁,hq,harr⟩:=h b (.inScope c::k) cs hro hb hr
   cases e with
   | normal=>exact⟨.normal,a₁,w₁,hq,StepsIn.trans harr (.one (fenced_calm hb hr rfl) sR)⟩
   | exit id=>exact⟨.exit id,a₁,w₁,hq,fun k' hk=>harr.1 k' (by simp [exitTo,hk]),fun hr' hk=>harr.2 hr' (by simp [exitTo,hk])⟩
   | goto l =>
    obtain⟨rest,hf,hq⟩:=hq
    have hg:gotoIn l (.inScope c::k)=some (.code rest::.inScope c::k):=by simp [gotoIn,hf]
    obtain⟨e₂,a₂,w₂,hq₂,harr₂⟩:=ih rest a₁ w₁ hq
    exact⟨e₂,a₂,w₂,hq₂,.of_steps (harr.1 _ hg) harr₂⟩
   | ret=>exact⟨_,a₁,w₁,hq,harr⟩
   | panic ch=>exact⟨_,a₁,w₁,hq,harr⟩
   | outgrown=>exact⟨_,a₁,w₁,hq,harr⟩
 obtain⟨e,a',w',hq,harr⟩:=key m c a w h
 exact⟨e,a',w',hq,.of_steps (.one (fenced_calm hb hr rfl) aGe) harr⟩
def iI (r:Option Nat)(n:Nat)(P:Program)(Q:Exit->Act->World->Prop):List K->Exit->Act->World->Prop
 | [],e=>Q e
 | .c x::k,e=>match e with
  | .normal=>x.wpIn (Fw r) n P (iI r n P Q k)
  | e=>iI r n P Q k e
 | .b id::k,e=>match e with
  | .exit id'=>if id == id' then iI r n P Q k .normal else iI r n P Q k (.exit id')
  | e=>iI r n P Q k e
 | .l body m::k,e=>match e with
  | .normal=>Code.roundsIn (Fw r) n P body (iI r n P Q k) m
  | e=>iI r n P Q k e
 | .s body m::k,e=>aAi (Fw r) n P body (iI r n P Q k) m e
def kA (id:Nat):List K->Option (List K)
 | []=>none
 | .b id'::k=>if id' == id then some k else kA id k
 | .c _::k=>kA id k
 | .l _ _::k=>kA id k
 | .s _ _::k=>kA id k
inductive Out where
 | ret (s:LS)
 | norm (s:LS)
 | enter (body:Code) (k:List K) (s:LS)
 | back (body:Code) (m:Nat) (k:List K) (s:LS)
 | at (x:Code) (k:List K) (s:LS)
def aUi (id:Nat):List Or->Option (List Or)
 | .stop j::orc=>if j=id then some orc else none
 | _=>none
def run (T:Nat->Option TI):Nat->List K->LS->List Or->Option (Out×List Ob×List Or)
 | 0,_,_,_=>none
 | f+1,k,s,orc =>
  match k with
  | []=>some (.norm s,[],orc)
  | .b _::k=>run T f k s orc
  | .s _ _::k=>run T f k s orc
  | .l body m::k=>match orc with
   | .un _::orc'=>match m with
    | m+1=>run T f (.c body::.l body m::k) s orc'
    | 0=>none
   | _=>some (.back body m k s,[],orc)
  | .c x::k =>
   match x with
   | .skip=>run T f k s orc
   | .label _=>run T f k s orc
   | .seq a b=>run T f (.c a::.c b::k) s orc
   | .block id c=>run T f (.c c::.b id::k) s orc
   | .exit id=>match kA id k with
    | some k'=>run T f k' s orc
    | none=>none
   | .ret=>some (.ret s,[],orc)
   | .loop body=>match orc with
    | .un m::orc'=>run T f (.c body::.l body m::k) s orc'
    | _=>some (.enter body k s,[],orc)
   | .cond c a b=>match ev s.fs.sl c with
    | .b d=>run T f (.c (match d with | true=>a | false=>b)::k) s orc
    | .v (.bool x)=>match orc with
     | .d d::orc=>match run T f (.c (match d with | true=>a | false=>b)::k) s orc with
      | some (o,obs,orc)=>some (o,.eq x d::obs,orc)
      | none=>none
     | _=>none
    | _=>none
   | .region id ops draw=>match aUi id orc with
    | some orc'=>some (.at (.region id ops draw) k s,[],orc')
    | none=>match mU T ops ops.toList 0 s orc with
     | some (evs,s',obs,orc)=>if(!draw || aAg ops evs)=true then
      match run T f k s' orc with
      | some (o,obs',orc)=>some (o,obs++((if draw=true then tM ops evs else [])++obs'),orc)
      | none=>none
      else none
     | none=>none
   | .scope x=>match orc with
    | .un m::orc'=>run T f (.c x::.s x m::k) s orc'
    | _=>none
   | .goto l=>some (.at (.goto l) k s,[],orc)
   | .rangeFunc g ps x y=>some (.at (.rangeFunc g ps x y) k s,[],orc)
   | _=>none
section
variable {P : Program} {T : Nat → Option TI} {cx : Cx} {D : List Deferred} {r : Option Nat} {n : Nat} {Q : Exit → Act → World → Prop}
def Good (P:Program)(r:Option Nat)(n:Nat)(Q:Exit->Act->World->Prop)(cx:Cx)(D:List Deferred)(k:List K)(s:LS):Prop :=
 ∀(ρ:Env) (a:Act) (W:World),Rep cx s.sl.length D ρ s.fs a W->iI r n P Q k .normal a W
def aAj (Q:Exit->Act->World->Prop)(e:Exit)(cx:Cx)(D:List Deferred)(s:LS):Prop:=∀(ρ:Env) (a:Act) (W:World),Rep cx s.sl.length D ρ s.fs a W->Q e a W
def aDp (P:Program)(r:Option Nat)(n:Nat)(Q:Exit->Act->World->Prop)(cx:Cx)(D:List Deferred):Out->Prop
 | .ret s=>aAj Q .ret cx D s
 | .norm s=>aAj Q .normal cx D s
 | .enter body k s=>∃m,Good P r n Q cx D (.l body m::k) s
 | .back body m k s=>Good P r n Q cx D (.l body m::k) s
 | .at x k s=>Good P r n Q cx D (.c x::k) s
theorem aId {k:List K} {e:Exit} (h:e≠.normal)(hx:∀id,e≠.exit id)(hg:∀l,e≠.goto l):iI r n P Q k e=Q e:=by
 induction k with
 | nil=>rfl
 | cons x k ih =>
  cases x with
  | s body m=>funext a w;simp only [iI];rw [pO hg,ih]
  | _=>cases e<;>simp_all [iI]
theorem oU {id:Nat} {a:Act} {W:World}:∀{k k':List K},kA id k=some k'->iI r n P Q k' .normal a W->iI r n P Q k (.exit id) a W
 | [],k',h,_=>by simp [kA] at h
 | .b id'::k,k',h,hg=>by
  simp only [kA] at h
  simp only [iI]
  split at h
  ·rename_i hid
   simp only [bG] at h;subst h
   rw [if_pos hid];exact hg
  ·rename_i hid
   rw [if_neg hid];exact oU h hg
 | .c _::k,k',h,hg=>by simp only [kA] at h;simp only [iI];exact oU h hg
 | .l _ _::k,k',h,hg=>by simp only [kA] at h;simp only [iI];exact oU h hg
 | .s _ _::k,k',h,hg=>by simp only [kA] at h;simp only [iI];rw [pO (by simp)];exact oU h hg
theorem aS {body:Code} {m:Nat} {k:List K} {s:LS} (h:Good P r n Q cx D (.c body::.l body m::k) s):Good P r n Q cx D (.l body (m+1)::k) s:=by
 intro ρ a W hrep
 have:=h ρ a W hrep
 simp only [iI] at this ⊢
 rw [roundsIn_succ]
 refine wpIn_mono this (fun e a w hq=>?_)
 cases e<;>simpa [iI,Exit.then] using hq
theorem iE (hT:nI P T)(hm:P.follows .mixedOrders=true):∀(f:Nat) (k:List K) (s:LS) (orc:List Or) (out:Out) (obs:List Ob) (orc':List Or),run T f k s orc=some (out,obs,orc')->Obs P obs ->
 aDp P r n Q cx D out->Good P r n Q cx D k s
 | 0,_,_,_,_,_,_,h,_,_=>by simp [run] at h
 | f+1,[],s,orc,out,obs,orc',h,_,hg=>by
  simp only [run,bG,eV] at h
  obtain⟨rfl,_,_⟩:=h
  exact hg
 | f+1,.b id::k,s,orc,out,obs,orc',h,ho,hg=>by
  simp only [run] at h
  have:=iE hT hm f k s orc out obs orc' h ho hg
  exact fun ρ a W hrep=>this ρ a W hrep
 | f+1,.s body m::k,s,orc,out,obs,orc',h,ho,hg=>by
  simp only [run] at h
  have:=iE hT hm f k s orc out obs orc' h ho hg
  exact fun ρ a W hrep=>by
   simp only [iI];rw [pO (by simp)];exact this ρ a W hrep
 | f+1,.l body m::k,s,orc,out,obs,orc',h,ho,hg=>by
  simp only [run] at h
  split at h
  ·split at h
   ·rename_i m
    exact aS (iE hT hm f _ s _ out obs orc' h ho hg)
   ·cases h
  ·simp only [bG,eV] at h
   obtain⟨rfl,_,_⟩:=h
   exact hg
 | f+1,.c x::k,s,orc,out,obs,orc',h,ho,hg=>by
  simp only [run] at h
  split at h
  ·-- skip
   have:=iE hT hm f k s orc out obs orc' h ho hg
   exact fun ρ a W hrep=>wpIn_skip (this ρ a W hrep)
  ·-- label
   have:=iE hT hm f k s orc out obs orc' h ho hg
   exact fun ρ a W hrep=>wpIn_label (this ρ a W hrep)
  ·-- seq
   rename_i x y
   have:=iE hT hm f (.c x::.c y::k) s orc out obs orc' h ho hg
   intro ρ a W hrep
   have:=this ρ a W hrep
   simp only [iI] at this ⊢
   refine wpIn_seq (wpIn_mono this fun e a w hq=>?_)
   cases e<;>simpa [iI,Exit.then] using hq
  ·-- block
   rename_i id c
   have:=iE hT hm f (.c c::.b id::k) s orc out obs orc' h ho hg
   intro ρ a W hrep
   have:=this ρ a W hrep
   simp only [iI] at this ⊢
   refine wpIn_block (wpIn_mono this fun e a w hq=>?_)
   cases e<;>simp only [iI,Exit.inBlock] at hq ⊢<;>try exact hq
   rename_i id'
   by_cases hid:id=id'
   ·subst hid;simpa using hq
   ·have h1:(id == id')=false:=by simpa using hid
    have h2:(id' == id)=false:=by simpa using fun e=>hid e.symm
    simp only [h1,h2,Bool.false_eq_true,if_false] at hq ⊢
    first | exact hq | (rw [if_neg (fun e=>hid e.symm)];exact hq) | (rw [if_neg hid];exact hq)
  ·-- exit
   rename_i id
   split at h
   ·rename_i k' hk'
    have:=iE hT hm f k' s orc out obs orc' h ho hg
    exact fun ρ a W hrep=>wpIn_exit (oU hk' (this ρ a W hrep))
   ·cases h
  ·-- ret
   simp only [bG,eV] at h
   obtain⟨rfl,_,_⟩:=h
   intro ρ a W hrep
   simp only [iI]
   refine wpIn_ret ?_
   rw [aId (by simp) (by simp) (by simp)]
   exact hg ρ a W hrep
  ·-- loop
   rename_i body
   split at h
   ·rename_i m orc2
    have:=aS (iE hT hm f _ s orc2 out obs orc' h ho hg)
    exact fun ρ a W hrep=>wpIn_loop_rounds (m+1) (this ρ a W hrep)
   ·simp only [bG,eV] at h
    obtain⟨rfl,_,_⟩:=h
    obtain⟨m,hg⟩:=hg
    exact fun ρ a W hrep=>wpIn_loop_rounds m (hg ρ a W hrep)
  ·-- cond
   rename_i c x y
   split at h
   ·rename_i d hc
    have:=iE hT hm f _ s orc out obs orc' h ho hg
    intro ρ a W hrep
    have hr:=bY hrep c
    rw [hc] at hr
    simp only [Rel] at hr
    have:=this ρ a W hrep
    simp only [iI] at this ⊢
    refine wpIn_cond hr ?_
    cases d<;>exact this
   ·rename_i b hc
    split at h
    ·rename_i d orc2
     split at h
     ·rename_i o' obs' orc3 hrun
      simp only [bG,eV] at h
      obtain⟨rfl,rfl,rfl⟩:=h
      obtain⟨h1,h2⟩:=ho
      simp only [Ob.Holds] at h1
      have:=iE hT hm f _ s orc2 o' obs' orc3 hrun h2 hg
      intro ρ a W hrep
      have hr:=bY hrep c
      rw [hc] at hr
      simp only [Rel] at hr
      have:=this ρ a W hrep
      simp only [iI] at this ⊢
      refine wpIn_cond hr ?_
      rw [h1]
      cases d<;>exact this
     ·cases h
    ·cases h
   ·cases h
  ·-- region
   rename_i id ops draw
   split at h
   ·simp only [bG,eV] at h
    obtain⟨rfl,_,_⟩:=h
    exact hg
   ·split at h
    ·rename_i evs s' obs1 orc1 hev
     split at h
     ·rename_i hrace
      split at h
      ·rename_i o' obs2 orc2 hrun
       simp only [bG,eV] at h
       obtain⟨rfl,rfl,rfl⟩:=h
       obtain⟨h1,h2⟩:=Obs.append ho
       obtain⟨h3,h2⟩:=Obs.append h2
       have:=iE hT hm f k s' orc1 o' obs2 orc2 hrun h2 hg
       intro ρ a W hrep
       simp only [iI]
       exact aDo hT hm hev h1 (fun hd=>by subst hd;exact⟨by simpa using hrace,h3⟩) hrep (fun ρ' a' W' h'=>this ρ' a' W' h')
      ·cases h
     ·cases h
    ·cases h
  ·-- scope
   rename_i x
   split at h
   ·rename_i m orc2
    have:=iE hT hm f (.c x::.s x m::k) s orc2 out obs orc' h ho hg
    intro ρ a W hrep
    have:=this ρ a W hrep
    simp only [iI] at this ⊢
    exact aIc m this
   ·cases h
  ·-- goto
   simp only [bG,eV] at h
   obtain⟨rfl,_,_⟩:=h
   exact hg
  ·-- a range over a function
   simp only [bG,eV] at h
   obtain⟨rfl,_,_⟩:=h
   exact hg
  ·cases h
end
end Go.Aw
namespace Go.Aw
open Go.RowKit
def pP (T:Nat->Option TI)(s:FS):List ResultVar->Option (List SV)
 | []=>some []
 | .tmp t::l=>match pP T s l with
  | some m=>some (s.sl t::m)
  | none=>none
 | .cell a t::l=>match s.sl a,T t with
  | .p k off,some i=>match s.bk k with
   | .live own false cells=>if((cells.drop off).take i.size).length=i.size then
    match mkV i.agg ((cells.drop off).take i.size),pP T s l with
    | some x,some m=>some (x::m)
    | _,_=>none
    else none
   | _=>none
  | _,_=>none
def aKb:List SV->SV
 | [x]=>x
 | l=>.t l
def aIe (R:List Nat):BK->Option BK
 | .dead=>some .dead
 | .map es=>some (.map es)
 | .live true true cells=>some (.live true true cells)
 | .live true false cells=>match renL R cells with
  | some cells=>some (.live true false cells)
  | none=>none
 | _=>none
def aGf (ks:List Nat)(bk:Nat->BK):List Nat->Option (List BK)
 | []=>some []
 | k::l=>match aIe ks (bk k),aGf ks bk l with
  | some x,some m=>some (x::m)
  | _,_=>none
def aGg (R:List Nat)(ms:List Nat)(bk:Nat->BK):Nat->Nat->Option (List BK)
 | _,0=>some []
 | i,n+1=>match (if ms.contains i then aIe R (bk i) else some .un),aGg R ms bk (i+1) n with
  | some x,some m=>some (x::m)
  | _,_=>none
def fin (T:Nat->Option TI)(rv:List ResultVar)(base:Nat)(ms ks:List Nat)(s:LS):Option (SV×List BK×List BK) :=
 match pP T s.fs rv with
 | none=>none
 | some l=>match xY (List.range base++ks) (aKb l),aGf (List.range base++ks) s.fs.bk ks,(match ms with | []=>some [] | _=>aGg (List.range base++ks) ms s.fs.bk 0 base) with
  | some res,some nb,some mb=>if tJ ks&&ks.all (fun k=>decide (base<=k)) then some (res,nb,mb) else none
  | _,_,_=>none
section
variable {P : Program} {T : Nat → Option TI} {cx : Cx} {n : Nat}
def aCp (tmps:Array Value)(x:ResultVar):Sem Value :=
 match x with
 | .tmp t=>pure (tmps.getD t undef)
 | .cell a t=>do loadVar t (←asAddr (tmps.getD a undef))
theorem aIf (fn:Func)(tmps:Array Value):results fn tmps=(fn.results.mapM (aCp tmps) >>= fun vs=>pure (if h:vs.size=1 then vs[0] else .tuple vs)):=by
 unfold results
 congr 2
theorem aIg (x:Addr)(W:World):(asAddr (.pointer (some x))).run P W=.ok x W:=rfl
theorem tP (hT:nI P T) {N:Nat} {D:List Deferred} {s:FS} {ρ:Env} {a:Act} {W:World} (hrep:Rep cx N D ρ s a W):∀(rv:List ResultVar) (l:List SV),pP T s rv=some l->∀acc:Array Value,
 ∃vs:List Value,(rv.foldlM (fun(acc:Array Value) (x:ResultVar)=>do pure (acc.push (←aCp a.tmps x))) acc).run P W=.ok (acc++vs.toArray) W/\Rels ρ l vs
 | [],l,h,acc=>by simp only [pP,bG] at h;subst h;exact⟨[],by simp,by simp [Rels]⟩
 | .tmp t::rv,l,h,acc=>by
  simp only [pP] at h
  split at h
  ·rename_i m hm
   simp only [bG] at h;subst h
   obtain⟨vs,hr,hrel⟩:=tP hT hrep rv m hm (acc.push (a.tmps.getD t undef))
   refine⟨a.tmps.getD t undef::vs,?_,by simp only [Rels];exact⟨hrep.sl t,hrel⟩⟩
   simp only [List.foldlM_cons,Sem.run_bind,aCp,Sem.run_pure,Result.andThen_ok]
   refine Eq.trans hr ?_;simp
  ·cases h
 | .cell c t::rv,l,h,acc=>by
  simp only [pP] at h
  split at h
  ·rename_i k off i hs hi
   split at h
   ·rename_i own cells hb
    split at h
    ·rename_i hl
     split at h
     ·rename_i x m hx hm
      simp only [bG] at h;subst h
      obtain⟨nf,d,z,h1,h2,h3,hie⟩:=bF (hT t i hi)
      have hxr:=hrep.sl c
      rw [hs] at hxr
      simp only [Rel] at hxr
      obtain⟨b,o',m',hρ,hy⟩:=hxr
      have hbk:=hrep.bk k
      rw [hb] at hbk
      rcases hbk.read with⟨he,_⟩ | ⟨b',o'',m'',vs0,e1,⟨e2,_⟩,_,e4⟩
      ·rw [hρ] at he;cases he
      rw [hρ] at e1;cases e1
      rw [hie] at hx hl
      simp only at hx hl
      have hrr:Rels ρ ((cells.drop off).take nf.size) ((vs0.drop off).take nf.size):=Rels.take _ (Rels.drop _ e2)
      have hlen:=hrr.length
      have hload:(loadVar t ⟨b,o'+off,none⟩).run P W=.ok (if eC d=true then .agg ((vs0.drop off).take nf.size).toArray else((vs0.drop off).take nf.size).headD undef) W:=by
       refine xU h1 h2 (by rw [←hlen];exact hl) (fun hag hne=>?_) (fun j y hjy=>?_)
       ·rw [hag] at hx
        rw [hne] at hlen
        have:(cells.drop off).take nf.size=[]:=List.length_eq_zero_iff.1 (by simpa using hlen)
        rw [this] at hx;simp [mkV] at hx
       ·have hj:=(List.getElem?_eq_some_iff.1 hjy).1
        rw [List.getElem?_take_of_lt (by simp at hj;omega),List.getElem?_drop] at hjy
        have:=e4 (off+j) y hjy
        rw [show o'+off+j=o'+(off+j) by omega];exact this
      obtain⟨vs,hr,hrel⟩:=tP hT hrep rv m hm (acc.push (if eC d=true then .agg ((vs0.drop off).take nf.size).toArray else((vs0.drop off).take nf.size).headD undef))
      refine⟨_::vs,?_,by simp only [Rels];exact⟨aDc hx hrr,hrel⟩⟩
      have hrv:(aCp a.tmps (.cell c t)).run P W=.ok (if eC d=true then .agg ((vs0.drop off).take nf.size).toArray else((vs0.drop off).take nf.size).headD undef) W:=by
       simp only [aCp,Sem.run_bind,hy,aIg,Result.andThen_ok,hload]
      simp only [List.foldlM_cons,Sem.run_bind,hrv,Sem.run_pure,Result.andThen_ok]
      refine Eq.trans hr ?_;simp
     ·cases h
    ·cases h
   ·cases h
  ·cases h
theorem aAk {ks:List Nat} {bk:Nat->BK}:∀(l:List Nat) (m:List BK),aGf ks bk l=some m->m.length=l.length/\∀(i:Nat) (y:BK),m[i]? = some y->∃k,l[i]? = some k/\aIe ks (bk k)=some y
 | [],m,h=>by simp only [aGf,bG] at h;subst h;simp
 | k::l,m,h=>by
  simp only [aGf] at h
  split at h
  ·rename_i x m' hx hm
   simp only [bG] at h;subst h
   obtain⟨h1,h2⟩:=aAk l m' hm
   refine⟨by simp [h1],fun i y hi=>?_⟩
   cases i with
   | zero=>simp at hi;subst hi;exact⟨k,by simp,hx⟩
   | succ i =>
    obtain⟨k,e1,e2⟩:=h2 i y (by simpa using hi)
    exact⟨k,by simpa using e1,e2⟩
  ·cases h
theorem aAl {R ms:List Nat} {bk:Nat->BK}:∀(n i:Nat) (m:List BK),aGg R ms bk i n=some m->m.length=n/\∀j y,m[j]? = some y->y=.un\/aIe R (bk (i+j))=some y
 | 0,i,m,h=>by simp only [aGg,bG] at h;subst h;simp
 | n+1,i,m,h=>by
  simp only [aGg] at h
  split at h
  ·rename_i x m' hx hm
   simp only [bG] at h;subst h
   obtain⟨h1,h2⟩:=aAl n (i+1) m' hm
   refine⟨by simp [h1],fun j y hj=>?_⟩
   cases j with
   | zero =>
    simp at hj;subst hj
    split at hx
    ·exact .inr (by simpa using hx)
    ·simp only [bG] at hx;exact .inl hx.symm
   | succ j =>
    rw [show i+(j+1)=i+1+j by omega]
    exact h2 j y (by simpa using hj)
  ·cases h
theorem uW {R:List Nat} {ρ:Env} {M:Nat->Prop} {W:World} {j k:Nat} {x y:BK} (hj:R[j]? = some k)(h:aIe R x=some y)(hp:x.pl)(hb:BRep ρ M W k x):BRep (jA ρ R) M W j y/\y.pl/\(y.own->x.own):=by
 have he:jA ρ R j=ρ k:=dK hj
 unfold aIe at h
 split at h
 ·simp only [bG] at h;subst h;exact⟨trivial,trivial,fun h=>h.elim⟩
 ·simp only [bG] at h;subst h
  refine⟨?_,hp,fun _=>trivial⟩
  obtain⟨b,n,arr,q1,q2,q3,q4⟩:=hb
  exact⟨b,n,arr,he.trans q1,q2,MEs.congr (oT _ _) _ _ _ (fun k hk=>(hp k hk).elim) q3,q4⟩
 ·simp only [bG] at h;subst h
  refine⟨?_,hp,fun _=>trivial⟩
  rcases hb with⟨q1,q2⟩ | ⟨b,vs,rest,ty,q1,q2,q3,q4⟩
  ·exact .inl ⟨he.trans q1,q2⟩
  ·exact .inr ⟨b,vs,rest,ty,he.trans q1,q2,Plain.congr (oT _ _) hp q3,q4⟩
 ·split at h
  ·rename_i cells c' hc
   simp only [bG] at h;subst h
   refine⟨?_,trivial,fun _=>trivial⟩
   rcases hb with⟨q1,q2⟩ | ⟨b,vs,rest,ty,q1,q2,q3,q4⟩
   ·subst q2
    simp only [renL,bG] at hc;subst hc
    exact .inl ⟨he.trans q1,rfl⟩
   ·exact .inr ⟨b,vs,rest,ty,he.trans q1,q2,renL_rel _ _ _ hc q3,q4⟩
  ·cases h
 ·cases h
theorem aNi (hT:nI P T) {fn:Func} {ms ks:List Nat} {s:LS} {res:SV} {nb mb:List BK} (h:fin T fn.results.toList cx.base ms ks s=some (res,nb,mb)) :
 aAj (bodyPost P fn (RR cx res nb mb)) .ret cx [] s:=by
 intro ρ a W hrep
 unfold fin at h
 split at h
 ·cases h
 ·rename_i l hl
  split at h
  ·rename_i res' nb' mb' hres hnb hmb
   split at h
   ·rename_i hc
    simp only [Bool.and_eq_true,List.all_eq_true,decide_eq_true_eq] at hc
    simp only [bG,eV] at h
    obtain⟨rfl,rfl,rfl⟩:=h
    obtain⟨vs,hrun,hrel⟩:=tP hT hrep fn.results.toList l hl #[]
    have hmap:(fn.results.mapM (aCp a.tmps)).run P W=.ok vs.toArray W:=by
     rw [Array.mapM_eq_foldlM,←Array.foldlM_toList]
     simp only [Array.empty_append] at hrun
     rw [←hrun]
     simp only [bind_pure_comp]
    have hresult:∃v,(results fn a.tmps).run P W=.ok v W/\Rel ρ (aKb l) v:=by
     rw [aIf]
     simp only [Sem.run_bind,hmap,Result.andThen_ok,Sem.run_pure]
     match l,vs,hrel with
     | [x],[y],hrel=>simp only [Rels] at hrel;exact⟨y,by simp,hrel.1⟩
     | [],[],_=>exact⟨_,rfl,by simp only [aKb,Rel];exact⟨[],by simp,by simp [Rels]⟩⟩
     | x::x'::l',y::y'::vs',hrel=>exact⟨_,rfl,by simp only [aKb,Rel];exact⟨y::y'::vs',by simp,hrel⟩⟩
     | [],_::_,hrel=>simp [Rels] at hrel
     | [_],[],hrel=>simp [Rels] at hrel
     | [_],_::_::_,hrel=>simp [Rels] at hrel
     | _::_::_,[],hrel=>simp [Rels] at hrel
     | _::_::_,[_],hrel=>simp [Rels] at hrel
    obtain⟨v,hv,hvr⟩:=hresult
    obtain⟨hol,hos⟩:=aAk ks nb' hnb
    have hidx:∀j,(List.range cx.base++ks)[cx.base+j]? = ks[j]? := fun j=>by
     rw [List.getElem?_append_right (by simp)];simp
    have hidx0:∀i,i < cx.base->(List.range cx.base++ks)[i]? = some i:=fun i hi=>by
     rw [List.getElem?_append_left (by simpa using hi)];simp [hi]
    -- where each block of the post comes from
    have src:∀j,fW cx.base mb' nb' j=.un\/∃k,(List.range cx.base++ks)[j]? = some k/\aIe (List.range cx.base++ks) (s.fs.bk k)=some (fW cx.base mb' nb' j):=fun j=>by
     unfold fW
     split
     ·rename_i hj
      cases hm:mb'[j]? with
      | none=>exact .inl (by simp [fP,hm])
      | some y =>
       rw [show mb'.getD j .un=y by simp [fP,hm]]
       split at hmb
       ·simp only [bG] at hmb;subst hmb;simp at hm
       ·obtain⟨_,h2⟩:=aAl _ _ _ hmb
        have:=h2 j y hm
        rw [Nat.zero_add] at this
        rcases this with h' | h'
        ·exact .inl h'
        ·exact .inr ⟨j,hidx0 j hj,h'⟩
     ·rename_i hj
      cases hm:nb'[j - cx.base]? with
      | none=>exact .inl (by simp [fP,hm])
      | some y =>
       obtain⟨k,h1,h2⟩:=hos (j - cx.base) y hm
       rw [show nb'.getD (j - cx.base) .un=y by simp [fP,hm]]
       refine .inr ⟨k,?_,h2⟩
       have:=hidx (j - cx.base)
       rw [show cx.base+(j - cx.base)=j by omega] at this
       rw [this];exact h1
    have inj:∀i j k,(List.range cx.base++ks)[i]? = some k->(List.range cx.base++ks)[j]? = some k->i=j:=fun i j k h1 h2=>by
     have split:∀i,(List.range cx.base++ks)[i]? = some k->(i < cx.base/\i=k)\/(cx.base<=i/\ks[i - cx.base]? = some k/\cx.base<=k):=fun i h=>by
      by_cases hi:i < cx.base
      ·rw [hidx0 i hi] at h;cases h;exact .inl ⟨hi,rfl⟩
      ·have:=hidx (i - cx.base)
       rw [show cx.base+(i - cx.base)=i by omega] at this
       rw [this] at h
       exact .inr ⟨by omega,h,hc.2 k (List.mem_of_getElem? h)⟩
     rcases split i h1 with⟨a1,a2⟩ | ⟨a1,a2,a3⟩<;>rcases split j h2 with⟨b1,b2⟩ | ⟨b1,b2,b3⟩
     ·omega
     ·omega
     ·omega
     ·have:=lN hc.1 _ _ k a2 b2;omega
    refine⟨hrep.defs,v,hv,jA ρ (List.range cx.base++ks),v,rfl,fun i hi=>?_,aDk _ _ _ hres hvr,hrep.kept,fun j=>?_,fun j=>?_,fun i j b m b' m' hij hi hj e1 e2=>?_,fun b o ho=>hrep.fzo b o ho,fun b o ho=>⟨(hrep.fzn b o ho).1,fun j m hj e1=>?_,(hrep.fzn b o ho).2.2⟩⟩
    ·rw [dK (hidx0 i hi)]
     exact(hrep.old i hi).1
    ·rcases src j with h0 | ⟨k,h1,h2⟩
     ·rw [h0];trivial
     ·exact(uW h1 h2 (hrep.pl k) (hrep.bk k)).1
    ·rcases src j with h0 | ⟨k,h1,h2⟩
     ·rw [h0];trivial
     ·exact(uW h1 h2 (hrep.pl k) (hrep.bk k)).2.1
    ·have get:∀i,(fW cx.base mb' nb' i).own->∃k,(List.range cx.base++ks)[i]? = some k/\(s.fs.bk k).own:=fun i hi=>by
      rcases src i with h0 | ⟨k,h1,h2⟩
      ·rw [h0] at hi;exact hi.elim
      ·exact⟨k,h1,(uW h1 h2 (hrep.pl k) (hrep.bk k)).2.2 hi⟩
     obtain⟨k1,g1,o1⟩:=get i hi
     obtain⟨k2,g2,o2⟩:=get j hj
     rw [dK g1] at e1
     rw [dK g2] at e2
     refine hrep.apart k1 k2 b m b' m' (fun e=>hij ?_) o1 o2 e1 e2
     subst e
     exact inj i j k1 g1 g2
    ·rcases src j with h0 | ⟨k,h1,h2⟩
     ·rw [h0] at hj;exact hj.elim
     ·rw [dK h1] at e1
      exact(hrep.fzn b o ho).2.1 k m ((uW h1 h2 (hrep.pl k) (hrep.bk k)).2.2 hj) e1
   ·cases h
  ·cases h
def aDq:BK->Bool
 | .live _ _ _=>true
 | .map _=>true
 | _=>false
mutual
def yC (b:Nat):SV->Bool
 | .p k _=>decide (k < b)
 | .s k _ _ _=>decide (k < b)
 | .m k=>decide (k < b)
 | .f _ caps=>belowL b caps
 | .a l=>belowL b l
 | .t l=>belowL b l
 | _=>true
def belowL (b:Nat):List SV->Bool
 | []=>true
 | x::l=>yC b x&&belowL b l
end
mutual
theorem aMc {b k:Nat}:∀{x:SV},yC b x=true->x.has k->k < b
 | .u,_,h=>by simp [SV.has] at h
 | .b _,_,h=>by simp [SV.has] at h
 | .v _,_,h=>by simp [SV.has] at h
 | .p j _,hb,h=>by simp [yC] at hb;simp [SV.has] at h;omega
 | .s j _ _ _,hb,h=>by simp [yC] at hb;simp [SV.has] at h;omega
 | .m j,hb,h=>by simp [yC] at hb;simp [SV.has] at h;omega
 | .d _ _ _,_,h=>by simp [SV.has] at h
 | .f _ caps,hb,h=>by simp only [yC] at hb;simp only [SV.has] at h;exact belowL_has hb h
 | .a l,hb,h=>by simp only [yC] at hb;simp only [SV.has] at h;exact belowL_has hb h
 | .t l,hb,h=>by simp only [yC] at hb;simp only [SV.has] at h;exact belowL_has hb h
theorem belowL_has {b k:Nat}:∀{l:List SV},belowL b l=true->SV.hasl k l->k < b
 | [],_,h=>by simp [SV.hasl] at h
 | x::l,hb,h=>by
  simp only [belowL,Bool.and_eq_true] at hb
  simp only [SV.hasl] at h
  rcases h with h | h
  ·exact aMc hb.1 h
  ·exact belowL_has hb.2 h
end
def aDr (b:Nat):BK->Bool
 | .live _ false cells=>belowL b cells
 | _=>true
def qS (N:Nat)(args:List SV)(bs:List BK):LS:={ sl:=args++List.replicate (N - args.length) (.v undef),bk:=bs }
theorem aMd {N:Nat} {args:List SV} {bs:List BK} {ρ:Env} {W:World} {vs:List Value} (hlen:args.length<=N)(hlive:(bs.all aDq&&belowL bs.length args&&bs.all (aDr bs.length))=true)
 (hargs:Rels ρ args vs) (hbs:∀i,BRep ρ (dM ρ W bs).mine W i (bs.getD i .un)) (hpl:∀i,(bs.getD i .un).pl)
 (hap:∀i j b n b' n',i≠j->(bs.getD i .un).own->(bs.getD j .un).own->ρ i=some (b,0,n)->ρ j=some (b',0,n')->b≠b')
 (hfz:∀b o,ρ.fz b=some o->W.heap[b]? = some o.obj/\∀i n,(bs.getD i .un).own->ρ i≠some (b,0,n)) :
 Rep (dM ρ W bs) (qS N args bs).sl.length [] ρ (qS N args bs).fs { tmps:=vs.toArray++Array.replicate (N - vs.toArray.size) undef,defers:=[] } W:=by
 simp only [Bool.and_eq_true,List.all_eq_true] at hlive
 obtain⟨⟨hl1,hl2⟩,hl3⟩:=hlive
 let cx:Cx:=dM ρ W bs
 have hvl:=hargs.length
 have hslen:(qS N args bs).sl.length=N:=by simp [qS];omega
 have hbk:∀k,(qS N args bs).fs.bk k=bs.getD k .un:=fun k=>rfl
 have hnun:∀k,k < bs.length->(qS N args bs).fs.bk k≠.un:=fun k hk=>by
  rw [hbk]
  have:=hl1 bs[k] (by simp)
  rw [show bs.getD k .un=bs[k] by simp [fP,hk]]
  cases hx:bs[k]<;>rw [hx] at this<;>first | (simp [aDq] at this;done) | simp
 have hrep:Rep cx (qS N args bs).sl.length [] ρ (qS N args bs).fs { tmps:=vs.toArray++Array.replicate (N - vs.toArray.size) undef,defers:=[] } W:=by
  refine { defs:=rfl,size:=by rw [hslen];simp;omega,sl:=fun t=>?_,bk:=fun k=>?_,apart:=fun i j b m b' m' hij hi hj=>?_,wf1:=fun t k hk=>?_,wf2:=fun j k hk=>?_,kept:=Kept.refl _ _,pl:=fun k=>(by rw [hbk];exact hpl k),old:=fun i hi=>⟨rfl,hnun i hi⟩,fzn:=fun b o ho=>⟨(hfz b o ho).1,fun i n hi=>(hfz b o ho).2 i n (by rw [hbk] at hi;exact hi),.inl ho⟩,fzo:=fun _ _ h=>h }
  ·simp only [qS,LS.fs,fP]
   by_cases ht:t < args.length
   ·rw [List.getElem?_append_left ht]
    obtain⟨y,hy,hr⟩:=Rels.get t hargs (List.getElem?_eq_getElem ht)
    have:({ tmps:=vs.toArray++Array.replicate (N - vs.toArray.size) undef,defers:=[] }:Act).tmps.getD t undef=y:=by
     simp only [Array.getD_eq_getD_getElem?]
     rw [Array.getElem?_append_left (by simpa using (by omega:t < vs.length))]
     simp [hy]
    rw [this]
    simpa [List.getElem?_eq_getElem ht] using hr
   ·rw [List.getElem?_append_right (by omega)]
    have:({ tmps:=vs.toArray++Array.replicate (N - vs.toArray.size) undef,defers:=[] }:Act).tmps.getD t undef=undef:=by
     simp only [Array.getD_eq_getD_getElem?]
     rw [Array.getElem?_append_right (by simp;omega)]
     cases hx:(Array.replicate (N - vs.toArray.size) undef)[t - vs.toArray.size]? with
     | none=>rfl
     | some x =>
      have:=(Array.getElem?_eq_some_iff.1 hx)
      obtain⟨h1,h2⟩:=this
      simp at h2;simp [←h2]
    rw [this]
    cases hx:(List.replicate (N - args.length) (SV.v undef))[t - args.length]? with
    | none=>simp [Rel]
    | some x =>
     have:=List.mem_of_getElem? hx
     have:=List.eq_of_mem_replicate this
     subst this;simp [Rel]
  ·rw [hbk];exact hbs k
  ·rw [hbk] at hi hj
   exact hap i j b m b' m' hij hi hj
  ·have:k < bs.length:=by
    simp only [qS,LS.fs,fP] at hk
    by_cases ht:t < args.length
    ·rw [List.getElem?_append_left ht,List.getElem?_eq_getElem ht] at hk
     exact belowL_has hl2 (eE.2 ⟨args[t],by simp,hk⟩)
    ·rw [List.getElem?_append_right (by omega)] at hk
     cases hx:(List.replicate (N - args.length) (SV.v undef))[t - args.length]? with
     | none=>rw [hx] at hk;simp [SV.has] at hk
     | some x =>
      have:=List.eq_of_mem_replicate (List.mem_of_getElem? hx)
      subst this;rw [hx] at hk;simp [SV.has] at hk
   exact hnun k this
  ·have:k < bs.length:=by
    rw [hbk] at hk
    cases hx:bs[j]? with
    | none=>simp [fP,hx,BK.has] at hk
    | some x =>
     rw [show bs.getD j .un=x by simp [fP,hx]] at hk
     have:=hl3 x (List.mem_of_getElem? hx)
     have hp:=hpl j
     rw [show bs.getD j .un=x by simp [fP,hx]] at hp
     cases x with
     | un=>simp [BK.has] at hk
     | dead=>simp [BK.has] at hk
     | map es=>exact(hp k hk).elim
     | live o sy c =>
      cases sy with
      | true=>exact(hp _ hk).elim
      | false =>
       simp only [aDr] at this
       exact belowL_has this hk
   exact hnun k this
 exact hrep
theorem aGh {f:Nat} {fn:Func} {c:Code} {args:List SV} {bs:List BK} {res:SV} {nb mb:List BK} (hf:P.funcs[f]? = some fn)(hb:fn.body=some c)(hent:aH1 P f)
 (hlen:args.length<=fn.ntmps) (hlive:(bs.all aDq&&belowL bs.length args&&bs.all (aDr bs.length))=true)
 (h:∀cx:Cx,cx.base=bs.length->Good P none n (bodyPost P fn (RR cx res nb mb)) cx [] [.c c] (qS fn.ntmps args bs)):Con P f args bs res nb mb:=by
 refine⟨hent,fun ρ W vs hargs hbs hpl hap hfz=>?_⟩
 let cx:Cx:=dM ρ W bs
 refine(calls_of_wp (R:=RR cx res nb mb) hf hb ?_)
 have hrep:=aMd hlen hlive hargs hbs hpl hap hfz
 have:=h cx rfl ρ _ W hrep
 simp only [iI] at this
 exact(wpIn_wide (n:=n)).1 this
end
end Go.Aw
namespace Go.Aw
open Go.RowKit
theorem ent {P : Program} {f : Nat} {fn : Func} {c : Code} (hf : P.funcs[f]? = some fn) (hname : (fn.name == "runtime.NumGoroutine") = false) (hb : fn.body = some c) : aH1 P f := Go.Proofs.enters_of hf hname hb
def aGi (T:Nat->Option TI)(rv:List ResultVar)(base:Nat)(ms ks:List Nat):Option (Out×List Ob×List Or)->Option (SV×List BK×List BK×List Ob)
 | some (.ret s,obs,[])=>match fin T rv base ms ks s with
  | some (res,nb,mb)=>some (res,nb,mb,obs)
  | none=>none
 | _=>none
def aGj (R ts:List Nat):Nat->List SV->Option (List SV)
 | _,[]=>some []
 | t,x::l=>match (if ts.contains t then xY R x else some .u),aGj R ts (t+1) l with
  | some y,some m=>some (y::m)
  | _,_=>none
def yT (R:List Nat):BK->Option BK
 | .live own true cells=>some (.live own true cells)
 | .live own false cells=>match renL R cells with
  | some l=>some (.live own false l)
  | none=>none
 | .dead=>some .dead
 | .map es=>some (.map es)
 | .un=>none
def aGk (R:List Nat)(bk:Nat->BK):List Nat->Option (List BK)
 | []=>some []
 | k::l=>match yT R (bk k),aGk R bk l with
  | some x,some m=>some (x::m)
  | _,_=>none
def shrink (base:Nat)(ts ks:List Nat)(s:LS):Option LS :=
 let R:=List.range base++ks
 match aGj R ts 0 s.sl,aGk R s.fs.bk R with
 | some sl,some bk=>if tJ R then some ⟨sl,bk⟩ else none
 | _,_=>none
def uX (base:Nat)(ts ks:List Nat):Option (Out×List Ob×List Or)->Option (Code×List K×LS×List Ob)
 | some (.enter body k s,obs,[])=>match shrink base ts ks s with
  | some s'=>some (body,k,s',obs)
  | none=>none
 | _=>none
def aAm (base:Nat)(ts ks:List Nat):Option (Out×List Ob×List Or)->Option (Code×Nat×List K×LS×List Ob)
 | some (.back body m k s,obs,[])=>match shrink base ts ks s with
  | some s'=>some (body,m,k,s',obs)
  | none=>none
 | _=>none
section
variable {P : Program} {T : Nat → Option TI} {cx : Cx} {D : List Deferred} {r : Option Nat} {n : Nat} {Q : Exit → Act → World → Prop}
theorem aAn {ρ:Env} {R ts:List Nat}:∀(l m:List SV) (t:Nat),aGj R ts t l=some m->m.length=l.length/\∀(i:Nat) (y:SV),m[i]? = some y->y=.u\/∃x,l[i]? = some x/\xY R x=some y
 | [],m,t,h=>by simp only [aGj,bG] at h;subst h;simp
 | x::l,m,t,h=>by
  simp only [aGj] at h
  split at h
  ·rename_i y m' hy hm
   simp only [bG] at h;subst h
   obtain⟨h1,h2⟩:=aAn (ρ:=ρ) l m' (t+1) hm
   refine⟨by simp [h1],fun i z hi=>?_⟩
   cases i with
   | zero =>
    simp at hi;subst hi
    split at hy
    ·exact .inr ⟨x,by simp,hy⟩
    ·simp at hy;exact .inl hy.symm
   | succ i =>
    rcases h2 i z (by simpa using hi) with h' | ⟨x',h',h''⟩
    ·exact .inl h'
    ·exact .inr ⟨x',by simpa using h',h''⟩
  ·cases h
theorem aAo {R:List Nat} {bk:Nat->BK}:∀(l:List Nat) (m:List BK),aGk R bk l=some m->m.length=l.length/\∀(i:Nat) (y:BK),m[i]? = some y->∃k,l[i]? = some k/\yT R (bk k)=some y
 | [],m,h=>by simp only [aGk,bG] at h;subst h;simp
 | k::l,m,h=>by
  simp only [aGk] at h
  split at h
  ·rename_i x m' hx hm
   simp only [bG] at h;subst h
   obtain⟨h1,h2⟩:=aAo l m' hm
   refine⟨by simp [h1],fun i y hi=>?_⟩
   cases i with
   | zero=>simp at hi;subst hi;exact⟨k,by simp,hx⟩
   | succ i =>
    obtain⟨k',e1,e2⟩:=h2 i y (by simpa using hi)
    exact⟨k',by simpa using e1,e2⟩
  ·cases h
mutual
theorem aKc {ks:List Nat} {k:Nat}:∀(x y:SV),xY ks x=some y->y.has k->k < ks.length
 | .u,y,h,hk=>by simp only [xY,bG] at h;subst h;simp [SV.has] at hk
 | .b x,y,h,hk=>by simp only [xY,bG] at h;subst h;simp [SV.has] at hk
 | .v x,y,h,hk=>by simp only [xY,bG] at h;subst h;simp [SV.has] at hk
 | .p j off,y,h,hk=>by
  simp only [xY] at h
  split at h
  ·rename_i i hi;simp only [bG] at h;subst h
   simp only [SV.has] at hk;subst hk
   exact(List.getElem?_eq_some_iff.1 (mS hi)).1
  ·cases h
 | .s j off len es,y,h,hk=>by
  simp only [xY] at h
  split at h
  ·rename_i i hi;simp only [bG] at h;subst h
   simp only [SV.has] at hk;subst hk
   exact(List.getElem?_eq_some_iff.1 (mS hi)).1
  ·cases h
 | .d cells len es,y,h,hk=>by simp only [xY,bG] at h;subst h;simp [SV.has] at hk
 | .m j,y,h,hk=>by
  simp only [xY] at h
  split at h
  ·rename_i i hi;simp only [bG] at h;subst h
   simp only [SV.has] at hk;subst hk
   exact(List.getElem?_eq_some_iff.1 (mS hi)).1
  ·cases h
 | .f g caps,y,h,hk=>by
  simp only [xY] at h
  split at h
  ·rename_i l hl;simp only [bG] at h;subst h
   exact renL_has caps l hl (by simpa [SV.has] using hk)
  ·cases h
 | .a l',y,h,hk=>by
  simp only [xY] at h
  split at h
  ·rename_i l hl;simp only [bG] at h;subst h
   exact renL_has l' l hl (by simpa [SV.has] using hk)
  ·cases h
 | .t l',y,h,hk=>by
  simp only [xY] at h
  split at h
  ·rename_i l hl;simp only [bG] at h;subst h
   exact renL_has l' l hl (by simpa [SV.has] using hk)
  ·cases h
theorem renL_has {ks:List Nat} {k:Nat}:∀(l m:List SV),renL ks l=some m->SV.hasl k m->k < ks.length
 | [],m,h,hk=>by simp only [renL,bG] at h;subst h;simp [SV.hasl] at hk
 | x::l,m,h,hk=>by
  simp only [renL] at h
  split at h
  ·rename_i y m' hy hm
   simp only [bG] at h;subst h
   simp only [SV.hasl] at hk
   rcases hk with hk | hk
   ·exact aKc x y hy hk
   ·exact renL_has l m' hm hk
  ·cases h
end
theorem pQ {R:List Nat} {x y:BK} (hx:yT R x=some y)(hp:x.pl):(x=.dead/\y=.dead)\/(∃es,x=.map es/\y=.map es)\/∃own sym cells l,x=.live own sym cells/\y=.live own sym l/\(∀(ρ:Env) vs,Rels ρ cells vs->Rels (jA ρ R) l vs)/\(cells=[]->l=[])/\(∀k,SV.hasl k l->k < R.length)/\y.pl:=by
 cases x with
 | un=>simp [yT] at hx
 | dead=>simp only [yT,bG] at hx;exact .inl ⟨rfl,hx.symm⟩
 | map es=>simp only [yT,bG] at hx;exact .inr (.inl ⟨es,rfl,hx.symm⟩)
 | live own sym cells =>
  cases sym with
  | true =>
   simp only [yT,bG] at hx;subst hx
   exact .inr (.inr ⟨own,true,cells,cells,rfl,rfl,fun ρ vs h=>Plain.congr (oT _ _) hp h,id,fun k hk=>(hp k hk).elim,hp⟩)
  | false =>
   simp only [yT] at hx
   split at hx
   ·rename_i l hl
    simp only [bG] at hx;subst hx
    exact .inr (.inr ⟨own,false,cells,l,rfl,rfl,fun ρ vs h=>renL_rel cells l vs hl h,fun e=>by subst e;simp only [renL,bG] at hl;exact hl.symm,fun k hk=>renL_has cells l hl hk,trivial⟩)
   ·cases hx
theorem aNj {ρ:Env} {R:List Nat} {M:Nat->Prop} {W:World} {k i:Nat} {x y:BK} (hk:R[i]? = some k)(hx:yT R x=some y)(hp:x.pl)(h:BRep ρ M W k x):BRep (jA ρ R) M W i y:=by
 have he:jA ρ R i=ρ k:=dK hk
 rcases pQ hx hp with⟨rfl,rfl⟩ | ⟨es,rfl,rfl⟩ | ⟨own,sym,cells,l,rfl,rfl,hr,hn,_,_⟩
 ·trivial
 ·obtain⟨b,n,arr,q1,q2,q3,q4⟩:=h
  exact⟨b,n,arr,he.trans q1,q2,MEs.congr (oT _ _) _ _ _ (fun k hk=>(hp k hk).elim) q3,q4⟩
 ·cases own with
  | true =>
   rcases h with⟨h1,h2⟩ | ⟨b,vs,rest,ty,h1,h2,h3,h4⟩
   ·exact .inl ⟨he.trans h1,hn h2⟩
   ·exact .inr ⟨b,vs,rest,ty,he.trans h1,h2,hr ρ vs h3,h4⟩
  | false =>
   rcases h with⟨h1,h2⟩ | ⟨b,o,m,vs,h1,h2,h3,h4⟩
   ·exact .inl ⟨he.trans h1,hn h2⟩
   ·exact .inr ⟨b,o,m,vs,he.trans h1,h2,hr ρ vs h3,h4⟩
theorem aAp {R:List Nat} {x y:BK} (hx:yT R x=some y)(hp:x.pl)(h:y.own):x.own:=by
 rcases pQ hx hp with⟨rfl,rfl⟩ | ⟨es,rfl,rfl⟩ | ⟨own,sym,cells,l,rfl,rfl,_⟩
 ·exact h
 ·exact h
 ·cases own<;>exact h
theorem aKd {R:List Nat} {x y:BK} (hx:yT R x=some y)(hp:x.pl):y≠.un/\y.pl:=by
 rcases pQ hx hp with⟨rfl,rfl⟩ | ⟨es,rfl,rfl⟩ | ⟨own,sym,cells,l,rfl,rfl,_,_,_,h⟩
 ·exact⟨by simp,trivial⟩
 ·exact⟨by simp,hp⟩
 ·exact⟨by simp,h⟩
theorem Rep.shrink {N:Nat} {ρ:Env} {a:Act} {W:World} {s s':LS} {ts ks:List Nat} (h:Rep cx N D ρ s.fs a W)(hs:Aw.shrink cx.base ts ks s=some s') :
 Rep cx N D (jA ρ (List.range cx.base++ks)) s'.fs a W/\s'.sl.length=s.sl.length:=by
 unfold Aw.shrink at hs
 simp only at hs
 split at hs
 ·rename_i sl bk hsl hbk
  split at hs
  ·rename_i hnd
   simp only [bG] at hs
   subst hs
   obtain⟨l1,l2⟩:=aAn (ρ:=ρ) _ _ _ hsl
   obtain⟨b1,b2⟩:=aAo _ _ hbk
   have hnun:∀j,j < (List.range cx.base++ks).length->bk.getD j .un≠.un:=fun j hj=>by
    have hlt:j < bk.length:=by rw [b1];exact hj
    obtain⟨k,_,hk⟩:=b2 j bk[j] (by simp [hlt])
    rw [show bk.getD j .un=bk[j] by simp [fP,hlt]]
    exact(aKd hk (h.pl k)).1
   have get:∀j,(∃k,(List.range cx.base++ks)[j]? = some k/\yT (List.range cx.base++ks) (s.fs.bk k)=some (bk.getD j .un))\/bk.getD j .un=.un:=fun j=>by
    cases hj:bk[j]? with
    | none=>exact .inr (by simp [fP,hj])
    | some y =>
     obtain⟨k,h1,h2⟩:=b2 j y hj
     exact .inl ⟨k,h1,by rw [show bk.getD j .un=y by simp [fP,hj]];exact h2⟩
   have hplg:∀j,(bk.getD j .un).pl:=fun j=>by
    rcases get j with⟨k,_,h2⟩ | h0
    ·exact(aKd h2 (h.pl k)).2
    ·rw [h0];trivial
   refine⟨{ defs:=h.defs,size:=h.size,sl:=fun t=>?_,bk:=fun j=>?_,apart:=fun i j b m b' m' hij hi hj e1 e2=>?_,wf1:=fun t k hk=>?_,wf2:=fun j k hk=>?_,kept:=h.kept,pl:=hplg,old:=fun i hi=>⟨?_,?_⟩,fzn:=fun b o ho=>⟨(h.fzn b o ho).1,fun j m hj e1=>?_,(h.fzn b o ho).2.2⟩,fzo:=h.fzo },l1⟩
   ·simp only [LS.fs]
    cases ht:sl[t]? with
    | none=>simp [fP,ht,Rel]
    | some y =>
     rw [show sl.getD t .u=y by simp [fP,ht]]
     rcases l2 t y ht with rfl | ⟨x,hx,hr⟩
     ·simp [Rel]
     ·have:=h.sl t
      simp only [LS.fs,fP,hx,Option.getD_some] at this
      exact aDk x y _ hr this
   ·simp only [LS.fs]
    rcases get j with⟨k,h1,h2⟩ | h0
    ·exact aNj h1 h2 (h.pl k) (h.bk k)
    ·rw [h0];trivial
   ·simp only [LS.fs] at hi hj
    rcases get i with⟨k1,g1,g2⟩ | h0
    ·rcases get j with⟨k2,q1,q2⟩ | h0
     ·rw [dK g1] at e1
      rw [dK q1] at e2
      refine h.apart k1 k2 b m b' m' (fun e=>hij ?_) (aAp g2 (h.pl k1) hi) (aAp q2 (h.pl k2) hj) e1 e2
      subst e
      exact lN hnd i j k1 g1 q1
     ·rw [h0] at hj;exact hj.elim
    ·rw [h0] at hi;exact hi.elim
   ·simp only [LS.fs] at hk
    cases ht:sl[t]? with
    | none=>rw [fP,ht] at hk;simp [SV.has] at hk
    | some y =>
     rw [show sl.getD t .u=y by simp [fP,ht]] at hk
     rcases l2 t y ht with rfl | ⟨x,hx,hr⟩
     ·simp [SV.has] at hk
     ·exact hnun k (aKc x y hr hk)
   ·simp only [LS.fs] at hk
    rcases get j with⟨k1,g1,g2⟩ | h0
    ·refine hnun k ?_
     rcases pQ g2 (h.pl k1) with⟨e1,e2⟩ | ⟨es,e1,e2⟩ | ⟨own,sym,cells,l,e1,e2,_,_,hl,_⟩
     ·rw [e2] at hk;exact hk.elim
     ·have hp:=h.pl k1
      rw [e1] at hp
      rw [e2] at hk;exact(hp k hk).elim
     ·rw [e2] at hk;exact hl k hk
    ·rw [h0] at hk;exact hk.elim
   ·have:(List.range cx.base++ks)[i]? = some i:=by
     rw [List.getElem?_append_left (by simpa using hi)];simp [hi]
    rw [dK this]
    exact(h.old i hi).1
   ·simp only [LS.fs]
    exact hnun i (by simp;omega)
   ·simp only [LS.fs] at hj
    rcases get j with⟨k,g1,g2⟩ | h0
    ·rw [dK g1] at e1
     exact(h.fzn b o ho).2.1 k m (aAp g2 (h.pl k) hj) e1
    ·rw [h0] at hj;exact hj.elim
  ·cases hs
 ·cases hs
theorem rF {k:List K} {s s':LS} {ts ks:List Nat} {base:Nat} (hb:cx.base=base)(hs:Aw.shrink base ts ks s=some s')(h:Good P r n Q cx D k s'):Good P r n Q cx D k s:=by
 subst hb
 intro ρ a W hrep
 obtain⟨h1,h2⟩:=hrep.shrink hs
 exact h _ a W (by rw [h2];exact h1)
def tQ:List Nat->List Nat->Code->List K->Option (Code×List K)
 | p,ms,.seq a b,k=>match p with
  | 0::p=>tQ p ms a (.c b::k)
  | _::p=>tQ p ms b k
  | []=>none
 | p,ms,.block id c,k=>tQ p ms c (.b id::k)
 | p,ms,.cond _ a b,k=>match p with
  | 0::p=>tQ p ms a k
  | _::p=>tQ p ms b k
  | []=>none
 | p,ms,.loop body,k=>match p,ms with
  | [],_=>some (body,k)
  | _::p,m::ms=>tQ p ms body (.l body m::k)
  | _::_,[]=>none
 | _,_,_,_=>none
end
end Go.Aw
namespace Go.Aw
open Go.RowKit
section
variable {P : Program} {T : Nat → Option TI} {cx : Cx} {N : Nat} {D : List Deferred} {ρ : Env} {s : FS} {a : Act} {W : World}
theorem Rep.none (h:Rep cx N D ρ s a W) {k:Nat} (hk:s.bk k=.un):Rep cx N D (ρ.set k Option.none) ⟨s.sl,fun j=>if j=k then .live true true [] else s.bk j⟩ a W:=by
 have hle:=ρ.le_set k Option.none
 have hne:∀j,s.bk j≠.un->(ρ.set k Option.none) j=ρ j:=fun j hj=>if_neg (fun e=>hj (by rw [e];exact hk))
 have hun:∀j,s.bk j≠.un->(if j=k then BK.live true true [] else s.bk j)≠.un:=fun j hj=>by
  split
  ·simp
  ·exact hj
 have hpl:∀j,(if j=k then BK.live true true [] else s.bk j).pl:=fun j=>by
  split
  ·intro i hi;simp [SV.hasl] at hi
  ·exact h.pl j
 refine { pl:=hpl,defs:=h.defs,size:=h.size,sl:=fun t=>Rel.congr hle _ _ (fun j hj=>hne j (h.wf1 t j hj)) (h.sl t),bk:=fun j=>?_,apart:=fun i j b n b' n' hij hi hj e1 e2=>?_,wf1:=fun t j hj=>hun j (h.wf1 t j hj),wf2:=fun i j hj=>?_,kept:=h.kept,old:=fun i hi=>⟨(hne i (h.old i hi).2).trans (h.old i hi).1,hun i (h.old i hi).2⟩,fzn:=fun c o ho=>⟨(h.fzn c o ho).1,fun j m hj e1=>?_,(h.fzn c o ho).2.2⟩,fzo:=h.fzo }
 ·by_cases hj:j=k
  ·subst hj;simp only [if_true];exact .inl ⟨by simp,rfl⟩
  ·simp only [hj,if_false]
   exact BRep.congr hle (by simp [hj]) (fun i hi=>hne i (h.wf2 j i hi)) (h.bk j)
 ·simp only [Env.set_loc] at e1 e2
  by_cases hik:i=k
  ·simp [hik] at e1
  ·by_cases hjk:j=k
   ·simp [hjk] at e2
   ·simp only [hik,hjk,if_false] at hi hj e1 e2
    exact h.apart i j b n b' n' hij hi hj e1 e2
 ·by_cases hik:i=k
  ·simp [hik,BK.has,SV.hasl] at hj
  ·simp only [hik,if_false] at hj
   exact hun j (h.wf2 i j hj)
 ·simp only [Env.set_loc] at e1
  by_cases hjk:j=k
  ·simp [hjk] at e1
  ·simp only [hjk,if_false] at hj e1
   exact(h.fzn c o ho).2.1 j m hj e1
theorem Rep.rename (h:Rep cx N D ρ s a W) {k fr:Nat} (hfr:s.bk fr=.un)(hk:s.bk k≠.un):Rep cx N D (ρ.set fr (ρ k)) ⟨s.sl,fun j=>if j=fr then s.bk k else if j=k then .dead else s.bk j⟩ a W:=by
 have hkf:k≠fr:=fun e=>hk (by rw [e];exact hfr)
 have hle:=ρ.le_set fr (ρ k)
 have hne:∀j,s.bk j≠.un->(ρ.set fr (ρ k)) j=ρ j:=fun j hj=>if_neg (fun e=>hj (by rw [e];exact hfr))
 have hun:∀j,s.bk j≠.un->(if j=fr then s.bk k else if j=k then BK.dead else s.bk j)≠.un:=fun j hj=>by
  split
  ·exact hk
  ·split
   ·simp
   ·exact hj
 have hat:(ρ.set fr (ρ k)) fr=ρ k:=if_pos rfl
 have back:∀i,(if i=fr then s.bk k else if i=k then BK.dead else s.bk i).own->(i=fr/\(s.bk k).own)\/(i≠fr/\i≠k/\(s.bk i).own):=fun i hi=>by
  by_cases h1:i=fr
  ·rw [if_pos h1] at hi;exact .inl ⟨h1,hi⟩
  ·rw [if_neg h1] at hi
   by_cases h2:i=k
   ·rw [if_pos h2] at hi;exact hi.elim
   ·rw [if_neg h2] at hi;exact .inr ⟨h1,h2,hi⟩
 refine { defs:=h.defs,size:=h.size,sl:=fun t=>Rel.congr hle _ _ (fun j hj=>hne j (h.wf1 t j hj)) (h.sl t),bk:=fun j=>?_,apart:=fun i j b n b' n' hij hi hj e1 e2=>?_,wf1:=fun t j hj=>hun j (h.wf1 t j hj),wf2:=fun i j hj=>?_,kept:=h.kept,pl:=fun j=>?_,old:=fun i hi=>⟨(hne i (h.old i hi).2).trans (h.old i hi).1,hun i (h.old i hi).2⟩,fzn:=fun b o ho=>⟨(h.fzn b o ho).1,fun i n hi e1=>?_,(h.fzn b o ho).2.2⟩,fzo:=h.fzo }
 ·by_cases h1:j=fr
  ·subst h1
   simp only [if_true]
   have hc:∀{x:BK},s.bk k=x->BRep ρ cx.mine W k x->BRep (ρ.set j (ρ k)) cx.mine W j x:=fun {x} hx hb=>by
    have hh:∀i,x.has i->(ρ.set j (ρ k)) i=ρ i:=fun i hi=>hne i (h.wf2 k i (by rw [hx];exact hi))
    cases x with
    | un=>trivial
    | dead=>trivial
    | live own sym cells =>
     cases own with
     | true =>
      rcases hb with hb | ⟨b,vs,rest,ty,h1,h2,h3,h4⟩
      ·exact .inl ⟨hat.trans hb.1,hb.2⟩
      ·exact .inr ⟨b,vs,rest,ty,hat.trans h1,h2,Rels.congr hle _ _ hh h3,h4⟩
     | false =>
      rcases hb with hb | ⟨b,o,n,vs,h1,h2,h3,h4⟩
      ·exact .inl ⟨hat.trans hb.1,hb.2⟩
      ·exact .inr ⟨b,o,n,vs,hat.trans h1,h2,Rels.congr hle _ _ hh h3,h4⟩
    | map es =>
     obtain⟨b,n,arr,h1,h2,h3,h4⟩:=hb
     exact⟨b,n,arr,hat.trans h1,h2,MEs.congr hle _ _ _ hh h3,h4⟩
   exact hc rfl (h.bk k)
  ·simp only [h1,if_false]
   by_cases h2:j=k
   ·simp only [h2,if_true];trivial
   ·simp only [h2,if_false]
    exact BRep.congr hle (if_neg h1) (fun i hi=>hne i (h.wf2 j i hi)) (h.bk j)
 ·rcases back i hi with⟨e3,o3⟩ | ⟨e3,e3',o3⟩
  ·rcases back j hj with⟨e4,o4⟩ | ⟨e4,e4',o4⟩
   ·exact absurd (e3.trans e4.symm) hij
   ·rw [e3,hat] at e1
    rw [show(ρ.set fr (ρ k)) j=ρ j from if_neg e4] at e2
    exact h.apart k j b n b' n' (fun e=>e4' e.symm) o3 o4 e1 e2
  ·rcases back j hj with⟨e4,o4⟩ | ⟨e4,e4',o4⟩
   ·rw [e4,hat] at e2
    rw [show(ρ.set fr (ρ k)) i=ρ i from if_neg e3] at e1
    exact h.apart i k b n b' n' e3' o3 o4 e1 e2
   ·rw [show(ρ.set fr (ρ k)) i=ρ i from if_neg e3] at e1
    rw [show(ρ.set fr (ρ k)) j=ρ j from if_neg e4] at e2
    exact h.apart i j b n b' n' hij o3 o4 e1 e2
 ·refine hun j ?_
  by_cases h1:i=fr
  ·simp only [h1,if_true] at hj;exact h.wf2 k j hj
  ·simp only [h1,if_false] at hj
   by_cases h2:i=k
   ·simp only [h2,if_true] at hj;exact hj.elim
   ·simp only [h2,if_false] at hj;exact h.wf2 i j hj
 ·show(if j=fr then s.bk k else if j=k then BK.dead else s.bk j).pl
  split
  ·exact h.pl k
  ·split
   ·trivial
   ·exact h.pl j
 ·rcases back i hi with⟨e3,o3⟩ | ⟨e3,e3',o3⟩
  ·rw [e3,hat] at e1
   exact(h.fzn b o ho).2.1 k n o3 e1
  ·rw [show(ρ.set fr (ρ k)) i=ρ i from if_neg e3] at e1
   exact(h.fzn b o ho).2.1 i n o3 e1
theorem Rels.set {l:List SV} {m:List Value} {i:Nat} {x x':SV} (h:Rels ρ l m)(hx:l[i]? = some x)(hs:∀y,Rel ρ x y->Rel ρ x' y):Rels ρ (l.set i x') m:=by
 induction l generalizing m i with
 | nil=>simp at hx
 | cons z l ih =>
  cases m with
  | nil=>simp [Rels] at h
  | cons y m =>
   simp only [Rels] at h
   cases i with
   | zero=>simp at hx;subst hx;simp only [List.set_cons_zero,Rels];exact⟨hs y h.1,h.2⟩
   | succ i=>simp at hx;simp only [List.set_cons_succ,Rels];exact⟨h.1,ih h.2 hx⟩
theorem aGl {k i:Nat} {x:SV} {l:List SV} (h:SV.hasl k (l.set i x)):SV.hasl k l\/x.has k:=by
 rw [eE] at h
 obtain⟨y,hy,hk⟩:=h
 rcases List.mem_or_eq_of_mem_set hy with hy | rfl
 ·exact .inl (eE.2 ⟨y,hy,hk⟩)
 ·exact .inr hk
inductive Adj where
 | slot (t es:Nat)
 | cell (k i es:Nat)
 | sym (k:Nat) (b:Bool)
 | kill (k:Nat)
 | mv (k i:Nat)
def aIh:Adj->LS->Option LS
 | .slot t es,s=>match s.sl[t]? with
  | some (.v (.slice none 0 0))=>some ⟨s.sl.set t (.s s.bk.length 0 0 es),s.bk++[.live true true []]⟩
  | _=>none
 | .cell k i es,s=>match s.bk[k]? with
  | some (.live own false cells)=>match cells[i]? with
   | some (.v (.slice none 0 0))=>some ⟨s.sl,s.bk.set k (.live own false (cells.set i (.s s.bk.length 0 0 es)))++[.live true true []]⟩
   | _=>none
  | _=>none
 | .sym k b,s=>match s.bk[k]? with
  | some (.live own _ cells)=>if(!b || cells.all SV.plain)=true then some ⟨s.sl,s.bk.set k (.live own b cells)⟩ else none
  | _=>none
 | .kill k,s=>match s.bk[k]? with
  | some (.live own _ cells)=>some ⟨s.sl,s.bk.set k .dead⟩
  | _=>none
 | .mv k i,s=>match s.bk[k]? with
  | some (.live own false cells)=>match cells[i]? with
   | some (.s j off len es)=>match s.bk[j]? with
    | some (.live true sym cj)=>if j=k then none else some ⟨s.sl,((s.bk.set j .dead).set k (.live own false (cells.set i (.s s.bk.length off len es))))++[.live true sym cj]⟩
    | _=>none
   | _=>none
  | _=>none
def rG:List Adj->LS->Option LS
 | [],s=>some s
 | x::l,s=>match aIh x s with
  | some s=>rG l s
  | none=>none
theorem dT {l:List BK} {x:BK} {j:Nat}:(l++[x]).getD j .un=if j=l.length then x else l.getD j .un:=by
 simp only [fP]
 by_cases hj:j=l.length
 ·subst hj;simp
 ·rw [if_neg hj]
  by_cases hlt:j < l.length
  ·rw [List.getElem?_append_left hlt]
  ·rw [List.getElem?_eq_none (by simp;omega),List.getElem?_eq_none (by omega)]
theorem eT {l:List BK} {k j:Nat} {x:BK} (hk:k < l.length):(l.set k x).getD j .un=if j=k then x else l.getD j .un:=by
 simp only [fP,List.getElem?_set]
 by_cases hj:j=k
 ·subst hj;simp [hk]
 ·rw [if_neg hj,if_neg (fun e=>hj e.symm)]
theorem aQl {s s':LS} {x:Adj} (h:aIh x s=some s')(hr:Rep cx N D ρ s.fs a W):∃ρ',Rep cx N D ρ' s'.fs a W/\s'.sl.length=s.sl.length:=by
 have hfree:s.fs.bk s.bk.length=.un:=rE (Nat.le_refl _)
 cases x with
 | slot t es =>
  simp only [aIh] at h
  split at h
  ·rename_i ht
   simp only [bG] at h;subst h
   have h1:=hr.none hfree
   refine⟨_,h1.sub _ (fun u y hy=>?_) (fun k hk=>?_) (fun k hk=>?_) (fun k hk=>?_) (fun u k hk=>?_) (fun j k hk=>?_) (fun k=>?_),by simp⟩
   ·simp only [LS.fs,fP,List.getElem?_set] at hy ⊢
    by_cases hu:t=u
    ·subst hu
     have hlt:=(List.getElem?_eq_some_iff.1 ht).1
     rw [ht] at hy
     simp only [Option.getD_some,Rel] at hy
     subst hy
     simp [hlt,Rel]
    ·simpa [hu] using hy
   ·simp only [LS.fs,dT] at hk ⊢
    exact hk
   ·simp only [LS.fs,dT] at hk ⊢
    exact hk
   ·simp only [LS.fs,dT] at hk ⊢
    exact hk
   ·simp only [LS.fs,dT]
    simp only [LS.fs,fP,List.getElem?_set] at hk
    by_cases hu:t=u
    ·subst hu
     have hlt:=(List.getElem?_eq_some_iff.1 ht).1
     simp [hlt,SV.has] at hk
     rw [if_pos hk.symm];simp
    ·simp only [hu,if_false] at hk
     refine h1.wf1 u k ?_
     simp only [LS.fs,fP]
     exact hk
   ·simp only [LS.fs,dT] at hk ⊢
    have:=h1.wf2 j k
    simp only [LS.fs] at this
    exact this hk
   ·simp only [LS.fs,dT]
    exact h1.pl k
  ·cases h
 | cell k0 i es =>
  simp only [aIh] at h
  split at h
  ·rename_i own cells hb
   split at h
   ·rename_i hi
    simp only [bG] at h;subst h
    have h1:=hr.none hfree
    have hlt:=(List.getElem?_eq_some_iff.1 hb).1
    have hk0:s.bk.getD k0 .un=.live own false cells:=by simp [fP,hb]
    have hg:∀j,(s.bk.set k0 (.live own false (cells.set i (.s s.bk.length 0 0 es)))++[BK.live true true []]).getD j .un=if j=s.bk.length then .live true true [] else if j=k0 then .live own false (cells.set i (.s s.bk.length 0 0 es)) else s.bk.getD j .un:=fun j=>by
     rw [dT,List.length_set,eT hlt]
    have hun:∀k,(if k=s.bk.length then BK.live true true [] else s.bk.getD k .un)≠.un->(if k=s.bk.length then BK.live true true [] else if k=k0 then .live own false (cells.set i (.s s.bk.length 0 0 es)) else s.bk.getD k .un)≠.un:=fun k hk=>by
     by_cases h':k=s.bk.length
     ·rw [if_pos h'];simp
     ·rw [if_neg h'] at hk ⊢
      by_cases h'':k=k0
      ·rw [if_pos h''];simp
      ·rw [if_neg h''];exact hk
    have hsub:∀y,Rel (ρ.set s.bk.length Option.none) (.v (.slice Option.none 0 0)) y->Rel (ρ.set s.bk.length Option.none) (.s s.bk.length 0 0 es) y:=fun y hy=>by
     simp only [Rel] at hy ⊢;subst hy;simp
    refine⟨_,h1.sub _ (fun u y hy=>hy) (fun k hk=>?_) (fun k hk=>?_) (fun k hk=>?_) (fun u k hk=>?_) (fun j k hk=>?_) (fun k=>?_),rfl⟩
    ·simp only [LS.fs] at hk ⊢
     rw [hg]
     by_cases h':k=s.bk.length
     ·simp only [h',if_true] at hk ⊢;exact hk
     ·simp only [h',if_false] at hk ⊢
      by_cases h'':k=k0
      ·subst h''
       rw [hk0] at hk
       simp only [if_true]
       cases own with
       | true =>
        rcases hk with⟨q1,q2⟩ | ⟨b,vs,rest,ty,q1,q2,q3,q4⟩
        ·rw [q2] at hi;simp at hi
        ·exact .inr ⟨b,vs,rest,ty,q1,q2,q3.set hi hsub,q4⟩
       | false =>
        rcases hk with⟨q1,q2⟩ | ⟨b,o,n,vs,q1,q2,q3,q4⟩
        ·rw [q2] at hi;simp at hi
        ·exact .inr ⟨b,o,n,vs,q1,q2,q3.set hi hsub,q4⟩
      ·simp only [h'',if_false];exact hk
    ·simp only [LS.fs] at hk ⊢
     rw [hg] at hk
     by_cases h':k=s.bk.length
     ·simp only [h',if_true];trivial
     ·simp only [h',if_false] at hk ⊢
      by_cases h'':k=k0
      ·subst h'';simp only [if_true] at hk;rw [hk0];cases own<;>exact hk
      ·simp only [h'',if_false] at hk;exact hk
    ·simp only [LS.fs] at hk ⊢
     rw [hg];exact hun k hk
    ·simp only [LS.fs] at hk ⊢
     rw [hg];exact hun k (h1.wf1 u k hk)
    ·simp only [LS.fs] at hk ⊢
     rw [hg] at hk ⊢
     refine hun k ?_
     by_cases h':j=s.bk.length
     ·simp [h',BK.has,SV.hasl] at hk
     ·simp only [h',if_false] at hk
      by_cases h'':j=k0
      ·subst h''
       simp only [if_true,BK.has] at hk
       rcases aGl hk with hk | hk
       ·refine h1.wf2 j k ?_
        simp only [LS.fs,h',if_false,hk0,BK.has];exact hk
       ·simp only [SV.has] at hk;rw [if_pos hk.symm];simp
      ·simp only [h'',if_false] at hk
       refine h1.wf2 j k ?_
       simp only [LS.fs,h',if_false];exact hk
    ·simp only [LS.fs]
     rw [hg]
     have:=h1.pl k
     simp only [LS.fs] at this
     by_cases h':k=s.bk.length
     ·simp only [h',if_true] at this ⊢;exact this
     ·simp only [h',if_false] at this ⊢
      by_cases h'':k=k0
      ·simp only [h'',if_true];trivial
      ·simp only [h'',if_false];exact this
   ·cases h
  ·cases h
 | sym k0 b0 =>
  simp only [aIh] at h
  split at h
  ·rename_i own sym cells hb
   split at h
   case isFalse=>cases h
   rename_i hpb
   simp only [bG] at h;subst h
   have hlt:=(List.getElem?_eq_some_iff.1 hb).1
   have hk0:s.bk.getD k0 .un=.live own sym cells:=by simp [fP,hb]
   have hun:∀k,s.bk.getD k .un≠.un->(if k=k0 then BK.live own b0 cells else s.bk.getD k .un)≠.un:=fun k hk=>by
    split
    ·simp
    ·exact hk
   refine⟨ρ,hr.sub _ (fun u y hy=>hy) (fun k hk=>?_) (fun k hk=>?_) (fun k hk=>?_) (fun u k hk=>?_) (fun j k hk=>?_) (fun k=>?_),rfl⟩
   ·simp only [LS.fs] at hk ⊢
    rw [eT hlt]
    by_cases h'':k=k0
    ·subst h'';rw [hk0] at hk;simp only [if_true];cases own<;>exact hk
    ·simp only [h'',if_false];exact hk
   ·simp only [LS.fs] at hk ⊢
    rw [eT hlt] at hk
    by_cases h'':k=k0
    ·subst h'';simp only [if_true] at hk;rw [hk0];cases own<;>exact hk
    ·simp only [h'',if_false] at hk;exact hk
   ·simp only [LS.fs] at hk ⊢
    rw [eT hlt];exact hun k hk
   ·simp only [LS.fs] at hk ⊢
    rw [eT hlt];exact hun k (hr.wf1 u k hk)
   ·simp only [LS.fs] at hk ⊢
    rw [eT hlt] at hk ⊢
    refine hun k (hr.wf2 j k ?_)
    simp only [LS.fs]
    by_cases h'':j=k0
    ·subst h'';simp only [if_true] at hk;rw [hk0];exact hk
    ·simp only [h'',if_false] at hk;exact hk
   ·simp only [LS.fs]
    rw [eT hlt]
    split
    ·cases b0 with
     | false=>trivial
     | true=>exact kR (by simpa using hpb)
    ·exact hr.pl k
  ·cases h
 | kill k0 =>
  simp only [aIh] at h
  split at h
  ·rename_i own sym cells hb
   simp only [bG] at h;subst h
   have hlt:=(List.getElem?_eq_some_iff.1 hb).1
   have hk0:s.fs.bk k0≠.un:=by simp [LS.fs,fP,hb]
   have h1:=hr.kill k0 hk0
   refine⟨ρ,?_,rfl⟩
   have e:s.fs.app none { val:=.u,ups:=[(k0,.dead)] }=(⟨s.sl,s.bk.set k0 .dead⟩:LS).fs:=by
    simp only [FS.app,LS.fs,cW]
    congr 1
    funext k
    rw [eT hlt]
   rw [←e];exact h1
  ·cases h
 | mv k0 i =>
  simp only [aIh] at h
  split at h
  ·rename_i own cells hb
   split at h
   ·rename_i j off len es hi
    split at h
    ·rename_i sym cj hbj
     split at h
     ·cases h
     ·rename_i hjk
      simp only [bG] at h;subst h
      have hlt:=(List.getElem?_eq_some_iff.1 hb).1
      have hltj:=(List.getElem?_eq_some_iff.1 hbj).1
      have hk0:s.bk.getD k0 .un=.live own false cells:=by simp [fP,hb]
      have hkj:s.bk.getD j .un=.live true sym cj:=by simp [fP,hbj]
      have h1:=hr.rename hfree (k:=j) (by show s.bk.getD j .un≠.un;rw [hkj];simp)
      have hat:(ρ.set s.bk.length (ρ j)) s.bk.length=ρ j:=if_pos rfl
      have hatj:(ρ.set s.bk.length (ρ j)) j=ρ j:=if_neg (by omega)
      have hg:∀q,(((s.bk.set j .dead).set k0 (.live own false (cells.set i (.s s.bk.length off len es))))++[BK.live true sym cj]).getD q .un=if q=s.bk.length then .live true sym cj else if q=k0 then .live own false (cells.set i (.s s.bk.length off len es)) else if q=j then .dead else s.bk.getD q .un:=fun q=>by
       rw [dT,List.length_set,List.length_set,eT (by rw [List.length_set];exact hlt),eT hltj]
      have hb1:∀q,(if q=s.bk.length then s.fs.bk j else if q=j then BK.dead else s.fs.bk q)=if q=s.bk.length then .live true sym cj else if q=j then .dead else s.bk.getD q .un:=fun q=>by
       simp only [LS.fs,hkj]
      have hk0n:k0≠s.bk.length:=by omega
      have hun:∀q,(if q=s.bk.length then BK.live true sym cj else if q=j then .dead else s.bk.getD q .un)≠.un->(if q=s.bk.length then BK.live true sym cj else if q=k0 then .live own false (cells.set i (.s s.bk.length off len es)) else if q=j then .dead else s.bk.getD q .un)≠.un:=fun q hq=>by
       by_cases h':q=s.bk.length
       ·rw [if_pos h'];simp
       ·rw [if_neg h'] at hq ⊢
        by_cases h'':q=k0
        ·rw [if_pos h''];simp
        ·rw [if_neg h''];exact hq
      have hsub:∀y,Rel (ρ.set s.bk.length (ρ j)) (.s j off len es) y->Rel (ρ.set s.bk.length (ρ j)) (.s s.bk.length off len es) y:=fun y hy=>by
       simp only [Rel] at hy ⊢
       rw [hatj] at hy
       rw [hat];exact hy
      refine⟨_,h1.sub _ (fun u y hy=>hy) (fun q hq=>?_) (fun q hq=>?_) (fun q hq=>?_) (fun u q hq=>?_) (fun p q hq=>?_) (fun q=>?_),rfl⟩
      ·simp only [LS.fs] at hq ⊢
       simp only [hkj] at hq
       rw [hg]
       by_cases h':q=s.bk.length
       ·simp only [h',if_true] at hq ⊢;exact hq
       ·simp only [h',if_false] at hq ⊢
        by_cases h'':q=k0
        ·subst h''
         rw [if_neg (fun e=>hjk e.symm),hk0] at hq
         simp only [if_true]
         cases own with
         | true =>
          rcases hq with⟨q1,q2⟩ | ⟨b,vs,rest,ty,q1,q2,q3,q4⟩
          ·rw [q2] at hi;simp at hi
          ·exact .inr ⟨b,vs,rest,ty,q1,q2,q3.set hi hsub,q4⟩
         | false =>
          rcases hq with⟨q1,q2⟩ | ⟨b,o,n,vs,q1,q2,q3,q4⟩
          ·rw [q2] at hi;simp at hi
          ·exact .inr ⟨b,o,n,vs,q1,q2,q3.set hi hsub,q4⟩
        ·simp only [h'',if_false];exact hq
      ·simp only [LS.fs] at hq ⊢
       simp only [hkj]
       rw [hg] at hq
       by_cases h':q=s.bk.length
       ·simp only [h',if_true] at hq ⊢;exact hq
       ·simp only [h',if_false] at hq ⊢
        by_cases h'':q=k0
        ·subst h''
         rw [if_neg (fun e=>hjk e.symm),hk0]
         simp only [if_true] at hq;cases own<;>exact hq
        ·simp only [h'',if_false] at hq;exact hq
      ·simp only [LS.fs] at hq ⊢
       simp only [hkj] at hq
       rw [hg];exact hun q hq
      ·have:=h1.wf1 u q hq
       simp only [LS.fs] at this ⊢
       simp only [hkj] at this
       rw [hg];exact hun q this
      ·simp only [LS.fs] at hq ⊢
       rw [hg] at hq ⊢
       have w2:=h1.wf2 p q
       simp only [LS.fs,hkj] at w2
       refine hun q ?_
       by_cases h':p=s.bk.length
       ·simp only [h',if_true] at hq w2;exact w2 hq
       ·simp only [h',if_false] at hq w2
        by_cases h'':p=k0
        ·subst h''
         rw [if_neg (fun e=>hjk e.symm),hk0] at w2
         simp only [if_true,BK.has] at hq
         rcases aGl hq with hq | hq
         ·exact w2 hq
         ·simp only [SV.has] at hq;rw [if_pos hq.symm];simp
        ·simp only [h'',if_false] at hq;exact w2 hq
      ·simp only [LS.fs]
       rw [hg]
       have:=h1.pl q
       simp only [LS.fs,hkj] at this
       by_cases h':q=s.bk.length
       ·simp only [h',if_true] at this ⊢;exact this
       ·simp only [h',if_false] at this ⊢
        by_cases h'':q=k0
        ·simp only [h'',if_true];trivial
        ·simp only [h'',if_false];exact this
    ·cases h
   ·cases h
  ·cases h
theorem yX:∀(l:List Adj) {s s':LS} {ρ:Env},rG l s=some s'->Rep cx N D ρ s.fs a W->∃ρ',Rep cx N D ρ' s'.fs a W/\s'.sl.length=s.sl.length
 | [],s,s',ρ,h,hr=>by simp only [rG,bG] at h;subst h;exact⟨ρ,hr,rfl⟩
 | x::l,s,s',ρ,h,hr=>by
  simp only [rG] at h
  split at h
  ·rename_i s1 h1
   obtain⟨ρ1,r1,e1⟩:=aQl h1 hr
   obtain⟨ρ2,r2,e2⟩:=yX l h r1
   exact⟨ρ2,r2,e2.trans e1⟩
  ·cases h
def oV (l:List Adj):Option (Out×List Ob×List Or)->Option (Out×List Ob×List Or)
 | some (.ret s,obs,orc)=>match rG l s with
  | some s=>some (.ret s,obs,orc)
  | none=>none
 | some (.norm s,obs,orc)=>match rG l s with
  | some s=>some (.norm s,obs,orc)
  | none=>none
 | some (.enter body k s,obs,orc)=>match rG l s with
  | some s=>some (.enter body k s,obs,orc)
  | none=>none
 | some (.back body m k s,obs,orc)=>match rG l s with
  | some s=>some (.back body m k s,obs,orc)
  | none=>none
 | some (.at x k s,obs,orc)=>match rG l s with
  | some s=>some (.at x k s,obs,orc)
  | none=>none
 | none=>none
end
section
variable {P : Program} {T : Nat → Option TI} {cx : Cx} {D : List Deferred} {r : Option Nat} {n : Nat} {Q : Exit → Act → World → Prop}
theorem aIi {e:Exit} {l:List Adj} {s s':LS} (h:rG l s=some s')(hg:aAj Q e cx D s'):aAj Q e cx D s:=fun ρ a W hr=>by
 obtain⟨ρ',r',e'⟩:=yX l h hr
 exact hg ρ' a W (by rw [e'];exact r')
theorem aGm {k:List K} {l:List Adj} {s s':LS} (h:rG l s=some s')(hg:Good P r n Q cx D k s'):Good P r n Q cx D k s:=fun ρ a W hr=>by
 obtain⟨ρ',r',e'⟩:=yX l h hr
 exact hg ρ' a W (by rw [e'];exact r')
theorem uY {l:List Adj} {x:Option (Out×List Ob×List Or)} {o:Out} {obs:List Ob} {orc:List Or} (h:oV l x=some (o,obs,orc)):∃o',x=some (o',obs,orc)/\(aDp P r n Q cx D o->aDp P r n Q cx D o'):=by
 unfold oV at h
 split at h
 all_goals first | (cases h;done) | skip
 all_goals
  split at h
  ·rename_i s2 hs
   simp only [bG,eV] at h
   obtain⟨rfl,rfl,rfl⟩:=h
   refine⟨_,rfl,fun hg=>?_⟩
   first
    | exact aIi hs hg
    | exact aGm hs hg
    | exact⟨hg.choose,aGm hs hg.choose_spec⟩
  ·cases h
theorem aNk (hT:nI P T)(hm:P.follows .mixedOrders=true) {fn:Func} {f:Nat} {k:List K} {s:LS} {orc:List Or} (ads:List Adj)(ms ks:List Nat) {base:Nat} (hb:cx.base=base) {res:SV} {nb mb:List BK} {obs:List Ob}
 (h:aGi T fn.results.toList base ms ks (oV ads (run T f k s orc))=some (res,nb,mb,obs)) (hob:Obs P obs):Good P none n (bodyPost P fn (RR cx res nb mb)) cx [] k s:=by
 subst hb
 unfold aGi at h
 split at h
 ·rename_i s' obs' hrun
  split at h
  ·rename_i res' nb' mb' hf
   simp only [bG,eV] at h
   obtain⟨rfl,rfl,rfl,rfl⟩:=h
   obtain⟨o',hr,hg⟩:=uY (P:=P) (r:=none) (n:=n) (Q:=bodyPost P fn (RR cx res' nb' mb')) (cx:=cx) (D:=[]) hrun
   exact iE hT hm f k s orc _ _ _ hr hob (hg (aNi hT hf))
  ·cases h
 ·cases h
theorem aNl (hT:nI P T)(hm:P.follows .mixedOrders=true) {f:Nat} {k k':List K} {s s':LS} {orc:List Or} (ads:List Adj)(ts ks:List Nat) {base:Nat} (hb:cx.base=base) {body:Code} {obs:List Ob}
 (h:uX base ts ks (oV ads (run T f k s orc))=some (body,k',s',obs)) (hob:Obs P obs) (hg:∃m,Good P r n Q cx D (.l body m::k') s'):Good P r n Q cx D k s:=by
 unfold uX at h
 split at h
 ·rename_i body' k1 s1 obs' hrun
  split at h
  ·rename_i s2 hs
   simp only [bG,eV] at h
   obtain⟨rfl,rfl,rfl,rfl⟩:=h
   obtain⟨m,hg⟩:=hg
   obtain⟨o',hr,hg'⟩:=uY (P:=P) (r:=r) (n:=n) (Q:=Q) (cx:=cx) (D:=D) hrun
   exact iE hT hm f k s orc _ _ _ hr hob (hg' ⟨m,rF hb hs hg⟩)
  ·cases h
 ·cases h
theorem aQm (hT:nI P T)(hm:P.follows .mixedOrders=true) {f m:Nat} {k k':List K} {s s':LS} {orc:List Or} (ads:List Adj)(ts ks:List Nat) {base:Nat} (hb:cx.base=base) {body:Code} {obs:List Ob}
 (h:aAm base ts ks (oV ads (run T f k s orc))=some (body,m,k',s',obs)) (hob:Obs P obs) (hg:Good P r n Q cx D (.l body m::k') s'):Good P r n Q cx D k s:=by
 unfold aAm at h
 split at h
 ·rename_i body' m' k1 s1 obs' hrun
  split at h
  ·rename_i s2 hs
   simp only [bG,eV] at h
   obtain⟨rfl,rfl,rfl,rfl,rfl⟩:=h
   obtain⟨o',hr,hg'⟩:=uY (P:=P) (r:=r) (n:=n) (Q:=Q) (cx:=cx) (D:=D) hrun
   exact iE hT hm f k s orc _ _ _ hr hob (hg' (rF hb hs hg))
  ·cases h
 ·cases h
end
instance sumInh {α β:Type} [Inhabited β]:Inhabited (α⊕β):=⟨.inr dF⟩
theorem uZ {α:Type} (l m:List α) {n:Nat} (h:m.length=n):l.length+n=(l++m).length:=by rw [List.length_append,h]
def aH {S R:Type} [Inhabited R] (step:S->S⊕R):Nat->S->R
 | 0,_=>dF
 | n+1,v=>match step v with
  | .inl v'=>aH step n v'
  | .inr x=>x
theorem aI {S R:Type} [Inhabited R] {step:S->S⊕R} {n:Nat} {v v':S} (h:step v=.inl v'):aH step (n+1) v=aH step n v':=by simp only [aH,h]
theorem aQ {S R:Type} [Inhabited R] {step:S->S⊕R} {n:Nat} {v:S} {x:R} (h:step v=.inr x):aH step (n+1) v=x:=by simp only [aH,h]
def aZ {S R:Type} [Inhabited R] (step:S->S⊕R)(n:Nat):S⊕R->R
 | .inl v=>aH step n v
 | .inr x=>x
def aN (p ms:List Nat)(c:Code)(k:List K):Code×List K:=(tQ p ms c k).getD (.skip,[])
def flat {α:Type} (c:α->List SV)(l:List α):List SV:=l.flatMap c
theorem aMe {α:Type} {c:α->List SV} {l:List α} {x:α}:flat c (l++[x])=flat c l++c x:=by simp [flat]
theorem dP {α:Type} {c:α->List SV} {l m:List α}:flat c (l++m)=flat c l++flat c m:=by simp [flat]
theorem jQ {α:Type} {c:α->List SV} {l:List α} {x:α}:flat c (x::l)=c x++flat c l:=by simp [flat]
theorem rH {α:Type} {c:α->List SV} {es:Nat} (hc:∀x,(c x).length=es)(l:List α):(flat c l).length=l.length*es:=by
 induction l with
 | nil=>simp [flat]
 | cons x l ih=>rw [jQ,List.length_append,ih,hc,List.length_cons,Nat.add_mul];omega
theorem aGn {α:Type} {c:α->List SV} {es:Nat} (hc:∀x,(c x).length=es)(d:α):∀(l:List α) (i:Nat),i < l.length->((flat c l).drop (i*es)).take es=c (l.getD i d)
 | [],i,h=>by simp at h
 | x::l,0,_=>by
  rw [jQ]
  simp only [Nat.zero_mul,List.drop_zero,List.getD_cons_zero]
  rw [←hc x,List.take_left]
 | x::l,i+1,h=>by
  rw [jQ,List.getD_cons_succ,Nat.add_mul,Nat.one_mul,Nat.add_comm]
  rw [←hc x,←List.drop_drop,List.drop_left,hc x]
  exact aGn hc d l i (by simpa using h)
theorem aMf {α:Type} {c:α->List SV} {es:Nat} (hc:∀x,(c x).length=es)(d:α)(l:List α)(i o n:Nat)(h:i < l.length)(ho:o+n<=es):((flat c l).drop (i*es+o)).take n=((c (l.getD i d)).drop o).take n:=by
 rw [←aGn hc d l i h]
 rw [←List.drop_drop,List.drop_take,List.take_take,Nat.min_eq_left (by omega)]
theorem aKe {α:Type} {c:α->List SV} {es:Nat} (hc:∀x,(c x).length=es)(d:α)(l:List α)(i:Int)(o n:Nat)(h:0<=i/\i < (l.length:Int))(ho:o+n<=es) {off:Nat} (he:off=i.toNat*es+o) {r:List SV}
 (hr:((c (l.getD i.toNat d)).drop o).take n=r):((flat c l).drop off).take n=r:=by
 subst he
 rw [aMf hc d l i.toNat o n (by omega) ho];exact hr
theorem nX {α:Type} {c:α->List SV} {es:Nat} (hc:∀x,(c x).length=es) {l:List α} {n by':Nat} (h1:l.length+n<=2 ^ 40)(h2:(l.length+n)*by'<=2 ^ 47):(flat c l).length=l.length*es/\l.length+n<=2 ^ 40/\(l.length+n)*by'<=2 ^ 47 :=
 ⟨rH hc l,h1,h2⟩
def BK.fl:BK->BK
 | .live o _ c=>.live o true c
 | x=>x
theorem BRep.fl {ρ:Env} {M:Nat->Prop} {W:World} {k:Nat} {x y:BK} (e:x.fl=y.fl)(h:BRep ρ M W k x):BRep ρ M W k y:=by
 cases x<;>cases y<;>simp [BK.fl] at e<;>first | trivial | (subst e;exact h) | skip
 rename_i o1 s1 c1 o2 s2 c2
 obtain⟨rfl,rfl⟩:=e
 cases o1<;>exact h
theorem aAq {x y:BK} (e:x.fl=y.fl)(h:x.own):y.own:=by
 cases x<;>cases y<;>simp [BK.fl] at e<;>try exact h
 rename_i o1 s1 c1 o2 s2 c2
 obtain⟨rfl,rfl⟩:=e
 cases o1<;>exact h
def aTb:List BK->Prop
 | []=>True
 | x::l=>x.pl/\aTb l
theorem aGo:∀{l:List BK},aTb l->∀i,(l.getD i .un).pl
 | [],_,i=>by simp [BK.pl]
 | x::l,h,0=>by simpa using h.1
 | x::l,h,i+1=>by simpa using aGo h.2 i
theorem pR {α:Type} {c:α->List SV} (hc:∀x,(c x).all SV.plain=true) {l:List α}:Plain (flat c l):=by
 refine kR ?_
 induction l with
 | nil=>rfl
 | cons x l ih=>rw [jQ,List.all_append,hc x,ih];rfl
theorem Con.flags {P:Program} {f:Nat} {args:List SV} {bs bs':List BK} {res:SV} {nb mb:List BK} (h:Con P f args bs res nb mb)(e:bs'.map BK.fl=bs.map BK.fl)(hpl0:aTb bs):Con P f args bs' res nb mb:=by
 have hp:=aGo hpl0
 have hl:bs'.length=bs.length:=by have:=congrArg List.length e;simpa using this
 have hg:∀i,(bs'.getD i .un).fl=(bs.getD i .un).fl:=fun i=>by
  have:=congrArg (fun l=>l[i]?) e
  simp only [List.getElem?_map] at this
  simp only [fP]
  cases h1:bs'[i]? <;> cases h2:bs[i]? <;> simp [h1,h2] at this ⊢
  exact this
 have ho:∀(ρ:Env),sQ ρ bs=sQ ρ bs':=fun ρ=>by
  funext b
  refine propext ⟨fun⟨i,n,h1,h2⟩=>⟨i,n,aAq (hg i).symm h1,h2⟩,fun⟨i,n,h1,h2⟩=>⟨i,n,aAq (hg i) h1,h2⟩⟩
 refine⟨h.1,fun ρ W vs hr hb hpl ha hfz=>?_⟩
 have hcx:dM ρ W bs'=dM ρ W bs:=by simp only [dM,hl,ho]
 rw [hcx] at hb ⊢
 exact h.2 ρ W vs hr (fun i=>BRep.fl (hg i) (hb i)) hp (fun i j b n b' n' hij h1 h2=>ha i j b n b' n' hij (aAq (hg i).symm h1) (aAq (hg j).symm h2)) (fun b o ho=>⟨(hfz b o ho).1,fun i n h1=>(hfz b o ho).2 i n (aAq (hg i).symm h1)⟩)
end Go.Aw
namespace Go.Aw
open Go.RowKit
theorem Kept.trans {w A B:World} {own own':Nat->Prop} (h:Kept w own A)(k:Kept A own' B)(ho:∀b,own' b->b < w.heap.size->own b):Kept w own B :=
 ⟨k.os.trans h.os,k.tape.trans h.tape,k.output.trans h.output,Nat.le_trans h.size k.size,fun i hi hn=>(k.block i (Nat.lt_of_lt_of_le hi h.size) (fun h'=>hn (ho i h' hi))).trans (h.block i hi hn),Nat.le_trans h.drawn k.drawn⟩
def aUj:Obj->Bool
 | .cells _ _ _=>true
 | .map _ _=>true
 | _=>false
def isCellsAt (W:World)(b:Nat):Prop:=∃o,W.heap[b]? = some o/\aUj o=true
theorem isCellsAt.lt {W:World} {b:Nat} (h:isCellsAt W b):b < W.heap.size:=by
 obtain⟨o,h,_⟩:=h;exact iG h
theorem nN {W:World} {b o:Nat} {x:Value} (h:W.cell? ⟨b,o,none⟩=some x):isCellsAt W b:=by
 unfold World.cell? at h
 cases ho:W.heap[b]? with
 | none=>simp [ho] at h
 | some o' =>
  cases o' with
  | cells c ty m=>exact⟨_,ho,rfl⟩
  | _=>simp [ho] at h
structure Turn (B:Nat) (W W':World):Prop where
 os:W'.os=W.os
 tape:W'.tape=W.tape
 output:W'.output=W.output
 size:W.heap.size<=W'.heap.size
 low:∀k,k < W.heap.size->k < B->W'.heap[k]? = W.heap[k]?
 cells:∀k,isCellsAt W k->W'.heap[k]? = W.heap[k]?
 drawn:W.drawn<=W'.drawn
theorem Turn.of_below {B:Nat} {W W':World} (h:Below W.heap.size W W')(hd:W.drawn<=W'.drawn):Turn B W W':=⟨h.os,h.tape,h.output,h.size,fun k hk _=>h.block k hk,fun k hk=>h.block k hk.lt,hd⟩
theorem Turn.cell {B:Nat} {W W':World} (h:Turn B W W') {b o:Nat} {x:Value} (hx:W.cell? ⟨b,o,none⟩=some x):W'.cell? ⟨b,o,none⟩=some x:=by
 have:=h.cells b (nN hx)
 simp only [World.cell?] at hx ⊢
 rw [this];exact hx
section
variable {cx : Cx} {N : Nat} {D : List Deferred} {ρ : Env} {s : FS} {a : Act} {W : World}
theorem BRep.turn {M:Nat->Prop} {B:Nat} {W':World} {k:Nat} {x:BK} (h:BRep ρ M W k x)(ht:Turn B W W'):BRep ρ M W' k x:=by
 cases x with
 | un=>trivial
 | dead=>trivial
 | live own sym cells =>
  cases own with
  | true =>
   rcases h with h | ⟨b,vs,rest,ty,h1,h2,h3,h4⟩
   ·exact .inl h
   ·exact .inr ⟨b,vs,rest,ty,h1,h2,h3,(ht.cells b ⟨_,h4,rfl⟩).trans h4⟩
  | false =>
   rcases h with h | ⟨b,o,n,vs,h1,h2,h3,h4⟩
   ·exact .inl h
   ·exact .inr ⟨b,o,n,vs,h1,h2,h3,fun i x hx=>ht.cell (h4 i x hx)⟩
 | map es =>
  obtain⟨b,n,arr,q1,q2,q3,q4⟩:=h
  exact⟨b,n,arr,q1,q2,q3,(ht.cells b ⟨_,q4,rfl⟩).trans q4⟩
def Cx.hold (cx:Cx)(W:World)(d:Nat->Prop):Cx:={ w:=W,base:=cx.base,ρ:=cx.ρ,own:=fun b=>cx.mine b/\¬d b }
def lU (ρ:Env)(s:FS)(b:Nat):Prop:=∃k n,(s.bk k).own/\ρ k=some (b,0,n)
theorem Rep.owns (h:Rep cx N D ρ s a W) {b:Nat} (hb:lU ρ s b):isCellsAt W b/\cx.mine b:=by
 obtain⟨k,n,hk,hρ⟩:=hb
 have hb:=h.bk k
 cases hx:s.bk k with
 | un=>rw [hx] at hk;exact hk.elim
 | dead=>rw [hx] at hk;exact hk.elim
 | live own sym cells =>
  rw [hx] at hb hk
  cases own with
  | false=>exact hk.elim
  | true =>
   rcases hb with hb | ⟨b',vs,rest,ty,h1,h2,h3,h4⟩
   ·rw [hρ] at hb;cases hb.1
   ·rw [hρ] at h1;cases h1;exact⟨⟨_,h4,rfl⟩,h2⟩
 | map es =>
  rw [hx] at hb
  obtain⟨b',n',arr,q1,q2,q3,q4⟩:=hb
  rw [hρ] at q1;cases q1;exact⟨⟨_,q4,rfl⟩,q2⟩
def Cx.only (base:Nat)(W:World) (ρ:Env)(S:Nat->Prop):Cx:={ w:=W,base:=base,ρ:=ρ,own:=S }
theorem Rep.only (h:Rep cx N D ρ s a W) {B:Nat} {W':World} (ht:Turn B W W')(base:Nat)(hb:∀i,i < base->s.bk i≠.un):Rep (Cx.only base W' ρ (lU ρ s)) N D ρ s a W':=by
 refine { defs:=h.defs,size:=h.size,sl:=h.sl,bk:=fun k=>?_,apart:=h.apart,wf1:=h.wf1,wf2:=h.wf2,kept:=Kept.refl _ _,pl:=h.pl,old:=fun i hi=>⟨rfl,hb i hi⟩,fzn:=fun b o ho=>⟨(ht.cells b ⟨_,(h.fzn b o ho).1,rfl⟩).trans (h.fzn b o ho).1,(h.fzn b o ho).2.1,.inl ho⟩,fzo:=fun _ _ h=>h }
 refine BRep.turn ?_ ht
 have hsz:=ht.size
 have hb:=h.bk k
 cases hx:s.bk k with
 | un=>trivial
 | dead=>trivial
 | live own sym cells =>
  rw [hx] at hb
  cases own with
  | true =>
   rcases hb with hb | ⟨b,vs,rest,ty,h1,h2,h3,h4⟩
   ·exact .inl hb
   ·exact .inr ⟨b,vs,rest,ty,h1,.inr ⟨k,_,by rw [hx];trivial,h1⟩,h3,h4⟩
  | false =>
   rcases hb with hb | ⟨b,o,n,vs,h1,h2,h3,h4⟩
   ·exact .inl hb
   ·refine .inr ⟨b,o,n,vs,h1,⟨h2.1,fun hne hM=>?_⟩,h3,h4⟩
    obtain⟨x,vs',rfl⟩:=List.exists_cons_of_ne_nil hne
    have hlt:=(nN (h4 0 x (by simp))).lt
    rcases hM with hM | hM
    ·exact absurd (Nat.le_trans hsz hM) (Nat.not_le_of_lt hlt)
    ·exact h2.2 hne (h.owns hM).2
 | map es =>
  rw [hx] at hb
  obtain⟨b,n,arr,q1,q2,q3,q4⟩:=hb
  exact⟨b,n,arr,q1,.inr ⟨k,_,by rw [hx];trivial,q1⟩,q3,q4⟩
end
section
variable {α : Type} {P : Program}
end
end Go.Aw
namespace Go.Aw
open Go.RowKit
section
variable {P : Program} {T : Nat → Option TI} {cx : Cx}
structure Held (cx:Cx) (d:Nat) (cx':Cx):Prop where
 ex:∃W0,cx'=cx.hold W0 (fun b=>b=d)/\Kept cx.w cx.own W0/\W0.heap[d]? = some (.deferred (some []))/\cx.w.heap.size<=d
def aNm (base:Nat)(ts ks:List Nat):Option (Out×List Ob×List Or)->Option (Code×List K×LS×List Ob)
 | some (.at x k s,obs,[])=>match shrink base ts ks s with
  | some s'=>some (x,k,s',obs)
  | none=>none
 | _=>none
variable {D : List Deferred} {r : Option Nat} {n : Nat} {Q : Exit → Act → World → Prop}
theorem aUk (hT:nI P T)(hm:P.follows .mixedOrders=true) {f:Nat} {k k':List K} {s s':LS} {orc:List Or} (ads:List Adj)(ts ks:List Nat) {base:Nat} (hb:cx.base=base) {x:Code} {obs:List Ob}
 (h:aNm base ts ks (oV ads (run T f k s orc))=some (x,k',s',obs)) (hob:Obs P obs) (hg:Good P r n Q cx D (.c x::k') s'):Good P r n Q cx D k s:=by
 unfold aNm at h
 split at h
 ·rename_i x' k1 s1 obs' hrun
  split at h
  ·rename_i s2 hs
   simp only [bG,eV] at h
   obtain⟨rfl,rfl,rfl,rfl⟩:=h
   obtain⟨o',hr,hg'⟩:=uY (P:=P) (r:=r) (n:=n) (Q:=Q) (cx:=cx) (D:=D) hrun
   exact iE hT hm f k s orc _ _ _ hr hob (hg' (rF hb hs hg))
  ·cases h
 ·cases h
end
end Go.Aw
namespace Go.Aw
open Go.RowKit
section
variable {P : Program} {T : Nat → Option TI} {cx : Cx} {N : Nat} {D : List Deferred} {ρ : Env} {s : FS} {a : Act} {W : World} {r : Option Nat} {n : Nat}
theorem aDs (hT:nI P T) {ops:Array Oper} {Q:Exit->Act->World->Prop} {rest:List Nat}:∀(l:List Oper) (i:Nat) (s s':LS) (orc orc':List Or) (evs:List Ev) (obs:List Ob),mU T ops l i s orc=some (evs,s',obs,orc')->Obs P obs ->
 (∀j o,l[j]? = some o->ops[i+j]? = some o)->∀(ρ:Env) (a:Act) (W:World),Rep cx s.sl.length D ρ s.fs a W ->
 (∀ρ' a' W',Rep cx s.sl.length D ρ' s'.fs a' W'->s'.sl.length=s.sl.length->wpOpsIn (Fw r) n P ops Q rest a' W')->wpOpsIn (Fw r) n P ops Q (List.range' i l.length++rest) a W
 | [],i,s,s',orc,orc',evs,obs,h,_,_,ρ,a,W,hrep,hK=>by
  simp only [mU,bG,eV] at h
  obtain⟨_,rfl,_,_⟩:=h
  simpa using hK ρ a W hrep rfl
 | o::l,i,s,s',orc,orc',evs,obs,h,hob,hl,ρ,a,W,hrep,hK=>by
  simp only [mU] at h
  split at h
  ·cases h
  ·rename_i v obs1 orc1 hv
   split at h
   ·cases h
   ·rename_i s1 happ
    split at h
    ·cases h
    ·rename_i vs s2 obs2 orc2 hrest
     simp only [bG,eV] at h
     obtain⟨rfl,rfl,rfl,rfl⟩:=h
     obtain⟨ho1,ho2⟩:=Obs.append hob
     have hi:ops[i]? = some o:=by have:=hl 0 o (by simp);simpa using this
     obtain⟨hfs,hd,hlen⟩:=aIa happ
     have hdst:hZ ops i=o.dst:=by simp [hZ,hi]
     rw [List.length_cons,List.range'_succ,List.cons_append,wpOpsIn_cons]
     refine aDn (r:=r) (n:=n) (w0:=cx) (D:=D) hT hv ho1 hi hd s.fs (fun _ _=>rfl) (fun _ _=>.inl rfl) ρ a W Q _ hrep (fun ρ' a' W' h'=>?_)
     rw [hdst,←hfs] at h'
     refine aDs hT l (i+1) s1 s2 orc1 orc2 vs obs2 hrest ho2 (fun j o' hj=>?_) ρ' a' W' (by rw [hlen];exact h') (fun ρ'' a'' W'' h'' e''=>hK ρ'' a'' W'' (by rw [hlen] at h'';exact h'') (e''.trans hlen))
     rw [show i+1+j=i+(j+1) by omega];exact hl (j+1) o' (by simpa using hj)
def BK.frz:BK->BK
 | .live _ sym cells=>.live false sym cells
 | .map _=>.dead
 | x=>x
structure Seg (J:Nat->(Nat->Prop)->World->Prop) (W:World) (S:Nat->Prop) (i:Nat) (cx:Cx) (Sc:Nat->Prop):Prop where
 j:J i Sc cx.w
 kept:Kept W S cx.w
 sub:∀b,Sc b->S b\/W.heap.size<=b
 apart:∀k b o n,k < cx.base->cx.ρ k=some (b,o,n)->¬Sc b
 own:∀b,¬cx.own b
 apartF:∀b o,cx.ρ.fz b=some o->¬Sc b
structure SegX (Jx:(Nat->Prop)->World->Prop) (W:World) (S:Nat->Prop) (cx:Cx):Prop where
 j:∃Sc,Jx Sc cx.w
 kept:Kept W S cx.w
 own:∀b,¬cx.own b
def VR (J:Nat->(Nat->Prop)->World->Prop)(Jx:(Nat->Prop)->World->Prop)(m:Nat)(S:Nat->Prop)(W:World)(e:Ending)(W':World):Prop :=
 (e=.returned (.bool true)/\∃S',J m S' W'/\Kept W S W'/\∀b,S' b->S b\/W.heap.size<=b) \/
 (e=.returned (.bool false)/\∃S',Jx S' W'/\Kept W S W')
def aWc (J:Nat->(Nat->Prop)->World->Prop):Prop:=∀i S W,J i S W->∀b,S b->b < W.heap.size
def aWx:BK->Bool
 | .live _ _ (_::_)=>true
 | _=>false
def aKf (base:Nat):Nat->List BK->Bool
 | _,[]=>true
 | i,.live false _ _::l=>decide (i < base)&&aKf base (i+1) l
 | i,_::l=>aKf base (i+1) l
def evS (T:Nat->Option TI)(ops:Array Oper)(l:List Oper)(i:Nat)(s:LS)(orc:List Or):Option (LS×List Ob) :=
 match mU T ops l i s orc with
 | some (_,s',obs,[])=>some (s',obs)
 | _=>Option.none
theorem aNn {ops:Array Oper} {l:List Oper} {i:Nat} {s s':LS} {orc:List Or} {obs:List Ob} (h:evS T ops l i s orc=some (s',obs)):∃evs,mU T ops l i s orc=some (evs,s',obs,[]):=by
 unfold evS at h
 split at h
 ·rename_i evs s2 obs2 he
  simp only [bG,eV] at h
  obtain⟨rfl,rfl⟩:=h
  exact⟨evs,he⟩
 ·cases h
theorem aTc {s:LS} {k:Nat} {o sy:Bool} {c:List SV} (h:s.fs.bk k=.live o sy c):s.bk[k]? = some (.live o sy c):=by
 simp only [LS.fs,fP] at h
 cases hx:s.bk[k]? with
 | none=>rw [hx] at h;simp at h
 | some y=>rw [hx] at h;simp at h;rw [h]
theorem aKg {s:LS} {k:Nat} {o sy:Bool} {c:List SV} (h:s.bk[k]? = some (.live o sy c)):s.fs.bk k=.live o sy c:=by
 simp only [LS.fs,fP,h,Option.getD_some]
def rI:List Nat->List Nat->Code->List K->Option (Code×List K)
 | [],_,x,k=>some (x,k)
 | q::p,ms,.seq a b,k=>if q=0 then rI p ms a (.c b::k) else rI p ms b k
 | _::p,ms,.block id c,k=>rI p ms c (.b id::k)
 | q::p,ms,.cond _ a b,k=>if q=0 then rI p ms a k else rI p ms b k
 | _::p,m::ms,.loop body,k=>rI p ms body (.l body m::k)
 | _::p,m::ms,.scope body,k=>rI p ms body (.s body m::k)
 | _,_,_,_=>Option.none
def cC (p ms:List Nat)(c:Code):Code×List K:=(rI p ms c []).getD (.skip,[])
end
end Go.Aw
namespace Go.Aw
open Go.RowKit
def cat:List Ob->List Ob->List Ob
 | [],m=>m
 | x::l,m=>x::cat l m
theorem Obs.cat {P:Program}:∀{l m:List Ob},Obs P l->Obs P m->Obs P (cat l m)
 | [],_,_,h=>h
 | _::_,_,h,h'=>⟨h.1,Obs.cat h.2 h'⟩
structure St (P:Program) where
 o:List Or
 b:List Ob
 ok:Obs P b
def nJ {P:Program}:List (St P)->List Or
 | []=>[]
 | x::l=>x.o++nJ l
def stB {P:Program}:List (St P)->List Ob
 | []=>[]
 | x::l=>cat x.b (stB l)
theorem aAr {P:Program}:∀l:List (St P),Obs P (stB l)
 | []=>trivial
 | x::l=>Obs.cat x.ok (aAr l)
section
variable {P : Program}
def St.d {c d:Bool} (h:c=d):St P:=⟨[.d d],[.eq c d],h,trivial⟩
def St.T:St P:=St.d (rfl:true=true)
def St.F:St P:=St.d (rfl:false=false)
def St.p {p:Prop} (h:p):St P:=⟨[],[.pr p],h,trivial⟩
def St.i (i:Int)(n:Nat)(h:0<=i/\i < ((n:Nat):Int):=by omega):St P:=St.p h
def St.c (ks:List Nat) {f:Nat} {args:List SV} {bs:List BK} {res:SV} {nb mb:List BK} (h:Con P f args bs res nb mb):St P:=⟨[.call ks res nb mb],[.call f args bs res nb mb],h,trivial⟩
def St.u (m:Nat):St P:=⟨[.un m],[],trivial⟩
def St.l {l:List SV} {o n:Nat} (r:List SV)(h:(l.drop o).take n=r):St P:=⟨[.ld r],[.pr ((l.drop o).take n=r)],h,trivial⟩
theorem aKh {α:Type} [Inhabited α] {c:α->List SV} {es:Nat} (hc:∀x,(c x).length=es)(l:List α)(i:Int)(o n:Nat)(h:0<=i/\i < (l.length:Int))(ho:o+n<=es) :
 ((flat c l).drop (0+i.toNat*es+o)).take n=((c (l.getD i.toNat dF)).drop o).take n :=
 aKe hc dF l i o n h ho (by omega) rfl
def St.L {α:Type} [Inhabited α] {c:α->List SV} {es:Nat} (hc:∀x,(c x).length=es)(l:List α)(i:Int)(o n:Nat)(h:0<=i/\i < (l.length:Int):=by omega) (ho:o+n<=es:=by decide):St P :=
 St.l _ (aKh hc l i o n h ho)
def St.R {α:Type} [Inhabited α] {c:α->List SV} {es:Nat} (hc:∀x,(c x).length=es)(l:List α)(i:Int)(o n:Nat) {raw:List SV} (e:raw=flat c l)(h:0<=i/\i < (l.length:Int):=by first | omega | (simp only [Lt];omega)) (ho:o+n<=es:=by decide):St P :=
 St.l (l:=raw) (o:=0+i.toNat*es+o) (n:=n) (((c (l.getD i.toNat dF)).drop o).take n) (by rw [e];exact aKh hc l i o n h ho)
variable {T : Nat → Option TI} {cx : Cx} {D : List Deferred} {r : Option Nat} {n : Nat} {Q : Exit → Act → World → Prop}
def aL (fn:Func):Code:=fn.body.getD .skip
theorem bA {f:Nat} {fn:Func} {args:List SV} {bs:List BK} {res:SV} {nb mb:List BK} (hf:P.funcs[f]? = some fn)
 (hc : (fn.body.isSome && !(fn.name == "runtime.NumGoroutine") && decide (args.length ≤ fn.ntmps) && bs.all aDq && belowL bs.length args && bs.all (aDr bs.length)) = true)
 (h:∀cx:Cx,cx.base=bs.length->Good P none 9 (bodyPost P fn (RR cx res nb mb)) cx [] [.c (aL fn)] (qS fn.ntmps args bs)):Con P f args bs res nb mb:=by
 simp only [Bool.and_eq_true,Bool.not_eq_true',decide_eq_true_eq] at hc
 obtain⟨⟨⟨⟨⟨h1,h2⟩,h3⟩,h4⟩,h5⟩,h6⟩:=hc
 obtain⟨c,hb⟩:=Option.isSome_iff_exists.1 h1
 have e:aL fn=c:=by unfold aL;rw [hb];rfl
 exact aGh (n:=9) hf hb (ent hf h2 hb) h3 (by rw [h4,h5,h6];rfl) (fun cx hcx=>e▸h cx hcx)
theorem aUl (hT:nI P T)(hm:P.follows .mixedOrders=true) {fn:Func} {f:Nat} {k:List K} {s:LS} (sts:List (St P))(ads:List Adj)(ks:List Nat) {base:Nat} (hb:cx.base=base) {res:SV} {nb:List BK}
 (h:aGi T fn.results.toList base [] ks (oV ads (run T f k s (nJ sts)))=some (res,nb,[],stB sts)):Good P none n (bodyPost P fn (RR cx res nb [])) cx [] k s:=aNk hT hm ads [] ks hb h (aAr sts)
theorem aQn (hT:nI P T)(hm:P.follows .mixedOrders=true) {f:Nat} {k:List K} {s:LS} (sts:List (St P))(ads:List Adj)(ts ks:List Nat) {base:Nat} (hb:cx.base=base)(body:Code)(k':List K)(s':LS)(m:Nat)
 (h:uX base ts ks (oV ads (run T f k s (nJ sts)))=some (body,k',s',stB sts)) (hg:Good P r n Q cx D (.l body m::k') s'):Good P r n Q cx D k s:=aNl hT hm ads ts ks hb h (aAr sts) ⟨m,hg⟩
theorem aTd (hT:nI P T)(hm:P.follows .mixedOrders=true) {f m:Nat} {k:List K} {s:LS} (sts:List (St P))(ads:List Adj)(ts ks:List Nat) {base:Nat} (hb:cx.base=base)(body:Code)(k':List K)(s':LS)
 (h:aAm base ts ks (oV ads (run T f k s (nJ sts)))=some (body,m,k',s',stB sts)) (hg:Good P r n Q cx D (.l body m::k') s'):Good P r n Q cx D k s:=aQm hT hm ads ts ks hb h (aAr sts) hg
theorem aWd (hT:nI P T)(hm:P.follows .mixedOrders=true) {f:Nat} {k:List K} {s:LS} (sts:List (St P))(ads:List Adj)(ts ks:List Nat) {base:Nat} (hb:cx.base=base)(x:Code)(k':List K)(s':LS)
 (h:aNm base ts ks (oV ads (run T f k s (nJ sts)))=some (x,k',s',stB sts)) (hg:Good P r n Q cx D (.c x::k') s'):Good P r n Q cx D k s:=aUk hT hm ads ts ks hb h (aAr sts) hg
end
def gO (n:Nat):List (Nat×SV)->List SV
 | []=>List.replicate n .u
 | (t,x)::l=>(gO n l).set t x
theorem aK {S R:Type} [Inhabited R] (step:S->S⊕R)(n:Nat)(v:S):aH step (n+1) v=aZ step n (step v):=rfl
end Go.Aw
namespace Go.Aw
open Go.RowKit
def gW (a b:Int):Int:=if b < a then b else a
def cZ (a b:Int):Int:=if a < b then b else a
section
variable {α β : Type} [DecidableEq α] {kc : α → SV} {vc : β → SV} {l : List (α × β)} {k : α} {T : Nat → Option TI} {kt : Nat}
variable {P : Program}
def St.z (id:Nat):St P:=⟨[.stop id],[],trivial⟩
end
def St.sub {P:Program} (a b:Int)(n:Nat)(h:0<=a/\a<=b/\b<=(n:Int):=by omega):St P:=⟨[.mp []],[.pr (0<=a/\a<=b/\b<=(n:Int))],h,trivial⟩
section
variable {P : Program}
theorem fZ {α:Type} {c:α->List SV} (hc:∀x,(c x).all SV.plain=true)(l:List α):Plain (flat c l):=pR hc
def St.D {α:Type} {c:α->List SV} {c2:List α->List SV} (es:Nat)(hc2:∀x,c2 x=[.d (flat c x) x.length es])(l:List (List α))(i:Int)(h:0<=i/\i < (l.length:Int):=by omega) (hc:∀x,(c x).all SV.plain=true:=by exact fun _=>rfl):St P :=
 ⟨[.ld [.d (flat c (l.getD i.toNat dF)) (l.getD i.toNat dF).length es]],[.pr (((flat c2 l).drop (0+i.toNat*1)).take 1=[.d (flat c (l.getD i.toNat dF)) (l.getD i.toNat dF).length es]),.pr (Plain (flat c (l.getD i.toNat dF)))],
  by
   have h1:∀x,(c2 x).length=1:=fun x=>by rw [hc2];rfl
   have:=aKh h1 l i 0 1 h (by decide)
   rw [Nat.add_zero] at this
   show _=_
   rw [this,hc2];rfl,fZ hc _,trivial⟩
theorem aNo {α:Type} {c:α->List SV} {z:α} (n:Nat):flat c (List.replicate n z)=(List.replicate n (c z)).flatten:=by
 unfold flat
 rw [List.flatMap_def,List.map_replicate]
def St.Z {α:Type} (c:α->List SV)(z:α)(zs:List SV)(n:Int)(bytes:Nat)(h:0<=n/\n.toNat*bytes<=2 ^ 47/\n<=2 ^ 47:=by omega) (e:c z=zs:=by rfl):St P :=
 ⟨[.ld (flat c (List.replicate n.toNat z))],[.pr (0<=n/\n.toNat*bytes<=2 ^ 47/\n<=2 ^ 47),.pr (n=n),.pr (flat c (List.replicate n.toNat z)=(List.replicate n.toNat zs).flatten)],h,rfl,by rw [←e];exact aNo _,trivial⟩
theorem oW {α:Type} {c:α->List SV} {es:Nat} (hc:∀x,(c x).length=es):∀(l:List α) (n:Nat),(flat c l).drop (n*es)=flat c (l.drop n)
 | [],n=>by simp [flat]
 | x::l,0=>by simp
 | x::l,n+1=>by
  rw [jQ,Nat.add_mul,Nat.one_mul,Nat.add_comm,←List.drop_drop,List.drop_left' (hc x),oW hc l n];simp
theorem oX {α:Type} {c:α->List SV} {es:Nat} (hc:∀x,(c x).length=es):∀(l:List α) (n:Nat),(flat c l).take (n*es)=flat c (l.take n)
 | [],n=>by simp [flat]
 | x::l,0=>by simp [flat]
 | x::l,n+1=>by
  rw [jQ,Nat.add_mul,Nat.one_mul,Nat.add_comm,←hc x,List.take_length_add_append,hc x,oX hc l n];simp [jQ]
def part {α:Type} (l:List α)(a b:Int):List α:=(l.drop a.toNat).take (b.toNat - a.toNat)
theorem dL {α:Type} {l:List α} {a b:Int} (h:0<=a/\a<=b/\b<=l.length):(part l a b).length=b.toNat - a.toNat:=by
 unfold part;rw [List.length_take,List.length_drop];omega
def St.S {α:Type} {c:α->List SV} {es:Nat} (hc:∀x,(c x).length=es)(l:List α)(a b:Int)(n:Nat)(h:0<=a/\a<=b/\b<=(n:Int):=by omega):St P :=
 ⟨[.ld (flat c (part l a b))],[.pr (0<=a/\a<=b/\b<=(n:Int)),.pr (flat c (part l a b)=((flat c l).drop (0+a.toNat*es)).take ((b.toNat - a.toNat)*es))],h,by rw [Nat.zero_add,oW hc,oX hc];rfl,trivial⟩
end
end Go.Aw
namespace Go.Aw
open Go.RowKit
mutual
def SV.hasB (i:Nat):SV->Bool
 | .p j _=>j == i
 | .s j _ _ _=>j == i
 | .m j=>j == i
 | .f _ caps=>SV.hasBl i caps
 | .a l=>SV.hasBl i l
 | .t l=>SV.hasBl i l
 | _=>false
def SV.hasBl (i:Nat):List SV->Bool
 | []=>false
 | x::l=>SV.hasB i x || SV.hasBl i l
end
mutual
theorem aSg {i:Nat}:∀(x:SV),x.has i->x.hasB i=true
 | .u,h=>by simp [SV.has] at h
 | .b _,h=>by simp [SV.has] at h
 | .v _,h=>by simp [SV.has] at h
 | .d _ _ _,h=>by simp [SV.has] at h
 | .p j _,h=>by simp only [SV.has] at h;simp [SV.hasB,h]
 | .s j _ _ _,h=>by simp only [SV.has] at h;simp [SV.hasB,h]
 | .m j,h=>by simp only [SV.has] at h;simp [SV.hasB,h]
 | .f _ caps,h=>by simp only [SV.has] at h;simp only [SV.hasB];exact hasl_B caps h
 | .a l,h=>by simp only [SV.has] at h;simp only [SV.hasB];exact hasl_B l h
 | .t l,h=>by simp only [SV.has] at h;simp only [SV.hasB];exact hasl_B l h
theorem hasl_B {i:Nat}:∀(l:List SV),SV.hasl i l->SV.hasBl i l=true
 | [],h=>by simp [SV.hasl] at h
 | x::l,h=>by
  simp only [SV.hasl] at h
  simp only [SV.hasBl,Bool.or_eq_true]
  exact h.imp (aSg x) (hasl_B l)
end
def BK.hasB (i:Nat):BK->Bool
 | .live _ false cells=>SV.hasBl i cells
 | .map es=>SV.hasBl i (kM es)
 | _=>false
theorem aTe {i:Nat} {x:BK} (hpl:x.pl)(h:x.has i):x.hasB i=true:=by
 cases x with
 | un=>exact h.elim
 | dead=>exact h.elim
 | map es=>exact hasl_B _ h
 | live own sym cells =>
  cases sym with
  | true=>exact(hpl i h).elim
  | false=>exact hasl_B _ h
section
variable {P : Program} {ρ : Env} {W : World} {M : Nat → Prop}
theorem aGp {α:Type} {c:α->List SV} {es:Nat} (hc:∀x,(c x).length=es) {l:List α} {a b:Int} (hab:0<=a/\a<=b/\b<=l.length) {i:Nat} {y:Value}
 (hr:Rel ρ (.s i (0+a.toNat*es) (b.toNat - a.toNat) es) y) (hb:BRep ρ M W i (.live false true (flat c l))) (hpl:Plain (flat c l)) :
 ∃q,∀(k:Nat) (ρ2:Env),ρ2 k=q->ρ2.fz=ρ.fz->Rel ρ2 (.s k 0 (part l a b).length es) y/\BRep ρ2 M W k (.live false true (flat c (part l a b))):=by
 have hl:=dL hab
 have hf:flat c (part l a b)=((flat c l).drop (a.toNat*es)).take ((b.toNat - a.toNat)*es):=by rw [oW hc,oX hc];rfl
 simp only [Rel] at hr
 rcases hr with⟨h1,h2,h3⟩ | ⟨b0,o,N,cap,off',sp,h1,h2,h3,h4,h5⟩
 ·refine⟨none,fun k ρ2 hq hfz=>⟨?_,.inl ⟨hq,?_⟩⟩⟩
  ·simp only [Rel];exact .inl ⟨hq,by omega,h3⟩
  ·rw [hf,h2];simp
 ·refine⟨some (b0,o+off',cap*es),fun k ρ2 hq hfz=>⟨?_,?_⟩⟩
  ·simp only [Rel]
   exact .inr ⟨b0,o+off',cap*es,cap,0,sp,hq,by rw [hl,Nat.add_zero];exact h2,by rw [hl];exact h3,by omega,fun hc=>⟨rfl,(h5 hc).2⟩⟩
  ·rcases hb with⟨e1,_⟩ | ⟨b1,o1,n1,vs,e1,⟨e2,e3⟩,e4,e5⟩
   ·rw [h1] at e1;cases e1
   ·rw [h1] at e1
    simp only [bG,eV] at e1
    obtain⟨rfl,rfl,rfl⟩:=e1
    have hle:(b.toNat - a.toNat)*es<=cap*es:=Nat.mul_le_mul_right _ h3
    refine .inr ⟨b0,o+off',cap*es,(vs.drop (a.toNat*es)).take ((b.toNat - a.toNat)*es),hq,⟨by rw [List.length_take];omega,fun hne hM=>?_⟩,?_,fun t x hx=>?_⟩
    ·rw [hfz]
     exact e3 (fun e=>hne (by rw [e];simp)) hM
    ·rw [hf]
     have hp2:Plain (((flat c l).drop (a.toNat*es)).take ((b.toNat - a.toNat)*es)):=fun j hj=>hpl j (jO (jN hj))
     exact Plain.congr (fun b o ho=>by rw [hfz];exact ho) hp2 (Rels.take _ (Rels.drop _ e4))
    ·have ht:=(List.getElem?_eq_some_iff.1 hx).1
     rw [List.length_take] at ht
     rw [List.getElem?_take_of_lt (by omega),List.getElem?_drop] at hx
     have hcap:cap≠0:=by
      intro e
      rw [e] at hle
      omega
     rw [(h5 hcap).1,show o+(0+a.toNat*es)+t=o+(a.toNat*es+t) by omega]
     exact e5 _ x hx
theorem wS {ρ ρ2:Env} {x y:SV}:∀{pre post:List SV} {vs:List Value},Rels ρ (pre++x::post) vs->ρ.le ρ2->(∀j,SV.hasl j pre\/SV.hasl j post->ρ2 j=ρ j)->(∃v,vs[pre.length]? = some v/\Rel ρ2 y v)->Rels ρ2 (pre++y::post) vs
 | [],post,[],h,_,_,_=>by simp [Rels] at h
 | [],post,v::vs,h,hf,hj,hx=>by
  simp only [List.nil_append,Rels] at h ⊢
  obtain⟨v',e,hx⟩:=hx
  simp only [List.length_nil,List.getElem?_cons_zero,bG] at e
  subst e
  exact⟨hx,Rels.congr hf _ _ (fun j hk=>hj j (.inr hk)) h.2⟩
 | z::pre,post,[],h,_,_,_=>by simp [Rels] at h
 | z::pre,post,v::vs,h,hf,hj,hx=>by
  simp only [List.cons_append,Rels] at h ⊢
  refine⟨Rel.congr hf _ _ (fun j hk=>hj j (.inl (by simp only [SV.hasl];exact .inl hk))) h.1,wS h.2 hf (fun j hk=>hj j ?_) ?_⟩
  ·rcases hk with hk | hk
   ·exact .inl (by simp only [SV.hasl];exact .inr hk)
   ·exact .inr hk
  ·obtain⟨v',e,hx⟩:=hx
   exact⟨v',by simpa using e,hx⟩
theorem aDt {x:SV}:∀{pre post:List SV} {vs:List Value},Rels ρ (pre++x::post) vs->∃v,vs[pre.length]? = some v/\Rel ρ x v
 | [],_,[],h=>by simp [Rels] at h
 | [],_,v::_,h=>by simp only [List.nil_append,Rels] at h;exact⟨v,rfl,h.1⟩
 | _::_,_,[],h=>by simp [Rels] at h
 | _::pre,_,_::_,h=>by
  simp only [List.cons_append,Rels] at h
  obtain⟨v,e,hx⟩:=aDt h.2
  exact⟨v,by simpa using e,hx⟩
theorem gA {x:BK} {bs1 bs2:List BK} (j:Nat):(bs1++x::bs2).getD j .un=if j=bs1.length then x else if j < bs1.length then bs1.getD j .un else bs2.getD (j - bs1.length - 1) .un:=by
 simp only [fP]
 by_cases h:j=bs1.length
 ·subst h;simp
 ·rw [if_neg h]
  by_cases h2:j < bs1.length
  ·rw [if_pos h2,List.getElem?_append_left h2]
  ·rw [if_neg h2,List.getElem?_append_right (by omega)]
   obtain⟨k,hk⟩:∃k,j - bs1.length=k+1:=⟨j - bs1.length - 1,by omega⟩
   rw [hk];simp
theorem Con.part {f:Nat} {pre post:List SV} {bs1 bs2 nb:List BK} {res:SV} {α:Type} {c:α->List SV} {es:Nat} {l:List α} {a b:Int} (i:Nat)(hc:∀x,(c x).length=es)(hab:0<=a/\a<=b/\b<=l.length)(hi:bs1.length=i)
 (hno:(!SV.hasBl i pre&&!SV.hasBl i post&&bs1.all (fun x=>!x.hasB i)&&bs2.all (fun x=>!x.hasB i)&&nb.all (fun x=>!x.hasB i)&&!res.hasB i)=true)
 (h:Con P f (pre++.s i 0 (Aw.part l a b).length es::post) (bs1++.live false true (flat c (Aw.part l a b))::bs2) res nb) :
 Con P f (pre++.s i (0+a.toNat*es) (b.toNat - a.toNat) es::post) (bs1++.live false true (flat c l)::bs2) res nb:=by
 subst hi
 simp only [Bool.and_eq_true,Bool.not_eq_true',List.all_eq_true] at hno
 obtain⟨⟨⟨⟨⟨n1,n2⟩,n3⟩,n4⟩,n5⟩,n6⟩:=hno
 refine⟨h.1,fun ρ W vs hr hb hpl hap hfz=>?_⟩
 obtain⟨y,hy,hry⟩:=aDt hr
 have hbi:=hb bs1.length
 have hpi:=hpl bs1.length
 rw [gA,if_pos rfl] at hbi hpi
 obtain⟨q,hq⟩:=aGp hc hab hry hbi hpi
 have hne:∀j,j≠bs1.length->(ρ.set bs1.length q) j=ρ j:=fun j hj=>by rw [Env.set_loc,if_neg hj]
 have hat:(ρ.set bs1.length q) bs1.length=q:=by rw [Env.set_loc,if_pos rfl]
 have hown:sQ (ρ.set bs1.length q) (bs1++.live false true (flat c (Aw.part l a b))::bs2)=sQ ρ (bs1++.live false true (flat c l)::bs2):=by
  funext b0
  apply propext
  unfold sQ
  constructor
  ·rintro ⟨j,n,h1,h2⟩
   rw [gA] at h1
   by_cases hj:j=bs1.length
   ·rw [if_pos hj] at h1;exact h1.elim
   ·refine⟨j,n,?_,by rw [←hne j hj];exact h2⟩
    rw [gA,if_neg hj];rw [if_neg hj] at h1;exact h1
  ·rintro ⟨j,n,h1,h2⟩
   rw [gA] at h1
   by_cases hj:j=bs1.length
   ·rw [if_pos hj] at h1;exact h1.elim
   ·refine⟨j,n,?_,by rw [hne j hj];exact h2⟩
    rw [gA,if_neg hj];rw [if_neg hj] at h1;exact h1
 have hmine:(dM (ρ.set bs1.length q) W (bs1++.live false true (flat c (Aw.part l a b))::bs2)).mine=(dM ρ W (bs1++.live false true (flat c l)::bs2)).mine:=by
  funext b0
  unfold Cx.mine dM
  simp only [hown]
 obtain⟨g1,g2⟩:=hq bs1.length (ρ.set bs1.length q) hat rfl
 have blk:∀j,j≠bs1.length->(bs1++BK.live false true (flat c (Aw.part l a b))::bs2).getD j .un=(bs1++BK.live false true (flat c l)::bs2).getD j .un:=fun j hj=>by rw [gA,gA,if_neg hj,if_neg hj]
 have nohas:∀j,j≠bs1.length->¬((bs1++BK.live false true (flat c l)::bs2).getD j .un).has bs1.length:=fun j hj hk=>by
  have hB:=aTe (hpl j) hk
  rw [gA,if_neg hj] at hB
  split at hB
  ·rename_i hlt
   rw [fP,List.getElem?_eq_getElem hlt,Option.getD_some] at hB
   rw [n3 _ (List.getElem_mem hlt)] at hB;cases hB
  ·by_cases hlt:j - bs1.length - 1 < bs2.length
   ·rw [fP,List.getElem?_eq_getElem hlt,Option.getD_some] at hB
    rw [n4 _ (List.getElem_mem hlt)] at hB;cases hB
   ·rw [fP,List.getElem?_eq_none (by omega),Option.getD_none] at hB;cases hB
 have nol:∀{m:List SV},SV.hasBl bs1.length m=false->∀j,SV.hasl j m->j≠bs1.length:=fun hm j hj e=>by
  subst e;rw [hasl_B _ hj] at hm;cases hm
 have hcall:=h.2 (ρ.set bs1.length q) W vs ?_ ?_ ?_ ?_ ?_
 ·refine hcall.mono fun e W' hR=>?_
  obtain⟨ρ',v,r1,r2,r3,r4,r5,r6,r7,r8,r9⟩:=hR
  have hbase:(dM (ρ.set bs1.length q) W (bs1++.live false true (flat c (Aw.part l a b))::bs2)).base=(dM ρ W (bs1++.live false true (flat c l)::bs2)).base:=by simp [dM]
  have hlt:bs1.length < (dM ρ W (bs1++.live false true (flat c l)::bs2)).base:=by simp [dM]
  rw [hbase] at r2 r5 r6 r7 r9
  rw [hmine] at r5 r9
  have hnb:∀j,¬(fW (dM ρ W (bs1++.live false true (flat c l)::bs2)).base [] nb j).has bs1.length:=fun j hk=>by
   have hB:=aTe (r6 j) hk
   unfold fW at hB
   split at hB
   ·simp [BK.hasB] at hB
   ·rename_i hge
    by_cases hl2:j - (dM ρ W (bs1++.live false true (flat c l)::bs2)).base < nb.length
    ·rw [fP,List.getElem?_eq_getElem hl2,Option.getD_some] at hB
     rw [n5 _ (List.getElem_mem hl2)] at hB;cases hB
    ·rw [fP,List.getElem?_eq_none (by omega),Option.getD_none] at hB;cases hB
  have ho:∀j,(fW (dM ρ W (bs1++.live false true (flat c l)::bs2)).base [] nb j).own->j≠bs1.length:=fun j hj e=>by
   subst e
   unfold fW at hj
   rw [if_pos hlt] at hj
   exact hj
  have hs:∀j,j≠bs1.length->(ρ'.set bs1.length (ρ bs1.length)) j=ρ' j:=fun j hj=>by rw [Env.set_loc,if_neg hj]
  refine⟨ρ'.set bs1.length (ρ bs1.length),v,r1,fun j hj=>?_,?_,?_,fun j=>?_,r6,fun j k b1 m1 b2 m2 hjk o1 o2 e1 e2=>?_,?_,fun b0 o0 hf0=>?_⟩
  ·by_cases hji:j=bs1.length
   ·subst hji;rw [Env.set_loc,if_pos rfl];rfl
   ·rw [hs j hji,r2 j hj];exact hne j hji
  ·exact Rel.congr (ρ'.le_set _ _) _ _ (fun j hk=>hs j (fun e=>by subst e;rw [aSg _ hk] at n6;cases n6)) r3
  ·have:(dM (ρ.set bs1.length q) W (bs1++.live false true (flat c (Aw.part l a b))::bs2)).own=(dM ρ W (bs1++.live false true (flat c l)::bs2)).own:=hown
   rw [this] at r4;exact r4
  ·by_cases hji:j=bs1.length
   ·subst hji
    unfold fW
    rw [if_pos hlt];trivial
   ·exact BRep.congr (ρ'.le_set _ _) (hs j hji) (fun k hk=>hs k (fun e=>by subst e;exact hnb j hk)) (r5 j)
  ·rw [hs j (ho j o1)] at e1
   rw [hs k (ho k o2)] at e2
   exact r7 j k b1 m1 b2 m2 hjk o1 o2 e1 e2
  ·exact r8
  ·obtain⟨t1,t2,t3⟩:=r9 b0 o0 hf0
   exact⟨t1,fun j n hj=>by rw [hs j (ho j hj)];exact t2 j n hj,t3⟩
 ·refine wS hr (ρ.le_set _ _) (fun j hj=>hne j ?_) ⟨y,hy,g1⟩
  rcases hj with hj | hj
  ·exact nol n1 j hj
  ·exact nol n2 j hj
 ·intro j
  rw [hmine]
  by_cases hj:j=bs1.length
  ·rw [hj,gA,if_pos rfl];exact g2
  ·rw [blk j hj]
   exact BRep.congr (ρ.le_set _ _) (hne j hj) (fun k hk=>hne k (fun e=>by subst e;exact nohas j hj hk)) (hb j)
 ·intro j
  by_cases hj:j=bs1.length
  ·rw [hj,gA,if_pos rfl]
   show Plain _
   have hf:flat c (Aw.part l a b)=((flat c l).drop (a.toNat*es)).take ((b.toNat - a.toNat)*es):=by rw [oW hc,oX hc];rfl
   rw [hf]
   exact fun k hk=>hpi k (jO (jN hk))
  ·rw [blk j hj];exact hpl j
 ·intro j k b1 m1 b2 m2 hjk o1 o2 e1 e2
  have hj:j≠bs1.length:=fun e=>by rw [e,gA,if_pos rfl] at o1;exact o1
  have hk:k≠bs1.length:=fun e=>by rw [e,gA,if_pos rfl] at o2;exact o2
  rw [blk j hj] at o1
  rw [blk k hk] at o2
  rw [hne j hj] at e1
  rw [hne k hk] at e2
  exact hap j k b1 m1 b2 m2 hjk o1 o2 e1 e2
 ·intro b0 o0 hf0
  obtain⟨t1,t2⟩:=hfz b0 o0 hf0
  refine⟨t1,fun j n hj=>?_⟩
  have hji:j≠bs1.length:=fun e=>by rw [e,gA,if_pos rfl] at hj;exact hj
  rw [blk j hji] at hj
  rw [hne j hji]
  exact t2 j n hj
theorem mN {x:BK} {bs:List BK} (j:Nat):(bs++[x]).getD j .un=if j=bs.length then x else bs.getD j .un:=by
 rw [gA (bs2:=[])]
 by_cases h:j=bs.length
 ·rw [if_pos h,if_pos h]
 ·rw [if_neg h,if_neg h]
  by_cases h2:j < bs.length
  ·rw [if_pos h2]
  ·rw [if_neg h2]
   simp only [fP]
   rw [List.getElem?_eq_none (by omega:bs.length<=j)];simp
theorem Con.alias {f:Nat} {pre post:List SV} {bs:List BK} {res:SV} {α:Type} {c:α->List SV} {es:Nat} {l:List α} {a b:Int} (i:Nat)(hc:∀x,(c x).length=es)(hab:0<=a/\a<=b/\b<=l.length)
 (hi:bs[i]? = some (.live false true (flat c l)))
 (hno:(!SV.hasBl bs.length pre&&!SV.hasBl bs.length post&&bs.all (fun x=>!x.hasB bs.length)&&!res.hasB bs.length)=true)
 (h:Con P f (pre++.s bs.length 0 (Aw.part l a b).length es::post) (bs++[.live false true (flat c (Aw.part l a b))]) res []) :
 Con P f (pre++.s i (0+a.toNat*es) (b.toNat - a.toNat) es::post) bs res []:=by
 simp only [Bool.and_eq_true,Bool.not_eq_true',List.all_eq_true] at hno
 obtain⟨⟨⟨n1,n2⟩,n3⟩,n6⟩:=hno
 refine⟨h.1,fun ρ W vs hr hb hpl hap hfz=>?_⟩
 have hilt:=(List.getElem?_eq_some_iff.1 hi).1
 have hgi:bs.getD i .un=.live false true (flat c l):=by rw [fP,hi];rfl
 obtain⟨y,hy,hry⟩:=aDt hr
 have hbi:=hb i
 have hpi:=hpl i
 rw [hgi] at hbi hpi
 obtain⟨q,hq⟩:=aGp hc hab hry hbi hpi
 have hne:∀j,j≠bs.length->(ρ.set bs.length q) j=ρ j:=fun j hj=>by rw [Env.set_loc,if_neg hj]
 have hat:(ρ.set bs.length q) bs.length=q:=by rw [Env.set_loc,if_pos rfl]
 have hend:bs.getD bs.length .un=.un:=by rw [fP,List.getElem?_eq_none (Nat.le_refl _)];rfl
 have hown:sQ (ρ.set bs.length q) (bs++[.live false true (flat c (Aw.part l a b))])=sQ ρ bs:=by
  funext b0
  apply propext
  unfold sQ
  constructor
  ·rintro ⟨j,n,h1,h2⟩
   rw [mN] at h1
   by_cases hj:j=bs.length
   ·rw [if_pos hj] at h1;exact h1.elim
   ·rw [if_neg hj] at h1
    exact⟨j,n,h1,by rw [←hne j hj];exact h2⟩
  ·rintro ⟨j,n,h1,h2⟩
   have hj:j≠bs.length:=fun e=>by rw [e,hend] at h1;exact h1
   exact⟨j,n,by rw [mN,if_neg hj];exact h1,by rw [hne j hj];exact h2⟩
 have hmine:(dM (ρ.set bs.length q) W (bs++[.live false true (flat c (Aw.part l a b))])).mine=(dM ρ W bs).mine:=by
  funext b0
  unfold Cx.mine dM
  simp only [hown]
 obtain⟨g1,g2⟩:=hq bs.length (ρ.set bs.length q) hat rfl
 have nohas:∀j,¬(bs.getD j .un).has bs.length:=fun j hk=>by
  have hB:=aTe (hpl j) hk
  by_cases hlt:j < bs.length
  ·rw [fP,List.getElem?_eq_getElem hlt,Option.getD_some] at hB
   rw [n3 _ (List.getElem_mem hlt)] at hB;cases hB
  ·rw [fP,List.getElem?_eq_none (by omega),Option.getD_none] at hB;cases hB
 have nol:∀{m:List SV},SV.hasBl bs.length m=false->∀j,SV.hasl j m->j≠bs.length:=fun hm j hj e=>by
  subst e;rw [hasl_B _ hj] at hm;cases hm
 have hcall:=h.2 (ρ.set bs.length q) W vs ?_ ?_ ?_ ?_ ?_
 ·refine hcall.mono fun e W' hR=>?_
  obtain⟨ρ',v,r1,r2,r3,r4,r5,r6,r7,r8,r9⟩:=hR
  have un1:∀j,fW (dM ρ W bs).base [] [] j=.un:=fun j=>by unfold fW;simp
  have un2:∀j,fW (dM (ρ.set bs.length q) W (bs++[.live false true (flat c (Aw.part l a b))])).base [] [] j=.un:=fun j=>by unfold fW;simp
  refine⟨ρ',v,r1,fun j hj=>?_,r3,?_,fun j=>?_,fun j=>?_,fun j k b1 m1 b2 m2 hjk o1 o2 e1 e2=>?_,r8,fun b0 o0 hf0=>?_⟩
  ·have hj':j < bs.length:=hj
   rw [r2 j (by simp [dM];omega)];exact hne j (by omega)
  ·have:(dM (ρ.set bs.length q) W (bs++[.live false true (flat c (Aw.part l a b))])).own=(dM ρ W bs).own:=hown
   rw [this] at r4;exact r4
  ·rw [un1];trivial
  ·rw [un1];trivial
  ·rw [un1] at o1;exact o1.elim
  ·obtain⟨t1,t2,t3⟩:=r9 b0 o0 hf0
   rw [hmine] at t3
   exact⟨t1,fun j n hj=>by rw [un1] at hj;exact hj.elim,t3⟩
 ·refine wS hr (ρ.le_set _ _) (fun j hj=>hne j ?_) ⟨y,hy,g1⟩
  rcases hj with hj | hj
  ·exact nol n1 j hj
  ·exact nol n2 j hj
 ·intro j
  rw [hmine,mN]
  by_cases hj:j=bs.length
  ·rw [if_pos hj,hj];exact g2
  ·rw [if_neg hj]
   exact BRep.congr (ρ.le_set _ _) (hne j hj) (fun k hk=>hne k (fun e=>by subst e;exact nohas j hk)) (hb j)
 ·intro j
  rw [mN]
  by_cases hj:j=bs.length
  ·rw [if_pos hj]
   show Plain _
   have hf:flat c (Aw.part l a b)=((flat c l).drop (a.toNat*es)).take ((b.toNat - a.toNat)*es):=by rw [oW hc,oX hc];rfl
   rw [hf]
   exact fun k hk=>hpi k (jO (jN hk))
  ·rw [if_neg hj];exact hpl j
 ·intro j k b1 m1 b2 m2 hjk o1 o2 e1 e2
  rw [mN] at o1 o2
  have hj:j≠bs.length:=fun e=>by rw [if_pos e] at o1;exact o1
  have hk:k≠bs.length:=fun e=>by rw [if_pos e] at o2;exact o2
  rw [if_neg hj] at o1
  rw [if_neg hk] at o2
  rw [hne j hj] at e1
  rw [hne k hk] at e2
  exact hap j k b1 m1 b2 m2 hjk o1 o2 e1 e2
 ·intro b0 o0 hf0
  obtain⟨t1,t2⟩:=hfz b0 o0 hf0
  refine⟨t1,fun j n hj=>?_⟩
  rw [mN] at hj
  have hji:j≠bs.length:=fun e=>by rw [if_pos e] at hj;exact hj
  rw [if_neg hji] at hj
  rw [hne j hji]
  exact t2 j n hj
end
def aIj (T:Nat->Option TI)(rv:List ResultVar)(base:Nat)(ms ks:List Nat):Option (Out×List Ob×List Or)->Option (SV×List BK×List BK×List Ob)
 | some (.norm s,obs,[])=>match fin T rv base ms ks s with
  | some (res,nb,mb)=>some (res,nb,mb,obs)
  | none=>none
 | _=>none
theorem aQo {P:Program} {T:Nat->Option TI} {cx:Cx} {n:Nat} (hT:nI P T)(hm:P.follows .mixedOrders=true) {fn:Func} {f:Nat} {k:List K} {s:LS} {orc:List Or} (ads:List Adj)(ms ks:List Nat) {base:Nat} (hb:cx.base=base) {res:SV} {nb mb:List BK} {obs:List Ob}
 (h:aIj T fn.results.toList base ms ks (oV ads (run T f k s orc))=some (res,nb,mb,obs)) (hob:Obs P obs):Good P none n (bodyPost P fn (RR cx res nb mb)) cx [] k s:=by
 subst hb
 unfold aIj at h
 split at h
 ·rename_i s' obs' hrun
  split at h
  ·rename_i res' nb' mb' hf
   simp only [bG,eV] at h
   obtain⟨rfl,rfl,rfl,rfl⟩:=h
   obtain⟨o',hr,hg⟩:=uY (P:=P) (r:=none) (n:=n) (Q:=bodyPost P fn (RR cx res' nb' mb')) (cx:=cx) (D:=[]) hrun
   exact iE hT hm f k s orc _ _ _ hr hob (hg (fun ρ a W hrep=>aNi hT hf ρ a W hrep))
  ·cases h
 ·cases h
end Go.Aw
namespace Go.Proofs.YtkdfcbmcgnaicaaGreat
open Go.Proofs Go.Aw Go.RowKit
set_option maxRecDepth 100000
noncomputable def T0:=conv Tryz.prog
theorem hT:nI Tryz.prog T0:=fun _ _ h=>h
theorem hm:Tryz.prog.follows .mixedOrders=true:=by kernel_rfl
def W (n:Int):Int:=IntKind.wrap .i64 n
theorem aUm (n:Int):W n=if n % 18446744073709551616≥9223372036854775808 then n % 18446744073709551616 - 18446744073709551616 else n % 18446744073709551616:=by
 unfold W IntKind.wrap
 simp [IntKind.bits,IntKind.signed]
theorem aR {n:Int} (h1:-9223372036854775808<=n)(h2:n < 9223372036854775808):W n=n:=by
 rw [aUm];split<;>omega
theorem vA (b:Bool):b=true\/b=false:=by cases b<;>simp
def k9 (x:Zt×Zt×Zt):List SV:=[(iv x.1.1),(iv x.1.2.1),(iv x.1.2.2),(iv x.2.1.1),(iv x.2.1.2.1),(iv x.2.1.2.2),(iv x.2.2.1),(iv x.2.2.2.1),(iv x.2.2.2.2)]
def k3 (x:Zt):List SV:=[(iv x.1),(iv x.2.1),(iv x.2.2)]
def k2 (x:Int×Int):List SV:=[(iv x.1),(iv x.2)]
section
variable {cx : Cx} {k : List K} {s : LS} {base : Nat} {Q : Exit → Act → World → Prop}
theorem rt {fn:Func} (sts:List (St Tryz.prog))(ads:List Adj)(ks:List Nat)(hb:cx.base=base) {res:SV} {nb:List BK}
 (h:aGi T0 fn.results.toList base [] ks (oV ads (run T0 5000 k s (nJ sts)))=some (res,nb,[],stB sts)):Aw.Good Tryz.prog none 9 (bodyPost Tryz.prog fn (RR cx res nb [])) cx [] k s:=aUl hT hm sts ads ks hb h
theorem wG {fn:Func} (sts:List (St Tryz.prog))(ads:List Adj)(ms ks:List Nat)(hb:cx.base=base) {res:SV} {nb mb:List BK}
 (h:aGi T0 fn.results.toList base ms ks (oV ads (run T0 5000 k s (nJ sts)))=some (res,nb,mb,stB sts)):Aw.Good Tryz.prog none 9 (bodyPost Tryz.prog fn (RR cx res nb mb)) cx [] k s:=aNk hT hm ads ms ks hb h (aAr sts)
theorem rtn {fn:Func} (sts:List (St Tryz.prog))(ads:List Adj)(ms ks:List Nat)(hb:cx.base=base) {res:SV} {nb mb:List BK}
 (h:aIj T0 fn.results.toList base ms ks (oV ads (run T0 5000 k s (nJ sts)))=some (res,nb,mb,stB sts)):Aw.Good Tryz.prog none 9 (bodyPost Tryz.prog fn (RR cx res nb mb)) cx [] k s:=aQo hT hm ads ms ks hb h (aAr sts)
theorem en (sts:List (St Tryz.prog))(ads:List Adj)(ts ks:List Nat)(hb:cx.base=base)(body:Code)(k':List K)(s':LS)(m:Nat)
 (h:uX base ts ks (oV ads (run T0 5000 k s (nJ sts)))=some (body,k',s',stB sts)) (hg:Aw.Good Tryz.prog none 9 Q cx [] (.l body m::k') s'):Aw.Good Tryz.prog none 9 Q cx [] k s:=aQn hT hm sts ads ts ks hb body k' s' m h hg
theorem ba {m:Nat} (sts:List (St Tryz.prog))(ads:List Adj)(ts ks:List Nat)(hb:cx.base=base)(body:Code)(k':List K)(s':LS)
 (h:aAm base ts ks (oV ads (run T0 5000 k s (nJ sts)))=some (body,m,k',s',stB sts)) (hg:Aw.Good Tryz.prog none 9 Q cx [] (.l body m::k') s'):Aw.Good Tryz.prog none 9 Q cx [] k s:=aTd hT hm sts ads ts ks hb body k' s' h hg
theorem ga (sts:List (St Tryz.prog))(ads:List Adj)(ts ks:List Nat)(hb:cx.base=base)(x:Code)(k':List K)(s':LS)
 (h:aNm base ts ks (oV ads (run T0 5000 k s (nJ sts)))=some (x,k',s',stB sts)) (hg:Aw.Good Tryz.prog none 9 Q cx [] (.c x::k') s'):Aw.Good Tryz.prog none 9 Q cx [] k s:=aWd hT hm sts ads ts ks hb x k' s' h hg
end
end Go.Proofs.YtkdfcbmcgnaicaaGreat
namespace Go.Proofs.YtkdfcbmcgnaicaaGreat
open Go.Proofs Go.Aw Go.RowKit
set_option maxRecDepth 100000
def F85 (a0:Int)(a1:Int)(a2:Int):Bool :=
 (bif (decide ((a1:Int)<=a0)) then
  (decide ((a0:Int)<=a2))
 else
  false)
theorem C85 (a0:Int)(a1:Int)(a2:Int):Con Tryz.prog 85 [(iv a0),(iv a1),(iv a2)] [] (.v (.bool (F85 a0 a1 a2))) []:=by
 refine bA Tryz.func85 (by kernel_rfl) fun cx hcx=>?_
 cases h0:(decide ((a1:Int)<=a0)) with
 | true =>
  have q0:=cN h0
  have e:=Eq.refl (F85 a0 a1 a2);conv at e=>rhs;simp only [F85,h0,aW]
  rw [e]
  exact rt [.d h0] [] [] hcx (by kernel_rfl)
 | false =>
  have q0:=cY h0
  have e:=Eq.refl (F85 a0 a1 a2);conv at e=>rhs;simp only [F85,h0,aW]
  rw [e]
  exact rt [.d h0] [] [] hcx (by kernel_rfl)
def F68 (a0:Zt)(a1:Int):Bool :=
 (bif (F85 a0.1 (W (0 - a1)) a1) then
  (bif (F85 a0.2.1 (W (0 - a1)) a1) then
   (F85 a0.2.2 (W (0 - a1)) a1)
  else
   false)
 else
  false)
theorem C68 (a0:Zt)(a1:Int):Con Tryz.prog 68 [(.a (k3 a0)),(iv a1)] [] (.v (.bool (F68 a0 a1))) []:=by
 refine bA Tryz.func68 (by kernel_rfl) fun cx hcx=>?_
 let t0:List (St Tryz.prog):=[.c [] (C85 a0.1 (W (0 - a1)) a1)]
 cases h0:(F85 a0.1 (W (0 - a1)) a1) with
 | true =>
  let t1:List (St Tryz.prog):=(t0++[.d h0,.c [] (C85 a0.2.1 (W (0 - a1)) a1)])
  cases h1:(F85 a0.2.1 (W (0 - a1)) a1) with
  | true =>
   have e:=Eq.refl (F68 a0 a1);conv at e=>rhs;simp only [F68,h0,h1,aW]
   rw [e]
   exact rt (t1++[.d h1,.c [] (C85 a0.2.2 (W (0 - a1)) a1)]) [] [] hcx (by kernel_rfl)
  | false =>
   have e:=Eq.refl (F68 a0 a1);conv at e=>rhs;simp only [F68,h0,h1,aW]
   rw [e]
   exact rt (t1++[.d h1]) [] [] hcx (by kernel_rfl)
 | false =>
  have e:=Eq.refl (F68 a0 a1);conv at e=>rhs;simp only [F68,h0,aW]
  rw [e]
  exact rt (t0++[.d h0]) [] [] hcx (by kernel_rfl)
def aNp (a0:Zt)(a1:Int)(a2:Zt):Zt :=
 ((W (a0.1+(W (a1*a2.1)))),(W (a0.2.1+(W (a1*a2.2.1)))),(W (a0.2.2+(W (a1*a2.2.2)))))
theorem aWe (a0:Zt)(a1:Int)(a2:Zt):Con Tryz.prog 107 [(.a (k3 a0)),(iv a1),(.a (k3 a2))] [] (.a (k3 (aNp a0 a1 a2))) []:=by
 refine bA Tryz.func107 (by kernel_rfl) fun cx hcx=>?_
 have e:=Eq.refl (aNp a0 a1 a2);conv at e=>rhs;simp only [aNp]
 rw [e]
 exact rt [] [] [] hcx (by kernel_rfl)
def F87 (a0:Zt)(a1:Zt):Zt :=
 (aNp a0 (-1) a1)
theorem C87 (a0:Zt)(a1:Zt):Con Tryz.prog 87 [(.a (k3 a0)),(.a (k3 a1))] [] (.a (k3 (F87 a0 a1))) []:=by
 refine bA Tryz.func87 (by kernel_rfl) fun cx hcx=>?_
 have e:=Eq.refl (F87 a0 a1);conv at e=>rhs;simp only [F87]
 rw [e]
 exact rt [.c [] (aWe a0 (-1) a1)] [] [] hcx (by kernel_rfl)
def F86 (a0:Zt)(a1:Zt):Zt :=
 ((W ((W (a0.2.1*a1.2.2)) - (W (a0.2.2*a1.2.1)))),(W ((W (a0.2.2*a1.1)) - (W (a0.1*a1.2.2)))),(W ((W (a0.1*a1.2.1)) - (W (a0.2.1*a1.1)))))
theorem C86 (a0:Zt)(a1:Zt):Con Tryz.prog 86 [(.a (k3 a0)),(.a (k3 a1))] [] (.a (k3 (F86 a0 a1))) []:=by
 refine bA Tryz.func86 (by kernel_rfl) fun cx hcx=>?_
 have e:=Eq.refl (F86 a0 a1);conv at e=>rhs;simp only [F86]
 rw [e]
 exact rt [] [] [] hcx (by kernel_rfl)
def F69 (a0:Zt×Zt×Zt):Zt :=
 (F86 (F87 a0.2.1 a0.1) (F87 a0.2.2 a0.1))
theorem C69 (a0:Zt×Zt×Zt):Con Tryz.prog 69 [(.a (k9 a0))] [] (.a (k3 (F69 a0))) []:=by
 refine bA Tryz.func69 (by kernel_rfl) fun cx hcx=>?_
 have e:=Eq.refl (F69 a0);conv at e=>rhs;simp only [F69]
 rw [e]
 exact rt [.c [] (C87 a0.2.1 a0.1),.c [] (C87 a0.2.2 a0.1),.c [] (C86 (F87 a0.2.1 a0.1) (F87 a0.2.2 a0.1))] [] [] hcx (by kernel_rfl)
def F47 (a0:Zt×Zt×Zt):Int :=
 (bif (!(F68 a0.1 64)) then
  1
 else
  (bif (!(F68 a0.2.1 64)) then
   1
  else
   (bif (!(F68 a0.2.2 64)) then
    1
   else
    (bif ((((F69 a0).1:Int) == 0)&&((((F69 a0).2.1:Int) == 0)&&((((F69 a0).2.2:Int) == 0)&&true))) then
     6
    else
     0))))
theorem C47 (a0:Zt×Zt×Zt):Con Tryz.prog 47 [(.a (k9 a0))] [] (iv (F47 a0)) []:=by
 refine bA Tryz.func47 (by kernel_rfl) fun cx hcx=>?_
 let t0:List (St Tryz.prog):=[.c [] (C68 a0.1 64)]
 cases h0:(!(F68 a0.1 64)) with
 | true =>
  have e:=Eq.refl (F47 a0);conv at e=>rhs;simp only [F47,h0,aW]
  rw [e]
  exact rt (t0++[.d h0]) [] [] hcx (by kernel_rfl)
 | false =>
  let t1:List (St Tryz.prog):=(t0++[.d h0,.c [] (C68 a0.2.1 64)])
  cases h1:(!(F68 a0.2.1 64)) with
  | true =>
   have e:=Eq.refl (F47 a0);conv at e=>rhs;simp only [F47,h0,h1,aW]
   rw [e]
   exact rt (t1++[.d h1]) [] [] hcx (by kernel_rfl)
  | false =>
   let t2:List (St Tryz.prog):=(t1++[.d h1,.c [] (C68 a0.2.2 64)])
   cases h2:(!(F68 a0.2.2 64)) with
   | true =>
    have e:=Eq.refl (F47 a0);conv at e=>rhs;simp only [F47,h0,h1,h2,aW]
    rw [e]
    exact rt (t2++[.d h2]) [] [] hcx (by kernel_rfl)
   | false =>
    let t3:List (St Tryz.prog):=(t2++[.d h2,.c [] (C69 a0)])
    cases h3:((((F69 a0).1:Int) == 0)&&((((F69 a0).2.1:Int) == 0)&&((((F69 a0).2.2:Int) == 0)&&true))) with
    | true =>
     have e:=Eq.refl (F47 a0);conv at e=>rhs;simp only [F47,h0,h1,h2,h3,aW]
     rw [e]
     exact rt (t3++[.d h3]) [] [] hcx (by kernel_rfl)
    | false =>
     have e:=Eq.refl (F47 a0);conv at e=>rhs;simp only [F47,h0,h1,h2,h3,aW]
     rw [e]
     exact rt (t3++[.d h3]) [] [] hcx (by kernel_rfl)
def jY (x:Int×Int):List SV:=[(iv x.1),(iv x.2)]
theorem gP (x:Int×Int):(jY x).length=2:=rfl
def F37 (a0:Int×Int):Bool :=
 (bif (decide ((a0.1:Int)≥(-1099511627776))) then
  (bif (decide ((a0.1:Int)<=a0.2)) then
   (decide ((a0.2:Int)<=1099511627776))
  else
   false)
 else
  false)
theorem C37 (a0:Int×Int):Con Tryz.prog 37 [(.a [(iv a0.1),(iv a0.2)])] [] (.v (.bool (F37 a0))) []:=by
 refine bA Tryz.func37 (by kernel_rfl) fun cx hcx=>?_
 cases h0:(decide ((a0.1:Int)≥(-1099511627776))) with
 | true =>
  have q0:=cN h0
  let t1:List (St Tryz.prog):=[.d h0]
  cases h1:(decide ((a0.1:Int)<=a0.2)) with
  | true =>
   have q1:=cN h1
   have e:=Eq.refl (F37 a0);conv at e=>rhs;simp only [F37,h0,h1,aW]
   rw [e]
   exact rt (t1++[.d h1]) [] [] hcx (by kernel_rfl)
  | false =>
   have q1:=cY h1
   have e:=Eq.refl (F37 a0);conv at e=>rhs;simp only [F37,h0,h1,aW]
   rw [e]
   exact rt (t1++[.d h1]) [] [] hcx (by kernel_rfl)
 | false =>
  have q0:=cY h0
  have e:=Eq.refl (F37 a0);conv at e=>rhs;simp only [F37,h0,aW]
  rw [e]
  exact rt [.d h0] [] [] hcx (by kernel_rfl)
def vB (a0:List (Int×Int)):Int->(Int)⊕(Int)
 | v1 =>
  (bif (decide ((v1:Int) < (a0.length:Int))) then
   (bif (!(F37 (a0.getD (tN v1) dF))) then
    (.inr 1)
   else
    (.inl (v1+1)))
  else
   (.inr 0))
def aKi (a0:List (Int×Int)):Int :=
 (aH (vB a0) (tN ((a0.length:Int) - 0)+1) 0)
def aDu (a0:List (Int×Int)):Zt->Zt⊕Zt
 | (v1,v2,v3) =>
  (bif (decide ((v3:Int) < (a0.length:Int))) then
   (.inl ((W (v1+(a0.getD (tN v3) dF).1)),(W (v2+(a0.getD (tN v3) dF).2)),(v3+1)))
  else
   (.inr (v1,v2,0)))
def yD (a0:List (Int×Int)):Zt :=
 (bif (decide (((a0.length:Int):Int) > 10000)) then
  (0,0,4)
 else
  (bif (((aKi a0):Int) != 0) then
   (0,0,(aKi a0))
  else
   (aH (aDu a0) (tN ((a0.length:Int) - 0)+1) (0,0,0))))
def F58 (a0:Int)(a1:Int):(Int×Int)×Int :=
 (bif (!(F37 (a0,a1))) then
  ((0,0),4)
 else
  ((a0,a1),0))
def aAs (a0:List (Int×Int)):(Int×Int)×Int :=
 (bif (((yD a0).2.2:Int) != 0) then
  ((0,0),(yD a0).2.2)
 else
  ((F58 (yD a0).1 (yD a0).2.1).1,(F58 (yD a0).1 (yD a0).2.1).2))
def aKj (a0:Int×Int):Int :=
 (bif (!(F37 a0)) then
  1
 else
  0)
def F57 (a0:Int)(a1:Int):Int :=
 (bif ((a0:Int) != 0) then
  (bif ((a1:Int) != 0) then
   (bif (decide (((if(a1:Int) < (W (0 - a1)) then(W (0 - a1)) else a1):Int) > (W (Int.tdiv 1099511627776 (if(a0:Int) < (W (0 - a0)) then(W (0 - a0)) else a0))))) then
    (bif (!((decide ((a0:Int) < 0)) == (decide ((a1:Int) < 0)))) then
     (-1099511627777)
    else
     1099511627777)
   else
    (W (a0*a1)))
  else
   (W (a0*a1)))
 else
  (W (a0*a1)))
def dI (x:(Zt×Zt×Zt)×Int):List SV:=[(iv x.1.1.1),(iv x.1.1.2.1),(iv x.1.1.2.2),(iv x.1.2.1.1),(iv x.1.2.1.2.1),(iv x.1.2.1.2.2),(iv x.1.2.2.1),(iv x.1.2.2.2.1),(iv x.1.2.2.2.2),(iv x.2)]
theorem eM (x:(Zt×Zt×Zt)×Int):(dI x).length=10:=rfl
def F48 (a0:Int)(a1:Int)(a2:Int):Bool :=
 (bif (decide ((a0:Int)≥a1)) then
  (decide ((a0:Int)<=a2))
 else
  false)
theorem C48 (a0:Int)(a1:Int)(a2:Int):Con Tryz.prog 48 [(iv a0),(iv a1),(iv a2)] [] (.v (.bool (F48 a0 a1 a2))) []:=by
 refine bA Tryz.func48 (by kernel_rfl) fun cx hcx=>?_
 cases h0:(decide ((a0:Int)≥a1)) with
 | true =>
  have q0:=cN h0
  have e:=Eq.refl (F48 a0 a1 a2);conv at e=>rhs;simp only [F48,h0,aW]
  rw [e]
  exact rt [.d h0] [] [] hcx (by kernel_rfl)
 | false =>
  have q0:=cY h0
  have e:=Eq.refl (F48 a0 a1 a2);conv at e=>rhs;simp only [F48,h0,aW]
  rw [e]
  exact rt [.d h0] [] [] hcx (by kernel_rfl)
noncomputable def aDv:Code:=(aN [1,1,0,1] [] (aL Tryz.f29) []).1
noncomputable def aDw:List K:=(aN [1,1,0,1] [] (aL Tryz.f29) []).2
def aAt (a0:bT)(v1:Int):LS:=⟨gO 26 [(9,(.s 0 0 a0.length 10)),(10,(iv (a0.length:Int))),(11,(iv v1))],[(.live false true (flat dI a0))]⟩
def gX (a0:bT):Int->(Int)⊕(Int)
 | v1 =>
  (bif (decide ((v1:Int) < (a0.length:Int))) then
   (bif (((F47 (a0.getD (tN v1) dF).1):Int) != 0) then
    (.inr (F47 (a0.getD (tN v1) dF).1))
   else
    (bif (!(F48 (a0.getD (tN v1) dF).2 (-100) 100)) then
     (.inr 1)
    else
     (.inl (v1+1))))
  else
   (.inr 0))
theorem aQp (a0:bT)(l0:a0.length<=2^63-1) {cx:Cx} (hcx:cx.base=1):∀(n:Nat) (v1:Int),0<=v1->tN ((a0.length:Int) - v1) < n->Aw.Good Tryz.prog none 9 (bodyPost Tryz.prog Tryz.f29 (RR cx (iv (aH (gX a0) n v1)) [] [])) cx [] (.l aDv n::aDw) (aAt a0 v1):=by
 intro n
 induction n with
 | zero=>intro v1 hi hn;exact absurd hn (eL _)
 | succ n ih =>
  intro v1 hi hn
  refine aS ?_
  cases h0:(decide ((v1:Int) < (a0.length:Int))) with
  | true =>
   have q0:=cN h0
   let t1:List (St Tryz.prog):=[.d h0,.i v1 (a0.length),.L eM a0 v1 0 10,.c [] (C47 (a0.getD (tN v1) dF).1)]
   cases h1:(((F47 (a0.getD (tN v1) dF).1):Int) != 0) with
   | true =>
    have q1:=bne_iff_ne.1 h1
    have e:=Eq.refl (gX a0 v1);conv at e=>rhs;simp only [gX,h0,h1,aW]
    rw [aK,e]
    exact rt (t1++[.d h1]) [] [] hcx (by kernel_rfl)
   | false =>
    have q1:=bne_eq_false_iff_eq.1 h1
    let t2:List (St Tryz.prog):=(t1++[.d h1,.c [] (C48 (a0.getD (tN v1) dF).2 (-100) 100)])
    cases h2:(!(F48 (a0.getD (tN v1) dF).2 (-100) 100)) with
    | true =>
     have e:=Eq.refl (gX a0 v1);conv at e=>rhs;simp only [gX,h0,h1,h2,aW]
     rw [aK,e]
     exact rt (t2++[.d h2]) [] [] hcx (by kernel_rfl)
    | false =>
     have e:=Eq.refl (gX a0 v1);conv at e=>rhs;simp only [gX,h0,h1,h2,aW]
     rw [aI e]
     refine ba (t2++[.d h2]) [] [9,10,11] [] hcx (m:=n) aDv (aDw) (aAt a0 (W (v1+1))) (by kernel_rfl) ?_
     have z0:(W (v1+1))=(v1+1):=aR (by omega) (by omega)
     rw [z0]
     exact ih (v1+1) (by omega) (by omega)
  | false =>
   have q0:=cY h0
   have e:=Eq.refl (gX a0 v1);conv at e=>rhs;simp only [gX,h0,aW]
   rw [aK,e]
   exact rt [.d h0] [] [] hcx (by kernel_rfl)
def iY (a0:bT):Int :=
 (bif (decide (((a0.length:Int):Int) > 96)) then
  4
 else
  (aH (gX a0) (tN ((a0.length:Int) - 0)+1) 0))
theorem aNq (a0:bT)(l0:a0.length<=2^63-1):Con Tryz.prog 29 [(.s 0 0 a0.length 10)] [(.live false true (flat dI a0))] (iv (iY a0)) []:=by
 refine bA Tryz.func29 (by kernel_rfl) fun cx hcx=>?_
 cases h0:(decide (((a0.length:Int):Int) > 96)) with
 | true =>
  have q0:=cN h0
  have e:=Eq.refl (iY a0);conv at e=>rhs;simp only [iY,h0,aW]
  rw [e]
  exact rt [.d h0] [] [] hcx (by kernel_rfl)
 | false =>
  have q0:=cY h0
  have e:=Eq.refl (iY a0);conv at e=>rhs;simp only [iY,h0,aW]
  rw [e]
  refine en [.d h0] [] [9,10,11] [] hcx aDv (aDw) (aAt a0 0) (tN ((a0.length:Int) - 0)+1) (by kernel_rfl) ?_
  exact aQp a0 l0 hcx (tN ((a0.length:Int) - 0)+1) 0 (by omega) (by omega)
def F64 (a0:Int)(a1:Int)(a2:Int):Bool :=
 (bif (decide ((a0:Int)≥a1)) then
  (decide ((a0:Int)<=a2))
 else
  false)
def yY (a0:Int×Int):Bool :=
 (bif (decide ((a0.1:Int)≥(-1099511627776))) then
  (bif (decide ((a0.1:Int)<=a0.2)) then
   (decide ((a0.2:Int)<=1099511627776))
  else
   false)
 else
  false)
theorem C44 (a0:Int×Int):Con Tryz.prog 44 [(.a [(iv a0.1),(iv a0.2)])] [] (.v (.bool (yY a0))) []:=by
 refine bA Tryz.func44 (by kernel_rfl) fun cx hcx=>?_
 cases h0:(decide ((a0.1:Int)≥(-1099511627776))) with
 | true =>
  have q0:=cN h0
  let t1:List (St Tryz.prog):=[.d h0]
  cases h1:(decide ((a0.1:Int)<=a0.2)) with
  | true =>
   have q1:=cN h1
   have e:=Eq.refl (yY a0);conv at e=>rhs;simp only [yY,h0,h1,aW]
   rw [e]
   exact rt (t1++[.d h1]) [] [] hcx (by kernel_rfl)
  | false =>
   have q1:=cY h1
   have e:=Eq.refl (yY a0);conv at e=>rhs;simp only [yY,h0,h1,aW]
   rw [e]
   exact rt (t1++[.d h1]) [] [] hcx (by kernel_rfl)
 | false =>
  have q0:=cY h0
  have e:=Eq.refl (yY a0);conv at e=>rhs;simp only [yY,h0,aW]
  rw [e]
  exact rt [.d h0] [] [] hcx (by kernel_rfl)
def aDx (a0:Zt)(a1:Zt):Zt :=
 ((W (a0.1 - a1.1)),(W (a0.2.1 - a1.2.1)),(W (a0.2.2 - a1.2.2)))
theorem aUn (a0:Zt)(a1:Zt):Con Tryz.prog 122 [(.a (k3 a0)),(.a (k3 a1))] [] (.a (k3 (aDx a0 a1))) []:=by
 refine bA Tryz.func122 (by kernel_rfl) fun cx hcx=>?_
 have e:=Eq.refl (aDx a0 a1);conv at e=>rhs;simp only [aDx]
 rw [e]
 exact rt [] [] [] hcx (by kernel_rfl)
def aNr (a0:Zt)(a1:Zt):Zt :=
 ((W ((W (a0.2.1*a1.2.2)) - (W (a0.2.2*a1.2.1)))),(W ((W (a0.2.2*a1.1)) - (W (a0.1*a1.2.2)))),(W ((W (a0.1*a1.2.1)) - (W (a0.2.1*a1.1)))))
theorem aWf (a0:Zt)(a1:Zt):Con Tryz.prog 121 [(.a (k3 a0)),(.a (k3 a1))] [] (.a (k3 (aNr a0 a1))) []:=by
 refine bA Tryz.func121 (by kernel_rfl) fun cx hcx=>?_
 have e:=Eq.refl (aNr a0 a1);conv at e=>rhs;simp only [aNr]
 rw [e]
 exact rt [] [] [] hcx (by kernel_rfl)
def F99 (a0:Zt×Zt×Zt):Zt :=
 (aNr (aDx a0.2.1 a0.1) (aDx a0.2.2 a0.1))
theorem C99 (a0:Zt×Zt×Zt):Con Tryz.prog 99 [(.a (k9 a0))] [] (.a (k3 (F99 a0))) []:=by
 refine bA Tryz.func99 (by kernel_rfl) fun cx hcx=>?_
 have e:=Eq.refl (F99 a0);conv at e=>rhs;simp only [F99]
 rw [e]
 exact rt [.c [] (aUn a0.2.1 a0.1),.c [] (aUn a0.2.2 a0.1),.c [] (aWf (aDx a0.2.1 a0.1) (aDx a0.2.2 a0.1))] [] [] hcx (by kernel_rfl)
def yU (a0:Int)(a1:Int)(a2:Int):Bool :=
 (bif (decide ((a0:Int)≥a1)) then
  (decide ((a0:Int)<=a2))
 else
  false)
theorem aTf (a0:Int)(a1:Int)(a2:Int):Con Tryz.prog 120 [(iv a0),(iv a1),(iv a2)] [] (.v (.bool (yU a0 a1 a2))) []:=by
 refine bA Tryz.func120 (by kernel_rfl) fun cx hcx=>?_
 cases h0:(decide ((a0:Int)≥a1)) with
 | true =>
  have q0:=cN h0
  have e:=Eq.refl (yU a0 a1 a2);conv at e=>rhs;simp only [yU,h0,aW]
  rw [e]
  exact rt [.d h0] [] [] hcx (by kernel_rfl)
 | false =>
  have q0:=cY h0
  have e:=Eq.refl (yU a0 a1 a2);conv at e=>rhs;simp only [yU,h0,aW]
  rw [e]
  exact rt [.d h0] [] [] hcx (by kernel_rfl)
def F98 (a0:Zt)(a1:Int):Bool :=
 (bif (yU a0.1 (W (0 - a1)) a1) then
  (bif (yU a0.2.1 (W (0 - a1)) a1) then
   (yU a0.2.2 (W (0 - a1)) a1)
  else
   false)
 else
  false)
theorem C98 (a0:Zt)(a1:Int):Con Tryz.prog 98 [(.a (k3 a0)),(iv a1)] [] (.v (.bool (F98 a0 a1))) []:=by
 refine bA Tryz.func98 (by kernel_rfl) fun cx hcx=>?_
 let t0:List (St Tryz.prog):=[.c [] (aTf a0.1 (W (0 - a1)) a1)]
 cases h0:(yU a0.1 (W (0 - a1)) a1) with
 | true =>
  let t1:List (St Tryz.prog):=(t0++[.d h0,.c [] (aTf a0.2.1 (W (0 - a1)) a1)])
  cases h1:(yU a0.2.1 (W (0 - a1)) a1) with
  | true =>
   have e:=Eq.refl (F98 a0 a1);conv at e=>rhs;simp only [F98,h0,h1,aW]
   rw [e]
   exact rt (t1++[.d h1,.c [] (aTf a0.2.2 (W (0 - a1)) a1)]) [] [] hcx (by kernel_rfl)
  | false =>
   have e:=Eq.refl (F98 a0 a1);conv at e=>rhs;simp only [F98,h0,h1,aW]
   rw [e]
   exact rt (t1++[.d h1]) [] [] hcx (by kernel_rfl)
 | false =>
  have e:=Eq.refl (F98 a0 a1);conv at e=>rhs;simp only [F98,h0,aW]
  rw [e]
  exact rt (t0++[.d h0]) [] [] hcx (by kernel_rfl)
def F78 (a0:Zt×Zt×Zt):Int :=
 (bif (!(F98 a0.1 64)) then
  1
 else
  (bif (!(F98 a0.2.1 64)) then
   1
  else
   (bif (!(F98 a0.2.2 64)) then
    1
   else
    (bif ((((F99 a0).1:Int) == 0)&&((((F99 a0).2.1:Int) == 0)&&((((F99 a0).2.2:Int) == 0)&&true))) then
     6
    else
     0))))
theorem C78 (a0:Zt×Zt×Zt):Con Tryz.prog 78 [(.a (k9 a0))] [] (iv (F78 a0)) []:=by
 refine bA Tryz.func78 (by kernel_rfl) fun cx hcx=>?_
 let t0:List (St Tryz.prog):=[.c [] (C98 a0.1 64)]
 cases h0:(!(F98 a0.1 64)) with
 | true =>
  have e:=Eq.refl (F78 a0);conv at e=>rhs;simp only [F78,h0,aW]
  rw [e]
  exact rt (t0++[.d h0]) [] [] hcx (by kernel_rfl)
 | false =>
  let t1:List (St Tryz.prog):=(t0++[.d h0,.c [] (C98 a0.2.1 64)])
  cases h1:(!(F98 a0.2.1 64)) with
  | true =>
   have e:=Eq.refl (F78 a0);conv at e=>rhs;simp only [F78,h0,h1,aW]
   rw [e]
   exact rt (t1++[.d h1]) [] [] hcx (by kernel_rfl)
  | false =>
   let t2:List (St Tryz.prog):=(t1++[.d h1,.c [] (C98 a0.2.2 64)])
   cases h2:(!(F98 a0.2.2 64)) with
   | true =>
    have e:=Eq.refl (F78 a0);conv at e=>rhs;simp only [F78,h0,h1,h2,aW]
    rw [e]
    exact rt (t2++[.d h2]) [] [] hcx (by kernel_rfl)
   | false =>
    let t3:List (St Tryz.prog):=(t2++[.d h2,.c [] (C99 a0)])
    cases h3:((((F99 a0).1:Int) == 0)&&((((F99 a0).2.1:Int) == 0)&&((((F99 a0).2.2:Int) == 0)&&true))) with
    | true =>
     have e:=Eq.refl (F78 a0);conv at e=>rhs;simp only [F78,h0,h1,h2,h3,aW]
     rw [e]
     exact rt (t3++[.d h3]) [] [] hcx (by kernel_rfl)
    | false =>
     have e:=Eq.refl (F78 a0);conv at e=>rhs;simp only [F78,h0,h1,h2,h3,aW]
     rw [e]
     exact rt (t3++[.d h3]) [] [] hcx (by kernel_rfl)
def aDy (a0:List (Int×Int)):Zt->Zt⊕Zt
 | (v1,v2,v3) =>
  (bif (decide ((v3:Int) < (a0.length:Int))) then
   (bif (!(yY (a0.getD (tN v3) dF))) then
    (.inr (0,0,1))
   else
    (.inl ((W (v1+(a0.getD (tN v3) dF).1)),(W (v2+(a0.getD (tN v3) dF).2)),(v3+1))))
  else
   (.inr (v1,v2,0)))
def yE (a0:List (Int×Int)):Zt :=
 (bif (decide (((a0.length:Int):Int) > 10000)) then
  (0,0,4)
 else
  (aH (aDy a0) (tN ((a0.length:Int) - 0)+1) (0,0,0)))
def F65 (a0:Int)(a1:Int):(Int×Int)×Int :=
 (bif (!(yY (a0,a1))) then
  ((0,0),4)
 else
  ((a0,a1),0))
def aAu (a0:List (Int×Int)):(Int×Int)×Int :=
 (bif (((yE a0).2.2:Int) != 0) then
  ((0,0),(yE a0).2.2)
 else
  ((F65 (yE a0).1 (yE a0).2.1).1,(F65 (yE a0).1 (yE a0).2.1).2))
def F79 (a0:Int)(a1:Int)(a2:Int):Bool :=
 (bif (decide ((a0:Int)≥a1)) then
  (decide ((a0:Int)<=a2))
 else
  false)
theorem C79 (a0:Int)(a1:Int)(a2:Int):Con Tryz.prog 79 [(iv a0),(iv a1),(iv a2)] [] (.v (.bool (F79 a0 a1 a2))) []:=by
 refine bA Tryz.func79 (by kernel_rfl) fun cx hcx=>?_
 cases h0:(decide ((a0:Int)≥a1)) with
 | true =>
  have q0:=cN h0
  have e:=Eq.refl (F79 a0 a1 a2);conv at e=>rhs;simp only [F79,h0,aW]
  rw [e]
  exact rt [.d h0] [] [] hcx (by kernel_rfl)
 | false =>
  have q0:=cY h0
  have e:=Eq.refl (F79 a0 a1 a2);conv at e=>rhs;simp only [F79,h0,aW]
  rw [e]
  exact rt [.d h0] [] [] hcx (by kernel_rfl)
noncomputable def aDz:Code:=(aN [1,1,0,1] [] (aL Tryz.f60) []).1
noncomputable def aD0:List K:=(aN [1,1,0,1] [] (aL Tryz.f60) []).2
def aAv (a0:bT)(v1:Int):LS:=⟨gO 30 [(0,(.s 0 0 a0.length 10)),(3,(iv v1))],[(.live false true (flat dI a0))]⟩
def jH (a0:bT):Int->(Int)⊕(Int)
 | v1 =>
  (bif (decide ((v1:Int) < (a0.length:Int))) then
   (bif (((F78 (a0.getD (tN v1) dF).1):Int) != 0) then
    (.inr (F78 (a0.getD (tN v1) dF).1))
   else
    (bif (!(F79 (a0.getD (tN v1) dF).2 (-100) 100)) then
     (.inr 1)
    else
     (.inl (v1+1))))
  else
   (.inr 0))
theorem aQq (a0:bT)(l0:a0.length<=2^63-1) {cx:Cx} (hcx:cx.base=1):∀(n:Nat) (v1:Int),0<=v1->tN ((a0.length:Int) - v1) < n->Aw.Good Tryz.prog none 9 (bodyPost Tryz.prog Tryz.f60 (RR cx (iv (aH (jH a0) n v1)) [] [])) cx [] (.l aDz n::aD0) (aAv a0 v1):=by
 intro n
 induction n with
 | zero=>intro v1 hi hn;exact absurd hn (eL _)
 | succ n ih =>
  intro v1 hi hn
  refine aS ?_
  cases h0:(decide ((v1:Int) < (a0.length:Int))) with
  | true =>
   have q0:=cN h0
   let t1:List (St Tryz.prog):=[.d h0,.i v1 (a0.length),.L eM a0 v1 0 9,.c [] (C78 (a0.getD (tN v1) dF).1)]
   cases h1:(((F78 (a0.getD (tN v1) dF).1):Int) != 0) with
   | true =>
    have q1:=bne_iff_ne.1 h1
    have e:=Eq.refl (jH a0 v1);conv at e=>rhs;simp only [jH,h0,h1,aW]
    rw [aK,e]
    exact rt (t1++[.d h1]) [] [] hcx (by kernel_rfl)
   | false =>
    have q1:=bne_eq_false_iff_eq.1 h1
    let t2:List (St Tryz.prog):=(t1++[.d h1,.i v1 (a0.length),.L eM a0 v1 9 1,.c [] (C79 (a0.getD (tN v1) dF).2 (-100) 100)])
    cases h2:(!(F79 (a0.getD (tN v1) dF).2 (-100) 100)) with
    | true =>
     have e:=Eq.refl (jH a0 v1);conv at e=>rhs;simp only [jH,h0,h1,h2,aW]
     rw [aK,e]
     exact rt (t2++[.d h2]) [] [] hcx (by kernel_rfl)
    | false =>
     have e:=Eq.refl (jH a0 v1);conv at e=>rhs;simp only [jH,h0,h1,h2,aW]
     rw [aI e]
     refine ba (t2++[.d h2]) [] [0,3] [] hcx (m:=n) aDz (aD0) (aAv a0 (W (v1+1))) (by kernel_rfl) ?_
     have z0:(W (v1+1))=(v1+1):=aR (by omega) (by omega)
     rw [z0]
     exact ih (v1+1) (by omega) (by omega)
  | false =>
   have q0:=cY h0
   have e:=Eq.refl (jH a0 v1);conv at e=>rhs;simp only [jH,h0,aW]
   rw [aK,e]
   exact rt [.d h0] [] [] hcx (by kernel_rfl)
def kN (a0:bT):Int :=
 (bif (decide (((a0.length:Int):Int) > 96)) then
  4
 else
  (aH (jH a0) (tN ((a0.length:Int) - 0)+1) 0))
theorem aSh (a0:bT)(l0:a0.length<=2^63-1):Con Tryz.prog 60 [(.s 0 0 a0.length 10)] [(.live false true (flat dI a0))] (iv (kN a0)) []:=by
 refine bA Tryz.func60 (by kernel_rfl) fun cx hcx=>?_
 cases h0:(decide (((a0.length:Int):Int) > 96)) with
 | true =>
  have q0:=cN h0
  have e:=Eq.refl (kN a0);conv at e=>rhs;simp only [kN,h0,aW]
  rw [e]
  exact rt [.d h0] [] [] hcx (by kernel_rfl)
 | false =>
  have q0:=cY h0
  have e:=Eq.refl (kN a0);conv at e=>rhs;simp only [kN,h0,aW]
  rw [e]
  refine en [.d h0] [] [0,3] [] hcx aDz (aD0) (aAv a0 0) (tN ((a0.length:Int) - 0)+1) (by kernel_rfl) ?_
  exact aQq a0 l0 hcx (tN ((a0.length:Int) - 0)+1) 0 (by omega) (by omega)
def aWy (n r:Int):Prop:=0<=r/\r*r<=n/\n < (r+1)*(r+1)
abbrev P3:=Zt
abbrev PN:=P3×P3×P3
def bd (m:Int)(p:P3):Prop:=(-m<=p.1/\p.1<=m)/\(-m<=p.2.1/\p.2.1<=m)/\(-m<=p.2.2/\p.2.2<=m)
def bdP (m:Int)(p:PN):Prop:=bd m p.1/\bd m p.2.1/\bd m p.2.2
def sb (p q:P3):P3:=(p.1 - q.1,p.2.1 - q.2.1,p.2.2 - q.2.2)
def dt (p q:P3):Int:=p.1*q.1+p.2.1*q.2.1+p.2.2*q.2.2
def cr (p q:P3):P3:=(p.2.1*q.2.2 - p.2.2*q.2.1,p.2.2*q.1 - p.1*q.2.2,p.1*q.2.1 - p.2.1*q.1)
def nrm (p:PN):P3:=cr (sb p.2.1 p.1) (sb p.2.2 p.1)
theorem nY {a b x y:Int} (hx:-a<=x/\x<=a)(hy:-b<=y/\y<=b):-(a*b)<=x*y/\x*y<=a*b:=by
 have h1:=Int.mul_nonneg (show 0<=a - x by omega) (show 0<=b - y by omega)
 have h2:=Int.mul_nonneg (show 0<=a+x by omega) (show 0<=b+y by omega)
 have h3:=Int.mul_nonneg (show 0<=a - x by omega) (show 0<=b+y by omega)
 have h4:=Int.mul_nonneg (show 0<=a+x by omega) (show 0<=b - y by omega)
 rw [Int.sub_mul,Int.mul_sub,Int.mul_sub] at h1
 rw [Int.add_mul,Int.mul_add,Int.mul_add] at h2
 rw [Int.sub_mul,Int.mul_add,Int.mul_add] at h3
 rw [Int.add_mul,Int.mul_sub,Int.mul_sub] at h4
 omega
theorem aKk {a b:Int} {p q:P3} (hp:bd a p)(hq:bd b q):bd (a+b) (sb p q):=by
 unfold bd at *;simp only [sb];omega
theorem aKl (x:Int):0<=x*x:=by
 rcases Int.le_total 0 x with h | h
 ·exact Int.mul_nonneg h h
 ·exact Int.mul_nonneg_of_nonpos_of_nonpos h h
theorem aTg {p:P3} (h:¬(p.1=0/\p.2.1=0/\p.2.2=0)):1<=dt p p:=by
 have:=aKl p.1;have:=aKl p.2.1;have:=aKl p.2.2
 have key:∀x:Int,x≠0->1<=x*x:=fun x hx=>by
  have h0:=aKl x
  have:x*x≠0:=Int.mul_ne_zero hx hx
  omega
 simp only [dt]
 by_cases h1:p.1=0
 ·by_cases h2:p.2.1=0
  ·have:=key p.2.2 (fun h3=>h ⟨h1,h2,h3⟩);omega
  ·have:=key _ h2;omega
 ·have:=key _ h1;omega
theorem rsb {p q:P3} (hp:bd 100000 p)(hq:bd 100000 q):aDx p q=sb p q:=by
 unfold bd at *;simp only [aDx,sb]
 rw [aR (by omega) (by omega),aR (by omega) (by omega),aR (by omega) (by omega)]
theorem aUo {p q:P3} (hp:bd 1000000000 p)(hq:bd 1000000000 q) :
 ((W ((W (p.2.1*q.2.2)) - (W (p.2.2*q.2.1)))),(W ((W (p.2.2*q.1)) - (W (p.1*q.2.2)))),(W ((W (p.1*q.2.1)) - (W (p.2.1*q.1)))))=cr p q:=by
 have h1:=nY hp.2.1 hq.2.2;have h2:=nY hp.2.2 hq.2.1;have h3:=nY hp.2.2 hq.1;have h4:=nY hp.1 hq.2.2;have h5:=nY hp.1 hq.2.1;have h6:=nY hp.2.1 hq.1
 simp only [cr]
 rw [aR (n:=p.2.1*q.2.2) (by omega) (by omega),aR (n:=p.2.2*q.2.1) (by omega) (by omega),aR (n:=p.2.2*q.1) (by omega) (by omega),aR (n:=p.1*q.2.2) (by omega) (by omega),aR (n:=p.1*q.2.1) (by omega) (by omega),aR (n:=p.2.1*q.1) (by omega) (by omega),
  aR (by omega) (by omega),aR (by omega) (by omega),aR (by omega) (by omega)]
theorem scr {p q:P3} (hp:bd 1000000000 p)(hq:bd 1000000000 q):F86 p q=cr p q:=aUo hp hq
theorem rcr {p q:P3} (hp:bd 1000000000 p)(hq:bd 1000000000 q):aNr p q=cr p q:=aUo hp hq
theorem ssb {p q:P3} (hp:bd 100000 p)(hq:bd 100000 q):F87 p q=sb p q:=by
 unfold bd at *;simp only [F87,aNp,sb]
 rw [aR (n:=-1*q.1) (by omega) (by omega),aR (n:=-1*q.2.1) (by omega) (by omega),aR (n:=-1*q.2.2) (by omega) (by omega),aR (by omega) (by omega),aR (by omega) (by omega),aR (by omega) (by omega)]
 refine Prod.ext (by simp only;omega) (Prod.ext (by simp only;omega) (by simp only;omega))
theorem bd.mono {a b:Int} {p:P3} (h:bd a p)(hab:a<=b):bd b p:=by unfold bd at *;omega
theorem aIk (n a b:Int):F64 n a b=decide (a<=n/\n<=b):=by
 unfold F64
 by_cases h1:n≥a<;>by_cases h2:n<=b<;>simp [h1,h2]<;>omega
theorem tR (n a b:Int):yU n a b=decide (a<=n/\n<=b):=by
 unfold yU
 by_cases h1:n≥a<;>by_cases h2:n<=b<;>simp [h1,h2]<;>omega
theorem aD1 (n a b:Int):F85 n a b=decide (a<=n/\n<=b):=by
 unfold F85
 by_cases h1:a<=n<;>by_cases h2:n<=b<;>simp [h1,h2]
theorem aUp {a b c d:Prop} [Decidable a] [Decidable b] [Decidable c] [Decidable d] (h:(a/\b/\c)↔d):(bif decide a then(bif decide b then decide c else false) else false)=decide d:=by
 by_cases h1:a
 ·by_cases h2:b
  ·rw [cI h1,cI h2,cond_true,cond_true]
   by_cases h3:c
   ·rw [cI h3,cI (h.1 ⟨h1,h2,h3⟩)]
   ·rw [dA h3,dA (fun hd=>h3 (h.2 hd).2.2)]
  ·rw [cI h1,dA h2,cond_true,cond_false,dA (fun hd=>h2 (h.2 hd).2.1)]
 ·rw [dA h1,cond_false,dA (fun hd=>h1 (h.2 hd).1)]
theorem eq3 (x y z a b:Int):(bif (((x:Int) == 0)&&(((y:Int) == 0)&&(((z:Int) == 0)&&true))) then a else b)=if x=0/\y=0/\z=0 then a else b:=by
 have key:∀t:Int,(t == 0)=decide (t=0):=fun t=>by
  by_cases h:t=0
  ·rw [cI h];simpa using h
  ·rw [dA h];simpa using h
 rw [key,key,key,Bool.and_true,←Bool.decide_and,←Bool.decide_and]
 by_cases h:x=0/\y=0/\z=0
 ·rw [if_pos h,cI h,cond_true]
 ·rw [if_neg h,dA h,cond_false]
open Classical in
theorem tS (p:P3):F68 p 64=decide (bd 64 p):=by
 unfold F68
 rw [aD1,aD1,aD1,aR (by omega) (by omega)]
 exact aUp (by unfold bd;omega)
open Classical in
theorem wT (p:P3):F98 p 64=decide (bd 64 p):=by
 unfold F98
 rw [tR,tR,tR,aR (by omega) (by omega)]
 exact aUp (by unfold bd;omega)
open Classical in
noncomputable def vp (p:PN):Int:=if bdP 64 p then(if(nrm p).1=0/\(nrm p).2.1=0/\(nrm p).2.2=0 then 6 else 0) else 1
theorem aUq {p:PN} (h:bdP 64 p):F69 p=nrm p:=by
 have h1:=h.1.mono (show(64:Int)<=100000 by omega);have h2:=h.2.1.mono (show(64:Int)<=100000 by omega);have h3:=h.2.2.mono (show(64:Int)<=100000 by omega)
 unfold F69 nrm
 rw [ssb h2 h1,ssb h3 h1]
 exact scr ((aKk h.2.1 h.1).mono (by omega)) ((aKk h.2.2 h.1).mono (by omega))
theorem aUr {p:PN} (h:bdP 64 p):F99 p=nrm p:=by
 have h1:=h.1.mono (show(64:Int)<=100000 by omega);have h2:=h.2.1.mono (show(64:Int)<=100000 by omega);have h3:=h.2.2.mono (show(64:Int)<=100000 by omega)
 unfold F99 nrm
 rw [rsb h2 h1,rsb h3 h1]
 exact rcr ((aKk h.2.1 h.1).mono (by omega)) ((aKk h.2.2 h.1).mono (by omega))
theorem aUs (p:PN):F47 p=vp p:=by
 unfold F47 vp
 rw [tS,tS,tS]
 by_cases h1:bd 64 p.1
 ·by_cases h2:bd 64 p.2.1
  ·by_cases h3:bd 64 p.2.2
   ·have hb:bdP 64 p:=⟨h1,h2,h3⟩
    rw [aUq hb,if_pos hb]
    rw [eq3];simp [h1,h2,h3]
   ·simp [h1,h2,h3,bdP]
  ·simp [h1,h2,bdP]
 ·simp [h1,bdP]
theorem aWg (p:PN):F78 p=vp p:=by
 unfold F78 vp
 rw [wT,wT,wT]
 by_cases h1:bd 64 p.1
 ·by_cases h2:bd 64 p.2.1
  ·by_cases h3:bd 64 p.2.2
   ·have hb:bdP 64 p:=⟨h1,h2,h3⟩
    rw [aUr hb,if_pos hb]
    rw [eq3];simp [h1,h2,h3]
   ·simp [h1,h2,h3,bdP]
  ·simp [h1,h2,bdP]
 ·simp [h1,bdP]
theorem aUt {p:PN} (h:vp p=0):bdP 64 p/\1<=dt (nrm p) (nrm p):=by
 unfold vp at h
 split at h
 ·rename_i hb
  split at h
  ·cases h
  ·rename_i hn;exact⟨hb,aTg hn⟩
 ·cases h
end Go.Proofs.YtkdfcbmcgnaicaaGreat
namespace Go.Proofs.YtkdfcbmcgnaicaaGreat
open Go.Proofs Go.Aw Go.RowKit
set_option maxRecDepth 100000
def mx (a b:Int):Int:=if a < b then b else a
def ds (p q:P3):Int:=dt (sb p q) (sb p q)
def lo3 (a b c:Int):Int:=if c < (if b < (if a < a then a else a) then b else(if a < a then a else a)) then c else(if b < (if a < a then a else a) then b else(if a < a then a else a))
def hi3 (a b c:Int):Int:=if(if(if a < a then a else a) < b then b else(if a < a then a else a)) < c then c else(if(if a < a then a else a) < b then b else(if a < a then a else a))
def gp (a b c d:Int):Int:=mx (mx 0 (c - b)) (a - d)
def nr (a b c d:P3):Int:=gp a.1 b.1 c.1 d.1*gp a.1 b.1 c.1 d.1+gp a.2.1 b.2.1 c.2.1 d.2.1*gp a.2.1 b.2.1 c.2.1 d.2.1+gp a.2.2 b.2.2 c.2.2 d.2.2*gp a.2.2 b.2.2 c.2.2 d.2.2
def blo (c:PN):P3:=(lo3 c.1.1 c.2.1.1 c.2.2.1,lo3 c.1.2.1 c.2.1.2.1 c.2.2.2.1,lo3 c.1.2.2 c.2.1.2.2 c.2.2.2.2)
def bhi (c:PN):P3:=(hi3 c.1.1 c.2.1.1 c.2.2.1,hi3 c.1.2.1 c.2.1.2.1 c.2.2.2.1,hi3 c.1.2.2 c.2.1.2.2 c.2.2.2.2)
end Go.Proofs.YtkdfcbmcgnaicaaGreat
