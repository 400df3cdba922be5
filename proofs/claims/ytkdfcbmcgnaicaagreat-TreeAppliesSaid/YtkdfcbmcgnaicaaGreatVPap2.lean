/-
  Parts of the proofs of the laws: the executor, what functions of the program compute, and that it is what the statements ask. No premise.
-/
import Derived.Test.YtkdfcbmcgnaicaaGreatVPap1
import Derived.Shelf.Abstract
import Derived.RangeFuncRecord
import Derived.RangeFuncSeq
import Derived.RangeFuncLeaves
import Derived.Test.YtkdfcbmcgnaicaaGreatRows
set_option linter.unusedVariables false
set_option linter.unusedSimpArgs false
set_option maxHeartbeats 4000000
open Int renaming toNat → tN
open Inhabited renaming default → dF
namespace Go.Aw
open Go.RowKit
def Fw (r:Option Nat):Fence:={ fn:=fun _=>True,depth:=none,alive:=false,round:=r }
theorem aIt {r:Option Nat} {n:Nat} {P:Program} {f:FuncId} {args:Array Value} {w:World} {R:Ending->World->Prop}:CallsIn (Fw r) n P f args w R↔Calls P f args w R :=
 callsIn_wide
def FS.at' (s:FS):Nat⊕Nat->SV⊕BK
 | .inl t=>.inl (s.sl t)
 | .inr k=>.inr (s.bk k)
theorem FS.ext_at {s s':FS} (h:∀x,s.at' x=s'.at' x):s=s':=by
 cases s with | mk sl bk=>cases s' with | mk sl' bk' =>
 have h1:sl=sl':=funext fun t=>by have:=h (.inl t);simpa [FS.at'] using this
 have h2:bk=bk':=funext fun k=>by have:=h (.inr k);simpa [FS.at'] using this
 subst h1 h2;rfl
structure Conf (n:Nat) (A:Nat->FS->FS) (wr rd ard:Nat->Nat⊕Nat->Prop) (alt:Nat->Nat⊕Nat->SV⊕BK->Prop) (dep:Nat->Nat->Prop):Prop where
 out:∀i s x,¬wr i x->(A i s).at' x=s.at' x
 same:∀i s s' x,wr i x->(A i s).at' x=(A i s').at' x
 low:∀i j,dep i j->j < i
 free:∀i j,i < n->j < n->i≠j->dep i j\/dep j i\/((∀x,wr i x->¬wr j x/\¬rd j x)/\(∀x,wr j x->¬rd i x/\(ard i x->i < j/\∀s,alt i x ((A j s).at' x))))
section conf
variable {n : Nat} {A : Nat → FS → FS} {wr rd ard : Nat → Nat ⊕ Nat → Prop} {alt : Nat → Nat ⊕ Nat → SV ⊕ BK → Prop} {dep : Nat → Nat → Prop}
noncomputable def SD (A:Nat->FS->FS)(D:Nat->Bool)(s0:FS):Nat->FS
 | 0=>s0
 | m+1=>if D m=true then A m (SD A D s0 m) else SD A D s0 m
theorem aS1 (i:Nat)(s0:FS):∀m,i<=m->SD A (fun j=>decide (j < i)) s0 m=SD A (fun _=>true) s0 i:=by
 intro m
 induction m with
 | zero =>
  intro h;obtain rfl:i=0:=by omega
  rfl
 | succ m ih =>
  intro h
  by_cases hi:i=m+1
  ·subst hi
   have:∀k,k<=m+1->SD A (fun j=>decide (j < m+1)) s0 k=SD A (fun _=>true) s0 k:=by
    intro k
    induction k with
    | zero=>intro _;rfl
    | succ k ihk=>intro hk;simp only [SD,ihk (by omega)];simp [show k < m+1 by omega]
   exact this _ (Nat.le_refl _)
  ·simp only [SD]
   rw [if_neg (by simp;omega),ih (by omega)]
theorem Conf.reads (c:Conf n A wr rd ard alt dep) {D:Nat->Bool} {s0:FS} {i:Nat} (hi:i < n)(hD:D i=false)(hcl:∀j k,j < n->D j=true->dep j k->D k=true)(hdep:∀k,dep i k->D k=true) {x:Nat⊕Nat} (hx:rd i x) :
 (SD A D s0 n).at' x=(SD A (fun _=>true) s0 i).at' x:=by
 rw [←aS1 i s0 n (by omega)]
 have:∀m,m<=n->(SD A D s0 m).at' x=(SD A (fun j=>decide (j < i)) s0 m).at' x:=by
  intro m
  induction m with
  | zero=>intro _;rfl
  | succ m ih =>
   intro hm
   have ih:=ih (by omega)
   simp only [SD]
   by_cases hw:wr m x
   ·by_cases hmi:m=i
    ·subst hmi
     rw [if_neg (by simp [hD]),if_neg (by simp)];exact ih
    ·rcases c.free i m hi (by omega) (Ne.symm hmi) with h | h | h
     ·have:=c.low i m h
      rw [if_pos (hdep m h),if_pos (by simp [this])]
      exact c.same m _ _ x hw
     ·have:=c.low m i h
      have hDm:D m=false:=by
       cases hDm:D m with
       | false=>rfl
       | true=>have:=hcl m i (by omega) hDm h;rw [hD] at this;cases this
      rw [if_neg (by simp [hDm]),if_neg (by simp;omega)];exact ih
     ·exact((h.2 x hw).1 hx).elim
   ·split<;>split<;>(try simp only [c.out m _ x hw])<;>exact ih
 exact this n (Nat.le_refl _)
theorem Conf.areads (c:Conf n A wr rd ard alt dep) {D:Nat->Bool} {s0:FS} {i:Nat} (hi:i < n)(hD:D i=false)(hcl:∀j k,j < n->D j=true->dep j k->D k=true)(hdep:∀k,dep i k->D k=true) {x:Nat⊕Nat} (hx:ard i x) :
 (SD A D s0 n).at' x=(SD A (fun _=>true) s0 i).at' x\/alt i x ((SD A D s0 n).at' x):=by
 rw [←aS1 i s0 n (by omega)]
 have:∀m,m<=n->(SD A D s0 m).at' x=(SD A (fun j=>decide (j < i)) s0 m).at' x\/(i < m/\alt i x ((SD A D s0 m).at' x)):=by
  intro m
  induction m with
  | zero=>intro _;exact .inl rfl
  | succ m ih =>
   intro hm
   have ih:=ih (by omega)
   simp only [SD]
   by_cases hw:wr m x
   ·by_cases hmi:m=i
    ·subst hmi
     rw [if_neg (by simp [hD]),if_neg (by simp)]
     rcases ih with h | ⟨h,_⟩
     ·exact .inl h
     ·omega
    ·rcases c.free i m hi (by omega) (Ne.symm hmi) with h | h | h
     ·have hlt:=c.low i m h
      rw [if_pos (hdep m h),if_pos (by simp [hlt])]
      exact .inl (c.same m _ _ x hw)
     ·have hlt:=c.low m i h
      have hDm:D m=false:=by
       cases hDm:D m with
       | false=>rfl
       | true=>have:=hcl m i (by omega) hDm h;rw [hD] at this;cases this
      rw [if_neg (by simp [hDm]),if_neg (by simp;omega)]
      exact ih.imp id (fun h=>⟨by omega,h.2⟩)
     ·obtain⟨hlt,ha⟩:=(h.2 x hw).2 hx
      cases hDm:D m with
      | false =>
       rw [if_neg (by simp),if_neg (by simp;omega)]
       exact ih.imp id (fun h=>⟨by omega,h.2⟩)
      | true =>
       rw [if_pos rfl]
       exact .inr ⟨by omega,ha _⟩
   ·have e:∀s:FS,(A m s).at' x=s.at' x:=fun s=>c.out m s x hw
    rcases ih with h | ⟨h,h'⟩
    ·left;split<;>split<;>(try simp only [e])<;>exact h
    ·right;refine⟨by omega,?_⟩;split<;>(try simp only [e])<;>exact h'
 rcases this n (Nat.le_refl _) with h | ⟨_,h⟩
 ·exact .inl h
 ·exact .inr h
theorem Conf.add (c:Conf n A wr rd ard alt dep) {D D':Nat->Bool} {s0:FS} {i:Nat} (hi:i < n)(hD:D i=false)(hD':∀j,D' j=(D j || decide (j=i)))(hcl:∀j k,j < n->D j=true->dep j k->D k=true)(hlo:∀j,D j=true->j < n) :
 SD A D' s0 n=A i (SD A D s0 n):=by
 refine FS.ext_at fun x=>?_
 have e1:∀m,m<=i->SD A D' s0 m=SD A D s0 m:=by
  intro m
  induction m with
  | zero=>intro _;rfl
  | succ m ih=>intro hm;simp only [SD,hD',ih (by omega)];simp [show m≠i by omega]
 have e2:∀m,i < m->m<=n->(SD A D' s0 m).at' x=(A i (SD A D s0 m)).at' x:=by
  intro m
  induction m with
  | zero=>intro h;omega
  | succ m ih =>
   intro h hm
   by_cases hmi:m=i
   ·subst hmi
    simp only [SD,hD',hD]
    simp [e1 m (Nat.le_refl _)]
   ·have ih:=ih (by omega) (by omega)
    simp only [SD,hD']
    have:decide (m=i)=false:=by simp [hmi]
    rw [this,Bool.or_false]
    cases hDm:D m with
    | false=>simpa using ih
    | true =>
     simp only [if_true]
     have hno:∀x,wr i x->¬wr m x:=by
      rcases c.free i m hi (by omega) (Ne.symm hmi) with h' | h' | h'
      ·have:=c.low i m h';omega
      ·have:=hcl m i (by omega) hDm h';rw [hD] at this;cases this
      ·exact fun x hx=>(h'.1 x hx).1
     by_cases hwm:wr m x
     ·have hwi:¬wr i x:=fun h=>hno x h hwm
      rw [c.out i _ x hwi]
      exact c.same m _ _ x hwm
     ·rw [c.out m _ x hwm,ih]
      by_cases hwi:wr i x
      ·exact c.same i _ _ x hwi
      ·rw [c.out i _ x hwi,c.out i _ x hwi,c.out m _ x hwm]
 exact e2 n hi (Nat.le_refl _)
end conf
structure Ev where
 eff:Eff
 rs:List Nat
 rb:List Nat
 alt:List (Nat×BK):=[]
section region
variable {P : Program} {w0 : Cx} {N : Nat} {D : List Deferred} {r : Option Nat} {n : Nat} {ops : Array Oper} {Q : Exit → Act → World → Prop}
def iD (ops:Array Oper)(i:Nat):Option Nat:=(ops[i]?).bind (·.dst)
def qA (P:Program)(r:Option Nat)(n:Nat)(w0:Cx)(N:Nat)(D:List Deferred)(ops:Array Oper)(i:Nat)(s:FS)(v:Ev):Prop :=
 ∀(s':FS),(∀t∈v.rs,s'.sl t=s.sl t)->(∀k∈v.rb,s'.bk k=s.bk k\/(k,s'.bk k)∈v.alt)->∀(ρ:Env) (a:Act) (W:World) (Q:Exit->Act->World->Prop) (K:Act->World->Prop),Rep w0 N D ρ s' a W ->
   (∀ρ' a' W',Rep w0 N D ρ' (s'.app (iD ops i) v.eff) a' W'->K a' W')->wpOpIn (Fw r) n P ops Q i K a W
def cL (ops:Array Oper)(evs:List Ev)(i:Nat)(s:FS):FS :=
 match evs[i]? with
 | some v=>s.app (iD ops i) v.eff
 | none=>s
theorem aGo {evs:List Ev} (hlen:evs.length=ops.size) {s0:FS}
 (hloc:∀i v,evs[i]? = some v->qA P r n w0 N D ops i (SD (cL ops evs) (fun _=>true) s0 i) v)
 {ρ:Env} {a:Act} {W:World} (hrep:Rep w0 N D ρ s0 a W)
 (hQ:∀ρ' a' W',Rep w0 N D ρ' (SD (cL ops evs) (fun _=>true) s0 ops.size) a' W'->Q .normal a' W') {id:Nat} :
 (Code.region id ops false).wpIn (Fw r) n P Q a W:=by
 refine wpIn_region ?_
 have key:∀m i,i+m=ops.size->∀ρ a W,Rep w0 N D ρ (SD (cL ops evs) (fun _=>true) s0 i) a W->wpOpsIn (Fw r) n P ops Q (List.range' i m) a W:=by
  intro m
  induction m with
  | zero =>
   intro i hi ρ a W h
   obtain rfl:i=ops.size:=by omega
   show wpOpsIn (Fw r) n P ops Q [] a W
   simp only [wpOpsIn]
   exact hQ ρ a W h
  | succ m ih =>
   intro i hi ρ a W h
   rw [List.range'_succ,wpOpsIn_cons]
   have hlt:i < evs.length:=by omega
   refine hloc i evs[i] (by simp [hlt]) _ (fun _ _=>rfl) (fun _ _=>.inl rfl) ρ a W Q _ h (fun ρ' a' W' h'=>ih (i+1) (by omega) ρ' a' W' ?_)
   simp only [SD,if_true,cL]
   rw [List.getElem?_eq_getElem hlt]
   exact h'
 have:=key ops.size 0 (by omega) ρ a W hrep
 rwa [List.range_eq_range']
theorem xF {p q:Nat->Bool} (hpq:∀j,q j=true->p j=true) {i:Nat} (hi:p i=true)(hn:q i=false):∀(l:List Nat),i∈l->(l.filter q).length < (l.filter p).length
 | x::l,h=>by
  have hle:∀l:List Nat,(l.filter q).length<=(l.filter p).length:=by
   intro l
   induction l with
   | nil=>simp
   | cons y l ih =>
    simp only [List.filter_cons]
    by_cases hq:q y=true
    ·simp [hq,hpq y hq,ih]
    ·simp only [hq,Bool.false_eq_true,if_false]
     split<;>(try simp)<;>omega
  by_cases hx:x=i
  ·subst hx
   simp only [List.filter_cons,hi,hn,if_true,Bool.false_eq_true,if_false,List.length_cons]
   have:=hle l;omega
  ·have hm:i∈l:=by
    rcases List.mem_cons.1 h with h | h
    ·exact(hx h.symm).elim
    ·exact h
   have ih:=xF hpq hi hn l hm
   simp only [List.filter_cons]
   by_cases hq:q x=true
   ·simp [hq,hpq x hq,ih]
   ·simp only [hq,Bool.false_eq_true,if_false]
    split<;>(try simp)<;>omega
theorem aIu {evs:List Ev} (hlen:evs.length=ops.size) {s0:FS} (hm:P.follows .mixedOrders=true)
 {wr rd ard:Nat->Nat⊕Nat->Prop} {alt:Nat->Nat⊕Nat->SV⊕BK->Prop} {dep:Nat->Nat->Prop} (c:Conf ops.size (cL ops evs) wr rd ard alt dep)
 (hrs:∀i v t,evs[i]? = some v->t∈v.rs->rd i (.inl t)) (hrb:∀i v k,evs[i]? = some v->k∈v.rb->rd i (.inr k)\/(ard i (.inr k)/\∀y,alt i (.inr k) y->∃b,y=.inr b/\(k,b)∈v.alt))
 (hlow:∀i o,ops[i]? = some o->∀e∈o.after,Region.binds .any e=true->e.on < i)
 (hdep:∀(D:Nat->Bool) i o,ops[i]? = some o->(∀j o,ops[j]? = some o->D j=true->∀e∈o.after,Region.binds .any e=true->D e.on=true)->(∀e∈o.after,Region.binds .any e=true->D e.on=true)->∀k,dep i k->D k=true)
 (hloc:∀i v,evs[i]? = some v->qA P r n w0 N D ops i (SD (cL ops evs) (fun _=>true) s0 i) v)
 {ρ:Env} {a:Act} {W:World} (hrep:Rep w0 N D ρ s0 a W)
 (hQ:∀ρ' a' W',Rep w0 N D ρ' (SD (cL ops evs) (fun _=>true) s0 ops.size) a' W'->Q .normal a' W') {id:Nat} :
 (Code.region id ops true).wpIn (Fw r) n P Q a W:=by
 refine wpIn_region_any hm ?_
 have hrep':Rep w0 N D ρ s0 a { W with drawn:=W.drawn+1 }:=hrep.grow ⟨rfl,rfl,rfl,Nat.le_refl _,fun _ _=>rfl⟩ (Nat.le_succ _)
 have key:∀fuel (listed:Array Bool),listed.size=ops.size->((List.range ops.size).filter fun j=>!listed.getD j false).length<=fuel ->
  (∀j o,ops[j]? = some o->listed.getD j false=true->∀e∈o.after,Region.binds .any e=true->listed.getD e.on false=true) ->
  ∀ρ a W,Rep w0 N D ρ (SD (cL ops evs) (fun j=>listed.getD j false) s0 ops.size) a W->wpAnyIn (Fw r) n P .any ops Q fuel listed a W:=by
  intro fuel
  induction fuel with
  | zero =>
   intro listed hsz hfew hcl ρ a W h
   have hall:∀j,j < ops.size->listed.getD j false=true:=fun j hj=>by
    have h0:(List.range ops.size).filter (fun j=>!listed.getD j false)=[]:=List.length_eq_zero_iff.1 (by omega)
    have:=(List.filter_eq_nil_iff.1 h0) j (by simp [hj])
    simpa using this
   have hS:SD (cL ops evs) (fun j=>listed.getD j false) s0 ops.size=SD (cL ops evs) (fun _=>true) s0 ops.size:=by
    have:∀m,m<=ops.size->SD (cL ops evs) (fun j=>listed.getD j false) s0 m=SD (cL ops evs) (fun _=>true) s0 m:=by
     intro m
     induction m with
     | zero=>intro _;rfl
     | succ m ihm=>intro hm';simp only [SD,ihm (by omega),hall m (by omega)]
    exact this _ (Nat.le_refl _)
   simp only [wpAnyIn]
   refine⟨?_,hQ ρ a W (hS▸h)⟩
   rw [List.eq_nil_iff_forall_not_mem]
   intro j hj
   obtain⟨h1,o,ho,_⟩:=mem_ready.1 hj
   have hjs:=(Array.getElem?_eq_some_iff.1 ho).1
   have:=hall j hjs
   have hjl:j < listed.size:=by omega
   simp only [Array.getD_eq_getD_getElem?,Array.getElem?_eq_getElem hjl,Option.getD_some] at h1 this
   rw [this] at h1;cases h1
  | succ fuel ih =>
   intro listed hsz hfew hcl ρ a W h
   refine⟨fun hnil=>?_,fun i hi=>?_⟩
   ·-- nothing may come up: all have come up
    have hall:∀j,j < ops.size->listed.getD j false=true:=by
     intro j
     induction j using Nat.strongRecOn with
     | ind j ihj =>
      intro hj
      cases hlj:listed.getD j false with
      | true=>rfl
      | false =>
       exfalso
       have ho:ops[j]? = some ops[j]:=by simp [hj]
       have:j∈Region.ready .any ops listed:=by
        refine mem_ready.2 ⟨?_,ops[j],ho,fun e he hb=>ihj e.on (hlow j _ ho e he hb) (by have:=hlow j _ ho e he hb;omega)⟩
        have hjl:j < listed.size:=by omega
        simp only [Array.getD_eq_getD_getElem?,Array.getElem?_eq_getElem hjl,Option.getD_some] at hlj ⊢
        exact hlj
       rw [hnil] at this;cases this
    have hS:SD (cL ops evs) (fun j=>listed.getD j false) s0 ops.size=SD (cL ops evs) (fun _=>true) s0 ops.size:=by
     have:∀m,m<=ops.size->SD (cL ops evs) (fun j=>listed.getD j false) s0 m=SD (cL ops evs) (fun _=>true) s0 m:=by
      intro m
      induction m with
      | zero=>intro _;rfl
      | succ m ihm=>intro hm';simp only [SD,ihm (by omega),hall m (by omega)]
     exact this _ (Nat.le_refl _)
    exact hQ ρ a W (hS▸h)
   ·obtain⟨h1,o,ho,hall⟩:=mem_ready.1 hi
    have his:=(Array.getElem?_eq_some_iff.1 ho).1
    have hil:i < listed.size:=by omega
    have hDi:listed.getD i false=false:=by
     simp only [Array.getD_eq_getD_getElem?,Array.getElem?_eq_getElem hil,Option.getD_some] at h1 ⊢
     exact h1
    have hie:i < evs.length:=by omega
    have hev:evs[i]? = some evs[i]:=by simp [hie]
    have hD':∀j,(listed.setIfInBounds i true).getD j false=(listed.getD j false || decide (j=i)):=fun j=>by
     by_cases hj:j=i
     ·subst hj;simp [hil]
     ·rw [getD_set_ne false (Ne.symm hj)];simp [hj]
    have hclo:∀j k,j < ops.size->listed.getD j false=true->dep j k->listed.getD k false=true:=fun j k hj hDj hd =>
     hdep (fun j=>listed.getD j false) j ops[j] (by simp [hj]) hcl (hcl j _ (by simp [hj]) hDj) k hd
    have hcond:∀k,dep i k->listed.getD k false=true:=fun k hk=>hdep (fun j=>listed.getD j false) i o ho hcl hall k hk
    have hlo:∀j,listed.getD j false=true->j < ops.size:=fun j hj=>by
     rcases Nat.lt_or_ge j listed.size with h' | h'
     ·omega
     ·simp [Array.getElem?_eq_none h'] at hj
    refine hloc i evs[i] hev (SD (cL ops evs) (fun j=>listed.getD j false) s0 ops.size) (fun t ht=>?_) (fun k hk=>?_) ρ a W Q _ h (fun ρ' a' W' h'=>?_)
    ·have:=c.reads (s0:=s0) his hDi hclo hcond (hrs i _ t hev ht)
     simpa [FS.at'] using this
    ·rcases hrb i _ k hev hk with h5 | ⟨h5,h6⟩
     ·have:=c.reads (s0:=s0) his hDi hclo hcond h5
      exact .inl (by simpa [FS.at'] using this)
     ·rcases c.areads (s0:=s0) his hDi hclo hcond h5 with h7 | h7
      ·exact .inl (by simpa [FS.at'] using h7)
      ·obtain⟨b,e,hb⟩:=h6 _ h7
       have e':(SD (cL ops evs) (fun j=>listed.getD j false) s0 ops.size).bk k=b:=by simpa [FS.at'] using e
       exact .inr (by rw [e'];exact hb)
    ·refine ih (listed.setIfInBounds i true) (by simp [hsz]) ?_ (fun j o' ho' hj e he hb=>?_) ρ' a' W' ?_
     ·have:=xF (p:=fun j=>!listed.getD j false) (q:=fun j=>!(listed.setIfInBounds i true).getD j false) (i:=i) (fun j hj=>by
       rw [hD'] at hj;simp at hj ⊢;exact hj.1) (by simp only [hDi];rfl) (by rw [hD'];simp) (List.range ops.size) (by simp [his])
      omega
     ·rw [hD'] at hj ⊢
      by_cases hji:j=i
      ·subst hji
       rw [ho] at ho';cases ho'
       simp [hall e he hb]
      ·simp only [hji,decide_false,Bool.or_false] at hj
       simp [hcl j o' ho' hj e he hb]
     ·have hadd:=c.add (s0:=s0) his hDi hD' hclo hlo
      rw [hadd]
      simp only [cL,hev]
      exact h'
 have h0:∀j,(Array.replicate ops.size false).getD j false=false:=fun j=>by
  rcases Nat.lt_or_ge j ops.size with h' | h'
  ·simp [h']
  ·simp [Array.getElem?_eq_none (xs:=Array.replicate ops.size false) (by simpa using h')]
 refine key ops.size (Array.replicate ops.size false) (by simp) (Nat.le_trans (List.length_filter_le _ _) (by simp)) (fun j o _ hj=>by rw [h0] at hj;cases hj) ρ a _ ?_
 have:SD (cL ops evs) (fun j=>(Array.replicate ops.size false).getD j false) s0 ops.size=s0:=by
  have:∀m,SD (cL ops evs) (fun j=>(Array.replicate ops.size false).getD j false) s0 m=s0:=by
   intro m
   induction m with
   | zero=>rfl
   | succ m ihm=>have hm0:=h0 m;simp only [SD];exact(if_neg (by rw [hm0];simp)).trans ihm
  exact this _
 rw [this];exact hrep'
end region
end Go.Aw
namespace Go.Aw
open Go.RowKit
structure LS where
 sl:List SV
 bk:List BK
def LS.fs (s:LS):FS:=⟨fun t=>s.sl.getD t .u,fun k=>s.bk.getD k .un⟩
def aMp (l:List BK):List (Nat×BK)->Option (List BK)
 | []=>some l
 | (k,x)::us=>if k < l.length then aMp (l.set k x) us else if k=l.length then aMp (l++[x]) us else none
def LS.app (s:LS)(dst:Option Nat)(e:Eff):Option LS :=
 match aMp s.bk e.ups with
 | none=>none
 | some bk =>
  match dst with
  | none=>some { s with bk:=bk }
  | some d=>if d < s.sl.length then some { sl:=s.sl.set d e.val,bk:=bk } else none
theorem aD0:∀(us:List (Nat×BK)) (l l':List BK),aMp l us=some l'->(fun k=>l'.getD k .un)=cY (fun k=>l.getD k .un) us
 | [],l,l',h=>by simp only [aMp,bG] at h;subst h;rfl
 | (k,x)::us,l,l',h=>by
  simp only [aMp] at h
  simp only [cY]
  split at h
  ·rename_i hk
   rw [aD0 us _ l' h]
   congr 1
   funext j
   simp only [fV,List.getElem?_set]
   by_cases hj:j=k
   ·subst hj;simp [hk]
   ·rw [if_neg (fun e=>hj e.symm),if_neg hj]
  ·split at h
   ·rename_i hk
    rw [aD0 us _ l' h]
    congr 1
    funext j
    simp only [fV]
    by_cases hj:j=k
    ·subst hj;simp [hk]
    ·rw [if_neg hj]
     by_cases hlt:j < l.length
     ·rw [List.getElem?_append_left hlt]
     ·rw [List.getElem?_eq_none (by simp;omega),List.getElem?_eq_none (by omega)]
   ·cases h
theorem aIv {s s':LS} {dst:Option Nat} {e:Eff} (h:s.app dst e=some s'):s'.fs=s.fs.app dst e/\(∀d,dst=some d->d < s.sl.length)/\s'.sl.length=s.sl.length:=by
 unfold LS.app at h
 split at h
 ·cases h
 ·rename_i bk hbk
  have hb:=aD0 _ _ _ hbk
  cases dst with
  | none =>
   simp only [bG] at h
   subst h
   refine⟨?_,by simp,rfl⟩
   simp only [LS.fs,FS.app,hb]
  | some d =>
   simp only at h
   split at h
   ·rename_i hd
    simp only [bG] at h
    subst h
    refine⟨?_,fun d' hd'=>by cases hd';exact hd,by simp⟩
    simp only [LS.fs,FS.app,hb]
    congr 1
    funext t
    simp only [fV,List.getElem?_set]
    by_cases ht:t=d
    ·subst ht;simp [hd]
    ·rw [if_neg (fun e=>ht e.symm),if_neg ht]
   ·cases h
def yU (k:Nat):List Nat->Option Nat
 | []=>none
 | j::l=>if j=k then some 0 else match yU k l with
  | some i=>some (i+1)
  | none=>none
mutual
def yV (ks:List Nat):SV->Option SV
 | .u=>some .u
 | .b x=>some (.v (.bool x))
 | .v x=>some (.v x)
 | .p k off=>match yU k ks with
  | some i=>some (.p i off)
  | none=>none
 | .s k off len es=>match yU k ks with
  | some i=>some (.s i off len es)
  | none=>none
 | .d cells len es=>some (.d cells len es)
 | .m k=>match yU k ks with
  | some i=>some (.m i)
  | none=>none
 | .f g caps=>match renL ks caps with
  | some l=>some (.f g l)
  | none=>none
 | .a l=>match renL ks l with
  | some l=>some (.a l)
  | none=>none
 | .t l=>match renL ks l with
  | some l=>some (.t l)
  | none=>none
def renL (ks:List Nat):List SV->Option (List SV)
 | []=>some []
 | x::l=>match yV ks x,renL ks l with
  | some y,some m=>some (y::m)
  | _,_=>none
end
mutual
def back (ks:List Nat)(nn fr:Nat):SV->Option SV
 | .u=>some .u
 | .b x=>some (.b x)
 | .v x=>some (.v x)
 | .p k off=>match ks[k]? with
  | some j=>some (.p j off)
  | none=>if k - ks.length < nn then some (.p (fr+(k - ks.length)) off) else none
 | .s k off len es=>match ks[k]? with
  | some j=>some (.s j off len es)
  | none=>if k - ks.length < nn then some (.s (fr+(k - ks.length)) off len es) else none
 | .d cells len es=>some (.d cells len es)
 | .m k=>match ks[k]? with
  | some j=>some (.m j)
  | none=>if k - ks.length < nn then some (.m (fr+(k - ks.length))) else none
 | .f g caps=>match backL ks nn fr caps with
  | some l=>some (.f g l)
  | none=>none
 | .a l=>match backL ks nn fr l with
  | some l=>some (.a l)
  | none=>none
 | .t l=>match backL ks nn fr l with
  | some l=>some (.t l)
  | none=>none
def backL (ks:List Nat)(nn fr:Nat):List SV->Option (List SV)
 | []=>some []
 | x::l=>match back ks nn fr x,backL ks nn fr l with
  | some y,some m=>some (y::m)
  | _,_=>none
end
theorem nE {k:Nat}:∀{ks:List Nat} {i:Nat},yU k ks=some i->ks[i]? = some k
 | [],_,h=>by simp [yU] at h
 | j::l,i,h=>by
  simp only [yU] at h
  split at h
  ·rename_i hj;simp only [bG] at h;subst h;simp [hj]
  ·split at h
   ·rename_i i' hi';simp only [bG] at h;subst h
    simpa using nE hi'
   ·cases h
def jF (ρ:Env)(ks:List Nat):Env:=⟨fun i=>match ks[i]? with
 | some k=>ρ k
 | none=>none,ρ.fz⟩
theorem xG {ρ:Env} {ks:List Nat} {k i:Nat} (h:yU k ks=some i):jF ρ ks i=ρ k:=by
 unfold jF;simp only [Env.mk_loc];rw [nE h]
theorem pF (ρ:Env)(ks:List Nat):ρ.le (jF ρ ks):=fun _ _ h=>h
theorem dL {ρ:Env} {ks:List Nat} {i k:Nat} (h:ks[i]? = some k):jF ρ ks i=ρ k:=by unfold jF;simp only [Env.mk_loc,h]
@[simp] theorem aU2 (ρ:Env) (ks:List Nat):(jF ρ ks).fz=ρ.fz:=rfl
mutual
theorem aD1 {ρ:Env} {ks:List Nat}:∀(x y:SV) (v:Value),yV ks x=some y->Rel ρ x v->Rel (jF ρ ks) y v
 | .u,y,v,h,hr=>by simp only [yV,bG] at h;subst h;simp [Rel]
 | .b x,y,v,h,hr=>by simp only [yV,bG] at h;subst h;simpa [Rel] using hr
 | .v x,y,v,h,hr=>by simp only [yV,bG] at h;subst h;simpa [Rel] using hr
 | .p k off,y,v,h,hr=>by
  simp only [yV] at h
  split at h
  ·rename_i i hi;simp only [bG] at h;subst h
   simp only [Rel] at hr ⊢;rw [xG hi];exact hr
  ·cases h
 | .s k off len es,y,v,h,hr=>by
  simp only [yV] at h
  split at h
  ·rename_i i hi;simp only [bG] at h;subst h
   simp only [Rel] at hr ⊢;rw [xG hi];exact hr
  ·cases h
 | .d cells len es,y,v,h,hr=>by simp only [yV,bG] at h;subst h;simp only [Rel] at hr ⊢;exact hr
 | .m k,y,v,h,hr=>by
  simp only [yV] at h
  split at h
  ·rename_i i hi;simp only [bG] at h;subst h
   simp only [Rel] at hr ⊢;rw [xG hi];exact hr
  ·cases h
 | .f g caps,y,v,h,hr=>by
  simp only [yV] at h
  split at h
  ·rename_i l hl;simp only [bG] at h;subst h
   simp only [Rel] at hr ⊢
   obtain⟨vs,hv,hr⟩:=hr
   exact⟨vs,hv,renL_rel caps l vs hl hr⟩
  ·cases h
 | .a l',y,v,h,hr=>by
  simp only [yV] at h
  split at h
  ·rename_i l hl;simp only [bG] at h;subst h
   simp only [Rel] at hr ⊢
   obtain⟨vs,hv,hr⟩:=hr
   exact⟨vs,hv,renL_rel l' l vs hl hr⟩
  ·cases h
 | .t l',y,v,h,hr=>by
  simp only [yV] at h
  split at h
  ·rename_i l hl;simp only [bG] at h;subst h
   simp only [Rel] at hr ⊢
   obtain⟨vs,hv,hr⟩:=hr
   exact⟨vs,hv,renL_rel l' l vs hl hr⟩
  ·cases h
theorem renL_rel {ρ:Env} {ks:List Nat}:∀(l m:List SV) (vs:List Value),renL ks l=some m->Rels ρ l vs->Rels (jF ρ ks) m vs
 | [],m,vs,h,hr=>by simp only [renL,bG] at h;subst h;cases vs<;>simp [Rels] at hr ⊢
 | x::l,m,vs,h,hr=>by
  simp only [renL] at h
  split at h
  ·rename_i y m' hy hm
   simp only [bG] at h;subst h
   cases vs with
   | nil=>simp [Rels] at hr
   | cons v vs =>
    simp only [Rels] at hr ⊢
    exact⟨aD1 x y v hy hr.1,renL_rel l m' vs hm hr.2⟩
  ·cases h
end
mutual
theorem aGp {ρc ρ':Env} {ks:List Nat} {nn fr:Nat} (h0:ρc.le ρ')(h1:∀i k,ks[i]? = some k->ρ' k=ρc i)(h2:∀j,j < nn->ρ' (fr+j)=ρc (ks.length+j)) :
 ∀(x y:SV) (v:Value),back ks nn fr x=some y->Rel ρc x v->Rel ρ' y v
 | .u,y,v,h,hr=>by simp only [back,bG] at h;subst h;simp [Rel]
 | .b x,y,v,h,hr=>by simp only [back,bG] at h;subst h;simpa [Rel] using hr
 | .v x,y,v,h,hr=>by simp only [back,bG] at h;subst h;simpa [Rel] using hr
 | .p k off,y,v,h,hr=>by
  simp only [back] at h
  split at h
  ·rename_i j hj;simp only [bG] at h;subst h
   simp only [Rel] at hr ⊢;rw [h1 k j hj];exact hr
  ·rename_i hn
   split at h
   ·rename_i hlt;simp only [bG] at h;subst h
    have hle:ks.length<=k:=by simpa using hn
    simp only [Rel] at hr ⊢;rw [h2 _ hlt,Nat.add_sub_cancel' hle];exact hr
   ·cases h
 | .s k off len es,y,v,h,hr=>by
  simp only [back] at h
  split at h
  ·rename_i j hj;simp only [bG] at h;subst h
   simp only [Rel] at hr ⊢;rw [h1 k j hj];exact hr
  ·rename_i hn
   split at h
   ·rename_i hlt;simp only [bG] at h;subst h
    have hle:ks.length<=k:=by simpa using hn
    simp only [Rel] at hr ⊢;rw [h2 _ hlt,Nat.add_sub_cancel' hle];exact hr
   ·cases h
 | .d cells len es,y,v,h,hr=>by
  simp only [back,bG] at h;subst h
  exact Rel.congr h0 _ _ (fun k hk=>by simp [SV.has] at hk) hr
 | .m k,y,v,h,hr=>by
  simp only [back] at h
  split at h
  ·rename_i j hj;simp only [bG] at h;subst h
   simp only [Rel] at hr ⊢;rw [h1 k j hj];exact hr
  ·rename_i hn
   split at h
   ·rename_i hlt;simp only [bG] at h;subst h
    have hle:ks.length<=k:=by simpa using hn
    simp only [Rel] at hr ⊢;rw [h2 _ hlt,Nat.add_sub_cancel' hle];exact hr
   ·cases h
 | .f g caps,y,v,h,hr=>by
  simp only [back] at h
  split at h
  ·rename_i l hl;simp only [bG] at h;subst h
   simp only [Rel] at hr ⊢
   obtain⟨vs,hv,hr⟩:=hr
   exact⟨vs,hv,backL_rel h0 h1 h2 caps l vs hl hr⟩
  ·cases h
 | .a l',y,v,h,hr=>by
  simp only [back] at h
  split at h
  ·rename_i l hl;simp only [bG] at h;subst h
   simp only [Rel] at hr ⊢
   obtain⟨vs,hv,hr⟩:=hr
   exact⟨vs,hv,backL_rel h0 h1 h2 l' l vs hl hr⟩
  ·cases h
 | .t l',y,v,h,hr=>by
  simp only [back] at h
  split at h
  ·rename_i l hl;simp only [bG] at h;subst h
   simp only [Rel] at hr ⊢
   obtain⟨vs,hv,hr⟩:=hr
   exact⟨vs,hv,backL_rel h0 h1 h2 l' l vs hl hr⟩
  ·cases h
theorem backL_rel {ρc ρ':Env} {ks:List Nat} {nn fr:Nat} (h0:ρc.le ρ')(h1:∀i k,ks[i]? = some k->ρ' k=ρc i)(h2:∀j,j < nn->ρ' (fr+j)=ρc (ks.length+j)) :
 ∀(l m:List SV) (vs:List Value),backL ks nn fr l=some m->Rels ρc l vs->Rels ρ' m vs
 | [],m,vs,h,hr=>by simp only [backL,bG] at h;subst h;cases vs<;>simp [Rels] at hr ⊢
 | x::l,m,vs,h,hr=>by
  simp only [backL] at h
  split at h
  ·rename_i y m' hy hm
   simp only [bG] at h;subst h
   cases vs with
   | nil=>simp [Rels] at hr
   | cons v vs =>
    simp only [Rels] at hr ⊢
    exact⟨aGp h0 h1 h2 x y v hy hr.1,backL_rel h0 h1 h2 l m' vs hm hr.2⟩
  ·cases h
end
mutual
theorem aGq {ks:List Nat} {nn fr k:Nat}:∀(x y:SV),back ks nn fr x=some y->y.has k->k∈ks\/(fr<=k/\k < fr+nn)
 | .u,y,h,hk=>by simp only [back,bG] at h;subst h;simp [SV.has] at hk
 | .b x,y,h,hk=>by simp only [back,bG] at h;subst h;simp [SV.has] at hk
 | .v x,y,h,hk=>by simp only [back,bG] at h;subst h;simp [SV.has] at hk
 | .p j off,y,h,hk=>by
  simp only [back] at h
  split at h
  ·rename_i j' hj;simp only [bG] at h;subst h
   simp only [SV.has] at hk;subst hk;exact .inl (List.mem_of_getElem? hj)
  ·split at h
   ·rename_i hlt;simp only [bG] at h;subst h
    simp only [SV.has] at hk;exact .inr ⟨by omega,by omega⟩
   ·cases h
 | .s j off len es,y,h,hk=>by
  simp only [back] at h
  split at h
  ·rename_i j' hj;simp only [bG] at h;subst h
   simp only [SV.has] at hk;subst hk;exact .inl (List.mem_of_getElem? hj)
  ·split at h
   ·rename_i hlt;simp only [bG] at h;subst h
    simp only [SV.has] at hk;exact .inr ⟨by omega,by omega⟩
   ·cases h
 | .d cells len es,y,h,hk=>by simp only [back,bG] at h;subst h;simp [SV.has] at hk
 | .m j,y,h,hk=>by
  simp only [back] at h
  split at h
  ·rename_i j' hj;simp only [bG] at h;subst h
   simp only [SV.has] at hk;subst hk;exact .inl (List.mem_of_getElem? hj)
  ·split at h
   ·rename_i hlt;simp only [bG] at h;subst h
    simp only [SV.has] at hk;exact .inr ⟨by omega,by omega⟩
   ·cases h
 | .f g caps,y,h,hk=>by
  simp only [back] at h
  split at h
  ·rename_i l hl;simp only [bG] at h;subst h
   exact backL_has caps l hl (by simpa [SV.has] using hk)
  ·cases h
 | .a l',y,h,hk=>by
  simp only [back] at h
  split at h
  ·rename_i l hl;simp only [bG] at h;subst h
   exact backL_has l' l hl (by simpa [SV.has] using hk)
  ·cases h
 | .t l',y,h,hk=>by
  simp only [back] at h
  split at h
  ·rename_i l hl;simp only [bG] at h;subst h
   exact backL_has l' l hl (by simpa [SV.has] using hk)
  ·cases h
theorem backL_has {ks:List Nat} {nn fr k:Nat}:∀(l m:List SV),backL ks nn fr l=some m->SV.hasl k m->k∈ks\/(fr<=k/\k < fr+nn)
 | [],m,h,hk=>by simp only [backL,bG] at h;subst h;simp [SV.hasl] at hk
 | x::l,m,h,hk=>by
  simp only [backL] at h
  split at h
  ·rename_i y m' hy hm
   simp only [bG] at h;subst h
   simp only [SV.hasl] at hk
   rcases hk with hk | hk
   ·exact aGq x y hy hk
   ·exact backL_has l m' hm hk
  ·cases h
end
def aIw:BK->Bool
 | .un=>true
 | _=>false
def tX:List Nat->Bool
 | []=>true
 | x::l=>!l.contains x&&tX l
def nW (ks:List Nat)(m:Bool):BK->Option BK
 | .live own true cells=>if m=true/\own=false then none else some (.live m true cells)
 | .live own false cells=>if m=true/\own=false then none else match renL ks cells with
  | some l=>some (.live m false l)
  | none=>none
 | .map es=>match m with
  | true=>some (.map es)
  | false=>none
 | _=>none
def yW (ks:List Nat)(bk:Nat->BK):List Nat->List BK->Option (List BK)
 | [],_=>some []
 | k::l,mb=>match nW ks (!aIw (mb.headD .un)) (bk k),yW ks bk l mb.tail with
  | some x,some m=>some (x::m)
  | _,_=>none
def rP (ks:List Nat)(nn fr:Nat):BK->Option BK
 | .dead=>some .dead
 | .map es=>some (.map es)
 | .live true true cells=>some (.live true true cells)
 | .live true false cells=>match backL ks nn fr cells with
  | some cells=>some (.live true false cells)
  | none=>none
 | _=>none
def tY (ks:List Nat)(nn fr:Nat):List Nat->List BK->Option (List (Nat×BK))
 | _,[]=>some []
 | [],_::_=>none
 | k::l,x::m=>match tY ks nn fr l m with
  | none=>none
  | some us=>match aIw x with
   | true=>some us
   | false=>match rP ks nn fr x with
    | some y=>some ((k,y)::us)
    | none=>none
def xH (ks:List Nat)(nn fr:Nat):Nat->List BK->Option (List (Nat×BK))
 | _,[]=>some []
 | j,x::l=>match rP ks nn fr x,xH ks nn fr (j+1) l with
  | some y,some m=>some ((j,y)::m)
  | _,_=>none
def callee:SV->Option (Nat×List SV×List SV)
 | .v (.func (.func g) first caps)=>match first.toList,caps.toList with
  | [],[]=>some (g,[],[])
  | _,_=>none
 | .f g caps=>if g < 1000000 then some (g,[],caps) else some (g - 1000000,caps,[])
 | _=>none
def sN (xs:List SV)(bk:Nat->BK)(fr:Nat)(orc:List Or):Option (Eff×List Ob×List Or×List Nat) :=
 match xs,orc with
 | fv::args,.call ks res nb mb::orc =>
  match callee fv with
  | some (g,fst,caps) =>
   match renL ks (fst++args++caps),yW ks bk ks mb,back ks nb.length fr res,tY ks nb.length fr ks mb,xH ks nb.length fr fr nb with
   | some args',some bs,some res',some upm,some upn=>if tX ks then some ({ val:=res',ups:=upm++upn },[.call g args' bs res nb mb],orc,ks) else none
   | _,_,_,_,_=>none
  | none=>none
 | _,_=>none
section
variable {P : Program} {T : Nat → Option TI} {w0 : Cx} {N : Nat} {D : List Deferred} {ρ : Env} {s : FS} {a : Act} {W : World}
theorem lU:∀{l:List Nat},tX l=true->∀(i j k:Nat),l[i]? = some k->l[j]? = some k->i=j
 | [],_,i,j,k,h,_=>by simp at h
 | x::l,h,i,j,k,hi,hj=>by
  simp only [tX,Bool.and_eq_true,Bool.not_eq_true',List.contains_eq_mem,decide_eq_false_iff_not] at h
  cases i with
  | zero=>cases j with
   | zero=>rfl
   | succ j=>simp at hi hj;subst hi;exact(h.1 (List.mem_of_getElem? hj)).elim
  | succ i=>cases j with
   | zero=>simp at hi hj;subst hj;exact(h.1 (List.mem_of_getElem? hi)).elim
   | succ j=>simp at hi hj;rw [lU h.2 i j k hi hj]
theorem aGr {x:BK}:aIw x=true↔x=.un:=by cases x<;>simp [aIw]
theorem aAw {ks:List Nat} {bk:Nat->BK}:∀(l:List Nat) (mb:List BK) (m:List BK),yW ks bk l mb=some m->m.length=l.length/\∀(i k:Nat),l[i]? = some k->∃y,m[i]? = some y/\nW ks (!aIw (mb.getD i .un)) (bk k)=some y
 | [],mb,m,h=>by simp only [yW,bG] at h;subst h;simp
 | k::l,mb,m,h=>by
  simp only [yW] at h
  split at h
  ·rename_i x m' hx hm
   simp only [bG] at h;subst h
   obtain⟨h1,h2⟩:=aAw l _ m' hm
   refine⟨by simp [h1],fun i k' hi=>?_⟩
   cases i with
   | zero =>
    simp at hi;subst hi
    refine⟨x,by simp,?_⟩
    cases mb<;>simpa using hx
   | succ i =>
    simp at hi ⊢
    obtain⟨y,e1,e2⟩:=h2 i k' hi
    refine⟨y,e1,?_⟩
    cases mb<;>simpa using e2
  ·cases h
theorem yX {ks:List Nat} {nn fr:Nat}:∀(l:List Nat) (mb:List BK) (us:List (Nat×BK)),tY ks nn fr l mb=some us ->
 (∀k y,(k,y)∈us->∃i,l[i]? = some k/\mb.getD i .un≠.un/\rP ks nn fr (mb.getD i .un)=some y)/\(∀i k,l[i]? = some k->mb.getD i .un≠.un->∃y,(k,y)∈us)
 | l,[],us,h=>by
  have:us=[]:=by cases l<;>(simp only [tY,bG] at h;exact h.symm)
  subst this
  exact⟨fun k y hm=>by simp at hm,fun i k _ hne=>by simp at hne⟩
 | [],x::m,us,h=>by simp [tY] at h
 | k::l,x::m,us,h=>by
  simp only [tY] at h
  split at h
  ·cases h
  ·rename_i us' hus
   obtain⟨h1,h2⟩:=yX l m us' hus
   split at h
   ·rename_i hun
    rw [aGr] at hun
    simp only [bG] at h;subst h
    refine⟨fun k' y hm=>?_,fun i k' hi hne=>?_⟩
    ·obtain⟨i,e1,e2,e3⟩:=h1 k' y hm
     exact⟨i+1,by simpa using e1,by simpa using e2,by simpa using e3⟩
    ·cases i with
     | zero=>simp [hun] at hne
     | succ i=>exact h2 i k' (by simpa using hi) (by simpa using hne)
   ·rename_i hun
    split at h
    ·rename_i y hy
     simp only [bG] at h;subst h
     refine⟨fun k' y' hm=>?_,fun i k' hi hne=>?_⟩
     ·rcases List.mem_cons.1 hm with e | hm
      ·cases e
       exact⟨0,by simp,by simp;intro e;rw [e] at hun;simp [aIw] at hun,by simpa using hy⟩
      ·obtain⟨i,e1,e2,e3⟩:=h1 k' y' hm
       exact⟨i+1,by simpa using e1,by simpa using e2,by simpa using e3⟩
     ·cases i with
      | zero=>simp at hi;subst hi;exact⟨y,by simp⟩
      | succ i =>
       obtain⟨y',hm⟩:=h2 i k' (by simpa using hi) (by simpa using hne)
       exact⟨y',by simp [hm]⟩
    ·cases h
theorem rQ {ks:List Nat} {nn fr:Nat}:∀(l:List BK) (j:Nat) (m:List (Nat×BK)),xH ks nn fr j l=some m ->
 m.length=l.length/\∀i x,l[i]? = some x->∃y,rP ks nn fr x=some y/\m[i]? = some (j+i,y)
 | [],j,m,h=>by simp only [xH,bG] at h;subst h;simp
 | x::l,j,m,h=>by
  simp only [xH] at h
  split at h
  ·rename_i y m' hc hm
   simp only [bG] at h;subst h
   obtain⟨h1,h2⟩:=rQ l _ m' hm
   refine⟨by simp [h1],fun i x hi=>?_⟩
   cases i with
   | zero=>simp at hi;subst hi;exact⟨y,hc,by simp⟩
   | succ i =>
    simp at hi
    obtain⟨y',e1,e2⟩:=h2 i x hi
    exact⟨y',e1,by simp;rw [e2];simp;omega⟩
  ·cases h
theorem nF:∀(us:List (Nat×BK)) (f:Nat->BK) (k:Nat),(∀u∈us,u.1≠k)->cY f us k=f k
 | [],f,k,_=>rfl
 | (j,x)::us,f,k,h=>by
  simp only [cY]
  rw [nF us _ k (fun u hu=>h u (by simp [hu]))]
  have:=h (j,x) (by simp)
  simp only at this
  rw [if_neg (fun e=>this e.symm)]
theorem aAx:∀(us:List (Nat×BK)) (f:Nat->BK) (k:Nat),(cY f us k=f k/\∀u∈us,u.1≠k)\/(k,cY f us k)∈us
 | [],f,k=>.inl ⟨rfl,fun u hu=>by simp at hu⟩
 | (j,x)::us,f,k=>by
  simp only [cY]
  rcases aAx us (fun i=>if i=j then x else f i) k with⟨h1,h2⟩ | h
  ·by_cases hk:k=j
   ·subst hk
    exact .inr (by rw [h1];simp)
   ·refine .inl ⟨by rw [h1,if_neg hk],fun u hu=>?_⟩
    rcases List.mem_cons.1 hu with rfl | hu
    ·exact fun e=>hk e.symm
    ·exact h2 u hu
  ·exact .inr (List.mem_cons_of_mem _ h)
theorem lV {ks:List Nat} {nn fr:Nat} {x y:BK} (h:rP ks nn fr x=some y)(hp:x.pl):y≠.un/\(y.own->x.own)/\(∀k,y.has k->k∈ks\/(fr<=k/\k < fr+nn))/\y.pl:=by
 unfold rP at h
 split at h
 ·simp only [bG] at h;subst h;exact⟨by simp,fun h=>h.elim,fun k hk=>hk.elim,trivial⟩
 ·simp only [bG] at h;subst h
  exact⟨by simp,fun _=>trivial,fun k hk=>(hp k hk).elim,hp⟩
 ·simp only [bG] at h;subst h
  exact⟨by simp,fun _=>trivial,fun k hk=>(hp k hk).elim,hp⟩
 ·split at h
  ·rename_i cells c' hc
   simp only [bG] at h;subst h
   exact⟨by simp,fun _=>trivial,fun k hk=>backL_has _ _ hc hk,trivial⟩
  ·cases h
 ·cases h
theorem aMq {ρc ρ':Env} {ks:List Nat} {nn fr:Nat} {M M':Nat->Prop} {j k:Nat} {x y:BK} (h0:ρc.le ρ')(h1:∀i k,ks[i]? = some k->ρ' k=ρc i)(h2:∀j,j < nn->ρ' (fr+j)=ρc (ks.length+j))(hk:ρ' k=ρc j)(hM:∀b,M' b->M b)
 (h:rP ks nn fr x=some y) (hp:x.pl) (hb:BRep ρc M' W j x):BRep ρ' M W k y:=by
 unfold rP at h
 split at h
 ·simp only [bG] at h;subst h;trivial
 ·simp only [bG] at h;subst h
  obtain⟨b,n,arr,q1,q2,q3,q4⟩:=hb
  exact⟨b,n,arr,hk.trans q1,hM b q2,MEs.congr h0 _ _ _ (fun k hk=>(hp k hk).elim) q3,q4⟩
 ·simp only [bG] at h;subst h
  rcases hb with⟨q1,q2⟩ | ⟨b,vs,rest,ty,q1,q2,q3,q4⟩
  ·exact .inl ⟨hk.trans q1,q2⟩
  ·exact .inr ⟨b,vs,rest,ty,hk.trans q1,hM b q2,Plain.congr h0 hp q3,q4⟩
 ·split at h
  ·rename_i cells c' hc
   simp only [bG] at h;subst h
   rcases hb with⟨q1,q2⟩ | ⟨b,vs,rest,ty,q1,q2,q3,q4⟩
   ·subst q2
    simp only [backL,bG] at hc;subst hc
    exact .inl ⟨hk.trans q1,rfl⟩
   ·exact .inr ⟨b,vs,rest,ty,hk.trans q1,hM b q2,backL_rel h0 h1 h2 _ _ vs hc q3,q4⟩
  ·cases h
 ·cases h
theorem Rep.called (h:Rep w0 N D ρ s a W) {W':World} {own':Nat->Prop} (hb:Kept W own' W') {ks:List Nat} (hnd:tX ks=true) {mb nb:List BK} {fr:Nat} (hfr:∀k,fr<=k->k < fr+nb.length->s.bk k=.un)(hks:∀k∈ks,s.bk k≠.un)
 {upm upn:List (Nat×BK)} (hm:tY ks nb.length fr ks mb=some upm) (hu:xH ks nb.length fr fr nb=some upn)
 (hown:∀b,own' b->∃i k n,ks[i]? = some k/\mb.getD i .un≠.un/\(s.bk k).own/\ρ k=some (b,0,n)) {ρ':Env} (hold:∀i k,ks[i]? = some k->ρ' i=ρ k) (hle:ρ.le ρ')
 (hfz:∀b o,ρ'.fz b=some o->W'.heap[b]? = some o.obj/\(∀j n,(gC ks.length mb nb j).own->ρ' j≠some (b,0,n))/\(ρ.fz b=some o\/W.heap.size<=b\/own' b))
 (hnew:∀j,BRep ρ' (fun b=>W.heap.size<=b\/own' b) W' j (gC ks.length mb nb j)) (hplp:∀j,(gC ks.length mb nb j).pl)
 (hap:∀i j b n b' n',i≠j->(gC ks.length mb nb i).own->(gC ks.length mb nb j).own->ρ' i=some (b,0,n)->ρ' j=some (b',0,n')->b≠b') :
 Rep w0 N D ⟨fun k=>if fr<=k/\k < fr+nb.length then ρ' (ks.length+(k - fr)) else ρ k,ρ'.fz⟩ (s.app none { val:=.u,ups:=upm++upn }) a W' /\
 (∀k,k∈ks\/(fr<=k/\k < fr+nb.length)->(s.app none { val:=.u,ups:=upm++upn }).bk k≠.un):=by
 obtain⟨hm1,hm2⟩:=yX ks mb upm hm
 obtain⟨hul,hus⟩:=rQ nb fr upn hu
 have hnewk:∀k y,(k,y)∈upn->(fr<=k/\k < fr+nb.length)/\rP ks nb.length fr (nb.getD (k - fr) .un)=some y:=fun k y hm=>by
  obtain⟨i,hi⟩:=List.getElem?_of_mem hm
  have hlt:i < nb.length:=by rw [←hul];exact(List.getElem?_eq_some_iff.1 hi).1
  obtain⟨y',e2,e3⟩:=hus i nb[i] (by simp)
  rw [hi] at e3;cases e3
  refine⟨by omega,?_⟩
  rw [Nat.add_sub_cancel_left,show nb.getD i .un=nb[i] by simp [fV,hlt]]
  exact e2
 have hnewm:∀k,fr<=k->k < fr+nb.length->∃y,(k,y)∈upn:=fun k h1 h2=>by
  obtain⟨y',_,e3⟩:=hus (k - fr) (nb[k - fr]'(by omega)) (by simp)
  rw [Nat.add_sub_cancel' h1] at e3
  exact⟨_,List.mem_of_getElem? e3⟩
 -- what each block has come to
 have cls:∀k,((s.app none { val:=.u,ups:=upm++upn }).bk k=s.bk k/\¬(fr<=k/\k < fr+nb.length)/\∀i,ks[i]? = some k->mb.getD i .un=.un) \/
  ∃j,rP ks nb.length fr (gC ks.length mb nb j)=some ((s.app none { val:=.u,ups:=upm++upn }).bk k) /\
   ((fr<=k/\k < fr+nb.length/\j=ks.length+(k - fr))\/(¬(fr<=k/\k < fr+nb.length)/\ks[j]? = some k/\j < ks.length)):=fun k=>by
  simp only [FS.app]
  rcases aAx (upm++upn) s.bk k with⟨h1,h2⟩ | h1
  ·refine .inl ⟨h1,fun hn=>?_,fun i hi=>?_⟩
   ·obtain⟨y,hy⟩:=hnewm k hn.1 hn.2
    exact h2 _ (List.mem_append_right _ hy) rfl
   ·refine Classical.byContradiction fun hne=>?_
    obtain⟨y,hy⟩:=hm2 i k hi hne
    exact h2 _ (List.mem_append_left _ hy) rfl
  ·rcases List.mem_append.1 h1 with h1 | h1
   ·obtain⟨i,e1,e2,e3⟩:=hm1 _ _ h1
    have hlt:=(List.getElem?_eq_some_iff.1 e1).1
    refine .inr ⟨i,by rw [gC,if_pos hlt];exact e3,.inr ⟨fun hn=>hks k (List.mem_of_getElem? e1) (hfr k hn.1 hn.2),e1,hlt⟩⟩
   ·obtain⟨e1,e2⟩:=hnewk _ _ h1
    refine .inr ⟨ks.length+(k - fr),?_,.inl ⟨e1.1,e1.2,rfl⟩⟩
    rw [gC,if_neg (by omega),Nat.add_sub_cancel_left];exact e2
 have hne:∀k,s.bk k≠.un->¬(fr<=k/\k < fr+nb.length):=fun k hk h'=>hk (hfr k h'.1 h'.2)
 have hρ:∀k,s.bk k≠.un->(if fr<=k/\k < fr+nb.length then ρ' (ks.length+(k - fr)) else ρ k)=ρ k:=fun k hk=>if_neg (hne k hk)
 have hr1:∀i k,ks[i]? = some k->(if fr<=k/\k < fr+nb.length then ρ' (ks.length+(k - fr)) else ρ k)=ρ' i:=fun i k hi=>by
  rw [hρ k (hks k (List.mem_of_getElem? hi))];exact(hold i k hi).symm
 have hr2:∀j,j < nb.length->(if fr<=fr+j/\fr+j < fr+nb.length then ρ' (ks.length+(fr+j - fr)) else ρ (fr+j))=ρ' (ks.length+j):=fun j hj=>by
  rw [if_pos (by omega),Nat.add_sub_cancel_left]
 have hkeep:∀k,s.bk k≠.un->(s.app none { val:=.u,ups:=upm++upn }).bk k≠.un:=fun k hk=>by
  rcases cls k with⟨e,_,_⟩ | ⟨j,e,_⟩
  ·rw [e];exact hk
  ·exact(lV e (hplp j)).1
 have hmem:∀k,k∈ks\/(fr<=k/\k < fr+nb.length)->(s.app none { val:=.u,ups:=upm++upn }).bk k≠.un:=fun k hk=>by
  rcases cls k with⟨e,hn,_⟩ | ⟨j,e,_⟩
  ·rw [e];exact hks k (hk.resolve_right hn)
  ·exact(lV e (hplp j)).1
 have hpl2:∀k,((s.app none { val:=.u,ups:=upm++upn }).bk k).pl:=fun k=>by
  rcases cls k with⟨e,_,_⟩ | ⟨j,e,_⟩
  ·rw [e];exact h.pl k
  ·exact(lV e (hplp j)).2.2.2
 -- blocks that may be written
 have ownM:∀b,own' b->w0.mine b:=fun b hb=>by
  obtain⟨i,k,n,_,_,e3,e4⟩:=hown b hb
  have:=h.bk k
  cases hx:s.bk k with
  | un=>rw [hx] at e3;exact e3.elim
  | dead=>rw [hx] at e3;exact e3.elim
  | live own sy cs =>
   rw [hx] at this e3
   cases own with
   | false=>exact e3.elim
   | true =>
    rcases this with⟨q,_⟩ | ⟨b₁,vs,rest,ty,q1,q2,_,_⟩
    ·rw [e4] at q;cases q
    ·rw [e4] at q1;cases q1;exact q2
  | map es =>
   rw [hx] at this
   obtain⟨b₁,n₁,arr,q1,q2,_,_⟩:=this
   rw [e4] at q1;cases q1;exact q2
 have oldown:∀k b n,(s.bk k).own->ρ k=some (b,0,n)->(∀i,ks[i]? = some k->mb.getD i .un=.un)->b < W.heap.size/\¬own' b:=fun k b n hk e1 hno=>by
  constructor
  ·have:=h.bk k
   cases hx:s.bk k with
   | un=>rw [hx] at hk;exact hk.elim
   | dead=>rw [hx] at hk;exact hk.elim
   | live own sy cs =>
    rw [hx] at this hk
    cases own with
    | false=>exact hk.elim
    | true =>
     rcases this with⟨q,_⟩ | ⟨b₁,vs,rest,ty,q1,_,_,q4⟩
     ·rw [e1] at q;cases q
     ·rw [e1] at q1;cases q1;exact iL q4
   | map es =>
    rw [hx] at this
    obtain⟨b₁,n₁,arr,q1,_,_,q4⟩:=this
    rw [e1] at q1;cases q1;exact iL q4
  ·intro hb'
   obtain⟨i,k',n',g1,g2,g3,g4⟩:=hown b hb'
   by_cases hkk:k=k'
   ·subst hkk;exact g2 (hno i g1)
   ·exact h.apart k k' b n b n' hkk hk g3 e1 g4 rfl
 have hle':ρ.le ⟨fun k=>if fr<=k/\k < fr+nb.length then ρ' (ks.length+(k - fr)) else ρ k,ρ'.fz⟩:=hle
 have hle0:ρ'.le ⟨fun k=>if fr<=k/\k < fr+nb.length then ρ' (ks.length+(k - fr)) else ρ k,ρ'.fz⟩:=fun _ _ h=>h
 refine⟨{ defs:=h.defs,size:=h.size,sl:=fun t=>Rel.congr hle' _ _ (fun k hk=>hρ k (h.wf1 t k hk)) (h.sl t),bk:=fun k=>?_,apart:=fun i j b n b' n' hij hi hj e1 e2=>?_,wf1:=fun t k hk=>hkeep k (h.wf1 t k hk),wf2:=fun i k hk=>?_,kept:=?_,pl:=hpl2,old:=fun i hi=>⟨(hρ i (h.old i hi).2).trans (h.old i hi).1,hkeep i (h.old i hi).2⟩,fzn:=fun b o ho=>⟨(hfz b o ho).1,fun k n hk e1=>?_,?_⟩,fzo:=fun b o ho=>hle b o (h.fzo b o ho) },hmem⟩
 ·rcases cls k with⟨e,hn,hno⟩ | ⟨j,e,hj⟩
  ·rw [e]
   by_cases hun:s.bk k=.un
   ·rw [hun];trivial
   ·refine BRep.congr hle' (hρ k hun) (fun j hj=>hρ j (h.wf2 k j hj)) ?_
    have hb0:=h.bk k
    cases hx:s.bk k with
    | un=>trivial
    | dead=>trivial
    | live own sy cs =>
     rw [hx] at hb0
     cases own with
     | true =>
      rcases hb0 with hb0 | ⟨b,vs,rest,ty,q1,q2,q3,q4⟩
      ·exact .inl hb0
      ·obtain⟨g1,g2⟩:=oldown k b _ (by rw [hx];trivial) q1 hno
       exact .inr ⟨b,vs,rest,ty,q1,q2,q3,by rw [hb.block b g1 g2];exact q4⟩
     | false =>
      rcases hb0 with hb0 | ⟨b,o,n,vs,q1,q2,q3,q4⟩
      ·exact .inl hb0
      ·refine .inr ⟨b,o,n,vs,q1,q2,q3,fun i x hx'=>?_⟩
       have hne:vs≠[]:=by rintro rfl;simp at hx'
       have hc:=q4 i x hx'
       have hlt:=aDr hc
       simp only [World.cell?] at hc ⊢
       by_cases ho:own' b
       ·obtain⟨ob,hob⟩:=q2.2 hne (ownM b ho)
        rw [(hfz b ob (hle b ob hob)).1]
        rw [(h.fzn b ob hob).1] at hc;exact hc
       ·rw [hb.block b hlt ho];exact hc
    | map es =>
     rw [hx] at hb0
     obtain⟨b,n,arr,q1,q2,q3,q4⟩:=hb0
     obtain⟨g1,g2⟩:=oldown k b _ (by rw [hx];trivial) q1 hno
     exact⟨b,n,arr,q1,q2,q3,by rw [hb.block b g1 g2];exact q4⟩
  ·have hb0:=hnew j
   have hkj:(if fr<=k/\k < fr+nb.length then ρ' (ks.length+(k - fr)) else ρ k)=ρ' j:=by
    rcases hj with⟨g1,g2,g3⟩ | ⟨g1,g2,g3⟩
    ·rw [if_pos ⟨g1,g2⟩,g3]
    ·rw [if_neg g1];exact(hold j k g2).symm
   exact aMq hle0 hr1 hr2 hkj (fun b hb'=>hb'.elim (fun h'=>.inl (Nat.le_trans h.size_le h')) (ownM b)) e (hplp j) hb0
 ·have new:∀k j b n,rP ks nb.length fr (gC ks.length mb nb j)=some ((s.app none { val:=.u,ups:=upm++upn }).bk k)->((s.app none { val:=.u,ups:=upm++upn }).bk k).own->ρ' j=some (b,0,n)->W.heap.size<=b\/own' b:=fun k j b n e ho hr=>by
   have ho':=(lV e (hplp j)).2.1 ho
   have hb0:=hnew j
   cases hx:gC ks.length mb nb j with
   | un=>rw [hx] at ho';exact ho'.elim
   | dead=>rw [hx] at ho';exact ho'.elim
   | live own sy cs =>
    rw [hx] at hb0 ho'
    cases own with
    | false=>exact ho'.elim
    | true =>
     rcases hb0 with⟨q,_⟩ | ⟨b₁,vs,rest,ty,q1,q2,_,_⟩
     ·rw [hr] at q;cases q
     ·rw [hr] at q1;cases q1;exact q2
   | map es =>
    rw [hx] at hb0
    obtain⟨b₁,n₁,arr,q1,q2,_,_⟩:=hb0
    rw [hr] at q1;cases q1;exact q2
  have rhoj:∀k j,((fr<=k/\k < fr+nb.length/\j=ks.length+(k - fr))\/(¬(fr<=k/\k < fr+nb.length)/\ks[j]? = some k/\j < ks.length))->(if fr<=k/\k < fr+nb.length then ρ' (ks.length+(k - fr)) else ρ k)=ρ' j:=fun k j hj=>by
   rcases hj with⟨g1,g2,g3⟩ | ⟨g1,g2,g3⟩
   ·rw [if_pos ⟨g1,g2⟩,g3]
   ·rw [if_neg g1];exact(hold j k g2).symm
  simp only [Env.mk_loc] at e1 e2
  rcases cls i with⟨ei,ni,noi⟩ | ⟨ji,ei,hji⟩
  ·rw [ei] at hi
   rw [if_neg ni] at e1
   rcases cls j with⟨ej,nj,noj⟩ | ⟨jj,ej,hjj⟩
   ·rw [ej] at hj
    rw [if_neg nj] at e2
    exact h.apart i j b n b' n' hij hi hj e1 e2
   ·rw [rhoj j jj hjj] at e2
    obtain⟨g1,g2⟩:=oldown i b n hi e1 noi
    rcases new j jj b' n' ej hj e2 with g | g
    ·omega
    ·intro eb;rw [eb] at g2;exact g2 g
  ·rw [rhoj i ji hji] at e1
   rcases cls j with⟨ej,nj,noj⟩ | ⟨jj,ej,hjj⟩
   ·rw [ej] at hj
    rw [if_neg nj] at e2
    obtain⟨g1,g2⟩:=oldown j b' n' hj e2 noj
    rcases new i ji b n ei hi e1 with g | g
    ·omega
    ·intro eb;rw [←eb] at g2;exact g2 g
   ·rw [rhoj j jj hjj] at e2
    refine hap ji jj b n b' n' (fun e=>hij ?_) ((lV ei (hplp ji)).2.1 hi) ((lV ej (hplp jj)).2.1 hj) e1 e2
    subst e
    rcases hji with⟨g1,g2,g3⟩ | ⟨g1,g2,g3⟩<;>rcases hjj with⟨f1,f2,f3⟩ | ⟨f1,f2,f3⟩
    ·omega
    ·omega
    ·omega
    ·rw [g2] at f2;cases f2;rfl
 ·rcases cls i with⟨e,hn,hno⟩ | ⟨j,e,hj⟩
  ·rw [e] at hk
   exact hkeep k (h.wf2 i k hk)
  ·exact hmem k ((lV e (hplp j)).2.2.1 k hk)
 ·exact⟨hb.os.trans h.kept.os,hb.tape.trans h.kept.tape,hb.output.trans h.kept.output,Nat.le_trans h.kept.size hb.size,fun k hk ho=>(hb.block k (Nat.lt_of_lt_of_le hk h.kept.size) (fun h'=>by
   rcases ownM k h' with g | g
   ·omega
   ·exact ho g)).trans (h.kept.block k hk ho),Nat.le_trans h.kept.drawn hb.drawn⟩
 ·have e1':(if fr<=k/\k < fr+nb.length then ρ' (ks.length+(k - fr)) else ρ k)=some (b,0,n):=e1
  rcases cls k with⟨e,hn,hno⟩ | ⟨j,e,hj⟩
  ·rw [e] at hk
   rw [if_neg hn] at e1'
   obtain⟨g1,g2⟩:=oldown k b n hk e1' hno
   rcases (hfz b o ho).2.2 with g | g | g
   ·exact(h.fzn b o g).2.1 k n hk e1'
   ·omega
   ·exact g2 g
  ·refine(hfz b o ho).2.1 j n ((lV e (hplp j)).2.1 hk) ?_
   rcases hj with⟨g1,g2,g3⟩ | ⟨g1,g2,g3⟩
   ·rw [if_pos ⟨g1,g2⟩] at e1';rw [g3];exact e1'
   ·rw [if_neg g1] at e1';rw [hold j k g2];exact e1'
 ·rcases (hfz b o ho).2.2 with g | g | g
  ·exact(h.fzn b o g).2.2
  ·exact .inr (.inl (Nat.le_trans h.size_le g))
  ·exact .inr (ownM b g)
theorem aNy {ks:List Nat} {k i:Nat} {m:Bool} {x y:BK} {M M':Nat->Prop} (hk:ks[i]? = some k)(hx:nW ks m x=some y)(hp:x.pl)(h:BRep ρ M W k x)
 (hM:x.own->m=true->∀b n,ρ k=some (b,0,n)->M' b) (hM':m=false->∀b,b < W.heap.size->(M b->(∃n,ρ k=some (b,0,n)/\x.own)\/∃o,ρ.fz b=some o)->¬M' b):BRep (jF ρ ks) M' W i y/\y.pl:=by
 have he:jF ρ ks i=ρ k:=dL hk
 have key:∀(own sym:Bool) (cells l:List SV),x=.live own sym cells->¬(m=true/\own=false)->(∀vs,Rels ρ cells vs->Rels (jF ρ ks) l vs)->(cells=[]->l=[])->BRep (jF ρ ks) M' W i (.live m sym l):=fun own sym cells l hxe hmo hrl hnil=>by
  subst hxe
  cases own with
  | true =>
   rcases h with⟨h1,h2⟩ | ⟨b,vs,rest,ty,h1,h2,h3,h4⟩
   ·cases m<;>exact .inl ⟨he.trans h1,hnil h2⟩
   ·cases m with
    | true=>exact .inr ⟨b,vs,rest,ty,he.trans h1,hM trivial rfl b _ h1,hrl vs h3,h4⟩
    | false =>
     refine .inr ⟨b,0,_,vs,he.trans h1,⟨by simp,fun _ hmb=>(hM' rfl b (iL h4) (fun _=>.inl ⟨_,h1,trivial⟩) hmb).elim⟩,hrl vs h3,fun j x hj=>?_⟩
     have hi:j < vs.length:=(List.getElem?_eq_some_iff.1 hj).1
     simp [World.cell?,h4,List.getElem?_append_left hi,hj]
  | false =>
   have hmf:m=false:=by cases m<;>simp at hmo ⊢
   subst hmf
   rcases h with⟨h1,h2⟩ | ⟨b,o,n,vs,h1,h2,h3,h4⟩
   ·exact .inl ⟨he.trans h1,hnil h2⟩
   ·refine .inr ⟨b,o,n,vs,he.trans h1,⟨h2.1,fun hne hmb=>?_⟩,hrl vs h3,h4⟩
    obtain⟨x,hx⟩:∃x,vs[0]? = some x:=by cases vs with
     | nil=>exact(hne rfl).elim
     | cons x _=>exact⟨x,rfl⟩
    exact(hM' rfl b (aDr (h4 0 x hx)) (fun hm=>.inr (h2.2 hne hm)) hmb).elim
 cases x with
 | un=>simp [nW] at hx
 | dead=>simp [nW] at hx
 | map es =>
  cases m with
  | false=>simp [nW] at hx
  | true =>
   simp only [nW,bG] at hx
   subst hx
   obtain⟨b,n,arr,h1,h2,h3,h4⟩:=h
   exact⟨⟨b,n,arr,he.trans h1,hM trivial rfl b _ h1,MEs.congr (pF _ _) _ _ _ (fun k hk=>(hp k hk).elim) h3,h4⟩,hp⟩
 | live own sym cells =>
  cases sym with
  | true =>
   simp only [nW] at hx
   split at hx
   ·cases hx
   rename_i hmo
   simp only [bG] at hx
   subst hx
   exact⟨key own true cells cells rfl hmo (fun vs hv=>Plain.congr (pF _ _) hp hv) id,hp⟩
  | false =>
   simp only [nW] at hx
   split at hx
   ·cases hx
   rename_i hmo
   split at hx
   ·rename_i l hl
    simp only [bG] at hx
    subst hx
    exact⟨key own false cells l rfl hmo (fun vs hv=>renL_rel cells l vs hl hv) (fun e=>by subst e;simp only [renL,bG] at hl;exact hl.symm),trivial⟩
   ·cases hx
theorem aQy {ks:List Nat} {m:Bool} {x y:BK} (hx:nW ks m x=some y)(hp:x.pl):y.pl:=by
 cases x with
 | un=>simp [nW] at hx
 | dead=>simp [nW] at hx
 | map es =>
  cases m with
  | false=>simp [nW] at hx
  | true =>
   simp only [nW,bG] at hx
   subst hx;exact hp
 | live own sym cells =>
  cases sym<;>simp only [nW] at hx<;>split at hx<;>try (cases hx;done)
  ·split at hx
   ·simp only [bG] at hx;subst hx;trivial
   ·cases hx
  ·simp only [bG] at hx;subst hx;exact hp
theorem aAy {ks:List Nat} {m:Bool} {x y:BK} (hx:nW ks m x=some y):(y.own↔m=true)/\(m=true->x.own):=by
 cases x with
 | un=>simp [nW] at hx
 | dead=>simp [nW] at hx
 | map es =>
  cases m with
  | false=>simp [nW] at hx
  | true =>
   simp only [nW,bG] at hx
   subst hx;simp [BK.own]
 | live own sym cells =>
  cases sym<;>simp only [nW] at hx<;>split at hx<;>try (cases hx;done)
  all_goals rename_i hmo
  ·split at hx
   ·simp only [bG] at hx
    subst hx
    cases m<;>cases own<;>simp_all [BK.own]
   ·cases hx
  ·simp only [bG] at hx
   subst hx
   cases m<;>cases own<;>simp_all [BK.own]
theorem aGs {fv:SV} {g:Nat} {fst caps:List SV} (h:callee fv=some (g,fst,caps)) {v:Value} (hr:Rel ρ fv v):∃us vs:List Value,v=.func (.func g) us.toArray vs.toArray/\Rels ρ fst us/\Rels ρ caps vs:=by
 unfold callee at h
 split at h
 ·rename_i g' first caps'
  split at h
  ·rename_i h1 h2
   simp only [bG,eZ] at h
   obtain⟨rfl,rfl,rfl⟩:=h
   simp only [Rel] at hr
   have e1:first=#[]:=by apply Array.ext';simp [h1]
   have e2:caps'=#[]:=by apply Array.ext';simp [h2]
   exact⟨[],[],by rw [hr,e1,e2],by simp [Rels],by simp [Rels]⟩
  ·cases h
 ·rename_i g' caps'
  simp only [Rel] at hr
  obtain⟨vs,hv,hr⟩:=hr
  split at h
  ·rename_i hlt
   simp only [bG,eZ] at h
   obtain⟨rfl,rfl,rfl⟩:=h
   exact⟨[],vs,by rw [hv,aNn hlt],by simp [Rels],hr⟩
  ·rename_i hge
   simp only [bG,eZ] at h
   obtain⟨rfl,rfl,rfl⟩:=h
   exact⟨vs,[],by rw [hv];unfold fnV;rw [if_neg hge],hr,by simp [Rels]⟩
 ·cases h
theorem aQz {r:Option Nat} {n:Nat} {o:Oper} {f:Operand} {args:Array Operand} {ts:Array TypeId} (hop:o.op=.call { callee:=.value f,args:=args,argTypes:=ts })
 {fr:Nat} {orc orc':List Or} {e:Eff} {obs:List Ob} {ks:List Nat} (h:sN (o.op.operands.toList.map (ev s.sl)) s.bk fr orc=some (e,obs,orc',ks)) (hob:Obs P obs)
 (hrep:Rep w0 N D ρ s a W) (hfr:∀u∈e.ups,fr<=u.1->s.bk u.1=.un) (hd:∀d,o.dst=some d->d < N) {Q:Exit->Act->World->Prop} {K:Act->World->Prop}
 (hK:∀ρ' a' W',Rep w0 N D ρ' (s.app o.dst e) a' W'->K a' W'):o.wpIn (Fw r) n P a W K Q:=by
 have hops:o.op.operands.toList=f::args.toList:=by rw [hop];simp [Op.operands,Call.operands]
 rw [hops,List.map_cons] at h
 unfold sN at h
 split at h
 ·rename_i fv as0 ks' res nb mb orc2 hcons
  simp only [List.cons.injEq] at hcons
  obtain⟨hfv,has⟩:=hcons
  split at h
  ·rename_i g fst caps hg
   split at h
   ·rename_i args' bs res' upm upn h1 h2 h3 h4m h4
    split at h
    case isFalse=>cases h
    rename_i hnd
    simp only [bG,eZ] at h
    obtain⟨rfl,rfl,rfl,rfl⟩:=h
    simp only [Obs,Ob.Holds,and_true] at hob
    have hfr':=bY hrep f
    rw [hfv] at hfr'
    obtain⟨us,vs,hfval,hfst,hcaps⟩:=aGs hg hfr'
    have hargs:=lH hrep args.toList
    rw [has] at hargs
    have hall:Rels ρ (fst++as0++caps) (us++args.toList.map a.eval++vs):=Rels.append (Rels.append hfst hargs) hcaps
    have hren:=renL_rel (ks:=ks') _ _ _ h1 hall
    obtain⟨hbl,hbs⟩:=aAw ks' mb bs h2
    have hks:∀k∈ks',s.bk k≠.un:=fun k hk hun=>by
     obtain⟨i,hi⟩:=List.getElem?_of_mem hk
     obtain⟨y,_,hy⟩:=hbs i k hi
     rw [hun] at hy;simp [nW] at hy
    -- which of the blocks handed over may be written
    have hownb:∀i,(bs.getD i .un).own->∃k,ks'[i]? = some k/\mb.getD i .un≠.un/\(s.bk k).own:=fun i hi=>by
     cases hk:ks'[i]? with
     | none =>
      have:bs[i]? = none:=by rw [List.getElem?_eq_none_iff] at hk ⊢;omega
      rw [fV,this] at hi;exact hi.elim
     | some k =>
      obtain⟨y,hy1,hy2⟩:=hbs i k hk
      rw [show bs.getD i .un=y by simp [hy1]] at hi
      have hm:=(aAy hy2).1.1 hi
      exact⟨k,rfl,fun e=>by rw [e] at hm;simp [aIw] at hm,(aAy hy2).2 hm⟩
    have hownOf:∀b,tD (jF ρ ks') bs b->∃i k n,ks'[i]? = some k/\mb.getD i .un≠.un/\(s.bk k).own/\ρ k=some (b,0,n):=fun b ⟨i,n,hi,hr⟩=>by
     obtain⟨k,e1,e2,e3⟩:=hownb i hi
     refine⟨i,k,n,e1,e2,e3,?_⟩
     rw [dL e1] at hr;exact hr
    have hMown:∀k b n,(s.bk k).own->ρ k=some (b,0,n)->w0.mine b/\b < W.heap.size:=fun k b n hk hr=>by
     have:=hrep.bk k
     cases hx:s.bk k with
     | un=>rw [hx] at hk;exact hk.elim
     | dead=>rw [hx] at hk;exact hk.elim
     | live own sy cs =>
      rw [hx] at this hk
      cases own with
      | false=>exact hk.elim
      | true =>
       rcases this with⟨q,_⟩ | ⟨b₁,vs,rest,ty,q1,q2,_,q4⟩
       ·rw [hr] at q;cases q
       ·rw [hr] at q1;cases q1;exact⟨q2,iL q4⟩
     | map es =>
      rw [hx] at this
      obtain⟨b₁,n₁,arr,q1,q2,_,q4⟩:=this
      rw [hr] at q1;cases q1;exact⟨q2,iL q4⟩
    obtain⟨hE,hob⟩:=hob
    have hcall:=hob (jF ρ ks') W (us++args.toList.map a.eval++vs) hren (fun i=>by
     cases hi:ks'[i]? with
     | none =>
      have:bs[i]? = none:=by rw [List.getElem?_eq_none_iff] at hi ⊢;omega
      simp [this,BRep]
     | some k =>
      obtain⟨y,hy1,hy2⟩:=hbs i k hi
      rw [show bs.getD i .un=y by simp [hy1]]
      refine(aNy hi hy2 (hrep.pl k) (hrep.bk k) (fun ho hm b n hr=>.inr ⟨i,n,by rw [show bs.getD i .un=y by simp [hy1]];exact(aAy hy2).1.2 hm,by rw [dL hi];exact hr⟩) (fun hm b hlt hMb hM'=>?_)).1
      ·rcases hM' with hM' | hM'
       ·simp only [dO] at hM';omega
       ·obtain⟨i',k',n',g1,g2,g3,g4⟩:=hownOf b hM'
        rcases hMb (hMown k' b n' g3 g4).1 with⟨n2,q1,q2⟩ | ⟨ob,hob⟩
        rotate_left
        ·exact(hrep.fzn b ob hob).2.1 k' n' g3 g4
        by_cases hkk:k=k'
        ·subst hkk
         have:=lU hnd i i' k hi g1
         subst this
         simp only [Bool.not_eq_false'] at hm
         exact g2 (aGr.1 hm)
        ·exact hrep.apart k k' b n2 b n' hkk q2 g3 q1 g4 rfl) (fun i=>by
     cases hi:ks'[i]? with
     | none =>
      have:bs[i]? = none:=by rw [List.getElem?_eq_none_iff] at hi ⊢;omega
      simp [this,BK.pl]
     | some k =>
      obtain⟨y,hy1,hy2⟩:=hbs i k hi
      rw [show bs.getD i .un=y by simp [hy1]]
      exact aQy hy2 (hrep.pl k)) (fun i j b n b' n' hij hi hj e1 e2=>by
     obtain⟨k1,q1,_,q3⟩:=hownb i hi
     obtain⟨k2,p1,_,p3⟩:=hownb j hj
     rw [dL q1] at e1;rw [dL p1] at e2
     refine hrep.apart k1 k2 b n b' n' (fun e=>hij ?_) q3 p3 e1 e2
     subst e
     exact lU hnd i j k1 q1 p1) (fun b o ho=>⟨(hrep.fzn b o ho).1,fun i n hi e1=>by
     obtain⟨k1,q1,_,q3⟩:=hownb i hi
     rw [dL q1] at e1
     exact(hrep.fzn b o ho).2.1 k1 n q3 e1⟩)
    have hnd':∀c,o.op≠.defer c:=fun c hc=>by rw [hop] at hc;cases hc
    have hrun:(execOp a.eval o).run P W=.ok (.enter g (us++args.toList.map a.eval++vs).toArray) W:=by
     have e1:us.toArray++(args.map a.eval)++vs.toArray=(us++args.toList.map a.eval++vs).toArray:=by apply Array.ext';simp
     simp only [execOp,hop,resolve,hfval,Deferred.ofValue,Sem.run_bind,Sem.run_pure,Result.andThen_ok,invoke]
     rw [hE,e1]
    refine⟨fun _ _=>trivial,?_⟩
    rw [Oper.semAt_eq _ _ _ hnd',hrun]
    simp only [Oper.uponIn]
    refine⟨fun h=>by simp [Fw] at h,aIt.2 (hcall.mono fun e w' hR=>?_)⟩
    obtain⟨ρ',v,rfl,hold,hres,hkept,hnew,hplp,hap,hle,hfz⟩:=hR
    simp only [dO] at hold hkept hnew hplp hap hle hfz
    rw [hbl] at hnew hplp hap hfz
    have hold':∀i k,ks'[i]? = some k->ρ' i=ρ k:=fun i k hi=>by
     have hlt:i < bs.length:=by rw [hbl];exact(List.getElem?_eq_some_iff.1 hi).1
     rw [hold i hlt,dL hi]
    obtain⟨hul,hus⟩:=rQ nb fr upn h4
    have hfr:∀k,fr<=k->k < fr+nb.length->s.bk k=.un:=fun k h1 h2=>by
     obtain⟨y',_,e3⟩:=hus (k - fr) (nb[k - fr]'(by omega)) (by simp)
     rw [Nat.add_sub_cancel' h1] at e3
     exact hfr _ (List.mem_append_right _ (List.mem_of_getElem? e3)) h1
    obtain⟨hrep2,hmem⟩:=hrep.called hkept hnd hfr hks h4m h4 hownOf hold' hle hfz hnew hplp hap
    refine hK ⟨fun k=>if fr<=k/\k < fr+nb.length then ρ' (ks'.length+(k - fr)) else ρ k,ρ'.fz⟩ _ _ ?_
    rw [fX]
    refine hrep2.put o.dst hd ?_ (fun k hk=>hmem k (aGq res res' h3 hk))
    have hL:ρ'.le ⟨fun k=>if fr<=k/\k < fr+nb.length then ρ' (ks'.length+(k - fr)) else ρ k,ρ'.fz⟩:=fun _ _ h=>h
    refine aGp hL (fun i k hi=>?_) (fun j hj=>?_) res res' v h3 hres
    ·have hk':s.bk k≠.un:=hks k (List.mem_of_getElem? hi)
     simp only [Env.mk_loc]
     rw [if_neg (fun h'=>hk' (hfr k h'.1 h'.2))];exact(hold' i k hi).symm
    ·simp only [Env.mk_loc]
     rw [if_pos (by omega),Nat.add_sub_cancel_left]
   ·cases h
  ·cases h
 ·cases h
end
end Go.Aw
namespace Go.Aw
open Go.RowKit
def aAz (l:List Operand):List Nat:=l.filterMap fun | .tmp t=>some t | _=>none
def aC8 (ops:Array Oper)(o:Oper):List Nat :=
 match o.guard with
 | none=>[]
 | some (j,_)=>(iD ops j).toList
def aC9 (ops:Array Oper)(sl:Nat->SV)(o:Oper):Option Bool :=
 match o.guard with
 | none=>some true
 | some (j,w)=>match iD ops j with
  | none=>none
  | some g=>match sl g with
   | .b d=>some (d == w)
   | .v (.tuple vs)=>match vs.toList with
    | []=>some false
    | _=>none
   | _=>none
def aGt (T:Nat->Option TI)(o:Oper)(s:LS)(orc:List Or):Option (Eff×List Ob×List Or×List Nat) :=
 match o.op with
 | .call { callee:=.value _,args:=_,argTypes:=_ }=>sN (o.op.operands.toList.map (ev s.fs.sl)) s.fs.bk s.bk.length orc
 | .defer _=>none
 | op=>match aKj T op (op.operands.toList.map (ev s.fs.sl)) ((jE op (op.operands.toList.map (ev s.fs.sl))).map s.fs.bk) s.bk.length orc with
  | some (e,obs,orc)=>some (e,obs,orc,jE op (op.operands.toList.map (ev s.fs.sl)))
  | none=>none
def aU3 (isG:Bool)(op:Op):List Or->Option (Nat×BK×List Or)
 | .alt k b::orc=>match isG,op with
  | false,.lookup _ _ _ _=>some (k,b,orc)
  | _,_=>none
 | _=>none
def aTx (T:Nat->Option TI)(ops:Array Oper)(isG:Bool)(o:Oper)(s:LS)(orc:List Or):Option (Ev×List Ob×List Or) :=
 match aC9 ops s.fs.sl o with
 | none=>none
 | some false=>some ({ eff:={ val:=.v undef },rs:=aC8 ops o,rb:=[] },[],orc)
 | some true =>
  match aU3 isG o.op orc with
  | some (k,b,orc) =>
   match aGt T o s orc,aGt T o ⟨s.sl,s.bk.set k b⟩ orc with
   | some (e,obs,orc,rb),some (e',obs',_,rb') =>
    if k < s.bk.length/\rb'=rb then some ({ eff:=e,rs:=aC8 ops o++aAz o.op.operands.toList,rb:=rb++e.ups.map (·.1),alt:=[(k,b)] },obs++(obs'++[.pr (e'=e)]),orc) else none
   | _,_=>none
  | none =>
  match aGt T o s orc with
  | none=>none
  | some (e,obs,orc,rb) =>
   match isG,e.val with
   | true,.v (.bool c) =>
    match orc with
    | .d d::orc=>some ({ eff:={ val:=.b d,ups:=e.ups },rs:=aC8 ops o++aAz o.op.operands.toList,rb:=rb++e.ups.map (·.1) },obs++[.eq c d],orc)
    | _=>none
   | _,_=>some ({ eff:=e,rs:=aC8 ops o++aAz o.op.operands.toList,rb:=rb++e.ups.map (·.1) },obs,orc)
def aQ0 (ops:Array Oper)(i:Nat):Bool:=ops.toList.any fun o=>match o.guard with
 | some (j,_)=>j == i
 | none=>false
def nG (T:Nat->Option TI)(ops:Array Oper):List Oper->Nat->LS->List Or->Option (List Ev×LS×List Ob×List Or)
 | [],_,s,orc=>some ([],s,[],orc)
 | o::l,i,s,orc =>
  match aTx T ops (aQ0 ops i) o s orc with
  | none=>none
  | some (v,obs,orc) =>
   match s.app o.dst v.eff with
   | none=>none
   | some s' =>
    match nG T ops l (i+1) s' orc with
    | none=>none
    | some (vs,s'',obs',orc)=>some (v::vs,s'',obs++obs',orc)
def kE (o:Oper):List Nat:=(o.after.toList.filter fun e=>Region.binds .any e).map (·.on)
def tZ:List Oper->List Nat->List Nat
 | [],acc=>acc
 | o::l,acc=>tZ l (acc++[(kE o).foldl (fun m e=>m ||| (2 ^ e ||| acc.getD e 0)) 0])
def wrC (dst:Option Nat)(v:Ev):List Nat:=(dst.map (2*·)).toList++v.eff.ups.map (fun u=>2*u.1+1)
def rdC (v:Ev):List Nat:=v.rs.map (2*·)++(v.rb.filter fun k=>!(v.alt.map (·.1)).contains k).map (2*·+1)
def aD2 (v:Ev):List Nat:=v.alt.map (2*·.1+1)
def aNz (l m:List Nat):Bool:=l.all fun x=>!m.contains x
def aA0 (ops:Array Oper)(evs:List Ev):Bool :=
 let cl:=tZ ops.toList []
 let ws:=(ops.toList.zip evs).map fun(o,v)=>wrC o.dst v
 let rs:=evs.map rdC
 let qs:=evs.map aD2
 (List.range evs.length).all fun i =>
  ((ops.toList[i]?).map fun o=>(kE o).all fun e=>decide (e < i)).getD true &&
  (List.range i).all fun j=>(cl.getD i 0).testBit j ||
   (aNz (ws.getD j []) (ws.getD i [])&&aNz (ws.getD j []) (rs.getD i [])&&aNz (ws.getD i []) (rs.getD j [])&&aNz (ws.getD j []) (qs.getD i []))
def uA (ops:Array Oper)(evs:List Ev):List Ob :=
 (List.range evs.length).flatMap fun j=>(((evs[j]?).map (·.alt)).getD []).flatMap fun q=>(List.range evs.length).flatMap fun i =>
  (((evs[i]?).map (·.eff.ups)).getD []).flatMap fun u=>if(decide (j < i)&&u.1 == q.1&&!(((tZ ops.toList []).getD i 0).testBit j))=true then [.pr (u.2=q.2)] else []
section
variable {P : Program} {T : Nat → Option TI} {w0 : Cx} {N : Nat} {D : List Deferred} {ρ : Env} {a : Act} {W : World} {r : Option Nat} {n : Nat} {ops : Array Oper}
theorem vJ {s:FS} (hrep:Rep w0 N D ρ s a W) {o:Oper} {b:Bool} (h:aC9 ops s.sl o=some b):Region.wanted o (yielded ops a.tmps)=b:=by
 unfold aC9 at h
 unfold Region.wanted
 split at h
 ·rename_i hg;rw [hg];simpa using h
 ·rename_i j w hg
  rw [hg]
  simp only
  split at h
  ·cases h
  ·rename_i g hd
   have hr:=hrep.sl g
   have hy:yielded ops a.tmps j=match a.tmps[g]? with
    | some (.bool b)=>some b
    | _=>none:=by
    unfold yielded
    have:(ops[j]?).bind (·.dst)=some g:=hd
    rw [this];rfl
   split at h
   ·rename_i d hs
    rw [hs] at hr
    simp only [Rel] at hr
    have:a.tmps[g]? = some (.bool d):=by
     rw [Array.getD_eq_getD_getElem?] at hr
     cases hx:a.tmps[g]? with
     | none=>rw [hx] at hr;simp [undef] at hr
     | some x=>rw [hx] at hr;simp at hr;rw [hr]
    rw [hy,this]
    simpa using h
   ·rename_i vs hs
    rw [hs] at hr
    simp only [Rel] at hr
    split at h
    ·simp only [bG] at h
     subst h
     have:yielded ops a.tmps j=none:=by
      rw [hy]
      rw [Array.getD_eq_getD_getElem?] at hr
      cases hx:a.tmps[g]? with
      | none=>rfl
      | some x=>rw [hx] at hr;simp at hr;rw [hr]
     rw [this];simp
    ·cases h
   ·cases h
theorem aN0 {s s':Nat->SV} (x:Operand)(h:∀t,x=.tmp t->s' t=s t):ev s' x=ev s x:=by
 cases x with
 | tmp t=>exact h t rfl
 | const v=>cases v<;>rfl
 | global g=>rfl
 | func f=>rfl
theorem aMr {s s':Nat->SV} {l:List Operand} (h:∀t∈aAz l,s' t=s t):l.map (ev s')=l.map (ev s):=by
 refine List.map_congr_left fun x hx=>aN0 x fun t ht=>h t ?_
 subst ht
 exact List.mem_filterMap.2 ⟨.tmp t,hx,rfl⟩
theorem yY {ks:List Nat} {bk bk':Nat->BK}:∀(l:List Nat) (mb:List BK),(∀k∈l,bk' k=bk k)->yW ks bk' l mb=yW ks bk l mb
 | [],_,_=>rfl
 | k::l,mb,h=>by simp only [yW,h k (by simp),yY l mb.tail (fun j hj=>h j (by simp [hj]))]
theorem aCx {xs:List SV} {bk bk':Nat->BK} {fr:Nat} {orc:List Or} {e:Eff} {obs:List Ob} {orc':List Or} {ks:List Nat} (h:sN xs bk fr orc=some (e,obs,orc',ks))(hk:∀k∈ks,bk' k=bk k) :
 sN xs bk' fr orc=some (e,obs,orc',ks):=by
 unfold sN at h ⊢
 split at h
 ·split at h
  ·rename_i g fst caps hg
   split at h
   ·rename_i args' bs res' upm upn h1 h2 h3 h4 h5
    split at h
    ·rename_i hnd
     simp only [bG,eZ] at h
     obtain⟨rfl,rfl,rfl,rfl⟩:=h
     rw [yY _ _ hk]
     simp only [hg,h1,h2,h3,h4,h5,hnd,if_true]
    ·cases h
   ·cases h
  ·cases h
 ·cases h
theorem rR {l:List BK} {k:Nat} (h:l.length<=k):l.getD k .un=.un:=by
 simp [fV,List.getElem?_eq_none h]
theorem aD3 {o:Oper} {s:FS} {e:Eff} (hd:Does P w0 N D s a W o e)(hnd:∀c,o.op≠.defer c) {Q:Exit->Act->World->Prop} {K:Act->World->Prop}
 (hK:∀ρ' a' W',Rep w0 N D ρ' (s.app o.dst e) a' W'->K a' W'):o.wpIn (Fw r) n P a W K Q:=by
 obtain⟨nx,v,W',ρ',hrun,hnx,hrep⟩:=hd
 refine⟨fun _ _=>trivial,?_⟩
 rw [Oper.semAt_eq _ _ _ hnd,hrun]
 rcases hnx with rfl | ⟨rfl,rfl⟩
 ·exact hK ρ' _ _ hrep
 ·exact hK ρ' _ _ hrep
theorem vK (hT:nU P T) {o:Oper} {s:LS} {orc orc':List Or} {e:Eff} {obs:List Ob} {rb:List Nat} (h:aGt T o s orc=some (e,obs,orc',rb))(hob:Obs P obs)
 {s':FS} (hs:∀t∈aAz o.op.operands.toList,s'.sl t=s.fs.sl t) (hb:∀k∈rb++e.ups.map (·.1),s'.bk k=s.fs.bk k)
 (hrep:Rep w0 N D ρ s' a W) (hd:∀d,o.dst=some d->d < N) {Q:Exit->Act->World->Prop} {K:Act->World->Prop}
 (hK:∀ρ' a' W',Rep w0 N D ρ' (s'.app o.dst e) a' W'->K a' W'):o.wpIn (Fw r) n P a W K Q:=by
 have hxs:=aMr hs
 have hun:∀u∈e.ups,u.1=s.bk.length->s'.bk s.bk.length=.un:=fun u hu hx=>by
  rw [←hx,hb u.1 (List.mem_append_right _ (List.mem_map_of_mem hu)),hx];exact rR (Nat.le_refl _)
 unfold aGt at h
 split at h
 ·rename_i f args ts hop
  have hc:=aCx (bk':=s'.bk) h (fun k hk=>hb k (by simp [hk]))
  rw [←hxs] at hc
  refine aQz hop hc hob hrep (fun u hu hle=>?_) hd hK
  rw [hb u.1 (List.mem_append_right _ (List.mem_map_of_mem hu))]
  exact rR hle
 ·cases h
 ·rename_i hn1 hn2
  split at h
  ·rename_i e' obs' orc'' hs'
   simp only [bG,eZ] at h
   obtain⟨rfl,rfl,rfl,rfl⟩:=h
   rw [←hxs] at hs'
   have hs'':aKj T o.op (o.op.operands.toList.map (ev s'.sl)) ((jE o.op (o.op.operands.toList.map (ev s'.sl))).map s'.bk) s.bk.length orc=some (e',obs',orc''):=by
    rw [show(jE o.op (o.op.operands.toList.map (ev s'.sl))).map s'.bk=(jE o.op (o.op.operands.toList.map (ev s'.sl))).map s.fs.bk from
     List.map_congr_left fun k hk=>hb k (by rw [hxs] at hk;simp [hk])]
    exact hs'
   exact aD3 (aNx hT hs'' hob hrep rfl rfl hun hd) (fun c hc=>hn2 c hc) hK
  ·cases h
theorem Rep.decide {s:FS} {dst:Option Nat} {c d:Bool} {ups:List (Nat×BK)} (h:Rep w0 N D ρ (s.app dst { val:=.v (.bool c),ups:=ups }) a W) (hcd:c=d):Rep w0 N D ρ (s.app dst { val:=.b d,ups:=ups }) a W:=by
 subst hcd
 cases dst with
 | none=>exact h
 | some t =>
  refine { h with sl:=fun u=>?_,wf1:=fun u k hk=>?_ }
  ·have:=h.sl u
   simp only [FS.app] at this ⊢
   split
   ·rename_i hu;rw [if_pos hu] at this;simpa [Rel] using this
   ·rename_i hu;rw [if_neg hu] at this;exact this
  ·have:=h.wf1 u k
   simp only [FS.app] at this hk ⊢
   split at hk
   ·simp [SV.has] at hk
   ·rename_i hu;rw [if_neg hu] at this;exact this hk
theorem aD4 (hT:nU P T) {isG:Bool} {o:Oper} {s:LS} {orc orc':List Or} {v:Ev} {obs:List Ob} (h:aTx T ops isG o s orc=some (v,obs,orc'))(hob:Obs P obs)
 {i:Nat} (hi:ops[i]? = some o) (hd:∀d,o.dst=some d->d < N):qA P r n w0 N D ops i s.fs v:=by
 intro s' hs hb ρ a W Q K hrep hK
 unfold wpOpIn
 rw [hi]
 have hdst:iD ops i=o.dst:=by simp [iD,hi]
 rw [hdst] at hK
 simp only
 unfold aTx at h
 have hwant:∀b,aC9 ops s.fs.sl o=some b->(∀t∈aC8 ops o,s'.sl t=s.fs.sl t)->aC9 ops s'.sl o=some b:=fun b hb hg=>by
  unfold aC9 at hb ⊢
  split at hb
  ·exact hb
  ·rename_i j w hgd
   split at hb
   ·cases hb
   ·rename_i g hdj
    rw [hg g (by simp [aC8,hgd,hdj])]
    exact hb
 split at h
 ·cases h
 ·rename_i hw
  simp only [bG,eZ] at h
  obtain⟨rfl,_,_⟩:=h
  have:=vJ hrep (hwant _ hw (fun t ht=>hs t ht))
  simp only [this,Bool.false_eq_true,if_false]
  refine⟨fun _ _=>trivial,hK ρ _ _ ?_⟩
  exact hrep.put o.dst hd (by simp [Rel]) (fun k hk=>(fB hk).elim)
 ·rename_i hw
  split at h
  ·rename_i k b orc1 ha
   split at h
   ·rename_i e obs1 orc2 rb e' obs2 orc3 rb' he1 he2
    split at h
    ·rename_i hc
     obtain⟨hk,hrb⟩:=hc
     simp only [bG,eZ] at h
     obtain⟨rfl,rfl,_⟩:=h
     obtain⟨ho1,ho2⟩:=Obs.append hob
     obtain⟨ho2',ho3⟩:=Obs.append ho2
     simp only [Obs,Ob.Holds,and_true] at ho3
     subst ho3 hrb
     have:=vJ hrep (hwant _ hw (fun t ht=>hs t (by simp [ht])))
     simp only [this,if_true]
     by_cases hag:s'.bk k=s.fs.bk k
     ·refine vK hT he1 ho1 (fun t ht=>hs t (by simp [ht])) (fun j hj=>?_) hrep hd hK
      rcases hb j hj with h5 | h5
      ·exact h5
      ·simp only [List.mem_singleton,eZ] at h5
       obtain⟨rfl,_⟩:=h5
       exact hag
     ·refine vK (s:=⟨s.sl,s.bk.set k b⟩) hT he2 ho2' (fun t ht=>hs t (by simp [ht])) (fun j hj=>?_) hrep hd hK
      by_cases hjk:j=k
      ·subst hjk
       rcases hb j hj with h5 | h5
       ·exact absurd h5 hag
       ·simp only [List.mem_singleton,eZ,true_and] at h5
        rw [h5]
        show b=(s.bk.set j b).getD j .un
        simp [fV,hk]
      ·rcases hb j hj with h5 | h5
       ·rw [h5]
        show s.bk.getD j .un=(s.bk.set k b).getD j .un
        simp [fV,List.getElem?_set,Ne.symm hjk]
       ·simp only [List.mem_singleton,eZ] at h5
        exact absurd h5.1 hjk
    ·cases h
   ·cases h
  rename_i hal0
  clear hal0
  split at h
  ·cases h
  ·rename_i e obs' orc2 rb he
   split at h
   ·rename_i c hval
    split at h
    ·rename_i d orc3
     simp only [bG,eZ] at h
     obtain⟨rfl,rfl,_⟩:=h
     obtain⟨ho1,ho2⟩:=Obs.append hob
     simp only [Obs,Ob.Holds,and_true] at ho2
     have:=vJ hrep (hwant _ hw (fun t ht=>hs t (by simp [ht])))
     simp only [this,if_true]
     refine vK hT he ho1 (fun t ht=>hs t (by simp [ht])) (fun j hj=>(hb j hj).resolve_right (fun h=>by cases h)) hrep hd (fun ρ' a' W' h'=>hK ρ' a' W' ?_)
     obtain⟨ev,eu⟩:=e
     simp only at hval
     subst hval
     exact h'.decide ho2
    ·cases h
   ·simp only [bG,eZ] at h
    obtain⟨rfl,rfl,_⟩:=h
    have:=vJ hrep (hwant _ hw (fun t ht=>hs t (by simp [ht])))
    simp only [this,if_true]
    exact vK hT he hob (fun t ht=>hs t (by simp [ht])) (fun j hj=>(hb j hj).resolve_right (fun h=>by cases h)) hrep hd hK
end
end Go.Aw
namespace Go.Aw
open Go.RowKit
section
variable {P : Program} {T : Nat → Option TI} {w0 : Cx} {N : Nat} {D : List Deferred} {ρ : Env} {a : Act} {W : World} {r : Option Nat} {n : Nat} {ops : Array Oper}
theorem aGu (hT:nU P T) {all:List Ev} {s0:FS}:∀(l:List Oper) (i:Nat) (s:LS) (orc:List Or) (evs:List Ev) (s':LS) (obs:List Ob) (orc':List Or),nG T ops l i s orc=some (evs,s',obs,orc')->Obs P obs ->
 (∀j,l[j]? = ops[i+j]?)->(∀j,evs[j]? = all[i+j]?)->s.fs=SD (cL ops all) (fun _=>true) s0 i ->
 evs.length=l.length/\s'.fs=SD (cL ops all) (fun _=>true) s0 (i+l.length)/\s'.sl.length=s.sl.length /\
  ∀j v,evs[j]? = some v->qA P r n w0 s.sl.length D ops (i+j) (SD (cL ops all) (fun _=>true) s0 (i+j)) v
 | [],i,s,orc,evs,s',obs,orc',h,_,_,_,hs=>by
  simp only [nG,bG,eZ] at h
  obtain⟨rfl,rfl,_,_⟩:=h
  exact⟨rfl,hs,rfl,fun j v hv=>by simp at hv⟩
 | o::l,i,s,orc,evs,s',obs,orc',h,hob,hl,he,hs=>by
  simp only [nG] at h
  split at h
  ·cases h
  ·rename_i v obs1 orc1 hv
   split at h
   ·cases h
   ·rename_i s1 happ
    split at h
    ·cases h
    ·rename_i vs s2 obs2 orc2 hrest
     simp only [bG,eZ] at h
     obtain⟨rfl,rfl,rfl,rfl⟩:=h
     obtain⟨ho1,ho2⟩:=Obs.append hob
     have hi:ops[i]? = some o:=by have:=hl 0;simpa using this.symm
     have hall:all[i]? = some v:=by have:=he 0;simpa using this.symm
     obtain⟨hfs,hd,hlen⟩:=aIv happ
     have hs1:s1.fs=SD (cL ops all) (fun _=>true) s0 (i+1):=by
      simp only [SD,if_true,cL,hall,←hs]
      rw [hfs];simp [iD,hi]
     obtain⟨h1,h2,h3,h4⟩:=aGu hT l (i+1) s1 orc1 vs s2 obs2 orc2 hrest ho2 (fun j=>by have:=hl (j+1);simpa [Nat.add_assoc,Nat.add_comm 1 j] using this)
      (fun j=>by have:=he (j+1);simpa [Nat.add_assoc,Nat.add_comm 1 j] using this) hs1
     refine⟨by simp [h1],by rw [h2];congr 1;simp;omega,h3.trans hlen,fun j w hw=>?_⟩
     cases j with
     | zero =>
      simp at hw;subst hw
      have:=aD4 (r:=r) (n:=n) (w0:=w0) (D:=D) hT hv ho1 hi hd
      rw [Nat.add_zero,←hs];exact this
     | succ j =>
      have:=h4 j w (by simpa using hw)
      rw [hlen] at this
      rw [show i+(j+1)=i+1+j by omega];exact this
theorem aGv:∀(l:List Oper) (acc:List Nat),(∀j,j < acc.length->(tZ l acc)[j]? = acc[j]?)/\(tZ l acc).length=acc.length+l.length
 | [],acc=>⟨fun _ _=>rfl,by simp [tZ]⟩
 | o::l,acc=>by
  simp only [tZ]
  obtain⟨h1,h2⟩:=aGv l (acc++[(kE o).foldl (fun m e=>m ||| (2 ^ e ||| acc.getD e 0)) 0])
  refine⟨fun j hj=>?_,by rw [h2];simp;omega⟩
  rw [h1 j (by simp;omega),List.getElem?_append_left hj]
theorem aA1 (acc:List Nat):∀(es:List Nat) (m k:Nat),(es.foldl (fun m e=>m ||| (2 ^ e ||| acc.getD e 0)) m).testBit k=true->m.testBit k=true\/∃e∈es,k=e\/(acc.getD e 0).testBit k=true
 | [],m,k,h=>.inl h
 | e::es,m,k,h=>by
  simp only [List.foldl_cons] at h
  rcases aA1 acc es _ k h with h | ⟨e',he',h⟩
  ·simp only [Nat.testBit_or,Bool.or_eq_true,Nat.testBit_two_pow,decide_eq_true_eq] at h
   rcases h with h | h | h
   ·exact .inl h
   ·exact .inr ⟨e,by simp,.inl h.symm⟩
   ·exact .inr ⟨e,by simp,.inr h⟩
  ·exact .inr ⟨e',by simp [he'],h⟩
theorem aKt:∀(l:List Oper) (acc:List Nat) (i:Nat) (o:Oper),l[i]? = some o->∃acc':List Nat,(∀j,j < acc'.length->(tZ l acc)[j]? = acc'[j]?)/\acc'.length=acc.length+i /\
 (tZ l acc)[acc.length+i]? = some ((kE o).foldl (fun m e=>m ||| (2 ^ e ||| acc'.getD e 0)) 0)
 | [],acc,i,o,h=>by simp at h
 | o'::l,acc,i,o,h=>by
  simp only [tZ]
  cases i with
  | zero =>
   simp at h;subst h
   have:=aGv l (acc++[(kE o').foldl (fun m e=>m ||| (2 ^ e ||| acc.getD e 0)) 0])
   refine⟨acc,fun j hj=>?_,by simp,?_⟩
   ·rw [this.1 j (by simp;omega),List.getElem?_append_left hj]
   ·rw [this.1 _ (by simp)];simp
  | succ i =>
   simp at h
   obtain⟨acc',h1,h2,h3⟩:=aKt l (acc++[(kE o').foldl (fun m e=>m ||| (2 ^ e ||| acc.getD e 0)) 0]) i o h
   refine⟨acc',h1,by rw [h2];simp;omega,?_⟩
   rw [←h3];congr 1;simp;omega
theorem qB {o:Oper} {e:Nat}:e∈kE o↔∃x∈o.after,Region.binds .any x=true/\x.on=e:=by
 simp [kE,List.mem_map,List.mem_filter,and_assoc]
def aQ1 (ops:Array Oper)(i j:Nat):Prop:=j < i/\((tZ ops.toList []).getD i 0).testBit j=true
theorem uB {D:Nat->Bool} (hcl:∀j o,ops[j]? = some o->D j=true->∀e∈o.after,Region.binds .any e=true->D e.on=true)(hlow:∀i o,ops[i]? = some o->∀e∈o.after,Region.binds .any e=true->e.on < i) :
 ∀(i:Nat) (o:Oper),ops[i]? = some o->(∀e∈o.after,Region.binds .any e=true->D e.on=true)->∀k,((tZ ops.toList []).getD i 0).testBit k=true->D k=true:=by
 intro i
 induction i using Nat.strongRecOn with
 | ind i ih =>
  intro o ho hd k hk
  obtain⟨acc',h1,h2,h3⟩:=aKt ops.toList [] i o (by simpa using ho)
  simp only [List.length_nil,Nat.zero_add] at h2 h3
  rw [fV,h3] at hk
  simp only [Option.getD_some] at hk
  rcases aA1 _ _ _ _ hk with h | ⟨e,he,h⟩
  ·simp at h
  ·obtain⟨x,hx,hb,rfl⟩:=qB.1 he
   have hlt:=hlow i o ho x hx hb
   have hDx:=hd x hx hb
   rcases h with rfl | h
   ·exact hDx
   ·have hsz:x.on < ops.size:=by have:=(Array.getElem?_eq_some_iff.1 ho).1;omega
    have hox:ops[x.on]? = some ops[x.on]:=by simp [hsz]
    refine ih x.on hlt _ hox (hcl _ _ hox hDx) k ?_
    rw [fV,h1 x.on (by omega),←fV];exact h
theorem sO {l m:List Nat} (h:aNz l m=true):∀x∈l,x ∉ m:=by
 intro x hx
 have:=List.all_eq_true.1 h x hx
 simpa using this
def gQ:Nat⊕Nat->Nat
 | .inl t=>2*t
 | .inr k=>2*k+1
theorem Obs.mem:∀{l:List Ob},Obs P l->∀o∈l,o.Holds P
 | _::_,h,o,ho=>by
  rcases List.mem_cons.1 ho with rfl | ho
  ·exact h.1
  ·exact Obs.mem h.2 o ho
theorem aGw {k:Nat} {b:BK}:∀(us:List (Nat×BK)) (f:Nat->BK),(∃u∈us,u.1=k)->(∀u∈us,u.1=k->u.2=b)->cY f us k=b
 | [],_,h,_=>by obtain⟨u,hu,_⟩:=h;cases hu
 | (j,y)::us,f,h,ha=>by
  simp only [cY]
  by_cases hin:∃u∈us,u.1=k
  ·exact aGw us _ hin (fun u hu=>ha u (List.mem_cons_of_mem _ hu))
  ·rw [nF us _ k (fun u hu e=>hin ⟨u,hu,e⟩)]
   obtain⟨u,hu,e⟩:=h
   rcases List.mem_cons.1 hu with rfl | hu
   ·simp only at e
    have:=ha (j,y) List.mem_cons_self e
    simp [e,←this]
   ·exact(hin ⟨u,hu,e⟩).elim
theorem aN1 {evs:List Ev} (hob:Obs P (uA ops evs)) {i j:Nat} (hji:j < i)(hd:¬aQ1 ops i j) {vi vj:Ev} (hi:evs[i]? = some vi)(hj:evs[j]? = some vj) {x:Nat⊕Nat} (hw:gQ x∈wrC (iD ops i) vi)(ha:gQ x∈aD2 vj)(s:FS) :
 ∃v k b,evs[j]? = some v/\x=.inr k/\(k,b)∈v.alt/\(cL ops evs i s).at' x=.inr b:=by
 obtain⟨q,hq,he⟩:=List.mem_map.1 ha
 cases x with
 | inl t=>simp only [gQ] at he;omega
 | inr k =>
  simp only [gQ] at he
  have hqk:q.1=k:=by omega
  refine⟨vj,k,q.2,hj,rfl,by rw [←hqk];exact hq,?_⟩
  have hmem:∃u∈vi.eff.ups,u.1=k:=by
   simp only [wrC,gQ,List.mem_append,List.mem_map,Option.mem_toList] at hw
   rcases hw with hw | ⟨u,hu,e⟩
   ·cases hdd:iD ops i with
    | none=>rw [hdd] at hw;simp at hw
    | some d=>rw [hdd] at hw;simp at hw;omega
   ·exact⟨u,hu,by omega⟩
  have hall:∀u∈vi.eff.ups,u.1=k->u.2=q.2:=fun u hu e=>by
   have hil:=(List.getElem?_eq_some_iff.1 hi).1
   have hjl:=(List.getElem?_eq_some_iff.1 hj).1
   have hm:(Ob.pr (u.2=q.2))∈uA ops evs:=by
    unfold uA
    refine List.mem_flatMap.2 ⟨j,by simp [hjl],List.mem_flatMap.2 ⟨q,by rw [hj];exact hq,List.mem_flatMap.2 ⟨i,by simp [hil],List.mem_flatMap.2 ⟨u,by rw [hi];exact hu,?_⟩⟩⟩⟩
    have hb:(((tZ ops.toList []).getD i 0).testBit j)=false:=by
     cases hb:(((tZ ops.toList []).getD i 0).testBit j) with
     | false=>rfl
     | true=>exact absurd ⟨hji,hb⟩ hd
    rw [hb,if_pos (by simp [hji,e,hqk])]
    simp
   exact Obs.mem hob _ hm
  simp only [FS.at',cL,hi,FS.app]
  rw [aGw vi.eff.ups s.bk hmem hall]
theorem vL {evs:List Ev} (hlen:evs.length=ops.size)(h:aA0 ops evs=true)(hob:Obs P (uA ops evs)) :
 Conf ops.size (cL ops evs) (fun i x=>∃v,evs[i]? = some v/\gQ x∈wrC (iD ops i) v) (fun i x=>∃v,evs[i]? = some v/\gQ x∈rdC v) (fun i x=>∃v,evs[i]? = some v/\gQ x∈aD2 v)
  (fun i x y=>∃v k b,evs[i]? = some v/\x=.inr k/\(k,b)∈v.alt/\y=.inr b) (aQ1 ops) /\
 (∀i o,ops[i]? = some o->∀e∈o.after,Region.binds .any e=true->e.on < i):=by
 unfold aA0 at h
 simp only [List.all_eq_true,List.mem_range,Bool.and_eq_true] at h
 have hw:∀i v,evs[i]? = some v->(((ops.toList.zip evs).map fun(x:Oper×Ev)=>wrC x.1.dst x.2).getD i [])=wrC (iD ops i) v:=fun i v hv=>by
  have hi:i < ops.size:=by rw [←hlen];exact(List.getElem?_eq_some_iff.1 hv).1
  have ho:ops.toList[i]? = some ops[i]:=by simp [hi]
  have hz:(ops.toList.zip evs)[i]? = some (ops[i],v):=List.getElem?_zip_eq_some.2 ⟨ho,hv⟩
  simp only [fV,List.getElem?_map,hz,Option.map_some,Option.getD_some]
  simp [iD,hi]
 have hr:∀i v,evs[i]? = some v->((evs.map rdC).getD i [])=rdC v:=fun i v hv=>by
  simp [fV,hv]
 have hq:∀i v,evs[i]? = some v->((evs.map aD2).getD i [])=aD2 v:=fun i v hv=>by
  simp [fV,hv]
 have pair:∀i j vi vj,j < i->evs[i]? = some vi->evs[j]? = some vj->aQ1 ops i j\/((∀x,gQ x∈wrC (iD ops j) vj->gQ x ∉ wrC (iD ops i) vi/\gQ x ∉ rdC vi/\gQ x ∉ aD2 vi)/\(∀x,gQ x∈wrC (iD ops i) vi->gQ x ∉ rdC vj/\(gQ x∈aD2 vj->∀s,∃v k b,evs[j]? = some v/\x=.inr k/\(k,b)∈v.alt/\(cL ops evs i s).at' x=.inr b))):=fun i j vi vj hji hi hj=>by
  have hil:=(List.getElem?_eq_some_iff.1 hi).1
  have:=(h i hil).2 j hji
  simp only [Bool.or_eq_true,Bool.and_eq_true] at this
  by_cases hdp:aQ1 ops i j
  ·exact .inl hdp
  rcases this with h' | ⟨⟨⟨h1,h2⟩,h3⟩,h4⟩
  ·exact .inl ⟨hji,h'⟩
  ·rw [show(fun x:Oper×Ev=>match x with | (o,v)=>wrC o.dst v)=fun x:Oper×Ev=>wrC x.1.dst x.2 from rfl] at h1 h2 h3 h4
   rw [hw i vi hi] at h1 h3
   rw [hw j vj hj] at h1 h2 h4
   rw [hq i vi hi] at h4
   rw [hr i vi hi] at h2
   rw [hr j vj hj] at h3
   exact .inr ⟨fun x hx=>⟨sO h1 _ hx,sO h2 _ hx,sO h4 _ hx⟩,fun x hx=>⟨sO h3 _ hx,fun ha s=>aN1 hob hji hdp hi hj hx ha s⟩⟩
 refine⟨{ out:=fun i s x hx=>?_,same:=fun i s s' x hx=>?_,low:=fun i j hd=>hd.1,free:=fun i j hi hj hij=>?_ },fun i o ho e he hb=>?_⟩
 ·unfold cL
  cases hv:evs[i]? with
  | none=>rfl
  | some v =>
   have hnot:gQ x ∉ wrC (iD ops i) v:=fun h=>hx ⟨v,hv,h⟩
   simp only [wrC,List.mem_append,not_or] at hnot
   cases x with
   | inl t =>
    simp only [FS.at',FS.app]
    cases hd:iD ops i with
    | none=>rfl
    | some d =>
     have:t≠d:=fun e=>hnot.1 (by rw [hd];simp [gQ,e])
     simp [this]
   | inr k =>
    simp only [FS.at',FS.app]
    rw [nF]
    intro u hu e
    exact hnot.2 (List.mem_map.2 ⟨u,hu,by simp [gQ,e]⟩)
 ·obtain⟨v,hv,hx⟩:=hx
  simp only [cL,hv]
  simp only [wrC,List.mem_append] at hx
  cases x with
  | inl t =>
   simp only [FS.at',FS.app]
   rcases hx with hx | hx
   ·cases hd:iD ops i with
    | none=>rw [hd] at hx;simp at hx
    | some d =>
     rw [hd] at hx
     simp [gQ] at hx
     have:t=d:=by omega
     simp [this]
   ·simp [gQ] at hx;omega
  | inr k =>
   simp only [FS.at',FS.app]
   rcases hx with hx | hx
   ·cases hd:iD ops i with
    | none=>rw [hd] at hx;simp at hx
    | some d=>rw [hd] at hx;simp [gQ] at hx;omega
   ·congr 1
    have hmem:∃u∈v.eff.ups,u.1=k:=by
     obtain⟨u,hu,e⟩:=List.mem_map.1 hx
     exact⟨u,hu,by simp [gQ] at e;omega⟩
    clear hx hv
    generalize v.eff.ups=us at hmem
    generalize s.bk=f
    generalize s'.bk=g
    induction us generalizing f g with
    | nil=>obtain⟨u,hu,_⟩:=hmem;cases hu
    | cons u us ih =>
     obtain⟨j,y⟩:=u
     simp only [cY]
     by_cases hin:∃u∈us,u.1=k
     ·exact ih hin _ _
     ·rw [nF us _ k (fun u hu e=>hin ⟨u,hu,e⟩),nF us _ k (fun u hu e=>hin ⟨u,hu,e⟩)]
      obtain⟨u,hu,e⟩:=hmem
      rcases List.mem_cons.1 hu with rfl | hu
      ·simp only at e;simp [e]
      ·exact(hin ⟨u,hu,e⟩).elim
 ·have hvi:evs[i]? = some evs[i]:=by simp
  have hvj:evs[j]? = some evs[j]:=by simp
  rcases Nat.lt_or_ge j i with hlt | hge
  ·rcases pair i j _ _ hlt hvi hvj with h' | ⟨h1,h2⟩
   ·exact .inl h'
   ·refine .inr (.inr ⟨fun x hx=>?_,fun x hx=>?_⟩)
    ·obtain⟨v,hv,hx⟩:=hx
     rw [hvi] at hv;cases hv
     refine⟨fun⟨v,hv,hx'⟩=>?_,fun⟨v,hv,hx'⟩=>?_⟩
     ·rw [hvj] at hv;cases hv;exact(h1 x hx').1 hx
     ·rw [hvj] at hv;cases hv;exact(h2 x hx).1 hx'
    ·obtain⟨v,hv,hx⟩:=hx
     rw [hvj] at hv;cases hv
     refine⟨fun⟨v,hv,hx'⟩=>?_,fun⟨v,hv,hx'⟩=>?_⟩
     ·rw [hvi] at hv;cases hv;exact(h1 x hx).2.1 hx'
     ·rw [hvi] at hv;cases hv;exact((h1 x hx).2.2 hx').elim
  ·have hlt:i < j:=by omega
   rcases pair j i _ _ hlt hvj hvi with h' | ⟨h1,h2⟩
   ·exact .inr (.inl h')
   ·refine .inr (.inr ⟨fun x hx=>?_,fun x hx=>?_⟩)
    ·obtain⟨v,hv,hx⟩:=hx
     rw [hvi] at hv;cases hv
     exact⟨fun⟨v,hv,hx'⟩=>by rw [hvj] at hv;cases hv;exact(h1 x hx).1 hx',fun⟨v,hv,hx'⟩=>by rw [hvj] at hv;cases hv;exact(h1 x hx).2.1 hx'⟩
    ·obtain⟨v,hv,hx⟩:=hx
     rw [hvj] at hv;cases hv
     refine⟨fun⟨v,hv,hx'⟩=>?_,fun⟨v,hv,hx'⟩=>?_⟩
     ·rw [hvi] at hv;cases hv;exact(h2 x hx).1 hx'
     ·rw [hvi] at hv;cases hv;exact⟨hlt,(h2 x hx).2 hx'⟩
 ·have hi:i < evs.length:=by rw [hlen];exact(Array.getElem?_eq_some_iff.1 ho).1
  have:=(h i hi).1
  have ho':ops.toList[i]? = some o:=by simpa using ho
  rw [ho'] at this
  simp only [Option.map_some,Option.getD_some,List.all_eq_true,decide_eq_true_eq] at this
  exact this e.on (qB.2 ⟨e,he,hb,rfl⟩)
theorem aD5 (hT:nU P T)(hm:P.follows .mixedOrders=true) {s s':LS} {orc orc':List Or} {evs:List Ev} {obs:List Ob} {draw:Bool} {id:Nat}
 (h:nG T ops ops.toList 0 s orc=some (evs,s',obs,orc')) (hob:Obs P obs) (hrace:draw=true->aA0 ops evs=true/\Obs P (uA ops evs)) (hrep:Rep w0 s.sl.length D ρ s.fs a W) {Q:Exit->Act->World->Prop}
 (hQ:∀ρ' a' W',Rep w0 s'.sl.length D ρ' s'.fs a' W'->Q .normal a' W'):(Code.region id ops draw).wpIn (Fw r) n P Q a W:=by
 obtain⟨h1,h2,h3,h4⟩:=aGu (ops:=ops) (r:=r) (n:=n) (w0:=w0) (D:=D) (all:=evs) (s0:=s.fs) hT ops.toList 0 s orc evs s' obs orc' h hob (fun j=>by simp) (fun j=>by simp) rfl
 have hlen:evs.length=ops.size:=by rw [h1];simp
 have hfin:s'.fs=SD (cL ops evs) (fun _=>true) s.fs ops.size:=by rw [h2];simp
 have hloc:∀i v,evs[i]? = some v->qA P r n w0 s.sl.length D ops i (SD (cL ops evs) (fun _=>true) s.fs i) v:=fun i v hv=>by
  have:=h4 i v hv;simpa using this
 have hQ':∀ρ' a' W',Rep w0 s.sl.length D ρ' (SD (cL ops evs) (fun _=>true) s.fs ops.size) a' W'->Q .normal a' W':=fun ρ' a' W' h'=>hQ ρ' a' W' (by rw [h3,hfin];exact h')
 cases draw with
 | false=>exact aGo hlen hloc hrep hQ'
 | true =>
  obtain⟨c,hlow⟩:=vL hlen (hrace rfl).1 (hrace rfl).2
  refine aIu hlen hm c (fun i v t hv ht=>⟨v,hv,?_⟩) (fun i v k hv hk=>?_) hlow (fun D i o ho hcl hd k hk=>?_) hloc hrep hQ'
  ·simp only [rdC,gQ];exact List.mem_append_left _ (List.mem_map.2 ⟨t,ht,rfl⟩)
  ·by_cases hal:k∈v.alt.map (·.1)
   ·obtain⟨q,hq,rfl⟩:=List.mem_map.1 hal
    refine .inr ⟨⟨v,hv,by simp only [aD2,gQ];exact List.mem_map.2 ⟨q,hq,rfl⟩⟩,fun y hy=>?_⟩
    obtain⟨v',k',b,hv',hk',hb,rfl⟩:=hy
    rw [hv] at hv';cases hv'
    cases hk'
    exact⟨b,rfl,hb⟩
   ·refine .inl ⟨v,hv,?_⟩
    simp only [rdC,gQ]
    exact List.mem_append_right _ (List.mem_map.2 ⟨k,List.mem_filter.2 ⟨hk,by simpa using hal⟩,rfl⟩)
  ·exact uB hcl hlow i o ho hd k hk.2
end
end Go.Aw
namespace Go.Aw
open Go.RowKit
inductive K where
 | c (x:Code)
 | b (id:Nat)
 | l (body:Code) (m:Nat)
 | s (body : Code) (m : Nat)     -- the end of a scope; at most m jumps to a label of it
def aA2 (F:Fence)(n:Nat)(P:Program)(c:Code)(Q:Exit->Act->World->Prop):Nat->Exit->Act->World->Prop
 | 0,e,a,w=>match e with
  | .goto _=>False
  | e=>Q e a w
 | m+1,e,a,w=>match e with
  | .goto l=>∃rest,findLabel c l=some rest/\rest.wpIn F n P (aA2 F n P c Q m) a w
  | e=>Q e a w
theorem qC {F:Fence} {n:Nat} {P:Program} {c:Code} {Q:Exit->Act->World->Prop} {m:Nat} {e:Exit} {a:Act} {w:World} (h:∀l,e≠.goto l):aA2 F n P c Q m e a w=Q e a w:=by
 cases m<;>cases e<;>first | rfl | exact absurd rfl (h _)
theorem aGx {P:Program} {b:Frame} {a:Act} {k:List Item} {cs:List Frame} {w:World} {c:Code}:step P (lone (b.atR a (.code (.scope c)::k)) cs w)=.next (lone (b.atR a (.code c::.inScope c::k)) cs w) :=
 step_lone_go (by simp [stepG,stepG.exec,Frame.atR])
theorem tE {P:Program} {b:Frame} {a:Act} {k:List Item} {cs:List Frame} {w:World} {c:Code}:step P (lone (b.atR a (.inScope c::k)) cs w)=.next (lone (b.atR a k) cs w) :=
 step_lone_go (by simp [stepG,stepG.exec,Frame.atR])
theorem aIx {F:Fence} {n:Nat} {P:Program} {c:Code} {Q:Exit->Act->World->Prop} {a:Act} {w:World} (m:Nat)(h:c.wpIn F n P (aA2 F n P c Q m) a w):(Code.scope c).wpIn F n P Q a w:=by
 intro b k cs hro hb hr
 have key:∀m (c':Code) a w,c'.wpIn F n P (aA2 F n P c Q m) a w->∃e a' w',Q e a' w'/\ArrivesIn (Machine.fenced P F) P (lone (b.atR a (.code c'::.inScope c::k)) cs w) b k cs e a' w':=by
  intro m
  induction m with
  | zero =>
   intro c' a w h
   obtain⟨e,a₁,w₁,hq,harr⟩:=h b (.inScope c::k) cs hro hb hr
   cases e with
   | normal=>exact⟨.normal,a₁,w₁,hq,StepsIn.trans harr (.one (fenced_calm hb hr rfl) tE)⟩
   | exit id=>exact⟨.exit id,a₁,w₁,hq,fun k' hk=>harr.1 k' (by simp [exitTo,hk]),fun hr' hk=>harr.2 hr' (by simp [exitTo,hk])⟩
   | goto l=>exact hq.elim
   | ret=>exact⟨_,a₁,w₁,hq,harr⟩
   | panic ch=>exact⟨_,a₁,w₁,hq,harr⟩
   | outgrown=>exact⟨_,a₁,w₁,hq,harr⟩
  | succ m ih =>
   intro c' a w h
   obtain⟨e,a₁,w₁,hq,harr⟩:=h b (.inScope c::k) cs hro hb hr
   cases e with
   | normal=>exact⟨.normal,a₁,w₁,hq,StepsIn.trans harr (.one (fenced_calm hb hr rfl) tE)⟩
   | exit id=>exact⟨.exit id,a₁,w₁,hq,fun k' hk=>harr.1 k' (by simp [exitTo,hk]),fun hr' hk=>harr.2 hr' (by simp [exitTo,hk])⟩
   | goto l =>
    obtain⟨rest,hf,hq⟩:=hq
    have hg:gotoIn l (.inScope c::k)=some (.code rest::.inScope c::k):=by simp [gotoIn,hf]
    obtain⟨e₂,a₂,w₂,hq₂,harr₂⟩:=ih rest a₁ w₁ hq
    exact⟨e₂,a₂,w₂,hq₂,.of_steps (harr.1 _ hg) harr₂⟩
   | ret=>exact⟨_,a₁,w₁,hq,harr⟩
   | panic ch=>exact⟨_,a₁,w₁,hq,harr⟩
   | outgrown=>exact⟨_,a₁,w₁,hq,harr⟩
 obtain⟨e,a',w',hq,harr⟩:=key m c a w h
 exact⟨e,a',w',hq,.of_steps (.one (fenced_calm hb hr rfl) aGx) harr⟩
def iN (r:Option Nat)(n:Nat)(P:Program)(Q:Exit->Act->World->Prop):List K->Exit->Act->World->Prop
 | [],e=>Q e
 | .c x::k,e=>match e with
  | .normal=>x.wpIn (Fw r) n P (iN r n P Q k)
  | e=>iN r n P Q k e
 | .b id::k,e=>match e with
  | .exit id'=>if id == id' then iN r n P Q k .normal else iN r n P Q k (.exit id')
  | e=>iN r n P Q k e
 | .l body m::k,e=>match e with
  | .normal=>Code.roundsIn (Fw r) n P body (iN r n P Q k) m
  | e=>iN r n P Q k e
 | .s body m::k,e=>aA2 (Fw r) n P body (iN r n P Q k) m e
def kF (id:Nat):List K->Option (List K)
 | []=>none
 | .b id'::k=>if id' == id then some k else kF id k
 | .c _::k=>kF id k
 | .l _ _::k=>kF id k
 | .s _ _::k=>kF id k
inductive Out where
 | ret (s:LS)
 | norm (s:LS)
 | enter (body:Code) (k:List K) (s:LS)
 | back (body:Code) (m:Nat) (k:List K) (s:LS)
 | at (x:Code) (k:List K) (s:LS)
def aU4 (id:Nat):List Or->Option (List Or)
 | .stop j::orc=>if j=id then some orc else none
 | _=>none
def run (T:Nat->Option TI):Nat->List K->LS->List Or->Option (Out×List Ob×List Or)
 | 0,_,_,_=>none
 | f+1,k,s,orc =>
  match k with
  | []=>some (.norm s,[],orc)
  | .b _::k=>run T f k s orc
  | .s _ _::k=>run T f k s orc
  | .l body m::k=>match orc with
   | .un _::orc'=>match m with
    | m+1=>run T f (.c body::.l body m::k) s orc'
    | 0=>none
   | _=>some (.back body m k s,[],orc)
  | .c x::k =>
   match x with
   | .skip=>run T f k s orc
   | .label _=>run T f k s orc
   | .seq a b=>run T f (.c a::.c b::k) s orc
   | .block id c=>run T f (.c c::.b id::k) s orc
   | .exit id=>match kF id k with
    | some k'=>run T f k' s orc
    | none=>none
   | .ret=>some (.ret s,[],orc)
   | .loop body=>match orc with
    | .un m::orc'=>run T f (.c body::.l body m::k) s orc'
    | _=>some (.enter body k s,[],orc)
   | .cond c a b=>match ev s.fs.sl c with
    | .b d=>run T f (.c (match d with | true=>a | false=>b)::k) s orc
    | .v (.bool x)=>match orc with
     | .d d::orc=>match run T f (.c (match d with | true=>a | false=>b)::k) s orc with
      | some (o,obs,orc)=>some (o,.eq x d::obs,orc)
      | none=>none
     | _=>none
    | _=>none
   | .region id ops draw=>match aU4 id orc with
    | some orc'=>some (.at (.region id ops draw) k s,[],orc')
    | none=>match nG T ops ops.toList 0 s orc with
     | some (evs,s',obs,orc)=>if(!draw || aA0 ops evs)=true then
      match run T f k s' orc with
      | some (o,obs',orc)=>some (o,obs++((if draw=true then uA ops evs else [])++obs'),orc)
      | none=>none
      else none
     | none=>none
   | .scope x=>match orc with
    | .un m::orc'=>run T f (.c x::.s x m::k) s orc'
    | _=>none
   | .goto l=>some (.at (.goto l) k s,[],orc)
   | .rangeFunc g ps x y=>some (.at (.rangeFunc g ps x y) k s,[],orc)
   | _=>none
section
variable {P : Program} {T : Nat → Option TI} {cx : Cx} {D : List Deferred} {r : Option Nat} {n : Nat} {Q : Exit → Act → World → Prop}
def Good (P:Program)(r:Option Nat)(n:Nat)(Q:Exit->Act->World->Prop)(cx:Cx)(D:List Deferred)(k:List K)(s:LS):Prop :=
 ∀(ρ:Env) (a:Act) (W:World),Rep cx s.sl.length D ρ s.fs a W->iN r n P Q k .normal a W
def aA3 (Q:Exit->Act->World->Prop)(e:Exit)(cx:Cx)(D:List Deferred)(s:LS):Prop:=∀(ρ:Env) (a:Act) (W:World),Rep cx s.sl.length D ρ s.fs a W->Q e a W
def aD6 (P:Program)(r:Option Nat)(n:Nat)(Q:Exit->Act->World->Prop)(cx:Cx)(D:List Deferred):Out->Prop
 | .ret s=>aA3 Q .ret cx D s
 | .norm s=>aA3 Q .normal cx D s
 | .enter body k s=>∃m,Good P r n Q cx D (.l body m::k) s
 | .back body m k s=>Good P r n Q cx D (.l body m::k) s
 | .at x k s=>Good P r n Q cx D (.c x::k) s
theorem aIy {k:List K} {e:Exit} (h:e≠.normal)(hx:∀id,e≠.exit id)(hg:∀l,e≠.goto l):iN r n P Q k e=Q e:=by
 induction k with
 | nil=>rfl
 | cons x k ih =>
  cases x with
  | s body m=>funext a w;simp only [iN];rw [qC hg,ih]
  | _=>cases e<;>simp_all [iN]
theorem pG {id:Nat} {a:Act} {W:World}:∀{k k':List K},kF id k=some k'->iN r n P Q k' .normal a W->iN r n P Q k (.exit id) a W
 | [],k',h,_=>by simp [kF] at h
 | .b id'::k,k',h,hg=>by
  simp only [kF] at h
  simp only [iN]
  split at h
  ·rename_i hid
   simp only [bG] at h;subst h
   rw [if_pos hid];exact hg
  ·rename_i hid
   rw [if_neg hid];exact pG h hg
 | .c _::k,k',h,hg=>by simp only [kF] at h;simp only [iN];exact pG h hg
 | .l _ _::k,k',h,hg=>by simp only [kF] at h;simp only [iN];exact pG h hg
 | .s _ _::k,k',h,hg=>by simp only [kF] at h;simp only [iN];rw [qC (by simp)];exact pG h hg
theorem aR {body:Code} {m:Nat} {k:List K} {s:LS} (h:Good P r n Q cx D (.c body::.l body m::k) s):Good P r n Q cx D (.l body (m+1)::k) s:=by
 intro ρ a W hrep
 have:=h ρ a W hrep
 simp only [iN] at this ⊢
 rw [roundsIn_succ]
 refine wpIn_mono this (fun e a w hq=>?_)
 cases e<;>simpa [iN,Exit.then] using hq
theorem iJ (hT:nU P T)(hm:P.follows .mixedOrders=true):∀(f:Nat) (k:List K) (s:LS) (orc:List Or) (out:Out) (obs:List Ob) (orc':List Or),run T f k s orc=some (out,obs,orc')->Obs P obs ->
 aD6 P r n Q cx D out->Good P r n Q cx D k s
 | 0,_,_,_,_,_,_,h,_,_=>by simp [run] at h
 | f+1,[],s,orc,out,obs,orc',h,_,hg=>by
  simp only [run,bG,eZ] at h
  obtain⟨rfl,_,_⟩:=h
  exact hg
 | f+1,.b id::k,s,orc,out,obs,orc',h,ho,hg=>by
  simp only [run] at h
  have:=iJ hT hm f k s orc out obs orc' h ho hg
  exact fun ρ a W hrep=>this ρ a W hrep
 | f+1,.s body m::k,s,orc,out,obs,orc',h,ho,hg=>by
  simp only [run] at h
  have:=iJ hT hm f k s orc out obs orc' h ho hg
  exact fun ρ a W hrep=>by
   simp only [iN];rw [qC (by simp)];exact this ρ a W hrep
 | f+1,.l body m::k,s,orc,out,obs,orc',h,ho,hg=>by
  simp only [run] at h
  split at h
  ·split at h
   ·rename_i m
    exact aR (iJ hT hm f _ s _ out obs orc' h ho hg)
   ·cases h
  ·simp only [bG,eZ] at h
   obtain⟨rfl,_,_⟩:=h
   exact hg
 | f+1,.c x::k,s,orc,out,obs,orc',h,ho,hg=>by
  simp only [run] at h
  split at h
  ·-- skip
   have:=iJ hT hm f k s orc out obs orc' h ho hg
   exact fun ρ a W hrep=>wpIn_skip (this ρ a W hrep)
  ·-- label
   have:=iJ hT hm f k s orc out obs orc' h ho hg
   exact fun ρ a W hrep=>wpIn_label (this ρ a W hrep)
  ·-- seq
   rename_i x y
   have:=iJ hT hm f (.c x::.c y::k) s orc out obs orc' h ho hg
   intro ρ a W hrep
   have:=this ρ a W hrep
   simp only [iN] at this ⊢
   refine wpIn_seq (wpIn_mono this fun e a w hq=>?_)
   cases e<;>simpa [iN,Exit.then] using hq
  ·-- block
   rename_i id c
   have:=iJ hT hm f (.c c::.b id::k) s orc out obs orc' h ho hg
   intro ρ a W hrep
   have:=this ρ a W hrep
   simp only [iN] at this ⊢
   refine wpIn_block (wpIn_mono this fun e a w hq=>?_)
   cases e<;>simp only [iN,Exit.inBlock] at hq ⊢<;>try exact hq
   rename_i id'
   by_cases hid:id=id'
   ·subst hid;simpa using hq
   ·have h1:(id == id')=false:=by simpa using hid
    have h2:(id' == id)=false:=by simpa using fun e=>hid e.symm
    simp only [h1,h2,Bool.false_eq_true,if_false] at hq ⊢
    first | exact hq | (rw [if_neg (fun e=>hid e.symm)];exact hq) | (rw [if_neg hid];exact hq)
  ·-- exit
   rename_i id
   split at h
   ·rename_i k' hk'
    have:=iJ hT hm f k' s orc out obs orc' h ho hg
    exact fun ρ a W hrep=>wpIn_exit (pG hk' (this ρ a W hrep))
   ·cases h
  ·-- ret
   simp only [bG,eZ] at h
   obtain⟨rfl,_,_⟩:=h
   intro ρ a W hrep
   simp only [iN]
   refine wpIn_ret ?_
   rw [aIy (by simp) (by simp) (by simp)]
   exact hg ρ a W hrep
  ·-- loop
   rename_i body
   split at h
   ·rename_i m orc2
    have:=aR (iJ hT hm f _ s orc2 out obs orc' h ho hg)
    exact fun ρ a W hrep=>wpIn_loop_rounds (m+1) (this ρ a W hrep)
   ·simp only [bG,eZ] at h
    obtain⟨rfl,_,_⟩:=h
    obtain⟨m,hg⟩:=hg
    exact fun ρ a W hrep=>wpIn_loop_rounds m (hg ρ a W hrep)
  ·-- cond
   rename_i c x y
   split at h
   ·rename_i d hc
    have:=iJ hT hm f _ s orc out obs orc' h ho hg
    intro ρ a W hrep
    have hr:=bY hrep c
    rw [hc] at hr
    simp only [Rel] at hr
    have:=this ρ a W hrep
    simp only [iN] at this ⊢
    refine wpIn_cond hr ?_
    cases d<;>exact this
   ·rename_i b hc
    split at h
    ·rename_i d orc2
     split at h
     ·rename_i o' obs' orc3 hrun
      simp only [bG,eZ] at h
      obtain⟨rfl,rfl,rfl⟩:=h
      obtain⟨h1,h2⟩:=ho
      simp only [Ob.Holds] at h1
      have:=iJ hT hm f _ s orc2 o' obs' orc3 hrun h2 hg
      intro ρ a W hrep
      have hr:=bY hrep c
      rw [hc] at hr
      simp only [Rel] at hr
      have:=this ρ a W hrep
      simp only [iN] at this ⊢
      refine wpIn_cond hr ?_
      rw [h1]
      cases d<;>exact this
     ·cases h
    ·cases h
   ·cases h
  ·-- region
   rename_i id ops draw
   split at h
   ·simp only [bG,eZ] at h
    obtain⟨rfl,_,_⟩:=h
    exact hg
   ·split at h
    ·rename_i evs s' obs1 orc1 hev
     split at h
     ·rename_i hrace
      split at h
      ·rename_i o' obs2 orc2 hrun
       simp only [bG,eZ] at h
       obtain⟨rfl,rfl,rfl⟩:=h
       obtain⟨h1,h2⟩:=Obs.append ho
       obtain⟨h3,h2⟩:=Obs.append h2
       have:=iJ hT hm f k s' orc1 o' obs2 orc2 hrun h2 hg
       intro ρ a W hrep
       simp only [iN]
       exact aD5 hT hm hev h1 (fun hd=>by subst hd;exact⟨by simpa using hrace,h3⟩) hrep (fun ρ' a' W' h'=>this ρ' a' W' h')
      ·cases h
     ·cases h
    ·cases h
  ·-- scope
   rename_i x
   split at h
   ·rename_i m orc2
    have:=iJ hT hm f (.c x::.s x m::k) s orc2 out obs orc' h ho hg
    intro ρ a W hrep
    have:=this ρ a W hrep
    simp only [iN] at this ⊢
    exact aIx m this
   ·cases h
  ·-- goto
   simp only [bG,eZ] at h
   obtain⟨rfl,_,_⟩:=h
   exact hg
  ·-- a range over a function
   simp only [bG,eZ] at h
   obtain⟨rfl,_,_⟩:=h
   exact hg
  ·cases h
end
end Go.Aw
namespace Go.Aw
open Go.RowKit
def qD (T:Nat->Option TI)(s:FS):List ResultVar->Option (List SV)
 | []=>some []
 | .tmp t::l=>match qD T s l with
  | some m=>some (s.sl t::m)
  | none=>none
 | .cell a t::l=>match s.sl a,T t with
  | .p k off,some i=>match s.bk k with
   | .live own false cells=>if((cells.drop off).take i.size).length=i.size then
    match mkV i.agg ((cells.drop off).take i.size),qD T s l with
    | some x,some m=>some (x::m)
    | _,_=>none
    else none
   | _=>none
  | _,_=>none
def aKu:List SV->SV
 | [x]=>x
 | l=>.t l
def aIz (R:List Nat):BK->Option BK
 | .dead=>some .dead
 | .map es=>some (.map es)
 | .live true true cells=>some (.live true true cells)
 | .live true false cells=>match renL R cells with
  | some cells=>some (.live true false cells)
  | none=>none
 | _=>none
def aGy (ks:List Nat)(bk:Nat->BK):List Nat->Option (List BK)
 | []=>some []
 | k::l=>match aIz ks (bk k),aGy ks bk l with
  | some x,some m=>some (x::m)
  | _,_=>none
def aGz (R:List Nat)(ms:List Nat)(bk:Nat->BK):Nat->Nat->Option (List BK)
 | _,0=>some []
 | i,n+1=>match (if ms.contains i then aIz R (bk i) else some .un),aGz R ms bk (i+1) n with
  | some x,some m=>some (x::m)
  | _,_=>none
def fin (T:Nat->Option TI)(rv:List ResultVar)(base:Nat)(ms ks:List Nat)(s:LS):Option (SV×List BK×List BK) :=
 match qD T s.fs rv with
 | none=>none
 | some l=>match yV (List.range base++ks) (aKu l),aGy (List.range base++ks) s.fs.bk ks,(match ms with | []=>some [] | _=>aGz (List.range base++ks) ms s.fs.bk 0 base) with
  | some res,some nb,some mb=>if tX ks&&ks.all (fun k=>decide (base<=k)) then some (res,nb,mb) else none
  | _,_,_=>none
section
variable {P : Program} {T : Nat → Option TI} {cx : Cx} {n : Nat}
def aDa (tmps:Array Value)(x:ResultVar):Sem Value :=
 match x with
 | .tmp t=>pure (tmps.getD t undef)
 | .cell a t=>do loadVar t (←asAddr (tmps.getD a undef))
theorem aI0 (fn:Func)(tmps:Array Value):results fn tmps=(fn.results.mapM (aDa tmps) >>= fun vs=>pure (if h:vs.size=1 then vs[0] else .tuple vs)):=by
 unfold results
 congr 2
theorem aI1 (x:Addr)(W:World):(asAddr (.pointer (some x))).run P W=.ok x W:=rfl
theorem uC (hT:nU P T) {N:Nat} {D:List Deferred} {s:FS} {ρ:Env} {a:Act} {W:World} (hrep:Rep cx N D ρ s a W):∀(rv:List ResultVar) (l:List SV),qD T s rv=some l->∀acc:Array Value,
 ∃vs:List Value,(rv.foldlM (fun(acc:Array Value) (x:ResultVar)=>do pure (acc.push (←aDa a.tmps x))) acc).run P W=.ok (acc++vs.toArray) W/\Rels ρ l vs
 | [],l,h,acc=>by simp only [qD,bG] at h;subst h;exact⟨[],by simp,by simp [Rels]⟩
 | .tmp t::rv,l,h,acc=>by
  simp only [qD] at h
  split at h
  ·rename_i m hm
   simp only [bG] at h;subst h
   obtain⟨vs,hr,hrel⟩:=uC hT hrep rv m hm (acc.push (a.tmps.getD t undef))
   refine⟨a.tmps.getD t undef::vs,?_,by simp only [Rels];exact⟨hrep.sl t,hrel⟩⟩
   simp only [List.foldlM_cons,Sem.run_bind,aDa,Sem.run_pure,Result.andThen_ok]
   refine Eq.trans hr ?_;simp
  ·cases h
 | .cell c t::rv,l,h,acc=>by
  simp only [qD] at h
  split at h
  ·rename_i k off i hs hi
   split at h
   ·rename_i own cells hb
    split at h
    ·rename_i hl
     split at h
     ·rename_i x m hx hm
      simp only [bG] at h;subst h
      obtain⟨nf,d,z,h1,h2,h3,hie⟩:=bE (hT t i hi)
      have hxr:=hrep.sl c
      rw [hs] at hxr
      simp only [Rel] at hxr
      obtain⟨b,o',m',hρ,hy⟩:=hxr
      have hbk:=hrep.bk k
      rw [hb] at hbk
      rcases hbk.read with⟨he,_⟩ | ⟨b',o'',m'',vs0,e1,⟨e2,_⟩,_,e4⟩
      ·rw [hρ] at he;cases he
      rw [hρ] at e1;cases e1
      rw [hie] at hx hl
      simp only at hx hl
      have hrr:Rels ρ ((cells.drop off).take nf.size) ((vs0.drop off).take nf.size):=Rels.take _ (Rels.drop _ e2)
      have hlen:=hrr.length
      have hload:(loadVar t ⟨b,o'+off,none⟩).run P W=.ok (if eG d=true then .agg ((vs0.drop off).take nf.size).toArray else((vs0.drop off).take nf.size).headD undef) W:=by
       refine yR h1 h2 (by rw [←hlen];exact hl) (fun hag hne=>?_) (fun j y hjy=>?_)
       ·rw [hag] at hx
        rw [hne] at hlen
        have:(cells.drop off).take nf.size=[]:=List.length_eq_zero_iff.1 (by simpa using hlen)
        rw [this] at hx;simp [mkV] at hx
       ·have hj:=(List.getElem?_eq_some_iff.1 hjy).1
        rw [List.getElem?_take_of_lt (by simp at hj;omega),List.getElem?_drop] at hjy
        have:=e4 (off+j) y hjy
        rw [show o'+off+j=o'+(off+j) by omega];exact this
      obtain⟨vs,hr,hrel⟩:=uC hT hrep rv m hm (acc.push (if eG d=true then .agg ((vs0.drop off).take nf.size).toArray else((vs0.drop off).take nf.size).headD undef))
      refine⟨_::vs,?_,by simp only [Rels];exact⟨aDt hx hrr,hrel⟩⟩
      have hrv:(aDa a.tmps (.cell c t)).run P W=.ok (if eG d=true then .agg ((vs0.drop off).take nf.size).toArray else((vs0.drop off).take nf.size).headD undef) W:=by
       simp only [aDa,Sem.run_bind,hy,aI1,Result.andThen_ok,hload]
      simp only [List.foldlM_cons,Sem.run_bind,hrv,Sem.run_pure,Result.andThen_ok]
      refine Eq.trans hr ?_;simp
     ·cases h
    ·cases h
   ·cases h
  ·cases h
theorem aA4 {ks:List Nat} {bk:Nat->BK}:∀(l:List Nat) (m:List BK),aGy ks bk l=some m->m.length=l.length/\∀(i:Nat) (y:BK),m[i]? = some y->∃k,l[i]? = some k/\aIz ks (bk k)=some y
 | [],m,h=>by simp only [aGy,bG] at h;subst h;simp
 | k::l,m,h=>by
  simp only [aGy] at h
  split at h
  ·rename_i x m' hx hm
   simp only [bG] at h;subst h
   obtain⟨h1,h2⟩:=aA4 l m' hm
   refine⟨by simp [h1],fun i y hi=>?_⟩
   cases i with
   | zero=>simp at hi;subst hi;exact⟨k,by simp,hx⟩
   | succ i =>
    obtain⟨k,e1,e2⟩:=h2 i y (by simpa using hi)
    exact⟨k,by simpa using e1,e2⟩
  ·cases h
theorem aA5 {R ms:List Nat} {bk:Nat->BK}:∀(n i:Nat) (m:List BK),aGz R ms bk i n=some m->m.length=n/\∀j y,m[j]? = some y->y=.un\/aIz R (bk (i+j))=some y
 | 0,i,m,h=>by simp only [aGz,bG] at h;subst h;simp
 | n+1,i,m,h=>by
  simp only [aGz] at h
  split at h
  ·rename_i x m' hx hm
   simp only [bG] at h;subst h
   obtain⟨h1,h2⟩:=aA5 n (i+1) m' hm
   refine⟨by simp [h1],fun j y hj=>?_⟩
   cases j with
   | zero =>
    simp at hj;subst hj
    split at hx
    ·exact .inr (by simpa using hx)
    ·simp only [bG] at hx;exact .inl hx.symm
   | succ j =>
    rw [show i+(j+1)=i+1+j by omega]
    exact h2 j y (by simpa using hj)
  ·cases h
theorem vM {R:List Nat} {ρ:Env} {M:Nat->Prop} {W:World} {j k:Nat} {x y:BK} (hj:R[j]? = some k)(h:aIz R x=some y)(hp:x.pl)(hb:BRep ρ M W k x):BRep (jF ρ R) M W j y/\y.pl/\(y.own->x.own):=by
 have he:jF ρ R j=ρ k:=dL hj
 unfold aIz at h
 split at h
 ·simp only [bG] at h;subst h;exact⟨trivial,trivial,fun h=>h.elim⟩
 ·simp only [bG] at h;subst h
  refine⟨?_,hp,fun _=>trivial⟩
  obtain⟨b,n,arr,q1,q2,q3,q4⟩:=hb
  exact⟨b,n,arr,he.trans q1,q2,MEs.congr (pF _ _) _ _ _ (fun k hk=>(hp k hk).elim) q3,q4⟩
 ·simp only [bG] at h;subst h
  refine⟨?_,hp,fun _=>trivial⟩
  rcases hb with⟨q1,q2⟩ | ⟨b,vs,rest,ty,q1,q2,q3,q4⟩
  ·exact .inl ⟨he.trans q1,q2⟩
  ·exact .inr ⟨b,vs,rest,ty,he.trans q1,q2,Plain.congr (pF _ _) hp q3,q4⟩
 ·split at h
  ·rename_i cells c' hc
   simp only [bG] at h;subst h
   refine⟨?_,trivial,fun _=>trivial⟩
   rcases hb with⟨q1,q2⟩ | ⟨b,vs,rest,ty,q1,q2,q3,q4⟩
   ·subst q2
    simp only [renL,bG] at hc;subst hc
    exact .inl ⟨he.trans q1,rfl⟩
   ·exact .inr ⟨b,vs,rest,ty,he.trans q1,q2,renL_rel _ _ _ hc q3,q4⟩
  ·cases h
 ·cases h
theorem aN2 (hT:nU P T) {fn:Func} {ms ks:List Nat} {s:LS} {res:SV} {nb mb:List BK} (h:fin T fn.results.toList cx.base ms ks s=some (res,nb,mb)) :
 aA3 (bodyPost P fn (RR cx res nb mb)) .ret cx [] s:=by
 intro ρ a W hrep
 unfold fin at h
 split at h
 ·cases h
 ·rename_i l hl
  split at h
  ·rename_i res' nb' mb' hres hnb hmb
   split at h
   ·rename_i hc
    simp only [Bool.and_eq_true,List.all_eq_true,decide_eq_true_eq] at hc
    simp only [bG,eZ] at h
    obtain⟨rfl,rfl,rfl⟩:=h
    obtain⟨vs,hrun,hrel⟩:=uC hT hrep fn.results.toList l hl #[]
    have hmap:(fn.results.mapM (aDa a.tmps)).run P W=.ok vs.toArray W:=by
     rw [Array.mapM_eq_foldlM,←Array.foldlM_toList]
     simp only [Array.empty_append] at hrun
     rw [←hrun]
     simp only [bind_pure_comp]
    have hresult:∃v,(results fn a.tmps).run P W=.ok v W/\Rel ρ (aKu l) v:=by
     rw [aI0]
     simp only [Sem.run_bind,hmap,Result.andThen_ok,Sem.run_pure]
     match l,vs,hrel with
     | [x],[y],hrel=>simp only [Rels] at hrel;exact⟨y,by simp,hrel.1⟩
     | [],[],_=>exact⟨_,rfl,by simp only [aKu,Rel];exact⟨[],by simp,by simp [Rels]⟩⟩
     | x::x'::l',y::y'::vs',hrel=>exact⟨_,rfl,by simp only [aKu,Rel];exact⟨y::y'::vs',by simp,hrel⟩⟩
     | [],_::_,hrel=>simp [Rels] at hrel
     | [_],[],hrel=>simp [Rels] at hrel
     | [_],_::_::_,hrel=>simp [Rels] at hrel
     | _::_::_,[],hrel=>simp [Rels] at hrel
     | _::_::_,[_],hrel=>simp [Rels] at hrel
    obtain⟨v,hv,hvr⟩:=hresult
    obtain⟨hol,hos⟩:=aA4 ks nb' hnb
    have hidx:∀j,(List.range cx.base++ks)[cx.base+j]? = ks[j]? := fun j=>by
     rw [List.getElem?_append_right (by simp)];simp
    have hidx0:∀i,i < cx.base->(List.range cx.base++ks)[i]? = some i:=fun i hi=>by
     rw [List.getElem?_append_left (by simpa using hi)];simp [hi]
    -- where each block of the post comes from
    have src:∀j,gC cx.base mb' nb' j=.un\/∃k,(List.range cx.base++ks)[j]? = some k/\aIz (List.range cx.base++ks) (s.fs.bk k)=some (gC cx.base mb' nb' j):=fun j=>by
     unfold gC
     split
     ·rename_i hj
      cases hm:mb'[j]? with
      | none=>exact .inl (by simp [fV,hm])
      | some y =>
       rw [show mb'.getD j .un=y by simp [fV,hm]]
       split at hmb
       ·simp only [bG] at hmb;subst hmb;simp at hm
       ·obtain⟨_,h2⟩:=aA5 _ _ _ hmb
        have:=h2 j y hm
        rw [Nat.zero_add] at this
        rcases this with h' | h'
        ·exact .inl h'
        ·exact .inr ⟨j,hidx0 j hj,h'⟩
     ·rename_i hj
      cases hm:nb'[j - cx.base]? with
      | none=>exact .inl (by simp [fV,hm])
      | some y =>
       obtain⟨k,h1,h2⟩:=hos (j - cx.base) y hm
       rw [show nb'.getD (j - cx.base) .un=y by simp [fV,hm]]
       refine .inr ⟨k,?_,h2⟩
       have:=hidx (j - cx.base)
       rw [show cx.base+(j - cx.base)=j by omega] at this
       rw [this];exact h1
    have inj:∀i j k,(List.range cx.base++ks)[i]? = some k->(List.range cx.base++ks)[j]? = some k->i=j:=fun i j k h1 h2=>by
     have split:∀i,(List.range cx.base++ks)[i]? = some k->(i < cx.base/\i=k)\/(cx.base<=i/\ks[i - cx.base]? = some k/\cx.base<=k):=fun i h=>by
      by_cases hi:i < cx.base
      ·rw [hidx0 i hi] at h;cases h;exact .inl ⟨hi,rfl⟩
      ·have:=hidx (i - cx.base)
       rw [show cx.base+(i - cx.base)=i by omega] at this
       rw [this] at h
       exact .inr ⟨by omega,h,hc.2 k (List.mem_of_getElem? h)⟩
     rcases split i h1 with⟨a1,a2⟩ | ⟨a1,a2,a3⟩<;>rcases split j h2 with⟨b1,b2⟩ | ⟨b1,b2,b3⟩
     ·omega
     ·omega
     ·omega
     ·have:=lU hc.1 _ _ k a2 b2;omega
    refine⟨hrep.defs,v,hv,jF ρ (List.range cx.base++ks),v,rfl,fun i hi=>?_,aD1 _ _ _ hres hvr,hrep.kept,fun j=>?_,fun j=>?_,fun i j b m b' m' hij hi hj e1 e2=>?_,fun b o ho=>hrep.fzo b o ho,fun b o ho=>⟨(hrep.fzn b o ho).1,fun j m hj e1=>?_,(hrep.fzn b o ho).2.2⟩⟩
    ·rw [dL (hidx0 i hi)]
     exact(hrep.old i hi).1
    ·rcases src j with h0 | ⟨k,h1,h2⟩
     ·rw [h0];trivial
     ·exact(vM h1 h2 (hrep.pl k) (hrep.bk k)).1
    ·rcases src j with h0 | ⟨k,h1,h2⟩
     ·rw [h0];trivial
     ·exact(vM h1 h2 (hrep.pl k) (hrep.bk k)).2.1
    ·have get:∀i,(gC cx.base mb' nb' i).own->∃k,(List.range cx.base++ks)[i]? = some k/\(s.fs.bk k).own:=fun i hi=>by
      rcases src i with h0 | ⟨k,h1,h2⟩
      ·rw [h0] at hi;exact hi.elim
      ·exact⟨k,h1,(vM h1 h2 (hrep.pl k) (hrep.bk k)).2.2 hi⟩
     obtain⟨k1,g1,o1⟩:=get i hi
     obtain⟨k2,g2,o2⟩:=get j hj
     rw [dL g1] at e1
     rw [dL g2] at e2
     refine hrep.apart k1 k2 b m b' m' (fun e=>hij ?_) o1 o2 e1 e2
     subst e
     exact inj i j k1 g1 g2
    ·rcases src j with h0 | ⟨k,h1,h2⟩
     ·rw [h0] at hj;exact hj.elim
     ·rw [dL h1] at e1
      exact(hrep.fzn b o ho).2.1 k m ((vM h1 h2 (hrep.pl k) (hrep.bk k)).2.2 hj) e1
   ·cases h
  ·cases h
def aD7:BK->Bool
 | .live _ _ _=>true
 | .map _=>true
 | _=>false
mutual
def yZ (b:Nat):SV->Bool
 | .p k _=>decide (k < b)
 | .s k _ _ _=>decide (k < b)
 | .m k=>decide (k < b)
 | .f _ caps=>belowL b caps
 | .a l=>belowL b l
 | .t l=>belowL b l
 | _=>true
def belowL (b:Nat):List SV->Bool
 | []=>true
 | x::l=>yZ b x&&belowL b l
end
mutual
theorem aMs {b k:Nat}:∀{x:SV},yZ b x=true->x.has k->k < b
 | .u,_,h=>by simp [SV.has] at h
 | .b _,_,h=>by simp [SV.has] at h
 | .v _,_,h=>by simp [SV.has] at h
 | .p j _,hb,h=>by simp [yZ] at hb;simp [SV.has] at h;omega
 | .s j _ _ _,hb,h=>by simp [yZ] at hb;simp [SV.has] at h;omega
 | .m j,hb,h=>by simp [yZ] at hb;simp [SV.has] at h;omega
 | .d _ _ _,_,h=>by simp [SV.has] at h
 | .f _ caps,hb,h=>by simp only [yZ] at hb;simp only [SV.has] at h;exact belowL_has hb h
 | .a l,hb,h=>by simp only [yZ] at hb;simp only [SV.has] at h;exact belowL_has hb h
 | .t l,hb,h=>by simp only [yZ] at hb;simp only [SV.has] at h;exact belowL_has hb h
theorem belowL_has {b k:Nat}:∀{l:List SV},belowL b l=true->SV.hasl k l->k < b
 | [],_,h=>by simp [SV.hasl] at h
 | x::l,hb,h=>by
  simp only [belowL,Bool.and_eq_true] at hb
  simp only [SV.hasl] at h
  rcases h with h | h
  ·exact aMs hb.1 h
  ·exact belowL_has hb.2 h
end
def aD8 (b:Nat):BK->Bool
 | .live _ false cells=>belowL b cells
 | _=>true
def rF (N:Nat)(args:List SV)(bs:List BK):LS:={ sl:=args++List.replicate (N - args.length) (.v undef),bk:=bs }
theorem aMt {N:Nat} {args:List SV} {bs:List BK} {ρ:Env} {W:World} {vs:List Value} (hlen:args.length<=N)(hlive:(bs.all aD7&&belowL bs.length args&&bs.all (aD8 bs.length))=true)
 (hargs:Rels ρ args vs) (hbs:∀i,BRep ρ (dO ρ W bs).mine W i (bs.getD i .un)) (hpl:∀i,(bs.getD i .un).pl)
 (hap:∀i j b n b' n',i≠j->(bs.getD i .un).own->(bs.getD j .un).own->ρ i=some (b,0,n)->ρ j=some (b',0,n')->b≠b')
 (hfz:∀b o,ρ.fz b=some o->W.heap[b]? = some o.obj/\∀i n,(bs.getD i .un).own->ρ i≠some (b,0,n)) :
 Rep (dO ρ W bs) (rF N args bs).sl.length [] ρ (rF N args bs).fs { tmps:=vs.toArray++Array.replicate (N - vs.toArray.size) undef,defers:=[] } W:=by
 simp only [Bool.and_eq_true,List.all_eq_true] at hlive
 obtain⟨⟨hl1,hl2⟩,hl3⟩:=hlive
 let cx:Cx:=dO ρ W bs
 have hvl:=hargs.length
 have hslen:(rF N args bs).sl.length=N:=by simp [rF];omega
 have hbk:∀k,(rF N args bs).fs.bk k=bs.getD k .un:=fun k=>rfl
 have hnun:∀k,k < bs.length->(rF N args bs).fs.bk k≠.un:=fun k hk=>by
  rw [hbk]
  have:=hl1 bs[k] (by simp)
  rw [show bs.getD k .un=bs[k] by simp [fV,hk]]
  cases hx:bs[k]<;>rw [hx] at this<;>first | (simp [aD7] at this;done) | simp
 have hrep:Rep cx (rF N args bs).sl.length [] ρ (rF N args bs).fs { tmps:=vs.toArray++Array.replicate (N - vs.toArray.size) undef,defers:=[] } W:=by
  refine { defs:=rfl,size:=by rw [hslen];simp;omega,sl:=fun t=>?_,bk:=fun k=>?_,apart:=fun i j b m b' m' hij hi hj=>?_,wf1:=fun t k hk=>?_,wf2:=fun j k hk=>?_,kept:=Kept.refl _ _,pl:=fun k=>(by rw [hbk];exact hpl k),old:=fun i hi=>⟨rfl,hnun i hi⟩,fzn:=fun b o ho=>⟨(hfz b o ho).1,fun i n hi=>(hfz b o ho).2 i n (by rw [hbk] at hi;exact hi),.inl ho⟩,fzo:=fun _ _ h=>h }
  ·simp only [rF,LS.fs,fV]
   by_cases ht:t < args.length
   ·rw [List.getElem?_append_left ht]
    obtain⟨y,hy,hr⟩:=Rels.get t hargs (List.getElem?_eq_getElem ht)
    have:({ tmps:=vs.toArray++Array.replicate (N - vs.toArray.size) undef,defers:=[] }:Act).tmps.getD t undef=y:=by
     simp only [Array.getD_eq_getD_getElem?]
     rw [Array.getElem?_append_left (by simpa using (by omega:t < vs.length))]
     simp [hy]
    rw [this]
    simpa [List.getElem?_eq_getElem ht] using hr
   ·rw [List.getElem?_append_right (by omega)]
    have:({ tmps:=vs.toArray++Array.replicate (N - vs.toArray.size) undef,defers:=[] }:Act).tmps.getD t undef=undef:=by
     simp only [Array.getD_eq_getD_getElem?]
     rw [Array.getElem?_append_right (by simp;omega)]
     cases hx:(Array.replicate (N - vs.toArray.size) undef)[t - vs.toArray.size]? with
     | none=>rfl
     | some x =>
      have:=(Array.getElem?_eq_some_iff.1 hx)
      obtain⟨h1,h2⟩:=this
      simp at h2;simp [←h2]
    rw [this]
    cases hx:(List.replicate (N - args.length) (SV.v undef))[t - args.length]? with
    | none=>simp [Rel]
    | some x =>
     have:=List.mem_of_getElem? hx
     have:=List.eq_of_mem_replicate this
     subst this;simp [Rel]
  ·rw [hbk];exact hbs k
  ·rw [hbk] at hi hj
   exact hap i j b m b' m' hij hi hj
  ·have:k < bs.length:=by
    simp only [rF,LS.fs,fV] at hk
    by_cases ht:t < args.length
    ·rw [List.getElem?_append_left ht,List.getElem?_eq_getElem ht] at hk
     exact belowL_has hl2 (eJ.2 ⟨args[t],by simp,hk⟩)
    ·rw [List.getElem?_append_right (by omega)] at hk
     cases hx:(List.replicate (N - args.length) (SV.v undef))[t - args.length]? with
     | none=>rw [hx] at hk;simp [SV.has] at hk
     | some x =>
      have:=List.eq_of_mem_replicate (List.mem_of_getElem? hx)
      subst this;rw [hx] at hk;simp [SV.has] at hk
   exact hnun k this
  ·have:k < bs.length:=by
    rw [hbk] at hk
    cases hx:bs[j]? with
    | none=>simp [fV,hx,BK.has] at hk
    | some x =>
     rw [show bs.getD j .un=x by simp [fV,hx]] at hk
     have:=hl3 x (List.mem_of_getElem? hx)
     have hp:=hpl j
     rw [show bs.getD j .un=x by simp [fV,hx]] at hp
     cases x with
     | un=>simp [BK.has] at hk
     | dead=>simp [BK.has] at hk
     | map es=>exact(hp k hk).elim
     | live o sy c =>
      cases sy with
      | true=>exact(hp _ hk).elim
      | false =>
       simp only [aD8] at this
       exact belowL_has this hk
   exact hnun k this
 exact hrep
theorem aG0 {f:Nat} {fn:Func} {c:Code} {args:List SV} {bs:List BK} {res:SV} {nb mb:List BK} (hf:P.funcs[f]? = some fn)(hb:fn.body=some c)(hent:aIm P f)
 (hlen:args.length<=fn.ntmps) (hlive:(bs.all aD7&&belowL bs.length args&&bs.all (aD8 bs.length))=true)
 (h:∀cx:Cx,cx.base=bs.length->Good P none n (bodyPost P fn (RR cx res nb mb)) cx [] [.c c] (rF fn.ntmps args bs)):Con P f args bs res nb mb:=by
 refine⟨hent,fun ρ W vs hargs hbs hpl hap hfz=>?_⟩
 let cx:Cx:=dO ρ W bs
 refine(calls_of_wp (R:=RR cx res nb mb) hf hb ?_)
 have hrep:=aMt hlen hlive hargs hbs hpl hap hfz
 have:=h cx rfl ρ _ W hrep
 simp only [iN] at this
 exact(wpIn_wide (n:=n)).1 this
end
end Go.Aw
namespace Go.Aw
open Go.RowKit
theorem ent {P : Program} {f : Nat} {fn : Func} {c : Code} (hf : P.funcs[f]? = some fn) (hname : (fn.name == "runtime.NumGoroutine") = false) (hb : fn.body = some c) : aIm P f := Go.Proofs.enters_of hf hname hb
def aG1 (T:Nat->Option TI)(rv:List ResultVar)(base:Nat)(ms ks:List Nat):Option (Out×List Ob×List Or)->Option (SV×List BK×List BK×List Ob)
 | some (.ret s,obs,[])=>match fin T rv base ms ks s with
  | some (res,nb,mb)=>some (res,nb,mb,obs)
  | none=>none
 | _=>none
def aG2 (R ts:List Nat):Nat->List SV->Option (List SV)
 | _,[]=>some []
 | t,x::l=>match (if ts.contains t then yV R x else some .u),aG2 R ts (t+1) l with
  | some y,some m=>some (y::m)
  | _,_=>none
def zP (R:List Nat):BK->Option BK
 | .live own true cells=>some (.live own true cells)
 | .live own false cells=>match renL R cells with
  | some l=>some (.live own false l)
  | none=>none
 | .dead=>some .dead
 | .map es=>some (.map es)
 | .un=>none
def aG3 (R:List Nat)(bk:Nat->BK):List Nat->Option (List BK)
 | []=>some []
 | k::l=>match zP R (bk k),aG3 R bk l with
  | some x,some m=>some (x::m)
  | _,_=>none
def shrink (base:Nat)(ts ks:List Nat)(s:LS):Option LS :=
 let R:=List.range base++ks
 match aG2 R ts 0 s.sl,aG3 R s.fs.bk R with
 | some sl,some bk=>if tX R then some ⟨sl,bk⟩ else none
 | _,_=>none
def vN (base:Nat)(ts ks:List Nat):Option (Out×List Ob×List Or)->Option (Code×List K×LS×List Ob)
 | some (.enter body k s,obs,[])=>match shrink base ts ks s with
  | some s'=>some (body,k,s',obs)
  | none=>none
 | _=>none
def aA6 (base:Nat)(ts ks:List Nat):Option (Out×List Ob×List Or)->Option (Code×Nat×List K×LS×List Ob)
 | some (.back body m k s,obs,[])=>match shrink base ts ks s with
  | some s'=>some (body,m,k,s',obs)
  | none=>none
 | _=>none
section
variable {P : Program} {T : Nat → Option TI} {cx : Cx} {D : List Deferred} {r : Option Nat} {n : Nat} {Q : Exit → Act → World → Prop}
theorem aA7 {ρ:Env} {R ts:List Nat}:∀(l m:List SV) (t:Nat),aG2 R ts t l=some m->m.length=l.length/\∀(i:Nat) (y:SV),m[i]? = some y->y=.u\/∃x,l[i]? = some x/\yV R x=some y
 | [],m,t,h=>by simp only [aG2,bG] at h;subst h;simp
 | x::l,m,t,h=>by
  simp only [aG2] at h
  split at h
  ·rename_i y m' hy hm
   simp only [bG] at h;subst h
   obtain⟨h1,h2⟩:=aA7 (ρ:=ρ) l m' (t+1) hm
   refine⟨by simp [h1],fun i z hi=>?_⟩
   cases i with
   | zero =>
    simp at hi;subst hi
    split at hy
    ·exact .inr ⟨x,by simp,hy⟩
    ·simp at hy;exact .inl hy.symm
   | succ i =>
    rcases h2 i z (by simpa using hi) with h' | ⟨x',h',h''⟩
    ·exact .inl h'
    ·exact .inr ⟨x',by simpa using h',h''⟩
  ·cases h
theorem aA8 {R:List Nat} {bk:Nat->BK}:∀(l:List Nat) (m:List BK),aG3 R bk l=some m->m.length=l.length/\∀(i:Nat) (y:BK),m[i]? = some y->∃k,l[i]? = some k/\zP R (bk k)=some y
 | [],m,h=>by simp only [aG3,bG] at h;subst h;simp
 | k::l,m,h=>by
  simp only [aG3] at h
  split at h
  ·rename_i x m' hx hm
   simp only [bG] at h;subst h
   obtain⟨h1,h2⟩:=aA8 l m' hm
   refine⟨by simp [h1],fun i y hi=>?_⟩
   cases i with
   | zero=>simp at hi;subst hi;exact⟨k,by simp,hx⟩
   | succ i =>
    obtain⟨k',e1,e2⟩:=h2 i y (by simpa using hi)
    exact⟨k',by simpa using e1,e2⟩
  ·cases h
mutual
theorem aKv {ks:List Nat} {k:Nat}:∀(x y:SV),yV ks x=some y->y.has k->k < ks.length
 | .u,y,h,hk=>by simp only [yV,bG] at h;subst h;simp [SV.has] at hk
 | .b x,y,h,hk=>by simp only [yV,bG] at h;subst h;simp [SV.has] at hk
 | .v x,y,h,hk=>by simp only [yV,bG] at h;subst h;simp [SV.has] at hk
 | .p j off,y,h,hk=>by
  simp only [yV] at h
  split at h
  ·rename_i i hi;simp only [bG] at h;subst h
   simp only [SV.has] at hk;subst hk
   exact(List.getElem?_eq_some_iff.1 (nE hi)).1
  ·cases h
 | .s j off len es,y,h,hk=>by
  simp only [yV] at h
  split at h
  ·rename_i i hi;simp only [bG] at h;subst h
   simp only [SV.has] at hk;subst hk
   exact(List.getElem?_eq_some_iff.1 (nE hi)).1
  ·cases h
 | .d cells len es,y,h,hk=>by simp only [yV,bG] at h;subst h;simp [SV.has] at hk
 | .m j,y,h,hk=>by
  simp only [yV] at h
  split at h
  ·rename_i i hi;simp only [bG] at h;subst h
   simp only [SV.has] at hk;subst hk
   exact(List.getElem?_eq_some_iff.1 (nE hi)).1
  ·cases h
 | .f g caps,y,h,hk=>by
  simp only [yV] at h
  split at h
  ·rename_i l hl;simp only [bG] at h;subst h
   exact renL_has caps l hl (by simpa [SV.has] using hk)
  ·cases h
 | .a l',y,h,hk=>by
  simp only [yV] at h
  split at h
  ·rename_i l hl;simp only [bG] at h;subst h
   exact renL_has l' l hl (by simpa [SV.has] using hk)
  ·cases h
 | .t l',y,h,hk=>by
  simp only [yV] at h
  split at h
  ·rename_i l hl;simp only [bG] at h;subst h
   exact renL_has l' l hl (by simpa [SV.has] using hk)
  ·cases h
theorem renL_has {ks:List Nat} {k:Nat}:∀(l m:List SV),renL ks l=some m->SV.hasl k m->k < ks.length
 | [],m,h,hk=>by simp only [renL,bG] at h;subst h;simp [SV.hasl] at hk
 | x::l,m,h,hk=>by
  simp only [renL] at h
  split at h
  ·rename_i y m' hy hm
   simp only [bG] at h;subst h
   simp only [SV.hasl] at hk
   rcases hk with hk | hk
   ·exact aKv x y hy hk
   ·exact renL_has l m' hm hk
  ·cases h
end
theorem qE {R:List Nat} {x y:BK} (hx:zP R x=some y)(hp:x.pl):(x=.dead/\y=.dead)\/(∃es,x=.map es/\y=.map es)\/∃own sym cells l,x=.live own sym cells/\y=.live own sym l/\(∀(ρ:Env) vs,Rels ρ cells vs->Rels (jF ρ R) l vs)/\(cells=[]->l=[])/\(∀k,SV.hasl k l->k < R.length)/\y.pl:=by
 cases x with
 | un=>simp [zP] at hx
 | dead=>simp only [zP,bG] at hx;exact .inl ⟨rfl,hx.symm⟩
 | map es=>simp only [zP,bG] at hx;exact .inr (.inl ⟨es,rfl,hx.symm⟩)
 | live own sym cells =>
  cases sym with
  | true =>
   simp only [zP,bG] at hx;subst hx
   exact .inr (.inr ⟨own,true,cells,cells,rfl,rfl,fun ρ vs h=>Plain.congr (pF _ _) hp h,id,fun k hk=>(hp k hk).elim,hp⟩)
  | false =>
   simp only [zP] at hx
   split at hx
   ·rename_i l hl
    simp only [bG] at hx;subst hx
    exact .inr (.inr ⟨own,false,cells,l,rfl,rfl,fun ρ vs h=>renL_rel cells l vs hl h,fun e=>by subst e;simp only [renL,bG] at hl;exact hl.symm,fun k hk=>renL_has cells l hl hk,trivial⟩)
   ·cases hx
theorem aN3 {ρ:Env} {R:List Nat} {M:Nat->Prop} {W:World} {k i:Nat} {x y:BK} (hk:R[i]? = some k)(hx:zP R x=some y)(hp:x.pl)(h:BRep ρ M W k x):BRep (jF ρ R) M W i y:=by
 have he:jF ρ R i=ρ k:=dL hk
 rcases qE hx hp with⟨rfl,rfl⟩ | ⟨es,rfl,rfl⟩ | ⟨own,sym,cells,l,rfl,rfl,hr,hn,_,_⟩
 ·trivial
 ·obtain⟨b,n,arr,q1,q2,q3,q4⟩:=h
  exact⟨b,n,arr,he.trans q1,q2,MEs.congr (pF _ _) _ _ _ (fun k hk=>(hp k hk).elim) q3,q4⟩
 ·cases own with
  | true =>
   rcases h with⟨h1,h2⟩ | ⟨b,vs,rest,ty,h1,h2,h3,h4⟩
   ·exact .inl ⟨he.trans h1,hn h2⟩
   ·exact .inr ⟨b,vs,rest,ty,he.trans h1,h2,hr ρ vs h3,h4⟩
  | false =>
   rcases h with⟨h1,h2⟩ | ⟨b,o,m,vs,h1,h2,h3,h4⟩
   ·exact .inl ⟨he.trans h1,hn h2⟩
   ·exact .inr ⟨b,o,m,vs,he.trans h1,h2,hr ρ vs h3,h4⟩
theorem aA9 {R:List Nat} {x y:BK} (hx:zP R x=some y)(hp:x.pl)(h:y.own):x.own:=by
 rcases qE hx hp with⟨rfl,rfl⟩ | ⟨es,rfl,rfl⟩ | ⟨own,sym,cells,l,rfl,rfl,_⟩
 ·exact h
 ·exact h
 ·cases own<;>exact h
theorem aKw {R:List Nat} {x y:BK} (hx:zP R x=some y)(hp:x.pl):y≠.un/\y.pl:=by
 rcases qE hx hp with⟨rfl,rfl⟩ | ⟨es,rfl,rfl⟩ | ⟨own,sym,cells,l,rfl,rfl,_,_,_,h⟩
 ·exact⟨by simp,trivial⟩
 ·exact⟨by simp,hp⟩
 ·exact⟨by simp,h⟩
theorem Rep.shrink {N:Nat} {ρ:Env} {a:Act} {W:World} {s s':LS} {ts ks:List Nat} (h:Rep cx N D ρ s.fs a W)(hs:Aw.shrink cx.base ts ks s=some s') :
 Rep cx N D (jF ρ (List.range cx.base++ks)) s'.fs a W/\s'.sl.length=s.sl.length:=by
 unfold Aw.shrink at hs
 simp only at hs
 split at hs
 ·rename_i sl bk hsl hbk
  split at hs
  ·rename_i hnd
   simp only [bG] at hs
   subst hs
   obtain⟨l1,l2⟩:=aA7 (ρ:=ρ) _ _ _ hsl
   obtain⟨b1,b2⟩:=aA8 _ _ hbk
   have hnun:∀j,j < (List.range cx.base++ks).length->bk.getD j .un≠.un:=fun j hj=>by
    have hlt:j < bk.length:=by rw [b1];exact hj
    obtain⟨k,_,hk⟩:=b2 j bk[j] (by simp [hlt])
    rw [show bk.getD j .un=bk[j] by simp [fV,hlt]]
    exact(aKw hk (h.pl k)).1
   have get:∀j,(∃k,(List.range cx.base++ks)[j]? = some k/\zP (List.range cx.base++ks) (s.fs.bk k)=some (bk.getD j .un))\/bk.getD j .un=.un:=fun j=>by
    cases hj:bk[j]? with
    | none=>exact .inr (by simp [fV,hj])
    | some y =>
     obtain⟨k,h1,h2⟩:=b2 j y hj
     exact .inl ⟨k,h1,by rw [show bk.getD j .un=y by simp [fV,hj]];exact h2⟩
   have hplg:∀j,(bk.getD j .un).pl:=fun j=>by
    rcases get j with⟨k,_,h2⟩ | h0
    ·exact(aKw h2 (h.pl k)).2
    ·rw [h0];trivial
   refine⟨{ defs:=h.defs,size:=h.size,sl:=fun t=>?_,bk:=fun j=>?_,apart:=fun i j b m b' m' hij hi hj e1 e2=>?_,wf1:=fun t k hk=>?_,wf2:=fun j k hk=>?_,kept:=h.kept,pl:=hplg,old:=fun i hi=>⟨?_,?_⟩,fzn:=fun b o ho=>⟨(h.fzn b o ho).1,fun j m hj e1=>?_,(h.fzn b o ho).2.2⟩,fzo:=h.fzo },l1⟩
   ·simp only [LS.fs]
    cases ht:sl[t]? with
    | none=>simp [fV,ht,Rel]
    | some y =>
     rw [show sl.getD t .u=y by simp [fV,ht]]
     rcases l2 t y ht with rfl | ⟨x,hx,hr⟩
     ·simp [Rel]
     ·have:=h.sl t
      simp only [LS.fs,fV,hx,Option.getD_some] at this
      exact aD1 x y _ hr this
   ·simp only [LS.fs]
    rcases get j with⟨k,h1,h2⟩ | h0
    ·exact aN3 h1 h2 (h.pl k) (h.bk k)
    ·rw [h0];trivial
   ·simp only [LS.fs] at hi hj
    rcases get i with⟨k1,g1,g2⟩ | h0
    ·rcases get j with⟨k2,q1,q2⟩ | h0
     ·rw [dL g1] at e1
      rw [dL q1] at e2
      refine h.apart k1 k2 b m b' m' (fun e=>hij ?_) (aA9 g2 (h.pl k1) hi) (aA9 q2 (h.pl k2) hj) e1 e2
      subst e
      exact lU hnd i j k1 g1 q1
     ·rw [h0] at hj;exact hj.elim
    ·rw [h0] at hi;exact hi.elim
   ·simp only [LS.fs] at hk
    cases ht:sl[t]? with
    | none=>rw [fV,ht] at hk;simp [SV.has] at hk
    | some y =>
     rw [show sl.getD t .u=y by simp [fV,ht]] at hk
     rcases l2 t y ht with rfl | ⟨x,hx,hr⟩
     ·simp [SV.has] at hk
     ·exact hnun k (aKv x y hr hk)
   ·simp only [LS.fs] at hk
    rcases get j with⟨k1,g1,g2⟩ | h0
    ·refine hnun k ?_
     rcases qE g2 (h.pl k1) with⟨e1,e2⟩ | ⟨es,e1,e2⟩ | ⟨own,sym,cells,l,e1,e2,_,_,hl,_⟩
     ·rw [e2] at hk;exact hk.elim
     ·have hp:=h.pl k1
      rw [e1] at hp
      rw [e2] at hk;exact(hp k hk).elim
     ·rw [e2] at hk;exact hl k hk
    ·rw [h0] at hk;exact hk.elim
   ·have:(List.range cx.base++ks)[i]? = some i:=by
     rw [List.getElem?_append_left (by simpa using hi)];simp [hi]
    rw [dL this]
    exact(h.old i hi).1
   ·simp only [LS.fs]
    exact hnun i (by simp;omega)
   ·simp only [LS.fs] at hj
    rcases get j with⟨k,g1,g2⟩ | h0
    ·rw [dL g1] at e1
     exact(h.fzn b o ho).2.1 k m (aA9 g2 (h.pl k) hj) e1
    ·rw [h0] at hj;exact hj.elim
  ·cases hs
 ·cases hs
theorem rS {k:List K} {s s':LS} {ts ks:List Nat} {base:Nat} (hb:cx.base=base)(hs:Aw.shrink base ts ks s=some s')(h:Good P r n Q cx D k s'):Good P r n Q cx D k s:=by
 subst hb
 intro ρ a W hrep
 obtain⟨h1,h2⟩:=hrep.shrink hs
 exact h _ a W (by rw [h2];exact h1)
def uD:List Nat->List Nat->Code->List K->Option (Code×List K)
 | p,ms,.seq a b,k=>match p with
  | 0::p=>uD p ms a (.c b::k)
  | _::p=>uD p ms b k
  | []=>none
 | p,ms,.block id c,k=>uD p ms c (.b id::k)
 | p,ms,.cond _ a b,k=>match p with
  | 0::p=>uD p ms a k
  | _::p=>uD p ms b k
  | []=>none
 | p,ms,.loop body,k=>match p,ms with
  | [],_=>some (body,k)
  | _::p,m::ms=>uD p ms body (.l body m::k)
  | _::_,[]=>none
 | _,_,_,_=>none
end
end Go.Aw
namespace Go.Aw
open Go.RowKit
section
variable {P : Program} {T : Nat → Option TI} {cx : Cx} {N : Nat} {D : List Deferred} {ρ : Env} {s : FS} {a : Act} {W : World}
theorem Rep.none (h:Rep cx N D ρ s a W) {k:Nat} (hk:s.bk k=.un):Rep cx N D (ρ.set k Option.none) ⟨s.sl,fun j=>if j=k then .live true true [] else s.bk j⟩ a W:=by
 have hle:=ρ.le_set k Option.none
 have hne:∀j,s.bk j≠.un->(ρ.set k Option.none) j=ρ j:=fun j hj=>if_neg (fun e=>hj (by rw [e];exact hk))
 have hun:∀j,s.bk j≠.un->(if j=k then BK.live true true [] else s.bk j)≠.un:=fun j hj=>by
  split
  ·simp
  ·exact hj
 have hpl:∀j,(if j=k then BK.live true true [] else s.bk j).pl:=fun j=>by
  split
  ·intro i hi;simp [SV.hasl] at hi
  ·exact h.pl j
 refine { pl:=hpl,defs:=h.defs,size:=h.size,sl:=fun t=>Rel.congr hle _ _ (fun j hj=>hne j (h.wf1 t j hj)) (h.sl t),bk:=fun j=>?_,apart:=fun i j b n b' n' hij hi hj e1 e2=>?_,wf1:=fun t j hj=>hun j (h.wf1 t j hj),wf2:=fun i j hj=>?_,kept:=h.kept,old:=fun i hi=>⟨(hne i (h.old i hi).2).trans (h.old i hi).1,hun i (h.old i hi).2⟩,fzn:=fun c o ho=>⟨(h.fzn c o ho).1,fun j m hj e1=>?_,(h.fzn c o ho).2.2⟩,fzo:=h.fzo }
 ·by_cases hj:j=k
  ·subst hj;simp only [if_true];exact .inl ⟨by simp,rfl⟩
  ·simp only [hj,if_false]
   exact BRep.congr hle (by simp [hj]) (fun i hi=>hne i (h.wf2 j i hi)) (h.bk j)
 ·simp only [Env.set_loc] at e1 e2
  by_cases hik:i=k
  ·simp [hik] at e1
  ·by_cases hjk:j=k
   ·simp [hjk] at e2
   ·simp only [hik,hjk,if_false] at hi hj e1 e2
    exact h.apart i j b n b' n' hij hi hj e1 e2
 ·by_cases hik:i=k
  ·simp [hik,BK.has,SV.hasl] at hj
  ·simp only [hik,if_false] at hj
   exact hun j (h.wf2 i j hj)
 ·simp only [Env.set_loc] at e1
  by_cases hjk:j=k
  ·simp [hjk] at e1
  ·simp only [hjk,if_false] at hj e1
   exact(h.fzn c o ho).2.1 j m hj e1
theorem Rep.rename (h:Rep cx N D ρ s a W) {k fr:Nat} (hfr:s.bk fr=.un)(hk:s.bk k≠.un):Rep cx N D (ρ.set fr (ρ k)) ⟨s.sl,fun j=>if j=fr then s.bk k else if j=k then .dead else s.bk j⟩ a W:=by
 have hkf:k≠fr:=fun e=>hk (by rw [e];exact hfr)
 have hle:=ρ.le_set fr (ρ k)
 have hne:∀j,s.bk j≠.un->(ρ.set fr (ρ k)) j=ρ j:=fun j hj=>if_neg (fun e=>hj (by rw [e];exact hfr))
 have hun:∀j,s.bk j≠.un->(if j=fr then s.bk k else if j=k then BK.dead else s.bk j)≠.un:=fun j hj=>by
  split
  ·exact hk
  ·split
   ·simp
   ·exact hj
 have hat:(ρ.set fr (ρ k)) fr=ρ k:=if_pos rfl
 have back:∀i,(if i=fr then s.bk k else if i=k then BK.dead else s.bk i).own->(i=fr/\(s.bk k).own)\/(i≠fr/\i≠k/\(s.bk i).own):=fun i hi=>by
  by_cases h1:i=fr
  ·rw [if_pos h1] at hi;exact .inl ⟨h1,hi⟩
  ·rw [if_neg h1] at hi
   by_cases h2:i=k
   ·rw [if_pos h2] at hi;exact hi.elim
   ·rw [if_neg h2] at hi;exact .inr ⟨h1,h2,hi⟩
 refine { defs:=h.defs,size:=h.size,sl:=fun t=>Rel.congr hle _ _ (fun j hj=>hne j (h.wf1 t j hj)) (h.sl t),bk:=fun j=>?_,apart:=fun i j b n b' n' hij hi hj e1 e2=>?_,wf1:=fun t j hj=>hun j (h.wf1 t j hj),wf2:=fun i j hj=>?_,kept:=h.kept,pl:=fun j=>?_,old:=fun i hi=>⟨(hne i (h.old i hi).2).trans (h.old i hi).1,hun i (h.old i hi).2⟩,fzn:=fun b o ho=>⟨(h.fzn b o ho).1,fun i n hi e1=>?_,(h.fzn b o ho).2.2⟩,fzo:=h.fzo }
 ·by_cases h1:j=fr
  ·subst h1
   simp only [if_true]
   have hc:∀{x:BK},s.bk k=x->BRep ρ cx.mine W k x->BRep (ρ.set j (ρ k)) cx.mine W j x:=fun {x} hx hb=>by
    have hh:∀i,x.has i->(ρ.set j (ρ k)) i=ρ i:=fun i hi=>hne i (h.wf2 k i (by rw [hx];exact hi))
    cases x with
    | un=>trivial
    | dead=>trivial
    | live own sym cells =>
     cases own with
     | true =>
      rcases hb with hb | ⟨b,vs,rest,ty,h1,h2,h3,h4⟩
      ·exact .inl ⟨hat.trans hb.1,hb.2⟩
      ·exact .inr ⟨b,vs,rest,ty,hat.trans h1,h2,Rels.congr hle _ _ hh h3,h4⟩
     | false =>
      rcases hb with hb | ⟨b,o,n,vs,h1,h2,h3,h4⟩
      ·exact .inl ⟨hat.trans hb.1,hb.2⟩
      ·exact .inr ⟨b,o,n,vs,hat.trans h1,h2,Rels.congr hle _ _ hh h3,h4⟩
    | map es =>
     obtain⟨b,n,arr,h1,h2,h3,h4⟩:=hb
     exact⟨b,n,arr,hat.trans h1,h2,MEs.congr hle _ _ _ hh h3,h4⟩
   exact hc rfl (h.bk k)
  ·simp only [h1,if_false]
   by_cases h2:j=k
   ·simp only [h2,if_true];trivial
   ·simp only [h2,if_false]
    exact BRep.congr hle (if_neg h1) (fun i hi=>hne i (h.wf2 j i hi)) (h.bk j)
 ·rcases back i hi with⟨e3,o3⟩ | ⟨e3,e3',o3⟩
  ·rcases back j hj with⟨e4,o4⟩ | ⟨e4,e4',o4⟩
   ·exact absurd (e3.trans e4.symm) hij
   ·rw [e3,hat] at e1
    rw [show(ρ.set fr (ρ k)) j=ρ j from if_neg e4] at e2
    exact h.apart k j b n b' n' (fun e=>e4' e.symm) o3 o4 e1 e2
  ·rcases back j hj with⟨e4,o4⟩ | ⟨e4,e4',o4⟩
   ·rw [e4,hat] at e2
    rw [show(ρ.set fr (ρ k)) i=ρ i from if_neg e3] at e1
    exact h.apart i k b n b' n' e3' o3 o4 e1 e2
   ·rw [show(ρ.set fr (ρ k)) i=ρ i from if_neg e3] at e1
    rw [show(ρ.set fr (ρ k)) j=ρ j from if_neg e4] at e2
    exact h.apart i j b n b' n' hij o3 o4 e1 e2
 ·refine hun j ?_
  by_cases h1:i=fr
  ·simp only [h1,if_true] at hj;exact h.wf2 k j hj
  ·simp only [h1,if_false] at hj
   by_cases h2:i=k
   ·simp only [h2,if_true] at hj;exact hj.elim
   ·simp only [h2,if_false] at hj;exact h.wf2 i j hj
 ·show(if j=fr then s.bk k else if j=k then BK.dead else s.bk j).pl
  split
  ·exact h.pl k
  ·split
   ·trivial
   ·exact h.pl j
 ·rcases back i hi with⟨e3,o3⟩ | ⟨e3,e3',o3⟩
  ·rw [e3,hat] at e1
   exact(h.fzn b o ho).2.1 k n o3 e1
  ·rw [show(ρ.set fr (ρ k)) i=ρ i from if_neg e3] at e1
   exact(h.fzn b o ho).2.1 i n o3 e1
theorem Rels.set {l:List SV} {m:List Value} {i:Nat} {x x':SV} (h:Rels ρ l m)(hx:l[i]? = some x)(hs:∀y,Rel ρ x y->Rel ρ x' y):Rels ρ (l.set i x') m:=by
 induction l generalizing m i with
 | nil=>simp at hx
 | cons z l ih =>
  cases m with
  | nil=>simp [Rels] at h
  | cons y m =>
   simp only [Rels] at h
   cases i with
   | zero=>simp at hx;subst hx;simp only [List.set_cons_zero,Rels];exact⟨hs y h.1,h.2⟩
   | succ i=>simp at hx;simp only [List.set_cons_succ,Rels];exact⟨h.1,ih h.2 hx⟩
theorem aG4 {k i:Nat} {x:SV} {l:List SV} (h:SV.hasl k (l.set i x)):SV.hasl k l\/x.has k:=by
 rw [eJ] at h
 obtain⟨y,hy,hk⟩:=h
 rcases List.mem_or_eq_of_mem_set hy with hy | rfl
 ·exact .inl (eJ.2 ⟨y,hy,hk⟩)
 ·exact .inr hk
inductive Adj where
 | slot (t es:Nat)
 | cell (k i es:Nat)
 | sym (k:Nat) (b:Bool)
 | kill (k:Nat)
 | mv (k i:Nat)
def aI2:Adj->LS->Option LS
 | .slot t es,s=>match s.sl[t]? with
  | some (.v (.slice none 0 0))=>some ⟨s.sl.set t (.s s.bk.length 0 0 es),s.bk++[.live true true []]⟩
  | _=>none
 | .cell k i es,s=>match s.bk[k]? with
  | some (.live own false cells)=>match cells[i]? with
   | some (.v (.slice none 0 0))=>some ⟨s.sl,s.bk.set k (.live own false (cells.set i (.s s.bk.length 0 0 es)))++[.live true true []]⟩
   | _=>none
  | _=>none
 | .sym k b,s=>match s.bk[k]? with
  | some (.live own _ cells)=>if(!b || cells.all SV.plain)=true then some ⟨s.sl,s.bk.set k (.live own b cells)⟩ else none
  | _=>none
 | .kill k,s=>match s.bk[k]? with
  | some (.live own _ cells)=>some ⟨s.sl,s.bk.set k .dead⟩
  | _=>none
 | .mv k i,s=>match s.bk[k]? with
  | some (.live own false cells)=>match cells[i]? with
   | some (.s j off len es)=>match s.bk[j]? with
    | some (.live true sym cj)=>if j=k then none else some ⟨s.sl,((s.bk.set j .dead).set k (.live own false (cells.set i (.s s.bk.length off len es))))++[.live true sym cj]⟩
    | _=>none
   | _=>none
  | _=>none
def rT:List Adj->LS->Option LS
 | [],s=>some s
 | x::l,s=>match aI2 x s with
  | some s=>rT l s
  | none=>none
theorem dW {l:List BK} {x:BK} {j:Nat}:(l++[x]).getD j .un=if j=l.length then x else l.getD j .un:=by
 simp only [fV]
 by_cases hj:j=l.length
 ·subst hj;simp
 ·rw [if_neg hj]
  by_cases hlt:j < l.length
  ·rw [List.getElem?_append_left hlt]
  ·rw [List.getElem?_eq_none (by simp;omega),List.getElem?_eq_none (by omega)]
theorem eX {l:List BK} {k j:Nat} {x:BK} (hk:k < l.length):(l.set k x).getD j .un=if j=k then x else l.getD j .un:=by
 simp only [fV,List.getElem?_set]
 by_cases hj:j=k
 ·subst hj;simp [hk]
 ·rw [if_neg hj,if_neg (fun e=>hj e.symm)]
theorem aQ2 {s s':LS} {x:Adj} (h:aI2 x s=some s')(hr:Rep cx N D ρ s.fs a W):∃ρ',Rep cx N D ρ' s'.fs a W/\s'.sl.length=s.sl.length:=by
 have hfree:s.fs.bk s.bk.length=.un:=rR (Nat.le_refl _)
 cases x with
 | slot t es =>
  simp only [aI2] at h
  split at h
  ·rename_i ht
   simp only [bG] at h;subst h
   have h1:=hr.none hfree
   refine⟨_,h1.sub _ (fun u y hy=>?_) (fun k hk=>?_) (fun k hk=>?_) (fun k hk=>?_) (fun u k hk=>?_) (fun j k hk=>?_) (fun k=>?_),by simp⟩
   ·simp only [LS.fs,fV,List.getElem?_set] at hy ⊢
    by_cases hu:t=u
    ·subst hu
     have hlt:=(List.getElem?_eq_some_iff.1 ht).1
     rw [ht] at hy
     simp only [Option.getD_some,Rel] at hy
     subst hy
     simp [hlt,Rel]
    ·simpa [hu] using hy
   ·simp only [LS.fs,dW] at hk ⊢
    exact hk
   ·simp only [LS.fs,dW] at hk ⊢
    exact hk
   ·simp only [LS.fs,dW] at hk ⊢
    exact hk
   ·simp only [LS.fs,dW]
    simp only [LS.fs,fV,List.getElem?_set] at hk
    by_cases hu:t=u
    ·subst hu
     have hlt:=(List.getElem?_eq_some_iff.1 ht).1
     simp [hlt,SV.has] at hk
     rw [if_pos hk.symm];simp
    ·simp only [hu,if_false] at hk
     refine h1.wf1 u k ?_
     simp only [LS.fs,fV]
     exact hk
   ·simp only [LS.fs,dW] at hk ⊢
    have:=h1.wf2 j k
    simp only [LS.fs] at this
    exact this hk
   ·simp only [LS.fs,dW]
    exact h1.pl k
  ·cases h
 | cell k0 i es =>
  simp only [aI2] at h
  split at h
  ·rename_i own cells hb
   split at h
   ·rename_i hi
    simp only [bG] at h;subst h
    have h1:=hr.none hfree
    have hlt:=(List.getElem?_eq_some_iff.1 hb).1
    have hk0:s.bk.getD k0 .un=.live own false cells:=by simp [fV,hb]
    have hg:∀j,(s.bk.set k0 (.live own false (cells.set i (.s s.bk.length 0 0 es)))++[BK.live true true []]).getD j .un=if j=s.bk.length then .live true true [] else if j=k0 then .live own false (cells.set i (.s s.bk.length 0 0 es)) else s.bk.getD j .un:=fun j=>by
     rw [dW,List.length_set,eX hlt]
    have hun:∀k,(if k=s.bk.length then BK.live true true [] else s.bk.getD k .un)≠.un->(if k=s.bk.length then BK.live true true [] else if k=k0 then .live own false (cells.set i (.s s.bk.length 0 0 es)) else s.bk.getD k .un)≠.un:=fun k hk=>by
     by_cases h':k=s.bk.length
     ·rw [if_pos h'];simp
     ·rw [if_neg h'] at hk ⊢
      by_cases h'':k=k0
      ·rw [if_pos h''];simp
      ·rw [if_neg h''];exact hk
    have hsub:∀y,Rel (ρ.set s.bk.length Option.none) (.v (.slice Option.none 0 0)) y->Rel (ρ.set s.bk.length Option.none) (.s s.bk.length 0 0 es) y:=fun y hy=>by
     simp only [Rel] at hy ⊢;subst hy;simp
    refine⟨_,h1.sub _ (fun u y hy=>hy) (fun k hk=>?_) (fun k hk=>?_) (fun k hk=>?_) (fun u k hk=>?_) (fun j k hk=>?_) (fun k=>?_),rfl⟩
    ·simp only [LS.fs] at hk ⊢
     rw [hg]
     by_cases h':k=s.bk.length
     ·simp only [h',if_true] at hk ⊢;exact hk
     ·simp only [h',if_false] at hk ⊢
      by_cases h'':k=k0
      ·subst h''
       rw [hk0] at hk
       simp only [if_true]
       cases own with
       | true =>
        rcases hk with⟨q1,q2⟩ | ⟨b,vs,rest,ty,q1,q2,q3,q4⟩
        ·rw [q2] at hi;simp at hi
        ·exact .inr ⟨b,vs,rest,ty,q1,q2,q3.set hi hsub,q4⟩
       | false =>
        rcases hk with⟨q1,q2⟩ | ⟨b,o,n,vs,q1,q2,q3,q4⟩
        ·rw [q2] at hi;simp at hi
        ·exact .inr ⟨b,o,n,vs,q1,q2,q3.set hi hsub,q4⟩
      ·simp only [h'',if_false];exact hk
    ·simp only [LS.fs] at hk ⊢
     rw [hg] at hk
     by_cases h':k=s.bk.length
     ·simp only [h',if_true];trivial
     ·simp only [h',if_false] at hk ⊢
      by_cases h'':k=k0
      ·subst h'';simp only [if_true] at hk;rw [hk0];cases own<;>exact hk
      ·simp only [h'',if_false] at hk;exact hk
    ·simp only [LS.fs] at hk ⊢
     rw [hg];exact hun k hk
    ·simp only [LS.fs] at hk ⊢
     rw [hg];exact hun k (h1.wf1 u k hk)
    ·simp only [LS.fs] at hk ⊢
     rw [hg] at hk ⊢
     refine hun k ?_
     by_cases h':j=s.bk.length
     ·simp [h',BK.has,SV.hasl] at hk
     ·simp only [h',if_false] at hk
      by_cases h'':j=k0
      ·subst h''
       simp only [if_true,BK.has] at hk
       rcases aG4 hk with hk | hk
       ·refine h1.wf2 j k ?_
        simp only [LS.fs,h',if_false,hk0,BK.has];exact hk
       ·simp only [SV.has] at hk;rw [if_pos hk.symm];simp
      ·simp only [h'',if_false] at hk
       refine h1.wf2 j k ?_
       simp only [LS.fs,h',if_false];exact hk
    ·simp only [LS.fs]
     rw [hg]
     have:=h1.pl k
     simp only [LS.fs] at this
     by_cases h':k=s.bk.length
     ·simp only [h',if_true] at this ⊢;exact this
     ·simp only [h',if_false] at this ⊢
      by_cases h'':k=k0
      ·simp only [h'',if_true];trivial
      ·simp only [h'',if_false];exact this
   ·cases h
  ·cases h
 | sym k0 b0 =>
  simp only [aI2] at h
  split at h
  ·rename_i own sym cells hb
   split at h
   case isFalse=>cases h
   rename_i hpb
   simp only [bG] at h;subst h
   have hlt:=(List.getElem?_eq_some_iff.1 hb).1
   have hk0:s.bk.getD k0 .un=.live own sym cells:=by simp [fV,hb]
   have hun:∀k,s.bk.getD k .un≠.un->(if k=k0 then BK.live own b0 cells else s.bk.getD k .un)≠.un:=fun k hk=>by
    split
    ·simp
    ·exact hk
   refine⟨ρ,hr.sub _ (fun u y hy=>hy) (fun k hk=>?_) (fun k hk=>?_) (fun k hk=>?_) (fun u k hk=>?_) (fun j k hk=>?_) (fun k=>?_),rfl⟩
   ·simp only [LS.fs] at hk ⊢
    rw [eX hlt]
    by_cases h'':k=k0
    ·subst h'';rw [hk0] at hk;simp only [if_true];cases own<;>exact hk
    ·simp only [h'',if_false];exact hk
   ·simp only [LS.fs] at hk ⊢
    rw [eX hlt] at hk
    by_cases h'':k=k0
    ·subst h'';simp only [if_true] at hk;rw [hk0];cases own<;>exact hk
    ·simp only [h'',if_false] at hk;exact hk
   ·simp only [LS.fs] at hk ⊢
    rw [eX hlt];exact hun k hk
   ·simp only [LS.fs] at hk ⊢
    rw [eX hlt];exact hun k (hr.wf1 u k hk)
   ·simp only [LS.fs] at hk ⊢
    rw [eX hlt] at hk ⊢
    refine hun k (hr.wf2 j k ?_)
    simp only [LS.fs]
    by_cases h'':j=k0
    ·subst h'';simp only [if_true] at hk;rw [hk0];exact hk
    ·simp only [h'',if_false] at hk;exact hk
   ·simp only [LS.fs]
    rw [eX hlt]
    split
    ·cases b0 with
     | false=>trivial
     | true=>exact kX (by simpa using hpb)
    ·exact hr.pl k
  ·cases h
 | kill k0 =>
  simp only [aI2] at h
  split at h
  ·rename_i own sym cells hb
   simp only [bG] at h;subst h
   have hlt:=(List.getElem?_eq_some_iff.1 hb).1
   have hk0:s.fs.bk k0≠.un:=by simp [LS.fs,fV,hb]
   have h1:=hr.kill k0 hk0
   refine⟨ρ,?_,rfl⟩
   have e:s.fs.app none { val:=.u,ups:=[(k0,.dead)] }=(⟨s.sl,s.bk.set k0 .dead⟩:LS).fs:=by
    simp only [FS.app,LS.fs,cY]
    congr 1
    funext k
    rw [eX hlt]
   rw [←e];exact h1
  ·cases h
 | mv k0 i =>
  simp only [aI2] at h
  split at h
  ·rename_i own cells hb
   split at h
   ·rename_i j off len es hi
    split at h
    ·rename_i sym cj hbj
     split at h
     ·cases h
     ·rename_i hjk
      simp only [bG] at h;subst h
      have hlt:=(List.getElem?_eq_some_iff.1 hb).1
      have hltj:=(List.getElem?_eq_some_iff.1 hbj).1
      have hk0:s.bk.getD k0 .un=.live own false cells:=by simp [fV,hb]
      have hkj:s.bk.getD j .un=.live true sym cj:=by simp [fV,hbj]
      have h1:=hr.rename hfree (k:=j) (by show s.bk.getD j .un≠.un;rw [hkj];simp)
      have hat:(ρ.set s.bk.length (ρ j)) s.bk.length=ρ j:=if_pos rfl
      have hatj:(ρ.set s.bk.length (ρ j)) j=ρ j:=if_neg (by omega)
      have hg:∀q,(((s.bk.set j .dead).set k0 (.live own false (cells.set i (.s s.bk.length off len es))))++[BK.live true sym cj]).getD q .un=if q=s.bk.length then .live true sym cj else if q=k0 then .live own false (cells.set i (.s s.bk.length off len es)) else if q=j then .dead else s.bk.getD q .un:=fun q=>by
       rw [dW,List.length_set,List.length_set,eX (by rw [List.length_set];exact hlt),eX hltj]
      have hb1:∀q,(if q=s.bk.length then s.fs.bk j else if q=j then BK.dead else s.fs.bk q)=if q=s.bk.length then .live true sym cj else if q=j then .dead else s.bk.getD q .un:=fun q=>by
       simp only [LS.fs,hkj]
      have hk0n:k0≠s.bk.length:=by omega
      have hun:∀q,(if q=s.bk.length then BK.live true sym cj else if q=j then .dead else s.bk.getD q .un)≠.un->(if q=s.bk.length then BK.live true sym cj else if q=k0 then .live own false (cells.set i (.s s.bk.length off len es)) else if q=j then .dead else s.bk.getD q .un)≠.un:=fun q hq=>by
       by_cases h':q=s.bk.length
       ·rw [if_pos h'];simp
       ·rw [if_neg h'] at hq ⊢
        by_cases h'':q=k0
        ·rw [if_pos h''];simp
        ·rw [if_neg h''];exact hq
      have hsub:∀y,Rel (ρ.set s.bk.length (ρ j)) (.s j off len es) y->Rel (ρ.set s.bk.length (ρ j)) (.s s.bk.length off len es) y:=fun y hy=>by
       simp only [Rel] at hy ⊢
       rw [hatj] at hy
       rw [hat];exact hy
      refine⟨_,h1.sub _ (fun u y hy=>hy) (fun q hq=>?_) (fun q hq=>?_) (fun q hq=>?_) (fun u q hq=>?_) (fun p q hq=>?_) (fun q=>?_),rfl⟩
      ·simp only [LS.fs] at hq ⊢
       simp only [hkj] at hq
       rw [hg]
       by_cases h':q=s.bk.length
       ·simp only [h',if_true] at hq ⊢;exact hq
       ·simp only [h',if_false] at hq ⊢
        by_cases h'':q=k0
        ·subst h''
         rw [if_neg (fun e=>hjk e.symm),hk0] at hq
         simp only [if_true]
         cases own with
         | true =>
          rcases hq with⟨q1,q2⟩ | ⟨b,vs,rest,ty,q1,q2,q3,q4⟩
          ·rw [q2] at hi;simp at hi
          ·exact .inr ⟨b,vs,rest,ty,q1,q2,q3.set hi hsub,q4⟩
         | false =>
          rcases hq with⟨q1,q2⟩ | ⟨b,o,n,vs,q1,q2,q3,q4⟩
          ·rw [q2] at hi;simp at hi
          ·exact .inr ⟨b,o,n,vs,q1,q2,q3.set hi hsub,q4⟩
        ·simp only [h'',if_false];exact hq
      ·simp only [LS.fs] at hq ⊢
       simp only [hkj]
       rw [hg] at hq
       by_cases h':q=s.bk.length
       ·simp only [h',if_true] at hq ⊢;exact hq
       ·simp only [h',if_false] at hq ⊢
        by_cases h'':q=k0
        ·subst h''
         rw [if_neg (fun e=>hjk e.symm),hk0]
         simp only [if_true] at hq;cases own<;>exact hq
        ·simp only [h'',if_false] at hq;exact hq
      ·simp only [LS.fs] at hq ⊢
       simp only [hkj] at hq
       rw [hg];exact hun q hq
      ·have:=h1.wf1 u q hq
       simp only [LS.fs] at this ⊢
       simp only [hkj] at this
       rw [hg];exact hun q this
      ·simp only [LS.fs] at hq ⊢
       rw [hg] at hq ⊢
       have w2:=h1.wf2 p q
       simp only [LS.fs,hkj] at w2
       refine hun q ?_
       by_cases h':p=s.bk.length
       ·simp only [h',if_true] at hq w2;exact w2 hq
       ·simp only [h',if_false] at hq w2
        by_cases h'':p=k0
        ·subst h''
         rw [if_neg (fun e=>hjk e.symm),hk0] at w2
         simp only [if_true,BK.has] at hq
         rcases aG4 hq with hq | hq
         ·exact w2 hq
         ·simp only [SV.has] at hq;rw [if_pos hq.symm];simp
        ·simp only [h'',if_false] at hq;exact w2 hq
      ·simp only [LS.fs]
       rw [hg]
       have:=h1.pl q
       simp only [LS.fs,hkj] at this
       by_cases h':q=s.bk.length
       ·simp only [h',if_true] at this ⊢;exact this
       ·simp only [h',if_false] at this ⊢
        by_cases h'':q=k0
        ·simp only [h'',if_true];trivial
        ·simp only [h'',if_false];exact this
    ·cases h
   ·cases h
  ·cases h
theorem zU:∀(l:List Adj) {s s':LS} {ρ:Env},rT l s=some s'->Rep cx N D ρ s.fs a W->∃ρ',Rep cx N D ρ' s'.fs a W/\s'.sl.length=s.sl.length
 | [],s,s',ρ,h,hr=>by simp only [rT,bG] at h;subst h;exact⟨ρ,hr,rfl⟩
 | x::l,s,s',ρ,h,hr=>by
  simp only [rT] at h
  split at h
  ·rename_i s1 h1
   obtain⟨ρ1,r1,e1⟩:=aQ2 h1 hr
   obtain⟨ρ2,r2,e2⟩:=zU l h r1
   exact⟨ρ2,r2,e2.trans e1⟩
  ·cases h
def pH (l:List Adj):Option (Out×List Ob×List Or)->Option (Out×List Ob×List Or)
 | some (.ret s,obs,orc)=>match rT l s with
  | some s=>some (.ret s,obs,orc)
  | none=>none
 | some (.norm s,obs,orc)=>match rT l s with
  | some s=>some (.norm s,obs,orc)
  | none=>none
 | some (.enter body k s,obs,orc)=>match rT l s with
  | some s=>some (.enter body k s,obs,orc)
  | none=>none
 | some (.back body m k s,obs,orc)=>match rT l s with
  | some s=>some (.back body m k s,obs,orc)
  | none=>none
 | some (.at x k s,obs,orc)=>match rT l s with
  | some s=>some (.at x k s,obs,orc)
  | none=>none
 | none=>none
end
section
variable {P : Program} {T : Nat → Option TI} {cx : Cx} {D : List Deferred} {r : Option Nat} {n : Nat} {Q : Exit → Act → World → Prop}
theorem aI3 {e:Exit} {l:List Adj} {s s':LS} (h:rT l s=some s')(hg:aA3 Q e cx D s'):aA3 Q e cx D s:=fun ρ a W hr=>by
 obtain⟨ρ',r',e'⟩:=zU l h hr
 exact hg ρ' a W (by rw [e'];exact r')
theorem aG5 {k:List K} {l:List Adj} {s s':LS} (h:rT l s=some s')(hg:Good P r n Q cx D k s'):Good P r n Q cx D k s:=fun ρ a W hr=>by
 obtain⟨ρ',r',e'⟩:=zU l h hr
 exact hg ρ' a W (by rw [e'];exact r')
theorem vO {l:List Adj} {x:Option (Out×List Ob×List Or)} {o:Out} {obs:List Ob} {orc:List Or} (h:pH l x=some (o,obs,orc)):∃o',x=some (o',obs,orc)/\(aD6 P r n Q cx D o->aD6 P r n Q cx D o'):=by
 unfold pH at h
 split at h
 all_goals first | (cases h;done) | skip
 all_goals
  split at h
  ·rename_i s2 hs
   simp only [bG,eZ] at h
   obtain⟨rfl,rfl,rfl⟩:=h
   refine⟨_,rfl,fun hg=>?_⟩
   first
    | exact aI3 hs hg
    | exact aG5 hs hg
    | exact⟨hg.choose,aG5 hs hg.choose_spec⟩
  ·cases h
theorem aN4 (hT:nU P T)(hm:P.follows .mixedOrders=true) {fn:Func} {f:Nat} {k:List K} {s:LS} {orc:List Or} (ads:List Adj)(ms ks:List Nat) {base:Nat} (hb:cx.base=base) {res:SV} {nb mb:List BK} {obs:List Ob}
 (h:aG1 T fn.results.toList base ms ks (pH ads (run T f k s orc))=some (res,nb,mb,obs)) (hob:Obs P obs):Good P none n (bodyPost P fn (RR cx res nb mb)) cx [] k s:=by
 subst hb
 unfold aG1 at h
 split at h
 ·rename_i s' obs' hrun
  split at h
  ·rename_i res' nb' mb' hf
   simp only [bG,eZ] at h
   obtain⟨rfl,rfl,rfl,rfl⟩:=h
   obtain⟨o',hr,hg⟩:=vO (P:=P) (r:=none) (n:=n) (Q:=bodyPost P fn (RR cx res' nb' mb')) (cx:=cx) (D:=[]) hrun
   exact iJ hT hm f k s orc _ _ _ hr hob (hg (aN2 hT hf))
  ·cases h
 ·cases h
theorem aN5 (hT:nU P T)(hm:P.follows .mixedOrders=true) {f:Nat} {k k':List K} {s s':LS} {orc:List Or} (ads:List Adj)(ts ks:List Nat) {base:Nat} (hb:cx.base=base) {body:Code} {obs:List Ob}
 (h:vN base ts ks (pH ads (run T f k s orc))=some (body,k',s',obs)) (hob:Obs P obs) (hg:∃m,Good P r n Q cx D (.l body m::k') s'):Good P r n Q cx D k s:=by
 unfold vN at h
 split at h
 ·rename_i body' k1 s1 obs' hrun
  split at h
  ·rename_i s2 hs
   simp only [bG,eZ] at h
   obtain⟨rfl,rfl,rfl,rfl⟩:=h
   obtain⟨m,hg⟩:=hg
   obtain⟨o',hr,hg'⟩:=vO (P:=P) (r:=r) (n:=n) (Q:=Q) (cx:=cx) (D:=D) hrun
   exact iJ hT hm f k s orc _ _ _ hr hob (hg' ⟨m,rS hb hs hg⟩)
  ·cases h
 ·cases h
theorem aQ3 (hT:nU P T)(hm:P.follows .mixedOrders=true) {f m:Nat} {k k':List K} {s s':LS} {orc:List Or} (ads:List Adj)(ts ks:List Nat) {base:Nat} (hb:cx.base=base) {body:Code} {obs:List Ob}
 (h:aA6 base ts ks (pH ads (run T f k s orc))=some (body,m,k',s',obs)) (hob:Obs P obs) (hg:Good P r n Q cx D (.l body m::k') s'):Good P r n Q cx D k s:=by
 unfold aA6 at h
 split at h
 ·rename_i body' m' k1 s1 obs' hrun
  split at h
  ·rename_i s2 hs
   simp only [bG,eZ] at h
   obtain⟨rfl,rfl,rfl,rfl,rfl⟩:=h
   obtain⟨o',hr,hg'⟩:=vO (P:=P) (r:=r) (n:=n) (Q:=Q) (cx:=cx) (D:=D) hrun
   exact iJ hT hm f k s orc _ _ _ hr hob (hg' (rS hb hs hg))
  ·cases h
 ·cases h
end
instance sumInh {α β:Type} [Inhabited β]:Inhabited (α⊕β):=⟨.inr dF⟩
theorem mI {α:Type} (l m:List α) {n:Nat} (h:m.length=n):l.length+n=(l++m).length:=by rw [List.length_append,h]
def aH {S R:Type} [Inhabited R] (step:S->S⊕R):Nat->S->R
 | 0,_=>dF
 | n+1,v=>match step v with
  | .inl v'=>aH step n v'
  | .inr x=>x
theorem aI {S R:Type} [Inhabited R] {step:S->S⊕R} {n:Nat} {v v':S} (h:step v=.inl v'):aH step (n+1) v=aH step n v':=by simp only [aH,h]
theorem aQ {S R:Type} [Inhabited R] {step:S->S⊕R} {n:Nat} {v:S} {x:R} (h:step v=.inr x):aH step (n+1) v=x:=by simp only [aH,h]
def bA {S R:Type} [Inhabited R] (step:S->S⊕R)(n:Nat):S⊕R->R
 | .inl v=>aH step n v
 | .inr x=>x
def aM (p ms:List Nat)(c:Code)(k:List K):Code×List K:=(uD p ms c k).getD (.skip,[])
def flat {α:Type} (c:α->List SV)(l:List α):List SV:=l.flatMap c
theorem aMu {α:Type} {c:α->List SV} {l:List α} {x:α}:flat c (l++[x])=flat c l++c x:=by simp [flat]
theorem cM {α:Type} {c:α->List SV} {l m:List α}:flat c (l++m)=flat c l++flat c m:=by simp [flat]
theorem jW {α:Type} {c:α->List SV} {l:List α} {x:α}:flat c (x::l)=c x++flat c l:=by simp [flat]
theorem rU {α:Type} {c:α->List SV} {es:Nat} (hc:∀x,(c x).length=es)(l:List α):(flat c l).length=l.length*es:=by
 induction l with
 | nil=>simp [flat]
 | cons x l ih=>rw [jW,List.length_append,ih,hc,List.length_cons,Nat.add_mul];omega
theorem aG6 {α:Type} {c:α->List SV} {es:Nat} (hc:∀x,(c x).length=es)(d:α):∀(l:List α) (i:Nat),i < l.length->((flat c l).drop (i*es)).take es=c (l.getD i d)
 | [],i,h=>by simp at h
 | x::l,0,_=>by
  rw [jW]
  simp only [Nat.zero_mul,List.drop_zero,List.getD_cons_zero]
  rw [←hc x,List.take_left]
 | x::l,i+1,h=>by
  rw [jW,List.getD_cons_succ,Nat.add_mul,Nat.one_mul,Nat.add_comm]
  rw [←hc x,←List.drop_drop,List.drop_left,hc x]
  exact aG6 hc d l i (by simpa using h)
theorem aMv {α:Type} {c:α->List SV} {es:Nat} (hc:∀x,(c x).length=es)(d:α)(l:List α)(i o n:Nat)(h:i < l.length)(ho:o+n<=es):((flat c l).drop (i*es+o)).take n=((c (l.getD i d)).drop o).take n:=by
 rw [←aG6 hc d l i h]
 rw [←List.drop_drop,List.drop_take,List.take_take,Nat.min_eq_left (by omega)]
theorem aKx {α:Type} {c:α->List SV} {es:Nat} (hc:∀x,(c x).length=es)(d:α)(l:List α)(i:Int)(o n:Nat)(h:0<=i/\i < (l.length:Int))(ho:o+n<=es) {off:Nat} (he:off=i.toNat*es+o) {r:List SV}
 (hr:((c (l.getD i.toNat d)).drop o).take n=r):((flat c l).drop off).take n=r:=by
 subst he
 rw [aMv hc d l i.toNat o n (by omega) ho];exact hr
theorem kG {α:Type} {c:α->List SV} {es:Nat} (hc:∀x,(c x).length=es) {l:List α} {n by':Nat} (h1:l.length+n<=2 ^ 40)(h2:(l.length+n)*by'<=2 ^ 47):(flat c l).length=l.length*es/\l.length+n<=2 ^ 40/\(l.length+n)*by'<=2 ^ 47 :=
 ⟨rU hc l,h1,h2⟩
def BK.fl:BK->BK
 | .live o _ c=>.live o true c
 | x=>x
theorem BRep.fl {ρ:Env} {M:Nat->Prop} {W:World} {k:Nat} {x y:BK} (e:x.fl=y.fl)(h:BRep ρ M W k x):BRep ρ M W k y:=by
 cases x<;>cases y<;>simp [BK.fl] at e<;>first | trivial | (subst e;exact h) | skip
 rename_i o1 s1 c1 o2 s2 c2
 obtain⟨rfl,rfl⟩:=e
 cases o1<;>exact h
theorem aBa {x y:BK} (e:x.fl=y.fl)(h:x.own):y.own:=by
 cases x<;>cases y<;>simp [BK.fl] at e<;>try exact h
 rename_i o1 s1 c1 o2 s2 c2
 obtain⟨rfl,rfl⟩:=e
 cases o1<;>exact h
def aTy:List BK->Prop
 | []=>True
 | x::l=>x.pl/\aTy l
theorem aG7:∀{l:List BK},aTy l->∀i,(l.getD i .un).pl
 | [],_,i=>by simp [BK.pl]
 | x::l,h,0=>by simpa using h.1
 | x::l,h,i+1=>by simpa using aG7 h.2 i
theorem qF {α:Type} {c:α->List SV} (hc:∀x,(c x).all SV.plain=true) {l:List α}:Plain (flat c l):=by
 refine kX ?_
 induction l with
 | nil=>rfl
 | cons x l ih=>rw [jW,List.all_append,hc x,ih];rfl
theorem Con.flags {P:Program} {f:Nat} {args:List SV} {bs bs':List BK} {res:SV} {nb mb:List BK} (h:Con P f args bs res nb mb)(e:bs'.map BK.fl=bs.map BK.fl)(hpl0:aTy bs):Con P f args bs' res nb mb:=by
 have hp:=aG7 hpl0
 have hl:bs'.length=bs.length:=by have:=congrArg List.length e;simpa using this
 have hg:∀i,(bs'.getD i .un).fl=(bs.getD i .un).fl:=fun i=>by
  have:=congrArg (fun l=>l[i]?) e
  simp only [List.getElem?_map] at this
  simp only [fV]
  cases h1:bs'[i]? <;> cases h2:bs[i]? <;> simp [h1,h2] at this ⊢
  exact this
 have ho:∀(ρ:Env),tD ρ bs=tD ρ bs':=fun ρ=>by
  funext b
  refine propext ⟨fun⟨i,n,h1,h2⟩=>⟨i,n,aBa (hg i).symm h1,h2⟩,fun⟨i,n,h1,h2⟩=>⟨i,n,aBa (hg i) h1,h2⟩⟩
 refine⟨h.1,fun ρ W vs hr hb hpl ha hfz=>?_⟩
 have hcx:dO ρ W bs'=dO ρ W bs:=by simp only [dO,hl,ho]
 rw [hcx] at hb ⊢
 exact h.2 ρ W vs hr (fun i=>BRep.fl (hg i) (hb i)) hp (fun i j b n b' n' hij h1 h2=>ha i j b n b' n' hij (aBa (hg i).symm h1) (aBa (hg j).symm h2)) (fun b o ho=>⟨(hfz b o ho).1,fun i n h1=>(hfz b o ho).2 i n (aBa (hg i).symm h1)⟩)
end Go.Aw
namespace Go.Aw
open Go.RowKit
theorem Kept.trans {w A B:World} {own own':Nat->Prop} (h:Kept w own A)(k:Kept A own' B)(ho:∀b,own' b->b < w.heap.size->own b):Kept w own B :=
 ⟨k.os.trans h.os,k.tape.trans h.tape,k.output.trans h.output,Nat.le_trans h.size k.size,fun i hi hn=>(k.block i (Nat.lt_of_lt_of_le hi h.size) (fun h'=>hn (ho i h' hi))).trans (h.block i hi hn),Nat.le_trans h.drawn k.drawn⟩
def aU5:Obj->Bool
 | .cells _ _ _=>true
 | .map _ _=>true
 | _=>false
def isCellsAt (W:World)(b:Nat):Prop:=∃o,W.heap[b]? = some o/\aU5 o=true
theorem isCellsAt.lt {W:World} {b:Nat} (h:isCellsAt W b):b < W.heap.size:=by
 obtain⟨o,h,_⟩:=h;exact iL h
theorem nZ {W:World} {b o:Nat} {x:Value} (h:W.cell? ⟨b,o,none⟩=some x):isCellsAt W b:=by
 unfold World.cell? at h
 cases ho:W.heap[b]? with
 | none=>simp [ho] at h
 | some o' =>
  cases o' with
  | cells c ty m=>exact⟨_,ho,rfl⟩
  | _=>simp [ho] at h
structure Turn (B:Nat) (W W':World):Prop where
 os:W'.os=W.os
 tape:W'.tape=W.tape
 output:W'.output=W.output
 size:W.heap.size<=W'.heap.size
 low:∀k,k < W.heap.size->k < B->W'.heap[k]? = W.heap[k]?
 cells:∀k,isCellsAt W k->W'.heap[k]? = W.heap[k]?
 drawn:W.drawn<=W'.drawn
theorem Turn.of_below {B:Nat} {W W':World} (h:Below W.heap.size W W')(hd:W.drawn<=W'.drawn):Turn B W W':=⟨h.os,h.tape,h.output,h.size,fun k hk _=>h.block k hk,fun k hk=>h.block k hk.lt,hd⟩
theorem Turn.cell {B:Nat} {W W':World} (h:Turn B W W') {b o:Nat} {x:Value} (hx:W.cell? ⟨b,o,none⟩=some x):W'.cell? ⟨b,o,none⟩=some x:=by
 have:=h.cells b (nZ hx)
 simp only [World.cell?] at hx ⊢
 rw [this];exact hx
section
variable {cx : Cx} {N : Nat} {D : List Deferred} {ρ : Env} {s : FS} {a : Act} {W : World}
theorem BRep.turn {M:Nat->Prop} {B:Nat} {W':World} {k:Nat} {x:BK} (h:BRep ρ M W k x)(ht:Turn B W W'):BRep ρ M W' k x:=by
 cases x with
 | un=>trivial
 | dead=>trivial
 | live own sym cells =>
  cases own with
  | true =>
   rcases h with h | ⟨b,vs,rest,ty,h1,h2,h3,h4⟩
   ·exact .inl h
   ·exact .inr ⟨b,vs,rest,ty,h1,h2,h3,(ht.cells b ⟨_,h4,rfl⟩).trans h4⟩
  | false =>
   rcases h with h | ⟨b,o,n,vs,h1,h2,h3,h4⟩
   ·exact .inl h
   ·exact .inr ⟨b,o,n,vs,h1,h2,h3,fun i x hx=>ht.cell (h4 i x hx)⟩
 | map es =>
  obtain⟨b,n,arr,q1,q2,q3,q4⟩:=h
  exact⟨b,n,arr,q1,q2,q3,(ht.cells b ⟨_,q4,rfl⟩).trans q4⟩
def Cx.hold (cx:Cx)(W:World)(d:Nat->Prop):Cx:={ w:=W,base:=cx.base,ρ:=cx.ρ,own:=fun b=>cx.mine b/\¬d b }
def mB (ρ:Env)(s:FS)(b:Nat):Prop:=∃k n,(s.bk k).own/\ρ k=some (b,0,n)
theorem Rep.owns (h:Rep cx N D ρ s a W) {b:Nat} (hb:mB ρ s b):isCellsAt W b/\cx.mine b:=by
 obtain⟨k,n,hk,hρ⟩:=hb
 have hb:=h.bk k
 cases hx:s.bk k with
 | un=>rw [hx] at hk;exact hk.elim
 | dead=>rw [hx] at hk;exact hk.elim
 | live own sym cells =>
  rw [hx] at hb hk
  cases own with
  | false=>exact hk.elim
  | true =>
   rcases hb with hb | ⟨b',vs,rest,ty,h1,h2,h3,h4⟩
   ·rw [hρ] at hb;cases hb.1
   ·rw [hρ] at h1;cases h1;exact⟨⟨_,h4,rfl⟩,h2⟩
 | map es =>
  rw [hx] at hb
  obtain⟨b',n',arr,q1,q2,q3,q4⟩:=hb
  rw [hρ] at q1;cases q1;exact⟨⟨_,q4,rfl⟩,q2⟩
def Cx.only (base:Nat)(W:World) (ρ:Env)(S:Nat->Prop):Cx:={ w:=W,base:=base,ρ:=ρ,own:=S }
theorem Rep.only (h:Rep cx N D ρ s a W) {B:Nat} {W':World} (ht:Turn B W W')(base:Nat)(hb:∀i,i < base->s.bk i≠.un):Rep (Cx.only base W' ρ (mB ρ s)) N D ρ s a W':=by
 refine { defs:=h.defs,size:=h.size,sl:=h.sl,bk:=fun k=>?_,apart:=h.apart,wf1:=h.wf1,wf2:=h.wf2,kept:=Kept.refl _ _,pl:=h.pl,old:=fun i hi=>⟨rfl,hb i hi⟩,fzn:=fun b o ho=>⟨(ht.cells b ⟨_,(h.fzn b o ho).1,rfl⟩).trans (h.fzn b o ho).1,(h.fzn b o ho).2.1,.inl ho⟩,fzo:=fun _ _ h=>h }
 refine BRep.turn ?_ ht
 have hsz:=ht.size
 have hb:=h.bk k
 cases hx:s.bk k with
 | un=>trivial
 | dead=>trivial
 | live own sym cells =>
  rw [hx] at hb
  cases own with
  | true =>
   rcases hb with hb | ⟨b,vs,rest,ty,h1,h2,h3,h4⟩
   ·exact .inl hb
   ·exact .inr ⟨b,vs,rest,ty,h1,.inr ⟨k,_,by rw [hx];trivial,h1⟩,h3,h4⟩
  | false =>
   rcases hb with hb | ⟨b,o,n,vs,h1,h2,h3,h4⟩
   ·exact .inl hb
   ·refine .inr ⟨b,o,n,vs,h1,⟨h2.1,fun hne hM=>?_⟩,h3,h4⟩
    obtain⟨x,vs',rfl⟩:=List.exists_cons_of_ne_nil hne
    have hlt:=(nZ (h4 0 x (by simp))).lt
    rcases hM with hM | hM
    ·exact absurd (Nat.le_trans hsz hM) (Nat.not_le_of_lt hlt)
    ·exact h2.2 hne (h.owns hM).2
 | map es =>
  rw [hx] at hb
  obtain⟨b,n,arr,q1,q2,q3,q4⟩:=hb
  exact⟨b,n,arr,q1,.inr ⟨k,_,by rw [hx];trivial,q1⟩,q3,q4⟩
end
section
variable {α : Type} {P : Program}
end
end Go.Aw
namespace Go.Aw
open Go.RowKit
section
variable {P : Program} {T : Nat → Option TI} {cx : Cx}
structure Held (cx:Cx) (d:Nat) (cx':Cx):Prop where
 ex:∃W0,cx'=cx.hold W0 (fun b=>b=d)/\Kept cx.w cx.own W0/\W0.heap[d]? = some (.deferred (some []))/\cx.w.heap.size<=d
def aN6 (base:Nat)(ts ks:List Nat):Option (Out×List Ob×List Or)->Option (Code×List K×LS×List Ob)
 | some (.at x k s,obs,[])=>match shrink base ts ks s with
  | some s'=>some (x,k,s',obs)
  | none=>none
 | _=>none
variable {D : List Deferred} {r : Option Nat} {n : Nat} {Q : Exit → Act → World → Prop}
theorem aU6 (hT:nU P T)(hm:P.follows .mixedOrders=true) {f:Nat} {k k':List K} {s s':LS} {orc:List Or} (ads:List Adj)(ts ks:List Nat) {base:Nat} (hb:cx.base=base) {x:Code} {obs:List Ob}
 (h:aN6 base ts ks (pH ads (run T f k s orc))=some (x,k',s',obs)) (hob:Obs P obs) (hg:Good P r n Q cx D (.c x::k') s'):Good P r n Q cx D k s:=by
 unfold aN6 at h
 split at h
 ·rename_i x' k1 s1 obs' hrun
  split at h
  ·rename_i s2 hs
   simp only [bG,eZ] at h
   obtain⟨rfl,rfl,rfl,rfl⟩:=h
   obtain⟨o',hr,hg'⟩:=vO (P:=P) (r:=r) (n:=n) (Q:=Q) (cx:=cx) (D:=D) hrun
   exact iJ hT hm f k s orc _ _ _ hr hob (hg' (rS hb hs hg))
  ·cases h
 ·cases h
end
end Go.Aw
namespace Go.Aw
open Go.RowKit
section
variable {P : Program} {T : Nat → Option TI} {cx : Cx} {N : Nat} {D : List Deferred} {ρ : Env} {s : FS} {a : Act} {W : World} {r : Option Nat} {n : Nat}
theorem aD9 (hT:nU P T) {ops:Array Oper} {Q:Exit->Act->World->Prop} {rest:List Nat}:∀(l:List Oper) (i:Nat) (s s':LS) (orc orc':List Or) (evs:List Ev) (obs:List Ob),nG T ops l i s orc=some (evs,s',obs,orc')->Obs P obs ->
 (∀j o,l[j]? = some o->ops[i+j]? = some o)->∀(ρ:Env) (a:Act) (W:World),Rep cx s.sl.length D ρ s.fs a W ->
 (∀ρ' a' W',Rep cx s.sl.length D ρ' s'.fs a' W'->s'.sl.length=s.sl.length->wpOpsIn (Fw r) n P ops Q rest a' W')->wpOpsIn (Fw r) n P ops Q (List.range' i l.length++rest) a W
 | [],i,s,s',orc,orc',evs,obs,h,_,_,ρ,a,W,hrep,hK=>by
  simp only [nG,bG,eZ] at h
  obtain⟨_,rfl,_,_⟩:=h
  simpa using hK ρ a W hrep rfl
 | o::l,i,s,s',orc,orc',evs,obs,h,hob,hl,ρ,a,W,hrep,hK=>by
  simp only [nG] at h
  split at h
  ·cases h
  ·rename_i v obs1 orc1 hv
   split at h
   ·cases h
   ·rename_i s1 happ
    split at h
    ·cases h
    ·rename_i vs s2 obs2 orc2 hrest
     simp only [bG,eZ] at h
     obtain⟨rfl,rfl,rfl,rfl⟩:=h
     obtain⟨ho1,ho2⟩:=Obs.append hob
     have hi:ops[i]? = some o:=by have:=hl 0 o (by simp);simpa using this
     obtain⟨hfs,hd,hlen⟩:=aIv happ
     have hdst:iD ops i=o.dst:=by simp [iD,hi]
     rw [List.length_cons,List.range'_succ,List.cons_append,wpOpsIn_cons]
     refine aD4 (r:=r) (n:=n) (w0:=cx) (D:=D) hT hv ho1 hi hd s.fs (fun _ _=>rfl) (fun _ _=>.inl rfl) ρ a W Q _ hrep (fun ρ' a' W' h'=>?_)
     rw [hdst,←hfs] at h'
     refine aD9 hT l (i+1) s1 s2 orc1 orc2 vs obs2 hrest ho2 (fun j o' hj=>?_) ρ' a' W' (by rw [hlen];exact h') (fun ρ'' a'' W'' h'' e''=>hK ρ'' a'' W'' (by rw [hlen] at h'';exact h'') (e''.trans hlen))
     rw [show i+1+j=i+(j+1) by omega];exact hl (j+1) o' (by simpa using hj)
def BK.frz:BK->BK
 | .live _ sym cells=>.live false sym cells
 | .map _=>.dead
 | x=>x
structure Seg (J:Nat->(Nat->Prop)->World->Prop) (W:World) (S:Nat->Prop) (i:Nat) (cx:Cx) (Sc:Nat->Prop):Prop where
 j:J i Sc cx.w
 kept:Kept W S cx.w
 sub:∀b,Sc b->S b\/W.heap.size<=b
 apart:∀k b o n,k < cx.base->cx.ρ k=some (b,o,n)->¬Sc b
 own:∀b,¬cx.own b
 apartF:∀b o,cx.ρ.fz b=some o->¬Sc b
structure SegX (Jx:(Nat->Prop)->World->Prop) (W:World) (S:Nat->Prop) (cx:Cx):Prop where
 j:∃Sc,Jx Sc cx.w
 kept:Kept W S cx.w
 own:∀b,¬cx.own b
def VR (J:Nat->(Nat->Prop)->World->Prop)(Jx:(Nat->Prop)->World->Prop)(m:Nat)(S:Nat->Prop)(W:World)(e:Ending)(W':World):Prop :=
 (e=.returned (.bool true)/\∃S',J m S' W'/\Kept W S W'/\∀b,S' b->S b\/W.heap.size<=b) \/
 (e=.returned (.bool false)/\∃S',Jx S' W'/\Kept W S W')
def aW1 (J:Nat->(Nat->Prop)->World->Prop):Prop:=∀i S W,J i S W->∀b,S b->b < W.heap.size
def aXn:BK->Bool
 | .live _ _ (_::_)=>true
 | _=>false
def aKy (base:Nat):Nat->List BK->Bool
 | _,[]=>true
 | i,.live false _ _::l=>decide (i < base)&&aKy base (i+1) l
 | i,_::l=>aKy base (i+1) l
def evS (T:Nat->Option TI)(ops:Array Oper)(l:List Oper)(i:Nat)(s:LS)(orc:List Or):Option (LS×List Ob) :=
 match nG T ops l i s orc with
 | some (_,s',obs,[])=>some (s',obs)
 | _=>Option.none
theorem aN7 {ops:Array Oper} {l:List Oper} {i:Nat} {s s':LS} {orc:List Or} {obs:List Ob} (h:evS T ops l i s orc=some (s',obs)):∃evs,nG T ops l i s orc=some (evs,s',obs,[]):=by
 unfold evS at h
 split at h
 ·rename_i evs s2 obs2 he
  simp only [bG,eZ] at h
  obtain⟨rfl,rfl⟩:=h
  exact⟨evs,he⟩
 ·cases h
theorem aTz {s:LS} {k:Nat} {o sy:Bool} {c:List SV} (h:s.fs.bk k=.live o sy c):s.bk[k]? = some (.live o sy c):=by
 simp only [LS.fs,fV] at h
 cases hx:s.bk[k]? with
 | none=>rw [hx] at h;simp at h
 | some y=>rw [hx] at h;simp at h;rw [h]
theorem aKz {s:LS} {k:Nat} {o sy:Bool} {c:List SV} (h:s.bk[k]? = some (.live o sy c)):s.fs.bk k=.live o sy c:=by
 simp only [LS.fs,fV,h,Option.getD_some]
def rV:List Nat->List Nat->Code->List K->Option (Code×List K)
 | [],_,x,k=>some (x,k)
 | q::p,ms,.seq a b,k=>if q=0 then rV p ms a (.c b::k) else rV p ms b k
 | _::p,ms,.block id c,k=>rV p ms c (.b id::k)
 | q::p,ms,.cond _ a b,k=>if q=0 then rV p ms a k else rV p ms b k
 | _::p,m::ms,.loop body,k=>rV p ms body (.l body m::k)
 | _::p,m::ms,.scope body,k=>rV p ms body (.s body m::k)
 | _,_,_,_=>Option.none
def cC (p ms:List Nat)(c:Code):Code×List K:=(rV p ms c []).getD (.skip,[])
end
end Go.Aw
namespace Go.Aw
open Go.RowKit
def cat:List Ob->List Ob->List Ob
 | [],m=>m
 | x::l,m=>x::cat l m
theorem Obs.cat {P:Program}:∀{l m:List Ob},Obs P l->Obs P m->Obs P (cat l m)
 | [],_,_,h=>h
 | _::_,_,h,h'=>⟨h.1,Obs.cat h.2 h'⟩
structure St (P:Program) where
 o:List Or
 b:List Ob
 ok:Obs P b
def nV {P:Program}:List (St P)->List Or
 | []=>[]
 | x::l=>x.o++nV l
def stB {P:Program}:List (St P)->List Ob
 | []=>[]
 | x::l=>cat x.b (stB l)
theorem aBb {P:Program}:∀l:List (St P),Obs P (stB l)
 | []=>trivial
 | x::l=>Obs.cat x.ok (aBb l)
section
variable {P : Program}
def St.d {c d:Bool} (h:c=d):St P:=⟨[.d d],[.eq c d],h,trivial⟩
def St.T:St P:=St.d (rfl:true=true)
def St.F:St P:=St.d (rfl:false=false)
def St.p {p:Prop} (h:p):St P:=⟨[],[.pr p],h,trivial⟩
def St.i (i:Int)(n:Nat)(h:0<=i/\i < ((n:Nat):Int):=by omega):St P:=St.p h
def St.c (ks:List Nat) {f:Nat} {args:List SV} {bs:List BK} {res:SV} {nb mb:List BK} (h:Con P f args bs res nb mb):St P:=⟨[.call ks res nb mb],[.call f args bs res nb mb],h,trivial⟩
def St.u (m:Nat):St P:=⟨[.un m],[],trivial⟩
def St.l {l:List SV} {o n:Nat} (r:List SV)(h:(l.drop o).take n=r):St P:=⟨[.ld r],[.pr ((l.drop o).take n=r)],h,trivial⟩
theorem aK0 {α:Type} [Inhabited α] {c:α->List SV} {es:Nat} (hc:∀x,(c x).length=es)(l:List α)(i:Int)(o n:Nat)(h:0<=i/\i < (l.length:Int))(ho:o+n<=es) :
 ((flat c l).drop (0+i.toNat*es+o)).take n=((c (l.getD i.toNat dF)).drop o).take n :=
 aKx hc dF l i o n h ho (by omega) rfl
def St.L {α:Type} [Inhabited α] {c:α->List SV} {es:Nat} (hc:∀x,(c x).length=es)(l:List α)(i:Int)(o n:Nat)(h:0<=i/\i < (l.length:Int):=by omega) (ho:o+n<=es:=by decide):St P :=
 St.l _ (aK0 hc l i o n h ho)
def St.R {α:Type} [Inhabited α] {c:α->List SV} {es:Nat} (hc:∀x,(c x).length=es)(l:List α)(i:Int)(o n:Nat) {raw:List SV} (e:raw=flat c l)(h:0<=i/\i < (l.length:Int):=by first | omega | (simp only [Lt];omega)) (ho:o+n<=es:=by decide):St P :=
 St.l (l:=raw) (o:=0+i.toNat*es+o) (n:=n) (((c (l.getD i.toNat dF)).drop o).take n) (by rw [e];exact aK0 hc l i o n h ho)
variable {T : Nat → Option TI} {cx : Cx} {D : List Deferred} {r : Option Nat} {n : Nat} {Q : Exit → Act → World → Prop}
def aL (fn:Func):Code:=fn.body.getD .skip
theorem aY {f:Nat} {fn:Func} {args:List SV} {bs:List BK} {res:SV} {nb mb:List BK} (hf:P.funcs[f]? = some fn)
 (hc : (fn.body.isSome && !(fn.name == "runtime.NumGoroutine") && decide (args.length ≤ fn.ntmps) && bs.all aD7 && belowL bs.length args && bs.all (aD8 bs.length)) = true)
 (h:∀cx:Cx,cx.base=bs.length->Good P none 9 (bodyPost P fn (RR cx res nb mb)) cx [] [.c (aL fn)] (rF fn.ntmps args bs)):Con P f args bs res nb mb:=by
 simp only [Bool.and_eq_true,Bool.not_eq_true',decide_eq_true_eq] at hc
 obtain⟨⟨⟨⟨⟨h1,h2⟩,h3⟩,h4⟩,h5⟩,h6⟩:=hc
 obtain⟨c,hb⟩:=Option.isSome_iff_exists.1 h1
 have e:aL fn=c:=by unfold aL;rw [hb];rfl
 exact aG0 (n:=9) hf hb (ent hf h2 hb) h3 (by rw [h4,h5,h6];rfl) (fun cx hcx=>e▸h cx hcx)
theorem aU7 (hT:nU P T)(hm:P.follows .mixedOrders=true) {fn:Func} {f:Nat} {k:List K} {s:LS} (sts:List (St P))(ads:List Adj)(ks:List Nat) {base:Nat} (hb:cx.base=base) {res:SV} {nb:List BK}
 (h:aG1 T fn.results.toList base [] ks (pH ads (run T f k s (nV sts)))=some (res,nb,[],stB sts)):Good P none n (bodyPost P fn (RR cx res nb [])) cx [] k s:=aN4 hT hm ads [] ks hb h (aBb sts)
theorem aQ4 (hT:nU P T)(hm:P.follows .mixedOrders=true) {f:Nat} {k:List K} {s:LS} (sts:List (St P))(ads:List Adj)(ts ks:List Nat) {base:Nat} (hb:cx.base=base)(body:Code)(k':List K)(s':LS)(m:Nat)
 (h:vN base ts ks (pH ads (run T f k s (nV sts)))=some (body,k',s',stB sts)) (hg:Good P r n Q cx D (.l body m::k') s'):Good P r n Q cx D k s:=aN5 hT hm ads ts ks hb h (aBb sts) ⟨m,hg⟩
theorem aT0 (hT:nU P T)(hm:P.follows .mixedOrders=true) {f m:Nat} {k:List K} {s:LS} (sts:List (St P))(ads:List Adj)(ts ks:List Nat) {base:Nat} (hb:cx.base=base)(body:Code)(k':List K)(s':LS)
 (h:aA6 base ts ks (pH ads (run T f k s (nV sts)))=some (body,m,k',s',stB sts)) (hg:Good P r n Q cx D (.l body m::k') s'):Good P r n Q cx D k s:=aQ3 hT hm ads ts ks hb h (aBb sts) hg
theorem aW2 (hT:nU P T)(hm:P.follows .mixedOrders=true) {f:Nat} {k:List K} {s:LS} (sts:List (St P))(ads:List Adj)(ts ks:List Nat) {base:Nat} (hb:cx.base=base)(x:Code)(k':List K)(s':LS)
 (h:aN6 base ts ks (pH ads (run T f k s (nV sts)))=some (x,k',s',stB sts)) (hg:Good P r n Q cx D (.c x::k') s'):Good P r n Q cx D k s:=aU6 hT hm ads ts ks hb h (aBb sts) hg
end
def gD (n:Nat):List (Nat×SV)->List SV
 | []=>List.replicate n .u
 | (t,x)::l=>(gD n l).set t x
theorem aJ {S R:Type} [Inhabited R] (step:S->S⊕R)(n:Nat)(v:S):aH step (n+1) v=bA step n (step v):=rfl
end Go.Aw
namespace Go.Aw
open Go.RowKit
def gZ (a b:Int):Int:=if b < a then b else a
def dB (a b:Int):Int:=if a < b then b else a
section
variable {α β : Type} [DecidableEq α] {kc : α → SV} {vc : β → SV} {l : List (α × β)} {k : α} {T : Nat → Option TI} {kt : Nat}
variable {P : Program}
def St.z (id:Nat):St P:=⟨[.stop id],[],trivial⟩
end
def St.sub {P:Program} (a b:Int)(n:Nat)(h:0<=a/\a<=b/\b<=(n:Int):=by omega):St P:=⟨[.mp []],[.pr (0<=a/\a<=b/\b<=(n:Int))],h,trivial⟩
section
variable {P : Program}
theorem hG {α:Type} {c:α->List SV} (hc:∀x,(c x).all SV.plain=true)(l:List α):Plain (flat c l):=qF hc
def St.D {α:Type} {c:α->List SV} {c2:List α->List SV} (es:Nat)(hc2:∀x,c2 x=[.d (flat c x) x.length es])(l:List (List α))(i:Int)(h:0<=i/\i < (l.length:Int):=by omega) (hc:∀x,(c x).all SV.plain=true:=by exact fun _=>rfl):St P :=
 ⟨[.ld [.d (flat c (l.getD i.toNat dF)) (l.getD i.toNat dF).length es]],[.pr (((flat c2 l).drop (0+i.toNat*1)).take 1=[.d (flat c (l.getD i.toNat dF)) (l.getD i.toNat dF).length es]),.pr (Plain (flat c (l.getD i.toNat dF)))],
  by
   have h1:∀x,(c2 x).length=1:=fun x=>by rw [hc2];rfl
   have:=aK0 h1 l i 0 1 h (by decide)
   rw [Nat.add_zero] at this
   show _=_
   rw [this,hc2];rfl,hG hc _,trivial⟩
theorem aN8 {α:Type} {c:α->List SV} {z:α} (n:Nat):flat c (List.replicate n z)=(List.replicate n (c z)).flatten:=by
 unfold flat
 rw [List.flatMap_def,List.map_replicate]
def St.Z {α:Type} (c:α->List SV)(z:α)(zs:List SV)(n:Int)(bytes:Nat)(h:0<=n/\n.toNat*bytes<=2 ^ 47/\n<=2 ^ 47:=by omega) (e:c z=zs:=by rfl):St P :=
 ⟨[.ld (flat c (List.replicate n.toNat z))],[.pr (0<=n/\n.toNat*bytes<=2 ^ 47/\n<=2 ^ 47),.pr (n=n),.pr (flat c (List.replicate n.toNat z)=(List.replicate n.toNat zs).flatten)],h,rfl,by rw [←e];exact aN8 _,trivial⟩
theorem pI {α:Type} {c:α->List SV} {es:Nat} (hc:∀x,(c x).length=es):∀(l:List α) (n:Nat),(flat c l).drop (n*es)=flat c (l.drop n)
 | [],n=>by simp [flat]
 | x::l,0=>by simp
 | x::l,n+1=>by
  rw [jW,Nat.add_mul,Nat.one_mul,Nat.add_comm,←List.drop_drop,List.drop_left' (hc x),pI hc l n];simp
theorem pJ {α:Type} {c:α->List SV} {es:Nat} (hc:∀x,(c x).length=es):∀(l:List α) (n:Nat),(flat c l).take (n*es)=flat c (l.take n)
 | [],n=>by simp [flat]
 | x::l,0=>by simp [flat]
 | x::l,n+1=>by
  rw [jW,Nat.add_mul,Nat.one_mul,Nat.add_comm,←hc x,List.take_length_add_append,hc x,pJ hc l n];simp [jW]
def part {α:Type} (l:List α)(a b:Int):List α:=(l.drop a.toNat).take (b.toNat - a.toNat)
theorem dN {α:Type} {l:List α} {a b:Int} (h:0<=a/\a<=b/\b<=l.length):(part l a b).length=b.toNat - a.toNat:=by
 unfold part;rw [List.length_take,List.length_drop];omega
def St.S {α:Type} {c:α->List SV} {es:Nat} (hc:∀x,(c x).length=es)(l:List α)(a b:Int)(n:Nat)(h:0<=a/\a<=b/\b<=(n:Int):=by omega):St P :=
 ⟨[.ld (flat c (part l a b))],[.pr (0<=a/\a<=b/\b<=(n:Int)),.pr (flat c (part l a b)=((flat c l).drop (0+a.toNat*es)).take ((b.toNat - a.toNat)*es))],h,by rw [Nat.zero_add,pI hc,pJ hc];rfl,trivial⟩
end
end Go.Aw
namespace Go.Aw
open Go.RowKit
mutual
def SV.hasB (i:Nat):SV->Bool
 | .p j _=>j == i
 | .s j _ _ _=>j == i
 | .m j=>j == i
 | .f _ caps=>SV.hasBl i caps
 | .a l=>SV.hasBl i l
 | .t l=>SV.hasBl i l
 | _=>false
def SV.hasBl (i:Nat):List SV->Bool
 | []=>false
 | x::l=>SV.hasB i x || SV.hasBl i l
end
mutual
theorem aS2 {i:Nat}:∀(x:SV),x.has i->x.hasB i=true
 | .u,h=>by simp [SV.has] at h
 | .b _,h=>by simp [SV.has] at h
 | .v _,h=>by simp [SV.has] at h
 | .d _ _ _,h=>by simp [SV.has] at h
 | .p j _,h=>by simp only [SV.has] at h;simp [SV.hasB,h]
 | .s j _ _ _,h=>by simp only [SV.has] at h;simp [SV.hasB,h]
 | .m j,h=>by simp only [SV.has] at h;simp [SV.hasB,h]
 | .f _ caps,h=>by simp only [SV.has] at h;simp only [SV.hasB];exact hasl_B caps h
 | .a l,h=>by simp only [SV.has] at h;simp only [SV.hasB];exact hasl_B l h
 | .t l,h=>by simp only [SV.has] at h;simp only [SV.hasB];exact hasl_B l h
theorem hasl_B {i:Nat}:∀(l:List SV),SV.hasl i l->SV.hasBl i l=true
 | [],h=>by simp [SV.hasl] at h
 | x::l,h=>by
  simp only [SV.hasl] at h
  simp only [SV.hasBl,Bool.or_eq_true]
  exact h.imp (aS2 x) (hasl_B l)
end
def BK.hasB (i:Nat):BK->Bool
 | .live _ false cells=>SV.hasBl i cells
 | .map es=>SV.hasBl i (kU es)
 | _=>false
theorem aT1 {i:Nat} {x:BK} (hpl:x.pl)(h:x.has i):x.hasB i=true:=by
 cases x with
 | un=>exact h.elim
 | dead=>exact h.elim
 | map es=>exact hasl_B _ h
 | live own sym cells =>
  cases sym with
  | true=>exact(hpl i h).elim
  | false=>exact hasl_B _ h
section
variable {P : Program} {ρ : Env} {W : World} {M : Nat → Prop}
theorem aG8 {α:Type} {c:α->List SV} {es:Nat} (hc:∀x,(c x).length=es) {l:List α} {a b:Int} (hab:0<=a/\a<=b/\b<=l.length) {i:Nat} {y:Value}
 (hr:Rel ρ (.s i (0+a.toNat*es) (b.toNat - a.toNat) es) y) (hb:BRep ρ M W i (.live false true (flat c l))) (hpl:Plain (flat c l)) :
 ∃q,∀(k:Nat) (ρ2:Env),ρ2 k=q->ρ2.fz=ρ.fz->Rel ρ2 (.s k 0 (part l a b).length es) y/\BRep ρ2 M W k (.live false true (flat c (part l a b))):=by
 have hl:=dN hab
 have hf:flat c (part l a b)=((flat c l).drop (a.toNat*es)).take ((b.toNat - a.toNat)*es):=by rw [pI hc,pJ hc];rfl
 simp only [Rel] at hr
 rcases hr with⟨h1,h2,h3⟩ | ⟨b0,o,N,cap,off',sp,h1,h2,h3,h4,h5⟩
 ·refine⟨none,fun k ρ2 hq hfz=>⟨?_,.inl ⟨hq,?_⟩⟩⟩
  ·simp only [Rel];exact .inl ⟨hq,by omega,h3⟩
  ·rw [hf,h2];simp
 ·refine⟨some (b0,o+off',cap*es),fun k ρ2 hq hfz=>⟨?_,?_⟩⟩
  ·simp only [Rel]
   exact .inr ⟨b0,o+off',cap*es,cap,0,sp,hq,by rw [hl,Nat.add_zero];exact h2,by rw [hl];exact h3,by omega,fun hc=>⟨rfl,(h5 hc).2⟩⟩
  ·rcases hb with⟨e1,_⟩ | ⟨b1,o1,n1,vs,e1,⟨e2,e3⟩,e4,e5⟩
   ·rw [h1] at e1;cases e1
   ·rw [h1] at e1
    simp only [bG,eZ] at e1
    obtain⟨rfl,rfl,rfl⟩:=e1
    have hle:(b.toNat - a.toNat)*es<=cap*es:=Nat.mul_le_mul_right _ h3
    refine .inr ⟨b0,o+off',cap*es,(vs.drop (a.toNat*es)).take ((b.toNat - a.toNat)*es),hq,⟨by rw [List.length_take];omega,fun hne hM=>?_⟩,?_,fun t x hx=>?_⟩
    ·rw [hfz]
     exact e3 (fun e=>hne (by rw [e];simp)) hM
    ·rw [hf]
     have hp2:Plain (((flat c l).drop (a.toNat*es)).take ((b.toNat - a.toNat)*es)):=fun j hj=>hpl j (jU (jT hj))
     exact Plain.congr (fun b o ho=>by rw [hfz];exact ho) hp2 (Rels.take _ (Rels.drop _ e4))
    ·have ht:=(List.getElem?_eq_some_iff.1 hx).1
     rw [List.length_take] at ht
     rw [List.getElem?_take_of_lt (by omega),List.getElem?_drop] at hx
     have hcap:cap≠0:=by
      intro e
      rw [e] at hle
      omega
     rw [(h5 hcap).1,show o+(0+a.toNat*es)+t=o+(a.toNat*es+t) by omega]
     exact e5 _ x hx
theorem xI {ρ ρ2:Env} {x y:SV}:∀{pre post:List SV} {vs:List Value},Rels ρ (pre++x::post) vs->ρ.le ρ2->(∀j,SV.hasl j pre\/SV.hasl j post->ρ2 j=ρ j)->(∃v,vs[pre.length]? = some v/\Rel ρ2 y v)->Rels ρ2 (pre++y::post) vs
 | [],post,[],h,_,_,_=>by simp [Rels] at h
 | [],post,v::vs,h,hf,hj,hx=>by
  simp only [List.nil_append,Rels] at h ⊢
  obtain⟨v',e,hx⟩:=hx
  simp only [List.length_nil,List.getElem?_cons_zero,bG] at e
  subst e
  exact⟨hx,Rels.congr hf _ _ (fun j hk=>hj j (.inr hk)) h.2⟩
 | z::pre,post,[],h,_,_,_=>by simp [Rels] at h
 | z::pre,post,v::vs,h,hf,hj,hx=>by
  simp only [List.cons_append,Rels] at h ⊢
  refine⟨Rel.congr hf _ _ (fun j hk=>hj j (.inl (by simp only [SV.hasl];exact .inl hk))) h.1,xI h.2 hf (fun j hk=>hj j ?_) ?_⟩
  ·rcases hk with hk | hk
   ·exact .inl (by simp only [SV.hasl];exact .inr hk)
   ·exact .inr hk
  ·obtain⟨v',e,hx⟩:=hx
   exact⟨v',by simpa using e,hx⟩
theorem aEa {x:SV}:∀{pre post:List SV} {vs:List Value},Rels ρ (pre++x::post) vs->∃v,vs[pre.length]? = some v/\Rel ρ x v
 | [],_,[],h=>by simp [Rels] at h
 | [],_,v::_,h=>by simp only [List.nil_append,Rels] at h;exact⟨v,rfl,h.1⟩
 | _::_,_,[],h=>by simp [Rels] at h
 | _::pre,_,_::_,h=>by
  simp only [List.cons_append,Rels] at h
  obtain⟨v,e,hx⟩:=aEa h.2
  exact⟨v,by simpa using e,hx⟩
theorem gF {x:BK} {bs1 bs2:List BK} (j:Nat):(bs1++x::bs2).getD j .un=if j=bs1.length then x else if j < bs1.length then bs1.getD j .un else bs2.getD (j - bs1.length - 1) .un:=by
 simp only [fV]
 by_cases h:j=bs1.length
 ·subst h;simp
 ·rw [if_neg h]
  by_cases h2:j < bs1.length
  ·rw [if_pos h2,List.getElem?_append_left h2]
  ·rw [if_neg h2,List.getElem?_append_right (by omega)]
   obtain⟨k,hk⟩:∃k,j - bs1.length=k+1:=⟨j - bs1.length - 1,by omega⟩
   rw [hk];simp
theorem Con.part {f:Nat} {pre post:List SV} {bs1 bs2 nb:List BK} {res:SV} {α:Type} {c:α->List SV} {es:Nat} {l:List α} {a b:Int} (i:Nat)(hc:∀x,(c x).length=es)(hab:0<=a/\a<=b/\b<=l.length)(hi:bs1.length=i)
 (hno:(!SV.hasBl i pre&&!SV.hasBl i post&&bs1.all (fun x=>!x.hasB i)&&bs2.all (fun x=>!x.hasB i)&&nb.all (fun x=>!x.hasB i)&&!res.hasB i)=true)
 (h:Con P f (pre++.s i 0 (Aw.part l a b).length es::post) (bs1++.live false true (flat c (Aw.part l a b))::bs2) res nb) :
 Con P f (pre++.s i (0+a.toNat*es) (b.toNat - a.toNat) es::post) (bs1++.live false true (flat c l)::bs2) res nb:=by
 subst hi
 simp only [Bool.and_eq_true,Bool.not_eq_true',List.all_eq_true] at hno
 obtain⟨⟨⟨⟨⟨n1,n2⟩,n3⟩,n4⟩,n5⟩,n6⟩:=hno
 refine⟨h.1,fun ρ W vs hr hb hpl hap hfz=>?_⟩
 obtain⟨y,hy,hry⟩:=aEa hr
 have hbi:=hb bs1.length
 have hpi:=hpl bs1.length
 rw [gF,if_pos rfl] at hbi hpi
 obtain⟨q,hq⟩:=aG8 hc hab hry hbi hpi
 have hne:∀j,j≠bs1.length->(ρ.set bs1.length q) j=ρ j:=fun j hj=>by rw [Env.set_loc,if_neg hj]
 have hat:(ρ.set bs1.length q) bs1.length=q:=by rw [Env.set_loc,if_pos rfl]
 have hown:tD (ρ.set bs1.length q) (bs1++.live false true (flat c (Aw.part l a b))::bs2)=tD ρ (bs1++.live false true (flat c l)::bs2):=by
  funext b0
  apply propext
  unfold tD
  constructor
  ·rintro ⟨j,n,h1,h2⟩
   rw [gF] at h1
   by_cases hj:j=bs1.length
   ·rw [if_pos hj] at h1;exact h1.elim
   ·refine⟨j,n,?_,by rw [←hne j hj];exact h2⟩
    rw [gF,if_neg hj];rw [if_neg hj] at h1;exact h1
  ·rintro ⟨j,n,h1,h2⟩
   rw [gF] at h1
   by_cases hj:j=bs1.length
   ·rw [if_pos hj] at h1;exact h1.elim
   ·refine⟨j,n,?_,by rw [hne j hj];exact h2⟩
    rw [gF,if_neg hj];rw [if_neg hj] at h1;exact h1
 have hmine:(dO (ρ.set bs1.length q) W (bs1++.live false true (flat c (Aw.part l a b))::bs2)).mine=(dO ρ W (bs1++.live false true (flat c l)::bs2)).mine:=by
  funext b0
  unfold Cx.mine dO
  simp only [hown]
 obtain⟨g1,g2⟩:=hq bs1.length (ρ.set bs1.length q) hat rfl
 have blk:∀j,j≠bs1.length->(bs1++BK.live false true (flat c (Aw.part l a b))::bs2).getD j .un=(bs1++BK.live false true (flat c l)::bs2).getD j .un:=fun j hj=>by rw [gF,gF,if_neg hj,if_neg hj]
 have nohas:∀j,j≠bs1.length->¬((bs1++BK.live false true (flat c l)::bs2).getD j .un).has bs1.length:=fun j hj hk=>by
  have hB:=aT1 (hpl j) hk
  rw [gF,if_neg hj] at hB
  split at hB
  ·rename_i hlt
   rw [fV,List.getElem?_eq_getElem hlt,Option.getD_some] at hB
   rw [n3 _ (List.getElem_mem hlt)] at hB;cases hB
  ·by_cases hlt:j - bs1.length - 1 < bs2.length
   ·rw [fV,List.getElem?_eq_getElem hlt,Option.getD_some] at hB
    rw [n4 _ (List.getElem_mem hlt)] at hB;cases hB
   ·rw [fV,List.getElem?_eq_none (by omega),Option.getD_none] at hB;cases hB
 have nol:∀{m:List SV},SV.hasBl bs1.length m=false->∀j,SV.hasl j m->j≠bs1.length:=fun hm j hj e=>by
  subst e;rw [hasl_B _ hj] at hm;cases hm
 have hcall:=h.2 (ρ.set bs1.length q) W vs ?_ ?_ ?_ ?_ ?_
 ·refine hcall.mono fun e W' hR=>?_
  obtain⟨ρ',v,r1,r2,r3,r4,r5,r6,r7,r8,r9⟩:=hR
  have hbase:(dO (ρ.set bs1.length q) W (bs1++.live false true (flat c (Aw.part l a b))::bs2)).base=(dO ρ W (bs1++.live false true (flat c l)::bs2)).base:=by simp [dO]
  have hlt:bs1.length < (dO ρ W (bs1++.live false true (flat c l)::bs2)).base:=by simp [dO]
  rw [hbase] at r2 r5 r6 r7 r9
  rw [hmine] at r5 r9
  have hnb:∀j,¬(gC (dO ρ W (bs1++.live false true (flat c l)::bs2)).base [] nb j).has bs1.length:=fun j hk=>by
   have hB:=aT1 (r6 j) hk
   unfold gC at hB
   split at hB
   ·simp [BK.hasB] at hB
   ·rename_i hge
    by_cases hl2:j - (dO ρ W (bs1++.live false true (flat c l)::bs2)).base < nb.length
    ·rw [fV,List.getElem?_eq_getElem hl2,Option.getD_some] at hB
     rw [n5 _ (List.getElem_mem hl2)] at hB;cases hB
    ·rw [fV,List.getElem?_eq_none (by omega),Option.getD_none] at hB;cases hB
  have ho:∀j,(gC (dO ρ W (bs1++.live false true (flat c l)::bs2)).base [] nb j).own->j≠bs1.length:=fun j hj e=>by
   subst e
   unfold gC at hj
   rw [if_pos hlt] at hj
   exact hj
  have hs:∀j,j≠bs1.length->(ρ'.set bs1.length (ρ bs1.length)) j=ρ' j:=fun j hj=>by rw [Env.set_loc,if_neg hj]
  refine⟨ρ'.set bs1.length (ρ bs1.length),v,r1,fun j hj=>?_,?_,?_,fun j=>?_,r6,fun j k b1 m1 b2 m2 hjk o1 o2 e1 e2=>?_,?_,fun b0 o0 hf0=>?_⟩
  ·by_cases hji:j=bs1.length
   ·subst hji;rw [Env.set_loc,if_pos rfl];rfl
   ·rw [hs j hji,r2 j hj];exact hne j hji
  ·exact Rel.congr (ρ'.le_set _ _) _ _ (fun j hk=>hs j (fun e=>by subst e;rw [aS2 _ hk] at n6;cases n6)) r3
  ·have:(dO (ρ.set bs1.length q) W (bs1++.live false true (flat c (Aw.part l a b))::bs2)).own=(dO ρ W (bs1++.live false true (flat c l)::bs2)).own:=hown
   rw [this] at r4;exact r4
  ·by_cases hji:j=bs1.length
   ·subst hji
    unfold gC
    rw [if_pos hlt];trivial
   ·exact BRep.congr (ρ'.le_set _ _) (hs j hji) (fun k hk=>hs k (fun e=>by subst e;exact hnb j hk)) (r5 j)
  ·rw [hs j (ho j o1)] at e1
   rw [hs k (ho k o2)] at e2
   exact r7 j k b1 m1 b2 m2 hjk o1 o2 e1 e2
  ·exact r8
  ·obtain⟨t1,t2,t3⟩:=r9 b0 o0 hf0
   exact⟨t1,fun j n hj=>by rw [hs j (ho j hj)];exact t2 j n hj,t3⟩
 ·refine xI hr (ρ.le_set _ _) (fun j hj=>hne j ?_) ⟨y,hy,g1⟩
  rcases hj with hj | hj
  ·exact nol n1 j hj
  ·exact nol n2 j hj
 ·intro j
  rw [hmine]
  by_cases hj:j=bs1.length
  ·rw [hj,gF,if_pos rfl];exact g2
  ·rw [blk j hj]
   exact BRep.congr (ρ.le_set _ _) (hne j hj) (fun k hk=>hne k (fun e=>by subst e;exact nohas j hj hk)) (hb j)
 ·intro j
  by_cases hj:j=bs1.length
  ·rw [hj,gF,if_pos rfl]
   show Plain _
   have hf:flat c (Aw.part l a b)=((flat c l).drop (a.toNat*es)).take ((b.toNat - a.toNat)*es):=by rw [pI hc,pJ hc];rfl
   rw [hf]
   exact fun k hk=>hpi k (jU (jT hk))
  ·rw [blk j hj];exact hpl j
 ·intro j k b1 m1 b2 m2 hjk o1 o2 e1 e2
  have hj:j≠bs1.length:=fun e=>by rw [e,gF,if_pos rfl] at o1;exact o1
  have hk:k≠bs1.length:=fun e=>by rw [e,gF,if_pos rfl] at o2;exact o2
  rw [blk j hj] at o1
  rw [blk k hk] at o2
  rw [hne j hj] at e1
  rw [hne k hk] at e2
  exact hap j k b1 m1 b2 m2 hjk o1 o2 e1 e2
 ·intro b0 o0 hf0
  obtain⟨t1,t2⟩:=hfz b0 o0 hf0
  refine⟨t1,fun j n hj=>?_⟩
  have hji:j≠bs1.length:=fun e=>by rw [e,gF,if_pos rfl] at hj;exact hj
  rw [blk j hji] at hj
  rw [hne j hji]
  exact t2 j n hj
theorem mZ {x:BK} {bs:List BK} (j:Nat):(bs++[x]).getD j .un=if j=bs.length then x else bs.getD j .un:=by
 rw [gF (bs2:=[])]
 by_cases h:j=bs.length
 ·rw [if_pos h,if_pos h]
 ·rw [if_neg h,if_neg h]
  by_cases h2:j < bs.length
  ·rw [if_pos h2]
  ·rw [if_neg h2]
   simp only [fV]
   rw [List.getElem?_eq_none (by omega:bs.length<=j)];simp
theorem Con.alias {f:Nat} {pre post:List SV} {bs:List BK} {res:SV} {α:Type} {c:α->List SV} {es:Nat} {l:List α} {a b:Int} (i:Nat)(hc:∀x,(c x).length=es)(hab:0<=a/\a<=b/\b<=l.length)
 (hi:bs[i]? = some (.live false true (flat c l)))
 (hno:(!SV.hasBl bs.length pre&&!SV.hasBl bs.length post&&bs.all (fun x=>!x.hasB bs.length)&&!res.hasB bs.length)=true)
 (h:Con P f (pre++.s bs.length 0 (Aw.part l a b).length es::post) (bs++[.live false true (flat c (Aw.part l a b))]) res []) :
 Con P f (pre++.s i (0+a.toNat*es) (b.toNat - a.toNat) es::post) bs res []:=by
 simp only [Bool.and_eq_true,Bool.not_eq_true',List.all_eq_true] at hno
 obtain⟨⟨⟨n1,n2⟩,n3⟩,n6⟩:=hno
 refine⟨h.1,fun ρ W vs hr hb hpl hap hfz=>?_⟩
 have hilt:=(List.getElem?_eq_some_iff.1 hi).1
 have hgi:bs.getD i .un=.live false true (flat c l):=by rw [fV,hi];rfl
 obtain⟨y,hy,hry⟩:=aEa hr
 have hbi:=hb i
 have hpi:=hpl i
 rw [hgi] at hbi hpi
 obtain⟨q,hq⟩:=aG8 hc hab hry hbi hpi
 have hne:∀j,j≠bs.length->(ρ.set bs.length q) j=ρ j:=fun j hj=>by rw [Env.set_loc,if_neg hj]
 have hat:(ρ.set bs.length q) bs.length=q:=by rw [Env.set_loc,if_pos rfl]
 have hend:bs.getD bs.length .un=.un:=by rw [fV,List.getElem?_eq_none (Nat.le_refl _)];rfl
 have hown:tD (ρ.set bs.length q) (bs++[.live false true (flat c (Aw.part l a b))])=tD ρ bs:=by
  funext b0
  apply propext
  unfold tD
  constructor
  ·rintro ⟨j,n,h1,h2⟩
   rw [mZ] at h1
   by_cases hj:j=bs.length
   ·rw [if_pos hj] at h1;exact h1.elim
   ·rw [if_neg hj] at h1
    exact⟨j,n,h1,by rw [←hne j hj];exact h2⟩
  ·rintro ⟨j,n,h1,h2⟩
   have hj:j≠bs.length:=fun e=>by rw [e,hend] at h1;exact h1
   exact⟨j,n,by rw [mZ,if_neg hj];exact h1,by rw [hne j hj];exact h2⟩
 have hmine:(dO (ρ.set bs.length q) W (bs++[.live false true (flat c (Aw.part l a b))])).mine=(dO ρ W bs).mine:=by
  funext b0
  unfold Cx.mine dO
  simp only [hown]
 obtain⟨g1,g2⟩:=hq bs.length (ρ.set bs.length q) hat rfl
 have nohas:∀j,¬(bs.getD j .un).has bs.length:=fun j hk=>by
  have hB:=aT1 (hpl j) hk
  by_cases hlt:j < bs.length
  ·rw [fV,List.getElem?_eq_getElem hlt,Option.getD_some] at hB
   rw [n3 _ (List.getElem_mem hlt)] at hB;cases hB
  ·rw [fV,List.getElem?_eq_none (by omega),Option.getD_none] at hB;cases hB
 have nol:∀{m:List SV},SV.hasBl bs.length m=false->∀j,SV.hasl j m->j≠bs.length:=fun hm j hj e=>by
  subst e;rw [hasl_B _ hj] at hm;cases hm
 have hcall:=h.2 (ρ.set bs.length q) W vs ?_ ?_ ?_ ?_ ?_
 ·refine hcall.mono fun e W' hR=>?_
  obtain⟨ρ',v,r1,r2,r3,r4,r5,r6,r7,r8,r9⟩:=hR
  have un1:∀j,gC (dO ρ W bs).base [] [] j=.un:=fun j=>by unfold gC;simp
  have un2:∀j,gC (dO (ρ.set bs.length q) W (bs++[.live false true (flat c (Aw.part l a b))])).base [] [] j=.un:=fun j=>by unfold gC;simp
  refine⟨ρ',v,r1,fun j hj=>?_,r3,?_,fun j=>?_,fun j=>?_,fun j k b1 m1 b2 m2 hjk o1 o2 e1 e2=>?_,r8,fun b0 o0 hf0=>?_⟩
  ·have hj':j < bs.length:=hj
   rw [r2 j (by simp [dO];omega)];exact hne j (by omega)
  ·have:(dO (ρ.set bs.length q) W (bs++[.live false true (flat c (Aw.part l a b))])).own=(dO ρ W bs).own:=hown
   rw [this] at r4;exact r4
  ·rw [un1];trivial
  ·rw [un1];trivial
  ·rw [un1] at o1;exact o1.elim
  ·obtain⟨t1,t2,t3⟩:=r9 b0 o0 hf0
   rw [hmine] at t3
   exact⟨t1,fun j n hj=>by rw [un1] at hj;exact hj.elim,t3⟩
 ·refine xI hr (ρ.le_set _ _) (fun j hj=>hne j ?_) ⟨y,hy,g1⟩
  rcases hj with hj | hj
  ·exact nol n1 j hj
  ·exact nol n2 j hj
 ·intro j
  rw [hmine,mZ]
  by_cases hj:j=bs.length
  ·rw [if_pos hj,hj];exact g2
  ·rw [if_neg hj]
   exact BRep.congr (ρ.le_set _ _) (hne j hj) (fun k hk=>hne k (fun e=>by subst e;exact nohas j hk)) (hb j)
 ·intro j
  rw [mZ]
  by_cases hj:j=bs.length
  ·rw [if_pos hj]
   show Plain _
   have hf:flat c (Aw.part l a b)=((flat c l).drop (a.toNat*es)).take ((b.toNat - a.toNat)*es):=by rw [pI hc,pJ hc];rfl
   rw [hf]
   exact fun k hk=>hpi k (jU (jT hk))
  ·rw [if_neg hj];exact hpl j
 ·intro j k b1 m1 b2 m2 hjk o1 o2 e1 e2
  rw [mZ] at o1 o2
  have hj:j≠bs.length:=fun e=>by rw [if_pos e] at o1;exact o1
  have hk:k≠bs.length:=fun e=>by rw [if_pos e] at o2;exact o2
  rw [if_neg hj] at o1
  rw [if_neg hk] at o2
  rw [hne j hj] at e1
  rw [hne k hk] at e2
  exact hap j k b1 m1 b2 m2 hjk o1 o2 e1 e2
 ·intro b0 o0 hf0
  obtain⟨t1,t2⟩:=hfz b0 o0 hf0
  refine⟨t1,fun j n hj=>?_⟩
  rw [mZ] at hj
  have hji:j≠bs.length:=fun e=>by rw [if_pos e] at hj;exact hj
  rw [if_neg hji] at hj
  rw [hne j hji]
  exact t2 j n hj
end
def aI4 (T:Nat->Option TI)(rv:List ResultVar)(base:Nat)(ms ks:List Nat):Option (Out×List Ob×List Or)->Option (SV×List BK×List BK×List Ob)
 | some (.norm s,obs,[])=>match fin T rv base ms ks s with
  | some (res,nb,mb)=>some (res,nb,mb,obs)
  | none=>none
 | _=>none
theorem aQ5 {P:Program} {T:Nat->Option TI} {cx:Cx} {n:Nat} (hT:nU P T)(hm:P.follows .mixedOrders=true) {fn:Func} {f:Nat} {k:List K} {s:LS} {orc:List Or} (ads:List Adj)(ms ks:List Nat) {base:Nat} (hb:cx.base=base) {res:SV} {nb mb:List BK} {obs:List Ob}
 (h:aI4 T fn.results.toList base ms ks (pH ads (run T f k s orc))=some (res,nb,mb,obs)) (hob:Obs P obs):Good P none n (bodyPost P fn (RR cx res nb mb)) cx [] k s:=by
 subst hb
 unfold aI4 at h
 split at h
 ·rename_i s' obs' hrun
  split at h
  ·rename_i res' nb' mb' hf
   simp only [bG,eZ] at h
   obtain⟨rfl,rfl,rfl,rfl⟩:=h
   obtain⟨o',hr,hg⟩:=vO (P:=P) (r:=none) (n:=n) (Q:=bodyPost P fn (RR cx res' nb' mb')) (cx:=cx) (D:=[]) hrun
   exact iJ hT hm f k s orc _ _ _ hr hob (hg (fun ρ a W hrep=>aN2 hT hf ρ a W hrep))
  ·cases h
 ·cases h
end Go.Aw
namespace Go.Proofs.YtkdfcbmcgnaicaaGreat
open Go.Proofs Go.Aw Go.RowKit
set_option maxRecDepth 100000
noncomputable def T0:=conv Tryz.prog
theorem hT:nU Tryz.prog T0:=fun _ _ h=>h
theorem hm:Tryz.prog.follows .mixedOrders=true:=by kernel_rfl
def W (n:Int):Int:=IntKind.wrap .i64 n
theorem aU8 (n:Int):W n=if n % 18446744073709551616≥9223372036854775808 then n % 18446744073709551616 - 18446744073709551616 else n % 18446744073709551616:=by
 unfold W IntKind.wrap
 simp [IntKind.bits,IntKind.signed]
theorem aS {n:Int} (h1:-9223372036854775808<=n)(h2:n < 9223372036854775808):W n=n:=by
 rw [aU8];split<;>omega
theorem vP (b:Bool):b=true\/b=false:=by cases b<;>simp
def k9 (x:Zt×Zt×Zt):List SV:=[(iv x.1.1),(iv x.1.2.1),(iv x.1.2.2),(iv x.2.1.1),(iv x.2.1.2.1),(iv x.2.1.2.2),(iv x.2.2.1),(iv x.2.2.2.1),(iv x.2.2.2.2)]
def k3 (x:Zt):List SV:=[(iv x.1),(iv x.2.1),(iv x.2.2)]
def k2 (x:Int×Int):List SV:=[(iv x.1),(iv x.2)]
section
variable {cx : Cx} {k : List K} {s : LS} {base : Nat} {Q : Exit → Act → World → Prop}
theorem rt {fn:Func} (sts:List (St Tryz.prog))(ads:List Adj)(ks:List Nat)(hb:cx.base=base) {res:SV} {nb:List BK}
 (h:aG1 T0 fn.results.toList base [] ks (pH ads (run T0 5000 k s (nV sts)))=some (res,nb,[],stB sts)):Aw.Good Tryz.prog none 9 (bodyPost Tryz.prog fn (RR cx res nb [])) cx [] k s:=aU7 hT hm sts ads ks hb h
theorem wW {fn:Func} (sts:List (St Tryz.prog))(ads:List Adj)(ms ks:List Nat)(hb:cx.base=base) {res:SV} {nb mb:List BK}
 (h:aG1 T0 fn.results.toList base ms ks (pH ads (run T0 5000 k s (nV sts)))=some (res,nb,mb,stB sts)):Aw.Good Tryz.prog none 9 (bodyPost Tryz.prog fn (RR cx res nb mb)) cx [] k s:=aN4 hT hm ads ms ks hb h (aBb sts)
theorem rtn {fn:Func} (sts:List (St Tryz.prog))(ads:List Adj)(ms ks:List Nat)(hb:cx.base=base) {res:SV} {nb mb:List BK}
 (h:aI4 T0 fn.results.toList base ms ks (pH ads (run T0 5000 k s (nV sts)))=some (res,nb,mb,stB sts)):Aw.Good Tryz.prog none 9 (bodyPost Tryz.prog fn (RR cx res nb mb)) cx [] k s:=aQ5 hT hm ads ms ks hb h (aBb sts)
theorem en (sts:List (St Tryz.prog))(ads:List Adj)(ts ks:List Nat)(hb:cx.base=base)(body:Code)(k':List K)(s':LS)(m:Nat)
 (h:vN base ts ks (pH ads (run T0 5000 k s (nV sts)))=some (body,k',s',stB sts)) (hg:Aw.Good Tryz.prog none 9 Q cx [] (.l body m::k') s'):Aw.Good Tryz.prog none 9 Q cx [] k s:=aQ4 hT hm sts ads ts ks hb body k' s' m h hg
theorem ba {m:Nat} (sts:List (St Tryz.prog))(ads:List Adj)(ts ks:List Nat)(hb:cx.base=base)(body:Code)(k':List K)(s':LS)
 (h:aA6 base ts ks (pH ads (run T0 5000 k s (nV sts)))=some (body,m,k',s',stB sts)) (hg:Aw.Good Tryz.prog none 9 Q cx [] (.l body m::k') s'):Aw.Good Tryz.prog none 9 Q cx [] k s:=aT0 hT hm sts ads ts ks hb body k' s' h hg
theorem ga (sts:List (St Tryz.prog))(ads:List Adj)(ts ks:List Nat)(hb:cx.base=base)(x:Code)(k':List K)(s':LS)
 (h:aN6 base ts ks (pH ads (run T0 5000 k s (nV sts)))=some (x,k',s',stB sts)) (hg:Aw.Good Tryz.prog none 9 Q cx [] (.c x::k') s'):Aw.Good Tryz.prog none 9 Q cx [] k s:=aW2 hT hm sts ads ts ks hb x k' s' h hg
end
end Go.Proofs.YtkdfcbmcgnaicaaGreat
namespace Go.Proofs.YtkdfcbmcgnaicaaGreat
open Go.Proofs Go.Aw Go.RowKit
set_option maxRecDepth 100000
def F85 (a0:Int)(a1:Int)(a2:Int):Bool :=
 (bif (decide ((a1:Int)<=a0)) then
  (decide ((a0:Int)<=a2))
 else
  false)
theorem C85 (a0:Int)(a1:Int)(a2:Int):Con Tryz.prog 85 [(iv a0),(iv a1),(iv a2)] [] (.v (.bool (F85 a0 a1 a2))) []:=by
 refine aY Tryz.func85 (by kernel_rfl) fun cx hcx=>?_
 cases h0:(decide ((a1:Int)<=a0)) with
 | true =>
  have q0:=cJ h0
  have e:=Eq.refl (F85 a0 a1 a2);conv at e=>rhs;simp only [F85,h0,aT]
  rw [e]
  exact rt [.d h0] [] [] hcx (by kernel_rfl)
 | false =>
  have q0:=cN h0
  have e:=Eq.refl (F85 a0 a1 a2);conv at e=>rhs;simp only [F85,h0,aT]
  rw [e]
  exact rt [.d h0] [] [] hcx (by kernel_rfl)
def F68 (a0:Zt)(a1:Int):Bool :=
 (bif (F85 a0.1 (W (0 - a1)) a1) then
  (bif (F85 a0.2.1 (W (0 - a1)) a1) then
   (F85 a0.2.2 (W (0 - a1)) a1)
  else
   false)
 else
  false)
theorem C68 (a0:Zt)(a1:Int):Con Tryz.prog 68 [(.a (k3 a0)),(iv a1)] [] (.v (.bool (F68 a0 a1))) []:=by
 refine aY Tryz.func68 (by kernel_rfl) fun cx hcx=>?_
 let t0:List (St Tryz.prog):=[.c [] (C85 a0.1 (W (0 - a1)) a1)]
 cases h0:(F85 a0.1 (W (0 - a1)) a1) with
 | true =>
  let t1:List (St Tryz.prog):=(t0++[.d h0,.c [] (C85 a0.2.1 (W (0 - a1)) a1)])
  cases h1:(F85 a0.2.1 (W (0 - a1)) a1) with
  | true =>
   have e:=Eq.refl (F68 a0 a1);conv at e=>rhs;simp only [F68,h0,h1,aT]
   rw [e]
   exact rt (t1++[.d h1,.c [] (C85 a0.2.2 (W (0 - a1)) a1)]) [] [] hcx (by kernel_rfl)
  | false =>
   have e:=Eq.refl (F68 a0 a1);conv at e=>rhs;simp only [F68,h0,h1,aT]
   rw [e]
   exact rt (t1++[.d h1]) [] [] hcx (by kernel_rfl)
 | false =>
  have e:=Eq.refl (F68 a0 a1);conv at e=>rhs;simp only [F68,h0,aT]
  rw [e]
  exact rt (t0++[.d h0]) [] [] hcx (by kernel_rfl)
def aN9 (a0:Zt)(a1:Int)(a2:Zt):Zt :=
 ((W (a0.1+(W (a1*a2.1)))),(W (a0.2.1+(W (a1*a2.2.1)))),(W (a0.2.2+(W (a1*a2.2.2)))))
theorem aW3 (a0:Zt)(a1:Int)(a2:Zt):Con Tryz.prog 107 [(.a (k3 a0)),(iv a1),(.a (k3 a2))] [] (.a (k3 (aN9 a0 a1 a2))) []:=by
 refine aY Tryz.func107 (by kernel_rfl) fun cx hcx=>?_
 have e:=Eq.refl (aN9 a0 a1 a2);conv at e=>rhs;simp only [aN9]
 rw [e]
 exact rt [] [] [] hcx (by kernel_rfl)
def F87 (a0:Zt)(a1:Zt):Zt :=
 (aN9 a0 (-1) a1)
theorem C87 (a0:Zt)(a1:Zt):Con Tryz.prog 87 [(.a (k3 a0)),(.a (k3 a1))] [] (.a (k3 (F87 a0 a1))) []:=by
 refine aY Tryz.func87 (by kernel_rfl) fun cx hcx=>?_
 have e:=Eq.refl (F87 a0 a1);conv at e=>rhs;simp only [F87]
 rw [e]
 exact rt [.c [] (aW3 a0 (-1) a1)] [] [] hcx (by kernel_rfl)
def F86 (a0:Zt)(a1:Zt):Zt :=
 ((W ((W (a0.2.1*a1.2.2)) - (W (a0.2.2*a1.2.1)))),(W ((W (a0.2.2*a1.1)) - (W (a0.1*a1.2.2)))),(W ((W (a0.1*a1.2.1)) - (W (a0.2.1*a1.1)))))
theorem C86 (a0:Zt)(a1:Zt):Con Tryz.prog 86 [(.a (k3 a0)),(.a (k3 a1))] [] (.a (k3 (F86 a0 a1))) []:=by
 refine aY Tryz.func86 (by kernel_rfl) fun cx hcx=>?_
 have e:=Eq.refl (F86 a0 a1);conv at e=>rhs;simp only [F86]
 rw [e]
 exact rt [] [] [] hcx (by kernel_rfl)
def F69 (a0:Zt×Zt×Zt):Zt :=
 (F86 (F87 a0.2.1 a0.1) (F87 a0.2.2 a0.1))
theorem C69 (a0:Zt×Zt×Zt):Con Tryz.prog 69 [(.a (k9 a0))] [] (.a (k3 (F69 a0))) []:=by
 refine aY Tryz.func69 (by kernel_rfl) fun cx hcx=>?_
 have e:=Eq.refl (F69 a0);conv at e=>rhs;simp only [F69]
 rw [e]
 exact rt [.c [] (C87 a0.2.1 a0.1),.c [] (C87 a0.2.2 a0.1),.c [] (C86 (F87 a0.2.1 a0.1) (F87 a0.2.2 a0.1))] [] [] hcx (by kernel_rfl)
def F47 (a0:Zt×Zt×Zt):Int :=
 (bif (!(F68 a0.1 64)) then
  1
 else
  (bif (!(F68 a0.2.1 64)) then
   1
  else
   (bif (!(F68 a0.2.2 64)) then
    1
   else
    (bif ((((F69 a0).1:Int) == 0)&&((((F69 a0).2.1:Int) == 0)&&((((F69 a0).2.2:Int) == 0)&&true))) then
     6
    else
     0))))
theorem C47 (a0:Zt×Zt×Zt):Con Tryz.prog 47 [(.a (k9 a0))] [] (iv (F47 a0)) []:=by
 refine aY Tryz.func47 (by kernel_rfl) fun cx hcx=>?_
 let t0:List (St Tryz.prog):=[.c [] (C68 a0.1 64)]
 cases h0:(!(F68 a0.1 64)) with
 | true =>
  have e:=Eq.refl (F47 a0);conv at e=>rhs;simp only [F47,h0,aT]
  rw [e]
  exact rt (t0++[.d h0]) [] [] hcx (by kernel_rfl)
 | false =>
  let t1:List (St Tryz.prog):=(t0++[.d h0,.c [] (C68 a0.2.1 64)])
  cases h1:(!(F68 a0.2.1 64)) with
  | true =>
   have e:=Eq.refl (F47 a0);conv at e=>rhs;simp only [F47,h0,h1,aT]
   rw [e]
   exact rt (t1++[.d h1]) [] [] hcx (by kernel_rfl)
  | false =>
   let t2:List (St Tryz.prog):=(t1++[.d h1,.c [] (C68 a0.2.2 64)])
   cases h2:(!(F68 a0.2.2 64)) with
   | true =>
    have e:=Eq.refl (F47 a0);conv at e=>rhs;simp only [F47,h0,h1,h2,aT]
    rw [e]
    exact rt (t2++[.d h2]) [] [] hcx (by kernel_rfl)
   | false =>
    let t3:List (St Tryz.prog):=(t2++[.d h2,.c [] (C69 a0)])
    cases h3:((((F69 a0).1:Int) == 0)&&((((F69 a0).2.1:Int) == 0)&&((((F69 a0).2.2:Int) == 0)&&true))) with
    | true =>
     have e:=Eq.refl (F47 a0);conv at e=>rhs;simp only [F47,h0,h1,h2,h3,aT]
     rw [e]
     exact rt (t3++[.d h3]) [] [] hcx (by kernel_rfl)
    | false =>
     have e:=Eq.refl (F47 a0);conv at e=>rhs;simp only [F47,h0,h1,h2,h3,aT]
     rw [e]
     exact rt (t3++[.d h3]) [] [] hcx (by kernel_rfl)
def eW (x:Int×Int):List SV:=[(iv x.1),(iv x.2)]
theorem dM (x:Int×Int):(eW x).length=2:=rfl
def F37 (a0:Int×Int):Bool :=
 (bif (decide ((a0.1:Int)≥(-1099511627776))) then
  (bif (decide ((a0.1:Int)<=a0.2)) then
   (decide ((a0.2:Int)<=1099511627776))
  else
   false)
 else
  false)
theorem C37 (a0:Int×Int):Con Tryz.prog 37 [(.a [(iv a0.1),(iv a0.2)])] [] (.v (.bool (F37 a0))) []:=by
 refine aY Tryz.func37 (by kernel_rfl) fun cx hcx=>?_
 cases h0:(decide ((a0.1:Int)≥(-1099511627776))) with
 | true =>
  have q0:=cJ h0
  let t1:List (St Tryz.prog):=[.d h0]
  cases h1:(decide ((a0.1:Int)<=a0.2)) with
  | true =>
   have q1:=cJ h1
   have e:=Eq.refl (F37 a0);conv at e=>rhs;simp only [F37,h0,h1,aT]
   rw [e]
   exact rt (t1++[.d h1]) [] [] hcx (by kernel_rfl)
  | false =>
   have q1:=cN h1
   have e:=Eq.refl (F37 a0);conv at e=>rhs;simp only [F37,h0,h1,aT]
   rw [e]
   exact rt (t1++[.d h1]) [] [] hcx (by kernel_rfl)
 | false =>
  have q0:=cN h0
  have e:=Eq.refl (F37 a0);conv at e=>rhs;simp only [F37,h0,aT]
  rw [e]
  exact rt [.d h0] [] [] hcx (by kernel_rfl)
noncomputable def aEb:Code:=(aM [1,0,1] [] (aL Tryz.f55) []).1
noncomputable def aEc:List K:=(aM [1,0,1] [] (aL Tryz.f55) []).2
def aBc (a0:List (Int×Int))(v1:Int):LS:=⟨gD 15 [(5,(.s 0 0 a0.length 2)),(6,(iv (a0.length:Int))),(7,(iv v1))],[(.live false true (flat eW a0))]⟩
def jO (a0:List (Int×Int)):Int->(Int)⊕(Int)
 | v1 =>
  (bif (decide ((v1:Int) < (a0.length:Int))) then
   (bif (!(F37 (a0.getD (tN v1) dF))) then
    (.inr 1)
   else
    (.inl (v1+1)))
  else
   (.inr 0))
theorem aQ6 (a0:List (Int×Int))(l0:a0.length<=2^63-1) {cx:Cx} (hcx:cx.base=1):∀(n:Nat) (v1:Int),0<=v1->tN ((a0.length:Int) - v1) < n->Aw.Good Tryz.prog none 9 (bodyPost Tryz.prog Tryz.f55 (RR cx (iv (aH (jO a0) n v1)) [] [])) cx [] (.l aEb n::aEc) (aBc a0 v1):=by
 intro n
 induction n with
 | zero=>intro v1 hi hn;exact absurd hn (eI _)
 | succ n ih =>
  intro v1 hi hn
  refine aR ?_
  cases h0:(decide ((v1:Int) < (a0.length:Int))) with
  | true =>
   have q0:=cJ h0
   let t1:List (St Tryz.prog):=[.d h0,.i v1 (a0.length),.L dM a0 v1 0 2,.c [] (C37 (a0.getD (tN v1) dF))]
   cases h1:(!(F37 (a0.getD (tN v1) dF))) with
   | true =>
    have e:=Eq.refl (jO a0 v1);conv at e=>rhs;simp only [jO,h0,h1,aT]
    rw [aJ,e]
    exact rt (t1++[.d h1]) [] [] hcx (by kernel_rfl)
   | false =>
    have e:=Eq.refl (jO a0 v1);conv at e=>rhs;simp only [jO,h0,h1,aT]
    rw [aI e]
    refine ba (t1++[.d h1]) [] [5,6,7] [] hcx (m:=n) aEb (aEc) (aBc a0 (W (v1+1))) (by kernel_rfl) ?_
    have z0:(W (v1+1))=(v1+1):=aS (by omega) (by omega)
    rw [z0]
    exact ih (v1+1) (by omega) (by omega)
  | false =>
   have q0:=cN h0
   have e:=Eq.refl (jO a0 v1);conv at e=>rhs;simp only [jO,h0,aT]
   rw [aJ,e]
   exact rt [.d h0] [] [] hcx (by kernel_rfl)
def zA (a0:List (Int×Int)):Int :=
 (aH (jO a0) (tN ((a0.length:Int) - 0)+1) 0)
theorem aU9 (a0:List (Int×Int))(l0:a0.length<=2^63-1):Con Tryz.prog 55 [(.s 0 0 a0.length 2)] [(.live false true (flat eW a0))] (iv (zA a0)) []:=by
 refine aY Tryz.func55 (by kernel_rfl) fun cx hcx=>?_
 have e:=Eq.refl (zA a0);conv at e=>rhs;simp only [zA]
 rw [e]
 refine en [] [] [5,6,7] [] hcx aEb (aEc) (aBc a0 0) (tN ((a0.length:Int) - 0)+1) (by kernel_rfl) ?_
 exact aQ6 a0 l0 hcx (tN ((a0.length:Int) - 0)+1) 0 (by omega) (by omega)
noncomputable def aEd:Code:=(aM [1,1,1,0,1] [] (aL Tryz.f59) []).1
noncomputable def aEe:List K:=(aM [1,1,1,0,1] [] (aL Tryz.f59) []).2
def aBd (a0:List (Int×Int))(v1 v2 v3:Int):LS:=⟨gD 33 [(2,(iv v1)),(3,(iv v2)),(16,(.s 0 0 a0.length 2)),(17,(iv (a0.length:Int))),(18,(iv v3))],[(.live false true (flat eW a0))]⟩
def oA (a0:List (Int×Int)):Zt->Zt⊕Zt
 | (v1,v2,v3) =>
  (bif (decide ((v3:Int) < (a0.length:Int))) then
   (.inl ((W (v1+(a0.getD (tN v3) dF).1)),(W (v2+(a0.getD (tN v3) dF).2)),(v3+1)))
  else
   (.inr (v1,v2,0)))
theorem aQ7 (a0:List (Int×Int))(l0:a0.length<=2^63-1) {cx:Cx} (hcx:cx.base=1):∀(n:Nat) (v1 v2 v3:Int),0<=v3->tN ((a0.length:Int) - v3) < n->Aw.Good Tryz.prog none 9 (bodyPost Tryz.prog Tryz.f59 (RR cx (.t (k3 (aH (oA a0) n (v1,v2,v3)))) [] [])) cx [] (.l aEd n::aEe) (aBd a0 v1 v2 v3):=by
 intro n
 induction n with
 | zero=>intro v1 v2 v3 hi hn;exact absurd hn (eI _)
 | succ n ih =>
  intro v1 v2 v3 hi hn
  refine aR ?_
  cases h0:(decide ((v3:Int) < (a0.length:Int))) with
  | true =>
   have q0:=cJ h0
   have e:=Eq.refl (oA a0 (v1,v2,v3));conv at e=>rhs;simp only [oA,h0,aT]
   rw [aI e]
   refine ba [.d h0,.i v3 (a0.length),.L dM a0 v3 0 2] [] [2,3,16,17,18] [] hcx (m:=n) aEd (aEe) (aBd a0 (W (v1+(a0.getD (tN v3) dF).1)) (W (v2+(a0.getD (tN v3) dF).2)) (W (v3+1))) (by kernel_rfl) ?_
   have z0:(W (v3+1))=(v3+1):=aS (by omega) (by omega)
   rw [z0]
   exact ih (W (v1+(a0.getD (tN v3) dF).1)) (W (v2+(a0.getD (tN v3) dF).2)) (v3+1) (by omega) (by omega)
  | false =>
   have q0:=cN h0
   have e:=Eq.refl (oA a0 (v1,v2,v3));conv at e=>rhs;simp only [oA,h0,aT]
   rw [aJ,e]
   exact rt [.d h0] [] [] hcx (by kernel_rfl)
def kV (a0:List (Int×Int)):Zt :=
 (bif (decide (((a0.length:Int):Int) > 10000)) then
  (0,0,4)
 else
  (bif (((zA a0):Int) != 0) then
   (0,0,(zA a0))
  else
   (aH (oA a0) (tN ((a0.length:Int) - 0)+1) (0,0,0))))
theorem aVa (a0:List (Int×Int))(l0:a0.length<=2^63-1):Con Tryz.prog 59 [(.s 0 0 a0.length 2)] [(.live false true (flat eW a0))] (.t (k3 (kV a0))) []:=by
 refine aY Tryz.func59 (by kernel_rfl) fun cx hcx=>?_
 cases h0:(decide (((a0.length:Int):Int) > 10000)) with
 | true =>
  have q0:=cJ h0
  have e:=Eq.refl (kV a0);conv at e=>rhs;simp only [kV,h0,aT]
  rw [e]
  exact rt [.d h0] [] [] hcx (by kernel_rfl)
 | false =>
  have q0:=cN h0
  let t1:List (St Tryz.prog):=[.d h0,.c [0] (aU9 a0 (by omega))]
  cases h1:(((zA a0):Int) != 0) with
  | true =>
   have q1:=bne_iff_ne.1 h1
   have e:=Eq.refl (kV a0);conv at e=>rhs;simp only [kV,h0,h1,aT]
   rw [e]
   exact rt (t1++[.d h1]) [] [] hcx (by kernel_rfl)
  | false =>
   have q1:=bne_eq_false_iff_eq.1 h1
   have e:=Eq.refl (kV a0);conv at e=>rhs;simp only [kV,h0,h1,aT]
   rw [e]
   refine en (t1++[.d h1]) [] [2,3,16,17,18] [] hcx aEd (aEe) (aBd a0 0 0 0) (tN ((a0.length:Int) - 0)+1) (by kernel_rfl) ?_
   exact aQ7 a0 l0 hcx (tN ((a0.length:Int) - 0)+1) 0 0 0 (by omega) (by omega)
def F58 (a0:Int)(a1:Int):(Int×Int)×Int :=
 (bif (!(F37 (a0,a1))) then
  ((0,0),4)
 else
  ((a0,a1),0))
theorem C58 (a0:Int)(a1:Int):Con Tryz.prog 58 [(iv a0),(iv a1)] [] (.t [(.a (k2 (F58 a0 a1).1)),(iv (F58 a0 a1).2)]) []:=by
 refine aY Tryz.func58 (by kernel_rfl) fun cx hcx=>?_
 let t0:List (St Tryz.prog):=[.c [] (C37 (a0,a1))]
 cases h0:(!(F37 (a0,a1))) with
 | true =>
  have e:=Eq.refl (F58 a0 a1);conv at e=>rhs;simp only [F58,h0,aT]
  rw [e]
  exact rt (t0++[.d h0]) [] [] hcx (by kernel_rfl)
 | false =>
  have e:=Eq.refl (F58 a0 a1);conv at e=>rhs;simp only [F58,h0,aT]
  rw [e]
  exact rt (t0++[.d h0]) [] [] hcx (by kernel_rfl)
def jG (a0:List (Int×Int)):(Int×Int)×Int :=
 (bif (((kV a0).2.2:Int) != 0) then
  ((0,0),(kV a0).2.2)
 else
  ((F58 (kV a0).1 (kV a0).2.1).1,(F58 (kV a0).1 (kV a0).2.1).2))
theorem aVb (a0:List (Int×Int))(l0:a0.length<=2^63-1):Con Tryz.prog 39 [(.s 0 0 a0.length 2)] [(.live false true (flat eW a0))] (.t [(.a (k2 (jG a0).1)),(iv (jG a0).2)]) []:=by
 refine aY Tryz.func39 (by kernel_rfl) fun cx hcx=>?_
 let t0:List (St Tryz.prog):=[.c [0] (aVa a0 (by omega))]
 cases h0:(((kV a0).2.2:Int) != 0) with
 | true =>
  have q0:=bne_iff_ne.1 h0
  have e:=Eq.refl (jG a0);conv at e=>rhs;simp only [jG,h0,aT]
  rw [e]
  exact rt (t0++[.d h0]) [] [] hcx (by kernel_rfl)
 | false =>
  have q0:=bne_eq_false_iff_eq.1 h0
  have e:=Eq.refl (jG a0);conv at e=>rhs;simp only [jG,h0,aT]
  rw [e]
  exact rt (t0++[.d h0,.c [] (C58 (kV a0).1 (kV a0).2.1)]) [] [] hcx (by kernel_rfl)
def pK (a0:Int×Int):Int :=
 (bif (!(F37 a0)) then
  1
 else
  0)
theorem aVc (a0:Int×Int):Con Tryz.prog 55 [(.s 0 0 1 2)] [(.live false false [(iv a0.1),(iv a0.2)])] (iv (pK a0)) []:=by
 refine aY Tryz.func55 (by kernel_rfl) fun cx hcx=>?_
 let t0:List (St Tryz.prog):=[.u 200,.T,.i 0 1 (by decide),.c [] (C37 a0)]
 cases h0:(!(F37 a0)) with
 | true =>
  have e:=Eq.refl (pK a0);conv at e=>rhs;simp only [pK,h0,aT]
  rw [e]
  exact rt (t0++[.d h0]) [] [] hcx (by kernel_rfl)
 | false =>
  have e:=Eq.refl (pK a0);conv at e=>rhs;simp only [pK,h0,aT]
  rw [e]
  exact rt (t0++[.d h0,.u 0,.F]) [] [] hcx (by kernel_rfl)
def rL (a0:Int)(a1:Int):Int :=
 (bif ((a0:Int) != 0) then
  (bif ((a1:Int) != 0) then
   (bif (decide (((if(a1:Int) < (W (0 - a1)) then(W (0 - a1)) else a1):Int) > (W (Int.tdiv 1099511627776 (if(a0:Int) < (W (0 - a0)) then(W (0 - a0)) else a0))))) then
    (bif (!((decide ((a0:Int) < 0)) == (decide ((a1:Int) < 0)))) then
     (-1099511627777)
    else
     1099511627777)
   else
    (W (a0*a1)))
  else
   (W (a0*a1)))
 else
  (W (a0*a1)))
theorem C57 (a0:Int)(a1:Int)(ha:-1099511627776<=a0/\a0<=1099511627776):Con Tryz.prog 57 [(iv a0),(iv a1)] [] (iv (rL a0 a1)) []:=by
 refine aY Tryz.func57 (by kernel_rfl) fun cx hcx=>?_
 cases h0:((a0:Int) != 0) with
 | true =>
  have q0:=bne_iff_ne.1 h0
  let t1:List (St Tryz.prog):=[.d h0]
  cases h1:((a1:Int) != 0) with
  | true =>
   have q1:=bne_iff_ne.1 h1
   let t2:List (St Tryz.prog):=(t1++[.d h1,.p (show((if(a0:Int) < (W (0 - a0)) then(W (0 - a0)) else a0):Int)≠0 from by(have hw:=aS (n:=0 - a0) (by omega) (by omega);rw [hw];split<;>omega))])
   cases h2:(decide (((if(a1:Int) < (W (0 - a1)) then(W (0 - a1)) else a1):Int) > (W (Int.tdiv 1099511627776 (if(a0:Int) < (W (0 - a0)) then(W (0 - a0)) else a0))))) with
   | true =>
    have q2:=cJ h2
    let t3:List (St Tryz.prog):=(t2++[.d h2])
    cases h3:(!((decide ((a0:Int) < 0)) == (decide ((a1:Int) < 0)))) with
    | true =>
     have e:=Eq.refl (rL a0 a1);conv at e=>rhs;simp only [rL,h0,h1,h2,h3,aT]
     rw [e]
     exact rt (t3++[.d h3]) [] [] hcx (by kernel_rfl)
    | false =>
     have e:=Eq.refl (rL a0 a1);conv at e=>rhs;simp only [rL,h0,h1,h2,h3,aT]
     rw [e]
     exact rt (t3++[.d h3]) [] [] hcx (by kernel_rfl)
   | false =>
    have q2:=cN h2
    have e:=Eq.refl (rL a0 a1);conv at e=>rhs;simp only [rL,h0,h1,h2,aT]
    rw [e]
    exact rt (t2++[.d h2]) [] [] hcx (by kernel_rfl)
  | false =>
   have q1:=bne_eq_false_iff_eq.1 h1
   have e:=Eq.refl (rL a0 a1);conv at e=>rhs;simp only [rL,h0,h1,aT]
   rw [e]
   exact rt (t1++[.d h1]) [] [] hcx (by kernel_rfl)
 | false =>
  have q0:=bne_eq_false_iff_eq.1 h0
  have e:=Eq.refl (rL a0 a1);conv at e=>rhs;simp only [rL,h0,aT]
  rw [e]
  exact rt [.d h0] [] [] hcx (by kernel_rfl)
def dC (x:(Zt×Zt×Zt)×Int):List SV:=[(iv x.1.1.1),(iv x.1.1.2.1),(iv x.1.1.2.2),(iv x.1.2.1.1),(iv x.1.2.1.2.1),(iv x.1.2.1.2.2),(iv x.1.2.2.1),(iv x.1.2.2.2.1),(iv x.1.2.2.2.2),(iv x.2)]
theorem eC (x:(Zt×Zt×Zt)×Int):(dC x).length=10:=rfl
def F48 (a0:Int)(a1:Int)(a2:Int):Bool :=
 (bif (decide ((a0:Int)≥a1)) then
  (decide ((a0:Int)<=a2))
 else
  false)
theorem C48 (a0:Int)(a1:Int)(a2:Int):Con Tryz.prog 48 [(iv a0),(iv a1),(iv a2)] [] (.v (.bool (F48 a0 a1 a2))) []:=by
 refine aY Tryz.func48 (by kernel_rfl) fun cx hcx=>?_
 cases h0:(decide ((a0:Int)≥a1)) with
 | true =>
  have q0:=cJ h0
  have e:=Eq.refl (F48 a0 a1 a2);conv at e=>rhs;simp only [F48,h0,aT]
  rw [e]
  exact rt [.d h0] [] [] hcx (by kernel_rfl)
 | false =>
  have q0:=cN h0
  have e:=Eq.refl (F48 a0 a1 a2);conv at e=>rhs;simp only [F48,h0,aT]
  rw [e]
  exact rt [.d h0] [] [] hcx (by kernel_rfl)
noncomputable def aEf:Code:=(aM [1,1,0,1] [] (aL Tryz.f29) []).1
noncomputable def aEg:List K:=(aM [1,1,0,1] [] (aL Tryz.f29) []).2
def aBe (a0:bO)(v1:Int):LS:=⟨gD 26 [(9,(.s 0 0 a0.length 10)),(10,(iv (a0.length:Int))),(11,(iv v1))],[(.live false true (flat dC a0))]⟩
def hH (a0:bO):Int->(Int)⊕(Int)
 | v1 =>
  (bif (decide ((v1:Int) < (a0.length:Int))) then
   (bif (((F47 (a0.getD (tN v1) dF).1):Int) != 0) then
    (.inr (F47 (a0.getD (tN v1) dF).1))
   else
    (bif (!(F48 (a0.getD (tN v1) dF).2 (-100) 100)) then
     (.inr 1)
    else
     (.inl (v1+1))))
  else
   (.inr 0))
theorem aQ8 (a0:bO)(l0:a0.length<=2^63-1) {cx:Cx} (hcx:cx.base=1):∀(n:Nat) (v1:Int),0<=v1->tN ((a0.length:Int) - v1) < n->Aw.Good Tryz.prog none 9 (bodyPost Tryz.prog Tryz.f29 (RR cx (iv (aH (hH a0) n v1)) [] [])) cx [] (.l aEf n::aEg) (aBe a0 v1):=by
 intro n
 induction n with
 | zero=>intro v1 hi hn;exact absurd hn (eI _)
 | succ n ih =>
  intro v1 hi hn
  refine aR ?_
  cases h0:(decide ((v1:Int) < (a0.length:Int))) with
  | true =>
   have q0:=cJ h0
   let t1:List (St Tryz.prog):=[.d h0,.i v1 (a0.length),.L eC a0 v1 0 10,.c [] (C47 (a0.getD (tN v1) dF).1)]
   cases h1:(((F47 (a0.getD (tN v1) dF).1):Int) != 0) with
   | true =>
    have q1:=bne_iff_ne.1 h1
    have e:=Eq.refl (hH a0 v1);conv at e=>rhs;simp only [hH,h0,h1,aT]
    rw [aJ,e]
    exact rt (t1++[.d h1]) [] [] hcx (by kernel_rfl)
   | false =>
    have q1:=bne_eq_false_iff_eq.1 h1
    let t2:List (St Tryz.prog):=(t1++[.d h1,.c [] (C48 (a0.getD (tN v1) dF).2 (-100) 100)])
    cases h2:(!(F48 (a0.getD (tN v1) dF).2 (-100) 100)) with
    | true =>
     have e:=Eq.refl (hH a0 v1);conv at e=>rhs;simp only [hH,h0,h1,h2,aT]
     rw [aJ,e]
     exact rt (t2++[.d h2]) [] [] hcx (by kernel_rfl)
    | false =>
     have e:=Eq.refl (hH a0 v1);conv at e=>rhs;simp only [hH,h0,h1,h2,aT]
     rw [aI e]
     refine ba (t2++[.d h2]) [] [9,10,11] [] hcx (m:=n) aEf (aEg) (aBe a0 (W (v1+1))) (by kernel_rfl) ?_
     have z0:(W (v1+1))=(v1+1):=aS (by omega) (by omega)
     rw [z0]
     exact ih (v1+1) (by omega) (by omega)
  | false =>
   have q0:=cN h0
   have e:=Eq.refl (hH a0 v1);conv at e=>rhs;simp only [hH,h0,aT]
   rw [aJ,e]
   exact rt [.d h0] [] [] hcx (by kernel_rfl)
def jD (a0:bO):Int :=
 (bif (decide (((a0.length:Int):Int) > 96)) then
  4
 else
  (aH (hH a0) (tN ((a0.length:Int) - 0)+1) 0))
theorem aOa (a0:bO)(l0:a0.length<=2^63-1):Con Tryz.prog 29 [(.s 0 0 a0.length 10)] [(.live false true (flat dC a0))] (iv (jD a0)) []:=by
 refine aY Tryz.func29 (by kernel_rfl) fun cx hcx=>?_
 cases h0:(decide (((a0.length:Int):Int) > 96)) with
 | true =>
  have q0:=cJ h0
  have e:=Eq.refl (jD a0);conv at e=>rhs;simp only [jD,h0,aT]
  rw [e]
  exact rt [.d h0] [] [] hcx (by kernel_rfl)
 | false =>
  have q0:=cN h0
  have e:=Eq.refl (jD a0);conv at e=>rhs;simp only [jD,h0,aT]
  rw [e]
  refine en [.d h0] [] [9,10,11] [] hcx aEf (aEg) (aBe a0 0) (tN ((a0.length:Int) - 0)+1) (by kernel_rfl) ?_
  exact aQ8 a0 l0 hcx (tN ((a0.length:Int) - 0)+1) 0 (by omega) (by omega)
end Go.Proofs.YtkdfcbmcgnaicaaGreat
