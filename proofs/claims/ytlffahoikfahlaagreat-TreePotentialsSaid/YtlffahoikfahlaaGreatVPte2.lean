/-
  Parts of the proofs of the laws: the executor, what functions of the program compute, and that it is what the statements ask. No premise.
-/
import Derived.Test.YtlffahoikfahlaaGreatVPte1
import Derived.Shelf.Abstract
import Derived.RangeFuncRecord
import Derived.RangeFuncSeq
import Derived.RangeFuncLeaves
set_option linter.unusedVariables false
set_option linter.unusedSimpArgs false
set_option maxHeartbeats 4000000
open Int renaming toNat → tN
open Inhabited renaming default → dF
open Go.IntKind renaming wrap → iW
open BitVec renaming ofInt → bO
open Int renaming tdiv → tD
open Int renaming fdiv → fD
open Int renaming tmod → mD
namespace Go.Aw
open Go.RowKit
def Fw (r:Option Nat):Fence:={ fn:=fun _=>True,depth:=none,alive:=false,round:=r }
theorem rE {r:Option Nat} {n:Nat} {P:Program} {f:FuncId} {args:Array Value} {w:World} {R:Ending->World->Prop}:CallsIn (Fw r) n P f args w R↔Calls P f args w R :=
 callsIn_wide
def FS.at' (s:FS):Nat⊕Nat->SV⊕BK | .inl t=>.inl (s.sl t) | .inr k=>.inr (s.bk k)
theorem FS.ext_at {s s':FS} (h:∀x,s.at' x=s'.at' x):s=s':=by
 cases s with | mk sl bk=>cases s' with | mk sl' bk' =>
 have h1:sl=sl':=funext fun t=>by have:=h (.inl t);simpa [FS.at'] using this
 have h2:bk=bk':=funext fun k=>by have:=h (.inr k);simpa [FS.at'] using this
 subst h1 h2;rfl
structure Conf (n:Nat) (A:Nat->FS->FS) (wr rd ard:Nat->Nat⊕Nat->Prop) (alt:Nat->Nat⊕Nat->SV⊕BK->Prop) (dep:Nat->Nat->Prop):Prop where
 out:∀i s x,¬wr i x->(A i s).at' x=s.at' x
 same:∀i s s' x,wr i x->(A i s).at' x=(A i s').at' x
 low:∀i j,dep i j->j < i
 free:∀i j,i < n->j < n->i≠j->dep i j\/dep j i\/((∀x,wr i x->¬wr j x/\¬rd j x)/\(∀x,wr j x->¬rd i x/\(ard i x->i < j/\∀s,alt i x ((A j s).at' x))))
section conf
variable {n : Nat} {A : Nat → FS → FS} {wr rd ard : Nat → Nat ⊕ Nat → Prop} {alt : Nat → Nat ⊕ Nat → SV ⊕ BK → Prop} {dep : Nat → Nat → Prop}
noncomputable def SD (A:Nat->FS->FS)(D:Nat->Bool)(s0:FS):Nat->FS | 0=>s0 | m+1=>if D m=true then A m (SD A D s0 m)else SD A D s0 m
theorem aW3 (i:Nat)(s0:FS):∀m,i<=m->SD A (fun j=>decide (j < i)) s0 m=SD A (fun _=>true) s0 i:=by
 intro m
 induction m with
 | zero =>
  intro h;obtain rfl:i=0:=by omega
  rfl
 | succ m ih =>
  intro h;by_cases hi:i=m+1
  ·subst hi;have:∀k,k<=m+1->SD A (fun j=>decide (j < m+1)) s0 k=SD A (fun _=>true) s0 k:=by
    intro k
    induction k with|zero=>intro _;rfl|succ k ihk=>?_
    intro hk;simp only [SD,ihk oM];simp [show k < m+1 by omega]
   exact this _ (Nat.le_refl _)
  ·simp only [SD];rw [if_neg (by simp;omega),ih oM]
theorem Conf.reads (c:Conf n A wr rd ard alt dep) {D:Nat->Bool} {s0:FS} {i:Nat} (hi:i < n)(hD:D i=false)(hcl:∀j k,j < n->D j=true->dep j k->D k=true)(hdep:∀k,dep i k->D k=true) {x:Nat⊕Nat} (hx:rd i x) :
 (SD A D s0 n).at' x=(SD A (fun _=>true) s0 i).at' x:=by
 rw [←aW3 i s0 n oM];have:∀m,m<=n->(SD A D s0 m).at' x=(SD A (fun j=>decide (j < i)) s0 m).at' x:=by
  intro m
  induction m with|zero=>intro _;rfl|succ m ih=>?_
  intro hm;have ih:=ih oM;simp only [SD];by_cases hw:wr m x
  ·by_cases hmi:m=i
   ·subst hmi;rw [if_neg (by simp [hD]),if_neg (by simp)];exact ih
   ·rcases c.free i m hi oM (Ne.symm hmi) with h | h | h
    ·have:=c.low i m h;rw [if_pos (hdep m h),if_pos (by simp [this])];exact c.same m _ _ x hw
    ·have:=c.low m i h;have hDm:D m=false:=by
      cases hDm:D m
      case false=>rfl
      have:=hcl m i oM hDm h;rw [hD] at this;cases this
     rw [if_neg (by simp [hDm]),if_neg (by simp;omega)];exact ih
    ·exact((h.2 x hw).1 hx).elim
  ·split<;>split<;>(try simp only [c.out m _ x hw])<;>exact ih
 exact this n (Nat.le_refl _)
theorem Conf.areads (c:Conf n A wr rd ard alt dep) {D:Nat->Bool} {s0:FS} {i:Nat} (hi:i < n)(hD:D i=false)(hcl:∀j k,j < n->D j=true->dep j k->D k=true)(hdep:∀k,dep i k->D k=true) {x:Nat⊕Nat} (hx:ard i x) :
 (SD A D s0 n).at' x=(SD A (fun _=>true) s0 i).at' x\/alt i x ((SD A D s0 n).at' x):=by
 rw [←aW3 i s0 n oM];have:∀m,m<=n->(SD A D s0 m).at' x=(SD A (fun j=>decide (j < i)) s0 m).at' x\/(i < m/\alt i x ((SD A D s0 m).at' x)):=by
  intro m
  induction m with|zero=>intro _;exact .inl rfl|succ m ih=>?_
  intro hm;have ih:=ih oM;simp only [SD];by_cases hw:wr m x
  ·by_cases hmi:m=i
   ·subst hmi;rw [if_neg (by simp [hD]),if_neg (by simp)];rcases ih with h | ⟨h,_⟩
    ·exact .inl h
    ·omega
   ·rcases c.free i m hi oM (Ne.symm hmi) with h | h | h
    ·have hlt:=c.low i m h;rw [if_pos (hdep m h),if_pos (by simp [hlt])];exact .inl (c.same m _ _ x hw)
    ·have hlt:=c.low m i h;have hDm:D m=false:=by
      cases hDm:D m
      case false=>rfl
      have:=hcl m i oM hDm h;rw [hD] at this;cases this
     rw [if_neg (by simp [hDm]),if_neg (by simp;omega)];exact ih.imp id (fun h=>⟨by omega,h.2⟩)
    ·obtain⟨hlt,ha⟩:=(h.2 x hw).2 hx;cases hDm:D m
     case false=>rw [if_neg (by simp),if_neg (by simp;omega)];exact ih.imp id (fun h=>⟨by omega,h.2⟩)
     rw [if_pos rfl];exact .inr ⟨by omega,ha _⟩
  ·have e:∀s:FS,(A m s).at' x=s.at' x:=fun s=>c.out m s x hw
   rcases ih with h | ⟨h,h'⟩
   ·left;split<;>split<;>(try simp only [e])<;>exact h
   ·right;refine⟨by omega,?_⟩;split<;>(try simp only [e])<;>exact h'
 rcases this n (Nat.le_refl _) with h | ⟨_,h⟩
 ·exact .inl h
 ·exact .inr h
theorem Conf.add (c:Conf n A wr rd ard alt dep) {D D':Nat->Bool} {s0:FS} {i:Nat} (hi:i < n)(hD:D i=false)(hD':∀j,D' j=(D j || decide (j=i)))(hcl:∀j k,j < n->D j=true->dep j k->D k=true)(hlo:∀j,D j=true->j < n) :
 SD A D' s0 n=A i (SD A D s0 n):=by
 refine FS.ext_at fun x=>?_
 have e1:∀m,m<=i->SD A D' s0 m=SD A D s0 m:=by
  intro m
  induction m with|zero=>intro _;rfl|succ m ih=>?_
  intro hm;simp only [SD,hD',ih oM];simp [show m≠i by omega]
 have e2:∀m,i < m->m<=n->(SD A D' s0 m).at' x=(A i (SD A D s0 m)).at' x:=by
  intro m
  induction m with|zero=>intro h;omega|succ m ih=>?_
  intro h hm;by_cases hmi:m=i
  ·subst hmi;simp only [SD,hD',hD];simp [e1 m (Nat.le_refl _)]
  ·have ih:=ih oM oM;simp only [SD,hD'];have:decide (m=i)=false:=by simp [hmi]
   rw [this,Bool.or_false];cases hDm:D m
   case false=>simpa using ih
   simp only [if_true];have hno:∀x,wr i x->¬wr m x:=by
    rcases c.free i m hi oM (Ne.symm hmi) with h' | h' | h'
    ·have:=c.low i m h';omega
    ·have:=hcl m i oM hDm h';rw [hD] at this;cases this
    ·exact fun x hx=>(h'.1 x hx).1
   by_cases hwm:wr m x
   ·have hwi:¬wr i x:=fun h=>hno x h hwm
    rw [c.out i _ x hwi];exact c.same m _ _ x hwm
   ·rw [c.out m _ x hwm,ih];by_cases hwi:wr i x
    ·exact c.same i _ _ x hwi
    ·rw [c.out i _ x hwi,c.out i _ x hwi,c.out m _ x hwm]
 exact e2 n hi (Nat.le_refl _)
end conf
structure Ev where
 eff:Eff
 rs:List Nat
 rb:List Nat
 alt:List (Nat×BK):=[]
section region
variable {P : Program} {w0 : Cx} {N : Nat} {D : List Deferred} {r : Option Nat} {n : Nat} {ops : Array Oper} {Q : Exit → Act → World → Prop}
def jT (ops:Array Oper)(i:Nat):Option Nat:=(ops[i]?).bind (·.dst)
def xK (P:Program)(r:Option Nat)(n:Nat)(w0:Cx)(N:Nat)(D:List Deferred)(ops:Array Oper)(i:Nat)(s:FS)(v:Ev):Prop := ∀(s':FS),(∀t∈v.rs,s'.sl t=s.sl t)->(∀k∈v.rb,s'.bk k=s.bk k\/(k,s'.bk k)∈v.alt)->∀(ρ:Env) (a:Act) (W:World) (Q:Exit->Act->World->Prop) (K:Act->World->Prop),Rep w0 N D ρ s' a W -> (∀ρ' a' W',Rep w0 N D ρ' (s'.app (jT ops i) v.eff) a' W'->K a' W')->wpOpIn (Fw r) n P ops Q i K a W
def fG (ops:Array Oper)(evs:List Ev)(i:Nat)(s:FS):FS :=
 match evs[i]? with
 | some v=>s.app (jT ops i) v.eff
 | none=>s
theorem aI8 {evs:List Ev} (hlen:evs.length=ops.size) {s0:FS}
 (hloc:∀i v,evs[i]? = some v->xK P r n w0 N D ops i (SD (fG ops evs) (fun _=>true) s0 i) v)
 {ρ:Env} {a:Act} {W:World} (hrep:Rep w0 N D ρ s0 a W)
 (hQ:∀ρ' a' W',Rep w0 N D ρ' (SD (fG ops evs) (fun _=>true) s0 ops.size) a' W'->Q .normal a' W') {id:Nat} :
 (Code.region id ops false).wpIn (Fw r) n P Q a W:=by
 refine wpIn_region ?_;have key:∀m i,i+m=ops.size->∀ρ a W,Rep w0 N D ρ (SD (fG ops evs) (fun _=>true) s0 i) a W->wpOpsIn (Fw r) n P ops Q (List.range' i m) a W:=by
  intro m
  induction m with
  | zero =>
   intro i hi ρ a W h;obtain rfl:i=ops.size:=by omega
   show wpOpsIn (Fw r) n P ops Q [] a W;simp only [wpOpsIn];exact hQ ρ a W h
  | succ m ih =>
   intro i hi ρ a W h;rw [List.range'_succ,wpOpsIn_cons];have hlt:i < evs.length:=by omega
   refine hloc i evs[i] (by simp [hlt]) _ (fun _ _=>rfl) (fun _ _=>.inl rfl) ρ a W Q _ h (fun ρ' a' W' h'=>ih (i+1) oM ρ' a' W' ?_);simp only [SD,if_true,fG];rw [List.getElem?_eq_getElem hlt];exact h'
 have:=key ops.size 0 oM ρ a W hrep
 rwa [List.range_eq_range']
theorem aFy {p q:Nat->Bool} (hpq:∀j,q j=true->p j=true) {i:Nat} (hi:p i=true)(hn:q i=false):∀(l:List Nat),i∈l->(l.filter q).length < (l.filter p).length
 | x::l,h=>by
  have hle:∀l:List Nat,(l.filter q).length<=(l.filter p).length:=by
   intro l
   induction l with
   | nil=>simp
   | cons y l ih =>
    simp only [List.filter_cons];by_cases hq:q y=true
    ·simp [hq,hpq y hq,ih]
    ·simp only [hq,Bool.false_eq_true,if_false];split<;>(try simp)<;>omega
  by_cases hx:x=i
  ·subst hx;simp only [List.filter_cons,hi,hn,if_true,Bool.false_eq_true,if_false,List.length_cons];have:=hle l;omega
  ·have hm:i∈l:=by
    rcases List.mem_cons.1 h with h | h
    ·exact(hx h.symm).elim
    ·exact h
   have ih:=aFy hpq hi hn l hm;simp only [List.filter_cons];by_cases hq:q x=true
   ·simp [hq,hpq x hq,ih]
   ·simp only [hq,Bool.false_eq_true,if_false];split<;>(try simp)<;>omega
theorem aLp {evs:List Ev} (hlen:evs.length=ops.size) {s0:FS} (hm:P.follows .mixedOrders=true)
 {wr rd ard:Nat->Nat⊕Nat->Prop} {alt:Nat->Nat⊕Nat->SV⊕BK->Prop} {dep:Nat->Nat->Prop} (c:Conf ops.size (fG ops evs) wr rd ard alt dep)
 (hrs:∀i v t,evs[i]? = some v->t∈v.rs->rd i (.inl t)) (hrb:∀i v k,evs[i]? = some v->k∈v.rb->rd i (.inr k)\/(ard i (.inr k)/\∀y,alt i (.inr k) y->∃b,y=.inr b/\(k,b)∈v.alt))
 (hlow:∀i o,ops[i]? = some o->∀e∈o.after,Region.binds .any e=true->e.on < i)
 (hdep:∀(D:Nat->Bool) i o,ops[i]? = some o->(∀j o,ops[j]? = some o->D j=true->∀e∈o.after,Region.binds .any e=true->D e.on=true)->(∀e∈o.after,Region.binds .any e=true->D e.on=true)->∀k,dep i k->D k=true)
 (hloc:∀i v,evs[i]? = some v->xK P r n w0 N D ops i (SD (fG ops evs) (fun _=>true) s0 i) v)
 {ρ:Env} {a:Act} {W:World} (hrep:Rep w0 N D ρ s0 a W)
 (hQ:∀ρ' a' W',Rep w0 N D ρ' (SD (fG ops evs) (fun _=>true) s0 ops.size) a' W'->Q .normal a' W') {id:Nat} :
 (Code.region id ops true).wpIn (Fw r) n P Q a W:=by
 refine wpIn_region_any hm ?_;have hrep':Rep w0 N D ρ s0 a { W with drawn:=W.drawn+1 }:=hrep.grow ⟨rfl,rfl,rfl,Nat.le_refl _,fun _ _=>rfl⟩ (Nat.le_succ _);have key:∀fuel (listed:Array Bool),listed.size=ops.size->((List.range ops.size).filter fun j=>!listed.getD j false).length<=fuel ->
  (∀j o,ops[j]? = some o->listed.getD j false=true->∀e∈o.after,Region.binds .any e=true->listed.getD e.on false=true) ->
  ∀ρ a W,Rep w0 N D ρ (SD (fG ops evs) (fun j=>listed.getD j false) s0 ops.size) a W->wpAnyIn (Fw r) n P .any ops Q fuel listed a W:=by
  intro fuel
  induction fuel with
  | zero =>
   intro listed hsz hfew hcl ρ a W h;have hall:∀j,j < ops.size->listed.getD j false=true:=fun j hj=>by
    have h0:(List.range ops.size).filter (fun j=>!listed.getD j false)=[]:=List.length_eq_zero_iff.1 oM;have:=(List.filter_eq_nil_iff.1 h0) j (by simp [hj]);simpa using this
   have hS:SD (fG ops evs) (fun j=>listed.getD j false) s0 ops.size=SD (fG ops evs) (fun _=>true) s0 ops.size:=by
    have:∀m,m<=ops.size->SD (fG ops evs) (fun j=>listed.getD j false) s0 m=SD (fG ops evs) (fun _=>true) s0 m:=by
     intro m
     induction m with|zero=>intro _;rfl|succ m ihm=>?_
     intro hm';simp only [SD,ihm oM,hall m oM]
    exact this _ (Nat.le_refl _)
   simp only [wpAnyIn];refine⟨?_,hQ ρ a W (hS▸h)⟩;rw [List.eq_nil_iff_forall_not_mem];intro j hj;obtain⟨h1,o,ho,_⟩:=mem_ready.1 hj;have hjs:=(Array.getElem?_eq_some_iff.1 ho).1;have:=hall j hjs;have hjl:j < listed.size:=by omega
   simp only [Array.getD_eq_getD_getElem?,Array.getElem?_eq_getElem hjl,Option.getD_some] at h1 this;rw [this] at h1;cases h1
  | succ fuel ih =>
   intro listed hsz hfew hcl ρ a W h;refine⟨fun hnil=>?_,fun i hi=>?_⟩
   ·-- nothing may come up: all have come up
    have hall:∀j,j < ops.size->listed.getD j false=true:=by
     intro j
     induction j using Nat.strongRecOn with
     | ind j ihj =>
      intro hj;cases hlj:listed.getD j false
      case true=>rfl
      exfalso;have ho:ops[j]? = some ops[j]:=by simp [hj]
      have:j∈Region.ready .any ops listed:=by
       refine mem_ready.2 ⟨?_,ops[j],ho,fun e he hb=>ihj e.on (hlow j _ ho e he hb) (by have:=hlow j _ ho e he hb;omega)⟩;have hjl:j < listed.size:=by omega
       simp only [Array.getD_eq_getD_getElem?,Array.getElem?_eq_getElem hjl,Option.getD_some] at hlj ⊢;exact hlj
      rw [hnil] at this;cases this
    have hS:SD (fG ops evs) (fun j=>listed.getD j false) s0 ops.size=SD (fG ops evs) (fun _=>true) s0 ops.size:=by
     have:∀m,m<=ops.size->SD (fG ops evs) (fun j=>listed.getD j false) s0 m=SD (fG ops evs) (fun _=>true) s0 m:=by
      intro m
      induction m with|zero=>intro _;rfl|succ m ihm=>?_
      intro hm';simp only [SD,ihm oM,hall m oM]
     exact this _ (Nat.le_refl _)
    exact hQ ρ a W (hS▸h)
   ·obtain⟨h1,o,ho,hall⟩:=mem_ready.1 hi;have his:=(Array.getElem?_eq_some_iff.1 ho).1;have hil:i < listed.size:=by omega
    have hDi:listed.getD i false=false:=by
     simp only [Array.getD_eq_getD_getElem?,Array.getElem?_eq_getElem hil,Option.getD_some] at h1 ⊢;exact h1
    have hie:i < evs.length:=by omega
    have hev:evs[i]? = some evs[i]:=by simp [hie]
    have hD':∀j,(listed.setIfInBounds i true).getD j false=(listed.getD j false || decide (j=i)):=fun j=>by
     by_cases hj:j=i
     ·subst hj;simp [hil]
     ·rw [getD_set_ne false (Ne.symm hj)];simp [hj]
    have hclo:∀j k,j < ops.size->listed.getD j false=true->dep j k->listed.getD k false=true:=fun j k hj hDj hd =>
     hdep (fun j=>listed.getD j false) j ops[j] (by simp [hj]) hcl (hcl j _ (by simp [hj]) hDj) k hd
    have hcond:∀k,dep i k->listed.getD k false=true:=fun k hk=>hdep (fun j=>listed.getD j false) i o ho hcl hall k hk
    have hlo:∀j,listed.getD j false=true->j < ops.size:=fun j hj=>by
     rcases Nat.lt_or_ge j listed.size with h' | h'
     ·omega
     ·simp [Array.getElem?_eq_none h'] at hj
    refine hloc i evs[i] hev (SD (fG ops evs) (fun j=>listed.getD j false) s0 ops.size) (fun t ht=>?_) (fun k hk=>?_) ρ a W Q _ h (fun ρ' a' W' h'=>?_)
    ·have:=c.reads (s0:=s0) his hDi hclo hcond (hrs i _ t hev ht);simpa [FS.at'] using this
    ·rcases hrb i _ k hev hk with h5 | ⟨h5,h6⟩
     ·have:=c.reads (s0:=s0) his hDi hclo hcond h5;exact .inl (by simpa [FS.at'] using this)
     ·rcases c.areads (s0:=s0) his hDi hclo hcond h5 with h7 | h7
      ·exact .inl (by simpa [FS.at'] using h7)
      ·obtain⟨b,e,hb⟩:=h6 _ h7;have e':(SD (fG ops evs) (fun j=>listed.getD j false) s0 ops.size).bk k=b:=by simpa [FS.at'] using e
       exact .inr (by rw [e'];exact hb)
    ·refine ih (listed.setIfInBounds i true) (by simp [hsz]) ?_ (fun j o' ho' hj e he hb=>?_) ρ' a' W' ?_
     ·have:=aFy (p:=fun j=>!listed.getD j false) (q:=fun j=>!(listed.setIfInBounds i true).getD j false) (i:=i) (fun j hj=>by
       rw [hD'] at hj;simp at hj ⊢;exact hj.1) (by simp only [hDi];rfl) (by rw [hD'];simp) (List.range ops.size) (by simp [his])
      omega
     ·rw [hD'] at hj ⊢;by_cases hji:j=i
      ·subst hji;rw [ho] at ho';cases ho';simp [hall e he hb]
      ·simp only [hji,decide_false,Bool.or_false] at hj;simp [hcl j o' ho' hj e he hb]
     ·have hadd:=c.add (s0:=s0) his hDi hD' hclo hlo;rw [hadd];simp only [fG,hev];exact h'
 have h0:∀j,(Array.replicate ops.size false).getD j false=false:=fun j=>by
  rcases Nat.lt_or_ge j ops.size with h' | h'
  ·simp [h']
  ·simp [Array.getElem?_eq_none (xs:=Array.replicate ops.size false) (by simpa using h')]
 refine key ops.size (Array.replicate ops.size false) (by simp) (Nat.le_trans (List.length_filter_le _ _) (by simp)) (fun j o _ hj=>by rw [h0] at hj;cases hj) ρ a _ ?_;have:SD (fG ops evs) (fun j=>(Array.replicate ops.size false).getD j false) s0 ops.size=s0:=by
  have:∀m,SD (fG ops evs) (fun j=>(Array.replicate ops.size false).getD j false) s0 m=s0:=by
   intro m
   induction m with|zero=>rfl|succ m ihm=>?_
   have hm0:=h0 m;simp only [SD];exact(if_neg (by rw [hm0];simp)).trans ihm
  exact this _
 rw [this];exact hrep'
end region
end Go.Aw
namespace Go.Aw
open Go.RowKit
structure LS where
 sl:List SV
 bk:List BK
def LS.fs (s:LS):FS:=⟨fun t=>s.sl.getD t .u,fun k=>s.bk.getD k .un⟩
def aLq (l:List BK):List (Nat×BK)->Option (List BK) | []=>some l | (k,x)::us=>if k < l.length then aLq (l.set k x) us else if k=l.length then aLq (l++[x]) us else none
def LS.app (s:LS)(dst:Option Nat)(e:Eff):Option LS :=
 match aLq s.bk e.ups with
 | none=>none
 | some bk =>
  match dst with
  | none=>some { s with bk:=bk }
  | some d=>if d < s.sl.length then some { sl:=s.sl.set d e.val,bk:=bk } else none
theorem aGu:∀(us:List (Nat×BK)) (l l':List BK),aLq l us=some l'->(fun k=>l'.getD k .un)=cN (fun k=>l.getD k .un) us
 | [],l,l',h=>by simp only [aLq,bG] at h;subst h;rfl
 | (k,x)::us,l,l',h=>by
  simp only [aLq] at h;simp only [cN];split at h
  ·rename_i hk;rw [aGu us _ l' h];congr 1
   funext j
   simp only [gS,List.getElem?_set];by_cases hj:j=k
   ·subst hj;simp [hk]
   ·rw [if_neg (fun e=>hj e.symm),if_neg hj]
  ·split at h
   ·rename_i hk;rw [aGu us _ l' h];congr 1
    funext j
    simp only [gS];by_cases hj:j=k
    ·subst hj;simp [hk]
    ·rw [if_neg hj];by_cases hlt:j < l.length
     ·rw [List.getElem?_append_left hlt]
     ·rw [List.getElem?_eq_none (by simp;omega),List.getElem?_eq_none oM]
   ·cases h
theorem aLr {s s':LS} {dst:Option Nat} {e:Eff} (h:s.app dst e=some s'):s'.fs=s.fs.app dst e/\(∀d,dst=some d->d < s.sl.length)/\s'.sl.length=s.sl.length:=by
 unfold LS.app at h;split at h
 ·cases h
 ·rename_i bk hbk;have hb:=aGu _ _ _ hbk;cases dst with
  | none =>
   simp only [bG] at h;subst h;refine⟨?_,by simp,rfl⟩;simp only [LS.fs,FS.app,hb]
  | some d =>
   simp only at h;split at h
   ·rename_i hd;simp only [bG] at h;subst h;refine⟨?_,fun d' hd'=>by cases hd';exact hd,by simp⟩;simp only [LS.fs,FS.app,hb];congr 1
    funext t
    simp only [gS,List.getElem?_set];by_cases ht:t=d
    ·subst ht;simp [hd]
    ·rw [if_neg (fun e=>ht e.symm),if_neg ht]
   ·cases h
def aAs (k:Nat):List Nat->Option Nat
 | []=>none
 | j::l=>if j=k then some 0 else match aAs k l with
  | some i=>some (i+1)
  | none=>none
mutual
def ren (ks:List Nat):SV->Option SV
 | .u=>some .u
 | .b x=>some (.v (.bool x))
 | .v x=>some (.v x)
 | .p k off=>match aAs k ks with
  | some i=>some (.p i off)
  | none=>none
 | .s k off len es=>match aAs k ks with
  | some i=>some (.s i off len es)
  | none=>none
 | .d cells len es=>some (.d cells len es)
 | .m k=>match aAs k ks with
  | some i=>some (.m i)
  | none=>none
 | .f g caps=>match renL ks caps with
  | some l=>some (.f g l)
  | none=>none
 | .a l=>match renL ks l with
  | some l=>some (.a l)
  | none=>none
 | .t l=>match renL ks l with
  | some l=>some (.t l)
  | none=>none
def renL (ks:List Nat):List SV->Option (List SV)
 | []=>some []
 | x::l=>match ren ks x,renL ks l with
  | some y,some m=>some (y::m)
  | _,_=>none
end
mutual
def back (ks:List Nat)(nn fr:Nat):SV->Option SV
 | .u=>some .u
 | .b x=>some (.b x)
 | .v x=>some (.v x)
 | .p k off=>match ks[k]? with
  | some j=>some (.p j off)
  | none=>if k - ks.length < nn then some (.p (fr+(k - ks.length)) off) else none
 | .s k off len es=>match ks[k]? with
  | some j=>some (.s j off len es)
  | none=>if k - ks.length < nn then some (.s (fr+(k - ks.length)) off len es) else none
 | .d cells len es=>some (.d cells len es)
 | .m k=>match ks[k]? with
  | some j=>some (.m j)
  | none=>if k - ks.length < nn then some (.m (fr+(k - ks.length))) else none
 | .f g caps=>match backL ks nn fr caps with
  | some l=>some (.f g l)
  | none=>none
 | .a l=>match backL ks nn fr l with
  | some l=>some (.a l)
  | none=>none
 | .t l=>match backL ks nn fr l with
  | some l=>some (.t l)
  | none=>none
def backL (ks:List Nat)(nn fr:Nat):List SV->Option (List SV)
 | []=>some []
 | x::l=>match back ks nn fr x,backL ks nn fr l with
  | some y,some m=>some (y::m)
  | _,_=>none
end
theorem nY {k:Nat}:∀{ks:List Nat} {i:Nat},aAs k ks=some i->ks[i]? = some k
 | [],_,h=>by simp [aAs] at h
 | j::l,i,h=>by
  simp only [aAs] at h;split at h
  ·rename_i hj;simp only [bG] at h;subst h;simp [hj]
  ·split at h
   ·rename_i i' hi';simp only [bG] at h;subst h;simpa using nY hi'
   ·cases h
def iX (ρ:Env)(ks:List Nat):Env:=⟨fun i=>match ks[i]? with
 | some k=>ρ k
 | none=>none,ρ.fz⟩
theorem zO {ρ:Env} {ks:List Nat} {k i:Nat} (h:aAs k ks=some i):iX ρ ks i=ρ k:=by
 unfold iX;simp only [Env.mk_loc];rw [nY h]
theorem qI (ρ:Env)(ks:List Nat):ρ.le (iX ρ ks):=fun _ _ h=>h
theorem dE {ρ:Env} {ks:List Nat} {i k:Nat} (h:ks[i]? = some k):iX ρ ks i=ρ k:=by unfold iX;simp only [Env.mk_loc,h]
@[simp] theorem bA4 (ρ:Env) (ks:List Nat):(iX ρ ks).fz=ρ.fz:=rfl
mutual
theorem xL {ρ:Env} {ks:List Nat}:∀(x y:SV) (v:Value),ren ks x=some y->Rel ρ x v->Rel (iX ρ ks) y v
 | .u,y,v,h,hr=>by simp only [ren,bG] at h;subst h;simp [Rel]
 | .b x,y,v,h,hr=>by simp only [ren,bG] at h;subst h;simpa [Rel] using hr
 | .v x,y,v,h,hr=>by simp only [ren,bG] at h;subst h;simpa [Rel] using hr
 | .p k off,y,v,h,hr=>by
  simp only [ren] at h;split at h
  ·rename_i i hi;simp only [bG] at h;subst h;simp only [Rel] at hr ⊢;rw [zO hi];exact hr
  ·cases h
 | .s k off len es,y,v,h,hr=>by
  simp only [ren] at h;split at h
  ·rename_i i hi;simp only [bG] at h;subst h;simp only [Rel] at hr ⊢;rw [zO hi];exact hr
  ·cases h
 | .d cells len es,y,v,h,hr=>by simp only [ren,bG] at h;subst h;simp only [Rel] at hr ⊢;exact hr
 | .m k,y,v,h,hr=>by
  simp only [ren] at h;split at h
  ·rename_i i hi;simp only [bG] at h;subst h;simp only [Rel] at hr ⊢;rw [zO hi];exact hr
  ·cases h
 | .f g caps,y,v,h,hr=>by
  simp only [ren] at h;split at h
  ·rename_i l hl;simp only [bG] at h;subst h;simp only [Rel] at hr ⊢;obtain⟨vs,hv,hr⟩:=hr;exact⟨vs,hv,renL_rel caps l vs hl hr⟩
  ·cases h
 | .a l',y,v,h,hr=>by
  simp only [ren] at h;split at h
  ·rename_i l hl;simp only [bG] at h;subst h;simp only [Rel] at hr ⊢;obtain⟨vs,hv,hr⟩:=hr;exact⟨vs,hv,renL_rel l' l vs hl hr⟩
  ·cases h
 | .t l',y,v,h,hr=>by
  simp only [ren] at h;split at h
  ·rename_i l hl;simp only [bG] at h;subst h;simp only [Rel] at hr ⊢;obtain⟨vs,hv,hr⟩:=hr;exact⟨vs,hv,renL_rel l' l vs hl hr⟩
  ·cases h
theorem renL_rel {ρ:Env} {ks:List Nat}:∀(l m:List SV) (vs:List Value),renL ks l=some m->Rels ρ l vs->Rels (iX ρ ks) m vs
 | [],m,vs,h,hr=>by simp only [renL,bG] at h;subst h;cases vs<;>simp [Rels] at hr ⊢
 | x::l,m,vs,h,hr=>by
  simp only [renL] at h;split at h
  ·rename_i y m' hy hm;simp only [bG] at h;subst h;cases vs with
   | nil=>simp [Rels] at hr
   | cons v vs =>
    simp only [Rels] at hr ⊢;exact⟨xL x y v hy hr.1,renL_rel l m' vs hm hr.2⟩
  ·cases h
end
mutual
theorem aI9 {ρc ρ':Env} {ks:List Nat} {nn fr:Nat} (h0:ρc.le ρ')(h1:∀i k,ks[i]? = some k->ρ' k=ρc i)(h2:∀j,j < nn->ρ' (fr+j)=ρc (ks.length+j)) :
 ∀(x y:SV) (v:Value),back ks nn fr x=some y->Rel ρc x v->Rel ρ' y v
 | .u,y,v,h,hr=>by simp only [back,bG] at h;subst h;simp [Rel]
 | .b x,y,v,h,hr=>by simp only [back,bG] at h;subst h;simpa [Rel] using hr
 | .v x,y,v,h,hr=>by simp only [back,bG] at h;subst h;simpa [Rel] using hr
 | .p k off,y,v,h,hr=>by
  simp only [back] at h;split at h
  ·rename_i j hj;simp only [bG] at h;subst h;simp only [Rel] at hr ⊢;rw [h1 k j hj];exact hr
  ·rename_i hn;split at h
   ·rename_i hlt;simp only [bG] at h;subst h;have hle:ks.length<=k:=by simpa using hn
    simp only [Rel] at hr ⊢;rw [h2 _ hlt,Nat.add_sub_cancel' hle];exact hr
   ·cases h
 | .s k off len es,y,v,h,hr=>by
  simp only [back] at h;split at h
  ·rename_i j hj;simp only [bG] at h;subst h;simp only [Rel] at hr ⊢;rw [h1 k j hj];exact hr
  ·rename_i hn;split at h
   ·rename_i hlt;simp only [bG] at h;subst h;have hle:ks.length<=k:=by simpa using hn
    simp only [Rel] at hr ⊢;rw [h2 _ hlt,Nat.add_sub_cancel' hle];exact hr
   ·cases h
 | .d cells len es,y,v,h,hr=>by
  simp only [back,bG] at h;subst h;exact Rel.congr h0 _ _ (fun k hk=>by simp [SV.has] at hk) hr
 | .m k,y,v,h,hr=>by
  simp only [back] at h;split at h
  ·rename_i j hj;simp only [bG] at h;subst h;simp only [Rel] at hr ⊢;rw [h1 k j hj];exact hr
  ·rename_i hn;split at h
   ·rename_i hlt;simp only [bG] at h;subst h;have hle:ks.length<=k:=by simpa using hn
    simp only [Rel] at hr ⊢;rw [h2 _ hlt,Nat.add_sub_cancel' hle];exact hr
   ·cases h
 | .f g caps,y,v,h,hr=>by
  simp only [back] at h;split at h
  ·rename_i l hl;simp only [bG] at h;subst h;simp only [Rel] at hr ⊢;obtain⟨vs,hv,hr⟩:=hr;exact⟨vs,hv,backL_rel h0 h1 h2 caps l vs hl hr⟩
  ·cases h
 | .a l',y,v,h,hr=>by
  simp only [back] at h;split at h
  ·rename_i l hl;simp only [bG] at h;subst h;simp only [Rel] at hr ⊢;obtain⟨vs,hv,hr⟩:=hr;exact⟨vs,hv,backL_rel h0 h1 h2 l' l vs hl hr⟩
  ·cases h
 | .t l',y,v,h,hr=>by
  simp only [back] at h;split at h
  ·rename_i l hl;simp only [bG] at h;subst h;simp only [Rel] at hr ⊢;obtain⟨vs,hv,hr⟩:=hr;exact⟨vs,hv,backL_rel h0 h1 h2 l' l vs hl hr⟩
  ·cases h
theorem backL_rel {ρc ρ':Env} {ks:List Nat} {nn fr:Nat} (h0:ρc.le ρ')(h1:∀i k,ks[i]? = some k->ρ' k=ρc i)(h2:∀j,j < nn->ρ' (fr+j)=ρc (ks.length+j)) :
 ∀(l m:List SV) (vs:List Value),backL ks nn fr l=some m->Rels ρc l vs->Rels ρ' m vs
 | [],m,vs,h,hr=>by simp only [backL,bG] at h;subst h;cases vs<;>simp [Rels] at hr ⊢
 | x::l,m,vs,h,hr=>by
  simp only [backL] at h;split at h
  ·rename_i y m' hy hm;simp only [bG] at h;subst h;cases vs with
   | nil=>simp [Rels] at hr
   | cons v vs =>
    simp only [Rels] at hr ⊢;exact⟨aI9 h0 h1 h2 x y v hy hr.1,backL_rel h0 h1 h2 l m' vs hm hr.2⟩
  ·cases h
end
mutual
theorem aJa {ks:List Nat} {nn fr k:Nat}:∀(x y:SV),back ks nn fr x=some y->y.has k->k∈ks\/(fr<=k/\k < fr+nn)
 | .u,y,h,hk=>by simp only [back,bG] at h;subst h;simp [SV.has] at hk
 | .b x,y,h,hk=>by simp only [back,bG] at h;subst h;simp [SV.has] at hk
 | .v x,y,h,hk=>by simp only [back,bG] at h;subst h;simp [SV.has] at hk
 | .p j off,y,h,hk=>by
  simp only [back] at h;split at h
  ·rename_i j' hj;simp only [bG] at h;subst h;simp only [SV.has] at hk;subst hk;exact .inl (List.mem_of_getElem? hj)
  ·split at h
   ·rename_i hlt;simp only [bG] at h;subst h;simp only [SV.has] at hk;exact .inr ⟨by omega,by omega⟩
   ·cases h
 | .s j off len es,y,h,hk=>by
  simp only [back] at h;split at h
  ·rename_i j' hj;simp only [bG] at h;subst h;simp only [SV.has] at hk;subst hk;exact .inl (List.mem_of_getElem? hj)
  ·split at h
   ·rename_i hlt;simp only [bG] at h;subst h;simp only [SV.has] at hk;exact .inr ⟨by omega,by omega⟩
   ·cases h
 | .d cells len es,y,h,hk=>by simp only [back,bG] at h;subst h;simp [SV.has] at hk
 | .m j,y,h,hk=>by
  simp only [back] at h;split at h
  ·rename_i j' hj;simp only [bG] at h;subst h;simp only [SV.has] at hk;subst hk;exact .inl (List.mem_of_getElem? hj)
  ·split at h
   ·rename_i hlt;simp only [bG] at h;subst h;simp only [SV.has] at hk;exact .inr ⟨by omega,by omega⟩
   ·cases h
 | .f g caps,y,h,hk=>by
  simp only [back] at h;split at h
  ·rename_i l hl;simp only [bG] at h;subst h;exact backL_has caps l hl (by simpa [SV.has] using hk)
  ·cases h
 | .a l',y,h,hk=>by
  simp only [back] at h;split at h
  ·rename_i l hl;simp only [bG] at h;subst h;exact backL_has l' l hl (by simpa [SV.has] using hk)
  ·cases h
 | .t l',y,h,hk=>by
  simp only [back] at h;split at h
  ·rename_i l hl;simp only [bG] at h;subst h;exact backL_has l' l hl (by simpa [SV.has] using hk)
  ·cases h
theorem backL_has {ks:List Nat} {nn fr k:Nat}:∀(l m:List SV),backL ks nn fr l=some m->SV.hasl k m->k∈ks\/(fr<=k/\k < fr+nn)
 | [],m,h,hk=>by simp only [backL,bG] at h;subst h;simp [SV.hasl] at hk
 | x::l,m,h,hk=>by
  simp only [backL] at h;split at h
  ·rename_i y m' hy hm;simp only [bG] at h;subst h;simp only [SV.hasl] at hk;rcases hk with hk | hk
   ·exact aJa x y hy hk
   ·exact backL_has l m' hm hk
  ·cases h
end
def aBd:BK->Bool | .un=>true | _=>false
def wC:List Nat->Bool | []=>true | x::l=>!l.contains x&&wC l
def oZ (ks:List Nat)(m:Bool):BK->Option BK
 | .live own true cells=>if m=true/\own=false then none else some (.live m true cells)
 | .live own false cells=>if m=true/\own=false then none else match renL ks cells with
  | some l=>some (.live m false l)
  | none=>none
 | .map es=>match m with
  | true=>some (.map es)
  | false=>none
 | _=>none
def vJ (ks:List Nat)(bk:Nat->BK):List Nat->List BK->Option (List BK)
 | [],_=>some []
 | k::l,mb=>match oZ ks (!aBd (mb.headD .un)) (bk k),vJ ks bk l mb.tail with
  | some x,some m=>some (x::m)
  | _,_=>none
def sW (ks:List Nat)(nn fr:Nat):BK->Option BK
 | .dead=>some .dead
 | .map es=>some (.map es)
 | .live true true cells=>some (.live true true cells)
 | .live true false cells=>match backL ks nn fr cells with
  | some cells=>some (.live true false cells)
  | none=>none
 | _=>none
def wD (ks:List Nat)(nn fr:Nat):List Nat->List BK->Option (List (Nat×BK))
 | _,[]=>some []
 | [],_::_=>none
 | k::l,x::m=>match wD ks nn fr l m with
  | none=>none
  | some us=>match aBd x with
   | true=>some us
   | false=>match sW ks nn fr x with
    | some y=>some ((k,y)::us)
    | none=>none
def zP (ks:List Nat)(nn fr:Nat):Nat->List BK->Option (List (Nat×BK))
 | _,[]=>some []
 | j,x::l=>match sW ks nn fr x,zP ks nn fr (j+1) l with
  | some y,some m=>some ((j,y)::m)
  | _,_=>none
def callee:SV->Option (Nat×List SV×List SV)
 | .v (.func (.func g) first caps)=>match first.toList,caps.toList with
  | [],[]=>some (g,[],[])
  | _,_=>none
 | .f g caps=>if g < 1000000 then some (g,[],caps) else some (g - 1000000,caps,[])
 | _=>none
def uG (xs:List SV)(bk:Nat->BK)(fr:Nat)(orc:List Or):Option (Eff×List Ob×List Or×List Nat) :=
 match xs,orc with
 | fv::args,.call ks res nb mb::orc =>
  match callee fv with
  | some (g,fst,caps) =>
   match renL ks (fst++args++caps),vJ ks bk ks mb,back ks nb.length fr res,wD ks nb.length fr ks mb,zP ks nb.length fr fr nb with
   | some args',some bs,some res',some upm,some upn=>if wC ks then some ({ val:=res',ups:=upm++upn },[.call g args' bs res nb mb],orc,ks) else none
   | _,_,_,_,_=>none
  | none=>none
 | _,_=>none
section
variable {P : Program} {T : Nat → Option TI} {w0 : Cx} {N : Nat} {D : List Deferred} {ρ : Env} {s : FS} {a : Act} {W : World}
theorem mP:∀{l:List Nat},wC l=true->∀(i j k:Nat),l[i]? = some k->l[j]? = some k->i=j
 | [],_,i,j,k,h,_=>by simp at h
 | x::l,h,i,j,k,hi,hj=>by
  simp only [wC,Bool.and_eq_true,Bool.not_eq_true',List.contains_eq_mem,decide_eq_false_iff_not] at h;cases i with
  | zero=>cases j with
   | zero=>rfl
   | succ j=>simp at hi hj;subst hi;exact(h.1 (List.mem_of_getElem? hj)).elim
  | succ i=>cases j with
   | zero=>simp at hi hj;subst hj;exact(h.1 (List.mem_of_getElem? hi)).elim
   | succ j=>simp at hi hj;rw [mP h.2 i j k hi hj]
theorem aJb {x:BK}:aBd x=true↔x=.un:=by cases x<;>simp [aBd]
theorem wE {ks:List Nat} {bk:Nat->BK}:∀(l:List Nat) (mb m:List BK),vJ ks bk l mb=some m->m.length=l.length/\∀(i k:Nat),l[i]? = some k->∃y,m[i]? = some y/\oZ ks (!aBd (mb.getD i .un)) (bk k)=some y
 | [],mb,m,h=>by simp only [vJ,bG] at h;subst h;simp
 | k::l,mb,m,h=>by
  simp only [vJ] at h;split at h
  ·rename_i x m' hx hm;simp only [bG] at h;subst h;obtain⟨h1,h2⟩:=wE l _ m' hm;refine⟨by simp [h1],fun i k' hi=>?_⟩;cases i with
   | zero =>
    simp at hi;subst hi;refine⟨x,by simp,?_⟩;cases mb<;>simpa using hx
   | succ i =>
    simp at hi ⊢;obtain⟨y,e1,e2⟩:=h2 i k' hi;refine⟨y,e1,?_⟩;cases mb<;>simpa using e2
  ·cases h
theorem aAt {ks:List Nat} {nn fr:Nat}:∀(l:List Nat) (mb:List BK) (us:List (Nat×BK)),wD ks nn fr l mb=some us ->
 (∀k y,(k,y)∈us->∃i,l[i]? = some k/\mb.getD i .un≠.un/\sW ks nn fr (mb.getD i .un)=some y)/\(∀i k,l[i]? = some k->mb.getD i .un≠.un->∃y,(k,y)∈us)
 | l,[],us,h=>by
  have:us=[]:=by cases l<;>(simp only [wD,bG] at h;exact h.symm)
  subst this;exact⟨fun k y hm=>by simp at hm,fun i k _ hne=>by simp at hne⟩
 | [],x::m,us,h=>by simp [wD] at h
 | k::l,x::m,us,h=>by
  simp only [wD] at h;split at h
  ·cases h
  ·rename_i us' hus;obtain⟨h1,h2⟩:=aAt l m us' hus;split at h
   ·rename_i hun;rw [aJb] at hun;simp only [bG] at h;subst h;refine⟨fun k' y hm=>?_,fun i k' hi hne=>?_⟩
    ·obtain⟨i,e1,e2,e3⟩:=h1 k' y hm;exact⟨i+1,by simpa using e1,by simpa using e2,by simpa using e3⟩
    ·cases i with
     | zero=>simp [hun] at hne
     | succ i=>exact h2 i k' (by simpa using hi) (by simpa using hne)
   ·rename_i hun;split at h
    ·rename_i y hy;simp only [bG] at h;subst h;refine⟨fun k' y' hm=>?_,fun i k' hi hne=>?_⟩
     ·rcases List.mem_cons.1 hm with e | hm
      ·cases e;exact⟨0,by simp,by simp;intro e;rw [e] at hun;simp [aBd] at hun,by simpa using hy⟩
      ·obtain⟨i,e1,e2,e3⟩:=h1 k' y' hm;exact⟨i+1,by simpa using e1,by simpa using e2,by simpa using e3⟩
     ·cases i with
      | zero=>simp at hi;subst hi;exact⟨y,by simp⟩
      | succ i =>
       obtain⟨y',hm⟩:=h2 i k' (by simpa using hi) (by simpa using hne);exact⟨y',by simp [hm]⟩
    ·cases h
theorem sX {ks:List Nat} {nn fr:Nat}:∀(l:List BK) (j:Nat) (m:List (Nat×BK)),zP ks nn fr j l=some m ->
 m.length=l.length/\∀i x,l[i]? = some x->∃y,sW ks nn fr x=some y/\m[i]? = some (j+i,y)
 | [],j,m,h=>by simp only [zP,bG] at h;subst h;simp
 | x::l,j,m,h=>by
  simp only [zP] at h;split at h
  ·rename_i y m' hc hm;simp only [bG] at h;subst h;obtain⟨h1,h2⟩:=sX l _ m' hm;refine⟨by simp [h1],fun i x hi=>?_⟩;cases i with
   | zero=>simp at hi;subst hi;exact⟨y,hc,by simp⟩
   | succ i =>
    simp at hi;obtain⟨y',e1,e2⟩:=h2 i x hi;exact⟨y',e1,by simp;rw [e2];simp;omega⟩
  ·cases h
theorem nZ:∀(us:List (Nat×BK)) (f:Nat->BK) (k:Nat),(∀u∈us,u.1≠k)->cN f us k=f k
 | [],f,k,_=>rfl
 | (j,x)::us,f,k,h=>by
  simp only [cN];rw [nZ us _ k (fun u hu=>h u (by simp [hu]))];have:=h (j,x) (by simp);simp only at this;rw [if_neg (fun e=>this e.symm)]
theorem aCo:∀(us:List (Nat×BK)) (f:Nat->BK) (k:Nat),(cN f us k=f k/\∀u∈us,u.1≠k)\/(k,cN f us k)∈us
 | [],f,k=>.inl ⟨rfl,fun u hu=>by simp at hu⟩
 | (j,x)::us,f,k=>by
  simp only [cN];rcases aCo us (fun i=>if i=j then x else f i) k with⟨h1,h2⟩ | h
  ·by_cases hk:k=j
   ·subst hk;exact .inr (by rw [h1];simp)
   ·refine .inl ⟨by rw [h1,if_neg hk],fun u hu=>?_⟩;rcases List.mem_cons.1 hu with rfl | hu
    ·exact fun e=>hk e.symm
    ·exact h2 u hu
  ·exact .inr (List.mem_cons_of_mem _ h)
theorem mQ {ks:List Nat} {nn fr:Nat} {x y:BK} (h:sW ks nn fr x=some y)(hp:x.pl):y≠.un/\(y.own->x.own)/\(∀k,y.has k->k∈ks\/(fr<=k/\k < fr+nn))/\y.pl:=by
 unfold sW at h;split at h
 ·simp only [bG] at h;subst h;exact⟨by simp,fun h=>h.elim,fun k hk=>hk.elim,trivial⟩
 ·simp only [bG] at h;subst h;exact⟨by simp,fun _=>trivial,fun k hk=>(hp k hk).elim,hp⟩
 ·simp only [bG] at h;subst h;exact⟨by simp,fun _=>trivial,fun k hk=>(hp k hk).elim,hp⟩
 ·split at h
  ·rename_i cells c' hc;simp only [bG] at h;subst h;exact⟨by simp,fun _=>trivial,fun k hk=>backL_has _ _ hc hk,trivial⟩
  ·cases h
 ·cases h
theorem aPo {ρc ρ':Env} {ks:List Nat} {nn fr:Nat} {M M':Nat->Prop} {j k:Nat} {x y:BK} (h0:ρc.le ρ')(h1:∀i k,ks[i]? = some k->ρ' k=ρc i)(h2:∀j,j < nn->ρ' (fr+j)=ρc (ks.length+j))(hk:ρ' k=ρc j)(hM:∀b,M' b->M b)
 (h:sW ks nn fr x=some y) (hp:x.pl) (hb:BRep ρc M' W j x):BRep ρ' M W k y:=by
 unfold sW at h;split at h
 ·simp only [bG] at h;subst h;trivial
 ·simp only [bG] at h;subst h;obtain⟨b,n,arr,q1,q2,q3,q4⟩:=hb;exact⟨b,n,arr,hk.trans q1,hM b q2,MEs.congr h0 _ _ _ (fun k hk=>(hp k hk).elim) q3,q4⟩
 ·simp only [bG] at h;subst h;rcases hb with⟨q1,q2⟩ | ⟨b,vs,rest,ty,q1,q2,q3,q4⟩
  ·exact .inl ⟨hk.trans q1,q2⟩
  ·exact .inr ⟨b,vs,rest,ty,hk.trans q1,hM b q2,Plain.congr h0 hp q3,q4⟩
 ·split at h
  ·rename_i cells c' hc;simp only [bG] at h;subst h;rcases hb with⟨q1,q2⟩ | ⟨b,vs,rest,ty,q1,q2,q3,q4⟩
   ·subst q2;simp only [backL,bG] at hc;subst hc;exact .inl ⟨hk.trans q1,rfl⟩
   ·exact .inr ⟨b,vs,rest,ty,hk.trans q1,hM b q2,backL_rel h0 h1 h2 _ _ vs hc q3,q4⟩
  ·cases h
 ·cases h
theorem Rep.called (h:Rep w0 N D ρ s a W) {W':World} {own':Nat->Prop} (hb:Kept W own' W') {ks:List Nat} (hnd:wC ks=true) {mb nb:List BK} {fr:Nat} (hfr:∀k,fr<=k->k < fr+nb.length->s.bk k=.un)(hks:∀k∈ks,s.bk k≠.un)
 {upm upn:List (Nat×BK)} (hm:wD ks nb.length fr ks mb=some upm) (hu:zP ks nb.length fr fr nb=some upn)
 (hown:∀b,own' b->∃i k n,ks[i]? = some k/\mb.getD i .un≠.un/\(s.bk k).own/\ρ k=some (b,0,n)) {ρ':Env} (hold:∀i k,ks[i]? = some k->ρ' i=ρ k) (hle:ρ.le ρ')
 (hfz:∀b o,ρ'.fz b=some o->W'.heap[b]? = some o.obj/\(∀j n,(fQ ks.length mb nb j).own->ρ' j≠some (b,0,n))/\(ρ.fz b=some o\/W.heap.size<=b\/own' b))
 (hnew:∀j,BRep ρ' (fun b=>W.heap.size<=b\/own' b) W' j (fQ ks.length mb nb j)) (hplp:∀j,(fQ ks.length mb nb j).pl)
 (hap:∀i j b n b' n',i≠j->(fQ ks.length mb nb i).own->(fQ ks.length mb nb j).own->ρ' i=some (b,0,n)->ρ' j=some (b',0,n')->b≠b') :
 Rep w0 N D ⟨fun k=>if fr<=k/\k < fr+nb.length then ρ' (ks.length+(k - fr)) else ρ k,ρ'.fz⟩ (s.app none { val:=.u,ups:=upm++upn }) a W' /\
 (∀k,k∈ks\/(fr<=k/\k < fr+nb.length)->(s.app none { val:=.u,ups:=upm++upn }).bk k≠.un):=by
 obtain⟨hm1,hm2⟩:=aAt ks mb upm hm;obtain⟨hul,hus⟩:=sX nb fr upn hu;have hnewk:∀k y,(k,y)∈upn->(fr<=k/\k < fr+nb.length)/\sW ks nb.length fr (nb.getD (k - fr) .un)=some y:=fun k y hm=>by
  obtain⟨i,hi⟩:=List.getElem?_of_mem hm;have hlt:i < nb.length:=by rw [←hul];exact(List.getElem?_eq_some_iff.1 hi).1
  obtain⟨y',e2,e3⟩:=hus i nb[i] (by simp);rw [hi] at e3;cases e3;refine⟨by omega,?_⟩;rw [Nat.add_sub_cancel_left,show nb.getD i .un=nb[i] by simp [gS,hlt]];exact e2
 have hnewm:∀k,fr<=k->k < fr+nb.length->∃y,(k,y)∈upn:=fun k h1 h2=>by
  obtain⟨y',_,e3⟩:=hus (k - fr) (nb[k - fr]'oM) (by simp);rw [Nat.add_sub_cancel' h1] at e3;exact⟨_,List.mem_of_getElem? e3⟩
 -- what each block has come to
 have cls:∀k,((s.app none { val:=.u,ups:=upm++upn }).bk k=s.bk k/\¬(fr<=k/\k < fr+nb.length)/\∀i,ks[i]? = some k->mb.getD i .un=.un) \/
  ∃j,sW ks nb.length fr (fQ ks.length mb nb j)=some ((s.app none { val:=.u,ups:=upm++upn }).bk k) /\
   ((fr<=k/\k < fr+nb.length/\j=ks.length+(k - fr))\/(¬(fr<=k/\k < fr+nb.length)/\ks[j]? = some k/\j < ks.length)):=fun k=>by
  simp only [FS.app];rcases aCo (upm++upn) s.bk k with⟨h1,h2⟩ | h1
  ·refine .inl ⟨h1,fun hn=>?_,fun i hi=>?_⟩
   ·obtain⟨y,hy⟩:=hnewm k hn.1 hn.2;exact h2 _ (List.mem_append_right _ hy) rfl
   ·refine Classical.byContradiction fun hne=>?_
    obtain⟨y,hy⟩:=hm2 i k hi hne;exact h2 _ (List.mem_append_left _ hy) rfl
  ·rcases List.mem_append.1 h1 with h1 | h1
   ·obtain⟨i,e1,e2,e3⟩:=hm1 _ _ h1;have hlt:=(List.getElem?_eq_some_iff.1 e1).1;refine .inr ⟨i,by rw [fQ,if_pos hlt];exact e3,.inr ⟨fun hn=>hks k (List.mem_of_getElem? e1) (hfr k hn.1 hn.2),e1,hlt⟩⟩
   ·obtain⟨e1,e2⟩:=hnewk _ _ h1;refine .inr ⟨ks.length+(k - fr),?_,.inl ⟨e1.1,e1.2,rfl⟩⟩;rw [fQ,if_neg oM,Nat.add_sub_cancel_left];exact e2
 have hne:∀k,s.bk k≠.un->¬(fr<=k/\k < fr+nb.length):=fun k hk h'=>hk (hfr k h'.1 h'.2)
 have hρ:∀k,s.bk k≠.un->(if fr<=k/\k < fr+nb.length then ρ' (ks.length+(k - fr)) else ρ k)=ρ k:=fun k hk=>if_neg (hne k hk)
 have hr1:∀i k,ks[i]? = some k->(if fr<=k/\k < fr+nb.length then ρ' (ks.length+(k - fr)) else ρ k)=ρ' i:=fun i k hi=>by
  rw [hρ k (hks k (List.mem_of_getElem? hi))];exact(hold i k hi).symm
 have hr2:∀j,j < nb.length->(if fr<=fr+j/\fr+j < fr+nb.length then ρ' (ks.length+(fr+j - fr)) else ρ (fr+j))=ρ' (ks.length+j):=fun j hj=>by
  rw [if_pos oM,Nat.add_sub_cancel_left]
 have hkeep:∀k,s.bk k≠.un->(s.app none { val:=.u,ups:=upm++upn }).bk k≠.un:=fun k hk=>by
  rcases cls k with⟨e,_,_⟩ | ⟨j,e,_⟩
  ·rw [e];exact hk
  ·exact(mQ e (hplp j)).1
 have hmem:∀k,k∈ks\/(fr<=k/\k < fr+nb.length)->(s.app none { val:=.u,ups:=upm++upn }).bk k≠.un:=fun k hk=>by
  rcases cls k with⟨e,hn,_⟩ | ⟨j,e,_⟩
  ·rw [e];exact hks k (hk.resolve_right hn)
  ·exact(mQ e (hplp j)).1
 have hpl2:∀k,((s.app none { val:=.u,ups:=upm++upn }).bk k).pl:=fun k=>by
  rcases cls k with⟨e,_,_⟩ | ⟨j,e,_⟩
  ·rw [e];exact h.pl k
  ·exact(mQ e (hplp j)).2.2.2
 -- blocks that may be written
 have ownM:∀b,own' b->w0.mine b:=fun b hb=>by
  obtain⟨i,k,n,_,_,e3,e4⟩:=hown b hb;have:=h.bk k;cases hx:s.bk k with
  | un=>rw [hx] at e3;exact e3.elim
  | dead=>rw [hx] at e3;exact e3.elim
  | live own sy cs =>
   rw [hx] at this e3;cases own
   case false=>exact e3.elim
   rcases this with⟨q,_⟩ | ⟨b₁,vs,rest,ty,q1,q2,_,_⟩
   ·rw [e4] at q;cases q
   ·rw [e4] at q1;cases q1;exact q2
  | map es =>
   rw [hx] at this;obtain⟨b₁,n₁,arr,q1,q2,_,_⟩:=this;rw [e4] at q1;cases q1;exact q2
 have oldown:∀k b n,(s.bk k).own->ρ k=some (b,0,n)->(∀i,ks[i]? = some k->mb.getD i .un=.un)->b < W.heap.size/\¬own' b:=fun k b n hk e1 hno=>by
  constructor
  ·have:=h.bk k;cases hx:s.bk k with
   | un=>rw [hx] at hk;exact hk.elim
   | dead=>rw [hx] at hk;exact hk.elim
   | live own sy cs =>
    rw [hx] at this hk;cases own
    case false=>exact hk.elim
    rcases this with⟨q,_⟩ | ⟨b₁,vs,rest,ty,q1,_,_,q4⟩
    ·rw [e1] at q;cases q
    ·rw [e1] at q1;cases q1;exact cF q4
   | map es =>
    rw [hx] at this;obtain⟨b₁,n₁,arr,q1,_,_,q4⟩:=this;rw [e1] at q1;cases q1;exact cF q4
  ·intro hb';obtain⟨i,k',n',g1,g2,g3,g4⟩:=hown b hb';by_cases hkk:k=k'
   ·subst hkk;exact g2 (hno i g1)
   ·exact h.apart k k' b n b n' hkk hk g3 e1 g4 rfl
 have hle':ρ.le ⟨fun k=>if fr<=k/\k < fr+nb.length then ρ' (ks.length+(k - fr)) else ρ k,ρ'.fz⟩:=hle;have hle0:ρ'.le ⟨fun k=>if fr<=k/\k < fr+nb.length then ρ' (ks.length+(k - fr)) else ρ k,ρ'.fz⟩:=fun _ _ h=>h
 refine⟨{ defs:=h.defs,size:=h.size,sl:=fun t=>Rel.congr hle' _ _ (fun k hk=>hρ k (h.wf1 t k hk)) (h.sl t),bk:=fun k=>?_,apart:=fun i j b n b' n' hij hi hj e1 e2=>?_,wf1:=fun t k hk=>hkeep k (h.wf1 t k hk),wf2:=fun i k hk=>?_,kept:=?_,pl:=hpl2,old:=fun i hi=>⟨(hρ i (h.old i hi).2).trans (h.old i hi).1,hkeep i (h.old i hi).2⟩,fzn:=fun b o ho=>⟨(hfz b o ho).1,fun k n hk e1=>?_,?_⟩,fzo:=fun b o ho=>hle b o (h.fzo b o ho) },hmem⟩
 ·rcases cls k with⟨e,hn,hno⟩ | ⟨j,e,hj⟩
  ·rw [e];by_cases hun:s.bk k=.un
   ·rw [hun];trivial
   ·refine BRep.congr hle' (hρ k hun) (fun j hj=>hρ j (h.wf2 k j hj)) ?_;have hb0:=h.bk k;cases hx:s.bk k with
    | un=>trivial
    | dead=>trivial
    | live own sy cs =>
     rw [hx] at hb0;cases own
     case true=>
      rcases hb0 with hb0 | ⟨b,vs,rest,ty,q1,q2,q3,q4⟩
      ·exact .inl hb0
      ·obtain⟨g1,g2⟩:=oldown k b _ (by rw [hx];trivial) q1 hno;exact .inr ⟨b,vs,rest,ty,q1,q2,q3,by rw [hb.block b g1 g2];exact q4⟩
     rcases hb0 with hb0 | ⟨b,o,n,vs,q1,q2,q3,q4⟩
     ·exact .inl hb0
     ·refine .inr ⟨b,o,n,vs,q1,q2,q3,fun i x hx'=>?_⟩;have hne:vs≠[]:=by rintro rfl;simp at hx'
      have hc:=q4 i x hx';have hlt:=aGl hc;simp only [World.cell?] at hc ⊢;by_cases ho:own' b
      ·obtain⟨ob,hob⟩:=q2.2 hne (ownM b ho);rw [(hfz b ob (hle b ob hob)).1];rw [(h.fzn b ob hob).1] at hc;exact hc
      ·rw [hb.block b hlt ho];exact hc
    | map es =>
     rw [hx] at hb0;obtain⟨b,n,arr,q1,q2,q3,q4⟩:=hb0;obtain⟨g1,g2⟩:=oldown k b _ (by rw [hx];trivial) q1 hno;exact⟨b,n,arr,q1,q2,q3,by rw [hb.block b g1 g2];exact q4⟩
  ·have hb0:=hnew j;have hkj:(if fr<=k/\k < fr+nb.length then ρ' (ks.length+(k - fr)) else ρ k)=ρ' j:=by
    rcases hj with⟨g1,g2,g3⟩ | ⟨g1,g2,g3⟩
    ·rw [if_pos ⟨g1,g2⟩,g3]
    ·rw [if_neg g1];exact(hold j k g2).symm
   exact aPo hle0 hr1 hr2 hkj (fun b hb'=>hb'.elim (fun h'=>.inl (Nat.le_trans h.size_le h')) (ownM b)) e (hplp j) hb0
 ·have new:∀k j b n,sW ks nb.length fr (fQ ks.length mb nb j)=some ((s.app none { val:=.u,ups:=upm++upn }).bk k)->((s.app none { val:=.u,ups:=upm++upn }).bk k).own->ρ' j=some (b,0,n)->W.heap.size<=b\/own' b:=fun k j b n e ho hr=>by
   have ho':=(mQ e (hplp j)).2.1 ho;have hb0:=hnew j;cases hx:fQ ks.length mb nb j with
   | un=>rw [hx] at ho';exact ho'.elim
   | dead=>rw [hx] at ho';exact ho'.elim
   | live own sy cs =>
    rw [hx] at hb0 ho';cases own
    case false=>exact ho'.elim
    rcases hb0 with⟨q,_⟩ | ⟨b₁,vs,rest,ty,q1,q2,_,_⟩
    ·rw [hr] at q;cases q
    ·rw [hr] at q1;cases q1;exact q2
   | map es =>
    rw [hx] at hb0;obtain⟨b₁,n₁,arr,q1,q2,_,_⟩:=hb0;rw [hr] at q1;cases q1;exact q2
  have rhoj:∀k j,((fr<=k/\k < fr+nb.length/\j=ks.length+(k - fr))\/(¬(fr<=k/\k < fr+nb.length)/\ks[j]? = some k/\j < ks.length))->(if fr<=k/\k < fr+nb.length then ρ' (ks.length+(k - fr)) else ρ k)=ρ' j:=fun k j hj=>by
   rcases hj with⟨g1,g2,g3⟩ | ⟨g1,g2,g3⟩
   ·rw [if_pos ⟨g1,g2⟩,g3]
   ·rw [if_neg g1];exact(hold j k g2).symm
  simp only [Env.mk_loc] at e1 e2;rcases cls i with⟨ei,ni,noi⟩ | ⟨ji,ei,hji⟩
  ·rw [ei] at hi;rw [if_neg ni] at e1;rcases cls j with⟨ej,nj,noj⟩ | ⟨jj,ej,hjj⟩
   ·rw [ej] at hj;rw [if_neg nj] at e2;exact h.apart i j b n b' n' hij hi hj e1 e2
   ·rw [rhoj j jj hjj] at e2;obtain⟨g1,g2⟩:=oldown i b n hi e1 noi;rcases new j jj b' n' ej hj e2 with g | g
    ·omega
    ·intro eb;rw [eb] at g2;exact g2 g
  ·rw [rhoj i ji hji] at e1;rcases cls j with⟨ej,nj,noj⟩ | ⟨jj,ej,hjj⟩
   ·rw [ej] at hj;rw [if_neg nj] at e2;obtain⟨g1,g2⟩:=oldown j b' n' hj e2 noj;rcases new i ji b n ei hi e1 with g | g
    ·omega
    ·intro eb;rw [←eb] at g2;exact g2 g
   ·rw [rhoj j jj hjj] at e2;refine hap ji jj b n b' n' (fun e=>hij ?_) ((mQ ei (hplp ji)).2.1 hi) ((mQ ej (hplp jj)).2.1 hj) e1 e2;subst e;rcases hji with⟨g1,g2,g3⟩ | ⟨g1,g2,g3⟩<;>rcases hjj with⟨f1,f2,f3⟩ | ⟨f1,f2,f3⟩
    ·omega
    ·omega
    ·omega
    ·rw [g2] at f2;cases f2;rfl
 ·rcases cls i with⟨e,hn,hno⟩ | ⟨j,e,hj⟩
  ·rw [e] at hk;exact hkeep k (h.wf2 i k hk)
  ·exact hmem k ((mQ e (hplp j)).2.2.1 k hk)
 ·exact⟨hb.os.trans h.kept.os,hb.tape.trans h.kept.tape,hb.output.trans h.kept.output,Nat.le_trans h.kept.size hb.size,fun k hk ho=>(hb.block k (Nat.lt_of_lt_of_le hk h.kept.size) (fun h'=>by
   rcases ownM k h' with g | g
   ·omega
   ·exact ho g)).trans (h.kept.block k hk ho),Nat.le_trans h.kept.drawn hb.drawn⟩
 ·have e1':(if fr<=k/\k < fr+nb.length then ρ' (ks.length+(k - fr)) else ρ k)=some (b,0,n):=e1;rcases cls k with⟨e,hn,hno⟩ | ⟨j,e,hj⟩
  ·rw [e] at hk;rw [if_neg hn] at e1';obtain⟨g1,g2⟩:=oldown k b n hk e1' hno;rcases (hfz b o ho).2.2 with g | g | g
   ·exact(h.fzn b o g).2.1 k n hk e1'
   ·omega
   ·exact g2 g
  ·refine(hfz b o ho).2.1 j n ((mQ e (hplp j)).2.1 hk) ?_;rcases hj with⟨g1,g2,g3⟩ | ⟨g1,g2,g3⟩
   ·rw [if_pos ⟨g1,g2⟩] at e1';rw [g3];exact e1'
   ·rw [if_neg g1] at e1';rw [hold j k g2];exact e1'
 ·rcases (hfz b o ho).2.2 with g | g | g
  ·exact(h.fzn b o g).2.2
  ·exact .inr (.inl (Nat.le_trans h.size_le g))
  ·exact .inr (ownM b g)
theorem xM {ks:List Nat} {k i:Nat} {m:Bool} {x y:BK} {M M':Nat->Prop} (hk:ks[i]? = some k)(hx:oZ ks m x=some y)(hp:x.pl)(h:BRep ρ M W k x)
 (hM:x.own->m=true->∀b n,ρ k=some (b,0,n)->M' b) (hM':m=false->∀b,b < W.heap.size->(M b->(∃n,ρ k=some (b,0,n)/\x.own)\/∃o,ρ.fz b=some o)->¬M' b):BRep (iX ρ ks) M' W i y/\y.pl:=by
 have he:iX ρ ks i=ρ k:=dE hk;have key:∀(own sym:Bool) (cells l:List SV),x=.live own sym cells->¬(m=true/\own=false)->(∀vs,Rels ρ cells vs->Rels (iX ρ ks) l vs)->(cells=[]->l=[])->BRep (iX ρ ks) M' W i (.live m sym l):=fun own sym cells l hxe hmo hrl hnil=>by
  subst hxe;cases own
  case true=>
   rcases h with⟨h1,h2⟩ | ⟨b,vs,rest,ty,h1,h2,h3,h4⟩
   ·cases m<;>exact .inl ⟨he.trans h1,hnil h2⟩
   ·cases m
    case true=>exact .inr ⟨b,vs,rest,ty,he.trans h1,hM trivial rfl b _ h1,hrl vs h3,h4⟩
    refine .inr ⟨b,0,_,vs,he.trans h1,⟨by simp,fun _ hmb=>(hM' rfl b (cF h4) (fun _=>.inl ⟨_,h1,trivial⟩) hmb).elim⟩,hrl vs h3,fun j x hj=>?_⟩;have hi:j < vs.length:=(List.getElem?_eq_some_iff.1 hj).1;simp [World.cell?,h4,List.getElem?_append_left hi,hj]
  have hmf:m=false:=by cases m<;>simp at hmo ⊢
  subst hmf;rcases h with⟨h1,h2⟩ | ⟨b,o,n,vs,h1,h2,h3,h4⟩
  ·exact .inl ⟨he.trans h1,hnil h2⟩
  ·refine .inr ⟨b,o,n,vs,he.trans h1,⟨h2.1,fun hne hmb=>?_⟩,hrl vs h3,h4⟩;obtain⟨x,hx⟩:∃x,vs[0]? = some x:=by cases vs with
    | nil=>exact(hne rfl).elim
    | cons x _=>exact⟨x,rfl⟩
   exact(hM' rfl b (aGl (h4 0 x hx)) (fun hm=>.inr (h2.2 hne hm)) hmb).elim
 cases x with
 | un=>simp [oZ] at hx
 | dead=>simp [oZ] at hx
 | map es =>
  cases m
  case false=>simp [oZ] at hx
  simp only [oZ,bG] at hx;subst hx;obtain⟨b,n,arr,h1,h2,h3,h4⟩:=h;exact⟨⟨b,n,arr,he.trans h1,hM trivial rfl b _ h1,MEs.congr (qI _ _) _ _ _ (fun k hk=>(hp k hk).elim) h3,h4⟩,hp⟩
 | live own sym cells =>
  cases sym
  case true=>
   simp only [oZ] at hx;split at hx
   ·cases hx
   rename_i hmo;simp only [bG] at hx;subst hx;exact⟨key own true cells cells rfl hmo (fun vs hv=>Plain.congr (qI _ _) hp hv) id,hp⟩
  simp only [oZ] at hx;split at hx
  ·cases hx
  rename_i hmo;split at hx
  ·rename_i l hl;simp only [bG] at hx;subst hx;exact⟨key own false cells l rfl hmo (fun vs hv=>renL_rel cells l vs hl hv) (fun e=>by subst e;simp only [renL,bG] at hl;exact hl.symm),trivial⟩
  ·cases hx
theorem aNp {ks:List Nat} {m:Bool} {x y:BK} (hx:oZ ks m x=some y)(hp:x.pl):y.pl:=by
 cases x with
 | un=>simp [oZ] at hx
 | dead=>simp [oZ] at hx
 | map es =>
  cases m
  case false=>simp [oZ] at hx
  simp only [oZ,bG] at hx;subst hx;exact hp
 | live own sym cells =>
  cases sym<;>simp only [oZ] at hx<;>split at hx<;>try (cases hx;done)
  ·split at hx
   ·simp only [bG] at hx;subst hx;trivial
   ·cases hx
  ·simp only [bG] at hx;subst hx;exact hp
theorem aCp {ks:List Nat} {m:Bool} {x y:BK} (hx:oZ ks m x=some y):(y.own↔m=true)/\(m=true->x.own):=by
 cases x with
 | un=>simp [oZ] at hx
 | dead=>simp [oZ] at hx
 | map es =>
  cases m
  case false=>simp [oZ] at hx
  simp only [oZ,bG] at hx;subst hx;simp [BK.own]
 | live own sym cells =>
  cases sym<;>simp only [oZ] at hx<;>split at hx<;>try (cases hx;done)
  all_goals rename_i hmo
  ·split at hx
   ·simp only [bG] at hx;subst hx;cases m<;>cases own<;>simp_all [BK.own]
   ·cases hx
  ·simp only [bG] at hx;subst hx;cases m<;>cases own<;>simp_all [BK.own]
theorem aJc {fv:SV} {g:Nat} {fst caps:List SV} (h:callee fv=some (g,fst,caps)) {v:Value} (hr:Rel ρ fv v):∃us vs:List Value,v=.func (.func g) us.toArray vs.toArray/\Rels ρ fst us/\Rels ρ caps vs:=by
 unfold callee at h;split at h
 ·rename_i g' first caps'
  split at h
  ·rename_i h1 h2;simp only [bG,eA] at h;obtain⟨rfl,rfl,rfl⟩:=h;simp only [Rel] at hr;have e1:first=#[]:=by apply Array.ext';simp [h1]
   have e2:caps'=#[]:=by apply Array.ext';simp [h2]
   exact⟨[],[],by rw [hr,e1,e2],by simp [Rels],by simp [Rels]⟩
  ·cases h
 ·rename_i g' caps';simp only [Rel] at hr;obtain⟨vs,hv,hr⟩:=hr;split at h
  ·rename_i hlt;simp only [bG,eA] at h;obtain⟨rfl,rfl,rfl⟩:=h;exact⟨[],vs,by rw [hv,aLe hlt],by simp [Rels],hr⟩
  ·rename_i hge;simp only [bG,eA] at h;obtain⟨rfl,rfl,rfl⟩:=h;exact⟨vs,[],by rw [hv];unfold fnV;rw [if_neg hge],hr,by simp [Rels]⟩
 ·cases h
theorem aU0 {r:Option Nat} {n:Nat} {o:Oper} {f:Operand} {args:Array Operand} {ts:Array TypeId} (hop:o.op=.call { callee:=.value f,args:=args,argTypes:=ts })
 {fr:Nat} {orc orc':List Or} {e:Eff} {obs:List Ob} {ks:List Nat} (h:uG (o.op.operands.toList.map (ev s.sl)) s.bk fr orc=some (e,obs,orc',ks)) (hob:Obs P obs)
 (hrep:Rep w0 N D ρ s a W) (hfr:∀u∈e.ups,fr<=u.1->s.bk u.1=.un) (hd:∀d,o.dst=some d->d < N) {Q:Exit->Act->World->Prop} {K:Act->World->Prop}
 (hK:∀ρ' a' W',Rep w0 N D ρ' (s.app o.dst e) a' W'->K a' W'):o.wpIn (Fw r) n P a W K Q:=by
 have hops:o.op.operands.toList=f::args.toList:=by rw [hop];simp [Op.operands,Call.operands]
 rw [hops,List.map_cons] at h;unfold uG at h;split at h
 ·rename_i fv as0 ks' res nb mb orc2 hcons;simp only [List.cons.injEq] at hcons;obtain⟨hfv,has⟩:=hcons;split at h
  ·rename_i g fst caps hg;split at h
   ·rename_i args' bs res' upm upn h1 h2 h3 h4m h4;split at h
    case isFalse=>cases h
    rename_i hnd;simp only [bG,eA] at h;obtain⟨rfl,rfl,rfl,rfl⟩:=h;simp only [Obs,Ob.Holds,and_true] at hob;have hfr':=bW hrep f;rw [hfv] at hfr';obtain⟨us,vs,hfval,hfst,hcaps⟩:=aJc hg hfr';have hargs:=lW hrep args.toList;rw [has] at hargs;have hall:Rels ρ (fst++as0++caps) (us++args.toList.map a.eval++vs):=Rels.append (Rels.append hfst hargs) hcaps;have hren:=renL_rel (ks:=ks') _ _ _ h1 hall;obtain⟨hbl,hbs⟩:=wE ks' mb bs h2;have hks:∀k∈ks',s.bk k≠.un:=fun k hk hun=>by
     obtain⟨i,hi⟩:=List.getElem?_of_mem hk;obtain⟨y,_,hy⟩:=hbs i k hi;rw [hun] at hy;simp [oZ] at hy
    -- which of the blocks handed over may be written
    have hownb:∀i,(bs.getD i .un).own->∃k,ks'[i]? = some k/\mb.getD i .un≠.un/\(s.bk k).own:=fun i hi=>by
     cases hk:ks'[i]? with
     | none =>
      have:bs[i]? = none:=by rw [List.getElem?_eq_none_iff] at hk ⊢;omega
      rw [gS,this] at hi;exact hi.elim
     | some k =>
      obtain⟨y,hy1,hy2⟩:=hbs i k hk;rw [show bs.getD i .un=y by simp [hy1]] at hi;have hm:=(aCp hy2).1.1 hi;exact⟨k,rfl,fun e=>by rw [e] at hm;simp [aBd] at hm,(aCp hy2).2 hm⟩
    have hownOf:∀b,vI (iX ρ ks') bs b->∃i k n,ks'[i]? = some k/\mb.getD i .un≠.un/\(s.bk k).own/\ρ k=some (b,0,n):=fun b ⟨i,n,hi,hr⟩=>by
     obtain⟨k,e1,e2,e3⟩:=hownb i hi;refine⟨i,k,n,e1,e2,e3,?_⟩;rw [dE e1] at hr;exact hr
    have hMown:∀k b n,(s.bk k).own->ρ k=some (b,0,n)->w0.mine b/\b < W.heap.size:=fun k b n hk hr=>by
     have:=hrep.bk k;cases hx:s.bk k with
     | un=>rw [hx] at hk;exact hk.elim
     | dead=>rw [hx] at hk;exact hk.elim
     | live own sy cs =>
      rw [hx] at this hk;cases own
      case false=>exact hk.elim
      rcases this with⟨q,_⟩ | ⟨b₁,vs,rest,ty,q1,q2,_,q4⟩
      ·rw [hr] at q;cases q
      ·rw [hr] at q1;cases q1;exact⟨q2,cF q4⟩
     | map es =>
      rw [hx] at this;obtain⟨b₁,n₁,arr,q1,q2,_,q4⟩:=this;rw [hr] at q1;cases q1;exact⟨q2,cF q4⟩
    obtain⟨hE,hob⟩:=hob;have hcall:=hob (iX ρ ks') W (us++args.toList.map a.eval++vs) hren (fun i=>by
     cases hi:ks'[i]? with
     | none =>
      have:bs[i]? = none:=by rw [List.getElem?_eq_none_iff] at hi ⊢;omega
      simp [this,BRep]
     | some k =>
      obtain⟨y,hy1,hy2⟩:=hbs i k hi;rw [show bs.getD i .un=y by simp [hy1]];refine(xM hi hy2 (hrep.pl k) (hrep.bk k) (fun ho hm b n hr=>.inr ⟨i,n,by rw [show bs.getD i .un=y by simp [hy1]];exact(aCp hy2).1.2 hm,by rw [dE hi];exact hr⟩) (fun hm b hlt hMb hM'=>?_)).1
      ·rcases hM' with hM' | hM'
       ·simp only [cO] at hM';omega
       ·obtain⟨i',k',n',g1,g2,g3,g4⟩:=hownOf b hM';rcases hMb (hMown k' b n' g3 g4).1 with⟨n2,q1,q2⟩ | ⟨ob,hob⟩
        rotate_left
        ·exact(hrep.fzn b ob hob).2.1 k' n' g3 g4
        by_cases hkk:k=k'
        ·subst hkk;have:=mP hnd i i' k hi g1;subst this;simp only [Bool.not_eq_false'] at hm;exact g2 (aJb.1 hm)
        ·exact hrep.apart k k' b n2 b n' hkk q2 g3 q1 g4 rfl) (fun i=>by
     cases hi:ks'[i]? with
     | none =>
      have:bs[i]? = none:=by rw [List.getElem?_eq_none_iff] at hi ⊢;omega
      simp [this,BK.pl]
     | some k =>
      obtain⟨y,hy1,hy2⟩:=hbs i k hi;rw [show bs.getD i .un=y by simp [hy1]];exact aNp hy2 (hrep.pl k)) (fun i j b n b' n' hij hi hj e1 e2=>by
     obtain⟨k1,q1,_,q3⟩:=hownb i hi;obtain⟨k2,p1,_,p3⟩:=hownb j hj;rw [dE q1] at e1;rw [dE p1] at e2;refine hrep.apart k1 k2 b n b' n' (fun e=>hij ?_) q3 p3 e1 e2;subst e;exact mP hnd i j k1 q1 p1) (fun b o ho=>⟨(hrep.fzn b o ho).1,fun i n hi e1=>by
     obtain⟨k1,q1,_,q3⟩:=hownb i hi;rw [dE q1] at e1;exact(hrep.fzn b o ho).2.1 k1 n q3 e1⟩)
    have hnd':∀c,o.op≠.defer c:=fun c hc=>by rw [hop] at hc;cases hc
    have hrun:(execOp a.eval o).run P W=.ok (.enter g (us++args.toList.map a.eval++vs).toArray) W:=by
     have e1:us.toArray++(args.map a.eval)++vs.toArray=(us++args.toList.map a.eval++vs).toArray:=by apply Array.ext';simp
     simp only [execOp,hop,resolve,hfval,Deferred.ofValue,Sem.run_bind,Sem.run_pure,Result.andThen_ok,invoke];rw [hE,e1]
    refine⟨fun _ _=>trivial,?_⟩;rw [Oper.semAt_eq _ _ _ hnd',hrun];simp only [Oper.uponIn];refine⟨fun h=>by simp [Fw] at h,rE.2 (hcall.mono fun e w' hR=>?_)⟩;obtain⟨ρ',v,rfl,hold,hres,hkept,hnew,hplp,hap,hle,hfz⟩:=hR;simp only [cO] at hold hkept hnew hplp hap hle hfz;rw [hbl] at hnew hplp hap hfz;have hold':∀i k,ks'[i]? = some k->ρ' i=ρ k:=fun i k hi=>by
     have hlt:i < bs.length:=by rw [hbl];exact(List.getElem?_eq_some_iff.1 hi).1
     rw [hold i hlt,dE hi]
    obtain⟨hul,hus⟩:=sX nb fr upn h4;have hfr:∀k,fr<=k->k < fr+nb.length->s.bk k=.un:=fun k h1 h2=>by
     obtain⟨y',_,e3⟩:=hus (k - fr) (nb[k - fr]'oM) (by simp);rw [Nat.add_sub_cancel' h1] at e3;exact hfr _ (List.mem_append_right _ (List.mem_of_getElem? e3)) h1
    obtain⟨hrep2,hmem⟩:=hrep.called hkept hnd hfr hks h4m h4 hownOf hold' hle hfz hnew hplp hap;refine hK ⟨fun k=>if fr<=k/\k < fr+nb.length then ρ' (ks'.length+(k - fr)) else ρ k,ρ'.fz⟩ _ _ ?_;rw [fU];refine hrep2.put o.dst hd ?_ (fun k hk=>hmem k (aJa res res' h3 hk));have hL:ρ'.le ⟨fun k=>if fr<=k/\k < fr+nb.length then ρ' (ks'.length+(k - fr)) else ρ k,ρ'.fz⟩:=fun _ _ h=>h
    refine aI9 hL (fun i k hi=>?_) (fun j hj=>?_) res res' v h3 hres
    ·have hk':s.bk k≠.un:=hks k (List.mem_of_getElem? hi);simp only [Env.mk_loc];rw [if_neg (fun h'=>hk' (hfr k h'.1 h'.2))];exact(hold' i k hi).symm
    ·simp only [Env.mk_loc];rw [if_pos oM,Nat.add_sub_cancel_left]
   ·cases h
  ·cases h
 ·cases h
end
end Go.Aw
namespace Go.Aw
open Go.RowKit
def aCq (l:List Operand):List Nat:=l.filterMap fun | .tmp t=>some t | _=>none
def aFz (ops:Array Oper)(o:Oper):List Nat :=
 match o.guard with
 | none=>[]
 | some (j,_)=>(jT ops j).toList
def aF0 (ops:Array Oper)(sl:Nat->SV)(o:Oper):Option Bool :=
 match o.guard with
 | none=>some true
 | some (j,w)=>match jT ops j with
  | none=>none
  | some g=>match sl g with
   | .b d=>some (d == w)
   | .v (.tuple vs)=>match vs.toList with
    | []=>some false
    | _=>none
   | _=>none
def aJd (T:Nat->Option TI)(o:Oper)(s:LS)(orc:List Or):Option (Eff×List Ob×List Or×List Nat) :=
 match o.op with
 | .call { callee:=.value _,args:=_,argTypes:=_ }=>uG (o.op.operands.toList.map (ev s.fs.sl)) s.fs.bk s.bk.length orc
 | .defer _=>none
 | op=>match aNf T op (op.operands.toList.map (ev s.fs.sl)) ((jS op (op.operands.toList.map (ev s.fs.sl))).map s.fs.bk) s.bk.length orc with
  | some (e,obs,orc)=>some (e,obs,orc,jS op (op.operands.toList.map (ev s.fs.sl)))
  | none=>none
def bA5 (isG:Bool)(op:Op):List Or->Option (Nat×BK×List Or)
 | .alt k b::orc=>match isG,op with
  | false,.lookup _ _ _ _=>some (k,b,orc)
  | _,_=>none
 | _=>none
def aYd (T:Nat->Option TI)(ops:Array Oper)(isG:Bool)(o:Oper)(s:LS)(orc:List Or):Option (Ev×List Ob×List Or) :=
 match aF0 ops s.fs.sl o with
 | none=>none
 | some false=>some ({ eff:={ val:=.v undef },rs:=aFz ops o,rb:=[] },[],orc)
 | some true =>
  match bA5 isG o.op orc with
  | some (k,b,orc) =>
   match aJd T o s orc,aJd T o ⟨s.sl,s.bk.set k b⟩ orc with
   | some (e,obs,orc,rb),some (e',obs',_,rb') =>
    if k < s.bk.length/\rb'=rb then some ({ eff:=e,rs:=aFz ops o++aCq o.op.operands.toList,rb:=rb++e.ups.map (·.1),alt:=[(k,b)] },obs++(obs'++[.pr (e'=e)]),orc) else none
   | _,_=>none
  | none =>
  match aJd T o s orc with
  | none=>none
  | some (e,obs,orc,rb) =>
   match isG,e.val with
   | true,.v (.bool c) =>
    match orc with
    | .d d::orc=>some ({ eff:={ val:=.b d,ups:=e.ups },rs:=aFz ops o++aCq o.op.operands.toList,rb:=rb++e.ups.map (·.1) },obs++[.eq c d],orc)
    | _=>none
   | _,_=>some ({ eff:=e,rs:=aFz ops o++aCq o.op.operands.toList,rb:=rb++e.ups.map (·.1) },obs,orc)
def aU1 (ops:Array Oper)(i:Nat):Bool:=ops.toList.any fun o=>match o.guard with
 | some (j,_)=>j == i
 | none=>false
def qJ (T:Nat->Option TI)(ops:Array Oper):List Oper->Nat->LS->List Or->Option (List Ev×LS×List Ob×List Or)
 | [],_,s,orc=>some ([],s,[],orc)
 | o::l,i,s,orc =>
  match aYd T ops (aU1 ops i) o s orc with
  | none=>none
  | some (v,obs,orc) =>
   match s.app o.dst v.eff with
   | none=>none
   | some s' =>
    match qJ T ops l (i+1) s' orc with
    | none=>none
    | some (vs,s'',obs',orc)=>some (v::vs,s'',obs++obs',orc)
def mR (o:Oper):List Nat:=(o.after.toList.filter fun e=>Region.binds .any e).map (·.on)
def xN:List Oper->List Nat->List Nat | [],acc=>acc | o::l,acc=>xN l (acc++[(mR o).foldl (fun m e=>m ||| (2 ^ e ||| acc.getD e 0)) 0])
def wrC (dst:Option Nat)(v:Ev):List Nat:=(dst.map (2*·)).toList++v.eff.ups.map (fun u=>2*u.1+1)
def rdC (v:Ev):List Nat:=v.rs.map (2*·)++(v.rb.filter fun k=>!(v.alt.map (·.1)).contains k).map (2*·+1)
def aJe (v:Ev):List Nat:=v.alt.map (2*·.1+1)
def aQy (l m:List Nat):Bool:=l.all fun x=>!m.contains x
def aGv (ops:Array Oper)(evs:List Ev):Bool :=
 let cl:=xN ops.toList [];let ws:=(ops.toList.zip evs).map fun(o,v)=>wrC o.dst v
 let rs:=evs.map rdC;let qs:=evs.map aJe
 (List.range evs.length).all fun i =>
  ((ops.toList[i]?).map fun o=>(mR o).all fun e=>decide (e < i)).getD true &&
  (List.range i).all fun j=>(cl.getD i 0).testBit j ||
   (aQy (ws.getD j []) (ws.getD i [])&&aQy (ws.getD j []) (rs.getD i [])&&aQy (ws.getD i []) (rs.getD j [])&&aQy (ws.getD j []) (qs.getD i []))
def zQ (ops:Array Oper)(evs:List Ev):List Ob := (List.range evs.length).flatMap fun j=>(((evs[j]?).map (·.alt)).getD []).flatMap fun q=>(List.range evs.length).flatMap fun i => (((evs[i]?).map (·.eff.ups)).getD []).flatMap fun u=>if(decide (j < i)&&u.1 == q.1&&!(((xN ops.toList []).getD i 0).testBit j))=true then[.pr (u.2=q.2)]else[]
section
variable {P : Program} {T : Nat → Option TI} {w0 : Cx} {N : Nat} {D : List Deferred} {ρ : Env} {a : Act} {W : World} {r : Option Nat} {n : Nat} {ops : Array Oper}
theorem xO {s:FS} (hrep:Rep w0 N D ρ s a W) {o:Oper} {b:Bool} (h:aF0 ops s.sl o=some b):Region.wanted o (yielded ops a.tmps)=b:=by
 unfold aF0 at h;unfold Region.wanted;split at h
 ·rename_i hg;rw [hg];simpa using h
 ·rename_i j w hg;rw [hg];simp only;split at h
  ·cases h
  ·rename_i g hd;have hr:=hrep.sl g;have hy:yielded ops a.tmps j=match a.tmps[g]? with
    | some (.bool b)=>some b
    | _=>none:=by
    unfold yielded;have:(ops[j]?).bind (·.dst)=some g:=hd;rw [this];rfl
   split at h
   ·rename_i d hs;rw [hs] at hr;simp only [Rel] at hr;have:a.tmps[g]? = some (.bool d):=by
     rw [Array.getD_eq_getD_getElem?] at hr;cases hx:a.tmps[g]? with
     | none=>rw [hx] at hr;simp [undef] at hr
     | some x=>rw [hx] at hr;simp at hr;rw [hr]
    rw [hy,this];simpa using h
   ·rename_i vs hs;rw [hs] at hr;simp only [Rel] at hr;split at h
    ·simp only [bG] at h;subst h;have:yielded ops a.tmps j=none:=by
      rw [hy];rw [Array.getD_eq_getD_getElem?] at hr;cases hx:a.tmps[g]? with
      | none=>rfl
      | some x=>rw [hx] at hr;simp at hr;rw [hr]
     rw [this];simp
    ·cases h
   ·cases h
theorem aQz {s s':Nat->SV} (x:Operand)(h:∀t,x=.tmp t->s' t=s t):ev s' x=ev s x:=by
 cases x with
 | tmp t=>exact h t rfl
 | const v=>cases v<;>rfl
 | global g=>rfl
 | func f=>rfl
theorem aPp {s s':Nat->SV} {l:List Operand} (h:∀t∈aCq l,s' t=s t):l.map (ev s')=l.map (ev s):=by
 refine List.map_congr_left fun x hx=>aQz x fun t ht=>h t ?_
 subst ht;exact List.mem_filterMap.2 ⟨.tmp t,hx,rfl⟩
theorem aAu {ks:List Nat} {bk bk':Nat->BK}:∀(l:List Nat) (mb:List BK),(∀k∈l,bk' k=bk k)->vJ ks bk' l mb=vJ ks bk l mb
 | [],_,_=>rfl
 | k::l,mb,h=>by simp only [vJ,h k (by simp),aAu l mb.tail (fun j hj=>h j (by simp [hj]))]
theorem aE7 {xs:List SV} {bk bk':Nat->BK} {fr:Nat} {orc:List Or} {e:Eff} {obs:List Ob} {orc':List Or} {ks:List Nat} (h:uG xs bk fr orc=some (e,obs,orc',ks))(hk:∀k∈ks,bk' k=bk k) :
 uG xs bk' fr orc=some (e,obs,orc',ks):=by
 unfold uG at h ⊢;split at h
 ·split at h
  ·rename_i g fst caps hg;split at h
   ·rename_i args' bs res' upm upn h1 h2 h3 h4 h5;split at h
    ·rename_i hnd;simp only [bG,eA] at h;obtain⟨rfl,rfl,rfl,rfl⟩:=h;rw [aAu _ _ hk];simp only [hg,h1,h2,h3,h4,h5,hnd,if_true]
    ·cases h
   ·cases h
  ·cases h
 ·cases h
theorem aCr {l:List BK} {k:Nat} (h:l.length<=k):l.getD k .un=.un:=by
 simp [gS,List.getElem?_eq_none h]
theorem aGw {o:Oper} {s:FS} {e:Eff} (hd:Does P w0 N D s a W o e)(hnd:∀c,o.op≠.defer c) {Q:Exit->Act->World->Prop} {K:Act->World->Prop}
 (hK:∀ρ' a' W',Rep w0 N D ρ' (s.app o.dst e) a' W'->K a' W'):o.wpIn (Fw r) n P a W K Q:=by
 obtain⟨nx,v,W',ρ',hrun,hnx,hrep⟩:=hd;refine⟨fun _ _=>trivial,?_⟩;rw [Oper.semAt_eq _ _ _ hnd,hrun];rcases hnx with rfl | ⟨rfl,rfl⟩
 ·exact hK ρ' _ _ hrep
 ·exact hK ρ' _ _ hrep
theorem xP (hT:nG P T) {o:Oper} {s:LS} {orc orc':List Or} {e:Eff} {obs:List Ob} {rb:List Nat} (h:aJd T o s orc=some (e,obs,orc',rb))(hob:Obs P obs)
 {s':FS} (hs:∀t∈aCq o.op.operands.toList,s'.sl t=s.fs.sl t) (hb:∀k∈rb++e.ups.map (·.1),s'.bk k=s.fs.bk k)
 (hrep:Rep w0 N D ρ s' a W) (hd:∀d,o.dst=some d->d < N) {Q:Exit->Act->World->Prop} {K:Act->World->Prop}
 (hK:∀ρ' a' W',Rep w0 N D ρ' (s'.app o.dst e) a' W'->K a' W'):o.wpIn (Fw r) n P a W K Q:=by
 have hxs:=aPp hs;have hun:∀u∈e.ups,u.1=s.bk.length->s'.bk s.bk.length=.un:=fun u hu hx=>by
  rw [←hx,hb u.1 (List.mem_append_right _ (List.mem_map_of_mem hu)),hx];exact aCr (Nat.le_refl _)
 unfold aJd at h;split at h
 ·rename_i f args ts hop;have hc:=aE7 (bk':=s'.bk) h (fun k hk=>hb k (by simp [hk]));rw [←hxs] at hc;refine aU0 hop hc hob hrep (fun u hu hle=>?_) hd hK;rw [hb u.1 (List.mem_append_right _ (List.mem_map_of_mem hu))];exact aCr hle
 ·cases h
 ·rename_i hn1 hn2;split at h
  ·rename_i e' obs' orc'' hs';simp only [bG,eA] at h;obtain⟨rfl,rfl,rfl,rfl⟩:=h;rw [←hxs] at hs';have hs'':aNf T o.op (o.op.operands.toList.map (ev s'.sl)) ((jS o.op (o.op.operands.toList.map (ev s'.sl))).map s'.bk) s.bk.length orc=some (e',obs',orc''):=by
    rw [show(jS o.op (o.op.operands.toList.map (ev s'.sl))).map s'.bk=(jS o.op (o.op.operands.toList.map (ev s'.sl))).map s.fs.bk from
     List.map_congr_left fun k hk=>hb k (by rw [hxs] at hk;simp [hk])]
    exact hs'
   exact aGw (aQx hT hs'' hob hrep rfl rfl hun hd) (fun c hc=>hn2 c hc) hK
  ·cases h
theorem Rep.decide {s:FS} {dst:Option Nat} {c d:Bool} {ups:List (Nat×BK)} (h:Rep w0 N D ρ (s.app dst { val:=.v (.bool c),ups:=ups }) a W) (hcd:c=d):Rep w0 N D ρ (s.app dst { val:=.b d,ups:=ups }) a W:=by
 subst hcd;cases dst with
 | none=>exact h
 | some t =>
  refine { h with sl:=fun u=>?_,wf1:=fun u k hk=>?_ }
  ·have:=h.sl u;simp only [FS.app] at this ⊢;split
   ·rename_i hu;rw [if_pos hu] at this;simpa [Rel] using this
   ·rename_i hu;rw [if_neg hu] at this;exact this
  ·have:=h.wf1 u k;simp only [FS.app] at this hk ⊢;split at hk
   ·simp [SV.has] at hk
   ·rename_i hu;rw [if_neg hu] at this;exact this hk
theorem aNq (hT:nG P T) {isG:Bool} {o:Oper} {s:LS} {orc orc':List Or} {v:Ev} {obs:List Ob} (h:aYd T ops isG o s orc=some (v,obs,orc'))(hob:Obs P obs)
 {i:Nat} (hi:ops[i]? = some o) (hd:∀d,o.dst=some d->d < N):xK P r n w0 N D ops i s.fs v:=by
 intro s' hs hb ρ a W Q K hrep hK;unfold wpOpIn;rw [hi];have hdst:jT ops i=o.dst:=by simp [jT,hi]
 rw [hdst] at hK;simp only;unfold aYd at h;have hwant:∀b,aF0 ops s.fs.sl o=some b->(∀t∈aFz ops o,s'.sl t=s.fs.sl t)->aF0 ops s'.sl o=some b:=fun b hb hg=>by
  unfold aF0 at hb ⊢;split at hb
  ·exact hb
  ·rename_i j w hgd;split at hb
   ·cases hb
   ·rename_i g hdj;rw [hg g (by simp [aFz,hgd,hdj])];exact hb
 split at h
 ·cases h
 ·rename_i hw;simp only [bG,eA] at h;obtain⟨rfl,_,_⟩:=h;have:=xO hrep (hwant _ hw (fun t ht=>hs t ht));simp only [this,Bool.false_eq_true,if_false];refine⟨fun _ _=>trivial,hK ρ _ _ ?_⟩;exact hrep.put o.dst hd (by simp [Rel]) (fun k hk=>(eO hk).elim)
 ·rename_i hw;split at h
  ·rename_i k b orc1 ha;split at h
   ·rename_i e obs1 orc2 rb e' obs2 orc3 rb' he1 he2;split at h
    ·rename_i hc;obtain⟨hk,hrb⟩:=hc;simp only [bG,eA] at h;obtain⟨rfl,rfl,_⟩:=h;obtain⟨ho1,ho2⟩:=Obs.append hob;obtain⟨ho2',ho3⟩:=Obs.append ho2;simp only [Obs,Ob.Holds,and_true] at ho3;subst ho3 hrb;have:=xO hrep (hwant _ hw (fun t ht=>hs t (by simp [ht])));simp only [this,if_true];by_cases hag:s'.bk k=s.fs.bk k
     ·refine xP hT he1 ho1 (fun t ht=>hs t (by simp [ht])) (fun j hj=>?_) hrep hd hK;rcases hb j hj with h5 | h5
      ·exact h5
      ·simp only [List.mem_singleton,eA] at h5;obtain⟨rfl,_⟩:=h5;exact hag
     ·refine xP (s:=⟨s.sl,s.bk.set k b⟩) hT he2 ho2' (fun t ht=>hs t (by simp [ht])) (fun j hj=>?_) hrep hd hK;by_cases hjk:j=k
      ·subst hjk;rcases hb j hj with h5 | h5
       ·exact absurd h5 hag
       ·simp only [List.mem_singleton,eA,true_and] at h5;rw [h5];show b=(s.bk.set j b).getD j .un;simp [gS,hk]
      ·rcases hb j hj with h5 | h5
       ·rw [h5];show s.bk.getD j .un=(s.bk.set k b).getD j .un;simp [gS,List.getElem?_set,Ne.symm hjk]
       ·simp only [List.mem_singleton,eA] at h5;exact absurd h5.1 hjk
    ·cases h
   ·cases h
  rename_i hal0;clear hal0;split at h
  ·cases h
  ·rename_i e obs' orc2 rb he;split at h
   ·rename_i c hval;split at h
    ·rename_i d orc3;simp only [bG,eA] at h;obtain⟨rfl,rfl,_⟩:=h;obtain⟨ho1,ho2⟩:=Obs.append hob;simp only [Obs,Ob.Holds,and_true] at ho2;have:=xO hrep (hwant _ hw (fun t ht=>hs t (by simp [ht])));simp only [this,if_true];refine xP hT he ho1 (fun t ht=>hs t (by simp [ht])) (fun j hj=>(hb j hj).resolve_right (fun h=>by cases h)) hrep hd (fun ρ' a' W' h'=>hK ρ' a' W' ?_);obtain⟨ev,eu⟩:=e;simp only at hval;subst hval;exact h'.decide ho2
    ·cases h
   ·simp only [bG,eA] at h;obtain⟨rfl,rfl,_⟩:=h;have:=xO hrep (hwant _ hw (fun t ht=>hs t (by simp [ht])));simp only [this,if_true];exact xP hT he hob (fun t ht=>hs t (by simp [ht])) (fun j hj=>(hb j hj).resolve_right (fun h=>by cases h)) hrep hd hK
end
end Go.Aw
namespace Go.Aw
open Go.RowKit
section
variable {P : Program} {T : Nat → Option TI} {w0 : Cx} {N : Nat} {D : List Deferred} {ρ : Env} {a : Act} {W : World} {r : Option Nat} {n : Nat} {ops : Array Oper}
theorem aJf (hT:nG P T) {all:List Ev} {s0:FS}:∀(l:List Oper) (i:Nat) (s:LS) (orc:List Or) (evs:List Ev) (s':LS) (obs:List Ob) (orc':List Or),qJ T ops l i s orc=some (evs,s',obs,orc')->Obs P obs ->
 (∀j,l[j]? = ops[i+j]?)->(∀j,evs[j]? = all[i+j]?)->s.fs=SD (fG ops all) (fun _=>true) s0 i ->
 evs.length=l.length/\s'.fs=SD (fG ops all) (fun _=>true) s0 (i+l.length)/\s'.sl.length=s.sl.length /\
  ∀j v,evs[j]? = some v->xK P r n w0 s.sl.length D ops (i+j) (SD (fG ops all) (fun _=>true) s0 (i+j)) v
 | [],i,s,orc,evs,s',obs,orc',h,_,_,_,hs=>by
  simp only [qJ,bG,eA] at h;obtain⟨rfl,rfl,_,_⟩:=h;exact⟨rfl,hs,rfl,fun j v hv=>by simp at hv⟩
 | o::l,i,s,orc,evs,s',obs,orc',h,hob,hl,he,hs=>by
  simp only [qJ] at h;split at h
  ·cases h
  ·rename_i v obs1 orc1 hv;split at h
   ·cases h
   ·rename_i s1 happ;split at h
    ·cases h
    ·rename_i vs s2 obs2 orc2 hrest;simp only [bG,eA] at h;obtain⟨rfl,rfl,rfl,rfl⟩:=h;obtain⟨ho1,ho2⟩:=Obs.append hob;have hi:ops[i]? = some o:=by have:=hl 0;simpa using this.symm
     have hall:all[i]? = some v:=by have:=he 0;simpa using this.symm
     obtain⟨hfs,hd,hlen⟩:=aLr happ;have hs1:s1.fs=SD (fG ops all) (fun _=>true) s0 (i+1):=by
      simp only [SD,if_true,fG,hall,←hs];rw [hfs];simp [jT,hi]
     obtain⟨h1,h2,h3,h4⟩:=aJf hT l (i+1) s1 orc1 vs s2 obs2 orc2 hrest ho2 (fun j=>by have:=hl (j+1);simpa [Nat.add_assoc,Nat.add_comm 1 j] using this)
      (fun j=>by have:=he (j+1);simpa [Nat.add_assoc,Nat.add_comm 1 j] using this) hs1
     refine⟨by simp [h1],by rw [h2];congr 1;simp;omega,h3.trans hlen,fun j w hw=>?_⟩;cases j with
     | zero =>
      simp at hw;subst hw;have:=aNq (r:=r) (n:=n) (w0:=w0) (D:=D) hT hv ho1 hi hd;rw [Nat.add_zero,←hs];exact this
     | succ j =>
      have:=h4 j w (by simpa using hw);rw [hlen] at this;rw [show i+(j+1)=i+1+j by omega];exact this
theorem aJg:∀(l:List Oper) (acc:List Nat),(∀j,j < acc.length->(xN l acc)[j]? = acc[j]?)/\(xN l acc).length=acc.length+l.length
 | [],acc=>⟨fun _ _=>rfl,by simp [xN]⟩
 | o::l,acc=>by
  simp only [xN];obtain⟨h1,h2⟩:=aJg l (acc++[(mR o).foldl (fun m e=>m ||| (2 ^ e ||| acc.getD e 0)) 0]);refine⟨fun j hj=>?_,by rw [h2];simp;omega⟩;rw [h1 j (by simp;omega),List.getElem?_append_left hj]
theorem aCs (acc:List Nat):∀(es:List Nat) (m k:Nat),(es.foldl (fun m e=>m ||| (2 ^ e ||| acc.getD e 0)) m).testBit k=true->m.testBit k=true\/∃e∈es,k=e\/(acc.getD e 0).testBit k=true
 | [],m,k,h=>.inl h
 | e::es,m,k,h=>by
  simp only [List.foldl_cons] at h;rcases aCs acc es _ k h with h | ⟨e',he',h⟩
  ·simp only [Nat.testBit_or,Bool.or_eq_true,Nat.testBit_two_pow,decide_eq_true_eq] at h;rcases h with h | h | h
   ·exact .inl h
   ·exact .inr ⟨e,by simp,.inl h.symm⟩
   ·exact .inr ⟨e,by simp,.inr h⟩
  ·exact .inr ⟨e',by simp [he'],h⟩
theorem aNr:∀(l:List Oper) (acc:List Nat) (i:Nat) (o:Oper),l[i]? = some o->∃acc':List Nat,(∀j,j < acc'.length->(xN l acc)[j]? = acc'[j]?)/\acc'.length=acc.length+i /\
 (xN l acc)[acc.length+i]? = some ((mR o).foldl (fun m e=>m ||| (2 ^ e ||| acc'.getD e 0)) 0)
 | [],acc,i,o,h=>by simp at h
 | o'::l,acc,i,o,h=>by
  simp only [xN];cases i with
  | zero =>
   simp at h;subst h;have:=aJg l (acc++[(mR o').foldl (fun m e=>m ||| (2 ^ e ||| acc.getD e 0)) 0]);refine⟨acc,fun j hj=>?_,by simp,?_⟩
   ·rw [this.1 j (by simp;omega),List.getElem?_append_left hj]
   ·rw [this.1 _ (by simp)];simp
  | succ i =>
   simp at h;obtain⟨acc',h1,h2,h3⟩:=aNr l (acc++[(mR o').foldl (fun m e=>m ||| (2 ^ e ||| acc.getD e 0)) 0]) i o h;refine⟨acc',h1,by rw [h2];simp;omega,?_⟩;rw [←h3];congr 1;simp;omega
theorem xQ {o:Oper} {e:Nat}:e∈mR o↔∃x∈o.after,Region.binds .any x=true/\x.on=e:=by
 simp [mR,List.mem_map,List.mem_filter,and_assoc]
def aU2 (ops:Array Oper)(i j:Nat):Prop:=j < i/\((xN ops.toList []).getD i 0).testBit j=true
theorem aLs {D:Nat->Bool} (hcl:∀j o,ops[j]? = some o->D j=true->∀e∈o.after,Region.binds .any e=true->D e.on=true)(hlow:∀i o,ops[i]? = some o->∀e∈o.after,Region.binds .any e=true->e.on < i) :
 ∀(i:Nat) (o:Oper),ops[i]? = some o->(∀e∈o.after,Region.binds .any e=true->D e.on=true)->∀k,((xN ops.toList []).getD i 0).testBit k=true->D k=true:=by
 intro i
 induction i using Nat.strongRecOn with
 | ind i ih =>
  intro o ho hd k hk;obtain⟨acc',h1,h2,h3⟩:=aNr ops.toList [] i o (by simpa using ho);simp only [List.length_nil,Nat.zero_add] at h2 h3;rw [gS,h3] at hk;simp only [Option.getD_some] at hk;rcases aCs _ _ _ _ hk with h | ⟨e,he,h⟩
  ·simp at h
  ·obtain⟨x,hx,hb,rfl⟩:=xQ.1 he;have hlt:=hlow i o ho x hx hb;have hDx:=hd x hx hb;rcases h with rfl | h
   ·exact hDx
   ·have hsz:x.on < ops.size:=by have:=(Array.getElem?_eq_some_iff.1 ho).1;omega
    have hox:ops[x.on]? = some ops[x.on]:=by simp [hsz]
    refine ih x.on hlt _ hox (hcl _ _ hox hDx) k ?_;rw [gS,h1 x.on oM,←gS];exact h
theorem uH {l m:List Nat} (h:aQy l m=true):∀x∈l,x ∉ m:=by
 intro x hx;have:=List.all_eq_true.1 h x hx;simpa using this
def iG:Nat⊕Nat->Nat | .inl t=>2*t | .inr k=>2*k+1
theorem Obs.mem:∀{l:List Ob},Obs P l->∀o∈l,o.Holds P
 | _::_,h,o,ho=>by
  rcases List.mem_cons.1 ho with rfl | ho
  ·exact h.1
  ·exact Obs.mem h.2 o ho
theorem aJh {k:Nat} {b:BK}:∀(us:List (Nat×BK)) (f:Nat->BK),(∃u∈us,u.1=k)->(∀u∈us,u.1=k->u.2=b)->cN f us k=b
 | [],_,h,_=>by obtain⟨u,hu,_⟩:=h;cases hu
 | (j,y)::us,f,h,ha=>by
  simp only [cN];by_cases hin:∃u∈us,u.1=k
  ·exact aJh us _ hin (fun u hu=>ha u (List.mem_cons_of_mem _ hu))
  ·rw [nZ us _ k (fun u hu e=>hin ⟨u,hu,e⟩)];obtain⟨u,hu,e⟩:=h;rcases List.mem_cons.1 hu with rfl | hu
   ·simp only at e;have:=ha (j,y) List.mem_cons_self e;simp [e,←this]
   ·exact(hin ⟨u,hu,e⟩).elim
theorem aQ0 {evs:List Ev} (hob:Obs P (zQ ops evs)) {i j:Nat} (hji:j < i)(hd:¬aU2 ops i j) {vi vj:Ev} (hi:evs[i]? = some vi)(hj:evs[j]? = some vj) {x:Nat⊕Nat} (hw:iG x∈wrC (jT ops i) vi)(ha:iG x∈aJe vj)(s:FS) :
 ∃v k b,evs[j]? = some v/\x=.inr k/\(k,b)∈v.alt/\(fG ops evs i s).at' x=.inr b:=by
 obtain⟨q,hq,he⟩:=List.mem_map.1 ha;cases x with
 | inl t=>simp only [iG] at he;omega
 | inr k =>
  simp only [iG] at he;have hqk:q.1=k:=by omega
  refine⟨vj,k,q.2,hj,rfl,by rw [←hqk];exact hq,?_⟩;have hmem:∃u∈vi.eff.ups,u.1=k:=by
   simp only [wrC,iG,List.mem_append,List.mem_map,Option.mem_toList] at hw;rcases hw with hw | ⟨u,hu,e⟩
   ·cases hdd:jT ops i with
    | none=>rw [hdd] at hw;simp at hw
    | some d=>rw [hdd] at hw;simp at hw;omega
   ·exact⟨u,hu,by omega⟩
  have hall:∀u∈vi.eff.ups,u.1=k->u.2=q.2:=fun u hu e=>by
   have hil:=(List.getElem?_eq_some_iff.1 hi).1;have hjl:=(List.getElem?_eq_some_iff.1 hj).1;have hm:(Ob.pr (u.2=q.2))∈zQ ops evs:=by
    unfold zQ;refine List.mem_flatMap.2 ⟨j,by simp [hjl],List.mem_flatMap.2 ⟨q,by rw [hj];exact hq,List.mem_flatMap.2 ⟨i,by simp [hil],List.mem_flatMap.2 ⟨u,by rw [hi];exact hu,?_⟩⟩⟩⟩;have hb:(((xN ops.toList []).getD i 0).testBit j)=false:=by
     cases hb:(((xN ops.toList []).getD i 0).testBit j)
     case false=>rfl
     exact absurd ⟨hji,hb⟩ hd
    rw [hb,if_pos (by simp [hji,e,hqk])];simp
   exact Obs.mem hob _ hm
  simp only [FS.at',fG,hi,FS.app];rw [aJh vi.eff.ups s.bk hmem hall]
theorem aGx {evs:List Ev} (hlen:evs.length=ops.size)(h:aGv ops evs=true)(hob:Obs P (zQ ops evs)) :
 Conf ops.size (fG ops evs) (fun i x=>∃v,evs[i]? = some v/\iG x∈wrC (jT ops i) v) (fun i x=>∃v,evs[i]? = some v/\iG x∈rdC v) (fun i x=>∃v,evs[i]? = some v/\iG x∈aJe v)
  (fun i x y=>∃v k b,evs[i]? = some v/\x=.inr k/\(k,b)∈v.alt/\y=.inr b) (aU2 ops) /\
 (∀i o,ops[i]? = some o->∀e∈o.after,Region.binds .any e=true->e.on < i):=by
 unfold aGv at h;simp only [List.all_eq_true,List.mem_range,Bool.and_eq_true] at h;have hw:∀i v,evs[i]? = some v->(((ops.toList.zip evs).map fun(x:Oper×Ev)=>wrC x.1.dst x.2).getD i [])=wrC (jT ops i) v:=fun i v hv=>by
  have hi:i < ops.size:=by rw [←hlen];exact(List.getElem?_eq_some_iff.1 hv).1
  have ho:ops.toList[i]? = some ops[i]:=by simp [hi]
  have hz:(ops.toList.zip evs)[i]? = some (ops[i],v):=List.getElem?_zip_eq_some.2 ⟨ho,hv⟩;simp only [gS,List.getElem?_map,hz,Option.map_some,Option.getD_some];simp [jT,hi]
 have hr:∀i v,evs[i]? = some v->((evs.map rdC).getD i [])=rdC v:=fun i v hv=>by
  simp [gS,hv]
 have hq:∀i v,evs[i]? = some v->((evs.map aJe).getD i [])=aJe v:=fun i v hv=>by
  simp [gS,hv]
 have pair:∀i j vi vj,j < i->evs[i]? = some vi->evs[j]? = some vj->aU2 ops i j\/((∀x,iG x∈wrC (jT ops j) vj->iG x ∉ wrC (jT ops i) vi/\iG x ∉ rdC vi/\iG x ∉ aJe vi)/\(∀x,iG x∈wrC (jT ops i) vi->iG x ∉ rdC vj/\(iG x∈aJe vj->∀s,∃v k b,evs[j]? = some v/\x=.inr k/\(k,b)∈v.alt/\(fG ops evs i s).at' x=.inr b))):=fun i j vi vj hji hi hj=>by
  have hil:=(List.getElem?_eq_some_iff.1 hi).1;have:=(h i hil).2 j hji;simp only [Bool.or_eq_true,Bool.and_eq_true] at this;by_cases hdp:aU2 ops i j
  ·exact .inl hdp
  rcases this with h' | ⟨⟨⟨h1,h2⟩,h3⟩,h4⟩
  ·exact .inl ⟨hji,h'⟩
  ·rw [show(fun x:Oper×Ev=>match x with | (o,v)=>wrC o.dst v)=fun x:Oper×Ev=>wrC x.1.dst x.2 from rfl] at h1 h2 h3 h4;rw [hw i vi hi] at h1 h3;rw [hw j vj hj] at h1 h2 h4;rw [hq i vi hi] at h4;rw [hr i vi hi] at h2;rw [hr j vj hj] at h3;exact .inr ⟨fun x hx=>⟨uH h1 _ hx,uH h2 _ hx,uH h4 _ hx⟩,fun x hx=>⟨uH h3 _ hx,fun ha s=>aQ0 hob hji hdp hi hj hx ha s⟩⟩
 refine⟨{ out:=fun i s x hx=>?_,same:=fun i s s' x hx=>?_,low:=fun i j hd=>hd.1,free:=fun i j hi hj hij=>?_ },fun i o ho e he hb=>?_⟩
 ·unfold fG;cases hv:evs[i]? with
  | none=>rfl
  | some v =>
   have hnot:iG x ∉ wrC (jT ops i) v:=fun h=>hx ⟨v,hv,h⟩
   simp only [wrC,List.mem_append,not_or] at hnot;cases x with
   | inl t =>
    simp only [FS.at',FS.app];cases hd:jT ops i with
    | none=>rfl
    | some d =>
     have:t≠d:=fun e=>hnot.1 (by rw [hd];simp [iG,e])
     simp [this]
   | inr k =>
    simp only [FS.at',FS.app];rw [nZ];intro u hu e;exact hnot.2 (List.mem_map.2 ⟨u,hu,by simp [iG,e]⟩)
 ·obtain⟨v,hv,hx⟩:=hx;simp only [fG,hv];simp only [wrC,List.mem_append] at hx;cases x with
  | inl t =>
   simp only [FS.at',FS.app];rcases hx with hx | hx
   ·cases hd:jT ops i with
    | none=>rw [hd] at hx;simp at hx
    | some d =>
     rw [hd] at hx;simp [iG] at hx;have:t=d:=by omega
     simp [this]
   ·simp [iG] at hx;omega
  | inr k =>
   simp only [FS.at',FS.app];rcases hx with hx | hx
   ·cases hd:jT ops i with
    | none=>rw [hd] at hx;simp at hx
    | some d=>rw [hd] at hx;simp [iG] at hx;omega
   ·congr 1;have hmem:∃u∈v.eff.ups,u.1=k:=by
     obtain⟨u,hu,e⟩:=List.mem_map.1 hx;exact⟨u,hu,by simp [iG] at e;omega⟩
    clear hx hv;generalize v.eff.ups=us at hmem;generalize s.bk=f;generalize s'.bk=g
    induction us generalizing f g with
    | nil=>obtain⟨u,hu,_⟩:=hmem;cases hu
    | cons u us ih =>
     obtain⟨j,y⟩:=u;simp only [cN];by_cases hin:∃u∈us,u.1=k
     ·exact ih hin _ _
     ·rw [nZ us _ k (fun u hu e=>hin ⟨u,hu,e⟩),nZ us _ k (fun u hu e=>hin ⟨u,hu,e⟩)];obtain⟨u,hu,e⟩:=hmem;rcases List.mem_cons.1 hu with rfl | hu
      ·simp only at e;simp [e]
      ·exact(hin ⟨u,hu,e⟩).elim
 ·have hvi:evs[i]? = some evs[i]:=by simp
  have hvj:evs[j]? = some evs[j]:=by simp
  rcases Nat.lt_or_ge j i with hlt | hge
  ·rcases pair i j _ _ hlt hvi hvj with h' | ⟨h1,h2⟩
   ·exact .inl h'
   ·refine .inr (.inr ⟨fun x hx=>?_,fun x hx=>?_⟩)
    ·obtain⟨v,hv,hx⟩:=hx;rw [hvi] at hv;cases hv;refine⟨fun⟨v,hv,hx'⟩=>?_,fun⟨v,hv,hx'⟩=>?_⟩
     ·rw [hvj] at hv;cases hv;exact(h1 x hx').1 hx
     ·rw [hvj] at hv;cases hv;exact(h2 x hx).1 hx'
    ·obtain⟨v,hv,hx⟩:=hx;rw [hvj] at hv;cases hv;refine⟨fun⟨v,hv,hx'⟩=>?_,fun⟨v,hv,hx'⟩=>?_⟩
     ·rw [hvi] at hv;cases hv;exact(h1 x hx).2.1 hx'
     ·rw [hvi] at hv;cases hv;exact((h1 x hx).2.2 hx').elim
  ·have hlt:i < j:=by omega
   rcases pair j i _ _ hlt hvj hvi with h' | ⟨h1,h2⟩
   ·exact .inr (.inl h')
   ·refine .inr (.inr ⟨fun x hx=>?_,fun x hx=>?_⟩)
    ·obtain⟨v,hv,hx⟩:=hx;rw [hvi] at hv;cases hv;exact⟨fun⟨v,hv,hx'⟩=>by rw [hvj] at hv;cases hv;exact(h1 x hx).1 hx',fun⟨v,hv,hx'⟩=>by rw [hvj] at hv;cases hv;exact(h1 x hx).2.1 hx'⟩
    ·obtain⟨v,hv,hx⟩:=hx;rw [hvj] at hv;cases hv;refine⟨fun⟨v,hv,hx'⟩=>?_,fun⟨v,hv,hx'⟩=>?_⟩
     ·rw [hvi] at hv;cases hv;exact(h2 x hx).1 hx'
     ·rw [hvi] at hv;cases hv;exact⟨hlt,(h2 x hx).2 hx'⟩
 ·have hi:i < evs.length:=by rw [hlen];exact(Array.getElem?_eq_some_iff.1 ho).1
  have:=(h i hi).1;have ho':ops.toList[i]? = some o:=by simpa using ho
  rw [ho'] at this;simp only [Option.map_some,Option.getD_some,List.all_eq_true,decide_eq_true_eq] at this;exact this e.on (xQ.2 ⟨e,he,hb,rfl⟩)
theorem aGy (hT:nG P T)(hm:P.follows .mixedOrders=true) {s s':LS} {orc orc':List Or} {evs:List Ev} {obs:List Ob} {draw:Bool} {id:Nat}
 (h:qJ T ops ops.toList 0 s orc=some (evs,s',obs,orc')) (hob:Obs P obs) (hrace:draw=true->aGv ops evs=true/\Obs P (zQ ops evs)) (hrep:Rep w0 s.sl.length D ρ s.fs a W) {Q:Exit->Act->World->Prop}
 (hQ:∀ρ' a' W',Rep w0 s'.sl.length D ρ' s'.fs a' W'->Q .normal a' W'):(Code.region id ops draw).wpIn (Fw r) n P Q a W:=by
 obtain⟨h1,h2,h3,h4⟩:=aJf (ops:=ops) (r:=r) (n:=n) (w0:=w0) (D:=D) (all:=evs) (s0:=s.fs) hT ops.toList 0 s orc evs s' obs orc' h hob (fun j=>by simp) (fun j=>by simp) rfl;have hlen:evs.length=ops.size:=by rw [h1];simp
 have hfin:s'.fs=SD (fG ops evs) (fun _=>true) s.fs ops.size:=by rw [h2];simp
 have hloc:∀i v,evs[i]? = some v->xK P r n w0 s.sl.length D ops i (SD (fG ops evs) (fun _=>true) s.fs i) v:=fun i v hv=>by
  have:=h4 i v hv;simpa using this
 have hQ':∀ρ' a' W',Rep w0 s.sl.length D ρ' (SD (fG ops evs) (fun _=>true) s.fs ops.size) a' W'->Q .normal a' W':=fun ρ' a' W' h'=>hQ ρ' a' W' (by rw [h3,hfin];exact h')
 cases draw
 case false=>exact aI8 hlen hloc hrep hQ'
 obtain⟨c,hlow⟩:=aGx hlen (hrace rfl).1 (hrace rfl).2;refine aLp hlen hm c (fun i v t hv ht=>⟨v,hv,?_⟩) (fun i v k hv hk=>?_) hlow (fun D i o ho hcl hd k hk=>?_) hloc hrep hQ'
 ·simp only [rdC,iG];exact List.mem_append_left _ (List.mem_map.2 ⟨t,ht,rfl⟩)
 ·by_cases hal:k∈v.alt.map (·.1)
  ·obtain⟨q,hq,rfl⟩:=List.mem_map.1 hal;refine .inr ⟨⟨v,hv,by simp only [aJe,iG];exact List.mem_map.2 ⟨q,hq,rfl⟩⟩,fun y hy=>?_⟩;obtain⟨v',k',b,hv',hk',hb,rfl⟩:=hy;rw [hv] at hv';cases hv';cases hk';exact⟨b,rfl,hb⟩
  ·refine .inl ⟨v,hv,?_⟩;simp only [rdC,iG];exact List.mem_append_right _ (List.mem_map.2 ⟨k,List.mem_filter.2 ⟨hk,by simpa using hal⟩,rfl⟩)
 ·exact aLs hcl hlow i o ho hd k hk.2
end
end Go.Aw
namespace Go.Aw
open Go.RowKit
inductive K where
 | c (x:Code)
 | b (id:Nat)
 | l (body:Code) (m:Nat)
 | s (body : Code) (m : Nat)     -- the end of a scope; at most m jumps to a label of it
def aCt (F:Fence)(n:Nat)(P:Program)(c:Code)(Q:Exit->Act->World->Prop):Nat->Exit->Act->World->Prop
 | 0,e,a,w=>match e with
  | .goto _=>False
  | e=>Q e a w
 | m+1,e,a,w=>match e with
  | .goto l=>∃rest,findLabel c l=some rest/\rest.wpIn F n P (aCt F n P c Q m) a w
  | e=>Q e a w
theorem rG {F:Fence} {n:Nat} {P:Program} {c:Code} {Q:Exit->Act->World->Prop} {m:Nat} {e:Exit} {a:Act} {w:World} (h:∀l,e≠.goto l):aCt F n P c Q m e a w=Q e a w:=by
 cases m<;>cases e<;>first | rfl | exact absurd rfl (h _)
theorem aJi {P:Program} {b:Frame} {a:Act} {k:List Item} {cs:List Frame} {w:World} {c:Code}:step P (lone (b.atR a (.code (.scope c)::k)) cs w)=.next (lone (b.atR a (.code c::.inScope c::k)) cs w) :=
 step_lone_go (by simp [stepG,stepG.exec,Frame.atR])
theorem vK {P:Program} {b:Frame} {a:Act} {k:List Item} {cs:List Frame} {w:World} {c:Code}:step P (lone (b.atR a (.inScope c::k)) cs w)=.next (lone (b.atR a k) cs w) :=
 step_lone_go (by simp [stepG,stepG.exec,Frame.atR])
theorem aLt {F:Fence} {n:Nat} {P:Program} {c:Code} {Q:Exit->Act->World->Prop} {a:Act} {w:World} (m:Nat)(h:c.wpIn F n P (aCt F n P c Q m) a w):(Code.scope c).wpIn F n P Q a w:=by
 intro b k cs hro hb hr;have key:∀m (c':Code) a w,c'.wpIn F n P (aCt F n P c Q m) a w->∃e a' w',Q e a' w'/\ArrivesIn (Machine.fenced P F) P (lone (b.atR a (.code c'::.inScope c::k)) cs w) b k cs e a' w':=by
  intro m
  induction m with
  | zero =>
   intro c' a w h;obtain⟨e,a₁,w₁,hq,harr⟩:=h b (.inScope c::k) cs hro hb hr;cases e with
   | normal=>exact⟨.normal,a₁,w₁,hq,StepsIn.trans harr (.one (fenced_calm hb hr rfl) vK)⟩
   | exit id=>exact⟨.exit id,a₁,w₁,hq,fun k' hk=>harr.1 k' (by simp [exitTo,hk]),fun hr' hk=>harr.2 hr' (by simp [exitTo,hk])⟩
   | goto l=>exact hq.elim
   | ret=>exact⟨_,a₁,w₁,hq,harr⟩
   | panic ch=>exact⟨_,a₁,w₁,hq,harr⟩
   | outgrown=>exact⟨_,a₁,w₁,hq,harr⟩
  | succ m ih =>
   intro c' a w h;obtain⟨e,a₁,w₁,hq,harr⟩:=h b (.inScope c::k) cs hro hb hr;cases e with
   | normal=>exact⟨.normal,a₁,w₁,hq,StepsIn.trans harr (.one (fenced_calm hb hr rfl) vK)⟩
   | exit id=>exact⟨.exit id,a₁,w₁,hq,fun k' hk=>harr.1 k' (by simp [exitTo,hk]),fun hr' hk=>harr.2 hr' (by simp [exitTo,hk])⟩
   | goto l =>
    obtain⟨rest,hf,hq⟩:=hq;have hg:gotoIn l (.inScope c::k)=some (.code rest::.inScope c::k):=by simp [gotoIn,hf]
    obtain⟨e₂,a₂,w₂,hq₂,harr₂⟩:=ih rest a₁ w₁ hq;exact⟨e₂,a₂,w₂,hq₂,.of_steps (harr.1 _ hg) harr₂⟩
   | ret=>exact⟨_,a₁,w₁,hq,harr⟩
   | panic ch=>exact⟨_,a₁,w₁,hq,harr⟩
   | outgrown=>exact⟨_,a₁,w₁,hq,harr⟩
 obtain⟨e,a',w',hq,harr⟩:=key m c a w h;exact⟨e,a',w',hq,.of_steps (.one (fenced_calm hb hr rfl) aJi) harr⟩
def gR (r:Option Nat)(n:Nat)(P:Program)(Q:Exit->Act->World->Prop):List K->Exit->Act->World->Prop
 | [],e=>Q e
 | .c x::k,e=>match e with
  | .normal=>x.wpIn (Fw r) n P (gR r n P Q k)
  | e=>gR r n P Q k e
 | .b id::k,e=>match e with
  | .exit id'=>if id == id' then gR r n P Q k .normal else gR r n P Q k (.exit id')
  | e=>gR r n P Q k e
 | .l body m::k,e=>match e with
  | .normal=>Code.roundsIn (Fw r) n P body (gR r n P Q k) m
  | e=>gR r n P Q k e
 | .s body m::k,e=>aCt (Fw r) n P body (gR r n P Q k) m e
def kN (id:Nat):List K->Option (List K) | []=>none | .b id'::k=>if id' == id then some k else kN id k | .c _::k=>kN id k | .l _ _::k=>kN id k | .s _ _::k=>kN id k
inductive Out where
 | ret (s:LS)
 | norm (s:LS)
 | enter (body:Code) (k:List K) (s:LS)
 | back (body:Code) (m:Nat) (k:List K) (s:LS)
 | at (x:Code) (k:List K) (s:LS)
def bA6 (id:Nat):List Or->Option (List Or) | .stop j::orc=>if j=id then some orc else none | _=>none
def run (T:Nat->Option TI):Nat->List K->LS->List Or->Option (Out×List Ob×List Or)
 | 0,_,_,_=>none
 | f+1,k,s,orc =>
  match k with
  | []=>some (.norm s,[],orc)
  | .b _::k=>run T f k s orc
  | .s _ _::k=>run T f k s orc
  | .l body m::k=>match orc with
   | .un _::orc'=>match m with
    | m+1=>run T f (.c body::.l body m::k) s orc'
    | 0=>none
   | _=>some (.back body m k s,[],orc)
  | .c x::k =>
   match x with
   | .skip=>run T f k s orc
   | .label _=>run T f k s orc
   | .seq a b=>run T f (.c a::.c b::k) s orc
   | .block id c=>run T f (.c c::.b id::k) s orc
   | .exit id=>match kN id k with
    | some k'=>run T f k' s orc
    | none=>none
   | .ret=>some (.ret s,[],orc)
   | .loop body=>match orc with
    | .un m::orc'=>run T f (.c body::.l body m::k) s orc'
    | _=>some (.enter body k s,[],orc)
   | .cond c a b=>match ev s.fs.sl c with
    | .b d=>run T f (.c (match d with | true=>a | false=>b)::k) s orc
    | .v (.bool x)=>match orc with
     | .d d::orc=>match run T f (.c (match d with | true=>a | false=>b)::k) s orc with
      | some (o,obs,orc)=>some (o,.eq x d::obs,orc)
      | none=>none
     | _=>none
    | _=>none
   | .region id ops draw=>match bA6 id orc with
    | some orc'=>some (.at (.region id ops draw) k s,[],orc')
    | none=>match qJ T ops ops.toList 0 s orc with
     | some (evs,s',obs,orc)=>if(!draw || aGv ops evs)=true then
      match run T f k s' orc with
      | some (o,obs',orc)=>some (o,obs++((if draw=true then zQ ops evs else [])++obs'),orc)
      | none=>none
      else none
     | none=>none
   | .scope x=>match orc with
    | .un m::orc'=>run T f (.c x::.s x m::k) s orc'
    | _=>none
   | .goto l=>some (.at (.goto l) k s,[],orc)
   | .rangeFunc g ps x y=>some (.at (.rangeFunc g ps x y) k s,[],orc)
   | _=>none
section
variable {P : Program} {T : Nat → Option TI} {cx : Cx} {D : List Deferred} {r : Option Nat} {n : Nat} {Q : Exit → Act → World → Prop}
def Good (P:Program)(r:Option Nat)(n:Nat)(Q:Exit->Act->World->Prop)(cx:Cx)(D:List Deferred)(k:List K)(s:LS):Prop := ∀(ρ:Env) (a:Act) (W:World),Rep cx s.sl.length D ρ s.fs a W->gR r n P Q k .normal a W
def gW (Q:Exit->Act->World->Prop)(e:Exit)(cx:Cx)(D:List Deferred)(s:LS):Prop:=∀(ρ:Env) (a:Act) (W:World),Rep cx s.sl.length D ρ s.fs a W->Q e a W
def aGz (P:Program)(r:Option Nat)(n:Nat)(Q:Exit->Act->World->Prop)(cx:Cx)(D:List Deferred):Out->Prop | .ret s=>gW Q .ret cx D s | .norm s=>gW Q .normal cx D s | .enter body k s=>∃m,Good P r n Q cx D (.l body m::k) s | .back body m k s=>Good P r n Q cx D (.l body m::k) s | .at x k s=>Good P r n Q cx D (.c x::k) s
theorem aCu {k:List K} {e:Exit} (h:e≠.normal)(hx:∀id,e≠.exit id)(hg:∀l,e≠.goto l):gR r n P Q k e=Q e:=by
 induction k with
 | nil=>rfl
 | cons x k ih =>
  cases x with
  | s body m=>funext a w;simp only [gR];rw [rG hg,ih]
  | _=>cases e<;>simp_all [gR]
theorem qK {id:Nat} {a:Act} {W:World}:∀{k k':List K},kN id k=some k'->gR r n P Q k' .normal a W->gR r n P Q k (.exit id) a W
 | [],k',h,_=>by simp [kN] at h
 | .b id'::k,k',h,hg=>by
  simp only [kN] at h;simp only [gR];split at h
  ·rename_i hid;simp only [bG] at h;subst h;rw [if_pos hid];exact hg
  ·rename_i hid;rw [if_neg hid];exact qK h hg
 | .c _::k,k',h,hg=>by simp only [kN] at h;simp only [gR];exact qK h hg
 | .l _ _::k,k',h,hg=>by simp only [kN] at h;simp only [gR];exact qK h hg
 | .s _ _::k,k',h,hg=>by simp only [kN] at h;simp only [gR];rw [rG (by simp)];exact qK h hg
theorem aN {body:Code} {m:Nat} {k:List K} {s:LS} (h:Good P r n Q cx D (.c body::.l body m::k) s):Good P r n Q cx D (.l body (m+1)::k) s:=by
 intro ρ a W hrep;have:=h ρ a W hrep;simp only [gR] at this ⊢;rw [roundsIn_succ];refine wpIn_mono this (fun e a w hq=>?_);cases e<;>simpa [gR,Exit.then] using hq
theorem aPq {c rest:Code} {l m:Nat} {k:List K} {s:LS} (hf:findLabel c l=some rest)(h:Good P r n Q cx D (.c rest::.s c m::k) s):Good P r n Q cx D (.c (.goto l)::.s c (m+1)::k) s:=by
 intro ρ a W hrep;have:=h ρ a W hrep;simp only [gR] at this ⊢;exact wpIn_goto ⟨rest,hf,this⟩
theorem fX (hT:nG P T)(hm:P.follows .mixedOrders=true):∀(f:Nat) (k:List K) (s:LS) (orc:List Or) (out:Out) (obs:List Ob) (orc':List Or),run T f k s orc=some (out,obs,orc')->Obs P obs ->
 aGz P r n Q cx D out->Good P r n Q cx D k s
 | 0,_,_,_,_,_,_,h,_,_=>by simp [run] at h
 | f+1,[],s,orc,out,obs,orc',h,_,hg=>by
  simp only [run,bG,eA] at h;obtain⟨rfl,_,_⟩:=h;exact hg
 | f+1,.b id::k,s,orc,out,obs,orc',h,ho,hg=>by
  simp only [run] at h;have:=fX hT hm f k s orc out obs orc' h ho hg;exact fun ρ a W hrep=>this ρ a W hrep
 | f+1,.s body m::k,s,orc,out,obs,orc',h,ho,hg=>by
  simp only [run] at h;have:=fX hT hm f k s orc out obs orc' h ho hg;exact fun ρ a W hrep=>by
   simp only [gR];rw [rG (by simp)];exact this ρ a W hrep
 | f+1,.l body m::k,s,orc,out,obs,orc',h,ho,hg=>by
  simp only [run] at h;split at h
  ·split at h
   ·rename_i m;exact aN (fX hT hm f _ s _ out obs orc' h ho hg)
   ·cases h
  ·simp only [bG,eA] at h;obtain⟨rfl,_,_⟩:=h;exact hg
 | f+1,.c x::k,s,orc,out,obs,orc',h,ho,hg=>by
  simp only [run] at h;split at h
  ·-- skip
   have:=fX hT hm f k s orc out obs orc' h ho hg;exact fun ρ a W hrep=>wpIn_skip (this ρ a W hrep)
  ·-- label
   have:=fX hT hm f k s orc out obs orc' h ho hg;exact fun ρ a W hrep=>wpIn_label (this ρ a W hrep)
  ·-- seq
   rename_i x y;have:=fX hT hm f (.c x::.c y::k) s orc out obs orc' h ho hg;intro ρ a W hrep;have:=this ρ a W hrep;simp only [gR] at this ⊢;refine wpIn_seq (wpIn_mono this fun e a w hq=>?_);cases e<;>simpa [gR,Exit.then] using hq
  ·-- block
   rename_i id c;have:=fX hT hm f (.c c::.b id::k) s orc out obs orc' h ho hg;intro ρ a W hrep;have:=this ρ a W hrep;simp only [gR] at this ⊢;refine wpIn_block (wpIn_mono this fun e a w hq=>?_);cases e<;>simp only [gR,Exit.inBlock] at hq ⊢<;>try exact hq
   rename_i id';by_cases hid:id=id'
   ·subst hid;simpa using hq
   ·have h1:(id == id')=false:=by simpa using hid
    have h2:(id' == id)=false:=by simpa using fun e=>hid e.symm
    simp only [h1,h2,Bool.false_eq_true,if_false] at hq ⊢
    first | exact hq | (rw [if_neg (fun e=>hid e.symm)];exact hq) | (rw [if_neg hid];exact hq)
  ·-- exit
   rename_i id;split at h
   ·rename_i k' hk';have:=fX hT hm f k' s orc out obs orc' h ho hg;exact fun ρ a W hrep=>wpIn_exit (qK hk' (this ρ a W hrep))
   ·cases h
  ·-- ret
   simp only [bG,eA] at h;obtain⟨rfl,_,_⟩:=h;intro ρ a W hrep;simp only [gR];refine wpIn_ret ?_;rw [aCu (by simp) (by simp) (by simp)];exact hg ρ a W hrep
  ·-- loop
   rename_i body;split at h
   ·rename_i m orc2;have:=aN (fX hT hm f _ s orc2 out obs orc' h ho hg);exact fun ρ a W hrep=>wpIn_loop_rounds (m+1) (this ρ a W hrep)
   ·simp only [bG,eA] at h;obtain⟨rfl,_,_⟩:=h;obtain⟨m,hg⟩:=hg;exact fun ρ a W hrep=>wpIn_loop_rounds m (hg ρ a W hrep)
  ·-- cond
   rename_i c x y;split at h
   ·rename_i d hc;have:=fX hT hm f _ s orc out obs orc' h ho hg;intro ρ a W hrep;have hr:=bW hrep c;rw [hc] at hr;simp only [Rel] at hr;have:=this ρ a W hrep;simp only [gR] at this ⊢;refine wpIn_cond hr ?_;cases d<;>exact this
   ·rename_i b hc;split at h
    ·rename_i d orc2;split at h
     ·rename_i o' obs' orc3 hrun;simp only [bG,eA] at h;obtain⟨rfl,rfl,rfl⟩:=h;obtain⟨h1,h2⟩:=ho;simp only [Ob.Holds] at h1;have:=fX hT hm f _ s orc2 o' obs' orc3 hrun h2 hg;intro ρ a W hrep;have hr:=bW hrep c;rw [hc] at hr;simp only [Rel] at hr;have:=this ρ a W hrep;simp only [gR] at this ⊢;refine wpIn_cond hr ?_;rw [h1];cases d<;>exact this
     ·cases h
    ·cases h
   ·cases h
  ·-- region
   rename_i id ops draw;split at h
   ·simp only [bG,eA] at h;obtain⟨rfl,_,_⟩:=h;exact hg
   ·split at h
    ·rename_i evs s' obs1 orc1 hev;split at h
     ·rename_i hrace;split at h
      ·rename_i o' obs2 orc2 hrun;simp only [bG,eA] at h;obtain⟨rfl,rfl,rfl⟩:=h;obtain⟨h1,h2⟩:=Obs.append ho;obtain⟨h3,h2⟩:=Obs.append h2;have:=fX hT hm f k s' orc1 o' obs2 orc2 hrun h2 hg;intro ρ a W hrep;simp only [gR];exact aGy hT hm hev h1 (fun hd=>by subst hd;exact⟨by simpa using hrace,h3⟩) hrep (fun ρ' a' W' h'=>this ρ' a' W' h')
      ·cases h
     ·cases h
    ·cases h
  ·-- scope
   rename_i x;split at h
   ·rename_i m orc2;have:=fX hT hm f (.c x::.s x m::k) s orc2 out obs orc' h ho hg;intro ρ a W hrep;have:=this ρ a W hrep;simp only [gR] at this ⊢;exact aLt m this
   ·cases h
  ·-- goto
   simp only [bG,eA] at h;obtain⟨rfl,_,_⟩:=h;exact hg
  ·-- a range over a function
   simp only [bG,eA] at h;obtain⟨rfl,_,_⟩:=h;exact hg
  ·cases h
end
end Go.Aw
namespace Go.Aw
open Go.RowKit
def nI (T:Nat->Option TI)(s:FS):List ResultVar->Option (List SV)
 | []=>some []
 | .tmp t::l=>match nI T s l with
  | some m=>some (s.sl t::m)
  | none=>none
 | .cell a t::l=>match s.sl a,T t with
  | .p k off,some i=>match s.bk k with
   | .live own false cells=>if((cells.drop off).take i.size).length=i.size then
    match mkV i.agg ((cells.drop off).take i.size),nI T s l with
    | some x,some m=>some (x::m)
    | _,_=>none
    else none
   | _=>none
  | _,_=>none
def aNs:List SV->SV | [x]=>x | l=>.t l
def aLu (R:List Nat):BK->Option BK
 | .dead=>some .dead
 | .map es=>some (.map es)
 | .live true true cells=>some (.live true true cells)
 | .live true false cells=>match renL R cells with
  | some cells=>some (.live true false cells)
  | none=>none
 | _=>none
def aJj (ks:List Nat)(bk:Nat->BK):List Nat->Option (List BK)
 | []=>some []
 | k::l=>match aLu ks (bk k),aJj ks bk l with
  | some x,some m=>some (x::m)
  | _,_=>none
def aJk (R ms:List Nat)(bk:Nat->BK):Nat->Nat->Option (List BK)
 | _,0=>some []
 | i,n+1=>match (if ms.contains i then aLu R (bk i) else some .un),aJk R ms bk (i+1) n with
  | some x,some m=>some (x::m)
  | _,_=>none
def fin (T:Nat->Option TI)(rv:List ResultVar)(base:Nat)(ms ks:List Nat)(s:LS):Option (SV×List BK×List BK) :=
 match nI T s.fs rv with
 | none=>none
 | some l=>match ren (List.range base++ks) (aNs l),aJj (List.range base++ks) s.fs.bk ks,(match ms with | []=>some [] | _=>aJk (List.range base++ks) ms s.fs.bk 0 base) with
  | some res,some nb,some mb=>if wC ks&&ks.all (fun k=>decide (base<=k)) then some (res,nb,mb) else none
  | _,_,_=>none
section
variable {P : Program} {T : Nat → Option TI} {cx : Cx} {n : Nat}
def aCv (tmps:Array Value)(x:ResultVar):Sem Value :=
 match x with
 | .tmp t=>pure (tmps.getD t undef)
 | .cell a t=>do loadVar t (←asAddr (tmps.getD a undef))
theorem wF (fn:Func)(tmps:Array Value):results fn tmps=(fn.results.mapM (aCv tmps) >>= fun vs=>pure (if h:vs.size=1 then vs[0] else .tuple vs)):=by
 unfold results;congr 2
theorem aLv (x:Addr)(W:World):(asAddr (.pointer (some x))).run P W=.ok x W:=rfl
theorem rH (hT:nG P T) {N:Nat} {D:List Deferred} {s:FS} {ρ:Env} {a:Act} {W:World} (hrep:Rep cx N D ρ s a W):∀(rv:List ResultVar) (l:List SV),nI T s rv=some l->∀acc:Array Value,
 ∃vs:List Value,(rv.foldlM (fun(acc:Array Value) (x:ResultVar)=>do pure (acc.push (←aCv a.tmps x))) acc).run P W=.ok (acc++vs.toArray) W/\Rels ρ l vs
 | [],l,h,acc=>by simp only [nI,bG] at h;subst h;exact⟨[],by simp,by simp [Rels]⟩
 | .tmp t::rv,l,h,acc=>by
  simp only [nI] at h;split at h
  ·rename_i m hm;simp only [bG] at h;subst h;obtain⟨vs,hr,hrel⟩:=rH hT hrep rv m hm (acc.push (a.tmps.getD t undef));refine⟨a.tmps.getD t undef::vs,?_,by simp only [Rels];exact⟨hrep.sl t,hrel⟩⟩;simp only [List.foldlM_cons,Sem.run_bind,aCv,Sem.run_pure,Result.andThen_ok];refine Eq.trans hr ?_;simp
  ·cases h
 | .cell c t::rv,l,h,acc=>by
  simp only [nI] at h;split at h
  ·rename_i k off i hs hi;split at h
   ·rename_i own cells hb;split at h
    ·rename_i hl;split at h
     ·rename_i x m hx hm;simp only [bG] at h;subst h;obtain⟨nf,d,z,h1,h2,h3,hie⟩:=bF (hT t i hi);have hxr:=hrep.sl c;rw [hs] at hxr;simp only [Rel] at hxr;obtain⟨b,o',m',hρ,hy⟩:=hxr;have hbk:=hrep.bk k;rw [hb] at hbk;rcases hbk.read with⟨he,_⟩ | ⟨b',o'',m'',vs0,e1,⟨e2,_⟩,_,e4⟩
      ·rw [hρ] at he;cases he
      rw [hρ] at e1;cases e1;rw [hie] at hx hl;simp only at hx hl;have hrr:Rels ρ ((cells.drop off).take nf.size) ((vs0.drop off).take nf.size):=Rels.take _ (Rels.drop _ e2);have hlen:=hrr.length;have hload:(loadVar t ⟨b,o'+off,none⟩).run P W=.ok (if dW d=true then .agg ((vs0.drop off).take nf.size).toArray else((vs0.drop off).take nf.size).headD undef) W:=by
       refine aAp h1 h2 (by rw [←hlen];exact hl) (fun hag hne=>?_) (fun j y hjy=>?_)
       ·rw [hag] at hx;rw [hne] at hlen;have:(cells.drop off).take nf.size=[]:=List.length_eq_zero_iff.1 (by simpa using hlen);rw [this] at hx;simp [mkV] at hx
       ·have hj:=(List.getElem?_eq_some_iff.1 hjy).1;rw [List.getElem?_take_of_lt (by simp at hj;omega),List.getElem?_drop] at hjy;have:=e4 (off+j) y hjy;rw [show o'+off+j=o'+(off+j) by omega];exact this
      obtain⟨vs,hr,hrel⟩:=rH hT hrep rv m hm (acc.push (if dW d=true then .agg ((vs0.drop off).take nf.size).toArray else((vs0.drop off).take nf.size).headD undef));refine⟨_::vs,?_,by simp only [Rels];exact⟨aGn hx hrr,hrel⟩⟩;have hrv:(aCv a.tmps (.cell c t)).run P W=.ok (if dW d=true then .agg ((vs0.drop off).take nf.size).toArray else((vs0.drop off).take nf.size).headD undef) W:=by
       simp only [aCv,Sem.run_bind,hy,aLv,Result.andThen_ok,hload]
      simp only [List.foldlM_cons,Sem.run_bind,hrv,Sem.run_pure,Result.andThen_ok];refine Eq.trans hr ?_;simp
     ·cases h
    ·cases h
   ·cases h
  ·cases h
theorem aCw {ks:List Nat} {bk:Nat->BK}:∀(l:List Nat) (m:List BK),aJj ks bk l=some m->m.length=l.length/\∀(i:Nat) (y:BK),m[i]? = some y->∃k,l[i]? = some k/\aLu ks (bk k)=some y
 | [],m,h=>by simp only [aJj,bG] at h;subst h;simp
 | k::l,m,h=>by
  simp only [aJj] at h;split at h
  ·rename_i x m' hx hm;simp only [bG] at h;subst h;obtain⟨h1,h2⟩:=aCw l m' hm;refine⟨by simp [h1],fun i y hi=>?_⟩;cases i with
   | zero=>simp at hi;subst hi;exact⟨k,by simp,hx⟩
   | succ i =>
    obtain⟨k,e1,e2⟩:=h2 i y (by simpa using hi);exact⟨k,by simpa using e1,e2⟩
  ·cases h
theorem aCx {R ms:List Nat} {bk:Nat->BK}:∀(n i:Nat) (m:List BK),aJk R ms bk i n=some m->m.length=n/\∀j y,m[j]? = some y->y=.un\/aLu R (bk (i+j))=some y
 | 0,i,m,h=>by simp only [aJk,bG] at h;subst h;simp
 | n+1,i,m,h=>by
  simp only [aJk] at h;split at h
  ·rename_i x m' hx hm;simp only [bG] at h;subst h;obtain⟨h1,h2⟩:=aCx n (i+1) m' hm;refine⟨by simp [h1],fun j y hj=>?_⟩;cases j with
   | zero =>
    simp at hj;subst hj;split at hx
    ·exact .inr (by simpa using hx)
    ·simp only [bG] at hx;exact .inl hx.symm
   | succ j =>
    rw [show i+(j+1)=i+1+j by omega];exact h2 j y (by simpa using hj)
  ·cases h
theorem xR {R:List Nat} {ρ:Env} {M:Nat->Prop} {W:World} {j k:Nat} {x y:BK} (hj:R[j]? = some k)(h:aLu R x=some y)(hp:x.pl)(hb:BRep ρ M W k x):BRep (iX ρ R) M W j y/\y.pl/\(y.own->x.own):=by
 have he:iX ρ R j=ρ k:=dE hj;unfold aLu at h;split at h
 ·simp only [bG] at h;subst h;exact⟨trivial,trivial,fun h=>h.elim⟩
 ·simp only [bG] at h;subst h;refine⟨?_,hp,fun _=>trivial⟩;obtain⟨b,n,arr,q1,q2,q3,q4⟩:=hb;exact⟨b,n,arr,he.trans q1,q2,MEs.congr (qI _ _) _ _ _ (fun k hk=>(hp k hk).elim) q3,q4⟩
 ·simp only [bG] at h;subst h;refine⟨?_,hp,fun _=>trivial⟩;rcases hb with⟨q1,q2⟩ | ⟨b,vs,rest,ty,q1,q2,q3,q4⟩
  ·exact .inl ⟨he.trans q1,q2⟩
  ·exact .inr ⟨b,vs,rest,ty,he.trans q1,q2,Plain.congr (qI _ _) hp q3,q4⟩
 ·split at h
  ·rename_i cells c' hc;simp only [bG] at h;subst h;refine⟨?_,trivial,fun _=>trivial⟩;rcases hb with⟨q1,q2⟩ | ⟨b,vs,rest,ty,q1,q2,q3,q4⟩
   ·subst q2;simp only [renL,bG] at hc;subst hc;exact .inl ⟨he.trans q1,rfl⟩
   ·exact .inr ⟨b,vs,rest,ty,he.trans q1,q2,renL_rel _ _ _ hc q3,q4⟩
  ·cases h
 ·cases h
theorem aLw (hT:nG P T) {fn:Func} {ms ks:List Nat} {s:LS} {res:SV} {nb mb:List BK} (h:fin T fn.results.toList cx.base ms ks s=some (res,nb,mb)) :
 gW (bodyPost P fn (RR cx res nb mb)) .ret cx [] s:=by
 intro ρ a W hrep;unfold fin at h;split at h
 ·cases h
 ·rename_i l hl;split at h
  ·rename_i res' nb' mb' hres hnb hmb;split at h
   ·rename_i hc;simp only [Bool.and_eq_true,List.all_eq_true,decide_eq_true_eq] at hc;simp only [bG,eA] at h;obtain⟨rfl,rfl,rfl⟩:=h;obtain⟨vs,hrun,hrel⟩:=rH hT hrep fn.results.toList l hl #[];have hmap:(fn.results.mapM (aCv a.tmps)).run P W=.ok vs.toArray W:=by
     rw [Array.mapM_eq_foldlM,←Array.foldlM_toList];simp only [Array.empty_append] at hrun;rw [←hrun];simp only [bind_pure_comp]
    have hresult:∃v,(results fn a.tmps).run P W=.ok v W/\Rel ρ (aNs l) v:=by
     rw [wF];simp only [Sem.run_bind,hmap,Result.andThen_ok,Sem.run_pure]
     match l,vs,hrel with
     | [x],[y],hrel=>simp only [Rels] at hrel;exact⟨y,by simp,hrel.1⟩
     | [],[],_=>exact⟨_,rfl,by simp only [aNs,Rel];exact⟨[],by simp,by simp [Rels]⟩⟩
     | x::x'::l',y::y'::vs',hrel=>exact⟨_,rfl,by simp only [aNs,Rel];exact⟨y::y'::vs',by simp,hrel⟩⟩
     | [],_::_,hrel=>simp [Rels] at hrel
     | [_],[],hrel=>simp [Rels] at hrel
     | [_],_::_::_,hrel=>simp [Rels] at hrel
     | _::_::_,[],hrel=>simp [Rels] at hrel
     | _::_::_,[_],hrel=>simp [Rels] at hrel
    obtain⟨v,hv,hvr⟩:=hresult;obtain⟨hol,hos⟩:=aCw ks nb' hnb;have hidx:∀j,(List.range cx.base++ks)[cx.base+j]? = ks[j]? := fun j=>by
     rw [List.getElem?_append_right (by simp)];simp
    have hidx0:∀i,i < cx.base->(List.range cx.base++ks)[i]? = some i:=fun i hi=>by
     rw [List.getElem?_append_left (by simpa using hi)];simp [hi]
    -- where each block of the post comes from
    have src:∀j,fQ cx.base mb' nb' j=.un\/∃k,(List.range cx.base++ks)[j]? = some k/\aLu (List.range cx.base++ks) (s.fs.bk k)=some (fQ cx.base mb' nb' j):=fun j=>by
     unfold fQ;split
     ·rename_i hj;cases hm:mb'[j]? with
      | none=>exact .inl (by simp [gS,hm])
      | some y =>
       rw [show mb'.getD j .un=y by simp [gS,hm]];split at hmb
       ·simp only [bG] at hmb;subst hmb;simp at hm
       ·obtain⟨_,h2⟩:=aCx _ _ _ hmb;have:=h2 j y hm;rw [Nat.zero_add] at this;rcases this with h' | h'
        ·exact .inl h'
        ·exact .inr ⟨j,hidx0 j hj,h'⟩
     ·rename_i hj;cases hm:nb'[j - cx.base]? with
      | none=>exact .inl (by simp [gS,hm])
      | some y =>
       obtain⟨k,h1,h2⟩:=hos (j - cx.base) y hm;rw [show nb'.getD (j - cx.base) .un=y by simp [gS,hm]];refine .inr ⟨k,?_,h2⟩;have:=hidx (j - cx.base);rw [show cx.base+(j - cx.base)=j by omega] at this;rw [this];exact h1
    have inj:∀i j k,(List.range cx.base++ks)[i]? = some k->(List.range cx.base++ks)[j]? = some k->i=j:=fun i j k h1 h2=>by
     have split:∀i,(List.range cx.base++ks)[i]? = some k->(i < cx.base/\i=k)\/(cx.base<=i/\ks[i - cx.base]? = some k/\cx.base<=k):=fun i h=>by
      by_cases hi:i < cx.base
      ·rw [hidx0 i hi] at h;cases h;exact .inl ⟨hi,rfl⟩
      ·have:=hidx (i - cx.base);rw [show cx.base+(i - cx.base)=i by omega] at this;rw [this] at h;exact .inr ⟨by omega,h,hc.2 k (List.mem_of_getElem? h)⟩
     rcases split i h1 with⟨a1,a2⟩ | ⟨a1,a2,a3⟩<;>rcases split j h2 with⟨b1,b2⟩ | ⟨b1,b2,b3⟩
     ·omega
     ·omega
     ·omega
     ·have:=mP hc.1 _ _ k a2 b2;omega
    refine⟨hrep.defs,v,hv,iX ρ (List.range cx.base++ks),v,rfl,fun i hi=>?_,xL _ _ _ hres hvr,hrep.kept,fun j=>?_,fun j=>?_,fun i j b m b' m' hij hi hj e1 e2=>?_,fun b o ho=>hrep.fzo b o ho,fun b o ho=>⟨(hrep.fzn b o ho).1,fun j m hj e1=>?_,(hrep.fzn b o ho).2.2⟩⟩
    ·rw [dE (hidx0 i hi)];exact(hrep.old i hi).1
    ·rcases src j with h0 | ⟨k,h1,h2⟩
     ·rw [h0];trivial
     ·exact(xR h1 h2 (hrep.pl k) (hrep.bk k)).1
    ·rcases src j with h0 | ⟨k,h1,h2⟩
     ·rw [h0];trivial
     ·exact(xR h1 h2 (hrep.pl k) (hrep.bk k)).2.1
    ·have get:∀i,(fQ cx.base mb' nb' i).own->∃k,(List.range cx.base++ks)[i]? = some k/\(s.fs.bk k).own:=fun i hi=>by
      rcases src i with h0 | ⟨k,h1,h2⟩
      ·rw [h0] at hi;exact hi.elim
      ·exact⟨k,h1,(xR h1 h2 (hrep.pl k) (hrep.bk k)).2.2 hi⟩
     obtain⟨k1,g1,o1⟩:=get i hi;obtain⟨k2,g2,o2⟩:=get j hj;rw [dE g1] at e1;rw [dE g2] at e2;refine hrep.apart k1 k2 b m b' m' (fun e=>hij ?_) o1 o2 e1 e2;subst e;exact inj i j k1 g1 g2
    ·rcases src j with h0 | ⟨k,h1,h2⟩
     ·rw [h0] at hj;exact hj.elim
     ·rw [dE h1] at e1;exact(hrep.fzn b o ho).2.1 k m ((xR h1 h2 (hrep.pl k) (hrep.bk k)).2.2 hj) e1
   ·cases h
  ·cases h
def wG:BK->Bool | .live _ _ _=>true | .map _=>true | _=>false
mutual
def xS (b:Nat):SV->Bool | .p k _=>decide (k < b) | .s k _ _ _=>decide (k < b) | .m k=>decide (k < b) | .f _ caps=>belowL b caps | .a l=>belowL b l | .t l=>belowL b l | _=>true
def belowL (b:Nat):List SV->Bool | []=>true | x::l=>xS b x&&belowL b l
end
mutual
theorem aPr {b k:Nat}:∀{x:SV},xS b x=true->x.has k->k < b
 | .u,_,h=>by simp [SV.has] at h
 | .b _,_,h=>by simp [SV.has] at h
 | .v _,_,h=>by simp [SV.has] at h
 | .p j _,hb,h=>by simp [xS] at hb;simp [SV.has] at h;omega
 | .s j _ _ _,hb,h=>by simp [xS] at hb;simp [SV.has] at h;omega
 | .m j,hb,h=>by simp [xS] at hb;simp [SV.has] at h;omega
 | .d _ _ _,_,h=>by simp [SV.has] at h
 | .f _ caps,hb,h=>by simp only [xS] at hb;simp only [SV.has] at h;exact belowL_has hb h
 | .a l,hb,h=>by simp only [xS] at hb;simp only [SV.has] at h;exact belowL_has hb h
 | .t l,hb,h=>by simp only [xS] at hb;simp only [SV.has] at h;exact belowL_has hb h
theorem belowL_has {b k:Nat}:∀{l:List SV},belowL b l=true->SV.hasl k l->k < b
 | [],_,h=>by simp [SV.hasl] at h
 | x::l,hb,h=>by
  simp only [belowL,Bool.and_eq_true] at hb;simp only [SV.hasl] at h;rcases h with h | h
  ·exact aPr hb.1 h
  ·exact belowL_has hb.2 h
end
def wH (b:Nat):BK->Bool | .live _ false cells=>belowL b cells | _=>true
def oA (N:Nat)(args:List SV)(bs:List BK):LS:={ sl:=args++List.replicate (N - args.length) (.v undef),bk:=bs }
theorem zR {N:Nat} {args:List SV} {bs:List BK} {ρ:Env} {W:World} {vs:List Value} (hlen:args.length<=N)(hlive:(bs.all wG&&belowL bs.length args&&bs.all (wH bs.length))=true)
 (hargs:Rels ρ args vs) (hbs:∀i,BRep ρ (cO ρ W bs).mine W i (bs.getD i .un)) (hpl:∀i,(bs.getD i .un).pl)
 (hap:∀i j b n b' n',i≠j->(bs.getD i .un).own->(bs.getD j .un).own->ρ i=some (b,0,n)->ρ j=some (b',0,n')->b≠b')
 (hfz:∀b o,ρ.fz b=some o->W.heap[b]? = some o.obj/\∀i n,(bs.getD i .un).own->ρ i≠some (b,0,n)) :
 Rep (cO ρ W bs) (oA N args bs).sl.length [] ρ (oA N args bs).fs { tmps:=vs.toArray++Array.replicate (N - vs.toArray.size) undef,defers:=[] } W:=by
 simp only [Bool.and_eq_true,List.all_eq_true] at hlive;obtain⟨⟨hl1,hl2⟩,hl3⟩:=hlive;let cx:Cx:=cO ρ W bs;have hvl:=hargs.length;have hslen:(oA N args bs).sl.length=N:=by simp [oA];omega
 have hbk:∀k,(oA N args bs).fs.bk k=bs.getD k .un:=fun k=>rfl
 have hnun:∀k,k < bs.length->(oA N args bs).fs.bk k≠.un:=fun k hk=>by
  rw [hbk];have:=hl1 bs[k] (by simp);rw [show bs.getD k .un=bs[k] by simp [gS,hk]];cases hx:bs[k]<;>rw [hx] at this<;>first | (simp [wG] at this;done) | simp
 have hrep:Rep cx (oA N args bs).sl.length [] ρ (oA N args bs).fs { tmps:=vs.toArray++Array.replicate (N - vs.toArray.size) undef,defers:=[] } W:=by
  refine { defs:=rfl,size:=by rw [hslen];simp;omega,sl:=fun t=>?_,bk:=fun k=>?_,apart:=fun i j b m b' m' hij hi hj=>?_,wf1:=fun t k hk=>?_,wf2:=fun j k hk=>?_,kept:=Kept.refl _ _,pl:=fun k=>(by rw [hbk];exact hpl k),old:=fun i hi=>⟨rfl,hnun i hi⟩,fzn:=fun b o ho=>⟨(hfz b o ho).1,fun i n hi=>(hfz b o ho).2 i n (by rw [hbk] at hi;exact hi),.inl ho⟩,fzo:=fun _ _ h=>h }
  ·simp only [oA,LS.fs,gS];by_cases ht:t < args.length
   ·rw [List.getElem?_append_left ht];obtain⟨y,hy,hr⟩:=Rels.get t hargs (List.getElem?_eq_getElem ht);have:({ tmps:=vs.toArray++Array.replicate (N - vs.toArray.size) undef,defers:=[] }:Act).tmps.getD t undef=y:=by
     simp only [Array.getD_eq_getD_getElem?];rw [Array.getElem?_append_left (by simpa using (by omega:t < vs.length))];simp [hy]
    rw [this];simpa [List.getElem?_eq_getElem ht] using hr
   ·rw [List.getElem?_append_right oM];have:({ tmps:=vs.toArray++Array.replicate (N - vs.toArray.size) undef,defers:=[] }:Act).tmps.getD t undef=undef:=by
     simp only [Array.getD_eq_getD_getElem?];rw [Array.getElem?_append_right (by simp;omega)];cases hx:(Array.replicate (N - vs.toArray.size) undef)[t - vs.toArray.size]? with
     | none=>rfl
     | some x =>
      have:=(Array.getElem?_eq_some_iff.1 hx);obtain⟨h1,h2⟩:=this;simp at h2;simp [←h2]
    rw [this];cases hx:(List.replicate (N - args.length) (SV.v undef))[t - args.length]? with
    | none=>simp [Rel]
    | some x =>
     have:=List.mem_of_getElem? hx;have:=List.eq_of_mem_replicate this;subst this;simp [Rel]
  ·rw [hbk];exact hbs k
  ·rw [hbk] at hi hj;exact hap i j b m b' m' hij hi hj
  ·have:k < bs.length:=by
    simp only [oA,LS.fs,gS] at hk;by_cases ht:t < args.length
    ·rw [List.getElem?_append_left ht,List.getElem?_eq_getElem ht] at hk;exact belowL_has hl2 (eP.2 ⟨args[t],by simp,hk⟩)
    ·rw [List.getElem?_append_right oM] at hk;cases hx:(List.replicate (N - args.length) (SV.v undef))[t - args.length]? with
     | none=>rw [hx] at hk;simp [SV.has] at hk
     | some x =>
      have:=List.eq_of_mem_replicate (List.mem_of_getElem? hx);subst this;rw [hx] at hk;simp [SV.has] at hk
   exact hnun k this
  ·have:k < bs.length:=by
    rw [hbk] at hk;cases hx:bs[j]? with
    | none=>simp [gS,hx,BK.has] at hk
    | some x =>
     rw [show bs.getD j .un=x by simp [gS,hx]] at hk;have:=hl3 x (List.mem_of_getElem? hx);have hp:=hpl j;rw [show bs.getD j .un=x by simp [gS,hx]] at hp;cases x with
     | un=>simp [BK.has] at hk
     | dead=>simp [BK.has] at hk
     | map es=>exact(hp k hk).elim
     | live o sy c =>
      cases sy
      case true=>exact(hp _ hk).elim
      simp only [wH] at this;exact belowL_has this hk
   exact hnun k this
 exact hrep
theorem aJl {f:Nat} {fn:Func} {c:Code} {args:List SV} {bs:List BK} {res:SV} {nb mb:List BK} (hf:P.funcs[f]? = some fn)(hb:fn.body=some c)(hent:rC P f)
 (hlen:args.length<=fn.ntmps) (hlive:(bs.all wG&&belowL bs.length args&&bs.all (wH bs.length))=true)
 (h:∀cx:Cx,cx.base=bs.length->Good P none n (bodyPost P fn (RR cx res nb mb)) cx [] [.c c] (oA fn.ntmps args bs)):Con P f args bs res nb mb:=by
 refine⟨hent,fun ρ W vs hargs hbs hpl hap hfz=>?_⟩;let cx:Cx:=cO ρ W bs;refine(calls_of_wp (R:=RR cx res nb mb) hf hb ?_);have hrep:=zR hlen hlive hargs hbs hpl hap hfz;have:=h cx rfl ρ _ W hrep;simp only [gR] at this;exact(wpIn_wide (n:=n)).1 this
end
end Go.Aw
namespace Go.Aw
open Go.RowKit
theorem ent {P : Program} {f : Nat} {fn : Func} {c : Code} (hf : P.funcs[f]? = some fn) (hname : (fn.name == "runtime.NumGoroutine") = false) (hb : fn.body = some c) : rC P f := Go.Proofs.enters_of hf hname hb
def aAv (T:Nat->Option TI)(rv:List ResultVar)(base:Nat)(ms ks:List Nat):Option (Out×List Ob×List Or)->Option (SV×List BK×List BK×List Ob)
 | some (.ret s,obs,[])=>match fin T rv base ms ks s with
  | some (res,nb,mb)=>some (res,nb,mb,obs)
  | none=>none
 | _=>none
def aJm (R ts:List Nat):Nat->List SV->Option (List SV)
 | _,[]=>some []
 | t,x::l=>match (if ts.contains t then ren R x else some .u),aJm R ts (t+1) l with
  | some y,some m=>some (y::m)
  | _,_=>none
def aBe (R:List Nat):BK->Option BK
 | .live own true cells=>some (.live own true cells)
 | .live own false cells=>match renL R cells with
  | some l=>some (.live own false l)
  | none=>none
 | .dead=>some .dead
 | .map es=>some (.map es)
 | .un=>none
def aJn (R:List Nat)(bk:Nat->BK):List Nat->Option (List BK)
 | []=>some []
 | k::l=>match aBe R (bk k),aJn R bk l with
  | some x,some m=>some (x::m)
  | _,_=>none
def shrink (base:Nat)(ts ks:List Nat)(s:LS):Option LS :=
 let R:=List.range base++ks
 match aJm R ts 0 s.sl,aJn R s.fs.bk R with
 | some sl,some bk=>if wC R then some ⟨sl,bk⟩ else none
 | _,_=>none
def xT (base:Nat)(ts ks:List Nat):Option (Out×List Ob×List Or)->Option (Code×List K×LS×List Ob)
 | some (.enter body k s,obs,[])=>match shrink base ts ks s with
  | some s'=>some (body,k,s',obs)
  | none=>none
 | _=>none
def aCy (base:Nat)(ts ks:List Nat):Option (Out×List Ob×List Or)->Option (Code×Nat×List K×LS×List Ob)
 | some (.back body m k s,obs,[])=>match shrink base ts ks s with
  | some s'=>some (body,m,k,s',obs)
  | none=>none
 | _=>none
section
variable {P : Program} {T : Nat → Option TI} {cx : Cx} {D : List Deferred} {r : Option Nat} {n : Nat} {Q : Exit → Act → World → Prop}
theorem aCz {ρ:Env} {R ts:List Nat}:∀(l m:List SV) (t:Nat),aJm R ts t l=some m->m.length=l.length/\∀(i:Nat) (y:SV),m[i]? = some y->y=.u\/∃x,l[i]? = some x/\ren R x=some y
 | [],m,t,h=>by simp only [aJm,bG] at h;subst h;simp
 | x::l,m,t,h=>by
  simp only [aJm] at h;split at h
  ·rename_i y m' hy hm;simp only [bG] at h;subst h;obtain⟨h1,h2⟩:=aCz (ρ:=ρ) l m' (t+1) hm;refine⟨by simp [h1],fun i z hi=>?_⟩;cases i with
   | zero =>
    simp at hi;subst hi;split at hy
    ·exact .inr ⟨x,by simp,hy⟩
    ·simp at hy;exact .inl hy.symm
   | succ i =>
    rcases h2 i z (by simpa using hi) with h' | ⟨x',h',h''⟩
    ·exact .inl h'
    ·exact .inr ⟨x',by simpa using h',h''⟩
  ·cases h
theorem aC0 {R:List Nat} {bk:Nat->BK}:∀(l:List Nat) (m:List BK),aJn R bk l=some m->m.length=l.length/\∀(i:Nat) (y:BK),m[i]? = some y->∃k,l[i]? = some k/\aBe R (bk k)=some y
 | [],m,h=>by simp only [aJn,bG] at h;subst h;simp
 | k::l,m,h=>by
  simp only [aJn] at h;split at h
  ·rename_i x m' hx hm;simp only [bG] at h;subst h;obtain⟨h1,h2⟩:=aC0 l m' hm;refine⟨by simp [h1],fun i y hi=>?_⟩;cases i with
   | zero=>simp at hi;subst hi;exact⟨k,by simp,hx⟩
   | succ i =>
    obtain⟨k',e1,e2⟩:=h2 i y (by simpa using hi);exact⟨k',by simpa using e1,e2⟩
  ·cases h
mutual
theorem aNt {ks:List Nat} {k:Nat}:∀(x y:SV),ren ks x=some y->y.has k->k < ks.length
 | .u,y,h,hk=>by simp only [ren,bG] at h;subst h;simp [SV.has] at hk
 | .b x,y,h,hk=>by simp only [ren,bG] at h;subst h;simp [SV.has] at hk
 | .v x,y,h,hk=>by simp only [ren,bG] at h;subst h;simp [SV.has] at hk
 | .p j off,y,h,hk=>by
  simp only [ren] at h;split at h
  ·rename_i i hi;simp only [bG] at h;subst h;simp only [SV.has] at hk;subst hk;exact(List.getElem?_eq_some_iff.1 (nY hi)).1
  ·cases h
 | .s j off len es,y,h,hk=>by
  simp only [ren] at h;split at h
  ·rename_i i hi;simp only [bG] at h;subst h;simp only [SV.has] at hk;subst hk;exact(List.getElem?_eq_some_iff.1 (nY hi)).1
  ·cases h
 | .d cells len es,y,h,hk=>by simp only [ren,bG] at h;subst h;simp [SV.has] at hk
 | .m j,y,h,hk=>by
  simp only [ren] at h;split at h
  ·rename_i i hi;simp only [bG] at h;subst h;simp only [SV.has] at hk;subst hk;exact(List.getElem?_eq_some_iff.1 (nY hi)).1
  ·cases h
 | .f g caps,y,h,hk=>by
  simp only [ren] at h;split at h
  ·rename_i l hl;simp only [bG] at h;subst h;exact renL_has caps l hl (by simpa [SV.has] using hk)
  ·cases h
 | .a l',y,h,hk=>by
  simp only [ren] at h;split at h
  ·rename_i l hl;simp only [bG] at h;subst h;exact renL_has l' l hl (by simpa [SV.has] using hk)
  ·cases h
 | .t l',y,h,hk=>by
  simp only [ren] at h;split at h
  ·rename_i l hl;simp only [bG] at h;subst h;exact renL_has l' l hl (by simpa [SV.has] using hk)
  ·cases h
theorem renL_has {ks:List Nat} {k:Nat}:∀(l m:List SV),renL ks l=some m->SV.hasl k m->k < ks.length
 | [],m,h,hk=>by simp only [renL,bG] at h;subst h;simp [SV.hasl] at hk
 | x::l,m,h,hk=>by
  simp only [renL] at h;split at h
  ·rename_i y m' hy hm;simp only [bG] at h;subst h;simp only [SV.hasl] at hk;rcases hk with hk | hk
   ·exact aNt x y hy hk
   ·exact renL_has l m' hm hk
  ·cases h
end
theorem rI {R:List Nat} {x y:BK} (hx:aBe R x=some y)(hp:x.pl):(x=.dead/\y=.dead)\/(∃es,x=.map es/\y=.map es)\/∃own sym cells l,x=.live own sym cells/\y=.live own sym l/\(∀(ρ:Env) vs,Rels ρ cells vs->Rels (iX ρ R) l vs)/\(cells=[]->l=[])/\(∀k,SV.hasl k l->k < R.length)/\y.pl:=by
 cases x with
 | un=>simp [aBe] at hx
 | dead=>simp only [aBe,bG] at hx;exact .inl ⟨rfl,hx.symm⟩
 | map es=>simp only [aBe,bG] at hx;exact .inr (.inl ⟨es,rfl,hx.symm⟩)
 | live own sym cells =>
  cases sym
  case true=>simp only [aBe,bG] at hx;subst hx;exact .inr (.inr ⟨own,true,cells,cells,rfl,rfl,fun ρ vs h=>Plain.congr (qI _ _) hp h,id,fun k hk=>(hp k hk).elim,hp⟩)
  simp only [aBe] at hx;split at hx
  ·rename_i l hl;simp only [bG] at hx;subst hx;exact .inr (.inr ⟨own,false,cells,l,rfl,rfl,fun ρ vs h=>renL_rel cells l vs hl h,fun e=>by subst e;simp only [renL,bG] at hl;exact hl.symm,fun k hk=>renL_has cells l hl hk,trivial⟩)
  ·cases hx
theorem aQ1 {ρ:Env} {R:List Nat} {M:Nat->Prop} {W:World} {k i:Nat} {x y:BK} (hk:R[i]? = some k)(hx:aBe R x=some y)(hp:x.pl)(h:BRep ρ M W k x):BRep (iX ρ R) M W i y:=by
 have he:iX ρ R i=ρ k:=dE hk;rcases rI hx hp with⟨rfl,rfl⟩ | ⟨es,rfl,rfl⟩ | ⟨own,sym,cells,l,rfl,rfl,hr,hn,_,_⟩
 ·trivial
 ·obtain⟨b,n,arr,q1,q2,q3,q4⟩:=h;exact⟨b,n,arr,he.trans q1,q2,MEs.congr (qI _ _) _ _ _ (fun k hk=>(hp k hk).elim) q3,q4⟩
 ·cases own
  case true=>
   rcases h with⟨h1,h2⟩ | ⟨b,vs,rest,ty,h1,h2,h3,h4⟩
   ·exact .inl ⟨he.trans h1,hn h2⟩
   ·exact .inr ⟨b,vs,rest,ty,he.trans h1,h2,hr ρ vs h3,h4⟩
  rcases h with⟨h1,h2⟩ | ⟨b,o,m,vs,h1,h2,h3,h4⟩
  ·exact .inl ⟨he.trans h1,hn h2⟩
  ·exact .inr ⟨b,o,m,vs,he.trans h1,h2,hr ρ vs h3,h4⟩
theorem aC1 {R:List Nat} {x y:BK} (hx:aBe R x=some y)(hp:x.pl)(h:y.own):x.own:=by
 rcases rI hx hp with⟨rfl,rfl⟩ | ⟨es,rfl,rfl⟩ | ⟨own,sym,cells,l,rfl,rfl,_⟩
 ·exact h
 ·exact h
 ·cases own<;>exact h
theorem aNu {R:List Nat} {x y:BK} (hx:aBe R x=some y)(hp:x.pl):y≠.un/\y.pl:=by
 rcases rI hx hp with⟨rfl,rfl⟩ | ⟨es,rfl,rfl⟩ | ⟨own,sym,cells,l,rfl,rfl,_,_,_,h⟩
 ·exact⟨by simp,trivial⟩
 ·exact⟨by simp,hp⟩
 ·exact⟨by simp,h⟩
theorem Rep.shrink {N:Nat} {ρ:Env} {a:Act} {W:World} {s s':LS} {ts ks:List Nat} (h:Rep cx N D ρ s.fs a W)(hs:Aw.shrink cx.base ts ks s=some s') :
 Rep cx N D (iX ρ (List.range cx.base++ks)) s'.fs a W/\s'.sl.length=s.sl.length:=by
 unfold Aw.shrink at hs;simp only at hs;split at hs
 ·rename_i sl bk hsl hbk;split at hs
  ·rename_i hnd;simp only [bG] at hs;subst hs;obtain⟨l1,l2⟩:=aCz (ρ:=ρ) _ _ _ hsl;obtain⟨b1,b2⟩:=aC0 _ _ hbk;have hnun:∀j,j < (List.range cx.base++ks).length->bk.getD j .un≠.un:=fun j hj=>by
    have hlt:j < bk.length:=by rw [b1];exact hj
    obtain⟨k,_,hk⟩:=b2 j bk[j] (by simp [hlt]);rw [show bk.getD j .un=bk[j] by simp [gS,hlt]];exact(aNu hk (h.pl k)).1
   have get:∀j,(∃k,(List.range cx.base++ks)[j]? = some k/\aBe (List.range cx.base++ks) (s.fs.bk k)=some (bk.getD j .un))\/bk.getD j .un=.un:=fun j=>by
    cases hj:bk[j]? with
    | none=>exact .inr (by simp [gS,hj])
    | some y =>
     obtain⟨k,h1,h2⟩:=b2 j y hj;exact .inl ⟨k,h1,by rw [show bk.getD j .un=y by simp [gS,hj]];exact h2⟩
   have hplg:∀j,(bk.getD j .un).pl:=fun j=>by
    rcases get j with⟨k,_,h2⟩ | h0
    ·exact(aNu h2 (h.pl k)).2
    ·rw [h0];trivial
   refine⟨{ defs:=h.defs,size:=h.size,sl:=fun t=>?_,bk:=fun j=>?_,apart:=fun i j b m b' m' hij hi hj e1 e2=>?_,wf1:=fun t k hk=>?_,wf2:=fun j k hk=>?_,kept:=h.kept,pl:=hplg,old:=fun i hi=>⟨?_,?_⟩,fzn:=fun b o ho=>⟨(h.fzn b o ho).1,fun j m hj e1=>?_,(h.fzn b o ho).2.2⟩,fzo:=h.fzo },l1⟩
   ·simp only [LS.fs];cases ht:sl[t]? with
    | none=>simp [gS,ht,Rel]
    | some y =>
     rw [show sl.getD t .u=y by simp [gS,ht]];rcases l2 t y ht with rfl | ⟨x,hx,hr⟩
     ·simp [Rel]
     ·have:=h.sl t;simp only [LS.fs,gS,hx,Option.getD_some] at this;exact xL x y _ hr this
   ·simp only [LS.fs];rcases get j with⟨k,h1,h2⟩ | h0
    ·exact aQ1 h1 h2 (h.pl k) (h.bk k)
    ·rw [h0];trivial
   ·simp only [LS.fs] at hi hj;rcases get i with⟨k1,g1,g2⟩ | h0
    ·rcases get j with⟨k2,q1,q2⟩ | h0
     ·rw [dE g1] at e1;rw [dE q1] at e2;refine h.apart k1 k2 b m b' m' (fun e=>hij ?_) (aC1 g2 (h.pl k1) hi) (aC1 q2 (h.pl k2) hj) e1 e2;subst e;exact mP hnd i j k1 g1 q1
     ·rw [h0] at hj;exact hj.elim
    ·rw [h0] at hi;exact hi.elim
   ·simp only [LS.fs] at hk;cases ht:sl[t]? with
    | none=>rw [gS,ht] at hk;simp [SV.has] at hk
    | some y =>
     rw [show sl.getD t .u=y by simp [gS,ht]] at hk;rcases l2 t y ht with rfl | ⟨x,hx,hr⟩
     ·simp [SV.has] at hk
     ·exact hnun k (aNt x y hr hk)
   ·simp only [LS.fs] at hk;rcases get j with⟨k1,g1,g2⟩ | h0
    ·refine hnun k ?_;rcases rI g2 (h.pl k1) with⟨e1,e2⟩ | ⟨es,e1,e2⟩ | ⟨own,sym,cells,l,e1,e2,_,_,hl,_⟩
     ·rw [e2] at hk;exact hk.elim
     ·have hp:=h.pl k1;rw [e1] at hp;rw [e2] at hk;exact(hp k hk).elim
     ·rw [e2] at hk;exact hl k hk
    ·rw [h0] at hk;exact hk.elim
   ·have:(List.range cx.base++ks)[i]? = some i:=by
     rw [List.getElem?_append_left (by simpa using hi)];simp [hi]
    rw [dE this];exact(h.old i hi).1
   ·simp only [LS.fs];exact hnun i (by simp;omega)
   ·simp only [LS.fs] at hj;rcases get j with⟨k,g1,g2⟩ | h0
    ·rw [dE g1] at e1;exact(h.fzn b o ho).2.1 k m (aC1 g2 (h.pl k) hj) e1
    ·rw [h0] at hj;exact hj.elim
  ·cases hs
 ·cases hs
theorem sY {k:List K} {s s':LS} {ts ks:List Nat} {base:Nat} (hb:cx.base=base)(hs:Aw.shrink base ts ks s=some s')(h:Good P r n Q cx D k s'):Good P r n Q cx D k s:=by
 subst hb;intro ρ a W hrep;obtain⟨h1,h2⟩:=hrep.shrink hs;exact h _ a W (by rw [h2];exact h1)
def wI:List Nat->List Nat->Code->List K->Option (Code×List K)
 | p,ms,.seq a b,k=>match p with
  | 0::p=>wI p ms a (.c b::k)
  | _::p=>wI p ms b k
  | []=>none
 | p,ms,.block id c,k=>wI p ms c (.b id::k)
 | p,ms,.cond _ a b,k=>match p with
  | 0::p=>wI p ms a k
  | _::p=>wI p ms b k
  | []=>none
 | p,ms,.loop body,k=>match p,ms with
  | [],_=>some (body,k)
  | _::p,m::ms=>wI p ms body (.l body m::k)
  | _::_,[]=>none
 | _,_,_,_=>none
end
end Go.Aw
namespace Go.Aw
open Go.RowKit
section
variable {P : Program} {T : Nat → Option TI} {cx : Cx} {N : Nat} {D : List Deferred} {ρ : Env} {s : FS} {a : Act} {W : World}
theorem Rep.none (h:Rep cx N D ρ s a W) {k:Nat} (hk:s.bk k=.un):Rep cx N D (ρ.set k Option.none) ⟨s.sl,fun j=>if j=k then .live true true [] else s.bk j⟩ a W:=by
 have hle:=ρ.le_set k Option.none;have hne:∀j,s.bk j≠.un->(ρ.set k Option.none) j=ρ j:=fun j hj=>if_neg (fun e=>hj (by rw [e];exact hk))
 have hun:∀j,s.bk j≠.un->(if j=k then BK.live true true [] else s.bk j)≠.un:=fun j hj=>by
  split
  ·simp
  ·exact hj
 have hpl:∀j,(if j=k then BK.live true true [] else s.bk j).pl:=fun j=>by
  split
  ·intro i hi;simp [SV.hasl] at hi
  ·exact h.pl j
 refine { pl:=hpl,defs:=h.defs,size:=h.size,sl:=fun t=>Rel.congr hle _ _ (fun j hj=>hne j (h.wf1 t j hj)) (h.sl t),bk:=fun j=>?_,apart:=fun i j b n b' n' hij hi hj e1 e2=>?_,wf1:=fun t j hj=>hun j (h.wf1 t j hj),wf2:=fun i j hj=>?_,kept:=h.kept,old:=fun i hi=>⟨(hne i (h.old i hi).2).trans (h.old i hi).1,hun i (h.old i hi).2⟩,fzn:=fun c o ho=>⟨(h.fzn c o ho).1,fun j m hj e1=>?_,(h.fzn c o ho).2.2⟩,fzo:=h.fzo }
 ·by_cases hj:j=k
  ·subst hj;simp only [if_true];exact .inl ⟨by simp,rfl⟩
  ·simp only [hj,if_false];exact BRep.congr hle (by simp [hj]) (fun i hi=>hne i (h.wf2 j i hi)) (h.bk j)
 ·simp only [Env.set_loc] at e1 e2;by_cases hik:i=k
  ·simp [hik] at e1
  ·by_cases hjk:j=k
   ·simp [hjk] at e2
   ·simp only [hik,hjk,if_false] at hi hj e1 e2;exact h.apart i j b n b' n' hij hi hj e1 e2
 ·by_cases hik:i=k
  ·simp [hik,BK.has,SV.hasl] at hj
  ·simp only [hik,if_false] at hj;exact hun j (h.wf2 i j hj)
 ·simp only [Env.set_loc] at e1;by_cases hjk:j=k
  ·simp [hjk] at e1
  ·simp only [hjk,if_false] at hj e1;exact(h.fzn c o ho).2.1 j m hj e1
theorem Rep.rename (h:Rep cx N D ρ s a W) {k fr:Nat} (hfr:s.bk fr=.un)(hk:s.bk k≠.un):Rep cx N D (ρ.set fr (ρ k)) ⟨s.sl,fun j=>if j=fr then s.bk k else if j=k then .dead else s.bk j⟩ a W:=by
 have hkf:k≠fr:=fun e=>hk (by rw [e];exact hfr)
 have hle:=ρ.le_set fr (ρ k);have hne:∀j,s.bk j≠.un->(ρ.set fr (ρ k)) j=ρ j:=fun j hj=>if_neg (fun e=>hj (by rw [e];exact hfr))
 have hun:∀j,s.bk j≠.un->(if j=fr then s.bk k else if j=k then BK.dead else s.bk j)≠.un:=fun j hj=>by
  split
  ·exact hk
  ·split
   ·simp
   ·exact hj
 have hat:(ρ.set fr (ρ k)) fr=ρ k:=if_pos rfl;have back:∀i,(if i=fr then s.bk k else if i=k then BK.dead else s.bk i).own->(i=fr/\(s.bk k).own)\/(i≠fr/\i≠k/\(s.bk i).own):=fun i hi=>by
  by_cases h1:i=fr
  ·rw [if_pos h1] at hi;exact .inl ⟨h1,hi⟩
  ·rw [if_neg h1] at hi;by_cases h2:i=k
   ·rw [if_pos h2] at hi;exact hi.elim
   ·rw [if_neg h2] at hi;exact .inr ⟨h1,h2,hi⟩
 refine { defs:=h.defs,size:=h.size,sl:=fun t=>Rel.congr hle _ _ (fun j hj=>hne j (h.wf1 t j hj)) (h.sl t),bk:=fun j=>?_,apart:=fun i j b n b' n' hij hi hj e1 e2=>?_,wf1:=fun t j hj=>hun j (h.wf1 t j hj),wf2:=fun i j hj=>?_,kept:=h.kept,pl:=fun j=>?_,old:=fun i hi=>⟨(hne i (h.old i hi).2).trans (h.old i hi).1,hun i (h.old i hi).2⟩,fzn:=fun b o ho=>⟨(h.fzn b o ho).1,fun i n hi e1=>?_,(h.fzn b o ho).2.2⟩,fzo:=h.fzo }
 ·by_cases h1:j=fr
  ·subst h1;simp only [if_true];have hc:∀{x:BK},s.bk k=x->BRep ρ cx.mine W k x->BRep (ρ.set j (ρ k)) cx.mine W j x:=fun {x} hx hb=>by
    have hh:∀i,x.has i->(ρ.set j (ρ k)) i=ρ i:=fun i hi=>hne i (h.wf2 k i (by rw [hx];exact hi))
    cases x with
    | un=>trivial
    | dead=>trivial
    | live own sym cells =>
     cases own
     case true=>
      rcases hb with hb | ⟨b,vs,rest,ty,h1,h2,h3,h4⟩
      ·exact .inl ⟨hat.trans hb.1,hb.2⟩
      ·exact .inr ⟨b,vs,rest,ty,hat.trans h1,h2,Rels.congr hle _ _ hh h3,h4⟩
     rcases hb with hb | ⟨b,o,n,vs,h1,h2,h3,h4⟩
     ·exact .inl ⟨hat.trans hb.1,hb.2⟩
     ·exact .inr ⟨b,o,n,vs,hat.trans h1,h2,Rels.congr hle _ _ hh h3,h4⟩
    | map es =>
     obtain⟨b,n,arr,h1,h2,h3,h4⟩:=hb;exact⟨b,n,arr,hat.trans h1,h2,MEs.congr hle _ _ _ hh h3,h4⟩
   exact hc rfl (h.bk k)
  ·simp only [h1,if_false];by_cases h2:j=k
   ·simp only [h2,if_true];trivial
   ·simp only [h2,if_false];exact BRep.congr hle (if_neg h1) (fun i hi=>hne i (h.wf2 j i hi)) (h.bk j)
 ·rcases back i hi with⟨e3,o3⟩ | ⟨e3,e3',o3⟩
  ·rcases back j hj with⟨e4,o4⟩ | ⟨e4,e4',o4⟩
   ·exact absurd (e3.trans e4.symm) hij
   ·rw [e3,hat] at e1;rw [show(ρ.set fr (ρ k)) j=ρ j from if_neg e4] at e2;exact h.apart k j b n b' n' (fun e=>e4' e.symm) o3 o4 e1 e2
  ·rcases back j hj with⟨e4,o4⟩ | ⟨e4,e4',o4⟩
   ·rw [e4,hat] at e2;rw [show(ρ.set fr (ρ k)) i=ρ i from if_neg e3] at e1;exact h.apart i k b n b' n' e3' o3 o4 e1 e2
   ·rw [show(ρ.set fr (ρ k)) i=ρ i from if_neg e3] at e1;rw [show(ρ.set fr (ρ k)) j=ρ j from if_neg e4] at e2;exact h.apart i j b n b' n' hij o3 o4 e1 e2
 ·refine hun j ?_;by_cases h1:i=fr
  ·simp only [h1,if_true] at hj;exact h.wf2 k j hj
  ·simp only [h1,if_false] at hj;by_cases h2:i=k
   ·simp only [h2,if_true] at hj;exact hj.elim
   ·simp only [h2,if_false] at hj;exact h.wf2 i j hj
 ·show(if j=fr then s.bk k else if j=k then BK.dead else s.bk j).pl;split
  ·exact h.pl k
  ·split
   ·trivial
   ·exact h.pl j
 ·rcases back i hi with⟨e3,o3⟩ | ⟨e3,e3',o3⟩
  ·rw [e3,hat] at e1;exact(h.fzn b o ho).2.1 k n o3 e1
  ·rw [show(ρ.set fr (ρ k)) i=ρ i from if_neg e3] at e1;exact(h.fzn b o ho).2.1 i n o3 e1
theorem Rels.set {l:List SV} {m:List Value} {i:Nat} {x x':SV} (h:Rels ρ l m)(hx:l[i]? = some x)(hs:∀y,Rel ρ x y->Rel ρ x' y):Rels ρ (l.set i x') m:=by
 induction l generalizing m i with
 | nil=>simp at hx
 | cons z l ih =>
  cases m with
  | nil=>simp [Rels] at h
  | cons y m =>
   simp only [Rels] at h;cases i with
   | zero=>simp at hx;subst hx;simp only [List.set_cons_zero,Rels];exact⟨hs y h.1,h.2⟩
   | succ i=>simp at hx;simp only [List.set_cons_succ,Rels];exact⟨h.1,ih h.2 hx⟩
theorem aJo {k i:Nat} {x:SV} {l:List SV} (h:SV.hasl k (l.set i x)):SV.hasl k l\/x.has k:=by
 rw [eP] at h;obtain⟨y,hy,hk⟩:=h;rcases List.mem_or_eq_of_mem_set hy with hy | rfl
 ·exact .inl (eP.2 ⟨y,hy,hk⟩)
 ·exact .inr hk
inductive Adj where
 | slot (t es:Nat)
 | cell (k i es:Nat)
 | sym (k:Nat) (b:Bool)
 | kill (k:Nat)
 | mv (k i:Nat)
def aLx:Adj->LS->Option LS
 | .slot t es,s=>match s.sl[t]? with
  | some (.v (.slice none 0 0))=>some ⟨s.sl.set t (.s s.bk.length 0 0 es),s.bk++[.live true true []]⟩
  | _=>none
 | .cell k i es,s=>match s.bk[k]? with
  | some (.live own false cells)=>match cells[i]? with
   | some (.v (.slice none 0 0))=>some ⟨s.sl,s.bk.set k (.live own false (cells.set i (.s s.bk.length 0 0 es)))++[.live true true []]⟩
   | _=>none
  | _=>none
 | .sym k b,s=>match s.bk[k]? with
  | some (.live own _ cells)=>if(!b || cells.all SV.plain)=true then some ⟨s.sl,s.bk.set k (.live own b cells)⟩ else none
  | _=>none
 | .kill k,s=>match s.bk[k]? with
  | some (.live own _ cells)=>some ⟨s.sl,s.bk.set k .dead⟩
  | _=>none
 | .mv k i,s=>match s.bk[k]? with
  | some (.live own false cells)=>match cells[i]? with
   | some (.s j off len es)=>match s.bk[j]? with
    | some (.live true sym cj)=>if j=k then none else some ⟨s.sl,((s.bk.set j .dead).set k (.live own false (cells.set i (.s s.bk.length off len es))))++[.live true sym cj]⟩
    | _=>none
   | _=>none
  | _=>none
def aBf:List Adj->LS->Option LS
 | [],s=>some s
 | x::l,s=>match aLx x s with
  | some s=>aBf l s
  | none=>none
theorem fH {l:List BK} {x:BK} {j:Nat}:(l++[x]).getD j .un=if j=l.length then x else l.getD j .un:=by
 simp only [gS];by_cases hj:j=l.length
 ·subst hj;simp
 ·rw [if_neg hj];by_cases hlt:j < l.length
  ·rw [List.getElem?_append_left hlt]
  ·rw [List.getElem?_eq_none (by simp;omega),List.getElem?_eq_none oM]
theorem fR {l:List BK} {k j:Nat} {x:BK} (hk:k < l.length):(l.set k x).getD j .un=if j=k then x else l.getD j .un:=by
 simp only [gS,List.getElem?_set];by_cases hj:j=k
 ·subst hj;simp [hk]
 ·rw [if_neg hj,if_neg (fun e=>hj e.symm)]
theorem aU3 {s s':LS} {x:Adj} (h:aLx x s=some s')(hr:Rep cx N D ρ s.fs a W):∃ρ',Rep cx N D ρ' s'.fs a W/\s'.sl.length=s.sl.length:=by
 have hfree:s.fs.bk s.bk.length=.un:=aCr (Nat.le_refl _);cases x with
 | slot t es =>
  simp only [aLx] at h;split at h
  ·rename_i ht;simp only [bG] at h;subst h;have h1:=hr.none hfree;refine⟨_,h1.sub _ (fun u y hy=>?_) (fun k hk=>?_) (fun k hk=>?_) (fun k hk=>?_) (fun u k hk=>?_) (fun j k hk=>?_) (fun k=>?_),by simp⟩
   ·simp only [LS.fs,gS,List.getElem?_set] at hy ⊢;by_cases hu:t=u
    ·subst hu;have hlt:=(List.getElem?_eq_some_iff.1 ht).1;rw [ht] at hy;simp only [Option.getD_some,Rel] at hy;subst hy;simp [hlt,Rel]
    ·simpa [hu] using hy
   ·simp only [LS.fs,fH] at hk ⊢;exact hk
   ·simp only [LS.fs,fH] at hk ⊢;exact hk
   ·simp only [LS.fs,fH] at hk ⊢;exact hk
   ·simp only [LS.fs,fH];simp only [LS.fs,gS,List.getElem?_set] at hk;by_cases hu:t=u
    ·subst hu;have hlt:=(List.getElem?_eq_some_iff.1 ht).1;simp [hlt,SV.has] at hk;rw [if_pos hk.symm];simp
    ·simp only [hu,if_false] at hk;refine h1.wf1 u k ?_;simp only [LS.fs,gS];exact hk
   ·simp only [LS.fs,fH] at hk ⊢;have:=h1.wf2 j k;simp only [LS.fs] at this;exact this hk
   ·simp only [LS.fs,fH];exact h1.pl k
  ·cases h
 | cell k0 i es =>
  simp only [aLx] at h;split at h
  ·rename_i own cells hb;split at h
   ·rename_i hi;simp only [bG] at h;subst h;have h1:=hr.none hfree;have hlt:=(List.getElem?_eq_some_iff.1 hb).1;have hk0:s.bk.getD k0 .un=.live own false cells:=by simp [gS,hb]
    have hg:∀j,(s.bk.set k0 (.live own false (cells.set i (.s s.bk.length 0 0 es)))++[BK.live true true []]).getD j .un=if j=s.bk.length then .live true true [] else if j=k0 then .live own false (cells.set i (.s s.bk.length 0 0 es)) else s.bk.getD j .un:=fun j=>by
     rw [fH,List.length_set,fR hlt]
    have hun:∀k,(if k=s.bk.length then BK.live true true [] else s.bk.getD k .un)≠.un->(if k=s.bk.length then BK.live true true [] else if k=k0 then .live own false (cells.set i (.s s.bk.length 0 0 es)) else s.bk.getD k .un)≠.un:=fun k hk=>by
     by_cases h':k=s.bk.length
     ·rw [if_pos h'];simp
     ·rw [if_neg h'] at hk ⊢;by_cases h'':k=k0
      ·rw [if_pos h''];simp
      ·rw [if_neg h''];exact hk
    have hsub:∀y,Rel (ρ.set s.bk.length Option.none) (.v (.slice Option.none 0 0)) y->Rel (ρ.set s.bk.length Option.none) (.s s.bk.length 0 0 es) y:=fun y hy=>by
     simp only [Rel] at hy ⊢;subst hy;simp
    refine⟨_,h1.sub _ (fun u y hy=>hy) (fun k hk=>?_) (fun k hk=>?_) (fun k hk=>?_) (fun u k hk=>?_) (fun j k hk=>?_) (fun k=>?_),rfl⟩
    ·simp only [LS.fs] at hk ⊢;rw [hg];by_cases h':k=s.bk.length
     ·simp only [h',if_true] at hk ⊢;exact hk
     ·simp only [h',if_false] at hk ⊢;by_cases h'':k=k0
      ·subst h'';rw [hk0] at hk;simp only [if_true];cases own
       case true=>
        rcases hk with⟨q1,q2⟩ | ⟨b,vs,rest,ty,q1,q2,q3,q4⟩
        ·rw [q2] at hi;simp at hi
        ·exact .inr ⟨b,vs,rest,ty,q1,q2,q3.set hi hsub,q4⟩
       rcases hk with⟨q1,q2⟩ | ⟨b,o,n,vs,q1,q2,q3,q4⟩
       ·rw [q2] at hi;simp at hi
       ·exact .inr ⟨b,o,n,vs,q1,q2,q3.set hi hsub,q4⟩
      ·simp only [h'',if_false];exact hk
    ·simp only [LS.fs] at hk ⊢;rw [hg] at hk;by_cases h':k=s.bk.length
     ·simp only [h',if_true];trivial
     ·simp only [h',if_false] at hk ⊢;by_cases h'':k=k0
      ·subst h'';simp only [if_true] at hk;rw [hk0];cases own<;>exact hk
      ·simp only [h'',if_false] at hk;exact hk
    ·simp only [LS.fs] at hk ⊢;rw [hg];exact hun k hk
    ·simp only [LS.fs] at hk ⊢;rw [hg];exact hun k (h1.wf1 u k hk)
    ·simp only [LS.fs] at hk ⊢;rw [hg] at hk ⊢;refine hun k ?_;by_cases h':j=s.bk.length
     ·simp [h',BK.has,SV.hasl] at hk
     ·simp only [h',if_false] at hk;by_cases h'':j=k0
      ·subst h'';simp only [if_true,BK.has] at hk;rcases aJo hk with hk | hk
       ·refine h1.wf2 j k ?_;simp only [LS.fs,h',if_false,hk0,BK.has];exact hk
       ·simp only [SV.has] at hk;rw [if_pos hk.symm];simp
      ·simp only [h'',if_false] at hk;refine h1.wf2 j k ?_;simp only [LS.fs,h',if_false];exact hk
    ·simp only [LS.fs];rw [hg];have:=h1.pl k;simp only [LS.fs] at this;by_cases h':k=s.bk.length
     ·simp only [h',if_true] at this ⊢;exact this
     ·simp only [h',if_false] at this ⊢;by_cases h'':k=k0
      ·simp only [h'',if_true];trivial
      ·simp only [h'',if_false];exact this
   ·cases h
  ·cases h
 | sym k0 b0 =>
  simp only [aLx] at h;split at h
  ·rename_i own sym cells hb;split at h
   case isFalse=>cases h
   rename_i hpb;simp only [bG] at h;subst h;have hlt:=(List.getElem?_eq_some_iff.1 hb).1;have hk0:s.bk.getD k0 .un=.live own sym cells:=by simp [gS,hb]
   have hun:∀k,s.bk.getD k .un≠.un->(if k=k0 then BK.live own b0 cells else s.bk.getD k .un)≠.un:=fun k hk=>by
    split
    ·simp
    ·exact hk
   refine⟨ρ,hr.sub _ (fun u y hy=>hy) (fun k hk=>?_) (fun k hk=>?_) (fun k hk=>?_) (fun u k hk=>?_) (fun j k hk=>?_) (fun k=>?_),rfl⟩
   ·simp only [LS.fs] at hk ⊢;rw [fR hlt];by_cases h'':k=k0
    ·subst h'';rw [hk0] at hk;simp only [if_true];cases own<;>exact hk
    ·simp only [h'',if_false];exact hk
   ·simp only [LS.fs] at hk ⊢;rw [fR hlt] at hk;by_cases h'':k=k0
    ·subst h'';simp only [if_true] at hk;rw [hk0];cases own<;>exact hk
    ·simp only [h'',if_false] at hk;exact hk
   ·simp only [LS.fs] at hk ⊢;rw [fR hlt];exact hun k hk
   ·simp only [LS.fs] at hk ⊢;rw [fR hlt];exact hun k (hr.wf1 u k hk)
   ·simp only [LS.fs] at hk ⊢;rw [fR hlt] at hk ⊢;refine hun k (hr.wf2 j k ?_);simp only [LS.fs];by_cases h'':j=k0
    ·subst h'';simp only [if_true] at hk;rw [hk0];exact hk
    ·simp only [h'',if_false] at hk;exact hk
   ·simp only [LS.fs];rw [fR hlt];split
    ·cases b0
     case false=>trivial
     exact lH (by simpa using hpb)
    ·exact hr.pl k
  ·cases h
 | kill k0 =>
  simp only [aLx] at h;split at h
  ·rename_i own sym cells hb;simp only [bG] at h;subst h;have hlt:=(List.getElem?_eq_some_iff.1 hb).1;have hk0:s.fs.bk k0≠.un:=by simp [LS.fs,gS,hb]
   have h1:=hr.kill k0 hk0;refine⟨ρ,?_,rfl⟩;have e:s.fs.app none { val:=.u,ups:=[(k0,.dead)] }=(⟨s.sl,s.bk.set k0 .dead⟩:LS).fs:=by
    simp only [FS.app,LS.fs,cN];congr 1
    funext k
    rw [fR hlt]
   rw [←e];exact h1
  ·cases h
 | mv k0 i =>
  simp only [aLx] at h;split at h
  ·rename_i own cells hb;split at h
   ·rename_i j off len es hi;split at h
    ·rename_i sym cj hbj;split at h
     ·cases h
     ·rename_i hjk;simp only [bG] at h;subst h;have hlt:=(List.getElem?_eq_some_iff.1 hb).1;have hltj:=(List.getElem?_eq_some_iff.1 hbj).1;have hk0:s.bk.getD k0 .un=.live own false cells:=by simp [gS,hb]
      have hkj:s.bk.getD j .un=.live true sym cj:=by simp [gS,hbj]
      have h1:=hr.rename hfree (k:=j) (by show s.bk.getD j .un≠.un;rw [hkj];simp);have hat:(ρ.set s.bk.length (ρ j)) s.bk.length=ρ j:=if_pos rfl;have hatj:(ρ.set s.bk.length (ρ j)) j=ρ j:=if_neg oM;have hg:∀q,(((s.bk.set j .dead).set k0 (.live own false (cells.set i (.s s.bk.length off len es))))++[BK.live true sym cj]).getD q .un=if q=s.bk.length then .live true sym cj else if q=k0 then .live own false (cells.set i (.s s.bk.length off len es)) else if q=j then .dead else s.bk.getD q .un:=fun q=>by
       rw [fH,List.length_set,List.length_set,fR (by rw [List.length_set];exact hlt),fR hltj]
      have hb1:∀q,(if q=s.bk.length then s.fs.bk j else if q=j then BK.dead else s.fs.bk q)=if q=s.bk.length then .live true sym cj else if q=j then .dead else s.bk.getD q .un:=fun q=>by
       simp only [LS.fs,hkj]
      have hk0n:k0≠s.bk.length:=by omega
      have hun:∀q,(if q=s.bk.length then BK.live true sym cj else if q=j then .dead else s.bk.getD q .un)≠.un->(if q=s.bk.length then BK.live true sym cj else if q=k0 then .live own false (cells.set i (.s s.bk.length off len es)) else if q=j then .dead else s.bk.getD q .un)≠.un:=fun q hq=>by
       by_cases h':q=s.bk.length
       ·rw [if_pos h'];simp
       ·rw [if_neg h'] at hq ⊢;by_cases h'':q=k0
        ·rw [if_pos h''];simp
        ·rw [if_neg h''];exact hq
      have hsub:∀y,Rel (ρ.set s.bk.length (ρ j)) (.s j off len es) y->Rel (ρ.set s.bk.length (ρ j)) (.s s.bk.length off len es) y:=fun y hy=>by
       simp only [Rel] at hy ⊢;rw [hatj] at hy;rw [hat];exact hy
      refine⟨_,h1.sub _ (fun u y hy=>hy) (fun q hq=>?_) (fun q hq=>?_) (fun q hq=>?_) (fun u q hq=>?_) (fun p q hq=>?_) (fun q=>?_),rfl⟩
      ·simp only [LS.fs] at hq ⊢;simp only [hkj] at hq;rw [hg];by_cases h':q=s.bk.length
       ·simp only [h',if_true] at hq ⊢;exact hq
       ·simp only [h',if_false] at hq ⊢;by_cases h'':q=k0
        ·subst h'';rw [if_neg (fun e=>hjk e.symm),hk0] at hq;simp only [if_true];cases own
         case true=>
          rcases hq with⟨q1,q2⟩ | ⟨b,vs,rest,ty,q1,q2,q3,q4⟩
          ·rw [q2] at hi;simp at hi
          ·exact .inr ⟨b,vs,rest,ty,q1,q2,q3.set hi hsub,q4⟩
         rcases hq with⟨q1,q2⟩ | ⟨b,o,n,vs,q1,q2,q3,q4⟩
         ·rw [q2] at hi;simp at hi
         ·exact .inr ⟨b,o,n,vs,q1,q2,q3.set hi hsub,q4⟩
        ·simp only [h'',if_false];exact hq
      ·simp only [LS.fs] at hq ⊢;simp only [hkj];rw [hg] at hq;by_cases h':q=s.bk.length
       ·simp only [h',if_true] at hq ⊢;exact hq
       ·simp only [h',if_false] at hq ⊢;by_cases h'':q=k0
        ·subst h'';rw [if_neg (fun e=>hjk e.symm),hk0];simp only [if_true] at hq;cases own<;>exact hq
        ·simp only [h'',if_false] at hq;exact hq
      ·simp only [LS.fs] at hq ⊢;simp only [hkj] at hq;rw [hg];exact hun q hq
      ·have:=h1.wf1 u q hq;simp only [LS.fs] at this ⊢;simp only [hkj] at this;rw [hg];exact hun q this
      ·simp only [LS.fs] at hq ⊢;rw [hg] at hq ⊢;have w2:=h1.wf2 p q;simp only [LS.fs,hkj] at w2;refine hun q ?_;by_cases h':p=s.bk.length
       ·simp only [h',if_true] at hq w2;exact w2 hq
       ·simp only [h',if_false] at hq w2;by_cases h'':p=k0
        ·subst h'';rw [if_neg (fun e=>hjk e.symm),hk0] at w2;simp only [if_true,BK.has] at hq;rcases aJo hq with hq | hq
         ·exact w2 hq
         ·simp only [SV.has] at hq;rw [if_pos hq.symm];simp
        ·simp only [h'',if_false] at hq;exact w2 hq
      ·simp only [LS.fs];rw [hg];have:=h1.pl q;simp only [LS.fs,hkj] at this;by_cases h':q=s.bk.length
       ·simp only [h',if_true] at this ⊢;exact this
       ·simp only [h',if_false] at this ⊢;by_cases h'':q=k0
        ·simp only [h'',if_true];trivial
        ·simp only [h'',if_false];exact this
    ·cases h
   ·cases h
  ·cases h
theorem aG0:∀(l:List Adj) {s s':LS} {ρ:Env},aBf l s=some s'->Rep cx N D ρ s.fs a W->∃ρ',Rep cx N D ρ' s'.fs a W/\s'.sl.length=s.sl.length
 | [],s,s',ρ,h,hr=>by simp only [aBf,bG] at h;subst h;exact⟨ρ,hr,rfl⟩
 | x::l,s,s',ρ,h,hr=>by
  simp only [aBf] at h;split at h
  ·rename_i s1 h1;obtain⟨ρ1,r1,e1⟩:=aU3 h1 hr;obtain⟨ρ2,r2,e2⟩:=aG0 l h r1;exact⟨ρ2,r2,e2.trans e1⟩
  ·cases h
def nJ (l:List Adj):Option (Out×List Ob×List Or)->Option (Out×List Ob×List Or)
 | some (.ret s,obs,orc)=>match aBf l s with
  | some s=>some (.ret s,obs,orc)
  | none=>none
 | some (.norm s,obs,orc)=>match aBf l s with
  | some s=>some (.norm s,obs,orc)
  | none=>none
 | some (.enter body k s,obs,orc)=>match aBf l s with
  | some s=>some (.enter body k s,obs,orc)
  | none=>none
 | some (.back body m k s,obs,orc)=>match aBf l s with
  | some s=>some (.back body m k s,obs,orc)
  | none=>none
 | some (.at x k s,obs,orc)=>match aBf l s with
  | some s=>some (.at x k s,obs,orc)
  | none=>none
 | none=>none
end
section
variable {P : Program} {T : Nat → Option TI} {cx : Cx} {D : List Deferred} {r : Option Nat} {n : Nat} {Q : Exit → Act → World → Prop}
theorem aC2 {e:Exit} {l:List Adj} {s s':LS} (h:aBf l s=some s')(hg:gW Q e cx D s'):gW Q e cx D s:=fun ρ a W hr=>by
 obtain⟨ρ',r',e'⟩:=aG0 l h hr;exact hg ρ' a W (by rw [e'];exact r')
theorem aJp {k:List K} {l:List Adj} {s s':LS} (h:aBf l s=some s')(hg:Good P r n Q cx D k s'):Good P r n Q cx D k s:=fun ρ a W hr=>by
 obtain⟨ρ',r',e'⟩:=aG0 l h hr;exact hg ρ' a W (by rw [e'];exact r')
theorem pC {l:List Adj} {x:Option (Out×List Ob×List Or)} {o:Out} {obs:List Ob} {orc:List Or} (h:nJ l x=some (o,obs,orc)):∃o',x=some (o',obs,orc)/\(aGz P r n Q cx D o->aGz P r n Q cx D o'):=by
 unfold nJ at h;split at h
 all_goals first | (cases h;done) | skip
 all_goals
  split at h
  ·rename_i s2 hs;simp only [bG,eA] at h;obtain⟨rfl,rfl,rfl⟩:=h;refine⟨_,rfl,fun hg=>?_⟩
   first
    | exact aC2 hs hg
    | exact aJp hs hg
    | exact⟨hg.choose,aJp hs hg.choose_spec⟩
  ·cases h
theorem aQ2 (hT:nG P T)(hm:P.follows .mixedOrders=true) {fn:Func} {f:Nat} {k:List K} {s:LS} {orc:List Or} (ads:List Adj)(ms ks:List Nat) {base:Nat} (hb:cx.base=base) {res:SV} {nb mb:List BK} {obs:List Ob}
 (h:aAv T fn.results.toList base ms ks (nJ ads (run T f k s orc))=some (res,nb,mb,obs)) (hob:Obs P obs):Good P none n (bodyPost P fn (RR cx res nb mb)) cx [] k s:=by
 subst hb;unfold aAv at h;split at h
 ·rename_i s' obs' hrun;split at h
  ·rename_i res' nb' mb' hf;simp only [bG,eA] at h;obtain⟨rfl,rfl,rfl,rfl⟩:=h;obtain⟨o',hr,hg⟩:=pC (P:=P) (r:=none) (n:=n) (Q:=bodyPost P fn (RR cx res' nb' mb')) (cx:=cx) (D:=[]) hrun;exact fX hT hm f k s orc _ _ _ hr hob (hg (aLw hT hf))
  ·cases h
 ·cases h
theorem aQ3 (hT:nG P T)(hm:P.follows .mixedOrders=true) {f:Nat} {k k':List K} {s s':LS} {orc:List Or} (ads:List Adj)(ts ks:List Nat) {base:Nat} (hb:cx.base=base) {body:Code} {obs:List Ob}
 (h:xT base ts ks (nJ ads (run T f k s orc))=some (body,k',s',obs)) (hob:Obs P obs) (hg:∃m,Good P r n Q cx D (.l body m::k') s'):Good P r n Q cx D k s:=by
 unfold xT at h;split at h
 ·rename_i body' k1 s1 obs' hrun;split at h
  ·rename_i s2 hs;simp only [bG,eA] at h;obtain⟨rfl,rfl,rfl,rfl⟩:=h;obtain⟨m,hg⟩:=hg;obtain⟨o',hr,hg'⟩:=pC (P:=P) (r:=r) (n:=n) (Q:=Q) (cx:=cx) (D:=D) hrun;exact fX hT hm f k s orc _ _ _ hr hob (hg' ⟨m,sY hb hs hg⟩)
  ·cases h
 ·cases h
theorem aU4 (hT:nG P T)(hm:P.follows .mixedOrders=true) {f m:Nat} {k k':List K} {s s':LS} {orc:List Or} (ads:List Adj)(ts ks:List Nat) {base:Nat} (hb:cx.base=base) {body:Code} {obs:List Ob}
 (h:aCy base ts ks (nJ ads (run T f k s orc))=some (body,m,k',s',obs)) (hob:Obs P obs) (hg:Good P r n Q cx D (.l body m::k') s'):Good P r n Q cx D k s:=by
 unfold aCy at h;split at h
 ·rename_i body' m' k1 s1 obs' hrun;split at h
  ·rename_i s2 hs;simp only [bG,eA] at h;obtain⟨rfl,rfl,rfl,rfl,rfl⟩:=h;obtain⟨o',hr,hg'⟩:=pC (P:=P) (r:=r) (n:=n) (Q:=Q) (cx:=cx) (D:=D) hrun;exact fX hT hm f k s orc _ _ _ hr hob (hg' (sY hb hs hg))
  ·cases h
 ·cases h
end
instance sumInh {α β:Type} [Inhabited β]:Inhabited (α⊕β):=⟨.inr dF⟩
theorem jN {α:Type} (l m:List α) {n:Nat} (h:m.length=n):l.length+n=(l++m).length:=by rw [List.length_append,h]
def aG {S R:Type} [Inhabited R] (step:S->S⊕R):Nat->S->R
 | 0,_=>dF
 | n+1,v=>match step v with
  | .inl v'=>aG step n v'
  | .inr x=>x
theorem aK {S R:Type} [Inhabited R] {step:S->S⊕R} {n:Nat} {v v':S} (h:step v=.inl v'):aG step (n+1) v=aG step n v':=by simp only [aG,h]
theorem aL {S R:Type} [Inhabited R] {step:S->S⊕R} {n:Nat} {v:S} {x:R} (h:step v=.inr x):aG step (n+1) v=x:=by simp only [aG,h]
def bN {S R:Type} [Inhabited R] (step:S->S⊕R)(n:Nat):S⊕R->R | .inl v=>aG step n v | .inr x=>x
def aU (p ms:List Nat)(c:Code)(k:List K):Code×List K:=(wI p ms c k).getD (.skip,[])
def flat {α:Type} (c:α->List SV)(l:List α):List SV:=l.flatMap c
theorem bQ {α:Type} {c:α->List SV} {l m:List α}:flat c (l++m)=flat c l++flat c m:=by simp [flat]
theorem lK {α:Type} {c:α->List SV} {l:List α} {x:α}:flat c (x::l)=c x++flat c l:=by simp [flat]
theorem sZ {α:Type} {c:α->List SV} {es:Nat} (hc:∀x,(c x).length=es)(l:List α):(flat c l).length=l.length*es:=by
 induction l with
 | nil=>simp [flat]
 | cons x l ih=>rw [lK,List.length_append,ih,hc,List.length_cons,Nat.add_mul];omega
theorem aJq {α:Type} {c:α->List SV} {es:Nat} (hc:∀x,(c x).length=es)(d:α):∀(l:List α) (i:Nat),i < l.length->((flat c l).drop (i*es)).take es=c (l.getD i d)
 | [],i,h=>by simp at h
 | x::l,0,_=>by
  rw [lK];simp only [Nat.zero_mul,List.drop_zero,List.getD_cons_zero];rw [←hc x,List.take_left]
 | x::l,i+1,h=>by
  rw [lK,List.getD_cons_succ,Nat.add_mul,Nat.one_mul,Nat.add_comm];rw [←hc x,←List.drop_drop,List.drop_left,hc x];exact aJq hc d l i (by simpa using h)
theorem aPs {α:Type} {c:α->List SV} {es:Nat} (hc:∀x,(c x).length=es)(d:α)(l:List α)(i o n:Nat)(h:i < l.length)(ho:o+n<=es):((flat c l).drop (i*es+o)).take n=((c (l.getD i d)).drop o).take n:=by
 rw [←aJq hc d l i h];rw [←List.drop_drop,List.drop_take,List.take_take,Nat.min_eq_left oM]
theorem aU5 {α:Type} {c:α->List SV} {es:Nat} (hc:∀x,(c x).length=es)(d:α)(l:List α)(i:Int)(o n:Nat)(h:0<=i/\i < (l.length:Int))(ho:o+n<=es) {off:Nat} (he:off=i.toNat*es+o) {r:List SV}
 (hr:((c (l.getD i.toNat d)).drop o).take n=r):((flat c l).drop off).take n=r:=by
 subst he;rw [aPs hc d l i.toNat o n oM ho];exact hr
theorem iS {α:Type} {c:α->List SV} {es:Nat} (hc:∀x,(c x).length=es) {l:List α} {n by':Nat} (h1:l.length+n<=2 ^ 40)(h2:(l.length+n)*by'<=2 ^ 47):(flat c l).length=l.length*es/\l.length+n<=2 ^ 40/\(l.length+n)*by'<=2 ^ 47 :=
 ⟨sZ hc l,h1,h2⟩
def aBj (n:Nat):List BK->Prop | []=>True | x::l=>wH n x=true/\aBj n l
theorem tA {n:Nat}:∀{l:List BK},aBj n l->l.all (wH n)=true
 | [],_=>rfl
 | x::l,h=>by simp only [List.all_cons,Bool.and_eq_true];exact⟨h.1,tA h.2⟩
def BK.fl:BK->BK | .live o _ c=>.live o true c | x=>x
theorem BRep.fl {ρ:Env} {M:Nat->Prop} {W:World} {k:Nat} {x y:BK} (e:x.fl=y.fl)(h:BRep ρ M W k x):BRep ρ M W k y:=by
 cases x<;>cases y<;>simp [BK.fl] at e<;>first | trivial | (subst e;exact h) | skip
 rename_i o1 s1 c1 o2 s2 c2;obtain⟨rfl,rfl⟩:=e;cases o1<;>exact h
theorem aC3 {x y:BK} (e:x.fl=y.fl)(h:x.own):y.own:=by
 cases x<;>cases y<;>simp [BK.fl] at e<;>try exact h
 rename_i o1 s1 c1 o2 s2 c2;obtain⟨rfl,rfl⟩:=e;cases o1<;>exact h
def aYe:List BK->Prop | []=>True | x::l=>x.pl/\aYe l
theorem aJr:∀{l:List BK},aYe l->∀i,(l.getD i .un).pl
 | [],_,i=>by simp [BK.pl]
 | x::l,h,0=>by simpa using h.1
 | x::l,h,i+1=>by simpa using aJr h.2 i
theorem jA {α:Type} {c:α->List SV} (hc:∀x,(c x).all SV.plain=true) {l:List α}:Plain (flat c l):=by
 refine lH ?_
 induction l with
 | nil=>rfl
 | cons x l ih=>rw [lK,List.all_append,hc x,ih];rfl
theorem Con.flags {P:Program} {f:Nat} {args:List SV} {bs bs':List BK} {res:SV} {nb mb:List BK} (h:Con P f args bs res nb mb)(e:bs'.map BK.fl=bs.map BK.fl)(hpl0:aYe bs):Con P f args bs' res nb mb:=by
 have hp:=aJr hpl0;have hl:bs'.length=bs.length:=by have:=congrArg List.length e;simpa using this
 have hg:∀i,(bs'.getD i .un).fl=(bs.getD i .un).fl:=fun i=>by
  have:=congrArg (fun l=>l[i]?) e;simp only [List.getElem?_map] at this;simp only [gS];cases h1:bs'[i]? <;> cases h2:bs[i]? <;> simp [h1,h2] at this ⊢;exact this
 have ho:∀(ρ:Env),vI ρ bs=vI ρ bs':=fun ρ=>by
  funext b
  refine propext ⟨fun⟨i,n,h1,h2⟩=>⟨i,n,aC3 (hg i).symm h1,h2⟩,fun⟨i,n,h1,h2⟩=>⟨i,n,aC3 (hg i) h1,h2⟩⟩
 refine⟨h.1,fun ρ W vs hr hb hpl ha hfz=>?_⟩;have hcx:cO ρ W bs'=cO ρ W bs:=by simp only [cO,hl,ho]
 rw [hcx] at hb ⊢;exact h.2 ρ W vs hr (fun i=>BRep.fl (hg i) (hb i)) hp (fun i j b n b' n' hij h1 h2=>ha i j b n b' n' hij (aC3 (hg i).symm h1) (aC3 (hg j).symm h2)) (fun b o ho=>⟨(hfz b o ho).1,fun i n h1=>(hfz b o ho).2 i n (aC3 (hg i).symm h1)⟩)
end Go.Aw
namespace Go.Aw
open Go.RowKit
theorem Kept.trans {w A B:World} {own own':Nat->Prop} (h:Kept w own A)(k:Kept A own' B)(ho:∀b,own' b->b < w.heap.size->own b):Kept w own B :=
 ⟨k.os.trans h.os,k.tape.trans h.tape,k.output.trans h.output,Nat.le_trans h.size k.size,fun i hi hn=>(k.block i (Nat.lt_of_lt_of_le hi h.size) (fun h'=>hn (ho i h' hi))).trans (h.block i hi hn),Nat.le_trans h.drawn k.drawn⟩
theorem Kept.mono {w W:World} {own own':Nat->Prop} (h:Kept w own W)(ho:∀b,own b->own' b):Kept w own' W :=
 ⟨h.os,h.tape,h.output,h.size,fun k hk hn=>h.block k hk (fun h'=>hn (ho k h')),h.drawn⟩
def aQ4:Obj->Bool | .cells _ _ _=>true | .map _ _=>true | _=>false
def isCellsAt (W:World)(b:Nat):Prop:=∃o,W.heap[b]? = some o/\aQ4 o=true
theorem isCellsAt.lt {W:World} {b:Nat} (h:isCellsAt W b):b < W.heap.size:=by
 obtain⟨o,h,_⟩:=h;exact cF h
theorem dB {W:World} {b o:Nat} {x:Value} (h:W.cell? ⟨b,o,none⟩=some x):isCellsAt W b:=by
 unfold World.cell? at h;cases ho:W.heap[b]? with
 | none=>simp [ho] at h
 | some o' =>
  cases o' with
  | cells c ty m=>exact⟨_,ho,rfl⟩
  | _=>simp [ho] at h
structure Turn (B:Nat) (W W':World):Prop where
 os:W'.os=W.os
 tape:W'.tape=W.tape
 output:W'.output=W.output
 size:W.heap.size<=W'.heap.size
 low:∀k,k < W.heap.size->k < B->W'.heap[k]? = W.heap[k]?
 cells:∀k,isCellsAt W k->W'.heap[k]? = W.heap[k]?
 drawn:W.drawn<=W'.drawn
theorem Turn.of_below {B:Nat} {W W':World} (h:Below W.heap.size W W')(hd:W.drawn<=W'.drawn):Turn B W W':=⟨h.os,h.tape,h.output,h.size,fun k hk _=>h.block k hk,fun k hk=>h.block k hk.lt,hd⟩
theorem Turn.put {B:Nat} {W:World} {l:Nat} {o o':Obj} (hl:W.heap[l]? = some o)(hB:B<=l)(ho:aQ4 o=false):Turn B W (W.putObj l o') :=
 ⟨rfl,rfl,rfl,by simp,fun k _ hk=>World.putObj_heap_other oM,fun k ⟨o2,hk,hd⟩=>World.putObj_heap_other (fun e=>by subst e;rw [hl] at hk;cases hk;rw [ho] at hd;cases hd),Nat.le_refl _⟩
theorem Turn.cell {B:Nat} {W W':World} (h:Turn B W W') {b o:Nat} {x:Value} (hx:W.cell? ⟨b,o,none⟩=some x):W'.cell? ⟨b,o,none⟩=some x:=by
 have:=h.cells b (dB hx);simp only [World.cell?] at hx ⊢;rw [this];exact hx
section
variable {cx : Cx} {N : Nat} {D : List Deferred} {ρ : Env} {s : FS} {a : Act} {W : World}
theorem BRep.turn {M:Nat->Prop} {B:Nat} {W':World} {k:Nat} {x:BK} (h:BRep ρ M W k x)(ht:Turn B W W'):BRep ρ M W' k x:=by
 cases x with
 | un=>trivial
 | dead=>trivial
 | live own sym cells =>
  cases own
  case true=>
   rcases h with h | ⟨b,vs,rest,ty,h1,h2,h3,h4⟩
   ·exact .inl h
   ·exact .inr ⟨b,vs,rest,ty,h1,h2,h3,(ht.cells b ⟨_,h4,rfl⟩).trans h4⟩
  rcases h with h | ⟨b,o,n,vs,h1,h2,h3,h4⟩
  ·exact .inl h
  ·exact .inr ⟨b,o,n,vs,h1,h2,h3,fun i x hx=>ht.cell (h4 i x hx)⟩
 | map es =>
  obtain⟨b,n,arr,q1,q2,q3,q4⟩:=h;exact⟨b,n,arr,q1,q2,q3,(ht.cells b ⟨_,q4,rfl⟩).trans q4⟩
theorem Rep.turned {B:Nat} {W':World} (h:Rep cx N D ρ s a W)(ht:Turn B W W')(hB:cx.w.heap.size<=B):Rep cx N D ρ s a W' :=
 {h with bk:=fun k=>(h.bk k).turn ht,kept:=⟨ht.os.trans h.kept.os,ht.tape.trans h.kept.tape,ht.output.trans h.kept.output,Nat.le_trans h.kept.size ht.size,fun k hk ho=>(ht.low k (Nat.lt_of_lt_of_le hk h.kept.size) (Nat.lt_of_lt_of_le hk hB)).trans (h.kept.block k hk ho),Nat.le_trans h.kept.drawn ht.drawn⟩,fzn:=fun b o ho=>⟨(ht.cells b ⟨_,(h.fzn b o ho).1,rfl⟩).trans (h.fzn b o ho).1,(h.fzn b o ho).2⟩ }
theorem Rep.defer (h:Rep cx N D ρ s a W)(D':List Deferred):Rep cx N D' ρ s { a with defers:=D' } W :=
 {defs:=rfl,size:=h.size,sl:=h.sl,bk:=h.bk,apart:=h.apart,wf1:=h.wf1,wf2:=h.wf2,kept:=h.kept,pl:=h.pl,old:=h.old,fzn:=h.fzn,fzo:=h.fzo }
def Cx.hold (cx:Cx)(W:World)(d:Nat->Prop):Cx:={ w:=W,base:=cx.base,ρ:=cx.ρ,own:=fun b=>cx.mine b/\¬d b }
theorem Rep.hold (h:Rep cx N D ρ s a W) {d:Nat->Prop} (hd:∀b,d b->¬isCellsAt W b):Rep (cx.hold W d) N D ρ s a W:=by
 refine { defs:=h.defs,size:=h.size,sl:=h.sl,bk:=fun k=>?_,apart:=h.apart,wf1:=h.wf1,wf2:=h.wf2,kept:=Kept.refl _ _,pl:=h.pl,old:=h.old,fzn:=fun b o ho=>⟨(h.fzn b o ho).1,(h.fzn b o ho).2.1,?_⟩,fzo:=h.fzo }
 rotate_left
 ·rcases (h.fzn b o ho).2.2 with g | g
  ·exact .inl g
  ·exact .inr (.inr ⟨g,fun hdb=>hd b hdb ⟨_,(h.fzn b o ho).1,rfl⟩⟩)
 have hb:=h.bk k;cases hx:s.bk k with
 | un=>trivial
 | dead=>trivial
 | live own sym cells =>
  rw [hx] at hb;cases own
  case true=>
   rcases hb with hb | ⟨b,vs,rest,ty,h1,h2,h3,h4⟩
   ·exact .inl hb
   ·exact .inr ⟨b,vs,rest,ty,h1,.inr ⟨h2,fun hdb=>hd b hdb ⟨_,h4,rfl⟩⟩,h3,h4⟩
  rcases hb with hb | ⟨b,o,n,vs,h1,h2,h3,h4⟩
  ·exact .inl hb
  ·refine .inr ⟨b,o,n,vs,h1,⟨h2.1,fun hne hM=>?_⟩,h3,h4⟩;obtain⟨x,vs',rfl⟩:=List.exists_cons_of_ne_nil hne;have hlt:=(dB (h4 0 x (by simp))).lt;rcases hM with hM | hM
   ·exact absurd hM (Nat.not_le_of_lt hlt)
   ·exact h2.2 hne hM.1
 | map es =>
  rw [hx] at hb;obtain⟨b,n,arr,q1,q2,q3,q4⟩:=hb;exact⟨b,n,arr,q1,.inr ⟨q2,fun hdb=>hd b hdb ⟨_,q4,rfl⟩⟩,q3,q4⟩
theorem Rep.unhold {W0:World} {d:Nat->Prop} (h:Rep (cx.hold W0 d) N D ρ s a W)(hk:Kept cx.w cx.own W0)(hd:∀b,d b->b < W0.heap.size/\¬isCellsAt W0 b):Rep cx N D ρ s a W:=by
 have hkept:Kept W0 (cx.hold W0 d).own W:=h.kept;refine { defs:=h.defs,size:=h.size,sl:=h.sl,bk:=fun k=>?_,apart:=h.apart,wf1:=h.wf1,wf2:=h.wf2,kept:=hk.trans hkept (fun b hb hlt=>?_),pl:=h.pl,old:=h.old,fzn:=fun b o ho=>⟨(h.fzn b o ho).1,(h.fzn b o ho).2.1,?_⟩,fzo:=h.fzo }
 ·have hb:=h.bk k;cases hx:s.bk k with
  | un=>trivial
  | dead=>trivial
  | live own sym cells =>
   rw [hx] at hb;cases own
   case true=>
    rcases hb with hb | ⟨b,vs,rest,ty,h1,h2,h3,h4⟩
    ·exact .inl hb
    ·refine .inr ⟨b,vs,rest,ty,h1,?_,h3,h4⟩;rcases h2 with h2 | h2
     ·exact .inl (Nat.le_trans hk.size h2)
     ·exact h2.1
   rcases hb with hb | ⟨b,o,n,vs,h1,h2,h3,h4⟩
   ·exact .inl hb
   ·refine .inr ⟨b,o,n,vs,h1,⟨h2.1,fun hne hM=>?_⟩,h3,h4⟩;by_cases hdb:d b
    ·obtain⟨x,vs',rfl⟩:=List.exists_cons_of_ne_nil hne;have hc:=dB (h4 0 x (by simp));obtain⟨oc,hc,hdc⟩:=hc;refine((hd b hdb).2 ⟨oc,?_,hdc⟩).elim;rw [←hkept.block b (hd b hdb).1 (fun h'=>h'.2 hdb)];exact hc
    ·exact h2.2 hne (.inr ⟨hM,hdb⟩)
  | map es =>
   rw [hx] at hb;obtain⟨b,n,arr,q1,q2,q3,q4⟩:=hb;refine⟨b,n,arr,q1,?_,q3,q4⟩;rcases q2 with h2 | h2
   ·exact .inl (Nat.le_trans hk.size h2)
   ·exact h2.1
 ·rcases hb.1 with h' | h'
  ·exact absurd h' (Nat.not_le_of_lt hlt)
  ·exact h'
 ·rcases (h.fzn b o ho).2.2 with g | g | g
  ·exact .inl g
  ·exact .inr (.inl (Nat.le_trans hk.size g))
  ·exact .inr g.1
def zS (ρ:Env)(s:FS)(b:Nat):Prop:=∃k n,(s.bk k).own/\ρ k=some (b,0,n)
theorem Rep.owns (h:Rep cx N D ρ s a W) {b:Nat} (hb:zS ρ s b):isCellsAt W b/\cx.mine b:=by
 obtain⟨k,n,hk,hρ⟩:=hb;have hb:=h.bk k;cases hx:s.bk k with
 | un=>rw [hx] at hk;exact hk.elim
 | dead=>rw [hx] at hk;exact hk.elim
 | live own sym cells =>
  rw [hx] at hb hk;cases own
  case false=>exact hk.elim
  rcases hb with hb | ⟨b',vs,rest,ty,h1,h2,h3,h4⟩
  ·rw [hρ] at hb;cases hb.1
  ·rw [hρ] at h1;cases h1;exact⟨⟨_,h4,rfl⟩,h2⟩
 | map es =>
  rw [hx] at hb;obtain⟨b',n',arr,q1,q2,q3,q4⟩:=hb;rw [hρ] at q1;cases q1;exact⟨⟨_,q4,rfl⟩,q2⟩
def Cx.only (base:Nat)(W:World) (ρ:Env)(S:Nat->Prop):Cx:={ w:=W,base:=base,ρ:=ρ,own:=S }
theorem Rep.only (h:Rep cx N D ρ s a W) {B:Nat} {W':World} (ht:Turn B W W')(base:Nat)(hb:∀i,i < base->s.bk i≠.un):Rep (Cx.only base W' ρ (zS ρ s)) N D ρ s a W':=by
 refine { defs:=h.defs,size:=h.size,sl:=h.sl,bk:=fun k=>?_,apart:=h.apart,wf1:=h.wf1,wf2:=h.wf2,kept:=Kept.refl _ _,pl:=h.pl,old:=fun i hi=>⟨rfl,hb i hi⟩,fzn:=fun b o ho=>⟨(ht.cells b ⟨_,(h.fzn b o ho).1,rfl⟩).trans (h.fzn b o ho).1,(h.fzn b o ho).2.1,.inl ho⟩,fzo:=fun _ _ h=>h };refine BRep.turn ?_ ht;have hsz:=ht.size;have hb:=h.bk k;cases hx:s.bk k with
 | un=>trivial
 | dead=>trivial
 | live own sym cells =>
  rw [hx] at hb;cases own
  case true=>
   rcases hb with hb | ⟨b,vs,rest,ty,h1,h2,h3,h4⟩
   ·exact .inl hb
   ·exact .inr ⟨b,vs,rest,ty,h1,.inr ⟨k,_,by rw [hx];trivial,h1⟩,h3,h4⟩
  rcases hb with hb | ⟨b,o,n,vs,h1,h2,h3,h4⟩
  ·exact .inl hb
  ·refine .inr ⟨b,o,n,vs,h1,⟨h2.1,fun hne hM=>?_⟩,h3,h4⟩;obtain⟨x,vs',rfl⟩:=List.exists_cons_of_ne_nil hne;have hlt:=(dB (h4 0 x (by simp))).lt;rcases hM with hM | hM
   ·exact absurd (Nat.le_trans hsz hM) (Nat.not_le_of_lt hlt)
   ·exact h2.2 hne (h.owns hM).2
 | map es =>
  rw [hx] at hb;obtain⟨b,n,arr,q1,q2,q3,q4⟩:=hb;exact⟨b,n,arr,q1,.inr ⟨k,_,by rw [hx];trivial,q1⟩,q3,q4⟩
theorem Rep.rejoin (h:Rep cx N D ρ s a W) {base:Nat} {Wb W':World} {ρ1:Env} {S:Nat->Prop} (h1ρ:∀i,i < base->ρ1 i=ρ i)(h1f:ρ.le ρ1)(h1g:∀b o,ρ1.fz b=some o->cx.ρ.fz b=some o\/cx.mine b)(hS:∀b,S b->zS ρ s b\/W.heap.size<=b) {N':Nat} {D':List Deferred} {ρ':Env} {s':FS} {a':Act}
 (hr:Rep (Cx.only base Wb ρ1 S) N' D' ρ' s' a' W') (hsz:W.heap.size<=Wb.heap.size) (hk:Kept cx.w cx.own Wb) (hbase:cx.base<=base)
 (hsl:∀t k,(s.sl t).has k->k < base) (hro:∀k sym cells,s'.bk k=.live false sym cells->s.bk k=.live false sym cells/\k < base) :
 Rep cx N D ρ' ⟨s.sl,s'.bk⟩ a W':=by
 have hρ:∀i,i < base->ρ' i=ρ i:=fun i hi=>((hr.old i hi).1).trans (h1ρ i hi)
 have hSm:∀b,S b->cx.mine b:=fun b hb=>by
  rcases hS b hb with h' | h'
  ·exact(h.owns h').2
  ·exact .inl (Nat.le_trans h.kept.size h')
 have hle:ρ.le ρ':=fun b o ho=>hr.fzo b o (h1f b o ho)
 refine { defs:=h.defs,size:=h.size,sl:=fun t=>Rel.congr hle _ _ (fun k hk=>hρ k (hsl t k hk)) (h.sl t),bk:=fun k=>?_,apart:=hr.apart,wf1:=fun t k hk=>(hr.old k (hsl t k hk)).2,wf2:=hr.wf2,
          kept:=hk.trans hr.kept (fun b hb hlt=>?_),pl:=hr.pl,old:=fun i hi=>⟨(hρ i oM).trans (h.old i hi).1,(hr.old i (show i < base by omega)).2⟩,fzn:=fun b o ho=>⟨(hr.fzn b o ho).1,(hr.fzn b o ho).2.1,?_⟩,fzo:=fun b o ho=>hle b o (h.fzo b o ho) }
 ·have hb:=hr.bk k;cases hx:s'.bk k with
  | un=>trivial
  | dead=>trivial
  | live own sym cells =>
   rw [hx] at hb;cases own
   case true=>
    rcases hb with hb | ⟨b,vs,rest,ty,h1,h2,h3,h4⟩
    ·exact .inl hb
    ·refine .inr ⟨b,vs,rest,ty,h1,?_,h3,h4⟩;rcases h2 with h2 | h2
     ·exact .inl (Nat.le_trans (Nat.le_trans h.kept.size hsz) h2)
     ·exact hSm b h2
   rcases hb with hb | ⟨b,o,n,vs,h1,h2,h3,h4⟩
   ·exact .inl hb
   ·refine .inr ⟨b,o,n,vs,h1,⟨h2.1,fun hne hM=>?_⟩,h3,h4⟩;obtain⟨e1,e2⟩:=hro k sym cells hx;have h0:=h.bk k;rw [e1] at h0;rcases h0 with⟨q1,q2⟩ | ⟨b0,o0,n0,vs0,q1,q2,q3,q4⟩
    ·rw [hρ k e2,q1] at h1;cases h1
    ·rw [hρ k e2,q1] at h1;cases h1;have hl:vs0.length=vs.length:=by rw [←q3.length,h3.length]
     obtain⟨ob,hob⟩:=q2.2 (fun e=>hne (by subst e;exact List.eq_nil_of_length_eq_zero hl.symm)) hM;exact⟨ob,hle _ _ hob⟩
  | map es =>
   rw [hx] at hb;obtain⟨b,n,arr,q1,h2,q3,q4⟩:=hb;refine⟨b,n,arr,q1,?_,q3,q4⟩;rcases h2 with h2 | h2
   ·exact .inl (Nat.le_trans (Nat.le_trans h.kept.size hsz) h2)
   ·exact hSm b h2
 ·have:=hSm b hb;rcases this with h' | h'
  ·exact absurd h' (Nat.not_le_of_lt hlt)
  ·exact h'
 ·rcases (hr.fzn b o ho).2.2 with g | g | g
  ·exact h1g b o g
  ·exact .inr (.inl (Nat.le_trans (Nat.le_trans h.kept.size hsz) g))
  ·exact .inr (hSm b g)
end
section
variable {α : Type} {P : Program}
def YR (J:Nat->(Nat->Prop)->World->Prop)(Jx:(Nat->Prop)->World->Prop)(i:Nat)(S:Nat->Prop)(W1:World)(e:Ending)(W':World):Prop := (e=.returned (.bool true)/\∃S',J (i+1) S' W'/\Kept W1 S W'/\∀b,S' b->S b\/W1.heap.size<=b) \/ (e=.returned (.bool false)/\∃S',Jx S' W'/\Kept W1 S W')
def aQ5 (P:Program)(g:Nat)(lb:List Value)(enc:α->Value)(xs:List α)(W0:World):Prop := ∀(l:Nat) (J:Nat->(Nat->Prop)->World->Prop) (Jx:(Nat->Prop)->World->Prop) (S0:Nat->Prop), (∀i S W W',J i S W->Below W.heap.size W W'->W.drawn<=W'.drawn->J i S W')->(∀S W W',Jx S W->Below W.heap.size W W'->W.drawn<=W'.drawn->Jx S W') -> (∀i S W,J i S W->∀b,S b->b < W.heap.size) -> (∀i x S W1,xs[i]? = some x->J i S W1->YieldAt (Fw none) 9 P l #[enc x] W1 (YR J Jx i S W1)) -> J 0 S0 W0 -> Calls P g (#[.func (.yield l) #[] #[]]++lb.toArray) W0 fun e W'=>(∃v,e=.returned v)/\∃S',(J xs.length S' W'\/Jx S' W')/\Kept W0 S0 W'
def RP (I:Nat->(Nat->Prop)->World->Prop)(Ix:(Nat->Prop)->World->Prop)(i:Nat)(S:Nat->Prop)(W1 W3:World):Exit->Act->World->Prop | .normal,_,W4=>∃S',I (i+1) S' W4/\Kept W3 (fun b=>S b\/W1.heap.size<=b) W4/\∀b,S' b->S b\/W1.heap.size<=b | .ret,_,W4=>∃S',Ix S' W4/\Kept W3 (fun b=>S b\/W1.heap.size<=b) W4 | _,_,_=>False
def zT (d:Nat):Deferred:={ target:=.collected d,args:=#[] }
theorem aPt {r:Option Nat} {n m:Nat} {l:Nat} {f:FuncId} {tmps:Array Value} {assign body:Code} {W:World} {R:Ending->World->Prop} (h:RoundIn (Fw r) n P l f tmps assign body W R):RoundIn (Fw r) m P l f tmps assign body W R :=
 ⟨h.1,fun c cs _=>h.2 c cs (by simp [Fence.room,Fw])⟩
theorem aLy {n:Nat} {gf:Nat} {lb:List Value} {g:Operand} {t:Tmp} {assign body:Code} {Q:Exit->Act->World->Prop} {a:Act} {W:World} {enc:α->Value} {xs:List α}
 (hg:a.eval g=.func (.func gf) #[] lb.toArray) (hE:rC P gf) (hit:∀W',Below W.heap.size W W'->aQ5 P gf lb enc xs W')
 (S0:Nat->Prop) (I:Nat->(Nat->Prop)->World->Prop) (Ix:(Nat->Prop)->World->Prop)
 (hI:∀i S W1 W2,I i S W1->Turn W.heap.size W1 W2->I i S W2) (hIx:∀S W1 W2,Ix S W1->Turn W.heap.size W1 W2->Ix S W2)
 (hIS:∀i S W1,I i S W1->∀b,S b->isCellsAt W1 b) (h0:I 0 S0 W)
 (hround:∀(l i:Nat) (x:α) (S:Nat->Prop) (W1:World),W.heap.size<=l->xs[i]? = some x->I i S W1 ->
  assign.wpIn (Fw (some l)) 9 P (Exit.then (fun a1 W2=>Kept W1 S W2/\∀W3,Turn W.heap.size W2 W3->Kept W2 (fun b=>b=l) W3->body.wpIn (Fw (some l)) 9 P (RP I Ix i S W1 W3) a1 W3) (fun _ _ _=>False))
   {tmps:=a.tmps.setIfInBounds t (enc x),defers:=[] } W1)
 (hdone:∀(d:Nat) (S:Nat->Prop) (W':World),W.heap.size<=d->I xs.length S W'->W'.heap[d]? = some (.deferred (some []))->Q .normal { a with defers:=zT d::a.defers } W')
 (hstop:∀(d:Nat) (S:Nat->Prop) (W':World),W.heap.size<=d->Ix S W'->W'.heap[d]? = some (.deferred (some []))->Q .ret { a with defers:=zT d::a.defers } W') :
 (Code.rangeFunc g #[t] assign body).wpIn (Fw none) n P Q a W:=by
 refine wpIn_rangeFunc ?_;intro fn hfn;let rc:LoopState->Option Code->Loop:=fun st pe=>{ state:=st,pending:=pe,fn:=fn,tmps:=a.tmps,params:=#[t],assign:=assign,body:=body,defers:=W.heap.size }
 let l:=W.heap.size+1;let W1:=(W.alloc (.deferred (some []))).alloc (.loop (rc .ready none));have hl1:W1.heap[l]? = some (.loop (rc .ready none)):=by
  have:=World.alloc_heap_new (W.alloc (.deferred (some []))) (.loop (rc .ready none));rwa [World.size_alloc] at this
 have hd1:W1.heap[W.heap.size]? = some (.deferred (some [])):=(Below.heap_alloc _ _ _ (by simp)).trans (World.alloc_heap_new W _);have hb1:Below W.heap.size W W1:=((Below.refl _ W).alloc (Nat.le_refl _) _).alloc (by simp) _;have hcal:=(hit W1 hb1) l (fun i Sf W'=>∃S,I i S W'/\W'.heap[l]? = some (.loop (rc .ready none))/\W'.heap[W.heap.size]? = some (.deferred (some []))/\∀b,Sf b↔S b\/b=l)
  (fun Sf W'=>∃S,Ix S W'/\W'.heap[l]? = some (.loop (rc .done (some .ret)))/\W'.heap[W.heap.size]? = some (.deferred (some []))) (fun b=>S0 b\/b=l)
  (fun i Sf A B ⟨S,q1,q2,q3,q4⟩ hb hd=>⟨S,hI i S A B q1 (Turn.of_below hb hd),(hb.block _ (cF q2)).trans q2,(hb.block _ (cF q3)).trans q3,q4⟩)
  (fun Sf A B ⟨S,q1,q2,q3⟩ hb hd=>⟨S,hIx S A B q1 (Turn.of_below hb hd),(hb.block _ (cF q2)).trans q2,(hb.block _ (cF q3)).trans q3⟩)
  (fun i Sf A ⟨S,q1,q2,q3,q4⟩ b hb=>by
   rcases (q4 b).1 hb with h | rfl
   ·exact(hIS i S A q1 b h).lt
   ·exact cF q2)
  (fun i x Sf A hx ⟨S,q1,q2,q3,q4⟩=>by
   have hy:=run_yield (P:=P) (args:=#[enc x]) q2 rfl;have htm:((rc .ready none).params.zip #[enc x]).foldl (fun tmps (t,a)=>tmps.setIfInBounds t a) (rc .ready none).tmps=a.tmps.setIfInBounds t (enc x):=by
    rw [←Array.foldl_toList];simp [rc]
   rw [htm] at hy;refine⟨fn,_,assign,body,hy,roundIn_of_wpIn hfn ?_⟩;refine wpIn_mono (hround l i x S A oM hx q1) ?_;intro e a1 A2 hq;cases e with
   | normal =>
    obtain⟨hbel,hbody⟩:=hq;have hSn:∀b o,A.heap[b]? = some o->aQ4 o=false->¬S b:=fun b o ho hc hS=>by
     obtain⟨o2,h',hd'⟩:=hIS i S A q1 b hS;rw [ho] at h';cases h';rw [hc] at hd';cases hd'
    have nl:¬S l:=hSn l _ q2 rfl;have nd:¬S W.heap.size:=hSn _ _ q3 rfl;have ll:¬A.heap.size<=l:=Nat.not_le_of_lt (cF q2);have ld:¬A.heap.size<=W.heap.size:=Nat.not_le_of_lt (cF q3);have q2':A2.heap[l]? = some (.loop (rc .ready none)):=(hbel.block _ (cF q2) nl).trans q2;have q3':A2.heap[W.heap.size]? = some (.deferred (some [])):=(hbel.block _ (cF q3) nd).trans q3;refine⟨_,run_beginRound q2' rfl,?_⟩;refine wpIn_mono (hbody _ (Turn.put q2' oM rfl) ⟨rfl,rfl,rfl,by simp,fun k hk hne=>World.putObj_heap_other hne,Nat.le_refl _⟩) ?_;have hlt:l < A2.heap.size:=cF q2'
    -- the record, busy
    have hbusy:(A2.putObj l (.loop (rc .busy none))).heap[l]? = some (.loop (rc .busy none)):=World.putObj_heap_same hlt;have hdb:(A2.putObj l (.loop (rc .busy none))).heap[W.heap.size]? = some (.deferred (some [])):=(World.putObj_heap_other oM).trans q3';have nl':¬(S l\/A.heap.size<=l):=fun h=>h.elim nl ll
    have nd':¬(S W.heap.size\/A.heap.size<=W.heap.size):=fun h=>h.elim nd ld
    have kept:∀(A4:World) (o:Obj),Kept (A2.putObj l (.loop (rc .busy none))) (fun b=>S b\/A.heap.size<=b) A4->Kept A Sf (A4.putObj l o):=fun A4 o hk=>by
     have hs0:=hbel.size;refine⟨hk.os.trans hbel.os,hk.tape.trans hbel.tape,hk.output.trans hbel.output,?_,fun k hlk hn=>?_,Nat.le_trans hbel.drawn hk.drawn⟩
     ·have:=hk.size;simp at this ⊢;omega
     ·have h1:k≠l:=fun e=>hn ((q4 k).2 (.inr e))
      have h2:¬S k:=fun h=>hn ((q4 k).2 (.inl h))
      rw [World.putObj_heap_other h1,hk.block k (by simp;omega) (fun h=>h.elim h2 (fun h=>absurd h (Nat.not_le_of_lt hlk))),World.putObj_heap_other h1];exact hbel.block k hlk h2
    intro e a4 A4 hp;cases e with
    | normal =>
     obtain⟨S',i1,i2,i3⟩:=hp;have hl4:A4.heap[l]? = some (.loop (rc .busy none)):=(i2.block l (cF hbusy) nl').trans hbusy;have hd4:A4.heap[W.heap.size]? = some (.deferred (some [])):=(i2.block _ (cF hdb) nd').trans hdb;refine⟨_,_,run_endRound none hl4,.inl ⟨rfl,fun b=>S' b\/b=l,⟨S',hI _ _ _ _ i1 (Turn.put hl4 oM rfl),World.putObj_heap_same (cF hl4),(World.putObj_heap_other oM).trans hd4,fun _=>Iff.rfl⟩,kept A4 _ i2,fun b hb=>?_⟩⟩;rcases hb with hb | rfl
     ·exact(i3 b hb).imp (fun h=>(q4 b).2 (.inl h)) id
     ·exact .inl ((q4 _).2 (.inr rfl))
    | ret =>
     obtain⟨S',i1,i2⟩:=hp;have hl4:A4.heap[l]? = some (.loop (rc .busy none)):=(i2.block l (cF hbusy) nl').trans hbusy;have hd4:A4.heap[W.heap.size]? = some (.deferred (some [])):=(i2.block _ (cF hdb) nd').trans hdb;exact⟨_,_,run_endRound (some .ret) hl4,.inr ⟨rfl,fun b=>S' b\/b=l,⟨S',hIx _ _ _ i1 (Turn.put hl4 oM rfl),World.putObj_heap_same (cF hl4),(World.putObj_heap_other oM).trans hd4⟩,kept A4 _ i2⟩⟩
    | exit id=>exact hp.elim
    | goto t=>exact hp.elim
    | panic ch=>exact hp.elim
    | outgrown=>exact hp.elim
   | ret=>exact hq.elim
   | exit id=>exact hq.elim
   | goto t=>exact hq.elim
   | panic ch=>exact hq.elim
   | outgrown=>exact hq.elim)
  ⟨S0,hI _ _ _ _ h0 (Turn.of_below hb1 (Nat.le_refl _)),hl1,hd1,fun _=>Iff.rfl⟩
 refine⟨l,[zT W.heap.size],W1,{ target:=.fn (.func gf) lb.toArray,args:=#[.func (.yield l) #[] #[]] },W1,gf,#[.func (.yield l) #[] #[]]++lb.toArray,W1,?_,?_,?_,?_,?_,?_⟩
 ·exact run_enterLoop_outer _ _ _ _ _
 ·simp only [resolve,hg];simp [go_sem]
 ·intro f' _;trivial
 ·simp only [invoke];rw [hE]
 ·intro h;simp [Fw] at h
 ·refine rE.2 (hcal.mono fun e W2 hp=>?_);obtain⟨⟨v,rfl⟩,S',hJ,_⟩:=hp;rcases hJ with⟨S,q1,q2,q3,_⟩ | ⟨S,q1,q2,q3⟩
  ·exact⟨none,_,run_endLoop q2 (by simp [rc]),hdone _ _ _ (Nat.le_refl _) (hI _ _ _ _ q1 (Turn.put q2 oM rfl)) ((World.putObj_heap_other oM).trans q3)⟩
  ·exact⟨some .ret,_,run_endLoop q2 (by simp [rc]),wpIn_ret (hstop _ _ _ (Nat.le_refl _) (hIx _ _ _ q1 (Turn.put q2 oM rfl)) ((World.putObj_heap_other oM).trans q3))⟩
end
end Go.Aw
namespace Go.Aw
open Go.RowKit
def mX {V R α:Type} (step:V->α->V⊕R):List α->V->V⊕R
 | [],v=>.inl v
 | x::l,v=>match step v x with
  | .inl v'=>mX step l v'
  | .inr r=>.inr r
theorem aF1 {V R α:Type} {step:V->α->V⊕R} {x:α}:∀{l:List α} {v:V},mX step (l++[x]) v=match mX step l v with
  | .inl v'=>step v' x
  | .inr r=>.inr r
 | [],v=>by simp only [List.nil_append,mX];cases step v x<;>rfl
 | y::l,v=>by
  simp only [List.cons_append,mX];cases step v y with
  | inl v'=>exact aF1
  | inr r=>rfl
theorem aF2 {V R α:Type} {step:V->α->V⊕R} {r:R} {m:List α}:∀{l:List α} {v:V},mX step l v=.inr r->mX step (l++m) v=.inr r
 | [],v,h=>by simp [mX] at h
 | y::l,v,h=>by
  simp only [List.cons_append,mX] at h ⊢;cases hs:step v y with
  | inl v'=>rw [hs] at h;exact aF2 h
  | inr r'=>rw [hs] at h;exact h
theorem aF3 {V R α:Type} {step:V->α->V⊕R} {xs:List α} {i:Nat} {x:α} {v0 v:V} (hx:xs[i]? = some x)(h:mX step (xs.take i) v0=.inl v):mX step (xs.take (i+1)) v0=step v x:=by
 obtain⟨hlt,hx⟩:=List.getElem?_eq_some_iff.1 hx;rw [←hx,List.take_succ_eq_append_getElem hlt,aF1,h]
def aAw {V R:Type} (k:V->R):V⊕R->R | .inl v=>k v | .inr r=>r
section
variable {P : Program} {T : Nat → Option TI} {cx : Cx}
def aU6 {α:Type} (P:Program)(g:Nat)(caps:List SV)(bs:List BK)(enc:α->Value)(xs:List α):Prop := rC P g/\∀(ρ:Env) (W:World) (lb:List Value),Rels ρ caps lb->(∀i,BRep ρ (fun b=>W.heap.size<=b) W i (bs.getD i .un))->(∀i,(bs.getD i .un).pl)->aQ5 P g lb enc xs W
structure Held (cx:Cx) (d:Nat) (cx':Cx):Prop where
 ex:∃W0,cx'=cx.hold W0 (fun b=>b=d)/\Kept cx.w cx.own W0/\W0.heap[d]? = some (.deferred (some []))/\cx.w.heap.size<=d
theorem aLz {α V R':Type} {n:Nat} {Q:Exit->Act->World->Prop} {s0:LS} {k:List K} {g:Operand} {t:Tmp} {assign body:Code} {gf:Nat} {caps capsR:List SV} {bs:List BK} {enc:α->Value} {xs:List α}
 (hgv:ev s0.fs.sl g=.f gf caps) (hgf:gf < 1000000) (ks:List Nat) (hc:renL ks caps=some capsR) (hbs:vJ ks s0.fs.bk ks []=some bs) (hit:aU6 P gf capsR bs enc xs)
 (encS:α->SV) (henc:∀ρ x,Rel ρ (encS x) (enc x)) (hpl:∀x k,¬(encS x).has k)
 (base:Nat) (hbase:cx.base<=base) (ht:t < s0.sl.length)
 (st:V->LS) (v0:V) (h0:st v0=s0) (hsl:∀v,(st v).sl=s0.sl) (hslb:belowL base s0.sl=true)
 (hro:∀v v' k sym cells,(st v').fs.bk k=.live false sym cells->(st v).fs.bk k=.live false sym cells/\k < base)
 (hun:∀v i,i < base->(st v).fs.bk i≠.un)
 (step:V->α->V⊕R') (str:R'->LS) (hroR:∀v r k sym cells,(str r).fs.bk k=.live false sym cells->(st v).fs.bk k=.live false sym cells/\k < base)
 (inv:Nat->V->Prop) (hi0:inv 0 v0) (sA:V->α->LS) (hsAl:∀v x,(sA v x).sl.length=s0.sl.length) (hsAu:∀v x i,i < base->(sA v x).fs.bk i≠.un)
 (hA:∀(cx':Cx) (l i:Nat) (v:V) (x:α) (QA:Exit->Act->World->Prop),cx'.base=base->xs[i]? = some x->inv i v->gW QA .normal cx' [] (sA v x)->Good P (some l) 9 QA cx' [] [.c assign] ⟨s0.sl.set t (encS x),(st v).bk⟩)
 (hB:∀(cx':Cx) (l i:Nat) (v:V) (x:α) (QB:Exit->Act->World->Prop),cx'.base=base->xs[i]? = some x->inv i v ->
  (∀v',step v x=.inl v'->inv (i+1) v'->gW QB .normal cx' [] ⟨List.replicate s0.sl.length .u,(st v').bk⟩) ->
  (∀r,step v x=.inr r->gW QB .ret cx' [] ⟨List.replicate s0.sl.length .u,(str r).bk⟩)->Good P (some l) 9 QB cx' [] [.c body] (sA v x))
 (hrest:∀(cx':Cx) (d:Nat) (v:V),Held cx d cx'->mX step xs v0=.inl v->inv xs.length v->Good P none n Q cx' [zT d] k (st v))
 (hexit:∀(cx':Cx) (d:Nat) (r:R'),Held cx d cx'->mX step xs v0=.inr r->gW Q .ret cx' [zT d] ⟨s0.sl,(str r).bk⟩) :
 Good P none n Q cx [] (.c (.rangeFunc g #[t] assign body)::k) s0:=by
 intro ρ0 a W hrep;simp only [gR];have hgr:=bW hrep g;rw [hgv] at hgr;simp only [Rel] at hgr;obtain⟨vs,hgval,hcr⟩:=hgr;rw [aLe hgf] at hgval;have hcapsR:=renL_rel caps capsR vs hc hcr;obtain⟨hbl,hbsp⟩:=wE ks [] bs hbs;have hslv:∀v,(st v).sl.length=s0.sl.length:=fun v=>by rw [hsl]
 have hfs:∀v,(st v).fs.sl=s0.fs.sl:=fun v=>by simp only [LS.fs,hsl]
 have hslk:∀(t k:Nat),(s0.fs.sl t).has k->k < base:=fun t k hk=>by
  simp only [LS.fs,gS] at hk;cases hx:s0.sl[t]? with
  | none=>rw [hx] at hk;simp [SV.has] at hk
  | some y=>rw [hx] at hk;exact belowL_has hslb (eP.2 ⟨y,List.mem_of_getElem? hx,hk⟩)
 have hcw:=hrep.size_le;refine aLy (enc:=enc) (xs:=xs) hgval hit.1 (fun W' hb=>hit.2 (iX ρ0 ks) W' vs hcapsR (fun i=>?_) (fun i=>?_)) (zS ρ0 s0.fs)
  (fun i S W1=>∃v ρ,mX step (xs.take i) v0=.inl v/\inv i v/\Rep cx s0.sl.length [] ρ (st v).fs a W1/\∀b,S b↔zS ρ (st v).fs b)
  (fun S W1=>∃r ρ,mX step xs v0=.inr r/\Rep cx s0.sl.length [] ρ ⟨s0.fs.sl,(str r).fs.bk⟩ a W1)
  (fun i S W1 W2 ⟨v,ρ,q1,q2,q3,q4⟩ hT=>⟨v,ρ,q1,q2,q3.turned hT hcw,q4⟩)
  (fun S W1 W2 ⟨r,ρ,q1,q2⟩ hT=>⟨r,ρ,q1,q2.turned hT hcw⟩)
  (fun i S W1 ⟨v,ρ,q1,q2,q3,q4⟩ b hb=>(q3.owns ((q4 b).1 hb)).1)
  ⟨v0,ρ0,rfl,hi0,by rw [h0];exact hrep,fun b=>by rw [h0]⟩ ?_ ?_ ?_
 ·cases hi:ks[i]? with
  | none =>
   have:bs[i]? = none:=by rw [List.getElem?_eq_none_iff] at hi ⊢;omega
   simp [this,BRep]
  | some k =>
   obtain⟨y,hy1,hy2⟩:=hbsp i k hi;rw [show bs.getD i .un=y by simp [hy1]];simp only [List.getD_nil,aBd,Bool.not_true] at hy2;refine(xM hi hy2 (hrep.pl k) ((hrep.bk k).grow (hb.mono (Nat.le_refl _))) (fun _ h=>by cases h) (fun _ b hlt _ hM=>absurd hM (Nat.not_le_of_lt hlt))).1
 ·cases hi:ks[i]? with
  | none =>
   have:bs[i]? = none:=by rw [List.getElem?_eq_none_iff] at hi ⊢;omega
   simp [this,BK.pl]
  | some k =>
   obtain⟨y,hy1,hy2⟩:=hbsp i k hi;rw [show bs.getD i .un=y by simp [hy1]];exact aNp hy2 (hrep.pl k)
 ·-- a round
  intro l i x S W1 hl hx ⟨v,ρ,hv,hinv,hrep1,hS⟩;have h2:=hrep1.only (Turn.of_below (B:=0) (Below.refl _ W1) (Nat.le_refl _)) base (hun v);have h3:=h2.put (some t) (fun d hd=>by cases hd;exact ht) (henc ρ x) (fun k hk=>absurd hk (hpl x k));have happ:(st v).app (some t) { val:=encS x }=some ⟨s0.sl.set t (encS x),(st v).bk⟩:=by
   simp only [LS.app,aLq];rw [hslv,if_pos ht,hsl]
  rw [←(aLr happ).1] at h3;have hlenA:(⟨s0.sl.set t (encS x),(st v).bk⟩:LS).sl.length=s0.sl.length:=by simp
  have hgA:=hA (Cx.only base W1 ρ (zS ρ (st v).fs)) l i v x (Exit.then (fun a1 W2=>Kept W1 S W2/\∀W3,Turn W.heap.size W2 W3->Kept W2 (fun b=>b=l) W3->body.wpIn (Fw (some l)) 9 P (RP
   (fun i S W1=>∃v ρ,mX step (xs.take i) v0=.inl v/\inv i v/\Rep cx s0.sl.length [] ρ (st v).fs a W1/\∀b,S b↔zS ρ (st v).fs b)
   (fun S W1=>∃r ρ,mX step xs v0=.inr r/\Rep cx s0.sl.length [] ρ ⟨s0.fs.sl,(str r).fs.bk⟩ a W1) i S W1 W3) a1 W3) (fun _ _ _=>False)) rfl hx hinv ?_ ρ (a.put (some t) (enc x)) W1 (by rw [hlenA];exact h3)
  ·have hdef:a.put (some t) (enc x)={ tmps:=a.tmps.setIfInBounds t (enc x),defers:=[] }:=by
    simp only [Act.put,hrep1.defs]
   rw [hdef] at hgA;simp only [gR] at hgA;exact hgA
  ·intro ρ1 a1 W2 hrep2;rw [hsAl] at hrep2;have hk2:Kept W1 S W2:=hrep2.kept.mono (fun b hb=>(hS b).2 hb);refine⟨hk2,fun W3 hT hK=>?_⟩;have h4:=hrep2.only hT base (hsAu v x);have hk3:Kept cx.w cx.own W3:=by
    refine(hrep1.kept.trans hrep2.kept (fun b hb hlt=>?_)).trans hK (fun b hb hlt=>?_)
    ·rcases (hrep1.owns hb).2 with h' | h'
     ·exact absurd h' (Nat.not_le_of_lt hlt)
     ·exact h'
    ·subst hb;omega
   have hsub:∀b,zS ρ1 (sA v x).fs b->zS ρ (st v).fs b\/W1.heap.size<=b:=fun b hb=>by
    rcases (hrep2.owns hb).2 with h' | h'
    ·exact .inr h'
    ·exact .inl h'
   have hsz:W1.heap.size<=W3.heap.size:=Nat.le_trans hk2.size hK.size;have hgB:=hB (Cx.only base W3 ρ1 (zS ρ1 (sA v x).fs)) l i v x (RP
    (fun i S W1=>∃v ρ,mX step (xs.take i) v0=.inl v/\inv i v/\Rep cx s0.sl.length [] ρ (st v).fs a W1/\∀b,S b↔zS ρ (st v).fs b)
    (fun S W1=>∃r ρ,mX step xs v0=.inr r/\Rep cx s0.sl.length [] ρ ⟨s0.fs.sl,(str r).fs.bk⟩ a W1) i S W1 W3) rfl hx hinv ?_ ?_ ρ1 a1 W3 (by rw [hsAl];exact h4)
   ·simp only [gR] at hgB;exact hgB
   ·intro v' hst hinv' ρ4 a4 W4 h5;have hj:=hrep1.rejoin (fun i hi=>(hrep2.old i hi).1) hrep2.fzo (fun b o ho=>(hrep2.fzn b o ho).2.2.elim (fun g=>(hrep1.fzn b o g).2.2) (fun g=>.inr (g.elim (fun g=>.inl (Nat.le_trans hrep1.kept.size g)) (fun g=>(hrep1.owns g).2)))) hsub h5 hsz hk3 hbase (fun t k hk=>hslk t k (by rw [hfs] at hk;exact hk)) (fun k sym cells hk=>hro v v' k sym cells hk);refine⟨zS ρ4 (st v').fs,⟨v',ρ4,(aF3 hx hv).trans hst,hinv',?_,fun b=>Iff.rfl⟩,h5.kept.mono (fun b hb=>(hsub b hb).imp (fun h=>(hS b).2 h) id),fun b hb=>?_⟩
    ·have e:(st v').fs=⟨(st v).fs.sl,(st v').fs.bk⟩:=by
      rw [hfs v,←hfs v']
     rw [e];exact hj
    ·have h':zS ρ4 (⟨List.replicate s0.sl.length .u,(st v').bk⟩:LS).fs b:=hb;rcases (h5.owns h').2 with h' | h'
     ·exact .inr (Nat.le_trans hsz h')
     ·exact(hsub b h').imp (fun h=>(hS b).2 h) id
   ·intro r hst ρ4 a4 W4 h5;have hj:=hrep1.rejoin (fun i hi=>(hrep2.old i hi).1) hrep2.fzo (fun b o ho=>(hrep2.fzn b o ho).2.2.elim (fun g=>(hrep1.fzn b o g).2.2) (fun g=>.inr (g.elim (fun g=>.inl (Nat.le_trans hrep1.kept.size g)) (fun g=>(hrep1.owns g).2)))) hsub h5 hsz hk3 hbase (fun t k hk=>hslk t k (by rw [hfs] at hk;exact hk)) (fun k sym cells hk=>hroR v r k sym cells hk);refine⟨fun _=>False,⟨r,ρ4,?_,?_⟩,h5.kept.mono (fun b hb=>(hsub b hb).imp (fun h=>(hS b).2 h) id)⟩
    ·have:=(aF3 hx hv).trans hst;rw [←List.take_append_drop (i+1) xs];exact aF2 this
    ·rw [←hfs v];exact hj
 ·-- all have come
  intro d S W' hd ⟨v,ρ,hv,hinv,hrep1,hS⟩ hdd;rw [List.take_length] at hv;have hnc:∀b,b=d->¬isCellsAt W' b:=fun b hb ⟨o,h,ho⟩=>by subst hb;rw [hdd] at h;cases h;cases ho
  have:=hrest (cx.hold W' (fun b=>b=d)) d v ⟨_,rfl,hrep1.kept,hdd,Nat.le_trans hcw hd⟩ hv hinv ρ { a with defers:=[zT d] } W' (by rw [hslv];exact(hrep1.hold hnc).defer _);rw [hrep.defs];exact this
 ·intro d S W' hd ⟨r,ρ,hr,hrep1⟩ hdd;have hnc:∀b,b=d->¬isCellsAt W' b:=fun b hb ⟨o,h,ho⟩=>by subst hb;rw [hdd] at h;cases h;cases ho
  have:=hexit (cx.hold W' (fun b=>b=d)) d r ⟨_,rfl,hrep1.kept,hdd,Nat.le_trans hcw hd⟩ hr ρ { a with defers:=[zT d] } W' ((hrep1.hold hnc).defer _);rw [hrep.defs,aCu (by simp) (by simp) (by simp)];exact this
theorem aJs (hT:nG P T) {n:Nat} {fn:Func} {ms ks:List Nat} {s:LS} {res:SV} {nb mb:List BK} (h:fin T fn.results.toList cx.base ms ks s=some (res,nb,mb)) {d:Nat} {cx':Cx} (hh:Held cx d cx') :
 gW (bodyPostM (Fw none) n P fn (RR cx res nb mb)) .ret cx' [zT d] s:=by
 obtain⟨W0,rfl,hk,hd,hdl⟩:=hh.ex;intro ρ a W hrep;have hdW:W.heap[d]? = some (.deferred (some [])):=(hrep.kept.block d (cF hd) (fun h=>h.2 rfl)).trans hd;have h1:=hrep.unhold hk (fun b hb=>by
  subst hb;exact⟨cF hd,fun⟨o,h,ho⟩=>by rw [hd] at h;cases h;cases ho⟩)
 have h2:=(h1.turned (Turn.put (o':=.deferred none) hdW hdl rfl) (Nat.le_refl _)).defer [];obtain⟨_,v,hv,hR⟩:=aLw hT h ρ _ _ h2;simp only [bodyPostM,hrep.defs,LeavesInM];refine⟨by simp,.inl ⟨d,_,rfl,run_takeDeferred hdW,?_⟩⟩;simp only [LeavesIn];exact⟨v,hv,hR⟩
theorem aJt {n:Nat} {f:Nat} {fn:Func} {c:Code} {args:List SV} {bs:List BK} {res:SV} {nb mb:List BK} (hf:P.funcs[f]? = some fn)(hb:fn.body=some c)(hent:rC P f)
 (hlen:args.length<=fn.ntmps) (hlive:(bs.all wG&&belowL bs.length args)=true) (hbs:aBj bs.length bs)
 (h:∀cx:Cx,cx.base=bs.length->Good P none n (bodyPostM (Fw none) n P fn (RR cx res nb mb)) cx [] [.c c] (oA fn.ntmps args bs)):Con P f args bs res nb mb:=by
 refine⟨hent,fun ρ W vs hargs hbs' hpl hap hfz=>?_⟩;have hrep:=zR hlen (by rw [hlive,tA hbs];rfl) hargs hbs' hpl hap hfz;have:=h (cO ρ W bs) rfl ρ _ W hrep;simp only [gR] at this;exact rE.1 (callsIn_of_wp_marks (n:=n) hf hb trivial this)
def aQ6 (base:Nat)(ts ks:List Nat):Option (Out×List Ob×List Or)->Option (Code×List K×LS×List Ob)
 | some (.at x k s,obs,[])=>match shrink base ts ks s with
  | some s'=>some (x,k,s',obs)
  | none=>none
 | _=>none
def aQ7 (base:Nat)(ts ks:List Nat):Option (Out×List Ob×List Or)->Option (LS×List Ob)
 | some (.norm s,obs,[])=>match shrink base ts ks s with
  | some s'=>some (s',obs)
  | none=>none
 | _=>none
def aQ8 (base:Nat)(ts ks:List Nat):Option (Out×List Ob×List Or)->Option (LS×List Ob)
 | some (.ret s,obs,[])=>match shrink base ts ks s with
  | some s'=>some (s',obs)
  | none=>none
 | _=>none
variable {D : List Deferred} {r : Option Nat} {n : Nat} {Q : Exit → Act → World → Prop}
theorem vL {e:Exit} {s s':LS} {ts ks:List Nat} {base:Nat} (hb:cx.base=base)(hs:Aw.shrink base ts ks s=some s')(h:gW Q e cx D s'):gW Q e cx D s:=by
 subst hb;intro ρ a W hrep;obtain⟨h1,h2⟩:=hrep.shrink hs;exact h _ a W (by rw [h2];exact h1)
theorem aAx (hT:nG P T)(hm:P.follows .mixedOrders=true) {f:Nat} {k k':List K} {s s':LS} {orc:List Or} (ads:List Adj)(ts ks:List Nat) {base:Nat} (hb:cx.base=base) {x:Code} {obs:List Ob}
 (h:aQ6 base ts ks (nJ ads (run T f k s orc))=some (x,k',s',obs)) (hob:Obs P obs) (hg:Good P r n Q cx D (.c x::k') s'):Good P r n Q cx D k s:=by
 unfold aQ6 at h;split at h
 ·rename_i x' k1 s1 obs' hrun;split at h
  ·rename_i s2 hs;simp only [bG,eA] at h;obtain⟨rfl,rfl,rfl,rfl⟩:=h;obtain⟨o',hr,hg'⟩:=pC (P:=P) (r:=r) (n:=n) (Q:=Q) (cx:=cx) (D:=D) hrun;exact fX hT hm f k s orc _ _ _ hr hob (hg' (sY hb hs hg))
  ·cases h
 ·cases h
theorem aNv (hT:nG P T)(hm:P.follows .mixedOrders=true) {f:Nat} {k:List K} {s s':LS} {orc:List Or} (ads:List Adj)(ts ks:List Nat) {base:Nat} (hb:cx.base=base) {obs:List Ob}
 (h:aQ7 base ts ks (nJ ads (run T f k s orc))=some (s',obs)) (hob:Obs P obs) (hg:gW Q .normal cx D s'):Good P r n Q cx D k s:=by
 unfold aQ7 at h;split at h
 ·rename_i s1 obs' hrun;split at h
  ·rename_i s2 hs;simp only [bG,eA] at h;obtain⟨rfl,rfl⟩:=h;obtain⟨o',hr,hg'⟩:=pC (P:=P) (r:=r) (n:=n) (Q:=Q) (cx:=cx) (D:=D) hrun;exact fX hT hm f k s orc _ _ _ hr hob (hg' (vL hb hs hg))
  ·cases h
 ·cases h
theorem aU7 (hT:nG P T)(hm:P.follows .mixedOrders=true) {f:Nat} {k:List K} {s s':LS} {orc:List Or} (ads:List Adj)(ts ks:List Nat) {base:Nat} (hb:cx.base=base) {obs:List Ob}
 (h:aQ8 base ts ks (nJ ads (run T f k s orc))=some (s',obs)) (hob:Obs P obs) (hg:gW Q .ret cx D s'):Good P r n Q cx D k s:=by
 unfold aQ8 at h;split at h
 ·rename_i s1 obs' hrun;split at h
  ·rename_i s2 hs;simp only [bG,eA] at h;obtain⟨rfl,rfl⟩:=h;obtain⟨o',hr,hg'⟩:=pC (P:=P) (r:=r) (n:=n) (Q:=Q) (cx:=cx) (D:=D) hrun;exact fX hT hm f k s orc _ _ _ hr hob (hg' (vL hb hs hg))
  ·cases h
 ·cases h
theorem aU8 (hT:nG P T)(hm:P.follows .mixedOrders=true) {fn:Func} {f:Nat} {k:List K} {s:LS} {orc:List Or} (ads:List Adj)(ms ks:List Nat) {base d:Nat} {cx':Cx} (hh:Held cx d cx')(hb:cx.base=base) {res:SV} {nb mb:List BK} {obs:List Ob}
 (h:aAv T fn.results.toList base ms ks (nJ ads (run T f k s orc))=some (res,nb,mb,obs)) (hob:Obs P obs):Good P none n (bodyPostM (Fw none) n P fn (RR cx res nb mb)) cx' [zT d] k s:=by
 subst hb;unfold aAv at h;split at h
 ·rename_i s' obs' hrun;split at h
  ·rename_i res' nb' mb' hf;simp only [bG,eA] at h;obtain⟨rfl,rfl,rfl,rfl⟩:=h;obtain⟨o',hr,hg⟩:=pC (P:=P) (r:=none) (n:=n) (Q:=bodyPostM (Fw none) n P fn (RR cx res' nb' mb')) (cx:=cx') (D:=[zT d]) hrun;exact fX hT hm f k s orc _ _ _ hr hob (hg (aJs hT hf hh))
  ·cases h
 ·cases h
theorem aU9 (hT:nG P T) {fn:Func} {s:LS} (ads:List Adj)(ms ks:List Nat) {s':LS} (ha:aBf ads s=some s') {base d:Nat} {cx':Cx} (hh:Held cx d cx')(hb:cx.base=base) {res:SV} {nb mb:List BK}
 (h:fin T fn.results.toList base ms ks s'=some (res,nb,mb)):gW (bodyPostM (Fw none) n P fn (RR cx res nb mb)) .ret cx' [zT d] s:=by
 subst hb;exact aC2 ha (aJs hT h hh)
end
end Go.Aw
namespace Go.Aw
open Go.RowKit
section
variable {P : Program} {T : Nat → Option TI} {cx : Cx} {N : Nat} {D : List Deferred} {ρ : Env} {s : FS} {a : Act} {W : World} {r : Option Nat} {n : Nat}
theorem aBk (hT:nG P T) {ops:Array Oper} {Q:Exit->Act->World->Prop} {rest:List Nat}:∀(l:List Oper) (i:Nat) (s s':LS) (orc orc':List Or) (evs:List Ev) (obs:List Ob),qJ T ops l i s orc=some (evs,s',obs,orc')->Obs P obs ->
 (∀j o,l[j]? = some o->ops[i+j]? = some o)->∀(ρ:Env) (a:Act) (W:World),Rep cx s.sl.length D ρ s.fs a W ->
 (∀ρ' a' W',Rep cx s.sl.length D ρ' s'.fs a' W'->s'.sl.length=s.sl.length->wpOpsIn (Fw r) n P ops Q rest a' W')->wpOpsIn (Fw r) n P ops Q (List.range' i l.length++rest) a W
 | [],i,s,s',orc,orc',evs,obs,h,_,_,ρ,a,W,hrep,hK=>by
  simp only [qJ,bG,eA] at h;obtain⟨_,rfl,_,_⟩:=h;simpa using hK ρ a W hrep rfl
 | o::l,i,s,s',orc,orc',evs,obs,h,hob,hl,ρ,a,W,hrep,hK=>by
  simp only [qJ] at h;split at h
  ·cases h
  ·rename_i v obs1 orc1 hv;split at h
   ·cases h
   ·rename_i s1 happ;split at h
    ·cases h
    ·rename_i vs s2 obs2 orc2 hrest;simp only [bG,eA] at h;obtain⟨rfl,rfl,rfl,rfl⟩:=h;obtain⟨ho1,ho2⟩:=Obs.append hob;have hi:ops[i]? = some o:=by have:=hl 0 o (by simp);simpa using this
     obtain⟨hfs,hd,hlen⟩:=aLr happ;have hdst:jT ops i=o.dst:=by simp [jT,hi]
     rw [List.length_cons,List.range'_succ,List.cons_append,wpOpsIn_cons];refine aNq (r:=r) (n:=n) (w0:=cx) (D:=D) hT hv ho1 hi hd s.fs (fun _ _=>rfl) (fun _ _=>.inl rfl) ρ a W Q _ hrep (fun ρ' a' W' h'=>?_);rw [hdst,←hfs] at h';refine aBk hT l (i+1) s1 s2 orc1 orc2 vs obs2 hrest ho2 (fun j o' hj=>?_) ρ' a' W' (by rw [hlen];exact h') (fun ρ'' a'' W'' h'' e''=>hK ρ'' a'' W'' (by rw [hlen] at h'';exact h'') (e''.trans hlen));rw [show i+1+j=i+(j+1) by omega];exact hl (j+1) o' (by simpa using hj)
def BK.frz:BK->BK | .live _ sym cells=>.live false sym cells | .map _=>.dead | x=>x
theorem Rep.freeze (h:Rep cx N D ρ s a W) {W':World} {S:Nat->Prop} (hk:Kept W S W')(hS:∀k own sym cells,s.bk k=.live own sym cells->∀b o n,ρ k=some (b,o,n)->¬S b)(hSf:∀b o,ρ.fz b=some o->¬S b)(base:Nat)(hb:∀i,i < base->s.bk i≠.un) :
 Rep (Cx.only base W' ρ (fun _=>False)) N D ρ ⟨s.sl,fun k=>(s.bk k).frz⟩ a W':=by
 have hun:∀k,s.bk k≠.un->(s.bk k).frz≠.un:=fun k hk=>by cases hx:s.bk k<;>simp_all [BK.frz]
 have cell:∀b o x,¬S b->W.cell? ⟨b,o,Option.none⟩=some x->W'.cell? ⟨b,o,Option.none⟩=some x:=fun b o x hb hx=>by
  have:=hk.block b (dB hx).lt hb;simp only [World.cell?] at hx ⊢;rw [this];exact hx
 refine { defs:=h.defs,size:=h.size,sl:=h.sl,bk:=fun k=>?_,apart:=fun i j b n b' n' hij hi hj=>?_,wf1:=fun t k hk=>hun k (h.wf1 t k hk),wf2:=fun j k hk=>hun k (h.wf2 j k ?_),kept:=Kept.refl _ _,pl:=fun k=>?_,old:=fun i hi=>⟨rfl,hun i (hb i hi)⟩,fzn:=fun b o ho=>⟨(hk.block b (cF (h.fzn b o ho).1) (hSf b o ho)).trans (h.fzn b o ho).1,fun k n hk=>?_,.inl ho⟩,fzo:=fun _ _ h=>h }
 ·have hbk:=h.bk k;show BRep ρ (Cx.only base W' ρ fun x=>False).mine W' k (s.bk k).frz;cases hx:s.bk k with
  | un=>trivial
  | dead=>trivial
  | map es=>trivial
  | live own sym cells =>
   rw [hx] at hbk;simp only [BK.frz];cases own
   case true=>
    rcases hbk with hbk | ⟨b,vs,rest,ty,h1,h2,h3,h4⟩
    ·exact .inl hbk
    ·refine .inr ⟨b,0,_,vs,h1,⟨by simp,fun _ hM=>?_⟩,h3,fun i x hi=>?_⟩
     ·rcases hM with hM | hM
      ·exact absurd (Nat.le_trans hk.size hM) (Nat.not_le_of_lt (cF h4))
      ·exact hM.elim
     ·refine cell b _ x (hS k _ _ _ hx b _ _ h1) ?_;have hlt:i < vs.length:=(List.getElem?_eq_some_iff.1 hi).1;simp [World.cell?,h4,List.getElem?_append_left hlt,hi]
   rcases hbk with hbk | ⟨b,o,n,vs,h1,h2,h3,h4⟩
   ·exact .inl hbk
   ·refine .inr ⟨b,o,n,vs,h1,⟨h2.1,fun hne hM=>?_⟩,h3,fun i x hi=>cell b _ x (hS k _ _ _ hx b _ _ h1) (h4 i x hi)⟩;obtain⟨x,vs',rfl⟩:=List.exists_cons_of_ne_nil hne;have hlt:=(dB (h4 0 x (by simp))).lt;rcases hM with hM | hM
    ·exact absurd (Nat.le_trans hk.size hM) (Nat.not_le_of_lt hlt)
    ·exact hM.elim
 ·cases hx:s.bk i<;>simp only [hx,BK.frz] at hi<;>exact hi.elim
 ·cases hx:s.bk j<;>simp only [hx,BK.frz,BK.has] at hk ⊢<;>exact hk
 ·have:=h.pl k;show(s.bk k).frz.pl;cases hx:s.bk k with
  | un=>trivial
  | dead=>trivial
  | map es=>trivial
  | live own sym cells=>rw [hx] at this;cases sym<;>exact this
 ·cases hx:s.bk k<;>simp only [hx,BK.frz] at hk<;>exact hk.elim
structure Seg (J:Nat->(Nat->Prop)->World->Prop) (W:World) (S:Nat->Prop) (i:Nat) (cx:Cx) (Sc:Nat->Prop):Prop where
 j:J i Sc cx.w
 kept:Kept W S cx.w
 sub:∀b,Sc b->S b\/W.heap.size<=b
 apart:∀k b o n,k < cx.base->cx.ρ k=some (b,o,n)->¬Sc b
 own:∀b,¬cx.own b
 apartF:∀b o,cx.ρ.fz b=some o->¬Sc b
structure SegX (Jx:(Nat->Prop)->World->Prop) (W:World) (S:Nat->Prop) (cx:Cx):Prop where
 j:∃Sc,Jx Sc cx.w
 kept:Kept W S cx.w
 own:∀b,¬cx.own b
def VR (J:Nat->(Nat->Prop)->World->Prop)(Jx:(Nat->Prop)->World->Prop)(m:Nat)(S:Nat->Prop)(W:World)(e:Ending)(W':World):Prop := (e=.returned (.bool true)/\∃S',J m S' W'/\Kept W S W'/\∀b,S' b->S b\/W.heap.size<=b) \/ (e=.returned (.bool false)/\∃S',Jx S' W'/\Kept W S W')
def zU (J:Nat->(Nat->Prop)->World->Prop):Prop:=∀i S W W',J i S W->Below W.heap.size W W'->W.drawn<=W'.drawn->J i S W'
def aG1 (Jx:(Nat->Prop)->World->Prop):Prop:=∀S W W',Jx S W->Below W.heap.size W W'->W.drawn<=W'.drawn->Jx S W'
def tB (J:Nat->(Nat->Prop)->World->Prop):Prop:=∀i S W,J i S W->∀b,S b->b < W.heap.size
def aQ9:BK->Bool | .live _ _ (_::_)=>true | _=>false
def gT (base:Nat):Nat->List BK->Bool | _,[]=>true | i,.live false _ _::l=>decide (i < base)&&gT base (i+1) l | i,_::l=>gT base (i+1) l
theorem pD {base:Nat}:∀{l:List BK} {i:Nat},gT base i l=true->∀k sym cells,l[k]? = some (.live false sym cells)->i+k < base
 | [],i,_,k,_,_,h=>by simp at h
 | x::l,i,hr,k,sym,cells,h=>by
  have hl:gT base (i+1) l=true/\(∀sym cells,x=.live false sym cells->i < base):=by
   cases x with
   | un=>simp only [gT] at hr;exact⟨hr,fun _ _ h=>by cases h⟩
   | dead=>simp only [gT] at hr;exact⟨hr,fun _ _ h=>by cases h⟩
   | map es=>simp only [gT] at hr;exact⟨hr,fun _ _ h=>by cases h⟩
   | live own sy cs=>cases own with
    | true=>simp only [gT] at hr;exact⟨hr,fun _ _ h=>by cases h⟩
    | false=>simp only [gT,Bool.and_eq_true,decide_eq_true_eq] at hr;exact⟨hr.2,fun _ _ _=>hr.1⟩
  cases k with
  | zero=>simp at h;exact hl.2 _ _ h
  | succ k=>have:=pD hl.1 k sym cells (by simpa using h);omega
theorem Seg.safe {J:Nat->(Nat->Prop)->World->Prop} (hB:tB J) {W0:World} {S Sc:Nat->Prop} {i:Nat} (h:Seg J W0 S i cx Sc) {s:LS} (hr:Rep cx N D ρ s.fs a W)(hro:gT cx.base 0 s.bk=true) :
 ∀k own sym cells,s.fs.bk k=.live own sym cells->∀b o n,ρ k=some (b,o,n)->¬Sc b:=by
 intro k own sym cells hk b o n hρ hSc;have hlt:=hB _ _ _ h.j b hSc;cases own
 case true=>
  have:=hr.bk k;rw [hk] at this;rcases this with⟨q,_⟩ | ⟨b',vs,rest,ty,q1,q2,q3,q4⟩
  ·rw [hρ] at q;cases q
  ·rw [hρ] at q1;cases q1;rcases q2 with q2 | q2
   ·omega
   ·exact h.own _ q2
 have hkb:k < cx.base:=by
  have:s.bk[k]? = some (.live false sym cells):=by
   simp only [LS.fs,gS] at hk;cases hx:s.bk[k]? with
   | none=>rw [hx] at hk;simp at hk
   | some y=>rw [hx] at hk;simp at hk;rw [hk]
  have:=pD hro k sym cells this;omega
 rw [(hr.old k hkb).1] at hρ;exact h.apart k b o n hkb hρ hSc
theorem Seg.safeF {J:Nat->(Nat->Prop)->World->Prop} (hB:tB J) {W0:World} {S Sc:Nat->Prop} {i:Nat} (h:Seg J W0 S i cx Sc) {s:FS} (hr:Rep cx N D ρ s a W)(b:Nat)(o:FC)(ho:ρ.fz b=some o):¬Sc b:=by
 intro hSc;have hlt:=hB _ _ _ h.j b hSc;rcases (hr.fzn b o ho).2.2 with g | g
 ·exact h.apartF b o g hSc
 ·rcases g with g | g
  ·omega
  ·exact h.own _ g
theorem Seg.call {J:Nat->(Nat->Prop)->World->Prop} {Jx:(Nat->Prop)->World->Prop} (hB:tB J) {W0:World} {S Sc:Nat->Prop} {i m:Nat} (h:Seg J W0 S i cx Sc) {s:LS} (hr:Rep cx N D ρ s.fs a W)(hro:gT cx.base 0 s.bk=true)
 (hlive:s.bk.all aQ9=true) {e:Ending} {W':World} (hv:VR J Jx m Sc W e W') :
 ∃b cx',e=.returned (.bool b)/\cx'.base=s.bk.length/\Rep cx' N D ρ ⟨s.fs.sl,fun k=>(s.fs.bk k).frz⟩ a W'/\(b=true->∃Sc',Seg J W0 S m cx' Sc')/\(b=false->SegX Jx W0 S cx'):=by
 have hsafe:=h.safe hB hr hro;have hlv:∀k,k < s.bk.length->∃own sym c cs,s.fs.bk k=.live own sym (c::cs):=fun k hk=>by
  have:=List.all_eq_true.1 hlive s.bk[k] (by simp);rw [show s.fs.bk k=s.bk[k] by simp [LS.fs,gS,hk]];cases hx:s.bk[k] with
  | un=>rw [hx] at this;cases this
  | dead=>rw [hx] at this;cases this
  | map es=>rw [hx] at this;cases this
  | live own sym cells=>cases cells with
   | nil=>rw [hx] at this;cases this
   | cons c cs=>exact⟨own,sym,c,cs,rfl⟩
 have hun:∀k,k < s.bk.length->s.fs.bk k≠.un:=fun k hk e=>by
  obtain⟨_,_,_,_,h⟩:=hlv k hk;rw [e] at h;cases h
 have hbel:Below cx.w.heap.size cx.w W:=by
  have:=hr.kept;exact⟨this.os,this.tape,this.output,this.size,fun k hk=>this.block k hk (h.own k)⟩
 have hkW:Kept W0 S W:=h.kept.grow hbel hr.kept.drawn;have comp:∀{W':World},Kept W Sc W'->Kept W0 S W':=fun hk=>hkW.trans hk (fun b hb hlt=>by
  rcases h.sub b hb with h' | h'
  ·exact h'
  ·omega)
 rcases hv with⟨rfl,S',j,k,sub⟩ | ⟨rfl,S',j,k⟩
 ·refine⟨true,Cx.only s.bk.length W' ρ (fun _=>False),rfl,rfl,hr.freeze k hsafe (h.safeF hB hr) _ hun,fun _=>⟨S',j,comp k,fun b hb=>?_,fun i b o n hi hρ hS'=>?_,fun b h=>h,fun b o ho hS'=>?_⟩,(fun h=>by cases h)⟩
  ·rcases sub b hb with h' | h'
   ·exact h.sub b h'
   ·exact .inr (Nat.le_trans hkW.size h')
  ·simp only [Cx.only] at hi hρ;obtain⟨own,sym,c,cs,hx⟩:=hlv i hi;rcases sub b hS' with h' | h'
   ·exact hsafe i own sym _ hx b o n hρ h'
   ·have hbk:=hr.bk i;rw [hx] at hbk;rcases hbk.read with⟨q,_⟩ | ⟨b',o',n',vs,q1,⟨q2,_⟩,_,q4⟩
    ·rw [hρ] at q;cases q
    ·rw [hρ] at q1;cases q1;cases vs with
     | nil=>simp [Rels] at q2
     | cons x vs =>
      have:=(dB (q4 0 x (by simp))).lt;omega
  ·simp only [Cx.only] at ho;rcases sub b hS' with h' | h'
   ·exact h.safeF hB hr b o ho h'
   ·have:=cF (hr.fzn b o ho).1;omega
 ·exact⟨false,Cx.only s.bk.length W' ρ (fun _=>False),rfl,rfl,hr.freeze k hsafe (h.safeF hB hr) _ hun,(fun h=>by cases h),fun _=>⟨⟨S',j⟩,comp k,fun b h=>h⟩⟩
theorem BRep.ro {M:Nat->Prop} {k:Nat} {sym:Bool} {cells:List SV} (h:BRep ρ M W k (.live false sym cells)):BRep ρ (fun b=>W.heap.size<=b) W k (.live false sym cells):=by
 rcases h with h | ⟨b,o,n,vs,h1,h2,h3,h4⟩
 ·exact .inl h
 ·refine .inr ⟨b,o,n,vs,h1,⟨h2.1,fun hne hM=>?_⟩,h3,h4⟩;obtain⟨x,vs',rfl⟩:=List.exists_cons_of_ne_nil hne;exact absurd hM (Nat.not_le_of_lt (dB (h4 0 x (by simp))).lt)
theorem aNw {o:Oper} {f:Operand} {args:Array Operand} {ts:Array TypeId} (hop:o.op=.call { callee:=.value f,args:=args,argTypes:=ts }) {g:Nat} {caps:List Value} {R:Ending->World->Prop}
 (hf:a.eval f=.func (.func g) #[] caps.toArray) (hE:rC P g) (hc:Calls P g (args.toList.map a.eval++caps).toArray W R) {K:Act->World->Prop} {Q:Exit->Act->World->Prop}
 (hK:∀e W',R e W'->∃v,e=.returned v/\K (a.put o.dst v) W'):o.wpIn (Fw r) n P a W K Q:=by
 have hnd':∀c,o.op≠.defer c:=fun c hc=>by rw [hop] at hc;cases hc
 have hrun:(execOp a.eval o).run P W=.ok (.enter g (args.toList.map a.eval++caps).toArray) W:=by
  have e1:(args.map a.eval)++caps.toArray=(args.toList.map a.eval++caps).toArray:=by apply Array.ext';simp
  simp only [execOp,hop,resolve,hf,Deferred.ofValue,Sem.run_bind,Sem.run_pure,Result.andThen_ok,invoke];simp only [Array.empty_append];rw [hE,e1]
 refine⟨fun _ _=>trivial,?_⟩;rw [Oper.semAt_eq _ _ _ hnd',hrun];simp only [Oper.uponIn];refine⟨fun h=>by simp [Fw] at h,rE.2 (hc.mono fun e w' hR=>?_)⟩;obtain⟨v,rfl,h⟩:=hK e w' hR;exact h
theorem aRa {o:Oper} {f:Operand} {args:Array Operand} {ts:Array TypeId} (hop:o.op=.call { callee:=.value f,args:=args,argTypes:=ts }) {l:Nat} {R:Ending->World->Prop}
 (hf:a.eval f=.func (.yield l) #[] #[]) {vs:Array Value} (hvs:args.map a.eval=vs) (hc:YieldAt (Fw Option.none) 9 P l vs W R) {K:Act->World->Prop} {Q:Exit->Act->World->Prop}
 (hK:∀e W',R e W'->∃v,e=.returned v/\K (a.put o.dst v) W'):o.wpIn (Fw Option.none) n P a W K Q:=by
 have hnd':∀c,o.op≠.defer c:=fun c hc=>by rw [hop] at hc;cases hc
 obtain⟨fn,tmps,assign,body,hy,hround⟩:=hc;have hrun:(execOp a.eval o).run P W=.ok (.round l fn tmps assign body) W:=by
  simp only [execOp,hop,resolve,hf,Deferred.ofValue,Sem.run_bind,Sem.run_pure,Result.andThen_ok,invoke];simp only [Array.empty_append];rw [hvs];exact hy
 refine⟨fun _ _=>trivial,?_⟩;rw [Oper.semAt_eq _ _ _ hnd',hrun];simp only [Oper.uponIn];refine⟨fun h=>by simp [Fw] at h,aPt (n:=9) (hround.mono fun e w' hR=>?_)⟩;obtain⟨v,rfl,h⟩:=hK e w' hR;exact h
theorem aAy {x y:Nat}:List.range (x+(y+1))=List.range' 0 x++x::List.range' (x+1) y:=by
 rw [List.range_eq_range',←List.range'_succ,←List.range'_append_1];simp
theorem aL0 (hT:nG P T) {Q:Exit->Act->World->Prop} {J:Nat->(Nat->Prop)->World->Prop} {Jx:(Nat->Prop)->World->Prop} (hJ:zU J)(hB:tB J) {W0:World} {S Sc:Nat->Prop} {i m:Nat} (hseg:Seg J W0 S i cx Sc)
 {ops:Array Oper} {id:Nat} {k:List K} {s s1:LS} (l1:List Oper) (o:Oper) (l2:List Oper) (hops:ops.toList=l1++o::l2) {orc1:List Or} {evs1:List Ev} {obs1:List Ob}
 (h1:qJ T ops l1 0 s orc1=some (evs1,s1,obs1,[])) (ho1:Obs P obs1) (hg:o.guard=Option.none) {dst:Nat} (hd:o.dst=some dst) (hdl:dst < s1.sl.length)
 (hro:gT cx.base 0 s1.bk=true) (hlive:s1.bk.all aQ9=true)
 (hcall:∀ρ a W2,Rep cx s1.sl.length D ρ s1.fs a W2->(∀k own sym cells,s1.fs.bk k=.live own sym cells->∀b o n,ρ k=some (b,o,n)->¬Sc b)->J i Sc W2 ->
  ∀(K:Act->World->Prop) (Q':Exit->Act->World->Prop),(∀e W',VR J Jx m Sc W2 e W'->∃v,e=.returned v/\K (a.put o.dst v) W')->o.wpIn (Fw Option.none) n P a W2 K Q')
 {s3:Bool->LS} {orc2:Bool->List Or} {evs2:Bool->List Ev} {obs2:Bool->List Ob} (h2:∀b,qJ T ops l2 (l1.length+1) ⟨s1.sl.set dst (.v (.bool b)),s1.bk.map BK.frz⟩ (orc2 b)=some (evs2 b,s3 b,obs2 b,[])) (ho2:∀b,Obs P (obs2 b))
 (hgood:∀b cx',cx'.base=s1.bk.length->(b=true->∃Sc',Seg J W0 S m cx' Sc')->(b=false->SegX Jx W0 S cx')->Good P Option.none n Q cx' D k (s3 b)) :
 Good P Option.none n Q cx D (.c (.region id ops false)::k) s:=by
 intro ρ a W hrep;simp only [gR];refine wpIn_region ?_;have hsz:ops.size=l1.length+(l2.length+1):=by
  have:=congrArg List.length hops;simpa using this
 have hget:∀j,ops[j]? = (l1++o::l2)[j]? := fun j=>by rw [←hops,Array.getElem?_toList]
 rw [hsz,aAy];refine aBk hT l1 0 s s1 orc1 [] evs1 obs1 h1 ho1 (fun j o' hj=>?_) ρ a W hrep (fun ρ1 a1 W1 hrep1 hl1=>?_)
 ·rw [hget,Nat.zero_add,List.getElem?_append_left (List.getElem?_eq_some_iff.1 hj).1];exact hj
 rw [←hl1] at hrep1;rw [wpOpsIn_cons];unfold wpOpIn;have ho:ops[l1.length]? = some o:=by rw [hget,List.getElem?_append_right (Nat.le_refl _)];simp
 rw [ho];have hw:Region.wanted o (yielded ops a1.tmps)=true:=by unfold Region.wanted;rw [hg]
 simp only [hw,if_true];have hbel:Below cx.w.heap.size cx.w W1:=by
  have:=hrep1.kept;exact⟨this.os,this.tape,this.output,this.size,fun k hk=>this.block k hk (hseg.own k)⟩
 refine hcall ρ1 a1 W1 hrep1 (hseg.safe hB hrep1 hro) (hJ _ _ _ _ hseg.j hbel hrep1.kept.drawn) _ _ (fun e W' hv=>?_);obtain⟨b,cx',rfl,hbase,hrep2,hs1,hs2⟩:=hseg.call hB hrep1 hro hlive hv;refine⟨_,rfl,?_⟩;have h3:=hrep2.put o.dst (fun d hd'=>by rw [hd] at hd';cases hd';exact hdl) (x:=.v (.bool b)) (y:=.bool b) (by simp [Rel]) (fun k hk=>absurd hk (by simp [SV.has]));have efs:((⟨s1.fs.sl,fun k=>(s1.fs.bk k).frz⟩:FS).app o.dst { val:=.v (.bool b) })=(⟨s1.sl.set dst (.v (.bool b)),s1.bk.map BK.frz⟩:LS).fs:=by
  rw [hd];simp only [FS.app,LS.fs,cN];congr 1
  ·funext t
   simp only [gS,List.getElem?_set];by_cases ht:t=dst
   ·subst ht;simp [hdl]
   ·rw [if_neg ht,if_neg (fun e=>ht e.symm)]
  ·funext k
   simp only [gS,List.getElem?_map];cases s1.bk[k]? <;> rfl
 rw [efs] at h3;have hl3:(⟨s1.sl.set dst (.v (.bool b)),s1.bk.map BK.frz⟩:LS).sl.length=s1.sl.length:=by simp
 have hpre:=aBk (r:=Option.none) (n:=n) (Q:=gR Option.none n P Q k) (rest:=[]) hT l2 (l1.length+1) _ (s3 b) (orc2 b) [] (evs2 b) (obs2 b) (h2 b) (ho2 b) (fun j o' hj=>?_) ρ1 _ W' (by rw [hl3];exact h3) (fun ρ4 a4 W4 hrep4 hl4=>?_)
 ·rw [List.append_nil] at hpre;exact hpre
 ·rw [hget,List.getElem?_append_right oM,show l1.length+1+j - l1.length=j+1 by omega];simpa using hj
 ·simp only [wpOpsIn];exact hgood b cx' hbase hs1 hs2 ρ4 a4 W4 (by rw [hl4];exact hrep4)
theorem aJu (hT:nG P T) {fn:Func} {R:Ending->World->Prop} {s:LS} {x:SV} {b:Bool} (hres:nI T s.fs fn.results.toList=some [x])(hx:∀ρ v,Rel ρ x v->v=.bool b)(hown:∀b,¬cx.own b)
 (hR:∀W,Below cx.w.heap.size cx.w W->cx.w.drawn<=W.drawn->R (.returned (.bool b)) W):gW (bodyPost P fn R) .ret cx [] s:=by
 intro ρ a W hrep;obtain⟨vs,hrun,hrel⟩:=rH hT hrep fn.results.toList [x] hres #[];have hmap:(fn.results.mapM (aCv a.tmps)).run P W=.ok vs.toArray W:=by
  rw [Array.mapM_eq_foldlM,←Array.foldlM_toList];simp only [Array.empty_append] at hrun;rw [←hrun];simp only [bind_pure_comp]
 obtain⟨y,rfl,hy⟩:∃y,vs=[y]/\Rel ρ x y:=aFs hrel;refine⟨hrep.defs,y,?_,?_⟩
 ·rw [wF];simp only [Sem.run_bind,hmap,Result.andThen_ok,Sem.run_pure];simp
 ·have:=hx ρ y hy;subst this;have hk:=hrep.kept;exact hR W ⟨hk.os,hk.tape,hk.output,hk.size,fun k hk'=>hk.block k hk' (hown k)⟩ hk.drawn
def evS (T:Nat->Option TI)(ops:Array Oper)(l:List Oper)(i:Nat)(s:LS)(orc:List Or):Option (LS×List Ob) :=
 match qJ T ops l i s orc with
 | some (_,s',obs,[])=>some (s',obs)
 | _=>Option.none
theorem xU {ops:Array Oper} {l:List Oper} {i:Nat} {s s':LS} {orc:List Or} {obs:List Ob} (h:evS T ops l i s orc=some (s',obs)):∃evs,qJ T ops l i s orc=some (evs,s',obs,[]):=by
 unfold evS at h;split at h
 ·rename_i evs s2 obs2 he;simp only [bG,eA] at h;obtain⟨rfl,rfl⟩:=h;exact⟨evs,he⟩
 ·cases h
theorem tC (hT:nG P T) {Q:Exit->Act->World->Prop} {J:Nat->(Nat->Prop)->World->Prop} {Jx:(Nat->Prop)->World->Prop} (hJ:zU J)(hB:tB J) {W0:World} {S Sc:Nat->Prop} {i m:Nat} (hseg:Seg J W0 S i cx Sc)
 {ops:Array Oper} {id:Nat} {k:List K} {s s1:LS} (l1:List Oper) (o:Oper) (l2:List Oper) (hops:ops.toList=l1++o::l2)
 (h1:evS T ops l1 0 s []=some (s1,[])) (hg:o.guard=Option.none) (dst:Nat) (hd:o.dst=some dst) (hdl:dst < s1.sl.length)
 (base:Nat) (hbase:cx.base=base) (hro:gT base 0 s1.bk=true) (hlive:s1.bk.all aQ9=true)
 (hcall:∀ρ a W2,Rep cx s1.sl.length D ρ s1.fs a W2->(∀k own sym cells,s1.fs.bk k=.live own sym cells->∀b o n,ρ k=some (b,o,n)->¬Sc b)->J i Sc W2 ->
  ∀(K:Act->World->Prop) (Q':Exit->Act->World->Prop),(∀e W',VR J Jx m Sc W2 e W'->∃v,e=.returned v/\K (a.put o.dst v) W')->o.wpIn (Fw Option.none) n P a W2 K Q')
 (s3:Bool->LS) (h2:∀b,evS T ops l2 (l1.length+1) ⟨s1.sl.set dst (.v (.bool b)),s1.bk.map BK.frz⟩ []=some (s3 b,[]))
 (hgood:∀b cx',cx'.base=s1.bk.length->(b=true->∃Sc',Seg J W0 S m cx' Sc')->(b=false->SegX Jx W0 S cx')->Good P Option.none n Q cx' D k (s3 b)) :
 Good P Option.none n Q cx D (.c (.region id ops false)::k) s:=by
 subst hbase;obtain⟨evs1,h1'⟩:=xU h1;exact aL0 hT hJ hB hseg l1 o l2 hops h1' trivial hg hd hdl hro hlive hcall (s3:=s3) (orc2:=fun _=>[]) (evs2:=fun b=>(xU (h2 b)).choose) (obs2:=fun _=>[]) (fun b=>(xU (h2 b)).choose_spec) (fun _=>trivial) hgood
def bA7 (T:Nat->Option TI)(rv:List ResultVar)(b:Bool):Option (Out×List Ob×List Or)->Option (List Ob)
 | some (.ret s,obs,[])=>match nI T s.fs rv with
  | some [.b c]=>if c=b then some obs else Option.none
  | some [.v (.bool c)]=>if c=b then some obs else Option.none
  | _=>Option.none
 | _=>Option.none
theorem uI (hT:nG P T)(hm:P.follows .mixedOrders=true) {fn:Func} {R:Ending->World->Prop} {f:Nat} {k:List K} {s:LS} {orc:List Or} {b:Bool} {obs:List Ob} (h:bA7 T fn.results.toList b (run T f k s orc)=some obs)(hob:Obs P obs)(hown:∀b,¬cx.own b)
 (hR:∀W,Below cx.w.heap.size cx.w W->cx.w.drawn<=W.drawn->R (.returned (.bool b)) W):Good P r n (bodyPost P fn R) cx [] k s:=by
 unfold bA7 at h;split at h
 ·rename_i s' obs' hrun;split at h
  ·rename_i c hres;split at h
   ·rename_i hc;subst hc;simp only [bG] at h;subst h;exact fX hT hm f k s orc _ _ _ hrun hob (aJu hT hres (fun ρ v hv=>by simpa [Rel] using hv) hown hR)
   ·cases h
  ·rename_i c hres;split at h
   ·rename_i hc;subst hc;simp only [bG] at h;subst h;exact fX hT hm f k s orc _ _ _ hrun hob (aJu hT hres (fun ρ v hv=>by simpa [Rel] using hv) hown hR)
   ·cases h
  ·cases h
 ·cases h
theorem aJv {fn:Func} {W:World} {tmps:Array Value} (h:fn.results=#[]):(results fn tmps).run P W=.ok (.tuple #[]) W:=by
 rw [wF,h];simp [Array.mapM_eq_foldlM]
mutual
def SV.noD:SV->Bool | .d _ _ _=>false | .f _ caps=>SV.noDl caps | .a l=>SV.noDl l | .t l=>SV.noDl l | _=>true
def SV.noDl:List SV->Bool | []=>true | x::l=>SV.noD x&&SV.noDl l
end
mutual
theorem Rel.strip {ρ ρ':Env} (he:∀k,ρ' k=ρ k):∀(x:SV) (y:Value),x.noD=true->Rel ρ x y->Rel ρ' x y
 | .u,_,_,_=>by simp [Rel]
 | .b x,y,_,h=>by simpa [Rel] using h
 | .v x,y,_,h=>by simpa [Rel] using h
 | .p k off,y,_,h=>by
  simp only [Rel] at h ⊢;rw [he k];exact h
 | .s k off len es,y,_,h=>by
  simp only [Rel] at h ⊢;rw [he k];exact h
 | .d cells len es,y,hn,h=>by simp [SV.noD] at hn
 | .m k,y,_,h=>by
  simp only [Rel] at h ⊢;rw [he k];exact h
 | .f g caps,y,hn,h=>by
  simp only [Rel] at h ⊢;obtain⟨vs,hy,h⟩:=h;exact⟨vs,hy,Rels.strip he caps vs hn h⟩
 | .a l,y,hn,h=>by
  simp only [Rel] at h ⊢;obtain⟨vs,hy,h⟩:=h;exact⟨vs,hy,Rels.strip he l vs hn h⟩
 | .t l,y,hn,h=>by
  simp only [Rel] at h ⊢;obtain⟨vs,hy,h⟩:=h;exact⟨vs,hy,Rels.strip he l vs hn h⟩
theorem Rels.strip {ρ ρ':Env} (he:∀k,ρ' k=ρ k):∀(l:List SV) (m:List Value),SV.noDl l=true->Rels ρ l m->Rels ρ' l m
 | [],[],_,_=>by simp [Rels]
 | [],_::_,_,h=>by simp [Rels] at h
 | _::_,[],_,h=>by simp [Rels] at h
 | x::l,y::m,hn,h=>by
  simp only [SV.noDl,Bool.and_eq_true] at hn;simp only [Rels] at h ⊢;exact⟨Rel.strip he x y hn.1 h.1,Rels.strip he l m hn.2 h.2⟩
end
def bA8:BK->Bool | .live _ _ cells=>SV.noDl cells | _=>true
theorem pO {n:Nat} {f:Nat} {fn:Func} {c:Code} {args:List SV} {bs:List BK} {vs:List Value} {R:Ending->World->Prop} (hf:P.funcs[f]? = some fn)(hb:fn.body=some c)
 (hlen:args.length<=fn.ntmps) (hlive:(bs.all wG&&belowL bs.length args)=true) (hbs:aBj bs.length bs) (hro:gT bs.length 0 bs=true) (hnown:∀i,¬(bs.getD i .un).own)
 (hnd:(SV.noDl args&&bs.all bA8)=true) (hargs:Rels ρ args vs) (hbr:∀i,BRep ρ (fun b=>W.heap.size<=b) W i (bs.getD i .un)) (hpl:∀i,(bs.getD i .un).pl)
 (h:∀cx:Cx,cx.base=bs.length->cx.w=W->(∀k,cx.ρ k=ρ k)->(∀b,cx.ρ.fz b=none)->(∀b,¬cx.own b)->Good P Option.none n (bodyPost P fn R) cx [] [.c c] (oA fn.ntmps args bs)):Calls P f vs.toArray W R:=by
 simp only [Bool.and_eq_true] at hnd;have ho:∀b,¬(cO ⟨ρ.loc,fun _=>none⟩ W bs).own b:=fun b ⟨i,n,hi,_⟩=>hnown i hi
 have hbr':∀i,BRep ⟨ρ.loc,fun _=>none⟩ (cO ⟨ρ.loc,fun _=>none⟩ W bs).mine W i (bs.getD i .un):=fun i=>by
  have:=hbr i;have hnb:bA8 (bs.getD i .un)=true:=by
   simp only [gS];cases hx:bs[i]? with
   | none=>rfl
   | some x=>exact List.all_eq_true.1 hnd.2 x (List.mem_of_getElem? hx)
  cases hx:bs.getD i .un with
  | un=>trivial
  | dead=>trivial
  | map es=>exact(hnown i (by rw [hx];trivial)).elim
  | live own sym cells =>
   rw [hx] at this hnb;cases own
   case true=>exact(hnown i (by rw [hx];trivial)).elim
   rcases this with h | ⟨b,o,n,vs,h1,h2,h3,h4⟩
   ·exact .inl h
   ·refine .inr ⟨b,o,n,vs,h1,⟨h2.1,fun hne hM=>?_⟩,Rels.strip (ρ:=ρ) (ρ':=⟨ρ.loc,fun _=>Option.none⟩) (fun _=>rfl) _ _ hnb h3,h4⟩;obtain⟨x,vs',rfl⟩:=List.exists_cons_of_ne_nil hne;have hlt:=(dB (h4 0 x (by simp))).lt;rcases hM with hM | hM
    ·exact absurd hM (Nat.not_le_of_lt hlt)
    ·exact(ho b hM).elim
 have hrep:=zR (ρ:=⟨ρ.loc,fun _=>none⟩) hlen (by rw [hlive,tA hbs];rfl) (Rels.strip (ρ:=ρ) (ρ':=⟨ρ.loc,fun _=>Option.none⟩) (fun _=>rfl) _ _ hnd.1 hargs) hbr' hpl (fun i j b n b' n' _ hi=>(hnown i hi).elim) (fun b o ho=>by cases ho);refine calls_of_wp hf hb ?_;have:=h (cO ⟨ρ.loc,fun _=>none⟩ W bs) rfl rfl (fun _=>rfl) (fun _=>rfl) ho _ _ W hrep;simp only [gR] at this;exact(wpIn_wide (n:=n)).1 this
def sI:List BK->List BK->Prop | [],_=>True | .live false sy c::l',x::l=>x=.live false sy c/\sI l' l | .live false _ _::_,[]=>False | _::l',x::l=>sI l' l | _::l',[]=>sI l' []
theorem gD {l' l:List BK} {sy:Bool} {c:List SV} {x:BK} (h:sI l' l):sI (.live true sy c::l') (x::l):=h
theorem jB {l' l:List BK} {x:BK} (h:sI l' l):sI (.dead::l') (x::l):=h
theorem aF4 {l:List BK}:sI [] l:=by cases l<;>exact trivial
theorem lL:∀{l' l:List BK},sI l' l->∀(k:Nat) (sy:Bool) (c:List SV),l'[k]? = some (BK.live false sy c)->l[k]? = some (BK.live false sy c)
 | [],_,_,k,_,_,h=>by simp at h
 | x::l',y::l,hr,k,sy,c,h=>by
  have hl:sI l' l/\(∀sy c,x=.live false sy c->y=.live false sy c):=by
   cases x with
   | un=>exact⟨hr,fun _ _ h=>by cases h⟩
   | dead=>exact⟨hr,fun _ _ h=>by cases h⟩
   | map es=>exact⟨hr,fun _ _ h=>by cases h⟩
   | live o s' c'=>cases o with
    | true=>exact⟨hr,fun _ _ h=>by cases h⟩
    | false=>exact⟨hr.2,fun _ _ h=>by cases h;exact hr.1⟩
  cases k with
  | zero=>simp at h;rw [h] at hl;simpa using hl.2 _ _ rfl
  | succ k=>simpa using lL hl.1 k sy c (by simpa using h)
 | x::l',[],hr,k,sy,c,h=>by
  cases x with
  | un=>cases k with
   | zero=>simp at h
   | succ k=>have:=lL (l':=l') (l:=[]) hr k sy c (by simpa using h);simp at this
  | dead=>cases k with
   | zero=>simp at h
   | succ k=>have:=lL (l':=l') (l:=[]) hr k sy c (by simpa using h);simp at this
  | map es=>cases k with
   | zero=>simp at h
   | succ k=>have:=lL (l':=l') (l:=[]) hr k sy c (by simpa using h);simp at this
  | live o s' c'=>cases o with
   | true=>cases k with
    | zero=>simp at h
    | succ k=>have:=lL (l':=l') (l:=[]) hr k sy c (by simpa using h);simp at this
   | false=>exact hr.elim
theorem aG2 {s:LS} {k:Nat} {o sy:Bool} {c:List SV} (h:s.fs.bk k=.live o sy c):s.bk[k]? = some (.live o sy c):=by
 simp only [LS.fs,gS] at h;cases hx:s.bk[k]? with
 | none=>rw [hx] at h;simp at h
 | some y=>rw [hx] at h;simp at h;rw [h]
theorem aW4 {s:LS} {k:Nat} {o sy:Bool} {c:List SV} (h:s.bk[k]? = some (.live o sy c)):s.fs.bk k=.live o sy c:=by
 simp only [LS.fs,gS,h,Option.getD_some]
theorem aRb {α V R':Type} {Q:Exit->Act->World->Prop} {s0:LS} {k:List K} {g:Operand} {t:Tmp} {assign body:Code} {gf:Nat} {caps:List SV} {enc:α->Value} {xs:List α}
 {base0:Nat} (hb0:cx.base=base0) (hgv:ev s0.fs.sl g=.f gf caps) (hgf:gf < 1000000) (ks:List Nat) (capsR:List SV) (bs:List BK) (hc:renL ks caps=some capsR) (hbs:vJ ks s0.fs.bk ks []=some bs) (hit:aU6 P gf capsR bs enc xs)
 (encS:α->SV) (henc:∀ρ x,Rel ρ (encS x) (enc x)) (hpl:∀x k,¬(encS x).has k)
 (base:Nat) (hbase:base0<=base) (ht:t < s0.sl.length)
 (st:V->LS) (v0:V) (h0:st v0=s0) (hsl:∀v,(st v).sl=s0.sl) (hslb:belowL base s0.sl=true)
 (hro1:∀v v',sI (st v').bk (st v).bk) (hro2:∀v,gT base 0 (st v).bk=true)
 (hun1:∀v,((st v).bk.all fun b=>!aBd b)=true) (hun2:∀v,base<=(st v).bk.length)
 (step:V->α->V⊕R') (str:R'->LS) (hrr1:∀v r,sI (str r).bk (st v).bk) (hrr2:∀r,gT base 0 (str r).bk=true)
 (inv:Nat->V->Prop) (hi0:inv 0 v0) (sA:V->α->LS) (hsAl:∀v x,(sA v x).sl.length=s0.sl.length)
 (hsA1:∀v x,((sA v x).bk.all fun b=>!aBd b)=true) (hsA2:∀v x,base<=(sA v x).bk.length)
 (hA:∀(cx':Cx) (l i:Nat) (v:V) (x:α) (QA:Exit->Act->World->Prop),cx'.base=base->xs[i]? = some x->inv i v->gW QA .normal cx' [] (sA v x)->Good P (some l) 9 QA cx' [] [.c assign] ⟨s0.sl.set t (encS x),(st v).bk⟩)
 (hB:∀(cx':Cx) (l i:Nat) (v:V) (x:α) (QB:Exit->Act->World->Prop),cx'.base=base->xs[i]? = some x->inv i v ->
  (∀v',step v x=.inl v'->inv (i+1) v'->gW QB .normal cx' [] ⟨List.replicate s0.sl.length .u,(st v').bk⟩) ->
  (∀r,step v x=.inr r->gW QB .ret cx' [] ⟨List.replicate s0.sl.length .u,(str r).bk⟩)->Good P (some l) 9 QB cx' [] [.c body] (sA v x))
 (hrest:∀(cx':Cx) (d:Nat) (v:V),Held cx d cx'->mX step xs v0=.inl v->inv xs.length v->Good P Option.none n Q cx' [zT d] k (st v))
 (hexit:∀(cx':Cx) (d:Nat) (r:R'),Held cx d cx'->mX step xs v0=.inr r->gW Q .ret cx' [zT d] ⟨s0.sl,(str r).bk⟩) :
 Good P Option.none n Q cx [] (.c (.rangeFunc g #[t] assign body)::k) s0:=by
 subst hb0;have nun:∀{l:List BK},(l.all fun b=>!aBd b)=true->base<=l.length->∀i,i < base->l.getD i .un≠.un:=fun {l} h1 h2 i hi=>by
  have hlt:i < l.length:=Nat.lt_of_lt_of_le hi h2;have:=List.all_eq_true.1 h1 l[i] (by simp);rw [show l.getD i .un=l[i] by simp [gS,hlt]];intro e;rw [e] at this;simp [aBd] at this
 exact aLz hgv hgf ks hc hbs hit encS henc hpl base hbase ht st v0 h0 hsl hslb
  (fun v v' k sym cells hk=>⟨aW4 (lL (hro1 v v') k sym cells (aG2 hk)),by have:=pD (hro2 v') k sym cells (aG2 hk);omega⟩)
  (fun v i hi=>nun (hun1 v) (hun2 v) i hi) step str
  (fun v r k sym cells hk=>⟨aW4 (lL (hrr1 v r) k sym cells (aG2 hk)),by have:=pD (hrr2 r) k sym cells (aG2 hk);omega⟩)
  inv hi0 sA hsAl (fun v x i hi=>nun (hsA1 v x) (hsA2 v x) i hi) hA hB hrest hexit
def tE:List Nat->List Nat->Code->List K->Option (Code×List K) | [],_,x,k=>some (x,k) | q::p,ms,.seq a b,k=>if q=0 then tE p ms a (.c b::k)else tE p ms b k | _::p,ms,.block id c,k=>tE p ms c (.b id::k) | q::p,ms,.cond _ a b,k=>if q=0 then tE p ms a k else tE p ms b k | _::p,m::ms,.loop body,k=>tE p ms body (.l body m::k) | _::p,m::ms,.scope body,k=>tE p ms body (.s body m::k) | _,_,_,_=>Option.none
def dY (p ms:List Nat)(c:Code):Code×List K:=(tE p ms c []).getD (.skip,[])
end
end Go.Aw
namespace Go.Aw
open Go.RowKit
def cat:List Ob->List Ob->List Ob | [],m=>m | x::l,m=>x::cat l m
theorem Obs.cat {P:Program}:∀{l m:List Ob},Obs P l->Obs P m->Obs P (cat l m)
 | [],_,_,h=>h
 | _::_,_,h,h'=>⟨h.1,Obs.cat h.2 h'⟩
structure St (P:Program) where
 o:List Or
 b:List Ob
 ok:Obs P b
def stO {P:Program}:List (St P)->List Or | []=>[] | x::l=>x.o++stO l
def stB {P:Program}:List (St P)->List Ob | []=>[] | x::l=>cat x.b (stB l)
theorem aL1 {P:Program}:∀l:List (St P),Obs P (stB l)
 | []=>trivial
 | x::l=>Obs.cat x.ok (aL1 l)
section
variable {P : Program}
def St.d {c d:Bool} (h:c=d):St P:=⟨[.d d],[.eq c d],h,trivial⟩
def St.T:St P:=St.d (rfl:true=true)
def St.F:St P:=St.d (rfl:false=false)
def St.p {p:Prop} (h:p):St P:=⟨[],[.pr p],h,trivial⟩
def St.i (i:Int)(n:Nat)(h:0<=i/\i < ((n:Nat):Int):=by omega):St P:=St.p h
def St.c (ks:List Nat) {f:Nat} {args:List SV} {bs:List BK} {res:SV} {nb mb:List BK} (h:Con P f args bs res nb mb):St P:=⟨[.call ks res nb mb],[.call f args bs res nb mb],h,trivial⟩
def St.u (m:Nat):St P:=⟨[.un m],[],trivial⟩
def St.l {l:List SV} {o n:Nat} (r:List SV)(h:(l.drop o).take n=r):St P:=⟨[.ld r],[.pr ((l.drop o).take n=r)],h,trivial⟩
theorem aNx {α:Type} [Inhabited α] {c:α->List SV} {es:Nat} (hc:∀x,(c x).length=es)(l:List α)(i:Int)(o n:Nat)(h:0<=i/\i < (l.length:Int))(ho:o+n<=es) :
 ((flat c l).drop (0+i.toNat*es+o)).take n=((c (l.getD i.toNat dF)).drop o).take n :=
 aU5 hc dF l i o n h ho oM rfl
def St.L {α:Type} [Inhabited α] {c:α->List SV} {es:Nat} (hc:∀x,(c x).length=es)(l:List α)(i:Int)(o n:Nat)(h:0<=i/\i < (l.length:Int):=by omega) (ho:o+n<=es:=by decide):St P :=
 St.l _ (aNx hc l i o n h ho)
def St.R {α:Type} [Inhabited α] {c:α->List SV} {es:Nat} (hc:∀x,(c x).length=es)(l:List α)(i:Int)(o n:Nat) {raw:List SV} (e:raw=flat c l)(h:0<=i/\i < (l.length:Int):=by first | omega | (simp only [Lt];omega)) (ho:o+n<=es:=by decide):St P :=
 St.l (l:=raw) (o:=0+i.toNat*es+o) (n:=n) (((c (l.getD i.toNat dF)).drop o).take n) (by rw [e];exact aNx hc l i o n h ho)
variable {T : Nat → Option TI} {cx : Cx} {D : List Deferred} {r : Option Nat} {n : Nat} {Q : Exit → Act → World → Prop}
def aV (fn:Func):Code:=fn.body.getD .skip
theorem bA9 {f:Nat} {fn:Func} {args:List SV} {bs:List BK} {res:SV} {nb mb:List BK} (hf:P.funcs[f]? = some fn)
 (hc : (fn.body.isSome && !(fn.name == "runtime.NumGoroutine") && decide (args.length ≤ fn.ntmps) && bs.all wG && belowL bs.length args && bs.all (wH bs.length)) = true)
 (h:∀cx:Cx,cx.base=bs.length->Good P none 9 (bodyPost P fn (RR cx res nb mb)) cx [] [.c (aV fn)] (oA fn.ntmps args bs)):Con P f args bs res nb mb:=by
 simp only [Bool.and_eq_true,Bool.not_eq_true',decide_eq_true_eq] at hc;obtain⟨⟨⟨⟨⟨h1,h2⟩,h3⟩,h4⟩,h5⟩,h6⟩:=hc;obtain⟨c,hb⟩:=Option.isSome_iff_exists.1 h1;have e:aV fn=c:=by unfold aV;rw [hb];rfl
 exact aJl (n:=9) hf hb (ent hf h2 hb) h3 (by rw [h4,h5,h6];rfl) (fun cx hcx=>e▸h cx hcx)
theorem bBa (hT:nG P T)(hm:P.follows .mixedOrders=true) {fn:Func} {f:Nat} {k:List K} {s:LS} (sts:List (St P))(ads:List Adj)(ks:List Nat) {base:Nat} (hb:cx.base=base) {res:SV} {nb:List BK}
 (h:aAv T fn.results.toList base [] ks (nJ ads (run T f k s (stO sts)))=some (res,nb,[],stB sts)):Good P none n (bodyPost P fn (RR cx res nb [])) cx [] k s:=aQ2 hT hm ads [] ks hb h (aL1 sts)
theorem aVa (hT:nG P T)(hm:P.follows .mixedOrders=true) {f:Nat} {k:List K} {s:LS} (sts:List (St P))(ads:List Adj)(ts ks:List Nat) {base:Nat} (hb:cx.base=base)(body:Code)(k':List K)(s':LS)(m:Nat)
 (h:xT base ts ks (nJ ads (run T f k s (stO sts)))=some (body,k',s',stB sts)) (hg:Good P r n Q cx D (.l body m::k') s'):Good P r n Q cx D k s:=aQ3 hT hm ads ts ks hb h (aL1 sts) ⟨m,hg⟩
theorem aYf (hT:nG P T)(hm:P.follows .mixedOrders=true) {f m:Nat} {k:List K} {s:LS} (sts:List (St P))(ads:List Adj)(ts ks:List Nat) {base:Nat} (hb:cx.base=base)(body:Code)(k':List K)(s':LS)
 (h:aCy base ts ks (nJ ads (run T f k s (stO sts)))=some (body,m,k',s',stB sts)) (hg:Good P r n Q cx D (.l body m::k') s'):Good P r n Q cx D k s:=aU4 hT hm ads ts ks hb h (aL1 sts) hg
theorem bDv (hT:nG P T)(hm:P.follows .mixedOrders=true) {f:Nat} {k:List K} {s:LS} (sts:List (St P))(ads:List Adj)(ts ks:List Nat) {base:Nat} (hb:cx.base=base)(x:Code)(k':List K)(s':LS)
 (h:aQ6 base ts ks (nJ ads (run T f k s (stO sts)))=some (x,k',s',stB sts)) (hg:Good P r n Q cx D (.c x::k') s'):Good P r n Q cx D k s:=aAx hT hm ads ts ks hb h (aL1 sts) hg
end
def gU (n:Nat):List (Nat×SV)->List SV | []=>List.replicate n .u | (t,x)::l=>(gU n l).set t x
theorem aZ {S R:Type} [Inhabited R] (step:S->S⊕R)(n:Nat)(v:S):aG step (n+1) v=bN step n (step v):=rfl
end Go.Aw
