/-
  Parts of the proofs of the laws: the executor, what functions of the program compute, and that it is what the statements ask. No premise.
-/
import Derived.Test.YtlckcjfbjnjfhaaGreatVPtb5
set_option linter.unusedVariables false
set_option linter.unusedSimpArgs false
set_option maxHeartbeats 4000000
open Int renaming toNat → tN
open Inhabited renaming default → dF
namespace Go.Aw
open Go.RowKit
section
variable {P : Program} {T : Nat → Option TI} {cx : Cx} {N : Nat} {D : List Deferred} {ρ : Env} {s : FS} {a : Act} {W : World} {r : Option Nat} {n : Nat} {Q : Exit → Act → World → Prop}
theorem Rep.back (h:Rep cx N D ρ s a W) {base:Nat} (hbase:cx.base<=base) {N':Nat} {D':List Deferred} {ρ':Env} {s':FS} {a':Act} {W':World}
 (hr:Rep (Cx.only base W ρ (gH ρ s)) N' D' ρ' s' a' W') (hro:∀k sym cells,s'.bk k=.live false sym cells->s.bk k=.live false sym cells/\k < base):Rep cx N' D' ρ' s' a' W':=by
 have hρ:∀i,i < base->ρ' i=ρ i:=fun i hi=>(hr.old i hi).1
 have hSm:∀b,gH ρ s b->cx.mine b:=fun b hb=>(h.owns hb).2
 have hle:ρ.le ρ':=hr.fzo
 refine { defs:=hr.defs,size:=hr.size,sl:=hr.sl,bk:=fun k=>?_,apart:=hr.apart,wf1:=hr.wf1,wf2:=hr.wf2,
          kept:=h.kept.trans hr.kept (fun b hb hlt=>?_),pl:=hr.pl,old:=fun i hi=>⟨(hρ i (Nat.lt_of_lt_of_le hi hbase)).trans (h.old i hi).1,(hr.old i (Nat.lt_of_lt_of_le hi hbase)).2⟩,fzn:=fun b o ho=>⟨(hr.fzn b o ho).1,(hr.fzn b o ho).2.1,?_⟩,fzo:=fun b o ho=>hle b o (h.fzo b o ho) }
 ·have hb:=hr.bk k
  cases hx:s'.bk k with
  | un=>trivial
  | dead=>trivial
  | live own sym cells =>
   rw [hx] at hb
   cases own with
   | true =>
    rcases hb with hb | ⟨b,vs,rest,ty,h1,h2,h3,h4⟩
    ·exact .inl hb
    ·refine .inr ⟨b,vs,rest,ty,h1,?_,h3,h4⟩
     rcases h2 with h2 | h2
     ·exact .inl (Nat.le_trans h.kept.size h2)
     ·exact hSm b h2
   | false =>
    rcases hb with hb | ⟨b,o,n,vs,h1,h2,h3,h4⟩
    ·exact .inl hb
    ·refine .inr ⟨b,o,n,vs,h1,⟨h2.1,fun hne hM=>?_⟩,h3,h4⟩
     obtain⟨e1,e2⟩:=hro k sym cells hx
     have h0:=h.bk k
     rw [e1] at h0
     rcases h0 with⟨q1,q2⟩ | ⟨b0,o0,n0,vs0,q1,q2,q3,q4⟩
     ·rw [hρ k e2,q1] at h1;cases h1
     ·rw [hρ k e2,q1] at h1;cases h1
      have hl:vs0.length=vs.length:=by rw [←q3.length,h3.length]
      obtain⟨ob,hob⟩:=q2.2 (fun e=>hne (by subst e;exact List.eq_nil_of_length_eq_zero hl.symm)) hM
      exact⟨ob,hle _ _ hob⟩
  | map es =>
   rw [hx] at hb
   obtain⟨b,n,arr,q1,h2,q3,q4⟩:=hb
   refine⟨b,n,arr,q1,?_,q3,q4⟩
   rcases h2 with h2 | h2
   ·exact .inl (Nat.le_trans h.kept.size h2)
   ·exact hSm b h2
 ·rcases hSm b hb with h' | h'
  ·exact absurd h' (Nat.not_le_of_lt hlt)
  ·exact h'
 ·rcases (hr.fzn b o ho).2.2 with g | g | g
  ·exact(h.fzn b o g).2.2
  ·exact .inr (.inl (Nat.le_trans h.kept.size g))
  ·exact .inr (hSm b g)
abbrev iV:=Nat×Nat×List SV
def mO (nn:Nat)(r:iV):Value:=.slice (some ⟨r.1,0,none⟩) nn r.2.1
structure RowOK (cx:Cx) (ρ:Env) (s:FS) (W:World) (nn es:Nat) (r:iV):Prop where
 pl:Plain r.2.2
 len:r.2.2.length=nn*es
 cap:nn<=r.2.1
 mine:cx.mine r.1
 own:¬gH ρ s r.1
 fz:ρ.fz r.1=none
 at':∃(vs rest:List Value) (ty:TypeId),Rels ρ r.2.2 vs/\W.heap[r.1]? = some (.cells (vs++rest).toArray ty (0,0))/\r.2.1*es<=(vs++rest).length
structure TabOK (cx:Cx) (ρ:Env) (s:FS) (W:World) (nn es:Nat) (rows:List (Option iV)):Prop where
 row:∀(i:Nat) (r:iV),rows[i]? = some (some r)->RowOK cx ρ s W nn es r
 ne:∀(i j:Nat) (r q:iV),i≠j->rows[i]? = some (some r)->rows[j]? = some (some q)->r.1≠q.1
theorem RowOK.lt {nn es:Nat} {x:iV} (h:RowOK cx ρ s W nn es x):x.1 < W.heap.size:=by
 obtain⟨vs,rest,ty,_,h,_⟩:=h.at'
 exact bQ h
theorem RowOK.back {nn es:Nat} {x:iV} (h:RowOK cx ρ s W nn es x) {base:Nat} {N':Nat} {D':List Deferred} {ρ':Env} {s':FS} {a':Act} {W':World}
 (hr:Rep (Cx.only base W ρ (gH ρ s)) N' D' ρ' s' a' W'):RowOK cx ρ' s' W' nn es x:=by
 have hlt:=h.lt
 refine⟨h.pl,h.len,h.cap,h.mine,fun ho=>?_,?_,?_⟩
 ·rcases (hr.owns ho).2 with g | g
  ·exact absurd g (Nat.not_le_of_lt hlt)
  ·exact h.own g
 ·cases hf:ρ'.fz x.1 with
  | none=>rfl
  | some o =>
   rcases (hr.fzn x.1 o hf).2.2 with g | g | g
   ·change ρ.fz x.1=some o at g;rw [h.fz] at g;cases g
   ·exact absurd g (Nat.not_le_of_lt hlt)
   ·exact absurd g h.own
 ·obtain⟨vs,rest,ty,h1,h2,h3⟩:=h.at'
  exact⟨vs,rest,ty,Plain.congr hr.fzo h.pl h1,(hr.kept.block x.1 hlt h.own).trans h2,h3⟩
theorem TabOK.back {nn es:Nat} {rows:List (Option iV)} (ht:TabOK cx ρ s W nn es rows) {base:Nat} {N':Nat} {D':List Deferred} {ρ':Env} {s':FS} {a':Act} {W':World}
 (hr:Rep (Cx.only base W ρ (gH ρ s)) N' D' ρ' s' a' W'):TabOK cx ρ' s' W' nn es rows:=⟨fun i r hi=>(ht.row i r hi).back hr,ht.ne⟩
def GoodT (P:Program)(r:Option Nat)(n:Nat)(Q:Exit->Act->World->Prop)(cx:Cx)(D:List Deferred)(nn es:Nat)(rows:List (Option iV))(k:List K)(s:LS):Prop :=
 ∀(ρ:Env) (a:Act) (W:World),Rep cx s.sl.length D ρ s.fs a W->TabOK cx ρ s.fs W nn es rows->eL r n P Q k .normal a W
def BK.ro:BK->Option (Bool×List SV)
 | .live false sy c=>some (sy,c)
 | _=>none
def roE (b:Nat)(l m:List BK):Prop:=(l.take b).map BK.ro=(m.take b).map BK.ro/\((l.drop b).all fun x=>x.ro.isNone)=true
theorem aWp {l m:List BK} {b:Nat} (h:roE b l m) {k:Nat} {sy:Bool} {c:List SV} (hk:l[k]? = some (.live false sy c)):m[k]? = some (.live false sy c)/\k < b:=by
 rcases Nat.lt_or_ge k b with hlt | hge
 ·have h1:((l.take b).map BK.ro)[k]? = some (some (sy,c)):=by
   rw [List.getElem?_map,List.getElem?_take,if_pos hlt,hk];rfl
  rw [h.1,List.getElem?_map,List.getElem?_take,if_pos hlt] at h1
  cases hm:m[k]? with
  | none=>rw [hm] at h1;cases h1
  | some y =>
   rw [hm] at h1
   simp only [Option.map_some,aX] at h1
   cases y with
   | live o s2 c2=>cases o with
    | true=>simp [BK.ro] at h1
    | false=>simp only [BK.ro,aX,dE] at h1;obtain⟨rfl,rfl⟩:=h1;exact⟨rfl,hlt⟩
   | un=>simp [BK.ro] at h1
   | dead=>simp [BK.ro] at h1
   | map es=>simp [BK.ro] at h1
 ·have h2:BK.live false sy c∈l.drop b:=List.mem_of_getElem? (i:=k - b) (by rw [List.getElem?_drop,show b+(k - b)=k by omega];exact hk)
  have:=List.all_eq_true.1 h.2 _ h2
  simp [BK.ro] at this
theorem aDf {s s':LS} {b:Nat} (h:roE b s'.bk s.bk):∀k sym cells,s'.fs.bk k=.live false sym cells->s.fs.bk k=.live false sym cells/\k < b:=fun k sy c hk=>by
 have:=aWp h (aB4 hk)
 exact⟨aEv this.1,this.2⟩
theorem Rep.sub' (h:Rep cx N D ρ s a W) {base:Nat} (hb:∀i,i < base->s.bk i≠.un):Rep (Cx.only base W ρ (gH ρ s)) N D ρ s a W :=
 h.only (B:=0) (Turn.of_below ⟨rfl,rfl,rfl,Nat.le_refl _,fun _ _=>rfl⟩ (Nat.le_refl _)) base hb
theorem GoodT.frame {nn es:Nat} {rows:List (Option iV)} {k k':List K} {s s':LS} (hstep:∀cx1:Cx,cx1.base=cx.base->Good P r n Q cx1 D k' s'->Good P r n Q cx1 D k s)
 (hro:roE cx.base s'.bk s.bk) (h:GoodT P r n Q cx D nn es rows k' s'):GoodT P r n Q cx D nn es rows k s:=by
 intro ρ a W hrep htab
 refine hstep (Cx.only cx.base W ρ (gH ρ s.fs)) rfl (fun ρ' a' W' hr=>?_) ρ a W (hrep.sub' (fun i hi=>(hrep.old i hi).2))
 exact h ρ' a' W' (hrep.back (Nat.le_refl _) hr (aDf hro)) (htab.back hr)
theorem GoodT.round {nn es:Nat} {rows:List (Option iV)} {body:Code} {m:Nat} {k:List K} {s:LS} (h:GoodT P r n Q cx D nn es rows (.c body::.l body m::k) s):GoodT P r n Q cx D nn es rows (.l body (m+1)::k) s:=by
 intro ρ a W hrep ht
 have:=h ρ a W hrep ht
 simp only [eL] at this ⊢
 rw [roundsIn_succ]
 refine wpIn_mono this (fun e a w hq=>?_)
 cases e<;>simpa [eL,Exit.then] using hq
theorem aJj {ops:Array Oper} {m:Nat} (hlow:∀i o,ops[i]? = some o->∀e∈o.after,Region.binds .any e=true->e.on < i)
 (hsuf:∀(D:Nat->Bool) i o,m<=i->ops[i]? = some o->(∀j o,ops[j]? = some o->D j=true->∀e∈o.after,Region.binds .any e=true->D e.on=true)->(∀e∈o.after,Region.binds .any e=true->D e.on=true)->∀k,k < i->D k=true) :
 ∀(fuel i:Nat) (listed:Array Bool),listed.size=ops.size->m<=i->i<=ops.size->ops.size - i<=fuel->(∀j,listed.getD j false=decide (j < i))->∀a W,wpOpsIn (Fw r) n P ops Q (List.range' i (ops.size - i)) a W->wpAnyIn (Fw r) n P .any ops Q fuel listed a W:=by
 have hun:∀(listed:Array Bool) (x:Nat),x < listed.size->(listed.getD x true=false↔listed.getD x false=false):=fun listed x hx=>by
  simp only [Array.getD_eq_getD_getElem?,Array.getElem?_eq_getElem hx,Option.getD_some]
 have hsz:∀(i:Nat) (listed:Array Bool),listed.size=ops.size->m<=i->(∀j,listed.getD j false=decide (j < i))->∀x∈Region.ready .any ops listed,x=i/\i < ops.size:=fun i listed hs hmi hl x hx=>by
  obtain⟨h1,o,ho,hall⟩:=mem_ready.1 hx
  have hxs:=(Array.getElem?_eq_some_iff.1 ho).1
  have h1':listed.getD x false=false:=by
   have hxl:x < listed.size:=by omega
   simp only [Array.getD_eq_getD_getElem?,Array.getElem?_eq_getElem hxl,Option.getD_some] at h1 ⊢
   exact h1
  rw [hl] at h1'
  have hge:i<=x:=by simpa using h1'
  rcases Nat.lt_or_ge i x with hlt | hle
  ·have:=hsuf (fun j=>decide (j < i)) x o (by omega) ho (fun j o' ho' hj e he hb=>by
    have:=hlow j o' ho' e he hb
    simp only [decide_eq_true_eq] at hj ⊢;omega) (fun e he hb=>by have:=hall e he hb;rw [hl] at this;exact this) i hlt
   simp at this
  ·obtain rfl:x=i:=by omega
   exact⟨rfl,hxs⟩
 intro fuel
 induction fuel with
 | zero =>
  intro i listed hs hmi his hf hl a W h
  obtain rfl:i=ops.size:=by omega
  simp only [Nat.sub_self,List.range'_zero,wpOpsIn] at h
  simp only [wpAnyIn]
  refine⟨?_,h⟩
  rw [List.eq_nil_iff_forall_not_mem]
  intro x hx
  have:=(hsz _ listed hs hmi hl x hx).2
  omega
 | succ fuel ih =>
  intro i listed hs hmi his hf hl a W h
  rcases Nat.lt_or_ge i ops.size with hlt | hge
  ·have hmem:i∈Region.ready .any ops listed:=by
    refine mem_ready.2 ⟨?_,ops[i],by simp [hlt],fun e he hb=>?_⟩
    ·have:=hl i
     have hil:i < listed.size:=by omega
     simp only [Array.getD_eq_getD_getElem?,Array.getElem?_eq_getElem hil,Option.getD_some] at this ⊢
     simpa using this
    ·rw [hl];simpa using hlow i ops[i] (by simp [hlt]) e he hb
   refine⟨fun hnil=>(by rw [hnil] at hmem;cases hmem),fun x hx=>?_⟩
   obtain⟨rfl,_⟩:=hsz i listed hs hmi hl x hx
   rw [show ops.size - x=(ops.size - (x+1))+1 by omega,List.range'_succ,wpOpsIn_cons] at h
   refine wpOpIn_mono (fun a' w' h'=>ih (x+1) _ (by simp [hs]) (by omega) hlt (by omega) (fun j=>?_) a' w' h') h
   by_cases hj:j=x
   ·subst hj;have hil:j < listed.size:=by omega
    simp [hil]
   ·rw [getD_set_ne false (Ne.symm hj),hl]
    simp only [decide_eq_decide];omega
  ·obtain rfl:i=ops.size:=by omega
   simp only [Nat.sub_self,List.range'_zero,wpOpsIn] at h
   refine⟨fun _=>h,fun x hx=>?_⟩
   have:=(hsz _ listed hs hmi hl x hx).2
   omega
theorem aE2 {m size:Nat} (h:m<=size) {p:Nat->Bool} (hp:∀j,m<=j->j < size->p j=true):size - m<=((List.range size).filter p).length:=by
 have:List.range size=List.range' 0 m++List.range' (0+m) (size - m):=by
  rw [List.range_eq_range',List.range'_append_1];congr 1;omega
 rw [this,List.filter_append,List.length_append]
 have h2:(List.range' (0+m) (size - m)).filter p=List.range' (0+m) (size - m):=by
  rw [List.filter_eq_self]
  intro j hj
  rw [List.mem_range'_1] at hj
  exact hp j (by omega) (by omega)
 rw [h2];simp
theorem aL9 {ops:Array Oper} {evs:List Ev} {m:Nat} (hlen:evs.length=m)(hms:m<=ops.size) {s0:FS} (hm:P.follows .mixedOrders=true)
 {wr rd ard:Nat->Nat⊕Nat->Prop} {alt:Nat->Nat⊕Nat->SV⊕BK->Prop} {dep:Nat->Nat->Prop} (c:Conf m (bW ops evs) wr rd ard alt dep)
 (hrs:∀i v t,evs[i]? = some v->t∈v.rs->rd i (.inl t)) (hrb:∀i v k,evs[i]? = some v->k∈v.rb->rd i (.inr k)\/(ard i (.inr k)/\∀y,alt i (.inr k) y->∃b,y=.inr b/\(k,b)∈v.alt))
 (hlow:∀i o,ops[i]? = some o->∀e∈o.after,Region.binds .any e=true->e.on < i)
 (hdep:∀(D:Nat->Bool) i o,i < m->ops[i]? = some o->(∀j o,ops[j]? = some o->D j=true->∀e∈o.after,Region.binds .any e=true->D e.on=true)->(∀e∈o.after,Region.binds .any e=true->D e.on=true)->∀k,dep i k->D k=true)
 (hsuf:∀(D:Nat->Bool) i o,m<=i->ops[i]? = some o->(∀j o,ops[j]? = some o->D j=true->∀e∈o.after,Region.binds .any e=true->D e.on=true)->(∀e∈o.after,Region.binds .any e=true->D e.on=true)->∀k,k < i->D k=true)
 (hloc:∀i v,evs[i]? = some v->oT P r n cx N D ops i (SD (bW ops evs) (fun _=>true) s0 i) v)
 (hrep:Rep cx N D ρ s0 a W)
 (hK:∀ρ' a' W',Rep cx N D ρ' (SD (bW ops evs) (fun _=>true) s0 m) a' W'->wpOpsIn (Fw r) n P ops Q (List.range' m (ops.size - m)) a' W') {id:Nat} :
 (Code.region id ops true).wpIn (Fw r) n P Q a W:=by
 refine wpIn_region_any hm ?_
 have hrep':Rep cx N D ρ s0 a { W with drawn:=W.drawn+1 }:=hrep.grow ⟨rfl,rfl,rfl,Nat.le_refl _,fun _ _=>rfl⟩ (Nat.le_succ _)
 have key:∀fuel (listed:Array Bool),listed.size=ops.size->((List.range ops.size).filter fun j=>!listed.getD j false).length<=fuel ->
  (∀j o,ops[j]? = some o->listed.getD j false=true->∀e∈o.after,Region.binds .any e=true->listed.getD e.on false=true) ->
  (∀j,m<=j->listed.getD j false=false) ->
  ∀ρ a W,Rep cx N D ρ (SD (bW ops evs) (fun j=>listed.getD j false) s0 m) a W->wpAnyIn (Fw r) n P .any ops Q fuel listed a W:=by
  intro fuel
  induction fuel with
  | zero =>
   intro listed hsz hfew hcl hoff ρ a W h
   have hge:=aE2 hms (p:=fun j=>!listed.getD j false) (fun j hj _=>by rw [hoff j hj];rfl)
   have hall:∀j,j < m->listed.getD j false=true:=fun j hj=>by
    have h0:(List.range ops.size).filter (fun j=>!listed.getD j false)=[]:=List.length_eq_zero_iff.1 (by omega)
    have:=(List.filter_eq_nil_iff.1 h0) j (by simp;omega)
    simpa using this
   have hS:∀q,q<=m->SD (bW ops evs) (fun j=>listed.getD j false) s0 q=SD (bW ops evs) (fun _=>true) s0 q:=by
    intro q
    induction q with
    | zero=>intro _;rfl
    | succ q ihm=>intro hm';simp only [SD,ihm (by omega),hall q (by omega)]
   refine aJj hlow hsuf 0 m listed hsz (Nat.le_refl _) hms (by omega) (fun j=>?_) a W (hK ρ a W (hS m (Nat.le_refl _)▸h))
   rcases Nat.lt_or_ge j m with hj | hj
   ·rw [hall j hj];simp [hj]
   ·rw [hoff j hj];simp;omega
  | succ fuel ih =>
   intro listed hsz hfew hcl hoff ρ a W h
   by_cases hdone:∀j,j < m->listed.getD j false=true
   ·have hS:∀q,q<=m->SD (bW ops evs) (fun j=>listed.getD j false) s0 q=SD (bW ops evs) (fun _=>true) s0 q:=by
     intro q
     induction q with
     | zero=>intro _;rfl
     | succ q ihm=>intro hm';simp only [SD,ihm (by omega),hdone q (by omega)]
    have hge:=aE2 hms (p:=fun j=>!listed.getD j false) (fun j hj _=>by rw [hoff j hj];rfl)
    refine aJj hlow hsuf (fuel+1) m listed hsz (Nat.le_refl _) hms (by omega) (fun j=>?_) a W (hK ρ a W (hS m (Nat.le_refl _)▸h))
    rcases Nat.lt_or_ge j m with hj | hj
    ·rw [hdone j hj];simp [hj]
    ·rw [hoff j hj];simp;omega
   ·refine⟨fun hnil=>?_,fun i hi=>?_⟩
    ·exfalso
     refine hdone fun j=>?_
     induction j using Nat.strongRecOn with
     | ind j ihj =>
      intro hj
      cases hlj:listed.getD j false with
      | true=>rfl
      | false =>
       exfalso
       have hjs:j < ops.size:=by omega
       have ho:ops[j]? = some ops[j]:=by simp [hjs]
       have:j∈Region.ready .any ops listed:=by
        refine mem_ready.2 ⟨?_,ops[j],ho,fun e he hb=>ihj e.on (hlow j _ ho e he hb) (by have:=hlow j _ ho e he hb;omega)⟩
        have hjl:j < listed.size:=by omega
        simp only [Array.getD_eq_getD_getElem?,Array.getElem?_eq_getElem hjl,Option.getD_some] at hlj ⊢
        exact hlj
       rw [hnil] at this;cases this
    ·obtain⟨h1,o,ho,hall⟩:=mem_ready.1 hi
     have his:=(Array.getElem?_eq_some_iff.1 ho).1
     have hil:i < listed.size:=by omega
     have hDi:listed.getD i false=false:=by
      simp only [Array.getD_eq_getD_getElem?,Array.getElem?_eq_getElem hil,Option.getD_some] at h1 ⊢
      exact h1
     have him:i < m:=by
      rcases Nat.lt_or_ge i m with h' | h'
      ·exact h'
      ·exact(hdone fun j hj=>hsuf (fun j=>listed.getD j false) i o h' ho hcl hall j (by omega)).elim
     have hie:i < evs.length:=by omega
     have hev:evs[i]? = some evs[i]:=by simp [hie]
     have hD':∀j,(listed.setIfInBounds i true).getD j false=(listed.getD j false || decide (j=i)):=fun j=>by
      by_cases hj:j=i
      ·subst hj;simp [hil]
      ·rw [getD_set_ne false (Ne.symm hj)];simp [hj]
     have hclo:∀j k,j < m->listed.getD j false=true->dep j k->listed.getD k false=true:=fun j k hj hDj hd =>
      hdep (fun j=>listed.getD j false) j (ops[j]'(by omega)) hj (by simp) hcl (hcl j (ops[j]'(by omega)) (by simp) hDj) k hd
     have hcond:∀k,dep i k->listed.getD k false=true:=fun k hk=>hdep (fun j=>listed.getD j false) i o him ho hcl hall k hk
     have hlo:∀j,listed.getD j false=true->j < m:=fun j hj=>by
      rcases Nat.lt_or_ge j m with h' | h'
      ·exact h'
      ·rw [hoff j h'] at hj;cases hj
     refine hloc i evs[i] hev (SD (bW ops evs) (fun j=>listed.getD j false) s0 m) (fun t ht=>?_) (fun k hk=>?_) ρ a W Q _ h (fun ρ' a' W' h'=>?_)
     ·have:=c.reads (s0:=s0) him hDi hclo hcond (hrs i _ t hev ht)
      simpa [FS.at'] using this
     ·rcases hrb i _ k hev hk with h5 | ⟨h5,h6⟩
      ·have:=c.reads (s0:=s0) him hDi hclo hcond h5
       exact .inl (by simpa [FS.at'] using this)
      ·rcases c.areads (s0:=s0) him hDi hclo hcond h5 with h7 | h7
       ·exact .inl (by simpa [FS.at'] using h7)
       ·obtain⟨b,e,hb⟩:=h6 _ h7
        have e':(SD (bW ops evs) (fun j=>listed.getD j false) s0 m).bk k=b:=by simpa [FS.at'] using e
        exact .inr (by rw [e'];exact hb)
     ·refine ih (listed.setIfInBounds i true) (by simp [hsz]) ?_ (fun j o' ho' hj e he hb=>?_) (fun j hj=>?_) ρ' a' W' ?_
      ·have:=xD (p:=fun j=>!listed.getD j false) (q:=fun j=>!(listed.setIfInBounds i true).getD j false) (i:=i) (fun j hj=>by
        rw [hD'] at hj;simp at hj ⊢;exact hj.1) (by simp only [hDi];rfl) (by rw [hD'];simp) (List.range ops.size) (by simp [his])
       omega
      ·rw [hD'] at hj ⊢
       by_cases hji:j=i
       ·subst hji
        rw [ho] at ho';cases ho'
        simp [hall e he hb]
       ·simp only [hji,decide_false,Bool.or_false] at hj
        simp [hcl j o' ho' hj e he hb]
      ·rw [hD',hoff j hj];simp;omega
      ·have hadd:=c.add (s0:=s0) him hDi hD' hclo hlo
       rw [hadd]
       simp only [bW,hev]
       exact h'
 have h0:∀j,(Array.replicate ops.size false).getD j false=false:=fun j=>by
  rcases Nat.lt_or_ge j ops.size with h' | h'
  ·simp [h']
  ·simp [Array.getElem?_eq_none (xs:=Array.replicate ops.size false) (by simpa using h')]
 refine key ops.size (Array.replicate ops.size false) (by simp) (Nat.le_trans (List.length_filter_le _ _) (by simp)) (fun j o _ hj=>by rw [h0] at hj;cases hj) (fun j _=>h0 j) ρ a _ ?_
 have:SD (bW ops evs) (fun j=>(Array.replicate ops.size false).getD j false) s0 m=s0:=by
  have:∀m,SD (bW ops evs) (fun j=>(Array.replicate ops.size false).getD j false) s0 m=s0:=by
   intro m
   induction m with
   | zero=>rfl
   | succ m ihm=>have hm0:=h0 m;simp only [SD];exact(if_neg (by rw [hm0];simp)).trans ihm
  exact this _
 rw [this];exact hrep'
theorem aE3 {ops:Array Oper} (hT:kC P T) {all:List Ev} {s0:FS}:∀(l:List Oper) (i:Nat) (s:LS) (orc:List Or) (evs:List Ev) (s':LS) (obs:List Ob) (orc':List Or),kH T ops l i s orc=some (evs,s',obs,orc')->Obs P obs ->
 (∀j o,l[j]? = some o->ops[i+j]? = some o)->(∀j,evs[j]? = all[i+j]?)->s.fs=SD (bW ops all) (fun _=>true) s0 i ->
 evs.length=l.length/\s'.fs=SD (bW ops all) (fun _=>true) s0 (i+l.length)/\s'.sl.length=s.sl.length /\
  ∀j v,evs[j]? = some v->oT P r n cx s.sl.length D ops (i+j) (SD (bW ops all) (fun _=>true) s0 (i+j)) v
 | [],i,s,orc,evs,s',obs,orc',h,_,_,_,hs=>by
  simp only [kH,aX,dE] at h
  obtain⟨rfl,rfl,_,_⟩:=h
  exact⟨rfl,hs,rfl,fun j v hv=>by simp at hv⟩
 | o::l,i,s,orc,evs,s',obs,orc',h,hob,hl,he,hs=>by
  simp only [kH] at h
  split at h
  ·cases h
  ·rename_i v obs1 orc1 hv
   split at h
   ·cases h
   ·rename_i s1 happ
    split at h
    ·cases h
    ·rename_i vs s2 obs2 orc2 hrest
     simp only [aX,dE] at h
     obtain⟨rfl,rfl,rfl,rfl⟩:=h
     obtain⟨ho1,ho2⟩:=Obs.append hob
     have hi:ops[i]? = some o:=by have:=hl 0 o (by simp);simpa using this
     have hall:all[i]? = some v:=by have:=he 0;simpa using this.symm
     obtain⟨hfs,hd,hlen⟩:=aFl happ
     have hs1:s1.fs=SD (bW ops all) (fun _=>true) s0 (i+1):=by
      simp only [SD,if_true,bW,hall,←hs]
      rw [hfs];simp [fT,hi]
     obtain⟨h1,h2,h3,h4⟩:=aE3 hT l (i+1) s1 orc1 vs s2 obs2 orc2 hrest ho2 (fun j o' hj=>by have:=hl (j+1) o' (by simpa using hj);simpa [Nat.add_assoc,Nat.add_comm 1 j] using this)
      (fun j=>by have:=he (j+1);simpa [Nat.add_assoc,Nat.add_comm 1 j] using this) hs1
     refine⟨by simp [h1],by rw [h2];congr 1;simp;omega,h3.trans hlen,fun j w hw=>?_⟩
     cases j with
     | zero =>
      simp at hw;subst hw
      have:=aFo (r:=r) (n:=n) (w0:=cx) (D:=D) hT hv ho1 hi hd
      rw [Nat.add_zero,←hs];exact this
     | succ j =>
      have:=h4 j w (by simpa using hw)
      rw [hlen] at this
      rw [show i+(j+1)=i+1+j by omega];exact this
def aX7 (ops:Array Oper)(m:Nat):Bool:=(List.range ops.size).all fun i =>
 ((ops.toList[i]?).map fun o=>(iW o).all fun e=>decide (e < i)).getD true&&(decide (i < m) || (List.range i).all fun j=>((tX ops.toList []).getD i 0).testBit j)
def aG4 (T:Nat->Option TI)(ops:Array Oper)(draw:Bool)(m:Nat)(s:LS)(orc:List Or):Option (LS×List Ob) :=
 match kH T ops (ops.toList.take m) 0 s orc with
 | some (evs,s',obs,[])=>if(!draw || (aBq (ops.toList.take m).toArray evs&&aX7 ops m))=true then some (s',obs++(if draw=true then tY (ops.toList.take m).toArray evs else [])) else none
 | _=>none
theorem wE (hT:kC P T)(hm:P.follows .mixedOrders=true) {ops:Array Oper} {draw:Bool} {m:Nat} (hms:m<=ops.size) {s s':LS} {orc:List Or} {obs:List Ob} {id:Nat}
 (h:aG4 T ops draw m s orc=some (s',obs)) (hob:Obs P obs) (hrep:Rep cx s.sl.length D ρ s.fs a W)
 (hK:∀ρ' a' W',Rep cx s'.sl.length D ρ' s'.fs a' W'->s'.sl.length=s.sl.length->wpOpsIn (Fw r) n P ops Q (List.range' m (ops.size - m)) a' W'):(Code.region id ops draw).wpIn (Fw r) n P Q a W:=by
 unfold aG4 at h
 split at h
 ·rename_i evs s1 obs1 hev
  split at h
  ·rename_i hch
   simp only [aX,dE] at h
   obtain⟨rfl,rfl⟩:=h
   obtain⟨hob1,hob2⟩:=Obs.append hob
   have hget:∀j o,(ops.toList.take m)[j]? = some o->ops[0+j]? = some o:=fun j o hj=>by
    have hjl:=(List.getElem?_eq_some_iff.1 hj).1
    rw [List.length_take] at hjl
    rw [List.getElem?_take,if_pos (by omega)] at hj
    simpa using hj
   have hlt:(ops.toList.take m).length=m:=by simp [hms]
   cases draw with
   | false =>
    refine wpIn_region ?_
    have hsz:List.range ops.size=List.range' 0 (ops.toList.take m).length++List.range' m (ops.size - m):=by
     rw [hlt,List.range_eq_range']
     have:=List.range'_append_1 (s:=0) (m:=m) (n:=ops.size - m)
     rw [Nat.zero_add] at this
     rw [this];congr 1;omega
    rw [hsz]
    exact rS hT _ 0 s _ orc [] evs obs1 hev hob1 hget ρ a W hrep (fun ρ' a' W' h' e'=>hK ρ' a' W' (by rw [e'];exact h') e')
   | true =>
    simp only [Bool.not_true,Bool.false_or,Bool.and_eq_true] at hch
    obtain⟨hrace,hsufc⟩:=hch
    obtain⟨h1,h2,h3,h4⟩:=aE3 (ops:=ops) (r:=r) (n:=n) (cx:=cx) (D:=D) (all:=evs) (s0:=s.fs) hT _ 0 s orc evs _ obs1 [] hev hob1 hget (fun j=>by simp) rfl
    have hlen:evs.length=m:=by rw [h1,hlt]
    have hlenA:evs.length=(ops.toList.take m).toArray.size:=by rw [h1];simp
    obtain⟨c,hlowA⟩:=vF hlenA hrace hob2
    have hdst:∀i,i < m->fT (ops.toList.take m).toArray i=fT ops i:=fun i hi=>by
     simp only [fT,List.getElem?_toArray,List.getElem?_take,hi,if_true,Array.getElem?_toList]
    have hstep:bW (ops.toList.take m).toArray evs=bW ops evs:=by
     funext i s
     unfold bW
     cases hv:evs[i]? with
     | none=>rfl
     | some v =>
      have:=(List.getElem?_eq_some_iff.1 hv).1
      simp only []
      rw [hdst i (by omega)]
    rw [hstep,←hlenA,hlen] at c
    have hA:∀i o,i < m->ops[i]? = some o->(ops.toList.take m).toArray[i]? = some o:=fun i o hi ho=>by
     simp only [List.getElem?_toArray,List.getElem?_take,hi,if_true,Array.getElem?_toList];exact ho
    have hB:∀i o,(ops.toList.take m).toArray[i]? = some o->ops[i]? = some o:=fun i o ho=>by
     have:=hget i o (by rw [←List.getElem?_toArray];exact ho);simpa using this
    unfold aX7 at hsufc
    simp only [List.all_eq_true,List.mem_range,Bool.and_eq_true] at hsufc
    have hlow:∀i o,ops[i]? = some o->∀e∈o.after,Region.binds .any e=true->e.on < i:=fun i o ho e he hb=>by
     have:=(hsufc i (Array.getElem?_eq_some_iff.1 ho).1).1
     have ho':ops.toList[i]? = some o:=by simpa using ho
     rw [ho'] at this
     simp only [Option.map_some,Option.getD_some,List.all_eq_true,decide_eq_true_eq] at this
     exact this e.on (oU.2 ⟨e,he,hb,rfl⟩)
    refine aL9 hlen hms hm c (fun i v t hv ht=>⟨v,hv,?_⟩) (fun i v k hv hk=>?_) hlow (fun D i o hi ho hcl hd k hk=>?_) (fun D i o hi ho hcl hd k hk=>?_) (fun i v hv=>by have:=h4 i v hv;simpa using this) hrep (fun ρ' a' W' h'=>hK ρ' a' W' (by rw [h3,h2,hlt,Nat.zero_add];exact h') h3)
    ·simp only [rdC,fB];exact List.mem_append_left _ (List.mem_map.2 ⟨t,ht,rfl⟩)
    ·by_cases hal:k∈v.alt.map (·.1)
     ·obtain⟨q,hq,rfl⟩:=List.mem_map.1 hal
      refine .inr ⟨⟨v,hv,by simp only [aFm,fB];exact List.mem_map.2 ⟨q,hq,rfl⟩⟩,fun y hy=>?_⟩
      obtain⟨v',k',b,hv',hk',hb,rfl⟩:=hy
      rw [hv] at hv';cases hv'
      cases hk'
      exact⟨b,rfl,hb⟩
     ·refine .inl ⟨v,hv,?_⟩
      simp only [rdC,fB]
      exact List.mem_append_right _ (List.mem_map.2 ⟨k,List.mem_filter.2 ⟨hk,by simpa using hal⟩,rfl⟩)
    ·exact tZ (ops:=(ops.toList.take m).toArray) (fun j o' hj=>hcl j o' (hB j o' hj)) hlowA i o (hA i o hi ho) hd k hk.2
    ·have hall:=(hsufc i (Array.getElem?_eq_some_iff.1 ho).1).2
     rw [show decide (i < m)=false by simpa using hi,Bool.false_or,List.all_eq_true] at hall
     exact tZ hcl hlow i o ho hd k (hall k (by simpa using hk))
  ·cases h
 ·cases h
end
end Go.Aw
namespace Go.Aw
open Go.RowKit
section
variable {P : Program} {T : Nat → Option TI} {cx : Cx} {N : Nat} {D : List Deferred} {ρ : Env} {s : LS} {a : Act} {W : World} {r : Option Nat} {n : Nat} {Q : Exit → Act → World → Prop}
theorem aTh {l:List SV} {t:Nat} (ht:t < l.length) {x:SV} {u:Nat}:(l.set t x).getD u .u=if u=t then x else l.getD u .u:=by
 simp only [cV,List.getElem?_set]
 by_cases hu:t=u
 ·subst hu;simp [ht]
 ·rw [if_neg hu,if_neg (fun e=>hu e.symm)]
theorem Rep.hideC (h:Rep cx N D ρ s.fs a W) {t fr nn es:Nat} {sym:Bool} {cells:List SV} (htl:t < s.sl.length)(hb:s.bk[fr]? = some (.live true sym cells))(hpl:Plain cells)(hlen:cells.length=nn*es)
 {id cap L:Nat} (hρ:ρ fr=some (id,0,L)) (hcap:nn<=cap) (hL:cap*es<=L) {x:SV} (hx:Rel ρ x (a.tmps.getD t undef)) (hxn:∀k,¬x.has k) :
 Rep cx N D ρ (⟨s.sl.set t x,s.bk.set fr .dead⟩:LS).fs a W/\RowOK cx ρ (⟨s.sl.set t x,s.bk.set fr .dead⟩:LS).fs W nn es (id,cap,cells)/\gH ρ s.fs id/\∀b,gH ρ (⟨s.sl.set t x,s.bk.set fr .dead⟩:LS).fs b->gH ρ s.fs b:=by
 have hfl:fr < s.bk.length:=(List.getElem?_eq_some_iff.1 hb).1
 have hbf:s.fs.bk fr=.live true sym cells:=aEv hb
 have hown:gH ρ s.fs id:=⟨fr,L,by rw [hbf];trivial,hρ⟩
 have e1:∀u,(⟨s.sl.set t x,s.bk.set fr .dead⟩:LS).fs.sl u=if u=t then x else s.fs.sl u:=fun u=>aTh htl
 have e2:∀k,(⟨s.sl.set t x,s.bk.set fr .dead⟩:LS).fs.bk k=if k=fr then .dead else s.fs.bk k:=fun k=>dG hfl
 have hown':∀k,((⟨s.sl.set t x,s.bk.set fr .dead⟩:LS).fs.bk k).own->k≠fr/\(s.fs.bk k).own:=fun k hk=>by
  rw [e2] at hk
  by_cases hkf:k=fr
  ·rw [if_pos hkf] at hk;exact hk.elim
  ·rw [if_neg hkf] at hk;exact⟨hkf,hk⟩
 have hun:∀k,s.fs.bk k≠.un->(⟨s.sl.set t x,s.bk.set fr .dead⟩:LS).fs.bk k≠.un:=fun k hk=>by
  rw [e2];split
  ·simp
  ·exact hk
 have hbr:=h.bk fr
 rw [hbf] at hbr
 refine⟨?_,?_,hown,fun b ⟨k,m,hk,hk'⟩=>⟨k,m,(hown' k hk).2,hk'⟩⟩
 ·refine { defs:=h.defs,size:=h.size,sl:=fun u=>?_,bk:=fun k=>?_,apart:=fun i j b m b' m' hij hi hj=>h.apart i j b m b' m' hij (hown' i hi).2 (hown' j hj).2,wf1:=fun u k hk=>hun k ?_,wf2:=fun j k hk=>hun k ?_,
           kept:=h.kept,pl:=fun k=>?_,old:=fun i hi=>⟨(h.old i hi).1,hun i (h.old i hi).2⟩,fzn:=fun b o ho=>⟨(h.fzn b o ho).1,fun k m hk=>(h.fzn b o ho).2.1 k m (hown' k hk).2,(h.fzn b o ho).2.2⟩,fzo:=h.fzo }
  ·rw [e1];split
   ·rename_i hu;subst hu;exact hx
   ·exact h.sl u
  ·rw [e2];split
   ·trivial
   ·exact h.bk k
  ·rw [e1] at hk;split at hk
   ·exact(hxn k hk).elim
   ·exact h.wf1 u k hk
  ·rw [e2] at hk;split at hk
   ·exact hk.elim
   ·exact h.wf2 j k hk
  ·rw [e2];split
   ·trivial
   ·exact h.pl k
 ·rcases hbr with⟨q1,_⟩ | ⟨b,vs,rest,ty,q1,q2,q3,q4⟩
  ·rw [hρ] at q1;cases q1
  ·rw [hρ] at q1;cases q1
   refine⟨hpl,hlen,hcap,q2,fun⟨k,m,hk,hk'⟩=>?_,?_,vs,rest,ty,q3,q4,hL⟩
   ·obtain⟨g1,g2⟩:=hown' k hk
    exact h.apart k fr id m id _ g1 g2 (by rw [hbf];trivial) hk' hρ rfl
   ·cases hf:ρ.fz id with
    | none=>rfl
    | some o=>exact((h.fzn id o hf).2.1 fr _ (by rw [hbf];trivial) hρ).elim
theorem Rep.hide (h:Rep cx N D ρ s.fs a W) {t fr nn es:Nat} {sym:Bool} {cells:List SV} (ht:s.sl[t]? = some (.s fr 0 nn es))(hb:s.bk[fr]? = some (.live true sym cells))(hpl:Plain cells)(hlen:cells.length=nn*es)(hn:nn≠0) :
 ∃id cap,Rep cx N D ρ (⟨s.sl.set t (.v (mO nn (id,cap,cells))),s.bk.set fr .dead⟩:LS).fs a W/\RowOK cx ρ (⟨s.sl.set t (.v (mO nn (id,cap,cells))),s.bk.set fr .dead⟩:LS).fs W nn es (id,cap,cells)/\gH ρ s.fs id /\
  ∀b,gH ρ (⟨s.sl.set t (.v (mO nn (id,cap,cells))),s.bk.set fr .dead⟩:LS).fs b->gH ρ s.fs b:=by
 have htl:=(List.getElem?_eq_some_iff.1 ht).1
 have hbf:s.fs.bk fr=.live true sym cells:=aEv hb
 have hr:=h.sl t
 have ht':s.fs.sl t=.s fr 0 nn es:=by simp [LS.fs,cV,ht]
 rw [ht'] at hr
 simp only [Rel] at hr
 rcases hr with⟨_,e,_⟩ | ⟨b,o,m,cap,off',sp,q1,q2,q3,q4,q5⟩
 ·exact(hn e).elim
 have hc:cap≠0:=by omega
 obtain⟨rfl,rfl⟩:=q5 hc
 have hbr:=h.bk fr
 rw [hbf] at hbr
 rcases hbr with⟨g1,_⟩ | ⟨b',vs,rest,ty,g1,g2,g3,g4⟩
 ·rw [q1] at g1;cases g1
 ·rw [q1] at g1;cases g1
  exact⟨b,cap,h.hideC htl hb hpl hlen q1 q3 (by omega) (x:=.v (mO nn (b,cap,cells))) (by simp only [Rel];exact q2) (fun k hk=>hk)⟩
theorem Rep.show (h:Rep cx N D ρ s.fs a W) {t nn es:Nat} {x:iV} (hr:RowOK cx ρ s.fs W nn es x)(ht:s.sl[t]? = some (.v (mO nn x))) :
 ∃ρ' L,ρ' s.bk.length=some (x.1,0,L)/\x.2.1*es<=L/\Rep cx N D ρ' (⟨s.sl.set t (.s s.bk.length 0 nn es),s.bk++[.live true true x.2.2]⟩:LS).fs a W /\
  (∀b,gH ρ' (⟨s.sl.set t (.s s.bk.length 0 nn es),s.bk++[.live true true x.2.2]⟩:LS).fs b->gH ρ s.fs b\/b=x.1)/\ρ'.fz=ρ.fz:=by
 obtain⟨vs,rest,ty,p1,p2,p3⟩:=hr.at'
 have htl:=(List.getElem?_eq_some_iff.1 ht).1
 have hfree:s.fs.bk s.bk.length=.un:=qJ (Nat.le_refl _)
 have hle:=ρ.le_set s.bk.length (some (x.1,0,(vs++rest).length))
 have hne:∀j,s.fs.bk j≠.un->(ρ.set s.bk.length (some (x.1,0,(vs++rest).length))) j=ρ j:=fun j hj=>if_neg (fun e=>hj (by rw [e];exact hfree))
 have e1:∀u,(⟨s.sl.set t (.s s.bk.length 0 nn es),s.bk++[.live true true x.2.2]⟩:LS).fs.sl u=if u=t then .s s.bk.length 0 nn es else s.fs.sl u:=fun u=>aTh htl
 have e2:∀k,(⟨s.sl.set t (.s s.bk.length 0 nn es),s.bk++[.live true true x.2.2]⟩:LS).fs.bk k=if k=s.bk.length then .live true true x.2.2 else s.fs.bk k:=fun k=>cY
 have hun:∀k,s.fs.bk k≠.un->(⟨s.sl.set t (.s s.bk.length 0 nn es),s.bk++[.live true true x.2.2]⟩:LS).fs.bk k≠.un:=fun k hk=>by
  rw [e2];split
  ·simp
  ·exact hk
 have hset:(ρ.set s.bk.length (some (x.1,0,(vs++rest).length))) s.bk.length=some (x.1,0,(vs++rest).length):=by simp
 have hown:∀k b m,((⟨s.sl.set t (.s s.bk.length 0 nn es),s.bk++[.live true true x.2.2]⟩:LS).fs.bk k).own->(ρ.set s.bk.length (some (x.1,0,(vs++rest).length))) k=some (b,0,m)->(k=s.bk.length/\b=x.1)\/(k≠s.bk.length/\(s.fs.bk k).own/\ρ k=some (b,0,m)):=fun k b m hk hk'=>by
  rw [e2] at hk
  by_cases hkf:k=s.bk.length
  ·subst hkf;rw [hset] at hk';cases hk';exact .inl ⟨rfl,rfl⟩
  ·rw [if_neg hkf] at hk
   refine .inr ⟨hkf,hk,?_⟩
   rw [←hk'];simp [hkf]
 refine⟨_,(vs++rest).length,hset,p3,?_,fun b ⟨k,m,hk,hk'⟩=>?_,rfl⟩
 ·refine { defs:=h.defs,size:=h.size,sl:=fun u=>?_,bk:=fun k=>?_,apart:=fun i j b m b' m' hij hi hj q1 q2=>?_,wf1:=fun u k hk=>?_,wf2:=fun j k hk=>?_,
           kept:=h.kept,pl:=fun k=>?_,old:=fun i hi=>⟨(hne i (h.old i hi).2).trans (h.old i hi).1,hun i (h.old i hi).2⟩,fzn:=fun b o ho=>⟨(h.fzn b o ho).1,fun k m hk hk'=>?_,(h.fzn b o ho).2.2⟩,fzo:=h.fzo }
  ·rw [e1];split
   ·rename_i hu;subst hu
    have:=h.sl u
    rw [show s.fs.sl u=.v (mO nn x) by simp [LS.fs,cV,ht]] at this
    simp only [Rel] at this ⊢
    exact .inr ⟨x.1,0,_,x.2.1,0,Option.none,hset,this,hr.cap,by omega,fun _=>⟨rfl,rfl⟩⟩
   ·exact Rel.congr hle _ _ (fun j hj=>hne j (h.wf1 u j hj)) (h.sl u)
  ·rw [e2];split
   ·rename_i hk;subst hk
    exact .inr ⟨x.1,vs,rest,ty,hset,hr.mine,Plain.congr hle hr.pl p1,p2⟩
   ·rename_i hk
    exact BRep.congr hle (by simp [hk]) (fun j hj=>hne j (h.wf2 k j hj)) (h.bk k)
  ·rcases hown i b m hi q1 with⟨g1,g2⟩ | ⟨g1,g2,g3⟩<;>rcases hown j b' m' hj q2 with⟨g4,g5⟩ | ⟨g4,g5,g6⟩
   ·exact(hij (g1.trans g4.symm)).elim
   ·intro e;exact hr.own ⟨j,m',g5,by rw [←g2,e];exact g6⟩
   ·intro e;exact hr.own ⟨i,m,g2,by rw [←g5,←e];exact g3⟩
   ·exact h.apart i j b m b' m' hij g2 g5 g3 g6
  ·rw [e1] at hk;split at hk
   ·simp only [SV.has] at hk
    rw [e2,if_pos hk.symm];simp
   ·exact hun k (h.wf1 u k hk)
  ·rw [e2] at hk;split at hk
   ·exact(hr.pl k hk).elim
   ·exact hun k (h.wf2 j k hk)
  ·rw [e2];split
   ·exact hr.pl
   ·exact h.pl k
  ·rcases hown k b m hk hk' with⟨g1,g2⟩ | ⟨g1,g2,g3⟩
   ·have:=hr.fz
    rw [←g2] at this
    change ρ.fz b=some o at ho
    rw [this] at ho;cases ho
   ·exact(h.fzn b o ho).2.1 k m g2 g3
 ·rcases hown k b m hk hk' with⟨g1,g2⟩ | ⟨g1,g2,g3⟩
  ·exact .inr g2
  ·exact .inl ⟨k,m,g2,g3⟩
theorem TabOK.add {nn es:Nat} {rows rows':List (Option iV)} {s s':FS} (ht:TabOK cx ρ s W nn es rows)(hown:∀b,gH ρ s' b->gH ρ s b) {x:iV} (hx:RowOK cx ρ s' W nn es x)(hxo:gH ρ s x.1)(i:Nat)
 (hr:∀j q,rows'[j]? = some (some q)->(j=i/\q=x)\/(j≠i/\rows[j]? = some (some q))):TabOK cx ρ s' W nn es rows':=by
 have hold:∀j q,rows[j]? = some (some q)->RowOK cx ρ s' W nn es q:=fun j q hj=>by
  have:=ht.row j q hj
  exact⟨this.pl,this.len,this.cap,this.mine,fun ho=>this.own (hown _ ho),this.fz,this.at'⟩
 refine⟨fun j q hj=>?_,fun j k q q' hjk hj hk=>?_⟩
 ·rcases hr j q hj with⟨_,rfl⟩ | ⟨_,g⟩
  ·exact hx
  ·exact hold j q g
 ·rcases hr j q hj with⟨g1,rfl⟩ | ⟨g1,g2⟩<;>rcases hr k q' hk with⟨g3,rfl⟩ | ⟨g3,g4⟩
  ·exact(hjk (g1.trans g3.symm)).elim
  ·intro e;exact(ht.row k q' g4).own (e▸hxo)
  ·intro e;exact(ht.row j q g2).own (e▸hxo)
  ·exact ht.ne j k q q' hjk g2 g4
theorem TabOK.rem {nn es:Nat} {rows:List (Option iV)} {s s':FS} {ρ':Env} (ht:TabOK cx ρ s W nn es rows) {x:iV} {i:Nat} (hi:rows[i]? = some (some x))(hown:∀b,gH ρ' s' b->gH ρ s b\/b=x.1)(hfz:ρ'.fz=ρ.fz) :
 TabOK cx ρ' s' W nn es (rows.set i none):=by
 have hg:∀j q,(rows.set i none)[j]? = some (some q)->j≠i/\rows[j]? = some (some q):=fun j q hj=>by
  rw [List.getElem?_set] at hj
  split at hj
  ·split at hj<;>simp at hj
  ·rename_i hne;exact⟨fun e=>hne e.symm,hj⟩
 refine⟨fun j q hj=>?_,fun j k q q' hjk hj hk=>ht.ne j k q q' hjk (hg j q hj).2 (hg k q' hk).2⟩
 obtain⟨g1,g2⟩:=hg j q hj
 have h:=ht.row j q g2
 refine⟨h.pl,h.len,h.cap,h.mine,fun ho=>?_,by rw [hfz];exact h.fz,?_⟩
 ·rcases hown _ ho with g | g
  ·exact h.own g
  ·exact ht.ne j i q x g1 g2 hi g
 ·obtain⟨vs,rest,ty,p1,p2,p3⟩:=h.at'
  exact⟨vs,rest,ty,Plain.congr (fun b o hb=>by rw [hfz];exact hb) h.pl p1,p2,p3⟩
theorem aJk (hT:kC P T) {ops:Array Oper} {m:Nat} (hms:m<=ops.size) {s s':LS} {orc:List Or} {obs:List Ob} (h:evS T ops (ops.toList.drop m) m s orc=some (s',obs))(hob:Obs P obs)(hrep:Rep cx s.sl.length D ρ s.fs a W)
 (hK:∀ρ' a' W',Rep cx s'.sl.length D ρ' s'.fs a' W'->s'.sl.length=s.sl.length->Q .normal a' W'):wpOpsIn (Fw r) n P ops Q (List.range' m (ops.size - m)) a W:=by
 obtain⟨evs,hev⟩:=qO h
 have hlen:(ops.toList.drop m).length=ops.size - m:=by simp
 have:=rS (r:=r) (n:=n) (cx:=cx) (D:=D) (P:=P) (Q:=Q) (rest:=[]) hT (ops.toList.drop m) m s s' orc [] evs obs hev hob (fun j o hj=>by rw [List.getElem?_drop] at hj;simpa using hj) ρ a W hrep
  (fun ρ' a' W' h' e'=>by simp only [wpOpsIn];exact hK ρ' a' W' (by rw [e'];exact h') e')
 rw [List.append_nil,hlen] at this
 exact this
def BK.kn:BK->Bool
 | .un=>false
 | _=>true
theorem GoodT.put (hT:kC P T)(hm:P.follows .mixedOrders=true) {ops:Array Oper} {draw:Bool} (m:Nat)(hms:m<=ops.size) {id0:Nat} {nn es:Nat} {rows:List (Option iV)} {k:List K} {s:LS} (s0:LS)(sts:List (St P))(ads:List Adj)(s1:LS)(t i:Nat)(x:iV)
 (h1:aG4 T ops draw m s (mH sts)=some (s0,stB sts)) (ha:qL ads s0=some s1) (hkn:s1.bk.all BK.kn=true) (ro1:roE cx.base s1.bk s.bk) (ht:s1.sl[t]? = some (.v (mO nn x))) (hi:rows[i]? = some (some x))
 (s2:LS) (sts2:List (St P)) (h2:evS T ops (ops.toList.drop m) m ⟨s1.sl.set t (.s s1.bk.length 0 nn es),s1.bk++[.live true true x.2.2]⟩ (mH sts2)=some (s2,stB sts2)) (ro2:roE (s1.bk.length+1) s2.bk (s1.bk++[.live true true x.2.2]))
 (cells:List SV) (hb:s2.bk[s1.bk.length]? = some (.live true true cells)) (hpl:Plain cells) (hlen:cells.length=nn*es)
 (hg:GoodT P r n Q cx D nn es (rows.set i (some (x.1,x.2.1,cells))) k ⟨s2.sl.set t .u,s2.bk.set s1.bk.length .dead⟩):GoodT P r n Q cx D nn es rows (.c (.region id0 ops draw)::k) s:=by
 intro ρ a W hrep htab
 simp only [eL]
 refine wE hT hm hms h1 (aB5 sts) (hrep.sub' (base:=cx.base) (fun i hi=>(hrep.old i hi).2)) (fun ρ0 a1 W1 hr0 hl0=>?_)
 obtain⟨ρ1,hr1,hl1⟩:=aAr ads ha hr0
 rw [←hl1] at hr1
 have hrep1:=hrep.back (Nat.le_refl _) hr1 (aDf ro1)
 have htab1:=htab.back hr1
 have hrow:=htab1.row i x hi
 obtain⟨ρ2,L,q1,q2,hrep2,q3,q4⟩:=hrep1.show hrow ht
 have htab2:=htab1.rem hi q3 q4
 have hbase:cx.base<=s1.bk.length+1:=by
  rcases Nat.lt_or_ge s1.bk.length cx.base with h' | h'
  ·exact absurd (qJ (Nat.le_refl _)) ((hrep1.old s1.bk.length h').2)
  ·omega
 have hlive:∀j,j < s1.bk.length+1->(⟨s1.sl.set t (.s s1.bk.length 0 nn es),s1.bk++[.live true true x.2.2]⟩:LS).fs.bk j≠.un:=fun j hj e=>by
  have e':(s1.bk++[BK.live true true x.2.2]).getD j .un=.un:=e
  rw [cY] at e'
  split at e'
  ·cases e'
  ·have hjl:j < s1.bk.length:=by omega
   have:=List.all_eq_true.1 hkn s1.bk[j] (List.getElem_mem hjl)
   rw [cV,List.getElem?_eq_getElem hjl,Option.getD_some] at e'
   rw [e'] at this;cases this
 refine aJk hT hms h2 (aB5 _) (cx:=Cx.only (s1.bk.length+1) W1 ρ2 (gH ρ2 _)) (by
  rw [show(⟨s1.sl.set t (.s s1.bk.length 0 nn es),s1.bk++[.live true true x.2.2]⟩:LS).sl.length=s1.sl.length by simp]
  exact hrep2.sub' (base:=s1.bk.length+1) hlive) (fun ρ3 a3 W3 hr3 hl3=>?_)
 ·have hrep3:=hrep2.back hbase hr3 (aDf (s:=⟨s1.sl.set t (.s s1.bk.length 0 nn es),s1.bk++[.live true true x.2.2]⟩) ro2)
  have htab3:=htab2.back hr3
  have e3:ρ3 s1.bk.length=some (x.1,0,L):=by
   have:=(hr3.old s1.bk.length (lss _)).1
   exact this.trans q1
  have htl:t < s2.sl.length:=by
   have:=(List.getElem?_eq_some_iff.1 ht).1
   rw [hl3];simpa using this
  obtain⟨hrep4,hrow4,hown4,hown4'⟩:=hrep3.hideC htl hb hpl hlen e3 hrow.cap q2 (x:=.u) (by simp [Rel]) (fun k hk=>hk)
  refine hg ρ3 a3 W3 (by rw [show(⟨s2.sl.set t .u,s2.bk.set s1.bk.length .dead⟩:LS).sl.length=s2.sl.length by simp];exact hrep4) (htab3.add hown4' hrow4 hown4 i (fun j q hj=>?_))
  have hil:=(List.getElem?_eq_some_iff.1 hi).1
  rw [List.getElem?_set] at hj
  split at hj
  ·rename_i hji
   subst hji
   simp only [aX] at hj
   exact .inl ⟨rfl,hj.symm⟩
  ·rename_i hji
   refine .inr ⟨fun e=>hji e.symm,?_⟩
   rw [List.getElem?_set,if_neg hji];exact hj
def cR (nn:Nat)(x:iV):List SV:=[.v (mO nn x)]
def cD (nn es:Nat)(x:iV):List SV:=[.d x.2.2 nn es]
theorem aJl {ρ ρ':Env} {nn es:Nat}:∀(rows:List iV) (vs:List Value),(∀x∈rows,Rel ρ' (.d x.2.2 nn es) (mO nn x))->Rels ρ (flat (cR nn) rows) vs->Rels ρ' (flat (cD nn es) rows) vs
 | [],[],_,h=>by simp [flat,Rels]
 | [],_::_,_,h=>by simp [flat,Rels] at h
 | x::rows,vs,hd,h=>by
  have e1:flat (cR nn) (x::rows)=.v (mO nn x)::flat (cR nn) rows:=rfl
  have e2:flat (cD nn es) (x::rows)=.d x.2.2 nn es::flat (cD nn es) rows:=rfl
  rw [e1] at h
  rw [e2]
  cases vs with
  | nil=>simp [Rels] at h
  | cons y vs =>
   simp only [Rels] at h ⊢
   refine⟨?_,aJl rows vs (fun x hx=>hd x (List.mem_cons_of_mem _ hx)) h.2⟩
   have:=h.1
   simp only [Rel] at this
   rw [this];exact hd x List.mem_cons_self
theorem aDg {nn es:Nat}:∀rows:List iV,Plain (flat (cD nn es) rows)
 | [],k,h=>by simp [flat,SV.hasl] at h
 | x::rows,k,h=>by
  have e2:flat (cD nn es) (x::rows)=.d x.2.2 nn es::flat (cD nn es) rows:=rfl
  rw [e2] at h
  simp only [SV.hasl,SV.has,false_or] at h
  exact aDg rows k h
theorem GoodT.freeze {nn es:Nat} {rows:List iV} (kk:Nat) {k:List K} {s:LS} (hb:s.bk[kk]? = some (.live true true (flat (cR nn) rows)))(hg:Good P r n Q cx D k ⟨s.sl,s.bk.set kk (.live true true (flat (cD nn es) rows))⟩) :
 GoodT P r n Q cx D nn es (rows.map some) k s:=by
 intro ρ a W h htab
 have hrow:∀x∈rows,RowOK cx ρ s.fs W nn es x:=fun x hx=>by
  obtain⟨i,hi,rfl⟩:=List.getElem_of_mem hx
  exact htab.row i _ (by simp [hi])
 have hkl:kk < s.bk.length:=(List.getElem?_eq_some_iff.1 hb).1
 have hbf:s.fs.bk kk=.live true true (flat (cR nn) rows):=aEv hb
 let g:Nat->Option FC:=fun b=>if rows.any (fun x=>x.1 == b)=true then(match W.heap[b]? with
  | some (.cells c ty fr)=>some (c,ty,fr)
  | _=>Option.none) else ρ.fz b
 have hg1:∀x∈rows,∀b,x.1=b->rows.any (fun x=>x.1 == b)=true:=fun x hx b hxb=>List.any_eq_true.2 ⟨x,hx,by simpa using hxb⟩
 have hg2:∀b,rows.any (fun x=>x.1 == b)=true->∃x∈rows,x.1=b:=fun b hb=>by
  obtain⟨x,hx,e⟩:=List.any_eq_true.1 hb
  exact⟨x,hx,by simpa using e⟩
 have hle:ρ.le ⟨ρ.loc,g⟩:=fun b o ho=>by
  show g b=some o
  have:¬rows.any (fun x=>x.1 == b)=true:=fun e=>by
   obtain⟨x,hx,rfl⟩:=hg2 b e
   have:=(hrow x hx).fz
   rw [this] at ho;cases ho
  simp only [g]
  rw [if_neg this];exact ho
 have hd:∀x∈rows,Rel ⟨ρ.loc,g⟩ (.d x.2.2 nn es) (mO nn x):=fun x hx=>by
  have hr:=hrow x hx
  obtain⟨vs,rest,ty,p1,p2,p3⟩:=hr.at'
  simp only [Rel]
  refine .inr ⟨x.1,0,x.2.1,(vs++rest).toArray,ty,(0,0),vs,rfl,hr.cap,?_,Plain.congr (ρ:=ρ) (ρ':=⟨fun _=>Option.none,g⟩) hle hr.pl p1,by rw [←p1.length];exact hr.len,fun i y hi=>?_⟩
  ·show g x.1=_
   simp only [g]
   rw [if_pos (hg1 x hx _ rfl),p2]
  ·have hil:=(List.getElem?_eq_some_iff.1 hi).1
   simp only [Nat.zero_add,List.getElem?_toArray]
   rw [List.getElem?_append_left hil];exact hi
 have e2:∀j,(⟨s.sl,s.bk.set kk (.live true true (flat (cD nn es) rows))⟩:LS).fs.bk j=if j=kk then .live true true (flat (cD nn es) rows) else s.fs.bk j:=fun j=>dG hkl
 have hown:∀j,((⟨s.sl,s.bk.set kk (.live true true (flat (cD nn es) rows))⟩:LS).fs.bk j).own->(s.fs.bk j).own:=fun j hj=>by
  rw [e2] at hj
  split at hj
  ·rename_i e;subst e;rw [hbf];trivial
  ·exact hj
 have hun:∀j,s.fs.bk j≠.un->(⟨s.sl,s.bk.set kk (.live true true (flat (cD nn es) rows))⟩:LS).fs.bk j≠.un:=fun j hj=>by
  rw [e2];split
  ·simp
  ·exact hj
 refine hg ⟨ρ.loc,g⟩ a W { defs:=h.defs,size:=h.size,sl:=fun t=>Rel.congr hle _ _ (fun _ _=>rfl) (h.sl t),bk:=fun j=>?_,apart:=fun i j b m b' m' hij hi hj=>h.apart i j b m b' m' hij (hown i hi) (hown j hj),wf1:=fun t j hj=>hun j (h.wf1 t j hj),wf2:=fun i j hj=>hun j ?_,kept:=h.kept,pl:=fun j=>?_,old:=fun i hi=>⟨(h.old i hi).1,hun i (h.old i hi).2⟩,fzn:=fun b o ho=>?_,fzo:=fun b o ho=>hle b o (h.fzo b o ho) }
 ·rw [e2];split
  ·rename_i e;subst e
   have:=h.bk j
   rw [hbf] at this
   rcases this with⟨q1,q2⟩ | ⟨b,vs,rest,ty,q1,q2,q3,q4⟩
   ·refine .inl ⟨q1,?_⟩
    cases rows with
    | nil=>rfl
    | cons x l=>exact absurd q2 (by simp [flat,cR])
   ·exact .inr ⟨b,vs,rest,ty,q1,q2,aJl rows vs hd q3,q4⟩
  ·exact BRep.congr hle rfl (fun _ _=>rfl) (h.bk j)
 ·rw [e2] at hj;split at hj
  ·exact(aDg rows j hj).elim
  ·exact h.wf2 i j hj
 ·rw [e2];split
  ·exact aDg rows
  ·exact h.pl j
 ·have ho':g b=some o:=ho
  simp only [g] at ho'
  split at ho'
  ·rename_i hany
   obtain⟨x,hx,rfl⟩:=hg2 b hany
   have hr:=hrow x hx
   obtain⟨vs,rest,ty,p1,p2,p3⟩:=hr.at'
   rw [p2] at ho'
   simp only [aX] at ho'
   subst ho'
   exact⟨p2,fun j m hj e=>hr.own ⟨j,m,hown j hj,e⟩,.inr hr.mine⟩
  ·obtain⟨f1,f2,f3⟩:=h.fzn b o ho'
   exact⟨f1,fun j m hj=>f2 j m (hown j hj),f3⟩
def mF (T:Nat->Option TI)(ops:Array Oper)(draw:Bool)(m:Nat)(s:LS)(orc:List Or):LS:=((aG4 T ops draw m s orc).map (·.1)).getD s
theorem aE4 {ops:Array Oper} {draw:Bool} {m:Nat} {s:LS} {orc:List Or} {obs:List Ob} (h:(aG4 T ops draw m s orc).map (·.2)=some obs):aG4 T ops draw m s orc=some (mF T ops draw m s orc,obs):=by
 unfold mF
 cases hp:aG4 T ops draw m s orc with
 | none=>rw [hp] at h;cases h
 | some x=>rw [hp] at h;simp only [Option.map_some,aX] at h;subst h;rfl
def evL (T:Nat->Option TI)(ops:Array Oper)(m:Nat)(s:LS)(orc:List Or):LS:=((evS T ops (ops.toList.drop m) m s orc).map (·.1)).getD s
theorem aJm {ops:Array Oper} {m:Nat} {s:LS} {orc:List Or} {obs:List Ob} (h:(evS T ops (ops.toList.drop m) m s orc).map (·.2)=some obs):evS T ops (ops.toList.drop m) m s orc=some (evL T ops m s orc,obs):=by
 unfold evL
 cases hp:evS T ops (ops.toList.drop m) m s orc with
 | none=>rw [hp] at h;cases h
 | some x=>rw [hp] at h;simp only [Option.map_some,aX] at h;subst h;rfl
def yM (ads:List Adj)(s:LS):LS:=(qL ads s).getD s
theorem aP6 {ads:List Adj} {s:LS} (h:(qL ads s).isSome=true):qL ads s=some (yM ads s):=by
 unfold yM
 cases hp:qL ads s with
 | none=>rw [hp] at h;cases h
 | some x=>rfl
def bK:Code->Nat×Array Oper×Bool
 | .region i o d=>(i,o,d)
 | _=>(0,#[],false)
def aJn (t nn es:Nat)(x:iV)(s:LS):LS:=⟨s.sl.set t (.s s.bk.length 0 nn es),s.bk++[.live true true x.2.2]⟩
def aDh (t fr:Nat)(y:SV)(s:LS):LS:=⟨s.sl.set t y,s.bk.set fr .dead⟩
theorem GoodT.putE (hT:kC P T)(hm:P.follows .mixedOrders=true) {B:Code} (hB:B=.region (bK B).1 (bK B).2.1 (bK B).2.2)(m:Nat)(hms:Nat.ble m (bK B).2.1.size=true) {nn es:Nat} {rows:List (Option iV)} {k:List K} {s:LS}
 (sts sts2:List (St P)) (ads:List Adj) (t i:Nat) (x:iV) (cells:List SV) {base:Nat} (hb:cx.base=base)
 (h1:(aG4 T (bK B).2.1 (bK B).2.2 m s (mH sts)).map (·.2)=some (stB sts)) (ha:(qL ads (mF T (bK B).2.1 (bK B).2.2 m s (mH sts))).isSome=true)
 (hkn:(yM ads (mF T (bK B).2.1 (bK B).2.2 m s (mH sts))).bk.all BK.kn=true) (ro1:roE base (yM ads (mF T (bK B).2.1 (bK B).2.2 m s (mH sts))).bk s.bk)
 (ht:(yM ads (mF T (bK B).2.1 (bK B).2.2 m s (mH sts))).sl[t]? = some (.v (mO nn x))) (hi:rows[i]? = some (some x))
 (h2:(evS T (bK B).2.1 ((bK B).2.1.toList.drop m) m (aJn t nn es x (yM ads (mF T (bK B).2.1 (bK B).2.2 m s (mH sts)))) (mH sts2)).map (·.2)=some (stB sts2))
 (ro2:roE ((yM ads (mF T (bK B).2.1 (bK B).2.2 m s (mH sts))).bk.length+1) (evL T (bK B).2.1 m (aJn t nn es x (yM ads (mF T (bK B).2.1 (bK B).2.2 m s (mH sts)))) (mH sts2)).bk (aJn t nn es x (yM ads (mF T (bK B).2.1 (bK B).2.2 m s (mH sts)))).bk)
 (hbb:(evL T (bK B).2.1 m (aJn t nn es x (yM ads (mF T (bK B).2.1 (bK B).2.2 m s (mH sts)))) (mH sts2)).bk[(yM ads (mF T (bK B).2.1 (bK B).2.2 m s (mH sts))).bk.length]? = some (.live true true cells)) (hpl:Plain cells) (hlen:cells.length=nn*es)
 (hg:GoodT P r n Q cx D nn es (rows.set i (some (x.1,x.2.1,cells))) k (aDh t (yM ads (mF T (bK B).2.1 (bK B).2.2 m s (mH sts))).bk.length .u (evL T (bK B).2.1 m (aJn t nn es x (yM ads (mF T (bK B).2.1 (bK B).2.2 m s (mH sts)))) (mH sts2)))) :
 GoodT P r n Q cx D nn es rows (.c B::k) s:=by
 subst hb
 rw [hB]
 exact GoodT.put hT hm m (Nat.le_of_ble_eq_true hms) _ sts ads _ t i x (aE4 h1) (aP6 ha) hkn ro1 ht hi _ sts2 (aJm h2) ro2 cells hbb hpl hlen hg
theorem GoodT.makeE (hT:kC P T)(hm:P.follows .mixedOrders=true) {B:Code} (hB:B=.region (bK B).1 (bK B).2.1 (bK B).2.2)(m:Nat)(hms:Nat.ble m (bK B).2.1.size=true) {nn es:Nat} {rows:List (Option iV)} (rows':Nat->Nat->List (Option iV)) {k:List K} {s:LS}
 (sts:List (St P)) (sts2:Nat->Nat->List (St P)) (t fr i:Nat) (sym:Bool) (cells:List SV) {base:Nat} (hb:cx.base=base)
 (h1:(aG4 T (bK B).2.1 (bK B).2.2 m s (mH sts)).map (·.2)=some (stB sts)) (ro1:roE base (mF T (bK B).2.1 (bK B).2.2 m s (mH sts)).bk s.bk)
 (ht:(mF T (bK B).2.1 (bK B).2.2 m s (mH sts)).sl[t]? = some (.s fr 0 nn es)) (hbb:(mF T (bK B).2.1 (bK B).2.2 m s (mH sts)).bk[fr]? = some (.live true sym cells)) (hpl:Plain cells) (hlen:cells.length=nn*es) (hn:nn≠0)
 (h2:∀id cap,(evS T (bK B).2.1 ((bK B).2.1.toList.drop m) m (aDh t fr (.v (mO nn (id,cap,cells))) (mF T (bK B).2.1 (bK B).2.2 m s (mH sts))) (mH (sts2 id cap))).map (·.2)=some (stB (sts2 id cap)))
 (ro2:∀id cap,roE base (evL T (bK B).2.1 m (aDh t fr (.v (mO nn (id,cap,cells))) (mF T (bK B).2.1 (bK B).2.2 m s (mH sts))) (mH (sts2 id cap))).bk (aDh t fr (.v (mO nn (id,cap,cells))) (mF T (bK B).2.1 (bK B).2.2 m s (mH sts))).bk)
 (hrows:∀id cap j q,(rows' id cap)[j]? = some (some q)->(j=i/\q=(id,cap,cells))\/(j≠i/\rows[j]? = some (some q)))
 (hg:∀id cap,GoodT P r n Q cx D nn es (rows' id cap) k (evL T (bK B).2.1 m (aDh t fr (.v (mO nn (id,cap,cells))) (mF T (bK B).2.1 (bK B).2.2 m s (mH sts))) (mH (sts2 id cap)))) :
 GoodT P r n Q cx D nn es rows (.c B::k) s:=by
 subst hb
 rw [hB]
 intro ρ a W hrep htab
 simp only [eL]
 refine wE hT hm (Nat.le_of_ble_eq_true hms) (aE4 h1) (aB5 sts) (hrep.sub' (base:=cx.base) (fun i hi=>(hrep.old i hi).2)) (fun ρ1 a1 W1 hr1 hl1=>?_)
 have hrep1:=hrep.back (Nat.le_refl _) hr1 (aDf ro1)
 have htab1:=htab.back hr1
 obtain⟨id,cap,hrep2,hrow,hown,hown2⟩:=hrep1.hide ht hbb hpl hlen hn
 have htab2:=htab1.add hown2 hrow hown i (hrows id cap)
 refine aJk hT (Nat.le_of_ble_eq_true hms) (aJm (h2 id cap)) (aB5 _) (cx:=Cx.only cx.base W1 ρ1 (gH ρ1 _)) (by
  rw [show(aDh t fr (.v (mO nn (id,cap,cells))) (mF T (bK B).2.1 (bK B).2.2 m s (mH sts))).sl.length=(mF T (bK B).2.1 (bK B).2.2 m s (mH sts)).sl.length by simp [aDh]]
  exact hrep2.sub' (base:=cx.base) (fun i hi=>(hrep2.old i hi).2)) (fun ρ3 a3 W3 hr3 hl3=>?_)
 exact hg id cap ρ3 a3 W3 (hrep2.back (Nat.le_refl _) hr3 (aDf (ro2 id cap))) (htab2.back hr3)
theorem GoodT.none {nn es:Nat} {rows:List (Option iV)} {k:List K} {s:LS} (hr:∀(i:Nat)(x:iV),rows[i]? ≠ some (some x))(h:GoodT P r n Q cx D nn es rows k s):Good P r n Q cx D k s:=fun ρ a W hrep =>
 h ρ a W hrep ⟨fun i r hi=>(hr i r hi).elim,fun i j r q _ hi=>(hr i r hi).elim⟩
def cO (nn:Nat):Option iV->List SV
 | none=>[.v (.slice none 0 0)]
 | some x=>[.v (mO nn x)]
theorem aG5 {nn:Nat}:∀o,(cO nn o).length=1
 | Option.none=>rfl
 | some _=>rfl
theorem aN9 {nn:Nat}:∀rows:List iV,flat (cO nn) (rows.map some)=flat (cR nn) rows
 | []=>rfl
 | x::l=>by
  have:=aN9 (nn:=nn) l
  simp only [flat,List.map_cons,List.flatMap_cons] at this ⊢
  rw [this];rfl
section tab
variable {α : Type} {c : α → List SV} {nn : Nat}
def TabR (c:α->List SV)(nn:Nat):List (Option iV)->List (List α)->Prop
 | [],[]=>True
 | o::v,l::m=>(match o with
  | none=>l=[]
  | some x=>l.length=nn/\x.2.2=flat c l)/\TabR c nn v m
 | _,_=>False
theorem TabR.length:∀{v:List (Option iV)} {m:List (List α)},TabR c nn v m->v.length=m.length
 | [],[],_=>rfl
 | [],_::_,h=>by simp [TabR] at h
 | _::_,[],h=>by simp [TabR] at h
 | _::_,_::_,h=>by simp only [TabR] at h;simp [TabR.length h.2]
theorem TabR.rep:∀n:Nat,TabR c nn (List.replicate n Option.none) (List.replicate n [])
 | 0=>trivial
 | n+1=>⟨rfl,TabR.rep n⟩
theorem TabR.get:∀{v:List (Option iV)} {m:List (List α)},TabR c nn v m->∀(i:Nat),i < m.length->(m.getD i []).length=nn->nn≠0->∃x:iV,v[i]? = some (some x)/\x.2.2=flat c (m.getD i [])
 | [],[],_,i,h,_,_=>by simp at h
 | [],_::_,h,_,_,_,_=>by simp [TabR] at h
 | _::_,[],h,_,_,_,_=>by simp [TabR] at h
 | o::v,l::m,h,0,_,hl,hn=>by
  simp only [TabR] at h
  simp only [List.getD_cons_zero] at hl ⊢
  cases o with
  | none=>simp only at h;rw [h.1] at hl;exact(hn hl.symm).elim
  | some x=>exact⟨x,rfl,h.1.2⟩
 | o::v,l::m,h,i+1,hi,hl,hn=>by
  simp only [TabR] at h
  simp only [List.getD_cons_succ] at hl ⊢
  simpa using TabR.get h.2 i (by simpa using hi) hl hn
theorem TabR.set:∀{v:List (Option iV)} {m:List (List α)},TabR c nn v m->∀(i:Nat) (x:iV) (l:List α),l.length=nn->x.2.2=flat c l->TabR c nn (v.set i (some x)) (m.set i l)
 | [],[],_,i,x,l,h1,h2=>trivial
 | [],_::_,h,_,_,_,_,_=>by simp [TabR] at h
 | _::_,[],h,_,_,_,_,_=>by simp [TabR] at h
 | o::v,l0::m,h,0,x,l,h1,h2=>by simp only [TabR] at h;exact⟨⟨h1,h2⟩,h.2⟩
 | o::v,l0::m,h,i+1,x,l,h1,h2=>by simp only [TabR] at h;exact⟨h.1,TabR.set h.2 i x l h1 h2⟩
theorem TabR.rows {es:Nat} {cT:List α->List SV} (hcT:∀l,cT l=[.d (flat c l) l.length es])(hn:nn≠0):∀{v:List (Option iV)} {m:List (List α)},TabR c nn v m->(∀(i:Nat),i < m.length->(m.getD i []).length=nn)->∃rows:List iV,v=rows.map some/\flat (cD nn es) rows=flat cT m
 | [],[],_,_=>⟨[],rfl,rfl⟩
 | [],_::_,h,_=>by simp [TabR] at h
 | _::_,[],h,_=>by simp [TabR] at h
 | o::v,l::m,h,hl=>by
  simp only [TabR] at h
  obtain⟨rows,rfl,e⟩:=TabR.rows hcT hn h.2 (fun i hi=>by have:=hl (i+1) (by simpa using hi);simpa using this)
  have h0:=hl 0 (by simp)
  simp only [List.getD_cons_zero] at h0
  cases o with
  | none=>simp only at h;rw [h.1] at h0;exact(hn h0.symm).elim
  | some x =>
   refine⟨x::rows,rfl,?_⟩
   simp only [flat,List.flatMap_cons] at e ⊢
   rw [e,hcT]
   simp only [cD]
   rw [h.1.2,h0]<;>rfl
theorem TabR.rows' {α:Type} {c:α->List SV} {nn es:Nat} {cT:List α->List SV} (hcT:∀l,cT l=[.d (flat c l) l.length es]) {v:List (Option iV)} {m:List (List α)} (h:TabR c nn v m)(hm:m.length=nn)(hl:∀(i:Nat),i < m.length->(m.getD i []).length=nn):∃rows:List iV,v=rows.map some/\flat (cD nn es) rows=flat cT m:=by
 by_cases hn:nn=0
 ·have e:=h.length
  obtain rfl:m=[]:=List.eq_nil_of_length_eq_zero (by omega)
  obtain rfl:v=[]:=List.eq_nil_of_length_eq_zero e
  exact⟨[],rfl,rfl⟩
 ·exact h.rows hcT hn hl
end tab
theorem aTi {rows:List (Option iV)} {i:Nat} {x:iV}:∀(j:Nat) (q:iV),(rows.set i (some x))[j]? = some (some q)->(j=i/\q=x)\/(j≠i/\rows[j]? = some (some q)):=fun j q hj=>by
 rw [List.getElem?_set] at hj
 split at hj
 ·rename_i hji
  subst hji
  split at hj
  ·first | (simp only [aX] at hj;exact .inl ⟨rfl,hj.symm⟩) | cases hj
  ·cases hj
 ·rename_i hji;exact .inr ⟨fun e=>hji e.symm,hj⟩
theorem aTj {n:Nat}:∀(i:Nat) (x:iV),(List.replicate n (Option.none:Option iV))[i]? ≠ some (some x):=fun i x h=>by
 rw [List.getElem?_replicate] at h
 split at h<;>simp at h
theorem bAs {nn:Nat} {v:List (Option iV)} {i:Int} (h:0<=i/\i < (v.length:Int)) {x:iV} (hx:v[i.toNat]? = some (some x)):((flat (cO nn) v).drop (0+i.toNat*1)).take 1=[.v (mO nn x)]:=by
 have e:=aM6 (c:=cO nn) aG5 Option.none v i 0 1 h (Nat.le_refl 1) (off:=0+i.toNat*1) (by omega) (r:=cO nn (some x)) (by
  rw [cV,hx];rfl)
 exact e
end
end Go.Aw
namespace Go.Proofs.YtlckcjfbjnjfhaaGreat
open Go.Proofs Go.Aw Go.RowKit
set_option maxRecDepth 100000
section
variable {cx : Cx} {k : List K} {s : LS} {base nn es : Nat} {rows : List (Option iV)} {Q : Exit → Act → World → Prop}
theorem enT (sts:List (St Tryz.prog))(ads:List Adj)(ts ks:List Nat)(hb:cx.base=base)(body:Code)(k':List K)(s':LS)(m:Nat)
 (h:vH base ts ks (mL ads (run T0 5000 k s (mH sts)))=some (body,k',s',stB sts)) (ro:roE base s'.bk s.bk) (hg:GoodT Tryz.prog none 9 Q cx [] nn es rows (.l body m::k') s'):GoodT Tryz.prog none 9 Q cx [] nn es rows k s :=
 GoodT.frame (fun _ hb1 h'=>en sts ads ts ks (hb1.trans hb) body k' s' m h h') (by rw [hb];exact ro) hg
theorem baT {m:Nat} (sts:List (St Tryz.prog))(ads:List Adj)(ts ks:List Nat)(hb:cx.base=base)(body:Code)(k':List K)(s':LS)
 (h:aBy base ts ks (mL ads (run T0 5000 k s (mH sts)))=some (body,m,k',s',stB sts)) (ro:roE base s'.bk s.bk) (hg:GoodT Tryz.prog none 9 Q cx [] nn es rows (.l body m::k') s'):GoodT Tryz.prog none 9 Q cx [] nn es rows k s :=
 GoodT.frame (fun _ hb1 h'=>ba sts ads ts ks (hb1.trans hb) body k' s' h h') (by rw [hb];exact ro) hg
theorem gaT (sts:List (St Tryz.prog))(ads:List Adj)(ts ks:List Nat)(hb:cx.base=base)(x:Code)(k':List K)(s':LS)
 (h:aQ4 base ts ks (mL ads (run T0 5000 k s (mH sts)))=some (x,k',s',stB sts)) (ro:roE base s'.bk s.bk) (hg:GoodT Tryz.prog none 9 Q cx [] nn es rows (.c x::k') s'):GoodT Tryz.prog none 9 Q cx [] nn es rows k s :=
 GoodT.frame (fun _ hb1 h'=>ga sts ads ts ks (hb1.trans hb) x k' s' h h') (by rw [hb];exact ro) hg
end
abbrev lI:=(List Int×aY)×List (Int×Int×Bool)×List (List (Int×Int))
def bDt (o:lI)(j:Int):Prop :=
 (0<=(o.2.1.getD (tN j) dF).1/\(o.2.1.getD (tN j) dF).1 < o.1.2.length) /\
 (0<=(o.2.1.getD (tN j) dF).2.1/\(o.2.1.getD (tN j) dF).2.1 < o.1.2.length) /\
 (0<=(o.1.2.getD (tN (o.2.1.getD (tN j) dF).1) dF).1/\(o.1.2.getD (tN (o.2.1.getD (tN j) dF).1) dF).1<=(o.1.2.getD (tN (o.2.1.getD (tN j) dF).1) dF).2.1/\(o.1.2.getD (tN (o.2.1.getD (tN j) dF).1) dF).2.1<=o.1.1.length) /\
 (0<=(o.1.2.getD (tN (o.2.1.getD (tN j) dF).2.1) dF).1/\(o.1.2.getD (tN (o.2.1.getD (tN j) dF).2.1) dF).1<=(o.1.2.getD (tN (o.2.1.getD (tN j) dF).2.1) dF).2.1/\(o.1.2.getD (tN (o.2.1.getD (tN j) dF).2.1) dF).2.1<=o.1.1.length) /\
 (((o.2.2.getD (tN j) dF).length:Nat):Int)=bif (o.2.1.getD (tN j) dF).2.2 then 1 else
   ((o.1.2.getD (tN (o.2.1.getD (tN j) dF).1) dF).2.1 - (o.1.2.getD (tN (o.2.1.getD (tN j) dF).1) dF).1) *
   ((o.1.2.getD (tN (o.2.1.getD (tN j) dF).2.1) dF).2.1 - (o.1.2.getD (tN (o.2.1.getD (tN j) dF).2.1) dF).1)
structure EntOK (n:Int) (o:lI):Prop where
 n1:0<=n/\n<=96
 nz:0 < o.2.1.length->1<=n
 ol:o.1.1.length<=96
 ord:InR (tN n) o.1.1
 sp:o.2.2.length=o.2.1.length/\o.2.1.length<=9216
 sl:∀j:Nat,(((o.2.2.getD j dF).length:Nat):Int)<=10000
 blk:∀j:Int,0<=j->j < o.2.1.length->bDt o j
structure TL {α:Type} (nn:Nat) (m:List (List α)) (i:Nat):Prop where
 len:m.length=nn
 row:∀j < i,(m.getD j []).length=nn
theorem TL.set {α:Type} {nn i:Nat} {m:List (List α)} (h:TL nn m i) {l:List α} (hl:l.length=nn)(k:Nat):TL nn (m.set k l) i:=by
 refine⟨by rw [List.length_set];exact h.1,fun j hj=>?_⟩
 rw [cV,List.getElem?_set]
 split
 ·split
  ·simpa using hl
  ·rename_i hjk hjl
   have:=h.2 j hj
   rw [cV,List.getElem?_eq_none (by omega)] at this
   simpa using this
 ·rw [←cV];exact h.2 j hj
theorem TL.next {α:Type} {nn i:Nat} {m:List (List α)} (h:TL nn m i)(hi:i < nn) {l:List α} (hl:l.length=nn):TL nn (m.set i l) (i+1):=by
 refine⟨(h.set hl i).1,fun j hj=>?_⟩
 rcases Nat.lt_or_ge j i with h' | h'
 ·exact(h.set hl i).2 j h'
 ·obtain rfl:j=i:=by omega
  rw [cV,List.getElem?_set,if_pos rfl,if_pos (by rw [h.1];exact hi)]
  exact hl
theorem TL.le {α:Type} {nn i k:Nat} {m:List (List α)} (h:TL nn m i)(hk:k<=i):TL nn m k:=⟨h.1,fun j hj=>h.2 j (by omega)⟩
theorem TL.rep {α:Type} {nn:Nat}:TL nn (List.replicate nn ([]:List α)) 0:=⟨by simp,fun j hj=>absurd hj (fO j)⟩
theorem wF {l m:List SV} (h:l.length=m.length):m=splice l 0 m:=by
 unfold splice
 rw [List.take_zero,Nat.zero_add,←h,List.drop_length];simp
theorem aJo {nn:Nat} {v:List (Option iV)} {i:Nat} {x:iV} (h:v[i]? = some (some x))(c:List SV):flat (cO nn) (v.set i (some (x.1,x.2.1,c)))=flat (cO nn) v:=by
 induction v generalizing i with
 | nil=>simp at h
 | cons o v ih =>
  cases i with
  | zero =>
   simp only [List.getElem?_cons_zero,aX] at h
   subst h
   rfl
  | succ i =>
   have:=ih (i:=i) (by simpa using h)
   simp only [List.set_cons_succ,flat,List.flatMap_cons] at this ⊢
   rw [this]
def AtV (a:Int)(far:Bool)(p L:Int)(q:Int):Prop:=a=bif far then 0 else p*L+q
theorem aX8 {a p q L S:Int} {far:Bool} {n:Nat} (h:AtV a far p L q)(hn:((n:Nat):Int)=bif far then 1 else S*L)(hp:0<=p/\p < S)(hq:0<=q/\q < L):0<=a/\a < (n:Int):=by
 unfold AtV at h
 rw [hn,h]
 cases far with
 | true=>simp
 | false =>
  simp only [cond_false]
  have h1:0<=p*L:=Int.mul_nonneg hp.1 (by omega)
  have h2:(p+1)*L<=S*L:=Int.mul_le_mul_of_nonneg_right (by omega) (by omega)
  rw [Int.add_mul,Int.one_mul] at h2
  omega
theorem aG6 {a p q L:Int} {far:Bool} (h:AtV a far p L q)(hf:(!far)=true):AtV (a+1) far p L (q+1):=by
 unfold AtV at *
 cases far with
 | true=>cases hf
 | false=>simp only [cond_false] at *;omega
theorem aMa {a p q L:Int} {far:Bool} (h:AtV a far p L q)(hf:(!far)=false)(q':Int):AtV a far p L q':=by
 unfold AtV at *
 cases far with
 | true=>exact h
 | false=>cases hf
theorem aMb {a p q L:Int} {far:Bool} (h:AtV a far p L q)(hq:q=L):AtV a far (p+1) L 0:=by
 unfold AtV at *
 subst hq
 cases far with
 | true=>exact h
 | false=>simp only [cond_false] at *;rw [h,Int.add_mul,Int.one_mul,Int.add_zero]
theorem wG {L:Int} {far:Bool}:AtV 0 far 0 L 0:=by unfold AtV;cases far<;>simp
structure TK {α:Type} (nn k:Nat) (m:List (List α)):Prop where
 len:m.length=k
 row:∀j < k,(m.getD j []).length=nn
noncomputable def aTk:Code:=(bO [1,1,0,1,0,0,1,1,1] [0] (aI Tryz.f43)).1
noncomputable def aTl (m0:Nat):List K:=(bO [1,1,0,1,0,0,1,1,1] [m0] (aI Tryz.f43)).2
def aOa (a0:Int)(a1:(List Int×aY)×(List (Int×Int×Bool))×List (List (Int×Int)))(v6c:List SV)(v6n:Nat)(v7:Int):LS:=⟨jH 100 [(0,(iv a0)),(3,(.p 4 0)),(5,(.s 5 0 v6n 1)),(19,(iv (((tN a0):Nat):Int))),(20,(iv v7))],[(.live false true (flat c3 a1.1.1)),(.live false true (flat dM a1.1.2)),(.live false true (flat iT a1.2.1)),(.live false true (flat fW a1.2.2)),(.live true false [(.s 0 0 a1.1.1.length 1),(.s 1 0 a1.1.2.length 8),(.s 2 0 a1.2.1.length 3),(.s 3 0 a1.2.2.length 1)]),(.live true true v6c)]⟩
def yN (a0:Int)(a1:(List Int×aY)×(List (Int×Int×Bool))×List (List (Int×Int))):(List (List (Int×Int)))×Int->((List (List (Int×Int)))×Int)⊕(List (List (Int×Int)))
 | (v6,v7) =>
  (.inl (v6,(v7+1)))
noncomputable def aMc:Code:=(bO [1,1,0,1,0,0,1,1,0,0,1] [0] (aI Tryz.f43)).1
noncomputable def aTm (m0:Nat):List K:=(bO [1,1,0,1,0,0,1,1,0,0,1] [m0] (aI Tryz.f43)).2
def aOb (a0:Int)(a1:(List Int×aY)×(List (Int×Int×Bool))×List (List (Int×Int)))(v3c:List SV)(v3n:Nat)(v4 v5:Int):LS:=⟨jH 100 [(0,(iv a0)),(3,(.p 4 0)),(5,(.s 5 0 v3n 1)),(6,(iv v4)),(19,(iv (((tN a0):Nat):Int))),(20,(iv v5))],[(.live false true (flat c3 a1.1.1)),(.live false true (flat dM a1.1.2)),(.live false true (flat iT a1.2.1)),(.live false true (flat fW a1.2.2)),(.live true false [(.s 0 0 a1.1.1.length 1),(.s 1 0 a1.1.2.length 8),(.s 2 0 a1.2.1.length 3),(.s 3 0 a1.2.2.length 1)]),(.live true true v3c)]⟩
def yO (a0:Int)(a1:(List Int×aY)×(List (Int×Int×Bool))×List (List (Int×Int))):(List (List (Int×Int)))×Int×Int->((List (List (Int×Int)))×Int)⊕(List (List (Int×Int)))
 | (v3,v4,v5) =>
  (yN a0 a1 ((v3.set (tN v4) (List.replicate (tN a0) (0,0))),v5))
noncomputable def aOc:Code:=(bO [1,1,1,0,1,0,0,1,1,0,0,1,1,1,1,0,0,1,1,0,0,1,1,0,0,1,1,0,0,1,1,0] [0,0,0] (aI Tryz.f43)).1
noncomputable def aOd (m0:Nat)(m1:Nat)(m2:Nat):List K:=(bO [1,1,1,0,1,0,0,1,1,0,0,1,1,1,1,0,0,1,1,0,0,1,1,0,0,1,1,0,0,1,1,0] [m0,m1,m2] (aI Tryz.f43)).2
def aJp (a0:Int)(a1:(List Int×aY)×(List (Int×Int×Bool))×List (List (Int×Int)))(v227c:List SV)(v227n:Nat)(v228 v229 v230 v231 v232 v233 v234 v235 v236 v237 v238 v239 v240 v241:Int)(v242:Bool)(v243 v244 v245 v246 v247 v248 v249 v250:Int):LS:=⟨jH 100 [(3,(.p 4 0)),(5,(.s 5 0 v227n 1)),(7,(iv v228)),(8,(.p 6 0)),(10,(.p 7 0)),(11,(iv v229)),(13,(iv v230)),(30,(.s 2 0 a1.2.1.length 3)),(31,(iv (a1.2.1.length:Int))),(32,(iv v231)),(58,(.s 0 (0+tN v232*1) (tN v233 - tN v232) 1)),(59,(iv v234)),(60,(iv v235)),(71,(.s 0 (0+tN v236*1) (tN v237 - tN v236) 1)),(72,(iv v238)),(73,(iv v239))],[(.live false true (flat c3 a1.1.1)),(.live false true (flat dM a1.1.2)),(.live false true (flat iT a1.2.1)),(.live false true (flat fW a1.2.2)),(.live true false [(.s 0 0 a1.1.1.length 1),(.s 1 0 a1.1.2.length 8),(.s 2 0 a1.2.1.length 3),(.s 3 0 a1.2.2.length 1)]),(.live true true v227c),(.live true false [(iv v240),(iv v241),(.v (.bool v242))]),(.live true false [(iv v243),(iv v244),(iv v245),(iv v246),(iv v247),(iv v248),(iv v249),(iv v250)])]⟩
def lC (a0:Int)(a1:(List Int×aY)×(List (Int×Int×Bool))×List (List (Int×Int))):(List (List (Int×Int)))×Int×Int×Int×Int×Int×Int×Int×Int×Int×Int×Int×Int×Int×Int×Bool×Int×Int×Int×Int×Int×Zt->((List (List (Int×Int)))×Int×Int×Int×Int×Int×Int×Int×Int×Int×Int×Int×Int×Int×Int×Bool×Int×Int×Int×Int×Int×Zt)⊕(((List (List (Int×Int)))×Int×Int×Int×Int×Int×Int×Int×Int×Int×Bool×Int×Int×Int×Int×Int×Zt)⊕(((List (List (Int×Int)))×Int)⊕(List (List (Int×Int)))))
 | (v227,v228,v229,v230,v231,v232,v233,v234,v235,v236,v237,v238,v239,v240,v241,v242,v243,v244,v245,v246,v247,v248,v249,v250) =>
  (bif (!v242) then
   (.inl (v227,v228,(W (v229+1)),v230,v231,v232,v233,v234,v235,v236,v237,v238,(v239+1),v240,v241,v242,v243,v244,v245,v246,v247,v248,v249,v250))
  else
   (.inl (v227,v228,v229,v230,v231,v232,v233,v234,v235,v236,v237,v238,(v239+1),v240,v241,v242,v243,v244,v245,v246,v247,v248,v249,v250)))
noncomputable def aG7:Code:=(bO [1,1,1,0,1,0,0,1,1,0,0,1,1,1,1,0,0,1,1,0,0,1,1,0,0,1,1,0,0,1,0] [0,0,0] (aI Tryz.f43)).1
noncomputable def aOe (m0:Nat)(m1:Nat)(m2:Nat):List K:=(bO [1,1,1,0,1,0,0,1,1,0,0,1,1,1,1,0,0,1,1,0,0,1,1,0,0,1,1,0,0,1,0] [m0,m1,m2] (aI Tryz.f43)).2
def aJq (a0:Int)(a1:(List Int×aY)×(List (Int×Int×Bool))×List (List (Int×Int)))(v202c:List SV)(v202n:Nat)(v203 v204 v205 v206 v207 v208 v209 v210 v211 v212 v213 v214 v215 v216 v217:Int)(v218:Bool)(v219 v220 v221 v222 v223 v224 v225 v226:Int):LS:=⟨jH 100 [(3,(.p 4 0)),(5,(.s 5 0 v202n 1)),(7,(iv v203)),(8,(.p 6 0)),(10,(.p 7 0)),(11,(iv v204)),(13,(iv v205)),(15,(iv v206)),(30,(.s 2 0 a1.2.1.length 3)),(31,(iv (a1.2.1.length:Int))),(32,(iv v207)),(58,(.s 0 (0+tN v208*1) (tN v209 - tN v208) 1)),(59,(iv v210)),(60,(iv v211)),(71,(.s 0 (0+tN v212*1) (tN v213 - tN v212) 1)),(72,(iv v214)),(73,(iv v215))],[(.live false true (flat c3 a1.1.1)),(.live false true (flat dM a1.1.2)),(.live false true (flat iT a1.2.1)),(.live false true (flat fW a1.2.2)),(.live true false [(.s 0 0 a1.1.1.length 1),(.s 1 0 a1.1.2.length 8),(.s 2 0 a1.2.1.length 3),(.s 3 0 a1.2.2.length 1)]),(.live true true v202c),(.live true false [(iv v216),(iv v217),(.v (.bool v218))]),(.live true false [(iv v219),(iv v220),(iv v221),(iv v222),(iv v223),(iv v224),(iv v225),(iv v226)])]⟩
def pO (a0:Int)(a1:(List Int×aY)×(List (Int×Int×Bool))×List (List (Int×Int))):(List (List (Int×Int)))×Int×Int×Int×Int×Int×Int×Int×Int×Int×Int×Int×Int×Int×Int×Int×Bool×Int×Int×Int×Int×Int×Zt->((List (List (Int×Int)))×Int×Int×Int×Int×Int×Int×Int×Int×Int×Int×Int×Int×Int×Int×Bool×Int×Int×Int×Int×Int×Zt)⊕(((List (List (Int×Int)))×Int×Int×Int×Int×Int×Int×Int×Int×Int×Bool×Int×Int×Int×Int×Int×Zt)⊕(((List (List (Int×Int)))×Int)⊕(List (List (Int×Int)))))
 | (v202,v203,v204,v205,v206,v207,v208,v209,v210,v211,v212,v213,v214,v215,v216,v217,v218,v219,v220,v221,v222,v223,v224,v225,v226) =>
  (lC a0 a1 ((v202.set (tN v205) ((v202.getD (tN v205) []).set (tN v206) ((a1.2.2.getD (tN v203) dF).getD (tN v204) dF))),v203,v204,v205,v207,v208,v209,v210,v211,v212,v213,v214,v215,v216,v217,v218,v219,v220,v221,v222,v223,v224,v225,v226))
noncomputable def aOf:Code:=(aO [1,1,1,0,1,0,1,1,0,1,1,1,1,0,1,1,0,1,1] [0,0] (aI Tryz.f43) []).1
noncomputable def aOg (m0:Nat)(m1:Nat):List K:=(aO [1,1,1,0,1,0,1,1,0,1,1,1,1,0,1,1,0,1,1] [m0,m1] (aI Tryz.f43) []).2
def aG8 (a0:Int)(a1:(List Int×aY)×(List (Int×Int×Bool))×List (List (Int×Int)))(v178c:List SV)(v178n:Nat)(v179 v180 v181 v182 v183 v184 v185 v186 v187 v188 v189 v190 v191 v192:Int)(v193:Bool)(v194 v195 v196 v197 v198 v199 v200 v201:Int):LS:=⟨jH 100 [(3,(.p 4 0)),(5,(.s 5 0 v178n 1)),(7,(iv v179)),(8,(.p 6 0)),(10,(.p 7 0)),(11,(iv v180)),(13,(iv v181)),(30,(.s 2 0 a1.2.1.length 3)),(31,(iv (a1.2.1.length:Int))),(32,(iv v182)),(58,(.s 0 (0+tN v183*1) (tN v184 - tN v183) 1)),(59,(iv v185)),(60,(iv v186)),(71,(.s 0 (0+tN v187*1) (tN v188 - tN v187) 1)),(72,(iv v189)),(73,(iv v190))],[(.live false true (flat c3 a1.1.1)),(.live false true (flat dM a1.1.2)),(.live false true (flat iT a1.2.1)),(.live false true (flat fW a1.2.2)),(.live true false [(.s 0 0 a1.1.1.length 1),(.s 1 0 a1.1.2.length 8),(.s 2 0 a1.2.1.length 3),(.s 3 0 a1.2.2.length 1)]),(.live true true v178c),(.live true false [(iv v191),(iv v192),(.v (.bool v193))]),(.live true false [(iv v194),(iv v195),(iv v196),(iv v197),(iv v198),(iv v199),(iv v200),(iv v201)])]⟩
def jE (a0:Int)(a1:(List Int×aY)×(List (Int×Int×Bool))×List (List (Int×Int))):(List (List (Int×Int)))×Int×Int×Int×Int×Int×Int×Int×Int×Int×Int×Int×Int×Int×Int×Bool×Int×Int×Int×Int×Int×Zt->((List (List (Int×Int)))×Int×Int×Int×Int×Int×Int×Int×Int×Int×Int×Int×Int×Int×Int×Bool×Int×Int×Int×Int×Int×Zt)⊕(((List (List (Int×Int)))×Int×Int×Int×Int×Int×Int×Int×Int×Int×Bool×Int×Int×Int×Int×Int×Zt)⊕(((List (List (Int×Int)))×Int)⊕(List (List (Int×Int)))))
 | (v178,v179,v180,v181,v182,v183,v184,v185,v186,v187,v188,v189,v190,v191,v192,v193,v194,v195,v196,v197,v198,v199,v200,v201) =>
  (bif (decide ((v190:Int) < v189)) then
   (pO a0 a1 (v178,v179,v180,v181,(a1.1.1.getD ((tN v187)+tN v190) dF),v182,v183,v184,v185,v186,v187,v188,v189,v190,v191,v192,v193,v194,v195,v196,v197,v198,v199,v200,v201))
  else
   (.inr (.inl (v178,v179,v180,v182,v183,v184,v185,(v186+1),v191,v192,v193,v194,v195,v196,v197,v198,v199,v200,v201))))
noncomputable def aTn:Code:=(aO [1,1,1,0,1,0,1,1,0,1,1,1,1] [0] (aI Tryz.f43) []).1
noncomputable def aTo (m0:Nat):List K:=(aO [1,1,1,0,1,0,1,1,0,1,1,1,1] [m0] (aI Tryz.f43) []).2
def aMd (a0:Int)(a1:(List Int×aY)×(List (Int×Int×Bool))×List (List (Int×Int)))(v159c:List SV)(v159n:Nat)(v160 v161 v162 v163 v164 v165 v166 v167 v168:Int)(v169:Bool)(v170 v171 v172 v173 v174 v175 v176 v177:Int):LS:=⟨jH 100 [(3,(.p 4 0)),(5,(.s 5 0 v159n 1)),(7,(iv v160)),(8,(.p 6 0)),(10,(.p 7 0)),(11,(iv v161)),(30,(.s 2 0 a1.2.1.length 3)),(31,(iv (a1.2.1.length:Int))),(32,(iv v162)),(58,(.s 0 (0+tN v163*1) (tN v164 - tN v163) 1)),(59,(iv v165)),(60,(iv v166))],[(.live false true (flat c3 a1.1.1)),(.live false true (flat dM a1.1.2)),(.live false true (flat iT a1.2.1)),(.live false true (flat fW a1.2.2)),(.live true false [(.s 0 0 a1.1.1.length 1),(.s 1 0 a1.1.2.length 8),(.s 2 0 a1.2.1.length 3),(.s 3 0 a1.2.2.length 1)]),(.live true true v159c),(.live true false [(iv v167),(iv v168),(.v (.bool v169))]),(.live true false [(iv v170),(iv v171),(iv v172),(iv v173),(iv v174),(iv v175),(iv v176),(iv v177)])]⟩
def iC (a0:Int)(a1:(List Int×aY)×(List (Int×Int×Bool))×List (List (Int×Int))):(List (List (Int×Int)))×Int×Int×Int×Int×Int×Int×Int×Int×Int×Bool×Int×Int×Int×Int×Int×Zt->((List (List (Int×Int)))×Int×Int×Int×Int×Int×Int×Int×Int×Int×Bool×Int×Int×Int×Int×Int×Zt)⊕(((List (List (Int×Int)))×Int)⊕(List (List (Int×Int))))
 | (v159,v160,v161,v162,v163,v164,v165,v166,v167,v168,v169,v170,v171,v172,v173,v174,v175,v176,v177) =>
  (bif (decide ((v166:Int) < v165)) then
   (aA (jE a0 a1) (tN ((((tN v171 - tN v170):Nat):Int) - 0)+1) (v159,v160,v161,(a1.1.1.getD ((tN v163)+tN v166) dF),v162,v163,v164,v165,v166,v170,v171,(((tN v171 - tN v170):Nat):Int),0,v167,v168,v169,v170,v171,v172,v173,v174,v175,v176,v177))
  else
   (.inr (.inl (v159,(v162+1)))))
noncomputable def aOh:Code:=(bO [1,1,1,1,0] [] (aI Tryz.f43)).1
noncomputable def aOi:List K:=(bO [1,1,1,1,0] [] (aI Tryz.f43)).2
def aJr (a0:Int)(a1:(List Int×aY)×(List (Int×Int×Bool))×List (List (Int×Int)))(v251c:List SV)(v251n:Nat):LS:=⟨jH 100 [(5,(.s 4 0 v251n 1))],[(.live false true (flat c3 a1.1.1)),(.live false true (flat dM a1.1.2)),(.live false true (flat iT a1.2.1)),(.live false true (flat fW a1.2.2)),(.live true true v251c)]⟩
def wH (a0:Int)(a1:(List Int×aY)×(List (Int×Int×Bool))×List (List (Int×Int))):List (List (Int×Int))->List (List (Int×Int))
 | v251 =>
  v251
noncomputable def aTp:Code:=(aO [1,1,1,0,1] [] (aI Tryz.f43) []).1
noncomputable def aTq:List K:=(aO [1,1,1,0,1] [] (aI Tryz.f43) []).2
def aMe (a0:Int)(a1:(List Int×aY)×(List (Int×Int×Bool))×List (List (Int×Int)))(v10c:List SV)(v10n:Nat)(v11:Int):LS:=⟨jH 100 [(3,(.p 4 0)),(5,(.s 5 0 v10n 1)),(30,(.s 2 0 a1.2.1.length 3)),(31,(iv (a1.2.1.length:Int))),(32,(iv v11))],[(.live false true (flat c3 a1.1.1)),(.live false true (flat dM a1.1.2)),(.live false true (flat iT a1.2.1)),(.live false true (flat fW a1.2.2)),(.live true false [(.s 0 0 a1.1.1.length 1),(.s 1 0 a1.1.2.length 8),(.s 2 0 a1.2.1.length 3),(.s 3 0 a1.2.2.length 1)]),(.live true true v10c)]⟩
def gF (a0:Int)(a1:(List Int×aY)×(List (Int×Int×Bool))×List (List (Int×Int))):(List (List (Int×Int)))×Int->((List (List (Int×Int)))×Int)⊕(List (List (Int×Int)))
 | (v10,v11) =>
  (bif (decide ((v11:Int) < (a1.2.1.length:Int))) then
   (aA (iC a0 a1) (tN ((((tN ((a1.1.2.getD (tN (a1.2.1.getD (tN v11) dF).1) dF).2.1) - tN ((a1.1.2.getD (tN (a1.2.1.getD (tN v11) dF).1) dF).1)):Nat):Int) - 0)+1) (v10,v11,0,v11,(a1.1.2.getD (tN (a1.2.1.getD (tN v11) dF).1) dF).1,(a1.1.2.getD (tN (a1.2.1.getD (tN v11) dF).1) dF).2.1,(((tN ((a1.1.2.getD (tN (a1.2.1.getD (tN v11) dF).1) dF).2.1) - tN ((a1.1.2.getD (tN (a1.2.1.getD (tN v11) dF).1) dF).1)):Nat):Int),0,(a1.2.1.getD (tN v11) dF).1,(a1.2.1.getD (tN v11) dF).2.1,(a1.2.1.getD (tN v11) dF).2.2,(a1.1.2.getD (tN (a1.2.1.getD (tN v11) dF).2.1) dF).1,(a1.1.2.getD (tN (a1.2.1.getD (tN v11) dF).2.1) dF).2.1,(a1.1.2.getD (tN (a1.2.1.getD (tN v11) dF).2.1) dF).2.2.1,(a1.1.2.getD (tN (a1.2.1.getD (tN v11) dF).2.1) dF).2.2.2.1,(a1.1.2.getD (tN (a1.2.1.getD (tN v11) dF).2.1) dF).2.2.2.2.1.1,(a1.1.2.getD (tN (a1.2.1.getD (tN v11) dF).2.1) dF).2.2.2.2.1.2.1,(a1.1.2.getD (tN (a1.2.1.getD (tN v11) dF).2.1) dF).2.2.2.2.1.2.2,(a1.1.2.getD (tN (a1.2.1.getD (tN v11) dF).2.1) dF).2.2.2.2.2))
  else
   (.inr (wH a0 a1 v10)))
noncomputable def aTr:Code:=(aO [1,1,0,1] [] (aI Tryz.f43) []).1
noncomputable def aTs:List K:=(aO [1,1,0,1] [] (aI Tryz.f43) []).2
def aMf (a0:Int)(a1:(List Int×aY)×(List (Int×Int×Bool))×List (List (Int×Int)))(v1c:List SV)(v1n:Nat)(v2:Int):LS:=⟨jH 100 [(0,(iv a0)),(3,(.p 4 0)),(5,(.s 5 0 v1n 1)),(19,(iv (((tN a0):Nat):Int))),(20,(iv v2))],[(.live false true (flat c3 a1.1.1)),(.live false true (flat dM a1.1.2)),(.live false true (flat iT a1.2.1)),(.live false true (flat fW a1.2.2)),(.live true false [(.s 0 0 a1.1.1.length 1),(.s 1 0 a1.1.2.length 8),(.s 2 0 a1.2.1.length 3),(.s 3 0 a1.2.2.length 1)]),(.live true true v1c)]⟩
def mG (a0:Int)(a1:(List Int×aY)×(List (Int×Int×Bool))×List (List (Int×Int))):(List (List (Int×Int)))×Int->((List (List (Int×Int)))×Int)⊕(List (List (Int×Int)))
 | (v1,v2) =>
  (bif (decide ((v2:Int) < (((tN a0):Nat):Int))) then
   (yO a0 a1 (v1,v2,v2))
  else
   (.inr (aA (gF a0 a1) (tN ((a1.2.1.length:Int) - 0)+1) (v1,0))))
def aTt (a0:Int)(a1:(List Int×aY)×(List (Int×Int×Bool))×List (List (Int×Int)))(cx:Cx)(n0:Nat)(n1:Nat)(n:Nat):Prop:=∀(v178:List (List (Int×Int))) (v179 v180 v181 v182 v183 v184 v185 v186 v187 v188 v189 v190 v191 v192:Int) (v193:Bool) (v194 v195 v196 v197 v198 v199 v200 v201:Int) (vT:List (Option iV)) (tr:TabR eP (tN a0) vT v178),(0<=v190)/\(TL (tN a0) v178 (tN a0))/\(AtV v180 v193 v186 (v195 - v194) v190)/\(v190<=v189)/\(v187=v194)/\(v188=v195)/\(v189=v195 - v194)/\(0<=v181)/\(v181 < a0)/\((0<=v182))/\((v182<=(a1.2.1.length:Int)))/\(v182 < (a1.2.1.length:Int))/\(tN ((a1.2.1.length:Int) - v182) < n0+1)/\((0<=v186))/\(((((a1.2.2.getD (tN v179) dF).length:Nat):Int)=bif v193 then 1 else(v184 - v183)*(v195 - v194)))/\((v186<=v185))/\((v179=v182))/\((0<=v183))/\((v183<=v184))/\((v184<=a1.1.1.length))/\((v185=v184 - v183))/\((0<=v194))/\((v194<=v195))/\((v195<=a1.1.1.length))/\(v186 < v185)/\(tN (v185 - v186) < n1+1)->tN (v189 - v190) < n->Aw.GoodT Tryz.prog none 9 (bodyPost Tryz.prog Tryz.f43 (RR cx (.s 4 0 (bB (gF a0 a1) n0 (bB (iC a0 a1) n1 (aA (jE a0 a1) n (v178,v179,v180,v181,v182,v183,v184,v185,v186,v187,v188,v189,v190,v191,v192,v193,v194,v195,v196,v197,v198,v199,v200,v201)))).length 1) [(.live true true (flat fW (bB (gF a0 a1) n0 (bB (iC a0 a1) n1 (aA (jE a0 a1) n (v178,v179,v180,v181,v182,v183,v184,v185,v186,v187,v188,v189,v190,v191,v192,v193,v194,v195,v196,v197,v198,v199,v200,v201))))))] [])) cx [] (tN a0) 2 vT (.l aOf n::aOg n0 n1) (aG8 a0 a1 (flat (cO (tN a0)) vT) (vT.length) v179 v180 v181 v182 v183 v184 v185 v186 v187 v188 v189 v190 v191 v192 v193 v194 v195 v196 v197 v198 v199 v200 v201)
def aOj (a0:Int)(a1:(List Int×aY)×(List (Int×Int×Bool))×List (List (Int×Int)))(cx:Cx)(n0:Nat)(n:Nat):Prop:=∀(v159:List (List (Int×Int))) (v160 v161 v162 v163 v164 v165 v166 v167 v168:Int) (v169:Bool) (v170 v171 v172 v173 v174 v175 v176 v177:Int) (vT:List (Option iV)) (tr:TabR eP (tN a0) vT v159),(0<=v166)/\(TL (tN a0) v159 (tN a0))/\(AtV v161 v169 v166 (v171 - v170) 0)/\((((a1.2.2.getD (tN v160) dF).length:Nat):Int)=bif v169 then 1 else(v164 - v163)*(v171 - v170))/\(v166<=v165)/\(v160=v162)/\(0<=v163)/\(v163<=v164)/\(v164<=a1.1.1.length)/\(v165=v164 - v163)/\(0<=v170)/\(v170<=v171)/\(v171<=a1.1.1.length)/\((0<=v162))/\((v162<=(a1.2.1.length:Int)))/\(v162 < (a1.2.1.length:Int))/\(tN ((a1.2.1.length:Int) - v162) < n0+1)->tN (v165 - v166) < n->Aw.GoodT Tryz.prog none 9 (bodyPost Tryz.prog Tryz.f43 (RR cx (.s 4 0 (bB (gF a0 a1) n0 (aA (iC a0 a1) n (v159,v160,v161,v162,v163,v164,v165,v166,v167,v168,v169,v170,v171,v172,v173,v174,v175,v176,v177))).length 1) [(.live true true (flat fW (bB (gF a0 a1) n0 (aA (iC a0 a1) n (v159,v160,v161,v162,v163,v164,v165,v166,v167,v168,v169,v170,v171,v172,v173,v174,v175,v176,v177)))))] [])) cx [] (tN a0) 2 vT (.l aTn n::aTo n0) (aMd a0 a1 (flat (cO (tN a0)) vT) (vT.length) v160 v161 v162 v163 v164 v165 v166 v167 v168 v169 v170 v171 v172 v173 v174 v175 v176 v177)
def aJs (a0:Int)(a1:(List Int×aY)×(List (Int×Int×Bool))×List (List (Int×Int)))(cx:Cx)(n:Nat):Prop:=∀(v10:List (List (Int×Int))) (v11:Int) (vT:List (Option iV)) (tr:TabR eP (tN a0) vT v10),(0<=v11)/\(TL (tN a0) v10 (tN a0))/\(v11<=(a1.2.1.length:Int))->tN ((a1.2.1.length:Int) - v11) < n->Aw.GoodT Tryz.prog none 9 (bodyPost Tryz.prog Tryz.f43 (RR cx (.s 4 0 (aA (gF a0 a1) n (v10,v11)).length 1) [(.live true true (flat fW (aA (gF a0 a1) n (v10,v11))))] [])) cx [] (tN a0) 2 vT (.l aTp n::aTq) (aMe a0 a1 (flat (cO (tN a0)) vT) (vT.length) v11)
def aTu (a0:Int)(a1:(List Int×aY)×(List (Int×Int×Bool))×List (List (Int×Int)))(cx:Cx)(n:Nat):Prop:=∀(v1:List (List (Int×Int))) (v2:Int) (vT:List (Option iV)) (tr:TabR eP (tN a0) vT v1),(0<=v2)/\(TL (tN a0) v1 (tN v2))/\(v2<=((tN a0:Nat):Int))->tN ((((tN a0):Nat):Int) - v2) < n->Aw.GoodT Tryz.prog none 9 (bodyPost Tryz.prog Tryz.f43 (RR cx (.s 4 0 (aA (mG a0 a1) n (v1,v2)).length 1) [(.live true true (flat fW (aA (mG a0 a1) n (v1,v2))))] [])) cx [] (tN a0) 2 vT (.l aTr n::aTs) (aMf a0 a1 (flat (cO (tN a0)) vT) (vT.length) v2)
theorem bAt (a0:Int)(a1:(List Int×aY)×(List (Int×Int×Bool))×List (List (Int×Int)))(l1_1_1:a1.1.1.length<=2^63-1)(l1_1_2:a1.1.2.length<=2^63-1)(l1_2_1:a1.2.1.length<=2^63-1)(l1_2_2:a1.2.2.length<=2^63-1)(he:EntOK a0 a1) {cx:Cx} (hcx:cx.base=4)
 (n0:Nat) (g0:aTu a0 a1 cx n0) (v6:List (List (Int×Int))) (v7:Int) (vT:List (Option iV)) (tr:TabR eP (tN a0) vT v6):(TL (tN a0) v6 (tN v7+1))/\((0<=v7))/\((v7<=((tN a0:Nat):Int)))/\(v7 < (((tN a0):Nat):Int))/\(tN ((((tN a0):Nat):Int) - v7) < n0+1)->Aw.GoodT Tryz.prog none 9 (bodyPost Tryz.prog Tryz.f43 (RR cx (.s 4 0 (bB (mG a0 a1) n0 (yN a0 a1 (v6,v7))).length 1) [(.live true true (flat fW (bB (mG a0 a1) n0 (yN a0 a1 (v6,v7)))))] [])) cx [] (tN a0) 2 vT (.c aTk::aTl n0) (aOa a0 a1 (flat (cO (tN a0)) vT) (vT.length) v7):=by
 intro hi
 have hn1:=he.n1
 have htl:=hi.1
 have htl2:=htl.le (k:=tN (v7+1)) (by omega)
 have e:=Eq.refl (yN a0 a1 (v6,v7));conv at e=>rhs;simp only [yN]
 rw [e]
 refine baT [] [] [0,3,5,19,20] [4,5] hcx (m:=n0) aTr (aTs) (aMf a0 a1 (flat (cO (tN a0)) vT) (vT.length) (W (v7+1))) (by kernel_rfl) ⟨by kernel_rfl,by kernel_rfl⟩ ?_
 have z0:(W (v7+1))=(v7+1):=aH (by omega) (by omega)
 rw [z0]
 exact g0 v6 (v7+1) vT tr (by(repeat' apply And.intro)<;>(try simp only [Int.toNat_zero])<;>first | omega | assumption | exact TL.rep | exact wG) (by(try simp only [Ls]);omega)
theorem bAu (a0:Int)(a1:(List Int×aY)×(List (Int×Int×Bool))×List (List (Int×Int)))(l1_1_1:a1.1.1.length<=2^63-1)(l1_1_2:a1.1.2.length<=2^63-1)(l1_2_1:a1.2.1.length<=2^63-1)(l1_2_2:a1.2.2.length<=2^63-1)(he:EntOK a0 a1) {cx:Cx} (hcx:cx.base=4)
 (n0:Nat) (g0:aTu a0 a1 cx n0) (v3:List (List (Int×Int))) (v4 v5:Int) (vT:List (Option iV)) (tr:TabR eP (tN a0) vT v3):(TL (tN a0) v3 (tN v4))/\(v4=v5)/\((0<=v5))/\((v5<=((tN a0:Nat):Int)))/\(v5 < (((tN a0):Nat):Int))/\(tN ((((tN a0):Nat):Int) - v5) < n0+1)->Aw.GoodT Tryz.prog none 9 (bodyPost Tryz.prog Tryz.f43 (RR cx (.s 4 0 (bB (mG a0 a1) n0 (yO a0 a1 (v3,v4,v5))).length 1) [(.live true true (flat fW (bB (mG a0 a1) n0 (yO a0 a1 (v3,v4,v5)))))] [])) cx [] (tN a0) 2 vT (.c aMc::aTm n0) (aOb a0 a1 (flat (cO (tN a0)) vT) (vT.length) v4 v5):=by
 intro hi
 have e:=Eq.refl (yO a0 a1 (v3,v4,v5));conv at e=>rhs;simp only [yO]
 rw [e]
 have hn1:=he.n1
 have hvl:=tr.length
 have htl:=hi.1
 have htl0:=htl.1
 have htl1:=htl.next (l:=List.replicate (tN a0) ((0,0):Int×Int)) (by omega) (by simp)
 have htl2:=htl1.le (k:=tN v5+1) (by omega)
 refine GoodT.makeE hT hm (B:=aMc) (by kernel_rfl) 4 (by kernel_rfl) (fun id cap=>vT.set (tN v4) (some (id,cap,(flat eP (List.replicate (tN a0) (0,0)))))) [.Z eP (0,0) [(iv 0),(iv 0)] a0 16] (fun id cap=>[.i v4 vT.length (by omega),.p (show 0+tN v4*1+1<=(flat (cO (tN a0)) vT).length from by rw [eJ aG5];omega)]) 26 6 (tN v4) true (flat eP (List.replicate (tN a0) (0,0))) hcx (by kernel_rfl) ⟨by kernel_rfl,by kernel_rfl⟩ (by kernel_rfl) (by kernel_rfl) (mT (c:=eP) (fun _=>rfl) _) (by rw [eJ dZ,List.length_replicate]) (by omega) (fun id cap=>by kernel_rfl) (fun id cap=>⟨by kernel_rfl,by kernel_rfl⟩) (fun id cap=>aTi) (fun id cap=>?_)
 refine gaT [.z 6] [] [0,3,5,19,20] [4,5] hcx aTk (aTl n0) (aOa a0 a1 (splice (flat (cO (tN a0)) vT) (0+tN v4*1) [(.v (mO (tN a0) (id,cap,(flat eP (List.replicate (tN a0) (0,0))))))]) (vT.length) v5) (by kernel_rfl) ⟨by kernel_rfl,by kernel_rfl⟩ ?_
 have tr1:=tr.set (tN v4) (id,cap,(flat eP (List.replicate (tN a0) (0,0)))) (List.replicate (tN a0) (0,0)) (by simp) rfl
 rw [show(splice (flat (cO (tN a0)) vT) (0+tN v4*1) [(.v (mO (tN a0) (id,cap,(flat eP (List.replicate (tN a0) (0,0))))))])=flat (cO (tN a0)) (vT.set (tN v4) (some (id,cap,(flat eP (List.replicate (tN a0) (0,0)))))) from iY aG5 (by omega) (o:=0) (d:=none) (Nat.le_refl 1) (wF (aG5 _))]
 rw [show vT.length=(vT.set (tN v4) (some (id,cap,(flat eP (List.replicate (tN a0) (0,0)))))).length from by simp]
 exact bAt a0 a1 l1_1_1 l1_1_2 l1_2_1 l1_2_2 he hcx n0 g0 (v3.set (tN v4) (List.replicate (tN a0) (0,0))) v5 (vT.set (tN v4) (some (id,cap,(flat eP (List.replicate (tN a0) (0,0)))))) tr1 (by(repeat' apply And.intro)<;>(try simp only [Int.toNat_zero])<;>first | omega | assumption | exact TL.rep | exact wG)
theorem aWq (a0:Int)(a1:(List Int×aY)×(List (Int×Int×Bool))×List (List (Int×Int)))(l1_1_1:a1.1.1.length<=2^63-1)(l1_1_2:a1.1.2.length<=2^63-1)(l1_2_1:a1.2.1.length<=2^63-1)(l1_2_2:a1.2.2.length<=2^63-1)(he:EntOK a0 a1) {cx:Cx} (hcx:cx.base=4)
 (n0:Nat) (g0:aJs a0 a1 cx n0)
 (n1:Nat) (g1:aOj a0 a1 cx n0 n1)
 (n2:Nat) (g2:aTt a0 a1 cx n0 n1 n2) (v227:List (List (Int×Int))) (v228 v229 v230 v231 v232 v233 v234 v235 v236 v237 v238 v239 v240 v241:Int) (v242:Bool) (v243 v244 v245 v246 v247 v248 v249 v250:Int) (vT:List (Option iV)) (tr:TabR eP (tN a0) vT v227):(TL (tN a0) v227 (tN a0))/\(AtV v229 v242 v235 (v244 - v243) v239)/\((((a1.2.2.getD (tN v228) dF).length:Nat):Int)=bif v242 then 1 else(v233 - v232)*(v244 - v243))/\((0<=v231))/\((v231<=(a1.2.1.length:Int)))/\(v231 < (a1.2.1.length:Int))/\(tN ((a1.2.1.length:Int) - v231) < n0+1)/\((0<=v235))/\(((((a1.2.2.getD (tN v228) dF).length:Nat):Int)=bif v242 then 1 else(v233 - v232)*(v244 - v243)))/\((v235<=v234))/\((v228=v231))/\((0<=v232))/\((v232<=v233))/\((v233<=a1.1.1.length))/\((v234=v233 - v232))/\((0<=v243))/\((v243<=v244))/\((v244<=a1.1.1.length))/\(v235 < v234)/\(tN (v234 - v235) < n1+1)/\((0<=v239))/\((v239<=v238))/\((v236=v243))/\((v237=v244))/\((v238=v244 - v243))/\((0<=v230))/\((v230 < a0))/\(v239 < v238)/\(tN (v238 - v239) < n2+1)->Aw.GoodT Tryz.prog none 9 (bodyPost Tryz.prog Tryz.f43 (RR cx (.s 4 0 (bB (gF a0 a1) n0 (bB (iC a0 a1) n1 (bB (jE a0 a1) n2 (lC a0 a1 (v227,v228,v229,v230,v231,v232,v233,v234,v235,v236,v237,v238,v239,v240,v241,v242,v243,v244,v245,v246,v247,v248,v249,v250))))).length 1) [(.live true true (flat fW (bB (gF a0 a1) n0 (bB (iC a0 a1) n1 (bB (jE a0 a1) n2 (lC a0 a1 (v227,v228,v229,v230,v231,v232,v233,v234,v235,v236,v237,v238,v239,v240,v241,v242,v243,v244,v245,v246,v247,v248,v249,v250)))))))] [])) cx [] (tN a0) 2 vT (.c aOc::aOd n0 n1 n2) (aJp a0 a1 (flat (cO (tN a0)) vT) (vT.length) v228 v229 v230 v231 v232 v233 v234 v235 v236 v237 v238 v239 v240 v241 v242 v243 v244 v245 v246 v247 v248 v249 v250):=by
 intro hi
 have hnz:=he.nz (by omega)
 have hsl:(((a1.2.2.getD (tN v228) dF).length:Nat):Int)=bif v242 then 1 else(v233 - v232)*(v244 - v243):=by have q:=hi;repeat (first | exact q.1 | replace q:=q.2)
 have hn1:=he.n1
 have hsp:=he.sp
 have hol:=he.ol
 have htl:=hi.1
 have hat:=hi.2.1
 have hsb:=he.sl (tN v228)
 have hao:=aX8 hi.2.1 hi.2.2.1 (by omega) (by omega)
 have hw:=aH (n:=v229+1) (by omega) (by omega)
 try have ha1:AtV (W (v229+1)) v242 v235 (v244 - v243) (v239+1):=by rw [hw];exact aG6 hi.2.1 h0
 try have ha2:=aMa hi.2.1 h0 (v239+1)
 cases h0:(!v242) with
 | true =>
  try have ha1:AtV (W (v229+1)) v242 v235 (v244 - v243) (v239+1):=by rw [hw];exact aG6 hi.2.1 h0
  try have ha2:=aMa hi.2.1 h0 (v239+1)
  have e:=Eq.refl (lC a0 a1 (v227,v228,v229,v230,v231,v232,v233,v234,v235,v236,v237,v238,v239,v240,v241,v242,v243,v244,v245,v246,v247,v248,v249,v250));conv at e=>rhs;simp only [lC,h0,aW]
  rw [e]
  refine baT [.d h0] [] [3,5,7,8,10,11,13,30,31,32,58,59,60,71,72,73] [4,5,6,7] hcx (m:=n2) aOf (aOg n0 n1) (aG8 a0 a1 (flat (cO (tN a0)) vT) (vT.length) v228 (W (v229+1)) v230 v231 v232 v233 v234 v235 v236 v237 v238 (W (v239+1)) v240 v241 v242 v243 v244 v245 v246 v247 v248 v249 v250) (by kernel_rfl) ⟨by kernel_rfl,by kernel_rfl⟩ ?_
  have z0:(W (v239+1))=(v239+1):=aH (by omega) (by omega)
  rw [z0]
  exact g2 v227 v228 (W (v229+1)) v230 v231 v232 v233 v234 v235 v236 v237 v238 (v239+1) v240 v241 v242 v243 v244 v245 v246 v247 v248 v249 v250 vT tr (by(repeat' apply And.intro)<;>(try simp only [Int.toNat_zero])<;>first | omega | assumption | exact TL.rep | exact wG) (by(try simp only [Ls]);omega)
 | false =>
  try have ha1:AtV (W (v229+1)) v242 v235 (v244 - v243) (v239+1):=by rw [hw];exact aG6 hi.2.1 h0
  try have ha2:=aMa hi.2.1 h0 (v239+1)
  have e:=Eq.refl (lC a0 a1 (v227,v228,v229,v230,v231,v232,v233,v234,v235,v236,v237,v238,v239,v240,v241,v242,v243,v244,v245,v246,v247,v248,v249,v250));conv at e=>rhs;simp only [lC,h0,aW]
  rw [e]
  refine baT [.d h0] [] [3,5,7,8,10,11,13,30,31,32,58,59,60,71,72,73] [4,5,6,7] hcx (m:=n2) aOf (aOg n0 n1) (aG8 a0 a1 (flat (cO (tN a0)) vT) (vT.length) v228 v229 v230 v231 v232 v233 v234 v235 v236 v237 v238 (W (v239+1)) v240 v241 v242 v243 v244 v245 v246 v247 v248 v249 v250) (by kernel_rfl) ⟨by kernel_rfl,by kernel_rfl⟩ ?_
  have z0:(W (v239+1))=(v239+1):=aH (by omega) (by omega)
  rw [z0]
  exact g2 v227 v228 v229 v230 v231 v232 v233 v234 v235 v236 v237 v238 (v239+1) v240 v241 v242 v243 v244 v245 v246 v247 v248 v249 v250 vT tr (by(repeat' apply And.intro)<;>(try simp only [Int.toNat_zero])<;>first | omega | assumption | exact TL.rep | exact wG) (by(try simp only [Ls]);omega)
theorem aWr (a0:Int)(a1:(List Int×aY)×(List (Int×Int×Bool))×List (List (Int×Int)))(l1_1_1:a1.1.1.length<=2^63-1)(l1_1_2:a1.1.2.length<=2^63-1)(l1_2_1:a1.2.1.length<=2^63-1)(l1_2_2:a1.2.2.length<=2^63-1)(he:EntOK a0 a1) {cx:Cx} (hcx:cx.base=4)
 (n0:Nat) (g0:aJs a0 a1 cx n0)
 (n1:Nat) (g1:aOj a0 a1 cx n0 n1)
 (n2:Nat) (g2:aTt a0 a1 cx n0 n1 n2) (v202:List (List (Int×Int))) (v203 v204 v205 v206 v207 v208 v209 v210 v211 v212 v213 v214 v215 v216 v217:Int) (v218:Bool) (v219 v220 v221 v222 v223 v224 v225 v226:Int) (vT:List (Option iV)) (tr:TabR eP (tN a0) vT v202):(TL (tN a0) v202 (tN a0))/\(AtV v204 v218 v211 (v220 - v219) v215)/\((((a1.2.2.getD (tN v203) dF).length:Nat):Int)=bif v218 then 1 else(v209 - v208)*(v220 - v219))/\(0<=v206)/\(v206 < a0)/\((0<=v207))/\((v207<=(a1.2.1.length:Int)))/\(v207 < (a1.2.1.length:Int))/\(tN ((a1.2.1.length:Int) - v207) < n0+1)/\((0<=v211))/\(((((a1.2.2.getD (tN v203) dF).length:Nat):Int)=bif v218 then 1 else(v209 - v208)*(v220 - v219)))/\((v211<=v210))/\((v203=v207))/\((0<=v208))/\((v208<=v209))/\((v209<=a1.1.1.length))/\((v210=v209 - v208))/\((0<=v219))/\((v219<=v220))/\((v220<=a1.1.1.length))/\(v211 < v210)/\(tN (v210 - v211) < n1+1)/\((0<=v215))/\((v215<=v214))/\((v212=v219))/\((v213=v220))/\((v214=v220 - v219))/\((0<=v205))/\((v205 < a0))/\(v215 < v214)/\(tN (v214 - v215) < n2+1)->Aw.GoodT Tryz.prog none 9 (bodyPost Tryz.prog Tryz.f43 (RR cx (.s 4 0 (bB (gF a0 a1) n0 (bB (iC a0 a1) n1 (bB (jE a0 a1) n2 (pO a0 a1 (v202,v203,v204,v205,v206,v207,v208,v209,v210,v211,v212,v213,v214,v215,v216,v217,v218,v219,v220,v221,v222,v223,v224,v225,v226))))).length 1) [(.live true true (flat fW (bB (gF a0 a1) n0 (bB (iC a0 a1) n1 (bB (jE a0 a1) n2 (pO a0 a1 (v202,v203,v204,v205,v206,v207,v208,v209,v210,v211,v212,v213,v214,v215,v216,v217,v218,v219,v220,v221,v222,v223,v224,v225,v226)))))))] [])) cx [] (tN a0) 2 vT (.c aG7::aOe n0 n1 n2) (aJq a0 a1 (flat (cO (tN a0)) vT) (vT.length) v203 v204 v205 v206 v207 v208 v209 v210 v211 v212 v213 v214 v215 v216 v217 v218 v219 v220 v221 v222 v223 v224 v225 v226):=by
 intro hi
 have e:=Eq.refl (pO a0 a1 (v202,v203,v204,v205,v206,v207,v208,v209,v210,v211,v212,v213,v214,v215,v216,v217,v218,v219,v220,v221,v222,v223,v224,v225,v226));conv at e=>rhs;simp only [pO]
 rw [e]
 have hn1:=he.n1
 have hnz:=he.nz (by omega)
 have hvl:=tr.length
 have htl:=hi.1
 have htl0:=htl.1
 have hsp:=he.sp
 have hat1:=hi.2.1
 have hsl:=hi.2.2.1
 have hxl:=htl.2 (tN v205) (by omega)
 obtain⟨xr,hxr,hxc⟩:=tr.get (tN v205) (by omega) hxl (by omega)
 have hxi:0<=v205/\v205 < (vT.length:Int):=by omega
 have hat:=aX8 hi.2.1 hi.2.2.1 (by omega) (by omega)
 have hs:splice xr.2.2 (0+tN v206*2) (k2 ((a1.2.2.getD (tN v203) dF).getD (tN v204) dF))=flat eP ((v202.getD (tN v205) []).set (tN v206) ((a1.2.2.getD (tN v203) dF).getD (tN v204) dF)):=by rw [hxc];exact iY dZ (by omega) (o:=0) (d:=dF) (Nat.le_refl 2) (wF (dZ _))
 refine GoodT.putE hT hm (B:=aG7) (by kernel_rfl) 13 (by kernel_rfl) [.i v205 (vT.length),.l [(.v (mO (tN a0) xr))] (bAs hxi hxr),.i v203 (a1.2.2.length),.L nC a1.2.2 v203 0 1,.p (mT (c:=eP) (fun _=>rfl) (a1.2.2.getD (tN v203) dF)),.i v204 ((a1.2.2.getD (tN v203) dF).length),.L dZ (a1.2.2.getD (tN v203) dF) v204 0 2] [.i v206 (tN a0) (by omega),.p (show 0+tN v206*2+2<=xr.2.2.length from by rw [hxc,eJ dZ,hxl];omega)] [.kill 8] 80 (tN v205) xr (splice xr.2.2 (0+tN v206*2) (k2 ((a1.2.2.getD (tN v203) dF).getD (tN v204) dF))) hcx (by kernel_rfl) (by kernel_rfl) (by kernel_rfl) ⟨by kernel_rfl,by kernel_rfl⟩ (by kernel_rfl) hxr (by kernel_rfl) ⟨by kernel_rfl,by kernel_rfl⟩ (by kernel_rfl) (by rw [hs];exact mT (c:=eP) (fun _=>rfl) _) (by rw [hs,eJ dZ,List.length_set,hxl]) ?_
 refine gaT [.z 19] [] [3,5,7,8,10,11,13,30,31,32,58,59,60,71,72,73] [4,5,6,7] hcx aOc (aOd n0 n1 n2) (aJp a0 a1 (flat (cO (tN a0)) vT) (vT.length) v203 v204 v205 v207 v208 v209 v210 v211 v212 v213 v214 v215 v216 v217 v218 v219 v220 v221 v222 v223 v224 v225 v226) (by kernel_rfl) ⟨by kernel_rfl,by kernel_rfl⟩ ?_
 have tr1:=tr.set (tN v205) (xr.1,xr.2.1,splice xr.2.2 (0+tN v206*2) (k2 ((a1.2.2.getD (tN v203) dF).getD (tN v204) dF))) ((v202.getD (tN v205) []).set (tN v206) ((a1.2.2.getD (tN v203) dF).getD (tN v204) dF)) (by rw [List.length_set,hxl]) hs
 have htl1:=htl.set (l:=(v202.getD (tN v205) []).set (tN v206) ((a1.2.2.getD (tN v203) dF).getD (tN v204) dF)) (by rw [List.length_set,hxl]) (tN v205)
 rw [←aJo (nn:=(tN a0)) hxr (splice xr.2.2 (0+tN v206*2) (k2 ((a1.2.2.getD (tN v203) dF).getD (tN v204) dF)))]
 rw [show vT.length=(vT.set (tN v205) (some (xr.1,xr.2.1,splice xr.2.2 (0+tN v206*2) (k2 ((a1.2.2.getD (tN v203) dF).getD (tN v204) dF))))).length from by simp]
 exact aWq a0 a1 l1_1_1 l1_1_2 l1_2_1 l1_2_2 he hcx n0 g0 n1 g1 n2 g2 (v202.set (tN v205) ((v202.getD (tN v205) []).set (tN v206) ((a1.2.2.getD (tN v203) dF).getD (tN v204) dF))) v203 v204 v205 v207 v208 v209 v210 v211 v212 v213 v214 v215 v216 v217 v218 v219 v220 v221 v222 v223 v224 v225 v226 (vT.set (tN v205) (some (xr.1,xr.2.1,splice xr.2.2 (0+tN v206*2) (k2 ((a1.2.2.getD (tN v203) dF).getD (tN v204) dF))))) tr1 (by(repeat' apply And.intro)<;>(try simp only [Int.toNat_zero])<;>first | omega | assumption | exact TL.rep | exact wG)
theorem bDu (a0:Int)(a1:(List Int×aY)×(List (Int×Int×Bool))×List (List (Int×Int)))(l1_1_1:a1.1.1.length<=2^63-1)(l1_1_2:a1.1.2.length<=2^63-1)(l1_2_1:a1.2.1.length<=2^63-1)(l1_2_2:a1.2.2.length<=2^63-1)(he:EntOK a0 a1) {cx:Cx} (hcx:cx.base=4)
 (n0:Nat) (g0:aJs a0 a1 cx n0)
 (n1:Nat) (g1:aOj a0 a1 cx n0 n1):∀n:Nat,aTt a0 a1 cx n0 n1 n:=by
 intro n
 induction n with
 | zero=>intro v178 v179 v180 v181 v182 v183 v184 v185 v186 v187 v188 v189 v190 v191 v192 v193 v194 v195 v196 v197 v198 v199 v200 v201 vT tr hi hn;exact absurd hn (fO _)
 | succ n ih =>
  intro v178 v179 v180 v181 v182 v183 v184 v185 v186 v187 v188 v189 v190 v191 v192 v193 v194 v195 v196 v197 v198 v199 v200 v201 vT tr hi hn
  refine GoodT.round ?_
  have hnz:=he.nz (by omega)
  have hsl:(((a1.2.2.getD (tN v179) dF).length:Nat):Int)=bif v193 then 1 else(v184 - v183)*(v195 - v194):=by have q:=hi;repeat (first | exact q.1 | replace q:=q.2)
  try have har:=aMb hi.2.2.1 (by have _:=eH h0;omega)
  have hn1:=he.n1
  have hsp:=he.sp
  have hol:=he.ol
  have htl:=hi.2.1
  have hat:=hi.2.2.1
  have hr1:=he.ord.atD (by omega) (tN v187+tN v190)
  cases h0:(decide ((v190:Int) < v189)) with
  | true =>
   have q0:=dL h0
   try have har:=aMb hi.2.2.1 (by have _:=eH h0;omega)
   have e:=Eq.refl (jE a0 a1 (v178,v179,v180,v181,v182,v183,v184,v185,v186,v187,v188,v189,v190,v191,v192,v193,v194,v195,v196,v197,v198,v199,v200,v201));conv at e=>rhs;simp only [jE,h0,aW]
   rw [aN,e]
   refine gaT [.d h0,.i v190 (tN v188 - tN v187),aPu cZ (a1.1.1) (tN v187) v190 0 1,.z 18] [] [3,5,7,8,10,11,13,15,30,31,32,58,59,60,71,72,73] [4,5,6,7] hcx aG7 (aOe n0 n1 n) (aJq a0 a1 (flat (cO (tN a0)) vT) (vT.length) v179 v180 v181 (a1.1.1.getD ((tN v187)+tN v190) dF) v182 v183 v184 v185 v186 v187 v188 v189 v190 v191 v192 v193 v194 v195 v196 v197 v198 v199 v200 v201) (by kernel_rfl) ⟨by kernel_rfl,by kernel_rfl⟩ ?_
   exact aWr a0 a1 l1_1_1 l1_1_2 l1_2_1 l1_2_2 he hcx n0 g0 n1 g1 n ih v178 v179 v180 v181 (a1.1.1.getD ((tN v187)+tN v190) dF) v182 v183 v184 v185 v186 v187 v188 v189 v190 v191 v192 v193 v194 v195 v196 v197 v198 v199 v200 v201 vT tr (by(repeat' apply And.intro)<;>(try simp only [Int.toNat_zero])<;>first | omega | assumption | exact TL.rep | exact wG)
  | false =>
   have q0:=eH h0
   try have har:=aMb hi.2.2.1 (by have _:=eH h0;omega)
   have e:=Eq.refl (jE a0 a1 (v178,v179,v180,v181,v182,v183,v184,v185,v186,v187,v188,v189,v190,v191,v192,v193,v194,v195,v196,v197,v198,v199,v200,v201));conv at e=>rhs;simp only [jE,h0,aW]
   rw [aN,e]
   refine baT [.d h0] [] [3,5,7,8,10,11,30,31,32,58,59,60] [4,5,6,7] hcx (m:=n1) aTn (aTo n0) (aMd a0 a1 (flat (cO (tN a0)) vT) (vT.length) v179 v180 v182 v183 v184 v185 (W (v186+1)) v191 v192 v193 v194 v195 v196 v197 v198 v199 v200 v201) (by kernel_rfl) ⟨by kernel_rfl,by kernel_rfl⟩ ?_
   have z0:(W (v186+1))=(v186+1):=aH (by omega) (by omega)
   rw [z0]
   exact g1 v178 v179 v180 v182 v183 v184 v185 (v186+1) v191 v192 v193 v194 v195 v196 v197 v198 v199 v200 v201 vT tr (by(repeat' apply And.intro)<;>(try simp only [Int.toNat_zero])<;>first | omega | assumption | exact TL.rep | exact wG) (by(try simp only [Ls]);omega)
theorem bDv (a0:Int)(a1:(List Int×aY)×(List (Int×Int×Bool))×List (List (Int×Int)))(l1_1_1:a1.1.1.length<=2^63-1)(l1_1_2:a1.1.2.length<=2^63-1)(l1_2_1:a1.2.1.length<=2^63-1)(l1_2_2:a1.2.2.length<=2^63-1)(he:EntOK a0 a1) {cx:Cx} (hcx:cx.base=4)
 (n0:Nat) (g0:aJs a0 a1 cx n0):∀n:Nat,aOj a0 a1 cx n0 n:=by
 intro n
 induction n with
 | zero=>intro v159 v160 v161 v162 v163 v164 v165 v166 v167 v168 v169 v170 v171 v172 v173 v174 v175 v176 v177 vT tr hi hn;exact absurd hn (fO _)
 | succ n ih =>
  intro v159 v160 v161 v162 v163 v164 v165 v166 v167 v168 v169 v170 v171 v172 v173 v174 v175 v176 v177 vT tr hi hn
  refine GoodT.round ?_
  have hnz:=he.nz (by omega)
  have hsl:(((a1.2.2.getD (tN v160) dF).length:Nat):Int)=bif v169 then 1 else(v164 - v163)*(v171 - v170):=by have q:=hi;repeat (first | exact q.1 | replace q:=q.2)
  have hn1:=he.n1
  have hsp:=he.sp
  have hol:=he.ol
  have htl:=hi.2.1
  have hat:=hi.2.2.1
  have hr1:=he.ord.atD (by omega) (tN v163+tN v166)
  cases h0:(decide ((v166:Int) < v165)) with
  | true =>
   have q0:=dL h0
   have e:=Eq.refl (iC a0 a1 (v159,v160,v161,v162,v163,v164,v165,v166,v167,v168,v169,v170,v171,v172,v173,v174,v175,v176,v177));conv at e=>rhs;simp only [iC,h0,aW]
   rw [aN,e]
   refine enT [.d h0,.i v166 (tN v164 - tN v163),aPu cZ (a1.1.1) (tN v163) v166 0 1,.sub v170 v171 (a1.1.1.length)] [] [3,5,7,8,10,11,13,30,31,32,58,59,60,71,72,73] [4,5,6,7] hcx aOf (aOg n0 n) (aG8 a0 a1 (flat (cO (tN a0)) vT) (vT.length) v160 v161 (a1.1.1.getD ((tN v163)+tN v166) dF) v162 v163 v164 v165 v166 v170 v171 (((tN v171 - tN v170):Nat):Int) 0 v167 v168 v169 v170 v171 v172 v173 v174 v175 v176 v177) (tN ((((tN v171 - tN v170):Nat):Int) - 0)+1) (by kernel_rfl) ⟨by kernel_rfl,by kernel_rfl⟩ ?_
   exact bDu a0 a1 l1_1_1 l1_1_2 l1_2_1 l1_2_2 he hcx n0 g0 n ih (tN ((((tN v171 - tN v170):Nat):Int) - 0)+1) v159 v160 v161 (a1.1.1.getD ((tN v163)+tN v166) dF) v162 v163 v164 v165 v166 v170 v171 (((tN v171 - tN v170):Nat):Int) 0 v167 v168 v169 v170 v171 v172 v173 v174 v175 v176 v177 vT tr (by(repeat' apply And.intro)<;>(try simp only [Int.toNat_zero])<;>first | omega | assumption | exact TL.rep | exact wG) (by(try simp only [Ls]);omega)
  | false =>
   have q0:=eH h0
   have e:=Eq.refl (iC a0 a1 (v159,v160,v161,v162,v163,v164,v165,v166,v167,v168,v169,v170,v171,v172,v173,v174,v175,v176,v177));conv at e=>rhs;simp only [iC,h0,aW]
   rw [aN,e]
   refine baT [.d h0] [] [3,5,30,31,32] [4,5] hcx (m:=n0) aTp (aTq) (aMe a0 a1 (flat (cO (tN a0)) vT) (vT.length) (W (v162+1))) (by kernel_rfl) ⟨by kernel_rfl,by kernel_rfl⟩ ?_
   have z0:(W (v162+1))=(v162+1):=aH (by omega) (by omega)
   rw [z0]
   exact g0 v159 (v162+1) vT tr (by(repeat' apply And.intro)<;>(try simp only [Int.toNat_zero])<;>first | omega | assumption | exact TL.rep | exact wG) (by(try simp only [Ls]);omega)
theorem aWs (a0:Int)(a1:(List Int×aY)×(List (Int×Int×Bool))×List (List (Int×Int)))(l1_1_1:a1.1.1.length<=2^63-1)(l1_1_2:a1.1.2.length<=2^63-1)(l1_2_1:a1.2.1.length<=2^63-1)(l1_2_2:a1.2.2.length<=2^63-1)(he:EntOK a0 a1) {cx:Cx} (hcx:cx.base=4)(v251:List (List (Int×Int)))(vT:List (Option iV))(tr:TabR eP (tN a0) vT v251):TL (tN a0) v251 (tN a0)->Aw.GoodT Tryz.prog none 9 (bodyPost Tryz.prog Tryz.f43 (RR cx (.s 4 0 (wH a0 a1 v251).length 1) [(.live true true (flat fW (wH a0 a1 v251)))] [])) cx [] (tN a0) 2 vT (.c aOh::aOi) (aJr a0 a1 (flat (cO (tN a0)) vT) (vT.length)):=by
 intro hi
 have e:=Eq.refl (wH a0 a1 v251);conv at e=>rhs;simp only [wH]
 rw [e]
 have hln:=tr.length
 obtain⟨rws,hrw,hfl⟩:=tr.rows' (cT:=fW) (es:=2) (fun _=>rfl) hi.1 (fun i h=>hi.2 i (by have:=hi.1;omega))
 subst hrw
 rw [hln,aN9]
 refine GoodT.freeze (rows:=rws) 4 (by kernel_rfl) ?_
 rw [hfl]
 exact rt [] [] [4] hcx (by kernel_rfl)
theorem bDw (a0:Int)(a1:(List Int×aY)×(List (Int×Int×Bool))×List (List (Int×Int)))(l1_1_1:a1.1.1.length<=2^63-1)(l1_1_2:a1.1.2.length<=2^63-1)(l1_2_1:a1.2.1.length<=2^63-1)(l1_2_2:a1.2.2.length<=2^63-1)(he:EntOK a0 a1) {cx:Cx} (hcx:cx.base=4):∀n:Nat,aJs a0 a1 cx n:=by
 intro n
 induction n with
 | zero=>intro v10 v11 vT tr hi hn;exact absurd hn (fO _)
 | succ n ih =>
  intro v10 v11 vT tr hi hn
  refine GoodT.round ?_
  have hn1:=he.n1
  have hsp:=he.sp
  have hol:=he.ol
  have htl:=hi.2.1
  try have hb:=he.blk v11 hi.1 (dL h0)
  try have hb1:=(fun _=>hb.1) h0
  try have hb2:=(fun _=>hb.2.1) h0
  try have hb3:=(fun _=>hb.2.2.1) h0
  try have hb4:=(fun _=>hb.2.2.2.1) h0
  try have hb5:=(fun _=>hb.2.2.2.2) h0
  cases h0:(decide ((v11:Int) < (a1.2.1.length:Int))) with
  | true =>
   have q0:=dL h0
   try have hb:=he.blk v11 hi.1 (dL h0)
   try have hb1:=(fun _=>hb.1) h0
   try have hb2:=(fun _=>hb.2.1) h0
   try have hb3:=(fun _=>hb.2.2.1) h0
   try have hb4:=(fun _=>hb.2.2.2.1) h0
   try have hb5:=(fun _=>hb.2.2.2.2) h0
   have e:=Eq.refl (gF a0 a1 (v10,v11));conv at e=>rhs;simp only [gF,h0,aW]
   rw [aN,e]
   refine enT [.d h0,.i v11 (a1.2.1.length),.L pL a1.2.1 v11 0 3,.i ((a1.2.1.getD (tN v11) dF).1) (a1.1.2.length),.L dS a1.1.2 (a1.2.1.getD (tN v11) dF).1 0 8,.i ((a1.2.1.getD (tN v11) dF).2.1) (a1.1.2.length),.L dS a1.1.2 (a1.2.1.getD (tN v11) dF).2.1 0 8,.sub ((a1.1.2.getD (tN (a1.2.1.getD (tN v11) dF).1) dF).1) ((a1.1.2.getD (tN (a1.2.1.getD (tN v11) dF).1) dF).2.1) (a1.1.1.length)] [] [3,5,7,8,10,11,30,31,32,58,59,60] [4,5,6,8] hcx aTn (aTo n) (aMd a0 a1 (flat (cO (tN a0)) vT) (vT.length) v11 0 v11 ((a1.1.2.getD (tN (a1.2.1.getD (tN v11) dF).1) dF).1) ((a1.1.2.getD (tN (a1.2.1.getD (tN v11) dF).1) dF).2.1) (((tN ((a1.1.2.getD (tN (a1.2.1.getD (tN v11) dF).1) dF).2.1) - tN ((a1.1.2.getD (tN (a1.2.1.getD (tN v11) dF).1) dF).1)):Nat):Int) 0 ((a1.2.1.getD (tN v11) dF).1) ((a1.2.1.getD (tN v11) dF).2.1) ((a1.2.1.getD (tN v11) dF).2.2) ((a1.1.2.getD (tN (a1.2.1.getD (tN v11) dF).2.1) dF).1) ((a1.1.2.getD (tN (a1.2.1.getD (tN v11) dF).2.1) dF).2.1) ((a1.1.2.getD (tN (a1.2.1.getD (tN v11) dF).2.1) dF).2.2.1) ((a1.1.2.getD (tN (a1.2.1.getD (tN v11) dF).2.1) dF).2.2.2.1) ((a1.1.2.getD (tN (a1.2.1.getD (tN v11) dF).2.1) dF).2.2.2.2.1.1) ((a1.1.2.getD (tN (a1.2.1.getD (tN v11) dF).2.1) dF).2.2.2.2.1.2.1) ((a1.1.2.getD (tN (a1.2.1.getD (tN v11) dF).2.1) dF).2.2.2.2.1.2.2) ((a1.1.2.getD (tN (a1.2.1.getD (tN v11) dF).2.1) dF).2.2.2.2.2)) (tN ((((tN ((a1.1.2.getD (tN (a1.2.1.getD (tN v11) dF).1) dF).2.1) - tN ((a1.1.2.getD (tN (a1.2.1.getD (tN v11) dF).1) dF).1)):Nat):Int) - 0)+1) (by kernel_rfl) ⟨by kernel_rfl,by kernel_rfl⟩ ?_
   exact bDv a0 a1 l1_1_1 l1_1_2 l1_2_1 l1_2_2 he hcx n ih (tN ((((tN ((a1.1.2.getD (tN (a1.2.1.getD (tN v11) dF).1) dF).2.1) - tN ((a1.1.2.getD (tN (a1.2.1.getD (tN v11) dF).1) dF).1)):Nat):Int) - 0)+1) v10 v11 0 v11 ((a1.1.2.getD (tN (a1.2.1.getD (tN v11) dF).1) dF).1) ((a1.1.2.getD (tN (a1.2.1.getD (tN v11) dF).1) dF).2.1) (((tN ((a1.1.2.getD (tN (a1.2.1.getD (tN v11) dF).1) dF).2.1) - tN ((a1.1.2.getD (tN (a1.2.1.getD (tN v11) dF).1) dF).1)):Nat):Int) 0 ((a1.2.1.getD (tN v11) dF).1) ((a1.2.1.getD (tN v11) dF).2.1) ((a1.2.1.getD (tN v11) dF).2.2) ((a1.1.2.getD (tN (a1.2.1.getD (tN v11) dF).2.1) dF).1) ((a1.1.2.getD (tN (a1.2.1.getD (tN v11) dF).2.1) dF).2.1) ((a1.1.2.getD (tN (a1.2.1.getD (tN v11) dF).2.1) dF).2.2.1) ((a1.1.2.getD (tN (a1.2.1.getD (tN v11) dF).2.1) dF).2.2.2.1) ((a1.1.2.getD (tN (a1.2.1.getD (tN v11) dF).2.1) dF).2.2.2.2.1.1) ((a1.1.2.getD (tN (a1.2.1.getD (tN v11) dF).2.1) dF).2.2.2.2.1.2.1) ((a1.1.2.getD (tN (a1.2.1.getD (tN v11) dF).2.1) dF).2.2.2.2.1.2.2) ((a1.1.2.getD (tN (a1.2.1.getD (tN v11) dF).2.1) dF).2.2.2.2.2) vT tr (by(repeat' apply And.intro)<;>(try simp only [Int.toNat_zero])<;>first | omega | assumption | exact TL.rep | exact wG) (by(try simp only [Ls]);omega)
  | false =>
   have q0:=eH h0
   try have hb:=he.blk v11 hi.1 (dL h0)
   try have hb1:=(fun _=>hb.1) h0
   try have hb2:=(fun _=>hb.2.1) h0
   try have hb3:=(fun _=>hb.2.2.1) h0
   try have hb4:=(fun _=>hb.2.2.2.1) h0
   try have hb5:=(fun _=>hb.2.2.2.2) h0
   have e:=Eq.refl (gF a0 a1 (v10,v11));conv at e=>rhs;simp only [gF,h0,aW]
   rw [aN,e]
   refine gaT [.d h0,.z 24] [] [5] [5] hcx aOh (aOi) (aJr a0 a1 (flat (cO (tN a0)) vT) (vT.length)) (by kernel_rfl) ⟨by kernel_rfl,by kernel_rfl⟩ ?_
   exact aWs a0 a1 l1_1_1 l1_1_2 l1_2_1 l1_2_2 he hcx v10 vT tr (by(repeat' apply And.intro)<;>(try simp only [Int.toNat_zero])<;>first | omega | assumption | exact TL.rep | exact wG)
theorem bDx (a0:Int)(a1:(List Int×aY)×(List (Int×Int×Bool))×List (List (Int×Int)))(l1_1_1:a1.1.1.length<=2^63-1)(l1_1_2:a1.1.2.length<=2^63-1)(l1_2_1:a1.2.1.length<=2^63-1)(l1_2_2:a1.2.2.length<=2^63-1)(he:EntOK a0 a1) {cx:Cx} (hcx:cx.base=4):∀n:Nat,aTu a0 a1 cx n:=by
 intro n
 induction n with
 | zero=>intro v1 v2 vT tr hi hn;exact absurd hn (fO _)
 | succ n ih =>
  intro v1 v2 vT tr hi hn
  refine GoodT.round ?_
  have hn1:=he.n1
  have hsp:=he.sp
  have htl:=hi.2.1
  try have htl2:=htl.le (k:=tN a0) (by have _:=eH h0;omega)
  cases h0:(decide ((v2:Int) < (((tN a0):Nat):Int))) with
  | true =>
   have q0:=dL h0
   try have htl2:=htl.le (k:=tN a0) (by have _:=eH h0;omega)
   have e:=Eq.refl (mG a0 a1 (v1,v2));conv at e=>rhs;simp only [mG,h0,aW]
   rw [aN,e]
   refine gaT [.d h0,.z 5] [] [0,3,5,6,19,20] [4,5] hcx aMc (aTm n) (aOb a0 a1 (flat (cO (tN a0)) vT) (vT.length) v2 v2) (by kernel_rfl) ⟨by kernel_rfl,by kernel_rfl⟩ ?_
   exact bAu a0 a1 l1_1_1 l1_1_2 l1_2_1 l1_2_2 he hcx n ih v1 v2 v2 vT tr (by(repeat' apply And.intro)<;>(try simp only [Int.toNat_zero])<;>first | omega | assumption | exact TL.rep | exact wG)
  | false =>
   have q0:=eH h0
   try have htl2:=htl.le (k:=tN a0) (by have _:=eH h0;omega)
   have e:=Eq.refl (mG a0 a1 (v1,v2));conv at e=>rhs;simp only [mG,h0,aW]
   rw [aN,e]
   refine enT [.d h0] [] [3,5,30,31,32] [4,5] hcx aTp (aTq) (aMe a0 a1 (flat (cO (tN a0)) vT) (vT.length) 0) (tN ((a1.2.1.length:Int) - 0)+1) (by kernel_rfl) ⟨by kernel_rfl,by kernel_rfl⟩ ?_
   exact bDw a0 a1 l1_1_1 l1_1_2 l1_2_1 l1_2_2 he hcx (tN ((a1.2.1.length:Int) - 0)+1) v1 0 vT tr (by(repeat' apply And.intro)<;>(try simp only [Int.toNat_zero])<;>first | omega | assumption | exact TL.rep | exact wG) (by(try simp only [Ls]);omega)
def F43 (a0:Int)(a1:(List Int×aY)×(List (Int×Int×Bool))×List (List (Int×Int))):List (List (Int×Int)) :=
 (aA (mG a0 a1) (tN ((((tN a0):Nat):Int) - 0)+1) ((List.replicate (tN a0) []),0))
theorem C43 (a0:Int)(a1:(List Int×aY)×(List (Int×Int×Bool))×List (List (Int×Int)))(l1_1_1:a1.1.1.length<=2^63-1)(l1_1_2:a1.1.2.length<=2^63-1)(l1_2_1:a1.2.1.length<=2^63-1)(l1_2_2:a1.2.2.length<=2^63-1)(he:EntOK a0 a1):Con Tryz.prog 43 [(iv a0),(.a [(.s 0 0 a1.1.1.length 1),(.s 1 0 a1.1.2.length 8),(.s 2 0 a1.2.1.length 3),(.s 3 0 a1.2.2.length 1)])] [(.live false true (flat c3 a1.1.1)),(.live false true (flat dM a1.1.2)),(.live false true (flat iT a1.2.1)),(.live false true (flat fW a1.2.2))] (.s 4 0 (F43 a0 a1).length 1) [(.live true true (flat fW (F43 a0 a1)))]:=by
 refine aU Tryz.func43 (by kernel_rfl) fun cx hcx=>?_
 have hn1:=he.n1
 have hsp:=he.sp
 have e:=Eq.refl (F43 a0 a1);conv at e=>rhs;simp only [F43]
 rw [e]
 refine en [.Z (cO (tN a0)) none [(.v (.slice none 0 0))] a0 24] [] [0,3,5,19,20] [4,5] hcx aTr (aTs) (aMf a0 a1 (flat (cO (tN a0)) (List.replicate (tN a0) none)) (tN a0) 0) (tN ((((tN a0):Nat):Int) - 0)+1) (by kernel_rfl) ?_
 refine GoodT.none (nn:=(tN a0)) (es:=2) (rows:=List.replicate (tN a0) none) aTj ?_
 have q:=bDx a0 a1 l1_1_1 l1_1_2 l1_2_1 l1_2_2 he hcx (tN ((((tN a0):Nat):Int) - 0)+1) (List.replicate (tN a0) []) 0 (List.replicate (tN a0) none) (TabR.rep _) (by(repeat' apply And.intro)<;>(try simp only [Int.toNat_zero])<;>first | omega | assumption | exact TL.rep | exact wG) (by(try simp only [Ls]);omega)
 simp only [List.length_replicate] at q
 exact q
end Go.Proofs.YtlckcjfbjnjfhaaGreat
namespace Go.Proofs.YtlckcjfbjnjfhaaGreat
open Go.Proofs Go.Aw Go.RowKit
set_option maxRecDepth 100000
def aJt (a0:bE)(a1:(List Int×aY)×(List (Int×Int×Bool))×List (List (Int×Int))):(List (List (Int×Int)))×Int->((List (List (Int×Int)))×Int)⊕(List (List (Int×Int)))
 | (v8,v9) =>
  (.inl (v8,(v9+1)))
def aJu (a0:bE)(a1:(List Int×aY)×(List (Int×Int×Bool))×List (List (Int×Int))):(List (List (Int×Int)))×Int->((List (List (Int×Int)))×Int)⊕(List (List (Int×Int)))
 | (v6,v7) =>
  (aJt a0 a1 ((v6++[List.replicate a0.length (0,0)]),v7))
def aE5 (a0:bE)(a1:(List Int×aY)×(List (Int×Int×Bool))×List (List (Int×Int))):(List (List (Int×Int)))×Int×Int×Int×Int×Int×Int×Int×Int×Int×Int×Int×Int×Int×Int×Int×Int×Int×Zt->((List (List (Int×Int)))×Int×Int×Int×Int×Int×Int×Int×Int×Int×Int×Int×Int×Int×Int×Int×Int×Int×Zt)⊕(((List (List (Int×Int)))×Int×Int×Int×Int×Int×Int×Int×Int×Int×Int×Int×Int×Int×Int×Int×Int×Zt)⊕(((List (List (Int×Int)))×Int)⊕(List (List (Int×Int)))))
 | (v176,v177,v178,v179,v180,v181,v182,v183,v184,v185,v186,v187,v188,v189,v190,v191,v192,v193,v194,v195,v196) =>
  (bif (!(a1.2.1.getD (tN v177) dF).2.2) then
   (.inl (v176,v177,(W (v178+1)),v179,(v180+1),v181,v182,v183,v184,v185,v186,v187,v188,v189,v190,v191,v192,v193,v194,v195,v196))
  else
   (.inl (v176,v177,v178,v179,(v180+1),v181,v182,v183,v184,v185,v186,v187,v188,v189,v190,v191,v192,v193,v194,v195,v196)))
def aE6 (a0:bE)(a1:(List Int×aY)×(List (Int×Int×Bool))×List (List (Int×Int))):(List (List (Int×Int)))×Int×Int×Int×Int×Int×Int×Int×Int×Int×Int×Int×Int×Int×Int×Int×Int×Int×Zt->((List (List (Int×Int)))×Int×Int×Int×Int×Int×Int×Int×Int×Int×Int×Int×Int×Int×Int×Int×Int×Int×Zt)⊕(((List (List (Int×Int)))×Int×Int×Int×Int×Int×Int×Int×Int×Int×Int×Int×Int×Int×Int×Int×Int×Zt)⊕(((List (List (Int×Int)))×Int)⊕(List (List (Int×Int)))))
 | (v155,v156,v157,v158,v159,v160,v161,v162,v163,v164,v165,v166,v167,v168,v169,v170,v171,v172,v173,v174,v175) =>
  (aE5 a0 a1 ((v155.set (tN (a1.1.1.getD (tN v158) dF)) ((v155.getD (tN (a1.1.1.getD (tN v158) dF)) []).set (tN (a1.1.1.getD (tN v159) dF)) ((a1.2.2.getD (tN v156) dF).getD (tN v157) dF))),v156,v157,v158,v159,v160,v161,v162,v163,v164,v165,v166,v167,v168,v169,v170,v171,v172,v173,v174,v175))
def wI (a0:bE)(a1:(List Int×aY)×(List (Int×Int×Bool))×List (List (Int×Int))):(List (List (Int×Int)))×Int×Int×Int×Int×Int×Int×Int×Int×Int×Int×Int×Int×Int×Int×Int×Int×Int×Zt->((List (List (Int×Int)))×Int×Int×Int×Int×Int×Int×Int×Int×Int×Int×Int×Int×Int×Int×Int×Int×Int×Zt)⊕(((List (List (Int×Int)))×Int×Int×Int×Int×Int×Int×Int×Int×Int×Int×Int×Int×Int×Int×Int×Int×Zt)⊕(((List (List (Int×Int)))×Int)⊕(List (List (Int×Int)))))
 | (v134,v135,v136,v137,v138,v139,v140,v141,v142,v143,v144,v145,v146,v147,v148,v149,v150,v151,v152,v153,v154) =>
  (bif (decide ((v138:Int) < v148)) then
   (aE6 a0 a1 (v134,v135,v136,v137,v138,v139,v140,v141,v142,v143,v144,v145,v146,v147,v148,v149,v150,v151,v152,v153,v154))
  else
   (.inr (.inl (v134,v135,v136,(v137+1),v139,v140,v141,v142,v143,v144,v145,v146,v147,v148,v149,v150,v151,v152,v153,v154))))
def wJ (a0:bE)(a1:(List Int×aY)×(List (Int×Int×Bool))×List (List (Int×Int))):(List (List (Int×Int)))×Int×Int×Int×Int×Int×Int×Int×Int×Int×Int×Int×Int×Int×Int×Int×Int×Zt->((List (List (Int×Int)))×Int×Int×Int×Int×Int×Int×Int×Int×Int×Int×Int×Int×Int×Int×Int×Int×Zt)⊕(((List (List (Int×Int)))×Int)⊕(List (List (Int×Int))))
 | (v114,v115,v116,v117,v118,v119,v120,v121,v122,v123,v124,v125,v126,v127,v128,v129,v130,v131,v132,v133) =>
  (bif (decide ((v117:Int) < v119)) then
   (aA (wI a0 a1) (tN (v127 - v126)+1) (v114,v115,v116,v117,v126,v118,v119,v120,v121,v122,v123,v124,v125,v126,v127,v128,v129,v130,v131,v132,v133))
  else
   (.inr (.inl (v114,(v115+1)))))
def aP7 (a0:bE)(a1:(List Int×aY)×(List (Int×Int×Bool))×List (List (Int×Int))):List (List (Int×Int))->List (List (Int×Int))
 | v197 =>
  v197
def sI (a0:bE)(a1:(List Int×aY)×(List (Int×Int×Bool))×List (List (Int×Int))):(List (List (Int×Int)))×Int->((List (List (Int×Int)))×Int)⊕(List (List (Int×Int)))
 | (v12,v13) =>
  (bif (decide ((v13:Int) < (a1.2.1.length:Int))) then
   (aA (wJ a0 a1) (tN ((a1.1.2.getD (tN (a1.2.1.getD (tN v13) dF).1) dF).2.1 - (a1.1.2.getD (tN (a1.2.1.getD (tN v13) dF).1) dF).1)+1) (v12,v13,0,(a1.1.2.getD (tN (a1.2.1.getD (tN v13) dF).1) dF).1,(a1.1.2.getD (tN (a1.2.1.getD (tN v13) dF).1) dF).1,(a1.1.2.getD (tN (a1.2.1.getD (tN v13) dF).1) dF).2.1,(a1.1.2.getD (tN (a1.2.1.getD (tN v13) dF).1) dF).2.2.1,(a1.1.2.getD (tN (a1.2.1.getD (tN v13) dF).1) dF).2.2.2.1,(a1.1.2.getD (tN (a1.2.1.getD (tN v13) dF).1) dF).2.2.2.2.1.1,(a1.1.2.getD (tN (a1.2.1.getD (tN v13) dF).1) dF).2.2.2.2.1.2.1,(a1.1.2.getD (tN (a1.2.1.getD (tN v13) dF).1) dF).2.2.2.2.1.2.2,(a1.1.2.getD (tN (a1.2.1.getD (tN v13) dF).1) dF).2.2.2.2.2,(a1.1.2.getD (tN (a1.2.1.getD (tN v13) dF).2.1) dF).1,(a1.1.2.getD (tN (a1.2.1.getD (tN v13) dF).2.1) dF).2.1,(a1.1.2.getD (tN (a1.2.1.getD (tN v13) dF).2.1) dF).2.2.1,(a1.1.2.getD (tN (a1.2.1.getD (tN v13) dF).2.1) dF).2.2.2.1,(a1.1.2.getD (tN (a1.2.1.getD (tN v13) dF).2.1) dF).2.2.2.2.1.1,(a1.1.2.getD (tN (a1.2.1.getD (tN v13) dF).2.1) dF).2.2.2.2.1.2.1,(a1.1.2.getD (tN (a1.2.1.getD (tN v13) dF).2.1) dF).2.2.2.2.1.2.2,(a1.1.2.getD (tN (a1.2.1.getD (tN v13) dF).2.1) dF).2.2.2.2.2))
  else
   (.inr (aP7 a0 a1 v12)))
def wK (a0:bE)(a1:(List Int×aY)×(List (Int×Int×Bool))×List (List (Int×Int))):(List (List (Int×Int)))×Int->((List (List (Int×Int)))×Int)⊕(List (List (Int×Int)))
 | (v4,v5) =>
  (bif (decide ((v5:Int) < (a0.length:Int))) then
   (aJu a0 a1 (v4,v5))
  else
   (.inr (aA (sI a0 a1) (tN ((a1.2.1.length:Int) - 0)+1) (v4,0))))
def aE7 (a0:bE)(a1:(List Int×aY)×(List (Int×Int×Bool))×List (List (Int×Int))):List (List (Int×Int)) :=
 (aA (wK a0 a1) (tN ((a0.length:Int) - 0)+1) (([]:List (List (Int×Int))),0))
noncomputable def yP:Code:=(aO [1,1,0,1] [] (aI Tryz.f72) []).1
noncomputable def yQ:List K:=(aO [1,1,0,1] [] (aI Tryz.f72) []).2
def uU (a0:List (Int×Int×Bool))(a1:List (Int×Int×Bool))(v1:Int):LS:=⟨jH 26 [(0,(.s 0 0 a0.length 3)),(1,(.s 1 0 a1.length 3)),(12,(iv (a0.length:Int))),(13,(iv v1))],[(.live false true (flat iT a0)),(.live false true (flat iT a1))]⟩
def iQ (a0:List (Int×Int×Bool))(a1:List (Int×Int×Bool)):Int->(Int)⊕(Bool)
 | v1 =>
  (bif (decide ((v1:Int) < (a0.length:Int))) then
   (bif (!((((a0.getD (tN v1) dF).1:Int) == (a1.getD (tN v1) dF).1)&&((((a0.getD (tN v1) dF).2.1:Int) == (a1.getD (tN v1) dF).2.1)&&(((a0.getD (tN v1) dF).2.2 == (a1.getD (tN v1) dF).2.2)&&true)))) then
    (.inr false)
   else
    (.inl (v1+1)))
  else
   (.inr true))
theorem aP8 (a0:List (Int×Int×Bool))(a1:List (Int×Int×Bool))(l0:a0.length<=2^63-1)(l1:a1.length<=2^63-1) {cx:Cx} (hcx:cx.base=2):∀(n:Nat) (v1:Int),(0<=v1)/\(a0.length=a1.length)->tN ((a0.length:Int) - v1) < n->Aw.Good Tryz.prog none 9 (bodyPost Tryz.prog Tryz.f72 (RR cx (.v (.bool (aA (iQ a0 a1) n v1))) [] [])) cx [] (.l yP n::yQ) (uU a0 a1 v1):=by
 intro n
 induction n with
 | zero=>intro v1 hi hn;exact absurd hn (fO _)
 | succ n ih =>
  intro v1 hi hn
  refine aT ?_
  cases h0:(decide ((v1:Int) < (a0.length:Int))) with
  | true =>
   have q0:=dL h0
   let t1:List (St Tryz.prog):=[.d h0,.i v1 (a0.length),.L pL a0 v1 0 3,.i v1 (a1.length),.L pL a1 v1 0 3]
   cases h1:(!((((a0.getD (tN v1) dF).1:Int) == (a1.getD (tN v1) dF).1)&&((((a0.getD (tN v1) dF).2.1:Int) == (a1.getD (tN v1) dF).2.1)&&(((a0.getD (tN v1) dF).2.2 == (a1.getD (tN v1) dF).2.2)&&true)))) with
   | true =>
    have e:=Eq.refl (iQ a0 a1 v1);conv at e=>rhs;simp only [iQ,h0,h1,aW]
    rw [aN,e]
    exact rt (t1++[.d h1]) [] [] hcx (by kernel_rfl)
   | false =>
    have e:=Eq.refl (iQ a0 a1 v1);conv at e=>rhs;simp only [iQ,h0,h1,aW]
    rw [aB e]
    refine ba (t1++[.d h1]) [] [0,1,12,13] [] hcx (m:=n) yP (yQ) (uU a0 a1 (W (v1+1))) (by kernel_rfl) ?_
    have z0:(W (v1+1))=(v1+1):=aH (by omega) (by omega)
    rw [z0]
    exact ih (v1+1) (by refine⟨?_,?_⟩<;>(try simp only [Ls])<;>first | omega | assumption | simp) (by(try simp only [Ls]);omega)
  | false =>
   have q0:=eH h0
   have e:=Eq.refl (iQ a0 a1 v1);conv at e=>rhs;simp only [iQ,h0,aW]
   rw [aN,e]
   exact rt [.d h0] [] [] hcx (by kernel_rfl)
def kB (a0:List (Int×Int×Bool))(a1:List (Int×Int×Bool)):Bool :=
 (bif (((a0.length:Int):Int) != (a1.length:Int)) then
  false
 else
  (aA (iQ a0 a1) (tN ((a0.length:Int) - 0)+1) 0))
theorem aWt (a0:List (Int×Int×Bool))(a1:List (Int×Int×Bool))(l0:a0.length<=2^63-1)(l1:a1.length<=2^63-1):Con Tryz.prog 72 [(.s 0 0 a0.length 3),(.s 1 0 a1.length 3)] [(.live false true (flat iT a0)),(.live false true (flat iT a1))] (.v (.bool (kB a0 a1))) []:=by
 refine aU Tryz.func72 (by kernel_rfl) fun cx hcx=>?_
 cases h0:(((a0.length:Int):Int) != (a1.length:Int)) with
 | true =>
  have q0:=bne_iff_ne.1 h0
  have e:=Eq.refl (kB a0 a1);conv at e=>rhs;simp only [kB,h0,aW]
  rw [e]
  exact rt [.d h0] [] [] hcx (by kernel_rfl)
 | false =>
  have q0:=bne_eq_false_iff_eq.1 h0
  have e:=Eq.refl (kB a0 a1);conv at e=>rhs;simp only [kB,h0,aW]
  rw [e]
  refine en [.d h0] [] [0,1,12,13] [] hcx yP (yQ) (uU a0 a1 0) (tN ((a0.length:Int) - 0)+1) (by kernel_rfl) ?_
  exact aP8 a0 a1 l0 l1 hcx (tN ((a0.length:Int) - 0)+1) 0 (by refine⟨?_,?_⟩<;>(try simp only [Ls])<;>first | omega | assumption | simp) (by(try simp only [Ls]);omega)
def F73 (a0:List Int×aY)(a1:Int×Int×Bool):Int :=
 (bif a1.2.2 then
  1
 else
  (W ((W ((a0.2.getD (tN a1.1) dF).2.1 - (a0.2.getD (tN a1.1) dF).1))*(W ((a0.2.getD (tN a1.2.1) dF).2.1 - (a0.2.getD (tN a1.2.1) dF).1)))))
theorem C73 (a0:List Int×aY)(a1:Int×Int×Bool)(l0_1:a0.1.length<=2^63-1)(l0_2:a0.2.length<=2^63-1)(hb:(0<=a1.1/\a1.1 < a0.2.length)/\(0<=a1.2.1/\a1.2.1 < a0.2.length)):Con Tryz.prog 73 [(.a [(.s 0 0 a0.1.length 1),(.s 1 0 a0.2.length 8)]),(.a [(iv a1.1),(iv a1.2.1),(.v (.bool a1.2.2))])] [(.live false true (flat c3 a0.1)),(.live false true (flat dM a0.2))] (iv (F73 a0 a1)) []:=by
 refine aU Tryz.func73 (by kernel_rfl) fun cx hcx=>?_
 rcases aFv a1.2.2 with h0 | h0
 ·skip
  have e:=Eq.refl (F73 a0 a1);conv at e=>rhs;simp only [F73,h0,aW]
  rw [e]
  exact rt [.d h0] [] [] hcx (by kernel_rfl)
 ·skip
  have e:=Eq.refl (F73 a0 a1);conv at e=>rhs;simp only [F73,h0,aW]
  rw [e]
  exact rt [.d h0,.i (a1.1) (a0.2.length),.L dS a0.2 a1.1 0 8,.i (a1.2.1) (a0.2.length),.L dS a0.2 a1.2.1 0 8] [] [] hcx (by kernel_rfl)
def F93 (a0:List Int×aY)(a1:Int×Int×Bool):Int :=
 (bif a1.2.2 then
  1
 else
  (W ((W ((a0.2.getD (tN a1.1) dF).2.1 - (a0.2.getD (tN a1.1) dF).1))*(W ((a0.2.getD (tN a1.2.1) dF).2.1 - (a0.2.getD (tN a1.2.1) dF).1)))))
def F75 (a0:Int×Int):Bool :=
 (!(wU a0))
theorem C75 (a0:Int×Int):Con Tryz.prog 75 [(.a [(iv a0.1),(iv a0.2)])] [] (.v (.bool (F75 a0))) []:=by
 refine aU Tryz.func75 (by kernel_rfl) fun cx hcx=>?_
 have e:=Eq.refl (F75 a0);conv at e=>rhs;simp only [F75]
 rw [e]
 exact rt [.c [] (C76 a0)] [] [] hcx (by kernel_rfl)
noncomputable def pP:Code:=(aO [1,0,1] [] (aI Tryz.f112) []).1
noncomputable def pQ:List K:=(aO [1,0,1] [] (aI Tryz.f112) []).2
def nU (a0:List (Int×Int))(v1:Int):LS:=⟨jH 19 [(0,(.s 0 0 a0.length 2)),(1,(.v (.func (.func 75) #[] #[]))),(7,(iv (a0.length:Int))),(8,(iv v1))],[(.live false true (flat eP a0))]⟩
def cS (a0:List (Int×Int)):Int->(Int)⊕(Int)
 | v1 =>
  (bif (decide ((v1:Int) < (a0.length:Int))) then
   (bif (F75 (a0.getD (tN v1) dF)) then
    (.inr v1)
   else
    (.inl (v1+1)))
  else
   (.inr (-1)))
theorem aG9 (a0:List (Int×Int))(l0:a0.length<=2^63-1) {cx:Cx} (hcx:cx.base=1):∀(n:Nat) (v1:Int),0<=v1->tN ((a0.length:Int) - v1) < n->Aw.Good Tryz.prog none 9 (bodyPost Tryz.prog Tryz.f112 (RR cx (iv (aA (cS a0) n v1)) [] [])) cx [] (.l pP n::pQ) (nU a0 v1):=by
 intro n
 induction n with
 | zero=>intro v1 hi hn;exact absurd hn (fO _)
 | succ n ih =>
  intro v1 hi hn
  refine aT ?_
  cases h0:(decide ((v1:Int) < (a0.length:Int))) with
  | true =>
   have q0:=dL h0
   let t1:List (St Tryz.prog):=[.d h0,.i v1 (a0.length),.L dZ a0 v1 0 2,.c [] (C75 (a0.getD (tN v1) dF))]
   cases h1:(F75 (a0.getD (tN v1) dF)) with
   | true =>
    have e:=Eq.refl (cS a0 v1);conv at e=>rhs;simp only [cS,h0,h1,aW]
    rw [aN,e]
    exact rt (t1++[.d h1]) [] [] hcx (by kernel_rfl)
   | false =>
    have e:=Eq.refl (cS a0 v1);conv at e=>rhs;simp only [cS,h0,h1,aW]
    rw [aB e]
    refine ba (t1++[.d h1]) [] [0,1,7,8] [] hcx (m:=n) pP (pQ) (nU a0 (W (v1+1))) (by kernel_rfl) ?_
    have z0:(W (v1+1))=(v1+1):=aH (by omega) (by omega)
    rw [z0]
    exact ih (v1+1) (by(try simp only [Ls]);omega) (by(try simp only [Ls]);omega)
  | false =>
   have q0:=eH h0
   have e:=Eq.refl (cS a0 v1);conv at e=>rhs;simp only [cS,h0,aW]
   rw [aN,e]
   exact rt [.d h0] [] [] hcx (by kernel_rfl)
def pR (a0:List (Int×Int)):Int :=
 (aA (cS a0) (tN ((a0.length:Int) - 0)+1) 0)
theorem aMg (a0:List (Int×Int))(l0:a0.length<=2^63-1):Con Tryz.prog 112 [(.s 0 0 a0.length 2),(.v (.func (.func 75) #[] #[]))] [(.live false true (flat eP a0))] (iv (pR a0)) []:=by
 refine aU Tryz.func112 (by kernel_rfl) fun cx hcx=>?_
 have e:=Eq.refl (pR a0);conv at e=>rhs;simp only [pR]
 rw [e]
 refine en [] [] [0,1,7,8] [] hcx pP (pQ) (nU a0 0) (tN ((a0.length:Int) - 0)+1) (by kernel_rfl) ?_
 exact aG9 a0 l0 hcx (tN ((a0.length:Int) - 0)+1) 0 (by(try simp only [Ls]);omega) (by(try simp only [Ls]);omega)
def oN (a0:List (Int×Int)):Bool :=
 (decide (((pR a0):Int)≥0))
theorem aP9 (a0:List (Int×Int))(l0:a0.length<=2^63-1):Con Tryz.prog 74 [(.s 0 0 a0.length 2),(.v (.func (.func 75) #[] #[]))] [(.live false true (flat eP a0))] (.v (.bool (oN a0))) []:=by
 refine aU Tryz.func74 (by kernel_rfl) fun cx hcx=>?_
 have e:=Eq.refl (oN a0);conv at e=>rhs;simp only [oN]
 rw [e]
 exact rt [.c [0] (aMg a0 (by omega))] [] [] hcx (by kernel_rfl)
noncomputable def aTv:Code:=(aO [1,1,0,1] [] (aI Tryz.f14) []).1
noncomputable def aTw:List K:=(aO [1,1,0,1] [] (aI Tryz.f14) []).2
def aMh (a0:(List Int×aY)×(List (Int×Int×Bool))×List (List (Int×Int)))(v1 v2:Int):LS:=⟨jH 19 [(3,(iv v1)),(7,(.s 3 0 a0.2.2.length 1)),(8,(iv (a0.2.2.length:Int))),(9,(iv v2))],[(.live false true (flat c3 a0.1.1)),(.live false true (flat dM a0.1.2)),(.live false true (flat iT a0.2.1)),(.live false true (flat fW a0.2.2))]⟩
def rK (a0:(List Int×aY)×(List (Int×Int×Bool))×List (List (Int×Int))):Int×Int->(Int×Int)⊕(Int)
 | (v1,v2) =>
  (bif (decide ((v2:Int) < (a0.2.2.length:Int))) then
   (.inl ((W (v1+(((a0.2.2.getD (tN v2) dF).length:Nat):Int))),(v2+1)))
  else
   (.inr v1))
theorem bDy (a0:(List Int×aY)×(List (Int×Int×Bool))×List (List (Int×Int)))(l0_1_1:a0.1.1.length<=2^63-1)(l0_1_2:a0.1.2.length<=2^63-1)(l0_2_1:a0.2.1.length<=2^63-1)(l0_2_2:a0.2.2.length<=2^63-1) {cx:Cx} (hcx:cx.base=4):∀(n:Nat) (v1 v2:Int),0<=v2->tN ((a0.2.2.length:Int) - v2) < n->Aw.Good Tryz.prog none 9 (bodyPost Tryz.prog Tryz.f14 (RR cx (iv (aA (rK a0) n (v1,v2))) [] [])) cx [] (.l aTv n::aTw) (aMh a0 v1 v2):=by
 intro n
 induction n with
 | zero=>intro v1 v2 hi hn;exact absurd hn (fO _)
 | succ n ih =>
  intro v1 v2 hi hn
  refine aT ?_
  cases h0:(decide ((v2:Int) < (a0.2.2.length:Int))) with
  | true =>
   have q0:=dL h0
   have e:=Eq.refl (rK a0 (v1,v2));conv at e=>rhs;simp only [rK,h0,aW]
   rw [aB e]
   refine ba [.d h0,.i v2 (a0.2.2.length),.L nC a0.2.2 v2 0 1,.p (mT (c:=eP) (fun _=>rfl) (a0.2.2.getD (tN v2) dF))] [] [3,7,8,9] [] hcx (m:=n) aTv (aTw) (aMh a0 (W (v1+(((a0.2.2.getD (tN v2) dF).length:Nat):Int))) (W (v2+1))) (by kernel_rfl) ?_
   have z0:(W (v2+1))=(v2+1):=aH (by omega) (by omega)
   rw [z0]
   exact ih (W (v1+(((a0.2.2.getD (tN v2) dF).length:Nat):Int))) (v2+1) (by(try simp only [Ls]);omega) (by(try simp only [Ls]);omega)
  | false =>
   have q0:=eH h0
   have e:=Eq.refl (rK a0 (v1,v2));conv at e=>rhs;simp only [rK,h0,aW]
   rw [aN,e]
   exact rt [.d h0] [] [] hcx (by kernel_rfl)
def F14 (a0:(List Int×aY)×(List (Int×Int×Bool))×List (List (Int×Int))):Int :=
 (aA (rK a0) (tN ((a0.2.2.length:Int) - 0)+1) (0,0))
theorem C14 (a0:(List Int×aY)×(List (Int×Int×Bool))×List (List (Int×Int)))(l0_1_1:a0.1.1.length<=2^63-1)(l0_1_2:a0.1.2.length<=2^63-1)(l0_2_1:a0.2.1.length<=2^63-1)(l0_2_2:a0.2.2.length<=2^63-1):Con Tryz.prog 14 [(.a [(.s 0 0 a0.1.1.length 1),(.s 1 0 a0.1.2.length 8),(.s 2 0 a0.2.1.length 3),(.s 3 0 a0.2.2.length 1)])] [(.live false true (flat c3 a0.1.1)),(.live false true (flat dM a0.1.2)),(.live false true (flat iT a0.2.1)),(.live false true (flat fW a0.2.2))] (iv (F14 a0)) []:=by
 refine aU Tryz.func14 (by kernel_rfl) fun cx hcx=>?_
 have e:=Eq.refl (F14 a0);conv at e=>rhs;simp only [F14]
 rw [e]
 refine en [] [] [3,7,8,9] [] hcx aTv (aTw) (aMh a0 0 0) (tN ((a0.2.2.length:Int) - 0)+1) (by kernel_rfl) ?_
 exact bDy a0 l0_1_1 l0_1_2 l0_2_1 l0_2_2 hcx (tN ((a0.2.2.length:Int) - 0)+1) 0 0 (by(try simp only [Ls]);omega) (by(try simp only [Ls]);omega)
theorem aOk (a b:List BLK):kB a b=nA a b:=rfl
theorem aTx {a b:List BLK} (h:nA a b=true):a=b:=by
 unfold nA at h
 by_cases hl:a.length=b.length
 ·rw [show(((a.length:Int):Int) != (b.length:Int))=false by rw [hl];simp,cond_false] at h
  refine aC7 hl (aAy (N:=a.length) (p:=fun j=>a.getD j dF=b.getD j dF) (fun i hi=>?_) a.length 0 _ (by omega) (by omega) (by omega) h · (Nat.zero_le _) ·)
  simp only [oJ,eX]
  rw [bG (show((i:Nat):Int) < (a.length:Nat) by omega),cond_true]
  generalize a.getD i dF=x
  generalize b.getD i dF=y
  obtain⟨x1,x2,x3⟩:=x
  obtain⟨y1,y2,y3⟩:=y
  dsimp only
  rw [Bool.cond_eq_ite]
  split
  ·exact .inr rfl
  ·rename_i hq
   refine .inl ⟨rfl,?_⟩
   simp at hq ⊢
   exact⟨hq.1,hq.2.1,hq.2.2⟩
 ·rw [show(((a.length:Int):Int) != (b.length:Int))=true by rw [bne_iff_ne];omega,cond_true] at h
  cases h
def FND (o:lI)(b:Bool):Prop:=b=true->∃sep:Int,o.2.1=F85 o.1 sep
theorem aE8 {o:lI}:FND o false:=fun h=>by cases h
theorem aE9 {o:lI} {sep:Int}:FND o (nA o.2.1 (F85 (o.1.1,o.1.2) sep)):=fun h=>⟨sep,aTx h⟩
theorem aJv {l:bR} {o:lI} (hc:eG l (o.1.1,o.1.2)=0) {sep:Int}:FND o (kB o.2.1 (bN (o.1.1,o.1.2) sep)):=fun h=>⟨sep,by
 rw [aOk] at h
 have e:=aTx h
 rw [jC (t:=(o.1.1,o.1.2)) sep hc] at e
 exact e⟩
theorem aWu {b:Bool} (h:(!b)=false):b=true:=by cases b;cases h;rfl
structure ACQ (l:bR) (o:lI):Prop where
 chk:eG l (o.1.1,o.1.2)=0
 blk:∃sep:Int,o.2.1=F85 o.1 sep
 len:o.2.2.length=o.2.1.length
theorem yR {l:bR} {o:lI} {b:Bool} (hc:eG l (o.1.1,o.1.2)=0)(hf:FND o b)(hb:(!b)=false)(hl:(((o.2.2.length:Int):Int) != (o.2.1.length:Int))=false):ACQ l o :=
 ⟨hc,hf (aWu hb),by have:=bne_eq_false_iff_eq.1 hl;omega⟩
theorem ACQ.dims {l:bR} {o:lI} (h:ACQ l o):o.1.1.length=l.length/\l.length<=96/\o.1.2.length<=192/\InR l.length o.1.1/\o.2.1.length<=9216:=by
 have hc:=h.chk
 obtain⟨k1,k2,k3,k4⟩:=sE hc
 have ho:=aJf hc
 refine⟨k1,k2,k3,fun x hx=>?_,?_⟩
 ·obtain⟨j,hj,rfl⟩:=List.mem_iff_getElem.1 hx
  have:=ho (j:Int) (by omega)
  rwa [eX,cV,List.getElem?_eq_getElem hj,Option.getD_some] at this
 ·obtain⟨sep,e⟩:=h.blk
  rw [e];exact(nB sep hc).2.2
theorem ACQ.bf {l:bR} {o:lI} (h:ACQ l o) {j:Int} (h0:0<=j)(h1:j < (o.2.1.length:Int)) :
 (0<=(o.2.1.getD (tN j) dF).1/\(o.2.1.getD (tN j) dF).1 < o.1.2.length) /\
 (0<=(o.2.1.getD (tN j) dF).2.1/\(o.2.1.getD (tN j) dF).2.1 < o.1.2.length) /\
 (0<=(o.1.2.getD (tN (o.2.1.getD (tN j) dF).1) dF).1/\(o.1.2.getD (tN (o.2.1.getD (tN j) dF).1) dF).1<=(o.1.2.getD (tN (o.2.1.getD (tN j) dF).1) dF).2.1/\(o.1.2.getD (tN (o.2.1.getD (tN j) dF).1) dF).2.1<=o.1.1.length) /\
 (0<=(o.1.2.getD (tN (o.2.1.getD (tN j) dF).2.1) dF).1/\(o.1.2.getD (tN (o.2.1.getD (tN j) dF).2.1) dF).1<=(o.1.2.getD (tN (o.2.1.getD (tN j) dF).2.1) dF).2.1/\(o.1.2.getD (tN (o.2.1.getD (tN j) dF).2.1) dF).2.1<=o.1.1.length):=by
 have hc:=h.chk
 obtain⟨k1,k2,k3,k4⟩:=sE hc
 obtain⟨sep,e0⟩:=h.blk
 have hb:=(nB sep hc).2.1
 change ∀x∈F85 o.1 sep,_ at hb
 rw [←e0] at hb
 have hlt:tN j < o.2.1.length:=by omega
 have hx:=hb _ (List.getElem_mem hlt)
 have e:o.2.1.getD (tN j) dF=o.2.1[tN j]:=by
  rw [cV,List.getElem?_eq_getElem hlt];rfl
 rw [e]
 generalize o.2.1[tN j]=b at *
 obtain⟨⟨a1,a2⟩,⟨b1,b2⟩⟩:=hx
 have n1:=k4.2.2 (tN b.1) (by simp only at a2 ⊢;omega)
 have n2:=k4.2.2 (tN b.2.1) (by simp only at b2 ⊢;omega)
 exact⟨⟨a1,a2⟩,⟨b1,b2⟩,⟨n1.1,by omega,n1.2.2⟩,⟨n2.1,by omega,n2.2.2⟩⟩
noncomputable def aA3:Code:=(aO [1,1,1,1,1,0,1] [] (aI Tryz.f41) []).1
noncomputable def aA4:List K:=(aO [1,1,1,1,1,0,1] [] (aI Tryz.f41) []).2
def wL (a0:bE)(a1:(List Int×aY)×(List (Int×Int×Bool))×List (List (Int×Int)))(v3:Int):LS:=⟨jH 71 [(3,(.p 5 0)),(44,(.s 3 0 a1.2.1.length 3)),(45,(iv (a1.2.1.length:Int))),(46,(iv v3))],[(.live false true (flat fK a0)),(.live false true (flat c3 a1.1.1)),(.live false true (flat dM a1.1.2)),(.live false true (flat iT a1.2.1)),(.live false true (flat fW a1.2.2)),(.live true false [(.s 1 0 a1.1.1.length 1),(.s 2 0 a1.1.2.length 8),(.s 3 0 a1.2.1.length 3),(.s 4 0 a1.2.2.length 1)])]⟩
def gW (a0:bE)(a1:(List Int×aY)×(List (Int×Int×Bool))×List (List (Int×Int))):Int->(Int)⊕(Int)
 | v3 =>
  (bif (decide ((v3:Int) < (a1.2.1.length:Int))) then
   (bif (((((a1.2.2.getD (tN v3) dF).length:Nat):Int):Int) != (F73 (a1.1.1,a1.1.2) (a1.2.1.getD (tN v3) dF))) then
    (.inr 1)
   else
    (bif (oN (a1.2.2.getD (tN v3) dF)) then
     (.inr 1)
    else
     (.inl (v3+1))))
  else
   (.inr 0))
noncomputable def aHa:Code:=(aO [1,1,1,0,1] [] (aI Tryz.f41) []).1
noncomputable def aHb:List K:=(aO [1,1,1,0,1] [] (aI Tryz.f41) []).2
def aDi (a0:bE)(a1:(List Int×aY)×(List (Int×Int×Bool))×List (List (Int×Int)))(v1:Bool)(v2:Int):LS:=⟨jH 71 [(3,(.p 5 0)),(6,(.v (.bool v1))),(7,(iv v2))],[(.live false true (flat fK a0)),(.live false true (flat c3 a1.1.1)),(.live false true (flat dM a1.1.2)),(.live false true (flat iT a1.2.1)),(.live false true (flat fW a1.2.2)),(.live true false [(.s 1 0 a1.1.1.length 1),(.s 2 0 a1.1.2.length 8),(.s 3 0 a1.2.1.length 3),(.s 4 0 a1.2.2.length 1)])]⟩
def fH (a0:bE)(a1:(List Int×aY)×(List (Int×Int×Bool))×List (List (Int×Int))):Bool×Int->(Bool×Int)⊕(Int)
 | (v1,v2) =>
  (bif (decide ((v2:Int)<=16)) then
   (bif (!v1) then
    (.inl ((kB a1.2.1 (bN (a1.1.1,a1.1.2) v2)),(v2+1)))
   else
    (bif (((a1.2.2.length:Int):Int) != (a1.2.1.length:Int)) then
     (.inr 1)
    else
     (.inr (aA (gW a0 a1) (tN ((a1.2.1.length:Int) - 0)+1) 0))))
  else
   (bif (!v1) then
    (.inr 1)
   else
    (bif (((a1.2.2.length:Int):Int) != (a1.2.1.length:Int)) then
     (.inr 1)
    else
     (.inr (aA (gW a0 a1) (tN ((a1.2.1.length:Int) - 0)+1) 0)))))
theorem aOl (a0:bE)(a1:(List Int×aY)×(List (Int×Int×Bool))×List (List (Int×Int)))(l0:a0.length<=2^63-1)(l1_1_1:a1.1.1.length<=2^63-1)(l1_1_2:a1.1.2.length<=2^63-1)(l1_2_1:a1.2.1.length<=2^63-1)(l1_2_2:a1.2.2.length<=2^63-1) [h5:bL a0] (hsl:∀j:Nat,(a1.2.2.getD j dF).length<=10000) {cx:Cx} (hcx:cx.base=5):∀(n:Nat) (v3:Int),(0<=v3)/\(ACQ a0 a1)/\(v3<=(a1.2.1.length:Int))->tN ((a1.2.1.length:Int) - v3) < n->Aw.Good Tryz.prog none 9 (bodyPost Tryz.prog Tryz.f41 (RR cx (iv (aA (gW a0 a1) n v3)) [] [])) cx [] (.l aA3 n::aA4) (wL a0 a1 v3):=by
 intro n
 induction n with
 | zero=>intro v3 hi hn;exact absurd hn (fO _)
 | succ n ih =>
  intro v3 hi hn
  refine aT ?_
  have haq:=hi.2.1
  have had:=haq.dims
  have hal:=haq.len
  have hsb:=hsl (tN v3)
  try have hb:=haq.bf (j:=v3) hi.1 (by have _:=dL h0;omega)
  try have hb1:=(fun _=>hb.1) h0
  try have hb2:=(fun _=>hb.2.1) h0
  try have hb3:=(fun _=>hb.2.2.1) h0
  try have hb4:=(fun _=>hb.2.2.2) h0
  cases h0:(decide ((v3:Int) < (a1.2.1.length:Int))) with
  | true =>
   have q0:=dL h0
   try have hb:=haq.bf (j:=v3) hi.1 (by have _:=dL h0;omega)
   try have hb1:=(fun _=>hb.1) h0
   try have hb2:=(fun _=>hb.2.1) h0
   try have hb3:=(fun _=>hb.2.2.1) h0
   try have hb4:=(fun _=>hb.2.2.2) h0
   let t1:List (St Tryz.prog):=[.d h0,.i v3 (a1.2.1.length),.L pL a1.2.1 v3 0 3,.i v3 (a1.2.2.length),.L nC a1.2.2 v3 0 1,.p (mT (c:=eP) (fun _=>rfl) (a1.2.2.getD (tN v3) dF)),.c [1,2] (C73 (a1.1.1,a1.1.2) (a1.2.1.getD (tN v3) dF) (by(try simp only [Lt]);omega) (by(try simp only [Lt]);omega) ⟨hb1,hb2⟩)]
   cases h1:(((((a1.2.2.getD (tN v3) dF).length:Nat):Int):Int) != (F73 (a1.1.1,a1.1.2) (a1.2.1.getD (tN v3) dF))) with
   | true =>
    have q1:=bne_iff_ne.1 h1
    try have hb:=haq.bf (j:=v3) hi.1 (by have _:=dL h0;omega)
    try have hb1:=(fun _=>hb.1) h0
    try have hb2:=(fun _=>hb.2.1) h0
    try have hb3:=(fun _=>hb.2.2.1) h0
    try have hb4:=(fun _=>hb.2.2.2) h0
    have e:=Eq.refl (gW a0 a1 v3);conv at e=>rhs;simp only [gW,h0,h1,aW]
    rw [aN,e]
    exact rt (t1++[.d h1]) [] [] hcx (by kernel_rfl)
   | false =>
    have q1:=bne_eq_false_iff_eq.1 h1
    try have hb:=haq.bf (j:=v3) hi.1 (by have _:=dL h0;omega)
    try have hb1:=(fun _=>hb.1) h0
    try have hb2:=(fun _=>hb.2.1) h0
    try have hb3:=(fun _=>hb.2.2.1) h0
    try have hb4:=(fun _=>hb.2.2.2) h0
    let t2:List (St Tryz.prog):=(t1++[.d h1,.i v3 (a1.2.2.length),.L nC a1.2.2 v3 0 1,.p (mT (c:=eP) (fun _=>rfl) (a1.2.2.getD (tN v3) dF)),.c [8] (aP9 (a1.2.2.getD (tN v3) dF) (by(try simp only [Lt]);omega))])
    cases h2:(oN (a1.2.2.getD (tN v3) dF)) with
    | true =>
     try have hb:=haq.bf (j:=v3) hi.1 (by have _:=dL h0;omega)
     try have hb1:=(fun _=>hb.1) h0
     try have hb2:=(fun _=>hb.2.1) h0
     try have hb3:=(fun _=>hb.2.2.1) h0
     try have hb4:=(fun _=>hb.2.2.2) h0
     have e:=Eq.refl (gW a0 a1 v3);conv at e=>rhs;simp only [gW,h0,h1,h2,aW]
     rw [aN,e]
     exact rt (t2++[.d h2]) [] [] hcx (by kernel_rfl)
    | false =>
     try have hb:=haq.bf (j:=v3) hi.1 (by have _:=dL h0;omega)
     try have hb1:=(fun _=>hb.1) h0
     try have hb2:=(fun _=>hb.2.1) h0
     try have hb3:=(fun _=>hb.2.2.1) h0
     try have hb4:=(fun _=>hb.2.2.2) h0
     have e:=Eq.refl (gW a0 a1 v3);conv at e=>rhs;simp only [gW,h0,h1,h2,aW]
     rw [aB e]
     refine ba (t2++[.d h2]) [] [3,44,45,46] [5] hcx (m:=n) aA3 (aA4) (wL a0 a1 (W (v3+1))) (by kernel_rfl) ?_
     have z0:(W (v3+1))=(v3+1):=aH (by omega) (by omega)
     rw [z0]
     exact ih (v3+1) (by(repeat' apply And.intro)<;>first | omega | assumption | exact aE8 | exact aE9 | exact aJv hck | exact yR hck hi.2.2.1 (by assumption) (by assumption)) (by(try simp only [Ls]);omega)
  | false =>
   have q0:=eH h0
   try have hb:=haq.bf (j:=v3) hi.1 (by have _:=dL h0;omega)
   try have hb1:=(fun _=>hb.1) h0
   try have hb2:=(fun _=>hb.2.1) h0
   try have hb3:=(fun _=>hb.2.2.1) h0
   try have hb4:=(fun _=>hb.2.2.2) h0
   have e:=Eq.refl (gW a0 a1 v3);conv at e=>rhs;simp only [gW,h0,aW]
   rw [aN,e]
   exact rt [.d h0] [] [] hcx (by kernel_rfl)
theorem aWv (a0:bE)(a1:(List Int×aY)×(List (Int×Int×Bool))×List (List (Int×Int)))(l0:a0.length<=2^63-1)(l1_1_1:a1.1.1.length<=2^63-1)(l1_1_2:a1.1.2.length<=2^63-1)(l1_2_1:a1.2.1.length<=2^63-1)(l1_2_2:a1.2.2.length<=2^63-1) [h5:bL a0] (hsl:∀j:Nat,(a1.2.2.getD j dF).length<=10000) {cx:Cx} (hcx:cx.base=5):∀(n:Nat) (v1:Bool) (v2:Int),(0<=v2)/\(eG a0 (a1.1.1,a1.1.2)=0)/\(FND a1 v1)/\(1<=v2)->tN (16 - v2+1) < n->Aw.Good Tryz.prog none 9 (bodyPost Tryz.prog Tryz.f41 (RR cx (iv (aA (fH a0 a1) n (v1,v2))) [] [])) cx [] (.l aHa n::aHb) (aDi a0 a1 v1 v2):=by
 intro n
 induction n with
 | zero=>intro v1 v2 hi hn;exact absurd hn (fO _)
 | succ n ih =>
  intro v1 v2 hi hn
  refine aT ?_
  have hck:=hi.2.1
  have hbl:(bN (a1.1.1,a1.1.2) v2).length<=9216:=by rw [jC v2 hck];exact(nB v2 hck).2.2
  cases h0:(decide ((v2:Int)<=16)) with
  | true =>
   have q0:=dL h0
   let t1:List (St Tryz.prog):=[.d h0]
   cases h1:(!v1) with
   | true =>
    have e:=Eq.refl (fH a0 a1 (v1,v2));conv at e=>rhs;simp only [fH,h0,h1,aW]
    rw [aB e]
    refine ba (t1++[.d h1,.c [1,2] (C38 (a1.1.1,a1.1.2) v2 (by(try simp only [Lt]);omega) (by(try simp only [Lt]);omega) (fun q=>aN1 hck q)),.c [3,6] (aWt a1.2.1 (bN (a1.1.1,a1.1.2) v2) (by omega) (by(try simp only [Lt]);omega))]) [] [3,6,7] [5] hcx (m:=n) aHa (aHb) (aDi a0 a1 (kB a1.2.1 (bN (a1.1.1,a1.1.2) v2)) (W (v2+1))) (by kernel_rfl) ?_
    have z0:(W (v2+1))=(v2+1):=aH (by omega) (by omega)
    rw [z0]
    exact ih (kB a1.2.1 (bN (a1.1.1,a1.1.2) v2)) (v2+1) (by(repeat' apply And.intro)<;>first | omega | assumption | exact aE8 | exact aE9 | exact aJv hck | exact yR hck hi.2.2.1 (by assumption) (by assumption)) (by(try simp only [Ls]);omega)
   | false =>
    let t2:List (St Tryz.prog):=(t1++[.d h1,.d h1])
    cases h2:(((a1.2.2.length:Int):Int) != (a1.2.1.length:Int)) with
    | true =>
     have q2:=bne_iff_ne.1 h2
     have e:=Eq.refl (fH a0 a1 (v1,v2));conv at e=>rhs;simp only [fH,h0,h1,h2,aW]
     rw [aN,e]
     exact rt (t2++[.d h2]) [] [] hcx (by kernel_rfl)
    | false =>
     have q2:=bne_eq_false_iff_eq.1 h2
     have e:=Eq.refl (fH a0 a1 (v1,v2));conv at e=>rhs;simp only [fH,h0,h1,h2,aW]
     rw [aN,e]
     refine en (t2++[.d h2]) [] [3,44,45,46] [5] hcx aA3 (aA4) (wL a0 a1 0) (tN ((a1.2.1.length:Int) - 0)+1) (by kernel_rfl) ?_
     exact aOl a0 a1 l0 l1_1_1 l1_1_2 l1_2_1 l1_2_2 hsl hcx (tN ((a1.2.1.length:Int) - 0)+1) 0 (by(repeat' apply And.intro)<;>first | omega | assumption | exact aE8 | exact aE9 | exact aJv hck | exact yR hck hi.2.2.1 (by assumption) (by assumption)) (by(try simp only [Ls]);omega)
  | false =>
   have q0:=eH h0
   let t1:List (St Tryz.prog):=[.d h0]
   cases h1:(!v1) with
   | true =>
    have e:=Eq.refl (fH a0 a1 (v1,v2));conv at e=>rhs;simp only [fH,h0,h1,aW]
    rw [aN,e]
    exact rt (t1++[.d h1]) [] [] hcx (by kernel_rfl)
   | false =>
    let t2:List (St Tryz.prog):=(t1++[.d h1])
    cases h2:(((a1.2.2.length:Int):Int) != (a1.2.1.length:Int)) with
    | true =>
     have q2:=bne_iff_ne.1 h2
     have e:=Eq.refl (fH a0 a1 (v1,v2));conv at e=>rhs;simp only [fH,h0,h1,h2,aW]
     rw [aN,e]
     exact rt (t2++[.d h2]) [] [] hcx (by kernel_rfl)
    | false =>
     have q2:=bne_eq_false_iff_eq.1 h2
     have e:=Eq.refl (fH a0 a1 (v1,v2));conv at e=>rhs;simp only [fH,h0,h1,h2,aW]
     rw [aN,e]
     refine en (t2++[.d h2]) [] [3,44,45,46] [5] hcx aA3 (aA4) (wL a0 a1 0) (tN ((a1.2.1.length:Int) - 0)+1) (by kernel_rfl) ?_
     exact aOl a0 a1 l0 l1_1_1 l1_1_2 l1_2_1 l1_2_2 hsl hcx (tN ((a1.2.1.length:Int) - 0)+1) 0 (by(repeat' apply And.intro)<;>first | omega | assumption | exact aE8 | exact aE9 | exact aJv hck | exact yR hck hi.2.2.1 (by assumption) (by assumption)) (by(try simp only [Ls]);omega)
def pX (a0:bE)(a1:(List Int×aY)×(List (Int×Int×Bool))×List (List (Int×Int))):Int :=
 (bif (((fC a0 (a1.1.1,a1.1.2)):Int) != 0) then
  (fC a0 (a1.1.1,a1.1.2))
 else
  (aA (fH a0 a1) (tN (16 - 1+1)+1) (false,1)))
theorem bDz (a0:bE)(a1:(List Int×aY)×(List (Int×Int×Bool))×List (List (Int×Int)))(l0:a0.length<=2^63-1)(l1_1_1:a1.1.1.length<=2^63-1)(l1_1_2:a1.1.2.length<=2^63-1)(l1_2_1:a1.2.1.length<=2^63-1)(l1_2_2:a1.2.2.length<=2^63-1) [h5:bL a0] (hsl:∀j:Nat,(a1.2.2.getD j dF).length<=10000):Con Tryz.prog 41 [(.s 0 0 a0.length 10),(.a [(.s 1 0 a1.1.1.length 1),(.s 2 0 a1.1.2.length 8),(.s 3 0 a1.2.1.length 3),(.s 4 0 a1.2.2.length 1)])] [(.live false true (flat fK a0)),(.live false true (flat c3 a1.1.1)),(.live false true (flat dM a1.1.2)),(.live false true (flat iT a1.2.1)),(.live false true (flat fW a1.2.2))] (iv (pX a0 a1)) []:=by
 refine aU Tryz.func41 (by kernel_rfl) fun cx hcx=>?_
 try have hck:eG a0 (a1.1.1,a1.1.2)=0:=by rw [←lZ];exact bne_eq_false_iff_eq.1 h0
 let t0:List (St Tryz.prog):=[.c [0,1,2] (aSw a0 (a1.1.1,a1.1.2) (by omega) (by(try simp only [Lt]);omega) (by(try simp only [Lt]);omega))]
 cases h0:(((fC a0 (a1.1.1,a1.1.2)):Int) != 0) with
 | true =>
  have q0:=bne_iff_ne.1 h0
  try have hck:eG a0 (a1.1.1,a1.1.2)=0:=by rw [←lZ];exact bne_eq_false_iff_eq.1 h0
  have e:=Eq.refl (pX a0 a1);conv at e=>rhs;simp only [pX,h0,aW]
  rw [e]
  exact rt (t0++[.d h0]) [] [] hcx (by kernel_rfl)
 | false =>
  have q0:=bne_eq_false_iff_eq.1 h0
  try have hck:eG a0 (a1.1.1,a1.1.2)=0:=by rw [←lZ];exact bne_eq_false_iff_eq.1 h0
  have e:=Eq.refl (pX a0 a1);conv at e=>rhs;simp only [pX,h0,aW]
  rw [e]
  refine en (t0++[.d h0]) [] [3,6,7] [5] hcx aHa (aHb) (aDi a0 a1 false 1) (tN (16 - 1+1)+1) (by kernel_rfl) ?_
  exact aWv a0 a1 l0 l1_1_1 l1_1_2 l1_2_1 l1_2_2 hsl hcx (tN (16 - 1+1)+1) false 1 (by(repeat' apply And.intro)<;>first | omega | assumption | exact aE8 | exact aE9 | exact aJv hck | exact yR hck hi.2.2.1 (by assumption) (by assumption)) (by(try simp only [Ls]);omega)
def gG (a0:bE)(a1:(List Int×aY)×(List (Int×Int×Bool))×List (List (Int×Int))):Int×Int->(Int×Int)⊕((Int)⊕(Int))
 | (v5,v6) =>
  (bif (decide ((v6:Int) < (((a1.2.2.getD (tN v5) dF).length:Nat):Int))) then
   (bif (!(F94 ((a1.2.2.getD (tN v5) dF).getD (tN v6) dF))) then
    (.inr (.inr 1))
   else
    (.inl (v5,(v6+1))))
  else
   (.inr (.inl (v5+1))))
def gX (a0:bE)(a1:(List Int×aY)×(List (Int×Int×Bool))×List (List (Int×Int))):Int->(Int)⊕(Int)
 | v4 =>
  (bif (decide ((v4:Int) < (a1.2.2.length:Int))) then
   (bif (((((a1.2.2.getD (tN v4) dF).length:Nat):Int):Int) != (F93 (a1.1.1,a1.1.2) (a1.2.1.getD (tN v4) dF))) then
    (.inr 1)
   else
    (aA (gG a0 a1) (tN ((((a1.2.2.getD (tN v4) dF).length:Nat):Int) - 0)+1) (v4,0)))
  else
   (.inr 0))
def lD (a0:bE)(a1:(List Int×aY)×(List (Int×Int×Bool))×List (List (Int×Int))):Bool×Int->(Bool×Int)⊕(Int)
 | (v1,v2) =>
  (bif (decide ((v2:Int)<=16)) then
   (bif (!v1) then
    (.inl ((nA a1.2.1 (F85 (a1.1.1,a1.1.2) v2)),(v2+1)))
   else
    (bif (((a1.2.2.length:Int):Int) != (a1.2.1.length:Int)) then
     (.inr 1)
    else
     (.inr (aA (gX a0 a1) (tN ((a1.2.2.length:Int) - 0)+1) 0))))
  else
   (bif (!v1) then
    (.inr 1)
   else
    (bif (((a1.2.2.length:Int):Int) != (a1.2.1.length:Int)) then
     (.inr 1)
    else
     (.inr (aA (gX a0 a1) (tN ((a1.2.2.length:Int) - 0)+1) 0)))))
def nD (a0:bE)(a1:(List Int×aY)×(List (Int×Int×Bool))×List (List (Int×Int))):Int :=
 (bif (((eG a0 (a1.1.1,a1.1.2)):Int) != 0) then
  (eG a0 (a1.1.1,a1.1.2))
 else
  (aA (lD a0 a1) (tN (16 - 1+1)+1) (false,1)))
noncomputable def yS:Code:=(aO [1,1,0,1,0,1,1,0,1,1,0,1] [0] (aI Tryz.f42) []).1
noncomputable def yT (m0:Nat):List K:=(aO [1,1,0,1,0,1,1,0,1,1,0,1] [m0] (aI Tryz.f42) []).2
def uV (a0:bE)(a1:List (List (Int×Int)))(v10c:List SV)(v10n:Nat)(v11c:List SV)(v11n:Nat)(v12 v13 v14:Int):LS:=⟨jH 62 [(0,(.s 0 0 a0.length 10)),(1,(.s 1 0 a1.length 1)),(6,(.s 2 0 v10n 2)),(7,(iv v12)),(8,(.s 3 0 v11n 2)),(16,(iv (a0.length:Int))),(17,(iv v13)),(20,(.s 0 0 a0.length 10)),(21,(iv (a0.length:Int))),(22,(iv v14))],[(.live false true (flat fK a0)),(.live false true (flat fW a1)),(.live true true v10c),(.live true true v11c)]⟩
def bU (a0:bE)(a1:List (List (Int×Int))):(List (Int×Int))×(List (Int×Int))×Zt->((List (Int×Int))×(List (Int×Int))×Zt)⊕(((List (Int×Int))×Int)⊕((List (Int×Int))×Int))
 | (v10,v11,v12,v13,v14) =>
  (bif (decide ((v14:Int) < (a0.length:Int))) then
   (bif (((xT ((a1.getD (tN v14) dF).getD (tN v12) dF) (a0.getD (tN v14) dF).2).2:Int) != 0) then
    (.inr (.inr (([]:List (Int×Int)),(xT ((a1.getD (tN v14) dF).getD (tN v12) dF) (a0.getD (tN v14) dF).2).2)))
   else
    (.inl (v10,(v11++[(xT ((a1.getD (tN v14) dF).getD (tN v12) dF) (a0.getD (tN v14) dF).2).1]),v12,v13,(v14+1))))
  else
   (bif (((iL v11).2:Int) != 0) then
    (.inr (.inr (([]:List (Int×Int)),(iL v11).2)))
   else
    (.inr (.inl ((v10++[(iL v11).1]),(v13+1))))))
noncomputable def sJ:Code:=(aO [1,1,0,1] [] (aI Tryz.f42) []).1
noncomputable def sK:List K:=(aO [1,1,0,1] [] (aI Tryz.f42) []).2
def pS (a0:bE)(a1:List (List (Int×Int)))(v8c:List SV)(v8n:Nat)(v9:Int):LS:=⟨jH 62 [(0,(.s 0 0 a0.length 10)),(1,(.s 1 0 a1.length 1)),(6,(.s 2 0 v8n 2)),(16,(iv (a0.length:Int))),(17,(iv v9))],[(.live false true (flat fK a0)),(.live false true (flat fW a1)),(.live true true v8c)]⟩
def bF (a0:bE)(a1:List (List (Int×Int))):(List (Int×Int))×Int->((List (Int×Int))×Int)⊕((List (Int×Int))×Int)
 | (v8,v9) =>
  (bif (decide ((v9:Int) < (a0.length:Int))) then
   (aA (bU a0 a1) (tN ((a0.length:Int) - 0)+1) (v8,([]:List (Int×Int)),v9,v9,0))
  else
   (.inr (v8,0)))
theorem aQa (a0:bE)(a1:List (List (Int×Int)))(l0:a0.length<=2^63-1)(l1:a1.length<=2^63-1)(hm:a0.length<=96/\a1.length=a0.length/\∀j:Nat,j < a0.length->(a1.getD j dF).length=a0.length) {cx:Cx} (hcx:cx.base=2)
 (n0:Nat) (g0:∀(v8:List (Int×Int)) (v9:Int),(0<=v9)/\(v8.length=tN v9)/\(v9<=(a0.length:Int))->tN ((a0.length:Int) - v9) < n0->Aw.Good Tryz.prog none 9 (bodyPost Tryz.prog Tryz.f42 (RR cx (.t [(.s 2 0 (aA (bF a0 a1) n0 (v8,v9)).1.length 2),(iv (aA (bF a0 a1) n0 (v8,v9)).2)]) [(.live true true (flat eP (aA (bF a0 a1) n0 (v8,v9)).1))] [])) cx [] (.l sJ n0::sK) (pS a0 a1 (flat eP v8) v8.length v9)):∀(n:Nat) (v10:List (Int×Int)) (v11:List (Int×Int)) (v12 v13 v14:Int),(0<=v14)/\(v12=v13)/\(v11.length=tN v14)/\(v14<=(a0.length:Int))/\((0<=v13))/\((v10.length=tN v13))/\((v13<=(a0.length:Int)))/\(v13 < (a0.length:Int))/\(tN ((a0.length:Int) - v13) < n0+1)->tN ((a0.length:Int) - v14) < n->Aw.Good Tryz.prog none 9 (bodyPost Tryz.prog Tryz.f42 (RR cx (.t [(.s 2 0 (bB (bF a0 a1) n0 (aA (bU a0 a1) n (v10,v11,v12,v13,v14))).1.length 2),(iv (bB (bF a0 a1) n0 (aA (bU a0 a1) n (v10,v11,v12,v13,v14))).2)]) [(.live true true (flat eP (bB (bF a0 a1) n0 (aA (bU a0 a1) n (v10,v11,v12,v13,v14))).1))] [])) cx [] (.l yS n::yT n0) (uV a0 a1 (flat eP v10) v10.length (flat eP v11) v11.length v12 v13 v14):=by
 intro n
 induction n with
 | zero=>intro v10 v11 v12 v13 v14 hi hn;exact absurd hn (fO _)
 | succ n ih =>
  intro v10 v11 v12 v13 v14 hi hn
  refine aT ?_
  have hm1:=hm.2.1
  try have hmr:=hm.2.2 (tN v14) (by have _:=dL h0;omega)
  cases h0:(decide ((v14:Int) < (a0.length:Int))) with
  | true =>
   have q0:=dL h0
   try have hmr:=hm.2.2 (tN v14) (by have _:=dL h0;omega)
   let t1:List (St Tryz.prog):=[.d h0,.i v14 (a0.length),.L eO a0 v14 0 10,.i v14 (a1.length),.L nC a1 v14 0 1,.p (mT (c:=eP) (fun _=>rfl) (a1.getD (tN v14) dF)),.i v12 ((a1.getD (tN v14) dF).length),.L dZ (a1.getD (tN v14) dF) v12 0 2,.c [] (C77 ((a1.getD (tN v14) dF).getD (tN v12) dF) (a0.getD (tN v14) dF).2)]
   cases h1:(((xT ((a1.getD (tN v14) dF).getD (tN v12) dF) (a0.getD (tN v14) dF).2).2:Int) != 0) with
   | true =>
    have q1:=bne_iff_ne.1 h1
    try have hmr:=hm.2.2 (tN v14) (by have _:=dL h0;omega)
    have e:=Eq.refl (bU a0 a1 (v10,v11,v12,v13,v14));conv at e=>rhs;simp only [bU,h0,h1,aW]
    rw [aN,e]
    exact rt (t1++[.d h1]) [.slot 4 2] [7] hcx (by kernel_rfl)
   | false =>
    have q1:=bne_eq_false_iff_eq.1 h1
    try have hmr:=hm.2.2 (tN v14) (by have _:=dL h0;omega)
    have e:=Eq.refl (bU a0 a1 (v10,v11,v12,v13,v14));conv at e=>rhs;simp only [bU,h0,h1,aW]
    rw [aB e]
    refine ba (t1++[.d h1,.p (show((flat eP v11).length=v11.length*2/\v11.length+1<=2 ^ 40/\(v11.length+1)*16<=2 ^ 47) from lQ dZ (by omega) (by omega))]) [] [0,1,6,7,8,16,17,20,21,22] [2,8] hcx (m:=n) yS (yT n0) (uV a0 a1 (flat eP v10) (v10.length) (flat eP v11++(k2 (xT ((a1.getD (tN v14) dF).getD (tN v12) dF) (a0.getD (tN v14) dF).2).1)) (v11.length+1) v12 v13 (W (v14+1))) (by kernel_rfl) ?_
    have z0:(W (v14+1))=(v14+1):=aH (by omega) (by omega)
    have z1:(flat eP v11++(k2 (xT ((a1.getD (tN v14) dF).getD (tN v12) dF) (a0.getD (tN v14) dF).2).1))=(flat eP (v11++[(xT ((a1.getD (tN v14) dF).getD (tN v12) dF) (a0.getD (tN v14) dF).2).1])):=(cW (c:=eP) (l:=v11) (m:=[(xT ((a1.getD (tN v14) dF).getD (tN v12) dF) (a0.getD (tN v14) dF).2).1])).symm
    have z2:(v11.length+1)=(v11++[(xT ((a1.getD (tN v14) dF).getD (tN v12) dF) (a0.getD (tN v14) dF).2).1]).length:=kZ v11 [(xT ((a1.getD (tN v14) dF).getD (tN v12) dF) (a0.getD (tN v14) dF).2).1] rfl
    rw [z0,z1,z2]
    exact ih v10 (v11++[(xT ((a1.getD (tN v14) dF).getD (tN v12) dF) (a0.getD (tN v14) dF).2).1]) v12 v13 (v14+1) (by refine⟨?_,?_,?_,?_,?_,?_,?_,?_,?_⟩<;>(try simp only [Ls])<;>first | omega | assumption | exact hi.2.1 | exact hi.2.2.1 | exact hi.2.2.2.1 | exact hi.2.2.2.2.1 | exact hi.2.2.2.2.2.1 | exact hi.2.2.2.2.2.2.1 | exact hi.2.2.2.2.2.2.2.1 | exact hi.2.2.2.2.2.2.2.2.1 | simp) (by(try simp only [Ls]);omega)
  | false =>
   have q0:=eH h0
   try have hmr:=hm.2.2 (tN v14) (by have _:=dL h0;omega)
   let t1:List (St Tryz.prog):=[.d h0,.c [3] (bB7 v11 (by omega))]
   cases h1:(((iL v11).2:Int) != 0) with
   | true =>
    have q1:=bne_iff_ne.1 h1
    try have hmr:=hm.2.2 (tN v14) (by have _:=dL h0;omega)
    have e:=Eq.refl (bU a0 a1 (v10,v11,v12,v13,v14));conv at e=>rhs;simp only [bU,h0,h1,aW]
    rw [aN,e]
    exact rt (t1++[.d h1]) [.slot 4 2] [5] hcx (by kernel_rfl)
   | false =>
    have q1:=bne_eq_false_iff_eq.1 h1
    try have hmr:=hm.2.2 (tN v14) (by have _:=dL h0;omega)
    have e:=Eq.refl (bU a0 a1 (v10,v11,v12,v13,v14));conv at e=>rhs;simp only [bU,h0,h1,aW]
    rw [aN,e]
    refine ba (t1++[.d h1,.p (show((flat eP v10).length=v10.length*2/\v10.length+1<=2 ^ 40/\(v10.length+1)*16<=2 ^ 47) from lQ dZ (by omega) (by omega))]) [] [0,1,6,16,17] [6] hcx (m:=n0) sJ (sK) (pS a0 a1 (flat eP v10++(k2 (iL v11).1)) (v10.length+1) (W (v13+1))) (by kernel_rfl) ?_
    have z0:(W (v13+1))=(v13+1):=aH (by omega) (by omega)
    have z1:(flat eP v10++(k2 (iL v11).1))=(flat eP (v10++[(iL v11).1])):=(cW (c:=eP) (l:=v10) (m:=[(iL v11).1])).symm
    have z2:(v10.length+1)=(v10++[(iL v11).1]).length:=kZ v10 [(iL v11).1] rfl
    rw [z0,z1,z2]
    exact g0 (v10++[(iL v11).1]) (v13+1) (by refine⟨?_,?_,?_⟩<;>(try simp only [Ls])<;>first | omega | assumption | simp) (by(try simp only [Ls]);omega)
theorem aQb (a0:bE)(a1:List (List (Int×Int)))(l0:a0.length<=2^63-1)(l1:a1.length<=2^63-1)(hm:a0.length<=96/\a1.length=a0.length/\∀j:Nat,j < a0.length->(a1.getD j dF).length=a0.length) {cx:Cx} (hcx:cx.base=2):∀(n:Nat) (v8:List (Int×Int)) (v9:Int),(0<=v9)/\(v8.length=tN v9)/\(v9<=(a0.length:Int))->tN ((a0.length:Int) - v9) < n->Aw.Good Tryz.prog none 9 (bodyPost Tryz.prog Tryz.f42 (RR cx (.t [(.s 2 0 (aA (bF a0 a1) n (v8,v9)).1.length 2),(iv (aA (bF a0 a1) n (v8,v9)).2)]) [(.live true true (flat eP (aA (bF a0 a1) n (v8,v9)).1))] [])) cx [] (.l sJ n::sK) (pS a0 a1 (flat eP v8) v8.length v9):=by
 intro n
 induction n with
 | zero=>intro v8 v9 hi hn;exact absurd hn (fO _)
 | succ n ih =>
  intro v8 v9 hi hn
  refine aT ?_
  cases h0:(decide ((v9:Int) < (a0.length:Int))) with
  | true =>
   have q0:=dL h0
   have e:=Eq.refl (bF a0 a1 (v8,v9));conv at e=>rhs;simp only [bF,h0,aW]
   rw [aN,e]
   refine en [.d h0] [.slot 8 2] [0,1,6,7,8,16,17,20,21,22] [2,3] hcx yS (yT n) (uV a0 a1 (flat eP v8) (v8.length) (flat eP ([]:List (Int×Int))) 0 v9 v9 0) (tN ((a0.length:Int) - 0)+1) (by kernel_rfl) ?_
   exact aQa a0 a1 l0 l1 hm hcx n ih (tN ((a0.length:Int) - 0)+1) v8 ([]:List (Int×Int)) v9 v9 0 (by refine⟨?_,?_,?_,?_,?_,?_,?_,?_,?_⟩<;>(try simp only [Ls])<;>first | omega | assumption | exact hi.2.1 | exact hi.2.2.1 | exact hi.2.2.2.1 | exact hi.2.2.2.2.1 | exact hi.2.2.2.2.2.1 | exact hi.2.2.2.2.2.2.1 | exact hi.2.2.2.2.2.2.2.1 | exact hi.2.2.2.2.2.2.2.2.1 | simp) (by(try simp only [Ls]);omega)
  | false =>
   have q0:=eH h0
   have e:=Eq.refl (bF a0 a1 (v8,v9));conv at e=>rhs;simp only [bF,h0,aW]
   rw [aN,e]
   exact rt [.d h0] [] [2] hcx (by kernel_rfl)
def fI (a0:bE)(a1:List (List (Int×Int))):(List (Int×Int))×Int :=
 (aA (bF a0 a1) (tN ((a0.length:Int) - 0)+1) (([]:List (Int×Int)),0))
theorem aOm (a0:bE)(a1:List (List (Int×Int)))(l0:a0.length<=2^63-1)(l1:a1.length<=2^63-1)(hm:a0.length<=96/\a1.length=a0.length/\∀j:Nat,j < a0.length->(a1.getD j dF).length=a0.length):Con Tryz.prog 42 [(.s 0 0 a0.length 10),(.s 1 0 a1.length 1)] [(.live false true (flat fK a0)),(.live false true (flat fW a1))] (.t [(.s 2 0 (fI a0 a1).1.length 2),(iv (fI a0 a1).2)]) [(.live true true (flat eP (fI a0 a1).1))]:=by
 refine aU Tryz.func42 (by kernel_rfl) fun cx hcx=>?_
 have e:=Eq.refl (fI a0 a1);conv at e=>rhs;simp only [fI]
 rw [e]
 refine en [] [.slot 6 2] [0,1,6,16,17] [2] hcx sJ (sK) (pS a0 a1 (flat eP ([]:List (Int×Int))) 0 0) (tN ((a0.length:Int) - 0)+1) (by kernel_rfl) ?_
 exact aQb a0 a1 l0 l1 hm hcx (tN ((a0.length:Int) - 0)+1) ([]:List (Int×Int)) 0 (by refine⟨?_,?_,?_⟩<;>(try simp only [Ls])<;>first | omega | assumption | simp) (by(try simp only [Ls]);omega)
theorem iR {T R:Type} [Inhabited R] {S:T->T⊕R} (μ:T->Nat)(Pr:T->Prop)(Qr:R->Prop)(h:∀x,Pr x->(∃a,S x=.inl a/\Pr a/\μ a < μ x)\/(∃r,S x=.inr r/\Qr r)) :
 ∀(n:Nat) (x:T),Pr x->μ x < n->Qr (aA S n x)
 | 0,_,_,hn=>absurd hn (fO _)
 | n+1,x,hx,hn=>by
  rcases h x hx with⟨a,e1,e2,e3⟩ | ⟨r,e1,e2⟩
  ·rw [aB e1];exact iR μ Pr Qr h n a e2 (by omega)
  ·rw [aC e1];exact e2
theorem aJw (l:bR)(o:lI)(v:Int):∀(d k n m:Nat),d=(o.2.2.getD (tN v) dF).length - k->k<=(o.2.2.getD (tN v) dF).length->d < n->d < m ->
 aA (gG l o) n (v,(k:Int))=bif decide (aA (cS (o.2.2.getD (tN v) dF)) m (k:Int)≥0) then .inr 1 else .inl (v+1)
 | 0,k,n,m,hd,hk,hn,hm=>by
  obtain⟨n,rfl⟩:∃q,n=q+1:=⟨n - 1,by omega⟩
  obtain⟨m,rfl⟩:∃q,m=q+1:=⟨m - 1,by omega⟩
  have e1:gG l o (v,(k:Int))=.inr (.inl (v+1)):=by
   simp only [gG]
   rw [cC (by omega),cond_false]
  have e2:cS (o.2.2.getD (tN v) dF) (k:Int)=.inr (-1):=by
   simp only [cS]
   rw [cC (by omega),cond_false]
  rw [aC e1,aC e2];rfl
 | d+1,k,n,m,hd,hk,hn,hm=>by
  obtain⟨n,rfl⟩:∃q,n=q+1:=⟨n - 1,by omega⟩
  obtain⟨m,rfl⟩:∃q,m=q+1:=⟨m - 1,by omega⟩
  have e1:gG l o (v,(k:Int))=bif (!(F94 ((o.2.2.getD (tN v) dF).getD k dF))) then .inr (.inr 1) else .inl (v,((k+1:Nat):Int)):=by
   simp only [gG,eX]
   rw [bG (by omega),cond_true];rfl
  have e2:cS (o.2.2.getD (tN v) dF) (k:Int)=bif (!(F94 ((o.2.2.getD (tN v) dF).getD k dF))) then .inr (k:Int) else .inl ((k+1:Nat):Int):=by
   simp only [cS,eX]
   rw [bG (by omega),cond_true];rfl
  cases hv:(!(F94 ((o.2.2.getD (tN v) dF).getD k dF))) with
  | true =>
   rw [hv,cond_true] at e1 e2
   rw [aC e1,aC e2,bG (by omega)];rfl
  | false =>
   rw [hv,cond_false] at e1 e2
   rw [aB e1,aB e2]
   exact aJw l o v d (k+1) n m (by omega) (by omega) (by omega) (by omega)
theorem bAv (l:bR)(o:lI)(hl:o.2.2.length=o.2.1.length):gW l o=gX l o:=by
 funext v
 simp only [gW,gX]
 rw [hl]
 have e:=aJw l o v _ 0 (tN ((((o.2.2.getD (tN v) dF).length:Nat):Int) - 0)+1) (tN ((((o.2.2.getD (tN v) dF).length:Nat):Int) - 0)+1) rfl (Nat.zero_le _) (by omega) (by omega)
 rw [show(((0:Nat):Int))=0 from rfl] at e
 rw [e];rfl
theorem aDj (l:bR) [bL l] (o:lI):pX l o=nD l o:=by
 unfold pX nD
 rw [lZ]
 cases h0:((eG l (o.1.1,o.1.2):Int) != 0) with
 | true=>rfl
 | false =>
  have hc:=bne_eq_false_iff_eq.1 h0
  have e:fH l o=lD l o:=by
   funext ⟨v1,v2⟩
   simp only [fH,lD]
   rw [aOk,jC (t:=(o.1.1,o.1.2)) v2 hc]
   cases h1:(((o.2.2.length:Int):Int) != (o.2.1.length:Int)) with
   | true=>rfl
   | false =>
    have hl:o.2.2.length=o.2.1.length:=by have:=bne_eq_false_iff_eq.1 h1;omega
    rw [bAv l o hl,hl]
  rw [e]
def GD (o:lI)(j:Nat):Prop:=(((o.2.2.getD j dF).length:Nat):Int)=F93 (o.1.1,o.1.2) (o.2.1.getD j dF)/\∀i,i < (o.2.2.getD j dF).length->F94 ((o.2.2.getD j dF).getD i dF)=true
theorem aWw (l:bR)(o:lI)(v:Int):aA (gG l o) (tN ((((o.2.2.getD (tN v) dF).length:Nat):Int) - 0)+1) (v,0)=.inr 1 \/
 (aA (gG l o) (tN ((((o.2.2.getD (tN v) dF).length:Nat):Int) - 0)+1) (v,0)=.inl (v+1)/\∀i,i < (o.2.2.getD (tN v) dF).length->F94 ((o.2.2.getD (tN v) dF).getD i dF)=true):=by
 refine iR (S:=gG l o) (fun x:Int×Int=>tN ((((o.2.2.getD (tN v) dF).length:Nat):Int) - x.2)) (fun x:Int×Int=>x.1=v/\0<=x.2/\x.2<=(((o.2.2.getD (tN v) dF).length:Nat):Int)/\∀i,i < tN x.2->F94 ((o.2.2.getD (tN v) dF).getD i dF)=true)
  (fun r:Int⊕Int=>r=.inr 1\/(r=.inl (v+1)/\∀i,i < (o.2.2.getD (tN v) dF).length->F94 ((o.2.2.getD (tN v) dF).getD i dF)=true)) ?_ _ _ ⟨rfl,Int.le_refl _,by simp only;omega,fun i hi=>absurd hi (by simp)⟩ (by simp only;omega)
 rintro ⟨a,b⟩ ⟨rfl,h1,h2,h3⟩
 simp only at h1 h2 h3
 simp only [gG]
 by_cases hb:b < (((o.2.2.getD (tN a) dF).length:Nat):Int)
 ·rw [bG hb,cond_true]
  cases hv:F94 ((o.2.2.getD (tN a) dF).getD (tN b) dF) with
  | false=>exact .inr ⟨_,rfl,.inl rfl⟩
  | true =>
   refine .inl ⟨_,rfl,⟨rfl,by simp only;omega,by simp only;omega,fun i hi=>?_⟩,by simp only;omega⟩
   simp only at hi
   by_cases he:i=tN b
   ·rw [he];exact hv
   ·exact h3 i (by omega)
 ·rw [cC hb,cond_false]
  exact .inr ⟨_,rfl,.inr ⟨rfl,fun i hi=>h3 i (by omega)⟩⟩
theorem bAw {l:bR} {o:lI} (h:aA (gX l o) (tN ((o.2.2.length:Int) - 0)+1) 0=0):∀j,j < o.2.2.length->GD o j:=by
 refine iR (S:=gX l o) (fun v=>tN ((o.2.2.length:Int) - v)) (fun v=>0<=v/\v<=(o.2.2.length:Int)/\∀j,j < tN v->GD o j) (fun r=>r=0->∀j,j < o.2.2.length->GD o j) ?_ _ _ ⟨Int.le_refl _,by omega,fun j hj=>absurd hj (by simp)⟩ (by omega) h
 rintro v ⟨h1,h2,h3⟩
 simp only [gX]
 by_cases hv:v < (o.2.2.length:Int)
 ·rw [bG hv,cond_true]
  cases hc:(((((o.2.2.getD (tN v) dF).length:Nat):Int):Int) != (F93 (o.1.1,o.1.2) (o.2.1.getD (tN v) dF))) with
  | true=>exact .inr ⟨_,rfl,fun e=>by cases e⟩
  | false =>
   rw [cond_false]
   rcases aWw l o v with e | ⟨e,hg⟩
   ·rw [e];exact .inr ⟨_,rfl,fun e=>by cases e⟩
   ·rw [e]
    refine .inl ⟨_,rfl,⟨by omega,by omega,fun j hj=>?_⟩,by omega⟩
    by_cases he:j=tN v
    ·rw [he];exact⟨bne_eq_false_iff_eq.1 hc,hg⟩
    ·exact h3 j (by omega)
 ·rw [cC hv,cond_false]
  exact .inr ⟨_,rfl,fun _ j hj=>h3 j (by omega)⟩
theorem aMi {l:bR} {o:lI} (h:nD l o=0):ACQ l o/\∀j,j < o.2.2.length->GD o j:=by
 unfold nD at h
 cases h0:((eG l (o.1.1,o.1.2):Int) != 0) with
 | true=>rw [h0,cond_true] at h;rw [h] at h0;cases h0
 | false =>
  rw [h0,cond_false] at h
  have hc:=bne_eq_false_iff_eq.1 h0
  refine iR (S:=lD l o) (fun x=>tN (17 - x.2)) (fun x=>FND o x.1) (fun r=>r=0->ACQ l o/\∀j,j < o.2.2.length->GD o j) ?_ _ _ aE8 (by simp only;omega) h
  rintro ⟨v1,v2⟩ hf
  simp only at hf
  simp only [lD]
  have key:(!v1)=false->∃r,(bif (((o.2.2.length:Int):Int) != (o.2.1.length:Int)) then(.inr 1) else(.inr (aA (gX l o) (tN ((o.2.2.length:Int) - 0)+1) 0)):(Bool×Int)⊕Int)=.inr r/\(r=0->ACQ l o/\∀j,j < o.2.2.length->GD o j):=fun hb=>by
   cases hl:(((o.2.2.length:Int):Int) != (o.2.1.length:Int)) with
   | true=>exact⟨1,rfl,fun e=>by cases e⟩
   | false=>exact⟨_,rfl,fun e=>⟨yR hc hf hb hl,bAw e⟩⟩
  by_cases h2:v2<=16
  ·rw [bG h2,cond_true]
   cases hb:(!v1) with
   | true=>exact .inl ⟨_,rfl,aE9,by simp only;omega⟩
   | false=>exact .inr (key hb)
  ·rw [cC h2,cond_false]
   cases hb:(!v1) with
   | true=>exact .inr ⟨1,rfl,fun e=>by cases e⟩
   | false=>exact .inr (key hb)
theorem aOn {t:TR} {b:BLK} (h1:0<=(t.2.getD (tN b.1) dF).1/\(t.2.getD (tN b.1) dF).1<=(t.2.getD (tN b.1) dF).2.1/\(t.2.getD (tN b.1) dF).2.1<=96)
 (h2:0<=(t.2.getD (tN b.2.1) dF).1/\(t.2.getD (tN b.2.1) dF).1<=(t.2.getD (tN b.2.1) dF).2.1/\(t.2.getD (tN b.2.1) dF).2.1<=96) :
 F93 t b=bif b.2.2 then 1 else((t.2.getD (tN b.1) dF).2.1 - (t.2.getD (tN b.1) dF).1)*((t.2.getD (tN b.2.1) dF).2.1 - (t.2.getD (tN b.2.1) dF).1):=by
 unfold F93
 have m:=Int.mul_le_mul (a:=(t.2.getD (tN b.1) dF).2.1 - (t.2.getD (tN b.1) dF).1) (b:=(t.2.getD (tN b.2.1) dF).2.1 - (t.2.getD (tN b.2.1) dF).1) (c:=96) (d:=96) (by omega) (by omega) (by omega) (by omega)
 have m0:0<=((t.2.getD (tN b.1) dF).2.1 - (t.2.getD (tN b.1) dF).1)*((t.2.getD (tN b.2.1) dF).2.1 - (t.2.getD (tN b.2.1) dF).1):=Int.mul_nonneg (by omega) (by omega)
 rw [aH (n:=(t.2.getD (tN b.1) dF).2.1 - (t.2.getD (tN b.1) dF).1) (by omega) (by omega),aH (n:=(t.2.getD (tN b.2.1) dF).2.1 - (t.2.getD (tN b.2.1) dF).1) (by omega) (by omega),aH (by omega) (by omega)]
theorem aTy {l:bR} {o:lI} (h:nD l o=0)(hsl:∀j:Nat,(o.2.2.getD j dF).length<=10000):EntOK l.length o:=by
 obtain⟨ha,hg⟩:=aMi h
 obtain⟨d1,d2,d3,d4,d5⟩:=ha.dims
 refine⟨⟨by omega,by omega⟩,fun hb=>?_,by omega,by rw [eX];exact d4,⟨ha.len,d5⟩,fun j=>by have:=hsl j;omega,fun j h0 h1=>?_⟩
 ·rcases Nat.eq_zero_or_pos l.length with e | e
  ·exfalso
   obtain⟨hv,leaf,h1,_,e1⟩:=mA ha.chk
   rcases aGt l h1 with⟨_,e2⟩ | ⟨hh,H⟩
   ·obtain⟨sep,e3⟩:=ha.blk
    rw [show o.1=([],[]) from e1.trans e2] at e3
    rw [show F85 ([],[]) sep=[] from rfl] at e3
    rw [e3] at hb;exact absurd hb (Nat.lt_irrefl _)
   ·have:=cJ H;omega
  ·omega
 ·obtain⟨b1,b2,b3,b4⟩:=ha.bf h0 h1
  refine⟨b1,b2,b3,b4,?_⟩
  have:=(hg (tN j) (by have:=ha.len;omega)).1
  rw [this]
  exact aOn (t:=(o.1.1,o.1.2)) ⟨b3.1,b3.2.1,by simp only;omega⟩ ⟨b4.1,b4.2.1,by simp only;omega⟩
theorem bAx {a:Int×Int} (h:F94 a=true):vs a:=by
 unfold F94 at h
 by_cases h1:a.1≥-1099511627776
 ·rw [bG h1,cond_true] at h
  by_cases h2:a.1<=a.2
  ·rw [bG h2,cond_true] at h
   exact⟨h1,h2,dL h⟩
  ·rw [cC h2,cond_false] at h;cases h
 ·rw [cC h1,cond_false] at h;cases h
theorem aDk:vs ((0,0):Int×Int):=by unfold vs;omega
theorem oO {α:Type} [Inhabited α] {l:List α} {k i:Nat} {v d:α}:(l.set k v).getD i d=if i=k/\k < l.length then v else l.getD i d:=by
 rw [cV,List.getElem?_set]
 by_cases h:k=i
 ·subst h
  rw [if_pos rfl]
  by_cases h2:k < l.length
  ·rw [if_pos h2,if_pos ⟨rfl,h2⟩];rfl
  ·rw [if_neg h2,if_neg (fun e=>h2 e.2),cV,List.getElem?_eq_none (by omega)]
 ·rw [if_neg h,if_neg (fun e=>h e.1.symm),cV]
structure EV (n:Nat) (t:List (List (Int×Int))):Prop where
 tl:TL n t n
 val:∀i j,vs ((t.getD i []).getD j dF)
theorem EV.put {n:Nat} {t:List (List (Int×Int))} (h:EV n t) {k q:Nat} {v:Int×Int} (hk:k < n)(hv:vs v):EV n (t.set k ((t.getD k []).set q v)):=by
 refine⟨h.tl.set (by rw [List.length_set];exact h.tl.2 k hk) k,fun i j=>?_⟩
 rw [oO]
 split
 ·rw [oO]
  split
  ·exact hv
  ·exact h.val k j
 ·exact h.val i j
theorem EV.rep (n:Nat):EV n (List.replicate n (List.replicate n ((0,0):Int×Int))):=by
 refine⟨⟨by simp,fun j hj=>?_⟩,fun i j=>?_⟩
 ·rw [cV,List.getElem?_replicate,if_pos hj];simp
 ·have e:(List.replicate n (List.replicate n ((0,0):Int×Int))).getD i []=List.replicate n (0,0)\/(List.replicate n (List.replicate n ((0,0):Int×Int))).getD i []=[]:=by
   rw [cV,List.getElem?_replicate]
   split
   ·exact .inl rfl
   ·exact .inr rfl
  rcases e with e | e
  ·rw [e,cV,List.getElem?_replicate]
   split
   ·exact aDk
   ·exact aDk
  ·rw [e];exact aDk
structure EOV (l:bR) (o:lI):Prop where
 ok:EntOK l.length o
 vo:∀i j:Nat,vs ((o.2.2.getD i dF).getD j dF)
theorem aMj {l:bR} {o:lI} (h:nD l o=0)(hsl:∀j:Nat,(o.2.2.getD j dF).length<=10000):EOV l o:=by
 refine⟨aTy h hsl,fun i j=>?_⟩
 obtain⟨ha,hg⟩:=aMi h
 by_cases hi:i < o.2.2.length
 ·by_cases hj:j < (o.2.2.getD i dF).length
  ·exact bAx ((hg i hi).2 j hj)
  ·rw [cV (l:=o.2.2.getD i dF),List.getElem?_eq_none (by omega)];exact aDk
 ·rw [cV (l:=o.2.2),List.getElem?_eq_none (by omega)]
  exact aDk
theorem aX9 {l:bR} {o:lI} (he:EOV l o) {j p lo hi i s b0 b1 c0 c1 s2 k c2 c3 c4 c5 c6 c7 d2 d3 d4 d5 d6 d7 e2 e3 e4 e5 e6 e7:Int} {far:Bool} (h0:0 < l.length)(hc:0<=c0)(hk:k=o.1.1.getD (tN p) dF)(hs2:s2=c1 - c0)(hfar:far=(o.2.1.getD (tN j) dF).2.2) :
 ∀(d n m:Nat) (t:List (List (Int×Int))) (a q:Int),q+d=c1->c0<=q->d < n->d < m->EV l.length t->∃t2 a2,EV l.length t2 /\
   aA (jE l.length o) n (t,j,a,k,j,lo,hi,s,i,c0,c1,s2,q - c0,b0,b1,far,c0,c1,c2,c3,c4,c5,c6,c7)=.inl (t2,j,a2,j,lo,hi,s,i+1,b0,b1,far,c0,c1,c2,c3,c4,c5,c6,c7) /\
   aA (wI l o) m (t,j,a,p,q,lo,hi,d2,d3,d4,d5,d6,d7,c0,c1,e2,e3,e4,e5,e6,e7)=.inl (t2,j,a2,p+1,lo,hi,d2,d3,d4,d5,d6,d7,c0,c1,e2,e3,e4,e5,e6,e7)
 | 0,n,m,t,a,q,hq,hcq,hn,hm,ht=>by
  obtain⟨n,rfl⟩:∃x,n=x+1:=⟨n - 1,by omega⟩
  obtain⟨m,rfl⟩:∃x,m=x+1:=⟨m - 1,by omega⟩
  refine⟨t,a,ht,?_,?_⟩
  ·refine aC ?_
   simp only [jE]
   rw [cC (by omega),cond_false]
  ·refine aC ?_
   simp only [wI]
   rw [cC (by omega),cond_false]
 | d+1,n,m,t,a,q,hq,hcq,hn,hm,ht=>by
  obtain⟨n,rfl⟩:∃x,n=x+1:=⟨n - 1,by omega⟩
  obtain⟨m,rfl⟩:∃x,m=x+1:=⟨m - 1,by omega⟩
  have hkr:=he.ok.ord.atD (by omega) (tN p)
  rw [←hk,eX] at hkr
  have ht2:EV l.length (t.set (tN k) ((t.getD (tN k) []).set (tN (o.1.1.getD (tN q) dF)) ((o.2.2.getD (tN j) dF).getD (tN a) dF))):=ht.put (by omega) (he.vo _ _)
  have e1:jE l.length o (t,j,a,k,j,lo,hi,s,i,c0,c1,s2,q - c0,b0,b1,far,c0,c1,c2,c3,c4,c5,c6,c7) =
   .inl (t.set (tN k) ((t.getD (tN k) []).set (tN (o.1.1.getD (tN q) dF)) ((o.2.2.getD (tN j) dF).getD (tN a) dF)),j,(bif !far then W (a+1) else a),k,j,lo,hi,s,i,c0,c1,s2,q+1 - c0,b0,b1,far,c0,c1,c2,c3,c4,c5,c6,c7):=by
   simp only [jE,pO,lC]
   rw [bG (by omega),cond_true,show tN c0+tN (q - c0)=tN q from by omega,show q - c0+1=q+1 - c0 from by omega]
   cases far<;>rfl
  have e2:wI l o (t,j,a,p,q,lo,hi,d2,d3,d4,d5,d6,d7,c0,c1,e2,e3,e4,e5,e6,e7) =
   .inl (t.set (tN k) ((t.getD (tN k) []).set (tN (o.1.1.getD (tN q) dF)) ((o.2.2.getD (tN j) dF).getD (tN a) dF)),j,(bif !far then W (a+1) else a),p,q+1,lo,hi,d2,d3,d4,d5,d6,d7,c0,c1,e2,e3,e4,e5,e6,e7):=by
   simp only [wI,aE6,aE5]
   rw [bG (by omega),cond_true,←hfar,←hk]
   cases far<;>rfl
  rw [aB e1,aB e2]
  exact aX9 he h0 hc hk hs2 hfar d n m _ _ (q+1) (by omega) (by omega) (by omega) (by omega) ht2
theorem aYa {l:bR} {o:lI} (he:EOV l o) {j lo hi s b0 b1 c0 c1 c2 c3 c4 c5 c6 c7 d2 d3 d4 d5 d6 d7 e2 e3 e4 e5 e6 e7:Int} {far:Bool} (h0:0 < l.length)(hc:0<=c0/\c0<=c1)(hlo:0<=lo)(hs:s=hi - lo)(hfar:far=(o.2.1.getD (tN j) dF).2.2) :
 ∀(d n m:Nat) (t:List (List (Int×Int))) (a p:Int),p+d=hi->lo<=p->d < n->d < m->EV l.length t->∃t2,EV l.length t2 /\
   aA (iC l.length o) n (t,j,a,j,lo,hi,s,p - lo,b0,b1,far,c0,c1,c2,c3,c4,c5,c6,c7)=.inl (t2,j+1) /\
   aA (wJ l o) m (t,j,a,p,lo,hi,d2,d3,d4,d5,d6,d7,c0,c1,e2,e3,e4,e5,e6,e7)=.inl (t2,j+1)
 | 0,n,m,t,a,p,hq,hcq,hn,hm,ht=>by
  obtain⟨n,rfl⟩:∃x,n=x+1:=⟨n - 1,by omega⟩
  obtain⟨m,rfl⟩:∃x,m=x+1:=⟨m - 1,by omega⟩
  refine⟨t,ht,?_,?_⟩
  ·refine aC ?_
   simp only [iC]
   rw [cC (by omega),cond_false]
  ·refine aC ?_
   simp only [wJ]
   rw [cC (by omega),cond_false]
 | d+1,n,m,t,a,p,hq,hcq,hn,hm,ht=>by
  obtain⟨n,rfl⟩:∃x,n=x+1:=⟨n - 1,by omega⟩
  obtain⟨m,rfl⟩:∃x,m=x+1:=⟨m - 1,by omega⟩
  obtain⟨t2,a2,g1,g2,g3⟩:=aX9 (lo:=lo) (hi:=hi) (i:=p - lo) (s:=s) (b0:=b0) (b1:=b1) (c2:=c2) (c3:=c3) (c4:=c4) (c5:=c5) (c6:=c6) (c7:=c7) (d2:=d2) (d3:=d3) (d4:=d4) (d5:=d5) (d6:=d6) (d7:=d7) (e2:=e2) (e3:=e3) (e4:=e4) (e5:=e5) (e6:=e6) (e7:=e7) he h0 hc.1 rfl (s2:=((tN c1 - tN c0:Nat):Int)) (c1:=c1) (by omega) hfar (tN (c1 - c0)) (tN (((tN c1 - tN c0:Nat):Int) - 0)+1) (tN (c1 - c0)+1) t a c0 (by omega) (Int.le_refl _) (by omega) (by omega) ht (p:=p)
  rw [Int.sub_self] at g2
  have e1:iC l.length o (t,j,a,j,lo,hi,s,p - lo,b0,b1,far,c0,c1,c2,c3,c4,c5,c6,c7)=.inl (t2,j,a2,j,lo,hi,s,p+1 - lo,b0,b1,far,c0,c1,c2,c3,c4,c5,c6,c7):=by
   simp only [iC]
   rw [bG (by omega),cond_true,show tN lo+tN (p - lo)=tN p from by omega,g2,show p - lo+1=p+1 - lo from by omega]
  have e2:wJ l o (t,j,a,p,lo,hi,d2,d3,d4,d5,d6,d7,c0,c1,e2,e3,e4,e5,e6,e7)=.inl (t2,j,a2,p+1,lo,hi,d2,d3,d4,d5,d6,d7,c0,c1,e2,e3,e4,e5,e6,e7):=by
   simp only [wJ]
   rw [bG (by omega),cond_true,g3]
  rw [aB e1,aB e2]
  exact aYa he h0 hc hlo hs hfar d n m t2 a2 (p+1) (by omega) (by omega) (by omega) (by omega) g1
theorem aYb {l:bR} {o:lI} (he:EOV l o):∀(d n m:Nat) (t:List (List (Int×Int))) (j:Int),j+d=o.2.1.length->0<=j->d < n->d < m->EV l.length t->∃t2,EV l.length t2 /\
 aA (gF l.length o) n (t,j)=t2/\aA (sI l o) m (t,j)=t2
 | 0,n,m,t,j,hj,h0,hn,hm,ht=>by
  obtain⟨n,rfl⟩:∃x,n=x+1:=⟨n - 1,by omega⟩
  obtain⟨m,rfl⟩:∃x,m=x+1:=⟨m - 1,by omega⟩
  refine⟨t,ht,?_,?_⟩
  ·refine aC ?_
   simp only [gF]
   rw [cC (by omega),cond_false];rfl
  ·refine aC ?_
   simp only [sI]
   rw [cC (by omega),cond_false];rfl
 | d+1,n,m,t,j,hj,h0,hn,hm,ht=>by
  obtain⟨n,rfl⟩:∃x,n=x+1:=⟨n - 1,by omega⟩
  obtain⟨m,rfl⟩:∃x,m=x+1:=⟨m - 1,by omega⟩
  have hb:=he.ok.blk j h0 (by omega)
  have hl:=he.ok.nz (by omega)
  obtain⟨b1,b2,b3,b4,_⟩:=hb
  generalize hN1:o.1.2.getD (tN (o.2.1.getD (tN j) dF).1) dF=N1 at b3
  generalize hN2:o.1.2.getD (tN (o.2.1.getD (tN j) dF).2.1) dF=N2 at b4
  obtain⟨t2,g1,g2,g3⟩:=aYa (b0:=(o.2.1.getD (tN j) dF).1) (b1:=(o.2.1.getD (tN j) dF).2.1) (far:=(o.2.1.getD (tN j) dF).2.2) (c0:=N2.1) (c1:=N2.2.1) (c2:=N2.2.2.1) (c3:=N2.2.2.2.1) (c4:=N2.2.2.2.2.1.1) (c5:=N2.2.2.2.2.1.2.1) (c6:=N2.2.2.2.2.1.2.2) (c7:=N2.2.2.2.2.2)
   (d2:=N1.2.2.1) (d3:=N1.2.2.2.1) (d4:=N1.2.2.2.2.1.1) (d5:=N1.2.2.2.2.1.2.1) (d6:=N1.2.2.2.2.1.2.2) (d7:=N1.2.2.2.2.2) (e2:=N2.2.2.1) (e3:=N2.2.2.2.1) (e4:=N2.2.2.2.2.1.1) (e5:=N2.2.2.2.2.1.2.1) (e6:=N2.2.2.2.2.1.2.2) (e7:=N2.2.2.2.2.2) he (by omega) ⟨b4.1,b4.2.1⟩ b3.1 (s:=((tN N1.2.1 - tN N1.1:Nat):Int)) (hi:=N1.2.1) (by omega) rfl
   (tN (N1.2.1 - N1.1)) (tN (((tN N1.2.1 - tN N1.1:Nat):Int) - 0)+1) (tN (N1.2.1 - N1.1)+1) t 0 N1.1 (by omega) (Int.le_refl _) (by omega) (by omega) ht (j:=j)
  rw [Int.sub_self] at g2
  have e1:gF l.length o (t,j)=.inl (t2,j+1):=by
   simp only [gF]
   rw [bG (by omega),cond_true,hN1,hN2]
   exact g2
  have e2:sI l o (t,j)=.inl (t2,j+1):=by
   simp only [sI]
   rw [bG (by omega),cond_true,hN1,hN2]
   exact g3
  rw [aB e1,aB e2]
  exact aYb he d n m t2 (j+1) (by omega) (by omega) (by omega) (by omega) g1
theorem aJx {α:Type} (n:Nat)(r:α):List.replicate n r++[r]=List.replicate (n+1) r:=by rw [List.replicate_succ']
theorem aWx {α:Type} (i d:Nat)(r z:α):(List.replicate i r++List.replicate (d+1) z).set i r=List.replicate (i+1) r++List.replicate d z:=by
 rw [List.set_append,if_neg (by simp),List.length_replicate,Nat.sub_self,List.replicate_succ,List.set_cons_zero,←aJx,List.append_assoc];rfl
theorem aTz (l:bR)(o:lI):∀(d i n:Nat),i+d=l.length->d < n->aA (mG l.length o) n (List.replicate i (List.replicate l.length ((0,0):Int×Int))++List.replicate d [],(i:Int)) =
 aA (gF l.length o) (tN ((o.2.1.length:Int) - 0)+1) (List.replicate l.length (List.replicate l.length ((0,0):Int×Int)),0)
 | 0,i,n,hi,hn=>by
  obtain⟨n,rfl⟩:∃x,n=x+1:=⟨n - 1,by omega⟩
  obtain rfl:i=l.length:=by omega
  refine aC ?_
  simp only [mG]
  rw [cC (by rw [eX];omega),cond_false,List.replicate_zero,List.append_nil]
 | d+1,i,n,hi,hn=>by
  obtain⟨n,rfl⟩:∃x,n=x+1:=⟨n - 1,by omega⟩
  have e:mG l.length o (List.replicate i (List.replicate l.length ((0,0):Int×Int))++List.replicate (d+1) [],(i:Int))=.inl (List.replicate (i+1) (List.replicate l.length ((0,0):Int×Int))++List.replicate d [],((i+1:Nat):Int)):=by
   simp only [mG,yO,yN]
   rw [bG (by rw [eX];omega),cond_true,eX,eX,aWx];rfl
  rw [aB e]
  exact aTz l o d (i+1) n (by omega) (by omega)
theorem aYc (l:bR)(o:lI):∀(d i n:Nat),i+d=l.length->d < n->aA (wK l o) n (List.replicate i (List.replicate l.length ((0,0):Int×Int)),(i:Int)) =
 aA (sI l o) (tN ((o.2.1.length:Int) - 0)+1) (List.replicate l.length (List.replicate l.length ((0,0):Int×Int)),0)
 | 0,i,n,hi,hn=>by
  obtain⟨n,rfl⟩:∃x,n=x+1:=⟨n - 1,by omega⟩
  obtain rfl:i=l.length:=by omega
  refine aC ?_
  simp only [wK]
  rw [cC (by omega),cond_false]
 | d+1,i,n,hi,hn=>by
  obtain⟨n,rfl⟩:∃x,n=x+1:=⟨n - 1,by omega⟩
  have e:wK l o (List.replicate i (List.replicate l.length ((0,0):Int×Int)),(i:Int))=.inl (List.replicate (i+1) (List.replicate l.length ((0,0):Int×Int)),((i+1:Nat):Int)):=by
   simp only [wK,aJu,aJt]
   rw [bG (by omega),cond_true,aJx];rfl
  rw [aB e]
  exact aYc l o d (i+1) n (by omega) (by omega)
theorem aT0 {l:bR} {o:lI} (he:EOV l o):F43 l.length o=aE7 l o/\EV l.length (aE7 l o):=by
 obtain⟨t2,g1,g2,g3⟩:=aYb he o.2.1.length (tN ((o.2.1.length:Int) - 0)+1) (tN ((o.2.1.length:Int) - 0)+1) _ 0 (by omega) (Int.le_refl _) (by omega) (by omega) (EV.rep l.length)
 have e1:=aTz l o l.length 0 (tN ((((tN (l.length:Int)):Nat):Int) - 0)+1) (by omega) (by rw [eX];omega)
 have e2:=aYc l o l.length 0 (tN ((l.length:Int) - 0)+1) (by omega) (by omega)
 have f1:F43 l.length o=t2:=by
  unfold F43
  rw [g2] at e1
  exact e1
 have f2:aE7 l o=t2:=by
  unfold aE7
  rw [g3] at e2
  exact e2
 rw [f1,f2]
 exact⟨rfl,g1⟩
theorem aDl {l:bR} {o:lI} (h:nD l o=0)(hsl:∀j:Nat,(o.2.2.getD j dF).length<=10000):l.length<=96/\(F43 l.length o).length=l.length/\(∀j:Nat,j < l.length->((F43 l.length o).getD j dF).length=l.length) /\
 (aE7 l o).length=l.length/\(∀j:Nat,j < l.length->((aE7 l o).getD j dF).length=l.length):=by
 have he:=aMj h hsl
 obtain⟨e,hv⟩:=aT0 he
 have:=he.ok.n1
 rw [e]
 exact⟨by omega,hv.tl.1,fun j hj=>hv.tl.2 j hj,hv.tl.1,fun j hj=>hv.tl.2 j hj⟩
theorem rL {n m k:Int} (h:(!(kM n k m))=false):k<=n/\n<=m:=by
 unfold kM at h
 by_cases h1:n≥k
 ·rw [bG h1,cond_true] at h
  by_cases h2:n<=m
  ·exact⟨h1,h2⟩
  ·rw [cC h2] at h;cases h
 ·rw [cC h1,cond_false] at h;cases h
theorem yU {n m k:Int} (h:(!(F51 n k m))=false):k<=n/\n<=m:=rL h
def gS (a0:bE)(a1:(List Int×aY)×(List (Int×Int×Bool))×List (List (Int×Int))):(List (Int×Int))×Int :=
 (bif (((pX a0 ((a1.1.1,a1.1.2),a1.2.1,a1.2.2)):Int) != 0) then
  (([]:List (Int×Int)),(pX a0 ((a1.1.1,a1.1.2),a1.2.1,a1.2.2)))
 else
  ((fI a0 (F43 (a0.length:Int) ((a1.1.1,a1.1.2),a1.2.1,a1.2.2))).1,(fI a0 (F43 (a0.length:Int) ((a1.1.1,a1.1.2),a1.2.1,a1.2.2))).2))
theorem bD0 (a0:bE)(a1:(List Int×aY)×(List (Int×Int×Bool))×List (List (Int×Int)))(l0:a0.length<=2^63-1)(l1_1_1:a1.1.1.length<=2^63-1)(l1_1_2:a1.1.2.length<=2^63-1)(l1_2_1:a1.2.1.length<=2^63-1)(l1_2_2:a1.2.2.length<=2^63-1) [h5:bL a0] (hsl:∀j:Nat,(a1.2.2.getD j dF).length<=10000):Con Tryz.prog 11 [(.s 0 0 a0.length 10),(.a [(.s 1 0 a1.1.1.length 1),(.s 2 0 a1.1.2.length 8),(.s 3 0 a1.2.1.length 3),(.s 4 0 a1.2.2.length 1)])] [(.live false true (flat fK a0)),(.live false true (flat c3 a1.1.1)),(.live false true (flat dM a1.1.2)),(.live false true (flat iT a1.2.1)),(.live false true (flat fW a1.2.2))] (.t [(.s 5 0 (gS a0 a1).1.length 2),(iv (gS a0 a1).2)]) [(.live true true (flat eP (gS a0 a1).1))]:=by
 refine aU Tryz.func11 (by kernel_rfl) fun cx hcx=>?_
 try have hra:nD a0 ((a1.1.1,a1.1.2),a1.2.1,a1.2.2)=0:=by rw [←aDj];exact bne_eq_false_iff_eq.1 h0
 try have hdm:=(fun _=>aDl (o:=((a1.1.1,a1.1.2),a1.2.1,a1.2.2)) hra hsl) h0
 try have hd1:=(fun _=>hdm.1) h0
 try have hd2:=(fun _=>hdm.2.1) h0
 try have hd3:=(fun _=>hdm.2.2.2.1) h0
 try have hww:=(fun _=>aH (n:=(a0.length:Int) - 1) (by omega) (by omega)) h1
 try have hw1:=rL h1
 try have hw2:=rL h2
 try have hw1:=yU h1
 try have hw2:=yU h2
 let t0:List (St Tryz.prog):=[.c [0,1,2,3,4] (bDz a0 ((a1.1.1,a1.1.2),a1.2.1,a1.2.2) (by(try simp only [Lt]);omega) (by(try simp only [Lt]);omega) (by(try simp only [Lt]);omega) (by(try simp only [Lt]);omega) (by(try simp only [Lt]);omega) hsl)]
 cases h0:(((pX a0 ((a1.1.1,a1.1.2),a1.2.1,a1.2.2)):Int) != 0) with
 | true =>
  have q0:=bne_iff_ne.1 h0
  try have hra:nD a0 ((a1.1.1,a1.1.2),a1.2.1,a1.2.2)=0:=by rw [←aDj];exact bne_eq_false_iff_eq.1 h0
  try have hdm:=(fun _=>aDl (o:=((a1.1.1,a1.1.2),a1.2.1,a1.2.2)) hra hsl) h0
  try have hd1:=(fun _=>hdm.1) h0
  try have hd2:=(fun _=>hdm.2.1) h0
  try have hd3:=(fun _=>hdm.2.2.2.1) h0
  try have hww:=(fun _=>aH (n:=(a0.length:Int) - 1) (by omega) (by omega)) h1
  try have hw1:=rL h1
  try have hw2:=rL h2
  try have hw1:=yU h1
  try have hw2:=yU h2
  have e:=Eq.refl (gS a0 a1);conv at e=>rhs;simp only [gS,h0,aW]
  rw [e]
  exact rt (t0++[.d h0]) [.slot 4 2] [6] hcx (by kernel_rfl)
 | false =>
  have q0:=bne_eq_false_iff_eq.1 h0
  try have hra:nD a0 ((a1.1.1,a1.1.2),a1.2.1,a1.2.2)=0:=by rw [←aDj];exact bne_eq_false_iff_eq.1 h0
  try have hdm:=(fun _=>aDl (o:=((a1.1.1,a1.1.2),a1.2.1,a1.2.2)) hra hsl) h0
  try have hd1:=(fun _=>hdm.1) h0
  try have hd2:=(fun _=>hdm.2.1) h0
  try have hd3:=(fun _=>hdm.2.2.2.1) h0
  try have hww:=(fun _=>aH (n:=(a0.length:Int) - 1) (by omega) (by omega)) h1
  try have hw1:=rL h1
  try have hw2:=rL h2
  try have hw1:=yU h1
  try have hw2:=yU h2
  have e:=Eq.refl (gS a0 a1);conv at e=>rhs;simp only [gS,h0,aW]
  rw [e]
  exact rt (t0++[.d h0,.c [1,2,3,4] (C43 (a0.length:Int) ((a1.1.1,a1.1.2),a1.2.1,a1.2.2) (by(try simp only [Lt]);omega) (by(try simp only [Lt]);omega) (by(try simp only [Lt]);omega) (by(try simp only [Lt]);omega) (aTy hra hsl)),.c [0,6] (aOm a0 (F43 (a0.length:Int) ((a1.1.1,a1.1.2),a1.2.1,a1.2.2)) (by(try simp only [Lt]);omega) (by(try simp only [Lt]);omega) ⟨hdm.1,hdm.2.1,hdm.2.2.1⟩)]) [] [7] hcx (by kernel_rfl)
def aHc (w:Int)(q:PN)(X:P3):Prop:=∃i j k:Int,0<=i/\0<=j/\0<=k/\i+j+k=w/\X.1=i*q.1.1+j*q.2.1.1+k*q.2.2.1/\X.2.1=i*q.1.2.1+j*q.2.1.2.1+k*q.2.2.2.1/\X.2.2=i*q.1.2.2+j*q.2.1.2.2+k*q.2.2.2.2
theorem aHd {w v:Int} {q:PN} {X Y:P3} (h:aHc w q X)(h':aHc v q Y):aHc (w+v) q (ad X Y):=by
 obtain⟨i,j,k,a1,a2,a3,a4,a5,a6,a7⟩:=h
 obtain⟨i',j',k',b1,b2,b3,b4,b5,b6,b7⟩:=h'
 refine⟨i+i',j+j',k+k',by omega,by omega,by omega,by omega,?_,?_,?_⟩
 ·simp only [ad];rw [a5,b5];grind
 ·simp only [ad];rw [a6,b6];grind
 ·simp only [ad];rw [a7,b7];grind
theorem aJy:∀(d:Nat) {m:Int} {q b:PN},bdP m q->m*2 ^ d<=100000->0<=m->b∈bI d q->aHc (2 ^ d) q b.1/\aHc (2 ^ d) q b.2.1/\aHc (2 ^ d) q b.2.2
 | 0,m,q,b,h,_,_,hx=>by
  simp only [bI,List.mem_singleton] at hx
  subst hx
  exact⟨⟨1,0,0,by simp,by simp,by simp,by simp,by simp,by simp,by simp⟩,⟨0,1,0,by simp,by simp,by simp,by simp,by simp,by simp,by simp⟩,⟨0,0,1,by simp,by simp,by simp,by simp,by simp,by simp,by simp⟩⟩
 | d+1,m,q,b,h,hm,h0,hx=>by
  rw [eR,List.mem_flatMap] at hx
  obtain⟨y,hy,hx⟩:=hx
  have hp:(0:Int) < 2 ^ d:=Int.pow_pos (by omega)
  have hle:m*2 ^ d<=m*2 ^ (d+1):=Int.mul_le_mul_of_nonneg_left (by rw [Int.pow_succ];omega) h0
  have hb:=rW d h (by omega) h0 hy
  obtain⟨i1,i2,i3⟩:=aJy d h (by omega) h0 hy
  obtain⟨a1,b1,a2,b2,a3,b3,h1,k1,h2,k2,h3,k3,rfl⟩:=aGj (hb.mono (by omega)) hx
  have key:∀a:P3,(a=y.1\/a=y.2.1\/a=y.2.2)->aHc (2 ^ d) q a:=fun a ha=>by rcases ha with rfl | rfl | rfl<;>assumption
  have e:(2:Int) ^ (d+1)=2 ^ d+2 ^ d:=by rw [Int.pow_succ];omega
  rw [e]
  exact⟨aHd (key _ h1) (key _ k1),aHd (key _ h2) (key _ k2),aHd (key _ h3) (key _ k3)⟩
theorem cau (i j k u v t:Int)(hi:0<=i)(hj:0<=j)(hk:0<=k):(i*u+j*v+k*t)*(i*u+j*v+k*t)<=(i+j+k)*(i*(u*u)+j*(v*v)+k*(t*t)):=by
 have h1:=Int.mul_nonneg (Int.mul_nonneg hi hj) (dP (u - v))
 have h2:=Int.mul_nonneg (Int.mul_nonneg hi hk) (dP (u - t))
 have h3:=Int.mul_nonneg (Int.mul_nonneg hj hk) (dP (v - t))
 have e:(i+j+k)*(i*(u*u)+j*(v*v)+k*(t*t)) - (i*u+j*v+k*t)*(i*u+j*v+k*t)=i*j*((u - v)*(u - v))+i*k*((u - t)*(u - t))+j*k*((v - t)*(v - t)):=by grind
 omega
theorem aWy {w M:Int} {q:PN} {X Z:P3} (hw:1<=w)(h:aHc w q X)(h1:ds (tm w q.1) Z<=M)(h2:ds (tm w q.2.1) Z<=M)(h3:ds (tm w q.2.2) Z<=M):ds X Z<=M:=by
 obtain⟨i,j,k,a1,a2,a3,a4,a5,a6,a7⟩:=h
 have c1:=cau i j k (w*q.1.1 - Z.1) (w*q.2.1.1 - Z.1) (w*q.2.2.1 - Z.1) a1 a2 a3
 have c2:=cau i j k (w*q.1.2.1 - Z.2.1) (w*q.2.1.2.1 - Z.2.1) (w*q.2.2.2.1 - Z.2.1) a1 a2 a3
 have c3:=cau i j k (w*q.1.2.2 - Z.2.2) (w*q.2.1.2.2 - Z.2.2) (w*q.2.2.2.2 - Z.2.2) a1 a2 a3
 rw [a4] at c1 c2 c3
 have f1:i*(w*q.1.1 - Z.1)+j*(w*q.2.1.1 - Z.1)+k*(w*q.2.2.1 - Z.1)=w*(X.1 - Z.1):=by rw [a5];subst a4;grind
 have f2:i*(w*q.1.2.1 - Z.2.1)+j*(w*q.2.1.2.1 - Z.2.1)+k*(w*q.2.2.2.1 - Z.2.1)=w*(X.2.1 - Z.2.1):=by rw [a6];subst a4;grind
 have f3:i*(w*q.1.2.2 - Z.2.2)+j*(w*q.2.1.2.2 - Z.2.2)+k*(w*q.2.2.2.2 - Z.2.2)=w*(X.2.2 - Z.2.2):=by rw [a7];subst a4;grind
 rw [f1] at c1;rw [f2] at c2;rw [f3] at c3
 have g1:=Int.mul_le_mul_of_nonneg_left h1 a1;have g2:=Int.mul_le_mul_of_nonneg_left h2 a2;have g3:=Int.mul_le_mul_of_nonneg_left h3 a3
 have e:w*w*ds X Z<=w*w*M:=by
  have e1:w*w*ds X Z=w*(X.1 - Z.1)*(w*(X.1 - Z.1))+w*(X.2.1 - Z.2.1)*(w*(X.2.1 - Z.2.1))+w*(X.2.2 - Z.2.2)*(w*(X.2.2 - Z.2.2)):=by unfold ds dt sb;grind
  have e2:w*(i*ds (tm w q.1) Z+j*ds (tm w q.2.1) Z+k*ds (tm w q.2.2) Z)=w*(i*((w*q.1.1 - Z.1)*(w*q.1.1 - Z.1))+j*((w*q.2.1.1 - Z.1)*(w*q.2.1.1 - Z.1))+k*((w*q.2.2.1 - Z.1)*(w*q.2.2.1 - Z.1)))+w*(i*((w*q.1.2.1 - Z.2.1)*(w*q.1.2.1 - Z.2.1))+j*((w*q.2.1.2.1 - Z.2.1)*(w*q.2.1.2.1 - Z.2.1))+k*((w*q.2.2.2.1 - Z.2.1)*(w*q.2.2.2.1 - Z.2.1)))+w*(i*((w*q.1.2.2 - Z.2.2)*(w*q.1.2.2 - Z.2.2))+j*((w*q.2.1.2.2 - Z.2.2)*(w*q.2.1.2.2 - Z.2.2))+k*((w*q.2.2.2.2 - Z.2.2)*(w*q.2.2.2.2 - Z.2.2))):=by unfold ds dt sb tm;grind
  have e3:w*(i*ds (tm w q.1) Z+j*ds (tm w q.2.1) Z+k*ds (tm w q.2.2) Z)<=w*(i*M+j*M+k*M):=Int.mul_le_mul_of_nonneg_left (by omega) (by omega)
  have e4:w*(i*M+j*M+k*M)=w*w*M:=by
   rw [show i*M+j*M+k*M=(i+j+k)*M by grind,a4];grind
  omega
 exact Int.le_of_mul_le_mul_left e (Int.mul_pos (by omega) (by omega))
abbrev Cd:=Int×Int×Bool
def pt (p:PN)(w i j:Int):P3:=(w*p.1.1+i*(p.2.1.1 - p.1.1)+j*(p.2.2.1 - p.1.1),w*p.1.2.1+i*(p.2.1.2.1 - p.1.2.1)+j*(p.2.2.2.1 - p.1.2.1),w*p.1.2.2+i*(p.2.1.2.2 - p.1.2.2)+j*(p.2.2.2.2 - p.1.2.2))
def nV (p:PN)(w:Int):Cd->PN
 | (i,j,false)=>(pt p w i j,pt p w (i+1) j,pt p w i (j+1))
 | (i,j,true)=>(pt p w (i+1) j,pt p w (i+1) (j+1),pt p w i (j+1))
def k1:Cd->Cd
 | (i,j,false)=>(2*i,2*j,false)
 | (i,j,true)=>(2*i+1,2*j,true)
def kk2:Cd->Cd
 | (i,j,false)=>(2*i+1,2*j,false)
 | (i,j,true)=>(2*i+1,2*j+1,true)
def kk3:Cd->Cd
 | (i,j,false)=>(2*i,2*j+1,false)
 | (i,j,true)=>(2*i,2*j+1,true)
def kk4:Cd->Cd
 | (i,j,false)=>(2*i,2*j,true)
 | (i,j,true)=>(2*i+1,2*j+1,false)
def KL:Nat->Cd->List Cd
 | 0,c=>[c]
 | d+1,c=>KL d (k1 c)++(KL d (kk2 c)++(KL d (kk3 c)++KL d (kk4 c)))
theorem qs {y:PN} (h:bdP 100000 y):q1 y=(ad y.1 y.1,ad y.1 y.2.1,ad y.2.2 y.1)/\q2 y=(ad y.1 y.2.1,ad y.2.1 y.2.1,ad y.2.1 y.2.2)/\q3 y=(ad y.2.2 y.1,ad y.2.1 y.2.2,ad y.2.2 y.2.2)/\q4 y=(ad y.1 y.2.1,ad y.2.1 y.2.2,ad y.2.2 y.1):=by
 have e:∀p:P3,(2*p.1,2*p.2.1,2*p.2.2)=ad p p:=fun p=>by unfold ad;simp only [dE];omega
 unfold q1 q2 q3 q4
 rw [lV h.1 h.2.1,lV h.2.2 h.1,lV h.2.1 h.2.2,fQ h.1,fQ h.2.1,fQ h.2.2,e,e,e]
 exact⟨rfl,rfl,rfl,rfl⟩
theorem aYd (p:PN)(w i j i' j':Int):ad (pt p w i j) (pt p w i' j')=pt p (2*w) (i+i') (j+j'):=by
 unfold ad pt;simp only [dE];refine⟨?_,?_,?_⟩<;>grind
theorem bD1 {p:PN} {w:Int} (c:Cd)(h:bdP 100000 (nV p w c)):q1 (nV p w c)=nV p (2*w) (k1 c)/\q2 (nV p w c)=nV p (2*w) (kk2 c)/\q3 (nV p w c)=nV p (2*w) (kk3 c) /\
 (q4 (nV p w c)=nV p (2*w) (kk4 c)\/q4 (nV p w c)=tBC (tAB (nV p (2*w) (kk4 c)))):=by
 obtain⟨e1,e2,e3,e4⟩:=qs h
 rw [e1,e2,e3,e4]
 obtain⟨i,j,o⟩:=c
 cases o
 ·simp only [nV,k1,kk2,kk3,kk4,aYd]
  refine⟨?_,?_,?_,Or.inl ?_⟩<;>(simp only [dE];refine⟨?_,?_,?_⟩<;>congr 1<;>omega)
 ·simp only [nV,k1,kk2,kk3,kk4,aYd,tBC,tAB]
  refine⟨?_,?_,?_,Or.inr ?_⟩<;>(simp only [dE];refine⟨?_,?_,?_⟩<;>congr 1<;>omega)
theorem yV {g:PN->Int} (h1:∀p,g (tBC p)=g p)(h2:∀p,g (tAC p)=g p)(h3:∀p,g (tAB p)=g p) {p:PN} :
 ∀(d:Nat) {m:Int} (w:Int) (c:Cd),bdP m (nV p w c)->m*2 ^ d<=100000->0<=m->qD g d (nV p w c)=((KL d c).map fun k=>g (nV p (2 ^ d*w) k)).sum
 | 0,m,w,c,_,_,_=>by simp [qD,bI,KL]
 | d+1,m,w,c,h,hm,h0=>by
  have hp:(0:Int) < 2 ^ d:=Int.pow_pos (by omega)
  have hle:m*1<=m*2 ^ (d+1):=Int.mul_le_mul_of_nonneg_left (by rw [Int.pow_succ];omega) h0
  have hb:bdP 100000 (nV p w c):=h.mono (by omega)
  obtain⟨e1,e2,e3,e4⟩:=bD1 c hb
  have hm':2*m*2 ^ d<=100000:=by rw [Int.pow_succ] at hm;rw [Int.mul_comm 2 m,Int.mul_assoc,Int.mul_comm 2];exact hm
  have b1:=vN h (show m<=100000 by omega) (show q1 (nV p w c)∈nH (nV p w c) by simp [nH])
  have b2:=vN h (show m<=100000 by omega) (show q2 (nV p w c)∈nH (nV p w c) by simp [nH])
  have b3:=vN h (show m<=100000 by omega) (show q3 (nV p w c)∈nH (nV p w c) by simp [nH])
  have b4:=vN h (show m<=100000 by omega) (show q4 (nV p w c)∈nH (nV p w c) by simp [nH])
  rw [e1] at b1;rw [e2] at b2;rw [e3] at b3
  have hw:(2:Int) ^ (d+1)*w=2 ^ d*(2*w):=by rw [Int.pow_succ,Int.mul_assoc]
  rw [jR,e1,e2,e3,yV h1 h2 h3 d (2*w) (k1 c) b1 hm' (by omega),yV h1 h2 h3 d (2*w) (kk2 c) b2 hm' (by omega),yV h1 h2 h3 d (2*w) (kk3 c) b3 hm' (by omega)]
  have g4:qD g d (q4 (nV p w c))=((KL d (kk4 c)).map fun k=>g (nV p (2 ^ d*(2*w)) k)).sum:=by
   rcases e4 with e4 | e4
   ·rw [e4] at b4 ⊢;exact yV h1 h2 h3 d (2*w) (kk4 c) b4 hm' (by omega)
   ·rw [e4] at b4 ⊢
    have b5:bdP (2*m) (nV p (2*w) (kk4 c)):=by
     obtain⟨z1,z2,z3⟩:=b4;exact⟨z3,z1,z2⟩
    rw [(aLd h1 h2 h3 d _).1,(aLd h1 h2 h3 d _).2.2]
    exact yV h1 h2 h3 d (2*w) (kk4 c) b5 hm' (by omega)
  rw [g4,hw]
  simp only [KL,List.map_append,List.sum_append]
theorem aYe (p:PN):nV p 1 (0,0,false)=p:=by
 unfold nV pt
 simp only [Int.zero_mul,Int.one_mul,Int.add_zero,Int.zero_add]
 have e:∀a b:Int,a+(b - a)=b:=fun a b=>by omega
 simp only [e]
theorem aQc {g:PN->Int} (h1:∀p,g (tBC p)=g p)(h2:∀p,g (tAC p)=g p)(h3:∀p,g (tAB p)=g p) {p:PN} (hp:bdP 512 p) {d:Nat} (hd:d<=3) :
 qD g d p=((KL d (0,0,false)).map fun k=>g (nV p (2 ^ d) k)).sum:=by
 have hm:(512:Int)*2 ^ d<=100000:=by
  have:d=0\/d=1\/d=2\/d=3:=by omega
  rcases this with rfl | rfl | rfl | rfl<;>decide
 have h:=yV h1 h2 h3 (p:=p) d (m:=512) 1 (0,0,false) (by rw [aYe];exact hp) hm (by omega)
 rw [aYe,Int.mul_one] at h
 exact h
def cn (b:Int->Bool):Nat->Int
 | 0=>0
 | n+1=>cn b n+(if b n then 1 else 0)
theorem aYf {b:Int->Bool} {lo:Int}:∀n:Nat,(∀i:Nat,i < n->b i=true->lo<=i)->cn b n<=0\/cn b n<=n - lo
 | 0,_=>Or.inl (Int.le_refl _)
 | n+1,h=>by
  have ih:=aYf (lo:=lo) n (fun i hi hb=>h i (by omega) hb)
  unfold cn
  by_cases hb:b n=true
  ·have:=h n (by omega) hb
   rw [if_pos hb];omega
  ·rw [if_neg hb];omega
theorem aT1 {b:Int->Bool} {M:Int} (hM:0<=M):∀n:Nat,(∀i i':Nat,i<=i'->i' < n->b i=true->b i'=true->(i':Int)+1 - i<=M)->cn b n<=M
 | 0,_=>hM
 | n+1,h=>by
  by_cases hb:b n=true
  ·have h1:(1:Int)<=M:=by have:=h n n (by omega) (by omega) hb hb;omega
   have h2:=aYf (b:=b) (lo:=n+1 - M) n (fun i hi hbi=>by have:=h i n (by omega) (by omega) hbi hb;omega)
   unfold cn
   rw [if_pos hb];omega
  ·have:=aT1 hM n (fun i i' h1 h2=>h i i' h1 (by omega))
   unfold cn
   rw [if_neg hb];omega
def rwL (j:Int)(o:Bool):Nat->List Cd
 | 0=>[]
 | n+1=>rwL j o n++[((n:Int),j,o)]
def GRl:Nat->List Cd
 | 0=>[]
 | n+1=>GRl n++(rwL n false 8++rwL n true 8)
def ct (T:Cd->Bool):Nat->Int
 | 0=>0
 | n+1=>ct T n+(cn (fun i=>T (i,(n:Int),false)) 8+cn (fun i=>T (i,(n:Int),true)) 8)
def one (T:Cd->Bool)(c:Cd):Int:=if T c then 1 else 0
theorem aHe (T:Cd->Bool)(j:Int)(o:Bool):∀n,((rwL j o n).map (one T)).sum=cn (fun i=>T (i,j,o)) n
 | 0=>rfl
 | n+1=>by
  rw [rwL,List.map_append,List.sum_append,aHe T j o n]
  simp only [List.map_cons,List.map_nil,List.sum_cons,List.sum_nil,Int.add_zero];rfl
theorem aT2 (T:Cd->Bool):∀n,((GRl n).map (one T)).sum=ct T n
 | 0=>rfl
 | n+1=>by rw [GRl,List.map_append,List.sum_append,List.map_append,List.sum_append,aT2 T n,aHe,aHe];rfl
theorem aMk (T:Cd->Bool):∀l:List Cd,0<=(l.map (one T)).sum
 | []=>Int.le_refl _
 | c::l=>by have:=aMk T l;simp only [List.map_cons,List.sum_cons];unfold one at *;split<;>omega
theorem aDm {l m:List Int} (h:l.Perm m):l.sum=m.sum:=by
 induction h with
 | nil=>rfl
 | cons x _ ih=>simp only [List.sum_cons,ih]
 | swap x y l=>simp only [List.sum_cons];omega
 | trans _ _ ih1 ih2=>exact ih1.trans ih2
theorem bD2 (T:Cd->Bool) {d:Nat} (hd:d<=3):((KL d (0,0,false)).map (one T)).sum<=ct T 8:=by
 have key:∃rest,(GRl 8).Perm (KL d (0,0,false)++rest):=by
  have:d=0\/d=1\/d=2\/d=3:=by omega
  rcases this with rfl | rfl | rfl | rfl
  ·exact⟨(GRl 8).filter (fun c=>!(KL 0 (0,0,false)).contains c),by decide +kernel⟩
  ·exact⟨(GRl 8).filter (fun c=>!(KL 1 (0,0,false)).contains c),by decide +kernel⟩
  ·exact⟨(GRl 8).filter (fun c=>!(KL 2 (0,0,false)).contains c),by decide +kernel⟩
  ·exact⟨(GRl 8).filter (fun c=>!(KL 3 (0,0,false)).contains c),by decide +kernel⟩
 obtain⟨rest,h⟩:=key
 have e:((GRl 8).map (one T)).sum=((KL d (0,0,false)++rest).map (one T)).sum:=aDm (h.map (one T))
 rw [aT2,List.map_append,List.sum_append] at e
 have:=aMk T rest;omega
theorem bD3 {T:Cd->Bool} {M S:Int} (hM:0<=M)(hS:0<=S)
 (h1:∀(i i' j:Int) (o:Bool),i<=i'->T (i,j,o)=true->T (i',j,o)=true->i'+1 - i<=M)
 (h2:∀(i i' j j':Int) (o o':Bool),j<=j'->T (i,j,o)=true->T (i',j',o')=true->j'+1 - j<=S):ct T 8<=2*M*S:=by
 have hr:∀(j:Int) (o:Bool) (n:Nat),cn (fun i=>T (i,j,o)) n<=M:=fun j o n=>aT1 hM n (fun i i' g1 _ g3 g4=>h1 i i' j o (by omega) g3 g4)
 have hz:∀(j:Int) (o:Bool) (n:Nat),(∀i:Nat,i < n->T ((i:Int),j,o)=false)->cn (fun i=>T (i,j,o)) n=0:=by
  intro j o n
  induction n with
  | zero=>intro _;rfl
  | succ n ih =>
   intro h
   have:=ih (fun i hi=>h i (by omega))
   unfold cn;rw [this,h n (by omega)];rfl
 have key:∀n:Nat,ct T n<=2*M*cn (fun j=>(List.range 8).any fun i=>T ((i:Int),j,false) || T ((i:Int),j,true)) n:=by
  intro n
  induction n with
  | zero=>simp [ct,cn]
  | succ n ih =>
   rw [show ct T (n+1)=ct T n+(cn (fun i=>T (i,(n:Int),false)) 8+cn (fun i=>T (i,(n:Int),true)) 8) from rfl,
    show cn (fun j=>(List.range 8).any fun i=>T ((i:Int),j,false) || T ((i:Int),j,true)) (n+1)=cn (fun j=>(List.range 8).any fun i=>T ((i:Int),j,false) || T ((i:Int),j,true)) n+(if((List.range 8).any fun i=>T ((i:Int),(n:Int),false) || T ((i:Int),(n:Int),true))=true then 1 else 0) from rfl]
   cases hb:((List.range 8).any fun i=>T ((i:Int),(n:Int),false) || T ((i:Int),(n:Int),true)) with
   | true =>
    have a1:=hr n false 8;have a2:=hr n true 8
    rw [if_pos rfl,Int.mul_add,Int.mul_one];omega
   | false =>
    have hb':=List.any_eq_false.1 hb
    have a1:=hz n false 8 (fun i hi=>by have:=hb' i (List.mem_range.2 hi);simp at this;exact this.1)
    have a2:=hz n true 8 (fun i hi=>by have:=hb' i (List.mem_range.2 hi);simp at this;exact this.2)
    rw [a1,a2];simpa using ih
 refine Int.le_trans (key 8) (Int.mul_le_mul_of_nonneg_left (aT1 hS 8 (fun j j' g1 _ g3 g4=>?_)) (by omega))
 obtain⟨i,_,hi⟩:=List.any_eq_true.1 g3
 obtain⟨i',_,hi'⟩:=List.any_eq_true.1 g4
 rcases Bool.or_eq_true _ _▸hi with x | x<;>rcases Bool.or_eq_true _ _▸hi' with y | y<;>exact h2 _ _ _ _ _ _ (by omega) x y
end Go.Proofs.YtlckcjfbjnjfhaaGreat
