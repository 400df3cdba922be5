/-
  Parts of the proofs of the laws: the executor, what functions of the program compute, and that it is what the statements ask. No premise.
-/
import Derived.Test.YtkdfcbmcgnaicaaGreatVPen7
import Derived.ProofKit
import Derived.OpenShut
set_option linter.unusedVariables false
set_option linter.unusedSimpArgs false
set_option maxHeartbeats 4000000
open Int renaming toNat → tN
open Inhabited renaming default → dF
namespace Go.Proofs.YtkdfcbmcgnaicaaGreat
open Go.Proofs Go.Aw Go.RowKit
set_option maxRecDepth 100000
open Go.ChangeShapes Go.WideShapes Go.ChangeAt
inductive XK where
 | i | b | s | t
def iv2 (p:Int×Int):List SV:=[iv p.1,iv p.2]
def kx (P:Program):Nat->TypeId->Option (List XK)
 | 0,_=>none
 | k+1,t=>match P.underlying t with
  | some (.int .i64)=>some [.i]
  | some .bool=>some [.b]
  | some (.slice e)=>match P.underlying e with
   | some (.int .i64)=>bif P.cellsOf e == 1 then some [.s] else none
   | _=>match kx P k e with
    | some [.i,.i]=>bif P.cellsOf e == 2 then some [.t] else none
    | _=>none
  | some (.array n e)=>match kx P k e with
   | some ks=>bif ks.length == P.cellsOf e&&P.cellsOf t == n*P.cellsOf e then some (List.replicate n ks).flatten else none
   | none=>none
  | some (.struct fs)=>fs.toList.foldr (fun f r o=>bif f.offset == o then match kx P k f.type with
   | some a=>bif a.length == P.cellsOf f.type then(r (o+P.cellsOf f.type)).map (a++·) else none
   | none=>none else none) (fun o=>bif o == P.cellsOf t then some [] else none) 0
  | _=>none
def Sh:XK->SV->Prop
 | .i,x=>∃n:Int,x=iv n
 | .b,x=>∃c:Bool,x=.v (.bool c)
 | .s,x=>∃ns:List Int,x=.d (ns.map iv) ns.length 1
 | .t,x=>∃ns:List (Int×Int),x=.d (flat iv2 ns) ns.length 2
def Shs:List XK->List SV->Prop
 | [],[]=>True
 | k::ks,x::xs=>Sh k x/\Shs ks xs
 | _,_=>False
def fzW (w:World):Nat->Option FC:=fun b=>match w.heap[b]? with
 | some (.cells c t f)=>some (c,t,f)
 | _=>none
theorem Shs.app:∀{ks ks':List XK} {xs xs':List SV},Shs ks xs->Shs ks' xs'->Shs (ks++ks') (xs++xs')
 | [],_,[],_,_,h=>h
 | [],_,_::_,_,h,_=>h.elim
 | _::_,_,[],_,h,_=>h.elim
 | _::_,_,_::_,_,⟨h1,h2⟩,h=>⟨h1,Shs.app h2 h⟩
theorem Shs.len:∀{ks:List XK} {xs:List SV},Shs ks xs->xs.length=ks.length
 | [],[],_=>rfl
 | [],_::_,h=>h.elim
 | _::_,[],h=>h.elim
 | _::_,_::_,⟨_,h⟩=>by rw [List.length_cons,List.length_cons,Shs.len h]
theorem cX {k:XK} {ks:List XK} {xs:List SV} (h:Shs (k::ks) xs):∃x ys,xs=x::ys/\Sh k x/\Shs ks ys:=by
 cases xs with
 | nil=>exact h.elim
 | cons x ys=>exact⟨x,ys,rfl,h.1,h.2⟩
theorem sM {xs:List SV} (h:Shs [] xs):xs=[]:=by
 cases xs with
 | nil=>rfl
 | cons x ys=>exact h.elim
theorem aHs:∀{ks:List XK} {xs:List SV},Shs ks xs->∀k,¬SV.hasl k xs
 | [],[],_,k,h=>by simp [SV.hasl] at h
 | [],_::_,h,_,_=>h.elim
 | _::_,[],h,_,_=>h.elim
 | c::ks,x::xs,⟨h1,h2⟩,k,h=>by
  simp only [SV.hasl] at h
  rcases h with h | h
  ·cases c with
   | i=>obtain⟨n,rfl⟩:=h1;simp [iv,SV.has] at h
   | b=>obtain⟨n,rfl⟩:=h1;simp [SV.has] at h
   | s=>obtain⟨n,rfl⟩:=h1;simp [SV.has] at h
   | t=>obtain⟨n,rfl⟩:=h1;simp [SV.has] at h
  ·exact aHs h2 k h
theorem wA {ρ:Env}:∀{xs ys:List SV} {vs ws:List Value},Rels ρ xs vs->Rels ρ ys ws->Rels ρ (xs++ys) (vs++ws)
 | [],_,[],_,_,h=>h
 | [],_,_::_,_,h,_=>by simp [Rels] at h
 | _::_,_,[],_,h,_=>by simp [Rels] at h
 | _::_,_,_::_,_,h,h2=>⟨h.1,wA h.2 h2⟩
theorem aB3 {ρ:Env}:∀{xs:List SV} {vs:List Value},Rels ρ xs vs->vs.length=xs.length
 | [],[],_=>rfl
 | [],_::_,h=>by simp [Rels] at h
 | _::_,[],h=>by simp [Rels] at h
 | _::_,_::_,h=>by rw [List.length_cons,List.length_cons,aB3 h.2]
section
variable {H : Type} {enc : TypeId × Value → H} {P : Program} {w : World}
theorem aHt {ρ:Env}:∀l:List Int,Rels ρ (l.map iv) (l.map (Value.int .i64))
 | []=>trivial
 | n::l=>⟨rfl,aHt l⟩
theorem zK {a:Addr} {v:Value} (h:w.cell? a=some v):a.spot=none/\∃c t f,w.heap[a.block]? = some (.cells c t f)/\c[a.off]? = some v:=by
 unfold World.cell? at h
 split at h
 ·rename_i c t f hh
  split at h
  ·cases h
  ·rename_i hs
   exact⟨by cases hsp:a.spot with
    | none=>rfl
    | some q=>rw [hsp] at hs;exact absurd rfl hs,c,t,f,hh,h⟩
 ·cases h
theorem aM1 {t e:TypeId} {fuel:Nat} {cs:List Value} {x:DataW H×List MemPlace} (ht:P.underlying t=some (.slice e))(he:P.underlying e=some (.int .i64))(hce:P.cellsOf e=1)
 (hx:DataW.trod enc P w 0 (fun _=>true) true fuel t cs=some x):∃xs,Shs [XK.s] xs/\∀ρ:Env,ρ.fz=fzW w->Rels ρ xs cs:=by
 rcases Go.Deep.open_slice ht hx with⟨hc,_⟩ | ⟨a',len',cap',m,n,D,Pl,hc,hb,hl,hm,hmm,_,hall⟩
 ·subst hc
  refine⟨[.d [] 0 1],⟨⟨[],rfl⟩,trivial⟩,fun ρ _=>⟨?_,trivial⟩⟩
  simp only [Rel];exact .inl ⟨trivial,trivial,none,rfl⟩
 ·subst hc
  by_cases hcap:cap'=0
  ·have hl0:len'=0:=by omega
   subst hcap hl0
   refine⟨[.d [] 0 1],⟨⟨[],rfl⟩,trivial⟩,fun ρ _=>⟨?_,trivial⟩⟩
   simp only [Rel];exact .inl ⟨trivial,trivial,some a',rfl⟩
  ·simp only [if_true] at hmm
   have hone:∀i,i < m->∃q:Int,w.cell? (a'.add i)=some (.int .i64 q):=fun i hi=>by
    obtain⟨cs',h1,h2⟩:=hall i hi
    obtain⟨q,hq,_⟩:=DataW.trod_int he h2
    subst hq
    obtain⟨_,hlen,hcell⟩:=World.cells?_some h1
    rw [hce] at hcell
    have:=hcell 0 (by omega)
    refine⟨q,?_⟩
    rw [Nat.mul_one] at this
    simpa [Addr.add] using this
   obtain⟨N,hN⟩:=Go.Deep.choose_lt (α:=Int) (p:=fun i q=>w.cell? (a'.add i)=some (.int .i64 q)) (n:=m) hone
   have h0:=hN 0 (by omega)
   rw [show a'.add 0=a' from rfl] at h0
   obtain⟨hsp,c,ty,fr,hh,_⟩:=zK h0
   obtain⟨b,o,sp⟩:=a'
   simp only at hsp hh
   subst hsp
   refine⟨[.d (((List.range len').map N).map iv) len' 1],⟨⟨(List.range len').map N,by simp⟩,trivial⟩,fun ρ hρ=>⟨?_,trivial⟩⟩
   simp only [Rel]
   refine .inr ⟨b,o,cap',c,ty,fr,((List.range len').map N).map (Value.int .i64),rfl,hl,by rw [hρ];unfold fzW;rw [hh],aHt _,by simp,fun i x hi=>?_⟩
   have hil:=(List.getElem?_eq_some_iff.1 hi).1
   simp only [List.length_map,List.length_range] at hil
   rw [List.getElem?_map,List.getElem?_map,List.getElem?_range hil] at hi
   have:=hN i (by omega)
   rw [Go.Aw.add_eq] at this
   obtain⟨_,c2,t2,f2,g1,g2⟩:=zK this
   simp only at g1 g2
   rw [hh] at g1
   cases g1
   rw [g2];exact hi
def pV:List (Int×Int)->List Value
 | []=>[]
 | p::l=>.int .i64 p.1::.int .i64 p.2::pV l
theorem aQa:∀l:List (Int×Int),(pV l).length=l.length*2
 | []=>rfl
 | p::l=>by simp only [pV,List.length_cons,aQa l];omega
theorem aL1 {ρ:Env}:∀l:List (Int×Int),Rels ρ (flat iv2 l) (pV l)
 | []=>trivial
 | p::l=>⟨rfl,rfl,aL1 l⟩
theorem aQb {c:Array Value}:∀(l:List (Int×Int)) (o:Nat),(∀(j:Nat) (p:Int×Int),l[j]? = some p->c[o+2*j]? = some (.int .i64 p.1)/\c[o+2*j+1]? = some (.int .i64 p.2))->∀(i:Nat) (x:Value),(pV l)[i]? = some x->c[o+i]? = some x
 | [],_,_,i,x,h=>by simp [pV] at h
 | p::l,o,hc,0,x,h=>by simp [pV] at h;rw [←h];exact(hc 0 p rfl).1
 | p::l,o,hc,1,x,h=>by simp [pV] at h;rw [←h];exact(hc 0 p rfl).2
 | p::l,o,hc,i+2,x,h=>by
  have:=aQb l (o+2) (fun j q hj=>by
   have:=hc (j+1) q (by simpa using hj)
   rw [show o+2+2*j=o+2*(j+1) by omega];exact this) i x (by simpa [pV] using h)
  rw [show o+(i+2)=o+2+i by omega];exact this
theorem aJu {t e:TypeId} {fuel:Nat} {cs:List Value} {x:DataW H×List MemPlace} (ht:P.underlying t=some (.slice e))(hce:P.cellsOf e=2)
 (hk:∀(f:Nat) (cs:List Value) (x:DataW H×List MemPlace),DataW.trod enc P w 0 (fun _=>true) true f e cs=some x->∃a b:Int,cs=[.int .i64 a,.int .i64 b])
 (hx:DataW.trod enc P w 0 (fun _=>true) true fuel t cs=some x):∃xs,Shs [XK.t] xs/\∀ρ:Env,ρ.fz=fzW w->Rels ρ xs cs:=by
 rcases Go.Deep.open_slice ht hx with⟨hc,_⟩ | ⟨a',len',cap',m,n,D,Pl,hc,hb,hl,hm,hmm,_,hall⟩
 ·subst hc
  refine⟨[.d [] 0 2],⟨⟨[],rfl⟩,trivial⟩,fun ρ _=>⟨?_,trivial⟩⟩
  simp only [Rel];exact .inl ⟨trivial,trivial,none,rfl⟩
 ·subst hc
  by_cases hcap:cap'=0
  ·have hl0:len'=0:=by omega
   subst hcap hl0
   refine⟨[.d [] 0 2],⟨⟨[],rfl⟩,trivial⟩,fun ρ _=>⟨?_,trivial⟩⟩
   simp only [Rel];exact .inl ⟨trivial,trivial,some a',rfl⟩
  ·simp only [if_true] at hmm
   have hone:∀i,i < m->∃q:Int×Int,w.cell? (a'.add (i*2))=some (.int .i64 q.1)/\w.cell? (a'.add (i*2+1))=some (.int .i64 q.2):=fun i hi=>by
    obtain⟨cs',h1,h2⟩:=hall i hi
    obtain⟨qq1,qq2,hq⟩:=hk _ _ _ h2
    subst hq
    obtain⟨_,hlen,hcell⟩:=World.cells?_some h1
    rw [hce] at hcell
    have g0:=hcell 0 (by omega)
    have g1:=hcell 1 (by omega)
    have e1:(a'.add (i*2)).add 1=a'.add (i*2+1):=by
     by_cases hi0:i=0
     ·subst hi0;rfl
     ·have h2:¬i*2=0:=by omega
      simp [Addr.add,h2,Nat.add_assoc]
    rw [e1] at g1
    exact⟨(qq1,qq2),by simpa [Addr.add] using g0,by simpa using g1⟩
   obtain⟨N,hN⟩:=Go.Deep.choose_lt (α:=Int×Int) (p:=fun i q=>w.cell? (a'.add (i*2))=some (.int .i64 q.1)/\w.cell? (a'.add (i*2+1))=some (.int .i64 q.2)) (n:=m) hone
   have h0:=(hN 0 (by omega)).1
   rw [show a'.add (0*2)=a' from rfl] at h0
   obtain⟨hsp,c,ty,fr,hh,_⟩:=zK h0
   obtain⟨b,o,sp⟩:=a'
   simp only at hsp hh
   subst hsp
   have hcell:∀(z:Nat) (v:Value),w.cell? ((⟨b,o,none⟩:Addr).add z)=some v->c[o+z]? = some v:=fun z v hv=>by
    rw [Go.Aw.add_eq] at hv
    obtain⟨_,c2,t2,f2,g1,g2⟩:=zK hv
    simp only at g1 g2
    rw [hh] at g1
    cases g1
    exact g2
   refine⟨[.d (flat iv2 ((List.range len').map N)) len' 2],⟨⟨(List.range len').map N,by simp⟩,trivial⟩,fun ρ hρ=>⟨?_,trivial⟩⟩
   simp only [Rel]
   refine .inr ⟨b,o,cap',c,ty,fr,pV ((List.range len').map N),rfl,hl,by rw [hρ];unfold fzW;rw [hh],aL1 _,by rw [aQa];simp,aQb _ o (fun j p hj=>?_)⟩
   have hjl:=(List.getElem?_eq_some_iff.1 hj).1
   simp only [List.length_map,List.length_range] at hjl
   rw [List.getElem?_map,List.getElem?_range hjl] at hj
   simp only [Option.map_some,bG] at hj
   subst hj
   obtain⟨g1,g2⟩:=hN j (by omega)
   exact⟨by rw [show 2*j=j*2 by omega];exact hcell _ _ g1,by rw [show o+2*j+1=o+(j*2+1) by omega];exact hcell _ _ g2⟩
theorem aM2 {ρ:Env} {xs:List SV} {cs:List Value} (h:Shs [XK.i,XK.i] xs)(hr:Rels ρ xs cs):∃a b:Int,cs=[.int .i64 a,.int .i64 b]:=by
 obtain⟨x0,y0,rfl,⟨n0,rfl⟩,h0⟩:=cX h
 obtain⟨x1,y1,rfl,⟨n1,rfl⟩,h1⟩:=cX h0
 obtain rfl:=sM h1
 match cs,hr with
 | [c0,c1],hr =>
  simp only [Rels,Rel,iv] at hr
  exact⟨n0,n1,by rw [hr.1,hr.2.1]⟩
 | [],hr=>simp [Rels] at hr
 | [_],hr=>simp [Rels] at hr
 | _::_::_::_,hr=>simp [Rels] at hr
theorem zL:∀(k:Nat) (t:TypeId) (ks:List XK) (fuel:Nat) (cs:List Value) (x:DataW H×List MemPlace),kx P k t=some ks ->
 DataW.trod enc P w 0 (fun _=>true) true fuel t cs=some x->∃xs,Shs ks xs/\∀ρ:Env,ρ.fz=fzW w->Rels ρ xs cs
 | 0,_,_,_,_,_,h,_=>by simp [kx] at h
 | k+1,t,ks,fuel,cs,x,h,hx=>by
  unfold kx at h
  split at h
  ·rename_i ht
   obtain⟨n,rfl,rfl,_⟩:=DataW.trod_int ht hx
   obtain rfl:[XK.i]=ks:=Option.some.inj h
   exact⟨[iv n],⟨⟨n,rfl⟩,trivial⟩,fun ρ _=>⟨rfl,trivial⟩⟩
  ·rename_i ht
   obtain⟨n,rfl,rfl⟩:=DataW.trod_bool ht hx
   obtain rfl:[XK.b]=ks:=Option.some.inj h
   exact⟨[.v (.bool n)],⟨⟨n,rfl⟩,trivial⟩,fun ρ _=>⟨rfl,trivial⟩⟩
  ·rename_i e ht
   split at h
   ·rename_i he
    cases hce:P.cellsOf e == 1 with
    | false=>rw [hce] at h;cases h
    | true =>
     rw [hce] at h
     obtain rfl:[XK.s]=ks:=Option.some.inj h
     exact aM1 ht he (beq_iff_eq.1 hce) hx
   ·split at h
    ·rename_i hke
     cases hce:P.cellsOf e == 2 with
     | false=>rw [hce] at h;cases h
     | true =>
      rw [hce] at h
      obtain rfl:[XK.t]=ks:=Option.some.inj h
      refine aJu ht (beq_iff_eq.1 hce) (fun f cs x hx=>?_) hx
      obtain⟨xs,h4,h5⟩:=zL k e _ f cs x hke hx
      exact aM2 h4 (h5 ⟨fun _=>none,fzW w⟩ rfl)
    ·cases h
  ·rename_i n e ht
   split at h
   ·rename_i ke hke
    cases hc:ke.length == P.cellsOf e&&P.cellsOf t == n*P.cellsOf e with
    | false=>rw [hc] at h;cases h
    | true =>
     rw [hc] at h
     obtain rfl:(List.replicate n ke).flatten=ks:=Option.some.inj h
     simp only [Bool.and_eq_true,beq_iff_eq] at hc
     obtain⟨xs,m,rfl,rfl,hl,hlen,hf⟩:=DataW.trod_array ht hx
     have key:∀j,j<=n->∃ys,Shs (List.replicate j ke).flatten ys/\∀ρ:Env,ρ.fz=fzW w->Rels ρ ys (cs.drop ((n - j)*P.cellsOf e)):=by
      intro j
      induction j with
      | zero=>intro _;exact⟨[],trivial,fun ρ _=>by rw [Nat.sub_zero,←hc.2,←hl,List.drop_length];trivial⟩
      | succ j ih =>
       intro hj
       obtain⟨ys,h2,h3⟩:=ih (by omega)
       have h1:=hf (n - (j+1)) (by omega)
       have hil:n - (j+1) < xs.length:=by rw [hlen];omega
       rw [List.getElem?_eq_getElem hil] at h1
       obtain⟨zs,h4,h5⟩:=zL k e ke m _ _ hke h1
       refine⟨zs++ys,by rw [List.replicate_succ,List.flatten_cons];exact h4.app h2,fun ρ hρ=>?_⟩
       have:=wA (h5 ρ hρ) (h3 ρ hρ)
       rwa [show(n - j)*P.cellsOf e=(n - (j+1))*P.cellsOf e+P.cellsOf e by rw [show n - j=(n - (j+1))+1 by omega,Nat.add_mul,Nat.one_mul],←List.drop_drop,List.take_append_drop] at this
     obtain⟨ys,h1,h2⟩:=key n (Nat.le_refl _)
     exact⟨ys,h1,fun ρ hρ=>by simpa using h2 ρ hρ⟩
   ·cases h
  ·rename_i fs ht
   obtain⟨xs,m,rfl,rfl,hl,hlen,hF⟩:=DataW.trod_struct ht hx
   have key:∀(l:List Field) (o:Nat) (ks:List XK),
    l.foldr (fun f r o=>bif f.offset == o then match kx P k f.type with
     | some a=>bif a.length == P.cellsOf f.type then(r (o+P.cellsOf f.type)).map (a++·) else none
     | none=>none else none) (fun o=>bif o == P.cellsOf t then some [] else none) o=some ks ->
    (∀f∈l,∃y,DataW.trod enc P w 0 (fun _=>true) true m f.type ((cs.drop f.offset).take (P.cellsOf f.type))=some y)->∃xs,Shs ks xs/\∀ρ:Env,ρ.fz=fzW w->Rels ρ xs (cs.drop o):=by
    intro l
    induction l with
    | nil =>
     intro o ks h _
     simp only [List.foldr_nil] at h
     cases ho:o == P.cellsOf t with
     | false=>rw [ho] at h;cases h
     | true =>
      rw [ho] at h
      obtain rfl:[]=ks:=Option.some.inj h
      refine⟨[],trivial,fun ρ _=>?_⟩
      rw [beq_iff_eq.1 ho,←hl,List.drop_length];trivial
    | cons f l ih =>
     intro o ks h hy
     simp only [List.foldr_cons] at h
     cases ho:f.offset == o with
     | false=>rw [ho] at h;cases h
     | true =>
      rw [ho] at h
      simp only [cond_true] at h
      split at h
      ·rename_i a ha
       cases hc:a.length == P.cellsOf f.type with
       | false=>rw [hc] at h;cases h
       | true =>
        rw [hc] at h
        simp only [cond_true,Option.map_eq_some_iff] at h
        obtain⟨ks',h1,rfl⟩:=h
        obtain⟨y,hy0⟩:=hy f List.mem_cons_self
        rw [beq_iff_eq.1 ho] at hy0
        obtain⟨gz1,g1,r1⟩:=zL k f.type a m _ y ha hy0
        obtain⟨gz2,g2,r2⟩:=ih _ _ h1 (fun f' hf'=>hy f' (List.mem_cons_of_mem _ hf'))
        refine⟨gz1++gz2,g1.app g2,fun ρ hρ=>?_⟩
        have:=wA (r1 ρ hρ) (r2 ρ hρ)
        rwa [←List.drop_drop,List.take_append_drop] at this
      ·cases h
   obtain⟨ys,h1,h2⟩:=key fs.toList 0 ks h (fun f hf=>by
    obtain⟨i,hi⟩:=List.getElem?_of_mem hf
    have:=hF i f (by simpa using hi)
    have hil:i < xs.length:=by rw [hlen];have:=(List.getElem?_eq_some_iff.1 hi).1;simpa using this
    rw [List.getElem?_eq_getElem hil] at this
    exact⟨_,this⟩)
   exact⟨ys,h1,fun ρ hρ=>by simpa using h2 ρ hρ⟩
  ·cases h
def xQ (w:World)(ks:List XK)(v:Value)(xss:List (List SV)):Prop :=
 (∀xs∈xss,Shs ks xs)/\xss.length<=2^63-1 /\
 ((v=.slice none 0 0/\xss=[])\/∃b o cap vs,v=.slice (some ⟨b,o,none⟩) xss.length cap/\xss.length<=cap/\(∀ρ:Env,ρ.fz=fzW w->Rels ρ xss.flatten vs)/\∀(i:Nat) (x:Value),vs[i]? = some x->w.cell? ⟨b,o+i,none⟩=some x)
theorem yN {es b:Nat}:∀(vss:List (List Value)) (o:Nat),(∀(j:Nat) (ns:List Value),vss[j]? = some ns->ns.length=es/\∀(q:Nat) (x:Value),ns[q]? = some x->w.cell? ⟨b,o+j*es+q,none⟩=some x) ->
 ∀(i:Nat) (x:Value),(vss.flatten)[i]? = some x->w.cell? ⟨b,o+i,none⟩=some x
 | [],o,_,i,x,hi=>by simp at hi
 | ns::l,o,h,i,x,hi=>by
  obtain⟨h1,h2⟩:=h 0 ns rfl
  rw [List.flatten_cons] at hi
  by_cases hlt:i < ns.length
  ·rw [List.getElem?_append_left hlt] at hi
   have:=h2 i x hi
   simpa using this
  ·rw [List.getElem?_append_right (by omega)] at hi
   have:=yN l (o+es) (fun j ms hj=>⟨(h (j+1) ms hj).1,fun q y hq=>by
    have:=(h (j+1) ms hj).2 q y hq
    rw [show o+es+j*es+q=o+(j+1)*es+q by rw [Nat.add_mul];omega];exact this⟩) (i - es) x (by simpa [h1] using hi)
   rw [show o+es+(i - es)=o+i by omega] at this;exact this
theorem aS3 {ρ:Env}:∀{xss:List (List SV)} {vss:List (List Value)},xss.length=vss.length->(∀(j:Nat) (xs:List SV) (vs:List Value),xss[j]? = some xs->vss[j]? = some vs->Rels ρ xs vs)->Rels ρ xss.flatten vss.flatten
 | [],[],_,_=>trivial
 | [],_::_,h,_=>by simp at h
 | _::_,[],h,_=>by simp at h
 | _::_,_::_,h,h2=>by
  rw [List.flatten_cons,List.flatten_cons]
  exact wA (h2 0 _ _ rfl rfl) (aS3 (by simpa using h) (fun j xs vs h3 h4=>h2 (j+1) xs vs h3 h4))
theorem yO {t e:TypeId} {ks:List XK} {v:Value} {fuel:Nat} {x:DataW H×List MemPlace} (ht:P.underlying t=some (.slice e))(hk:kx P 6 e=some ks)(hes:P.cellsOf e=ks.length)
 (hsp:∀a len cap,v=.slice (some a) len cap->a.spot=none) (hx:DataW.trod enc P w 0 (fun _=>true) true fuel t [v]=some x):∃xss,xQ w ks v xss:=by
 rcases Go.Deep.open_slice ht hx with⟨hc,_⟩ | ⟨a',len',cap',m,n,D,Pl,hc,hb,hl,hm,hmm,_,hall⟩
 ·simp only [List.cons.injEq,and_true] at hc
  exact⟨[],fun ns h=>by simp at h,by simp,.inl ⟨hc,rfl⟩⟩
 ·simp only [List.cons.injEq,and_true] at hc
  subst hc
  have hsp:=hsp a' len' cap' rfl
  obtain⟨b,o,sp⟩:=a'
  simp only at hsp
  subst hsp
  simp only [if_true] at hmm
  obtain⟨N,hN⟩:=Go.Deep.choose_lt (α:=List SV×List Value) (p:=fun i q=>Shs ks q.1/\(∀ρ:Env,ρ.fz=fzW w->Rels ρ q.1 q.2)/\∀(j:Nat) (x:Value),q.2[j]? = some x->w.cell? ⟨b,o+i*ks.length+j,none⟩=some x) (n:=len') (fun i hi=>by
   obtain⟨cs',h1,h2⟩:=hall i (by omega)
   obtain⟨xs,g1,g2⟩:=zL 6 e ks n cs' _ hk h2
   obtain⟨_,hlen,hcell⟩:=World.cells?_some h1
   rw [hes] at hlen hcell
   refine⟨(xs,cs'),g1,g2,fun q x hq=>?_⟩
   have hq':=(List.getElem?_eq_some_iff.1 hq).1
   have:=hcell q (by rw [←hlen];exact hq')
   rw [Go.Aw.add_eq,Go.Aw.add_eq] at this
   rw [this,hq])
  refine⟨(List.range len').map fun i=>(N i).1,fun ns h=>?_,?_,.inr ⟨b,o,cap',((List.range len').map fun i=>(N i).2).flatten,?_,?_,fun ρ hρ=>?_,?_⟩⟩
  ·obtain⟨i,hi,rfl⟩:=List.mem_map.1 h
   exact(hN i (by simpa using hi)).1
  ·have:maxLen=9223372036854775807:=rfl
   simp;omega
  ·simp
  ·simpa using hl
  ·refine aS3 (by simp) (fun j xs vs h1 h2=>?_)
   have hj:=(List.getElem?_eq_some_iff.1 h1).1
   simp only [List.length_map,List.length_range] at hj
   rw [List.getElem?_map,List.getElem?_range hj] at h1 h2
   cases h1;cases h2
   exact(hN j hj).2.1 ρ hρ
  ·refine yN (es:=ks.length) _ o (fun j ns hj=>?_)
   have hjl:=(List.getElem?_eq_some_iff.1 hj).1
   simp only [List.length_map,List.length_range] at hjl
   rw [List.getElem?_map,List.getElem?_range hjl] at hj
   cases hj
   have:=hN j hjl
   exact⟨by rw [aB3 (this.2.1 ⟨fun _=>none,fzW w⟩ rfl),Shs.len this.1],this.2.2⟩
theorem aJv {r:Reach} {b0:Nat} {t e:TypeId} {v:Value} {d:DataW H} {ps:List MemPlace} (ks:List XK)(ht:P.underlying t=some (.slice e))(hk:kx P 6 e=some ks)(hes:P.cellsOf e=ks.length)
 (hval:Value.okWide P w r b0 t v) (hd:DataW.Trod enc P w 0 (fun _=>true) true t v d ps):(∃xss,xQ w ks v xss)/\∀x∈ps,x.block < w.heap.size:=by
 obtain⟨fuel,hx⟩:=hd
 refine⟨?_,DataW.trod_lt fuel t _ _ hx⟩
 obtain⟨a,len,cap,rfl⟩:=okWide_slice ht hval
 refine yO ht hk hes (fun a' len' cap' h=>?_) (by simpa [Value.cells] using hx)
 simp only [Value.slice.injEq] at h
 obtain⟨rfl,rfl,rfl⟩:=h
 simp only [Value.okWide,ht,Cell.okWide,Cell.ok,World.has] at hval
 exact hval.2.2.2.1
theorem nH {ks:List XK} {es:Nat} {v:Value} {xss:List (List SV)} {ρ:Env} {k:Nat} (h:xQ w ks v xss)(hes:ks.length=es)(hk:ρ k=rho es v):Rel ρ (.s k 0 xss.length es) v:=by
 subst hes
 obtain⟨h1,h2,⟨rfl,rfl⟩ | ⟨b,o,cap,vs,rfl,h3,h4⟩⟩:=h
 ·simp only [Rel];exact .inl ⟨hk,rfl,trivial⟩
 ·simp only [Rel];exact .inr ⟨b,o,cap*ks.length,cap,0,none,hk,rfl,h3,by omega,fun _=>⟨rfl,rfl⟩⟩
theorem wB {ks:List XK}:∀{xss:List (List SV)},(∀xs∈xss,Shs ks xs)->xss.flatten.length=xss.length*ks.length
 | [],_=>by simp
 | xs::l,h=>by
  rw [List.flatten_cons,List.length_append,wB (fun m hm=>h m (List.mem_cons_of_mem _ hm)),Shs.len (h xs List.mem_cons_self),List.length_cons,Nat.add_mul];omega
theorem aHu {ks:List XK} {es:Nat} {v:Value} {xss:List (List SV)} {ρ:Env} {k:Nat} {M:Nat->Prop} (h:xQ w ks v xss)(hes:ks.length=es)(hk:ρ k=rho es v)(hf:ρ.fz=fzW w)(hM:∀b,M b->w.heap.size<=b):BRep ρ M w k (.live false true xss.flatten):=by
 subst hes
 obtain⟨h1,h2,⟨rfl,rfl⟩ | ⟨b,o,cap,vs,rfl,h3,h4,h5⟩⟩:=h
 ·exact .inl ⟨hk,rfl⟩
 ·have hlen:=wB h1
  refine .inr ⟨b,o,cap*ks.length,vs,hk,⟨?_,fun hne hm=>?_⟩,h4 ρ hf,h5⟩
  ·rw [aB3 (h4 ρ hf),hlen];exact Nat.mul_le_mul_right _ h3
  ·have hb:=hM b hm
   obtain⟨x,hx⟩:=List.exists_mem_of_ne_nil _ hne
   obtain⟨i,hi⟩:=List.getElem?_of_mem hx
   have:=World.block_lt_of_cell? w ⟨b,o+i,none⟩ (h5 i x hi)
   exact absurd this (Nat.not_lt_of_le hb)
theorem aQc {ks:List XK}:∀{xss:List (List SV)},(∀xs∈xss,Shs ks xs)->Plain xss.flatten
 | [],_,k,hk=>by simp [SV.hasl] at hk
 | xs::l,h,k,hk=>by
  rw [List.flatten_cons,eE] at hk
  obtain⟨x,hx,hk⟩:=hk
  rcases List.mem_append.1 hx with hx | hx
  ·exact aHs (h xs List.mem_cons_self) k (eE.2 ⟨x,hx,hk⟩)
  ·exact aQc (xss:=l) (fun m hm=>h m (List.mem_cons_of_mem _ hm)) k (eE.2 ⟨x,hx,hk⟩)
theorem pH {α:Type} {c:α->List SV} {f:List SV->α} {ks:List XK} (hc:∀xs:List SV,Shs ks xs->c (f xs)=xs):∀{xss:List (List SV)},(∀xs∈xss,Shs ks xs)->flat c (xss.map f)=xss.flatten
 | [],_=>rfl
 | xs::l,h=>by
  have:=pH hc (xss:=l) (fun m hm=>h m (List.mem_cons_of_mem _ hm))
  unfold flat at *
  rw [List.map_cons,List.flatMap_cons,this,hc xs (h xs List.mem_cons_self),List.flatten_cons]
end
inductive AK where
 | i | b | s (ks:List XK)
def aS4 (w:World):AK->Value->Prop
 | .i,v=>∃n:Int,v=.int .i64 n
 | .b,v=>∃x:Bool,v=.bool x
 | .s ks,v=>∃xss,xQ w ks v xss
def CellsX (w:World):List AK->List Value->Prop
 | [],[]=>True
 | k::ks,v::vs=>aS4 w k v/\CellsX w ks vs
 | _,_=>False
def ka (P:Program):Nat->TypeId->Option (List AK)
 | 0,_=>none
 | k+1,t=>match P.underlying t with
  | some (.int .i64)=>some [.i]
  | some .bool=>some [.b]
  | some (.slice e)=>match kx P 6 e with
   | some ks=>bif P.cellsOf e == ks.length then some [.s ks] else none
   | none=>none
  | some (.struct fs)=>fs.toList.foldr (fun f r o=>bif f.offset == o then match ka P k f.type with
   | some a=>bif a.length == P.cellsOf f.type then(r (o+P.cellsOf f.type)).map (a++·) else none
   | none=>none else none) (fun o=>bif o == P.cellsOf t then some [] else none) 0
  | _=>none
section
variable {H : Type} {enc : TypeId × Value → H} {P : Program} {w : World}
theorem CellsX.app:∀{ks ks':List AK} {vs vs':List Value},CellsX w ks vs->CellsX w ks' vs'->CellsX w (ks++ks') (vs++vs')
 | [],_,[],_,_,h=>h
 | [],_,_::_,_,h,_=>h.elim
 | _::_,_,[],_,h,_=>h.elim
 | _::_,_,_::_,_,⟨h1,h2⟩,h=>⟨h1,CellsX.app h2 h⟩
theorem aL2:∀(k:Nat) (t:TypeId) (ks:List AK) (fuel:Nat) (cs:List Value) (x:DataW H×List MemPlace),ka P k t=some ks ->
 (∀v∈cs,∀a len cap,v=.slice (some a) len cap->a.spot=none)->DataW.trod enc P w 0 (fun _=>true) true fuel t cs=some x->CellsX w ks cs
 | 0,_,_,_,_,_,h,_,_=>by simp [ka] at h
 | k+1,t,ks,fuel,cs,x,h,hsp,hx=>by
  unfold ka at h
  split at h
  ·rename_i ht
   obtain⟨n,rfl,rfl,_⟩:=DataW.trod_int ht hx
   obtain rfl:[AK.i]=ks:=Option.some.inj h
   exact⟨⟨n,rfl⟩,trivial⟩
  ·rename_i ht
   obtain⟨n,rfl,rfl⟩:=DataW.trod_bool ht hx
   obtain rfl:[AK.b]=ks:=Option.some.inj h
   exact⟨⟨n,rfl⟩,trivial⟩
  ·rename_i e ht
   split at h
   ·rename_i ke hke
    cases hf:P.cellsOf e == ke.length with
    | false=>rw [hf] at h;cases h
    | true =>
     rw [hf] at h
     obtain rfl:[AK.s ke]=ks:=Option.some.inj h
     have:∃v,cs=[v]:=by
      rcases Go.Deep.open_slice ht hx with⟨hc,_⟩ | ⟨a',len',cap',m,n,D,Pl,hc,_⟩<;>exact⟨_,hc⟩
     obtain⟨v,rfl⟩:=this
     exact⟨yO ht hke (beq_iff_eq.1 hf) (hsp v List.mem_cons_self) hx,trivial⟩
   ·cases h
  ·rename_i fs ht
   obtain⟨xs,m,rfl,rfl,hl,hlen,hF⟩:=DataW.trod_struct ht hx
   have key:∀(l:List Field) (o:Nat) (ks:List AK),
    l.foldr (fun f r o=>bif f.offset == o then match ka P k f.type with
     | some a=>bif a.length == P.cellsOf f.type then(r (o+P.cellsOf f.type)).map (a++·) else none
     | none=>none else none) (fun o=>bif o == P.cellsOf t then some [] else none) o=some ks ->
    (∀f∈l,∃y,DataW.trod enc P w 0 (fun _=>true) true m f.type ((cs.drop f.offset).take (P.cellsOf f.type))=some y)->CellsX w ks (cs.drop o):=by
    intro l
    induction l with
    | nil =>
     intro o ks h _
     simp only [List.foldr_nil] at h
     cases ho:o == P.cellsOf t with
     | false=>rw [ho] at h;cases h
     | true =>
      rw [ho] at h
      obtain rfl:[]=ks:=Option.some.inj h
      rw [beq_iff_eq.1 ho,←hl,List.drop_length];trivial
    | cons f l ih =>
     intro o ks h hy
     simp only [List.foldr_cons] at h
     cases ho:f.offset == o with
     | false=>rw [ho] at h;cases h
     | true =>
      rw [ho] at h
      simp only [cond_true] at h
      split at h
      ·rename_i a ha
       cases hc:a.length == P.cellsOf f.type with
       | false=>rw [hc] at h;cases h
       | true =>
        rw [hc] at h
        simp only [cond_true,Option.map_eq_some_iff] at h
        obtain⟨ks',h1,rfl⟩:=h
        obtain⟨y,hy0⟩:=hy f List.mem_cons_self
        rw [beq_iff_eq.1 ho] at hy0
        have g1:=aL2 k f.type a m _ y ha (fun v hv=>hsp v (List.mem_of_mem_drop (List.mem_of_mem_take hv))) hy0
        have g2:=ih _ _ h1 (fun f' hf'=>hy f' (List.mem_cons_of_mem _ hf'))
        have:=g1.app g2
        rwa [←List.drop_drop,List.take_append_drop] at this
      ·cases h
   have:=key fs.toList 0 ks h (fun f hf=>by
    obtain⟨i,hi⟩:=List.getElem?_of_mem hf
    have:=hF i f (by simpa using hi)
    have hil:i < xs.length:=by rw [hlen];have:=(List.getElem?_eq_some_iff.1 hi).1;simpa using this
    rw [List.getElem?_eq_getElem hil] at this
    exact⟨_,this⟩)
   simpa using this
  ·cases h
theorem aJw {r:Reach} {b0:Nat} {u:TypeId} {a:Addr} {len cap:Nat} (h:Cell.okWide P w r b0 u (.slice (some a) len cap)):a.spot=none:=by
 unfold Cell.okWide at h
 split at h<;>try (exact h.elim)
 all_goals try (simp_all;done)
 unfold Cell.ok at h
 split at h<;>simp_all [World.has]
theorem aHv {r:Reach} {b0:Nat} {t:TypeId} {fs:Array Field} {v:Value} {d:DataW H} {ps:List MemPlace} (ks:List AK)(ht:P.underlying t=some (.struct fs))(hk:ka P 6 t=some ks)
 (hval:Value.okWide P w r b0 t v) (hd:DataW.Trod enc P w 0 (fun _=>true) true t v d ps):(∃cs,v=.agg cs.toArray/\CellsX w ks cs)/\∀x∈ps,x.block < w.heap.size:=by
 obtain⟨fuel,hx⟩:=hd
 refine⟨?_,DataW.trod_lt fuel t _ _ hx⟩
 simp only [Value.okWide,ht] at hval
 obtain⟨cs,rfl,hs,ts,_,_,hall⟩:=hval
 refine⟨cs.toList,by simp,aL2 6 t ks fuel _ _ hk (fun v hv a len cap e=>?_) (by simpa [Value.cells] using hx)⟩
 obtain⟨i,hi⟩:=List.getElem?_of_mem hv
 obtain⟨u,_,hu⟩:=hall i v (by simpa using hi)
 subst e
 exact aJw hu
theorem nW {k:AK} {ks:List AK} {cs:List Value} (h:CellsX w (k::ks) cs):∃v vs,cs=v::vs/\aS4 w k v/\CellsX w ks vs:=by
 cases cs with
 | nil=>exact h.elim
 | cons v vs=>exact⟨v,vs,rfl,h.1,h.2⟩
theorem aJx {cs:List Value} (h:CellsX w [] cs):cs=[]:=by
 cases cs with
 | nil=>rfl
 | cons v vs=>exact h.elim
end
def svI:SV->Int
 | .v (.int _ n)=>n
 | _=>0
def aFu:List SV->List (Int×Int)
 | x::y::l=>(svI x,svI y)::aFu l
 | _=>[]
def svT:SV->List (Int×Int)
 | .d cs _ _=>aFu cs
 | _=>[]
theorem aS5:∀(ns:List (Int×Int)) (n es:Nat),svT (.d (flat iv2 ns) n es)=ns
 | [],_,_=>rfl
 | p::ns,n,es=>by
  have:=aS5 ns n es
  show(p.1,p.2)::aFu (flat iv2 ns)=p::ns
  rw [show aFu (flat iv2 ns)=ns from this]
theorem aHw {c:Int×Int->List SV} (hc:∀p,c p=iv2 p):∀ns:List (Int×Int),flat c ns=flat iv2 ns
 | []=>rfl
 | p::ns=>by rw [jQ,hc,aHw hc ns];rfl
def svB:SV->Bool
 | .v (.bool c)=>c
 | _=>false
def aSd (W:World)(l:List (List XK×Nat×Value×List (List SV))):Env:=⟨fun k=>match l[k]? with
 | some x=>rho x.2.1 x.2.2.1
 | none=>none,fzW W⟩
theorem aJy {P:Program} {f:Nat} {args:List SV} {vs:List Value} {x:Value} {W:World} (l:List (List XK×Nat×Value×List (List SV)))
 (hc:Con P f args (l.map fun y=>.live false true y.2.2.2.flatten) (.v x) []) (hs:∀y∈l,xQ W y.1 y.2.2.1 y.2.2.2/\y.1.length=y.2.1) (hr:Rels (aSd W l) args vs) :
 Calls P f vs.toArray W fun e W'=>e=.returned x/\Below W.heap.size W W':=by
 have hget:∀i,((l.map fun y=>BK.live false true y.2.2.2.flatten).getD i .un=.un)\/∃y,l[i]? = some y/\(l.map fun y=>BK.live false true y.2.2.2.flatten).getD i .un=.live false true y.2.2.2.flatten:=by
  intro i
  rw [fP,List.getElem?_map]
  cases h:l[i]? with
  | none=>exact .inl rfl
  | some y=>exact .inr ⟨y,rfl,rfl⟩
 have hown:∀i,¬((l.map fun y=>BK.live false true y.2.2.2.flatten).getD i .un).own:=fun i=>by
  rcases hget i with h | ⟨y,_,h⟩<;>rw [h]<;>simp [BK.own]
 have hM:∀b,(dM (aSd W l) W (l.map fun y=>BK.live false true y.2.2.2.flatten)).mine b->W.heap.size<=b:=by
  rintro b (h | ⟨i,n,hi,_⟩)
  ·exact h
  ·exact absurd hi (hown i)
 refine(hc.2 (aSd W l) W vs hr (fun i=>?_) (fun i=>?_) (fun i j b n b' n' _ h=>absurd h (hown i)) (fun b o h=>⟨?_,fun i n hi=>absurd hi (hown i)⟩)).mono fun e W' h=>?_
 ·rcases hget i with h | ⟨y,h1,h⟩
  ·rw [h];simp [BRep]
  ·rw [h]
   exact aHu (hs y (List.mem_of_getElem? h1)).1 (hs y (List.mem_of_getElem? h1)).2 (by simp only [aSd,h1]) rfl hM
 ·rcases hget i with h | ⟨y,h1,h⟩
  ·rw [h];simp [BK.pl]
  ·rw [h];exact aQc (hs y (List.mem_of_getElem? h1)).1.1
 ·have h2:fzW W b=some o:=h
  unfold fzW at h2
  split at h2
  ·rename_i c t fr e
   cases h2
   exact e
  ·cases h2
 ·obtain⟨ρ',v,rfl,_,hv,hk,_⟩:=h
  refine⟨by rw [show v=x from hv],hk.os,hk.tape,hk.output,hk.size,fun k hk'=>hk.block k hk' ?_⟩
  rintro ⟨i,n,hi,_⟩
  exact hown i hi
end Go.Proofs.YtkdfcbmcgnaicaaGreat
