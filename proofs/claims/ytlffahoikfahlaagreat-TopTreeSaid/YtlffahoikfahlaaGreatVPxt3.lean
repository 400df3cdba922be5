/-
  Parts of the proofs of the laws: the executor, what functions of the program compute, and that it is what the statements ask. No premise.
-/
import Derived.Test.YtlffahoikfahlaaGreatVPxt2
import Derived.Test.YtlffahoikfahlaaGreatRows
import Derived.Shelf.Abstract
import Derived.ProofKit
import Derived.OpenShut
import Derived.Deep.Slices
import Derived.RowKit
set_option linter.unusedVariables false
set_option linter.unusedSimpArgs false
set_option maxHeartbeats 4000000
open Int renaming toNat → tN
open Inhabited renaming default → dF
open Go.IntKind renaming wrap → iW
open BitVec renaming ofInt → bO
open Int renaming tdiv → tD
open Int renaming fdiv → fD
open Int renaming tmod → mD
namespace Go.Aw
open Go.RowKit
def iQ (a b:Int):Int:=if b < a then b else a
def bX (a b:Int):Int:=if a < b then b else a
theorem aF2 {l:List SV} (h:belowL 0 l=true):Plain l:=fun k hk=>absurd (belowL_has h hk) (fW _)
def mapE {α β:Type} (kc:α->SV)(vc:β->SV)(l:List (α×β)):List (SV×SV):=l.map fun e=>(kc e.1,vc e.2)
def qU {α β:Type} [DecidableEq α] (k:α):List (α×β)->Option (Nat×β)
 | []=>none
 | e::l=>if e.1=k then some (0,e.2) else match qU k l with
  | some q=>some (q.1+1,q.2)
  | none=>none
def aTv {α β:Type} [DecidableEq α] (l:List (α×β))(k:α)(d:β):β:=match qU k l with
 | some q=>q.2
 | none=>d
def aOo {α β:Type} [DecidableEq α] (l:List (α×β))(k:α)(v:β):List (α×β):=match qU k l with
 | some q=>l.set q.1 (k,v)
 | none=>l++[(k,v)]
structure KeyOK {α:Type} (T:Nat->Option TI) (kt:Nat) (kc:α->SV):Prop where
 hb:∀x,rL T kt (kc x)=true
 he:∀x y,∃b,eqC T 100 kt (kc x).cells (kc y).cells=some b/\(b=true↔kc y=kc x)
 inj:∀x y,kc x=kc y->x=y
 pl:∀x,wZ 0 (kc x)=true
theorem aCg {α β:Type} {kc:α->SV} {vc:β->SV} {l:List (α×β)} {i:Nat} {x:SV×SV} (h:(mapE kc vc l)[i]? = some x):∃e,l[i]? = some e/\x=(kc e.1,vc e.2):=by
 unfold mapE at h;rw [List.getElem?_map] at h;cases hl:l[i]? with
 | none=>rw [hl] at h;cases h
 | some e=>rw [hl] at h;simp at h;exact⟨e,rfl,h.symm⟩
theorem aIm {α β:Type} {kc:α->SV} {vc:β->SV} {l:List (α×β)} {T:Nat->Option TI} {kt:Nat} {k:α} (hk:KeyOK T kt kc):qN T kt (mapE kc vc l) (kc k):=fun e he=>by
 obtain⟨i,hi⟩:=List.getElem?_of_mem he;obtain⟨e',_,rfl⟩:=aCg hi;exact⟨hk.hb _,hk.he k e'.1⟩
section
variable {α β : Type} [DecidableEq α] {kc : α → SV} {vc : β → SV} {l : List (α × β)} {k : α} {T : Nat → Option TI} {kt : Nat}
theorem aCh:∀{l:List (α×β)} {q:Nat×β},qU k l=some q->l[q.1]? = some (k,q.2)/\∀j e,j < q.1->l[j]? = some e->e.1≠k
 | [],q,h=>by simp [qU] at h
 | e::l,q,h=>by
  simp only [qU] at h;split at h
  ·rename_i he;simp only [bJ] at h;subst h;exact⟨by rw [←he];rfl,fun j e hj=>absurd hj (fW _)⟩
  ·rename_i he;split at h
   ·rename_i q' hq;simp only [bJ] at h;subst h;obtain⟨h1,h2⟩:=aCh hq;refine⟨by simpa using h1,fun j e' hj hje=>?_⟩;cases j with
    | zero=>simp at hje;rw [←hje];exact he
    | succ j=>exact h2 j e' (by omega) (by simpa using hje)
   ·cases h
theorem aCi:∀{l:List (α×β)},qU k l=none->∀e∈l,e.1≠k
 | [],_,e,he=>by simp at he
 | e::l,h,e',he=>by
  simp only [qU] at h;split at h
  ·cases h
  ·rename_i hne;split at h
   ·cases h
   ·rename_i hn;rcases List.mem_cons.1 he with rfl | he
    ·exact hne
    ·exact aCi hn e' he
theorem aMa (hk:KeyOK T kt kc):aHo (mapE kc vc l) (kc k) ((qU k l).map fun q=>(q.1,vc q.2)):=by
 cases h:qU k l with
 | some q =>
  obtain⟨h1,h2⟩:=aCh h;refine .inl ⟨q.1,vc q.2,by unfold mapE;rw [List.getElem?_map,h1];rfl,fun j e hj he=>?_,rfl⟩;obtain⟨e',he',rfl⟩:=aCg he;exact fun hc=>h2 j e' hj he' (hk.inj _ _ hc)
 | none =>
  refine .inr ⟨fun e he hc=>?_,rfl⟩;obtain⟨i,hi⟩:=List.getElem?_of_mem he;obtain⟨e',he',rfl⟩:=aCg hi;exact aCi h e' (List.mem_of_getElem? he') (hk.inj _ _ hc)
theorem aPx (d:β):vc (aTv l k d)=(((qU k l).map fun q=>(q.1,vc q.2)).map (·.2)).getD (vc d):=by
 unfold aTv;cases qU k l<;>rfl
theorem aTw (hk:KeyOK T kt kc)(v:β):aTf (mapE kc vc l) (kc k) (vc v) (mapE kc vc (aOo l k v)):=by
 refine⟨_,aMa hk,?_⟩;unfold aOo;cases h:qU k l with
 | some q=>simp [mapE,List.map_set]
 | none=>simp [mapE]
variable {P : Program}
def St.z (id:Nat):St P:=⟨[.stop id],[],trivial⟩
def St.mG (hk:KeyOK T kt kc)(vc:β->SV)(l:List (α×β))(k:α)(d:β):St P := ⟨[.ld [vc (aTv l k d)]],[.pr (qN T kt (mapE kc vc l) (kc k)),.pr (∃q,aHo (mapE kc vc l) (kc k) q/\vc (aTv l k d)=(q.map (·.2)).getD (vc d))],aIm hk,⟨_,aMa hk,aPx d⟩,trivial⟩
def St.mPl (hk:KeyOK T kt kc)(l:List (α×SV))(k:α)(v:SV)(hv:belowL 0 (kK (mapE kc (fun x=>x) (aOo l k v)))=true:=by kernel_rfl):St P :=
 ⟨[.mp (mapE kc (fun x=>x) (aOo l k v))],[.pr (qN T kt (mapE kc (fun x=>x) l) (kc k)),.pr (aTf (mapE kc (fun x=>x) l) (kc k) v (mapE kc (fun x=>x) (aOo l k v))),.pr (Plain (kK (mapE kc (fun x=>x) (aOo l k v))))],aIm hk,aTw (vc:=fun x=>x) hk v,aF2 hv,trivial⟩
end
def St.sub {P:Program} (a b:Int)(n:Nat)(h:0<=a/\a<=b/\b<=(n:Int):=by omega):St P:=⟨[.mp []],[.pr (0<=a/\a<=b/\b<=(n:Int))],h,trivial⟩
theorem aWw {T:Nat->Option TI} {kt:Nat} {k:IntKind} (h1:∀n,rL T kt (.v (.int k n))=true)(h2:∀a b,eqC T 100 kt [.v (.int k a)] [.v (.int k b)]=some (a == b)):KeyOK T kt (fun n:Int=>SV.v (.int k n)) :=
 ⟨h1,fun x y=>⟨_,h2 x y,by simp only [beq_iff_eq,SV.v.injEq,Value.int.injEq,true_and];exact eq_comm⟩,fun x y h=>by simpa using h,fun _=>rfl⟩
section
variable {P : Program}
theorem aTx {α:Type} {c:α->List SV} (hc:∀x,(c x).all SV.plain=true)(l:List α):Plain (flat c l):=vZ hc
def St.D {α:Type} {c:α->List SV} {c2:List α->List SV} (es:Nat)(hc2:∀x,c2 x=[.d (flat c x) x.length es])(l:List (List α))(i:Int)(h:0<=i/\i < (l.length:Int):=by omega) (hc:∀x,(c x).all SV.plain=true:=by exact fun _=>rfl):St P :=
 ⟨[.ld [.d (flat c (l.getD i.toNat dF)) (l.getD i.toNat dF).length es]],[.pr (((flat c2 l).drop (0+i.toNat*1)).take 1=[.d (flat c (l.getD i.toNat dF)) (l.getD i.toNat dF).length es]),.pr (Plain (flat c (l.getD i.toNat dF)))],
  by
   have h1:∀x,(c2 x).length=1:=fun x=>by rw [hc2];rfl
   have:=aL9 h1 l i 0 1 h (by decide);rw [Nat.add_zero] at this;show _=_;rw [this,hc2];rfl,aTx hc _,trivial⟩
theorem aPy {α:Type} {c:α->List SV} {z:α} (n:Nat):flat c (List.replicate n z)=(List.replicate n (c z)).flatten:=by
 unfold flat;rw [List.flatMap_def,List.map_replicate]
def St.Z {α:Type} (c:α->List SV)(z:α)(zs:List SV)(n:Int)(bytes:Nat)(h:0<=n/\n.toNat*bytes<=2 ^ 47/\n<=2 ^ 47:=by omega) (e:c z=zs:=by rfl):St P :=
 ⟨[.ld (flat c (List.replicate n.toNat z))],[.pr (0<=n/\n.toNat*bytes<=2 ^ 47/\n<=2 ^ 47),.pr (n=n),.pr (flat c (List.replicate n.toNat z)=(List.replicate n.toNat zs).flatten)],h,rfl,by rw [←e];exact aPy _,trivial⟩
theorem qV {α:Type} {c:α->List SV} {es:Nat} (hc:∀x,(c x).length=es):∀(l:List α) (n:Nat),(flat c l).drop (n*es)=flat c (l.drop n)
 | [],n=>by simp [flat]
 | x::l,0=>by simp
 | x::l,n+1=>by
  rw [lJ,Nat.add_mul,Nat.one_mul,Nat.add_comm,←List.drop_drop,List.drop_left' (hc x),qV hc l n];simp
theorem qW {α:Type} {c:α->List SV} {es:Nat} (hc:∀x,(c x).length=es):∀(l:List α) (n:Nat),(flat c l).take (n*es)=flat c (l.take n)
 | [],n=>by simp [flat]
 | x::l,0=>by simp [flat]
 | x::l,n+1=>by
  rw [lJ,Nat.add_mul,Nat.one_mul,Nat.add_comm,←hc x,List.take_length_add_append,hc x,qW hc l n];simp [lJ]
def part {α:Type} (l:List α)(a b:Int):List α:=(l.drop a.toNat).take (b.toNat - a.toNat)
theorem cD {α:Type} {l:List α} {a b:Int} (h:0<=a/\a<=b/\b<=l.length):(part l a b).length=b.toNat - a.toNat:=by
 unfold part;rw [List.length_take,List.length_drop];omega
def St.S {α:Type} {c:α->List SV} {es:Nat} (hc:∀x,(c x).length=es)(l:List α)(a b:Int)(n:Nat)(h:0<=a/\a<=b/\b<=(n:Int):=by omega):St P :=
 ⟨[.ld (flat c (part l a b))],[.pr (0<=a/\a<=b/\b<=(n:Int)),.pr (flat c (part l a b)=((flat c l).drop (0+a.toNat*es)).take ((b.toNat - a.toNat)*es))],h,by rw [Nat.zero_add,qV hc,qW hc];rfl,trivial⟩
end
end Go.Aw
namespace Go.Aw
open Go.RowKit
mutual
def SV.hasB (i:Nat):SV->Bool | .p j _=>j == i | .s j _ _ _=>j == i | .m j=>j == i | .f _ caps=>SV.hasBl i caps | .a l=>SV.hasBl i l | .t l=>SV.hasBl i l | _=>false
def SV.hasBl (i:Nat):List SV->Bool | []=>false | x::l=>SV.hasB i x || SV.hasBl i l
end
mutual
theorem aVg {i:Nat}:∀(x:SV),x.has i->x.hasB i=true
 | .u,h=>by simp [SV.has] at h
 | .b _,h=>by simp [SV.has] at h
 | .v _,h=>by simp [SV.has] at h
 | .d _ _ _,h=>by simp [SV.has] at h
 | .p j _,h=>by simp only [SV.has] at h;simp [SV.hasB,h]
 | .s j _ _ _,h=>by simp only [SV.has] at h;simp [SV.hasB,h]
 | .m j,h=>by simp only [SV.has] at h;simp [SV.hasB,h]
 | .f _ caps,h=>by simp only [SV.has] at h;simp only [SV.hasB];exact hasl_B caps h
 | .a l,h=>by simp only [SV.has] at h;simp only [SV.hasB];exact hasl_B l h
 | .t l,h=>by simp only [SV.has] at h;simp only [SV.hasB];exact hasl_B l h
theorem hasl_B {i:Nat}:∀(l:List SV),SV.hasl i l->SV.hasBl i l=true
 | [],h=>by simp [SV.hasl] at h
 | x::l,h=>by
  simp only [SV.hasl] at h;simp only [SV.hasBl,Bool.or_eq_true];exact h.imp (aVg x) (hasl_B l)
end
def BK.hasB (i:Nat):BK->Bool | .live _ false cells=>SV.hasBl i cells | .map es=>SV.hasBl i (kK es) | _=>false
theorem aWx {i:Nat} {x:BK} (hpl:x.pl)(h:x.has i):x.hasB i=true:=by
 cases x with
 | un=>exact h.elim
 | dead=>exact h.elim
 | map es=>exact hasl_B _ h
 | live own sym cells =>
  cases sym
  case true=>exact(hpl i h).elim
  exact hasl_B _ h
section
variable {P : Program} {ρ : Env} {W : World} {M : Nat → Prop}
theorem aIn {α:Type} {c:α->List SV} {es:Nat} (hc:∀x,(c x).length=es) {l:List α} {a b:Int} (hab:0<=a/\a<=b/\b<=l.length) {i:Nat} {y:Value}
 (hr:Rel ρ (.s i (0+a.toNat*es) (b.toNat - a.toNat) es) y) (hb:BRep ρ M W i (.live false true (flat c l))) (hpl:Plain (flat c l)) :
 ∃q,∀(k:Nat) (ρ2:Env),ρ2 k=q->ρ2.fz=ρ.fz->Rel ρ2 (.s k 0 (part l a b).length es) y/\BRep ρ2 M W k (.live false true (flat c (part l a b))):=by
 have hl:=cD hab;have hf:flat c (part l a b)=((flat c l).drop (a.toNat*es)).take ((b.toNat - a.toNat)*es):=by rw [qV hc,qW hc];rfl
 simp only [Rel] at hr;rcases hr with⟨h1,h2,h3⟩ | ⟨b0,o,N,cap,off',sp,h1,h2,h3,h4,h5⟩
 ·refine⟨none,fun k ρ2 hq hfz=>⟨?_,.inl ⟨hq,?_⟩⟩⟩
  ·simp only [Rel];exact .inl ⟨hq,by omega,h3⟩
  ·rw [hf,h2];simp
 ·refine⟨some (b0,o+off',cap*es),fun k ρ2 hq hfz=>⟨?_,?_⟩⟩
  ·simp only [Rel];exact .inr ⟨b0,o+off',cap*es,cap,0,sp,hq,by rw [hl,Nat.add_zero];exact h2,by rw [hl];exact h3,by omega,fun hc=>⟨rfl,(h5 hc).2⟩⟩
  ·rcases hb with⟨e1,_⟩ | ⟨b1,o1,n1,vs,e1,⟨e2,e3⟩,e4,e5⟩
   ·rw [h1] at e1;cases e1
   ·rw [h1] at e1;simp only [bJ,eZ] at e1;obtain⟨rfl,rfl,rfl⟩:=e1;have hle:(b.toNat - a.toNat)*es<=cap*es:=Nat.mul_le_mul_right _ h3;refine .inr ⟨b0,o+off',cap*es,(vs.drop (a.toNat*es)).take ((b.toNat - a.toNat)*es),hq,⟨by rw [List.length_take];omega,fun hne hM=>?_⟩,?_,fun t x hx=>?_⟩
    ·rw [hfz];exact e3 (fun e=>hne (by rw [e];simp)) hM
    ·rw [hf];have hp2:Plain (((flat c l).drop (a.toNat*es)).take ((b.toNat - a.toNat)*es)):=fun j hj=>hpl j (kM (kL hj))
     exact Plain.congr (fun b o ho=>by rw [hfz];exact ho) hp2 (Rels.take _ (Rels.drop _ e4))
    ·have ht:=(List.getElem?_eq_some_iff.1 hx).1;rw [List.length_take] at ht;rw [List.getElem?_take_of_lt (by omega),List.getElem?_drop] at hx;have hcap:cap≠0:=by
      intro e;rw [e] at hle;omega
     rw [(h5 hcap).1,show o+(0+a.toNat*es)+t=o+(a.toNat*es+t) by omega];exact e5 _ x hx
theorem yT {ρ ρ2:Env} {x y:SV}:∀{pre post:List SV} {vs:List Value},Rels ρ (pre++x::post) vs->ρ.le ρ2->(∀j,SV.hasl j pre\/SV.hasl j post->ρ2 j=ρ j)->(∃v,vs[pre.length]? = some v/\Rel ρ2 y v)->Rels ρ2 (pre++y::post) vs
 | [],post,[],h,_,_,_=>by simp [Rels] at h
 | [],post,v::vs,h,hf,hj,hx=>by
  simp only [List.nil_append,Rels] at h ⊢;obtain⟨v',e,hx⟩:=hx;simp only [List.length_nil,List.getElem?_cons_zero,bJ] at e;subst e;exact⟨hx,Rels.congr hf _ _ (fun j hk=>hj j (.inr hk)) h.2⟩
 | z::pre,post,[],h,_,_,_=>by simp [Rels] at h
 | z::pre,post,v::vs,h,hf,hj,hx=>by
  simp only [List.cons_append,Rels] at h ⊢;refine⟨Rel.congr hf _ _ (fun j hk=>hj j (.inl (by simp only [SV.hasl];exact .inl hk))) h.1,yT h.2 hf (fun j hk=>hj j ?_) ?_⟩
  ·rcases hk with hk | hk
   ·exact .inl (by simp only [SV.hasl];exact .inr hk)
   ·exact .inr hk
  ·obtain⟨v',e,hx⟩:=hx;exact⟨v',by simpa using e,hx⟩
theorem aF3 {x:SV}:∀{pre post:List SV} {vs:List Value},Rels ρ (pre++x::post) vs->∃v,vs[pre.length]? = some v/\Rel ρ x v
 | [],_,[],h=>by simp [Rels] at h
 | [],_,v::_,h=>by simp only [List.nil_append,Rels] at h;exact⟨v,rfl,h.1⟩
 | _::_,_,[],h=>by simp [Rels] at h
 | _::pre,_,_::_,h=>by
  simp only [List.cons_append,Rels] at h;obtain⟨v,e,hx⟩:=aF3 h.2;exact⟨v,by simpa using e,hx⟩
theorem gQ {x:BK} {bs1 bs2:List BK} (j:Nat):(bs1++x::bs2).getD j .un=if j=bs1.length then x else if j < bs1.length then bs1.getD j .un else bs2.getD (j - bs1.length - 1) .un:=by
 simp only [fS];by_cases h:j=bs1.length
 ·subst h;simp
 ·rw [if_neg h];by_cases h2:j < bs1.length
  ·rw [if_pos h2,List.getElem?_append_left h2]
  ·rw [if_neg h2,List.getElem?_append_right (by omega)];obtain⟨k,hk⟩:∃k,j - bs1.length=k+1:=⟨j - bs1.length - 1,by omega⟩;rw [hk];simp
theorem Con.part {f:Nat} {pre post:List SV} {bs1 bs2 nb:List BK} {res:SV} {α:Type} {c:α->List SV} {es:Nat} {l:List α} {a b:Int} (i:Nat)(hc:∀x,(c x).length=es)(hab:0<=a/\a<=b/\b<=l.length)(hi:bs1.length=i)
 (hno:(!SV.hasBl i pre&&!SV.hasBl i post&&bs1.all (fun x=>!x.hasB i)&&bs2.all (fun x=>!x.hasB i)&&nb.all (fun x=>!x.hasB i)&&!res.hasB i)=true)
 (h:Con P f (pre++.s i 0 (Aw.part l a b).length es::post) (bs1++.live false true (flat c (Aw.part l a b))::bs2) res nb) :
 Con P f (pre++.s i (0+a.toNat*es) (b.toNat - a.toNat) es::post) (bs1++.live false true (flat c l)::bs2) res nb:=by
 subst hi;simp only [Bool.and_eq_true,Bool.not_eq_true',List.all_eq_true] at hno;obtain⟨⟨⟨⟨⟨n1,n2⟩,n3⟩,n4⟩,n5⟩,n6⟩:=hno;refine⟨h.1,fun ρ W vs hr hb hpl hap hfz=>?_⟩;obtain⟨y,hy,hry⟩:=aF3 hr;have hbi:=hb bs1.length;have hpi:=hpl bs1.length;rw [gQ,if_pos rfl] at hbi hpi;obtain⟨q,hq⟩:=aIn hc hab hry hbi hpi;have hne:∀j,j≠bs1.length->(ρ.set bs1.length q) j=ρ j:=fun j hj=>by rw [Env.set_loc,if_neg hj]
 have hat:(ρ.set bs1.length q) bs1.length=q:=by rw [Env.set_loc,if_pos rfl]
 have hown:uW (ρ.set bs1.length q) (bs1++.live false true (flat c (Aw.part l a b))::bs2)=uW ρ (bs1++.live false true (flat c l)::bs2):=by
  funext b0
  apply propext;unfold uW;constructor
  ·rintro ⟨j,n,h1,h2⟩
   rw [gQ] at h1;by_cases hj:j=bs1.length
   ·rw [if_pos hj] at h1;exact h1.elim
   ·refine⟨j,n,?_,by rw [←hne j hj];exact h2⟩;rw [gQ,if_neg hj];rw [if_neg hj] at h1;exact h1
  ·rintro ⟨j,n,h1,h2⟩
   rw [gQ] at h1;by_cases hj:j=bs1.length
   ·rw [if_pos hj] at h1;exact h1.elim
   ·refine⟨j,n,?_,by rw [hne j hj];exact h2⟩;rw [gQ,if_neg hj];rw [if_neg hj] at h1;exact h1
 have hmine:(cY (ρ.set bs1.length q) W (bs1++.live false true (flat c (Aw.part l a b))::bs2)).mine=(cY ρ W (bs1++.live false true (flat c l)::bs2)).mine:=by
  funext b0
  unfold Cx.mine cY;simp only [hown]
 obtain⟨g1,g2⟩:=hq bs1.length (ρ.set bs1.length q) hat rfl;have blk:∀j,j≠bs1.length->(bs1++BK.live false true (flat c (Aw.part l a b))::bs2).getD j .un=(bs1++BK.live false true (flat c l)::bs2).getD j .un:=fun j hj=>by rw [gQ,gQ,if_neg hj,if_neg hj]
 have nohas:∀j,j≠bs1.length->¬((bs1++BK.live false true (flat c l)::bs2).getD j .un).has bs1.length:=fun j hj hk=>by
  have hB:=aWx (hpl j) hk;rw [gQ,if_neg hj] at hB;split at hB
  ·rename_i hlt;rw [fS,List.getElem?_eq_getElem hlt,Option.getD_some] at hB;rw [n3 _ (List.getElem_mem hlt)] at hB;cases hB
  ·by_cases hlt:j - bs1.length - 1 < bs2.length
   ·rw [fS,List.getElem?_eq_getElem hlt,Option.getD_some] at hB;rw [n4 _ (List.getElem_mem hlt)] at hB;cases hB
   ·rw [fS,List.getElem?_eq_none (by omega),Option.getD_none] at hB;cases hB
 have nol:∀{m:List SV},SV.hasBl bs1.length m=false->∀j,SV.hasl j m->j≠bs1.length:=fun hm j hj e=>by
  subst e;rw [hasl_B _ hj] at hm;cases hm
 have hcall:=h.2 (ρ.set bs1.length q) W vs ?_ ?_ ?_ ?_ ?_
 ·refine hcall.mono fun e W' hR=>?_
  obtain⟨ρ',v,r1,r2,r3,r4,r5,r6,r7,r8,r9⟩:=hR;have hbase:(cY (ρ.set bs1.length q) W (bs1++.live false true (flat c (Aw.part l a b))::bs2)).base=(cY ρ W (bs1++.live false true (flat c l)::bs2)).base:=by simp [cY]
  have hlt:bs1.length < (cY ρ W (bs1++.live false true (flat c l)::bs2)).base:=by simp [cY]
  rw [hbase] at r2 r5 r6 r7 r9;rw [hmine] at r5 r9;have hnb:∀j,¬(fY (cY ρ W (bs1++.live false true (flat c l)::bs2)).base [] nb j).has bs1.length:=fun j hk=>by
   have hB:=aWx (r6 j) hk;unfold fY at hB;split at hB
   ·simp [BK.hasB] at hB
   ·rename_i hge;by_cases hl2:j - (cY ρ W (bs1++.live false true (flat c l)::bs2)).base < nb.length
    ·rw [fS,List.getElem?_eq_getElem hl2,Option.getD_some] at hB;rw [n5 _ (List.getElem_mem hl2)] at hB;cases hB
    ·rw [fS,List.getElem?_eq_none (by omega),Option.getD_none] at hB;cases hB
  have ho:∀j,(fY (cY ρ W (bs1++.live false true (flat c l)::bs2)).base [] nb j).own->j≠bs1.length:=fun j hj e=>by
   subst e;unfold fY at hj;rw [if_pos hlt] at hj;exact hj
  have hs:∀j,j≠bs1.length->(ρ'.set bs1.length (ρ bs1.length)) j=ρ' j:=fun j hj=>by rw [Env.set_loc,if_neg hj]
  refine⟨ρ'.set bs1.length (ρ bs1.length),v,r1,fun j hj=>?_,?_,?_,fun j=>?_,r6,fun j k b1 m1 b2 m2 hjk o1 o2 e1 e2=>?_,?_,fun b0 o0 hf0=>?_⟩
  ·by_cases hji:j=bs1.length
   ·subst hji;rw [Env.set_loc,if_pos rfl];rfl
   ·rw [hs j hji,r2 j hj];exact hne j hji
  ·exact Rel.congr (ρ'.le_set _ _) _ _ (fun j hk=>hs j (fun e=>by subst e;rw [aVg _ hk] at n6;cases n6)) r3
  ·have:(cY (ρ.set bs1.length q) W (bs1++.live false true (flat c (Aw.part l a b))::bs2)).own=(cY ρ W (bs1++.live false true (flat c l)::bs2)).own:=hown;rw [this] at r4;exact r4
  ·by_cases hji:j=bs1.length
   ·subst hji;unfold fY;rw [if_pos hlt];trivial
   ·exact BRep.congr (ρ'.le_set _ _) (hs j hji) (fun k hk=>hs k (fun e=>by subst e;exact hnb j hk)) (r5 j)
  ·rw [hs j (ho j o1)] at e1;rw [hs k (ho k o2)] at e2;exact r7 j k b1 m1 b2 m2 hjk o1 o2 e1 e2
  ·exact r8
  ·obtain⟨t1,t2,t3⟩:=r9 b0 o0 hf0;exact⟨t1,fun j n hj=>by rw [hs j (ho j hj)];exact t2 j n hj,t3⟩
 ·refine yT hr (ρ.le_set _ _) (fun j hj=>hne j ?_) ⟨y,hy,g1⟩;rcases hj with hj | hj
  ·exact nol n1 j hj
  ·exact nol n2 j hj
 ·intro j;rw [hmine];by_cases hj:j=bs1.length
  ·rw [hj,gQ,if_pos rfl];exact g2
  ·rw [blk j hj];exact BRep.congr (ρ.le_set _ _) (hne j hj) (fun k hk=>hne k (fun e=>by subst e;exact nohas j hj hk)) (hb j)
 ·intro j;by_cases hj:j=bs1.length
  ·rw [hj,gQ,if_pos rfl];show Plain _;have hf:flat c (Aw.part l a b)=((flat c l).drop (a.toNat*es)).take ((b.toNat - a.toNat)*es):=by rw [qV hc,qW hc];rfl
   rw [hf];exact fun k hk=>hpi k (kM (kL hk))
  ·rw [blk j hj];exact hpl j
 ·intro j k b1 m1 b2 m2 hjk o1 o2 e1 e2;have hj:j≠bs1.length:=fun e=>by rw [e,gQ,if_pos rfl] at o1;exact o1
  have hk:k≠bs1.length:=fun e=>by rw [e,gQ,if_pos rfl] at o2;exact o2
  rw [blk j hj] at o1;rw [blk k hk] at o2;rw [hne j hj] at e1;rw [hne k hk] at e2;exact hap j k b1 m1 b2 m2 hjk o1 o2 e1 e2
 ·intro b0 o0 hf0;obtain⟨t1,t2⟩:=hfz b0 o0 hf0;refine⟨t1,fun j n hj=>?_⟩;have hji:j≠bs1.length:=fun e=>by rw [e,gQ,if_pos rfl] at hj;exact hj
  rw [blk j hji] at hj;rw [hne j hji];exact t2 j n hj
theorem nV {x:BK} {bs:List BK} (j:Nat):(bs++[x]).getD j .un=if j=bs.length then x else bs.getD j .un:=by
 rw [gQ (bs2:=[])];by_cases h:j=bs.length
 ·rw [if_pos h,if_pos h]
 ·rw [if_neg h,if_neg h];by_cases h2:j < bs.length
  ·rw [if_pos h2]
  ·rw [if_neg h2];simp only [fS];rw [List.getElem?_eq_none (by omega:bs.length<=j)];simp
theorem Con.alias {f:Nat} {pre post:List SV} {bs:List BK} {res:SV} {α:Type} {c:α->List SV} {es:Nat} {l:List α} {a b:Int} (i:Nat)(hc:∀x,(c x).length=es)(hab:0<=a/\a<=b/\b<=l.length)
 (hi:bs[i]? = some (.live false true (flat c l)))
 (hno:(!SV.hasBl bs.length pre&&!SV.hasBl bs.length post&&bs.all (fun x=>!x.hasB bs.length)&&!res.hasB bs.length)=true)
 (h:Con P f (pre++.s bs.length 0 (Aw.part l a b).length es::post) (bs++[.live false true (flat c (Aw.part l a b))]) res []) :
 Con P f (pre++.s i (0+a.toNat*es) (b.toNat - a.toNat) es::post) bs res []:=by
 simp only [Bool.and_eq_true,Bool.not_eq_true',List.all_eq_true] at hno;obtain⟨⟨⟨n1,n2⟩,n3⟩,n6⟩:=hno;refine⟨h.1,fun ρ W vs hr hb hpl hap hfz=>?_⟩;have hilt:=(List.getElem?_eq_some_iff.1 hi).1;have hgi:bs.getD i .un=.live false true (flat c l):=by rw [fS,hi];rfl
 obtain⟨y,hy,hry⟩:=aF3 hr;have hbi:=hb i;have hpi:=hpl i;rw [hgi] at hbi hpi;obtain⟨q,hq⟩:=aIn hc hab hry hbi hpi;have hne:∀j,j≠bs.length->(ρ.set bs.length q) j=ρ j:=fun j hj=>by rw [Env.set_loc,if_neg hj]
 have hat:(ρ.set bs.length q) bs.length=q:=by rw [Env.set_loc,if_pos rfl]
 have hend:bs.getD bs.length .un=.un:=by rw [fS,List.getElem?_eq_none (Nat.le_refl _)];rfl
 have hown:uW (ρ.set bs.length q) (bs++[.live false true (flat c (Aw.part l a b))])=uW ρ bs:=by
  funext b0
  apply propext;unfold uW;constructor
  ·rintro ⟨j,n,h1,h2⟩
   rw [nV] at h1;by_cases hj:j=bs.length
   ·rw [if_pos hj] at h1;exact h1.elim
   ·rw [if_neg hj] at h1;exact⟨j,n,h1,by rw [←hne j hj];exact h2⟩
  ·rintro ⟨j,n,h1,h2⟩
   have hj:j≠bs.length:=fun e=>by rw [e,hend] at h1;exact h1
   exact⟨j,n,by rw [nV,if_neg hj];exact h1,by rw [hne j hj];exact h2⟩
 have hmine:(cY (ρ.set bs.length q) W (bs++[.live false true (flat c (Aw.part l a b))])).mine=(cY ρ W bs).mine:=by
  funext b0
  unfold Cx.mine cY;simp only [hown]
 obtain⟨g1,g2⟩:=hq bs.length (ρ.set bs.length q) hat rfl;have nohas:∀j,¬(bs.getD j .un).has bs.length:=fun j hk=>by
  have hB:=aWx (hpl j) hk;by_cases hlt:j < bs.length
  ·rw [fS,List.getElem?_eq_getElem hlt,Option.getD_some] at hB;rw [n3 _ (List.getElem_mem hlt)] at hB;cases hB
  ·rw [fS,List.getElem?_eq_none (by omega),Option.getD_none] at hB;cases hB
 have nol:∀{m:List SV},SV.hasBl bs.length m=false->∀j,SV.hasl j m->j≠bs.length:=fun hm j hj e=>by
  subst e;rw [hasl_B _ hj] at hm;cases hm
 have hcall:=h.2 (ρ.set bs.length q) W vs ?_ ?_ ?_ ?_ ?_
 ·refine hcall.mono fun e W' hR=>?_
  obtain⟨ρ',v,r1,r2,r3,r4,r5,r6,r7,r8,r9⟩:=hR;have un1:∀j,fY (cY ρ W bs).base [] [] j=.un:=fun j=>by unfold fY;simp
  have un2:∀j,fY (cY (ρ.set bs.length q) W (bs++[.live false true (flat c (Aw.part l a b))])).base [] [] j=.un:=fun j=>by unfold fY;simp
  refine⟨ρ',v,r1,fun j hj=>?_,r3,?_,fun j=>?_,fun j=>?_,fun j k b1 m1 b2 m2 hjk o1 o2 e1 e2=>?_,r8,fun b0 o0 hf0=>?_⟩
  ·have hj':j < bs.length:=hj;rw [r2 j (by simp [cY];omega)];exact hne j (by omega)
  ·have:(cY (ρ.set bs.length q) W (bs++[.live false true (flat c (Aw.part l a b))])).own=(cY ρ W bs).own:=hown;rw [this] at r4;exact r4
  ·rw [un1];trivial
  ·rw [un1];trivial
  ·rw [un1] at o1;exact o1.elim
  ·obtain⟨t1,t2,t3⟩:=r9 b0 o0 hf0;rw [hmine] at t3;exact⟨t1,fun j n hj=>by rw [un1] at hj;exact hj.elim,t3⟩
 ·refine yT hr (ρ.le_set _ _) (fun j hj=>hne j ?_) ⟨y,hy,g1⟩;rcases hj with hj | hj
  ·exact nol n1 j hj
  ·exact nol n2 j hj
 ·intro j;rw [hmine,nV];by_cases hj:j=bs.length
  ·rw [if_pos hj,hj];exact g2
  ·rw [if_neg hj];exact BRep.congr (ρ.le_set _ _) (hne j hj) (fun k hk=>hne k (fun e=>by subst e;exact nohas j hk)) (hb j)
 ·intro j;rw [nV];by_cases hj:j=bs.length
  ·rw [if_pos hj];show Plain _;have hf:flat c (Aw.part l a b)=((flat c l).drop (a.toNat*es)).take ((b.toNat - a.toNat)*es):=by rw [qV hc,qW hc];rfl
   rw [hf];exact fun k hk=>hpi k (kM (kL hk))
  ·rw [if_neg hj];exact hpl j
 ·intro j k b1 m1 b2 m2 hjk o1 o2 e1 e2;rw [nV] at o1 o2;have hj:j≠bs.length:=fun e=>by rw [if_pos e] at o1;exact o1
  have hk:k≠bs.length:=fun e=>by rw [if_pos e] at o2;exact o2
  rw [if_neg hj] at o1;rw [if_neg hk] at o2;rw [hne j hj] at e1;rw [hne k hk] at e2;exact hap j k b1 m1 b2 m2 hjk o1 o2 e1 e2
 ·intro b0 o0 hf0;obtain⟨t1,t2⟩:=hfz b0 o0 hf0;refine⟨t1,fun j n hj=>?_⟩;rw [nV] at hj;have hji:j≠bs.length:=fun e=>by rw [if_pos e] at hj;exact hj
  rw [if_neg hji] at hj;rw [hne j hji];exact t2 j n hj
end
def aKl (T:Nat->Option TI)(rv:List ResultVar)(base:Nat)(ms ks:List Nat):Option (Out×List Ob×List Or)->Option (SV×List BK×List BK×List Ob)
 | some (.norm s,obs,[])=>match fin T rv base ms ks s with
  | some (res,nb,mb)=>some (res,nb,mb,obs)
  | none=>none
 | _=>none
theorem aTy {P:Program} {T:Nat->Option TI} {cx:Cx} {n:Nat} (hT:nK P T)(hm:P.follows .mixedOrders=true) {fn:Func} {f:Nat} {k:List K} {s:LS} {orc:List Or} (ads:List Adj)(ms ks:List Nat) {base:Nat} (hb:cx.base=base) {res:SV} {nb mb:List BK} {obs:List Ob}
 (h:aKl T fn.results.toList base ms ks (nN ads (run T f k s orc))=some (res,nb,mb,obs)) (hob:Obs P obs):Good P none n (bodyPost P fn (RR cx res nb mb)) cx [] k s:=by
 subst hb;unfold aKl at h;split at h
 ·rename_i s' obs' hrun;split at h
  ·rename_i res' nb' mb' hf;simp only [bJ,eZ] at h;obtain⟨rfl,rfl,rfl,rfl⟩:=h;obtain⟨o',hr,hg⟩:=pM (P:=P) (r:=none) (n:=n) (Q:=bodyPost P fn (RR cx res' nb' mb')) (cx:=cx) (D:=[]) hrun;exact gI hT hm f k s orc _ _ _ hr hob (hg (fun ρ a W hrep=>aKf hT hf ρ a W hrep))
  ·cases h
 ·cases h
end Go.Aw
namespace Go.Proofs.YtlffahoikfahlaaGreat
open Go.Proofs Go.Aw Go.RowKit
set_option maxRecDepth 100000
noncomputable def T0:=conv Tryz.prog
theorem hT:nK Tryz.prog T0:=fun _ _ h=>h
theorem hm:Tryz.prog.follows .mixedOrders=true:=by kernel_rfl
def W (n:Int):Int:=iW .i64 n
theorem xC (n:Int):W n=if n % 18446744073709551616≥9223372036854775808 then n % 18446744073709551616 - 18446744073709551616 else n % 18446744073709551616:=by
 unfold W iW;simp [IntKind.bits,IntKind.signed]
theorem aG {n:Int} (h1:-9223372036854775808<=n)(h2:n < 9223372036854775808):W n=n:=by
 rw [xC];split<;>omega
theorem aKm (x:Int)(k:Nat) {m:Nat} (hm:(2:Int) ^ (min (tN k) 64)=m):fD x (2 ^ (min (tN k) 64))=x / m:=by
 rw [hm];exact Int.fdiv_eq_ediv_of_nonneg _ (by omega)
theorem aF4 {a b:Int} (h:0<=a/\a<=b/\b<=2147483648):W (tD (W (a+b)) 2)=(a+b) / 2:=by
 rw [aG (n:=a+b) (by omega) (by omega),Int.tdiv_eq_ediv_of_nonneg (by omega),aG (by omega) (by omega)]
theorem jF (n:Int):0<=iW .u64 n:=by
 simp only [iW,IntKind.bits,IntKind.signed];simp;omega
theorem aMb (b:Bool):b=true\/b=false:=by cases b<;>simp
def k9 (x:Zt×Zt×Zt):List SV:=[(iv x.1.1),(iv x.1.2.1),(iv x.1.2.2),(iv x.2.1.1),(iv x.2.1.2.1),(iv x.2.1.2.2),(iv x.2.2.1),(iv x.2.2.2.1),(iv x.2.2.2.2)]
def k3 (x:Zt):List SV:=[(iv x.1),(iv x.2.1),(iv x.2.2)]
def k2 (x:Zs):List SV:=[(iv x.1),(iv x.2)]
section
variable {cx : Cx} {k : List K} {s : LS} {base : Nat} {Q : Exit → Act → World → Prop}
theorem rt {fn:Func} (sts:List (St Tryz.prog))(ads:List Adj)(ks:List Nat)(hb:cx.base=base) {res:SV} {nb:List BK}
 (h:zQ T0 fn.results.toList base [] ks (nN ads (run T0 5000 k s (stO sts)))=some (res,nb,[],stB sts)):Aw.Good Tryz.prog none 9 (bodyPost Tryz.prog fn (RR cx res nb [])) cx [] k s:=aZc hT hm sts ads ks hb h
theorem rtm {fn:Func} (sts:List (St Tryz.prog))(ads:List Adj)(ms ks:List Nat)(hb:cx.base=base) {res:SV} {nb mb:List BK}
 (h:zQ T0 fn.results.toList base ms ks (nN ads (run T0 5000 k s (stO sts)))=some (res,nb,mb,stB sts)):Aw.Good Tryz.prog none 9 (bodyPost Tryz.prog fn (RR cx res nb mb)) cx [] k s:=aPn hT hm ads ms ks hb h (aKk sts)
theorem rtn {fn:Func} (sts:List (St Tryz.prog))(ads:List Adj)(ms ks:List Nat)(hb:cx.base=base) {res:SV} {nb mb:List BK}
 (h:aKl T0 fn.results.toList base ms ks (nN ads (run T0 5000 k s (stO sts)))=some (res,nb,mb,stB sts)):Aw.Good Tryz.prog none 9 (bodyPost Tryz.prog fn (RR cx res nb mb)) cx [] k s:=aTy hT hm ads ms ks hb h (aKk sts)
theorem en (sts:List (St Tryz.prog))(ads:List Adj)(ts ks:List Nat)(hb:cx.base=base)(body:Code)(k':List K)(s':LS)(m:Nat)
 (h:xA base ts ks (nN ads (run T0 5000 k s (stO sts)))=some (body,k',s',stB sts)) (hg:Aw.Good Tryz.prog none 9 Q cx [] (.l body m::k') s'):Aw.Good Tryz.prog none 9 Q cx [] k s:=aTu hT hm sts ads ts ks hb body k' s' m h hg
theorem ba {m:Nat} (sts:List (St Tryz.prog))(ads:List Adj)(ts ks:List Nat)(hb:cx.base=base)(body:Code)(k':List K)(s':LS)
 (h:aB9 base ts ks (nN ads (run T0 5000 k s (stO sts)))=some (body,m,k',s',stB sts)) (hg:Aw.Good Tryz.prog none 9 Q cx [] (.l body m::k') s'):Aw.Good Tryz.prog none 9 Q cx [] k s:=aWv hT hm sts ads ts ks hb body k' s' h hg
theorem ga (sts:List (St Tryz.prog))(ads:List Adj)(ts ks:List Nat)(hb:cx.base=base)(x:Code)(k':List K)(s':LS)
 (h:aPr base ts ks (nN ads (run T0 5000 k s (stO sts)))=some (x,k',s',stB sts)) (hg:Aw.Good Tryz.prog none 9 Q cx [] (.c x::k') s'):Aw.Good Tryz.prog none 9 Q cx [] k s:=bBx hT hm sts ads ts ks hb x k' s' h hg
end
def dZ (a0:Zt)(a1:Int):Zt := ((W (a1*a0.1)),(W (a1*a0.2.1)),(W (a1*a0.2.2)))
abbrev SL:=List (St Tryz.prog)
abbrev gG (f:Func)(cx:Cx)(r:SV)(nb mb:List BK)(k:List K)(s:LS):Prop:=Aw.Good Tryz.prog none 9 (bodyPost Tryz.prog f (RR cx r nb mb)) cx [] k s
theorem cS {f : Nat} {fn : Func} {args : List SV} {bs : List BK} {res : SV} {nb mb : List BK} (hf : Tryz.prog.funcs[f]? = some fn) (h : ∀ cx : Cx, cx.base = bs.length → gG fn cx res nb mb [.c (aX fn)] (oH fn.ntmps args bs)) (hc : (fn.body.isSome && !(fn.name == "runtime.NumGoroutine") && decide (args.length ≤ fn.ntmps) && bs.all vW && belowL bs.length args && bs.all (vX bs.length)) = true := by kernel_rfl) : Con Tryz.prog f args bs res nb mb := aZb hf hc h
section
variable {cx : Cx} {k : List K} {s : LS} {base : Nat} {Q : Exit → Act → World → Prop}
theorem rT {fn:Func} (sts:SL)(hb:cx.base=base) {res:SV} {nb:List BK} (h:zQ T0 fn.results.toList base [] [] (nN [] (run T0 5000 k s (stO sts)))=some (res,nb,[],stB sts):=by kernel_rfl):gG fn cx res nb [] k s:=rt sts [] [] hb h
theorem bA (m:Nat)(sts:SL)(ts ks:List Nat)(hb:cx.base=base)(x:Code×List K)(s':LS)(hg:Aw.Good Tryz.prog none 9 Q cx [] (.l x.1 m::x.2) s')(h:aB9 base ts ks (nN [] (run T0 5000 k s (stO sts)))=some (x.1,m,x.2,s',stB sts):=by kernel_rfl):Aw.Good Tryz.prog none 9 Q cx [] k s:=ba sts [] ts ks hb x.1 x.2 s' h hg
theorem eN (sts:SL)(ts ks:List Nat)(hb:cx.base=base)(x:Code×List K)(s':LS)(m:Nat)(hg:Aw.Good Tryz.prog none 9 Q cx [] (.l x.1 m::x.2) s')(h:xA base ts ks (nN [] (run T0 5000 k s (stO sts)))=some (x.1,x.2,s',stB sts):=by kernel_rfl):Aw.Good Tryz.prog none 9 Q cx [] k s:=en sts [] ts ks hb x.1 x.2 s' m h hg
theorem gA (sts:SL)(ts ks:List Nat)(hb:cx.base=base)(x:Code×List K)(s':LS)(hg:Aw.Good Tryz.prog none 9 Q cx [] (.c x.1::x.2) s')(h:aPr base ts ks (nN [] (run T0 5000 k s (stO sts)))=some (x.1,x.2,s',stB sts):=by kernel_rfl):Aw.Good Tryz.prog none 9 Q cx [] k s:=ga sts [] ts ks hb x.1 x.2 s' h hg
end
theorem aTz (a0:Zt)(a1:Int):Con Tryz.prog 127 [(.a (k3 a0)),(iv a1)] [] (.a (k3 (dZ a0 a1))) []:=by
 refine cS Tryz.func127 fun cx hcx=>?_
 have e:=Eq.refl (dZ a0 a1);(conv at e=>rhs;simp only [dZ]);rw [e];exact rT [] hcx
def jW (a0 a1:Zt):Zt := ((W (a0.1+a1.1)),(W (a0.2.1+a1.2.1)),(W (a0.2.2+a1.2.2)))
theorem aWy (a0 a1:Zt):Con Tryz.prog 167 [(.a (k3 a0)),(.a (k3 a1))] [] (.a (k3 (jW a0 a1))) []:=by
 refine cS Tryz.func167 fun cx hcx=>?_
 have e:=Eq.refl (jW a0 a1);(conv at e=>rhs;simp only [jW]);rw [e];exact rT [] hcx
def cP (x:Zt×Zt×Zt):List SV:=[iv x.1.1,iv x.1.2.1,iv x.1.2.2,iv x.2.1.1,iv x.2.1.2.1,iv x.2.1.2.2,iv x.2.2.1,iv x.2.2.2.1,iv x.2.2.2.2]
def aF5 (x:Zt×Zt×Zt):Value:=.agg #[.int .i64 x.1.1,.int .i64 x.1.2.1,.int .i64 x.1.2.2,.int .i64 x.2.1.1,.int .i64 x.2.1.2.1,.int .i64 x.2.1.2.2,.int .i64 x.2.2.1,.int .i64 x.2.2.2.1,.int .i64 x.2.2.2.2]
theorem aIo (ρ:Env)(x:Zt×Zt×Zt):Rel ρ (.a (cP x)) (aF5 x):=by
 simp only [Rel];exact⟨_,rfl,by simp [cP,Rels,Rel,iv]⟩
theorem aWz (x:Zt×Zt×Zt)(k:Nat):¬(SV.a (cP x)).has k:=by
 simp [cP,SV.has,SV.hasl,iv]
def yv (l:Nat):Value:=.func (.yield l) #[] #[]
def q1 (p:Zt×Zt×Zt):Zt×Zt×Zt:=(dZ p.1 2,jW p.1 p.2.1,jW p.2.2 p.1)
def q2 (p:Zt×Zt×Zt):Zt×Zt×Zt:=(jW p.1 p.2.1,dZ p.2.1 2,jW p.2.1 p.2.2)
def q3 (p:Zt×Zt×Zt):Zt×Zt×Zt:=(jW p.2.2 p.1,jW p.2.1 p.2.2,dZ p.2.2 2)
def q4 (p:Zt×Zt×Zt):Zt×Zt×Zt:=(jW p.1 p.2.1,jW p.2.1 p.2.2,jW p.2.2 p.1)
def eL:Nat->Zt×Zt×Zt->List (Zt×Zt×Zt) | 0,p=>[p] | d+1,p=>eL d (q1 p)++(eL d (q2 p)++(eL d (q3 p)++eL d (q4 p)))
def xD (l:Nat)(J:Nat->(Nat->Prop)->World->Prop)(Jx:(Nat->Prop)->World->Prop)(xs:List (Zt×Zt×Zt))(d:Nat):Prop := ∀(p:Zt×Zt×Zt) (i:Nat) (S:Nat->Prop) (W:World) (ρ:Env) (vs:List Value),Rels ρ [.a (cP p),iv d,.p 0 0,.p 1 0] vs -> BRep ρ (fun b=>W.heap.size<=b) W 0 (.live false false [.v (yv l)])->BRep ρ (fun b=>W.heap.size<=b) W 1 (.live false false [.f 166 [.p 0 0,.p 1 0]]) -> (∀k,k < 2->∀b o n,ρ k=some (b,o,n)->¬S b)->J i S W->(∀j x,(eL d p)[j]? = some x->xs[i+j]? = some x) -> Calls Tryz.prog 166 vs.toArray W (VR J Jx (i+(eL d p).length) S W)
noncomputable def OY:Array Oper:=match (dK [1,0,1,0,0] [] (Tryz.f166.body.getD .skip)).1 with
 | .region _ ops _=>ops
 | _=>#[]
noncomputable def KY:List K:=(dK [1,0,1,0,0] [] (Tryz.f166.body.getD .skip)).2
noncomputable def OV:Array Oper:=match (dK [1,1,1,1,0,1,0,0,1,1,0,0,1,0] [0] (Tryz.f166.body.getD .skip)).1 with
 | .region _ ops _=>ops
 | _=>#[]
noncomputable def KV (m:Nat):List K:=(dK [1,1,1,1,0,1,0,0,1,1,0,0,1,0] [m] (Tryz.f166.body.getD .skip)).2
noncomputable def oY:Oper:=OY.toList.getD 2 dF
noncomputable def oV:Oper:=OV.toList.getD 4 dF
noncomputable def aKn (o:Oper):Array TypeId:=match o.op with
 | .call c=>c.argTypes
 | _=>#[]
theorem aZd:oY.op=.call { callee:=.value (.tmp 17),args:=#[.tmp 18],argTypes:=aKn oY }:=by kernel_rfl
theorem aZe:oV.op=.call { callee:=.value (.tmp 66),args:=#[.tmp 67,.tmp 69],argTypes:=aKn oV }:=by kernel_rfl
theorem aPz:OY.toList=OY.toList.take 2++oY::OY.toList.drop 3:=by kernel_rfl
theorem xE:OV.toList=OV.toList.take 4++oV::OV.toList.drop 5:=by kernel_rfl
theorem aP0:rM Tryz.prog 166:=ent Tryz.func166 (by kernel_rfl) rfl
theorem aW0:rM Tryz.prog 165:=ent Tryz.func165 (by kernel_rfl) rfl
def zY (l:Nat)(p:Zt×Zt×Zt):LS:=⟨[.u,.u,.p 0 0,.u,.p 2 0,.u,.u,.u,.u,.u,.u,.u,.u,.u,.u,.u,.u,.u,.u,.u,.u,.u,.u,.u,.u,.u,.u,.u,.u,.u,.u,.u,.u,.u,.u,.u,.u,.u,.u,.u,.u,.u,.u,.u,.u,.u,.u,.u,.u,.u,.u,.u,.u,.u,.u,.u,.u,.u,.u,.u,.u,.u,.u,.u,.u,.u,.u,.u,.u,.u,.u,.u,.u],[.live false false [.v (yv l)],.live false false [.f 166 [.p 0 0,.p 1 0]],.live true false (cP p)]⟩
def zY1 (l:Nat)(p:Zt×Zt×Zt):LS:=⟨[.u,.u,.p 0 0,.u,.p 2 0,.u,.u,.u,.u,.u,.u,.u,.u,.u,.u,.u,.u,.v (yv l),.a (cP p),.u,.u,.u,.u,.u,.u,.u,.u,.u,.u,.u,.u,.u,.u,.u,.u,.u,.u,.u,.u,.u,.u,.u,.u,.u,.u,.u,.u,.u,.u,.u,.u,.u,.u,.u,.u,.u,.u,.u,.u,.u,.u,.u,.u,.u,.u,.u,.u,.u,.u,.u,.u,.u,.u],[.live false false [.v (yv l)],.live false false [.f 166 [.p 0 0,.p 1 0]],.live true false (cP p)]⟩
def zY3 (l:Nat)(p:Zt×Zt×Zt)(b:Bool):LS:=⟨[.u,.u,.p 0 0,.u,.p 2 0,.u,.v (.bool b),.u,.u,.u,.u,.u,.u,.u,.u,.u,.u,.v (yv l),.a (cP p),.v (.bool b),.u,.u,.u,.u,.u,.u,.u,.u,.u,.u,.u,.u,.u,.u,.u,.u,.u,.u,.u,.u,.u,.u,.u,.u,.u,.u,.u,.u,.u,.u,.u,.u,.u,.u,.u,.u,.u,.u,.u,.u,.u,.u,.u,.u,.u,.u,.u,.u,.u,.u,.u,.u,.u],[.live false false [.v (yv l)],.live false false [.f 166 [.p 0 0,.p 1 0]],.live false false (cP p)]⟩
def zV1 (l:Nat)(p:Zt×Zt×Zt)(d:Int):LS:=⟨[.u,iv d,.u,.p 1 0,.u,.u,.u,.u,.u,.u,.u,.u,.u,.u,.p 3 0,.u,.u,.u,.u,.u,.u,.u,.u,.u,.u,.u,.u,.u,.u,.u,.u,.u,.u,.u,.u,.u,.u,.u,.u,.u,.u,.u,.u,.u,.u,.u,.u,.u,.u,.u,.u,.u,.u,.u,.u,.u,.u,.u,.u,.u,.s 2 0 4 9,iv 4,iv 0,.u,.u,.u,.u,.u,.u,.u,.u,.u,.u],[.live false false [.v (yv l)],.live false false [.f 166 [.p 0 0,.p 1 0]],.live true false (cP (q1 p)++(cP (q2 p)++(cP (q3 p)++cP (q4 p)))),.live true false (cP (q1 p))]⟩
def bBy (l:Nat)(p:Zt×Zt×Zt)(d:Int):LS:=⟨[.u,iv d,.u,.p 1 0,.u,.u,.u,.u,.u,.u,.u,.u,.u,.u,.p 3 0,.u,.u,.u,.u,.u,.u,.u,.u,.u,.u,.u,.u,.u,.u,.u,.u,.u,.u,.u,.u,.u,.u,.u,.u,.u,.u,.u,.u,.u,.u,.u,.u,.u,.u,.u,.u,.u,.u,.u,.u,.u,.u,.u,.u,.u,.s 2 0 4 9,iv 4,iv 0,.u,.u,.u,.f 166 [.p 0 0,.p 1 0],.a (cP (q1 p)),iv d,iv (W (d - 1)),.u,.u,.u],[.live false false [.v (yv l)],.live false false [.f 166 [.p 0 0,.p 1 0]],.live true false (cP (q1 p)++(cP (q2 p)++(cP (q3 p)++cP (q4 p)))),.live true false (cP (q1 p))]⟩
def bBz (l:Nat)(p:Zt×Zt×Zt)(d:Int)(b:Bool):LS:=⟨[.u,iv d,.u,.p 1 0,.u,.u,.u,.u,.u,.u,.u,.u,.u,.u,.p 3 0,.u,.u,.u,.u,.u,.u,.u,.u,.u,.u,.u,.u,.u,.u,.u,.u,.u,.u,.u,.u,.u,.u,.u,.u,.u,.u,.u,.u,.u,.u,.u,.u,.u,.u,.u,.u,.u,.u,.u,.u,.u,.u,.u,.u,.u,.s 2 0 4 9,iv 4,iv 0,.u,.u,.u,.f 166 [.p 0 0,.p 1 0],.a (cP (q1 p)),iv d,iv (W (d - 1)),.v (.bool b),.v (.bool (!b)),.u],[.live false false [.v (yv l)],.live false false [.f 166 [.p 0 0,.p 1 0]],.live false false (cP (q1 p)++(cP (q2 p)++(cP (q3 p)++cP (q4 p)))),.live false false (cP (q1 p))]⟩
def zV2 (l:Nat)(p:Zt×Zt×Zt)(d:Int):LS:=⟨[.u,iv d,.u,.p 1 0,.u,.u,.u,.u,.u,.u,.u,.u,.u,.u,.p 4 0,.u,.u,.u,.u,.u,.u,.u,.u,.u,.u,.u,.u,.u,.u,.u,.u,.u,.u,.u,.u,.u,.u,.u,.u,.u,.u,.u,.u,.u,.u,.u,.u,.u,.u,.u,.u,.u,.u,.u,.u,.u,.u,.u,.u,.u,.s 2 0 4 9,iv 4,iv 1,.u,.u,.u,.u,.u,.u,.u,.u,.u,.u],[.live false false [.v (yv l)],.live false false [.f 166 [.p 0 0,.p 1 0]],.live false false (cP (q1 p)++(cP (q2 p)++(cP (q3 p)++cP (q4 p)))),.live false false (cP (q1 p)),.live true false (cP (q2 p))]⟩
def bB0 (l:Nat)(p:Zt×Zt×Zt)(d:Int):LS:=⟨[.u,iv d,.u,.p 1 0,.u,.u,.u,.u,.u,.u,.u,.u,.u,.u,.p 4 0,.u,.u,.u,.u,.u,.u,.u,.u,.u,.u,.u,.u,.u,.u,.u,.u,.u,.u,.u,.u,.u,.u,.u,.u,.u,.u,.u,.u,.u,.u,.u,.u,.u,.u,.u,.u,.u,.u,.u,.u,.u,.u,.u,.u,.u,.s 2 0 4 9,iv 4,iv 1,.u,.u,.u,.f 166 [.p 0 0,.p 1 0],.a (cP (q2 p)),iv d,iv (W (d - 1)),.u,.u,.u],[.live false false [.v (yv l)],.live false false [.f 166 [.p 0 0,.p 1 0]],.live false false (cP (q1 p)++(cP (q2 p)++(cP (q3 p)++cP (q4 p)))),.live false false (cP (q1 p)),.live true false (cP (q2 p))]⟩
def bB1 (l:Nat)(p:Zt×Zt×Zt)(d:Int)(b:Bool):LS:=⟨[.u,iv d,.u,.p 1 0,.u,.u,.u,.u,.u,.u,.u,.u,.u,.u,.p 4 0,.u,.u,.u,.u,.u,.u,.u,.u,.u,.u,.u,.u,.u,.u,.u,.u,.u,.u,.u,.u,.u,.u,.u,.u,.u,.u,.u,.u,.u,.u,.u,.u,.u,.u,.u,.u,.u,.u,.u,.u,.u,.u,.u,.u,.u,.s 2 0 4 9,iv 4,iv 1,.u,.u,.u,.f 166 [.p 0 0,.p 1 0],.a (cP (q2 p)),iv d,iv (W (d - 1)),.v (.bool b),.v (.bool (!b)),.u],[.live false false [.v (yv l)],.live false false [.f 166 [.p 0 0,.p 1 0]],.live false false (cP (q1 p)++(cP (q2 p)++(cP (q3 p)++cP (q4 p)))),.live false false (cP (q1 p)),.live false false (cP (q2 p))]⟩
def zV3 (l:Nat)(p:Zt×Zt×Zt)(d:Int):LS:=⟨[.u,iv d,.u,.p 1 0,.u,.u,.u,.u,.u,.u,.u,.u,.u,.u,.p 5 0,.u,.u,.u,.u,.u,.u,.u,.u,.u,.u,.u,.u,.u,.u,.u,.u,.u,.u,.u,.u,.u,.u,.u,.u,.u,.u,.u,.u,.u,.u,.u,.u,.u,.u,.u,.u,.u,.u,.u,.u,.u,.u,.u,.u,.u,.s 2 0 4 9,iv 4,iv 2,.u,.u,.u,.u,.u,.u,.u,.u,.u,.u],[.live false false [.v (yv l)],.live false false [.f 166 [.p 0 0,.p 1 0]],.live false false (cP (q1 p)++(cP (q2 p)++(cP (q3 p)++cP (q4 p)))),.live false false (cP (q1 p)),.live false false (cP (q2 p)),.live true false (cP (q3 p))]⟩
def bB2 (l:Nat)(p:Zt×Zt×Zt)(d:Int):LS:=⟨[.u,iv d,.u,.p 1 0,.u,.u,.u,.u,.u,.u,.u,.u,.u,.u,.p 5 0,.u,.u,.u,.u,.u,.u,.u,.u,.u,.u,.u,.u,.u,.u,.u,.u,.u,.u,.u,.u,.u,.u,.u,.u,.u,.u,.u,.u,.u,.u,.u,.u,.u,.u,.u,.u,.u,.u,.u,.u,.u,.u,.u,.u,.u,.s 2 0 4 9,iv 4,iv 2,.u,.u,.u,.f 166 [.p 0 0,.p 1 0],.a (cP (q3 p)),iv d,iv (W (d - 1)),.u,.u,.u],[.live false false [.v (yv l)],.live false false [.f 166 [.p 0 0,.p 1 0]],.live false false (cP (q1 p)++(cP (q2 p)++(cP (q3 p)++cP (q4 p)))),.live false false (cP (q1 p)),.live false false (cP (q2 p)),.live true false (cP (q3 p))]⟩
def bB3 (l:Nat)(p:Zt×Zt×Zt)(d:Int)(b:Bool):LS:=⟨[.u,iv d,.u,.p 1 0,.u,.u,.u,.u,.u,.u,.u,.u,.u,.u,.p 5 0,.u,.u,.u,.u,.u,.u,.u,.u,.u,.u,.u,.u,.u,.u,.u,.u,.u,.u,.u,.u,.u,.u,.u,.u,.u,.u,.u,.u,.u,.u,.u,.u,.u,.u,.u,.u,.u,.u,.u,.u,.u,.u,.u,.u,.u,.s 2 0 4 9,iv 4,iv 2,.u,.u,.u,.f 166 [.p 0 0,.p 1 0],.a (cP (q3 p)),iv d,iv (W (d - 1)),.v (.bool b),.v (.bool (!b)),.u],[.live false false [.v (yv l)],.live false false [.f 166 [.p 0 0,.p 1 0]],.live false false (cP (q1 p)++(cP (q2 p)++(cP (q3 p)++cP (q4 p)))),.live false false (cP (q1 p)),.live false false (cP (q2 p)),.live false false (cP (q3 p))]⟩
def zV4 (l:Nat)(p:Zt×Zt×Zt)(d:Int):LS:=⟨[.u,iv d,.u,.p 1 0,.u,.u,.u,.u,.u,.u,.u,.u,.u,.u,.p 6 0,.u,.u,.u,.u,.u,.u,.u,.u,.u,.u,.u,.u,.u,.u,.u,.u,.u,.u,.u,.u,.u,.u,.u,.u,.u,.u,.u,.u,.u,.u,.u,.u,.u,.u,.u,.u,.u,.u,.u,.u,.u,.u,.u,.u,.u,.s 2 0 4 9,iv 4,iv 3,.u,.u,.u,.u,.u,.u,.u,.u,.u,.u],[.live false false [.v (yv l)],.live false false [.f 166 [.p 0 0,.p 1 0]],.live false false (cP (q1 p)++(cP (q2 p)++(cP (q3 p)++cP (q4 p)))),.live false false (cP (q1 p)),.live false false (cP (q2 p)),.live false false (cP (q3 p)),.live true false (cP (q4 p))]⟩
def bB4 (l:Nat)(p:Zt×Zt×Zt)(d:Int):LS:=⟨[.u,iv d,.u,.p 1 0,.u,.u,.u,.u,.u,.u,.u,.u,.u,.u,.p 6 0,.u,.u,.u,.u,.u,.u,.u,.u,.u,.u,.u,.u,.u,.u,.u,.u,.u,.u,.u,.u,.u,.u,.u,.u,.u,.u,.u,.u,.u,.u,.u,.u,.u,.u,.u,.u,.u,.u,.u,.u,.u,.u,.u,.u,.u,.s 2 0 4 9,iv 4,iv 3,.u,.u,.u,.f 166 [.p 0 0,.p 1 0],.a (cP (q4 p)),iv d,iv (W (d - 1)),.u,.u,.u],[.live false false [.v (yv l)],.live false false [.f 166 [.p 0 0,.p 1 0]],.live false false (cP (q1 p)++(cP (q2 p)++(cP (q3 p)++cP (q4 p)))),.live false false (cP (q1 p)),.live false false (cP (q2 p)),.live false false (cP (q3 p)),.live true false (cP (q4 p))]⟩
def bB5 (l:Nat)(p:Zt×Zt×Zt)(d:Int)(b:Bool):LS:=⟨[.u,iv d,.u,.p 1 0,.u,.u,.u,.u,.u,.u,.u,.u,.u,.u,.p 6 0,.u,.u,.u,.u,.u,.u,.u,.u,.u,.u,.u,.u,.u,.u,.u,.u,.u,.u,.u,.u,.u,.u,.u,.u,.u,.u,.u,.u,.u,.u,.u,.u,.u,.u,.u,.u,.u,.u,.u,.u,.u,.u,.u,.u,.u,.s 2 0 4 9,iv 4,iv 3,.u,.u,.u,.f 166 [.p 0 0,.p 1 0],.a (cP (q4 p)),iv d,iv (W (d - 1)),.v (.bool b),.v (.bool (!b)),.u],[.live false false [.v (yv l)],.live false false [.f 166 [.p 0 0,.p 1 0]],.live false false (cP (q1 p)++(cP (q2 p)++(cP (q3 p)++cP (q4 p)))),.live false false (cP (q1 p)),.live false false (cP (q2 p)),.live false false (cP (q3 p)),.live false false (cP (q4 p))]⟩
def vb:SV->Bool | .v _ | .b _=>true | _=>false
theorem aCj {ρ ρ':Env}:∀{l:List SV} {vs us:List Value},l.all vb=true->Rels ρ l vs->Rels ρ' l us->vs=us
 | [],[],[],_,_,_=>rfl
 | [],_::_,_,_,h,_=>by simp [Rels] at h
 | [],[],_::_,_,_,h=>by simp [Rels] at h
 | _::_,[],_,_,h,_=>by simp [Rels] at h
 | _::_,_::_,[],_,_,h=>by simp [Rels] at h
 | x::l,y::vs,z::us,hp,h1,h2=>by
  simp only [List.all_cons,Bool.and_eq_true] at hp;simp only [Rels] at h1 h2;rw [aCj hp.2 h1.2 h2.2];have:y=z:=by
   cases x<;>simp only [vb,Bool.false_eq_true,false_and] at hp
   ·have a1:=h1.1;have a2:=h2.1;simp only [Rel] at a1 a2;rw [a1,a2]
   ·have a1:=h1.1;have a2:=h2.1;simp only [Rel] at a1 a2;rw [a1,a2]
  rw [this]
theorem uG {ρ:Env} {x:SV} {l:List SV} {y:Value} {m:List Value} (h:Rel ρ x y)(h':Rels ρ l m):Rels ρ (x::l) (y::m):=by simp only [Rels];exact⟨h,h'⟩
theorem aF6 {α:Type} {xs A B:List α} {i:Nat} (h:∀j x,(A++B)[j]? = some x->xs[i+j]? = some x):(∀j x,A[j]? = some x->xs[i+j]? = some x)/\(∀j x,B[j]? = some x->xs[i+A.length+j]? = some x) :=
 ⟨fun j x hj=>h j x (by rw [List.getElem?_append_left (List.getElem?_eq_some_iff.1 hj).1];exact hj),fun j x hj=>by
  have:=h (A.length+j) x (by rw [List.getElem?_append_right (by omega),Nat.add_sub_cancel_left];exact hj)
  rwa [←Nat.add_assoc] at this⟩
section
variable {l : Nat} {J : Nat → (Nat → Prop) → World → Prop} {Jx : (Nat → Prop) → World → Prop} {xs : List (Zt × Zt × Zt)}
theorem nW (hJ:yS J)(hX:aF0 Jx) {m m':Nat} {W0:World} {S:Nat->Prop} {cx:Cx} {b:Bool} (h1:b=true->∃Sc,Seg J W0 S m' cx Sc)(h2:b=false->SegX Jx W0 S cx)(hm:m'=m)(Wd:World)(hb:Below cx.w.heap.size cx.w Wd)(hd:cx.w.drawn<=Wd.drawn) :
 VR J Jx m S W0 (.returned (.bool b)) Wd:=by
 subst hm;cases b
 case true=>obtain⟨Sc,h⟩:=h1 rfl;exact .inl ⟨rfl,Sc,hJ _ _ _ _ h.j hb hd,h.kept.grow hb hd,h.sub⟩
 have h:=h2 rfl;obtain⟨Sc,hj⟩:=h.j;exact .inr ⟨rfl,Sc,hX _ _ _ hj hb hd,h.kept.grow hb hd⟩
theorem aW1 (hJ:yS J)(hX:aF0 Jx)(hB:tA J)(hY:∀i x S W1,xs[i]? = some x->J i S W1->YieldAt (Fw none) 9 Tryz.prog l #[aF5 x] W1 (YR J Jx i S W1)):xD l J Jx xs 0:=by
 intro p i S Wd ρ vs hargs hb0 hb1 hS hj hxs;have hx:xs[i]? = some p:=by have:=hxs 0 p rfl;simpa using this
 refine pW (n:=9) (bs:=[.live false false [.v (yv l)],.live false false [.f 166 [.p 0 0,.p 1 0]]]) Tryz.func166 rfl (by show 4<=Tryz.f166.ntmps;decide) (by kernel_rfl) ⟨rfl,rfl,trivial⟩ (by kernel_rfl) (fun i=>by rcases i with _ | _ | i<;>simp [BK.own]) (by kernel_rfl) hargs (fun i=>by rcases i with _ | _ | i<;>first | exact hb0 | exact hb1 | simp [BRep]) (fun i=>by rcases i with _ | _ | i<;>simp [BK.pl]) (fun cx hbase hw hρ hfz hown=>?_);subst hw;have hd:((((0:Nat):Int):Int) == 0)=true:=rfl;refine zR (T:=T0) hT hm (f:=5000) (orc:=[.d true,.stop 2]) [] [2,4] [2] hbase (x:=.region 2 OY false) (k':=KY) (s':=zY l p)
  (obs:=[.eq ((((0:Nat):Int):Int) == 0) true]) (by kernel_rfl) ⟨hd,trivial⟩ ?_
 have hseg:Seg J cx.w S i cx S:=⟨hj,Kept.refl _ _,fun b h=>.inl h,fun k b o n hk h=>hS k (by rw [hbase] at hk;exact hk) b o n ((hρ k).symm.trans h),hown,fun b o ho=>by rw [hfz b] at ho;cases ho⟩;refine tB (Jx:=Jx) hT hJ hB (m:=i+1) hseg (OY.toList.take 2) oY (OY.toList.drop 3) aPz (s1:=zY1 l p) (by kernel_rfl) (by kernel_rfl) 19 (by kernel_rfl) (dE (by kernel_rfl)) 2 hbase (by kernel_rfl) (by kernel_rfl)
  (fun ρ a W2 hrep hsafe hj2 K Q' hK=>?_) (zY3 l p) (fun b=>by kernel_rfl) (fun b cx' hb' h1 h2=>?_)
 ·have e1:=hrep.sl 17;have e2:=hrep.sl 18;refine aPv aZd (l:=l) (vs:=#[aF5 p]) ?_ ?_ (hY i p S W2 hx hj2) hK
  ·exact e1
  ·have:a.eval (.tmp 18)=aF5 p:=by
    have e3:Rel ρ (.a (cP p)) (a.tmps.getD 18 undef):=e2;simp only [Rel] at e3;obtain⟨vs,hv,hr⟩:=e3;have h':=aIo ρ p;simp only [Rel] at h';obtain⟨us,hu,hr'⟩:=h';show a.tmps.getD 18 undef=aF5 p;rw [hv,hu];have:vs=us:=aCj (by simp [cP,vb,iv]) hr hr';rw [this]
   simp [this]
 ·have hown':∀c,¬cx'.own c:=by
   cases b
   case true=>obtain⟨Sc,h⟩:=h1 rfl;exact h.own
   exact(h2 rfl).own
  exact uF (T:=T0) hT hm (f:=5000) (orc:=[]) (b:=b) (obs:=[]) (by cases b<;>kernel_rfl) trivial hown' (fun Wd hW hWd=>nW hJ hX h1 h2 rfl Wd hW hWd)
theorem aMc {d:Nat} (ih:xD l J Jx xs d) {cx:Cx} {N:Nat} {D:List Deferred} {ρ:Env} {s:FS} {a:Act} {Wd:World} (hrep:Rep cx N D ρ s a Wd) {p:Zt×Zt×Zt} {i:Nat} {S:Nat->Prop}
 (hdl:d < 1000) (e1:s.sl 66=.f 166 [.p 0 0,.p 1 0]) (e2:s.sl 67=.a (cP p)) (e3:s.sl 69=iv (W (((d+1:Nat):Int) - 1))) (e4:s.bk 0=.live false false [.v (yv l)]) (e5:s.bk 1=.live false false [.f 166 [.p 0 0,.p 1 0]])
 (hS:∀k,k < 2->∀b o n,ρ k=some (b,o,n)->¬S b) (hj:J i S Wd) (hxs:∀j x,(eL d p)[j]? = some x->xs[i+j]? = some x)
 (K:Act->World->Prop) (Q:Exit->Act->World->Prop) (hK:∀e Wd',VR J Jx (i+(eL d p).length) S Wd e Wd'->∃v,e=.returned v/\K (a.put oV.dst v) Wd'):oV.wpIn (Fw none) 9 Tryz.prog a Wd K Q:=by
 have r1:=hrep.sl 66;have r2:=hrep.sl 67;have r3:=hrep.sl 69;rw [e1] at r1;rw [e2] at r2;rw [e3] at r3;have hw:W (((d+1:Nat):Int) - 1)=(d:Int):=by rw [aG]<;>omega
 rw [hw] at r3;simp only [Rel] at r1;obtain⟨vs,hv,hc⟩:=r1;have b0:=hrep.bk 0;have b1:=hrep.bk 1;rw [e4] at b0;rw [e5] at b1;refine aL8 aZe (g:=166) (caps:=vs) hv aP0 (ih p i S Wd ρ _ ?_ b0.ro b1.ro hS hj hxs) hK;exact uG r2 (uG r3 hc)
theorem aW2 (hJ:yS J)(hX:aF0 Jx)(hB:tA J) {d:Nat} (hdl:d < 1000)(ih:xD l J Jx xs d):xD l J Jx xs (d+1):=by
 intro p i S Wd ρ vs hargs hb0 hb1 hS hj hxs;obtain⟨hx1,hr1⟩:=aF6 hxs;obtain⟨hx2,hr2⟩:=aF6 hr1;obtain⟨hx3,hx4⟩:=aF6 hr2;refine pW (n:=9) (bs:=[.live false false [.v (yv l)],.live false false [.f 166 [.p 0 0,.p 1 0]]]) Tryz.func166 rfl (by show 4<=Tryz.f166.ntmps;decide) (by kernel_rfl) ⟨rfl,rfl,trivial⟩ (by kernel_rfl) (fun i=>by rcases i with _ | _ | i<;>simp [BK.own]) (by kernel_rfl) hargs (fun i=>by rcases i with _ | _ | i<;>first | exact hb0 | exact hb1 | simp [BRep]) (fun i=>by rcases i with _ | _ | i<;>simp [BK.pl]) (fun cx hbase hw hρ hfz hown=>?_);subst hw;have hd:((((d+1:Nat):Int):Int) == 0)=false:=by rw [beq_eq_false_iff_ne];omega
 have hseg:Seg J cx.w S i cx S:=⟨hj,Kept.refl _ _,fun b h=>.inl h,fun k b o n hk h=>hS k (by rw [hbase] at hk;exact hk) b o n ((hρ k).symm.trans h),hown,fun b o ho=>by rw [hfz b] at ho;cases ho⟩;refine zR (T:=T0) hT hm (f:=5000) (orc:=[.d false,.call [] (.a [(iv (dZ p.1 2).1),(iv (dZ p.1 2).2.1),(iv (dZ p.1 2).2.2)]) [],.call [] (.a [(iv (dZ p.2.1 2).1),(iv (dZ p.2.1 2).2.1),(iv (dZ p.2.1 2).2.2)]) [],.call [] (.a [(iv (dZ p.2.2 2).1),(iv (dZ p.2.2 2).2.1),(iv (dZ p.2.2 2).2.2)]) [],.call [] (.a [(iv (jW p.1 p.2.1).1),(iv (jW p.1 p.2.1).2.1),(iv (jW p.1 p.2.1).2.2)]) [],.call [] (.a [(iv (jW p.2.1 p.2.2).1),(iv (jW p.2.1 p.2.2).2.1),(iv (jW p.2.1 p.2.2).2.2)]) [],.call [] (.a [(iv (jW p.2.2 p.1).1),(iv (jW p.2.2 p.1).2.1),(iv (jW p.2.2 p.1).2.2)]) [],.un 4,.d true,.stop 8]) [] [1,3,14,60,61,62] [9,10] hbase (x:=.region 8 OV false) (k':=KV 4) (s':=zV1 l p (d+1:Nat))
  (obs:=[.eq ((((d+1:Nat):Int):Int) == 0) false,.call 127 [(.a [(iv p.1.1),(iv p.1.2.1),(iv p.1.2.2)]),(iv 2)] [] (.a [(iv (dZ p.1 2).1),(iv (dZ p.1 2).2.1),(iv (dZ p.1 2).2.2)]) [],.call 127 [(.a [(iv p.2.1.1),(iv p.2.1.2.1),(iv p.2.1.2.2)]),(iv 2)] [] (.a [(iv (dZ p.2.1 2).1),(iv (dZ p.2.1 2).2.1),(iv (dZ p.2.1 2).2.2)]) [],.call 127 [(.a [(iv p.2.2.1),(iv p.2.2.2.1),(iv p.2.2.2.2)]),(iv 2)] [] (.a [(iv (dZ p.2.2 2).1),(iv (dZ p.2.2 2).2.1),(iv (dZ p.2.2 2).2.2)]) [],.call 167 [(.a [(iv p.1.1),(iv p.1.2.1),(iv p.1.2.2)]),(.a [(iv p.2.1.1),(iv p.2.1.2.1),(iv p.2.1.2.2)])] [] (.a [(iv (jW p.1 p.2.1).1),(iv (jW p.1 p.2.1).2.1),(iv (jW p.1 p.2.1).2.2)]) [],.call 167 [(.a [(iv p.2.1.1),(iv p.2.1.2.1),(iv p.2.1.2.2)]),(.a [(iv p.2.2.1),(iv p.2.2.2.1),(iv p.2.2.2.2)])] [] (.a [(iv (jW p.2.1 p.2.2).1),(iv (jW p.2.1 p.2.2).2.1),(iv (jW p.2.1 p.2.2).2.2)]) [],.call 167 [(.a [(iv p.2.2.1),(iv p.2.2.2.1),(iv p.2.2.2.2)]),(.a [(iv p.1.1),(iv p.1.2.1),(iv p.1.2.2)])] [] (.a [(iv (jW p.2.2 p.1).1),(iv (jW p.2.2 p.1).2.1),(iv (jW p.2.2 p.1).2.2)]) [],.eq true true,.pr (0<=(0:Int)/\(0:Int) < ((4:Nat):Int))]) (by kernel_rfl) ⟨hd,(aTz p.1 2),(aTz p.2.1 2),(aTz p.2.2 2),(aWy p.1 p.2.1),(aWy p.2.1 p.2.2),(aWy p.2.2 p.1),rfl,(show 0<=(0:Int)/\(0:Int) < ((4:Nat):Int) from by decide),trivial⟩ ?_
 refine tB (Jx:=Jx) hT hJ hB (m:=i+(eL d (q1 p)).length) hseg (OV.toList.take 4) oV (OV.toList.drop 5) xE (s1:=bBy l p (d+1:Nat)) (by kernel_rfl) (by kernel_rfl) 70 (by kernel_rfl) (dE (by kernel_rfl)) 2 hbase (by kernel_rfl) (by kernel_rfl)
  (fun ρ a W2 hrep hsafe hj2 K Q' hK=>aMc ih hrep hdl rfl rfl rfl rfl rfl (fun k hk b o n h=>(match k,hk,h with | 0,_,h=>hsafe 0 _ _ _ rfl b o n h | 1,_,h=>hsafe 1 _ _ _ rfl b o n h)) hj2 (fun j x hj=>hx1 j x hj) K Q' hK) (bBz l p (d+1:Nat)) (fun b=>by kernel_rfl) (fun b cx hbase h1 h2=>?_)
 cases b
 case false=>exact uF (T:=T0) hT hm (f:=5000) (orc:=[.d true]) (b:=false) (obs:=[.eq (!false) true]) (by kernel_rfl) ⟨rfl,trivial⟩ (h2 rfl).own (fun W hW hWd=>nW (m':=i+(eL (d+1) p).length) hJ hX (fun h=>by cases h) h2 rfl W hW hWd)
 obtain⟨Sc,hseg⟩:=h1 rfl;refine zR (T:=T0) hT hm (f:=5000) (orc:=[.d false,.un 0,.d true,.stop 8]) [] [1,3,14,60,61,62] [4] hbase (x:=.region 8 OV false) (k':=KV 3) (s':=zV2 l p (d+1:Nat))
  (obs:=[.eq (!true) false,.eq (decide ((1:Int) < 4)) true,.pr (0<=(1:Int)/\(1:Int) < ((4:Nat):Int))]) (by kernel_rfl) ⟨rfl,rfl,(show 0<=(1:Int)/\(1:Int) < ((4:Nat):Int) from by decide),trivial⟩ ?_
 refine tB (Jx:=Jx) hT hJ hB (m:=i+(eL d (q1 p)).length+(eL d (q2 p)).length) hseg (OV.toList.take 4) oV (OV.toList.drop 5) xE (s1:=bB0 l p (d+1:Nat)) (by kernel_rfl) (by kernel_rfl) 70 (by kernel_rfl) (dE (by kernel_rfl)) 4 hbase (by kernel_rfl) (by kernel_rfl)
  (fun ρ a W2 hrep hsafe hj2 K Q' hK=>aMc ih hrep hdl rfl rfl rfl rfl rfl (fun k hk b o n h=>(match k,hk,h with | 0,_,h=>hsafe 0 _ _ _ rfl b o n h | 1,_,h=>hsafe 1 _ _ _ rfl b o n h)) hj2 (fun j x hj=>hx2 j x hj) K Q' hK) (bB1 l p (d+1:Nat)) (fun b=>by kernel_rfl) (fun b cx hbase h1 h2=>?_)
 cases b
 case false=>exact uF (T:=T0) hT hm (f:=5000) (orc:=[.d true]) (b:=false) (obs:=[.eq (!false) true]) (by kernel_rfl) ⟨rfl,trivial⟩ (h2 rfl).own (fun W hW hWd=>nW (m':=i+(eL (d+1) p).length) hJ hX (fun h=>by cases h) h2 rfl W hW hWd)
 obtain⟨Sc,hseg⟩:=h1 rfl;refine zR (T:=T0) hT hm (f:=5000) (orc:=[.d false,.un 0,.d true,.stop 8]) [] [1,3,14,60,61,62] [5] hbase (x:=.region 8 OV false) (k':=KV 2) (s':=zV3 l p (d+1:Nat))
  (obs:=[.eq (!true) false,.eq (decide ((2:Int) < 4)) true,.pr (0<=(2:Int)/\(2:Int) < ((4:Nat):Int))]) (by kernel_rfl) ⟨rfl,rfl,(show 0<=(2:Int)/\(2:Int) < ((4:Nat):Int) from by decide),trivial⟩ ?_
 refine tB (Jx:=Jx) hT hJ hB (m:=i+(eL d (q1 p)).length+(eL d (q2 p)).length+(eL d (q3 p)).length) hseg (OV.toList.take 4) oV (OV.toList.drop 5) xE (s1:=bB2 l p (d+1:Nat)) (by kernel_rfl) (by kernel_rfl) 70 (by kernel_rfl) (dE (by kernel_rfl)) 5 hbase (by kernel_rfl) (by kernel_rfl)
  (fun ρ a W2 hrep hsafe hj2 K Q' hK=>aMc ih hrep hdl rfl rfl rfl rfl rfl (fun k hk b o n h=>(match k,hk,h with | 0,_,h=>hsafe 0 _ _ _ rfl b o n h | 1,_,h=>hsafe 1 _ _ _ rfl b o n h)) hj2 (fun j x hj=>hx3 j x hj) K Q' hK) (bB3 l p (d+1:Nat)) (fun b=>by kernel_rfl) (fun b cx hbase h1 h2=>?_)
 cases b
 case false=>exact uF (T:=T0) hT hm (f:=5000) (orc:=[.d true]) (b:=false) (obs:=[.eq (!false) true]) (by kernel_rfl) ⟨rfl,trivial⟩ (h2 rfl).own (fun W hW hWd=>nW (m':=i+(eL (d+1) p).length) hJ hX (fun h=>by cases h) h2 rfl W hW hWd)
 obtain⟨Sc,hseg⟩:=h1 rfl;refine zR (T:=T0) hT hm (f:=5000) (orc:=[.d false,.un 0,.d true,.stop 8]) [] [1,3,14,60,61,62] [6] hbase (x:=.region 8 OV false) (k':=KV 1) (s':=zV4 l p (d+1:Nat))
  (obs:=[.eq (!true) false,.eq (decide ((3:Int) < 4)) true,.pr (0<=(3:Int)/\(3:Int) < ((4:Nat):Int))]) (by kernel_rfl) ⟨rfl,rfl,(show 0<=(3:Int)/\(3:Int) < ((4:Nat):Int) from by decide),trivial⟩ ?_
 refine tB (Jx:=Jx) hT hJ hB (m:=i+(eL d (q1 p)).length+(eL d (q2 p)).length+(eL d (q3 p)).length+(eL d (q4 p)).length) hseg (OV.toList.take 4) oV (OV.toList.drop 5) xE (s1:=bB4 l p (d+1:Nat)) (by kernel_rfl) (by kernel_rfl) 70 (by kernel_rfl) (dE (by kernel_rfl)) 6 hbase (by kernel_rfl) (by kernel_rfl)
  (fun ρ a W2 hrep hsafe hj2 K Q' hK=>aMc ih hrep hdl rfl rfl rfl rfl rfl (fun k hk b o n h=>(match k,hk,h with | 0,_,h=>hsafe 0 _ _ _ rfl b o n h | 1,_,h=>hsafe 1 _ _ _ rfl b o n h)) hj2 (fun j x hj=>hx4 j x hj) K Q' hK) (bB5 l p (d+1:Nat)) (fun b=>by kernel_rfl) (fun b cx hbase h1 h2=>?_)
 cases b
 case false=>exact uF (T:=T0) hT hm (f:=5000) (orc:=[.d true]) (b:=false) (obs:=[.eq (!false) true]) (by kernel_rfl) ⟨rfl,trivial⟩ (h2 rfl).own (fun W hW hWd=>nW (m':=i+(eL (d+1) p).length) hJ hX (fun h=>by cases h) h2 rfl W hW hWd)
 exact uF (T:=T0) hT hm (f:=5000) (orc:=[.d false,.un 0,.d false]) (b:=true) (obs:=[.eq (!true) false,.eq (decide ((4:Int) < 4)) false]) (by kernel_rfl) ⟨rfl,rfl,trivial⟩ (h1 rfl).choose_spec.own (fun W hW hWd=>nW hJ hX h1 h2 (by simp only [eL,List.length_append];omega) W hW hWd)
theorem aE9 (hJ:yS J)(hX:aF0 Jx)(hB:tA J)(hY:∀i x S W1,xs[i]? = some x->J i S W1->YieldAt (Fw none) 9 Tryz.prog l #[aF5 x] W1 (YR J Jx i S W1)):∀d,d < 1000->xD l J Jx xs d
 | 0,_=>aW1 hJ hX hB hY
 | d+1,h=>aW2 hJ hX hB (by omega) (aE9 hJ hX hB hY d (by omega))
end
noncomputable def O2:Array Oper:=match (dK [1,1,1] [] (Tryz.f165.body.getD .skip)).1 with
 | .region _ ops _=>ops
 | _=>#[]
noncomputable def o2:Oper:=O2.toList.getD 3 dF
theorem aZf:o2.op=.call { callee:=.value (.tmp 6),args:=#[.tmp 7,.tmp 8],argTypes:=aKn o2 }:=by kernel_rfl
theorem aP1:O2.toList=O2.toList.take 3++[o2]:=by kernel_rfl
def z2 (l:Nat)(p:Zt×Zt×Zt)(d:Int):LS:=⟨[.u,.p 0 0,.p 1 0,.u,.p 3 0,.u,.u,.u,.u,.u],[.live false false (cP p),.live false false [iv d],.live true false [.v (yv l)],.live true false [.f 166 [.p 2 0,.p 3 0]]]⟩
def z21 (l:Nat)(p:Zt×Zt×Zt)(d:Int):LS:=⟨[.u,.p 0 0,.p 1 0,.u,.p 3 0,.u,.f 166 [.p 2 0,.p 3 0],.a (cP p),iv d,.u],[.live false false (cP p),.live false false [iv d],.live true false [.v (yv l)],.live true false [.f 166 [.p 2 0,.p 3 0]]]⟩
theorem aP2 (p:Zt×Zt×Zt)(d:Nat)(hd:d < 1000):aTq Tryz.prog 165 [.p 0 0,.p 1 0] [.live false false (cP p),.live false false [iv (d:Nat)]] aF5 (eL d p):=by
 refine⟨aW0,fun ρ Wd lb hcaps hbs hpl l J Jx S0 hJ hX hB hY h0=>?_⟩;have hcon:Calls Tryz.prog 165 ((Value.func (.yield l) #[] #[])::lb).toArray Wd fun e Wd'=>(∃v,e=.returned v)/\∃S',(J (eL d p).length S' Wd'\/Jx S' Wd')/\Kept Wd S0 Wd':=by
  refine pW (n:=9) (args:=[.v (yv l),.p 0 0,.p 1 0]) (bs:=[.live false false (cP p),.live false false [iv (d:Nat)]]) Tryz.func165 rfl (by show 3<=Tryz.f165.ntmps;decide) (by kernel_rfl) ⟨rfl,rfl,trivial⟩ (by kernel_rfl) (fun i=>by rcases i with _ | _ | i<;>simp [BK.own]) (by kernel_rfl) ⟨rfl,hcaps⟩ hbs hpl (fun cx hbase hw hρ hfz hown=>?_);subst hw;refine zR (T:=T0) hT hm (f:=5000) (orc:=[.stop 3]) [] [1,2,4] [2,3] hbase (x:=.region 3 O2 false) (k':=[]) (s':=z2 l p d)
   (obs:=[]) (by kernel_rfl) trivial ?_
  intro ρ a Wd hrep;simp only [gY];refine wpIn_region ?_;have hsz:O2.size=(O2.toList.take 3).length+(0+1):=by kernel_rfl
  have hget:∀j,O2[j]? = (O2.toList.take 3++[o2])[j]? := fun j=>by rw [←aP1,Array.getElem?_toList]
  rw [hsz,zS];refine aAx hT (O2.toList.take 3) 0 (z2 l p d) (z21 l p d) [] [] _ [] (xB (T:=T0) (obs:=[]) (by kernel_rfl)).choose_spec trivial (fun j o' hj=>?_) ρ a Wd hrep (fun ρ1 a1 W1 hrep1 hl1=>?_)
  ·rw [hget,Nat.zero_add,List.getElem?_append_left (List.getElem?_eq_some_iff.1 hj).1];exact hj
  rw [wpOpsIn_cons];unfold wpOpIn;have ho:O2[(O2.toList.take 3).length]? = some o2:=by rw [hget,List.getElem?_append_right (Nat.le_refl _)];simp
  rw [ho];have hw:Region.wanted o2 (yielded O2 a1.tmps)=true:=by
   have hg:o2.guard=none:=by kernel_rfl
   unfold Region.wanted;rw [hg]
  simp only [hw,if_true];have hbel:Below cx.w.heap.size cx.w W1:=by
   have:=hrep1.kept;exact⟨this.os,this.tape,this.output,this.size,fun k hk=>this.block k hk (hown k)⟩
  have r1:=hrep1.sl 6;have r2:=hrep1.sl 7;have r3:=hrep1.sl 8;have r1':Rel ρ1 (.f 166 [.p 2 0,.p 3 0]) (a1.tmps.getD 6 undef):=r1;have r2':Rel ρ1 (.a (cP p)) (a1.tmps.getD 7 undef):=r2;have r3':Rel ρ1 (iv (d:Nat)) (a1.tmps.getD 8 undef):=r3;simp only [Rel] at r1';obtain⟨vs,hv,hc⟩:=r1';have own2:∀b,cx.mine b->cx.w.heap.size<=b:=fun b hb=>hb.elim id (fun h=>(hown b h).elim)
  have b2:=(wT (ks:=[2,3]) (i:=0) (m:=false) (x:=.live true false [.v (yv l)]) (y:=.live false false [.v (yv l)]) (M':=fun b=>W1.heap.size<=b) rfl rfl trivial (hrep1.bk 2) (fun _ h=>by cases h) (fun _ b hlt _ hM=>absurd hM (Nat.not_le_of_lt hlt))).1;have b3:=(wT (ks:=[2,3]) (i:=1) (m:=false) (x:=.live true false [.f 166 [.p 2 0,.p 3 0]]) (y:=.live false false [.f 166 [.p 0 0,.p 1 0]]) (M':=fun b=>W1.heap.size<=b) rfl rfl trivial (hrep1.bk 3) (fun _ h=>by cases h) (fun _ b hlt _ hM=>absurd hM (Nat.not_le_of_lt hlt))).1;have hS2:∀k,k < 2->∀b o n,iZ ρ1 [2,3] k=some (b,o,n)->¬S0 b:=fun k hk b o n h hSb=>by
   have hlt:=hB _ _ _ h0 b hSb;have own:∀j,(z21 l p d).fs.bk j≠.un->((z21 l p d).fs.bk j).own->ρ1 j=some (b,o,n)->False:=fun j _ hj hρ=>by
    have hb:=hrep1.bk j;cases hx:(z21 l p d).fs.bk j with
    | un=>rw [hx] at hj;exact hj
    | dead=>rw [hx] at hj;exact hj
    | map es =>
     rw [hx] at hb;obtain⟨b',n',arr,q1,q2,_⟩:=hb;rw [hρ] at q1;cases q1;have:=own2 b q2;omega
    | live ow sy cs=>cases ow with
     | false=>rw [hx] at hj;exact hj
     | true =>
      rw [hx] at hb;rcases hb with⟨q,_⟩ | ⟨b',vs,rest,ty,q1,q2,_⟩
      ·rw [hρ] at q;cases q
      ·rw [hρ] at q1;cases q1;have:=own2 b q2;omega
   match k,hk with
   | 0,_=>exact own 2 (by simp [z21,LS.fs]) (by trivial) h
   | 1,_=>exact own 3 (by simp [z21,LS.fs]) (by trivial) h
  refine aL8 aZf (g:=166) (caps:=vs) hv aP0 ((aE9 (l:=l) hJ hX hB hY d hd) p 0 S0 W1 (iZ ρ1 [2,3]) (a1.tmps.getD 7 undef::a1.tmps.getD 8 undef::vs) ?_ b2 b3 hS2 (hJ _ _ _ _ h0 hbel hrep1.kept.drawn) (fun j x hj=>by rw [Nat.zero_add];exact hj)) (fun e Wd' hR=>?_)
  ·exact uG (wS (ks:=[2,3]) (.a (cP p)) (.a (cP p)) _ rfl r2') (uG (wS (ks:=[2,3]) (iv (d:Nat)) (iv (d:Nat)) _ rfl r3') (renL_rel (ks:=[2,3]) [.p 2 0,.p 3 0] [.p 0 0,.p 1 0] vs rfl hc))
  ·have fin:∀v:Bool,e=.returned (.bool v)->(∃S',(J (eL d p).length S' Wd'\/Jx S' Wd')/\Kept W1 S0 Wd')->∃v,e=.returned v/\wpOpsIn (Fw none) 9 Tryz.prog O2 (gY none 9 Tryz.prog (bodyPost Tryz.prog Tryz.f165 (fun e Wd'=>(∃v,e=.returned v)/\∃S',(J (eL d p).length S' Wd'\/Jx S' Wd')/\Kept cx.w S0 Wd')) []) (List.range' ((O2.toList.take 3).length+1) 0) (a1.put o2.dst v) Wd':=fun v he ⟨S',hj',hk'⟩=>by
    refine⟨_,he,?_⟩;simp only [List.range'_zero,wpOpsIn,gY];refine⟨?_,_,aIl (by kernel_rfl),⟨_,rfl⟩,S',hj',?_⟩
    ·exact hrep1.defs
    ·exact(Kept.of_below S0 hbel hrep1.kept.drawn).trans hk' (fun b hb _=>hb)
   rcases hR with⟨he,S',hj',hk',_⟩ | ⟨he,S',hj',hk'⟩
   ·exact fin true he ⟨S',.inl (by rwa [Nat.zero_add] at hj'),hk'⟩
   ·exact fin false he ⟨S',.inr hj',hk'⟩
 have e:((Value.func (.yield l) #[] #[])::lb).toArray=#[.func (.yield l) #[] #[]]++lb.toArray:=by apply Array.ext';simp
 rw [←e];exact hcon
theorem aOp (p:Zt×Zt×Zt)(d:Int)(h:0<=d/\d<=3):aTq Tryz.prog 165 [.p 0 0,.p 1 0] [.live false false (cP p),.live false false [iv d]] aF5 (eL (tN d) p):=by
 have:=aP2 p d.toNat (by omega)
 rwa [Int.toNat_of_nonneg h.1] at this
end Go.Proofs.YtlffahoikfahlaaGreat
namespace Go.Proofs.YtlffahoikfahlaaGreat
open Go.Proofs Go.Aw Go.RowKit
set_option maxRecDepth 100000
def aAo (a0 a1 a2:Int):Bool := (bif (decide ((a1:Int)<=a0))then(decide ((a0:Int)<=a2))else false)
theorem aW3 (a0 a1 a2:Int):Con Tryz.prog 155 [(iv a0),(iv a1),(iv a2)] [] (.v (.bool (aAo a0 a1 a2))) []:=by
 refine cS Tryz.func155 fun cx hcx=>?_
 cases h0:(decide ((a1:Int)<=a0))
 case true=>have q0:=dE h0;have e:=Eq.refl (aAo a0 a1 a2);(conv at e=>rhs;simp only [aAo,h0,aQ]);rw [e];exact rT [.d h0] hcx
 have q0:=dO h0;have e:=Eq.refl (aAo a0 a1 a2);(conv at e=>rhs;simp only [aAo,h0,aQ]);rw [e];exact rT [.d h0] hcx
def wA (a0:Zt)(a1:Int):Bool := (bif (aAo a0.1 (W (0 - a1)) a1)then(bif (aAo a0.2.1 (W (0 - a1)) a1)then(aAo a0.2.2 (W (0 - a1)) a1)else false)else false)
theorem aW4 (a0:Zt)(a1:Int):Con Tryz.prog 120 [(.a (k3 a0)),(iv a1)] [] (.v (.bool (wA a0 a1))) []:=by
 refine cS Tryz.func120 fun cx hcx=>?_
 let t0:SL:=[.c [] (aW3 a0.1 (W (0 - a1)) a1)];cases h0:(aAo a0.1 (W (0 - a1)) a1)
 case true=>
  let t1:SL:=t0++[.d h0,.c [] (aW3 a0.2.1 (W (0 - a1)) a1)];cases h1:(aAo a0.2.1 (W (0 - a1)) a1)
  case true=>have e:=Eq.refl (wA a0 a1);(conv at e=>rhs;simp only [wA,h0,h1,aQ]);rw [e];exact rT (t1++[.d h1,.c [] (aW3 a0.2.2 (W (0 - a1)) a1)]) hcx
  have e:=Eq.refl (wA a0 a1);(conv at e=>rhs;simp only [wA,h0,h1,aQ]);rw [e];exact rT (t1++[.d h1]) hcx
 have e:=Eq.refl (wA a0 a1);(conv at e=>rhs;simp only [wA,h0,aQ]);rw [e];exact rT (t0++[.d h0]) hcx
def aP3 (a0:Zt)(a1:Int)(a2:Zt):Zt := ((W (a0.1+(W (a1*a2.1)))),(W (a0.2.1+(W (a1*a2.2.1)))),(W (a0.2.2+(W (a1*a2.2.2)))))
theorem bB6 (a0:Zt)(a1:Int)(a2:Zt):Con Tryz.prog 181 [(.a (k3 a0)),(iv a1),(.a (k3 a2))] [] (.a (k3 (aP3 a0 a1 a2))) []:=by
 refine cS Tryz.func181 fun cx hcx=>?_
 have e:=Eq.refl (aP3 a0 a1 a2);(conv at e=>rhs;simp only [aP3]);rw [e];exact rT [] hcx
def aF7 (a0 a1:Zt):Zt := (aP3 a0 (-1) a1)
theorem aZg (a0 a1:Zt):Con Tryz.prog 157 [(.a (k3 a0)),(.a (k3 a1))] [] (.a (k3 (aF7 a0 a1))) []:=by
 refine cS Tryz.func157 fun cx hcx=>?_
 have e:=Eq.refl (aF7 a0 a1);(conv at e=>rhs;simp only [aF7]);rw [e];exact rT [.c [] (bB6 a0 (-1) a1)] hcx
def aP4 (a0 a1:Zt):Zt := ((W ((W (a0.2.1*a1.2.2)) - (W (a0.2.2*a1.2.1)))),(W ((W (a0.2.2*a1.1)) - (W (a0.1*a1.2.2)))),(W ((W (a0.1*a1.2.1)) - (W (a0.2.1*a1.1)))))
theorem bB7 (a0 a1:Zt):Con Tryz.prog 156 [(.a (k3 a0)),(.a (k3 a1))] [] (.a (k3 (aP4 a0 a1))) []:=by
 refine cS Tryz.func156 fun cx hcx=>?_
 have e:=Eq.refl (aP4 a0 a1);(conv at e=>rhs;simp only [aP4]);rw [e];exact rT [] hcx
def aCk (a0:Zt×Zt×Zt):Zt := (aP4 (aF7 a0.2.1 a0.1) (aF7 a0.2.2 a0.1))
theorem bB8 (a0:Zt×Zt×Zt):Con Tryz.prog 121 [(.a (k9 a0))] [] (.a (k3 (aCk a0))) []:=by
 refine cS Tryz.func121 fun cx hcx=>?_
 have e:=Eq.refl (aCk a0);(conv at e=>rhs;simp only [aCk]);rw [e];exact rT [.c [] (aZg a0.2.1 a0.1),.c [] (aZg a0.2.2 a0.1),.c [] (bB7 (aF7 a0.2.1 a0.1) (aF7 a0.2.2 a0.1))] hcx
def F75 (a0:Zt×Zt×Zt):Int := (bif (!(wA a0.1 64))then 1 else(bif (!(wA a0.2.1 64))then 1 else(bif (!(wA a0.2.2 64))then 1 else(bif ((((aCk a0).1:Int) == 0)&&((((aCk a0).2.1:Int) == 0)&&((((aCk a0).2.2:Int) == 0)&&true)))then 6 else 0))))
theorem C75 (a0:Zt×Zt×Zt):Con Tryz.prog 75 [(.a (k9 a0))] [] (iv (F75 a0)) []:=by
 refine cS Tryz.func75 fun cx hcx=>?_
 let t0:SL:=[.c [] (aW4 a0.1 64)];cases h0:(!(wA a0.1 64))
 case true=>have e:=Eq.refl (F75 a0);(conv at e=>rhs;simp only [F75,h0,aQ]);rw [e];exact rT (t0++[.d h0]) hcx
 let t1:SL:=t0++[.d h0,.c [] (aW4 a0.2.1 64)];cases h1:(!(wA a0.2.1 64))
 case true=>have e:=Eq.refl (F75 a0);(conv at e=>rhs;simp only [F75,h0,h1,aQ]);rw [e];exact rT (t1++[.d h1]) hcx
 let t2:SL:=t1++[.d h1,.c [] (aW4 a0.2.2 64)];cases h2:(!(wA a0.2.2 64))
 case true=>have e:=Eq.refl (F75 a0);(conv at e=>rhs;simp only [F75,h0,h1,h2,aQ]);rw [e];exact rT (t2++[.d h2]) hcx
 let t3:SL:=t2++[.d h2,.c [] (bB8 a0)];cases h3:((((aCk a0).1:Int) == 0)&&((((aCk a0).2.1:Int) == 0)&&((((aCk a0).2.2:Int) == 0)&&true)))
 case true=>have e:=Eq.refl (F75 a0);(conv at e=>rhs;simp only [F75,h0,h1,h2,h3,aQ]);rw [e];exact rT (t3++[.d h3]) hcx
 have e:=Eq.refl (F75 a0);(conv at e=>rhs;simp only [F75,h0,h1,h2,h3,aQ]);rw [e];exact rT (t3++[.d h3]) hcx
def F41 (a0 a1 a2:Int):Bool := (bif (decide ((a0:Int)≥a1))then(decide ((a0:Int)<=a2))else false)
theorem C41 (a0 a1 a2:Int):Con Tryz.prog 41 [(iv a0),(iv a1),(iv a2)] [] (.v (.bool (F41 a0 a1 a2))) []:=by
 refine cS Tryz.func41 fun cx hcx=>?_
 cases h0:(decide ((a0:Int)≥a1))
 case true=>have q0:=dE h0;have e:=Eq.refl (F41 a0 a1 a2);(conv at e=>rhs;simp only [F41,h0,aQ]);rw [e];exact rT [.d h0] hcx
 have q0:=dO h0;have e:=Eq.refl (F41 a0 a1 a2);(conv at e=>rhs;simp only [F41,h0,aQ]);rw [e];exact rT [.d h0] hcx
def F40 (a0:Zt):Bool := (bif (F41 a0.1 (-256) 256)then(bif (F41 a0.2.1 (-256) 256)then(F41 a0.2.2 (-256) 256)else false)else false)
theorem C40 (a0:Zt):Con Tryz.prog 40 [(.a (k3 a0))] [] (.v (.bool (F40 a0))) []:=by
 refine cS Tryz.func40 fun cx hcx=>?_
 let t0:SL:=[.c [] (C41 a0.1 (-256) 256)];cases h0:(F41 a0.1 (-256) 256)
 case true=>
  let t1:SL:=t0++[.d h0,.c [] (C41 a0.2.1 (-256) 256)];cases h1:(F41 a0.2.1 (-256) 256)
  case true=>have e:=Eq.refl (F40 a0);(conv at e=>rhs;simp only [F40,h0,h1,aQ]);rw [e];exact rT (t1++[.d h1,.c [] (C41 a0.2.2 (-256) 256)]) hcx
  have e:=Eq.refl (F40 a0);(conv at e=>rhs;simp only [F40,h0,h1,aQ]);rw [e];exact rT (t1++[.d h1]) hcx
 have e:=Eq.refl (F40 a0);(conv at e=>rhs;simp only [F40,h0,aQ]);rw [e];exact rT (t0++[.d h0]) hcx
def F77 (a0:Zt×Zt×Zt)(a1:Zt)(a2:Int):Int := (bif (((F75 a0):Int) != 0)then(F75 a0)else(bif (!(F40 a1))then 1 else(bif (!(F41 a2 0 3))then 1 else 0)))
theorem C77 (a0:Zt×Zt×Zt)(a1:Zt)(a2:Int):Con Tryz.prog 77 [(.a (k9 a0)),(.a (k3 a1)),(iv a2)] [] (iv (F77 a0 a1 a2)) []:=by
 refine cS Tryz.func77 fun cx hcx=>?_
 let t0:SL:=[.c [] (C75 a0)];cases h0:(((F75 a0):Int) != 0)
 case true=>have q0:=bne_iff_ne.1 h0;have e:=Eq.refl (F77 a0 a1 a2);(conv at e=>rhs;simp only [F77,h0,aQ]);rw [e];exact rT (t0++[.d h0]) hcx
 have q0:=bne_eq_false_iff_eq.1 h0;let t1:SL:=t0++[.d h0,.c [] (C40 a1)];cases h1:(!(F40 a1))
 case true=>have e:=Eq.refl (F77 a0 a1 a2);(conv at e=>rhs;simp only [F77,h0,h1,aQ]);rw [e];exact rT (t1++[.d h1]) hcx
 let t2:SL:=t1++[.d h1,.c [] (C41 a2 0 3)];cases h2:(!(F41 a2 0 3))
 case true=>have e:=Eq.refl (F77 a0 a1 a2);(conv at e=>rhs;simp only [F77,h0,h1,h2,aQ]);rw [e];exact rT (t2++[.d h2]) hcx
 have e:=Eq.refl (F77 a0 a1 a2);(conv at e=>rhs;simp only [F77,h0,h1,h2,aQ]);rw [e];exact rT (t2++[.d h2]) hcx
def aCl (a0:(Int)×(Int)×(Int)):Int := (W ((W ((W (0+a0.1))+a0.2.1))+a0.2.2))
theorem aW5 (a0:(Int)×(Int)×(Int)):Con Tryz.prog 193 [(.s 0 0 3 1)] [(.live false false (k3 a0))] (iv (aCl a0)) []:=by
 refine cS Tryz.func193 fun cx hcx=>?_
 have e:=Eq.refl (aCl a0);(conv at e=>rhs;simp only [aCl]);rw [e];exact rT [.u 200,.T,.i 0 3,.u 0,.T,.i 1 3,.u 0,.T,.i 2 3,.u 0,.F] hcx
def aAp (a0 a1:Zt):Int := (aCl ((W (a0.1*a1.1)),(W (a0.2.1*a1.2.1)),(W (a0.2.2*a1.2.2))))
theorem aZh (a0 a1:Zt):Con Tryz.prog 170 [(.a (k3 a0)),(.a (k3 a1))] [] (iv (aAp a0 a1)) []:=by
 refine cS Tryz.func170 fun cx hcx=>?_
 have e:=Eq.refl (aAp a0 a1);(conv at e=>rhs;simp only [aAp]);rw [e];exact rT [.c [2] (aW5 ((W (a0.1*a1.1)),(W (a0.2.1*a1.2.1)),(W (a0.2.2*a1.2.2))))] hcx
def tE (a0 a1:Zt):Zt := ((W (a0.1 - a1.1)),(W (a0.2.1 - a1.2.1)),(W (a0.2.2 - a1.2.2)))
theorem bB9 (a0 a1:Zt):Con Tryz.prog 171 [(.a (k3 a0)),(.a (k3 a1))] [] (.a (k3 (tE a0 a1))) []:=by
 refine cS Tryz.func171 fun cx hcx=>?_
 have e:=Eq.refl (tE a0 a1);(conv at e=>rhs;simp only [tE]);rw [e];exact rT [] hcx
def dQ (a0:Zt×Zt×Zt):Zt×Zt := (((if(a0.2.2.1:Int) < (if(a0.2.1.1:Int) < (if(a0.1.1:Int) < a0.1.1 then a0.1.1 else a0.1.1)then a0.2.1.1 else(if(a0.1.1:Int) < a0.1.1 then a0.1.1 else a0.1.1))then a0.2.2.1 else(if(a0.2.1.1:Int) < (if(a0.1.1:Int) < a0.1.1 then a0.1.1 else a0.1.1)then a0.2.1.1 else(if(a0.1.1:Int) < a0.1.1 then a0.1.1 else a0.1.1))),(if(a0.2.2.2.1:Int) < (if(a0.2.1.2.1:Int) < (if(a0.1.2.1:Int) < a0.1.2.1 then a0.1.2.1 else a0.1.2.1)then a0.2.1.2.1 else(if(a0.1.2.1:Int) < a0.1.2.1 then a0.1.2.1 else a0.1.2.1))then a0.2.2.2.1 else(if(a0.2.1.2.1:Int) < (if(a0.1.2.1:Int) < a0.1.2.1 then a0.1.2.1 else a0.1.2.1)then a0.2.1.2.1 else(if(a0.1.2.1:Int) < a0.1.2.1 then a0.1.2.1 else a0.1.2.1))),(if(a0.2.2.2.2:Int) < (if(a0.2.1.2.2:Int) < (if(a0.1.2.2:Int) < a0.1.2.2 then a0.1.2.2 else a0.1.2.2)then a0.2.1.2.2 else(if(a0.1.2.2:Int) < a0.1.2.2 then a0.1.2.2 else a0.1.2.2))then a0.2.2.2.2 else(if(a0.2.1.2.2:Int) < (if(a0.1.2.2:Int) < a0.1.2.2 then a0.1.2.2 else a0.1.2.2)then a0.2.1.2.2 else(if(a0.1.2.2:Int) < a0.1.2.2 then a0.1.2.2 else a0.1.2.2)))),((if((if((if(a0.1.1:Int) < a0.1.1 then a0.1.1 else a0.1.1):Int) < a0.2.1.1 then a0.2.1.1 else(if(a0.1.1:Int) < a0.1.1 then a0.1.1 else a0.1.1)):Int) < a0.2.2.1 then a0.2.2.1 else(if((if(a0.1.1:Int) < a0.1.1 then a0.1.1 else a0.1.1):Int) < a0.2.1.1 then a0.2.1.1 else(if(a0.1.1:Int) < a0.1.1 then a0.1.1 else a0.1.1))),(if((if((if(a0.1.2.1:Int) < a0.1.2.1 then a0.1.2.1 else a0.1.2.1):Int) < a0.2.1.2.1 then a0.2.1.2.1 else(if(a0.1.2.1:Int) < a0.1.2.1 then a0.1.2.1 else a0.1.2.1)):Int) < a0.2.2.2.1 then a0.2.2.2.1 else(if((if(a0.1.2.1:Int) < a0.1.2.1 then a0.1.2.1 else a0.1.2.1):Int) < a0.2.1.2.1 then a0.2.1.2.1 else(if(a0.1.2.1:Int) < a0.1.2.1 then a0.1.2.1 else a0.1.2.1))),(if((if((if(a0.1.2.2:Int) < a0.1.2.2 then a0.1.2.2 else a0.1.2.2):Int) < a0.2.1.2.2 then a0.2.1.2.2 else(if(a0.1.2.2:Int) < a0.1.2.2 then a0.1.2.2 else a0.1.2.2)):Int) < a0.2.2.2.2 then a0.2.2.2.2 else(if((if(a0.1.2.2:Int) < a0.1.2.2 then a0.1.2.2 else a0.1.2.2):Int) < a0.2.1.2.2 then a0.2.1.2.2 else(if(a0.1.2.2:Int) < a0.1.2.2 then a0.1.2.2 else a0.1.2.2)))))
theorem aW6 (a0:Zt×Zt×Zt):Con Tryz.prog 168 [(.s 0 0 3 3)] [(.live false false (k9 a0))] (.t [(.a (k3 (dQ a0).1)),(.a (k3 (dQ a0).2))]) []:=by
 refine cS Tryz.func168 fun cx hcx=>?_
 have e:=Eq.refl (dQ a0);(conv at e=>rhs;simp only [dQ]);rw [e];exact rT [.i 0 3,.i 0 3,.u 200,.T,.i 0 3,.u 0,.T,.i 1 3,.u 0,.T,.i 2 3,.u 0,.F] hcx
def dM (a0:Zt):Zt×Zt := (((if(a0.1:Int) < a0.1 then a0.1 else a0.1),(if(a0.2.1:Int) < a0.2.1 then a0.2.1 else a0.2.1),(if(a0.2.2:Int) < a0.2.2 then a0.2.2 else a0.2.2)),((if(a0.1:Int) < a0.1 then a0.1 else a0.1),(if(a0.2.1:Int) < a0.2.1 then a0.2.1 else a0.2.1),(if(a0.2.2:Int) < a0.2.2 then a0.2.2 else a0.2.2)))
theorem aW7 (a0:Zt):Con Tryz.prog 168 [(.s 0 0 1 3)] [(.live false false (k3 a0))] (.t [(.a (k3 (dM a0).1)),(.a (k3 (dM a0).2))]) []:=by
 refine cS Tryz.func168 fun cx hcx=>?_
 have e:=Eq.refl (dM a0);(conv at e=>rhs;simp only [dM]);rw [e];exact rT [.i 0 1,.i 0 1,.u 200,.T,.i 0 1,.u 0,.F] hcx
def oI (a0 a1 a2 a3:Int):Int := (if((if(0:Int) < (W (a2 - a1))then(W (a2 - a1))else 0):Int) < (W (a0 - a3))then(W (a0 - a3))else(if(0:Int) < (W (a2 - a1))then(W (a2 - a1))else 0))
theorem aW8 (a0 a1 a2 a3:Int):Con Tryz.prog 169 [(iv a0),(iv a1),(iv a2),(iv a3)] [] (iv (oI a0 a1 a2 a3)) []:=by
 refine cS Tryz.func169 fun cx hcx=>?_
 have e:=Eq.refl (oI a0 a1 a2 a3);(conv at e=>rhs;simp only [oI]);rw [e];exact rT [] hcx
def dR (a0:Zt×Zt×Zt)(a1:Zt):Int := (aAp ((oI (dQ a0).1.1 (dQ a0).2.1 (dM a1).1.1 (dM a1).2.1),(oI (dQ a0).1.2.1 (dQ a0).2.2.1 (dM a1).1.2.1 (dM a1).2.2.1),(oI (dQ a0).1.2.2 (dQ a0).2.2.2 (dM a1).1.2.2 (dM a1).2.2.2)) ((oI (dQ a0).1.1 (dQ a0).2.1 (dM a1).1.1 (dM a1).2.1),(oI (dQ a0).1.2.1 (dQ a0).2.2.1 (dM a1).1.2.1 (dM a1).2.2.1),(oI (dQ a0).1.2.2 (dQ a0).2.2.2 (dM a1).1.2.2 (dM a1).2.2.2)))
theorem aIp (a0:Zt×Zt×Zt)(a1:Zt):Con Tryz.prog 130 [(.s 0 0 3 3),(.s 1 0 1 3)] [(.live false false (k9 a0)),(.live false false (k3 a1))] (iv (dR a0 a1)) []:=by
 refine cS Tryz.func130 fun cx hcx=>?_
 have e:=Eq.refl (dR a0 a1);(conv at e=>rhs;simp only [dR]);rw [e];exact rT [.c [0] (aW6 a0),.c [1] (aW7 a1),.c [] (aW8 (dQ a0).1.1 (dQ a0).2.1 (dM a1).1.1 (dM a1).2.1),.c [] (aW8 (dQ a0).1.2.1 (dQ a0).2.2.1 (dM a1).1.2.1 (dM a1).2.2.1),.c [] (aW8 (dQ a0).1.2.2 (dQ a0).2.2.2 (dM a1).1.2.2 (dM a1).2.2.2),.c [] (aZh ((oI (dQ a0).1.1 (dQ a0).2.1 (dM a1).1.1 (dM a1).2.1),(oI (dQ a0).1.2.1 (dQ a0).2.2.1 (dM a1).1.2.1 (dM a1).2.2.1),(oI (dQ a0).1.2.2 (dQ a0).2.2.2 (dM a1).1.2.2 (dM a1).2.2.2)) ((oI (dQ a0).1.1 (dQ a0).2.1 (dM a1).1.1 (dM a1).2.1),(oI (dQ a0).1.2.1 (dQ a0).2.2.1 (dM a1).1.2.1 (dM a1).2.2.1),(oI (dQ a0).1.2.2 (dQ a0).2.2.2 (dM a1).1.2.2 (dM a1).2.2.2)))] hcx
def c24 (x:Zt):List SV:=[(iv x.1),(iv x.2.1),(iv x.2.2)]
theorem aMd (x:Zt):(c24 x).length=3:=rfl
noncomputable def wB:Code:=(bC [1,1,0,1,0,1,1,0,1,1] [0] (aX Tryz.f131) []).1
noncomputable def wC (m0:Nat):List K:=(bC [1,1,0,1,0,1,1,0,1,1] [m0] (aX Tryz.f131) []).2
def tF (a0:List Zt)(a1:List Zt)(v5 v6 v7 v8 v9 v10:Int):LS:=⟨jT 34 [(1,(.s 1 0 a1.length 3)),(5,(iv v5)),(7,(.p 2 0)),(11,(.s 0 0 a0.length 3)),(12,(iv (a0.length:Int))),(13,(iv v6)),(17,(.s 1 0 a1.length 3)),(18,(iv (a1.length:Int))),(19,(iv v7))],[(.live false true (flat c24 a0)),(.live false true (flat c24 a1)),(.live true false [(iv v8),(iv v9),(iv v10)])]⟩
def lL (a0:List Zt)(a1:List Zt):Int×Int×Int×Zt->(Int×Int×Int×Zt)⊕(Zs⊕(Int)) | (v5,v6,v7,v8,v9,v10) => (bif (decide ((v7:Int) < (a1.length:Int)))then(.inl ((if(v5:Int) < (aAp (tE (v8,v9,v10) (a1.getD (tN v7) dF)) (tE (v8,v9,v10) (a1.getD (tN v7) dF)))then(aAp (tE (v8,v9,v10) (a1.getD (tN v7) dF)) (tE (v8,v9,v10) (a1.getD (tN v7) dF)))else v5),v6,(v7+1),v8,v9,v10))else(.inr (.inl (v5,(v6+1)))))
noncomputable def lM:=bC [1,1,0,1] [] (aX Tryz.f131) []
def pO (a0:List Zt)(a1:List Zt)(v3 v4:Int):LS:=⟨jT 34 [(1,(.s 1 0 a1.length 3)),(5,(iv v3)),(11,(.s 0 0 a0.length 3)),(12,(iv (a0.length:Int))),(13,(iv v4))],[(.live false true (flat c24 a0)),(.live false true (flat c24 a1))]⟩
def jG (a0:List Zt)(a1:List Zt):Zs->Zs⊕(Int) | (v3,v4) => (bif (decide ((v4:Int) < (a0.length:Int)))then(aE (lL a0 a1) (tN ((a1.length:Int) - 0)+1) (v3,v4,0,(a0.getD (tN v4) dF).1,(a0.getD (tN v4) dF).2.1,(a0.getD (tN v4) dF).2.2))else(.inr v3))
theorem aKo (a0:List Zt)(a1:List Zt)(l0:a0.length<=2^63-1)(l1:a1.length<=2^63-1) {cx:Cx} (hcx:cx.base=2)
 (n0:Nat) (g0:∀(v3 v4:Int),0<=v4->tN ((a0.length:Int) - v4) < n0->gG Tryz.f131 cx (iv (aE (jG a0 a1) n0 (v3,v4))) [] [] (.l lM.1 n0::lM.2) (pO a0 a1 v3 v4)):∀(n:Nat) (v5 v6 v7 v8 v9 v10:Int),(0<=v7)/\((0<=v6))/\(v6 < (a0.length:Int))/\(tN ((a0.length:Int) - v6) < n0+1)->tN ((a1.length:Int) - v7) < n->gG Tryz.f131 cx (iv (bZ (jG a0 a1) n0 (aE (lL a0 a1) n (v5,v6,v7,v8,v9,v10)))) [] [] (.l wB n::wC n0) (tF a0 a1 v5 v6 v7 v8 v9 v10):=by
 intro n
 induction n with|zero=>intro v5 v6 v7 v8 v9 v10 hi hn;exact absurd hn (fW _)|succ n ih=>?_
 intro v5 v6 v7 v8 v9 v10 hi hn;refine aS ?_;cases h0:(decide ((v7:Int) < (a1.length:Int)))
 case true=>have q0:=dE h0;have e:=Eq.refl (lL a0 a1 (v5,v6,v7,v8,v9,v10));(conv at e=>rhs;simp only [lL,h0,aQ]);rw [aD e];refine ba [.d h0,.i v7 (a1.length),.L aMd a1 v7 0 3,.c [] (bB9 (v8,v9,v10) (a1.getD (tN v7) dF)),.c [] (aZh (tE (v8,v9,v10) (a1.getD (tN v7) dF)) (tE (v8,v9,v10) (a1.getD (tN v7) dF)))] [] [1,5,7,11,12,13,17,18,19] [2] hcx (m:=n) wB (wC n0) (tF a0 a1 (if(v5:Int) < (aAp (tE (v8,v9,v10) (a1.getD (tN v7) dF)) (tE (v8,v9,v10) (a1.getD (tN v7) dF))) then(aAp (tE (v8,v9,v10) (a1.getD (tN v7) dF)) (tE (v8,v9,v10) (a1.getD (tN v7) dF))) else v5) v6 (W (v7+1)) v8 v9 v10) (by kernel_rfl) ?_;have z0:(W (v7+1))=(v7+1):=aG (by omega) (by omega);rw [z0];exact ih _ _ _ _ _ _ (by refine⟨?_,?_,?_,?_⟩<;>(try simp only [Ls])<;>first | omega | assumption | simp) (by omega)
 have q0:=dO h0;have e:=Eq.refl (lL a0 a1 (v5,v6,v7,v8,v9,v10));(conv at e=>rhs;simp only [lL,h0,aQ]);rw [aJ,e];refine bA n0 [.d h0] [1,5,11,12,13] [] hcx lM (pO a0 a1 v5 (W (v6+1))) ?_;have z0:(W (v6+1))=(v6+1):=aG (by omega) (by omega);rw [z0];exact g0 v5 (v6+1) (by omega) (by omega)
theorem aKp (a0:List Zt)(a1:List Zt)(l0:a0.length<=2^63-1)(l1:a1.length<=2^63-1) {cx:Cx} (hcx:cx.base=2):∀(n:Nat) (v3 v4:Int),0<=v4->tN ((a0.length:Int) - v4) < n->gG Tryz.f131 cx (iv (aE (jG a0 a1) n (v3,v4))) [] [] (.l lM.1 n::lM.2) (pO a0 a1 v3 v4):=by
 intro n
 induction n with|zero=>intro v3 v4 hi hn;exact absurd hn (fW _)|succ n ih=>?_
 intro v3 v4 hi hn;refine aS ?_;cases h0:(decide ((v4:Int) < (a0.length:Int)))
 case true=>have q0:=dE h0;have e:=Eq.refl (jG a0 a1 (v3,v4));(conv at e=>rhs;simp only [jG,h0,aQ]);rw [aJ,e];refine en [.d h0,.i v4 (a0.length),.L aMd a0 v4 0 3] [] [1,5,7,11,12,13,17,18,19] [2] hcx wB (wC n) (tF a0 a1 v3 v4 0 ((a0.getD (tN v4) dF).1) ((a0.getD (tN v4) dF).2.1) ((a0.getD (tN v4) dF).2.2)) (tN ((a1.length:Int) - 0)+1) (by kernel_rfl) ?_;exact aKo a0 a1 l0 l1 hcx n ih (tN ((a1.length:Int) - 0)+1) v3 v4 0 ((a0.getD (tN v4) dF).1) ((a0.getD (tN v4) dF).2.1) ((a0.getD (tN v4) dF).2.2) (by refine⟨?_,?_,?_,?_⟩<;>(try simp only [Ls])<;>first | omega | assumption | simp) (by omega)
 have q0:=dO h0;have e:=Eq.refl (jG a0 a1 (v3,v4));(conv at e=>rhs;simp only [jG,h0,aQ]);rw [aJ,e];exact rT [.d h0] hcx
def fT (a0:List Zt)(a1:List Zt):Int := (aE (jG a0 a1) (tN ((a0.length:Int) - 0)+1) (0,0))
theorem aP5 (a0:List Zt)(a1:List Zt)(l0:a0.length<=2^63-1)(l1:a1.length<=2^63-1):Con Tryz.prog 131 [(.s 0 0 a0.length 3),(.s 1 0 a1.length 3)] [(.live false true (flat c24 a0)),(.live false true (flat c24 a1))] (iv (fT a0 a1)) []:=by
 refine cS Tryz.func131 fun cx hcx=>?_
 have e:=Eq.refl (fT a0 a1);(conv at e=>rhs;simp only [fT]);rw [e];refine eN [] [1,5,11,12,13] [] hcx lM (pO a0 a1 0 0) (tN ((a0.length:Int) - 0)+1) ?_;exact aKp a0 a1 l0 l1 hcx (tN ((a0.length:Int) - 0)+1) 0 0 (by omega) (by omega)
noncomputable def yU:Code:=match (dK [1] [] (aX Tryz.f173)).1 with
 | .scope c=>c
 | _=>.skip
noncomputable def aCm:List K:=(dK [1] [] (aX Tryz.f173)).2
noncomputable def aW9:Code:=(findLabel yU 0).getD .skip
def xF (a0:Int)(v1 v2:Int):LS:=⟨jT 22 [(0,(iv a0)),(3,(iv v1)),(4,(iv v2))],[]⟩
def oJ (a0:Int):Zs->Zs⊕(Int) | (v1,v2) => (bif ((v2:Int) == 0)then(.inr v1)else(bif (decide (((W ((W (v1+v2))*(W (v1+v2)))):Int)<=a0))then(.inl ((W (v1+v2)),(v2 / 2)))else(.inl (v1,(v2 / 2)))))
theorem aP6 (a0:Int) {cx:Cx} (hcx:cx.base=0):∀(n:Nat) (v1 v2:Int),0<=v2->tN v2 < n->gG Tryz.f173 cx (iv (aE (oJ a0) n (v1,v2))) [] [] (.c (.goto 0)::.s yU n::aCm) (xF a0 v1 v2):=by
 intro n
 induction n with|zero=>intro v1 v2 hi hn;exact absurd hn (fW _)|succ n ih=>?_
 intro v1 v2 hi hn;refine aOk (rest:=aW9) (by kernel_rfl) ?_;cases h0:((v2:Int) == 0)
 case true=>have q0:=eq_of_beq h0;have e:=Eq.refl (oJ a0 (v1,v2));(conv at e=>rhs;simp only [oJ,h0,aQ]);rw [aJ,e];exact rT [.d h0] hcx
 have q0:=ne_of_beq_false h0;let t1:SL:=[.d h0];cases h1:(decide (((W ((W (v1+v2))*(W (v1+v2)))):Int)<=a0))
 case true=>have q1:=dE h1;have e:=Eq.refl (oJ a0 (v1,v2));(conv at e=>rhs;simp only [oJ,h0,h1,aQ]);rw [aD e];refine ga (t1++[.d h1,.p (show 0<=(1:Int) from by decide)]) [] [0,3,4] [] hcx (.goto 0) (.s yU n::aCm) (xF a0 (W (v1+v2)) (fD v2 (2 ^ (min (tN 1) 64)))) (by kernel_rfl) ?_;have z0:(fD v2 (2 ^ (min (tN 1) 64)))=(v2 / 2):=aKm _ 1 (by decide);rw [z0];exact ih _ _ (by omega) (by omega)
 have q1:=dO h1;have e:=Eq.refl (oJ a0 (v1,v2));(conv at e=>rhs;simp only [oJ,h0,h1,aQ]);rw [aD e];refine ga (t1++[.d h1,.p (show 0<=(1:Int) from by decide)]) [] [0,3,4] [] hcx (.goto 0) (.s yU n::aCm) (xF a0 v1 (fD v2 (2 ^ (min (tN 1) 64)))) (by kernel_rfl) ?_;have z0:(fD v2 (2 ^ (min (tN 1) 64)))=(v2 / 2):=aKm _ 1 (by decide);rw [z0];exact ih _ _ (by omega) (by omega)
def kI (a0:Int):Int := (bif (decide ((4611686018427387904:Int)<=a0))then(aE (oJ a0) (tN 1073741824+1) (2147483648,1073741824))else(aE (oJ a0) (tN 1073741824+1) (0,1073741824)))
theorem bCa (a0:Int):Con Tryz.prog 173 [(iv a0)] [] (iv (kI a0)) []:=by
 refine cS Tryz.func173 fun cx hcx=>?_
 cases h0:(decide ((4611686018427387904:Int)<=a0))
 case true=>have q0:=dE h0;have e:=Eq.refl (kI a0);(conv at e=>rhs;simp only [kI,h0,aQ]);rw [e];refine ga [.u (tN 1073741824+1),.F,.d h0,.p (show 0<=(1:Int) from by decide)] [] [0,3,4] [] hcx (.goto 0) (.s yU (tN 1073741824+1)::aCm) (xF a0 2147483648 1073741824) (by kernel_rfl) ?_;exact aP6 a0 hcx (tN 1073741824+1) 2147483648 1073741824 (by omega) (by omega)
 have q0:=dO h0;have e:=Eq.refl (kI a0);(conv at e=>rhs;simp only [kI,h0,aQ]);rw [e];refine ga [.u (tN 1073741824+1),.F,.d h0,.p (show 0<=(1:Int) from by decide)] [] [0,3,4] [] hcx (.goto 0) (.s yU (tN 1073741824+1)::aCm) (xF a0 0 1073741824) (by kernel_rfl) ?_;exact aP6 a0 hcx (tN 1073741824+1) 0 1073741824 (by omega) (by omega)
def rU (a0:Zs):Bool := (bif (decide ((a0.1:Int)≥(-1099511627776)))then(bif (decide ((a0.1:Int)<=a0.2))then(decide ((a0.2:Int)<=1099511627776))else false)else false)
theorem C55 (a0:Zs):Con Tryz.prog 55 [(.a [(iv a0.1),(iv a0.2)])] [] (.v (.bool (rU a0))) []:=by
 refine cS Tryz.func55 fun cx hcx=>?_
 cases h0:(decide ((a0.1:Int)≥(-1099511627776)))
 case true=>
  have q0:=dE h0;let t1:SL:=[.d h0];cases h1:(decide ((a0.1:Int)<=a0.2))
  case true=>have q1:=dE h1;have e:=Eq.refl (rU a0);(conv at e=>rhs;simp only [rU,h0,h1,aQ]);rw [e];exact rT (t1++[.d h1]) hcx
  have q1:=dO h1;have e:=Eq.refl (rU a0);(conv at e=>rhs;simp only [rU,h0,h1,aQ]);rw [e];exact rT (t1++[.d h1]) hcx
 have q0:=dO h0;have e:=Eq.refl (rU a0);(conv at e=>rhs;simp only [rU,h0,aQ]);rw [e];exact rT [.d h0] hcx
def rK (a0 a1:Int):Zs×Int := (bif (!(rU (a0,a1)))then((0,0),4)else((a0,a1),0))
theorem C57 (a0 a1:Int):Con Tryz.prog 57 [(iv a0),(iv a1)] [] (.t [(.a (k2 (rK a0 a1).1)),(iv (rK a0 a1).2)]) []:=by
 refine cS Tryz.func57 fun cx hcx=>?_
 let t0:SL:=[.c [] (C55 (a0,a1))];cases h0:(!(rU (a0,a1)))
 case true=>have e:=Eq.refl (rK a0 a1);(conv at e=>rhs;simp only [rK,h0,aQ]);rw [e];exact rT (t0++[.d h0]) hcx
 have e:=Eq.refl (rK a0 a1);(conv at e=>rhs;simp only [rK,h0,aQ]);rw [e];exact rT (t0++[.d h0]) hcx
def aD9 (a0 a1:Int):Zs×Int := (bif (((W ((W ((kI (W (tD a0 a1)))*(kI (W (tD a0 a1)))))*a1)):Int) == a0)then((rK (kI (W (tD a0 a1))) (kI (W (tD a0 a1)))).1,(rK (kI (W (tD a0 a1))) (kI (W (tD a0 a1)))).2)else((rK (kI (W (tD a0 a1))) (W ((kI (W (tD a0 a1)))+1))).1,(rK (kI (W (tD a0 a1))) (W ((kI (W (tD a0 a1)))+1))).2))
theorem bCb (a0 a1:Int)(ha:a1≠0):Con Tryz.prog 133 [(iv a0),(iv a1)] [] (.t [(.a (k2 (aD9 a0 a1).1)),(iv (aD9 a0 a1).2)]) []:=by
 refine cS Tryz.func133 fun cx hcx=>?_
 let t0:SL:=[.p (show(a1:Int)≠0 from by first | omega | (rw [aG]<;>omega) | exact jF _),.c [] (bCa (W (tD a0 a1)))];cases h0:(((W ((W ((kI (W (tD a0 a1)))*(kI (W (tD a0 a1)))))*a1)):Int) == a0)
 case true=>have q0:=eq_of_beq h0;have e:=Eq.refl (aD9 a0 a1);(conv at e=>rhs;simp only [aD9,h0,aQ]);rw [e];exact rT (t0++[.d h0,.c [] (C57 (kI (W (tD a0 a1))) (kI (W (tD a0 a1))))]) hcx
 have q0:=ne_of_beq_false h0;have e:=Eq.refl (aD9 a0 a1);(conv at e=>rhs;simp only [aD9,h0,aQ]);rw [e];exact rT (t0++[.d h0,.c [] (C57 (kI (W (tD a0 a1))) (W ((kI (W (tD a0 a1)))+1)))]) hcx
def qK (a0 a1:Int):Zs×Int := (bif (decide ((a0:Int) < 1))then((0,0),1)else(bif (decide ((a0:Int) > 1099511627776))then((0,0),1)else(bif (decide ((a1:Int) < 1))then((0,0),1)else(bif (decide ((a1:Int) > 8))then((0,0),1)else((aD9 (W ((W (a1*a1))*2 ^ (min (tN 40) 64))) a0).1,(aD9 (W ((W (a1*a1))*2 ^ (min (tN 40) 64))) a0).2)))))
theorem C79 (a0 a1:Int):Con Tryz.prog 79 [(iv a0),(iv a1)] [] (.t [(.a (k2 (qK a0 a1).1)),(iv (qK a0 a1).2)]) []:=by
 refine cS Tryz.func79 fun cx hcx=>?_
 cases h0:(decide ((a0:Int) < 1))
 case true=>have q0:=dE h0;have e:=Eq.refl (qK a0 a1);(conv at e=>rhs;simp only [qK,h0,aQ]);rw [e];exact rT [.d h0] hcx
 have q0:=dO h0;let t1:SL:=[.d h0];cases h1:(decide ((a0:Int) > 1099511627776))
 case true=>have q1:=dE h1;have e:=Eq.refl (qK a0 a1);(conv at e=>rhs;simp only [qK,h0,h1,aQ]);rw [e];exact rT (t1++[.d h1]) hcx
 have q1:=dO h1;let t2:SL:=t1++[.d h1];cases h2:(decide ((a1:Int) < 1))
 case true=>have q2:=dE h2;have e:=Eq.refl (qK a0 a1);(conv at e=>rhs;simp only [qK,h0,h1,h2,aQ]);rw [e];exact rT (t2++[.d h2]) hcx
 have q2:=dO h2;let t3:SL:=t2++[.d h2];cases h3:(decide ((a1:Int) > 8))
 case true=>have q3:=dE h3;have e:=Eq.refl (qK a0 a1);(conv at e=>rhs;simp only [qK,h0,h1,h2,h3,aQ]);rw [e];exact rT (t3++[.d h3]) hcx
 have q3:=dO h3;have e:=Eq.refl (qK a0 a1);(conv at e=>rhs;simp only [qK,h0,h1,h2,h3,aQ]);rw [e];exact rT (t3++[.d h3,.p (show 0<=(40:Int) from by decide),.c [] (bCb (W ((W (a1*a1))*2 ^ (min (tN 40) 64))) a0  (by omega))]) hcx
def mU (a0:Zs):Int := (bif (!(rU a0))then 1 else 0)
theorem aVh (a0:Zs):Con Tryz.prog 44 [(.s 0 0 1 2)] [(.live false false [(iv a0.1),(iv a0.2)])] (iv (mU a0)) []:=by
 refine cS Tryz.func44 fun cx hcx=>?_
 let t0:SL:=[.u 200,.T,.i 0 1,.c [] (C55 a0)];cases h0:(!(rU a0))
 case true=>have e:=Eq.refl (mU a0);(conv at e=>rhs;simp only [mU,h0,aQ]);rw [e];exact rT (t0++[.d h0]) hcx
 have e:=Eq.refl (mU a0);(conv at e=>rhs;simp only [mU,h0,aQ]);rw [e];exact rT (t0++[.d h0,.u 0,.F]) hcx
def yV (a0 a1:Int):Int := (bif (((mD a0 a1):Int) != 0)then(bif (!((decide ((a0:Int) < 0)) == (decide ((a1:Int) < 0))))then(W ((W (tD a0 a1)) - 1))else(W (tD a0 a1)))else(W (tD a0 a1)))
theorem aZi (a0 a1:Int)(ha:a1≠0):Con Tryz.prog 194 [(iv a0),(iv a1)] [] (iv (yV a0 a1)) []:=by
 refine cS Tryz.func194 fun cx hcx=>?_
 let t0:SL:=[.p (show(a1:Int)≠0 from by first | omega | (rw [aG]<;>omega) | exact jF _),.p (show(a1:Int)≠0 from by first | omega | (rw [aG]<;>omega) | exact jF _)];cases h0:(((mD a0 a1):Int) != 0)
 case true=>
  have q0:=bne_iff_ne.1 h0;let t1:SL:=t0++[.d h0];cases h1:(!((decide ((a0:Int) < 0)) == (decide ((a1:Int) < 0))))
  case true=>have e:=Eq.refl (yV a0 a1);(conv at e=>rhs;simp only [yV,h0,h1,aQ]);rw [e];exact rT (t1++[.d h1]) hcx
  have e:=Eq.refl (yV a0 a1);(conv at e=>rhs;simp only [yV,h0,h1,aQ]);rw [e];exact rT (t1++[.d h1]) hcx
 have q0:=bne_eq_false_iff_eq.1 h0;have e:=Eq.refl (yV a0 a1);(conv at e=>rhs;simp only [yV,h0,aQ]);rw [e];exact rT (t0++[.d h0]) hcx
def aIq (a0 a1:Int):Int := (W (0 - (yV (W (0 - a0)) a1)))
theorem bCc (a0 a1:Int)(ha:a1≠0):Con Tryz.prog 195 [(iv a0),(iv a1)] [] (iv (aIq a0 a1)) []:=by
 refine cS Tryz.func195 fun cx hcx=>?_
 have e:=Eq.refl (aIq a0 a1);(conv at e=>rhs;simp only [aIq]);rw [e];exact rT [.c [] (aZi (W (0 - a0)) a1  (by omega))] hcx
def aAq (a0:Zs)(a1:Int):Zs×Int := (bif (((mU a0):Int) != 0)then((0,0),(mU a0))else(bif (decide ((a1:Int) < 1))then((0,0),1)else(bif (decide ((a1:Int) > 1099511627776))then((0,0),1)else((rK (yV a0.1 a1) (aIq a0.2 a1)).1,(rK (yV a0.1 a1) (aIq a0.2 a1)).2))))
theorem bCd (a0:Zs)(a1:Int):Con Tryz.prog 172 [(.a [(iv a0.1),(iv a0.2)]),(iv a1)] [] (.t [(.a (k2 (aAq a0 a1).1)),(iv (aAq a0 a1).2)]) []:=by
 refine cS Tryz.func172 fun cx hcx=>?_
 let t0:SL:=[.c [2] (aVh a0)];cases h0:(((mU a0):Int) != 0)
 case true=>have q0:=bne_iff_ne.1 h0;have e:=Eq.refl (aAq a0 a1);(conv at e=>rhs;simp only [aAq,h0,aQ]);rw [e];exact rT (t0++[.d h0]) hcx
 have q0:=bne_eq_false_iff_eq.1 h0;let t1:SL:=t0++[.d h0];cases h1:(decide ((a1:Int) < 1))
 case true=>have q1:=dE h1;have e:=Eq.refl (aAq a0 a1);(conv at e=>rhs;simp only [aAq,h0,h1,aQ]);rw [e];exact rT (t1++[.d h1]) hcx
 have q1:=dO h1;let t2:SL:=t1++[.d h1];cases h2:(decide ((a1:Int) > 1099511627776))
 case true=>have q2:=dE h2;have e:=Eq.refl (aAq a0 a1);(conv at e=>rhs;simp only [aAq,h0,h1,h2,aQ]);rw [e];exact rT (t2++[.d h2]) hcx
 have q2:=dO h2;have e:=Eq.refl (aAq a0 a1);(conv at e=>rhs;simp only [aAq,h0,h1,h2,aQ]);rw [e];exact rT (t2++[.d h2,.c [] (aZi a0.1 a1  (by omega)),.c [] (bCc a0.2 a1  (by omega)),.c [] (C57 (yV a0.1 a1) (aIq a0.2 a1))]) hcx
def sN (x:Zs):List SV:=[(iv x.1),(iv x.2)]
theorem uH (x:Zs):(sN x).length=2:=rfl
noncomputable def aAy:=bC [1,0,1] [] (aX Tryz.f44) []
def aCn (a0:List Zs)(v1:Int):LS:=⟨jT 15 [(5,(.s 0 0 a0.length 2)),(6,(iv (a0.length:Int))),(7,(iv v1))],[(.live false true (flat sN a0))]⟩
def kD (a0:List Zs):Int->(Int)⊕(Int) | v1 => (bif (decide ((v1:Int) < (a0.length:Int)))then(bif (!(rU (a0.getD (tN v1) dF)))then(.inr 1)else(.inl (v1+1)))else(.inr 0))
theorem aT0 (a0:List Zs)(l0:a0.length<=2^63-1) {cx:Cx} (hcx:cx.base=1):∀(n:Nat) (v1:Int),0<=v1->tN ((a0.length:Int) - v1) < n->gG Tryz.f44 cx (iv (aE (kD a0) n v1)) [] [] (.l aAy.1 n::aAy.2) (aCn a0 v1):=by
 intro n
 induction n with|zero=>intro v1 hi hn;exact absurd hn (fW _)|succ n ih=>?_
 intro v1 hi hn;refine aS ?_;cases h0:(decide ((v1:Int) < (a0.length:Int)))
 case true=>
  have q0:=dE h0;let t1:SL:=[.d h0,.i v1 (a0.length),.L uH a0 v1 0 2,.c [] (C55 (a0.getD (tN v1) dF))];cases h1:(!(rU (a0.getD (tN v1) dF)))
  case true=>have e:=Eq.refl (kD a0 v1);(conv at e=>rhs;simp only [kD,h0,h1,aQ]);rw [aJ,e];exact rT (t1++[.d h1]) hcx
  have e:=Eq.refl (kD a0 v1);(conv at e=>rhs;simp only [kD,h0,h1,aQ]);rw [aD e];refine bA n (t1++[.d h1]) [5,6,7] [] hcx aAy (aCn a0 (W (v1+1))) ?_;have z0:(W (v1+1))=(v1+1):=aG (by omega) (by omega);rw [z0];exact ih _ (by omega) (by omega)
 have q0:=dO h0;have e:=Eq.refl (kD a0 v1);(conv at e=>rhs;simp only [kD,h0,aQ]);rw [aJ,e];exact rT [.d h0] hcx
def zT (a0:List Zs):Int := (aE (kD a0) (tN ((a0.length:Int) - 0)+1) 0)
theorem aZj (a0:List Zs)(l0:a0.length<=2^63-1):Con Tryz.prog 44 [(.s 0 0 a0.length 2)] [(.live false true (flat sN a0))] (iv (zT a0)) []:=by
 refine cS Tryz.func44 fun cx hcx=>?_
 have e:=Eq.refl (zT a0);(conv at e=>rhs;simp only [zT]);rw [e];refine eN [] [5,6,7] [] hcx aAy (aCn a0 0) (tN ((a0.length:Int) - 0)+1) ?_;exact aT0 a0 l0 hcx (tN ((a0.length:Int) - 0)+1) 0 (by omega) (by omega)
noncomputable def aAz:=bC [1,1,1,0,1] [] (aX Tryz.f56) []
def aCo (a0:List Zs)(v1 v2 v3:Int):LS:=⟨jT 33 [(2,(iv v1)),(3,(iv v2)),(16,(.s 0 0 a0.length 2)),(17,(iv (a0.length:Int))),(18,(iv v3))],[(.live false true (flat sN a0))]⟩
def pP (a0:List Zs):Zt->Zt⊕Zt | (v1,v2,v3) => (bif (decide ((v3:Int) < (a0.length:Int)))then(.inl ((W (v1+(a0.getD (tN v3) dF).1)),(W (v2+(a0.getD (tN v3) dF).2)),(v3+1)))else(.inr (v1,v2,0)))
theorem aT1 (a0:List Zs)(l0:a0.length<=2^63-1) {cx:Cx} (hcx:cx.base=1):∀(n:Nat) (v1 v2 v3:Int),0<=v3->tN ((a0.length:Int) - v3) < n->gG Tryz.f56 cx (.t (k3 (aE (pP a0) n (v1,v2,v3)))) [] [] (.l aAz.1 n::aAz.2) (aCo a0 v1 v2 v3):=by
 intro n
 induction n with|zero=>intro v1 v2 v3 hi hn;exact absurd hn (fW _)|succ n ih=>?_
 intro v1 v2 v3 hi hn;refine aS ?_;cases h0:(decide ((v3:Int) < (a0.length:Int)))
 case true=>have q0:=dE h0;have e:=Eq.refl (pP a0 (v1,v2,v3));(conv at e=>rhs;simp only [pP,h0,aQ]);rw [aD e];refine bA n [.d h0,.i v3 (a0.length),.L uH a0 v3 0 2] [2,3,16,17,18] [] hcx aAz (aCo a0 (W (v1+(a0.getD (tN v3) dF).1)) (W (v2+(a0.getD (tN v3) dF).2)) (W (v3+1))) ?_;have z0:(W (v3+1))=(v3+1):=aG (by omega) (by omega);rw [z0];exact ih _ _ _ (by omega) (by omega)
 have q0:=dO h0;have e:=Eq.refl (pP a0 (v1,v2,v3));(conv at e=>rhs;simp only [pP,h0,aQ]);rw [aJ,e];exact rT [.d h0] hcx
def lF (a0:List Zs):Zt := (bif (decide (((a0.length:Int):Int) > 10000))then(0,0,4)else(bif (((zT a0):Int) != 0)then(0,0,(zT a0))else(aE (pP a0) (tN ((a0.length:Int) - 0)+1) (0,0,0))))
theorem aZk (a0:List Zs)(l0:a0.length<=2^63-1):Con Tryz.prog 56 [(.s 0 0 a0.length 2)] [(.live false true (flat sN a0))] (.t (k3 (lF a0))) []:=by
 refine cS Tryz.func56 fun cx hcx=>?_
 cases h0:(decide (((a0.length:Int):Int) > 10000))
 case true=>have q0:=dE h0;have e:=Eq.refl (lF a0);(conv at e=>rhs;simp only [lF,h0,aQ]);rw [e];exact rT [.d h0] hcx
 have q0:=dO h0;let t1:SL:=[.d h0,.c [0] (aZj a0 (by omega))];cases h1:(((zT a0):Int) != 0)
 case true=>have q1:=bne_iff_ne.1 h1;have e:=Eq.refl (lF a0);(conv at e=>rhs;simp only [lF,h0,h1,aQ]);rw [e];exact rT (t1++[.d h1]) hcx
 have q1:=bne_eq_false_iff_eq.1 h1;have e:=Eq.refl (lF a0);(conv at e=>rhs;simp only [lF,h0,h1,aQ]);rw [e];refine eN (t1++[.d h1]) [2,3,16,17,18] [] hcx aAz (aCo a0 0 0 0) (tN ((a0.length:Int) - 0)+1) ?_;exact aT1 a0 l0 hcx (tN ((a0.length:Int) - 0)+1) 0 0 0 (by omega) (by omega)
def oK (a0:List Zs):Zs×Int := (bif (((lF a0).2.2:Int) != 0)then((0,0),(lF a0).2.2)else((rK (lF a0).1 (lF a0).2.1).1,(rK (lF a0).1 (lF a0).2.1).2))
theorem aP7 (a0:List Zs)(l0:a0.length<=2^63-1):Con Tryz.prog 28 [(.s 0 0 a0.length 2)] [(.live false true (flat sN a0))] (.t [(.a (k2 (oK a0).1)),(iv (oK a0).2)]) []:=by
 refine cS Tryz.func28 fun cx hcx=>?_
 let t0:SL:=[.c [0] (aZk a0 (by omega))];cases h0:(((lF a0).2.2:Int) != 0)
 case true=>have q0:=bne_iff_ne.1 h0;have e:=Eq.refl (oK a0);(conv at e=>rhs;simp only [oK,h0,aQ]);rw [e];exact rT (t0++[.d h0]) hcx
 have q0:=bne_eq_false_iff_eq.1 h0;have e:=Eq.refl (oK a0);(conv at e=>rhs;simp only [oK,h0,aQ]);rw [e];exact rT (t0++[.d h0,.c [] (C57 (lF a0).1 (lF a0).2.1)]) hcx
def nH (a0:Zs×Zs):Int := (bif (!(rU a0.1))then 1 else(bif (!(rU a0.2))then 1 else 0))
theorem aVi (a0:Zs×Zs):Con Tryz.prog 44 [(.s 0 0 2 2)] [(.live false false [(iv a0.1.1),(iv a0.1.2),(iv a0.2.1),(iv a0.2.2)])] (iv (nH a0)) []:=by
 refine cS Tryz.func44 fun cx hcx=>?_
 let t0:SL:=[.u 200,.T,.i 0 2,.c [] (C55 a0.1)];cases h0:(!(rU a0.1))
 case true=>have e:=Eq.refl (nH a0);(conv at e=>rhs;simp only [nH,h0,aQ]);rw [e];exact rT (t0++[.d h0]) hcx
 let t1:SL:=t0++[.d h0,.u 0,.T,.i 1 2,.c [] (C55 a0.2)];cases h1:(!(rU a0.2))
 case true=>have e:=Eq.refl (nH a0);(conv at e=>rhs;simp only [nH,h0,h1,aQ]);rw [e];exact rT (t1++[.d h1]) hcx
 have e:=Eq.refl (nH a0);(conv at e=>rhs;simp only [nH,h0,h1,aQ]);rw [e];exact rT (t1++[.d h1,.u 0,.F]) hcx
def F13 (a0 a1:Zs):Zs×Bool×Int := (bif (((nH (a0,a1)):Int) != 0)then((0,0),false,(nH (a0,a1)))else(bif (decide (((if(a0.1:Int) < a1.1 then a1.1 else a0.1):Int) > (if(a1.2:Int) < a0.2 then a1.2 else a0.2)))then((0,0),false,0)else(((if(a0.1:Int) < a1.1 then a1.1 else a0.1),(if(a1.2:Int) < a0.2 then a1.2 else a0.2)),true,0)))
theorem C13 (a0 a1:Zs):Con Tryz.prog 13 [(.a [(iv a0.1),(iv a0.2)]),(.a [(iv a1.1),(iv a1.2)])] [] (.t [(.a (k2 (F13 a0 a1).1)),(.v (.bool (F13 a0 a1).2.1)),(iv (F13 a0 a1).2.2)]) []:=by
 refine cS Tryz.func13 fun cx hcx=>?_
 let t0:SL:=[.c [3] (aVi (a0,a1))];cases h0:(((nH (a0,a1)):Int) != 0)
 case true=>have q0:=bne_iff_ne.1 h0;have e:=Eq.refl (F13 a0 a1);(conv at e=>rhs;simp only [F13,h0,aQ]);rw [e];exact rT (t0++[.d h0]) hcx
 have q0:=bne_eq_false_iff_eq.1 h0;let t1:SL:=t0++[.d h0];cases h1:(decide (((if(a0.1:Int) < a1.1 then a1.1 else a0.1):Int) > (if(a1.2:Int) < a0.2 then a1.2 else a0.2)))
 case true=>have q1:=dE h1;have e:=Eq.refl (F13 a0 a1);(conv at e=>rhs;simp only [F13,h0,h1,aQ]);rw [e];exact rT (t1++[.d h1]) hcx
 have q1:=dO h1;have e:=Eq.refl (F13 a0 a1);(conv at e=>rhs;simp only [F13,h0,h1,aQ]);rw [e];exact rT (t1++[.d h1]) hcx
def sO (a0 a1:Int):Int := (bif ((a0:Int) != 0)then(bif ((a1:Int) != 0)then(bif (decide (((if(a1:Int) < (W (0 - a1))then(W (0 - a1))else a1):Int) > (W (tD 1099511627776 (if(a0:Int) < (W (0 - a0))then(W (0 - a0))else a0)))))then(bif (!((decide ((a0:Int) < 0)) == (decide ((a1:Int) < 0))))then(-1099511627777)else 1099511627777)else(W (a0*a1)))else(W (a0*a1)))else(W (a0*a1)))
theorem C81 (a0 a1:Int)(ha:-1099511627776<=a0/\a0<=1099511627776):Con Tryz.prog 81 [(iv a0),(iv a1)] [] (iv (sO a0 a1)) []:=by
 refine cS Tryz.func81 fun cx hcx=>?_
 cases h0:((a0:Int) != 0)
 case true=>
  have q0:=bne_iff_ne.1 h0;let t1:SL:=[.d h0];cases h1:((a1:Int) != 0)
  case true=>
   have q1:=bne_iff_ne.1 h1;let t2:SL:=t1++[.d h1,.p (show((if(a0:Int) < (W (0 - a0)) then(W (0 - a0)) else a0):Int)≠0 from by(have hw:=aG (n:=0 - a0) (by omega) (by omega);rw [hw];split<;>omega))];cases h2:(decide (((if(a1:Int) < (W (0 - a1)) then(W (0 - a1)) else a1):Int) > (W (tD 1099511627776 (if(a0:Int) < (W (0 - a0)) then(W (0 - a0)) else a0)))))
   case true=>
    have q2:=dE h2;let t3:SL:=t2++[.d h2];cases h3:(!((decide ((a0:Int) < 0)) == (decide ((a1:Int) < 0))))
    case true=>have e:=Eq.refl (sO a0 a1);(conv at e=>rhs;simp only [sO,h0,h1,h2,h3,aQ]);rw [e];exact rT (t3++[.d h3]) hcx
    have e:=Eq.refl (sO a0 a1);(conv at e=>rhs;simp only [sO,h0,h1,h2,h3,aQ]);rw [e];exact rT (t3++[.d h3]) hcx
   have q2:=dO h2;have e:=Eq.refl (sO a0 a1);(conv at e=>rhs;simp only [sO,h0,h1,h2,aQ]);rw [e];exact rT (t2++[.d h2]) hcx
  have q1:=bne_eq_false_iff_eq.1 h1;have e:=Eq.refl (sO a0 a1);(conv at e=>rhs;simp only [sO,h0,h1,aQ]);rw [e];exact rT (t1++[.d h1]) hcx
 have q0:=bne_eq_false_iff_eq.1 h0;have e:=Eq.refl (sO a0 a1);(conv at e=>rhs;simp only [sO,h0,aQ]);rw [e];exact rT [.d h0] hcx
def fJ (x:(Zt×Zt×Zt)×Int):List SV:=[(iv x.1.1.1),(iv x.1.1.2.1),(iv x.1.1.2.2),(iv x.1.2.1.1),(iv x.1.2.1.2.1),(iv x.1.2.1.2.2),(iv x.1.2.2.1),(iv x.1.2.2.2.1),(iv x.1.2.2.2.2),(iv x.2)]
theorem kE (x:(Zt×Zt×Zt)×Int):(fJ x).length=10:=rfl
noncomputable def aA0:=bC [1,1,0,1] [] (aX Tryz.f38) []
def aCp (a0:cC)(v1:Int):LS:=⟨jT 26 [(9,(.s 0 0 a0.length 10)),(10,(iv (a0.length:Int))),(11,(iv v1))],[(.live false true (flat fJ a0))]⟩
def fX (a0:cC):Int->(Int)⊕(Int) | v1 => (bif (decide ((v1:Int) < (a0.length:Int)))then(bif (((F75 (a0.getD (tN v1) dF).1):Int) != 0)then(.inr (F75 (a0.getD (tN v1) dF).1))else(bif (!(F41 (a0.getD (tN v1) dF).2 (-100) 100))then(.inr 1)else(.inl (v1+1))))else(.inr 0))
theorem aT2 (a0:cC)(l0:a0.length<=2^63-1) {cx:Cx} (hcx:cx.base=1):∀(n:Nat) (v1:Int),0<=v1->tN ((a0.length:Int) - v1) < n->gG Tryz.f38 cx (iv (aE (fX a0) n v1)) [] [] (.l aA0.1 n::aA0.2) (aCp a0 v1):=by
 intro n
 induction n with|zero=>intro v1 hi hn;exact absurd hn (fW _)|succ n ih=>?_
 intro v1 hi hn;refine aS ?_;cases h0:(decide ((v1:Int) < (a0.length:Int)))
 case true=>
  have q0:=dE h0;let t1:SL:=[.d h0,.i v1 (a0.length),.L kE a0 v1 0 10,.c [] (C75 (a0.getD (tN v1) dF).1)];cases h1:(((F75 (a0.getD (tN v1) dF).1):Int) != 0)
  case true=>have q1:=bne_iff_ne.1 h1;have e:=Eq.refl (fX a0 v1);(conv at e=>rhs;simp only [fX,h0,h1,aQ]);rw [aJ,e];exact rT (t1++[.d h1]) hcx
  have q1:=bne_eq_false_iff_eq.1 h1;let t2:SL:=t1++[.d h1,.c [] (C41 (a0.getD (tN v1) dF).2 (-100) 100)];cases h2:(!(F41 (a0.getD (tN v1) dF).2 (-100) 100))
  case true=>have e:=Eq.refl (fX a0 v1);(conv at e=>rhs;simp only [fX,h0,h1,h2,aQ]);rw [aJ,e];exact rT (t2++[.d h2]) hcx
  have e:=Eq.refl (fX a0 v1);(conv at e=>rhs;simp only [fX,h0,h1,h2,aQ]);rw [aD e];refine bA n (t2++[.d h2]) [9,10,11] [] hcx aA0 (aCp a0 (W (v1+1))) ?_;have z0:(W (v1+1))=(v1+1):=aG (by omega) (by omega);rw [z0];exact ih _ (by omega) (by omega)
 have q0:=dO h0;have e:=Eq.refl (fX a0 v1);(conv at e=>rhs;simp only [fX,h0,aQ]);rw [aJ,e];exact rT [.d h0] hcx
def gL (a0:cC):Int := (bif (decide (((a0.length:Int):Int) > 96))then 4 else(aE (fX a0) (tN ((a0.length:Int) - 0)+1) 0))
theorem aMe (a0:cC)(l0:a0.length<=2^63-1):Con Tryz.prog 38 [(.s 0 0 a0.length 10)] [(.live false true (flat fJ a0))] (iv (gL a0)) []:=by
 refine cS Tryz.func38 fun cx hcx=>?_
 cases h0:(decide (((a0.length:Int):Int) > 96))
 case true=>have q0:=dE h0;have e:=Eq.refl (gL a0);(conv at e=>rhs;simp only [gL,h0,aQ]);rw [e];exact rT [.d h0] hcx
 have q0:=dO h0;have e:=Eq.refl (gL a0);(conv at e=>rhs;simp only [gL,h0,aQ]);rw [e];refine eN [.d h0] [9,10,11] [] hcx aA0 (aCp a0 0) (tN ((a0.length:Int) - 0)+1) ?_;exact aT2 a0 l0 hcx (tN ((a0.length:Int) - 0)+1) 0 (by omega) (by omega)
def c3 (x:Int):List SV:=[(iv x)]
theorem aB (x:Int):(c3 x).length=1:=rfl
def aT3 (a0 a1:Zt):Zt := ((W (a0.1 - a1.1)),(W (a0.2.1 - a1.2.1)),(W (a0.2.2 - a1.2.2)))
def aZl (a0 a1:Zt):Zt := ((W ((W (a0.2.1*a1.2.2)) - (W (a0.2.2*a1.2.1)))),(W ((W (a0.2.2*a1.1)) - (W (a0.1*a1.2.2)))),(W ((W (a0.1*a1.2.1)) - (W (a0.2.1*a1.1)))))
def F83 (a0:Zt×Zt×Zt):Zt := (aZl (aT3 a0.2.1 a0.1) (aT3 a0.2.2 a0.1))
def aP8 (a0 a1 a2:Int):Bool := (bif (decide ((a0:Int)≥a1))then(decide ((a0:Int)<=a2))else false)
def F82 (a0:Zt)(a1:Int):Bool := (bif (aP8 a0.1 (W (0 - a1)) a1)then(bif (aP8 a0.2.1 (W (0 - a1)) a1)then(aP8 a0.2.2 (W (0 - a1)) a1)else false)else false)
def F45 (a0:Zt×Zt×Zt):Int := (bif (!(F82 a0.1 64))then 1 else(bif (!(F82 a0.2.1 64))then 1 else(bif (!(F82 a0.2.2 64))then 1 else(bif ((((F83 a0).1:Int) == 0)&&((((F83 a0).2.1:Int) == 0)&&((((F83 a0).2.2:Int) == 0)&&true)))then 6 else 0))))
def F46 (a0 a1 a2:Int):Bool := (bif (decide ((a0:Int)≥a1))then(decide ((a0:Int)<=a2))else false)
def aF8 (a0:cC):Int->(Int)⊕(Int) | v1 => (bif (decide ((v1:Int) < (a0.length:Int)))then(bif (((F45 (a0.getD (tN v1) dF).1):Int) != 0)then(.inr (F45 (a0.getD (tN v1) dF).1))else(bif (!(F46 (a0.getD (tN v1) dF).2 (-100) 100))then(.inr 1)else(.inl (v1+1))))else(.inr 0))
def oL (a0:cC):Int := (bif (decide (((a0.length:Int):Int) > 96))then 4 else(aE (aF8 a0) (tN ((a0.length:Int) - 0)+1) 0))
theorem aY4 {n a b:Int} (ha:0<=a)(hb:0<=b)(h1:a*a<=n)(h2:n < (a+1)*(a+1))(h3:b*b<=n)(h4:n < (b+1)*(b+1)):a=b:=by
 rcases Int.lt_trichotomy a b with h | h | h
 ·have:(a+1)*(a+1)<=b*b:=Int.mul_le_mul (by omega) (by omega) (by omega) hb;omega
 ·exact h
 ·have:(b+1)*(b+1)<=a*a:=Int.mul_le_mul (by omega) (by omega) (by omega) ha;omega
def IsRt (n r:Int):Prop:=0<=r/\r*r<=n/\n < (r+1)*(r+1)
theorem IsRt.le {n r m:Int} (h:IsRt n r)(hm:0<=m)(hn:n < (m+1)*(m+1)):r<=m:=by
 rcases Int.lt_or_le m r with hlt | hle
 ·have:(m+1)*(m+1)<=r*r:=Int.mul_le_mul (by omega) (by omega) (by omega) h.1;have:=h.2.1;omega
 ·exact hle
theorem IsRt.ge {n r m:Int} (h:IsRt n r)(hm:0<=m)(hn:m*m<=n):m<=r:=by
 rcases Int.lt_or_le r m with hlt | hle
 ·have:(r+1)*(r+1)<=m*m:=Int.mul_le_mul (by omega) (by omega) (by have:=h.1;omega) hm;have:=h.2.2;omega
 ·exact hle
theorem IsRt.mono {n m a b:Int} (h:IsRt n a)(h':IsRt m b)(hnm:n<=m):a<=b:=h'.ge h.1 (Int.le_trans h.2.1 hnm)
theorem aOq {n:Int} {S:Zs->Zs⊕Int} (hS:∀k b,0<=k->0 < b->k+b<=2147483648->S (k,b)=if(k+b)*(k+b)<=n then .inl (k+b,b / 2) else .inl (k,b / 2))(h0:∀k,S (k,0)=.inr k) :
 ∀(j f:Nat) (k:Int),j+2<=f->0<=k->k+2*2 ^ j<=2147483648->k*k<=n->n < (k+2*2 ^ j)*(k+2*2 ^ j)->IsRt n (aE S f (k,2 ^ j)):=by
 intro j
 induction j with
 | zero =>
  intro f k hf hk hb h1 h2;obtain⟨f,rfl⟩:∃g,f=g+2:=⟨f - 2,by omega⟩;simp only [Int.pow_zero] at h2 hb ⊢;have hs:=hS k 1 hk (by omega) (by omega);by_cases hc:(k+1)*(k+1)<=n
  ·rw [if_pos hc] at hs;rw [aD hs,show((1:Int) / 2)=0 by omega,aM (h0 _)];refine⟨by omega,hc,?_⟩;rw [show k+1+1=k+2*1 by omega];exact h2
  ·rw [if_neg hc] at hs;rw [aD hs,show((1:Int) / 2)=0 by omega,aM (h0 _)];exact⟨hk,h1,by omega⟩
 | succ j ih =>
  intro f k hf hk hb h1 h2;obtain⟨f,rfl⟩:∃g,f=g+1:=⟨f - 1,by omega⟩;have hp:(0:Int) < 2 ^ j:=Int.pow_pos (by omega);rw [Int.pow_succ] at h2 hb ⊢;have hs:=hS k (2 ^ j*2) hk (by omega) (by omega);have hd:(2:Int) ^ j*2 / 2=2 ^ j:=Int.mul_ediv_cancel _ (by omega);rw [hd] at hs;by_cases hc:(k+2 ^ j*2)*(k+2 ^ j*2)<=n
  ·rw [if_pos hc] at hs;rw [aD hs];refine ih f _ (by omega) (by omega) (by omega) hc ?_;rw [show k+2 ^ j*2+2*2 ^ j=k+2*((2:Int) ^ j*2) by omega];exact h2
  ·rw [if_neg hc] at hs;rw [aD hs];refine ih f _ (by omega) hk (by omega) h1 ?_;rw [show k+2*(2:Int) ^ j=k+2 ^ j*2 by omega];omega
theorem aZm {a:Int} (h:0<=a)(h':a<=2147483648):0<=a*a/\a*a<=4611686018427387904:=⟨Int.mul_nonneg h h,Int.le_trans (Int.mul_le_mul h' h' h (by omega)) (by omega)⟩
theorem aKq {n:Int} (h0:0<=n)(h:n < 4611686018427387904):IsRt n (kI n):=by
 unfold kI;rw [show decide ((4611686018427387904:Int)<=n)=false by simpa using h];simp only [cond_false];refine aOq (n:=n) (fun k b hk hb hkb=>?_) (fun k=>?_) 30 _ 0 (by decide) (by omega) (by decide) (by omega) (by simpa using h)
 ·have h2:((b:Int) == 0)=false:=by rw [beq_eq_false_iff_ne];omega
  have hw:W (k+b)=k+b:=aG (by omega) (by omega);have hq:=aZm (a:=k+b) (by omega) hkb;have hw2:W ((k+b)*(k+b))=(k+b)*(k+b):=aG (by omega) (by omega);simp only [oJ,h2,cond_false,hw,hw2];by_cases hc:(k+b)*(k+b)<=n<;>simp [hc]
 ·simp [oJ]
abbrev P3:=Zt
abbrev PN:=P3×P3×P3
def bd (m:Int)(p:P3):Prop:=(-m<=p.1/\p.1<=m)/\(-m<=p.2.1/\p.2.1<=m)/\(-m<=p.2.2/\p.2.2<=m)
def bdP (m:Int)(p:PN):Prop:=bd m p.1/\bd m p.2.1/\bd m p.2.2
def sb (p q:P3):P3:=(p.1 - q.1,p.2.1 - q.2.1,p.2.2 - q.2.2)
def dt (p q:P3):Int:=p.1*q.1+p.2.1*q.2.1+p.2.2*q.2.2
def cr (p q:P3):P3:=(p.2.1*q.2.2 - p.2.2*q.2.1,p.2.2*q.1 - p.1*q.2.2,p.1*q.2.1 - p.2.1*q.1)
def nrm (p:PN):P3:=cr (sb p.2.1 p.1) (sb p.2.2 p.1)
theorem dN {a b x y:Int} (hx:-a<=x/\x<=a)(hy:-b<=y/\y<=b):-(a*b)<=x*y/\x*y<=a*b:=by
 have h1:=Int.mul_nonneg (show 0<=a - x by omega) (show 0<=b - y by omega);have h2:=Int.mul_nonneg (show 0<=a+x by omega) (show 0<=b+y by omega);have h3:=Int.mul_nonneg (show 0<=a - x by omega) (show 0<=b+y by omega);have h4:=Int.mul_nonneg (show 0<=a+x by omega) (show 0<=b - y by omega);rw [Int.sub_mul,Int.mul_sub,Int.mul_sub] at h1;rw [Int.add_mul,Int.mul_add,Int.mul_add] at h2;rw [Int.sub_mul,Int.mul_add,Int.mul_add] at h3;rw [Int.add_mul,Int.mul_sub,Int.mul_sub] at h4;omega
theorem aCq {a b:Int} {p q:P3} (hp:bd a p)(hq:bd b q):bd (a+b) (sb p q):=by
 unfold bd at *;simp only [sb];omega
theorem tG (x:Int):0<=x*x:=by
 rcases Int.le_total 0 x with h | h
 ·exact Int.mul_nonneg h h
 ·exact Int.mul_nonneg_of_nonpos_of_nonpos h h
theorem aF9 (p:P3):0<=dt p p:=by
 have:=tG p.1;have:=tG p.2.1;have:=tG p.2.2;simp only [dt];omega
theorem aXa {p:P3} (h:¬(p.1=0/\p.2.1=0/\p.2.2=0)):1<=dt p p:=by
 have:=tG p.1;have:=tG p.2.1;have:=tG p.2.2;have key:∀x:Int,x≠0->1<=x*x:=fun x hx=>by
  have h0:=tG x;have:x*x≠0:=Int.mul_ne_zero hx hx;omega
 simp only [dt];by_cases h1:p.1=0
 ·by_cases h2:p.2.1=0
  ·have:=key p.2.2 (fun h3=>h ⟨h1,h2,h3⟩);omega
  ·have:=key _ h2;omega
 ·have:=key _ h1;omega
theorem aZn {a:Int} {p q:P3} (hp:bd a p)(hq:bd a q):-(3*(a*a))<=dt p q/\dt p q<=3*(a*a):=by
 have:=dN hp.1 hq.1;have:=dN hp.2.1 hq.2.1;have:=dN hp.2.2 hq.2.2;simp only [dt];omega
theorem fsb {p q:P3} (hp:bd 100000 p)(hq:bd 100000 q):tE p q=sb p q:=by
 unfold bd at *;simp only [tE,sb];rw [aG (by omega) (by omega),aG (by omega) (by omega),aG (by omega) (by omega)]
theorem fdt {p q:P3} (hp:bd 1000000000 p)(hq:bd 1000000000 q):aAp p q=dt p q:=by
 have h1:=dN hp.1 hq.1;have h2:=dN hp.2.1 hq.2.1;have h3:=dN hp.2.2 hq.2.2;simp only [aAp,aCl,dt];rw [aG (n:=p.1*q.1) (by omega) (by omega),aG (n:=p.2.1*q.2.1) (by omega) (by omega),aG (n:=p.2.2*q.2.2) (by omega) (by omega),Int.zero_add,aG (n:=p.1*q.1) (by omega) (by omega),aG (n:=p.1*q.1+p.2.1*q.2.1) (by omega) (by omega),aG (by omega) (by omega)]
theorem rsb {p q:P3} (hp:bd 100000 p)(hq:bd 100000 q):aT3 p q=sb p q:=by
 unfold bd at *;simp only [aT3,sb];rw [aG (by omega) (by omega),aG (by omega) (by omega),aG (by omega) (by omega)]
theorem aZo {p q:P3} (hp:bd 1000000000 p)(hq:bd 1000000000 q) :
 ((W ((W (p.2.1*q.2.2)) - (W (p.2.2*q.2.1)))),(W ((W (p.2.2*q.1)) - (W (p.1*q.2.2)))),(W ((W (p.1*q.2.1)) - (W (p.2.1*q.1)))))=cr p q:=by
 have h1:=dN hp.2.1 hq.2.2;have h2:=dN hp.2.2 hq.2.1;have h3:=dN hp.2.2 hq.1;have h4:=dN hp.1 hq.2.2;have h5:=dN hp.1 hq.2.1;have h6:=dN hp.2.1 hq.1;simp only [cr];rw [aG (n:=p.2.1*q.2.2) (by omega) (by omega),aG (n:=p.2.2*q.2.1) (by omega) (by omega),aG (n:=p.2.2*q.1) (by omega) (by omega),aG (n:=p.1*q.2.2) (by omega) (by omega),aG (n:=p.1*q.2.1) (by omega) (by omega),aG (n:=p.2.1*q.1) (by omega) (by omega),
  aG (by omega) (by omega),aG (by omega) (by omega),aG (by omega) (by omega)]
theorem scr {p q:P3} (hp:bd 1000000000 p)(hq:bd 1000000000 q):aP4 p q=cr p q:=aZo hp hq
theorem rcr {p q:P3} (hp:bd 1000000000 p)(hq:bd 1000000000 q):aZl p q=cr p q:=aZo hp hq
theorem ssb {p q:P3} (hp:bd 100000 p)(hq:bd 100000 q):aF7 p q=sb p q:=by
 unfold bd at *;simp only [aF7,aP3,sb];rw [aG (n:=-1*q.1) (by omega) (by omega),aG (n:=-1*q.2.1) (by omega) (by omega),aG (n:=-1*q.2.2) (by omega) (by omega),aG (by omega) (by omega),aG (by omega) (by omega),aG (by omega) (by omega)];refine Prod.ext (by simp only;omega) (Prod.ext (by simp only;omega) (by simp only;omega))
theorem bd.mono {a b:Int} {p:P3} (h:bd a p)(hab:a<=b):bd b p:=by unfold bd at *;omega
theorem bdP.mono {a b:Int} {p:PN} (h:bdP a p)(hab:a<=b):bdP b p:=⟨h.1.mono hab,h.2.1.mono hab,h.2.2.mono hab⟩
theorem qX (n a b:Int):F41 n a b=decide (a<=n/\n<=b):=by
 unfold F41;by_cases h1:n≥a<;>by_cases h2:n<=b<;>simp [h1,h2]<;>omega
theorem wD (n a b:Int):aP8 n a b=decide (a<=n/\n<=b):=by
 unfold aP8;by_cases h1:n≥a<;>by_cases h2:n<=b<;>simp [h1,h2]<;>omega
theorem aGa (n a b:Int):aAo n a b=decide (a<=n/\n<=b):=by
 unfold aAo;by_cases h1:a<=n<;>by_cases h2:n<=b<;>simp [h1,h2]
theorem aXb {a b c d:Prop} [Decidable a] [Decidable b] [Decidable c] [Decidable d] (h:(a/\b/\c)↔d):(bif decide a then(bif decide b then decide c else false) else false)=decide d:=by
 by_cases h1:a
 ·by_cases h2:b
  ·rw [cL h1,cL h2,cond_true,cond_true];by_cases h3:c
   ·rw [cL h3,cL (h.1 ⟨h1,h2,h3⟩)]
   ·rw [cV h3,cV (fun hd=>h3 (h.2 hd).2.2)]
  ·rw [cL h1,cV h2,cond_true,cond_false,cV (fun hd=>h2 (h.2 hd).2.1)]
 ·rw [cV h1,cond_false,cV (fun hd=>h1 (h.2 hd).1)]
theorem eq3 (x y z a b:Int):(bif (((x:Int) == 0)&&(((y:Int) == 0)&&(((z:Int) == 0)&&true))) then a else b)=if x=0/\y=0/\z=0 then a else b:=by
 have key:∀t:Int,(t == 0)=decide (t=0):=fun t=>by
  by_cases h:t=0
  ·rw [cL h];simpa using h
  ·rw [cV h];simpa using h
 rw [key,key,key,Bool.and_true,←Bool.decide_and,←Bool.decide_and];by_cases h:x=0/\y=0/\z=0
 ·rw [if_pos h,cL h,cond_true]
 ·rw [if_neg h,cV h,cond_false]
open Classical in
theorem wE (p:P3):wA p 64=decide (bd 64 p):=by
 unfold wA;rw [aGa,aGa,aGa,aG (by omega) (by omega)];exact aXb (by unfold bd;omega)
open Classical in
theorem yW (p:P3):F82 p 64=decide (bd 64 p):=by
 unfold F82;rw [wD,wD,wD,aG (by omega) (by omega)];exact aXb (by unfold bd;omega)
open Classical in
noncomputable def vp (p:PN):Int:=if bdP 64 p then(if(nrm p).1=0/\(nrm p).2.1=0/\(nrm p).2.2=0 then 6 else 0) else 1
theorem aZp {p:PN} (h:bdP 64 p):aCk p=nrm p:=by
 have h1:=h.1.mono (show(64:Int)<=100000 by omega);have h2:=h.2.1.mono (show(64:Int)<=100000 by omega);have h3:=h.2.2.mono (show(64:Int)<=100000 by omega);unfold aCk nrm;rw [ssb h2 h1,ssb h3 h1];exact scr ((aCq h.2.1 h.1).mono (by omega)) ((aCq h.2.2 h.1).mono (by omega))
theorem aZq {p:PN} (h:bdP 64 p):F83 p=nrm p:=by
 have h1:=h.1.mono (show(64:Int)<=100000 by omega);have h2:=h.2.1.mono (show(64:Int)<=100000 by omega);have h3:=h.2.2.mono (show(64:Int)<=100000 by omega);unfold F83 nrm;rw [rsb h2 h1,rsb h3 h1];exact rcr ((aCq h.2.1 h.1).mono (by omega)) ((aCq h.2.2 h.1).mono (by omega))
theorem aT4 (p:PN):F75 p=vp p:=by
 unfold F75 vp;rw [wE,wE,wE];by_cases h1:bd 64 p.1
 ·by_cases h2:bd 64 p.2.1
  ·by_cases h3:bd 64 p.2.2
   ·have hb:bdP 64 p:=⟨h1,h2,h3⟩;rw [aZp hb,if_pos hb];rw [eq3];simp [h1,h2,h3]
   ·simp [h1,h2,h3,bdP]
  ·simp [h1,h2,bdP]
 ·simp [h1,bdP]
theorem bCe (p:PN):F45 p=vp p:=by
 unfold F45 vp;rw [yW,yW,yW];by_cases h1:bd 64 p.1
 ·by_cases h2:bd 64 p.2.1
  ·by_cases h3:bd 64 p.2.2
   ·have hb:bdP 64 p:=⟨h1,h2,h3⟩;rw [aZq hb,if_pos hb];rw [eq3];simp [h1,h2,h3]
   ·simp [h1,h2,h3,bdP]
  ·simp [h1,h2,bdP]
 ·simp [h1,bdP]
theorem aIr {p:PN} (h:vp p=0):bdP 64 p/\1<=dt (nrm p) (nrm p):=by
 unfold vp at h;split at h
 ·rename_i hb;split at h
  ·cases h
  ·rename_i hn;exact⟨hb,aXa hn⟩
 ·cases h
end Go.Proofs.YtlffahoikfahlaaGreat
namespace Go.Proofs.YtlffahoikfahlaaGreat
open Go.Proofs Go.Aw Go.RowKit
set_option maxRecDepth 100000
def uP (x:PN):List PN:=[q1 x,q2 x,q3 x,q4 x]
theorem nO {p:P3} (h:bd 100000 p):dZ p 2=(2*p.1,2*p.2.1,2*p.2.2):=by
 unfold bd at h;simp only [dZ];rw [aG (by omega) (by omega),aG (by omega) (by omega),aG (by omega) (by omega)]
theorem xG {p q:P3} (hp:bd 100000 p)(hq:bd 100000 q):jW p q=(p.1+q.1,p.2.1+q.2.1,p.2.2+q.2.2):=by
 unfold bd at hp hq;simp only [jW];rw [aG (by omega) (by omega),aG (by omega) (by omega),aG (by omega) (by omega)]
theorem aMf {m:Int} {x y:PN} (h:bdP m x)(hm:m<=100000)(hy:y∈uP x):bdP (2*m) y:=by
 have h1:=h.1.mono hm;have h2:=h.2.1.mono hm;have h3:=h.2.2.mono hm;unfold uP q1 q2 q3 q4 at hy;rw [xG h1 h2,xG h3 h1,xG h2 h3,nO h1,nO h2,nO h3] at hy;have ha:=h.1;have hb:=h.2.1;have hc:=h.2.2;unfold bd at ha hb hc;simp only [List.mem_cons,List.mem_nil_iff,or_false] at hy;unfold bdP bd;rcases hy with rfl | rfl | rfl | rfl<;>simp only<;>omega
theorem kO:∀(d:Nat) (p:PN),eL (d+1) p=(eL d p).flatMap uP
 | 0,p=>by simp [eL,uP]
 | d+1,p=>by
  rw [show eL (d+1+1) p=eL (d+1) (q1 p)++(eL (d+1) (q2 p)++(eL (d+1) (q3 p)++eL (d+1) (q4 p))) from rfl];rw [kO d (q1 p),kO d (q2 p),kO d (q3 p),kO d (q4 p)];simp only [eL,List.flatMap_append]
theorem aA1:∀(d:Nat) {m:Int} {p x:PN},bdP m p->m*2 ^ d<=100000->0<=m->x∈eL d p->bdP (m*2 ^ d) x
 | 0,m,p,x,h,_,_,hx=>by simp [eL] at hx;subst hx;simpa using h
 | d+1,m,p,x,h,hm,h0,hx=>by
  rw [kO,List.mem_flatMap] at hx;obtain⟨y,hy,hx⟩:=hx;have hp:(0:Int) < 2 ^ d:=Int.pow_pos (by omega);have hle:m*2 ^ d<=m*2 ^ (d+1):=Int.mul_le_mul_of_nonneg_left (by rw [Int.pow_succ];omega) h0;have:=aMf (aA1 d h (by omega) h0 hy) (by omega) hx;rw [Int.pow_succ,←Int.mul_assoc,Int.mul_comm];exact this
theorem bCf (a0:Zt×Zt×Zt)(a1:Int):Con Tryz.prog 128 [(.a (k9 a0)),(iv a1)] [] (.f 165 [(.p 0 0),(.p 1 0)]) [(.live true false (k9 a0)),(.live true false [(iv a1)])]:=by
 refine cS Tryz.func128 fun cx hcx=>?_
 exact rt [] [] [0,1] hcx (by kernel_rfl)
def dW (a0:Zt×Zt×Zt):Zt×Zt×Zt := a0
theorem aZr (a0:Zt×Zt×Zt):Con Tryz.prog 129 [(.a (k9 a0))] [] (.a (k9 (dW a0))) []:=by
 refine cS Tryz.func129 fun cx hcx=>?_
 have e:=Eq.refl (dW a0);(conv at e=>rhs;simp only [dW]);rw [e];exact rT [] hcx
def aEa (a0 a1 a2:Int):Zs := (aAq (a0,a1) a2).1
theorem bCg (a0 a1 a2:Int):Con Tryz.prog 132 [(iv a0),(iv a1),(iv a2)] [] (.a (k2 (aEa a0 a1 a2))) []:=by
 refine cS Tryz.func132 fun cx hcx=>?_
 have e:=Eq.refl (aEa a0 a1 a2);(conv at e=>rhs;simp only [aEa]);rw [e];exact rT [.c [] (bCd (a0,a1) a2)] hcx
noncomputable def aP9:Code:=match (dK [1,1,1,1,0,1,0] [] (Tryz.f78.body.getD .skip)).1 with
 | .rangeFunc _ _ a b=>a
 | _=>.skip
noncomputable def aQa:Code:=match (dK [1,1,1,1,0,1,0] [] (Tryz.f78.body.getD .skip)).1 with
 | .rangeFunc _ _ a b=>b
 | _=>.skip
noncomputable def aQb:List K:=(dK [1,1,1,1,0,1,0] [] (Tryz.f78.body.getD .skip)).2
def aCr (a0:Zt×Zt×Zt)(a1:Zt)(a2:Int):Zs->LS | (v1,v2)=>⟨[.u,.u,(iv a2),.u,.u,.u,.u,(.p 0 0),(.p 1 0),(.p 2 0),(.p 3 0),(.p 4 0),(.p 5 0),(.p 6 0),.u,.u,.u,.u,.u,.u,.u,.u,.u,.u,.u,.u,.u,.u,.u,(.f 165 [(.p 7 0),(.p 8 0)]),.u,.u,.u,.u,.u,.u,.u,.u,.u,.u,.u,.u,.u,.u,.u,.u,.u,.u,.u,.u,.u,.u,.u,.u,.u,.u,.u,.u,.u,.u,.u,.u,.u,.u,.u,.u,.u,.u,.u],[(.live true false [(.v (.func (.func 79) #[] #[]))]),(.live true false [(iv 0),(iv 0)]),(.live true false [(iv 0)]),(.live true false [(iv (W (1*2 ^ (min (tN a2) 64))))]),(.live true false [(.s 9 0 1 3)]),(.live true false [(iv v1)]),(.live true false [(iv v2)]),(.live true false (k9 a0)),(.live true false [(iv a2)]),(.live true false (k3 (dZ a1 (W (1*2 ^ (min (tN a2) 64))))))]⟩
def aIs (a0:Zt×Zt×Zt)(a1:Zt)(a2:Int):Zs->Zt×Zt×Zt->LS | (v1,v2),x=>⟨[.u,.u,.u,.u,.u,.u,.u,(.p 0 0),(.p 1 0),(.p 2 0),(.p 3 0),(.p 4 0),(.p 5 0),(.p 6 0),(.p 10 0),.u,.u,.u,.u,.u,.u,.u,.u,.u,.u,.u,.u,.u,.u,.u,.u,.u,.u,.u,.u,.u,.u,.u,.u,.u,.u,.u,.u,.u,.u,.u,.u,.u,.u,.u,.u,.u,.u,.u,.u,.u,.u,.u,.u,.u,.u,.u,.u,.u,.u,.u,.u,.u,.u],[(.live true false [(.v (.func (.func 79) #[] #[]))]),(.live true false [(iv 0),(iv 0)]),(.live true false [(iv 0)]),(.live true false [(iv (W (1*2 ^ (min (tN a2) 64))))]),(.live true false [(.s 9 0 1 3)]),(.live true false [(iv v1)]),(.live true false [(iv v2)]),(.live true false (k9 a0)),(.live true false [(iv a2)]),(.live true false (k3 (dZ a1 (W (1*2 ^ (min (tN a2) 64)))))),(.live true false (k9 x))]⟩
def yX (a0:Zt×Zt×Zt)(a1:Zt)(a2:Int)(r:Zs×Int):LS:=⟨[],[.dead,(.live true false [(iv r.1.1),(iv r.1.2)]),(.live true false [(iv r.2)]),.dead,.dead,.dead,.dead,.dead,.dead,.dead]⟩
def jO (a0:Zt×Zt×Zt)(a1:Zt)(a2:Int):Zs->Zt×Zt×Zt->Zs⊕(Zs×Int) | (v1,v2),x => (bif (((dR (dW x) (dZ a1 (W (1*2 ^ (min (tN a2) 64))))):Int) == 0)then(.inr ((0,0),10))else(.inl ((W (v1+(qK (fT ([(dW x).1,(dW x).2.1,(dW x).2.2]:List Zt) ([(dZ a1 (W (1*2 ^ (min (tN a2) 64))))]:List Zt)) (W (1*2 ^ (min (tN a2) 64)))).1.1)),(W (v2+(qK (dR (dW x) (dZ a1 (W (1*2 ^ (min (tN a2) 64))))) (W (1*2 ^ (min (tN a2) 64)))).1.2)))))
def aA2 (a0:Zt×Zt×Zt)(a1:Zt)(a2:Int):Zs->Zs×Int | (v1,v2) => ((aEa v1 v2 (W (1*2 ^ (min (tN (W (2*a2))) 64)))),0)
def pQ (a0:Zt×Zt×Zt)(a1:Zt)(a2:Int):Zs×Int := (aCf (aA2 a0 a1 a2) (nA (jO a0 a1 a2) (eL (tN a2) a0) (0,0)))
theorem aT5 (a0:Zt×Zt×Zt)(a1:Zt)(a2:Int)(ha:0<=a2/\a2<=3):Con Tryz.prog 78 [(.a (k9 a0)),(.a (k3 a1)),(iv a2),(.v (.func (.func 79) #[] #[]))] [] (.t [(.a (k2 (pQ a0 a1 a2).1)),(iv (pQ a0 a1 a2).2)]) []:=by
 have e:(pQ a0 a1 a2)=(aCf (aA2 a0 a1 a2) (nA (jO a0 a1 a2) (eL (tN a2) a0) (0,0))):=by simp only [pQ]
 rw [e];refine aIj (n:=9) Tryz.func78 rfl (ent Tryz.func78 (by kernel_rfl) rfl) (by show 4<=Tryz.f78.ntmps;decide) (by kernel_rfl) trivial (fun cx hcx=>?_);refine zR (T:=T0) hT hm (f:=5000) (orc:=[.call [] (.a (k3 (dZ a1 (W (1*2 ^ (min (tN a2) 64)))))) [],.call [] (.f 165 [(.p 0 0),(.p 1 0)]) [(.live true false (k9 a0)),(.live true false [(iv a2)])]]) [] [2,7,8,9,10,11,12,13,29] [2,3,4,5,7,8,9,10,11,6] hcx (x:=.rangeFunc (.tmp 29) #[30] aP9 aQa) (k':=aQb) (s':=aCr a0 a1 a2 (0,0))
  (obs:=[.pr (0<=(a2:Int)),.call 127 [(.a (k3 a1)),(iv (W (1*2 ^ (min (tN a2) 64))))] [] (.a (k3 (dZ a1 (W (1*2 ^ (min (tN a2) 64)))))) [],.call 128 [(.a (k9 a0)),(iv a2)] [] (.f 165 [(.p 0 0),(.p 1 0)]) [(.live true false (k9 a0)),(.live true false [(iv a2)])]]) (by kernel_rfl) ⟨(show 0<=(a2:Int) from by first | omega | (rw [aG]<;>omega) | exact jF _),(aTz a1 (W (1*2 ^ (min (tN a2) 64)))),(bCf a0 a2),trivial⟩ ?_
 refine aPw (xs:=eL (tN a2) a0) (enc:=aF5) (V:=Zs) (R':=(Zs×Int)) hcx rfl (by decide) [7,8] [(.p 0 0),(.p 1 0)] [(.live false false (k9 a0)),(.live false false [(iv a2)])] rfl rfl (aOp a0 a2 (by first | omega | exact pair_le h0)) (fun x=>SV.a (cP x)) aIo aWz 10 (Nb rfl) (dE (by kernel_rfl))
  (aCr a0 a1 a2) (0,0) rfl (fun⟨v1,v2⟩=>(by kernel_rfl)) (by kernel_rfl) (fun v v'=>(gM (gM (gM (gM (gM (gM (gM (gM (gM (gM aE8))))))))))) (fun⟨v1,v2⟩=>(by kernel_rfl)) (fun⟨v1,v2⟩=>(by kernel_rfl)) (fun⟨v1,v2⟩=>(Nat.le_of_ble_eq_true (by kernel_rfl)))
  (jO a0 a1 a2) (yX a0 a1 a2) (fun v r=>(jE (gM (gM (jE (jE (jE (jE (jE (jE (jE aE8))))))))))) (fun r=>(by kernel_rfl))
  (fun _ _=>True) trivial (aIs a0 a1 a2) (fun⟨v1,v2⟩ x=>(by kernel_rfl)) (fun⟨v1,v2⟩ x=>(by kernel_rfl)) (fun⟨v1,v2⟩ x=>(Nat.le_of_ble_eq_true (by kernel_rfl)))
  (fun cx' l i ⟨v1,v2⟩ x QA hcx' hx hinv hg=>aL7 (T:=T0) hT hm (f:=5000) (orc:=[]) [] [7,8,9,10,11,12,13,14] [10] hcx' (obs:=[]) (by kernel_rfl) trivial hg)
  (fun cx' l i ⟨v1,v2⟩ x QB hcx' hx hinv hb1 hb2=>?_) (fun cx' d ⟨v1,v2⟩ hh hv hinv=>?_) (fun cx' d r hh hv=>?_)
 ·show Aw.Good _ _ _ _ _ _ _ (aIs a0 a1 a2 (v1,v2) x);cases h0:(((dR (dW x) (dZ a1 (W (1*2 ^ (min (tN a2) 64))))):Int) == 0)
  case true=>
   have q0:=eq_of_beq h0;have e:jO a0 a1 a2 (v1,v2) x=(.inr ((0,0),10)):=by simp only [jO,h0,aQ]
   exact aTr (T:=T0) hT hm (f:=5000) (orc:=[.call [] (.a (k9 (dW x))) [],.call [11,9] (iv (dR (dW x) (dZ a1 (W (1*2 ^ (min (tN a2) 64)))))) [],.d true]) [.kill 0,.kill 3,.kill 4,.kill 5,.kill 6,.kill 7,.kill 8,.kill 9] [] [] hcx' (s':=⟨List.replicate 69 .u,(yX a0 a1 a2 ((0,0),10)).bk⟩)
    (obs:=[.call 129 [(.a (k9 x))] [] (.a (k9 (dW x))) [],.call 130 [(.s 0 0 3 3),(.s 1 0 1 3)] [(.live false false (k9 (dW x))),(.live false false (k3 (dZ a1 (W (1*2 ^ (min (tN a2) 64))))))] (iv (dR (dW x) (dZ a1 (W (1*2 ^ (min (tN a2) 64)))))) [],.eq (((dR (dW x) (dZ a1 (W (1*2 ^ (min (tN a2) 64))))):Int) == 0) true]) (by kernel_rfl) ⟨(aZr x),(aIp (dW x) (dZ a1 (W (1*2 ^ (min (tN a2) 64))))),h0,trivial⟩ (hb2 _ e)
  have q0:=ne_of_beq_false h0;have e:jO a0 a1 a2 (v1,v2) x=(.inl ((W (v1+(qK (fT ([(dW x).1,(dW x).2.1,(dW x).2.2]:List Zt) ([(dZ a1 (W (1*2 ^ (min (tN a2) 64))))]:List Zt)) (W (1*2 ^ (min (tN a2) 64)))).1.1)),(W (v2+(qK (dR (dW x) (dZ a1 (W (1*2 ^ (min (tN a2) 64))))) (W (1*2 ^ (min (tN a2) 64)))).1.2)))):=by simp only [jO,h0,aQ]
  refine aL7 (T:=T0) hT hm (f:=5000) (orc:=[.call [] (.a (k9 (dW x))) [],.call [11,9] (iv (dR (dW x) (dZ a1 (W (1*2 ^ (min (tN a2) 64)))))) [],.d false,.call [11,9] (iv (fT ([(dW x).1,(dW x).2.1,(dW x).2.2]:List Zt) ([(dZ a1 (W (1*2 ^ (min (tN a2) 64))))]:List Zt))) [],.call [] (.t [(.a (k2 (qK (fT ([(dW x).1,(dW x).2.1,(dW x).2.2]:List Zt) ([(dZ a1 (W (1*2 ^ (min (tN a2) 64))))]:List Zt)) (W (1*2 ^ (min (tN a2) 64)))).1)),(iv (qK (fT ([(dW x).1,(dW x).2.1,(dW x).2.2]:List Zt) ([(dZ a1 (W (1*2 ^ (min (tN a2) 64))))]:List Zt)) (W (1*2 ^ (min (tN a2) 64)))).2)]) [],.call [] (.t [(.a (k2 (qK (dR (dW x) (dZ a1 (W (1*2 ^ (min (tN a2) 64))))) (W (1*2 ^ (min (tN a2) 64)))).1)),(iv (qK (dR (dW x) (dZ a1 (W (1*2 ^ (min (tN a2) 64))))) (W (1*2 ^ (min (tN a2) 64)))).2)]) []]) [] [] [] hcx' (s':=⟨List.replicate 69 .u,[(.live true false [(.v (.func (.func 79) #[] #[]))]),(.live true false [(iv 0),(iv 0)]),(.live true false [(iv 0)]),(.live true false [(iv (W (1*2 ^ (min (tN a2) 64))))]),(.live true false [(.s 9 0 1 3)]),(.live true false [(iv (W (v1+(qK (fT ([(dW x).1,(dW x).2.1,(dW x).2.2]:List Zt) ([(dZ a1 (W (1*2 ^ (min (tN a2) 64))))]:List Zt)) (W (1*2 ^ (min (tN a2) 64)))).1.1)))]),(.live true false [(iv (W (v2+(qK (dR (dW x) (dZ a1 (W (1*2 ^ (min (tN a2) 64))))) (W (1*2 ^ (min (tN a2) 64)))).1.2)))]),(.live true false (k9 a0)),(.live true false [(iv a2)]),(.live true false (k3 (dZ a1 (W (1*2 ^ (min (tN a2) 64))))))]⟩)
   (obs:=[.call 129 [(.a (k9 x))] [] (.a (k9 (dW x))) [],.call 130 [(.s 0 0 3 3),(.s 1 0 1 3)] [(.live false false (k9 (dW x))),(.live false false (k3 (dZ a1 (W (1*2 ^ (min (tN a2) 64))))))] (iv (dR (dW x) (dZ a1 (W (1*2 ^ (min (tN a2) 64)))))) [],.eq (((dR (dW x) (dZ a1 (W (1*2 ^ (min (tN a2) 64))))):Int) == 0) false,.call 131 [(.s 0 0 3 3),(.s 1 0 1 3)] [(.live false false (k9 (dW x))),(.live false false (k3 (dZ a1 (W (1*2 ^ (min (tN a2) 64))))))] (iv (fT ([(dW x).1,(dW x).2.1,(dW x).2.2]:List Zt) ([(dZ a1 (W (1*2 ^ (min (tN a2) 64))))]:List Zt))) [],.call 79 [(iv (fT ([(dW x).1,(dW x).2.1,(dW x).2.2]:List Zt) ([(dZ a1 (W (1*2 ^ (min (tN a2) 64))))]:List Zt))),(iv (W (1*2 ^ (min (tN a2) 64))))] [] (.t [(.a (k2 (qK (fT ([(dW x).1,(dW x).2.1,(dW x).2.2]:List Zt) ([(dZ a1 (W (1*2 ^ (min (tN a2) 64))))]:List Zt)) (W (1*2 ^ (min (tN a2) 64)))).1)),(iv (qK (fT ([(dW x).1,(dW x).2.1,(dW x).2.2]:List Zt) ([(dZ a1 (W (1*2 ^ (min (tN a2) 64))))]:List Zt)) (W (1*2 ^ (min (tN a2) 64)))).2)]) [],.call 79 [(iv (dR (dW x) (dZ a1 (W (1*2 ^ (min (tN a2) 64)))))),(iv (W (1*2 ^ (min (tN a2) 64))))] [] (.t [(.a (k2 (qK (dR (dW x) (dZ a1 (W (1*2 ^ (min (tN a2) 64))))) (W (1*2 ^ (min (tN a2) 64)))).1)),(iv (qK (dR (dW x) (dZ a1 (W (1*2 ^ (min (tN a2) 64))))) (W (1*2 ^ (min (tN a2) 64)))).2)]) []]) (by kernel_rfl) ⟨(aZr x),(aIp (dW x) (dZ a1 (W (1*2 ^ (min (tN a2) 64))))),h0,(Con.flags (bs':=[(.live false false (k9 (dW x))),(.live false false (k3 (dZ a1 (W (1*2 ^ (min (tN a2) 64))))))]) (aP5 ([(dW x).1,(dW x).2.1,(dW x).2.2]:List Zt) ([(dZ a1 (W (1*2 ^ (min (tN a2) 64))))]:List Zt) (by(try simp only [Lt]);omega) (by(try simp only [Lt]);omega)) rfl ⟨vZ (fun _=>rfl),vZ (fun _=>rfl),trivial⟩),(C79 (fT ([(dW x).1,(dW x).2.1,(dW x).2.2]:List Zt) ([(dZ a1 (W (1*2 ^ (min (tN a2) 64))))]:List Zt)) (W (1*2 ^ (min (tN a2) 64)))),(C79 (dR (dW x) (dZ a1 (W (1*2 ^ (min (tN a2) 64))))) (W (1*2 ^ (min (tN a2) 64)))),trivial⟩ ?_
  exact hb1 _ e trivial
 ·rw [hv];show Aw.Good _ _ _ _ _ _ _ (aCr a0 a1 a2 (v1,v2));have e:aCf (aA2 a0 a1 a2) (Sum.inl (v1,v2))=((aEa v1 v2 (W (1*2 ^ (min (tN (W (2*a2))) 64)))),0):=by simp only [aCf,aA2]
  rw [e];exact aTs (T:=T0) hT hm (f:=5000) (orc:=[.call [] (.a (k2 (aEa v1 v2 (W (1*2 ^ (min (tN (W (2*a2))) 64)))))) []]) [] [] [] hh hcx
   (obs:=[.pr (0<=((W (2*a2)):Int)),.call 132 [(iv v1),(iv v2),(iv (W (1*2 ^ (min (tN (W (2*a2))) 64))))] [] (.a (k2 (aEa v1 v2 (W (1*2 ^ (min (tN (W (2*a2))) 64)))))) []]) (by kernel_rfl) ⟨(show 0<=((W (2*a2)):Int) from by first | omega | (rw [aG]<;>omega) | exact jF _),(bCg v1 v2 (W (1*2 ^ (min (tN (W (2*a2))) 64)))),trivial⟩
 ·rw [hv];exact aTt (T:=T0) hT [] [] [] (s':=⟨[.u,.u,(iv a2),.u,.u,.u,.u,(.p 0 0),(.p 1 0),(.p 2 0),(.p 3 0),(.p 4 0),(.p 5 0),(.p 6 0),.u,.u,.u,.u,.u,.u,.u,.u,.u,.u,.u,.u,.u,.u,.u,(.f 165 [(.p 7 0),(.p 8 0)]),.u,.u,.u,.u,.u,.u,.u,.u,.u,.u,.u,.u,.u,.u,.u,.u,.u,.u,.u,.u,.u,.u,.u,.u,.u,.u,.u,.u,.u,.u,.u,.u,.u,.u,.u,.u,.u,.u,.u],(yX a0 a1 a2 r).bk⟩) rfl hh hcx (by kernel_rfl)
def mx (a b:Int):Int:=if a < b then b else a
theorem tH {a b c:Int} (h:a<=c)(h':b<=c):mx a b<=c:=by unfold mx;split<;>assumption
theorem lN (a b:Int):a<=mx a b:=by unfold mx;split<;>omega
theorem wF (a b:Int):b<=mx a b:=by unfold mx;split<;>omega
def ds (p q:P3):Int:=dt (sb p q) (sb p q)
def fF (p q:P3):Int:=aAp (tE p q) (tE p q)
theorem aQc {p q:P3} (hp:bd 5000 p)(hq:bd 5000 q):fF p q=ds p q:=by
 unfold fF ds;rw [fsb (hp.mono (by omega)) (hq.mono (by omega))];exact fdt ((aCq hp hq).mono (by omega)) ((aCq hp hq).mono (by omega))
theorem aZs (c:PN)(x:P3):fT [c.1,c.2.1,c.2.2] [x]=mx (mx (mx 0 (fF c.1 x)) (fF c.2.1 x)) (fF c.2.2 x):=by
 rfl
def lo3 (a b c:Int):Int:=if c < (if b < (if a < a then a else a) then b else(if a < a then a else a)) then c else(if b < (if a < a then a else a) then b else(if a < a then a else a))
def hi3 (a b c:Int):Int:=if(if(if a < a then a else a) < b then b else(if a < a then a else a)) < c then c else(if(if a < a then a else a) < b then b else(if a < a then a else a))
theorem yY (a b c:Int):lo3 a b c<=a/\lo3 a b c<=b/\lo3 a b c<=c:=by
 unfold lo3;simp only [Int.lt_irrefl,if_false];split<;>split at *<;>omega
theorem yZ (a b c:Int):a<=hi3 a b c/\b<=hi3 a b c/\c<=hi3 a b c:=by
 unfold hi3;simp only [Int.lt_irrefl,if_false];split<;>split at *<;>omega
theorem aGb (a b c:Int):lo3 a b c=a\/lo3 a b c=b\/lo3 a b c=c:=by
 unfold lo3;simp only [Int.lt_irrefl,if_false];split<;>split at *<;>omega
theorem aGc (a b c:Int):hi3 a b c=a\/hi3 a b c=b\/hi3 a b c=c:=by
 unfold hi3;simp only [Int.lt_irrefl,if_false];split<;>split at *<;>omega
def gp (a b c d:Int):Int:=mx (mx 0 (c - b)) (a - d)
theorem aMg (a b c d:Int):0<=gp a b c d:=Int.le_trans (lN 0 _) (lN _ _)
def nr (a b c d:P3):Int:=gp a.1 b.1 c.1 d.1*gp a.1 b.1 c.1 d.1+gp a.2.1 b.2.1 c.2.1 d.2.1*gp a.2.1 b.2.1 c.2.1 d.2.1+gp a.2.2 b.2.2 c.2.2 d.2.2*gp a.2.2 b.2.2 c.2.2 d.2.2
def blo (c:PN):P3:=(lo3 c.1.1 c.2.1.1 c.2.2.1,lo3 c.1.2.1 c.2.1.2.1 c.2.2.2.1,lo3 c.1.2.2 c.2.1.2.2 c.2.2.2.2)
def bhi (c:PN):P3:=(hi3 c.1.1 c.2.1.1 c.2.2.1,hi3 c.1.2.1 c.2.1.2.1 c.2.2.2.1,hi3 c.1.2.2 c.2.1.2.2 c.2.2.2.2)
theorem aXc {m:Int} {c:PN} (h:bdP m c):bd m (blo c):=by
 have h1:=aGb c.1.1 c.2.1.1 c.2.2.1;have h2:=aGb c.1.2.1 c.2.1.2.1 c.2.2.2.1;have h3:=aGb c.1.2.2 c.2.1.2.2 c.2.2.2.2;have ha:=h.1;have hb:=h.2.1;have hc:=h.2.2;unfold bd at *;simp only [blo];omega
theorem aXd {m:Int} {c:PN} (h:bdP m c):bd m (bhi c):=by
 have h1:=aGc c.1.1 c.2.1.1 c.2.2.1;have h2:=aGc c.1.2.1 c.2.1.2.1 c.2.2.2.1;have h3:=aGc c.1.2.2 c.2.1.2.2 c.2.2.2.2;have ha:=h.1;have hb:=h.2.1;have hc:=h.2.2;unfold bd at *;simp only [bhi];omega
theorem bCh (c:PN):dQ c=(blo c,bhi c):=rfl
theorem bCi (x:P3):dM x=(x,x):=by
 have key:∀a:Int,(if a < a then a else a)=a:=fun a=>by split<;>rfl
 unfold dM;simp only [key]
theorem aQd {a b c d:Int} (ha:-5000<=a/\a<=5000)(hb:-5000<=b/\b<=5000)(hc:-5000<=c/\c<=5000)(hd:-5000<=d/\d<=5000):oI a b c d=gp a b c d:=by
 unfold oI;rw [aG (n:=c - b) (by omega) (by omega),aG (n:=a - d) (by omega) (by omega)];rfl
theorem aQe {a b c d:Int} (ha:-5000<=a/\a<=5000)(hb:-5000<=b/\b<=5000)(hc:-5000<=c/\c<=5000)(hd:-5000<=d/\d<=5000):0<=gp a b c d/\gp a b c d<=10000 :=
 ⟨aMg _ _ _ _,tH (tH (by omega) (by omega)) (by omega)⟩
theorem nrF {a b c d:P3} (ha:bd 5000 a)(hb:bd 5000 b)(hc:bd 5000 c)(hd:bd 5000 d) :
 aAp (oI a.1 b.1 c.1 d.1,oI a.2.1 b.2.1 c.2.1 d.2.1,oI a.2.2 b.2.2 c.2.2 d.2.2) (oI a.1 b.1 c.1 d.1,oI a.2.1 b.2.1 c.2.1 d.2.1,oI a.2.2 b.2.2 c.2.2 d.2.2)=nr a b c d:=by
 rw [aQd ha.1 hb.1 hc.1 hd.1,aQd ha.2.1 hb.2.1 hc.2.1 hd.2.1,aQd ha.2.2 hb.2.2 hc.2.2 hd.2.2];have h1:=aQe ha.1 hb.1 hc.1 hd.1;have h2:=aQe ha.2.1 hb.2.1 hc.2.1 hd.2.1;have h3:=aQe ha.2.2 hb.2.2 hc.2.2 hd.2.2;have hv:bd 1000000000 (gp a.1 b.1 c.1 d.1,gp a.2.1 b.2.1 c.2.1 d.2.1,gp a.2.2 b.2.2 c.2.2 d.2.2):=by unfold bd;simp only;omega
 rw [fdt hv hv];rfl
theorem aXe {c:PN} {x:P3} (hc:bdP 5000 c)(hx:bd 5000 x):dR c x=nr (blo c) (bhi c) x x:=by
 unfold dR;rw [bCh,bCi];exact nrF (aXc hc) (aXd hc) hx hx
open Classical in
theorem aXf (x:P3):F40 x=decide (bd 256 x):=by
 unfold F40;rw [qX,qX,qX];exact aXb (by unfold bd;omega)
open Classical in
noncomputable def ck (p:PN)(x:P3)(d:Int):Int:=if vp p=0 then(if bd 256 x/\(0<=d/\d<=3) then 0 else 1) else vp p
open Classical in
theorem aXg (v:Int)(a b:Prop) [Decidable a] [Decidable b]:(bif (v != 0) then v else(bif (!(decide a)) then 1 else(bif (!(decide b)) then(1:Int) else 0)))=if v=0 then(if a/\b then 0 else 1) else v:=by
 by_cases hv:v=0
 ·subst hv;by_cases ha:a<;>by_cases hb:b<;>simp [ha,hb]
 ·rw [bne_iff_ne.2 hv,cond_true,if_neg hv]
open Classical in
theorem aQf (p:PN)(x:P3)(d:Int):F77 p x d=ck p x d:=by
 unfold F77 ck;rw [aT4,aXf,qX];exact aXg _ _ _
theorem aMh {p:PN} {x:P3} {d:Int} (h:ck p x d=0):vp p=0/\bd 256 x/\0<=d/\d<=3:=by
 unfold ck at h;split at h
 ·rename_i h0;split at h
  ·rename_i h1;exact⟨h0,h1⟩
  ·cases h
 ·rename_i h0;exact absurd h h0
theorem aXh {p:PN} {x:P3} {d:Int} (h:((F77 p x d:Int) != 0)=false):vp p=0/\bd 256 x/\0<=d/\d<=3 :=
 aMh (by rw [←aQf];simpa using h)
theorem aXi {p:PN} {x:P3} {d:Int} (h:((F77 p x d:Int) != 0)=false):0<=d/\d<=3:=(aXh h).2.2
def zU (a0:Zt×Zt×Zt)(a1:Zt)(a2:Int):Zs×Int := (bif (((F77 a0 a1 a2):Int) != 0)then((0,0),(F77 a0 a1 a2))else((pQ a0 a1 a2).1,(pQ a0 a1 a2).2))
theorem C42 (a0:Zt×Zt×Zt)(a1:Zt)(a2:Int):Con Tryz.prog 42 [(.a (k9 a0)),(.a (k3 a1)),(iv a2)] [] (.t [(.a (k2 (zU a0 a1 a2).1)),(iv (zU a0 a1 a2).2)]) []:=by
 refine cS Tryz.func42 fun cx hcx=>?_
 let t0:SL:=[.c [] (C77 a0 a1 a2)];cases h0:(((F77 a0 a1 a2):Int) != 0)
 case true=>have q0:=bne_iff_ne.1 h0;have e:=Eq.refl (zU a0 a1 a2);(conv at e=>rhs;simp only [zU,h0,aQ]);rw [e];exact rT (t0++[.d h0]) hcx
 have q0:=bne_eq_false_iff_eq.1 h0;have e:=Eq.refl (zU a0 a1 a2);(conv at e=>rhs;simp only [zU,h0,aQ]);rw [e];exact rT (t0++[.d h0,.c [] (aT5 a0 a1 a2  (aXi h0))]) hcx
end Go.Proofs.YtlffahoikfahlaaGreat
namespace Go.Proofs.YtlffahoikfahlaaGreat
open Go.Proofs Go.Aw Go.RowKit
set_option maxRecDepth 100000
theorem aIt:∀(d:Nat) (p:PN),(eL d p).length=4 ^ d
 | 0,p=>rfl
 | d+1,p=>by
  rw [kO];have:∀l:List PN,(l.flatMap uP).length=4*l.length:=fun l=>by
   induction l with
   | nil=>rfl
   | cons x l ih=>rw [List.flatMap_cons,List.length_append,ih];show 4+_=_;simp only [List.length_cons];omega
  rw [this,aIt d p,Nat.pow_succ];omega
open Go.ChangeShapes Go.WideShapes Go.ChangeAt
def aIu (P:Program)(ok:TypeId->Bool)(n:Nat):List Field->Nat->Bool | [],o=>o == n | f::l,o=>f.offset == o&&ok f.type&&aIu P ok n l (o+P.cellsOf f.type)
def aCs (P:Program):Nat->TypeId->Bool
 | 0,_=>false
 | k+1,t=>match P.underlying t with
  | some (.int .i64)=>true
  | some (.struct fs)=>aIu P (aCs P k) (P.cellsOf t) fs.toList 0
  | some (.array n e)=>aCs P k e&&P.cellsOf t == n*P.cellsOf e
  | _=>false
section
variable {H : Type} {enc : TypeId × Value → H} {P : Program} {w : World} {base : Nat} {spare : Nat → Bool} {held : Bool}
theorem aFa {ok:TypeId->Bool} {n fuel:Nat} {cs:List Value}
 (hok:∀t cs x,ok t=true->DataW.trod enc P w base spare held fuel t cs=some x->x.2=[]/\∃ns:ZL,cs=ns.map (Value.int .i64)) (hn:cs.length=n) :
 ∀(l:List Field) (o:Nat) (ys:List (DataW H×List MemPlace)),aIu P ok n l o=true->ys.length=l.length ->
   (∀(j:Nat) (f:Field),l[j]? = some f->DataW.trod enc P w base spare held fuel f.type ((cs.drop f.offset).take (P.cellsOf f.type))=ys[j]?) ->
   (∀y∈ys,y.2=[])/\∃ns:ZL,cs.drop o=ns.map (Value.int .i64)
 | [],o,ys,hc,hl,_=>by
  have:ys=[]:=List.length_eq_zero_iff.1 hl;subst this;simp only [aIu,beq_iff_eq] at hc;exact⟨fun y hy=>by simp at hy,[],by rw [hc,←hn,List.drop_length];rfl⟩
 | f::l,o,ys,hc,hl,hf=>by
  cases ys with
  | nil=>simp at hl
  | cons y ys =>
   simp only [aIu,Bool.and_eq_true,beq_iff_eq] at hc;obtain⟨⟨h1,h2⟩,h3⟩:=hc;have g0:=hf 0 f rfl;rw [h1] at g0;obtain⟨e1,n1,e2⟩:=hok f.type _ y h2 g0;obtain⟨e3,n2,e4⟩:=aFa hok hn l _ ys h3 (by simpa using hl) (fun j g hg=>hf (j+1) g hg);refine⟨fun z hz=>?_,n1++n2,?_⟩
   ·rcases List.mem_cons.1 hz with rfl | hz
    ·exact e1
    ·exact e3 z hz
   ·rw [List.map_append,←e2,←e4,←List.drop_drop,List.take_append_drop]
theorem uI:∀(k:Nat) (t:TypeId) (fuel:Nat) (cs:List Value) (x:DataW H×List MemPlace),aCs P k t=true->DataW.trod enc P w base spare held fuel t cs=some x ->
 x.2=[]/\∃ns:ZL,cs=ns.map (Value.int .i64)
 | 0,_,_,_,_,h,_=>by simp [aCs] at h
 | k+1,t,fuel,cs,x,h,hx=>by
  unfold aCs at h;split at h
  ·rename_i ht;obtain⟨n,rfl,rfl,_⟩:=DataW.trod_int ht hx;exact⟨rfl,[n],rfl⟩
  ·rename_i fs ht;obtain⟨xs,m,rfl,rfl,hl,hlen,hf⟩:=DataW.trod_struct ht hx;obtain⟨e1,ns,e2⟩:=aFa (fun t cs x h hx=>uI k t m cs x h hx) hl fs.toList 0 xs h (by simpa using hlen) (fun j f hj=>hf j f (by simpa using hj));refine⟨?_,ns,by simpa using e2⟩;simp only
   induction xs with
   | nil=>rfl
   | cons y l _=>rw [List.flatMap_eq_nil_iff];exact e1
  ·rename_i n e ht;simp only [Bool.and_eq_true,beq_iff_eq] at h;obtain⟨xs,m,rfl,rfl,hl,hlen,hf⟩:=DataW.trod_array ht hx;have hi:∀i,i < n->∃y,xs[i]? = some y/\y.2=[]/\∃ns:ZL,(cs.drop (i*P.cellsOf e)).take (P.cellsOf e)=ns.map (Value.int .i64):=fun i hi=>by
    have h1:=hf i hi;have hil:i < xs.length:=by rw [hlen];exact hi
    rw [List.getElem?_eq_getElem hil] at h1;obtain⟨e1,e2⟩:=uI k e m _ _ h.1 h1;exact⟨_,List.getElem?_eq_getElem hil,e1,e2⟩
   refine⟨?_,?_⟩
   ·simp only;rw [List.flatMap_eq_nil_iff];intro y hy;obtain⟨i,hy⟩:=List.getElem?_of_mem hy;have hil:=(List.getElem?_eq_some_iff.1 hy).1;obtain⟨y',h1,h2,_⟩:=hi i (by rw [←hlen];exact hil);rw [h1] at hy;exact Option.some.inj hy▸h2
   ·have key:∀j,j<=n->∃ns:ZL,cs.drop ((n - j)*P.cellsOf e)=ns.map (Value.int .i64):=by
     intro j
     induction j with|zero=>intro _;exact⟨[],by rw [Nat.sub_zero,←h.2,←hl,List.drop_length];rfl⟩|succ j ih=>?_
     intro hj;obtain⟨n2,h2⟩:=ih (by omega);obtain⟨_,_,_,n1,h1⟩:=hi (n - (j+1)) (by omega);refine⟨n1++n2,?_⟩;rw [List.map_append,←h1,←h2,show(n - j)*P.cellsOf e=(n - (j+1))*P.cellsOf e+P.cellsOf e by rw [show n - j=(n - (j+1))+1 by omega,Nat.add_mul,Nat.one_mul],←List.drop_drop,List.take_append_drop]
    obtain⟨ns,hns⟩:=key n (Nat.le_refl _);exact⟨ns,by simpa using hns⟩
  ·cases h
theorem aFb {r:Reach} {b0:Nat} {t:TypeId} {fs:Array Field} {v:Value} {d:DataW H} {ps:List MemPlace} (ht:P.underlying t=some (.struct fs))(hf:aCs P 6 t=true)
 (hval:Value.okWide P w r b0 t v) (hd:DataW.Trod enc P w base spare held t v d ps) :
 ps=[]/\∃ns:ZL,v=.agg (ns.map (Value.int .i64)).toArray/\ns.length=P.cellsOf t:=by
 obtain⟨cs,rfl,hs⟩:=okWide_struct ht hval;obtain⟨fuel,hx⟩:=hd;obtain⟨e1,ns,e2⟩:=uI 6 t fuel _ _ hf hx;have e3:cs=(ns.map (Value.int .i64)).toArray:=by
  have:cs.toList=ns.map (Value.int .i64):=by simpa [Value.cells] using e2
  rw [←this]
 refine⟨e1,ns,by rw [e3],?_⟩;rw [←hs,e3];simp
end
theorem aGd {ρ:Env}:∀ns:ZL,Rels ρ (ns.map iv) (ns.map (Value.int .i64))
 | []=>trivial
 | n::l=>⟨rfl,aGd l⟩
theorem aMi {ρ:Env} (ns:ZL):Rel ρ (.a (ns.map iv)) (.agg (ns.map (Value.int .i64)).toArray):=⟨_,rfl,aGd ns⟩
theorem aKr {H:Type} {enc:TypeId×Value->H} {P:Program} {f:Func} {s:ChangeSpec} {apart fresh handsOn:Bool} {W W':World} {args:Array Value} {v:Value} {ds gs:List (DataW H)} {before:List MemPlace}
 (hW:DataW.Whole enc P f.params.toList s.vars apart W args.toList ds gs before) (hb:Below W.heap.size W W')
 (hres:∀(b:Nat) (sp:Nat->Bool) (hd:Bool),DataW.TrodAll enc P W' b sp hd f.resultTypes.toList (v.resultList f.resultTypes.size) (s.fn H (ds++gs)).results [])
 (hargs:DataW.TrodAll enc P W' 0 (fun b=>decide (b < W.heap.size)) true f.params.toList args.toList (s.fn H (ds++gs)).args before)
 (hvars:DataW.TrodVars enc P W' (fun b=>decide (b < W.heap.size)) s.vars (s.fn H (ds++gs)).vars []) :
 s.post enc P f apart fresh handsOn false W args v W' :=
 ⟨ds,gs,before,[],before,[],hW,hres _ _ _,hargs,hvars,hb.frame _,fun h=>by cases h⟩
theorem aGe {H:Type} {enc:TypeId×Value->H} {P:Program} {w:World} {base:Nat} {spare:Nat->Bool} {held:Bool} {t:TypeId} {ts:List TypeId} {v:Value} {vs:List Value} {d:DataW H} {ds:List (DataW H)} {p p':List MemPlace}
 (h:DataW.Trod enc P w base spare held t v d p) (h':DataW.TrodAll enc P w base spare held ts vs ds p'):DataW.TrodAll enc P w base spare held (t::ts) (v::vs) (d::ds) (p++p'):=⟨p,p',h,h',rfl⟩
theorem own:ownKnob Tryz.prog.godebug=none:=by kernel_rfl
theorem aGf:laidOutB Tryz.prog=true:=by kernel_rfl
end Go.Proofs.YtlffahoikfahlaaGreat
namespace Go.Proofs.YtlffahoikfahlaaGreat
open Go.Proofs Go.Aw Go.RowKit
set_option maxRecDepth 100000
def sc (d:Int):Int:=if d=0 then 1 else if d=1 then 2 else if d=2 then 4 else 8
theorem d4 {d:Int} (h:0<=d/\d<=3):d=0\/d=1\/d=2\/d=3:=by omega
theorem bCj {d:Int} (h:0<=d/\d<=3):W (1*2 ^ (min (tN d) 64))=sc d:=by
 rcases d4 h with rfl | rfl | rfl | rfl<;>kernel_rfl
theorem aZt {d:Int} (h:0<=d/\d<=3):W (1*2 ^ (min (tN (W (2*d))) 64))=sc d*sc d:=by
 rcases d4 h with rfl | rfl | rfl | rfl<;>kernel_rfl
theorem aT6 {d:Int} (h:0<=d/\d<=3)(p:PN):(((eL d.toNat p).length:Nat):Int)=sc d*sc d:=by
 rw [aIt];rcases d4 h with rfl | rfl | rfl | rfl<;>kernel_rfl
theorem vA (d:Int):sc d=1\/sc d=2\/sc d=4\/sc d=8:=by unfold sc;(repeat' split)<;>simp
theorem aVj (d:Int):1<=sc d/\sc d<=8:=by have:=vA d;omega
def tm (s:Int)(p:P3):P3:=(s*p.1,s*p.2.1,s*p.2.2)
theorem aVk {s m:Int} {p:P3} (hs:1<=s/\s<=8)(hm:0<=m)(hp:bd m p):bd (8*m) (tm s p):=by
 have h1:=dN (a:=8) (b:=m) (x:=s) (y:=p.1) (by omega) hp.1;have h2:=dN (a:=8) (b:=m) (x:=s) (y:=p.2.1) (by omega) hp.2.1;have h3:=dN (a:=8) (b:=m) (x:=s) (y:=p.2.2) (by omega) hp.2.2;exact⟨h1,h2,h3⟩
theorem bCk {s:Int} {p:P3} (hs:1<=s/\s<=8)(hp:bd 4096 p):((W (s*p.1)),(W (s*p.2.1)),(W (s*p.2.2)))=tm s p:=by
 have h:=aVk hs (by omega) hp;have h1:=h.1;have h2:=h.2.1;have h3:=h.2.2;simp only [tm] at h1 h2 h3;unfold tm;rw [aG (n:=s*p.1) (by omega) (by omega),aG (n:=s*p.2.1) (by omega) (by omega),aG (n:=s*p.2.2) (by omega) (by omega)]
theorem bCl {s:Int} {p:P3} (hs:1<=s/\s<=8)(hp:bd 4096 p):dZ p s=tm s p:=bCk hs hp
theorem aMj {a b:Int} (h1:-1099511627776<=a)(h2:a<=b)(h3:b<=1099511627776):rK a b=((a,b),0):=by
 unfold rK rU;rw [cL (show(a,b).1≥-1099511627776 from h1),cL (show(a,b).1<=(a,b).2 from h2),cL (show(a,b).2<=1099511627776 from h3)];rfl
noncomputable def inv (N n:Int):Zs := (kI (N / n),if kI (N / n)*kI (N / n)*n=N then kI (N / n)else kI (N / n)+1)
theorem aCt {N n:Int} (hN:0<=N)(hn:1<=n):0<=N / n/\N / n<=N/\(N / n)*n<=N:=by
 have h1:0<=N / n:=Int.ediv_nonneg hN (by omega);have h2:(N / n)*n<=N:=Int.ediv_mul_le N (by omega);have h3:(N / n)*1<=(N / n)*n:=Int.mul_le_mul_of_nonneg_left hn h1;omega
theorem qY {N n:Int} (hN:0<=N/\N<=288230376151711744)(hn:1<=n) :
 ∃k,kI (N / n)=k/\IsRt (N / n) k/\0<=k/\k<=536870912/\0<=k*k/\k*k<=N / n/\0<=k*k*n/\k*k*n<=N:=by
 obtain⟨h1,h2,h3⟩:=aCt hN.1 hn;have h:=aKq (n:=N / n) h1 (by omega);have h4:=h.le (m:=536870912) (by omega) (by omega);have h5:0<=kI (N / n)*kI (N / n):=Int.mul_nonneg h.1 h.1;exact⟨_,rfl,h,h.1,h4,h5,h.2.1,Int.mul_nonneg h5 (by omega),Int.le_trans (Int.mul_le_mul_of_nonneg_right h.2.1 (by omega)) h3⟩
theorem aVl {N n:Int} (hN:0<=N/\N<=288230376151711744)(hn:1<=n):aD9 N n=(inv N n,0):=by
 obtain⟨k,hk,_,k0,k1,k2,k3,k4,k5⟩:=qY hN hn;obtain⟨h1,h2,h3⟩:=aCt hN.1 hn;unfold aD9 inv;rw [Int.tdiv_eq_ediv_of_nonneg hN.1,aG (n:=N / n) (by omega) (by omega),hk,aG (n:=k*k) (by omega) (by omega),aG (n:=k*k*n) (by omega) (by omega),aG (n:=k+1) (by omega) (by omega),
  aMj (by omega) (Int.le_refl k) (by omega),aMj (by omega) (by omega) (by omega)]
 by_cases h:k*k*n=N
 ·rw [if_pos h,beq_iff_eq.2 h];rfl
 ·rw [if_neg h,beq_eq_false_iff_ne.2 h];rfl
theorem aXj {N n:Int} (hN:0<=N/\N<=288230376151711744)(hn:1<=n):0<=(inv N n).1/\(inv N n).1<=(inv N n).2/\(inv N n).2<=536870913:=by
 obtain⟨k,hk,_,k0,k1,_⟩:=qY hN hn;unfold inv;rw [hk];simp only;split<;>omega
theorem aQg {N n m:Int} (hN:0<=N/\N<=288230376151711744)(hn:1<=n)(hm:n<=m):(inv N m).1<=(inv N n).1:=by
 obtain⟨h1,h2,h3⟩:=aCt hN.1 hn;obtain⟨g1,g2,g3⟩:=aCt (n:=m) hN.1 (by omega);have h:N / m<=N / n:=by
  refine Int.le_ediv_of_mul_le (by omega) (Int.le_trans (Int.mul_le_mul_of_nonneg_left hm g1) g3)
 exact(aKq g1 (by omega)).mono (aKq h1 (by omega)) h
def NN (s:Int):Int:=s*s*1099511627776
theorem aCu {s:Int} (h:s=1\/s=2\/s=4\/s=8):0<=NN s/\NN s<=288230376151711744:=by rcases h with rfl | rfl | rfl | rfl<;>decide
noncomputable def qZ (s n:Int):Zs:=if n < 1 then(0,0) else inv (NN s) n
theorem aZu {s:Int} (h:s=1\/s=2\/s=4\/s=8):decide (s < 1)=false/\decide (s > 8)=false:=by
 rcases h with rfl | rfl | rfl | rfl<;>decide
theorem aVm {s n:Int} (hs:s=1\/s=2\/s=4\/s=8)(hn:n<=1000000000):(qK n s).1=qZ s n:=by
 obtain⟨e1,e2⟩:=aZu hs;unfold qK qZ;by_cases h:n < 1
 ·rw [cL h,cond_true,if_pos h]
 ·have e:W ((W (s*s))*2 ^ (min (tN 40) 64))=NN s:=by rcases hs with rfl | rfl | rfl | rfl<;>kernel_rfl
  rw [cV h,cond_false,cV (show ¬n > 1099511627776 by omega),cond_false,e1,cond_false,e2,cond_false,if_neg h,e,aVl (aCu hs) (by omega)]
structure OfOk (of:Int->Zs):Prop where
 lo:∀n,0<=(of n).1
 le:∀n,(of n).1<=(of n).2
 hi:∀n,(of n).2<=536870913
 mono:∀n m,1<=n->n<=m->(of m).1<=(of n).1
theorem wG {s:Int} (hs:s=1\/s=2\/s=4\/s=8):OfOk (qZ s):=by
 have hb:∀n,0<=(qZ s n).1/\(qZ s n).1<=(qZ s n).2/\(qZ s n).2<=536870913:=by
  intro n;unfold qZ;split
  ·simp
  ·exact aXj (aCu hs) (by omega)
 refine⟨fun n=>(hb n).1,fun n=>(hb n).2.1,fun n=>(hb n).2.2,fun n m h1 h2=>?_⟩;unfold qZ;rw [if_neg (by omega),if_neg (by omega)];exact aQg (aCu hs) h1 h2
def fa (c:PN)(x:P3):Int:=mx (mx (mx 0 (ds c.1 x)) (ds c.2.1 x)) (ds c.2.2 x)
def ne (c:PN)(x:P3):Int:=nr (blo c) (bhi c) x x
theorem bCm {c:PN} {x:P3} (hc:bdP 5000 c)(hx:bd 5000 x):fT [(dW c).1,(dW c).2.1,(dW c).2.2] [x]=fa c x:=by
 refine(aZs c x).trans ?_;rw [aQc hc.1 hx,aQc hc.2.1 hx,aQc hc.2.2 hx];rfl
theorem bCn {c:PN} {x:P3} (hc:bdP 5000 c)(hx:bd 5000 x):dR (dW c) x=ne c x:=aXe hc hx
theorem aQh {p q:P3} (hp:bd 5000 p)(hq:bd 5000 q):0<=ds p q/\ds p q<=300000000:=by
 have h:=aCq hp hq;have:=aZn h h;exact⟨aF9 _,by unfold ds;omega⟩
theorem aZv {c:PN} {x:P3} (hc:bdP 5000 c)(hx:bd 5000 x):0<=fa c x/\fa c x<=300000000 :=
 ⟨Int.le_trans (lN 0 _) (Int.le_trans (lN _ _) (lN _ _)),tH (tH (tH (by omega) (aQh hc.1 hx).2) (aQh hc.2.1 hx).2) (aQh hc.2.2 hx).2⟩
theorem aZw {a b:Int} (ha:0<=a)(h:a<=b\/a<=-b):a*a<=b*b:=by
 rcases h with h | h
 ·exact Int.mul_le_mul h h ha (by omega)
 ·have:=Int.mul_le_mul h h ha (by omega)
  rwa [Int.neg_mul_neg] at this
theorem aFc {a b c x:Int} (h1:a<=c)(h2:c<=b):gp a b x x*gp a b x x<=(c - x)*(c - x):=by
 refine aZw (aMg _ _ _ _) ?_;unfold gp mx
 (repeat' split)<;>omega
theorem aZx (a b c d:P3):0<=nr a b c d:=by
 have h1:=tG (gp a.1 b.1 c.1 d.1);have h2:=tG (gp a.2.1 b.2.1 c.2.1 d.2.1);have h3:=tG (gp a.2.2 b.2.2 c.2.2 d.2.2);unfold nr;omega
theorem aMk (c:PN)(x:P3):0<=ne c x/\ne c x<=fa c x:=by
 refine⟨aZx _ _ _ _,Int.le_trans ?_ (Int.le_trans (wF _ _) (Int.le_trans (lN _ (ds c.2.1 x)) (lN _ (ds c.2.2 x))))⟩;have h1:=aFc (x:=x.1) (yY c.1.1 c.2.1.1 c.2.2.1).1 (yZ c.1.1 c.2.1.1 c.2.2.1).1;have h2:=aFc (x:=x.2.1) (yY c.1.2.1 c.2.1.2.1 c.2.2.2.1).1 (yZ c.1.2.1 c.2.1.2.1 c.2.2.2.1).1;have h3:=aFc (x:=x.2.2) (yY c.1.2.2 c.2.1.2.2 c.2.2.2.2).1 (yZ c.1.2.2 c.2.1.2.2 c.2.2.2.2).1;unfold ne nr ds dt sb;simp only [blo,bhi];omega
noncomputable def acc (of:Int->Zs)(x:P3):List PN->Zs->Zs⊕(Zs×Int) | [],v=>.inl v | c::l,v=>if ne c x=0 then .inr ((0,0),10)else acc of x l (v.1+(of (fa c x)).1,v.2+(of (ne c x)).2)
def okv (v:Zs)(n:Nat):Prop:=0<=v.1/\v.1<=v.2/\v.2+536870913*n<=34359738432
theorem aIv {of:Int->Zs} (ho:OfOk of) {c:PN} {x:P3} {v:Zs} {n:Nat} (h:okv v (n+1))(hn:ne c x≠0) :
 okv (v.1+(of (fa c x)).1,v.2+(of (ne c x)).2) n:=by
 have h0:=aMk c x;have h1:=ho.lo (fa c x);have h2:=ho.mono (ne c x) (fa c x) (by omega) h0.2;have h3:=ho.le (ne c x);have h4:=ho.hi (ne c x);unfold okv at *;simp only;omega
theorem aKs {of:Int->Zs} (ho:OfOk of) {x:P3}:∀{l:List PN} {v w:Zs},okv v l.length->acc of x l v=.inl w->okv w 0
 | [],v,w,h,e=>by cases e;exact h
 | c::l,v,w,h,e=>by
  unfold acc at e;split at e
  ·cases e
  ·rename_i hn;exact aKs ho (aIv ho h hn) e
theorem aIw {of:Int->Zs} (ho:OfOk of) {x:P3} {S:Zs->PN->Zs⊕(Zs×Int)} :
 ∀{l:List PN} {v:Zs},(∀c∈l,∀v:Zs,S v c=if ne c x=0 then .inr ((0,0),10) else .inl (W (v.1+(of (fa c x)).1),W (v.2+(of (ne c x)).2)))->okv v l.length->nA S l v=acc of x l v
 | [],v,_,_=>rfl
 | c::l,v,hS,h=>by
  have h0:=hS c (List.mem_cons_self) v;unfold nA acc;rw [h0];by_cases hn:ne c x=0
  ·rw [if_pos hn,if_pos hn]
  ·rw [if_neg hn,if_neg hn];have h1:=aIv ho h hn;have h2:=h1;unfold okv at h2;simp only at h2;simp only;rw [aG (by omega) (by omega),aG (by omega) (by omega)];exact aIw ho (fun c hc=>hS c (List.mem_cons_of_mem _ hc)) h1
theorem aZy {a n:Int} (hn:n=1\/n=4\/n=16\/n=64)(ha:-1099511627776<=a/\a<=1099511627776):yV a n=a / n:=by
 unfold yV;have h0:∀b:Int,decide (n < 0)=false:=fun _=>cV (by omega)
 rw [h0 0];have key:(bif ((mD a n:Int) != 0) then(bif (!(decide (a < 0) == false)) then W (W (tD a n) - 1) else W (tD a n)) else W (tD a n))=if mD a n≠0/\a < 0 then W (W (tD a n) - 1) else W (tD a n):=by
  by_cases h1:mD a n=0
  ·rw [h1];simp
  ·by_cases h2:a < 0
   ·rw [bne_iff_ne.2 h1,cL h2,if_pos ⟨h1,h2⟩];rfl
   ·rw [bne_iff_ne.2 h1,cV h2,if_neg (fun h=>h2 h.2)];rfl
 rw [key];rcases Int.lt_or_le a 0 with h | h
 ·obtain⟨b,rfl⟩:∃b:Int,a=-b:=⟨-a,by omega⟩;have hb:0<=b:=by omega
  rw [Int.neg_tdiv,Int.neg_tmod,Int.tdiv_eq_ediv_of_nonneg hb,Int.tmod_eq_emod_of_nonneg hb];rcases hn with rfl | rfl | rfl | rfl <;>
  ·rw [aG (n:=-(b / _)) (by omega) (by omega)];split
   ·rw [aG (by omega) (by omega)];omega
   ·omega
 ·rw [if_neg (by omega),Int.tdiv_eq_ediv_of_nonneg h];rcases hn with rfl | rfl | rfl | rfl<;>exact aG (by omega) (by omega)
theorem bCo {a n:Int} (hn:n=1\/n=4\/n=16\/n=64)(ha:-1099511627776<=a/\a<=1099511627776):aIq a n=-(-a / n):=by
 unfold aIq;rw [aG (n:=0 - a) (by omega) (by omega),aZy hn (by omega),Int.zero_sub];rcases hn with rfl | rfl | rfl | rfl<;>exact(aG (by omega) (by omega)).trans (by omega)
def avg (v:Zs)(n:Int):Zs:=(v.1 / n,-(-v.2 / n))
theorem aIx {a b:Int} (h1:-1099511627776<=a)(h2:a<=b)(h3:b<=1099511627776):rU (a,b)=true:=by
 unfold rU;rw [cL (show(a,b).1≥-1099511627776 from h1),cL (show(a,b).1<=(a,b).2 from h2),cL (show(a,b).2<=1099511627776 from h3)];rfl
theorem aZz {v:Zs} {n:Int} (hn:n=1\/n=4\/n=16\/n=64)(h:okv v 0):aEa v.1 v.2 n=avg v n:=by
 unfold okv at h;unfold aEa aAq mU;rw [aIx (by omega) (by omega) (by omega)];simp only [Bool.not_true,cond_false,bne_self_eq_false];rw [cV (show ¬n < 1 by omega),cV (show ¬n > 1099511627776 by omega),cond_false,cond_false,aZy hn (by omega),bCo hn (by omega)];have:v.1 / n<=-(-v.2 / n)/\-1099511627776<=v.1 / n/\-(-v.2 / n)<=1099511627776:=by
  rcases hn with rfl | rfl | rfl | rfl<;>omega
 rw [aMj this.2.1 this.1 this.2.2];rfl
theorem aCv (d:Int):sc d*sc d=1\/sc d*sc d=4\/sc d*sc d=16\/sc d*sc d=64:=by
 rcases vA d with h | h | h | h<;>rw [h]<;>decide
theorem aQi {of:Int->Zs} (ho:OfOk of) {x:P3} {l:List PN} {R:Type} {G G':Zs->R} {v:Zs} {w:Zs⊕R}
 (hv:okv v l.length) (hw:∀u,w=.inl u->acc of x l v=.inl u) (h:∀u,okv u 0->G u=G' u):aCf G w=aCf G' w:=by
 cases w with
 | inl u=>exact h u (aKs ho hv (hw u rfl))
 | inr r=>rfl
theorem aMl {p c:PN} {d:Int} (hp:bdP 64 p)(hd:0<=d/\d<=3)(hc:c∈eL d.toNat p):bdP 512 c:=by
 have key:∀k:Nat,k<=3->c∈eL k p->bdP 512 c:=by
  intro k hk hc;have:k=0\/k=1\/k=2\/k=3:=by omega
  rcases this with rfl | rfl | rfl | rfl<;>exact(aA1 (m:=64) _ hp (by decide) (by decide) hc).mono (by decide)
 exact key _ (by omega) hc
theorem aVn {p:PN} {d:Int} (hd:0<=d/\d<=3):okv (0,0) (eL d.toNat p).length:=by
 have h:=aT6 hd p;have h1:=aCv d;unfold okv;simp only;omega
noncomputable def xH (of:Int->Zs)(p:PN)(x:P3)(d:Int):Zs×Int := aCf (fun v=>(avg v (sc d*sc d),0)) (acc of (tm (sc d) x) (eL d.toNat p) (0,0))
section
variable {p : PN} {x : P3} {d : Int}
theorem aT7 (hp:bdP 64 p)(hx:bd 256 x)(hd:0<=d/\d<=3):pQ p x d=xH (qZ (sc d)) p x d:=by
 have hs:=aVj d;have hx':bd 5000 (tm (sc d) x):=(aVk hs (by omega) hx).mono (by omega);have ho:=wG (vA d);have hk:=aVn (p:=p) hd;unfold pQ xH;rw [aIw ho (x:=tm (sc d) x) (S:=jO p x d) (fun c hc v=>?_) hk]
 ·refine aQi ho hk (fun u h=>h) (fun u hu=>?_);show(aEa u.1 u.2 _,(0:Int))=_;rw [aZt hd,aZz (aCv d) hu]
 ·have hb:=(aMl hp hd hc).mono (show(512:Int)<=5000 by omega);obtain⟨v1,v2⟩:=v;simp only [jO];rw [bCj hd,bCl hs (hx.mono (by omega)),bCn hb hx',bCm hb hx'];have h1:=aZv hb hx';have h2:=aMk c (tm (sc d) x);rw [aVm (vA d) (by omega),aVm (vA d) (by omega)];by_cases h:ne c (tm (sc d) x)=0
  ·rw [if_pos h,beq_iff_eq.2 h,cond_true]
  ·rw [if_neg h,beq_eq_false_iff_ne.2 h,cond_false]
end
noncomputable def xI (of:Int->Int->Zs)(p:PN)(x:P3)(d:Int):Zs×Int:=if ck p x d=0 then xH (of (sc d)) p x d else((0,0),ck p x d)
theorem aXk (p:PN)(x:P3)(d:Int):zU p x d=xI qZ p x d:=by
 unfold zU xI;rw [aQf];by_cases h:ck p x d=0
 ·obtain⟨h1,h2,h3⟩:=aMh h;rw [h,aT7 (aIr h1).1 h2 h3];rfl
 ·rw [bne_iff_ne.2 h,if_neg h,cond_true]
end Go.Proofs.YtlffahoikfahlaaGreat
namespace Go.Proofs.YtlffahoikfahlaaGreat
open Go.Proofs Go.Aw Go.RowKit
set_option maxRecDepth 100000
def bDt (T r:Int):Prop:=0<=r/\T<=r*r/\(r=0\/(r - 1)*(r - 1) < T)
section
variable {p q : PN} {d : Int}
end
end Go.Proofs.YtlffahoikfahlaaGreat
namespace Go.Proofs.YtlffahoikfahlaaGreat
open Go.Proofs Go.Aw Go.RowKit
set_option maxRecDepth 100000
theorem aVo {a:Zs} (h:((mU a:Int) != 0)=false):-1099511627776<=a.1/\a.1<=a.2/\a.2<=1099511627776:=by
 have h:mU a=0:=by simpa using h
 unfold mU at h;cases h0:rU a
 case false=>rw [h0] at h;cases h
 unfold rU at h0;by_cases h1:a.1≥-1099511627776
 ·by_cases h2:a.1<=a.2
  ·rw [cL h1,cond_true,cL h2,cond_true] at h0;exact⟨h1,h2,dE h0⟩
  ·rw [cL h1,cond_true,cV h2,cond_false] at h0;cases h0
 ·rw [cV h1,cond_false] at h0;cases h0
def F80 (a0:Int):Bool := (bif (decide ((a0:Int)≥(-1099511627776)))then(decide ((a0:Int)<=1099511627776))else false)
theorem C80 (a0:Int):Con Tryz.prog 80 [(iv a0)] [] (.v (.bool (F80 a0))) []:=by
 refine cS Tryz.func80 fun cx hcx=>?_
 cases h0:(decide ((a0:Int)≥(-1099511627776)))
 case true=>have q0:=dE h0;have e:=Eq.refl (F80 a0);(conv at e=>rhs;simp only [F80,h0,aQ]);rw [e];exact rT [.d h0] hcx
 have q0:=dO h0;have e:=Eq.refl (F80 a0);(conv at e=>rhs;simp only [F80,h0,aQ]);rw [e];exact rT [.d h0] hcx
def wL (a0:Zs)(a1:Int):Zs×Int := (bif (((mU a0):Int) != 0)then((0,0),(mU a0))else(bif (!(F80 a1))then((0,0),1)else((rK (if((sO a0.2 a1):Int) < (sO a0.1 a1)then(sO a0.2 a1)else(sO a0.1 a1)) (if((sO a0.1 a1):Int) < (sO a0.2 a1)then(sO a0.2 a1)else(sO a0.1 a1))).1,(rK (if((sO a0.2 a1):Int) < (sO a0.1 a1)then(sO a0.2 a1)else(sO a0.1 a1)) (if((sO a0.1 a1):Int) < (sO a0.2 a1)then(sO a0.2 a1)else(sO a0.1 a1))).2)))
theorem C43 (a0:Zs)(a1:Int):Con Tryz.prog 43 [(.a [(iv a0.1),(iv a0.2)]),(iv a1)] [] (.t [(.a (k2 (wL a0 a1).1)),(iv (wL a0 a1).2)]) []:=by
 refine cS Tryz.func43 fun cx hcx=>?_
 let t0:SL:=[.c [2] (aVh a0)];cases h0:(((mU a0):Int) != 0)
 case true=>have q0:=bne_iff_ne.1 h0;have e:=Eq.refl (wL a0 a1);(conv at e=>rhs;simp only [wL,h0,aQ]);rw [e];exact rT (t0++[.d h0]) hcx
 have q0:=bne_eq_false_iff_eq.1 h0;let t1:SL:=t0++[.d h0,.c [] (C80 a1)];cases h1:(!(F80 a1))
 case true=>have e:=Eq.refl (wL a0 a1);(conv at e=>rhs;simp only [wL,h0,h1,aQ]);rw [e];exact rT (t1++[.d h1]) hcx
 have e:=Eq.refl (wL a0 a1);(conv at e=>rhs;simp only [wL,h0,h1,aQ]);rw [e];exact rT (t1++[.d h1,.c [] (C81 a0.1 a1  (by have:=aVo h0;omega)),.c [] (C81 a0.2 a1  (by have:=aVo h0;omega)),.c [] (C57 (if((sO a0.2 a1):Int) < (sO a0.1 a1) then(sO a0.2 a1) else(sO a0.1 a1)) (if((sO a0.1 a1):Int) < (sO a0.2 a1) then(sO a0.2 a1) else(sO a0.1 a1)))]) hcx
def dL (a0 a1:Int):Zs := ((iW .u64 ((iW .u64 ((iW .u64 ((fD a0 (2 ^ (min (tN 32) 64)))*(fD a1 (2 ^ (min (tN 32) 64)))))+(fD (iW .u64 ((iW .u64 ((fD a0 (2 ^ (min (tN 32) 64)))*(iW .u64 ((bO 64 a1 &&& bO 64 4294967295).toNat:Int))))+(fD (iW .u64 ((iW .u64 ((bO 64 a0 &&& bO 64 4294967295).toNat:Int))*(iW .u64 ((bO 64 a1 &&& bO 64 4294967295).toNat:Int)))) (2 ^ (min (tN 32) 64))))) (2 ^ (min (tN 32) 64)))))+(fD (iW .u64 ((iW .u64 ((bO 64 (iW .u64 ((iW .u64 ((fD a0 (2 ^ (min (tN 32) 64)))*(iW .u64 ((bO 64 a1 &&& bO 64 4294967295).toNat:Int))))+(fD (iW .u64 ((iW .u64 ((bO 64 a0 &&& bO 64 4294967295).toNat:Int))*(iW .u64 ((bO 64 a1 &&& bO 64 4294967295).toNat:Int)))) (2 ^ (min (tN 32) 64))))) &&& bO 64 4294967295).toNat:Int))+(iW .u64 ((iW .u64 ((bO 64 a0 &&& bO 64 4294967295).toNat:Int))*(fD a1 (2 ^ (min (tN 32) 64))))))) (2 ^ (min (tN 32) 64))))),(iW .u64 (a0*a1)))
theorem bCp (a0 a1:Int):Con Tryz.prog 118 [(.v (.int .u64 a0)),(.v (.int .u64 a1))] [] (.t [(.v (.int .u64 (dL a0 a1).1)),(.v (.int .u64 (dL a0 a1).2))]) []:=by
 refine cS Tryz.func118 fun cx hcx=>?_
 have e:=Eq.refl (dL a0 a1);(conv at e=>rhs;simp only [dL]);rw [e];exact rT [.p (show 0<=(32:Int) from by decide),.p (show 0<=(32:Int) from by decide),.p (show 0<=(32:Int) from by decide),.p (show 0<=(32:Int) from by decide),.p (show 0<=(32:Int) from by decide)] hcx
theorem xJ (n:Int):iW .u64 n=n % 18446744073709551616:=by
 simp [iW,IntKind.bits,IntKind.signed]
theorem aKt (a:Int):fD a (2 ^ (min (tN 32) 64))=a / 4294967296:=by
 rw [show(2:Int) ^ (min (tN 32) 64)=4294967296 from by kernel_rfl];exact Int.fdiv_eq_ediv_of_nonneg _ (by omega)
theorem aVp (a:Int):((bO 64 a &&& bO 64 4294967295).toNat:Int)=a % 4294967296:=by
 rw [BitVec.toNat_and,show(bO 64 4294967295).toNat=2 ^ 32 - 1 from by kernel_rfl,Nat.and_two_pow_sub_one_eq_mod,BitVec.toNat_ofInt];have h0:=Int.emod_nonneg a (show(18446744073709551616:Int)≠0 by omega);rw [show((2 ^ 64:Nat):Int)=18446744073709551616 from by kernel_rfl];have h1:(((a % 18446744073709551616).toNat:Nat):Int)=a % 18446744073709551616:=Int.toNat_of_nonneg h0;rw [Int.natCast_emod,h1];show a % 18446744073709551616 % 4294967296=_;omega
def sP (x n:Int):Int:=if 1099511627776 < x*n then 1099511627777 else if x*n < -1099511627776 then -1099511627777 else x*n
theorem aXl (x n:Int):(x*n=(if x < 0 then 0 - x else x)*(if n < 0 then 0 - n else n)/\((x < 0)=(n < 0)))\/(x*n=-((if x < 0 then 0 - x else x)*(if n < 0 then 0 - n else n))/\¬((x < 0)=(n < 0))):=by
 by_cases h1:x < 0
 ·by_cases h2:n < 0
  ·left;rw [if_pos h1,if_pos h2];exact⟨by grind,by simp [h1,h2]⟩
  ·right;rw [if_pos h1,if_neg h2];exact⟨by grind,by simp [h1,h2]⟩
 ·by_cases h2:n < 0
  ·right;rw [if_neg h1,if_pos h2];exact⟨by grind,by simp [h1,h2]⟩
  ·left;rw [if_neg h1,if_neg h2];exact⟨by grind,by simp [h1,h2]⟩
theorem aQj {x n:Int} (hx:-1099511627776<=x/\x<=1099511627776)(hn:-1099511627776<=n/\n<=1099511627776):sO x n=sP x n:=by
 have hm:=aXl x n;have ha:∀z:Int,(-1099511627776<=z/\z<=1099511627776)->(if(z:Int) < (W (0 - z)) then(W (0 - z)) else z)=if z < 0 then 0 - z else z:=by
  intro z hz;rw [aG (n:=0 - z) (by omega) (by omega)]
  (repeat' split)<;>omega
 unfold sO sP;rw [ha x hx,ha n hn];by_cases hx0:x=0
 ·subst hx0;simp [aG]
 by_cases hn0:n=0
 ·subst hn0;simp [aG]
 rw [bne_iff_ne.2 hx0,bne_iff_ne.2 hn0,cond_true,cond_true];have a1:1<=(if x < 0 then 0 - x else x)/\(if x < 0 then 0 - x else x)<=1099511627776:=by split<;>omega
 have a2:1<=(if n < 0 then 0 - n else n)/\(if n < 0 then 0 - n else n)<=1099511627776:=by split<;>omega
 have e:(!(decide (x < 0) == decide (n < 0)))=decide (x*n=-((if x < 0 then 0 - x else x)*(if n < 0 then 0 - n else n))/\¬((x < 0)=(n < 0))):=by
  by_cases h1:x < 0<;>by_cases h2:n < 0<;>simp [h1,h2] at hm ⊢<;>omega
 rw [e];generalize (if x < 0 then 0 - x else x)=ax at *;generalize (if n < 0 then 0 - n else n)=an at *;rw [Int.tdiv_eq_ediv_of_nonneg (by omega)];obtain⟨d1,d2,d3⟩:=aCt (N:=1099511627776) (n:=ax) (by omega) (by omega);have d4:=Int.mul_ediv_add_emod 1099511627776 ax;have d5:=Int.emod_lt_of_pos 1099511627776 (show 0 < ax by omega);rw [aG (n:=1099511627776 / ax) (by omega) (by omega)];have hbig:an > 1099511627776 / ax↔1099511627776 < ax*an:=by
  constructor
  ·intro h;have:=Int.mul_le_mul_of_nonneg_left (show 1099511627776 / ax+1<=an by omega) (show 0<=ax by omega);rw [Int.mul_add,Int.mul_one] at this;omega
  ·intro h;rcases Int.lt_or_le (1099511627776 / ax) an with h' | h'
   ·exact h'
   ·have:=Int.mul_le_mul_of_nonneg_left h' (show 0<=ax by omega);rw [Int.mul_comm] at d3;omega
 by_cases hb:an > 1099511627776 / ax
 ·rw [cL hb,cond_true];have:=hbig.1 hb;rcases hm with⟨qq1,qq2⟩ | ⟨qq1,qq2⟩
  ·rw [cV (fun h=>h.2 qq2),cond_false,qq1,if_pos (by omega)]
  ·rw [cL ⟨qq1,qq2⟩,cond_true,qq1,if_neg (by omega),if_pos (by omega)]
 ·rw [cV hb,cond_false];have h1:ax*an<=1099511627776:=by
   rcases Int.lt_or_le 1099511627776 (ax*an) with h | h
   ·exact absurd (hbig.2 h) hb
   ·exact h
  have h2:0<=ax*an:=Int.mul_nonneg (by omega) (by omega);rcases hm with⟨qq1,qq2⟩ | ⟨qq1,qq2⟩<;>rw [qq1,if_neg (by omega),if_neg (by omega)]<;>exact aG (by omega) (by omega)
theorem aQk {x y n:Int} (h:x<=y)(hn:0<=n):sP x n<=sP y n:=by
 have:=Int.mul_le_mul_of_nonneg_right h hn;unfold sP;(repeat' split)<;>omega
theorem aQl {x y n:Int} (h:x<=y)(hn:n<=0):sP y n<=sP x n:=by
 have:=Int.mul_le_mul_of_nonpos_right h hn;unfold sP;(repeat' split)<;>omega
def scl (a:Zs)(n:Int):Zs:=if n < 0 then(sP a.2 n,sP a.1 n) else(sP a.1 n,sP a.2 n)
def vs (a:Zs):Prop:=-1099511627776<=a.1/\a.1<=a.2/\a.2<=1099511627776
theorem aMm {a:Zs} {n:Int} (ha:vs a)(hn:-1099511627776<=n/\n<=1099511627776):wL a n=rK (scl a n).1 (scl a n).2:=by
 obtain⟨h1,h2,h3⟩:=ha;unfold wL mU F80;rw [aIx (a:=a.1) (b:=a.2) h1 h2 h3,cL (show n≥-1099511627776 from hn.1),cL hn.2,aQj (x:=a.1) (by omega) hn,aQj (x:=a.2) (by omega) hn];show((rK _ _).1,(rK _ _).2)=_;unfold scl;by_cases h:n < 0
 ·have:=aQl h2 (show n<=0 by omega);rw [if_pos h];simp only;rw [show(if(sP a.2 n:Int) < sP a.1 n then sP a.2 n else sP a.1 n)=sP a.2 n by split<;>omega,show(if(sP a.1 n:Int) < sP a.2 n then sP a.2 n else sP a.1 n)=sP a.1 n by split<;>omega]
 ·have:=aQk h2 (show 0<=n by omega);rw [if_neg h];simp only;rw [show(if(sP a.2 n:Int) < sP a.1 n then sP a.2 n else sP a.1 n)=sP a.1 n by split<;>omega,show(if(sP a.1 n:Int) < sP a.2 n then sP a.2 n else sP a.1 n)=sP a.2 n by split<;>omega]
theorem uJ (a b:Int):(rK a b=((a,b),0)/\vs (a,b))\/rK a b=((0,0),4):=by
 by_cases h:vs (a,b)
 ·exact Or.inl ⟨aMj h.1 h.2.1 h.2.2,h⟩
 ·right;unfold rK;have:rU (a,b)=false:=by
   unfold rU;by_cases h1:(a,b).1≥-1099511627776
   ·by_cases h2:(a,b).1<=(a,b).2
    ·rw [cL h1,cL h2,cond_true,cond_true];exact cV (fun h3=>h ⟨h1,h2,h3⟩)
    ·rw [cL h1,cV h2];rfl
   ·rw [cV h1];rfl
  rw [this];rfl
def ht (p:PN)(x:P3):Int:=dt (sb p.1 x) (cr (sb p.2.1 x) (sb p.2.2 x))
theorem aXm {v:Zs} {n:Int} (hn:n=1\/n=4\/n=16\/n=64)(h:okv v 0):vs (avg v n):=by
 unfold okv at h;unfold vs avg;simp only;rcases hn with rfl | rfl | rfl | rfl<;>omega
theorem aQm {of:Int->Zs} (ho:OfOk of) {p:PN} {x:P3} {d:Int} (hd:0<=d/\d<=3):((xH of p x d).2=0/\vs (xH of p x d).1)\/xH of p x d=((0,0),10):=by
 unfold xH;cases h:acc of (tm (sc d) x) (eL d.toNat p) (0,0) with
 | inl v=>exact Or.inl ⟨rfl,aXm (aCv d) (aKs ho (aVn hd) h)⟩
 | inr r =>
  right;have key:∀(l:List PN) (v:Zs) (r:Zs×Int),acc of (tm (sc d) x) l v=.inr r->r=((0,0),10):=by
   intro l
   induction l with
   | nil=>intro v r h;cases h
   | cons c l ih =>
    intro v r h;unfold acc at h;split at h
    ·cases h;rfl
    ·exact ih _ _ h
  exact key _ _ _ h
theorem aIy {p:PN} {x:P3} {d:Int} {of:Int->Int->Zs} (ho:∀s,s=1\/s=2\/s=4\/s=8->OfOk (of s))(h:(xI of p x d).2=0):ck p x d=0/\vs (xI of p x d).1:=by
 unfold xI at *;by_cases hc:ck p x d=0
 ·rw [if_pos hc] at *;refine⟨hc,?_⟩;rcases aQm (ho _ (vA d)) (p:=p) (x:=x) (aMh hc).2.2 with h1 | h1
  ·exact h1.2
  ·rw [h1] at h;cases h
 ·rw [if_neg hc] at h;exact absurd h hc
def zc (x:P3)(c:PN):Int:=if ne c x=0 then 1 else 0
theorem aKu {l:List PN} {g:PN->Int} (h:∀c,0<=g c):0<=(l.map g).sum:=by
 induction l with
 | nil=>simp
 | cons c l ih=>have:=h c;simp only [List.map_cons,List.sum_cons];omega
theorem aMn (of:Int->Zs)(x:P3):∀(l:List PN) (v:Zs),acc of x l v =
 if 0 < (l.map (zc x)).sum then .inr ((0,0),10) else .inl (v.1+(l.map fun c=>(of (fa c x)).1).sum,v.2+(l.map fun c=>(of (ne c x)).2).sum)
 | [],v=>by simp [acc]
 | c::l,v=>by
  have hn:∀c,0<=zc x c:=fun c=>by unfold zc;split<;>omega
  have h0:=aKu (l:=l) hn;unfold acc;rw [aMn of x l];simp only [List.map_cons,List.sum_cons];by_cases h:ne c x=0
  ·have e:zc x c=1:=by unfold zc;rw [if_pos h]
   rw [if_pos h,e,if_pos (by omega)]
  ·have e:zc x c=0:=by unfold zc;rw [if_neg h]
   rw [if_neg h,e,Int.zero_add];by_cases h':0 < (l.map (zc x)).sum
   ·rw [if_pos h',if_pos h']
   ·rw [if_neg h',if_neg h',Int.add_assoc,Int.add_assoc]
theorem sq2 (s t:Int):(s+t)*(s+t)<=2*(s*s)+2*(t*t):=by
 have:=tG (s - t);grind
def ad (p q:P3):P3:=(p.1+q.1,p.2.1+q.2.1,p.2.2+q.2.2)
theorem aQn (a b x:P3):ds (ad a b) (tm 2 x)<=2*ds a x+2*ds b x:=by
 have h1:=sq2 (a.1 - x.1) (b.1 - x.1);have h2:=sq2 (a.2.1 - x.2.1) (b.2.1 - x.2.1);have h3:=sq2 (a.2.2 - x.2.2) (b.2.2 - x.2.2);have e1:a.1+b.1 - 2*x.1=a.1 - x.1+(b.1 - x.1):=by omega
 have e2:a.2.1+b.2.1 - 2*x.2.1=a.2.1 - x.2.1+(b.2.1 - x.2.1):=by omega
 have e3:a.2.2+b.2.2 - 2*x.2.2=a.2.2 - x.2.2+(b.2.2 - x.2.2):=by omega
 unfold ds dt sb ad tm;simp only;rw [e1,e2,e3];omega
theorem aMo {c y:PN} (h:bdP 100000 c)(hy:y∈uP c):∃a1 b1 a2 b2 a3 b3:P3,(a1=c.1\/a1=c.2.1\/a1=c.2.2)/\(b1=c.1\/b1=c.2.1\/b1=c.2.2)/\(a2=c.1\/a2=c.2.1\/a2=c.2.2)/\(b2=c.1\/b2=c.2.1\/b2=c.2.2)/\(a3=c.1\/a3=c.2.1\/a3=c.2.2)/\(b3=c.1\/b3=c.2.1\/b3=c.2.2)/\y=(ad a1 b1,ad a2 b2,ad a3 b3):=by
 unfold uP q1 q2 q3 q4 at hy;rw [xG h.1 h.2.1,xG h.2.2 h.1,xG h.2.1 h.2.2,nO h.1,nO h.2.1,nO h.2.2] at hy;have e:∀p:P3,(2*p.1,2*p.2.1,2*p.2.2)=ad p p:=fun p=>by unfold ad;simp only [eZ];omega
 rw [e,e,e] at hy;simp only [List.mem_cons,List.mem_nil_iff,or_false] at hy;rcases hy with rfl | rfl | rfl | rfl
 ·exact⟨c.1,c.1,c.1,c.2.1,c.2.2,c.1,by simp,by simp,by simp,by simp,by simp,by simp,rfl⟩
 ·exact⟨c.1,c.2.1,c.2.1,c.2.1,c.2.1,c.2.2,by simp,by simp,by simp,by simp,by simp,by simp,rfl⟩
 ·exact⟨c.2.2,c.1,c.2.1,c.2.2,c.2.2,c.2.2,by simp,by simp,by simp,by simp,by simp,by simp,rfl⟩
 ·exact⟨c.1,c.2.1,c.2.1,c.2.2,c.2.2,c.1,by simp,by simp,by simp,by simp,by simp,by simp,rfl⟩
theorem zV (c:PN)(x a:P3)(h:a=c.1\/a=c.2.1\/a=c.2.2):ds a x<=fa c x:=by
 rcases h with rfl | rfl | rfl
 ·exact Int.le_trans (wF _ _) (Int.le_trans (lN _ _) (lN _ _))
 ·exact Int.le_trans (wF _ _) (lN _ _)
 ·exact wF _ _
theorem aT8 {c y:PN} {x:P3} (h:bdP 100000 c)(hy:y∈uP c):fa y (tm 2 x)<=4*fa c x:=by
 obtain⟨a1,b1,a2,b2,a3,b3,h1,k1,h2,k2,h3,k3,rfl⟩:=aMo h hy;have g1:=zV c x a1 h1;have g2:=zV c x b1 k1;have g3:=zV c x a2 h2;have g4:=zV c x b2 k2;have g5:=zV c x a3 h3;have g6:=zV c x b3 k3;have f1:=aQn a1 b1 x;have f2:=aQn a2 b2 x;have f3:=aQn a3 b3 x;have g0:0<=fa c x:=Int.le_trans (aF9 _) (zV c x c.1 (Or.inl rfl));exact tH (tH (tH (by omega) (by simp only;omega)) (by simp only;omega)) (by simp only;omega)
theorem in3 {c:PN} {a:P3} (h:a=c.1\/a=c.2.1\/a=c.2.2):(blo c).1<=a.1/\a.1<=(bhi c).1/\(blo c).2.1<=a.2.1/\a.2.1<=(bhi c).2.1/\(blo c).2.2<=a.2.2/\a.2.2<=(bhi c).2.2:=by
 have l1:=yY c.1.1 c.2.1.1 c.2.2.1;have l2:=yY c.1.2.1 c.2.1.2.1 c.2.2.2.1;have l3:=yY c.1.2.2 c.2.1.2.2 c.2.2.2.2;have m1:=yZ c.1.1 c.2.1.1 c.2.2.1;have m2:=yZ c.1.2.1 c.2.1.2.1 c.2.2.2.1;have m3:=yZ c.1.2.2 c.2.1.2.2 c.2.2.2.2;unfold blo bhi;rcases h with rfl | rfl | rfl
 ·exact⟨l1.1,m1.1,l2.1,m2.1,l3.1,m3.1⟩
 ·exact⟨l1.2.1,m1.2.1,l2.2.1,m2.2.1,l3.2.1,m3.2.1⟩
 ·exact⟨l1.2.2,m1.2.2,l2.2.2,m2.2.2,l3.2.2,m3.2.2⟩
theorem aKv {a b a' b' x:Int} (h1:2*a<=a')(h2:b'<=2*b):4*(gp a b x x*gp a b x x)<=gp a' b' (2*x) (2*x)*gp a' b' (2*x) (2*x):=by
 have h:2*gp a b x x<=gp a' b' (2*x) (2*x):=by
  unfold gp mx;(repeat' split)<;>omega
 have h0:=aMg a b x x;have:=Int.mul_le_mul h h (by omega) (aMg _ _ _ _);have e:2*gp a b x x*(2*gp a b x x)=4*(gp a b x x*gp a b x x):=by grind
 omega
theorem aT9 {c y:PN} {x:P3} (h:bdP 100000 c)(hy:y∈uP c):4*ne c x<=ne y (tm 2 x):=by
 obtain⟨a1,b1,a2,b2,a3,b3,h1,k1,h2,k2,h3,k3,rfl⟩:=aMo h hy;have i1:=in3 h1;have i2:=in3 k1;have i3:=in3 h2;have i4:=in3 k2;have i5:=in3 h3;have i6:=in3 k3;have key:∀u v w m:Int,m<=u->m<=v->m<=w->m<=lo3 u v w:=fun u v w m e1 e2 e3=>by rcases aGb u v w with e | e | e<;>rw [e]<;>assumption
 have key2:∀u v w m:Int,u<=m->v<=m->w<=m->hi3 u v w<=m:=fun u v w m e1 e2 e3=>by rcases aGc u v w with e | e | e<;>rw [e]<;>assumption
 have g1:=aKv (a:=(blo c).1) (b:=(bhi c).1) (x:=x.1) (key (a1.1+b1.1) (a2.1+b2.1) (a3.1+b3.1) _ (by omega) (by omega) (by omega)) (key2 (a1.1+b1.1) (a2.1+b2.1) (a3.1+b3.1) _ (by omega) (by omega) (by omega));have g2:=aKv (a:=(blo c).2.1) (b:=(bhi c).2.1) (x:=x.2.1) (key (a1.2.1+b1.2.1) (a2.2.1+b2.2.1) (a3.2.1+b3.2.1) _ (by omega) (by omega) (by omega)) (key2 (a1.2.1+b1.2.1) (a2.2.1+b2.2.1) (a3.2.1+b3.2.1) _ (by omega) (by omega) (by omega));have g3:=aKv (a:=(blo c).2.2) (b:=(bhi c).2.2) (x:=x.2.2) (key (a1.2.2+b1.2.2) (a2.2.2+b2.2.2) (a3.2.2+b3.2.2) _ (by omega) (by omega) (by omega)) (key2 (a1.2.2+b1.2.2) (a2.2.2+b2.2.2) (a3.2.2+b3.2.2) _ (by omega) (by omega) (by omega));show 4*(gp (blo c).1 (bhi c).1 x.1 x.1*gp (blo c).1 (bhi c).1 x.1 x.1+gp (blo c).2.1 (bhi c).2.1 x.2.1 x.2.1*gp (blo c).2.1 (bhi c).2.1 x.2.1 x.2.1+gp (blo c).2.2 (bhi c).2.2 x.2.2 x.2.2*gp (blo c).2.2 (bhi c).2.2 x.2.2 x.2.2)<=_;refine Int.le_trans ?_ (Int.add_le_add (Int.add_le_add g1 g2) g3);omega
theorem aQo {N n:Int} (hN:1<=N/\N<=288230376151711744)(hn:1<=n):1<=(inv N n).2/\N<=(inv N n).2*(inv N n).2*n/\((inv N n).2 - 1)*((inv N n).2 - 1)*n < N:=by
 obtain⟨k,hk,hr,k0,k1,k2,k3,k4,k5⟩:=qY (N:=N) ⟨by omega,hN.2⟩ hn;have h:=hr.2.2;have hm:=Int.mul_ediv_add_emod N n;have hm1:=Int.emod_lt_of_pos N (show 0 < n by omega);have h2:N < (k+1)*(k+1)*n:=by
  have:=Int.mul_le_mul_of_nonneg_right (show N / n+1<=(k+1)*(k+1) by omega) (show 0<=n by omega);rw [Int.add_mul,Int.one_mul,Int.mul_comm (N / n) n] at this;omega
 unfold inv;rw [hk];simp only;split
 ·rename_i he;have h1:1<=k:=by
   rcases Int.lt_or_le k 1 with h | h
   ·have:k=0:=by omega
    subst this;simp at he;omega
   ·exact h
  refine⟨h1,by omega,?_⟩;have e:(k - 1)*(k - 1)<=k*k - 1:=by
   have e1:(k - 1)*(k - 1)=k*k - 2*k+1:=by grind
   omega
  have e2:=Int.mul_le_mul_of_nonneg_right e (show 0<=n by omega);rw [show(k*k - 1)*n=k*k*n - n by rw [Int.sub_mul,Int.one_mul]] at e2;omega
 ·rename_i he;refine⟨by omega,by omega,?_⟩;rw [show k+1 - 1=k by omega];omega
def nP:List Zs->Zs->Zs | [],v=>v | a::l,v=>nP l (v.1+a.1,v.2+a.2)
theorem aGg:∀(l:List Zs) (v:Zs),nP l v=(v.1+(l.map (·.1)).sum,v.2+(l.map (·.2)).sum)
 | [],v=>by simp [nP]
 | a::l,v=>by rw [nP,aGg l];simp only [List.map_cons,List.sum_cons,Int.add_assoc]
section
variable {l : List Zs}
end
end Go.Proofs.YtlffahoikfahlaaGreat
namespace Go.Proofs.YtlffahoikfahlaaGreat
open Go.Proofs Go.Aw Go.RowKit
set_option maxRecDepth 100000
def F63 (a0:Int):Int := (if(a0:Int) < (W (0 - a0))then(W (0 - a0))else a0)
def F59 (a0:Zt)(a1:Int):Bool := (bif (decide (((F63 a0.1):Int)<=a1))then(bif (decide (((F63 a0.2.1):Int)<=a1))then(bif (decide (((F63 a0.2.2):Int)<=a1))then(bif (decide ((a0.1:Int)≥(W (0 - a1))))then(bif (decide ((a0.2.1:Int)≥(W (0 - a1))))then(decide ((a0.2.2:Int)≥(W (0 - a1))))else false)else false)else false)else false)else false)
def uQ (a0:Zt):Int := (W ((W ((W (a0.1*a0.1))+(W (a0.2.1*a0.2.1))))+(W (a0.2.2*a0.2.2))))
def F34 (a0 a1:Zt):Zt := ((W (a0.1 - a1.1)),(W (a0.2.1 - a1.2.1)),(W (a0.2.2 - a1.2.2)))
section
variable {n s t : Int}
end
end Go.Proofs.YtlffahoikfahlaaGreat
namespace Go.Proofs.YtlffahoikfahlaaGreat
open Go.Proofs Go.Aw Go.RowKit
set_option maxRecDepth 100000
open Go.ChangeShapes Go.WideShapes Go.ChangeAt
section
variable {H : Type} {enc : TypeId × Value → H} {P : Program} {w : World}
def aA3 (w:World)(es:Nat)(v:Value)(nss:List ZL):Prop := (∀ns∈nss,ns.length=es)/\nss.length<=2^63-1 /\ ((v=.slice none 0 0/\nss=[])\/∃b o cap,v=.slice (some ⟨b,o,none⟩) nss.length cap/\nss.length<=cap/\∀(i:Nat) (x:Value),((nss.flatten).map (Value.int .i64))[i]? = some x->w.cell? ⟨b,o+i,none⟩=some x)
theorem aCw {es b:Nat}:∀(nss:List ZL) (o:Nat),(∀(j:Nat) (ns:ZL),nss[j]? = some ns->ns.length=es/\∀(q:Nat) (x:Value),(ns.map (Value.int .i64))[q]? = some x->w.cell? ⟨b,o+j*es+q,none⟩=some x) ->
 ∀(i:Nat) (x:Value),((nss.flatten).map (Value.int .i64))[i]? = some x->w.cell? ⟨b,o+i,none⟩=some x
 | [],o,_,i,x,hi=>by simp at hi
 | ns::l,o,h,i,x,hi=>by
  obtain⟨h1,h2⟩:=h 0 ns rfl;rw [List.flatten_cons,List.map_append] at hi;by_cases hlt:i < ns.length
  ·rw [List.getElem?_append_left (by simpa using hlt)] at hi;have:=h2 i x hi;simpa using this
  ·rw [List.getElem?_append_right (by simpa using hlt)] at hi;have:=aCw l (o+es) (fun j ms hj=>⟨(h (j+1) ms hj).1,fun q y hq=>by
    have:=(h (j+1) ms hj).2 q y hq;rw [show o+es+j*es+q=o+(j+1)*es+q by rw [Nat.add_mul];omega];exact this⟩) (i - es) x (by simpa [h1] using hi)
   rw [show o+es+(i - es)=o+i by omega] at this;exact this
theorem aOr {r:Reach} {b0:Nat} {t e:TypeId} {es:Nat} {v:Value} {d:DataW H} {ps:List MemPlace} (ht:P.underlying t=some (.slice e))(hf:aCs P 6 e=true)(hes:P.cellsOf e=es)
 (hval:Value.okWide P w r b0 t v) (hd:DataW.Trod enc P w 0 (fun _=>true) true t v d ps):(∃nss,aA3 w es v nss)/\∀x∈ps,x.block < w.heap.size:=by
 obtain⟨fuel,hx⟩:=hd;refine⟨?_,DataW.trod_lt fuel t _ _ hx⟩;obtain⟨a,len,cap,rfl⟩:=okWide_slice ht hval;rcases Go.Deep.open_slice ht hx with⟨hc,_⟩ | ⟨a',len',cap',m,n,D,Pl,hc,hb,hl,hm,hmm,_,hall⟩
 ·simp only [Value.cells,List.cons.injEq,and_true] at hc;exact⟨[],fun ns h=>by simp at h,by simp,.inl ⟨hc,rfl⟩⟩
 ·simp only [Value.cells,List.cons.injEq,and_true,Value.slice.injEq] at hc;obtain⟨rfl,rfl,rfl⟩:=hc;simp only [Value.okWide,ht,Cell.okWide,Cell.ok,World.has] at hval;have hsp:a'.spot=none:=hval.2.2.2.1;obtain⟨b,o,sp⟩:=a';simp only at hsp;subst hsp;simp only [if_true] at hmm;obtain⟨N,hN⟩:=Go.Deep.choose_lt (α:=ZL) (p:=fun i ns=>ns.length=es/\∀(q:Nat) (x:Value),(ns.map (Value.int .i64))[q]? = some x->w.cell? ⟨b,o+i*es+q,none⟩=some x) (n:=len) (fun i hi=>by
   obtain⟨cs',h1,h2⟩:=hall i (by omega);obtain⟨_,ns,rfl⟩:=uI 6 e n cs' _ hf h2;obtain⟨_,hlen,hcell⟩:=World.cells?_some h1;rw [hes] at hlen hcell;refine⟨ns,by simpa using hlen,fun q x hq=>?_⟩;have hq':=(List.getElem?_eq_some_iff.1 hq).1;have:=hcell q (by omega);rw [Go.Aw.add_eq,Go.Aw.add_eq] at this;rw [this,hq])
  refine⟨(List.range len).map N,fun ns h=>?_,?_,.inr ⟨b,o,cap,?_,?_,?_⟩⟩
  ·obtain⟨i,hi,rfl⟩:=List.mem_map.1 h;exact(hN i (by simpa using hi)).1
  ·have:maxLen=9223372036854775807:=rfl;simp;omega
  ·simp
  ·simpa using hl
  ·refine aCw (es:=es) _ o (fun j ns hj=>?_);have hjl:=(List.getElem?_eq_some_iff.1 hj).1;simp only [List.length_map,List.length_range] at hjl;have:N j=ns:=by simpa [hjl] using hj
   subst this;exact hN j hjl
def pF (es:Nat):Value->Option (Nat×Nat×Nat) | .slice (some a) _ cap=>some (a.block,a.off,cap*es) | _=>none
theorem aOs {es:Nat} {v:Value} {nss:List ZL} {ρ:Env} {k:Nat} (h:aA3 w es v nss)(hk:ρ k=pF es v):Rel ρ (.s k 0 nss.length es) v:=by
 obtain⟨h1,h2,⟨rfl,rfl⟩ | ⟨b,o,cap,rfl,h3,h4⟩⟩:=h
 ·simp only [Rel];exact .inl ⟨hk,rfl,trivial⟩
 ·simp only [Rel];exact .inr ⟨b,o,cap*es,cap,0,none,hk,rfl,h3,by omega,fun _=>⟨rfl,rfl⟩⟩
theorem zW {es:Nat}:∀{nss:List ZL},(∀ns∈nss,ns.length=es)->nss.flatten.length=nss.length*es
 | [],_=>by simp
 | ns::l,h=>by
  rw [List.flatten_cons,List.length_append,zW (fun m hm=>h m (List.mem_cons_of_mem _ hm)),h ns List.mem_cons_self,List.length_cons,Nat.add_mul];omega
theorem aKw {es:Nat} {v:Value} {nss:List ZL} {ρ:Env} {k:Nat} {M:Nat->Prop} (h:aA3 w es v nss)(hk:ρ k=pF es v)(hM:∀b,M b->w.heap.size<=b):BRep ρ M w k (.live false true ((nss.flatten).map iv)):=by
 obtain⟨h1,h2,⟨rfl,rfl⟩ | ⟨b,o,cap,rfl,h3,h4⟩⟩:=h
 ·exact .inl ⟨hk,rfl⟩
 ·have hlen:=zW h1;refine .inr ⟨b,o,cap*es,(nss.flatten).map (Value.int .i64),hk,⟨?_,fun hne hm=>?_⟩,aGd _,h4⟩
  ·rw [List.length_map,hlen];exact Nat.mul_le_mul_right _ h3
  ·have hb:=hM b hm;obtain⟨x,hx⟩:=List.exists_mem_of_ne_nil _ hne;obtain⟨i,hi⟩:=List.getElem?_of_mem hx;have:=World.block_lt_of_cell? w ⟨b,o+i,none⟩ (h4 i x hi);exact absurd this (Nat.not_lt_of_le hb)
theorem aMp {α:Type} {c:α->List SV} {f:ZL->α} {es:Nat} (hc:∀ns:ZL,ns.length=es->c (f ns)=ns.map iv):∀{nss:List ZL},(∀ns∈nss,ns.length=es)->flat c (nss.map f)=(nss.flatten).map iv
 | [],_=>rfl
 | ns::l,h=>by
  have:=aMp hc (nss:=l) (fun m hm=>h m (List.mem_cons_of_mem _ hm));unfold flat at *;rw [List.map_cons,List.flatMap_cons,this,hc ns (h ns List.mem_cons_self),List.flatten_cons,List.map_append]
end
theorem aFd:∀ns:ZL,Plain (ns.map iv)
 | []=>fun k hk=>by simp [SV.hasl] at hk
 | n::l=>fun k hk=>by
  simp only [List.map_cons,SV.hasl] at hk;rcases hk with hk | hk
  ·simp [iv,SV.has] at hk
  ·exact aFd l k hk
theorem aKx {P:Program} {f:Nat} {args:List SV} {vs:List Value} {x:Value} {bs:List BK} (hc:Con P f args bs (.v x) []) (ρ:Env) {W:World} (hr:Rels ρ args vs)(hown:∀i,¬(bs.getD i .un).own)
 (hb:(∀b,(cY ρ W bs).mine b->W.heap.size<=b)->∀i,BRep ρ (cY ρ W bs).mine W i (bs.getD i .un)) (hpl:∀i,(bs.getD i .un).pl) (hnf:∀b,ρ.fz b=none) :
 Calls P f vs.toArray W fun e W'=>e=.returned x/\Below W.heap.size W W':=by
 have hM:∀b,(cY ρ W bs).mine b->W.heap.size<=b:=by
  rintro b (h | ⟨i,n,hi,_⟩)
  ·exact h
  ·exact absurd hi (hown i)
 refine(hc.2 ρ W vs hr (hb hM) hpl (fun i j b n b' n' _ h=>absurd h (hown i)) (fun b o h=>by rw [hnf b] at h;cases h)).mono fun e W' h=>?_
 obtain⟨ρ',v,rfl,_,hv,hk,_⟩:=h;refine⟨by rw [show v=x from hv],hk.os,hk.tape,hk.output,hk.size,fun k hk'=>hk.block k hk' ?_⟩
 rintro ⟨i,n,hi,_⟩
 exact hown i hi
def bCq (e:Nat)(v:Value):Env:=⟨fun k=>if k=0 then pF e v else none,fun _=>none⟩
theorem aKy {P:Program} {f es0:Nat} {args:List SV} {vs:List Value} {x v0:Value} {nss0:List ZL} {W:World} (hc:Con P f args [.live false true ((nss0.flatten).map iv)] (.v x) [])
 (s0:aA3 W es0 v0 nss0) (hr:Rels (bCq es0 v0) args vs):Calls P f vs.toArray W fun e W'=>e=.returned x/\Below W.heap.size W W':=by
 refine aKx hc _ hr (fun i=>?_) (fun hM i=>?_) (fun i=>?_) (fun _=>rfl)
 ·rcases i with _ | i<;>simp [BK.own]
 ·rcases i with _ | i
  ·exact aKw s0 rfl hM
  ·simp [BRep]
 ·rcases i with _ | i
  ·exact aFd _
  ·simp [BK.pl]
end Go.Proofs.YtlffahoikfahlaaGreat
namespace Go.Proofs.YtlffahoikfahlaaGreat
open Go.Proofs Go.Aw Go.RowKit
set_option maxRecDepth 100000
theorem aIz {α:Type} {c:α->List SV} (hc:∀x,(c x).all SV.one=true) {l:List α}:(flat c l).all SV.one=true:=by
 rw [List.all_eq_true];intro x hx;obtain⟨a,_,ha⟩:=List.mem_flatMap.1 hx;exact List.all_eq_true.1 (hc a) x ha
theorem nX {α:Type} {c:α->List SV} {es:Nat} (hc:∀x,(c x).length=es)(l:List α):(flat c l).length=l.length*es:=sY hc l
def okw (v:Zs)(n:Nat):Prop:=(-4611686018427387904+1099511627776*n<=v.1/\v.1+1099511627776*n<=4611686018427387904)/\(-4611686018427387904+1099511627776*n<=v.2/\v.2+1099511627776*n<=4611686018427387904)
theorem aQp {v a:Zs} {n:Nat} (h:okw v (n+1))(ha:vs a):okw (v.1+a.1,v.2+a.2) n:=by unfold okw vs at *;simp only;omega
theorem aZ0 {v:Zs} {n:Nat} (h:okw v n):W v.1=v.1/\W v.2=v.2:=by unfold okw at h;exact⟨aG (by omega) (by omega),aG (by omega) (by omega)⟩
theorem aZ1 {n:Nat} (h:n<=10000):okw (0,0) n:=by unfold okw;simp only;omega
theorem aKz {R:Type} [Inhabited R] {S:Zt->Zt⊕R} {G:Zs->R} {L:List Zs} (hl:∀a∈L,vs a)
 (hS:∀(i:Nat) (a:Zs),L[i]? = some a->∀v1 v2:Int,S (v1,v2,(i:Int))=.inl (W (v1+a.1),W (v2+a.2),((i+1:Nat):Int)))
 (hE:∀v1 v2:Int,S (v1,v2,(L.length:Int))=.inr (G (v1,v2))) :
 ∀(l:List Zs) (i n:Nat) (v:Zs),L.drop i=l->i<=L.length->l.length < n->okw v l.length->aE S n (v.1,v.2,(i:Int))=G (nP l v):=by
 intro l
 induction l with
 | nil =>
  intro i n v hd hi' hn h;have:i=L.length:=by have:=List.drop_eq_nil_iff.1 hd;omega
  obtain⟨n,rfl⟩:∃m,n=m+1:=⟨n - 1,by simp only [List.length_nil] at hn;omega⟩;subst this;rw [aM (hE _ _)];rfl
 | cons c l ih =>
  intro i n v hd hi' hn h;have hc:L[i]? = some c:=by
   have:(L.drop i)[0]? = some c:=by rw [hd];rfl
   simpa using this
  obtain⟨hlt,hce⟩:=List.getElem?_eq_some_iff.1 hc;obtain⟨n,rfl⟩:∃m,n=m+1:=⟨n - 1,by omega⟩;have h1:okw (v.1+c.1,v.2+c.2) l.length:=aQp h (hl c (hce▸List.getElem_mem hlt));have hw:=aZ0 h1;simp only at hw;rw [aD (hS i c hc v.1 v.2),hw.1,hw.2];exact ih _ _ _ (by rw [←List.drop_drop,hd];rfl) (by omega) (by simp only [List.length_cons] at hn;omega) h1
section
variable {l : List Zs}
theorem aGh {a:Zs} (h:vs a):rU a=true:=aIx (a:=a.1) (b:=a.2) h.1 h.2.1 h.2.2
theorem bCr (hl:∀a∈l,vs a):zT l=0:=by
 have key:∀(m:List Zs) (i n:Nat),l.drop i=m->i<=l.length->m.length < n->aE (kD l) n (i:Int)=0:=by
  intro m
  induction m with
  | nil =>
   intro i n hd hi hn;have:i=l.length:=by have:=List.drop_eq_nil_iff.1 hd;omega
   obtain⟨n,rfl⟩:∃m,n=m+1:=⟨n - 1,by simp only [List.length_nil] at hn;omega⟩;subst this;refine aM ?_;simp only [kD];rw [cV (Int.lt_irrefl _),cond_false]
  | cons c m ih =>
   intro i n hd hi hn;have hc:l[i]? = some c:=by
    have:(l.drop i)[0]? = some c:=by rw [hd];rfl
    simpa using this
   obtain⟨hlt,hce⟩:=List.getElem?_eq_some_iff.1 hc;obtain⟨n,rfl⟩:∃m,n=m+1:=⟨n - 1,by omega⟩;have hg:l.getD i dF=c:=by rw [fS,hc];rfl
   have e:kD l (i:Int)=.inl ((i+1:Nat):Int):=by
    simp only [kD];rw [cL (show((i:Nat):Int) < (l.length:Nat) by omega),cond_true,iH,hg,aGh (hl c (hce▸List.getElem_mem hlt))];rfl
   rw [aD e];exact ih _ _ (by rw [←List.drop_drop,hd];rfl) (by omega) (by simp only [List.length_cons] at hn;omega)
 unfold zT;exact key l 0 _ rfl (Nat.zero_le _) (by omega)
theorem aXn (hl:∀a∈l,vs a)(hn:l.length<=10000):lF l=((nP l (0,0)).1,(nP l (0,0)).2,0):=by
 unfold lF;rw [cV (by omega),cond_false,bCr hl];show aE _ _ (((0,0):Zs).1,((0,0):Zs).2,((0:Nat):Int))=_;refine aKz (G:=fun v=>(v.1,v.2,0)) hl (fun i a hi v1 v2=>?_) (fun v1 v2=>?_) l 0 _ (0,0) rfl (Nat.zero_le _) (by omega) (aZ1 hn)
 ·obtain⟨hlt,hce⟩:=List.getElem?_eq_some_iff.1 hi;have hg:l.getD i dF=a:=by rw [fS,hi];rfl
  simp only [pP];rw [cL (show((i:Nat):Int) < (l.length:Nat) by omega),cond_true,iH,hg];rfl
 ·simp only [pP];rw [cV (Int.lt_irrefl _),cond_false]
noncomputable def aEb (l:List Zs):Zs×Int:=rK (nP l (0,0)).1 (nP l (0,0)).2
theorem aQq (hl:∀a∈l,vs a)(hn:l.length<=10000):oK l=aEb l:=by
 unfold oK;rw [aXn hl hn];rfl
end
theorem aCx {l:List Zs} (h:(aEb l).2=0):aEb l=(nP l (0,0),0)/\vs (nP l (0,0)):=by
 unfold aEb at *;rcases uJ (nP l (0,0)).1 (nP l (0,0)).2 with⟨h1,h2⟩ | h1
 ·exact⟨h1,h2⟩
 ·rw [h1] at h;exact absurd h (by decide)
theorem aQr {a:Zs} {n:Int} (h:(wL a n).2=0):vs (wL a n).1:=by
 have h0:=h;unfold wL at h0;cases h1:((mU a:Int) != 0)
 case true=>rw [h1,cond_true] at h0;exact absurd h0 (bne_iff_ne.1 h1)
 rw [h1,cond_false] at h0;cases h2:(!(F80 n))
 case true=>rw [h2,cond_true] at h0;exact absurd h0 (by decide)
 obtain⟨x,y,e⟩:∃x y,wL a n=rK x y:=⟨_,_,by unfold wL;rw [h1,cond_false,h2,cond_false]⟩;rw [e] at h ⊢;rcases uJ x y with⟨e1,e2⟩ | e1
 ·rw [e1];exact e2
 ·rw [e1] at h;exact absurd h (by decide)
end Go.Proofs.YtlffahoikfahlaaGreat
namespace Go.Proofs.YtlffahoikfahlaaGreat
open Go.Proofs Go.Aw Go.RowKit
set_option maxRecDepth 100000
theorem uK {l:List (PN×Int)} (h:gL l=0):l.length<=96:=by
 rcases Nat.lt_or_ge 96 l.length with h' | h'
 ·exfalso;unfold gL at h;rw [cL (by omega),cond_true] at h;exact absurd h (by decide)
 ·exact h'
theorem bT {α:Type} {c:α->List SV} {es:Nat} (hc:∀x,(c x).length=es) {L:List α} {i o:Nat} {xs:List SV} {d y:α} (hi:i < L.length)(ho:o+xs.length<=es)(hy:c y=splice (c (L.getD i d)) o xs) :
 splice (flat c L) (0+i*es+o) xs=flat c (L.set i y):=by
 induction L generalizing i with
 | nil=>simp at hi
 | cons x L ih =>
  cases i with
  | zero =>
   have hy':c y=splice (c x) o xs:=hy;have hx:=hc x;simp only [flat,List.flatMap_cons,List.set_cons_zero,hy'];unfold splice;simp only [Nat.zero_mul,Nat.zero_add];rw [List.take_append_of_le_length (by omega),List.drop_append_of_le_length (by omega)];simp [List.append_assoc]
  | succ i =>
   have h:=ih (i:=i) (by simpa using hi) hy;have hx:=hc x;simp only [flat,List.flatMap_cons,List.set_cons_succ] at h ⊢;rw [←h];unfold splice;have e1:0+(i+1)*es+o=(c x).length+(0+i*es+o):=by rw [hx,Nat.add_mul];omega
   rw [e1,List.take_length_add_append,show(c x).length+(0+i*es+o)+xs.length=(c x).length+(0+i*es+o+xs.length) by omega,List.drop_length_add_append];simp [List.append_assoc]
theorem iS {α:Type} {c:α->List SV} {es:Nat} (hc:∀x,(c x).length=es) {L:List α} {i o n:Nat} (hi:i < L.length)(ho:o+n<=es):0+i*es+o+n<=(flat c L).length:=by
 rw [sY hc];have:=Nat.mul_le_mul_right es (show i+1<=L.length by omega);rw [Nat.add_mul] at this;omega
noncomputable def xK:=bC [1,1,1,1,0,1] [] (aX Tryz.f12) []
def aCy (a0:cC)(a1:Zt)(a2:Int)(v2c:List SV)(v2n:Nat)(v3:Int):LS:=⟨jT 67 [(2,(iv a2)),(4,(.p 1 0)),(6,(.p 2 0)),(9,(.s 3 0 v2n 2)),(29,(.s 0 0 a0.length 10)),(30,(iv (a0.length:Int))),(31,(iv v3))],[(.live false true (flat fJ a0)),(.live true false (k3 a1)),(.live true false [(iv 0),(iv 0)]),(.live true true v2c)]⟩
def jP (a0:cC)(a1:Zt)(a2:Int):(List Zs)×Int->((List Zs)×Int)⊕(Zs×Int) | (v2,v3) => (bif (decide ((v3:Int) < (a0.length:Int)))then(bif (((zU (a0.getD (tN v3) dF).1 a1 a2).2:Int) != 0)then(.inr ((0,0),(zU (a0.getD (tN v3) dF).1 a1 a2).2))else(bif (((wL (zU (a0.getD (tN v3) dF).1 a1 a2).1 (a0.getD (tN v3) dF).2).2:Int) != 0)then(.inr ((0,0),(wL (zU (a0.getD (tN v3) dF).1 a1 a2).1 (a0.getD (tN v3) dF).2).2))else(.inl ((v2++[(wL (zU (a0.getD (tN v3) dF).1 a1 a2).1 (a0.getD (tN v3) dF).2).1]),(v3+1)))))else(.inr ((oK v2).1,(oK v2).2)))
theorem aUa (a0:cC)(a1:Zt)(a2:Int)(l0:a0.length<=2^63-1) {cx:Cx} (hcx:cx.base=1):∀(n:Nat) (v2:List Zs) (v3:Int),(0<=v3)/\(gL a0=0)/\(v2.length=tN v3)/\(v3<=a0.length)->tN ((a0.length:Int) - v3) < n->gG Tryz.f12 cx (.t [(.a (k2 (aE (jP a0 a1 a2) n (v2,v3)).1)),(iv (aE (jP a0 a1 a2) n (v2,v3)).2)]) [] [] (.l xK.1 n::xK.2) (aCy a0 a1 a2 (flat sN v2) v2.length v3):=by
 intro n
 induction n with|zero=>intro v2 v3 hi hn;exact absurd hn (fW _)|succ n ih=>?_
 intro v2 v3 hi hn;refine aS ?_;have hvl:=uK (l:=a0) (by omega);cases h0:(decide ((v3:Int) < (a0.length:Int)))
 case true=>
  have q0:=dE h0;let t1:SL:=[.d h0,.i v3 (a0.length),.L kE a0 v3 0 10,.c [] (C42 (a0.getD (tN v3) dF).1 a1 a2)];cases h1:(((zU (a0.getD (tN v3) dF).1 a1 a2).2:Int) != 0)
  case true=>have q1:=bne_iff_ne.1 h1;have e:=Eq.refl (jP a0 a1 a2 (v2,v3));(conv at e=>rhs;simp only [jP,h0,h1,aQ]);rw [aJ,e];exact rT (t1++[.d h1]) hcx
  have q1:=bne_eq_false_iff_eq.1 h1;let t2:SL:=t1++[.d h1,.c [] (C43 (zU (a0.getD (tN v3) dF).1 a1 a2).1 (a0.getD (tN v3) dF).2)];cases h2:(((wL (zU (a0.getD (tN v3) dF).1 a1 a2).1 (a0.getD (tN v3) dF).2).2:Int) != 0)
  case true=>have q2:=bne_iff_ne.1 h2;have e:=Eq.refl (jP a0 a1 a2 (v2,v3));(conv at e=>rhs;simp only [jP,h0,h1,h2,aQ]);rw [aJ,e];exact rT (t2++[.d h2]) hcx
  have q2:=bne_eq_false_iff_eq.1 h2;have e:=Eq.refl (jP a0 a1 a2 (v2,v3));(conv at e=>rhs;simp only [jP,h0,h1,h2,aQ]);rw [aD e];refine bA n (t2++[.d h2,.p (show((flat sN v2).length=v2.length*2/\v2.length+1<=2 ^ 40/\(v2.length+1)*16<=2 ^ 47) from rS uH (by omega) (by omega))]) [2,4,6,9,29,30,31] [1,2,7] hcx xK (aCy a0 a1 a2 (flat sN v2++(k2 (wL (zU (a0.getD (tN v3) dF).1 a1 a2).1 (a0.getD (tN v3) dF).2).1)) (v2.length+1) (W (v3+1))) ?_;have z0:(W (v3+1))=(v3+1):=aG (by omega) (by omega);have z1:(flat sN v2++(k2 (wL (zU (a0.getD (tN v3) dF).1 a1 a2).1 (a0.getD (tN v3) dF).2).1))=_:=(eJ (c:=sN) (l:=v2) (m:=[(wL (zU (a0.getD (tN v3) dF).1 a1 a2).1 (a0.getD (tN v3) dF).2).1])).symm;have z2:(v2.length+1)=_:=uE v2 [(wL (zU (a0.getD (tN v3) dF).1 a1 a2).1 (a0.getD (tN v3) dF).2).1] rfl;rw [z0,z1,z2];exact ih _ _ (by refine⟨?_,?_,?_,?_⟩<;>(try simp only [Ls])<;>first | omega | assumption | simp) (by omega)
 have q0:=dO h0;have e:=Eq.refl (jP a0 a1 a2 (v2,v3));(conv at e=>rhs;simp only [jP,h0,aQ]);rw [aJ,e];exact rT [.d h0,.c [3] (aP7 v2 (by omega))] hcx
def dX (a0:cC)(a1:Zt)(a2:Int):Zs×Int := (bif (((gL a0):Int) != 0)then((0,0),(gL a0))else(bif (!(F40 a1))then((0,0),1)else(bif (!(F41 a2 0 3))then((0,0),1)else(aE (jP a0 a1 a2) (tN ((a0.length:Int) - 0)+1) (([]:List Zs),0)))))
theorem aVq (a0:cC)(a1:Zt)(a2:Int)(l0:a0.length<=2^63-1):Con Tryz.prog 12 [(.s 0 0 a0.length 10),(.a (k3 a1)),(iv a2)] [(.live false true (flat fJ a0))] (.t [(.a (k2 (dX a0 a1 a2).1)),(iv (dX a0 a1 a2).2)]) []:=by
 refine cS Tryz.func12 fun cx hcx=>?_
 let t0:SL:=[.c [0] (aMe a0 (by omega))];cases h0:(((gL a0):Int) != 0)
 case true=>have q0:=bne_iff_ne.1 h0;have e:=Eq.refl (dX a0 a1 a2);(conv at e=>rhs;simp only [dX,h0,aQ]);rw [e];exact rT (t0++[.d h0]) hcx
 have q0:=bne_eq_false_iff_eq.1 h0;let t1:SL:=t0++[.d h0,.c [] (C40 a1)];cases h1:(!(F40 a1))
 case true=>have e:=Eq.refl (dX a0 a1 a2);(conv at e=>rhs;simp only [dX,h0,h1,aQ]);rw [e];exact rT (t1++[.d h1]) hcx
 let t2:SL:=t1++[.d h1,.c [] (C41 a2 0 3)];cases h2:(!(F41 a2 0 3))
 case true=>have e:=Eq.refl (dX a0 a1 a2);(conv at e=>rhs;simp only [dX,h0,h1,h2,aQ]);rw [e];exact rT (t2++[.d h2]) hcx
 have e:=Eq.refl (dX a0 a1 a2);(conv at e=>rhs;simp only [dX,h0,h1,h2,aQ]);rw [e];refine en (t2++[.d h2]) [.slot 9 2] [2,4,6,9,29,30,31] [1,2,3] hcx xK.1 xK.2 (aCy a0 a1 a2 (flat sN ([]:List Zs)) 0 0) (tN ((a0.length:Int) - 0)+1) (by kernel_rfl) ?_;exact aUa a0 a1 a2 l0 hcx (tN ((a0.length:Int) - 0)+1) ([]:List Zs) 0 (by refine⟨?_,?_,?_,?_⟩<;>(try simp only [Ls])<;>first | omega | assumption | simp) (by omega)
theorem aXo (w i es x:Nat):0+w*es+i*es+x=0+(w+i)*es+x:=by rw [Nat.add_mul];omega
theorem aI {α:Type} {c:α->List SV} {es:Nat} (hc:∀x,(c x).length=es) {L:List α} {w i o:Nat} {xs:List SV} {d y:α} (hi:w+i < L.length)(ho:o+xs.length<=es)(hy:c y=splice (c (L.getD (w+i) d)) o xs) :
 splice (flat c L) (0+w*es+i*es+o) xs=flat c (L.set (w+i) y):=by rw [aXo];exact bT hc hi ho hy
theorem aU {α:Type} {c:α->List SV} {es:Nat} (hc:∀x,(c x).length=es) {L:List α} {w i o n:Nat} (hi:w+i < L.length)(ho:o+n<=es):0+w*es+i*es+o+n<=(flat c L).length:=by rw [aXo];exact iS hc hi ho
theorem ldw {α:Type} [Inhabited α] {c:α->List SV} {es:Nat} (hc:∀x,(c x).length=es)(l:List α)(w:Nat)(i:Int)(o n:Nat)(h:w+i.toNat < l.length)(ho:o+n<=es) :
 ((flat c l).drop (0+w*es+i.toNat*es+o)).take n=((c (l.getD (w+i.toNat) dF)).drop o).take n:=by
 rw [aXo];have:=aL9 hc l ((w+i.toNat:Nat):Int) o n ⟨by omega,by omega⟩ ho;rw [iH] at this;exact this
def cW {P:Program} {α:Type} [Inhabited α] {c:α->List SV} {es:Nat} (hc:∀x,(c x).length=es)(l:List α)(w:Nat)(i:Int)(o n:Nat)(h:w+i.toNat < l.length:=by first | omega | (simp only [Lt];omega)) (ho:o+n<=es:=by decide):St P :=
 St.l (l:=flat c l) (o:=0+w*es+i.toNat*es+o) (n:=n) (((c (l.getD (w+i.toNat) dF)).drop o).take n) (ldw hc l w i o n h ho)
def InR (n:Nat)(l:ZL):Prop:=∀x∈l,0<=x/\x < (n:Int)
theorem InR.at {n:Nat} {l:ZL} (h:InR n l) {i:Nat} (hi:i < l.length):0<=l.getD i dF/\l.getD i dF < (n:Int):=by
 rw [fS,List.getElem?_eq_getElem hi,Option.getD_some];exact h _ (List.getElem_mem hi)
theorem InR.set {n:Nat} {l:ZL} (h:InR n l) {i:Nat} {x:Int} (hx:0<=x/\x < (n:Int)):InR n (l.set i x):=fun y hy=>by
 rcases List.mem_or_eq_of_mem_set hy with hy | rfl
 ·exact h y hy
 ·exact hx
theorem InR.swap {n:Nat} {l:ZL} (h:InR n l) {i j p q:Nat} (hp:p < l.length)(hq:q < l.length):InR n ((l.set i (l.getD p dF)).set j (l.getD q dF)):=(h.set (h.at hp)).set (h.at hq)
def fP (x:Int×Int×Int×Int×Zt×Int):List SV:=[(iv x.1),(iv x.2.1),(iv x.2.2.1),(iv x.2.2.2.1),(iv x.2.2.2.2.1.1),(iv x.2.2.2.2.1.2.1),(iv x.2.2.2.2.1.2.2),(iv x.2.2.2.2.2)]
theorem hU (x:Int×Int×Int×Int×Zt×Int):(fP x).length=8:=rfl
def kJ (a0:cC×Int×ZL×eB)(a1 a2:Int):Int := (bif ((a2:Int) == 0)then(W ((W ((a0.1.getD (tN a1) dF).1.1.1+(a0.1.getD (tN a1) dF).1.2.1.1))+(a0.1.getD (tN a1) dF).1.2.2.1))else(bif ((a2:Int) == 1)then(W ((W ((a0.1.getD (tN a1) dF).1.1.2.1+(a0.1.getD (tN a1) dF).1.2.1.2.1))+(a0.1.getD (tN a1) dF).1.2.2.2.1))else(W ((W ((a0.1.getD (tN a1) dF).1.1.2.2+(a0.1.getD (tN a1) dF).1.2.1.2.2))+(a0.1.getD (tN a1) dF).1.2.2.2.2))))
theorem aOt (a0:cC×Int×ZL×eB)(a1 a2:Int)(l0_1:a0.1.length<=2^63-1)(l0_2_2_1:a0.2.2.1.length<=2^63-1)(l0_2_2_2:a0.2.2.2.length<=2^63-1)(hi:0<=a1/\a1 < (a0.1.length:Int)):Con Tryz.prog 162 [(.p 0 0),(iv a1),(iv a2)] [(.live false false [(.s 1 0 a0.1.length 10),(iv a0.2.1),(.s 2 0 a0.2.2.1.length 1),(.s 3 0 a0.2.2.2.length 8)]),(.live false true (flat fJ a0.1)),(.live false true (flat c3 a0.2.2.1)),(.live false true (flat fP a0.2.2.2))] (iv (kJ a0 a1 a2)) []:=by
 refine cS Tryz.func162 fun cx hcx=>?_
 let t0:SL:=[.i a1 (a0.1.length),.L kE a0.1 a1 0 9];cases h0:((a2:Int) == 0)
 case true=>have q0:=eq_of_beq h0;have e:=Eq.refl (kJ a0 a1 a2);(conv at e=>rhs;simp only [kJ,h0,aQ]);rw [e];exact rT (t0++[.d h0]) hcx
 have q0:=ne_of_beq_false h0;let t1:SL:=t0++[.d h0];cases h1:((a2:Int) == 1)
 case true=>have q1:=eq_of_beq h1;have e:=Eq.refl (kJ a0 a1 a2);(conv at e=>rhs;simp only [kJ,h0,h1,aQ]);rw [e];exact rT (t1++[.d h1]) hcx
 have q1:=ne_of_beq_false h1;have e:=Eq.refl (kJ a0 a1 a2);(conv at e=>rhs;simp only [kJ,h0,h1,aQ]);rw [e];exact rT (t1++[.d h1]) hcx
def aCz (a0:Int):Bool := ((a0:Int) != a0)
theorem aZ2 (a0:Int):Con Tryz.prog 192 [(iv a0)] [] (.v (.bool (aCz a0))) []:=by
 refine cS Tryz.func192 fun cx hcx=>?_
 have e:=Eq.refl (aCz a0);(conv at e=>rhs;simp only [aCz]);rw [e];exact rT [] hcx
def pX (a0 a1:Int):Int := (bif (aCz a0)then(bif (aCz a1)then 0 else(-1))else(bif (aCz a1)then 1 else(bif (decide ((a0:Int) < a1))then(-1)else(bif (decide ((a0:Int) > a1))then 1 else 0))))
theorem aZ3 (a0 a1:Int):Con Tryz.prog 164 [(iv a0),(iv a1)] [] (iv (pX a0 a1)) []:=by
 refine cS Tryz.func164 fun cx hcx=>?_
 let t0:SL:=[.c [] (aZ2 a0),.c [] (aZ2 a1)];cases h0:(aCz a0)
 case true=>
  let t1:SL:=t0++[.d h0];cases h1:(aCz a1)
  case true=>have e:=Eq.refl (pX a0 a1);(conv at e=>rhs;simp only [pX,h0,h1,aQ]);rw [e];exact rT (t1++[.d h1]) hcx
  have e:=Eq.refl (pX a0 a1);(conv at e=>rhs;simp only [pX,h0,h1,aQ]);rw [e];exact rT (t1++[.d h1]) hcx
 let t1:SL:=t0++[.d h0];cases h1:(aCz a1)
 case true=>have e:=Eq.refl (pX a0 a1);(conv at e=>rhs;simp only [pX,h0,h1,aQ]);rw [e];exact rT (t1++[.d h1]) hcx
 let t2:SL:=t1++[.d h1];cases h2:(decide ((a0:Int) < a1))
 case true=>have q2:=dE h2;have e:=Eq.refl (pX a0 a1);(conv at e=>rhs;simp only [pX,h0,h1,h2,aQ]);rw [e];exact rT (t2++[.d h2]) hcx
 have q2:=dO h2;let t3:SL:=t2++[.d h2];cases h3:(decide ((a0:Int) > a1))
 case true=>have q3:=dE h3;have e:=Eq.refl (pX a0 a1);(conv at e=>rhs;simp only [pX,h0,h1,h2,h3,aQ]);rw [e];exact rT (t3++[.d h3]) hcx
 have q3:=dO h3;have e:=Eq.refl (pX a0 a1);(conv at e=>rhs;simp only [pX,h0,h1,h2,h3,aQ]);rw [e];exact rT (t3++[.d h3]) hcx
def pY (a0:(Int)×(Int)):Int := (bif ((a0.1:Int) != 0)then a0.1 else(bif ((a0.2:Int) != 0)then a0.2 else 0))
theorem aXp (a0:(Int)×(Int)):Con Tryz.prog 163 [(.s 0 0 2 1)] [(.live false false [(iv a0.1),(iv a0.2)])] (iv (pY a0)) []:=by
 refine cS Tryz.func163 fun cx hcx=>?_
 let t0:SL:=[.u 200,.T,.i 0 2];cases h0:((a0.1:Int) != 0)
 case true=>have q0:=bne_iff_ne.1 h0;have e:=Eq.refl (pY a0);(conv at e=>rhs;simp only [pY,h0,aQ]);rw [e];exact rT (t0++[.d h0]) hcx
 have q0:=bne_eq_false_iff_eq.1 h0;let t1:SL:=t0++[.d h0,.u 0,.T,.i 1 2];cases h1:((a0.2:Int) != 0)
 case true=>have q1:=bne_iff_ne.1 h1;have e:=Eq.refl (pY a0);(conv at e=>rhs;simp only [pY,h0,h1,aQ]);rw [e];exact rT (t1++[.d h1]) hcx
 have q1:=bne_eq_false_iff_eq.1 h1;have e:=Eq.refl (pY a0);(conv at e=>rhs;simp only [pY,h0,h1,aQ]);rw [e];exact rT (t1++[.d h1,.u 0,.F]) hcx
def iB (a0:eW×Int)(a1 a2:Int):Int := (pY ((pX (kJ (a0.1.1,a0.1.2.1,(a0.1.2.2.1,a0.1.2.2.2)) a1 a0.2) (kJ (a0.1.1,a0.1.2.1,(a0.1.2.2.1,a0.1.2.2.2)) a2 a0.2)),(pX a1 a2)))
theorem uR (a0:eW×Int)(a1 a2:Int)(l0_1_1:a0.1.1.length<=2^63-1)(l0_1_2_2_1:a0.1.2.2.1.length<=2^63-1)(l0_1_2_2_2:a0.1.2.2.2.length<=2^63-1)(hi:0<=a1/\a1 < (a0.1.1.length:Int))(hk:0<=a2/\a2 < (a0.1.1.length:Int)):Con Tryz.prog 126 [(.a [(.p 0 0),(iv a0.2)]),(iv a1),(iv a2)] [(.live false false [(.s 1 0 a0.1.1.length 10),(iv a0.1.2.1),(.s 2 0 a0.1.2.2.1.length 1),(.s 3 0 a0.1.2.2.2.length 8)]),(.live false true (flat fJ a0.1.1)),(.live false true (flat c3 a0.1.2.2.1)),(.live false true (flat fP a0.1.2.2.2))] (iv (iB a0 a1 a2)) []:=by
 refine cS Tryz.func126 fun cx hcx=>?_
 have e:=Eq.refl (iB a0 a1 a2);(conv at e=>rhs;simp only [iB]);rw [e];exact rT [.c [0,1,2,3] (aOt (a0.1.1,a0.1.2.1,(a0.1.2.2.1,a0.1.2.2.2)) a1 a0.2 (by omega) (by omega) (by omega) (by first | exact hi | exact hk)),.c [0,1,2,3] (aOt (a0.1.1,a0.1.2.1,(a0.1.2.2.1,a0.1.2.2.2)) a2 a0.2 (by omega) (by omega) (by omega) (by first | exact hi | exact hk)),.c [] (aZ3 (kJ (a0.1.1,a0.1.2.1,(a0.1.2.2.1,a0.1.2.2.2)) a1 a0.2) (kJ (a0.1.1,a0.1.2.1,(a0.1.2.2.1,a0.1.2.2.2)) a2 a0.2)),.c [] (aZ3 a1 a2),.c [5] (aXp ((pX (kJ (a0.1.1,a0.1.2.1,(a0.1.2.2.1,a0.1.2.2.2)) a1 a0.2) (kJ (a0.1.1,a0.1.2.1,(a0.1.2.2.1,a0.1.2.2.2)) a2 a0.2)),(pX a1 a2)))] hcx
noncomputable def pZ:Code:=(bC [1,0,1,0,1] [0] (aX Tryz.f182) []).1
noncomputable def qA (m0:Nat):List K:=(bC [1,0,1,0,1] [m0] (aX Tryz.f182) []).2
def oM (a0:ZL)(a0_o a0_n:Nat)(a1 a2:Int)(a3:eW×Int)(v5c:List SV)(v5n:Nat)(v6 v7:Int):LS:=⟨jT 53 [(0,(.s 0 (0+a0_o*1) a0_n 1)),(1,(iv a1)),(2,(iv a2)),(3,(.f 1000126 [(.a [(.p 1 0),(iv a3.2)])])),(8,(iv v6)),(9,(iv v7))],[(.live true true v5c),(.live false false [(.s 2 0 a3.1.1.length 10),(iv a3.1.2.1),(.s 0 0 v5n 1),(.s 3 0 a3.1.2.2.2.length 8)]),(.live false true (flat fJ a3.1.1)),(.live false true (flat fP a3.1.2.2.2))]⟩
def cO (a0:ZL)(a0_o a0_n:Nat)(a1 a2:Int)(a3:eW×Int):ZL×Int×Int->(ZL×Int×Int)⊕((ZL×Int)⊕ZL) | (v5,v6,v7) => (bif (decide ((v7:Int) > a1))then(bif (decide (((iB ((a3.1.1,a3.1.2.1,(v5,a3.1.2.2.2)),a3.2) (v5.getD (a0_o+tN v7) dF) (v5.getD (a0_o+tN (W (v7 - 1))) dF)):Int) < 0))then(.inl (((v5.set (a0_o+tN v7) (v5.getD (a0_o+tN (W (v7 - 1))) dF)).set (a0_o+tN (W (v7 - 1))) (v5.getD (a0_o+tN v7) dF)),v6,(W (v7 - 1))))else(.inr (.inl (v5,(v6+1)))))else(.inr (.inl (v5,(v6+1)))))
noncomputable def gV:=bC [1] [] (aX Tryz.f182) []
def jH (a0:ZL)(a0_o a0_n:Nat)(a1 a2:Int)(a3:eW×Int)(v3c:List SV)(v3n:Nat)(v4:Int):LS:=⟨jT 53 [(0,(.s 0 (0+a0_o*1) a0_n 1)),(1,(iv a1)),(2,(iv a2)),(3,(.f 1000126 [(.a [(.p 1 0),(iv a3.2)])])),(8,(iv v4))],[(.live true true v3c),(.live false false [(.s 2 0 a3.1.1.length 10),(iv a3.1.2.1),(.s 0 0 v3n 1),(.s 3 0 a3.1.2.2.2.length 8)]),(.live false true (flat fJ a3.1.1)),(.live false true (flat fP a3.1.2.2.2))]⟩
def dV (a0:ZL)(a0_o a0_n:Nat)(a1 a2:Int)(a3:eW×Int):ZL×Int->(ZL×Int)⊕ZL | (v3,v4) => (bif (decide ((v4:Int) < a2))then(aE (cO a0 a0_o a0_n a1 a2 a3) (tN (v4 - a1)+1) (v3,v4,v4))else(.inr v3))
theorem aEc (a0:ZL)(a0_o a0_n:Nat)(a1 a2:Int)(a3:eW×Int)(l0:a0.length<=2^63-1)(l3_1_1:a3.1.1.length<=2^63-1)(l3_1_2_2_1:a3.1.2.2.1.length<=2^63-1)(l3_1_2_2_2:a3.1.2.2.2.length<=2^63-1)(hw:a0_o+a0_n<=a0.length/\a0.length<=1048576)(hr:InR a3.1.1.length a0)(hab:0<=a1/\a1<=a2/\a2<=↑a0_n) {cx:Cx} (hcx:cx.base=4)
 (n0:Nat) (g0:∀(v3:ZL) (v4:Int),(0<=v4)/\(v3.length=a0.length)/\(InR a3.1.1.length v3)/\(a1 < v4)/\(v4<=a2+1)->tN (a2 - v4) < n0->gG Tryz.f182 cx (.t []) [] [(.live true true (flat c3 (aE (dV a0 a0_o a0_n a1 a2 a3) n0 (v3,v4)))),.un,.un,.un] (.l gV.1 n0::gV.2) (jH a0 a0_o a0_n a1 a2 a3 (flat c3 v3) v3.length v4)):∀(n:Nat) (v5:ZL) (v6 v7:Int),(v5.length=a0.length)/\(InR a3.1.1.length v5)/\(a1<=v7)/\(v7<=v6)/\(a1 < v6)/\(v6 < a2)/\((0<=v6))/\((v5.length=a0.length))/\((InR a3.1.1.length v5))/\((a1 < v6))/\((v6<=a2+1))/\(v6 < a2)/\(tN (a2 - v6) < n0+1)->tN (v7 - a1) < n->gG Tryz.f182 cx (.t []) [] [(.live true true (flat c3 (bZ (dV a0 a0_o a0_n a1 a2 a3) n0 (aE (cO a0 a0_o a0_n a1 a2 a3) n (v5,v6,v7))))),.un,.un,.un] (.l pZ n::qA n0) (oM a0 a0_o a0_n a1 a2 a3 (flat c3 v5) v5.length v6 v7):=by
 intro n
 induction n with|zero=>intro v5 v6 v7 hi hn;exact absurd hn (fW _)|succ n ih=>?_
 intro v5 v6 v7 hi hn;refine aS ?_;have hw_s9m1:=aG (n:=v7 - 1) (by omega) (by omega);cases h0:(decide ((v7:Int) > a1))
 case true=>
  have q0:=dE h0;let t1:SL:=[.d h0,.i v7 a0_n,cW aB v5 a0_o v7 0 1,.i (W (v7 - 1)) a0_n,cW aB v5 a0_o (W (v7 - 1)) 0 1,.c [1,2,0,3] (uR ((a3.1.1,a3.1.2.1,(v5,a3.1.2.2.2)),a3.2) (v5.getD (a0_o+tN v7) dF) (v5.getD (a0_o+tN (W (v7 - 1))) dF) (by omega) (by(try simp only [Lt]);omega) (by omega) (hi.2.1.at (by omega)) (hi.2.1.at (by omega)))];cases h1:(decide (((iB ((a3.1.1,a3.1.2.1,(v5,a3.1.2.2.2)),a3.2) (v5.getD (a0_o+tN v7) dF) (v5.getD (a0_o+tN (W (v7 - 1))) dF)):Int) < 0))
  case true=>
   have q1:=dE h1;have e:=Eq.refl (cO a0 a0_o a0_n a1 a2 a3 (v5,v6,v7));(conv at e=>rhs;simp only [cO,h0,h1,aQ]);rw [aD e];refine ba (t1++[.d h1,.i (W (v7 - 1)) a0_n,cW aB v5 a0_o (W (v7 - 1)) 0 1,.i v7 a0_n,cW aB v5 a0_o v7 0 1,.i v7 a0_n,.p (show((0+a0_o*1+tN v7*1)+1<=(flat c3 v5).length) from(aU aB (by first | omega | (simp only [Lt];omega)) (o:=0) (Nb rfl))),.i (W (v7 - 1)) a0_n,.p (show((0+a0_o*1+tN (W (v7 - 1))*1)+1<=(splice (flat c3 v5) (0+a0_o*1+tN v7*1) [(iv (v5.getD (a0_o+tN (W (v7 - 1))) dF))]).length) from(by rw [show(splice (flat c3 v5) (0+a0_o*1+tN v7*1) [(iv (v5.getD (a0_o+tN (W (v7 - 1))) dF))])=flat c3 (v5.set (a0_o+tN v7) (v5.getD (a0_o+tN (W (v7 - 1))) dF)) from(aI aB (by first | omega | (simp only [Lt];omega)) (o:=0) (d:=dF) (Nb rfl) rfl)];exact aU aB (by first | omega | (simp only [Lt];omega)) (o:=0) (Nb rfl)))]) [] [0,1,2,3,8,9] [] hcx (m:=n) pZ (qA n0) (oM a0 a0_o a0_n a1 a2 a3 (splice (splice (flat c3 v5) (0+a0_o*1+tN v7*1) [(iv (v5.getD (a0_o+tN (W (v7 - 1))) dF))]) (0+a0_o*1+tN (W (v7 - 1))*1) [(iv (v5.getD (a0_o+tN v7) dF))]) (v5.length) v6 (W (v7 - 1))) (by kernel_rfl) ?_;have z0:(splice (splice (flat c3 v5) (0+a0_o*1+tN v7*1) [(iv (v5.getD (a0_o+tN (W (v7 - 1))) dF))]) (0+a0_o*1+tN (W (v7 - 1))*1) [(iv (v5.getD (a0_o+tN v7) dF))])=flat c3 ((v5.set (a0_o+tN v7) (v5.getD (a0_o+tN (W (v7 - 1))) dF)).set (a0_o+tN (W (v7 - 1))) (v5.getD (a0_o+tN v7) dF)):=(by rw [show(splice (flat c3 v5) (0+a0_o*1+tN v7*1) [(iv (v5.getD (a0_o+tN (W (v7 - 1))) dF))])=flat c3 (v5.set (a0_o+tN v7) (v5.getD (a0_o+tN (W (v7 - 1))) dF)) from(aI aB (by first | omega | (simp only [Lt];omega)) (o:=0) (d:=dF) (Nb rfl) rfl)];exact aI aB (by first | omega | (simp only [Lt];omega)) (o:=0) (d:=dF) (Nb rfl) rfl);have z1:v5.length=((v5.set (a0_o+tN v7) (v5.getD (a0_o+tN (W (v7 - 1))) dF)).set (a0_o+tN (W (v7 - 1))) (v5.getD (a0_o+tN v7) dF)).length:=by simp
   rw [z0,z1];exact ih _ _ _ (by refine⟨?_,?_,?_,?_,?_,?_,?_,?_,?_,?_,?_,?_,?_⟩<;>first | omega | assumption | exact hi.2.1 | exact hi.2.2.1 | (simp only [Lt];omega) | exact InR.swap hi.2.1 (by omega) (by omega)) (by omega)
  have q1:=dO h1;have e:=Eq.refl (cO a0 a0_o a0_n a1 a2 a3 (v5,v6,v7));(conv at e=>rhs;simp only [cO,h0,h1,aQ]);rw [aJ,e];refine bA n0 (t1++[.d h1]) [0,1,2,3,8] [] hcx gV (jH a0 a0_o a0_n a1 a2 a3 (flat c3 v5) (v5.length) (W (v6+1))) ?_;have z0:(W (v6+1))=(v6+1):=aG (by omega) (by omega);rw [z0];exact g0 v5 (v6+1) (by refine⟨?_,?_,?_,?_⟩<;>first | omega | assumption | exact hi.2.1 | exact hi.2.2.1 | (simp only [Lt];omega) | exact InR.swap hi.2.1 (by omega) (by omega)) (by omega)
 have q0:=dO h0;have e:=Eq.refl (cO a0 a0_o a0_n a1 a2 a3 (v5,v6,v7));(conv at e=>rhs;simp only [cO,h0,aQ]);rw [aJ,e];refine bA n0 [.d h0] [0,1,2,3,8] [] hcx gV (jH a0 a0_o a0_n a1 a2 a3 (flat c3 v5) (v5.length) (W (v6+1))) ?_;have z0:(W (v6+1))=(v6+1):=aG (by omega) (by omega);rw [z0];exact g0 v5 (v6+1) (by refine⟨?_,?_,?_,?_⟩<;>first | omega | assumption | exact hi.2.1 | exact hi.2.2.1 | (simp only [Lt];omega) | exact InR.swap hi.2.1 (by omega) (by omega)) (by omega)
theorem aEd (a0:ZL)(a0_o a0_n:Nat)(a1 a2:Int)(a3:eW×Int)(l0:a0.length<=2^63-1)(l3_1_1:a3.1.1.length<=2^63-1)(l3_1_2_2_1:a3.1.2.2.1.length<=2^63-1)(l3_1_2_2_2:a3.1.2.2.2.length<=2^63-1)(hw:a0_o+a0_n<=a0.length/\a0.length<=1048576)(hr:InR a3.1.1.length a0)(hab:0<=a1/\a1<=a2/\a2<=↑a0_n) {cx:Cx} (hcx:cx.base=4):∀(n:Nat) (v3:ZL) (v4:Int),(0<=v4)/\(v3.length=a0.length)/\(InR a3.1.1.length v3)/\(a1 < v4)/\(v4<=a2+1)->tN (a2 - v4) < n->gG Tryz.f182 cx (.t []) [] [(.live true true (flat c3 (aE (dV a0 a0_o a0_n a1 a2 a3) n (v3,v4)))),.un,.un,.un] (.l gV.1 n::gV.2) (jH a0 a0_o a0_n a1 a2 a3 (flat c3 v3) v3.length v4):=by
 intro n
 induction n with|zero=>intro v3 v4 hi hn;exact absurd hn (fW _)|succ n ih=>?_
 intro v3 v4 hi hn;refine aS ?_;have hw_s8p1:=aG (n:=v4+1) (by omega) (by omega);cases h0:(decide ((v4:Int) < a2))
 case true=>have q0:=dE h0;have e:=Eq.refl (dV a0 a0_o a0_n a1 a2 a3 (v3,v4));(conv at e=>rhs;simp only [dV,h0,aQ]);rw [aJ,e];refine en [.d h0] [] [0,1,2,3,8,9] [] hcx pZ (qA n) (oM a0 a0_o a0_n a1 a2 a3 (flat c3 v3) (v3.length) v4 v4) (tN (v4 - a1)+1) (by kernel_rfl) ?_;exact aEc a0 a0_o a0_n a1 a2 a3 l0 l3_1_1 l3_1_2_2_1 l3_1_2_2_2 hw hr hab hcx n ih (tN (v4 - a1)+1) v3 v4 v4 (by refine⟨?_,?_,?_,?_,?_,?_,?_,?_,?_,?_,?_,?_,?_⟩<;>first | omega | assumption | exact hi.2.1 | exact hi.2.2.1 | (simp only [Lt];omega) | exact InR.swap hi.2.1 (by omega) (by omega)) (by omega)
 have q0:=dO h0;have e:=Eq.refl (dV a0 a0_o a0_n a1 a2 a3 (v3,v4));(conv at e=>rhs;simp only [dV,h0,aQ]);rw [aJ,e]
 try dsimp only [bZ]
 try dsimp only
 exact rtn [.d h0] [] [0] [] hcx (by kernel_rfl)
def gR (a0:ZL)(a0_o a0_n:Nat)(a1 a2:Int)(a3:eW×Int):ZL := (aE (dV a0 a0_o a0_n a1 a2 a3) (tN (a2 - (W (a1+1)))+1) (a0,(W (a1+1))))
theorem aI0 (a0:ZL)(a0_o a0_n:Nat)(a1 a2:Int)(a3:eW×Int)(l0:a0.length<=2^63-1)(l3_1_1:a3.1.1.length<=2^63-1)(l3_1_2_2_1:a3.1.2.2.1.length<=2^63-1)(l3_1_2_2_2:a3.1.2.2.2.length<=2^63-1)(hw:a0_o+a0_n<=a0.length/\a0.length<=1048576)(hr:InR a3.1.1.length a0)(hab:0<=a1/\a1<=a2/\a2<=↑a0_n):Con Tryz.prog 182 [(.s 0 (0+a0_o*1) a0_n 1),(iv a1),(iv a2),(.f 1000126 [(.a [(.p 1 0),(iv a3.2)])])] [(.live true true (flat c3 a0)),(.live false false [(.s 2 0 a3.1.1.length 10),(iv a3.1.2.1),(.s 0 0 a0.length 1),(.s 3 0 a3.1.2.2.2.length 8)]),(.live false true (flat fJ a3.1.1)),(.live false true (flat fP a3.1.2.2.2))] (.t []) [] [(.live true true (flat c3 (gR a0 a0_o a0_n a1 a2 a3))),.un,.un,.un]:=by
 refine cS Tryz.func182 fun cx hcx=>?_
 have hw_a:=aG (n:=a1+1) (by omega) (by omega);have e:=Eq.refl (gR a0 a0_o a0_n a1 a2 a3);(conv at e=>rhs;simp only [gR]);rw [e];refine eN [] [0,1,2,3,8] [] hcx gV (jH a0 a0_o a0_n a1 a2 a3 (flat c3 a0) (a0.length) (W (a1+1))) (tN (a2 - (W (a1+1)))+1) ?_;exact aEd a0 a0_o a0_n a1 a2 a3 l0 l3_1_1 l3_1_2_2_1 l3_1_2_2_2 hw hr hab hcx (tN (a2 - (W (a1+1)))+1) a0 (W (a1+1)) (by refine⟨?_,?_,?_,?_⟩<;>first | omega | assumption | exact hi.2.1 | exact hi.2.2.1 | (simp only [Lt];omega) | exact InR.swap hi.2.1 (by omega) (by omega)) (by omega)
end Go.Proofs.YtlffahoikfahlaaGreat
