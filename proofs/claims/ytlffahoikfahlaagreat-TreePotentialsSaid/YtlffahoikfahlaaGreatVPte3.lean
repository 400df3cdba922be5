/-
  Parts of the proofs of the laws: the executor, what functions of the program compute, and that it is what the statements ask. No premise.
-/
import Derived.Test.YtlffahoikfahlaaGreatVPte2
import Derived.Test.YtlffahoikfahlaaGreatRows
import Derived.Shelf.Abstract
import Derived.ProofKit
import Derived.OpenShut
set_option linter.unusedVariables false
set_option linter.unusedSimpArgs false
set_option maxHeartbeats 4000000
open Int renaming toNat → tN
open Inhabited renaming default → dF
open Go.IntKind renaming wrap → iW
open BitVec renaming ofInt → bO
open Int renaming tdiv → tD
open Int renaming fdiv → fD
open Int renaming tmod → mD
namespace Go.Aw
open Go.RowKit
def hP (a b:Int):Int:=if b < a then b else a
def bT (a b:Int):Int:=if a < b then b else a
theorem aG3 {l:List SV} (h:belowL 0 l=true):Plain l:=fun k hk=>absurd (belowL_has h hk) (dX _)
def mapE {α β:Type} (kc:α->SV)(vc:β->SV)(l:List (α×β)):List (SV×SV):=l.map fun e=>(kc e.1,vc e.2)
def qL {α β:Type} [DecidableEq α] (k:α):List (α×β)->Option (Nat×β)
 | []=>none
 | e::l=>if e.1=k then some (0,e.2) else match qL k l with
  | some q=>some (q.1+1,q.2)
  | none=>none
def aVb {α β:Type} [DecidableEq α] (l:List (α×β))(k:α)(d:β):β:=match qL k l with
 | some q=>q.2
 | none=>d
def aPu {α β:Type} [DecidableEq α] (l:List (α×β))(k:α)(v:β):List (α×β):=match qL k l with
 | some q=>l.set q.1 (k,v)
 | none=>l++[(k,v)]
structure KeyOK {α:Type} (T:Nat->Option TI) (kt:Nat) (kc:α->SV):Prop where
 hb:∀x,rB T kt (kc x)=true
 he:∀x y,∃b,eqC T 100 kt (kc x).cells (kc y).cells=some b/\(b=true↔kc y=kc x)
 inj:∀x y,kc x=kc y->x=y
 pl:∀x,xS 0 (kc x)=true
theorem aC4 {α β:Type} {kc:α->SV} {vc:β->SV} {l:List (α×β)} {i:Nat} {x:SV×SV} (h:(mapE kc vc l)[i]? = some x):∃e,l[i]? = some e/\x=(kc e.1,vc e.2):=by
 unfold mapE at h;rw [List.getElem?_map] at h;cases hl:l[i]? with
 | none=>rw [hl] at h;cases h
 | some e=>rw [hl] at h;simp at h;exact⟨e,rfl,h.symm⟩
theorem aJw {α β:Type} {kc:α->SV} {vc:β->SV} {l:List (α×β)} {T:Nat->Option TI} {kt:Nat} {k:α} (hk:KeyOK T kt kc):qF T kt (mapE kc vc l) (kc k):=fun e he=>by
 obtain⟨i,hi⟩:=List.getElem?_of_mem he;obtain⟨e',_,rfl⟩:=aC4 hi;exact⟨hk.hb _,hk.he k e'.1⟩
section
variable {α β : Type} [DecidableEq α] {kc : α → SV} {vc : β → SV} {l : List (α × β)} {k : α} {T : Nat → Option TI} {kt : Nat}
theorem aC5:∀{l:List (α×β)} {q:Nat×β},qL k l=some q->l[q.1]? = some (k,q.2)/\∀j e,j < q.1->l[j]? = some e->e.1≠k
 | [],q,h=>by simp [qL] at h
 | e::l,q,h=>by
  simp only [qL] at h;split at h
  ·rename_i he;simp only [bG] at h;subst h;exact⟨by rw [←he];rfl,fun j e hj=>absurd hj (dX _)⟩
  ·rename_i he;split at h
   ·rename_i q' hq;simp only [bG] at h;subst h;obtain⟨h1,h2⟩:=aC5 hq;refine⟨by simpa using h1,fun j e' hj hje=>?_⟩;cases j with
    | zero=>simp at hje;rw [←hje];exact he
    | succ j=>exact h2 j e' oM (by simpa using hje)
   ·cases h
theorem aC6:∀{l:List (α×β)},qL k l=none->∀e∈l,e.1≠k
 | [],_,e,he=>by simp at he
 | e::l,h,e',he=>by
  simp only [qL] at h;split at h
  ·cases h
  ·rename_i hne;split at h
   ·cases h
   ·rename_i hn;rcases List.mem_cons.1 he with rfl | he
    ·exact hne
    ·exact aC6 hn e' he
theorem aNy (hk:KeyOK T kt kc):aIy (mapE kc vc l) (kc k) ((qL k l).map fun q=>(q.1,vc q.2)):=by
 cases h:qL k l with
 | some q =>
  obtain⟨h1,h2⟩:=aC5 h;refine .inl ⟨q.1,vc q.2,by unfold mapE;rw [List.getElem?_map,h1];rfl,fun j e hj he=>?_,rfl⟩;obtain⟨e',he',rfl⟩:=aC4 he;exact fun hc=>h2 j e' hj he' (hk.inj _ _ hc)
 | none =>
  refine .inr ⟨fun e he hc=>?_,rfl⟩;obtain⟨i,hi⟩:=List.getElem?_of_mem he;obtain⟨e',he',rfl⟩:=aC4 hi;exact aC6 h e' (List.mem_of_getElem? he') (hk.inj _ _ hc)
theorem aRc (d:β):vc (aVb l k d)=(((qL k l).map fun q=>(q.1,vc q.2)).map (·.2)).getD (vc d):=by
 unfold aVb;cases qL k l<;>rfl
theorem aVc (hk:KeyOK T kt kc)(v:β):aUv (mapE kc vc l) (kc k) (vc v) (mapE kc vc (aPu l k v)):=by
 refine⟨_,aNy hk,?_⟩;unfold aPu;cases h:qL k l with
 | some q=>simp [mapE,List.map_set]
 | none=>simp [mapE]
variable {P : Program}
def St.z (id:Nat):St P:=⟨[.stop id],[],trivial⟩
def St.mG (hk:KeyOK T kt kc)(vc:β->SV)(l:List (α×β))(k:α)(d:β):St P := ⟨[.ld [vc (aVb l k d)]],[.pr (qF T kt (mapE kc vc l) (kc k)),.pr (∃q,aIy (mapE kc vc l) (kc k) q/\vc (aVb l k d)=(q.map (·.2)).getD (vc d))],aJw hk,⟨_,aNy hk,aRc d⟩,trivial⟩
def St.mPl (hk:KeyOK T kt kc)(l:List (α×SV))(k:α)(v:SV)(hv:belowL 0 (kE (mapE kc (fun x=>x) (aPu l k v)))=true:=by kernel_rfl):St P :=
 ⟨[.mp (mapE kc (fun x=>x) (aPu l k v))],[.pr (qF T kt (mapE kc (fun x=>x) l) (kc k)),.pr (aUv (mapE kc (fun x=>x) l) (kc k) v (mapE kc (fun x=>x) (aPu l k v))),.pr (Plain (kE (mapE kc (fun x=>x) (aPu l k v))))],aJw hk,aVc (vc:=fun x=>x) hk v,aG3 hv,trivial⟩
end
def St.sub {P:Program} (a b:Int)(n:Nat)(h:0<=a/\a<=b/\b<=(n:Int):=by omega):St P:=⟨[.mp []],[.pr (0<=a/\a<=b/\b<=(n:Int))],h,trivial⟩
theorem aYg {T:Nat->Option TI} {kt:Nat} {k:IntKind} (h1:∀n,rB T kt (.v (.int k n))=true)(h2:∀a b,eqC T 100 kt [.v (.int k a)] [.v (.int k b)]=some (a == b)):KeyOK T kt (fun n:Int=>SV.v (.int k n)) :=
 ⟨h1,fun x y=>⟨_,h2 x y,by simp only [beq_iff_eq,SV.v.injEq,Value.int.injEq,true_and];exact eq_comm⟩,fun x y h=>by simpa using h,fun _=>rfl⟩
section
variable {P : Program}
theorem aVd {α:Type} {c:α->List SV} (hc:∀x,(c x).all SV.plain=true)(l:List α):Plain (flat c l):=jA hc
def St.D {α:Type} {c:α->List SV} {c2:List α->List SV} (es:Nat)(hc2:∀x,c2 x=[.d (flat c x) x.length es])(l:List (List α))(i:Int)(h:0<=i/\i < (l.length:Int):=by omega) (hc:∀x,(c x).all SV.plain=true:=by exact fun _=>rfl):St P :=
 ⟨[.ld [.d (flat c (l.getD i.toNat dF)) (l.getD i.toNat dF).length es]],[.pr (((flat c2 l).drop (0+i.toNat*1)).take 1=[.d (flat c (l.getD i.toNat dF)) (l.getD i.toNat dF).length es]),.pr (Plain (flat c (l.getD i.toNat dF)))],
  by
   have h1:∀x,(c2 x).length=1:=fun x=>by rw [hc2];rfl
   have:=aNx h1 l i 0 1 h (by decide);rw [Nat.add_zero] at this;show _=_;rw [this,hc2];rfl,aVd hc _,trivial⟩
theorem aRd {α:Type} {c:α->List SV} {z:α} (n:Nat):flat c (List.replicate n z)=(List.replicate n (c z)).flatten:=by
 unfold flat;rw [List.flatMap_def,List.map_replicate]
def St.Z {α:Type} (c:α->List SV)(z:α)(zs:List SV)(n:Int)(bytes:Nat)(h:0<=n/\n.toNat*bytes<=2 ^ 47/\n<=2 ^ 47:=by omega) (e:c z=zs:=by rfl):St P :=
 ⟨[.ld (flat c (List.replicate n.toNat z))],[.pr (0<=n/\n.toNat*bytes<=2 ^ 47/\n<=2 ^ 47),.pr (n=n),.pr (flat c (List.replicate n.toNat z)=(List.replicate n.toNat zs).flatten)],h,rfl,by rw [←e];exact aRd _,trivial⟩
theorem qM {α:Type} {c:α->List SV} {es:Nat} (hc:∀x,(c x).length=es):∀(l:List α) (n:Nat),(flat c l).drop (n*es)=flat c (l.drop n)
 | [],n=>by simp [flat]
 | x::l,0=>by simp
 | x::l,n+1=>by
  rw [lK,Nat.add_mul,Nat.one_mul,Nat.add_comm,←List.drop_drop,List.drop_left' (hc x),qM hc l n];simp
theorem qN {α:Type} {c:α->List SV} {es:Nat} (hc:∀x,(c x).length=es):∀(l:List α) (n:Nat),(flat c l).take (n*es)=flat c (l.take n)
 | [],n=>by simp [flat]
 | x::l,0=>by simp [flat]
 | x::l,n+1=>by
  rw [lK,Nat.add_mul,Nat.one_mul,Nat.add_comm,←hc x,List.take_length_add_append,hc x,qN hc l n];simp [lK]
def part {α:Type} (l:List α)(a b:Int):List α:=(l.drop a.toNat).take (b.toNat - a.toNat)
theorem bD {α:Type} {l:List α} {a b:Int} (h:0<=a/\a<=b/\b<=l.length):(part l a b).length=b.toNat - a.toNat:=by
 unfold part;rw [List.length_take,List.length_drop];omega
def St.S {α:Type} {c:α->List SV} {es:Nat} (hc:∀x,(c x).length=es)(l:List α)(a b:Int)(n:Nat)(h:0<=a/\a<=b/\b<=(n:Int):=by omega):St P :=
 ⟨[.ld (flat c (part l a b))],[.pr (0<=a/\a<=b/\b<=(n:Int)),.pr (flat c (part l a b)=((flat c l).drop (0+a.toNat*es)).take ((b.toNat - a.toNat)*es))],h,by rw [Nat.zero_add,qM hc,qN hc];rfl,trivial⟩
end
end Go.Aw
namespace Go.Aw
open Go.RowKit
mutual
def SV.hasB (i:Nat):SV->Bool | .p j _=>j == i | .s j _ _ _=>j == i | .m j=>j == i | .f _ caps=>SV.hasBl i caps | .a l=>SV.hasBl i l | .t l=>SV.hasBl i l | _=>false
def SV.hasBl (i:Nat):List SV->Bool | []=>false | x::l=>SV.hasB i x || SV.hasBl i l
end
mutual
theorem aW5 {i:Nat}:∀(x:SV),x.has i->x.hasB i=true
 | .u,h=>by simp [SV.has] at h
 | .b _,h=>by simp [SV.has] at h
 | .v _,h=>by simp [SV.has] at h
 | .d _ _ _,h=>by simp [SV.has] at h
 | .p j _,h=>by simp only [SV.has] at h;simp [SV.hasB,h]
 | .s j _ _ _,h=>by simp only [SV.has] at h;simp [SV.hasB,h]
 | .m j,h=>by simp only [SV.has] at h;simp [SV.hasB,h]
 | .f _ caps,h=>by simp only [SV.has] at h;simp only [SV.hasB];exact hasl_B caps h
 | .a l,h=>by simp only [SV.has] at h;simp only [SV.hasB];exact hasl_B l h
 | .t l,h=>by simp only [SV.has] at h;simp only [SV.hasB];exact hasl_B l h
theorem hasl_B {i:Nat}:∀(l:List SV),SV.hasl i l->SV.hasBl i l=true
 | [],h=>by simp [SV.hasl] at h
 | x::l,h=>by
  simp only [SV.hasl] at h;simp only [SV.hasBl,Bool.or_eq_true];exact h.imp (aW5 x) (hasl_B l)
end
def BK.hasB (i:Nat):BK->Bool | .live _ false cells=>SV.hasBl i cells | .map es=>SV.hasBl i (kE es) | _=>false
theorem aYh {i:Nat} {x:BK} (hpl:x.pl)(h:x.has i):x.hasB i=true:=by
 cases x with
 | un=>exact h.elim
 | dead=>exact h.elim
 | map es=>exact hasl_B _ h
 | live own sym cells =>
  cases sym
  case true=>exact(hpl i h).elim
  exact hasl_B _ h
section
variable {P : Program} {ρ : Env} {W : World} {M : Nat → Prop}
theorem aJx {α:Type} {c:α->List SV} {es:Nat} (hc:∀x,(c x).length=es) {l:List α} {a b:Int} (hab:0<=a/\a<=b/\b<=l.length) {i:Nat} {y:Value}
 (hr:Rel ρ (.s i (0+a.toNat*es) (b.toNat - a.toNat) es) y) (hb:BRep ρ M W i (.live false true (flat c l))) (hpl:Plain (flat c l)) :
 ∃q,∀(k:Nat) (ρ2:Env),ρ2 k=q->ρ2.fz=ρ.fz->Rel ρ2 (.s k 0 (part l a b).length es) y/\BRep ρ2 M W k (.live false true (flat c (part l a b))):=by
 have hl:=bD hab;have hf:flat c (part l a b)=((flat c l).drop (a.toNat*es)).take ((b.toNat - a.toNat)*es):=by rw [qM hc,qN hc];rfl
 simp only [Rel] at hr;rcases hr with⟨h1,h2,h3⟩ | ⟨b0,o,N,cap,off',sp,h1,h2,h3,h4,h5⟩
 ·refine⟨none,fun k ρ2 hq hfz=>⟨?_,.inl ⟨hq,?_⟩⟩⟩
  ·simp only [Rel];exact .inl ⟨hq,by omega,h3⟩
  ·rw [hf,h2];simp
 ·refine⟨some (b0,o+off',cap*es),fun k ρ2 hq hfz=>⟨?_,?_⟩⟩
  ·simp only [Rel];exact .inr ⟨b0,o+off',cap*es,cap,0,sp,hq,by rw [hl,Nat.add_zero];exact h2,by rw [hl];exact h3,by omega,fun hc=>⟨rfl,(h5 hc).2⟩⟩
  ·rcases hb with⟨e1,_⟩ | ⟨b1,o1,n1,vs,e1,⟨e2,e3⟩,e4,e5⟩
   ·rw [h1] at e1;cases e1
   ·rw [h1] at e1;simp only [bG,eA] at e1;obtain⟨rfl,rfl,rfl⟩:=e1;have hle:(b.toNat - a.toNat)*es<=cap*es:=Nat.mul_le_mul_right _ h3;refine .inr ⟨b0,o+off',cap*es,(vs.drop (a.toNat*es)).take ((b.toNat - a.toNat)*es),hq,⟨by rw [List.length_take];omega,fun hne hM=>?_⟩,?_,fun t x hx=>?_⟩
    ·rw [hfz];exact e3 (fun e=>hne (by rw [e];simp)) hM
    ·rw [hf];have hp2:Plain (((flat c l).drop (a.toNat*es)).take ((b.toNat - a.toNat)*es)):=fun j hj=>hpl j (kG (kF hj))
     exact Plain.congr (fun b o ho=>by rw [hfz];exact ho) hp2 (Rels.take _ (Rels.drop _ e4))
    ·have ht:=(List.getElem?_eq_some_iff.1 hx).1;rw [List.length_take] at ht;rw [List.getElem?_take_of_lt oM,List.getElem?_drop] at hx;have hcap:cap≠0:=by
      intro e;rw [e] at hle;omega
     rw [(h5 hcap).1,show o+(0+a.toNat*es)+t=o+(a.toNat*es+t) by omega];exact e5 _ x hx
theorem zV {ρ ρ2:Env} {x y:SV}:∀{pre post:List SV} {vs:List Value},Rels ρ (pre++x::post) vs->ρ.le ρ2->(∀j,SV.hasl j pre\/SV.hasl j post->ρ2 j=ρ j)->(∃v,vs[pre.length]? = some v/\Rel ρ2 y v)->Rels ρ2 (pre++y::post) vs
 | [],post,[],h,_,_,_=>by simp [Rels] at h
 | [],post,v::vs,h,hf,hj,hx=>by
  simp only [List.nil_append,Rels] at h ⊢;obtain⟨v',e,hx⟩:=hx;simp only [List.length_nil,List.getElem?_cons_zero,bG] at e;subst e;exact⟨hx,Rels.congr hf _ _ (fun j hk=>hj j (.inr hk)) h.2⟩
 | z::pre,post,[],h,_,_,_=>by simp [Rels] at h
 | z::pre,post,v::vs,h,hf,hj,hx=>by
  simp only [List.cons_append,Rels] at h ⊢;refine⟨Rel.congr hf _ _ (fun j hk=>hj j (.inl (by simp only [SV.hasl];exact .inl hk))) h.1,zV h.2 hf (fun j hk=>hj j ?_) ?_⟩
  ·rcases hk with hk | hk
   ·exact .inl (by simp only [SV.hasl];exact .inr hk)
   ·exact .inr hk
  ·obtain⟨v',e,hx⟩:=hx;exact⟨v',by simpa using e,hx⟩
theorem aG4 {x:SV}:∀{pre post:List SV} {vs:List Value},Rels ρ (pre++x::post) vs->∃v,vs[pre.length]? = some v/\Rel ρ x v
 | [],_,[],h=>by simp [Rels] at h
 | [],_,v::_,h=>by simp only [List.nil_append,Rels] at h;exact⟨v,rfl,h.1⟩
 | _::_,_,[],h=>by simp [Rels] at h
 | _::pre,_,_::_,h=>by
  simp only [List.cons_append,Rels] at h;obtain⟨v,e,hx⟩:=aG4 h.2;exact⟨v,by simpa using e,hx⟩
theorem gF {x:BK} {bs1 bs2:List BK} (j:Nat):(bs1++x::bs2).getD j .un=if j=bs1.length then x else if j < bs1.length then bs1.getD j .un else bs2.getD (j - bs1.length - 1) .un:=by
 simp only [gS];by_cases h:j=bs1.length
 ·subst h;simp
 ·rw [if_neg h];by_cases h2:j < bs1.length
  ·rw [if_pos h2,List.getElem?_append_left h2]
  ·rw [if_neg h2,List.getElem?_append_right oM];obtain⟨k,hk⟩:∃k,j - bs1.length=k+1:=⟨j - bs1.length - 1,by omega⟩;rw [hk];simp
theorem Con.part {f:Nat} {pre post:List SV} {bs1 bs2 nb:List BK} {res:SV} {α:Type} {c:α->List SV} {es:Nat} {l:List α} {a b:Int} (i:Nat)(hc:∀x,(c x).length=es)(hab:0<=a/\a<=b/\b<=l.length)(hi:bs1.length=i)
 (hno:(!SV.hasBl i pre&&!SV.hasBl i post&&bs1.all (fun x=>!x.hasB i)&&bs2.all (fun x=>!x.hasB i)&&nb.all (fun x=>!x.hasB i)&&!res.hasB i)=true)
 (h:Con P f (pre++.s i 0 (Aw.part l a b).length es::post) (bs1++.live false true (flat c (Aw.part l a b))::bs2) res nb) :
 Con P f (pre++.s i (0+a.toNat*es) (b.toNat - a.toNat) es::post) (bs1++.live false true (flat c l)::bs2) res nb:=by
 subst hi;simp only [Bool.and_eq_true,Bool.not_eq_true',List.all_eq_true] at hno;obtain⟨⟨⟨⟨⟨n1,n2⟩,n3⟩,n4⟩,n5⟩,n6⟩:=hno;refine⟨h.1,fun ρ W vs hr hb hpl hap hfz=>?_⟩;obtain⟨y,hy,hry⟩:=aG4 hr;have hbi:=hb bs1.length;have hpi:=hpl bs1.length;rw [gF,if_pos rfl] at hbi hpi;obtain⟨q,hq⟩:=aJx hc hab hry hbi hpi;have hne:∀j,j≠bs1.length->(ρ.set bs1.length q) j=ρ j:=fun j hj=>by rw [Env.set_loc,if_neg hj]
 have hat:(ρ.set bs1.length q) bs1.length=q:=by rw [Env.set_loc,if_pos rfl]
 have hown:vI (ρ.set bs1.length q) (bs1++.live false true (flat c (Aw.part l a b))::bs2)=vI ρ (bs1++.live false true (flat c l)::bs2):=by
  funext b0
  apply propext;unfold vI;constructor
  ·rintro ⟨j,n,h1,h2⟩
   rw [gF] at h1;by_cases hj:j=bs1.length
   ·rw [if_pos hj] at h1;exact h1.elim
   ·refine⟨j,n,?_,by rw [←hne j hj];exact h2⟩;rw [gF,if_neg hj];rw [if_neg hj] at h1;exact h1
  ·rintro ⟨j,n,h1,h2⟩
   rw [gF] at h1;by_cases hj:j=bs1.length
   ·rw [if_pos hj] at h1;exact h1.elim
   ·refine⟨j,n,?_,by rw [hne j hj];exact h2⟩;rw [gF,if_neg hj];rw [if_neg hj] at h1;exact h1
 have hmine:(cO (ρ.set bs1.length q) W (bs1++.live false true (flat c (Aw.part l a b))::bs2)).mine=(cO ρ W (bs1++.live false true (flat c l)::bs2)).mine:=by
  funext b0
  unfold Cx.mine cO;simp only [hown]
 obtain⟨g1,g2⟩:=hq bs1.length (ρ.set bs1.length q) hat rfl;have blk:∀j,j≠bs1.length->(bs1++BK.live false true (flat c (Aw.part l a b))::bs2).getD j .un=(bs1++BK.live false true (flat c l)::bs2).getD j .un:=fun j hj=>by rw [gF,gF,if_neg hj,if_neg hj]
 have nohas:∀j,j≠bs1.length->¬((bs1++BK.live false true (flat c l)::bs2).getD j .un).has bs1.length:=fun j hj hk=>by
  have hB:=aYh (hpl j) hk;rw [gF,if_neg hj] at hB;split at hB
  ·rename_i hlt;rw [gS,List.getElem?_eq_getElem hlt,Option.getD_some] at hB;rw [n3 _ (List.getElem_mem hlt)] at hB;cases hB
  ·by_cases hlt:j - bs1.length - 1 < bs2.length
   ·rw [gS,List.getElem?_eq_getElem hlt,Option.getD_some] at hB;rw [n4 _ (List.getElem_mem hlt)] at hB;cases hB
   ·rw [gS,List.getElem?_eq_none oM,Option.getD_none] at hB;cases hB
 have nol:∀{m:List SV},SV.hasBl bs1.length m=false->∀j,SV.hasl j m->j≠bs1.length:=fun hm j hj e=>by
  subst e;rw [hasl_B _ hj] at hm;cases hm
 have hcall:=h.2 (ρ.set bs1.length q) W vs ?_ ?_ ?_ ?_ ?_
 ·refine hcall.mono fun e W' hR=>?_
  obtain⟨ρ',v,r1,r2,r3,r4,r5,r6,r7,r8,r9⟩:=hR;have hbase:(cO (ρ.set bs1.length q) W (bs1++.live false true (flat c (Aw.part l a b))::bs2)).base=(cO ρ W (bs1++.live false true (flat c l)::bs2)).base:=by simp [cO]
  have hlt:bs1.length < (cO ρ W (bs1++.live false true (flat c l)::bs2)).base:=by simp [cO]
  rw [hbase] at r2 r5 r6 r7 r9;rw [hmine] at r5 r9;have hnb:∀j,¬(fQ (cO ρ W (bs1++.live false true (flat c l)::bs2)).base [] nb j).has bs1.length:=fun j hk=>by
   have hB:=aYh (r6 j) hk;unfold fQ at hB;split at hB
   ·simp [BK.hasB] at hB
   ·rename_i hge;by_cases hl2:j - (cO ρ W (bs1++.live false true (flat c l)::bs2)).base < nb.length
    ·rw [gS,List.getElem?_eq_getElem hl2,Option.getD_some] at hB;rw [n5 _ (List.getElem_mem hl2)] at hB;cases hB
    ·rw [gS,List.getElem?_eq_none oM,Option.getD_none] at hB;cases hB
  have ho:∀j,(fQ (cO ρ W (bs1++.live false true (flat c l)::bs2)).base [] nb j).own->j≠bs1.length:=fun j hj e=>by
   subst e;unfold fQ at hj;rw [if_pos hlt] at hj;exact hj
  have hs:∀j,j≠bs1.length->(ρ'.set bs1.length (ρ bs1.length)) j=ρ' j:=fun j hj=>by rw [Env.set_loc,if_neg hj]
  refine⟨ρ'.set bs1.length (ρ bs1.length),v,r1,fun j hj=>?_,?_,?_,fun j=>?_,r6,fun j k b1 m1 b2 m2 hjk o1 o2 e1 e2=>?_,?_,fun b0 o0 hf0=>?_⟩
  ·by_cases hji:j=bs1.length
   ·subst hji;rw [Env.set_loc,if_pos rfl];rfl
   ·rw [hs j hji,r2 j hj];exact hne j hji
  ·exact Rel.congr (ρ'.le_set _ _) _ _ (fun j hk=>hs j (fun e=>by subst e;rw [aW5 _ hk] at n6;cases n6)) r3
  ·have:(cO (ρ.set bs1.length q) W (bs1++.live false true (flat c (Aw.part l a b))::bs2)).own=(cO ρ W (bs1++.live false true (flat c l)::bs2)).own:=hown;rw [this] at r4;exact r4
  ·by_cases hji:j=bs1.length
   ·subst hji;unfold fQ;rw [if_pos hlt];trivial
   ·exact BRep.congr (ρ'.le_set _ _) (hs j hji) (fun k hk=>hs k (fun e=>by subst e;exact hnb j hk)) (r5 j)
  ·rw [hs j (ho j o1)] at e1;rw [hs k (ho k o2)] at e2;exact r7 j k b1 m1 b2 m2 hjk o1 o2 e1 e2
  ·exact r8
  ·obtain⟨t1,t2,t3⟩:=r9 b0 o0 hf0;exact⟨t1,fun j n hj=>by rw [hs j (ho j hj)];exact t2 j n hj,t3⟩
 ·refine zV hr (ρ.le_set _ _) (fun j hj=>hne j ?_) ⟨y,hy,g1⟩;rcases hj with hj | hj
  ·exact nol n1 j hj
  ·exact nol n2 j hj
 ·intro j;rw [hmine];by_cases hj:j=bs1.length
  ·rw [hj,gF,if_pos rfl];exact g2
  ·rw [blk j hj];exact BRep.congr (ρ.le_set _ _) (hne j hj) (fun k hk=>hne k (fun e=>by subst e;exact nohas j hj hk)) (hb j)
 ·intro j;by_cases hj:j=bs1.length
  ·rw [hj,gF,if_pos rfl];show Plain _;have hf:flat c (Aw.part l a b)=((flat c l).drop (a.toNat*es)).take ((b.toNat - a.toNat)*es):=by rw [qM hc,qN hc];rfl
   rw [hf];exact fun k hk=>hpi k (kG (kF hk))
  ·rw [blk j hj];exact hpl j
 ·intro j k b1 m1 b2 m2 hjk o1 o2 e1 e2;have hj:j≠bs1.length:=fun e=>by rw [e,gF,if_pos rfl] at o1;exact o1
  have hk:k≠bs1.length:=fun e=>by rw [e,gF,if_pos rfl] at o2;exact o2
  rw [blk j hj] at o1;rw [blk k hk] at o2;rw [hne j hj] at e1;rw [hne k hk] at e2;exact hap j k b1 m1 b2 m2 hjk o1 o2 e1 e2
 ·intro b0 o0 hf0;obtain⟨t1,t2⟩:=hfz b0 o0 hf0;refine⟨t1,fun j n hj=>?_⟩;have hji:j≠bs1.length:=fun e=>by rw [e,gF,if_pos rfl] at hj;exact hj
  rw [blk j hji] at hj;rw [hne j hji];exact t2 j n hj
theorem nS {x:BK} {bs:List BK} (j:Nat):(bs++[x]).getD j .un=if j=bs.length then x else bs.getD j .un:=by
 rw [gF (bs2:=[])];by_cases h:j=bs.length
 ·rw [if_pos h,if_pos h]
 ·rw [if_neg h,if_neg h];by_cases h2:j < bs.length
  ·rw [if_pos h2]
  ·rw [if_neg h2];simp only [gS];rw [List.getElem?_eq_none (by omega:bs.length<=j)];simp
theorem Con.alias {f:Nat} {pre post:List SV} {bs:List BK} {res:SV} {α:Type} {c:α->List SV} {es:Nat} {l:List α} {a b:Int} (i:Nat)(hc:∀x,(c x).length=es)(hab:0<=a/\a<=b/\b<=l.length)
 (hi:bs[i]? = some (.live false true (flat c l)))
 (hno:(!SV.hasBl bs.length pre&&!SV.hasBl bs.length post&&bs.all (fun x=>!x.hasB bs.length)&&!res.hasB bs.length)=true)
 (h:Con P f (pre++.s bs.length 0 (Aw.part l a b).length es::post) (bs++[.live false true (flat c (Aw.part l a b))]) res []) :
 Con P f (pre++.s i (0+a.toNat*es) (b.toNat - a.toNat) es::post) bs res []:=by
 simp only [Bool.and_eq_true,Bool.not_eq_true',List.all_eq_true] at hno;obtain⟨⟨⟨n1,n2⟩,n3⟩,n6⟩:=hno;refine⟨h.1,fun ρ W vs hr hb hpl hap hfz=>?_⟩;have hilt:=(List.getElem?_eq_some_iff.1 hi).1;have hgi:bs.getD i .un=.live false true (flat c l):=by rw [gS,hi];rfl
 obtain⟨y,hy,hry⟩:=aG4 hr;have hbi:=hb i;have hpi:=hpl i;rw [hgi] at hbi hpi;obtain⟨q,hq⟩:=aJx hc hab hry hbi hpi;have hne:∀j,j≠bs.length->(ρ.set bs.length q) j=ρ j:=fun j hj=>by rw [Env.set_loc,if_neg hj]
 have hat:(ρ.set bs.length q) bs.length=q:=by rw [Env.set_loc,if_pos rfl]
 have hend:bs.getD bs.length .un=.un:=by rw [gS,List.getElem?_eq_none (Nat.le_refl _)];rfl
 have hown:vI (ρ.set bs.length q) (bs++[.live false true (flat c (Aw.part l a b))])=vI ρ bs:=by
  funext b0
  apply propext;unfold vI;constructor
  ·rintro ⟨j,n,h1,h2⟩
   rw [nS] at h1;by_cases hj:j=bs.length
   ·rw [if_pos hj] at h1;exact h1.elim
   ·rw [if_neg hj] at h1;exact⟨j,n,h1,by rw [←hne j hj];exact h2⟩
  ·rintro ⟨j,n,h1,h2⟩
   have hj:j≠bs.length:=fun e=>by rw [e,hend] at h1;exact h1
   exact⟨j,n,by rw [nS,if_neg hj];exact h1,by rw [hne j hj];exact h2⟩
 have hmine:(cO (ρ.set bs.length q) W (bs++[.live false true (flat c (Aw.part l a b))])).mine=(cO ρ W bs).mine:=by
  funext b0
  unfold Cx.mine cO;simp only [hown]
 obtain⟨g1,g2⟩:=hq bs.length (ρ.set bs.length q) hat rfl;have nohas:∀j,¬(bs.getD j .un).has bs.length:=fun j hk=>by
  have hB:=aYh (hpl j) hk;by_cases hlt:j < bs.length
  ·rw [gS,List.getElem?_eq_getElem hlt,Option.getD_some] at hB;rw [n3 _ (List.getElem_mem hlt)] at hB;cases hB
  ·rw [gS,List.getElem?_eq_none oM,Option.getD_none] at hB;cases hB
 have nol:∀{m:List SV},SV.hasBl bs.length m=false->∀j,SV.hasl j m->j≠bs.length:=fun hm j hj e=>by
  subst e;rw [hasl_B _ hj] at hm;cases hm
 have hcall:=h.2 (ρ.set bs.length q) W vs ?_ ?_ ?_ ?_ ?_
 ·refine hcall.mono fun e W' hR=>?_
  obtain⟨ρ',v,r1,r2,r3,r4,r5,r6,r7,r8,r9⟩:=hR;have un1:∀j,fQ (cO ρ W bs).base [] [] j=.un:=fun j=>by unfold fQ;simp
  have un2:∀j,fQ (cO (ρ.set bs.length q) W (bs++[.live false true (flat c (Aw.part l a b))])).base [] [] j=.un:=fun j=>by unfold fQ;simp
  refine⟨ρ',v,r1,fun j hj=>?_,r3,?_,fun j=>?_,fun j=>?_,fun j k b1 m1 b2 m2 hjk o1 o2 e1 e2=>?_,r8,fun b0 o0 hf0=>?_⟩
  ·have hj':j < bs.length:=hj;rw [r2 j (by simp [cO];omega)];exact hne j oM
  ·have:(cO (ρ.set bs.length q) W (bs++[.live false true (flat c (Aw.part l a b))])).own=(cO ρ W bs).own:=hown;rw [this] at r4;exact r4
  ·rw [un1];trivial
  ·rw [un1];trivial
  ·rw [un1] at o1;exact o1.elim
  ·obtain⟨t1,t2,t3⟩:=r9 b0 o0 hf0;rw [hmine] at t3;exact⟨t1,fun j n hj=>by rw [un1] at hj;exact hj.elim,t3⟩
 ·refine zV hr (ρ.le_set _ _) (fun j hj=>hne j ?_) ⟨y,hy,g1⟩;rcases hj with hj | hj
  ·exact nol n1 j hj
  ·exact nol n2 j hj
 ·intro j;rw [hmine,nS];by_cases hj:j=bs.length
  ·rw [if_pos hj,hj];exact g2
  ·rw [if_neg hj];exact BRep.congr (ρ.le_set _ _) (hne j hj) (fun k hk=>hne k (fun e=>by subst e;exact nohas j hk)) (hb j)
 ·intro j;rw [nS];by_cases hj:j=bs.length
  ·rw [if_pos hj];show Plain _;have hf:flat c (Aw.part l a b)=((flat c l).drop (a.toNat*es)).take ((b.toNat - a.toNat)*es):=by rw [qM hc,qN hc];rfl
   rw [hf];exact fun k hk=>hpi k (kG (kF hk))
  ·rw [if_neg hj];exact hpl j
 ·intro j k b1 m1 b2 m2 hjk o1 o2 e1 e2;rw [nS] at o1 o2;have hj:j≠bs.length:=fun e=>by rw [if_pos e] at o1;exact o1
  have hk:k≠bs.length:=fun e=>by rw [if_pos e] at o2;exact o2
  rw [if_neg hj] at o1;rw [if_neg hk] at o2;rw [hne j hj] at e1;rw [hne k hk] at e2;exact hap j k b1 m1 b2 m2 hjk o1 o2 e1 e2
 ·intro b0 o0 hf0;obtain⟨t1,t2⟩:=hfz b0 o0 hf0;refine⟨t1,fun j n hj=>?_⟩;rw [nS] at hj;have hji:j≠bs.length:=fun e=>by rw [if_pos e] at hj;exact hj
  rw [if_neg hji] at hj;rw [hne j hji];exact t2 j n hj
end
def aL2 (T:Nat->Option TI)(rv:List ResultVar)(base:Nat)(ms ks:List Nat):Option (Out×List Ob×List Or)->Option (SV×List BK×List BK×List Ob)
 | some (.norm s,obs,[])=>match fin T rv base ms ks s with
  | some (res,nb,mb)=>some (res,nb,mb,obs)
  | none=>none
 | _=>none
theorem aVe {P:Program} {T:Nat->Option TI} {cx:Cx} {n:Nat} (hT:nG P T)(hm:P.follows .mixedOrders=true) {fn:Func} {f:Nat} {k:List K} {s:LS} {orc:List Or} (ads:List Adj)(ms ks:List Nat) {base:Nat} (hb:cx.base=base) {res:SV} {nb mb:List BK} {obs:List Ob}
 (h:aL2 T fn.results.toList base ms ks (nJ ads (run T f k s orc))=some (res,nb,mb,obs)) (hob:Obs P obs):Good P none n (bodyPost P fn (RR cx res nb mb)) cx [] k s:=by
 subst hb;unfold aL2 at h;split at h
 ·rename_i s' obs' hrun;split at h
  ·rename_i res' nb' mb' hf;simp only [bG,eA] at h;obtain⟨rfl,rfl,rfl,rfl⟩:=h;obtain⟨o',hr,hg⟩:=pC (P:=P) (r:=none) (n:=n) (Q:=bodyPost P fn (RR cx res' nb' mb')) (cx:=cx) (D:=[]) hrun;exact fX hT hm f k s orc _ _ _ hr hob (hg (fun ρ a W hrep=>aLw hT hf ρ a W hrep))
  ·cases h
 ·cases h
end Go.Aw
namespace Go.Proofs.YtlffahoikfahlaaGreat
open Go.Proofs Go.Aw Go.RowKit
set_option maxRecDepth 100000
noncomputable def T0:=conv Tryz.prog
theorem hT:nG Tryz.prog T0:=fun _ _ h=>h
theorem hm:Tryz.prog.follows .mixedOrders=true:=by kernel_rfl
def W (n:Int):Int:=iW .i64 n
theorem aAz (n:Int):W n=if n % 18446744073709551616≥9223372036854775808 then n % 18446744073709551616 - 18446744073709551616 else n % 18446744073709551616:=by
 unfold W iW;simp [IntKind.bits,IntKind.signed]
theorem aH {n:Int} (h1:-9223372036854775808<=n)(h2:n < 9223372036854775808):W n=n:=by
 rw [aAz];split<;>omega
theorem aL3 (x:Int)(k:Nat) {m:Nat} (hm:(2:Int) ^ (min (tN k) 64)=m):fD x (2 ^ (min (tN k) 64))=x / m:=by
 rw [hm];exact Int.fdiv_eq_ediv_of_nonneg _ oM
theorem aG5 {a b:Int} (h:0<=a/\a<=b/\b<=2147483648):W (tD (W ((W (a+b))+1)) 2)=(a+b+1) / 2:=by
 rw [aH (n:=a+b) oM oM,aH (n:=a+b+1) oM oM,Int.tdiv_eq_ediv_of_nonneg oM,aH oM oM]
theorem aG6 {a b:Int} (h:0<=a/\a<=b/\b<=2147483648):W (tD (W (a+b)) 2)=(a+b) / 2:=by
 rw [aH (n:=a+b) oM oM,Int.tdiv_eq_ediv_of_nonneg oM,aH oM oM]
theorem aNz {a b:Int} (h:0<=a/\a<=b/\b<=2147483648):W ((W (tD (W ((W (a+b))+1)) 2)) - 1)=(a+b+1) / 2 - 1:=by
 rw [aG5 h,aH oM oM]
theorem dZ (n:Int):0<=iW .u64 n:=by
 simp only [iW,IntKind.bits,IntKind.signed];simp;omega
theorem aG7 (b:Bool):b=true\/b=false:=by cases b<;>simp
def k9 (x:Zt×Zt×Zt):List SV:=[(iv x.1.1),(iv x.1.2.1),(iv x.1.2.2),(iv x.2.1.1),(iv x.2.1.2.1),(iv x.2.1.2.2),(iv x.2.2.1),(iv x.2.2.2.1),(iv x.2.2.2.2)]
def k3 (x:Zt):List SV:=[(iv x.1),(iv x.2.1),(iv x.2.2)]
def k2 (x:Zs):List SV:=[(iv x.1),(iv x.2)]
section
variable {cx : Cx} {k : List K} {s : LS} {base : Nat} {Q : Exit → Act → World → Prop}
theorem rt {fn:Func} (sts:List (St Tryz.prog))(ads:List Adj)(ks:List Nat)(hb:cx.base=base) {res:SV} {nb:List BK}
 (h:aAv T0 fn.results.toList base [] ks (nJ ads (run T0 5000 k s (stO sts)))=some (res,nb,[],stB sts)):Aw.Good Tryz.prog none 9 (bodyPost Tryz.prog fn (RR cx res nb [])) cx [] k s:=bBa hT hm sts ads ks hb h
theorem zE {fn:Func} (sts:List (St Tryz.prog))(ads:List Adj)(ms ks:List Nat)(hb:cx.base=base) {res:SV} {nb mb:List BK}
 (h:aAv T0 fn.results.toList base ms ks (nJ ads (run T0 5000 k s (stO sts)))=some (res,nb,mb,stB sts)):Aw.Good Tryz.prog none 9 (bodyPost Tryz.prog fn (RR cx res nb mb)) cx [] k s:=aQ2 hT hm ads ms ks hb h (aL1 sts)
theorem rtn {fn:Func} (sts:List (St Tryz.prog))(ads:List Adj)(ms ks:List Nat)(hb:cx.base=base) {res:SV} {nb mb:List BK}
 (h:aL2 T0 fn.results.toList base ms ks (nJ ads (run T0 5000 k s (stO sts)))=some (res,nb,mb,stB sts)):Aw.Good Tryz.prog none 9 (bodyPost Tryz.prog fn (RR cx res nb mb)) cx [] k s:=aVe hT hm ads ms ks hb h (aL1 sts)
theorem en (sts:List (St Tryz.prog))(ads:List Adj)(ts ks:List Nat)(hb:cx.base=base)(body:Code)(k':List K)(s':LS)(m:Nat)
 (h:xT base ts ks (nJ ads (run T0 5000 k s (stO sts)))=some (body,k',s',stB sts)) (hg:Aw.Good Tryz.prog none 9 Q cx [] (.l body m::k') s'):Aw.Good Tryz.prog none 9 Q cx [] k s:=aVa hT hm sts ads ts ks hb body k' s' m h hg
theorem ba {m:Nat} (sts:List (St Tryz.prog))(ads:List Adj)(ts ks:List Nat)(hb:cx.base=base)(body:Code)(k':List K)(s':LS)
 (h:aCy base ts ks (nJ ads (run T0 5000 k s (stO sts)))=some (body,m,k',s',stB sts)) (hg:Aw.Good Tryz.prog none 9 Q cx [] (.l body m::k') s'):Aw.Good Tryz.prog none 9 Q cx [] k s:=aYf hT hm sts ads ts ks hb body k' s' h hg
theorem ga (sts:List (St Tryz.prog))(ads:List Adj)(ts ks:List Nat)(hb:cx.base=base)(x:Code)(k':List K)(s':LS)
 (h:aQ6 base ts ks (nJ ads (run T0 5000 k s (stO sts)))=some (x,k',s',stB sts)) (hg:Aw.Good Tryz.prog none 9 Q cx [] (.c x::k') s'):Aw.Good Tryz.prog none 9 Q cx [] k s:=bDv hT hm sts ads ts ks hb x k' s' h hg
end
def dT (a0:Zt)(a1:Int):Zt := ((W (a1*a0.1)),(W (a1*a0.2.1)),(W (a1*a0.2.2)))
abbrev SL:=List (St Tryz.prog)
abbrev gG (f:Func)(cx:Cx)(r:SV)(nb mb:List BK)(k:List K)(s:LS):Prop:=Aw.Good Tryz.prog none 9 (bodyPost Tryz.prog f (RR cx r nb mb)) cx [] k s
theorem cS {f : Nat} {fn : Func} {args : List SV} {bs : List BK} {res : SV} {nb mb : List BK} (hf : Tryz.prog.funcs[f]? = some fn) (h : ∀ cx : Cx, cx.base = bs.length → gG fn cx res nb mb [.c (aV fn)] (oA fn.ntmps args bs)) (hc : (fn.body.isSome && !(fn.name == "runtime.NumGoroutine") && decide (args.length ≤ fn.ntmps) && bs.all wG && belowL bs.length args && bs.all (wH bs.length)) = true := by kernel_rfl) : Con Tryz.prog f args bs res nb mb := bA9 hf hc h
section
variable {cx : Cx} {k : List K} {s : LS} {base : Nat} {Q : Exit → Act → World → Prop}
theorem rT {fn:Func} (sts:SL)(hb:cx.base=base) {res:SV} {nb:List BK} (h:aAv T0 fn.results.toList base [] [] (nJ [] (run T0 5000 k s (stO sts)))=some (res,nb,[],stB sts):=by kernel_rfl):gG fn cx res nb [] k s:=rt sts [] [] hb h
theorem bA (m:Nat)(sts:SL)(ts ks:List Nat)(hb:cx.base=base)(x:Code×List K)(s':LS)(hg:Aw.Good Tryz.prog none 9 Q cx [] (.l x.1 m::x.2) s')(h:aCy base ts ks (nJ [] (run T0 5000 k s (stO sts)))=some (x.1,m,x.2,s',stB sts):=by kernel_rfl):Aw.Good Tryz.prog none 9 Q cx [] k s:=ba sts [] ts ks hb x.1 x.2 s' h hg
theorem eN (sts:SL)(ts ks:List Nat)(hb:cx.base=base)(x:Code×List K)(s':LS)(m:Nat)(hg:Aw.Good Tryz.prog none 9 Q cx [] (.l x.1 m::x.2) s')(h:xT base ts ks (nJ [] (run T0 5000 k s (stO sts)))=some (x.1,x.2,s',stB sts):=by kernel_rfl):Aw.Good Tryz.prog none 9 Q cx [] k s:=en sts [] ts ks hb x.1 x.2 s' m h hg
theorem gA (sts:SL)(ts ks:List Nat)(hb:cx.base=base)(x:Code×List K)(s':LS)(hg:Aw.Good Tryz.prog none 9 Q cx [] (.c x.1::x.2) s')(h:aQ6 base ts ks (nJ [] (run T0 5000 k s (stO sts)))=some (x.1,x.2,s',stB sts):=by kernel_rfl):Aw.Good Tryz.prog none 9 Q cx [] k s:=ga sts [] ts ks hb x.1 x.2 s' h hg
end
theorem aVf (a0:Zt)(a1:Int):Con Tryz.prog 127 [(.a (k3 a0)),(iv a1)] [] (.a (k3 (dT a0 a1))) []:=by
 refine cS Tryz.func127 fun cx hcx=>?_
 exact rT [] hcx
def kM (a0 a1:Zt):Zt := ((W (a0.1+a1.1)),(W (a0.2.1+a1.2.1)),(W (a0.2.2+a1.2.2)))
theorem aYi (a0 a1:Zt):Con Tryz.prog 167 [(.a (k3 a0)),(.a (k3 a1))] [] (.a (k3 (kM a0 a1))) []:=by
 refine cS Tryz.func167 fun cx hcx=>?_
 exact rT [] hcx
def cP (x:Zt×Zt×Zt):List SV:=[iv x.1.1,iv x.1.2.1,iv x.1.2.2,iv x.2.1.1,iv x.2.1.2.1,iv x.2.1.2.2,iv x.2.2.1,iv x.2.2.2.1,iv x.2.2.2.2]
def aG8 (x:Zt×Zt×Zt):Value:=.agg #[.int .i64 x.1.1,.int .i64 x.1.2.1,.int .i64 x.1.2.2,.int .i64 x.2.1.1,.int .i64 x.2.1.2.1,.int .i64 x.2.1.2.2,.int .i64 x.2.2.1,.int .i64 x.2.2.2.1,.int .i64 x.2.2.2.2]
theorem aJy (ρ:Env)(x:Zt×Zt×Zt):Rel ρ (.a (cP x)) (aG8 x):=by
 simp only [Rel];exact⟨_,rfl,by simp [cP,Rels,Rel,iv]⟩
theorem aYj (x:Zt×Zt×Zt)(k:Nat):¬(SV.a (cP x)).has k:=by
 simp [cP,SV.has,SV.hasl,iv]
def yv (l:Nat):Value:=.func (.yield l) #[] #[]
def q1 (p:Zt×Zt×Zt):Zt×Zt×Zt:=(dT p.1 2,kM p.1 p.2.1,kM p.2.2 p.1)
def q2 (p:Zt×Zt×Zt):Zt×Zt×Zt:=(kM p.1 p.2.1,dT p.2.1 2,kM p.2.1 p.2.2)
def q3 (p:Zt×Zt×Zt):Zt×Zt×Zt:=(kM p.2.2 p.1,kM p.2.1 p.2.2,dT p.2.2 2)
def q4 (p:Zt×Zt×Zt):Zt×Zt×Zt:=(kM p.1 p.2.1,kM p.2.1 p.2.2,kM p.2.2 p.1)
def eQ:Nat->Zt×Zt×Zt->List (Zt×Zt×Zt) | 0,p=>[p] | d+1,p=>eQ d (q1 p)++(eQ d (q2 p)++(eQ d (q3 p)++eQ d (q4 p)))
def xV (l:Nat)(J:Nat->(Nat->Prop)->World->Prop)(Jx:(Nat->Prop)->World->Prop)(xs:List (Zt×Zt×Zt))(d:Nat):Prop := ∀(p:Zt×Zt×Zt) (i:Nat) (S:Nat->Prop) (W:World) (ρ:Env) (vs:List Value),Rels ρ [.a (cP p),iv d,.p 0 0,.p 1 0] vs -> BRep ρ (fun b=>W.heap.size<=b) W 0 (.live false false [.v (yv l)])->BRep ρ (fun b=>W.heap.size<=b) W 1 (.live false false [.f 166 [.p 0 0,.p 1 0]]) -> (∀k,k < 2->∀b o n,ρ k=some (b,o,n)->¬S b)->J i S W->(∀j x,(eQ d p)[j]? = some x->xs[i+j]? = some x) -> Calls Tryz.prog 166 vs.toArray W (VR J Jx (i+(eQ d p).length) S W)
noncomputable def OY:Array Oper:=match (dY [1,0,1,0,0] [] (Tryz.f166.body.getD .skip)).1 with
 | .region _ ops _=>ops
 | _=>#[]
noncomputable def KY:List K:=(dY [1,0,1,0,0] [] (Tryz.f166.body.getD .skip)).2
noncomputable def OV:Array Oper:=match (dY [1,1,1,1,0,1,0,0,1,1,0,0,1,0] [0] (Tryz.f166.body.getD .skip)).1 with
 | .region _ ops _=>ops
 | _=>#[]
noncomputable def KV (m:Nat):List K:=(dY [1,1,1,1,0,1,0,0,1,1,0,0,1,0] [m] (Tryz.f166.body.getD .skip)).2
noncomputable def oY:Oper:=OY.toList.getD 2 dF
noncomputable def oV:Oper:=OV.toList.getD 4 dF
noncomputable def aL4 (o:Oper):Array TypeId:=match o.op with
 | .call c=>c.argTypes
 | _=>#[]
theorem bBb:oY.op=.call { callee:=.value (.tmp 17),args:=#[.tmp 18],argTypes:=aL4 oY }:=by kernel_rfl
theorem bBc:oV.op=.call { callee:=.value (.tmp 66),args:=#[.tmp 67,.tmp 69],argTypes:=aL4 oV }:=by kernel_rfl
theorem aRe:OY.toList=OY.toList.take 2++oY::OY.toList.drop 3:=by kernel_rfl
theorem xW:OV.toList=OV.toList.take 4++oV::OV.toList.drop 5:=by kernel_rfl
theorem aRf:rC Tryz.prog 166:=ent Tryz.func166 oK rfl
theorem aYk:rC Tryz.prog 165:=ent Tryz.func165 oK rfl
def zY (l:Nat)(p:Zt×Zt×Zt):LS:=⟨[.u,.u,.p 0 0,.u,.p 2 0,.u,.u,.u,.u,.u,.u,.u,.u,.u,.u,.u,.u,.u,.u,.u,.u,.u,.u,.u,.u,.u,.u,.u,.u,.u,.u,.u,.u,.u,.u,.u,.u,.u,.u,.u,.u,.u,.u,.u,.u,.u,.u,.u,.u,.u,.u,.u,.u,.u,.u,.u,.u,.u,.u,.u,.u,.u,.u,.u,.u,.u,.u,.u,.u,.u,.u,.u,.u],[.live false false [.v (yv l)],.live false false [.f 166 [.p 0 0,.p 1 0]],.live true false (cP p)]⟩
def zY1 (l:Nat)(p:Zt×Zt×Zt):LS:=⟨[.u,.u,.p 0 0,.u,.p 2 0,.u,.u,.u,.u,.u,.u,.u,.u,.u,.u,.u,.u,.v (yv l),.a (cP p),.u,.u,.u,.u,.u,.u,.u,.u,.u,.u,.u,.u,.u,.u,.u,.u,.u,.u,.u,.u,.u,.u,.u,.u,.u,.u,.u,.u,.u,.u,.u,.u,.u,.u,.u,.u,.u,.u,.u,.u,.u,.u,.u,.u,.u,.u,.u,.u,.u,.u,.u,.u,.u,.u],[.live false false [.v (yv l)],.live false false [.f 166 [.p 0 0,.p 1 0]],.live true false (cP p)]⟩
def zY3 (l:Nat)(p:Zt×Zt×Zt)(b:Bool):LS:=⟨[.u,.u,.p 0 0,.u,.p 2 0,.u,.v (.bool b),.u,.u,.u,.u,.u,.u,.u,.u,.u,.u,.v (yv l),.a (cP p),.v (.bool b),.u,.u,.u,.u,.u,.u,.u,.u,.u,.u,.u,.u,.u,.u,.u,.u,.u,.u,.u,.u,.u,.u,.u,.u,.u,.u,.u,.u,.u,.u,.u,.u,.u,.u,.u,.u,.u,.u,.u,.u,.u,.u,.u,.u,.u,.u,.u,.u,.u,.u,.u,.u,.u],[.live false false [.v (yv l)],.live false false [.f 166 [.p 0 0,.p 1 0]],.live false false (cP p)]⟩
def zV1 (l:Nat)(p:Zt×Zt×Zt)(d:Int):LS:=⟨[.u,iv d,.u,.p 1 0,.u,.u,.u,.u,.u,.u,.u,.u,.u,.u,.p 3 0,.u,.u,.u,.u,.u,.u,.u,.u,.u,.u,.u,.u,.u,.u,.u,.u,.u,.u,.u,.u,.u,.u,.u,.u,.u,.u,.u,.u,.u,.u,.u,.u,.u,.u,.u,.u,.u,.u,.u,.u,.u,.u,.u,.u,.u,.s 2 0 4 9,iv 4,iv 0,.u,.u,.u,.u,.u,.u,.u,.u,.u,.u],[.live false false [.v (yv l)],.live false false [.f 166 [.p 0 0,.p 1 0]],.live true false (cP (q1 p)++(cP (q2 p)++(cP (q3 p)++cP (q4 p)))),.live true false (cP (q1 p))]⟩
def bDw (l:Nat)(p:Zt×Zt×Zt)(d:Int):LS:=⟨[.u,iv d,.u,.p 1 0,.u,.u,.u,.u,.u,.u,.u,.u,.u,.u,.p 3 0,.u,.u,.u,.u,.u,.u,.u,.u,.u,.u,.u,.u,.u,.u,.u,.u,.u,.u,.u,.u,.u,.u,.u,.u,.u,.u,.u,.u,.u,.u,.u,.u,.u,.u,.u,.u,.u,.u,.u,.u,.u,.u,.u,.u,.u,.s 2 0 4 9,iv 4,iv 0,.u,.u,.u,.f 166 [.p 0 0,.p 1 0],.a (cP (q1 p)),iv d,iv (W (d - 1)),.u,.u,.u],[.live false false [.v (yv l)],.live false false [.f 166 [.p 0 0,.p 1 0]],.live true false (cP (q1 p)++(cP (q2 p)++(cP (q3 p)++cP (q4 p)))),.live true false (cP (q1 p))]⟩
def bDx (l:Nat)(p:Zt×Zt×Zt)(d:Int)(b:Bool):LS:=⟨[.u,iv d,.u,.p 1 0,.u,.u,.u,.u,.u,.u,.u,.u,.u,.u,.p 3 0,.u,.u,.u,.u,.u,.u,.u,.u,.u,.u,.u,.u,.u,.u,.u,.u,.u,.u,.u,.u,.u,.u,.u,.u,.u,.u,.u,.u,.u,.u,.u,.u,.u,.u,.u,.u,.u,.u,.u,.u,.u,.u,.u,.u,.u,.s 2 0 4 9,iv 4,iv 0,.u,.u,.u,.f 166 [.p 0 0,.p 1 0],.a (cP (q1 p)),iv d,iv (W (d - 1)),.v (.bool b),.v (.bool (!b)),.u],[.live false false [.v (yv l)],.live false false [.f 166 [.p 0 0,.p 1 0]],.live false false (cP (q1 p)++(cP (q2 p)++(cP (q3 p)++cP (q4 p)))),.live false false (cP (q1 p))]⟩
def zV2 (l:Nat)(p:Zt×Zt×Zt)(d:Int):LS:=⟨[.u,iv d,.u,.p 1 0,.u,.u,.u,.u,.u,.u,.u,.u,.u,.u,.p 4 0,.u,.u,.u,.u,.u,.u,.u,.u,.u,.u,.u,.u,.u,.u,.u,.u,.u,.u,.u,.u,.u,.u,.u,.u,.u,.u,.u,.u,.u,.u,.u,.u,.u,.u,.u,.u,.u,.u,.u,.u,.u,.u,.u,.u,.u,.s 2 0 4 9,iv 4,iv 1,.u,.u,.u,.u,.u,.u,.u,.u,.u,.u],[.live false false [.v (yv l)],.live false false [.f 166 [.p 0 0,.p 1 0]],.live false false (cP (q1 p)++(cP (q2 p)++(cP (q3 p)++cP (q4 p)))),.live false false (cP (q1 p)),.live true false (cP (q2 p))]⟩
def bDy (l:Nat)(p:Zt×Zt×Zt)(d:Int):LS:=⟨[.u,iv d,.u,.p 1 0,.u,.u,.u,.u,.u,.u,.u,.u,.u,.u,.p 4 0,.u,.u,.u,.u,.u,.u,.u,.u,.u,.u,.u,.u,.u,.u,.u,.u,.u,.u,.u,.u,.u,.u,.u,.u,.u,.u,.u,.u,.u,.u,.u,.u,.u,.u,.u,.u,.u,.u,.u,.u,.u,.u,.u,.u,.u,.s 2 0 4 9,iv 4,iv 1,.u,.u,.u,.f 166 [.p 0 0,.p 1 0],.a (cP (q2 p)),iv d,iv (W (d - 1)),.u,.u,.u],[.live false false [.v (yv l)],.live false false [.f 166 [.p 0 0,.p 1 0]],.live false false (cP (q1 p)++(cP (q2 p)++(cP (q3 p)++cP (q4 p)))),.live false false (cP (q1 p)),.live true false (cP (q2 p))]⟩
def bDz (l:Nat)(p:Zt×Zt×Zt)(d:Int)(b:Bool):LS:=⟨[.u,iv d,.u,.p 1 0,.u,.u,.u,.u,.u,.u,.u,.u,.u,.u,.p 4 0,.u,.u,.u,.u,.u,.u,.u,.u,.u,.u,.u,.u,.u,.u,.u,.u,.u,.u,.u,.u,.u,.u,.u,.u,.u,.u,.u,.u,.u,.u,.u,.u,.u,.u,.u,.u,.u,.u,.u,.u,.u,.u,.u,.u,.u,.s 2 0 4 9,iv 4,iv 1,.u,.u,.u,.f 166 [.p 0 0,.p 1 0],.a (cP (q2 p)),iv d,iv (W (d - 1)),.v (.bool b),.v (.bool (!b)),.u],[.live false false [.v (yv l)],.live false false [.f 166 [.p 0 0,.p 1 0]],.live false false (cP (q1 p)++(cP (q2 p)++(cP (q3 p)++cP (q4 p)))),.live false false (cP (q1 p)),.live false false (cP (q2 p))]⟩
def zV3 (l:Nat)(p:Zt×Zt×Zt)(d:Int):LS:=⟨[.u,iv d,.u,.p 1 0,.u,.u,.u,.u,.u,.u,.u,.u,.u,.u,.p 5 0,.u,.u,.u,.u,.u,.u,.u,.u,.u,.u,.u,.u,.u,.u,.u,.u,.u,.u,.u,.u,.u,.u,.u,.u,.u,.u,.u,.u,.u,.u,.u,.u,.u,.u,.u,.u,.u,.u,.u,.u,.u,.u,.u,.u,.u,.s 2 0 4 9,iv 4,iv 2,.u,.u,.u,.u,.u,.u,.u,.u,.u,.u],[.live false false [.v (yv l)],.live false false [.f 166 [.p 0 0,.p 1 0]],.live false false (cP (q1 p)++(cP (q2 p)++(cP (q3 p)++cP (q4 p)))),.live false false (cP (q1 p)),.live false false (cP (q2 p)),.live true false (cP (q3 p))]⟩
def bD0 (l:Nat)(p:Zt×Zt×Zt)(d:Int):LS:=⟨[.u,iv d,.u,.p 1 0,.u,.u,.u,.u,.u,.u,.u,.u,.u,.u,.p 5 0,.u,.u,.u,.u,.u,.u,.u,.u,.u,.u,.u,.u,.u,.u,.u,.u,.u,.u,.u,.u,.u,.u,.u,.u,.u,.u,.u,.u,.u,.u,.u,.u,.u,.u,.u,.u,.u,.u,.u,.u,.u,.u,.u,.u,.u,.s 2 0 4 9,iv 4,iv 2,.u,.u,.u,.f 166 [.p 0 0,.p 1 0],.a (cP (q3 p)),iv d,iv (W (d - 1)),.u,.u,.u],[.live false false [.v (yv l)],.live false false [.f 166 [.p 0 0,.p 1 0]],.live false false (cP (q1 p)++(cP (q2 p)++(cP (q3 p)++cP (q4 p)))),.live false false (cP (q1 p)),.live false false (cP (q2 p)),.live true false (cP (q3 p))]⟩
def bD1 (l:Nat)(p:Zt×Zt×Zt)(d:Int)(b:Bool):LS:=⟨[.u,iv d,.u,.p 1 0,.u,.u,.u,.u,.u,.u,.u,.u,.u,.u,.p 5 0,.u,.u,.u,.u,.u,.u,.u,.u,.u,.u,.u,.u,.u,.u,.u,.u,.u,.u,.u,.u,.u,.u,.u,.u,.u,.u,.u,.u,.u,.u,.u,.u,.u,.u,.u,.u,.u,.u,.u,.u,.u,.u,.u,.u,.u,.s 2 0 4 9,iv 4,iv 2,.u,.u,.u,.f 166 [.p 0 0,.p 1 0],.a (cP (q3 p)),iv d,iv (W (d - 1)),.v (.bool b),.v (.bool (!b)),.u],[.live false false [.v (yv l)],.live false false [.f 166 [.p 0 0,.p 1 0]],.live false false (cP (q1 p)++(cP (q2 p)++(cP (q3 p)++cP (q4 p)))),.live false false (cP (q1 p)),.live false false (cP (q2 p)),.live false false (cP (q3 p))]⟩
def zV4 (l:Nat)(p:Zt×Zt×Zt)(d:Int):LS:=⟨[.u,iv d,.u,.p 1 0,.u,.u,.u,.u,.u,.u,.u,.u,.u,.u,.p 6 0,.u,.u,.u,.u,.u,.u,.u,.u,.u,.u,.u,.u,.u,.u,.u,.u,.u,.u,.u,.u,.u,.u,.u,.u,.u,.u,.u,.u,.u,.u,.u,.u,.u,.u,.u,.u,.u,.u,.u,.u,.u,.u,.u,.u,.u,.s 2 0 4 9,iv 4,iv 3,.u,.u,.u,.u,.u,.u,.u,.u,.u,.u],[.live false false [.v (yv l)],.live false false [.f 166 [.p 0 0,.p 1 0]],.live false false (cP (q1 p)++(cP (q2 p)++(cP (q3 p)++cP (q4 p)))),.live false false (cP (q1 p)),.live false false (cP (q2 p)),.live false false (cP (q3 p)),.live true false (cP (q4 p))]⟩
def bD2 (l:Nat)(p:Zt×Zt×Zt)(d:Int):LS:=⟨[.u,iv d,.u,.p 1 0,.u,.u,.u,.u,.u,.u,.u,.u,.u,.u,.p 6 0,.u,.u,.u,.u,.u,.u,.u,.u,.u,.u,.u,.u,.u,.u,.u,.u,.u,.u,.u,.u,.u,.u,.u,.u,.u,.u,.u,.u,.u,.u,.u,.u,.u,.u,.u,.u,.u,.u,.u,.u,.u,.u,.u,.u,.u,.s 2 0 4 9,iv 4,iv 3,.u,.u,.u,.f 166 [.p 0 0,.p 1 0],.a (cP (q4 p)),iv d,iv (W (d - 1)),.u,.u,.u],[.live false false [.v (yv l)],.live false false [.f 166 [.p 0 0,.p 1 0]],.live false false (cP (q1 p)++(cP (q2 p)++(cP (q3 p)++cP (q4 p)))),.live false false (cP (q1 p)),.live false false (cP (q2 p)),.live false false (cP (q3 p)),.live true false (cP (q4 p))]⟩
def bD3 (l:Nat)(p:Zt×Zt×Zt)(d:Int)(b:Bool):LS:=⟨[.u,iv d,.u,.p 1 0,.u,.u,.u,.u,.u,.u,.u,.u,.u,.u,.p 6 0,.u,.u,.u,.u,.u,.u,.u,.u,.u,.u,.u,.u,.u,.u,.u,.u,.u,.u,.u,.u,.u,.u,.u,.u,.u,.u,.u,.u,.u,.u,.u,.u,.u,.u,.u,.u,.u,.u,.u,.u,.u,.u,.u,.u,.u,.s 2 0 4 9,iv 4,iv 3,.u,.u,.u,.f 166 [.p 0 0,.p 1 0],.a (cP (q4 p)),iv d,iv (W (d - 1)),.v (.bool b),.v (.bool (!b)),.u],[.live false false [.v (yv l)],.live false false [.f 166 [.p 0 0,.p 1 0]],.live false false (cP (q1 p)++(cP (q2 p)++(cP (q3 p)++cP (q4 p)))),.live false false (cP (q1 p)),.live false false (cP (q2 p)),.live false false (cP (q3 p)),.live false false (cP (q4 p))]⟩
def vb:SV->Bool | .v _ | .b _=>true | _=>false
theorem aC7 {ρ ρ':Env}:∀{l:List SV} {vs us:List Value},l.all vb=true->Rels ρ l vs->Rels ρ' l us->vs=us
 | [],[],[],_,_,_=>rfl
 | [],_::_,_,_,h,_=>by simp [Rels] at h
 | [],[],_::_,_,_,h=>by simp [Rels] at h
 | _::_,[],_,_,h,_=>by simp [Rels] at h
 | _::_,_::_,[],_,_,h=>by simp [Rels] at h
 | x::l,y::vs,z::us,hp,h1,h2=>by
  simp only [List.all_cons,Bool.and_eq_true] at hp;simp only [Rels] at h1 h2;rw [aC7 hp.2 h1.2 h2.2];have:y=z:=by
   cases x<;>simp only [vb,Bool.false_eq_true,false_and] at hp
   ·have a1:=h1.1;have a2:=h2.1;simp only [Rel] at a1 a2;rw [a1,a2]
   ·have a1:=h1.1;have a2:=h2.1;simp only [Rel] at a1 a2;rw [a1,a2]
  rw [this]
theorem uJ {ρ:Env} {x:SV} {l:List SV} {y:Value} {m:List Value} (h:Rel ρ x y)(h':Rels ρ l m):Rels ρ (x::l) (y::m):=by simp only [Rels];exact⟨h,h'⟩
theorem aG9 {α:Type} {xs A B:List α} {i:Nat} (h:∀j x,(A++B)[j]? = some x->xs[i+j]? = some x):(∀j x,A[j]? = some x->xs[i+j]? = some x)/\(∀j x,B[j]? = some x->xs[i+A.length+j]? = some x) :=
 ⟨fun j x hj=>h j x (by rw [List.getElem?_append_left (List.getElem?_eq_some_iff.1 hj).1];exact hj),fun j x hj=>by
  have:=h (A.length+j) x (by rw [List.getElem?_append_right oM,Nat.add_sub_cancel_left];exact hj)
  rwa [←Nat.add_assoc] at this⟩
section
variable {l : Nat} {J : Nat → (Nat → Prop) → World → Prop} {Jx : (Nat → Prop) → World → Prop} {xs : List (Zt × Zt × Zt)}
theorem nT (hJ:zU J)(hX:aG1 Jx) {m m':Nat} {W0:World} {S:Nat->Prop} {cx:Cx} {b:Bool} (h1:b=true->∃Sc,Seg J W0 S m' cx Sc)(h2:b=false->SegX Jx W0 S cx)(hm:m'=m)(Wd:World)(hb:Below cx.w.heap.size cx.w Wd)(hd:cx.w.drawn<=Wd.drawn) :
 VR J Jx m S W0 (.returned (.bool b)) Wd:=by
 subst hm;cases b
 case true=>obtain⟨Sc,h⟩:=h1 rfl;exact .inl ⟨rfl,Sc,hJ _ _ _ _ h.j hb hd,h.kept.grow hb hd,h.sub⟩
 have h:=h2 rfl;obtain⟨Sc,hj⟩:=h.j;exact .inr ⟨rfl,Sc,hX _ _ _ hj hb hd,h.kept.grow hb hd⟩
theorem aYl (hJ:zU J)(hX:aG1 Jx)(hB:tB J)(hY:∀i x S W1,xs[i]? = some x->J i S W1->YieldAt (Fw none) 9 Tryz.prog l #[aG8 x] W1 (YR J Jx i S W1)):xV l J Jx xs 0:=by
 intro p i S Wd ρ vs hargs hb0 hb1 hS hj hxs;have hx:xs[i]? = some p:=by have:=hxs 0 p rfl;simpa using this
 refine pO (n:=9) (bs:=[.live false false [.v (yv l)],.live false false [.f 166 [.p 0 0,.p 1 0]]]) Tryz.func166 rfl (by show 4<=Tryz.f166.ntmps;decide) oK ⟨rfl,rfl,trivial⟩ oK (fun i=>by rcases i with _ | _ | i<;>simp [BK.own]) oK hargs (fun i=>by rcases i with _ | _ | i<;>first | exact hb0 | exact hb1 | simp [BRep]) (fun i=>by rcases i with _ | _ | i<;>simp [BK.pl]) (fun cx hbase hw hρ hfz hown=>?_);subst hw;have hd:((((0:Nat):Int):Int) == 0)=true:=rfl;refine aAx (T:=T0) hT hm (f:=5000) (orc:=[.d true,.stop 2]) [] [2,4] [2] hbase (x:=.region 2 OY false) (k':=KY) (s':=zY l p)
  (obs:=[.eq ((((0:Nat):Int):Int) == 0) true]) oK ⟨hd,trivial⟩ ?_
 have hseg:Seg J cx.w S i cx S:=⟨hj,Kept.refl _ _,fun b h=>.inl h,fun k b o n hk h=>hS k (by rw [hbase] at hk;exact hk) b o n ((hρ k).symm.trans h),hown,fun b o ho=>by rw [hfz b] at ho;cases ho⟩;refine tC (Jx:=Jx) hT hJ hB (m:=i+1) hseg (OY.toList.take 2) oY (OY.toList.drop 3) aRe (s1:=zY1 l p) oK oK 19 oK (eS oK) 2 hbase oK oK
  (fun ρ a W2 hrep hsafe hj2 K Q' hK=>?_) (zY3 l p) (fun b=>by kernel_rfl) (fun b cx' hb' h1 h2=>?_)
 ·have e1:=hrep.sl 17;have e2:=hrep.sl 18;refine aRa bBb (l:=l) (vs:=#[aG8 p]) ?_ ?_ (hY i p S W2 hx hj2) hK
  ·exact e1
  ·have:a.eval (.tmp 18)=aG8 p:=by
    have e3:Rel ρ (.a (cP p)) (a.tmps.getD 18 undef):=e2;simp only [Rel] at e3;obtain⟨vs,hv,hr⟩:=e3;have h':=aJy ρ p;simp only [Rel] at h';obtain⟨us,hu,hr'⟩:=h';show a.tmps.getD 18 undef=aG8 p;rw [hv,hu];have:vs=us:=aC7 (by simp [cP,vb,iv]) hr hr';rw [this]
   simp [this]
 ·have hown':∀c,¬cx'.own c:=by
   cases b
   case true=>obtain⟨Sc,h⟩:=h1 rfl;exact h.own
   exact(h2 rfl).own
  exact uI (T:=T0) hT hm (f:=5000) (orc:=[]) (b:=b) (obs:=[]) (by cases b<;>kernel_rfl) trivial hown' (fun Wd hW hWd=>nT hJ hX h1 h2 rfl Wd hW hWd)
theorem aN0 {d:Nat} (ih:xV l J Jx xs d) {cx:Cx} {N:Nat} {D:List Deferred} {ρ:Env} {s:FS} {a:Act} {Wd:World} (hrep:Rep cx N D ρ s a Wd) {p:Zt×Zt×Zt} {i:Nat} {S:Nat->Prop}
 (hdl:d < 1000) (e1:s.sl 66=.f 166 [.p 0 0,.p 1 0]) (e2:s.sl 67=.a (cP p)) (e3:s.sl 69=iv (W (((d+1:Nat):Int) - 1))) (e4:s.bk 0=.live false false [.v (yv l)]) (e5:s.bk 1=.live false false [.f 166 [.p 0 0,.p 1 0]])
 (hS:∀k,k < 2->∀b o n,ρ k=some (b,o,n)->¬S b) (hj:J i S Wd) (hxs:∀j x,(eQ d p)[j]? = some x->xs[i+j]? = some x)
 (K:Act->World->Prop) (Q:Exit->Act->World->Prop) (hK:∀e Wd',VR J Jx (i+(eQ d p).length) S Wd e Wd'->∃v,e=.returned v/\K (a.put oV.dst v) Wd'):oV.wpIn (Fw none) 9 Tryz.prog a Wd K Q:=by
 have r1:=hrep.sl 66;have r2:=hrep.sl 67;have r3:=hrep.sl 69;rw [e1] at r1;rw [e2] at r2;rw [e3] at r3;have hw:W (((d+1:Nat):Int) - 1)=(d:Int):=by rw [aH]<;>omega
 rw [hw] at r3;simp only [Rel] at r1;obtain⟨vs,hv,hc⟩:=r1;have b0:=hrep.bk 0;have b1:=hrep.bk 1;rw [e4] at b0;rw [e5] at b1;refine aNw bBc (g:=166) (caps:=vs) hv aRf (ih p i S Wd ρ _ ?_ b0.ro b1.ro hS hj hxs) hK;exact uJ r2 (uJ r3 hc)
theorem aYm (hJ:zU J)(hX:aG1 Jx)(hB:tB J) {d:Nat} (hdl:d < 1000)(ih:xV l J Jx xs d):xV l J Jx xs (d+1):=by
 intro p i S Wd ρ vs hargs hb0 hb1 hS hj hxs;obtain⟨hx1,hr1⟩:=aG9 hxs;obtain⟨hx2,hr2⟩:=aG9 hr1;obtain⟨hx3,hx4⟩:=aG9 hr2;refine pO (n:=9) (bs:=[.live false false [.v (yv l)],.live false false [.f 166 [.p 0 0,.p 1 0]]]) Tryz.func166 rfl (by show 4<=Tryz.f166.ntmps;decide) oK ⟨rfl,rfl,trivial⟩ oK (fun i=>by rcases i with _ | _ | i<;>simp [BK.own]) oK hargs (fun i=>by rcases i with _ | _ | i<;>first | exact hb0 | exact hb1 | simp [BRep]) (fun i=>by rcases i with _ | _ | i<;>simp [BK.pl]) (fun cx hbase hw hρ hfz hown=>?_);subst hw;have hd:((((d+1:Nat):Int):Int) == 0)=false:=by rw [beq_eq_false_iff_ne];omega
 have hseg:Seg J cx.w S i cx S:=⟨hj,Kept.refl _ _,fun b h=>.inl h,fun k b o n hk h=>hS k (by rw [hbase] at hk;exact hk) b o n ((hρ k).symm.trans h),hown,fun b o ho=>by rw [hfz b] at ho;cases ho⟩;refine aAx (T:=T0) hT hm (f:=5000) (orc:=[.d false,.call [] (.a [(iv (dT p.1 2).1),(iv (dT p.1 2).2.1),(iv (dT p.1 2).2.2)]) [],.call [] (.a [(iv (dT p.2.1 2).1),(iv (dT p.2.1 2).2.1),(iv (dT p.2.1 2).2.2)]) [],.call [] (.a [(iv (dT p.2.2 2).1),(iv (dT p.2.2 2).2.1),(iv (dT p.2.2 2).2.2)]) [],.call [] (.a [(iv (kM p.1 p.2.1).1),(iv (kM p.1 p.2.1).2.1),(iv (kM p.1 p.2.1).2.2)]) [],.call [] (.a [(iv (kM p.2.1 p.2.2).1),(iv (kM p.2.1 p.2.2).2.1),(iv (kM p.2.1 p.2.2).2.2)]) [],.call [] (.a [(iv (kM p.2.2 p.1).1),(iv (kM p.2.2 p.1).2.1),(iv (kM p.2.2 p.1).2.2)]) [],.un 4,.d true,.stop 8]) [] [1,3,14,60,61,62] [9,10] hbase (x:=.region 8 OV false) (k':=KV 4) (s':=zV1 l p (d+1:Nat))
  (obs:=[.eq ((((d+1:Nat):Int):Int) == 0) false,.call 127 [(.a [(iv p.1.1),(iv p.1.2.1),(iv p.1.2.2)]),(iv 2)] [] (.a [(iv (dT p.1 2).1),(iv (dT p.1 2).2.1),(iv (dT p.1 2).2.2)]) [],.call 127 [(.a [(iv p.2.1.1),(iv p.2.1.2.1),(iv p.2.1.2.2)]),(iv 2)] [] (.a [(iv (dT p.2.1 2).1),(iv (dT p.2.1 2).2.1),(iv (dT p.2.1 2).2.2)]) [],.call 127 [(.a [(iv p.2.2.1),(iv p.2.2.2.1),(iv p.2.2.2.2)]),(iv 2)] [] (.a [(iv (dT p.2.2 2).1),(iv (dT p.2.2 2).2.1),(iv (dT p.2.2 2).2.2)]) [],.call 167 [(.a [(iv p.1.1),(iv p.1.2.1),(iv p.1.2.2)]),(.a [(iv p.2.1.1),(iv p.2.1.2.1),(iv p.2.1.2.2)])] [] (.a [(iv (kM p.1 p.2.1).1),(iv (kM p.1 p.2.1).2.1),(iv (kM p.1 p.2.1).2.2)]) [],.call 167 [(.a [(iv p.2.1.1),(iv p.2.1.2.1),(iv p.2.1.2.2)]),(.a [(iv p.2.2.1),(iv p.2.2.2.1),(iv p.2.2.2.2)])] [] (.a [(iv (kM p.2.1 p.2.2).1),(iv (kM p.2.1 p.2.2).2.1),(iv (kM p.2.1 p.2.2).2.2)]) [],.call 167 [(.a [(iv p.2.2.1),(iv p.2.2.2.1),(iv p.2.2.2.2)]),(.a [(iv p.1.1),(iv p.1.2.1),(iv p.1.2.2)])] [] (.a [(iv (kM p.2.2 p.1).1),(iv (kM p.2.2 p.1).2.1),(iv (kM p.2.2 p.1).2.2)]) [],.eq true true,.pr (0<=(0:Int)/\(0:Int) < ((4:Nat):Int))]) oK ⟨hd,(aVf p.1 2),(aVf p.2.1 2),(aVf p.2.2 2),(aYi p.1 p.2.1),(aYi p.2.1 p.2.2),(aYi p.2.2 p.1),rfl,(show 0<=(0:Int)/\(0:Int) < ((4:Nat):Int) from by decide),trivial⟩ ?_
 refine tC (Jx:=Jx) hT hJ hB (m:=i+(eQ d (q1 p)).length) hseg (OV.toList.take 4) oV (OV.toList.drop 5) xW (s1:=bDw l p (d+1:Nat)) oK oK 70 oK (eS oK) 2 hbase oK oK
  (fun ρ a W2 hrep hsafe hj2 K Q' hK=>aN0 ih hrep hdl rfl rfl rfl rfl rfl (fun k hk b o n h=>(match k,hk,h with | 0,_,h=>hsafe 0 _ _ _ rfl b o n h | 1,_,h=>hsafe 1 _ _ _ rfl b o n h)) hj2 (fun j x hj=>hx1 j x hj) K Q' hK) (bDx l p (d+1:Nat)) (fun b=>by kernel_rfl) (fun b cx hbase h1 h2=>?_)
 cases b
 case false=>exact uI (T:=T0) hT hm (f:=5000) (orc:=[.d true]) (b:=false) (obs:=[.eq (!false) true]) oK ⟨rfl,trivial⟩ (h2 rfl).own (fun W hW hWd=>nT (m':=i+(eQ (d+1) p).length) hJ hX (fun h=>by cases h) h2 rfl W hW hWd)
 obtain⟨Sc,hseg⟩:=h1 rfl;refine aAx (T:=T0) hT hm (f:=5000) (orc:=[.d false,.un 0,.d true,.stop 8]) [] [1,3,14,60,61,62] [4] hbase (x:=.region 8 OV false) (k':=KV 3) (s':=zV2 l p (d+1:Nat))
  (obs:=[.eq (!true) false,.eq (decide ((1:Int) < 4)) true,.pr (0<=(1:Int)/\(1:Int) < ((4:Nat):Int))]) oK ⟨rfl,rfl,(show 0<=(1:Int)/\(1:Int) < ((4:Nat):Int) from by decide),trivial⟩ ?_
 refine tC (Jx:=Jx) hT hJ hB (m:=i+(eQ d (q1 p)).length+(eQ d (q2 p)).length) hseg (OV.toList.take 4) oV (OV.toList.drop 5) xW (s1:=bDy l p (d+1:Nat)) oK oK 70 oK (eS oK) 4 hbase oK oK
  (fun ρ a W2 hrep hsafe hj2 K Q' hK=>aN0 ih hrep hdl rfl rfl rfl rfl rfl (fun k hk b o n h=>(match k,hk,h with | 0,_,h=>hsafe 0 _ _ _ rfl b o n h | 1,_,h=>hsafe 1 _ _ _ rfl b o n h)) hj2 (fun j x hj=>hx2 j x hj) K Q' hK) (bDz l p (d+1:Nat)) (fun b=>by kernel_rfl) (fun b cx hbase h1 h2=>?_)
 cases b
 case false=>exact uI (T:=T0) hT hm (f:=5000) (orc:=[.d true]) (b:=false) (obs:=[.eq (!false) true]) oK ⟨rfl,trivial⟩ (h2 rfl).own (fun W hW hWd=>nT (m':=i+(eQ (d+1) p).length) hJ hX (fun h=>by cases h) h2 rfl W hW hWd)
 obtain⟨Sc,hseg⟩:=h1 rfl;refine aAx (T:=T0) hT hm (f:=5000) (orc:=[.d false,.un 0,.d true,.stop 8]) [] [1,3,14,60,61,62] [5] hbase (x:=.region 8 OV false) (k':=KV 2) (s':=zV3 l p (d+1:Nat))
  (obs:=[.eq (!true) false,.eq (decide ((2:Int) < 4)) true,.pr (0<=(2:Int)/\(2:Int) < ((4:Nat):Int))]) oK ⟨rfl,rfl,(show 0<=(2:Int)/\(2:Int) < ((4:Nat):Int) from by decide),trivial⟩ ?_
 refine tC (Jx:=Jx) hT hJ hB (m:=i+(eQ d (q1 p)).length+(eQ d (q2 p)).length+(eQ d (q3 p)).length) hseg (OV.toList.take 4) oV (OV.toList.drop 5) xW (s1:=bD0 l p (d+1:Nat)) oK oK 70 oK (eS oK) 5 hbase oK oK
  (fun ρ a W2 hrep hsafe hj2 K Q' hK=>aN0 ih hrep hdl rfl rfl rfl rfl rfl (fun k hk b o n h=>(match k,hk,h with | 0,_,h=>hsafe 0 _ _ _ rfl b o n h | 1,_,h=>hsafe 1 _ _ _ rfl b o n h)) hj2 (fun j x hj=>hx3 j x hj) K Q' hK) (bD1 l p (d+1:Nat)) (fun b=>by kernel_rfl) (fun b cx hbase h1 h2=>?_)
 cases b
 case false=>exact uI (T:=T0) hT hm (f:=5000) (orc:=[.d true]) (b:=false) (obs:=[.eq (!false) true]) oK ⟨rfl,trivial⟩ (h2 rfl).own (fun W hW hWd=>nT (m':=i+(eQ (d+1) p).length) hJ hX (fun h=>by cases h) h2 rfl W hW hWd)
 obtain⟨Sc,hseg⟩:=h1 rfl;refine aAx (T:=T0) hT hm (f:=5000) (orc:=[.d false,.un 0,.d true,.stop 8]) [] [1,3,14,60,61,62] [6] hbase (x:=.region 8 OV false) (k':=KV 1) (s':=zV4 l p (d+1:Nat))
  (obs:=[.eq (!true) false,.eq (decide ((3:Int) < 4)) true,.pr (0<=(3:Int)/\(3:Int) < ((4:Nat):Int))]) oK ⟨rfl,rfl,(show 0<=(3:Int)/\(3:Int) < ((4:Nat):Int) from by decide),trivial⟩ ?_
 refine tC (Jx:=Jx) hT hJ hB (m:=i+(eQ d (q1 p)).length+(eQ d (q2 p)).length+(eQ d (q3 p)).length+(eQ d (q4 p)).length) hseg (OV.toList.take 4) oV (OV.toList.drop 5) xW (s1:=bD2 l p (d+1:Nat)) oK oK 70 oK (eS oK) 6 hbase oK oK
  (fun ρ a W2 hrep hsafe hj2 K Q' hK=>aN0 ih hrep hdl rfl rfl rfl rfl rfl (fun k hk b o n h=>(match k,hk,h with | 0,_,h=>hsafe 0 _ _ _ rfl b o n h | 1,_,h=>hsafe 1 _ _ _ rfl b o n h)) hj2 (fun j x hj=>hx4 j x hj) K Q' hK) (bD3 l p (d+1:Nat)) (fun b=>by kernel_rfl) (fun b cx hbase h1 h2=>?_)
 cases b
 case false=>exact uI (T:=T0) hT hm (f:=5000) (orc:=[.d true]) (b:=false) (obs:=[.eq (!false) true]) oK ⟨rfl,trivial⟩ (h2 rfl).own (fun W hW hWd=>nT (m':=i+(eQ (d+1) p).length) hJ hX (fun h=>by cases h) h2 rfl W hW hWd)
 exact uI (T:=T0) hT hm (f:=5000) (orc:=[.d false,.un 0,.d false]) (b:=true) (obs:=[.eq (!true) false,.eq (decide ((4:Int) < 4)) false]) oK ⟨rfl,rfl,trivial⟩ (h1 rfl).choose_spec.own (fun W hW hWd=>nT hJ hX h1 h2 (by simp only [eQ,List.length_append];omega) W hW hWd)
theorem aF5 (hJ:zU J)(hX:aG1 Jx)(hB:tB J)(hY:∀i x S W1,xs[i]? = some x->J i S W1->YieldAt (Fw none) 9 Tryz.prog l #[aG8 x] W1 (YR J Jx i S W1)):∀d,d < 1000->xV l J Jx xs d
 | 0,_=>aYl hJ hX hB hY
 | d+1,h=>aYm hJ hX hB oM (aF5 hJ hX hB hY d oM)
end
noncomputable def O2:Array Oper:=match (dY [1,1,1] [] (Tryz.f165.body.getD .skip)).1 with
 | .region _ ops _=>ops
 | _=>#[]
noncomputable def o2:Oper:=O2.toList.getD 3 dF
theorem bBd:o2.op=.call { callee:=.value (.tmp 6),args:=#[.tmp 7,.tmp 8],argTypes:=aL4 o2 }:=by kernel_rfl
theorem aRg:O2.toList=O2.toList.take 3++[o2]:=by kernel_rfl
def z2 (l:Nat)(p:Zt×Zt×Zt)(d:Int):LS:=⟨[.u,.p 0 0,.p 1 0,.u,.p 3 0,.u,.u,.u,.u,.u],[.live false false (cP p),.live false false [iv d],.live true false [.v (yv l)],.live true false [.f 166 [.p 2 0,.p 3 0]]]⟩
def z21 (l:Nat)(p:Zt×Zt×Zt)(d:Int):LS:=⟨[.u,.p 0 0,.p 1 0,.u,.p 3 0,.u,.f 166 [.p 2 0,.p 3 0],.a (cP p),iv d,.u],[.live false false (cP p),.live false false [iv d],.live true false [.v (yv l)],.live true false [.f 166 [.p 2 0,.p 3 0]]]⟩
theorem aRh (p:Zt×Zt×Zt)(d:Nat)(hd:d < 1000):aU6 Tryz.prog 165 [.p 0 0,.p 1 0] [.live false false (cP p),.live false false [iv (d:Nat)]] aG8 (eQ d p):=by
 refine⟨aYk,fun ρ Wd lb hcaps hbs hpl l J Jx S0 hJ hX hB hY h0=>?_⟩;have hcon:Calls Tryz.prog 165 ((Value.func (.yield l) #[] #[])::lb).toArray Wd fun e Wd'=>(∃v,e=.returned v)/\∃S',(J (eQ d p).length S' Wd'\/Jx S' Wd')/\Kept Wd S0 Wd':=by
  refine pO (n:=9) (args:=[.v (yv l),.p 0 0,.p 1 0]) (bs:=[.live false false (cP p),.live false false [iv (d:Nat)]]) Tryz.func165 rfl (by show 3<=Tryz.f165.ntmps;decide) oK ⟨rfl,rfl,trivial⟩ oK (fun i=>by rcases i with _ | _ | i<;>simp [BK.own]) oK ⟨rfl,hcaps⟩ hbs hpl (fun cx hbase hw hρ hfz hown=>?_);subst hw;refine aAx (T:=T0) hT hm (f:=5000) (orc:=[.stop 3]) [] [1,2,4] [2,3] hbase (x:=.region 3 O2 false) (k':=[]) (s':=z2 l p d)
   (obs:=[]) oK trivial ?_
  intro ρ a Wd hrep;simp only [gR];refine wpIn_region ?_;have hsz:O2.size=(O2.toList.take 3).length+(0+1):=by kernel_rfl
  have hget:∀j,O2[j]? = (O2.toList.take 3++[o2])[j]? := fun j=>by rw [←aRg,Array.getElem?_toList]
  rw [hsz,aAy];refine aBk hT (O2.toList.take 3) 0 (z2 l p d) (z21 l p d) [] [] _ [] (xU (T:=T0) (obs:=[]) oK).choose_spec trivial (fun j o' hj=>?_) ρ a Wd hrep (fun ρ1 a1 W1 hrep1 hl1=>?_)
  ·rw [hget,Nat.zero_add,List.getElem?_append_left (List.getElem?_eq_some_iff.1 hj).1];exact hj
  rw [wpOpsIn_cons];unfold wpOpIn;have ho:O2[(O2.toList.take 3).length]? = some o2:=by rw [hget,List.getElem?_append_right (Nat.le_refl _)];simp
  rw [ho];have hw:Region.wanted o2 (yielded O2 a1.tmps)=true:=by
   have hg:o2.guard=none:=by kernel_rfl
   unfold Region.wanted;rw [hg]
  simp only [hw,if_true];have hbel:Below cx.w.heap.size cx.w W1:=by
   have:=hrep1.kept;exact⟨this.os,this.tape,this.output,this.size,fun k hk=>this.block k hk (hown k)⟩
  have r1:=hrep1.sl 6;have r2:=hrep1.sl 7;have r3:=hrep1.sl 8;have r1':Rel ρ1 (.f 166 [.p 2 0,.p 3 0]) (a1.tmps.getD 6 undef):=r1;have r2':Rel ρ1 (.a (cP p)) (a1.tmps.getD 7 undef):=r2;have r3':Rel ρ1 (iv (d:Nat)) (a1.tmps.getD 8 undef):=r3;simp only [Rel] at r1';obtain⟨vs,hv,hc⟩:=r1';have own2:∀b,cx.mine b->cx.w.heap.size<=b:=fun b hb=>hb.elim id (fun h=>(hown b h).elim)
  have b2:=(xM (ks:=[2,3]) (i:=0) (m:=false) (x:=.live true false [.v (yv l)]) (y:=.live false false [.v (yv l)]) (M':=fun b=>W1.heap.size<=b) rfl rfl trivial (hrep1.bk 2) (fun _ h=>by cases h) (fun _ b hlt _ hM=>absurd hM (Nat.not_le_of_lt hlt))).1;have b3:=(xM (ks:=[2,3]) (i:=1) (m:=false) (x:=.live true false [.f 166 [.p 2 0,.p 3 0]]) (y:=.live false false [.f 166 [.p 0 0,.p 1 0]]) (M':=fun b=>W1.heap.size<=b) rfl rfl trivial (hrep1.bk 3) (fun _ h=>by cases h) (fun _ b hlt _ hM=>absurd hM (Nat.not_le_of_lt hlt))).1;have hS2:∀k,k < 2->∀b o n,iX ρ1 [2,3] k=some (b,o,n)->¬S0 b:=fun k hk b o n h hSb=>by
   have hlt:=hB _ _ _ h0 b hSb;have own:∀j,(z21 l p d).fs.bk j≠.un->((z21 l p d).fs.bk j).own->ρ1 j=some (b,o,n)->False:=fun j _ hj hρ=>by
    have hb:=hrep1.bk j;cases hx:(z21 l p d).fs.bk j with
    | un=>rw [hx] at hj;exact hj
    | dead=>rw [hx] at hj;exact hj
    | map es =>
     rw [hx] at hb;obtain⟨b',n',arr,q1,q2,_⟩:=hb;rw [hρ] at q1;cases q1;have:=own2 b q2;omega
    | live ow sy cs=>cases ow with
     | false=>rw [hx] at hj;exact hj
     | true =>
      rw [hx] at hb;rcases hb with⟨q,_⟩ | ⟨b',vs,rest,ty,q1,q2,_⟩
      ·rw [hρ] at q;cases q
      ·rw [hρ] at q1;cases q1;have:=own2 b q2;omega
   match k,hk with
   | 0,_=>exact own 2 (by simp [z21,LS.fs]) (by trivial) h
   | 1,_=>exact own 3 (by simp [z21,LS.fs]) (by trivial) h
  refine aNw bBd (g:=166) (caps:=vs) hv aRf ((aF5 (l:=l) hJ hX hB hY d hd) p 0 S0 W1 (iX ρ1 [2,3]) (a1.tmps.getD 7 undef::a1.tmps.getD 8 undef::vs) ?_ b2 b3 hS2 (hJ _ _ _ _ h0 hbel hrep1.kept.drawn) (fun j x hj=>by rw [Nat.zero_add];exact hj)) (fun e Wd' hR=>?_)
  ·exact uJ (xL (ks:=[2,3]) (.a (cP p)) (.a (cP p)) _ rfl r2') (uJ (xL (ks:=[2,3]) (iv (d:Nat)) (iv (d:Nat)) _ rfl r3') (renL_rel (ks:=[2,3]) [.p 2 0,.p 3 0] [.p 0 0,.p 1 0] vs rfl hc))
  ·have fin:∀v:Bool,e=.returned (.bool v)->(∃S',(J (eQ d p).length S' Wd'\/Jx S' Wd')/\Kept W1 S0 Wd')->∃v,e=.returned v/\wpOpsIn (Fw none) 9 Tryz.prog O2 (gR none 9 Tryz.prog (bodyPost Tryz.prog Tryz.f165 (fun e Wd'=>(∃v,e=.returned v)/\∃S',(J (eQ d p).length S' Wd'\/Jx S' Wd')/\Kept cx.w S0 Wd')) []) (List.range' ((O2.toList.take 3).length+1) 0) (a1.put o2.dst v) Wd':=fun v he ⟨S',hj',hk'⟩=>by
    refine⟨_,he,?_⟩;simp only [List.range'_zero,wpOpsIn,gR];refine⟨?_,_,aJv oK,⟨_,rfl⟩,S',hj',?_⟩
    ·exact hrep1.defs
    ·exact(Kept.of_below S0 hbel hrep1.kept.drawn).trans hk' (fun b hb _=>hb)
   rcases hR with⟨he,S',hj',hk',_⟩ | ⟨he,S',hj',hk'⟩
   ·exact fin true he ⟨S',.inl (by rwa [Nat.zero_add] at hj'),hk'⟩
   ·exact fin false he ⟨S',.inr hj',hk'⟩
 have e:((Value.func (.yield l) #[] #[])::lb).toArray=#[.func (.yield l) #[] #[]]++lb.toArray:=by apply Array.ext';simp
 rw [←e];exact hcon
theorem aPv (p:Zt×Zt×Zt)(d:Int)(h:0<=d/\d<=3):aU6 Tryz.prog 165 [.p 0 0,.p 1 0] [.live false false (cP p),.live false false [iv d]] aG8 (eQ (tN d) p):=by
 have:=aRh p d.toNat oM
 rwa [Int.toNat_of_nonneg h.1] at this
end Go.Proofs.YtlffahoikfahlaaGreat
namespace Go.Proofs.YtlffahoikfahlaaGreat
open Go.Proofs Go.Aw Go.RowKit
set_option maxRecDepth 100000
def aHa (a0 a1 a2:Int):Bool := (bif (decide ((a1:Int)<=a0))then(decide ((a0:Int)<=a2))else false)
theorem aYn (a0 a1 a2:Int):Con Tryz.prog 155 [(iv a0),(iv a1),(iv a2)] [] (.v (.bool (aHa a0 a1 a2))) []:=by
 refine cS Tryz.func155 fun cx hcx=>?_
 rw [aHa];cases h0:(decide ((a1:Int)<=a0))
 case true=>exact rT [.d h0] hcx
 exact rT [.d h0] hcx
def aE8 (a0:Zt)(a1:Int):Bool := (bif (aHa a0.1 (W (0 - a1)) a1)then(bif (aHa a0.2.1 (W (0 - a1)) a1)then(aHa a0.2.2 (W (0 - a1)) a1)else false)else false)
theorem aYo (a0:Zt)(a1:Int):Con Tryz.prog 120 [(.a (k3 a0)),(iv a1)] [] (.v (.bool (aE8 a0 a1))) []:=by
 refine cS Tryz.func120 fun cx hcx=>?_
 let t0:SL:=[.c [] (aYn a0.1 (W (0 - a1)) a1)];rw [aE8];cases h0:(aHa a0.1 (W (0 - a1)) a1)
 case true=>
  let t1:SL:=t0++[.d h0,.c [] (aYn a0.2.1 (W (0 - a1)) a1)];cases h1:(aHa a0.2.1 (W (0 - a1)) a1)
  case true=>exact rT (t1++[.d h1,.c [] (aYn a0.2.2 (W (0 - a1)) a1)]) hcx
  exact rT (t1++[.d h1]) hcx
 exact rT (t0++[.d h0]) hcx
def aYp (a0:Zt)(a1:Int)(a2:Zt):Zt := ((W (a0.1+(W (a1*a2.1)))),(W (a0.2.1+(W (a1*a2.2.1)))),(W (a0.2.2+(W (a1*a2.2.2)))))
theorem bD4 (a0:Zt)(a1:Int)(a2:Zt):Con Tryz.prog 181 [(.a (k3 a0)),(iv a1),(.a (k3 a2))] [] (.a (k3 (aYp a0 a1 a2))) []:=by
 refine cS Tryz.func181 fun cx hcx=>?_
 exact rT [] hcx
def aL5 (a0 a1:Zt):Zt := (aYp a0 (-1) a1)
theorem bBe (a0 a1:Zt):Con Tryz.prog 157 [(.a (k3 a0)),(.a (k3 a1))] [] (.a (k3 (aL5 a0 a1))) []:=by
 refine cS Tryz.func157 fun cx hcx=>?_
 exact rT [.c [] (bD4 a0 (-1) a1)] hcx
def aYq (a0 a1:Zt):Zt := ((W ((W (a0.2.1*a1.2.2)) - (W (a0.2.2*a1.2.1)))),(W ((W (a0.2.2*a1.1)) - (W (a0.1*a1.2.2)))),(W ((W (a0.1*a1.2.1)) - (W (a0.2.1*a1.1)))))
theorem bD5 (a0 a1:Zt):Con Tryz.prog 156 [(.a (k3 a0)),(.a (k3 a1))] [] (.a (k3 (aYq a0 a1))) []:=by
 refine cS Tryz.func156 fun cx hcx=>?_
 exact rT [] hcx
def aHb (a0:Zt×Zt×Zt):Zt := (aYq (aL5 a0.2.1 a0.1) (aL5 a0.2.2 a0.1))
theorem bD6 (a0:Zt×Zt×Zt):Con Tryz.prog 121 [(.a (k9 a0))] [] (.a (k3 (aHb a0))) []:=by
 refine cS Tryz.func121 fun cx hcx=>?_
 exact rT [.c [] (bBe a0.2.1 a0.1),.c [] (bBe a0.2.2 a0.1),.c [] (bD5 (aL5 a0.2.1 a0.1) (aL5 a0.2.2 a0.1))] hcx
def F75 (a0:Zt×Zt×Zt):Int := (bif (!(aE8 a0.1 64))then 1 else(bif (!(aE8 a0.2.1 64))then 1 else(bif (!(aE8 a0.2.2 64))then 1 else(bif ((((aHb a0).1:Int) == 0)&&((((aHb a0).2.1:Int) == 0)&&((((aHb a0).2.2:Int) == 0)&&true)))then 6 else 0))))
theorem C75 (a0:Zt×Zt×Zt):Con Tryz.prog 75 [(.a (k9 a0))] [] (iv (F75 a0)) []:=by
 refine cS Tryz.func75 fun cx hcx=>?_
 let t0:SL:=[.c [] (aYo a0.1 64)];rw [F75];cases h0:(!(aE8 a0.1 64))
 case true=>exact rT (t0++[.d h0]) hcx
 let t1:SL:=t0++[.d h0,.c [] (aYo a0.2.1 64)];cases h1:(!(aE8 a0.2.1 64))
 case true=>exact rT (t1++[.d h1]) hcx
 let t2:SL:=t1++[.d h1,.c [] (aYo a0.2.2 64)];cases h2:(!(aE8 a0.2.2 64))
 case true=>exact rT (t2++[.d h2]) hcx
 let t3:SL:=t2++[.d h2,.c [] (bD6 a0)];cases h3:((((aHb a0).1:Int) == 0)&&((((aHb a0).2.1:Int) == 0)&&((((aHb a0).2.2:Int) == 0)&&true)))
 case true=>exact rT (t3++[.d h3]) hcx
 exact rT (t3++[.d h3]) hcx
def F41 (a0 a1 a2:Int):Bool := (bif (decide ((a0:Int)≥a1))then(decide ((a0:Int)<=a2))else false)
theorem C41 (a0 a1 a2:Int):Con Tryz.prog 41 [(iv a0),(iv a1),(iv a2)] [] (.v (.bool (F41 a0 a1 a2))) []:=by
 refine cS Tryz.func41 fun cx hcx=>?_
 rw [F41];cases h0:(decide ((a0:Int)≥a1))
 case true=>exact rT [.d h0] hcx
 exact rT [.d h0] hcx
def F40 (a0:Zt):Bool := (bif (F41 a0.1 (-256) 256)then(bif (F41 a0.2.1 (-256) 256)then(F41 a0.2.2 (-256) 256)else false)else false)
theorem C40 (a0:Zt):Con Tryz.prog 40 [(.a (k3 a0))] [] (.v (.bool (F40 a0))) []:=by
 refine cS Tryz.func40 fun cx hcx=>?_
 let t0:SL:=[.c [] (C41 a0.1 (-256) 256)];rw [F40];cases h0:(F41 a0.1 (-256) 256)
 case true=>
  let t1:SL:=t0++[.d h0,.c [] (C41 a0.2.1 (-256) 256)];cases h1:(F41 a0.2.1 (-256) 256)
  case true=>exact rT (t1++[.d h1,.c [] (C41 a0.2.2 (-256) 256)]) hcx
  exact rT (t1++[.d h1]) hcx
 exact rT (t0++[.d h0]) hcx
def F77 (a0:Zt×Zt×Zt)(a1:Zt)(a2:Int):Int := (bif (((F75 a0):Int) != 0)then(F75 a0)else(bif (!(F40 a1))then 1 else(bif (!(F41 a2 0 3))then 1 else 0)))
theorem C77 (a0:Zt×Zt×Zt)(a1:Zt)(a2:Int):Con Tryz.prog 77 [(.a (k9 a0)),(.a (k3 a1)),(iv a2)] [] (iv (F77 a0 a1 a2)) []:=by
 refine cS Tryz.func77 fun cx hcx=>?_
 let t0:SL:=[.c [] (C75 a0)];rw [F77];cases h0:(((F75 a0):Int) != 0)
 case true=>exact rT (t0++[.d h0]) hcx
 let t1:SL:=t0++[.d h0,.c [] (C40 a1)];cases h1:(!(F40 a1))
 case true=>exact rT (t1++[.d h1]) hcx
 let t2:SL:=t1++[.d h1,.c [] (C41 a2 0 3)];cases h2:(!(F41 a2 0 3))
 case true=>exact rT (t2++[.d h2]) hcx
 exact rT (t2++[.d h2]) hcx
def aL6 (a0:(Int)×(Int)×(Int)):Int := (W ((W ((W (0+a0.1))+a0.2.1))+a0.2.2))
theorem aYr (a0:(Int)×(Int)×(Int)):Con Tryz.prog 193 [(.s 0 0 3 1)] [(.live false false (k3 a0))] (iv (aL6 a0)) []:=by
 refine cS Tryz.func193 fun cx hcx=>?_
 exact rT [.u 200,.T,.i 0 3,.u 0,.T,.i 1 3,.u 0,.T,.i 2 3,.u 0,.F] hcx
def aE9 (a0 a1:Zt):Int := (aL6 ((W (a0.1*a1.1)),(W (a0.2.1*a1.2.1)),(W (a0.2.2*a1.2.2))))
theorem bBf (a0 a1:Zt):Con Tryz.prog 170 [(.a (k3 a0)),(.a (k3 a1))] [] (iv (aE9 a0 a1)) []:=by
 refine cS Tryz.func170 fun cx hcx=>?_
 exact rT [.c [2] (aYr ((W (a0.1*a1.1)),(W (a0.2.1*a1.2.1)),(W (a0.2.2*a1.2.2))))] hcx
def wJ (a0 a1:Zt):Zt := ((W (a0.1 - a1.1)),(W (a0.2.1 - a1.2.1)),(W (a0.2.2 - a1.2.2)))
theorem bD7 (a0 a1:Zt):Con Tryz.prog 171 [(.a (k3 a0)),(.a (k3 a1))] [] (.a (k3 (wJ a0 a1))) []:=by
 refine cS Tryz.func171 fun cx hcx=>?_
 exact rT [] hcx
def dL (a0:Zt×Zt×Zt):Zt×Zt := (((if(a0.2.2.1:Int) < (if(a0.2.1.1:Int) < (if(a0.1.1:Int) < a0.1.1 then a0.1.1 else a0.1.1)then a0.2.1.1 else(if(a0.1.1:Int) < a0.1.1 then a0.1.1 else a0.1.1))then a0.2.2.1 else(if(a0.2.1.1:Int) < (if(a0.1.1:Int) < a0.1.1 then a0.1.1 else a0.1.1)then a0.2.1.1 else(if(a0.1.1:Int) < a0.1.1 then a0.1.1 else a0.1.1))),(if(a0.2.2.2.1:Int) < (if(a0.2.1.2.1:Int) < (if(a0.1.2.1:Int) < a0.1.2.1 then a0.1.2.1 else a0.1.2.1)then a0.2.1.2.1 else(if(a0.1.2.1:Int) < a0.1.2.1 then a0.1.2.1 else a0.1.2.1))then a0.2.2.2.1 else(if(a0.2.1.2.1:Int) < (if(a0.1.2.1:Int) < a0.1.2.1 then a0.1.2.1 else a0.1.2.1)then a0.2.1.2.1 else(if(a0.1.2.1:Int) < a0.1.2.1 then a0.1.2.1 else a0.1.2.1))),(if(a0.2.2.2.2:Int) < (if(a0.2.1.2.2:Int) < (if(a0.1.2.2:Int) < a0.1.2.2 then a0.1.2.2 else a0.1.2.2)then a0.2.1.2.2 else(if(a0.1.2.2:Int) < a0.1.2.2 then a0.1.2.2 else a0.1.2.2))then a0.2.2.2.2 else(if(a0.2.1.2.2:Int) < (if(a0.1.2.2:Int) < a0.1.2.2 then a0.1.2.2 else a0.1.2.2)then a0.2.1.2.2 else(if(a0.1.2.2:Int) < a0.1.2.2 then a0.1.2.2 else a0.1.2.2)))),((if((if((if(a0.1.1:Int) < a0.1.1 then a0.1.1 else a0.1.1):Int) < a0.2.1.1 then a0.2.1.1 else(if(a0.1.1:Int) < a0.1.1 then a0.1.1 else a0.1.1)):Int) < a0.2.2.1 then a0.2.2.1 else(if((if(a0.1.1:Int) < a0.1.1 then a0.1.1 else a0.1.1):Int) < a0.2.1.1 then a0.2.1.1 else(if(a0.1.1:Int) < a0.1.1 then a0.1.1 else a0.1.1))),(if((if((if(a0.1.2.1:Int) < a0.1.2.1 then a0.1.2.1 else a0.1.2.1):Int) < a0.2.1.2.1 then a0.2.1.2.1 else(if(a0.1.2.1:Int) < a0.1.2.1 then a0.1.2.1 else a0.1.2.1)):Int) < a0.2.2.2.1 then a0.2.2.2.1 else(if((if(a0.1.2.1:Int) < a0.1.2.1 then a0.1.2.1 else a0.1.2.1):Int) < a0.2.1.2.1 then a0.2.1.2.1 else(if(a0.1.2.1:Int) < a0.1.2.1 then a0.1.2.1 else a0.1.2.1))),(if((if((if(a0.1.2.2:Int) < a0.1.2.2 then a0.1.2.2 else a0.1.2.2):Int) < a0.2.1.2.2 then a0.2.1.2.2 else(if(a0.1.2.2:Int) < a0.1.2.2 then a0.1.2.2 else a0.1.2.2)):Int) < a0.2.2.2.2 then a0.2.2.2.2 else(if((if(a0.1.2.2:Int) < a0.1.2.2 then a0.1.2.2 else a0.1.2.2):Int) < a0.2.1.2.2 then a0.2.1.2.2 else(if(a0.1.2.2:Int) < a0.1.2.2 then a0.1.2.2 else a0.1.2.2)))))
theorem aYs (a0:Zt×Zt×Zt):Con Tryz.prog 168 [(.s 0 0 3 3)] [(.live false false (k9 a0))] (.t [(.a (k3 (dL a0).1)),(.a (k3 (dL a0).2))]) []:=by
 refine cS Tryz.func168 fun cx hcx=>?_
 exact rT [.i 0 3,.i 0 3,.u 200,.T,.i 0 3,.u 0,.T,.i 1 3,.u 0,.T,.i 2 3,.u 0,.F] hcx
def dJ (a0:Zt):Zt×Zt := (((if(a0.1:Int) < a0.1 then a0.1 else a0.1),(if(a0.2.1:Int) < a0.2.1 then a0.2.1 else a0.2.1),(if(a0.2.2:Int) < a0.2.2 then a0.2.2 else a0.2.2)),((if(a0.1:Int) < a0.1 then a0.1 else a0.1),(if(a0.2.1:Int) < a0.2.1 then a0.2.1 else a0.2.1),(if(a0.2.2:Int) < a0.2.2 then a0.2.2 else a0.2.2)))
theorem aYt (a0:Zt):Con Tryz.prog 168 [(.s 0 0 1 3)] [(.live false false (k3 a0))] (.t [(.a (k3 (dJ a0).1)),(.a (k3 (dJ a0).2))]) []:=by
 refine cS Tryz.func168 fun cx hcx=>?_
 exact rT [.i 0 1,.i 0 1,.u 200,.T,.i 0 1,.u 0,.F] hcx
def pP (a0 a1 a2 a3:Int):Int := (if((if(0:Int) < (W (a2 - a1))then(W (a2 - a1))else 0):Int) < (W (a0 - a3))then(W (a0 - a3))else(if(0:Int) < (W (a2 - a1))then(W (a2 - a1))else 0))
theorem aYu (a0 a1 a2 a3:Int):Con Tryz.prog 169 [(iv a0),(iv a1),(iv a2),(iv a3)] [] (iv (pP a0 a1 a2 a3)) []:=by
 refine cS Tryz.func169 fun cx hcx=>?_
 exact rT [] hcx
def dU (a0:Zt×Zt×Zt)(a1:Zt):Int := (aE9 ((pP (dL a0).1.1 (dL a0).2.1 (dJ a1).1.1 (dJ a1).2.1),(pP (dL a0).1.2.1 (dL a0).2.2.1 (dJ a1).1.2.1 (dJ a1).2.2.1),(pP (dL a0).1.2.2 (dL a0).2.2.2 (dJ a1).1.2.2 (dJ a1).2.2.2)) ((pP (dL a0).1.1 (dL a0).2.1 (dJ a1).1.1 (dJ a1).2.1),(pP (dL a0).1.2.1 (dL a0).2.2.1 (dJ a1).1.2.1 (dJ a1).2.2.1),(pP (dL a0).1.2.2 (dL a0).2.2.2 (dJ a1).1.2.2 (dJ a1).2.2.2)))
theorem aJz (a0:Zt×Zt×Zt)(a1:Zt):Con Tryz.prog 130 [(.s 0 0 3 3),(.s 1 0 1 3)] [(.live false false (k9 a0)),(.live false false (k3 a1))] (iv (dU a0 a1)) []:=by
 refine cS Tryz.func130 fun cx hcx=>?_
 exact rT [.c [0] (aYs a0),.c [1] (aYt a1),.c [] (aYu (dL a0).1.1 (dL a0).2.1 (dJ a1).1.1 (dJ a1).2.1),.c [] (aYu (dL a0).1.2.1 (dL a0).2.2.1 (dJ a1).1.2.1 (dJ a1).2.2.1),.c [] (aYu (dL a0).1.2.2 (dL a0).2.2.2 (dJ a1).1.2.2 (dJ a1).2.2.2),.c [] (bBf ((pP (dL a0).1.1 (dL a0).2.1 (dJ a1).1.1 (dJ a1).2.1),(pP (dL a0).1.2.1 (dL a0).2.2.1 (dJ a1).1.2.1 (dJ a1).2.2.1),(pP (dL a0).1.2.2 (dL a0).2.2.2 (dJ a1).1.2.2 (dJ a1).2.2.2)) ((pP (dL a0).1.1 (dL a0).2.1 (dJ a1).1.1 (dJ a1).2.1),(pP (dL a0).1.2.1 (dL a0).2.2.1 (dJ a1).1.2.1 (dJ a1).2.2.1),(pP (dL a0).1.2.2 (dL a0).2.2.2 (dJ a1).1.2.2 (dJ a1).2.2.2)))] hcx
def c24 (x:Zt):List SV:=[(iv x.1),(iv x.2.1),(iv x.2.2)]
theorem nK (x:Zt):(c24 x).length=3:=rfl
noncomputable def wK:Code:=(aU [1,1,0,1,0,1,1,0,1,1] [0] (aV Tryz.f131) []).1
noncomputable def wL (m0:Nat):List K:=(aU [1,1,0,1,0,1,1,0,1,1] [m0] (aV Tryz.f131) []).2
def tF (a0:List Zt)(a1:List Zt)(v5 v6 v7 v8 v9 v10:Int):LS:=⟨gU 34 [(1,(.s 1 0 a1.length 3)),(5,(iv v5)),(7,(.p 2 0)),(11,(.s 0 0 a0.length 3)),(12,(iv (a0.length:Int))),(13,(iv v6)),(17,(.s 1 0 a1.length 3)),(18,(iv (a1.length:Int))),(19,(iv v7))],[(.live false true (flat c24 a0)),(.live false true (flat c24 a1)),(.live true false [(iv v8),(iv v9),(iv v10)])]⟩
def wM (a0:List Zt)(a1:List Zt):Int×Int×Int×Zt->(Int×Int×Int×Zt)⊕(Zs⊕(Int)) | (v5,v6,v7,v8,v9,v10) => (bif (decide ((v7:Int) < (a1.length:Int)))then(.inl ((if(v5:Int) < (aE9 (wJ (v8,v9,v10) (a1.getD (tN v7) dF)) (wJ (v8,v9,v10) (a1.getD (tN v7) dF)))then(aE9 (wJ (v8,v9,v10) (a1.getD (tN v7) dF)) (wJ (v8,v9,v10) (a1.getD (tN v7) dF)))else v5),v6,(v7+1),v8,v9,v10))else(.inr (.inl (v5,(v6+1)))))
noncomputable def lM:=aU [1,1,0,1] [] (aV Tryz.f131) []
def pE (a0:List Zt)(a1:List Zt)(v3 v4:Int):LS:=⟨gU 34 [(1,(.s 1 0 a1.length 3)),(5,(iv v3)),(11,(.s 0 0 a0.length 3)),(12,(iv (a0.length:Int))),(13,(iv v4))],[(.live false true (flat c24 a0)),(.live false true (flat c24 a1))]⟩
def oB (a0:List Zt)(a1:List Zt):Zs->Zs⊕(Int) | (v3,v4) => (bif (decide ((v4:Int) < (a0.length:Int)))then(aG (wM a0 a1) (tN ((a1.length:Int) - 0)+1) (v3,v4,0,(a0.getD (tN v4) dF).1,(a0.getD (tN v4) dF).2.1,(a0.getD (tN v4) dF).2.2))else(.inr v3))
theorem aL7 (a0:List Zt)(a1:List Zt)(l0:a0.length<=2^63-1)(l1:a1.length<=2^63-1) {cx:Cx} (hcx:cx.base=2)
 (n0:Nat) (g0:∀(v3 v4:Int),0<=v4->tN ((a0.length:Int) - v4) < n0->gG Tryz.f131 cx (iv (aG (oB a0 a1) n0 (v3,v4))) [] [] (.l lM.1 n0::lM.2) (pE a0 a1 v3 v4)):∀(n:Nat) (v5 v6 v7 v8 v9 v10:Int),(0<=v7)/\((0<=v6))/\(v6 < (a0.length:Int))/\(tN ((a0.length:Int) - v6) < n0+1)->tN ((a1.length:Int) - v7) < n->gG Tryz.f131 cx (iv (bN (oB a0 a1) n0 (aG (wM a0 a1) n (v5,v6,v7,v8,v9,v10)))) [] [] (.l wK n::wL n0) (tF a0 a1 v5 v6 v7 v8 v9 v10):=by
 intro n
 induction n with|zero=>intro v5 v6 v7 v8 v9 v10 hi hn;exact absurd hn (dX _)|succ n ih=>?_
 intro v5 v6 v7 v8 v9 v10 hi hn;refine aN ?_;rw [aZ,wM];cases h0:(decide ((v7:Int) < (a1.length:Int)))
 case true=>have q0:=eS h0;refine ba [.d h0,.i v7 (a1.length),.L nK a1 v7 0 3,.c [] (bD7 (v8,v9,v10) (a1.getD (tN v7) dF)),.c [] (bBf (wJ (v8,v9,v10) (a1.getD (tN v7) dF)) (wJ (v8,v9,v10) (a1.getD (tN v7) dF)))] [] [1,5,7,11,12,13,17,18,19] [2] hcx (m:=n) wK (wL n0) (tF a0 a1 (if(v5:Int) < (aE9 (wJ (v8,v9,v10) (a1.getD (tN v7) dF)) (wJ (v8,v9,v10) (a1.getD (tN v7) dF))) then(aE9 (wJ (v8,v9,v10) (a1.getD (tN v7) dF)) (wJ (v8,v9,v10) (a1.getD (tN v7) dF))) else v5) v6 (W (v7+1)) v8 v9 v10) oK ?_;have z0:(W (v7+1))=(v7+1):=aH oM oM;rw [z0];exact ih _ _ _ _ _ _ oR oM
 have q0:=iF h0;refine bA n0 [.d h0] [1,5,11,12,13] [] hcx lM (pE a0 a1 v5 (W (v6+1))) ?_;have z0:(W (v6+1))=(v6+1):=aH oM oM;rw [z0];exact g0 v5 (v6+1) oM oM
theorem aL8 (a0:List Zt)(a1:List Zt)(l0:a0.length<=2^63-1)(l1:a1.length<=2^63-1) {cx:Cx} (hcx:cx.base=2):∀(n:Nat) (v3 v4:Int),0<=v4->tN ((a0.length:Int) - v4) < n->gG Tryz.f131 cx (iv (aG (oB a0 a1) n (v3,v4))) [] [] (.l lM.1 n::lM.2) (pE a0 a1 v3 v4):=by
 intro n
 induction n with|zero=>intro v3 v4 hi hn;exact absurd hn (dX _)|succ n ih=>?_
 intro v3 v4 hi hn;refine aN ?_;rw [aZ,oB];cases h0:(decide ((v4:Int) < (a0.length:Int)))
 case true=>have q0:=eS h0;refine en [.d h0,.i v4 (a0.length),.L nK a0 v4 0 3] [] [1,5,7,11,12,13,17,18,19] [2] hcx wK (wL n) (tF a0 a1 v3 v4 0 ((a0.getD (tN v4) dF).1) ((a0.getD (tN v4) dF).2.1) ((a0.getD (tN v4) dF).2.2)) (tN ((a1.length:Int) - 0)+1) oK ?_;exact aL7 a0 a1 l0 l1 hcx n ih (tN ((a1.length:Int) - 0)+1) v3 v4 0 ((a0.getD (tN v4) dF).1) ((a0.getD (tN v4) dF).2.1) ((a0.getD (tN v4) dF).2.2) oR oM
 exact rT [.d h0] hcx
def gH (a0:List Zt)(a1:List Zt):Int := (aG (oB a0 a1) (tN ((a0.length:Int) - 0)+1) (0,0))
theorem aRi (a0:List Zt)(a1:List Zt)(l0:a0.length<=2^63-1)(l1:a1.length<=2^63-1):Con Tryz.prog 131 [(.s 0 0 a0.length 3),(.s 1 0 a1.length 3)] [(.live false true (flat c24 a0)),(.live false true (flat c24 a1))] (iv (gH a0 a1)) []:=by
 refine cS Tryz.func131 fun cx hcx=>?_
 refine eN [] [1,5,11,12,13] [] hcx lM (pE a0 a1 0 0) (tN ((a0.length:Int) - 0)+1) ?_;exact aL8 a0 a1 l0 l1 hcx (tN ((a0.length:Int) - 0)+1) 0 0 oM oM
noncomputable def zW:Code:=match (dY [1] [] (aV Tryz.f173)).1 with
 | .scope c=>c
 | _=>.skip
noncomputable def aC8:List K:=(dY [1] [] (aV Tryz.f173)).2
noncomputable def aYv:Code:=(findLabel zW 0).getD .skip
def xX (a0:Int)(v1 v2:Int):LS:=⟨gU 22 [(0,(iv a0)),(3,(iv v1)),(4,(iv v2))],[]⟩
def zX (a0:Int):Zs->Zs⊕(Int) | (v1,v2) => (bif ((v2:Int) == 0)then(.inr v1)else(bif (decide (((W ((W (v1+v2))*(W (v1+v2)))):Int)<=a0))then(.inl ((W (v1+v2)),(v2 / 2)))else(.inl (v1,(v2 / 2)))))
theorem aRj (a0:Int) {cx:Cx} (hcx:cx.base=0):∀(n:Nat) (v1 v2:Int),0<=v2->tN v2 < n->gG Tryz.f173 cx (iv (aG (zX a0) n (v1,v2))) [] [] (.c (.goto 0)::.s zW n::aC8) (xX a0 v1 v2):=by
 intro n
 induction n with|zero=>intro v1 v2 hi hn;exact absurd hn (dX _)|succ n ih=>?_
 intro v1 v2 hi hn;refine aPq (rest:=aYv) oK ?_;rw [aZ,zX];cases h0:((v2:Int) == 0)
 case true=>exact rT [.d h0] hcx
 have q0:=ne_of_beq_false h0;let t1:SL:=[.d h0];cases h1:(decide (((W ((W (v1+v2))*(W (v1+v2)))):Int)<=a0))
 case true=>refine ga (t1++[.d h1,.p (show 0<=(1:Int) from by decide)]) [] [0,3,4] [] hcx (.goto 0) (.s zW n::aC8) (xX a0 (W (v1+v2)) (fD v2 (2 ^ (min (tN 1) 64)))) oK ?_;have z0:(fD v2 (2 ^ (min (tN 1) 64)))=(v2 / 2):=aL3 _ 1 (by decide);rw [z0];exact ih _ _ oM oM
 refine ga (t1++[.d h1,.p (show 0<=(1:Int) from by decide)]) [] [0,3,4] [] hcx (.goto 0) (.s zW n::aC8) (xX a0 v1 (fD v2 (2 ^ (min (tN 1) 64)))) oK ?_;have z0:(fD v2 (2 ^ (min (tN 1) 64)))=(v2 / 2):=aL3 _ 1 (by decide);rw [z0];exact ih _ _ oM oM
def kO (a0:Int):Int := (bif (decide ((4611686018427387904:Int)<=a0))then(aG (zX a0) (tN 1073741824+1) (2147483648,1073741824))else(aG (zX a0) (tN 1073741824+1) (0,1073741824)))
theorem bD8 (a0:Int):Con Tryz.prog 173 [(iv a0)] [] (iv (kO a0)) []:=by
 refine cS Tryz.func173 fun cx hcx=>?_
 rw [kO];cases h0:(decide ((4611686018427387904:Int)<=a0))
 case true=>refine ga [.u (tN 1073741824+1),.F,.d h0,.p (show 0<=(1:Int) from by decide)] [] [0,3,4] [] hcx (.goto 0) (.s zW (tN 1073741824+1)::aC8) (xX a0 2147483648 1073741824) oK ?_;exact aRj a0 hcx (tN 1073741824+1) 2147483648 1073741824 oM oM
 refine ga [.u (tN 1073741824+1),.F,.d h0,.p (show 0<=(1:Int) from by decide)] [] [0,3,4] [] hcx (.goto 0) (.s zW (tN 1073741824+1)::aC8) (xX a0 0 1073741824) oK ?_;exact aRj a0 hcx (tN 1073741824+1) 0 1073741824 oM oM
def uZ (a0:Zs):Bool := (bif (decide ((a0.1:Int)≥(-1099511627776)))then(bif (decide ((a0.1:Int)<=a0.2))then(decide ((a0.2:Int)<=1099511627776))else false)else false)
theorem C55 (a0:Zs):Con Tryz.prog 55 [(.a [(iv a0.1),(iv a0.2)])] [] (.v (.bool (uZ a0))) []:=by
 refine cS Tryz.func55 fun cx hcx=>?_
 rw [uZ];cases h0:(decide ((a0.1:Int)≥(-1099511627776)))
 case true=>
  let t1:SL:=[.d h0];cases h1:(decide ((a0.1:Int)<=a0.2))
  case true=>exact rT (t1++[.d h1]) hcx
  exact rT (t1++[.d h1]) hcx
 exact rT [.d h0] hcx
def sT (a0 a1:Int):Zs×Int := (bif (!(uZ (a0,a1)))then((0,0),4)else((a0,a1),0))
theorem C57 (a0 a1:Int):Con Tryz.prog 57 [(iv a0),(iv a1)] [] (.t [(.a (k2 (sT a0 a1).1)),(iv (sT a0 a1).2)]) []:=by
 refine cS Tryz.func57 fun cx hcx=>?_
 let t0:SL:=[.c [] (C55 (a0,a1))];rw [sT];cases h0:(!(uZ (a0,a1)))
 case true=>exact rT (t0++[.d h0]) hcx
 exact rT (t0++[.d h0]) hcx
def aL9 (a0 a1:Int):Zs×Int := (bif (((W ((W ((kO (W (tD a0 a1)))*(kO (W (tD a0 a1)))))*a1)):Int) == a0)then((sT (kO (W (tD a0 a1))) (kO (W (tD a0 a1)))).1,(sT (kO (W (tD a0 a1))) (kO (W (tD a0 a1)))).2)else((sT (kO (W (tD a0 a1))) (W ((kO (W (tD a0 a1)))+1))).1,(sT (kO (W (tD a0 a1))) (W ((kO (W (tD a0 a1)))+1))).2))
theorem bD9 (a0 a1:Int)(ha:a1≠0):Con Tryz.prog 133 [(iv a0),(iv a1)] [] (.t [(.a (k2 (aL9 a0 a1).1)),(iv (aL9 a0 a1).2)]) []:=by
 refine cS Tryz.func133 fun cx hcx=>?_
 let t0:SL:=[.p (show(a1:Int)≠0 from by first | omega | (rw [aH]<;>omega) | exact dZ _),.c [] (bD8 (W (tD a0 a1)))];rw [aL9];cases h0:(((W ((W ((kO (W (tD a0 a1)))*(kO (W (tD a0 a1)))))*a1)):Int) == a0)
 case true=>exact rT (t0++[.d h0,.c [] (C57 (kO (W (tD a0 a1))) (kO (W (tD a0 a1))))]) hcx
 exact rT (t0++[.d h0,.c [] (C57 (kO (W (tD a0 a1))) (W ((kO (W (tD a0 a1)))+1)))]) hcx
def vA (a0 a1:Int):Zs×Int := (bif (decide ((a0:Int) < 1))then((0,0),1)else(bif (decide ((a0:Int) > 1099511627776))then((0,0),1)else(bif (decide ((a1:Int) < 1))then((0,0),1)else(bif (decide ((a1:Int) > 8))then((0,0),1)else((aL9 (W ((W (a1*a1))*2 ^ (min (tN 40) 64))) a0).1,(aL9 (W ((W (a1*a1))*2 ^ (min (tN 40) 64))) a0).2)))))
theorem C79 (a0 a1:Int):Con Tryz.prog 79 [(iv a0),(iv a1)] [] (.t [(.a (k2 (vA a0 a1).1)),(iv (vA a0 a1).2)]) []:=by
 refine cS Tryz.func79 fun cx hcx=>?_
 rw [vA];cases h0:(decide ((a0:Int) < 1))
 case true=>exact rT [.d h0] hcx
 have q0:=iF h0;let t1:SL:=[.d h0];cases h1:(decide ((a0:Int) > 1099511627776))
 case true=>exact rT (t1++[.d h1]) hcx
 have q1:=iF h1;let t2:SL:=t1++[.d h1];cases h2:(decide ((a1:Int) < 1))
 case true=>exact rT (t2++[.d h2]) hcx
 let t3:SL:=t2++[.d h2];cases h3:(decide ((a1:Int) > 8))
 case true=>exact rT (t3++[.d h3]) hcx
 exact rT (t3++[.d h3,.p (show 0<=(40:Int) from by decide),.c [] (bD9 (W ((W (a1*a1))*2 ^ (min (tN 40) 64))) a0  oM)]) hcx
def pF (a0:Zs):Int := (bif (!(uZ a0))then 1 else 0)
theorem aW6 (a0:Zs):Con Tryz.prog 44 [(.s 0 0 1 2)] [(.live false false [(iv a0.1),(iv a0.2)])] (iv (pF a0)) []:=by
 refine cS Tryz.func44 fun cx hcx=>?_
 let t0:SL:=[.u 200,.T,.i 0 1,.c [] (C55 a0)];rw [pF];cases h0:(!(uZ a0))
 case true=>exact rT (t0++[.d h0]) hcx
 exact rT (t0++[.d h0,.u 0,.F]) hcx
def aJ0 (a0 a1:Int):Int := (bif (((mD a0 a1):Int) != 0)then(bif (!((decide ((a0:Int) < 0)) == (decide ((a1:Int) < 0))))then(W ((W (tD a0 a1)) - 1))else(W (tD a0 a1)))else(W (tD a0 a1)))
theorem bBg (a0 a1:Int)(ha:a1≠0):Con Tryz.prog 194 [(iv a0),(iv a1)] [] (iv (aJ0 a0 a1)) []:=by
 refine cS Tryz.func194 fun cx hcx=>?_
 let t0:SL:=[.p (show(a1:Int)≠0 from by first | omega | (rw [aH]<;>omega) | exact dZ _),.p (show(a1:Int)≠0 from by first | omega | (rw [aH]<;>omega) | exact dZ _)];rw [aJ0];cases h0:(((mD a0 a1):Int) != 0)
 case true=>
  let t1:SL:=t0++[.d h0];cases h1:(!((decide ((a0:Int) < 0)) == (decide ((a1:Int) < 0))))
  case true=>exact rT (t1++[.d h1]) hcx
  exact rT (t1++[.d h1]) hcx
 exact rT (t0++[.d h0]) hcx
def aPw (a0 a1:Int):Int := (W (0 - (aJ0 (W (0 - a0)) a1)))
theorem bEa (a0 a1:Int)(ha:a1≠0):Con Tryz.prog 195 [(iv a0),(iv a1)] [] (iv (aPw a0 a1)) []:=by
 refine cS Tryz.func195 fun cx hcx=>?_
 exact rT [.c [] (bBg (W (0 - a0)) a1  oM)] hcx
def aRk (a0:Zs)(a1:Int):Zs×Int := (bif (((pF a0):Int) != 0)then((0,0),(pF a0))else(bif (decide ((a1:Int) < 1))then((0,0),1)else(bif (decide ((a1:Int) > 1099511627776))then((0,0),1)else((sT (aJ0 a0.1 a1) (aPw a0.2 a1)).1,(sT (aJ0 a0.1 a1) (aPw a0.2 a1)).2))))
theorem bEb (a0:Zs)(a1:Int):Con Tryz.prog 172 [(.a [(iv a0.1),(iv a0.2)]),(iv a1)] [] (.t [(.a (k2 (aRk a0 a1).1)),(iv (aRk a0 a1).2)]) []:=by
 refine cS Tryz.func172 fun cx hcx=>?_
 let t0:SL:=[.c [2] (aW6 a0)];rw [aRk];cases h0:(((pF a0):Int) != 0)
 case true=>exact rT (t0++[.d h0]) hcx
 let t1:SL:=t0++[.d h0];cases h1:(decide ((a1:Int) < 1))
 case true=>exact rT (t1++[.d h1]) hcx
 have q1:=iF h1;let t2:SL:=t1++[.d h1];cases h2:(decide ((a1:Int) > 1099511627776))
 case true=>exact rT (t2++[.d h2]) hcx
 have q2:=iF h2;exact rT (t2++[.d h2,.c [] (bBg a0.1 a1  oM),.c [] (bEa a0.2 a1  oM),.c [] (C57 (aJ0 a0.1 a1) (aPw a0.2 a1))]) hcx
def lF (x:Zs):List SV:=[(iv x.1),(iv x.2)]
theorem kA (x:Zs):(lF x).length=2:=rfl
noncomputable def aBl:=aU [1,0,1] [] (aV Tryz.f44) []
def aC9 (a0:List Zs)(v1:Int):LS:=⟨gU 15 [(5,(.s 0 0 a0.length 2)),(6,(iv (a0.length:Int))),(7,(iv v1))],[(.live false true (flat lF a0))]⟩
def rJ (a0:List Zs):Int->(Int)⊕(Int) | v1 => (bif (decide ((v1:Int) < (a0.length:Int)))then(bif (!(uZ (a0.getD (tN v1) dF)))then(.inr 1)else(.inl (v1+1)))else(.inr 0))
theorem aVg (a0:List Zs)(l0:a0.length<=2^63-1) {cx:Cx} (hcx:cx.base=1):∀(n:Nat) (v1:Int),0<=v1->tN ((a0.length:Int) - v1) < n->gG Tryz.f44 cx (iv (aG (rJ a0) n v1)) [] [] (.l aBl.1 n::aBl.2) (aC9 a0 v1):=by
 intro n
 induction n with|zero=>intro v1 hi hn;exact absurd hn (dX _)|succ n ih=>?_
 intro v1 hi hn;refine aN ?_;rw [aZ,rJ];cases h0:(decide ((v1:Int) < (a0.length:Int)))
 case true=>
  have q0:=eS h0;let t1:SL:=[.d h0,.i v1 (a0.length),.L kA a0 v1 0 2,.c [] (C55 (a0.getD (tN v1) dF))];cases h1:(!(uZ (a0.getD (tN v1) dF)))
  case true=>exact rT (t1++[.d h1]) hcx
  refine bA n (t1++[.d h1]) [5,6,7] [] hcx aBl (aC9 a0 (W (v1+1))) ?_;have z0:(W (v1+1))=(v1+1):=aH oM oM;rw [z0];exact ih _ oM oM
 exact rT [.d h0] hcx
def aF6 (a0:List Zs):Int := (aG (rJ a0) (tN ((a0.length:Int) - 0)+1) 0)
theorem bBh (a0:List Zs)(l0:a0.length<=2^63-1):Con Tryz.prog 44 [(.s 0 0 a0.length 2)] [(.live false true (flat lF a0))] (iv (aF6 a0)) []:=by
 refine cS Tryz.func44 fun cx hcx=>?_
 refine eN [] [5,6,7] [] hcx aBl (aC9 a0 0) (tN ((a0.length:Int) - 0)+1) ?_;exact aVg a0 l0 hcx (tN ((a0.length:Int) - 0)+1) 0 oM oM
noncomputable def aBm:=aU [1,1,1,0,1] [] (aV Tryz.f56) []
def aDa (a0:List Zs)(v1 v2 v3:Int):LS:=⟨gU 33 [(2,(iv v1)),(3,(iv v2)),(16,(.s 0 0 a0.length 2)),(17,(iv (a0.length:Int))),(18,(iv v3))],[(.live false true (flat lF a0))]⟩
def xY (a0:List Zs):Zt->Zt⊕Zt | (v1,v2,v3) => (bif (decide ((v3:Int) < (a0.length:Int)))then(.inl ((W (v1+(a0.getD (tN v3) dF).1)),(W (v2+(a0.getD (tN v3) dF).2)),(v3+1)))else(.inr (v1,v2,0)))
theorem aVh (a0:List Zs)(l0:a0.length<=2^63-1) {cx:Cx} (hcx:cx.base=1):∀(n:Nat) (v1 v2 v3:Int),0<=v3->tN ((a0.length:Int) - v3) < n->gG Tryz.f56 cx (.t (k3 (aG (xY a0) n (v1,v2,v3)))) [] [] (.l aBm.1 n::aBm.2) (aDa a0 v1 v2 v3):=by
 intro n
 induction n with|zero=>intro v1 v2 v3 hi hn;exact absurd hn (dX _)|succ n ih=>?_
 intro v1 v2 v3 hi hn;refine aN ?_;rw [aZ,xY];cases h0:(decide ((v3:Int) < (a0.length:Int)))
 case true=>have q0:=eS h0;refine bA n [.d h0,.i v3 (a0.length),.L kA a0 v3 0 2] [2,3,16,17,18] [] hcx aBm (aDa a0 (W (v1+(a0.getD (tN v3) dF).1)) (W (v2+(a0.getD (tN v3) dF).2)) (W (v3+1))) ?_;have z0:(W (v3+1))=(v3+1):=aH oM oM;rw [z0];exact ih _ _ _ oM oM
 exact rT [.d h0] hcx
def qO (a0:List Zs):Zt := (bif (decide (((a0.length:Int):Int) > 10000))then(0,0,4)else(bif (((aF6 a0):Int) != 0)then(0,0,(aF6 a0))else(aG (xY a0) (tN ((a0.length:Int) - 0)+1) (0,0,0))))
theorem bBi (a0:List Zs)(l0:a0.length<=2^63-1):Con Tryz.prog 56 [(.s 0 0 a0.length 2)] [(.live false true (flat lF a0))] (.t (k3 (qO a0))) []:=by
 refine cS Tryz.func56 fun cx hcx=>?_
 rw [qO];cases h0:(decide (((a0.length:Int):Int) > 10000))
 case true=>exact rT [.d h0] hcx
 let t1:SL:=[.d h0,.c [0] (bBh a0 oM)];cases h1:(((aF6 a0):Int) != 0)
 case true=>exact rT (t1++[.d h1]) hcx
 refine eN (t1++[.d h1]) [2,3,16,17,18] [] hcx aBm (aDa a0 0 0 0) (tN ((a0.length:Int) - 0)+1) ?_;exact aVh a0 l0 hcx (tN ((a0.length:Int) - 0)+1) 0 0 0 oM oM
def qP (a0:List Zs):Zs×Int := (bif (((qO a0).2.2:Int) != 0)then((0,0),(qO a0).2.2)else((sT (qO a0).1 (qO a0).2.1).1,(sT (qO a0).1 (qO a0).2.1).2))
theorem aRl (a0:List Zs)(l0:a0.length<=2^63-1):Con Tryz.prog 28 [(.s 0 0 a0.length 2)] [(.live false true (flat lF a0))] (.t [(.a (k2 (qP a0).1)),(iv (qP a0).2)]) []:=by
 refine cS Tryz.func28 fun cx hcx=>?_
 let t0:SL:=[.c [0] (bBi a0 oM)];rw [qP];cases h0:(((qO a0).2.2:Int) != 0)
 case true=>exact rT (t0++[.d h0]) hcx
 exact rT (t0++[.d h0,.c [] (C57 (qO a0).1 (qO a0).2.1)]) hcx
def aDb (a0:Zs×Zs):Int := (bif (!(uZ a0.1))then 1 else(bif (!(uZ a0.2))then 1 else 0))
theorem bBj (a0:Zs×Zs):Con Tryz.prog 44 [(.s 0 0 2 2)] [(.live false false [(iv a0.1.1),(iv a0.1.2),(iv a0.2.1),(iv a0.2.2)])] (iv (aDb a0)) []:=by
 refine cS Tryz.func44 fun cx hcx=>?_
 let t0:SL:=[.u 200,.T,.i 0 2,.c [] (C55 a0.1)];rw [aDb];cases h0:(!(uZ a0.1))
 case true=>exact rT (t0++[.d h0]) hcx
 let t1:SL:=t0++[.d h0,.u 0,.T,.i 1 2,.c [] (C55 a0.2)];cases h1:(!(uZ a0.2))
 case true=>exact rT (t1++[.d h1]) hcx
 exact rT (t1++[.d h1,.u 0,.F]) hcx
def zF (a0 a1:Int):Int := (bif ((a0:Int) != 0)then(bif ((a1:Int) != 0)then(bif (decide (((if(a1:Int) < (W (0 - a1))then(W (0 - a1))else a1):Int) > (W (tD 1099511627776 (if(a0:Int) < (W (0 - a0))then(W (0 - a0))else a0)))))then(bif (!((decide ((a0:Int) < 0)) == (decide ((a1:Int) < 0))))then(-1099511627777)else 1099511627777)else(W (a0*a1)))else(W (a0*a1)))else(W (a0*a1)))
theorem C81 (a0 a1:Int)(ha:-1099511627776<=a0/\a0<=1099511627776):Con Tryz.prog 81 [(iv a0),(iv a1)] [] (iv (zF a0 a1)) []:=by
 refine cS Tryz.func81 fun cx hcx=>?_
 rw [zF];cases h0:((a0:Int) != 0)
 case true=>
  have q0:=bne_iff_ne.1 h0;let t1:SL:=[.d h0];cases h1:((a1:Int) != 0)
  case true=>
   let t2:SL:=t1++[.d h1,.p (show((if(a0:Int) < (W (0 - a0)) then(W (0 - a0)) else a0):Int)≠0 from by(have hw:=aH (n:=0 - a0) oM oM;rw [hw];split<;>omega))];cases h2:(decide (((if(a1:Int) < (W (0 - a1)) then(W (0 - a1)) else a1):Int) > (W (tD 1099511627776 (if(a0:Int) < (W (0 - a0)) then(W (0 - a0)) else a0)))))
   case true=>
    let t3:SL:=t2++[.d h2];cases h3:(!((decide ((a0:Int) < 0)) == (decide ((a1:Int) < 0))))
    case true=>exact rT (t3++[.d h3]) hcx
    exact rT (t3++[.d h3]) hcx
   exact rT (t2++[.d h2]) hcx
  exact rT (t1++[.d h1]) hcx
 exact rT [.d h0] hcx
def dI (x:(Zt×Zt×Zt)×Int):List SV:=[(iv x.1.1.1),(iv x.1.1.2.1),(iv x.1.1.2.2),(iv x.1.2.1.1),(iv x.1.2.1.2.1),(iv x.1.2.1.2.2),(iv x.1.2.2.1),(iv x.1.2.2.2.1),(iv x.1.2.2.2.2),(iv x.2)]
theorem cQ (x:(Zt×Zt×Zt)×Int):(dI x).length=10:=rfl
noncomputable def aBn:=aU [1,1,0,1] [] (aV Tryz.f38) []
def aDc (a0:bV)(v1:Int):LS:=⟨gU 26 [(9,(.s 0 0 a0.length 10)),(10,(iv (a0.length:Int))),(11,(iv v1))],[(.live false true (flat dI a0))]⟩
def kB (a0:bV):Int->(Int)⊕(Int) | v1 => (bif (decide ((v1:Int) < (a0.length:Int)))then(bif (((F75 (a0.getD (tN v1) dF).1):Int) != 0)then(.inr (F75 (a0.getD (tN v1) dF).1))else(bif (!(F41 (a0.getD (tN v1) dF).2 (-100) 100))then(.inr 1)else(.inl (v1+1))))else(.inr 0))
theorem aVi (a0:bV)(l0:a0.length<=2^63-1) {cx:Cx} (hcx:cx.base=1):∀(n:Nat) (v1:Int),0<=v1->tN ((a0.length:Int) - v1) < n->gG Tryz.f38 cx (iv (aG (kB a0) n v1)) [] [] (.l aBn.1 n::aBn.2) (aDc a0 v1):=by
 intro n
 induction n with|zero=>intro v1 hi hn;exact absurd hn (dX _)|succ n ih=>?_
 intro v1 hi hn;refine aN ?_;rw [aZ,kB];cases h0:(decide ((v1:Int) < (a0.length:Int)))
 case true=>
  have q0:=eS h0;let t1:SL:=[.d h0,.i v1 (a0.length),.L cQ a0 v1 0 10,.c [] (C75 (a0.getD (tN v1) dF).1)];cases h1:(((F75 (a0.getD (tN v1) dF).1):Int) != 0)
  case true=>exact rT (t1++[.d h1]) hcx
  let t2:SL:=t1++[.d h1,.c [] (C41 (a0.getD (tN v1) dF).2 (-100) 100)];cases h2:(!(F41 (a0.getD (tN v1) dF).2 (-100) 100))
  case true=>exact rT (t2++[.d h2]) hcx
  refine bA n (t2++[.d h2]) [9,10,11] [] hcx aBn (aDc a0 (W (v1+1))) ?_;have z0:(W (v1+1))=(v1+1):=aH oM oM;rw [z0];exact ih _ oM oM
 exact rT [.d h0] hcx
def iH (a0:bV):Int := (bif (decide (((a0.length:Int):Int) > 96))then 4 else(aG (kB a0) (tN ((a0.length:Int) - 0)+1) 0))
theorem aN1 (a0:bV)(l0:a0.length<=2^63-1):Con Tryz.prog 38 [(.s 0 0 a0.length 10)] [(.live false true (flat dI a0))] (iv (iH a0)) []:=by
 refine cS Tryz.func38 fun cx hcx=>?_
 rw [iH];cases h0:(decide (((a0.length:Int):Int) > 96))
 case true=>exact rT [.d h0] hcx
 refine eN [.d h0] [9,10,11] [] hcx aBn (aDc a0 0) (tN ((a0.length:Int) - 0)+1) ?_;exact aVi a0 l0 hcx (tN ((a0.length:Int) - 0)+1) 0 oM oM
def F71 (a0 a1 a2:Int):Bool := (bif (decide ((a0:Int)≥a1))then(decide ((a0:Int)<=a2))else false)
theorem C71 (a0 a1 a2:Int):Con Tryz.prog 71 [(iv a0),(iv a1),(iv a2)] [] (.v (.bool (F71 a0 a1 a2))) []:=by
 refine cS Tryz.func71 fun cx hcx=>?_
 rw [F71];cases h0:(decide ((a0:Int)≥a1))
 case true=>exact rT [.d h0] hcx
 exact rT [.d h0] hcx
def xE (a0:Zs):Bool := (bif (decide ((a0.1:Int)≥(-1099511627776)))then(bif (decide ((a0.1:Int)<=a0.2))then(decide ((a0.2:Int)<=1099511627776))else false)else false)
theorem C68 (a0:Zs):Con Tryz.prog 68 [(.a [(iv a0.1),(iv a0.2)])] [] (.v (.bool (xE a0))) []:=by
 refine cS Tryz.func68 fun cx hcx=>?_
 rw [xE];cases h0:(decide ((a0.1:Int)≥(-1099511627776)))
 case true=>
  let t1:SL:=[.d h0];cases h1:(decide ((a0.1:Int)<=a0.2))
  case true=>exact rT (t1++[.d h1]) hcx
  exact rT (t1++[.d h1]) hcx
 exact rT [.d h0] hcx
def c3 (x:Int):List SV:=[(iv x)]
theorem aF (x:Int):(c3 x).length=1:=rfl
def jC (a0:Zt×Zt×Zt)(a1:Int):ZL := (bif ((a1:Int) == 0)then([a0.1.1,a0.2.1.1,a0.2.2.1]:ZL)else(bif ((a1:Int) == 1)then([a0.1.2.1,a0.2.1.2.1,a0.2.2.2.1]:ZL)else([a0.1.2.2,a0.2.1.2.2,a0.2.2.2.2]:ZL)))
theorem aMa (a0:Zt×Zt×Zt)(a1:Int):Con Tryz.prog 152 [(.s 0 0 3 3),(iv a1)] [(.live false false (k9 a0))] (.s 1 0 (jC a0 a1).length 1) [(.live true true (flat c3 (jC a0 a1)))]:=by
 refine cS Tryz.func152 fun cx hcx=>?_
 let t0:SL:=[.u 200,.T];rw [jC];cases h0:((a1:Int) == 0)
 case true=>exact rt (t0++[.d h0,.i 0 3,.u 0,.T,.d h0,.i 1 3,.u 0,.T,.d h0,.i 2 3,.u 0,.F]) [.sym 6 true] [6] hcx oK
 let t1:SL:=t0++[.d h0];cases h1:((a1:Int) == 1)
 case true=>exact rt (t1++[.d h1,.i 0 3,.u 0,.T,.d h0,.d h1,.i 1 3,.u 0,.T,.d h0,.d h1,.i 2 3,.u 0,.F]) [.sym 6 true] [6] hcx oK
 exact rt (t1++[.d h1,.i 0 3,.u 0,.T,.d h0,.d h1,.i 1 3,.u 0,.T,.d h0,.d h1,.i 2 3,.u 0,.F]) [.sym 6 true] [6] hcx oK
def jD (a0:Zt)(a1:Int):ZL := (bif ((a1:Int) == 0)then([a0.1]:ZL)else(bif ((a1:Int) == 1)then([a0.2.1]:ZL)else([a0.2.2]:ZL)))
theorem aMb (a0:Zt)(a1:Int):Con Tryz.prog 152 [(.s 0 0 1 3),(iv a1)] [(.live false false (k3 a0))] (.s 1 0 (jD a0 a1).length 1) [(.live true true (flat c3 (jD a0 a1)))]:=by
 refine cS Tryz.func152 fun cx hcx=>?_
 let t0:SL:=[.u 200,.T];rw [jD];cases h0:((a1:Int) == 0)
 case true=>exact rt (t0++[.d h0,.i 0 1,.u 0,.F]) [.sym 2 true] [2] hcx oK
 let t1:SL:=t0++[.d h0];cases h1:((a1:Int) == 1)
 case true=>exact rt (t1++[.d h1,.i 0 1,.u 0,.F]) [.sym 2 true] [2] hcx oK
 exact rt (t1++[.d h1,.i 0 1,.u 0,.F]) [.sym 2 true] [2] hcx oK
theorem aYw {a b c:Int} (h:(!(F71 a b c))=false)(hb:1<=b:=by omega):a≠0:=by
 unfold F71 at h;cases h1:decide ((a:Int)≥b)
 case true=>have:=eS h1;omega
 simp [h1] at h
theorem aVj {n:Int} (h1:1<=n)(h2:n<=1048576):W ((W (n*n))*n)≠0:=by
 have a1:1*1<=n*n:=Int.mul_le_mul h1 h1 oM oM;have a2:n*n<=1048576*1048576:=Int.mul_le_mul h2 h2 oM oM;have b1:1*1<=n*n*n:=Int.mul_le_mul oM h1 oM oM;have b2:n*n*n<=1048576*1048576*1048576:=Int.mul_le_mul a2 h2 oM oM;rw [aH (n:=n*n) oM oM,aH oM oM];omega
theorem aYx {a b c:Int} (h:(!(F71 a b c))=false):b<=a:=by
 unfold F71 at h;cases h1:decide ((a:Int)≥b)
 case true=>have:=eS h1;omega
 simp [h1] at h
theorem sJ (a:Zt×Zt×Zt)(k:Int):(jC a k).length=3:=by
 unfold jC;cases ((k:Int) == 0)<;>cases ((k:Int) == 1)<;>rfl
theorem sK (a:Zt)(k:Int):(jD a k).length=1:=by
 unfold jD;cases ((k:Int) == 0)<;>cases ((k:Int) == 1)<;>rfl
noncomputable def aDd:=aU [1,1,0] [] (aV Tryz.f180) []
def aBo (a0:Int)(v2 v3:Int):LS:=⟨gU 23 [(0,(iv a0)),(3,(iv v2)),(4,(iv v3))],[]⟩
def aDe (a0:Int):Zs->Zs⊕(Int) | (v2,v3) => (bif (decide ((v2:Int) < v3))then(bif (decide (((W ((W (tD (W ((W (v2+v3))+1)) 2))*(W (tD (W ((W (v2+v3))+1)) 2)))):Int)<=a0))then(.inl ((W (tD (W ((W (v2+v3))+1)) 2)),v3))else(.inl (v2,(W ((W (tD (W ((W (v2+v3))+1)) 2)) - 1)))))else(.inr v2))
theorem aYy (a0:Int) {cx:Cx} (hcx:cx.base=0):∀(n:Nat) (v2 v3:Int),(0<=v2)/\(0<=v2)/\(v2<=v3)/\(v3<=2147483648)->tN (v3 - v2) < n->gG Tryz.f180 cx (iv (aG (aDe a0) n (v2,v3))) [] [] (.l aDd.1 n::aDd.2) (aBo a0 v2 v3):=by
 intro n
 induction n with|zero=>intro v2 v3 hi hn;exact absurd hn (dX _)|succ n ih=>?_
 intro v2 v3 hi hn;refine aN ?_;have hw:=aG5 (a:=v2) (b:=v3) oM;have hw2:=aNz (a:=v2) (b:=v3) oM;rw [aZ,aDe];cases h0:(decide ((v2:Int) < v3))
 case true=>
  have q0:=eS h0;let t1:SL:=[.d h0,.p (show(2:Int)≠0 from by decide)];cases h1:(decide (((W ((W (tD (W ((W (v2+v3))+1)) 2))*(W (tD (W ((W (v2+v3))+1)) 2)))):Int)<=a0))
  case true=>refine bA n (t1++[.d h1]) [0,3,4] [] hcx aDd (aBo a0 (W (tD (W ((W (v2+v3))+1)) 2)) v3) ?_;exact ih _ _ oR oM
  refine bA n (t1++[.d h1]) [0,3,4] [] hcx aDd (aBo a0 v2 (W ((W (tD (W ((W (v2+v3))+1)) 2)) - 1))) ?_;exact ih _ _ oR oM
 exact rT [.d h0] hcx
def mS (a0:Int):Int := (aG (aDe a0) (tN (2147483648 - 0)+1) (0,2147483648))
theorem bEc (a0:Int):Con Tryz.prog 180 [(iv a0)] [] (iv (mS a0)) []:=by
 refine cS Tryz.func180 fun cx hcx=>?_
 refine eN [] [0,3,4] [] hcx aDd (aBo a0 0 2147483648) (tN (2147483648 - 0)+1) ?_;exact aYy a0 hcx (tN (2147483648 - 0)+1) 0 2147483648 oR oM
def F72 (a0 a1:Int):Zs×Int := (bif (!(xE (a0,a1)))then((0,0),4)else((a0,a1),0))
theorem C72 (a0 a1:Int):Con Tryz.prog 72 [(iv a0),(iv a1)] [] (.t [(.a (k2 (F72 a0 a1).1)),(iv (F72 a0 a1).2)]) []:=by
 refine cS Tryz.func72 fun cx hcx=>?_
 let t0:SL:=[.c [] (C68 (a0,a1))];rw [F72];cases h0:(!(xE (a0,a1)))
 case true=>exact rT (t0++[.d h0]) hcx
 exact rT (t0++[.d h0]) hcx
def aHc (a0 a1:Int):Zs×Int := (bif (((mD a0 a1):Int) == 0)then(bif (((W ((mS (W (tD a0 a1)))*(mS (W (tD a0 a1))))):Int) == (W (tD a0 a1)))then((F72 (mS (W (tD a0 a1))) (mS (W (tD a0 a1)))).1,(F72 (mS (W (tD a0 a1))) (mS (W (tD a0 a1)))).2)else((F72 (mS (W (tD a0 a1))) (W ((mS (W (tD a0 a1)))+1))).1,(F72 (mS (W (tD a0 a1))) (W ((mS (W (tD a0 a1)))+1))).2))else((F72 (mS (W (tD a0 a1))) (W ((mS (W (tD a0 a1)))+1))).1,(F72 (mS (W (tD a0 a1))) (W ((mS (W (tD a0 a1)))+1))).2))
theorem bBk (a0 a1:Int)(ha:a1≠0):Con Tryz.prog 153 [(iv a0),(iv a1)] [] (.t [(.a (k2 (aHc a0 a1).1)),(iv (aHc a0 a1).2)]) []:=by
 refine cS Tryz.func153 fun cx hcx=>?_
 let t0:SL:=[.p (show(a1:Int)≠0 from by first | omega | (rw [aH]<;>omega) | exact dZ _),.c [] (bEc (W (tD a0 a1))),.p (show(a1:Int)≠0 from by first | omega | (rw [aH]<;>omega) | exact dZ _)];rw [aHc];cases h0:(((mD a0 a1):Int) == 0)
 case true=>
  let t1:SL:=t0++[.d h0,.p (show(a1:Int)≠0 from by first | omega | (rw [aH]<;>omega) | exact dZ _)];cases h1:(((W ((mS (W (tD a0 a1)))*(mS (W (tD a0 a1))))):Int) == (W (tD a0 a1)))
  case true=>exact rT (t1++[.d h1,.c [] (C72 (mS (W (tD a0 a1))) (mS (W (tD a0 a1))))]) hcx
  exact rT (t1++[.d h1,.c [] (C72 (mS (W (tD a0 a1))) (W ((mS (W (tD a0 a1)))+1)))]) hcx
 exact rT (t0++[.d h0,.c [] (C72 (mS (W (tD a0 a1))) (W ((mS (W (tD a0 a1)))+1)))]) hcx
def oC (a0 a1:Int):Zs×Int := (bif (!(F71 a0 1 1099511627776))then((0,0),1)else(bif (!(F71 a1 1 8))then((0,0),1)else((aHc (W ((W ((W (1048576*a1))*1048576))*a1)) a0).1,(aHc (W ((W ((W (1048576*a1))*1048576))*a1)) a0).2)))
theorem aYz (a0 a1:Int):Con Tryz.prog 113 [(iv a0),(iv a1)] [] (.t [(.a (k2 (oC a0 a1).1)),(iv (oC a0 a1).2)]) []:=by
 refine cS Tryz.func113 fun cx hcx=>?_
 let t0:SL:=[.c [] (C71 a0 1 1099511627776)];rw [oC];cases h0:(!(F71 a0 1 1099511627776))
 case true=>exact rT (t0++[.d h0]) hcx
 let t1:SL:=t0++[.d h0,.c [] (C71 a1 1 8)];cases h1:(!(F71 a1 1 8))
 case true=>exact rT (t1++[.d h1]) hcx
 exact rT (t1++[.d h1,.c [] (bBk (W ((W ((W (1048576*a1))*1048576))*a1)) a0  (aYw h0))]) hcx
def bZ (a0 a1:Zt):Zt := ((W (a0.1 - a1.1)),(W (a0.2.1 - a1.2.1)),(W (a0.2.2 - a1.2.2)))
theorem aHd (a0 a1:Zt):Con Tryz.prog 136 [(.a (k3 a0)),(.a (k3 a1))] [] (.a (k3 (bZ a0 a1))) []:=by
 refine cS Tryz.func136 fun cx hcx=>?_
 exact rT [] hcx
def aY0 (a0 a1:Zt):Zt := ((W ((W (a0.2.1*a1.2.2)) - (W (a0.2.2*a1.2.1)))),(W ((W (a0.2.2*a1.1)) - (W (a0.1*a1.2.2)))),(W ((W (a0.1*a1.2.1)) - (W (a0.2.1*a1.1)))))
theorem bEd (a0 a1:Zt):Con Tryz.prog 135 [(.a (k3 a0)),(.a (k3 a1))] [] (.a (k3 (aY0 a0 a1))) []:=by
 refine cS Tryz.func135 fun cx hcx=>?_
 exact rT [] hcx
def F83 (a0:Zt×Zt×Zt):Zt := (aY0 (bZ a0.2.1 a0.1) (bZ a0.2.2 a0.1))
theorem C83 (a0:Zt×Zt×Zt):Con Tryz.prog 83 [(.a (k9 a0))] [] (.a (k3 (F83 a0))) []:=by
 refine cS Tryz.func83 fun cx hcx=>?_
 exact rT [.c [] (aHd a0.2.1 a0.1),.c [] (aHd a0.2.2 a0.1),.c [] (bEd (bZ a0.2.1 a0.1) (bZ a0.2.2 a0.1))] hcx
def hZ (a0 a1:Zt):Int := (W ((W ((W (a0.1*a1.1))+(W (a0.2.1*a1.2.1))))+(W (a0.2.2*a1.2.2))))
theorem aMc (a0 a1:Zt):Con Tryz.prog 154 [(.a (k3 a0)),(.a (k3 a1))] [] (iv (hZ a0 a1)) []:=by
 refine cS Tryz.func154 fun cx hcx=>?_
 exact rT [] hcx
def aHe (a0 a1 a2:Int):Bool := (bif (decide ((a0:Int)≥a1))then(decide ((a0:Int)<=a2))else false)
theorem aY1 (a0 a1 a2:Int):Con Tryz.prog 134 [(iv a0),(iv a1),(iv a2)] [] (.v (.bool (aHe a0 a1 a2))) []:=by
 refine cS Tryz.func134 fun cx hcx=>?_
 rw [aHe];cases h0:(decide ((a0:Int)≥a1))
 case true=>exact rT [.d h0] hcx
 exact rT [.d h0] hcx
def F82 (a0:Zt)(a1:Int):Bool := (bif (aHe a0.1 (W (0 - a1)) a1)then(bif (aHe a0.2.1 (W (0 - a1)) a1)then(aHe a0.2.2 (W (0 - a1)) a1)else false)else false)
theorem C82 (a0:Zt)(a1:Int):Con Tryz.prog 82 [(.a (k3 a0)),(iv a1)] [] (.v (.bool (F82 a0 a1))) []:=by
 refine cS Tryz.func82 fun cx hcx=>?_
 let t0:SL:=[.c [] (aY1 a0.1 (W (0 - a1)) a1)];rw [F82];cases h0:(aHe a0.1 (W (0 - a1)) a1)
 case true=>
  let t1:SL:=t0++[.d h0,.c [] (aY1 a0.2.1 (W (0 - a1)) a1)];cases h1:(aHe a0.2.1 (W (0 - a1)) a1)
  case true=>exact rT (t1++[.d h1,.c [] (aY1 a0.2.2 (W (0 - a1)) a1)]) hcx
  exact rT (t1++[.d h1]) hcx
 exact rT (t0++[.d h0]) hcx
def F45 (a0:Zt×Zt×Zt):Int := (bif (!(F82 a0.1 64))then 1 else(bif (!(F82 a0.2.1 64))then 1 else(bif (!(F82 a0.2.2 64))then 1 else(bif ((((F83 a0).1:Int) == 0)&&((((F83 a0).2.1:Int) == 0)&&((((F83 a0).2.2:Int) == 0)&&true)))then 6 else 0))))
theorem C45 (a0:Zt×Zt×Zt):Con Tryz.prog 45 [(.a (k9 a0))] [] (iv (F45 a0)) []:=by
 refine cS Tryz.func45 fun cx hcx=>?_
 let t0:SL:=[.c [] (C82 a0.1 64)];rw [F45];cases h0:(!(F82 a0.1 64))
 case true=>exact rT (t0++[.d h0]) hcx
 let t1:SL:=t0++[.d h0,.c [] (C82 a0.2.1 64)];cases h1:(!(F82 a0.2.1 64))
 case true=>exact rT (t1++[.d h1]) hcx
 let t2:SL:=t1++[.d h1,.c [] (C82 a0.2.2 64)];cases h2:(!(F82 a0.2.2 64))
 case true=>exact rT (t2++[.d h2]) hcx
 let t3:SL:=t2++[.d h2,.c [] (C83 a0)];cases h3:((((F83 a0).1:Int) == 0)&&((((F83 a0).2.1:Int) == 0)&&((((F83 a0).2.2:Int) == 0)&&true)))
 case true=>exact rT (t3++[.d h3]) hcx
 exact rT (t3++[.d h3]) hcx
def F46 (a0 a1 a2:Int):Bool := (bif (decide ((a0:Int)≥a1))then(decide ((a0:Int)<=a2))else false)
theorem C46 (a0 a1 a2:Int):Con Tryz.prog 46 [(iv a0),(iv a1),(iv a2)] [] (.v (.bool (F46 a0 a1 a2))) []:=by
 refine cS Tryz.func46 fun cx hcx=>?_
 rw [F46];cases h0:(decide ((a0:Int)≥a1))
 case true=>exact rT [.d h0] hcx
 exact rT [.d h0] hcx
def aPx (a0:Zt):Bool := (bif (F46 a0.1 (-256) 256)then(bif (F46 a0.2.1 (-256) 256)then(F46 a0.2.2 (-256) 256)else false)else false)
theorem bEe (a0:Zt):Con Tryz.prog 109 [(.a (k3 a0))] [] (.v (.bool (aPx a0))) []:=by
 refine cS Tryz.func109 fun cx hcx=>?_
 let t0:SL:=[.c [] (C46 a0.1 (-256) 256)];rw [aPx];cases h0:(F46 a0.1 (-256) 256)
 case true=>
  let t1:SL:=t0++[.d h0,.c [] (C46 a0.2.1 (-256) 256)];cases h1:(F46 a0.2.1 (-256) 256)
  case true=>exact rT (t1++[.d h1,.c [] (C46 a0.2.2 (-256) 256)]) hcx
  exact rT (t1++[.d h1]) hcx
 exact rT (t0++[.d h0]) hcx
def F69 (a0:Zt×Zt×Zt)(a1:Zt)(a2:Int):Int := (bif (((F45 a0):Int) != 0)then(F45 a0)else(bif (!(aPx a1))then 1 else(bif (!(F46 a2 0 3))then 1 else 0)))
theorem C69 (a0:Zt×Zt×Zt)(a1:Zt)(a2:Int):Con Tryz.prog 69 [(.a (k9 a0)),(.a (k3 a1)),(iv a2)] [] (iv (F69 a0 a1 a2)) []:=by
 refine cS Tryz.func69 fun cx hcx=>?_
 let t0:SL:=[.c [] (C45 a0)];rw [F69];cases h0:(((F45 a0):Int) != 0)
 case true=>exact rT (t0++[.d h0]) hcx
 let t1:SL:=t0++[.d h0,.c [] (bEe a1)];cases h1:(!(aPx a1))
 case true=>exact rT (t1++[.d h1]) hcx
 let t2:SL:=t1++[.d h1,.c [] (C46 a2 0 3)];cases h2:(!(F46 a2 0 3))
 case true=>exact rT (t2++[.d h2]) hcx
 exact rT (t2++[.d h2]) hcx
def c68 (x:Zt×Zt×Zt):List SV:=[(iv x.1.1),(iv x.1.2.1),(iv x.1.2.2),(iv x.2.1.1),(iv x.2.1.2.1),(iv x.2.1.2.2),(iv x.2.2.1),(iv x.2.2.2.1),(iv x.2.2.2.2)]
theorem rK (x:Zt×Zt×Zt):(c68 x).length=9:=rfl
def aQ (a0:Zt)(a1:Int):Zt := ((W (a1*a0.1)),(W (a1*a0.2.1)),(W (a1*a0.2.2)))
theorem aVk (a0:Zt)(a1:Int):Con Tryz.prog 111 [(.a (k3 a0)),(iv a1)] [] (.a (k3 (aQ a0 a1))) []:=by
 refine cS Tryz.func111 fun cx hcx=>?_
 exact rT [] hcx
def cB (a0 a1:Zt):Zt := ((W (tD (W (a0.1+a1.1)) 2)),(W (tD (W (a0.2.1+a1.2.1)) 2)),(W (tD (W (a0.2.2+a1.2.2)) 2)))
theorem aY2 (a0 a1:Zt):Con Tryz.prog 150 [(.a (k3 a0)),(.a (k3 a1))] [] (.a (k3 (cB a0 a1))) []:=by
 refine cS Tryz.func150 fun cx hcx=>?_
 exact rT [.p (show(2:Int)≠0 from by decide),.p (show(2:Int)≠0 from by decide),.p (show(2:Int)≠0 from by decide)] hcx
noncomputable def aMd:Code:=(aU [1,1,0,1,0,1,0,1,0,1] [0] (aV Tryz.f110) []).1
noncomputable def aMe (m0:Nat):List K:=(aU [1,1,0,1,0,1,0,1,0,1] [m0] (aV Tryz.f110) []).2
def aHf (a0:Zt×Zt×Zt)(a1:Int)(v13c:List SV)(v13n:Nat)(v14c:List SV)(v14n:Nat)(v15 v16:Int):LS:=⟨gU 76 [(1,(iv a1)),(5,(.s 0 0 v13n 9)),(6,(iv v15)),(7,(.s 1 0 v14n 9)),(8,(iv v16))],[(.live true true v13c),(.live true true v14c)]⟩
def rL (a0:Zt×Zt×Zt)(a1:Int):(List (Zt×Zt×Zt))×(List (Zt×Zt×Zt))×Int×Int->((List (Zt×Zt×Zt))×(List (Zt×Zt×Zt))×Int×Int)⊕(((List (Zt×Zt×Zt))×Int)⊕(List (Zt×Zt×Zt))) | (v13,v14,v15,v16) => (bif (decide ((v16:Int) < (v13.length:Int)))then(.inl (v13,(v14++[((aQ (v13.getD (tN v16) dF).1 2),(cB (aQ (v13.getD (tN v16) dF).1 2) (aQ (v13.getD (tN v16) dF).2.1 2)),(cB (aQ (v13.getD (tN v16) dF).2.2 2) (aQ (v13.getD (tN v16) dF).1 2))),((cB (aQ (v13.getD (tN v16) dF).1 2) (aQ (v13.getD (tN v16) dF).2.1 2)),(aQ (v13.getD (tN v16) dF).2.1 2),(cB (aQ (v13.getD (tN v16) dF).2.1 2) (aQ (v13.getD (tN v16) dF).2.2 2))),((cB (aQ (v13.getD (tN v16) dF).2.2 2) (aQ (v13.getD (tN v16) dF).1 2)),(cB (aQ (v13.getD (tN v16) dF).2.1 2) (aQ (v13.getD (tN v16) dF).2.2 2)),(aQ (v13.getD (tN v16) dF).2.2 2)),((cB (aQ (v13.getD (tN v16) dF).1 2) (aQ (v13.getD (tN v16) dF).2.1 2)),(cB (aQ (v13.getD (tN v16) dF).2.1 2) (aQ (v13.getD (tN v16) dF).2.2 2)),(cB (aQ (v13.getD (tN v16) dF).2.2 2) (aQ (v13.getD (tN v16) dF).1 2)))]),v15,(v16+1)))else(.inr (.inl (v14,(v15+1)))))
noncomputable def wO:=aU [1,1,0,1] [] (aV Tryz.f110) []
def aBp (a0:Zt×Zt×Zt)(a1:Int)(v11c:List SV)(v11n:Nat)(v12:Int):LS:=⟨gU 76 [(1,(iv a1)),(5,(.s 0 0 v11n 9)),(6,(iv v12))],[(.live true true v11c)]⟩
def lN (a0:Zt×Zt×Zt)(a1:Int):(List (Zt×Zt×Zt))×Int->((List (Zt×Zt×Zt))×Int)⊕(List (Zt×Zt×Zt)) | (v11,v12) => (bif (decide ((v12:Int) < a1))then(aG (rL a0 a1) (tN ((v11.length:Int) - 0)+1) (v11,([]:List (Zt×Zt×Zt)),v12,0))else(.inr v11))
theorem aY3 (a0:Zt×Zt×Zt)(a1:Int)(ha:0<=a1/\a1<=3) {cx:Cx} (hcx:cx.base=0)
 (n0:Nat) (g0:∀(v11:List (Zt×Zt×Zt)) (v12:Int),(0<=v12)/\(v12=0/\v11.length<=1\/v12=1/\v11.length<=4\/v12=2/\v11.length<=16\/3<=v12/\v11.length<=64)->tN (a1 - v12) < n0->gG Tryz.f110 cx (.s 0 0 (aG (lN a0 a1) n0 (v11,v12)).length 9) [(.live true true (flat c68 (aG (lN a0 a1) n0 (v11,v12))))] [] (.l wO.1 n0::wO.2) (aBp a0 a1 (flat c68 v11) v11.length v12)):∀(n:Nat) (v13:List (Zt×Zt×Zt)) (v14:List (Zt×Zt×Zt)) (v15 v16:Int),(0<=v16)/\(v14.length=4*tN v16)/\(v16<=v13.length)/\((0<=v15))/\((v15=0/\v13.length<=1\/v15=1/\v13.length<=4\/v15=2/\v13.length<=16\/3<=v15/\v13.length<=64))/\(v15 < a1)/\(tN (a1 - v15) < n0+1)->tN ((v13.length:Int) - v16) < n->gG Tryz.f110 cx (.s 0 0 (bN (lN a0 a1) n0 (aG (rL a0 a1) n (v13,v14,v15,v16))).length 9) [(.live true true (flat c68 (bN (lN a0 a1) n0 (aG (rL a0 a1) n (v13,v14,v15,v16)))))] [] (.l aMd n::aMe n0) (aHf a0 a1 (flat c68 v13) v13.length (flat c68 v14) v14.length v15 v16):=by
 intro n
 induction n with|zero=>intro v13 v14 v15 v16 hi hn;exact absurd hn (dX _)|succ n ih=>?_
 intro v13 v14 v15 v16 hi hn;refine aN ?_;rw [aZ,rL];cases h0:(decide ((v16:Int) < (v13.length:Int)))
 case true=>have q0:=eS h0;refine ba [.d h0,.i v16 (v13.length),.L rK v13 v16 0 3,.c [] (aVk (v13.getD (tN v16) dF).1 2),.i v16 (v13.length),.L rK v13 v16 3 3,.c [] (aVk (v13.getD (tN v16) dF).2.1 2),.i v16 (v13.length),.L rK v13 v16 6 3,.c [] (aVk (v13.getD (tN v16) dF).2.2 2),.c [] (aY2 (aQ (v13.getD (tN v16) dF).1 2) (aQ (v13.getD (tN v16) dF).2.1 2)),.c [] (aY2 (aQ (v13.getD (tN v16) dF).2.1 2) (aQ (v13.getD (tN v16) dF).2.2 2)),.c [] (aY2 (aQ (v13.getD (tN v16) dF).2.2 2) (aQ (v13.getD (tN v16) dF).1 2)),.p (show((flat c68 v14).length=v14.length*9/\v14.length+4<=2 ^ 40/\(v14.length+4)*72<=2 ^ 47) from iS rK oM oM)] [] [1,5,6,7,8] [0,9] hcx (m:=n) aMd (aMe n0) (aHf a0 a1 (flat c68 v13) (v13.length) (flat c68 v14++[(iv (aQ (v13.getD (tN v16) dF).1 2).1),(iv (aQ (v13.getD (tN v16) dF).1 2).2.1),(iv (aQ (v13.getD (tN v16) dF).1 2).2.2),(iv (cB (aQ (v13.getD (tN v16) dF).1 2) (aQ (v13.getD (tN v16) dF).2.1 2)).1),(iv (cB (aQ (v13.getD (tN v16) dF).1 2) (aQ (v13.getD (tN v16) dF).2.1 2)).2.1),(iv (cB (aQ (v13.getD (tN v16) dF).1 2) (aQ (v13.getD (tN v16) dF).2.1 2)).2.2),(iv (cB (aQ (v13.getD (tN v16) dF).2.2 2) (aQ (v13.getD (tN v16) dF).1 2)).1),(iv (cB (aQ (v13.getD (tN v16) dF).2.2 2) (aQ (v13.getD (tN v16) dF).1 2)).2.1),(iv (cB (aQ (v13.getD (tN v16) dF).2.2 2) (aQ (v13.getD (tN v16) dF).1 2)).2.2),(iv (cB (aQ (v13.getD (tN v16) dF).1 2) (aQ (v13.getD (tN v16) dF).2.1 2)).1),(iv (cB (aQ (v13.getD (tN v16) dF).1 2) (aQ (v13.getD (tN v16) dF).2.1 2)).2.1),(iv (cB (aQ (v13.getD (tN v16) dF).1 2) (aQ (v13.getD (tN v16) dF).2.1 2)).2.2),(iv (aQ (v13.getD (tN v16) dF).2.1 2).1),(iv (aQ (v13.getD (tN v16) dF).2.1 2).2.1),(iv (aQ (v13.getD (tN v16) dF).2.1 2).2.2),(iv (cB (aQ (v13.getD (tN v16) dF).2.1 2) (aQ (v13.getD (tN v16) dF).2.2 2)).1),(iv (cB (aQ (v13.getD (tN v16) dF).2.1 2) (aQ (v13.getD (tN v16) dF).2.2 2)).2.1),(iv (cB (aQ (v13.getD (tN v16) dF).2.1 2) (aQ (v13.getD (tN v16) dF).2.2 2)).2.2),(iv (cB (aQ (v13.getD (tN v16) dF).2.2 2) (aQ (v13.getD (tN v16) dF).1 2)).1),(iv (cB (aQ (v13.getD (tN v16) dF).2.2 2) (aQ (v13.getD (tN v16) dF).1 2)).2.1),(iv (cB (aQ (v13.getD (tN v16) dF).2.2 2) (aQ (v13.getD (tN v16) dF).1 2)).2.2),(iv (cB (aQ (v13.getD (tN v16) dF).2.1 2) (aQ (v13.getD (tN v16) dF).2.2 2)).1),(iv (cB (aQ (v13.getD (tN v16) dF).2.1 2) (aQ (v13.getD (tN v16) dF).2.2 2)).2.1),(iv (cB (aQ (v13.getD (tN v16) dF).2.1 2) (aQ (v13.getD (tN v16) dF).2.2 2)).2.2),(iv (aQ (v13.getD (tN v16) dF).2.2 2).1),(iv (aQ (v13.getD (tN v16) dF).2.2 2).2.1),(iv (aQ (v13.getD (tN v16) dF).2.2 2).2.2),(iv (cB (aQ (v13.getD (tN v16) dF).1 2) (aQ (v13.getD (tN v16) dF).2.1 2)).1),(iv (cB (aQ (v13.getD (tN v16) dF).1 2) (aQ (v13.getD (tN v16) dF).2.1 2)).2.1),(iv (cB (aQ (v13.getD (tN v16) dF).1 2) (aQ (v13.getD (tN v16) dF).2.1 2)).2.2),(iv (cB (aQ (v13.getD (tN v16) dF).2.1 2) (aQ (v13.getD (tN v16) dF).2.2 2)).1),(iv (cB (aQ (v13.getD (tN v16) dF).2.1 2) (aQ (v13.getD (tN v16) dF).2.2 2)).2.1),(iv (cB (aQ (v13.getD (tN v16) dF).2.1 2) (aQ (v13.getD (tN v16) dF).2.2 2)).2.2),(iv (cB (aQ (v13.getD (tN v16) dF).2.2 2) (aQ (v13.getD (tN v16) dF).1 2)).1),(iv (cB (aQ (v13.getD (tN v16) dF).2.2 2) (aQ (v13.getD (tN v16) dF).1 2)).2.1),(iv (cB (aQ (v13.getD (tN v16) dF).2.2 2) (aQ (v13.getD (tN v16) dF).1 2)).2.2)]) (v14.length+4) v15 (W (v16+1))) oK ?_;have z0:(W (v16+1))=(v16+1):=aH oM oM;have z1:(flat c68 v14++[(iv (aQ (v13.getD (tN v16) dF).1 2).1),(iv (aQ (v13.getD (tN v16) dF).1 2).2.1),(iv (aQ (v13.getD (tN v16) dF).1 2).2.2),(iv (cB (aQ (v13.getD (tN v16) dF).1 2) (aQ (v13.getD (tN v16) dF).2.1 2)).1),(iv (cB (aQ (v13.getD (tN v16) dF).1 2) (aQ (v13.getD (tN v16) dF).2.1 2)).2.1),(iv (cB (aQ (v13.getD (tN v16) dF).1 2) (aQ (v13.getD (tN v16) dF).2.1 2)).2.2),(iv (cB (aQ (v13.getD (tN v16) dF).2.2 2) (aQ (v13.getD (tN v16) dF).1 2)).1),(iv (cB (aQ (v13.getD (tN v16) dF).2.2 2) (aQ (v13.getD (tN v16) dF).1 2)).2.1),(iv (cB (aQ (v13.getD (tN v16) dF).2.2 2) (aQ (v13.getD (tN v16) dF).1 2)).2.2),(iv (cB (aQ (v13.getD (tN v16) dF).1 2) (aQ (v13.getD (tN v16) dF).2.1 2)).1),(iv (cB (aQ (v13.getD (tN v16) dF).1 2) (aQ (v13.getD (tN v16) dF).2.1 2)).2.1),(iv (cB (aQ (v13.getD (tN v16) dF).1 2) (aQ (v13.getD (tN v16) dF).2.1 2)).2.2),(iv (aQ (v13.getD (tN v16) dF).2.1 2).1),(iv (aQ (v13.getD (tN v16) dF).2.1 2).2.1),(iv (aQ (v13.getD (tN v16) dF).2.1 2).2.2),(iv (cB (aQ (v13.getD (tN v16) dF).2.1 2) (aQ (v13.getD (tN v16) dF).2.2 2)).1),(iv (cB (aQ (v13.getD (tN v16) dF).2.1 2) (aQ (v13.getD (tN v16) dF).2.2 2)).2.1),(iv (cB (aQ (v13.getD (tN v16) dF).2.1 2) (aQ (v13.getD (tN v16) dF).2.2 2)).2.2),(iv (cB (aQ (v13.getD (tN v16) dF).2.2 2) (aQ (v13.getD (tN v16) dF).1 2)).1),(iv (cB (aQ (v13.getD (tN v16) dF).2.2 2) (aQ (v13.getD (tN v16) dF).1 2)).2.1),(iv (cB (aQ (v13.getD (tN v16) dF).2.2 2) (aQ (v13.getD (tN v16) dF).1 2)).2.2),(iv (cB (aQ (v13.getD (tN v16) dF).2.1 2) (aQ (v13.getD (tN v16) dF).2.2 2)).1),(iv (cB (aQ (v13.getD (tN v16) dF).2.1 2) (aQ (v13.getD (tN v16) dF).2.2 2)).2.1),(iv (cB (aQ (v13.getD (tN v16) dF).2.1 2) (aQ (v13.getD (tN v16) dF).2.2 2)).2.2),(iv (aQ (v13.getD (tN v16) dF).2.2 2).1),(iv (aQ (v13.getD (tN v16) dF).2.2 2).2.1),(iv (aQ (v13.getD (tN v16) dF).2.2 2).2.2),(iv (cB (aQ (v13.getD (tN v16) dF).1 2) (aQ (v13.getD (tN v16) dF).2.1 2)).1),(iv (cB (aQ (v13.getD (tN v16) dF).1 2) (aQ (v13.getD (tN v16) dF).2.1 2)).2.1),(iv (cB (aQ (v13.getD (tN v16) dF).1 2) (aQ (v13.getD (tN v16) dF).2.1 2)).2.2),(iv (cB (aQ (v13.getD (tN v16) dF).2.1 2) (aQ (v13.getD (tN v16) dF).2.2 2)).1),(iv (cB (aQ (v13.getD (tN v16) dF).2.1 2) (aQ (v13.getD (tN v16) dF).2.2 2)).2.1),(iv (cB (aQ (v13.getD (tN v16) dF).2.1 2) (aQ (v13.getD (tN v16) dF).2.2 2)).2.2),(iv (cB (aQ (v13.getD (tN v16) dF).2.2 2) (aQ (v13.getD (tN v16) dF).1 2)).1),(iv (cB (aQ (v13.getD (tN v16) dF).2.2 2) (aQ (v13.getD (tN v16) dF).1 2)).2.1),(iv (cB (aQ (v13.getD (tN v16) dF).2.2 2) (aQ (v13.getD (tN v16) dF).1 2)).2.2)])=_:=(bQ (c:=c68) (l:=v14) (m:=[((aQ (v13.getD (tN v16) dF).1 2),(cB (aQ (v13.getD (tN v16) dF).1 2) (aQ (v13.getD (tN v16) dF).2.1 2)),(cB (aQ (v13.getD (tN v16) dF).2.2 2) (aQ (v13.getD (tN v16) dF).1 2))),((cB (aQ (v13.getD (tN v16) dF).1 2) (aQ (v13.getD (tN v16) dF).2.1 2)),(aQ (v13.getD (tN v16) dF).2.1 2),(cB (aQ (v13.getD (tN v16) dF).2.1 2) (aQ (v13.getD (tN v16) dF).2.2 2))),((cB (aQ (v13.getD (tN v16) dF).2.2 2) (aQ (v13.getD (tN v16) dF).1 2)),(cB (aQ (v13.getD (tN v16) dF).2.1 2) (aQ (v13.getD (tN v16) dF).2.2 2)),(aQ (v13.getD (tN v16) dF).2.2 2)),((cB (aQ (v13.getD (tN v16) dF).1 2) (aQ (v13.getD (tN v16) dF).2.1 2)),(cB (aQ (v13.getD (tN v16) dF).2.1 2) (aQ (v13.getD (tN v16) dF).2.2 2)),(cB (aQ (v13.getD (tN v16) dF).2.2 2) (aQ (v13.getD (tN v16) dF).1 2)))])).symm;have z2:(v14.length+4)=_:=jN v14 [((aQ (v13.getD (tN v16) dF).1 2),(cB (aQ (v13.getD (tN v16) dF).1 2) (aQ (v13.getD (tN v16) dF).2.1 2)),(cB (aQ (v13.getD (tN v16) dF).2.2 2) (aQ (v13.getD (tN v16) dF).1 2))),((cB (aQ (v13.getD (tN v16) dF).1 2) (aQ (v13.getD (tN v16) dF).2.1 2)),(aQ (v13.getD (tN v16) dF).2.1 2),(cB (aQ (v13.getD (tN v16) dF).2.1 2) (aQ (v13.getD (tN v16) dF).2.2 2))),((cB (aQ (v13.getD (tN v16) dF).2.2 2) (aQ (v13.getD (tN v16) dF).1 2)),(cB (aQ (v13.getD (tN v16) dF).2.1 2) (aQ (v13.getD (tN v16) dF).2.2 2)),(aQ (v13.getD (tN v16) dF).2.2 2)),((cB (aQ (v13.getD (tN v16) dF).1 2) (aQ (v13.getD (tN v16) dF).2.1 2)),(cB (aQ (v13.getD (tN v16) dF).2.1 2) (aQ (v13.getD (tN v16) dF).2.2 2)),(cB (aQ (v13.getD (tN v16) dF).2.2 2) (aQ (v13.getD (tN v16) dF).1 2)))] rfl;rw [z0,z1,z2];exact ih _ _ _ _ (by refine⟨?_,?_,?_,?_,?_,?_,?_⟩<;>(try simp only [Ls])<;>first | omega | assumption | exact hi.2.1 | exact hi.2.2.1 | exact hi.2.2.2.1 | exact hi.2.2.2.2.1 | exact hi.2.2.2.2.2.1 | exact hi.2.2.2.2.2.2.1 | simp) oM
 have q0:=iF h0;refine bA n0 [.d h0] [1,5,6] [1] hcx wO (aBp a0 a1 (flat c68 v14) (v14.length) (W (v15+1))) ?_;have z0:(W (v15+1))=(v15+1):=aH oM oM;rw [z0];exact g0 v14 (v15+1) oR oM
theorem aY4 (a0:Zt×Zt×Zt)(a1:Int)(ha:0<=a1/\a1<=3) {cx:Cx} (hcx:cx.base=0):∀(n:Nat) (v11:List (Zt×Zt×Zt)) (v12:Int),(0<=v12)/\(v12=0/\v11.length<=1\/v12=1/\v11.length<=4\/v12=2/\v11.length<=16\/3<=v12/\v11.length<=64)->tN (a1 - v12) < n->gG Tryz.f110 cx (.s 0 0 (aG (lN a0 a1) n (v11,v12)).length 9) [(.live true true (flat c68 (aG (lN a0 a1) n (v11,v12))))] [] (.l wO.1 n::wO.2) (aBp a0 a1 (flat c68 v11) v11.length v12):=by
 intro n
 induction n with|zero=>intro v11 v12 hi hn;exact absurd hn (dX _)|succ n ih=>?_
 intro v11 v12 hi hn;refine aN ?_;rw [aZ,lN];cases h0:(decide ((v12:Int) < a1))
 case true=>have q0:=eS h0;refine en [.d h0] [.slot 7 9] [1,5,6,7,8] [0,1] hcx aMd (aMe n) (aHf a0 a1 (flat c68 v11) (v11.length) (flat c68 ([]:List (Zt×Zt×Zt))) 0 v12 0) (tN ((v11.length:Int) - 0)+1) oK ?_;exact aY3 a0 a1 ha hcx n ih (tN ((v11.length:Int) - 0)+1) v11 ([]:List (Zt×Zt×Zt)) v12 0 (by refine⟨?_,?_,?_,?_,?_,?_,?_⟩<;>(try simp only [Ls])<;>first | omega | assumption | exact hi.2.1 | exact hi.2.2.1 | exact hi.2.2.2.1 | exact hi.2.2.2.2.1 | exact hi.2.2.2.2.2.1 | exact hi.2.2.2.2.2.2.1 | simp) oM
 exact rt [.d h0] [] [0] hcx oK
def gI (a0:Zt×Zt×Zt)(a1:Int):List (Zt×Zt×Zt) := (aG (lN a0 a1) (tN (a1 - 0)+1) (([a0]:List (Zt×Zt×Zt)),0))
theorem bEf (a0:Zt×Zt×Zt)(a1:Int)(ha:0<=a1/\a1<=3):Con Tryz.prog 110 [(.a (k9 a0)),(iv a1)] [] (.s 0 0 (gI a0 a1).length 9) [(.live true true (flat c68 (gI a0 a1)))]:=by
 refine cS Tryz.func110 fun cx hcx=>?_
 refine en [] [.sym 1 true] [1,5,6] [1] hcx wO.1 wO.2 (aBp a0 a1 (flat c68 ([a0]:List (Zt×Zt×Zt))) 1 0) (tN (a1 - 0)+1) oK ?_;exact aY4 a0 a1 ha hcx (tN (a1 - 0)+1) ([a0]:List (Zt×Zt×Zt)) 0 oR oM
noncomputable def aBq:=aU [1,1,1,0,1] [] (aV Tryz.f74) []
def aDf (a0:List Zs)(v1 v2 v3:Int):LS:=⟨gU 39 [(0,(.s 0 0 a0.length 2)),(5,(iv v1)),(6,(iv v2)),(7,(iv v3))],[(.live false true (flat lF a0))]⟩
def xZ (a0:List Zs):Zt->Zt⊕Zt | (v1,v2,v3) => (bif (decide ((v3:Int) < (a0.length:Int)))then(bif (!(xE (a0.getD (tN v3) dF)))then(.inr (0,0,1))else(.inl ((W (v1+(a0.getD (tN v3) dF).1)),(W (v2+(a0.getD (tN v3) dF).2)),(v3+1))))else(.inr (v1,v2,0)))
theorem aVl (a0:List Zs)(l0:a0.length<=2^63-1) {cx:Cx} (hcx:cx.base=1):∀(n:Nat) (v1 v2 v3:Int),0<=v3->tN ((a0.length:Int) - v3) < n->gG Tryz.f74 cx (.t (k3 (aG (xZ a0) n (v1,v2,v3)))) [] [] (.l aBq.1 n::aBq.2) (aDf a0 v1 v2 v3):=by
 intro n
 induction n with|zero=>intro v1 v2 v3 hi hn;exact absurd hn (dX _)|succ n ih=>?_
 intro v1 v2 v3 hi hn;refine aN ?_;rw [aZ,xZ];cases h0:(decide ((v3:Int) < (a0.length:Int)))
 case true=>
  have q0:=eS h0;let t1:SL:=[.d h0,.i v3 (a0.length),.L kA a0 v3 0 2,.c [] (C68 (a0.getD (tN v3) dF))];cases h1:(!(xE (a0.getD (tN v3) dF)))
  case true=>exact rT (t1++[.d h1]) hcx
  refine bA n (t1++[.d h1,.i v3 (a0.length),.L kA a0 v3 0 1,.i v3 (a0.length),.L kA a0 v3 1 1]) [0,5,6,7] [] hcx aBq (aDf a0 (W (v1+(a0.getD (tN v3) dF).1)) (W (v2+(a0.getD (tN v3) dF).2)) (W (v3+1))) ?_;have z0:(W (v3+1))=(v3+1):=aH oM oM;rw [z0];exact ih _ _ _ oM oM
 exact rT [.d h0] hcx
def qQ (a0:List Zs):Zt := (bif (decide (((a0.length:Int):Int) > 10000))then(0,0,4)else(aG (xZ a0) (tN ((a0.length:Int) - 0)+1) (0,0,0)))
theorem bBl (a0:List Zs)(l0:a0.length<=2^63-1):Con Tryz.prog 74 [(.s 0 0 a0.length 2)] [(.live false true (flat lF a0))] (.t (k3 (qQ a0))) []:=by
 refine cS Tryz.func74 fun cx hcx=>?_
 rw [qQ];cases h0:(decide (((a0.length:Int):Int) > 10000))
 case true=>exact rT [.d h0] hcx
 refine eN [.d h0] [0,5,6,7] [] hcx aBq (aDf a0 0 0 0) (tN ((a0.length:Int) - 0)+1) ?_;exact aVl a0 l0 hcx (tN ((a0.length:Int) - 0)+1) 0 0 0 oM oM
def vM (a0:List Zs):Zs×Int := (bif (((qQ a0).2.2:Int) != 0)then((0,0),(qQ a0).2.2)else((F72 (qQ a0).1 (qQ a0).2.1).1,(F72 (qQ a0).1 (qQ a0).2.1).2))
theorem aW7 (a0:List Zs)(l0:a0.length<=2^63-1):Con Tryz.prog 37 [(.s 0 0 a0.length 2)] [(.live false true (flat lF a0))] (.t [(.a (k2 (vM a0).1)),(iv (vM a0).2)]) []:=by
 refine cS Tryz.func37 fun cx hcx=>?_
 let t0:SL:=[.c [0] (bBl a0 oM)];rw [vM];cases h0:(((qQ a0).2.2:Int) != 0)
 case true=>exact rT (t0++[.d h0]) hcx
 exact rT (t0++[.d h0,.c [] (C72 (qQ a0).1 (qQ a0).2.1)]) hcx
noncomputable def jE:=aU [1,1,0,1] [] (aV Tryz.f114) []
def iM (a0:Zt×Zt×Zt)(a1:List Zt)(v1 v2:Int):LS:=⟨gU 44 [(1,(.s 0 0 a1.length 3)),(2,(.p 1 0)),(5,(iv v1)),(6,(iv v2))],[(.live false true (flat c24 a1)),(.live true false (k9 a0))]⟩
def oD (a0:Zt×Zt×Zt)(a1:List Zt):Zs->Zs⊕(Int) | (v1,v2) => (bif (decide ((v2:Int) < (a1.length:Int)))then(bif (decide (((hZ (bZ a0.1 (a1.getD (tN v2) dF)) (bZ a0.1 (a1.getD (tN v2) dF))):Int) > v1))then(bif (decide (((hZ (bZ a0.2.1 (a1.getD (tN v2) dF)) (bZ a0.2.1 (a1.getD (tN v2) dF))):Int) > (hZ (bZ a0.1 (a1.getD (tN v2) dF)) (bZ a0.1 (a1.getD (tN v2) dF)))))then(bif (decide (((hZ (bZ a0.2.2 (a1.getD (tN v2) dF)) (bZ a0.2.2 (a1.getD (tN v2) dF))):Int) > (hZ (bZ a0.2.1 (a1.getD (tN v2) dF)) (bZ a0.2.1 (a1.getD (tN v2) dF)))))then(.inl ((hZ (bZ a0.2.2 (a1.getD (tN v2) dF)) (bZ a0.2.2 (a1.getD (tN v2) dF))),(v2+1)))else(.inl ((hZ (bZ a0.2.1 (a1.getD (tN v2) dF)) (bZ a0.2.1 (a1.getD (tN v2) dF))),(v2+1))))else(bif (decide (((hZ (bZ a0.2.2 (a1.getD (tN v2) dF)) (bZ a0.2.2 (a1.getD (tN v2) dF))):Int) > (hZ (bZ a0.1 (a1.getD (tN v2) dF)) (bZ a0.1 (a1.getD (tN v2) dF)))))then(.inl ((hZ (bZ a0.2.2 (a1.getD (tN v2) dF)) (bZ a0.2.2 (a1.getD (tN v2) dF))),(v2+1)))else(.inl ((hZ (bZ a0.1 (a1.getD (tN v2) dF)) (bZ a0.1 (a1.getD (tN v2) dF))),(v2+1)))))else(bif (decide (((hZ (bZ a0.2.1 (a1.getD (tN v2) dF)) (bZ a0.2.1 (a1.getD (tN v2) dF))):Int) > v1))then(bif (decide (((hZ (bZ a0.2.2 (a1.getD (tN v2) dF)) (bZ a0.2.2 (a1.getD (tN v2) dF))):Int) > (hZ (bZ a0.2.1 (a1.getD (tN v2) dF)) (bZ a0.2.1 (a1.getD (tN v2) dF)))))then(.inl ((hZ (bZ a0.2.2 (a1.getD (tN v2) dF)) (bZ a0.2.2 (a1.getD (tN v2) dF))),(v2+1)))else(.inl ((hZ (bZ a0.2.1 (a1.getD (tN v2) dF)) (bZ a0.2.1 (a1.getD (tN v2) dF))),(v2+1))))else(bif (decide (((hZ (bZ a0.2.2 (a1.getD (tN v2) dF)) (bZ a0.2.2 (a1.getD (tN v2) dF))):Int) > v1))then(.inl ((hZ (bZ a0.2.2 (a1.getD (tN v2) dF)) (bZ a0.2.2 (a1.getD (tN v2) dF))),(v2+1)))else(.inl (v1,(v2+1))))))else(.inr v1))
theorem aRm (a0:Zt×Zt×Zt)(a1:List Zt)(l1:a1.length<=2^63-1) {cx:Cx} (hcx:cx.base=1):∀(n:Nat) (v1 v2:Int),0<=v2->tN ((a1.length:Int) - v2) < n->gG Tryz.f114 cx (iv (aG (oD a0 a1) n (v1,v2))) [] [] (.l jE.1 n::jE.2) (iM a0 a1 v1 v2):=by
 intro n
 induction n with|zero=>intro v1 v2 hi hn;exact absurd hn (dX _)|succ n ih=>?_
 intro v1 v2 hi hn;refine aN ?_;rw [aZ,oD];cases h0:(decide ((v2:Int) < (a1.length:Int)))
 case true=>
  have q0:=eS h0;let t1:SL:=[.d h0,.u 200,.T,.i 0 3,.i v2 (a1.length),.L nK a1 v2 0 3,.c [] (aHd a0.1 (a1.getD (tN v2) dF)),.c [] (aMc (bZ a0.1 (a1.getD (tN v2) dF)) (bZ a0.1 (a1.getD (tN v2) dF)))];cases h1:(decide (((hZ (bZ a0.1 (a1.getD (tN v2) dF)) (bZ a0.1 (a1.getD (tN v2) dF))):Int) > v1))
  case true=>
   let t2:SL:=t1++[.d h1,.u 0,.T,.i 1 3,.i v2 (a1.length),.L nK a1 v2 0 3,.c [] (aHd a0.2.1 (a1.getD (tN v2) dF)),.c [] (aMc (bZ a0.2.1 (a1.getD (tN v2) dF)) (bZ a0.2.1 (a1.getD (tN v2) dF)))];cases h2:(decide (((hZ (bZ a0.2.1 (a1.getD (tN v2) dF)) (bZ a0.2.1 (a1.getD (tN v2) dF))):Int) > (hZ (bZ a0.1 (a1.getD (tN v2) dF)) (bZ a0.1 (a1.getD (tN v2) dF)))))
   case true=>
    let t3:SL:=t2++[.d h2,.u 0,.T,.i 2 3,.i v2 (a1.length),.L nK a1 v2 0 3,.c [] (aHd a0.2.2 (a1.getD (tN v2) dF)),.c [] (aMc (bZ a0.2.2 (a1.getD (tN v2) dF)) (bZ a0.2.2 (a1.getD (tN v2) dF)))];cases h3:(decide (((hZ (bZ a0.2.2 (a1.getD (tN v2) dF)) (bZ a0.2.2 (a1.getD (tN v2) dF))):Int) > (hZ (bZ a0.2.1 (a1.getD (tN v2) dF)) (bZ a0.2.1 (a1.getD (tN v2) dF)))))
    case true=>refine bA n (t3++[.d h3,.u 0,.F]) [1,2,5,6] [1] hcx jE (iM a0 a1 (hZ (bZ a0.2.2 (a1.getD (tN v2) dF)) (bZ a0.2.2 (a1.getD (tN v2) dF))) (W (v2+1))) ?_;have z0:(W (v2+1))=(v2+1):=aH oM oM;rw [z0];exact ih _ _ oM oM
    refine bA n (t3++[.d h3,.u 0,.F]) [1,2,5,6] [1] hcx jE (iM a0 a1 (hZ (bZ a0.2.1 (a1.getD (tN v2) dF)) (bZ a0.2.1 (a1.getD (tN v2) dF))) (W (v2+1))) ?_;have z0:(W (v2+1))=(v2+1):=aH oM oM;rw [z0];exact ih _ _ oM oM
   let t3:SL:=t2++[.d h2,.u 0,.T,.i 2 3,.i v2 (a1.length),.L nK a1 v2 0 3,.c [] (aHd a0.2.2 (a1.getD (tN v2) dF)),.c [] (aMc (bZ a0.2.2 (a1.getD (tN v2) dF)) (bZ a0.2.2 (a1.getD (tN v2) dF)))];cases h3:(decide (((hZ (bZ a0.2.2 (a1.getD (tN v2) dF)) (bZ a0.2.2 (a1.getD (tN v2) dF))):Int) > (hZ (bZ a0.1 (a1.getD (tN v2) dF)) (bZ a0.1 (a1.getD (tN v2) dF)))))
   case true=>refine bA n (t3++[.d h3,.u 0,.F]) [1,2,5,6] [1] hcx jE (iM a0 a1 (hZ (bZ a0.2.2 (a1.getD (tN v2) dF)) (bZ a0.2.2 (a1.getD (tN v2) dF))) (W (v2+1))) ?_;have z0:(W (v2+1))=(v2+1):=aH oM oM;rw [z0];exact ih _ _ oM oM
   refine bA n (t3++[.d h3,.u 0,.F]) [1,2,5,6] [1] hcx jE (iM a0 a1 (hZ (bZ a0.1 (a1.getD (tN v2) dF)) (bZ a0.1 (a1.getD (tN v2) dF))) (W (v2+1))) ?_;have z0:(W (v2+1))=(v2+1):=aH oM oM;rw [z0];exact ih _ _ oM oM
  let t2:SL:=t1++[.d h1,.u 0,.T,.i 1 3,.i v2 (a1.length),.L nK a1 v2 0 3,.c [] (aHd a0.2.1 (a1.getD (tN v2) dF)),.c [] (aMc (bZ a0.2.1 (a1.getD (tN v2) dF)) (bZ a0.2.1 (a1.getD (tN v2) dF)))];cases h2:(decide (((hZ (bZ a0.2.1 (a1.getD (tN v2) dF)) (bZ a0.2.1 (a1.getD (tN v2) dF))):Int) > v1))
  case true=>
   let t3:SL:=t2++[.d h2,.u 0,.T,.i 2 3,.i v2 (a1.length),.L nK a1 v2 0 3,.c [] (aHd a0.2.2 (a1.getD (tN v2) dF)),.c [] (aMc (bZ a0.2.2 (a1.getD (tN v2) dF)) (bZ a0.2.2 (a1.getD (tN v2) dF)))];cases h3:(decide (((hZ (bZ a0.2.2 (a1.getD (tN v2) dF)) (bZ a0.2.2 (a1.getD (tN v2) dF))):Int) > (hZ (bZ a0.2.1 (a1.getD (tN v2) dF)) (bZ a0.2.1 (a1.getD (tN v2) dF)))))
   case true=>refine bA n (t3++[.d h3,.u 0,.F]) [1,2,5,6] [1] hcx jE (iM a0 a1 (hZ (bZ a0.2.2 (a1.getD (tN v2) dF)) (bZ a0.2.2 (a1.getD (tN v2) dF))) (W (v2+1))) ?_;have z0:(W (v2+1))=(v2+1):=aH oM oM;rw [z0];exact ih _ _ oM oM
   refine bA n (t3++[.d h3,.u 0,.F]) [1,2,5,6] [1] hcx jE (iM a0 a1 (hZ (bZ a0.2.1 (a1.getD (tN v2) dF)) (bZ a0.2.1 (a1.getD (tN v2) dF))) (W (v2+1))) ?_;have z0:(W (v2+1))=(v2+1):=aH oM oM;rw [z0];exact ih _ _ oM oM
  let t3:SL:=t2++[.d h2,.u 0,.T,.i 2 3,.i v2 (a1.length),.L nK a1 v2 0 3,.c [] (aHd a0.2.2 (a1.getD (tN v2) dF)),.c [] (aMc (bZ a0.2.2 (a1.getD (tN v2) dF)) (bZ a0.2.2 (a1.getD (tN v2) dF)))];cases h3:(decide (((hZ (bZ a0.2.2 (a1.getD (tN v2) dF)) (bZ a0.2.2 (a1.getD (tN v2) dF))):Int) > v1))
  case true=>refine bA n (t3++[.d h3,.u 0,.F]) [1,2,5,6] [1] hcx jE (iM a0 a1 (hZ (bZ a0.2.2 (a1.getD (tN v2) dF)) (bZ a0.2.2 (a1.getD (tN v2) dF))) (W (v2+1))) ?_;have z0:(W (v2+1))=(v2+1):=aH oM oM;rw [z0];exact ih _ _ oM oM
  refine bA n (t3++[.d h3,.u 0,.F]) [1,2,5,6] [1] hcx jE (iM a0 a1 v1 (W (v2+1))) ?_;have z0:(W (v2+1))=(v2+1):=aH oM oM;rw [z0];exact ih _ _ oM oM
 exact rT [.d h0] hcx
def pQ (a0:Zt×Zt×Zt)(a1:List Zt):Int := (aG (oD a0 a1) (tN ((a1.length:Int) - 0)+1) (0,0))
theorem aRn (a0:Zt×Zt×Zt)(a1:List Zt)(l1:a1.length<=2^63-1):Con Tryz.prog 114 [(.a (k9 a0)),(.s 0 0 a1.length 3)] [(.live false true (flat c24 a1))] (iv (pQ a0 a1)) []:=by
 refine cS Tryz.func114 fun cx hcx=>?_
 refine eN [] [1,2,5,6] [1] hcx jE (iM a0 a1 0 0) (tN ((a1.length:Int) - 0)+1) ?_;exact aRm a0 a1 l1 hcx (tN ((a1.length:Int) - 0)+1) 0 0 oM oM
noncomputable def yA:=aU [1,1,0,1] [] (aV Tryz.f179) []
def zZ (a0:ZL)(v1 v2 v3:Int):LS:=⟨gU 33 [(0,(.s 0 0 a0.length 1)),(4,(iv v1)),(5,(iv v2)),(6,(iv v3))],[(.live false true (flat c3 a0))]⟩
def aDg (a0:ZL):Zt->Zt⊕Zs | (v1,v2,v3) => (bif (decide ((v3:Int) < (a0.length:Int)))then(.inl ((if((a0.getD (tN v3) dF):Int) < v1 then(a0.getD (tN v3) dF)else v1),(if(v2:Int) < (a0.getD (tN v3) dF)then(a0.getD (tN v3) dF)else v2),(v3+1)))else(.inr (v1,v2)))
theorem aRo (a0:ZL)(l0:a0.length<=2^63-1)(hl:0 < a0.length) {cx:Cx} (hcx:cx.base=1):∀(n:Nat) (v1 v2 v3:Int),0<=v3->tN ((a0.length:Int) - v3) < n->gG Tryz.f179 cx (.t (k2 (aG (aDg a0) n (v1,v2,v3)))) [] [] (.l yA.1 n::yA.2) (zZ a0 v1 v2 v3):=by
 intro n
 induction n with|zero=>intro v1 v2 v3 hi hn;exact absurd hn (dX _)|succ n ih=>?_
 intro v1 v2 v3 hi hn;refine aN ?_;rw [aZ,aDg];cases h0:(decide ((v3:Int) < (a0.length:Int)))
 case true=>have q0:=eS h0;refine bA n [.d h0,.i v3 (a0.length),.L aF a0 v3 0 1,.i v3 (a0.length),.L aF a0 v3 0 1] [0,4,5,6] [] hcx yA (zZ a0 (if((a0.getD (tN v3) dF):Int) < v1 then(a0.getD (tN v3) dF) else v1) (if(v2:Int) < (a0.getD (tN v3) dF) then(a0.getD (tN v3) dF) else v2) (W (v3+1))) ?_;have z0:(W (v3+1))=(v3+1):=aH oM oM;rw [z0];exact ih _ _ _ oM oM
 exact rT [.d h0] hcx
def eH (a0:ZL):Zs := (aG (aDg a0) (tN ((a0.length:Int) - 0)+1) ((a0.getD (tN 0) dF),(a0.getD (tN 0) dF),0))
theorem aRp (a0:ZL)(l0:a0.length<=2^63-1)(hl:0 < a0.length):Con Tryz.prog 179 [(.s 0 0 a0.length 1)] [(.live false true (flat c3 a0))] (.t (k2 (eH a0))) []:=by
 refine cS Tryz.func179 fun cx hcx=>?_
 refine eN [.i 0 (a0.length),.L aF a0 0 0 1,.i 0 (a0.length),.L aF a0 0 0 1] [0,4,5,6] [] hcx yA (zZ a0 (a0.getD (tN 0) dF) (a0.getD (tN 0) dF) 0) (tN ((a0.length:Int) - 0)+1) ?_;exact aRo a0 l0 hl hcx (tN ((a0.length:Int) - 0)+1) (a0.getD (tN 0) dF) (a0.getD (tN 0) dF) 0 oM oM
def kP (a0 a1:ZL):Int := (W ((if((if(0:Int) < (W ((eH a0).1 - (eH a1).2))then(W ((eH a0).1 - (eH a1).2))else 0):Int) < (W ((eH a1).1 - (eH a0).2))then(W ((eH a1).1 - (eH a0).2))else(if(0:Int) < (W ((eH a0).1 - (eH a1).2))then(W ((eH a0).1 - (eH a1).2))else 0))*(if((if(0:Int) < (W ((eH a0).1 - (eH a1).2))then(W ((eH a0).1 - (eH a1).2))else 0):Int) < (W ((eH a1).1 - (eH a0).2))then(W ((eH a1).1 - (eH a0).2))else(if(0:Int) < (W ((eH a0).1 - (eH a1).2))then(W ((eH a0).1 - (eH a1).2))else 0))))
theorem aDh (a0 a1:ZL)(l0:a0.length<=2^63-1)(l1:a1.length<=2^63-1)(h1:0 < a0.length)(h2:0 < a1.length):Con Tryz.prog 151 [(.s 0 0 a0.length 1),(.s 1 0 a1.length 1)] [(.live false true (flat c3 a0)),(.live false true (flat c3 a1))] (iv (kP a0 a1)) []:=by
 refine cS Tryz.func151 fun cx hcx=>?_
 exact rT [.c [0] (aRp a0 oM oM),.c [1] (aRp a1 oM oM)] hcx
def mY (a0:Zt×Zt×Zt)(a1:Zt):Int := (W ((W ((kP (jC a0 0) (jD a1 0))+(kP (jC a0 1) (jD a1 1))))+(kP (jC a0 2) (jD a1 2))))
theorem aY5 (a0:Zt×Zt×Zt)(a1:Zt):Con Tryz.prog 112 [(.a (k9 a0)),(.s 0 0 1 3)] [(.live false false (k3 a1))] (iv (mY a0 a1)) []:=by
 refine cS Tryz.func112 fun cx hcx=>?_
 exact rT [.c [2] (aMa a0 0),.c [0] (aMb a1 0),.c [3,4] (aDh (jC a0 0) (jD a1 0) (by(try simp only [Lt,sJ,sK]);omega) (by(try simp only [Lt,sJ,sK]);omega) (by(try simp only [Lt,sJ,sK]);omega) (by(try simp only [Lt,sJ,sK]);omega)),.c [2] (aMa a0 1),.c [0] (aMb a1 1),.c [5,6] (aDh (jC a0 1) (jD a1 1) (by(try simp only [Lt,sJ,sK]);omega) (by(try simp only [Lt,sJ,sK]);omega) (by(try simp only [Lt,sJ,sK]);omega) (by(try simp only [Lt,sJ,sK]);omega)),.c [2] (aMa a0 2),.c [0] (aMb a1 2),.c [7,8] (aDh (jC a0 2) (jD a1 2) (by(try simp only [Lt,sJ,sK]);omega) (by(try simp only [Lt,sJ,sK]);omega) (by(try simp only [Lt,sJ,sK]);omega) (by(try simp only [Lt,sJ,sK]);omega))] hcx
noncomputable def aBr:=aU [1,1,0,1] [] (aV Tryz.f20) []
def aDi (a0:bV)(v1:Int):LS:=⟨gU 30 [(0,(.s 0 0 a0.length 10)),(3,(iv v1))],[(.live false true (flat dI a0))]⟩
def yB (a0:bV):Int->(Int)⊕(Int) | v1 => (bif (decide ((v1:Int) < (a0.length:Int)))then(bif (((F45 (a0.getD (tN v1) dF).1):Int) != 0)then(.inr (F45 (a0.getD (tN v1) dF).1))else(bif (!(F46 (a0.getD (tN v1) dF).2 (-100) 100))then(.inr 1)else(.inl (v1+1))))else(.inr 0))
theorem aVm (a0:bV)(l0:a0.length<=2^63-1) {cx:Cx} (hcx:cx.base=1):∀(n:Nat) (v1:Int),0<=v1->tN ((a0.length:Int) - v1) < n->gG Tryz.f20 cx (iv (aG (yB a0) n v1)) [] [] (.l aBr.1 n::aBr.2) (aDi a0 v1):=by
 intro n
 induction n with|zero=>intro v1 hi hn;exact absurd hn (dX _)|succ n ih=>?_
 intro v1 hi hn;refine aN ?_;rw [aZ,yB];cases h0:(decide ((v1:Int) < (a0.length:Int)))
 case true=>
  have q0:=eS h0;let t1:SL:=[.d h0,.i v1 (a0.length),.L cQ a0 v1 0 9,.c [] (C45 (a0.getD (tN v1) dF).1)];cases h1:(((F45 (a0.getD (tN v1) dF).1):Int) != 0)
  case true=>exact rT (t1++[.d h1]) hcx
  let t2:SL:=t1++[.d h1,.i v1 (a0.length),.L cQ a0 v1 9 1,.c [] (C46 (a0.getD (tN v1) dF).2 (-100) 100)];cases h2:(!(F46 (a0.getD (tN v1) dF).2 (-100) 100))
  case true=>exact rT (t2++[.d h2]) hcx
  refine bA n (t2++[.d h2]) [0,3] [] hcx aBr (aDi a0 (W (v1+1))) ?_;have z0:(W (v1+1))=(v1+1):=aH oM oM;rw [z0];exact ih _ oM oM
 exact rT [.d h0] hcx
def kQ (a0:bV):Int := (bif (decide (((a0.length:Int):Int) > 96))then 4 else(aG (yB a0) (tN ((a0.length:Int) - 0)+1) 0))
theorem aRq (a0:bV)(l0:a0.length<=2^63-1):Con Tryz.prog 20 [(.s 0 0 a0.length 10)] [(.live false true (flat dI a0))] (iv (kQ a0)) []:=by
 refine cS Tryz.func20 fun cx hcx=>?_
 rw [kQ];cases h0:(decide (((a0.length:Int):Int) > 96))
 case true=>exact rT [.d h0] hcx
 refine eN [.d h0] [0,3] [] hcx aBr (aDi a0 0) (tN ((a0.length:Int) - 0)+1) ?_;exact aVm a0 l0 hcx (tN ((a0.length:Int) - 0)+1) 0 oM oM
theorem aPy {n a b:Int} (ha:0<=a)(hb:0<=b)(h1:a*a<=n)(h2:n < (a+1)*(a+1))(h3:b*b<=n)(h4:n < (b+1)*(b+1)):a=b:=by
 rcases Int.lt_trichotomy a b with h | h | h
 ·have:(a+1)*(a+1)<=b*b:=Int.mul_le_mul oM oM oM hb;omega
 ·exact h
 ·have:(b+1)*(b+1)<=a*a:=Int.mul_le_mul oM oM oM ha;omega
def IsRt (n r:Int):Prop:=0<=r/\r*r<=n/\n < (r+1)*(r+1)
theorem IsRt.eq {n a b:Int} (h:IsRt n a)(h':IsRt n b):a=b:=aPy h.1 h'.1 h.2.1 h.2.2 h'.2.1 h'.2.2
theorem IsRt.le {n r m:Int} (h:IsRt n r)(hm:0<=m)(hn:n < (m+1)*(m+1)):r<=m:=by
 rcases Int.lt_or_le m r with hlt | hle
 ·have:(m+1)*(m+1)<=r*r:=Int.mul_le_mul oM oM oM h.1;have:=h.2.1;omega
 ·exact hle
theorem IsRt.ge {n r m:Int} (h:IsRt n r)(hm:0<=m)(hn:m*m<=n):m<=r:=by
 rcases Int.lt_or_le r m with hlt | hle
 ·have:(r+1)*(r+1)<=m*m:=Int.mul_le_mul oM oM (by have:=h.1;omega) hm;have:=h.2.2;omega
 ·exact hle
theorem IsRt.mono {n m a b:Int} (h:IsRt n a)(h':IsRt m b)(hnm:n<=m):a<=b:=h'.ge h.1 (Int.le_trans h.2.1 hnm)
theorem aF7 {n:Int} {S:Zs->Zs⊕Int} (hS:∀k b,0<=k->0 < b->k+b<=2147483648->S (k,b)=if(k+b)*(k+b)<=n then .inl (k+b,b / 2) else .inl (k,b / 2))(h0:∀k,S (k,0)=.inr k) :
 ∀(j f:Nat) (k:Int),j+2<=f->0<=k->k+2*2 ^ j<=2147483648->k*k<=n->n < (k+2*2 ^ j)*(k+2*2 ^ j)->IsRt n (aG S f (k,2 ^ j)):=by
 intro j
 induction j with
 | zero =>
  intro f k hf hk hb h1 h2;obtain⟨f,rfl⟩:∃g,f=g+2:=⟨f - 2,by omega⟩;simp only [Int.pow_zero] at h2 hb ⊢;have hs:=hS k 1 hk oM oM;by_cases hc:(k+1)*(k+1)<=n
  ·rw [if_pos hc] at hs;rw [aK hs,show((1:Int) / 2)=0 by omega,aL (h0 _)];refine⟨by omega,hc,?_⟩;rw [show k+1+1=k+2*1 by omega];exact h2
  ·rw [if_neg hc] at hs;rw [aK hs,show((1:Int) / 2)=0 by omega,aL (h0 _)];exact⟨hk,h1,by omega⟩
 | succ j ih =>
  intro f k hf hk hb h1 h2;obtain⟨f,rfl⟩:∃g,f=g+1:=⟨f - 1,by omega⟩;have hp:(0:Int) < 2 ^ j:=Int.pow_pos oM;rw [Int.pow_succ] at h2 hb ⊢;have hs:=hS k (2 ^ j*2) hk oM oM;have hd:(2:Int) ^ j*2 / 2=2 ^ j:=Int.mul_ediv_cancel _ oM;rw [hd] at hs;by_cases hc:(k+2 ^ j*2)*(k+2 ^ j*2)<=n
  ·rw [if_pos hc] at hs;rw [aK hs];refine ih f _ oM oM oM hc ?_;rw [show k+2 ^ j*2+2*2 ^ j=k+2*((2:Int) ^ j*2) by omega];exact h2
  ·rw [if_neg hc] at hs;rw [aK hs];refine ih f _ oM hk oM h1 ?_;rw [show k+2*(2:Int) ^ j=k+2 ^ j*2 by omega];omega
theorem aPz {n:Int} {S:Zs->Zs⊕Int} (hS:∀a b,0<=a->a < b->b<=2147483648->S (a,b)=if((a+b+1) / 2)*((a+b+1) / 2)<=n then .inl ((a+b+1) / 2,b) else .inl (a,(a+b+1) / 2 - 1))(h0:∀a,S (a,a)=.inr a) :
 ∀(f:Nat) (a b:Int),0<=a->a<=b->b<=2147483648->b - a < f->a*a<=n->n < (b+1)*(b+1)->IsRt n (aG S f (a,b)):=by
 intro f
 induction f with|zero=>intro a b _ h _ hf;omega|succ f ih=>?_
 intro a b ha hab hb hf h1 h2;by_cases he:a=b
 ·subst he;rw [aL (h0 a)];exact⟨ha,h1,h2⟩
 ·have hs:=hS a b ha oM hb;by_cases hc:((a+b+1) / 2)*((a+b+1) / 2)<=n
  ·rw [if_pos hc] at hs;rw [aK hs];exact ih _ _ oM oM hb oM hc h2
  ·rw [if_neg hc] at hs;rw [aK hs];refine ih _ _ ha oM oM oM h1 ?_;rw [show(a+b+1) / 2 - 1+1=(a+b+1) / 2 by omega];omega
theorem aRr {a:Int} (h:0<=a)(h':a<=2147483648):0<=a*a/\a*a<=4611686018427387904:=⟨Int.mul_nonneg h h,Int.le_trans (Int.mul_le_mul h' h' h oM) oM⟩
theorem aHg {n:Int} (h0:0<=n)(h:n < 4611686018427387904):IsRt n (kO n):=by
 unfold kO;rw [show decide ((4611686018427387904:Int)<=n)=false by simpa using h];simp only [cond_false];refine aF7 (n:=n) (fun k b hk hb hkb=>?_) (fun k=>?_) 30 _ 0 (by decide) oM (by decide) oM (by simpa using h)
 ·have h2:((b:Int) == 0)=false:=by rw [beq_eq_false_iff_ne];omega
  have hw:W (k+b)=k+b:=aH oM oM;have hq:=aRr (a:=k+b) oM hkb;have hw2:W ((k+b)*(k+b))=(k+b)*(k+b):=aH oM oM;simp only [zX,h2,cond_false,hw,hw2];by_cases hc:(k+b)*(k+b)<=n<;>simp [hc]
 ·simp [zX]
theorem bBm {n:Int} (h0:0<=n)(h:n < 4611686018427387904):IsRt n (mS n):=by
 unfold mS;refine aPz (n:=n) (fun a b ha hab hb=>?_) (fun a=>?_) _ 0 2147483648 oM oM oM (by decide) oM oM
 ·have h2:decide (a < b)=true:=by simpa using hab
  have hw:=aG5 (a:=a) (b:=b) oM;have hw3:=aNz (a:=a) (b:=b) oM;have hq:=aRr (a:=(a+b+1) / 2) oM oM;have hw2:W ((a+b+1) / 2*((a+b+1) / 2))=(a+b+1) / 2*((a+b+1) / 2):=aH oM oM;have hw4:W ((a+b+1) / 2 - 1)=(a+b+1) / 2 - 1:=aH oM oM;simp only [aDe,h2,cond_true,hw,hw2,hw4];by_cases hc:(a+b+1) / 2*((a+b+1) / 2)<=n<;>simp [hc]
 ·simp [aDe]
abbrev P3:=Zt
abbrev PN:=P3×P3×P3
def bd (m:Int)(p:P3):Prop:=(-m<=p.1/\p.1<=m)/\(-m<=p.2.1/\p.2.1<=m)/\(-m<=p.2.2/\p.2.2<=m)
def bdP (m:Int)(p:PN):Prop:=bd m p.1/\bd m p.2.1/\bd m p.2.2
def sb (p q:P3):P3:=(p.1 - q.1,p.2.1 - q.2.1,p.2.2 - q.2.2)
def dt (p q:P3):Int:=p.1*q.1+p.2.1*q.2.1+p.2.2*q.2.2
def cr (p q:P3):P3:=(p.2.1*q.2.2 - p.2.2*q.2.1,p.2.2*q.1 - p.1*q.2.2,p.1*q.2.1 - p.2.1*q.1)
def nrm (p:PN):P3:=cr (sb p.2.1 p.1) (sb p.2.2 p.1)
theorem dM {a b x y:Int} (hx:-a<=x/\x<=a)(hy:-b<=y/\y<=b):-(a*b)<=x*y/\x*y<=a*b:=by
 have h1:=Int.mul_nonneg (show 0<=a - x by omega) (show 0<=b - y by omega);have h2:=Int.mul_nonneg (show 0<=a+x by omega) (show 0<=b+y by omega);have h3:=Int.mul_nonneg (show 0<=a - x by omega) (show 0<=b+y by omega);have h4:=Int.mul_nonneg (show 0<=a+x by omega) (show 0<=b - y by omega);rw [Int.sub_mul,Int.mul_sub,Int.mul_sub] at h1;rw [Int.add_mul,Int.mul_add,Int.mul_add] at h2;rw [Int.sub_mul,Int.mul_add,Int.mul_add] at h3;rw [Int.add_mul,Int.mul_sub,Int.mul_sub] at h4;omega
theorem yC {a b:Int} {p q:P3} (hp:bd a p)(hq:bd b q):bd (a+b) (sb p q):=by
 unfold bd at *;simp only [sb];omega
theorem qR (x:Int):0<=x*x:=by
 rcases Int.le_total 0 x with h | h
 ·exact Int.mul_nonneg h h
 ·exact Int.mul_nonneg_of_nonpos_of_nonpos h h
theorem aVn (p:P3):0<=dt p p:=by
 have:=qR p.1;have:=qR p.2.1;have:=qR p.2.2;simp only [dt];omega
theorem aY6 {p:P3} (h:¬(p.1=0/\p.2.1=0/\p.2.2=0)):1<=dt p p:=by
 have:=qR p.1;have:=qR p.2.1;have:=qR p.2.2;have key:∀x:Int,x≠0->1<=x*x:=fun x hx=>by
  have h0:=qR x;have:x*x≠0:=Int.mul_ne_zero hx hx;omega
 simp only [dt];by_cases h1:p.1=0
 ·by_cases h2:p.2.1=0
  ·have:=key p.2.2 (fun h3=>h ⟨h1,h2,h3⟩);omega
  ·have:=key _ h2;omega
 ·have:=key _ h1;omega
theorem bBn {a:Int} {p q:P3} (hp:bd a p)(hq:bd a q):-(3*(a*a))<=dt p q/\dt p q<=3*(a*a):=by
 have:=dM hp.1 hq.1;have:=dM hp.2.1 hq.2.1;have:=dM hp.2.2 hq.2.2;simp only [dt];omega
theorem fsb {p q:P3} (hp:bd 100000 p)(hq:bd 100000 q):wJ p q=sb p q:=by
 unfold bd at *;simp only [wJ,sb];rw [aH oM oM,aH oM oM,aH oM oM]
theorem fdt {p q:P3} (hp:bd 1000000000 p)(hq:bd 1000000000 q):aE9 p q=dt p q:=by
 have h1:=dM hp.1 hq.1;have h2:=dM hp.2.1 hq.2.1;have h3:=dM hp.2.2 hq.2.2;simp only [aE9,aL6,dt];rw [aH (n:=p.1*q.1) oM oM,aH (n:=p.2.1*q.2.1) oM oM,aH (n:=p.2.2*q.2.2) oM oM,Int.zero_add,aH (n:=p.1*q.1) oM oM,aH (n:=p.1*q.1+p.2.1*q.2.1) oM oM,aH oM oM]
theorem rdt {p q:P3} (hp:bd 1000000000 p)(hq:bd 1000000000 q):hZ p q=dt p q:=by
 have h1:=dM hp.1 hq.1;have h2:=dM hp.2.1 hq.2.1;have h3:=dM hp.2.2 hq.2.2;simp only [hZ,dt];rw [aH (n:=p.1*q.1) oM oM,aH (n:=p.2.1*q.2.1) oM oM,aH (n:=p.2.2*q.2.2) oM oM,aH (n:=p.1*q.1+p.2.1*q.2.1) oM oM,aH oM oM]
theorem rsb {p q:P3} (hp:bd 100000 p)(hq:bd 100000 q):bZ p q=sb p q:=by
 unfold bd at *;simp only [bZ,sb];rw [aH oM oM,aH oM oM,aH oM oM]
theorem bBo {p q:P3} (hp:bd 1000000000 p)(hq:bd 1000000000 q) :
 ((W ((W (p.2.1*q.2.2)) - (W (p.2.2*q.2.1)))),(W ((W (p.2.2*q.1)) - (W (p.1*q.2.2)))),(W ((W (p.1*q.2.1)) - (W (p.2.1*q.1)))))=cr p q:=by
 have h1:=dM hp.2.1 hq.2.2;have h2:=dM hp.2.2 hq.2.1;have h3:=dM hp.2.2 hq.1;have h4:=dM hp.1 hq.2.2;have h5:=dM hp.1 hq.2.1;have h6:=dM hp.2.1 hq.1;simp only [cr];rw [aH (n:=p.2.1*q.2.2) oM oM,aH (n:=p.2.2*q.2.1) oM oM,aH (n:=p.2.2*q.1) oM oM,aH (n:=p.1*q.2.2) oM oM,aH (n:=p.1*q.2.1) oM oM,aH (n:=p.2.1*q.1) oM oM,
  aH oM oM,aH oM oM,aH oM oM]
theorem scr {p q:P3} (hp:bd 1000000000 p)(hq:bd 1000000000 q):aYq p q=cr p q:=bBo hp hq
theorem rcr {p q:P3} (hp:bd 1000000000 p)(hq:bd 1000000000 q):aY0 p q=cr p q:=bBo hp hq
theorem ssb {p q:P3} (hp:bd 100000 p)(hq:bd 100000 q):aL5 p q=sb p q:=by
 unfold bd at *;simp only [aL5,aYp,sb];rw [aH (n:=-1*q.1) oM oM,aH (n:=-1*q.2.1) oM oM,aH (n:=-1*q.2.2) oM oM,aH oM oM,aH oM oM,aH oM oM];refine Prod.ext (by simp only;omega) (Prod.ext (by simp only;omega) (by simp only;omega))
theorem bd.mono {a b:Int} {p:P3} (h:bd a p)(hab:a<=b):bd b p:=by unfold bd at *;omega
theorem bdP.mono {a b:Int} {p:PN} (h:bdP a p)(hab:a<=b):bdP b p:=⟨h.1.mono hab,h.2.1.mono hab,h.2.2.mono hab⟩
theorem qS (n a b:Int):F41 n a b=decide (a<=n/\n<=b):=by
 unfold F41;by_cases h1:n≥a<;>by_cases h2:n<=b<;>simp [h1,h2]<;>omega
theorem rM (n a b:Int):F46 n a b=decide (a<=n/\n<=b):=by
 unfold F46;by_cases h1:n≥a<;>by_cases h2:n<=b<;>simp [h1,h2]<;>omega
theorem rN (n a b:Int):F71 n a b=decide (a<=n/\n<=b):=by
 unfold F71;by_cases h1:n≥a<;>by_cases h2:n<=b<;>simp [h1,h2]<;>omega
theorem wP (n a b:Int):aHe n a b=decide (a<=n/\n<=b):=by
 unfold aHe;by_cases h1:n≥a<;>by_cases h2:n<=b<;>simp [h1,h2]<;>omega
theorem aHh (n a b:Int):aHa n a b=decide (a<=n/\n<=b):=by
 unfold aHa;by_cases h1:a<=n<;>by_cases h2:n<=b<;>simp [h1,h2]
theorem aVo {a b c d:Prop} [Decidable a] [Decidable b] [Decidable c] [Decidable d] (h:(a/\b/\c)↔d):(bif decide a then(bif decide b then decide c else false) else false)=decide d:=by
 by_cases h1:a
 ·by_cases h2:b
  ·rw [bX h1,bX h2,cond_true,cond_true];by_cases h3:c
   ·rw [bX h3,bX (h.1 ⟨h1,h2,h3⟩)]
   ·rw [cA h3,cA (fun hd=>h3 (h.2 hd).2.2)]
  ·rw [bX h1,cA h2,cond_true,cond_false,cA (fun hd=>h2 (h.2 hd).2.1)]
 ·rw [cA h1,cond_false,cA (fun hd=>h1 (h.2 hd).1)]
theorem eq3 (x y z a b:Int):(bif (((x:Int) == 0)&&(((y:Int) == 0)&&(((z:Int) == 0)&&true))) then a else b)=if x=0/\y=0/\z=0 then a else b:=by
 have key:∀t:Int,(t == 0)=decide (t=0):=fun t=>by
  by_cases h:t=0
  ·rw [bX h];simpa using h
  ·rw [cA h];simpa using h
 rw [key,key,key,Bool.and_true,←Bool.decide_and,←Bool.decide_and];by_cases h:x=0/\y=0/\z=0
 ·rw [if_pos h,bX h,cond_true]
 ·rw [if_neg h,cA h,cond_false]
open Classical in
theorem wQ (p:P3):aE8 p 64=decide (bd 64 p):=by
 unfold aE8;rw [aHh,aHh,aHh,aH oM oM];exact aVo (by unfold bd;omega)
open Classical in
theorem aAa (p:P3):F82 p 64=decide (bd 64 p):=by
 unfold F82;rw [wP,wP,wP,aH oM oM];exact aVo (by unfold bd;omega)
open Classical in
noncomputable def vp (p:PN):Int:=if bdP 64 p then(if(nrm p).1=0/\(nrm p).2.1=0/\(nrm p).2.2=0 then 6 else 0) else 1
theorem bBp {p:PN} (h:bdP 64 p):aHb p=nrm p:=by
 have h1:=h.1.mono (show(64:Int)<=100000 by omega);have h2:=h.2.1.mono (show(64:Int)<=100000 by omega);have h3:=h.2.2.mono (show(64:Int)<=100000 by omega);unfold aHb nrm;rw [ssb h2 h1,ssb h3 h1];exact scr ((yC h.2.1 h.1).mono oM) ((yC h.2.2 h.1).mono oM)
theorem bBq {p:PN} (h:bdP 64 p):F83 p=nrm p:=by
 have h1:=h.1.mono (show(64:Int)<=100000 by omega);have h2:=h.2.1.mono (show(64:Int)<=100000 by omega);have h3:=h.2.2.mono (show(64:Int)<=100000 by omega);unfold F83 nrm;rw [rsb h2 h1,rsb h3 h1];exact rcr ((yC h.2.1 h.1).mono oM) ((yC h.2.2 h.1).mono oM)
theorem aVp (p:PN):F75 p=vp p:=by
 unfold F75 vp;rw [wQ,wQ,wQ];by_cases h1:bd 64 p.1
 ·by_cases h2:bd 64 p.2.1
  ·by_cases h3:bd 64 p.2.2
   ·have hb:bdP 64 p:=⟨h1,h2,h3⟩;rw [bBp hb,if_pos hb];rw [eq3];simp [h1,h2,h3]
   ·simp [h1,h2,h3,bdP]
  ·simp [h1,h2,bdP]
 ·simp [h1,bdP]
theorem bBr (p:PN):F45 p=vp p:=by
 unfold F45 vp;rw [aAa,aAa,aAa];by_cases h1:bd 64 p.1
 ·by_cases h2:bd 64 p.2.1
  ·by_cases h3:bd 64 p.2.2
   ·have hb:bdP 64 p:=⟨h1,h2,h3⟩;rw [bBq hb,if_pos hb];rw [eq3];simp [h1,h2,h3]
   ·simp [h1,h2,h3,bdP]
  ·simp [h1,h2,bdP]
 ·simp [h1,bdP]
theorem aRs {p:PN} (h:vp p=0):bdP 64 p/\1<=dt (nrm p) (nrm p):=by
 unfold vp at h;split at h
 ·rename_i hb;split at h
  ·cases h
  ·rename_i hn;exact⟨hb,aY6 hn⟩
 ·cases h
end Go.Proofs.YtlffahoikfahlaaGreat
namespace Go.Proofs.YtlffahoikfahlaaGreat
open Go.Proofs Go.Aw Go.RowKit
set_option maxRecDepth 100000
def vN (x:PN):List PN := [(aQ x.1 2,cB (aQ x.1 2) (aQ x.2.1 2),cB (aQ x.2.2 2) (aQ x.1 2)), (cB (aQ x.1 2) (aQ x.2.1 2),aQ x.2.1 2,cB (aQ x.2.1 2) (aQ x.2.2 2)), (cB (aQ x.2.2 2) (aQ x.1 2),cB (aQ x.2.1 2) (aQ x.2.2 2),aQ x.2.2 2), (cB (aQ x.1 2) (aQ x.2.1 2),cB (aQ x.2.1 2) (aQ x.2.2 2),cB (aQ x.2.2 2) (aQ x.1 2))]
def aFa:Nat->List PN->List PN | 0,l=>l | n+1,l=>aFa n (l.flatMap vN)
theorem aA0:∀(n:Nat) (l:List PN),(aFa n l).length=4 ^ n*l.length
 | 0,l=>by simp [aFa]
 | n+1,l=>by
  have:(l.flatMap vN).length=4*l.length:=by
   induction l with
   | nil=>rfl
   | cons x l ih=>rw [List.flatMap_cons,List.length_append,ih];simp only [vN,List.length_cons,List.length_nil];omega
  rw [aFa,aA0 n,this,Nat.pow_succ];rw [←Nat.mul_assoc,Nat.mul_comm (4 ^ n) 4,Nat.mul_comm 4 (4 ^ n)]
theorem aY7 (a0:PN)(a1:Int)(l:List PN):∀(f i:Nat) (nx:List PN) (d:Int),l.length - i < f->i<=l.length ->
 aG (rL a0 a1) f (l,nx,d,(i:Int))=.inl (nx++(l.drop i).flatMap vN,d+1):=by
 intro f
 induction f with|zero=>intro i nx d h;omega|succ f ih=>?_
 intro i nx d h hi;by_cases hlt:i < l.length
 ·have hs:rL a0 a1 (l,nx,d,(i:Int))=.inl (l,nx++vN (l.getD i dF),d,((i+1:Nat):Int)):=by
   have:decide ((i:Int) < (l.length:Int))=true:=by simpa using hlt
   simp only [rL,this,cond_true,iB,vN];rfl
  rw [aK hs,ih _ _ _ oM oM];have hd:l.drop i=l.getD i dF::l.drop (i+1):=by
   rw [List.drop_eq_getElem_cons hlt];simp [gS,hlt]
  rw [hd,List.flatMap_cons,List.append_assoc]
 ·have:decide ((i:Int) < (l.length:Int))=false:=by simpa using hlt
  have hs:rL a0 a1 (l,nx,d,(i:Int))=.inr (.inl (nx,d+1)):=by
   simp only [rL,this,cond_false]
  rw [aL hs,List.drop_of_length_le oM];simp
theorem aVq (a0:PN)(a1:Int):∀(f n:Nat) (l:List PN),n < f->aG (lN a0 a1) f (l,a1 - n)=aFa n l:=by
 intro f
 induction f with|zero=>intro n l h;omega|succ f ih=>?_
 intro n l h;cases n with
 | zero =>
  have hs:lN a0 a1 (l,a1 - (0:Nat))=.inr l:=by
   have:decide (a1 - ((0:Nat):Int) < a1)=false:=by simp
   simp only [lN,this,cond_false]
  rw [aL hs];rfl
 | succ n =>
  have hs:lN a0 a1 (l,a1 - ((n+1:Nat):Int))=.inl (l.flatMap vN,a1 - (n:Nat)):=by
   have:decide (a1 - ((n+1:Nat):Int) < a1)=true:=by simp;omega
   simp only [lN,this,cond_true];have:=aY7 a0 a1 l (tN ((l.length:Int) - 0)+1) 0 [] (a1 - ((n+1:Nat):Int)) oM oM;simp only [List.drop_zero,List.nil_append] at this;rw [show((0:Nat):Int)=0 from rfl] at this;rw [this,show a1 - ((n+1:Nat):Int)+1=a1 - (n:Nat) by omega]
  rw [aK hs,ih _ _ oM];rfl
theorem aJ1 (p:PN) {d:Int} (h:0<=d):gI p d=aFa d.toNat [p]:=by
 unfold gI;have:=aVq p d (tN (d - 0)+1) d.toNat [p] oM;rw [show d - (d.toNat:Int)=0 by omega] at this;exact this
theorem aN2 (p:PN) {d:Int} (h:0<=d):(gI p d).length=4 ^ d.toNat:=by
 rw [aJ1 p h,aA0];simp
theorem aRt {p:PN} {d:Int} (h:0<=d):((((gI p d).length:Nat)):Int)≠0:=by
 rw [aN2 p h];have:0 < 4 ^ d.toNat:=Nat.pow_pos oM;omega
theorem aY8 {p:PN} {d:Int} (h:0<=d/\d<=3):(gI p d).length<=64:=by
 rw [aN2 p h.1];have:d.toNat<=3:=by omega
 calc 4 ^ d.toNat<=4 ^ 3:=Nat.pow_le_pow_right oM this
  _=64:=rfl
def aMf (x:PN):List PN:=[q1 x,q2 x,q3 x,q4 x]
theorem uK {p:P3} (h:bd 100000 p):dT p 2=(2*p.1,2*p.2.1,2*p.2.2):=by
 unfold bd at h;simp only [dT];rw [aH oM oM,aH oM oM,aH oM oM]
theorem yD {p:P3} (h:bd 100000 p):aQ p 2=(2*p.1,2*p.2.1,2*p.2.2):=by
 unfold bd at h;simp only [aQ];rw [aH oM oM,aH oM oM,aH oM oM]
theorem aF8 {p q:P3} (hp:bd 100000 p)(hq:bd 100000 q):kM p q=(p.1+q.1,p.2.1+q.2.1,p.2.2+q.2.2):=by
 unfold bd at hp hq;simp only [kM];rw [aH oM oM,aH oM oM,aH oM oM]
theorem aRu {p q:P3} (hp:bd 100000 p)(hq:bd 100000 q):cB (aQ p 2) (aQ q 2)=(p.1+q.1,p.2.1+q.2.1,p.2.2+q.2.2):=by
 rw [yD hp,yD hq];have key:∀a b:Int,(-100000<=a/\a<=100000)->(-100000<=b/\b<=100000)->W (tD (W (2*a+2*b)) 2)=a+b:=fun a b h1 h2=>by
  rw [aH (n:=2*a+2*b) oM oM,←Int.mul_add,Int.mul_tdiv_cancel_left _ oM,aH oM oM]
 simp only [cB];rw [key _ _ hp.1 hq.1,key _ _ hp.2.1 hq.2.1,key _ _ hp.2.2 hq.2.2]
theorem aVr {x:PN} (h:bdP 100000 x):vN x=aMf x:=by
 unfold vN aMf q1 q2 q3 q4;rw [aRu h.1 h.2.1,aRu h.2.2 h.1,aRu h.2.1 h.2.2,aF8 h.1 h.2.1,aF8 h.2.2 h.1,aF8 h.2.1 h.2.2,yD h.1,yD h.2.1,yD h.2.2,uK h.1,uK h.2.1,uK h.2.2]
theorem aVs {m:Int} {x y:PN} (h:bdP m x)(hm:m<=100000)(hy:y∈aMf x):bdP (2*m) y:=by
 have h1:=h.1.mono hm;have h2:=h.2.1.mono hm;have h3:=h.2.2.mono hm;unfold aMf q1 q2 q3 q4 at hy;rw [aF8 h1 h2,aF8 h3 h1,aF8 h2 h3,uK h1,uK h2,uK h3] at hy;have ha:=h.1;have hb:=h.2.1;have hc:=h.2.2;unfold bd at ha hb hc;simp only [List.mem_cons,List.mem_nil_iff,or_false] at hy;unfold bdP bd;rcases hy with rfl | rfl | rfl | rfl<;>simp only<;>omega
theorem lO:∀(d:Nat) (p:PN),eQ (d+1) p=(eQ d p).flatMap aMf
 | 0,p=>by simp [eQ,aMf]
 | d+1,p=>by
  rw [show eQ (d+1+1) p=eQ (d+1) (q1 p)++(eQ (d+1) (q2 p)++(eQ (d+1) (q3 p)++eQ (d+1) (q4 p))) from rfl];rw [lO d (q1 p),lO d (q2 p),lO d (q3 p),lO d (q4 p)];simp only [eQ,List.flatMap_append]
theorem aHi:∀(d:Nat) {m:Int} {p x:PN},bdP m p->m*2 ^ d<=100000->0<=m->x∈eQ d p->bdP (m*2 ^ d) x
 | 0,m,p,x,h,_,_,hx=>by simp [eQ] at hx;subst hx;simpa using h
 | d+1,m,p,x,h,hm,h0,hx=>by
  rw [lO,List.mem_flatMap] at hx;obtain⟨y,hy,hx⟩:=hx;have hp:(0:Int) < 2 ^ d:=Int.pow_pos oM;have hle:m*2 ^ d<=m*2 ^ (d+1):=Int.mul_le_mul_of_nonneg_left (by rw [Int.pow_succ];omega) h0;have:=aVs (aHi d h oM h0 hy) oM hx;rw [Int.pow_succ,←Int.mul_assoc,Int.mul_comm];exact this
theorem aDj {α β:Type} {f g:α->List β}:∀{l:List α},(∀x∈l,f x=g x)->l.flatMap f=l.flatMap g
 | [],_=>rfl
 | x::l,h=>by rw [List.flatMap_cons,List.flatMap_cons,h x (by simp),aDj (fun y hy=>h y (by simp [hy]))]
theorem aF9:∀(n:Nat) (l:List PN),aFa (n+1) l=(aFa n l).flatMap vN
 | 0,l=>rfl
 | n+1,l=>by rw [aFa,aF9 n];rfl
theorem aRv {p:PN} (hp:bdP 64 p):∀d:Nat,d<=9->aFa d [p]=eQ d p
 | 0,_=>rfl
 | d+1,h=>by
  rw [aF9,aRv hp d oM,lO];have hle:(64:Int)*2 ^ d<=100000:=by
   have h1:(2:Nat) ^ d<=2 ^ 9:=Nat.pow_le_pow_right oM oM;have h2:(2:Int) ^ d=((2 ^ d:Nat):Int):=by simp
   omega
  exact aDj (fun x hx=>aVr ((aHi d hp hle oM hx).mono hle))
theorem bEg {p:PN} (hp:bdP 64 p) {d:Int} (h:0<=d/\d<=3):gI p d=eQ d.toNat p:=by
 rw [aJ1 p h.1,aRv hp _ oM]
theorem bEh (a0:Zt×Zt×Zt)(a1:Int):Con Tryz.prog 128 [(.a (k9 a0)),(iv a1)] [] (.f 165 [(.p 0 0),(.p 1 0)]) [(.live true false (k9 a0)),(.live true false [(iv a1)])]:=by
 refine cS Tryz.func128 fun cx hcx=>?_
 exact rt [] [] [0,1] hcx oK
def dK (a0:Zt×Zt×Zt):Zt×Zt×Zt := a0
theorem bBs (a0:Zt×Zt×Zt):Con Tryz.prog 129 [(.a (k9 a0))] [] (.a (k9 (dK a0))) []:=by
 refine cS Tryz.func129 fun cx hcx=>?_
 exact rT [] hcx
def aJ2 (a0 a1 a2:Int):Zs := (aRk (a0,a1) a2).1
theorem bEi (a0 a1 a2:Int):Con Tryz.prog 132 [(iv a0),(iv a1),(iv a2)] [] (.a (k2 (aJ2 a0 a1 a2))) []:=by
 refine cS Tryz.func132 fun cx hcx=>?_
 exact rT [.c [] (bEb (a0,a1) a2)] hcx
noncomputable def aRw:Code:=match (dY [1,1,1,1,0,1,0] [] (Tryz.f78.body.getD .skip)).1 with
 | .rangeFunc _ _ a b=>a
 | _=>.skip
noncomputable def aRx:Code:=match (dY [1,1,1,1,0,1,0] [] (Tryz.f78.body.getD .skip)).1 with
 | .rangeFunc _ _ a b=>b
 | _=>.skip
noncomputable def aRy:List K:=(dY [1,1,1,1,0,1,0] [] (Tryz.f78.body.getD .skip)).2
def aDk (a0:Zt×Zt×Zt)(a1:Zt)(a2:Int):Zs->LS | (v1,v2)=>⟨[.u,.u,(iv a2),.u,.u,.u,.u,(.p 0 0),(.p 1 0),(.p 2 0),(.p 3 0),(.p 4 0),(.p 5 0),(.p 6 0),.u,.u,.u,.u,.u,.u,.u,.u,.u,.u,.u,.u,.u,.u,.u,(.f 165 [(.p 7 0),(.p 8 0)]),.u,.u,.u,.u,.u,.u,.u,.u,.u,.u,.u,.u,.u,.u,.u,.u,.u,.u,.u,.u,.u,.u,.u,.u,.u,.u,.u,.u,.u,.u,.u,.u,.u,.u,.u,.u,.u,.u,.u],[(.live true false [(.v (.func (.func 79) #[] #[]))]),(.live true false [(iv 0),(iv 0)]),(.live true false [(iv 0)]),(.live true false [(iv (W (1*2 ^ (min (tN a2) 64))))]),(.live true false [(.s 9 0 1 3)]),(.live true false [(iv v1)]),(.live true false [(iv v2)]),(.live true false (k9 a0)),(.live true false [(iv a2)]),(.live true false (k3 (dT a1 (W (1*2 ^ (min (tN a2) 64))))))]⟩
def aJ3 (a0:Zt×Zt×Zt)(a1:Zt)(a2:Int):Zs->Zt×Zt×Zt->LS | (v1,v2),x=>⟨[.u,.u,.u,.u,.u,.u,.u,(.p 0 0),(.p 1 0),(.p 2 0),(.p 3 0),(.p 4 0),(.p 5 0),(.p 6 0),(.p 10 0),.u,.u,.u,.u,.u,.u,.u,.u,.u,.u,.u,.u,.u,.u,.u,.u,.u,.u,.u,.u,.u,.u,.u,.u,.u,.u,.u,.u,.u,.u,.u,.u,.u,.u,.u,.u,.u,.u,.u,.u,.u,.u,.u,.u,.u,.u,.u,.u,.u,.u,.u,.u,.u,.u],[(.live true false [(.v (.func (.func 79) #[] #[]))]),(.live true false [(iv 0),(iv 0)]),(.live true false [(iv 0)]),(.live true false [(iv (W (1*2 ^ (min (tN a2) 64))))]),(.live true false [(.s 9 0 1 3)]),(.live true false [(iv v1)]),(.live true false [(iv v2)]),(.live true false (k9 a0)),(.live true false [(iv a2)]),(.live true false (k3 (dT a1 (W (1*2 ^ (min (tN a2) 64)))))),(.live true false (k9 x))]⟩
def aAb (a0:Zt×Zt×Zt)(a1:Zt)(a2:Int)(r:Zs×Int):LS:=⟨[],[.dead,(.live true false [(iv r.1.1),(iv r.1.2)]),(.live true false [(iv r.2)]),.dead,.dead,.dead,.dead,.dead,.dead,.dead]⟩
def jO (a0:Zt×Zt×Zt)(a1:Zt)(a2:Int):Zs->Zt×Zt×Zt->Zs⊕(Zs×Int) | (v1,v2),x => (bif (((dU (dK x) (dT a1 (W (1*2 ^ (min (tN a2) 64))))):Int) == 0)then(.inr ((0,0),10))else(.inl ((W (v1+(vA (gH ([(dK x).1,(dK x).2.1,(dK x).2.2]:List Zt) ([(dT a1 (W (1*2 ^ (min (tN a2) 64))))]:List Zt)) (W (1*2 ^ (min (tN a2) 64)))).1.1)),(W (v2+(vA (dU (dK x) (dT a1 (W (1*2 ^ (min (tN a2) 64))))) (W (1*2 ^ (min (tN a2) 64)))).1.2)))))
def aBs (a0:Zt×Zt×Zt)(a1:Zt)(a2:Int):Zs->Zs×Int | (v1,v2) => ((aJ2 v1 v2 (W (1*2 ^ (min (tN (W (2*a2))) 64)))),0)
def pG (a0:Zt×Zt×Zt)(a1:Zt)(a2:Int):Zs×Int := (aAw (aBs a0 a1 a2) (mX (jO a0 a1 a2) (eQ (tN a2) a0) (0,0)))
theorem aVt (a0:Zt×Zt×Zt)(a1:Zt)(a2:Int)(ha:0<=a2/\a2<=3):Con Tryz.prog 78 [(.a (k9 a0)),(.a (k3 a1)),(iv a2),(.v (.func (.func 79) #[] #[]))] [] (.t [(.a (k2 (pG a0 a1 a2).1)),(iv (pG a0 a1 a2).2)]) []:=by
 have e:(pG a0 a1 a2)=(aAw (aBs a0 a1 a2) (mX (jO a0 a1 a2) (eQ (tN a2) a0) (0,0))):=by simp only [pG]
 rw [e];refine aJt (n:=9) Tryz.func78 rfl (ent Tryz.func78 oK rfl) (by show 4<=Tryz.f78.ntmps;decide) oK trivial (fun cx hcx=>?_);refine aAx (T:=T0) hT hm (f:=5000) (orc:=[.call [] (.a (k3 (dT a1 (W (1*2 ^ (min (tN a2) 64)))))) [],.call [] (.f 165 [(.p 0 0),(.p 1 0)]) [(.live true false (k9 a0)),(.live true false [(iv a2)])]]) [] [2,7,8,9,10,11,12,13,29] [2,3,4,5,7,8,9,10,11,6] hcx (x:=.rangeFunc (.tmp 29) #[30] aRw aRx) (k':=aRy) (s':=aDk a0 a1 a2 (0,0))
  (obs:=[.pr (0<=(a2:Int)),.call 127 [(.a (k3 a1)),(iv (W (1*2 ^ (min (tN a2) 64))))] [] (.a (k3 (dT a1 (W (1*2 ^ (min (tN a2) 64)))))) [],.call 128 [(.a (k9 a0)),(iv a2)] [] (.f 165 [(.p 0 0),(.p 1 0)]) [(.live true false (k9 a0)),(.live true false [(iv a2)])]]) oK ⟨(show 0<=(a2:Int) from by first | omega | (rw [aH]<;>omega) | exact dZ _),(aVf a1 (W (1*2 ^ (min (tN a2) 64)))),(bEh a0 a2),trivial⟩ ?_
 refine aRb (xs:=eQ (tN a2) a0) (enc:=aG8) (V:=Zs) (R':=(Zs×Int)) hcx rfl (by decide) [7,8] [(.p 0 0),(.p 1 0)] [(.live false false (k9 a0)),(.live false false [(iv a2)])] rfl rfl (aPv a0 a2 (by first | omega | exact pair_le h0)) (fun x=>SV.a (cP x)) aJy aYj 10 (Nb rfl) (eS oK)
  (aDk a0 a1 a2) (0,0) rfl (fun⟨v1,v2⟩=>oK) oK (fun v v'=>(gD (gD (gD (gD (gD (gD (gD (gD (gD (gD aF4))))))))))) (fun⟨v1,v2⟩=>oK) (fun⟨v1,v2⟩=>oK) (fun⟨v1,v2⟩=>(Nat.le_of_ble_eq_true oK))
  (jO a0 a1 a2) (aAb a0 a1 a2) (fun v r=>(jB (gD (gD (jB (jB (jB (jB (jB (jB (jB aF4))))))))))) (fun r=>oK)
  (fun _ _=>True) trivial (aJ3 a0 a1 a2) (fun⟨v1,v2⟩ x=>oK) (fun⟨v1,v2⟩ x=>oK) (fun⟨v1,v2⟩ x=>(Nat.le_of_ble_eq_true oK))
  (fun cx' l i ⟨v1,v2⟩ x QA hcx' hx hinv hg=>aNv (T:=T0) hT hm (f:=5000) (orc:=[]) [] [7,8,9,10,11,12,13,14] [10] hcx' (obs:=[]) oK trivial hg)
  (fun cx' l i ⟨v1,v2⟩ x QB hcx' hx hinv hb1 hb2=>?_) (fun cx' d ⟨v1,v2⟩ hh hv hinv=>?_) (fun cx' d r hh hv=>?_)
 ·show Aw.Good _ _ _ _ _ _ _ (aJ3 a0 a1 a2 (v1,v2) x);cases h0:(((dU (dK x) (dT a1 (W (1*2 ^ (min (tN a2) 64))))):Int) == 0)
  case true=>
   have e:jO a0 a1 a2 (v1,v2) x=(.inr ((0,0),10)):=by simp only [jO,h0,vF]
   exact aU7 (T:=T0) hT hm (f:=5000) (orc:=[.call [] (.a (k9 (dK x))) [],.call [11,9] (iv (dU (dK x) (dT a1 (W (1*2 ^ (min (tN a2) 64)))))) [],.d true]) [.kill 0,.kill 3,.kill 4,.kill 5,.kill 6,.kill 7,.kill 8,.kill 9] [] [] hcx' (s':=⟨List.replicate 69 .u,(aAb a0 a1 a2 ((0,0),10)).bk⟩)
    (obs:=[.call 129 [(.a (k9 x))] [] (.a (k9 (dK x))) [],.call 130 [(.s 0 0 3 3),(.s 1 0 1 3)] [(.live false false (k9 (dK x))),(.live false false (k3 (dT a1 (W (1*2 ^ (min (tN a2) 64))))))] (iv (dU (dK x) (dT a1 (W (1*2 ^ (min (tN a2) 64)))))) [],.eq (((dU (dK x) (dT a1 (W (1*2 ^ (min (tN a2) 64))))):Int) == 0) true]) oK ⟨(bBs x),(aJz (dK x) (dT a1 (W (1*2 ^ (min (tN a2) 64))))),h0,trivial⟩ (hb2 _ e)
  have e:jO a0 a1 a2 (v1,v2) x=(.inl ((W (v1+(vA (gH ([(dK x).1,(dK x).2.1,(dK x).2.2]:List Zt) ([(dT a1 (W (1*2 ^ (min (tN a2) 64))))]:List Zt)) (W (1*2 ^ (min (tN a2) 64)))).1.1)),(W (v2+(vA (dU (dK x) (dT a1 (W (1*2 ^ (min (tN a2) 64))))) (W (1*2 ^ (min (tN a2) 64)))).1.2)))):=by simp only [jO,h0,vF]
  refine aNv (T:=T0) hT hm (f:=5000) (orc:=[.call [] (.a (k9 (dK x))) [],.call [11,9] (iv (dU (dK x) (dT a1 (W (1*2 ^ (min (tN a2) 64)))))) [],.d false,.call [11,9] (iv (gH ([(dK x).1,(dK x).2.1,(dK x).2.2]:List Zt) ([(dT a1 (W (1*2 ^ (min (tN a2) 64))))]:List Zt))) [],.call [] (.t [(.a (k2 (vA (gH ([(dK x).1,(dK x).2.1,(dK x).2.2]:List Zt) ([(dT a1 (W (1*2 ^ (min (tN a2) 64))))]:List Zt)) (W (1*2 ^ (min (tN a2) 64)))).1)),(iv (vA (gH ([(dK x).1,(dK x).2.1,(dK x).2.2]:List Zt) ([(dT a1 (W (1*2 ^ (min (tN a2) 64))))]:List Zt)) (W (1*2 ^ (min (tN a2) 64)))).2)]) [],.call [] (.t [(.a (k2 (vA (dU (dK x) (dT a1 (W (1*2 ^ (min (tN a2) 64))))) (W (1*2 ^ (min (tN a2) 64)))).1)),(iv (vA (dU (dK x) (dT a1 (W (1*2 ^ (min (tN a2) 64))))) (W (1*2 ^ (min (tN a2) 64)))).2)]) []]) [] [] [] hcx' (s':=⟨List.replicate 69 .u,[(.live true false [(.v (.func (.func 79) #[] #[]))]),(.live true false [(iv 0),(iv 0)]),(.live true false [(iv 0)]),(.live true false [(iv (W (1*2 ^ (min (tN a2) 64))))]),(.live true false [(.s 9 0 1 3)]),(.live true false [(iv (W (v1+(vA (gH ([(dK x).1,(dK x).2.1,(dK x).2.2]:List Zt) ([(dT a1 (W (1*2 ^ (min (tN a2) 64))))]:List Zt)) (W (1*2 ^ (min (tN a2) 64)))).1.1)))]),(.live true false [(iv (W (v2+(vA (dU (dK x) (dT a1 (W (1*2 ^ (min (tN a2) 64))))) (W (1*2 ^ (min (tN a2) 64)))).1.2)))]),(.live true false (k9 a0)),(.live true false [(iv a2)]),(.live true false (k3 (dT a1 (W (1*2 ^ (min (tN a2) 64))))))]⟩)
   (obs:=[.call 129 [(.a (k9 x))] [] (.a (k9 (dK x))) [],.call 130 [(.s 0 0 3 3),(.s 1 0 1 3)] [(.live false false (k9 (dK x))),(.live false false (k3 (dT a1 (W (1*2 ^ (min (tN a2) 64))))))] (iv (dU (dK x) (dT a1 (W (1*2 ^ (min (tN a2) 64)))))) [],.eq (((dU (dK x) (dT a1 (W (1*2 ^ (min (tN a2) 64))))):Int) == 0) false,.call 131 [(.s 0 0 3 3),(.s 1 0 1 3)] [(.live false false (k9 (dK x))),(.live false false (k3 (dT a1 (W (1*2 ^ (min (tN a2) 64))))))] (iv (gH ([(dK x).1,(dK x).2.1,(dK x).2.2]:List Zt) ([(dT a1 (W (1*2 ^ (min (tN a2) 64))))]:List Zt))) [],.call 79 [(iv (gH ([(dK x).1,(dK x).2.1,(dK x).2.2]:List Zt) ([(dT a1 (W (1*2 ^ (min (tN a2) 64))))]:List Zt))),(iv (W (1*2 ^ (min (tN a2) 64))))] [] (.t [(.a (k2 (vA (gH ([(dK x).1,(dK x).2.1,(dK x).2.2]:List Zt) ([(dT a1 (W (1*2 ^ (min (tN a2) 64))))]:List Zt)) (W (1*2 ^ (min (tN a2) 64)))).1)),(iv (vA (gH ([(dK x).1,(dK x).2.1,(dK x).2.2]:List Zt) ([(dT a1 (W (1*2 ^ (min (tN a2) 64))))]:List Zt)) (W (1*2 ^ (min (tN a2) 64)))).2)]) [],.call 79 [(iv (dU (dK x) (dT a1 (W (1*2 ^ (min (tN a2) 64)))))),(iv (W (1*2 ^ (min (tN a2) 64))))] [] (.t [(.a (k2 (vA (dU (dK x) (dT a1 (W (1*2 ^ (min (tN a2) 64))))) (W (1*2 ^ (min (tN a2) 64)))).1)),(iv (vA (dU (dK x) (dT a1 (W (1*2 ^ (min (tN a2) 64))))) (W (1*2 ^ (min (tN a2) 64)))).2)]) []]) oK ⟨(bBs x),(aJz (dK x) (dT a1 (W (1*2 ^ (min (tN a2) 64))))),h0,(Con.flags (bs':=[(.live false false (k9 (dK x))),(.live false false (k3 (dT a1 (W (1*2 ^ (min (tN a2) 64))))))]) (aRi ([(dK x).1,(dK x).2.1,(dK x).2.2]:List Zt) ([(dT a1 (W (1*2 ^ (min (tN a2) 64))))]:List Zt) (by(try simp only [Lt]);omega) (by(try simp only [Lt]);omega)) rfl ⟨jA (fun _=>rfl),jA (fun _=>rfl),trivial⟩),(C79 (gH ([(dK x).1,(dK x).2.1,(dK x).2.2]:List Zt) ([(dT a1 (W (1*2 ^ (min (tN a2) 64))))]:List Zt)) (W (1*2 ^ (min (tN a2) 64)))),(C79 (dU (dK x) (dT a1 (W (1*2 ^ (min (tN a2) 64))))) (W (1*2 ^ (min (tN a2) 64)))),trivial⟩ ?_
  exact hb1 _ e trivial
 ·rw [hv];show Aw.Good _ _ _ _ _ _ _ (aDk a0 a1 a2 (v1,v2));have e:aAw (aBs a0 a1 a2) (Sum.inl (v1,v2))=((aJ2 v1 v2 (W (1*2 ^ (min (tN (W (2*a2))) 64)))),0):=by simp only [aAw,aBs]
  rw [e];exact aU8 (T:=T0) hT hm (f:=5000) (orc:=[.call [] (.a (k2 (aJ2 v1 v2 (W (1*2 ^ (min (tN (W (2*a2))) 64)))))) []]) [] [] [] hh hcx
   (obs:=[.pr (0<=((W (2*a2)):Int)),.call 132 [(iv v1),(iv v2),(iv (W (1*2 ^ (min (tN (W (2*a2))) 64))))] [] (.a (k2 (aJ2 v1 v2 (W (1*2 ^ (min (tN (W (2*a2))) 64)))))) []]) oK ⟨(show 0<=((W (2*a2)):Int) from by first | omega | (rw [aH]<;>omega) | exact dZ _),(bEi v1 v2 (W (1*2 ^ (min (tN (W (2*a2))) 64)))),trivial⟩
 ·rw [hv];exact aU9 (T:=T0) hT [] [] [] (s':=⟨[.u,.u,(iv a2),.u,.u,.u,.u,(.p 0 0),(.p 1 0),(.p 2 0),(.p 3 0),(.p 4 0),(.p 5 0),(.p 6 0),.u,.u,.u,.u,.u,.u,.u,.u,.u,.u,.u,.u,.u,.u,.u,(.f 165 [(.p 7 0),(.p 8 0)]),.u,.u,.u,.u,.u,.u,.u,.u,.u,.u,.u,.u,.u,.u,.u,.u,.u,.u,.u,.u,.u,.u,.u,.u,.u,.u,.u,.u,.u,.u,.u,.u,.u,.u,.u,.u,.u,.u,.u],(aAb a0 a1 a2 r).bk⟩) rfl hh hcx oK
def aMg (a0 a1:Int):Zs×Int := (bif (!(F71 a0 1 1099511627776))then((0,0),1)else(bif (!(F71 a1 1 8))then((0,0),1)else(bif (decide ((a0:Int) > 1048576))then((F72 0 1).1,(F72 0 1).2)else((aHc (W ((W ((W (1048576*(W ((W (a1*a1))*a1))))*1048576))*(W ((W (a1*a1))*a1)))) (W ((W (a0*a0))*a0))).1,(aHc (W ((W ((W (1048576*(W ((W (a1*a1))*a1))))*1048576))*(W ((W (a1*a1))*a1)))) (W ((W (a0*a0))*a0))).2))))
theorem bBt (a0 a1:Int):Con Tryz.prog 115 [(iv a0),(iv a1)] [] (.t [(.a (k2 (aMg a0 a1).1)),(iv (aMg a0 a1).2)]) []:=by
 refine cS Tryz.func115 fun cx hcx=>?_
 let t0:SL:=[.c [] (C71 a0 1 1099511627776)];rw [aMg];cases h0:(!(F71 a0 1 1099511627776))
 case true=>exact rT (t0++[.d h0]) hcx
 let t1:SL:=t0++[.d h0,.c [] (C71 a1 1 8)];cases h1:(!(F71 a1 1 8))
 case true=>exact rT (t1++[.d h1]) hcx
 let t2:SL:=t1++[.d h1];cases h2:(decide ((a0:Int) > 1048576))
 case true=>exact rT (t2++[.d h2,.c [] (C72 0 1)]) hcx
 have q2:=iF h2;exact rT (t2++[.d h2,.c [] (bBk (W ((W ((W (1048576*(W ((W (a1*a1))*a1))))*1048576))*(W ((W (a1*a1))*a1)))) (W ((W (a0*a0))*a0))  (aVj (aYx h0) oM))]) hcx
def aMh (a0 a1:Int):Int := (bif (decide (((mD a0 a1):Int) < 0))then(W ((W (tD a0 a1)) - 1))else(W (tD a0 a1)))
theorem bBu (a0 a1:Int)(ha:a1≠0):Con Tryz.prog 116 [(iv a0),(iv a1)] [] (iv (aMh a0 a1)) []:=by
 refine cS Tryz.func116 fun cx hcx=>?_
 let t0:SL:=[.p (show(a1:Int)≠0 from by first | omega | (rw [aH]<;>omega) | exact dZ _),.p (show(a1:Int)≠0 from by first | omega | (rw [aH]<;>omega) | exact dZ _)];rw [aMh];cases h0:(decide (((mD a0 a1):Int) < 0))
 case true=>exact rT (t0++[.d h0]) hcx
 exact rT (t0++[.d h0]) hcx
def aRz (a0 a1:Int):Int := (W (0 - (aMh (W (0 - a0)) a1)))
theorem bEj (a0 a1:Int)(ha:a1≠0):Con Tryz.prog 117 [(iv a0),(iv a1)] [] (iv (aRz a0 a1)) []:=by
 refine cS Tryz.func117 fun cx hcx=>?_
 exact rT [.c [] (bBu (W (0 - a0)) a1  oM)] hcx
noncomputable def aJ4:=aU [1,1,1,1,1,0,1] [] (aV Tryz.f70) []
def aHj (a0:Zt×Zt×Zt)(a1:Zt)(a2:Int)(a3:Bool)(v1 v2 v3:Int):LS:=⟨gU 98 [(3,(.v (.bool a3))),(8,(.p 0 0)),(10,(iv (W (1*2 ^ (min (tN (iW .u64 a2)) 64))))),(11,(.s 1 0 (gI a0 a2).length 9)),(12,(.s 2 0 1 3)),(13,(iv v1)),(14,(iv v2)),(15,(iv v3))],[(.live true false [(iv 0),(iv 0)]),(.live true true (flat c68 (gI a0 a2))),(.live true false (k3 (aQ a1 (W (1*2 ^ (min (tN (iW .u64 a2)) 64))))))]⟩
def pH (a0:Zt×Zt×Zt)(a1:Zt)(a2:Int)(a3:Bool):Zt->Zt⊕(Zs×Int) | (v1,v2,v3) => (bif (decide ((v3:Int) < (((gI a0 a2).length:Nat):Int)))then(bif (((mY ((gI a0 a2).getD (tN v3) dF) (aQ a1 (W (1*2 ^ (min (tN (iW .u64 a2)) 64))))):Int) == 0)then(.inr ((0,0),10))else(bif a3 then(.inl ((W (v1+(aMg (pQ ((gI a0 a2).getD (tN v3) dF) ([(aQ a1 (W (1*2 ^ (min (tN (iW .u64 a2)) 64))))]:List Zt)) (W (1*2 ^ (min (tN (iW .u64 a2)) 64)))).1.1)),(W (v2+(aMg (mY ((gI a0 a2).getD (tN v3) dF) (aQ a1 (W (1*2 ^ (min (tN (iW .u64 a2)) 64))))) (W (1*2 ^ (min (tN (iW .u64 a2)) 64)))).1.2)),(v3+1)))else(.inl ((W (v1+(oC (pQ ((gI a0 a2).getD (tN v3) dF) ([(aQ a1 (W (1*2 ^ (min (tN (iW .u64 a2)) 64))))]:List Zt)) (W (1*2 ^ (min (tN (iW .u64 a2)) 64)))).1.1)),(W (v2+(oC (mY ((gI a0 a2).getD (tN v3) dF) (aQ a1 (W (1*2 ^ (min (tN (iW .u64 a2)) 64))))) (W (1*2 ^ (min (tN (iW .u64 a2)) 64)))).1.2)),(v3+1)))))else(.inr (((aMh v1 (((gI a0 a2).length:Nat):Int)),(aRz v2 (((gI a0 a2).length:Nat):Int))),0)))
theorem bBv (a0:Zt×Zt×Zt)(a1:Zt)(a2:Int)(a3:Bool)(ha:0<=a2/\a2<=3) {cx:Cx} (hcx:cx.base=0):∀(n:Nat) (v1 v2 v3:Int),0<=v3->tN ((((gI a0 a2).length:Nat):Int) - v3) < n->gG Tryz.f70 cx (.t [(.a (k2 (aG (pH a0 a1 a2 a3) n (v1,v2,v3)).1)),(iv (aG (pH a0 a1 a2 a3) n (v1,v2,v3)).2)]) [] [] (.l aJ4.1 n::aJ4.2) (aHj a0 a1 a2 a3 v1 v2 v3):=by
 intro n
 induction n with|zero=>intro v1 v2 v3 hi hn;exact absurd hn (dX _)|succ n ih=>?_
 intro v1 v2 v3 hi hn;refine aN ?_;have hcl:=aY8 (p:=a0) ha;cases h0:(decide ((v3:Int) < (((gI a0 a2).length:Nat):Int)))
 case true=>
  have q0:=eS h0;let t1:SL:=[.d h0,.i v3 ((gI a0 a2).length),.L rK (gI a0 a2) v3 0 9,.c [2] (aY5 ((gI a0 a2).getD (tN v3) dF) (aQ a1 (W (1*2 ^ (min (tN (iW .u64 a2)) 64)))))];cases h1:(((mY ((gI a0 a2).getD (tN v3) dF) (aQ a1 (W (1*2 ^ (min (tN (iW .u64 a2)) 64))))):Int) == 0)
  case true=>have e:=Eq.refl (pH a0 a1 a2 a3 (v1,v2,v3));(conv at e=>rhs;simp only [pH,h0,h1,vF]);rw [aZ,e];exact rT (t1++[.d h1]) hcx
  have q1:=ne_of_beq_false h1;let t2:SL:=t1++[.d h1,.i v3 ((gI a0 a2).length),.L rK (gI a0 a2) v3 0 9,.c [2] (Con.flags (bs':=[(.live false false (k3 (aQ a1 (W (1*2 ^ (min (tN (iW .u64 a2)) 64))))))]) (aRn ((gI a0 a2).getD (tN v3) dF) ([(aQ a1 (W (1*2 ^ (min (tN (iW .u64 a2)) 64))))]:List Zt) (by(try simp only [Lt]);omega)) rfl ⟨jA (fun _=>rfl),trivial⟩),.c [] (aYz (pQ ((gI a0 a2).getD (tN v3) dF) ([(aQ a1 (W (1*2 ^ (min (tN (iW .u64 a2)) 64))))]:List Zt)) (W (1*2 ^ (min (tN (iW .u64 a2)) 64)))),.c [] (aYz (mY ((gI a0 a2).getD (tN v3) dF) (aQ a1 (W (1*2 ^ (min (tN (iW .u64 a2)) 64))))) (W (1*2 ^ (min (tN (iW .u64 a2)) 64))))];rcases aG7 a3 with h2 | h2
  ·skip
   have e:=Eq.refl (pH a0 a1 a2 a3 (v1,v2,v3));(conv at e=>rhs;simp only [pH,h0,h1,h2,vF]);rw [aK e];refine bA n (t2++[.d h2,.i v3 ((gI a0 a2).length),.L rK (gI a0 a2) v3 0 9,.c [2] (Con.flags (bs':=[(.live false false (k3 (aQ a1 (W (1*2 ^ (min (tN (iW .u64 a2)) 64))))))]) (aRn ((gI a0 a2).getD (tN v3) dF) ([(aQ a1 (W (1*2 ^ (min (tN (iW .u64 a2)) 64))))]:List Zt) (by(try simp only [Lt]);omega)) rfl ⟨jA (fun _=>rfl),trivial⟩),.c [] (bBt (pQ ((gI a0 a2).getD (tN v3) dF) ([(aQ a1 (W (1*2 ^ (min (tN (iW .u64 a2)) 64))))]:List Zt)) (W (1*2 ^ (min (tN (iW .u64 a2)) 64)))),.c [] (bBt (mY ((gI a0 a2).getD (tN v3) dF) (aQ a1 (W (1*2 ^ (min (tN (iW .u64 a2)) 64))))) (W (1*2 ^ (min (tN (iW .u64 a2)) 64))))]) [3,8,10,11,12,13,14,15] [0,1,2] hcx aJ4 (aHj a0 a1 a2 a3 (W (v1+(aMg (pQ ((gI a0 a2).getD (tN v3) dF) ([(aQ a1 (W (1*2 ^ (min (tN (iW .u64 a2)) 64))))]:List Zt)) (W (1*2 ^ (min (tN (iW .u64 a2)) 64)))).1.1)) (W (v2+(aMg (mY ((gI a0 a2).getD (tN v3) dF) (aQ a1 (W (1*2 ^ (min (tN (iW .u64 a2)) 64))))) (W (1*2 ^ (min (tN (iW .u64 a2)) 64)))).1.2)) (W (v3+1))) ?_;have z0:(W (v3+1))=(v3+1):=aH oM oM;rw [z0];exact ih _ _ _ oM oM
  ·skip
   have e:=Eq.refl (pH a0 a1 a2 a3 (v1,v2,v3));(conv at e=>rhs;simp only [pH,h0,h1,h2,vF]);rw [aK e];refine bA n (t2++[.d h2]) [3,8,10,11,12,13,14,15] [0,1,2] hcx aJ4 (aHj a0 a1 a2 a3 (W (v1+(oC (pQ ((gI a0 a2).getD (tN v3) dF) ([(aQ a1 (W (1*2 ^ (min (tN (iW .u64 a2)) 64))))]:List Zt)) (W (1*2 ^ (min (tN (iW .u64 a2)) 64)))).1.1)) (W (v2+(oC (mY ((gI a0 a2).getD (tN v3) dF) (aQ a1 (W (1*2 ^ (min (tN (iW .u64 a2)) 64))))) (W (1*2 ^ (min (tN (iW .u64 a2)) 64)))).1.2)) (W (v3+1))) ?_;have z0:(W (v3+1))=(v3+1):=aH oM oM;rw [z0];exact ih _ _ _ oM oM
 have e:=Eq.refl (pH a0 a1 a2 a3 (v1,v2,v3));(conv at e=>rhs;simp only [pH,h0,vF]);rw [aZ,e];exact rT [.d h0,.c [] (bBu v1 (((gI a0 a2).length:Nat):Int)  (aRt oM)),.c [] (bEj v2 (((gI a0 a2).length:Nat):Int)  (aRt oM))] hcx
def F70 (a0:Zt×Zt×Zt)(a1:Zt)(a2:Int)(a3:Bool):Zs×Int := (aG (pH a0 a1 a2 a3) (tN ((((gI a0 a2).length:Nat):Int) - 0)+1) (0,0,0))
theorem C70 (a0:Zt×Zt×Zt)(a1:Zt)(a2:Int)(a3:Bool)(ha:0<=a2/\a2<=3):Con Tryz.prog 70 [(.a (k9 a0)),(.a (k3 a1)),(iv a2),(.v (.bool a3))] [] (.t [(.a (k2 (F70 a0 a1 a2 a3).1)),(iv (F70 a0 a1 a2 a3).2)]) []:=by
 refine cS Tryz.func70 fun cx hcx=>?_
 refine eN [.p (show 0<=((iW .u64 a2):Int) from by first | omega | (rw [aH]<;>omega) | exact dZ _),.c [] (bEf a0 a2  oM),.c [] (aVk a1 (W (1*2 ^ (min (tN (iW .u64 a2)) 64))))] [3,8,10,11,12,13,14,15] [2,3,4] hcx aJ4 (aHj a0 a1 a2 a3 0 0 0) (tN ((((gI a0 a2).length:Nat):Int) - 0)+1) ?_;exact bBv a0 a1 a2 a3 ha hcx (tN ((((gI a0 a2).length:Nat):Int) - 0)+1) 0 0 0 oM oM
def mx (a b:Int):Int:=if a < b then b else a
theorem aJ5 {a b c:Int} (h:a<=c)(h':b<=c):mx a b<=c:=by unfold mx;split<;>assumption
theorem wR (a b:Int):a<=mx a b:=by unfold mx;split<;>omega
theorem aY9 (a b:Int):b<=mx a b:=by unfold mx;split<;>omega
def ds (p q:P3):Int:=dt (sb p q) (sb p q)
def fF (p q:P3):Int:=aE9 (wJ p q) (wJ p q)
theorem aR0 {p q:P3} (hp:bd 5000 p)(hq:bd 5000 q):fF p q=ds p q:=by
 unfold fF ds;rw [fsb (hp.mono oM) (hq.mono oM)];exact fdt ((yC hp hq).mono oM) ((yC hp hq).mono oM)
def rF (p q:P3):Int:=hZ (bZ p q) (bZ p q)
theorem aR1 {p q:P3} (hp:bd 5000 p)(hq:bd 5000 q):rF p q=ds p q:=by
 unfold rF ds;rw [rsb (hp.mono oM) (hq.mono oM)];exact rdt ((yC hp hq).mono oM) ((yC hp hq).mono oM)
theorem bBw (c:PN)(x:P3):gH [c.1,c.2.1,c.2.2] [x]=mx (mx (mx 0 (fF c.1 x)) (fF c.2.1 x)) (fF c.2.2 x):=by
 rfl
theorem aP0 (c:PN)(l:List P3)(v:Int)(i:Nat)(h:i < l.length) :
 oD c l (v,(i:Int))=.inl (mx (mx (mx v (rF c.1 (l.getD i dF))) (rF c.2.1 (l.getD i dF))) (rF c.2.2 (l.getD i dF)),((i+1:Nat):Int)):=by
 have h0:decide ((i:Int) < (l.length:Int))=true:=by simpa using h
 simp only [oD,h0,cond_true,iB];have key:∀q:P3,(bif decide (rF c.1 q > v) then bif decide (rF c.2.1 q > rF c.1 q) then bif decide (rF c.2.2 q > rF c.2.1 q) then Sum.inl (rF c.2.2 q,(i:Int)+1) else Sum.inl (rF c.2.1 q,(i:Int)+1) else bif decide (rF c.2.2 q > rF c.1 q) then Sum.inl (rF c.2.2 q,(i:Int)+1) else Sum.inl (rF c.1 q,(i:Int)+1)
  else bif decide (rF c.2.1 q > v) then bif decide (rF c.2.2 q > rF c.2.1 q) then Sum.inl (rF c.2.2 q,(i:Int)+1) else Sum.inl (rF c.2.1 q,(i:Int)+1) else bif decide (rF c.2.2 q > v) then Sum.inl (rF c.2.2 q,(i:Int)+1) else Sum.inl (v,(i:Int)+1))
  = (Sum.inl (mx (mx (mx v (rF c.1 q)) (rF c.2.1 q)) (rF c.2.2 q),((i:Int)+1)):Zs⊕Int):=by
  intro q;generalize rF c.1 q=a1;generalize rF c.2.1 q=a2;generalize rF c.2.2 q=a3;unfold mx;by_cases h1:a1 > v
  ·rw [bX h1,cond_true,if_pos h1];by_cases h2:a2 > a1
   ·rw [bX h2,cond_true,if_pos h2];by_cases h3:a3 > a2
    ·rw [bX h3,cond_true,if_pos h3]
    ·rw [cA h3,cond_false,if_neg h3]
   ·rw [cA h2,cond_false,if_neg h2];by_cases h3:a3 > a1
    ·rw [bX h3,cond_true,if_pos h3]
    ·rw [cA h3,cond_false,if_neg h3]
  ·rw [cA h1,cond_false,if_neg h1];by_cases h2:a2 > v
   ·rw [bX h2,cond_true,if_pos h2];by_cases h3:a3 > a2
    ·rw [bX h3,cond_true,if_pos h3]
    ·rw [cA h3,cond_false,if_neg h3]
   ·rw [cA h2,cond_false,if_neg h2];by_cases h3:a3 > v
    ·rw [bX h3,cond_true,if_pos h3]
    ·rw [cA h3,cond_false,if_neg h3]
 exact key (l.getD i dF)
theorem aR2 (c:PN)(l:List P3)(v:Int):oD c l (v,(l.length:Int))=.inr v:=by
 have h0:decide ((l.length:Int) < (l.length:Int))=false:=by simp
 simp only [oD,h0,cond_false]
theorem bBx (c:PN)(x:P3):pQ c [x]=mx (mx (mx 0 (rF c.1 x)) (rF c.2.1 x)) (rF c.2.2 x):=by
 unfold pQ;have e0:=aP0 c [x] 0 0 (by simp);have e1:=aR2 c [x] (mx (mx (mx 0 (rF c.1 x)) (rF c.2.1 x)) (rF c.2.2 x));rw [show tN ((([x]:List P3).length:Int) - 0)+1=2 from rfl,show((0,0):Zs)=(0,((0:Nat):Int)) from rfl,aK e0];exact aL e1
def lo3 (a b c:Int):Int:=if c < (if b < (if a < a then a else a) then b else(if a < a then a else a)) then c else(if b < (if a < a then a else a) then b else(if a < a then a else a))
def hi3 (a b c:Int):Int:=if(if(if a < a then a else a) < b then b else(if a < a then a else a)) < c then c else(if(if a < a then a else a) < b then b else(if a < a then a else a))
theorem aMi (a b c:Int):lo3 a b c<=a/\lo3 a b c<=b/\lo3 a b c<=c:=by
 unfold lo3;simp only [Int.lt_irrefl,if_false];split<;>split at *<;>omega
theorem aMj (a b c:Int):a<=hi3 a b c/\b<=hi3 a b c/\c<=hi3 a b c:=by
 unfold hi3;simp only [Int.lt_irrefl,if_false];split<;>split at *<;>omega
theorem aMk (a b c:Int):lo3 a b c=a\/lo3 a b c=b\/lo3 a b c=c:=by
 unfold lo3;simp only [Int.lt_irrefl,if_false];split<;>split at *<;>omega
theorem aMl (a b c:Int):hi3 a b c=a\/hi3 a b c=b\/hi3 a b c=c:=by
 unfold hi3;simp only [Int.lt_irrefl,if_false];split<;>split at *<;>omega
def gp (a b c d:Int):Int:=mx (mx 0 (c - b)) (a - d)
theorem aW8 (a b c d:Int):0<=gp a b c d:=Int.le_trans (wR 0 _) (wR _ _)
theorem aVu (a b c d:Int):gp c d a b=gp a b c d:=by unfold gp mx;repeat' split<;>omega
def nr (a b c d:P3):Int:=gp a.1 b.1 c.1 d.1*gp a.1 b.1 c.1 d.1+gp a.2.1 b.2.1 c.2.1 d.2.1*gp a.2.1 b.2.1 c.2.1 d.2.1+gp a.2.2 b.2.2 c.2.2 d.2.2*gp a.2.2 b.2.2 c.2.2 d.2.2
def blo (c:PN):P3:=(lo3 c.1.1 c.2.1.1 c.2.2.1,lo3 c.1.2.1 c.2.1.2.1 c.2.2.2.1,lo3 c.1.2.2 c.2.1.2.2 c.2.2.2.2)
def bhi (c:PN):P3:=(hi3 c.1.1 c.2.1.1 c.2.2.1,hi3 c.1.2.1 c.2.1.2.1 c.2.2.2.1,hi3 c.1.2.2 c.2.1.2.2 c.2.2.2.2)
theorem aR3 {m:Int} {c:PN} (h:bdP m c):bd m (blo c):=by
 have h1:=aMk c.1.1 c.2.1.1 c.2.2.1;have h2:=aMk c.1.2.1 c.2.1.2.1 c.2.2.2.1;have h3:=aMk c.1.2.2 c.2.1.2.2 c.2.2.2.2;have ha:=h.1;have hb:=h.2.1;have hc:=h.2.2;unfold bd at *;simp only [blo];omega
theorem aR4 {m:Int} {c:PN} (h:bdP m c):bd m (bhi c):=by
 have h1:=aMl c.1.1 c.2.1.1 c.2.2.1;have h2:=aMl c.1.2.1 c.2.1.2.1 c.2.2.2.1;have h3:=aMl c.1.2.2 c.2.1.2.2 c.2.2.2.2;have ha:=h.1;have hb:=h.2.1;have hc:=h.2.2;unfold bd at *;simp only [bhi];omega
theorem bEk (c:PN):dL c=(blo c,bhi c):=rfl
theorem bEl (x:P3):dJ x=(x,x):=by
 have key:∀a:Int,(if a < a then a else a)=a:=fun a=>by split<;>rfl
 unfold dJ;simp only [key]
theorem aR5 {a b c d:Int} (ha:-5000<=a/\a<=5000)(hb:-5000<=b/\b<=5000)(hc:-5000<=c/\c<=5000)(hd:-5000<=d/\d<=5000):pP a b c d=gp a b c d:=by
 unfold pP;rw [aH (n:=c - b) oM oM,aH (n:=a - d) oM oM];rfl
theorem aDl {a b c d:Int} (ha:-5000<=a/\a<=5000)(hb:-5000<=b/\b<=5000)(hc:-5000<=c/\c<=5000)(hd:-5000<=d/\d<=5000):0<=gp a b c d/\gp a b c d<=10000 :=
 ⟨aW8 _ _ _ _,aJ5 (aJ5 oM oM) oM⟩
theorem nrF {a b c d:P3} (ha:bd 5000 a)(hb:bd 5000 b)(hc:bd 5000 c)(hd:bd 5000 d) :
 aE9 (pP a.1 b.1 c.1 d.1,pP a.2.1 b.2.1 c.2.1 d.2.1,pP a.2.2 b.2.2 c.2.2 d.2.2) (pP a.1 b.1 c.1 d.1,pP a.2.1 b.2.1 c.2.1 d.2.1,pP a.2.2 b.2.2 c.2.2 d.2.2)=nr a b c d:=by
 rw [aR5 ha.1 hb.1 hc.1 hd.1,aR5 ha.2.1 hb.2.1 hc.2.1 hd.2.1,aR5 ha.2.2 hb.2.2 hc.2.2 hd.2.2];have h1:=aDl ha.1 hb.1 hc.1 hd.1;have h2:=aDl ha.2.1 hb.2.1 hc.2.1 hd.2.1;have h3:=aDl ha.2.2 hb.2.2 hc.2.2 hd.2.2;have hv:bd 1000000000 (gp a.1 b.1 c.1 d.1,gp a.2.1 b.2.1 c.2.1 d.2.1,gp a.2.2 b.2.2 c.2.2 d.2.2):=by unfold bd;simp only;omega
 rw [fdt hv hv];rfl
theorem aZa {c:PN} {x:P3} (hc:bdP 5000 c)(hx:bd 5000 x):dU c x=nr (blo c) (bhi c) x x:=by
 unfold dU;rw [bEk,bEl];exact nrF (aR3 hc) (aR4 hc) hx hx
theorem aHk (a b c:Int):eH [a,b,c]=(lo3 a b c,hi3 a b c):=rfl
theorem aHl (a:Int):eH [a]=(a,a):=by
 have key:∀a:Int,(if a < a then a else a)=a:=fun a=>by split<;>rfl
 show((if a < a then a else a),(if a < a then a else a))=_;rw [key]
theorem aR6 {l m:ZL} {a b c d:Int} (hl:eH l=(a,b))(hm:eH m=(c,d))(ha:-5000<=a/\a<=5000)(hb:-5000<=b/\b<=5000)(hc:-5000<=c/\c<=5000)(hd:-5000<=d/\d<=5000) :
 kP l m=gp a b c d*gp a b c d:=by
 unfold kP;rw [hl,hm];simp only;rw [aH (n:=a - d) oM oM,aH (n:=c - b) oM oM];have e:(if((if(0:Int) < a - d then a - d else 0):Int) < c - b then c - b else(if(0:Int) < a - d then a - d else 0))=gp a b c d:=aVu a b c d;rw [e];have h1:=aDl ha hb hc hd;have h2:=dM (a:=10000) (b:=10000) (x:=gp a b c d) (y:=gp a b c d) oM oM;exact aH oM oM
theorem bEm {a b c:Int} (ha:0<=a/\a<=100000000)(hb:0<=b/\b<=100000000)(hc:0<=c/\c<=100000000):W ((W (a+b))+c)=a+b+c:=by
 rw [aH (n:=a+b) oM oM,aH oM oM]
theorem aZb {c:PN} {x:P3} (hc:bdP 5000 c)(hx:bd 5000 x):mY c x=nr (blo c) (bhi c) x x:=by
 unfold mY;have hl:=aR3 hc;have hh:=aR4 hc;have g1:=aR6 (l:=jC c 0) (m:=jD x 0) (aHk c.1.1 c.2.1.1 c.2.2.1) (aHl x.1) hl.1 hh.1 hx.1 hx.1;have g2:=aR6 (l:=jC c 1) (m:=jD x 1) (aHk c.1.2.1 c.2.1.2.1 c.2.2.2.1) (aHl x.2.1) hl.2.1 hh.2.1 hx.2.1 hx.2.1;have g3:=aR6 (l:=jC c 2) (m:=jD x 2) (aHk c.1.2.2 c.2.1.2.2 c.2.2.2.2) (aHl x.2.2) hl.2.2 hh.2.2 hx.2.2 hx.2.2;have b1:=aDl hl.1 hh.1 hx.1 hx.1;have b2:=aDl hl.2.1 hh.2.1 hx.2.1 hx.2.1;have b3:=aDl hl.2.2 hh.2.2 hx.2.2 hx.2.2;have m1:=dM (a:=10000) (b:=10000) oM oM (x:=gp (blo c).1 (bhi c).1 x.1 x.1) (y:=gp (blo c).1 (bhi c).1 x.1 x.1);have m2:=dM (a:=10000) (b:=10000) oM oM (x:=gp (blo c).2.1 (bhi c).2.1 x.2.1 x.2.1) (y:=gp (blo c).2.1 (bhi c).2.1 x.2.1 x.2.1);have m3:=dM (a:=10000) (b:=10000) oM oM (x:=gp (blo c).2.2 (bhi c).2.2 x.2.2 x.2.2) (y:=gp (blo c).2.2 (bhi c).2.2 x.2.2 x.2.2);refine(show _=_ from ?_);rw [show kP (jC c 0) (jD x 0)=_ from g1,show kP (jC c 1) (jD x 1)=_ from g2,show kP (jC c 2) (jD x 2)=_ from g3];exact bEm ⟨qR _,by have:=m1.2;exact this⟩ ⟨qR _,by have:=m2.2;exact this⟩ ⟨qR _,by have:=m3.2;exact this⟩
open Classical in
theorem aZc (x:P3):F40 x=decide (bd 256 x):=by
 unfold F40;rw [qS,qS,qS];exact aVo (by unfold bd;omega)
open Classical in
theorem aZd (x:P3):aPx x=decide (bd 256 x):=by
 unfold aPx;rw [rM,rM,rM];exact aVo (by unfold bd;omega)
open Classical in
noncomputable def ck (p:PN)(x:P3)(d:Int):Int:=if vp p=0 then(if bd 256 x/\(0<=d/\d<=3) then 0 else 1) else vp p
open Classical in
theorem aR7 (v:Int)(a b:Prop) [Decidable a] [Decidable b]:(bif (v != 0) then v else(bif (!(decide a)) then 1 else(bif (!(decide b)) then(1:Int) else 0)))=if v=0 then(if a/\b then 0 else 1) else v:=by
 by_cases hv:v=0
 ·subst hv;by_cases ha:a<;>by_cases hb:b<;>simp [ha,hb]
 ·rw [bne_iff_ne.2 hv,cond_true,if_neg hv]
open Classical in
theorem aR8 (p:PN)(x:P3)(d:Int):F77 p x d=ck p x d:=by
 unfold F77 ck;rw [aVp,aZc,qS];exact aR7 _ _ _
open Classical in
theorem aR9 (p:PN)(x:P3)(d:Int):F69 p x d=ck p x d:=by
 unfold F69 ck;rw [bBr,aZd,rM];exact aR7 _ _ _
theorem aJ6 {p:PN} {x:P3} {d:Int} (h:ck p x d=0):vp p=0/\bd 256 x/\0<=d/\d<=3:=by
 unfold ck at h;split at h
 ·rename_i h0;split at h
  ·rename_i h1;exact⟨h0,h1⟩
  ·cases h
 ·rename_i h0;exact absurd h h0
theorem aZe {p:PN} {x:P3} {d:Int} (h:((F77 p x d:Int) != 0)=false):vp p=0/\bd 256 x/\0<=d/\d<=3 :=
 aJ6 (by rw [←aR8];simpa using h)
theorem aZf {p:PN} {x:P3} {d:Int} (h:((F77 p x d:Int) != 0)=false):0<=d/\d<=3:=(aZe h).2.2
theorem aZg {p:PN} {x:P3} {d:Int} (h:((F69 p x d:Int) != 0)=false):0<=d/\d<=3 :=
 (aJ6 (p:=p) (x:=x) (by rw [←aR9];simpa using h)).2.2
def wS (a0:Zt×Zt×Zt)(a1:Zt)(a2:Int):Zs×Int := (bif (((F77 a0 a1 a2):Int) != 0)then((0,0),(F77 a0 a1 a2))else((pG a0 a1 a2).1,(pG a0 a1 a2).2))
theorem C42 (a0:Zt×Zt×Zt)(a1:Zt)(a2:Int):Con Tryz.prog 42 [(.a (k9 a0)),(.a (k3 a1)),(iv a2)] [] (.t [(.a (k2 (wS a0 a1 a2).1)),(iv (wS a0 a1 a2).2)]) []:=by
 refine cS Tryz.func42 fun cx hcx=>?_
 let t0:SL:=[.c [] (C77 a0 a1 a2)];rw [wS];cases h0:(((F77 a0 a1 a2):Int) != 0)
 case true=>exact rT (t0++[.d h0]) hcx
 exact rT (t0++[.d h0,.c [] (aVt a0 a1 a2  (aZf h0))]) hcx
def vO (a0:Zt×Zt×Zt)(a1:Zt)(a2:Int):Zs×Int := (bif (((F69 a0 a1 a2):Int) != 0)then((0,0),(F69 a0 a1 a2))else((F70 a0 a1 a2 false).1,(F70 a0 a1 a2 false).2))
theorem C35 (a0:Zt×Zt×Zt)(a1:Zt)(a2:Int):Con Tryz.prog 35 [(.a (k9 a0)),(.a (k3 a1)),(iv a2)] [] (.t [(.a (k2 (vO a0 a1 a2).1)),(iv (vO a0 a1 a2).2)]) []:=by
 refine cS Tryz.func35 fun cx hcx=>?_
 let t0:SL:=[.c [] (C69 a0 a1 a2)];rw [vO];cases h0:(((F69 a0 a1 a2):Int) != 0)
 case true=>exact rT (t0++[.d h0]) hcx
 exact rT (t0++[.d h0,.c [] (C70 a0 a1 a2 false  (aZg h0))]) hcx
end Go.Proofs.YtlffahoikfahlaaGreat
namespace Go.Proofs.YtlffahoikfahlaaGreat
open Go.Proofs Go.Aw Go.RowKit
set_option maxRecDepth 100000
theorem aJ7:∀(d:Nat) (p:PN),(eQ d p).length=4 ^ d
 | 0,p=>rfl
 | d+1,p=>by
  rw [lO];have:∀l:List PN,(l.flatMap aMf).length=4*l.length:=fun l=>by
   induction l with
   | nil=>rfl
   | cons x l ih=>rw [List.flatMap_cons,List.length_append,ih];show 4+_=_;simp only [List.length_cons];omega
  rw [this,aJ7 d p,Nat.pow_succ];omega
open Go.ChangeShapes Go.WideShapes Go.ChangeAt
def aJ8 (P:Program)(ok:TypeId->Bool)(n:Nat):List Field->Nat->Bool | [],o=>o == n | f::l,o=>f.offset == o&&ok f.type&&aJ8 P ok n l (o+P.cellsOf f.type)
def aDm (P:Program):Nat->TypeId->Bool
 | 0,_=>false
 | k+1,t=>match P.underlying t with
  | some (.int .i64)=>true
  | some (.struct fs)=>aJ8 P (aDm P k) (P.cellsOf t) fs.toList 0
  | some (.array n e)=>aDm P k e&&P.cellsOf t == n*P.cellsOf e
  | _=>false
section
variable {H : Type} {enc : TypeId × Value → H} {P : Program} {w : World} {base : Nat} {spare : Nat → Bool} {held : Bool}
theorem aGa {ok:TypeId->Bool} {n fuel:Nat} {cs:List Value}
 (hok:∀t cs x,ok t=true->DataW.trod enc P w base spare held fuel t cs=some x->x.2=[]/\∃ns:ZL,cs=ns.map (Value.int .i64)) (hn:cs.length=n) :
 ∀(l:List Field) (o:Nat) (ys:List (DataW H×List MemPlace)),aJ8 P ok n l o=true->ys.length=l.length ->
   (∀(j:Nat) (f:Field),l[j]? = some f->DataW.trod enc P w base spare held fuel f.type ((cs.drop f.offset).take (P.cellsOf f.type))=ys[j]?) ->
   (∀y∈ys,y.2=[])/\∃ns:ZL,cs.drop o=ns.map (Value.int .i64)
 | [],o,ys,hc,hl,_=>by
  have:ys=[]:=List.length_eq_zero_iff.1 hl;subst this;simp only [aJ8,beq_iff_eq] at hc;exact⟨fun y hy=>by simp at hy,[],by rw [hc,←hn,List.drop_length];rfl⟩
 | f::l,o,ys,hc,hl,hf=>by
  cases ys with
  | nil=>simp at hl
  | cons y ys =>
   simp only [aJ8,Bool.and_eq_true,beq_iff_eq] at hc;obtain⟨⟨h1,h2⟩,h3⟩:=hc;have g0:=hf 0 f rfl;rw [h1] at g0;obtain⟨e1,n1,e2⟩:=hok f.type _ y h2 g0;obtain⟨e3,n2,e4⟩:=aGa hok hn l _ ys h3 (by simpa using hl) (fun j g hg=>hf (j+1) g hg);refine⟨fun z hz=>?_,n1++n2,?_⟩
   ·rcases List.mem_cons.1 hz with rfl | hz
    ·exact e1
    ·exact e3 z hz
   ·rw [List.map_append,←e2,←e4,←List.drop_drop,List.take_append_drop]
theorem uL:∀(k:Nat) (t:TypeId) (fuel:Nat) (cs:List Value) (x:DataW H×List MemPlace),aDm P k t=true->DataW.trod enc P w base spare held fuel t cs=some x ->
 x.2=[]/\∃ns:ZL,cs=ns.map (Value.int .i64)
 | 0,_,_,_,_,h,_=>by simp [aDm] at h
 | k+1,t,fuel,cs,x,h,hx=>by
  unfold aDm at h;split at h
  ·rename_i ht;obtain⟨n,rfl,rfl,_⟩:=DataW.trod_int ht hx;exact⟨rfl,[n],rfl⟩
  ·rename_i fs ht;obtain⟨xs,m,rfl,rfl,hl,hlen,hf⟩:=DataW.trod_struct ht hx;obtain⟨e1,ns,e2⟩:=aGa (fun t cs x h hx=>uL k t m cs x h hx) hl fs.toList 0 xs h (by simpa using hlen) (fun j f hj=>hf j f (by simpa using hj));refine⟨?_,ns,by simpa using e2⟩;simp only
   induction xs with
   | nil=>rfl
   | cons y l _=>rw [List.flatMap_eq_nil_iff];exact e1
  ·rename_i n e ht;simp only [Bool.and_eq_true,beq_iff_eq] at h;obtain⟨xs,m,rfl,rfl,hl,hlen,hf⟩:=DataW.trod_array ht hx;have hi:∀i,i < n->∃y,xs[i]? = some y/\y.2=[]/\∃ns:ZL,(cs.drop (i*P.cellsOf e)).take (P.cellsOf e)=ns.map (Value.int .i64):=fun i hi=>by
    have h1:=hf i hi;have hil:i < xs.length:=by rw [hlen];exact hi
    rw [List.getElem?_eq_getElem hil] at h1;obtain⟨e1,e2⟩:=uL k e m _ _ h.1 h1;exact⟨_,List.getElem?_eq_getElem hil,e1,e2⟩
   refine⟨?_,?_⟩
   ·simp only;rw [List.flatMap_eq_nil_iff];intro y hy;obtain⟨i,hy⟩:=List.getElem?_of_mem hy;have hil:=(List.getElem?_eq_some_iff.1 hy).1;obtain⟨y',h1,h2,_⟩:=hi i (by rw [←hlen];exact hil);rw [h1] at hy;exact Option.some.inj hy▸h2
   ·have key:∀j,j<=n->∃ns:ZL,cs.drop ((n - j)*P.cellsOf e)=ns.map (Value.int .i64):=by
     intro j
     induction j with|zero=>intro _;exact⟨[],by rw [Nat.sub_zero,←h.2,←hl,List.drop_length];rfl⟩|succ j ih=>?_
     intro hj;obtain⟨n2,h2⟩:=ih oM;obtain⟨_,_,_,n1,h1⟩:=hi (n - (j+1)) oM;refine⟨n1++n2,?_⟩;rw [List.map_append,←h1,←h2,show(n - j)*P.cellsOf e=(n - (j+1))*P.cellsOf e+P.cellsOf e by rw [show n - j=(n - (j+1))+1 by omega,Nat.add_mul,Nat.one_mul],←List.drop_drop,List.take_append_drop]
    obtain⟨ns,hns⟩:=key n (Nat.le_refl _);exact⟨ns,by simpa using hns⟩
  ·cases h
theorem aP1 {r:Reach} {b0:Nat} {t:TypeId} {fs:Array Field} {v:Value} {d:DataW H} {ps:List MemPlace} (ht:P.underlying t=some (.struct fs))(hf:aDm P 6 t=true)
 (hval:Value.okWide P w r b0 t v) (hd:DataW.Trod enc P w base spare held t v d ps) :
 ps=[]/\∃ns:ZL,v=.agg (ns.map (Value.int .i64)).toArray/\ns.length=P.cellsOf t:=by
 obtain⟨cs,rfl,hs⟩:=okWide_struct ht hval;obtain⟨fuel,hx⟩:=hd;obtain⟨e1,ns,e2⟩:=uL 6 t fuel _ _ hf hx;have e3:cs=(ns.map (Value.int .i64)).toArray:=by
  have:cs.toList=ns.map (Value.int .i64):=by simpa [Value.cells] using e2
  rw [←this]
 refine⟨e1,ns,by rw [e3],?_⟩;rw [←hs,e3];simp
end
theorem aHm {ρ:Env}:∀ns:ZL,Rels ρ (ns.map iv) (ns.map (Value.int .i64))
 | []=>trivial
 | n::l=>⟨rfl,aHm l⟩
theorem aVv {ρ:Env} (ns:ZL):Rel ρ (.a (ns.map iv)) (.agg (ns.map (Value.int .i64)).toArray):=⟨_,rfl,aHm ns⟩
theorem aMm {H:Type} {enc:TypeId×Value->H} {P:Program} {f:Func} {s:ChangeSpec} {apart fresh handsOn:Bool} {W W':World} {args:Array Value} {v:Value} {ds gs:List (DataW H)} {before:List MemPlace}
 (hW:DataW.Whole enc P f.params.toList s.vars apart W args.toList ds gs before) (hb:Below W.heap.size W W')
 (hres:∀(b:Nat) (sp:Nat->Bool) (hd:Bool),DataW.TrodAll enc P W' b sp hd f.resultTypes.toList (v.resultList f.resultTypes.size) (s.fn H (ds++gs)).results [])
 (hargs:DataW.TrodAll enc P W' 0 (fun b=>decide (b < W.heap.size)) true f.params.toList args.toList (s.fn H (ds++gs)).args before)
 (hvars:DataW.TrodVars enc P W' (fun b=>decide (b < W.heap.size)) s.vars (s.fn H (ds++gs)).vars []) :
 s.post enc P f apart fresh handsOn false W args v W' :=
 ⟨ds,gs,before,[],before,[],hW,hres _ _ _,hargs,hvars,hb.frame _,fun h=>by cases h⟩
theorem aMn {H:Type} {enc:TypeId×Value->H} {P:Program} {w:World} {base:Nat} {spare:Nat->Bool} {held:Bool} {t:TypeId} {ts:List TypeId} {v:Value} {vs:List Value} {d:DataW H} {ds:List (DataW H)} {p p':List MemPlace}
 (h:DataW.Trod enc P w base spare held t v d p) (h':DataW.TrodAll enc P w base spare held ts vs ds p'):DataW.TrodAll enc P w base spare held (t::ts) (v::vs) (d::ds) (p++p'):=⟨p,p',h,h',rfl⟩
theorem own:ownKnob Tryz.prog.godebug=none:=by kernel_rfl
theorem aN3:laidOutB Tryz.prog=true:=by kernel_rfl
end Go.Proofs.YtlffahoikfahlaaGreat
namespace Go.Proofs.YtlffahoikfahlaaGreat
open Go.Proofs Go.Aw Go.RowKit
set_option maxRecDepth 100000
def sc (d:Int):Int:=if d=0 then 1 else if d=1 then 2 else if d=2 then 4 else 8
theorem d4 {d:Int} (h:0<=d/\d<=3):d=0\/d=1\/d=2\/d=3:=by omega
theorem bEn {d:Int} (h:0<=d/\d<=3):W (1*2 ^ (min (tN d) 64))=sc d:=by
 rcases d4 h with rfl | rfl | rfl | rfl<;>kernel_rfl
theorem bEo {d:Int} (h:0<=d/\d<=3):W (1*2 ^ (min (tN (iW .u64 d)) 64))=sc d:=by
 rcases d4 h with rfl | rfl | rfl | rfl<;>kernel_rfl
theorem bBy {d:Int} (h:0<=d/\d<=3):W (1*2 ^ (min (tN (W (2*d))) 64))=sc d*sc d:=by
 rcases d4 h with rfl | rfl | rfl | rfl<;>kernel_rfl
theorem aN4 {d:Int} (h:0<=d/\d<=3)(p:PN):(((eQ d.toNat p).length:Nat):Int)=sc d*sc d:=by
 rw [aJ7];rcases d4 h with rfl | rfl | rfl | rfl<;>kernel_rfl
theorem yE (d:Int):sc d=1\/sc d=2\/sc d=4\/sc d=8:=by unfold sc;(repeat' split)<;>simp
theorem aW9 (d:Int):1<=sc d/\sc d<=8:=by have:=yE d;omega
def tm (s:Int)(p:P3):P3:=(s*p.1,s*p.2.1,s*p.2.2)
theorem aSa {s m:Int} {p:P3} (hs:1<=s/\s<=8)(hm:0<=m)(hp:bd m p):bd (8*m) (tm s p):=by
 have h1:=dM (a:=8) (b:=m) (x:=s) (y:=p.1) oM hp.1;have h2:=dM (a:=8) (b:=m) (x:=s) (y:=p.2.1) oM hp.2.1;have h3:=dM (a:=8) (b:=m) (x:=s) (y:=p.2.2) oM hp.2.2;exact⟨h1,h2,h3⟩
theorem bBz {s:Int} {p:P3} (hs:1<=s/\s<=8)(hp:bd 4096 p):((W (s*p.1)),(W (s*p.2.1)),(W (s*p.2.2)))=tm s p:=by
 have h:=aSa hs oM hp;have h1:=h.1;have h2:=h.2.1;have h3:=h.2.2;simp only [tm] at h1 h2 h3;unfold tm;rw [aH (n:=s*p.1) oM oM,aH (n:=s*p.2.1) oM oM,aH (n:=s*p.2.2) oM oM]
theorem bEp {s:Int} {p:P3} (hs:1<=s/\s<=8)(hp:bd 4096 p):dT p s=tm s p:=bBz hs hp
theorem bEq {s:Int} {p:P3} (hs:1<=s/\s<=8)(hp:bd 4096 p):aQ p s=tm s p:=bBz hs hp
theorem aJ9 {a b:Int} (h1:-1099511627776<=a)(h2:a<=b)(h3:b<=1099511627776):sT a b=((a,b),0):=by
 unfold sT uZ;rw [bX (show(a,b).1≥-1099511627776 from h1),bX (show(a,b).1<=(a,b).2 from h2),bX (show(a,b).2<=1099511627776 from h3)];rfl
theorem aXa {a b:Int} (h1:-1099511627776<=a)(h2:a<=b)(h3:b<=1099511627776):F72 a b=((a,b),0):=by
 unfold F72 xE;rw [bX (show(a,b).1≥-1099511627776 from h1),bX (show(a,b).1<=(a,b).2 from h2),bX (show(a,b).2<=1099511627776 from h3)];rfl
theorem bB0 {n:Int} (h0:0<=n)(h:n < 4611686018427387904):mS n=kO n:=(bBm h0 h).eq (aHg h0 h)
noncomputable def inv (N n:Int):Zs := (kO (N / n),if kO (N / n)*kO (N / n)*n=N then kO (N / n)else kO (N / n)+1)
theorem aAc {N n:Int} (hN:0<=N)(hn:1<=n):0<=N / n/\N / n<=N/\(N / n)*n<=N:=by
 have h1:0<=N / n:=Int.ediv_nonneg hN oM;have h2:(N / n)*n<=N:=Int.ediv_mul_le N oM;have h3:(N / n)*1<=(N / n)*n:=Int.mul_le_mul_of_nonneg_left hn h1;omega
theorem aAd {N n:Int} (hN:0<=N/\N<=288230376151711744)(hn:1<=n) :
 ∃k,kO (N / n)=k/\IsRt (N / n) k/\0<=k/\k<=536870912/\0<=k*k/\k*k<=N / n/\0<=k*k*n/\k*k*n<=N:=by
 obtain⟨h1,h2,h3⟩:=aAc hN.1 hn;have h:=aHg (n:=N / n) h1 oM;have h4:=h.le (m:=536870912) oM oM;have h5:0<=kO (N / n)*kO (N / n):=Int.mul_nonneg h.1 h.1;exact⟨_,rfl,h,h.1,h4,h5,h.2.1,Int.mul_nonneg h5 oM,Int.le_trans (Int.mul_le_mul_of_nonneg_right h.2.1 oM) h3⟩
theorem aXb {N n:Int} (hN:0<=N/\N<=288230376151711744)(hn:1<=n):aL9 N n=(inv N n,0):=by
 obtain⟨k,hk,_,k0,k1,k2,k3,k4,k5⟩:=aAd hN hn;obtain⟨h1,h2,h3⟩:=aAc hN.1 hn;unfold aL9 inv;rw [Int.tdiv_eq_ediv_of_nonneg hN.1,aH (n:=N / n) oM oM,hk,aH (n:=k*k) oM oM,aH (n:=k*k*n) oM oM,aH (n:=k+1) oM oM,
  aJ9 oM (Int.le_refl k) oM,aJ9 oM oM oM]
 by_cases h:k*k*n=N
 ·rw [if_pos h,beq_iff_eq.2 h];rfl
 ·rw [if_neg h,beq_eq_false_iff_ne.2 h];rfl
theorem aXc {N n:Int} (hN:0<=N/\N<=288230376151711744)(hn:1<=n):aHc N n=(inv N n,0):=by
 obtain⟨k,hk,_,k0,k1,k2,k3,k4,k5⟩:=aAd hN hn;obtain⟨h1,h2,h3⟩:=aAc hN.1 hn;unfold aHc inv;rw [Int.tdiv_eq_ediv_of_nonneg hN.1,aH (n:=N / n) oM oM,bB0 h1 oM,hk,aH (n:=k*k) oM oM,aH (n:=k+1) oM oM,
  aXa oM (Int.le_refl k) oM,aXa oM oM oM,Int.tmod_eq_emod_of_nonneg hN.1]
 have hdm:n*(N / n)+N % n=N:=Int.mul_ediv_add_emod N n;by_cases h0:N % n=0
 ·rw [beq_iff_eq.2 h0,cond_true];by_cases h:k*k=N / n
  ·rw [beq_iff_eq.2 h,cond_true,if_pos (by rw [h,Int.mul_comm];omega)]
  ·rw [beq_eq_false_iff_ne.2 h,cond_false,if_neg];intro h';rw [h0,Int.add_zero,Int.mul_comm] at hdm;exact h (Int.eq_of_mul_eq_mul_right oM (h'.trans hdm.symm))
 ·rw [beq_eq_false_iff_ne.2 h0,cond_false,if_neg];intro h';rw [←h'] at h0;exact h0 (Int.mul_emod_left _ _)
theorem aZh {N n:Int} (hN:0<=N/\N<=288230376151711744)(hn:1<=n):0<=(inv N n).1/\(inv N n).1<=(inv N n).2/\(inv N n).2<=536870913:=by
 obtain⟨k,hk,_,k0,k1,_⟩:=aAd hN hn;unfold inv;rw [hk];simp only;split<;>omega
theorem aSb {N n m:Int} (hN:0<=N/\N<=288230376151711744)(hn:1<=n)(hm:n<=m):(inv N m).1<=(inv N n).1:=by
 obtain⟨h1,h2,h3⟩:=aAc hN.1 hn;obtain⟨g1,g2,g3⟩:=aAc (n:=m) hN.1 oM;have h:N / m<=N / n:=by
  refine Int.le_ediv_of_mul_le oM (Int.le_trans (Int.mul_le_mul_of_nonneg_left hm g1) g3)
 exact(aHg g1 oM).mono (aHg h1 oM) h
def NN (s:Int):Int:=s*s*1099511627776
theorem aGb {s:Int} (h:s=1\/s=2\/s=4\/s=8):0<=NN s/\NN s<=288230376151711744:=by rcases h with rfl | rfl | rfl | rfl<;>decide
noncomputable def wT (s n:Int):Zs:=if n < 1 then(0,0) else inv (NN s) n
theorem bB1 {s:Int} (h:s=1\/s=2\/s=4\/s=8):decide (s < 1)=false/\decide (s > 8)=false:=by
 rcases h with rfl | rfl | rfl | rfl<;>decide
theorem lt8 {s:Int} (h:s=1\/s=2\/s=4\/s=8):decide (s < 1)=false/\decide (s > 8)=false/\F71 s 1 8=true:=by
 rcases h with rfl | rfl | rfl | rfl<;>decide
theorem aXd {s n:Int} (hs:s=1\/s=2\/s=4\/s=8)(hn:n<=1000000000):(vA n s).1=wT s n:=by
 obtain⟨e1,e2⟩:=bB1 hs;unfold vA wT;by_cases h:n < 1
 ·rw [bX h,cond_true,if_pos h]
 ·have e:W ((W (s*s))*2 ^ (min (tN 40) 64))=NN s:=by rcases hs with rfl | rfl | rfl | rfl<;>kernel_rfl
  rw [cA h,cond_false,cA (show ¬n > 1099511627776 by omega),cond_false,e1,cond_false,e2,cond_false,if_neg h,e,aXb (aGb hs) oM]
theorem aXe {s n:Int} (hs:s=1\/s=2\/s=4\/s=8)(hn:n<=1000000000):(oC n s).1=wT s n:=by
 obtain⟨_,_,e3⟩:=lt8 hs;unfold oC wT;by_cases h:n < 1
 ·rw [rN,cA (show ¬(1<=n/\n<=1099511627776) by omega),if_pos h];rfl
 ·have e:W ((W ((W (1048576*s))*1048576))*s)=NN s:=by rcases hs with rfl | rfl | rfl | rfl<;>kernel_rfl
  rw [e3,rN,bX (show(1<=n/\n<=1099511627776) by omega),if_neg h,e,aXc (aGb hs) oM];rfl
structure OfOk (of:Int->Zs):Prop where
 lo:∀n,0<=(of n).1
 le:∀n,(of n).1<=(of n).2
 hi:∀n,(of n).2<=536870913
 mono:∀n m,1<=n->n<=m->(of m).1<=(of n).1
theorem aHn {s:Int} (hs:s=1\/s=2\/s=4\/s=8):OfOk (wT s):=by
 have hb:∀n,0<=(wT s n).1/\(wT s n).1<=(wT s n).2/\(wT s n).2<=536870913:=by
  intro n;unfold wT;split
  ·simp
  ·exact aZh (aGb hs) oM
 refine⟨fun n=>(hb n).1,fun n=>(hb n).2.1,fun n=>(hb n).2.2,fun n m h1 h2=>?_⟩;unfold wT;rw [if_neg oM,if_neg oM];exact aSb (aGb hs) h1 h2
def fa (c:PN)(x:P3):Int:=mx (mx (mx 0 (ds c.1 x)) (ds c.2.1 x)) (ds c.2.2 x)
def ne (c:PN)(x:P3):Int:=nr (blo c) (bhi c) x x
theorem bEr {c:PN} {x:P3} (hc:bdP 5000 c)(hx:bd 5000 x):gH [(dK c).1,(dK c).2.1,(dK c).2.2] [x]=fa c x:=by
 refine(bBw c x).trans ?_;rw [aR0 hc.1 hx,aR0 hc.2.1 hx,aR0 hc.2.2 hx];rfl
theorem bEs {c:PN} {x:P3} (hc:bdP 5000 c)(hx:bd 5000 x):pQ c [x]=fa c x:=by
 rw [bBx,aR1 hc.1 hx,aR1 hc.2.1 hx,aR1 hc.2.2 hx];rfl
theorem bEt {c:PN} {x:P3} (hc:bdP 5000 c)(hx:bd 5000 x):dU (dK c) x=ne c x:=aZa hc hx
theorem bEu {c:PN} {x:P3} (hc:bdP 5000 c)(hx:bd 5000 x):mY c x=ne c x:=aZb hc hx
theorem aSc {p q:P3} (hp:bd 5000 p)(hq:bd 5000 q):0<=ds p q/\ds p q<=300000000:=by
 have h:=yC hp hq;have:=bBn h h;exact⟨aVn _,by unfold ds;omega⟩
theorem aXf {c:PN} {x:P3} (hc:bdP 5000 c)(hx:bd 5000 x):0<=fa c x/\fa c x<=300000000 :=
 ⟨Int.le_trans (wR 0 _) (Int.le_trans (wR _ _) (wR _ _)),aJ5 (aJ5 (aJ5 oM (aSc hc.1 hx).2) (aSc hc.2.1 hx).2) (aSc hc.2.2 hx).2⟩
theorem bB2 {a b:Int} (ha:0<=a)(h:a<=b\/a<=-b):a*a<=b*b:=by
 rcases h with h | h
 ·exact Int.mul_le_mul h h ha oM
 ·have:=Int.mul_le_mul h h ha oM
  rwa [Int.neg_mul_neg] at this
theorem aSd {a b c x:Int} (h1:a<=c)(h2:c<=b):gp a b x x*gp a b x x<=(c - x)*(c - x):=by
 refine bB2 (aW8 _ _ _ _) ?_;unfold gp mx
 (repeat' split)<;>omega
theorem bB3 (a b c d:P3):0<=nr a b c d:=by
 have h1:=qR (gp a.1 b.1 c.1 d.1);have h2:=qR (gp a.2.1 b.2.1 c.2.1 d.2.1);have h3:=qR (gp a.2.2 b.2.2 c.2.2 d.2.2);unfold nr;omega
theorem aSe (c:PN)(x:P3):0<=ne c x/\ne c x<=fa c x:=by
 refine⟨bB3 _ _ _ _,Int.le_trans ?_ (Int.le_trans (aY9 _ _) (Int.le_trans (wR _ (ds c.2.1 x)) (wR _ (ds c.2.2 x))))⟩;have h1:=aSd (x:=x.1) (aMi c.1.1 c.2.1.1 c.2.2.1).1 (aMj c.1.1 c.2.1.1 c.2.2.1).1;have h2:=aSd (x:=x.2.1) (aMi c.1.2.1 c.2.1.2.1 c.2.2.2.1).1 (aMj c.1.2.1 c.2.1.2.1 c.2.2.2.1).1;have h3:=aSd (x:=x.2.2) (aMi c.1.2.2 c.2.1.2.2 c.2.2.2.2).1 (aMj c.1.2.2 c.2.1.2.2 c.2.2.2.2).1;unfold ne nr ds dt sb;simp only [blo,bhi];omega
noncomputable def acc (of:Int->Zs)(x:P3):List PN->Zs->Zs⊕(Zs×Int) | [],v=>.inl v | c::l,v=>if ne c x=0 then .inr ((0,0),10)else acc of x l (v.1+(of (fa c x)).1,v.2+(of (ne c x)).2)
def okv (v:Zs)(n:Nat):Prop:=0<=v.1/\v.1<=v.2/\v.2+536870913*n<=34359738432
theorem aDn {of:Int->Zs} (ho:OfOk of) {c:PN} {x:P3} {v:Zs} {n:Nat} (h:okv v (n+1))(hn:ne c x≠0) :
 okv (v.1+(of (fa c x)).1,v.2+(of (ne c x)).2) n:=by
 have h0:=aSe c x;have h1:=ho.lo (fa c x);have h2:=ho.mono (ne c x) (fa c x) oM h0.2;have h3:=ho.le (ne c x);have h4:=ho.hi (ne c x);unfold okv at *;simp only;omega
theorem aMo {of:Int->Zs} (ho:OfOk of) {x:P3}:∀{l:List PN} {v w:Zs},okv v l.length->acc of x l v=.inl w->okv w 0
 | [],v,w,h,e=>by cases e;exact h
 | c::l,v,w,h,e=>by
  unfold acc at e;split at e
  ·cases e
  ·rename_i hn;exact aMo ho (aDn ho h hn) e
theorem aKa {of:Int->Zs} (ho:OfOk of) {x:P3} {S:Zs->PN->Zs⊕(Zs×Int)} :
 ∀{l:List PN} {v:Zs},(∀c∈l,∀v:Zs,S v c=if ne c x=0 then .inr ((0,0),10) else .inl (W (v.1+(of (fa c x)).1),W (v.2+(of (ne c x)).2)))->okv v l.length->mX S l v=acc of x l v
 | [],v,_,_=>rfl
 | c::l,v,hS,h=>by
  have h0:=hS c (List.mem_cons_self) v;unfold mX acc;rw [h0];by_cases hn:ne c x=0
  ·rw [if_pos hn,if_pos hn]
  ·rw [if_neg hn,if_neg hn];have h1:=aDn ho h hn;have h2:=h1;unfold okv at h2;simp only at h2;simp only;rw [aH oM oM,aH oM oM];exact aKa ho (fun c hc=>hS c (List.mem_cons_of_mem _ hc)) h1
theorem aGc {of:Int->Zs} (ho:OfOk of) {x:P3} {S:Zt->Zt⊕(Zs×Int)} {G:Zs->Zs×Int} {L:List PN}
 (hS:∀(i:Nat) (c:PN),L[i]? = some c->∀v1 v2:Int,S (v1,v2,(i:Int))=if ne c x=0 then .inr ((0,0),10) else .inl (W (v1+(of (fa c x)).1),W (v2+(of (ne c x)).2),((i+1:Nat):Int)))
 (hE:∀v1 v2:Int,S (v1,v2,(L.length:Int))=.inr (G (v1,v2))) :
 ∀(l:List PN) (i n:Nat) (v:Zs),L.drop i=l->i<=L.length->l.length < n->okv v l.length->aG S n (v.1,v.2,(i:Int))=aAw G (acc of x l v)
 | [],i,n,v,hd,hi,hn,h=>by
  have:i=L.length:=by have:=List.drop_eq_nil_iff.1 hd;omega
  obtain⟨n,rfl⟩:∃m,n=m+1:=⟨n - 1,by simp only [List.length_nil] at hn;omega⟩;subst this;rw [aL (hE _ _)];rfl
 | c::l,i,n,v,hd,hi,hn,h=>by
  have hc:L[i]? = some c:=by
   have:(L.drop i)[0]? = some c:=by rw [hd];rfl
   simpa using this
  have hlt:i < L.length:=by
   obtain⟨hlt,_⟩:=List.getElem?_eq_some_iff.1 hc;exact hlt
  obtain⟨n,rfl⟩:∃m,n=m+1:=⟨n - 1,by omega⟩;have h0:=hS i c hc v.1 v.2;unfold acc;by_cases hz:ne c x=0
  ·rw [if_pos hz] at h0;rw [if_pos hz,aL h0];rfl
  ·rw [if_neg hz] at h0;rw [if_neg hz,aK h0];have h1:=aDn ho h hz;have h2:=h1;unfold okv at h2;simp only at h2;rw [aH oM oM,aH oM oM];exact aGc ho hS hE l (i+1) n _ (by rw [←List.drop_drop,hd];rfl) oM (by simp only [List.length_cons] at hn;omega) h1
theorem bB4 {a n:Int} (hn:n=1\/n=4\/n=16\/n=64)(ha:-1099511627776<=a/\a<=1099511627776):aJ0 a n=a / n:=by
 unfold aJ0;have h0:∀b:Int,decide (n < 0)=false:=fun _=>cA oM
 rw [h0 0];have key:(bif ((mD a n:Int) != 0) then(bif (!(decide (a < 0) == false)) then W (W (tD a n) - 1) else W (tD a n)) else W (tD a n))=if mD a n≠0/\a < 0 then W (W (tD a n) - 1) else W (tD a n):=by
  by_cases h1:mD a n=0
  ·rw [h1];simp
  ·by_cases h2:a < 0
   ·rw [bne_iff_ne.2 h1,bX h2,if_pos ⟨h1,h2⟩];rfl
   ·rw [bne_iff_ne.2 h1,cA h2,if_neg (fun h=>h2 h.2)];rfl
 rw [key];rcases Int.lt_or_le a 0 with h | h
 ·obtain⟨b,rfl⟩:∃b:Int,a=-b:=⟨-a,by omega⟩;have hb:0<=b:=by omega
  rw [Int.neg_tdiv,Int.neg_tmod,Int.tdiv_eq_ediv_of_nonneg hb,Int.tmod_eq_emod_of_nonneg hb];rcases hn with rfl | rfl | rfl | rfl <;>
  ·rw [aH (n:=-(b / _)) oM oM];split
   ·rw [aH oM oM];omega
   ·omega
 ·rw [if_neg oM,Int.tdiv_eq_ediv_of_nonneg h];rcases hn with rfl | rfl | rfl | rfl<;>exact aH oM oM
theorem bB5 {a n:Int} (hn:n=1\/n=4\/n=16\/n=64)(ha:-1099511627776<=a/\a<=1099511627776):aMh a n=a / n:=by
 unfold aMh;rcases Int.lt_or_le a 0 with h | h
 ·obtain⟨b,rfl⟩:∃b:Int,a=-b:=⟨-a,by omega⟩;have hb:0<=b:=by omega
  rw [Int.neg_tdiv,Int.neg_tmod,Int.tdiv_eq_ediv_of_nonneg hb,Int.tmod_eq_emod_of_nonneg hb];by_cases h1:-(b % n) < (0:Int)
  ·rw [bX h1,cond_true];rcases hn with rfl | rfl | rfl | rfl <;>
   ·rw [aH (n:=-(b / _)) oM oM,aH oM oM];omega
  ·rw [cA h1,cond_false];rcases hn with rfl | rfl | rfl | rfl <;>
   ·rw [aH (n:=-(b / _)) oM oM];omega
 ·rw [Int.tdiv_eq_ediv_of_nonneg h,Int.tmod_eq_emod_of_nonneg h];have:¬a % n < 0:=by have:=Int.emod_nonneg a (show n≠0 by omega);omega
  rw [cA this,cond_false];rcases hn with rfl | rfl | rfl | rfl<;>exact aH oM oM
theorem bEv {a n:Int} (hn:n=1\/n=4\/n=16\/n=64)(ha:-1099511627776<=a/\a<=1099511627776):aPw a n=-(-a / n):=by
 unfold aPw;rw [aH (n:=0 - a) oM oM,bB4 hn oM,Int.zero_sub];rcases hn with rfl | rfl | rfl | rfl<;>exact(aH oM oM).trans oM
theorem bEw {a n:Int} (hn:n=1\/n=4\/n=16\/n=64)(ha:-1099511627776<=a/\a<=1099511627776):aRz a n=-(-a / n):=by
 unfold aRz;rw [aH (n:=0 - a) oM oM,bB5 hn oM,Int.zero_sub];rcases hn with rfl | rfl | rfl | rfl<;>exact(aH oM oM).trans oM
def avg (v:Zs)(n:Int):Zs:=(v.1 / n,-(-v.2 / n))
theorem aN5 {a b:Int} (h1:-1099511627776<=a)(h2:a<=b)(h3:b<=1099511627776):uZ (a,b)=true:=by
 unfold uZ;rw [bX (show(a,b).1≥-1099511627776 from h1),bX (show(a,b).1<=(a,b).2 from h2),bX (show(a,b).2<=1099511627776 from h3)];rfl
theorem bB6 {v:Zs} {n:Int} (hn:n=1\/n=4\/n=16\/n=64)(h:okv v 0):aJ2 v.1 v.2 n=avg v n:=by
 unfold okv at h;unfold aJ2 aRk pF;rw [aN5 oM oM oM];simp only [Bool.not_true,cond_false,bne_self_eq_false];rw [cA (show ¬n < 1 by omega),cA (show ¬n > 1099511627776 by omega),cond_false,cond_false,bB4 hn oM,bEv hn oM];have:v.1 / n<=-(-v.2 / n)/\-1099511627776<=v.1 / n/\-(-v.2 / n)<=1099511627776:=by
  rcases hn with rfl | rfl | rfl | rfl<;>omega
 rw [aJ9 this.2.1 this.1 this.2.2];rfl
theorem aDo (d:Int):sc d*sc d=1\/sc d*sc d=4\/sc d*sc d=16\/sc d*sc d=64:=by
 rcases yE d with h | h | h | h<;>rw [h]<;>decide
theorem aKb {of:Int->Zs} (ho:OfOk of) {x:P3} {l:List PN} {R:Type} {G G':Zs->R} {v:Zs} {w:Zs⊕R}
 (hv:okv v l.length) (hw:∀u,w=.inl u->acc of x l v=.inl u) (h:∀u,okv u 0->G u=G' u):aAw G w=aAw G' w:=by
 cases w with
 | inl u=>exact h u (aMo ho hv (hw u rfl))
 | inr r=>rfl
theorem aN6 {p c:PN} {d:Int} (hp:bdP 64 p)(hd:0<=d/\d<=3)(hc:c∈eQ d.toNat p):bdP 512 c:=by
 have key:∀k:Nat,k<=3->c∈eQ k p->bdP 512 c:=by
  intro k hk hc;have:k=0\/k=1\/k=2\/k=3:=by omega
  rcases this with rfl | rfl | rfl | rfl<;>exact(aHi (m:=64) _ hp (by decide) (by decide) hc).mono (by decide)
 exact key _ oM hc
theorem aSf {p:PN} {d:Int} (hd:0<=d/\d<=3):okv (0,0) (eQ d.toNat p).length:=by
 have h:=aN4 hd p;have h1:=aDo d;unfold okv;simp only;omega
noncomputable def yF (of:Int->Zs)(p:PN)(x:P3)(d:Int):Zs×Int := aAw (fun v=>(avg v (sc d*sc d),0)) (acc of (tm (sc d) x) (eQ d.toNat p) (0,0))
section
variable {p : PN} {x : P3} {d : Int}
theorem aVw (hp:bdP 64 p)(hx:bd 256 x)(hd:0<=d/\d<=3):pG p x d=yF (wT (sc d)) p x d:=by
 have hs:=aW9 d;have hx':bd 5000 (tm (sc d) x):=(aSa hs oM hx).mono oM;have ho:=aHn (yE d);have hk:=aSf (p:=p) hd;unfold pG yF;rw [aKa ho (x:=tm (sc d) x) (S:=jO p x d) (fun c hc v=>?_) hk]
 ·refine aKb ho hk (fun u h=>h) (fun u hu=>?_);show(aJ2 u.1 u.2 _,(0:Int))=_;rw [bBy hd,bB6 (aDo d) hu]
 ·have hb:=(aN6 hp hd hc).mono (show(512:Int)<=5000 by omega);obtain⟨v1,v2⟩:=v;simp only [jO];rw [bEn hd,bEp hs (hx.mono oM),bEt hb hx',bEr hb hx'];have h1:=aXf hb hx';have h2:=aSe c (tm (sc d) x);rw [aXd (yE d) oM,aXd (yE d) oM];by_cases h:ne c (tm (sc d) x)=0
  ·rw [if_pos h,beq_iff_eq.2 h,cond_true]
  ·rw [if_neg h,beq_eq_false_iff_ne.2 h,cond_false]
theorem aVx (hp:bdP 64 p)(hx:bd 256 x)(hd:0<=d/\d<=3):F70 p x d false=yF (wT (sc d)) p x d:=by
 have hs:=aW9 d;have hx':bd 5000 (tm (sc d) x):=(aSa hs oM hx).mono oM;have ho:=aHn (yE d);have hk:=aSf (p:=p) hd;have hL:=bEg hp hd;have hl:=aN4 hd p;unfold F70 yF;rw [show((0,0,0):Zt)=(((0,0):Zs).1,((0,0):Zs).2,((0:Nat):Int)) from rfl,
  aGc ho (x:=tm (sc d) x) (S:=pH p x d false) (L:=eQ d.toNat p) (G:=fun v=>((aMh v.1 (sc d*sc d),aRz v.2 (sc d*sc d)),0)) (fun i c hi v1 v2=>?_) (fun v1 v2=>?_) (eQ d.toNat p) 0 _ (0,0) rfl (Nat.zero_le _) (by rw [hL];omega) hk]
 ·refine aKb ho hk (fun u h=>h) (fun u hu=>?_);unfold okv at hu;rw [bB5 (aDo d) oM,bEw (aDo d) oM];rfl
 ·obtain⟨hlt,hc⟩:=List.getElem?_eq_some_iff.1 hi;have hm:c∈eQ d.toNat p:=hc▸List.getElem_mem hlt;have hb:=(aN6 hp hd hm).mono (show(512:Int)<=5000 by omega);have hg:(eQ d.toNat p).getD i dF=c:=by rw [gS,hi];rfl
  simp only [pH];rw [hL,bX (show((i:Nat):Int) < ((eQ d.toNat p).length:Nat) by omega),cond_true,iB,hg,bEo hd,bEq hs (hx.mono oM),bEu hb hx',bEs hb hx'];have h1:=aXf hb hx';have h2:=aSe c (tm (sc d) x);rw [aXe (yE d) oM,aXe (yE d) oM];by_cases h:ne c (tm (sc d) x)=0
  ·rw [if_pos h,beq_iff_eq.2 h,cond_true]
  ·rw [if_neg h,beq_eq_false_iff_ne.2 h,cond_false];rfl
 ·simp only [pH];rw [hL,cA (Int.lt_irrefl _),cond_false,hl]
end
noncomputable def aDp (of:Int->Int->Zs)(p:PN)(x:P3)(d:Int):Zs×Int:=if ck p x d=0 then yF (of (sc d)) p x d else((0,0),ck p x d)
theorem aSg (p:PN)(x:P3)(d:Int):wS p x d=aDp wT p x d:=by
 unfold wS aDp;rw [aR8];by_cases h:ck p x d=0
 ·obtain⟨h1,h2,h3⟩:=aJ6 h;rw [h,aVw (aRs h1).1 h2 h3];rfl
 ·rw [bne_iff_ne.2 h,if_neg h,cond_true]
theorem aHo (p:PN)(x:P3)(d:Int):vO p x d=aDp wT p x d:=by
 unfold vO aDp;rw [aR9];by_cases h:ck p x d=0
 ·obtain⟨h1,h2,h3⟩:=aJ6 h;rw [h,aVx (aRs h1).1 h2 h3];rfl
 ·rw [bne_iff_ne.2 h,if_neg h,cond_true]
end Go.Proofs.YtlffahoikfahlaaGreat
namespace Go.Proofs.YtlffahoikfahlaaGreat
open Go.Proofs Go.Aw Go.RowKit
set_option maxRecDepth 100000
def bF2 (T r:Int):Prop:=0<=r/\T<=r*r/\(r=0\/(r - 1)*(r - 1) < T)
section
variable {p q : PN} {d : Int}
end
end Go.Proofs.YtlffahoikfahlaaGreat
