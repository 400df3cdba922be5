/-
  Parts of the proofs of the laws: the executor, what functions of the program compute, and that it is what the statements ask. No premise.
-/
import Derived.Test.YtlckcjfbjnjfhaaGreatVPag2
import Derived.Test.YtlckcjfbjnjfhaaGreatRows
import Derived.Shelf.Abstract
import Derived.ProofKit
import Derived.OpenShut
set_option linter.unusedVariables false
set_option linter.unusedSimpArgs false
set_option maxHeartbeats 4000000
open Int renaming toNat → tN
open Inhabited renaming default → dF
namespace Go.Aw
open Go.RowKit
mutual
def SV.hasB (i:Nat):SV->Bool
 | .p j _=>j == i
 | .s j _ _ _=>j == i
 | .m j=>j == i
 | .f _ caps=>SV.hasBl i caps
 | .a l=>SV.hasBl i l
 | .t l=>SV.hasBl i l
 | _=>false
def SV.hasBl (i:Nat):List SV->Bool
 | []=>false
 | x::l=>SV.hasB i x || SV.hasBl i l
end
mutual
theorem aUe {i:Nat}:∀(x:SV),x.has i->x.hasB i=true
 | .u,h=>by simp [SV.has] at h
 | .b _,h=>by simp [SV.has] at h
 | .v _,h=>by simp [SV.has] at h
 | .d _ _ _,h=>by simp [SV.has] at h
 | .p j _,h=>by simp only [SV.has] at h;simp [SV.hasB,h]
 | .s j _ _ _,h=>by simp only [SV.has] at h;simp [SV.hasB,h]
 | .m j,h=>by simp only [SV.has] at h;simp [SV.hasB,h]
 | .f _ caps,h=>by simp only [SV.has] at h;simp only [SV.hasB];exact hasl_B caps h
 | .a l,h=>by simp only [SV.has] at h;simp only [SV.hasB];exact hasl_B l h
 | .t l,h=>by simp only [SV.has] at h;simp only [SV.hasB];exact hasl_B l h
theorem hasl_B {i:Nat}:∀(l:List SV),SV.hasl i l->SV.hasBl i l=true
 | [],h=>by simp [SV.hasl] at h
 | x::l,h=>by
  simp only [SV.hasl] at h
  simp only [SV.hasBl,Bool.or_eq_true]
  exact h.imp (aUe x) (hasl_B l)
end
def BK.hasB (i:Nat):BK->Bool
 | .live _ false cells=>SV.hasBl i cells
 | .map es=>SV.hasBl i (iN es)
 | _=>false
theorem aVv {i:Nat} {x:BK} (hpl:x.pl)(h:x.has i):x.hasB i=true:=by
 cases x with
 | un=>exact h.elim
 | dead=>exact h.elim
 | map es=>exact hasl_B _ h
 | live own sym cells =>
  cases sym with
  | true=>exact(hpl i h).elim
  | false=>exact hasl_B _ h
section
variable {P : Program} {ρ : Env} {W : World} {M : Nat → Prop}
theorem aG3 {α:Type} {c:α->List SV} {es:Nat} (hc:∀x,(c x).length=es) {l:List α} {a b:Int} (hab:0<=a/\a<=b/\b<=l.length) {i:Nat} {y:Value}
 (hr:Rel ρ (.s i (0+a.toNat*es) (b.toNat - a.toNat) es) y) (hb:BRep ρ M W i (.live false true (flat c l))) (hpl:Plain (flat c l)) :
 ∃q,∀(k:Nat) (ρ2:Env),ρ2 k=q->ρ2.fz=ρ.fz->Rel ρ2 (.s k 0 (part l a b).length es) y/\BRep ρ2 M W k (.live false true (flat c (part l a b))):=by
 have hl:=part_len hab
 have hf:flat c (part l a b)=((flat c l).drop (a.toNat*es)).take ((b.toNat - a.toNat)*es):=by rw [mX hc,mY hc];rfl
 simp only [Rel] at hr
 rcases hr with⟨h1,h2,h3⟩ | ⟨b0,o,N,cap,off',sp,h1,h2,h3,h4,h5⟩
 ·refine⟨none,fun k ρ2 hq hfz=>⟨?_,.inl ⟨hq,?_⟩⟩⟩
  ·simp only [Rel];exact .inl ⟨hq,by omega,h3⟩
  ·rw [hf,h2];simp
 ·refine⟨some (b0,o+off',cap*es),fun k ρ2 hq hfz=>⟨?_,?_⟩⟩
  ·simp only [Rel]
   exact .inr ⟨b0,o+off',cap*es,cap,0,sp,hq,by rw [hl,Nat.add_zero];exact h2,by rw [hl];exact h3,by omega,fun hc=>⟨rfl,(h5 hc).2⟩⟩
  ·rcases hb with⟨e1,_⟩ | ⟨b1,o1,n1,vs,e1,⟨e2,e3⟩,e4,e5⟩
   ·rw [h1] at e1;cases e1
   ·rw [h1] at e1
    simp only [aY,cW] at e1
    obtain⟨rfl,rfl,rfl⟩:=e1
    have hle:(b.toNat - a.toNat)*es<=cap*es:=Nat.mul_le_mul_right _ h3
    refine .inr ⟨b0,o+off',cap*es,(vs.drop (a.toNat*es)).take ((b.toNat - a.toNat)*es),hq,⟨by rw [List.length_take];omega,fun hne hM=>?_⟩,?_,fun t x hx=>?_⟩
    ·rw [hfz]
     exact e3 (fun e=>hne (by rw [e];simp)) hM
    ·rw [hf]
     have hp2:Plain (((flat c l).drop (a.toNat*es)).take ((b.toNat - a.toNat)*es)):=fun j hj=>hpl j (hO (hH hj))
     exact Plain.congr (fun b o ho=>by rw [hfz];exact ho) hp2 (Rels.take _ (Rels.drop _ e4))
    ·have ht:=(List.getElem?_eq_some_iff.1 hx).1
     rw [List.length_take] at ht
     rw [List.getElem?_take_of_lt (by omega),List.getElem?_drop] at hx
     have hcap:cap≠0:=by
      intro e
      rw [e] at hle
      omega
     rw [(h5 hcap).1,show o+(0+a.toNat*es)+t=o+(a.toNat*es+t) by omega]
     exact e5 _ x hx
theorem vY {ρ ρ2:Env} {x y:SV}:∀{pre post:List SV} {vs:List Value},Rels ρ (pre++x::post) vs->ρ.le ρ2->(∀j,SV.hasl j pre\/SV.hasl j post->ρ2 j=ρ j)->(∃v,vs[pre.length]? = some v/\Rel ρ2 y v)->Rels ρ2 (pre++y::post) vs
 | [],post,[],h,_,_,_=>by simp [Rels] at h
 | [],post,v::vs,h,hf,hj,hx=>by
  simp only [List.nil_append,Rels] at h ⊢
  obtain⟨v',e,hx⟩:=hx
  simp only [List.length_nil,List.getElem?_cons_zero,aY] at e
  subst e
  exact⟨hx,Rels.congr hf _ _ (fun j hk=>hj j (.inr hk)) h.2⟩
 | z::pre,post,[],h,_,_,_=>by simp [Rels] at h
 | z::pre,post,v::vs,h,hf,hj,hx=>by
  simp only [List.cons_append,Rels] at h ⊢
  refine⟨Rel.congr hf _ _ (fun j hk=>hj j (.inl (by simp only [SV.hasl];exact .inl hk))) h.1,vY h.2 hf (fun j hk=>hj j ?_) ?_⟩
  ·rcases hk with hk | hk
   ·exact .inl (by simp only [SV.hasl];exact .inr hk)
   ·exact .inr hk
  ·obtain⟨v',e,hx⟩:=hx
   exact⟨v',by simpa using e,hx⟩
theorem aEe {x:SV}:∀{pre post:List SV} {vs:List Value},Rels ρ (pre++x::post) vs->∃v,vs[pre.length]? = some v/\Rel ρ x v
 | [],_,[],h=>by simp [Rels] at h
 | [],_,v::_,h=>by simp only [List.nil_append,Rels] at h;exact⟨v,rfl,h.1⟩
 | _::_,_,[],h=>by simp [Rels] at h
 | _::pre,_,_::_,h=>by
  simp only [List.cons_append,Rels] at h
  obtain⟨v,e,hx⟩:=aEe h.2
  exact⟨v,by simpa using e,hx⟩
theorem eH {x:BK} {bs1 bs2:List BK} (j:Nat):(bs1++x::bs2).getD j .un=if j=bs1.length then x else if j < bs1.length then bs1.getD j .un else bs2.getD (j - bs1.length - 1) .un:=by
 simp only [cY]
 by_cases h:j=bs1.length
 ·subst h;simp
 ·rw [if_neg h]
  by_cases h2:j < bs1.length
  ·rw [if_pos h2,List.getElem?_append_left h2]
  ·rw [if_neg h2,List.getElem?_append_right (by omega)]
   obtain⟨k,hk⟩:∃k,j - bs1.length=k+1:=⟨j - bs1.length - 1,by omega⟩
   rw [hk];simp
theorem Con.part {f:Nat} {pre post:List SV} {bs1 bs2 nb:List BK} {res:SV} {α:Type} {c:α->List SV} {es:Nat} {l:List α} {a b:Int} (i:Nat)(hc:∀x,(c x).length=es)(hab:0<=a/\a<=b/\b<=l.length)(hi:bs1.length=i)
 (hno:(!SV.hasBl i pre&&!SV.hasBl i post&&bs1.all (fun x=>!x.hasB i)&&bs2.all (fun x=>!x.hasB i)&&nb.all (fun x=>!x.hasB i)&&!res.hasB i)=true)
 (h:Con P f (pre++.s i 0 (Aw.part l a b).length es::post) (bs1++.live false true (flat c (Aw.part l a b))::bs2) res nb) :
 Con P f (pre++.s i (0+a.toNat*es) (b.toNat - a.toNat) es::post) (bs1++.live false true (flat c l)::bs2) res nb:=by
 subst hi
 simp only [Bool.and_eq_true,Bool.not_eq_true',List.all_eq_true] at hno
 obtain⟨⟨⟨⟨⟨n1,n2⟩,n3⟩,n4⟩,n5⟩,n6⟩:=hno
 refine⟨h.1,fun ρ W vs hr hb hpl hap hfz=>?_⟩
 obtain⟨y,hy,hry⟩:=aEe hr
 have hbi:=hb bs1.length
 have hpi:=hpl bs1.length
 rw [eH,if_pos rfl] at hbi hpi
 obtain⟨q,hq⟩:=aG3 hc hab hry hbi hpi
 have hne:∀j,j≠bs1.length->(ρ.set bs1.length q) j=ρ j:=fun j hj=>by rw [Env.set_loc,if_neg hj]
 have hat:(ρ.set bs1.length q) bs1.length=q:=by rw [Env.set_loc,if_pos rfl]
 have hown:rL (ρ.set bs1.length q) (bs1++.live false true (flat c (Aw.part l a b))::bs2)=rL ρ (bs1++.live false true (flat c l)::bs2):=by
  funext b0
  apply propext
  unfold rL
  constructor
  ·rintro ⟨j,n,h1,h2⟩
   rw [eH] at h1
   by_cases hj:j=bs1.length
   ·rw [if_pos hj] at h1;exact h1.elim
   ·refine⟨j,n,?_,by rw [←hne j hj];exact h2⟩
    rw [eH,if_neg hj];rw [if_neg hj] at h1;exact h1
  ·rintro ⟨j,n,h1,h2⟩
   rw [eH] at h1
   by_cases hj:j=bs1.length
   ·rw [if_pos hj] at h1;exact h1.elim
   ·refine⟨j,n,?_,by rw [hne j hj];exact h2⟩
    rw [eH,if_neg hj];rw [if_neg hj] at h1;exact h1
 have hmine:(aZ (ρ.set bs1.length q) W (bs1++.live false true (flat c (Aw.part l a b))::bs2)).mine=(aZ ρ W (bs1++.live false true (flat c l)::bs2)).mine:=by
  funext b0
  unfold Cx.mine aZ
  simp only [hown]
 obtain⟨g1,g2⟩:=hq bs1.length (ρ.set bs1.length q) hat rfl
 have blk:∀j,j≠bs1.length->(bs1++BK.live false true (flat c (Aw.part l a b))::bs2).getD j .un=(bs1++BK.live false true (flat c l)::bs2).getD j .un:=fun j hj=>by rw [eH,eH,if_neg hj,if_neg hj]
 have nohas:∀j,j≠bs1.length->¬((bs1++BK.live false true (flat c l)::bs2).getD j .un).has bs1.length:=fun j hj hk=>by
  have hB:=aVv (hpl j) hk
  rw [eH,if_neg hj] at hB
  split at hB
  ·rename_i hlt
   rw [cY,List.getElem?_eq_getElem hlt,Option.getD_some] at hB
   rw [n3 _ (List.getElem_mem hlt)] at hB;cases hB
  ·by_cases hlt:j - bs1.length - 1 < bs2.length
   ·rw [cY,List.getElem?_eq_getElem hlt,Option.getD_some] at hB
    rw [n4 _ (List.getElem_mem hlt)] at hB;cases hB
   ·rw [cY,List.getElem?_eq_none (by omega),Option.getD_none] at hB;cases hB
 have nol:∀{m:List SV},SV.hasBl bs1.length m=false->∀j,SV.hasl j m->j≠bs1.length:=fun hm j hj e=>by
  subst e;rw [hasl_B _ hj] at hm;cases hm
 have hcall:=h.2 (ρ.set bs1.length q) W vs ?_ ?_ ?_ ?_ ?_
 ·refine hcall.mono fun e W' hR=>?_
  obtain⟨ρ',v,r1,r2,r3,r4,r5,r6,r7,r8,r9⟩:=hR
  have hbase:(aZ (ρ.set bs1.length q) W (bs1++.live false true (flat c (Aw.part l a b))::bs2)).base=(aZ ρ W (bs1++.live false true (flat c l)::bs2)).base:=by simp [aZ]
  have hlt:bs1.length < (aZ ρ W (bs1++.live false true (flat c l)::bs2)).base:=by simp [aZ]
  rw [hbase] at r2 r5 r6 r7 r9
  rw [hmine] at r5 r9
  have hnb:∀j,¬(cA (aZ ρ W (bs1++.live false true (flat c l)::bs2)).base [] nb j).has bs1.length:=fun j hk=>by
   have hB:=aVv (r6 j) hk
   unfold cA at hB
   split at hB
   ·simp [BK.hasB] at hB
   ·rename_i hge
    by_cases hl2:j - (aZ ρ W (bs1++.live false true (flat c l)::bs2)).base < nb.length
    ·rw [cY,List.getElem?_eq_getElem hl2,Option.getD_some] at hB
     rw [n5 _ (List.getElem_mem hl2)] at hB;cases hB
    ·rw [cY,List.getElem?_eq_none (by omega),Option.getD_none] at hB;cases hB
  have ho:∀j,(cA (aZ ρ W (bs1++.live false true (flat c l)::bs2)).base [] nb j).own->j≠bs1.length:=fun j hj e=>by
   subst e
   unfold cA at hj
   rw [if_pos hlt] at hj
   exact hj
  have hs:∀j,j≠bs1.length->(ρ'.set bs1.length (ρ bs1.length)) j=ρ' j:=fun j hj=>by rw [Env.set_loc,if_neg hj]
  refine⟨ρ'.set bs1.length (ρ bs1.length),v,r1,fun j hj=>?_,?_,?_,fun j=>?_,r6,fun j k b1 m1 b2 m2 hjk o1 o2 e1 e2=>?_,?_,fun b0 o0 hf0=>?_⟩
  ·by_cases hji:j=bs1.length
   ·subst hji;rw [Env.set_loc,if_pos rfl];rfl
   ·rw [hs j hji,r2 j hj];exact hne j hji
  ·exact Rel.congr (ρ'.le_set _ _) _ _ (fun j hk=>hs j (fun e=>by subst e;rw [aUe _ hk] at n6;cases n6)) r3
  ·have:(aZ (ρ.set bs1.length q) W (bs1++.live false true (flat c (Aw.part l a b))::bs2)).own=(aZ ρ W (bs1++.live false true (flat c l)::bs2)).own:=hown
   rw [this] at r4;exact r4
  ·by_cases hji:j=bs1.length
   ·subst hji
    unfold cA
    rw [if_pos hlt];trivial
   ·exact BRep.congr (ρ'.le_set _ _) (hs j hji) (fun k hk=>hs k (fun e=>by subst e;exact hnb j hk)) (r5 j)
  ·rw [hs j (ho j o1)] at e1
   rw [hs k (ho k o2)] at e2
   exact r7 j k b1 m1 b2 m2 hjk o1 o2 e1 e2
  ·exact r8
  ·obtain⟨t1,t2,t3⟩:=r9 b0 o0 hf0
   exact⟨t1,fun j n hj=>by rw [hs j (ho j hj)];exact t2 j n hj,t3⟩
 ·refine vY hr (ρ.le_set _ _) (fun j hj=>hne j ?_) ⟨y,hy,g1⟩
  rcases hj with hj | hj
  ·exact nol n1 j hj
  ·exact nol n2 j hj
 ·intro j
  rw [hmine]
  by_cases hj:j=bs1.length
  ·rw [hj,eH,if_pos rfl];exact g2
  ·rw [blk j hj]
   exact BRep.congr (ρ.le_set _ _) (hne j hj) (fun k hk=>hne k (fun e=>by subst e;exact nohas j hj hk)) (hb j)
 ·intro j
  by_cases hj:j=bs1.length
  ·rw [hj,eH,if_pos rfl]
   show Plain _
   have hf:flat c (Aw.part l a b)=((flat c l).drop (a.toNat*es)).take ((b.toNat - a.toNat)*es):=by rw [mX hc,mY hc];rfl
   rw [hf]
   exact fun k hk=>hpi k (hO (hH hk))
  ·rw [blk j hj];exact hpl j
 ·intro j k b1 m1 b2 m2 hjk o1 o2 e1 e2
  have hj:j≠bs1.length:=fun e=>by rw [e,eH,if_pos rfl] at o1;exact o1
  have hk:k≠bs1.length:=fun e=>by rw [e,eH,if_pos rfl] at o2;exact o2
  rw [blk j hj] at o1
  rw [blk k hk] at o2
  rw [hne j hj] at e1
  rw [hne k hk] at e2
  exact hap j k b1 m1 b2 m2 hjk o1 o2 e1 e2
 ·intro b0 o0 hf0
  obtain⟨t1,t2⟩:=hfz b0 o0 hf0
  refine⟨t1,fun j n hj=>?_⟩
  have hji:j≠bs1.length:=fun e=>by rw [e,eH,if_pos rfl] at hj;exact hj
  rw [blk j hji] at hj
  rw [hne j hji]
  exact t2 j n hj
theorem kO {x:BK} {bs:List BK} (j:Nat):(bs++[x]).getD j .un=if j=bs.length then x else bs.getD j .un:=by
 rw [eH (bs2:=[])]
 by_cases h:j=bs.length
 ·rw [if_pos h,if_pos h]
 ·rw [if_neg h,if_neg h]
  by_cases h2:j < bs.length
  ·rw [if_pos h2]
  ·rw [if_neg h2]
   simp only [cY]
   rw [List.getElem?_eq_none (by omega:bs.length<=j)];simp
theorem Con.alias {f:Nat} {pre post:List SV} {bs:List BK} {res:SV} {α:Type} {c:α->List SV} {es:Nat} {l:List α} {a b:Int} (i:Nat)(hc:∀x,(c x).length=es)(hab:0<=a/\a<=b/\b<=l.length)
 (hi:bs[i]? = some (.live false true (flat c l)))
 (hno:(!SV.hasBl bs.length pre&&!SV.hasBl bs.length post&&bs.all (fun x=>!x.hasB bs.length)&&!res.hasB bs.length)=true)
 (h:Con P f (pre++.s bs.length 0 (Aw.part l a b).length es::post) (bs++[.live false true (flat c (Aw.part l a b))]) res []) :
 Con P f (pre++.s i (0+a.toNat*es) (b.toNat - a.toNat) es::post) bs res []:=by
 simp only [Bool.and_eq_true,Bool.not_eq_true',List.all_eq_true] at hno
 obtain⟨⟨⟨n1,n2⟩,n3⟩,n6⟩:=hno
 refine⟨h.1,fun ρ W vs hr hb hpl hap hfz=>?_⟩
 have hilt:=(List.getElem?_eq_some_iff.1 hi).1
 have hgi:bs.getD i .un=.live false true (flat c l):=by rw [cY,hi];rfl
 obtain⟨y,hy,hry⟩:=aEe hr
 have hbi:=hb i
 have hpi:=hpl i
 rw [hgi] at hbi hpi
 obtain⟨q,hq⟩:=aG3 hc hab hry hbi hpi
 have hne:∀j,j≠bs.length->(ρ.set bs.length q) j=ρ j:=fun j hj=>by rw [Env.set_loc,if_neg hj]
 have hat:(ρ.set bs.length q) bs.length=q:=by rw [Env.set_loc,if_pos rfl]
 have hend:bs.getD bs.length .un=.un:=by rw [cY,List.getElem?_eq_none (Nat.le_refl _)];rfl
 have hown:rL (ρ.set bs.length q) (bs++[.live false true (flat c (Aw.part l a b))])=rL ρ bs:=by
  funext b0
  apply propext
  unfold rL
  constructor
  ·rintro ⟨j,n,h1,h2⟩
   rw [kO] at h1
   by_cases hj:j=bs.length
   ·rw [if_pos hj] at h1;exact h1.elim
   ·rw [if_neg hj] at h1
    exact⟨j,n,h1,by rw [←hne j hj];exact h2⟩
  ·rintro ⟨j,n,h1,h2⟩
   have hj:j≠bs.length:=fun e=>by rw [e,hend] at h1;exact h1
   exact⟨j,n,by rw [kO,if_neg hj];exact h1,by rw [hne j hj];exact h2⟩
 have hmine:(aZ (ρ.set bs.length q) W (bs++[.live false true (flat c (Aw.part l a b))])).mine=(aZ ρ W bs).mine:=by
  funext b0
  unfold Cx.mine aZ
  simp only [hown]
 obtain⟨g1,g2⟩:=hq bs.length (ρ.set bs.length q) hat rfl
 have nohas:∀j,¬(bs.getD j .un).has bs.length:=fun j hk=>by
  have hB:=aVv (hpl j) hk
  by_cases hlt:j < bs.length
  ·rw [cY,List.getElem?_eq_getElem hlt,Option.getD_some] at hB
   rw [n3 _ (List.getElem_mem hlt)] at hB;cases hB
  ·rw [cY,List.getElem?_eq_none (by omega),Option.getD_none] at hB;cases hB
 have nol:∀{m:List SV},SV.hasBl bs.length m=false->∀j,SV.hasl j m->j≠bs.length:=fun hm j hj e=>by
  subst e;rw [hasl_B _ hj] at hm;cases hm
 have hcall:=h.2 (ρ.set bs.length q) W vs ?_ ?_ ?_ ?_ ?_
 ·refine hcall.mono fun e W' hR=>?_
  obtain⟨ρ',v,r1,r2,r3,r4,r5,r6,r7,r8,r9⟩:=hR
  have un1:∀j,cA (aZ ρ W bs).base [] [] j=.un:=fun j=>by unfold cA;simp
  have un2:∀j,cA (aZ (ρ.set bs.length q) W (bs++[.live false true (flat c (Aw.part l a b))])).base [] [] j=.un:=fun j=>by unfold cA;simp
  refine⟨ρ',v,r1,fun j hj=>?_,r3,?_,fun j=>?_,fun j=>?_,fun j k b1 m1 b2 m2 hjk o1 o2 e1 e2=>?_,r8,fun b0 o0 hf0=>?_⟩
  ·have hj':j < bs.length:=hj
   rw [r2 j (by simp [aZ];omega)];exact hne j (by omega)
  ·have:(aZ (ρ.set bs.length q) W (bs++[.live false true (flat c (Aw.part l a b))])).own=(aZ ρ W bs).own:=hown
   rw [this] at r4;exact r4
  ·rw [un1];trivial
  ·rw [un1];trivial
  ·rw [un1] at o1;exact o1.elim
  ·obtain⟨t1,t2,t3⟩:=r9 b0 o0 hf0
   rw [hmine] at t3
   exact⟨t1,fun j n hj=>by rw [un1] at hj;exact hj.elim,t3⟩
 ·refine vY hr (ρ.le_set _ _) (fun j hj=>hne j ?_) ⟨y,hy,g1⟩
  rcases hj with hj | hj
  ·exact nol n1 j hj
  ·exact nol n2 j hj
 ·intro j
  rw [hmine,kO]
  by_cases hj:j=bs.length
  ·rw [if_pos hj,hj];exact g2
  ·rw [if_neg hj]
   exact BRep.congr (ρ.le_set _ _) (hne j hj) (fun k hk=>hne k (fun e=>by subst e;exact nohas j hk)) (hb j)
 ·intro j
  rw [kO]
  by_cases hj:j=bs.length
  ·rw [if_pos hj]
   show Plain _
   have hf:flat c (Aw.part l a b)=((flat c l).drop (a.toNat*es)).take ((b.toNat - a.toNat)*es):=by rw [mX hc,mY hc];rfl
   rw [hf]
   exact fun k hk=>hpi k (hO (hH hk))
  ·rw [if_neg hj];exact hpl j
 ·intro j k b1 m1 b2 m2 hjk o1 o2 e1 e2
  rw [kO] at o1 o2
  have hj:j≠bs.length:=fun e=>by rw [if_pos e] at o1;exact o1
  have hk:k≠bs.length:=fun e=>by rw [if_pos e] at o2;exact o2
  rw [if_neg hj] at o1
  rw [if_neg hk] at o2
  rw [hne j hj] at e1
  rw [hne k hk] at e2
  exact hap j k b1 m1 b2 m2 hjk o1 o2 e1 e2
 ·intro b0 o0 hf0
  obtain⟨t1,t2⟩:=hfz b0 o0 hf0
  refine⟨t1,fun j n hj=>?_⟩
  rw [kO] at hj
  have hji:j≠bs.length:=fun e=>by rw [if_pos e] at hj;exact hj
  rw [if_neg hji] at hj
  rw [hne j hji]
  exact t2 j n hj
end
def aI3 (T:Nat->Option TI)(rv:List ResultVar)(base:Nat)(ms ks:List Nat):Option (Out×List Ob×List Or)->Option (SV×List BK×List BK×List Ob)
 | some (.norm s,obs,[])=>match fin T rv base ms ks s with
  | some (res,nb,mb)=>some (res,nb,mb,obs)
  | none=>none
 | _=>none
theorem aSh {P:Program} {T:Nat->Option TI} {cx:Cx} {n:Nat} (hT:jJ P T)(hm:P.follows .mixedOrders=true) {fn:Func} {f:Nat} {k:List K} {s:LS} {orc:List Or} (ads:List Adj)(ms ks:List Nat) {base:Nat} (hb:cx.base=base) {res:SV} {nb mb:List BK} {obs:List Ob}
 (h:aI3 T fn.results.toList base ms ks (lN ads (run T f k s orc))=some (res,nb,mb,obs)) (hob:Obs P obs):Good P none n (bodyPost P fn (RR cx res nb mb)) cx [] k s:=by
 subst hb
 unfold aI3 at h
 split at h
 ·rename_i s' obs' hrun
  split at h
  ·rename_i res' nb' mb' hf
   simp only [aY,cW] at h
   obtain⟨rfl,rfl,rfl,rfl⟩:=h
   obtain⟨o',hr,hg⟩:=nP (P:=P) (r:=none) (n:=n) (Q:=bodyPost P fn (RR cx res' nb' mb')) (cx:=cx) (D:=[]) hrun
   exact eE hT hm f k s orc _ _ _ hr hob (hg (fun ρ a W hrep=>aIx hT hf ρ a W hrep))
  ·cases h
 ·cases h
end Go.Aw
namespace Go.Proofs.YtlckcjfbjnjfhaaGreat
open Go.Proofs Go.Aw Go.RowKit
set_option maxRecDepth 100000
noncomputable def T0:=conv Tryz.prog
theorem hT:jJ Tryz.prog T0:=fun _ _ h=>h
theorem hm:Tryz.prog.follows .mixedOrders=true:=by kernel_rfl
def W (n:Int):Int:=IntKind.wrap .i64 n
theorem aYr (n:Int):W n=if n % 18446744073709551616≥9223372036854775808 then n % 18446744073709551616 - 18446744073709551616 else n % 18446744073709551616:=by
 unfold W IntKind.wrap
 simp [IntKind.bits,IntKind.signed]
theorem aH {n:Int} (h1:-9223372036854775808<=n)(h2:n < 9223372036854775808):W n=n:=by
 rw [aYr];split<;>omega
theorem vZ (x:Int)(k:Nat) {m:Nat} (hm:(2:Int) ^ (min (tN k) 64)=m):Int.fdiv x (2 ^ (min (tN k) 64))=x / m:=by
 rw [hm];exact Int.fdiv_eq_ediv_of_nonneg _ (by omega)
theorem aLe {a b:Int} (h:0<=a/\a<=b/\b<=2147483648):W (Int.tdiv (W ((W (a+b))+1)) 2)=(a+b+1) / 2:=by
 rw [aH (n:=a+b) (by omega) (by omega),aH (n:=a+b+1) (by omega) (by omega),Int.tdiv_eq_ediv_of_nonneg (by omega),aH (by omega) (by omega)]
theorem aLf {a b:Int} (h:0<=a/\a<=b/\b<=2147483648):W (Int.tdiv (W (a+b)) 2)=(a+b) / 2:=by
 rw [aH (n:=a+b) (by omega) (by omega),Int.tdiv_eq_ediv_of_nonneg (by omega),aH (by omega) (by omega)]
theorem aSi {a b:Int} (h:0<=a/\a<=b/\b<=2147483648):W ((W (Int.tdiv (W ((W (a+b))+1)) 2)) - 1)=(a+b+1) / 2 - 1:=by
 rw [aLe h,aH (by omega) (by omega)]
theorem aSj {a b:Int} (h:0<=a/\a<=b/\b<=2147483648):W ((W (Int.tdiv (W (a+b)) 2))+1)=(a+b) / 2+1:=by
 rw [aLf h,aH (by omega) (by omega)]
theorem nR (n:Int):0<=IntKind.wrap .u64 n:=by
 simp only [IntKind.wrap,IntKind.bits,IntKind.signed]
 simp
 omega
theorem aLg (b:Bool):b=true\/b=false:=by cases b<;>simp
def k9 (x:Zt×Zt×Zt):List SV:=[(iv x.1.1),(iv x.1.2.1),(iv x.1.2.2),(iv x.2.1.1),(iv x.2.1.2.1),(iv x.2.1.2.2),(iv x.2.2.1),(iv x.2.2.2.1),(iv x.2.2.2.2)]
def k3 (x:Zt):List SV:=[(iv x.1),(iv x.2.1),(iv x.2.2)]
def k2 (x:Int×Int):List SV:=[(iv x.1),(iv x.2)]
section
variable {cx : Cx} {k : List K} {s : LS} {base : Nat} {Q : Exit → Act → World → Prop}
theorem rt {fn:Func} (sts:List (St Tryz.prog))(ads:List Adj)(ks:List Nat)(hb:cx.base=base) {res:SV} {nb:List BK}
 (h:aAr T0 fn.results.toList base [] ks (lN ads (run T0 5000 k s (lK sts)))=some (res,nb,[],stB sts)):Aw.Good Tryz.prog none 9 (bodyPost Tryz.prog fn (RR cx res nb [])) cx [] k s:=aYq hT hm sts ads ks hb h
theorem rtm {fn:Func} (sts:List (St Tryz.prog))(ads:List Adj)(ms ks:List Nat)(hb:cx.base=base) {res:SV} {nb mb:List BK}
 (h:aAr T0 fn.results.toList base ms ks (lN ads (run T0 5000 k s (lK sts)))=some (res,nb,mb,stB sts)):Aw.Good Tryz.prog none 9 (bodyPost Tryz.prog fn (RR cx res nb mb)) cx [] k s:=aEb hT hm ads ms ks hb h (aAz sts)
theorem rtn {fn:Func} (sts:List (St Tryz.prog))(ads:List Adj)(ms ks:List Nat)(hb:cx.base=base) {res:SV} {nb mb:List BK}
 (h:aI3 T0 fn.results.toList base ms ks (lN ads (run T0 5000 k s (lK sts)))=some (res,nb,mb,stB sts)):Aw.Good Tryz.prog none 9 (bodyPost Tryz.prog fn (RR cx res nb mb)) cx [] k s:=aSh hT hm ads ms ks hb h (aAz sts)
theorem en (sts:List (St Tryz.prog))(ads:List Adj)(ts ks:List Nat)(hb:cx.base=base)(body:Code)(k':List K)(s':LS)(m:Nat)
 (h:tR base ts ks (lN ads (run T0 5000 k s (lK sts)))=some (body,k',s',stB sts)) (hg:Aw.Good Tryz.prog none 9 Q cx [] (.l body m::k') s'):Aw.Good Tryz.prog none 9 Q cx [] k s:=aSg hT hm sts ads ts ks hb body k' s' m h hg
theorem ba {m:Nat} (sts:List (St Tryz.prog))(ads:List Adj)(ts ks:List Nat)(hb:cx.base=base)(body:Code)(k':List K)(s':LS)
 (h:aAs base ts ks (lN ads (run T0 5000 k s (lK sts)))=some (body,m,k',s',stB sts)) (hg:Aw.Good Tryz.prog none 9 Q cx [] (.l body m::k') s'):Aw.Good Tryz.prog none 9 Q cx [] k s:=aVu hT hm sts ads ts ks hb body k' s' h hg
theorem ga (sts:List (St Tryz.prog))(ads:List Adj)(ts ks:List Nat)(hb:cx.base=base)(x:Code)(k':List K)(s':LS)
 (h:aOp base ts ks (lN ads (run T0 5000 k s (lK sts)))=some (x,k',s',stB sts)) (hg:Aw.Good Tryz.prog none 9 Q cx [] (.c x::k') s'):Aw.Good Tryz.prog none 9 Q cx [] k s:=bBa hT hm sts ads ts ks hb x k' s' h hg
end
def rG (a0:Zt)(a1:Int):Zt :=
 ((W (a1*a0.1)),(W (a1*a0.2.1)),(W (a1*a0.2.2)))
theorem C71 (a0:Zt)(a1:Int):Con Tryz.prog 71 [(.a (k3 a0)),(iv a1)] [] (.a (k3 (rG a0 a1))) []:=by
 refine aT Tryz.func71 (by kernel_rfl) fun cx hcx=>?_
 have e:=Eq.refl (rG a0 a1);conv at e=>rhs;simp only [rG]
 rw [e]
 exact rt [] [] [] hcx (by kernel_rfl)
def fZ (a0:Zt)(a1:Zt):Zt :=
 ((W (a0.1+a1.1)),(W (a0.2.1+a1.2.1)),(W (a0.2.2+a1.2.2)))
theorem aVw (a0:Zt)(a1:Zt):Con Tryz.prog 160 [(.a (k3 a0)),(.a (k3 a1))] [] (.a (k3 (fZ a0 a1))) []:=by
 refine aT Tryz.func160 (by kernel_rfl) fun cx hcx=>?_
 have e:=Eq.refl (fZ a0 a1);conv at e=>rhs;simp only [fZ]
 rw [e]
 exact rt [] [] [] hcx (by kernel_rfl)
def cP (x:Zt×Zt×Zt):List SV:=[iv x.1.1,iv x.1.2.1,iv x.1.2.2,iv x.2.1.1,iv x.2.1.2.1,iv x.2.1.2.2,iv x.2.2.1,iv x.2.2.2.1,iv x.2.2.2.2]
def aEf (x:Zt×Zt×Zt):Value:=.agg #[.int .i64 x.1.1,.int .i64 x.1.2.1,.int .i64 x.1.2.2,.int .i64 x.2.1.1,.int .i64 x.2.1.2.1,.int .i64 x.2.1.2.2,.int .i64 x.2.2.1,.int .i64 x.2.2.2.1,.int .i64 x.2.2.2.2]
theorem aG4 (ρ:Env)(x:Zt×Zt×Zt):Rel ρ (.a (cP x)) (aEf x):=by
 simp only [Rel];exact⟨_,rfl,by simp [cP,Rels,Rel,iv]⟩
theorem aVx (x:Zt×Zt×Zt)(k:Nat):¬(SV.a (cP x)).has k:=by
 simp [cP,SV.has,SV.hasl,iv]
def yv (l:Nat):Value:=.func (.yield l) #[] #[]
def q1 (p:Zt×Zt×Zt):Zt×Zt×Zt:=(rG p.1 2,fZ p.1 p.2.1,fZ p.2.2 p.1)
def q2 (p:Zt×Zt×Zt):Zt×Zt×Zt:=(fZ p.1 p.2.1,rG p.2.1 2,fZ p.2.1 p.2.2)
def q3 (p:Zt×Zt×Zt):Zt×Zt×Zt:=(fZ p.2.2 p.1,fZ p.2.1 p.2.2,rG p.2.2 2)
def q4 (p:Zt×Zt×Zt):Zt×Zt×Zt:=(fZ p.1 p.2.1,fZ p.2.1 p.2.2,fZ p.2.2 p.1)
def bH:Nat->Zt×Zt×Zt->List (Zt×Zt×Zt)
 | 0,p=>[p]
 | d+1,p=>bH d (q1 p)++(bH d (q2 p)++(bH d (q3 p)++bH d (q4 p)))
def tT (l:Nat)(J:Nat->(Nat->Prop)->World->Prop)(Jx:(Nat->Prop)->World->Prop)(xs:List (Zt×Zt×Zt))(d:Nat):Prop :=
 ∀(p:Zt×Zt×Zt) (i:Nat) (S:Nat->Prop) (W:World) (ρ:Env) (vs:List Value),Rels ρ [.a (cP p),iv d,.p 0 0,.p 1 0] vs ->
   BRep ρ (fun b=>W.heap.size<=b) W 0 (.live false false [.v (yv l)])->BRep ρ (fun b=>W.heap.size<=b) W 1 (.live false false [.f 159 [.p 0 0,.p 1 0]]) ->
   (∀k,k < 2->∀b o n,ρ k=some (b,o,n)->¬S b)->J i S W->(∀j x,(bH d p)[j]? = some x->xs[i+j]? = some x) ->
   Calls Tryz.prog 159 vs.toArray W (VR J Jx (i+(bH d p).length) S W)
noncomputable def OY:Array Oper:=match (cH [1,0,1,0,0] [] (Tryz.f159.body.getD .skip)).1 with
 | .region _ ops _=>ops
 | _=>#[]
noncomputable def KY:List K:=(cH [1,0,1,0,0] [] (Tryz.f159.body.getD .skip)).2
noncomputable def OV:Array Oper:=match (cH [1,1,1,1,0,1,0,0,1,1,0,0,1,0] [0] (Tryz.f159.body.getD .skip)).1 with
 | .region _ ops _=>ops
 | _=>#[]
noncomputable def KV (m:Nat):List K:=(cH [1,1,1,1,0,1,0,0,1,1,0,0,1,0] [m] (Tryz.f159.body.getD .skip)).2
noncomputable def oY:Oper:=OY.toList.getD 2 dF
noncomputable def oV:Oper:=OV.toList.getD 4 dF
noncomputable def aI4 (o:Oper):Array TypeId:=match o.op with
 | .call c=>c.argTypes
 | _=>#[]
theorem aYs:oY.op=.call { callee:=.value (.tmp 17),args:=#[.tmp 18],argTypes:=aI4 oY }:=by kernel_rfl
theorem aYt:oV.op=.call { callee:=.value (.tmp 66),args:=#[.tmp 67,.tmp 69],argTypes:=aI4 oV }:=by kernel_rfl
theorem aOv:OY.toList=OY.toList.take 2++oY::OY.toList.drop 3:=by kernel_rfl
theorem tU:OV.toList=OV.toList.take 4++oV::OV.toList.drop 5:=by kernel_rfl
theorem aOw:mA Tryz.prog 159:=ent Tryz.func159 (by kernel_rfl) rfl
theorem aVy:mA Tryz.prog 158:=ent Tryz.func158 (by kernel_rfl) rfl
def zY (l:Nat)(p:Zt×Zt×Zt):LS:=⟨[.u,.u,.p 0 0,.u,.p 2 0,.u,.u,.u,.u,.u,.u,.u,.u,.u,.u,.u,.u,.u,.u,.u,.u,.u,.u,.u,.u,.u,.u,.u,.u,.u,.u,.u,.u,.u,.u,.u,.u,.u,.u,.u,.u,.u,.u,.u,.u,.u,.u,.u,.u,.u,.u,.u,.u,.u,.u,.u,.u,.u,.u,.u,.u,.u,.u,.u,.u,.u,.u,.u,.u,.u,.u,.u,.u],[.live false false [.v (yv l)],.live false false [.f 159 [.p 0 0,.p 1 0]],.live true false (cP p)]⟩
def zY1 (l:Nat)(p:Zt×Zt×Zt):LS:=⟨[.u,.u,.p 0 0,.u,.p 2 0,.u,.u,.u,.u,.u,.u,.u,.u,.u,.u,.u,.u,.v (yv l),.a (cP p),.u,.u,.u,.u,.u,.u,.u,.u,.u,.u,.u,.u,.u,.u,.u,.u,.u,.u,.u,.u,.u,.u,.u,.u,.u,.u,.u,.u,.u,.u,.u,.u,.u,.u,.u,.u,.u,.u,.u,.u,.u,.u,.u,.u,.u,.u,.u,.u,.u,.u,.u,.u,.u,.u],[.live false false [.v (yv l)],.live false false [.f 159 [.p 0 0,.p 1 0]],.live true false (cP p)]⟩
def zY3 (l:Nat)(p:Zt×Zt×Zt)(b:Bool):LS:=⟨[.u,.u,.p 0 0,.u,.p 2 0,.u,.v (.bool b),.u,.u,.u,.u,.u,.u,.u,.u,.u,.u,.v (yv l),.a (cP p),.v (.bool b),.u,.u,.u,.u,.u,.u,.u,.u,.u,.u,.u,.u,.u,.u,.u,.u,.u,.u,.u,.u,.u,.u,.u,.u,.u,.u,.u,.u,.u,.u,.u,.u,.u,.u,.u,.u,.u,.u,.u,.u,.u,.u,.u,.u,.u,.u,.u,.u,.u,.u,.u,.u,.u],[.live false false [.v (yv l)],.live false false [.f 159 [.p 0 0,.p 1 0]],.live false false (cP p)]⟩
def zV1 (l:Nat)(p:Zt×Zt×Zt)(d:Int):LS:=⟨[.u,iv d,.u,.p 1 0,.u,.u,.u,.u,.u,.u,.u,.u,.u,.u,.p 3 0,.u,.u,.u,.u,.u,.u,.u,.u,.u,.u,.u,.u,.u,.u,.u,.u,.u,.u,.u,.u,.u,.u,.u,.u,.u,.u,.u,.u,.u,.u,.u,.u,.u,.u,.u,.u,.u,.u,.u,.u,.u,.u,.u,.u,.u,.s 2 0 4 9,iv 4,iv 0,.u,.u,.u,.u,.u,.u,.u,.u,.u,.u],[.live false false [.v (yv l)],.live false false [.f 159 [.p 0 0,.p 1 0]],.live true false (cP (q1 p)++(cP (q2 p)++(cP (q3 p)++cP (q4 p)))),.live true false (cP (q1 p))]⟩
def bBb (l:Nat)(p:Zt×Zt×Zt)(d:Int):LS:=⟨[.u,iv d,.u,.p 1 0,.u,.u,.u,.u,.u,.u,.u,.u,.u,.u,.p 3 0,.u,.u,.u,.u,.u,.u,.u,.u,.u,.u,.u,.u,.u,.u,.u,.u,.u,.u,.u,.u,.u,.u,.u,.u,.u,.u,.u,.u,.u,.u,.u,.u,.u,.u,.u,.u,.u,.u,.u,.u,.u,.u,.u,.u,.u,.s 2 0 4 9,iv 4,iv 0,.u,.u,.u,.f 159 [.p 0 0,.p 1 0],.a (cP (q1 p)),iv d,iv (W (d - 1)),.u,.u,.u],[.live false false [.v (yv l)],.live false false [.f 159 [.p 0 0,.p 1 0]],.live true false (cP (q1 p)++(cP (q2 p)++(cP (q3 p)++cP (q4 p)))),.live true false (cP (q1 p))]⟩
def bBc (l:Nat)(p:Zt×Zt×Zt)(d:Int)(b:Bool):LS:=⟨[.u,iv d,.u,.p 1 0,.u,.u,.u,.u,.u,.u,.u,.u,.u,.u,.p 3 0,.u,.u,.u,.u,.u,.u,.u,.u,.u,.u,.u,.u,.u,.u,.u,.u,.u,.u,.u,.u,.u,.u,.u,.u,.u,.u,.u,.u,.u,.u,.u,.u,.u,.u,.u,.u,.u,.u,.u,.u,.u,.u,.u,.u,.u,.s 2 0 4 9,iv 4,iv 0,.u,.u,.u,.f 159 [.p 0 0,.p 1 0],.a (cP (q1 p)),iv d,iv (W (d - 1)),.v (.bool b),.v (.bool (!b)),.u],[.live false false [.v (yv l)],.live false false [.f 159 [.p 0 0,.p 1 0]],.live false false (cP (q1 p)++(cP (q2 p)++(cP (q3 p)++cP (q4 p)))),.live false false (cP (q1 p))]⟩
def zV2 (l:Nat)(p:Zt×Zt×Zt)(d:Int):LS:=⟨[.u,iv d,.u,.p 1 0,.u,.u,.u,.u,.u,.u,.u,.u,.u,.u,.p 4 0,.u,.u,.u,.u,.u,.u,.u,.u,.u,.u,.u,.u,.u,.u,.u,.u,.u,.u,.u,.u,.u,.u,.u,.u,.u,.u,.u,.u,.u,.u,.u,.u,.u,.u,.u,.u,.u,.u,.u,.u,.u,.u,.u,.u,.u,.s 2 0 4 9,iv 4,iv 1,.u,.u,.u,.u,.u,.u,.u,.u,.u,.u],[.live false false [.v (yv l)],.live false false [.f 159 [.p 0 0,.p 1 0]],.live false false (cP (q1 p)++(cP (q2 p)++(cP (q3 p)++cP (q4 p)))),.live false false (cP (q1 p)),.live true false (cP (q2 p))]⟩
def bBd (l:Nat)(p:Zt×Zt×Zt)(d:Int):LS:=⟨[.u,iv d,.u,.p 1 0,.u,.u,.u,.u,.u,.u,.u,.u,.u,.u,.p 4 0,.u,.u,.u,.u,.u,.u,.u,.u,.u,.u,.u,.u,.u,.u,.u,.u,.u,.u,.u,.u,.u,.u,.u,.u,.u,.u,.u,.u,.u,.u,.u,.u,.u,.u,.u,.u,.u,.u,.u,.u,.u,.u,.u,.u,.u,.s 2 0 4 9,iv 4,iv 1,.u,.u,.u,.f 159 [.p 0 0,.p 1 0],.a (cP (q2 p)),iv d,iv (W (d - 1)),.u,.u,.u],[.live false false [.v (yv l)],.live false false [.f 159 [.p 0 0,.p 1 0]],.live false false (cP (q1 p)++(cP (q2 p)++(cP (q3 p)++cP (q4 p)))),.live false false (cP (q1 p)),.live true false (cP (q2 p))]⟩
def bBe (l:Nat)(p:Zt×Zt×Zt)(d:Int)(b:Bool):LS:=⟨[.u,iv d,.u,.p 1 0,.u,.u,.u,.u,.u,.u,.u,.u,.u,.u,.p 4 0,.u,.u,.u,.u,.u,.u,.u,.u,.u,.u,.u,.u,.u,.u,.u,.u,.u,.u,.u,.u,.u,.u,.u,.u,.u,.u,.u,.u,.u,.u,.u,.u,.u,.u,.u,.u,.u,.u,.u,.u,.u,.u,.u,.u,.u,.s 2 0 4 9,iv 4,iv 1,.u,.u,.u,.f 159 [.p 0 0,.p 1 0],.a (cP (q2 p)),iv d,iv (W (d - 1)),.v (.bool b),.v (.bool (!b)),.u],[.live false false [.v (yv l)],.live false false [.f 159 [.p 0 0,.p 1 0]],.live false false (cP (q1 p)++(cP (q2 p)++(cP (q3 p)++cP (q4 p)))),.live false false (cP (q1 p)),.live false false (cP (q2 p))]⟩
def zV3 (l:Nat)(p:Zt×Zt×Zt)(d:Int):LS:=⟨[.u,iv d,.u,.p 1 0,.u,.u,.u,.u,.u,.u,.u,.u,.u,.u,.p 5 0,.u,.u,.u,.u,.u,.u,.u,.u,.u,.u,.u,.u,.u,.u,.u,.u,.u,.u,.u,.u,.u,.u,.u,.u,.u,.u,.u,.u,.u,.u,.u,.u,.u,.u,.u,.u,.u,.u,.u,.u,.u,.u,.u,.u,.u,.s 2 0 4 9,iv 4,iv 2,.u,.u,.u,.u,.u,.u,.u,.u,.u,.u],[.live false false [.v (yv l)],.live false false [.f 159 [.p 0 0,.p 1 0]],.live false false (cP (q1 p)++(cP (q2 p)++(cP (q3 p)++cP (q4 p)))),.live false false (cP (q1 p)),.live false false (cP (q2 p)),.live true false (cP (q3 p))]⟩
def bBf (l:Nat)(p:Zt×Zt×Zt)(d:Int):LS:=⟨[.u,iv d,.u,.p 1 0,.u,.u,.u,.u,.u,.u,.u,.u,.u,.u,.p 5 0,.u,.u,.u,.u,.u,.u,.u,.u,.u,.u,.u,.u,.u,.u,.u,.u,.u,.u,.u,.u,.u,.u,.u,.u,.u,.u,.u,.u,.u,.u,.u,.u,.u,.u,.u,.u,.u,.u,.u,.u,.u,.u,.u,.u,.u,.s 2 0 4 9,iv 4,iv 2,.u,.u,.u,.f 159 [.p 0 0,.p 1 0],.a (cP (q3 p)),iv d,iv (W (d - 1)),.u,.u,.u],[.live false false [.v (yv l)],.live false false [.f 159 [.p 0 0,.p 1 0]],.live false false (cP (q1 p)++(cP (q2 p)++(cP (q3 p)++cP (q4 p)))),.live false false (cP (q1 p)),.live false false (cP (q2 p)),.live true false (cP (q3 p))]⟩
def bBg (l:Nat)(p:Zt×Zt×Zt)(d:Int)(b:Bool):LS:=⟨[.u,iv d,.u,.p 1 0,.u,.u,.u,.u,.u,.u,.u,.u,.u,.u,.p 5 0,.u,.u,.u,.u,.u,.u,.u,.u,.u,.u,.u,.u,.u,.u,.u,.u,.u,.u,.u,.u,.u,.u,.u,.u,.u,.u,.u,.u,.u,.u,.u,.u,.u,.u,.u,.u,.u,.u,.u,.u,.u,.u,.u,.u,.u,.s 2 0 4 9,iv 4,iv 2,.u,.u,.u,.f 159 [.p 0 0,.p 1 0],.a (cP (q3 p)),iv d,iv (W (d - 1)),.v (.bool b),.v (.bool (!b)),.u],[.live false false [.v (yv l)],.live false false [.f 159 [.p 0 0,.p 1 0]],.live false false (cP (q1 p)++(cP (q2 p)++(cP (q3 p)++cP (q4 p)))),.live false false (cP (q1 p)),.live false false (cP (q2 p)),.live false false (cP (q3 p))]⟩
def zV4 (l:Nat)(p:Zt×Zt×Zt)(d:Int):LS:=⟨[.u,iv d,.u,.p 1 0,.u,.u,.u,.u,.u,.u,.u,.u,.u,.u,.p 6 0,.u,.u,.u,.u,.u,.u,.u,.u,.u,.u,.u,.u,.u,.u,.u,.u,.u,.u,.u,.u,.u,.u,.u,.u,.u,.u,.u,.u,.u,.u,.u,.u,.u,.u,.u,.u,.u,.u,.u,.u,.u,.u,.u,.u,.u,.s 2 0 4 9,iv 4,iv 3,.u,.u,.u,.u,.u,.u,.u,.u,.u,.u],[.live false false [.v (yv l)],.live false false [.f 159 [.p 0 0,.p 1 0]],.live false false (cP (q1 p)++(cP (q2 p)++(cP (q3 p)++cP (q4 p)))),.live false false (cP (q1 p)),.live false false (cP (q2 p)),.live false false (cP (q3 p)),.live true false (cP (q4 p))]⟩
def bBh (l:Nat)(p:Zt×Zt×Zt)(d:Int):LS:=⟨[.u,iv d,.u,.p 1 0,.u,.u,.u,.u,.u,.u,.u,.u,.u,.u,.p 6 0,.u,.u,.u,.u,.u,.u,.u,.u,.u,.u,.u,.u,.u,.u,.u,.u,.u,.u,.u,.u,.u,.u,.u,.u,.u,.u,.u,.u,.u,.u,.u,.u,.u,.u,.u,.u,.u,.u,.u,.u,.u,.u,.u,.u,.u,.s 2 0 4 9,iv 4,iv 3,.u,.u,.u,.f 159 [.p 0 0,.p 1 0],.a (cP (q4 p)),iv d,iv (W (d - 1)),.u,.u,.u],[.live false false [.v (yv l)],.live false false [.f 159 [.p 0 0,.p 1 0]],.live false false (cP (q1 p)++(cP (q2 p)++(cP (q3 p)++cP (q4 p)))),.live false false (cP (q1 p)),.live false false (cP (q2 p)),.live false false (cP (q3 p)),.live true false (cP (q4 p))]⟩
def bBi (l:Nat)(p:Zt×Zt×Zt)(d:Int)(b:Bool):LS:=⟨[.u,iv d,.u,.p 1 0,.u,.u,.u,.u,.u,.u,.u,.u,.u,.u,.p 6 0,.u,.u,.u,.u,.u,.u,.u,.u,.u,.u,.u,.u,.u,.u,.u,.u,.u,.u,.u,.u,.u,.u,.u,.u,.u,.u,.u,.u,.u,.u,.u,.u,.u,.u,.u,.u,.u,.u,.u,.u,.u,.u,.u,.u,.u,.s 2 0 4 9,iv 4,iv 3,.u,.u,.u,.f 159 [.p 0 0,.p 1 0],.a (cP (q4 p)),iv d,iv (W (d - 1)),.v (.bool b),.v (.bool (!b)),.u],[.live false false [.v (yv l)],.live false false [.f 159 [.p 0 0,.p 1 0]],.live false false (cP (q1 p)++(cP (q2 p)++(cP (q3 p)++cP (q4 p)))),.live false false (cP (q1 p)),.live false false (cP (q2 p)),.live false false (cP (q3 p)),.live false false (cP (q4 p))]⟩
def vb:SV->Bool
 | .v _ | .b _=>true
 | _=>false
theorem aA0 {ρ ρ':Env}:∀{l:List SV} {vs us:List Value},l.all vb=true->Rels ρ l vs->Rels ρ' l us->vs=us
 | [],[],[],_,_,_=>rfl
 | [],_::_,_,_,h,_=>by simp [Rels] at h
 | [],[],_::_,_,_,h=>by simp [Rels] at h
 | _::_,[],_,_,h,_=>by simp [Rels] at h
 | _::_,_::_,[],_,_,h=>by simp [Rels] at h
 | x::l,y::vs,z::us,hp,h1,h2=>by
  simp only [List.all_cons,Bool.and_eq_true] at hp
  simp only [Rels] at h1 h2
  rw [aA0 hp.2 h1.2 h2.2]
  have:y=z:=by
   cases x<;>simp only [vb,Bool.false_eq_true,false_and] at hp
   ·have a1:=h1.1;have a2:=h2.1;simp only [Rel] at a1 a2;rw [a1,a2]
   ·have a1:=h1.1;have a2:=h2.1;simp only [Rel] at a1 a2;rw [a1,a2]
  rw [this]
theorem qL {ρ:Env} {x:SV} {l:List SV} {y:Value} {m:List Value} (h:Rel ρ x y)(h':Rels ρ l m):Rels ρ (x::l) (y::m):=by simp only [Rels];exact⟨h,h'⟩
theorem aEg {α:Type} {xs A B:List α} {i:Nat} (h:∀j x,(A++B)[j]? = some x->xs[i+j]? = some x):(∀j x,A[j]? = some x->xs[i+j]? = some x)/\(∀j x,B[j]? = some x->xs[i+A.length+j]? = some x) :=
 ⟨fun j x hj=>h j x (by rw [List.getElem?_append_left (List.getElem?_eq_some_iff.1 hj).1];exact hj),fun j x hj=>by
  have:=h (A.length+j) x (by rw [List.getElem?_append_right (by omega),Nat.add_sub_cancel_left];exact hj)
  rwa [←Nat.add_assoc] at this⟩
section
variable {l : Nat} {J : Nat → (Nat → Prop) → World → Prop} {Jx : (Nat → Prop) → World → Prop} {xs : List (Zt × Zt × Zt)}
theorem kP (hJ:vX J)(hX:aEd Jx) {m m':Nat} {W0:World} {S:Nat->Prop} {cx:Cx} {b:Bool} (h1:b=true->∃Sc,Seg J W0 S m' cx Sc)(h2:b=false->SegX Jx W0 S cx)(hm:m'=m)(Wd:World)(hb:Below cx.w.heap.size cx.w Wd)(hd:cx.w.drawn<=Wd.drawn) :
 VR J Jx m S W0 (.returned (.bool b)) Wd:=by
 subst hm
 cases b with
 | true =>
  obtain⟨Sc,h⟩:=h1 rfl
  exact .inl ⟨rfl,Sc,hJ _ _ _ _ h.j hb hd,h.kept.grow hb hd,h.sub⟩
 | false =>
  have h:=h2 rfl
  obtain⟨Sc,hj⟩:=h.j
  exact .inr ⟨rfl,Sc,hX _ _ _ hj hb hd,h.kept.grow hb hd⟩
theorem aVz (hJ:vX J)(hX:aEd Jx)(hB:pJ J)(hY:∀i x S W1,xs[i]? = some x->J i S W1->YieldAt (Fw none) 9 Tryz.prog l #[aEf x] W1 (YR J Jx i S W1)):tT l J Jx xs 0:=by
 intro p i S Wd ρ vs hargs hb0 hb1 hS hj hxs
 have hx:xs[i]? = some p:=by have:=hxs 0 p rfl;simpa using this
 refine mB (n:=9) (bs:=[.live false false [.v (yv l)],.live false false [.f 159 [.p 0 0,.p 1 0]]]) Tryz.func159 rfl (by show 4<=Tryz.f159.ntmps;decide) (by kernel_rfl) ⟨rfl,rfl,trivial⟩ (by kernel_rfl) (fun i=>by rcases i with _ | _ | i<;>simp [BK.own]) (by kernel_rfl) hargs (fun i=>by rcases i with _ | _ | i<;>first | exact hb0 | exact hb1 | simp [BRep]) (fun i=>by rcases i with _ | _ | i<;>simp [BK.pl]) (fun cx hbase hw hρ hfz hown=>?_)
 subst hw
 have hd:((((0:Nat):Int):Int) == 0)=true:=rfl
 refine xV (T:=T0) hT hm (f:=5000) (orc:=[.d true,.stop 2]) [] [2,4] [2] hbase (x:=.region 2 OY false) (k':=KY) (s':=zY l p)
  (obs:=[.eq ((((0:Nat):Int):Int) == 0) true]) (by kernel_rfl) ⟨hd,trivial⟩ ?_
 have hseg:Seg J cx.w S i cx S:=⟨hj,Kept.refl _ _,fun b h=>.inl h,fun k b o n hk h=>hS k (by rw [hbase] at hk;exact hk) b o n ((hρ k).symm.trans h),hown,fun b o ho=>by rw [hfz b] at ho;cases ho⟩
 refine pL (Jx:=Jx) hT hJ hB (m:=i+1) hseg (OY.toList.take 2) oY (OY.toList.drop 3) aOv (s1:=zY1 l p) (by kernel_rfl) (by kernel_rfl) 19 (by kernel_rfl) (dB (by kernel_rfl)) 2 hbase (by kernel_rfl) (by kernel_rfl)
  (fun ρ a W2 hrep hsafe hj2 K Q' hK=>?_) (zY3 l p) (fun b=>by kernel_rfl) (fun b cx' hb' h1 h2=>?_)
 ·have e1:=hrep.sl 17
  have e2:=hrep.sl 18
  refine aOs aYs (l:=l) (vs:=#[aEf p]) ?_ ?_ (hY i p S W2 hx hj2) hK
  ·exact e1
  ·have:a.eval (.tmp 18)=aEf p:=by
    have e3:Rel ρ (.a (cP p)) (a.tmps.getD 18 undef):=e2
    simp only [Rel] at e3
    obtain⟨vs,hv,hr⟩:=e3
    have h':=aG4 ρ p
    simp only [Rel] at h'
    obtain⟨us,hu,hr'⟩:=h'
    show a.tmps.getD 18 undef=aEf p
    rw [hv,hu]
    have:vs=us:=aA0 (by simp [cP,vb,iv]) hr hr'
    rw [this]
   simp [this]
 ·have hown':∀c,¬cx'.own c:=by
   cases b with
   | true=>obtain⟨Sc,h⟩:=h1 rfl;exact h.own
   | false=>exact(h2 rfl).own
  exact qK (T:=T0) hT hm (f:=5000) (orc:=[]) (b:=b) (obs:=[]) (by cases b<;>kernel_rfl) trivial hown' (fun Wd hW hWd=>kP hJ hX h1 h2 rfl Wd hW hWd)
theorem aLh {d:Nat} (ih:tT l J Jx xs d) {cx:Cx} {N:Nat} {D:List Deferred} {ρ:Env} {s:FS} {a:Act} {Wd:World} (hrep:Rep cx N D ρ s a Wd) {p:Zt×Zt×Zt} {i:Nat} {S:Nat->Prop}
 (hdl:d < 1000) (e1:s.sl 66=.f 159 [.p 0 0,.p 1 0]) (e2:s.sl 67=.a (cP p)) (e3:s.sl 69=iv (W (((d+1:Nat):Int) - 1))) (e4:s.bk 0=.live false false [.v (yv l)]) (e5:s.bk 1=.live false false [.f 159 [.p 0 0,.p 1 0]])
 (hS:∀k,k < 2->∀b o n,ρ k=some (b,o,n)->¬S b) (hj:J i S Wd) (hxs:∀j x,(bH d p)[j]? = some x->xs[i+j]? = some x)
 (K:Act->World->Prop) (Q:Exit->Act->World->Prop) (hK:∀e Wd',VR J Jx (i+(bH d p).length) S Wd e Wd'->∃v,e=.returned v/\K (a.put oV.dst v) Wd'):oV.wpIn (Fw none) 9 Tryz.prog a Wd K Q:=by
 have r1:=hrep.sl 66
 have r2:=hrep.sl 67
 have r3:=hrep.sl 69
 rw [e1] at r1;rw [e2] at r2;rw [e3] at r3
 have hw:W (((d+1:Nat):Int) - 1)=(d:Int):=by rw [aH]<;>omega
 rw [hw] at r3
 simp only [Rel] at r1
 obtain⟨vs,hv,hc⟩:=r1
 have b0:=hrep.bk 0
 have b1:=hrep.bk 1
 rw [e4] at b0;rw [e5] at b1
 refine aLc aYt (g:=159) (caps:=vs) hv aOw (ih p i S Wd ρ _ ?_ b0.ro b1.ro hS hj hxs) hK
 exact qL r2 (qL r3 hc)
theorem aV0 (hJ:vX J)(hX:aEd Jx)(hB:pJ J) {d:Nat} (hdl:d < 1000)(ih:tT l J Jx xs d):tT l J Jx xs (d+1):=by
 intro p i S Wd ρ vs hargs hb0 hb1 hS hj hxs
 obtain⟨hx1,hr1⟩:=aEg hxs
 obtain⟨hx2,hr2⟩:=aEg hr1
 obtain⟨hx3,hx4⟩:=aEg hr2
 refine mB (n:=9) (bs:=[.live false false [.v (yv l)],.live false false [.f 159 [.p 0 0,.p 1 0]]]) Tryz.func159 rfl (by show 4<=Tryz.f159.ntmps;decide) (by kernel_rfl) ⟨rfl,rfl,trivial⟩ (by kernel_rfl) (fun i=>by rcases i with _ | _ | i<;>simp [BK.own]) (by kernel_rfl) hargs (fun i=>by rcases i with _ | _ | i<;>first | exact hb0 | exact hb1 | simp [BRep]) (fun i=>by rcases i with _ | _ | i<;>simp [BK.pl]) (fun cx hbase hw hρ hfz hown=>?_)
 subst hw
 have hd:((((d+1:Nat):Int):Int) == 0)=false:=by rw [beq_eq_false_iff_ne];omega
 have hseg:Seg J cx.w S i cx S:=⟨hj,Kept.refl _ _,fun b h=>.inl h,fun k b o n hk h=>hS k (by rw [hbase] at hk;exact hk) b o n ((hρ k).symm.trans h),hown,fun b o ho=>by rw [hfz b] at ho;cases ho⟩
 refine xV (T:=T0) hT hm (f:=5000) (orc:=[.d false,.call [] (.a [(iv (rG p.1 2).1),(iv (rG p.1 2).2.1),(iv (rG p.1 2).2.2)]) [],.call [] (.a [(iv (rG p.2.1 2).1),(iv (rG p.2.1 2).2.1),(iv (rG p.2.1 2).2.2)]) [],.call [] (.a [(iv (rG p.2.2 2).1),(iv (rG p.2.2 2).2.1),(iv (rG p.2.2 2).2.2)]) [],.call [] (.a [(iv (fZ p.1 p.2.1).1),(iv (fZ p.1 p.2.1).2.1),(iv (fZ p.1 p.2.1).2.2)]) [],.call [] (.a [(iv (fZ p.2.1 p.2.2).1),(iv (fZ p.2.1 p.2.2).2.1),(iv (fZ p.2.1 p.2.2).2.2)]) [],.call [] (.a [(iv (fZ p.2.2 p.1).1),(iv (fZ p.2.2 p.1).2.1),(iv (fZ p.2.2 p.1).2.2)]) [],.un 4,.d true,.stop 8]) [] [1,3,14,60,61,62] [9,10] hbase (x:=.region 8 OV false) (k':=KV 4) (s':=zV1 l p (d+1:Nat))
  (obs:=[.eq ((((d+1:Nat):Int):Int) == 0) false,.call 71 [(.a [(iv p.1.1),(iv p.1.2.1),(iv p.1.2.2)]),(iv 2)] [] (.a [(iv (rG p.1 2).1),(iv (rG p.1 2).2.1),(iv (rG p.1 2).2.2)]) [],.call 71 [(.a [(iv p.2.1.1),(iv p.2.1.2.1),(iv p.2.1.2.2)]),(iv 2)] [] (.a [(iv (rG p.2.1 2).1),(iv (rG p.2.1 2).2.1),(iv (rG p.2.1 2).2.2)]) [],.call 71 [(.a [(iv p.2.2.1),(iv p.2.2.2.1),(iv p.2.2.2.2)]),(iv 2)] [] (.a [(iv (rG p.2.2 2).1),(iv (rG p.2.2 2).2.1),(iv (rG p.2.2 2).2.2)]) [],.call 160 [(.a [(iv p.1.1),(iv p.1.2.1),(iv p.1.2.2)]),(.a [(iv p.2.1.1),(iv p.2.1.2.1),(iv p.2.1.2.2)])] [] (.a [(iv (fZ p.1 p.2.1).1),(iv (fZ p.1 p.2.1).2.1),(iv (fZ p.1 p.2.1).2.2)]) [],.call 160 [(.a [(iv p.2.1.1),(iv p.2.1.2.1),(iv p.2.1.2.2)]),(.a [(iv p.2.2.1),(iv p.2.2.2.1),(iv p.2.2.2.2)])] [] (.a [(iv (fZ p.2.1 p.2.2).1),(iv (fZ p.2.1 p.2.2).2.1),(iv (fZ p.2.1 p.2.2).2.2)]) [],.call 160 [(.a [(iv p.2.2.1),(iv p.2.2.2.1),(iv p.2.2.2.2)]),(.a [(iv p.1.1),(iv p.1.2.1),(iv p.1.2.2)])] [] (.a [(iv (fZ p.2.2 p.1).1),(iv (fZ p.2.2 p.1).2.1),(iv (fZ p.2.2 p.1).2.2)]) [],.eq true true,.pr (0<=(0:Int)/\(0:Int) < ((4:Nat):Int))]) (by kernel_rfl) ⟨hd,(C71 p.1 2),(C71 p.2.1 2),(C71 p.2.2 2),(aVw p.1 p.2.1),(aVw p.2.1 p.2.2),(aVw p.2.2 p.1),rfl,(show 0<=(0:Int)/\(0:Int) < ((4:Nat):Int) from by decide),trivial⟩ ?_
 refine pL (Jx:=Jx) hT hJ hB (m:=i+(bH d (q1 p)).length) hseg (OV.toList.take 4) oV (OV.toList.drop 5) tU (s1:=bBb l p (d+1:Nat)) (by kernel_rfl) (by kernel_rfl) 70 (by kernel_rfl) (dB (by kernel_rfl)) 2 hbase (by kernel_rfl) (by kernel_rfl)
  (fun ρ a W2 hrep hsafe hj2 K Q' hK=>aLh ih hrep hdl rfl rfl rfl rfl rfl (fun k hk b o n h=>(match k,hk,h with | 0,_,h=>hsafe 0 _ _ _ rfl b o n h | 1,_,h=>hsafe 1 _ _ _ rfl b o n h)) hj2 (fun j x hj=>hx1 j x hj) K Q' hK) (bBc l p (d+1:Nat)) (fun b=>by kernel_rfl) (fun b cx hbase h1 h2=>?_)
 cases b with
 | false =>
  exact qK (T:=T0) hT hm (f:=5000) (orc:=[.d true]) (b:=false) (obs:=[.eq (!false) true]) (by kernel_rfl) ⟨rfl,trivial⟩ (h2 rfl).own (fun W hW hWd=>kP (m':=i+(bH (d+1) p).length) hJ hX (fun h=>by cases h) h2 rfl W hW hWd)
 | true =>
  obtain⟨Sc,hseg⟩:=h1 rfl
  refine xV (T:=T0) hT hm (f:=5000) (orc:=[.d false,.un 0,.d true,.stop 8]) [] [1,3,14,60,61,62] [4] hbase (x:=.region 8 OV false) (k':=KV 3) (s':=zV2 l p (d+1:Nat))
   (obs:=[.eq (!true) false,.eq (decide ((1:Int) < 4)) true,.pr (0<=(1:Int)/\(1:Int) < ((4:Nat):Int))]) (by kernel_rfl) ⟨rfl,rfl,(show 0<=(1:Int)/\(1:Int) < ((4:Nat):Int) from by decide),trivial⟩ ?_
  refine pL (Jx:=Jx) hT hJ hB (m:=i+(bH d (q1 p)).length+(bH d (q2 p)).length) hseg (OV.toList.take 4) oV (OV.toList.drop 5) tU (s1:=bBd l p (d+1:Nat)) (by kernel_rfl) (by kernel_rfl) 70 (by kernel_rfl) (dB (by kernel_rfl)) 4 hbase (by kernel_rfl) (by kernel_rfl)
   (fun ρ a W2 hrep hsafe hj2 K Q' hK=>aLh ih hrep hdl rfl rfl rfl rfl rfl (fun k hk b o n h=>(match k,hk,h with | 0,_,h=>hsafe 0 _ _ _ rfl b o n h | 1,_,h=>hsafe 1 _ _ _ rfl b o n h)) hj2 (fun j x hj=>hx2 j x hj) K Q' hK) (bBe l p (d+1:Nat)) (fun b=>by kernel_rfl) (fun b cx hbase h1 h2=>?_)
  cases b with
  | false =>
   exact qK (T:=T0) hT hm (f:=5000) (orc:=[.d true]) (b:=false) (obs:=[.eq (!false) true]) (by kernel_rfl) ⟨rfl,trivial⟩ (h2 rfl).own (fun W hW hWd=>kP (m':=i+(bH (d+1) p).length) hJ hX (fun h=>by cases h) h2 rfl W hW hWd)
  | true =>
   obtain⟨Sc,hseg⟩:=h1 rfl
   refine xV (T:=T0) hT hm (f:=5000) (orc:=[.d false,.un 0,.d true,.stop 8]) [] [1,3,14,60,61,62] [5] hbase (x:=.region 8 OV false) (k':=KV 2) (s':=zV3 l p (d+1:Nat))
    (obs:=[.eq (!true) false,.eq (decide ((2:Int) < 4)) true,.pr (0<=(2:Int)/\(2:Int) < ((4:Nat):Int))]) (by kernel_rfl) ⟨rfl,rfl,(show 0<=(2:Int)/\(2:Int) < ((4:Nat):Int) from by decide),trivial⟩ ?_
   refine pL (Jx:=Jx) hT hJ hB (m:=i+(bH d (q1 p)).length+(bH d (q2 p)).length+(bH d (q3 p)).length) hseg (OV.toList.take 4) oV (OV.toList.drop 5) tU (s1:=bBf l p (d+1:Nat)) (by kernel_rfl) (by kernel_rfl) 70 (by kernel_rfl) (dB (by kernel_rfl)) 5 hbase (by kernel_rfl) (by kernel_rfl)
    (fun ρ a W2 hrep hsafe hj2 K Q' hK=>aLh ih hrep hdl rfl rfl rfl rfl rfl (fun k hk b o n h=>(match k,hk,h with | 0,_,h=>hsafe 0 _ _ _ rfl b o n h | 1,_,h=>hsafe 1 _ _ _ rfl b o n h)) hj2 (fun j x hj=>hx3 j x hj) K Q' hK) (bBg l p (d+1:Nat)) (fun b=>by kernel_rfl) (fun b cx hbase h1 h2=>?_)
   cases b with
   | false =>
    exact qK (T:=T0) hT hm (f:=5000) (orc:=[.d true]) (b:=false) (obs:=[.eq (!false) true]) (by kernel_rfl) ⟨rfl,trivial⟩ (h2 rfl).own (fun W hW hWd=>kP (m':=i+(bH (d+1) p).length) hJ hX (fun h=>by cases h) h2 rfl W hW hWd)
   | true =>
    obtain⟨Sc,hseg⟩:=h1 rfl
    refine xV (T:=T0) hT hm (f:=5000) (orc:=[.d false,.un 0,.d true,.stop 8]) [] [1,3,14,60,61,62] [6] hbase (x:=.region 8 OV false) (k':=KV 1) (s':=zV4 l p (d+1:Nat))
     (obs:=[.eq (!true) false,.eq (decide ((3:Int) < 4)) true,.pr (0<=(3:Int)/\(3:Int) < ((4:Nat):Int))]) (by kernel_rfl) ⟨rfl,rfl,(show 0<=(3:Int)/\(3:Int) < ((4:Nat):Int) from by decide),trivial⟩ ?_
    refine pL (Jx:=Jx) hT hJ hB (m:=i+(bH d (q1 p)).length+(bH d (q2 p)).length+(bH d (q3 p)).length+(bH d (q4 p)).length) hseg (OV.toList.take 4) oV (OV.toList.drop 5) tU (s1:=bBh l p (d+1:Nat)) (by kernel_rfl) (by kernel_rfl) 70 (by kernel_rfl) (dB (by kernel_rfl)) 6 hbase (by kernel_rfl) (by kernel_rfl)
     (fun ρ a W2 hrep hsafe hj2 K Q' hK=>aLh ih hrep hdl rfl rfl rfl rfl rfl (fun k hk b o n h=>(match k,hk,h with | 0,_,h=>hsafe 0 _ _ _ rfl b o n h | 1,_,h=>hsafe 1 _ _ _ rfl b o n h)) hj2 (fun j x hj=>hx4 j x hj) K Q' hK) (bBi l p (d+1:Nat)) (fun b=>by kernel_rfl) (fun b cx hbase h1 h2=>?_)
    cases b with
    | false =>
     exact qK (T:=T0) hT hm (f:=5000) (orc:=[.d true]) (b:=false) (obs:=[.eq (!false) true]) (by kernel_rfl) ⟨rfl,trivial⟩ (h2 rfl).own (fun W hW hWd=>kP (m':=i+(bH (d+1) p).length) hJ hX (fun h=>by cases h) h2 rfl W hW hWd)
    | true =>
     exact qK (T:=T0) hT hm (f:=5000) (orc:=[.d false,.un 0,.d false]) (b:=true) (obs:=[.eq (!true) false,.eq (decide ((4:Int) < 4)) false]) (by kernel_rfl) ⟨rfl,rfl,trivial⟩ (h1 rfl).choose_spec.own (fun W hW hWd=>kP hJ hX h1 h2 (by simp only [bH,List.length_append];omega) W hW hWd)
theorem aDe (hJ:vX J)(hX:aEd Jx)(hB:pJ J)(hY:∀i x S W1,xs[i]? = some x->J i S W1->YieldAt (Fw none) 9 Tryz.prog l #[aEf x] W1 (YR J Jx i S W1)):∀d,d < 1000->tT l J Jx xs d
 | 0,_=>aVz hJ hX hB hY
 | d+1,h=>aV0 hJ hX hB (by omega) (aDe hJ hX hB hY d (by omega))
end
noncomputable def O2:Array Oper:=match (cH [1,1,1] [] (Tryz.f158.body.getD .skip)).1 with
 | .region _ ops _=>ops
 | _=>#[]
noncomputable def o2:Oper:=O2.toList.getD 3 dF
theorem aYu:o2.op=.call { callee:=.value (.tmp 6),args:=#[.tmp 7,.tmp 8],argTypes:=aI4 o2 }:=by kernel_rfl
theorem aOx:O2.toList=O2.toList.take 3++[o2]:=by kernel_rfl
def z2 (l:Nat)(p:Zt×Zt×Zt)(d:Int):LS:=⟨[.u,.p 0 0,.p 1 0,.u,.p 3 0,.u,.u,.u,.u,.u],[.live false false (cP p),.live false false [iv d],.live true false [.v (yv l)],.live true false [.f 159 [.p 2 0,.p 3 0]]]⟩
def z21 (l:Nat)(p:Zt×Zt×Zt)(d:Int):LS:=⟨[.u,.p 0 0,.p 1 0,.u,.p 3 0,.u,.f 159 [.p 2 0,.p 3 0],.a (cP p),iv d,.u],[.live false false (cP p),.live false false [iv d],.live true false [.v (yv l)],.live true false [.f 159 [.p 2 0,.p 3 0]]]⟩
theorem aOy (p:Zt×Zt×Zt)(d:Nat)(hd:d < 1000):aSe Tryz.prog 158 [.p 0 0,.p 1 0] [.live false false (cP p),.live false false [iv (d:Nat)]] aEf (bH d p):=by
 refine⟨aVy,fun ρ Wd lb hcaps hbs hpl l J Jx S0 hJ hX hB hY h0=>?_⟩
 have hcon:Calls Tryz.prog 158 ((Value.func (.yield l) #[] #[])::lb).toArray Wd fun e Wd'=>(∃v,e=.returned v)/\∃S',(J (bH d p).length S' Wd'\/Jx S' Wd')/\Kept Wd S0 Wd':=by
  refine mB (n:=9) (args:=[.v (yv l),.p 0 0,.p 1 0]) (bs:=[.live false false (cP p),.live false false [iv (d:Nat)]]) Tryz.func158 rfl (by show 3<=Tryz.f158.ntmps;decide) (by kernel_rfl) ⟨rfl,rfl,trivial⟩ (by kernel_rfl) (fun i=>by rcases i with _ | _ | i<;>simp [BK.own]) (by kernel_rfl) ⟨rfl,hcaps⟩ hbs hpl (fun cx hbase hw hρ hfz hown=>?_)
  subst hw
  refine xV (T:=T0) hT hm (f:=5000) (orc:=[.stop 3]) [] [1,2,4] [2,3] hbase (x:=.region 3 O2 false) (k':=[]) (s':=z2 l p d)
   (obs:=[]) (by kernel_rfl) trivial ?_
  intro ρ a Wd hrep
  simp only [dZ]
  refine wpIn_region ?_
  have hsz:O2.size=(O2.toList.take 3).length+(0+1):=by kernel_rfl
  have hget:∀j,O2[j]? = (O2.toList.take 3++[o2])[j]? := fun j=>by rw [←aOx,Array.getElem?_toList]
  rw [hsz,xW]
  refine qJ hT (O2.toList.take 3) 0 (z2 l p d) (z21 l p d) [] [] _ [] (pK (T:=T0) (obs:=[]) (by kernel_rfl)).choose_spec trivial (fun j o' hj=>?_) ρ a Wd hrep (fun ρ1 a1 W1 hrep1 hl1=>?_)
  ·rw [hget,Nat.zero_add,List.getElem?_append_left (List.getElem?_eq_some_iff.1 hj).1];exact hj
  rw [wpOpsIn_cons]
  unfold wpOpIn
  have ho:O2[(O2.toList.take 3).length]? = some o2:=by rw [hget,List.getElem?_append_right (Nat.le_refl _)];simp
  rw [ho]
  have hw:Region.wanted o2 (yielded O2 a1.tmps)=true:=by
   have hg:o2.guard=none:=by kernel_rfl
   unfold Region.wanted;rw [hg]
  simp only [hw,if_true]
  have hbel:Below cx.w.heap.size cx.w W1:=by
   have:=hrep1.kept
   exact⟨this.os,this.tape,this.output,this.size,fun k hk=>this.block k hk (hown k)⟩
  have r1:=hrep1.sl 6
  have r2:=hrep1.sl 7
  have r3:=hrep1.sl 8
  have r1':Rel ρ1 (.f 159 [.p 2 0,.p 3 0]) (a1.tmps.getD 6 undef):=r1
  have r2':Rel ρ1 (.a (cP p)) (a1.tmps.getD 7 undef):=r2
  have r3':Rel ρ1 (iv (d:Nat)) (a1.tmps.getD 8 undef):=r3
  simp only [Rel] at r1'
  obtain⟨vs,hv,hc⟩:=r1'
  have own2:∀b,cx.mine b->cx.w.heap.size<=b:=fun b hb=>hb.elim id (fun h=>(hown b h).elim)
  have b2:=(tL (ks:=[2,3]) (i:=0) (m:=false) (x:=.live true false [.v (yv l)]) (y:=.live false false [.v (yv l)]) (M':=fun b=>W1.heap.size<=b) rfl rfl trivial (hrep1.bk 2) (fun _ h=>by cases h) (fun _ b hlt _ hM=>absurd hM (Nat.not_le_of_lt hlt))).1
  have b3:=(tL (ks:=[2,3]) (i:=1) (m:=false) (x:=.live true false [.f 159 [.p 2 0,.p 3 0]]) (y:=.live false false [.f 159 [.p 0 0,.p 1 0]]) (M':=fun b=>W1.heap.size<=b) rfl rfl trivial (hrep1.bk 3) (fun _ h=>by cases h) (fun _ b hlt _ hM=>absurd hM (Nat.not_le_of_lt hlt))).1
  have hS2:∀k,k < 2->∀b o n,fR ρ1 [2,3] k=some (b,o,n)->¬S0 b:=fun k hk b o n h hSb=>by
   have hlt:=hB _ _ _ h0 b hSb
   have own:∀j,(z21 l p d).fs.bk j≠.un->((z21 l p d).fs.bk j).own->ρ1 j=some (b,o,n)->False:=fun j _ hj hρ=>by
    have hb:=hrep1.bk j
    cases hx:(z21 l p d).fs.bk j with
    | un=>rw [hx] at hj;exact hj
    | dead=>rw [hx] at hj;exact hj
    | map es =>
     rw [hx] at hb
     obtain⟨b',n',arr,q1,q2,_⟩:=hb
     rw [hρ] at q1;cases q1
     have:=own2 b q2;omega
    | live ow sy cs=>cases ow with
     | false=>rw [hx] at hj;exact hj
     | true =>
      rw [hx] at hb
      rcases hb with⟨q,_⟩ | ⟨b',vs,rest,ty,q1,q2,_⟩
      ·rw [hρ] at q;cases q
      ·rw [hρ] at q1;cases q1
       have:=own2 b q2;omega
   match k,hk with
   | 0,_=>exact own 2 (by simp [z21,LS.fs]) (by trivial) h
   | 1,_=>exact own 3 (by simp [z21,LS.fs]) (by trivial) h
  refine aLc aYu (g:=159) (caps:=vs) hv aOw ((aDe (l:=l) hJ hX hB hY d hd) p 0 S0 W1 (fR ρ1 [2,3]) (a1.tmps.getD 7 undef::a1.tmps.getD 8 undef::vs) ?_ b2 b3 hS2 (hJ _ _ _ _ h0 hbel hrep1.kept.drawn) (fun j x hj=>by rw [Nat.zero_add];exact hj)) (fun e Wd' hR=>?_)
  ·exact qL (tK (ks:=[2,3]) (.a (cP p)) (.a (cP p)) _ rfl r2') (qL (tK (ks:=[2,3]) (iv (d:Nat)) (iv (d:Nat)) _ rfl r3') (renL_rel (ks:=[2,3]) [.p 2 0,.p 3 0] [.p 0 0,.p 1 0] vs rfl hc))
  ·have fin:∀v:Bool,e=.returned (.bool v)->(∃S',(J (bH d p).length S' Wd'\/Jx S' Wd')/\Kept W1 S0 Wd')->∃v,e=.returned v/\wpOpsIn (Fw none) 9 Tryz.prog O2 (dZ none 9 Tryz.prog (bodyPost Tryz.prog Tryz.f158 (fun e Wd'=>(∃v,e=.returned v)/\∃S',(J (bH d p).length S' Wd'\/Jx S' Wd')/\Kept cx.w S0 Wd')) []) (List.range' ((O2.toList.take 3).length+1) 0) (a1.put o2.dst v) Wd':=fun v he ⟨S',hj',hk'⟩=>by
    refine⟨_,he,?_⟩
    simp only [List.range'_zero,wpOpsIn,dZ]
    refine⟨?_,_,aG2 (by kernel_rfl),⟨_,rfl⟩,S',hj',?_⟩
    ·exact hrep1.defs
    ·exact(Kept.of_below S0 hbel hrep1.kept.drawn).trans hk' (fun b hb _=>hb)
   rcases hR with⟨he,S',hj',hk',_⟩ | ⟨he,S',hj',hk'⟩
   ·exact fin true he ⟨S',.inl (by rwa [Nat.zero_add] at hj'),hk'⟩
   ·exact fin false he ⟨S',.inr hj',hk'⟩
 have e:((Value.func (.yield l) #[] #[])::lb).toArray=#[.func (.yield l) #[] #[]]++lb.toArray:=by apply Array.ext';simp
 rw [←e];exact hcon
theorem aNg (p:Zt×Zt×Zt)(d:Int)(h:0<=d/\d<=3):aSe Tryz.prog 158 [.p 0 0,.p 1 0] [.live false false (cP p),.live false false [iv d]] aEf (bH (tN d) p):=by
 have:=aOy p d.toNat (by omega)
 rwa [Int.toNat_of_nonneg h.1] at this
end Go.Proofs.YtlckcjfbjnjfhaaGreat
namespace Go.Proofs.YtlckcjfbjnjfhaaGreat
open Go.Proofs Go.Aw Go.RowKit
set_option maxRecDepth 100000
def yR (a0:Int)(a1:Int)(a2:Int):Bool :=
 (bif (decide ((a1:Int)<=a0)) then
  (decide ((a0:Int)<=a2))
 else
  false)
theorem aV1 (a0:Int)(a1:Int)(a2:Int):Con Tryz.prog 141 [(iv a0),(iv a1),(iv a2)] [] (.v (.bool (yR a0 a1 a2))) []:=by
 refine aT Tryz.func141 (by kernel_rfl) fun cx hcx=>?_
 cases h0:(decide ((a1:Int)<=a0)) with
 | true =>
  have q0:=dB h0
  have e:=Eq.refl (yR a0 a1 a2);conv at e=>rhs;simp only [yR,h0,aX]
  rw [e]
  exact rt [.d h0] [] [] hcx (by kernel_rfl)
 | false =>
  have q0:=eC h0
  have e:=Eq.refl (yR a0 a1 a2);conv at e=>rhs;simp only [yR,h0,aX]
  rw [e]
  exact rt [.d h0] [] [] hcx (by kernel_rfl)
def F97 (a0:Zt)(a1:Int):Bool :=
 (bif (yR a0.1 (W (0 - a1)) a1) then
  (bif (yR a0.2.1 (W (0 - a1)) a1) then
   (yR a0.2.2 (W (0 - a1)) a1)
  else
   false)
 else
  false)
theorem C97 (a0:Zt)(a1:Int):Con Tryz.prog 97 [(.a (k3 a0)),(iv a1)] [] (.v (.bool (F97 a0 a1))) []:=by
 refine aT Tryz.func97 (by kernel_rfl) fun cx hcx=>?_
 let t0:List (St Tryz.prog):=[.c [] (aV1 a0.1 (W (0 - a1)) a1)]
 cases h0:(yR a0.1 (W (0 - a1)) a1) with
 | true =>
  let t1:List (St Tryz.prog):=(t0++[.d h0,.c [] (aV1 a0.2.1 (W (0 - a1)) a1)])
  cases h1:(yR a0.2.1 (W (0 - a1)) a1) with
  | true =>
   have e:=Eq.refl (F97 a0 a1);conv at e=>rhs;simp only [F97,h0,h1,aX]
   rw [e]
   exact rt (t1++[.d h1,.c [] (aV1 a0.2.2 (W (0 - a1)) a1)]) [] [] hcx (by kernel_rfl)
  | false =>
   have e:=Eq.refl (F97 a0 a1);conv at e=>rhs;simp only [F97,h0,h1,aX]
   rw [e]
   exact rt (t1++[.d h1]) [] [] hcx (by kernel_rfl)
 | false =>
  have e:=Eq.refl (F97 a0 a1);conv at e=>rhs;simp only [F97,h0,aX]
  rw [e]
  exact rt (t0++[.d h0]) [] [] hcx (by kernel_rfl)
def aOz (a0:Zt)(a1:Int)(a2:Zt):Zt :=
 ((W (a0.1+(W (a1*a2.1)))),(W (a0.2.1+(W (a1*a2.2.1)))),(W (a0.2.2+(W (a1*a2.2.2)))))
theorem bBj (a0:Zt)(a1:Int)(a2:Zt):Con Tryz.prog 180 [(.a (k3 a0)),(iv a1),(.a (k3 a2))] [] (.a (k3 (aOz a0 a1 a2))) []:=by
 refine aT Tryz.func180 (by kernel_rfl) fun cx hcx=>?_
 have e:=Eq.refl (aOz a0 a1 a2);conv at e=>rhs;simp only [aOz]
 rw [e]
 exact rt [] [] [] hcx (by kernel_rfl)
def aEh (a0:Zt)(a1:Zt):Zt :=
 (aOz a0 (-1) a1)
theorem aYv (a0:Zt)(a1:Zt):Con Tryz.prog 143 [(.a (k3 a0)),(.a (k3 a1))] [] (.a (k3 (aEh a0 a1))) []:=by
 refine aT Tryz.func143 (by kernel_rfl) fun cx hcx=>?_
 have e:=Eq.refl (aEh a0 a1);conv at e=>rhs;simp only [aEh]
 rw [e]
 exact rt [.c [] (bBj a0 (-1) a1)] [] [] hcx (by kernel_rfl)
def aO0 (a0:Zt)(a1:Zt):Zt :=
 ((W ((W (a0.2.1*a1.2.2)) - (W (a0.2.2*a1.2.1)))),(W ((W (a0.2.2*a1.1)) - (W (a0.1*a1.2.2)))),(W ((W (a0.1*a1.2.1)) - (W (a0.2.1*a1.1)))))
theorem bBk (a0:Zt)(a1:Zt):Con Tryz.prog 142 [(.a (k3 a0)),(.a (k3 a1))] [] (.a (k3 (aO0 a0 a1))) []:=by
 refine aT Tryz.func142 (by kernel_rfl) fun cx hcx=>?_
 have e:=Eq.refl (aO0 a0 a1);conv at e=>rhs;simp only [aO0]
 rw [e]
 exact rt [] [] [] hcx (by kernel_rfl)
def F98 (a0:Zt×Zt×Zt):Zt :=
 (aO0 (aEh a0.2.1 a0.1) (aEh a0.2.2 a0.1))
theorem C98 (a0:Zt×Zt×Zt):Con Tryz.prog 98 [(.a (k9 a0))] [] (.a (k3 (F98 a0))) []:=by
 refine aT Tryz.func98 (by kernel_rfl) fun cx hcx=>?_
 have e:=Eq.refl (F98 a0);conv at e=>rhs;simp only [F98]
 rw [e]
 exact rt [.c [] (aYv a0.2.1 a0.1),.c [] (aYv a0.2.2 a0.1),.c [] (bBk (aEh a0.2.1 a0.1) (aEh a0.2.2 a0.1))] [] [] hcx (by kernel_rfl)
def sR (a0:Zt×Zt×Zt):Int :=
 (bif (!(F97 a0.1 64)) then
  1
 else
  (bif (!(F97 a0.2.1 64)) then
   1
  else
   (bif (!(F97 a0.2.2 64)) then
    1
   else
    (bif ((((F98 a0).1:Int) == 0)&&((((F98 a0).2.1:Int) == 0)&&((((F98 a0).2.2:Int) == 0)&&true))) then
     6
    else
     0))))
theorem C58 (a0:Zt×Zt×Zt):Con Tryz.prog 58 [(.a (k9 a0))] [] (iv (sR a0)) []:=by
 refine aT Tryz.func58 (by kernel_rfl) fun cx hcx=>?_
 let t0:List (St Tryz.prog):=[.c [] (C97 a0.1 64)]
 cases h0:(!(F97 a0.1 64)) with
 | true =>
  have e:=Eq.refl (sR a0);conv at e=>rhs;simp only [sR,h0,aX]
  rw [e]
  exact rt (t0++[.d h0]) [] [] hcx (by kernel_rfl)
 | false =>
  let t1:List (St Tryz.prog):=(t0++[.d h0,.c [] (C97 a0.2.1 64)])
  cases h1:(!(F97 a0.2.1 64)) with
  | true =>
   have e:=Eq.refl (sR a0);conv at e=>rhs;simp only [sR,h0,h1,aX]
   rw [e]
   exact rt (t1++[.d h1]) [] [] hcx (by kernel_rfl)
  | false =>
   let t2:List (St Tryz.prog):=(t1++[.d h1,.c [] (C97 a0.2.2 64)])
   cases h2:(!(F97 a0.2.2 64)) with
   | true =>
    have e:=Eq.refl (sR a0);conv at e=>rhs;simp only [sR,h0,h1,h2,aX]
    rw [e]
    exact rt (t2++[.d h2]) [] [] hcx (by kernel_rfl)
   | false =>
    let t3:List (St Tryz.prog):=(t2++[.d h2,.c [] (C98 a0)])
    cases h3:((((F98 a0).1:Int) == 0)&&((((F98 a0).2.1:Int) == 0)&&((((F98 a0).2.2:Int) == 0)&&true))) with
    | true =>
     have e:=Eq.refl (sR a0);conv at e=>rhs;simp only [sR,h0,h1,h2,h3,aX]
     rw [e]
     exact rt (t3++[.d h3]) [] [] hcx (by kernel_rfl)
    | false =>
     have e:=Eq.refl (sR a0);conv at e=>rhs;simp only [sR,h0,h1,h2,h3,aX]
     rw [e]
     exact rt (t3++[.d h3]) [] [] hcx (by kernel_rfl)
def F59 (a0:Int)(a1:Int)(a2:Int):Bool :=
 (bif (decide ((a0:Int)≥a1)) then
  (decide ((a0:Int)<=a2))
 else
  false)
theorem C59 (a0:Int)(a1:Int)(a2:Int):Con Tryz.prog 59 [(iv a0),(iv a1),(iv a2)] [] (.v (.bool (F59 a0 a1 a2))) []:=by
 refine aT Tryz.func59 (by kernel_rfl) fun cx hcx=>?_
 cases h0:(decide ((a0:Int)≥a1)) with
 | true =>
  have q0:=dB h0
  have e:=Eq.refl (F59 a0 a1 a2);conv at e=>rhs;simp only [F59,h0,aX]
  rw [e]
  exact rt [.d h0] [] [] hcx (by kernel_rfl)
 | false =>
  have q0:=eC h0
  have e:=Eq.refl (F59 a0 a1 a2);conv at e=>rhs;simp only [F59,h0,aX]
  rw [e]
  exact rt [.d h0] [] [] hcx (by kernel_rfl)
def F69 (a0:Zt×Zt×Zt)(a1:Zt×Zt×Zt)(a2:Int):Int :=
 (bif (((sR a0):Int) != 0) then
  (sR a0)
 else
  (bif (((sR a1):Int) != 0) then
   (sR a1)
  else
   (bif (!(F59 a2 0 2)) then
    1
   else
    0)))
theorem C69 (a0:Zt×Zt×Zt)(a1:Zt×Zt×Zt)(a2:Int):Con Tryz.prog 69 [(.a (k9 a0)),(.a (k9 a1)),(iv a2)] [] (iv (F69 a0 a1 a2)) []:=by
 refine aT Tryz.func69 (by kernel_rfl) fun cx hcx=>?_
 let t0:List (St Tryz.prog):=[.c [] (C58 a0)]
 cases h0:(((sR a0):Int) != 0) with
 | true =>
  have q0:=bne_iff_ne.1 h0
  have e:=Eq.refl (F69 a0 a1 a2);conv at e=>rhs;simp only [F69,h0,aX]
  rw [e]
  exact rt (t0++[.d h0]) [] [] hcx (by kernel_rfl)
 | false =>
  have q0:=bne_eq_false_iff_eq.1 h0
  let t1:List (St Tryz.prog):=(t0++[.d h0,.c [] (C58 a1)])
  cases h1:(((sR a1):Int) != 0) with
  | true =>
   have q1:=bne_iff_ne.1 h1
   have e:=Eq.refl (F69 a0 a1 a2);conv at e=>rhs;simp only [F69,h0,h1,aX]
   rw [e]
   exact rt (t1++[.d h1]) [] [] hcx (by kernel_rfl)
  | false =>
   have q1:=bne_eq_false_iff_eq.1 h1
   let t2:List (St Tryz.prog):=(t1++[.d h1,.c [] (C59 a2 0 2)])
   cases h2:(!(F59 a2 0 2)) with
   | true =>
    have e:=Eq.refl (F69 a0 a1 a2);conv at e=>rhs;simp only [F69,h0,h1,h2,aX]
    rw [e]
    exact rt (t2++[.d h2]) [] [] hcx (by kernel_rfl)
   | false =>
    have e:=Eq.refl (F69 a0 a1 a2);conv at e=>rhs;simp only [F69,h0,h1,h2,aX]
    rw [e]
    exact rt (t2++[.d h2]) [] [] hcx (by kernel_rfl)
noncomputable def aEi:Code:=(aP [1,1,0,1] [] (aN Tryz.f156) []).1
noncomputable def aEj:List K:=(aP [1,1,0,1] [] (aN Tryz.f156) []).2
def zD (a0:Int)(v1 v2:Int):LS:=⟨kG 22 [(0,(iv a0)),(3,(iv v1)),(4,(iv v2))],[]⟩
def mC (a0:Int):Int×Int->(Int×Int)⊕(Int)
 | (v1,v2) =>
  (bif (decide ((v2:Int) > 0)) then
   (bif (decide (((W ((W (v1+v2))*(W (v1+v2)))):Int)<=a0)) then
    (.inl ((W (v1+v2)),(v2 / 2)))
   else
    (.inl (v1,(v2 / 2))))
  else
   (.inr v1))
theorem aV2 (a0:Int) {cx:Cx} (hcx:cx.base=0):∀(n:Nat) (v1 v2:Int),True->tN v2 < n->Aw.Good Tryz.prog none 9 (bodyPost Tryz.prog Tryz.f156 (RR cx (iv (aA (mC a0) n (v1,v2))) [] [])) cx [] (.l aEi n::aEj) (zD a0 v1 v2):=by
 intro n
 induction n with
 | zero=>intro v1 v2 hi hn;exact absurd hn (fJ _)
 | succ n ih =>
  intro v1 v2 hi hn
  refine aU ?_
  cases h0:(decide ((v2:Int) > 0)) with
  | true =>
   have q0:=dB h0
   let t1:List (St Tryz.prog):=[.d h0]
   cases h1:(decide (((W ((W (v1+v2))*(W (v1+v2)))):Int)<=a0)) with
   | true =>
    have q1:=dB h1
    have e:=Eq.refl (mC a0 (v1,v2));conv at e=>rhs;simp only [mC,h0,h1,aX]
    rw [aB e]
    refine ba (t1++[.d h1,.p (show 0<=(1:Int) from by decide)]) [] [0,3,4] [] hcx (m:=n) aEi (aEj) (zD a0 (W (v1+v2)) (Int.fdiv v2 (2 ^ (min (tN 1) 64)))) (by kernel_rfl) ?_
    have z0:(Int.fdiv v2 (2 ^ (min (tN 1) 64)))=(v2 / 2):=vZ _ 1 (by decide)
    rw [z0]
    exact ih (W (v1+v2)) (v2 / 2) trivial (by(try simp only [Ls]);omega)
   | false =>
    have q1:=eC h1
    have e:=Eq.refl (mC a0 (v1,v2));conv at e=>rhs;simp only [mC,h0,h1,aX]
    rw [aB e]
    refine ba (t1++[.d h1,.p (show 0<=(1:Int) from by decide)]) [] [0,3,4] [] hcx (m:=n) aEi (aEj) (zD a0 v1 (Int.fdiv v2 (2 ^ (min (tN 1) 64)))) (by kernel_rfl) ?_
    have z0:(Int.fdiv v2 (2 ^ (min (tN 1) 64)))=(v2 / 2):=vZ _ 1 (by decide)
    rw [z0]
    exact ih v1 (v2 / 2) trivial (by(try simp only [Ls]);omega)
  | false =>
   have q0:=eC h0
   have e:=Eq.refl (mC a0 (v1,v2));conv at e=>rhs;simp only [mC,h0,aX]
   rw [aQ,e]
   exact rt [.d h0] [] [] hcx (by kernel_rfl)
def kH (a0:Int):Int :=
 (aA (mC a0) (tN 1073741824+1) (0,1073741824))
theorem aYw (a0:Int):Con Tryz.prog 156 [(iv a0)] [] (iv (kH a0)) []:=by
 refine aT Tryz.func156 (by kernel_rfl) fun cx hcx=>?_
 have e:=Eq.refl (kH a0);conv at e=>rhs;simp only [kH]
 rw [e]
 refine en [] [] [0,3,4] [] hcx aEi (aEj) (zD a0 0 1073741824) (tN 1073741824+1) (by kernel_rfl) ?_
 exact aV2 a0 hcx (tN 1073741824+1) 0 1073741824 trivial (by(try simp only [Ls]);omega)
def aA1 (a0:(Int)×(Int)×(Int)):Int :=
 (W ((W ((W (0+a0.1))+a0.2.1))+a0.2.2))
theorem aV3 (a0:(Int)×(Int)×(Int)):Con Tryz.prog 193 [(.s 0 0 3 1)] [(.live false false (k3 a0))] (iv (aA1 a0)) []:=by
 refine aT Tryz.func193 (by kernel_rfl) fun cx hcx=>?_
 have e:=Eq.refl (aA1 a0);conv at e=>rhs;simp only [aA1]
 rw [e]
 exact rt [.u 200,.T,.i 0 3 (by decide),.u 0,.T,.i 1 3 (by decide),.u 0,.T,.i 2 3 (by decide),.u 0,.F] [] [] hcx (by kernel_rfl)
def iT (a0:Zt)(a1:Zt):Int :=
 (aA1 ((W (a0.1*a1.1)),(W (a0.2.1*a1.2.1)),(W (a0.2.2*a1.2.2))))
theorem aV4 (a0:Zt)(a1:Zt):Con Tryz.prog 157 [(.a (k3 a0)),(.a (k3 a1))] [] (iv (iT a0 a1)) []:=by
 refine aT Tryz.func157 (by kernel_rfl) fun cx hcx=>?_
 have e:=Eq.refl (iT a0 a1);conv at e=>rhs;simp only [iT]
 rw [e]
 exact rt [.c [2] (aV3 ((W (a0.1*a1.1)),(W (a0.2.1*a1.2.1)),(W (a0.2.2*a1.2.2))))] [] [] hcx (by kernel_rfl)
def bX (a0:Zt)(a1:Zt):Zt :=
 ((W (a0.1 - a1.1)),(W (a0.2.1 - a1.2.1)),(W (a0.2.2 - a1.2.2)))
theorem aV5 (a0:Zt)(a1:Zt):Con Tryz.prog 155 [(.a (k3 a0)),(.a (k3 a1))] [] (.a (k3 (bX a0 a1))) []:=by
 refine aT Tryz.func155 (by kernel_rfl) fun cx hcx=>?_
 have e:=Eq.refl (bX a0 a1);conv at e=>rhs;simp only [bX]
 rw [e]
 exact rt [] [] [] hcx (by kernel_rfl)
def gL (a0:Zt)(a1:Zt):Zt :=
 ((W ((W (a0.2.1*a1.2.2)) - (W (a0.2.2*a1.2.1)))),(W ((W (a0.2.2*a1.1)) - (W (a0.1*a1.2.2)))),(W ((W (a0.1*a1.2.1)) - (W (a0.2.1*a1.1)))))
theorem bBl (a0:Zt)(a1:Zt):Con Tryz.prog 154 [(.a (k3 a0)),(.a (k3 a1))] [] (.a (k3 (gL a0 a1))) []:=by
 refine aT Tryz.func154 (by kernel_rfl) fun cx hcx=>?_
 have e:=Eq.refl (gL a0 a1);conv at e=>rhs;simp only [gL]
 rw [e]
 exact rt [] [] [] hcx (by kernel_rfl)
def bA (a0:Zt×Zt×Zt):Zt×Zt :=
 (((if(a0.2.2.1:Int) < (if(a0.2.1.1:Int) < (if(a0.1.1:Int) < a0.1.1 then a0.1.1 else a0.1.1) then a0.2.1.1 else(if(a0.1.1:Int) < a0.1.1 then a0.1.1 else a0.1.1)) then a0.2.2.1 else(if(a0.2.1.1:Int) < (if(a0.1.1:Int) < a0.1.1 then a0.1.1 else a0.1.1) then a0.2.1.1 else(if(a0.1.1:Int) < a0.1.1 then a0.1.1 else a0.1.1))),(if(a0.2.2.2.1:Int) < (if(a0.2.1.2.1:Int) < (if(a0.1.2.1:Int) < a0.1.2.1 then a0.1.2.1 else a0.1.2.1) then a0.2.1.2.1 else(if(a0.1.2.1:Int) < a0.1.2.1 then a0.1.2.1 else a0.1.2.1)) then a0.2.2.2.1 else(if(a0.2.1.2.1:Int) < (if(a0.1.2.1:Int) < a0.1.2.1 then a0.1.2.1 else a0.1.2.1) then a0.2.1.2.1 else(if(a0.1.2.1:Int) < a0.1.2.1 then a0.1.2.1 else a0.1.2.1))),(if(a0.2.2.2.2:Int) < (if(a0.2.1.2.2:Int) < (if(a0.1.2.2:Int) < a0.1.2.2 then a0.1.2.2 else a0.1.2.2) then a0.2.1.2.2 else(if(a0.1.2.2:Int) < a0.1.2.2 then a0.1.2.2 else a0.1.2.2)) then a0.2.2.2.2 else(if(a0.2.1.2.2:Int) < (if(a0.1.2.2:Int) < a0.1.2.2 then a0.1.2.2 else a0.1.2.2) then a0.2.1.2.2 else(if(a0.1.2.2:Int) < a0.1.2.2 then a0.1.2.2 else a0.1.2.2)))),((if((if((if(a0.1.1:Int) < a0.1.1 then a0.1.1 else a0.1.1):Int) < a0.2.1.1 then a0.2.1.1 else(if(a0.1.1:Int) < a0.1.1 then a0.1.1 else a0.1.1)):Int) < a0.2.2.1 then a0.2.2.1 else(if((if(a0.1.1:Int) < a0.1.1 then a0.1.1 else a0.1.1):Int) < a0.2.1.1 then a0.2.1.1 else(if(a0.1.1:Int) < a0.1.1 then a0.1.1 else a0.1.1))),(if((if((if(a0.1.2.1:Int) < a0.1.2.1 then a0.1.2.1 else a0.1.2.1):Int) < a0.2.1.2.1 then a0.2.1.2.1 else(if(a0.1.2.1:Int) < a0.1.2.1 then a0.1.2.1 else a0.1.2.1)):Int) < a0.2.2.2.1 then a0.2.2.2.1 else(if((if(a0.1.2.1:Int) < a0.1.2.1 then a0.1.2.1 else a0.1.2.1):Int) < a0.2.1.2.1 then a0.2.1.2.1 else(if(a0.1.2.1:Int) < a0.1.2.1 then a0.1.2.1 else a0.1.2.1))),(if((if((if(a0.1.2.2:Int) < a0.1.2.2 then a0.1.2.2 else a0.1.2.2):Int) < a0.2.1.2.2 then a0.2.1.2.2 else(if(a0.1.2.2:Int) < a0.1.2.2 then a0.1.2.2 else a0.1.2.2)):Int) < a0.2.2.2.2 then a0.2.2.2.2 else(if((if(a0.1.2.2:Int) < a0.1.2.2 then a0.1.2.2 else a0.1.2.2):Int) < a0.2.1.2.2 then a0.2.1.2.2 else(if(a0.1.2.2:Int) < a0.1.2.2 then a0.1.2.2 else a0.1.2.2)))))
theorem aO1 (a0:Zt×Zt×Zt):Con Tryz.prog 162 [(.s 0 0 3 3)] [(.live false false (k9 a0))] (.t [(.a (k3 (bA a0).1)),(.a (k3 (bA a0).2))]) []:=by
 refine aT Tryz.func162 (by kernel_rfl) fun cx hcx=>?_
 have e:=Eq.refl (bA a0);conv at e=>rhs;simp only [bA]
 rw [e]
 exact rt [.i 0 3 (by decide),.i 0 3 (by decide),.u 200,.T,.i 0 3 (by decide),.u 0,.T,.i 1 3 (by decide),.u 0,.T,.i 2 3 (by decide),.u 0,.F] [] [] hcx (by kernel_rfl)
def kZ (a0:Int)(a1:Int)(a2:Int)(a3:Int):Int :=
 (if((if(0:Int) < (W (a2 - a1)) then(W (a2 - a1)) else 0):Int) < (W (a0 - a3)) then(W (a0 - a3)) else(if(0:Int) < (W (a2 - a1)) then(W (a2 - a1)) else 0))
theorem aV6 (a0:Int)(a1:Int)(a2:Int)(a3:Int):Con Tryz.prog 163 [(iv a0),(iv a1),(iv a2),(iv a3)] [] (iv (kZ a0 a1 a2 a3)) []:=by
 refine aT Tryz.func163 (by kernel_rfl) fun cx hcx=>?_
 have e:=Eq.refl (kZ a0 a1 a2 a3);conv at e=>rhs;simp only [kZ]
 rw [e]
 exact rt [] [] [] hcx (by kernel_rfl)
def bY (a0:Zt×Zt×Zt)(a1:Zt×Zt×Zt):Int :=
 (iT ((kZ (bA a0).1.1 (bA a0).2.1 (bA a1).1.1 (bA a1).2.1),(kZ (bA a0).1.2.1 (bA a0).2.2.1 (bA a1).1.2.1 (bA a1).2.2.1),(kZ (bA a0).1.2.2 (bA a0).2.2.2 (bA a1).1.2.2 (bA a1).2.2.2)) ((kZ (bA a0).1.1 (bA a0).2.1 (bA a1).1.1 (bA a1).2.1),(kZ (bA a0).1.2.1 (bA a0).2.2.1 (bA a1).1.2.1 (bA a1).2.2.1),(kZ (bA a0).1.2.2 (bA a0).2.2.2 (bA a1).1.2.2 (bA a1).2.2.2)))
theorem aG5 (a0:Zt×Zt×Zt)(a1:Zt×Zt×Zt):Con Tryz.prog 110 [(.s 0 0 3 3),(.s 1 0 3 3)] [(.live false false (k9 a0)),(.live false false (k9 a1))] (iv (bY a0 a1)) []:=by
 refine aT Tryz.func110 (by kernel_rfl) fun cx hcx=>?_
 have e:=Eq.refl (bY a0 a1);conv at e=>rhs;simp only [bY]
 rw [e]
 exact rt [.c [0] (aO1 a0),.c [1] (aO1 a1),.c [] (aV6 (bA a0).1.1 (bA a0).2.1 (bA a1).1.1 (bA a1).2.1),.c [] (aV6 (bA a0).1.2.1 (bA a0).2.2.1 (bA a1).1.2.1 (bA a1).2.2.1),.c [] (aV6 (bA a0).1.2.2 (bA a0).2.2.2 (bA a1).1.2.2 (bA a1).2.2.2),.c [] (aV4 ((kZ (bA a0).1.1 (bA a0).2.1 (bA a1).1.1 (bA a1).2.1),(kZ (bA a0).1.2.1 (bA a0).2.2.1 (bA a1).1.2.1 (bA a1).2.2.1),(kZ (bA a0).1.2.2 (bA a0).2.2.2 (bA a1).1.2.2 (bA a1).2.2.2)) ((kZ (bA a0).1.1 (bA a0).2.1 (bA a1).1.1 (bA a1).2.1),(kZ (bA a0).1.2.1 (bA a0).2.2.1 (bA a1).1.2.1 (bA a1).2.2.1),(kZ (bA a0).1.2.2 (bA a0).2.2.2 (bA a1).1.2.2 (bA a1).2.2.2)))] [] [] hcx (by kernel_rfl)
def c24 (x:Zt):List SV:=[(iv x.1),(iv x.2.1),(iv x.2.2)]
theorem aLi (x:Zt):(c24 x).length=3:=rfl
noncomputable def sS:Code:=(aP [1,1,0,1,0,1,1,0,1,1] [0] (aN Tryz.f109) []).1
noncomputable def sT (m0:Nat):List K:=(aP [1,1,0,1,0,1,1,0,1,1] [m0] (aN Tryz.f109) []).2
def pN (a0:List Zt)(a1:List Zt)(v5 v6 v7 v8 v9 v10:Int):LS:=⟨kG 34 [(1,(.s 1 0 a1.length 3)),(5,(iv v5)),(7,(.p 2 0)),(11,(.s 0 0 a0.length 3)),(12,(iv (a0.length:Int))),(13,(iv v6)),(17,(.s 1 0 a1.length 3)),(18,(iv (a1.length:Int))),(19,(iv v7))],[(.live false true (flat c24 a0)),(.live false true (flat c24 a1)),(.live true false [(iv v8),(iv v9),(iv v10)])]⟩
def iU (a0:List Zt)(a1:List Zt):Int×Int×Int×Zt->(Int×Int×Int×Zt)⊕((Int×Int)⊕(Int))
 | (v5,v6,v7,v8,v9,v10) =>
  (bif (decide ((v7:Int) < (a1.length:Int))) then
   (.inl ((if(v5:Int) < (iT (bX (v8,v9,v10) (a1.getD (tN v7) dF)) (bX (v8,v9,v10) (a1.getD (tN v7) dF))) then(iT (bX (v8,v9,v10) (a1.getD (tN v7) dF)) (bX (v8,v9,v10) (a1.getD (tN v7) dF))) else v5),v6,(v7+1),v8,v9,v10))
  else
   (.inr (.inl (v5,(v6+1)))))
noncomputable def nS:Code:=(aP [1,1,0,1] [] (aN Tryz.f109) []).1
noncomputable def nT:List K:=(aP [1,1,0,1] [] (aN Tryz.f109) []).2
def lT (a0:List Zt)(a1:List Zt)(v3 v4:Int):LS:=⟨kG 34 [(1,(.s 1 0 a1.length 3)),(5,(iv v3)),(11,(.s 0 0 a0.length 3)),(12,(iv (a0.length:Int))),(13,(iv v4))],[(.live false true (flat c24 a0)),(.live false true (flat c24 a1))]⟩
def gA (a0:List Zt)(a1:List Zt):Int×Int->(Int×Int)⊕(Int)
 | (v3,v4) =>
  (bif (decide ((v4:Int) < (a0.length:Int))) then
   (aA (iU a0 a1) (tN ((a1.length:Int) - 0)+1) (v3,v4,0,(a0.getD (tN v4) dF).1,(a0.getD (tN v4) dF).2.1,(a0.getD (tN v4) dF).2.2))
  else
   (.inr v3))
theorem aI5 (a0:List Zt)(a1:List Zt)(l0:a0.length<=2^63-1)(l1:a1.length<=2^63-1) {cx:Cx} (hcx:cx.base=2)
 (n0:Nat) (g0:∀(v3 v4:Int),0<=v4->tN ((a0.length:Int) - v4) < n0->Aw.Good Tryz.prog none 9 (bodyPost Tryz.prog Tryz.f109 (RR cx (iv (aA (gA a0 a1) n0 (v3,v4))) [] [])) cx [] (.l nS n0::nT) (lT a0 a1 v3 v4)):∀(n:Nat) (v5 v6 v7 v8 v9 v10:Int),(0<=v7)/\((0<=v6))/\(v6 < (a0.length:Int))/\(tN ((a0.length:Int) - v6) < n0+1)->tN ((a1.length:Int) - v7) < n->Aw.Good Tryz.prog none 9 (bodyPost Tryz.prog Tryz.f109 (RR cx (iv (bD (gA a0 a1) n0 (aA (iU a0 a1) n (v5,v6,v7,v8,v9,v10)))) [] [])) cx [] (.l sS n::sT n0) (pN a0 a1 v5 v6 v7 v8 v9 v10):=by
 intro n
 induction n with
 | zero=>intro v5 v6 v7 v8 v9 v10 hi hn;exact absurd hn (fJ _)
 | succ n ih =>
  intro v5 v6 v7 v8 v9 v10 hi hn
  refine aU ?_
  cases h0:(decide ((v7:Int) < (a1.length:Int))) with
  | true =>
   have q0:=dB h0
   have e:=Eq.refl (iU a0 a1 (v5,v6,v7,v8,v9,v10));conv at e=>rhs;simp only [iU,h0,aX]
   rw [aB e]
   refine ba [.d h0,.i v7 (a1.length),.L aLi a1 v7 0 3,.c [] (aV5 (v8,v9,v10) (a1.getD (tN v7) dF)),.c [] (aV4 (bX (v8,v9,v10) (a1.getD (tN v7) dF)) (bX (v8,v9,v10) (a1.getD (tN v7) dF)))] [] [1,5,7,11,12,13,17,18,19] [2] hcx (m:=n) sS (sT n0) (pN a0 a1 (if(v5:Int) < (iT (bX (v8,v9,v10) (a1.getD (tN v7) dF)) (bX (v8,v9,v10) (a1.getD (tN v7) dF))) then(iT (bX (v8,v9,v10) (a1.getD (tN v7) dF)) (bX (v8,v9,v10) (a1.getD (tN v7) dF))) else v5) v6 (W (v7+1)) v8 v9 v10) (by kernel_rfl) ?_
   have z0:(W (v7+1))=(v7+1):=aH (by omega) (by omega)
   rw [z0]
   exact ih (if(v5:Int) < (iT (bX (v8,v9,v10) (a1.getD (tN v7) dF)) (bX (v8,v9,v10) (a1.getD (tN v7) dF))) then(iT (bX (v8,v9,v10) (a1.getD (tN v7) dF)) (bX (v8,v9,v10) (a1.getD (tN v7) dF))) else v5) v6 (v7+1) v8 v9 v10 (by refine⟨?_,?_,?_,?_⟩<;>(try simp only [Ls])<;>first | omega | assumption | simp) (by(try simp only [Ls]);omega)
  | false =>
   have q0:=eC h0
   have e:=Eq.refl (iU a0 a1 (v5,v6,v7,v8,v9,v10));conv at e=>rhs;simp only [iU,h0,aX]
   rw [aQ,e]
   refine ba [.d h0] [] [1,5,11,12,13] [] hcx (m:=n0) nS (nT) (lT a0 a1 v5 (W (v6+1))) (by kernel_rfl) ?_
   have z0:(W (v6+1))=(v6+1):=aH (by omega) (by omega)
   rw [z0]
   exact g0 v5 (v6+1) (by(try simp only [Ls]);omega) (by(try simp only [Ls]);omega)
theorem aI6 (a0:List Zt)(a1:List Zt)(l0:a0.length<=2^63-1)(l1:a1.length<=2^63-1) {cx:Cx} (hcx:cx.base=2):∀(n:Nat) (v3 v4:Int),0<=v4->tN ((a0.length:Int) - v4) < n->Aw.Good Tryz.prog none 9 (bodyPost Tryz.prog Tryz.f109 (RR cx (iv (aA (gA a0 a1) n (v3,v4))) [] [])) cx [] (.l nS n::nT) (lT a0 a1 v3 v4):=by
 intro n
 induction n with
 | zero=>intro v3 v4 hi hn;exact absurd hn (fJ _)
 | succ n ih =>
  intro v3 v4 hi hn
  refine aU ?_
  cases h0:(decide ((v4:Int) < (a0.length:Int))) with
  | true =>
   have q0:=dB h0
   have e:=Eq.refl (gA a0 a1 (v3,v4));conv at e=>rhs;simp only [gA,h0,aX]
   rw [aQ,e]
   refine en [.d h0,.i v4 (a0.length),.L aLi a0 v4 0 3] [] [1,5,7,11,12,13,17,18,19] [2] hcx sS (sT n) (pN a0 a1 v3 v4 0 ((a0.getD (tN v4) dF).1) ((a0.getD (tN v4) dF).2.1) ((a0.getD (tN v4) dF).2.2)) (tN ((a1.length:Int) - 0)+1) (by kernel_rfl) ?_
   exact aI5 a0 a1 l0 l1 hcx n ih (tN ((a1.length:Int) - 0)+1) v3 v4 0 ((a0.getD (tN v4) dF).1) ((a0.getD (tN v4) dF).2.1) ((a0.getD (tN v4) dF).2.2) (by refine⟨?_,?_,?_,?_⟩<;>(try simp only [Ls])<;>first | omega | assumption | simp) (by(try simp only [Ls]);omega)
  | false =>
   have q0:=eC h0
   have e:=Eq.refl (gA a0 a1 (v3,v4));conv at e=>rhs;simp only [gA,h0,aX]
   rw [aQ,e]
   exact rt [.d h0] [] [] hcx (by kernel_rfl)
def bT (a0:List Zt)(a1:List Zt):Int :=
 (aA (gA a0 a1) (tN ((a0.length:Int) - 0)+1) (0,0))
theorem aG6 (a0:List Zt)(a1:List Zt)(l0:a0.length<=2^63-1)(l1:a1.length<=2^63-1):Con Tryz.prog 109 [(.s 0 0 a0.length 3),(.s 1 0 a1.length 3)] [(.live false true (flat c24 a0)),(.live false true (flat c24 a1))] (iv (bT a0 a1)) []:=by
 refine aT Tryz.func109 (by kernel_rfl) fun cx hcx=>?_
 have e:=Eq.refl (bT a0 a1);conv at e=>rhs;simp only [bT]
 rw [e]
 refine en [] [] [1,5,11,12,13] [] hcx nS (nT) (lT a0 a1 0 0) (tN ((a0.length:Int) - 0)+1) (by kernel_rfl) ?_
 exact aI6 a0 a1 l0 l1 hcx (tN ((a0.length:Int) - 0)+1) 0 0 (by(try simp only [Ls]);omega) (by(try simp only [Ls]);omega)
noncomputable def wA:Code:=match (cH [1] [] (aN Tryz.f194)).1 with
 | .scope c=>c
 | _=>.skip
noncomputable def aA2:List K:=(cH [1] [] (aN Tryz.f194)).2
noncomputable def aV7:Code:=(findLabel wA 0).getD .skip
def tV (a0:Int)(v1 v2:Int):LS:=⟨kG 22 [(0,(iv a0)),(3,(iv v1)),(4,(iv v2))],[]⟩
def lA (a0:Int):Int×Int->(Int×Int)⊕(Int)
 | (v1,v2) =>
  (bif ((v2:Int) == 0) then
   (.inr v1)
  else
   (bif (decide (((W ((W (v1+v2))*(W (v1+v2)))):Int)<=a0)) then
    (.inl ((W (v1+v2)),(v2 / 2)))
   else
    (.inl (v1,(v2 / 2)))))
theorem aO2 (a0:Int) {cx:Cx} (hcx:cx.base=0):∀(n:Nat) (v1 v2:Int),0<=v2->tN v2 < n->Aw.Good Tryz.prog none 9 (bodyPost Tryz.prog Tryz.f194 (RR cx (iv (aA (lA a0) n (v1,v2))) [] [])) cx [] (.c (.goto 0)::.s wA n::aA2) (tV a0 v1 v2):=by
 intro n
 induction n with
 | zero=>intro v1 v2 hi hn;exact absurd hn (fJ _)
 | succ n ih =>
  intro v1 v2 hi hn
  refine aNb (rest:=aV7) (by kernel_rfl) ?_
  cases h0:((v2:Int) == 0) with
  | true =>
   have q0:=eq_of_beq h0
   have e:=Eq.refl (lA a0 (v1,v2));conv at e=>rhs;simp only [lA,h0,aX]
   rw [aQ,e]
   exact rt [.d h0] [] [] hcx (by kernel_rfl)
  | false =>
   have q0:=ne_of_beq_false h0
   let t1:List (St Tryz.prog):=[.d h0]
   cases h1:(decide (((W ((W (v1+v2))*(W (v1+v2)))):Int)<=a0)) with
   | true =>
    have q1:=dB h1
    have e:=Eq.refl (lA a0 (v1,v2));conv at e=>rhs;simp only [lA,h0,h1,aX]
    rw [aB e]
    refine ga (t1++[.d h1,.p (show 0<=(1:Int) from by decide)]) [] [0,3,4] [] hcx (.goto 0) (.s wA n::aA2) (tV a0 (W (v1+v2)) (Int.fdiv v2 (2 ^ (min (tN 1) 64)))) (by kernel_rfl) ?_
    have z0:(Int.fdiv v2 (2 ^ (min (tN 1) 64)))=(v2 / 2):=vZ _ 1 (by decide)
    rw [z0]
    exact ih (W (v1+v2)) (v2 / 2) (by(try simp only [Ls]);omega) (by omega)
   | false =>
    have q1:=eC h1
    have e:=Eq.refl (lA a0 (v1,v2));conv at e=>rhs;simp only [lA,h0,h1,aX]
    rw [aB e]
    refine ga (t1++[.d h1,.p (show 0<=(1:Int) from by decide)]) [] [0,3,4] [] hcx (.goto 0) (.s wA n::aA2) (tV a0 v1 (Int.fdiv v2 (2 ^ (min (tN 1) 64)))) (by kernel_rfl) ?_
    have z0:(Int.fdiv v2 (2 ^ (min (tN 1) 64)))=(v2 / 2):=vZ _ 1 (by decide)
    rw [z0]
    exact ih v1 (v2 / 2) (by(try simp only [Ls]);omega) (by omega)
def gN (a0:Int):Int :=
 (bif (decide ((4611686018427387904:Int)<=a0)) then
  (aA (lA a0) (tN 1073741824+1) (2147483648,1073741824))
 else
  (aA (lA a0) (tN 1073741824+1) (0,1073741824)))
theorem bBm (a0:Int):Con Tryz.prog 194 [(iv a0)] [] (iv (gN a0)) []:=by
 refine aT Tryz.func194 (by kernel_rfl) fun cx hcx=>?_
 cases h0:(decide ((4611686018427387904:Int)<=a0)) with
 | true =>
  have q0:=dB h0
  have e:=Eq.refl (gN a0);conv at e=>rhs;simp only [gN,h0,aX]
  rw [e]
  refine ga [.u (tN 1073741824+1),.F,.d h0,.p (show 0<=(1:Int) from by decide)] [] [0,3,4] [] hcx (.goto 0) (.s wA (tN 1073741824+1)::aA2) (tV a0 2147483648 1073741824) (by kernel_rfl) ?_
  exact aO2 a0 hcx (tN 1073741824+1) 2147483648 1073741824 (by(try simp only [Ls]);omega) (by omega)
 | false =>
  have q0:=eC h0
  have e:=Eq.refl (gN a0);conv at e=>rhs;simp only [gN,h0,aX]
  rw [e]
  refine ga [.u (tN 1073741824+1),.F,.d h0,.p (show 0<=(1:Int) from by decide)] [] [0,3,4] [] hcx (.goto 0) (.s wA (tN 1073741824+1)::aA2) (tV a0 0 1073741824) (by kernel_rfl) ?_
  exact aO2 a0 hcx (tN 1073741824+1) 0 1073741824 (by(try simp only [Ls]);omega) (by omega)
def vI (a0:Int×Int):Bool :=
 (bif (decide ((a0.1:Int)≥(-1099511627776))) then
  (bif (decide ((a0.1:Int)<=a0.2)) then
   (decide ((a0.2:Int)<=1099511627776))
  else
   false)
 else
  false)
theorem C76 (a0:Int×Int):Con Tryz.prog 76 [(.a [(iv a0.1),(iv a0.2)])] [] (.v (.bool (vI a0))) []:=by
 refine aT Tryz.func76 (by kernel_rfl) fun cx hcx=>?_
 cases h0:(decide ((a0.1:Int)≥(-1099511627776))) with
 | true =>
  have q0:=dB h0
  let t1:List (St Tryz.prog):=[.d h0]
  cases h1:(decide ((a0.1:Int)<=a0.2)) with
  | true =>
   have q1:=dB h1
   have e:=Eq.refl (vI a0);conv at e=>rhs;simp only [vI,h0,h1,aX]
   rw [e]
   exact rt (t1++[.d h1]) [] [] hcx (by kernel_rfl)
  | false =>
   have q1:=eC h1
   have e:=Eq.refl (vI a0);conv at e=>rhs;simp only [vI,h0,h1,aX]
   rw [e]
   exact rt (t1++[.d h1]) [] [] hcx (by kernel_rfl)
 | false =>
  have q0:=eC h0
  have e:=Eq.refl (vI a0);conv at e=>rhs;simp only [vI,h0,aX]
  rw [e]
  exact rt [.d h0] [] [] hcx (by kernel_rfl)
def iV (a0:Int)(a1:Int):(Int×Int)×Int :=
 (bif (!(vI (a0,a1))) then
  ((0,0),4)
 else
  ((a0,a1),0))
theorem aO3 (a0:Int)(a1:Int):Con Tryz.prog 115 [(iv a0),(iv a1)] [] (.t [(.a (k2 (iV a0 a1).1)),(iv (iV a0 a1).2)]) []:=by
 refine aT Tryz.func115 (by kernel_rfl) fun cx hcx=>?_
 let t0:List (St Tryz.prog):=[.c [] (C76 (a0,a1))]
 cases h0:(!(vI (a0,a1))) with
 | true =>
  have e:=Eq.refl (iV a0 a1);conv at e=>rhs;simp only [iV,h0,aX]
  rw [e]
  exact rt (t0++[.d h0]) [] [] hcx (by kernel_rfl)
 | false =>
  have e:=Eq.refl (iV a0 a1);conv at e=>rhs;simp only [iV,h0,aX]
  rw [e]
  exact rt (t0++[.d h0]) [] [] hcx (by kernel_rfl)
def aCr (a0:Int)(a1:Int):(Int×Int)×Int :=
 (bif (((W ((W ((gN (W (Int.tdiv a0 a1)))*(gN (W (Int.tdiv a0 a1)))))*a1)):Int) == a0) then
  ((iV (gN (W (Int.tdiv a0 a1))) (gN (W (Int.tdiv a0 a1)))).1,(iV (gN (W (Int.tdiv a0 a1))) (gN (W (Int.tdiv a0 a1)))).2)
 else
  ((iV (gN (W (Int.tdiv a0 a1))) (W ((gN (W (Int.tdiv a0 a1)))+1))).1,(iV (gN (W (Int.tdiv a0 a1))) (W ((gN (W (Int.tdiv a0 a1)))+1))).2))
theorem bBn (a0:Int)(a1:Int)(ha:a1≠0):Con Tryz.prog 161 [(iv a0),(iv a1)] [] (.t [(.a (k2 (aCr a0 a1).1)),(iv (aCr a0 a1).2)]) []:=by
 refine aT Tryz.func161 (by kernel_rfl) fun cx hcx=>?_
 let t0:List (St Tryz.prog):=[.p (show(a1:Int)≠0 from by first | omega | (rw [aH]<;>omega) | exact nR _),.c [] (bBm (W (Int.tdiv a0 a1)))]
 cases h0:(((W ((W ((gN (W (Int.tdiv a0 a1)))*(gN (W (Int.tdiv a0 a1)))))*a1)):Int) == a0) with
 | true =>
  have q0:=eq_of_beq h0
  have e:=Eq.refl (aCr a0 a1);conv at e=>rhs;simp only [aCr,h0,aX]
  rw [e]
  exact rt (t0++[.d h0,.c [] (aO3 (gN (W (Int.tdiv a0 a1))) (gN (W (Int.tdiv a0 a1))))]) [] [] hcx (by kernel_rfl)
 | false =>
  have q0:=ne_of_beq_false h0
  have e:=Eq.refl (aCr a0 a1);conv at e=>rhs;simp only [aCr,h0,aX]
  rw [e]
  exact rt (t0++[.d h0,.c [] (aO3 (gN (W (Int.tdiv a0 a1))) (W ((gN (W (Int.tdiv a0 a1)))+1)))]) [] [] hcx (by kernel_rfl)
def fL (a0:Int)(a1:Int):(Int×Int)×Int :=
 (bif (decide ((a0:Int) < 1)) then
  ((0,0),1)
 else
  (bif (decide ((a0:Int) > 1099511627776)) then
   ((0,0),1)
  else
   (bif (decide ((a1:Int) < 1)) then
    ((0,0),1)
   else
    (bif (decide ((a1:Int) > 8)) then
     ((0,0),1)
    else
     ((aCr (W ((W (a1*a1))*2 ^ (min (tN 40) 64))) a0).1,(aCr (W ((W (a1*a1))*2 ^ (min (tN 40) 64))) a0).2)))))
theorem aV8 (a0:Int)(a1:Int):Con Tryz.prog 108 [(iv a0),(iv a1)] [] (.t [(.a (k2 (fL a0 a1).1)),(iv (fL a0 a1).2)]) []:=by
 refine aT Tryz.func108 (by kernel_rfl) fun cx hcx=>?_
 cases h0:(decide ((a0:Int) < 1)) with
 | true =>
  have q0:=dB h0
  have e:=Eq.refl (fL a0 a1);conv at e=>rhs;simp only [fL,h0,aX]
  rw [e]
  exact rt [.d h0] [] [] hcx (by kernel_rfl)
 | false =>
  have q0:=eC h0
  let t1:List (St Tryz.prog):=[.d h0]
  cases h1:(decide ((a0:Int) > 1099511627776)) with
  | true =>
   have q1:=dB h1
   have e:=Eq.refl (fL a0 a1);conv at e=>rhs;simp only [fL,h0,h1,aX]
   rw [e]
   exact rt (t1++[.d h1]) [] [] hcx (by kernel_rfl)
  | false =>
   have q1:=eC h1
   let t2:List (St Tryz.prog):=(t1++[.d h1])
   cases h2:(decide ((a1:Int) < 1)) with
   | true =>
    have q2:=dB h2
    have e:=Eq.refl (fL a0 a1);conv at e=>rhs;simp only [fL,h0,h1,h2,aX]
    rw [e]
    exact rt (t2++[.d h2]) [] [] hcx (by kernel_rfl)
   | false =>
    have q2:=eC h2
    let t3:List (St Tryz.prog):=(t2++[.d h2])
    cases h3:(decide ((a1:Int) > 8)) with
    | true =>
     have q3:=dB h3
     have e:=Eq.refl (fL a0 a1);conv at e=>rhs;simp only [fL,h0,h1,h2,h3,aX]
     rw [e]
     exact rt (t3++[.d h3]) [] [] hcx (by kernel_rfl)
    | false =>
     have q3:=eC h3
     have e:=Eq.refl (fL a0 a1);conv at e=>rhs;simp only [fL,h0,h1,h2,h3,aX]
     rw [e]
     exact rt (t3++[.d h3,.p (show 0<=(40:Int) from by decide),.c [] (bBn (W ((W (a1*a1))*2 ^ (min (tN 40) 64))) a0  (by(try simp only [Lt]);omega))]) [] [] hcx (by kernel_rfl)
def kA (a0:Int×Int):Int :=
 (bif (!(vI a0)) then
  1
 else
  0)
theorem aUf (a0:Int×Int):Con Tryz.prog 45 [(.s 0 0 1 2)] [(.live false false [(iv a0.1),(iv a0.2)])] (iv (kA a0)) []:=by
 refine aT Tryz.func45 (by kernel_rfl) fun cx hcx=>?_
 let t0:List (St Tryz.prog):=[.u 200,.T,.i 0 1 (by decide),.c [] (C76 a0)]
 cases h0:(!(vI a0)) with
 | true =>
  have e:=Eq.refl (kA a0);conv at e=>rhs;simp only [kA,h0,aX]
  rw [e]
  exact rt (t0++[.d h0]) [] [] hcx (by kernel_rfl)
 | false =>
  have e:=Eq.refl (kA a0);conv at e=>rhs;simp only [kA,h0,aX]
  rw [e]
  exact rt (t0++[.d h0,.u 0,.F]) [] [] hcx (by kernel_rfl)
def wB (a0:Int)(a1:Int):Int :=
 (bif (((Int.tmod a0 a1):Int) != 0) then
  (bif (!((decide ((a0:Int) < 0)) == (decide ((a1:Int) < 0)))) then
   (W ((W (Int.tdiv a0 a1)) - 1))
  else
   (W (Int.tdiv a0 a1)))
 else
  (W (Int.tdiv a0 a1)))
theorem aYx (a0:Int)(a1:Int)(ha:a1≠0):Con Tryz.prog 195 [(iv a0),(iv a1)] [] (iv (wB a0 a1)) []:=by
 refine aT Tryz.func195 (by kernel_rfl) fun cx hcx=>?_
 let t0:List (St Tryz.prog):=[.p (show(a1:Int)≠0 from by first | omega | (rw [aH]<;>omega) | exact nR _),.p (show(a1:Int)≠0 from by first | omega | (rw [aH]<;>omega) | exact nR _)]
 cases h0:(((Int.tmod a0 a1):Int) != 0) with
 | true =>
  have q0:=bne_iff_ne.1 h0
  let t1:List (St Tryz.prog):=(t0++[.d h0])
  cases h1:(!((decide ((a0:Int) < 0)) == (decide ((a1:Int) < 0)))) with
  | true =>
   have e:=Eq.refl (wB a0 a1);conv at e=>rhs;simp only [wB,h0,h1,aX]
   rw [e]
   exact rt (t1++[.d h1]) [] [] hcx (by kernel_rfl)
  | false =>
   have e:=Eq.refl (wB a0 a1);conv at e=>rhs;simp only [wB,h0,h1,aX]
   rw [e]
   exact rt (t1++[.d h1]) [] [] hcx (by kernel_rfl)
 | false =>
  have q0:=bne_eq_false_iff_eq.1 h0
  have e:=Eq.refl (wB a0 a1);conv at e=>rhs;simp only [wB,h0,aX]
  rw [e]
  exact rt (t0++[.d h0]) [] [] hcx (by kernel_rfl)
def aG7 (a0:Int)(a1:Int):Int :=
 (W (0 - (wB (W (0 - a0)) a1)))
theorem bBo (a0:Int)(a1:Int)(ha:a1≠0):Con Tryz.prog 196 [(iv a0),(iv a1)] [] (iv (aG7 a0 a1)) []:=by
 refine aT Tryz.func196 (by kernel_rfl) fun cx hcx=>?_
 have e:=Eq.refl (aG7 a0 a1);conv at e=>rhs;simp only [aG7]
 rw [e]
 exact rt [.c [] (aYx (W (0 - a0)) a1  (by(try simp only [Lt]);omega))] [] [] hcx (by kernel_rfl)
def yS (a0:Int×Int)(a1:Int):(Int×Int)×Int :=
 (bif (((kA a0):Int) != 0) then
  ((0,0),(kA a0))
 else
  (bif (decide ((a1:Int) < 1)) then
   ((0,0),1)
  else
   (bif (decide ((a1:Int) > 1099511627776)) then
    ((0,0),1)
   else
    ((iV (wB a0.1 a1) (aG7 a0.2 a1)).1,(iV (wB a0.1 a1) (aG7 a0.2 a1)).2))))
theorem bBp (a0:Int×Int)(a1:Int):Con Tryz.prog 164 [(.a [(iv a0.1),(iv a0.2)]),(iv a1)] [] (.t [(.a (k2 (yS a0 a1).1)),(iv (yS a0 a1).2)]) []:=by
 refine aT Tryz.func164 (by kernel_rfl) fun cx hcx=>?_
 let t0:List (St Tryz.prog):=[.c [2] (aUf a0)]
 cases h0:(((kA a0):Int) != 0) with
 | true =>
  have q0:=bne_iff_ne.1 h0
  have e:=Eq.refl (yS a0 a1);conv at e=>rhs;simp only [yS,h0,aX]
  rw [e]
  exact rt (t0++[.d h0]) [] [] hcx (by kernel_rfl)
 | false =>
  have q0:=bne_eq_false_iff_eq.1 h0
  let t1:List (St Tryz.prog):=(t0++[.d h0])
  cases h1:(decide ((a1:Int) < 1)) with
  | true =>
   have q1:=dB h1
   have e:=Eq.refl (yS a0 a1);conv at e=>rhs;simp only [yS,h0,h1,aX]
   rw [e]
   exact rt (t1++[.d h1]) [] [] hcx (by kernel_rfl)
  | false =>
   have q1:=eC h1
   let t2:List (St Tryz.prog):=(t1++[.d h1])
   cases h2:(decide ((a1:Int) > 1099511627776)) with
   | true =>
    have q2:=dB h2
    have e:=Eq.refl (yS a0 a1);conv at e=>rhs;simp only [yS,h0,h1,h2,aX]
    rw [e]
    exact rt (t2++[.d h2]) [] [] hcx (by kernel_rfl)
   | false =>
    have q2:=eC h2
    have e:=Eq.refl (yS a0 a1);conv at e=>rhs;simp only [yS,h0,h1,h2,aX]
    rw [e]
    exact rt (t2++[.d h2,.c [] (aYx a0.1 a1  (by(try simp only [Lt]);omega)),.c [] (bBo a0.2 a1  (by(try simp only [Lt]);omega)),.c [] (aO3 (wB a0.1 a1) (aG7 a0.2 a1))]) [] [] hcx (by kernel_rfl)
def eL (x:Int×Int):List SV:=[(iv x.1),(iv x.2)]
theorem dU (x:Int×Int):(eL x).length=2:=rfl
noncomputable def aEk:Code:=(aP [1,0,1] [] (aN Tryz.f45) []).1
noncomputable def aEl:List K:=(aP [1,0,1] [] (aN Tryz.f45) []).2
def aA3 (a0:List (Int×Int))(v1:Int):LS:=⟨kG 15 [(5,(.s 0 0 a0.length 2)),(6,(iv (a0.length:Int))),(7,(iv v1))],[(.live false true (flat eL a0))]⟩
def gX (a0:List (Int×Int)):Int->(Int)⊕(Int)
 | v1 =>
  (bif (decide ((v1:Int) < (a0.length:Int))) then
   (bif (!(vI (a0.getD (tN v1) dF))) then
    (.inr 1)
   else
    (.inl (v1+1)))
  else
   (.inr 0))
theorem aSk (a0:List (Int×Int))(l0:a0.length<=2^63-1) {cx:Cx} (hcx:cx.base=1):∀(n:Nat) (v1:Int),0<=v1->tN ((a0.length:Int) - v1) < n->Aw.Good Tryz.prog none 9 (bodyPost Tryz.prog Tryz.f45 (RR cx (iv (aA (gX a0) n v1)) [] [])) cx [] (.l aEk n::aEl) (aA3 a0 v1):=by
 intro n
 induction n with
 | zero=>intro v1 hi hn;exact absurd hn (fJ _)
 | succ n ih =>
  intro v1 hi hn
  refine aU ?_
  cases h0:(decide ((v1:Int) < (a0.length:Int))) with
  | true =>
   have q0:=dB h0
   let t1:List (St Tryz.prog):=[.d h0,.i v1 (a0.length),.L dU a0 v1 0 2,.c [] (C76 (a0.getD (tN v1) dF))]
   cases h1:(!(vI (a0.getD (tN v1) dF))) with
   | true =>
    have e:=Eq.refl (gX a0 v1);conv at e=>rhs;simp only [gX,h0,h1,aX]
    rw [aQ,e]
    exact rt (t1++[.d h1]) [] [] hcx (by kernel_rfl)
   | false =>
    have e:=Eq.refl (gX a0 v1);conv at e=>rhs;simp only [gX,h0,h1,aX]
    rw [aB e]
    refine ba (t1++[.d h1]) [] [5,6,7] [] hcx (m:=n) aEk (aEl) (aA3 a0 (W (v1+1))) (by kernel_rfl) ?_
    have z0:(W (v1+1))=(v1+1):=aH (by omega) (by omega)
    rw [z0]
    exact ih (v1+1) (by(try simp only [Ls]);omega) (by(try simp only [Ls]);omega)
  | false =>
   have q0:=eC h0
   have e:=Eq.refl (gX a0 v1);conv at e=>rhs;simp only [gX,h0,aX]
   rw [aQ,e]
   exact rt [.d h0] [] [] hcx (by kernel_rfl)
def xX (a0:List (Int×Int)):Int :=
 (aA (gX a0) (tN ((a0.length:Int) - 0)+1) 0)
theorem aYy (a0:List (Int×Int))(l0:a0.length<=2^63-1):Con Tryz.prog 45 [(.s 0 0 a0.length 2)] [(.live false true (flat eL a0))] (iv (xX a0)) []:=by
 refine aT Tryz.func45 (by kernel_rfl) fun cx hcx=>?_
 have e:=Eq.refl (xX a0);conv at e=>rhs;simp only [xX]
 rw [e]
 refine en [] [] [5,6,7] [] hcx aEk (aEl) (aA3 a0 0) (tN ((a0.length:Int) - 0)+1) (by kernel_rfl) ?_
 exact aSk a0 l0 hcx (tN ((a0.length:Int) - 0)+1) 0 (by(try simp only [Ls]);omega) (by(try simp only [Ls]);omega)
noncomputable def aA4:Code:=(aP [1,1,1,0,1] [] (aN Tryz.f116) []).1
noncomputable def aA5:List K:=(aP [1,1,1,0,1] [] (aN Tryz.f116) []).2
def wC (a0:List (Int×Int))(v1 v2 v3:Int):LS:=⟨kG 33 [(2,(iv v1)),(3,(iv v2)),(16,(.s 0 0 a0.length 2)),(17,(iv (a0.length:Int))),(18,(iv v3))],[(.live false true (flat eL a0))]⟩
def jP (a0:List (Int×Int)):Zt->Zt⊕Zt
 | (v1,v2,v3) =>
  (bif (decide ((v3:Int) < (a0.length:Int))) then
   (.inl ((W (v1+(a0.getD (tN v3) dF).1)),(W (v2+(a0.getD (tN v3) dF).2)),(v3+1)))
  else
   (.inr (v1,v2,0)))
theorem aO4 (a0:List (Int×Int))(l0:a0.length<=2^63-1) {cx:Cx} (hcx:cx.base=1):∀(n:Nat) (v1 v2 v3:Int),0<=v3->tN ((a0.length:Int) - v3) < n->Aw.Good Tryz.prog none 9 (bodyPost Tryz.prog Tryz.f116 (RR cx (.t (k3 (aA (jP a0) n (v1,v2,v3)))) [] [])) cx [] (.l aA4 n::aA5) (wC a0 v1 v2 v3):=by
 intro n
 induction n with
 | zero=>intro v1 v2 v3 hi hn;exact absurd hn (fJ _)
 | succ n ih =>
  intro v1 v2 v3 hi hn
  refine aU ?_
  cases h0:(decide ((v3:Int) < (a0.length:Int))) with
  | true =>
   have q0:=dB h0
   have e:=Eq.refl (jP a0 (v1,v2,v3));conv at e=>rhs;simp only [jP,h0,aX]
   rw [aB e]
   refine ba [.d h0,.i v3 (a0.length),.L dU a0 v3 0 2] [] [2,3,16,17,18] [] hcx (m:=n) aA4 (aA5) (wC a0 (W (v1+(a0.getD (tN v3) dF).1)) (W (v2+(a0.getD (tN v3) dF).2)) (W (v3+1))) (by kernel_rfl) ?_
   have z0:(W (v3+1))=(v3+1):=aH (by omega) (by omega)
   rw [z0]
   exact ih (W (v1+(a0.getD (tN v3) dF).1)) (W (v2+(a0.getD (tN v3) dF).2)) (v3+1) (by(try simp only [Ls]);omega) (by(try simp only [Ls]);omega)
  | false =>
   have q0:=eC h0
   have e:=Eq.refl (jP a0 (v1,v2,v3));conv at e=>rhs;simp only [jP,h0,aX]
   rw [aQ,e]
   exact rt [.d h0] [] [] hcx (by kernel_rfl)
def fO (a0:List (Int×Int)):Zt :=
 (bif (decide (((a0.length:Int):Int) > 10000)) then
  (0,0,4)
 else
  (bif (((xX a0):Int) != 0) then
   (0,0,(xX a0))
  else
   (aA (jP a0) (tN ((a0.length:Int) - 0)+1) (0,0,0))))
theorem aV9 (a0:List (Int×Int))(l0:a0.length<=2^63-1):Con Tryz.prog 116 [(.s 0 0 a0.length 2)] [(.live false true (flat eL a0))] (.t (k3 (fO a0))) []:=by
 refine aT Tryz.func116 (by kernel_rfl) fun cx hcx=>?_
 cases h0:(decide (((a0.length:Int):Int) > 10000)) with
 | true =>
  have q0:=dB h0
  have e:=Eq.refl (fO a0);conv at e=>rhs;simp only [fO,h0,aX]
  rw [e]
  exact rt [.d h0] [] [] hcx (by kernel_rfl)
 | false =>
  have q0:=eC h0
  let t1:List (St Tryz.prog):=[.d h0,.c [0] (aYy a0 (by omega))]
  cases h1:(((xX a0):Int) != 0) with
  | true =>
   have q1:=bne_iff_ne.1 h1
   have e:=Eq.refl (fO a0);conv at e=>rhs;simp only [fO,h0,h1,aX]
   rw [e]
   exact rt (t1++[.d h1]) [] [] hcx (by kernel_rfl)
  | false =>
   have q1:=bne_eq_false_iff_eq.1 h1
   have e:=Eq.refl (fO a0);conv at e=>rhs;simp only [fO,h0,h1,aX]
   rw [e]
   refine en (t1++[.d h1]) [] [2,3,16,17,18] [] hcx aA4 (aA5) (wC a0 0 0 0) (tN ((a0.length:Int) - 0)+1) (by kernel_rfl) ?_
   exact aO4 a0 l0 hcx (tN ((a0.length:Int) - 0)+1) 0 0 0 (by(try simp only [Ls]);omega) (by(try simp only [Ls]);omega)
def iB (a0:List (Int×Int)):(Int×Int)×Int :=
 (bif (((fO a0).2.2:Int) != 0) then
  ((0,0),(fO a0).2.2)
 else
  ((iV (fO a0).1 (fO a0).2.1).1,(iV (fO a0).1 (fO a0).2.1).2))
theorem aYz (a0:List (Int×Int))(l0:a0.length<=2^63-1):Con Tryz.prog 78 [(.s 0 0 a0.length 2)] [(.live false true (flat eL a0))] (.t [(.a (k2 (iB a0).1)),(iv (iB a0).2)]) []:=by
 refine aT Tryz.func78 (by kernel_rfl) fun cx hcx=>?_
 let t0:List (St Tryz.prog):=[.c [0] (aV9 a0 (by omega))]
 cases h0:(((fO a0).2.2:Int) != 0) with
 | true =>
  have q0:=bne_iff_ne.1 h0
  have e:=Eq.refl (iB a0);conv at e=>rhs;simp only [iB,h0,aX]
  rw [e]
  exact rt (t0++[.d h0]) [] [] hcx (by kernel_rfl)
 | false =>
  have q0:=bne_eq_false_iff_eq.1 h0
  have e:=Eq.refl (iB a0);conv at e=>rhs;simp only [iB,h0,aX]
  rw [e]
  exact rt (t0++[.d h0,.c [] (aO3 (fO a0).1 (fO a0).2.1)]) [] [] hcx (by kernel_rfl)
def pO (a0:(Int×Int)×(Int×Int)):Int :=
 (bif (!(vI a0.1)) then
  1
 else
  (bif (!(vI a0.2)) then
   1
  else
   0))
theorem aY0 (a0:(Int×Int)×(Int×Int)):Con Tryz.prog 45 [(.s 0 0 2 2)] [(.live false false [(iv a0.1.1),(iv a0.1.2),(iv a0.2.1),(iv a0.2.2)])] (iv (pO a0)) []:=by
 refine aT Tryz.func45 (by kernel_rfl) fun cx hcx=>?_
 let t0:List (St Tryz.prog):=[.u 200,.T,.i 0 2 (by decide),.c [] (C76 a0.1)]
 cases h0:(!(vI a0.1)) with
 | true =>
  have e:=Eq.refl (pO a0);conv at e=>rhs;simp only [pO,h0,aX]
  rw [e]
  exact rt (t0++[.d h0]) [] [] hcx (by kernel_rfl)
 | false =>
  let t1:List (St Tryz.prog):=(t0++[.d h0,.u 0,.T,.i 1 2 (by decide),.c [] (C76 a0.2)])
  cases h1:(!(vI a0.2)) with
  | true =>
   have e:=Eq.refl (pO a0);conv at e=>rhs;simp only [pO,h0,h1,aX]
   rw [e]
   exact rt (t1++[.d h1]) [] [] hcx (by kernel_rfl)
  | false =>
   have e:=Eq.refl (pO a0);conv at e=>rhs;simp only [pO,h0,h1,aX]
   rw [e]
   exact rt (t1++[.d h1,.u 0,.F]) [] [] hcx (by kernel_rfl)
def F13 (a0:Int×Int)(a1:Int×Int):(Int×Int)×Bool×Int :=
 (bif (((pO (a0,a1)):Int) != 0) then
  ((0,0),false,(pO (a0,a1)))
 else
  (bif (decide (((if(a0.1:Int) < a1.1 then a1.1 else a0.1):Int) > (if(a1.2:Int) < a0.2 then a1.2 else a0.2))) then
   ((0,0),false,0)
  else
   (((if(a0.1:Int) < a1.1 then a1.1 else a0.1),(if(a1.2:Int) < a0.2 then a1.2 else a0.2)),true,0)))
theorem C13 (a0:Int×Int)(a1:Int×Int):Con Tryz.prog 13 [(.a [(iv a0.1),(iv a0.2)]),(.a [(iv a1.1),(iv a1.2)])] [] (.t [(.a (k2 (F13 a0 a1).1)),(.v (.bool (F13 a0 a1).2.1)),(iv (F13 a0 a1).2.2)]) []:=by
 refine aT Tryz.func13 (by kernel_rfl) fun cx hcx=>?_
 let t0:List (St Tryz.prog):=[.c [3] (aY0 (a0,a1))]
 cases h0:(((pO (a0,a1)):Int) != 0) with
 | true =>
  have q0:=bne_iff_ne.1 h0
  have e:=Eq.refl (F13 a0 a1);conv at e=>rhs;simp only [F13,h0,aX]
  rw [e]
  exact rt (t0++[.d h0]) [] [] hcx (by kernel_rfl)
 | false =>
  have q0:=bne_eq_false_iff_eq.1 h0
  let t1:List (St Tryz.prog):=(t0++[.d h0])
  cases h1:(decide (((if(a0.1:Int) < a1.1 then a1.1 else a0.1):Int) > (if(a1.2:Int) < a0.2 then a1.2 else a0.2))) with
  | true =>
   have q1:=dB h1
   have e:=Eq.refl (F13 a0 a1);conv at e=>rhs;simp only [F13,h0,h1,aX]
   rw [e]
   exact rt (t1++[.d h1]) [] [] hcx (by kernel_rfl)
  | false =>
   have q1:=eC h1
   have e:=Eq.refl (F13 a0 a1);conv at e=>rhs;simp only [F13,h0,h1,aX]
   rw [e]
   exact rt (t1++[.d h1]) [] [] hcx (by kernel_rfl)
def fP (a0:Int)(a1:Int):Int :=
 (bif ((a0:Int) != 0) then
  (bif ((a1:Int) != 0) then
   (bif (decide (((if(a1:Int) < (W (0 - a1)) then(W (0 - a1)) else a1):Int) > (W (Int.tdiv 1099511627776 (if(a0:Int) < (W (0 - a0)) then(W (0 - a0)) else a0))))) then
    (bif (!((decide ((a0:Int) < 0)) == (decide ((a1:Int) < 0)))) then
     (-1099511627777)
    else
     1099511627777)
   else
    (W (a0*a1)))
  else
   (W (a0*a1)))
 else
  (W (a0*a1)))
theorem aY1 (a0:Int)(a1:Int)(ha:-1099511627776<=a0/\a0<=1099511627776):Con Tryz.prog 114 [(iv a0),(iv a1)] [] (iv (fP a0 a1)) []:=by
 refine aT Tryz.func114 (by kernel_rfl) fun cx hcx=>?_
 cases h0:((a0:Int) != 0) with
 | true =>
  have q0:=bne_iff_ne.1 h0
  let t1:List (St Tryz.prog):=[.d h0]
  cases h1:((a1:Int) != 0) with
  | true =>
   have q1:=bne_iff_ne.1 h1
   let t2:List (St Tryz.prog):=(t1++[.d h1,.p (show((if(a0:Int) < (W (0 - a0)) then(W (0 - a0)) else a0):Int)≠0 from by(have hw:=aH (n:=0 - a0) (by omega) (by omega);rw [hw];split<;>omega))])
   cases h2:(decide (((if(a1:Int) < (W (0 - a1)) then(W (0 - a1)) else a1):Int) > (W (Int.tdiv 1099511627776 (if(a0:Int) < (W (0 - a0)) then(W (0 - a0)) else a0))))) with
   | true =>
    have q2:=dB h2
    let t3:List (St Tryz.prog):=(t2++[.d h2])
    cases h3:(!((decide ((a0:Int) < 0)) == (decide ((a1:Int) < 0)))) with
    | true =>
     have e:=Eq.refl (fP a0 a1);conv at e=>rhs;simp only [fP,h0,h1,h2,h3,aX]
     rw [e]
     exact rt (t3++[.d h3]) [] [] hcx (by kernel_rfl)
    | false =>
     have e:=Eq.refl (fP a0 a1);conv at e=>rhs;simp only [fP,h0,h1,h2,h3,aX]
     rw [e]
     exact rt (t3++[.d h3]) [] [] hcx (by kernel_rfl)
   | false =>
    have q2:=eC h2
    have e:=Eq.refl (fP a0 a1);conv at e=>rhs;simp only [fP,h0,h1,h2,aX]
    rw [e]
    exact rt (t2++[.d h2]) [] [] hcx (by kernel_rfl)
  | false =>
   have q1:=bne_eq_false_iff_eq.1 h1
   have e:=Eq.refl (fP a0 a1);conv at e=>rhs;simp only [fP,h0,h1,aX]
   rw [e]
   exact rt (t1++[.d h1]) [] [] hcx (by kernel_rfl)
 | false =>
  have q0:=bne_eq_false_iff_eq.1 h0
  have e:=Eq.refl (fP a0 a1);conv at e=>rhs;simp only [fP,h0,aX]
  rw [e]
  exact rt [.d h0] [] [] hcx (by kernel_rfl)
def gB (x:(Zt×Zt×Zt)×Int):List SV:=[(iv x.1.1.1),(iv x.1.1.2.1),(iv x.1.1.2.2),(iv x.1.2.1.1),(iv x.1.2.1.2.1),(iv x.1.2.1.2.2),(iv x.1.2.2.1),(iv x.1.2.2.2.1),(iv x.1.2.2.2.2),(iv x.2)]
theorem fS (x:(Zt×Zt×Zt)×Int):(gB x).length=10:=rfl
noncomputable def aEm:Code:=(aP [1,1,0,1] [] (aN Tryz.f33) []).1
noncomputable def aEn:List K:=(aP [1,1,0,1] [] (aN Tryz.f33) []).2
def aA6 (a0:bK)(v1:Int):LS:=⟨kG 26 [(9,(.s 0 0 a0.length 10)),(10,(iv (a0.length:Int))),(11,(iv v1))],[(.live false true (flat gB a0))]⟩
def dV (a0:bK):Int->(Int)⊕(Int)
 | v1 =>
  (bif (decide ((v1:Int) < (a0.length:Int))) then
   (bif (((sR (a0.getD (tN v1) dF).1):Int) != 0) then
    (.inr (sR (a0.getD (tN v1) dF).1))
   else
    (bif (!(F59 (a0.getD (tN v1) dF).2 (-100) 100)) then
     (.inr 1)
    else
     (.inl (v1+1))))
  else
   (.inr 0))
theorem aSl (a0:bK)(l0:a0.length<=2^63-1) {cx:Cx} (hcx:cx.base=1):∀(n:Nat) (v1:Int),0<=v1->tN ((a0.length:Int) - v1) < n->Aw.Good Tryz.prog none 9 (bodyPost Tryz.prog Tryz.f33 (RR cx (iv (aA (dV a0) n v1)) [] [])) cx [] (.l aEm n::aEn) (aA6 a0 v1):=by
 intro n
 induction n with
 | zero=>intro v1 hi hn;exact absurd hn (fJ _)
 | succ n ih =>
  intro v1 hi hn
  refine aU ?_
  cases h0:(decide ((v1:Int) < (a0.length:Int))) with
  | true =>
   have q0:=dB h0
   let t1:List (St Tryz.prog):=[.d h0,.i v1 (a0.length),.L fS a0 v1 0 10,.c [] (C58 (a0.getD (tN v1) dF).1)]
   cases h1:(((sR (a0.getD (tN v1) dF).1):Int) != 0) with
   | true =>
    have q1:=bne_iff_ne.1 h1
    have e:=Eq.refl (dV a0 v1);conv at e=>rhs;simp only [dV,h0,h1,aX]
    rw [aQ,e]
    exact rt (t1++[.d h1]) [] [] hcx (by kernel_rfl)
   | false =>
    have q1:=bne_eq_false_iff_eq.1 h1
    let t2:List (St Tryz.prog):=(t1++[.d h1,.c [] (C59 (a0.getD (tN v1) dF).2 (-100) 100)])
    cases h2:(!(F59 (a0.getD (tN v1) dF).2 (-100) 100)) with
    | true =>
     have e:=Eq.refl (dV a0 v1);conv at e=>rhs;simp only [dV,h0,h1,h2,aX]
     rw [aQ,e]
     exact rt (t2++[.d h2]) [] [] hcx (by kernel_rfl)
    | false =>
     have e:=Eq.refl (dV a0 v1);conv at e=>rhs;simp only [dV,h0,h1,h2,aX]
     rw [aB e]
     refine ba (t2++[.d h2]) [] [9,10,11] [] hcx (m:=n) aEm (aEn) (aA6 a0 (W (v1+1))) (by kernel_rfl) ?_
     have z0:(W (v1+1))=(v1+1):=aH (by omega) (by omega)
     rw [z0]
     exact ih (v1+1) (by(try simp only [Ls]);omega) (by(try simp only [Ls]);omega)
  | false =>
   have q0:=eC h0
   have e:=Eq.refl (dV a0 v1);conv at e=>rhs;simp only [dV,h0,aX]
   rw [aQ,e]
   exact rt [.d h0] [] [] hcx (by kernel_rfl)
def eI (a0:bK):Int :=
 (bif (decide (((a0.length:Int):Int) > 96)) then
  4
 else
  (aA (dV a0) (tN ((a0.length:Int) - 0)+1) 0))
theorem aLj (a0:bK)(l0:a0.length<=2^63-1):Con Tryz.prog 33 [(.s 0 0 a0.length 10)] [(.live false true (flat gB a0))] (iv (eI a0)) []:=by
 refine aT Tryz.func33 (by kernel_rfl) fun cx hcx=>?_
 cases h0:(decide (((a0.length:Int):Int) > 96)) with
 | true =>
  have q0:=dB h0
  have e:=Eq.refl (eI a0);conv at e=>rhs;simp only [eI,h0,aX]
  rw [e]
  exact rt [.d h0] [] [] hcx (by kernel_rfl)
 | false =>
  have q0:=eC h0
  have e:=Eq.refl (eI a0);conv at e=>rhs;simp only [eI,h0,aX]
  rw [e]
  refine en [.d h0] [] [9,10,11] [] hcx aEm (aEn) (aA6 a0 0) (tN ((a0.length:Int) - 0)+1) (by kernel_rfl) ?_
  exact aSl a0 l0 hcx (tN ((a0.length:Int) - 0)+1) 0 (by(try simp only [Ls]);omega) (by(try simp only [Ls]);omega)
def aO5 (a0:Int)(a1:Int)(a2:Int):Bool :=
 (bif (decide ((a0:Int)≥a1)) then
  (decide ((a0:Int)<=a2))
 else
  false)
def F94 (a0:Int×Int):Bool :=
 (bif (decide ((a0.1:Int)≥(-1099511627776))) then
  (bif (decide ((a0.1:Int)<=a0.2)) then
   (decide ((a0.2:Int)<=1099511627776))
  else
   false)
 else
  false)
def c3 (x:Int):List SV:=[(iv x)]
theorem aW (x:Int):(c3 x).length=1:=rfl
def fQ (a0:Zt×Zt×Zt)(a1:Int):List Int :=
 (bif ((a1:Int) == 0) then
  ([a0.1.1,a0.2.1.1,a0.2.2.1]:List Int)
 else
  (bif ((a1:Int) == 1) then
   ([a0.1.2.1,a0.2.1.2.1,a0.2.2.2.1]:List Int)
  else
   ([a0.1.2.2,a0.2.1.2.2,a0.2.2.2.2]:List Int)))
def aI7 (a0:Int):Int×Int->(Int×Int)⊕(Int)
 | (v2,v3) =>
  (bif (decide ((v2:Int) < v3)) then
   (bif (decide (((W ((W (Int.tdiv (W ((W (v2+v3))+1)) 2))*(W (Int.tdiv (W ((W (v2+v3))+1)) 2)))):Int)<=a0)) then
    (.inl ((W (Int.tdiv (W ((W (v2+v3))+1)) 2)),v3))
   else
    (.inl (v2,(W ((W (Int.tdiv (W ((W (v2+v3))+1)) 2)) - 1)))))
  else
   (.inr v2))
def oQ (a0:Int):Int :=
 (aA (aI7 a0) (tN (2147483648 - 0)+1) (0,2147483648))
def aG8 (a0:Int)(a1:Int):(Int×Int)×Int :=
 (bif (!(F94 (a0,a1))) then
  ((0,0),4)
 else
  ((a0,a1),0))
def aSm (a0:Int)(a1:Int):(Int×Int)×Int :=
 (bif (((Int.tmod a0 a1):Int) == 0) then
  (bif (((W ((oQ (W (Int.tdiv a0 a1)))*(oQ (W (Int.tdiv a0 a1))))):Int) == (W (Int.tdiv a0 a1))) then
   ((aG8 (oQ (W (Int.tdiv a0 a1))) (oQ (W (Int.tdiv a0 a1)))).1,(aG8 (oQ (W (Int.tdiv a0 a1))) (oQ (W (Int.tdiv a0 a1)))).2)
  else
   ((aG8 (oQ (W (Int.tdiv a0 a1))) (W ((oQ (W (Int.tdiv a0 a1)))+1))).1,(aG8 (oQ (W (Int.tdiv a0 a1))) (W ((oQ (W (Int.tdiv a0 a1)))+1))).2))
 else
  ((aG8 (oQ (W (Int.tdiv a0 a1))) (W ((oQ (W (Int.tdiv a0 a1)))+1))).1,(aG8 (oQ (W (Int.tdiv a0 a1))) (W ((oQ (W (Int.tdiv a0 a1)))+1))).2))
def aNh (a0:Int)(a1:Int):(Int×Int)×Int :=
 (bif (!(aO5 a0 1 1099511627776)) then
  ((0,0),1)
 else
  (bif (!(aO5 a1 1 8)) then
   ((0,0),1)
  else
   ((aSm (W ((W ((W (1048576*a1))*1048576))*a1)) a0).1,(aSm (W ((W ((W (1048576*a1))*1048576))*a1)) a0).2)))
def aY2 (a0:Int):Int :=
 (oQ a0)
def eQ (a0:Zt)(a1:Zt):Zt :=
 ((W (a0.1 - a1.1)),(W (a0.2.1 - a1.2.1)),(W (a0.2.2 - a1.2.2)))
def aY3 (a0:Zt)(a1:Zt):Zt :=
 ((W ((W (a0.2.1*a1.2.2)) - (W (a0.2.2*a1.2.1)))),(W ((W (a0.2.2*a1.1)) - (W (a0.1*a1.2.2)))),(W ((W (a0.1*a1.2.1)) - (W (a0.2.1*a1.1)))))
def aEo (a0:Zt×Zt×Zt):Zt :=
 (aY3 (eQ a0.2.1 a0.1) (eQ a0.2.2 a0.1))
def lB (a0:Zt)(a1:Zt):Int :=
 (W ((W ((W (a0.1*a1.1))+(W (a0.2.1*a1.2.1))))+(W (a0.2.2*a1.2.2))))
def aO6 (a0:Int)(a1:Int)(a2:Int):Bool :=
 (bif (decide ((a0:Int)≥a1)) then
  (decide ((a0:Int)<=a2))
 else
  false)
def aO7 (a0:Zt)(a1:Int):Bool :=
 (bif (aO6 a0.1 (W (0 - a1)) a1) then
  (bif (aO6 a0.2.1 (W (0 - a1)) a1) then
   (aO6 a0.2.2 (W (0 - a1)) a1)
  else
   false)
 else
  false)
def F81 (a0:Zt×Zt×Zt):Int :=
 (bif (!(aO7 a0.1 64)) then
  1
 else
  (bif (!(aO7 a0.2.1 64)) then
   1
  else
   (bif (!(aO7 a0.2.2 64)) then
    1
   else
    (bif ((((aEo a0).1:Int) == 0)&&((((aEo a0).2.1:Int) == 0)&&((((aEo a0).2.2:Int) == 0)&&true))) then
     6
    else
     0))))
def F82 (a0:Int)(a1:Int)(a2:Int):Bool :=
 (bif (decide ((a0:Int)≥a1)) then
  (decide ((a0:Int)<=a2))
 else
  false)
def F90 (a0:Zt×Zt×Zt)(a1:Zt×Zt×Zt)(a2:Int):Int :=
 (bif (((F81 a0):Int) != 0) then
  (F81 a0)
 else
  (bif (((F81 a1):Int) != 0) then
   (F81 a1)
  else
   (bif (!(F82 a2 0 2)) then
    1
   else
    0)))
def kB (a0:Zt)(a1:Int):Zt :=
 ((W (a1*a0.1)),(W (a1*a0.2.1)),(W (a1*a0.2.2)))
def mZ (a0:Zt)(a1:Zt):Zt :=
 ((W (Int.tdiv (W (a0.1+a1.1)) 2)),(W (Int.tdiv (W (a0.2.1+a1.2.1)) 2)),(W (Int.tdiv (W (a0.2.2+a1.2.2)) 2)))
def wD (a0:Zt×Zt×Zt)(a1:Int):(List (Zt×Zt×Zt))×(List (Zt×Zt×Zt))×Int×Int->((List (Zt×Zt×Zt))×(List (Zt×Zt×Zt))×Int×Int)⊕(((List (Zt×Zt×Zt))×Int)⊕(List (Zt×Zt×Zt)))
 | (v13,v14,v15,v16) =>
  (bif (decide ((v16:Int) < (v13.length:Int))) then
   (.inl (v13,(v14++[((kB (v13.getD (tN v16) dF).1 2),(mZ (kB (v13.getD (tN v16) dF).1 2) (kB (v13.getD (tN v16) dF).2.1 2)),(mZ (kB (v13.getD (tN v16) dF).2.2 2) (kB (v13.getD (tN v16) dF).1 2))),((mZ (kB (v13.getD (tN v16) dF).1 2) (kB (v13.getD (tN v16) dF).2.1 2)),(kB (v13.getD (tN v16) dF).2.1 2),(mZ (kB (v13.getD (tN v16) dF).2.1 2) (kB (v13.getD (tN v16) dF).2.2 2))),((mZ (kB (v13.getD (tN v16) dF).2.2 2) (kB (v13.getD (tN v16) dF).1 2)),(mZ (kB (v13.getD (tN v16) dF).2.1 2) (kB (v13.getD (tN v16) dF).2.2 2)),(kB (v13.getD (tN v16) dF).2.2 2)),((mZ (kB (v13.getD (tN v16) dF).1 2) (kB (v13.getD (tN v16) dF).2.1 2)),(mZ (kB (v13.getD (tN v16) dF).2.1 2) (kB (v13.getD (tN v16) dF).2.2 2)),(mZ (kB (v13.getD (tN v16) dF).2.2 2) (kB (v13.getD (tN v16) dF).1 2)))]),v15,(v16+1)))
  else
   (.inr (.inl (v14,(v15+1)))))
def wE (a0:Zt×Zt×Zt)(a1:Int):(List (Zt×Zt×Zt))×Int->((List (Zt×Zt×Zt))×Int)⊕(List (Zt×Zt×Zt))
 | (v11,v12) =>
  (bif (decide ((v12:Int) < a1)) then
   (aA (wD a0 a1) (tN ((v11.length:Int) - 0)+1) (v11,([]:List (Zt×Zt×Zt)),v12,0))
  else
   (.inr v11))
def yT (a0:Zt×Zt×Zt)(a1:Int):List (Zt×Zt×Zt) :=
 (aA (wE a0 a1) (tN (a1 - 0)+1) (([a0]:List (Zt×Zt×Zt)),0))
def pP (a0:Zt×Zt×Zt)(a1:List Zt):Int×Int->(Int×Int)⊕(Int)
 | (v1,v2) =>
  (bif (decide ((v2:Int) < (a1.length:Int))) then
   (bif (decide (((lB (eQ a0.1 (a1.getD (tN v2) dF)) (eQ a0.1 (a1.getD (tN v2) dF))):Int) > v1)) then
    (bif (decide (((lB (eQ a0.2.1 (a1.getD (tN v2) dF)) (eQ a0.2.1 (a1.getD (tN v2) dF))):Int) > (lB (eQ a0.1 (a1.getD (tN v2) dF)) (eQ a0.1 (a1.getD (tN v2) dF))))) then
     (bif (decide (((lB (eQ a0.2.2 (a1.getD (tN v2) dF)) (eQ a0.2.2 (a1.getD (tN v2) dF))):Int) > (lB (eQ a0.2.1 (a1.getD (tN v2) dF)) (eQ a0.2.1 (a1.getD (tN v2) dF))))) then
      (.inl ((lB (eQ a0.2.2 (a1.getD (tN v2) dF)) (eQ a0.2.2 (a1.getD (tN v2) dF))),(v2+1)))
     else
      (.inl ((lB (eQ a0.2.1 (a1.getD (tN v2) dF)) (eQ a0.2.1 (a1.getD (tN v2) dF))),(v2+1))))
    else
     (bif (decide (((lB (eQ a0.2.2 (a1.getD (tN v2) dF)) (eQ a0.2.2 (a1.getD (tN v2) dF))):Int) > (lB (eQ a0.1 (a1.getD (tN v2) dF)) (eQ a0.1 (a1.getD (tN v2) dF))))) then
      (.inl ((lB (eQ a0.2.2 (a1.getD (tN v2) dF)) (eQ a0.2.2 (a1.getD (tN v2) dF))),(v2+1)))
     else
      (.inl ((lB (eQ a0.1 (a1.getD (tN v2) dF)) (eQ a0.1 (a1.getD (tN v2) dF))),(v2+1)))))
   else
    (bif (decide (((lB (eQ a0.2.1 (a1.getD (tN v2) dF)) (eQ a0.2.1 (a1.getD (tN v2) dF))):Int) > v1)) then
     (bif (decide (((lB (eQ a0.2.2 (a1.getD (tN v2) dF)) (eQ a0.2.2 (a1.getD (tN v2) dF))):Int) > (lB (eQ a0.2.1 (a1.getD (tN v2) dF)) (eQ a0.2.1 (a1.getD (tN v2) dF))))) then
      (.inl ((lB (eQ a0.2.2 (a1.getD (tN v2) dF)) (eQ a0.2.2 (a1.getD (tN v2) dF))),(v2+1)))
     else
      (.inl ((lB (eQ a0.2.1 (a1.getD (tN v2) dF)) (eQ a0.2.1 (a1.getD (tN v2) dF))),(v2+1))))
    else
     (bif (decide (((lB (eQ a0.2.2 (a1.getD (tN v2) dF)) (eQ a0.2.2 (a1.getD (tN v2) dF))):Int) > v1)) then
      (.inl ((lB (eQ a0.2.2 (a1.getD (tN v2) dF)) (eQ a0.2.2 (a1.getD (tN v2) dF))),(v2+1)))
     else
      (.inl (v1,(v2+1))))))
  else
   (.inr v1))
def aA7 (a0:Zt×Zt×Zt)(a1:List Zt):Int :=
 (aA (pP a0 a1) (tN ((a1.length:Int) - 0)+1) (0,0))
def aO8 (a0:List Int):Zt->Zt⊕(Int×Int)
 | (v1,v2,v3) =>
  (bif (decide ((v3:Int) < (a0.length:Int))) then
   (.inl ((if((a0.getD (tN v3) dF):Int) < v1 then(a0.getD (tN v3) dF) else v1),(if(v2:Int) < (a0.getD (tN v3) dF) then(a0.getD (tN v3) dF) else v2),(v3+1)))
  else
   (.inr (v1,v2)))
def dI (a0:List Int):Int×Int :=
 (aA (aO8 a0) (tN ((a0.length:Int) - 0)+1) ((a0.getD (tN 0) dF),(a0.getD (tN 0) dF),0))
def jQ (a0:List Int)(a1:List Int):Int :=
 (W ((if((if(0:Int) < (W ((dI a0).1 - (dI a1).2)) then(W ((dI a0).1 - (dI a1).2)) else 0):Int) < (W ((dI a1).1 - (dI a0).2)) then(W ((dI a1).1 - (dI a0).2)) else(if(0:Int) < (W ((dI a0).1 - (dI a1).2)) then(W ((dI a0).1 - (dI a1).2)) else 0))*(if((if(0:Int) < (W ((dI a0).1 - (dI a1).2)) then(W ((dI a0).1 - (dI a1).2)) else 0):Int) < (W ((dI a1).1 - (dI a0).2)) then(W ((dI a1).1 - (dI a0).2)) else(if(0:Int) < (W ((dI a0).1 - (dI a1).2)) then(W ((dI a0).1 - (dI a1).2)) else 0))))
def wF (a0:Zt×Zt×Zt)(a1:Zt×Zt×Zt):Int :=
 (W ((W ((jQ (fQ a0 0) (fQ a1 0))+(jQ (fQ a0 1) (fQ a1 1))))+(jQ (fQ a0 2) (fQ a1 2))))
def aEp (a0:bK):Int->(Int)⊕(Int)
 | v1 =>
  (bif (decide ((v1:Int) < (a0.length:Int))) then
   (bif (((F81 (a0.getD (tN v1) dF).1):Int) != 0) then
    (.inr (F81 (a0.getD (tN v1) dF).1))
   else
    (bif (!(F82 (a0.getD (tN v1) dF).2 (-100) 100)) then
     (.inr 1)
    else
     (.inl (v1+1))))
  else
   (.inr 0))
def nA (a0:bK):Int :=
 (bif (decide (((a0.length:Int):Int) > 96)) then
  4
 else
  (aA (aEp a0) (tN ((a0.length:Int) - 0)+1) 0))
theorem aNi {n a b:Int} (ha:0<=a)(hb:0<=b)(h1:a*a<=n)(h2:n < (a+1)*(a+1))(h3:b*b<=n)(h4:n < (b+1)*(b+1)):a=b:=by
 rcases Int.lt_trichotomy a b with h | h | h
 ·have:(a+1)*(a+1)<=b*b:=Int.mul_le_mul (by omega) (by omega) (by omega) hb
  omega
 ·exact h
 ·have:(b+1)*(b+1)<=a*a:=Int.mul_le_mul (by omega) (by omega) (by omega) ha
  omega
def IsRt (n r:Int):Prop:=0<=r/\r*r<=n/\n < (r+1)*(r+1)
theorem IsRt.eq {n a b:Int} (h:IsRt n a)(h':IsRt n b):a=b:=aNi h.1 h'.1 h.2.1 h.2.2 h'.2.1 h'.2.2
theorem IsRt.le {n r m:Int} (h:IsRt n r)(hm:0<=m)(hn:n < (m+1)*(m+1)):r<=m:=by
 rcases Int.lt_or_le m r with hlt | hle
 ·have:(m+1)*(m+1)<=r*r:=Int.mul_le_mul (by omega) (by omega) (by omega) h.1
  have:=h.2.1;omega
 ·exact hle
theorem IsRt.ge {n r m:Int} (h:IsRt n r)(hm:0<=m)(hn:m*m<=n):m<=r:=by
 rcases Int.lt_or_le r m with hlt | hle
 ·have:(r+1)*(r+1)<=m*m:=Int.mul_le_mul (by omega) (by omega) (by have:=h.1;omega) hm
  have:=h.2.2;omega
 ·exact hle
theorem IsRt.mono {n m a b:Int} (h:IsRt n a)(h':IsRt m b)(hnm:n<=m):a<=b:=h'.ge h.1 (Int.le_trans h.2.1 hnm)
theorem qM {n:Int} {S:Int×Int->(Int×Int)⊕Int} (hS:∀k b,0<=k->0 < b->k+b<=2147483648->S (k,b)=if(k+b)*(k+b)<=n then .inl (k+b,b / 2) else .inl (k,b / 2))(h0:∀k,S (k,0)=.inr k) :
 ∀(j f:Nat) (k:Int),j+2<=f->0<=k->k+2*2 ^ j<=2147483648->k*k<=n->n < (k+2*2 ^ j)*(k+2*2 ^ j)->IsRt n (aA S f (k,2 ^ j)):=by
 intro j
 induction j with
 | zero =>
  intro f k hf hk hb h1 h2
  obtain⟨f,rfl⟩:∃g,f=g+2:=⟨f - 2,by omega⟩
  simp only [Int.pow_zero] at h2 hb ⊢
  have hs:=hS k 1 hk (by omega) (by omega)
  by_cases hc:(k+1)*(k+1)<=n
  ·rw [if_pos hc] at hs
   rw [aB hs,show((1:Int) / 2)=0 by omega,aG (h0 _)]
   refine⟨by omega,hc,?_⟩
   rw [show k+1+1=k+2*1 by omega];exact h2
  ·rw [if_neg hc] at hs
   rw [aB hs,show((1:Int) / 2)=0 by omega,aG (h0 _)]
   exact⟨hk,h1,by omega⟩
 | succ j ih =>
  intro f k hf hk hb h1 h2
  obtain⟨f,rfl⟩:∃g,f=g+1:=⟨f - 1,by omega⟩
  have hp:(0:Int) < 2 ^ j:=Int.pow_pos (by omega)
  rw [Int.pow_succ] at h2 hb ⊢
  have hs:=hS k (2 ^ j*2) hk (by omega) (by omega)
  have hd:(2:Int) ^ j*2 / 2=2 ^ j:=Int.mul_ediv_cancel _ (by omega)
  rw [hd] at hs
  by_cases hc:(k+2 ^ j*2)*(k+2 ^ j*2)<=n
  ·rw [if_pos hc] at hs
   rw [aB hs]
   refine ih f _ (by omega) (by omega) (by omega) hc ?_
   rw [show k+2 ^ j*2+2*2 ^ j=k+2*((2:Int) ^ j*2) by omega];exact h2
  ·rw [if_neg hc] at hs
   rw [aB hs]
   refine ih f _ (by omega) hk (by omega) h1 ?_
   rw [show k+2*(2:Int) ^ j=k+2 ^ j*2 by omega];omega
theorem aNj {n:Int} {S:Int×Int->(Int×Int)⊕Int} (hS:∀a b,0<=a->a < b->b<=2147483648->S (a,b)=if((a+b+1) / 2)*((a+b+1) / 2)<=n then .inl ((a+b+1) / 2,b) else .inl (a,(a+b+1) / 2 - 1))(h0:∀a,S (a,a)=.inr a) :
 ∀(f:Nat) (a b:Int),0<=a->a<=b->b<=2147483648->b - a < f->a*a<=n->n < (b+1)*(b+1)->IsRt n (aA S f (a,b)):=by
 intro f
 induction f with
 | zero=>intro a b _ h _ hf;omega
 | succ f ih =>
  intro a b ha hab hb hf h1 h2
  by_cases he:a=b
  ·subst he
   rw [aG (h0 a)];exact⟨ha,h1,h2⟩
  ·have hs:=hS a b ha (by omega) hb
   by_cases hc:((a+b+1) / 2)*((a+b+1) / 2)<=n
   ·rw [if_pos hc] at hs
    rw [aB hs]
    exact ih _ _ (by omega) (by omega) hb (by omega) hc h2
   ·rw [if_neg hc] at hs
    rw [aB hs]
    refine ih _ _ ha (by omega) (by omega) (by omega) h1 ?_
    rw [show(a+b+1) / 2 - 1+1=(a+b+1) / 2 by omega];omega
theorem xY {a:Int} (h:0<=a)(h':a<=2147483648):0<=a*a/\a*a<=4611686018427387904:=⟨Int.mul_nonneg h h,Int.le_trans (Int.mul_le_mul h' h' h (by omega)) (by omega)⟩
theorem aLk {n:Int} (h0:0<=n)(h:n < 4611686018427387904):IsRt n (kH n):=by
 unfold kH
 refine qM (n:=n) (fun k b hk hb hkb=>?_) (fun k=>?_) 30 _ 0 (by decide) (by omega) (by decide) (by omega) (by simpa using h)
 ·have h2:decide (b > 0)=true:=by simpa using hb
  have hw:W (k+b)=k+b:=aH (by omega) (by omega)
  have hq:=xY (a:=k+b) (by omega) hkb
  have hw2:W ((k+b)*(k+b))=(k+b)*(k+b):=aH (by omega) (by omega)
  simp only [mC,h2,cond_true,hw,hw2]
  by_cases hc:(k+b)*(k+b)<=n<;>simp [hc]
 ·simp [mC]
theorem aEq {n:Int} (h0:0<=n)(h:n < 4611686018427387904):IsRt n (gN n):=by
 unfold gN
 rw [show decide ((4611686018427387904:Int)<=n)=false by simpa using h]
 simp only [cond_false]
 refine qM (n:=n) (fun k b hk hb hkb=>?_) (fun k=>?_) 30 _ 0 (by decide) (by omega) (by decide) (by omega) (by simpa using h)
 ·have h2:((b:Int) == 0)=false:=by rw [beq_eq_false_iff_ne];omega
  have hw:W (k+b)=k+b:=aH (by omega) (by omega)
  have hq:=xY (a:=k+b) (by omega) hkb
  have hw2:W ((k+b)*(k+b))=(k+b)*(k+b):=aH (by omega) (by omega)
  simp only [lA,h2,cond_false,hw,hw2]
  by_cases hc:(k+b)*(k+b)<=n<;>simp [hc]
 ·simp [lA]
theorem aUg {n:Int} (h0:0<=n)(h:n < 4611686018427387904):IsRt n (oQ n):=by
 unfold oQ
 refine aNj (n:=n) (fun a b ha hab hb=>?_) (fun a=>?_) _ 0 2147483648 (by omega) (by omega) (by omega) (by decide) (by omega) (by omega)
 ·have h2:decide (a < b)=true:=by simpa using hab
  have hw:=aLe (a:=a) (b:=b) (by omega)
  have hw3:=aSi (a:=a) (b:=b) (by omega)
  have hq:=xY (a:=(a+b+1) / 2) (by omega) (by omega)
  have hw2:W ((a+b+1) / 2*((a+b+1) / 2))=(a+b+1) / 2*((a+b+1) / 2):=aH (by omega) (by omega)
  have hw4:W ((a+b+1) / 2 - 1)=(a+b+1) / 2 - 1:=aH (by omega) (by omega)
  simp only [aI7,h2,cond_true,hw,hw2,hw4]
  by_cases hc:(a+b+1) / 2*((a+b+1) / 2)<=n<;>simp [hc]
 ·simp [aI7]
abbrev P3:=Zt
abbrev PN:=P3×P3×P3
def bd (m:Int)(p:P3):Prop:=(-m<=p.1/\p.1<=m)/\(-m<=p.2.1/\p.2.1<=m)/\(-m<=p.2.2/\p.2.2<=m)
def bdP (m:Int)(p:PN):Prop:=bd m p.1/\bd m p.2.1/\bd m p.2.2
def sb (p q:P3):P3:=(p.1 - q.1,p.2.1 - q.2.1,p.2.2 - q.2.2)
def dt (p q:P3):Int:=p.1*q.1+p.2.1*q.2.1+p.2.2*q.2.2
def cr (p q:P3):P3:=(p.2.1*q.2.2 - p.2.2*q.2.1,p.2.2*q.1 - p.1*q.2.2,p.1*q.2.1 - p.2.1*q.1)
def lL (p:PN):P3:=cr (sb p.2.1 p.1) (sb p.2.2 p.1)
theorem cK {a b x y:Int} (hx:-a<=x/\x<=a)(hy:-b<=y/\y<=b):-(a*b)<=x*y/\x*y<=a*b:=by
 have h1:=Int.mul_nonneg (show 0<=a - x by omega) (show 0<=b - y by omega)
 have h2:=Int.mul_nonneg (show 0<=a+x by omega) (show 0<=b+y by omega)
 have h3:=Int.mul_nonneg (show 0<=a - x by omega) (show 0<=b+y by omega)
 have h4:=Int.mul_nonneg (show 0<=a+x by omega) (show 0<=b - y by omega)
 rw [Int.sub_mul,Int.mul_sub,Int.mul_sub] at h1
 rw [Int.add_mul,Int.mul_add,Int.mul_add] at h2
 rw [Int.sub_mul,Int.mul_add,Int.mul_add] at h3
 rw [Int.add_mul,Int.mul_sub,Int.mul_sub] at h4
 omega
theorem kC {a b:Int} {p q:P3} (hp:bd a p)(hq:bd b q):bd (a+b) (sb p q):=by
 unfold bd at *;simp only [sb];omega
theorem dM (x:Int):0<=x*x:=by
 rcases Int.le_total 0 x with h | h
 ·exact Int.mul_nonneg h h
 ·exact Int.mul_nonneg_of_nonpos_of_nonpos h h
theorem lU (p:P3):0<=dt p p:=by
 have:=dM p.1;have:=dM p.2.1;have:=dM p.2.2
 simp only [dt];omega
theorem aWa {p:P3} (h:¬(p.1=0/\p.2.1=0/\p.2.2=0)):1<=dt p p:=by
 have:=dM p.1;have:=dM p.2.1;have:=dM p.2.2
 have key:∀x:Int,x≠0->1<=x*x:=fun x hx=>by
  have h0:=dM x
  have:x*x≠0:=Int.mul_ne_zero hx hx
  omega
 simp only [dt]
 by_cases h1:p.1=0
 ·by_cases h2:p.2.1=0
  ·have:=key p.2.2 (fun h3=>h ⟨h1,h2,h3⟩);omega
  ·have:=key _ h2;omega
 ·have:=key _ h1;omega
theorem aO9 {a:Int} {p q:P3} (hp:bd a p)(hq:bd a q):-(3*(a*a))<=dt p q/\dt p q<=3*(a*a):=by
 have:=cK hp.1 hq.1;have:=cK hp.2.1 hq.2.1;have:=cK hp.2.2 hq.2.2
 simp only [dt];omega
theorem aY4 {a:Int} {p q:P3} (hp:bd a p)(hq:bd a q):bd (2*(a*a)) (cr p q):=by
 have:=cK hp.2.1 hq.2.2;have:=cK hp.2.2 hq.2.1;have:=cK hp.2.2 hq.1;have:=cK hp.1 hq.2.2;have:=cK hp.1 hq.2.1;have:=cK hp.2.1 hq.1
 unfold bd;simp only [cr];omega
theorem fsb {p q:P3} (hp:bd 100000 p)(hq:bd 100000 q):bX p q=sb p q:=by
 unfold bd at *;simp only [bX,sb]
 rw [aH (by omega) (by omega),aH (by omega) (by omega),aH (by omega) (by omega)]
theorem fdt {p q:P3} (hp:bd 1000000000 p)(hq:bd 1000000000 q):iT p q=dt p q:=by
 have h1:=cK hp.1 hq.1;have h2:=cK hp.2.1 hq.2.1;have h3:=cK hp.2.2 hq.2.2
 simp only [iT,aA1,dt]
 rw [aH (n:=p.1*q.1) (by omega) (by omega),aH (n:=p.2.1*q.2.1) (by omega) (by omega),aH (n:=p.2.2*q.2.2) (by omega) (by omega),Int.zero_add,aH (n:=p.1*q.1) (by omega) (by omega),aH (n:=p.1*q.1+p.2.1*q.2.1) (by omega) (by omega),aH (by omega) (by omega)]
theorem rdt {p q:P3} (hp:bd 1000000000 p)(hq:bd 1000000000 q):lB p q=dt p q:=by
 have h1:=cK hp.1 hq.1;have h2:=cK hp.2.1 hq.2.1;have h3:=cK hp.2.2 hq.2.2
 simp only [lB,dt]
 rw [aH (n:=p.1*q.1) (by omega) (by omega),aH (n:=p.2.1*q.2.1) (by omega) (by omega),aH (n:=p.2.2*q.2.2) (by omega) (by omega),aH (n:=p.1*q.1+p.2.1*q.2.1) (by omega) (by omega),aH (by omega) (by omega)]
theorem rsb {p q:P3} (hp:bd 100000 p)(hq:bd 100000 q):eQ p q=sb p q:=by
 unfold bd at *;simp only [eQ,sb]
 rw [aH (by omega) (by omega),aH (by omega) (by omega),aH (by omega) (by omega)]
theorem aWb {p q:P3} (hp:bd 1000000000 p)(hq:bd 1000000000 q) :
 ((W ((W (p.2.1*q.2.2)) - (W (p.2.2*q.2.1)))),(W ((W (p.2.2*q.1)) - (W (p.1*q.2.2)))),(W ((W (p.1*q.2.1)) - (W (p.2.1*q.1)))))=cr p q:=by
 have h1:=cK hp.2.1 hq.2.2;have h2:=cK hp.2.2 hq.2.1;have h3:=cK hp.2.2 hq.1;have h4:=cK hp.1 hq.2.2;have h5:=cK hp.1 hq.2.1;have h6:=cK hp.2.1 hq.1
 simp only [cr]
 rw [aH (n:=p.2.1*q.2.2) (by omega) (by omega),aH (n:=p.2.2*q.2.1) (by omega) (by omega),aH (n:=p.2.2*q.1) (by omega) (by omega),aH (n:=p.1*q.2.2) (by omega) (by omega),aH (n:=p.1*q.2.1) (by omega) (by omega),aH (n:=p.2.1*q.1) (by omega) (by omega),
  aH (by omega) (by omega),aH (by omega) (by omega),aH (by omega) (by omega)]
theorem fcr {p q:P3} (hp:bd 1000000000 p)(hq:bd 1000000000 q):gL p q=cr p q:=aWb hp hq
theorem scr {p q:P3} (hp:bd 1000000000 p)(hq:bd 1000000000 q):aO0 p q=cr p q:=aWb hp hq
theorem rcr {p q:P3} (hp:bd 1000000000 p)(hq:bd 1000000000 q):aY3 p q=cr p q:=aWb hp hq
theorem ssb {p q:P3} (hp:bd 100000 p)(hq:bd 100000 q):aEh p q=sb p q:=by
 unfold bd at *;simp only [aEh,aOz,sb]
 rw [aH (n:=-1*q.1) (by omega) (by omega),aH (n:=-1*q.2.1) (by omega) (by omega),aH (n:=-1*q.2.2) (by omega) (by omega),aH (by omega) (by omega),aH (by omega) (by omega),aH (by omega) (by omega)]
 refine Prod.ext (by simp only;omega) (Prod.ext (by simp only;omega) (by simp only;omega))
theorem bd.mono {a b:Int} {p:P3} (h:bd a p)(hab:a<=b):bd b p:=by unfold bd at *;omega
theorem bdP.mono {a b:Int} {p:PN} (h:bdP a p)(hab:a<=b):bdP b p:=⟨h.1.mono hab,h.2.1.mono hab,h.2.2.mono hab⟩
theorem aDf (n a b:Int):F59 n a b=decide (a<=n/\n<=b):=by
 unfold F59
 by_cases h1:n≥a<;>by_cases h2:n<=b<;>simp [h1,h2]<;>omega
theorem aI8 (n a b:Int):F82 n a b=decide (a<=n/\n<=b):=by
 unfold F82
 by_cases h1:n≥a<;>by_cases h2:n<=b<;>simp [h1,h2]<;>omega
theorem aA8 (n a b:Int):aO5 n a b=decide (a<=n/\n<=b):=by
 unfold aO5
 by_cases h1:n≥a<;>by_cases h2:n<=b<;>simp [h1,h2]<;>omega
theorem sU (n a b:Int):aO6 n a b=decide (a<=n/\n<=b):=by
 unfold aO6
 by_cases h1:n≥a<;>by_cases h2:n<=b<;>simp [h1,h2]<;>omega
theorem aEr (n a b:Int):yR n a b=decide (a<=n/\n<=b):=by
 unfold yR
 by_cases h1:a<=n<;>by_cases h2:n<=b<;>simp [h1,h2]
theorem aY5 {a b c d:Prop} [Decidable a] [Decidable b] [Decidable c] [Decidable d] (h:(a/\b/\c)↔d):(bif decide a then(bif decide b then decide c else false) else false)=decide d:=by
 by_cases h1:a
 ·by_cases h2:b
  ·rw [bQ h1,bQ h2,cond_true,cond_true]
   by_cases h3:c
   ·rw [bQ h3,bQ (h.1 ⟨h1,h2,h3⟩)]
   ·rw [cG h3,cG (fun hd=>h3 (h.2 hd).2.2)]
  ·rw [bQ h1,cG h2,cond_true,cond_false,cG (fun hd=>h2 (h.2 hd).2.1)]
 ·rw [cG h1,cond_false,cG (fun hd=>h1 (h.2 hd).1)]
theorem eq3 (x y z a b:Int):(bif (((x:Int) == 0)&&(((y:Int) == 0)&&(((z:Int) == 0)&&true))) then a else b)=if x=0/\y=0/\z=0 then a else b:=by
 have key:∀t:Int,(t == 0)=decide (t=0):=fun t=>by
  by_cases h:t=0
  ·rw [bQ h];simpa using h
  ·rw [cG h];simpa using h
 rw [key,key,key,Bool.and_true,←Bool.decide_and,←Bool.decide_and]
 by_cases h:x=0/\y=0/\z=0
 ·rw [if_pos h,bQ h,cond_true]
 ·rw [if_neg h,cG h,cond_false]
open Classical in
theorem sV (p:P3):F97 p 64=decide (bd 64 p):=by
 unfold F97
 rw [aEr,aEr,aEr,aH (by omega) (by omega)]
 exact aY5 (by unfold bd;omega)
open Classical in
theorem wG (p:P3):aO7 p 64=decide (bd 64 p):=by
 unfold aO7
 rw [sU,sU,sU,aH (by omega) (by omega)]
 exact aY5 (by unfold bd;omega)
open Classical in
noncomputable def vp (p:PN):Int:=if bdP 64 p then(if(lL p).1=0/\(lL p).2.1=0/\(lL p).2.2=0 then 6 else 0) else 1
theorem aY6 {p:PN} (h:bdP 64 p):F98 p=lL p:=by
 have h1:=h.1.mono (show(64:Int)<=100000 by omega);have h2:=h.2.1.mono (show(64:Int)<=100000 by omega);have h3:=h.2.2.mono (show(64:Int)<=100000 by omega)
 unfold F98 lL
 rw [ssb h2 h1,ssb h3 h1]
 exact scr ((kC h.2.1 h.1).mono (by omega)) ((kC h.2.2 h.1).mono (by omega))
theorem aUh {p:PN} (h:bdP 64 p):aEo p=lL p:=by
 have h1:=h.1.mono (show(64:Int)<=100000 by omega);have h2:=h.2.1.mono (show(64:Int)<=100000 by omega);have h3:=h.2.2.mono (show(64:Int)<=100000 by omega)
 unfold aEo lL
 rw [rsb h2 h1,rsb h3 h1]
 exact rcr ((kC h.2.1 h.1).mono (by omega)) ((kC h.2.2 h.1).mono (by omega))
theorem aY7 {p:PN} (h:bdP 64 p):gL (bX p.2.1 p.1) (bX p.2.2 p.1)=lL p:=by
 have h1:=h.1.mono (show(64:Int)<=100000 by omega);have h2:=h.2.1.mono (show(64:Int)<=100000 by omega);have h3:=h.2.2.mono (show(64:Int)<=100000 by omega)
 unfold lL
 rw [fsb h2 h1,fsb h3 h1]
 exact fcr ((kC h.2.1 h.1).mono (by omega)) ((kC h.2.2 h.1).mono (by omega))
theorem aI9 (p:PN):sR p=vp p:=by
 unfold sR vp
 rw [sV,sV,sV]
 by_cases h1:bd 64 p.1
 ·by_cases h2:bd 64 p.2.1
  ·by_cases h3:bd 64 p.2.2
   ·have hb:bdP 64 p:=⟨h1,h2,h3⟩
    rw [aY6 hb,if_pos hb]
    rw [eq3];simp [h1,h2,h3]
   ·simp [h1,h2,h3,bdP]
  ·simp [h1,h2,bdP]
 ·simp [h1,bdP]
theorem aWc (p:PN):F81 p=vp p:=by
 unfold F81 vp
 rw [wG,wG,wG]
 by_cases h1:bd 64 p.1
 ·by_cases h2:bd 64 p.2.1
  ·by_cases h3:bd 64 p.2.2
   ·have hb:bdP 64 p:=⟨h1,h2,h3⟩
    rw [aUh hb,if_pos hb]
    rw [eq3];simp [h1,h2,h3]
   ·simp [h1,h2,h3,bdP]
  ·simp [h1,h2,bdP]
 ·simp [h1,bdP]
theorem lV {p:PN} (h:vp p=0):bdP 64 p/\1<=dt (lL p) (lL p):=by
 unfold vp at h
 split at h
 ·rename_i hb
  split at h
  ·cases h
  ·rename_i hn;exact⟨hb,aWa hn⟩
 ·cases h
theorem aUi {p:PN} (h:bdP 64 p):bd 32768 (lL p)/\dt (lL p) (lL p)<=3221225472:=by
 have hb:bd (2*(128*128)) (lL p):=aY4 (kC h.2.1 h.1) (kC h.2.2 h.1)
 exact⟨hb.mono (by omega),by have:=(aO9 hb hb).2;omega⟩
theorem aPa {p:PN} (h:vp p=0):∃k,kH (iT (gL (bX p.2.1 p.1) (bX p.2.2 p.1)) (gL (bX p.2.1 p.1) (bX p.2.2 p.1)))=k/\IsRt (dt (lL p) (lL p)) k/\1<=k/\k<=56755:=by
 obtain⟨hb,hd⟩:=lV h
 obtain⟨hn,hu⟩:=aUi hb
 rw [aY7 hb,fdt (hn.mono (by omega)) (hn.mono (by omega))]
 have:=aLk (n:=dt (lL p) (lL p)) (by omega) (by omega)
 exact⟨_,rfl,this,this.ge (by omega) (by omega),this.le (by omega) (by omega)⟩
theorem aPb {p:PN} (h:sR p=0):W (128*kH (iT (gL (bX p.2.1 p.1) (bX p.2.2 p.1)) (gL (bX p.2.1 p.1) (bX p.2.2 p.1))))≠0:=by
 rw [aI9] at h
 obtain⟨k,e,_,h1,h2⟩:=aPa h
 rw [e,aH (by omega) (by omega)];omega
end Go.Proofs.YtlckcjfbjnjfhaaGreat
namespace Go.Proofs.YtlckcjfbjnjfhaaGreat
open Go.Proofs Go.Aw Go.RowKit
set_option maxRecDepth 100000
def xZ (x:PN):List PN :=
 [(kB x.1 2,mZ (kB x.1 2) (kB x.2.1 2),mZ (kB x.2.2 2) (kB x.1 2)),
  (mZ (kB x.1 2) (kB x.2.1 2),kB x.2.1 2,mZ (kB x.2.1 2) (kB x.2.2 2)),
  (mZ (kB x.2.2 2) (kB x.1 2),mZ (kB x.2.1 2) (kB x.2.2 2),kB x.2.2 2),
  (mZ (kB x.1 2) (kB x.2.1 2),mZ (kB x.2.1 2) (kB x.2.2 2),mZ (kB x.2.2 2) (kB x.1 2))]
def aJa:Nat->List PN->List PN
 | 0,l=>l
 | n+1,l=>aJa n (l.flatMap xZ)
theorem aWd (a0:PN)(a1:Int)(l:List PN):∀(f i:Nat) (nx:List PN) (d:Int),l.length - i < f->i<=l.length ->
 aA (wD a0 a1) f (l,nx,d,(i:Int))=.inl (nx++(l.drop i).flatMap xZ,d+1):=by
 intro f
 induction f with
 | zero=>intro i nx d h;omega
 | succ f ih =>
  intro i nx d h hi
  by_cases hlt:i < l.length
  ·have hs:wD a0 a1 (l,nx,d,(i:Int))=.inl (l,nx++xZ (l.getD i dF),d,((i+1:Nat):Int)):=by
    have:decide ((i:Int) < (l.length:Int))=true:=by simpa using hlt
    simp only [wD,this,cond_true,fW,xZ]
    rfl
   rw [aB hs,ih _ _ _ (by omega) (by omega)]
   have hd:l.drop i=l.getD i dF::l.drop (i+1):=by
    rw [List.drop_eq_getElem_cons hlt];simp [cY,hlt]
   rw [hd,List.flatMap_cons,List.append_assoc]
  ·have:decide ((i:Int) < (l.length:Int))=false:=by simpa using hlt
   have hs:wD a0 a1 (l,nx,d,(i:Int))=.inr (.inl (nx,d+1)):=by
    simp only [wD,this,cond_false]
   rw [aG hs,List.drop_of_length_le (by omega)];simp
theorem aSn (a0:PN)(a1:Int):∀(f n:Nat) (l:List PN),n < f->aA (wE a0 a1) f (l,a1 - n)=aJa n l:=by
 intro f
 induction f with
 | zero=>intro n l h;omega
 | succ f ih =>
  intro n l h
  cases n with
  | zero =>
   have hs:wE a0 a1 (l,a1 - (0:Nat))=.inr l:=by
    have:decide (a1 - ((0:Nat):Int) < a1)=false:=by simp
    simp only [wE,this,cond_false]
   rw [aG hs];rfl
  | succ n =>
   have hs:wE a0 a1 (l,a1 - ((n+1:Nat):Int))=.inl (l.flatMap xZ,a1 - (n:Nat)):=by
    have:decide (a1 - ((n+1:Nat):Int) < a1)=true:=by simp;omega
    simp only [wE,this,cond_true]
    have:=aWd a0 a1 l (tN ((l.length:Int) - 0)+1) 0 [] (a1 - ((n+1:Nat):Int)) (by omega) (by omega)
    simp only [List.drop_zero,List.nil_append] at this
    rw [show((0:Nat):Int)=0 from rfl] at this
    rw [this,show a1 - ((n+1:Nat):Int)+1=a1 - (n:Nat) by omega]
   rw [aB hs,ih _ _ (by omega)];rfl
theorem aPc (p:PN) {d:Int} (h:0<=d):yT p d=aJa d.toNat [p]:=by
 unfold yT
 have:=aSn p d (tN (d - 0)+1) d.toNat [p] (by omega)
 rw [show d - (d.toNat:Int)=0 by omega] at this
 exact this
def mD (x:PN):List PN:=[q1 x,q2 x,q3 x,q4 x]
theorem fB {p:P3} (h:bd 100000 p):rG p 2=(2*p.1,2*p.2.1,2*p.2.2):=by
 unfold bd at h;simp only [rG];rw [aH (by omega) (by omega),aH (by omega) (by omega),aH (by omega) (by omega)]
theorem tW {p:P3} (h:bd 100000 p):kB p 2=(2*p.1,2*p.2.1,2*p.2.2):=by
 unfold bd at h;simp only [kB];rw [aH (by omega) (by omega),aH (by omega) (by omega),aH (by omega) (by omega)]
theorem lC {p q:P3} (hp:bd 100000 p)(hq:bd 100000 q):fZ p q=(p.1+q.1,p.2.1+q.2.1,p.2.2+q.2.2):=by
 unfold bd at hp hq;simp only [fZ];rw [aH (by omega) (by omega),aH (by omega) (by omega),aH (by omega) (by omega)]
theorem aPd {p q:P3} (hp:bd 100000 p)(hq:bd 100000 q):mZ (kB p 2) (kB q 2)=(p.1+q.1,p.2.1+q.2.1,p.2.2+q.2.2):=by
 rw [tW hp,tW hq]
 have key:∀a b:Int,(-100000<=a/\a<=100000)->(-100000<=b/\b<=100000)->W (Int.tdiv (W (2*a+2*b)) 2)=a+b:=fun a b h1 h2=>by
  rw [aH (n:=2*a+2*b) (by omega) (by omega),←Int.mul_add,Int.mul_tdiv_cancel_left _ (by omega),aH (by omega) (by omega)]
 simp only [mZ]
 rw [key _ _ hp.1 hq.1,key _ _ hp.2.1 hq.2.1,key _ _ hp.2.2 hq.2.2]
theorem aSo {x:PN} (h:bdP 100000 x):xZ x=mD x:=by
 unfold xZ mD q1 q2 q3 q4
 rw [aPd h.1 h.2.1,aPd h.2.2 h.1,aPd h.2.1 h.2.2,lC h.1 h.2.1,lC h.2.2 h.1,lC h.2.1 h.2.2,tW h.1,tW h.2.1,tW h.2.2,fB h.1,fB h.2.1,fB h.2.2]
theorem tX {m:Int} {x y:PN} (h:bdP m x)(hm:m<=100000)(hy:y∈mD x):bdP (2*m) y:=by
 have h1:=h.1.mono hm;have h2:=h.2.1.mono hm;have h3:=h.2.2.mono hm
 unfold mD q1 q2 q3 q4 at hy
 rw [lC h1 h2,lC h3 h1,lC h2 h3,fB h1,fB h2,fB h3] at hy
 have ha:=h.1;have hb:=h.2.1;have hc:=h.2.2
 unfold bd at ha hb hc
 simp only [List.mem_cons,List.mem_nil_iff,or_false] at hy
 unfold bdP bd
 rcases hy with rfl | rfl | rfl | rfl<;>simp only<;>omega
theorem eF:∀(d:Nat) (p:PN),bH (d+1) p=(bH d p).flatMap mD
 | 0,p=>by simp [bH,mD]
 | d+1,p=>by
  rw [show bH (d+1+1) p=bH (d+1) (q1 p)++(bH (d+1) (q2 p)++(bH (d+1) (q3 p)++bH (d+1) (q4 p))) from rfl]
  rw [eF d (q1 p),eF d (q2 p),eF d (q3 p),eF d (q4 p)]
  simp only [bH,List.flatMap_append]
theorem qN:∀(d:Nat) {m:Int} {p x:PN},bdP m p->m*2 ^ d<=100000->0<=m->x∈bH d p->bdP (m*2 ^ d) x
 | 0,m,p,x,h,_,_,hx=>by simp [bH] at hx;subst hx;simpa using h
 | d+1,m,p,x,h,hm,h0,hx=>by
  rw [eF,List.mem_flatMap] at hx
  obtain⟨y,hy,hx⟩:=hx
  have hp:(0:Int) < 2 ^ d:=Int.pow_pos (by omega)
  have hle:m*2 ^ d<=m*2 ^ (d+1):=Int.mul_le_mul_of_nonneg_left (by rw [Int.pow_succ];omega) h0
  have:=tX (qN d h (by omega) h0 hy) (by omega) hx
  rw [Int.pow_succ,←Int.mul_assoc,Int.mul_comm];exact this
theorem aA9 {α β:Type} {f g:α->List β}:∀{l:List α},(∀x∈l,f x=g x)->l.flatMap f=l.flatMap g
 | [],_=>rfl
 | x::l,h=>by rw [List.flatMap_cons,List.flatMap_cons,h x (by simp),aA9 (fun y hy=>h y (by simp [hy]))]
theorem aDg:∀(n:Nat) (l:List PN),aJa (n+1) l=(aJa n l).flatMap xZ
 | 0,l=>rfl
 | n+1,l=>by rw [aJa,aDg n];rfl
theorem aPe {p:PN} (hp:bdP 64 p):∀d:Nat,d<=9->aJa d [p]=bH d p
 | 0,_=>rfl
 | d+1,h=>by
  rw [aDg,aPe hp d (by omega),eF]
  have hle:(64:Int)*2 ^ d<=100000:=by
   have h1:(2:Nat) ^ d<=2 ^ 9:=Nat.pow_le_pow_right (by omega) (by omega)
   have h2:(2:Int) ^ d=((2 ^ d:Nat):Int):=by simp
   omega
  exact aA9 (fun x hx=>aSo ((qN d hp hle (by omega) hx).mono hle))
theorem bBq {p:PN} (hp:bdP 64 p) {d:Int} (h:0<=d/\d<=3):yT p d=bH d.toNat p:=by
 rw [aPc p h.1,aPe hp _ (by omega)]
theorem bBr (a0:Zt×Zt×Zt)(a1:Int):Con Tryz.prog 107 [(.a (k9 a0)),(iv a1)] [] (.f 158 [(.p 0 0),(.p 1 0)]) [(.live true false (k9 a0)),(.live true false [(iv a1)])]:=by
 refine aT Tryz.func107 (by kernel_rfl) fun cx hcx=>?_
 exact rt [] [] [0,1] hcx (by kernel_rfl)
def eZ (a0:Zt×Zt×Zt)(a1:Int):Int :=
 (bif (decide (((W ((W ((kH (W (Int.tdiv (W (3537128906555392*2 ^ (min (tN (W (2*a1))) 64))) (W (128*(kH (iT (gL (bX a0.2.1 a0.1) (bX a0.2.2 a0.1)) (gL (bX a0.2.1 a0.1) (bX a0.2.2 a0.1)))))))))*(kH (W (Int.tdiv (W (3537128906555392*2 ^ (min (tN (W (2*a1))) 64))) (W (128*(kH (iT (gL (bX a0.2.1 a0.1) (bX a0.2.2 a0.1)) (gL (bX a0.2.1 a0.1) (bX a0.2.2 a0.1)))))))))))*(W (128*(kH (iT (gL (bX a0.2.1 a0.1) (bX a0.2.2 a0.1)) (gL (bX a0.2.1 a0.1) (bX a0.2.2 a0.1)))))))):Int) < (W (3537128906555392*2 ^ (min (tN (W (2*a1))) 64))))) then
  (W ((kH (W (Int.tdiv (W (3537128906555392*2 ^ (min (tN (W (2*a1))) 64))) (W (128*(kH (iT (gL (bX a0.2.1 a0.1) (bX a0.2.2 a0.1)) (gL (bX a0.2.1 a0.1) (bX a0.2.2 a0.1)))))))))+1))
 else
  (kH (W (Int.tdiv (W (3537128906555392*2 ^ (min (tN (W (2*a1))) 64))) (W (128*(kH (iT (gL (bX a0.2.1 a0.1) (bX a0.2.2 a0.1)) (gL (bX a0.2.1 a0.1) (bX a0.2.2 a0.1))))))))))
theorem bBs (a0:Zt×Zt×Zt)(a1:Int)(hp:sR a0=0)(ha:0<=a1/\a1<=3):Con Tryz.prog 105 [(.a (k9 a0)),(iv a1)] [] (iv (eZ a0 a1)) []:=by
 refine aT Tryz.func105 (by kernel_rfl) fun cx hcx=>?_
 let t0:List (St Tryz.prog):=[.c [] (aV5 a0.2.1 a0.1),.c [] (aV5 a0.2.2 a0.1),.c [] (bBl (bX a0.2.1 a0.1) (bX a0.2.2 a0.1)),.c [] (aV4 (gL (bX a0.2.1 a0.1) (bX a0.2.2 a0.1)) (gL (bX a0.2.1 a0.1) (bX a0.2.2 a0.1))),.c [] (aYw (iT (gL (bX a0.2.1 a0.1) (bX a0.2.2 a0.1)) (gL (bX a0.2.1 a0.1) (bX a0.2.2 a0.1)))),.p (show 0<=((W (2*a1)):Int) from by first | (rw [aH]<;>omega) | exact aPb hp),.p (show((W (128*(kH (iT (gL (bX a0.2.1 a0.1) (bX a0.2.2 a0.1)) (gL (bX a0.2.1 a0.1) (bX a0.2.2 a0.1)))))):Int)≠0 from by first | (rw [aH]<;>omega) | exact aPb hp),.c [] (aYw (W (Int.tdiv (W (3537128906555392*2 ^ (min (tN (W (2*a1))) 64))) (W (128*(kH (iT (gL (bX a0.2.1 a0.1) (bX a0.2.2 a0.1)) (gL (bX a0.2.1 a0.1) (bX a0.2.2 a0.1)))))))))]
 cases h0:(decide (((W ((W ((kH (W (Int.tdiv (W (3537128906555392*2 ^ (min (tN (W (2*a1))) 64))) (W (128*(kH (iT (gL (bX a0.2.1 a0.1) (bX a0.2.2 a0.1)) (gL (bX a0.2.1 a0.1) (bX a0.2.2 a0.1)))))))))*(kH (W (Int.tdiv (W (3537128906555392*2 ^ (min (tN (W (2*a1))) 64))) (W (128*(kH (iT (gL (bX a0.2.1 a0.1) (bX a0.2.2 a0.1)) (gL (bX a0.2.1 a0.1) (bX a0.2.2 a0.1)))))))))))*(W (128*(kH (iT (gL (bX a0.2.1 a0.1) (bX a0.2.2 a0.1)) (gL (bX a0.2.1 a0.1) (bX a0.2.2 a0.1)))))))):Int) < (W (3537128906555392*2 ^ (min (tN (W (2*a1))) 64))))) with
 | true =>
  have q0:=dB h0
  have e:=Eq.refl (eZ a0 a1);conv at e=>rhs;simp only [eZ,h0,aX]
  rw [e]
  exact rt (t0++[.d h0]) [] [] hcx (by kernel_rfl)
 | false =>
  have q0:=eC h0
  have e:=Eq.refl (eZ a0 a1);conv at e=>rhs;simp only [eZ,h0,aX]
  rw [e]
  exact rt (t0++[.d h0]) [] [] hcx (by kernel_rfl)
def aI (a0:Zt×Zt×Zt):Zt×Zt×Zt :=
 a0
theorem aWe (a0:Zt×Zt×Zt):Con Tryz.prog 106 [(.a (k9 a0))] [] (.a (k9 (aI a0))) []:=by
 refine aT Tryz.func106 (by kernel_rfl) fun cx hcx=>?_
 have e:=Eq.refl (aI a0);conv at e=>rhs;simp only [aI]
 rw [e]
 exact rt [] [] [] hcx (by kernel_rfl)
def aCs (a0:Int)(a1:Int)(a2:Int):Int×Int :=
 (yS (a0,a1) a2).1
theorem bBt (a0:Int)(a1:Int)(a2:Int):Con Tryz.prog 111 [(iv a0),(iv a1),(iv a2)] [] (.a (k2 (aCs a0 a1 a2))) []:=by
 refine aT Tryz.func111 (by kernel_rfl) fun cx hcx=>?_
 have e:=Eq.refl (aCs a0 a1 a2);conv at e=>rhs;simp only [aCs]
 rw [e]
 exact rt [.c [] (bBp (a0,a1) a2)] [] [] hcx (by kernel_rfl)
noncomputable def bBu:Code:=match (cH [1,1,1,1,0,1,0] [] (Tryz.f70.body.getD .skip)).1 with
 | .rangeFunc _ _ a b=>a
 | _=>.skip
noncomputable def bBv:Code:=match (cH [1,1,1,1,0,1,0] [] (Tryz.f70.body.getD .skip)).1 with
 | .rangeFunc _ _ a b=>b
 | _=>.skip
noncomputable def bBw:List K:=(cH [1,1,1,1,0,1,0] [] (Tryz.f70.body.getD .skip)).2
def aWf (a0:Zt×Zt×Zt)(a1:Zt×Zt×Zt)(a2:Int):Int×Int->LS
 | (v1,v2)=>⟨[.u,.u,(iv a2),.u,.u,.u,(.p 0 0),(.p 1 0),(.p 2 0),(.p 3 0),(.p 4 0),(.p 5 0),.u,.u,.u,.u,.u,.u,.u,.u,.u,.u,.u,.u,.u,.u,.u,.u,.u,(.f 158 [(.p 6 0),(.p 7 0)]),.u,.u,.u,.u,.u,.u,.u,.u,.u,.u,.u,.u,.u,.u,.u,.u,.u,.u,.u,.u,.u,.u,.u,.u,.u,.u,.u,.u,.u,.u,.u,.u,.u,.u,.u,.u,.u,.u,.u,.u],[(.live true false [(iv 0),(iv 0)]),(.live true false [(iv (W (1*2 ^ (min (tN a2) 64))))]),(.live true false [(iv (eZ a0 a2))]),(.live true false (k9 (aI a1))),(.live true false [(iv v1)]),(.live true false [(iv v2)]),(.live true false (k9 a0)),(.live true false [(iv a2)])]⟩
def aY8 (a0:Zt×Zt×Zt)(a1:Zt×Zt×Zt)(a2:Int):Int×Int->Zt×Zt×Zt->LS
 | (v1,v2),x=>⟨[.u,.u,.u,.u,.u,.u,.u,(.p 1 0),(.p 2 0),(.p 3 0),(.p 4 0),(.p 5 0),(.p 8 0),.u,.u,.u,.u,.u,.u,.u,.u,.u,.u,.u,.u,.u,.u,.u,.u,.u,.u,.u,.u,.u,.u,.u,.u,.u,.u,.u,.u,.u,.u,.u,.u,.u,.u,.u,.u,.u,.u,.u,.u,.u,.u,.u,.u,.u,.u,.u,.u,.u,.u,.u,.u,.u,.u,.u,.u,.u],[(.live true false [(iv 0),(iv 0)]),(.live true false [(iv (W (1*2 ^ (min (tN a2) 64))))]),(.live true false [(iv (eZ a0 a2))]),(.live true false (k9 (aI a1))),(.live true false [(iv v1)]),(.live true false [(iv v2)]),(.live true false (k9 a0)),(.live true false [(iv a2)]),(.live true false (k9 x))]⟩
def yA (a0:Zt×Zt×Zt)(a1:Zt×Zt×Zt)(a2:Int):Int×Int->Zt×Zt×Zt->Int×Int
 | (v1,v2),x =>
  (bif (decide (((bY (aI x) (aI a1)):Int) > 0)) then
   ((W (v1+(fL (bT ([(aI x).1,(aI x).2.1,(aI x).2.2]:List Zt) ([(aI a1).1,(aI a1).2.1,(aI a1).2.2]:List Zt)) (W (1*2 ^ (min (tN a2) 64)))).1.1)),(W (v2+(if((fL (bY (aI x) (aI a1)) (W (1*2 ^ (min (tN a2) 64)))).1.2:Int) < (eZ a0 a2) then(fL (bY (aI x) (aI a1)) (W (1*2 ^ (min (tN a2) 64)))).1.2 else(eZ a0 a2)))))
  else
   ((W (v1+(fL (bT ([(aI x).1,(aI x).2.1,(aI x).2.2]:List Zt) ([(aI a1).1,(aI a1).2.1,(aI a1).2.2]:List Zt)) (W (1*2 ^ (min (tN a2) 64)))).1.1)),(W (v2+(eZ a0 a2)))))
def G70 (a0:Zt×Zt×Zt)(a1:Zt×Zt×Zt)(a2:Int):Int×Int->Int×Int
 | (v1,v2) =>
  (aCs v1 v2 (W (1*2 ^ (min (tN (W (2*a2))) 64))))
def F70 (a0:Zt×Zt×Zt)(a1:Zt×Zt×Zt)(a2:Int):Int×Int :=
 (G70 a0 a1 a2 ((bH (tN a2) a0).foldl (yA a0 a1 a2) (0,0)))
theorem C70 (a0:Zt×Zt×Zt)(a1:Zt×Zt×Zt)(a2:Int)(hp:sR a0=0)(ha:0<=a2/\a2<=3):Con Tryz.prog 70 [(.a (k9 a0)),(.a (k9 a1)),(iv a2)] [] (.a (k2 (F70 a0 a1 a2))) []:=by
 have e:(F70 a0 a1 a2)=(G70 a0 a1 a2 ((bH (tN a2) a0).foldl (yA a0 a1 a2) (0,0))):=by simp only [F70]
 rw [e]
 refine aG0 (n:=9) Tryz.func70 rfl (ent Tryz.func70 (by kernel_rfl) rfl) (by show 3<=Tryz.f70.ntmps;decide) (by kernel_rfl) trivial (fun cx hcx=>?_)
 refine xV (T:=T0) hT hm (f:=5000) (orc:=[.call [] (iv (eZ a0 a2)) [],.call [] (.a (k9 (aI a1))) [],.call [] (.f 158 [(.p 0 0),(.p 1 0)]) [(.live true false (k9 a0)),(.live true false [(iv a2)])]]) [] [2,6,7,8,9,10,11,29] [2,3,4,5,6,7,8,9] hcx (x:=.rangeFunc (.tmp 29) #[30] bBu bBv) (k':=bBw) (s':=aWf a0 a1 a2 (0,0))
  (obs:=[.pr (0<=(a2:Int)),.call 105 [(.a (k9 a0)),(iv a2)] [] (iv (eZ a0 a2)) [],.call 106 [(.a (k9 a1))] [] (.a (k9 (aI a1))) [],.call 107 [(.a (k9 a0)),(iv a2)] [] (.f 158 [(.p 0 0),(.p 1 0)]) [(.live true false (k9 a0)),(.live true false [(iv a2)])]]) (by kernel_rfl) ⟨(show 0<=(a2:Int) from by first | omega | (rw [aH]<;>omega) | exact nR _),(bBs a0 a2  hp ha),(aWe a1),(bBr a0 a2),trivial⟩ ?_
 refine aOt (xs:=bH (tN a2) a0) (enc:=aEf) (V:=Int×Int) (R':=Empty) hcx rfl (by decide) [6,7] [(.p 0 0),(.p 1 0)] [(.live false false (k9 a0)),(.live false false [(iv a2)])] rfl rfl (aNg a0 a2 (by first | omega | exact pair_le h0)) (fun x=>SV.a (cP x)) aG4 aVx 8 (Nb rfl) (dB (by kernel_rfl))
  (aWf a0 a1 a2) (0,0) rfl (fun⟨v1,v2⟩=>(by kernel_rfl)) (by kernel_rfl) (fun v v'=>(iA (iA (iA (iA (iA (iA (iA (iA aNf))))))))) (fun⟨v1,v2⟩=>(by kernel_rfl)) (fun⟨v1,v2⟩=>(by kernel_rfl)) (fun⟨v1,v2⟩=>(Nat.le_of_ble_eq_true (by kernel_rfl)))
  (fun v x=>.inl (yA a0 a1 a2 v x)) (fun r=>r.elim) (fun v r=>r.elim) (fun r=>r.elim)
  (fun _ _=>True) trivial (aY8 a0 a1 a2) (fun⟨v1,v2⟩ x=>(by kernel_rfl)) (fun⟨v1,v2⟩ x=>(by kernel_rfl)) (fun⟨v1,v2⟩ x=>(Nat.le_of_ble_eq_true (by kernel_rfl)))
  (fun cx' l i ⟨v1,v2⟩ x QA hcx' hx hinv hg=>aEc (T:=T0) hT hm (f:=5000) (orc:=[]) [] [7,8,9,10,11,12] [8] hcx' (obs:=[]) (by kernel_rfl) trivial hg)
  (fun cx' l i ⟨v1,v2⟩ x QB hcx' hx hinv hb1 hb2=>?_) (fun cx' d ⟨v1,v2⟩ hh hv hinv=>?_) (fun cx' d r hh hv=>?_)
 ·show Aw.Good _ _ _ _ _ _ _ (aY8 a0 a1 a2 (v1,v2) x)
  cases h0:(decide (((bY (aI x) (aI a1)):Int) > 0)) with
  | true =>
   have q0:=dB h0
   have e:(Sum.inl (yA a0 a1 a2 (v1,v2) x):(Int×Int)⊕Empty)=.inl ((W (v1+(fL (bT ([(aI x).1,(aI x).2.1,(aI x).2.2]:List Zt) ([(aI a1).1,(aI a1).2.1,(aI a1).2.2]:List Zt)) (W (1*2 ^ (min (tN a2) 64)))).1.1)),(W (v2+(if((fL (bY (aI x) (aI a1)) (W (1*2 ^ (min (tN a2) 64)))).1.2:Int) < (eZ a0 a2) then(fL (bY (aI x) (aI a1)) (W (1*2 ^ (min (tN a2) 64)))).1.2 else(eZ a0 a2))))):=by simp only [yA,h0,aX]
   refine aEc (T:=T0) hT hm (f:=5000) (orc:=[.call [] (.a (k9 (aI x))) [],.call [9,3] (iv (bT ([(aI x).1,(aI x).2.1,(aI x).2.2]:List Zt) ([(aI a1).1,(aI a1).2.1,(aI a1).2.2]:List Zt))) [],.call [] (.t [(.a (k2 (fL (bT ([(aI x).1,(aI x).2.1,(aI x).2.2]:List Zt) ([(aI a1).1,(aI a1).2.1,(aI a1).2.2]:List Zt)) (W (1*2 ^ (min (tN a2) 64)))).1)),(iv (fL (bT ([(aI x).1,(aI x).2.1,(aI x).2.2]:List Zt) ([(aI a1).1,(aI a1).2.1,(aI a1).2.2]:List Zt)) (W (1*2 ^ (min (tN a2) 64)))).2)]) [],.call [9,3] (iv (bY (aI x) (aI a1))) [],.d true,.call [] (.t [(.a (k2 (fL (bY (aI x) (aI a1)) (W (1*2 ^ (min (tN a2) 64)))).1)),(iv (fL (bY (aI x) (aI a1)) (W (1*2 ^ (min (tN a2) 64)))).2)]) []]) [] [] [] hcx' (s':=⟨List.replicate 70 .u,[(.live true false [(iv 0),(iv 0)]),(.live true false [(iv (W (1*2 ^ (min (tN a2) 64))))]),(.live true false [(iv (eZ a0 a2))]),(.live true false (k9 (aI a1))),(.live true false [(iv (W (v1+(fL (bT ([(aI x).1,(aI x).2.1,(aI x).2.2]:List Zt) ([(aI a1).1,(aI a1).2.1,(aI a1).2.2]:List Zt)) (W (1*2 ^ (min (tN a2) 64)))).1.1)))]),(.live true false [(iv (W (v2+(if((fL (bY (aI x) (aI a1)) (W (1*2 ^ (min (tN a2) 64)))).1.2:Int) < (eZ a0 a2) then(fL (bY (aI x) (aI a1)) (W (1*2 ^ (min (tN a2) 64)))).1.2 else(eZ a0 a2)))))]),(.live true false (k9 a0)),(.live true false [(iv a2)])]⟩)
    (obs:=[.call 106 [(.a (k9 x))] [] (.a (k9 (aI x))) [],.call 109 [(.s 0 0 3 3),(.s 1 0 3 3)] [(.live false false (k9 (aI x))),(.live false false (k9 (aI a1)))] (iv (bT ([(aI x).1,(aI x).2.1,(aI x).2.2]:List Zt) ([(aI a1).1,(aI a1).2.1,(aI a1).2.2]:List Zt))) [],.call 108 [(iv (bT ([(aI x).1,(aI x).2.1,(aI x).2.2]:List Zt) ([(aI a1).1,(aI a1).2.1,(aI a1).2.2]:List Zt))),(iv (W (1*2 ^ (min (tN a2) 64))))] [] (.t [(.a (k2 (fL (bT ([(aI x).1,(aI x).2.1,(aI x).2.2]:List Zt) ([(aI a1).1,(aI a1).2.1,(aI a1).2.2]:List Zt)) (W (1*2 ^ (min (tN a2) 64)))).1)),(iv (fL (bT ([(aI x).1,(aI x).2.1,(aI x).2.2]:List Zt) ([(aI a1).1,(aI a1).2.1,(aI a1).2.2]:List Zt)) (W (1*2 ^ (min (tN a2) 64)))).2)]) [],.call 110 [(.s 0 0 3 3),(.s 1 0 3 3)] [(.live false false (k9 (aI x))),(.live false false (k9 (aI a1)))] (iv (bY (aI x) (aI a1))) [],.eq (decide (((bY (aI x) (aI a1)):Int) > 0)) true,.call 108 [(iv (bY (aI x) (aI a1))),(iv (W (1*2 ^ (min (tN a2) 64))))] [] (.t [(.a (k2 (fL (bY (aI x) (aI a1)) (W (1*2 ^ (min (tN a2) 64)))).1)),(iv (fL (bY (aI x) (aI a1)) (W (1*2 ^ (min (tN a2) 64)))).2)]) []]) (by kernel_rfl) ⟨(aWe x),(Con.flags (bs':=[(.live false false (k9 (aI x))),(.live false false (k9 (aI a1)))]) (aG6 ([(aI x).1,(aI x).2.1,(aI x).2.2]:List Zt) ([(aI a1).1,(aI a1).2.1,(aI a1).2.2]:List Zt) (by(try simp only [Lt]);omega) (by(try simp only [Lt]);omega)) rfl ⟨kX (fun _=>rfl),kX (fun _=>rfl),trivial⟩),(aV8 (bT ([(aI x).1,(aI x).2.1,(aI x).2.2]:List Zt) ([(aI a1).1,(aI a1).2.1,(aI a1).2.2]:List Zt)) (W (1*2 ^ (min (tN a2) 64)))),(aG5 (aI x) (aI a1)),h0,(aV8 (bY (aI x) (aI a1)) (W (1*2 ^ (min (tN a2) 64)))),trivial⟩ ?_
   exact hb1 _ e trivial
  | false =>
   have q0:=eC h0
   have e:(Sum.inl (yA a0 a1 a2 (v1,v2) x):(Int×Int)⊕Empty)=.inl ((W (v1+(fL (bT ([(aI x).1,(aI x).2.1,(aI x).2.2]:List Zt) ([(aI a1).1,(aI a1).2.1,(aI a1).2.2]:List Zt)) (W (1*2 ^ (min (tN a2) 64)))).1.1)),(W (v2+(eZ a0 a2)))):=by simp only [yA,h0,aX]
   refine aEc (T:=T0) hT hm (f:=5000) (orc:=[.call [] (.a (k9 (aI x))) [],.call [9,3] (iv (bT ([(aI x).1,(aI x).2.1,(aI x).2.2]:List Zt) ([(aI a1).1,(aI a1).2.1,(aI a1).2.2]:List Zt))) [],.call [] (.t [(.a (k2 (fL (bT ([(aI x).1,(aI x).2.1,(aI x).2.2]:List Zt) ([(aI a1).1,(aI a1).2.1,(aI a1).2.2]:List Zt)) (W (1*2 ^ (min (tN a2) 64)))).1)),(iv (fL (bT ([(aI x).1,(aI x).2.1,(aI x).2.2]:List Zt) ([(aI a1).1,(aI a1).2.1,(aI a1).2.2]:List Zt)) (W (1*2 ^ (min (tN a2) 64)))).2)]) [],.call [9,3] (iv (bY (aI x) (aI a1))) [],.d false]) [] [] [] hcx' (s':=⟨List.replicate 70 .u,[(.live true false [(iv 0),(iv 0)]),(.live true false [(iv (W (1*2 ^ (min (tN a2) 64))))]),(.live true false [(iv (eZ a0 a2))]),(.live true false (k9 (aI a1))),(.live true false [(iv (W (v1+(fL (bT ([(aI x).1,(aI x).2.1,(aI x).2.2]:List Zt) ([(aI a1).1,(aI a1).2.1,(aI a1).2.2]:List Zt)) (W (1*2 ^ (min (tN a2) 64)))).1.1)))]),(.live true false [(iv (W (v2+(eZ a0 a2))))]),(.live true false (k9 a0)),(.live true false [(iv a2)])]⟩)
    (obs:=[.call 106 [(.a (k9 x))] [] (.a (k9 (aI x))) [],.call 109 [(.s 0 0 3 3),(.s 1 0 3 3)] [(.live false false (k9 (aI x))),(.live false false (k9 (aI a1)))] (iv (bT ([(aI x).1,(aI x).2.1,(aI x).2.2]:List Zt) ([(aI a1).1,(aI a1).2.1,(aI a1).2.2]:List Zt))) [],.call 108 [(iv (bT ([(aI x).1,(aI x).2.1,(aI x).2.2]:List Zt) ([(aI a1).1,(aI a1).2.1,(aI a1).2.2]:List Zt))),(iv (W (1*2 ^ (min (tN a2) 64))))] [] (.t [(.a (k2 (fL (bT ([(aI x).1,(aI x).2.1,(aI x).2.2]:List Zt) ([(aI a1).1,(aI a1).2.1,(aI a1).2.2]:List Zt)) (W (1*2 ^ (min (tN a2) 64)))).1)),(iv (fL (bT ([(aI x).1,(aI x).2.1,(aI x).2.2]:List Zt) ([(aI a1).1,(aI a1).2.1,(aI a1).2.2]:List Zt)) (W (1*2 ^ (min (tN a2) 64)))).2)]) [],.call 110 [(.s 0 0 3 3),(.s 1 0 3 3)] [(.live false false (k9 (aI x))),(.live false false (k9 (aI a1)))] (iv (bY (aI x) (aI a1))) [],.eq (decide (((bY (aI x) (aI a1)):Int) > 0)) false]) (by kernel_rfl) ⟨(aWe x),(Con.flags (bs':=[(.live false false (k9 (aI x))),(.live false false (k9 (aI a1)))]) (aG6 ([(aI x).1,(aI x).2.1,(aI x).2.2]:List Zt) ([(aI a1).1,(aI a1).2.1,(aI a1).2.2]:List Zt) (by(try simp only [Lt]);omega) (by(try simp only [Lt]);omega)) rfl ⟨kX (fun _=>rfl),kX (fun _=>rfl),trivial⟩),(aV8 (bT ([(aI x).1,(aI x).2.1,(aI x).2.2]:List Zt) ([(aI a1).1,(aI a1).2.1,(aI a1).2.2]:List Zt)) (W (1*2 ^ (min (tN a2) 64)))),(aG5 (aI x) (aI a1)),h0,trivial⟩ ?_
   exact hb1 _ e trivial
 ·rw [aAx,Sum.inl.injEq] at hv;rw [hv]
  show Aw.Good _ _ _ _ _ _ _ (aWf a0 a1 a2 (v1,v2))
  have e:G70 a0 a1 a2 (v1,v2)=(aCs v1 v2 (W (1*2 ^ (min (tN (W (2*a2))) 64)))):=by simp only [G70]
  rw [e]
  exact aSf (T:=T0) hT hm (f:=5000) (orc:=[.call [] (.a (k2 (aCs v1 v2 (W (1*2 ^ (min (tN (W (2*a2))) 64)))))) []]) [] [] [] hh hcx
   (obs:=[.pr (0<=((W (2*a2)):Int)),.call 111 [(iv v1),(iv v2),(iv (W (1*2 ^ (min (tN (W (2*a2))) 64))))] [] (.a (k2 (aCs v1 v2 (W (1*2 ^ (min (tN (W (2*a2))) 64)))))) []]) (by kernel_rfl) ⟨(show 0<=((W (2*a2)):Int) from by first | omega | (rw [aH]<;>omega) | exact nR _),(bBt v1 v2 (W (1*2 ^ (min (tN (W (2*a2))) 64)))),trivial⟩
 ·exact r.elim
def aJb (a0:Int)(a1:Int):Int :=
 (bif (decide (((Int.tmod a0 a1):Int) < 0)) then
  (W ((W (Int.tdiv a0 a1)) - 1))
 else
  (W (Int.tdiv a0 a1)))
def aJc (a0:Int)(a1:Int):Int :=
 (W (0 - (aJb (W (0 - a0)) a1)))
def aJd (a0:Zt×Zt×Zt)(a1:Int):Int×Int->(Int×Int)⊕(Int)
 | (v2,v3) =>
  (bif (decide ((v2:Int) < v3)) then
   (bif (decide (((W ((W (Int.tdiv (W (v2+v3)) 2))*(W (Int.tdiv (W (v2+v3)) 2)))):Int)≥(aJc (W ((W ((W (1099511627776*(W (1*2 ^ (min (tN (IntKind.wrap .u64 a1)) 64)))))*(W (1*2 ^ (min (tN (IntKind.wrap .u64 a1)) 64)))))*3217)) (W (128*(aY2 (lB (aEo a0) (aEo a0)))))))) then
    (.inl (v2,(W (Int.tdiv (W (v2+v3)) 2))))
   else
    (.inl ((W ((W (Int.tdiv (W (v2+v3)) 2))+1)),v3)))
  else
   (.inr v2))
def aPf (a0:Zt×Zt×Zt)(a1:Int):Int :=
 (aA (aJd a0 a1) (tN (268435456 - 0)+1) (0,268435456))
def aLl (a0:Zt×Zt×Zt)(a1:Int)(a2:Zt×Zt×Zt):Zt->Zt⊕(Int×Int)
 | (v1,v2,v3) =>
  (bif (decide ((v3:Int) < (((yT a0 a1).length:Nat):Int))) then
   (bif (decide (((wF ((yT a0 a1).getD (tN v3) dF) a2):Int) > 0)) then
    (.inl ((W (v1+(aNh (aA7 ((yT a0 a1).getD (tN v3) dF) ([a2.1,a2.2.1,a2.2.2]:List Zt)) (W (1*2 ^ (min (tN (IntKind.wrap .u64 a1)) 64)))).1.1)),(W (v2+(if((aNh (wF ((yT a0 a1).getD (tN v3) dF) a2) (W (1*2 ^ (min (tN (IntKind.wrap .u64 a1)) 64)))).1.2:Int) < (aPf a0 a1) then(aNh (wF ((yT a0 a1).getD (tN v3) dF) a2) (W (1*2 ^ (min (tN (IntKind.wrap .u64 a1)) 64)))).1.2 else(aPf a0 a1)))),(v3+1)))
   else
    (.inl ((W (v1+(aNh (aA7 ((yT a0 a1).getD (tN v3) dF) ([a2.1,a2.2.1,a2.2.2]:List Zt)) (W (1*2 ^ (min (tN (IntKind.wrap .u64 a1)) 64)))).1.1)),(W (v2+(aPf a0 a1))),(v3+1))))
  else
   (.inr ((aJb v1 (((yT a0 a1).length:Nat):Int)),(aJc v2 (((yT a0 a1).length:Nat):Int)))))
def F91 (a0:Zt×Zt×Zt)(a1:Int)(a2:Zt×Zt×Zt):Int×Int :=
 (aA (aLl a0 a1 a2) (tN ((((yT a0 a1).length:Nat):Int) - 0)+1) (0,0,0))
def mx (a b:Int):Int:=if a < b then b else a
theorem jR {a b c:Int} (h:a<=c)(h':b<=c):mx a b<=c:=by unfold mx;split<;>assumption
theorem dC (a b:Int):a<=mx a b:=by unfold mx;split<;>omega
theorem mE (a b:Int):b<=mx a b:=by unfold mx;split<;>omega
def ds (p q:P3):Int:=dt (sb p q) (sb p q)
def fF (p q:P3):Int:=iT (bX p q) (bX p q)
theorem tY {p q:P3} (hp:bd 5000 p)(hq:bd 5000 q):fF p q=ds p q:=by
 unfold fF ds
 rw [fsb (hp.mono (by omega)) (hq.mono (by omega))]
 exact fdt ((kC hp hq).mono (by omega)) ((kC hp hq).mono (by omega))
def rF (p q:P3):Int:=lB (eQ p q) (eQ p q)
theorem tZ {p q:P3} (hp:bd 5000 p)(hq:bd 5000 q):rF p q=ds p q:=by
 unfold rF ds
 rw [rsb (hp.mono (by omega)) (hq.mono (by omega))]
 exact rdt ((kC hp hq).mono (by omega)) ((kC hp hq).mono (by omega))
theorem aY9 (c:PN)(x y z:P3):bT [c.1,c.2.1,c.2.2] [x,y,z] =
 mx (mx (mx (mx (mx (mx (mx (mx (mx 0 (fF c.1 x)) (fF c.1 y)) (fF c.1 z)) (fF c.2.1 x)) (fF c.2.1 y)) (fF c.2.1 z)) (fF c.2.2 x)) (fF c.2.2 y)) (fF c.2.2 z):=by
 rfl
theorem wH (c:PN)(l:List P3)(v:Int)(i:Nat)(h:i < l.length) :
 pP c l (v,(i:Int))=.inl (mx (mx (mx v (rF c.1 (l.getD i dF))) (rF c.2.1 (l.getD i dF))) (rF c.2.2 (l.getD i dF)),((i+1:Nat):Int)):=by
 have h0:decide ((i:Int) < (l.length:Int))=true:=by simpa using h
 simp only [pP,h0,cond_true,fW]
 have key:∀q:P3,(bif decide (rF c.1 q > v) then bif decide (rF c.2.1 q > rF c.1 q) then bif decide (rF c.2.2 q > rF c.2.1 q) then Sum.inl (rF c.2.2 q,(i:Int)+1) else Sum.inl (rF c.2.1 q,(i:Int)+1) else bif decide (rF c.2.2 q > rF c.1 q) then Sum.inl (rF c.2.2 q,(i:Int)+1) else Sum.inl (rF c.1 q,(i:Int)+1)
  else bif decide (rF c.2.1 q > v) then bif decide (rF c.2.2 q > rF c.2.1 q) then Sum.inl (rF c.2.2 q,(i:Int)+1) else Sum.inl (rF c.2.1 q,(i:Int)+1) else bif decide (rF c.2.2 q > v) then Sum.inl (rF c.2.2 q,(i:Int)+1) else Sum.inl (v,(i:Int)+1))
  = (Sum.inl (mx (mx (mx v (rF c.1 q)) (rF c.2.1 q)) (rF c.2.2 q),((i:Int)+1)):(Int×Int)⊕Int):=by
  intro q
  generalize rF c.1 q=a1;generalize rF c.2.1 q=a2;generalize rF c.2.2 q=a3
  unfold mx
  by_cases h1:a1 > v
  ·rw [bQ h1,cond_true,if_pos h1]
   by_cases h2:a2 > a1
   ·rw [bQ h2,cond_true,if_pos h2]
    by_cases h3:a3 > a2
    ·rw [bQ h3,cond_true,if_pos h3]
    ·rw [cG h3,cond_false,if_neg h3]
   ·rw [cG h2,cond_false,if_neg h2]
    by_cases h3:a3 > a1
    ·rw [bQ h3,cond_true,if_pos h3]
    ·rw [cG h3,cond_false,if_neg h3]
  ·rw [cG h1,cond_false,if_neg h1]
   by_cases h2:a2 > v
   ·rw [bQ h2,cond_true,if_pos h2]
    by_cases h3:a3 > a2
    ·rw [bQ h3,cond_true,if_pos h3]
    ·rw [cG h3,cond_false,if_neg h3]
   ·rw [cG h2,cond_false,if_neg h2]
    by_cases h3:a3 > v
    ·rw [bQ h3,cond_true,if_pos h3]
    ·rw [cG h3,cond_false,if_neg h3]
 exact key (l.getD i dF)
theorem aPg (c:PN)(l:List P3)(v:Int):pP c l (v,(l.length:Int))=.inr v:=by
 have h0:decide ((l.length:Int) < (l.length:Int))=false:=by simp
 simp only [pP,h0,cond_false]
theorem aZa (c:PN)(x y z:P3):aA7 c [x,y,z] =
 mx (mx (mx (mx (mx (mx (mx (mx (mx 0 (rF c.1 x)) (rF c.2.1 x)) (rF c.2.2 x)) (rF c.1 y)) (rF c.2.1 y)) (rF c.2.2 y)) (rF c.1 z)) (rF c.2.1 z)) (rF c.2.2 z):=by
 unfold aA7
 have e0:=wH c [x,y,z] 0 0 (by simp)
 have e1:=wH c [x,y,z] (mx (mx (mx 0 (rF c.1 x)) (rF c.2.1 x)) (rF c.2.2 x)) 1 (by simp)
 have e2:=wH c [x,y,z] (mx (mx (mx (mx (mx (mx 0 (rF c.1 x)) (rF c.2.1 x)) (rF c.2.2 x)) (rF c.1 y)) (rF c.2.1 y)) (rF c.2.2 y)) 2 (by simp)
 have e3:=aPg c [x,y,z] (mx (mx (mx (mx (mx (mx (mx (mx (mx 0 (rF c.1 x)) (rF c.2.1 x)) (rF c.2.2 x)) (rF c.1 y)) (rF c.2.1 y)) (rF c.2.2 y)) (rF c.1 z)) (rF c.2.1 z)) (rF c.2.2 z))
 rw [show tN ((([x,y,z]:List P3).length:Int) - 0)+1=4 from rfl,show((0,0):Int×Int)=(0,((0:Nat):Int)) from rfl,aB e0]
 refine(aB e1).trans ?_
 refine(aB e2).trans ?_
 exact aG e3
theorem aPh (a b c d e f g h i:Int):mx (mx (mx (mx (mx (mx (mx (mx (mx 0 a) b) c) d) e) f) g) h) i=mx (mx (mx (mx (mx (mx (mx (mx (mx 0 a) d) g) b) e) h) c) f) i:=by
 have key:∀a b c:Int,mx (mx a b) c=mx (mx a c) b:=fun a b c=>by unfold mx;repeat' split<;>omega
 rw [key _ c d,key _ b d,key _ f g,key _ e g,key _ c g,key _ b g]
 rw [key _ c e,key _ f h,key _ c h]
def lo3 (a b c:Int):Int:=if c < (if b < (if a < a then a else a) then b else(if a < a then a else a)) then c else(if b < (if a < a then a else a) then b else(if a < a then a else a))
def hi3 (a b c:Int):Int:=if(if(if a < a then a else a) < b then b else(if a < a then a else a)) < c then c else(if(if a < a then a else a) < b then b else(if a < a then a else a))
theorem jX (a b c:Int):lo3 a b c<=a/\lo3 a b c<=b/\lo3 a b c<=c:=by
 unfold lo3;simp only [Int.lt_irrefl,if_false];split<;>split at *<;>omega
theorem jY (a b c:Int):a<=hi3 a b c/\b<=hi3 a b c/\c<=hi3 a b c:=by
 unfold hi3;simp only [Int.lt_irrefl,if_false];split<;>split at *<;>omega
theorem aEs (a b c:Int):lo3 a b c=a\/lo3 a b c=b\/lo3 a b c=c:=by
 unfold lo3;simp only [Int.lt_irrefl,if_false];split<;>split at *<;>omega
theorem aEt (a b c:Int):hi3 a b c=a\/hi3 a b c=b\/hi3 a b c=c:=by
 unfold hi3;simp only [Int.lt_irrefl,if_false];split<;>split at *<;>omega
def gp (a b c d:Int):Int:=mx (mx 0 (c - b)) (a - d)
theorem aBa (a b c d:Int):0<=gp a b c d:=Int.le_trans (dC 0 _) (dC _ _)
theorem aSp (a b c d:Int):gp c d a b=gp a b c d:=by unfold gp mx;repeat' split<;>omega
def nr (a b c d:P3):Int:=gp a.1 b.1 c.1 d.1*gp a.1 b.1 c.1 d.1+gp a.2.1 b.2.1 c.2.1 d.2.1*gp a.2.1 b.2.1 c.2.1 d.2.1+gp a.2.2 b.2.2 c.2.2 d.2.2*gp a.2.2 b.2.2 c.2.2 d.2.2
def oR (c:PN):P3:=(lo3 c.1.1 c.2.1.1 c.2.2.1,lo3 c.1.2.1 c.2.1.2.1 c.2.2.2.1,lo3 c.1.2.2 c.2.1.2.2 c.2.2.2.2)
def oS (c:PN):P3:=(hi3 c.1.1 c.2.1.1 c.2.2.1,hi3 c.1.2.1 c.2.1.2.1 c.2.2.2.1,hi3 c.1.2.2 c.2.1.2.2 c.2.2.2.2)
theorem aEu {m:Int} {c:PN} (h:bdP m c):bd m (oR c):=by
 have h1:=aEs c.1.1 c.2.1.1 c.2.2.1;have h2:=aEs c.1.2.1 c.2.1.2.1 c.2.2.2.1;have h3:=aEs c.1.2.2 c.2.1.2.2 c.2.2.2.2
 have ha:=h.1;have hb:=h.2.1;have hc:=h.2.2
 unfold bd at *;simp only [oR];omega
theorem aEv {m:Int} {c:PN} (h:bdP m c):bd m (oS c):=by
 have h1:=aEt c.1.1 c.2.1.1 c.2.2.1;have h2:=aEt c.1.2.1 c.2.1.2.1 c.2.2.2.1;have h3:=aEt c.1.2.2 c.2.1.2.2 c.2.2.2.2
 have ha:=h.1;have hb:=h.2.1;have hc:=h.2.2
 unfold bd at *;simp only [oS];omega
theorem aZb (c:PN):bA c=(oR c,oS c):=rfl
theorem aPi {a b c d:Int} (ha:-5000<=a/\a<=5000)(hb:-5000<=b/\b<=5000)(hc:-5000<=c/\c<=5000)(hd:-5000<=d/\d<=5000):kZ a b c d=gp a b c d:=by
 unfold kZ
 rw [aH (n:=c - b) (by omega) (by omega),aH (n:=a - d) (by omega) (by omega)];rfl
theorem aBb {a b c d:Int} (ha:-5000<=a/\a<=5000)(hb:-5000<=b/\b<=5000)(hc:-5000<=c/\c<=5000)(hd:-5000<=d/\d<=5000):0<=gp a b c d/\gp a b c d<=10000 :=
 ⟨aBa _ _ _ _,jR (jR (by omega) (by omega)) (by omega)⟩
theorem nrF {a b c d:P3} (ha:bd 5000 a)(hb:bd 5000 b)(hc:bd 5000 c)(hd:bd 5000 d) :
 iT (kZ a.1 b.1 c.1 d.1,kZ a.2.1 b.2.1 c.2.1 d.2.1,kZ a.2.2 b.2.2 c.2.2 d.2.2) (kZ a.1 b.1 c.1 d.1,kZ a.2.1 b.2.1 c.2.1 d.2.1,kZ a.2.2 b.2.2 c.2.2 d.2.2)=nr a b c d:=by
 rw [aPi ha.1 hb.1 hc.1 hd.1,aPi ha.2.1 hb.2.1 hc.2.1 hd.2.1,aPi ha.2.2 hb.2.2 hc.2.2 hd.2.2]
 have h1:=aBb ha.1 hb.1 hc.1 hd.1;have h2:=aBb ha.2.1 hb.2.1 hc.2.1 hd.2.1;have h3:=aBb ha.2.2 hb.2.2 hc.2.2 hd.2.2
 have hv:bd 1000000000 (gp a.1 b.1 c.1 d.1,gp a.2.1 b.2.1 c.2.1 d.2.1,gp a.2.2 b.2.2 c.2.2 d.2.2):=by unfold bd;simp only;omega
 rw [fdt hv hv];rfl
theorem aWg {c q:PN} (hc:bdP 5000 c)(hq:bdP 5000 q):bY c q=nr (oR c) (oS c) (oR q) (oS q):=by
 unfold bY
 rw [aZb,aZb]
 exact nrF (aEu hc) (aEv hc) (aEu hq) (aEv hq)
theorem qO (a b c:Int):dI [a,b,c]=(lo3 a b c,hi3 a b c):=rfl
theorem aPj {l m:List Int} {a b c d:Int} (hl:dI l=(a,b))(hm:dI m=(c,d))(ha:-5000<=a/\a<=5000)(hb:-5000<=b/\b<=5000)(hc:-5000<=c/\c<=5000)(hd:-5000<=d/\d<=5000) :
 jQ l m=gp a b c d*gp a b c d:=by
 unfold jQ
 rw [hl,hm]
 simp only
 rw [aH (n:=a - d) (by omega) (by omega),aH (n:=c - b) (by omega) (by omega)]
 have e:(if((if(0:Int) < a - d then a - d else 0):Int) < c - b then c - b else(if(0:Int) < a - d then a - d else 0))=gp a b c d:=aSp a b c d
 rw [e]
 have h1:=aBb ha hb hc hd
 have h2:=cK (a:=10000) (b:=10000) (x:=gp a b c d) (y:=gp a b c d) (by omega) (by omega)
 exact aH (by omega) (by omega)
theorem aWh {a b c:Int} (ha:0<=a/\a<=100000000)(hb:0<=b/\b<=100000000)(hc:0<=c/\c<=100000000):W ((W (a+b))+c)=a+b+c:=by
 rw [aH (n:=a+b) (by omega) (by omega),aH (by omega) (by omega)]
theorem aWi {c q:PN} (hc:bdP 5000 c)(hq:bdP 5000 q):wF c q=nr (oR c) (oS c) (oR q) (oS q):=by
 unfold wF
 have hl:=aEu hc;have hh:=aEv hc;have kl:=aEu hq;have kh:=aEv hq
 have g1:=aPj (l:=fQ c 0) (m:=fQ q 0) (qO c.1.1 c.2.1.1 c.2.2.1) (qO q.1.1 q.2.1.1 q.2.2.1) hl.1 hh.1 kl.1 kh.1
 have g2:=aPj (l:=fQ c 1) (m:=fQ q 1) (qO c.1.2.1 c.2.1.2.1 c.2.2.2.1) (qO q.1.2.1 q.2.1.2.1 q.2.2.2.1) hl.2.1 hh.2.1 kl.2.1 kh.2.1
 have g3:=aPj (l:=fQ c 2) (m:=fQ q 2) (qO c.1.2.2 c.2.1.2.2 c.2.2.2.2) (qO q.1.2.2 q.2.1.2.2 q.2.2.2.2) hl.2.2 hh.2.2 kl.2.2 kh.2.2
 have b1:=aBb hl.1 hh.1 kl.1 kh.1;have b2:=aBb hl.2.1 hh.2.1 kl.2.1 kh.2.1;have b3:=aBb hl.2.2 hh.2.2 kl.2.2 kh.2.2
 have m1:=cK (a:=10000) (b:=10000) (by omega) (by omega) (x:=gp (oR c).1 (oS c).1 (oR q).1 (oS q).1) (y:=gp (oR c).1 (oS c).1 (oR q).1 (oS q).1)
 have m2:=cK (a:=10000) (b:=10000) (by omega) (by omega) (x:=gp (oR c).2.1 (oS c).2.1 (oR q).2.1 (oS q).2.1) (y:=gp (oR c).2.1 (oS c).2.1 (oR q).2.1 (oS q).2.1)
 have m3:=cK (a:=10000) (b:=10000) (by omega) (by omega) (x:=gp (oR c).2.2 (oS c).2.2 (oR q).2.2 (oS q).2.2) (y:=gp (oR c).2.2 (oS c).2.2 (oR q).2.2 (oS q).2.2)
 rw [show jQ (fQ c 0) (fQ q 0)=_ from g1,show jQ (fQ c 1) (fQ q 1)=_ from g2,show jQ (fQ c 2) (fQ q 2)=_ from g3]
 exact aWh ⟨dM _,by have:=m1.2;exact this⟩ ⟨dM _,by have:=m2.2;exact this⟩ ⟨dM _,by have:=m3.2;exact this⟩
open Classical in
noncomputable def pk (p q:PN)(d:Int):Int:=if vp p=0 then(if vp q=0 then(if 0<=d/\d<=2 then 0 else 1) else vp q) else vp p
theorem aPk (v w:Int)(b:Prop) [Decidable b]:(bif (v != 0) then v else(bif (w != 0) then w else(bif (!(decide b)) then(1:Int) else 0)))=if v=0 then(if w=0 then(if b then 0 else 1) else w) else v:=by
 by_cases hv:v=0
 ·subst hv
  by_cases hw:w=0
  ·subst hw;by_cases hb:b<;>simp [hb]
  ·rw [bne_iff_ne.2 hw,cond_true,if_neg hw];simp
 ·rw [bne_iff_ne.2 hv,cond_true,if_neg hv]
theorem aEw (p q:PN)(d:Int):F69 p q d=pk p q d:=by
 unfold F69 pk
 rw [aI9,aI9,aDf,aPk]
theorem aNk (p q:PN)(d:Int):F90 p q d=pk p q d:=by
 unfold F90 pk
 rw [aWc,aWc,aI8,aPk]
theorem aPl {p q:PN} {d:Int} (h:pk p q d=0):vp p=0/\vp q=0/\0<=d/\d<=2:=by
 unfold pk at h
 split at h
 ·rename_i h0
  split at h
  ·rename_i h1
   split at h
   ·rename_i h2;exact⟨h0,h1,h2⟩
   ·cases h
  ·rename_i h1;exact absurd h h1
 ·rename_i h0;exact absurd h h0
theorem aLm {p q:PN} {d:Int} (h:((F69 p q d:Int) != 0)=false):vp p=0/\vp q=0/\0<=d/\d<=2 :=
 aPl (by rw [←aEw];simpa using h)
theorem aSq {p q:PN} {d:Int} (h:((F69 p q d:Int) != 0)=false):sR p=0:=by
 rw [aI9];exact(aLm h).1
theorem pair_le {p q:PN} {d:Int} (h:((F69 p q d:Int) != 0)=false):0<=d/\d<=3:=by have:=aLm h;omega
def oX (a0:Zt×Zt×Zt)(a1:Zt×Zt×Zt)(a2:Int):(Int×Int)×Int :=
 (bif (((F69 a0 a1 a2):Int) != 0) then
  ((0,0),(F69 a0 a1 a2))
 else
  ((F70 a0 ((rG a1.1 (W (1*2 ^ (min (tN a2) 64)))),(rG a1.2.1 (W (1*2 ^ (min (tN a2) 64)))),(rG a1.2.2 (W (1*2 ^ (min (tN a2) 64))))) a2),0))
theorem C40 (a0:Zt×Zt×Zt)(a1:Zt×Zt×Zt)(a2:Int):Con Tryz.prog 40 [(.a (k9 a0)),(.a (k9 a1)),(iv a2)] [] (.t [(.a (k2 (oX a0 a1 a2).1)),(iv (oX a0 a1 a2).2)]) []:=by
 refine aT Tryz.func40 (by kernel_rfl) fun cx hcx=>?_
 let t0:List (St Tryz.prog):=[.c [] (C69 a0 a1 a2)]
 cases h0:(((F69 a0 a1 a2):Int) != 0) with
 | true =>
  have q0:=bne_iff_ne.1 h0
  have e:=Eq.refl (oX a0 a1 a2);conv at e=>rhs;simp only [oX,h0,aX]
  rw [e]
  exact rt (t0++[.d h0]) [] [] hcx (by kernel_rfl)
 | false =>
  have q0:=bne_eq_false_iff_eq.1 h0
  have e:=Eq.refl (oX a0 a1 a2);conv at e=>rhs;simp only [oX,h0,aX]
  rw [e]
  exact rt (t0++[.d h0,.p (show 0<=(a2:Int) from by exact(pair_le h0).1),.c [] (C71 a1.1 (W (1*2 ^ (min (tN a2) 64)))),.c [] (C71 a1.2.1 (W (1*2 ^ (min (tN a2) 64)))),.c [] (C71 a1.2.2 (W (1*2 ^ (min (tN a2) 64)))),.c [] (C70 a0 ((rG a1.1 (W (1*2 ^ (min (tN a2) 64)))),(rG a1.2.1 (W (1*2 ^ (min (tN a2) 64)))),(rG a1.2.2 (W (1*2 ^ (min (tN a2) 64))))) a2  (aSq h0) (pair_le h0))]) [] [] hcx (by kernel_rfl)
def F53 (a0:Zt×Zt×Zt)(a1:Zt×Zt×Zt)(a2:Int):(Int×Int)×Int :=
 (bif (((F90 a0 a1 a2):Int) != 0) then
  ((0,0),(F90 a0 a1 a2))
 else
  ((F91 a0 a2 ((kB a1.1 (W (1*2 ^ (min (tN (IntKind.wrap .u64 a2)) 64)))),(kB a1.2.1 (W (1*2 ^ (min (tN (IntKind.wrap .u64 a2)) 64)))),(kB a1.2.2 (W (1*2 ^ (min (tN (IntKind.wrap .u64 a2)) 64)))))),0))
end Go.Proofs.YtlckcjfbjnjfhaaGreat
namespace Go.Proofs.YtlckcjfbjnjfhaaGreat
open Go.Proofs Go.Aw Go.RowKit
set_option maxRecDepth 100000
theorem uC:∀(d:Nat) (p:PN),(bH d p).length=4 ^ d
 | 0,p=>rfl
 | d+1,p=>by
  rw [eF]
  have:∀l:List PN,(l.flatMap mD).length=4*l.length:=fun l=>by
   induction l with
   | nil=>rfl
   | cons x l ih=>rw [List.flatMap_cons,List.length_append,ih];show 4+_=_;simp only [List.length_cons];omega
  rw [this,uC d p,Nat.pow_succ];omega
open Go.ChangeShapes Go.WideShapes Go.ChangeAt
def aG9 (P:Program)(ok:TypeId->Bool)(n:Nat):List Field->Nat->Bool
 | [],o=>o == n
 | f::l,o=>f.offset == o&&ok f.type&&aG9 P ok n l (o+P.cellsOf f.type)
def rP (P:Program):Nat->TypeId->Bool
 | 0,_=>false
 | k+1,t=>match P.underlying t with
  | some (.int .i64)=>true
  | some (.struct fs)=>aG9 P (rP P k) (P.cellsOf t) fs.toList 0
  | some (.array n e)=>rP P k e&&P.cellsOf t == n*P.cellsOf e
  | _=>false
section
variable {H : Type} {enc : TypeId × Value → H} {P : Program} {w : World} {base : Nat} {spare : Nat → Bool} {held : Bool}
theorem aDh {ok:TypeId->Bool} {n fuel:Nat} {cs:List Value}
 (hok:∀t cs x,ok t=true->DataW.trod enc P w base spare held fuel t cs=some x->x.2=[]/\∃ns:List Int,cs=ns.map (Value.int .i64)) (hn:cs.length=n) :
 ∀(l:List Field) (o:Nat) (ys:List (DataW H×List MemPlace)),aG9 P ok n l o=true->ys.length=l.length ->
   (∀(j:Nat) (f:Field),l[j]? = some f->DataW.trod enc P w base spare held fuel f.type ((cs.drop f.offset).take (P.cellsOf f.type))=ys[j]?) ->
   (∀y∈ys,y.2=[])/\∃ns:List Int,cs.drop o=ns.map (Value.int .i64)
 | [],o,ys,hc,hl,_=>by
  have:ys=[]:=List.length_eq_zero_iff.1 hl
  subst this
  simp only [aG9,beq_iff_eq] at hc
  exact⟨fun y hy=>by simp at hy,[],by rw [hc,←hn,List.drop_length];rfl⟩
 | f::l,o,ys,hc,hl,hf=>by
  cases ys with
  | nil=>simp at hl
  | cons y ys =>
   simp only [aG9,Bool.and_eq_true,beq_iff_eq] at hc
   obtain⟨⟨h1,h2⟩,h3⟩:=hc
   have g0:=hf 0 f rfl
   rw [h1] at g0
   obtain⟨e1,n1,e2⟩:=hok f.type _ y h2 g0
   obtain⟨e3,n2,e4⟩:=aDh hok hn l _ ys h3 (by simpa using hl) (fun j g hg=>hf (j+1) g hg)
   refine⟨fun z hz=>?_,n1++n2,?_⟩
   ·rcases List.mem_cons.1 hz with rfl | hz
    ·exact e1
    ·exact e3 z hz
   ·rw [List.map_append,←e2,←e4,←List.drop_drop,List.take_append_drop]
theorem nB:∀(k:Nat) (t:TypeId) (fuel:Nat) (cs:List Value) (x:DataW H×List MemPlace),rP P k t=true->DataW.trod enc P w base spare held fuel t cs=some x ->
 x.2=[]/\∃ns:List Int,cs=ns.map (Value.int .i64)
 | 0,_,_,_,_,h,_=>by simp [rP] at h
 | k+1,t,fuel,cs,x,h,hx=>by
  unfold rP at h
  split at h
  ·rename_i ht
   obtain⟨n,rfl,rfl,_⟩:=DataW.trod_int ht hx
   exact⟨rfl,[n],rfl⟩
  ·rename_i fs ht
   obtain⟨xs,m,rfl,rfl,hl,hlen,hf⟩:=DataW.trod_struct ht hx
   obtain⟨e1,ns,e2⟩:=aDh (fun t cs x h hx=>nB k t m cs x h hx) hl fs.toList 0 xs h (by simpa using hlen) (fun j f hj=>hf j f (by simpa using hj))
   refine⟨?_,ns,by simpa using e2⟩
   simp only
   induction xs with
   | nil=>rfl
   | cons y l _=>rw [List.flatMap_eq_nil_iff];exact e1
  ·rename_i n e ht
   simp only [Bool.and_eq_true,beq_iff_eq] at h
   obtain⟨xs,m,rfl,rfl,hl,hlen,hf⟩:=DataW.trod_array ht hx
   have hi:∀i,i < n->∃y,xs[i]? = some y/\y.2=[]/\∃ns:List Int,(cs.drop (i*P.cellsOf e)).take (P.cellsOf e)=ns.map (Value.int .i64):=fun i hi=>by
    have h1:=hf i hi
    have hil:i < xs.length:=by rw [hlen];exact hi
    rw [List.getElem?_eq_getElem hil] at h1
    obtain⟨e1,e2⟩:=nB k e m _ _ h.1 h1
    exact⟨_,List.getElem?_eq_getElem hil,e1,e2⟩
   refine⟨?_,?_⟩
   ·simp only
    rw [List.flatMap_eq_nil_iff]
    intro y hy
    obtain⟨i,hy⟩:=List.getElem?_of_mem hy
    have hil:=(List.getElem?_eq_some_iff.1 hy).1
    obtain⟨y',h1,h2,_⟩:=hi i (by rw [←hlen];exact hil)
    rw [h1] at hy
    exact Option.some.inj hy▸h2
   ·have key:∀j,j<=n->∃ns:List Int,cs.drop ((n - j)*P.cellsOf e)=ns.map (Value.int .i64):=by
     intro j
     induction j with
     | zero=>intro _;exact⟨[],by rw [Nat.sub_zero,←h.2,←hl,List.drop_length];rfl⟩
     | succ j ih =>
      intro hj
      obtain⟨n2,h2⟩:=ih (by omega)
      obtain⟨_,_,_,n1,h1⟩:=hi (n - (j+1)) (by omega)
      refine⟨n1++n2,?_⟩
      rw [List.map_append,←h1,←h2,show(n - j)*P.cellsOf e=(n - (j+1))*P.cellsOf e+P.cellsOf e by rw [show n - j=(n - (j+1))+1 by omega,Nat.add_mul,Nat.one_mul],←List.drop_drop,List.take_append_drop]
    obtain⟨ns,hns⟩:=key n (Nat.le_refl _)
    exact⟨ns,by simpa using hns⟩
  ·cases h
theorem aNl {r:Reach} {b0:Nat} {t:TypeId} {fs:Array Field} {v:Value} {d:DataW H} {ps:List MemPlace} (ht:P.underlying t=some (.struct fs))(hf:rP P 6 t=true)
 (hval:Value.okWide P w r b0 t v) (hd:DataW.Trod enc P w base spare held t v d ps) :
 ps=[]/\∃ns:List Int,v=.agg (ns.map (Value.int .i64)).toArray/\ns.length=P.cellsOf t:=by
 obtain⟨cs,rfl,hs⟩:=okWide_struct ht hval
 obtain⟨fuel,hx⟩:=hd
 obtain⟨e1,ns,e2⟩:=nB 6 t fuel _ _ hf hx
 have e3:cs=(ns.map (Value.int .i64)).toArray:=by
  have:cs.toList=ns.map (Value.int .i64):=by simpa [Value.cells] using e2
  rw [←this]
 refine⟨e1,ns,by rw [e3],?_⟩
 rw [←hs,e3];simp
end
theorem aEx {ρ:Env}:∀ns:List Int,Rels ρ (ns.map iv) (ns.map (Value.int .i64))
 | []=>trivial
 | n::l=>⟨rfl,aEx l⟩
theorem aSr {ρ:Env} (ns:List Int):Rel ρ (.a (ns.map iv)) (.agg (ns.map (Value.int .i64)).toArray):=⟨_,rfl,aEx ns⟩
theorem aJe {H:Type} {enc:TypeId×Value->H} {P:Program} {f:Func} {s:ChangeSpec} {apart fresh handsOn:Bool} {W W':World} {args:Array Value} {v:Value} {ds gs:List (DataW H)} {before:List MemPlace}
 (hW:DataW.Whole enc P f.params.toList s.vars apart W args.toList ds gs before) (hb:Below W.heap.size W W')
 (hres:∀(b:Nat) (sp:Nat->Bool) (hd:Bool),DataW.TrodAll enc P W' b sp hd f.resultTypes.toList (v.resultList f.resultTypes.size) (s.fn H (ds++gs)).results [])
 (hargs:DataW.TrodAll enc P W' 0 (fun b=>decide (b < W.heap.size)) true f.params.toList args.toList (s.fn H (ds++gs)).args before)
 (hvars:DataW.TrodVars enc P W' (fun b=>decide (b < W.heap.size)) s.vars (s.fn H (ds++gs)).vars []) :
 s.post enc P f apart fresh handsOn false W args v W' :=
 ⟨ds,gs,before,[],before,[],hW,hres _ _ _,hargs,hvars,hb.frame _,fun h=>by cases h⟩
theorem aEy {H:Type} {enc:TypeId×Value->H} {P:Program} {w:World} {base:Nat} {spare:Nat->Bool} {held:Bool} {t:TypeId} {ts:List TypeId} {v:Value} {vs:List Value} {d:DataW H} {ds:List (DataW H)} {p p':List MemPlace}
 (h:DataW.Trod enc P w base spare held t v d p) (h':DataW.TrodAll enc P w base spare held ts vs ds p'):DataW.TrodAll enc P w base spare held (t::ts) (v::vs) (d::ds) (p++p'):=⟨p,p',h,h',rfl⟩
theorem own:ownKnob Tryz.prog.godebug=none:=by kernel_rfl
theorem aEz:laidOutB Tryz.prog=true:=by kernel_rfl
end Go.Proofs.YtlckcjfbjnjfhaaGreat
namespace Go.Proofs.YtlckcjfbjnjfhaaGreat
open Go.Proofs Go.Aw Go.RowKit
set_option maxRecDepth 100000
def sc (d:Int):Int:=if d=0 then 1 else if d=1 then 2 else if d=2 then 4 else 8
theorem d4 {d:Int} (h:0<=d/\d<=3):d=0\/d=1\/d=2\/d=3:=by omega
theorem aWj {d:Int} (h:0<=d/\d<=3):W (1*2 ^ (min (tN d) 64))=sc d:=by
 rcases d4 h with rfl | rfl | rfl | rfl<;>kernel_rfl
theorem aZc {d:Int} (h:0<=d/\d<=3):W (1*2 ^ (min (tN (IntKind.wrap .u64 d)) 64))=sc d:=by
 rcases d4 h with rfl | rfl | rfl | rfl<;>kernel_rfl
theorem aZd {d:Int} (h:0<=d/\d<=3):W (1*2 ^ (min (tN (W (2*d))) 64))=sc d*sc d:=by
 rcases d4 h with rfl | rfl | rfl | rfl<;>kernel_rfl
theorem aE0 {d:Int} (h:0<=d/\d<=3)(p:PN):(((bH d.toNat p).length:Nat):Int)=sc d*sc d:=by
 rw [uC];rcases d4 h with rfl | rfl | rfl | rfl<;>kernel_rfl
theorem yB (d:Int):sc d=1\/sc d=2\/sc d=4\/sc d=8:=by unfold sc;(repeat' split)<;>simp
theorem aUj (d:Int):1<=sc d/\sc d<=8:=by have:=yB d;omega
def tm (s:Int)(p:P3):P3:=(s*p.1,s*p.2.1,s*p.2.2)
theorem aLn {s m:Int} {p:P3} (hs:1<=s/\s<=8)(hm:0<=m)(hp:bd m p):bd (8*m) (tm s p):=by
 have h1:=cK (a:=8) (b:=m) (x:=s) (y:=p.1) (by omega) hp.1
 have h2:=cK (a:=8) (b:=m) (x:=s) (y:=p.2.1) (by omega) hp.2.1
 have h3:=cK (a:=8) (b:=m) (x:=s) (y:=p.2.2) (by omega) hp.2.2
 exact⟨h1,h2,h3⟩
theorem aZe {s:Int} {p:P3} (hs:1<=s/\s<=8)(hp:bd 4096 p):((W (s*p.1)),(W (s*p.2.1)),(W (s*p.2.2)))=tm s p:=by
 have h:=aLn hs (by omega) hp
 have h1:=h.1;have h2:=h.2.1;have h3:=h.2.2
 simp only [tm] at h1 h2 h3
 unfold tm
 rw [aH (n:=s*p.1) (by omega) (by omega),aH (n:=s*p.2.1) (by omega) (by omega),aH (n:=s*p.2.2) (by omega) (by omega)]
theorem aNm {s:Int} {p:P3} (hs:1<=s/\s<=8)(hp:bd 4096 p):rG p s=tm s p:=aZe hs hp
theorem aWk {s:Int} {p:P3} (hs:1<=s/\s<=8)(hp:bd 4096 p):kB p s=tm s p:=aZe hs hp
theorem aLo {a b:Int} (h1:-1099511627776<=a)(h2:a<=b)(h3:b<=1099511627776):iV a b=((a,b),0):=by
 unfold iV vI
 rw [bQ (show(a,b).1≥-1099511627776 from h1),bQ (show(a,b).1<=(a,b).2 from h2),bQ (show(a,b).2<=1099511627776 from h3)];rfl
theorem aUk {a b:Int} (h1:-1099511627776<=a)(h2:a<=b)(h3:b<=1099511627776):aG8 a b=((a,b),0):=by
 unfold aG8 F94
 rw [bQ (show(a,b).1≥-1099511627776 from h1),bQ (show(a,b).1<=(a,b).2 from h2),bQ (show(a,b).2<=1099511627776 from h3)];rfl
theorem aZf {n:Int} (h0:0<=n)(h:n < 4611686018427387904):oQ n=gN n:=(aUg h0 h).eq (aEq h0 h)
noncomputable def inv (N n:Int):Int×Int :=
 (gN (N / n),if gN (N / n)*gN (N / n)*n=N then gN (N / n) else gN (N / n)+1)
theorem nU {N n:Int} (hN:0<=N)(hn:1<=n):0<=N / n/\N / n<=N/\(N / n)*n<=N:=by
 have h1:0<=N / n:=Int.ediv_nonneg hN (by omega)
 have h2:(N / n)*n<=N:=Int.ediv_mul_le N (by omega)
 have h3:(N / n)*1<=(N / n)*n:=Int.mul_le_mul_of_nonneg_left hn h1
 omega
theorem iC {N n:Int} (hN:0<=N/\N<=288230376151711744)(hn:1<=n) :
 ∃k,gN (N / n)=k/\IsRt (N / n) k/\0<=k/\k<=536870912/\0<=k*k/\k*k<=N / n/\0<=k*k*n/\k*k*n<=N:=by
 obtain⟨h1,h2,h3⟩:=nU hN.1 hn
 have h:=aEq (n:=N / n) h1 (by omega)
 have h4:=h.le (m:=536870912) (by omega) (by omega)
 have h5:0<=gN (N / n)*gN (N / n):=Int.mul_nonneg h.1 h.1
 exact⟨_,rfl,h,h.1,h4,h5,h.2.1,Int.mul_nonneg h5 (by omega),Int.le_trans (Int.mul_le_mul_of_nonneg_right h.2.1 (by omega)) h3⟩
theorem aZg {N n:Int} (hN:0<=N/\N<=288230376151711744)(hn:1<=n):aCr N n=(inv N n,0):=by
 obtain⟨k,hk,_,k0,k1,k2,k3,k4,k5⟩:=iC hN hn
 obtain⟨h1,h2,h3⟩:=nU hN.1 hn
 unfold aCr inv
 rw [Int.tdiv_eq_ediv_of_nonneg hN.1,aH (n:=N / n) (by omega) (by omega),hk,aH (n:=k*k) (by omega) (by omega),aH (n:=k*k*n) (by omega) (by omega),aH (n:=k+1) (by omega) (by omega),
  aLo (by omega) (Int.le_refl k) (by omega),aLo (by omega) (by omega) (by omega)]
 by_cases h:k*k*n=N
 ·rw [if_pos h,beq_iff_eq.2 h];rfl
 ·rw [if_neg h,beq_eq_false_iff_ne.2 h];rfl
theorem aZh {N n:Int} (hN:0<=N/\N<=288230376151711744)(hn:1<=n):aSm N n=(inv N n,0):=by
 obtain⟨k,hk,_,k0,k1,k2,k3,k4,k5⟩:=iC hN hn
 obtain⟨h1,h2,h3⟩:=nU hN.1 hn
 unfold aSm inv
 rw [Int.tdiv_eq_ediv_of_nonneg hN.1,aH (n:=N / n) (by omega) (by omega),aZf h1 (by omega),hk,aH (n:=k*k) (by omega) (by omega),aH (n:=k+1) (by omega) (by omega),
  aUk (by omega) (Int.le_refl k) (by omega),aUk (by omega) (by omega) (by omega),Int.tmod_eq_emod_of_nonneg hN.1]
 have hdm:n*(N / n)+N % n=N:=Int.mul_ediv_add_emod N n
 by_cases h0:N % n=0
 ·rw [beq_iff_eq.2 h0,cond_true]
  by_cases h:k*k=N / n
  ·rw [beq_iff_eq.2 h,cond_true,if_pos (by rw [h,Int.mul_comm];omega)]
  ·rw [beq_eq_false_iff_ne.2 h,cond_false,if_neg]
   intro h'
   rw [h0,Int.add_zero,Int.mul_comm] at hdm
   exact h (Int.eq_of_mul_eq_mul_right (by omega) (h'.trans hdm.symm))
 ·rw [beq_eq_false_iff_ne.2 h0,cond_false,if_neg]
  intro h'
  rw [←h'] at h0
  exact h0 (Int.mul_emod_left _ _)
theorem aWl {N n:Int} (hN:0<=N/\N<=288230376151711744)(hn:1<=n):0<=(inv N n).1/\(inv N n).1<=(inv N n).2/\(inv N n).2<=536870913:=by
 obtain⟨k,hk,_,k0,k1,_⟩:=iC hN hn
 unfold inv
 rw [hk]
 simp only
 split<;>omega
theorem aPm {N n m:Int} (hN:0<=N/\N<=288230376151711744)(hn:1<=n)(hm:n<=m):(inv N m).1<=(inv N n).1:=by
 obtain⟨h1,h2,h3⟩:=nU hN.1 hn
 obtain⟨g1,g2,g3⟩:=nU (n:=m) hN.1 (by omega)
 have h:N / m<=N / n:=by
  refine Int.le_ediv_of_mul_le (by omega) (Int.le_trans (Int.mul_le_mul_of_nonneg_left hm g1) g3)
 exact(aEq g1 (by omega)).mono (aEq h1 (by omega)) h
def NN (s:Int):Int:=s*s*1099511627776
theorem aBc {s:Int} (h:s=1\/s=2\/s=4\/s=8):0<=NN s/\NN s<=288230376151711744:=by rcases h with rfl | rfl | rfl | rfl<;>decide
noncomputable def oT (s n:Int):Int×Int:=if n < 1 then(0,0) else inv (NN s) n
theorem bBx {s:Int} (h:s=1\/s=2\/s=4\/s=8):decide (s < 1)=false/\decide (s > 8)=false:=by
 rcases h with rfl | rfl | rfl | rfl<;>decide
theorem lt8 {s:Int} (h:s=1\/s=2\/s=4\/s=8):decide (s < 1)=false/\decide (s > 8)=false/\aO5 s 1 8=true:=by
 rcases h with rfl | rfl | rfl | rfl<;>decide
theorem aUl {s n:Int} (hs:s=1\/s=2\/s=4\/s=8)(hn:n<=1000000000):(fL n s).1=oT s n:=by
 obtain⟨e1,e2⟩:=bBx hs
 unfold fL oT
 by_cases h:n < 1
 ·rw [bQ h,cond_true,if_pos h]
 ·have e:W ((W (s*s))*2 ^ (min (tN 40) 64))=NN s:=by rcases hs with rfl | rfl | rfl | rfl<;>kernel_rfl
  rw [cG h,cond_false,cG (show ¬n > 1099511627776 by omega),cond_false,e1,cond_false,e2,cond_false,if_neg h,e,aZg (aBc hs) (by omega)]
theorem aUm {s n:Int} (hs:s=1\/s=2\/s=4\/s=8)(hn:n<=1000000000):(aNh n s).1=oT s n:=by
 obtain⟨_,_,e3⟩:=lt8 hs
 unfold aNh oT
 by_cases h:n < 1
 ·rw [aA8,cG (show ¬(1<=n/\n<=1099511627776) by omega),if_pos h];rfl
 ·have e:W ((W ((W (1048576*s))*1048576))*s)=NN s:=by rcases hs with rfl | rfl | rfl | rfl<;>kernel_rfl
  rw [e3,aA8,bQ (show(1<=n/\n<=1099511627776) by omega),if_neg h,e,aZh (aBc hs) (by omega)];rfl
structure OfOk (of:Int->Int×Int):Prop where
 lo:∀n,0<=(of n).1
 le:∀n,(of n).1<=(of n).2
 hi:∀n,(of n).2<=536870913
 mono:∀n m,1<=n->n<=m->(of m).1<=(of n).1
theorem aJf {s:Int} (hs:s=1\/s=2\/s=4\/s=8):OfOk (oT s):=by
 have hb:∀n,0<=(oT s n).1/\(oT s n).1<=(oT s n).2/\(oT s n).2<=536870913:=by
  intro n
  unfold oT
  split
  ·simp
  ·exact aWl (aBc hs) (by omega)
 refine⟨fun n=>(hb n).1,fun n=>(hb n).2.1,fun n=>(hb n).2.2,fun n m h1 h2=>?_⟩
 unfold oT
 rw [if_neg (by omega),if_neg (by omega)]
 exact aPm (aBc hs) h1 h2
def fa (c:PN)(x:P3):Int:=mx (mx (mx 0 (ds c.1 x)) (ds c.2.1 x)) (ds c.2.2 x)
def ne (c:PN)(x:P3):Int:=nr (oR c) (oS c) x x
theorem uE {p q:P3} (hp:bd 5000 p)(hq:bd 5000 q):0<=ds p q/\ds p q<=300000000:=by
 have h:=kC hp hq
 have:=aO9 h h
 exact⟨lU _,by unfold ds;omega⟩
theorem aUn {a b:Int} (ha:0<=a)(h:a<=b\/a<=-b):a*a<=b*b:=by
 rcases h with h | h
 ·exact Int.mul_le_mul h h ha (by omega)
 ·have:=Int.mul_le_mul h h ha (by omega)
  rwa [Int.neg_mul_neg] at this
theorem aPn {a b c x:Int} (h1:a<=c)(h2:c<=b):gp a b x x*gp a b x x<=(c - x)*(c - x):=by
 refine aUn (aBa _ _ _ _) ?_
 unfold gp mx
 (repeat' split)<;>omega
theorem aUo (a b c d:P3):0<=nr a b c d:=by
 have h1:=dM (gp a.1 b.1 c.1 d.1);have h2:=dM (gp a.2.1 b.2.1 c.2.1 d.2.1);have h3:=dM (gp a.2.2 b.2.2 c.2.2 d.2.2)
 unfold nr;omega
theorem aZi (c:PN)(x:P3):0<=ne c x/\ne c x<=fa c x:=by
 refine⟨aUo _ _ _ _,Int.le_trans ?_ (Int.le_trans (mE _ _) (Int.le_trans (dC _ (ds c.2.1 x)) (dC _ (ds c.2.2 x))))⟩
 have h1:=aPn (x:=x.1) (jX c.1.1 c.2.1.1 c.2.2.1).1 (jY c.1.1 c.2.1.1 c.2.2.1).1
 have h2:=aPn (x:=x.2.1) (jX c.1.2.1 c.2.1.2.1 c.2.2.2.1).1 (jY c.1.2.1 c.2.1.2.1 c.2.2.2.1).1
 have h3:=aPn (x:=x.2.2) (jX c.1.2.2 c.2.1.2.2 c.2.2.2.2).1 (jY c.1.2.2 c.2.1.2.2 c.2.2.2.2).1
 unfold ne nr ds dt sb
 simp only [oR,oS]
 omega
noncomputable def acc (of:Int->Int×Int)(x:P3):List PN->Int×Int->(Int×Int)⊕((Int×Int)×Int)
 | [],v=>.inl v
 | c::l,v=>if ne c x=0 then .inr ((0,0),10) else acc of x l (v.1+(of (fa c x)).1,v.2+(of (ne c x)).2)
def okv (v:Int×Int)(n:Nat):Prop:=0<=v.1/\v.1<=v.2/\v.2+536870913*n<=34359738432
theorem aZj {a n:Int} (hn:n=1\/n=4\/n=16\/n=64)(ha:-1099511627776<=a/\a<=1099511627776):wB a n=a / n:=by
 unfold wB
 have h0:∀b:Int,decide (n < 0)=false:=fun _=>cG (by omega)
 rw [h0 0]
 have key:(bif ((Int.tmod a n:Int) != 0) then(bif (!(decide (a < 0) == false)) then W (W (Int.tdiv a n) - 1) else W (Int.tdiv a n)) else W (Int.tdiv a n))=if Int.tmod a n≠0/\a < 0 then W (W (Int.tdiv a n) - 1) else W (Int.tdiv a n):=by
  by_cases h1:Int.tmod a n=0
  ·rw [h1];simp
  ·by_cases h2:a < 0
   ·rw [bne_iff_ne.2 h1,bQ h2,if_pos ⟨h1,h2⟩];rfl
   ·rw [bne_iff_ne.2 h1,cG h2,if_neg (fun h=>h2 h.2)];rfl
 rw [key]
 rcases Int.lt_or_le a 0 with h | h
 ·obtain⟨b,rfl⟩:∃b:Int,a=-b:=⟨-a,by omega⟩
  have hb:0<=b:=by omega
  rw [Int.neg_tdiv,Int.neg_tmod,Int.tdiv_eq_ediv_of_nonneg hb,Int.tmod_eq_emod_of_nonneg hb]
  rcases hn with rfl | rfl | rfl | rfl <;>
  ·rw [aH (n:=-(b / _)) (by omega) (by omega)]
   split
   ·rw [aH (by omega) (by omega)];omega
   ·omega
 ·rw [if_neg (by omega),Int.tdiv_eq_ediv_of_nonneg h]
  rcases hn with rfl | rfl | rfl | rfl<;>exact aH (by omega) (by omega)
theorem aZk {a n:Int} (hn:n=1\/n=4\/n=16\/n=64)(ha:-1099511627776<=a/\a<=1099511627776):aJb a n=a / n:=by
 unfold aJb
 rcases Int.lt_or_le a 0 with h | h
 ·obtain⟨b,rfl⟩:∃b:Int,a=-b:=⟨-a,by omega⟩
  have hb:0<=b:=by omega
  rw [Int.neg_tdiv,Int.neg_tmod,Int.tdiv_eq_ediv_of_nonneg hb,Int.tmod_eq_emod_of_nonneg hb]
  by_cases h1:-(b % n) < (0:Int)
  ·rw [bQ h1,cond_true]
   rcases hn with rfl | rfl | rfl | rfl <;>
   ·rw [aH (n:=-(b / _)) (by omega) (by omega),aH (by omega) (by omega)];omega
  ·rw [cG h1,cond_false]
   rcases hn with rfl | rfl | rfl | rfl <;>
   ·rw [aH (n:=-(b / _)) (by omega) (by omega)];omega
 ·rw [Int.tdiv_eq_ediv_of_nonneg h,Int.tmod_eq_emod_of_nonneg h]
  have:¬a % n < 0:=by have:=Int.emod_nonneg a (show n≠0 by omega);omega
  rw [cG this,cond_false]
  rcases hn with rfl | rfl | rfl | rfl<;>exact aH (by omega) (by omega)
theorem bBy {a n:Int} (hn:n=1\/n=4\/n=16\/n=64)(ha:-1099511627776<=a/\a<=1099511627776):aG7 a n=-(-a / n):=by
 unfold aG7
 rw [aH (n:=0 - a) (by omega) (by omega),aZj hn (by omega),Int.zero_sub]
 rcases hn with rfl | rfl | rfl | rfl<;>exact(aH (by omega) (by omega)).trans (by omega)
theorem bBz {a n:Int} (hn:n=1\/n=4\/n=16\/n=64)(ha:-1099511627776<=a/\a<=1099511627776):aJc a n=-(-a / n):=by
 unfold aJc
 rw [aH (n:=0 - a) (by omega) (by omega),aZk hn (by omega),Int.zero_sub]
 rcases hn with rfl | rfl | rfl | rfl<;>exact(aH (by omega) (by omega)).trans (by omega)
def avg (v:Int×Int)(n:Int):Int×Int:=(v.1 / n,-(-v.2 / n))
theorem aHa {a b:Int} (h1:-1099511627776<=a)(h2:a<=b)(h3:b<=1099511627776):vI (a,b)=true:=by
 unfold vI
 rw [bQ (show(a,b).1≥-1099511627776 from h1),bQ (show(a,b).1<=(a,b).2 from h2),bQ (show(a,b).2<=1099511627776 from h3)];rfl
theorem aZl {v:Int×Int} {n:Int} (hn:n=1\/n=4\/n=16\/n=64)(h:okv v 0):aCs v.1 v.2 n=avg v n:=by
 unfold okv at h
 unfold aCs yS kA
 rw [aHa (by omega) (by omega) (by omega)]
 simp only [Bool.not_true,cond_false,bne_self_eq_false]
 rw [cG (show ¬n < 1 by omega),cG (show ¬n > 1099511627776 by omega),cond_false,cond_false,aZj hn (by omega),bBy hn (by omega)]
 have:v.1 / n<=-(-v.2 / n)/\-1099511627776<=v.1 / n/\-(-v.2 / n)<=1099511627776:=by
  rcases hn with rfl | rfl | rfl | rfl<;>omega
 rw [aLo this.2.1 this.1 this.2.2];rfl
theorem pQ (d:Int):sc d*sc d=1\/sc d*sc d=4\/sc d*sc d=16\/sc d*sc d=64:=by
 rcases yB d with h | h | h | h<;>rw [h]<;>decide
theorem zE {p c:PN} {d:Int} (hp:bdP 64 p)(hd:0<=d/\d<=3)(hc:c∈bH d.toNat p):bdP 512 c:=by
 have key:∀k:Nat,k<=3->c∈bH k p->bdP 512 c:=by
  intro k hk hc
  have:k=0\/k=1\/k=2\/k=3:=by omega
  rcases this with rfl | rfl | rfl | rfl<;>exact(qN (m:=64) _ hp (by decide) (by decide) hc).mono (by decide)
 exact key _ (by omega) hc
theorem aPo {p:PN} {d:Int} (hd:0<=d/\d<=3):okv (0,0) (bH d.toNat p).length:=by
 have h:=aE0 hd p
 have h1:=pQ d
 unfold okv;simp only;omega
section
variable {p : PN} {x : P3} {d : Int}
end
end Go.Proofs.YtlckcjfbjnjfhaaGreat
namespace Go.Proofs.YtlckcjfbjnjfhaaGreat
open Go.Proofs Go.Aw Go.RowKit
set_option maxRecDepth 100000
def IsUp (T r:Int):Prop:=0<=r/\T<=r*r/\(r=0\/(r - 1)*(r - 1) < T)
theorem IsUp.le {T r m:Int} (h:IsUp T r)(hm:0<=m)(h':T<=m*m):r<=m:=by
 rcases Int.lt_or_le m r with hlt | hle
 ·rcases h.2.2 with h0 | h0
  ·omega
  ·have:=Int.mul_le_mul (show m<=r - 1 by omega) (show m<=r - 1 by omega) hm (by omega)
   omega
 ·exact hle
theorem IsUp.eq {T a b:Int} (h:IsUp T a)(h':IsUp T b):a=b:=Int.le_antisymm (h.le h'.1 h'.2.1) (h'.le h.1 h.2.1)
theorem aJg {T:Int} {S:Int×Int->(Int×Int)⊕Int} (hS:∀a b,0<=a->a < b->b<=268435456->S (a,b)=if T<=((a+b) / 2)*((a+b) / 2) then .inl (a,(a+b) / 2) else .inl ((a+b) / 2+1,b))(h0:∀a,S (a,a)=.inr a) :
 ∀(f:Nat) (a b:Int),0<=a->a<=b->b<=268435456->b - a < f->T<=b*b->(a=0\/(a - 1)*(a - 1) < T)->IsUp T (aA S f (a,b)):=by
 intro f
 induction f with
 | zero=>intro a b _ h _ hf;omega
 | succ f ih =>
  intro a b ha hab hb hf h1 h2
  by_cases he:a=b
  ·subst he
   rw [aG (h0 a)];exact⟨ha,h1,h2⟩
  ·have hs:=hS a b ha (by omega) hb
   by_cases hc:T<=((a+b) / 2)*((a+b) / 2)
   ·rw [if_pos hc] at hs
    rw [aB hs]
    exact ih _ _ ha (by omega) (by omega) (by omega) hc h2
   ·rw [if_neg hc] at hs
    rw [aB hs]
    refine ih _ _ (by omega) (by omega) hb (by omega) h1 (Or.inr ?_)
    rw [show(a+b) / 2+1 - 1=(a+b) / 2 by omega];omega
def rQ (d:Int):Int:=3537128906555392*(sc d*sc d)
theorem aZm {d:Int} (h:0<=d/\d<=3):W (3537128906555392*2 ^ (min (tN (W (2*d))) 64))=rQ d:=by
 rcases d4 h with rfl | rfl | rfl | rfl<;>kernel_rfl
theorem aZn {d:Int} (h:0<=d/\d<=3):W ((W ((W (1099511627776*(W (1*2 ^ (min (tN (IntKind.wrap .u64 d)) 64)))))*(W (1*2 ^ (min (tN (IntKind.wrap .u64 d)) 64)))))*3217)=rQ d:=by
 rcases d4 h with rfl | rfl | rfl | rfl<;>kernel_rfl
theorem aPp (d:Int):3537128906555392<=rQ d/\rQ d<=226376250019545088:=by
 unfold rQ;have:=pQ d;omega
def cq (t b:Int):Int:=-(-t / b)
theorem pR {t b:Int} (hb:1<=b):t<=cq t b*b/\(cq t b - 1)*b < t:=by
 have h1:=Int.mul_ediv_add_emod (-t) b
 have h2:=Int.emod_nonneg (-t) (show b≠0 by omega)
 have h3:=Int.emod_lt_of_pos (-t) (show 0 < b by omega)
 unfold cq
 have e:-(-t / b)*b=-(b*(-t / b)):=by rw [Int.neg_mul,Int.mul_comm]
 have e2:(-(-t / b) - 1)*b=-(b*(-t / b)) - b:=by rw [Int.sub_mul,e,Int.one_mul]
 omega
theorem aWm {a n:Int} (hn:1<=n)(ha:-1152921504606846976<=a/\a<=1152921504606846976):aJb a n=a / n:=by
 unfold aJb
 rcases Int.lt_or_le a 0 with h | h
 ·obtain⟨b,rfl⟩:∃b:Int,a=-b:=⟨-a,by omega⟩
  have hb:0<=b:=by omega
  obtain⟨h1,h2,_⟩:=nU hb hn
  have hd:=Int.mul_ediv_add_emod b n
  have hm0:=Int.emod_nonneg b (show n≠0 by omega)
  have hm1:=Int.emod_lt_of_pos b (show 0 < n by omega)
  rw [Int.neg_tdiv,Int.neg_tmod,Int.tdiv_eq_ediv_of_nonneg hb,Int.tmod_eq_emod_of_nonneg hb,aH (n:=-(b / n)) (by omega) (by omega)]
  by_cases h3:-(b % n) < (0:Int)
  ·rw [bQ h3,cond_true,aH (by omega) (by omega)]
   refine(((Int.ediv_emod_unique (a:=-b) (b:=n) (q:=-(b / n) - 1) (r:=n - b % n) (by omega)).2 ⟨?_,by omega,by omega⟩).1).symm
   rw [Int.mul_sub,Int.mul_neg,Int.mul_one];omega
  ·rw [cG h3,cond_false]
   refine(((Int.ediv_emod_unique (a:=-b) (b:=n) (q:=-(b / n)) (r:=0) (by omega)).2 ⟨?_,by omega,by omega⟩).1).symm
   rw [Int.mul_neg];omega
 ·rw [Int.tdiv_eq_ediv_of_nonneg h,Int.tmod_eq_emod_of_nonneg h]
  have:=Int.emod_nonneg a (show n≠0 by omega)
  rw [cG (by omega),cond_false]
  obtain⟨h1,h2,_⟩:=nU h hn
  exact aH (by omega) (by omega)
theorem aWn {a n:Int} (hn:1<=n)(ha:0<=a/\a<=1152921504606846976):aJc a n=cq a n:=by
 unfold aJc cq
 have h1:=pR (t:=a) hn
 rw [aH (n:=0 - a) (by omega) (by omega),aWm hn (by omega),Int.zero_sub,Int.zero_sub]
 have h2:0<=cq a n:=by
  rcases Int.lt_or_le (cq a n) 0 with h | h
  ·have:=Int.mul_le_mul_of_nonneg_right (show cq a n<=-1 by omega) (show 0<=n by omega);omega
  ·exact h
 have h3:cq a n<=a+1:=by
  rcases Int.lt_or_le (a+1) (cq a n) with h | h
  ·have:=Int.mul_le_mul_of_nonneg_left hn (show 0<=cq a n - 1 by omega);omega
  ·exact h
 unfold cq at h2 h3
 exact aH (by omega) (by omega)
theorem uF {p:PN} {d:Int} (hp:vp p=0)(hd:0<=d/\d<=3) :
 ∃r,IsRt (dt (lL p) (lL p)) r/\1<=r/\r<=56755/\IsUp (cq (rQ d) (128*r)) (eZ p d)/\eZ p d<=67108864:=by
 obtain⟨r,e,hr,r1,r2⟩:=aPa hp
 have ht:=aPp d
 obtain⟨q1,q2,q3⟩:=nU (N:=rQ d) (n:=128*r) (by omega) (by omega)
 have hqb:rQ d / (128*r)<=1768564453277696:=by
  rcases Int.lt_or_le 1768564453277696 (rQ d / (128*r)) with h | h
  ·have:=Int.mul_le_mul_of_nonneg_left (show 128<=128*r by omega) q1;omega
  ·exact h
 have hk:=aLk (n:=rQ d / (128*r)) q1 (by omega)
 have hkb:=hk.le (m:=42054304) (by omega) (by omega)
 obtain⟨u1,u2⟩:=pR (t:=rQ d) (b:=128*r) (by omega)
 have hm:=Int.mul_ediv_add_emod (rQ d) (128*r)
 have hm1:=Int.emod_lt_of_pos (rQ d) (show 0 < 128*r by omega)
 refine⟨r,hr,r1,r2,?_⟩
 unfold eZ
 rw [e,aH (n:=128*r) (by omega) (by omega),aZm hd,Int.tdiv_eq_ediv_of_nonneg (by omega),aH (n:=rQ d / (128*r)) (by omega) (by omega)]
 generalize kH (rQ d / (128*r))=k at *
 have k0:=hk.1;have k1:=hk.2.1;have k2:=hk.2.2
 have k3:0<=k*k:=Int.mul_nonneg k0 k0
 have k4:k*k*(128*r)<=rQ d / (128*r)*(128*r):=Int.mul_le_mul_of_nonneg_right k1 (by omega)
 have k5:0<=k*k*(128*r):=Int.mul_nonneg k3 (by omega)
 rw [aH (n:=k*k) (by omega) (by omega),aH (n:=k*k*(128*r)) (by omega) (by omega),aH (n:=k+1) (by omega) (by omega)]
 generalize rQ d / (128*r)=q at *
 generalize cq (rQ d) (128*r)=T at *
 have hb:0 < 128*r:=by omega
 generalize 128*r=b at *
 have hqT:q<=T:=Int.le_of_mul_le_mul_right (Int.le_trans q3 u1) hb
 have hTq:T<=q+1:=by
  have:(T - 1)*b < (q+1)*b:=by rw [Int.add_mul,Int.mul_comm q b];omega
  have:=Int.lt_of_mul_lt_mul_right this (by omega);omega
 by_cases h:k*k*b < rQ d
 ·rw [bQ h,cond_true]
  refine⟨⟨by omega,by omega,Or.inr ?_⟩,by omega⟩
  rw [show k+1 - 1=k by omega]
  exact Int.lt_of_mul_lt_mul_right (Int.lt_of_lt_of_le h u1) (by omega)
 ·rw [cG h,cond_false]
  refine⟨⟨k0,?_,?_⟩,by omega⟩
  ·have:(T - 1)*b < k*k*b:=by omega
   have:=Int.lt_of_mul_lt_mul_right this (by omega);omega
  ·rcases Int.lt_or_le 0 k with h0 | h0
   ·right
    have:(k - 1)*(k - 1)<=(k - 1)*k:=Int.mul_le_mul_of_nonneg_left (by omega) (by omega)
    have e:(k - 1)*k=k*k - k:=by rw [Int.sub_mul,Int.one_mul]
    omega
   ·left;omega
theorem aWo {p:PN} {d:Int} (hp:vp p=0)(hd:0<=d/\d<=3):aPf p d=eZ p d:=by
 obtain⟨r,hr,r1,r2,hu,hb⟩:=uF hp hd
 obtain⟨hb',hd'⟩:=lV hp
 obtain⟨hn,hn2⟩:=aUi hb'
 have ht:=aPp d
 have er:aY2 (lB (aEo p) (aEo p))=r:=by
  rw [aUh hb',rdt (hn.mono (by omega)) (hn.mono (by omega))]
  exact(aUg (n:=dt (lL p) (lL p)) (by omega) (by omega)).eq hr
 obtain⟨u1,u2⟩:=pR (t:=rQ d) (b:=128*r) (by omega)
 have hT:cq (rQ d) (128*r)<=1768564453277697:=by
  rcases Int.lt_or_le 1768564453277697 (cq (rQ d) (128*r)) with h | h
  ·have:=Int.mul_le_mul_of_nonneg_left (show 128<=128*r by omega) (show 0<=cq (rQ d) (128*r) - 1 by omega);omega
  ·exact h
 refine IsUp.eq ?_ hu
 unfold aPf
 refine aJg (T:=cq (rQ d) (128*r)) (fun a b ha hab hb=>?_) (fun a=>?_) _ 0 268435456 (by omega) (by omega) (by omega) (by decide) (by omega) (Or.inl rfl)
 ·have h2:decide (a < b)=true:=bQ hab
  have hq:=xY (a:=(a+b) / 2) (by omega) (by omega)
  simp only [aJd]
  rw [h2,cond_true,aZn hd,er,aH (n:=128*r) (by omega) (by omega),aWn (by omega) (by omega),aSj (by omega),aLf (by omega),aH (n:=(a+b) / 2*((a+b) / 2)) (by omega) (by omega)]
  by_cases hc:cq (rQ d) (128*r)<=(a+b) / 2*((a+b) / 2)
  ·rw [bQ (show(a+b) / 2*((a+b) / 2)≥cq (rQ d) (128*r) from hc),if_pos hc];rfl
  ·rw [cG (show ¬(a+b) / 2*((a+b) / 2)≥cq (rQ d) (128*r) from hc),if_neg hc];rfl
 ·simp [aJd]
def fa3 (c q:PN):Int:=mx (mx (mx (mx (mx (mx (mx (mx (mx 0 (ds c.1 q.1)) (ds c.1 q.2.1)) (ds c.1 q.2.2)) (ds c.2.1 q.1)) (ds c.2.1 q.2.1)) (ds c.2.1 q.2.2)) (ds c.2.2 q.1)) (ds c.2.2 q.2.1)) (ds c.2.2 q.2.2)
def ne3 (c q:PN):Int:=nr (oR c) (oS c) (oR q) (oS q)
theorem aZo {c q:PN} (hc:bdP 5000 c)(hq:bdP 5000 q):bT [(aI c).1,(aI c).2.1,(aI c).2.2] [(aI q).1,(aI q).2.1,(aI q).2.2]=fa3 c q:=by
 refine(aY9 c q.1 q.2.1 q.2.2).trans ?_
 rw [tY hc.1 hq.1,tY hc.1 hq.2.1,tY hc.1 hq.2.2,tY hc.2.1 hq.1,tY hc.2.1 hq.2.1,tY hc.2.1 hq.2.2,tY hc.2.2 hq.1,tY hc.2.2 hq.2.1,tY hc.2.2 hq.2.2];rfl
theorem aZp {c q:PN} (hc:bdP 5000 c)(hq:bdP 5000 q):aA7 c [q.1,q.2.1,q.2.2]=fa3 c q:=by
 rw [aZa,tZ hc.1 hq.1,tZ hc.1 hq.2.1,tZ hc.1 hq.2.2,tZ hc.2.1 hq.1,tZ hc.2.1 hq.2.1,tZ hc.2.1 hq.2.2,tZ hc.2.2 hq.1,tZ hc.2.2 hq.2.1,tZ hc.2.2 hq.2.2,aPh];rfl
theorem aZq {c q:PN} (hc:bdP 5000 c)(hq:bdP 5000 q):bY (aI c) (aI q)=ne3 c q:=aWg hc hq
theorem aZr {c q:PN} (hc:bdP 5000 c)(hq:bdP 5000 q):wF c q=ne3 c q:=aWi hc hq
theorem aPq {c q:PN} (hc:bdP 5000 c)(hq:bdP 5000 q):fa3 c q<=300000000 :=
 jR (jR (jR (jR (jR (jR (jR (jR (jR (by omega) (uE hc.1 hq.1).2) (uE hc.1 hq.2.1).2) (uE hc.1 hq.2.2).2) (uE hc.2.1 hq.1).2) (uE hc.2.1 hq.2.1).2) (uE hc.2.1 hq.2.2).2) (uE hc.2.2 hq.1).2) (uE hc.2.2 hq.2.1).2) (uE hc.2.2 hq.2.2).2
theorem aJh (c q:PN):ds c.1 q.1<=fa3 c q/\ds c.2.1 q.1<=fa3 c q/\ds c.2.2 q.1<=fa3 c q:=by
 refine⟨?_,?_,?_⟩
 ·exact Int.le_trans (mE _ _) (Int.le_trans (dC _ _) (Int.le_trans (dC _ _) (Int.le_trans (dC _ _) (Int.le_trans (dC _ _) (Int.le_trans (dC _ _) (Int.le_trans (dC _ _) (Int.le_trans (dC _ _) (dC _ _))))))))
 ·exact Int.le_trans (mE _ _) (Int.le_trans (dC _ _) (Int.le_trans (dC _ _) (Int.le_trans (dC _ _) (Int.le_trans (dC _ _) (dC _ _)))))
 ·exact Int.le_trans (mE _ _) (Int.le_trans (dC _ _) (dC _ _))
theorem aJi {a b c d x y:Int} (h1:a<=x)(h2:x<=b)(h3:c<=y)(h4:y<=d):gp a b c d*gp a b c d<=(x - y)*(x - y):=by
 refine aUn (aBa _ _ _ _) ?_
 unfold gp mx
 (repeat' split)<;>omega
theorem aJj (c q:PN):0<=ne3 c q/\ne3 c q<=fa3 c q:=by
 refine⟨aUo _ _ _ _,Int.le_trans ?_ (aJh c q).1⟩
 have h1:=aJi (jX c.1.1 c.2.1.1 c.2.2.1).1 (jY c.1.1 c.2.1.1 c.2.2.1).1 (jX q.1.1 q.2.1.1 q.2.2.1).1 (jY q.1.1 q.2.1.1 q.2.2.1).1
 have h2:=aJi (jX c.1.2.1 c.2.1.2.1 c.2.2.2.1).1 (jY c.1.2.1 c.2.1.2.1 c.2.2.2.1).1 (jX q.1.2.1 q.2.1.2.1 q.2.2.2.1).1 (jY q.1.2.1 q.2.1.2.1 q.2.2.2.1).1
 have h3:=aJi (jX c.1.2.2 c.2.1.2.2 c.2.2.2.2).1 (jY c.1.2.2 c.2.1.2.2 c.2.2.2.2).1 (jX q.1.2.2 q.2.1.2.2 q.2.2.2.2).1 (jY q.1.2.2 q.2.1.2.2 q.2.2.2.2).1
 unfold ne3 nr ds dt sb
 simp only [oR,oS]
 omega
theorem aPr {x y:PN} (h:bdP 100000 x)(hy:y∈mD x):lL y=lL x:=by
 unfold mD q1 q2 q3 q4 at hy
 rw [lC h.1 h.2.1,lC h.2.2 h.1,lC h.2.1 h.2.2,fB h.1,fB h.2.1,fB h.2.2] at hy
 simp only [List.mem_cons,List.mem_nil_iff,or_false] at hy
 unfold lL cr sb
 rcases hy with rfl | rfl | rfl | rfl<;>simp only [cW]<;>refine⟨?_,?_,?_⟩<;>grind
theorem aLp:∀(d:Nat) {m:Int} {p x:PN},bdP m p->m*2 ^ d<=100000->0<=m->x∈bH d p->lL x=lL p
 | 0,m,p,x,h,_,_,hx=>by simp [bH] at hx;subst hx;rfl
 | d+1,m,p,x,h,hm,h0,hx=>by
  rw [eF,List.mem_flatMap] at hx
  obtain⟨y,hy,hx⟩:=hx
  have hp:(0:Int) < 2 ^ d:=Int.pow_pos (by omega)
  have hle:m*2 ^ d<=m*2 ^ (d+1):=Int.mul_le_mul_of_nonneg_left (by rw [Int.pow_succ];omega) h0
  have hb:=qN d h (by omega) h0 hy
  rw [aPr (hb.mono (by omega)) hx,aLp d h (by omega) h0 hy]
theorem aJk {p c:PN} {d:Int} (hp:bdP 64 p)(hd:0<=d/\d<=3)(hc:c∈bH d.toNat p):lL c=lL p:=by
 have:d.toNat=0\/d.toNat=1\/d.toNat=2\/d.toNat=3:=by omega
 rcases this with h | h | h | h<;>rw [h] at hc<;>exact aLp (m:=64) _ hp (by decide) (by decide) hc
theorem aPs (c:PN)(x:P3) {R:Int} (h1:ds c.1 x<=R)(h2:ds c.2.1 x<=R)(h3:ds c.2.2 x<=R):dt (lL c) (lL c)<=(4*R)*(4*R):=by
 have lag:∀u v:P3,dt (cr u v) (cr u v)<=dt u u*dt v v:=by
  intro u v
  have h:=dM (dt u v)
  have e:dt (cr u v) (cr u v)+dt u v*dt u v=dt u u*dt v v:=by
   unfold dt cr;grind
  omega
 have par:∀a b:P3,dt (sb a b) (sb a b)<=2*ds a x+2*ds b x:=by
  intro a b
  have k:∀s t y:Int,(s - t)*(s - t)<=2*((s - y)*(s - y))+2*((t - y)*(t - y)):=by
   intro s t y
   have:=dM (s+t - 2*y)
   grind
  have k1:=k a.1 b.1 x.1;have k2:=k a.2.1 b.2.1 x.2.1;have k3:=k a.2.2 b.2.2 x.2.2
  unfold ds dt sb;simp only;omega
 have p1:=par c.2.1 c.1;have p2:=par c.2.2 c.1
 refine Int.le_trans (lag _ _) (Int.mul_le_mul (by omega) (by omega) (lU _) ?_)
 have:=lU (sb c.1 x)
 unfold ds at *;omega
theorem aZs (d:Int):NN (sc d)=sc d*sc d*1099511627776:=rfl
theorem aSs {p c:PN} {d:Int} (hp:vp p=0)(hd:0<=d/\d<=3)(hc:c∈bH d.toNat p)(x:P3) {R:Int} (h1:ds c.1 x<=R)(h2:ds c.2.1 x<=R)(h3:ds c.2.2 x<=R):(oT (sc d) R).1<=eZ p d:=by
 obtain⟨r,hr,r1,r2,hu,_⟩:=uF hp hd
 have hR:0<=R:=Int.le_trans (lU _) h1
 have hn:=aPs c x h1 h2 h3
 rw [aJk (lV hp).1 hd hc] at hn
 have h4:r<=4*R:=by
  rcases Int.lt_or_le (4*R) r with h | h
  ·have:=Int.mul_le_mul (show 4*R+1<=r by omega) (show 4*R+1<=r by omega) (by omega) hr.1
   have e:(4*R+1)*(4*R+1)=(4*R)*(4*R)+8*R+1:=by grind
   have:=hr.2.1;omega
  ·exact h
 unfold oT
 rw [if_neg (by omega)]
 obtain⟨k,hk,_,k0,k1,k2,k3,k4,k5⟩:=iC (aBc (yB d)) (show 1<=R by omega)
 unfold inv
 rw [hk]
 simp only
 rcases Int.lt_or_le (eZ p d) k with h | h
 ·exfalso
  obtain⟨u1,_⟩:=pR (t:=rQ d) (b:=128*r) (by omega)
  have v0:=hu.1;have v1:=hu.2.1
  generalize eZ p d=m at *
  have e1:cq (rQ d) (128*r)*(128*r)<=m*m*(128*r):=Int.mul_le_mul_of_nonneg_right v1 (by omega)
  have e2:m*m<=k*k:=Int.mul_le_mul (by omega) (by omega) v0 k0
  have e3:m*m*(128*r)<=k*k*(512*R):=Int.mul_le_mul e2 (by omega) (by omega) k2
  have e4:k*k*(512*R)=512*(k*k*R):=by grind
  rw [aZs] at k5
  have:=pQ d
  unfold rQ at *
  omega
 ·exact h
def aCt (lo hi:PN->Int):List PN->Int×Int->Int×Int
 | [],v=>v
 | c::l,v=>aCt lo hi l (v.1+lo c,v.2+hi c)
theorem aE1 {lo hi:Int} {v:Int×Int} {n:Nat} (h:okv v (n+1))(h1:0<=lo/\lo<=hi/\hi<=536870913):okv (v.1+lo,v.2+hi) n:=by
 unfold okv at *;simp only;omega
theorem zF {lo hi:PN->Int}:∀{l:List PN} {v:Int×Int},(∀c∈l,0<=lo c/\lo c<=hi c/\hi c<=536870913)->okv v l.length->okv (aCt lo hi l v) 0
 | [],v,_,h=>h
 | c::l,v,hl,h=>zF (l:=l) (fun c hc=>hl c (List.mem_cons_of_mem _ hc)) (aE1 h (hl c List.mem_cons_self))
theorem aBd {lo hi:PN->Int} {S:Int×Int->PN->Int×Int}:∀{l:List PN} {v:Int×Int},(∀c∈l,0<=lo c/\lo c<=hi c/\hi c<=536870913) ->
 (∀c∈l,∀v:Int×Int,S v c=(W (v.1+lo c),W (v.2+hi c)))->okv v l.length->l.foldl S v=aCt lo hi l v
 | [],v,_,_,_=>rfl
 | c::l,v,hl,hS,h=>by
  have h1:=aE1 h (hl c List.mem_cons_self)
  have h2:=h1
  unfold okv at h2;simp only at h2
  rw [List.foldl_cons,hS c List.mem_cons_self v,aH (by omega) (by omega),aH (by omega) (by omega)]
  exact aBd (l:=l) (fun c hc=>hl c (List.mem_cons_of_mem _ hc)) (fun c hc=>hS c (List.mem_cons_of_mem _ hc)) h1
theorem aBe {lo hi:PN->Int} {S:Zt->Zt⊕(Int×Int)} {G:Int×Int->Int×Int} {L:List PN} (hl:∀c∈L,0<=lo c/\lo c<=hi c/\hi c<=536870913)
 (hS:∀(i:Nat) (c:PN),L[i]? = some c->∀v1 v2:Int,S (v1,v2,(i:Int))=.inl (W (v1+lo c),W (v2+hi c),((i+1:Nat):Int)))
 (hE:∀v1 v2:Int,S (v1,v2,(L.length:Int))=.inr (G (v1,v2))) :
 ∀(l:List PN) (i n:Nat) (v:Int×Int),L.drop i=l->i<=L.length->l.length < n->okv v l.length->aA S n (v.1,v.2,(i:Int))=G (aCt lo hi l v)
 | [],i,n,v,hd,hi',hn,h=>by
  have:i=L.length:=by have:=List.drop_eq_nil_iff.1 hd;omega
  obtain⟨n,rfl⟩:∃m,n=m+1:=⟨n - 1,by simp only [List.length_nil] at hn;omega⟩
  subst this
  rw [aG (hE _ _)];rfl
 | c::l,i,n,v,hd,hi',hn,h=>by
  have hc:L[i]? = some c:=by
   have:(L.drop i)[0]? = some c:=by rw [hd];rfl
   simpa using this
  obtain⟨hlt,hce⟩:=List.getElem?_eq_some_iff.1 hc
  obtain⟨n,rfl⟩:∃m,n=m+1:=⟨n - 1,by omega⟩
  have h1:=aE1 h (hl c (hce▸List.getElem_mem hlt))
  have h2:=h1
  unfold okv at h2;simp only at h2
  rw [aB (hS i c hc v.1 v.2),aH (by omega) (by omega),aH (by omega) (by omega)]
  exact aBe hl hS hE l (i+1) n _ (by rw [←List.drop_drop,hd];rfl) (by omega) (by simp only [List.length_cons] at hn;omega) h1
noncomputable def bLo (d:Int)(q c:PN):Int:=(oT (sc d) (fa3 c q)).1
noncomputable def bHi (R d:Int)(q c:PN):Int:=if 0 < ne3 c q then(if(oT (sc d) (ne3 c q)).2 < R then(oT (sc d) (ne3 c q)).2 else R) else R
theorem aWp {p q:PN} {d:Int} (hp:vp p=0)(hd:0<=d/\d<=3):∀c∈bH d.toNat p,0<=bLo d q c/\bLo d q c<=bHi (eZ p d) d q c/\bHi (eZ p d) d q c<=536870913:=by
 intro c hc
 obtain⟨_,_,_,_,_,hub⟩:=uF hp hd
 have ho:=aJf (yB d)
 obtain⟨g1,g2,g3⟩:=aJh c q
 have hl:=aSs hp hd hc q.1 g1 g2 g3
 have hn:=aJj c q
 have h0:=ho.lo (fa3 c q)
 unfold bLo bHi
 split
 ·rename_i hz
  have h1:=ho.mono (ne3 c q) (fa3 c q) (by omega) hn.2;have h2:=ho.le (ne3 c q)
  split<;>omega
 ·omega
noncomputable def aE2 (p q:PN)(d:Int):Int×Int:=avg (aCt (bLo d q) (bHi (eZ p d) d q) (bH d.toNat p) (0,0)) (sc d*sc d)
section
variable {p q : PN} {d : Int}
theorem aUp (hp:vp p=0)(hq:bdP 5000 q)(hd:0<=d/\d<=3):F70 p q d=aE2 p q d:=by
 have hk:=aPo (p:=p) hd
 have hb:=aWp (q:=q) hp hd
 unfold F70 aE2
 rw [aBd hb (fun c hc v=>?_) hk]
 ·show aCs _ _ _=_
  rw [aZd hd,aZl (pQ d) (zF hb hk)]
 ·have hcb:=(zE (lV hp).1 hd hc).mono (show(512:Int)<=5000 by omega)
  obtain⟨v1,v2⟩:=v
  have h1:=aPq hcb hq;have h2:=aJj c q
  simp only [yA]
  rw [aWj hd,aZq hcb hq,aZo hcb hq,aUl (yB d) (by omega),aUl (yB d) (by omega)]
  unfold bLo bHi
  by_cases h:0 < ne3 c q
  ·rw [if_pos h,bQ (show ne3 c q > 0 from h),cond_true]
  ·rw [if_neg h,cG (show ¬ne3 c q > 0 from h),cond_false]
theorem aZt (hp:vp p=0)(hq:bdP 5000 q)(hd:0<=d/\d<=3):F91 p d q=aE2 p q d:=by
 have hk:=aPo (p:=p) hd
 have hb:=aWp (q:=q) hp hd
 have hL:=bBq (lV hp).1 hd
 have hl:=aE0 hd p
 unfold F91 aE2
 rw [show((0,0,0):Zt)=(((0,0):Int×Int).1,((0,0):Int×Int).2,((0:Nat):Int)) from rfl,
  aBe hb (S:=aLl p d q) (G:=fun v=>(aJb v.1 (sc d*sc d),aJc v.2 (sc d*sc d))) (fun i c hi v1 v2=>?_) (fun v1 v2=>?_) (bH d.toNat p) 0 _ (0,0) rfl (Nat.zero_le _) (by rw [hL];omega) hk]
 ·have hu:=zF hb hk
  unfold okv at hu
  rw [aZk (pQ d) (by omega),bBz (pQ d) (by omega)];rfl
 ·obtain⟨hlt,hc⟩:=List.getElem?_eq_some_iff.1 hi
  have hm:c∈bH d.toNat p:=hc▸List.getElem_mem hlt
  have hcb:=(zE (lV hp).1 hd hm).mono (show(512:Int)<=5000 by omega)
  have hg:(bH d.toNat p).getD i dF=c:=by rw [cY,hi];rfl
  have h1:=aPq hcb hq;have h2:=aJj c q
  simp only [aLl]
  rw [hL,bQ (show((i:Nat):Int) < ((bH d.toNat p).length:Nat) by omega),cond_true,fW,hg,aZc hd,aZr hcb hq,aZp hcb hq,aUm (yB d) (by omega),aUm (yB d) (by omega),aWo hp hd]
  unfold bLo bHi
  by_cases h:0 < ne3 c q
  ·rw [if_pos h,bQ (show ne3 c q > 0 from h),cond_true];rfl
  ·rw [if_neg h,cG (show ¬ne3 c q > 0 from h),cond_false];rfl
 ·simp only [aLl]
  rw [hL,cG (Int.lt_irrefl _),cond_false,hl]
end
def tmP (s:Int)(q:PN):PN:=(tm s q.1,tm s q.2.1,tm s q.2.2)
theorem aJl {q:PN} {s:Int} (hs:1<=s/\s<=8)(hq:bdP 64 q):bdP 5000 (tmP s q) :=
 ⟨(aLn hs (by omega) hq.1).mono (by omega),(aLn hs (by omega) hq.2.1).mono (by omega),(aLn hs (by omega) hq.2.2).mono (by omega)⟩
theorem aBf (p q:PN)(d:Int):oX p q d=F53 p q d:=by
 unfold oX F53
 rw [aEw,aNk]
 by_cases h:pk p q d=0
 ·obtain⟨h1,h2,h3⟩:=aPl h
  have hs:=aUj d
  have hq:=(lV h2).1
  have hq':=hq.mono (show(64:Int)<=4096 by omega)
  have hd:0<=d/\d<=3:=by omega
  rw [aWj hd,aZc hd,aNm hs hq'.1,aNm hs hq'.2.1,aNm hs hq'.2.2,aWk hs hq'.1,aWk hs hq'.2.1,aWk hs hq'.2.2]
  have e1:=aUp h1 (aJl hs hq) hd
  have e2:=aZt h1 (aJl hs hq) hd
  unfold tmP at e1 e2
  rw [e1,e2]
 ·rw [bne_iff_ne.2 h,cond_true,cond_true]
end Go.Proofs.YtlckcjfbjnjfhaaGreat
namespace Go.Proofs.YtlckcjfbjnjfhaaGreat
open Go.Proofs Go.Aw Go.RowKit
set_option maxRecDepth 100000
theorem aUq {a:Int×Int} (h:((kA a:Int) != 0)=false):-1099511627776<=a.1/\a.1<=a.2/\a.2<=1099511627776:=by
 have h:kA a=0:=by simpa using h
 unfold kA at h
 cases h0:vI a with
 | false=>rw [h0] at h;cases h
 | true =>
  unfold vI at h0
  by_cases h1:a.1≥-1099511627776
  ·by_cases h2:a.1<=a.2
   ·rw [bQ h1,cond_true,bQ h2,cond_true] at h0
    exact⟨h1,h2,dB h0⟩
   ·rw [bQ h1,cond_true,cG h2,cond_false] at h0;cases h0
  ·rw [cG h1,cond_false] at h0;cases h0
def aHb (a0:Int):Bool :=
 (bif (decide ((a0:Int)≥(-1099511627776))) then
  (decide ((a0:Int)<=1099511627776))
 else
  false)
theorem bB0 (a0:Int):Con Tryz.prog 113 [(iv a0)] [] (.v (.bool (aHb a0))) []:=by
 refine aT Tryz.func113 (by kernel_rfl) fun cx hcx=>?_
 cases h0:(decide ((a0:Int)≥(-1099511627776))) with
 | true =>
  have q0:=dB h0
  have e:=Eq.refl (aHb a0);conv at e=>rhs;simp only [aHb,h0,aX]
  rw [e]
  exact rt [.d h0] [] [] hcx (by kernel_rfl)
 | false =>
  have q0:=eC h0
  have e:=Eq.refl (aHb a0);conv at e=>rhs;simp only [aHb,h0,aX]
  rw [e]
  exact rt [.d h0] [] [] hcx (by kernel_rfl)
def yC (a0:Int×Int)(a1:Int):(Int×Int)×Int :=
 (bif (((kA a0):Int) != 0) then
  ((0,0),(kA a0))
 else
  (bif (!(aHb a1)) then
   ((0,0),1)
  else
   ((iV (if((fP a0.2 a1):Int) < (fP a0.1 a1) then(fP a0.2 a1) else(fP a0.1 a1)) (if((fP a0.1 a1):Int) < (fP a0.2 a1) then(fP a0.2 a1) else(fP a0.1 a1))).1,(iV (if((fP a0.2 a1):Int) < (fP a0.1 a1) then(fP a0.2 a1) else(fP a0.1 a1)) (if((fP a0.1 a1):Int) < (fP a0.2 a1) then(fP a0.2 a1) else(fP a0.1 a1))).2)))
theorem C77 (a0:Int×Int)(a1:Int):Con Tryz.prog 77 [(.a [(iv a0.1),(iv a0.2)]),(iv a1)] [] (.t [(.a (k2 (yC a0 a1).1)),(iv (yC a0 a1).2)]) []:=by
 refine aT Tryz.func77 (by kernel_rfl) fun cx hcx=>?_
 let t0:List (St Tryz.prog):=[.c [2] (aUf a0)]
 cases h0:(((kA a0):Int) != 0) with
 | true =>
  have q0:=bne_iff_ne.1 h0
  have e:=Eq.refl (yC a0 a1);conv at e=>rhs;simp only [yC,h0,aX]
  rw [e]
  exact rt (t0++[.d h0]) [] [] hcx (by kernel_rfl)
 | false =>
  have q0:=bne_eq_false_iff_eq.1 h0
  let t1:List (St Tryz.prog):=(t0++[.d h0,.c [] (bB0 a1)])
  cases h1:(!(aHb a1)) with
  | true =>
   have e:=Eq.refl (yC a0 a1);conv at e=>rhs;simp only [yC,h0,h1,aX]
   rw [e]
   exact rt (t1++[.d h1]) [] [] hcx (by kernel_rfl)
  | false =>
   have e:=Eq.refl (yC a0 a1);conv at e=>rhs;simp only [yC,h0,h1,aX]
   rw [e]
   exact rt (t1++[.d h1,.c [] (aY1 a0.1 a1  (by have:=aUq h0;omega)),.c [] (aY1 a0.2 a1  (by have:=aUq h0;omega)),.c [] (aO3 (if((fP a0.2 a1):Int) < (fP a0.1 a1) then(fP a0.2 a1) else(fP a0.1 a1)) (if((fP a0.1 a1):Int) < (fP a0.2 a1) then(fP a0.2 a1) else(fP a0.1 a1)))]) [] [] hcx (by kernel_rfl)
def oZ (x n:Int):Int:=if 1099511627776 < x*n then 1099511627777 else if x*n < -1099511627776 then -1099511627777 else x*n
theorem aWq (x n:Int):(x*n=(if x < 0 then 0 - x else x)*(if n < 0 then 0 - n else n)/\((x < 0)=(n < 0)))\/(x*n=-((if x < 0 then 0 - x else x)*(if n < 0 then 0 - n else n))/\¬((x < 0)=(n < 0))):=by
 by_cases h1:x < 0
 ·by_cases h2:n < 0
  ·left;rw [if_pos h1,if_pos h2];exact⟨by grind,by simp [h1,h2]⟩
  ·right;rw [if_pos h1,if_neg h2];exact⟨by grind,by simp [h1,h2]⟩
 ·by_cases h2:n < 0
  ·right;rw [if_neg h1,if_pos h2];exact⟨by grind,by simp [h1,h2]⟩
  ·left;rw [if_neg h1,if_neg h2];exact⟨by grind,by simp [h1,h2]⟩
theorem aPt {x n:Int} (hx:-1099511627776<=x/\x<=1099511627776)(hn:-1099511627776<=n/\n<=1099511627776):fP x n=oZ x n:=by
 have hm:=aWq x n
 have ha:∀z:Int,(-1099511627776<=z/\z<=1099511627776)->(if(z:Int) < (W (0 - z)) then(W (0 - z)) else z)=if z < 0 then 0 - z else z:=by
  intro z hz
  rw [aH (n:=0 - z) (by omega) (by omega)]
  (repeat' split)<;>omega
 unfold fP oZ
 rw [ha x hx,ha n hn]
 by_cases hx0:x=0
 ·subst hx0;simp [aH]
 by_cases hn0:n=0
 ·subst hn0;simp [aH]
 rw [bne_iff_ne.2 hx0,bne_iff_ne.2 hn0,cond_true,cond_true]
 have a1:1<=(if x < 0 then 0 - x else x)/\(if x < 0 then 0 - x else x)<=1099511627776:=by split<;>omega
 have a2:1<=(if n < 0 then 0 - n else n)/\(if n < 0 then 0 - n else n)<=1099511627776:=by split<;>omega
 have e:(!(decide (x < 0) == decide (n < 0)))=decide (x*n=-((if x < 0 then 0 - x else x)*(if n < 0 then 0 - n else n))/\¬((x < 0)=(n < 0))):=by
  by_cases h1:x < 0<;>by_cases h2:n < 0<;>simp [h1,h2] at hm ⊢<;>omega
 rw [e]
 generalize (if x < 0 then 0 - x else x)=ax at *
 generalize (if n < 0 then 0 - n else n)=an at *
 rw [Int.tdiv_eq_ediv_of_nonneg (by omega)]
 obtain⟨d1,d2,d3⟩:=nU (N:=1099511627776) (n:=ax) (by omega) (by omega)
 have d4:=Int.mul_ediv_add_emod 1099511627776 ax
 have d5:=Int.emod_lt_of_pos 1099511627776 (show 0 < ax by omega)
 rw [aH (n:=1099511627776 / ax) (by omega) (by omega)]
 have hbig:an > 1099511627776 / ax↔1099511627776 < ax*an:=by
  constructor
  ·intro h
   have:=Int.mul_le_mul_of_nonneg_left (show 1099511627776 / ax+1<=an by omega) (show 0<=ax by omega)
   rw [Int.mul_add,Int.mul_one] at this;omega
  ·intro h
   rcases Int.lt_or_le (1099511627776 / ax) an with h' | h'
   ·exact h'
   ·have:=Int.mul_le_mul_of_nonneg_left h' (show 0<=ax by omega)
    rw [Int.mul_comm] at d3;omega
 by_cases hb:an > 1099511627776 / ax
 ·rw [bQ hb,cond_true]
  have:=hbig.1 hb
  rcases hm with⟨qq1,qq2⟩ | ⟨qq1,qq2⟩
  ·rw [cG (fun h=>h.2 qq2),cond_false,qq1,if_pos (by omega)]
  ·rw [bQ ⟨qq1,qq2⟩,cond_true,qq1,if_neg (by omega),if_pos (by omega)]
 ·rw [cG hb,cond_false]
  have h1:ax*an<=1099511627776:=by
   rcases Int.lt_or_le 1099511627776 (ax*an) with h | h
   ·exact absurd (hbig.2 h) hb
   ·exact h
  have h2:0<=ax*an:=Int.mul_nonneg (by omega) (by omega)
  rcases hm with⟨qq1,qq2⟩ | ⟨qq1,qq2⟩<;>rw [qq1,if_neg (by omega),if_neg (by omega)]<;>exact aH (by omega) (by omega)
theorem aPu {x y n:Int} (h:x<=y)(hn:0<=n):oZ x n<=oZ y n:=by
 have:=Int.mul_le_mul_of_nonneg_right h hn
 unfold oZ;(repeat' split)<;>omega
theorem aPv {x y n:Int} (h:x<=y)(hn:n<=0):oZ y n<=oZ x n:=by
 have:=Int.mul_le_mul_of_nonpos_right h hn
 unfold oZ;(repeat' split)<;>omega
def scl (a:Int×Int)(n:Int):Int×Int:=if n < 0 then(oZ a.2 n,oZ a.1 n) else(oZ a.1 n,oZ a.2 n)
def vs (a:Int×Int):Prop:=-1099511627776<=a.1/\a.1<=a.2/\a.2<=1099511627776
theorem aSt {a:Int×Int} {n:Int} (ha:vs a)(hn:-1099511627776<=n/\n<=1099511627776):yC a n=iV (scl a n).1 (scl a n).2:=by
 obtain⟨h1,h2,h3⟩:=ha
 unfold yC kA aHb
 rw [aHa (a:=a.1) (b:=a.2) h1 h2 h3,bQ (show n≥-1099511627776 from hn.1),bQ hn.2,aPt (x:=a.1) (by omega) hn,aPt (x:=a.2) (by omega) hn]
 show((iV _ _).1,(iV _ _).2)=_
 unfold scl
 by_cases h:n < 0
 ·have:=aPv h2 (show n<=0 by omega)
  rw [if_pos h]
  simp only
  rw [show(if(oZ a.2 n:Int) < oZ a.1 n then oZ a.2 n else oZ a.1 n)=oZ a.2 n by split<;>omega,show(if(oZ a.1 n:Int) < oZ a.2 n then oZ a.2 n else oZ a.1 n)=oZ a.1 n by split<;>omega]
 ·have:=aPu h2 (show 0<=n by omega)
  rw [if_neg h]
  simp only
  rw [show(if(oZ a.2 n:Int) < oZ a.1 n then oZ a.2 n else oZ a.1 n)=oZ a.1 n by split<;>omega,show(if(oZ a.1 n:Int) < oZ a.2 n then oZ a.2 n else oZ a.1 n)=oZ a.2 n by split<;>omega]
theorem aDi (a b:Int):(iV a b=((a,b),0)/\vs (a,b))\/iV a b=((0,0),4):=by
 by_cases h:vs (a,b)
 ·exact Or.inl ⟨aLo h.1 h.2.1 h.2.2,h⟩
 ·right
  unfold iV
  have:vI (a,b)=false:=by
   unfold vI
   by_cases h1:(a,b).1≥-1099511627776
   ·by_cases h2:(a,b).1<=(a,b).2
    ·rw [bQ h1,bQ h2,cond_true,cond_true];exact cG (fun h3=>h ⟨h1,h2,h3⟩)
    ·rw [bQ h1,cG h2];rfl
   ·rw [cG h1];rfl
  rw [this];rfl
def ht (p:PN)(x:P3):Int:=dt (sb p.1 x) (cr (sb p.2.1 x) (sb p.2.2 x))
def tBC (p:PN):PN:=(p.1,p.2.2,p.2.1)
def tAC (p:PN):PN:=(p.2.2,p.2.1,p.1)
def tAB (p:PN):PN:=(p.2.1,p.1,p.2.2)
theorem bU (p q:P3):fZ p q=fZ q p:=by
 simp only [fZ,Int.add_comm]
def oU (g:PN->Int)(d:Nat)(p:PN):Int:=((bH d p).map g).sum
theorem iW (g:PN->Int)(d:Nat)(p:PN):oU g (d+1) p=oU g d (q1 p)+(oU g d (q2 p)+(oU g d (q3 p)+oU g d (q4 p))):=by
 unfold oU
 rw [show bH (d+1) p=bH d (q1 p)++(bH d (q2 p)++(bH d (q3 p)++bH d (q4 p))) from rfl]
 simp only [List.map_append,List.sum_append]
theorem aJm {g:PN->Int} (h1:∀p,g (tBC p)=g p)(h2:∀p,g (tAC p)=g p)(h3:∀p,g (tAB p)=g p) :
 ∀(d:Nat) (p:PN),oU g d (tBC p)=oU g d p/\oU g d (tAC p)=oU g d p/\oU g d (tAB p)=oU g d p
 | 0,p=>by
  have e:∀q,oU g 0 q=g q:=fun q=>by simp [oU,bH]
  rw [e,e,e,e];exact⟨h1 p,h2 p,h3 p⟩
 | d+1,p=>by
  have ih:=aJm h1 h2 h3 d
  refine⟨?_,?_,?_⟩
  ·rw [iW,iW]
   have e1:q1 (tBC p)=tBC (q1 p):=by unfold q1 tBC;simp only;rw [bU p.1 p.2.2,bU p.2.1 p.1]
   have e2:q2 (tBC p)=tBC (q3 p):=by unfold q2 q3 tBC;simp only;rw [bU p.1 p.2.2,bU p.2.2 p.2.1]
   have e3:q3 (tBC p)=tBC (q2 p):=by unfold q2 q3 tBC;simp only;rw [bU p.2.1 p.1,bU p.2.2 p.2.1]
   have e4:q4 (tBC p)=tAC (q4 p):=by unfold q4 tBC tAC;simp only;rw [bU p.1 p.2.2,bU p.2.2 p.2.1,bU p.2.1 p.1]
   rw [e1,e2,e3,e4,(ih (q1 p)).1,(ih (q2 p)).1,(ih (q3 p)).1,(ih (q4 p)).2.1];omega
  ·rw [iW,iW]
   have e1:q1 (tAC p)=tAC (q3 p):=by unfold q1 q3 tAC;simp only;rw [bU p.2.2 p.2.1,bU p.1 p.2.2]
   have e2:q2 (tAC p)=tAC (q2 p):=by unfold q2 tAC;simp only;rw [bU p.2.2 p.2.1,bU p.2.1 p.1]
   have e3:q3 (tAC p)=tAC (q1 p):=by unfold q1 q3 tAC;simp only;rw [bU p.1 p.2.2,bU p.2.1 p.1]
   have e4:q4 (tAC p)=tAB (q4 p):=by unfold q4 tAC tAB;simp only;rw [bU p.2.2 p.2.1,bU p.2.1 p.1,bU p.1 p.2.2]
   rw [e1,e2,e3,e4,(ih (q1 p)).2.1,(ih (q2 p)).2.1,(ih (q3 p)).2.1,(ih (q4 p)).2.2];omega
  ·rw [iW,iW]
   have e1:q1 (tAB p)=tAB (q2 p):=by unfold q1 q2 tAB;simp only;rw [bU p.2.1 p.1,bU p.2.2 p.2.1]
   have e2:q2 (tAB p)=tAB (q1 p):=by unfold q1 q2 tAB;simp only;rw [bU p.2.1 p.1,bU p.1 p.2.2]
   have e3:q3 (tAB p)=tAB (q3 p):=by unfold q3 tAB;simp only;rw [bU p.2.2 p.2.1,bU p.1 p.2.2]
   have e4:q4 (tAB p)=tBC (q4 p):=by unfold q4 tAB tBC;simp only;rw [bU p.2.1 p.1,bU p.1 p.2.2,bU p.2.2 p.2.1]
   rw [e1,e2,e3,e4,(ih (q1 p)).2.2,(ih (q2 p)).2.2,(ih (q3 p)).2.2,(ih (q4 p)).1];omega
theorem aWr (c:PN)(x:P3):fa (tBC c) x=fa c x/\fa (tAC c) x=fa c x/\fa (tAB c) x=fa c x:=by
 unfold fa tBC tAC tAB
 simp only
 generalize ds c.1 x=a;generalize ds c.2.1 x=b;generalize ds c.2.2 x=e
 unfold mx
 refine⟨?_,?_,?_⟩<;>(repeat' split)<;>omega
theorem sq2 (s t:Int):(s+t)*(s+t)<=2*(s*s)+2*(t*t):=by
 have:=dM (s - t);grind
def ad (p q:P3):P3:=(p.1+q.1,p.2.1+q.2.1,p.2.2+q.2.2)
theorem aPw (a b x:P3):ds (ad a b) (tm 2 x)<=2*ds a x+2*ds b x:=by
 have h1:=sq2 (a.1 - x.1) (b.1 - x.1);have h2:=sq2 (a.2.1 - x.2.1) (b.2.1 - x.2.1);have h3:=sq2 (a.2.2 - x.2.2) (b.2.2 - x.2.2)
 have e1:a.1+b.1 - 2*x.1=a.1 - x.1+(b.1 - x.1):=by omega
 have e2:a.2.1+b.2.1 - 2*x.2.1=a.2.1 - x.2.1+(b.2.1 - x.2.1):=by omega
 have e3:a.2.2+b.2.2 - 2*x.2.2=a.2.2 - x.2.2+(b.2.2 - x.2.2):=by omega
 unfold ds dt sb ad tm;simp only;rw [e1,e2,e3];omega
theorem aE3 {c y:PN} (h:bdP 100000 c)(hy:y∈mD c):∃a1 b1 a2 b2 a3 b3:P3,(a1=c.1\/a1=c.2.1\/a1=c.2.2)/\(b1=c.1\/b1=c.2.1\/b1=c.2.2)/\(a2=c.1\/a2=c.2.1\/a2=c.2.2)/\(b2=c.1\/b2=c.2.1\/b2=c.2.2)/\(a3=c.1\/a3=c.2.1\/a3=c.2.2)/\(b3=c.1\/b3=c.2.1\/b3=c.2.2)/\y=(ad a1 b1,ad a2 b2,ad a3 b3):=by
 unfold mD q1 q2 q3 q4 at hy
 rw [lC h.1 h.2.1,lC h.2.2 h.1,lC h.2.1 h.2.2,fB h.1,fB h.2.1,fB h.2.2] at hy
 have e:∀p:P3,(2*p.1,2*p.2.1,2*p.2.2)=ad p p:=fun p=>by unfold ad;simp only [cW];omega
 rw [e,e,e] at hy
 simp only [List.mem_cons,List.mem_nil_iff,or_false] at hy
 rcases hy with rfl | rfl | rfl | rfl
 ·exact⟨c.1,c.1,c.1,c.2.1,c.2.2,c.1,by simp,by simp,by simp,by simp,by simp,by simp,rfl⟩
 ·exact⟨c.1,c.2.1,c.2.1,c.2.1,c.2.1,c.2.2,by simp,by simp,by simp,by simp,by simp,by simp,rfl⟩
 ·exact⟨c.2.2,c.1,c.2.1,c.2.2,c.2.2,c.2.2,by simp,by simp,by simp,by simp,by simp,by simp,rfl⟩
 ·exact⟨c.1,c.2.1,c.2.1,c.2.2,c.2.2,c.1,by simp,by simp,by simp,by simp,by simp,by simp,rfl⟩
theorem lW (c:PN)(x a:P3)(h:a=c.1\/a=c.2.1\/a=c.2.2):ds a x<=fa c x:=by
 rcases h with rfl | rfl | rfl
 ·exact Int.le_trans (mE _ _) (Int.le_trans (dC _ _) (dC _ _))
 ·exact Int.le_trans (mE _ _) (dC _ _)
 ·exact mE _ _
theorem aSu {c y:PN} {x:P3} (h:bdP 100000 c)(hy:y∈mD c):fa y (tm 2 x)<=4*fa c x:=by
 obtain⟨a1,b1,a2,b2,a3,b3,h1,k1,h2,k2,h3,k3,rfl⟩:=aE3 h hy
 have g1:=lW c x a1 h1;have g2:=lW c x b1 k1;have g3:=lW c x a2 h2;have g4:=lW c x b2 k2;have g5:=lW c x a3 h3;have g6:=lW c x b3 k3
 have f1:=aPw a1 b1 x;have f2:=aPw a2 b2 x;have f3:=aPw a3 b3 x
 have g0:0<=fa c x:=Int.le_trans (lU _) (lW c x c.1 (Or.inl rfl))
 exact jR (jR (jR (by omega) (by simp only;omega)) (by simp only;omega)) (by simp only;omega)
theorem in3 {c:PN} {a:P3} (h:a=c.1\/a=c.2.1\/a=c.2.2):(oR c).1<=a.1/\a.1<=(oS c).1/\(oR c).2.1<=a.2.1/\a.2.1<=(oS c).2.1/\(oR c).2.2<=a.2.2/\a.2.2<=(oS c).2.2:=by
 have l1:=jX c.1.1 c.2.1.1 c.2.2.1;have l2:=jX c.1.2.1 c.2.1.2.1 c.2.2.2.1;have l3:=jX c.1.2.2 c.2.1.2.2 c.2.2.2.2
 have m1:=jY c.1.1 c.2.1.1 c.2.2.1;have m2:=jY c.1.2.1 c.2.1.2.1 c.2.2.2.1;have m3:=jY c.1.2.2 c.2.1.2.2 c.2.2.2.2
 unfold oR oS
 rcases h with rfl | rfl | rfl
 ·exact⟨l1.1,m1.1,l2.1,m2.1,l3.1,m3.1⟩
 ·exact⟨l1.2.1,m1.2.1,l2.2.1,m2.2.1,l3.2.1,m3.2.1⟩
 ·exact⟨l1.2.2,m1.2.2,l2.2.2,m2.2.2,l3.2.2,m3.2.2⟩
theorem aJn {a b a' b' x:Int} (h1:2*a<=a')(h2:b'<=2*b):4*(gp a b x x*gp a b x x)<=gp a' b' (2*x) (2*x)*gp a' b' (2*x) (2*x):=by
 have h:2*gp a b x x<=gp a' b' (2*x) (2*x):=by
  unfold gp mx;(repeat' split)<;>omega
 have h0:=aBa a b x x
 have:=Int.mul_le_mul h h (by omega) (aBa _ _ _ _)
 have e:2*gp a b x x*(2*gp a b x x)=4*(gp a b x x*gp a b x x):=by grind
 omega
theorem aSv {c y:PN} {x:P3} (h:bdP 100000 c)(hy:y∈mD c):4*ne c x<=ne y (tm 2 x):=by
 obtain⟨a1,b1,a2,b2,a3,b3,h1,k1,h2,k2,h3,k3,rfl⟩:=aE3 h hy
 have i1:=in3 h1;have i2:=in3 k1;have i3:=in3 h2;have i4:=in3 k2;have i5:=in3 h3;have i6:=in3 k3
 have key:∀u v w m:Int,m<=u->m<=v->m<=w->m<=lo3 u v w:=fun u v w m e1 e2 e3=>by rcases aEs u v w with e | e | e<;>rw [e]<;>assumption
 have key2:∀u v w m:Int,u<=m->v<=m->w<=m->hi3 u v w<=m:=fun u v w m e1 e2 e3=>by rcases aEt u v w with e | e | e<;>rw [e]<;>assumption
 have g1:=aJn (a:=(oR c).1) (b:=(oS c).1) (x:=x.1) (key (a1.1+b1.1) (a2.1+b2.1) (a3.1+b3.1) _ (by omega) (by omega) (by omega)) (key2 (a1.1+b1.1) (a2.1+b2.1) (a3.1+b3.1) _ (by omega) (by omega) (by omega))
 have g2:=aJn (a:=(oR c).2.1) (b:=(oS c).2.1) (x:=x.2.1) (key (a1.2.1+b1.2.1) (a2.2.1+b2.2.1) (a3.2.1+b3.2.1) _ (by omega) (by omega) (by omega)) (key2 (a1.2.1+b1.2.1) (a2.2.1+b2.2.1) (a3.2.1+b3.2.1) _ (by omega) (by omega) (by omega))
 have g3:=aJn (a:=(oR c).2.2) (b:=(oS c).2.2) (x:=x.2.2) (key (a1.2.2+b1.2.2) (a2.2.2+b2.2.2) (a3.2.2+b3.2.2) _ (by omega) (by omega) (by omega)) (key2 (a1.2.2+b1.2.2) (a2.2.2+b2.2.2) (a3.2.2+b3.2.2) _ (by omega) (by omega) (by omega))
 show 4*(gp (oR c).1 (oS c).1 x.1 x.1*gp (oR c).1 (oS c).1 x.1 x.1+gp (oR c).2.1 (oS c).2.1 x.2.1 x.2.1*gp (oR c).2.1 (oS c).2.1 x.2.1 x.2.1+gp (oR c).2.2 (oS c).2.2 x.2.2 x.2.2*gp (oR c).2.2 (oS c).2.2 x.2.2 x.2.2)<=_
 refine Int.le_trans ?_ (Int.add_le_add (Int.add_le_add g1 g2) g3)
 omega
theorem aPx {N n:Int} (hN:1<=N/\N<=288230376151711744)(hn:1<=n):1<=(inv N n).2/\N<=(inv N n).2*(inv N n).2*n/\((inv N n).2 - 1)*((inv N n).2 - 1)*n < N:=by
 obtain⟨k,hk,hr,k0,k1,k2,k3,k4,k5⟩:=iC (N:=N) ⟨by omega,hN.2⟩ hn
 have h:=hr.2.2
 have hm:=Int.mul_ediv_add_emod N n
 have hm1:=Int.emod_lt_of_pos N (show 0 < n by omega)
 have h2:N < (k+1)*(k+1)*n:=by
  have:=Int.mul_le_mul_of_nonneg_right (show N / n+1<=(k+1)*(k+1) by omega) (show 0<=n by omega)
  rw [Int.add_mul,Int.one_mul,Int.mul_comm (N / n) n] at this;omega
 unfold inv
 rw [hk]
 simp only
 split
 ·rename_i he
  have h1:1<=k:=by
   rcases Int.lt_or_le k 1 with h | h
   ·have:k=0:=by omega
    subst this;simp at he;omega
   ·exact h
  refine⟨h1,by omega,?_⟩
  have e:(k - 1)*(k - 1)<=k*k - 1:=by
   have e1:(k - 1)*(k - 1)=k*k - 2*k+1:=by grind
   omega
  have e2:=Int.mul_le_mul_of_nonneg_right e (show 0<=n by omega)
  rw [show(k*k - 1)*n=k*k*n - n by rw [Int.sub_mul,Int.one_mul]] at e2;omega
 ·rename_i he
  refine⟨by omega,by omega,?_⟩
  rw [show k+1 - 1=k by omega];omega
theorem aHc {N n m:Int} (hN:1<=N/\N<=288230376151711744)(hn:1<=n)(hm:n<=m):(inv N m).2<=(inv N n).2:=by
 obtain⟨a1,a2,a3⟩:=aPx hN hn
 obtain⟨b1,b2,b3⟩:=aPx hN (show 1<=m by omega)
 rcases Int.lt_or_le (inv N n).2 (inv N m).2 with h | h
 ·exfalso
  have e:=Int.mul_le_mul (Int.mul_le_mul (show(inv N n).2<=(inv N m).2 - 1 by omega) (show(inv N n).2<=(inv N m).2 - 1 by omega) (by omega) (by omega)) hm (by omega) (Int.mul_nonneg (by omega) (by omega))
  omega
 ·exact h
theorem aSw {N n q:Int} (hq:0 < q):inv (q*N) (q*n)=inv N n:=by
 unfold inv
 rw [Int.mul_ediv_mul_of_pos _ _ hq]
 have e:∀k:Int,(k*k*(q*n)=q*N)↔(k*k*n=N):=by
  intro k
  rw [show k*k*(q*n)=q*(k*k*n) by grind]
  exact⟨fun h=>Int.eq_of_mul_eq_mul_left (by omega) h,fun h=>by rw [h]⟩
 simp only [e]
def mF:List (Int×Int)->Int×Int->Int×Int
 | [],v=>v
 | a::l,v=>mF l (v.1+a.1,v.2+a.2)
theorem aLq:∀(l:List (Int×Int)) (v:Int×Int),mF l v=(v.1+(l.map (·.1)).sum,v.2+(l.map (·.2)).sum)
 | [],v=>by simp [mF]
 | a::l,v=>by rw [mF,aLq l];simp only [List.map_cons,List.sum_cons,Int.add_assoc]
def okE (a:Int×Int):Prop:=0<=a.1/\a.1<=a.2/\a.2<=536870913
section
variable {l : List (Int × Int)}
end
theorem aE4 (lo hi:PN->Int):∀(l:List PN) (v:Int×Int),aCt lo hi l v=(v.1+(l.map lo).sum,v.2+(l.map hi).sum)
 | [],v=>by simp [aCt]
 | a::l,v=>by rw [aCt,aE4 lo hi l];simp only [List.map_cons,List.sum_cons,Int.add_assoc]
theorem aWs {p q:PN} {d:Int} (hp:vp p=0)(hd:0<=d/\d<=3):okE (aE2 p q d):=by
 have hb:=aWp (q:=q) hp hd
 have hk:=aPo (p:=p) hd
 have ho:=zF hb hk
 have hs:(aCt (bLo d q) (bHi (eZ p d) d q) (bH d.toNat p) (0,0)).2<=536870913*(sc d*sc d):=by
  rw [aE4,←aE0 hd p]
  simp only [Int.zero_add]
  have key:∀l:List PN,(∀c∈l,bHi (eZ p d) d q c<=536870913)->(l.map (bHi (eZ p d) d q)).sum<=536870913*(l.length:Nat):=by
   intro l
   induction l with
   | nil=>intro _;simp
   | cons c l ih =>
    intro h
    have h1:=h c List.mem_cons_self;have h2:=ih (fun c hc=>h c (List.mem_cons_of_mem _ hc))
    simp only [List.map_cons,List.sum_cons,List.length_cons];omega
  exact key _ (fun c hc=>(hb c hc).2.2)
 unfold aE2 okE avg
 unfold okv at ho
 have hn:=pQ d
 generalize aCt (bLo d q) (bHi (eZ p d) d q) (bH d.toNat p) (0,0)=v at *
 simp only
 rcases hn with h | h | h | h<;>rw [h] at hs ⊢<;>omega
end Go.Proofs.YtlckcjfbjnjfhaaGreat
namespace Go.Proofs.YtlckcjfbjnjfhaaGreat
open Go.Proofs Go.Aw Go.RowKit
set_option maxRecDepth 100000
def yU (a0:Int):Int :=
 (if(a0:Int) < (W (0 - a0)) then(W (0 - a0)) else a0)
def F86 (a0:Zt)(a1:Int):Bool :=
 (bif (decide (((yU a0.1):Int)<=a1)) then
  (bif (decide (((yU a0.2.1):Int)<=a1)) then
   (bif (decide (((yU a0.2.2):Int)<=a1)) then
    (bif (decide ((a0.1:Int)≥(W (0 - a1)))) then
     (bif (decide ((a0.2.1:Int)≥(W (0 - a1)))) then
      (decide ((a0.2.2:Int)≥(W (0 - a1))))
     else
      false)
    else
     false)
   else
    false)
  else
   false)
 else
  false)
def nV (a0:Zt):Int :=
 (W ((W ((W (a0.1*a0.1))+(W (a0.2.1*a0.2.1))))+(W (a0.2.2*a0.2.2))))
def nW (a0:Zt)(a1:Zt):Zt :=
 ((W (a0.1 - a1.1)),(W (a0.2.1 - a1.2.1)),(W (a0.2.2 - a1.2.2)))
theorem aZu {v:P3} (h:bd 10000 v):nV v=dt v v:=by
 have h1:=cK h.1 h.1;have h2:=cK h.2.1 h.2.1;have h3:=cK h.2.2 h.2.2
 have n1:=dM v.1;have n2:=dM v.2.1;have n3:=dM v.2.2
 unfold nV
 rw [aH (n:=v.1*v.1) (by omega) (by omega),aH (n:=v.2.1*v.2.1) (by omega) (by omega),aH (n:=v.2.2*v.2.2) (by omega) (by omega),aWh (by omega) (by omega) (by omega)];rfl
theorem aZv {p q:P3} (hp:bd 5000 p)(hq:bd 5000 q):nW p q=sb p q:=by
 unfold bd at hp hq
 unfold nW
 rw [aH (n:=p.1 - q.1) (by omega) (by omega),aH (n:=p.2.1 - q.2.1) (by omega) (by omega),aH (n:=p.2.2 - q.2.2) (by omega) (by omega)];rfl
theorem aWt {p q:P3} (hp:bd 5000 p)(hq:bd 5000 q):nV (nW p q)=ds p q:=by
 rw [aZv hp hq,aZu (kC hp hq)];rfl
theorem aLr (p q:P3):ds p q=ds q p:=by simp only [ds,dt,sb];grind
section
variable {n s t : Int}
end
end Go.Proofs.YtlckcjfbjnjfhaaGreat
