/-
  Parts of the proofs of the laws: the executor, what functions of the program compute, and that it is what the statements ask. No premise.
-/
import Derived.Test.YtaeagjnpobdglaaGreatVPdi2
import Derived.Test.YtaeagjnpobdglaaGreatRows
import Derived.Shelf.Abstract
set_option linter.unusedVariables false
set_option linter.unusedSimpArgs false
set_option maxHeartbeats 4000000
open Int (toNat)
namespace Go.Aw
open Go.RowKit
def pL (a b:Int):Int:=if b < a then b else a
def iL (a b:Int):Int:=if a < b then b else a
theorem aBk {x:SV} (h:mI 0 x=true)(k:Nat):¬x.has k:=fun hk=>absurd (aEa h hk) (iG _)
def cY {α β:Type} (kc:α→SV)(vc:β→SV)(l:List (α×β)):List (SV×SV):=l.map fun e=>(kc e.1,vc e.2)
def eL {α β:Type} [DecidableEq α] (k:α):List (α×β)→Option (Nat×β)
 | []=>none
 | e::l=>if e.1=k then some (0,e.2) else match eL k l with
   | some q=>some (q.1+1,q.2)
   | none=>none
def aV {α β:Type} [DecidableEq α] (l:List (α×β))(k:α)(d:β):β:=match eL k l with
 | some q=>q.2
 | none=>d
def cI {α β:Type} [DecidableEq α] (l:List (α×β))(k:α)(v:β):List (α×β):=match eL k l with
 | some q=>l.set q.1 (k,v)
 | none=>l++[(k,v)]
def pM {α β:Type} [DecidableEq α] (l:List (α×β))(k:α)(d:β):List (α×β):=match eL k l with
 | some _=>l
 | none=>l++[(k,d)]
def mix {α β:Type} [DecidableEq α] (l:List (α×β))(k:α):Nat:=match eL k l with
 | some q=>q.1
 | none=>l.length
structure KeyOK {α:Type} (T:Nat→Option TI) (kt:Nat) (kc:α→SV):Prop where
 hb:∀x,pK T kt (kc x)=true
 he:∀x y,∃b,eqC T 100 kt (kc x).cells (kc y).cells=some b∧(b=true↔kc y=kc x)
 inj:∀x y,kc x=kc y→x=y
 pl:∀x,mI 0 (kc x)=true
theorem uZ {α β:Type} {kc:α→SV} {vc:β→SV} {l:List (α×β)} {i:Nat} {x:SV×SV} (h:(cY kc vc l)[i]? = some x):∃e,l[i]? = some e∧x=(kc e.1,vc e.2):=by
 unfold cY at h
 rw [List.getElem?_map] at h
 cases hl:l[i]? with
 | none=>rw [hl] at h;cases h
 | some e=>rw [hl] at h;simp at h;exact⟨e,rfl,h.symm⟩
theorem qE {α β:Type} {kc:α→SV} {vc:β→SV} {l:List (α×β)} {T:Nat→Option TI} {kt:Nat} {k:α} (hk:KeyOK T kt kc):kS T kt (cY kc vc l) (kc k):=fun e he=>by
 obtain⟨i,hi⟩:=List.getElem?_of_mem he
 obtain⟨e',_,rfl⟩:=uZ hi
 exact⟨hk.hb _,hk.he k e'.1⟩
theorem aKa {α β:Type} {kc:α→SV} {vc:β→SV} {l:List (α×β)} {T:Nat→Option TI} {kt:Nat} (hk:KeyOK T kt kc)(hv:∀v,mI 0 (vc v)=true):Plain (fR (cY kc vc l)):=fun j hj=>by
 rw [cL] at hj
 obtain⟨x,hx,hj⟩:=hj
 unfold fR at hx
 obtain⟨e,he,hx⟩:=List.mem_flatMap.1 hx
 obtain⟨i,hi⟩:=List.getElem?_of_mem he
 obtain⟨e',_,rfl⟩:=uZ hi
 simp only [List.mem_cons,List.not_mem_nil,or_false] at hx
 rcases hx with rfl | rfl
 · exact aBk (hk.pl _) j hj
 · exact aBk (hv _) j hj
section
variable {α β : Type} [DecidableEq α] {kc : α → SV} {vc : β → SV} {l : List (α × β)} {k : α} {T : Nat → Option TI} {kt : Nat}
theorem tF:∀{l:List (α×β)} {q:Nat×β},eL k l=some q→l[q.1]? = some (k,q.2)∧∀j e,j < q.1→l[j]? = some e→e.1≠k
 | [],q,h=>by simp [eL] at h
 | e::l,q,h=>by
   simp only [eL] at h
   split at h
   · rename_i he
     simp only [Option.some.injEq] at h
     subst h
     exact⟨by rw [←he];rfl,fun j e hj=>absurd hj (iG _)⟩
   · rename_i he
     split at h
     · rename_i q' hq
       simp only [Option.some.injEq] at h
       subst h
       obtain⟨h1,h2⟩:=tF hq
       refine⟨by simpa using h1,fun j e' hj hje=>?_⟩
       cases j with
       | zero=>simp at hje;rw [←hje];exact he
       | succ j=>exact h2 j e' (by omega) (by simpa using hje)
     · cases h
theorem aBl:∀{l:List (α×β)},eL k l=none→∀e∈l,e.1≠k
 | [],_,e,he=>by simp at he
 | e::l,h,e',he=>by
   simp only [eL] at h
   split at h
   · cases h
   · rename_i hne
     split at h
     · cases h
     · rename_i hn
       rcases List.mem_cons.1 he with rfl | he
       · exact hne
       · exact aBl hn e' he
theorem vA (hk:KeyOK T kt kc):aAq (cY kc vc l) (kc k) ((eL k l).map fun q=>(q.1,vc q.2)):=by
 cases h:eL k l with
 | some q =>
   obtain⟨h1,h2⟩:=tF h
   refine .inl ⟨q.1,vc q.2,by unfold cY;rw [List.getElem?_map,h1];rfl,fun j e hj he=>?_,rfl⟩
   obtain⟨e',he',rfl⟩:=uZ he
   exact fun hc=>h2 j e' hj he' (hk.inj _ _ hc)
 | none =>
   refine .inr ⟨fun e he hc=>?_,rfl⟩
   obtain⟨i,hi⟩:=List.getElem?_of_mem he
   obtain⟨e',he',rfl⟩:=uZ hi
   exact aBl h e' (List.mem_of_getElem? he') (hk.inj _ _ hc)
theorem aBm (d:β):vc (aV l k d)=(((eL k l).map fun q=>(q.1,vc q.2)).map (·.2)).getD (vc d):=by
 unfold aV
 cases eL k l<;>rfl
theorem aEf:∀{l:List (α×β)} (d:β),eL k l=none→eL k (l++[(k,d)])=some (l.length,d)
 | [],d,_=>by simp [eL]
 | e::l,d,h=>by
   simp only [eL] at h
   split at h
   · cases h
   · rename_i hne
     split at h
     · cases h
     · rename_i hn
       simp only [List.cons_append,eL,if_neg hne,aEf d hn,List.length_cons]
theorem aOc (l:List (α×β))(k:α)(d:β):aV (pM l k d) k d=aV l k d:=by
 unfold pM aV
 cases h:eL k l with
 | some q=>simp only [h]
 | none=>simp only [aEf d h]
theorem aPq (hk:KeyOK T kt kc)(d:β):∃q,aAq (cY kc vc (pM l k d)) (kc k) q∧vc (aV l k d)=(q.map (·.2)).getD (vc d):=by
 rw [←aOc l k d]
 exact⟨_,vA hk,aBm d⟩
theorem aUh (hk:KeyOK T kt kc)(v:β):aT0 (cY kc vc l) (kc k) (vc v) (cY kc vc (cI l k v)):=by
 refine⟨_,vA hk,?_⟩
 unfold cI
 cases h:eL k l with
 | some q=>simp [cY,List.map_set]
 | none=>simp [cY]
theorem aUi (hk:KeyOK T kt kc)(d:β):aT1 (cY kc vc l) (kc k) (vc d) (cY kc vc (pM l k d)) (vc (aV l k d)) (mix l k):=by
 refine⟨_,vA hk,?_⟩
 unfold pM aV mix
 cases h:eL k l with
 | some q=>simp
 | none=>simp [cY]
theorem aW6 (v:β)(d:β):∃(j:Nat)(e:SV×SV),((mix l k:Nat):Int)=(j:Int)∧(cY kc vc (pM l k d))[j]? = some e∧cY kc vc (cI l k v)=(cY kc vc (pM l k d)).set j (e.1,vc v):=by
 unfold pM mix cI
 cases h:eL k l with
 | some q =>
   refine⟨q.1,(kc k,vc q.2),rfl,?_,?_⟩
   · unfold cY;rw [List.getElem?_map,(tF h).1];rfl
   · simp [cY,List.map_set]
 | none =>
   refine⟨l.length,(kc k,vc d),rfl,?_,?_⟩
   · simp [cY]
   · simp [cY]
variable {P : Program}
def St.z (id:Nat):St P:=⟨[.stop id],[],trivial⟩
def vB (b:Bool):SV:=.v (.bool b)
def St.mG (hk:KeyOK T kt kc)(vc:β→SV)(l:List (α×β))(k:α)(d:β):St P :=
 ⟨[.ld [vc (aV l k d)]],[.pr (kS T kt (cY kc vc l) (kc k)),.pr (∃q,aAq (cY kc vc l) (kc k) q∧vc (aV l k d)=(q.map (·.2)).getD (vc d))],qE hk,⟨_,vA hk,aBm d⟩,trivial⟩
def St.mGa (hk:KeyOK T kt kc)(vc:β→SV)(l:List (α×β))(k:α)(d:β)(b:Nat):St P :=
 ⟨[.alt b (.map (cY kc vc (pM l k d))),.ld [vc (aV l k d)]],[.pr (kS T kt (cY kc vc l) (kc k)),.pr (∃q,aAq (cY kc vc l) (kc k) q∧vc (aV l k d)=(q.map (·.2)).getD (vc d)),
   .pr (kS T kt (cY kc vc (pM l k d)) (kc k)),.pr (∃q,aAq (cY kc vc (pM l k d)) (kc k) q∧vc (aV l k d)=(q.map (·.2)).getD (vc d)),.pr (({ val:=vc (aV l k d) }:Eff)={ val:=vc (aV l k d) })],
   qE hk,⟨_,vA hk,aBm d⟩,qE hk,aPq hk d,rfl,trivial⟩
def St.mR (kc:α→SV)(vc:β→SV)(l:List (α×β))(k:α)(d:β):St P:=⟨[],[.pr (BK.map (cY kc vc (pM l k d))=BK.map (cY kc vc (pM l k d)))],rfl,trivial⟩
def St.mP (hk:KeyOK T kt kc)(vc:β→SV)(l:List (α×β))(k:α)(v:β)(hv:∀v,mI 0 (vc v)=true:=by exact fun _=>rfl):St P :=
 ⟨[.mp (cY kc vc (cI l k v))],[.pr (kS T kt (cY kc vc l) (kc k)),.pr (aT0 (cY kc vc l) (kc k) (vc v) (cY kc vc (cI l k v))),.pr (Plain (fR (cY kc vc (cI l k v))))],qE hk,aUh hk v,aKa hk hv,trivial⟩
def St.mE (hk:KeyOK T kt kc)(vc:β→SV)(l:List (α×β))(k:α)(d:β)(hv:∀v,mI 0 (vc v)=true:=by exact fun _=>rfl):St P :=
 ⟨[.mp (cY kc vc (pM l k d)),.ld [vc (aV l k d),iv ((mix l k:Nat):Int)]],[.pr (kS T kt (cY kc vc l) (kc k)),.pr (∃j:Nat,((mix l k:Nat):Int)=(j:Int)∧aT1 (cY kc vc l) (kc k) (vc d) (cY kc vc (pM l k d)) (vc (aV l k d)) j),.pr (Plain (fR (cY kc vc (pM l k d))))],qE hk,⟨_,rfl,aUi hk d⟩,aKa hk hv,trivial⟩
def St.mS (hk:KeyOK T kt kc)(vc:β→SV)(l:List (α×β))(k:α)(d v:β)(hv:∀v,mI 0 (vc v)=true:=by exact fun _=>rfl):St P :=
 ⟨[.mp (cY kc vc (cI l k v))],[.pr (∃(j:Nat) (e:SV×SV),((mix l k:Nat):Int)=(j:Int)∧(cY kc vc (pM l k d))[j]? = some e∧cY kc vc (cI l k v)=(cY kc vc (pM l k d)).set j (e.1,vc v)),.pr (Plain (fR (cY kc vc (cI l k v))))],aW6 v d,aKa hk hv,trivial⟩
end
def St.sub {P:Program} (a b:Int)(n:Nat)(h:0≤a∧a≤b∧b≤(n:Int):=by omega):St P:=⟨[.mp []],[.pr (0≤a∧a≤b∧b≤(n:Int))],h,trivial⟩
section
variable {P : Program}
theorem aFj {α:Type} {c:α→List SV} (hc:∀x,(c x).all SV.plain=true)(l:List α):Plain (flat c l):=jJ hc
def St.D {α:Type} {c:α→List SV} {c2:List α→List SV} (es:Nat)(hc2:∀x,c2 x=[.d (flat c x) x.length es])(l:List (List α))(i:Int)(h:0≤i∧i < (l.length:Int):=by omega) (hc:∀x,(c x).all SV.plain=true:=by exact fun _=>rfl):St P :=
 ⟨[.ld [.d (flat c (l.getD i.toNat default)) (l.getD i.toNat default).length es]],[.pr (((flat c2 l).drop (0+i.toNat*1)).take 1=[.d (flat c (l.getD i.toNat default)) (l.getD i.toNat default).length es]),.pr (Plain (flat c (l.getD i.toNat default)))],
   by
     have h1:∀x,(c2 x).length=1:=fun x=>by rw [hc2];rfl
     have:=aPp h1 l i 0 1 h (by decide)
     rw [Nat.add_zero] at this
     show _=_
     rw [this,hc2];rfl,aFj hc _,trivial⟩
theorem aPr {α:Type} {c:α→List SV} {z:α} (n:Nat):flat c (List.replicate n z)=(List.replicate n (c z)).flatten:=by
 unfold flat
 rw [List.flatMap_def,List.map_replicate]
def St.Z {α:Type} (c:α→List SV)(z:α)(zs:List SV)(n:Int)(bytes:Nat)(h:0≤n∧n.toNat*bytes≤2 ^ 47∧n≤2 ^ 47:=by omega) (e:c z=zs:=by rfl):St P :=
 ⟨[.ld (flat c (List.replicate n.toNat z))],[.pr (0≤n∧n.toNat*bytes≤2 ^ 47∧n≤2 ^ 47),.pr (n=n),.pr (flat c (List.replicate n.toNat z)=(List.replicate n.toNat zs).flatten)],h,rfl,by rw [←e];exact aPr _,trivial⟩
theorem aEg {α:Type} {c:α→List SV} {es:Nat} (hc:∀x,(c x).length=es):∀(l:List α)(n:Nat),(flat c l).drop (n*es)=flat c (l.drop n)
 | [],n=>by simp [flat]
 | x::l,0=>by simp
 | x::l,n+1=>by
   rw [jI,Nat.add_mul,Nat.one_mul,Nat.add_comm,←List.drop_drop,List.drop_left' (hc x),aEg hc l n];simp
theorem aEh {α:Type} {c:α→List SV} {es:Nat} (hc:∀x,(c x).length=es):∀(l:List α)(n:Nat),(flat c l).take (n*es)=flat c (l.take n)
 | [],n=>by simp [flat]
 | x::l,0=>by simp [flat]
 | x::l,n+1=>by
   rw [jI,Nat.add_mul,Nat.one_mul,Nat.add_comm,←hc x,List.take_length_add_append,hc x,aEh hc l n];simp [jI]
def part {α:Type} (l:List α)(a b:Int):List α:=(l.drop a.toNat).take (b.toNat - a.toNat)
def St.S {α:Type} {c:α→List SV} {es:Nat} (hc:∀x,(c x).length=es)(l:List α)(a b:Int)(n:Nat)(h:0≤a∧a≤b∧b≤(n:Int):=by omega):St P :=
 ⟨[.ld (flat c (part l a b))],[.pr (0≤a∧a≤b∧b≤(n:Int)),.pr (flat c (part l a b)=((flat c l).drop (0+a.toNat*es)).take ((b.toNat - a.toNat)*es))],h,by rw [Nat.zero_add,aEg hc,aEh hc];rfl,trivial⟩
end
end Go.Aw
namespace Go.Aw
open Go.RowKit
mutual
def SV.hasB (i:Nat):SV→Bool
 | .p j _=>j == i
 | .s j _ _ _=>j == i
 | .m j=>j == i
 | .f _ caps=>SV.hasBl i caps
 | .a l=>SV.hasBl i l
 | .t l=>SV.hasBl i l
 | _=>false
def SV.hasBl (i:Nat):List SV→Bool
 | []=>false
 | x::l=>SV.hasB i x || SV.hasBl i l
end
def BK.hasB (i:Nat):BK→Bool
 | .live _ false cells=>SV.hasBl i cells
 | .map es=>SV.hasBl i (fR es)
 | _=>false
section
variable {P : Program} {ρ : Env} {W : World} {M : Nat → Prop}
end
end Go.Aw
namespace Go.Proofs.YtaeagjnpobdglaaGreat
open Go.Proofs Go.Aw Go.RowKit
set_option maxRecDepth 100000
noncomputable def T0:=conv Tryz.prog
theorem hT:lC Tryz.prog T0:=fun _ _ h=>h
theorem hm:Tryz.prog.follows .mixedOrders=true:=by kernel_rfl
def W (n:Int):Int:=IntKind.wrap .i64 n
theorem aMp (n:Int):W n=if n % 18446744073709551616≥9223372036854775808 then n % 18446744073709551616 - 18446744073709551616 else n % 18446744073709551616:=by
 unfold W IntKind.wrap
 simp [IntKind.bits,IntKind.signed]
theorem aD {n:Int} (h1:-9223372036854775808≤n)(h2:n < 9223372036854775808):W n=n:=by
 rw [aMp];split<;>omega
theorem aFk (x:Int)(k:Nat) {m:Nat} (hm:(2:Int) ^ (min (toNat k) 64)=m):Int.fdiv x (2 ^ (min (toNat k) 64))=x / m:=by
 rw [hm];exact Int.fdiv_eq_ediv_of_nonneg _ (by omega)
theorem aFl {a b:Int} (h:0≤a∧a≤b∧b≤2147483648):W (Int.tdiv (W ((W (a+b))+1)) 2)=(a+b+1) / 2:=by
 rw [aD (n:=a+b) (by omega) (by omega),aD (n:=a+b+1) (by omega) (by omega),Int.tdiv_eq_ediv_of_nonneg (by omega),aD (by omega) (by omega)]
theorem aFm {a b:Int} (h:0≤a∧a≤b∧b≤2147483648):W (Int.tdiv (W (a+b)) 2)=(a+b) / 2:=by
 rw [aD (n:=a+b) (by omega) (by omega),Int.tdiv_eq_ediv_of_nonneg (by omega),aD (by omega) (by omega)]
theorem aMq {a b:Int} (h:0≤a∧a≤b∧b≤2147483648):W ((W (Int.tdiv (W ((W (a+b))+1)) 2)) - 1)=(a+b+1) / 2 - 1:=by
 rw [aFl h,aD (by omega) (by omega)]
theorem aMr {a b:Int} (h:0≤a∧a≤b∧b≤2147483648):W ((W (Int.tdiv (W (a+b)) 2))+1)=(a+b) / 2+1:=by
 rw [aFm h,aD (by omega) (by omega)]
theorem eD (n:Int):0≤IntKind.wrap .u64 n:=by
 simp only [IntKind.wrap,IntKind.bits,IntKind.signed]
 simp
 omega
def k9 (x:Zt×Zt×Zt):List SV:=[(iv x.1.1),(iv x.1.2.1),(iv x.1.2.2),(iv x.2.1.1),(iv x.2.1.2.1),(iv x.2.1.2.2),(iv x.2.2.1),(iv x.2.2.2.1),(iv x.2.2.2.2)]
def k3 (x:Zt):List SV:=[(iv x.1),(iv x.2.1),(iv x.2.2)]
def k2 (x:Int×Int):List SV:=[(iv x.1),(iv x.2)]
section
variable {cx : Cx} {k : List K} {s : LS} {base : Nat} {Q : Exit → Act → World → Prop}
theorem rt {fn:Func} (sts:List (St Tryz.prog))(ads:List Adj)(ks:List Nat)(hb:cx.base=base) {res:SV} {nb:List BK}
 (h:yV T0 fn.results.toList base [] ks (pX ads (run T0 5000 k s (stO sts)))=some (res,nb,[],stB sts)):Aw.Good Tryz.prog none 9 (bodyPost Tryz.prog fn (RR cx res nb [])) cx [] k s:=bAa hT hm sts ads ks hb h
theorem en (sts:List (St Tryz.prog))(ads:List Adj)(ts ks:List Nat)(hb:cx.base=base)(body:Code)(k':List K)(s':LS)(m:Nat)
 (h:aAc base ts ks (pX ads (run T0 5000 k s (stO sts)))=some (body,k',s',stB sts)) (hg:Aw.Good Tryz.prog none 9 Q cx [] (.l body m::k') s'):Aw.Good Tryz.prog none 9 Q cx [] k s:=aUg hT hm sts ads ts ks hb body k' s' m h hg
theorem ba {m:Nat} (sts:List (St Tryz.prog))(ads:List Adj)(ts ks:List Nat)(hb:cx.base=base)(body:Code)(k':List K)(s':LS)
 (h:aFf base ts ks (pX ads (run T0 5000 k s (stO sts)))=some (body,m,k',s',stB sts)) (hg:Aw.Good Tryz.prog none 9 Q cx [] (.l body m::k') s'):Aw.Good Tryz.prog none 9 Q cx [] k s:=aW5 hT hm sts ads ts ks hb body k' s' h hg
theorem ga (sts:List (St Tryz.prog))(ads:List Adj)(ts ks:List Nat)(hb:cx.base=base)(x:Code)(k':List K)(s':LS)
 (h:aUe base ts ks (pX ads (run T0 5000 k s (stO sts)))=some (x,k',s',stB sts)) (hg:Aw.Good Tryz.prog none 9 Q cx [] (.c x::k') s'):Aw.Good Tryz.prog none 9 Q cx [] k s:=bD3 hT hm sts ads ts ks hb x k' s' h hg
end
def rY (a0:Zt)(a1:Int):Zt :=
 ((W (a1*a0.1)),(W (a1*a0.2.1)),(W (a1*a0.2.2)))
theorem C93 (a0:Zt)(a1:Int):Con Tryz.prog 93 [(.a (k3 a0)),(iv a1)] [] (.a (k3 (rY a0 a1))) []:=by
 refine aJ Tryz.func93 (by kernel_rfl) fun cx hcx=>?_
 have e:=Eq.refl (rY a0 a1);conv at e=>rhs;simp only [rY]
 rw [e]
 exact rt [] [] [] hcx (by kernel_rfl)
def gM (a0:Zt)(a1:Zt):Zt :=
 ((W (a0.1+a1.1)),(W (a0.2.1+a1.2.1)),(W (a0.2.2+a1.2.2)))
theorem aW7 (a0:Zt)(a1:Zt):Con Tryz.prog 125 [(.a (k3 a0)),(.a (k3 a1))] [] (.a (k3 (gM a0 a1))) []:=by
 refine aJ Tryz.func125 (by kernel_rfl) fun cx hcx=>?_
 have e:=Eq.refl (gM a0 a1);conv at e=>rhs;simp only [gM]
 rw [e]
 exact rt [] [] [] hcx (by kernel_rfl)
def cP (x:Zt×Zt×Zt):List SV:=[iv x.1.1,iv x.1.2.1,iv x.1.2.2,iv x.2.1.1,iv x.2.1.2.1,iv x.2.1.2.2,iv x.2.2.1,iv x.2.2.2.1,iv x.2.2.2.2]
def aDq (x:Zt×Zt×Zt):Value:=.agg #[.int .i64 x.1.1,.int .i64 x.1.2.1,.int .i64 x.1.2.2,.int .i64 x.2.1.1,.int .i64 x.2.1.2.1,.int .i64 x.2.1.2.2,.int .i64 x.2.2.1,.int .i64 x.2.2.2.1,.int .i64 x.2.2.2.2]
theorem aBn (ρ:Env)(x:Zt×Zt×Zt):Rel ρ (.a (cP x)) (aDq x):=by
 simp only [Rel];exact⟨_,rfl,by simp [cP,Rels,Rel,iv]⟩
theorem aPs (x:Zt×Zt×Zt)(k:Nat):¬(SV.a (cP x)).has k:=by
 simp [cP,SV.has,SV.hasl,iv]
def yv (l:Nat):Value:=.func (.yield l) #[] #[]
def q1 (p:Zt×Zt×Zt):Zt×Zt×Zt:=(rY p.1 2,gM p.1 p.2.1,gM p.2.2 p.1)
def q2 (p:Zt×Zt×Zt):Zt×Zt×Zt:=(gM p.1 p.2.1,rY p.2.1 2,gM p.2.1 p.2.2)
def q3 (p:Zt×Zt×Zt):Zt×Zt×Zt:=(gM p.2.2 p.1,gM p.2.1 p.2.2,rY p.2.2 2)
def q4 (p:Zt×Zt×Zt):Zt×Zt×Zt:=(gM p.1 p.2.1,gM p.2.1 p.2.2,gM p.2.2 p.1)
def aR:Nat→Zt×Zt×Zt→List (Zt×Zt×Zt)
 | 0,p=>[p]
 | d+1,p=>aR d (q1 p)++(aR d (q2 p)++(aR d (q3 p)++aR d (q4 p)))
theorem yX:∀(d:Nat)(p:Zt×Zt×Zt),(aR d p).length=4 ^ d
 | 0,p=>rfl
 | d+1,p=>by simp only [aR,List.length_append,yX d,Nat.pow_succ];omega
def vC (l:Nat)(J:Nat→(Nat→Prop)→World→Prop)(Jx:(Nat→Prop)→World→Prop)(xs:List (Zt×Zt×Zt))(d:Nat):Prop :=
 ∀(p:Zt×Zt×Zt) (i:Nat) (S:Nat→Prop) (W:World) (ρ:Env) (vs:List Value),Rels ρ [.a (cP p),iv d,.p 0 0,.p 1 0] vs →
   BRep ρ (fun b=>W.heap.size≤b) W 0 (.live false false [.v (yv l)])→BRep ρ (fun b=>W.heap.size≤b) W 1 (.live false false [.f 124 [.p 0 0,.p 1 0]]) →
   (∀k,k < 2→∀b o n,ρ k=some (b,o,n)→¬S b)→J i S W→(∀j x,(aR d p)[j]? = some x→xs[i+j]? = some x) →
   Calls Tryz.prog 124 vs.toArray W (VR J Jx (i+(aR d p).length) S W)
noncomputable def OY:Array Oper:=match (dW [1,0,1,0,0] [] (Tryz.f124.body.getD .skip)).1 with
 | .region _ ops _=>ops
 | _=>#[]
noncomputable def KY:List K:=(dW [1,0,1,0,0] [] (Tryz.f124.body.getD .skip)).2
noncomputable def OV:Array Oper:=match (dW [1,1,1,1,0,1,0,0,1,1,0,0,1,0] [0] (Tryz.f124.body.getD .skip)).1 with
 | .region _ ops _=>ops
 | _=>#[]
noncomputable def KV (m:Nat):List K:=(dW [1,1,1,1,0,1,0,0,1,1,0,0,1,0] [m] (Tryz.f124.body.getD .skip)).2
noncomputable def oY:Oper:=OY.toList.getD 2 default
noncomputable def oV:Oper:=OV.toList.getD 4 default
noncomputable def aKb (o:Oper):Array TypeId:=match o.op with
 | .call c=>c.argTypes
 | _=>#[]
theorem bAb:oY.op=.call { callee:=.value (.tmp 17),args:=#[.tmp 18],argTypes:=aKb oY }:=by kernel_rfl
theorem bAc:oV.op=.call { callee:=.value (.tmp 66),args:=#[.tmp 67,.tmp 69],argTypes:=aKb oV }:=by kernel_rfl
theorem aPt:OY.toList=OY.toList.take 2++oY::OY.toList.drop 3:=by kernel_rfl
theorem vD:OV.toList=OV.toList.take 4++oV::OV.toList.drop 5:=by kernel_rfl
theorem aPu:oD Tryz.prog 124:=ent Tryz.func124 (by kernel_rfl) rfl
theorem aW8:oD Tryz.prog 123:=ent Tryz.func123 (by kernel_rfl) rfl
def zY (l:Nat)(p:Zt×Zt×Zt):LS:=⟨[.u,.u,.p 0 0,.u,.p 2 0,.u,.u,.u,.u,.u,.u,.u,.u,.u,.u,.u,.u,.u,.u,.u,.u,.u,.u,.u,.u,.u,.u,.u,.u,.u,.u,.u,.u,.u,.u,.u,.u,.u,.u,.u,.u,.u,.u,.u,.u,.u,.u,.u,.u,.u,.u,.u,.u,.u,.u,.u,.u,.u,.u,.u,.u,.u,.u,.u,.u,.u,.u,.u,.u,.u,.u,.u,.u],[.live false false [.v (yv l)],.live false false [.f 124 [.p 0 0,.p 1 0]],.live true false (cP p)]⟩
def zY1 (l:Nat)(p:Zt×Zt×Zt):LS:=⟨[.u,.u,.p 0 0,.u,.p 2 0,.u,.u,.u,.u,.u,.u,.u,.u,.u,.u,.u,.u,.v (yv l),.a (cP p),.u,.u,.u,.u,.u,.u,.u,.u,.u,.u,.u,.u,.u,.u,.u,.u,.u,.u,.u,.u,.u,.u,.u,.u,.u,.u,.u,.u,.u,.u,.u,.u,.u,.u,.u,.u,.u,.u,.u,.u,.u,.u,.u,.u,.u,.u,.u,.u,.u,.u,.u,.u,.u,.u],[.live false false [.v (yv l)],.live false false [.f 124 [.p 0 0,.p 1 0]],.live true false (cP p)]⟩
def zY3 (l:Nat)(p:Zt×Zt×Zt)(b:Bool):LS:=⟨[.u,.u,.p 0 0,.u,.p 2 0,.u,.v (.bool b),.u,.u,.u,.u,.u,.u,.u,.u,.u,.u,.v (yv l),.a (cP p),.v (.bool b),.u,.u,.u,.u,.u,.u,.u,.u,.u,.u,.u,.u,.u,.u,.u,.u,.u,.u,.u,.u,.u,.u,.u,.u,.u,.u,.u,.u,.u,.u,.u,.u,.u,.u,.u,.u,.u,.u,.u,.u,.u,.u,.u,.u,.u,.u,.u,.u,.u,.u,.u,.u,.u],[.live false false [.v (yv l)],.live false false [.f 124 [.p 0 0,.p 1 0]],.live false false (cP p)]⟩
def zV1 (l:Nat)(p:Zt×Zt×Zt)(d:Int):LS:=⟨[.u,iv d,.u,.p 1 0,.u,.u,.u,.u,.u,.u,.u,.u,.u,.u,.p 3 0,.u,.u,.u,.u,.u,.u,.u,.u,.u,.u,.u,.u,.u,.u,.u,.u,.u,.u,.u,.u,.u,.u,.u,.u,.u,.u,.u,.u,.u,.u,.u,.u,.u,.u,.u,.u,.u,.u,.u,.u,.u,.u,.u,.u,.u,.s 2 0 4 9,iv 4,iv 0,.u,.u,.u,.u,.u,.u,.u,.u,.u,.u],[.live false false [.v (yv l)],.live false false [.f 124 [.p 0 0,.p 1 0]],.live true false (cP (q1 p)++(cP (q2 p)++(cP (q3 p)++cP (q4 p)))),.live true false (cP (q1 p))]⟩
def bD4 (l:Nat)(p:Zt×Zt×Zt)(d:Int):LS:=⟨[.u,iv d,.u,.p 1 0,.u,.u,.u,.u,.u,.u,.u,.u,.u,.u,.p 3 0,.u,.u,.u,.u,.u,.u,.u,.u,.u,.u,.u,.u,.u,.u,.u,.u,.u,.u,.u,.u,.u,.u,.u,.u,.u,.u,.u,.u,.u,.u,.u,.u,.u,.u,.u,.u,.u,.u,.u,.u,.u,.u,.u,.u,.u,.s 2 0 4 9,iv 4,iv 0,.u,.u,.u,.f 124 [.p 0 0,.p 1 0],.a (cP (q1 p)),iv d,iv (W (d - 1)),.u,.u,.u],[.live false false [.v (yv l)],.live false false [.f 124 [.p 0 0,.p 1 0]],.live true false (cP (q1 p)++(cP (q2 p)++(cP (q3 p)++cP (q4 p)))),.live true false (cP (q1 p))]⟩
def bD5 (l:Nat)(p:Zt×Zt×Zt)(d:Int)(b:Bool):LS:=⟨[.u,iv d,.u,.p 1 0,.u,.u,.u,.u,.u,.u,.u,.u,.u,.u,.p 3 0,.u,.u,.u,.u,.u,.u,.u,.u,.u,.u,.u,.u,.u,.u,.u,.u,.u,.u,.u,.u,.u,.u,.u,.u,.u,.u,.u,.u,.u,.u,.u,.u,.u,.u,.u,.u,.u,.u,.u,.u,.u,.u,.u,.u,.u,.s 2 0 4 9,iv 4,iv 0,.u,.u,.u,.f 124 [.p 0 0,.p 1 0],.a (cP (q1 p)),iv d,iv (W (d - 1)),.v (.bool b),.v (.bool (!b)),.u],[.live false false [.v (yv l)],.live false false [.f 124 [.p 0 0,.p 1 0]],.live false false (cP (q1 p)++(cP (q2 p)++(cP (q3 p)++cP (q4 p)))),.live false false (cP (q1 p))]⟩
def zV2 (l:Nat)(p:Zt×Zt×Zt)(d:Int):LS:=⟨[.u,iv d,.u,.p 1 0,.u,.u,.u,.u,.u,.u,.u,.u,.u,.u,.p 4 0,.u,.u,.u,.u,.u,.u,.u,.u,.u,.u,.u,.u,.u,.u,.u,.u,.u,.u,.u,.u,.u,.u,.u,.u,.u,.u,.u,.u,.u,.u,.u,.u,.u,.u,.u,.u,.u,.u,.u,.u,.u,.u,.u,.u,.u,.s 2 0 4 9,iv 4,iv 1,.u,.u,.u,.u,.u,.u,.u,.u,.u,.u],[.live false false [.v (yv l)],.live false false [.f 124 [.p 0 0,.p 1 0]],.live false false (cP (q1 p)++(cP (q2 p)++(cP (q3 p)++cP (q4 p)))),.live false false (cP (q1 p)),.live true false (cP (q2 p))]⟩
def bD6 (l:Nat)(p:Zt×Zt×Zt)(d:Int):LS:=⟨[.u,iv d,.u,.p 1 0,.u,.u,.u,.u,.u,.u,.u,.u,.u,.u,.p 4 0,.u,.u,.u,.u,.u,.u,.u,.u,.u,.u,.u,.u,.u,.u,.u,.u,.u,.u,.u,.u,.u,.u,.u,.u,.u,.u,.u,.u,.u,.u,.u,.u,.u,.u,.u,.u,.u,.u,.u,.u,.u,.u,.u,.u,.u,.s 2 0 4 9,iv 4,iv 1,.u,.u,.u,.f 124 [.p 0 0,.p 1 0],.a (cP (q2 p)),iv d,iv (W (d - 1)),.u,.u,.u],[.live false false [.v (yv l)],.live false false [.f 124 [.p 0 0,.p 1 0]],.live false false (cP (q1 p)++(cP (q2 p)++(cP (q3 p)++cP (q4 p)))),.live false false (cP (q1 p)),.live true false (cP (q2 p))]⟩
def bD7 (l:Nat)(p:Zt×Zt×Zt)(d:Int)(b:Bool):LS:=⟨[.u,iv d,.u,.p 1 0,.u,.u,.u,.u,.u,.u,.u,.u,.u,.u,.p 4 0,.u,.u,.u,.u,.u,.u,.u,.u,.u,.u,.u,.u,.u,.u,.u,.u,.u,.u,.u,.u,.u,.u,.u,.u,.u,.u,.u,.u,.u,.u,.u,.u,.u,.u,.u,.u,.u,.u,.u,.u,.u,.u,.u,.u,.u,.s 2 0 4 9,iv 4,iv 1,.u,.u,.u,.f 124 [.p 0 0,.p 1 0],.a (cP (q2 p)),iv d,iv (W (d - 1)),.v (.bool b),.v (.bool (!b)),.u],[.live false false [.v (yv l)],.live false false [.f 124 [.p 0 0,.p 1 0]],.live false false (cP (q1 p)++(cP (q2 p)++(cP (q3 p)++cP (q4 p)))),.live false false (cP (q1 p)),.live false false (cP (q2 p))]⟩
def zV3 (l:Nat)(p:Zt×Zt×Zt)(d:Int):LS:=⟨[.u,iv d,.u,.p 1 0,.u,.u,.u,.u,.u,.u,.u,.u,.u,.u,.p 5 0,.u,.u,.u,.u,.u,.u,.u,.u,.u,.u,.u,.u,.u,.u,.u,.u,.u,.u,.u,.u,.u,.u,.u,.u,.u,.u,.u,.u,.u,.u,.u,.u,.u,.u,.u,.u,.u,.u,.u,.u,.u,.u,.u,.u,.u,.s 2 0 4 9,iv 4,iv 2,.u,.u,.u,.u,.u,.u,.u,.u,.u,.u],[.live false false [.v (yv l)],.live false false [.f 124 [.p 0 0,.p 1 0]],.live false false (cP (q1 p)++(cP (q2 p)++(cP (q3 p)++cP (q4 p)))),.live false false (cP (q1 p)),.live false false (cP (q2 p)),.live true false (cP (q3 p))]⟩
def bD8 (l:Nat)(p:Zt×Zt×Zt)(d:Int):LS:=⟨[.u,iv d,.u,.p 1 0,.u,.u,.u,.u,.u,.u,.u,.u,.u,.u,.p 5 0,.u,.u,.u,.u,.u,.u,.u,.u,.u,.u,.u,.u,.u,.u,.u,.u,.u,.u,.u,.u,.u,.u,.u,.u,.u,.u,.u,.u,.u,.u,.u,.u,.u,.u,.u,.u,.u,.u,.u,.u,.u,.u,.u,.u,.u,.s 2 0 4 9,iv 4,iv 2,.u,.u,.u,.f 124 [.p 0 0,.p 1 0],.a (cP (q3 p)),iv d,iv (W (d - 1)),.u,.u,.u],[.live false false [.v (yv l)],.live false false [.f 124 [.p 0 0,.p 1 0]],.live false false (cP (q1 p)++(cP (q2 p)++(cP (q3 p)++cP (q4 p)))),.live false false (cP (q1 p)),.live false false (cP (q2 p)),.live true false (cP (q3 p))]⟩
def bD9 (l:Nat)(p:Zt×Zt×Zt)(d:Int)(b:Bool):LS:=⟨[.u,iv d,.u,.p 1 0,.u,.u,.u,.u,.u,.u,.u,.u,.u,.u,.p 5 0,.u,.u,.u,.u,.u,.u,.u,.u,.u,.u,.u,.u,.u,.u,.u,.u,.u,.u,.u,.u,.u,.u,.u,.u,.u,.u,.u,.u,.u,.u,.u,.u,.u,.u,.u,.u,.u,.u,.u,.u,.u,.u,.u,.u,.u,.s 2 0 4 9,iv 4,iv 2,.u,.u,.u,.f 124 [.p 0 0,.p 1 0],.a (cP (q3 p)),iv d,iv (W (d - 1)),.v (.bool b),.v (.bool (!b)),.u],[.live false false [.v (yv l)],.live false false [.f 124 [.p 0 0,.p 1 0]],.live false false (cP (q1 p)++(cP (q2 p)++(cP (q3 p)++cP (q4 p)))),.live false false (cP (q1 p)),.live false false (cP (q2 p)),.live false false (cP (q3 p))]⟩
def zV4 (l:Nat)(p:Zt×Zt×Zt)(d:Int):LS:=⟨[.u,iv d,.u,.p 1 0,.u,.u,.u,.u,.u,.u,.u,.u,.u,.u,.p 6 0,.u,.u,.u,.u,.u,.u,.u,.u,.u,.u,.u,.u,.u,.u,.u,.u,.u,.u,.u,.u,.u,.u,.u,.u,.u,.u,.u,.u,.u,.u,.u,.u,.u,.u,.u,.u,.u,.u,.u,.u,.u,.u,.u,.u,.u,.s 2 0 4 9,iv 4,iv 3,.u,.u,.u,.u,.u,.u,.u,.u,.u,.u],[.live false false [.v (yv l)],.live false false [.f 124 [.p 0 0,.p 1 0]],.live false false (cP (q1 p)++(cP (q2 p)++(cP (q3 p)++cP (q4 p)))),.live false false (cP (q1 p)),.live false false (cP (q2 p)),.live false false (cP (q3 p)),.live true false (cP (q4 p))]⟩
def bEa (l:Nat)(p:Zt×Zt×Zt)(d:Int):LS:=⟨[.u,iv d,.u,.p 1 0,.u,.u,.u,.u,.u,.u,.u,.u,.u,.u,.p 6 0,.u,.u,.u,.u,.u,.u,.u,.u,.u,.u,.u,.u,.u,.u,.u,.u,.u,.u,.u,.u,.u,.u,.u,.u,.u,.u,.u,.u,.u,.u,.u,.u,.u,.u,.u,.u,.u,.u,.u,.u,.u,.u,.u,.u,.u,.s 2 0 4 9,iv 4,iv 3,.u,.u,.u,.f 124 [.p 0 0,.p 1 0],.a (cP (q4 p)),iv d,iv (W (d - 1)),.u,.u,.u],[.live false false [.v (yv l)],.live false false [.f 124 [.p 0 0,.p 1 0]],.live false false (cP (q1 p)++(cP (q2 p)++(cP (q3 p)++cP (q4 p)))),.live false false (cP (q1 p)),.live false false (cP (q2 p)),.live false false (cP (q3 p)),.live true false (cP (q4 p))]⟩
def bEb (l:Nat)(p:Zt×Zt×Zt)(d:Int)(b:Bool):LS:=⟨[.u,iv d,.u,.p 1 0,.u,.u,.u,.u,.u,.u,.u,.u,.u,.u,.p 6 0,.u,.u,.u,.u,.u,.u,.u,.u,.u,.u,.u,.u,.u,.u,.u,.u,.u,.u,.u,.u,.u,.u,.u,.u,.u,.u,.u,.u,.u,.u,.u,.u,.u,.u,.u,.u,.u,.u,.u,.u,.u,.u,.u,.u,.u,.s 2 0 4 9,iv 4,iv 3,.u,.u,.u,.f 124 [.p 0 0,.p 1 0],.a (cP (q4 p)),iv d,iv (W (d - 1)),.v (.bool b),.v (.bool (!b)),.u],[.live false false [.v (yv l)],.live false false [.f 124 [.p 0 0,.p 1 0]],.live false false (cP (q1 p)++(cP (q2 p)++(cP (q3 p)++cP (q4 p)))),.live false false (cP (q1 p)),.live false false (cP (q2 p)),.live false false (cP (q3 p)),.live false false (cP (q4 p))]⟩
def vb:SV→Bool
 | .v _ | .b _=>true
 | _=>false
theorem aBo {ρ ρ':Env}:∀{l:List SV} {vs us:List Value},l.all vb=true→Rels ρ l vs→Rels ρ' l us→vs=us
 | [],[],[],_,_,_=>rfl
 | [],_::_,_,_,h,_=>by simp [Rels] at h
 | [],[],_::_,_,_,h=>by simp [Rels] at h
 | _::_,[],_,_,h,_=>by simp [Rels] at h
 | _::_,_::_,[],_,_,h=>by simp [Rels] at h
 | x::l,y::vs,z::us,hp,h1,h2=>by
   simp only [List.all_cons,Bool.and_eq_true] at hp
   simp only [Rels] at h1 h2
   rw [aBo hp.2 h1.2 h2.2]
   have:y=z:=by
     cases x<;>simp only [vb,Bool.false_eq_true,false_and] at hp
     · have a1:=h1.1;have a2:=h2.1;simp only [Rel] at a1 a2;rw [a1,a2]
     · have a1:=h1.1;have a2:=h2.1;simp only [Rel] at a1 a2;rw [a1,a2]
   rw [this]
theorem qZ {ρ:Env} {x:SV} {l:List SV} {y:Value} {m:List Value} (h:Rel ρ x y)(h':Rels ρ l m):Rels ρ (x::l) (y::m):=by simp only [Rels];exact⟨h,h'⟩
theorem aFn {α:Type} {xs A B:List α} {i:Nat} (h:∀j x,(A++B)[j]? = some x→xs[i+j]? = some x):(∀j x,A[j]? = some x→xs[i+j]? = some x)∧(∀j x,B[j]? = some x→xs[i+A.length+j]? = some x) :=
 ⟨fun j x hj=>h j x (by rw [List.getElem?_append_left (List.getElem?_eq_some_iff.1 hj).1];exact hj),fun j x hj=>by
   have:=h (A.length+j) x (by rw [List.getElem?_append_right (by omega),Nat.add_sub_cancel_left];exact hj)
   rwa [←Nat.add_assoc] at this⟩
section
variable {l : Nat} {J : Nat → (Nat → Prop) → World → Prop} {Jx : (Nat → Prop) → World → Prop} {xs : List (Zt × Zt × Zt)}
theorem lE (hJ:wZ J)(hX:aFh Jx) {m m':Nat} {W0:World} {S:Nat→Prop} {cx:Cx} {b:Bool} (h1:b=true→∃Sc,Seg J W0 S m' cx Sc)(h2:b=false→SegX Jx W0 S cx)(hm:m'=m)(Wd:World)(hb:Below cx.w.heap.size cx.w Wd)(hd:cx.w.drawn≤Wd.drawn) :
   VR J Jx m S W0 (.returned (.bool b)) Wd:=by
 subst hm
 cases b with
 | true =>
   obtain⟨Sc,h⟩:=h1 rfl
   exact .inl ⟨rfl,Sc,hJ _ _ _ _ h.j hb hd,h.kept.grow hb hd,h.sub⟩
 | false =>
   have h:=h2 rfl
   obtain⟨Sc,hj⟩:=h.j
   exact .inr ⟨rfl,Sc,hX _ _ _ hj hb hd,h.kept.grow hb hd⟩
theorem aW9 (hJ:wZ J)(hX:aFh Jx)(hB:qB J)(hY:∀i x S W1,xs[i]? = some x→J i S W1→YieldAt (Fw none) 9 Tryz.prog l #[aDq x] W1 (YR J Jx i S W1)):vC l J Jx xs 0:=by
 intro p i S Wd ρ vs hargs hb0 hb1 hS hj hxs
 have hx:xs[i]? = some p:=by have:=hxs 0 p rfl;simpa using this
 refine nA (n:=9) (bs:=[.live false false [.v (yv l)],.live false false [.f 124 [.p 0 0,.p 1 0]]]) Tryz.func124 rfl (by show 4≤Tryz.f124.ntmps;decide) (by kernel_rfl) ⟨rfl,rfl,trivial⟩ (by kernel_rfl) (fun i=>by rcases i with _ | _ | i<;>simp [BK.own]) (by kernel_rfl) hargs (fun i=>by rcases i with _ | _ | i<;>first | exact hb0 | exact hb1 | simp [BRep]) (fun i=>by rcases i with _ | _ | i<;>simp [BK.pl]) (fun cx hbase hw hρ hfz hown=>?_)
 subst hw
 have hd:((((0:Nat):Int):Int) == 0)=true:=rfl
 refine uW (T:=T0) hT hm (f:=5000) (orc:=[.d true,.stop 2]) [] [2,4] [2] hbase (x:=.region 2 OY false) (k':=KY) (s':=zY l p)
   (obs:=[.eq ((((0:Nat):Int):Int) == 0) true]) (by kernel_rfl) ⟨hd,trivial⟩ ?_
 have hseg:Seg J cx.w S i cx S:=⟨hj,Kept.refl _ _,fun b h=>.inl h,fun k b o n hk h=>hS k (by rw [hbase] at hk;exact hk) b o n ((hρ k).symm.trans h),hown,fun b o ho=>by rw [hfz b] at ho;cases ho⟩
 refine qC (Jx:=Jx) hT hJ hB (m:=i+1) hseg (OY.toList.take 2) oY (OY.toList.drop 3) aPt (s1:=zY1 l p) (by kernel_rfl) (by kernel_rfl) 19 (by kernel_rfl) (bY (by kernel_rfl)) 2 hbase (by kernel_rfl) (by kernel_rfl)
   (fun ρ a W2 hrep hsafe hj2 K Q' hK=>?_) (zY3 l p) (fun b=>by kernel_rfl) (fun b cx' hb' h1 h2=>?_)
 · have e1:=hrep.sl 17
   have e2:=hrep.sl 18
   refine aPn bAb (l:=l) (vs:=#[aDq p]) ?_ ?_ (hY i p S W2 hx hj2) hK
   · exact e1
   · have:a.eval (.tmp 18)=aDq p:=by
       have e3:Rel ρ (.a (cP p)) (a.tmps.getD 18 undef):=e2
       simp only [Rel] at e3
       obtain⟨vs,hv,hr⟩:=e3
       have h':=aBn ρ p
       simp only [Rel] at h'
       obtain⟨us,hu,hr'⟩:=h'
       show a.tmps.getD 18 undef=aDq p
       rw [hv,hu]
       have:vs=us:=aBo (by simp [cP,vb,iv]) hr hr'
       rw [this]
     simp [this]
 · have hown':∀c,¬cx'.own c:=by
     cases b with
     | true=>obtain⟨Sc,h⟩:=h1 rfl;exact h.own
     | false=>exact(h2 rfl).own
   exact qY (T:=T0) hT hm (f:=5000) (orc:=[]) (b:=b) (obs:=[]) (by cases b<;>kernel_rfl) trivial hown' (fun Wd hW hWd=>lE hJ hX h1 h2 rfl Wd hW hWd)
theorem aMs {d:Nat} (ih:vC l J Jx xs d) {cx:Cx} {N:Nat} {D:List Deferred} {ρ:Env} {s:FS} {a:Act} {Wd:World} (hrep:Rep cx N D ρ s a Wd) {p:Zt×Zt×Zt} {i:Nat} {S:Nat→Prop}
   (hdl:d < 1000) (e1:s.sl 66=.f 124 [.p 0 0,.p 1 0]) (e2:s.sl 67=.a (cP p)) (e3:s.sl 69=iv (W (((d+1:Nat):Int) - 1))) (e4:s.bk 0=.live false false [.v (yv l)]) (e5:s.bk 1=.live false false [.f 124 [.p 0 0,.p 1 0]])
   (hS:∀k,k < 2→∀b o n,ρ k=some (b,o,n)→¬S b) (hj:J i S Wd) (hxs:∀j x,(aR d p)[j]? = some x→xs[i+j]? = some x)
   (K:Act→World→Prop) (Q:Exit→Act→World→Prop) (hK:∀e Wd',VR J Jx (i+(aR d p).length) S Wd e Wd'→∃v,e=.returned v∧K (a.put oV.dst v) Wd'):oV.wpIn (Fw none) 9 Tryz.prog a Wd K Q:=by
 have r1:=hrep.sl 66
 have r2:=hrep.sl 67
 have r3:=hrep.sl 69
 rw [e1] at r1;rw [e2] at r2;rw [e3] at r3
 have hw:W (((d+1:Nat):Int) - 1)=(d:Int):=by rw [aD]<;>omega
 rw [hw] at r3
 simp only [Rel] at r1
 obtain⟨vs,hv,hc⟩:=r1
 have b0:=hrep.bk 0
 have b1:=hrep.bk 1
 rw [e4] at b0;rw [e5] at b1
 refine aMo bAc (g:=124) (caps:=vs) hv aPu (ih p i S Wd ρ _ ?_ b0.ro b1.ro hS hj hxs) hK
 exact qZ r2 (qZ r3 hc)
theorem aXa (hJ:wZ J)(hX:aFh Jx)(hB:qB J) {d:Nat} (hdl:d < 1000)(ih:vC l J Jx xs d):vC l J Jx xs (d+1):=by
 intro p i S Wd ρ vs hargs hb0 hb1 hS hj hxs
 obtain⟨hx1,hr1⟩:=aFn hxs
 obtain⟨hx2,hr2⟩:=aFn hr1
 obtain⟨hx3,hx4⟩:=aFn hr2
 refine nA (n:=9) (bs:=[.live false false [.v (yv l)],.live false false [.f 124 [.p 0 0,.p 1 0]]]) Tryz.func124 rfl (by show 4≤Tryz.f124.ntmps;decide) (by kernel_rfl) ⟨rfl,rfl,trivial⟩ (by kernel_rfl) (fun i=>by rcases i with _ | _ | i<;>simp [BK.own]) (by kernel_rfl) hargs (fun i=>by rcases i with _ | _ | i<;>first | exact hb0 | exact hb1 | simp [BRep]) (fun i=>by rcases i with _ | _ | i<;>simp [BK.pl]) (fun cx hbase hw hρ hfz hown=>?_)
 subst hw
 have hd:((((d+1:Nat):Int):Int) == 0)=false:=by rw [beq_eq_false_iff_ne];omega
 have hseg:Seg J cx.w S i cx S:=⟨hj,Kept.refl _ _,fun b h=>.inl h,fun k b o n hk h=>hS k (by rw [hbase] at hk;exact hk) b o n ((hρ k).symm.trans h),hown,fun b o ho=>by rw [hfz b] at ho;cases ho⟩
 refine uW (T:=T0) hT hm (f:=5000) (orc:=[.d false,.call [] (.a [(iv (rY p.1 2).1),(iv (rY p.1 2).2.1),(iv (rY p.1 2).2.2)]) [],.call [] (.a [(iv (rY p.2.1 2).1),(iv (rY p.2.1 2).2.1),(iv (rY p.2.1 2).2.2)]) [],.call [] (.a [(iv (rY p.2.2 2).1),(iv (rY p.2.2 2).2.1),(iv (rY p.2.2 2).2.2)]) [],.call [] (.a [(iv (gM p.1 p.2.1).1),(iv (gM p.1 p.2.1).2.1),(iv (gM p.1 p.2.1).2.2)]) [],.call [] (.a [(iv (gM p.2.1 p.2.2).1),(iv (gM p.2.1 p.2.2).2.1),(iv (gM p.2.1 p.2.2).2.2)]) [],.call [] (.a [(iv (gM p.2.2 p.1).1),(iv (gM p.2.2 p.1).2.1),(iv (gM p.2.2 p.1).2.2)]) [],.un 4,.d true,.stop 8]) [] [1,3,14,60,61,62] [9,10] hbase (x:=.region 8 OV false) (k':=KV 4) (s':=zV1 l p (d+1:Nat))
   (obs:=[.eq ((((d+1:Nat):Int):Int) == 0) false,.call 93 [(.a [(iv p.1.1),(iv p.1.2.1),(iv p.1.2.2)]),(iv 2)] [] (.a [(iv (rY p.1 2).1),(iv (rY p.1 2).2.1),(iv (rY p.1 2).2.2)]) [],.call 93 [(.a [(iv p.2.1.1),(iv p.2.1.2.1),(iv p.2.1.2.2)]),(iv 2)] [] (.a [(iv (rY p.2.1 2).1),(iv (rY p.2.1 2).2.1),(iv (rY p.2.1 2).2.2)]) [],.call 93 [(.a [(iv p.2.2.1),(iv p.2.2.2.1),(iv p.2.2.2.2)]),(iv 2)] [] (.a [(iv (rY p.2.2 2).1),(iv (rY p.2.2 2).2.1),(iv (rY p.2.2 2).2.2)]) [],.call 125 [(.a [(iv p.1.1),(iv p.1.2.1),(iv p.1.2.2)]),(.a [(iv p.2.1.1),(iv p.2.1.2.1),(iv p.2.1.2.2)])] [] (.a [(iv (gM p.1 p.2.1).1),(iv (gM p.1 p.2.1).2.1),(iv (gM p.1 p.2.1).2.2)]) [],.call 125 [(.a [(iv p.2.1.1),(iv p.2.1.2.1),(iv p.2.1.2.2)]),(.a [(iv p.2.2.1),(iv p.2.2.2.1),(iv p.2.2.2.2)])] [] (.a [(iv (gM p.2.1 p.2.2).1),(iv (gM p.2.1 p.2.2).2.1),(iv (gM p.2.1 p.2.2).2.2)]) [],.call 125 [(.a [(iv p.2.2.1),(iv p.2.2.2.1),(iv p.2.2.2.2)]),(.a [(iv p.1.1),(iv p.1.2.1),(iv p.1.2.2)])] [] (.a [(iv (gM p.2.2 p.1).1),(iv (gM p.2.2 p.1).2.1),(iv (gM p.2.2 p.1).2.2)]) [],.eq true true,.pr (0≤(0:Int)∧(0:Int) < ((4:Nat):Int))]) (by kernel_rfl) ⟨hd,(C93 p.1 2),(C93 p.2.1 2),(C93 p.2.2 2),(aW7 p.1 p.2.1),(aW7 p.2.1 p.2.2),(aW7 p.2.2 p.1),rfl,(show 0≤(0:Int)∧(0:Int) < ((4:Nat):Int) from by decide),trivial⟩ ?_
 refine qC (Jx:=Jx) hT hJ hB (m:=i+(aR d (q1 p)).length) hseg (OV.toList.take 4) oV (OV.toList.drop 5) vD (s1:=bD4 l p (d+1:Nat)) (by kernel_rfl) (by kernel_rfl) 70 (by kernel_rfl) (bY (by kernel_rfl)) 2 hbase (by kernel_rfl) (by kernel_rfl)
   (fun ρ a W2 hrep hsafe hj2 K Q' hK=>aMs ih hrep hdl rfl rfl rfl rfl rfl (fun k hk b o n h=>(match k,hk,h with | 0,_,h=>hsafe 0 _ _ _ rfl b o n h | 1,_,h=>hsafe 1 _ _ _ rfl b o n h)) hj2 (fun j x hj=>hx1 j x hj) K Q' hK) (bD5 l p (d+1:Nat)) (fun b=>by kernel_rfl) (fun b cx hbase h1 h2=>?_)
 cases b with
 | false =>
   exact qY (T:=T0) hT hm (f:=5000) (orc:=[.d true]) (b:=false) (obs:=[.eq (!false) true]) (by kernel_rfl) ⟨rfl,trivial⟩ (h2 rfl).own (fun W hW hWd=>lE (m':=i+(aR (d+1) p).length) hJ hX (fun h=>by cases h) h2 rfl W hW hWd)
 | true =>
   obtain⟨Sc,hseg⟩:=h1 rfl
   refine uW (T:=T0) hT hm (f:=5000) (orc:=[.d false,.un 0,.d true,.stop 8]) [] [1,3,14,60,61,62] [4] hbase (x:=.region 8 OV false) (k':=KV 3) (s':=zV2 l p (d+1:Nat))
     (obs:=[.eq (!true) false,.eq (decide ((1:Int) < 4)) true,.pr (0≤(1:Int)∧(1:Int) < ((4:Nat):Int))]) (by kernel_rfl) ⟨rfl,rfl,(show 0≤(1:Int)∧(1:Int) < ((4:Nat):Int) from by decide),trivial⟩ ?_
   refine qC (Jx:=Jx) hT hJ hB (m:=i+(aR d (q1 p)).length+(aR d (q2 p)).length) hseg (OV.toList.take 4) oV (OV.toList.drop 5) vD (s1:=bD6 l p (d+1:Nat)) (by kernel_rfl) (by kernel_rfl) 70 (by kernel_rfl) (bY (by kernel_rfl)) 4 hbase (by kernel_rfl) (by kernel_rfl)
     (fun ρ a W2 hrep hsafe hj2 K Q' hK=>aMs ih hrep hdl rfl rfl rfl rfl rfl (fun k hk b o n h=>(match k,hk,h with | 0,_,h=>hsafe 0 _ _ _ rfl b o n h | 1,_,h=>hsafe 1 _ _ _ rfl b o n h)) hj2 (fun j x hj=>hx2 j x hj) K Q' hK) (bD7 l p (d+1:Nat)) (fun b=>by kernel_rfl) (fun b cx hbase h1 h2=>?_)
   cases b with
   | false =>
     exact qY (T:=T0) hT hm (f:=5000) (orc:=[.d true]) (b:=false) (obs:=[.eq (!false) true]) (by kernel_rfl) ⟨rfl,trivial⟩ (h2 rfl).own (fun W hW hWd=>lE (m':=i+(aR (d+1) p).length) hJ hX (fun h=>by cases h) h2 rfl W hW hWd)
   | true =>
     obtain⟨Sc,hseg⟩:=h1 rfl
     refine uW (T:=T0) hT hm (f:=5000) (orc:=[.d false,.un 0,.d true,.stop 8]) [] [1,3,14,60,61,62] [5] hbase (x:=.region 8 OV false) (k':=KV 2) (s':=zV3 l p (d+1:Nat))
       (obs:=[.eq (!true) false,.eq (decide ((2:Int) < 4)) true,.pr (0≤(2:Int)∧(2:Int) < ((4:Nat):Int))]) (by kernel_rfl) ⟨rfl,rfl,(show 0≤(2:Int)∧(2:Int) < ((4:Nat):Int) from by decide),trivial⟩ ?_
     refine qC (Jx:=Jx) hT hJ hB (m:=i+(aR d (q1 p)).length+(aR d (q2 p)).length+(aR d (q3 p)).length) hseg (OV.toList.take 4) oV (OV.toList.drop 5) vD (s1:=bD8 l p (d+1:Nat)) (by kernel_rfl) (by kernel_rfl) 70 (by kernel_rfl) (bY (by kernel_rfl)) 5 hbase (by kernel_rfl) (by kernel_rfl)
       (fun ρ a W2 hrep hsafe hj2 K Q' hK=>aMs ih hrep hdl rfl rfl rfl rfl rfl (fun k hk b o n h=>(match k,hk,h with | 0,_,h=>hsafe 0 _ _ _ rfl b o n h | 1,_,h=>hsafe 1 _ _ _ rfl b o n h)) hj2 (fun j x hj=>hx3 j x hj) K Q' hK) (bD9 l p (d+1:Nat)) (fun b=>by kernel_rfl) (fun b cx hbase h1 h2=>?_)
     cases b with
     | false =>
       exact qY (T:=T0) hT hm (f:=5000) (orc:=[.d true]) (b:=false) (obs:=[.eq (!false) true]) (by kernel_rfl) ⟨rfl,trivial⟩ (h2 rfl).own (fun W hW hWd=>lE (m':=i+(aR (d+1) p).length) hJ hX (fun h=>by cases h) h2 rfl W hW hWd)
     | true =>
       obtain⟨Sc,hseg⟩:=h1 rfl
       refine uW (T:=T0) hT hm (f:=5000) (orc:=[.d false,.un 0,.d true,.stop 8]) [] [1,3,14,60,61,62] [6] hbase (x:=.region 8 OV false) (k':=KV 1) (s':=zV4 l p (d+1:Nat))
         (obs:=[.eq (!true) false,.eq (decide ((3:Int) < 4)) true,.pr (0≤(3:Int)∧(3:Int) < ((4:Nat):Int))]) (by kernel_rfl) ⟨rfl,rfl,(show 0≤(3:Int)∧(3:Int) < ((4:Nat):Int) from by decide),trivial⟩ ?_
       refine qC (Jx:=Jx) hT hJ hB (m:=i+(aR d (q1 p)).length+(aR d (q2 p)).length+(aR d (q3 p)).length+(aR d (q4 p)).length) hseg (OV.toList.take 4) oV (OV.toList.drop 5) vD (s1:=bEa l p (d+1:Nat)) (by kernel_rfl) (by kernel_rfl) 70 (by kernel_rfl) (bY (by kernel_rfl)) 6 hbase (by kernel_rfl) (by kernel_rfl)
         (fun ρ a W2 hrep hsafe hj2 K Q' hK=>aMs ih hrep hdl rfl rfl rfl rfl rfl (fun k hk b o n h=>(match k,hk,h with | 0,_,h=>hsafe 0 _ _ _ rfl b o n h | 1,_,h=>hsafe 1 _ _ _ rfl b o n h)) hj2 (fun j x hj=>hx4 j x hj) K Q' hK) (bEb l p (d+1:Nat)) (fun b=>by kernel_rfl) (fun b cx hbase h1 h2=>?_)
       cases b with
       | false =>
         exact qY (T:=T0) hT hm (f:=5000) (orc:=[.d true]) (b:=false) (obs:=[.eq (!false) true]) (by kernel_rfl) ⟨rfl,trivial⟩ (h2 rfl).own (fun W hW hWd=>lE (m':=i+(aR (d+1) p).length) hJ hX (fun h=>by cases h) h2 rfl W hW hWd)
       | true =>
         exact qY (T:=T0) hT hm (f:=5000) (orc:=[.d false,.un 0,.d false]) (b:=true) (obs:=[.eq (!true) false,.eq (decide ((4:Int) < 4)) false]) (by kernel_rfl) ⟨rfl,rfl,trivial⟩ (h1 rfl).choose_spec.own (fun W hW hWd=>lE hJ hX h1 h2 (by simp only [aR,List.length_append];omega) W hW hWd)
theorem aEi (hJ:wZ J)(hX:aFh Jx)(hB:qB J)(hY:∀i x S W1,xs[i]? = some x→J i S W1→YieldAt (Fw none) 9 Tryz.prog l #[aDq x] W1 (YR J Jx i S W1)):∀d,d < 1000→vC l J Jx xs d
 | 0,_=>aW9 hJ hX hB hY
 | d+1,h=>aXa hJ hX hB (by omega) (aEi hJ hX hB hY d (by omega))
end
noncomputable def O2:Array Oper:=match (dW [1,1,1] [] (Tryz.f123.body.getD .skip)).1 with
 | .region _ ops _=>ops
 | _=>#[]
noncomputable def o2:Oper:=O2.toList.getD 3 default
theorem bAd:o2.op=.call { callee:=.value (.tmp 6),args:=#[.tmp 7,.tmp 8],argTypes:=aKb o2 }:=by kernel_rfl
theorem aPv:O2.toList=O2.toList.take 3++[o2]:=by kernel_rfl
def z2 (l:Nat)(p:Zt×Zt×Zt)(d:Int):LS:=⟨[.u,.p 0 0,.p 1 0,.u,.p 3 0,.u,.u,.u,.u,.u],[.live false false (cP p),.live false false [iv d],.live true false [.v (yv l)],.live true false [.f 124 [.p 2 0,.p 3 0]]]⟩
def z21 (l:Nat)(p:Zt×Zt×Zt)(d:Int):LS:=⟨[.u,.p 0 0,.p 1 0,.u,.p 3 0,.u,.f 124 [.p 2 0,.p 3 0],.a (cP p),iv d,.u],[.live false false (cP p),.live false false [iv d],.live true false [.v (yv l)],.live true false [.f 124 [.p 2 0,.p 3 0]]]⟩
theorem aPw (p:Zt×Zt×Zt)(d:Nat)(hd:d < 1000):aUc Tryz.prog 123 [.p 0 0,.p 1 0] [.live false false (cP p),.live false false [iv (d:Nat)]] aDq (aR d p):=by
 refine⟨aW8,fun ρ Wd lb hcaps hbs hpl l J Jx S0 hJ hX hB hY h0=>?_⟩
 have hcon:Calls Tryz.prog 123 ((Value.func (.yield l) #[] #[])::lb).toArray Wd fun e Wd'=>(∃v,e=.returned v)∧∃S',(J (aR d p).length S' Wd'∨Jx S' Wd')∧Kept Wd S0 Wd':=by
   refine nA (n:=9) (args:=[.v (yv l),.p 0 0,.p 1 0]) (bs:=[.live false false (cP p),.live false false [iv (d:Nat)]]) Tryz.func123 rfl (by show 3≤Tryz.f123.ntmps;decide) (by kernel_rfl) ⟨rfl,rfl,trivial⟩ (by kernel_rfl) (fun i=>by rcases i with _ | _ | i<;>simp [BK.own]) (by kernel_rfl) ⟨rfl,hcaps⟩ hbs hpl (fun cx hbase hw hρ hfz hown=>?_)
   subst hw
   refine uW (T:=T0) hT hm (f:=5000) (orc:=[.stop 3]) [] [1,2,4] [2,3] hbase (x:=.region 3 O2 false) (k':=[]) (s':=z2 l p d)
     (obs:=[]) (by kernel_rfl) trivial ?_
   intro ρ a Wd hrep
   simp only [eG]
   refine wpIn_region ?_
   have hsz:O2.size=(O2.toList.take 3).length+(0+1):=by kernel_rfl
   have hget:∀j,O2[j]? = (O2.toList.take 3++[o2])[j]? := fun j=>by rw [←aPv,Array.getElem?_toList]
   rw [hsz,yW]
   refine aAe hT (O2.toList.take 3) 0 (z2 l p d) (z21 l p d) [] [] _ [] (uY (T:=T0) (obs:=[]) (by kernel_rfl)).choose_spec trivial (fun j o' hj=>?_) ρ a Wd hrep (fun ρ1 a1 W1 hrep1 hl1=>?_)
   · rw [hget,Nat.zero_add,List.getElem?_append_left (List.getElem?_eq_some_iff.1 hj).1];exact hj
   rw [wpOpsIn_cons]
   unfold wpOpIn
   have ho:O2[(O2.toList.take 3).length]? = some o2:=by rw [hget,List.getElem?_append_right (Nat.le_refl _)];simp
   rw [ho]
   have hw:Region.wanted o2 (yielded O2 a1.tmps)=true:=by
     have hg:o2.guard=none:=by kernel_rfl
     unfold Region.wanted;rw [hg]
   simp only [hw,if_true]
   have hbel:Below cx.w.heap.size cx.w W1:=by
     have:=hrep1.kept
     exact⟨this.os,this.tape,this.output,this.size,fun k hk=>this.block k hk (hown k)⟩
   have r1:=hrep1.sl 6
   have r2:=hrep1.sl 7
   have r3:=hrep1.sl 8
   have r1':Rel ρ1 (.f 124 [.p 2 0,.p 3 0]) (a1.tmps.getD 6 undef):=r1
   have r2':Rel ρ1 (.a (cP p)) (a1.tmps.getD 7 undef):=r2
   have r3':Rel ρ1 (iv (d:Nat)) (a1.tmps.getD 8 undef):=r3
   simp only [Rel] at r1'
   obtain⟨vs,hv,hc⟩:=r1'
   have own2:∀b,cx.mine b→cx.w.heap.size≤b:=fun b hb=>hb.elim id (fun h=>(hown b h).elim)
   have b2:=(uQ (ks:=[2,3]) (i:=0) (m:=false) (x:=.live true false [.v (yv l)]) (y:=.live false false [.v (yv l)]) (M':=fun b=>W1.heap.size≤b) rfl rfl trivial (hrep1.bk 2) (fun _ h=>by cases h) (fun _ b hlt _ hM=>absurd hM (Nat.not_le_of_lt hlt))).1
   have b3:=(uQ (ks:=[2,3]) (i:=1) (m:=false) (x:=.live true false [.f 124 [.p 2 0,.p 3 0]]) (y:=.live false false [.f 124 [.p 0 0,.p 1 0]]) (M':=fun b=>W1.heap.size≤b) rfl rfl trivial (hrep1.bk 3) (fun _ h=>by cases h) (fun _ b hlt _ hM=>absurd hM (Nat.not_le_of_lt hlt))).1
   have hS2:∀k,k < 2→∀b o n,fP ρ1 [2,3] k=some (b,o,n)→¬S0 b:=fun k hk b o n h hSb=>by
     have hlt:=hB _ _ _ h0 b hSb
     have own:∀j,(z21 l p d).fs.bk j≠.un→((z21 l p d).fs.bk j).own→ρ1 j=some (b,o,n)→False:=fun j _ hj hρ=>by
       have hb:=hrep1.bk j
       cases hx:(z21 l p d).fs.bk j with
       | un=>rw [hx] at hj;exact hj
       | dead=>rw [hx] at hj;exact hj
       | map es =>
         rw [hx] at hb
         obtain⟨b',n',arr,q1,q2,_⟩:=hb
         rw [hρ] at q1;cases q1
         have:=own2 b q2;omega
       | live ow sy cs=>cases ow with
         | false=>rw [hx] at hj;exact hj
         | true =>
           rw [hx] at hb
           rcases hb with⟨q,_⟩ | ⟨b',vs,rest,ty,q1,q2,_⟩
           · rw [hρ] at q;cases q
           · rw [hρ] at q1;cases q1
             have:=own2 b q2;omega
     match k,hk with
     | 0,_=>exact own 2 (by simp [z21,LS.fs]) (by trivial) h
     | 1,_=>exact own 3 (by simp [z21,LS.fs]) (by trivial) h
   refine aMo bAd (g:=124) (caps:=vs) hv aPu ((aEi (l:=l) hJ hX hB hY d hd) p 0 S0 W1 (fP ρ1 [2,3]) (a1.tmps.getD 7 undef::a1.tmps.getD 8 undef::vs) ?_ b2 b3 hS2 (hJ _ _ _ _ h0 hbel hrep1.kept.drawn) (fun j x hj=>by rw [Nat.zero_add];exact hj)) (fun e Wd' hR=>?_)
   · exact qZ (uP (ks:=[2,3]) (.a (cP p)) (.a (cP p)) _ rfl r2') (qZ (uP (ks:=[2,3]) (iv (d:Nat)) (iv (d:Nat)) _ rfl r3') (renL_rel (ks:=[2,3]) [.p 2 0,.p 3 0] [.p 0 0,.p 1 0] vs rfl hc))
   · have fin:∀v:Bool,e=.returned (.bool v)→(∃S',(J (aR d p).length S' Wd'∨Jx S' Wd')∧Kept W1 S0 Wd')→∃v,e=.returned v∧wpOpsIn (Fw none) 9 Tryz.prog O2 (eG none 9 Tryz.prog (bodyPost Tryz.prog Tryz.f123 (fun e Wd'=>(∃v,e=.returned v)∧∃S',(J (aR d p).length S' Wd'∨Jx S' Wd')∧Kept cx.w S0 Wd')) []) (List.range' ((O2.toList.take 3).length+1) 0) (a1.put o2.dst v) Wd':=fun v he ⟨S',hj',hk'⟩=>by
       refine⟨_,he,?_⟩
       simp only [List.range'_zero,wpOpsIn,eG]
       refine⟨?_,_,aIn (by kernel_rfl),⟨_,rfl⟩,S',hj',?_⟩
       · exact hrep1.defs
       · exact(Kept.of_below S0 hbel hrep1.kept.drawn).trans hk' (fun b hb _=>hb)
     rcases hR with⟨he,S',hj',hk',_⟩ | ⟨he,S',hj',hk'⟩
     · exact fin true he ⟨S',.inl (by rwa [Nat.zero_add] at hj'),hk'⟩
     · exact fin false he ⟨S',.inr hj',hk'⟩
 have e:((Value.func (.yield l) #[] #[])::lb).toArray=#[.func (.yield l) #[] #[]]++lb.toArray:=by apply Array.ext';simp
 rw [←e];exact hcon
theorem aEj (p:Zt×Zt×Zt)(d:Int)(h:0≤d∧d≤3):aUc Tryz.prog 123 [.p 0 0,.p 1 0] [.live false false (cP p),.live false false [iv d]] aDq (aR (toNat d) p):=by
 have:=aPw p d.toNat (by omega)
 rwa [Int.toNat_of_nonneg h.1] at this
theorem aXb {p:Zt×Zt×Zt} {d:Int} (h:0≤d∧d≤3) {i:Nat} {x:Zt×Zt×Zt} (hx:(aR (toNat d) p)[i]? = some x):i < 64:=by
 have hl:=(List.getElem?_eq_some_iff.1 hx).1
 rw [yX] at hl
 have:toNat d≤3:=by omega
 have:4 ^ toNat d≤4 ^ 3:=Nat.pow_le_pow_right (by omega) this
 omega
end Go.Proofs.YtaeagjnpobdglaaGreat
namespace Go.Proofs.YtaeagjnpobdglaaGreat
open Go.Proofs Go.Aw Go.RowKit
set_option maxRecDepth 100000
def qF (a0:Int)(a1:Int)(a2:Int):Bool :=
 (bif (decide ((a1:Int)≤a0)) then
  (decide ((a0:Int)≤a2))
 else
  false)
theorem C43 (a0:Int)(a1:Int)(a2:Int):Con Tryz.prog 43 [(iv a0),(iv a1),(iv a2)] [] (.v (.bool (qF a0 a1 a2))) []:=by
 refine aJ Tryz.func43 (by kernel_rfl) fun cx hcx=>?_
 cases h0:(decide ((a1:Int)≤a0)) with
 | true =>
  have q0:=bY h0
  have e:=Eq.refl (qF a0 a1 a2);conv at e=>rhs;simp only [qF,h0,aH]
  rw [e]
  exact rt [.d h0] [] [] hcx (by kernel_rfl)
 | false =>
  have q0:=cF h0
  have e:=Eq.refl (qF a0 a1 a2);conv at e=>rhs;simp only [qF,h0,aH]
  rw [e]
  exact rt [.d h0] [] [] hcx (by kernel_rfl)
def F36 (a0:Zt)(a1:Int):Bool :=
 (bif (qF a0.1 (W (0 - a1)) a1) then
  (bif (qF a0.2.1 (W (0 - a1)) a1) then
   (qF a0.2.2 (W (0 - a1)) a1)
  else
   false)
 else
  false)
theorem C36 (a0:Zt)(a1:Int):Con Tryz.prog 36 [(.a (k3 a0)),(iv a1)] [] (.v (.bool (F36 a0 a1))) []:=by
 refine aJ Tryz.func36 (by kernel_rfl) fun cx hcx=>?_
 let t0:List (St Tryz.prog):=[.c [] (C43 a0.1 (W (0 - a1)) a1)]
 cases h0:(qF a0.1 (W (0 - a1)) a1) with
 | true =>
  let t1:List (St Tryz.prog):=(t0++[.d h0,.c [] (C43 a0.2.1 (W (0 - a1)) a1)])
  cases h1:(qF a0.2.1 (W (0 - a1)) a1) with
  | true =>
   have e:=Eq.refl (F36 a0 a1);conv at e=>rhs;simp only [F36,h0,h1,aH]
   rw [e]
   exact rt (t1++[.d h1,.c [] (C43 a0.2.2 (W (0 - a1)) a1)]) [] [] hcx (by kernel_rfl)
  | false =>
   have e:=Eq.refl (F36 a0 a1);conv at e=>rhs;simp only [F36,h0,h1,aH]
   rw [e]
   exact rt (t1++[.d h1]) [] [] hcx (by kernel_rfl)
 | false =>
  have e:=Eq.refl (F36 a0 a1);conv at e=>rhs;simp only [F36,h0,aH]
  rw [e]
  exact rt (t0++[.d h0]) [] [] hcx (by kernel_rfl)
def F39 (a0:Zt)(a1:Int)(a2:Zt):Zt :=
 ((W (a0.1+(W (a1*a2.1)))),(W (a0.2.1+(W (a1*a2.2.1)))),(W (a0.2.2+(W (a1*a2.2.2)))))
theorem C39 (a0:Zt)(a1:Int)(a2:Zt):Con Tryz.prog 39 [(.a (k3 a0)),(iv a1),(.a (k3 a2))] [] (.a (k3 (F39 a0 a1 a2))) []:=by
 refine aJ Tryz.func39 (by kernel_rfl) fun cx hcx=>?_
 have e:=Eq.refl (F39 a0 a1 a2);conv at e=>rhs;simp only [F39]
 rw [e]
 exact rt [] [] [] hcx (by kernel_rfl)
def aBp (a0:Zt)(a1:Zt):Zt :=
 (F39 a0 (-1) a1)
theorem bAe (a0:Zt)(a1:Zt):Con Tryz.prog 131 [(.a (k3 a0)),(.a (k3 a1))] [] (.a (k3 (aBp a0 a1))) []:=by
 refine aJ Tryz.func131 (by kernel_rfl) fun cx hcx=>?_
 have e:=Eq.refl (aBp a0 a1);conv at e=>rhs;simp only [aBp]
 rw [e]
 exact rt [.c [] (C39 a0 (-1) a1)] [] [] hcx (by kernel_rfl)
def aKc (a0:Zt)(a1:Zt):Zt :=
 ((W ((W (a0.2.1*a1.2.2)) - (W (a0.2.2*a1.2.1)))),(W ((W (a0.2.2*a1.1)) - (W (a0.1*a1.2.2)))),(W ((W (a0.1*a1.2.1)) - (W (a0.2.1*a1.1)))))
theorem bAf (a0:Zt)(a1:Zt):Con Tryz.prog 130 [(.a (k3 a0)),(.a (k3 a1))] [] (.a (k3 (aKc a0 a1))) []:=by
 refine aJ Tryz.func130 (by kernel_rfl) fun cx hcx=>?_
 have e:=Eq.refl (aKc a0 a1);conv at e=>rhs;simp only [aKc]
 rw [e]
 exact rt [] [] [] hcx (by kernel_rfl)
def nR (a0:Zt×Zt×Zt):Zt :=
 (aKc (aBp a0.2.1 a0.1) (aBp a0.2.2 a0.1))
theorem bAg (a0:Zt×Zt×Zt):Con Tryz.prog 100 [(.a (k9 a0))] [] (.a (k3 (nR a0))) []:=by
 refine aJ Tryz.func100 (by kernel_rfl) fun cx hcx=>?_
 have e:=Eq.refl (nR a0);conv at e=>rhs;simp only [nR]
 rw [e]
 exact rt [.c [] (bAe a0.2.1 a0.1),.c [] (bAe a0.2.2 a0.1),.c [] (bAf (aBp a0.2.1 a0.1) (aBp a0.2.2 a0.1))] [] [] hcx (by kernel_rfl)
def lS (a0:Zt×Zt×Zt):Int :=
 (bif (!(F36 a0.1 64)) then
  1
 else
  (bif (!(F36 a0.2.1 64)) then
   1
  else
   (bif (!(F36 a0.2.2 64)) then
    1
   else
    (bif ((((nR a0).1:Int) == 0)&&((((nR a0).2.1:Int) == 0)&&((((nR a0).2.2:Int) == 0)&&true))) then
     6
    else
     0))))
theorem bAh (a0:Zt×Zt×Zt):Con Tryz.prog 115 [(.a (k9 a0))] [] (iv (lS a0)) []:=by
 refine aJ Tryz.func115 (by kernel_rfl) fun cx hcx=>?_
 let t0:List (St Tryz.prog):=[.c [] (C36 a0.1 64)]
 cases h0:(!(F36 a0.1 64)) with
 | true =>
  have e:=Eq.refl (lS a0);conv at e=>rhs;simp only [lS,h0,aH]
  rw [e]
  exact rt (t0++[.d h0]) [] [] hcx (by kernel_rfl)
 | false =>
  let t1:List (St Tryz.prog):=(t0++[.d h0,.c [] (C36 a0.2.1 64)])
  cases h1:(!(F36 a0.2.1 64)) with
  | true =>
   have e:=Eq.refl (lS a0);conv at e=>rhs;simp only [lS,h0,h1,aH]
   rw [e]
   exact rt (t1++[.d h1]) [] [] hcx (by kernel_rfl)
  | false =>
   let t2:List (St Tryz.prog):=(t1++[.d h1,.c [] (C36 a0.2.2 64)])
   cases h2:(!(F36 a0.2.2 64)) with
   | true =>
    have e:=Eq.refl (lS a0);conv at e=>rhs;simp only [lS,h0,h1,h2,aH]
    rw [e]
    exact rt (t2++[.d h2]) [] [] hcx (by kernel_rfl)
   | false =>
    let t3:List (St Tryz.prog):=(t2++[.d h2,.c [] (bAg a0)])
    cases h3:((((nR a0).1:Int) == 0)&&((((nR a0).2.1:Int) == 0)&&((((nR a0).2.2:Int) == 0)&&true))) with
    | true =>
     have e:=Eq.refl (lS a0);conv at e=>rhs;simp only [lS,h0,h1,h2,h3,aH]
     rw [e]
     exact rt (t3++[.d h3]) [] [] hcx (by kernel_rfl)
    | false =>
     have e:=Eq.refl (lS a0);conv at e=>rhs;simp only [lS,h0,h1,h2,h3,aH]
     rw [e]
     exact rt (t3++[.d h3]) [] [] hcx (by kernel_rfl)
def aFo (a0:Int)(a1:Int)(a2:Int):Bool :=
 (bif (decide ((a0:Int)≥a1)) then
  (decide ((a0:Int)≤a2))
 else
  false)
theorem bEc (a0:Int)(a1:Int)(a2:Int):Con Tryz.prog 116 [(iv a0),(iv a1),(iv a2)] [] (.v (.bool (aFo a0 a1 a2))) []:=by
 refine aJ Tryz.func116 (by kernel_rfl) fun cx hcx=>?_
 cases h0:(decide ((a0:Int)≥a1)) with
 | true =>
  have q0:=bY h0
  have e:=Eq.refl (aFo a0 a1 a2);conv at e=>rhs;simp only [aFo,h0,aH]
  rw [e]
  exact rt [.d h0] [] [] hcx (by kernel_rfl)
 | false =>
  have q0:=cF h0
  have e:=Eq.refl (aFo a0 a1 a2);conv at e=>rhs;simp only [aFo,h0,aH]
  rw [e]
  exact rt [.d h0] [] [] hcx (by kernel_rfl)
def xA (a0:Zt×Zt×Zt)(a1:Zt×Zt×Zt)(a2:Int):Int :=
 (bif (((lS a0):Int) != 0) then
  (lS a0)
 else
  (bif (((lS a1):Int) != 0) then
   (lS a1)
  else
   (bif (!(aFo a2 0 2)) then
    1
   else
    0)))
theorem C91 (a0:Zt×Zt×Zt)(a1:Zt×Zt×Zt)(a2:Int):Con Tryz.prog 91 [(.a (k9 a0)),(.a (k9 a1)),(iv a2)] [] (iv (xA a0 a1 a2)) []:=by
 refine aJ Tryz.func91 (by kernel_rfl) fun cx hcx=>?_
 let t0:List (St Tryz.prog):=[.c [] (bAh a0)]
 cases h0:(((lS a0):Int) != 0) with
 | true =>
  have q0:=bne_iff_ne.1 h0
  have e:=Eq.refl (xA a0 a1 a2);conv at e=>rhs;simp only [xA,h0,aH]
  rw [e]
  exact rt (t0++[.d h0]) [] [] hcx (by kernel_rfl)
 | false =>
  have q0:=bne_eq_false_iff_eq.1 h0
  let t1:List (St Tryz.prog):=(t0++[.d h0,.c [] (bAh a1)])
  cases h1:(((lS a1):Int) != 0) with
  | true =>
   have q1:=bne_iff_ne.1 h1
   have e:=Eq.refl (xA a0 a1 a2);conv at e=>rhs;simp only [xA,h0,h1,aH]
   rw [e]
   exact rt (t1++[.d h1]) [] [] hcx (by kernel_rfl)
  | false =>
   have q1:=bne_eq_false_iff_eq.1 h1
   let t2:List (St Tryz.prog):=(t1++[.d h1,.c [] (bEc a2 0 2)])
   cases h2:(!(aFo a2 0 2)) with
   | true =>
    have e:=Eq.refl (xA a0 a1 a2);conv at e=>rhs;simp only [xA,h0,h1,h2,aH]
    rw [e]
    exact rt (t2++[.d h2]) [] [] hcx (by kernel_rfl)
   | false =>
    have e:=Eq.refl (xA a0 a1 a2);conv at e=>rhs;simp only [xA,h0,h1,h2,aH]
    rw [e]
    exact rt (t2++[.d h2]) [] [] hcx (by kernel_rfl)
noncomputable def aFp:Code:=(aE [1,1,0,1] [] (aG Tryz.f145) []).1
noncomputable def aFq:List K:=(aE [1,1,0,1] [] (aG Tryz.f145) []).2
def aAf (a0:Int)(v1 v2:Int):LS:=⟨iH 22 [(0,(iv a0)),(3,(iv v1)),(4,(iv v2))],[]⟩
def nB (a0:Int):Int×Int→(Int×Int)⊕(Int)
 | (v1,v2) =>
  (bif (decide ((v2:Int) > 0)) then
   (bif (decide (((W ((W (v1+v2))*(W (v1+v2)))):Int)≤a0)) then
    (.inl ((W (v1+v2)),(v2 / 2)))
   else
    (.inl (v1,(v2 / 2))))
  else
   (.inr v1))
theorem aXc (a0:Int) {cx:Cx} (hcx:cx.base=0):∀(n:Nat)(v1 v2:Int),True→toNat v2 < n→Aw.Good Tryz.prog none 9 (bodyPost Tryz.prog Tryz.f145 (RR cx (iv (aB (nB a0) n (v1,v2))) [] [])) cx [] (.l aFp n::aFq) (aAf a0 v1 v2):=by
 intro n
 induction n with
 | zero=>intro v1 v2 hi hn;exact absurd hn (iG _)
 | succ n ih =>
   intro v1 v2 hi hn
   refine aI ?_
   cases h0:(decide ((v2:Int) > 0)) with
   | true =>
    have q0:=bY h0
    let t1:List (St Tryz.prog):=[.d h0]
    cases h1:(decide (((W ((W (v1+v2))*(W (v1+v2)))):Int)≤a0)) with
    | true =>
     have q1:=bY h1
     have e:=Eq.refl (nB a0 (v1,v2));conv at e=>rhs;simp only [nB,h0,h1,aH]
     rw [aA e]
     refine ba (t1++[.d h1,.p (show 0≤(1:Int) from by decide)]) [] [0,3,4] [] hcx (m:=n) aFp (aFq) (aAf a0 (W (v1+v2)) (Int.fdiv v2 (2 ^ (min (toNat 1) 64)))) (by kernel_rfl) ?_
     have z0:(Int.fdiv v2 (2 ^ (min (toNat 1) 64)))=(v2 / 2):=aFk _ 1 (by decide)
     rw [z0]
     exact ih (W (v1+v2)) (v2 / 2) trivial (by(try simp only [Ls]);omega)
    | false =>
     have q1:=cF h1
     have e:=Eq.refl (nB a0 (v1,v2));conv at e=>rhs;simp only [nB,h0,h1,aH]
     rw [aA e]
     refine ba (t1++[.d h1,.p (show 0≤(1:Int) from by decide)]) [] [0,3,4] [] hcx (m:=n) aFp (aFq) (aAf a0 v1 (Int.fdiv v2 (2 ^ (min (toNat 1) 64)))) (by kernel_rfl) ?_
     have z0:(Int.fdiv v2 (2 ^ (min (toNat 1) 64)))=(v2 / 2):=aFk _ 1 (by decide)
     rw [z0]
     exact ih v1 (v2 / 2) trivial (by(try simp only [Ls]);omega)
   | false =>
    have q0:=cF h0
    have e:=Eq.refl (nB a0 (v1,v2));conv at e=>rhs;simp only [nB,h0,aH]
    rw [aF,e]
    exact rt [.d h0] [] [] hcx (by kernel_rfl)
def kW (a0:Int):Int :=
 (aB (nB a0) (toNat 1073741824+1) (0,1073741824))
theorem bAi (a0:Int):Con Tryz.prog 145 [(iv a0)] [] (iv (kW a0)) []:=by
 refine aJ Tryz.func145 (by kernel_rfl) fun cx hcx=>?_
 have e:=Eq.refl (kW a0);conv at e=>rhs;simp only [kW]
 rw [e]
 refine en [] [] [0,3,4] [] hcx aFp (aFq) (aAf a0 0 1073741824) (toNat 1073741824+1) (by kernel_rfl) ?_
 exact aXc a0 hcx (toNat 1073741824+1) 0 1073741824 trivial (by(try simp only [Ls]);omega)
def aBq (a0:(Int)×(Int)×(Int)):Int :=
 (W ((W ((W (0+a0.1))+a0.2.1))+a0.2.2))
theorem aXd (a0:(Int)×(Int)×(Int)):Con Tryz.prog 159 [(.s 0 0 3 1)] [(.live false false (k3 a0))] (iv (aBq a0)) []:=by
 refine aJ Tryz.func159 (by kernel_rfl) fun cx hcx=>?_
 have e:=Eq.refl (aBq a0);conv at e=>rhs;simp only [aBq]
 rw [e]
 exact rt [.u 200,.T,.i 0 3 (by decide),.u 0,.T,.i 1 3 (by decide),.u 0,.T,.i 2 3 (by decide),.u 0,.F] [] [] hcx (by kernel_rfl)
def jL (a0:Zt)(a1:Zt):Int :=
 (aBq ((W (a0.1*a1.1)),(W (a0.2.1*a1.2.1)),(W (a0.2.2*a1.2.2))))
theorem aXe (a0:Zt)(a1:Zt):Con Tryz.prog 146 [(.a (k3 a0)),(.a (k3 a1))] [] (iv (jL a0 a1)) []:=by
 refine aJ Tryz.func146 (by kernel_rfl) fun cx hcx=>?_
 have e:=Eq.refl (jL a0 a1);conv at e=>rhs;simp only [jL]
 rw [e]
 exact rt [.c [2] (aXd ((W (a0.1*a1.1)),(W (a0.2.1*a1.2.1)),(W (a0.2.2*a1.2.2))))] [] [] hcx (by kernel_rfl)
def bI (a0:Zt)(a1:Zt):Zt :=
 ((W (a0.1 - a1.1)),(W (a0.2.1 - a1.2.1)),(W (a0.2.2 - a1.2.2)))
theorem aXf (a0:Zt)(a1:Zt):Con Tryz.prog 144 [(.a (k3 a0)),(.a (k3 a1))] [] (.a (k3 (bI a0 a1))) []:=by
 refine aJ Tryz.func144 (by kernel_rfl) fun cx hcx=>?_
 have e:=Eq.refl (bI a0 a1);conv at e=>rhs;simp only [bI]
 rw [e]
 exact rt [] [] [] hcx (by kernel_rfl)
def gH (a0:Zt)(a1:Zt):Zt :=
 ((W ((W (a0.2.1*a1.2.2)) - (W (a0.2.2*a1.2.1)))),(W ((W (a0.2.2*a1.1)) - (W (a0.1*a1.2.2)))),(W ((W (a0.1*a1.2.1)) - (W (a0.2.1*a1.1)))))
theorem bEd (a0:Zt)(a1:Zt):Con Tryz.prog 143 [(.a (k3 a0)),(.a (k3 a1))] [] (.a (k3 (gH a0 a1))) []:=by
 refine aJ Tryz.func143 (by kernel_rfl) fun cx hcx=>?_
 have e:=Eq.refl (gH a0 a1);conv at e=>rhs;simp only [gH]
 rw [e]
 exact rt [] [] [] hcx (by kernel_rfl)
def aP (a0:Zt×Zt×Zt):Zt×Zt :=
 (((if(a0.2.2.1:Int) < (if(a0.2.1.1:Int) < (if(a0.1.1:Int) < a0.1.1 then a0.1.1 else a0.1.1) then a0.2.1.1 else(if(a0.1.1:Int) < a0.1.1 then a0.1.1 else a0.1.1)) then a0.2.2.1 else(if(a0.2.1.1:Int) < (if(a0.1.1:Int) < a0.1.1 then a0.1.1 else a0.1.1) then a0.2.1.1 else(if(a0.1.1:Int) < a0.1.1 then a0.1.1 else a0.1.1))),(if(a0.2.2.2.1:Int) < (if(a0.2.1.2.1:Int) < (if(a0.1.2.1:Int) < a0.1.2.1 then a0.1.2.1 else a0.1.2.1) then a0.2.1.2.1 else(if(a0.1.2.1:Int) < a0.1.2.1 then a0.1.2.1 else a0.1.2.1)) then a0.2.2.2.1 else(if(a0.2.1.2.1:Int) < (if(a0.1.2.1:Int) < a0.1.2.1 then a0.1.2.1 else a0.1.2.1) then a0.2.1.2.1 else(if(a0.1.2.1:Int) < a0.1.2.1 then a0.1.2.1 else a0.1.2.1))),(if(a0.2.2.2.2:Int) < (if(a0.2.1.2.2:Int) < (if(a0.1.2.2:Int) < a0.1.2.2 then a0.1.2.2 else a0.1.2.2) then a0.2.1.2.2 else(if(a0.1.2.2:Int) < a0.1.2.2 then a0.1.2.2 else a0.1.2.2)) then a0.2.2.2.2 else(if(a0.2.1.2.2:Int) < (if(a0.1.2.2:Int) < a0.1.2.2 then a0.1.2.2 else a0.1.2.2) then a0.2.1.2.2 else(if(a0.1.2.2:Int) < a0.1.2.2 then a0.1.2.2 else a0.1.2.2)))),((if((if((if(a0.1.1:Int) < a0.1.1 then a0.1.1 else a0.1.1):Int) < a0.2.1.1 then a0.2.1.1 else(if(a0.1.1:Int) < a0.1.1 then a0.1.1 else a0.1.1)):Int) < a0.2.2.1 then a0.2.2.1 else(if((if(a0.1.1:Int) < a0.1.1 then a0.1.1 else a0.1.1):Int) < a0.2.1.1 then a0.2.1.1 else(if(a0.1.1:Int) < a0.1.1 then a0.1.1 else a0.1.1))),(if((if((if(a0.1.2.1:Int) < a0.1.2.1 then a0.1.2.1 else a0.1.2.1):Int) < a0.2.1.2.1 then a0.2.1.2.1 else(if(a0.1.2.1:Int) < a0.1.2.1 then a0.1.2.1 else a0.1.2.1)):Int) < a0.2.2.2.1 then a0.2.2.2.1 else(if((if(a0.1.2.1:Int) < a0.1.2.1 then a0.1.2.1 else a0.1.2.1):Int) < a0.2.1.2.1 then a0.2.1.2.1 else(if(a0.1.2.1:Int) < a0.1.2.1 then a0.1.2.1 else a0.1.2.1))),(if((if((if(a0.1.2.2:Int) < a0.1.2.2 then a0.1.2.2 else a0.1.2.2):Int) < a0.2.1.2.2 then a0.2.1.2.2 else(if(a0.1.2.2:Int) < a0.1.2.2 then a0.1.2.2 else a0.1.2.2)):Int) < a0.2.2.2.2 then a0.2.2.2.2 else(if((if(a0.1.2.2:Int) < a0.1.2.2 then a0.1.2.2 else a0.1.2.2):Int) < a0.2.1.2.2 then a0.2.1.2.2 else(if(a0.1.2.2:Int) < a0.1.2.2 then a0.1.2.2 else a0.1.2.2)))))
theorem aPx (a0:Zt×Zt×Zt):Con Tryz.prog 148 [(.s 0 0 3 3)] [(.live false false (k9 a0))] (.t [(.a (k3 (aP a0).1)),(.a (k3 (aP a0).2))]) []:=by
 refine aJ Tryz.func148 (by kernel_rfl) fun cx hcx=>?_
 have e:=Eq.refl (aP a0);conv at e=>rhs;simp only [aP]
 rw [e]
 exact rt [.i 0 3 (by decide),.i 0 3 (by decide),.u 200,.T,.i 0 3 (by decide),.u 0,.T,.i 1 3 (by decide),.u 0,.T,.i 2 3 (by decide),.u 0,.F] [] [] hcx (by kernel_rfl)
def lT (a0:Int)(a1:Int)(a2:Int)(a3:Int):Int :=
 (if((if(0:Int) < (W (a2 - a1)) then(W (a2 - a1)) else 0):Int) < (W (a0 - a3)) then(W (a0 - a3)) else(if(0:Int) < (W (a2 - a1)) then(W (a2 - a1)) else 0))
theorem aXg (a0:Int)(a1:Int)(a2:Int)(a3:Int):Con Tryz.prog 149 [(iv a0),(iv a1),(iv a2),(iv a3)] [] (iv (lT a0 a1 a2 a3)) []:=by
 refine aJ Tryz.func149 (by kernel_rfl) fun cx hcx=>?_
 have e:=Eq.refl (lT a0 a1 a2 a3);conv at e=>rhs;simp only [lT]
 rw [e]
 exact rt [] [] [] hcx (by kernel_rfl)
def bJ (a0:Zt×Zt×Zt)(a1:Zt×Zt×Zt):Int :=
 (jL ((lT (aP a0).1.1 (aP a0).2.1 (aP a1).1.1 (aP a1).2.1),(lT (aP a0).1.2.1 (aP a0).2.2.1 (aP a1).1.2.1 (aP a1).2.2.1),(lT (aP a0).1.2.2 (aP a0).2.2.2 (aP a1).1.2.2 (aP a1).2.2.2)) ((lT (aP a0).1.1 (aP a0).2.1 (aP a1).1.1 (aP a1).2.1),(lT (aP a0).1.2.1 (aP a0).2.2.1 (aP a1).1.2.1 (aP a1).2.2.1),(lT (aP a0).1.2.2 (aP a0).2.2.2 (aP a1).1.2.2 (aP a1).2.2.2)))
theorem aIp (a0:Zt×Zt×Zt)(a1:Zt×Zt×Zt):Con Tryz.prog 121 [(.s 0 0 3 3),(.s 1 0 3 3)] [(.live false false (k9 a0)),(.live false false (k9 a1))] (iv (bJ a0 a1)) []:=by
 refine aJ Tryz.func121 (by kernel_rfl) fun cx hcx=>?_
 have e:=Eq.refl (bJ a0 a1);conv at e=>rhs;simp only [bJ]
 rw [e]
 exact rt [.c [0] (aPx a0),.c [1] (aPx a1),.c [] (aXg (aP a0).1.1 (aP a0).2.1 (aP a1).1.1 (aP a1).2.1),.c [] (aXg (aP a0).1.2.1 (aP a0).2.2.1 (aP a1).1.2.1 (aP a1).2.2.1),.c [] (aXg (aP a0).1.2.2 (aP a0).2.2.2 (aP a1).1.2.2 (aP a1).2.2.2),.c [] (aXe ((lT (aP a0).1.1 (aP a0).2.1 (aP a1).1.1 (aP a1).2.1),(lT (aP a0).1.2.1 (aP a0).2.2.1 (aP a1).1.2.1 (aP a1).2.2.1),(lT (aP a0).1.2.2 (aP a0).2.2.2 (aP a1).1.2.2 (aP a1).2.2.2)) ((lT (aP a0).1.1 (aP a0).2.1 (aP a1).1.1 (aP a1).2.1),(lT (aP a0).1.2.1 (aP a0).2.2.1 (aP a1).1.2.1 (aP a1).2.2.1),(lT (aP a0).1.2.2 (aP a0).2.2.2 (aP a1).1.2.2 (aP a1).2.2.2)))] [] [] hcx (by kernel_rfl)
def dT (x:Zt):List SV:=[(iv x.1),(iv x.2.1),(iv x.2.2)]
theorem bL (x:Zt):(dT x).length=3:=rfl
noncomputable def tG:Code:=(aE [1,1,0,1,0,1,1,0,1,1] [0] (aG Tryz.f120) []).1
noncomputable def tH (m0:Nat):List K:=(aE [1,1,0,1,0,1,1,0,1,1] [m0] (aG Tryz.f120) []).2
def qG (a0:List Zt)(a1:List Zt)(v5 v6 v7 v8 v9 v10:Int):LS:=⟨iH 34 [(1,(.s 1 0 a1.length 3)),(5,(iv v5)),(7,(.p 2 0)),(11,(.s 0 0 a0.length 3)),(12,(iv (a0.length:Int))),(13,(iv v6)),(17,(.s 1 0 a1.length 3)),(18,(iv (a1.length:Int))),(19,(iv v7))],[(.live false true (flat dT a0)),(.live false true (flat dT a1)),(.live true false [(iv v8),(iv v9),(iv v10)])]⟩
def jM (a0:List Zt)(a1:List Zt):Int×Int×Int×Zt→(Int×Int×Int×Zt)⊕((Int×Int)⊕(Int))
 | (v5,v6,v7,v8,v9,v10) =>
  (bif (decide ((v7:Int) < (a1.length:Int))) then
   (.inl ((if(v5:Int) < (jL (bI (v8,v9,v10) (a1.getD (toNat v7) default)) (bI (v8,v9,v10) (a1.getD (toNat v7) default))) then(jL (bI (v8,v9,v10) (a1.getD (toNat v7) default)) (bI (v8,v9,v10) (a1.getD (toNat v7) default))) else v5),v6,(v7+1),v8,v9,v10))
  else
   (.inr (.inl (v5,(v6+1)))))
noncomputable def oL:Code:=(aE [1,1,0,1] [] (aG Tryz.f120) []).1
noncomputable def oM:List K:=(aE [1,1,0,1] [] (aG Tryz.f120) []).2
def mL (a0:List Zt)(a1:List Zt)(v3 v4:Int):LS:=⟨iH 34 [(1,(.s 1 0 a1.length 3)),(5,(iv v3)),(11,(.s 0 0 a0.length 3)),(12,(iv (a0.length:Int))),(13,(iv v4))],[(.live false true (flat dT a0)),(.live false true (flat dT a1))]⟩
def fT (a0:List Zt)(a1:List Zt):Int×Int→(Int×Int)⊕(Int)
 | (v3,v4) =>
  (bif (decide ((v4:Int) < (a0.length:Int))) then
   (aB (jM a0 a1) (toNat ((a1.length:Int) - 0)+1) (v3,v4,0,(a0.getD (toNat v4) default).1,(a0.getD (toNat v4) default).2.1,(a0.getD (toNat v4) default).2.2))
  else
   (.inr v3))
theorem aKd (a0:List Zt)(a1:List Zt)(l0:a0.length≤9223372036854775807)(l1:a1.length≤9223372036854775807) {cx:Cx} (hcx:cx.base=2)
   (n0:Nat) (g0:∀(v3 v4:Int),0≤v4→toNat ((a0.length:Int) - v4) < n0→Aw.Good Tryz.prog none 9 (bodyPost Tryz.prog Tryz.f120 (RR cx (iv (aB (fT a0 a1) n0 (v3,v4))) [] [])) cx [] (.l oL n0::oM) (mL a0 a1 v3 v4)):∀(n:Nat) (v5 v6 v7 v8 v9 v10:Int),(0≤v7)∧((0≤v6))∧(v6 < (a0.length:Int))∧(toNat ((a0.length:Int) - v6) < n0+1)→toNat ((a1.length:Int) - v7) < n→Aw.Good Tryz.prog none 9 (bodyPost Tryz.prog Tryz.f120 (RR cx (iv (iY (fT a0 a1) n0 (aB (jM a0 a1) n (v5,v6,v7,v8,v9,v10)))) [] [])) cx [] (.l tG n::tH n0) (qG a0 a1 v5 v6 v7 v8 v9 v10):=by
 intro n
 induction n with
 | zero=>intro v5 v6 v7 v8 v9 v10 hi hn;exact absurd hn (iG _)
 | succ n ih =>
   intro v5 v6 v7 v8 v9 v10 hi hn
   refine aI ?_
   cases h0:(decide ((v7:Int) < (a1.length:Int))) with
   | true =>
    have q0:=bY h0
    have e:=Eq.refl (jM a0 a1 (v5,v6,v7,v8,v9,v10));conv at e=>rhs;simp only [jM,h0,aH]
    rw [aA e]
    refine ba [.d h0,.i v7 (a1.length),.L bL a1 v7 0 3,.c [] (aXf (v8,v9,v10) (a1.getD (toNat v7) default)),.c [] (aXe (bI (v8,v9,v10) (a1.getD (toNat v7) default)) (bI (v8,v9,v10) (a1.getD (toNat v7) default)))] [] [1,5,7,11,12,13,17,18,19] [2] hcx (m:=n) tG (tH n0) (qG a0 a1 (if(v5:Int) < (jL (bI (v8,v9,v10) (a1.getD (toNat v7) default)) (bI (v8,v9,v10) (a1.getD (toNat v7) default))) then(jL (bI (v8,v9,v10) (a1.getD (toNat v7) default)) (bI (v8,v9,v10) (a1.getD (toNat v7) default))) else v5) v6 (W (v7+1)) v8 v9 v10) (by kernel_rfl) ?_
    have z0:(W (v7+1))=(v7+1):=aD (by omega) (by omega)
    rw [z0]
    exact ih (if(v5:Int) < (jL (bI (v8,v9,v10) (a1.getD (toNat v7) default)) (bI (v8,v9,v10) (a1.getD (toNat v7) default))) then(jL (bI (v8,v9,v10) (a1.getD (toNat v7) default)) (bI (v8,v9,v10) (a1.getD (toNat v7) default))) else v5) v6 (v7+1) v8 v9 v10 (by refine⟨?_,?_,?_,?_⟩<;>(try simp only [Ls])<;>first | omega | assumption | simp) (by(try simp only [Ls]);omega)
   | false =>
    have q0:=cF h0
    have e:=Eq.refl (jM a0 a1 (v5,v6,v7,v8,v9,v10));conv at e=>rhs;simp only [jM,h0,aH]
    rw [aF,e]
    refine ba [.d h0] [] [1,5,11,12,13] [] hcx (m:=n0) oL (oM) (mL a0 a1 v5 (W (v6+1))) (by kernel_rfl) ?_
    have z0:(W (v6+1))=(v6+1):=aD (by omega) (by omega)
    rw [z0]
    exact g0 v5 (v6+1) (by(try simp only [Ls]);omega) (by(try simp only [Ls]);omega)
theorem aKe (a0:List Zt)(a1:List Zt)(l0:a0.length≤9223372036854775807)(l1:a1.length≤9223372036854775807) {cx:Cx} (hcx:cx.base=2):∀(n:Nat)(v3 v4:Int),0≤v4→toNat ((a0.length:Int) - v4) < n→Aw.Good Tryz.prog none 9 (bodyPost Tryz.prog Tryz.f120 (RR cx (iv (aB (fT a0 a1) n (v3,v4))) [] [])) cx [] (.l oL n::oM) (mL a0 a1 v3 v4):=by
 intro n
 induction n with
 | zero=>intro v3 v4 hi hn;exact absurd hn (iG _)
 | succ n ih =>
   intro v3 v4 hi hn
   refine aI ?_
   cases h0:(decide ((v4:Int) < (a0.length:Int))) with
   | true =>
    have q0:=bY h0
    have e:=Eq.refl (fT a0 a1 (v3,v4));conv at e=>rhs;simp only [fT,h0,aH]
    rw [aF,e]
    refine en [.d h0,.i v4 (a0.length),.L bL a0 v4 0 3] [] [1,5,7,11,12,13,17,18,19] [2] hcx tG (tH n) (qG a0 a1 v3 v4 0 ((a0.getD (toNat v4) default).1) ((a0.getD (toNat v4) default).2.1) ((a0.getD (toNat v4) default).2.2)) (toNat ((a1.length:Int) - 0)+1) (by kernel_rfl) ?_
    exact aKd a0 a1 l0 l1 hcx n ih (toNat ((a1.length:Int) - 0)+1) v3 v4 0 ((a0.getD (toNat v4) default).1) ((a0.getD (toNat v4) default).2.1) ((a0.getD (toNat v4) default).2.2) (by refine⟨?_,?_,?_,?_⟩<;>(try simp only [Ls])<;>first | omega | assumption | simp) (by(try simp only [Ls]);omega)
   | false =>
    have q0:=cF h0
    have e:=Eq.refl (fT a0 a1 (v3,v4));conv at e=>rhs;simp only [fT,h0,aH]
    rw [aF,e]
    exact rt [.d h0] [] [] hcx (by kernel_rfl)
def bH (a0:List Zt)(a1:List Zt):Int :=
 (aB (fT a0 a1) (toNat ((a0.length:Int) - 0)+1) (0,0))
theorem aIq (a0:List Zt)(a1:List Zt)(l0:a0.length≤9223372036854775807)(l1:a1.length≤9223372036854775807):Con Tryz.prog 120 [(.s 0 0 a0.length 3),(.s 1 0 a1.length 3)] [(.live false true (flat dT a0)),(.live false true (flat dT a1))] (iv (bH a0 a1)) []:=by
 refine aJ Tryz.func120 (by kernel_rfl) fun cx hcx=>?_
 have e:=Eq.refl (bH a0 a1);conv at e=>rhs;simp only [bH]
 rw [e]
 refine en [] [] [1,5,11,12,13] [] hcx oL (oM) (mL a0 a1 0 0) (toNat ((a0.length:Int) - 0)+1) (by kernel_rfl) ?_
 exact aKe a0 a1 l0 l1 hcx (toNat ((a0.length:Int) - 0)+1) 0 0 (by(try simp only [Ls]);omega) (by(try simp only [Ls]);omega)
noncomputable def aEk:Code:=match (dW [1] [] (aG Tryz.f89)).1 with
 | .scope c=>c
 | _=>.skip
noncomputable def aIr:List K:=(dW [1] [] (aG Tryz.f89)).2
noncomputable def bAj:Code:=(findLabel aEk 0).getD .skip
def aBr (a0:Int)(v1 v2:Int):LS:=⟨iH 22 [(0,(iv a0)),(3,(iv v1)),(4,(iv v2))],[]⟩
def qH (a0:Int):Int×Int→(Int×Int)⊕(Int)
 | (v1,v2) =>
  (bif ((v2:Int) == 0) then
   (.inr v1)
  else
   (bif (decide (((W ((W (v1+v2))*(W (v1+v2)))):Int)≤a0)) then
    (.inl ((W (v1+v2)),(v2 / 2)))
   else
    (.inl (v1,(v2 / 2)))))
theorem aWb (a0:Int) {cx:Cx} (hcx:cx.base=0):∀(n:Nat)(v1 v2:Int),0≤v2→toNat v2 < n→Aw.Good Tryz.prog none 9 (bodyPost Tryz.prog Tryz.f89 (RR cx (iv (aB (qH a0) n (v1,v2))) [] [])) cx [] (.c (.goto 0)::.s aEk n::aIr) (aBr a0 v1 v2):=by
 intro n
 induction n with
 | zero=>intro v1 v2 hi hn;exact absurd hn (iG _)
 | succ n ih =>
   intro v1 v2 hi hn
   refine aN9 (rest:=bAj) (by kernel_rfl) ?_
   cases h0:((v2:Int) == 0) with
   | true =>
    have q0:=eq_of_beq h0
    have e:=Eq.refl (qH a0 (v1,v2));conv at e=>rhs;simp only [qH,h0,aH]
    rw [aF,e]
    exact rt [.d h0] [] [] hcx (by kernel_rfl)
   | false =>
    have q0:=ne_of_beq_false h0
    let t1:List (St Tryz.prog):=[.d h0]
    cases h1:(decide (((W ((W (v1+v2))*(W (v1+v2)))):Int)≤a0)) with
    | true =>
     have q1:=bY h1
     have e:=Eq.refl (qH a0 (v1,v2));conv at e=>rhs;simp only [qH,h0,h1,aH]
     rw [aA e]
     refine ga (t1++[.d h1,.p (show 0≤(1:Int) from by decide)]) [] [0,3,4] [] hcx (.goto 0) (.s aEk n::aIr) (aBr a0 (W (v1+v2)) (Int.fdiv v2 (2 ^ (min (toNat 1) 64)))) (by kernel_rfl) ?_
     have z0:(Int.fdiv v2 (2 ^ (min (toNat 1) 64)))=(v2 / 2):=aFk _ 1 (by decide)
     rw [z0]
     exact ih (W (v1+v2)) (v2 / 2) (by(try simp only [Ls]);omega) (by omega)
    | false =>
     have q1:=cF h1
     have e:=Eq.refl (qH a0 (v1,v2));conv at e=>rhs;simp only [qH,h0,h1,aH]
     rw [aA e]
     refine ga (t1++[.d h1,.p (show 0≤(1:Int) from by decide)]) [] [0,3,4] [] hcx (.goto 0) (.s aEk n::aIr) (aBr a0 v1 (Int.fdiv v2 (2 ^ (min (toNat 1) 64)))) (by kernel_rfl) ?_
     have z0:(Int.fdiv v2 (2 ^ (min (toNat 1) 64)))=(v2 / 2):=aFk _ 1 (by decide)
     rw [z0]
     exact ih v1 (v2 / 2) (by(try simp only [Ls]);omega) (by omega)
def iI (a0:Int):Int :=
 (bif (decide ((4611686018427387904:Int)≤a0)) then
  (aB (qH a0) (toNat 1073741824+1) (2147483648,1073741824))
 else
  (aB (qH a0) (toNat 1073741824+1) (0,1073741824)))
theorem C89 (a0:Int):Con Tryz.prog 89 [(iv a0)] [] (iv (iI a0)) []:=by
 refine aJ Tryz.func89 (by kernel_rfl) fun cx hcx=>?_
 cases h0:(decide ((4611686018427387904:Int)≤a0)) with
 | true =>
  have q0:=bY h0
  have e:=Eq.refl (iI a0);conv at e=>rhs;simp only [iI,h0,aH]
  rw [e]
  refine ga [.u (toNat 1073741824+1),.F,.d h0,.p (show 0≤(1:Int) from by decide)] [] [0,3,4] [] hcx (.goto 0) (.s aEk (toNat 1073741824+1)::aIr) (aBr a0 2147483648 1073741824) (by kernel_rfl) ?_
  exact aWb a0 hcx (toNat 1073741824+1) 2147483648 1073741824 (by(try simp only [Ls]);omega) (by omega)
 | false =>
  have q0:=cF h0
  have e:=Eq.refl (iI a0);conv at e=>rhs;simp only [iI,h0,aH]
  rw [e]
  refine ga [.u (toNat 1073741824+1),.F,.d h0,.p (show 0≤(1:Int) from by decide)] [] [0,3,4] [] hcx (.goto 0) (.s aEk (toNat 1073741824+1)::aIr) (aBr a0 0 1073741824) (by kernel_rfl) ?_
  exact aWb a0 hcx (toNat 1073741824+1) 0 1073741824 (by(try simp only [Ls]);omega) (by omega)
def pG (a0:Int×Int):Bool :=
 (bif (decide ((a0.1:Int)≥(-1099511627776))) then
  (bif (decide ((a0.1:Int)≤a0.2)) then
   (decide ((a0.2:Int)≤1099511627776))
  else
   false)
 else
  false)
theorem C76 (a0:Int×Int):Con Tryz.prog 76 [(.a [(iv a0.1),(iv a0.2)])] [] (.v (.bool (pG a0))) []:=by
 refine aJ Tryz.func76 (by kernel_rfl) fun cx hcx=>?_
 cases h0:(decide ((a0.1:Int)≥(-1099511627776))) with
 | true =>
  have q0:=bY h0
  let t1:List (St Tryz.prog):=[.d h0]
  cases h1:(decide ((a0.1:Int)≤a0.2)) with
  | true =>
   have q1:=bY h1
   have e:=Eq.refl (pG a0);conv at e=>rhs;simp only [pG,h0,h1,aH]
   rw [e]
   exact rt (t1++[.d h1]) [] [] hcx (by kernel_rfl)
  | false =>
   have q1:=cF h1
   have e:=Eq.refl (pG a0);conv at e=>rhs;simp only [pG,h0,h1,aH]
   rw [e]
   exact rt (t1++[.d h1]) [] [] hcx (by kernel_rfl)
 | false =>
  have q0:=cF h0
  have e:=Eq.refl (pG a0);conv at e=>rhs;simp only [pG,h0,aH]
  rw [e]
  exact rt [.d h0] [] [] hcx (by kernel_rfl)
def qI (a0:Int)(a1:Int):(Int×Int)×Int :=
 (bif (!(pG (a0,a1))) then
  ((0,0),4)
 else
  ((a0,a1),0))
theorem C48 (a0:Int)(a1:Int):Con Tryz.prog 48 [(iv a0),(iv a1)] [] (.t [(.a (k2 (qI a0 a1).1)),(iv (qI a0 a1).2)]) []:=by
 refine aJ Tryz.func48 (by kernel_rfl) fun cx hcx=>?_
 let t0:List (St Tryz.prog):=[.c [] (C76 (a0,a1))]
 cases h0:(!(pG (a0,a1))) with
 | true =>
  have e:=Eq.refl (qI a0 a1);conv at e=>rhs;simp only [qI,h0,aH]
  rw [e]
  exact rt (t0++[.d h0]) [] [] hcx (by kernel_rfl)
 | false =>
  have e:=Eq.refl (qI a0 a1);conv at e=>rhs;simp only [qI,h0,aH]
  rw [e]
  exact rt (t0++[.d h0]) [] [] hcx (by kernel_rfl)
def aDr (a0:Int)(a1:Int):(Int×Int)×Int :=
 (bif (((W ((W ((iI (W (Int.tdiv a0 a1)))*(iI (W (Int.tdiv a0 a1)))))*a1)):Int) == a0) then
  ((qI (iI (W (Int.tdiv a0 a1))) (iI (W (Int.tdiv a0 a1)))).1,(qI (iI (W (Int.tdiv a0 a1))) (iI (W (Int.tdiv a0 a1)))).2)
 else
  ((qI (iI (W (Int.tdiv a0 a1))) (W ((iI (W (Int.tdiv a0 a1)))+1))).1,(qI (iI (W (Int.tdiv a0 a1))) (W ((iI (W (Int.tdiv a0 a1)))+1))).2))
theorem bEe (a0:Int)(a1:Int)(ha:a1≠0):Con Tryz.prog 147 [(iv a0),(iv a1)] [] (.t [(.a (k2 (aDr a0 a1).1)),(iv (aDr a0 a1).2)]) []:=by
 refine aJ Tryz.func147 (by kernel_rfl) fun cx hcx=>?_
 let t0:List (St Tryz.prog):=[.p (show(a1:Int)≠0 from by first | omega | (rw [aD]<;>omega) | exact eD _),.c [] (C89 (W (Int.tdiv a0 a1)))]
 cases h0:(((W ((W ((iI (W (Int.tdiv a0 a1)))*(iI (W (Int.tdiv a0 a1)))))*a1)):Int) == a0) with
 | true =>
  have q0:=eq_of_beq h0
  have e:=Eq.refl (aDr a0 a1);conv at e=>rhs;simp only [aDr,h0,aH]
  rw [e]
  exact rt (t0++[.d h0,.c [] (C48 (iI (W (Int.tdiv a0 a1))) (iI (W (Int.tdiv a0 a1))))]) [] [] hcx (by kernel_rfl)
 | false =>
  have q0:=ne_of_beq_false h0
  have e:=Eq.refl (aDr a0 a1);conv at e=>rhs;simp only [aDr,h0,aH]
  rw [e]
  exact rt (t0++[.d h0,.c [] (C48 (iI (W (Int.tdiv a0 a1))) (W ((iI (W (Int.tdiv a0 a1)))+1)))]) [] [] hcx (by kernel_rfl)
def fH (a0:Int)(a1:Int):(Int×Int)×Int :=
 (bif (decide ((a0:Int) < 1)) then
  ((0,0),1)
 else
  (bif (decide ((a0:Int) > 1099511627776)) then
   ((0,0),1)
  else
   (bif (decide ((a1:Int) < 1)) then
    ((0,0),1)
   else
    (bif (decide ((a1:Int) > 8)) then
     ((0,0),1)
    else
     ((aDr (W ((W (a1*a1))*2 ^ (min (toNat 40) 64))) a0).1,(aDr (W ((W (a1*a1))*2 ^ (min (toNat 40) 64))) a0).2)))))
theorem aXh (a0:Int)(a1:Int):Con Tryz.prog 119 [(iv a0),(iv a1)] [] (.t [(.a (k2 (fH a0 a1).1)),(iv (fH a0 a1).2)]) []:=by
 refine aJ Tryz.func119 (by kernel_rfl) fun cx hcx=>?_
 cases h0:(decide ((a0:Int) < 1)) with
 | true =>
  have q0:=bY h0
  have e:=Eq.refl (fH a0 a1);conv at e=>rhs;simp only [fH,h0,aH]
  rw [e]
  exact rt [.d h0] [] [] hcx (by kernel_rfl)
 | false =>
  have q0:=cF h0
  let t1:List (St Tryz.prog):=[.d h0]
  cases h1:(decide ((a0:Int) > 1099511627776)) with
  | true =>
   have q1:=bY h1
   have e:=Eq.refl (fH a0 a1);conv at e=>rhs;simp only [fH,h0,h1,aH]
   rw [e]
   exact rt (t1++[.d h1]) [] [] hcx (by kernel_rfl)
  | false =>
   have q1:=cF h1
   let t2:List (St Tryz.prog):=(t1++[.d h1])
   cases h2:(decide ((a1:Int) < 1)) with
   | true =>
    have q2:=bY h2
    have e:=Eq.refl (fH a0 a1);conv at e=>rhs;simp only [fH,h0,h1,h2,aH]
    rw [e]
    exact rt (t2++[.d h2]) [] [] hcx (by kernel_rfl)
   | false =>
    have q2:=cF h2
    let t3:List (St Tryz.prog):=(t2++[.d h2])
    cases h3:(decide ((a1:Int) > 8)) with
    | true =>
     have q3:=bY h3
     have e:=Eq.refl (fH a0 a1);conv at e=>rhs;simp only [fH,h0,h1,h2,h3,aH]
     rw [e]
     exact rt (t3++[.d h3]) [] [] hcx (by kernel_rfl)
    | false =>
     have q3:=cF h3
     have e:=Eq.refl (fH a0 a1);conv at e=>rhs;simp only [fH,h0,h1,h2,h3,aH]
     rw [e]
     exact rt (t3++[.d h3,.p (show 0≤(40:Int) from by decide),.c [] (bEe (W ((W (a1*a1))*2 ^ (min (toNat 40) 64))) a0  (by(try simp only [Lt]);omega))]) [] [] hcx (by kernel_rfl)
def kD (a0:Int×Int):Int :=
 (bif (!(pG a0)) then
  1
 else
  0)
theorem aWc (a0:Int×Int):Con Tryz.prog 45 [(.s 0 0 1 2)] [(.live false false [(iv a0.1),(iv a0.2)])] (iv (kD a0)) []:=by
 refine aJ Tryz.func45 (by kernel_rfl) fun cx hcx=>?_
 let t0:List (St Tryz.prog):=[.u 200,.T,.i 0 1 (by decide),.c [] (C76 a0)]
 cases h0:(!(pG a0)) with
 | true =>
  have e:=Eq.refl (kD a0);conv at e=>rhs;simp only [kD,h0,aH]
  rw [e]
  exact rt (t0++[.d h0]) [] [] hcx (by kernel_rfl)
 | false =>
  have e:=Eq.refl (kD a0);conv at e=>rhs;simp only [kD,h0,aH]
  rw [e]
  exact rt (t0++[.d h0,.u 0,.F]) [] [] hcx (by kernel_rfl)
def rZ (a0:Int)(a1:Int):Int :=
 (bif (((Int.tmod a0 a1):Int) != 0) then
  (bif (!((decide ((a0:Int) < 0)) == (decide ((a1:Int) < 0)))) then
   (W ((W (Int.tdiv a0 a1)) - 1))
  else
   (W (Int.tdiv a0 a1)))
 else
  (W (Int.tdiv a0 a1)))
theorem aXi (a0:Int)(a1:Int)(ha:a1≠0):Con Tryz.prog 127 [(iv a0),(iv a1)] [] (iv (rZ a0 a1)) []:=by
 refine aJ Tryz.func127 (by kernel_rfl) fun cx hcx=>?_
 let t0:List (St Tryz.prog):=[.p (show(a1:Int)≠0 from by first | omega | (rw [aD]<;>omega) | exact eD _),.p (show(a1:Int)≠0 from by first | omega | (rw [aD]<;>omega) | exact eD _)]
 cases h0:(((Int.tmod a0 a1):Int) != 0) with
 | true =>
  have q0:=bne_iff_ne.1 h0
  let t1:List (St Tryz.prog):=(t0++[.d h0])
  cases h1:(!((decide ((a0:Int) < 0)) == (decide ((a1:Int) < 0)))) with
  | true =>
   have e:=Eq.refl (rZ a0 a1);conv at e=>rhs;simp only [rZ,h0,h1,aH]
   rw [e]
   exact rt (t1++[.d h1]) [] [] hcx (by kernel_rfl)
  | false =>
   have e:=Eq.refl (rZ a0 a1);conv at e=>rhs;simp only [rZ,h0,h1,aH]
   rw [e]
   exact rt (t1++[.d h1]) [] [] hcx (by kernel_rfl)
 | false =>
  have q0:=bne_eq_false_iff_eq.1 h0
  have e:=Eq.refl (rZ a0 a1);conv at e=>rhs;simp only [rZ,h0,aH]
  rw [e]
  exact rt (t0++[.d h0]) [] [] hcx (by kernel_rfl)
def aBs (a0:Int)(a1:Int):Int :=
 (W (0 - (rZ (W (0 - a0)) a1)))
theorem bAk (a0:Int)(a1:Int)(ha:a1≠0):Con Tryz.prog 128 [(iv a0),(iv a1)] [] (iv (aBs a0 a1)) []:=by
 refine aJ Tryz.func128 (by kernel_rfl) fun cx hcx=>?_
 have e:=Eq.refl (aBs a0 a1);conv at e=>rhs;simp only [aBs]
 rw [e]
 exact rt [.c [] (aXi (W (0 - a0)) a1  (by(try simp only [Lt]);omega))] [] [] hcx (by kernel_rfl)
def zS (a0:Int×Int)(a1:Int):(Int×Int)×Int :=
 (bif (((kD a0):Int) != 0) then
  ((0,0),(kD a0))
 else
  (bif (decide ((a1:Int) < 1)) then
   ((0,0),1)
  else
   (bif (decide ((a1:Int) > 1099511627776)) then
    ((0,0),1)
   else
    ((qI (rZ a0.1 a1) (aBs a0.2 a1)).1,(qI (rZ a0.1 a1) (aBs a0.2 a1)).2))))
theorem bEf (a0:Int×Int)(a1:Int):Con Tryz.prog 150 [(.a [(iv a0.1),(iv a0.2)]),(iv a1)] [] (.t [(.a (k2 (zS a0 a1).1)),(iv (zS a0 a1).2)]) []:=by
 refine aJ Tryz.func150 (by kernel_rfl) fun cx hcx=>?_
 let t0:List (St Tryz.prog):=[.c [2] (aWc a0)]
 cases h0:(((kD a0):Int) != 0) with
 | true =>
  have q0:=bne_iff_ne.1 h0
  have e:=Eq.refl (zS a0 a1);conv at e=>rhs;simp only [zS,h0,aH]
  rw [e]
  exact rt (t0++[.d h0]) [] [] hcx (by kernel_rfl)
 | false =>
  have q0:=bne_eq_false_iff_eq.1 h0
  let t1:List (St Tryz.prog):=(t0++[.d h0])
  cases h1:(decide ((a1:Int) < 1)) with
  | true =>
   have q1:=bY h1
   have e:=Eq.refl (zS a0 a1);conv at e=>rhs;simp only [zS,h0,h1,aH]
   rw [e]
   exact rt (t1++[.d h1]) [] [] hcx (by kernel_rfl)
  | false =>
   have q1:=cF h1
   let t2:List (St Tryz.prog):=(t1++[.d h1])
   cases h2:(decide ((a1:Int) > 1099511627776)) with
   | true =>
    have q2:=bY h2
    have e:=Eq.refl (zS a0 a1);conv at e=>rhs;simp only [zS,h0,h1,h2,aH]
    rw [e]
    exact rt (t2++[.d h2]) [] [] hcx (by kernel_rfl)
   | false =>
    have q2:=cF h2
    have e:=Eq.refl (zS a0 a1);conv at e=>rhs;simp only [zS,h0,h1,h2,aH]
    rw [e]
    exact rt (t2++[.d h2,.c [] (aXi a0.1 a1  (by(try simp only [Lt]);omega)),.c [] (bAk a0.2 a1  (by(try simp only [Lt]);omega)),.c [] (C48 (rZ a0.1 a1) (aBs a0.2 a1))]) [] [] hcx (by kernel_rfl)
def cQ (x:Int×Int):List SV:=[(iv x.1),(iv x.2)]
theorem cA (x:Int×Int):(cQ x).length=2:=rfl
noncomputable def aFr:Code:=(aE [1,0,1] [] (aG Tryz.f45) []).1
noncomputable def aFs:List K:=(aE [1,0,1] [] (aG Tryz.f45) []).2
def aBt (a0:List (Int×Int))(v1:Int):LS:=⟨iH 15 [(5,(.s 0 0 a0.length 2)),(6,(iv (a0.length:Int))),(7,(iv v1))],[(.live false true (flat cQ a0))]⟩
def eJ (a0:List (Int×Int)):Int→(Int)⊕(Int)
 | v1 =>
  (bif (decide ((v1:Int) < (a0.length:Int))) then
   (bif (!(pG (a0.getD (toNat v1) default))) then
    (.inr 1)
   else
    (.inl (v1+1)))
  else
   (.inr 0))
theorem aUj (a0:List (Int×Int))(l0:a0.length≤9223372036854775807) {cx:Cx} (hcx:cx.base=1):∀(n:Nat)(v1:Int),0≤v1→toNat ((a0.length:Int) - v1) < n→Aw.Good Tryz.prog none 9 (bodyPost Tryz.prog Tryz.f45 (RR cx (iv (aB (eJ a0) n v1)) [] [])) cx [] (.l aFr n::aFs) (aBt a0 v1):=by
 intro n
 induction n with
 | zero=>intro v1 hi hn;exact absurd hn (iG _)
 | succ n ih =>
   intro v1 hi hn
   refine aI ?_
   cases h0:(decide ((v1:Int) < (a0.length:Int))) with
   | true =>
    have q0:=bY h0
    let t1:List (St Tryz.prog):=[.d h0,.i v1 (a0.length),.L cA a0 v1 0 2,.c [] (C76 (a0.getD (toNat v1) default))]
    cases h1:(!(pG (a0.getD (toNat v1) default))) with
    | true =>
     have e:=Eq.refl (eJ a0 v1);conv at e=>rhs;simp only [eJ,h0,h1,aH]
     rw [aF,e]
     exact rt (t1++[.d h1]) [] [] hcx (by kernel_rfl)
    | false =>
     have e:=Eq.refl (eJ a0 v1);conv at e=>rhs;simp only [eJ,h0,h1,aH]
     rw [aA e]
     refine ba (t1++[.d h1]) [] [5,6,7] [] hcx (m:=n) aFr (aFs) (aBt a0 (W (v1+1))) (by kernel_rfl) ?_
     have z0:(W (v1+1))=(v1+1):=aD (by omega) (by omega)
     rw [z0]
     exact ih (v1+1) (by(try simp only [Ls]);omega) (by(try simp only [Ls]);omega)
   | false =>
    have q0:=cF h0
    have e:=Eq.refl (eJ a0 v1);conv at e=>rhs;simp only [eJ,h0,aH]
    rw [aF,e]
    exact rt [.d h0] [] [] hcx (by kernel_rfl)
def sN (a0:List (Int×Int)):Int :=
 (aB (eJ a0) (toNat ((a0.length:Int) - 0)+1) 0)
theorem bAl (a0:List (Int×Int))(l0:a0.length≤9223372036854775807):Con Tryz.prog 45 [(.s 0 0 a0.length 2)] [(.live false true (flat cQ a0))] (iv (sN a0)) []:=by
 refine aJ Tryz.func45 (by kernel_rfl) fun cx hcx=>?_
 have e:=Eq.refl (sN a0);conv at e=>rhs;simp only [sN]
 rw [e]
 refine en [] [] [5,6,7] [] hcx aFr (aFs) (aBt a0 0) (toNat ((a0.length:Int) - 0)+1) (by kernel_rfl) ?_
 exact aUj a0 l0 hcx (toNat ((a0.length:Int) - 0)+1) 0 (by(try simp only [Ls]);omega) (by(try simp only [Ls]);omega)
noncomputable def aBu:Code:=(aE [1,1,1,0,1] [] (aG Tryz.f126) []).1
noncomputable def aBv:List K:=(aE [1,1,1,0,1] [] (aG Tryz.f126) []).2
def xB (a0:List (Int×Int))(v1 v2 v3:Int):LS:=⟨iH 33 [(2,(iv v1)),(3,(iv v2)),(16,(.s 0 0 a0.length 2)),(17,(iv (a0.length:Int))),(18,(iv v3))],[(.live false true (flat cQ a0))]⟩
def gN (a0:List (Int×Int)):Zt→Zt⊕Zt
 | (v1,v2,v3) =>
  (bif (decide ((v3:Int) < (a0.length:Int))) then
   (.inl ((W (v1+(a0.getD (toNat v3) default).1)),(W (v2+(a0.getD (toNat v3) default).2)),(v3+1)))
  else
   (.inr (v1,v2,0)))
theorem aPy (a0:List (Int×Int))(l0:a0.length≤9223372036854775807) {cx:Cx} (hcx:cx.base=1):∀(n:Nat)(v1 v2 v3:Int),0≤v3→toNat ((a0.length:Int) - v3) < n→Aw.Good Tryz.prog none 9 (bodyPost Tryz.prog Tryz.f126 (RR cx (.t (k3 (aB (gN a0) n (v1,v2,v3)))) [] [])) cx [] (.l aBu n::aBv) (xB a0 v1 v2 v3):=by
 intro n
 induction n with
 | zero=>intro v1 v2 v3 hi hn;exact absurd hn (iG _)
 | succ n ih =>
   intro v1 v2 v3 hi hn
   refine aI ?_
   cases h0:(decide ((v3:Int) < (a0.length:Int))) with
   | true =>
    have q0:=bY h0
    have e:=Eq.refl (gN a0 (v1,v2,v3));conv at e=>rhs;simp only [gN,h0,aH]
    rw [aA e]
    refine ba [.d h0,.i v3 (a0.length),.L cA a0 v3 0 2] [] [2,3,16,17,18] [] hcx (m:=n) aBu (aBv) (xB a0 (W (v1+(a0.getD (toNat v3) default).1)) (W (v2+(a0.getD (toNat v3) default).2)) (W (v3+1))) (by kernel_rfl) ?_
    have z0:(W (v3+1))=(v3+1):=aD (by omega) (by omega)
    rw [z0]
    exact ih (W (v1+(a0.getD (toNat v3) default).1)) (W (v2+(a0.getD (toNat v3) default).2)) (v3+1) (by(try simp only [Ls]);omega) (by(try simp only [Ls]);omega)
   | false =>
    have q0:=cF h0
    have e:=Eq.refl (gN a0 (v1,v2,v3));conv at e=>rhs;simp only [gN,h0,aH]
    rw [aF,e]
    exact rt [.d h0] [] [] hcx (by kernel_rfl)
def cH (a0:List (Int×Int)):Zt :=
 (bif (decide (((a0.length:Int):Int) > 10000)) then
  (0,0,4)
 else
  (bif (((sN a0):Int) != 0) then
   (0,0,(sN a0))
  else
   (aB (gN a0) (toNat ((a0.length:Int) - 0)+1) (0,0,0))))
theorem aPz (a0:List (Int×Int))(l0:a0.length≤9223372036854775807):Con Tryz.prog 126 [(.s 0 0 a0.length 2)] [(.live false true (flat cQ a0))] (.t (k3 (cH a0))) []:=by
 refine aJ Tryz.func126 (by kernel_rfl) fun cx hcx=>?_
 cases h0:(decide (((a0.length:Int):Int) > 10000)) with
 | true =>
  have q0:=bY h0
  have e:=Eq.refl (cH a0);conv at e=>rhs;simp only [cH,h0,aH]
  rw [e]
  exact rt [.d h0] [] [] hcx (by kernel_rfl)
 | false =>
  have q0:=cF h0
  let t1:List (St Tryz.prog):=[.d h0,.c [0] (bAl a0 (by omega))]
  cases h1:(((sN a0):Int) != 0) with
  | true =>
   have q1:=bne_iff_ne.1 h1
   have e:=Eq.refl (cH a0);conv at e=>rhs;simp only [cH,h0,h1,aH]
   rw [e]
   exact rt (t1++[.d h1]) [] [] hcx (by kernel_rfl)
  | false =>
   have q1:=bne_eq_false_iff_eq.1 h1
   have e:=Eq.refl (cH a0);conv at e=>rhs;simp only [cH,h0,h1,aH]
   rw [e]
   refine en (t1++[.d h1]) [] [2,3,16,17,18] [] hcx aBu (aBv) (xB a0 0 0 0) (toNat ((a0.length:Int) - 0)+1) (by kernel_rfl) ?_
   exact aPy a0 l0 hcx (toNat ((a0.length:Int) - 0)+1) 0 0 0 (by(try simp only [Ls]);omega) (by(try simp only [Ls]);omega)
def kM (a0:List (Int×Int)):(Int×Int)×Int :=
 (bif (((cH a0).2.2:Int) != 0) then
  ((0,0),(cH a0).2.2)
 else
  ((qI (cH a0).1 (cH a0).2.1).1,(qI (cH a0).1 (cH a0).2.1).2))
theorem aXj (a0:List (Int×Int))(l0:a0.length≤9223372036854775807):Con Tryz.prog 129 [(.s 0 0 a0.length 2)] [(.live false true (flat cQ a0))] (.t [(.a (k2 (kM a0).1)),(iv (kM a0).2)]) []:=by
 refine aJ Tryz.func129 (by kernel_rfl) fun cx hcx=>?_
 let t0:List (St Tryz.prog):=[.c [0] (aPz a0 (by omega))]
 cases h0:(((cH a0).2.2:Int) != 0) with
 | true =>
  have q0:=bne_iff_ne.1 h0
  have e:=Eq.refl (kM a0);conv at e=>rhs;simp only [kM,h0,aH]
  rw [e]
  exact rt (t0++[.d h0]) [] [] hcx (by kernel_rfl)
 | false =>
  have q0:=bne_eq_false_iff_eq.1 h0
  have e:=Eq.refl (kM a0);conv at e=>rhs;simp only [kM,h0,aH]
  rw [e]
  exact rt (t0++[.d h0,.c [] (C48 (cH a0).1 (cH a0).2.1)]) [] [] hcx (by kernel_rfl)
def iN (a0:List (Int×Int)):(Int×Int)×Int :=
 (bif (((cH a0).2.2:Int) != 0) then
  ((0,0),(cH a0).2.2)
 else
  (bif (((a0.length:Int):Int) == 0) then
   ((0,0),1)
  else
   ((qI (rZ (cH a0).1 (a0.length:Int)) (aBs (cH a0).2.1 (a0.length:Int))).1,(qI (rZ (cH a0).1 (a0.length:Int)) (aBs (cH a0).2.1 (a0.length:Int))).2)))
theorem bAm (a0:List (Int×Int))(l0:a0.length≤9223372036854775807):Con Tryz.prog 95 [(.s 0 0 a0.length 2)] [(.live false true (flat cQ a0))] (.t [(.a (k2 (iN a0).1)),(iv (iN a0).2)]) []:=by
 refine aJ Tryz.func95 (by kernel_rfl) fun cx hcx=>?_
 let t0:List (St Tryz.prog):=[.c [0] (aPz a0 (by omega))]
 cases h0:(((cH a0).2.2:Int) != 0) with
 | true =>
  have q0:=bne_iff_ne.1 h0
  have e:=Eq.refl (iN a0);conv at e=>rhs;simp only [iN,h0,aH]
  rw [e]
  exact rt (t0++[.d h0]) [] [] hcx (by kernel_rfl)
 | false =>
  have q0:=bne_eq_false_iff_eq.1 h0
  let t1:List (St Tryz.prog):=(t0++[.d h0])
  cases h1:(((a0.length:Int):Int) == 0) with
  | true =>
   have q1:=eq_of_beq h1
   have e:=Eq.refl (iN a0);conv at e=>rhs;simp only [iN,h0,h1,aH]
   rw [e]
   exact rt (t1++[.d h1]) [] [] hcx (by kernel_rfl)
  | false =>
   have q1:=ne_of_beq_false h1
   have e:=Eq.refl (iN a0);conv at e=>rhs;simp only [iN,h0,h1,aH]
   rw [e]
   exact rt (t1++[.d h1,.c [] (aXi (cH a0).1 (a0.length:Int)  (by(try simp only [Lt]);omega)),.c [] (bAk (cH a0).2.1 (a0.length:Int)  (by(try simp only [Lt]);omega)),.c [] (C48 (rZ (cH a0).1 (a0.length:Int)) (aBs (cH a0).2.1 (a0.length:Int)))]) [] [] hcx (by kernel_rfl)
def iZ (a0:(Int×Int)×(Int×Int)):Int :=
 (bif (!(pG a0.1)) then
  1
 else
  (bif (!(pG a0.2)) then
   1
  else
   0))
theorem aWd (a0:(Int×Int)×(Int×Int)):Con Tryz.prog 45 [(.s 0 0 2 2)] [(.live false false [(iv a0.1.1),(iv a0.1.2),(iv a0.2.1),(iv a0.2.2)])] (iv (iZ a0)) []:=by
 refine aJ Tryz.func45 (by kernel_rfl) fun cx hcx=>?_
 let t0:List (St Tryz.prog):=[.u 200,.T,.i 0 2 (by decide),.c [] (C76 a0.1)]
 cases h0:(!(pG a0.1)) with
 | true =>
  have e:=Eq.refl (iZ a0);conv at e=>rhs;simp only [iZ,h0,aH]
  rw [e]
  exact rt (t0++[.d h0]) [] [] hcx (by kernel_rfl)
 | false =>
  let t1:List (St Tryz.prog):=(t0++[.d h0,.u 0,.T,.i 1 2 (by decide),.c [] (C76 a0.2)])
  cases h1:(!(pG a0.2)) with
  | true =>
   have e:=Eq.refl (iZ a0);conv at e=>rhs;simp only [iZ,h0,h1,aH]
   rw [e]
   exact rt (t1++[.d h1]) [] [] hcx (by kernel_rfl)
  | false =>
   have e:=Eq.refl (iZ a0);conv at e=>rhs;simp only [iZ,h0,h1,aH]
   rw [e]
   exact rt (t1++[.d h1,.u 0,.F]) [] [] hcx (by kernel_rfl)
def F42 (a0:Int×Int)(a1:Int×Int):(Int×Int)×Bool×Int :=
 (bif (((iZ (a0,a1)):Int) != 0) then
  ((0,0),false,(iZ (a0,a1)))
 else
  (bif (decide (((if(a0.1:Int) < a1.1 then a1.1 else a0.1):Int) > (if(a1.2:Int) < a0.2 then a1.2 else a0.2))) then
   ((0,0),false,0)
  else
   (((if(a0.1:Int) < a1.1 then a1.1 else a0.1),(if(a1.2:Int) < a0.2 then a1.2 else a0.2)),true,0)))
theorem C42 (a0:Int×Int)(a1:Int×Int):Con Tryz.prog 42 [(.a [(iv a0.1),(iv a0.2)]),(.a [(iv a1.1),(iv a1.2)])] [] (.t [(.a (k2 (F42 a0 a1).1)),(.v (.bool (F42 a0 a1).2.1)),(iv (F42 a0 a1).2.2)]) []:=by
 refine aJ Tryz.func42 (by kernel_rfl) fun cx hcx=>?_
 let t0:List (St Tryz.prog):=[.c [3] (aWd (a0,a1))]
 cases h0:(((iZ (a0,a1)):Int) != 0) with
 | true =>
  have q0:=bne_iff_ne.1 h0
  have e:=Eq.refl (F42 a0 a1);conv at e=>rhs;simp only [F42,h0,aH]
  rw [e]
  exact rt (t0++[.d h0]) [] [] hcx (by kernel_rfl)
 | false =>
  have q0:=bne_eq_false_iff_eq.1 h0
  let t1:List (St Tryz.prog):=(t0++[.d h0])
  cases h1:(decide (((if(a0.1:Int) < a1.1 then a1.1 else a0.1):Int) > (if(a1.2:Int) < a0.2 then a1.2 else a0.2))) with
  | true =>
   have q1:=bY h1
   have e:=Eq.refl (F42 a0 a1);conv at e=>rhs;simp only [F42,h0,h1,aH]
   rw [e]
   exact rt (t1++[.d h1]) [] [] hcx (by kernel_rfl)
  | false =>
   have q1:=cF h1
   have e:=Eq.refl (F42 a0 a1);conv at e=>rhs;simp only [F42,h0,h1,aH]
   rw [e]
   exact rt (t1++[.d h1]) [] [] hcx (by kernel_rfl)
def pN (a0:Int)(a1:Int):Int :=
 (bif ((a0:Int) != 0) then
  (bif ((a1:Int) != 0) then
   (bif (decide (((if(a1:Int) < (W (0 - a1)) then(W (0 - a1)) else a1):Int) > (W (Int.tdiv 1099511627776 (if(a0:Int) < (W (0 - a0)) then(W (0 - a0)) else a0))))) then
    (bif (!((decide ((a0:Int) < 0)) == (decide ((a1:Int) < 0)))) then
     (-1099511627777)
    else
     1099511627777)
   else
    (W (a0*a1)))
  else
   (W (a0*a1)))
 else
  (W (a0*a1)))
theorem C47 (a0:Int)(a1:Int)(ha:-1099511627776≤a0∧a0≤1099511627776):Con Tryz.prog 47 [(iv a0),(iv a1)] [] (iv (pN a0 a1)) []:=by
 refine aJ Tryz.func47 (by kernel_rfl) fun cx hcx=>?_
 cases h0:((a0:Int) != 0) with
 | true =>
  have q0:=bne_iff_ne.1 h0
  let t1:List (St Tryz.prog):=[.d h0]
  cases h1:((a1:Int) != 0) with
  | true =>
   have q1:=bne_iff_ne.1 h1
   let t2:List (St Tryz.prog):=(t1++[.d h1,.p (show((if(a0:Int) < (W (0 - a0)) then(W (0 - a0)) else a0):Int)≠0 from by(have hw:=aD (n:=0 - a0) (by omega) (by omega);rw [hw];split<;>omega))])
   cases h2:(decide (((if(a1:Int) < (W (0 - a1)) then(W (0 - a1)) else a1):Int) > (W (Int.tdiv 1099511627776 (if(a0:Int) < (W (0 - a0)) then(W (0 - a0)) else a0))))) with
   | true =>
    have q2:=bY h2
    let t3:List (St Tryz.prog):=(t2++[.d h2])
    cases h3:(!((decide ((a0:Int) < 0)) == (decide ((a1:Int) < 0)))) with
    | true =>
     have e:=Eq.refl (pN a0 a1);conv at e=>rhs;simp only [pN,h0,h1,h2,h3,aH]
     rw [e]
     exact rt (t3++[.d h3]) [] [] hcx (by kernel_rfl)
    | false =>
     have e:=Eq.refl (pN a0 a1);conv at e=>rhs;simp only [pN,h0,h1,h2,h3,aH]
     rw [e]
     exact rt (t3++[.d h3]) [] [] hcx (by kernel_rfl)
   | false =>
    have q2:=cF h2
    have e:=Eq.refl (pN a0 a1);conv at e=>rhs;simp only [pN,h0,h1,h2,aH]
    rw [e]
    exact rt (t2++[.d h2]) [] [] hcx (by kernel_rfl)
  | false =>
   have q1:=bne_eq_false_iff_eq.1 h1
   have e:=Eq.refl (pN a0 a1);conv at e=>rhs;simp only [pN,h0,h1,aH]
   rw [e]
   exact rt (t1++[.d h1]) [] [] hcx (by kernel_rfl)
 | false =>
  have q0:=bne_eq_false_iff_eq.1 h0
  have e:=Eq.refl (pN a0 a1);conv at e=>rhs;simp only [pN,h0,aH]
  rw [e]
  exact rt [.d h0] [] [] hcx (by kernel_rfl)
def nS (a0:Int)(a1:Int)(a2:Int):Bool :=
 (bif (decide ((a0:Int)≥a1)) then
  (decide ((a0:Int)≤a2))
 else
  false)
theorem aUk (a0:Int)(a1:Int)(a2:Int):Con Tryz.prog 140 [(iv a0),(iv a1),(iv a2)] [] (.v (.bool (nS a0 a1 a2))) []:=by
 refine aJ Tryz.func140 (by kernel_rfl) fun cx hcx=>?_
 cases h0:(decide ((a0:Int)≥a1)) with
 | true =>
  have q0:=bY h0
  have e:=Eq.refl (nS a0 a1 a2);conv at e=>rhs;simp only [nS,h0,aH]
  rw [e]
  exact rt [.d h0] [] [] hcx (by kernel_rfl)
 | false =>
  have q0:=cF h0
  have e:=Eq.refl (nS a0 a1 a2);conv at e=>rhs;simp only [nS,h0,aH]
  rw [e]
  exact rt [.d h0] [] [] hcx (by kernel_rfl)
def F51 (a0:Int×Int):Bool :=
 (bif (decide ((a0.1:Int)≥(-1099511627776))) then
  (bif (decide ((a0.1:Int)≤a0.2)) then
   (decide ((a0.2:Int)≤1099511627776))
  else
   false)
 else
  false)
theorem C51 (a0:Int×Int):Con Tryz.prog 51 [(.a [(iv a0.1),(iv a0.2)])] [] (.v (.bool (F51 a0))) []:=by
 refine aJ Tryz.func51 (by kernel_rfl) fun cx hcx=>?_
 cases h0:(decide ((a0.1:Int)≥(-1099511627776))) with
 | true =>
  have q0:=bY h0
  let t1:List (St Tryz.prog):=[.d h0]
  cases h1:(decide ((a0.1:Int)≤a0.2)) with
  | true =>
   have q1:=bY h1
   have e:=Eq.refl (F51 a0);conv at e=>rhs;simp only [F51,h0,h1,aH]
   rw [e]
   exact rt (t1++[.d h1]) [] [] hcx (by kernel_rfl)
  | false =>
   have q1:=cF h1
   have e:=Eq.refl (F51 a0);conv at e=>rhs;simp only [F51,h0,h1,aH]
   rw [e]
   exact rt (t1++[.d h1]) [] [] hcx (by kernel_rfl)
 | false =>
  have q0:=cF h0
  have e:=Eq.refl (F51 a0);conv at e=>rhs;simp only [F51,h0,aH]
  rw [e]
  exact rt [.d h0] [] [] hcx (by kernel_rfl)
def c3 (x:Int):List SV:=[(iv x)]
theorem fU (x:Int):(c3 x).length=1:=rfl
def bZ (a0:Zt×Zt×Zt)(a1:Int):List (Int) :=
 (bif ((a1:Int) == 0) then
  ([a0.1.1,a0.2.1.1,a0.2.2.1]:List (Int))
 else
  (bif ((a1:Int) == 1) then
   ([a0.1.2.1,a0.2.1.2.1,a0.2.2.2.1]:List (Int))
  else
   ([a0.1.2.2,a0.2.1.2.2,a0.2.2.2.2]:List (Int))))
theorem xC (a0:Zt×Zt×Zt)(a1:Int):Con Tryz.prog 173 [(.s 0 0 3 3),(iv a1)] [(.live false false (k9 a0))] (.s 1 0 (bZ a0 a1).length 1) [(.live true true (flat c3 (bZ a0 a1)))]:=by
 refine aJ Tryz.func173 (by kernel_rfl) fun cx hcx=>?_
 let t0:List (St Tryz.prog):=[.u 200,.T]
 cases h0:((a1:Int) == 0) with
 | true =>
  have q0:=eq_of_beq h0
  have e:=Eq.refl (bZ a0 a1);conv at e=>rhs;simp only [bZ,h0,aH]
  rw [e]
  exact rt (t0++[.d h0,.i 0 3 (by decide),.u 0,.T,.d h0,.i 1 3 (by decide),.u 0,.T,.d h0,.i 2 3 (by decide),.u 0,.F]) [.sym 6 true] [6] hcx (by kernel_rfl)
 | false =>
  have q0:=ne_of_beq_false h0
  let t1:List (St Tryz.prog):=(t0++[.d h0])
  cases h1:((a1:Int) == 1) with
  | true =>
   have q1:=eq_of_beq h1
   have e:=Eq.refl (bZ a0 a1);conv at e=>rhs;simp only [bZ,h0,h1,aH]
   rw [e]
   exact rt (t1++[.d h1,.i 0 3 (by decide),.u 0,.T,.d h0,.d h1,.i 1 3 (by decide),.u 0,.T,.d h0,.d h1,.i 2 3 (by decide),.u 0,.F]) [.sym 6 true] [6] hcx (by kernel_rfl)
  | false =>
   have q1:=ne_of_beq_false h1
   have e:=Eq.refl (bZ a0 a1);conv at e=>rhs;simp only [bZ,h0,h1,aH]
   rw [e]
   exact rt (t1++[.d h1,.i 0 3 (by decide),.u 0,.T,.d h0,.d h1,.i 1 3 (by decide),.u 0,.T,.d h0,.d h1,.i 2 3 (by decide),.u 0,.F]) [.sym 6 true] [6] hcx (by kernel_rfl)
def aP0 (a0:Zt)(a1:Int):List (Int) :=
 (bif ((a1:Int) == 0) then
  ([a0.1]:List (Int))
 else
  (bif ((a1:Int) == 1) then
   ([a0.2.1]:List (Int))
  else
   ([a0.2.2]:List (Int))))
theorem aXk {a b c:Int} (h:(!(nS a b c))=false)(hb:1≤b:=by omega):a≠0:=by
 unfold nS at h
 cases h1:decide ((a:Int)≥b) with
 | true=>have:=bY h1;omega
 | false=>simp [h1] at h
theorem kE (a:Zt×Zt×Zt)(k:Int):(bZ a k).length=3:=by
 unfold bZ
 cases ((k:Int) == 0)<;>cases ((k:Int) == 1)<;>rfl
theorem kF (a:Zt)(k:Int):(aP0 a k).length=1:=by
 unfold aP0
 cases ((k:Int) == 0)<;>cases ((k:Int) == 1)<;>rfl
noncomputable def aFt:Code:=(aE [1,1,0] [] (aG Tryz.f174) []).1
noncomputable def aFu:List K:=(aE [1,1,0] [] (aG Tryz.f174) []).2
def aAg (a0:Int)(v2 v3:Int):LS:=⟨iH 23 [(0,(iv a0)),(3,(iv v2)),(4,(iv v3))],[]⟩
def nC (a0:Int):Int×Int→(Int×Int)⊕(Int)
 | (v2,v3) =>
  (bif (decide ((v2:Int) < v3)) then
   (bif (decide (((W ((W (Int.tdiv (W ((W (v2+v3))+1)) 2))*(W (Int.tdiv (W ((W (v2+v3))+1)) 2)))):Int)≤a0)) then
    (.inl ((W (Int.tdiv (W ((W (v2+v3))+1)) 2)),v3))
   else
    (.inl (v2,(W ((W (Int.tdiv (W ((W (v2+v3))+1)) 2)) - 1)))))
  else
   (.inr v2))
theorem aXl (a0:Int) {cx:Cx} (hcx:cx.base=0):∀(n:Nat)(v2 v3:Int),(0≤v2)∧(0≤v2)∧(v2≤v3)∧(v3≤2147483648)→toNat (v3 - v2) < n→Aw.Good Tryz.prog none 9 (bodyPost Tryz.prog Tryz.f174 (RR cx (iv (aB (nC a0) n (v2,v3))) [] [])) cx [] (.l aFt n::aFu) (aAg a0 v2 v3):=by
 intro n
 induction n with
 | zero=>intro v2 v3 hi hn;exact absurd hn (iG _)
 | succ n ih =>
   intro v2 v3 hi hn
   refine aI ?_
   have hw:=aFl (a:=v2) (b:=v3) (by omega)
   have hw2:=aMq (a:=v2) (b:=v3) (by omega)
   cases h0:(decide ((v2:Int) < v3)) with
   | true =>
    have q0:=bY h0
    let t1:List (St Tryz.prog):=[.d h0,.p (show(2:Int)≠0 from by decide)]
    cases h1:(decide (((W ((W (Int.tdiv (W ((W (v2+v3))+1)) 2))*(W (Int.tdiv (W ((W (v2+v3))+1)) 2)))):Int)≤a0)) with
    | true =>
     have q1:=bY h1
     have e:=Eq.refl (nC a0 (v2,v3));conv at e=>rhs;simp only [nC,h0,h1,aH]
     rw [aA e]
     refine ba (t1++[.d h1]) [] [0,3,4] [] hcx (m:=n) aFt (aFu) (aAg a0 (W (Int.tdiv (W ((W (v2+v3))+1)) 2)) v3) (by kernel_rfl) ?_
     exact ih (W (Int.tdiv (W ((W (v2+v3))+1)) 2)) v3 (by refine⟨?_,?_,?_,?_⟩<;>(try simp only [Ls])<;>first | omega | assumption | simp) (by(try simp only [Ls]);omega)
    | false =>
     have q1:=cF h1
     have e:=Eq.refl (nC a0 (v2,v3));conv at e=>rhs;simp only [nC,h0,h1,aH]
     rw [aA e]
     refine ba (t1++[.d h1]) [] [0,3,4] [] hcx (m:=n) aFt (aFu) (aAg a0 v2 (W ((W (Int.tdiv (W ((W (v2+v3))+1)) 2)) - 1))) (by kernel_rfl) ?_
     exact ih v2 (W ((W (Int.tdiv (W ((W (v2+v3))+1)) 2)) - 1)) (by refine⟨?_,?_,?_,?_⟩<;>(try simp only [Ls])<;>first | omega | assumption | simp) (by(try simp only [Ls]);omega)
   | false =>
    have q0:=cF h0
    have e:=Eq.refl (nC a0 (v2,v3));conv at e=>rhs;simp only [nC,h0,aH]
    rw [aF,e]
    exact rt [.d h0] [] [] hcx (by kernel_rfl)
def iO (a0:Int):Int :=
 (aB (nC a0) (toNat (2147483648 - 0)+1) (0,2147483648))
theorem bAn (a0:Int):Con Tryz.prog 174 [(iv a0)] [] (iv (iO a0)) []:=by
 refine aJ Tryz.func174 (by kernel_rfl) fun cx hcx=>?_
 have e:=Eq.refl (iO a0);conv at e=>rhs;simp only [iO]
 rw [e]
 refine en [] [] [0,3,4] [] hcx aFt (aFu) (aAg a0 0 2147483648) (toNat (2147483648 - 0)+1) (by kernel_rfl) ?_
 exact aXl a0 hcx (toNat (2147483648 - 0)+1) 0 2147483648 (by refine⟨?_,?_,?_,?_⟩<;>(try simp only [Ls])<;>first | omega | assumption | simp) (by(try simp only [Ls]);omega)
def iQ (a0:Int)(a1:Int):(Int×Int)×Int :=
 (bif (!(F51 (a0,a1))) then
  ((0,0),4)
 else
  ((a0,a1),0))
theorem aDs (a0:Int)(a1:Int):Con Tryz.prog 142 [(iv a0),(iv a1)] [] (.t [(.a (k2 (iQ a0 a1).1)),(iv (iQ a0 a1).2)]) []:=by
 refine aJ Tryz.func142 (by kernel_rfl) fun cx hcx=>?_
 let t0:List (St Tryz.prog):=[.c [] (C51 (a0,a1))]
 cases h0:(!(F51 (a0,a1))) with
 | true =>
  have e:=Eq.refl (iQ a0 a1);conv at e=>rhs;simp only [iQ,h0,aH]
  rw [e]
  exact rt (t0++[.d h0]) [] [] hcx (by kernel_rfl)
 | false =>
  have e:=Eq.refl (iQ a0 a1);conv at e=>rhs;simp only [iQ,h0,aH]
  rw [e]
  exact rt (t0++[.d h0]) [] [] hcx (by kernel_rfl)
def zT (a0:Int)(a1:Int):(Int×Int)×Int :=
 (bif (((Int.tmod a0 a1):Int) == 0) then
  (bif (((W ((iO (W (Int.tdiv a0 a1)))*(iO (W (Int.tdiv a0 a1))))):Int) == (W (Int.tdiv a0 a1))) then
   ((iQ (iO (W (Int.tdiv a0 a1))) (iO (W (Int.tdiv a0 a1)))).1,(iQ (iO (W (Int.tdiv a0 a1))) (iO (W (Int.tdiv a0 a1)))).2)
  else
   ((iQ (iO (W (Int.tdiv a0 a1))) (W ((iO (W (Int.tdiv a0 a1)))+1))).1,(iQ (iO (W (Int.tdiv a0 a1))) (W ((iO (W (Int.tdiv a0 a1)))+1))).2))
 else
  ((iQ (iO (W (Int.tdiv a0 a1))) (W ((iO (W (Int.tdiv a0 a1)))+1))).1,(iQ (iO (W (Int.tdiv a0 a1))) (W ((iO (W (Int.tdiv a0 a1)))+1))).2))
theorem bEg (a0:Int)(a1:Int)(ha:a1≠0):Con Tryz.prog 171 [(iv a0),(iv a1)] [] (.t [(.a (k2 (zT a0 a1).1)),(iv (zT a0 a1).2)]) []:=by
 refine aJ Tryz.func171 (by kernel_rfl) fun cx hcx=>?_
 let t0:List (St Tryz.prog):=[.p (show(a1:Int)≠0 from by first | omega | (rw [aD]<;>omega) | exact eD _),.c [] (bAn (W (Int.tdiv a0 a1))),.p (show(a1:Int)≠0 from by first | omega | (rw [aD]<;>omega) | exact eD _)]
 cases h0:(((Int.tmod a0 a1):Int) == 0) with
 | true =>
  have q0:=eq_of_beq h0
  let t1:List (St Tryz.prog):=(t0++[.d h0,.p (show(a1:Int)≠0 from by first | omega | (rw [aD]<;>omega) | exact eD _)])
  cases h1:(((W ((iO (W (Int.tdiv a0 a1)))*(iO (W (Int.tdiv a0 a1))))):Int) == (W (Int.tdiv a0 a1))) with
  | true =>
   have q1:=eq_of_beq h1
   have e:=Eq.refl (zT a0 a1);conv at e=>rhs;simp only [zT,h0,h1,aH]
   rw [e]
   exact rt (t1++[.d h1,.c [] (aDs (iO (W (Int.tdiv a0 a1))) (iO (W (Int.tdiv a0 a1))))]) [] [] hcx (by kernel_rfl)
  | false =>
   have q1:=ne_of_beq_false h1
   have e:=Eq.refl (zT a0 a1);conv at e=>rhs;simp only [zT,h0,h1,aH]
   rw [e]
   exact rt (t1++[.d h1,.c [] (aDs (iO (W (Int.tdiv a0 a1))) (W ((iO (W (Int.tdiv a0 a1)))+1)))]) [] [] hcx (by kernel_rfl)
 | false =>
  have q0:=ne_of_beq_false h0
  have e:=Eq.refl (zT a0 a1);conv at e=>rhs;simp only [zT,h0,aH]
  rw [e]
  exact rt (t0++[.d h0,.c [] (aDs (iO (W (Int.tdiv a0 a1))) (W ((iO (W (Int.tdiv a0 a1)))+1)))]) [] [] hcx (by kernel_rfl)
def mC (a0:Int)(a1:Int):(Int×Int)×Int :=
 (bif (!(nS a0 1 1099511627776)) then
  ((0,0),1)
 else
  (bif (!(nS a1 1 8)) then
   ((0,0),1)
  else
   ((zT (W ((W ((W (1048576*a1))*1048576))*a1)) a0).1,(zT (W ((W ((W (1048576*a1))*1048576))*a1)) a0).2)))
theorem bAo (a0:Int)(a1:Int):Con Tryz.prog 163 [(iv a0),(iv a1)] [] (.t [(.a (k2 (mC a0 a1).1)),(iv (mC a0 a1).2)]) []:=by
 refine aJ Tryz.func163 (by kernel_rfl) fun cx hcx=>?_
 let t0:List (St Tryz.prog):=[.c [] (aUk a0 1 1099511627776)]
 cases h0:(!(nS a0 1 1099511627776)) with
 | true =>
  have e:=Eq.refl (mC a0 a1);conv at e=>rhs;simp only [mC,h0,aH]
  rw [e]
  exact rt (t0++[.d h0]) [] [] hcx (by kernel_rfl)
 | false =>
  let t1:List (St Tryz.prog):=(t0++[.d h0,.c [] (aUk a1 1 8)])
  cases h1:(!(nS a1 1 8)) with
  | true =>
   have e:=Eq.refl (mC a0 a1);conv at e=>rhs;simp only [mC,h0,h1,aH]
   rw [e]
   exact rt (t1++[.d h1]) [] [] hcx (by kernel_rfl)
  | false =>
   have e:=Eq.refl (mC a0 a1);conv at e=>rhs;simp only [mC,h0,h1,aH]
   rw [e]
   exact rt (t1++[.d h1,.c [] (bEg (W ((W ((W (1048576*a1))*1048576))*a1)) a0  (aXk h0))]) [] [] hcx (by kernel_rfl)
def sB (a0:Int):Int :=
 (iO a0)
theorem bEh (a0:Int):Con Tryz.prog 170 [(iv a0)] [] (iv (sB a0)) []:=by
 refine aJ Tryz.func170 (by kernel_rfl) fun cx hcx=>?_
 have e:=Eq.refl (sB a0);conv at e=>rhs;simp only [sB]
 rw [e]
 exact rt [.c [] (bAn a0)] [] [] hcx (by kernel_rfl)
def aT (a0:Zt)(a1:Zt):Zt :=
 ((W (a0.1 - a1.1)),(W (a0.2.1 - a1.2.1)),(W (a0.2.2 - a1.2.2)))
theorem aFv (a0:Zt)(a1:Zt):Con Tryz.prog 105 [(.a (k3 a0)),(.a (k3 a1))] [] (.a (k3 (aT a0 a1))) []:=by
 refine aJ Tryz.func105 (by kernel_rfl) fun cx hcx=>?_
 have e:=Eq.refl (aT a0 a1);conv at e=>rhs;simp only [aT]
 rw [e]
 exact rt [] [] [] hcx (by kernel_rfl)
def aFw (a0:Zt)(a1:Zt):Zt :=
 ((W ((W (a0.2.1*a1.2.2)) - (W (a0.2.2*a1.2.1)))),(W ((W (a0.2.2*a1.1)) - (W (a0.1*a1.2.2)))),(W ((W (a0.1*a1.2.1)) - (W (a0.2.1*a1.1)))))
theorem bAp (a0:Zt)(a1:Zt):Con Tryz.prog 104 [(.a (k3 a0)),(.a (k3 a1))] [] (.a (k3 (aFw a0 a1))) []:=by
 refine aJ Tryz.func104 (by kernel_rfl) fun cx hcx=>?_
 have e:=Eq.refl (aFw a0 a1);conv at e=>rhs;simp only [aFw]
 rw [e]
 exact rt [] [] [] hcx (by kernel_rfl)
def lF (a0:Zt×Zt×Zt):Zt :=
 (aFw (aT a0.2.1 a0.1) (aT a0.2.2 a0.1))
theorem C80 (a0:Zt×Zt×Zt):Con Tryz.prog 80 [(.a (k9 a0))] [] (.a (k3 (lF a0))) []:=by
 refine aJ Tryz.func80 (by kernel_rfl) fun cx hcx=>?_
 have e:=Eq.refl (lF a0);conv at e=>rhs;simp only [lF]
 rw [e]
 exact rt [.c [] (aFv a0.2.1 a0.1),.c [] (aFv a0.2.2 a0.1),.c [] (bAp (aT a0.2.1 a0.1) (aT a0.2.2 a0.1))] [] [] hcx (by kernel_rfl)
def cC (a0:Zt)(a1:Zt):Int :=
 (W ((W ((W (a0.1*a1.1))+(W (a0.2.1*a1.2.1))))+(W (a0.2.2*a1.2.2))))
theorem aFx (a0:Zt)(a1:Zt):Con Tryz.prog 106 [(.a (k3 a0)),(.a (k3 a1))] [] (iv (cC a0 a1)) []:=by
 refine aJ Tryz.func106 (by kernel_rfl) fun cx hcx=>?_
 have e:=Eq.refl (cC a0 a1);conv at e=>rhs;simp only [cC]
 rw [e]
 exact rt [] [] [] hcx (by kernel_rfl)
def F78 (a0:Int)(a1:Int)(a2:Int):Bool :=
 (bif (decide ((a0:Int)≥a1)) then
  (decide ((a0:Int)≤a2))
 else
  false)
theorem C78 (a0:Int)(a1:Int)(a2:Int):Con Tryz.prog 78 [(iv a0),(iv a1),(iv a2)] [] (.v (.bool (F78 a0 a1 a2))) []:=by
 refine aJ Tryz.func78 (by kernel_rfl) fun cx hcx=>?_
 cases h0:(decide ((a0:Int)≥a1)) with
 | true =>
  have q0:=bY h0
  have e:=Eq.refl (F78 a0 a1 a2);conv at e=>rhs;simp only [F78,h0,aH]
  rw [e]
  exact rt [.d h0] [] [] hcx (by kernel_rfl)
 | false =>
  have q0:=cF h0
  have e:=Eq.refl (F78 a0 a1 a2);conv at e=>rhs;simp only [F78,h0,aH]
  rw [e]
  exact rt [.d h0] [] [] hcx (by kernel_rfl)
def F79 (a0:Zt)(a1:Int):Bool :=
 (bif (F78 a0.1 (W (0 - a1)) a1) then
  (bif (F78 a0.2.1 (W (0 - a1)) a1) then
   (F78 a0.2.2 (W (0 - a1)) a1)
  else
   false)
 else
  false)
theorem C79 (a0:Zt)(a1:Int):Con Tryz.prog 79 [(.a (k3 a0)),(iv a1)] [] (.v (.bool (F79 a0 a1))) []:=by
 refine aJ Tryz.func79 (by kernel_rfl) fun cx hcx=>?_
 let t0:List (St Tryz.prog):=[.c [] (C78 a0.1 (W (0 - a1)) a1)]
 cases h0:(F78 a0.1 (W (0 - a1)) a1) with
 | true =>
  let t1:List (St Tryz.prog):=(t0++[.d h0,.c [] (C78 a0.2.1 (W (0 - a1)) a1)])
  cases h1:(F78 a0.2.1 (W (0 - a1)) a1) with
  | true =>
   have e:=Eq.refl (F79 a0 a1);conv at e=>rhs;simp only [F79,h0,h1,aH]
   rw [e]
   exact rt (t1++[.d h1,.c [] (C78 a0.2.2 (W (0 - a1)) a1)]) [] [] hcx (by kernel_rfl)
  | false =>
   have e:=Eq.refl (F79 a0 a1);conv at e=>rhs;simp only [F79,h0,h1,aH]
   rw [e]
   exact rt (t1++[.d h1]) [] [] hcx (by kernel_rfl)
 | false =>
  have e:=Eq.refl (F79 a0 a1);conv at e=>rhs;simp only [F79,h0,aH]
  rw [e]
  exact rt (t0++[.d h0]) [] [] hcx (by kernel_rfl)
def nT (a0:Zt×Zt×Zt):Int :=
 (bif (!(F79 a0.1 64)) then
  1
 else
  (bif (!(F79 a0.2.1 64)) then
   1
  else
   (bif (!(F79 a0.2.2 64)) then
    1
   else
    (bif ((((lF a0).1:Int) == 0)&&((((lF a0).2.1:Int) == 0)&&((((lF a0).2.2:Int) == 0)&&true))) then
     6
    else
     0))))
theorem bAq (a0:Zt×Zt×Zt):Con Tryz.prog 160 [(.a (k9 a0))] [] (iv (nT a0)) []:=by
 refine aJ Tryz.func160 (by kernel_rfl) fun cx hcx=>?_
 let t0:List (St Tryz.prog):=[.c [] (C79 a0.1 64)]
 cases h0:(!(F79 a0.1 64)) with
 | true =>
  have e:=Eq.refl (nT a0);conv at e=>rhs;simp only [nT,h0,aH]
  rw [e]
  exact rt (t0++[.d h0]) [] [] hcx (by kernel_rfl)
 | false =>
  let t1:List (St Tryz.prog):=(t0++[.d h0,.c [] (C79 a0.2.1 64)])
  cases h1:(!(F79 a0.2.1 64)) with
  | true =>
   have e:=Eq.refl (nT a0);conv at e=>rhs;simp only [nT,h0,h1,aH]
   rw [e]
   exact rt (t1++[.d h1]) [] [] hcx (by kernel_rfl)
  | false =>
   let t2:List (St Tryz.prog):=(t1++[.d h1,.c [] (C79 a0.2.2 64)])
   cases h2:(!(F79 a0.2.2 64)) with
   | true =>
    have e:=Eq.refl (nT a0);conv at e=>rhs;simp only [nT,h0,h1,h2,aH]
    rw [e]
    exact rt (t2++[.d h2]) [] [] hcx (by kernel_rfl)
   | false =>
    let t3:List (St Tryz.prog):=(t2++[.d h2,.c [] (C80 a0)])
    cases h3:((((lF a0).1:Int) == 0)&&((((lF a0).2.1:Int) == 0)&&((((lF a0).2.2:Int) == 0)&&true))) with
    | true =>
     have e:=Eq.refl (nT a0);conv at e=>rhs;simp only [nT,h0,h1,h2,h3,aH]
     rw [e]
     exact rt (t3++[.d h3]) [] [] hcx (by kernel_rfl)
    | false =>
     have e:=Eq.refl (nT a0);conv at e=>rhs;simp only [nT,h0,h1,h2,h3,aH]
     rw [e]
     exact rt (t3++[.d h3]) [] [] hcx (by kernel_rfl)
def aFy (a0:Int)(a1:Int)(a2:Int):Bool :=
 (bif (decide ((a0:Int)≥a1)) then
  (decide ((a0:Int)≤a2))
 else
  false)
theorem bEi (a0:Int)(a1:Int)(a2:Int):Con Tryz.prog 161 [(iv a0),(iv a1),(iv a2)] [] (.v (.bool (aFy a0 a1 a2))) []:=by
 refine aJ Tryz.func161 (by kernel_rfl) fun cx hcx=>?_
 cases h0:(decide ((a0:Int)≥a1)) with
 | true =>
  have q0:=bY h0
  have e:=Eq.refl (aFy a0 a1 a2);conv at e=>rhs;simp only [aFy,h0,aH]
  rw [e]
  exact rt [.d h0] [] [] hcx (by kernel_rfl)
 | false =>
  have q0:=cF h0
  have e:=Eq.refl (aFy a0 a1 a2);conv at e=>rhs;simp only [aFy,h0,aH]
  rw [e]
  exact rt [.d h0] [] [] hcx (by kernel_rfl)
def mD (a0:Zt×Zt×Zt)(a1:Zt×Zt×Zt)(a2:Int):Int :=
 (bif (((nT a0):Int) != 0) then
  (nT a0)
 else
  (bif (((nT a1):Int) != 0) then
   (nT a1)
  else
   (bif (!(aFy a2 0 2)) then
    1
   else
    0)))
theorem bAr (a0:Zt×Zt×Zt)(a1:Zt×Zt×Zt)(a2:Int):Con Tryz.prog 152 [(.a (k9 a0)),(.a (k9 a1)),(iv a2)] [] (iv (mD a0 a1 a2)) []:=by
 refine aJ Tryz.func152 (by kernel_rfl) fun cx hcx=>?_
 let t0:List (St Tryz.prog):=[.c [] (bAq a0)]
 cases h0:(((nT a0):Int) != 0) with
 | true =>
  have q0:=bne_iff_ne.1 h0
  have e:=Eq.refl (mD a0 a1 a2);conv at e=>rhs;simp only [mD,h0,aH]
  rw [e]
  exact rt (t0++[.d h0]) [] [] hcx (by kernel_rfl)
 | false =>
  have q0:=bne_eq_false_iff_eq.1 h0
  let t1:List (St Tryz.prog):=(t0++[.d h0,.c [] (bAq a1)])
  cases h1:(((nT a1):Int) != 0) with
  | true =>
   have q1:=bne_iff_ne.1 h1
   have e:=Eq.refl (mD a0 a1 a2);conv at e=>rhs;simp only [mD,h0,h1,aH]
   rw [e]
   exact rt (t1++[.d h1]) [] [] hcx (by kernel_rfl)
  | false =>
   have q1:=bne_eq_false_iff_eq.1 h1
   let t2:List (St Tryz.prog):=(t1++[.d h1,.c [] (bEi a2 0 2)])
   cases h2:(!(aFy a2 0 2)) with
   | true =>
    have e:=Eq.refl (mD a0 a1 a2);conv at e=>rhs;simp only [mD,h0,h1,h2,aH]
    rw [e]
    exact rt (t2++[.d h2]) [] [] hcx (by kernel_rfl)
   | false =>
    have e:=Eq.refl (mD a0 a1 a2);conv at e=>rhs;simp only [mD,h0,h1,h2,aH]
    rw [e]
    exact rt (t2++[.d h2]) [] [] hcx (by kernel_rfl)
def dK (x:Zt×Zt×Zt):List SV:=[(iv x.1.1),(iv x.1.2.1),(iv x.1.2.2),(iv x.2.1.1),(iv x.2.1.2.1),(iv x.2.1.2.2),(iv x.2.2.1),(iv x.2.2.2.1),(iv x.2.2.2.2)]
theorem cV (x:Zt×Zt×Zt):(dK x).length=9:=rfl
def aC (a0:Zt)(a1:Int):Zt :=
 ((W (a1*a0.1)),(W (a1*a0.2.1)),(W (a1*a0.2.2)))
theorem aOd (a0:Zt)(a1:Int):Con Tryz.prog 154 [(.a (k3 a0)),(iv a1)] [] (.a (k3 (aC a0 a1))) []:=by
 refine aJ Tryz.func154 (by kernel_rfl) fun cx hcx=>?_
 have e:=Eq.refl (aC a0 a1);conv at e=>rhs;simp only [aC]
 rw [e]
 exact rt [] [] [] hcx (by kernel_rfl)
def aQ (a0:Zt)(a1:Zt):Zt :=
 ((W (Int.tdiv (W (a0.1+a1.1)) 2)),(W (Int.tdiv (W (a0.2.1+a1.2.1)) 2)),(W (Int.tdiv (W (a0.2.2+a1.2.2)) 2)))
theorem aXm (a0:Zt)(a1:Zt):Con Tryz.prog 169 [(.a (k3 a0)),(.a (k3 a1))] [] (.a (k3 (aQ a0 a1))) []:=by
 refine aJ Tryz.func169 (by kernel_rfl) fun cx hcx=>?_
 have e:=Eq.refl (aQ a0 a1);conv at e=>rhs;simp only [aQ]
 rw [e]
 exact rt [.p (show(2:Int)≠0 from by decide),.p (show(2:Int)≠0 from by decide),.p (show(2:Int)≠0 from by decide)] [] [] hcx (by kernel_rfl)
noncomputable def aKf:Code:=(aE [1,1,0,1,0,1,0,1,0,1] [0] (aG Tryz.f157) []).1
noncomputable def aKg (m0:Nat):List K:=(aE [1,1,0,1,0,1,0,1,0,1] [m0] (aG Tryz.f157) []).2
def aFz (a0:Zt×Zt×Zt)(a1:Int)(v13c:List SV)(v13n:Nat)(v14c:List SV)(v14n:Nat)(v15 v16:Int):LS:=⟨iH 76 [(1,(iv a1)),(5,(.s 0 0 v13n 9)),(6,(iv v15)),(7,(.s 1 0 v14n 9)),(8,(iv v16))],[(.live true true v13c),(.live true true v14c)]⟩
def kN (a0:Zt×Zt×Zt)(a1:Int):(List (Zt×Zt×Zt))×(List (Zt×Zt×Zt))×Int×Int→((List (Zt×Zt×Zt))×(List (Zt×Zt×Zt))×Int×Int)⊕(((List (Zt×Zt×Zt))×Int)⊕(List (Zt×Zt×Zt)))
 | (v13,v14,v15,v16) =>
  (bif (decide ((v16:Int) < (v13.length:Int))) then
   (.inl (v13,(v14++[((aC (v13.getD (toNat v16) default).1 2),(aQ (aC (v13.getD (toNat v16) default).1 2) (aC (v13.getD (toNat v16) default).2.1 2)),(aQ (aC (v13.getD (toNat v16) default).2.2 2) (aC (v13.getD (toNat v16) default).1 2))),((aQ (aC (v13.getD (toNat v16) default).1 2) (aC (v13.getD (toNat v16) default).2.1 2)),(aC (v13.getD (toNat v16) default).2.1 2),(aQ (aC (v13.getD (toNat v16) default).2.1 2) (aC (v13.getD (toNat v16) default).2.2 2))),((aQ (aC (v13.getD (toNat v16) default).2.2 2) (aC (v13.getD (toNat v16) default).1 2)),(aQ (aC (v13.getD (toNat v16) default).2.1 2) (aC (v13.getD (toNat v16) default).2.2 2)),(aC (v13.getD (toNat v16) default).2.2 2)),((aQ (aC (v13.getD (toNat v16) default).1 2) (aC (v13.getD (toNat v16) default).2.1 2)),(aQ (aC (v13.getD (toNat v16) default).2.1 2) (aC (v13.getD (toNat v16) default).2.2 2)),(aQ (aC (v13.getD (toNat v16) default).2.2 2) (aC (v13.getD (toNat v16) default).1 2)))]),v15,(v16+1)))
  else
   (.inr (.inl (v14,(v15+1)))))
noncomputable def aF0:Code:=(aE [1,1,0,1] [] (aG Tryz.f157) []).1
noncomputable def aF1:List K:=(aE [1,1,0,1] [] (aG Tryz.f157) []).2
def aAh (a0:Zt×Zt×Zt)(a1:Int)(v11c:List SV)(v11n:Nat)(v12:Int):LS:=⟨iH 76 [(1,(iv a1)),(5,(.s 0 0 v11n 9)),(6,(iv v12))],[(.live true true v11c)]⟩
def gI (a0:Zt×Zt×Zt)(a1:Int):(List (Zt×Zt×Zt))×Int→((List (Zt×Zt×Zt))×Int)⊕(List (Zt×Zt×Zt))
 | (v11,v12) =>
  (bif (decide ((v12:Int) < a1)) then
   (aB (kN a0 a1) (toNat ((v11.length:Int) - 0)+1) (v11,([]:List (Zt×Zt×Zt)),v12,0))
  else
   (.inr v11))
theorem aXn (a0:Zt×Zt×Zt)(a1:Int)(ha:0≤a1∧a1≤3) {cx:Cx} (hcx:cx.base=0)
   (n0:Nat) (g0:∀(v11:List (Zt×Zt×Zt)) (v12:Int),(0≤v12)∧(v12=0∧v11.length≤1∨v12=1∧v11.length≤4∨v12=2∧v11.length≤16∨3≤v12∧v11.length≤64)→toNat (a1 - v12) < n0→Aw.Good Tryz.prog none 9 (bodyPost Tryz.prog Tryz.f157 (RR cx (.s 0 0 (aB (gI a0 a1) n0 (v11,v12)).length 9) [(.live true true (flat dK (aB (gI a0 a1) n0 (v11,v12))))] [])) cx [] (.l aF0 n0::aF1) (aAh a0 a1 (flat dK v11) v11.length v12)):∀(n:Nat) (v13:List (Zt×Zt×Zt)) (v14:List (Zt×Zt×Zt)) (v15 v16:Int),(0≤v16)∧(v14.length=4*toNat v16)∧(v16≤v13.length)∧((0≤v15))∧((v15=0∧v13.length≤1∨v15=1∧v13.length≤4∨v15=2∧v13.length≤16∨3≤v15∧v13.length≤64))∧(v15 < a1)∧(toNat (a1 - v15) < n0+1)→toNat ((v13.length:Int) - v16) < n→Aw.Good Tryz.prog none 9 (bodyPost Tryz.prog Tryz.f157 (RR cx (.s 0 0 (iY (gI a0 a1) n0 (aB (kN a0 a1) n (v13,v14,v15,v16))).length 9) [(.live true true (flat dK (iY (gI a0 a1) n0 (aB (kN a0 a1) n (v13,v14,v15,v16)))))] [])) cx [] (.l aKf n::aKg n0) (aFz a0 a1 (flat dK v13) v13.length (flat dK v14) v14.length v15 v16):=by
 intro n
 induction n with
 | zero=>intro v13 v14 v15 v16 hi hn;exact absurd hn (iG _)
 | succ n ih =>
   intro v13 v14 v15 v16 hi hn
   refine aI ?_
   cases h0:(decide ((v16:Int) < (v13.length:Int))) with
   | true =>
    have q0:=bY h0
    have e:=Eq.refl (kN a0 a1 (v13,v14,v15,v16));conv at e=>rhs;simp only [kN,h0,aH]
    rw [aA e]
    refine ba [.d h0,.i v16 (v13.length),.L cV v13 v16 0 3,.c [] (aOd (v13.getD (toNat v16) default).1 2),.i v16 (v13.length),.L cV v13 v16 3 3,.c [] (aOd (v13.getD (toNat v16) default).2.1 2),.i v16 (v13.length),.L cV v13 v16 6 3,.c [] (aOd (v13.getD (toNat v16) default).2.2 2),.c [] (aXm (aC (v13.getD (toNat v16) default).1 2) (aC (v13.getD (toNat v16) default).2.1 2)),.c [] (aXm (aC (v13.getD (toNat v16) default).2.1 2) (aC (v13.getD (toNat v16) default).2.2 2)),.c [] (aXm (aC (v13.getD (toNat v16) default).2.2 2) (aC (v13.getD (toNat v16) default).1 2)),.p (show((flat dK v14).length=v14.length*9∧v14.length+4≤2 ^ 40∧(v14.length+4)*72≤2 ^ 47) from gG cV (by omega) (by omega))] [] [1,5,6,7,8] [0,9] hcx (m:=n) aKf (aKg n0) (aFz a0 a1 (flat dK v13) (v13.length) (flat dK v14++[(iv (aC (v13.getD (toNat v16) default).1 2).1),(iv (aC (v13.getD (toNat v16) default).1 2).2.1),(iv (aC (v13.getD (toNat v16) default).1 2).2.2),(iv (aQ (aC (v13.getD (toNat v16) default).1 2) (aC (v13.getD (toNat v16) default).2.1 2)).1),(iv (aQ (aC (v13.getD (toNat v16) default).1 2) (aC (v13.getD (toNat v16) default).2.1 2)).2.1),(iv (aQ (aC (v13.getD (toNat v16) default).1 2) (aC (v13.getD (toNat v16) default).2.1 2)).2.2),(iv (aQ (aC (v13.getD (toNat v16) default).2.2 2) (aC (v13.getD (toNat v16) default).1 2)).1),(iv (aQ (aC (v13.getD (toNat v16) default).2.2 2) (aC (v13.getD (toNat v16) default).1 2)).2.1),(iv (aQ (aC (v13.getD (toNat v16) default).2.2 2) (aC (v13.getD (toNat v16) default).1 2)).2.2),(iv (aQ (aC (v13.getD (toNat v16) default).1 2) (aC (v13.getD (toNat v16) default).2.1 2)).1),(iv (aQ (aC (v13.getD (toNat v16) default).1 2) (aC (v13.getD (toNat v16) default).2.1 2)).2.1),(iv (aQ (aC (v13.getD (toNat v16) default).1 2) (aC (v13.getD (toNat v16) default).2.1 2)).2.2),(iv (aC (v13.getD (toNat v16) default).2.1 2).1),(iv (aC (v13.getD (toNat v16) default).2.1 2).2.1),(iv (aC (v13.getD (toNat v16) default).2.1 2).2.2),(iv (aQ (aC (v13.getD (toNat v16) default).2.1 2) (aC (v13.getD (toNat v16) default).2.2 2)).1),(iv (aQ (aC (v13.getD (toNat v16) default).2.1 2) (aC (v13.getD (toNat v16) default).2.2 2)).2.1),(iv (aQ (aC (v13.getD (toNat v16) default).2.1 2) (aC (v13.getD (toNat v16) default).2.2 2)).2.2),(iv (aQ (aC (v13.getD (toNat v16) default).2.2 2) (aC (v13.getD (toNat v16) default).1 2)).1),(iv (aQ (aC (v13.getD (toNat v16) default).2.2 2) (aC (v13.getD (toNat v16) default).1 2)).2.1),(iv (aQ (aC (v13.getD (toNat v16) default).2.2 2) (aC (v13.getD (toNat v16) default).1 2)).2.2),(iv (aQ (aC (v13.getD (toNat v16) default).2.1 2) (aC (v13.getD (toNat v16) default).2.2 2)).1),(iv (aQ (aC (v13.getD (toNat v16) default).2.1 2) (aC (v13.getD (toNat v16) default).2.2 2)).2.1),(iv (aQ (aC (v13.getD (toNat v16) default).2.1 2) (aC (v13.getD (toNat v16) default).2.2 2)).2.2),(iv (aC (v13.getD (toNat v16) default).2.2 2).1),(iv (aC (v13.getD (toNat v16) default).2.2 2).2.1),(iv (aC (v13.getD (toNat v16) default).2.2 2).2.2),(iv (aQ (aC (v13.getD (toNat v16) default).1 2) (aC (v13.getD (toNat v16) default).2.1 2)).1),(iv (aQ (aC (v13.getD (toNat v16) default).1 2) (aC (v13.getD (toNat v16) default).2.1 2)).2.1),(iv (aQ (aC (v13.getD (toNat v16) default).1 2) (aC (v13.getD (toNat v16) default).2.1 2)).2.2),(iv (aQ (aC (v13.getD (toNat v16) default).2.1 2) (aC (v13.getD (toNat v16) default).2.2 2)).1),(iv (aQ (aC (v13.getD (toNat v16) default).2.1 2) (aC (v13.getD (toNat v16) default).2.2 2)).2.1),(iv (aQ (aC (v13.getD (toNat v16) default).2.1 2) (aC (v13.getD (toNat v16) default).2.2 2)).2.2),(iv (aQ (aC (v13.getD (toNat v16) default).2.2 2) (aC (v13.getD (toNat v16) default).1 2)).1),(iv (aQ (aC (v13.getD (toNat v16) default).2.2 2) (aC (v13.getD (toNat v16) default).1 2)).2.1),(iv (aQ (aC (v13.getD (toNat v16) default).2.2 2) (aC (v13.getD (toNat v16) default).1 2)).2.2)]) (v14.length+4) v15 (W (v16+1))) (by kernel_rfl) ?_
    have z0:(W (v16+1))=(v16+1):=aD (by omega) (by omega)
    have z1:(flat dK v14++[(iv (aC (v13.getD (toNat v16) default).1 2).1),(iv (aC (v13.getD (toNat v16) default).1 2).2.1),(iv (aC (v13.getD (toNat v16) default).1 2).2.2),(iv (aQ (aC (v13.getD (toNat v16) default).1 2) (aC (v13.getD (toNat v16) default).2.1 2)).1),(iv (aQ (aC (v13.getD (toNat v16) default).1 2) (aC (v13.getD (toNat v16) default).2.1 2)).2.1),(iv (aQ (aC (v13.getD (toNat v16) default).1 2) (aC (v13.getD (toNat v16) default).2.1 2)).2.2),(iv (aQ (aC (v13.getD (toNat v16) default).2.2 2) (aC (v13.getD (toNat v16) default).1 2)).1),(iv (aQ (aC (v13.getD (toNat v16) default).2.2 2) (aC (v13.getD (toNat v16) default).1 2)).2.1),(iv (aQ (aC (v13.getD (toNat v16) default).2.2 2) (aC (v13.getD (toNat v16) default).1 2)).2.2),(iv (aQ (aC (v13.getD (toNat v16) default).1 2) (aC (v13.getD (toNat v16) default).2.1 2)).1),(iv (aQ (aC (v13.getD (toNat v16) default).1 2) (aC (v13.getD (toNat v16) default).2.1 2)).2.1),(iv (aQ (aC (v13.getD (toNat v16) default).1 2) (aC (v13.getD (toNat v16) default).2.1 2)).2.2),(iv (aC (v13.getD (toNat v16) default).2.1 2).1),(iv (aC (v13.getD (toNat v16) default).2.1 2).2.1),(iv (aC (v13.getD (toNat v16) default).2.1 2).2.2),(iv (aQ (aC (v13.getD (toNat v16) default).2.1 2) (aC (v13.getD (toNat v16) default).2.2 2)).1),(iv (aQ (aC (v13.getD (toNat v16) default).2.1 2) (aC (v13.getD (toNat v16) default).2.2 2)).2.1),(iv (aQ (aC (v13.getD (toNat v16) default).2.1 2) (aC (v13.getD (toNat v16) default).2.2 2)).2.2),(iv (aQ (aC (v13.getD (toNat v16) default).2.2 2) (aC (v13.getD (toNat v16) default).1 2)).1),(iv (aQ (aC (v13.getD (toNat v16) default).2.2 2) (aC (v13.getD (toNat v16) default).1 2)).2.1),(iv (aQ (aC (v13.getD (toNat v16) default).2.2 2) (aC (v13.getD (toNat v16) default).1 2)).2.2),(iv (aQ (aC (v13.getD (toNat v16) default).2.1 2) (aC (v13.getD (toNat v16) default).2.2 2)).1),(iv (aQ (aC (v13.getD (toNat v16) default).2.1 2) (aC (v13.getD (toNat v16) default).2.2 2)).2.1),(iv (aQ (aC (v13.getD (toNat v16) default).2.1 2) (aC (v13.getD (toNat v16) default).2.2 2)).2.2),(iv (aC (v13.getD (toNat v16) default).2.2 2).1),(iv (aC (v13.getD (toNat v16) default).2.2 2).2.1),(iv (aC (v13.getD (toNat v16) default).2.2 2).2.2),(iv (aQ (aC (v13.getD (toNat v16) default).1 2) (aC (v13.getD (toNat v16) default).2.1 2)).1),(iv (aQ (aC (v13.getD (toNat v16) default).1 2) (aC (v13.getD (toNat v16) default).2.1 2)).2.1),(iv (aQ (aC (v13.getD (toNat v16) default).1 2) (aC (v13.getD (toNat v16) default).2.1 2)).2.2),(iv (aQ (aC (v13.getD (toNat v16) default).2.1 2) (aC (v13.getD (toNat v16) default).2.2 2)).1),(iv (aQ (aC (v13.getD (toNat v16) default).2.1 2) (aC (v13.getD (toNat v16) default).2.2 2)).2.1),(iv (aQ (aC (v13.getD (toNat v16) default).2.1 2) (aC (v13.getD (toNat v16) default).2.2 2)).2.2),(iv (aQ (aC (v13.getD (toNat v16) default).2.2 2) (aC (v13.getD (toNat v16) default).1 2)).1),(iv (aQ (aC (v13.getD (toNat v16) default).2.2 2) (aC (v13.getD (toNat v16) default).1 2)).2.1),(iv (aQ (aC (v13.getD (toNat v16) default).2.2 2) (aC (v13.getD (toNat v16) default).1 2)).2.2)])=(flat dK (v14++[((aC (v13.getD (toNat v16) default).1 2),(aQ (aC (v13.getD (toNat v16) default).1 2) (aC (v13.getD (toNat v16) default).2.1 2)),(aQ (aC (v13.getD (toNat v16) default).2.2 2) (aC (v13.getD (toNat v16) default).1 2))),((aQ (aC (v13.getD (toNat v16) default).1 2) (aC (v13.getD (toNat v16) default).2.1 2)),(aC (v13.getD (toNat v16) default).2.1 2),(aQ (aC (v13.getD (toNat v16) default).2.1 2) (aC (v13.getD (toNat v16) default).2.2 2))),((aQ (aC (v13.getD (toNat v16) default).2.2 2) (aC (v13.getD (toNat v16) default).1 2)),(aQ (aC (v13.getD (toNat v16) default).2.1 2) (aC (v13.getD (toNat v16) default).2.2 2)),(aC (v13.getD (toNat v16) default).2.2 2)),((aQ (aC (v13.getD (toNat v16) default).1 2) (aC (v13.getD (toNat v16) default).2.1 2)),(aQ (aC (v13.getD (toNat v16) default).2.1 2) (aC (v13.getD (toNat v16) default).2.2 2)),(aQ (aC (v13.getD (toNat v16) default).2.2 2) (aC (v13.getD (toNat v16) default).1 2)))])):=(bN (c:=dK) (l:=v14) (m:=[((aC (v13.getD (toNat v16) default).1 2),(aQ (aC (v13.getD (toNat v16) default).1 2) (aC (v13.getD (toNat v16) default).2.1 2)),(aQ (aC (v13.getD (toNat v16) default).2.2 2) (aC (v13.getD (toNat v16) default).1 2))),((aQ (aC (v13.getD (toNat v16) default).1 2) (aC (v13.getD (toNat v16) default).2.1 2)),(aC (v13.getD (toNat v16) default).2.1 2),(aQ (aC (v13.getD (toNat v16) default).2.1 2) (aC (v13.getD (toNat v16) default).2.2 2))),((aQ (aC (v13.getD (toNat v16) default).2.2 2) (aC (v13.getD (toNat v16) default).1 2)),(aQ (aC (v13.getD (toNat v16) default).2.1 2) (aC (v13.getD (toNat v16) default).2.2 2)),(aC (v13.getD (toNat v16) default).2.2 2)),((aQ (aC (v13.getD (toNat v16) default).1 2) (aC (v13.getD (toNat v16) default).2.1 2)),(aQ (aC (v13.getD (toNat v16) default).2.1 2) (aC (v13.getD (toNat v16) default).2.2 2)),(aQ (aC (v13.getD (toNat v16) default).2.2 2) (aC (v13.getD (toNat v16) default).1 2)))])).symm
    have z2:(v14.length+4)=(v14++[((aC (v13.getD (toNat v16) default).1 2),(aQ (aC (v13.getD (toNat v16) default).1 2) (aC (v13.getD (toNat v16) default).2.1 2)),(aQ (aC (v13.getD (toNat v16) default).2.2 2) (aC (v13.getD (toNat v16) default).1 2))),((aQ (aC (v13.getD (toNat v16) default).1 2) (aC (v13.getD (toNat v16) default).2.1 2)),(aC (v13.getD (toNat v16) default).2.1 2),(aQ (aC (v13.getD (toNat v16) default).2.1 2) (aC (v13.getD (toNat v16) default).2.2 2))),((aQ (aC (v13.getD (toNat v16) default).2.2 2) (aC (v13.getD (toNat v16) default).1 2)),(aQ (aC (v13.getD (toNat v16) default).2.1 2) (aC (v13.getD (toNat v16) default).2.2 2)),(aC (v13.getD (toNat v16) default).2.2 2)),((aQ (aC (v13.getD (toNat v16) default).1 2) (aC (v13.getD (toNat v16) default).2.1 2)),(aQ (aC (v13.getD (toNat v16) default).2.1 2) (aC (v13.getD (toNat v16) default).2.2 2)),(aQ (aC (v13.getD (toNat v16) default).2.2 2) (aC (v13.getD (toNat v16) default).1 2)))]).length:=eH v14 [((aC (v13.getD (toNat v16) default).1 2),(aQ (aC (v13.getD (toNat v16) default).1 2) (aC (v13.getD (toNat v16) default).2.1 2)),(aQ (aC (v13.getD (toNat v16) default).2.2 2) (aC (v13.getD (toNat v16) default).1 2))),((aQ (aC (v13.getD (toNat v16) default).1 2) (aC (v13.getD (toNat v16) default).2.1 2)),(aC (v13.getD (toNat v16) default).2.1 2),(aQ (aC (v13.getD (toNat v16) default).2.1 2) (aC (v13.getD (toNat v16) default).2.2 2))),((aQ (aC (v13.getD (toNat v16) default).2.2 2) (aC (v13.getD (toNat v16) default).1 2)),(aQ (aC (v13.getD (toNat v16) default).2.1 2) (aC (v13.getD (toNat v16) default).2.2 2)),(aC (v13.getD (toNat v16) default).2.2 2)),((aQ (aC (v13.getD (toNat v16) default).1 2) (aC (v13.getD (toNat v16) default).2.1 2)),(aQ (aC (v13.getD (toNat v16) default).2.1 2) (aC (v13.getD (toNat v16) default).2.2 2)),(aQ (aC (v13.getD (toNat v16) default).2.2 2) (aC (v13.getD (toNat v16) default).1 2)))] rfl
    rw [z0,z1,z2]
    exact ih v13 (v14++[((aC (v13.getD (toNat v16) default).1 2),(aQ (aC (v13.getD (toNat v16) default).1 2) (aC (v13.getD (toNat v16) default).2.1 2)),(aQ (aC (v13.getD (toNat v16) default).2.2 2) (aC (v13.getD (toNat v16) default).1 2))),((aQ (aC (v13.getD (toNat v16) default).1 2) (aC (v13.getD (toNat v16) default).2.1 2)),(aC (v13.getD (toNat v16) default).2.1 2),(aQ (aC (v13.getD (toNat v16) default).2.1 2) (aC (v13.getD (toNat v16) default).2.2 2))),((aQ (aC (v13.getD (toNat v16) default).2.2 2) (aC (v13.getD (toNat v16) default).1 2)),(aQ (aC (v13.getD (toNat v16) default).2.1 2) (aC (v13.getD (toNat v16) default).2.2 2)),(aC (v13.getD (toNat v16) default).2.2 2)),((aQ (aC (v13.getD (toNat v16) default).1 2) (aC (v13.getD (toNat v16) default).2.1 2)),(aQ (aC (v13.getD (toNat v16) default).2.1 2) (aC (v13.getD (toNat v16) default).2.2 2)),(aQ (aC (v13.getD (toNat v16) default).2.2 2) (aC (v13.getD (toNat v16) default).1 2)))]) v15 (v16+1) (by refine⟨?_,?_,?_,?_,?_,?_,?_⟩<;>(try simp only [Ls])<;>first | omega | assumption | exact hi.2.1 | exact hi.2.2.1 | exact hi.2.2.2.1 | exact hi.2.2.2.2.1 | exact hi.2.2.2.2.2.1 | exact hi.2.2.2.2.2.2.1 | simp) (by(try simp only [Ls]);omega)
   | false =>
    have q0:=cF h0
    have e:=Eq.refl (kN a0 a1 (v13,v14,v15,v16));conv at e=>rhs;simp only [kN,h0,aH]
    rw [aF,e]
    refine ba [.d h0] [] [1,5,6] [1] hcx (m:=n0) aF0 (aF1) (aAh a0 a1 (flat dK v14) (v14.length) (W (v15+1))) (by kernel_rfl) ?_
    have z0:(W (v15+1))=(v15+1):=aD (by omega) (by omega)
    rw [z0]
    exact g0 v14 (v15+1) (by refine⟨?_,?_⟩<;>(try simp only [Ls])<;>first | omega | assumption | simp) (by(try simp only [Ls]);omega)
theorem aXo (a0:Zt×Zt×Zt)(a1:Int)(ha:0≤a1∧a1≤3) {cx:Cx} (hcx:cx.base=0):∀(n:Nat)(v11:List (Zt×Zt×Zt))(v12:Int),(0≤v12)∧(v12=0∧v11.length≤1∨v12=1∧v11.length≤4∨v12=2∧v11.length≤16∨3≤v12∧v11.length≤64)→toNat (a1 - v12) < n→Aw.Good Tryz.prog none 9 (bodyPost Tryz.prog Tryz.f157 (RR cx (.s 0 0 (aB (gI a0 a1) n (v11,v12)).length 9) [(.live true true (flat dK (aB (gI a0 a1) n (v11,v12))))] [])) cx [] (.l aF0 n::aF1) (aAh a0 a1 (flat dK v11) v11.length v12):=by
 intro n
 induction n with
 | zero=>intro v11 v12 hi hn;exact absurd hn (iG _)
 | succ n ih =>
   intro v11 v12 hi hn
   refine aI ?_
   cases h0:(decide ((v12:Int) < a1)) with
   | true =>
    have q0:=bY h0
    have e:=Eq.refl (gI a0 a1 (v11,v12));conv at e=>rhs;simp only [gI,h0,aH]
    rw [aF,e]
    refine en [.d h0] [.slot 7 9] [1,5,6,7,8] [0,1] hcx aKf (aKg n) (aFz a0 a1 (flat dK v11) (v11.length) (flat dK ([]:List (Zt×Zt×Zt))) 0 v12 0) (toNat ((v11.length:Int) - 0)+1) (by kernel_rfl) ?_
    exact aXn a0 a1 ha hcx n ih (toNat ((v11.length:Int) - 0)+1) v11 ([]:List (Zt×Zt×Zt)) v12 0 (by refine⟨?_,?_,?_,?_,?_,?_,?_⟩<;>(try simp only [Ls])<;>first | omega | assumption | exact hi.2.1 | exact hi.2.2.1 | exact hi.2.2.2.1 | exact hi.2.2.2.2.1 | exact hi.2.2.2.2.2.1 | exact hi.2.2.2.2.2.2.1 | simp) (by(try simp only [Ls]);omega)
   | false =>
    have q0:=cF h0
    have e:=Eq.refl (gI a0 a1 (v11,v12));conv at e=>rhs;simp only [gI,h0,aH]
    rw [aF,e]
    exact rt [.d h0] [] [0] hcx (by kernel_rfl)
def cE (a0:Zt×Zt×Zt)(a1:Int):List (Zt×Zt×Zt) :=
 (aB (gI a0 a1) (toNat (a1 - 0)+1) (([a0]:List (Zt×Zt×Zt)),0))
theorem bAs (a0:Zt×Zt×Zt)(a1:Int)(ha:0≤a1∧a1≤3):Con Tryz.prog 157 [(.a (k9 a0)),(iv a1)] [] (.s 0 0 (cE a0 a1).length 9) [(.live true true (flat dK (cE a0 a1)))]:=by
 refine aJ Tryz.func157 (by kernel_rfl) fun cx hcx=>?_
 have e:=Eq.refl (cE a0 a1);conv at e=>rhs;simp only [cE]
 rw [e]
 refine en [] [.sym 1 true] [1,5,6] [1] hcx aF0 (aF1) (aAh a0 a1 (flat dK ([a0]:List (Zt×Zt×Zt))) 1 0) (toNat (a1 - 0)+1) (by kernel_rfl) ?_
 exact aXo a0 a1 ha hcx (toNat (a1 - 0)+1) ([a0]:List (Zt×Zt×Zt)) 0 (by refine⟨?_,?_⟩<;>(try simp only [Ls])<;>first | omega | assumption | simp) (by(try simp only [Ls]);omega)
noncomputable def aBw:Code:=(aE [1,1,1,0,1] [] (aG Tryz.f156) []).1
noncomputable def aBx:List K:=(aE [1,1,1,0,1] [] (aG Tryz.f156) []).2
def xD (a0:List (Int×Int))(v1 v2 v3:Int):LS:=⟨iH 39 [(0,(.s 0 0 a0.length 2)),(5,(iv v1)),(6,(iv v2)),(7,(iv v3))],[(.live false true (flat cQ a0))]⟩
def fI (a0:List (Int×Int)):Zt→Zt⊕Zt
 | (v1,v2,v3) =>
  (bif (decide ((v3:Int) < (a0.length:Int))) then
   (bif (!(F51 (a0.getD (toNat v3) default))) then
    (.inr (0,0,1))
   else
    (.inl ((W (v1+(a0.getD (toNat v3) default).1)),(W (v2+(a0.getD (toNat v3) default).2)),(v3+1))))
  else
   (.inr (v1,v2,0)))
theorem aP1 (a0:List (Int×Int))(l0:a0.length≤9223372036854775807) {cx:Cx} (hcx:cx.base=1):∀(n:Nat)(v1 v2 v3:Int),0≤v3→toNat ((a0.length:Int) - v3) < n→Aw.Good Tryz.prog none 9 (bodyPost Tryz.prog Tryz.f156 (RR cx (.t (k3 (aB (fI a0) n (v1,v2,v3)))) [] [])) cx [] (.l aBw n::aBx) (xD a0 v1 v2 v3):=by
 intro n
 induction n with
 | zero=>intro v1 v2 v3 hi hn;exact absurd hn (iG _)
 | succ n ih =>
   intro v1 v2 v3 hi hn
   refine aI ?_
   cases h0:(decide ((v3:Int) < (a0.length:Int))) with
   | true =>
    have q0:=bY h0
    let t1:List (St Tryz.prog):=[.d h0,.i v3 (a0.length),.L cA a0 v3 0 2,.c [] (C51 (a0.getD (toNat v3) default))]
    cases h1:(!(F51 (a0.getD (toNat v3) default))) with
    | true =>
     have e:=Eq.refl (fI a0 (v1,v2,v3));conv at e=>rhs;simp only [fI,h0,h1,aH]
     rw [aF,e]
     exact rt (t1++[.d h1]) [] [] hcx (by kernel_rfl)
    | false =>
     have e:=Eq.refl (fI a0 (v1,v2,v3));conv at e=>rhs;simp only [fI,h0,h1,aH]
     rw [aA e]
     refine ba (t1++[.d h1,.i v3 (a0.length),.L cA a0 v3 0 1,.i v3 (a0.length),.L cA a0 v3 1 1]) [] [0,5,6,7] [] hcx (m:=n) aBw (aBx) (xD a0 (W (v1+(a0.getD (toNat v3) default).1)) (W (v2+(a0.getD (toNat v3) default).2)) (W (v3+1))) (by kernel_rfl) ?_
     have z0:(W (v3+1))=(v3+1):=aD (by omega) (by omega)
     rw [z0]
     exact ih (W (v1+(a0.getD (toNat v3) default).1)) (W (v2+(a0.getD (toNat v3) default).2)) (v3+1) (by(try simp only [Ls]);omega) (by(try simp only [Ls]);omega)
   | false =>
    have q0:=cF h0
    have e:=Eq.refl (fI a0 (v1,v2,v3));conv at e=>rhs;simp only [fI,h0,aH]
    rw [aF,e]
    exact rt [.d h0] [] [] hcx (by kernel_rfl)
def cM (a0:List (Int×Int)):Zt :=
 (bif (decide (((a0.length:Int):Int) > 10000)) then
  (0,0,4)
 else
  (aB (fI a0) (toNat ((a0.length:Int) - 0)+1) (0,0,0)))
theorem aP2 (a0:List (Int×Int))(l0:a0.length≤9223372036854775807):Con Tryz.prog 156 [(.s 0 0 a0.length 2)] [(.live false true (flat cQ a0))] (.t (k3 (cM a0))) []:=by
 refine aJ Tryz.func156 (by kernel_rfl) fun cx hcx=>?_
 cases h0:(decide (((a0.length:Int):Int) > 10000)) with
 | true =>
  have q0:=bY h0
  have e:=Eq.refl (cM a0);conv at e=>rhs;simp only [cM,h0,aH]
  rw [e]
  exact rt [.d h0] [] [] hcx (by kernel_rfl)
 | false =>
  have q0:=cF h0
  have e:=Eq.refl (cM a0);conv at e=>rhs;simp only [cM,h0,aH]
  rw [e]
  refine en [.d h0] [] [0,5,6,7] [] hcx aBw (aBx) (xD a0 0 0 0) (toNat ((a0.length:Int) - 0)+1) (by kernel_rfl) ?_
  exact aP1 a0 l0 hcx (toNat ((a0.length:Int) - 0)+1) 0 0 0 (by(try simp only [Ls]);omega) (by(try simp only [Ls]);omega)
def cZ (a0:List (Int×Int)):(Int×Int)×Int :=
 (bif (((cM a0).2.2:Int) != 0) then
  ((0,0),(cM a0).2.2)
 else
  ((iQ (cM a0).1 (cM a0).2.1).1,(iQ (cM a0).1 (cM a0).2.1).2))
theorem aP3 (a0:List (Int×Int))(l0:a0.length≤9223372036854775807):Con Tryz.prog 137 [(.s 0 0 a0.length 2)] [(.live false true (flat cQ a0))] (.t [(.a (k2 (cZ a0).1)),(iv (cZ a0).2)]) []:=by
 refine aJ Tryz.func137 (by kernel_rfl) fun cx hcx=>?_
 let t0:List (St Tryz.prog):=[.c [0] (aP2 a0 (by omega))]
 cases h0:(((cM a0).2.2:Int) != 0) with
 | true =>
  have q0:=bne_iff_ne.1 h0
  have e:=Eq.refl (cZ a0);conv at e=>rhs;simp only [cZ,h0,aH]
  rw [e]
  exact rt (t0++[.d h0]) [] [] hcx (by kernel_rfl)
 | false =>
  have q0:=bne_eq_false_iff_eq.1 h0
  have e:=Eq.refl (cZ a0);conv at e=>rhs;simp only [cZ,h0,aH]
  rw [e]
  exact rt (t0++[.d h0,.c [] (aDs (cM a0).1 (cM a0).2.1)]) [] [] hcx (by kernel_rfl)
def tI (a0:Int)(a1:Int):Int :=
 (bif (decide (((Int.tmod a0 a1):Int) < 0)) then
  (W ((W (Int.tdiv a0 a1)) - 1))
 else
  (W (Int.tdiv a0 a1)))
theorem aXp (a0:Int)(a1:Int)(ha:a1≠0):Con Tryz.prog 166 [(iv a0),(iv a1)] [] (iv (tI a0 a1)) []:=by
 refine aJ Tryz.func166 (by kernel_rfl) fun cx hcx=>?_
 let t0:List (St Tryz.prog):=[.p (show(a1:Int)≠0 from by first | omega | (rw [aD]<;>omega) | exact eD _),.p (show(a1:Int)≠0 from by first | omega | (rw [aD]<;>omega) | exact eD _)]
 cases h0:(decide (((Int.tmod a0 a1):Int) < 0)) with
 | true =>
  have q0:=bY h0
  have e:=Eq.refl (tI a0 a1);conv at e=>rhs;simp only [tI,h0,aH]
  rw [e]
  exact rt (t0++[.d h0]) [] [] hcx (by kernel_rfl)
 | false =>
  have q0:=cF h0
  have e:=Eq.refl (tI a0 a1);conv at e=>rhs;simp only [tI,h0,aH]
  rw [e]
  exact rt (t0++[.d h0]) [] [] hcx (by kernel_rfl)
def vE (a0:Int)(a1:Int):Int :=
 (W (0 - (tI (W (0 - a0)) a1)))
theorem aXq (a0:Int)(a1:Int)(ha:a1≠0):Con Tryz.prog 167 [(iv a0),(iv a1)] [] (iv (vE a0 a1)) []:=by
 refine aJ Tryz.func167 (by kernel_rfl) fun cx hcx=>?_
 have e:=Eq.refl (vE a0 a1);conv at e=>rhs;simp only [vE]
 rw [e]
 exact rt [.c [] (aXp (W (0 - a0)) a1  (by(try simp only [Lt,kE,kF]);omega))] [] [] hcx (by kernel_rfl)
def jN (a0:List (Int×Int)):(Int×Int)×Int :=
 (bif (((cM a0).2.2:Int) != 0) then
  ((0,0),(cM a0).2.2)
 else
  (bif (((a0.length:Int):Int) == 0) then
   ((0,0),1)
  else
   ((iQ (tI (cM a0).1 (a0.length:Int)) (vE (cM a0).2.1 (a0.length:Int))).1,(iQ (tI (cM a0).1 (a0.length:Int)) (vE (cM a0).2.1 (a0.length:Int))).2)))
theorem aXr (a0:List (Int×Int))(l0:a0.length≤9223372036854775807):Con Tryz.prog 158 [(.s 0 0 a0.length 2)] [(.live false true (flat cQ a0))] (.t [(.a (k2 (jN a0).1)),(iv (jN a0).2)]) []:=by
 refine aJ Tryz.func158 (by kernel_rfl) fun cx hcx=>?_
 let t0:List (St Tryz.prog):=[.c [0] (aP2 a0 (by omega))]
 cases h0:(((cM a0).2.2:Int) != 0) with
 | true =>
  have q0:=bne_iff_ne.1 h0
  have e:=Eq.refl (jN a0);conv at e=>rhs;simp only [jN,h0,aH]
  rw [e]
  exact rt (t0++[.d h0]) [] [] hcx (by kernel_rfl)
 | false =>
  have q0:=bne_eq_false_iff_eq.1 h0
  let t1:List (St Tryz.prog):=(t0++[.d h0])
  cases h1:(((a0.length:Int):Int) == 0) with
  | true =>
   have q1:=eq_of_beq h1
   have e:=Eq.refl (jN a0);conv at e=>rhs;simp only [jN,h0,h1,aH]
   rw [e]
   exact rt (t1++[.d h1]) [] [] hcx (by kernel_rfl)
  | false =>
   have q1:=ne_of_beq_false h1
   have e:=Eq.refl (jN a0);conv at e=>rhs;simp only [jN,h0,h1,aH]
   rw [e]
   exact rt (t1++[.d h1,.c [] (aXp (cM a0).1 (a0.length:Int)  (by(try simp only [Lt,kE,kF]);omega)),.c [] (aXq (cM a0).2.1 (a0.length:Int)  (by(try simp only [Lt,kE,kF]);omega)),.c [] (aDs (tI (cM a0).1 (a0.length:Int)) (vE (cM a0).2.1 (a0.length:Int)))]) [] [] hcx (by kernel_rfl)
noncomputable def gO:Code:=(aE [1,1,0,1] [] (aG Tryz.f164) []).1
noncomputable def gP:List K:=(aE [1,1,0,1] [] (aG Tryz.f164) []).2
def fL (a0:Zt×Zt×Zt)(a1:List Zt)(v1 v2:Int):LS:=⟨iH 44 [(1,(.s 0 0 a1.length 3)),(2,(.p 1 0)),(5,(iv v1)),(6,(iv v2))],[(.live false true (flat dT a1)),(.live true false (k9 a0))]⟩
def bQ (a0:Zt×Zt×Zt)(a1:List Zt):Int×Int→(Int×Int)⊕(Int)
 | (v1,v2) =>
  (bif (decide ((v2:Int) < (a1.length:Int))) then
   (bif (decide (((cC (aT a0.1 (a1.getD (toNat v2) default)) (aT a0.1 (a1.getD (toNat v2) default))):Int) > v1)) then
    (bif (decide (((cC (aT a0.2.1 (a1.getD (toNat v2) default)) (aT a0.2.1 (a1.getD (toNat v2) default))):Int) > (cC (aT a0.1 (a1.getD (toNat v2) default)) (aT a0.1 (a1.getD (toNat v2) default))))) then
     (bif (decide (((cC (aT a0.2.2 (a1.getD (toNat v2) default)) (aT a0.2.2 (a1.getD (toNat v2) default))):Int) > (cC (aT a0.2.1 (a1.getD (toNat v2) default)) (aT a0.2.1 (a1.getD (toNat v2) default))))) then
      (.inl ((cC (aT a0.2.2 (a1.getD (toNat v2) default)) (aT a0.2.2 (a1.getD (toNat v2) default))),(v2+1)))
     else
      (.inl ((cC (aT a0.2.1 (a1.getD (toNat v2) default)) (aT a0.2.1 (a1.getD (toNat v2) default))),(v2+1))))
    else
     (bif (decide (((cC (aT a0.2.2 (a1.getD (toNat v2) default)) (aT a0.2.2 (a1.getD (toNat v2) default))):Int) > (cC (aT a0.1 (a1.getD (toNat v2) default)) (aT a0.1 (a1.getD (toNat v2) default))))) then
      (.inl ((cC (aT a0.2.2 (a1.getD (toNat v2) default)) (aT a0.2.2 (a1.getD (toNat v2) default))),(v2+1)))
     else
      (.inl ((cC (aT a0.1 (a1.getD (toNat v2) default)) (aT a0.1 (a1.getD (toNat v2) default))),(v2+1)))))
   else
    (bif (decide (((cC (aT a0.2.1 (a1.getD (toNat v2) default)) (aT a0.2.1 (a1.getD (toNat v2) default))):Int) > v1)) then
     (bif (decide (((cC (aT a0.2.2 (a1.getD (toNat v2) default)) (aT a0.2.2 (a1.getD (toNat v2) default))):Int) > (cC (aT a0.2.1 (a1.getD (toNat v2) default)) (aT a0.2.1 (a1.getD (toNat v2) default))))) then
      (.inl ((cC (aT a0.2.2 (a1.getD (toNat v2) default)) (aT a0.2.2 (a1.getD (toNat v2) default))),(v2+1)))
     else
      (.inl ((cC (aT a0.2.1 (a1.getD (toNat v2) default)) (aT a0.2.1 (a1.getD (toNat v2) default))),(v2+1))))
    else
     (bif (decide (((cC (aT a0.2.2 (a1.getD (toNat v2) default)) (aT a0.2.2 (a1.getD (toNat v2) default))):Int) > v1)) then
      (.inl ((cC (aT a0.2.2 (a1.getD (toNat v2) default)) (aT a0.2.2 (a1.getD (toNat v2) default))),(v2+1)))
     else
      (.inl (v1,(v2+1))))))
  else
   (.inr v1))
theorem aP4 (a0:Zt×Zt×Zt)(a1:List Zt)(l1:a1.length≤9223372036854775807) {cx:Cx} (hcx:cx.base=1):∀(n:Nat)(v1 v2:Int),0≤v2→toNat ((a1.length:Int) - v2) < n→Aw.Good Tryz.prog none 9 (bodyPost Tryz.prog Tryz.f164 (RR cx (iv (aB (bQ a0 a1) n (v1,v2))) [] [])) cx [] (.l gO n::gP) (fL a0 a1 v1 v2):=by
 intro n
 induction n with
 | zero=>intro v1 v2 hi hn;exact absurd hn (iG _)
 | succ n ih =>
   intro v1 v2 hi hn
   refine aI ?_
   cases h0:(decide ((v2:Int) < (a1.length:Int))) with
   | true =>
    have q0:=bY h0
    let t1:List (St Tryz.prog):=[.d h0,.u 200,.T,.i 0 3 (by decide),.i v2 (a1.length),.L bL a1 v2 0 3,.c [] (aFv a0.1 (a1.getD (toNat v2) default)),.c [] (aFx (aT a0.1 (a1.getD (toNat v2) default)) (aT a0.1 (a1.getD (toNat v2) default)))]
    cases h1:(decide (((cC (aT a0.1 (a1.getD (toNat v2) default)) (aT a0.1 (a1.getD (toNat v2) default))):Int) > v1)) with
    | true =>
     have q1:=bY h1
     let t2:List (St Tryz.prog):=(t1++[.d h1,.u 0,.T,.i 1 3 (by decide),.i v2 (a1.length),.L bL a1 v2 0 3,.c [] (aFv a0.2.1 (a1.getD (toNat v2) default)),.c [] (aFx (aT a0.2.1 (a1.getD (toNat v2) default)) (aT a0.2.1 (a1.getD (toNat v2) default)))])
     cases h2:(decide (((cC (aT a0.2.1 (a1.getD (toNat v2) default)) (aT a0.2.1 (a1.getD (toNat v2) default))):Int) > (cC (aT a0.1 (a1.getD (toNat v2) default)) (aT a0.1 (a1.getD (toNat v2) default))))) with
     | true =>
      have q2:=bY h2
      let t3:List (St Tryz.prog):=(t2++[.d h2,.u 0,.T,.i 2 3 (by decide),.i v2 (a1.length),.L bL a1 v2 0 3,.c [] (aFv a0.2.2 (a1.getD (toNat v2) default)),.c [] (aFx (aT a0.2.2 (a1.getD (toNat v2) default)) (aT a0.2.2 (a1.getD (toNat v2) default)))])
      cases h3:(decide (((cC (aT a0.2.2 (a1.getD (toNat v2) default)) (aT a0.2.2 (a1.getD (toNat v2) default))):Int) > (cC (aT a0.2.1 (a1.getD (toNat v2) default)) (aT a0.2.1 (a1.getD (toNat v2) default))))) with
      | true =>
       have q3:=bY h3
       have e:=Eq.refl (bQ a0 a1 (v1,v2));conv at e=>rhs;simp only [bQ,h0,h1,h2,h3,aH]
       rw [aA e]
       refine ba (t3++[.d h3,.u 0,.F]) [] [1,2,5,6] [1] hcx (m:=n) gO (gP) (fL a0 a1 (cC (aT a0.2.2 (a1.getD (toNat v2) default)) (aT a0.2.2 (a1.getD (toNat v2) default))) (W (v2+1))) (by kernel_rfl) ?_
       have z0:(W (v2+1))=(v2+1):=aD (by omega) (by omega)
       rw [z0]
       exact ih (cC (aT a0.2.2 (a1.getD (toNat v2) default)) (aT a0.2.2 (a1.getD (toNat v2) default))) (v2+1) (by(try simp only [Ls]);omega) (by(try simp only [Ls]);omega)
      | false =>
       have q3:=cF h3
       have e:=Eq.refl (bQ a0 a1 (v1,v2));conv at e=>rhs;simp only [bQ,h0,h1,h2,h3,aH]
       rw [aA e]
       refine ba (t3++[.d h3,.u 0,.F]) [] [1,2,5,6] [1] hcx (m:=n) gO (gP) (fL a0 a1 (cC (aT a0.2.1 (a1.getD (toNat v2) default)) (aT a0.2.1 (a1.getD (toNat v2) default))) (W (v2+1))) (by kernel_rfl) ?_
       have z0:(W (v2+1))=(v2+1):=aD (by omega) (by omega)
       rw [z0]
       exact ih (cC (aT a0.2.1 (a1.getD (toNat v2) default)) (aT a0.2.1 (a1.getD (toNat v2) default))) (v2+1) (by(try simp only [Ls]);omega) (by(try simp only [Ls]);omega)
     | false =>
      have q2:=cF h2
      let t3:List (St Tryz.prog):=(t2++[.d h2,.u 0,.T,.i 2 3 (by decide),.i v2 (a1.length),.L bL a1 v2 0 3,.c [] (aFv a0.2.2 (a1.getD (toNat v2) default)),.c [] (aFx (aT a0.2.2 (a1.getD (toNat v2) default)) (aT a0.2.2 (a1.getD (toNat v2) default)))])
      cases h3:(decide (((cC (aT a0.2.2 (a1.getD (toNat v2) default)) (aT a0.2.2 (a1.getD (toNat v2) default))):Int) > (cC (aT a0.1 (a1.getD (toNat v2) default)) (aT a0.1 (a1.getD (toNat v2) default))))) with
      | true =>
       have q3:=bY h3
       have e:=Eq.refl (bQ a0 a1 (v1,v2));conv at e=>rhs;simp only [bQ,h0,h1,h2,h3,aH]
       rw [aA e]
       refine ba (t3++[.d h3,.u 0,.F]) [] [1,2,5,6] [1] hcx (m:=n) gO (gP) (fL a0 a1 (cC (aT a0.2.2 (a1.getD (toNat v2) default)) (aT a0.2.2 (a1.getD (toNat v2) default))) (W (v2+1))) (by kernel_rfl) ?_
       have z0:(W (v2+1))=(v2+1):=aD (by omega) (by omega)
       rw [z0]
       exact ih (cC (aT a0.2.2 (a1.getD (toNat v2) default)) (aT a0.2.2 (a1.getD (toNat v2) default))) (v2+1) (by(try simp only [Ls]);omega) (by(try simp only [Ls]);omega)
      | false =>
       have q3:=cF h3
       have e:=Eq.refl (bQ a0 a1 (v1,v2));conv at e=>rhs;simp only [bQ,h0,h1,h2,h3,aH]
       rw [aA e]
       refine ba (t3++[.d h3,.u 0,.F]) [] [1,2,5,6] [1] hcx (m:=n) gO (gP) (fL a0 a1 (cC (aT a0.1 (a1.getD (toNat v2) default)) (aT a0.1 (a1.getD (toNat v2) default))) (W (v2+1))) (by kernel_rfl) ?_
       have z0:(W (v2+1))=(v2+1):=aD (by omega) (by omega)
       rw [z0]
       exact ih (cC (aT a0.1 (a1.getD (toNat v2) default)) (aT a0.1 (a1.getD (toNat v2) default))) (v2+1) (by(try simp only [Ls]);omega) (by(try simp only [Ls]);omega)
    | false =>
     have q1:=cF h1
     let t2:List (St Tryz.prog):=(t1++[.d h1,.u 0,.T,.i 1 3 (by decide),.i v2 (a1.length),.L bL a1 v2 0 3,.c [] (aFv a0.2.1 (a1.getD (toNat v2) default)),.c [] (aFx (aT a0.2.1 (a1.getD (toNat v2) default)) (aT a0.2.1 (a1.getD (toNat v2) default)))])
     cases h2:(decide (((cC (aT a0.2.1 (a1.getD (toNat v2) default)) (aT a0.2.1 (a1.getD (toNat v2) default))):Int) > v1)) with
     | true =>
      have q2:=bY h2
      let t3:List (St Tryz.prog):=(t2++[.d h2,.u 0,.T,.i 2 3 (by decide),.i v2 (a1.length),.L bL a1 v2 0 3,.c [] (aFv a0.2.2 (a1.getD (toNat v2) default)),.c [] (aFx (aT a0.2.2 (a1.getD (toNat v2) default)) (aT a0.2.2 (a1.getD (toNat v2) default)))])
      cases h3:(decide (((cC (aT a0.2.2 (a1.getD (toNat v2) default)) (aT a0.2.2 (a1.getD (toNat v2) default))):Int) > (cC (aT a0.2.1 (a1.getD (toNat v2) default)) (aT a0.2.1 (a1.getD (toNat v2) default))))) with
      | true =>
       have q3:=bY h3
       have e:=Eq.refl (bQ a0 a1 (v1,v2));conv at e=>rhs;simp only [bQ,h0,h1,h2,h3,aH]
       rw [aA e]
       refine ba (t3++[.d h3,.u 0,.F]) [] [1,2,5,6] [1] hcx (m:=n) gO (gP) (fL a0 a1 (cC (aT a0.2.2 (a1.getD (toNat v2) default)) (aT a0.2.2 (a1.getD (toNat v2) default))) (W (v2+1))) (by kernel_rfl) ?_
       have z0:(W (v2+1))=(v2+1):=aD (by omega) (by omega)
       rw [z0]
       exact ih (cC (aT a0.2.2 (a1.getD (toNat v2) default)) (aT a0.2.2 (a1.getD (toNat v2) default))) (v2+1) (by(try simp only [Ls]);omega) (by(try simp only [Ls]);omega)
      | false =>
       have q3:=cF h3
       have e:=Eq.refl (bQ a0 a1 (v1,v2));conv at e=>rhs;simp only [bQ,h0,h1,h2,h3,aH]
       rw [aA e]
       refine ba (t3++[.d h3,.u 0,.F]) [] [1,2,5,6] [1] hcx (m:=n) gO (gP) (fL a0 a1 (cC (aT a0.2.1 (a1.getD (toNat v2) default)) (aT a0.2.1 (a1.getD (toNat v2) default))) (W (v2+1))) (by kernel_rfl) ?_
       have z0:(W (v2+1))=(v2+1):=aD (by omega) (by omega)
       rw [z0]
       exact ih (cC (aT a0.2.1 (a1.getD (toNat v2) default)) (aT a0.2.1 (a1.getD (toNat v2) default))) (v2+1) (by(try simp only [Ls]);omega) (by(try simp only [Ls]);omega)
     | false =>
      have q2:=cF h2
      let t3:List (St Tryz.prog):=(t2++[.d h2,.u 0,.T,.i 2 3 (by decide),.i v2 (a1.length),.L bL a1 v2 0 3,.c [] (aFv a0.2.2 (a1.getD (toNat v2) default)),.c [] (aFx (aT a0.2.2 (a1.getD (toNat v2) default)) (aT a0.2.2 (a1.getD (toNat v2) default)))])
      cases h3:(decide (((cC (aT a0.2.2 (a1.getD (toNat v2) default)) (aT a0.2.2 (a1.getD (toNat v2) default))):Int) > v1)) with
      | true =>
       have q3:=bY h3
       have e:=Eq.refl (bQ a0 a1 (v1,v2));conv at e=>rhs;simp only [bQ,h0,h1,h2,h3,aH]
       rw [aA e]
       refine ba (t3++[.d h3,.u 0,.F]) [] [1,2,5,6] [1] hcx (m:=n) gO (gP) (fL a0 a1 (cC (aT a0.2.2 (a1.getD (toNat v2) default)) (aT a0.2.2 (a1.getD (toNat v2) default))) (W (v2+1))) (by kernel_rfl) ?_
       have z0:(W (v2+1))=(v2+1):=aD (by omega) (by omega)
       rw [z0]
       exact ih (cC (aT a0.2.2 (a1.getD (toNat v2) default)) (aT a0.2.2 (a1.getD (toNat v2) default))) (v2+1) (by(try simp only [Ls]);omega) (by(try simp only [Ls]);omega)
      | false =>
       have q3:=cF h3
       have e:=Eq.refl (bQ a0 a1 (v1,v2));conv at e=>rhs;simp only [bQ,h0,h1,h2,h3,aH]
       rw [aA e]
       refine ba (t3++[.d h3,.u 0,.F]) [] [1,2,5,6] [1] hcx (m:=n) gO (gP) (fL a0 a1 v1 (W (v2+1))) (by kernel_rfl) ?_
       have z0:(W (v2+1))=(v2+1):=aD (by omega) (by omega)
       rw [z0]
       exact ih v1 (v2+1) (by(try simp only [Ls]);omega) (by(try simp only [Ls]);omega)
   | false =>
    have q0:=cF h0
    have e:=Eq.refl (bQ a0 a1 (v1,v2));conv at e=>rhs;simp only [bQ,h0,aH]
    rw [aF,e]
    exact rt [.d h0] [] [] hcx (by kernel_rfl)
def jO (a0:Zt×Zt×Zt)(a1:List Zt):Int :=
 (aB (bQ a0 a1) (toNat ((a1.length:Int) - 0)+1) (0,0))
theorem aXs (a0:Zt×Zt×Zt)(a1:List Zt)(l1:a1.length≤9223372036854775807):Con Tryz.prog 164 [(.a (k9 a0)),(.s 0 0 a1.length 3)] [(.live false true (flat dT a1))] (iv (jO a0 a1)) []:=by
 refine aJ Tryz.func164 (by kernel_rfl) fun cx hcx=>?_
 have e:=Eq.refl (jO a0 a1);conv at e=>rhs;simp only [jO]
 rw [e]
 refine en [] [] [1,2,5,6] [1] hcx gO (gP) (fL a0 a1 0 0) (toNat ((a1.length:Int) - 0)+1) (by kernel_rfl) ?_
 exact aP4 a0 a1 l1 hcx (toNat ((a1.length:Int) - 0)+1) 0 0 (by(try simp only [Ls]);omega) (by(try simp only [Ls]);omega)
noncomputable def aBy:Code:=(aE [1,1,0,1] [] (aG Tryz.f175) []).1
noncomputable def aBz:List K:=(aE [1,1,0,1] [] (aG Tryz.f175) []).2
def xE (a0:List (Int))(v1 v2 v3:Int):LS:=⟨iH 33 [(0,(.s 0 0 a0.length 1)),(4,(iv v1)),(5,(iv v2)),(6,(iv v3))],[(.live false true (flat c3 a0))]⟩
def nU (a0:List (Int)):Zt→Zt⊕(Int×Int)
 | (v1,v2,v3) =>
  (bif (decide ((v3:Int) < (a0.length:Int))) then
   (.inl ((if((a0.getD (toNat v3) default):Int) < v1 then(a0.getD (toNat v3) default) else v1),(if(v2:Int) < (a0.getD (toNat v3) default) then(a0.getD (toNat v3) default) else v2),(v3+1)))
  else
   (.inr (v1,v2)))
theorem aP5 (a0:List (Int))(l0:a0.length≤9223372036854775807)(hl:0 < a0.length) {cx:Cx} (hcx:cx.base=1):∀(n:Nat)(v1 v2 v3:Int),0≤v3→toNat ((a0.length:Int) - v3) < n→Aw.Good Tryz.prog none 9 (bodyPost Tryz.prog Tryz.f175 (RR cx (.t (k2 (aB (nU a0) n (v1,v2,v3)))) [] [])) cx [] (.l aBy n::aBz) (xE a0 v1 v2 v3):=by
 intro n
 induction n with
 | zero=>intro v1 v2 v3 hi hn;exact absurd hn (iG _)
 | succ n ih =>
   intro v1 v2 v3 hi hn
   refine aI ?_
   cases h0:(decide ((v3:Int) < (a0.length:Int))) with
   | true =>
    have q0:=bY h0
    have e:=Eq.refl (nU a0 (v1,v2,v3));conv at e=>rhs;simp only [nU,h0,aH]
    rw [aA e]
    refine ba [.d h0,.i v3 (a0.length),.L fU a0 v3 0 1,.i v3 (a0.length),.L fU a0 v3 0 1] [] [0,4,5,6] [] hcx (m:=n) aBy (aBz) (xE a0 (if((a0.getD (toNat v3) default):Int) < v1 then(a0.getD (toNat v3) default) else v1) (if(v2:Int) < (a0.getD (toNat v3) default) then(a0.getD (toNat v3) default) else v2) (W (v3+1))) (by kernel_rfl) ?_
    have z0:(W (v3+1))=(v3+1):=aD (by omega) (by omega)
    rw [z0]
    exact ih (if((a0.getD (toNat v3) default):Int) < v1 then(a0.getD (toNat v3) default) else v1) (if(v2:Int) < (a0.getD (toNat v3) default) then(a0.getD (toNat v3) default) else v2) (v3+1) (by(try simp only [Ls]);omega) (by(try simp only [Ls]);omega)
   | false =>
    have q0:=cF h0
    have e:=Eq.refl (nU a0 (v1,v2,v3));conv at e=>rhs;simp only [nU,h0,aH]
    rw [aF,e]
    exact rt [.d h0] [] [] hcx (by kernel_rfl)
def cJ (a0:List (Int)):Int×Int :=
 (aB (nU a0) (toNat ((a0.length:Int) - 0)+1) ((a0.getD (toNat 0) default),(a0.getD (toNat 0) default),0))
theorem aP6 (a0:List (Int))(l0:a0.length≤9223372036854775807)(hl:0 < a0.length):Con Tryz.prog 175 [(.s 0 0 a0.length 1)] [(.live false true (flat c3 a0))] (.t (k2 (cJ a0))) []:=by
 refine aJ Tryz.func175 (by kernel_rfl) fun cx hcx=>?_
 have e:=Eq.refl (cJ a0);conv at e=>rhs;simp only [cJ]
 rw [e]
 refine en [.i 0 (a0.length),.L fU a0 0 0 1,.i 0 (a0.length),.L fU a0 0 0 1] [] [0,4,5,6] [] hcx aBy (aBz) (xE a0 (a0.getD (toNat 0) default) (a0.getD (toNat 0) default) 0) (toNat ((a0.length:Int) - 0)+1) (by kernel_rfl) ?_
 exact aP5 a0 l0 hl hcx (toNat ((a0.length:Int) - 0)+1) (a0.getD (toNat 0) default) (a0.getD (toNat 0) default) 0 (by(try simp only [Ls]);omega) (by(try simp only [Ls]);omega)
def fV (a0:List (Int))(a1:List (Int)):Int :=
 (W ((if((if(0:Int) < (W ((cJ a0).1 - (cJ a1).2)) then(W ((cJ a0).1 - (cJ a1).2)) else 0):Int) < (W ((cJ a1).1 - (cJ a0).2)) then(W ((cJ a1).1 - (cJ a0).2)) else(if(0:Int) < (W ((cJ a0).1 - (cJ a1).2)) then(W ((cJ a0).1 - (cJ a1).2)) else 0))*(if((if(0:Int) < (W ((cJ a0).1 - (cJ a1).2)) then(W ((cJ a0).1 - (cJ a1).2)) else 0):Int) < (W ((cJ a1).1 - (cJ a0).2)) then(W ((cJ a1).1 - (cJ a0).2)) else(if(0:Int) < (W ((cJ a0).1 - (cJ a1).2)) then(W ((cJ a0).1 - (cJ a1).2)) else 0))))
theorem aB0 (a0:List (Int))(a1:List (Int))(l0:a0.length≤9223372036854775807)(l1:a1.length≤9223372036854775807)(h1:0 < a0.length)(h2:0 < a1.length):Con Tryz.prog 172 [(.s 0 0 a0.length 1),(.s 1 0 a1.length 1)] [(.live false true (flat c3 a0)),(.live false true (flat c3 a1))] (iv (fV a0 a1)) []:=by
 refine aJ Tryz.func172 (by kernel_rfl) fun cx hcx=>?_
 have e:=Eq.refl (fV a0 a1);conv at e=>rhs;simp only [fV]
 rw [e]
 exact rt [.c [0] (aP6 a0 (by omega) (by(try simp only [Lt,kE,kF]);omega)),.c [1] (aP6 a1 (by omega) (by(try simp only [Lt,kE,kF]);omega))] [] [] hcx (by kernel_rfl)
def gZ (a0:Zt×Zt×Zt)(a1:Zt×Zt×Zt):Int :=
 (W ((W ((fV (bZ a0 0) (bZ a1 0))+(fV (bZ a0 1) (bZ a1 1))))+(fV (bZ a0 2) (bZ a1 2))))
theorem aXt (a0:Zt×Zt×Zt)(a1:Zt×Zt×Zt):Con Tryz.prog 165 [(.a (k9 a0)),(.s 0 0 3 3)] [(.live false false (k9 a1))] (iv (gZ a0 a1)) []:=by
 refine aJ Tryz.func165 (by kernel_rfl) fun cx hcx=>?_
 have e:=Eq.refl (gZ a0 a1);conv at e=>rhs;simp only [gZ]
 rw [e]
 exact rt [.c [2] (xC a0 0),.c [0] (xC a1 0),.c [3,4] (aB0 (bZ a0 0) (bZ a1 0) (by(try simp only [Lt,kE,kF]);omega) (by(try simp only [Lt,kE,kF]);omega) (by(try simp only [Lt,kE,kF]);omega) (by(try simp only [Lt,kE,kF]);omega)),.c [2] (xC a0 1),.c [0] (xC a1 1),.c [5,6] (aB0 (bZ a0 1) (bZ a1 1) (by(try simp only [Lt,kE,kF]);omega) (by(try simp only [Lt,kE,kF]);omega) (by(try simp only [Lt,kE,kF]);omega) (by(try simp only [Lt,kE,kF]);omega)),.c [2] (xC a0 2),.c [0] (xC a1 2),.c [7,8] (aB0 (bZ a0 2) (bZ a1 2) (by(try simp only [Lt,kE,kF]);omega) (by(try simp only [Lt,kE,kF]);omega) (by(try simp only [Lt,kE,kF]);omega) (by(try simp only [Lt,kE,kF]);omega))] [] [] hcx (by kernel_rfl)
theorem aOe {n a b:Int} (ha:0≤a)(hb:0≤b)(h1:a*a≤n)(h2:n < (a+1)*(a+1))(h3:b*b≤n)(h4:n < (b+1)*(b+1)):a=b:=by
 rcases Int.lt_trichotomy a b with h | h | h
 · have:(a+1)*(a+1)≤b*b:=Int.mul_le_mul (by omega) (by omega) (by omega) hb
   omega
 · exact h
 · have:(b+1)*(b+1)≤a*a:=Int.mul_le_mul (by omega) (by omega) (by omega) ha
   omega
def IsRt (n r:Int):Prop:=0≤r∧r*r≤n∧n < (r+1)*(r+1)
theorem IsRt.eq {n a b:Int} (h:IsRt n a)(h':IsRt n b):a=b:=aOe h.1 h'.1 h.2.1 h.2.2 h'.2.1 h'.2.2
theorem IsRt.le {n r m:Int} (h:IsRt n r)(hm:0≤m)(hn:n < (m+1)*(m+1)):r≤m:=by
 rcases Int.lt_or_le m r with hlt | hle
 · have:(m+1)*(m+1)≤r*r:=Int.mul_le_mul (by omega) (by omega) (by omega) h.1
   have:=h.2.1;omega
 · exact hle
theorem IsRt.ge {n r m:Int} (h:IsRt n r)(hm:0≤m)(hn:m*m≤n):m≤r:=by
 rcases Int.lt_or_le r m with hlt | hle
 · have:(r+1)*(r+1)≤m*m:=Int.mul_le_mul (by omega) (by omega) (by have:=h.1;omega) hm
   have:=h.2.2;omega
 · exact hle
theorem IsRt.mono {n m a b:Int} (h:IsRt n a)(h':IsRt m b)(hnm:n≤m):a≤b:=h'.ge h.1 (Int.le_trans h.2.1 hnm)
theorem aEl {n:Int} {S:Int×Int→(Int×Int)⊕Int} (hS:∀k b,0≤k→0 < b→k+b≤2147483648→S (k,b)=if(k+b)*(k+b)≤n then .inl (k+b,b / 2) else .inl (k,b / 2))(h0:∀k,S (k,0)=.inr k) :
   ∀(j f:Nat) (k:Int),j+2≤f→0≤k→k+2*2 ^ j≤2147483648→k*k≤n→n < (k+2*2 ^ j)*(k+2*2 ^ j)→IsRt n (aB S f (k,2 ^ j)):=by
 intro j
 induction j with
 | zero =>
   intro f k hf hk hb h1 h2
   obtain⟨f,rfl⟩:∃g,f=g+2:=⟨f - 2,by omega⟩
   simp only [Int.pow_zero] at h2 hb ⊢
   have hs:=hS k 1 hk (by omega) (by omega)
   by_cases hc:(k+1)*(k+1)≤n
   · rw [if_pos hc] at hs
     rw [aA hs,show((1:Int) / 2)=0 by omega,aO (h0 _)]
     refine⟨by omega,hc,?_⟩
     rw [show k+1+1=k+2*1 by omega];exact h2
   · rw [if_neg hc] at hs
     rw [aA hs,show((1:Int) / 2)=0 by omega,aO (h0 _)]
     exact⟨hk,h1,by omega⟩
 | succ j ih =>
   intro f k hf hk hb h1 h2
   obtain⟨f,rfl⟩:∃g,f=g+1:=⟨f - 1,by omega⟩
   have hp:(0:Int) < 2 ^ j:=Int.pow_pos (by omega)
   rw [Int.pow_succ] at h2 hb ⊢
   have hs:=hS k (2 ^ j*2) hk (by omega) (by omega)
   have hd:(2:Int) ^ j*2 / 2=2 ^ j:=Int.mul_ediv_cancel _ (by omega)
   rw [hd] at hs
   by_cases hc:(k+2 ^ j*2)*(k+2 ^ j*2)≤n
   · rw [if_pos hc] at hs
     rw [aA hs]
     refine ih f _ (by omega) (by omega) (by omega) hc ?_
     rw [show k+2 ^ j*2+2*2 ^ j=k+2*((2:Int) ^ j*2) by omega];exact h2
   · rw [if_neg hc] at hs
     rw [aA hs]
     refine ih f _ (by omega) hk (by omega) h1 ?_
     rw [show k+2*(2:Int) ^ j=k+2 ^ j*2 by omega];omega
theorem aOf {n:Int} {S:Int×Int→(Int×Int)⊕Int} (hS:∀a b,0≤a→a < b→b≤2147483648→S (a,b)=if((a+b+1) / 2)*((a+b+1) / 2)≤n then .inl ((a+b+1) / 2,b) else .inl (a,(a+b+1) / 2 - 1))(h0:∀a,S (a,a)=.inr a) :
   ∀(f:Nat) (a b:Int),0≤a→a≤b→b≤2147483648→b - a < f→a*a≤n→n < (b+1)*(b+1)→IsRt n (aB S f (a,b)):=by
 intro f
 induction f with
 | zero=>intro a b _ h _ hf;omega
 | succ f ih =>
   intro a b ha hab hb hf h1 h2
   by_cases he:a=b
   · subst he
     rw [aO (h0 a)];exact⟨ha,h1,h2⟩
   · have hs:=hS a b ha (by omega) hb
     by_cases hc:((a+b+1) / 2)*((a+b+1) / 2)≤n
     · rw [if_pos hc] at hs
       rw [aA hs]
       exact ih _ _ (by omega) (by omega) hb (by omega) hc h2
     · rw [if_neg hc] at hs
       rw [aA hs]
       refine ih _ _ ha (by omega) (by omega) (by omega) h1 ?_
       rw [show(a+b+1) / 2 - 1+1=(a+b+1) / 2 by omega];omega
theorem aMt {a:Int} (h:0≤a)(h':a≤2147483648):0≤a*a∧a*a≤4611686018427387904:=⟨Int.mul_nonneg h h,Int.le_trans (Int.mul_le_mul h' h' h (by omega)) (by omega)⟩
theorem aMu {n:Int} (h0:0≤n)(h:n < 4611686018427387904):IsRt n (kW n):=by
 unfold kW
 refine aEl (n:=n) (fun k b hk hb hkb=>?_) (fun k=>?_) 30 _ 0 (by decide) (by omega) (by decide) (by omega) (by simpa using h)
 · have h2:decide (b > 0)=true:=by simpa using hb
   have hw:W (k+b)=k+b:=aD (by omega) (by omega)
   have hq:=aMt (a:=k+b) (by omega) hkb
   have hw2:W ((k+b)*(k+b))=(k+b)*(k+b):=aD (by omega) (by omega)
   simp only [nB,h2,cond_true,hw,hw2]
   by_cases hc:(k+b)*(k+b)≤n<;>simp [hc]
 · simp [nB]
theorem xF {n:Int} (h0:0≤n)(h:n < 4611686018427387904):IsRt n (iI n):=by
 unfold iI
 rw [show decide ((4611686018427387904:Int)≤n)=false by simpa using h]
 simp only [cond_false]
 refine aEl (n:=n) (fun k b hk hb hkb=>?_) (fun k=>?_) 30 _ 0 (by decide) (by omega) (by decide) (by omega) (by simpa using h)
 · have h2:((b:Int) == 0)=false:=by rw [beq_eq_false_iff_ne];omega
   have hw:W (k+b)=k+b:=aD (by omega) (by omega)
   have hq:=aMt (a:=k+b) (by omega) hkb
   have hw2:W ((k+b)*(k+b))=(k+b)*(k+b):=aD (by omega) (by omega)
   simp only [qH,h2,cond_false,hw,hw2]
   by_cases hc:(k+b)*(k+b)≤n<;>simp [hc]
 · simp [qH]
theorem aP7 {n:Int} (h0:0≤n)(h:n < 4611686018427387904):IsRt n (iO n):=by
 unfold iO
 refine aOf (n:=n) (fun a b ha hab hb=>?_) (fun a=>?_) _ 0 2147483648 (by omega) (by omega) (by omega) (by decide) (by omega) (by omega)
 · have h2:decide (a < b)=true:=by simpa using hab
   have hw:=aFl (a:=a) (b:=b) (by omega)
   have hw3:=aMq (a:=a) (b:=b) (by omega)
   have hq:=aMt (a:=(a+b+1) / 2) (by omega) (by omega)
   have hw2:W ((a+b+1) / 2*((a+b+1) / 2))=(a+b+1) / 2*((a+b+1) / 2):=aD (by omega) (by omega)
   have hw4:W ((a+b+1) / 2 - 1)=(a+b+1) / 2 - 1:=aD (by omega) (by omega)
   simp only [nC,h2,cond_true,hw,hw2,hw4]
   by_cases hc:(a+b+1) / 2*((a+b+1) / 2)≤n<;>simp [hc]
 · simp [nC]
abbrev P3:=Zt
abbrev PN:=P3×P3×P3
def bd (m:Int)(p:P3):Prop:=(-m≤p.1∧p.1≤m)∧(-m≤p.2.1∧p.2.1≤m)∧(-m≤p.2.2∧p.2.2≤m)
def bdP (m:Int)(p:PN):Prop:=bd m p.1∧bd m p.2.1∧bd m p.2.2
def sb (p q:P3):P3:=(p.1 - q.1,p.2.1 - q.2.1,p.2.2 - q.2.2)
def dt (p q:P3):Int:=p.1*q.1+p.2.1*q.2.1+p.2.2*q.2.2
def cr (p q:P3):P3:=(p.2.1*q.2.2 - p.2.2*q.2.1,p.2.2*q.1 - p.1*q.2.2,p.1*q.2.1 - p.2.1*q.1)
def lG (p:PN):P3:=cr (sb p.2.1 p.1) (sb p.2.2 p.1)
theorem bD {a b x y:Int} (hx:-a≤x∧x≤a)(hy:-b≤y∧y≤b):-(a*b)≤x*y∧x*y≤a*b:=by
 have h1:=Int.mul_nonneg (show 0≤a - x by omega) (show 0≤b - y by omega)
 have h2:=Int.mul_nonneg (show 0≤a+x by omega) (show 0≤b+y by omega)
 have h3:=Int.mul_nonneg (show 0≤a - x by omega) (show 0≤b+y by omega)
 have h4:=Int.mul_nonneg (show 0≤a+x by omega) (show 0≤b - y by omega)
 rw [Int.sub_mul,Int.mul_sub,Int.mul_sub] at h1
 rw [Int.add_mul,Int.mul_add,Int.mul_add] at h2
 rw [Int.sub_mul,Int.mul_add,Int.mul_add] at h3
 rw [Int.add_mul,Int.mul_sub,Int.mul_sub] at h4
 omega
theorem nV {a b:Int} {p q:P3} (hp:bd a p)(hq:bd b q):bd (a+b) (sb p q):=by
 unfold bd at *;simp only [sb];omega
theorem jA (x:Int):0≤x*x:=by
 rcases Int.le_total 0 x with h | h
 · exact Int.mul_nonneg h h
 · exact Int.mul_nonneg_of_nonpos_of_nonpos h h
theorem vF (p:P3):0≤dt p p:=by
 have:=jA p.1;have:=jA p.2.1;have:=jA p.2.2
 simp only [dt];omega
theorem aXu {p:P3} (h:¬(p.1=0∧p.2.1=0∧p.2.2=0)):1≤dt p p:=by
 have:=jA p.1;have:=jA p.2.1;have:=jA p.2.2
 have key:∀x:Int,x≠0→1≤x*x:=fun x hx=>by
   have h0:=jA x
   have:x*x≠0:=Int.mul_ne_zero hx hx
   omega
 simp only [dt]
 by_cases h1:p.1=0
 · by_cases h2:p.2.1=0
   · have:=key p.2.2 (fun h3=>h ⟨h1,h2,h3⟩);omega
   · have:=key _ h2;omega
 · have:=key _ h1;omega
theorem aWe {a:Int} {p q:P3} (hp:bd a p)(hq:bd a q):-(3*(a*a))≤dt p q∧dt p q≤3*(a*a):=by
 have:=bD hp.1 hq.1;have:=bD hp.2.1 hq.2.1;have:=bD hp.2.2 hq.2.2
 simp only [dt];omega
theorem bAt {a:Int} {p q:P3} (hp:bd a p)(hq:bd a q):bd (2*(a*a)) (cr p q):=by
 have:=bD hp.2.1 hq.2.2;have:=bD hp.2.2 hq.2.1;have:=bD hp.2.2 hq.1;have:=bD hp.1 hq.2.2;have:=bD hp.1 hq.2.1;have:=bD hp.2.1 hq.1
 unfold bd;simp only [cr];omega
theorem fsb {p q:P3} (hp:bd 100000 p)(hq:bd 100000 q):bI p q=sb p q:=by
 unfold bd at *;simp only [bI,sb]
 rw [aD (by omega) (by omega),aD (by omega) (by omega),aD (by omega) (by omega)]
theorem fdt {p q:P3} (hp:bd 1000000000 p)(hq:bd 1000000000 q):jL p q=dt p q:=by
 have h1:=bD hp.1 hq.1;have h2:=bD hp.2.1 hq.2.1;have h3:=bD hp.2.2 hq.2.2
 simp only [jL,aBq,dt]
 rw [aD (n:=p.1*q.1) (by omega) (by omega),aD (n:=p.2.1*q.2.1) (by omega) (by omega),aD (n:=p.2.2*q.2.2) (by omega) (by omega),Int.zero_add,aD (n:=p.1*q.1) (by omega) (by omega),aD (n:=p.1*q.1+p.2.1*q.2.1) (by omega) (by omega),aD (by omega) (by omega)]
theorem rdt {p q:P3} (hp:bd 1000000000 p)(hq:bd 1000000000 q):cC p q=dt p q:=by
 have h1:=bD hp.1 hq.1;have h2:=bD hp.2.1 hq.2.1;have h3:=bD hp.2.2 hq.2.2
 simp only [cC,dt]
 rw [aD (n:=p.1*q.1) (by omega) (by omega),aD (n:=p.2.1*q.2.1) (by omega) (by omega),aD (n:=p.2.2*q.2.2) (by omega) (by omega),aD (n:=p.1*q.1+p.2.1*q.2.1) (by omega) (by omega),aD (by omega) (by omega)]
theorem rsb {p q:P3} (hp:bd 100000 p)(hq:bd 100000 q):aT p q=sb p q:=by
 unfold bd at *;simp only [aT,sb]
 rw [aD (by omega) (by omega),aD (by omega) (by omega),aD (by omega) (by omega)]
theorem aXv {p q:P3} (hp:bd 1000000000 p)(hq:bd 1000000000 q) :
   ((W ((W (p.2.1*q.2.2)) - (W (p.2.2*q.2.1)))),(W ((W (p.2.2*q.1)) - (W (p.1*q.2.2)))),(W ((W (p.1*q.2.1)) - (W (p.2.1*q.1)))))=cr p q:=by
 have h1:=bD hp.2.1 hq.2.2;have h2:=bD hp.2.2 hq.2.1;have h3:=bD hp.2.2 hq.1;have h4:=bD hp.1 hq.2.2;have h5:=bD hp.1 hq.2.1;have h6:=bD hp.2.1 hq.1
 simp only [cr]
 rw [aD (n:=p.2.1*q.2.2) (by omega) (by omega),aD (n:=p.2.2*q.2.1) (by omega) (by omega),aD (n:=p.2.2*q.1) (by omega) (by omega),aD (n:=p.1*q.2.2) (by omega) (by omega),aD (n:=p.1*q.2.1) (by omega) (by omega),aD (n:=p.2.1*q.1) (by omega) (by omega),
   aD (by omega) (by omega),aD (by omega) (by omega),aD (by omega) (by omega)]
theorem fcr {p q:P3} (hp:bd 1000000000 p)(hq:bd 1000000000 q):gH p q=cr p q:=aXv hp hq
theorem scr {p q:P3} (hp:bd 1000000000 p)(hq:bd 1000000000 q):aKc p q=cr p q:=aXv hp hq
theorem rcr {p q:P3} (hp:bd 1000000000 p)(hq:bd 1000000000 q):aFw p q=cr p q:=aXv hp hq
theorem ssb {p q:P3} (hp:bd 100000 p)(hq:bd 100000 q):aBp p q=sb p q:=by
 unfold bd at *;simp only [aBp,F39,sb]
 rw [aD (n:=-1*q.1) (by omega) (by omega),aD (n:=-1*q.2.1) (by omega) (by omega),aD (n:=-1*q.2.2) (by omega) (by omega),aD (by omega) (by omega),aD (by omega) (by omega),aD (by omega) (by omega)]
 refine Prod.ext (by simp only;omega) (Prod.ext (by simp only;omega) (by simp only;omega))
theorem bd.mono {a b:Int} {p:P3} (h:bd a p)(hab:a≤b):bd b p:=by unfold bd at *;omega
theorem bdP.mono {a b:Int} {p:PN} (h:bdP a p)(hab:a≤b):bdP b p:=⟨h.1.mono hab,h.2.1.mono hab,h.2.2.mono hab⟩
theorem aOg (n a b:Int):aFo n a b=decide (a≤n∧n≤b):=by
 unfold aFo
 by_cases h1:n≥a<;>by_cases h2:n≤b<;>simp [h1,h2]<;>omega
theorem aKh (n a b:Int):aFy n a b=decide (a≤n∧n≤b):=by
 unfold aFy
 by_cases h1:n≥a<;>by_cases h2:n≤b<;>simp [h1,h2]<;>omega
theorem tJ (n a b:Int):nS n a b=decide (a≤n∧n≤b):=by
 unfold nS
 by_cases h1:n≥a<;>by_cases h2:n≤b<;>simp [h1,h2]<;>omega
theorem tK (n a b:Int):F78 n a b=decide (a≤n∧n≤b):=by
 unfold F78
 by_cases h1:n≥a<;>by_cases h2:n≤b<;>simp [h1,h2]<;>omega
theorem aF2 (n a b:Int):qF n a b=decide (a≤n∧n≤b):=by
 unfold qF
 by_cases h1:a≤n<;>by_cases h2:n≤b<;>simp [h1,h2]
theorem bAu {a b c d:Prop} [Decidable a] [Decidable b] [Decidable c] [Decidable d] (h:(a∧b∧c)↔d):(bif decide a then(bif decide b then decide c else false) else false)=decide d:=by
 by_cases h1:a
 · by_cases h2:b
   · rw [bW h1,bW h2,cond_true,cond_true]
     by_cases h3:c
     · rw [bW h3,bW (h.1 ⟨h1,h2,h3⟩)]
     · rw [cK h3,cK (fun hd=>h3 (h.2 hd).2.2)]
   · rw [bW h1,cK h2,cond_true,cond_false,cK (fun hd=>h2 (h.2 hd).2.1)]
 · rw [cK h1,cond_false,cK (fun hd=>h1 (h.2 hd).1)]
theorem eq3 (x y z a b:Int):(bif (((x:Int) == 0)&&(((y:Int) == 0)&&(((z:Int) == 0)&&true))) then a else b)=if x=0∧y=0∧z=0 then a else b:=by
 have key:∀t:Int,(t == 0)=decide (t=0):=fun t=>by
   by_cases h:t=0
   · rw [bW h];simpa using h
   · rw [cK h];simpa using h
 rw [key,key,key,Bool.and_true,←Bool.decide_and,←Bool.decide_and]
 by_cases h:x=0∧y=0∧z=0
 · rw [if_pos h,bW h,cond_true]
 · rw [if_neg h,cK h,cond_false]
open Classical in
theorem lU (p:P3):F36 p 64=decide (bd 64 p):=by
 unfold F36
 rw [aF2,aF2,aF2,aD (by omega) (by omega)]
 exact bAu (by unfold bd;omega)
open Classical in
theorem rA (p:P3):F79 p 64=decide (bd 64 p):=by
 unfold F79
 rw [tK,tK,tK,aD (by omega) (by omega)]
 exact bAu (by unfold bd;omega)
open Classical in
noncomputable def vp (p:PN):Int:=if bdP 64 p then(if(lG p).1=0∧(lG p).2.1=0∧(lG p).2.2=0 then 6 else 0) else 1
theorem aWf {p:PN} (h:bdP 64 p):nR p=lG p:=by
 have h1:=h.1.mono (show(64:Int)≤100000 by omega);have h2:=h.2.1.mono (show(64:Int)≤100000 by omega);have h3:=h.2.2.mono (show(64:Int)≤100000 by omega)
 unfold nR lG
 rw [ssb h2 h1,ssb h3 h1]
 exact scr ((nV h.2.1 h.1).mono (by omega)) ((nV h.2.2 h.1).mono (by omega))
theorem aP8 {p:PN} (h:bdP 64 p):lF p=lG p:=by
 have h1:=h.1.mono (show(64:Int)≤100000 by omega);have h2:=h.2.1.mono (show(64:Int)≤100000 by omega);have h3:=h.2.2.mono (show(64:Int)≤100000 by omega)
 unfold lF lG
 rw [rsb h2 h1,rsb h3 h1]
 exact rcr ((nV h.2.1 h.1).mono (by omega)) ((nV h.2.2 h.1).mono (by omega))
theorem bAv {p:PN} (h:bdP 64 p):gH (bI p.2.1 p.1) (bI p.2.2 p.1)=lG p:=by
 have h1:=h.1.mono (show(64:Int)≤100000 by omega);have h2:=h.2.1.mono (show(64:Int)≤100000 by omega);have h3:=h.2.2.mono (show(64:Int)≤100000 by omega)
 unfold lG
 rw [fsb h2 h1,fsb h3 h1]
 exact fcr ((nV h.2.1 h.1).mono (by omega)) ((nV h.2.2 h.1).mono (by omega))
theorem aUl (p:PN):lS p=vp p:=by
 unfold lS vp
 rw [lU,lU,lU]
 by_cases h1:bd 64 p.1
 · by_cases h2:bd 64 p.2.1
   · by_cases h3:bd 64 p.2.2
     · have hb:bdP 64 p:=⟨h1,h2,h3⟩
       rw [aWf hb,if_pos hb]
       rw [eq3];simp [h1,h2,h3]
     · simp [h1,h2,h3,bdP]
   · simp [h1,h2,bdP]
 · simp [h1,bdP]
theorem aUm (p:PN):nT p=vp p:=by
 unfold nT vp
 rw [rA,rA,rA]
 by_cases h1:bd 64 p.1
 · by_cases h2:bd 64 p.2.1
   · by_cases h3:bd 64 p.2.2
     · have hb:bdP 64 p:=⟨h1,h2,h3⟩
       rw [aP8 hb,if_pos hb]
       rw [eq3];simp [h1,h2,h3]
     · simp [h1,h2,h3,bdP]
   · simp [h1,h2,bdP]
 · simp [h1,bdP]
theorem gE {p:PN} (h:vp p=0):bdP 64 p∧1≤dt (lG p) (lG p):=by
 unfold vp at h
 split at h
 · rename_i hb
   split at h
   · cases h
   · rename_i hn;exact⟨hb,aXu hn⟩
 · cases h
theorem aP9 {p:PN} (h:bdP 64 p):bd 32768 (lG p)∧dt (lG p) (lG p)≤3221225472:=by
 have hb:bd (2*(128*128)) (lG p):=bAt (nV h.2.1 h.1) (nV h.2.2 h.1)
 exact⟨hb.mono (by omega),by have:=(aWe hb hb).2;omega⟩
theorem aQa {p:PN} (h:vp p=0):∃k,kW (jL (gH (bI p.2.1 p.1) (bI p.2.2 p.1)) (gH (bI p.2.1 p.1) (bI p.2.2 p.1)))=k∧IsRt (dt (lG p) (lG p)) k∧1≤k∧k≤56755:=by
 obtain⟨hb,hd⟩:=gE h
 obtain⟨hn,hu⟩:=aP9 hb
 rw [bAv hb,fdt (hn.mono (by omega)) (hn.mono (by omega))]
 have:=aMu (n:=dt (lG p) (lG p)) (by omega) (by omega)
 exact⟨_,rfl,this,this.ge (by omega) (by omega),this.le (by omega) (by omega)⟩
theorem aQb {p:PN} (h:lS p=0):W (128*kW (jL (gH (bI p.2.1 p.1) (bI p.2.2 p.1)) (gH (bI p.2.1 p.1) (bI p.2.2 p.1))))≠0:=by
 rw [aUl] at h
 obtain⟨k,e,_,h1,h2⟩:=aQa h
 rw [e,aD (by omega) (by omega)];omega
theorem aUn {p:PN} (h:nT p=0):W (128*sB (cC (lF p) (lF p)))≠0:=by
 rw [aUm] at h
 obtain⟨hb,hd⟩:=gE h
 obtain⟨hn,hu⟩:=aP9 hb
 rw [aP8 hb,rdt (hn.mono (by omega)) (hn.mono (by omega))]
 have:=aP7 (n:=dt (lG p) (lG p)) (by omega) (by omega)
 have h1:=this.ge (m:=1) (by omega) (by omega)
 have h2:=this.le (m:=56755) (by omega) (by omega)
 unfold sB
 rw [aD (by omega) (by omega)];omega
end Go.Proofs.YtaeagjnpobdglaaGreat
namespace Go.Proofs.YtaeagjnpobdglaaGreat
open Go.Proofs Go.Aw Go.RowKit
set_option maxRecDepth 100000
def sO (x:PN):List PN :=
 [(aC x.1 2,aQ (aC x.1 2) (aC x.2.1 2),aQ (aC x.2.2 2) (aC x.1 2)),
  (aQ (aC x.1 2) (aC x.2.1 2),aC x.2.1 2,aQ (aC x.2.1 2) (aC x.2.2 2)),
  (aQ (aC x.2.2 2) (aC x.1 2),aQ (aC x.2.1 2) (aC x.2.2 2),aC x.2.2 2),
  (aQ (aC x.1 2) (aC x.2.1 2),aQ (aC x.2.1 2) (aC x.2.2 2),aQ (aC x.2.2 2) (aC x.1 2))]
def aDt:Nat→List PN→List PN
 | 0,l=>l
 | n+1,l=>aDt n (l.flatMap sO)
theorem yY:∀(n:Nat)(l:List PN),(aDt n l).length=4 ^ n*l.length
 | 0,l=>by simp [aDt]
 | n+1,l=>by
   have:(l.flatMap sO).length=4*l.length:=by
     induction l with
     | nil=>rfl
     | cons x l ih=>rw [List.flatMap_cons,List.length_append,ih];simp only [sO,List.length_cons,List.length_nil];omega
   rw [aDt,yY n,this,Nat.pow_succ]
   rw [←Nat.mul_assoc,Nat.mul_comm (4 ^ n) 4,Nat.mul_comm 4 (4 ^ n)]
theorem aXw (a0:PN)(a1:Int)(l:List PN):∀(f i:Nat)(nx:List PN)(d:Int),l.length - i < f→i≤l.length →
   aB (kN a0 a1) f (l,nx,d,(i:Int))=.inl (nx++(l.drop i).flatMap sO,d+1):=by
 intro f
 induction f with
 | zero=>intro i nx d h;omega
 | succ f ih =>
   intro i nx d h hi
   by_cases hlt:i < l.length
   · have hs:kN a0 a1 (l,nx,d,(i:Int))=.inl (l,nx++sO (l.getD i default),d,((i+1:Nat):Int)):=by
       have:decide ((i:Int) < (l.length:Int))=true:=by simpa using hlt
       simp only [kN,this,cond_true,uJ,sO]
       rfl
     rw [aA hs,ih _ _ _ (by omega) (by omega)]
     have hd:l.drop i=l.getD i default::l.drop (i+1):=by
       rw [List.drop_eq_getElem_cons hlt];simp [fO,hlt]
     rw [hd,List.flatMap_cons,List.append_assoc]
   · have:decide ((i:Int) < (l.length:Int))=false:=by simpa using hlt
     have hs:kN a0 a1 (l,nx,d,(i:Int))=.inr (.inl (nx,d+1)):=by
       simp only [kN,this,cond_false]
     rw [aO hs,List.drop_of_length_le (by omega)];simp
theorem aUo (a0:PN)(a1:Int):∀(f n:Nat)(l:List PN),n < f→aB (gI a0 a1) f (l,a1 - n)=aDt n l:=by
 intro f
 induction f with
 | zero=>intro n l h;omega
 | succ f ih =>
   intro n l h
   cases n with
   | zero =>
     have hs:gI a0 a1 (l,a1 - (0:Nat))=.inr l:=by
       have:decide (a1 - ((0:Nat):Int) < a1)=false:=by simp
       simp only [gI,this,cond_false]
     rw [aO hs];rfl
   | succ n =>
     have hs:gI a0 a1 (l,a1 - ((n+1:Nat):Int))=.inl (l.flatMap sO,a1 - (n:Nat)):=by
       have:decide (a1 - ((n+1:Nat):Int) < a1)=true:=by simp;omega
       simp only [gI,this,cond_true]
       have:=aXw a0 a1 l (toNat ((l.length:Int) - 0)+1) 0 [] (a1 - ((n+1:Nat):Int)) (by omega) (by omega)
       simp only [List.drop_zero,List.nil_append] at this
       rw [show((0:Nat):Int)=0 from rfl] at this
       rw [this,show a1 - ((n+1:Nat):Int)+1=a1 - (n:Nat) by omega]
     rw [aA hs,ih _ _ (by omega)];rfl
theorem aIs (p:PN) {d:Int} (h:0≤d):cE p d=aDt d.toNat [p]:=by
 unfold cE
 have:=aUo p d (toNat (d - 0)+1) d.toNat [p] (by omega)
 rw [show d - (d.toNat:Int)=0 by omega] at this
 exact this
theorem aMv (p:PN) {d:Int} (h:0≤d):(cE p d).length=4 ^ d.toNat:=by
 rw [aIs p h,yY];simp
theorem aQc {p:PN} {d:Int} (h:0≤d):((((cE p d).length:Nat)):Int)≠0:=by
 rw [aMv p h]
 have:0 < 4 ^ d.toNat:=Nat.pow_pos (by omega)
 omega
theorem aQd {p:PN} {d:Int} (h:0≤d∧d≤3):(cE p d).length≤64:=by
 rw [aMv p h.1]
 have:d.toNat≤3:=by omega
 calc 4 ^ d.toNat≤4 ^ 3:=Nat.pow_le_pow_right (by omega) this
   _=64:=rfl
def aB1 (x:PN):List PN:=[q1 x,q2 x,q3 x,q4 x]
theorem gT {p:P3} (h:bd 100000 p):rY p 2=(2*p.1,2*p.2.1,2*p.2.2):=by
 unfold bd at h;simp only [rY];rw [aD (by omega) (by omega),aD (by omega) (by omega),aD (by omega) (by omega)]
theorem vG {p:P3} (h:bd 100000 p):aC p 2=(2*p.1,2*p.2.1,2*p.2.2):=by
 unfold bd at h;simp only [aC];rw [aD (by omega) (by omega),aD (by omega) (by omega),aD (by omega) (by omega)]
theorem pH {p q:P3} (hp:bd 100000 p)(hq:bd 100000 q):gM p q=(p.1+q.1,p.2.1+q.2.1,p.2.2+q.2.2):=by
 unfold bd at hp hq;simp only [gM];rw [aD (by omega) (by omega),aD (by omega) (by omega),aD (by omega) (by omega)]
theorem aQe {p q:P3} (hp:bd 100000 p)(hq:bd 100000 q):aQ (aC p 2) (aC q 2)=(p.1+q.1,p.2.1+q.2.1,p.2.2+q.2.2):=by
 rw [vG hp,vG hq]
 have key:∀a b:Int,(-100000≤a∧a≤100000)→(-100000≤b∧b≤100000)→W (Int.tdiv (W (2*a+2*b)) 2)=a+b:=fun a b h1 h2=>by
   rw [aD (n:=2*a+2*b) (by omega) (by omega),←Int.mul_add,Int.mul_tdiv_cancel_left _ (by omega),aD (by omega) (by omega)]
 simp only [aQ]
 rw [key _ _ hp.1 hq.1,key _ _ hp.2.1 hq.2.1,key _ _ hp.2.2 hq.2.2]
theorem aUp {x:PN} (h:bdP 100000 x):sO x=aB1 x:=by
 unfold sO aB1 q1 q2 q3 q4
 rw [aQe h.1 h.2.1,aQe h.2.2 h.1,aQe h.2.1 h.2.2,pH h.1 h.2.1,pH h.2.2 h.1,pH h.2.1 h.2.2,vG h.1,vG h.2.1,vG h.2.2,gT h.1,gT h.2.1,gT h.2.2]
theorem aUq {m:Int} {x y:PN} (h:bdP m x)(hm:m≤100000)(hy:y∈aB1 x):bdP (2*m) y:=by
 have h1:=h.1.mono hm;have h2:=h.2.1.mono hm;have h3:=h.2.2.mono hm
 unfold aB1 q1 q2 q3 q4 at hy
 rw [pH h1 h2,pH h3 h1,pH h2 h3,gT h1,gT h2,gT h3] at hy
 have ha:=h.1;have hb:=h.2.1;have hc:=h.2.2
 unfold bd at ha hb hc
 simp only [List.mem_cons,List.mem_nil_iff,or_false] at hy
 unfold bdP bd
 rcases hy with rfl | rfl | rfl | rfl<;>simp only<;>omega
theorem fZ:∀(d:Nat)(p:PN),aR (d+1) p=(aR d p).flatMap aB1
 | 0,p=>by simp [aR,aB1]
 | d+1,p=>by
   rw [show aR (d+1+1) p=aR (d+1) (q1 p)++(aR (d+1) (q2 p)++(aR (d+1) (q3 p)++aR (d+1) (q4 p))) from rfl]
   rw [fZ d (q1 p),fZ d (q2 p),fZ d (q3 p),fZ d (q4 p)]
   simp only [aR,List.flatMap_append]
theorem vH:∀(d:Nat) {m:Int} {p x:PN},bdP m p→m*2 ^ d≤100000→0≤m→x∈aR d p→bdP (m*2 ^ d) x
 | 0,m,p,x,h,_,_,hx=>by simp [aR] at hx;subst hx;simpa using h
 | d+1,m,p,x,h,hm,h0,hx=>by
   rw [fZ,List.mem_flatMap] at hx
   obtain⟨y,hy,hx⟩:=hx
   have hp:(0:Int) < 2 ^ d:=Int.pow_pos (by omega)
   have hle:m*2 ^ d≤m*2 ^ (d+1):=Int.mul_le_mul_of_nonneg_left (by rw [Int.pow_succ];omega) h0
   have:=aUq (vH d h (by omega) h0 hy) (by omega) hx
   rw [Int.pow_succ,←Int.mul_assoc,Int.mul_comm];exact this
theorem aB2 {α β:Type} {f g:α→List β}:∀{l:List α},(∀x∈l,f x=g x)→l.flatMap f=l.flatMap g
 | [],_=>rfl
 | x::l,h=>by rw [List.flatMap_cons,List.flatMap_cons,h x (by simp),aB2 (fun y hy=>h y (by simp [hy]))]
theorem aEm:∀(n:Nat)(l:List PN),aDt (n+1) l=(aDt n l).flatMap sO
 | 0,l=>rfl
 | n+1,l=>by rw [aDt,aEm n];rfl
theorem aQf {p:PN} (hp:bdP 64 p):∀d:Nat,d≤9→aDt d [p]=aR d p
 | 0,_=>rfl
 | d+1,h=>by
   rw [aEm,aQf hp d (by omega),fZ]
   have hle:(64:Int)*2 ^ d≤100000:=by
     have h1:(2:Nat) ^ d≤2 ^ 9:=Nat.pow_le_pow_right (by omega) (by omega)
     have h2:(2:Int) ^ d=((2 ^ d:Nat):Int):=by simp
     omega
   exact aB2 (fun x hx=>aUp ((vH d hp hle (by omega) hx).mono hle))
theorem bAw {p:PN} (hp:bdP 64 p) {d:Int} (h:0≤d∧d≤3):cE p d=aR d.toNat p:=by
 rw [aIs p h.1,aQf hp _ (by omega)]
theorem C94 (a0:Zt×Zt×Zt)(a1:Int):Con Tryz.prog 94 [(.a (k9 a0)),(iv a1)] [] (.f 123 [(.p 0 0),(.p 1 0)]) [(.live true false (k9 a0)),(.live true false [(iv a1)])]:=by
 refine aJ Tryz.func94 (by kernel_rfl) fun cx hcx=>?_
 exact rt [] [] [0,1] hcx (by kernel_rfl)
def bX (a0:Zt×Zt×Zt)(a1:Int):Int :=
 (bif (decide (((W ((W ((kW (W (Int.tdiv (W (3537128906555392*2 ^ (min (toNat (W (2*a1))) 64))) (W (128*(kW (jL (gH (bI a0.2.1 a0.1) (bI a0.2.2 a0.1)) (gH (bI a0.2.1 a0.1) (bI a0.2.2 a0.1)))))))))*(kW (W (Int.tdiv (W (3537128906555392*2 ^ (min (toNat (W (2*a1))) 64))) (W (128*(kW (jL (gH (bI a0.2.1 a0.1) (bI a0.2.2 a0.1)) (gH (bI a0.2.1 a0.1) (bI a0.2.2 a0.1)))))))))))*(W (128*(kW (jL (gH (bI a0.2.1 a0.1) (bI a0.2.2 a0.1)) (gH (bI a0.2.1 a0.1) (bI a0.2.2 a0.1)))))))):Int) < (W (3537128906555392*2 ^ (min (toNat (W (2*a1))) 64))))) then
  (W ((kW (W (Int.tdiv (W (3537128906555392*2 ^ (min (toNat (W (2*a1))) 64))) (W (128*(kW (jL (gH (bI a0.2.1 a0.1) (bI a0.2.2 a0.1)) (gH (bI a0.2.1 a0.1) (bI a0.2.2 a0.1)))))))))+1))
 else
  (kW (W (Int.tdiv (W (3537128906555392*2 ^ (min (toNat (W (2*a1))) 64))) (W (128*(kW (jL (gH (bI a0.2.1 a0.1) (bI a0.2.2 a0.1)) (gH (bI a0.2.1 a0.1) (bI a0.2.2 a0.1))))))))))
theorem bEj (a0:Zt×Zt×Zt)(a1:Int)(hp:lS a0=0)(ha:0≤a1∧a1≤3):Con Tryz.prog 117 [(.a (k9 a0)),(iv a1)] [] (iv (bX a0 a1)) []:=by
 refine aJ Tryz.func117 (by kernel_rfl) fun cx hcx=>?_
 let t0:List (St Tryz.prog):=[.c [] (aXf a0.2.1 a0.1),.c [] (aXf a0.2.2 a0.1),.c [] (bEd (bI a0.2.1 a0.1) (bI a0.2.2 a0.1)),.c [] (aXe (gH (bI a0.2.1 a0.1) (bI a0.2.2 a0.1)) (gH (bI a0.2.1 a0.1) (bI a0.2.2 a0.1))),.c [] (bAi (jL (gH (bI a0.2.1 a0.1) (bI a0.2.2 a0.1)) (gH (bI a0.2.1 a0.1) (bI a0.2.2 a0.1)))),.p (show 0≤((W (2*a1)):Int) from by first | (rw [aD]<;>omega) | exact aQb hp),.p (show((W (128*(kW (jL (gH (bI a0.2.1 a0.1) (bI a0.2.2 a0.1)) (gH (bI a0.2.1 a0.1) (bI a0.2.2 a0.1)))))):Int)≠0 from by first | (rw [aD]<;>omega) | exact aQb hp),.c [] (bAi (W (Int.tdiv (W (3537128906555392*2 ^ (min (toNat (W (2*a1))) 64))) (W (128*(kW (jL (gH (bI a0.2.1 a0.1) (bI a0.2.2 a0.1)) (gH (bI a0.2.1 a0.1) (bI a0.2.2 a0.1)))))))))]
 cases h0:(decide (((W ((W ((kW (W (Int.tdiv (W (3537128906555392*2 ^ (min (toNat (W (2*a1))) 64))) (W (128*(kW (jL (gH (bI a0.2.1 a0.1) (bI a0.2.2 a0.1)) (gH (bI a0.2.1 a0.1) (bI a0.2.2 a0.1)))))))))*(kW (W (Int.tdiv (W (3537128906555392*2 ^ (min (toNat (W (2*a1))) 64))) (W (128*(kW (jL (gH (bI a0.2.1 a0.1) (bI a0.2.2 a0.1)) (gH (bI a0.2.1 a0.1) (bI a0.2.2 a0.1)))))))))))*(W (128*(kW (jL (gH (bI a0.2.1 a0.1) (bI a0.2.2 a0.1)) (gH (bI a0.2.1 a0.1) (bI a0.2.2 a0.1)))))))):Int) < (W (3537128906555392*2 ^ (min (toNat (W (2*a1))) 64))))) with
 | true =>
  have q0:=bY h0
  have e:=Eq.refl (bX a0 a1);conv at e=>rhs;simp only [bX,h0,aH]
  rw [e]
  exact rt (t0++[.d h0]) [] [] hcx (by kernel_rfl)
 | false =>
  have q0:=cF h0
  have e:=Eq.refl (bX a0 a1);conv at e=>rhs;simp only [bX,h0,aH]
  rw [e]
  exact rt (t0++[.d h0]) [] [] hcx (by kernel_rfl)
def aK (a0:Zt×Zt×Zt):Zt×Zt×Zt :=
 a0
theorem aXx (a0:Zt×Zt×Zt):Con Tryz.prog 118 [(.a (k9 a0))] [] (.a (k9 (aK a0))) []:=by
 refine aJ Tryz.func118 (by kernel_rfl) fun cx hcx=>?_
 have e:=Eq.refl (aK a0);conv at e=>rhs;simp only [aK]
 rw [e]
 exact rt [] [] [] hcx (by kernel_rfl)
def aDu (a0:Int)(a1:Int)(a2:Int):Int×Int :=
 (zS (a0,a1) a2).1
theorem bEk (a0:Int)(a1:Int)(a2:Int):Con Tryz.prog 122 [(iv a0),(iv a1),(iv a2)] [] (.a (k2 (aDu a0 a1 a2))) []:=by
 refine aJ Tryz.func122 (by kernel_rfl) fun cx hcx=>?_
 have e:=Eq.refl (aDu a0 a1 a2);conv at e=>rhs;simp only [aDu]
 rw [e]
 exact rt [.c [] (bEf (a0,a1) a2)] [] [] hcx (by kernel_rfl)
noncomputable def bEl:Code:=match (dW [1,1,1,1,0,1,0] [] (Tryz.f92.body.getD .skip)).1 with
 | .rangeFunc _ _ a b=>a
 | _=>.skip
noncomputable def bEm:Code:=match (dW [1,1,1,1,0,1,0] [] (Tryz.f92.body.getD .skip)).1 with
 | .rangeFunc _ _ a b=>b
 | _=>.skip
noncomputable def bEn:List K:=(dW [1,1,1,1,0,1,0] [] (Tryz.f92.body.getD .skip)).2
def aXy (a0:Zt×Zt×Zt)(a1:Zt×Zt×Zt)(a2:Int):Int×Int→LS
 | (v1,v2)=>⟨[.u,.u,(iv a2),.u,.u,.u,(.p 0 0),(.p 1 0),(.p 2 0),(.p 3 0),(.p 4 0),(.p 5 0),.u,.u,.u,.u,.u,.u,.u,.u,.u,.u,.u,.u,.u,.u,.u,.u,.u,(.f 123 [(.p 6 0),(.p 7 0)]),.u,.u,.u,.u,.u,.u,.u,.u,.u,.u,.u,.u,.u,.u,.u,.u,.u,.u,.u,.u,.u,.u,.u,.u,.u,.u,.u,.u,.u,.u,.u,.u,.u,.u,.u,.u,.u,.u,.u,.u],[(.live true false [(iv 0),(iv 0)]),(.live true false [(iv (W (1*2 ^ (min (toNat a2) 64))))]),(.live true false [(iv (bX a0 a2))]),(.live true false (k9 (aK a1))),(.live true false [(iv v1)]),(.live true false [(iv v2)]),(.live true false (k9 a0)),(.live true false [(iv a2)])]⟩
def bAx (a0:Zt×Zt×Zt)(a1:Zt×Zt×Zt)(a2:Int):Int×Int→Zt×Zt×Zt→LS
 | (v1,v2),x=>⟨[.u,.u,.u,.u,.u,.u,.u,(.p 1 0),(.p 2 0),(.p 3 0),(.p 4 0),(.p 5 0),(.p 8 0),.u,.u,.u,.u,.u,.u,.u,.u,.u,.u,.u,.u,.u,.u,.u,.u,.u,.u,.u,.u,.u,.u,.u,.u,.u,.u,.u,.u,.u,.u,.u,.u,.u,.u,.u,.u,.u,.u,.u,.u,.u,.u,.u,.u,.u,.u,.u,.u,.u,.u,.u,.u,.u,.u,.u,.u,.u],[(.live true false [(iv 0),(iv 0)]),(.live true false [(iv (W (1*2 ^ (min (toNat a2) 64))))]),(.live true false [(iv (bX a0 a2))]),(.live true false (k9 (aK a1))),(.live true false [(iv v1)]),(.live true false [(iv v2)]),(.live true false (k9 a0)),(.live true false [(iv a2)]),(.live true false (k9 x))]⟩
def yZ (a0:Zt×Zt×Zt)(a1:Zt×Zt×Zt)(a2:Int):Int×Int→Zt×Zt×Zt→Int×Int
 | (v1,v2),x =>
  (bif (decide (((bJ (aK x) (aK a1)):Int) > 0)) then
   ((W (v1+(fH (bH ([(aK x).1,(aK x).2.1,(aK x).2.2]:List Zt) ([(aK a1).1,(aK a1).2.1,(aK a1).2.2]:List Zt)) (W (1*2 ^ (min (toNat a2) 64)))).1.1)),(W (v2+(if((fH (bJ (aK x) (aK a1)) (W (1*2 ^ (min (toNat a2) 64)))).1.2:Int) < (bX a0 a2) then(fH (bJ (aK x) (aK a1)) (W (1*2 ^ (min (toNat a2) 64)))).1.2 else(bX a0 a2)))))
  else
   ((W (v1+(fH (bH ([(aK x).1,(aK x).2.1,(aK x).2.2]:List Zt) ([(aK a1).1,(aK a1).2.1,(aK a1).2.2]:List Zt)) (W (1*2 ^ (min (toNat a2) 64)))).1.1)),(W (v2+(bX a0 a2)))))
def G92 (a0:Zt×Zt×Zt)(a1:Zt×Zt×Zt)(a2:Int):Int×Int→Int×Int
 | (v1,v2) =>
  (aDu v1 v2 (W (1*2 ^ (min (toNat (W (2*a2))) 64))))
def F92 (a0:Zt×Zt×Zt)(a1:Zt×Zt×Zt)(a2:Int):Int×Int :=
 (G92 a0 a1 a2 ((aR (toNat a2) a0).foldl (yZ a0 a1 a2) (0,0)))
theorem C92 (a0:Zt×Zt×Zt)(a1:Zt×Zt×Zt)(a2:Int)(hp:lS a0=0)(ha:0≤a2∧a2≤3):Con Tryz.prog 92 [(.a (k9 a0)),(.a (k9 a1)),(iv a2)] [] (.a (k2 (F92 a0 a1 a2))) []:=by
 have e:(F92 a0 a1 a2)=(G92 a0 a1 a2 ((aR (toNat a2) a0).foldl (yZ a0 a1 a2) (0,0))):=by simp only [F92]
 rw [e]
 refine qA (n:=9) Tryz.func92 rfl (ent Tryz.func92 (by kernel_rfl) rfl) (by show 3≤Tryz.f92.ntmps;decide) (by kernel_rfl) trivial (fun cx hcx=>?_)
 refine uW (T:=T0) hT hm (f:=5000) (orc:=[.call [] (iv (bX a0 a2)) [],.call [] (.a (k9 (aK a1))) [],.call [] (.f 123 [(.p 0 0),(.p 1 0)]) [(.live true false (k9 a0)),(.live true false [(iv a2)])]]) [] [2,6,7,8,9,10,11,29] [2,3,4,5,6,7,8,9] hcx (x:=.rangeFunc (.tmp 29) #[30] bEl bEm) (k':=bEn) (s':=aXy a0 a1 a2 (0,0))
   (obs:=[.pr (0≤(a2:Int)),.call 117 [(.a (k9 a0)),(iv a2)] [] (iv (bX a0 a2)) [],.call 118 [(.a (k9 a1))] [] (.a (k9 (aK a1))) [],.call 94 [(.a (k9 a0)),(iv a2)] [] (.f 123 [(.p 0 0),(.p 1 0)]) [(.live true false (k9 a0)),(.live true false [(iv a2)])]]) (by kernel_rfl) ⟨(show 0≤(a2:Int) from by first | omega | (rw [aD]<;>omega) | exact eD _),(bEj a0 a2  hp ha),(aXx a1),(C94 a0 a2),trivial⟩ ?_
 refine aIo (xs:=aR (toNat a2) a0) (enc:=aDq) (V:=Int×Int) (R':=Empty) hcx rfl (by decide) [6,7] [(.p 0 0),(.p 1 0)] [(.live false false (k9 a0)),(.live false false [(iv a2)])] rfl rfl (aEj a0 a2 (by first | omega | exact pair_le h0)) (fun x=>SV.a (cP x)) aBn aPs 8 (Nb rfl) (bY (by kernel_rfl))
   (aXy a0 a1 a2) (0,0) rfl (fun⟨v1,v2⟩=>(by kernel_rfl)) (by kernel_rfl) (fun v v'=>(cX (cX (cX (cX (cX (cX (cX (cX aEe))))))))) (fun⟨v1,v2⟩=>(by kernel_rfl)) (fun⟨v1,v2⟩=>(by kernel_rfl)) (fun⟨v1,v2⟩=>(Nat.le_of_ble_eq_true (by kernel_rfl)))
   (fun v x=>.inl (yZ a0 a1 a2 v x)) (fun r=>r.elim) (fun v r=>r.elim) (fun r=>r.elim)
   (fun _ _=>True) trivial (bAx a0 a1 a2) (fun⟨v1,v2⟩ x=>(by kernel_rfl)) (fun⟨v1,v2⟩ x=>(by kernel_rfl)) (fun⟨v1,v2⟩ x=>(Nat.le_of_ble_eq_true (by kernel_rfl)))
   (fun cx' l i ⟨v1,v2⟩ x QA hcx' hx hinv hg=>uX (T:=T0) hT hm (f:=5000) (orc:=[]) [] [7,8,9,10,11,12] [8] hcx' (obs:=[]) (by kernel_rfl) trivial hg)
   (fun cx' l i ⟨v1,v2⟩ x QB hcx' hx hinv hb1 hb2=>?_) (fun cx' d ⟨v1,v2⟩ hh hv hinv=>?_) (fun cx' d r hh hv=>?_)
 · show Aw.Good _ _ _ _ _ _ _ (bAx a0 a1 a2 (v1,v2) x)
   cases h0:(decide (((bJ (aK x) (aK a1)):Int) > 0)) with
   | true =>
     have q0:=bY h0
     have e:(Sum.inl (yZ a0 a1 a2 (v1,v2) x):(Int×Int)⊕Empty)=.inl ((W (v1+(fH (bH ([(aK x).1,(aK x).2.1,(aK x).2.2]:List Zt) ([(aK a1).1,(aK a1).2.1,(aK a1).2.2]:List Zt)) (W (1*2 ^ (min (toNat a2) 64)))).1.1)),(W (v2+(if((fH (bJ (aK x) (aK a1)) (W (1*2 ^ (min (toNat a2) 64)))).1.2:Int) < (bX a0 a2) then(fH (bJ (aK x) (aK a1)) (W (1*2 ^ (min (toNat a2) 64)))).1.2 else(bX a0 a2))))):=by simp only [yZ,h0,aH]
     refine uX (T:=T0) hT hm (f:=5000) (orc:=[.call [] (.a (k9 (aK x))) [],.call [9,3] (iv (bH ([(aK x).1,(aK x).2.1,(aK x).2.2]:List Zt) ([(aK a1).1,(aK a1).2.1,(aK a1).2.2]:List Zt))) [],.call [] (.t [(.a (k2 (fH (bH ([(aK x).1,(aK x).2.1,(aK x).2.2]:List Zt) ([(aK a1).1,(aK a1).2.1,(aK a1).2.2]:List Zt)) (W (1*2 ^ (min (toNat a2) 64)))).1)),(iv (fH (bH ([(aK x).1,(aK x).2.1,(aK x).2.2]:List Zt) ([(aK a1).1,(aK a1).2.1,(aK a1).2.2]:List Zt)) (W (1*2 ^ (min (toNat a2) 64)))).2)]) [],.call [9,3] (iv (bJ (aK x) (aK a1))) [],.d true,.call [] (.t [(.a (k2 (fH (bJ (aK x) (aK a1)) (W (1*2 ^ (min (toNat a2) 64)))).1)),(iv (fH (bJ (aK x) (aK a1)) (W (1*2 ^ (min (toNat a2) 64)))).2)]) []]) [] [] [] hcx' (s':=⟨List.replicate 70 .u,[(.live true false [(iv 0),(iv 0)]),(.live true false [(iv (W (1*2 ^ (min (toNat a2) 64))))]),(.live true false [(iv (bX a0 a2))]),(.live true false (k9 (aK a1))),(.live true false [(iv (W (v1+(fH (bH ([(aK x).1,(aK x).2.1,(aK x).2.2]:List Zt) ([(aK a1).1,(aK a1).2.1,(aK a1).2.2]:List Zt)) (W (1*2 ^ (min (toNat a2) 64)))).1.1)))]),(.live true false [(iv (W (v2+(if((fH (bJ (aK x) (aK a1)) (W (1*2 ^ (min (toNat a2) 64)))).1.2:Int) < (bX a0 a2) then(fH (bJ (aK x) (aK a1)) (W (1*2 ^ (min (toNat a2) 64)))).1.2 else(bX a0 a2)))))]),(.live true false (k9 a0)),(.live true false [(iv a2)])]⟩)
       (obs:=[.call 118 [(.a (k9 x))] [] (.a (k9 (aK x))) [],.call 120 [(.s 0 0 3 3),(.s 1 0 3 3)] [(.live false false (k9 (aK x))),(.live false false (k9 (aK a1)))] (iv (bH ([(aK x).1,(aK x).2.1,(aK x).2.2]:List Zt) ([(aK a1).1,(aK a1).2.1,(aK a1).2.2]:List Zt))) [],.call 119 [(iv (bH ([(aK x).1,(aK x).2.1,(aK x).2.2]:List Zt) ([(aK a1).1,(aK a1).2.1,(aK a1).2.2]:List Zt))),(iv (W (1*2 ^ (min (toNat a2) 64))))] [] (.t [(.a (k2 (fH (bH ([(aK x).1,(aK x).2.1,(aK x).2.2]:List Zt) ([(aK a1).1,(aK a1).2.1,(aK a1).2.2]:List Zt)) (W (1*2 ^ (min (toNat a2) 64)))).1)),(iv (fH (bH ([(aK x).1,(aK x).2.1,(aK x).2.2]:List Zt) ([(aK a1).1,(aK a1).2.1,(aK a1).2.2]:List Zt)) (W (1*2 ^ (min (toNat a2) 64)))).2)]) [],.call 121 [(.s 0 0 3 3),(.s 1 0 3 3)] [(.live false false (k9 (aK x))),(.live false false (k9 (aK a1)))] (iv (bJ (aK x) (aK a1))) [],.eq (decide (((bJ (aK x) (aK a1)):Int) > 0)) true,.call 119 [(iv (bJ (aK x) (aK a1))),(iv (W (1*2 ^ (min (toNat a2) 64))))] [] (.t [(.a (k2 (fH (bJ (aK x) (aK a1)) (W (1*2 ^ (min (toNat a2) 64)))).1)),(iv (fH (bJ (aK x) (aK a1)) (W (1*2 ^ (min (toNat a2) 64)))).2)]) []]) (by kernel_rfl) ⟨(aXx x),(Con.flags (bs':=[(.live false false (k9 (aK x))),(.live false false (k9 (aK a1)))]) (aIq ([(aK x).1,(aK x).2.1,(aK x).2.2]:List Zt) ([(aK a1).1,(aK a1).2.1,(aK a1).2.2]:List Zt) (by(try simp only [Lt]);omega) (by(try simp only [Lt]);omega)) rfl ⟨jJ (fun _=>rfl),jJ (fun _=>rfl),trivial⟩),(aXh (bH ([(aK x).1,(aK x).2.1,(aK x).2.2]:List Zt) ([(aK a1).1,(aK a1).2.1,(aK a1).2.2]:List Zt)) (W (1*2 ^ (min (toNat a2) 64)))),(aIp (aK x) (aK a1)),h0,(aXh (bJ (aK x) (aK a1)) (W (1*2 ^ (min (toNat a2) 64)))),trivial⟩ ?_
     exact hb1 _ e trivial
   | false =>
     have q0:=cF h0
     have e:(Sum.inl (yZ a0 a1 a2 (v1,v2) x):(Int×Int)⊕Empty)=.inl ((W (v1+(fH (bH ([(aK x).1,(aK x).2.1,(aK x).2.2]:List Zt) ([(aK a1).1,(aK a1).2.1,(aK a1).2.2]:List Zt)) (W (1*2 ^ (min (toNat a2) 64)))).1.1)),(W (v2+(bX a0 a2)))):=by simp only [yZ,h0,aH]
     refine uX (T:=T0) hT hm (f:=5000) (orc:=[.call [] (.a (k9 (aK x))) [],.call [9,3] (iv (bH ([(aK x).1,(aK x).2.1,(aK x).2.2]:List Zt) ([(aK a1).1,(aK a1).2.1,(aK a1).2.2]:List Zt))) [],.call [] (.t [(.a (k2 (fH (bH ([(aK x).1,(aK x).2.1,(aK x).2.2]:List Zt) ([(aK a1).1,(aK a1).2.1,(aK a1).2.2]:List Zt)) (W (1*2 ^ (min (toNat a2) 64)))).1)),(iv (fH (bH ([(aK x).1,(aK x).2.1,(aK x).2.2]:List Zt) ([(aK a1).1,(aK a1).2.1,(aK a1).2.2]:List Zt)) (W (1*2 ^ (min (toNat a2) 64)))).2)]) [],.call [9,3] (iv (bJ (aK x) (aK a1))) [],.d false]) [] [] [] hcx' (s':=⟨List.replicate 70 .u,[(.live true false [(iv 0),(iv 0)]),(.live true false [(iv (W (1*2 ^ (min (toNat a2) 64))))]),(.live true false [(iv (bX a0 a2))]),(.live true false (k9 (aK a1))),(.live true false [(iv (W (v1+(fH (bH ([(aK x).1,(aK x).2.1,(aK x).2.2]:List Zt) ([(aK a1).1,(aK a1).2.1,(aK a1).2.2]:List Zt)) (W (1*2 ^ (min (toNat a2) 64)))).1.1)))]),(.live true false [(iv (W (v2+(bX a0 a2))))]),(.live true false (k9 a0)),(.live true false [(iv a2)])]⟩)
       (obs:=[.call 118 [(.a (k9 x))] [] (.a (k9 (aK x))) [],.call 120 [(.s 0 0 3 3),(.s 1 0 3 3)] [(.live false false (k9 (aK x))),(.live false false (k9 (aK a1)))] (iv (bH ([(aK x).1,(aK x).2.1,(aK x).2.2]:List Zt) ([(aK a1).1,(aK a1).2.1,(aK a1).2.2]:List Zt))) [],.call 119 [(iv (bH ([(aK x).1,(aK x).2.1,(aK x).2.2]:List Zt) ([(aK a1).1,(aK a1).2.1,(aK a1).2.2]:List Zt))),(iv (W (1*2 ^ (min (toNat a2) 64))))] [] (.t [(.a (k2 (fH (bH ([(aK x).1,(aK x).2.1,(aK x).2.2]:List Zt) ([(aK a1).1,(aK a1).2.1,(aK a1).2.2]:List Zt)) (W (1*2 ^ (min (toNat a2) 64)))).1)),(iv (fH (bH ([(aK x).1,(aK x).2.1,(aK x).2.2]:List Zt) ([(aK a1).1,(aK a1).2.1,(aK a1).2.2]:List Zt)) (W (1*2 ^ (min (toNat a2) 64)))).2)]) [],.call 121 [(.s 0 0 3 3),(.s 1 0 3 3)] [(.live false false (k9 (aK x))),(.live false false (k9 (aK a1)))] (iv (bJ (aK x) (aK a1))) [],.eq (decide (((bJ (aK x) (aK a1)):Int) > 0)) false]) (by kernel_rfl) ⟨(aXx x),(Con.flags (bs':=[(.live false false (k9 (aK x))),(.live false false (k9 (aK a1)))]) (aIq ([(aK x).1,(aK x).2.1,(aK x).2.2]:List Zt) ([(aK a1).1,(aK a1).2.1,(aK a1).2.2]:List Zt) (by(try simp only [Lt]);omega) (by(try simp only [Lt]);omega)) rfl ⟨jJ (fun _=>rfl),jJ (fun _=>rfl),trivial⟩),(aXh (bH ([(aK x).1,(aK x).2.1,(aK x).2.2]:List Zt) ([(aK a1).1,(aK a1).2.1,(aK a1).2.2]:List Zt)) (W (1*2 ^ (min (toNat a2) 64)))),(aIp (aK x) (aK a1)),h0,trivial⟩ ?_
     exact hb1 _ e trivial
 · rw [tE,Sum.inl.injEq] at hv;rw [hv]
   show Aw.Good _ _ _ _ _ _ _ (aXy a0 a1 a2 (v1,v2))
   have e:G92 a0 a1 a2 (v1,v2)=(aDu v1 v2 (W (1*2 ^ (min (toNat (W (2*a2))) 64)))):=by simp only [G92]
   rw [e]
   exact aMn (T:=T0) hT hm (f:=5000) (orc:=[.call [] (.a (k2 (aDu v1 v2 (W (1*2 ^ (min (toNat (W (2*a2))) 64)))))) []]) [] [] [] hh hcx
     (obs:=[.pr (0≤((W (2*a2)):Int)),.call 122 [(iv v1),(iv v2),(iv (W (1*2 ^ (min (toNat (W (2*a2))) 64))))] [] (.a (k2 (aDu v1 v2 (W (1*2 ^ (min (toNat (W (2*a2))) 64)))))) []]) (by kernel_rfl) ⟨(show 0≤((W (2*a2)):Int) from by first | omega | (rw [aD]<;>omega) | exact eD _),(bEk v1 v2 (W (1*2 ^ (min (toNat (W (2*a2))) 64)))),trivial⟩
 · exact r.elim
noncomputable def aF3:Code:=(aE [1,1,1,1,1,1,0] [] (aG Tryz.f162) []).1
noncomputable def aF4:List K:=(aE [1,1,1,1,1,1,0] [] (aG Tryz.f162) []).2
def aAi (a0:Zt×Zt×Zt)(a1:Int)(v2 v3:Int):LS:=⟨iH 45 [(6,(iv (sB (cC (lF a0) (lF a0))))),(8,(iv (W ((W ((W (1099511627776*(W (1*2 ^ (min (toNat (IntKind.wrap .u64 a1)) 64)))))*(W (1*2 ^ (min (toNat (IntKind.wrap .u64 a1)) 64)))))*3217)))),(9,(iv v2)),(10,(iv v3))],[]⟩
def nD (a0:Zt×Zt×Zt)(a1:Int):Int×Int→(Int×Int)⊕(Int)
 | (v2,v3) =>
  (bif (decide ((v2:Int) < v3)) then
   (bif (decide (((W ((W (Int.tdiv (W (v2+v3)) 2))*(W (Int.tdiv (W (v2+v3)) 2)))):Int)≥(vE (W ((W ((W (1099511627776*(W (1*2 ^ (min (toNat (IntKind.wrap .u64 a1)) 64)))))*(W (1*2 ^ (min (toNat (IntKind.wrap .u64 a1)) 64)))))*3217)) (W (128*(sB (cC (lF a0) (lF a0)))))))) then
    (.inl (v2,(W (Int.tdiv (W (v2+v3)) 2))))
   else
    (.inl ((W ((W (Int.tdiv (W (v2+v3)) 2))+1)),v3)))
  else
   (.inr v2))
theorem aXz (a0:Zt×Zt×Zt)(a1:Int)(ha:0≤a1∧a1≤3)(hr:W (128*sB (cC (lF a0) (lF a0)))≠0) {cx:Cx} (hcx:cx.base=0):∀(n:Nat)(v2 v3:Int),(0≤v2)∧(0≤v2)∧(v2≤v3)∧(v3≤268435456)→toNat (v3 - v2) < n→Aw.Good Tryz.prog none 9 (bodyPost Tryz.prog Tryz.f162 (RR cx (iv (aB (nD a0 a1) n (v2,v3))) [] [])) cx [] (.l aF3 n::aF4) (aAi a0 a1 v2 v3):=by
 intro n
 induction n with
 | zero=>intro v2 v3 hi hn;exact absurd hn (iG _)
 | succ n ih =>
   intro v2 v3 hi hn
   refine aI ?_
   have hw:=aFm (a:=v2) (b:=v3) (by omega)
   have hw2:=aMr (a:=v2) (b:=v3) (by omega)
   cases h0:(decide ((v2:Int) < v3)) with
   | true =>
    have q0:=bY h0
    let t1:List (St Tryz.prog):=[.d h0,.p (show(2:Int)≠0 from by decide),.c [] (aXq (W ((W ((W (1099511627776*(W (1*2 ^ (min (toNat (IntKind.wrap .u64 a1)) 64)))))*(W (1*2 ^ (min (toNat (IntKind.wrap .u64 a1)) 64)))))*3217)) (W (128*(sB (cC (lF a0) (lF a0)))))  (by(try simp only [Lt]);omega))]
    cases h1:(decide (((W ((W (Int.tdiv (W (v2+v3)) 2))*(W (Int.tdiv (W (v2+v3)) 2)))):Int)≥(vE (W ((W ((W (1099511627776*(W (1*2 ^ (min (toNat (IntKind.wrap .u64 a1)) 64)))))*(W (1*2 ^ (min (toNat (IntKind.wrap .u64 a1)) 64)))))*3217)) (W (128*(sB (cC (lF a0) (lF a0)))))))) with
    | true =>
     have q1:=bY h1
     have e:=Eq.refl (nD a0 a1 (v2,v3));conv at e=>rhs;simp only [nD,h0,h1,aH]
     rw [aA e]
     refine ba (t1++[.d h1]) [] [6,8,9,10] [] hcx (m:=n) aF3 (aF4) (aAi a0 a1 v2 (W (Int.tdiv (W (v2+v3)) 2))) (by kernel_rfl) ?_
     exact ih v2 (W (Int.tdiv (W (v2+v3)) 2)) (by refine⟨?_,?_,?_,?_⟩<;>(try simp only [Ls])<;>first | omega | assumption | simp) (by(try simp only [Ls]);omega)
    | false =>
     have q1:=cF h1
     have e:=Eq.refl (nD a0 a1 (v2,v3));conv at e=>rhs;simp only [nD,h0,h1,aH]
     rw [aA e]
     refine ba (t1++[.d h1]) [] [6,8,9,10] [] hcx (m:=n) aF3 (aF4) (aAi a0 a1 (W ((W (Int.tdiv (W (v2+v3)) 2))+1)) v3) (by kernel_rfl) ?_
     exact ih (W ((W (Int.tdiv (W (v2+v3)) 2))+1)) v3 (by refine⟨?_,?_,?_,?_⟩<;>(try simp only [Ls])<;>first | omega | assumption | simp) (by(try simp only [Ls]);omega)
   | false =>
    have q0:=cF h0
    have e:=Eq.refl (nD a0 a1 (v2,v3));conv at e=>rhs;simp only [nD,h0,aH]
    rw [aF,e]
    exact rt [.d h0] [] [] hcx (by kernel_rfl)
def tL (a0:Zt×Zt×Zt)(a1:Int):Int :=
 (aB (nD a0 a1) (toNat (268435456 - 0)+1) (0,268435456))
theorem bEo (a0:Zt×Zt×Zt)(a1:Int)(ha:0≤a1∧a1≤3)(hr:W (128*sB (cC (lF a0) (lF a0)))≠0):Con Tryz.prog 162 [(.a (k9 a0)),(iv a1)] [] (iv (tL a0 a1)) []:=by
 refine aJ Tryz.func162 (by kernel_rfl) fun cx hcx=>?_
 have e:=Eq.refl (tL a0 a1);conv at e=>rhs;simp only [tL]
 rw [e]
 refine en [.c [] (C80 a0),.c [] (aFx (lF a0) (lF a0)),.c [] (bEh (cC (lF a0) (lF a0))),.p (show 0≤((IntKind.wrap .u64 a1):Int) from by first | omega | (rw [aD]<;>omega) | exact eD _)] [] [6,8,9,10] [] hcx aF3 (aF4) (aAi a0 a1 0 268435456) (toNat (268435456 - 0)+1) (by kernel_rfl) ?_
 exact aXz a0 a1 ha hr hcx (toNat (268435456 - 0)+1) 0 268435456 (by refine⟨?_,?_,?_,?_⟩<;>(try simp only [Ls])<;>first | omega | assumption | simp) (by(try simp only [Ls]);omega)
noncomputable def aF5:Code:=(aE [1,1,1,1,1,0,1] [] (aG Tryz.f153) []).1
noncomputable def aF6:List K:=(aE [1,1,1,1,1,0,1] [] (aG Tryz.f153) []).2
def aAj (a0:Zt×Zt×Zt)(a1:Int)(a2:Zt×Zt×Zt)(v1 v2 v3:Int):LS:=⟨iH 88 [(6,(.p 0 0)),(7,(.s 1 0 (cE a0 a1).length 9)),(8,(.s 2 0 3 3)),(9,(iv (W (1*2 ^ (min (toNat (IntKind.wrap .u64 a1)) 64))))),(10,(iv (tL a0 a1))),(11,(iv v1)),(12,(iv v2)),(13,(iv v3))],[(.live true false [(iv 0),(iv 0)]),(.live true true (flat dK (cE a0 a1))),(.live true false (k9 a2))]⟩
def lV (a0:Zt×Zt×Zt)(a1:Int)(a2:Zt×Zt×Zt):Zt→Zt⊕(Int×Int)
 | (v1,v2,v3) =>
  (bif (decide ((v3:Int) < (((cE a0 a1).length:Nat):Int))) then
   (bif (decide (((gZ ((cE a0 a1).getD (toNat v3) default) a2):Int) > 0)) then
    (.inl ((W (v1+(mC (jO ((cE a0 a1).getD (toNat v3) default) ([a2.1,a2.2.1,a2.2.2]:List Zt)) (W (1*2 ^ (min (toNat (IntKind.wrap .u64 a1)) 64)))).1.1)),(W (v2+(if((mC (gZ ((cE a0 a1).getD (toNat v3) default) a2) (W (1*2 ^ (min (toNat (IntKind.wrap .u64 a1)) 64)))).1.2:Int) < (tL a0 a1) then(mC (gZ ((cE a0 a1).getD (toNat v3) default) a2) (W (1*2 ^ (min (toNat (IntKind.wrap .u64 a1)) 64)))).1.2 else(tL a0 a1)))),(v3+1)))
   else
    (.inl ((W (v1+(mC (jO ((cE a0 a1).getD (toNat v3) default) ([a2.1,a2.2.1,a2.2.2]:List Zt)) (W (1*2 ^ (min (toNat (IntKind.wrap .u64 a1)) 64)))).1.1)),(W (v2+(tL a0 a1))),(v3+1))))
  else
   (.inr ((tI v1 (((cE a0 a1).length:Nat):Int)),(vE v2 (((cE a0 a1).length:Nat):Int)))))
theorem aX0 (a0:Zt×Zt×Zt)(a1:Int)(a2:Zt×Zt×Zt)(ha:0≤a1∧a1≤3)(hr:W (128*sB (cC (lF a0) (lF a0)))≠0) {cx:Cx} (hcx:cx.base=0):∀(n:Nat)(v1 v2 v3:Int),0≤v3→toNat ((((cE a0 a1).length:Nat):Int) - v3) < n→Aw.Good Tryz.prog none 9 (bodyPost Tryz.prog Tryz.f153 (RR cx (.a (k2 (aB (lV a0 a1 a2) n (v1,v2,v3)))) [] [])) cx [] (.l aF5 n::aF6) (aAj a0 a1 a2 v1 v2 v3):=by
 intro n
 induction n with
 | zero=>intro v1 v2 v3 hi hn;exact absurd hn (iG _)
 | succ n ih =>
   intro v1 v2 v3 hi hn
   refine aI ?_
   have hcl:=aQd (p:=a0) ha
   cases h0:(decide ((v3:Int) < (((cE a0 a1).length:Nat):Int))) with
   | true =>
    have q0:=bY h0
    let t1:List (St Tryz.prog):=[.d h0,.i v3 ((cE a0 a1).length),.L cV (cE a0 a1) v3 0 9,.c [2] (Con.flags (bs':=[(.live false false (k9 a2))]) (aXs ((cE a0 a1).getD (toNat v3) default) ([a2.1,a2.2.1,a2.2.2]:List Zt) (by(try simp only [Lt]);omega)) rfl ⟨jJ (fun _=>rfl),trivial⟩),.c [] (bAo (jO ((cE a0 a1).getD (toNat v3) default) ([a2.1,a2.2.1,a2.2.2]:List Zt)) (W (1*2 ^ (min (toNat (IntKind.wrap .u64 a1)) 64)))),.i v3 ((cE a0 a1).length),.L cV (cE a0 a1) v3 0 9,.c [2] (aXt ((cE a0 a1).getD (toNat v3) default) a2)]
    cases h1:(decide (((gZ ((cE a0 a1).getD (toNat v3) default) a2):Int) > 0)) with
    | true =>
     have q1:=bY h1
     have e:=Eq.refl (lV a0 a1 a2 (v1,v2,v3));conv at e=>rhs;simp only [lV,h0,h1,aH]
     rw [aA e]
     refine ba (t1++[.d h1,.c [] (bAo (gZ ((cE a0 a1).getD (toNat v3) default) a2) (W (1*2 ^ (min (toNat (IntKind.wrap .u64 a1)) 64))))]) [] [6,7,8,9,10,11,12,13] [0,1,2] hcx (m:=n) aF5 (aF6) (aAj a0 a1 a2 (W (v1+(mC (jO ((cE a0 a1).getD (toNat v3) default) ([a2.1,a2.2.1,a2.2.2]:List Zt)) (W (1*2 ^ (min (toNat (IntKind.wrap .u64 a1)) 64)))).1.1)) (W (v2+(if((mC (gZ ((cE a0 a1).getD (toNat v3) default) a2) (W (1*2 ^ (min (toNat (IntKind.wrap .u64 a1)) 64)))).1.2:Int) < (tL a0 a1) then(mC (gZ ((cE a0 a1).getD (toNat v3) default) a2) (W (1*2 ^ (min (toNat (IntKind.wrap .u64 a1)) 64)))).1.2 else(tL a0 a1)))) (W (v3+1))) (by kernel_rfl) ?_
     have z0:(W (v3+1))=(v3+1):=aD (by omega) (by omega)
     rw [z0]
     exact ih (W (v1+(mC (jO ((cE a0 a1).getD (toNat v3) default) ([a2.1,a2.2.1,a2.2.2]:List Zt)) (W (1*2 ^ (min (toNat (IntKind.wrap .u64 a1)) 64)))).1.1)) (W (v2+(if((mC (gZ ((cE a0 a1).getD (toNat v3) default) a2) (W (1*2 ^ (min (toNat (IntKind.wrap .u64 a1)) 64)))).1.2:Int) < (tL a0 a1) then(mC (gZ ((cE a0 a1).getD (toNat v3) default) a2) (W (1*2 ^ (min (toNat (IntKind.wrap .u64 a1)) 64)))).1.2 else(tL a0 a1)))) (v3+1) (by(try simp only [Ls]);omega) (by(try simp only [Ls]);omega)
    | false =>
     have q1:=cF h1
     have e:=Eq.refl (lV a0 a1 a2 (v1,v2,v3));conv at e=>rhs;simp only [lV,h0,h1,aH]
     rw [aA e]
     refine ba (t1++[.d h1]) [] [6,7,8,9,10,11,12,13] [0,1,2] hcx (m:=n) aF5 (aF6) (aAj a0 a1 a2 (W (v1+(mC (jO ((cE a0 a1).getD (toNat v3) default) ([a2.1,a2.2.1,a2.2.2]:List Zt)) (W (1*2 ^ (min (toNat (IntKind.wrap .u64 a1)) 64)))).1.1)) (W (v2+(tL a0 a1))) (W (v3+1))) (by kernel_rfl) ?_
     have z0:(W (v3+1))=(v3+1):=aD (by omega) (by omega)
     rw [z0]
     exact ih (W (v1+(mC (jO ((cE a0 a1).getD (toNat v3) default) ([a2.1,a2.2.1,a2.2.2]:List Zt)) (W (1*2 ^ (min (toNat (IntKind.wrap .u64 a1)) 64)))).1.1)) (W (v2+(tL a0 a1))) (v3+1) (by(try simp only [Ls]);omega) (by(try simp only [Ls]);omega)
   | false =>
    have q0:=cF h0
    have e:=Eq.refl (lV a0 a1 a2 (v1,v2,v3));conv at e=>rhs;simp only [lV,h0,aH]
    rw [aF,e]
    exact rt [.d h0,.c [] (aXp v1 (((cE a0 a1).length:Nat):Int)  (aQc (by omega))),.c [] (aXq v2 (((cE a0 a1).length:Nat):Int)  (aQc (by omega)))] [] [] hcx (by kernel_rfl)
def vI (a0:Zt×Zt×Zt)(a1:Int)(a2:Zt×Zt×Zt):Int×Int :=
 (aB (lV a0 a1 a2) (toNat ((((cE a0 a1).length:Nat):Int) - 0)+1) (0,0,0))
theorem bAy (a0:Zt×Zt×Zt)(a1:Int)(a2:Zt×Zt×Zt)(ha:0≤a1∧a1≤3)(hr:W (128*sB (cC (lF a0) (lF a0)))≠0):Con Tryz.prog 153 [(.a (k9 a0)),(iv a1),(.a (k9 a2))] [] (.a (k2 (vI a0 a1 a2))) []:=by
 refine aJ Tryz.func153 (by kernel_rfl) fun cx hcx=>?_
 have e:=Eq.refl (vI a0 a1 a2);conv at e=>rhs;simp only [vI]
 rw [e]
 refine en [.c [] (bAs a0 a1  (by(try simp only [Lt]);omega)),.p (show 0≤((IntKind.wrap .u64 a1):Int) from by first | omega | (rw [aD]<;>omega) | exact eD _),.c [] (bEo a0 a1  ha hr)] [] [6,7,8,9,10,11,12,13] [2,3,4] hcx aF5 (aF6) (aAj a0 a1 a2 0 0 0) (toNat ((((cE a0 a1).length:Nat):Int) - 0)+1) (by kernel_rfl) ?_
 exact aX0 a0 a1 a2 ha hr hcx (toNat ((((cE a0 a1).length:Nat):Int) - 0)+1) 0 0 0 (by(try simp only [Ls]);omega) (by(try simp only [Ls]);omega)
def mx (a b:Int):Int:=if a < b then b else a
theorem qJ {a b c:Int} (h:a≤c)(h':b≤c):mx a b≤c:=by unfold mx;split<;>assumption
theorem dG (a b:Int):a≤mx a b:=by unfold mx;split<;>omega
theorem kO (a b:Int):b≤mx a b:=by unfold mx;split<;>omega
def ds (p q:P3):Int:=dt (sb p q) (sb p q)
def fF (p q:P3):Int:=jL (bI p q) (bI p q)
theorem vJ {p q:P3} (hp:bd 5000 p)(hq:bd 5000 q):fF p q=ds p q:=by
 unfold fF ds
 rw [fsb (hp.mono (by omega)) (hq.mono (by omega))]
 exact fdt ((nV hp hq).mono (by omega)) ((nV hp hq).mono (by omega))
def rF (p q:P3):Int:=cC (aT p q) (aT p q)
theorem vK {p q:P3} (hp:bd 5000 p)(hq:bd 5000 q):rF p q=ds p q:=by
 unfold rF ds
 rw [rsb (hp.mono (by omega)) (hq.mono (by omega))]
 exact rdt ((nV hp hq).mono (by omega)) ((nV hp hq).mono (by omega))
theorem bAz (c:PN)(x y z:P3):bH [c.1,c.2.1,c.2.2] [x,y,z] =
   mx (mx (mx (mx (mx (mx (mx (mx (mx 0 (fF c.1 x)) (fF c.1 y)) (fF c.1 z)) (fF c.2.1 x)) (fF c.2.1 y)) (fF c.2.1 z)) (fF c.2.2 x)) (fF c.2.2 y)) (fF c.2.2 z):=by
 rfl
theorem xG (c:PN)(l:List P3)(v:Int)(i:Nat)(h:i < l.length) :
   bQ c l (v,(i:Int))=.inl (mx (mx (mx v (rF c.1 (l.getD i default))) (rF c.2.1 (l.getD i default))) (rF c.2.2 (l.getD i default)),((i+1:Nat):Int)):=by
 have h0:decide ((i:Int) < (l.length:Int))=true:=by simpa using h
 simp only [bQ,h0,cond_true,uJ]
 have key:∀q:P3,(bif decide (rF c.1 q > v) then bif decide (rF c.2.1 q > rF c.1 q) then bif decide (rF c.2.2 q > rF c.2.1 q) then Sum.inl (rF c.2.2 q,(i:Int)+1) else Sum.inl (rF c.2.1 q,(i:Int)+1) else bif decide (rF c.2.2 q > rF c.1 q) then Sum.inl (rF c.2.2 q,(i:Int)+1) else Sum.inl (rF c.1 q,(i:Int)+1)
   else bif decide (rF c.2.1 q > v) then bif decide (rF c.2.2 q > rF c.2.1 q) then Sum.inl (rF c.2.2 q,(i:Int)+1) else Sum.inl (rF c.2.1 q,(i:Int)+1) else bif decide (rF c.2.2 q > v) then Sum.inl (rF c.2.2 q,(i:Int)+1) else Sum.inl (v,(i:Int)+1))
   = (Sum.inl (mx (mx (mx v (rF c.1 q)) (rF c.2.1 q)) (rF c.2.2 q),((i:Int)+1)):(Int×Int)⊕Int):=by
   intro q
   generalize rF c.1 q=a1;generalize rF c.2.1 q=a2;generalize rF c.2.2 q=a3
   unfold mx
   by_cases h1:a1 > v
   · rw [bW h1,cond_true,if_pos h1]
     by_cases h2:a2 > a1
     · rw [bW h2,cond_true,if_pos h2]
       by_cases h3:a3 > a2
       · rw [bW h3,cond_true,if_pos h3]
       · rw [cK h3,cond_false,if_neg h3]
     · rw [cK h2,cond_false,if_neg h2]
       by_cases h3:a3 > a1
       · rw [bW h3,cond_true,if_pos h3]
       · rw [cK h3,cond_false,if_neg h3]
   · rw [cK h1,cond_false,if_neg h1]
     by_cases h2:a2 > v
     · rw [bW h2,cond_true,if_pos h2]
       by_cases h3:a3 > a2
       · rw [bW h3,cond_true,if_pos h3]
       · rw [cK h3,cond_false,if_neg h3]
     · rw [cK h2,cond_false,if_neg h2]
       by_cases h3:a3 > v
       · rw [bW h3,cond_true,if_pos h3]
       · rw [cK h3,cond_false,if_neg h3]
 exact key (l.getD i default)
theorem aQg (c:PN)(l:List P3)(v:Int):bQ c l (v,(l.length:Int))=.inr v:=by
 have h0:decide ((l.length:Int) < (l.length:Int))=false:=by simp
 simp only [bQ,h0,cond_false]
theorem bA0 (c:PN)(x y z:P3):jO c [x,y,z] =
   mx (mx (mx (mx (mx (mx (mx (mx (mx 0 (rF c.1 x)) (rF c.2.1 x)) (rF c.2.2 x)) (rF c.1 y)) (rF c.2.1 y)) (rF c.2.2 y)) (rF c.1 z)) (rF c.2.1 z)) (rF c.2.2 z):=by
 unfold jO
 have e0:=xG c [x,y,z] 0 0 (by simp)
 have e1:=xG c [x,y,z] (mx (mx (mx 0 (rF c.1 x)) (rF c.2.1 x)) (rF c.2.2 x)) 1 (by simp)
 have e2:=xG c [x,y,z] (mx (mx (mx (mx (mx (mx 0 (rF c.1 x)) (rF c.2.1 x)) (rF c.2.2 x)) (rF c.1 y)) (rF c.2.1 y)) (rF c.2.2 y)) 2 (by simp)
 have e3:=aQg c [x,y,z] (mx (mx (mx (mx (mx (mx (mx (mx (mx 0 (rF c.1 x)) (rF c.2.1 x)) (rF c.2.2 x)) (rF c.1 y)) (rF c.2.1 y)) (rF c.2.2 y)) (rF c.1 z)) (rF c.2.1 z)) (rF c.2.2 z))
 rw [show toNat ((([x,y,z]:List P3).length:Int) - 0)+1=4 from rfl,show((0,0):Int×Int)=(0,((0:Nat):Int)) from rfl,aA e0]
 refine(aA e1).trans ?_
 refine(aA e2).trans ?_
 exact aO e3
theorem aQh (a b c d e f g h i:Int):mx (mx (mx (mx (mx (mx (mx (mx (mx 0 a) b) c) d) e) f) g) h) i=mx (mx (mx (mx (mx (mx (mx (mx (mx 0 a) d) g) b) e) h) c) f) i:=by
 have key:∀a b c:Int,mx (mx a b) c=mx (mx a c) b:=fun a b c=>by unfold mx;repeat' split<;>omega
 rw [key _ c d,key _ b d,key _ f g,key _ e g,key _ c g,key _ b g]
 rw [key _ c e,key _ f h,key _ c h]
def zU (a b c:Int):Int:=if c < (if b < (if a < a then a else a) then b else(if a < a then a else a)) then c else(if b < (if a < a then a else a) then b else(if a < a then a else a))
def zV (a b c:Int):Int:=if(if(if a < a then a else a) < b then b else(if a < a then a else a)) < c then c else(if(if a < a then a else a) < b then b else(if a < a then a else a))
theorem lW (a b c:Int):zU a b c≤a∧zU a b c≤b∧zU a b c≤c:=by
 unfold zU;simp only [Int.lt_irrefl,if_false];split<;>split at *<;>omega
theorem lX (a b c:Int):a≤zV a b c∧b≤zV a b c∧c≤zV a b c:=by
 unfold zV;simp only [Int.lt_irrefl,if_false];split<;>split at *<;>omega
theorem aF7 (a b c:Int):zU a b c=a∨zU a b c=b∨zU a b c=c:=by
 unfold zU;simp only [Int.lt_irrefl,if_false];split<;>split at *<;>omega
theorem aF8 (a b c:Int):zV a b c=a∨zV a b c=b∨zV a b c=c:=by
 unfold zV;simp only [Int.lt_irrefl,if_false];split<;>split at *<;>omega
def gp (a b c d:Int):Int:=mx (mx 0 (c - b)) (a - d)
theorem aB3 (a b c d:Int):0≤gp a b c d:=Int.le_trans (dG 0 _) (dG _ _)
theorem aUr (a b c d:Int):gp c d a b=gp a b c d:=by unfold gp mx;repeat' split<;>omega
def nr (a b c d:P3):Int:=gp a.1 b.1 c.1 d.1*gp a.1 b.1 c.1 d.1+gp a.2.1 b.2.1 c.2.1 d.2.1*gp a.2.1 b.2.1 c.2.1 d.2.1+gp a.2.2 b.2.2 c.2.2 d.2.2*gp a.2.2 b.2.2 c.2.2 d.2.2
def oN (c:PN):P3:=(zU c.1.1 c.2.1.1 c.2.2.1,zU c.1.2.1 c.2.1.2.1 c.2.2.2.1,zU c.1.2.2 c.2.1.2.2 c.2.2.2.2)
def oO (c:PN):P3:=(zV c.1.1 c.2.1.1 c.2.2.1,zV c.1.2.1 c.2.1.2.1 c.2.2.2.1,zV c.1.2.2 c.2.1.2.2 c.2.2.2.2)
theorem aF9 {m:Int} {c:PN} (h:bdP m c):bd m (oN c):=by
 have h1:=aF7 c.1.1 c.2.1.1 c.2.2.1;have h2:=aF7 c.1.2.1 c.2.1.2.1 c.2.2.2.1;have h3:=aF7 c.1.2.2 c.2.1.2.2 c.2.2.2.2
 have ha:=h.1;have hb:=h.2.1;have hc:=h.2.2
 unfold bd at *;simp only [oN];omega
theorem aGa {m:Int} {c:PN} (h:bdP m c):bd m (oO c):=by
 have h1:=aF8 c.1.1 c.2.1.1 c.2.2.1;have h2:=aF8 c.1.2.1 c.2.1.2.1 c.2.2.2.1;have h3:=aF8 c.1.2.2 c.2.1.2.2 c.2.2.2.2
 have ha:=h.1;have hb:=h.2.1;have hc:=h.2.2
 unfold bd at *;simp only [oO];omega
theorem bA1 (c:PN):aP c=(oN c,oO c):=rfl
theorem aQi {a b c d:Int} (ha:-5000≤a∧a≤5000)(hb:-5000≤b∧b≤5000)(hc:-5000≤c∧c≤5000)(hd:-5000≤d∧d≤5000):lT a b c d=gp a b c d:=by
 unfold lT
 rw [aD (n:=c - b) (by omega) (by omega),aD (n:=a - d) (by omega) (by omega)];rfl
theorem aB4 {a b c d:Int} (ha:-5000≤a∧a≤5000)(hb:-5000≤b∧b≤5000)(hc:-5000≤c∧c≤5000)(hd:-5000≤d∧d≤5000):0≤gp a b c d∧gp a b c d≤10000 :=
 ⟨aB3 _ _ _ _,qJ (qJ (by omega) (by omega)) (by omega)⟩
theorem nrF {a b c d:P3} (ha:bd 5000 a)(hb:bd 5000 b)(hc:bd 5000 c)(hd:bd 5000 d) :
   jL (lT a.1 b.1 c.1 d.1,lT a.2.1 b.2.1 c.2.1 d.2.1,lT a.2.2 b.2.2 c.2.2 d.2.2) (lT a.1 b.1 c.1 d.1,lT a.2.1 b.2.1 c.2.1 d.2.1,lT a.2.2 b.2.2 c.2.2 d.2.2)=nr a b c d:=by
 rw [aQi ha.1 hb.1 hc.1 hd.1,aQi ha.2.1 hb.2.1 hc.2.1 hd.2.1,aQi ha.2.2 hb.2.2 hc.2.2 hd.2.2]
 have h1:=aB4 ha.1 hb.1 hc.1 hd.1;have h2:=aB4 ha.2.1 hb.2.1 hc.2.1 hd.2.1;have h3:=aB4 ha.2.2 hb.2.2 hc.2.2 hd.2.2
 have hv:bd 1000000000 (gp a.1 b.1 c.1 d.1,gp a.2.1 b.2.1 c.2.1 d.2.1,gp a.2.2 b.2.2 c.2.2 d.2.2):=by unfold bd;simp only;omega
 rw [fdt hv hv];rfl
theorem aX1 {c q:PN} (hc:bdP 5000 c)(hq:bdP 5000 q):bJ c q=nr (oN c) (oO c) (oN q) (oO q):=by
 unfold bJ
 rw [bA1,bA1]
 exact nrF (aF9 hc) (aGa hc) (aF9 hq) (aGa hq)
theorem rB (a b c:Int):cJ [a,b,c]=(zU a b c,zV a b c):=rfl
theorem aQj {l m:List Int} {a b c d:Int} (hl:cJ l=(a,b))(hm:cJ m=(c,d))(ha:-5000≤a∧a≤5000)(hb:-5000≤b∧b≤5000)(hc:-5000≤c∧c≤5000)(hd:-5000≤d∧d≤5000) :
   fV l m=gp a b c d*gp a b c d:=by
 unfold fV
 rw [hl,hm]
 simp only
 rw [aD (n:=a - d) (by omega) (by omega),aD (n:=c - b) (by omega) (by omega)]
 have e:(if((if(0:Int) < a - d then a - d else 0):Int) < c - b then c - b else(if(0:Int) < a - d then a - d else 0))=gp a b c d:=aUr a b c d
 rw [e]
 have h1:=aB4 ha hb hc hd
 have h2:=bD (a:=10000) (b:=10000) (x:=gp a b c d) (y:=gp a b c d) (by omega) (by omega)
 exact aD (by omega) (by omega)
theorem bEp {a b c:Int} (ha:0≤a∧a≤100000000)(hb:0≤b∧b≤100000000)(hc:0≤c∧c≤100000000):W ((W (a+b))+c)=a+b+c:=by
 rw [aD (n:=a+b) (by omega) (by omega),aD (by omega) (by omega)]
theorem aX2 {c q:PN} (hc:bdP 5000 c)(hq:bdP 5000 q):gZ c q=nr (oN c) (oO c) (oN q) (oO q):=by
 unfold gZ
 have hl:=aF9 hc;have hh:=aGa hc;have kl:=aF9 hq;have kh:=aGa hq
 have g1:=aQj (l:=bZ c 0) (m:=bZ q 0) (rB c.1.1 c.2.1.1 c.2.2.1) (rB q.1.1 q.2.1.1 q.2.2.1) hl.1 hh.1 kl.1 kh.1
 have g2:=aQj (l:=bZ c 1) (m:=bZ q 1) (rB c.1.2.1 c.2.1.2.1 c.2.2.2.1) (rB q.1.2.1 q.2.1.2.1 q.2.2.2.1) hl.2.1 hh.2.1 kl.2.1 kh.2.1
 have g3:=aQj (l:=bZ c 2) (m:=bZ q 2) (rB c.1.2.2 c.2.1.2.2 c.2.2.2.2) (rB q.1.2.2 q.2.1.2.2 q.2.2.2.2) hl.2.2 hh.2.2 kl.2.2 kh.2.2
 have b1:=aB4 hl.1 hh.1 kl.1 kh.1;have b2:=aB4 hl.2.1 hh.2.1 kl.2.1 kh.2.1;have b3:=aB4 hl.2.2 hh.2.2 kl.2.2 kh.2.2
 have m1:=bD (a:=10000) (b:=10000) (by omega) (by omega) (x:=gp (oN c).1 (oO c).1 (oN q).1 (oO q).1) (y:=gp (oN c).1 (oO c).1 (oN q).1 (oO q).1)
 have m2:=bD (a:=10000) (b:=10000) (by omega) (by omega) (x:=gp (oN c).2.1 (oO c).2.1 (oN q).2.1 (oO q).2.1) (y:=gp (oN c).2.1 (oO c).2.1 (oN q).2.1 (oO q).2.1)
 have m3:=bD (a:=10000) (b:=10000) (by omega) (by omega) (x:=gp (oN c).2.2 (oO c).2.2 (oN q).2.2 (oO q).2.2) (y:=gp (oN c).2.2 (oO c).2.2 (oN q).2.2 (oO q).2.2)
 rw [show fV (bZ c 0) (bZ q 0)=_ from g1,show fV (bZ c 1) (bZ q 1)=_ from g2,show fV (bZ c 2) (bZ q 2)=_ from g3]
 exact bEp ⟨jA _,by have:=m1.2;exact this⟩ ⟨jA _,by have:=m2.2;exact this⟩ ⟨jA _,by have:=m3.2;exact this⟩
open Classical in
noncomputable def pk (p q:PN)(d:Int):Int:=if vp p=0 then(if vp q=0 then(if 0≤d∧d≤2 then 0 else 1) else vp q) else vp p
theorem aQk (v w:Int)(b:Prop) [Decidable b]:(bif (v != 0) then v else(bif (w != 0) then w else(bif (!(decide b)) then(1:Int) else 0)))=if v=0 then(if w=0 then(if b then 0 else 1) else w) else v:=by
 by_cases hv:v=0
 · subst hv
   by_cases hw:w=0
   · subst hw;by_cases hb:b<;>simp [hb]
   · rw [bne_iff_ne.2 hw,cond_true,if_neg hw];simp
 · rw [bne_iff_ne.2 hv,cond_true,if_neg hv]
theorem aAk (p q:PN)(d:Int):xA p q d=pk p q d:=by
 unfold xA pk
 rw [aUl,aUl,aOg,aQk]
theorem rG (p q:PN)(d:Int):mD p q d=pk p q d:=by
 unfold mD pk
 rw [aUm,aUm,aKh,aQk]
theorem vL {p q:PN} {d:Int} (h:pk p q d=0):vp p=0∧vp q=0∧0≤d∧d≤2:=by
 unfold pk at h
 split at h
 · rename_i h0
   split at h
   · rename_i h1
     split at h
     · rename_i h2;exact⟨h0,h1,h2⟩
     · cases h
   · rename_i h1;exact absurd h h1
 · rename_i h0;exact absurd h h0
theorem aMw {p q:PN} {d:Int} (h:((xA p q d:Int) != 0)=false):vp p=0∧vp q=0∧0≤d∧d≤2 :=
 vL (by rw [←aAk];simpa using h)
theorem aMx {p q:PN} {d:Int} (h:((xA p q d:Int) != 0)=false):lS p=0:=by
 rw [aUl];exact(aMw h).1
theorem pair_le {p q:PN} {d:Int} (h:((xA p q d:Int) != 0)=false):0≤d∧d≤3:=by have:=aMw h;omega
theorem xH {p q:PN} {d:Int} (h:((mD p q d:Int) != 0)=false):0≤d∧d≤3:=by
 have:=vL (p:=p) (q:=q) (d:=d) (by rw [←rG];simpa using h);omega
theorem aEn {p q:PN} {d:Int} (h:((mD p q d:Int) != 0)=false):W (128*sB (cC (lF p) (lF p)))≠0 :=
 aUn (by rw [aUm];exact(vL (p:=p) (q:=q) (d:=d) (by rw [←rG];simpa using h)).1)
def uH (a0:Zt×Zt×Zt)(a1:Zt×Zt×Zt)(a2:Int):(Int×Int)×Int :=
 (bif (((xA a0 a1 a2):Int) != 0) then
  ((0,0),(xA a0 a1 a2))
 else
  ((F92 a0 ((rY a1.1 (W (1*2 ^ (min (toNat a2) 64)))),(rY a1.2.1 (W (1*2 ^ (min (toNat a2) 64)))),(rY a1.2.2 (W (1*2 ^ (min (toNat a2) 64))))) a2),0))
theorem C60 (a0:Zt×Zt×Zt)(a1:Zt×Zt×Zt)(a2:Int):Con Tryz.prog 60 [(.a (k9 a0)),(.a (k9 a1)),(iv a2)] [] (.t [(.a (k2 (uH a0 a1 a2).1)),(iv (uH a0 a1 a2).2)]) []:=by
 refine aJ Tryz.func60 (by kernel_rfl) fun cx hcx=>?_
 let t0:List (St Tryz.prog):=[.c [] (C91 a0 a1 a2)]
 cases h0:(((xA a0 a1 a2):Int) != 0) with
 | true =>
  have q0:=bne_iff_ne.1 h0
  have e:=Eq.refl (uH a0 a1 a2);conv at e=>rhs;simp only [uH,h0,aH]
  rw [e]
  exact rt (t0++[.d h0]) [] [] hcx (by kernel_rfl)
 | false =>
  have q0:=bne_eq_false_iff_eq.1 h0
  have e:=Eq.refl (uH a0 a1 a2);conv at e=>rhs;simp only [uH,h0,aH]
  rw [e]
  exact rt (t0++[.d h0,.p (show 0≤(a2:Int) from by exact(pair_le h0).1),.c [] (C93 a1.1 (W (1*2 ^ (min (toNat a2) 64)))),.c [] (C93 a1.2.1 (W (1*2 ^ (min (toNat a2) 64)))),.c [] (C93 a1.2.2 (W (1*2 ^ (min (toNat a2) 64)))),.c [] (C92 a0 ((rY a1.1 (W (1*2 ^ (min (toNat a2) 64)))),(rY a1.2.1 (W (1*2 ^ (min (toNat a2) 64)))),(rY a1.2.2 (W (1*2 ^ (min (toNat a2) 64))))) a2  (aMx h0) (pair_le h0))]) [] [] hcx (by kernel_rfl)
def lY (a0:Zt×Zt×Zt)(a1:Zt×Zt×Zt)(a2:Int):(Int×Int)×Int :=
 (bif (((mD a0 a1 a2):Int) != 0) then
  ((0,0),(mD a0 a1 a2))
 else
  ((vI a0 a2 ((aC a1.1 (W (1*2 ^ (min (toNat (IntKind.wrap .u64 a2)) 64)))),(aC a1.2.1 (W (1*2 ^ (min (toNat (IntKind.wrap .u64 a2)) 64)))),(aC a1.2.2 (W (1*2 ^ (min (toNat (IntKind.wrap .u64 a2)) 64)))))),0))
theorem bEq (a0:Zt×Zt×Zt)(a1:Zt×Zt×Zt)(a2:Int):Con Tryz.prog 135 [(.a (k9 a0)),(.a (k9 a1)),(iv a2)] [] (.t [(.a (k2 (lY a0 a1 a2).1)),(iv (lY a0 a1 a2).2)]) []:=by
 refine aJ Tryz.func135 (by kernel_rfl) fun cx hcx=>?_
 let t0:List (St Tryz.prog):=[.c [] (bAr a0 a1 a2)]
 cases h0:(((mD a0 a1 a2):Int) != 0) with
 | true =>
  have q0:=bne_iff_ne.1 h0
  have e:=Eq.refl (lY a0 a1 a2);conv at e=>rhs;simp only [lY,h0,aH]
  rw [e]
  exact rt (t0++[.d h0]) [] [] hcx (by kernel_rfl)
 | false =>
  have q0:=bne_eq_false_iff_eq.1 h0
  have e:=Eq.refl (lY a0 a1 a2);conv at e=>rhs;simp only [lY,h0,aH]
  rw [e]
  exact rt (t0++[.d h0,.p (show 0≤((IntKind.wrap .u64 a2):Int) from by first | omega | (rw [aD]<;>omega) | exact eD _),.c [] (aOd a1.1 (W (1*2 ^ (min (toNat (IntKind.wrap .u64 a2)) 64)))),.c [] (aOd a1.2.1 (W (1*2 ^ (min (toNat (IntKind.wrap .u64 a2)) 64)))),.c [] (aOd a1.2.2 (W (1*2 ^ (min (toNat (IntKind.wrap .u64 a2)) 64)))),.c [] (bAy a0 a2 ((aC a1.1 (W (1*2 ^ (min (toNat (IntKind.wrap .u64 a2)) 64)))),(aC a1.2.1 (W (1*2 ^ (min (toNat (IntKind.wrap .u64 a2)) 64)))),(aC a1.2.2 (W (1*2 ^ (min (toNat (IntKind.wrap .u64 a2)) 64)))))  (xH h0) (aEn h0))]) [] [] hcx (by kernel_rfl)
end Go.Proofs.YtaeagjnpobdglaaGreat
namespace Go.Proofs.YtaeagjnpobdglaaGreat
open Go.Proofs Go.Aw Go.RowKit
set_option maxRecDepth 100000
theorem aIt:∀(d:Nat)(p:PN),(aR d p).length=4 ^ d
 | 0,p=>rfl
 | d+1,p=>by
   rw [fZ]
   have:∀l:List PN,(l.flatMap aB1).length=4*l.length:=fun l=>by
     induction l with
     | nil=>rfl
     | cons x l ih=>rw [List.flatMap_cons,List.length_append,ih];show 4+_=_;simp only [List.length_cons];omega
   rw [this,aIt d p,Nat.pow_succ];omega
end Go.Proofs.YtaeagjnpobdglaaGreat
