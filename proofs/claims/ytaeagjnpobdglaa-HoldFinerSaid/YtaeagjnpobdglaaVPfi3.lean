/-
  Parts of the proofs of the laws: the executor, what functions of the program compute, and that it is what the statements ask. No premise.
-/
import Derived.Test.YtaeagjnpobdglaaVPfi2
import Derived.Test.YtaeagjnpobdglaaRows
import Derived.Shelf.Abstract
import Derived.ProofKit
import Derived.OpenShut
import Derived.Deep.Slices
import Derived.RowKit
set_option linter.unusedVariables false
set_option linter.unusedSimpArgs false
set_option maxHeartbeats 4000000
open Int (toNat)
namespace Go.Aw
open Go.RowKit
def wZ (a b:Int):Int:=if b < a then b else a
def nY (a b:Int):Int:=if a < b then b else a
theorem xA {x:SV} (h:jJ 0 x=true)(k:Nat):¬x.has k:=fun hk=>absurd (aAg h hk) (jV _)
def mapE {α β:Type} (kc:α→SV)(vc:β→SV)(l:List (α×β)):List (SV×SV):=l.map fun e=>(kc e.1,vc e.2)
def cT {α β:Type} [DecidableEq α] (k:α):List (α×β)→Option (Nat×β)
 | []=>none
 | e::l=>if e.1=k then some (0,e.2) else match cT k l with
   | some q=>some (q.1+1,q.2)
   | none=>none
def aU {α β:Type} [DecidableEq α] (l:List (α×β))(k:α)(d:β):β:=match cT k l with
 | some q=>q.2
 | none=>d
def qV {α β:Type} [DecidableEq α] (l:List (α×β))(k:α):Bool:=(cT k l).isSome
def bH {α β:Type} [DecidableEq α] (l:List (α×β))(k:α)(v:β):List (α×β):=match cT k l with
 | some q=>l.set q.1 (k,v)
 | none=>l++[(k,v)]
def lS {α β:Type} [DecidableEq α] (l:List (α×β))(k:α)(d:β):List (α×β):=match cT k l with
 | some _=>l
 | none=>l++[(k,d)]
def mix {α β:Type} [DecidableEq α] (l:List (α×β))(k:α):Nat:=match cT k l with
 | some q=>q.1
 | none=>l.length
structure KeyOK {α:Type} (T:Nat→Option TI) (kt:Nat) (kc:α→SV):Prop where
 hb:∀x,lQ T kt (kc x)=true
 he:∀x y,∃b,vD T 100 kt (kc x).cells (kc y).cells=some b∧(b=true↔kc y=kc x)
 inj:∀x y,kc x=kc y→x=y
 pl:∀x,jJ 0 (kc x)=true
theorem qW {α β:Type} {kc:α→SV} {vc:β→SV} {l:List (α×β)} {i:Nat} {x:SV×SV} (h:(mapE kc vc l)[i]? = some x):∃e,l[i]? = some e∧x=(kc e.1,vc e.2):=by
 unfold mapE at h
 rw [List.getElem?_map] at h
 cases hl:l[i]? with
 | none=>rw [hl] at h;cases h
 | some e=>rw [hl] at h;simp at h;exact⟨e,rfl,h.symm⟩
theorem kG {α β:Type} {kc:α→SV} {vc:β→SV} {l:List (α×β)} {T:Nat→Option TI} {kt:Nat} {k:α} (hk:KeyOK T kt kc):gK T kt (mapE kc vc l) (kc k):=fun e he=>by
 obtain⟨i,hi⟩:=List.getElem?_of_mem he
 obtain⟨e',_,rfl⟩:=qW hi
 exact⟨hk.hb _,hk.he k e'.1⟩
theorem aFg {α β:Type} {kc:α→SV} {vc:β→SV} {l:List (α×β)} {T:Nat→Option TI} {kt:Nat} (hk:KeyOK T kt kc)(hv:∀v,jJ 0 (vc v)=true):Plain (eH (mapE kc vc l)):=fun j hj=>by
 rw [bN] at hj
 obtain⟨x,hx,hj⟩:=hj
 unfold eH at hx
 obtain⟨e,he,hx⟩:=List.mem_flatMap.1 hx
 obtain⟨i,hi⟩:=List.getElem?_of_mem he
 obtain⟨e',_,rfl⟩:=qW hi
 simp only [List.mem_cons,List.not_mem_nil,or_false] at hx
 rcases hx with rfl | rfl
 · exact xA (hk.pl _) j hj
 · exact xA (hv _) j hj
section
variable {α β : Type} [DecidableEq α] {kc : α → SV} {vc : β → SV} {l : List (α × β)} {k : α} {T : Nat → Option TI} {kt : Nat}
theorem pH:∀{l:List (α×β)} {q:Nat×β},cT k l=some q→l[q.1]? = some (k,q.2)∧∀j e,j < q.1→l[j]? = some e→e.1≠k
 | [],q,h=>by simp [cT] at h
 | e::l,q,h=>by
   simp only [cT] at h
   split at h
   · rename_i he
     simp only [Option.some.injEq] at h
     subst h
     exact⟨by rw [←he];rfl,fun j e hj=>absurd hj (jV _)⟩
   · rename_i he
     split at h
     · rename_i q' hq
       simp only [Option.some.injEq] at h
       subst h
       obtain⟨h1,h2⟩:=pH hq
       refine⟨by simpa using h1,fun j e' hj hje=>?_⟩
       cases j with
       | zero=>simp at hje;rw [←hje];exact he
       | succ j=>exact h2 j e' (by omega) (by simpa using hje)
     · cases h
theorem xB:∀{l:List (α×β)},cT k l=none→∀e∈l,e.1≠k
 | [],_,e,he=>by simp at he
 | e::l,h,e',he=>by
   simp only [cT] at h
   split at h
   · cases h
   · rename_i hne
     split at h
     · cases h
     · rename_i hn
       rcases List.mem_cons.1 he with rfl | he
       · exact hne
       · exact xB hn e' he
theorem nI (hk:KeyOK T kt kc):uN (mapE kc vc l) (kc k) ((cT k l).map fun q=>(q.1,vc q.2)):=by
 cases h:cT k l with
 | some q =>
   obtain⟨h1,h2⟩:=pH h
   refine .inl ⟨q.1,vc q.2,by unfold mapE;rw [List.getElem?_map,h1];rfl,fun j e hj he=>?_,rfl⟩
   obtain⟨e',he',rfl⟩:=qW he
   exact fun hc=>h2 j e' hj he' (hk.inj _ _ hc)
 | none =>
   refine .inr ⟨fun e he hc=>?_,rfl⟩
   obtain⟨i,hi⟩:=List.getElem?_of_mem he
   obtain⟨e',he',rfl⟩:=qW hi
   exact xB h e' (List.mem_of_getElem? he') (hk.inj _ _ hc)
theorem qX (d:β):vc (aU l k d)=(((cT k l).map fun q=>(q.1,vc q.2)).map (·.2)).getD (vc d):=by
 unfold aU
 cases cT k l<;>rfl
theorem aAl:∀{l:List (α×β)} (d:β),cT k l=none→cT k (l++[(k,d)])=some (l.length,d)
 | [],d,_=>by simp [cT]
 | e::l,d,h=>by
   simp only [cT] at h
   split at h
   · cases h
   · rename_i hne
     split at h
     · cases h
     · rename_i hn
       simp only [List.cons_append,cT,if_neg hne,aAl d hn,List.length_cons]
theorem aI1 (l:List (α×β))(k:α)(d:β):aU (lS l k d) k d=aU l k d:=by
 unfold lS aU
 cases h:cT k l with
 | some q=>simp only [h]
 | none=>simp only [aAl d h]
theorem aKb (hk:KeyOK T kt kc)(d:β):∃q,uN (mapE kc vc (lS l k d)) (kc k) q∧vc (aU l k d)=(q.map (·.2)).getD (vc d):=by
 rw [←aI1 l k d]
 exact⟨_,nI hk,qX d⟩
theorem aOl (hk:KeyOK T kt kc)(v:β):aN4 (mapE kc vc l) (kc k) (vc v) (mapE kc vc (bH l k v)):=by
 refine⟨_,nI hk,?_⟩
 unfold bH
 cases h:cT k l with
 | some q=>simp [mapE,List.map_set]
 | none=>simp [mapE]
theorem aOm (hk:KeyOK T kt kc)(d:β):aN5 (mapE kc vc l) (kc k) (vc d) (mapE kc vc (lS l k d)) (vc (aU l k d)) (mix l k):=by
 refine⟨_,nI hk,?_⟩
 unfold lS aU mix
 cases h:cT k l with
 | some q=>simp
 | none=>simp [mapE]
theorem aQv (v:β)(d:β):∃(j:Nat)(e:SV×SV),((mix l k:Nat):Int)=(j:Int)∧(mapE kc vc (lS l k d))[j]? = some e∧mapE kc vc (bH l k v)=(mapE kc vc (lS l k d)).set j (e.1,vc v):=by
 unfold lS mix bH
 cases h:cT k l with
 | some q =>
   refine⟨q.1,(kc k,vc q.2),rfl,?_,?_⟩
   · unfold mapE;rw [List.getElem?_map,(pH h).1];rfl
   · simp [mapE,List.map_set]
 | none =>
   refine⟨l.length,(kc k,vc d),rfl,?_,?_⟩
   · simp [mapE]
   · simp [mapE]
variable {P : Program}
def St.z (id:Nat):St P:=⟨[.stop id],[],trivial⟩
def vB (b:Bool):SV:=.v (.bool b)
def St.mG (hk:KeyOK T kt kc)(vc:β→SV)(l:List (α×β))(k:α)(d:β):St P :=
 ⟨[.ld [vc (aU l k d)]],[.pr (gK T kt (mapE kc vc l) (kc k)),.pr (∃q,uN (mapE kc vc l) (kc k) q∧vc (aU l k d)=(q.map (·.2)).getD (vc d))],kG hk,⟨_,nI hk,qX d⟩,trivial⟩
def St.mGa (hk:KeyOK T kt kc)(vc:β→SV)(l:List (α×β))(k:α)(d:β)(b:Nat):St P :=
 ⟨[.alt b (.map (mapE kc vc (lS l k d))),.ld [vc (aU l k d)]],[.pr (gK T kt (mapE kc vc l) (kc k)),.pr (∃q,uN (mapE kc vc l) (kc k) q∧vc (aU l k d)=(q.map (·.2)).getD (vc d)),
   .pr (gK T kt (mapE kc vc (lS l k d)) (kc k)),.pr (∃q,uN (mapE kc vc (lS l k d)) (kc k) q∧vc (aU l k d)=(q.map (·.2)).getD (vc d)),.pr (({ val:=vc (aU l k d) }:Eff)={ val:=vc (aU l k d) })],
   kG hk,⟨_,nI hk,qX d⟩,kG hk,aKb hk d,rfl,trivial⟩
def St.mR (kc:α→SV)(vc:β→SV)(l:List (α×β))(k:α)(d:β):St P:=⟨[],[.pr (BK.map (mapE kc vc (lS l k d))=BK.map (mapE kc vc (lS l k d)))],rfl,trivial⟩
def St.mH (hk:KeyOK T kt kc)(vc:β→SV)(l:List (α×β))(k:α)(d:β):St P :=
 ⟨[.ld [.t [vc (aU l k d),.v (.bool (qV l k))]]],[.pr (gK T kt (mapE kc vc l) (kc k)),.pr (∃q,uN (mapE kc vc l) (kc k) q∧vc (aU l k d)=(q.map (·.2)).getD (vc d)∧qV l k=q.isSome)],kG hk,⟨_,nI hk,qX d,by unfold qV;cases cT k l<;>rfl⟩,trivial⟩
def St.mP (hk:KeyOK T kt kc)(vc:β→SV)(l:List (α×β))(k:α)(v:β)(hv:∀v,jJ 0 (vc v)=true:=by exact fun _=>rfl):St P :=
 ⟨[.mp (mapE kc vc (bH l k v))],[.pr (gK T kt (mapE kc vc l) (kc k)),.pr (aN4 (mapE kc vc l) (kc k) (vc v) (mapE kc vc (bH l k v))),.pr (Plain (eH (mapE kc vc (bH l k v))))],kG hk,aOl hk v,aFg hk hv,trivial⟩
def St.mE (hk:KeyOK T kt kc)(vc:β→SV)(l:List (α×β))(k:α)(d:β)(hv:∀v,jJ 0 (vc v)=true:=by exact fun _=>rfl):St P :=
 ⟨[.mp (mapE kc vc (lS l k d)),.ld [vc (aU l k d),iv ((mix l k:Nat):Int)]],[.pr (gK T kt (mapE kc vc l) (kc k)),.pr (∃j:Nat,((mix l k:Nat):Int)=(j:Int)∧aN5 (mapE kc vc l) (kc k) (vc d) (mapE kc vc (lS l k d)) (vc (aU l k d)) j),.pr (Plain (eH (mapE kc vc (lS l k d))))],kG hk,⟨_,rfl,aOm hk d⟩,aFg hk hv,trivial⟩
def St.mS (hk:KeyOK T kt kc)(vc:β→SV)(l:List (α×β))(k:α)(d v:β)(hv:∀v,jJ 0 (vc v)=true:=by exact fun _=>rfl):St P :=
 ⟨[.mp (mapE kc vc (bH l k v))],[.pr (∃(j:Nat) (e:SV×SV),((mix l k:Nat):Int)=(j:Int)∧(mapE kc vc (lS l k d))[j]? = some e∧mapE kc vc (bH l k v)=(mapE kc vc (lS l k d)).set j (e.1,vc v)),.pr (Plain (eH (mapE kc vc (bH l k v))))],aQv v d,aFg hk hv,trivial⟩
end
def St.sub {P:Program} (a b:Int)(n:Nat)(h:0≤a∧a≤b∧b≤(n:Int):=by omega):St P:=⟨[.mp []],[.pr (0≤a∧a≤b∧b≤(n:Int))],h,trivial⟩
section
variable {P : Program}
theorem aBt {α:Type} {c:α→List SV} (hc:∀x,(c x).all SV.plain=true)(l:List α):Plain (flat c l):=iU hc
def St.D {α:Type} {c:α→List SV} {c2:List α→List SV} (es:Nat)(hc2:∀x,c2 x=[.d (flat c x) x.length es])(l:List (List α))(i:Int)(h:0≤i∧i < (l.length:Int):=by omega) (hc:∀x,(c x).all SV.plain=true:=by exact fun _=>rfl):St P :=
 ⟨[.ld [.d (flat c (l.getD i.toNat default)) (l.getD i.toNat default).length es]],[.pr (((flat c2 l).drop (0+i.toNat*1)).take 1=[.d (flat c (l.getD i.toNat default)) (l.getD i.toNat default).length es]),.pr (Plain (flat c (l.getD i.toNat default)))],
   by
     have h1:∀x,(c2 x).length=1:=fun x=>by rw [hc2];rfl
     have:=aKa h1 l i 0 1 h (by decide)
     rw [Nat.add_zero] at this
     show _=_
     rw [this,hc2];rfl,aBt hc _,trivial⟩
theorem aKc {α:Type} {c:α→List SV} {z:α} (n:Nat):flat c (List.replicate n z)=(List.replicate n (c z)).flatten:=by
 unfold flat
 rw [List.flatMap_def,List.map_replicate]
def St.Z {α:Type} (c:α→List SV)(z:α)(zs:List SV)(n:Int)(bytes:Nat)(h:0≤n∧n.toNat*bytes≤2 ^ 47∧n≤2 ^ 47:=by omega) (e:c z=zs:=by rfl):St P :=
 ⟨[.ld (flat c (List.replicate n.toNat z))],[.pr (0≤n∧n.toNat*bytes≤2 ^ 47∧n≤2 ^ 47),.pr (n=n),.pr (flat c (List.replicate n.toNat z)=(List.replicate n.toNat zs).flatten)],h,rfl,by rw [←e];exact aKc _,trivial⟩
theorem aAm {α:Type} {c:α→List SV} {es:Nat} (hc:∀x,(c x).length=es):∀(l:List α)(n:Nat),(flat c l).drop (n*es)=flat c (l.drop n)
 | [],n=>by simp [flat]
 | x::l,0=>by simp
 | x::l,n+1=>by
   rw [fW,Nat.add_mul,Nat.one_mul,Nat.add_comm,←List.drop_drop,List.drop_left' (hc x),aAm hc l n];simp
theorem aAn {α:Type} {c:α→List SV} {es:Nat} (hc:∀x,(c x).length=es):∀(l:List α)(n:Nat),(flat c l).take (n*es)=flat c (l.take n)
 | [],n=>by simp [flat]
 | x::l,0=>by simp [flat]
 | x::l,n+1=>by
   rw [fW,Nat.add_mul,Nat.one_mul,Nat.add_comm,←hc x,List.take_length_add_append,hc x,aAn hc l n];simp [fW]
def part {α:Type} (l:List α)(a b:Int):List α:=(l.drop a.toNat).take (b.toNat - a.toNat)
def St.S {α:Type} {c:α→List SV} {es:Nat} (hc:∀x,(c x).length=es)(l:List α)(a b:Int)(n:Nat)(h:0≤a∧a≤b∧b≤(n:Int):=by omega):St P :=
 ⟨[.ld (flat c (part l a b))],[.pr (0≤a∧a≤b∧b≤(n:Int)),.pr (flat c (part l a b)=((flat c l).drop (0+a.toNat*es)).take ((b.toNat - a.toNat)*es))],h,by rw [Nat.zero_add,aAm hc,aAn hc];rfl,trivial⟩
end
end Go.Aw
namespace Go.Aw
open Go.RowKit
mutual
def SV.hasB (i:Nat):SV→Bool
 | .p j _=>j == i
 | .s j _ _ _=>j == i
 | .m j=>j == i
 | .f _ caps=>SV.hasBl i caps
 | .a l=>SV.hasBl i l
 | .t l=>SV.hasBl i l
 | _=>false
def SV.hasBl (i:Nat):List SV→Bool
 | []=>false
 | x::l=>SV.hasB i x || SV.hasBl i l
end
def BK.hasB (i:Nat):BK→Bool
 | .live _ false cells=>SV.hasBl i cells
 | .map es=>SV.hasBl i (eH es)
 | _=>false
section
variable {P : Program} {ρ : Env} {W : World} {M : Nat → Prop}
end
end Go.Aw
namespace Go.Proofs.Ytaeagjnpobdglaa
open Go.Proofs Go.Aw Go.RowKit
set_option maxRecDepth 100000
noncomputable def T0:=conv Try.prog
theorem hT:iF Try.prog T0:=fun _ _ h=>h
theorem hm:Try.prog.follows .mixedOrders=true:=by kernel_rfl
def W (n:Int):Int:=IntKind.wrap .i64 n
theorem aS0 (n:Int):W n=if n % 18446744073709551616≥9223372036854775808 then n % 18446744073709551616 - 18446744073709551616 else n % 18446744073709551616:=by
 unfold W IntKind.wrap
 simp [IntKind.bits,IntKind.signed]
theorem aE {n:Int} (h1:-9223372036854775808≤n)(h2:n < 9223372036854775808):W n=n:=by
 rw [aS0];split<;>omega
theorem aBu (x:Int)(k:Nat) {m:Nat} (hm:(2:Int) ^ (min (toNat k) 64)=m):Int.fdiv x (2 ^ (min (toNat k) 64))=x / m:=by
 rw [hm];exact Int.fdiv_eq_ediv_of_nonneg _ (by omega)
theorem kY (n:Int):0≤IntKind.wrap .u64 n:=by
 simp only [IntKind.wrap,IntKind.bits,IntKind.signed]
 simp
 omega
def k9 (x:Zt×Zt×Zt):List SV:=[(iv x.1.1),(iv x.1.2.1),(iv x.1.2.2),(iv x.2.1.1),(iv x.2.1.2.1),(iv x.2.1.2.2),(iv x.2.2.1),(iv x.2.2.2.1),(iv x.2.2.2.2)]
def k3 (x:Zt):List SV:=[(iv x.1),(iv x.2.1),(iv x.2.2)]
def k2 (x:Int×Int):List SV:=[(iv x.1),(iv x.2)]
section
variable {cx : Cx} {k : List K} {s : LS} {base : Nat} {Q : Exit → Act → World → Prop}
theorem rt {fn:Func} (sts:List (St Try.prog))(ads:List Adj)(ks:List Nat)(hb:cx.base=base) {res:SV} {nb:List BK}
 (h:qR T0 fn.results.toList base [] ks (lR ads (run T0 5000 k s (stO sts)))=some (res,nb,[],stB sts)):Aw.Good Try.prog none 9 (bodyPost Try.prog fn (RR cx res nb [])) cx [] k s:=aSz hT hm sts ads ks hb h
theorem rtm {fn:Func} (sts:List (St Try.prog))(ads:List Adj)(ms ks:List Nat)(hb:cx.base=base) {res:SV} {nb mb:List BK}
 (h:qR T0 fn.results.toList base ms ks (lR ads (run T0 5000 k s (stO sts)))=some (res,nb,mb,stB sts)):Aw.Good Try.prog none 9 (bodyPost Try.prog fn (RR cx res nb mb)) cx [] k s:=aJ2 hT hm ads ms ks hb h (aI0 sts)
theorem en (sts:List (St Try.prog))(ads:List Adj)(ts ks:List Nat)(hb:cx.base=base)(body:Code)(k':List K)(s':LS)(m:Nat)
 (h:vF base ts ks (lR ads (run T0 5000 k s (stO sts)))=some (body,k',s',stB sts)) (hg:Aw.Good Try.prog none 9 Q cx [] (.l body m::k') s'):Aw.Good Try.prog none 9 Q cx [] k s:=aOk hT hm sts ads ts ks hb body k' s' m h hg
theorem ba {m:Nat} (sts:List (St Try.prog))(ads:List Adj)(ts ks:List Nat)(hb:cx.base=base)(body:Code)(k':List K)(s':LS)
 (h:aBp base ts ks (lR ads (run T0 5000 k s (stO sts)))=some (body,m,k',s',stB sts)) (hg:Aw.Good Try.prog none 9 Q cx [] (.l body m::k') s'):Aw.Good Try.prog none 9 Q cx [] k s:=aQu hT hm sts ads ts ks hb body k' s' h hg
theorem ga (sts:List (St Try.prog))(ads:List Adj)(ts ks:List Nat)(hb:cx.base=base)(x:Code)(k':List K)(s':LS)
 (h:aOi base ts ks (lR ads (run T0 5000 k s (stO sts)))=some (x,k',s',stB sts)) (hg:Aw.Good Try.prog none 9 Q cx [] (.c x::k') s'):Aw.Good Try.prog none 9 Q cx [] k s:=aVt hT hm sts ads ts ks hb x k' s' h hg
end
def nZ (a0:Zt)(a1:Int):Zt :=
 ((W (a1*a0.1)),(W (a1*a0.2.1)),(W (a1*a0.2.2)))
theorem C82 (a0:Zt)(a1:Int):Con Try.prog 82 [(.a (k3 a0)),(iv a1)] [] (.a (k3 (nZ a0 a1))) []:=by
 refine aL Try.func82 (by kernel_rfl) fun cx hcx=>?_
 have e:=Eq.refl (nZ a0 a1);conv at e=>rhs;simp only [nZ]
 rw [e]
 exact rt [] [] [] hcx (by kernel_rfl)
def eU (a0:Zt)(a1:Zt):Zt :=
 ((W (a0.1+a1.1)),(W (a0.2.1+a1.2.1)),(W (a0.2.2+a1.2.2)))
theorem aQw (a0:Zt)(a1:Zt):Con Try.prog 106 [(.a (k3 a0)),(.a (k3 a1))] [] (.a (k3 (eU a0 a1))) []:=by
 refine aL Try.func106 (by kernel_rfl) fun cx hcx=>?_
 have e:=Eq.refl (eU a0 a1);conv at e=>rhs;simp only [eU]
 rw [e]
 exact rt [] [] [] hcx (by kernel_rfl)
def cP (x:Zt×Zt×Zt):List SV:=[iv x.1.1,iv x.1.2.1,iv x.1.2.2,iv x.2.1.1,iv x.2.1.2.1,iv x.2.1.2.2,iv x.2.2.1,iv x.2.2.2.1,iv x.2.2.2.2]
def zN (x:Zt×Zt×Zt):Value:=.agg #[.int .i64 x.1.1,.int .i64 x.1.2.1,.int .i64 x.1.2.2,.int .i64 x.2.1.1,.int .i64 x.2.1.2.1,.int .i64 x.2.1.2.2,.int .i64 x.2.2.1,.int .i64 x.2.2.2.1,.int .i64 x.2.2.2.2]
theorem xC (ρ:Env)(x:Zt×Zt×Zt):Rel ρ (.a (cP x)) (zN x):=by
 simp only [Rel];exact⟨_,rfl,by simp [cP,Rels,Rel,iv]⟩
theorem aKd (x:Zt×Zt×Zt)(k:Nat):¬(SV.a (cP x)).has k:=by
 simp [cP,SV.has,SV.hasl,iv]
def yv (l:Nat):Value:=.func (.yield l) #[] #[]
def q1 (p:Zt×Zt×Zt):Zt×Zt×Zt:=(nZ p.1 2,eU p.1 p.2.1,eU p.2.2 p.1)
def q2 (p:Zt×Zt×Zt):Zt×Zt×Zt:=(eU p.1 p.2.1,nZ p.2.1 2,eU p.2.1 p.2.2)
def q3 (p:Zt×Zt×Zt):Zt×Zt×Zt:=(eU p.2.2 p.1,eU p.2.1 p.2.2,nZ p.2.2 2)
def q4 (p:Zt×Zt×Zt):Zt×Zt×Zt:=(eU p.1 p.2.1,eU p.2.1 p.2.2,eU p.2.2 p.1)
def aQ:Nat→Zt×Zt×Zt→List (Zt×Zt×Zt)
 | 0,p=>[p]
 | d+1,p=>aQ d (q1 p)++(aQ d (q2 p)++(aQ d (q3 p)++aQ d (q4 p)))
theorem uF:∀(d:Nat)(p:Zt×Zt×Zt),(aQ d p).length=4 ^ d
 | 0,p=>rfl
 | d+1,p=>by simp only [aQ,List.length_append,uF d,Nat.pow_succ];omega
def qY (l:Nat)(J:Nat→(Nat→Prop)→World→Prop)(Jx:(Nat→Prop)→World→Prop)(xs:List (Zt×Zt×Zt))(d:Nat):Prop :=
 ∀(p:Zt×Zt×Zt) (i:Nat) (S:Nat→Prop) (W:World) (ρ:Env) (vs:List Value),Rels ρ [.a (cP p),iv d,.p 0 0,.p 1 0] vs →
   BRep ρ (fun b=>W.heap.size≤b) W 0 (.live false false [.v (yv l)])→BRep ρ (fun b=>W.heap.size≤b) W 1 (.live false false [.f 105 [.p 0 0,.p 1 0]]) →
   (∀k,k < 2→∀b o n,ρ k=some (b,o,n)→¬S b)→J i S W→(∀j x,(aQ d p)[j]? = some x→xs[i+j]? = some x) →
   Calls Try.prog 105 vs.toArray W (VR J Jx (i+(aQ d p).length) S W)
noncomputable def OY:Array Oper:=match (dC [1,0,1,0,0] [] (Try.f105.body.getD .skip)).1 with
 | .region _ ops _=>ops
 | _=>#[]
noncomputable def KY:List K:=(dC [1,0,1,0,0] [] (Try.f105.body.getD .skip)).2
noncomputable def OV:Array Oper:=match (dC [1,1,1,1,0,1,0,0,1,1,0,0,1,0] [0] (Try.f105.body.getD .skip)).1 with
 | .region _ ops _=>ops
 | _=>#[]
noncomputable def KV (m:Nat):List K:=(dC [1,1,1,1,0,1,0,0,1,1,0,0,1,0] [m] (Try.f105.body.getD .skip)).2
noncomputable def oY:Oper:=OY.toList.getD 2 default
noncomputable def oV:Oper:=OV.toList.getD 4 default
noncomputable def aFh (o:Oper):Array TypeId:=match o.op with
 | .call c=>c.argTypes
 | _=>#[]
theorem aS1:oY.op=.call { callee:=.value (.tmp 17),args:=#[.tmp 18],argTypes:=aFh oY }:=by kernel_rfl
theorem aS2:oV.op=.call { callee:=.value (.tmp 66),args:=#[.tmp 67,.tmp 69],argTypes:=aFh oV }:=by kernel_rfl
theorem aKe:OY.toList=OY.toList.take 2++oY::OY.toList.drop 3:=by kernel_rfl
theorem qZ:OV.toList=OV.toList.take 4++oV::OV.toList.drop 5:=by kernel_rfl
theorem aKf:kR Try.prog 105:=ent Try.func105 (by kernel_rfl) rfl
theorem aQx:kR Try.prog 104:=ent Try.func104 (by kernel_rfl) rfl
def zY (l:Nat)(p:Zt×Zt×Zt):LS:=⟨[.u,.u,.p 0 0,.u,.p 2 0,.u,.u,.u,.u,.u,.u,.u,.u,.u,.u,.u,.u,.u,.u,.u,.u,.u,.u,.u,.u,.u,.u,.u,.u,.u,.u,.u,.u,.u,.u,.u,.u,.u,.u,.u,.u,.u,.u,.u,.u,.u,.u,.u,.u,.u,.u,.u,.u,.u,.u,.u,.u,.u,.u,.u,.u,.u,.u,.u,.u,.u,.u,.u,.u,.u,.u,.u,.u],[.live false false [.v (yv l)],.live false false [.f 105 [.p 0 0,.p 1 0]],.live true false (cP p)]⟩
def zY1 (l:Nat)(p:Zt×Zt×Zt):LS:=⟨[.u,.u,.p 0 0,.u,.p 2 0,.u,.u,.u,.u,.u,.u,.u,.u,.u,.u,.u,.u,.v (yv l),.a (cP p),.u,.u,.u,.u,.u,.u,.u,.u,.u,.u,.u,.u,.u,.u,.u,.u,.u,.u,.u,.u,.u,.u,.u,.u,.u,.u,.u,.u,.u,.u,.u,.u,.u,.u,.u,.u,.u,.u,.u,.u,.u,.u,.u,.u,.u,.u,.u,.u,.u,.u,.u,.u,.u,.u],[.live false false [.v (yv l)],.live false false [.f 105 [.p 0 0,.p 1 0]],.live true false (cP p)]⟩
def zY3 (l:Nat)(p:Zt×Zt×Zt)(b:Bool):LS:=⟨[.u,.u,.p 0 0,.u,.p 2 0,.u,.v (.bool b),.u,.u,.u,.u,.u,.u,.u,.u,.u,.u,.v (yv l),.a (cP p),.v (.bool b),.u,.u,.u,.u,.u,.u,.u,.u,.u,.u,.u,.u,.u,.u,.u,.u,.u,.u,.u,.u,.u,.u,.u,.u,.u,.u,.u,.u,.u,.u,.u,.u,.u,.u,.u,.u,.u,.u,.u,.u,.u,.u,.u,.u,.u,.u,.u,.u,.u,.u,.u,.u,.u],[.live false false [.v (yv l)],.live false false [.f 105 [.p 0 0,.p 1 0]],.live false false (cP p)]⟩
def zV1 (l:Nat)(p:Zt×Zt×Zt)(d:Int):LS:=⟨[.u,iv d,.u,.p 1 0,.u,.u,.u,.u,.u,.u,.u,.u,.u,.u,.p 3 0,.u,.u,.u,.u,.u,.u,.u,.u,.u,.u,.u,.u,.u,.u,.u,.u,.u,.u,.u,.u,.u,.u,.u,.u,.u,.u,.u,.u,.u,.u,.u,.u,.u,.u,.u,.u,.u,.u,.u,.u,.u,.u,.u,.u,.u,.s 2 0 4 9,iv 4,iv 0,.u,.u,.u,.u,.u,.u,.u,.u,.u,.u],[.live false false [.v (yv l)],.live false false [.f 105 [.p 0 0,.p 1 0]],.live true false (cP (q1 p)++(cP (q2 p)++(cP (q3 p)++cP (q4 p)))),.live true false (cP (q1 p))]⟩
def aVu (l:Nat)(p:Zt×Zt×Zt)(d:Int):LS:=⟨[.u,iv d,.u,.p 1 0,.u,.u,.u,.u,.u,.u,.u,.u,.u,.u,.p 3 0,.u,.u,.u,.u,.u,.u,.u,.u,.u,.u,.u,.u,.u,.u,.u,.u,.u,.u,.u,.u,.u,.u,.u,.u,.u,.u,.u,.u,.u,.u,.u,.u,.u,.u,.u,.u,.u,.u,.u,.u,.u,.u,.u,.u,.u,.s 2 0 4 9,iv 4,iv 0,.u,.u,.u,.f 105 [.p 0 0,.p 1 0],.a (cP (q1 p)),iv d,iv (W (d - 1)),.u,.u,.u],[.live false false [.v (yv l)],.live false false [.f 105 [.p 0 0,.p 1 0]],.live true false (cP (q1 p)++(cP (q2 p)++(cP (q3 p)++cP (q4 p)))),.live true false (cP (q1 p))]⟩
def aVv (l:Nat)(p:Zt×Zt×Zt)(d:Int)(b:Bool):LS:=⟨[.u,iv d,.u,.p 1 0,.u,.u,.u,.u,.u,.u,.u,.u,.u,.u,.p 3 0,.u,.u,.u,.u,.u,.u,.u,.u,.u,.u,.u,.u,.u,.u,.u,.u,.u,.u,.u,.u,.u,.u,.u,.u,.u,.u,.u,.u,.u,.u,.u,.u,.u,.u,.u,.u,.u,.u,.u,.u,.u,.u,.u,.u,.u,.s 2 0 4 9,iv 4,iv 0,.u,.u,.u,.f 105 [.p 0 0,.p 1 0],.a (cP (q1 p)),iv d,iv (W (d - 1)),.v (.bool b),.v (.bool (!b)),.u],[.live false false [.v (yv l)],.live false false [.f 105 [.p 0 0,.p 1 0]],.live false false (cP (q1 p)++(cP (q2 p)++(cP (q3 p)++cP (q4 p)))),.live false false (cP (q1 p))]⟩
def zV2 (l:Nat)(p:Zt×Zt×Zt)(d:Int):LS:=⟨[.u,iv d,.u,.p 1 0,.u,.u,.u,.u,.u,.u,.u,.u,.u,.u,.p 4 0,.u,.u,.u,.u,.u,.u,.u,.u,.u,.u,.u,.u,.u,.u,.u,.u,.u,.u,.u,.u,.u,.u,.u,.u,.u,.u,.u,.u,.u,.u,.u,.u,.u,.u,.u,.u,.u,.u,.u,.u,.u,.u,.u,.u,.u,.s 2 0 4 9,iv 4,iv 1,.u,.u,.u,.u,.u,.u,.u,.u,.u,.u],[.live false false [.v (yv l)],.live false false [.f 105 [.p 0 0,.p 1 0]],.live false false (cP (q1 p)++(cP (q2 p)++(cP (q3 p)++cP (q4 p)))),.live false false (cP (q1 p)),.live true false (cP (q2 p))]⟩
def aVw (l:Nat)(p:Zt×Zt×Zt)(d:Int):LS:=⟨[.u,iv d,.u,.p 1 0,.u,.u,.u,.u,.u,.u,.u,.u,.u,.u,.p 4 0,.u,.u,.u,.u,.u,.u,.u,.u,.u,.u,.u,.u,.u,.u,.u,.u,.u,.u,.u,.u,.u,.u,.u,.u,.u,.u,.u,.u,.u,.u,.u,.u,.u,.u,.u,.u,.u,.u,.u,.u,.u,.u,.u,.u,.u,.s 2 0 4 9,iv 4,iv 1,.u,.u,.u,.f 105 [.p 0 0,.p 1 0],.a (cP (q2 p)),iv d,iv (W (d - 1)),.u,.u,.u],[.live false false [.v (yv l)],.live false false [.f 105 [.p 0 0,.p 1 0]],.live false false (cP (q1 p)++(cP (q2 p)++(cP (q3 p)++cP (q4 p)))),.live false false (cP (q1 p)),.live true false (cP (q2 p))]⟩
def aVx (l:Nat)(p:Zt×Zt×Zt)(d:Int)(b:Bool):LS:=⟨[.u,iv d,.u,.p 1 0,.u,.u,.u,.u,.u,.u,.u,.u,.u,.u,.p 4 0,.u,.u,.u,.u,.u,.u,.u,.u,.u,.u,.u,.u,.u,.u,.u,.u,.u,.u,.u,.u,.u,.u,.u,.u,.u,.u,.u,.u,.u,.u,.u,.u,.u,.u,.u,.u,.u,.u,.u,.u,.u,.u,.u,.u,.u,.s 2 0 4 9,iv 4,iv 1,.u,.u,.u,.f 105 [.p 0 0,.p 1 0],.a (cP (q2 p)),iv d,iv (W (d - 1)),.v (.bool b),.v (.bool (!b)),.u],[.live false false [.v (yv l)],.live false false [.f 105 [.p 0 0,.p 1 0]],.live false false (cP (q1 p)++(cP (q2 p)++(cP (q3 p)++cP (q4 p)))),.live false false (cP (q1 p)),.live false false (cP (q2 p))]⟩
def zV3 (l:Nat)(p:Zt×Zt×Zt)(d:Int):LS:=⟨[.u,iv d,.u,.p 1 0,.u,.u,.u,.u,.u,.u,.u,.u,.u,.u,.p 5 0,.u,.u,.u,.u,.u,.u,.u,.u,.u,.u,.u,.u,.u,.u,.u,.u,.u,.u,.u,.u,.u,.u,.u,.u,.u,.u,.u,.u,.u,.u,.u,.u,.u,.u,.u,.u,.u,.u,.u,.u,.u,.u,.u,.u,.u,.s 2 0 4 9,iv 4,iv 2,.u,.u,.u,.u,.u,.u,.u,.u,.u,.u],[.live false false [.v (yv l)],.live false false [.f 105 [.p 0 0,.p 1 0]],.live false false (cP (q1 p)++(cP (q2 p)++(cP (q3 p)++cP (q4 p)))),.live false false (cP (q1 p)),.live false false (cP (q2 p)),.live true false (cP (q3 p))]⟩
def aVy (l:Nat)(p:Zt×Zt×Zt)(d:Int):LS:=⟨[.u,iv d,.u,.p 1 0,.u,.u,.u,.u,.u,.u,.u,.u,.u,.u,.p 5 0,.u,.u,.u,.u,.u,.u,.u,.u,.u,.u,.u,.u,.u,.u,.u,.u,.u,.u,.u,.u,.u,.u,.u,.u,.u,.u,.u,.u,.u,.u,.u,.u,.u,.u,.u,.u,.u,.u,.u,.u,.u,.u,.u,.u,.u,.s 2 0 4 9,iv 4,iv 2,.u,.u,.u,.f 105 [.p 0 0,.p 1 0],.a (cP (q3 p)),iv d,iv (W (d - 1)),.u,.u,.u],[.live false false [.v (yv l)],.live false false [.f 105 [.p 0 0,.p 1 0]],.live false false (cP (q1 p)++(cP (q2 p)++(cP (q3 p)++cP (q4 p)))),.live false false (cP (q1 p)),.live false false (cP (q2 p)),.live true false (cP (q3 p))]⟩
def aVz (l:Nat)(p:Zt×Zt×Zt)(d:Int)(b:Bool):LS:=⟨[.u,iv d,.u,.p 1 0,.u,.u,.u,.u,.u,.u,.u,.u,.u,.u,.p 5 0,.u,.u,.u,.u,.u,.u,.u,.u,.u,.u,.u,.u,.u,.u,.u,.u,.u,.u,.u,.u,.u,.u,.u,.u,.u,.u,.u,.u,.u,.u,.u,.u,.u,.u,.u,.u,.u,.u,.u,.u,.u,.u,.u,.u,.u,.s 2 0 4 9,iv 4,iv 2,.u,.u,.u,.f 105 [.p 0 0,.p 1 0],.a (cP (q3 p)),iv d,iv (W (d - 1)),.v (.bool b),.v (.bool (!b)),.u],[.live false false [.v (yv l)],.live false false [.f 105 [.p 0 0,.p 1 0]],.live false false (cP (q1 p)++(cP (q2 p)++(cP (q3 p)++cP (q4 p)))),.live false false (cP (q1 p)),.live false false (cP (q2 p)),.live false false (cP (q3 p))]⟩
def zV4 (l:Nat)(p:Zt×Zt×Zt)(d:Int):LS:=⟨[.u,iv d,.u,.p 1 0,.u,.u,.u,.u,.u,.u,.u,.u,.u,.u,.p 6 0,.u,.u,.u,.u,.u,.u,.u,.u,.u,.u,.u,.u,.u,.u,.u,.u,.u,.u,.u,.u,.u,.u,.u,.u,.u,.u,.u,.u,.u,.u,.u,.u,.u,.u,.u,.u,.u,.u,.u,.u,.u,.u,.u,.u,.u,.s 2 0 4 9,iv 4,iv 3,.u,.u,.u,.u,.u,.u,.u,.u,.u,.u],[.live false false [.v (yv l)],.live false false [.f 105 [.p 0 0,.p 1 0]],.live false false (cP (q1 p)++(cP (q2 p)++(cP (q3 p)++cP (q4 p)))),.live false false (cP (q1 p)),.live false false (cP (q2 p)),.live false false (cP (q3 p)),.live true false (cP (q4 p))]⟩
def aV0 (l:Nat)(p:Zt×Zt×Zt)(d:Int):LS:=⟨[.u,iv d,.u,.p 1 0,.u,.u,.u,.u,.u,.u,.u,.u,.u,.u,.p 6 0,.u,.u,.u,.u,.u,.u,.u,.u,.u,.u,.u,.u,.u,.u,.u,.u,.u,.u,.u,.u,.u,.u,.u,.u,.u,.u,.u,.u,.u,.u,.u,.u,.u,.u,.u,.u,.u,.u,.u,.u,.u,.u,.u,.u,.u,.s 2 0 4 9,iv 4,iv 3,.u,.u,.u,.f 105 [.p 0 0,.p 1 0],.a (cP (q4 p)),iv d,iv (W (d - 1)),.u,.u,.u],[.live false false [.v (yv l)],.live false false [.f 105 [.p 0 0,.p 1 0]],.live false false (cP (q1 p)++(cP (q2 p)++(cP (q3 p)++cP (q4 p)))),.live false false (cP (q1 p)),.live false false (cP (q2 p)),.live false false (cP (q3 p)),.live true false (cP (q4 p))]⟩
def aV1 (l:Nat)(p:Zt×Zt×Zt)(d:Int)(b:Bool):LS:=⟨[.u,iv d,.u,.p 1 0,.u,.u,.u,.u,.u,.u,.u,.u,.u,.u,.p 6 0,.u,.u,.u,.u,.u,.u,.u,.u,.u,.u,.u,.u,.u,.u,.u,.u,.u,.u,.u,.u,.u,.u,.u,.u,.u,.u,.u,.u,.u,.u,.u,.u,.u,.u,.u,.u,.u,.u,.u,.u,.u,.u,.u,.u,.u,.s 2 0 4 9,iv 4,iv 3,.u,.u,.u,.f 105 [.p 0 0,.p 1 0],.a (cP (q4 p)),iv d,iv (W (d - 1)),.v (.bool b),.v (.bool (!b)),.u],[.live false false [.v (yv l)],.live false false [.f 105 [.p 0 0,.p 1 0]],.live false false (cP (q1 p)++(cP (q2 p)++(cP (q3 p)++cP (q4 p)))),.live false false (cP (q1 p)),.live false false (cP (q2 p)),.live false false (cP (q3 p)),.live false false (cP (q4 p))]⟩
def vb:SV→Bool
 | .v _ | .b _=>true
 | _=>false
theorem xD {ρ ρ':Env}:∀{l:List SV} {vs us:List Value},l.all vb=true→Rels ρ l vs→Rels ρ' l us→vs=us
 | [],[],[],_,_,_=>rfl
 | [],_::_,_,_,h,_=>by simp [Rels] at h
 | [],[],_::_,_,_,h=>by simp [Rels] at h
 | _::_,[],_,_,h,_=>by simp [Rels] at h
 | _::_,_::_,[],_,_,h=>by simp [Rels] at h
 | x::l,y::vs,z::us,hp,h1,h2=>by
   simp only [List.all_cons,Bool.and_eq_true] at hp
   simp only [Rels] at h1 h2
   rw [xD hp.2 h1.2 h2.2]
   have:y=z:=by
     cases x<;>simp only [vb,Bool.false_eq_true,false_and] at hp
     · have a1:=h1.1;have a2:=h2.1;simp only [Rel] at a1 a2;rw [a1,a2]
     · have a1:=h1.1;have a2:=h2.1;simp only [Rel] at a1 a2;rw [a1,a2]
   rw [this]
theorem nJ {ρ:Env} {x:SV} {l:List SV} {y:Value} {m:List Value} (h:Rel ρ x y)(h':Rels ρ l m):Rels ρ (x::l) (y::m):=by simp only [Rels];exact⟨h,h'⟩
theorem aBv {α:Type} {xs A B:List α} {i:Nat} (h:∀j x,(A++B)[j]? = some x→xs[i+j]? = some x):(∀j x,A[j]? = some x→xs[i+j]? = some x)∧(∀j x,B[j]? = some x→xs[i+A.length+j]? = some x) :=
 ⟨fun j x hj=>h j x (by rw [List.getElem?_append_left (List.getElem?_eq_some_iff.1 hj).1];exact hj),fun j x hj=>by
   have:=h (A.length+j) x (by rw [List.getElem?_append_right (by omega),Nat.add_sub_cancel_left];exact hj)
   rwa [←Nat.add_assoc] at this⟩
section
variable {l : Nat} {J : Nat → (Nat → Prop) → World → Prop} {Jx : (Nat → Prop) → World → Prop} {xs : List (Zt × Zt × Zt)}
theorem iH (hJ:sS J)(hX:aBr Jx) {m m':Nat} {W0:World} {S:Nat→Prop} {cx:Cx} {b:Bool} (h1:b=true→∃Sc,Seg J W0 S m' cx Sc)(h2:b=false→SegX Jx W0 S cx)(hm:m'=m)(Wd:World)(hb:Below cx.w.heap.size cx.w Wd)(hd:cx.w.drawn≤Wd.drawn) :
   VR J Jx m S W0 (.returned (.bool b)) Wd:=by
 subst hm
 cases b with
 | true =>
   obtain⟨Sc,h⟩:=h1 rfl
   exact .inl ⟨rfl,Sc,hJ _ _ _ _ h.j hb hd,h.kept.grow hb hd,h.sub⟩
 | false =>
   have h:=h2 rfl
   obtain⟨Sc,hj⟩:=h.j
   exact .inr ⟨rfl,Sc,hX _ _ _ hj hb hd,h.kept.grow hb hd⟩
theorem aQy (hJ:sS J)(hX:aBr Jx)(hB:mC J)(hY:∀i x S W1,xs[i]? = some x→J i S W1→YieldAt (Fw none) 9 Try.prog l #[zN x] W1 (YR J Jx i S W1)):qY l J Jx xs 0:=by
 intro p i S Wd ρ vs hargs hb0 hb1 hS hj hxs
 have hx:xs[i]? = some p:=by have:=hxs 0 p rfl;simpa using this
 refine jR (n:=9) (bs:=[.live false false [.v (yv l)],.live false false [.f 105 [.p 0 0,.p 1 0]]]) Try.func105 rfl (by show 4≤Try.f105.ntmps;decide) (by kernel_rfl) ⟨rfl,rfl,trivial⟩ (by kernel_rfl) (fun i=>by rcases i with _ | _ | i<;>simp [BK.own]) (by kernel_rfl) hargs (fun i=>by rcases i with _ | _ | i<;>first | exact hb0 | exact hb1 | simp [BRep]) (fun i=>by rcases i with _ | _ | i<;>simp [BK.pl]) (fun cx hbase hw hρ hfz hown=>?_)
 subst hw
 have hd:((((0:Nat):Int):Int) == 0)=true:=rfl
 refine qS (T:=T0) hT hm (f:=5000) (orc:=[.d true,.stop 2]) [] [2,4] [2] hbase (x:=.region 2 OY false) (k':=KY) (s':=zY l p)
   (obs:=[.eq ((((0:Nat):Int):Int) == 0) true]) (by kernel_rfl) ⟨hd,trivial⟩ ?_
 have hseg:Seg J cx.w S i cx S:=⟨hj,Kept.refl _ _,fun b h=>.inl h,fun k b o n hk h=>hS k (by rw [hbase] at hk;exact hk) b o n ((hρ k).symm.trans h),hown,fun b o ho=>by rw [hfz b] at ho;cases ho⟩
 refine mD (Jx:=Jx) hT hJ hB (m:=i+1) hseg (OY.toList.take 2) oY (OY.toList.drop 3) aKe (s1:=zY1 l p) (by kernel_rfl) (by kernel_rfl) 19 (by kernel_rfl) (cY (by kernel_rfl)) 2 hbase (by kernel_rfl) (by kernel_rfl)
   (fun ρ a W2 hrep hsafe hj2 K Q' hK=>?_) (zY3 l p) (fun b=>by kernel_rfl) (fun b cx' hb' h1 h2=>?_)
 · have e1:=hrep.sl 17
   have e2:=hrep.sl 18
   refine aJ9 aS1 (l:=l) (vs:=#[zN p]) ?_ ?_ (hY i p S W2 hx hj2) hK
   · exact e1
   · have:a.eval (.tmp 18)=zN p:=by
       have e3:Rel ρ (.a (cP p)) (a.tmps.getD 18 undef):=e2
       simp only [Rel] at e3
       obtain⟨vs,hv,hr⟩:=e3
       have h':=xC ρ p
       simp only [Rel] at h'
       obtain⟨us,hu,hr'⟩:=h'
       show a.tmps.getD 18 undef=zN p
       rw [hv,hu]
       have:vs=us:=xD (by simp [cP,vb,iv]) hr hr'
       rw [this]
     simp [this]
 · have hown':∀c,¬cx'.own c:=by
     cases b with
     | true=>obtain⟨Sc,h⟩:=h1 rfl;exact h.own
     | false=>exact(h2 rfl).own
   exact nH (T:=T0) hT hm (f:=5000) (orc:=[]) (b:=b) (obs:=[]) (by cases b<;>kernel_rfl) trivial hown' (fun Wd hW hWd=>iH hJ hX h1 h2 rfl Wd hW hWd)
theorem aHh {d:Nat} (ih:qY l J Jx xs d) {cx:Cx} {N:Nat} {D:List Deferred} {ρ:Env} {s:FS} {a:Act} {Wd:World} (hrep:Rep cx N D ρ s a Wd) {p:Zt×Zt×Zt} {i:Nat} {S:Nat→Prop}
   (hdl:d < 1000) (e1:s.sl 66=.f 105 [.p 0 0,.p 1 0]) (e2:s.sl 67=.a (cP p)) (e3:s.sl 69=iv (W (((d+1:Nat):Int) - 1))) (e4:s.bk 0=.live false false [.v (yv l)]) (e5:s.bk 1=.live false false [.f 105 [.p 0 0,.p 1 0]])
   (hS:∀k,k < 2→∀b o n,ρ k=some (b,o,n)→¬S b) (hj:J i S Wd) (hxs:∀j x,(aQ d p)[j]? = some x→xs[i+j]? = some x)
   (K:Act→World→Prop) (Q:Exit→Act→World→Prop) (hK:∀e Wd',VR J Jx (i+(aQ d p).length) S Wd e Wd'→∃v,e=.returned v∧K (a.put oV.dst v) Wd'):oV.wpIn (Fw none) 9 Try.prog a Wd K Q:=by
 have r1:=hrep.sl 66
 have r2:=hrep.sl 67
 have r3:=hrep.sl 69
 rw [e1] at r1;rw [e2] at r2;rw [e3] at r3
 have hw:W (((d+1:Nat):Int) - 1)=(d:Int):=by rw [aE]<;>omega
 rw [hw] at r3
 simp only [Rel] at r1
 obtain⟨vs,hv,hc⟩:=r1
 have b0:=hrep.bk 0
 have b1:=hrep.bk 1
 rw [e4] at b0;rw [e5] at b1
 refine aHg aS2 (g:=105) (caps:=vs) hv aKf (ih p i S Wd ρ _ ?_ b0.ro b1.ro hS hj hxs) hK
 exact nJ r2 (nJ r3 hc)
theorem aQz (hJ:sS J)(hX:aBr Jx)(hB:mC J) {d:Nat} (hdl:d < 1000)(ih:qY l J Jx xs d):qY l J Jx xs (d+1):=by
 intro p i S Wd ρ vs hargs hb0 hb1 hS hj hxs
 obtain⟨hx1,hr1⟩:=aBv hxs
 obtain⟨hx2,hr2⟩:=aBv hr1
 obtain⟨hx3,hx4⟩:=aBv hr2
 refine jR (n:=9) (bs:=[.live false false [.v (yv l)],.live false false [.f 105 [.p 0 0,.p 1 0]]]) Try.func105 rfl (by show 4≤Try.f105.ntmps;decide) (by kernel_rfl) ⟨rfl,rfl,trivial⟩ (by kernel_rfl) (fun i=>by rcases i with _ | _ | i<;>simp [BK.own]) (by kernel_rfl) hargs (fun i=>by rcases i with _ | _ | i<;>first | exact hb0 | exact hb1 | simp [BRep]) (fun i=>by rcases i with _ | _ | i<;>simp [BK.pl]) (fun cx hbase hw hρ hfz hown=>?_)
 subst hw
 have hd:((((d+1:Nat):Int):Int) == 0)=false:=by rw [beq_eq_false_iff_ne];omega
 have hseg:Seg J cx.w S i cx S:=⟨hj,Kept.refl _ _,fun b h=>.inl h,fun k b o n hk h=>hS k (by rw [hbase] at hk;exact hk) b o n ((hρ k).symm.trans h),hown,fun b o ho=>by rw [hfz b] at ho;cases ho⟩
 refine qS (T:=T0) hT hm (f:=5000) (orc:=[.d false,.call [] (.a [(iv (nZ p.1 2).1),(iv (nZ p.1 2).2.1),(iv (nZ p.1 2).2.2)]) [],.call [] (.a [(iv (nZ p.2.1 2).1),(iv (nZ p.2.1 2).2.1),(iv (nZ p.2.1 2).2.2)]) [],.call [] (.a [(iv (nZ p.2.2 2).1),(iv (nZ p.2.2 2).2.1),(iv (nZ p.2.2 2).2.2)]) [],.call [] (.a [(iv (eU p.1 p.2.1).1),(iv (eU p.1 p.2.1).2.1),(iv (eU p.1 p.2.1).2.2)]) [],.call [] (.a [(iv (eU p.2.1 p.2.2).1),(iv (eU p.2.1 p.2.2).2.1),(iv (eU p.2.1 p.2.2).2.2)]) [],.call [] (.a [(iv (eU p.2.2 p.1).1),(iv (eU p.2.2 p.1).2.1),(iv (eU p.2.2 p.1).2.2)]) [],.un 4,.d true,.stop 8]) [] [1,3,14,60,61,62] [9,10] hbase (x:=.region 8 OV false) (k':=KV 4) (s':=zV1 l p (d+1:Nat))
   (obs:=[.eq ((((d+1:Nat):Int):Int) == 0) false,.call 82 [(.a [(iv p.1.1),(iv p.1.2.1),(iv p.1.2.2)]),(iv 2)] [] (.a [(iv (nZ p.1 2).1),(iv (nZ p.1 2).2.1),(iv (nZ p.1 2).2.2)]) [],.call 82 [(.a [(iv p.2.1.1),(iv p.2.1.2.1),(iv p.2.1.2.2)]),(iv 2)] [] (.a [(iv (nZ p.2.1 2).1),(iv (nZ p.2.1 2).2.1),(iv (nZ p.2.1 2).2.2)]) [],.call 82 [(.a [(iv p.2.2.1),(iv p.2.2.2.1),(iv p.2.2.2.2)]),(iv 2)] [] (.a [(iv (nZ p.2.2 2).1),(iv (nZ p.2.2 2).2.1),(iv (nZ p.2.2 2).2.2)]) [],.call 106 [(.a [(iv p.1.1),(iv p.1.2.1),(iv p.1.2.2)]),(.a [(iv p.2.1.1),(iv p.2.1.2.1),(iv p.2.1.2.2)])] [] (.a [(iv (eU p.1 p.2.1).1),(iv (eU p.1 p.2.1).2.1),(iv (eU p.1 p.2.1).2.2)]) [],.call 106 [(.a [(iv p.2.1.1),(iv p.2.1.2.1),(iv p.2.1.2.2)]),(.a [(iv p.2.2.1),(iv p.2.2.2.1),(iv p.2.2.2.2)])] [] (.a [(iv (eU p.2.1 p.2.2).1),(iv (eU p.2.1 p.2.2).2.1),(iv (eU p.2.1 p.2.2).2.2)]) [],.call 106 [(.a [(iv p.2.2.1),(iv p.2.2.2.1),(iv p.2.2.2.2)]),(.a [(iv p.1.1),(iv p.1.2.1),(iv p.1.2.2)])] [] (.a [(iv (eU p.2.2 p.1).1),(iv (eU p.2.2 p.1).2.1),(iv (eU p.2.2 p.1).2.2)]) [],.eq true true,.pr (0≤(0:Int)∧(0:Int) < ((4:Nat):Int))]) (by kernel_rfl) ⟨hd,(C82 p.1 2),(C82 p.2.1 2),(C82 p.2.2 2),(aQw p.1 p.2.1),(aQw p.2.1 p.2.2),(aQw p.2.2 p.1),rfl,(show 0≤(0:Int)∧(0:Int) < ((4:Nat):Int) from by decide),trivial⟩ ?_
 refine mD (Jx:=Jx) hT hJ hB (m:=i+(aQ d (q1 p)).length) hseg (OV.toList.take 4) oV (OV.toList.drop 5) qZ (s1:=aVu l p (d+1:Nat)) (by kernel_rfl) (by kernel_rfl) 70 (by kernel_rfl) (cY (by kernel_rfl)) 2 hbase (by kernel_rfl) (by kernel_rfl)
   (fun ρ a W2 hrep hsafe hj2 K Q' hK=>aHh ih hrep hdl rfl rfl rfl rfl rfl (fun k hk b o n h=>(match k,hk,h with | 0,_,h=>hsafe 0 _ _ _ rfl b o n h | 1,_,h=>hsafe 1 _ _ _ rfl b o n h)) hj2 (fun j x hj=>hx1 j x hj) K Q' hK) (aVv l p (d+1:Nat)) (fun b=>by kernel_rfl) (fun b cx hbase h1 h2=>?_)
 cases b with
 | false =>
   exact nH (T:=T0) hT hm (f:=5000) (orc:=[.d true]) (b:=false) (obs:=[.eq (!false) true]) (by kernel_rfl) ⟨rfl,trivial⟩ (h2 rfl).own (fun W hW hWd=>iH (m':=i+(aQ (d+1) p).length) hJ hX (fun h=>by cases h) h2 rfl W hW hWd)
 | true =>
   obtain⟨Sc,hseg⟩:=h1 rfl
   refine qS (T:=T0) hT hm (f:=5000) (orc:=[.d false,.un 0,.d true,.stop 8]) [] [1,3,14,60,61,62] [4] hbase (x:=.region 8 OV false) (k':=KV 3) (s':=zV2 l p (d+1:Nat))
     (obs:=[.eq (!true) false,.eq (decide ((1:Int) < 4)) true,.pr (0≤(1:Int)∧(1:Int) < ((4:Nat):Int))]) (by kernel_rfl) ⟨rfl,rfl,(show 0≤(1:Int)∧(1:Int) < ((4:Nat):Int) from by decide),trivial⟩ ?_
   refine mD (Jx:=Jx) hT hJ hB (m:=i+(aQ d (q1 p)).length+(aQ d (q2 p)).length) hseg (OV.toList.take 4) oV (OV.toList.drop 5) qZ (s1:=aVw l p (d+1:Nat)) (by kernel_rfl) (by kernel_rfl) 70 (by kernel_rfl) (cY (by kernel_rfl)) 4 hbase (by kernel_rfl) (by kernel_rfl)
     (fun ρ a W2 hrep hsafe hj2 K Q' hK=>aHh ih hrep hdl rfl rfl rfl rfl rfl (fun k hk b o n h=>(match k,hk,h with | 0,_,h=>hsafe 0 _ _ _ rfl b o n h | 1,_,h=>hsafe 1 _ _ _ rfl b o n h)) hj2 (fun j x hj=>hx2 j x hj) K Q' hK) (aVx l p (d+1:Nat)) (fun b=>by kernel_rfl) (fun b cx hbase h1 h2=>?_)
   cases b with
   | false =>
     exact nH (T:=T0) hT hm (f:=5000) (orc:=[.d true]) (b:=false) (obs:=[.eq (!false) true]) (by kernel_rfl) ⟨rfl,trivial⟩ (h2 rfl).own (fun W hW hWd=>iH (m':=i+(aQ (d+1) p).length) hJ hX (fun h=>by cases h) h2 rfl W hW hWd)
   | true =>
     obtain⟨Sc,hseg⟩:=h1 rfl
     refine qS (T:=T0) hT hm (f:=5000) (orc:=[.d false,.un 0,.d true,.stop 8]) [] [1,3,14,60,61,62] [5] hbase (x:=.region 8 OV false) (k':=KV 2) (s':=zV3 l p (d+1:Nat))
       (obs:=[.eq (!true) false,.eq (decide ((2:Int) < 4)) true,.pr (0≤(2:Int)∧(2:Int) < ((4:Nat):Int))]) (by kernel_rfl) ⟨rfl,rfl,(show 0≤(2:Int)∧(2:Int) < ((4:Nat):Int) from by decide),trivial⟩ ?_
     refine mD (Jx:=Jx) hT hJ hB (m:=i+(aQ d (q1 p)).length+(aQ d (q2 p)).length+(aQ d (q3 p)).length) hseg (OV.toList.take 4) oV (OV.toList.drop 5) qZ (s1:=aVy l p (d+1:Nat)) (by kernel_rfl) (by kernel_rfl) 70 (by kernel_rfl) (cY (by kernel_rfl)) 5 hbase (by kernel_rfl) (by kernel_rfl)
       (fun ρ a W2 hrep hsafe hj2 K Q' hK=>aHh ih hrep hdl rfl rfl rfl rfl rfl (fun k hk b o n h=>(match k,hk,h with | 0,_,h=>hsafe 0 _ _ _ rfl b o n h | 1,_,h=>hsafe 1 _ _ _ rfl b o n h)) hj2 (fun j x hj=>hx3 j x hj) K Q' hK) (aVz l p (d+1:Nat)) (fun b=>by kernel_rfl) (fun b cx hbase h1 h2=>?_)
     cases b with
     | false =>
       exact nH (T:=T0) hT hm (f:=5000) (orc:=[.d true]) (b:=false) (obs:=[.eq (!false) true]) (by kernel_rfl) ⟨rfl,trivial⟩ (h2 rfl).own (fun W hW hWd=>iH (m':=i+(aQ (d+1) p).length) hJ hX (fun h=>by cases h) h2 rfl W hW hWd)
     | true =>
       obtain⟨Sc,hseg⟩:=h1 rfl
       refine qS (T:=T0) hT hm (f:=5000) (orc:=[.d false,.un 0,.d true,.stop 8]) [] [1,3,14,60,61,62] [6] hbase (x:=.region 8 OV false) (k':=KV 1) (s':=zV4 l p (d+1:Nat))
         (obs:=[.eq (!true) false,.eq (decide ((3:Int) < 4)) true,.pr (0≤(3:Int)∧(3:Int) < ((4:Nat):Int))]) (by kernel_rfl) ⟨rfl,rfl,(show 0≤(3:Int)∧(3:Int) < ((4:Nat):Int) from by decide),trivial⟩ ?_
       refine mD (Jx:=Jx) hT hJ hB (m:=i+(aQ d (q1 p)).length+(aQ d (q2 p)).length+(aQ d (q3 p)).length+(aQ d (q4 p)).length) hseg (OV.toList.take 4) oV (OV.toList.drop 5) qZ (s1:=aV0 l p (d+1:Nat)) (by kernel_rfl) (by kernel_rfl) 70 (by kernel_rfl) (cY (by kernel_rfl)) 6 hbase (by kernel_rfl) (by kernel_rfl)
         (fun ρ a W2 hrep hsafe hj2 K Q' hK=>aHh ih hrep hdl rfl rfl rfl rfl rfl (fun k hk b o n h=>(match k,hk,h with | 0,_,h=>hsafe 0 _ _ _ rfl b o n h | 1,_,h=>hsafe 1 _ _ _ rfl b o n h)) hj2 (fun j x hj=>hx4 j x hj) K Q' hK) (aV1 l p (d+1:Nat)) (fun b=>by kernel_rfl) (fun b cx hbase h1 h2=>?_)
       cases b with
       | false =>
         exact nH (T:=T0) hT hm (f:=5000) (orc:=[.d true]) (b:=false) (obs:=[.eq (!false) true]) (by kernel_rfl) ⟨rfl,trivial⟩ (h2 rfl).own (fun W hW hWd=>iH (m':=i+(aQ (d+1) p).length) hJ hX (fun h=>by cases h) h2 rfl W hW hWd)
       | true =>
         exact nH (T:=T0) hT hm (f:=5000) (orc:=[.d false,.un 0,.d false]) (b:=true) (obs:=[.eq (!true) false,.eq (decide ((4:Int) < 4)) false]) (by kernel_rfl) ⟨rfl,rfl,trivial⟩ (h1 rfl).choose_spec.own (fun W hW hWd=>iH hJ hX h1 h2 (by simp only [aQ,List.length_append];omega) W hW hWd)
theorem aAo (hJ:sS J)(hX:aBr Jx)(hB:mC J)(hY:∀i x S W1,xs[i]? = some x→J i S W1→YieldAt (Fw none) 9 Try.prog l #[zN x] W1 (YR J Jx i S W1)):∀d,d < 1000→qY l J Jx xs d
 | 0,_=>aQy hJ hX hB hY
 | d+1,h=>aQz hJ hX hB (by omega) (aAo hJ hX hB hY d (by omega))
end
noncomputable def O2:Array Oper:=match (dC [1,1,1] [] (Try.f104.body.getD .skip)).1 with
 | .region _ ops _=>ops
 | _=>#[]
noncomputable def o2:Oper:=O2.toList.getD 3 default
theorem aS3:o2.op=.call { callee:=.value (.tmp 6),args:=#[.tmp 7,.tmp 8],argTypes:=aFh o2 }:=by kernel_rfl
theorem aKg:O2.toList=O2.toList.take 3++[o2]:=by kernel_rfl
def z2 (l:Nat)(p:Zt×Zt×Zt)(d:Int):LS:=⟨[.u,.p 0 0,.p 1 0,.u,.p 3 0,.u,.u,.u,.u,.u],[.live false false (cP p),.live false false [iv d],.live true false [.v (yv l)],.live true false [.f 105 [.p 2 0,.p 3 0]]]⟩
def z21 (l:Nat)(p:Zt×Zt×Zt)(d:Int):LS:=⟨[.u,.p 0 0,.p 1 0,.u,.p 3 0,.u,.f 105 [.p 2 0,.p 3 0],.a (cP p),iv d,.u],[.live false false (cP p),.live false false [iv d],.live true false [.v (yv l)],.live true false [.f 105 [.p 2 0,.p 3 0]]]⟩
theorem aKh (p:Zt×Zt×Zt)(d:Nat)(hd:d < 1000):aOg Try.prog 104 [.p 0 0,.p 1 0] [.live false false (cP p),.live false false [iv (d:Nat)]] zN (aQ d p):=by
 refine⟨aQx,fun ρ Wd lb hcaps hbs hpl l J Jx S0 hJ hX hB hY h0=>?_⟩
 have hcon:Calls Try.prog 104 ((Value.func (.yield l) #[] #[])::lb).toArray Wd fun e Wd'=>(∃v,e=.returned v)∧∃S',(J (aQ d p).length S' Wd'∨Jx S' Wd')∧Kept Wd S0 Wd':=by
   refine jR (n:=9) (args:=[.v (yv l),.p 0 0,.p 1 0]) (bs:=[.live false false (cP p),.live false false [iv (d:Nat)]]) Try.func104 rfl (by show 3≤Try.f104.ntmps;decide) (by kernel_rfl) ⟨rfl,rfl,trivial⟩ (by kernel_rfl) (fun i=>by rcases i with _ | _ | i<;>simp [BK.own]) (by kernel_rfl) ⟨rfl,hcaps⟩ hbs hpl (fun cx hbase hw hρ hfz hown=>?_)
   subst hw
   refine qS (T:=T0) hT hm (f:=5000) (orc:=[.stop 3]) [] [1,2,4] [2,3] hbase (x:=.region 3 O2 false) (k':=[]) (s':=z2 l p d)
     (obs:=[]) (by kernel_rfl) trivial ?_
   intro ρ a Wd hrep
   simp only [dG]
   refine wpIn_region ?_
   have hsz:O2.size=(O2.toList.take 3).length+(0+1):=by kernel_rfl
   have hget:∀j,O2[j]? = (O2.toList.take 3++[o2])[j]? := fun j=>by rw [←aKg,Array.getElem?_toList]
   rw [hsz,uE]
   refine vH hT (O2.toList.take 3) 0 (z2 l p d) (z21 l p d) [] [] _ [] (qU (T:=T0) (obs:=[]) (by kernel_rfl)).choose_spec trivial (fun j o' hj=>?_) ρ a Wd hrep (fun ρ1 a1 W1 hrep1 hl1=>?_)
   · rw [hget,Nat.zero_add,List.getElem?_append_left (List.getElem?_eq_some_iff.1 hj).1];exact hj
   rw [wpOpsIn_cons]
   unfold wpOpIn
   have ho:O2[(O2.toList.take 3).length]? = some o2:=by rw [hget,List.getElem?_append_right (Nat.le_refl _)];simp
   rw [ho]
   have hw:Region.wanted o2 (yielded O2 a1.tmps)=true:=by
     have hg:o2.guard=none:=by kernel_rfl
     unfold Region.wanted;rw [hg]
   simp only [hw,if_true]
   have hbel:Below cx.w.heap.size cx.w W1:=by
     have:=hrep1.kept
     exact⟨this.os,this.tape,this.output,this.size,fun k hk=>this.block k hk (hown k)⟩
   have r1:=hrep1.sl 6
   have r2:=hrep1.sl 7
   have r3:=hrep1.sl 8
   have r1':Rel ρ1 (.f 105 [.p 2 0,.p 3 0]) (a1.tmps.getD 6 undef):=r1
   have r2':Rel ρ1 (.a (cP p)) (a1.tmps.getD 7 undef):=r2
   have r3':Rel ρ1 (iv (d:Nat)) (a1.tmps.getD 8 undef):=r3
   simp only [Rel] at r1'
   obtain⟨vs,hv,hc⟩:=r1'
   have own2:∀b,cx.mine b→cx.w.heap.size≤b:=fun b hb=>hb.elim id (fun h=>(hown b h).elim)
   have b2:=(qL (ks:=[2,3]) (i:=0) (m:=false) (x:=.live true false [.v (yv l)]) (y:=.live false false [.v (yv l)]) (M':=fun b=>W1.heap.size≤b) rfl rfl trivial (hrep1.bk 2) (fun _ h=>by cases h) (fun _ b hlt _ hM=>absurd hM (Nat.not_le_of_lt hlt))).1
   have b3:=(qL (ks:=[2,3]) (i:=1) (m:=false) (x:=.live true false [.f 105 [.p 2 0,.p 3 0]]) (y:=.live false false [.f 105 [.p 0 0,.p 1 0]]) (M':=fun b=>W1.heap.size≤b) rfl rfl trivial (hrep1.bk 3) (fun _ h=>by cases h) (fun _ b hlt _ hM=>absurd hM (Nat.not_le_of_lt hlt))).1
   have hS2:∀k,k < 2→∀b o n,eA ρ1 [2,3] k=some (b,o,n)→¬S0 b:=fun k hk b o n h hSb=>by
     have hlt:=hB _ _ _ h0 b hSb
     have own:∀j,(z21 l p d).fs.bk j≠.un→((z21 l p d).fs.bk j).own→ρ1 j=some (b,o,n)→False:=fun j _ hj hρ=>by
       have hb:=hrep1.bk j
       cases hx:(z21 l p d).fs.bk j with
       | un=>rw [hx] at hj;exact hj
       | dead=>rw [hx] at hj;exact hj
       | map es =>
         rw [hx] at hb
         obtain⟨b',n',arr,q1,q2,_⟩:=hb
         rw [hρ] at q1;cases q1
         have:=own2 b q2;omega
       | live ow sy cs=>cases ow with
         | false=>rw [hx] at hj;exact hj
         | true =>
           rw [hx] at hb
           rcases hb with⟨q,_⟩ | ⟨b',vs,rest,ty,q1,q2,_⟩
           · rw [hρ] at q;cases q
           · rw [hρ] at q1;cases q1
             have:=own2 b q2;omega
     match k,hk with
     | 0,_=>exact own 2 (by simp [z21,LS.fs]) (by trivial) h
     | 1,_=>exact own 3 (by simp [z21,LS.fs]) (by trivial) h
   refine aHg aS3 (g:=105) (caps:=vs) hv aKf ((aAo (l:=l) hJ hX hB hY d hd) p 0 S0 W1 (eA ρ1 [2,3]) (a1.tmps.getD 7 undef::a1.tmps.getD 8 undef::vs) ?_ b2 b3 hS2 (hJ _ _ _ _ h0 hbel hrep1.kept.drawn) (fun j x hj=>by rw [Nat.zero_add];exact hj)) (fun e Wd' hR=>?_)
   · exact nJ (qK (ks:=[2,3]) (.a (cP p)) (.a (cP p)) _ rfl r2') (nJ (qK (ks:=[2,3]) (iv (d:Nat)) (iv (d:Nat)) _ rfl r3') (renL_rel (ks:=[2,3]) [.p 2 0,.p 3 0] [.p 0 0,.p 1 0] vs rfl hc))
   · have fin:∀v:Bool,e=.returned (.bool v)→(∃S',(J (aQ d p).length S' Wd'∨Jx S' Wd')∧Kept W1 S0 Wd')→∃v,e=.returned v∧wpOpsIn (Fw none) 9 Try.prog O2 (dG none 9 Try.prog (bodyPost Try.prog Try.f104 (fun e Wd'=>(∃v,e=.returned v)∧∃S',(J (aQ d p).length S' Wd'∨Jx S' Wd')∧Kept cx.w S0 Wd')) []) (List.range' ((O2.toList.take 3).length+1) 0) (a1.put o2.dst v) Wd':=fun v he ⟨S',hj',hk'⟩=>by
       refine⟨_,he,?_⟩
       simp only [List.range'_zero,wpOpsIn,dG]
       refine⟨?_,_,aD0 (by kernel_rfl),⟨_,rfl⟩,S',hj',?_⟩
       · exact hrep1.defs
       · exact(Kept.of_below S0 hbel hrep1.kept.drawn).trans hk' (fun b hb _=>hb)
     rcases hR with⟨he,S',hj',hk',_⟩ | ⟨he,S',hj',hk'⟩
     · exact fin true he ⟨S',.inl (by rwa [Nat.zero_add] at hj'),hk'⟩
     · exact fin false he ⟨S',.inr hj',hk'⟩
 have e:((Value.func (.yield l) #[] #[])::lb).toArray=#[.func (.yield l) #[] #[]]++lb.toArray:=by apply Array.ext';simp
 rw [←e];exact hcon
theorem aAp (p:Zt×Zt×Zt)(d:Int)(h:0≤d∧d≤3):aOg Try.prog 104 [.p 0 0,.p 1 0] [.live false false (cP p),.live false false [iv d]] zN (aQ (toNat d) p):=by
 have:=aKh p d.toNat (by omega)
 rwa [Int.toNat_of_nonneg h.1] at this
theorem aQ0 {p:Zt×Zt×Zt} {d:Int} (h:0≤d∧d≤3) {i:Nat} {x:Zt×Zt×Zt} (hx:(aQ (toNat d) p)[i]? = some x):i < 64:=by
 have hl:=(List.getElem?_eq_some_iff.1 hx).1
 rw [uF] at hl
 have:toNat d≤3:=by omega
 have:4 ^ toNat d≤4 ^ 3:=Nat.pow_le_pow_right (by omega) this
 omega
end Go.Proofs.Ytaeagjnpobdglaa
namespace Go.Proofs.Ytaeagjnpobdglaa
open Go.Proofs Go.Aw Go.RowKit
set_option maxRecDepth 100000
def pI (a0:Int)(a1:Int)(a2:Int):Bool :=
 (bif (decide ((a1:Int)≤a0)) then
  (decide ((a0:Int)≤a2))
 else
  false)
theorem C51 (a0:Int)(a1:Int)(a2:Int):Con Try.prog 51 [(iv a0),(iv a1),(iv a2)] [] (.v (.bool (pI a0 a1 a2))) []:=by
 refine aL Try.func51 (by kernel_rfl) fun cx hcx=>?_
 cases h0:(decide ((a1:Int)≤a0)) with
 | true =>
  have q0:=cY h0
  have e:=Eq.refl (pI a0 a1 a2);conv at e=>rhs;simp only [pI,h0,aK]
  rw [e]
  exact rt [.d h0] [] [] hcx (by kernel_rfl)
 | false =>
  have q0:=dU h0
  have e:=Eq.refl (pI a0 a1 a2);conv at e=>rhs;simp only [pI,h0,aK]
  rw [e]
  exact rt [.d h0] [] [] hcx (by kernel_rfl)
def F47 (a0:Zt)(a1:Int):Bool :=
 (bif (pI a0.1 (W (0 - a1)) a1) then
  (bif (pI a0.2.1 (W (0 - a1)) a1) then
   (pI a0.2.2 (W (0 - a1)) a1)
  else
   false)
 else
  false)
theorem C47 (a0:Zt)(a1:Int):Con Try.prog 47 [(.a (k3 a0)),(iv a1)] [] (.v (.bool (F47 a0 a1))) []:=by
 refine aL Try.func47 (by kernel_rfl) fun cx hcx=>?_
 let t0:List (St Try.prog):=[.c [] (C51 a0.1 (W (0 - a1)) a1)]
 cases h0:(pI a0.1 (W (0 - a1)) a1) with
 | true =>
  let t1:List (St Try.prog):=(t0++[.d h0,.c [] (C51 a0.2.1 (W (0 - a1)) a1)])
  cases h1:(pI a0.2.1 (W (0 - a1)) a1) with
  | true =>
   have e:=Eq.refl (F47 a0 a1);conv at e=>rhs;simp only [F47,h0,h1,aK]
   rw [e]
   exact rt (t1++[.d h1,.c [] (C51 a0.2.2 (W (0 - a1)) a1)]) [] [] hcx (by kernel_rfl)
  | false =>
   have e:=Eq.refl (F47 a0 a1);conv at e=>rhs;simp only [F47,h0,h1,aK]
   rw [e]
   exact rt (t1++[.d h1]) [] [] hcx (by kernel_rfl)
 | false =>
  have e:=Eq.refl (F47 a0 a1);conv at e=>rhs;simp only [F47,h0,aK]
  rw [e]
  exact rt (t0++[.d h0]) [] [] hcx (by kernel_rfl)
def F34 (a0:Zt)(a1:Int)(a2:Zt):Zt :=
 ((W (a0.1+(W (a1*a2.1)))),(W (a0.2.1+(W (a1*a2.2.1)))),(W (a0.2.2+(W (a1*a2.2.2)))))
theorem C34 (a0:Zt)(a1:Int)(a2:Zt):Con Try.prog 34 [(.a (k3 a0)),(iv a1),(.a (k3 a2))] [] (.a (k3 (F34 a0 a1 a2))) []:=by
 refine aL Try.func34 (by kernel_rfl) fun cx hcx=>?_
 have e:=Eq.refl (F34 a0 a1 a2);conv at e=>rhs;simp only [F34]
 rw [e]
 exact rt [] [] [] hcx (by kernel_rfl)
def aBw (a0:Zt)(a1:Zt):Zt :=
 (F34 a0 (-1) a1)
theorem aS4 (a0:Zt)(a1:Zt):Con Try.prog 112 [(.a (k3 a0)),(.a (k3 a1))] [] (.a (k3 (aBw a0 a1))) []:=by
 refine aL Try.func112 (by kernel_rfl) fun cx hcx=>?_
 have e:=Eq.refl (aBw a0 a1);conv at e=>rhs;simp only [aBw]
 rw [e]
 exact rt [.c [] (C34 a0 (-1) a1)] [] [] hcx (by kernel_rfl)
def aFi (a0:Zt)(a1:Zt):Zt :=
 ((W ((W (a0.2.1*a1.2.2)) - (W (a0.2.2*a1.2.1)))),(W ((W (a0.2.2*a1.1)) - (W (a0.1*a1.2.2)))),(W ((W (a0.1*a1.2.1)) - (W (a0.2.1*a1.1)))))
theorem aS5 (a0:Zt)(a1:Zt):Con Try.prog 111 [(.a (k3 a0)),(.a (k3 a1))] [] (.a (k3 (aFi a0 a1))) []:=by
 refine aL Try.func111 (by kernel_rfl) fun cx hcx=>?_
 have e:=Eq.refl (aFi a0 a1);conv at e=>rhs;simp only [aFi]
 rw [e]
 exact rt [] [] [] hcx (by kernel_rfl)
def F89 (a0:Zt×Zt×Zt):Zt :=
 (aFi (aBw a0.2.1 a0.1) (aBw a0.2.2 a0.1))
theorem C89 (a0:Zt×Zt×Zt):Con Try.prog 89 [(.a (k9 a0))] [] (.a (k3 (F89 a0))) []:=by
 refine aL Try.func89 (by kernel_rfl) fun cx hcx=>?_
 have e:=Eq.refl (F89 a0);conv at e=>rhs;simp only [F89]
 rw [e]
 exact rt [.c [] (aS4 a0.2.1 a0.1),.c [] (aS4 a0.2.2 a0.1),.c [] (aS5 (aBw a0.2.1 a0.1) (aBw a0.2.2 a0.1))] [] [] hcx (by kernel_rfl)
def xE (a0:Zt×Zt×Zt):Int :=
 (bif (!(F47 a0.1 64)) then
  1
 else
  (bif (!(F47 a0.2.1 64)) then
   1
  else
   (bif (!(F47 a0.2.2 64)) then
    1
   else
    (bif ((((F89 a0).1:Int) == 0)&&((((F89 a0).2.1:Int) == 0)&&((((F89 a0).2.2:Int) == 0)&&true))) then
     6
    else
     0))))
theorem C96 (a0:Zt×Zt×Zt):Con Try.prog 96 [(.a (k9 a0))] [] (iv (xE a0)) []:=by
 refine aL Try.func96 (by kernel_rfl) fun cx hcx=>?_
 let t0:List (St Try.prog):=[.c [] (C47 a0.1 64)]
 cases h0:(!(F47 a0.1 64)) with
 | true =>
  have e:=Eq.refl (xE a0);conv at e=>rhs;simp only [xE,h0,aK]
  rw [e]
  exact rt (t0++[.d h0]) [] [] hcx (by kernel_rfl)
 | false =>
  let t1:List (St Try.prog):=(t0++[.d h0,.c [] (C47 a0.2.1 64)])
  cases h1:(!(F47 a0.2.1 64)) with
  | true =>
   have e:=Eq.refl (xE a0);conv at e=>rhs;simp only [xE,h0,h1,aK]
   rw [e]
   exact rt (t1++[.d h1]) [] [] hcx (by kernel_rfl)
  | false =>
   let t2:List (St Try.prog):=(t1++[.d h1,.c [] (C47 a0.2.2 64)])
   cases h2:(!(F47 a0.2.2 64)) with
   | true =>
    have e:=Eq.refl (xE a0);conv at e=>rhs;simp only [xE,h0,h1,h2,aK]
    rw [e]
    exact rt (t2++[.d h2]) [] [] hcx (by kernel_rfl)
   | false =>
    let t3:List (St Try.prog):=(t2++[.d h2,.c [] (C89 a0)])
    cases h3:((((F89 a0).1:Int) == 0)&&((((F89 a0).2.1:Int) == 0)&&((((F89 a0).2.2:Int) == 0)&&true))) with
    | true =>
     have e:=Eq.refl (xE a0);conv at e=>rhs;simp only [xE,h0,h1,h2,h3,aK]
     rw [e]
     exact rt (t3++[.d h3]) [] [] hcx (by kernel_rfl)
    | false =>
     have e:=Eq.refl (xE a0);conv at e=>rhs;simp only [xE,h0,h1,h2,h3,aK]
     rw [e]
     exact rt (t3++[.d h3]) [] [] hcx (by kernel_rfl)
def F97 (a0:Int)(a1:Int)(a2:Int):Bool :=
 (bif (decide ((a0:Int)≥a1)) then
  (decide ((a0:Int)≤a2))
 else
  false)
theorem C97 (a0:Int)(a1:Int)(a2:Int):Con Try.prog 97 [(iv a0),(iv a1),(iv a2)] [] (.v (.bool (F97 a0 a1 a2))) []:=by
 refine aL Try.func97 (by kernel_rfl) fun cx hcx=>?_
 cases h0:(decide ((a0:Int)≥a1)) with
 | true =>
  have q0:=cY h0
  have e:=Eq.refl (F97 a0 a1 a2);conv at e=>rhs;simp only [F97,h0,aK]
  rw [e]
  exact rt [.d h0] [] [] hcx (by kernel_rfl)
 | false =>
  have q0:=dU h0
  have e:=Eq.refl (F97 a0 a1 a2);conv at e=>rhs;simp only [F97,h0,aK]
  rw [e]
  exact rt [.d h0] [] [] hcx (by kernel_rfl)
def sU (a0:Zt×Zt×Zt)(a1:Zt×Zt×Zt)(a2:Int):Int :=
 (bif (((xE a0):Int) != 0) then
  (xE a0)
 else
  (bif (((xE a1):Int) != 0) then
   (xE a1)
  else
   (bif (!(F97 a2 0 2)) then
    1
   else
    0)))
theorem C80 (a0:Zt×Zt×Zt)(a1:Zt×Zt×Zt)(a2:Int):Con Try.prog 80 [(.a (k9 a0)),(.a (k9 a1)),(iv a2)] [] (iv (sU a0 a1 a2)) []:=by
 refine aL Try.func80 (by kernel_rfl) fun cx hcx=>?_
 let t0:List (St Try.prog):=[.c [] (C96 a0)]
 cases h0:(((xE a0):Int) != 0) with
 | true =>
  have q0:=bne_iff_ne.1 h0
  have e:=Eq.refl (sU a0 a1 a2);conv at e=>rhs;simp only [sU,h0,aK]
  rw [e]
  exact rt (t0++[.d h0]) [] [] hcx (by kernel_rfl)
 | false =>
  have q0:=bne_eq_false_iff_eq.1 h0
  let t1:List (St Try.prog):=(t0++[.d h0,.c [] (C96 a1)])
  cases h1:(((xE a1):Int) != 0) with
  | true =>
   have q1:=bne_iff_ne.1 h1
   have e:=Eq.refl (sU a0 a1 a2);conv at e=>rhs;simp only [sU,h0,h1,aK]
   rw [e]
   exact rt (t1++[.d h1]) [] [] hcx (by kernel_rfl)
  | false =>
   have q1:=bne_eq_false_iff_eq.1 h1
   let t2:List (St Try.prog):=(t1++[.d h1,.c [] (C97 a2 0 2)])
   cases h2:(!(F97 a2 0 2)) with
   | true =>
    have e:=Eq.refl (sU a0 a1 a2);conv at e=>rhs;simp only [sU,h0,h1,h2,aK]
    rw [e]
    exact rt (t2++[.d h2]) [] [] hcx (by kernel_rfl)
   | false =>
    have e:=Eq.refl (sU a0 a1 a2);conv at e=>rhs;simp only [sU,h0,h1,h2,aK]
    rw [e]
    exact rt (t2++[.d h2]) [] [] hcx (by kernel_rfl)
noncomputable def aBx:Code:=(aF [1,1,0,1] [] (aI Try.f116) []).1
noncomputable def aBy:List K:=(aF [1,1,0,1] [] (aI Try.f116) []).2
def vI (a0:Int)(v1 v2:Int):LS:=⟨jW 22 [(0,(iv a0)),(3,(iv v1)),(4,(iv v2))],[]⟩
def jS (a0:Int):Int×Int→(Int×Int)⊕(Int)
 | (v1,v2) =>
  (bif (decide ((v2:Int) > 0)) then
   (bif (decide (((W ((W (v1+v2))*(W (v1+v2)))):Int)≤a0)) then
    (.inl ((W (v1+v2)),(v2 / 2)))
   else
    (.inl (v1,(v2 / 2))))
  else
   (.inr v1))
theorem aQ1 (a0:Int) {cx:Cx} (hcx:cx.base=0):∀(n:Nat)(v1 v2:Int),True→toNat v2 < n→Aw.Good Try.prog none 9 (bodyPost Try.prog Try.f116 (RR cx (iv (aC (jS a0) n (v1,v2))) [] [])) cx [] (.l aBx n::aBy) (vI a0 v1 v2):=by
 intro n
 induction n with
 | zero=>intro v1 v2 hi hn;exact absurd hn (jV _)
 | succ n ih =>
   intro v1 v2 hi hn
   refine aJ ?_
   cases h0:(decide ((v2:Int) > 0)) with
   | true =>
    have q0:=cY h0
    let t1:List (St Try.prog):=[.d h0]
    cases h1:(decide (((W ((W (v1+v2))*(W (v1+v2)))):Int)≤a0)) with
    | true =>
     have q1:=cY h1
     have e:=Eq.refl (jS a0 (v1,v2));conv at e=>rhs;simp only [jS,h0,h1,aK]
     rw [aA e]
     refine ba (t1++[.d h1,.p (show 0≤(1:Int) from by decide)]) [] [0,3,4] [] hcx (m:=n) aBx (aBy) (vI a0 (W (v1+v2)) (Int.fdiv v2 (2 ^ (min (toNat 1) 64)))) (by kernel_rfl) ?_
     have z0:(Int.fdiv v2 (2 ^ (min (toNat 1) 64)))=(v2 / 2):=aBu _ 1 (by decide)
     rw [z0]
     exact ih (W (v1+v2)) (v2 / 2) trivial (by(try simp only [Ls]);omega)
    | false =>
     have q1:=dU h1
     have e:=Eq.refl (jS a0 (v1,v2));conv at e=>rhs;simp only [jS,h0,h1,aK]
     rw [aA e]
     refine ba (t1++[.d h1,.p (show 0≤(1:Int) from by decide)]) [] [0,3,4] [] hcx (m:=n) aBx (aBy) (vI a0 v1 (Int.fdiv v2 (2 ^ (min (toNat 1) 64)))) (by kernel_rfl) ?_
     have z0:(Int.fdiv v2 (2 ^ (min (toNat 1) 64)))=(v2 / 2):=aBu _ 1 (by decide)
     rw [z0]
     exact ih v1 (v2 / 2) trivial (by(try simp only [Ls]);omega)
   | false =>
    have q0:=dU h0
    have e:=Eq.refl (jS a0 (v1,v2));conv at e=>rhs;simp only [jS,h0,aK]
    rw [aD,e]
    exact rt [.d h0] [] [] hcx (by kernel_rfl)
def hH (a0:Int):Int :=
 (aC (jS a0) (toNat 1073741824+1) (0,1073741824))
theorem aS6 (a0:Int):Con Try.prog 116 [(iv a0)] [] (iv (hH a0)) []:=by
 refine aL Try.func116 (by kernel_rfl) fun cx hcx=>?_
 have e:=Eq.refl (hH a0);conv at e=>rhs;simp only [hH]
 rw [e]
 refine en [] [] [0,3,4] [] hcx aBx (aBy) (vI a0 0 1073741824) (toNat 1073741824+1) (by kernel_rfl) ?_
 exact aQ1 a0 hcx (toNat 1073741824+1) 0 1073741824 trivial (by(try simp only [Ls]);omega)
def xF (a0:(Int)×(Int)×(Int)):Int :=
 (W ((W ((W (0+a0.1))+a0.2.1))+a0.2.2))
theorem aQ2 (a0:(Int)×(Int)×(Int)):Con Try.prog 122 [(.s 0 0 3 1)] [(.live false false (k3 a0))] (iv (xF a0)) []:=by
 refine aL Try.func122 (by kernel_rfl) fun cx hcx=>?_
 have e:=Eq.refl (xF a0);conv at e=>rhs;simp only [xF]
 rw [e]
 exact rt [.u 200,.T,.i 0 3 (by decide),.u 0,.T,.i 1 3 (by decide),.u 0,.T,.i 2 3 (by decide),.u 0,.F] [] [] hcx (by kernel_rfl)
def fZ (a0:Zt)(a1:Zt):Int :=
 (xF ((W (a0.1*a1.1)),(W (a0.2.1*a1.2.1)),(W (a0.2.2*a1.2.2))))
theorem aQ3 (a0:Zt)(a1:Zt):Con Try.prog 117 [(.a (k3 a0)),(.a (k3 a1))] [] (iv (fZ a0 a1)) []:=by
 refine aL Try.func117 (by kernel_rfl) fun cx hcx=>?_
 have e:=Eq.refl (fZ a0 a1);conv at e=>rhs;simp only [fZ]
 rw [e]
 exact rt [.c [2] (aQ2 ((W (a0.1*a1.1)),(W (a0.2.1*a1.2.1)),(W (a0.2.2*a1.2.2))))] [] [] hcx (by kernel_rfl)
def aZ (a0:Zt)(a1:Zt):Zt :=
 ((W (a0.1 - a1.1)),(W (a0.2.1 - a1.2.1)),(W (a0.2.2 - a1.2.2)))
theorem aQ4 (a0:Zt)(a1:Zt):Con Try.prog 115 [(.a (k3 a0)),(.a (k3 a1))] [] (.a (k3 (aZ a0 a1))) []:=by
 refine aL Try.func115 (by kernel_rfl) fun cx hcx=>?_
 have e:=Eq.refl (aZ a0 a1);conv at e=>rhs;simp only [aZ]
 rw [e]
 exact rt [] [] [] hcx (by kernel_rfl)
def eR (a0:Zt)(a1:Zt):Zt :=
 ((W ((W (a0.2.1*a1.2.2)) - (W (a0.2.2*a1.2.1)))),(W ((W (a0.2.2*a1.1)) - (W (a0.1*a1.2.2)))),(W ((W (a0.1*a1.2.1)) - (W (a0.2.1*a1.1)))))
theorem aV2 (a0:Zt)(a1:Zt):Con Try.prog 114 [(.a (k3 a0)),(.a (k3 a1))] [] (.a (k3 (eR a0 a1))) []:=by
 refine aL Try.func114 (by kernel_rfl) fun cx hcx=>?_
 have e:=Eq.refl (eR a0 a1);conv at e=>rhs;simp only [eR]
 rw [e]
 exact rt [] [] [] hcx (by kernel_rfl)
def aN (a0:Zt×Zt×Zt):Zt×Zt :=
 (((if(a0.2.2.1:Int) < (if(a0.2.1.1:Int) < (if(a0.1.1:Int) < a0.1.1 then a0.1.1 else a0.1.1) then a0.2.1.1 else(if(a0.1.1:Int) < a0.1.1 then a0.1.1 else a0.1.1)) then a0.2.2.1 else(if(a0.2.1.1:Int) < (if(a0.1.1:Int) < a0.1.1 then a0.1.1 else a0.1.1) then a0.2.1.1 else(if(a0.1.1:Int) < a0.1.1 then a0.1.1 else a0.1.1))),(if(a0.2.2.2.1:Int) < (if(a0.2.1.2.1:Int) < (if(a0.1.2.1:Int) < a0.1.2.1 then a0.1.2.1 else a0.1.2.1) then a0.2.1.2.1 else(if(a0.1.2.1:Int) < a0.1.2.1 then a0.1.2.1 else a0.1.2.1)) then a0.2.2.2.1 else(if(a0.2.1.2.1:Int) < (if(a0.1.2.1:Int) < a0.1.2.1 then a0.1.2.1 else a0.1.2.1) then a0.2.1.2.1 else(if(a0.1.2.1:Int) < a0.1.2.1 then a0.1.2.1 else a0.1.2.1))),(if(a0.2.2.2.2:Int) < (if(a0.2.1.2.2:Int) < (if(a0.1.2.2:Int) < a0.1.2.2 then a0.1.2.2 else a0.1.2.2) then a0.2.1.2.2 else(if(a0.1.2.2:Int) < a0.1.2.2 then a0.1.2.2 else a0.1.2.2)) then a0.2.2.2.2 else(if(a0.2.1.2.2:Int) < (if(a0.1.2.2:Int) < a0.1.2.2 then a0.1.2.2 else a0.1.2.2) then a0.2.1.2.2 else(if(a0.1.2.2:Int) < a0.1.2.2 then a0.1.2.2 else a0.1.2.2)))),((if((if((if(a0.1.1:Int) < a0.1.1 then a0.1.1 else a0.1.1):Int) < a0.2.1.1 then a0.2.1.1 else(if(a0.1.1:Int) < a0.1.1 then a0.1.1 else a0.1.1)):Int) < a0.2.2.1 then a0.2.2.1 else(if((if(a0.1.1:Int) < a0.1.1 then a0.1.1 else a0.1.1):Int) < a0.2.1.1 then a0.2.1.1 else(if(a0.1.1:Int) < a0.1.1 then a0.1.1 else a0.1.1))),(if((if((if(a0.1.2.1:Int) < a0.1.2.1 then a0.1.2.1 else a0.1.2.1):Int) < a0.2.1.2.1 then a0.2.1.2.1 else(if(a0.1.2.1:Int) < a0.1.2.1 then a0.1.2.1 else a0.1.2.1)):Int) < a0.2.2.2.1 then a0.2.2.2.1 else(if((if(a0.1.2.1:Int) < a0.1.2.1 then a0.1.2.1 else a0.1.2.1):Int) < a0.2.1.2.1 then a0.2.1.2.1 else(if(a0.1.2.1:Int) < a0.1.2.1 then a0.1.2.1 else a0.1.2.1))),(if((if((if(a0.1.2.2:Int) < a0.1.2.2 then a0.1.2.2 else a0.1.2.2):Int) < a0.2.1.2.2 then a0.2.1.2.2 else(if(a0.1.2.2:Int) < a0.1.2.2 then a0.1.2.2 else a0.1.2.2)):Int) < a0.2.2.2.2 then a0.2.2.2.2 else(if((if(a0.1.2.2:Int) < a0.1.2.2 then a0.1.2.2 else a0.1.2.2):Int) < a0.2.1.2.2 then a0.2.1.2.2 else(if(a0.1.2.2:Int) < a0.1.2.2 then a0.1.2.2 else a0.1.2.2)))))
theorem aKi (a0:Zt×Zt×Zt):Con Try.prog 119 [(.s 0 0 3 3)] [(.live false false (k9 a0))] (.t [(.a (k3 (aN a0).1)),(.a (k3 (aN a0).2))]) []:=by
 refine aL Try.func119 (by kernel_rfl) fun cx hcx=>?_
 have e:=Eq.refl (aN a0);conv at e=>rhs;simp only [aN]
 rw [e]
 exact rt [.i 0 3 (by decide),.i 0 3 (by decide),.u 200,.T,.i 0 3 (by decide),.u 0,.T,.i 1 3 (by decide),.u 0,.T,.i 2 3 (by decide),.u 0,.F] [] [] hcx (by kernel_rfl)
def iW (a0:Int)(a1:Int)(a2:Int)(a3:Int):Int :=
 (if((if(0:Int) < (W (a2 - a1)) then(W (a2 - a1)) else 0):Int) < (W (a0 - a3)) then(W (a0 - a3)) else(if(0:Int) < (W (a2 - a1)) then(W (a2 - a1)) else 0))
theorem aQ5 (a0:Int)(a1:Int)(a2:Int)(a3:Int):Con Try.prog 120 [(iv a0),(iv a1),(iv a2),(iv a3)] [] (iv (iW a0 a1 a2 a3)) []:=by
 refine aL Try.func120 (by kernel_rfl) fun cx hcx=>?_
 have e:=Eq.refl (iW a0 a1 a2 a3);conv at e=>rhs;simp only [iW]
 rw [e]
 exact rt [] [] [] hcx (by kernel_rfl)
def bA (a0:Zt×Zt×Zt)(a1:Zt×Zt×Zt):Int :=
 (fZ ((iW (aN a0).1.1 (aN a0).2.1 (aN a1).1.1 (aN a1).2.1),(iW (aN a0).1.2.1 (aN a0).2.2.1 (aN a1).1.2.1 (aN a1).2.2.1),(iW (aN a0).1.2.2 (aN a0).2.2.2 (aN a1).1.2.2 (aN a1).2.2.2)) ((iW (aN a0).1.1 (aN a0).2.1 (aN a1).1.1 (aN a1).2.1),(iW (aN a0).1.2.1 (aN a0).2.2.1 (aN a1).1.2.1 (aN a1).2.2.1),(iW (aN a0).1.2.2 (aN a0).2.2.2 (aN a1).1.2.2 (aN a1).2.2.2)))
theorem aD2 (a0:Zt×Zt×Zt)(a1:Zt×Zt×Zt):Con Try.prog 102 [(.s 0 0 3 3),(.s 1 0 3 3)] [(.live false false (k9 a0)),(.live false false (k9 a1))] (iv (bA a0 a1)) []:=by
 refine aL Try.func102 (by kernel_rfl) fun cx hcx=>?_
 have e:=Eq.refl (bA a0 a1);conv at e=>rhs;simp only [bA]
 rw [e]
 exact rt [.c [0] (aKi a0),.c [1] (aKi a1),.c [] (aQ5 (aN a0).1.1 (aN a0).2.1 (aN a1).1.1 (aN a1).2.1),.c [] (aQ5 (aN a0).1.2.1 (aN a0).2.2.1 (aN a1).1.2.1 (aN a1).2.2.1),.c [] (aQ5 (aN a0).1.2.2 (aN a0).2.2.2 (aN a1).1.2.2 (aN a1).2.2.2),.c [] (aQ3 ((iW (aN a0).1.1 (aN a0).2.1 (aN a1).1.1 (aN a1).2.1),(iW (aN a0).1.2.1 (aN a0).2.2.1 (aN a1).1.2.1 (aN a1).2.2.1),(iW (aN a0).1.2.2 (aN a0).2.2.2 (aN a1).1.2.2 (aN a1).2.2.2)) ((iW (aN a0).1.1 (aN a0).2.1 (aN a1).1.1 (aN a1).2.1),(iW (aN a0).1.2.1 (aN a0).2.2.1 (aN a1).1.2.1 (aN a1).2.2.1),(iW (aN a0).1.2.2 (aN a0).2.2.2 (aN a1).1.2.2 (aN a1).2.2.2)))] [] [] hcx (by kernel_rfl)
def dD (x:Zt):List SV:=[(iv x.1),(iv x.2.1),(iv x.2.2)]
theorem bY (x:Zt):(dD x).length=3:=rfl
noncomputable def pJ:Code:=(aF [1,1,0,1,0,1,1,0,1,1] [0] (aI Try.f101) []).1
noncomputable def pK (m0:Nat):List K:=(aF [1,1,0,1,0,1,1,0,1,1] [m0] (aI Try.f101) []).2
def mI (a0:List Zt)(a1:List Zt)(v5 v6 v7 v8 v9 v10:Int):LS:=⟨jW 34 [(1,(.s 1 0 a1.length 3)),(5,(iv v5)),(7,(.p 2 0)),(11,(.s 0 0 a0.length 3)),(12,(iv (a0.length:Int))),(13,(iv v6)),(17,(.s 1 0 a1.length 3)),(18,(iv (a1.length:Int))),(19,(iv v7))],[(.live false true (flat dD a0)),(.live false true (flat dD a1)),(.live true false [(iv v8),(iv v9),(iv v10)])]⟩
def gA (a0:List Zt)(a1:List Zt):Int×Int×Int×Zt→(Int×Int×Int×Zt)⊕((Int×Int)⊕(Int))
 | (v5,v6,v7,v8,v9,v10) =>
  (bif (decide ((v7:Int) < (a1.length:Int))) then
   (.inl ((if(v5:Int) < (fZ (aZ (v8,v9,v10) (a1.getD (toNat v7) default)) (aZ (v8,v9,v10) (a1.getD (toNat v7) default))) then(fZ (aZ (v8,v9,v10) (a1.getD (toNat v7) default)) (aZ (v8,v9,v10) (a1.getD (toNat v7) default))) else v5),v6,(v7+1),v8,v9,v10))
  else
   (.inr (.inl (v5,(v6+1)))))
noncomputable def kZ:Code:=(aF [1,1,0,1] [] (aI Try.f101) []).1
noncomputable def lA:List K:=(aF [1,1,0,1] [] (aI Try.f101) []).2
def jM (a0:List Zt)(a1:List Zt)(v3 v4:Int):LS:=⟨jW 34 [(1,(.s 1 0 a1.length 3)),(5,(iv v3)),(11,(.s 0 0 a0.length 3)),(12,(iv (a0.length:Int))),(13,(iv v4))],[(.live false true (flat dD a0)),(.live false true (flat dD a1))]⟩
def eJ (a0:List Zt)(a1:List Zt):Int×Int→(Int×Int)⊕(Int)
 | (v3,v4) =>
  (bif (decide ((v4:Int) < (a0.length:Int))) then
   (aC (gA a0 a1) (toNat ((a1.length:Int) - 0)+1) (v3,v4,0,(a0.getD (toNat v4) default).1,(a0.getD (toNat v4) default).2.1,(a0.getD (toNat v4) default).2.2))
  else
   (.inr v3))
theorem aFj (a0:List Zt)(a1:List Zt)(l0:a0.length≤9223372036854775807)(l1:a1.length≤9223372036854775807) {cx:Cx} (hcx:cx.base=2)
   (n0:Nat) (g0:∀(v3 v4:Int),0≤v4→toNat ((a0.length:Int) - v4) < n0→Aw.Good Try.prog none 9 (bodyPost Try.prog Try.f101 (RR cx (iv (aC (eJ a0 a1) n0 (v3,v4))) [] [])) cx [] (.l kZ n0::lA) (jM a0 a1 v3 v4)):∀(n:Nat) (v5 v6 v7 v8 v9 v10:Int),(0≤v7)∧((0≤v6))∧(v6 < (a0.length:Int))∧(toNat ((a0.length:Int) - v6) < n0+1)→toNat ((a1.length:Int) - v7) < n→Aw.Good Try.prog none 9 (bodyPost Try.prog Try.f101 (RR cx (iv (kF (eJ a0 a1) n0 (aC (gA a0 a1) n (v5,v6,v7,v8,v9,v10)))) [] [])) cx [] (.l pJ n::pK n0) (mI a0 a1 v5 v6 v7 v8 v9 v10):=by
 intro n
 induction n with
 | zero=>intro v5 v6 v7 v8 v9 v10 hi hn;exact absurd hn (jV _)
 | succ n ih =>
   intro v5 v6 v7 v8 v9 v10 hi hn
   refine aJ ?_
   cases h0:(decide ((v7:Int) < (a1.length:Int))) with
   | true =>
    have q0:=cY h0
    have e:=Eq.refl (gA a0 a1 (v5,v6,v7,v8,v9,v10));conv at e=>rhs;simp only [gA,h0,aK]
    rw [aA e]
    refine ba [.d h0,.i v7 (a1.length),.L bY a1 v7 0 3,.c [] (aQ4 (v8,v9,v10) (a1.getD (toNat v7) default)),.c [] (aQ3 (aZ (v8,v9,v10) (a1.getD (toNat v7) default)) (aZ (v8,v9,v10) (a1.getD (toNat v7) default)))] [] [1,5,7,11,12,13,17,18,19] [2] hcx (m:=n) pJ (pK n0) (mI a0 a1 (if(v5:Int) < (fZ (aZ (v8,v9,v10) (a1.getD (toNat v7) default)) (aZ (v8,v9,v10) (a1.getD (toNat v7) default))) then(fZ (aZ (v8,v9,v10) (a1.getD (toNat v7) default)) (aZ (v8,v9,v10) (a1.getD (toNat v7) default))) else v5) v6 (W (v7+1)) v8 v9 v10) (by kernel_rfl) ?_
    have z0:(W (v7+1))=(v7+1):=aE (by omega) (by omega)
    rw [z0]
    exact ih (if(v5:Int) < (fZ (aZ (v8,v9,v10) (a1.getD (toNat v7) default)) (aZ (v8,v9,v10) (a1.getD (toNat v7) default))) then(fZ (aZ (v8,v9,v10) (a1.getD (toNat v7) default)) (aZ (v8,v9,v10) (a1.getD (toNat v7) default))) else v5) v6 (v7+1) v8 v9 v10 (by refine⟨?_,?_,?_,?_⟩<;>(try simp only [Ls])<;>first | omega | assumption | simp) (by(try simp only [Ls]);omega)
   | false =>
    have q0:=dU h0
    have e:=Eq.refl (gA a0 a1 (v5,v6,v7,v8,v9,v10));conv at e=>rhs;simp only [gA,h0,aK]
    rw [aD,e]
    refine ba [.d h0] [] [1,5,11,12,13] [] hcx (m:=n0) kZ (lA) (jM a0 a1 v5 (W (v6+1))) (by kernel_rfl) ?_
    have z0:(W (v6+1))=(v6+1):=aE (by omega) (by omega)
    rw [z0]
    exact g0 v5 (v6+1) (by(try simp only [Ls]);omega) (by(try simp only [Ls]);omega)
theorem aFk (a0:List Zt)(a1:List Zt)(l0:a0.length≤9223372036854775807)(l1:a1.length≤9223372036854775807) {cx:Cx} (hcx:cx.base=2):∀(n:Nat)(v3 v4:Int),0≤v4→toNat ((a0.length:Int) - v4) < n→Aw.Good Try.prog none 9 (bodyPost Try.prog Try.f101 (RR cx (iv (aC (eJ a0 a1) n (v3,v4))) [] [])) cx [] (.l kZ n::lA) (jM a0 a1 v3 v4):=by
 intro n
 induction n with
 | zero=>intro v3 v4 hi hn;exact absurd hn (jV _)
 | succ n ih =>
   intro v3 v4 hi hn
   refine aJ ?_
   cases h0:(decide ((v4:Int) < (a0.length:Int))) with
   | true =>
    have q0:=cY h0
    have e:=Eq.refl (eJ a0 a1 (v3,v4));conv at e=>rhs;simp only [eJ,h0,aK]
    rw [aD,e]
    refine en [.d h0,.i v4 (a0.length),.L bY a0 v4 0 3] [] [1,5,7,11,12,13,17,18,19] [2] hcx pJ (pK n) (mI a0 a1 v3 v4 0 ((a0.getD (toNat v4) default).1) ((a0.getD (toNat v4) default).2.1) ((a0.getD (toNat v4) default).2.2)) (toNat ((a1.length:Int) - 0)+1) (by kernel_rfl) ?_
    exact aFj a0 a1 l0 l1 hcx n ih (toNat ((a1.length:Int) - 0)+1) v3 v4 0 ((a0.getD (toNat v4) default).1) ((a0.getD (toNat v4) default).2.1) ((a0.getD (toNat v4) default).2.2) (by refine⟨?_,?_,?_,?_⟩<;>(try simp only [Ls])<;>first | omega | assumption | simp) (by(try simp only [Ls]);omega)
   | false =>
    have q0:=dU h0
    have e:=Eq.refl (eJ a0 a1 (v3,v4));conv at e=>rhs;simp only [eJ,h0,aK]
    rw [aD,e]
    exact rt [.d h0] [] [] hcx (by kernel_rfl)
def aY (a0:List Zt)(a1:List Zt):Int :=
 (aC (eJ a0 a1) (toNat ((a0.length:Int) - 0)+1) (0,0))
theorem aD3 (a0:List Zt)(a1:List Zt)(l0:a0.length≤9223372036854775807)(l1:a1.length≤9223372036854775807):Con Try.prog 101 [(.s 0 0 a0.length 3),(.s 1 0 a1.length 3)] [(.live false true (flat dD a0)),(.live false true (flat dD a1))] (iv (aY a0 a1)) []:=by
 refine aL Try.func101 (by kernel_rfl) fun cx hcx=>?_
 have e:=Eq.refl (aY a0 a1);conv at e=>rhs;simp only [aY]
 rw [e]
 refine en [] [] [1,5,11,12,13] [] hcx kZ (lA) (jM a0 a1 0 0) (toNat ((a0.length:Int) - 0)+1) (by kernel_rfl) ?_
 exact aFk a0 a1 l0 l1 hcx (toNat ((a0.length:Int) - 0)+1) 0 0 (by(try simp only [Ls]);omega) (by(try simp only [Ls]);omega)
noncomputable def aAq:Code:=match (dC [1] [] (aI Try.f69)).1 with
 | .scope c=>c
 | _=>.skip
noncomputable def aD4:List K:=(dC [1] [] (aI Try.f69)).2
noncomputable def aS7:Code:=(findLabel aAq 0).getD .skip
def xG (a0:Int)(v1 v2:Int):LS:=⟨jW 22 [(0,(iv a0)),(3,(iv v1)),(4,(iv v2))],[]⟩
def mJ (a0:Int):Int×Int→(Int×Int)⊕(Int)
 | (v1,v2) =>
  (bif ((v2:Int) == 0) then
   (.inr v1)
  else
   (bif (decide (((W ((W (v1+v2))*(W (v1+v2)))):Int)≤a0)) then
    (.inl ((W (v1+v2)),(v2 / 2)))
   else
    (.inl (v1,(v2 / 2)))))
theorem aP3 (a0:Int) {cx:Cx} (hcx:cx.base=0):∀(n:Nat)(v1 v2:Int),0≤v2→toNat v2 < n→Aw.Good Try.prog none 9 (bodyPost Try.prog Try.f69 (RR cx (iv (aC (mJ a0) n (v1,v2))) [] [])) cx [] (.c (.goto 0)::.s aAq n::aD4) (xG a0 v1 v2):=by
 intro n
 induction n with
 | zero=>intro v1 v2 hi hn;exact absurd hn (jV _)
 | succ n ih =>
   intro v1 v2 hi hn
   refine aIx (rest:=aS7) (by kernel_rfl) ?_
   cases h0:((v2:Int) == 0) with
   | true =>
    have q0:=eq_of_beq h0
    have e:=Eq.refl (mJ a0 (v1,v2));conv at e=>rhs;simp only [mJ,h0,aK]
    rw [aD,e]
    exact rt [.d h0] [] [] hcx (by kernel_rfl)
   | false =>
    have q0:=ne_of_beq_false h0
    let t1:List (St Try.prog):=[.d h0]
    cases h1:(decide (((W ((W (v1+v2))*(W (v1+v2)))):Int)≤a0)) with
    | true =>
     have q1:=cY h1
     have e:=Eq.refl (mJ a0 (v1,v2));conv at e=>rhs;simp only [mJ,h0,h1,aK]
     rw [aA e]
     refine ga (t1++[.d h1,.p (show 0≤(1:Int) from by decide)]) [] [0,3,4] [] hcx (.goto 0) (.s aAq n::aD4) (xG a0 (W (v1+v2)) (Int.fdiv v2 (2 ^ (min (toNat 1) 64)))) (by kernel_rfl) ?_
     have z0:(Int.fdiv v2 (2 ^ (min (toNat 1) 64)))=(v2 / 2):=aBu _ 1 (by decide)
     rw [z0]
     exact ih (W (v1+v2)) (v2 / 2) (by(try simp only [Ls]);omega) (by omega)
    | false =>
     have q1:=dU h1
     have e:=Eq.refl (mJ a0 (v1,v2));conv at e=>rhs;simp only [mJ,h0,h1,aK]
     rw [aA e]
     refine ga (t1++[.d h1,.p (show 0≤(1:Int) from by decide)]) [] [0,3,4] [] hcx (.goto 0) (.s aAq n::aD4) (xG a0 v1 (Int.fdiv v2 (2 ^ (min (toNat 1) 64)))) (by kernel_rfl) ?_
     have z0:(Int.fdiv v2 (2 ^ (min (toNat 1) 64)))=(v2 / 2):=aBu _ 1 (by decide)
     rw [z0]
     exact ih v1 (v2 / 2) (by(try simp only [Ls]);omega) (by omega)
def fG (a0:Int):Int :=
 (bif (decide ((4611686018427387904:Int)≤a0)) then
  (aC (mJ a0) (toNat 1073741824+1) (2147483648,1073741824))
 else
  (aC (mJ a0) (toNat 1073741824+1) (0,1073741824)))
theorem C69 (a0:Int):Con Try.prog 69 [(iv a0)] [] (iv (fG a0)) []:=by
 refine aL Try.func69 (by kernel_rfl) fun cx hcx=>?_
 cases h0:(decide ((4611686018427387904:Int)≤a0)) with
 | true =>
  have q0:=cY h0
  have e:=Eq.refl (fG a0);conv at e=>rhs;simp only [fG,h0,aK]
  rw [e]
  refine ga [.u (toNat 1073741824+1),.F,.d h0,.p (show 0≤(1:Int) from by decide)] [] [0,3,4] [] hcx (.goto 0) (.s aAq (toNat 1073741824+1)::aD4) (xG a0 2147483648 1073741824) (by kernel_rfl) ?_
  exact aP3 a0 hcx (toNat 1073741824+1) 2147483648 1073741824 (by(try simp only [Ls]);omega) (by omega)
 | false =>
  have q0:=dU h0
  have e:=Eq.refl (fG a0);conv at e=>rhs;simp only [fG,h0,aK]
  rw [e]
  refine ga [.u (toNat 1073741824+1),.F,.d h0,.p (show 0≤(1:Int) from by decide)] [] [0,3,4] [] hcx (.goto 0) (.s aAq (toNat 1073741824+1)::aD4) (xG a0 0 1073741824) (by kernel_rfl) ?_
  exact aP3 a0 hcx (toNat 1073741824+1) 0 1073741824 (by(try simp only [Ls]);omega) (by omega)
def sD (a0:Int×Int):Bool :=
 (bif (decide ((a0.1:Int)≥(-1099511627776))) then
  (bif (decide ((a0.1:Int)≤a0.2)) then
   (decide ((a0.2:Int)≤1099511627776))
  else
   false)
 else
  false)
theorem C70 (a0:Int×Int):Con Try.prog 70 [(.a [(iv a0.1),(iv a0.2)])] [] (.v (.bool (sD a0))) []:=by
 refine aL Try.func70 (by kernel_rfl) fun cx hcx=>?_
 cases h0:(decide ((a0.1:Int)≥(-1099511627776))) with
 | true =>
  have q0:=cY h0
  let t1:List (St Try.prog):=[.d h0]
  cases h1:(decide ((a0.1:Int)≤a0.2)) with
  | true =>
   have q1:=cY h1
   have e:=Eq.refl (sD a0);conv at e=>rhs;simp only [sD,h0,h1,aK]
   rw [e]
   exact rt (t1++[.d h1]) [] [] hcx (by kernel_rfl)
  | false =>
   have q1:=dU h1
   have e:=Eq.refl (sD a0);conv at e=>rhs;simp only [sD,h0,h1,aK]
   rw [e]
   exact rt (t1++[.d h1]) [] [] hcx (by kernel_rfl)
 | false =>
  have q0:=dU h0
  have e:=Eq.refl (sD a0);conv at e=>rhs;simp only [sD,h0,aK]
  rw [e]
  exact rt [.d h0] [] [] hcx (by kernel_rfl)
def oA (a0:Int)(a1:Int):(Int×Int)×Int :=
 (bif (!(sD (a0,a1))) then
  ((0,0),4)
 else
  ((a0,a1),0))
theorem C43 (a0:Int)(a1:Int):Con Try.prog 43 [(iv a0),(iv a1)] [] (.t [(.a (k2 (oA a0 a1).1)),(iv (oA a0 a1).2)]) []:=by
 refine aL Try.func43 (by kernel_rfl) fun cx hcx=>?_
 let t0:List (St Try.prog):=[.c [] (C70 (a0,a1))]
 cases h0:(!(sD (a0,a1))) with
 | true =>
  have e:=Eq.refl (oA a0 a1);conv at e=>rhs;simp only [oA,h0,aK]
  rw [e]
  exact rt (t0++[.d h0]) [] [] hcx (by kernel_rfl)
 | false =>
  have e:=Eq.refl (oA a0 a1);conv at e=>rhs;simp only [oA,h0,aK]
  rw [e]
  exact rt (t0++[.d h0]) [] [] hcx (by kernel_rfl)
def zO (a0:Int)(a1:Int):(Int×Int)×Int :=
 (bif (((W ((W ((fG (W (Int.tdiv a0 a1)))*(fG (W (Int.tdiv a0 a1)))))*a1)):Int) == a0) then
  ((oA (fG (W (Int.tdiv a0 a1))) (fG (W (Int.tdiv a0 a1)))).1,(oA (fG (W (Int.tdiv a0 a1))) (fG (W (Int.tdiv a0 a1)))).2)
 else
  ((oA (fG (W (Int.tdiv a0 a1))) (W ((fG (W (Int.tdiv a0 a1)))+1))).1,(oA (fG (W (Int.tdiv a0 a1))) (W ((fG (W (Int.tdiv a0 a1)))+1))).2))
theorem aV3 (a0:Int)(a1:Int)(ha:a1≠0):Con Try.prog 118 [(iv a0),(iv a1)] [] (.t [(.a (k2 (zO a0 a1).1)),(iv (zO a0 a1).2)]) []:=by
 refine aL Try.func118 (by kernel_rfl) fun cx hcx=>?_
 let t0:List (St Try.prog):=[.p (show(a1:Int)≠0 from by first | omega | (rw [aE]<;>omega) | exact kY _),.c [] (C69 (W (Int.tdiv a0 a1)))]
 cases h0:(((W ((W ((fG (W (Int.tdiv a0 a1)))*(fG (W (Int.tdiv a0 a1)))))*a1)):Int) == a0) with
 | true =>
  have q0:=eq_of_beq h0
  have e:=Eq.refl (zO a0 a1);conv at e=>rhs;simp only [zO,h0,aK]
  rw [e]
  exact rt (t0++[.d h0,.c [] (C43 (fG (W (Int.tdiv a0 a1))) (fG (W (Int.tdiv a0 a1))))]) [] [] hcx (by kernel_rfl)
 | false =>
  have q0:=ne_of_beq_false h0
  have e:=Eq.refl (zO a0 a1);conv at e=>rhs;simp only [zO,h0,aK]
  rw [e]
  exact rt (t0++[.d h0,.c [] (C43 (fG (W (Int.tdiv a0 a1))) (W ((fG (W (Int.tdiv a0 a1)))+1)))]) [] [] hcx (by kernel_rfl)
def dY (a0:Int)(a1:Int):(Int×Int)×Int :=
 (bif (decide ((a0:Int) < 1)) then
  ((0,0),1)
 else
  (bif (decide ((a0:Int) > 1099511627776)) then
   ((0,0),1)
  else
   (bif (decide ((a1:Int) < 1)) then
    ((0,0),1)
   else
    (bif (decide ((a1:Int) > 8)) then
     ((0,0),1)
    else
     ((zO (W ((W (a1*a1))*2 ^ (min (toNat 40) 64))) a0).1,(zO (W ((W (a1*a1))*2 ^ (min (toNat 40) 64))) a0).2)))))
theorem aQ6 (a0:Int)(a1:Int):Con Try.prog 100 [(iv a0),(iv a1)] [] (.t [(.a (k2 (dY a0 a1).1)),(iv (dY a0 a1).2)]) []:=by
 refine aL Try.func100 (by kernel_rfl) fun cx hcx=>?_
 cases h0:(decide ((a0:Int) < 1)) with
 | true =>
  have q0:=cY h0
  have e:=Eq.refl (dY a0 a1);conv at e=>rhs;simp only [dY,h0,aK]
  rw [e]
  exact rt [.d h0] [] [] hcx (by kernel_rfl)
 | false =>
  have q0:=dU h0
  let t1:List (St Try.prog):=[.d h0]
  cases h1:(decide ((a0:Int) > 1099511627776)) with
  | true =>
   have q1:=cY h1
   have e:=Eq.refl (dY a0 a1);conv at e=>rhs;simp only [dY,h0,h1,aK]
   rw [e]
   exact rt (t1++[.d h1]) [] [] hcx (by kernel_rfl)
  | false =>
   have q1:=dU h1
   let t2:List (St Try.prog):=(t1++[.d h1])
   cases h2:(decide ((a1:Int) < 1)) with
   | true =>
    have q2:=cY h2
    have e:=Eq.refl (dY a0 a1);conv at e=>rhs;simp only [dY,h0,h1,h2,aK]
    rw [e]
    exact rt (t2++[.d h2]) [] [] hcx (by kernel_rfl)
   | false =>
    have q2:=dU h2
    let t3:List (St Try.prog):=(t2++[.d h2])
    cases h3:(decide ((a1:Int) > 8)) with
    | true =>
     have q3:=cY h3
     have e:=Eq.refl (dY a0 a1);conv at e=>rhs;simp only [dY,h0,h1,h2,h3,aK]
     rw [e]
     exact rt (t3++[.d h3]) [] [] hcx (by kernel_rfl)
    | false =>
     have q3:=dU h3
     have e:=Eq.refl (dY a0 a1);conv at e=>rhs;simp only [dY,h0,h1,h2,h3,aK]
     rw [e]
     exact rt (t3++[.d h3,.p (show 0≤(40:Int) from by decide),.c [] (aV3 (W ((W (a1*a1))*2 ^ (min (toNat 40) 64))) a0  (by(try simp only [Lt]);omega))]) [] [] hcx (by kernel_rfl)
def gP (a0:Int×Int):Int :=
 (bif (!(sD a0)) then
  1
 else
  0)
theorem aP4 (a0:Int×Int):Con Try.prog 40 [(.s 0 0 1 2)] [(.live false false [(iv a0.1),(iv a0.2)])] (iv (gP a0)) []:=by
 refine aL Try.func40 (by kernel_rfl) fun cx hcx=>?_
 let t0:List (St Try.prog):=[.u 200,.T,.i 0 1 (by decide),.c [] (C70 a0)]
 cases h0:(!(sD a0)) with
 | true =>
  have e:=Eq.refl (gP a0);conv at e=>rhs;simp only [gP,h0,aK]
  rw [e]
  exact rt (t0++[.d h0]) [] [] hcx (by kernel_rfl)
 | false =>
  have e:=Eq.refl (gP a0);conv at e=>rhs;simp only [gP,h0,aK]
  rw [e]
  exact rt (t0++[.d h0,.u 0,.F]) [] [] hcx (by kernel_rfl)
def oB (a0:Int)(a1:Int):Int :=
 (bif (((Int.tmod a0 a1):Int) != 0) then
  (bif (!((decide ((a0:Int) < 0)) == (decide ((a1:Int) < 0)))) then
   (W ((W (Int.tdiv a0 a1)) - 1))
  else
   (W (Int.tdiv a0 a1)))
 else
  (W (Int.tdiv a0 a1)))
theorem aQ7 (a0:Int)(a1:Int)(ha:a1≠0):Con Try.prog 108 [(iv a0),(iv a1)] [] (iv (oB a0 a1)) []:=by
 refine aL Try.func108 (by kernel_rfl) fun cx hcx=>?_
 let t0:List (St Try.prog):=[.p (show(a1:Int)≠0 from by first | omega | (rw [aE]<;>omega) | exact kY _),.p (show(a1:Int)≠0 from by first | omega | (rw [aE]<;>omega) | exact kY _)]
 cases h0:(((Int.tmod a0 a1):Int) != 0) with
 | true =>
  have q0:=bne_iff_ne.1 h0
  let t1:List (St Try.prog):=(t0++[.d h0])
  cases h1:(!((decide ((a0:Int) < 0)) == (decide ((a1:Int) < 0)))) with
  | true =>
   have e:=Eq.refl (oB a0 a1);conv at e=>rhs;simp only [oB,h0,h1,aK]
   rw [e]
   exact rt (t1++[.d h1]) [] [] hcx (by kernel_rfl)
  | false =>
   have e:=Eq.refl (oB a0 a1);conv at e=>rhs;simp only [oB,h0,h1,aK]
   rw [e]
   exact rt (t1++[.d h1]) [] [] hcx (by kernel_rfl)
 | false =>
  have q0:=bne_eq_false_iff_eq.1 h0
  have e:=Eq.refl (oB a0 a1);conv at e=>rhs;simp only [oB,h0,aK]
  rw [e]
  exact rt (t0++[.d h0]) [] [] hcx (by kernel_rfl)
def xH (a0:Int)(a1:Int):Int :=
 (W (0 - (oB (W (0 - a0)) a1)))
theorem aS8 (a0:Int)(a1:Int)(ha:a1≠0):Con Try.prog 109 [(iv a0),(iv a1)] [] (iv (xH a0 a1)) []:=by
 refine aL Try.func109 (by kernel_rfl) fun cx hcx=>?_
 have e:=Eq.refl (xH a0 a1);conv at e=>rhs;simp only [xH]
 rw [e]
 exact rt [.c [] (aQ7 (W (0 - a0)) a1  (by(try simp only [Lt]);omega))] [] [] hcx (by kernel_rfl)
def uV (a0:Int×Int)(a1:Int):(Int×Int)×Int :=
 (bif (((gP a0):Int) != 0) then
  ((0,0),(gP a0))
 else
  (bif (decide ((a1:Int) < 1)) then
   ((0,0),1)
  else
   (bif (decide ((a1:Int) > 1099511627776)) then
    ((0,0),1)
   else
    ((oA (oB a0.1 a1) (xH a0.2 a1)).1,(oA (oB a0.1 a1) (xH a0.2 a1)).2))))
theorem aV4 (a0:Int×Int)(a1:Int):Con Try.prog 121 [(.a [(iv a0.1),(iv a0.2)]),(iv a1)] [] (.t [(.a (k2 (uV a0 a1).1)),(iv (uV a0 a1).2)]) []:=by
 refine aL Try.func121 (by kernel_rfl) fun cx hcx=>?_
 let t0:List (St Try.prog):=[.c [2] (aP4 a0)]
 cases h0:(((gP a0):Int) != 0) with
 | true =>
  have q0:=bne_iff_ne.1 h0
  have e:=Eq.refl (uV a0 a1);conv at e=>rhs;simp only [uV,h0,aK]
  rw [e]
  exact rt (t0++[.d h0]) [] [] hcx (by kernel_rfl)
 | false =>
  have q0:=bne_eq_false_iff_eq.1 h0
  let t1:List (St Try.prog):=(t0++[.d h0])
  cases h1:(decide ((a1:Int) < 1)) with
  | true =>
   have q1:=cY h1
   have e:=Eq.refl (uV a0 a1);conv at e=>rhs;simp only [uV,h0,h1,aK]
   rw [e]
   exact rt (t1++[.d h1]) [] [] hcx (by kernel_rfl)
  | false =>
   have q1:=dU h1
   let t2:List (St Try.prog):=(t1++[.d h1])
   cases h2:(decide ((a1:Int) > 1099511627776)) with
   | true =>
    have q2:=cY h2
    have e:=Eq.refl (uV a0 a1);conv at e=>rhs;simp only [uV,h0,h1,h2,aK]
    rw [e]
    exact rt (t2++[.d h2]) [] [] hcx (by kernel_rfl)
   | false =>
    have q2:=dU h2
    have e:=Eq.refl (uV a0 a1);conv at e=>rhs;simp only [uV,h0,h1,h2,aK]
    rw [e]
    exact rt (t2++[.d h2,.c [] (aQ7 a0.1 a1  (by(try simp only [Lt]);omega)),.c [] (aS8 a0.2 a1  (by(try simp only [Lt]);omega)),.c [] (C43 (oB a0.1 a1) (xH a0.2 a1))]) [] [] hcx (by kernel_rfl)
def eF (x:Int×Int):List SV:=[(iv x.1),(iv x.2)]
theorem dJ (x:Int×Int):(eF x).length=2:=rfl
noncomputable def aBz:Code:=(aF [1,0,1] [] (aI Try.f40) []).1
noncomputable def aB0:List K:=(aF [1,0,1] [] (aI Try.f40) []).2
def xI (a0:List (Int×Int))(v1:Int):LS:=⟨jW 15 [(5,(.s 0 0 a0.length 2)),(6,(iv (a0.length:Int))),(7,(iv v1))],[(.live false true (flat eF a0))]⟩
def dK (a0:List (Int×Int)):Int→(Int)⊕(Int)
 | v1 =>
  (bif (decide ((v1:Int) < (a0.length:Int))) then
   (bif (!(sD (a0.getD (toNat v1) default))) then
    (.inr 1)
   else
    (.inl (v1+1)))
  else
   (.inr 0))
theorem aOn (a0:List (Int×Int))(l0:a0.length≤9223372036854775807) {cx:Cx} (hcx:cx.base=1):∀(n:Nat)(v1:Int),0≤v1→toNat ((a0.length:Int) - v1) < n→Aw.Good Try.prog none 9 (bodyPost Try.prog Try.f40 (RR cx (iv (aC (dK a0) n v1)) [] [])) cx [] (.l aBz n::aB0) (xI a0 v1):=by
 intro n
 induction n with
 | zero=>intro v1 hi hn;exact absurd hn (jV _)
 | succ n ih =>
   intro v1 hi hn
   refine aJ ?_
   cases h0:(decide ((v1:Int) < (a0.length:Int))) with
   | true =>
    have q0:=cY h0
    let t1:List (St Try.prog):=[.d h0,.i v1 (a0.length),.L dJ a0 v1 0 2,.c [] (C70 (a0.getD (toNat v1) default))]
    cases h1:(!(sD (a0.getD (toNat v1) default))) with
    | true =>
     have e:=Eq.refl (dK a0 v1);conv at e=>rhs;simp only [dK,h0,h1,aK]
     rw [aD,e]
     exact rt (t1++[.d h1]) [] [] hcx (by kernel_rfl)
    | false =>
     have e:=Eq.refl (dK a0 v1);conv at e=>rhs;simp only [dK,h0,h1,aK]
     rw [aA e]
     refine ba (t1++[.d h1]) [] [5,6,7] [] hcx (m:=n) aBz (aB0) (xI a0 (W (v1+1))) (by kernel_rfl) ?_
     have z0:(W (v1+1))=(v1+1):=aE (by omega) (by omega)
     rw [z0]
     exact ih (v1+1) (by(try simp only [Ls]);omega) (by(try simp only [Ls]);omega)
   | false =>
    have q0:=dU h0
    have e:=Eq.refl (dK a0 v1);conv at e=>rhs;simp only [dK,h0,aK]
    rw [aD,e]
    exact rt [.d h0] [] [] hcx (by kernel_rfl)
def oK (a0:List (Int×Int)):Int :=
 (aC (dK a0) (toNat ((a0.length:Int) - 0)+1) 0)
theorem aS9 (a0:List (Int×Int))(l0:a0.length≤9223372036854775807):Con Try.prog 40 [(.s 0 0 a0.length 2)] [(.live false true (flat eF a0))] (iv (oK a0)) []:=by
 refine aL Try.func40 (by kernel_rfl) fun cx hcx=>?_
 have e:=Eq.refl (oK a0);conv at e=>rhs;simp only [oK]
 rw [e]
 refine en [] [] [5,6,7] [] hcx aBz (aB0) (xI a0 0) (toNat ((a0.length:Int) - 0)+1) (by kernel_rfl) ?_
 exact aOn a0 l0 hcx (toNat ((a0.length:Int) - 0)+1) 0 (by(try simp only [Ls]);omega) (by(try simp only [Ls]);omega)
noncomputable def xJ:Code:=(aF [1,1,1,0,1] [] (aI Try.f107) []).1
noncomputable def xK:List K:=(aF [1,1,1,0,1] [] (aI Try.f107) []).2
def sV (a0:List (Int×Int))(v1 v2 v3:Int):LS:=⟨jW 33 [(2,(iv v1)),(3,(iv v2)),(16,(.s 0 0 a0.length 2)),(17,(iv (a0.length:Int))),(18,(iv v3))],[(.live false true (flat eF a0))]⟩
def eV (a0:List (Int×Int)):Zt→Zt⊕Zt
 | (v1,v2,v3) =>
  (bif (decide ((v3:Int) < (a0.length:Int))) then
   (.inl ((W (v1+(a0.getD (toNat v3) default).1)),(W (v2+(a0.getD (toNat v3) default).2)),(v3+1)))
  else
   (.inr (v1,v2,0)))
theorem aKj (a0:List (Int×Int))(l0:a0.length≤9223372036854775807) {cx:Cx} (hcx:cx.base=1):∀(n:Nat)(v1 v2 v3:Int),0≤v3→toNat ((a0.length:Int) - v3) < n→Aw.Good Try.prog none 9 (bodyPost Try.prog Try.f107 (RR cx (.t (k3 (aC (eV a0) n (v1,v2,v3)))) [] [])) cx [] (.l xJ n::xK) (sV a0 v1 v2 v3):=by
 intro n
 induction n with
 | zero=>intro v1 v2 v3 hi hn;exact absurd hn (jV _)
 | succ n ih =>
   intro v1 v2 v3 hi hn
   refine aJ ?_
   cases h0:(decide ((v3:Int) < (a0.length:Int))) with
   | true =>
    have q0:=cY h0
    have e:=Eq.refl (eV a0 (v1,v2,v3));conv at e=>rhs;simp only [eV,h0,aK]
    rw [aA e]
    refine ba [.d h0,.i v3 (a0.length),.L dJ a0 v3 0 2] [] [2,3,16,17,18] [] hcx (m:=n) xJ (xK) (sV a0 (W (v1+(a0.getD (toNat v3) default).1)) (W (v2+(a0.getD (toNat v3) default).2)) (W (v3+1))) (by kernel_rfl) ?_
    have z0:(W (v3+1))=(v3+1):=aE (by omega) (by omega)
    rw [z0]
    exact ih (W (v1+(a0.getD (toNat v3) default).1)) (W (v2+(a0.getD (toNat v3) default).2)) (v3+1) (by(try simp only [Ls]);omega) (by(try simp only [Ls]);omega)
   | false =>
    have q0:=dU h0
    have e:=Eq.refl (eV a0 (v1,v2,v3));conv at e=>rhs;simp only [eV,h0,aK]
    rw [aD,e]
    exact rt [.d h0] [] [] hcx (by kernel_rfl)
def bK (a0:List (Int×Int)):Zt :=
 (bif (decide (((a0.length:Int):Int) > 10000)) then
  (0,0,4)
 else
  (bif (((oK a0):Int) != 0) then
   (0,0,(oK a0))
  else
   (aC (eV a0) (toNat ((a0.length:Int) - 0)+1) (0,0,0))))
theorem aKk (a0:List (Int×Int))(l0:a0.length≤9223372036854775807):Con Try.prog 107 [(.s 0 0 a0.length 2)] [(.live false true (flat eF a0))] (.t (k3 (bK a0))) []:=by
 refine aL Try.func107 (by kernel_rfl) fun cx hcx=>?_
 cases h0:(decide (((a0.length:Int):Int) > 10000)) with
 | true =>
  have q0:=cY h0
  have e:=Eq.refl (bK a0);conv at e=>rhs;simp only [bK,h0,aK]
  rw [e]
  exact rt [.d h0] [] [] hcx (by kernel_rfl)
 | false =>
  have q0:=dU h0
  let t1:List (St Try.prog):=[.d h0,.c [0] (aS9 a0 (by omega))]
  cases h1:(((oK a0):Int) != 0) with
  | true =>
   have q1:=bne_iff_ne.1 h1
   have e:=Eq.refl (bK a0);conv at e=>rhs;simp only [bK,h0,h1,aK]
   rw [e]
   exact rt (t1++[.d h1]) [] [] hcx (by kernel_rfl)
  | false =>
   have q1:=bne_eq_false_iff_eq.1 h1
   have e:=Eq.refl (bK a0);conv at e=>rhs;simp only [bK,h0,h1,aK]
   rw [e]
   refine en (t1++[.d h1]) [] [2,3,16,17,18] [] hcx xJ (xK) (sV a0 0 0 0) (toNat ((a0.length:Int) - 0)+1) (by kernel_rfl) ?_
   exact aKj a0 l0 hcx (toNat ((a0.length:Int) - 0)+1) 0 0 0 (by(try simp only [Ls]);omega) (by(try simp only [Ls]);omega)
def gV (a0:List (Int×Int)):(Int×Int)×Int :=
 (bif (((bK a0).2.2:Int) != 0) then
  ((0,0),(bK a0).2.2)
 else
  ((oA (bK a0).1 (bK a0).2.1).1,(oA (bK a0).1 (bK a0).2.1).2))
theorem aQ8 (a0:List (Int×Int))(l0:a0.length≤9223372036854775807):Con Try.prog 110 [(.s 0 0 a0.length 2)] [(.live false true (flat eF a0))] (.t [(.a (k2 (gV a0).1)),(iv (gV a0).2)]) []:=by
 refine aL Try.func110 (by kernel_rfl) fun cx hcx=>?_
 let t0:List (St Try.prog):=[.c [0] (aKk a0 (by omega))]
 cases h0:(((bK a0).2.2:Int) != 0) with
 | true =>
  have q0:=bne_iff_ne.1 h0
  have e:=Eq.refl (gV a0);conv at e=>rhs;simp only [gV,h0,aK]
  rw [e]
  exact rt (t0++[.d h0]) [] [] hcx (by kernel_rfl)
 | false =>
  have q0:=bne_eq_false_iff_eq.1 h0
  have e:=Eq.refl (gV a0);conv at e=>rhs;simp only [gV,h0,aK]
  rw [e]
  exact rt (t0++[.d h0,.c [] (C43 (bK a0).1 (bK a0).2.1)]) [] [] hcx (by kernel_rfl)
def fJ (a0:List (Int×Int)):(Int×Int)×Int :=
 (bif (((bK a0).2.2:Int) != 0) then
  ((0,0),(bK a0).2.2)
 else
  (bif (((a0.length:Int):Int) == 0) then
   ((0,0),1)
  else
   ((oA (oB (bK a0).1 (a0.length:Int)) (xH (bK a0).2.1 (a0.length:Int))).1,(oA (oB (bK a0).1 (a0.length:Int)) (xH (bK a0).2.1 (a0.length:Int))).2)))
theorem aTa (a0:List (Int×Int))(l0:a0.length≤9223372036854775807):Con Try.prog 84 [(.s 0 0 a0.length 2)] [(.live false true (flat eF a0))] (.t [(.a (k2 (fJ a0).1)),(iv (fJ a0).2)]) []:=by
 refine aL Try.func84 (by kernel_rfl) fun cx hcx=>?_
 let t0:List (St Try.prog):=[.c [0] (aKk a0 (by omega))]
 cases h0:(((bK a0).2.2:Int) != 0) with
 | true =>
  have q0:=bne_iff_ne.1 h0
  have e:=Eq.refl (fJ a0);conv at e=>rhs;simp only [fJ,h0,aK]
  rw [e]
  exact rt (t0++[.d h0]) [] [] hcx (by kernel_rfl)
 | false =>
  have q0:=bne_eq_false_iff_eq.1 h0
  let t1:List (St Try.prog):=(t0++[.d h0])
  cases h1:(((a0.length:Int):Int) == 0) with
  | true =>
   have q1:=eq_of_beq h1
   have e:=Eq.refl (fJ a0);conv at e=>rhs;simp only [fJ,h0,h1,aK]
   rw [e]
   exact rt (t1++[.d h1]) [] [] hcx (by kernel_rfl)
  | false =>
   have q1:=ne_of_beq_false h1
   have e:=Eq.refl (fJ a0);conv at e=>rhs;simp only [fJ,h0,h1,aK]
   rw [e]
   exact rt (t1++[.d h1,.c [] (aQ7 (bK a0).1 (a0.length:Int)  (by(try simp only [Lt]);omega)),.c [] (aS8 (bK a0).2.1 (a0.length:Int)  (by(try simp only [Lt]);omega)),.c [] (C43 (oB (bK a0).1 (a0.length:Int)) (xH (bK a0).2.1 (a0.length:Int)))]) [] [] hcx (by kernel_rfl)
def mK (a0:(Int×Int)×(Int×Int)):Int :=
 (bif (!(sD a0.1)) then
  1
 else
  (bif (!(sD a0.2)) then
   1
  else
   0))
theorem aTb (a0:(Int×Int)×(Int×Int)):Con Try.prog 40 [(.s 0 0 2 2)] [(.live false false [(iv a0.1.1),(iv a0.1.2),(iv a0.2.1),(iv a0.2.2)])] (iv (mK a0)) []:=by
 refine aL Try.func40 (by kernel_rfl) fun cx hcx=>?_
 let t0:List (St Try.prog):=[.u 200,.T,.i 0 2 (by decide),.c [] (C70 a0.1)]
 cases h0:(!(sD a0.1)) with
 | true =>
  have e:=Eq.refl (mK a0);conv at e=>rhs;simp only [mK,h0,aK]
  rw [e]
  exact rt (t0++[.d h0]) [] [] hcx (by kernel_rfl)
 | false =>
  let t1:List (St Try.prog):=(t0++[.d h0,.u 0,.T,.i 1 2 (by decide),.c [] (C70 a0.2)])
  cases h1:(!(sD a0.2)) with
  | true =>
   have e:=Eq.refl (mK a0);conv at e=>rhs;simp only [mK,h0,h1,aK]
   rw [e]
   exact rt (t1++[.d h1]) [] [] hcx (by kernel_rfl)
  | false =>
   have e:=Eq.refl (mK a0);conv at e=>rhs;simp only [mK,h0,h1,aK]
   rw [e]
   exact rt (t1++[.d h1,.u 0,.F]) [] [] hcx (by kernel_rfl)
def F21 (a0:Int×Int)(a1:Int×Int):(Int×Int)×Bool×Int :=
 (bif (((mK (a0,a1)):Int) != 0) then
  ((0,0),false,(mK (a0,a1)))
 else
  (bif (decide (((if(a0.1:Int) < a1.1 then a1.1 else a0.1):Int) > (if(a1.2:Int) < a0.2 then a1.2 else a0.2))) then
   ((0,0),false,0)
  else
   (((if(a0.1:Int) < a1.1 then a1.1 else a0.1),(if(a1.2:Int) < a0.2 then a1.2 else a0.2)),true,0)))
theorem C21 (a0:Int×Int)(a1:Int×Int):Con Try.prog 21 [(.a [(iv a0.1),(iv a0.2)]),(.a [(iv a1.1),(iv a1.2)])] [] (.t [(.a (k2 (F21 a0 a1).1)),(.v (.bool (F21 a0 a1).2.1)),(iv (F21 a0 a1).2.2)]) []:=by
 refine aL Try.func21 (by kernel_rfl) fun cx hcx=>?_
 let t0:List (St Try.prog):=[.c [3] (aTb (a0,a1))]
 cases h0:(((mK (a0,a1)):Int) != 0) with
 | true =>
  have q0:=bne_iff_ne.1 h0
  have e:=Eq.refl (F21 a0 a1);conv at e=>rhs;simp only [F21,h0,aK]
  rw [e]
  exact rt (t0++[.d h0]) [] [] hcx (by kernel_rfl)
 | false =>
  have q0:=bne_eq_false_iff_eq.1 h0
  let t1:List (St Try.prog):=(t0++[.d h0])
  cases h1:(decide (((if(a0.1:Int) < a1.1 then a1.1 else a0.1):Int) > (if(a1.2:Int) < a0.2 then a1.2 else a0.2))) with
  | true =>
   have q1:=cY h1
   have e:=Eq.refl (F21 a0 a1);conv at e=>rhs;simp only [F21,h0,h1,aK]
   rw [e]
   exact rt (t1++[.d h1]) [] [] hcx (by kernel_rfl)
  | false =>
   have q1:=dU h1
   have e:=Eq.refl (F21 a0 a1);conv at e=>rhs;simp only [F21,h0,h1,aK]
   rw [e]
   exact rt (t1++[.d h1]) [] [] hcx (by kernel_rfl)
def lT (a0:Int)(a1:Int):Int :=
 (bif ((a0:Int) != 0) then
  (bif ((a1:Int) != 0) then
   (bif (decide (((if(a1:Int) < (W (0 - a1)) then(W (0 - a1)) else a1):Int) > (W (Int.tdiv 1099511627776 (if(a0:Int) < (W (0 - a0)) then(W (0 - a0)) else a0))))) then
    (bif (!((decide ((a0:Int) < 0)) == (decide ((a1:Int) < 0)))) then
     (-1099511627777)
    else
     1099511627777)
   else
    (W (a0*a1)))
  else
   (W (a0*a1)))
 else
  (W (a0*a1)))
theorem C42 (a0:Int)(a1:Int)(ha:-1099511627776≤a0∧a0≤1099511627776):Con Try.prog 42 [(iv a0),(iv a1)] [] (iv (lT a0 a1)) []:=by
 refine aL Try.func42 (by kernel_rfl) fun cx hcx=>?_
 cases h0:((a0:Int) != 0) with
 | true =>
  have q0:=bne_iff_ne.1 h0
  let t1:List (St Try.prog):=[.d h0]
  cases h1:((a1:Int) != 0) with
  | true =>
   have q1:=bne_iff_ne.1 h1
   let t2:List (St Try.prog):=(t1++[.d h1,.p (show((if(a0:Int) < (W (0 - a0)) then(W (0 - a0)) else a0):Int)≠0 from by(have hw:=aE (n:=0 - a0) (by omega) (by omega);rw [hw];split<;>omega))])
   cases h2:(decide (((if(a1:Int) < (W (0 - a1)) then(W (0 - a1)) else a1):Int) > (W (Int.tdiv 1099511627776 (if(a0:Int) < (W (0 - a0)) then(W (0 - a0)) else a0))))) with
   | true =>
    have q2:=cY h2
    let t3:List (St Try.prog):=(t2++[.d h2])
    cases h3:(!((decide ((a0:Int) < 0)) == (decide ((a1:Int) < 0)))) with
    | true =>
     have e:=Eq.refl (lT a0 a1);conv at e=>rhs;simp only [lT,h0,h1,h2,h3,aK]
     rw [e]
     exact rt (t3++[.d h3]) [] [] hcx (by kernel_rfl)
    | false =>
     have e:=Eq.refl (lT a0 a1);conv at e=>rhs;simp only [lT,h0,h1,h2,h3,aK]
     rw [e]
     exact rt (t3++[.d h3]) [] [] hcx (by kernel_rfl)
   | false =>
    have q2:=dU h2
    have e:=Eq.refl (lT a0 a1);conv at e=>rhs;simp only [lT,h0,h1,h2,aK]
    rw [e]
    exact rt (t2++[.d h2]) [] [] hcx (by kernel_rfl)
  | false =>
   have q1:=bne_eq_false_iff_eq.1 h1
   have e:=Eq.refl (lT a0 a1);conv at e=>rhs;simp only [lT,h0,h1,aK]
   rw [e]
   exact rt (t1++[.d h1]) [] [] hcx (by kernel_rfl)
 | false =>
  have q0:=bne_eq_false_iff_eq.1 h0
  have e:=Eq.refl (lT a0 a1);conv at e=>rhs;simp only [lT,h0,aK]
  rw [e]
  exact rt [.d h0] [] [] hcx (by kernel_rfl)
def F94 (a0:Zt)(a1:Zt):Zt :=
 ((W (a0.1 - a1.1)),(W (a0.2.1 - a1.2.1)),(W (a0.2.2 - a1.2.2)))
theorem C94 (a0:Zt)(a1:Zt):Con Try.prog 94 [(.a (k3 a0)),(.a (k3 a1))] [] (.a (k3 (F94 a0 a1))) []:=by
 refine aL Try.func94 (by kernel_rfl) fun cx hcx=>?_
 have e:=Eq.refl (F94 a0 a1);conv at e=>rhs;simp only [F94]
 rw [e]
 exact rt [] [] [] hcx (by kernel_rfl)
def F93 (a0:Zt)(a1:Zt):Zt :=
 ((W ((W (a0.2.1*a1.2.2)) - (W (a0.2.2*a1.2.1)))),(W ((W (a0.2.2*a1.1)) - (W (a0.1*a1.2.2)))),(W ((W (a0.1*a1.2.1)) - (W (a0.2.1*a1.1)))))
theorem C93 (a0:Zt)(a1:Zt):Con Try.prog 93 [(.a (k3 a0)),(.a (k3 a1))] [] (.a (k3 (F93 a0 a1))) []:=by
 refine aL Try.func93 (by kernel_rfl) fun cx hcx=>?_
 have e:=Eq.refl (F93 a0 a1);conv at e=>rhs;simp only [F93]
 rw [e]
 exact rt [] [] [] hcx (by kernel_rfl)
def F75 (a0:Zt×Zt×Zt):Zt :=
 (F93 (F94 a0.2.1 a0.1) (F94 a0.2.2 a0.1))
theorem C75 (a0:Zt×Zt×Zt):Con Try.prog 75 [(.a (k9 a0))] [] (.a (k3 (F75 a0))) []:=by
 refine aL Try.func75 (by kernel_rfl) fun cx hcx=>?_
 have e:=Eq.refl (F75 a0);conv at e=>rhs;simp only [F75]
 rw [e]
 exact rt [.c [] (C94 a0.2.1 a0.1),.c [] (C94 a0.2.2 a0.1),.c [] (C93 (F94 a0.2.1 a0.1) (F94 a0.2.2 a0.1))] [] [] hcx (by kernel_rfl)
def F95 (a0:Zt)(a1:Zt):Int :=
 (W ((W ((W (a0.1*a1.1))+(W (a0.2.1*a1.2.1))))+(W (a0.2.2*a1.2.2))))
theorem C95 (a0:Zt)(a1:Zt):Con Try.prog 95 [(.a (k3 a0)),(.a (k3 a1))] [] (iv (F95 a0 a1)) []:=by
 refine aL Try.func95 (by kernel_rfl) fun cx hcx=>?_
 have e:=Eq.refl (F95 a0 a1);conv at e=>rhs;simp only [F95]
 rw [e]
 exact rt [] [] [] hcx (by kernel_rfl)
def F73 (a0:Int)(a1:Int)(a2:Int):Bool :=
 (bif (decide ((a0:Int)≥a1)) then
  (decide ((a0:Int)≤a2))
 else
  false)
theorem C73 (a0:Int)(a1:Int)(a2:Int):Con Try.prog 73 [(iv a0),(iv a1),(iv a2)] [] (.v (.bool (F73 a0 a1 a2))) []:=by
 refine aL Try.func73 (by kernel_rfl) fun cx hcx=>?_
 cases h0:(decide ((a0:Int)≥a1)) with
 | true =>
  have q0:=cY h0
  have e:=Eq.refl (F73 a0 a1 a2);conv at e=>rhs;simp only [F73,h0,aK]
  rw [e]
  exact rt [.d h0] [] [] hcx (by kernel_rfl)
 | false =>
  have q0:=dU h0
  have e:=Eq.refl (F73 a0 a1 a2);conv at e=>rhs;simp only [F73,h0,aK]
  rw [e]
  exact rt [.d h0] [] [] hcx (by kernel_rfl)
def F74 (a0:Zt)(a1:Int):Bool :=
 (bif (F73 a0.1 (W (0 - a1)) a1) then
  (bif (F73 a0.2.1 (W (0 - a1)) a1) then
   (F73 a0.2.2 (W (0 - a1)) a1)
  else
   false)
 else
  false)
theorem C74 (a0:Zt)(a1:Int):Con Try.prog 74 [(.a (k3 a0)),(iv a1)] [] (.v (.bool (F74 a0 a1))) []:=by
 refine aL Try.func74 (by kernel_rfl) fun cx hcx=>?_
 let t0:List (St Try.prog):=[.c [] (C73 a0.1 (W (0 - a1)) a1)]
 cases h0:(F73 a0.1 (W (0 - a1)) a1) with
 | true =>
  let t1:List (St Try.prog):=(t0++[.d h0,.c [] (C73 a0.2.1 (W (0 - a1)) a1)])
  cases h1:(F73 a0.2.1 (W (0 - a1)) a1) with
  | true =>
   have e:=Eq.refl (F74 a0 a1);conv at e=>rhs;simp only [F74,h0,h1,aK]
   rw [e]
   exact rt (t1++[.d h1,.c [] (C73 a0.2.2 (W (0 - a1)) a1)]) [] [] hcx (by kernel_rfl)
  | false =>
   have e:=Eq.refl (F74 a0 a1);conv at e=>rhs;simp only [F74,h0,h1,aK]
   rw [e]
   exact rt (t1++[.d h1]) [] [] hcx (by kernel_rfl)
 | false =>
  have e:=Eq.refl (F74 a0 a1);conv at e=>rhs;simp only [F74,h0,aK]
  rw [e]
  exact rt (t0++[.d h0]) [] [] hcx (by kernel_rfl)
theorem aSt {n a b:Int} (ha:0≤a)(hb:0≤b)(h1:a*a≤n)(h2:n < (a+1)*(a+1))(h3:b*b≤n)(h4:n < (b+1)*(b+1)):a=b:=by
 rcases Int.lt_trichotomy a b with h | h | h
 · have:(a+1)*(a+1)≤b*b:=Int.mul_le_mul (by omega) (by omega) (by omega) hb
   omega
 · exact h
 · have:(b+1)*(b+1)≤a*a:=Int.mul_le_mul (by omega) (by omega) (by omega) ha
   omega
def IsRt (n r:Int):Prop:=0≤r∧r*r≤n∧n < (r+1)*(r+1)
theorem IsRt.le {n r m:Int} (h:IsRt n r)(hm:0≤m)(hn:n < (m+1)*(m+1)):r≤m:=by
 rcases Int.lt_or_le m r with hlt | hle
 · have:(m+1)*(m+1)≤r*r:=Int.mul_le_mul (by omega) (by omega) (by omega) h.1
   have:=h.2.1;omega
 · exact hle
theorem IsRt.ge {n r m:Int} (h:IsRt n r)(hm:0≤m)(hn:m*m≤n):m≤r:=by
 rcases Int.lt_or_le r m with hlt | hle
 · have:(r+1)*(r+1)≤m*m:=Int.mul_le_mul (by omega) (by omega) (by have:=h.1;omega) hm
   have:=h.2.2;omega
 · exact hle
theorem IsRt.mono {n m a b:Int} (h:IsRt n a)(h':IsRt m b)(hnm:n≤m):a≤b:=h'.ge h.1 (Int.le_trans h.2.1 hnm)
theorem aAr {n:Int} {S:Int×Int→(Int×Int)⊕Int} (hS:∀k b,0≤k→0 < b→k+b≤2147483648→S (k,b)=if(k+b)*(k+b)≤n then .inl (k+b,b / 2) else .inl (k,b / 2))(h0:∀k,S (k,0)=.inr k) :
   ∀(j f:Nat) (k:Int),j+2≤f→0≤k→k+2*2 ^ j≤2147483648→k*k≤n→n < (k+2*2 ^ j)*(k+2*2 ^ j)→IsRt n (aC S f (k,2 ^ j)):=by
 intro j
 induction j with
 | zero =>
   intro f k hf hk hb h1 h2
   obtain⟨f,rfl⟩:∃g,f=g+2:=⟨f - 2,by omega⟩
   simp only [Int.pow_zero] at h2 hb ⊢
   have hs:=hS k 1 hk (by omega) (by omega)
   by_cases hc:(k+1)*(k+1)≤n
   · rw [if_pos hc] at hs
     rw [aA hs,show((1:Int) / 2)=0 by omega,bU (h0 _)]
     refine⟨by omega,hc,?_⟩
     rw [show k+1+1=k+2*1 by omega];exact h2
   · rw [if_neg hc] at hs
     rw [aA hs,show((1:Int) / 2)=0 by omega,bU (h0 _)]
     exact⟨hk,h1,by omega⟩
 | succ j ih =>
   intro f k hf hk hb h1 h2
   obtain⟨f,rfl⟩:∃g,f=g+1:=⟨f - 1,by omega⟩
   have hp:(0:Int) < 2 ^ j:=Int.pow_pos (by omega)
   rw [Int.pow_succ] at h2 hb ⊢
   have hs:=hS k (2 ^ j*2) hk (by omega) (by omega)
   have hd:(2:Int) ^ j*2 / 2=2 ^ j:=Int.mul_ediv_cancel _ (by omega)
   rw [hd] at hs
   by_cases hc:(k+2 ^ j*2)*(k+2 ^ j*2)≤n
   · rw [if_pos hc] at hs
     rw [aA hs]
     refine ih f _ (by omega) (by omega) (by omega) hc ?_
     rw [show k+2 ^ j*2+2*2 ^ j=k+2*((2:Int) ^ j*2) by omega];exact h2
   · rw [if_neg hc] at hs
     rw [aA hs]
     refine ih f _ (by omega) hk (by omega) h1 ?_
     rw [show k+2*(2:Int) ^ j=k+2 ^ j*2 by omega];omega
theorem aP5 {a:Int} (h:0≤a)(h':a≤2147483648):0≤a*a∧a*a≤4611686018427387904:=⟨Int.mul_nonneg h h,Int.le_trans (Int.mul_le_mul h' h' h (by omega)) (by omega)⟩
theorem aHi {n:Int} (h0:0≤n)(h:n < 4611686018427387904):IsRt n (hH n):=by
 unfold hH
 refine aAr (n:=n) (fun k b hk hb hkb=>?_) (fun k=>?_) 30 _ 0 (by decide) (by omega) (by decide) (by omega) (by simpa using h)
 · have h2:decide (b > 0)=true:=by simpa using hb
   have hw:W (k+b)=k+b:=aE (by omega) (by omega)
   have hq:=aP5 (a:=k+b) (by omega) hkb
   have hw2:W ((k+b)*(k+b))=(k+b)*(k+b):=aE (by omega) (by omega)
   simp only [jS,h2,cond_true,hw,hw2]
   by_cases hc:(k+b)*(k+b)≤n<;>simp [hc]
 · simp [jS]
theorem xL {n:Int} (h0:0≤n)(h:n < 4611686018427387904):IsRt n (fG n):=by
 unfold fG
 rw [show decide ((4611686018427387904:Int)≤n)=false by simpa using h]
 simp only [cond_false]
 refine aAr (n:=n) (fun k b hk hb hkb=>?_) (fun k=>?_) 30 _ 0 (by decide) (by omega) (by decide) (by omega) (by simpa using h)
 · have h2:((b:Int) == 0)=false:=by rw [beq_eq_false_iff_ne];omega
   have hw:W (k+b)=k+b:=aE (by omega) (by omega)
   have hq:=aP5 (a:=k+b) (by omega) hkb
   have hw2:W ((k+b)*(k+b))=(k+b)*(k+b):=aE (by omega) (by omega)
   simp only [mJ,h2,cond_false,hw,hw2]
   by_cases hc:(k+b)*(k+b)≤n<;>simp [hc]
 · simp [mJ]
abbrev P3:=Zt
abbrev PN:=P3×P3×P3
def bd (m:Int)(p:P3):Prop:=(-m≤p.1∧p.1≤m)∧(-m≤p.2.1∧p.2.1≤m)∧(-m≤p.2.2∧p.2.2≤m)
def bdP (m:Int)(p:PN):Prop:=bd m p.1∧bd m p.2.1∧bd m p.2.2
def sb (p q:P3):P3:=(p.1 - q.1,p.2.1 - q.2.1,p.2.2 - q.2.2)
def dt (p q:P3):Int:=p.1*q.1+p.2.1*q.2.1+p.2.2*q.2.2
def cr (p q:P3):P3:=(p.2.1*q.2.2 - p.2.2*q.2.1,p.2.2*q.1 - p.1*q.2.2,p.1*q.2.1 - p.2.1*q.1)
def jN (p:PN):P3:=cr (sb p.2.1 p.1) (sb p.2.2 p.1)
theorem bG {a b x y:Int} (hx:-a≤x∧x≤a)(hy:-b≤y∧y≤b):-(a*b)≤x*y∧x*y≤a*b:=by
 have h1:=Int.mul_nonneg (show 0≤a - x by omega) (show 0≤b - y by omega)
 have h2:=Int.mul_nonneg (show 0≤a+x by omega) (show 0≤b+y by omega)
 have h3:=Int.mul_nonneg (show 0≤a - x by omega) (show 0≤b+y by omega)
 have h4:=Int.mul_nonneg (show 0≤a+x by omega) (show 0≤b - y by omega)
 rw [Int.sub_mul,Int.mul_sub,Int.mul_sub] at h1
 rw [Int.add_mul,Int.mul_add,Int.mul_add] at h2
 rw [Int.sub_mul,Int.mul_add,Int.mul_add] at h3
 rw [Int.add_mul,Int.mul_sub,Int.mul_sub] at h4
 omega
theorem rA {a b:Int} {p q:P3} (hp:bd a p)(hq:bd b q):bd (a+b) (sb p q):=by
 unfold bd at *;simp only [sb];omega
theorem iX (x:Int):0≤x*x:=by
 rcases Int.le_total 0 x with h | h
 · exact Int.mul_nonneg h h
 · exact Int.mul_nonneg_of_nonpos_of_nonpos h h
theorem rB (p:P3):0≤dt p p:=by
 have:=iX p.1;have:=iX p.2.1;have:=iX p.2.2
 simp only [dt];omega
theorem aQ9 {p:P3} (h:¬(p.1=0∧p.2.1=0∧p.2.2=0)):1≤dt p p:=by
 have:=iX p.1;have:=iX p.2.1;have:=iX p.2.2
 have key:∀x:Int,x≠0→1≤x*x:=fun x hx=>by
   have h0:=iX x
   have:x*x≠0:=Int.mul_ne_zero hx hx
   omega
 simp only [dt]
 by_cases h1:p.1=0
 · by_cases h2:p.2.1=0
   · have:=key p.2.2 (fun h3=>h ⟨h1,h2,h3⟩);omega
   · have:=key _ h2;omega
 · have:=key _ h1;omega
theorem aP6 {a:Int} {p q:P3} (hp:bd a p)(hq:bd a q):-(3*(a*a))≤dt p q∧dt p q≤3*(a*a):=by
 have:=bG hp.1 hq.1;have:=bG hp.2.1 hq.2.1;have:=bG hp.2.2 hq.2.2
 simp only [dt];omega
theorem aTc {a:Int} {p q:P3} (hp:bd a p)(hq:bd a q):bd (2*(a*a)) (cr p q):=by
 have:=bG hp.2.1 hq.2.2;have:=bG hp.2.2 hq.2.1;have:=bG hp.2.2 hq.1;have:=bG hp.1 hq.2.2;have:=bG hp.1 hq.2.1;have:=bG hp.2.1 hq.1
 unfold bd;simp only [cr];omega
theorem fsb {p q:P3} (hp:bd 100000 p)(hq:bd 100000 q):aZ p q=sb p q:=by
 unfold bd at *;simp only [aZ,sb]
 rw [aE (by omega) (by omega),aE (by omega) (by omega),aE (by omega) (by omega)]
theorem fdt {p q:P3} (hp:bd 1000000000 p)(hq:bd 1000000000 q):fZ p q=dt p q:=by
 have h1:=bG hp.1 hq.1;have h2:=bG hp.2.1 hq.2.1;have h3:=bG hp.2.2 hq.2.2
 simp only [fZ,xF,dt]
 rw [aE (n:=p.1*q.1) (by omega) (by omega),aE (n:=p.2.1*q.2.1) (by omega) (by omega),aE (n:=p.2.2*q.2.2) (by omega) (by omega),Int.zero_add,aE (n:=p.1*q.1) (by omega) (by omega),aE (n:=p.1*q.1+p.2.1*q.2.1) (by omega) (by omega),aE (by omega) (by omega)]
theorem aTd {p q:P3} (hp:bd 1000000000 p)(hq:bd 1000000000 q) :
   ((W ((W (p.2.1*q.2.2)) - (W (p.2.2*q.2.1)))),(W ((W (p.2.2*q.1)) - (W (p.1*q.2.2)))),(W ((W (p.1*q.2.1)) - (W (p.2.1*q.1)))))=cr p q:=by
 have h1:=bG hp.2.1 hq.2.2;have h2:=bG hp.2.2 hq.2.1;have h3:=bG hp.2.2 hq.1;have h4:=bG hp.1 hq.2.2;have h5:=bG hp.1 hq.2.1;have h6:=bG hp.2.1 hq.1
 simp only [cr]
 rw [aE (n:=p.2.1*q.2.2) (by omega) (by omega),aE (n:=p.2.2*q.2.1) (by omega) (by omega),aE (n:=p.2.2*q.1) (by omega) (by omega),aE (n:=p.1*q.2.2) (by omega) (by omega),aE (n:=p.1*q.2.1) (by omega) (by omega),aE (n:=p.2.1*q.1) (by omega) (by omega),
   aE (by omega) (by omega),aE (by omega) (by omega),aE (by omega) (by omega)]
theorem fcr {p q:P3} (hp:bd 1000000000 p)(hq:bd 1000000000 q):eR p q=cr p q:=aTd hp hq
theorem scr {p q:P3} (hp:bd 1000000000 p)(hq:bd 1000000000 q):aFi p q=cr p q:=aTd hp hq
theorem ssb {p q:P3} (hp:bd 100000 p)(hq:bd 100000 q):aBw p q=sb p q:=by
 unfold bd at *;simp only [aBw,F34,sb]
 rw [aE (n:=-1*q.1) (by omega) (by omega),aE (n:=-1*q.2.1) (by omega) (by omega),aE (n:=-1*q.2.2) (by omega) (by omega),aE (by omega) (by omega),aE (by omega) (by omega),aE (by omega) (by omega)]
 refine Prod.ext (by simp only;omega) (Prod.ext (by simp only;omega) (by simp only;omega))
theorem bd.mono {a b:Int} {p:P3} (h:bd a p)(hab:a≤b):bd b p:=by unfold bd at *;omega
theorem bdP.mono {a b:Int} {p:PN} (h:bdP a p)(hab:a≤b):bdP b p:=⟨h.1.mono hab,h.2.1.mono hab,h.2.2.mono hab⟩
theorem aI2 (n a b:Int):F97 n a b=decide (a≤n∧n≤b):=by
 unfold F97
 by_cases h1:n≥a<;>by_cases h2:n≤b<;>simp [h1,h2]<;>omega
theorem aB1 (n a b:Int):pI n a b=decide (a≤n∧n≤b):=by
 unfold pI
 by_cases h1:a≤n<;>by_cases h2:n≤b<;>simp [h1,h2]
theorem aV5 {a b c d:Prop} [Decidable a] [Decidable b] [Decidable c] [Decidable d] (h:(a∧b∧c)↔d):(bif decide a then(bif decide b then decide c else false) else false)=decide d:=by
 by_cases h1:a
 · by_cases h2:b
   · rw [eK h1,eK h2,cond_true,cond_true]
     by_cases h3:c
     · rw [eK h3,eK (h.1 ⟨h1,h2,h3⟩)]
     · rw [fN h3,fN (fun hd=>h3 (h.2 hd).2.2)]
   · rw [eK h1,fN h2,cond_true,cond_false,fN (fun hd=>h2 (h.2 hd).2.1)]
 · rw [fN h1,cond_false,fN (fun hd=>h1 (h.2 hd).1)]
theorem eq3 (x y z a b:Int):(bif (((x:Int) == 0)&&(((y:Int) == 0)&&(((z:Int) == 0)&&true))) then a else b)=if x=0∧y=0∧z=0 then a else b:=by
 have key:∀t:Int,(t == 0)=decide (t=0):=fun t=>by
   by_cases h:t=0
   · rw [eK h];simpa using h
   · rw [fN h];simpa using h
 rw [key,key,key,Bool.and_true,←Bool.decide_and,←Bool.decide_and]
 by_cases h:x=0∧y=0∧z=0
 · rw [if_pos h,eK h,cond_true]
 · rw [if_neg h,fN h,cond_false]
open Classical in
theorem lB (p:P3):F47 p 64=decide (bd 64 p):=by
 unfold F47
 rw [aB1,aB1,aB1,aE (by omega) (by omega)]
 exact aV5 (by unfold bd;omega)
open Classical in
noncomputable def vp (p:PN):Int:=if bdP 64 p then(if(jN p).1=0∧(jN p).2.1=0∧(jN p).2.2=0 then 6 else 0) else 1
theorem aP7 {p:PN} (h:bdP 64 p):F89 p=jN p:=by
 have h1:=h.1.mono (show(64:Int)≤100000 by omega);have h2:=h.2.1.mono (show(64:Int)≤100000 by omega);have h3:=h.2.2.mono (show(64:Int)≤100000 by omega)
 unfold F89 jN
 rw [ssb h2 h1,ssb h3 h1]
 exact scr ((rA h.2.1 h.1).mono (by omega)) ((rA h.2.2 h.1).mono (by omega))
theorem aTe {p:PN} (h:bdP 64 p):eR (aZ p.2.1 p.1) (aZ p.2.2 p.1)=jN p:=by
 have h1:=h.1.mono (show(64:Int)≤100000 by omega);have h2:=h.2.1.mono (show(64:Int)≤100000 by omega);have h3:=h.2.2.mono (show(64:Int)≤100000 by omega)
 unfold jN
 rw [fsb h2 h1,fsb h3 h1]
 exact fcr ((rA h.2.1 h.1).mono (by omega)) ((rA h.2.2 h.1).mono (by omega))
theorem aOo (p:PN):xE p=vp p:=by
 unfold xE vp
 rw [lB,lB,lB]
 by_cases h1:bd 64 p.1
 · by_cases h2:bd 64 p.2.1
   · by_cases h3:bd 64 p.2.2
     · have hb:bdP 64 p:=⟨h1,h2,h3⟩
       rw [aP7 hb,if_pos hb]
       rw [eq3];simp [h1,h2,h3]
     · simp [h1,h2,h3,bdP]
   · simp [h1,h2,bdP]
 · simp [h1,bdP]
theorem gY {p:PN} (h:vp p=0):bdP 64 p∧1≤dt (jN p) (jN p):=by
 unfold vp at h
 split at h
 · rename_i hb
   split at h
   · cases h
   · rename_i hn;exact⟨hb,aQ9 hn⟩
 · cases h
theorem aTf {p:PN} (h:bdP 64 p):bd 32768 (jN p)∧dt (jN p) (jN p)≤3221225472:=by
 have hb:bd (2*(128*128)) (jN p):=aTc (rA h.2.1 h.1) (rA h.2.2 h.1)
 exact⟨hb.mono (by omega),by have:=(aP6 hb hb).2;omega⟩
theorem aKl {p:PN} (h:vp p=0):∃k,hH (fZ (eR (aZ p.2.1 p.1) (aZ p.2.2 p.1)) (eR (aZ p.2.1 p.1) (aZ p.2.2 p.1)))=k∧IsRt (dt (jN p) (jN p)) k∧1≤k∧k≤56755:=by
 obtain⟨hb,hd⟩:=gY h
 obtain⟨hn,hu⟩:=aTf hb
 rw [aTe hb,fdt (hn.mono (by omega)) (hn.mono (by omega))]
 have:=aHi (n:=dt (jN p) (jN p)) (by omega) (by omega)
 exact⟨_,rfl,this,this.ge (by omega) (by omega),this.le (by omega) (by omega)⟩
theorem aKm {p:PN} (h:xE p=0):W (128*hH (fZ (eR (aZ p.2.1 p.1) (aZ p.2.2 p.1)) (eR (aZ p.2.1 p.1) (aZ p.2.2 p.1))))≠0:=by
 rw [aOo] at h
 obtain⟨k,e,_,h1,h2⟩:=aKl h
 rw [e,aE (by omega) (by omega)];omega
end Go.Proofs.Ytaeagjnpobdglaa
namespace Go.Proofs.Ytaeagjnpobdglaa
open Go.Proofs Go.Aw Go.RowKit
set_option maxRecDepth 100000
def aB2 (x:PN):List PN:=[q1 x,q2 x,q3 x,q4 x]
theorem hO {p:P3} (h:bd 100000 p):nZ p 2=(2*p.1,2*p.2.1,2*p.2.2):=by
 unfold bd at h;simp only [nZ];rw [aE (by omega) (by omega),aE (by omega) (by omega),aE (by omega) (by omega)]
theorem rF {p q:P3} (hp:bd 100000 p)(hq:bd 100000 q):eU p q=(p.1+q.1,p.2.1+q.2.1,p.2.2+q.2.2):=by
 unfold bd at hp hq;simp only [eU];rw [aE (by omega) (by omega),aE (by omega) (by omega),aE (by omega) (by omega)]
theorem aOp {m:Int} {x y:PN} (h:bdP m x)(hm:m≤100000)(hy:y∈aB2 x):bdP (2*m) y:=by
 have h1:=h.1.mono hm;have h2:=h.2.1.mono hm;have h3:=h.2.2.mono hm
 unfold aB2 q1 q2 q3 q4 at hy
 rw [rF h1 h2,rF h3 h1,rF h2 h3,hO h1,hO h2,hO h3] at hy
 have ha:=h.1;have hb:=h.2.1;have hc:=h.2.2
 unfold bd at ha hb hc
 simp only [List.mem_cons,List.mem_nil_iff,or_false] at hy
 unfold bdP bd
 rcases hy with rfl | rfl | rfl | rfl<;>simp only<;>omega
theorem fD:∀(d:Nat)(p:PN),aQ (d+1) p=(aQ d p).flatMap aB2
 | 0,p=>by simp [aQ,aB2]
 | d+1,p=>by
   rw [show aQ (d+1+1) p=aQ (d+1) (q1 p)++(aQ (d+1) (q2 p)++(aQ (d+1) (q3 p)++aQ (d+1) (q4 p))) from rfl]
   rw [fD d (q1 p),fD d (q2 p),fD d (q3 p),fD d (q4 p)]
   simp only [aQ,List.flatMap_append]
theorem vJ:∀(d:Nat) {m:Int} {p x:PN},bdP m p→m*2 ^ d≤100000→0≤m→x∈aQ d p→bdP (m*2 ^ d) x
 | 0,m,p,x,h,_,_,hx=>by simp [aQ] at hx;subst hx;simpa using h
 | d+1,m,p,x,h,hm,h0,hx=>by
   rw [fD,List.mem_flatMap] at hx
   obtain⟨y,hy,hx⟩:=hx
   have hp:(0:Int) < 2 ^ d:=Int.pow_pos (by omega)
   have hle:m*2 ^ d≤m*2 ^ (d+1):=Int.mul_le_mul_of_nonneg_left (by rw [Int.pow_succ];omega) h0
   have:=aOp (vJ d h (by omega) h0 hy) (by omega) hx
   rw [Int.pow_succ,←Int.mul_assoc,Int.mul_comm];exact this
theorem C83 (a0:Zt×Zt×Zt)(a1:Int):Con Try.prog 83 [(.a (k9 a0)),(iv a1)] [] (.f 104 [(.p 0 0),(.p 1 0)]) [(.live true false (k9 a0)),(.live true false [(iv a1)])]:=by
 refine aL Try.func83 (by kernel_rfl) fun cx hcx=>?_
 exact rt [] [] [0,1] hcx (by kernel_rfl)
def eD (a0:Zt×Zt×Zt)(a1:Int):Int :=
 (bif (decide (((W ((W ((hH (W (Int.tdiv (W (3537128906555392*2 ^ (min (toNat (W (2*a1))) 64))) (W (128*(hH (fZ (eR (aZ a0.2.1 a0.1) (aZ a0.2.2 a0.1)) (eR (aZ a0.2.1 a0.1) (aZ a0.2.2 a0.1)))))))))*(hH (W (Int.tdiv (W (3537128906555392*2 ^ (min (toNat (W (2*a1))) 64))) (W (128*(hH (fZ (eR (aZ a0.2.1 a0.1) (aZ a0.2.2 a0.1)) (eR (aZ a0.2.1 a0.1) (aZ a0.2.2 a0.1)))))))))))*(W (128*(hH (fZ (eR (aZ a0.2.1 a0.1) (aZ a0.2.2 a0.1)) (eR (aZ a0.2.1 a0.1) (aZ a0.2.2 a0.1)))))))):Int) < (W (3537128906555392*2 ^ (min (toNat (W (2*a1))) 64))))) then
  (W ((hH (W (Int.tdiv (W (3537128906555392*2 ^ (min (toNat (W (2*a1))) 64))) (W (128*(hH (fZ (eR (aZ a0.2.1 a0.1) (aZ a0.2.2 a0.1)) (eR (aZ a0.2.1 a0.1) (aZ a0.2.2 a0.1)))))))))+1))
 else
  (hH (W (Int.tdiv (W (3537128906555392*2 ^ (min (toNat (W (2*a1))) 64))) (W (128*(hH (fZ (eR (aZ a0.2.1 a0.1) (aZ a0.2.2 a0.1)) (eR (aZ a0.2.1 a0.1) (aZ a0.2.2 a0.1))))))))))
theorem C98 (a0:Zt×Zt×Zt)(a1:Int)(hp:xE a0=0)(ha:0≤a1∧a1≤3):Con Try.prog 98 [(.a (k9 a0)),(iv a1)] [] (iv (eD a0 a1)) []:=by
 refine aL Try.func98 (by kernel_rfl) fun cx hcx=>?_
 let t0:List (St Try.prog):=[.c [] (aQ4 a0.2.1 a0.1),.c [] (aQ4 a0.2.2 a0.1),.c [] (aV2 (aZ a0.2.1 a0.1) (aZ a0.2.2 a0.1)),.c [] (aQ3 (eR (aZ a0.2.1 a0.1) (aZ a0.2.2 a0.1)) (eR (aZ a0.2.1 a0.1) (aZ a0.2.2 a0.1))),.c [] (aS6 (fZ (eR (aZ a0.2.1 a0.1) (aZ a0.2.2 a0.1)) (eR (aZ a0.2.1 a0.1) (aZ a0.2.2 a0.1)))),.p (show 0≤((W (2*a1)):Int) from by first | (rw [aE]<;>omega) | exact aKm hp),.p (show((W (128*(hH (fZ (eR (aZ a0.2.1 a0.1) (aZ a0.2.2 a0.1)) (eR (aZ a0.2.1 a0.1) (aZ a0.2.2 a0.1)))))):Int)≠0 from by first | (rw [aE]<;>omega) | exact aKm hp),.c [] (aS6 (W (Int.tdiv (W (3537128906555392*2 ^ (min (toNat (W (2*a1))) 64))) (W (128*(hH (fZ (eR (aZ a0.2.1 a0.1) (aZ a0.2.2 a0.1)) (eR (aZ a0.2.1 a0.1) (aZ a0.2.2 a0.1)))))))))]
 cases h0:(decide (((W ((W ((hH (W (Int.tdiv (W (3537128906555392*2 ^ (min (toNat (W (2*a1))) 64))) (W (128*(hH (fZ (eR (aZ a0.2.1 a0.1) (aZ a0.2.2 a0.1)) (eR (aZ a0.2.1 a0.1) (aZ a0.2.2 a0.1)))))))))*(hH (W (Int.tdiv (W (3537128906555392*2 ^ (min (toNat (W (2*a1))) 64))) (W (128*(hH (fZ (eR (aZ a0.2.1 a0.1) (aZ a0.2.2 a0.1)) (eR (aZ a0.2.1 a0.1) (aZ a0.2.2 a0.1)))))))))))*(W (128*(hH (fZ (eR (aZ a0.2.1 a0.1) (aZ a0.2.2 a0.1)) (eR (aZ a0.2.1 a0.1) (aZ a0.2.2 a0.1)))))))):Int) < (W (3537128906555392*2 ^ (min (toNat (W (2*a1))) 64))))) with
 | true =>
  have q0:=cY h0
  have e:=Eq.refl (eD a0 a1);conv at e=>rhs;simp only [eD,h0,aK]
  rw [e]
  exact rt (t0++[.d h0]) [] [] hcx (by kernel_rfl)
 | false =>
  have q0:=dU h0
  have e:=Eq.refl (eD a0 a1);conv at e=>rhs;simp only [eD,h0,aK]
  rw [e]
  exact rt (t0++[.d h0]) [] [] hcx (by kernel_rfl)
def aO (a0:Zt×Zt×Zt):Zt×Zt×Zt :=
 a0
theorem C99 (a0:Zt×Zt×Zt):Con Try.prog 99 [(.a (k9 a0))] [] (.a (k9 (aO a0))) []:=by
 refine aL Try.func99 (by kernel_rfl) fun cx hcx=>?_
 have e:=Eq.refl (aO a0);conv at e=>rhs;simp only [aO]
 rw [e]
 exact rt [] [] [] hcx (by kernel_rfl)
def zP (a0:Int)(a1:Int)(a2:Int):Int×Int :=
 (uV (a0,a1) a2).1
theorem aV6 (a0:Int)(a1:Int)(a2:Int):Con Try.prog 103 [(iv a0),(iv a1),(iv a2)] [] (.a (k2 (zP a0 a1 a2))) []:=by
 refine aL Try.func103 (by kernel_rfl) fun cx hcx=>?_
 have e:=Eq.refl (zP a0 a1 a2);conv at e=>rhs;simp only [zP]
 rw [e]
 exact rt [.c [] (aV4 (a0,a1) a2)] [] [] hcx (by kernel_rfl)
noncomputable def aV7:Code:=match (dC [1,1,1,1,0,1,0] [] (Try.f81.body.getD .skip)).1 with
 | .rangeFunc _ _ a b=>a
 | _=>.skip
noncomputable def aV8:Code:=match (dC [1,1,1,1,0,1,0] [] (Try.f81.body.getD .skip)).1 with
 | .rangeFunc _ _ a b=>b
 | _=>.skip
noncomputable def aV9:List K:=(dC [1,1,1,1,0,1,0] [] (Try.f81.body.getD .skip)).2
def aRa (a0:Zt×Zt×Zt)(a1:Zt×Zt×Zt)(a2:Int):Int×Int→LS
 | (v1,v2)=>⟨[.u,.u,(iv a2),.u,.u,.u,(.p 0 0),(.p 1 0),(.p 2 0),(.p 3 0),(.p 4 0),(.p 5 0),.u,.u,.u,.u,.u,.u,.u,.u,.u,.u,.u,.u,.u,.u,.u,.u,.u,(.f 104 [(.p 6 0),(.p 7 0)]),.u,.u,.u,.u,.u,.u,.u,.u,.u,.u,.u,.u,.u,.u,.u,.u,.u,.u,.u,.u,.u,.u,.u,.u,.u,.u,.u,.u,.u,.u,.u,.u,.u,.u,.u,.u,.u,.u,.u,.u],[(.live true false [(iv 0),(iv 0)]),(.live true false [(iv (W (1*2 ^ (min (toNat a2) 64))))]),(.live true false [(iv (eD a0 a2))]),(.live true false (k9 (aO a1))),(.live true false [(iv v1)]),(.live true false [(iv v2)]),(.live true false (k9 a0)),(.live true false [(iv a2)])]⟩
def aTg (a0:Zt×Zt×Zt)(a1:Zt×Zt×Zt)(a2:Int):Int×Int→Zt×Zt×Zt→LS
 | (v1,v2),x=>⟨[.u,.u,.u,.u,.u,.u,.u,(.p 1 0),(.p 2 0),(.p 3 0),(.p 4 0),(.p 5 0),(.p 8 0),.u,.u,.u,.u,.u,.u,.u,.u,.u,.u,.u,.u,.u,.u,.u,.u,.u,.u,.u,.u,.u,.u,.u,.u,.u,.u,.u,.u,.u,.u,.u,.u,.u,.u,.u,.u,.u,.u,.u,.u,.u,.u,.u,.u,.u,.u,.u,.u,.u,.u,.u,.u,.u,.u,.u,.u,.u],[(.live true false [(iv 0),(iv 0)]),(.live true false [(iv (W (1*2 ^ (min (toNat a2) 64))))]),(.live true false [(iv (eD a0 a2))]),(.live true false (k9 (aO a1))),(.live true false [(iv v1)]),(.live true false [(iv v2)]),(.live true false (k9 a0)),(.live true false [(iv a2)]),(.live true false (k9 x))]⟩
def uG (a0:Zt×Zt×Zt)(a1:Zt×Zt×Zt)(a2:Int):Int×Int→Zt×Zt×Zt→Int×Int
 | (v1,v2),x =>
  (bif (decide (((bA (aO x) (aO a1)):Int) > 0)) then
   ((W (v1+(dY (aY ([(aO x).1,(aO x).2.1,(aO x).2.2]:List Zt) ([(aO a1).1,(aO a1).2.1,(aO a1).2.2]:List Zt)) (W (1*2 ^ (min (toNat a2) 64)))).1.1)),(W (v2+(if((dY (bA (aO x) (aO a1)) (W (1*2 ^ (min (toNat a2) 64)))).1.2:Int) < (eD a0 a2) then(dY (bA (aO x) (aO a1)) (W (1*2 ^ (min (toNat a2) 64)))).1.2 else(eD a0 a2)))))
  else
   ((W (v1+(dY (aY ([(aO x).1,(aO x).2.1,(aO x).2.2]:List Zt) ([(aO a1).1,(aO a1).2.1,(aO a1).2.2]:List Zt)) (W (1*2 ^ (min (toNat a2) 64)))).1.1)),(W (v2+(eD a0 a2)))))
def G81 (a0:Zt×Zt×Zt)(a1:Zt×Zt×Zt)(a2:Int):Int×Int→Int×Int
 | (v1,v2) =>
  (zP v1 v2 (W (1*2 ^ (min (toNat (W (2*a2))) 64))))
def F81 (a0:Zt×Zt×Zt)(a1:Zt×Zt×Zt)(a2:Int):Int×Int :=
 (G81 a0 a1 a2 ((aQ (toNat a2) a0).foldl (uG a0 a1 a2) (0,0)))
theorem C81 (a0:Zt×Zt×Zt)(a1:Zt×Zt×Zt)(a2:Int)(hp:xE a0=0)(ha:0≤a2∧a2≤3):Con Try.prog 81 [(.a (k9 a0)),(.a (k9 a1)),(iv a2)] [] (.a (k2 (F81 a0 a1 a2))) []:=by
 have e:(F81 a0 a1 a2)=(G81 a0 a1 a2 ((aQ (toNat a2) a0).foldl (uG a0 a1 a2) (0,0))):=by simp only [F81]
 rw [e]
 refine mB (n:=9) Try.func81 rfl (ent Try.func81 (by kernel_rfl) rfl) (by show 3≤Try.f81.ntmps;decide) (by kernel_rfl) trivial (fun cx hcx=>?_)
 refine qS (T:=T0) hT hm (f:=5000) (orc:=[.call [] (iv (eD a0 a2)) [],.call [] (.a (k9 (aO a1))) [],.call [] (.f 104 [(.p 0 0),(.p 1 0)]) [(.live true false (k9 a0)),(.live true false [(iv a2)])]]) [] [2,6,7,8,9,10,11,29] [2,3,4,5,6,7,8,9] hcx (x:=.rangeFunc (.tmp 29) #[30] aV7 aV8) (k':=aV9) (s':=aRa a0 a1 a2 (0,0))
   (obs:=[.pr (0≤(a2:Int)),.call 98 [(.a (k9 a0)),(iv a2)] [] (iv (eD a0 a2)) [],.call 99 [(.a (k9 a1))] [] (.a (k9 (aO a1))) [],.call 83 [(.a (k9 a0)),(iv a2)] [] (.f 104 [(.p 0 0),(.p 1 0)]) [(.live true false (k9 a0)),(.live true false [(iv a2)])]]) (by kernel_rfl) ⟨(show 0≤(a2:Int) from by first | omega | (rw [aE]<;>omega) | exact kY _),(C98 a0 a2  hp ha),(C99 a1),(C83 a0 a2),trivial⟩ ?_
 refine aD1 (xs:=aQ (toNat a2) a0) (enc:=zN) (V:=Int×Int) (R':=Empty) hcx rfl (by decide) [6,7] [(.p 0 0),(.p 1 0)] [(.live false false (k9 a0)),(.live false false [(iv a2)])] rfl rfl (aAp a0 a2 (by first | omega | exact pair_le h0)) (fun x=>SV.a (cP x)) xC aKd 8 (Nb rfl) (cY (by kernel_rfl))
   (aRa a0 a1 a2) (0,0) rfl (fun⟨v1,v2⟩=>(by kernel_rfl)) (by kernel_rfl) (fun v v'=>(bV (bV (bV (bV (bV (bV (bV (bV aAk))))))))) (fun⟨v1,v2⟩=>(by kernel_rfl)) (fun⟨v1,v2⟩=>(by kernel_rfl)) (fun⟨v1,v2⟩=>(Nat.le_of_ble_eq_true (by kernel_rfl)))
   (fun v x=>.inl (uG a0 a1 a2 v x)) (fun r=>r.elim) (fun v r=>r.elim) (fun r=>r.elim)
   (fun _ _=>True) trivial (aTg a0 a1 a2) (fun⟨v1,v2⟩ x=>(by kernel_rfl)) (fun⟨v1,v2⟩ x=>(by kernel_rfl)) (fun⟨v1,v2⟩ x=>(Nat.le_of_ble_eq_true (by kernel_rfl)))
   (fun cx' l i ⟨v1,v2⟩ x QA hcx' hx hinv hg=>qT (T:=T0) hT hm (f:=5000) (orc:=[]) [] [7,8,9,10,11,12] [8] hcx' (obs:=[]) (by kernel_rfl) trivial hg)
   (fun cx' l i ⟨v1,v2⟩ x QB hcx' hx hinv hb1 hb2=>?_) (fun cx' d ⟨v1,v2⟩ hh hv hinv=>?_) (fun cx' d r hh hv=>?_)
 · show Aw.Good _ _ _ _ _ _ _ (aTg a0 a1 a2 (v1,v2) x)
   cases h0:(decide (((bA (aO x) (aO a1)):Int) > 0)) with
   | true =>
     have q0:=cY h0
     have e:(Sum.inl (uG a0 a1 a2 (v1,v2) x):(Int×Int)⊕Empty)=.inl ((W (v1+(dY (aY ([(aO x).1,(aO x).2.1,(aO x).2.2]:List Zt) ([(aO a1).1,(aO a1).2.1,(aO a1).2.2]:List Zt)) (W (1*2 ^ (min (toNat a2) 64)))).1.1)),(W (v2+(if((dY (bA (aO x) (aO a1)) (W (1*2 ^ (min (toNat a2) 64)))).1.2:Int) < (eD a0 a2) then(dY (bA (aO x) (aO a1)) (W (1*2 ^ (min (toNat a2) 64)))).1.2 else(eD a0 a2))))):=by simp only [uG,h0,aK]
     refine qT (T:=T0) hT hm (f:=5000) (orc:=[.call [] (.a (k9 (aO x))) [],.call [9,3] (iv (aY ([(aO x).1,(aO x).2.1,(aO x).2.2]:List Zt) ([(aO a1).1,(aO a1).2.1,(aO a1).2.2]:List Zt))) [],.call [] (.t [(.a (k2 (dY (aY ([(aO x).1,(aO x).2.1,(aO x).2.2]:List Zt) ([(aO a1).1,(aO a1).2.1,(aO a1).2.2]:List Zt)) (W (1*2 ^ (min (toNat a2) 64)))).1)),(iv (dY (aY ([(aO x).1,(aO x).2.1,(aO x).2.2]:List Zt) ([(aO a1).1,(aO a1).2.1,(aO a1).2.2]:List Zt)) (W (1*2 ^ (min (toNat a2) 64)))).2)]) [],.call [9,3] (iv (bA (aO x) (aO a1))) [],.d true,.call [] (.t [(.a (k2 (dY (bA (aO x) (aO a1)) (W (1*2 ^ (min (toNat a2) 64)))).1)),(iv (dY (bA (aO x) (aO a1)) (W (1*2 ^ (min (toNat a2) 64)))).2)]) []]) [] [] [] hcx' (s':=⟨List.replicate 70 .u,[(.live true false [(iv 0),(iv 0)]),(.live true false [(iv (W (1*2 ^ (min (toNat a2) 64))))]),(.live true false [(iv (eD a0 a2))]),(.live true false (k9 (aO a1))),(.live true false [(iv (W (v1+(dY (aY ([(aO x).1,(aO x).2.1,(aO x).2.2]:List Zt) ([(aO a1).1,(aO a1).2.1,(aO a1).2.2]:List Zt)) (W (1*2 ^ (min (toNat a2) 64)))).1.1)))]),(.live true false [(iv (W (v2+(if((dY (bA (aO x) (aO a1)) (W (1*2 ^ (min (toNat a2) 64)))).1.2:Int) < (eD a0 a2) then(dY (bA (aO x) (aO a1)) (W (1*2 ^ (min (toNat a2) 64)))).1.2 else(eD a0 a2)))))]),(.live true false (k9 a0)),(.live true false [(iv a2)])]⟩)
       (obs:=[.call 99 [(.a (k9 x))] [] (.a (k9 (aO x))) [],.call 101 [(.s 0 0 3 3),(.s 1 0 3 3)] [(.live false false (k9 (aO x))),(.live false false (k9 (aO a1)))] (iv (aY ([(aO x).1,(aO x).2.1,(aO x).2.2]:List Zt) ([(aO a1).1,(aO a1).2.1,(aO a1).2.2]:List Zt))) [],.call 100 [(iv (aY ([(aO x).1,(aO x).2.1,(aO x).2.2]:List Zt) ([(aO a1).1,(aO a1).2.1,(aO a1).2.2]:List Zt))),(iv (W (1*2 ^ (min (toNat a2) 64))))] [] (.t [(.a (k2 (dY (aY ([(aO x).1,(aO x).2.1,(aO x).2.2]:List Zt) ([(aO a1).1,(aO a1).2.1,(aO a1).2.2]:List Zt)) (W (1*2 ^ (min (toNat a2) 64)))).1)),(iv (dY (aY ([(aO x).1,(aO x).2.1,(aO x).2.2]:List Zt) ([(aO a1).1,(aO a1).2.1,(aO a1).2.2]:List Zt)) (W (1*2 ^ (min (toNat a2) 64)))).2)]) [],.call 102 [(.s 0 0 3 3),(.s 1 0 3 3)] [(.live false false (k9 (aO x))),(.live false false (k9 (aO a1)))] (iv (bA (aO x) (aO a1))) [],.eq (decide (((bA (aO x) (aO a1)):Int) > 0)) true,.call 100 [(iv (bA (aO x) (aO a1))),(iv (W (1*2 ^ (min (toNat a2) 64))))] [] (.t [(.a (k2 (dY (bA (aO x) (aO a1)) (W (1*2 ^ (min (toNat a2) 64)))).1)),(iv (dY (bA (aO x) (aO a1)) (W (1*2 ^ (min (toNat a2) 64)))).2)]) []]) (by kernel_rfl) ⟨(C99 x),(Con.flags (bs':=[(.live false false (k9 (aO x))),(.live false false (k9 (aO a1)))]) (aD3 ([(aO x).1,(aO x).2.1,(aO x).2.2]:List Zt) ([(aO a1).1,(aO a1).2.1,(aO a1).2.2]:List Zt) (by(try simp only [Lt]);omega) (by(try simp only [Lt]);omega)) rfl ⟨iU (fun _=>rfl),iU (fun _=>rfl),trivial⟩),(aQ6 (aY ([(aO x).1,(aO x).2.1,(aO x).2.2]:List Zt) ([(aO a1).1,(aO a1).2.1,(aO a1).2.2]:List Zt)) (W (1*2 ^ (min (toNat a2) 64)))),(aD2 (aO x) (aO a1)),h0,(aQ6 (bA (aO x) (aO a1)) (W (1*2 ^ (min (toNat a2) 64)))),trivial⟩ ?_
     exact hb1 _ e trivial
   | false =>
     have q0:=dU h0
     have e:(Sum.inl (uG a0 a1 a2 (v1,v2) x):(Int×Int)⊕Empty)=.inl ((W (v1+(dY (aY ([(aO x).1,(aO x).2.1,(aO x).2.2]:List Zt) ([(aO a1).1,(aO a1).2.1,(aO a1).2.2]:List Zt)) (W (1*2 ^ (min (toNat a2) 64)))).1.1)),(W (v2+(eD a0 a2)))):=by simp only [uG,h0,aK]
     refine qT (T:=T0) hT hm (f:=5000) (orc:=[.call [] (.a (k9 (aO x))) [],.call [9,3] (iv (aY ([(aO x).1,(aO x).2.1,(aO x).2.2]:List Zt) ([(aO a1).1,(aO a1).2.1,(aO a1).2.2]:List Zt))) [],.call [] (.t [(.a (k2 (dY (aY ([(aO x).1,(aO x).2.1,(aO x).2.2]:List Zt) ([(aO a1).1,(aO a1).2.1,(aO a1).2.2]:List Zt)) (W (1*2 ^ (min (toNat a2) 64)))).1)),(iv (dY (aY ([(aO x).1,(aO x).2.1,(aO x).2.2]:List Zt) ([(aO a1).1,(aO a1).2.1,(aO a1).2.2]:List Zt)) (W (1*2 ^ (min (toNat a2) 64)))).2)]) [],.call [9,3] (iv (bA (aO x) (aO a1))) [],.d false]) [] [] [] hcx' (s':=⟨List.replicate 70 .u,[(.live true false [(iv 0),(iv 0)]),(.live true false [(iv (W (1*2 ^ (min (toNat a2) 64))))]),(.live true false [(iv (eD a0 a2))]),(.live true false (k9 (aO a1))),(.live true false [(iv (W (v1+(dY (aY ([(aO x).1,(aO x).2.1,(aO x).2.2]:List Zt) ([(aO a1).1,(aO a1).2.1,(aO a1).2.2]:List Zt)) (W (1*2 ^ (min (toNat a2) 64)))).1.1)))]),(.live true false [(iv (W (v2+(eD a0 a2))))]),(.live true false (k9 a0)),(.live true false [(iv a2)])]⟩)
       (obs:=[.call 99 [(.a (k9 x))] [] (.a (k9 (aO x))) [],.call 101 [(.s 0 0 3 3),(.s 1 0 3 3)] [(.live false false (k9 (aO x))),(.live false false (k9 (aO a1)))] (iv (aY ([(aO x).1,(aO x).2.1,(aO x).2.2]:List Zt) ([(aO a1).1,(aO a1).2.1,(aO a1).2.2]:List Zt))) [],.call 100 [(iv (aY ([(aO x).1,(aO x).2.1,(aO x).2.2]:List Zt) ([(aO a1).1,(aO a1).2.1,(aO a1).2.2]:List Zt))),(iv (W (1*2 ^ (min (toNat a2) 64))))] [] (.t [(.a (k2 (dY (aY ([(aO x).1,(aO x).2.1,(aO x).2.2]:List Zt) ([(aO a1).1,(aO a1).2.1,(aO a1).2.2]:List Zt)) (W (1*2 ^ (min (toNat a2) 64)))).1)),(iv (dY (aY ([(aO x).1,(aO x).2.1,(aO x).2.2]:List Zt) ([(aO a1).1,(aO a1).2.1,(aO a1).2.2]:List Zt)) (W (1*2 ^ (min (toNat a2) 64)))).2)]) [],.call 102 [(.s 0 0 3 3),(.s 1 0 3 3)] [(.live false false (k9 (aO x))),(.live false false (k9 (aO a1)))] (iv (bA (aO x) (aO a1))) [],.eq (decide (((bA (aO x) (aO a1)):Int) > 0)) false]) (by kernel_rfl) ⟨(C99 x),(Con.flags (bs':=[(.live false false (k9 (aO x))),(.live false false (k9 (aO a1)))]) (aD3 ([(aO x).1,(aO x).2.1,(aO x).2.2]:List Zt) ([(aO a1).1,(aO a1).2.1,(aO a1).2.2]:List Zt) (by(try simp only [Lt]);omega) (by(try simp only [Lt]);omega)) rfl ⟨iU (fun _=>rfl),iU (fun _=>rfl),trivial⟩),(aQ6 (aY ([(aO x).1,(aO x).2.1,(aO x).2.2]:List Zt) ([(aO a1).1,(aO a1).2.1,(aO a1).2.2]:List Zt)) (W (1*2 ^ (min (toNat a2) 64)))),(aD2 (aO x) (aO a1)),h0,trivial⟩ ?_
     exact hb1 _ e trivial
 · rw [pG,Sum.inl.injEq] at hv;rw [hv]
   show Aw.Good _ _ _ _ _ _ _ (aRa a0 a1 a2 (v1,v2))
   have e:G81 a0 a1 a2 (v1,v2)=(zP v1 v2 (W (1*2 ^ (min (toNat (W (2*a2))) 64)))):=by simp only [G81]
   rw [e]
   exact aHf (T:=T0) hT hm (f:=5000) (orc:=[.call [] (.a (k2 (zP v1 v2 (W (1*2 ^ (min (toNat (W (2*a2))) 64)))))) []]) [] [] [] hh hcx
     (obs:=[.pr (0≤((W (2*a2)):Int)),.call 103 [(iv v1),(iv v2),(iv (W (1*2 ^ (min (toNat (W (2*a2))) 64))))] [] (.a (k2 (zP v1 v2 (W (1*2 ^ (min (toNat (W (2*a2))) 64)))))) []]) (by kernel_rfl) ⟨(show 0≤((W (2*a2)):Int) from by first | omega | (rw [aE]<;>omega) | exact kY _),(aV6 v1 v2 (W (1*2 ^ (min (toNat (W (2*a2))) 64)))),trivial⟩
 · exact r.elim
def mx (a b:Int):Int:=if a < b then b else a
theorem mL {a b c:Int} (h:a≤c)(h':b≤c):mx a b≤c:=by unfold mx;split<;>assumption
theorem cD (a b:Int):a≤mx a b:=by unfold mx;split<;>omega
theorem gW (a b:Int):b≤mx a b:=by unfold mx;split<;>omega
def ds (p q:P3):Int:=dt (sb p q) (sb p q)
def fF (p q:P3):Int:=fZ (aZ p q) (aZ p q)
theorem rG {p q:P3} (hp:bd 5000 p)(hq:bd 5000 q):fF p q=ds p q:=by
 unfold fF ds
 rw [fsb (hp.mono (by omega)) (hq.mono (by omega))]
 exact fdt ((rA hp hq).mono (by omega)) ((rA hp hq).mono (by omega))
theorem aTh (c:PN)(x y z:P3):aY [c.1,c.2.1,c.2.2] [x,y,z] =
   mx (mx (mx (mx (mx (mx (mx (mx (mx 0 (fF c.1 x)) (fF c.1 y)) (fF c.1 z)) (fF c.2.1 x)) (fF c.2.1 y)) (fF c.2.1 z)) (fF c.2.2 x)) (fF c.2.2 y)) (fF c.2.2 z):=by
 rfl
def vK (a b c:Int):Int:=if c < (if b < (if a < a then a else a) then b else(if a < a then a else a)) then c else(if b < (if a < a then a else a) then b else(if a < a then a else a))
def vL (a b c:Int):Int:=if(if(if a < a then a else a) < b then b else(if a < a then a else a)) < c then c else(if(if a < a then a else a) < b then b else(if a < a then a else a))
theorem iY (a b c:Int):vK a b c≤a∧vK a b c≤b∧vK a b c≤c:=by
 unfold vK;simp only [Int.lt_irrefl,if_false];split<;>split at *<;>omega
theorem iZ (a b c:Int):a≤vL a b c∧b≤vL a b c∧c≤vL a b c:=by
 unfold vL;simp only [Int.lt_irrefl,if_false];split<;>split at *<;>omega
theorem aB3 (a b c:Int):vK a b c=a∨vK a b c=b∨vK a b c=c:=by
 unfold vK;simp only [Int.lt_irrefl,if_false];split<;>split at *<;>omega
theorem aB4 (a b c:Int):vL a b c=a∨vL a b c=b∨vL a b c=c:=by
 unfold vL;simp only [Int.lt_irrefl,if_false];split<;>split at *<;>omega
def gp (a b c d:Int):Int:=mx (mx 0 (c - b)) (a - d)
theorem xM (a b c d:Int):0≤gp a b c d:=Int.le_trans (cD 0 _) (cD _ _)
def nr (a b c d:P3):Int:=gp a.1 b.1 c.1 d.1*gp a.1 b.1 c.1 d.1+gp a.2.1 b.2.1 c.2.1 d.2.1*gp a.2.1 b.2.1 c.2.1 d.2.1+gp a.2.2 b.2.2 c.2.2 d.2.2*gp a.2.2 b.2.2 c.2.2 d.2.2
def uW (c:PN):P3:=(vK c.1.1 c.2.1.1 c.2.2.1,vK c.1.2.1 c.2.1.2.1 c.2.2.2.1,vK c.1.2.2 c.2.1.2.2 c.2.2.2.2)
def uX (c:PN):P3:=(vL c.1.1 c.2.1.1 c.2.2.1,vL c.1.2.1 c.2.1.2.1 c.2.2.2.1,vL c.1.2.2 c.2.1.2.2 c.2.2.2.2)
theorem aKn {m:Int} {c:PN} (h:bdP m c):bd m (uW c):=by
 have h1:=aB3 c.1.1 c.2.1.1 c.2.2.1;have h2:=aB3 c.1.2.1 c.2.1.2.1 c.2.2.2.1;have h3:=aB3 c.1.2.2 c.2.1.2.2 c.2.2.2.2
 have ha:=h.1;have hb:=h.2.1;have hc:=h.2.2
 unfold bd at *;simp only [uW];omega
theorem aKo {m:Int} {c:PN} (h:bdP m c):bd m (uX c):=by
 have h1:=aB4 c.1.1 c.2.1.1 c.2.2.1;have h2:=aB4 c.1.2.1 c.2.1.2.1 c.2.2.2.1;have h3:=aB4 c.1.2.2 c.2.1.2.2 c.2.2.2.2
 have ha:=h.1;have hb:=h.2.1;have hc:=h.2.2
 unfold bd at *;simp only [uX];omega
theorem aTi (c:PN):aN c=(uW c,uX c):=rfl
theorem aKp {a b c d:Int} (ha:-5000≤a∧a≤5000)(hb:-5000≤b∧b≤5000)(hc:-5000≤c∧c≤5000)(hd:-5000≤d∧d≤5000):iW a b c d=gp a b c d:=by
 unfold iW
 rw [aE (n:=c - b) (by omega) (by omega),aE (n:=a - d) (by omega) (by omega)];rfl
theorem aKq {a b c d:Int} (ha:-5000≤a∧a≤5000)(hb:-5000≤b∧b≤5000)(hc:-5000≤c∧c≤5000)(hd:-5000≤d∧d≤5000):0≤gp a b c d∧gp a b c d≤10000 :=
 ⟨xM _ _ _ _,mL (mL (by omega) (by omega)) (by omega)⟩
theorem nrF {a b c d:P3} (ha:bd 5000 a)(hb:bd 5000 b)(hc:bd 5000 c)(hd:bd 5000 d) :
   fZ (iW a.1 b.1 c.1 d.1,iW a.2.1 b.2.1 c.2.1 d.2.1,iW a.2.2 b.2.2 c.2.2 d.2.2) (iW a.1 b.1 c.1 d.1,iW a.2.1 b.2.1 c.2.1 d.2.1,iW a.2.2 b.2.2 c.2.2 d.2.2)=nr a b c d:=by
 rw [aKp ha.1 hb.1 hc.1 hd.1,aKp ha.2.1 hb.2.1 hc.2.1 hd.2.1,aKp ha.2.2 hb.2.2 hc.2.2 hd.2.2]
 have h1:=aKq ha.1 hb.1 hc.1 hd.1;have h2:=aKq ha.2.1 hb.2.1 hc.2.1 hd.2.1;have h3:=aKq ha.2.2 hb.2.2 hc.2.2 hd.2.2
 have hv:bd 1000000000 (gp a.1 b.1 c.1 d.1,gp a.2.1 b.2.1 c.2.1 d.2.1,gp a.2.2 b.2.2 c.2.2 d.2.2):=by unfold bd;simp only;omega
 rw [fdt hv hv];rfl
theorem aRb {c q:PN} (hc:bdP 5000 c)(hq:bdP 5000 q):bA c q=nr (uW c) (uX c) (uW q) (uX q):=by
 unfold bA
 rw [aTi,aTi]
 exact nrF (aKn hc) (aKo hc) (aKn hq) (aKo hq)
open Classical in
noncomputable def pk (p q:PN)(d:Int):Int:=if vp p=0 then(if vp q=0 then(if 0≤d∧d≤2 then 0 else 1) else vp q) else vp p
theorem aRc (v w:Int)(b:Prop) [Decidable b]:(bif (v != 0) then v else(bif (w != 0) then w else(bif (!(decide b)) then(1:Int) else 0)))=if v=0 then(if w=0 then(if b then 0 else 1) else w) else v:=by
 by_cases hv:v=0
 · subst hv
   by_cases hw:w=0
   · subst hw;by_cases hb:b<;>simp [hb]
   · rw [bne_iff_ne.2 hw,cond_true,if_neg hw];simp
 · rw [bne_iff_ne.2 hv,cond_true,if_neg hv]
theorem aB5 (p q:PN)(d:Int):sU p q d=pk p q d:=by
 unfold sU pk
 rw [aOo,aOo,aI2,aRc]
theorem aD5 {p q:PN} {d:Int} (h:pk p q d=0):vp p=0∧vp q=0∧0≤d∧d≤2:=by
 unfold pk at h
 split at h
 · rename_i h0
   split at h
   · rename_i h1
     split at h
     · rename_i h2;exact⟨h0,h1,h2⟩
     · cases h
   · rename_i h1;exact absurd h h1
 · rename_i h0;exact absurd h h0
theorem aHj {p q:PN} {d:Int} (h:((sU p q d:Int) != 0)=false):vp p=0∧vp q=0∧0≤d∧d≤2 :=
 aD5 (by rw [←aB5];simpa using h)
theorem aHk {p q:PN} {d:Int} (h:((sU p q d:Int) != 0)=false):xE p=0:=by
 rw [aOo];exact(aHj h).1
theorem pair_le {p q:PN} {d:Int} (h:((sU p q d:Int) != 0)=false):0≤d∧d≤3:=by have:=aHj h;omega
def uH (a0:Zt×Zt×Zt)(a1:Zt×Zt×Zt)(a2:Int):(Int×Int)×Int :=
 (bif (((sU a0 a1 a2):Int) != 0) then
  ((0,0),(sU a0 a1 a2))
 else
  ((F81 a0 ((nZ a1.1 (W (1*2 ^ (min (toNat a2) 64)))),(nZ a1.2.1 (W (1*2 ^ (min (toNat a2) 64)))),(nZ a1.2.2 (W (1*2 ^ (min (toNat a2) 64))))) a2),0))
theorem C57 (a0:Zt×Zt×Zt)(a1:Zt×Zt×Zt)(a2:Int):Con Try.prog 57 [(.a (k9 a0)),(.a (k9 a1)),(iv a2)] [] (.t [(.a (k2 (uH a0 a1 a2).1)),(iv (uH a0 a1 a2).2)]) []:=by
 refine aL Try.func57 (by kernel_rfl) fun cx hcx=>?_
 let t0:List (St Try.prog):=[.c [] (C80 a0 a1 a2)]
 cases h0:(((sU a0 a1 a2):Int) != 0) with
 | true =>
  have q0:=bne_iff_ne.1 h0
  have e:=Eq.refl (uH a0 a1 a2);conv at e=>rhs;simp only [uH,h0,aK]
  rw [e]
  exact rt (t0++[.d h0]) [] [] hcx (by kernel_rfl)
 | false =>
  have q0:=bne_eq_false_iff_eq.1 h0
  have e:=Eq.refl (uH a0 a1 a2);conv at e=>rhs;simp only [uH,h0,aK]
  rw [e]
  exact rt (t0++[.d h0,.p (show 0≤(a2:Int) from by exact(pair_le h0).1),.c [] (C82 a1.1 (W (1*2 ^ (min (toNat a2) 64)))),.c [] (C82 a1.2.1 (W (1*2 ^ (min (toNat a2) 64)))),.c [] (C82 a1.2.2 (W (1*2 ^ (min (toNat a2) 64)))),.c [] (C81 a0 ((nZ a1.1 (W (1*2 ^ (min (toNat a2) 64)))),(nZ a1.2.1 (W (1*2 ^ (min (toNat a2) 64)))),(nZ a1.2.2 (W (1*2 ^ (min (toNat a2) 64))))) a2  (aHk h0) (pair_le h0))]) [] [] hcx (by kernel_rfl)
end Go.Proofs.Ytaeagjnpobdglaa
namespace Go.Proofs.Ytaeagjnpobdglaa
open Go.Proofs Go.Aw Go.RowKit
set_option maxRecDepth 100000
theorem aD6:∀(d:Nat)(p:PN),(aQ d p).length=4 ^ d
 | 0,p=>rfl
 | d+1,p=>by
   rw [fD]
   have:∀l:List PN,(l.flatMap aB2).length=4*l.length:=fun l=>by
     induction l with
     | nil=>rfl
     | cons x l ih=>rw [List.flatMap_cons,List.length_append,ih];show 4+_=_;simp only [List.length_cons];omega
   rw [this,aD6 d p,Nat.pow_succ];omega
open Go.ChangeShapes Go.WideShapes Go.ChangeAt
def aD7 (P:Program)(ok:TypeId→Bool)(n:Nat):List Field→Nat→Bool
 | [],o=>o == n
 | f::l,o=>f.offset == o&&ok f.type&&aD7 P ok n l (o+P.cellsOf f.type)
def uI (P:Program):Nat→TypeId→Bool
 | 0,_=>false
 | k+1,t=>match P.underlying t with
   | some (.int .i64)=>true
   | some (.struct fs)=>aD7 P (uI P k) (P.cellsOf t) fs.toList 0
   | some (.array n e)=>uI P k e&&P.cellsOf t == n*P.cellsOf e
   | _=>false
section
variable {H : Type} {enc : TypeId × Value → H} {P : Program} {w : World} {base : Nat} {spare : Nat → Bool} {held : Bool}
theorem aAs {ok:TypeId→Bool} {n fuel:Nat} {cs:List Value}
   (hok:∀t cs x,ok t=true→DataW.trod enc P w base spare held fuel t cs=some x→x.2=[]∧∃ns:List Int,cs=ns.map (Value.int .i64)) (hn:cs.length=n) :
   ∀(l:List Field) (o:Nat) (ys:List (DataW H×List MemPlace)),aD7 P ok n l o=true→ys.length=l.length →
     (∀(j:Nat) (f:Field),l[j]? = some f→DataW.trod enc P w base spare held fuel f.type ((cs.drop f.offset).take (P.cellsOf f.type))=ys[j]?) →
     (∀y∈ys,y.2=[])∧∃ns:List Int,cs.drop o=ns.map (Value.int .i64)
 | [],o,ys,hc,hl,_=>by
   have:ys=[]:=List.length_eq_zero_iff.1 hl
   subst this
   simp only [aD7,beq_iff_eq] at hc
   exact⟨fun y hy=>by simp at hy,[],by rw [hc,←hn,List.drop_length];rfl⟩
 | f::l,o,ys,hc,hl,hf=>by
   cases ys with
   | nil=>simp at hl
   | cons y ys =>
     simp only [aD7,Bool.and_eq_true,beq_iff_eq] at hc
     obtain⟨⟨h1,h2⟩,h3⟩:=hc
     have g0:=hf 0 f rfl
     rw [h1] at g0
     obtain⟨e1,n1,e2⟩:=hok f.type _ y h2 g0
     obtain⟨e3,n2,e4⟩:=aAs hok hn l _ ys h3 (by simpa using hl) (fun j g hg=>hf (j+1) g hg)
     refine⟨fun z hz=>?_,n1++n2,?_⟩
     · rcases List.mem_cons.1 hz with rfl | hz
       · exact e1
       · exact e3 z hz
     · rw [List.map_append,←e2,←e4,←List.drop_drop,List.take_append_drop]
theorem sW:∀(k:Nat)(t:TypeId)(fuel:Nat)(cs:List Value)(x:DataW H×List MemPlace),uI P k t=true→DataW.trod enc P w base spare held fuel t cs=some x →
   x.2=[]∧∃ns:List Int,cs=ns.map (Value.int .i64)
 | 0,_,_,_,_,h,_=>by simp [uI] at h
 | k+1,t,fuel,cs,x,h,hx=>by
   unfold uI at h
   split at h
   · rename_i ht
     obtain⟨n,rfl,rfl,_⟩:=DataW.trod_int ht hx
     exact⟨rfl,[n],rfl⟩
   · rename_i fs ht
     obtain⟨xs,m,rfl,rfl,hl,hlen,hf⟩:=DataW.trod_struct ht hx
     obtain⟨e1,ns,e2⟩:=aAs (fun t cs x h hx=>sW k t m cs x h hx) hl fs.toList 0 xs h (by simpa using hlen) (fun j f hj=>hf j f (by simpa using hj))
     refine⟨?_,ns,by simpa using e2⟩
     simp only
     induction xs with
     | nil=>rfl
     | cons y l _=>rw [List.flatMap_eq_nil_iff];exact e1
   · rename_i n e ht
     simp only [Bool.and_eq_true,beq_iff_eq] at h
     obtain⟨xs,m,rfl,rfl,hl,hlen,hf⟩:=DataW.trod_array ht hx
     have hi:∀i,i < n→∃y,xs[i]? = some y∧y.2=[]∧∃ns:List Int,(cs.drop (i*P.cellsOf e)).take (P.cellsOf e)=ns.map (Value.int .i64):=fun i hi=>by
       have h1:=hf i hi
       have hil:i < xs.length:=by rw [hlen];exact hi
       rw [List.getElem?_eq_getElem hil] at h1
       obtain⟨e1,e2⟩:=sW k e m _ _ h.1 h1
       exact⟨_,List.getElem?_eq_getElem hil,e1,e2⟩
     refine⟨?_,?_⟩
     · simp only
       rw [List.flatMap_eq_nil_iff]
       intro y hy
       obtain⟨i,hy⟩:=List.getElem?_of_mem hy
       have hil:=(List.getElem?_eq_some_iff.1 hy).1
       obtain⟨y',h1,h2,_⟩:=hi i (by rw [←hlen];exact hil)
       rw [h1] at hy
       exact Option.some.inj hy▸h2
     · have key:∀j,j≤n→∃ns:List Int,cs.drop ((n - j)*P.cellsOf e)=ns.map (Value.int .i64):=by
         intro j
         induction j with
         | zero=>intro _;exact⟨[],by rw [Nat.sub_zero,←h.2,←hl,List.drop_length];rfl⟩
         | succ j ih =>
           intro hj
           obtain⟨n2,h2⟩:=ih (by omega)
           obtain⟨_,_,_,n1,h1⟩:=hi (n - (j+1)) (by omega)
           refine⟨n1++n2,?_⟩
           rw [List.map_append,←h1,←h2,show(n - j)*P.cellsOf e=(n - (j+1))*P.cellsOf e+P.cellsOf e by rw [show n - j=(n - (j+1))+1 by omega,Nat.add_mul,Nat.one_mul],←List.drop_drop,List.take_append_drop]
       obtain⟨ns,hns⟩:=key n (Nat.le_refl _)
       exact⟨ns,by simpa using hns⟩
   · cases h
end
theorem aHl {ρ:Env}:∀ns:List Int,Rels ρ (ns.map iv) (ns.map (Value.int .i64))
 | []=>trivial
 | n::l=>⟨rfl,aHl l⟩
theorem aFl {H:Type} {enc:TypeId×Value→H} {P:Program} {f:Func} {s:ChangeSpec} {apart fresh handsOn:Bool} {W W':World} {args:Array Value} {v:Value} {ds gs:List (DataW H)} {before:List MemPlace}
   (hW:DataW.Whole enc P f.params.toList s.vars apart W args.toList ds gs before) (hb:Below W.heap.size W W')
   (hres:∀(b:Nat) (sp:Nat→Bool) (hd:Bool),DataW.TrodAll enc P W' b sp hd f.resultTypes.toList (v.resultList f.resultTypes.size) (s.fn H (ds++gs)).results [])
   (hargs:DataW.TrodAll enc P W' 0 (fun b=>decide (b < W.heap.size)) true f.params.toList args.toList (s.fn H (ds++gs)).args before)
   (hvars:DataW.TrodVars enc P W' (fun b=>decide (b < W.heap.size)) s.vars (s.fn H (ds++gs)).vars []) :
   s.post enc P f apart fresh handsOn false W args v W' :=
 ⟨ds,gs,before,[],before,[],hW,hres _ _ _,hargs,hvars,hb.frame _,fun h=>by cases h⟩
theorem aFm {H:Type} {enc:TypeId×Value→H} {P:Program} {w:World} {base:Nat} {spare:Nat→Bool} {held:Bool} {t:TypeId} {ts:List TypeId} {v:Value} {vs:List Value} {d:DataW H} {ds:List (DataW H)} {p p':List MemPlace}
 (h:DataW.Trod enc P w base spare held t v d p) (h':DataW.TrodAll enc P w base spare held ts vs ds p'):DataW.TrodAll enc P w base spare held (t::ts) (v::vs) (d::ds) (p++p'):=⟨p,p',h,h',rfl⟩
theorem own:ownKnob Try.prog.godebug=none:=by kernel_rfl
theorem aHm:laidOutB Try.prog=true:=by kernel_rfl
end Go.Proofs.Ytaeagjnpobdglaa
namespace Go.Proofs.Ytaeagjnpobdglaa
open Go.Proofs Go.Aw Go.RowKit
set_option maxRecDepth 100000
def sc (d:Int):Int:=if d=0 then 1 else if d=1 then 2 else if d=2 then 4 else 8
theorem d4 {d:Int} (h:0≤d∧d≤3):d=0∨d=1∨d=2∨d=3:=by omega
theorem aTj {d:Int} (h:0≤d∧d≤3):W (1*2 ^ (min (toNat d) 64))=sc d:=by
 rcases d4 h with rfl | rfl | rfl | rfl<;>kernel_rfl
theorem aTk {d:Int} (h:0≤d∧d≤3):W (1*2 ^ (min (toNat (W (2*d))) 64))=sc d*sc d:=by
 rcases d4 h with rfl | rfl | rfl | rfl<;>kernel_rfl
theorem lC {d:Int} (h:0≤d∧d≤3)(p:PN):(((aQ d.toNat p).length:Nat):Int)=sc d*sc d:=by
 rw [aD6];rcases d4 h with rfl | rfl | rfl | rfl<;>kernel_rfl
theorem oL (d:Int):sc d=1∨sc d=2∨sc d=4∨sc d=8:=by unfold sc;(repeat' split)<;>simp
theorem aKr (d:Int):1≤sc d∧sc d≤8:=by have:=oL d;omega
def tm (s:Int)(p:P3):P3:=(s*p.1,s*p.2.1,s*p.2.2)
theorem aHn {s m:Int} {p:P3} (hs:1≤s∧s≤8)(hm:0≤m)(hp:bd m p):bd (8*m) (tm s p):=by
 have h1:=bG (a:=8) (b:=m) (x:=s) (y:=p.1) (by omega) hp.1
 have h2:=bG (a:=8) (b:=m) (x:=s) (y:=p.2.1) (by omega) hp.2.1
 have h3:=bG (a:=8) (b:=m) (x:=s) (y:=p.2.2) (by omega) hp.2.2
 exact⟨h1,h2,h3⟩
theorem aWa {s:Int} {p:P3} (hs:1≤s∧s≤8)(hp:bd 4096 p):((W (s*p.1)),(W (s*p.2.1)),(W (s*p.2.2)))=tm s p:=by
 have h:=aHn hs (by omega) hp
 have h1:=h.1;have h2:=h.2.1;have h3:=h.2.2
 simp only [tm] at h1 h2 h3
 unfold tm
 rw [aE (n:=s*p.1) (by omega) (by omega),aE (n:=s*p.2.1) (by omega) (by omega),aE (n:=s*p.2.2) (by omega) (by omega)]
theorem aRd {s:Int} {p:P3} (hs:1≤s∧s≤8)(hp:bd 4096 p):nZ p s=tm s p:=aWa hs hp
theorem rH {a b:Int} (h1:-1099511627776≤a)(h2:a≤b)(h3:b≤1099511627776):oA a b=((a,b),0):=by
 unfold oA sD
 rw [eK (show(a,b).1≥-1099511627776 from h1),eK (show(a,b).1≤(a,b).2 from h2),eK (show(a,b).2≤1099511627776 from h3)];rfl
noncomputable def inv (N n:Int):Int×Int :=
 (fG (N / n),if fG (N / n)*fG (N / n)*n=N then fG (N / n) else fG (N / n)+1)
theorem pL {N n:Int} (hN:0≤N)(hn:1≤n):0≤N / n∧N / n≤N∧(N / n)*n≤N:=by
 have h1:0≤N / n:=Int.ediv_nonneg hN (by omega)
 have h2:(N / n)*n≤N:=Int.ediv_mul_le N (by omega)
 have h3:(N / n)*1≤(N / n)*n:=Int.mul_le_mul_of_nonneg_left hn h1
 omega
theorem iI {N n:Int} (hN:0≤N∧N≤288230376151711744)(hn:1≤n) :
   ∃k,fG (N / n)=k∧IsRt (N / n) k∧0≤k∧k≤536870912∧0≤k*k∧k*k≤N / n∧0≤k*k*n∧k*k*n≤N:=by
 obtain⟨h1,h2,h3⟩:=pL hN.1 hn
 have h:=xL (n:=N / n) h1 (by omega)
 have h4:=h.le (m:=536870912) (by omega) (by omega)
 have h5:0≤fG (N / n)*fG (N / n):=Int.mul_nonneg h.1 h.1
 exact⟨_,rfl,h,h.1,h4,h5,h.2.1,Int.mul_nonneg h5 (by omega),Int.le_trans (Int.mul_le_mul_of_nonneg_right h.2.1 (by omega)) h3⟩
theorem aTl {N n:Int} (hN:0≤N∧N≤288230376151711744)(hn:1≤n):zO N n=(inv N n,0):=by
 obtain⟨k,hk,_,k0,k1,k2,k3,k4,k5⟩:=iI hN hn
 obtain⟨h1,h2,h3⟩:=pL hN.1 hn
 unfold zO inv
 rw [Int.tdiv_eq_ediv_of_nonneg hN.1,aE (n:=N / n) (by omega) (by omega),hk,aE (n:=k*k) (by omega) (by omega),aE (n:=k*k*n) (by omega) (by omega),aE (n:=k+1) (by omega) (by omega),
   rH (by omega) (Int.le_refl k) (by omega),rH (by omega) (by omega) (by omega)]
 by_cases h:k*k*n=N
 · rw [if_pos h,beq_iff_eq.2 h];rfl
 · rw [if_neg h,beq_eq_false_iff_ne.2 h];rfl
theorem aRe {N n:Int} (hN:0≤N∧N≤288230376151711744)(hn:1≤n):0≤(inv N n).1∧(inv N n).1≤(inv N n).2∧(inv N n).2≤536870913:=by
 obtain⟨k,hk,_,k0,k1,_⟩:=iI hN hn
 unfold inv
 rw [hk]
 simp only
 split<;>omega
theorem aKs {N n m:Int} (hN:0≤N∧N≤288230376151711744)(hn:1≤n)(hm:n≤m):(inv N m).1≤(inv N n).1:=by
 obtain⟨h1,h2,h3⟩:=pL hN.1 hn
 obtain⟨g1,g2,g3⟩:=pL (n:=m) hN.1 (by omega)
 have h:N / m≤N / n:=by
   refine Int.le_ediv_of_mul_le (by omega) (Int.le_trans (Int.mul_le_mul_of_nonneg_left hm g1) g3)
 exact(xL g1 (by omega)).mono (xL h1 (by omega)) h
def NN (s:Int):Int:=s*s*1099511627776
theorem xN {s:Int} (h:s=1∨s=2∨s=4∨s=8):0≤NN s∧NN s≤288230376151711744:=by rcases h with rfl | rfl | rfl | rfl<;>decide
noncomputable def vM (s n:Int):Int×Int:=if n < 1 then(0,0) else inv (NN s) n
theorem aWb {s:Int} (h:s=1∨s=2∨s=4∨s=8):decide (s < 1)=false∧decide (s > 8)=false:=by
 rcases h with rfl | rfl | rfl | rfl<;>decide
theorem aP8 {s n:Int} (hs:s=1∨s=2∨s=4∨s=8)(hn:n≤1000000000):(dY n s).1=vM s n:=by
 obtain⟨e1,e2⟩:=aWb hs
 unfold dY vM
 by_cases h:n < 1
 · rw [eK h,cond_true,if_pos h]
 · have e:W ((W (s*s))*2 ^ (min (toNat 40) 64))=NN s:=by rcases hs with rfl | rfl | rfl | rfl<;>kernel_rfl
   rw [fN h,cond_false,fN (show ¬n > 1099511627776 by omega),cond_false,e1,cond_false,e2,cond_false,if_neg h,e,aTl (xN hs) (by omega)]
structure OfOk (of:Int→Int×Int):Prop where
 lo:∀n,0≤(of n).1
 le:∀n,(of n).1≤(of n).2
 hi:∀n,(of n).2≤536870913
 mono:∀n m,1≤n→n≤m→(of m).1≤(of n).1
theorem aRf {s:Int} (hs:s=1∨s=2∨s=4∨s=8):OfOk (vM s):=by
 have hb:∀n,0≤(vM s n).1∧(vM s n).1≤(vM s n).2∧(vM s n).2≤536870913:=by
   intro n
   unfold vM
   split
   · simp
   · exact aRe (xN hs) (by omega)
 refine⟨fun n=>(hb n).1,fun n=>(hb n).2.1,fun n=>(hb n).2.2,fun n m h1 h2=>?_⟩
 unfold vM
 rw [if_neg (by omega),if_neg (by omega)]
 exact aKs (xN hs) h1 h2
def fa (c:PN)(x:P3):Int:=mx (mx (mx 0 (ds c.1 x)) (ds c.2.1 x)) (ds c.2.2 x)
def ne (c:PN)(x:P3):Int:=nr (uW c) (uX c) x x
theorem rI {p q:P3} (hp:bd 5000 p)(hq:bd 5000 q):0≤ds p q∧ds p q≤300000000:=by
 have h:=rA hp hq
 have:=aP6 h h
 exact⟨rB _,by unfold ds;omega⟩
theorem aTm {a b:Int} (ha:0≤a)(h:a≤b∨a≤-b):a*a≤b*b:=by
 rcases h with h | h
 · exact Int.mul_le_mul h h ha (by omega)
 · have:=Int.mul_le_mul h h ha (by omega)
   rwa [Int.neg_mul_neg] at this
theorem aTn (a b c d:P3):0≤nr a b c d:=by
 have h1:=iX (gp a.1 b.1 c.1 d.1);have h2:=iX (gp a.2.1 b.2.1 c.2.1 d.2.1);have h3:=iX (gp a.2.2 b.2.2 c.2.2 d.2.2)
 unfold nr;omega
noncomputable def acc (of:Int→Int×Int)(x:P3):List PN→Int×Int→(Int×Int)⊕((Int×Int)×Int)
 | [],v=>.inl v
 | c::l,v=>if ne c x=0 then .inr ((0,0),10) else acc of x l (v.1+(of (fa c x)).1,v.2+(of (ne c x)).2)
def zQ (v:Int×Int)(n:Nat):Prop:=0≤v.1∧v.1≤v.2∧v.2+536870913*n≤34359738432
theorem aRg {a n:Int} (hn:n=1∨n=4∨n=16∨n=64)(ha:-1099511627776≤a∧a≤1099511627776):oB a n=a / n:=by
 unfold oB
 have h0:∀b:Int,decide (n < 0)=false:=fun _=>fN (by omega)
 rw [h0 0]
 have key:(bif ((Int.tmod a n:Int) != 0) then(bif (!(decide (a < 0) == false)) then W (W (Int.tdiv a n) - 1) else W (Int.tdiv a n)) else W (Int.tdiv a n))=if Int.tmod a n≠0∧a < 0 then W (W (Int.tdiv a n) - 1) else W (Int.tdiv a n):=by
   by_cases h1:Int.tmod a n=0
   · rw [h1];simp
   · by_cases h2:a < 0
     · rw [bne_iff_ne.2 h1,eK h2,if_pos ⟨h1,h2⟩];rfl
     · rw [bne_iff_ne.2 h1,fN h2,if_neg (fun h=>h2 h.2)];rfl
 rw [key]
 rcases Int.lt_or_le a 0 with h | h
 · obtain⟨b,rfl⟩:∃b:Int,a=-b:=⟨-a,by omega⟩
   have hb:0≤b:=by omega
   rw [Int.neg_tdiv,Int.neg_tmod,Int.tdiv_eq_ediv_of_nonneg hb,Int.tmod_eq_emod_of_nonneg hb]
   rcases hn with rfl | rfl | rfl | rfl <;>
   · rw [aE (n:=-(b / _)) (by omega) (by omega)]
     split
     · rw [aE (by omega) (by omega)];omega
     · omega
 · rw [if_neg (by omega),Int.tdiv_eq_ediv_of_nonneg h]
   rcases hn with rfl | rfl | rfl | rfl<;>exact aE (by omega) (by omega)
theorem aTo {a n:Int} (hn:n=1∨n=4∨n=16∨n=64)(ha:-1099511627776≤a∧a≤1099511627776):xH a n=-(-a / n):=by
 unfold xH
 rw [aE (n:=0 - a) (by omega) (by omega),aRg hn (by omega),Int.zero_sub]
 rcases hn with rfl | rfl | rfl | rfl<;>exact(aE (by omega) (by omega)).trans (by omega)
def avg (v:Int×Int)(n:Int):Int×Int:=(v.1 / n,-(-v.2 / n))
theorem aAt {a b:Int} (h1:-1099511627776≤a)(h2:a≤b)(h3:b≤1099511627776):sD (a,b)=true:=by
 unfold sD
 rw [eK (show(a,b).1≥-1099511627776 from h1),eK (show(a,b).1≤(a,b).2 from h2),eK (show(a,b).2≤1099511627776 from h3)];rfl
theorem aTp {v:Int×Int} {n:Int} (hn:n=1∨n=4∨n=16∨n=64)(h:zQ v 0):zP v.1 v.2 n=avg v n:=by
 unfold zQ at h
 unfold zP uV gP
 rw [aAt (by omega) (by omega) (by omega)]
 simp only [Bool.not_true,cond_false,bne_self_eq_false]
 rw [fN (show ¬n < 1 by omega),fN (show ¬n > 1099511627776 by omega),cond_false,cond_false,aRg hn (by omega),aTo hn (by omega)]
 have:v.1 / n≤-(-v.2 / n)∧-1099511627776≤v.1 / n∧-(-v.2 / n)≤1099511627776:=by
   rcases hn with rfl | rfl | rfl | rfl<;>omega
 rw [rH this.2.1 this.1 this.2.2];rfl
theorem lD (d:Int):sc d*sc d=1∨sc d*sc d=4∨sc d*sc d=16∨sc d*sc d=64:=by
 rcases oL d with h | h | h | h<;>rw [h]<;>decide
theorem rJ {p c:PN} {d:Int} (hp:bdP 64 p)(hd:0≤d∧d≤3)(hc:c∈aQ d.toNat p):bdP 512 c:=by
 have key:∀k:Nat,k≤3→c∈aQ k p→bdP 512 c:=by
   intro k hk hc
   have:k=0∨k=1∨k=2∨k=3:=by omega
   rcases this with rfl | rfl | rfl | rfl<;>exact(vJ (m:=64) _ hp (by decide) (by decide) hc).mono (by decide)
 exact key _ (by omega) hc
theorem aP9 {p:PN} {d:Int} (hd:0≤d∧d≤3):zQ (0,0) (aQ d.toNat p).length:=by
 have h:=lC hd p
 have h1:=lD d
 unfold zQ;simp only;omega
section
variable {p : PN} {x : P3} {d : Int}
end
end Go.Proofs.Ytaeagjnpobdglaa
namespace Go.Proofs.Ytaeagjnpobdglaa
open Go.Proofs Go.Aw Go.RowKit
set_option maxRecDepth 100000
def aWc (T r:Int):Prop:=0≤r∧T≤r*r∧(r=0∨(r - 1)*(r - 1) < T)
def vN (d:Int):Int:=3537128906555392*(sc d*sc d)
theorem aTq {d:Int} (h:0≤d∧d≤3):W (3537128906555392*2 ^ (min (toNat (W (2*d))) 64))=vN d:=by
 rcases d4 h with rfl | rfl | rfl | rfl<;>kernel_rfl
theorem aKt (d:Int):3537128906555392≤vN d∧vN d≤226376250019545088:=by
 unfold vN;have:=lD d;omega
def cq (t b:Int):Int:=-(-t / b)
theorem xO {t b:Int} (hb:1≤b):t≤cq t b*b∧(cq t b - 1)*b < t:=by
 have h1:=Int.mul_ediv_add_emod (-t) b
 have h2:=Int.emod_nonneg (-t) (show b≠0 by omega)
 have h3:=Int.emod_lt_of_pos (-t) (show 0 < b by omega)
 unfold cq
 have e:-(-t / b)*b=-(b*(-t / b)):=by rw [Int.neg_mul,Int.mul_comm]
 have e2:(-(-t / b) - 1)*b=-(b*(-t / b)) - b:=by rw [Int.sub_mul,e,Int.one_mul]
 omega
theorem xP {p:PN} {d:Int} (hp:vp p=0)(hd:0≤d∧d≤3) :
   ∃r,IsRt (dt (jN p) (jN p)) r∧1≤r∧r≤56755∧aWc (cq (vN d) (128*r)) (eD p d)∧eD p d≤67108864:=by
 obtain⟨r,e,hr,r1,r2⟩:=aKl hp
 have ht:=aKt d
 obtain⟨q1,q2,q3⟩:=pL (N:=vN d) (n:=128*r) (by omega) (by omega)
 have hqb:vN d / (128*r)≤1768564453277696:=by
   rcases Int.lt_or_le 1768564453277696 (vN d / (128*r)) with h | h
   · have:=Int.mul_le_mul_of_nonneg_left (show 128≤128*r by omega) q1;omega
   · exact h
 have hk:=aHi (n:=vN d / (128*r)) q1 (by omega)
 have hkb:=hk.le (m:=42054304) (by omega) (by omega)
 obtain⟨u1,u2⟩:=xO (t:=vN d) (b:=128*r) (by omega)
 have hm:=Int.mul_ediv_add_emod (vN d) (128*r)
 have hm1:=Int.emod_lt_of_pos (vN d) (show 0 < 128*r by omega)
 refine⟨r,hr,r1,r2,?_⟩
 unfold eD
 rw [e,aE (n:=128*r) (by omega) (by omega),aTq hd,Int.tdiv_eq_ediv_of_nonneg (by omega),aE (n:=vN d / (128*r)) (by omega) (by omega)]
 generalize hH (vN d / (128*r))=k at *
 have k0:=hk.1;have k1:=hk.2.1;have k2:=hk.2.2
 have k3:0≤k*k:=Int.mul_nonneg k0 k0
 have k4:k*k*(128*r)≤vN d / (128*r)*(128*r):=Int.mul_le_mul_of_nonneg_right k1 (by omega)
 have k5:0≤k*k*(128*r):=Int.mul_nonneg k3 (by omega)
 rw [aE (n:=k*k) (by omega) (by omega),aE (n:=k*k*(128*r)) (by omega) (by omega),aE (n:=k+1) (by omega) (by omega)]
 generalize vN d / (128*r)=q at *
 generalize cq (vN d) (128*r)=T at *
 have hb:0 < 128*r:=by omega
 generalize 128*r=b at *
 have hqT:q≤T:=Int.le_of_mul_le_mul_right (Int.le_trans q3 u1) hb
 have hTq:T≤q+1:=by
   have:(T - 1)*b < (q+1)*b:=by rw [Int.add_mul,Int.mul_comm q b];omega
   have:=Int.lt_of_mul_lt_mul_right this (by omega);omega
 by_cases h:k*k*b < vN d
 · rw [eK h,cond_true]
   refine⟨⟨by omega,by omega,Or.inr ?_⟩,by omega⟩
   rw [show k+1 - 1=k by omega]
   exact Int.lt_of_mul_lt_mul_right (Int.lt_of_lt_of_le h u1) (by omega)
 · rw [fN h,cond_false]
   refine⟨⟨k0,?_,?_⟩,by omega⟩
   · have:(T - 1)*b < k*k*b:=by omega
     have:=Int.lt_of_mul_lt_mul_right this (by omega);omega
   · rcases Int.lt_or_le 0 k with h0 | h0
     · right
       have:(k - 1)*(k - 1)≤(k - 1)*k:=Int.mul_le_mul_of_nonneg_left (by omega) (by omega)
       have e:(k - 1)*k=k*k - k:=by rw [Int.sub_mul,Int.one_mul]
       omega
     · left;omega
def vO (c q:PN):Int:=mx (mx (mx (mx (mx (mx (mx (mx (mx 0 (ds c.1 q.1)) (ds c.1 q.2.1)) (ds c.1 q.2.2)) (ds c.2.1 q.1)) (ds c.2.1 q.2.1)) (ds c.2.1 q.2.2)) (ds c.2.2 q.1)) (ds c.2.2 q.2.1)) (ds c.2.2 q.2.2)
def uJ (c q:PN):Int:=nr (uW c) (uX c) (uW q) (uX q)
theorem aTr {c q:PN} (hc:bdP 5000 c)(hq:bdP 5000 q):aY [(aO c).1,(aO c).2.1,(aO c).2.2] [(aO q).1,(aO q).2.1,(aO q).2.2]=vO c q:=by
 refine(aTh c q.1 q.2.1 q.2.2).trans ?_
 rw [rG hc.1 hq.1,rG hc.1 hq.2.1,rG hc.1 hq.2.2,rG hc.2.1 hq.1,rG hc.2.1 hq.2.1,rG hc.2.1 hq.2.2,rG hc.2.2 hq.1,rG hc.2.2 hq.2.1,rG hc.2.2 hq.2.2];rfl
theorem aTs {c q:PN} (hc:bdP 5000 c)(hq:bdP 5000 q):bA (aO c) (aO q)=uJ c q:=aRb hc hq
theorem aKu {c q:PN} (hc:bdP 5000 c)(hq:bdP 5000 q):vO c q≤300000000 :=
 mL (mL (mL (mL (mL (mL (mL (mL (mL (by omega) (rI hc.1 hq.1).2) (rI hc.1 hq.2.1).2) (rI hc.1 hq.2.2).2) (rI hc.2.1 hq.1).2) (rI hc.2.1 hq.2.1).2) (rI hc.2.1 hq.2.2).2) (rI hc.2.2 hq.1).2) (rI hc.2.2 hq.2.1).2) (rI hc.2.2 hq.2.2).2
theorem aFn (c q:PN):ds c.1 q.1≤vO c q∧ds c.2.1 q.1≤vO c q∧ds c.2.2 q.1≤vO c q:=by
 refine⟨?_,?_,?_⟩
 · exact Int.le_trans (gW _ _) (Int.le_trans (cD _ _) (Int.le_trans (cD _ _) (Int.le_trans (cD _ _) (Int.le_trans (cD _ _) (Int.le_trans (cD _ _) (Int.le_trans (cD _ _) (Int.le_trans (cD _ _) (cD _ _))))))))
 · exact Int.le_trans (gW _ _) (Int.le_trans (cD _ _) (Int.le_trans (cD _ _) (Int.le_trans (cD _ _) (Int.le_trans (cD _ _) (cD _ _)))))
 · exact Int.le_trans (gW _ _) (Int.le_trans (cD _ _) (cD _ _))
theorem aFo {a b c d x y:Int} (h1:a≤x)(h2:x≤b)(h3:c≤y)(h4:y≤d):gp a b c d*gp a b c d≤(x - y)*(x - y):=by
 refine aTm (xM _ _ _ _) ?_
 unfold gp mx
 (repeat' split)<;>omega
theorem aKv (c q:PN):0≤uJ c q∧uJ c q≤vO c q:=by
 refine⟨aTn _ _ _ _,Int.le_trans ?_ (aFn c q).1⟩
 have h1:=aFo (iY c.1.1 c.2.1.1 c.2.2.1).1 (iZ c.1.1 c.2.1.1 c.2.2.1).1 (iY q.1.1 q.2.1.1 q.2.2.1).1 (iZ q.1.1 q.2.1.1 q.2.2.1).1
 have h2:=aFo (iY c.1.2.1 c.2.1.2.1 c.2.2.2.1).1 (iZ c.1.2.1 c.2.1.2.1 c.2.2.2.1).1 (iY q.1.2.1 q.2.1.2.1 q.2.2.2.1).1 (iZ q.1.2.1 q.2.1.2.1 q.2.2.2.1).1
 have h3:=aFo (iY c.1.2.2 c.2.1.2.2 c.2.2.2.2).1 (iZ c.1.2.2 c.2.1.2.2 c.2.2.2.2).1 (iY q.1.2.2 q.2.1.2.2 q.2.2.2.2).1 (iZ q.1.2.2 q.2.1.2.2 q.2.2.2.2).1
 unfold uJ nr ds dt sb
 simp only [uW,uX]
 omega
theorem aKw {x y:PN} (h:bdP 100000 x)(hy:y∈aB2 x):jN y=jN x:=by
 unfold aB2 q1 q2 q3 q4 at hy
 rw [rF h.1 h.2.1,rF h.2.2 h.1,rF h.2.1 h.2.2,hO h.1,hO h.2.1,hO h.2.2] at hy
 simp only [List.mem_cons,List.mem_nil_iff,or_false] at hy
 unfold jN cr sb
 rcases hy with rfl | rfl | rfl | rfl<;>simp only [Prod.mk.injEq]<;>refine⟨?_,?_,?_⟩<;>grind
theorem aHo:∀(d:Nat) {m:Int} {p x:PN},bdP m p→m*2 ^ d≤100000→0≤m→x∈aQ d p→jN x=jN p
 | 0,m,p,x,h,_,_,hx=>by simp [aQ] at hx;subst hx;rfl
 | d+1,m,p,x,h,hm,h0,hx=>by
   rw [fD,List.mem_flatMap] at hx
   obtain⟨y,hy,hx⟩:=hx
   have hp:(0:Int) < 2 ^ d:=Int.pow_pos (by omega)
   have hle:m*2 ^ d≤m*2 ^ (d+1):=Int.mul_le_mul_of_nonneg_left (by rw [Int.pow_succ];omega) h0
   have hb:=vJ d h (by omega) h0 hy
   rw [aKw (hb.mono (by omega)) hx,aHo d h (by omega) h0 hy]
theorem aFp {p c:PN} {d:Int} (hp:bdP 64 p)(hd:0≤d∧d≤3)(hc:c∈aQ d.toNat p):jN c=jN p:=by
 have:d.toNat=0∨d.toNat=1∨d.toNat=2∨d.toNat=3:=by omega
 rcases this with h | h | h | h<;>rw [h] at hc<;>exact aHo (m:=64) _ hp (by decide) (by decide) hc
theorem aKx (c:PN)(x:P3) {R:Int} (h1:ds c.1 x≤R)(h2:ds c.2.1 x≤R)(h3:ds c.2.2 x≤R):dt (jN c) (jN c)≤(4*R)*(4*R):=by
 have lag:∀u v:P3,dt (cr u v) (cr u v)≤dt u u*dt v v:=by
   intro u v
   have h:=iX (dt u v)
   have e:dt (cr u v) (cr u v)+dt u v*dt u v=dt u u*dt v v:=by
     unfold dt cr;grind
   omega
 have par:∀a b:P3,dt (sb a b) (sb a b)≤2*ds a x+2*ds b x:=by
   intro a b
   have k:∀s t y:Int,(s - t)*(s - t)≤2*((s - y)*(s - y))+2*((t - y)*(t - y)):=by
     intro s t y
     have:=iX (s+t - 2*y)
     grind
   have k1:=k a.1 b.1 x.1;have k2:=k a.2.1 b.2.1 x.2.1;have k3:=k a.2.2 b.2.2 x.2.2
   unfold ds dt sb;simp only;omega
 have p1:=par c.2.1 c.1;have p2:=par c.2.2 c.1
 refine Int.le_trans (lag _ _) (Int.mul_le_mul (by omega) (by omega) (rB _) ?_)
 have:=rB (sb c.1 x)
 unfold ds at *;omega
theorem aTt (d:Int):NN (sc d)=sc d*sc d*1099511627776:=rfl
theorem aOq {p c:PN} {d:Int} (hp:vp p=0)(hd:0≤d∧d≤3)(hc:c∈aQ d.toNat p)(x:P3) {R:Int} (h1:ds c.1 x≤R)(h2:ds c.2.1 x≤R)(h3:ds c.2.2 x≤R):(vM (sc d) R).1≤eD p d:=by
 obtain⟨r,hr,r1,r2,hu,_⟩:=xP hp hd
 have hR:0≤R:=Int.le_trans (rB _) h1
 have hn:=aKx c x h1 h2 h3
 rw [aFp (gY hp).1 hd hc] at hn
 have h4:r≤4*R:=by
   rcases Int.lt_or_le (4*R) r with h | h
   · have:=Int.mul_le_mul (show 4*R+1≤r by omega) (show 4*R+1≤r by omega) (by omega) hr.1
     have e:(4*R+1)*(4*R+1)=(4*R)*(4*R)+8*R+1:=by grind
     have:=hr.2.1;omega
   · exact h
 unfold vM
 rw [if_neg (by omega)]
 obtain⟨k,hk,_,k0,k1,k2,k3,k4,k5⟩:=iI (xN (oL d)) (show 1≤R by omega)
 unfold inv
 rw [hk]
 simp only
 rcases Int.lt_or_le (eD p d) k with h | h
 · exfalso
   obtain⟨u1,_⟩:=xO (t:=vN d) (b:=128*r) (by omega)
   have v0:=hu.1;have v1:=hu.2.1
   generalize eD p d=m at *
   have e1:cq (vN d) (128*r)*(128*r)≤m*m*(128*r):=Int.mul_le_mul_of_nonneg_right v1 (by omega)
   have e2:m*m≤k*k:=Int.mul_le_mul (by omega) (by omega) v0 k0
   have e3:m*m*(128*r)≤k*k*(512*R):=Int.mul_le_mul e2 (by omega) (by omega) k2
   have e4:k*k*(512*R)=512*(k*k*R):=by grind
   rw [aTt] at k5
   have:=lD d
   unfold vN at *
   omega
 · exact h
def aB6 (lo hi:PN→Int):List PN→Int×Int→Int×Int
 | [],v=>v
 | c::l,v=>aB6 lo hi l (v.1+lo c,v.2+hi c)
theorem vP {lo hi:Int} {v:Int×Int} {n:Nat} (h:zQ v (n+1))(h1:0≤lo∧lo≤hi∧hi≤536870913):zQ (v.1+lo,v.2+hi) n:=by
 unfold zQ at *;simp only;omega
theorem aB7 {lo hi:PN→Int}:∀{l:List PN} {v:Int×Int},(∀c∈l,0≤lo c∧lo c≤hi c∧hi c≤536870913)→zQ v l.length→zQ (aB6 lo hi l v) 0
 | [],v,_,h=>h
 | c::l,v,hl,h=>aB7 (l:=l) (fun c hc=>hl c (List.mem_cons_of_mem _ hc)) (vP h (hl c List.mem_cons_self))
theorem xQ {lo hi:PN→Int} {S:Int×Int→PN→Int×Int}:∀{l:List PN} {v:Int×Int},(∀c∈l,0≤lo c∧lo c≤hi c∧hi c≤536870913) →
   (∀c∈l,∀v:Int×Int,S v c=(W (v.1+lo c),W (v.2+hi c)))→zQ v l.length→l.foldl S v=aB6 lo hi l v
 | [],v,_,_,_=>rfl
 | c::l,v,hl,hS,h=>by
   have h1:=vP h (hl c List.mem_cons_self)
   have h2:=h1
   unfold zQ at h2;simp only at h2
   rw [List.foldl_cons,hS c List.mem_cons_self v,aE (by omega) (by omega),aE (by omega) (by omega)]
   exact xQ (l:=l) (fun c hc=>hl c (List.mem_cons_of_mem _ hc)) (fun c hc=>hS c (List.mem_cons_of_mem _ hc)) h1
noncomputable def pM (d:Int)(q c:PN):Int:=(vM (sc d) (vO c q)).1
noncomputable def oM (R d:Int)(q c:PN):Int:=if 0 < uJ c q then(if(vM (sc d) (uJ c q)).2 < R then(vM (sc d) (uJ c q)).2 else R) else R
theorem aTu {p q:PN} {d:Int} (hp:vp p=0)(hd:0≤d∧d≤3):∀c∈aQ d.toNat p,0≤pM d q c∧pM d q c≤oM (eD p d) d q c∧oM (eD p d) d q c≤536870913:=by
 intro c hc
 obtain⟨_,_,_,_,_,hub⟩:=xP hp hd
 have ho:=aRf (oL d)
 obtain⟨g1,g2,g3⟩:=aFn c q
 have hl:=aOq hp hd hc q.1 g1 g2 g3
 have hn:=aKv c q
 have h0:=ho.lo (vO c q)
 unfold pM oM
 split
 · rename_i hz
   have h1:=ho.mono (uJ c q) (vO c q) (by omega) hn.2;have h2:=ho.le (uJ c q)
   split<;>omega
 · omega
noncomputable def fK (p q:PN)(d:Int):Int×Int:=avg (aB6 (pM d q) (oM (eD p d) d q) (aQ d.toNat p) (0,0)) (sc d*sc d)
section
variable {p q : PN} {d : Int}
theorem aQa (hp:vp p=0)(hq:bdP 5000 q)(hd:0≤d∧d≤3):F81 p q d=fK p q d:=by
 have hk:=aP9 (p:=p) hd
 have hb:=aTu (q:=q) hp hd
 unfold F81 fK
 rw [xQ hb (fun c hc v=>?_) hk]
 · show zP _ _ _=_
   rw [aTk hd,aTp (lD d) (aB7 hb hk)]
 · have hcb:=(rJ (gY hp).1 hd hc).mono (show(512:Int)≤5000 by omega)
   obtain⟨v1,v2⟩:=v
   have h1:=aKu hcb hq;have h2:=aKv c q
   simp only [uG]
   rw [aTj hd,aTs hcb hq,aTr hcb hq,aP8 (oL d) (by omega),aP8 (oL d) (by omega)]
   unfold pM oM
   by_cases h:0 < uJ c q
   · rw [if_pos h,eK (show uJ c q > 0 from h),cond_true]
   · rw [if_neg h,fN (show ¬uJ c q > 0 from h),cond_false]
end
def cL (s:Int)(q:PN):PN:=(tm s q.1,tm s q.2.1,tm s q.2.2)
theorem aKy {q:PN} {s:Int} (hs:1≤s∧s≤8)(hq:bdP 64 q):bdP 5000 (cL s q) :=
 ⟨(aHn hs (by omega) hq.1).mono (by omega),(aHn hs (by omega) hq.2.1).mono (by omega),(aHn hs (by omega) hq.2.2).mono (by omega)⟩
end Go.Proofs.Ytaeagjnpobdglaa
namespace Go.Proofs.Ytaeagjnpobdglaa
open Go.Proofs Go.Aw Go.RowKit
set_option maxRecDepth 100000
theorem aQb {a:Int×Int} (h:((gP a:Int) != 0)=false):-1099511627776≤a.1∧a.1≤a.2∧a.2≤1099511627776:=by
 have h:gP a=0:=by simpa using h
 unfold gP at h
 cases h0:sD a with
 | false=>rw [h0] at h;cases h
 | true =>
   unfold sD at h0
   by_cases h1:a.1≥-1099511627776
   · by_cases h2:a.1≤a.2
     · rw [eK h1,cond_true,eK h2,cond_true] at h0
       exact⟨h1,h2,cY h0⟩
     · rw [eK h1,cond_true,fN h2,cond_false] at h0;cases h0
   · rw [fN h1,cond_false] at h0;cases h0
def F41 (a0:Int):Bool :=
 (bif (decide ((a0:Int)≥(-1099511627776))) then
  (decide ((a0:Int)≤1099511627776))
 else
  false)
theorem C41 (a0:Int):Con Try.prog 41 [(iv a0)] [] (.v (.bool (F41 a0))) []:=by
 refine aL Try.func41 (by kernel_rfl) fun cx hcx=>?_
 cases h0:(decide ((a0:Int)≥(-1099511627776))) with
 | true =>
  have q0:=cY h0
  have e:=Eq.refl (F41 a0);conv at e=>rhs;simp only [F41,h0,aK]
  rw [e]
  exact rt [.d h0] [] [] hcx (by kernel_rfl)
 | false =>
  have q0:=dU h0
  have e:=Eq.refl (F41 a0);conv at e=>rhs;simp only [F41,h0,aK]
  rw [e]
  exact rt [.d h0] [] [] hcx (by kernel_rfl)
def jE (a0:Int×Int)(a1:Int):(Int×Int)×Int :=
 (bif (((gP a0):Int) != 0) then
  ((0,0),(gP a0))
 else
  (bif (!(F41 a1)) then
   ((0,0),1)
  else
   ((oA (if((lT a0.2 a1):Int) < (lT a0.1 a1) then(lT a0.2 a1) else(lT a0.1 a1)) (if((lT a0.1 a1):Int) < (lT a0.2 a1) then(lT a0.2 a1) else(lT a0.1 a1))).1,(oA (if((lT a0.2 a1):Int) < (lT a0.1 a1) then(lT a0.2 a1) else(lT a0.1 a1)) (if((lT a0.1 a1):Int) < (lT a0.2 a1) then(lT a0.2 a1) else(lT a0.1 a1))).2)))
theorem C13 (a0:Int×Int)(a1:Int):Con Try.prog 13 [(.a [(iv a0.1),(iv a0.2)]),(iv a1)] [] (.t [(.a (k2 (jE a0 a1).1)),(iv (jE a0 a1).2)]) []:=by
 refine aL Try.func13 (by kernel_rfl) fun cx hcx=>?_
 let t0:List (St Try.prog):=[.c [2] (aP4 a0)]
 cases h0:(((gP a0):Int) != 0) with
 | true =>
  have q0:=bne_iff_ne.1 h0
  have e:=Eq.refl (jE a0 a1);conv at e=>rhs;simp only [jE,h0,aK]
  rw [e]
  exact rt (t0++[.d h0]) [] [] hcx (by kernel_rfl)
 | false =>
  have q0:=bne_eq_false_iff_eq.1 h0
  let t1:List (St Try.prog):=(t0++[.d h0,.c [] (C41 a1)])
  cases h1:(!(F41 a1)) with
  | true =>
   have e:=Eq.refl (jE a0 a1);conv at e=>rhs;simp only [jE,h0,h1,aK]
   rw [e]
   exact rt (t1++[.d h1]) [] [] hcx (by kernel_rfl)
  | false =>
   have e:=Eq.refl (jE a0 a1);conv at e=>rhs;simp only [jE,h0,h1,aK]
   rw [e]
   exact rt (t1++[.d h1,.c [] (C42 a0.1 a1  (by have:=aQb h0;omega)),.c [] (C42 a0.2 a1  (by have:=aQb h0;omega)),.c [] (C43 (if((lT a0.2 a1):Int) < (lT a0.1 a1) then(lT a0.2 a1) else(lT a0.1 a1)) (if((lT a0.1 a1):Int) < (lT a0.2 a1) then(lT a0.2 a1) else(lT a0.1 a1)))]) [] [] hcx (by kernel_rfl)
def jF (x n:Int):Int:=if 1099511627776 < x*n then 1099511627777 else if x*n < -1099511627776 then -1099511627777 else x*n
theorem aRh (x n:Int):(x*n=(if x < 0 then 0 - x else x)*(if n < 0 then 0 - n else n)∧((x < 0)=(n < 0)))∨(x*n=-((if x < 0 then 0 - x else x)*(if n < 0 then 0 - n else n))∧¬((x < 0)=(n < 0))):=by
 by_cases h1:x < 0
 · by_cases h2:n < 0
   · left;rw [if_pos h1,if_pos h2];exact⟨by grind,by simp [h1,h2]⟩
   · right;rw [if_pos h1,if_neg h2];exact⟨by grind,by simp [h1,h2]⟩
 · by_cases h2:n < 0
   · right;rw [if_neg h1,if_pos h2];exact⟨by grind,by simp [h1,h2]⟩
   · left;rw [if_neg h1,if_neg h2];exact⟨by grind,by simp [h1,h2]⟩
theorem aKz {x n:Int} (hx:-1099511627776≤x∧x≤1099511627776)(hn:-1099511627776≤n∧n≤1099511627776):lT x n=jF x n:=by
 have hm:=aRh x n
 have ha:∀z:Int,(-1099511627776≤z∧z≤1099511627776)→(if(z:Int) < (W (0 - z)) then(W (0 - z)) else z)=if z < 0 then 0 - z else z:=by
   intro z hz
   rw [aE (n:=0 - z) (by omega) (by omega)]
   (repeat' split)<;>omega
 unfold lT jF
 rw [ha x hx,ha n hn]
 by_cases hx0:x=0
 · subst hx0;simp [aE]
 by_cases hn0:n=0
 · subst hn0;simp [aE]
 rw [bne_iff_ne.2 hx0,bne_iff_ne.2 hn0,cond_true,cond_true]
 have a1:1≤(if x < 0 then 0 - x else x)∧(if x < 0 then 0 - x else x)≤1099511627776:=by split<;>omega
 have a2:1≤(if n < 0 then 0 - n else n)∧(if n < 0 then 0 - n else n)≤1099511627776:=by split<;>omega
 have e:(!(decide (x < 0) == decide (n < 0)))=decide (x*n=-((if x < 0 then 0 - x else x)*(if n < 0 then 0 - n else n))∧¬((x < 0)=(n < 0))):=by
   by_cases h1:x < 0<;>by_cases h2:n < 0<;>simp [h1,h2] at hm ⊢<;>omega
 rw [e]
 generalize (if x < 0 then 0 - x else x)=ax at *
 generalize (if n < 0 then 0 - n else n)=an at *
 rw [Int.tdiv_eq_ediv_of_nonneg (by omega)]
 obtain⟨d1,d2,d3⟩:=pL (N:=1099511627776) (n:=ax) (by omega) (by omega)
 have d4:=Int.mul_ediv_add_emod 1099511627776 ax
 have d5:=Int.emod_lt_of_pos 1099511627776 (show 0 < ax by omega)
 rw [aE (n:=1099511627776 / ax) (by omega) (by omega)]
 have hbig:an > 1099511627776 / ax↔1099511627776 < ax*an:=by
   constructor
   · intro h
     have:=Int.mul_le_mul_of_nonneg_left (show 1099511627776 / ax+1≤an by omega) (show 0≤ax by omega)
     rw [Int.mul_add,Int.mul_one] at this;omega
   · intro h
     rcases Int.lt_or_le (1099511627776 / ax) an with h' | h'
     · exact h'
     · have:=Int.mul_le_mul_of_nonneg_left h' (show 0≤ax by omega)
       rw [Int.mul_comm] at d3;omega
 by_cases hb:an > 1099511627776 / ax
 · rw [eK hb,cond_true]
   have:=hbig.1 hb
   rcases hm with⟨q1,q2⟩ | ⟨q1,q2⟩
   · rw [fN (fun h=>h.2 q2),cond_false,q1,if_pos (by omega)]
   · rw [eK ⟨q1,q2⟩,cond_true,q1,if_neg (by omega),if_pos (by omega)]
 · rw [fN hb,cond_false]
   have h1:ax*an≤1099511627776:=by
     rcases Int.lt_or_le 1099511627776 (ax*an) with h | h
     · exact absurd (hbig.2 h) hb
     · exact h
   have h2:0≤ax*an:=Int.mul_nonneg (by omega) (by omega)
   rcases hm with⟨q1,q2⟩ | ⟨q1,q2⟩<;>rw [q1,if_neg (by omega),if_neg (by omega)]<;>exact aE (by omega) (by omega)
theorem xR {x y n:Int} (h:x≤y)(hn:0≤n):jF x n≤jF y n:=by
 have:=Int.mul_le_mul_of_nonneg_right h hn
 unfold jF;(repeat' split)<;>omega
theorem aK0 {x y n:Int} (h:x≤y)(hn:n≤0):jF y n≤jF x n:=by
 have:=Int.mul_le_mul_of_nonpos_right h hn
 unfold jF;(repeat' split)<;>omega
def scl (a:Int×Int)(n:Int):Int×Int:=if n < 0 then(jF a.2 n,jF a.1 n) else(jF a.1 n,jF a.2 n)
def vs (a:Int×Int):Prop:=-1099511627776≤a.1∧a.1≤a.2∧a.2≤1099511627776
theorem aB8 {a:Int×Int} {n:Int} (ha:vs a)(hn:-1099511627776≤n∧n≤1099511627776):jE a n=oA (scl a n).1 (scl a n).2:=by
 obtain⟨h1,h2,h3⟩:=ha
 unfold jE gP F41
 rw [aAt (a:=a.1) (b:=a.2) h1 h2 h3,eK (show n≥-1099511627776 from hn.1),eK hn.2,aKz (x:=a.1) (by omega) hn,aKz (x:=a.2) (by omega) hn]
 show((oA _ _).1,(oA _ _).2)=_
 unfold scl
 by_cases h:n < 0
 · have:=aK0 h2 (show n≤0 by omega)
   rw [if_pos h]
   simp only
   rw [show(if(jF a.2 n:Int) < jF a.1 n then jF a.2 n else jF a.1 n)=jF a.2 n by split<;>omega,show(if(jF a.1 n:Int) < jF a.2 n then jF a.2 n else jF a.1 n)=jF a.1 n by split<;>omega]
 · have:=xR h2 (show 0≤n by omega)
   rw [if_neg h]
   simp only
   rw [show(if(jF a.2 n:Int) < jF a.1 n then jF a.2 n else jF a.1 n)=jF a.1 n by split<;>omega,show(if(jF a.1 n:Int) < jF a.2 n then jF a.2 n else jF a.1 n)=jF a.2 n by split<;>omega]
theorem nK (a b:Int):(oA a b=((a,b),0)∧vs (a,b))∨oA a b=((0,0),4):=by
 by_cases h:vs (a,b)
 · exact Or.inl ⟨rH h.1 h.2.1 h.2.2,h⟩
 · right
   unfold oA
   have:sD (a,b)=false:=by
     unfold sD
     by_cases h1:(a,b).1≥-1099511627776
     · by_cases h2:(a,b).1≤(a,b).2
       · rw [eK h1,eK h2,cond_true,cond_true];exact fN (fun h3=>h ⟨h1,h2,h3⟩)
       · rw [eK h1,fN h2];rfl
     · rw [fN h1];rfl
   rw [this];rfl
def ht (p:PN)(x:P3):Int:=dt (sb p.1 x) (cr (sb p.2.1 x) (sb p.2.2 x))
def ad (p q:P3):P3:=(p.1+q.1,p.2.1+q.2.1,p.2.2+q.2.2)
theorem aOr {c y:PN} (h:bdP 100000 c)(hy:y∈aB2 c):∃a1 b1 a2 b2 a3 b3:P3,(a1=c.1∨a1=c.2.1∨a1=c.2.2)∧(b1=c.1∨b1=c.2.1∨b1=c.2.2)∧(a2=c.1∨a2=c.2.1∨a2=c.2.2)∧(b2=c.1∨b2=c.2.1∨b2=c.2.2)∧(a3=c.1∨a3=c.2.1∨a3=c.2.2)∧(b3=c.1∨b3=c.2.1∨b3=c.2.2)∧y=(ad a1 b1,ad a2 b2,ad a3 b3):=by
 unfold aB2 q1 q2 q3 q4 at hy
 rw [rF h.1 h.2.1,rF h.2.2 h.1,rF h.2.1 h.2.2,hO h.1,hO h.2.1,hO h.2.2] at hy
 have e:∀p:P3,(2*p.1,2*p.2.1,2*p.2.2)=ad p p:=fun p=>by unfold ad;simp only [Prod.mk.injEq];omega
 rw [e,e,e] at hy
 simp only [List.mem_cons,List.mem_nil_iff,or_false] at hy
 rcases hy with rfl | rfl | rfl | rfl
 · exact⟨c.1,c.1,c.1,c.2.1,c.2.2,c.1,by simp,by simp,by simp,by simp,by simp,by simp,rfl⟩
 · exact⟨c.1,c.2.1,c.2.1,c.2.1,c.2.1,c.2.2,by simp,by simp,by simp,by simp,by simp,by simp,rfl⟩
 · exact⟨c.2.2,c.1,c.2.1,c.2.2,c.2.2,c.2.2,by simp,by simp,by simp,by simp,by simp,by simp,rfl⟩
 · exact⟨c.1,c.2.1,c.2.1,c.2.2,c.2.2,c.1,by simp,by simp,by simp,by simp,by simp,by simp,rfl⟩
theorem in3 {c:PN} {a:P3} (h:a=c.1∨a=c.2.1∨a=c.2.2):(uW c).1≤a.1∧a.1≤(uX c).1∧(uW c).2.1≤a.2.1∧a.2.1≤(uX c).2.1∧(uW c).2.2≤a.2.2∧a.2.2≤(uX c).2.2:=by
 have l1:=iY c.1.1 c.2.1.1 c.2.2.1;have l2:=iY c.1.2.1 c.2.1.2.1 c.2.2.2.1;have l3:=iY c.1.2.2 c.2.1.2.2 c.2.2.2.2
 have m1:=iZ c.1.1 c.2.1.1 c.2.2.1;have m2:=iZ c.1.2.1 c.2.1.2.1 c.2.2.2.1;have m3:=iZ c.1.2.2 c.2.1.2.2 c.2.2.2.2
 unfold uW uX
 rcases h with rfl | rfl | rfl
 · exact⟨l1.1,m1.1,l2.1,m2.1,l3.1,m3.1⟩
 · exact⟨l1.2.1,m1.2.1,l2.2.1,m2.2.1,l3.2.1,m3.2.1⟩
 · exact⟨l1.2.2,m1.2.2,l2.2.2,m2.2.2,l3.2.2,m3.2.2⟩
theorem aFq {N n:Int} (hN:1≤N∧N≤288230376151711744)(hn:1≤n):1≤(inv N n).2∧N≤(inv N n).2*(inv N n).2*n∧((inv N n).2 - 1)*((inv N n).2 - 1)*n < N:=by
 obtain⟨k,hk,hr,k0,k1,k2,k3,k4,k5⟩:=iI (N:=N) ⟨by omega,hN.2⟩ hn
 have h:=hr.2.2
 have hm:=Int.mul_ediv_add_emod N n
 have hm1:=Int.emod_lt_of_pos N (show 0 < n by omega)
 have h2:N < (k+1)*(k+1)*n:=by
   have:=Int.mul_le_mul_of_nonneg_right (show N / n+1≤(k+1)*(k+1) by omega) (show 0≤n by omega)
   rw [Int.add_mul,Int.one_mul,Int.mul_comm (N / n) n] at this;omega
 unfold inv
 rw [hk]
 simp only
 split
 · rename_i he
   have h1:1≤k:=by
     rcases Int.lt_or_le k 1 with h | h
     · have:k=0:=by omega
       subst this;simp at he;omega
     · exact h
   refine⟨h1,by omega,?_⟩
   have e:(k - 1)*(k - 1)≤k*k - 1:=by
     have e1:(k - 1)*(k - 1)=k*k - 2*k+1:=by grind
     omega
   have e2:=Int.mul_le_mul_of_nonneg_right e (show 0≤n by omega)
   rw [show(k*k - 1)*n=k*k*n - n by rw [Int.sub_mul,Int.one_mul]] at e2;omega
 · rename_i he
   refine⟨by omega,by omega,?_⟩
   rw [show k+1 - 1=k by omega];omega
theorem aD8 {N n m:Int} (hN:1≤N∧N≤288230376151711744)(hn:1≤n)(hm:n≤m):(inv N m).2≤(inv N n).2:=by
 obtain⟨a1,a2,a3⟩:=aFq hN hn
 obtain⟨b1,b2,b3⟩:=aFq hN (show 1≤m by omega)
 rcases Int.lt_or_le (inv N n).2 (inv N m).2 with h | h
 · exfalso
   have e:=Int.mul_le_mul (Int.mul_le_mul (show(inv N n).2≤(inv N m).2 - 1 by omega) (show(inv N n).2≤(inv N m).2 - 1 by omega) (by omega) (by omega)) hm (by omega) (Int.mul_nonneg (by omega) (by omega))
   omega
 · exact h
theorem aTv (p:PN) {d:Int} (h:0≤d∧d≤3):(aQ (toNat d) p).length≤64:=by
 have h1:=lC h p;have h2:=lD d;omega
noncomputable def aWd:Code:=match (dC [1,1,1,0,1,0] [] (Try.f58.body.getD .skip)).1 with
 | .rangeFunc _ _ a b=>a
 | _=>.skip
noncomputable def aWe:Code:=match (dC [1,1,1,0,1,0] [] (Try.f58.body.getD .skip)).1 with
 | .rangeFunc _ _ a b=>b
 | _=>.skip
noncomputable def aWf:List K:=(dC [1,1,1,0,1,0] [] (Try.f58.body.getD .skip)).2
def aRi (a0:Zt×Zt×Zt)(a1:Zt×Zt×Zt)(a2:Int):List (Int×Int)→LS
 | v1=>⟨[.u,.u,.u,(.p 0 0),.u,(.p 1 0),(.p 2 0),.u,.u,(.p 3 0),.u,.u,.u,.u,.u,.u,.u,.u,.u,.u,.u,(.f 104 [(.p 4 0),(.p 5 0)]),.u,.u,.u,.u,.u,.u,.u,.u,.u,.u,.u,.u],[(.live true false (k9 a0)),(.live true false [(iv a2)]),(.live true false [(iv 0),(iv 0)]),(.live true false [(.s 6 0 v1.length 2)]),(.live true false (k9 a1)),(.live true false [(iv a2)]),(.live true true (flat eF v1))]⟩
def aTw (a0:Zt×Zt×Zt)(a1:Zt×Zt×Zt)(a2:Int):List (Int×Int)→Zt×Zt×Zt→LS
 | v1,x=>⟨[.u,.u,.u,(.p 0 0),.u,(.p 1 0),.u,.u,.u,(.p 3 0),(.p 6 0),.u,.u,.u,.u,.u,.u,.u,.u,.u,.u,.u,.u,.u,.u,.u,.u,.u,.u,.u,.u,.u,.u,.u],[(.live true false (k9 a0)),(.live true false [(iv a2)]),(.live true false [(iv 0),(iv 0)]),(.live true false [(.s 7 0 v1.length 2)]),(.live true false (k9 a1)),(.live true false [(iv a2)]),(.live true false (k9 x)),(.live true true (flat eF v1))]⟩
def aAu (a0:Zt×Zt×Zt)(a1:Zt×Zt×Zt)(a2:Int):List (Int×Int)→Zt×Zt×Zt→List (Int×Int)
 | v1,x =>
  (v1++[(F81 a0 x a2)])
def G58 (a0:Zt×Zt×Zt)(a1:Zt×Zt×Zt)(a2:Int):List (Int×Int)→(Int×Int)×Int
 | v1 =>
  ((fJ v1).1,(fJ v1).2)
def aD9 (a0:Zt×Zt×Zt)(a1:Zt×Zt×Zt)(a2:Int):Nat→List (Int×Int)→Prop
 | i,v1=>(v1.length=i)
def oC (a0:Zt×Zt×Zt)(a1:Zt×Zt×Zt)(a2:Int):(Int×Int)×Int :=
 (bif (((sU a0 a1 a2):Int) != 0) then
  ((0,0),(sU a0 a1 a2))
 else
  (G58 a0 a1 a2 ((aQ (toNat a2) a1).foldl (aAu a0 a1 a2) ([]:List (Int×Int)))))
theorem C58 (a0:Zt×Zt×Zt)(a1:Zt×Zt×Zt)(a2:Int):Con Try.prog 58 [(.a (k9 a0)),(.a (k9 a1)),(iv a2)] [] (.t [(.a (k2 (oC a0 a1 a2).1)),(iv (oC a0 a1 a2).2)]) []:=by
 cases h0:(((sU a0 a1 a2):Int) != 0) with
 | true =>
   have q0:=bne_iff_ne.1 h0
   have e:(oC a0 a1 a2)=((0,0),(sU a0 a1 a2)):=by simp only [oC,h0,aK]
   rw [e]
   refine mB (n:=9) Try.func58 rfl (ent Try.func58 (by kernel_rfl) rfl) (by show 3≤Try.f58.ntmps;decide) (by kernel_rfl) trivial (fun cx hcx=>?_)
   exact aOj (T:=T0) hT hm (f:=5000) (orc:=[.call [] (iv (sU a0 a1 a2)) [],.d true]) [] [] [] hcx
     (obs:=[.call 80 [(.a (k9 a0)),(.a (k9 a1)),(iv a2)] [] (iv (sU a0 a1 a2)) [],.eq (((sU a0 a1 a2):Int) != 0) true]) (by kernel_rfl) ⟨(C80 a0 a1 a2),h0,trivial⟩
 | false =>
   have q0:=bne_eq_false_iff_eq.1 h0
   have e:(oC a0 a1 a2)=(G58 a0 a1 a2 ((aQ (toNat a2) a1).foldl (aAu a0 a1 a2) ([]:List (Int×Int)))):=by simp only [oC,h0,aK]
   rw [e]
   refine mB (n:=9) Try.func58 rfl (ent Try.func58 (by kernel_rfl) rfl) (by show 3≤Try.f58.ntmps;decide) (by kernel_rfl) trivial (fun cx hcx=>?_)
   refine qS (T:=T0) hT hm (f:=5000) (orc:=[.call [] (iv (sU a0 a1 a2)) [],.d false,.call [] (.f 104 [(.p 0 0),(.p 1 0)]) [(.live true false (k9 a1)),(.live true false [(iv a2)])]]) [.cell 4 0 2] [3,5,6,9,21] [0,2,3,4,5,6,7] hcx (x:=.rangeFunc (.tmp 21) #[22] aWd aWe) (k':=aWf) (s':=aRi a0 a1 a2 ([]:List (Int×Int)))
     (obs:=[.call 80 [(.a (k9 a0)),(.a (k9 a1)),(iv a2)] [] (iv (sU a0 a1 a2)) [],.eq (((sU a0 a1 a2):Int) != 0) false,.call 83 [(.a (k9 a1)),(iv a2)] [] (.f 104 [(.p 0 0),(.p 1 0)]) [(.live true false (k9 a1)),(.live true false [(iv a2)])]]) (by kernel_rfl) ⟨(C80 a0 a1 a2),h0,(C83 a1 a2),trivial⟩ ?_
   refine aD1 (xs:=aQ (toNat a2) a1) (enc:=zN) (V:=List (Int×Int)) (R':=Empty) hcx rfl (by decide) [4,5] [(.p 0 0),(.p 1 0)] [(.live false false (k9 a1)),(.live false false [(iv a2)])] rfl rfl (aAp a1 a2 (by first | omega | exact pair_le h0)) (fun x=>SV.a (cP x)) xC aKd 6 (Nb rfl) (cY (by kernel_rfl))
     (aRi a0 a1 a2) ([]:List (Int×Int)) rfl (fun v1=>(by kernel_rfl)) (by kernel_rfl) (fun v v'=>(bV (bV (bV (bV (bV (bV (bV aAk)))))))) (fun v1=>(by kernel_rfl)) (fun v1=>(by kernel_rfl)) (fun v1=>(Nat.le_of_ble_eq_true (by kernel_rfl)))
     (fun v x=>.inl (aAu a0 a1 a2 v x)) (fun r=>r.elim) (fun v r=>r.elim) (fun r=>r.elim)
     (aD9 a0 a1 a2) (by simp [aD9]) (aTw a0 a1 a2) (fun v1 x=>(by kernel_rfl)) (fun v1 x=>(by kernel_rfl)) (fun v1 x=>(Nat.le_of_ble_eq_true (by kernel_rfl)))
     (fun cx' l i v1 x QA hcx' hx hinv hg=>qT (T:=T0) hT hm (f:=5000) (orc:=[]) [] [3,5,9,10] [7,6] hcx' (obs:=[]) (by kernel_rfl) trivial hg)
     (fun cx' l i v1 x QB hcx' hx hinv hb1 hb2=>?_) (fun cx' d v1 hh hv hinv=>?_) (fun cx' d r hh hv=>?_)
   · show Aw.Good _ _ _ _ _ _ _ (aTw a0 a1 a2 v1 x)
     simp only [aD9] at hinv
     have ha:=pair_le h0
     have hlt:=aQ0 ha hx
     have e:(Sum.inl (aAu a0 a1 a2 v1 x):(List (Int×Int))⊕Empty)=.inl (v1++[(F81 a0 x a2)]):=by simp only [aAu]
     refine qT (T:=T0) hT hm (f:=5000) (orc:=[.call [] (.a (k2 (F81 a0 x a2))) []]) [] [] [9] hcx' (s':=⟨List.replicate 34 .u,[(.live true false (k9 a0)),(.live true false [(iv a2)]),(.live true false [(iv 0),(iv 0)]),(.live true false [(.s 6 0 (v1.length+1) 2)]),(.live true false (k9 a1)),(.live true false [(iv a2)]),(.live true true (flat eF v1++(k2 (F81 a0 x a2))))]⟩)
       (obs:=[.call 81 [(.a (k9 a0)),(.a (k9 x)),(iv a2)] [] (.a (k2 (F81 a0 x a2))) [],.pr ((flat eF v1).length=v1.length*2∧v1.length+1≤2 ^ 40∧(v1.length+1)*16≤2 ^ 47)]) (by kernel_rfl) ⟨(C81 a0 x a2  (aHk h0) (pair_le h0)),(show((flat eF v1).length=v1.length*2∧v1.length+1≤2 ^ 40∧(v1.length+1)*16≤2 ^ 47) from fX dJ (by omega) (by omega)),trivial⟩ ?_
     have z0:(flat eF v1++(k2 (F81 a0 x a2)))=(flat eF (v1++[(F81 a0 x a2)])):=(bM (c:=eF) (l:=v1) (m:=[(F81 a0 x a2)])).symm
     have z1:(v1.length+1)=(v1++[(F81 a0 x a2)]).length:=eZ v1 [(F81 a0 x a2)] rfl
     rw [z0,z1]
     exact hb1 _ e (by simp only [aD9,List.length_append,List.length_cons,List.length_nil];omega)
   · rw [pG,Sum.inl.injEq] at hv;rw [hv]
     show Aw.Good _ _ _ _ _ _ _ (aRi a0 a1 a2 v1)
     simp only [aD9] at hinv
     have hcl:=aTv a1 (pair_le h0)
     have e:G58 a0 a1 a2 v1=((fJ v1).1,(fJ v1).2):=by simp only [G58]
     rw [e]
     exact aHf (T:=T0) hT hm (f:=5000) (orc:=[.call [6] (.t [(.a (k2 (fJ v1).1)),(iv (fJ v1).2)]) []]) [] [] [] hh hcx
       (obs:=[.call 84 [(.s 0 0 v1.length 2)] [(.live false true (flat eF v1))] (.t [(.a (k2 (fJ v1).1)),(iv (fJ v1).2)]) []]) (by kernel_rfl) ⟨(aTa v1 (by omega)),trivial⟩
   · exact r.elim
def jA:List (Int×Int)→Int×Int→Int×Int
 | [],v=>v
 | a::l,v=>jA l (v.1+a.1,v.2+a.2)
theorem nL:∀(l:List (Int×Int))(v:Int×Int),jA l v=(v.1+(l.map (·.1)).sum,v.2+(l.map (·.2)).sum)
 | [],v=>by simp [jA]
 | a::l,v=>by rw [jA,nL l];simp only [List.map_cons,List.sum_cons,Int.add_assoc]
def okE (a:Int×Int):Prop:=0≤a.1∧a.1≤a.2∧a.2≤536870913
theorem aHp:∀{l:List (Int×Int)} {v:Int×Int},(∀a∈l,okE a)→zQ v l.length→zQ (jA l v) 0
 | [],v,_,h=>h
 | a::l,v,hl,h=>aHp (l:=l) (fun c hc=>hl c (List.mem_cons_of_mem _ hc)) (vP h (hl a List.mem_cons_self))
theorem xS {R:Type} [Inhabited R] {S:Zt→Zt⊕R} {G:Int×Int→R} {L:List (Int×Int)} (hl:∀a∈L,okE a)
   (hS:∀(i:Nat) (a:Int×Int),L[i]? = some a→∀v1 v2:Int,S (v1,v2,(i:Int))=.inl (W (v1+a.1),W (v2+a.2),((i+1:Nat):Int)))
   (hE:∀v1 v2:Int,S (v1,v2,(L.length:Int))=.inr (G (v1,v2))) :
   ∀(l:List (Int×Int)) (i n:Nat) (v:Int×Int),L.drop i=l→i≤L.length→l.length < n→zQ v l.length→aC S n (v.1,v.2,(i:Int))=G (jA l v)
 | [],i,n,v,hd,hi',hn,h=>by
   have:i=L.length:=by have:=List.drop_eq_nil_iff.1 hd;omega
   obtain⟨n,rfl⟩:∃m,n=m+1:=⟨n - 1,by simp only [List.length_nil] at hn;omega⟩
   subst this
   rw [bU (hE _ _)];rfl
 | c::l,i,n,v,hd,hi',hn,h=>by
   have hc:L[i]? = some c:=by
     have:(L.drop i)[0]? = some c:=by rw [hd];rfl
     simpa using this
   obtain⟨hlt,hce⟩:=List.getElem?_eq_some_iff.1 hc
   obtain⟨n,rfl⟩:∃m,n=m+1:=⟨n - 1,by omega⟩
   have h1:=vP h (hl c (hce▸List.getElem_mem hlt))
   have h2:=h1
   unfold zQ at h2;simp only at h2
   rw [aA (hS i c hc v.1 v.2),aE (by omega) (by omega),aE (by omega) (by omega)]
   exact xS hl hS hE l (i+1) n _ (by rw [←List.drop_drop,hd];rfl) (by omega) (by simp only [List.length_cons] at hn;omega) h1
section
variable {l : List (Int × Int)}
theorem aOs {a:Int×Int} (h:okE a):sD a=true:=aAt (a:=a.1) (b:=a.2) (by have:=h.1;omega) h.2.1 (by have:=h.2.2;omega)
theorem aHq (hn:l.length≤64):zQ (0,0) l.length:=by unfold zQ;simp only;omega
theorem aWg (hl:∀a∈l,okE a):oK l=0:=by
 have key:∀(m:List (Int×Int)) (i n:Nat),l.drop i=m→i≤l.length→m.length < n→aC (dK l) n (i:Int)=0:=by
   intro m
   induction m with
   | nil =>
     intro i n hd hi hn
     have:i=l.length:=by have:=List.drop_eq_nil_iff.1 hd;omega
     obtain⟨n,rfl⟩:∃m,n=m+1:=⟨n - 1,by simp only [List.length_nil] at hn;omega⟩
     subst this
     refine bU ?_
     simp only [dK]
     rw [fN (Int.lt_irrefl _),cond_false]
   | cons c m ih =>
     intro i n hd hi hn
     have hc:l[i]? = some c:=by
       have:(l.drop i)[0]? = some c:=by rw [hd];rfl
       simpa using this
     obtain⟨hlt,hce⟩:=List.getElem?_eq_some_iff.1 hc
     obtain⟨n,rfl⟩:∃m,n=m+1:=⟨n - 1,by omega⟩
     have hg:l.getD i default=c:=by rw [eG,hc];rfl
     have e:dK l (i:Int)=.inl ((i+1:Nat):Int):=by
       simp only [dK]
       rw [eK (show((i:Nat):Int) < (l.length:Nat) by omega),cond_true,itn,hg,aOs (hl c (hce▸List.getElem_mem hlt))];rfl
     rw [aA e]
     exact ih (i+1) n (by rw [←List.drop_drop,hd];rfl) (by omega) (by simp only [List.length_cons] at hn;omega)
 unfold oK
 exact key l 0 _ rfl (Nat.zero_le _) (by omega)
theorem aTx (hl:∀a∈l,okE a)(hn:l.length≤64):bK l=((jA l (0,0)).1,(jA l (0,0)).2,0):=by
 unfold bK
 rw [fN (by omega),cond_false,aWg hl]
 show aC _ _ (((0,0):Int×Int).1,((0,0):Int×Int).2,((0:Nat):Int))=_
 refine xS (G:=fun v=>(v.1,v.2,0)) hl (fun i a hi v1 v2=>?_) (fun v1 v2=>?_) l 0 _ (0,0) rfl (Nat.zero_le _) (by omega) (aHq hn)
 · obtain⟨hlt,hce⟩:=List.getElem?_eq_some_iff.1 hi
   have hg:l.getD i default=a:=by rw [eG,hi];rfl
   simp only [eV]
   rw [eK (show((i:Nat):Int) < (l.length:Nat) by omega),cond_true,itn,hg];rfl
 · simp only [eV]
   rw [fN (Int.lt_irrefl _),cond_false]
theorem aRj {v:Int×Int} {n:Int} (hn:n=1∨n=4∨n=16∨n=64)(h:zQ v 0):-1099511627776≤v.1 / n∧v.1 / n≤-(-v.2 / n)∧-(-v.2 / n)≤1099511627776:=by
 unfold zQ at h;rcases hn with rfl | rfl | rfl | rfl<;>omega
theorem aOt (hl:∀a∈l,okE a) {n:Int} (hn:n=1∨n=4∨n=16∨n=64)(hk:(l.length:Int)=n):fJ l=(avg (jA l (0,0)) n,0):=by
 have h64:l.length≤64:=by omega
 have ho:=aHp hl (aHq h64)
 have hb:=aRj hn ho
 unfold zQ at ho
 unfold fJ
 rw [aTx hl h64,hk,beq_eq_false_iff_ne.2 (show n≠0 by omega),aRg hn (by simp only;omega),aTo hn (by simp only;omega),rH hb.1 hb.2.1 hb.2.2];rfl
end
theorem rK (lo hi:PN→Int):∀(l:List PN)(v:Int×Int),aB6 lo hi l v=(v.1+(l.map lo).sum,v.2+(l.map hi).sum)
 | [],v=>by simp [aB6]
 | a::l,v=>by rw [aB6,rK lo hi l];simp only [List.map_cons,List.sum_cons,Int.add_assoc]
theorem aK1 {p q:PN} {d:Int} (hp:vp p=0)(hd:0≤d∧d≤3):okE (fK p q d):=by
 have hb:=aTu (q:=q) hp hd
 have hk:=aP9 (p:=p) hd
 have ho:=aB7 hb hk
 have hs:(aB6 (pM d q) (oM (eD p d) d q) (aQ d.toNat p) (0,0)).2≤536870913*(sc d*sc d):=by
   rw [rK,←lC hd p]
   simp only [Int.zero_add]
   have key:∀l:List PN,(∀c∈l,oM (eD p d) d q c≤536870913)→(l.map (oM (eD p d) d q)).sum≤536870913*(l.length:Nat):=by
     intro l
     induction l with
     | nil=>intro _;simp
     | cons c l ih =>
       intro h
       have h1:=h c List.mem_cons_self;have h2:=ih (fun c hc=>h c (List.mem_cons_of_mem _ hc))
       simp only [List.map_cons,List.sum_cons,List.length_cons];omega
   exact key _ (fun c hc=>(hb c hc).2.2)
 unfold fK okE avg
 unfold zQ at ho
 have hn:=lD d
 generalize aB6 (pM d q) (oM (eD p d) d q) (aQ d.toNat p) (0,0)=v at *
 simp only
 rcases hn with h | h | h | h<;>rw [h] at hs ⊢<;>omega
theorem aAv {α β:Type} (g:α→β):∀(l:List α)(a:List β),l.foldl (fun v x=>v++[g x]) a=a++l.map g
 | [],a=>by simp
 | x::l,a=>by rw [List.foldl_cons,aAv g l];simp
noncomputable def pN (p q:PN)(d:Int):List (Int×Int):=(aQ d.toNat q).map fun b=>fK p b d
noncomputable def aFr (p q:PN)(d:Int):(Int×Int)×Int:=if pk p q d=0 then(avg (jA (pN p q d) (0,0)) (sc d*sc d),0) else((0,0),pk p q d)
theorem aOu {p q:PN} {d:Int} (hp:vp p=0)(hd:0≤d∧d≤3):∀a∈pN p q d,okE a:=by
 intro a ha
 obtain⟨b,_,rfl⟩:=List.mem_map.1 ha
 exact aK1 hp hd
theorem aEa {p q:PN} {d:Int} (hd:0≤d∧d≤3):(((pN p q d).length:Nat):Int)=sc d*sc d:=by
 unfold pN;rw [List.length_map];exact lC hd q
theorem aEb (p q:PN)(d:Int):oC p q d=aFr p q d:=by
 unfold oC aFr
 rw [aB5]
 by_cases h:pk p q d=0
 · obtain⟨h1,h2,h3⟩:=aD5 h
   have hd:0≤d∧d≤3:=by omega
   rw [if_pos h,h]
   have e:(aQ d.toNat q).foldl (aAu p q d) []=pN p q d:=by
     have:=aAv (fun b=>F81 p b d) (aQ d.toNat q) []
     rw [List.nil_append] at this
     refine Eq.trans this ?_
     unfold pN
     exact List.map_congr_left (fun b hb=>aQa h1 ((rJ (gY h2).1 hd hb).mono (by omega)) hd)
   rw [e]
   show(fJ (pN p q d))=_
   exact aOt (aOu h1 hd) (lD d) (aEa hd)
 · rw [if_neg h,bne_iff_ne.2 h,cond_true]
end Go.Proofs.Ytaeagjnpobdglaa
namespace Go.Proofs.Ytaeagjnpobdglaa
open Go.Proofs Go.Aw Go.RowKit
set_option maxRecDepth 100000
abbrev PU:=PN×Int×Int
noncomputable def pv (p:PU):Int:=if vp p.1=0 then(if(0≤p.2.1∧p.2.1≤1000)∧(-100≤p.2.2∧p.2.2≤100) then 0 else 1) else vp p.1
section
variable {n s t : Int}
end
end Go.Proofs.Ytaeagjnpobdglaa
namespace Go.Proofs.Ytaeagjnpobdglaa
open Go.Proofs Go.Aw Go.RowKit
set_option maxRecDepth 100000
def shs {α β:Type} (g:α→β×Int):List α→List β→List β⊕Int
 | [],l=>.inl l
 | c::m,l=>if(g c).2=0 then shs g m (l++[(g c).1]) else .inr (g c).2
def zR {β R:Type} (G:List β→R)(E:Int→R):List β⊕Int→R
 | .inl m=>G m
 | .inr e=>E e
theorem sX {α β R:Type} [Inhabited R] {g:α→β×Int} {S:List β×Int→(List β×Int)⊕R} {G:List β→R} {E:Int→R} {L:List α}
   (hS:∀(i:Nat) (c:α),L[i]? = some c→∀l:List β,S (l,(i:Int))=bif ((g c).2 != 0) then .inr (E (g c).2) else .inl (l++[(g c).1],((i+1:Nat):Int)))
   (hE:∀l:List β,S (l,(L.length:Int))=.inr (G l)) :
   ∀(k:List α) (i n:Nat) (l:List β),L.drop i=k→i≤L.length→k.length < n→aC S n (l,(i:Int))=zR G E (shs g k l)
 | [],i,n,l,hd,hi',hn=>by
   have:i=L.length:=by have:=List.drop_eq_nil_iff.1 hd;omega
   obtain⟨n,rfl⟩:∃m,n=m+1:=⟨n - 1,by simp only [List.length_nil] at hn;omega⟩
   subst this
   rw [bU (hE _)];rfl
 | c::k,i,n,l,hd,hi',hn=>by
   have hc:L[i]? = some c:=by
     have:(L.drop i)[0]? = some c:=by rw [hd];rfl
     simpa using this
   obtain⟨hlt,hce⟩:=List.getElem?_eq_some_iff.1 hc
   obtain⟨n,rfl⟩:∃m,n=m+1:=⟨n - 1,by omega⟩
   have h1:=hS i c hc l
   unfold shs
   by_cases h:(g c).2=0
   · rw [h] at h1
     rw [aA h1,if_pos h]
     exact sX hS hE k (i+1) n _ (by rw [←List.drop_drop,hd];rfl) (by omega) (by simp only [List.length_cons] at hn;omega)
   · rw [bne_iff_ne.2 h,cond_true] at h1
     rw [bU h1,if_neg h];rfl
theorem lE {α β:Type} {g:α→β×Int}:∀{k:List α} {l m:List β},shs g k l=.inl m→m=l++k.map (fun c=>(g c).1)∧∀c∈k,(g c).2=0
 | [],l,m,h=>by simp only [shs] at h;cases h;simp
 | c::k,l,m,h=>by
   unfold shs at h
   split at h
   · rename_i h0
     obtain⟨h1,h2⟩:=lE h
     refine⟨by rw [h1];simp,fun x hx=>?_⟩
     rcases List.mem_cons.1 hx with rfl | hx
     · exact h0
     · exact h2 x hx
   · cases h
open Go.ChangeShapes Go.WideShapes Go.ChangeAt
section
variable {H : Type} {enc : TypeId × Value → H} {P : Program} {w : World}
def rL (w:World)(es:Nat)(v:Value)(nss:List (List Int)):Prop :=
 (∀ns∈nss,ns.length=es)∧nss.length≤9223372036854775807 ∧
 ((v=.slice none 0 0∧nss=[])∨∃b o cap,v=.slice (some ⟨b,o,none⟩) nss.length cap∧nss.length≤cap∧∀(i:Nat) (x:Value),((nss.flatten).map (Value.int .i64))[i]? = some x→w.cell? ⟨b,o+i,none⟩=some x)
theorem xT {es b:Nat}:∀(nss:List (List Int))(o:Nat),(∀(j:Nat)(ns:List Int),nss[j]? = some ns→ns.length=es∧∀(q:Nat)(x:Value),(ns.map (Value.int .i64))[q]? = some x→w.cell? ⟨b,o+j*es+q,none⟩=some x) →
   ∀(i:Nat) (x:Value),((nss.flatten).map (Value.int .i64))[i]? = some x→w.cell? ⟨b,o+i,none⟩=some x
 | [],o,_,i,x,hi=>by simp at hi
 | ns::l,o,h,i,x,hi=>by
   obtain⟨h1,h2⟩:=h 0 ns rfl
   rw [List.flatten_cons,List.map_append] at hi
   by_cases hlt:i < ns.length
   · rw [List.getElem?_append_left (by simpa using hlt)] at hi
     have:=h2 i x hi
     simpa using this
   · rw [List.getElem?_append_right (by simpa using hlt)] at hi
     have:=xT l (o+es) (fun j ms hj=>⟨(h (j+1) ms hj).1,fun q y hq=>by
       have:=(h (j+1) ms hj).2 q y hq
       rw [show o+es+j*es+q=o+(j+1)*es+q by rw [Nat.add_mul];omega];exact this⟩) (i - es) x (by simpa [h1] using hi)
     rw [show o+es+(i - es)=o+i by omega] at this;exact this
def rho (es:Nat):Value→Option (Nat×Nat×Nat)
 | .slice (some a) _ cap=>some (a.block,a.off,cap*es)
 | _=>none
theorem sY {es:Nat} {v:Value} {nss:List (List Int)} {ρ:Env} {k:Nat} (h:rL w es v nss)(hk:ρ k=rho es v):Rel ρ (.s k 0 nss.length es) v:=by
 obtain⟨h1,h2,⟨rfl,rfl⟩ | ⟨b,o,cap,rfl,h3,h4⟩⟩:=h
 · simp only [Rel];exact .inl ⟨hk,rfl,trivial⟩
 · simp only [Rel];exact .inr ⟨b,o,cap*es,cap,0,none,hk,rfl,h3,by omega,fun _=>⟨rfl,rfl⟩⟩
theorem uK {es:Nat}:∀{nss:List (List Int)},(∀ns∈nss,ns.length=es)→nss.flatten.length=nss.length*es
 | [],_=>by simp
 | ns::l,h=>by
   rw [List.flatten_cons,List.length_append,uK (fun m hm=>h m (List.mem_cons_of_mem _ hm)),h ns List.mem_cons_self,List.length_cons,Nat.add_mul];omega
theorem aFs {es:Nat} {v:Value} {nss:List (List Int)} {ρ:Env} {k:Nat} {M:Nat→Prop} (h:rL w es v nss)(hk:ρ k=rho es v)(hM:∀b,M b→w.heap.size≤b):BRep ρ M w k (.live false true ((nss.flatten).map iv)):=by
 obtain⟨h1,h2,⟨rfl,rfl⟩ | ⟨b,o,cap,rfl,h3,h4⟩⟩:=h
 · exact .inl ⟨hk,rfl⟩
 · have hlen:=uK h1
   refine .inr ⟨b,o,cap*es,(nss.flatten).map (Value.int .i64),hk,⟨?_,fun hne hm=>?_⟩,aHl _,h4⟩
   · rw [List.length_map,hlen];exact Nat.mul_le_mul_right _ h3
   · have hb:=hM b hm
     obtain⟨x,hx⟩:=List.exists_mem_of_ne_nil _ hne
     obtain⟨i,hi⟩:=List.getElem?_of_mem hx
     have:=World.block_lt_of_cell? w ⟨b,o+i,none⟩ (h4 i x hi)
     exact absurd this (Nat.not_lt_of_le hb)
theorem vQ {α:Type} {c:α→List SV} {f:List Int→α} {es:Nat} (hc:∀ns:List Int,ns.length=es→c (f ns)=ns.map iv):∀{nss:List (List Int)},(∀ns∈nss,ns.length=es)→flat c (nss.map f)=(nss.flatten).map iv
 | [],_=>rfl
 | ns::l,h=>by
   have:=vQ hc (nss:=l) (fun m hm=>h m (List.mem_cons_of_mem _ hm))
   unfold flat at *
   rw [List.map_cons,List.flatMap_cons,this,hc ns (h ns List.mem_cons_self),List.flatten_cons,List.map_append]
end
theorem aAw:∀ns:List Int,Plain (ns.map iv)
 | []=>fun k hk=>by simp [SV.hasl] at hk
 | n::l=>fun k hk=>by
   simp only [List.map_cons,SV.hasl] at hk
   rcases hk with hk | hk
   · simp [iv,SV.has] at hk
   · exact aAw l k hk
theorem aFt {P:Program} {f:Nat} {args:List SV} {vs:List Value} {x:Value} {bs:List BK} (hc:Con P f args bs (.v x) []) (ρ:Env) {W:World} (hr:Rels ρ args vs)(hown:∀i,¬(bs.getD i .un).own)
   (hb:(∀b,(dZ ρ W bs).mine b→W.heap.size≤b)→∀i,BRep ρ (dZ ρ W bs).mine W i (bs.getD i .un)) (hpl:∀i,(bs.getD i .un).pl) (hnf:∀b,ρ.fz b=none) :
   Calls P f vs.toArray W fun e W'=>e=.returned x∧Below W.heap.size W W':=by
 have hM:∀b,(dZ ρ W bs).mine b→W.heap.size≤b:=by
   rintro b (h | ⟨i,n,hi,_⟩)
   · exact h
   · exact absurd hi (hown i)
 refine(hc.2 ρ W vs hr (hb hM) hpl (fun i j b n b' n' _ h=>absurd h (hown i)) (fun b o h=>by rw [hnf b] at h;cases h)).mono fun e W' h=>?_
 obtain⟨ρ',v,rfl,_,hv,hk,_⟩:=h
 refine⟨by rw [show v=x from hv],hk.os,hk.tape,hk.output,hk.size,fun k hk'=>hk.block k hk' ?_⟩
 rintro ⟨i,n,hi,_⟩
 exact hown i hi
end Go.Proofs.Ytaeagjnpobdglaa
namespace Go.Proofs.Ytaeagjnpobdglaa
open Go.Proofs Go.Aw Go.RowKit
set_option maxRecDepth 100000
theorem aAx {α:Type} {c:α→List SV} {es:Nat} (hc:∀x,(c x).length=es)(l:List α):(flat c l).length=l.length*es:=lZ hc l
def okw (v:Int×Int)(n:Nat):Prop:=(-4611686018427387904+1099511627776*n≤v.1∧v.1+1099511627776*n≤4611686018427387904)∧(-4611686018427387904+1099511627776*n≤v.2∧v.2+1099511627776*n≤4611686018427387904)
theorem aK2 {v a:Int×Int} {n:Nat} (h:okw v (n+1))(ha:vs a):okw (v.1+a.1,v.2+a.2) n:=by unfold okw vs at *;simp only;omega
theorem aTy {v:Int×Int} {n:Nat} (h:okw v n):W v.1=v.1∧W v.2=v.2:=by unfold okw at h;exact⟨aE (by omega) (by omega),aE (by omega) (by omega)⟩
theorem aTz {n:Nat} (h:n≤10000):okw (0,0) n:=by unfold okw;simp only;omega
theorem aFu {R:Type} [Inhabited R] {S:Zt→Zt⊕R} {G:Int×Int→R} {L:List (Int×Int)} (hl:∀a∈L,vs a)
   (hS:∀(i:Nat) (a:Int×Int),L[i]? = some a→∀v1 v2:Int,S (v1,v2,(i:Int))=.inl (W (v1+a.1),W (v2+a.2),((i+1:Nat):Int)))
   (hE:∀v1 v2:Int,S (v1,v2,(L.length:Int))=.inr (G (v1,v2))) :
   ∀(l:List (Int×Int)) (i n:Nat) (v:Int×Int),L.drop i=l→i≤L.length→l.length < n→okw v l.length→aC S n (v.1,v.2,(i:Int))=G (jA l v):=by
 intro l
 induction l with
 | nil =>
   intro i n v hd hi' hn h
   have:i=L.length:=by have:=List.drop_eq_nil_iff.1 hd;omega
   obtain⟨n,rfl⟩:∃m,n=m+1:=⟨n - 1,by simp only [List.length_nil] at hn;omega⟩
   subst this
   rw [bU (hE _ _)];rfl
 | cons c l ih =>
   intro i n v hd hi' hn h
   have hc:L[i]? = some c:=by
     have:(L.drop i)[0]? = some c:=by rw [hd];rfl
     simpa using this
   obtain⟨hlt,hce⟩:=List.getElem?_eq_some_iff.1 hc
   obtain⟨n,rfl⟩:∃m,n=m+1:=⟨n - 1,by omega⟩
   have h1:okw (v.1+c.1,v.2+c.2) l.length:=aK2 h (hl c (hce▸List.getElem_mem hlt))
   have hw:=aTy h1
   simp only at hw
   rw [aA (hS i c hc v.1 v.2),hw.1,hw.2]
   exact ih (i+1) n (v.1+c.1,v.2+c.2) (by rw [←List.drop_drop,hd];rfl) (by omega) (by simp only [List.length_cons] at hn;omega) h1
section
variable {l : List (Int × Int)}
theorem aRk {a:Int×Int} (h:vs a):sD a=true:=aAt (a:=a.1) (b:=a.2) h.1 h.2.1 h.2.2
theorem aWh (hl:∀a∈l,vs a):oK l=0:=by
 have key:∀(m:List (Int×Int)) (i n:Nat),l.drop i=m→i≤l.length→m.length < n→aC (dK l) n (i:Int)=0:=by
   intro m
   induction m with
   | nil =>
     intro i n hd hi hn
     have:i=l.length:=by have:=List.drop_eq_nil_iff.1 hd;omega
     obtain⟨n,rfl⟩:∃m,n=m+1:=⟨n - 1,by simp only [List.length_nil] at hn;omega⟩
     subst this
     refine bU ?_
     simp only [dK]
     rw [fN (Int.lt_irrefl _),cond_false]
   | cons c m ih =>
     intro i n hd hi hn
     have hc:l[i]? = some c:=by
       have:(l.drop i)[0]? = some c:=by rw [hd];rfl
       simpa using this
     obtain⟨hlt,hce⟩:=List.getElem?_eq_some_iff.1 hc
     obtain⟨n,rfl⟩:∃m,n=m+1:=⟨n - 1,by omega⟩
     have hg:l.getD i default=c:=by rw [eG,hc];rfl
     have e:dK l (i:Int)=.inl ((i+1:Nat):Int):=by
       simp only [dK]
       rw [eK (show((i:Nat):Int) < (l.length:Nat) by omega),cond_true,itn,hg,aRk (hl c (hce▸List.getElem_mem hlt))];rfl
     rw [aA e]
     exact ih (i+1) n (by rw [←List.drop_drop,hd];rfl) (by omega) (by simp only [List.length_cons] at hn;omega)
 unfold oK
 exact key l 0 _ rfl (Nat.zero_le _) (by omega)
theorem aRl (hl:∀a∈l,vs a)(hn:l.length≤10000):bK l=((jA l (0,0)).1,(jA l (0,0)).2,0):=by
 unfold bK
 rw [fN (by omega),cond_false,aWh hl]
 show aC _ _ (((0,0):Int×Int).1,((0,0):Int×Int).2,((0:Nat):Int))=_
 refine aFu (G:=fun v=>(v.1,v.2,0)) hl (fun i a hi v1 v2=>?_) (fun v1 v2=>?_) l 0 _ (0,0) rfl (Nat.zero_le _) (by omega) (aTz hn)
 · obtain⟨hlt,hce⟩:=List.getElem?_eq_some_iff.1 hi
   have hg:l.getD i default=a:=by rw [eG,hi];rfl
   simp only [eV]
   rw [eK (show((i:Nat):Int) < (l.length:Nat) by omega),cond_true,itn,hg];rfl
 · simp only [eV]
   rw [fN (Int.lt_irrefl _),cond_false]
noncomputable def aK3 (l:List (Int×Int)):(Int×Int)×Int:=oA (jA l (0,0)).1 (jA l (0,0)).2
theorem aT0 (hl:∀a∈l,vs a)(hn:l.length≤10000):gV l=aK3 l:=by
 unfold gV
 rw [aRl hl hn];rfl
end
theorem aK4 {l:List (Int×Int)} (h:(aK3 l).2=0):aK3 l=(jA l (0,0),0)∧vs (jA l (0,0)):=by
 unfold aK3 at *
 rcases nK (jA l (0,0)).1 (jA l (0,0)).2 with⟨h1,h2⟩ | h1
 · exact⟨h1,h2⟩
 · rw [h1] at h;exact absurd h (by decide)
theorem aK5 {a:Int×Int} {n:Int} (h:(jE a n).2=0):vs (jE a n).1:=by
 have h0:=h
 unfold jE at h0
 cases h1:((gP a:Int) != 0) with
 | true=>rw [h1,cond_true] at h0;exact absurd h0 (bne_iff_ne.1 h1)
 | false =>
   rw [h1,cond_false] at h0
   cases h2:(!(F41 n)) with
   | true=>rw [h2,cond_true] at h0;exact absurd h0 (by decide)
   | false =>
     obtain⟨x,y,e⟩:∃x y,jE a n=oA x y:=⟨_,_,by unfold jE;rw [h1,cond_false,h2,cond_false]⟩
     rw [e] at h ⊢
     rcases nK x y with⟨e1,e2⟩ | e1
     · rw [e1];exact e2
     · rw [e1] at h;exact absurd h (by decide)
theorem rM {α β:Type} {g:α→β×Int}:∀{k:List α} {l:List β} {e:Int},shs g k l=.inr e→e≠0
 | [],l,e,h=>by simp only [shs] at h;cases h
 | c::k,l,e,h=>by
   unfold shs at h
   split at h
   · exact rM h
   · rename_i h0;cases h;exact h0
end Go.Proofs.Ytaeagjnpobdglaa
namespace Go.Proofs.Ytaeagjnpobdglaa
open Go.Proofs Go.Aw Go.RowKit
set_option maxRecDepth 100000
theorem dL {α:Type} {c:α→List SV} {es:Nat} (hc:∀x,(c x).length=es) {L:List α} {i o:Nat} {xs:List SV} {d y:α} (hi:i < L.length)(ho:o+xs.length≤es)(hy:c y=splice (c (L.getD i d)) o xs) :
   splice (flat c L) (0+i*es+o) xs=flat c (L.set i y):=by
 induction L generalizing i with
 | nil=>simp at hi
 | cons x L ih =>
   cases i with
   | zero =>
     have hy':c y=splice (c x) o xs:=hy
     have hx:=hc x
     simp only [flat,List.flatMap_cons,List.set_cons_zero,hy']
     unfold splice
     simp only [Nat.zero_mul,Nat.zero_add]
     rw [List.take_append_of_le_length (by omega),List.drop_append_of_le_length (by omega)]
     simp [List.append_assoc]
   | succ i =>
     have h:=ih (i:=i) (by simpa using hi) hy
     have hx:=hc x
     simp only [flat,List.flatMap_cons,List.set_cons_succ] at h ⊢
     rw [←h]
     unfold splice
     have e1:0+(i+1)*es+o=(c x).length+(0+i*es+o):=by rw [hx,Nat.add_mul];omega
     rw [e1,List.take_length_add_append,show(c x).length+(0+i*es+o)+xs.length=(c x).length+(0+i*es+o+xs.length) by omega,List.drop_length_add_append]
     simp [List.append_assoc]
theorem gB {α:Type} {c:α→List SV} {es:Nat} (hc:∀x,(c x).length=es) {L:List α} {i o n:Nat} (hi:i < L.length)(ho:o+n≤es):0+i*es+o+n≤(flat c L).length:=by
 rw [lZ hc]
 have:=Nat.mul_le_mul_right es (show i+1≤L.length by omega)
 rw [Nat.add_mul] at this
 omega
open Go.ChangeShapes Go.WideShapes Go.ChangeAt
inductive CK where
 | i | b | s (es:Nat)
deriving DecidableEq
def sZ (P:Program):Nat→TypeId→Option (List CK)
 | 0,_=>none
 | k+1,t=>match P.underlying t with
   | some (.int .i64)=>some [.i]
   | some .bool=>some [.b]
   | some (.slice e)=>bif uI P 6 e then some [.s (P.cellsOf e)] else none
   | some (.struct fs)=>fs.toList.foldr (fun f r o=>bif f.offset == o then match sZ P k f.type with
       | some a=>bif a.length == P.cellsOf f.type then(r (o+P.cellsOf f.type)).map (a++·) else none
       | none=>none else none) (fun o=>bif o == P.cellsOf t then some [] else none) 0
   | _=>none
section
variable {H : Type} {enc : TypeId × Value → H} {P : Program} {w : World}
theorem aFv {e:TypeId} {t:TypeId} {v:Value} {fuel:Nat} {x:DataW H×List MemPlace} (ht:P.underlying t=some (.slice e))(hf:uI P 6 e=true)
   (hsp:∀a len cap,v=.slice (some a) len cap→a.spot=none) (hx:DataW.trod enc P w 0 (fun _=>true) true fuel t [v]=some x):∃nss,rL w (P.cellsOf e) v nss:=by
 rcases Go.Deep.open_slice ht hx with⟨hc,_⟩ | ⟨a',len',cap',m,n,D,Pl,hc,hb,hl,hm,hmm,_,hall⟩
 · simp only [List.cons.injEq,and_true] at hc
   exact⟨[],fun ns h=>by simp at h,by simp,.inl ⟨hc,rfl⟩⟩
 · simp only [List.cons.injEq,and_true] at hc
   subst hc
   have hsp:=hsp a' len' cap' rfl
   obtain⟨b,o,sp⟩:=a'
   simp only at hsp
   subst hsp
   simp only [if_true] at hmm
   obtain⟨N,hN⟩:=Go.Deep.choose_lt (α:=List Int) (p:=fun i ns=>ns.length=P.cellsOf e∧∀(q:Nat) (x:Value),(ns.map (Value.int .i64))[q]? = some x→w.cell? ⟨b,o+i*P.cellsOf e+q,none⟩=some x) (n:=len') (fun i hi=>by
     obtain⟨cs',h1,h2⟩:=hall i (by omega)
     obtain⟨_,ns,rfl⟩:=sW 6 e n cs' _ hf h2
     obtain⟨_,hlen,hcell⟩:=World.cells?_some h1
     refine⟨ns,by simpa using hlen,fun q x hq=>?_⟩
     have hq':=(List.getElem?_eq_some_iff.1 hq).1
     have:=hcell q (by rw [←hlen];omega)
     rw [Go.Aw.add_eq,Go.Aw.add_eq] at this
     rw [this,hq])
   refine⟨(List.range len').map N,fun ns h=>?_,?_,.inr ⟨b,o,cap',?_,?_,?_⟩⟩
   · obtain⟨i,hi,rfl⟩:=List.mem_map.1 h
     exact(hN i (by simpa using hi)).1
   · have:maxLen=9223372036854775807:=rfl
     simp;omega
   · simp
   · simpa using hl
   · refine xT (es:=P.cellsOf e) _ o (fun j ns hj=>?_)
     have hjl:=(List.getElem?_eq_some_iff.1 hj).1
     simp only [List.length_map,List.length_range] at hjl
     have:N j=ns:=by simpa [hjl] using hj
     subst this
     exact hN j hjl
def aK6 (w:World):CK→Value→Prop
 | .i,v=>∃n:Int,v=.int .i64 n
 | .b,v=>∃x:Bool,v=.bool x
 | .s es,v=>∃nss,rL w es v nss
def CellsAre (w:World):List CK→List Value→Prop
 | [],[]=>True
 | k::ks,v::vs=>aK6 w k v∧CellsAre w ks vs
 | _,_=>False
theorem CellsAre.app:∀{ks ks':List CK} {vs vs':List Value},CellsAre w ks vs→CellsAre w ks' vs'→CellsAre w (ks++ks') (vs++vs')
 | [],_,[],_,_,h=>h
 | [],_,_::_,_,h,_=>h.elim
 | _::_,_,[],_,h,_=>h.elim
 | _::_,_,_::_,_,⟨h1,h2⟩,h=>⟨h1,CellsAre.app h2 h⟩
theorem xU:∀(k:Nat)(t:TypeId)(ks:List CK)(fuel:Nat)(cs:List Value)(x:DataW H×List MemPlace),sZ P k t=some ks →
   (∀v∈cs,∀a len cap,v=.slice (some a) len cap→a.spot=none)→DataW.trod enc P w 0 (fun _=>true) true fuel t cs=some x→CellsAre w ks cs
 | 0,_,_,_,_,_,h,_,_=>by simp [sZ] at h
 | k+1,t,ks,fuel,cs,x,h,hsp,hx=>by
   unfold sZ at h
   split at h
   · rename_i ht
     obtain⟨n,rfl,rfl,_⟩:=DataW.trod_int ht hx
     obtain rfl:[CK.i]=ks:=Option.some.inj h
     exact⟨⟨n,rfl⟩,trivial⟩
   · rename_i ht
     obtain⟨n,rfl,rfl⟩:=DataW.trod_bool ht hx
     obtain rfl:[CK.b]=ks:=Option.some.inj h
     exact⟨⟨n,rfl⟩,trivial⟩
   · rename_i e ht
     cases hf:uI P 6 e with
     | false=>rw [hf] at h;cases h
     | true =>
       rw [hf] at h
       obtain rfl:[CK.s (P.cellsOf e)]=ks:=Option.some.inj h
       have:∃v,cs=[v]:=by
         rcases Go.Deep.open_slice ht hx with⟨hc,_⟩ | ⟨a',len',cap',m,n,D,Pl,hc,_⟩<;>exact⟨_,hc⟩
       obtain⟨v,rfl⟩:=this
       exact⟨aFv ht hf (hsp v List.mem_cons_self) hx,trivial⟩
   · rename_i fs ht
     obtain⟨xs,m,rfl,rfl,hl,hlen,hF⟩:=DataW.trod_struct ht hx
     have key:∀(l:List Field) (o:Nat) (ks:List CK),
         l.foldr (fun f r o=>bif f.offset == o then match sZ P k f.type with
           | some a=>bif a.length == P.cellsOf f.type then(r (o+P.cellsOf f.type)).map (a++·) else none
           | none=>none else none) (fun o=>bif o == P.cellsOf t then some [] else none) o=some ks →
         (∀f∈l,∃y,DataW.trod enc P w 0 (fun _=>true) true m f.type ((cs.drop f.offset).take (P.cellsOf f.type))=some y)→CellsAre w ks (cs.drop o):=by
       intro l
       induction l with
       | nil =>
         intro o ks h _
         simp only [List.foldr_nil] at h
         cases ho:o == P.cellsOf t with
         | false=>rw [ho] at h;cases h
         | true =>
           rw [ho] at h
           obtain rfl:[]=ks:=Option.some.inj h
           rw [beq_iff_eq.1 ho,←hl,List.drop_length];trivial
       | cons f l ih =>
         intro o ks h hy
         simp only [List.foldr_cons] at h
         cases ho:f.offset == o with
         | false=>rw [ho] at h;cases h
         | true =>
           rw [ho] at h
           simp only [cond_true] at h
           split at h
           · rename_i a ha
             cases hc:a.length == P.cellsOf f.type with
             | false=>rw [hc] at h;cases h
             | true =>
               rw [hc] at h
               simp only [cond_true,Option.map_eq_some_iff] at h
               obtain⟨ks',h1,rfl⟩:=h
               obtain⟨y,hy0⟩:=hy f List.mem_cons_self
               rw [beq_iff_eq.1 ho] at hy0
               have g1:=xU k f.type a m _ y ha (fun v hv=>hsp v (List.mem_of_mem_drop (List.mem_of_mem_take hv))) hy0
               have g2:=ih _ _ h1 (fun f' hf'=>hy f' (List.mem_cons_of_mem _ hf'))
               have:=g1.app g2
               rwa [←List.drop_drop,List.take_append_drop] at this
           · cases h
     have:=key fs.toList 0 ks h (fun f hf=>by
       obtain⟨i,hi⟩:=List.getElem?_of_mem hf
       have:=hF i f (by simpa using hi)
       have hil:i < xs.length:=by rw [hlen];have:=(List.getElem?_eq_some_iff.1 hi).1;simpa using this
       rw [List.getElem?_eq_getElem hil] at this
       exact⟨_,this⟩)
     simpa using this
   · cases h
theorem aI3 {r:Reach} {b0:Nat} {u:TypeId} {a:Addr} {len cap:Nat} (h:Cell.okWide P w r b0 u (.slice (some a) len cap)):a.spot=none:=by
 unfold Cell.okWide at h
 split at h<;>try (exact h.elim)
 all_goals try (simp_all;done)
 unfold Cell.ok at h
 split at h<;>simp_all [World.has]
theorem xV {r:Reach} {b0:Nat} {t:TypeId} {fs:Array Field} {v:Value} {d:DataW H} {ps:List MemPlace} (ks:List CK)(ht:P.underlying t=some (.struct fs))(hk:sZ P 6 t=some ks)
   (hval:Value.okWide P w r b0 t v) (hd:DataW.Trod enc P w 0 (fun _=>true) true t v d ps):(∃cs,v=.agg cs.toArray∧CellsAre w ks cs)∧∀x∈ps,x.block < w.heap.size:=by
 obtain⟨fuel,hx⟩:=hd
 refine⟨?_,DataW.trod_lt fuel t _ _ hx⟩
 simp only [Value.okWide,ht] at hval
 obtain⟨cs,rfl,hs,ts,_,_,hall⟩:=hval
 refine⟨cs.toList,by simp,xU 6 t ks fuel _ _ hk (fun v hv a len cap e=>?_) (by simpa [Value.cells] using hx)⟩
 obtain⟨i,hi⟩:=List.getElem?_of_mem hv
 obtain⟨u,_,hu⟩:=hall i v (by simpa using hi)
 subst e
 exact aI3 hu
theorem lF {k:CK} {ks:List CK} {cs:List Value} (h:CellsAre w (k::ks) cs):∃v vs,cs=v::vs∧aK6 w k v∧CellsAre w ks vs:=by
 cases cs with
 | nil=>exact h.elim
 | cons v vs=>exact⟨v,vs,rfl,h.1,h.2⟩
theorem aAy {cs:List Value} (h:CellsAre w [] cs):cs=[]:=by
 cases cs with
 | nil=>rfl
 | cons v vs=>exact h.elim
end
def aT1 (l:List (Nat×Value×List (List Int))):Env:=⟨fun k=>match l[k]? with
 | some x=>rho x.1 x.2.1
 | none=>none,fun _=>none⟩
theorem aFw {P:Program} {f:Nat} {args:List SV} {vs:List Value} {x:Value} {W:World} (l:List (Nat×Value×List (List Int)))
   (hc:Con P f args (l.map fun y=>.live false true ((y.2.2.flatten).map iv)) (.v x) []) (hs:∀y∈l,rL W y.1 y.2.1 y.2.2) (hr:Rels (aT1 l) args vs) :
   Calls P f vs.toArray W fun e W'=>e=.returned x∧Below W.heap.size W W':=by
 have hget:∀i,((l.map fun y=>BK.live false true ((y.2.2.flatten).map iv)).getD i .un=.un)∨∃y,l[i]? = some y∧(l.map fun y=>BK.live false true ((y.2.2.flatten).map iv)).getD i .un=.live false true ((y.2.2.flatten).map iv):=by
   intro i
   rw [eG,List.getElem?_map]
   cases h:l[i]? with
   | none=>exact .inl rfl
   | some y=>exact .inr ⟨y,rfl,rfl⟩
 refine aFt hc _ hr (fun i=>?_) (fun hM i=>?_) (fun i=>?_) (fun _=>rfl)
 · rcases hget i with h | ⟨y,_,h⟩<;>rw [h]<;>simp [BK.own]
 · rcases hget i with h | ⟨y,h1,h⟩
   · rw [h];simp [BRep]
   · rw [h]
     exact aFs (hs y (List.mem_of_getElem? h1)) (by simp only [aT1,h1]) hM
 · rcases hget i with h | ⟨y,_,h⟩
   · rw [h];simp [BK.pl]
   · rw [h];exact aAw _
def jB {α σ R:Type} (f:σ→α→σ⊕R):List α→σ→σ⊕R
 | [],v=>.inl v
 | c::l,v=>match f v c with
   | .inl v'=>jB f l v'
   | .inr r=>.inr r
def aFx {σ R:Type} (G:σ→R):σ⊕R→R
 | .inl v=>G v
 | .inr r=>r
theorem aFy {α σ T R:Type} [Inhabited R] (pk:σ→Int→T) {S:T→T⊕R} (f:σ→α→σ⊕R)(G:σ→R) {L:List α} (I:Nat→σ→Prop)
   (hS:∀(i:Nat) (c:α),L[i]? = some c→∀v,I i v→S (pk v (i:Int))=match f v c with | .inl v'=>.inl (pk v' ((i+1:Nat):Int)) | .inr r=>.inr r)
   (hI:∀(i:Nat) (c:α),L[i]? = some c→∀v v',I i v→f v c=.inl v'→I (i+1) v')
   (hE:∀v,I L.length v→S (pk v (L.length:Int))=.inr (G v)) :
   ∀(k:List α) (i n:Nat) (v:σ),L.drop i=k→i≤L.length→k.length < n→I i v→aC S n (pk v (i:Int))=aFx G (jB f k v):=by
 intro k
 induction k with
 | nil =>
   intro i n v hd hi' hn hv
   have:i=L.length:=by have:=List.drop_eq_nil_iff.1 hd;omega
   obtain⟨n,rfl⟩:∃m,n=m+1:=⟨n - 1,by simp only [List.length_nil] at hn;omega⟩
   subst this
   rw [bU (hE _ hv)];rfl
 | cons c k ih =>
   intro i n v hd hi' hn hv
   have hc:L[i]? = some c:=by
     have:(L.drop i)[0]? = some c:=by rw [hd];rfl
     simpa using this
   obtain⟨hlt,hce⟩:=List.getElem?_eq_some_iff.1 hc
   obtain⟨n,rfl⟩:∃m,n=m+1:=⟨n - 1,by omega⟩
   have hs:=hS i c hc v hv
   unfold jB
   cases hf:f v c with
   | inl v' =>
     rw [hf] at hs
     rw [aA hs]
     exact ih (i+1) n v' (by rw [←List.drop_drop,hd];rfl) (by omega) (by simp only [List.length_cons] at hn;omega) (hI i c hc v v' hv hf)
   | inr r =>
     rw [hf] at hs
     rw [bU hs];rfl
theorem cG {α σ T R:Type} [Inhabited R] (pk:σ→Int→T) {S:T→T⊕R} (f:σ→α→σ⊕R)(G:σ→R) {L:List α} (I:Nat→σ→Prop) {n:Nat} {v:σ}
   (hS:∀(i:Nat) (c:α),L[i]? = some c→∀v,I i v→S (pk v (i:Int))=match f v c with | .inl v'=>.inl (pk v' ((i+1:Nat):Int)) | .inr r=>.inr r)
   (hI:∀(i:Nat) (c:α),L[i]? = some c→∀v v',I i v→f v c=.inl v'→I (i+1) v')
   (hE:∀v,I L.length v→S (pk v (L.length:Int))=.inr (G v)) (hn:L.length < n) (hv:I 0 v):aC S n (pk v 0)=aFx G (jB f L v) :=
 aFy pk f G I hS hI hE L 0 n v rfl (Nat.zero_le _) hn hv
abbrev inF (n:Nat)(f:Zt):Prop:=(0≤f.1∧f.1 < (n:Int))∧(0≤f.2.1∧f.2.1 < (n:Int))∧0≤f.2.2∧f.2.2 < (n:Int)
def lG (m:List Zt×List Zt)(k:Int):Prop:=∀i:Int,0≤i→i < k→inF m.1.length (m.2.getD (toNat i) default)
theorem gX {m:List Zt×List Zt}:lG m 0:=fun i h1 h2=>absurd h1 (by omega)
theorem cN {m:List Zt×List Zt} {k:Int} (h:lG m k)(hf:inF m.1.length (m.2.getD (toNat k) default)):lG m (k+1):=fun i h1 h2=>by
 by_cases e:i=k
 · subst e;exact hf
 · exact h i h1 (by omega)
theorem fA {m:List Zt×List Zt} {k j:Int} (h:lG m k)(hj:j≤k):lG m j:=fun i h1 h2=>h i h1 (by omega)
theorem aEc {m:List Zt×List Zt} {k i:Int} (h:lG m k)(h1:0≤i)(h2:i < k):inF m.1.length (m.2.getD (toNat i) default):=h i h1 h2
end Go.Proofs.Ytaeagjnpobdglaa
