/-
  Parts of the proofs of the laws: the executor, what functions of the program compute, and that it is what the statements ask. No premise.
-/
import Derived.Test.YtcmdknehplnpfaaGreatVPhi2
import Derived.Test.YtcmdknehplnpfaaGreatRows
import Derived.Shelf.Abstract
set_option linter.unusedVariables false
set_option linter.unusedSimpArgs false
set_option maxHeartbeats 4000000
open Int renaming toNat → tN
open Inhabited renaming default → dF
namespace Go.Aw
open Go.RowKit
def nS (a b:Int):Int:=if b < a then b else a
def fV (a b:Int):Int:=if a < b then b else a
theorem zM {x:SV} (h:lC 0 x=true)(k:Nat):¬x.has k:=fun hk=>absurd (aCb h hk) (fZ _)
def mapE {α β:Type} (kc:α->SV)(vc:β->SV)(l:List (α×β)):List (SV×SV):=l.map fun e=>(kc e.1,vc e.2)
def eH {α β:Type} [DecidableEq α] (k:α):List (α×β)->Option (Nat×β)
 | []=>none
 | e::l=>if e.1=k then some (0,e.2) else match eH k l with
  | some q=>some (q.1+1,q.2)
  | none=>none
def aT {α β:Type} [DecidableEq α] (l:List (α×β))(k:α)(d:β):β:=match eH k l with
 | some q=>q.2
 | none=>d
def cK {α β:Type} [DecidableEq α] (l:List (α×β))(k:α)(v:β):List (α×β):=match eH k l with
 | some q=>l.set q.1 (k,v)
 | none=>l++[(k,v)]
def nW {α β:Type} [DecidableEq α] (l:List (α×β))(k:α)(d:β):List (α×β):=match eH k l with
 | some _=>l
 | none=>l++[(k,d)]
def mix {α β:Type} [DecidableEq α] (l:List (α×β))(k:α):Nat:=match eH k l with
 | some q=>q.1
 | none=>l.length
structure KeyOK {α:Type} (T:Nat->Option TI) (kt:Nat) (kc:α->SV):Prop where
 hb:∀x,nV T kt (kc x)=true
 he:∀x y,∃b,xJ T 100 kt (kc x).cells (kc y).cells=some b/\(b=true↔kc y=kc x)
 inj:∀x y,kc x=kc y->x=y
 pl:∀x,lC 0 (kc x)=true
theorem sW {α β:Type} {kc:α->SV} {vc:β->SV} {l:List (α×β)} {i:Nat} {x:SV×SV} (h:(mapE kc vc l)[i]? = some x):∃e,l[i]? = some e/\x=(kc e.1,vc e.2):=by
 unfold mapE at h
 rw [List.getElem?_map] at h
 cases hl:l[i]? with
 | none=>rw [hl] at h;cases h
 | some e=>rw [hl] at h;simp at h;exact⟨e,rfl,h.symm⟩
theorem oQ {α β:Type} {kc:α->SV} {vc:β->SV} {l:List (α×β)} {T:Nat->Option TI} {kt:Nat} {k:α} (hk:KeyOK T kt kc):jI T kt (mapE kc vc l) (kc k):=fun e he=>by
 obtain⟨i,hi⟩:=List.getElem?_of_mem he
 obtain⟨e',_,rfl⟩:=sW hi
 exact⟨hk.hb _,hk.he k e'.1⟩
theorem aHd {α β:Type} {kc:α->SV} {vc:β->SV} {l:List (α×β)} {T:Nat->Option TI} {kt:Nat} (hk:KeyOK T kt kc)(hv:∀v,lC 0 (vc v)=true):Plain (fL (mapE kc vc l)):=fun j hj=>by
 rw [cN] at hj
 obtain⟨x,hx,hj⟩:=hj
 unfold fL at hx
 obtain⟨e,he,hx⟩:=List.mem_flatMap.1 hx
 obtain⟨i,hi⟩:=List.getElem?_of_mem he
 obtain⟨e',_,rfl⟩:=sW hi
 simp only [List.mem_cons,List.not_mem_nil,or_false] at hx
 rcases hx with rfl | rfl
 ·exact zM (hk.pl _) j hj
 ·exact zM (hv _) j hj
section
variable {α β : Type} [DecidableEq α] {kc : α → SV} {vc : β → SV} {l : List (α × β)} {k : α} {T : Nat → Option TI} {kt : Nat}
theorem rM:∀{l:List (α×β)} {q:Nat×β},eH k l=some q->l[q.1]? = some (k,q.2)/\∀j e,j < q.1->l[j]? = some e->e.1≠k
 | [],q,h=>by simp [eH] at h
 | e::l,q,h=>by
  simp only [eH] at h
  split at h
  ·rename_i he
   simp only [aP] at h
   subst h
   exact⟨by rw [←he];rfl,fun j e hj=>absurd hj (fZ _)⟩
  ·rename_i he
   split at h
   ·rename_i q' hq
    simp only [aP] at h
    subst h
    obtain⟨h1,h2⟩:=rM hq
    refine⟨by simpa using h1,fun j e' hj hje=>?_⟩
    cases j with
    | zero=>simp at hje;rw [←hje];exact he
    | succ j=>exact h2 j e' (by omega) (by simpa using hje)
   ·cases h
theorem zN:∀{l:List (α×β)},eH k l=none->∀e∈l,e.1≠k
 | [],_,e,he=>by simp at he
 | e::l,h,e',he=>by
  simp only [eH] at h
  split at h
  ·cases h
  ·rename_i hne
   split at h
   ·cases h
   ·rename_i hn
    rcases List.mem_cons.1 he with rfl | he
    ·exact hne
    ·exact zN hn e' he
theorem sX (hk:KeyOK T kt kc):yG (mapE kc vc l) (kc k) ((eH k l).map fun q=>(q.1,vc q.2)):=by
 cases h:eH k l with
 | some q =>
  obtain⟨h1,h2⟩:=rM h
  refine .inl ⟨q.1,vc q.2,by unfold mapE;rw [List.getElem?_map,h1];rfl,fun j e hj he=>?_,rfl⟩
  obtain⟨e',he',rfl⟩:=sW he
  exact fun hc=>h2 j e' hj he' (hk.inj _ _ hc)
 | none =>
  refine .inr ⟨fun e he hc=>?_,rfl⟩
  obtain⟨i,hi⟩:=List.getElem?_of_mem he
  obtain⟨e',he',rfl⟩:=sW hi
  exact zN h e' (List.mem_of_getElem? he') (hk.inj _ _ hc)
theorem zO (d:β):vc (aT l k d)=(((eH k l).map fun q=>(q.1,vc q.2)).map (·.2)).getD (vc d):=by
 unfold aT
 cases eH k l<;>rfl
theorem aCg:∀{l:List (α×β)} (d:β),eH k l=none->eH k (l++[(k,d)])=some (l.length,d)
 | [],d,_=>by simp [eH]
 | e::l,d,h=>by
  simp only [eH] at h
  split at h
  ·cases h
  ·rename_i hne
   split at h
   ·cases h
   ·rename_i hn
    simp only [List.cons_append,eH,if_neg hne,aCg d hn,List.length_cons]
theorem aKw (l:List (α×β))(k:α)(d:β):aT (nW l k d) k d=aT l k d:=by
 unfold nW aT
 cases h:eH k l with
 | some q=>simp only [h]
 | none=>simp only [aCg d h]
theorem aMe (hk:KeyOK T kt kc)(d:β):∃q,yG (mapE kc vc (nW l k d)) (kc k) q/\vc (aT l k d)=(q.map (·.2)).getD (vc d):=by
 rw [←aKw l k d]
 exact⟨_,sX hk,zO d⟩
theorem aQf (hk:KeyOK T kt kc)(v:β):aPy (mapE kc vc l) (kc k) (vc v) (mapE kc vc (cK l k v)):=by
 refine⟨_,sX hk,?_⟩
 unfold cK
 cases h:eH k l with
 | some q=>simp [mapE,List.map_set]
 | none=>simp [mapE]
theorem aQg (hk:KeyOK T kt kc)(d:β):aPz (mapE kc vc l) (kc k) (vc d) (mapE kc vc (nW l k d)) (vc (aT l k d)) (mix l k):=by
 refine⟨_,sX hk,?_⟩
 unfold nW aT mix
 cases h:eH k l with
 | some q=>simp
 | none=>simp [mapE]
theorem aS4 (v:β)(d:β):∃(j:Nat) (e:SV×SV),((mix l k:Nat):Int)=(j:Int)/\(mapE kc vc (nW l k d))[j]? = some e/\mapE kc vc (cK l k v)=(mapE kc vc (nW l k d)).set j (e.1,vc v):=by
 unfold nW mix cK
 cases h:eH k l with
 | some q =>
  refine⟨q.1,(kc k,vc q.2),rfl,?_,?_⟩
  ·unfold mapE;rw [List.getElem?_map,(rM h).1];rfl
  ·simp [mapE,List.map_set]
 | none =>
  refine⟨l.length,(kc k,vc d),rfl,?_,?_⟩
  ·simp [mapE]
  ·simp [mapE]
variable {P : Program}
def St.z (id:Nat):St P:=⟨[.stop id],[],trivial⟩
def vB (b:Bool):SV:=.v (.bool b)
def St.mG (hk:KeyOK T kt kc)(vc:β->SV)(l:List (α×β))(k:α)(d:β):St P :=
 ⟨[.ld [vc (aT l k d)]],[.pr (jI T kt (mapE kc vc l) (kc k)),.pr (∃q,yG (mapE kc vc l) (kc k) q/\vc (aT l k d)=(q.map (·.2)).getD (vc d))],oQ hk,⟨_,sX hk,zO d⟩,trivial⟩
def St.mGa (hk:KeyOK T kt kc)(vc:β->SV)(l:List (α×β))(k:α)(d:β)(b:Nat):St P :=
 ⟨[.alt b (.map (mapE kc vc (nW l k d))),.ld [vc (aT l k d)]],[.pr (jI T kt (mapE kc vc l) (kc k)),.pr (∃q,yG (mapE kc vc l) (kc k) q/\vc (aT l k d)=(q.map (·.2)).getD (vc d)),
  .pr (jI T kt (mapE kc vc (nW l k d)) (kc k)),.pr (∃q,yG (mapE kc vc (nW l k d)) (kc k) q/\vc (aT l k d)=(q.map (·.2)).getD (vc d)),.pr (({ val:=vc (aT l k d) }:Eff)={ val:=vc (aT l k d) })],
  oQ hk,⟨_,sX hk,zO d⟩,oQ hk,aMe hk d,rfl,trivial⟩
def St.mR (kc:α->SV)(vc:β->SV)(l:List (α×β))(k:α)(d:β):St P:=⟨[],[.pr (BK.map (mapE kc vc (nW l k d))=BK.map (mapE kc vc (nW l k d)))],rfl,trivial⟩
def St.mP (hk:KeyOK T kt kc)(vc:β->SV)(l:List (α×β))(k:α)(v:β)(hv:∀v,lC 0 (vc v)=true:=by exact fun _=>rfl):St P :=
 ⟨[.mp (mapE kc vc (cK l k v))],[.pr (jI T kt (mapE kc vc l) (kc k)),.pr (aPy (mapE kc vc l) (kc k) (vc v) (mapE kc vc (cK l k v))),.pr (Plain (fL (mapE kc vc (cK l k v))))],oQ hk,aQf hk v,aHd hk hv,trivial⟩
def St.mE (hk:KeyOK T kt kc)(vc:β->SV)(l:List (α×β))(k:α)(d:β)(hv:∀v,lC 0 (vc v)=true:=by exact fun _=>rfl):St P :=
 ⟨[.mp (mapE kc vc (nW l k d)),.ld [vc (aT l k d),iv ((mix l k:Nat):Int)]],[.pr (jI T kt (mapE kc vc l) (kc k)),.pr (∃j:Nat,((mix l k:Nat):Int)=(j:Int)/\aPz (mapE kc vc l) (kc k) (vc d) (mapE kc vc (nW l k d)) (vc (aT l k d)) j),.pr (Plain (fL (mapE kc vc (nW l k d))))],oQ hk,⟨_,rfl,aQg hk d⟩,aHd hk hv,trivial⟩
def St.mS (hk:KeyOK T kt kc)(vc:β->SV)(l:List (α×β))(k:α)(d v:β)(hv:∀v,lC 0 (vc v)=true:=by exact fun _=>rfl):St P :=
 ⟨[.mp (mapE kc vc (cK l k v))],[.pr (∃(j:Nat) (e:SV×SV),((mix l k:Nat):Int)=(j:Int)/\(mapE kc vc (nW l k d))[j]? = some e/\mapE kc vc (cK l k v)=(mapE kc vc (nW l k d)).set j (e.1,vc v)),.pr (Plain (fL (mapE kc vc (cK l k v))))],aS4 v d,aHd hk hv,trivial⟩
end
def St.sub {P:Program} (a b:Int)(n:Nat)(h:0<=a/\a<=b/\b<=(n:Int):=by omega):St P:=⟨[.mp []],[.pr (0<=a/\a<=b/\b<=(n:Int))],h,trivial⟩
section
variable {P : Program}
theorem aDr {α:Type} {c:α->List SV} (hc:∀x,(c x).all SV.plain=true)(l:List α):Plain (flat c l):=iM hc
def St.D {α:Type} {c:α->List SV} {c2:List α->List SV} (es:Nat)(hc2:∀x,c2 x=[.d (flat c x) x.length es])(l:List (List α))(i:Int)(h:0<=i/\i < (l.length:Int):=by omega) (hc:∀x,(c x).all SV.plain=true:=by exact fun _=>rfl):St P :=
 ⟨[.ld [.d (flat c (l.getD i.toNat dF)) (l.getD i.toNat dF).length es]],[.pr (((flat c2 l).drop (0+i.toNat*1)).take 1=[.d (flat c (l.getD i.toNat dF)) (l.getD i.toNat dF).length es]),.pr (Plain (flat c (l.getD i.toNat dF)))],
  by
   have h1:∀x,(c2 x).length=1:=fun x=>by rw [hc2];rfl
   have:=aMd h1 l i 0 1 h (by decide)
   rw [Nat.add_zero] at this
   show _=_
   rw [this,hc2];rfl,aDr hc _,trivial⟩
theorem aMf {α:Type} {c:α->List SV} {z:α} (n:Nat):flat c (List.replicate n z)=(List.replicate n (c z)).flatten:=by
 unfold flat
 rw [List.flatMap_def,List.map_replicate]
def St.Z {α:Type} (c:α->List SV)(z:α)(zs:List SV)(n:Int)(bytes:Nat)(h:0<=n/\n.toNat*bytes<=2 ^ 47/\n<=2 ^ 47:=by omega) (e:c z=zs:=by rfl):St P :=
 ⟨[.ld (flat c (List.replicate n.toNat z))],[.pr (0<=n/\n.toNat*bytes<=2 ^ 47/\n<=2 ^ 47),.pr (n=n),.pr (flat c (List.replicate n.toNat z)=(List.replicate n.toNat zs).flatten)],h,rfl,by rw [←e];exact aMf _,trivial⟩
theorem aCh {α:Type} {c:α->List SV} {es:Nat} (hc:∀x,(c x).length=es):∀(l:List α) (n:Nat),(flat c l).drop (n*es)=flat c (l.drop n)
 | [],n=>by simp [flat]
 | x::l,0=>by simp
 | x::l,n+1=>by
  rw [iL,Nat.add_mul,Nat.one_mul,Nat.add_comm,←List.drop_drop,List.drop_left' (hc x),aCh hc l n];simp
theorem aCi {α:Type} {c:α->List SV} {es:Nat} (hc:∀x,(c x).length=es):∀(l:List α) (n:Nat),(flat c l).take (n*es)=flat c (l.take n)
 | [],n=>by simp [flat]
 | x::l,0=>by simp [flat]
 | x::l,n+1=>by
  rw [iL,Nat.add_mul,Nat.one_mul,Nat.add_comm,←hc x,List.take_length_add_append,hc x,aCi hc l n];simp [iL]
def part {α:Type} (l:List α)(a b:Int):List α:=(l.drop a.toNat).take (b.toNat - a.toNat)
def St.S {α:Type} {c:α->List SV} {es:Nat} (hc:∀x,(c x).length=es)(l:List α)(a b:Int)(n:Nat)(h:0<=a/\a<=b/\b<=(n:Int):=by omega):St P :=
 ⟨[.ld (flat c (part l a b))],[.pr (0<=a/\a<=b/\b<=(n:Int)),.pr (flat c (part l a b)=((flat c l).drop (0+a.toNat*es)).take ((b.toNat - a.toNat)*es))],h,by rw [Nat.zero_add,aCh hc,aCi hc];rfl,trivial⟩
end
end Go.Aw
namespace Go.Aw
open Go.RowKit
mutual
def SV.hasB (i:Nat):SV->Bool
 | .p j _=>j == i
 | .s j _ _ _=>j == i
 | .m j=>j == i
 | .f _ caps=>SV.hasBl i caps
 | .a l=>SV.hasBl i l
 | .t l=>SV.hasBl i l
 | _=>false
def SV.hasBl (i:Nat):List SV->Bool
 | []=>false
 | x::l=>SV.hasB i x || SV.hasBl i l
end
def BK.hasB (i:Nat):BK->Bool
 | .live _ false cells=>SV.hasBl i cells
 | .map es=>SV.hasBl i (fL es)
 | _=>false
section
variable {P : Program} {ρ : Env} {W : World} {M : Nat → Prop}
end
def aHe (T:Nat->Option TI)(rv:List ResultVar)(base:Nat)(ms ks:List Nat):Option (Out×List Ob×List Or)->Option (SV×List BK×List BK×List Ob)
 | some (.norm s,obs,[])=>match fin T rv base ms ks s with
  | some (res,nb,mb)=>some (res,nb,mb,obs)
  | none=>none
 | _=>none
theorem aQh {P:Program} {T:Nat->Option TI} {cx:Cx} {n:Nat} (hT:iE P T)(hm:P.follows .mixedOrders=true) {fn:Func} {f:Nat} {k:List K} {s:LS} {orc:List Or} (ads:List Adj)(ms ks:List Nat) {base:Nat} (hb:cx.base=base) {res:SV} {nb mb:List BK} {obs:List Ob}
 (h:aHe T fn.results.toList base ms ks (lL ads (run T f k s orc))=some (res,nb,mb,obs)) (hob:Obs P obs):Good P none n (bodyPost P fn (RR cx res nb mb)) cx [] k s:=by
 subst hb
 unfold aHe at h
 split at h
 ·rename_i s' obs' hrun
  split at h
  ·rename_i res' nb' mb' hf
   simp only [aP,cI] at h
   obtain⟨rfl,rfl,rfl,rfl⟩:=h
   obtain⟨o',hr,hg⟩:=jP (P:=P) (r:=none) (n:=n) (Q:=bodyPost P fn (RR cx res' nb' mb')) (cx:=cx) (D:=[]) hrun
   exact dK hT hm f k s orc _ _ _ hr hob (hg (fun ρ a W hrep=>rJ hT hf ρ a W hrep))
  ·cases h
 ·cases h
end Go.Aw
namespace Go.Proofs.YtcmdknehplnpfaaGreat
open Go.Proofs Go.Aw Go.RowKit
set_option maxRecDepth 100000
noncomputable def T0:=conv Tryz.prog
theorem hT:iE Tryz.prog T0:=fun _ _ h=>h
theorem hm:Tryz.prog.follows .mixedOrders=true:=by kernel_rfl
def W (n:Int):Int:=IntKind.wrap .i64 n
theorem aJe (n:Int):W n=if n % 18446744073709551616≥9223372036854775808 then n % 18446744073709551616 - 18446744073709551616 else n % 18446744073709551616:=by
 unfold W IntKind.wrap
 simp [IntKind.bits,IntKind.signed]
theorem aF {n:Int} (h1:-9223372036854775808<=n)(h2:n < 9223372036854775808):W n=n:=by
 rw [aJe];split<;>omega
theorem aDs (x:Int)(k:Nat) {m:Nat} (hm:(2:Int) ^ (min (tN k) 64)=m):Int.fdiv x (2 ^ (min (tN k) 64))=x / m:=by
 rw [hm];exact Int.fdiv_eq_ediv_of_nonneg _ (by omega)
theorem aDt {a b:Int} (h:0<=a/\a<=b/\b<=2147483648):W (Int.tdiv (W ((W (a+b))+1)) 2)=(a+b+1) / 2:=by
 rw [aF (n:=a+b) (by omega) (by omega),aF (n:=a+b+1) (by omega) (by omega),Int.tdiv_eq_ediv_of_nonneg (by omega),aF (by omega) (by omega)]
theorem aDu {a b:Int} (h:0<=a/\a<=b/\b<=2147483648):W (Int.tdiv (W (a+b)) 2)=(a+b) / 2:=by
 rw [aF (n:=a+b) (by omega) (by omega),Int.tdiv_eq_ediv_of_nonneg (by omega),aF (by omega) (by omega)]
theorem aJf {a b:Int} (h:0<=a/\a<=b/\b<=2147483648):W ((W (Int.tdiv (W ((W (a+b))+1)) 2)) - 1)=(a+b+1) / 2 - 1:=by
 rw [aDt h,aF (by omega) (by omega)]
theorem aJg {a b:Int} (h:0<=a/\a<=b/\b<=2147483648):W ((W (Int.tdiv (W (a+b)) 2))+1)=(a+b) / 2+1:=by
 rw [aDu h,aF (by omega) (by omega)]
theorem dM (n:Int):0<=IntKind.wrap .u64 n:=by
 simp only [IntKind.wrap,IntKind.bits,IntKind.signed]
 simp
 omega
def k9 (x:Zt×Zt×Zt):List SV:=[(iv x.1.1),(iv x.1.2.1),(iv x.1.2.2),(iv x.2.1.1),(iv x.2.1.2.1),(iv x.2.1.2.2),(iv x.2.2.1),(iv x.2.2.2.1),(iv x.2.2.2.2)]
def k3 (x:Zt):List SV:=[(iv x.1),(iv x.2.1),(iv x.2.2)]
def k2 (x:Int×Int):List SV:=[(iv x.1),(iv x.2)]
section
variable {cx : Cx} {k : List K} {s : LS} {base : Nat} {Q : Exit → Act → World → Prop}
theorem rt {fn:Func} (sts:List (St Tryz.prog))(ads:List Adj)(ks:List Nat)(hb:cx.base=base) {res:SV} {nb:List BK}
 (h:oG T0 fn.results.toList base [] ks (lL ads (run T0 5000 k s (mQ sts)))=some (res,nb,[],stB sts)):Aw.Good Tryz.prog none 9 (bodyPost Tryz.prog fn (RR cx res nb [])) cx [] k s:=aVi hT hm sts ads ks hb h
theorem rtn {fn:Func} (sts:List (St Tryz.prog))(ads:List Adj)(ms ks:List Nat)(hb:cx.base=base) {res:SV} {nb mb:List BK}
 (h:aHe T0 fn.results.toList base ms ks (lL ads (run T0 5000 k s (mQ sts)))=some (res,nb,mb,stB sts)):Aw.Good Tryz.prog none 9 (bodyPost Tryz.prog fn (RR cx res nb mb)) cx [] k s:=aQh hT hm ads ms ks hb h (zL sts)
theorem en (sts:List (St Tryz.prog))(ads:List Adj)(ts ks:List Nat)(hb:cx.base=base)(body:Code)(k':List K)(s':LS)(m:Nat)
 (h:xL base ts ks (lL ads (run T0 5000 k s (mQ sts)))=some (body,k',s',stB sts)) (hg:Aw.Good Tryz.prog none 9 Q cx [] (.l body m::k') s'):Aw.Good Tryz.prog none 9 Q cx [] k s:=aQe hT hm sts ads ts ks hb body k' s' m h hg
theorem ba {m:Nat} (sts:List (St Tryz.prog))(ads:List Adj)(ts ks:List Nat)(hb:cx.base=base)(body:Code)(k':List K)(s':LS)
 (h:aDp base ts ks (lL ads (run T0 5000 k s (mQ sts)))=some (body,m,k',s',stB sts)) (hg:Aw.Good Tryz.prog none 9 Q cx [] (.l body m::k') s'):Aw.Good Tryz.prog none 9 Q cx [] k s:=aS2 hT hm sts ads ts ks hb body k' s' h hg
theorem ga (sts:List (St Tryz.prog))(ads:List Adj)(ts ks:List Nat)(hb:cx.base=base)(x:Code)(k':List K)(s':LS)
 (h:aQc base ts ks (lL ads (run T0 5000 k s (mQ sts)))=some (x,k',s',stB sts)) (hg:Aw.Good Tryz.prog none 9 Q cx [] (.c x::k') s'):Aw.Good Tryz.prog none 9 Q cx [] k s:=aS3 hT hm sts ads ts ks hb x k' s' h hg
end
def qJ (a0:Zt)(a1:Int):Zt :=
 ((W (a1*a0.1)),(W (a1*a0.2.1)),(W (a1*a0.2.2)))
theorem C66 (a0:Zt)(a1:Int):Con Tryz.prog 66 [(.a (k3 a0)),(iv a1)] [] (.a (k3 (qJ a0 a1))) []:=by
 refine aK Tryz.func66 (by kernel_rfl) fun cx hcx=>?_
 have e:=Eq.refl (qJ a0 a1);conv at e=>rhs;simp only [qJ]
 rw [e]
 exact rt [] [] [] hcx (by kernel_rfl)
def gB (a0:Zt)(a1:Zt):Zt :=
 ((W (a0.1+a1.1)),(W (a0.2.1+a1.2.1)),(W (a0.2.2+a1.2.2)))
theorem aS5 (a0:Zt)(a1:Zt):Con Tryz.prog 104 [(.a (k3 a0)),(.a (k3 a1))] [] (.a (k3 (gB a0 a1))) []:=by
 refine aK Tryz.func104 (by kernel_rfl) fun cx hcx=>?_
 have e:=Eq.refl (gB a0 a1);conv at e=>rhs;simp only [gB]
 rw [e]
 exact rt [] [] [] hcx (by kernel_rfl)
def cP (x:Zt×Zt×Zt):List SV:=[iv x.1.1,iv x.1.2.1,iv x.1.2.2,iv x.2.1.1,iv x.2.1.2.1,iv x.2.1.2.2,iv x.2.2.1,iv x.2.2.2.1,iv x.2.2.2.2]
def aBu (x:Zt×Zt×Zt):Value:=.agg #[.int .i64 x.1.1,.int .i64 x.1.2.1,.int .i64 x.1.2.2,.int .i64 x.2.1.1,.int .i64 x.2.1.2.1,.int .i64 x.2.1.2.2,.int .i64 x.2.2.1,.int .i64 x.2.2.2.1,.int .i64 x.2.2.2.2]
theorem zP (ρ:Env)(x:Zt×Zt×Zt):Rel ρ (.a (cP x)) (aBu x):=by
 simp only [Rel];exact⟨_,rfl,by simp [cP,Rels,Rel,iv]⟩
theorem aMg (x:Zt×Zt×Zt)(k:Nat):¬(SV.a (cP x)).has k:=by
 simp [cP,SV.has,SV.hasl,iv]
def yv (l:Nat):Value:=.func (.yield l) #[] #[]
def q1 (p:Zt×Zt×Zt):Zt×Zt×Zt:=(qJ p.1 2,gB p.1 p.2.1,gB p.2.2 p.1)
def q2 (p:Zt×Zt×Zt):Zt×Zt×Zt:=(gB p.1 p.2.1,qJ p.2.1 2,gB p.2.1 p.2.2)
def q3 (p:Zt×Zt×Zt):Zt×Zt×Zt:=(gB p.2.2 p.1,gB p.2.1 p.2.2,qJ p.2.2 2)
def q4 (p:Zt×Zt×Zt):Zt×Zt×Zt:=(gB p.1 p.2.1,gB p.2.1 p.2.2,gB p.2.2 p.1)
def bI:Nat->Zt×Zt×Zt->List (Zt×Zt×Zt)
 | 0,p=>[p]
 | d+1,p=>bI d (q1 p)++(bI d (q2 p)++(bI d (q3 p)++bI d (q4 p)))
theorem wN:∀(d:Nat) (p:Zt×Zt×Zt),(bI d p).length=4 ^ d
 | 0,p=>rfl
 | d+1,p=>by simp only [bI,List.length_append,wN d,Nat.pow_succ];omega
def sY (l:Nat)(J:Nat->(Nat->Prop)->World->Prop)(Jx:(Nat->Prop)->World->Prop)(xs:List (Zt×Zt×Zt))(d:Nat):Prop :=
 ∀(p:Zt×Zt×Zt) (i:Nat) (S:Nat->Prop) (W:World) (ρ:Env) (vs:List Value),Rels ρ [.a (cP p),iv d,.p 0 0,.p 1 0] vs ->
   BRep ρ (fun b=>W.heap.size<=b) W 0 (.live false false [.v (yv l)])->BRep ρ (fun b=>W.heap.size<=b) W 1 (.live false false [.f 103 [.p 0 0,.p 1 0]]) ->
   (∀k,k < 2->∀b o n,ρ k=some (b,o,n)->¬S b)->J i S W->(∀j x,(bI d p)[j]? = some x->xs[i+j]? = some x) ->
   Calls Tryz.prog 103 vs.toArray W (VR J Jx (i+(bI d p).length) S W)
noncomputable def OY:Array Oper:=match (dL [1,0,1,0,0] [] (Tryz.f103.body.getD .skip)).1 with
 | .region _ ops _=>ops
 | _=>#[]
noncomputable def KY:List K:=(dL [1,0,1,0,0] [] (Tryz.f103.body.getD .skip)).2
noncomputable def OV:Array Oper:=match (dL [1,1,1,1,0,1,0,0,1,1,0,0,1,0] [0] (Tryz.f103.body.getD .skip)).1 with
 | .region _ ops _=>ops
 | _=>#[]
noncomputable def KV (m:Nat):List K:=(dL [1,1,1,1,0,1,0,0,1,1,0,0,1,0] [m] (Tryz.f103.body.getD .skip)).2
noncomputable def oY:Oper:=OY.toList.getD 2 dF
noncomputable def oV:Oper:=OV.toList.getD 4 dF
noncomputable def aHf (o:Oper):Array TypeId:=match o.op with
 | .call c=>c.argTypes
 | _=>#[]
theorem aVj:oY.op=.call { callee:=.value (.tmp 17),args:=#[.tmp 18],argTypes:=aHf oY }:=by kernel_rfl
theorem aVk:oV.op=.call { callee:=.value (.tmp 66),args:=#[.tmp 67,.tmp 69],argTypes:=aHf oV }:=by kernel_rfl
theorem aMh:OY.toList=OY.toList.take 2++oY::OY.toList.drop 3:=by kernel_rfl
theorem sZ:OV.toList=OV.toList.take 4++oV::OV.toList.drop 5:=by kernel_rfl
theorem aMi:kH Tryz.prog 103:=ent Tryz.func103 (by kernel_rfl) rfl
theorem aS6:kH Tryz.prog 102:=ent Tryz.func102 (by kernel_rfl) rfl
def zY (l:Nat)(p:Zt×Zt×Zt):LS:=⟨[.u,.u,.p 0 0,.u,.p 2 0,.u,.u,.u,.u,.u,.u,.u,.u,.u,.u,.u,.u,.u,.u,.u,.u,.u,.u,.u,.u,.u,.u,.u,.u,.u,.u,.u,.u,.u,.u,.u,.u,.u,.u,.u,.u,.u,.u,.u,.u,.u,.u,.u,.u,.u,.u,.u,.u,.u,.u,.u,.u,.u,.u,.u,.u,.u,.u,.u,.u,.u,.u,.u,.u,.u,.u,.u,.u],[.live false false [.v (yv l)],.live false false [.f 103 [.p 0 0,.p 1 0]],.live true false (cP p)]⟩
def zY1 (l:Nat)(p:Zt×Zt×Zt):LS:=⟨[.u,.u,.p 0 0,.u,.p 2 0,.u,.u,.u,.u,.u,.u,.u,.u,.u,.u,.u,.u,.v (yv l),.a (cP p),.u,.u,.u,.u,.u,.u,.u,.u,.u,.u,.u,.u,.u,.u,.u,.u,.u,.u,.u,.u,.u,.u,.u,.u,.u,.u,.u,.u,.u,.u,.u,.u,.u,.u,.u,.u,.u,.u,.u,.u,.u,.u,.u,.u,.u,.u,.u,.u,.u,.u,.u,.u,.u,.u],[.live false false [.v (yv l)],.live false false [.f 103 [.p 0 0,.p 1 0]],.live true false (cP p)]⟩
def zY3 (l:Nat)(p:Zt×Zt×Zt)(b:Bool):LS:=⟨[.u,.u,.p 0 0,.u,.p 2 0,.u,.v (.bool b),.u,.u,.u,.u,.u,.u,.u,.u,.u,.u,.v (yv l),.a (cP p),.v (.bool b),.u,.u,.u,.u,.u,.u,.u,.u,.u,.u,.u,.u,.u,.u,.u,.u,.u,.u,.u,.u,.u,.u,.u,.u,.u,.u,.u,.u,.u,.u,.u,.u,.u,.u,.u,.u,.u,.u,.u,.u,.u,.u,.u,.u,.u,.u,.u,.u,.u,.u,.u,.u,.u],[.live false false [.v (yv l)],.live false false [.f 103 [.p 0 0,.p 1 0]],.live false false (cP p)]⟩
def zV1 (l:Nat)(p:Zt×Zt×Zt)(d:Int):LS:=⟨[.u,iv d,.u,.p 1 0,.u,.u,.u,.u,.u,.u,.u,.u,.u,.u,.p 3 0,.u,.u,.u,.u,.u,.u,.u,.u,.u,.u,.u,.u,.u,.u,.u,.u,.u,.u,.u,.u,.u,.u,.u,.u,.u,.u,.u,.u,.u,.u,.u,.u,.u,.u,.u,.u,.u,.u,.u,.u,.u,.u,.u,.u,.u,.s 2 0 4 9,iv 4,iv 0,.u,.u,.u,.u,.u,.u,.u,.u,.u,.u],[.live false false [.v (yv l)],.live false false [.f 103 [.p 0 0,.p 1 0]],.live true false (cP (q1 p)++(cP (q2 p)++(cP (q3 p)++cP (q4 p)))),.live true false (cP (q1 p))]⟩
def aYr (l:Nat)(p:Zt×Zt×Zt)(d:Int):LS:=⟨[.u,iv d,.u,.p 1 0,.u,.u,.u,.u,.u,.u,.u,.u,.u,.u,.p 3 0,.u,.u,.u,.u,.u,.u,.u,.u,.u,.u,.u,.u,.u,.u,.u,.u,.u,.u,.u,.u,.u,.u,.u,.u,.u,.u,.u,.u,.u,.u,.u,.u,.u,.u,.u,.u,.u,.u,.u,.u,.u,.u,.u,.u,.u,.s 2 0 4 9,iv 4,iv 0,.u,.u,.u,.f 103 [.p 0 0,.p 1 0],.a (cP (q1 p)),iv d,iv (W (d - 1)),.u,.u,.u],[.live false false [.v (yv l)],.live false false [.f 103 [.p 0 0,.p 1 0]],.live true false (cP (q1 p)++(cP (q2 p)++(cP (q3 p)++cP (q4 p)))),.live true false (cP (q1 p))]⟩
def aYs (l:Nat)(p:Zt×Zt×Zt)(d:Int)(b:Bool):LS:=⟨[.u,iv d,.u,.p 1 0,.u,.u,.u,.u,.u,.u,.u,.u,.u,.u,.p 3 0,.u,.u,.u,.u,.u,.u,.u,.u,.u,.u,.u,.u,.u,.u,.u,.u,.u,.u,.u,.u,.u,.u,.u,.u,.u,.u,.u,.u,.u,.u,.u,.u,.u,.u,.u,.u,.u,.u,.u,.u,.u,.u,.u,.u,.u,.s 2 0 4 9,iv 4,iv 0,.u,.u,.u,.f 103 [.p 0 0,.p 1 0],.a (cP (q1 p)),iv d,iv (W (d - 1)),.v (.bool b),.v (.bool (!b)),.u],[.live false false [.v (yv l)],.live false false [.f 103 [.p 0 0,.p 1 0]],.live false false (cP (q1 p)++(cP (q2 p)++(cP (q3 p)++cP (q4 p)))),.live false false (cP (q1 p))]⟩
def zV2 (l:Nat)(p:Zt×Zt×Zt)(d:Int):LS:=⟨[.u,iv d,.u,.p 1 0,.u,.u,.u,.u,.u,.u,.u,.u,.u,.u,.p 4 0,.u,.u,.u,.u,.u,.u,.u,.u,.u,.u,.u,.u,.u,.u,.u,.u,.u,.u,.u,.u,.u,.u,.u,.u,.u,.u,.u,.u,.u,.u,.u,.u,.u,.u,.u,.u,.u,.u,.u,.u,.u,.u,.u,.u,.u,.s 2 0 4 9,iv 4,iv 1,.u,.u,.u,.u,.u,.u,.u,.u,.u,.u],[.live false false [.v (yv l)],.live false false [.f 103 [.p 0 0,.p 1 0]],.live false false (cP (q1 p)++(cP (q2 p)++(cP (q3 p)++cP (q4 p)))),.live false false (cP (q1 p)),.live true false (cP (q2 p))]⟩
def aYt (l:Nat)(p:Zt×Zt×Zt)(d:Int):LS:=⟨[.u,iv d,.u,.p 1 0,.u,.u,.u,.u,.u,.u,.u,.u,.u,.u,.p 4 0,.u,.u,.u,.u,.u,.u,.u,.u,.u,.u,.u,.u,.u,.u,.u,.u,.u,.u,.u,.u,.u,.u,.u,.u,.u,.u,.u,.u,.u,.u,.u,.u,.u,.u,.u,.u,.u,.u,.u,.u,.u,.u,.u,.u,.u,.s 2 0 4 9,iv 4,iv 1,.u,.u,.u,.f 103 [.p 0 0,.p 1 0],.a (cP (q2 p)),iv d,iv (W (d - 1)),.u,.u,.u],[.live false false [.v (yv l)],.live false false [.f 103 [.p 0 0,.p 1 0]],.live false false (cP (q1 p)++(cP (q2 p)++(cP (q3 p)++cP (q4 p)))),.live false false (cP (q1 p)),.live true false (cP (q2 p))]⟩
def aYu (l:Nat)(p:Zt×Zt×Zt)(d:Int)(b:Bool):LS:=⟨[.u,iv d,.u,.p 1 0,.u,.u,.u,.u,.u,.u,.u,.u,.u,.u,.p 4 0,.u,.u,.u,.u,.u,.u,.u,.u,.u,.u,.u,.u,.u,.u,.u,.u,.u,.u,.u,.u,.u,.u,.u,.u,.u,.u,.u,.u,.u,.u,.u,.u,.u,.u,.u,.u,.u,.u,.u,.u,.u,.u,.u,.u,.u,.s 2 0 4 9,iv 4,iv 1,.u,.u,.u,.f 103 [.p 0 0,.p 1 0],.a (cP (q2 p)),iv d,iv (W (d - 1)),.v (.bool b),.v (.bool (!b)),.u],[.live false false [.v (yv l)],.live false false [.f 103 [.p 0 0,.p 1 0]],.live false false (cP (q1 p)++(cP (q2 p)++(cP (q3 p)++cP (q4 p)))),.live false false (cP (q1 p)),.live false false (cP (q2 p))]⟩
def zV3 (l:Nat)(p:Zt×Zt×Zt)(d:Int):LS:=⟨[.u,iv d,.u,.p 1 0,.u,.u,.u,.u,.u,.u,.u,.u,.u,.u,.p 5 0,.u,.u,.u,.u,.u,.u,.u,.u,.u,.u,.u,.u,.u,.u,.u,.u,.u,.u,.u,.u,.u,.u,.u,.u,.u,.u,.u,.u,.u,.u,.u,.u,.u,.u,.u,.u,.u,.u,.u,.u,.u,.u,.u,.u,.u,.s 2 0 4 9,iv 4,iv 2,.u,.u,.u,.u,.u,.u,.u,.u,.u,.u],[.live false false [.v (yv l)],.live false false [.f 103 [.p 0 0,.p 1 0]],.live false false (cP (q1 p)++(cP (q2 p)++(cP (q3 p)++cP (q4 p)))),.live false false (cP (q1 p)),.live false false (cP (q2 p)),.live true false (cP (q3 p))]⟩
def aYv (l:Nat)(p:Zt×Zt×Zt)(d:Int):LS:=⟨[.u,iv d,.u,.p 1 0,.u,.u,.u,.u,.u,.u,.u,.u,.u,.u,.p 5 0,.u,.u,.u,.u,.u,.u,.u,.u,.u,.u,.u,.u,.u,.u,.u,.u,.u,.u,.u,.u,.u,.u,.u,.u,.u,.u,.u,.u,.u,.u,.u,.u,.u,.u,.u,.u,.u,.u,.u,.u,.u,.u,.u,.u,.u,.s 2 0 4 9,iv 4,iv 2,.u,.u,.u,.f 103 [.p 0 0,.p 1 0],.a (cP (q3 p)),iv d,iv (W (d - 1)),.u,.u,.u],[.live false false [.v (yv l)],.live false false [.f 103 [.p 0 0,.p 1 0]],.live false false (cP (q1 p)++(cP (q2 p)++(cP (q3 p)++cP (q4 p)))),.live false false (cP (q1 p)),.live false false (cP (q2 p)),.live true false (cP (q3 p))]⟩
def aYw (l:Nat)(p:Zt×Zt×Zt)(d:Int)(b:Bool):LS:=⟨[.u,iv d,.u,.p 1 0,.u,.u,.u,.u,.u,.u,.u,.u,.u,.u,.p 5 0,.u,.u,.u,.u,.u,.u,.u,.u,.u,.u,.u,.u,.u,.u,.u,.u,.u,.u,.u,.u,.u,.u,.u,.u,.u,.u,.u,.u,.u,.u,.u,.u,.u,.u,.u,.u,.u,.u,.u,.u,.u,.u,.u,.u,.u,.s 2 0 4 9,iv 4,iv 2,.u,.u,.u,.f 103 [.p 0 0,.p 1 0],.a (cP (q3 p)),iv d,iv (W (d - 1)),.v (.bool b),.v (.bool (!b)),.u],[.live false false [.v (yv l)],.live false false [.f 103 [.p 0 0,.p 1 0]],.live false false (cP (q1 p)++(cP (q2 p)++(cP (q3 p)++cP (q4 p)))),.live false false (cP (q1 p)),.live false false (cP (q2 p)),.live false false (cP (q3 p))]⟩
def zV4 (l:Nat)(p:Zt×Zt×Zt)(d:Int):LS:=⟨[.u,iv d,.u,.p 1 0,.u,.u,.u,.u,.u,.u,.u,.u,.u,.u,.p 6 0,.u,.u,.u,.u,.u,.u,.u,.u,.u,.u,.u,.u,.u,.u,.u,.u,.u,.u,.u,.u,.u,.u,.u,.u,.u,.u,.u,.u,.u,.u,.u,.u,.u,.u,.u,.u,.u,.u,.u,.u,.u,.u,.u,.u,.u,.s 2 0 4 9,iv 4,iv 3,.u,.u,.u,.u,.u,.u,.u,.u,.u,.u],[.live false false [.v (yv l)],.live false false [.f 103 [.p 0 0,.p 1 0]],.live false false (cP (q1 p)++(cP (q2 p)++(cP (q3 p)++cP (q4 p)))),.live false false (cP (q1 p)),.live false false (cP (q2 p)),.live false false (cP (q3 p)),.live true false (cP (q4 p))]⟩
def aYx (l:Nat)(p:Zt×Zt×Zt)(d:Int):LS:=⟨[.u,iv d,.u,.p 1 0,.u,.u,.u,.u,.u,.u,.u,.u,.u,.u,.p 6 0,.u,.u,.u,.u,.u,.u,.u,.u,.u,.u,.u,.u,.u,.u,.u,.u,.u,.u,.u,.u,.u,.u,.u,.u,.u,.u,.u,.u,.u,.u,.u,.u,.u,.u,.u,.u,.u,.u,.u,.u,.u,.u,.u,.u,.u,.s 2 0 4 9,iv 4,iv 3,.u,.u,.u,.f 103 [.p 0 0,.p 1 0],.a (cP (q4 p)),iv d,iv (W (d - 1)),.u,.u,.u],[.live false false [.v (yv l)],.live false false [.f 103 [.p 0 0,.p 1 0]],.live false false (cP (q1 p)++(cP (q2 p)++(cP (q3 p)++cP (q4 p)))),.live false false (cP (q1 p)),.live false false (cP (q2 p)),.live false false (cP (q3 p)),.live true false (cP (q4 p))]⟩
def aYy (l:Nat)(p:Zt×Zt×Zt)(d:Int)(b:Bool):LS:=⟨[.u,iv d,.u,.p 1 0,.u,.u,.u,.u,.u,.u,.u,.u,.u,.u,.p 6 0,.u,.u,.u,.u,.u,.u,.u,.u,.u,.u,.u,.u,.u,.u,.u,.u,.u,.u,.u,.u,.u,.u,.u,.u,.u,.u,.u,.u,.u,.u,.u,.u,.u,.u,.u,.u,.u,.u,.u,.u,.u,.u,.u,.u,.u,.s 2 0 4 9,iv 4,iv 3,.u,.u,.u,.f 103 [.p 0 0,.p 1 0],.a (cP (q4 p)),iv d,iv (W (d - 1)),.v (.bool b),.v (.bool (!b)),.u],[.live false false [.v (yv l)],.live false false [.f 103 [.p 0 0,.p 1 0]],.live false false (cP (q1 p)++(cP (q2 p)++(cP (q3 p)++cP (q4 p)))),.live false false (cP (q1 p)),.live false false (cP (q2 p)),.live false false (cP (q3 p)),.live false false (cP (q4 p))]⟩
def vb:SV->Bool
 | .v _ | .b _=>true
 | _=>false
theorem zQ {ρ ρ':Env}:∀{l:List SV} {vs us:List Value},l.all vb=true->Rels ρ l vs->Rels ρ' l us->vs=us
 | [],[],[],_,_,_=>rfl
 | [],_::_,_,_,h,_=>by simp [Rels] at h
 | [],[],_::_,_,_,h=>by simp [Rels] at h
 | _::_,[],_,_,h,_=>by simp [Rels] at h
 | _::_,_::_,[],_,_,h=>by simp [Rels] at h
 | x::l,y::vs,z::us,hp,h1,h2=>by
  simp only [List.all_cons,Bool.and_eq_true] at hp
  simp only [Rels] at h1 h2
  rw [zQ hp.2 h1.2 h2.2]
  have:y=z:=by
   cases x<;>simp only [vb,Bool.false_eq_true,false_and] at hp
   ·have a1:=h1.1;have a2:=h2.1;simp only [Rel] at a1 a2;rw [a1,a2]
   ·have a1:=h1.1;have a2:=h2.1;simp only [Rel] at a1 a2;rw [a1,a2]
  rw [this]
theorem pM {ρ:Env} {x:SV} {l:List SV} {y:Value} {m:List Value} (h:Rel ρ x y)(h':Rels ρ l m):Rels ρ (x::l) (y::m):=by simp only [Rels];exact⟨h,h'⟩
theorem aDv {α:Type} {xs A B:List α} {i:Nat} (h:∀j x,(A++B)[j]? = some x->xs[i+j]? = some x):(∀j x,A[j]? = some x->xs[i+j]? = some x)/\(∀j x,B[j]? = some x->xs[i+A.length+j]? = some x) :=
 ⟨fun j x hj=>h j x (by rw [List.getElem?_append_left (List.getElem?_eq_some_iff.1 hj).1];exact hj),fun j x hj=>by
  have:=h (A.length+j) x (by rw [List.getElem?_append_right (by omega),Nat.add_sub_cancel_left];exact hj)
  rwa [←Nat.add_assoc] at this⟩
section
variable {l : Nat} {J : Nat → (Nat → Prop) → World → Prop} {Jx : (Nat → Prop) → World → Prop} {xs : List (Zt × Zt × Zt)}
theorem kB (hJ:uQ J)(hX:aDq Jx) {m m':Nat} {W0:World} {S:Nat->Prop} {cx:Cx} {b:Bool} (h1:b=true->∃Sc,Seg J W0 S m' cx Sc)(h2:b=false->SegX Jx W0 S cx)(hm:m'=m)(Wd:World)(hb:Below cx.w.heap.size cx.w Wd)(hd:cx.w.drawn<=Wd.drawn) :
 VR J Jx m S W0 (.returned (.bool b)) Wd:=by
 subst hm
 cases b with
 | true =>
  obtain⟨Sc,h⟩:=h1 rfl
  exact .inl ⟨rfl,Sc,hJ _ _ _ _ h.j hb hd,h.kept.grow hb hd,h.sub⟩
 | false =>
  have h:=h2 rfl
  obtain⟨Sc,hj⟩:=h.j
  exact .inr ⟨rfl,Sc,hX _ _ _ hj hb hd,h.kept.grow hb hd⟩
theorem aS7 (hJ:uQ J)(hX:aDq Jx)(hB:oM J)(hY:∀i x S W1,xs[i]? = some x->J i S W1->YieldAt (Fw none) 9 Tryz.prog l #[aBu x] W1 (YR J Jx i S W1)):sY l J Jx xs 0:=by
 intro p i S Wd ρ vs hargs hb0 hb1 hS hj hxs
 have hx:xs[i]? = some p:=by have:=hxs 0 p rfl;simpa using this
 refine lM (n:=9) (bs:=[.live false false [.v (yv l)],.live false false [.f 103 [.p 0 0,.p 1 0]]]) Tryz.func103 rfl (by show 4<=Tryz.f103.ntmps;decide) (by kernel_rfl) ⟨rfl,rfl,trivial⟩ (by kernel_rfl) (fun i=>by rcases i with _ | _ | i<;>simp [BK.own]) (by kernel_rfl) hargs (fun i=>by rcases i with _ | _ | i<;>first | exact hb0 | exact hb1 | simp [BRep]) (fun i=>by rcases i with _ | _ | i<;>simp [BK.pl]) (fun cx hbase hw hρ hfz hown=>?_)
 subst hw
 have hd:((((0:Nat):Int):Int) == 0)=true:=rfl
 refine sU (T:=T0) hT hm (f:=5000) (orc:=[.d true,.stop 2]) [] [2,4] [2] hbase (x:=.region 2 OY false) (k':=KY) (s':=zY l p)
  (obs:=[.eq ((((0:Nat):Int):Int) == 0) true]) (by kernel_rfl) ⟨hd,trivial⟩ ?_
 have hseg:Seg J cx.w S i cx S:=⟨hj,Kept.refl _ _,fun b h=>.inl h,fun k b o n hk h=>hS k (by rw [hbase] at hk;exact hk) b o n ((hρ k).symm.trans h),hown,fun b o ho=>by rw [hfz b] at ho;cases ho⟩
 refine oO (Jx:=Jx) hT hJ hB (m:=i+1) hseg (OY.toList.take 2) oY (OY.toList.drop 3) aMh (s1:=zY1 l p) (by kernel_rfl) (by kernel_rfl) 19 (by kernel_rfl) (bS (by kernel_rfl)) 2 hbase (by kernel_rfl) (by kernel_rfl)
  (fun ρ a W2 hrep hsafe hj2 K Q' hK=>?_) (zY3 l p) (fun b=>by kernel_rfl) (fun b cx' hb' h1 h2=>?_)
 ·have e1:=hrep.sl 17
  have e2:=hrep.sl 18
  refine aMb aVj (l:=l) (vs:=#[aBu p]) ?_ ?_ (hY i p S W2 hx hj2) hK
  ·exact e1
  ·have:a.eval (.tmp 18)=aBu p:=by
    have e3:Rel ρ (.a (cP p)) (a.tmps.getD 18 undef):=e2
    simp only [Rel] at e3
    obtain⟨vs,hv,hr⟩:=e3
    have h':=zP ρ p
    simp only [Rel] at h'
    obtain⟨us,hu,hr'⟩:=h'
    show a.tmps.getD 18 undef=aBu p
    rw [hv,hu]
    have:vs=us:=zQ (by simp [cP,vb,iv]) hr hr'
    rw [this]
   simp [this]
 ·have hown':∀c,¬cx'.own c:=by
   cases b with
   | true=>obtain⟨Sc,h⟩:=h1 rfl;exact h.own
   | false=>exact(h2 rfl).own
  exact pL (T:=T0) hT hm (f:=5000) (orc:=[]) (b:=b) (obs:=[]) (by cases b<;>kernel_rfl) trivial hown' (fun Wd hW hWd=>kB hJ hX h1 h2 rfl Wd hW hWd)
theorem aJh {d:Nat} (ih:sY l J Jx xs d) {cx:Cx} {N:Nat} {D:List Deferred} {ρ:Env} {s:FS} {a:Act} {Wd:World} (hrep:Rep cx N D ρ s a Wd) {p:Zt×Zt×Zt} {i:Nat} {S:Nat->Prop}
 (hdl:d < 1000) (e1:s.sl 66=.f 103 [.p 0 0,.p 1 0]) (e2:s.sl 67=.a (cP p)) (e3:s.sl 69=iv (W (((d+1:Nat):Int) - 1))) (e4:s.bk 0=.live false false [.v (yv l)]) (e5:s.bk 1=.live false false [.f 103 [.p 0 0,.p 1 0]])
 (hS:∀k,k < 2->∀b o n,ρ k=some (b,o,n)->¬S b) (hj:J i S Wd) (hxs:∀j x,(bI d p)[j]? = some x->xs[i+j]? = some x)
 (K:Act->World->Prop) (Q:Exit->Act->World->Prop) (hK:∀e Wd',VR J Jx (i+(bI d p).length) S Wd e Wd'->∃v,e=.returned v/\K (a.put oV.dst v) Wd'):oV.wpIn (Fw none) 9 Tryz.prog a Wd K Q:=by
 have r1:=hrep.sl 66
 have r2:=hrep.sl 67
 have r3:=hrep.sl 69
 rw [e1] at r1;rw [e2] at r2;rw [e3] at r3
 have hw:W (((d+1:Nat):Int) - 1)=(d:Int):=by rw [aF]<;>omega
 rw [hw] at r3
 simp only [Rel] at r1
 obtain⟨vs,hv,hc⟩:=r1
 have b0:=hrep.bk 0
 have b1:=hrep.bk 1
 rw [e4] at b0;rw [e5] at b1
 refine aJd aVk (g:=103) (caps:=vs) hv aMi (ih p i S Wd ρ _ ?_ b0.ro b1.ro hS hj hxs) hK
 exact pM r2 (pM r3 hc)
theorem aS8 (hJ:uQ J)(hX:aDq Jx)(hB:oM J) {d:Nat} (hdl:d < 1000)(ih:sY l J Jx xs d):sY l J Jx xs (d+1):=by
 intro p i S Wd ρ vs hargs hb0 hb1 hS hj hxs
 obtain⟨hx1,hr1⟩:=aDv hxs
 obtain⟨hx2,hr2⟩:=aDv hr1
 obtain⟨hx3,hx4⟩:=aDv hr2
 refine lM (n:=9) (bs:=[.live false false [.v (yv l)],.live false false [.f 103 [.p 0 0,.p 1 0]]]) Tryz.func103 rfl (by show 4<=Tryz.f103.ntmps;decide) (by kernel_rfl) ⟨rfl,rfl,trivial⟩ (by kernel_rfl) (fun i=>by rcases i with _ | _ | i<;>simp [BK.own]) (by kernel_rfl) hargs (fun i=>by rcases i with _ | _ | i<;>first | exact hb0 | exact hb1 | simp [BRep]) (fun i=>by rcases i with _ | _ | i<;>simp [BK.pl]) (fun cx hbase hw hρ hfz hown=>?_)
 subst hw
 have hd:((((d+1:Nat):Int):Int) == 0)=false:=by rw [beq_eq_false_iff_ne];omega
 have hseg:Seg J cx.w S i cx S:=⟨hj,Kept.refl _ _,fun b h=>.inl h,fun k b o n hk h=>hS k (by rw [hbase] at hk;exact hk) b o n ((hρ k).symm.trans h),hown,fun b o ho=>by rw [hfz b] at ho;cases ho⟩
 refine sU (T:=T0) hT hm (f:=5000) (orc:=[.d false,.call [] (.a [(iv (qJ p.1 2).1),(iv (qJ p.1 2).2.1),(iv (qJ p.1 2).2.2)]) [],.call [] (.a [(iv (qJ p.2.1 2).1),(iv (qJ p.2.1 2).2.1),(iv (qJ p.2.1 2).2.2)]) [],.call [] (.a [(iv (qJ p.2.2 2).1),(iv (qJ p.2.2 2).2.1),(iv (qJ p.2.2 2).2.2)]) [],.call [] (.a [(iv (gB p.1 p.2.1).1),(iv (gB p.1 p.2.1).2.1),(iv (gB p.1 p.2.1).2.2)]) [],.call [] (.a [(iv (gB p.2.1 p.2.2).1),(iv (gB p.2.1 p.2.2).2.1),(iv (gB p.2.1 p.2.2).2.2)]) [],.call [] (.a [(iv (gB p.2.2 p.1).1),(iv (gB p.2.2 p.1).2.1),(iv (gB p.2.2 p.1).2.2)]) [],.un 4,.d true,.stop 8]) [] [1,3,14,60,61,62] [9,10] hbase (x:=.region 8 OV false) (k':=KV 4) (s':=zV1 l p (d+1:Nat))
  (obs:=[.eq ((((d+1:Nat):Int):Int) == 0) false,.call 66 [(.a [(iv p.1.1),(iv p.1.2.1),(iv p.1.2.2)]),(iv 2)] [] (.a [(iv (qJ p.1 2).1),(iv (qJ p.1 2).2.1),(iv (qJ p.1 2).2.2)]) [],.call 66 [(.a [(iv p.2.1.1),(iv p.2.1.2.1),(iv p.2.1.2.2)]),(iv 2)] [] (.a [(iv (qJ p.2.1 2).1),(iv (qJ p.2.1 2).2.1),(iv (qJ p.2.1 2).2.2)]) [],.call 66 [(.a [(iv p.2.2.1),(iv p.2.2.2.1),(iv p.2.2.2.2)]),(iv 2)] [] (.a [(iv (qJ p.2.2 2).1),(iv (qJ p.2.2 2).2.1),(iv (qJ p.2.2 2).2.2)]) [],.call 104 [(.a [(iv p.1.1),(iv p.1.2.1),(iv p.1.2.2)]),(.a [(iv p.2.1.1),(iv p.2.1.2.1),(iv p.2.1.2.2)])] [] (.a [(iv (gB p.1 p.2.1).1),(iv (gB p.1 p.2.1).2.1),(iv (gB p.1 p.2.1).2.2)]) [],.call 104 [(.a [(iv p.2.1.1),(iv p.2.1.2.1),(iv p.2.1.2.2)]),(.a [(iv p.2.2.1),(iv p.2.2.2.1),(iv p.2.2.2.2)])] [] (.a [(iv (gB p.2.1 p.2.2).1),(iv (gB p.2.1 p.2.2).2.1),(iv (gB p.2.1 p.2.2).2.2)]) [],.call 104 [(.a [(iv p.2.2.1),(iv p.2.2.2.1),(iv p.2.2.2.2)]),(.a [(iv p.1.1),(iv p.1.2.1),(iv p.1.2.2)])] [] (.a [(iv (gB p.2.2 p.1).1),(iv (gB p.2.2 p.1).2.1),(iv (gB p.2.2 p.1).2.2)]) [],.eq true true,.pr (0<=(0:Int)/\(0:Int) < ((4:Nat):Int))]) (by kernel_rfl) ⟨hd,(C66 p.1 2),(C66 p.2.1 2),(C66 p.2.2 2),(aS5 p.1 p.2.1),(aS5 p.2.1 p.2.2),(aS5 p.2.2 p.1),rfl,(show 0<=(0:Int)/\(0:Int) < ((4:Nat):Int) from by decide),trivial⟩ ?_
 refine oO (Jx:=Jx) hT hJ hB (m:=i+(bI d (q1 p)).length) hseg (OV.toList.take 4) oV (OV.toList.drop 5) sZ (s1:=aYr l p (d+1:Nat)) (by kernel_rfl) (by kernel_rfl) 70 (by kernel_rfl) (bS (by kernel_rfl)) 2 hbase (by kernel_rfl) (by kernel_rfl)
  (fun ρ a W2 hrep hsafe hj2 K Q' hK=>aJh ih hrep hdl rfl rfl rfl rfl rfl (fun k hk b o n h=>(match k,hk,h with | 0,_,h=>hsafe 0 _ _ _ rfl b o n h | 1,_,h=>hsafe 1 _ _ _ rfl b o n h)) hj2 (fun j x hj=>hx1 j x hj) K Q' hK) (aYs l p (d+1:Nat)) (fun b=>by kernel_rfl) (fun b cx hbase h1 h2=>?_)
 cases b with
 | false =>
  exact pL (T:=T0) hT hm (f:=5000) (orc:=[.d true]) (b:=false) (obs:=[.eq (!false) true]) (by kernel_rfl) ⟨rfl,trivial⟩ (h2 rfl).own (fun W hW hWd=>kB (m':=i+(bI (d+1) p).length) hJ hX (fun h=>by cases h) h2 rfl W hW hWd)
 | true =>
  obtain⟨Sc,hseg⟩:=h1 rfl
  refine sU (T:=T0) hT hm (f:=5000) (orc:=[.d false,.un 0,.d true,.stop 8]) [] [1,3,14,60,61,62] [4] hbase (x:=.region 8 OV false) (k':=KV 3) (s':=zV2 l p (d+1:Nat))
   (obs:=[.eq (!true) false,.eq (decide ((1:Int) < 4)) true,.pr (0<=(1:Int)/\(1:Int) < ((4:Nat):Int))]) (by kernel_rfl) ⟨rfl,rfl,(show 0<=(1:Int)/\(1:Int) < ((4:Nat):Int) from by decide),trivial⟩ ?_
  refine oO (Jx:=Jx) hT hJ hB (m:=i+(bI d (q1 p)).length+(bI d (q2 p)).length) hseg (OV.toList.take 4) oV (OV.toList.drop 5) sZ (s1:=aYt l p (d+1:Nat)) (by kernel_rfl) (by kernel_rfl) 70 (by kernel_rfl) (bS (by kernel_rfl)) 4 hbase (by kernel_rfl) (by kernel_rfl)
   (fun ρ a W2 hrep hsafe hj2 K Q' hK=>aJh ih hrep hdl rfl rfl rfl rfl rfl (fun k hk b o n h=>(match k,hk,h with | 0,_,h=>hsafe 0 _ _ _ rfl b o n h | 1,_,h=>hsafe 1 _ _ _ rfl b o n h)) hj2 (fun j x hj=>hx2 j x hj) K Q' hK) (aYu l p (d+1:Nat)) (fun b=>by kernel_rfl) (fun b cx hbase h1 h2=>?_)
  cases b with
  | false =>
   exact pL (T:=T0) hT hm (f:=5000) (orc:=[.d true]) (b:=false) (obs:=[.eq (!false) true]) (by kernel_rfl) ⟨rfl,trivial⟩ (h2 rfl).own (fun W hW hWd=>kB (m':=i+(bI (d+1) p).length) hJ hX (fun h=>by cases h) h2 rfl W hW hWd)
  | true =>
   obtain⟨Sc,hseg⟩:=h1 rfl
   refine sU (T:=T0) hT hm (f:=5000) (orc:=[.d false,.un 0,.d true,.stop 8]) [] [1,3,14,60,61,62] [5] hbase (x:=.region 8 OV false) (k':=KV 2) (s':=zV3 l p (d+1:Nat))
    (obs:=[.eq (!true) false,.eq (decide ((2:Int) < 4)) true,.pr (0<=(2:Int)/\(2:Int) < ((4:Nat):Int))]) (by kernel_rfl) ⟨rfl,rfl,(show 0<=(2:Int)/\(2:Int) < ((4:Nat):Int) from by decide),trivial⟩ ?_
   refine oO (Jx:=Jx) hT hJ hB (m:=i+(bI d (q1 p)).length+(bI d (q2 p)).length+(bI d (q3 p)).length) hseg (OV.toList.take 4) oV (OV.toList.drop 5) sZ (s1:=aYv l p (d+1:Nat)) (by kernel_rfl) (by kernel_rfl) 70 (by kernel_rfl) (bS (by kernel_rfl)) 5 hbase (by kernel_rfl) (by kernel_rfl)
    (fun ρ a W2 hrep hsafe hj2 K Q' hK=>aJh ih hrep hdl rfl rfl rfl rfl rfl (fun k hk b o n h=>(match k,hk,h with | 0,_,h=>hsafe 0 _ _ _ rfl b o n h | 1,_,h=>hsafe 1 _ _ _ rfl b o n h)) hj2 (fun j x hj=>hx3 j x hj) K Q' hK) (aYw l p (d+1:Nat)) (fun b=>by kernel_rfl) (fun b cx hbase h1 h2=>?_)
   cases b with
   | false =>
    exact pL (T:=T0) hT hm (f:=5000) (orc:=[.d true]) (b:=false) (obs:=[.eq (!false) true]) (by kernel_rfl) ⟨rfl,trivial⟩ (h2 rfl).own (fun W hW hWd=>kB (m':=i+(bI (d+1) p).length) hJ hX (fun h=>by cases h) h2 rfl W hW hWd)
   | true =>
    obtain⟨Sc,hseg⟩:=h1 rfl
    refine sU (T:=T0) hT hm (f:=5000) (orc:=[.d false,.un 0,.d true,.stop 8]) [] [1,3,14,60,61,62] [6] hbase (x:=.region 8 OV false) (k':=KV 1) (s':=zV4 l p (d+1:Nat))
     (obs:=[.eq (!true) false,.eq (decide ((3:Int) < 4)) true,.pr (0<=(3:Int)/\(3:Int) < ((4:Nat):Int))]) (by kernel_rfl) ⟨rfl,rfl,(show 0<=(3:Int)/\(3:Int) < ((4:Nat):Int) from by decide),trivial⟩ ?_
    refine oO (Jx:=Jx) hT hJ hB (m:=i+(bI d (q1 p)).length+(bI d (q2 p)).length+(bI d (q3 p)).length+(bI d (q4 p)).length) hseg (OV.toList.take 4) oV (OV.toList.drop 5) sZ (s1:=aYx l p (d+1:Nat)) (by kernel_rfl) (by kernel_rfl) 70 (by kernel_rfl) (bS (by kernel_rfl)) 6 hbase (by kernel_rfl) (by kernel_rfl)
     (fun ρ a W2 hrep hsafe hj2 K Q' hK=>aJh ih hrep hdl rfl rfl rfl rfl rfl (fun k hk b o n h=>(match k,hk,h with | 0,_,h=>hsafe 0 _ _ _ rfl b o n h | 1,_,h=>hsafe 1 _ _ _ rfl b o n h)) hj2 (fun j x hj=>hx4 j x hj) K Q' hK) (aYy l p (d+1:Nat)) (fun b=>by kernel_rfl) (fun b cx hbase h1 h2=>?_)
    cases b with
    | false =>
     exact pL (T:=T0) hT hm (f:=5000) (orc:=[.d true]) (b:=false) (obs:=[.eq (!false) true]) (by kernel_rfl) ⟨rfl,trivial⟩ (h2 rfl).own (fun W hW hWd=>kB (m':=i+(bI (d+1) p).length) hJ hX (fun h=>by cases h) h2 rfl W hW hWd)
    | true =>
     exact pL (T:=T0) hT hm (f:=5000) (orc:=[.d false,.un 0,.d false]) (b:=true) (obs:=[.eq (!true) false,.eq (decide ((4:Int) < 4)) false]) (by kernel_rfl) ⟨rfl,rfl,trivial⟩ (h1 rfl).choose_spec.own (fun W hW hWd=>kB hJ hX h1 h2 (by simp only [bI,List.length_append];omega) W hW hWd)
theorem aCj (hJ:uQ J)(hX:aDq Jx)(hB:oM J)(hY:∀i x S W1,xs[i]? = some x->J i S W1->YieldAt (Fw none) 9 Tryz.prog l #[aBu x] W1 (YR J Jx i S W1)):∀d,d < 1000->sY l J Jx xs d
 | 0,_=>aS7 hJ hX hB hY
 | d+1,h=>aS8 hJ hX hB (by omega) (aCj hJ hX hB hY d (by omega))
end
noncomputable def O2:Array Oper:=match (dL [1,1,1] [] (Tryz.f102.body.getD .skip)).1 with
 | .region _ ops _=>ops
 | _=>#[]
noncomputable def o2:Oper:=O2.toList.getD 3 dF
theorem aVl:o2.op=.call { callee:=.value (.tmp 6),args:=#[.tmp 7,.tmp 8],argTypes:=aHf o2 }:=by kernel_rfl
theorem aMj:O2.toList=O2.toList.take 3++[o2]:=by kernel_rfl
def z2 (l:Nat)(p:Zt×Zt×Zt)(d:Int):LS:=⟨[.u,.p 0 0,.p 1 0,.u,.p 3 0,.u,.u,.u,.u,.u],[.live false false (cP p),.live false false [iv d],.live true false [.v (yv l)],.live true false [.f 103 [.p 2 0,.p 3 0]]]⟩
def z21 (l:Nat)(p:Zt×Zt×Zt)(d:Int):LS:=⟨[.u,.p 0 0,.p 1 0,.u,.p 3 0,.u,.f 103 [.p 2 0,.p 3 0],.a (cP p),iv d,.u],[.live false false (cP p),.live false false [iv d],.live true false [.v (yv l)],.live true false [.f 103 [.p 2 0,.p 3 0]]]⟩
theorem aMk (p:Zt×Zt×Zt)(d:Nat)(hd:d < 1000):aQa Tryz.prog 102 [.p 0 0,.p 1 0] [.live false false (cP p),.live false false [iv (d:Nat)]] aBu (bI d p):=by
 refine⟨aS6,fun ρ Wd lb hcaps hbs hpl l J Jx S0 hJ hX hB hY h0=>?_⟩
 have hcon:Calls Tryz.prog 102 ((Value.func (.yield l) #[] #[])::lb).toArray Wd fun e Wd'=>(∃v,e=.returned v)/\∃S',(J (bI d p).length S' Wd'\/Jx S' Wd')/\Kept Wd S0 Wd':=by
  refine lM (n:=9) (args:=[.v (yv l),.p 0 0,.p 1 0]) (bs:=[.live false false (cP p),.live false false [iv (d:Nat)]]) Tryz.func102 rfl (by show 3<=Tryz.f102.ntmps;decide) (by kernel_rfl) ⟨rfl,rfl,trivial⟩ (by kernel_rfl) (fun i=>by rcases i with _ | _ | i<;>simp [BK.own]) (by kernel_rfl) ⟨rfl,hcaps⟩ hbs hpl (fun cx hbase hw hρ hfz hown=>?_)
  subst hw
  refine sU (T:=T0) hT hm (f:=5000) (orc:=[.stop 3]) [] [1,2,4] [2,3] hbase (x:=.region 3 O2 false) (k':=[]) (s':=z2 l p d)
   (obs:=[]) (by kernel_rfl) trivial ?_
  intro ρ a Wd hrep
  simp only [dJ]
  refine wpIn_region ?_
  have hsz:O2.size=(O2.toList.take 3).length+(0+1):=by kernel_rfl
  have hget:∀j,O2[j]? = (O2.toList.take 3++[o2])[j]? := fun j=>by rw [←aMj,Array.getElem?_toList]
  rw [hsz,wM]
  refine pK hT (O2.toList.take 3) 0 (z2 l p d) (z21 l p d) [] [] _ [] (oN (T:=T0) (obs:=[]) (by kernel_rfl)).choose_spec trivial (fun j o' hj=>?_) ρ a Wd hrep (fun ρ1 a1 W1 hrep1 hl1=>?_)
  ·rw [hget,Nat.zero_add,List.getElem?_append_left (List.getElem?_eq_some_iff.1 hj).1];exact hj
  rw [wpOpsIn_cons]
  unfold wpOpIn
  have ho:O2[(O2.toList.take 3).length]? = some o2:=by rw [hget,List.getElem?_append_right (Nat.le_refl _)];simp
  rw [ho]
  have hw:Region.wanted o2 (yielded O2 a1.tmps)=true:=by
   have hg:o2.guard=none:=by kernel_rfl
   unfold Region.wanted;rw [hg]
  simp only [hw,if_true]
  have hbel:Below cx.w.heap.size cx.w W1:=by
   have:=hrep1.kept
   exact⟨this.os,this.tape,this.output,this.size,fun k hk=>this.block k hk (hown k)⟩
  have r1:=hrep1.sl 6
  have r2:=hrep1.sl 7
  have r3:=hrep1.sl 8
  have r1':Rel ρ1 (.f 103 [.p 2 0,.p 3 0]) (a1.tmps.getD 6 undef):=r1
  have r2':Rel ρ1 (.a (cP p)) (a1.tmps.getD 7 undef):=r2
  have r3':Rel ρ1 (iv (d:Nat)) (a1.tmps.getD 8 undef):=r3
  simp only [Rel] at r1'
  obtain⟨vs,hv,hc⟩:=r1'
  have own2:∀b,cx.mine b->cx.w.heap.size<=b:=fun b hb=>hb.elim id (fun h=>(hown b h).elim)
  have b2:=(oD (ks:=[2,3]) (i:=0) (m:=false) (x:=.live true false [.v (yv l)]) (y:=.live false false [.v (yv l)]) (M':=fun b=>W1.heap.size<=b) rfl rfl trivial (hrep1.bk 2) (fun _ h=>by cases h) (fun _ b hlt _ hM=>absurd hM (Nat.not_le_of_lt hlt))).1
  have b3:=(oD (ks:=[2,3]) (i:=1) (m:=false) (x:=.live true false [.f 103 [.p 2 0,.p 3 0]]) (y:=.live false false [.f 103 [.p 0 0,.p 1 0]]) (M':=fun b=>W1.heap.size<=b) rfl rfl trivial (hrep1.bk 3) (fun _ h=>by cases h) (fun _ b hlt _ hM=>absurd hM (Nat.not_le_of_lt hlt))).1
  have hS2:∀k,k < 2->∀b o n,eP ρ1 [2,3] k=some (b,o,n)->¬S0 b:=fun k hk b o n h hSb=>by
   have hlt:=hB _ _ _ h0 b hSb
   have own:∀j,(z21 l p d).fs.bk j≠.un->((z21 l p d).fs.bk j).own->ρ1 j=some (b,o,n)->False:=fun j _ hj hρ=>by
    have hb:=hrep1.bk j
    cases hx:(z21 l p d).fs.bk j with
    | un=>rw [hx] at hj;exact hj
    | dead=>rw [hx] at hj;exact hj
    | map es =>
     rw [hx] at hb
     obtain⟨b',n',arr,q1,q2,_⟩:=hb
     rw [hρ] at q1;cases q1
     have:=own2 b q2;omega
    | live ow sy cs=>cases ow with
     | false=>rw [hx] at hj;exact hj
     | true =>
      rw [hx] at hb
      rcases hb with⟨q,_⟩ | ⟨b',vs,rest,ty,q1,q2,_⟩
      ·rw [hρ] at q;cases q
      ·rw [hρ] at q1;cases q1
       have:=own2 b q2;omega
   match k,hk with
   | 0,_=>exact own 2 (by simp [z21,LS.fs]) (by trivial) h
   | 1,_=>exact own 3 (by simp [z21,LS.fs]) (by trivial) h
  refine aJd aVl (g:=103) (caps:=vs) hv aMi ((aCj (l:=l) hJ hX hB hY d hd) p 0 S0 W1 (eP ρ1 [2,3]) (a1.tmps.getD 7 undef::a1.tmps.getD 8 undef::vs) ?_ b2 b3 hS2 (hJ _ _ _ _ h0 hbel hrep1.kept.drawn) (fun j x hj=>by rw [Nat.zero_add];exact hj)) (fun e Wd' hR=>?_)
  ·exact pM (sO (ks:=[2,3]) (.a (cP p)) (.a (cP p)) _ rfl r2') (pM (sO (ks:=[2,3]) (iv (d:Nat)) (iv (d:Nat)) _ rfl r3') (renL_rel (ks:=[2,3]) [.p 2 0,.p 3 0] [.p 0 0,.p 1 0] vs rfl hc))
  ·have fin:∀v:Bool,e=.returned (.bool v)->(∃S',(J (bI d p).length S' Wd'\/Jx S' Wd')/\Kept W1 S0 Wd')->∃v,e=.returned v/\wpOpsIn (Fw none) 9 Tryz.prog O2 (dJ none 9 Tryz.prog (bodyPost Tryz.prog Tryz.f102 (fun e Wd'=>(∃v,e=.returned v)/\∃S',(J (bI d p).length S' Wd'\/Jx S' Wd')/\Kept cx.w S0 Wd')) []) (List.range' ((O2.toList.take 3).length+1) 0) (a1.put o2.dst v) Wd':=fun v he ⟨S',hj',hk'⟩=>by
    refine⟨_,he,?_⟩
    simp only [List.range'_zero,wpOpsIn,dJ]
    refine⟨?_,_,aGa (by kernel_rfl),⟨_,rfl⟩,S',hj',?_⟩
    ·exact hrep1.defs
    ·exact(Kept.of_below S0 hbel hrep1.kept.drawn).trans hk' (fun b hb _=>hb)
   rcases hR with⟨he,S',hj',hk',_⟩ | ⟨he,S',hj',hk'⟩
   ·exact fin true he ⟨S',.inl (by rwa [Nat.zero_add] at hj'),hk'⟩
   ·exact fin false he ⟨S',.inr hj',hk'⟩
 have e:((Value.func (.yield l) #[] #[])::lb).toArray=#[.func (.yield l) #[] #[]]++lb.toArray:=by apply Array.ext';simp
 rw [←e];exact hcon
theorem aCk (p:Zt×Zt×Zt)(d:Int)(h:0<=d/\d<=3):aQa Tryz.prog 102 [.p 0 0,.p 1 0] [.live false false (cP p),.live false false [iv d]] aBu (bI (tN d) p):=by
 have:=aMk p d.toNat (by omega)
 rwa [Int.toNat_of_nonneg h.1] at this
theorem aS9 {p:Zt×Zt×Zt} {d:Int} (h:0<=d/\d<=3) {i:Nat} {x:Zt×Zt×Zt} (hx:(bI (tN d) p)[i]? = some x):i < 64:=by
 have hl:=(List.getElem?_eq_some_iff.1 hx).1
 rw [wN] at hl
 have:tN d<=3:=by omega
 have:4 ^ tN d<=4 ^ 3:=Nat.pow_le_pow_right (by omega) this
 omega
end Go.Proofs.YtcmdknehplnpfaaGreat
namespace Go.Proofs.YtcmdknehplnpfaaGreat
open Go.Proofs Go.Aw Go.RowKit
set_option maxRecDepth 100000
def oR (a0:Int)(a1:Int)(a2:Int):Bool :=
 (bif (decide ((a1:Int)<=a0)) then
  (decide ((a0:Int)<=a2))
 else
  false)
theorem C53 (a0:Int)(a1:Int)(a2:Int):Con Tryz.prog 53 [(iv a0),(iv a1),(iv a2)] [] (.v (.bool (oR a0 a1 a2))) []:=by
 refine aK Tryz.func53 (by kernel_rfl) fun cx hcx=>?_
 cases h0:(decide ((a1:Int)<=a0)) with
 | true =>
  have q0:=bS h0
  have e:=Eq.refl (oR a0 a1 a2);conv at e=>rhs;simp only [oR,h0,aJ]
  rw [e]
  exact rt [.d h0] [] [] hcx (by kernel_rfl)
 | false =>
  have q0:=cE h0
  have e:=Eq.refl (oR a0 a1 a2);conv at e=>rhs;simp only [oR,h0,aJ]
  rw [e]
  exact rt [.d h0] [] [] hcx (by kernel_rfl)
def F87 (a0:Zt)(a1:Int):Bool :=
 (bif (oR a0.1 (W (0 - a1)) a1) then
  (bif (oR a0.2.1 (W (0 - a1)) a1) then
   (oR a0.2.2 (W (0 - a1)) a1)
  else
   false)
 else
  false)
theorem C87 (a0:Zt)(a1:Int):Con Tryz.prog 87 [(.a (k3 a0)),(iv a1)] [] (.v (.bool (F87 a0 a1))) []:=by
 refine aK Tryz.func87 (by kernel_rfl) fun cx hcx=>?_
 let t0:List (St Tryz.prog):=[.c [] (C53 a0.1 (W (0 - a1)) a1)]
 cases h0:(oR a0.1 (W (0 - a1)) a1) with
 | true =>
  let t1:List (St Tryz.prog):=(t0++[.d h0,.c [] (C53 a0.2.1 (W (0 - a1)) a1)])
  cases h1:(oR a0.2.1 (W (0 - a1)) a1) with
  | true =>
   have e:=Eq.refl (F87 a0 a1);conv at e=>rhs;simp only [F87,h0,h1,aJ]
   rw [e]
   exact rt (t1++[.d h1,.c [] (C53 a0.2.2 (W (0 - a1)) a1)]) [] [] hcx (by kernel_rfl)
  | false =>
   have e:=Eq.refl (F87 a0 a1);conv at e=>rhs;simp only [F87,h0,h1,aJ]
   rw [e]
   exact rt (t1++[.d h1]) [] [] hcx (by kernel_rfl)
 | false =>
  have e:=Eq.refl (F87 a0 a1);conv at e=>rhs;simp only [F87,h0,aJ]
  rw [e]
  exact rt (t0++[.d h0]) [] [] hcx (by kernel_rfl)
def aKx (a0:Zt)(a1:Int)(a2:Zt):Zt :=
 ((W (a0.1+(W (a1*a2.1)))),(W (a0.2.1+(W (a1*a2.2.1)))),(W (a0.2.2+(W (a1*a2.2.2)))))
theorem aYz (a0:Zt)(a1:Int)(a2:Zt):Con Tryz.prog 146 [(.a (k3 a0)),(iv a1),(.a (k3 a2))] [] (.a (k3 (aKx a0 a1 a2))) []:=by
 refine aK Tryz.func146 (by kernel_rfl) fun cx hcx=>?_
 have e:=Eq.refl (aKx a0 a1 a2);conv at e=>rhs;simp only [aKx]
 rw [e]
 exact rt [] [] [] hcx (by kernel_rfl)
def zR (a0:Zt)(a1:Zt):Zt :=
 (aKx a0 (-1) a1)
theorem aVm (a0:Zt)(a1:Zt):Con Tryz.prog 123 [(.a (k3 a0)),(.a (k3 a1))] [] (.a (k3 (zR a0 a1))) []:=by
 refine aK Tryz.func123 (by kernel_rfl) fun cx hcx=>?_
 have e:=Eq.refl (zR a0 a1);conv at e=>rhs;simp only [zR]
 rw [e]
 exact rt [.c [] (aYz a0 (-1) a1)] [] [] hcx (by kernel_rfl)
def aHg (a0:Zt)(a1:Zt):Zt :=
 ((W ((W (a0.2.1*a1.2.2)) - (W (a0.2.2*a1.2.1)))),(W ((W (a0.2.2*a1.1)) - (W (a0.1*a1.2.2)))),(W ((W (a0.1*a1.2.1)) - (W (a0.2.1*a1.1)))))
theorem aVn (a0:Zt)(a1:Zt):Con Tryz.prog 122 [(.a (k3 a0)),(.a (k3 a1))] [] (.a (k3 (aHg a0 a1))) []:=by
 refine aK Tryz.func122 (by kernel_rfl) fun cx hcx=>?_
 have e:=Eq.refl (aHg a0 a1);conv at e=>rhs;simp only [aHg]
 rw [e]
 exact rt [] [] [] hcx (by kernel_rfl)
def F88 (a0:Zt×Zt×Zt):Zt :=
 (aHg (zR a0.2.1 a0.1) (zR a0.2.2 a0.1))
theorem C88 (a0:Zt×Zt×Zt):Con Tryz.prog 88 [(.a (k9 a0))] [] (.a (k3 (F88 a0))) []:=by
 refine aK Tryz.func88 (by kernel_rfl) fun cx hcx=>?_
 have e:=Eq.refl (F88 a0);conv at e=>rhs;simp only [F88]
 rw [e]
 exact rt [.c [] (aVm a0.2.1 a0.1),.c [] (aVm a0.2.2 a0.1),.c [] (aVn (zR a0.2.1 a0.1) (zR a0.2.2 a0.1))] [] [] hcx (by kernel_rfl)
def zS (a0:Zt×Zt×Zt):Int :=
 (bif (!(F87 a0.1 64)) then
  1
 else
  (bif (!(F87 a0.2.1 64)) then
   1
  else
   (bif (!(F87 a0.2.2 64)) then
    1
   else
    (bif ((((F88 a0).1:Int) == 0)&&((((F88 a0).2.1:Int) == 0)&&((((F88 a0).2.2:Int) == 0)&&true))) then
     6
    else
     0))))
theorem C94 (a0:Zt×Zt×Zt):Con Tryz.prog 94 [(.a (k9 a0))] [] (iv (zS a0)) []:=by
 refine aK Tryz.func94 (by kernel_rfl) fun cx hcx=>?_
 let t0:List (St Tryz.prog):=[.c [] (C87 a0.1 64)]
 cases h0:(!(F87 a0.1 64)) with
 | true =>
  have e:=Eq.refl (zS a0);conv at e=>rhs;simp only [zS,h0,aJ]
  rw [e]
  exact rt (t0++[.d h0]) [] [] hcx (by kernel_rfl)
 | false =>
  let t1:List (St Tryz.prog):=(t0++[.d h0,.c [] (C87 a0.2.1 64)])
  cases h1:(!(F87 a0.2.1 64)) with
  | true =>
   have e:=Eq.refl (zS a0);conv at e=>rhs;simp only [zS,h0,h1,aJ]
   rw [e]
   exact rt (t1++[.d h1]) [] [] hcx (by kernel_rfl)
  | false =>
   let t2:List (St Tryz.prog):=(t1++[.d h1,.c [] (C87 a0.2.2 64)])
   cases h2:(!(F87 a0.2.2 64)) with
   | true =>
    have e:=Eq.refl (zS a0);conv at e=>rhs;simp only [zS,h0,h1,h2,aJ]
    rw [e]
    exact rt (t2++[.d h2]) [] [] hcx (by kernel_rfl)
   | false =>
    let t3:List (St Tryz.prog):=(t2++[.d h2,.c [] (C88 a0)])
    cases h3:((((F88 a0).1:Int) == 0)&&((((F88 a0).2.1:Int) == 0)&&((((F88 a0).2.2:Int) == 0)&&true))) with
    | true =>
     have e:=Eq.refl (zS a0);conv at e=>rhs;simp only [zS,h0,h1,h2,h3,aJ]
     rw [e]
     exact rt (t3++[.d h3]) [] [] hcx (by kernel_rfl)
    | false =>
     have e:=Eq.refl (zS a0);conv at e=>rhs;simp only [zS,h0,h1,h2,h3,aJ]
     rw [e]
     exact rt (t3++[.d h3]) [] [] hcx (by kernel_rfl)
def F95 (a0:Int)(a1:Int)(a2:Int):Bool :=
 (bif (decide ((a0:Int)≥a1)) then
  (decide ((a0:Int)<=a2))
 else
  false)
theorem C95 (a0:Int)(a1:Int)(a2:Int):Con Tryz.prog 95 [(iv a0),(iv a1),(iv a2)] [] (.v (.bool (F95 a0 a1 a2))) []:=by
 refine aK Tryz.func95 (by kernel_rfl) fun cx hcx=>?_
 cases h0:(decide ((a0:Int)≥a1)) with
 | true =>
  have q0:=bS h0
  have e:=Eq.refl (F95 a0 a1 a2);conv at e=>rhs;simp only [F95,h0,aJ]
  rw [e]
  exact rt [.d h0] [] [] hcx (by kernel_rfl)
 | false =>
  have q0:=cE h0
  have e:=Eq.refl (F95 a0 a1 a2);conv at e=>rhs;simp only [F95,h0,aJ]
  rw [e]
  exact rt [.d h0] [] [] hcx (by kernel_rfl)
def uR (a0:Zt×Zt×Zt)(a1:Zt×Zt×Zt)(a2:Int):Int :=
 (bif (((zS a0):Int) != 0) then
  (zS a0)
 else
  (bif (((zS a1):Int) != 0) then
   (zS a1)
  else
   (bif (!(F95 a2 0 2)) then
    1
   else
    0)))
theorem C64 (a0:Zt×Zt×Zt)(a1:Zt×Zt×Zt)(a2:Int):Con Tryz.prog 64 [(.a (k9 a0)),(.a (k9 a1)),(iv a2)] [] (iv (uR a0 a1 a2)) []:=by
 refine aK Tryz.func64 (by kernel_rfl) fun cx hcx=>?_
 let t0:List (St Tryz.prog):=[.c [] (C94 a0)]
 cases h0:(((zS a0):Int) != 0) with
 | true =>
  have q0:=bne_iff_ne.1 h0
  have e:=Eq.refl (uR a0 a1 a2);conv at e=>rhs;simp only [uR,h0,aJ]
  rw [e]
  exact rt (t0++[.d h0]) [] [] hcx (by kernel_rfl)
 | false =>
  have q0:=bne_eq_false_iff_eq.1 h0
  let t1:List (St Tryz.prog):=(t0++[.d h0,.c [] (C94 a1)])
  cases h1:(((zS a1):Int) != 0) with
  | true =>
   have q1:=bne_iff_ne.1 h1
   have e:=Eq.refl (uR a0 a1 a2);conv at e=>rhs;simp only [uR,h0,h1,aJ]
   rw [e]
   exact rt (t1++[.d h1]) [] [] hcx (by kernel_rfl)
  | false =>
   have q1:=bne_eq_false_iff_eq.1 h1
   let t2:List (St Tryz.prog):=(t1++[.d h1,.c [] (C95 a2 0 2)])
   cases h2:(!(F95 a2 0 2)) with
   | true =>
    have e:=Eq.refl (uR a0 a1 a2);conv at e=>rhs;simp only [uR,h0,h1,h2,aJ]
    rw [e]
    exact rt (t2++[.d h2]) [] [] hcx (by kernel_rfl)
   | false =>
    have e:=Eq.refl (uR a0 a1 a2);conv at e=>rhs;simp only [uR,h0,h1,h2,aJ]
    rw [e]
    exact rt (t2++[.d h2]) [] [] hcx (by kernel_rfl)
noncomputable def aDw:Code:=(aC [1,1,0,1] [] (aG Tryz.f127) []).1
noncomputable def aDx:List K:=(aC [1,1,0,1] [] (aG Tryz.f127) []).2
def xO (a0:Int)(v1 v2:Int):LS:=⟨fU 22 [(0,(iv a0)),(3,(iv v1)),(4,(iv v2))],[]⟩
def lN (a0:Int):Int×Int->(Int×Int)⊕(Int)
 | (v1,v2) =>
  (bif (decide ((v2:Int) > 0)) then
   (bif (decide (((W ((W (v1+v2))*(W (v1+v2)))):Int)<=a0)) then
    (.inl ((W (v1+v2)),(v2 / 2)))
   else
    (.inl (v1,(v2 / 2))))
  else
   (.inr v1))
theorem aTa (a0:Int) {cx:Cx} (hcx:cx.base=0):∀(n:Nat) (v1 v2:Int),True->tN v2 < n->Aw.Good Tryz.prog none 9 (bodyPost Tryz.prog Tryz.f127 (RR cx (iv (aB (lN a0) n (v1,v2))) [] [])) cx [] (.l aDw n::aDx) (xO a0 v1 v2):=by
 intro n
 induction n with
 | zero=>intro v1 v2 hi hn;exact absurd hn (fZ _)
 | succ n ih =>
  intro v1 v2 hi hn
  refine aH ?_
  cases h0:(decide ((v2:Int) > 0)) with
  | true =>
   have q0:=bS h0
   let t1:List (St Tryz.prog):=[.d h0]
   cases h1:(decide (((W ((W (v1+v2))*(W (v1+v2)))):Int)<=a0)) with
   | true =>
    have q1:=bS h1
    have e:=Eq.refl (lN a0 (v1,v2));conv at e=>rhs;simp only [lN,h0,h1,aJ]
    rw [aA e]
    refine ba (t1++[.d h1,.p (show 0<=(1:Int) from by decide)]) [] [0,3,4] [] hcx (m:=n) aDw (aDx) (xO a0 (W (v1+v2)) (Int.fdiv v2 (2 ^ (min (tN 1) 64)))) (by kernel_rfl) ?_
    have z0:(Int.fdiv v2 (2 ^ (min (tN 1) 64)))=(v2 / 2):=aDs _ 1 (by decide)
    rw [z0]
    exact ih (W (v1+v2)) (v2 / 2) trivial (by(try simp only [Ls]);omega)
   | false =>
    have q1:=cE h1
    have e:=Eq.refl (lN a0 (v1,v2));conv at e=>rhs;simp only [lN,h0,h1,aJ]
    rw [aA e]
    refine ba (t1++[.d h1,.p (show 0<=(1:Int) from by decide)]) [] [0,3,4] [] hcx (m:=n) aDw (aDx) (xO a0 v1 (Int.fdiv v2 (2 ^ (min (tN 1) 64)))) (by kernel_rfl) ?_
    have z0:(Int.fdiv v2 (2 ^ (min (tN 1) 64)))=(v2 / 2):=aDs _ 1 (by decide)
    rw [z0]
    exact ih v1 (v2 / 2) trivial (by(try simp only [Ls]);omega)
  | false =>
   have q0:=cE h0
   have e:=Eq.refl (lN a0 (v1,v2));conv at e=>rhs;simp only [lN,h0,aJ]
   rw [aD,e]
   exact rt [.d h0] [] [] hcx (by kernel_rfl)
def jQ (a0:Int):Int :=
 (aB (lN a0) (tN 1073741824+1) (0,1073741824))
theorem aVo (a0:Int):Con Tryz.prog 127 [(iv a0)] [] (iv (jQ a0)) []:=by
 refine aK Tryz.func127 (by kernel_rfl) fun cx hcx=>?_
 have e:=Eq.refl (jQ a0);conv at e=>rhs;simp only [jQ]
 rw [e]
 refine en [] [] [0,3,4] [] hcx aDw (aDx) (xO a0 0 1073741824) (tN 1073741824+1) (by kernel_rfl) ?_
 exact aTa a0 hcx (tN 1073741824+1) 0 1073741824 trivial (by(try simp only [Ls]);omega)
def zT (a0:(Int)×(Int)×(Int)):Int :=
 (W ((W ((W (0+a0.1))+a0.2.1))+a0.2.2))
theorem aTb (a0:(Int)×(Int)×(Int)):Con Tryz.prog 147 [(.s 0 0 3 1)] [(.live false false (k3 a0))] (iv (zT a0)) []:=by
 refine aK Tryz.func147 (by kernel_rfl) fun cx hcx=>?_
 have e:=Eq.refl (zT a0);conv at e=>rhs;simp only [zT]
 rw [e]
 exact rt [.u 200,.T,.i 0 3 (by decide),.u 0,.T,.i 1 3 (by decide),.u 0,.T,.i 2 3 (by decide),.u 0,.F] [] [] hcx (by kernel_rfl)
def iO (a0:Zt)(a1:Zt):Int :=
 (zT ((W (a0.1*a1.1)),(W (a0.2.1*a1.2.1)),(W (a0.2.2*a1.2.2))))
theorem aTc (a0:Zt)(a1:Zt):Con Tryz.prog 128 [(.a (k3 a0)),(.a (k3 a1))] [] (iv (iO a0 a1)) []:=by
 refine aK Tryz.func128 (by kernel_rfl) fun cx hcx=>?_
 have e:=Eq.refl (iO a0 a1);conv at e=>rhs;simp only [iO]
 rw [e]
 exact rt [.c [2] (aTb ((W (a0.1*a1.1)),(W (a0.2.1*a1.2.1)),(W (a0.2.2*a1.2.2))))] [] [] hcx (by kernel_rfl)
def bJ (a0:Zt)(a1:Zt):Zt :=
 ((W (a0.1 - a1.1)),(W (a0.2.1 - a1.2.1)),(W (a0.2.2 - a1.2.2)))
theorem aTd (a0:Zt)(a1:Zt):Con Tryz.prog 126 [(.a (k3 a0)),(.a (k3 a1))] [] (.a (k3 (bJ a0 a1))) []:=by
 refine aK Tryz.func126 (by kernel_rfl) fun cx hcx=>?_
 have e:=Eq.refl (bJ a0 a1);conv at e=>rhs;simp only [bJ]
 rw [e]
 exact rt [] [] [] hcx (by kernel_rfl)
def fX (a0:Zt)(a1:Zt):Zt :=
 ((W ((W (a0.2.1*a1.2.2)) - (W (a0.2.2*a1.2.1)))),(W ((W (a0.2.2*a1.1)) - (W (a0.1*a1.2.2)))),(W ((W (a0.1*a1.2.1)) - (W (a0.2.1*a1.1)))))
theorem aY0 (a0:Zt)(a1:Zt):Con Tryz.prog 125 [(.a (k3 a0)),(.a (k3 a1))] [] (.a (k3 (fX a0 a1))) []:=by
 refine aK Tryz.func125 (by kernel_rfl) fun cx hcx=>?_
 have e:=Eq.refl (fX a0 a1);conv at e=>rhs;simp only [fX]
 rw [e]
 exact rt [] [] [] hcx (by kernel_rfl)
def aQ (a0:Zt×Zt×Zt):Zt×Zt :=
 (((if(a0.2.2.1:Int) < (if(a0.2.1.1:Int) < (if(a0.1.1:Int) < a0.1.1 then a0.1.1 else a0.1.1) then a0.2.1.1 else(if(a0.1.1:Int) < a0.1.1 then a0.1.1 else a0.1.1)) then a0.2.2.1 else(if(a0.2.1.1:Int) < (if(a0.1.1:Int) < a0.1.1 then a0.1.1 else a0.1.1) then a0.2.1.1 else(if(a0.1.1:Int) < a0.1.1 then a0.1.1 else a0.1.1))),(if(a0.2.2.2.1:Int) < (if(a0.2.1.2.1:Int) < (if(a0.1.2.1:Int) < a0.1.2.1 then a0.1.2.1 else a0.1.2.1) then a0.2.1.2.1 else(if(a0.1.2.1:Int) < a0.1.2.1 then a0.1.2.1 else a0.1.2.1)) then a0.2.2.2.1 else(if(a0.2.1.2.1:Int) < (if(a0.1.2.1:Int) < a0.1.2.1 then a0.1.2.1 else a0.1.2.1) then a0.2.1.2.1 else(if(a0.1.2.1:Int) < a0.1.2.1 then a0.1.2.1 else a0.1.2.1))),(if(a0.2.2.2.2:Int) < (if(a0.2.1.2.2:Int) < (if(a0.1.2.2:Int) < a0.1.2.2 then a0.1.2.2 else a0.1.2.2) then a0.2.1.2.2 else(if(a0.1.2.2:Int) < a0.1.2.2 then a0.1.2.2 else a0.1.2.2)) then a0.2.2.2.2 else(if(a0.2.1.2.2:Int) < (if(a0.1.2.2:Int) < a0.1.2.2 then a0.1.2.2 else a0.1.2.2) then a0.2.1.2.2 else(if(a0.1.2.2:Int) < a0.1.2.2 then a0.1.2.2 else a0.1.2.2)))),((if((if((if(a0.1.1:Int) < a0.1.1 then a0.1.1 else a0.1.1):Int) < a0.2.1.1 then a0.2.1.1 else(if(a0.1.1:Int) < a0.1.1 then a0.1.1 else a0.1.1)):Int) < a0.2.2.1 then a0.2.2.1 else(if((if(a0.1.1:Int) < a0.1.1 then a0.1.1 else a0.1.1):Int) < a0.2.1.1 then a0.2.1.1 else(if(a0.1.1:Int) < a0.1.1 then a0.1.1 else a0.1.1))),(if((if((if(a0.1.2.1:Int) < a0.1.2.1 then a0.1.2.1 else a0.1.2.1):Int) < a0.2.1.2.1 then a0.2.1.2.1 else(if(a0.1.2.1:Int) < a0.1.2.1 then a0.1.2.1 else a0.1.2.1)):Int) < a0.2.2.2.1 then a0.2.2.2.1 else(if((if(a0.1.2.1:Int) < a0.1.2.1 then a0.1.2.1 else a0.1.2.1):Int) < a0.2.1.2.1 then a0.2.1.2.1 else(if(a0.1.2.1:Int) < a0.1.2.1 then a0.1.2.1 else a0.1.2.1))),(if((if((if(a0.1.2.2:Int) < a0.1.2.2 then a0.1.2.2 else a0.1.2.2):Int) < a0.2.1.2.2 then a0.2.1.2.2 else(if(a0.1.2.2:Int) < a0.1.2.2 then a0.1.2.2 else a0.1.2.2)):Int) < a0.2.2.2.2 then a0.2.2.2.2 else(if((if(a0.1.2.2:Int) < a0.1.2.2 then a0.1.2.2 else a0.1.2.2):Int) < a0.2.1.2.2 then a0.2.1.2.2 else(if(a0.1.2.2:Int) < a0.1.2.2 then a0.1.2.2 else a0.1.2.2)))))
theorem aMl (a0:Zt×Zt×Zt):Con Tryz.prog 130 [(.s 0 0 3 3)] [(.live false false (k9 a0))] (.t [(.a (k3 (aQ a0).1)),(.a (k3 (aQ a0).2))]) []:=by
 refine aK Tryz.func130 (by kernel_rfl) fun cx hcx=>?_
 have e:=Eq.refl (aQ a0);conv at e=>rhs;simp only [aQ]
 rw [e]
 exact rt [.i 0 3 (by decide),.i 0 3 (by decide),.u 200,.T,.i 0 3 (by decide),.u 0,.T,.i 1 3 (by decide),.u 0,.T,.i 2 3 (by decide),.u 0,.F] [] [] hcx (by kernel_rfl)
def kP (a0:Int)(a1:Int)(a2:Int)(a3:Int):Int :=
 (if((if(0:Int) < (W (a2 - a1)) then(W (a2 - a1)) else 0):Int) < (W (a0 - a3)) then(W (a0 - a3)) else(if(0:Int) < (W (a2 - a1)) then(W (a2 - a1)) else 0))
theorem aTe (a0:Int)(a1:Int)(a2:Int)(a3:Int):Con Tryz.prog 131 [(iv a0),(iv a1),(iv a2),(iv a3)] [] (iv (kP a0 a1 a2 a3)) []:=by
 refine aK Tryz.func131 (by kernel_rfl) fun cx hcx=>?_
 have e:=Eq.refl (kP a0 a1 a2 a3);conv at e=>rhs;simp only [kP]
 rw [e]
 exact rt [] [] [] hcx (by kernel_rfl)
def bL (a0:Zt×Zt×Zt)(a1:Zt×Zt×Zt):Int :=
 (iO ((kP (aQ a0).1.1 (aQ a0).2.1 (aQ a1).1.1 (aQ a1).2.1),(kP (aQ a0).1.2.1 (aQ a0).2.2.1 (aQ a1).1.2.1 (aQ a1).2.2.1),(kP (aQ a0).1.2.2 (aQ a0).2.2.2 (aQ a1).1.2.2 (aQ a1).2.2.2)) ((kP (aQ a0).1.1 (aQ a0).2.1 (aQ a1).1.1 (aQ a1).2.1),(kP (aQ a0).1.2.1 (aQ a0).2.2.1 (aQ a1).1.2.1 (aQ a1).2.2.1),(kP (aQ a0).1.2.2 (aQ a0).2.2.2 (aQ a1).1.2.2 (aQ a1).2.2.2)))
theorem aGc (a0:Zt×Zt×Zt)(a1:Zt×Zt×Zt):Con Tryz.prog 100 [(.s 0 0 3 3),(.s 1 0 3 3)] [(.live false false (k9 a0)),(.live false false (k9 a1))] (iv (bL a0 a1)) []:=by
 refine aK Tryz.func100 (by kernel_rfl) fun cx hcx=>?_
 have e:=Eq.refl (bL a0 a1);conv at e=>rhs;simp only [bL]
 rw [e]
 exact rt [.c [0] (aMl a0),.c [1] (aMl a1),.c [] (aTe (aQ a0).1.1 (aQ a0).2.1 (aQ a1).1.1 (aQ a1).2.1),.c [] (aTe (aQ a0).1.2.1 (aQ a0).2.2.1 (aQ a1).1.2.1 (aQ a1).2.2.1),.c [] (aTe (aQ a0).1.2.2 (aQ a0).2.2.2 (aQ a1).1.2.2 (aQ a1).2.2.2),.c [] (aTc ((kP (aQ a0).1.1 (aQ a0).2.1 (aQ a1).1.1 (aQ a1).2.1),(kP (aQ a0).1.2.1 (aQ a0).2.2.1 (aQ a1).1.2.1 (aQ a1).2.2.1),(kP (aQ a0).1.2.2 (aQ a0).2.2.2 (aQ a1).1.2.2 (aQ a1).2.2.2)) ((kP (aQ a0).1.1 (aQ a0).2.1 (aQ a1).1.1 (aQ a1).2.1),(kP (aQ a0).1.2.1 (aQ a0).2.2.1 (aQ a1).1.2.1 (aQ a1).2.2.1),(kP (aQ a0).1.2.2 (aQ a0).2.2.2 (aQ a1).1.2.2 (aQ a1).2.2.2)))] [] [] hcx (by kernel_rfl)
def dQ (x:Zt):List SV:=[(iv x.1),(iv x.2.1),(iv x.2.2)]
theorem bQ (x:Zt):(dQ x).length=3:=rfl
noncomputable def uS:Code:=(aC [1,1,0,1,0,1,1,0,1,1] [0] (aG Tryz.f99) []).1
noncomputable def uT (m0:Nat):List K:=(aC [1,1,0,1,0,1,1,0,1,1] [m0] (aG Tryz.f99) []).2
def rN (a0:List Zt)(a1:List Zt)(v5 v6 v7 v8 v9 v10:Int):LS:=⟨fU 34 [(1,(.s 1 0 a1.length 3)),(5,(iv v5)),(7,(.p 2 0)),(11,(.s 0 0 a0.length 3)),(12,(iv (a0.length:Int))),(13,(iv v6)),(17,(.s 1 0 a1.length 3)),(18,(iv (a1.length:Int))),(19,(iv v7))],[(.live false true (flat dQ a0)),(.live false true (flat dQ a1)),(.live true false [(iv v8),(iv v9),(iv v10)])]⟩
def kC (a0:List Zt)(a1:List Zt):Int×Int×Int×Zt->(Int×Int×Int×Zt)⊕((Int×Int)⊕(Int))
 | (v5,v6,v7,v8,v9,v10) =>
  (bif (decide ((v7:Int) < (a1.length:Int))) then
   (.inl ((if(v5:Int) < (iO (bJ (v8,v9,v10) (a1.getD (tN v7) dF)) (bJ (v8,v9,v10) (a1.getD (tN v7) dF))) then(iO (bJ (v8,v9,v10) (a1.getD (tN v7) dF)) (bJ (v8,v9,v10) (a1.getD (tN v7) dF))) else v5),v6,(v7+1),v8,v9,v10))
  else
   (.inr (.inl (v5,(v6+1)))))
noncomputable def pN:Code:=(aC [1,1,0,1] [] (aG Tryz.f99) []).1
noncomputable def pO:List K:=(aC [1,1,0,1] [] (aG Tryz.f99) []).2
def nF (a0:List Zt)(a1:List Zt)(v3 v4:Int):LS:=⟨fU 34 [(1,(.s 1 0 a1.length 3)),(5,(iv v3)),(11,(.s 0 0 a0.length 3)),(12,(iv (a0.length:Int))),(13,(iv v4))],[(.live false true (flat dQ a0)),(.live false true (flat dQ a1))]⟩
def gR (a0:List Zt)(a1:List Zt):Int×Int->(Int×Int)⊕(Int)
 | (v3,v4) =>
  (bif (decide ((v4:Int) < (a0.length:Int))) then
   (aB (kC a0 a1) (tN ((a1.length:Int) - 0)+1) (v3,v4,0,(a0.getD (tN v4) dF).1,(a0.getD (tN v4) dF).2.1,(a0.getD (tN v4) dF).2.2))
  else
   (.inr v3))
theorem aKy (a0:List Zt)(a1:List Zt)(l0:a0.length<=2^63-1)(l1:a1.length<=2^63-1) {cx:Cx} (hcx:cx.base=2)
 (n0:Nat) (g0:∀(v3 v4:Int),0<=v4->tN ((a0.length:Int) - v4) < n0->Aw.Good Tryz.prog none 9 (bodyPost Tryz.prog Tryz.f99 (RR cx (iv (aB (gR a0 a1) n0 (v3,v4))) [] [])) cx [] (.l pN n0::pO) (nF a0 a1 v3 v4)):∀(n:Nat) (v5 v6 v7 v8 v9 v10:Int),(0<=v7)/\((0<=v6))/\(v6 < (a0.length:Int))/\(tN ((a0.length:Int) - v6) < n0+1)->tN ((a1.length:Int) - v7) < n->Aw.Good Tryz.prog none 9 (bodyPost Tryz.prog Tryz.f99 (RR cx (iv (fG (gR a0 a1) n0 (aB (kC a0 a1) n (v5,v6,v7,v8,v9,v10)))) [] [])) cx [] (.l uS n::uT n0) (rN a0 a1 v5 v6 v7 v8 v9 v10):=by
 intro n
 induction n with
 | zero=>intro v5 v6 v7 v8 v9 v10 hi hn;exact absurd hn (fZ _)
 | succ n ih =>
  intro v5 v6 v7 v8 v9 v10 hi hn
  refine aH ?_
  cases h0:(decide ((v7:Int) < (a1.length:Int))) with
  | true =>
   have q0:=bS h0
   have e:=Eq.refl (kC a0 a1 (v5,v6,v7,v8,v9,v10));conv at e=>rhs;simp only [kC,h0,aJ]
   rw [aA e]
   refine ba [.d h0,.i v7 (a1.length),.L bQ a1 v7 0 3,.c [] (aTd (v8,v9,v10) (a1.getD (tN v7) dF)),.c [] (aTc (bJ (v8,v9,v10) (a1.getD (tN v7) dF)) (bJ (v8,v9,v10) (a1.getD (tN v7) dF)))] [] [1,5,7,11,12,13,17,18,19] [2] hcx (m:=n) uS (uT n0) (rN a0 a1 (if(v5:Int) < (iO (bJ (v8,v9,v10) (a1.getD (tN v7) dF)) (bJ (v8,v9,v10) (a1.getD (tN v7) dF))) then(iO (bJ (v8,v9,v10) (a1.getD (tN v7) dF)) (bJ (v8,v9,v10) (a1.getD (tN v7) dF))) else v5) v6 (W (v7+1)) v8 v9 v10) (by kernel_rfl) ?_
   have z0:(W (v7+1))=(v7+1):=aF (by omega) (by omega)
   rw [z0]
   exact ih (if(v5:Int) < (iO (bJ (v8,v9,v10) (a1.getD (tN v7) dF)) (bJ (v8,v9,v10) (a1.getD (tN v7) dF))) then(iO (bJ (v8,v9,v10) (a1.getD (tN v7) dF)) (bJ (v8,v9,v10) (a1.getD (tN v7) dF))) else v5) v6 (v7+1) v8 v9 v10 (by refine⟨?_,?_,?_,?_⟩<;>(try simp only [Ls])<;>first | omega | assumption | simp) (by(try simp only [Ls]);omega)
  | false =>
   have q0:=cE h0
   have e:=Eq.refl (kC a0 a1 (v5,v6,v7,v8,v9,v10));conv at e=>rhs;simp only [kC,h0,aJ]
   rw [aD,e]
   refine ba [.d h0] [] [1,5,11,12,13] [] hcx (m:=n0) pN (pO) (nF a0 a1 v5 (W (v6+1))) (by kernel_rfl) ?_
   have z0:(W (v6+1))=(v6+1):=aF (by omega) (by omega)
   rw [z0]
   exact g0 v5 (v6+1) (by(try simp only [Ls]);omega) (by(try simp only [Ls]);omega)
theorem aKz (a0:List Zt)(a1:List Zt)(l0:a0.length<=2^63-1)(l1:a1.length<=2^63-1) {cx:Cx} (hcx:cx.base=2):∀(n:Nat) (v3 v4:Int),0<=v4->tN ((a0.length:Int) - v4) < n->Aw.Good Tryz.prog none 9 (bodyPost Tryz.prog Tryz.f99 (RR cx (iv (aB (gR a0 a1) n (v3,v4))) [] [])) cx [] (.l pN n::pO) (nF a0 a1 v3 v4):=by
 intro n
 induction n with
 | zero=>intro v3 v4 hi hn;exact absurd hn (fZ _)
 | succ n ih =>
  intro v3 v4 hi hn
  refine aH ?_
  cases h0:(decide ((v4:Int) < (a0.length:Int))) with
  | true =>
   have q0:=bS h0
   have e:=Eq.refl (gR a0 a1 (v3,v4));conv at e=>rhs;simp only [gR,h0,aJ]
   rw [aD,e]
   refine en [.d h0,.i v4 (a0.length),.L bQ a0 v4 0 3] [] [1,5,7,11,12,13,17,18,19] [2] hcx uS (uT n) (rN a0 a1 v3 v4 0 ((a0.getD (tN v4) dF).1) ((a0.getD (tN v4) dF).2.1) ((a0.getD (tN v4) dF).2.2)) (tN ((a1.length:Int) - 0)+1) (by kernel_rfl) ?_
   exact aKy a0 a1 l0 l1 hcx n ih (tN ((a1.length:Int) - 0)+1) v3 v4 0 ((a0.getD (tN v4) dF).1) ((a0.getD (tN v4) dF).2.1) ((a0.getD (tN v4) dF).2.2) (by refine⟨?_,?_,?_,?_⟩<;>(try simp only [Ls])<;>first | omega | assumption | simp) (by(try simp only [Ls]);omega)
  | false =>
   have q0:=cE h0
   have e:=Eq.refl (gR a0 a1 (v3,v4));conv at e=>rhs;simp only [gR,h0,aJ]
   rw [aD,e]
   exact rt [.d h0] [] [] hcx (by kernel_rfl)
def bY (a0:List Zt)(a1:List Zt):Int :=
 (aB (gR a0 a1) (tN ((a0.length:Int) - 0)+1) (0,0))
theorem aJi (a0:List Zt)(a1:List Zt)(l0:a0.length<=2^63-1)(l1:a1.length<=2^63-1):Con Tryz.prog 99 [(.s 0 0 a0.length 3),(.s 1 0 a1.length 3)] [(.live false true (flat dQ a0)),(.live false true (flat dQ a1))] (iv (bY a0 a1)) []:=by
 refine aK Tryz.func99 (by kernel_rfl) fun cx hcx=>?_
 have e:=Eq.refl (bY a0 a1);conv at e=>rhs;simp only [bY]
 rw [e]
 refine en [] [] [1,5,11,12,13] [] hcx pN (pO) (nF a0 a1 0 0) (tN ((a0.length:Int) - 0)+1) (by kernel_rfl) ?_
 exact aKz a0 a1 l0 l1 hcx (tN ((a0.length:Int) - 0)+1) 0 0 (by(try simp only [Ls]);omega) (by(try simp only [Ls]);omega)
noncomputable def aCl:Code:=match (dL [1] [] (aG Tryz.f60)).1 with
 | .scope c=>c
 | _=>.skip
noncomputable def aGd:List K:=(dL [1] [] (aG Tryz.f60)).2
noncomputable def aVp:Code:=(findLabel aCl 0).getD .skip
def zU (a0:Int)(v1 v2:Int):LS:=⟨fU 22 [(0,(iv a0)),(3,(iv v1)),(4,(iv v2))],[]⟩
def oS (a0:Int):Int×Int->(Int×Int)⊕(Int)
 | (v1,v2) =>
  (bif ((v2:Int) == 0) then
   (.inr v1)
  else
   (bif (decide (((W ((W (v1+v2))*(W (v1+v2)))):Int)<=a0)) then
    (.inl ((W (v1+v2)),(v2 / 2)))
   else
    (.inl (v1,(v2 / 2)))))
theorem aR7 (a0:Int) {cx:Cx} (hcx:cx.base=0):∀(n:Nat) (v1 v2:Int),0<=v2->tN v2 < n->Aw.Good Tryz.prog none 9 (bodyPost Tryz.prog Tryz.f60 (RR cx (iv (aB (oS a0) n (v1,v2))) [] [])) cx [] (.c (.goto 0)::.s aCl n::aGd) (zU a0 v1 v2):=by
 intro n
 induction n with
 | zero=>intro v1 v2 hi hn;exact absurd hn (fZ _)
 | succ n ih =>
  intro v1 v2 hi hn
  refine aKt (rest:=aVp) (by kernel_rfl) ?_
  cases h0:((v2:Int) == 0) with
  | true =>
   have q0:=eq_of_beq h0
   have e:=Eq.refl (oS a0 (v1,v2));conv at e=>rhs;simp only [oS,h0,aJ]
   rw [aD,e]
   exact rt [.d h0] [] [] hcx (by kernel_rfl)
  | false =>
   have q0:=ne_of_beq_false h0
   let t1:List (St Tryz.prog):=[.d h0]
   cases h1:(decide (((W ((W (v1+v2))*(W (v1+v2)))):Int)<=a0)) with
   | true =>
    have q1:=bS h1
    have e:=Eq.refl (oS a0 (v1,v2));conv at e=>rhs;simp only [oS,h0,h1,aJ]
    rw [aA e]
    refine ga (t1++[.d h1,.p (show 0<=(1:Int) from by decide)]) [] [0,3,4] [] hcx (.goto 0) (.s aCl n::aGd) (zU a0 (W (v1+v2)) (Int.fdiv v2 (2 ^ (min (tN 1) 64)))) (by kernel_rfl) ?_
    have z0:(Int.fdiv v2 (2 ^ (min (tN 1) 64)))=(v2 / 2):=aDs _ 1 (by decide)
    rw [z0]
    exact ih (W (v1+v2)) (v2 / 2) (by(try simp only [Ls]);omega) (by omega)
   | false =>
    have q1:=cE h1
    have e:=Eq.refl (oS a0 (v1,v2));conv at e=>rhs;simp only [oS,h0,h1,aJ]
    rw [aA e]
    refine ga (t1++[.d h1,.p (show 0<=(1:Int) from by decide)]) [] [0,3,4] [] hcx (.goto 0) (.s aCl n::aGd) (zU a0 v1 (Int.fdiv v2 (2 ^ (min (tN 1) 64)))) (by kernel_rfl) ?_
    have z0:(Int.fdiv v2 (2 ^ (min (tN 1) 64)))=(v2 / 2):=aDs _ 1 (by decide)
    rw [z0]
    exact ih v1 (v2 / 2) (by(try simp only [Ls]);omega) (by omega)
def gW (a0:Int):Int :=
 (bif (decide ((4611686018427387904:Int)<=a0)) then
  (aB (oS a0) (tN 1073741824+1) (2147483648,1073741824))
 else
  (aB (oS a0) (tN 1073741824+1) (0,1073741824)))
theorem C60 (a0:Int):Con Tryz.prog 60 [(iv a0)] [] (iv (gW a0)) []:=by
 refine aK Tryz.func60 (by kernel_rfl) fun cx hcx=>?_
 cases h0:(decide ((4611686018427387904:Int)<=a0)) with
 | true =>
  have q0:=bS h0
  have e:=Eq.refl (gW a0);conv at e=>rhs;simp only [gW,h0,aJ]
  rw [e]
  refine ga [.u (tN 1073741824+1),.F,.d h0,.p (show 0<=(1:Int) from by decide)] [] [0,3,4] [] hcx (.goto 0) (.s aCl (tN 1073741824+1)::aGd) (zU a0 2147483648 1073741824) (by kernel_rfl) ?_
  exact aR7 a0 hcx (tN 1073741824+1) 2147483648 1073741824 (by(try simp only [Ls]);omega) (by omega)
 | false =>
  have q0:=cE h0
  have e:=Eq.refl (gW a0);conv at e=>rhs;simp only [gW,h0,aJ]
  rw [e]
  refine ga [.u (tN 1073741824+1),.F,.d h0,.p (show 0<=(1:Int) from by decide)] [] [0,3,4] [] hcx (.goto 0) (.s aCl (tN 1073741824+1)::aGd) (zU a0 0 1073741824) (by kernel_rfl) ?_
  exact aR7 a0 hcx (tN 1073741824+1) 0 1073741824 (by(try simp only [Ls]);omega) (by omega)
def F92 (a0:Int×Int):Bool :=
 (bif (decide ((a0.1:Int)≥(-1099511627776))) then
  (bif (decide ((a0.1:Int)<=a0.2)) then
   (decide ((a0.2:Int)<=1099511627776))
  else
   false)
 else
  false)
theorem C92 (a0:Int×Int):Con Tryz.prog 92 [(.a [(iv a0.1),(iv a0.2)])] [] (.v (.bool (F92 a0))) []:=by
 refine aK Tryz.func92 (by kernel_rfl) fun cx hcx=>?_
 cases h0:(decide ((a0.1:Int)≥(-1099511627776))) with
 | true =>
  have q0:=bS h0
  let t1:List (St Tryz.prog):=[.d h0]
  cases h1:(decide ((a0.1:Int)<=a0.2)) with
  | true =>
   have q1:=bS h1
   have e:=Eq.refl (F92 a0);conv at e=>rhs;simp only [F92,h0,h1,aJ]
   rw [e]
   exact rt (t1++[.d h1]) [] [] hcx (by kernel_rfl)
  | false =>
   have q1:=cE h1
   have e:=Eq.refl (F92 a0);conv at e=>rhs;simp only [F92,h0,h1,aJ]
   rw [e]
   exact rt (t1++[.d h1]) [] [] hcx (by kernel_rfl)
 | false =>
  have q0:=cE h0
  have e:=Eq.refl (F92 a0);conv at e=>rhs;simp only [F92,h0,aJ]
  rw [e]
  exact rt [.d h0] [] [] hcx (by kernel_rfl)
def oT (a0:Int)(a1:Int):(Int×Int)×Int :=
 (bif (!(F92 (a0,a1))) then
  ((0,0),4)
 else
  ((a0,a1),0))
theorem C61 (a0:Int)(a1:Int):Con Tryz.prog 61 [(iv a0),(iv a1)] [] (.t [(.a (k2 (oT a0 a1).1)),(iv (oT a0 a1).2)]) []:=by
 refine aK Tryz.func61 (by kernel_rfl) fun cx hcx=>?_
 let t0:List (St Tryz.prog):=[.c [] (C92 (a0,a1))]
 cases h0:(!(F92 (a0,a1))) with
 | true =>
  have e:=Eq.refl (oT a0 a1);conv at e=>rhs;simp only [oT,h0,aJ]
  rw [e]
  exact rt (t0++[.d h0]) [] [] hcx (by kernel_rfl)
 | false =>
  have e:=Eq.refl (oT a0 a1);conv at e=>rhs;simp only [oT,h0,aJ]
  rw [e]
  exact rt (t0++[.d h0]) [] [] hcx (by kernel_rfl)
def aBv (a0:Int)(a1:Int):(Int×Int)×Int :=
 (bif (((W ((W ((gW (W (Int.tdiv a0 a1)))*(gW (W (Int.tdiv a0 a1)))))*a1)):Int) == a0) then
  ((oT (gW (W (Int.tdiv a0 a1))) (gW (W (Int.tdiv a0 a1)))).1,(oT (gW (W (Int.tdiv a0 a1))) (gW (W (Int.tdiv a0 a1)))).2)
 else
  ((oT (gW (W (Int.tdiv a0 a1))) (W ((gW (W (Int.tdiv a0 a1)))+1))).1,(oT (gW (W (Int.tdiv a0 a1))) (W ((gW (W (Int.tdiv a0 a1)))+1))).2))
theorem aY1 (a0:Int)(a1:Int)(ha:a1≠0):Con Tryz.prog 129 [(iv a0),(iv a1)] [] (.t [(.a (k2 (aBv a0 a1).1)),(iv (aBv a0 a1).2)]) []:=by
 refine aK Tryz.func129 (by kernel_rfl) fun cx hcx=>?_
 let t0:List (St Tryz.prog):=[.p (show(a1:Int)≠0 from by first | omega | (rw [aF]<;>omega) | exact dM _),.c [] (C60 (W (Int.tdiv a0 a1)))]
 cases h0:(((W ((W ((gW (W (Int.tdiv a0 a1)))*(gW (W (Int.tdiv a0 a1)))))*a1)):Int) == a0) with
 | true =>
  have q0:=eq_of_beq h0
  have e:=Eq.refl (aBv a0 a1);conv at e=>rhs;simp only [aBv,h0,aJ]
  rw [e]
  exact rt (t0++[.d h0,.c [] (C61 (gW (W (Int.tdiv a0 a1))) (gW (W (Int.tdiv a0 a1))))]) [] [] hcx (by kernel_rfl)
 | false =>
  have q0:=ne_of_beq_false h0
  have e:=Eq.refl (aBv a0 a1);conv at e=>rhs;simp only [aBv,h0,aJ]
  rw [e]
  exact rt (t0++[.d h0,.c [] (C61 (gW (W (Int.tdiv a0 a1))) (W ((gW (W (Int.tdiv a0 a1)))+1)))]) [] [] hcx (by kernel_rfl)
def nT (a0:Int)(a1:Int):(Int×Int)×Int :=
 (bif (decide ((a0:Int) < 1)) then
  ((0,0),1)
 else
  (bif (decide ((a0:Int) > 1099511627776)) then
   ((0,0),1)
  else
   (bif (decide ((a1:Int) < 1)) then
    ((0,0),1)
   else
    (bif (decide ((a1:Int) > 8)) then
     ((0,0),1)
    else
     ((aBv (W ((W (a1*a1))*2 ^ (min (tN 40) 64))) a0).1,(aBv (W ((W (a1*a1))*2 ^ (min (tN 40) 64))) a0).2)))))
theorem C98 (a0:Int)(a1:Int):Con Tryz.prog 98 [(iv a0),(iv a1)] [] (.t [(.a (k2 (nT a0 a1).1)),(iv (nT a0 a1).2)]) []:=by
 refine aK Tryz.func98 (by kernel_rfl) fun cx hcx=>?_
 cases h0:(decide ((a0:Int) < 1)) with
 | true =>
  have q0:=bS h0
  have e:=Eq.refl (nT a0 a1);conv at e=>rhs;simp only [nT,h0,aJ]
  rw [e]
  exact rt [.d h0] [] [] hcx (by kernel_rfl)
 | false =>
  have q0:=cE h0
  let t1:List (St Tryz.prog):=[.d h0]
  cases h1:(decide ((a0:Int) > 1099511627776)) with
  | true =>
   have q1:=bS h1
   have e:=Eq.refl (nT a0 a1);conv at e=>rhs;simp only [nT,h0,h1,aJ]
   rw [e]
   exact rt (t1++[.d h1]) [] [] hcx (by kernel_rfl)
  | false =>
   have q1:=cE h1
   let t2:List (St Tryz.prog):=(t1++[.d h1])
   cases h2:(decide ((a1:Int) < 1)) with
   | true =>
    have q2:=bS h2
    have e:=Eq.refl (nT a0 a1);conv at e=>rhs;simp only [nT,h0,h1,h2,aJ]
    rw [e]
    exact rt (t2++[.d h2]) [] [] hcx (by kernel_rfl)
   | false =>
    have q2:=cE h2
    let t3:List (St Tryz.prog):=(t2++[.d h2])
    cases h3:(decide ((a1:Int) > 8)) with
    | true =>
     have q3:=bS h3
     have e:=Eq.refl (nT a0 a1);conv at e=>rhs;simp only [nT,h0,h1,h2,h3,aJ]
     rw [e]
     exact rt (t3++[.d h3]) [] [] hcx (by kernel_rfl)
    | false =>
     have q3:=cE h3
     have e:=Eq.refl (nT a0 a1);conv at e=>rhs;simp only [nT,h0,h1,h2,h3,aJ]
     rw [e]
     exact rt (t3++[.d h3,.p (show 0<=(40:Int) from by decide),.c [] (aY1 (W ((W (a1*a1))*2 ^ (min (tN 40) 64))) a0  (by(try simp only [Lt]);omega))]) [] [] hcx (by kernel_rfl)
def fO (a0:Int×Int):Int :=
 (bif (!(F92 a0)) then
  1
 else
  0)
theorem aMm (a0:Int×Int):Con Tryz.prog 133 [(.s 0 0 1 2)] [(.live false false [(iv a0.1),(iv a0.2)])] (iv (fO a0)) []:=by
 refine aK Tryz.func133 (by kernel_rfl) fun cx hcx=>?_
 let t0:List (St Tryz.prog):=[.u 200,.T,.i 0 1 (by decide),.c [] (C92 a0)]
 cases h0:(!(F92 a0)) with
 | true =>
  have e:=Eq.refl (fO a0);conv at e=>rhs;simp only [fO,h0,aJ]
  rw [e]
  exact rt (t0++[.d h0]) [] [] hcx (by kernel_rfl)
 | false =>
  have e:=Eq.refl (fO a0);conv at e=>rhs;simp only [fO,h0,aJ]
  rw [e]
  exact rt (t0++[.d h0,.u 0,.F]) [] [] hcx (by kernel_rfl)
def qK (a0:Int)(a1:Int):Int :=
 (bif (((Int.tmod a0 a1):Int) != 0) then
  (bif (!((decide ((a0:Int) < 0)) == (decide ((a1:Int) < 0)))) then
   (W ((W (Int.tdiv a0 a1)) - 1))
  else
   (W (Int.tdiv a0 a1)))
 else
  (W (Int.tdiv a0 a1)))
theorem aTf (a0:Int)(a1:Int)(ha:a1≠0):Con Tryz.prog 106 [(iv a0),(iv a1)] [] (iv (qK a0 a1)) []:=by
 refine aK Tryz.func106 (by kernel_rfl) fun cx hcx=>?_
 let t0:List (St Tryz.prog):=[.p (show(a1:Int)≠0 from by first | omega | (rw [aF]<;>omega) | exact dM _),.p (show(a1:Int)≠0 from by first | omega | (rw [aF]<;>omega) | exact dM _)]
 cases h0:(((Int.tmod a0 a1):Int) != 0) with
 | true =>
  have q0:=bne_iff_ne.1 h0
  let t1:List (St Tryz.prog):=(t0++[.d h0])
  cases h1:(!((decide ((a0:Int) < 0)) == (decide ((a1:Int) < 0)))) with
  | true =>
   have e:=Eq.refl (qK a0 a1);conv at e=>rhs;simp only [qK,h0,h1,aJ]
   rw [e]
   exact rt (t1++[.d h1]) [] [] hcx (by kernel_rfl)
  | false =>
   have e:=Eq.refl (qK a0 a1);conv at e=>rhs;simp only [qK,h0,h1,aJ]
   rw [e]
   exact rt (t1++[.d h1]) [] [] hcx (by kernel_rfl)
 | false =>
  have q0:=bne_eq_false_iff_eq.1 h0
  have e:=Eq.refl (qK a0 a1);conv at e=>rhs;simp only [qK,h0,aJ]
  rw [e]
  exact rt (t0++[.d h0]) [] [] hcx (by kernel_rfl)
def zV (a0:Int)(a1:Int):Int :=
 (W (0 - (qK (W (0 - a0)) a1)))
theorem aVq (a0:Int)(a1:Int)(ha:a1≠0):Con Tryz.prog 107 [(iv a0),(iv a1)] [] (iv (zV a0 a1)) []:=by
 refine aK Tryz.func107 (by kernel_rfl) fun cx hcx=>?_
 have e:=Eq.refl (zV a0 a1);conv at e=>rhs;simp only [zV]
 rw [e]
 exact rt [.c [] (aTf (W (0 - a0)) a1  (by(try simp only [Lt]);omega))] [] [] hcx (by kernel_rfl)
def xE (a0:Int×Int)(a1:Int):(Int×Int)×Int :=
 (bif (((fO a0):Int) != 0) then
  ((0,0),(fO a0))
 else
  (bif (decide ((a1:Int) < 1)) then
   ((0,0),1)
  else
   (bif (decide ((a1:Int) > 1099511627776)) then
    ((0,0),1)
   else
    ((oT (qK a0.1 a1) (zV a0.2 a1)).1,(oT (qK a0.1 a1) (zV a0.2 a1)).2))))
theorem aY2 (a0:Int×Int)(a1:Int):Con Tryz.prog 132 [(.a [(iv a0.1),(iv a0.2)]),(iv a1)] [] (.t [(.a (k2 (xE a0 a1).1)),(iv (xE a0 a1).2)]) []:=by
 refine aK Tryz.func132 (by kernel_rfl) fun cx hcx=>?_
 let t0:List (St Tryz.prog):=[.c [2] (aMm a0)]
 cases h0:(((fO a0):Int) != 0) with
 | true =>
  have q0:=bne_iff_ne.1 h0
  have e:=Eq.refl (xE a0 a1);conv at e=>rhs;simp only [xE,h0,aJ]
  rw [e]
  exact rt (t0++[.d h0]) [] [] hcx (by kernel_rfl)
 | false =>
  have q0:=bne_eq_false_iff_eq.1 h0
  let t1:List (St Tryz.prog):=(t0++[.d h0])
  cases h1:(decide ((a1:Int) < 1)) with
  | true =>
   have q1:=bS h1
   have e:=Eq.refl (xE a0 a1);conv at e=>rhs;simp only [xE,h0,h1,aJ]
   rw [e]
   exact rt (t1++[.d h1]) [] [] hcx (by kernel_rfl)
  | false =>
   have q1:=cE h1
   let t2:List (St Tryz.prog):=(t1++[.d h1])
   cases h2:(decide ((a1:Int) > 1099511627776)) with
   | true =>
    have q2:=bS h2
    have e:=Eq.refl (xE a0 a1);conv at e=>rhs;simp only [xE,h0,h1,h2,aJ]
    rw [e]
    exact rt (t2++[.d h2]) [] [] hcx (by kernel_rfl)
   | false =>
    have q2:=cE h2
    have e:=Eq.refl (xE a0 a1);conv at e=>rhs;simp only [xE,h0,h1,h2,aJ]
    rw [e]
    exact rt (t2++[.d h2,.c [] (aTf a0.1 a1  (by(try simp only [Lt]);omega)),.c [] (aVq a0.2 a1  (by(try simp only [Lt]);omega)),.c [] (C61 (qK a0.1 a1) (zV a0.2 a1))]) [] [] hcx (by kernel_rfl)
def cM (x:Int×Int):List SV:=[(iv x.1),(iv x.2)]
theorem bW (x:Int×Int):(cM x).length=2:=rfl
noncomputable def zW:Code:=(aC [1,0,1] [] (aG Tryz.f133) []).1
noncomputable def zX:List K:=(aC [1,0,1] [] (aG Tryz.f133) []).2
def uU (a0:List (Int×Int))(v1:Int):LS:=⟨fU 15 [(5,(.s 0 0 a0.length 2)),(6,(iv (a0.length:Int))),(7,(iv v1))],[(.live false true (flat cM a0))]⟩
def dI (a0:List (Int×Int)):Int->(Int)⊕(Int)
 | v1 =>
  (bif (decide ((v1:Int) < (a0.length:Int))) then
   (bif (!(F92 (a0.getD (tN v1) dF))) then
    (.inr 1)
   else
    (.inl (v1+1)))
  else
   (.inr 0))
theorem aMn (a0:List (Int×Int))(l0:a0.length<=2^63-1) {cx:Cx} (hcx:cx.base=1):∀(n:Nat) (v1:Int),0<=v1->tN ((a0.length:Int) - v1) < n->Aw.Good Tryz.prog none 9 (bodyPost Tryz.prog Tryz.f133 (RR cx (iv (aB (dI a0) n v1)) [] [])) cx [] (.l zW n::zX) (uU a0 v1):=by
 intro n
 induction n with
 | zero=>intro v1 hi hn;exact absurd hn (fZ _)
 | succ n ih =>
  intro v1 hi hn
  refine aH ?_
  cases h0:(decide ((v1:Int) < (a0.length:Int))) with
  | true =>
   have q0:=bS h0
   let t1:List (St Tryz.prog):=[.d h0,.i v1 (a0.length),.L bW a0 v1 0 2,.c [] (C92 (a0.getD (tN v1) dF))]
   cases h1:(!(F92 (a0.getD (tN v1) dF))) with
   | true =>
    have e:=Eq.refl (dI a0 v1);conv at e=>rhs;simp only [dI,h0,h1,aJ]
    rw [aD,e]
    exact rt (t1++[.d h1]) [] [] hcx (by kernel_rfl)
   | false =>
    have e:=Eq.refl (dI a0 v1);conv at e=>rhs;simp only [dI,h0,h1,aJ]
    rw [aA e]
    refine ba (t1++[.d h1]) [] [5,6,7] [] hcx (m:=n) zW (zX) (uU a0 (W (v1+1))) (by kernel_rfl) ?_
    have z0:(W (v1+1))=(v1+1):=aF (by omega) (by omega)
    rw [z0]
    exact ih (v1+1) (by(try simp only [Ls]);omega) (by(try simp only [Ls]);omega)
  | false =>
   have q0:=cE h0
   have e:=Eq.refl (dI a0 v1);conv at e=>rhs;simp only [dI,h0,aJ]
   rw [aD,e]
   exact rt [.d h0] [] [] hcx (by kernel_rfl)
def lO (a0:List (Int×Int)):Int :=
 (aB (dI a0) (tN ((a0.length:Int) - 0)+1) 0)
theorem aTg (a0:List (Int×Int))(l0:a0.length<=2^63-1):Con Tryz.prog 133 [(.s 0 0 a0.length 2)] [(.live false true (flat cM a0))] (iv (lO a0)) []:=by
 refine aK Tryz.func133 (by kernel_rfl) fun cx hcx=>?_
 have e:=Eq.refl (lO a0);conv at e=>rhs;simp only [lO]
 rw [e]
 refine en [] [] [5,6,7] [] hcx zW (zX) (uU a0 0) (tN ((a0.length:Int) - 0)+1) (by kernel_rfl) ?_
 exact aMn a0 l0 hcx (tN ((a0.length:Int) - 0)+1) 0 (by(try simp only [Ls]);omega) (by(try simp only [Ls]);omega)
noncomputable def zZ:Code:=(aC [1,1,1,0,1] [] (aG Tryz.f105) []).1
noncomputable def aAa:List K:=(aC [1,1,1,0,1] [] (aG Tryz.f105) []).2
def uV (a0:List (Int×Int))(v1 v2 v3:Int):LS:=⟨fU 33 [(2,(iv v1)),(3,(iv v2)),(16,(.s 0 0 a0.length 2)),(17,(iv (a0.length:Int))),(18,(iv v3))],[(.live false true (flat cM a0))]⟩
def gC (a0:List (Int×Int)):Zt->Zt⊕Zt
 | (v1,v2,v3) =>
  (bif (decide ((v3:Int) < (a0.length:Int))) then
   (.inl ((W (v1+(a0.getD (tN v3) dF).1)),(W (v2+(a0.getD (tN v3) dF).2)),(v3+1)))
  else
   (.inr (v1,v2,0)))
theorem aMo (a0:List (Int×Int))(l0:a0.length<=2^63-1) {cx:Cx} (hcx:cx.base=1):∀(n:Nat) (v1 v2 v3:Int),0<=v3->tN ((a0.length:Int) - v3) < n->Aw.Good Tryz.prog none 9 (bodyPost Tryz.prog Tryz.f105 (RR cx (.t (k3 (aB (gC a0) n (v1,v2,v3)))) [] [])) cx [] (.l zZ n::aAa) (uV a0 v1 v2 v3):=by
 intro n
 induction n with
 | zero=>intro v1 v2 v3 hi hn;exact absurd hn (fZ _)
 | succ n ih =>
  intro v1 v2 v3 hi hn
  refine aH ?_
  cases h0:(decide ((v3:Int) < (a0.length:Int))) with
  | true =>
   have q0:=bS h0
   have e:=Eq.refl (gC a0 (v1,v2,v3));conv at e=>rhs;simp only [gC,h0,aJ]
   rw [aA e]
   refine ba [.d h0,.i v3 (a0.length),.L bW a0 v3 0 2] [] [2,3,16,17,18] [] hcx (m:=n) zZ (aAa) (uV a0 (W (v1+(a0.getD (tN v3) dF).1)) (W (v2+(a0.getD (tN v3) dF).2)) (W (v3+1))) (by kernel_rfl) ?_
   have z0:(W (v3+1))=(v3+1):=aF (by omega) (by omega)
   rw [z0]
   exact ih (W (v1+(a0.getD (tN v3) dF).1)) (W (v2+(a0.getD (tN v3) dF).2)) (v3+1) (by(try simp only [Ls]);omega) (by(try simp only [Ls]);omega)
  | false =>
   have q0:=cE h0
   have e:=Eq.refl (gC a0 (v1,v2,v3));conv at e=>rhs;simp only [gC,h0,aJ]
   rw [aD,e]
   exact rt [.d h0] [] [] hcx (by kernel_rfl)
def cH (a0:List (Int×Int)):Zt :=
 (bif (decide (((a0.length:Int):Int) > 10000)) then
  (0,0,4)
 else
  (bif (((lO a0):Int) != 0) then
   (0,0,(lO a0))
  else
   (aB (gC a0) (tN ((a0.length:Int) - 0)+1) (0,0,0))))
theorem aMp (a0:List (Int×Int))(l0:a0.length<=2^63-1):Con Tryz.prog 105 [(.s 0 0 a0.length 2)] [(.live false true (flat cM a0))] (.t (k3 (cH a0))) []:=by
 refine aK Tryz.func105 (by kernel_rfl) fun cx hcx=>?_
 cases h0:(decide (((a0.length:Int):Int) > 10000)) with
 | true =>
  have q0:=bS h0
  have e:=Eq.refl (cH a0);conv at e=>rhs;simp only [cH,h0,aJ]
  rw [e]
  exact rt [.d h0] [] [] hcx (by kernel_rfl)
 | false =>
  have q0:=cE h0
  let t1:List (St Tryz.prog):=[.d h0,.c [0] (aTg a0 (by omega))]
  cases h1:(((lO a0):Int) != 0) with
  | true =>
   have q1:=bne_iff_ne.1 h1
   have e:=Eq.refl (cH a0);conv at e=>rhs;simp only [cH,h0,h1,aJ]
   rw [e]
   exact rt (t1++[.d h1]) [] [] hcx (by kernel_rfl)
  | false =>
   have q1:=bne_eq_false_iff_eq.1 h1
   have e:=Eq.refl (cH a0);conv at e=>rhs;simp only [cH,h0,h1,aJ]
   rw [e]
   refine en (t1++[.d h1]) [] [2,3,16,17,18] [] hcx zZ (aAa) (uV a0 0 0 0) (tN ((a0.length:Int) - 0)+1) (by kernel_rfl) ?_
   exact aMo a0 l0 hcx (tN ((a0.length:Int) - 0)+1) 0 0 0 (by(try simp only [Ls]);omega) (by(try simp only [Ls]);omega)
def jE (a0:List (Int×Int)):(Int×Int)×Int :=
 (bif (((cH a0).2.2:Int) != 0) then
  ((0,0),(cH a0).2.2)
 else
  ((oT (cH a0).1 (cH a0).2.1).1,(oT (cH a0).1 (cH a0).2.1).2))
theorem aTh (a0:List (Int×Int))(l0:a0.length<=2^63-1):Con Tryz.prog 112 [(.s 0 0 a0.length 2)] [(.live false true (flat cM a0))] (.t [(.a (k2 (jE a0).1)),(iv (jE a0).2)]) []:=by
 refine aK Tryz.func112 (by kernel_rfl) fun cx hcx=>?_
 let t0:List (St Tryz.prog):=[.c [0] (aMp a0 (by omega))]
 cases h0:(((cH a0).2.2:Int) != 0) with
 | true =>
  have q0:=bne_iff_ne.1 h0
  have e:=Eq.refl (jE a0);conv at e=>rhs;simp only [jE,h0,aJ]
  rw [e]
  exact rt (t0++[.d h0]) [] [] hcx (by kernel_rfl)
 | false =>
  have q0:=bne_eq_false_iff_eq.1 h0
  have e:=Eq.refl (jE a0);conv at e=>rhs;simp only [jE,h0,aJ]
  rw [e]
  exact rt (t0++[.d h0,.c [] (C61 (cH a0).1 (cH a0).2.1)]) [] [] hcx (by kernel_rfl)
def hH (a0:List (Int×Int)):(Int×Int)×Int :=
 (bif (((cH a0).2.2:Int) != 0) then
  ((0,0),(cH a0).2.2)
 else
  (bif (((a0.length:Int):Int) == 0) then
   ((0,0),1)
  else
   ((oT (qK (cH a0).1 (a0.length:Int)) (zV (cH a0).2.1 (a0.length:Int))).1,(oT (qK (cH a0).1 (a0.length:Int)) (zV (cH a0).2.1 (a0.length:Int))).2)))
theorem aVr (a0:List (Int×Int))(l0:a0.length<=2^63-1):Con Tryz.prog 68 [(.s 0 0 a0.length 2)] [(.live false true (flat cM a0))] (.t [(.a (k2 (hH a0).1)),(iv (hH a0).2)]) []:=by
 refine aK Tryz.func68 (by kernel_rfl) fun cx hcx=>?_
 let t0:List (St Tryz.prog):=[.c [0] (aMp a0 (by omega))]
 cases h0:(((cH a0).2.2:Int) != 0) with
 | true =>
  have q0:=bne_iff_ne.1 h0
  have e:=Eq.refl (hH a0);conv at e=>rhs;simp only [hH,h0,aJ]
  rw [e]
  exact rt (t0++[.d h0]) [] [] hcx (by kernel_rfl)
 | false =>
  have q0:=bne_eq_false_iff_eq.1 h0
  let t1:List (St Tryz.prog):=(t0++[.d h0])
  cases h1:(((a0.length:Int):Int) == 0) with
  | true =>
   have q1:=eq_of_beq h1
   have e:=Eq.refl (hH a0);conv at e=>rhs;simp only [hH,h0,h1,aJ]
   rw [e]
   exact rt (t1++[.d h1]) [] [] hcx (by kernel_rfl)
  | false =>
   have q1:=ne_of_beq_false h1
   have e:=Eq.refl (hH a0);conv at e=>rhs;simp only [hH,h0,h1,aJ]
   rw [e]
   exact rt (t1++[.d h1,.c [] (aTf (cH a0).1 (a0.length:Int)  (by(try simp only [Lt]);omega)),.c [] (aVq (cH a0).2.1 (a0.length:Int)  (by(try simp only [Lt]);omega)),.c [] (C61 (qK (cH a0).1 (a0.length:Int)) (zV (cH a0).2.1 (a0.length:Int)))]) [] [] hcx (by kernel_rfl)
def fD (a0:Int)(a1:Int):Int :=
 (bif ((a0:Int) != 0) then
  (bif ((a1:Int) != 0) then
   (bif (decide (((if(a1:Int) < (W (0 - a1)) then(W (0 - a1)) else a1):Int) > (W (Int.tdiv 1099511627776 (if(a0:Int) < (W (0 - a0)) then(W (0 - a0)) else a0))))) then
    (bif (!((decide ((a0:Int) < 0)) == (decide ((a1:Int) < 0)))) then
     (-1099511627777)
    else
     1099511627777)
   else
    (W (a0*a1)))
  else
   (W (a0*a1)))
 else
  (W (a0*a1)))
theorem aVs (a0:Int)(a1:Int)(ha:-1099511627776<=a0/\a0<=1099511627776):Con Tryz.prog 135 [(iv a0),(iv a1)] [] (iv (fD a0 a1)) []:=by
 refine aK Tryz.func135 (by kernel_rfl) fun cx hcx=>?_
 cases h0:((a0:Int) != 0) with
 | true =>
  have q0:=bne_iff_ne.1 h0
  let t1:List (St Tryz.prog):=[.d h0]
  cases h1:((a1:Int) != 0) with
  | true =>
   have q1:=bne_iff_ne.1 h1
   let t2:List (St Tryz.prog):=(t1++[.d h1,.p (show((if(a0:Int) < (W (0 - a0)) then(W (0 - a0)) else a0):Int)≠0 from by(have hw:=aF (n:=0 - a0) (by omega) (by omega);rw [hw];split<;>omega))])
   cases h2:(decide (((if(a1:Int) < (W (0 - a1)) then(W (0 - a1)) else a1):Int) > (W (Int.tdiv 1099511627776 (if(a0:Int) < (W (0 - a0)) then(W (0 - a0)) else a0))))) with
   | true =>
    have q2:=bS h2
    let t3:List (St Tryz.prog):=(t2++[.d h2])
    cases h3:(!((decide ((a0:Int) < 0)) == (decide ((a1:Int) < 0)))) with
    | true =>
     have e:=Eq.refl (fD a0 a1);conv at e=>rhs;simp only [fD,h0,h1,h2,h3,aJ]
     rw [e]
     exact rt (t3++[.d h3]) [] [] hcx (by kernel_rfl)
    | false =>
     have e:=Eq.refl (fD a0 a1);conv at e=>rhs;simp only [fD,h0,h1,h2,h3,aJ]
     rw [e]
     exact rt (t3++[.d h3]) [] [] hcx (by kernel_rfl)
   | false =>
    have q2:=cE h2
    have e:=Eq.refl (fD a0 a1);conv at e=>rhs;simp only [fD,h0,h1,h2,aJ]
    rw [e]
    exact rt (t2++[.d h2]) [] [] hcx (by kernel_rfl)
  | false =>
   have q1:=bne_eq_false_iff_eq.1 h1
   have e:=Eq.refl (fD a0 a1);conv at e=>rhs;simp only [fD,h0,h1,aJ]
   rw [e]
   exact rt (t1++[.d h1]) [] [] hcx (by kernel_rfl)
 | false =>
  have q0:=bne_eq_false_iff_eq.1 h0
  have e:=Eq.refl (fD a0 a1);conv at e=>rhs;simp only [fD,h0,aJ]
  rw [e]
  exact rt [.d h0] [] [] hcx (by kernel_rfl)
def F84 (a0:Int)(a1:Int)(a2:Int):Bool :=
 (bif (decide ((a0:Int)≥a1)) then
  (decide ((a0:Int)<=a2))
 else
  false)
theorem C84 (a0:Int)(a1:Int)(a2:Int):Con Tryz.prog 84 [(iv a0),(iv a1),(iv a2)] [] (.v (.bool (F84 a0 a1 a2))) []:=by
 refine aK Tryz.func84 (by kernel_rfl) fun cx hcx=>?_
 cases h0:(decide ((a0:Int)≥a1)) with
 | true =>
  have q0:=bS h0
  have e:=Eq.refl (F84 a0 a1 a2);conv at e=>rhs;simp only [F84,h0,aJ]
  rw [e]
  exact rt [.d h0] [] [] hcx (by kernel_rfl)
 | false =>
  have q0:=cE h0
  have e:=Eq.refl (F84 a0 a1 a2);conv at e=>rhs;simp only [F84,h0,aJ]
  rw [e]
  exact rt [.d h0] [] [] hcx (by kernel_rfl)
def oU (a0:Int×Int):Bool :=
 (bif (decide ((a0.1:Int)≥(-1099511627776))) then
  (bif (decide ((a0.1:Int)<=a0.2)) then
   (decide ((a0.2:Int)<=1099511627776))
  else
   false)
 else
  false)
theorem aTi (a0:Int×Int):Con Tryz.prog 117 [(.a [(iv a0.1),(iv a0.2)])] [] (.v (.bool (oU a0))) []:=by
 refine aK Tryz.func117 (by kernel_rfl) fun cx hcx=>?_
 cases h0:(decide ((a0.1:Int)≥(-1099511627776))) with
 | true =>
  have q0:=bS h0
  let t1:List (St Tryz.prog):=[.d h0]
  cases h1:(decide ((a0.1:Int)<=a0.2)) with
  | true =>
   have q1:=bS h1
   have e:=Eq.refl (oU a0);conv at e=>rhs;simp only [oU,h0,h1,aJ]
   rw [e]
   exact rt (t1++[.d h1]) [] [] hcx (by kernel_rfl)
  | false =>
   have q1:=cE h1
   have e:=Eq.refl (oU a0);conv at e=>rhs;simp only [oU,h0,h1,aJ]
   rw [e]
   exact rt (t1++[.d h1]) [] [] hcx (by kernel_rfl)
 | false =>
  have q0:=cE h0
  have e:=Eq.refl (oU a0);conv at e=>rhs;simp only [oU,h0,aJ]
  rw [e]
  exact rt [.d h0] [] [] hcx (by kernel_rfl)
def c3 (x:Int):List SV:=[(iv x)]
theorem dH (x:Int):(c3 x).length=1:=rfl
def bZ (a0:Zt×Zt×Zt)(a1:Int):List Int :=
 (bif ((a1:Int) == 0) then
  ([a0.1.1,a0.2.1.1,a0.2.2.1]:List Int)
 else
  (bif ((a1:Int) == 1) then
   ([a0.1.2.1,a0.2.1.2.1,a0.2.2.2.1]:List Int)
  else
   ([a0.1.2.2,a0.2.1.2.2,a0.2.2.2.2]:List Int)))
theorem uW (a0:Zt×Zt×Zt)(a1:Int):Con Tryz.prog 151 [(.s 0 0 3 3),(iv a1)] [(.live false false (k9 a0))] (.s 1 0 (bZ a0 a1).length 1) [(.live true true (flat c3 (bZ a0 a1)))]:=by
 refine aK Tryz.func151 (by kernel_rfl) fun cx hcx=>?_
 let t0:List (St Tryz.prog):=[.u 200,.T]
 cases h0:((a1:Int) == 0) with
 | true =>
  have q0:=eq_of_beq h0
  have e:=Eq.refl (bZ a0 a1);conv at e=>rhs;simp only [bZ,h0,aJ]
  rw [e]
  exact rt (t0++[.d h0,.i 0 3 (by decide),.u 0,.T,.d h0,.i 1 3 (by decide),.u 0,.T,.d h0,.i 2 3 (by decide),.u 0,.F]) [.sym 6 true] [6] hcx (by kernel_rfl)
 | false =>
  have q0:=ne_of_beq_false h0
  let t1:List (St Tryz.prog):=(t0++[.d h0])
  cases h1:((a1:Int) == 1) with
  | true =>
   have q1:=eq_of_beq h1
   have e:=Eq.refl (bZ a0 a1);conv at e=>rhs;simp only [bZ,h0,h1,aJ]
   rw [e]
   exact rt (t1++[.d h1,.i 0 3 (by decide),.u 0,.T,.d h0,.d h1,.i 1 3 (by decide),.u 0,.T,.d h0,.d h1,.i 2 3 (by decide),.u 0,.F]) [.sym 6 true] [6] hcx (by kernel_rfl)
  | false =>
   have q1:=ne_of_beq_false h1
   have e:=Eq.refl (bZ a0 a1);conv at e=>rhs;simp only [bZ,h0,h1,aJ]
   rw [e]
   exact rt (t1++[.d h1,.i 0 3 (by decide),.u 0,.T,.d h0,.d h1,.i 1 3 (by decide),.u 0,.T,.d h0,.d h1,.i 2 3 (by decide),.u 0,.F]) [.sym 6 true] [6] hcx (by kernel_rfl)
def aMq (a0:Zt)(a1:Int):List Int :=
 (bif ((a1:Int) == 0) then
  ([a0.1]:List Int)
 else
  (bif ((a1:Int) == 1) then
   ([a0.2.1]:List Int)
  else
   ([a0.2.2]:List Int)))
theorem aTj {a b c:Int} (h:(!(F84 a b c))=false)(hb:1<=b:=by omega):a≠0:=by
 unfold F84 at h
 cases h1:decide ((a:Int)≥b) with
 | true=>have:=bS h1;omega
 | false=>simp [h1] at h
theorem iX (a:Zt×Zt×Zt)(k:Int):(bZ a k).length=3:=by
 unfold bZ
 cases ((k:Int) == 0)<;>cases ((k:Int) == 1)<;>rfl
theorem iY (a:Zt)(k:Int):(aMq a k).length=1:=by
 unfold aMq
 cases ((k:Int) == 0)<;>cases ((k:Int) == 1)<;>rfl
noncomputable def aDy:Code:=(aC [1,1,0] [] (aG Tryz.f152) []).1
noncomputable def aDz:List K:=(aC [1,1,0] [] (aG Tryz.f152) []).2
def xP (a0:Int)(v2 v3:Int):LS:=⟨fU 23 [(0,(iv a0)),(3,(iv v2)),(4,(iv v3))],[]⟩
def lP (a0:Int):Int×Int->(Int×Int)⊕(Int)
 | (v2,v3) =>
  (bif (decide ((v2:Int) < v3)) then
   (bif (decide (((W ((W (Int.tdiv (W ((W (v2+v3))+1)) 2))*(W (Int.tdiv (W ((W (v2+v3))+1)) 2)))):Int)<=a0)) then
    (.inl ((W (Int.tdiv (W ((W (v2+v3))+1)) 2)),v3))
   else
    (.inl (v2,(W ((W (Int.tdiv (W ((W (v2+v3))+1)) 2)) - 1)))))
  else
   (.inr v2))
theorem aTk (a0:Int) {cx:Cx} (hcx:cx.base=0):∀(n:Nat) (v2 v3:Int),(0<=v2)/\(0<=v2)/\(v2<=v3)/\(v3<=2147483648)->tN (v3 - v2) < n->Aw.Good Tryz.prog none 9 (bodyPost Tryz.prog Tryz.f152 (RR cx (iv (aB (lP a0) n (v2,v3))) [] [])) cx [] (.l aDy n::aDz) (xP a0 v2 v3):=by
 intro n
 induction n with
 | zero=>intro v2 v3 hi hn;exact absurd hn (fZ _)
 | succ n ih =>
  intro v2 v3 hi hn
  refine aH ?_
  have hw:=aDt (a:=v2) (b:=v3) (by omega)
  have hw2:=aJf (a:=v2) (b:=v3) (by omega)
  cases h0:(decide ((v2:Int) < v3)) with
  | true =>
   have q0:=bS h0
   let t1:List (St Tryz.prog):=[.d h0,.p (show(2:Int)≠0 from by decide)]
   cases h1:(decide (((W ((W (Int.tdiv (W ((W (v2+v3))+1)) 2))*(W (Int.tdiv (W ((W (v2+v3))+1)) 2)))):Int)<=a0)) with
   | true =>
    have q1:=bS h1
    have e:=Eq.refl (lP a0 (v2,v3));conv at e=>rhs;simp only [lP,h0,h1,aJ]
    rw [aA e]
    refine ba (t1++[.d h1]) [] [0,3,4] [] hcx (m:=n) aDy (aDz) (xP a0 (W (Int.tdiv (W ((W (v2+v3))+1)) 2)) v3) (by kernel_rfl) ?_
    exact ih (W (Int.tdiv (W ((W (v2+v3))+1)) 2)) v3 (by refine⟨?_,?_,?_,?_⟩<;>(try simp only [Ls])<;>first | omega | assumption | simp) (by(try simp only [Ls]);omega)
   | false =>
    have q1:=cE h1
    have e:=Eq.refl (lP a0 (v2,v3));conv at e=>rhs;simp only [lP,h0,h1,aJ]
    rw [aA e]
    refine ba (t1++[.d h1]) [] [0,3,4] [] hcx (m:=n) aDy (aDz) (xP a0 v2 (W ((W (Int.tdiv (W ((W (v2+v3))+1)) 2)) - 1))) (by kernel_rfl) ?_
    exact ih v2 (W ((W (Int.tdiv (W ((W (v2+v3))+1)) 2)) - 1)) (by refine⟨?_,?_,?_,?_⟩<;>(try simp only [Ls])<;>first | omega | assumption | simp) (by(try simp only [Ls]);omega)
  | false =>
   have q0:=cE h0
   have e:=Eq.refl (lP a0 (v2,v3));conv at e=>rhs;simp only [lP,h0,aJ]
   rw [aD,e]
   exact rt [.d h0] [] [] hcx (by kernel_rfl)
def hO (a0:Int):Int :=
 (aB (lP a0) (tN (2147483648 - 0)+1) (0,2147483648))
theorem aVt (a0:Int):Con Tryz.prog 152 [(iv a0)] [] (iv (hO a0)) []:=by
 refine aK Tryz.func152 (by kernel_rfl) fun cx hcx=>?_
 have e:=Eq.refl (hO a0);conv at e=>rhs;simp only [hO]
 rw [e]
 refine en [] [] [0,3,4] [] hcx aDy (aDz) (xP a0 0 2147483648) (tN (2147483648 - 0)+1) (by kernel_rfl) ?_
 exact aTk a0 hcx (tN (2147483648 - 0)+1) 0 2147483648 (by refine⟨?_,?_,?_,?_⟩<;>(try simp only [Ls])<;>first | omega | assumption | simp) (by(try simp only [Ls]);omega)
def tA (a0:Int)(a1:Int):(Int×Int)×Int :=
 (bif (!(oU (a0,a1))) then
  ((0,0),4)
 else
  ((a0,a1),0))
theorem C86 (a0:Int)(a1:Int):Con Tryz.prog 86 [(iv a0),(iv a1)] [] (.t [(.a (k2 (tA a0 a1).1)),(iv (tA a0 a1).2)]) []:=by
 refine aK Tryz.func86 (by kernel_rfl) fun cx hcx=>?_
 let t0:List (St Tryz.prog):=[.c [] (aTi (a0,a1))]
 cases h0:(!(oU (a0,a1))) with
 | true =>
  have e:=Eq.refl (tA a0 a1);conv at e=>rhs;simp only [tA,h0,aJ]
  rw [e]
  exact rt (t0++[.d h0]) [] [] hcx (by kernel_rfl)
 | false =>
  have e:=Eq.refl (tA a0 a1);conv at e=>rhs;simp only [tA,h0,aJ]
  rw [e]
  exact rt (t0++[.d h0]) [] [] hcx (by kernel_rfl)
def xF (a0:Int)(a1:Int):(Int×Int)×Int :=
 (bif (((Int.tmod a0 a1):Int) == 0) then
  (bif (((W ((hO (W (Int.tdiv a0 a1)))*(hO (W (Int.tdiv a0 a1))))):Int) == (W (Int.tdiv a0 a1))) then
   ((tA (hO (W (Int.tdiv a0 a1))) (hO (W (Int.tdiv a0 a1)))).1,(tA (hO (W (Int.tdiv a0 a1))) (hO (W (Int.tdiv a0 a1)))).2)
  else
   ((tA (hO (W (Int.tdiv a0 a1))) (W ((hO (W (Int.tdiv a0 a1)))+1))).1,(tA (hO (W (Int.tdiv a0 a1))) (W ((hO (W (Int.tdiv a0 a1)))+1))).2))
 else
  ((tA (hO (W (Int.tdiv a0 a1))) (W ((hO (W (Int.tdiv a0 a1)))+1))).1,(tA (hO (W (Int.tdiv a0 a1))) (W ((hO (W (Int.tdiv a0 a1)))+1))).2))
theorem aY3 (a0:Int)(a1:Int)(ha:a1≠0):Con Tryz.prog 149 [(iv a0),(iv a1)] [] (.t [(.a (k2 (xF a0 a1).1)),(iv (xF a0 a1).2)]) []:=by
 refine aK Tryz.func149 (by kernel_rfl) fun cx hcx=>?_
 let t0:List (St Tryz.prog):=[.p (show(a1:Int)≠0 from by first | omega | (rw [aF]<;>omega) | exact dM _),.c [] (aVt (W (Int.tdiv a0 a1))),.p (show(a1:Int)≠0 from by first | omega | (rw [aF]<;>omega) | exact dM _)]
 cases h0:(((Int.tmod a0 a1):Int) == 0) with
 | true =>
  have q0:=eq_of_beq h0
  let t1:List (St Tryz.prog):=(t0++[.d h0,.p (show(a1:Int)≠0 from by first | omega | (rw [aF]<;>omega) | exact dM _)])
  cases h1:(((W ((hO (W (Int.tdiv a0 a1)))*(hO (W (Int.tdiv a0 a1))))):Int) == (W (Int.tdiv a0 a1))) with
  | true =>
   have q1:=eq_of_beq h1
   have e:=Eq.refl (xF a0 a1);conv at e=>rhs;simp only [xF,h0,h1,aJ]
   rw [e]
   exact rt (t1++[.d h1,.c [] (C86 (hO (W (Int.tdiv a0 a1))) (hO (W (Int.tdiv a0 a1))))]) [] [] hcx (by kernel_rfl)
  | false =>
   have q1:=ne_of_beq_false h1
   have e:=Eq.refl (xF a0 a1);conv at e=>rhs;simp only [xF,h0,h1,aJ]
   rw [e]
   exact rt (t1++[.d h1,.c [] (C86 (hO (W (Int.tdiv a0 a1))) (W ((hO (W (Int.tdiv a0 a1)))+1)))]) [] [] hcx (by kernel_rfl)
 | false =>
  have q0:=ne_of_beq_false h0
  have e:=Eq.refl (xF a0 a1);conv at e=>rhs;simp only [xF,h0,aJ]
  rw [e]
  exact rt (t0++[.d h0,.c [] (C86 (hO (W (Int.tdiv a0 a1))) (W ((hO (W (Int.tdiv a0 a1)))+1)))]) [] [] hcx (by kernel_rfl)
def kV (a0:Int)(a1:Int):(Int×Int)×Int :=
 (bif (!(F84 a0 1 1099511627776)) then
  ((0,0),1)
 else
  (bif (!(F84 a1 1 8)) then
   ((0,0),1)
  else
   ((xF (W ((W ((W (1048576*a1))*1048576))*a1)) a0).1,(xF (W ((W ((W (1048576*a1))*1048576))*a1)) a0).2)))
theorem aVu (a0:Int)(a1:Int):Con Tryz.prog 139 [(iv a0),(iv a1)] [] (.t [(.a (k2 (kV a0 a1).1)),(iv (kV a0 a1).2)]) []:=by
 refine aK Tryz.func139 (by kernel_rfl) fun cx hcx=>?_
 let t0:List (St Tryz.prog):=[.c [] (C84 a0 1 1099511627776)]
 cases h0:(!(F84 a0 1 1099511627776)) with
 | true =>
  have e:=Eq.refl (kV a0 a1);conv at e=>rhs;simp only [kV,h0,aJ]
  rw [e]
  exact rt (t0++[.d h0]) [] [] hcx (by kernel_rfl)
 | false =>
  let t1:List (St Tryz.prog):=(t0++[.d h0,.c [] (C84 a1 1 8)])
  cases h1:(!(F84 a1 1 8)) with
  | true =>
   have e:=Eq.refl (kV a0 a1);conv at e=>rhs;simp only [kV,h0,h1,aJ]
   rw [e]
   exact rt (t1++[.d h1]) [] [] hcx (by kernel_rfl)
  | false =>
   have e:=Eq.refl (kV a0 a1);conv at e=>rhs;simp only [kV,h0,h1,aJ]
   rw [e]
   exact rt (t1++[.d h1,.c [] (aY3 (W ((W ((W (1048576*a1))*1048576))*a1)) a0  (aTj h0))]) [] [] hcx (by kernel_rfl)
def qL (a0:Int):Int :=
 (hO a0)
theorem aY4 (a0:Int):Con Tryz.prog 148 [(iv a0)] [] (iv (qL a0)) []:=by
 refine aK Tryz.func148 (by kernel_rfl) fun cx hcx=>?_
 have e:=Eq.refl (qL a0);conv at e=>rhs;simp only [qL]
 rw [e]
 exact rt [.c [] (aVt a0)] [] [] hcx (by kernel_rfl)
def cW (a0:Zt)(a1:Zt):Zt :=
 ((W (a0.1 - a1.1)),(W (a0.2.1 - a1.2.1)),(W (a0.2.2 - a1.2.2)))
theorem C75 (a0:Zt)(a1:Zt):Con Tryz.prog 75 [(.a (k3 a0)),(.a (k3 a1))] [] (.a (k3 (cW a0 a1))) []:=by
 refine aK Tryz.func75 (by kernel_rfl) fun cx hcx=>?_
 have e:=Eq.refl (cW a0 a1);conv at e=>rhs;simp only [cW]
 rw [e]
 exact rt [] [] [] hcx (by kernel_rfl)
def F74 (a0:Zt)(a1:Zt):Zt :=
 ((W ((W (a0.2.1*a1.2.2)) - (W (a0.2.2*a1.2.1)))),(W ((W (a0.2.2*a1.1)) - (W (a0.1*a1.2.2)))),(W ((W (a0.1*a1.2.1)) - (W (a0.2.1*a1.1)))))
theorem C74 (a0:Zt)(a1:Zt):Con Tryz.prog 74 [(.a (k3 a0)),(.a (k3 a1))] [] (.a (k3 (F74 a0 a1))) []:=by
 refine aK Tryz.func74 (by kernel_rfl) fun cx hcx=>?_
 have e:=Eq.refl (F74 a0 a1);conv at e=>rhs;simp only [F74]
 rw [e]
 exact rt [] [] [] hcx (by kernel_rfl)
def kD (a0:Zt×Zt×Zt):Zt :=
 (F74 (cW a0.2.1 a0.1) (cW a0.2.2 a0.1))
theorem C41 (a0:Zt×Zt×Zt):Con Tryz.prog 41 [(.a (k9 a0))] [] (.a (k3 (kD a0))) []:=by
 refine aK Tryz.func41 (by kernel_rfl) fun cx hcx=>?_
 have e:=Eq.refl (kD a0);conv at e=>rhs;simp only [kD]
 rw [e]
 exact rt [.c [] (C75 a0.2.1 a0.1),.c [] (C75 a0.2.2 a0.1),.c [] (C74 (cW a0.2.1 a0.1) (cW a0.2.2 a0.1))] [] [] hcx (by kernel_rfl)
def gD (a0:Zt)(a1:Zt):Int :=
 (W ((W ((W (a0.1*a1.1))+(W (a0.2.1*a1.2.1))))+(W (a0.2.2*a1.2.2))))
theorem C76 (a0:Zt)(a1:Zt):Con Tryz.prog 76 [(.a (k3 a0)),(.a (k3 a1))] [] (iv (gD a0 a1)) []:=by
 refine aK Tryz.func76 (by kernel_rfl) fun cx hcx=>?_
 have e:=Eq.refl (gD a0 a1);conv at e=>rhs;simp only [gD]
 rw [e]
 exact rt [] [] [] hcx (by kernel_rfl)
def F39 (a0:Int)(a1:Int)(a2:Int):Bool :=
 (bif (decide ((a0:Int)≥a1)) then
  (decide ((a0:Int)<=a2))
 else
  false)
theorem C39 (a0:Int)(a1:Int)(a2:Int):Con Tryz.prog 39 [(iv a0),(iv a1),(iv a2)] [] (.v (.bool (F39 a0 a1 a2))) []:=by
 refine aK Tryz.func39 (by kernel_rfl) fun cx hcx=>?_
 cases h0:(decide ((a0:Int)≥a1)) with
 | true =>
  have q0:=bS h0
  have e:=Eq.refl (F39 a0 a1 a2);conv at e=>rhs;simp only [F39,h0,aJ]
  rw [e]
  exact rt [.d h0] [] [] hcx (by kernel_rfl)
 | false =>
  have q0:=cE h0
  have e:=Eq.refl (F39 a0 a1 a2);conv at e=>rhs;simp only [F39,h0,aJ]
  rw [e]
  exact rt [.d h0] [] [] hcx (by kernel_rfl)
def F40 (a0:Zt)(a1:Int):Bool :=
 (bif (F39 a0.1 (W (0 - a1)) a1) then
  (bif (F39 a0.2.1 (W (0 - a1)) a1) then
   (F39 a0.2.2 (W (0 - a1)) a1)
  else
   false)
 else
  false)
theorem C40 (a0:Zt)(a1:Int):Con Tryz.prog 40 [(.a (k3 a0)),(iv a1)] [] (.v (.bool (F40 a0 a1))) []:=by
 refine aK Tryz.func40 (by kernel_rfl) fun cx hcx=>?_
 let t0:List (St Tryz.prog):=[.c [] (C39 a0.1 (W (0 - a1)) a1)]
 cases h0:(F39 a0.1 (W (0 - a1)) a1) with
 | true =>
  let t1:List (St Tryz.prog):=(t0++[.d h0,.c [] (C39 a0.2.1 (W (0 - a1)) a1)])
  cases h1:(F39 a0.2.1 (W (0 - a1)) a1) with
  | true =>
   have e:=Eq.refl (F40 a0 a1);conv at e=>rhs;simp only [F40,h0,h1,aJ]
   rw [e]
   exact rt (t1++[.d h1,.c [] (C39 a0.2.2 (W (0 - a1)) a1)]) [] [] hcx (by kernel_rfl)
  | false =>
   have e:=Eq.refl (F40 a0 a1);conv at e=>rhs;simp only [F40,h0,h1,aJ]
   rw [e]
   exact rt (t1++[.d h1]) [] [] hcx (by kernel_rfl)
 | false =>
  have e:=Eq.refl (F40 a0 a1);conv at e=>rhs;simp only [F40,h0,aJ]
  rw [e]
  exact rt (t0++[.d h0]) [] [] hcx (by kernel_rfl)
def mD (a0:Zt×Zt×Zt):Int :=
 (bif (!(F40 a0.1 64)) then
  1
 else
  (bif (!(F40 a0.2.1 64)) then
   1
  else
   (bif (!(F40 a0.2.2 64)) then
    1
   else
    (bif ((((kD a0).1:Int) == 0)&&((((kD a0).2.1:Int) == 0)&&((((kD a0).2.2:Int) == 0)&&true))) then
     6
    else
     0))))
theorem aVv (a0:Zt×Zt×Zt):Con Tryz.prog 136 [(.a (k9 a0))] [] (iv (mD a0)) []:=by
 refine aK Tryz.func136 (by kernel_rfl) fun cx hcx=>?_
 let t0:List (St Tryz.prog):=[.c [] (C40 a0.1 64)]
 cases h0:(!(F40 a0.1 64)) with
 | true =>
  have e:=Eq.refl (mD a0);conv at e=>rhs;simp only [mD,h0,aJ]
  rw [e]
  exact rt (t0++[.d h0]) [] [] hcx (by kernel_rfl)
 | false =>
  let t1:List (St Tryz.prog):=(t0++[.d h0,.c [] (C40 a0.2.1 64)])
  cases h1:(!(F40 a0.2.1 64)) with
  | true =>
   have e:=Eq.refl (mD a0);conv at e=>rhs;simp only [mD,h0,h1,aJ]
   rw [e]
   exact rt (t1++[.d h1]) [] [] hcx (by kernel_rfl)
  | false =>
   let t2:List (St Tryz.prog):=(t1++[.d h1,.c [] (C40 a0.2.2 64)])
   cases h2:(!(F40 a0.2.2 64)) with
   | true =>
    have e:=Eq.refl (mD a0);conv at e=>rhs;simp only [mD,h0,h1,h2,aJ]
    rw [e]
    exact rt (t2++[.d h2]) [] [] hcx (by kernel_rfl)
   | false =>
    let t3:List (St Tryz.prog):=(t2++[.d h2,.c [] (C41 a0)])
    cases h3:((((kD a0).1:Int) == 0)&&((((kD a0).2.1:Int) == 0)&&((((kD a0).2.2:Int) == 0)&&true))) with
    | true =>
     have e:=Eq.refl (mD a0);conv at e=>rhs;simp only [mD,h0,h1,h2,h3,aJ]
     rw [e]
     exact rt (t3++[.d h3]) [] [] hcx (by kernel_rfl)
    | false =>
     have e:=Eq.refl (mD a0);conv at e=>rhs;simp only [mD,h0,h1,h2,h3,aJ]
     rw [e]
     exact rt (t3++[.d h3]) [] [] hcx (by kernel_rfl)
def aD0 (a0:Int)(a1:Int)(a2:Int):Bool :=
 (bif (decide ((a0:Int)≥a1)) then
  (decide ((a0:Int)<=a2))
 else
  false)
theorem aY5 (a0:Int)(a1:Int)(a2:Int):Con Tryz.prog 137 [(iv a0),(iv a1),(iv a2)] [] (.v (.bool (aD0 a0 a1 a2))) []:=by
 refine aK Tryz.func137 (by kernel_rfl) fun cx hcx=>?_
 cases h0:(decide ((a0:Int)≥a1)) with
 | true =>
  have q0:=bS h0
  have e:=Eq.refl (aD0 a0 a1 a2);conv at e=>rhs;simp only [aD0,h0,aJ]
  rw [e]
  exact rt [.d h0] [] [] hcx (by kernel_rfl)
 | false =>
  have q0:=cE h0
  have e:=Eq.refl (aD0 a0 a1 a2);conv at e=>rhs;simp only [aD0,h0,aJ]
  rw [e]
  exact rt [.d h0] [] [] hcx (by kernel_rfl)
def kW (a0:Zt×Zt×Zt)(a1:Zt×Zt×Zt)(a2:Int):Int :=
 (bif (((mD a0):Int) != 0) then
  (mD a0)
 else
  (bif (((mD a1):Int) != 0) then
   (mD a1)
  else
   (bif (!(aD0 a2 0 2)) then
    1
   else
    0)))
theorem aVw (a0:Zt×Zt×Zt)(a1:Zt×Zt×Zt)(a2:Int):Con Tryz.prog 114 [(.a (k9 a0)),(.a (k9 a1)),(iv a2)] [] (iv (kW a0 a1 a2)) []:=by
 refine aK Tryz.func114 (by kernel_rfl) fun cx hcx=>?_
 let t0:List (St Tryz.prog):=[.c [] (aVv a0)]
 cases h0:(((mD a0):Int) != 0) with
 | true =>
  have q0:=bne_iff_ne.1 h0
  have e:=Eq.refl (kW a0 a1 a2);conv at e=>rhs;simp only [kW,h0,aJ]
  rw [e]
  exact rt (t0++[.d h0]) [] [] hcx (by kernel_rfl)
 | false =>
  have q0:=bne_eq_false_iff_eq.1 h0
  let t1:List (St Tryz.prog):=(t0++[.d h0,.c [] (aVv a1)])
  cases h1:(((mD a1):Int) != 0) with
  | true =>
   have q1:=bne_iff_ne.1 h1
   have e:=Eq.refl (kW a0 a1 a2);conv at e=>rhs;simp only [kW,h0,h1,aJ]
   rw [e]
   exact rt (t1++[.d h1]) [] [] hcx (by kernel_rfl)
  | false =>
   have q1:=bne_eq_false_iff_eq.1 h1
   let t2:List (St Tryz.prog):=(t1++[.d h1,.c [] (aY5 a2 0 2)])
   cases h2:(!(aD0 a2 0 2)) with
   | true =>
    have e:=Eq.refl (kW a0 a1 a2);conv at e=>rhs;simp only [kW,h0,h1,h2,aJ]
    rw [e]
    exact rt (t2++[.d h2]) [] [] hcx (by kernel_rfl)
   | false =>
    have e:=Eq.refl (kW a0 a1 a2);conv at e=>rhs;simp only [kW,h0,h1,h2,aJ]
    rw [e]
    exact rt (t2++[.d h2]) [] [] hcx (by kernel_rfl)
def jR (x:Zt×Zt×Zt):List SV:=[(iv x.1.1),(iv x.1.2.1),(iv x.1.2.2),(iv x.2.1.1),(iv x.2.1.2.1),(iv x.2.1.2.2),(iv x.2.2.1),(iv x.2.2.2.1),(iv x.2.2.2.2)]
theorem dT (x:Zt×Zt×Zt):(jR x).length=9:=rfl
def aE (a0:Zt)(a1:Int):Zt :=
 ((W (a1*a0.1)),(W (a1*a0.2.1)),(W (a1*a0.2.2)))
theorem aK0 (a0:Zt)(a1:Int):Con Tryz.prog 116 [(.a (k3 a0)),(iv a1)] [] (.a (k3 (aE a0 a1))) []:=by
 refine aK Tryz.func116 (by kernel_rfl) fun cx hcx=>?_
 have e:=Eq.refl (aE a0 a1);conv at e=>rhs;simp only [aE]
 rw [e]
 exact rt [] [] [] hcx (by kernel_rfl)
def aR (a0:Zt)(a1:Zt):Zt :=
 ((W (Int.tdiv (W (a0.1+a1.1)) 2)),(W (Int.tdiv (W (a0.2.1+a1.2.1)) 2)),(W (Int.tdiv (W (a0.2.2+a1.2.2)) 2)))
theorem aTl (a0:Zt)(a1:Zt):Con Tryz.prog 145 [(.a (k3 a0)),(.a (k3 a1))] [] (.a (k3 (aR a0 a1))) []:=by
 refine aK Tryz.func145 (by kernel_rfl) fun cx hcx=>?_
 have e:=Eq.refl (aR a0 a1);conv at e=>rhs;simp only [aR]
 rw [e]
 exact rt [.p (show(2:Int)≠0 from by decide),.p (show(2:Int)≠0 from by decide),.p (show(2:Int)≠0 from by decide)] [] [] hcx (by kernel_rfl)
noncomputable def aHh:Code:=(aC [1,1,0,1,0,1,0,1,0,1] [0] (aG Tryz.f120) []).1
noncomputable def aHi (m0:Nat):List K:=(aC [1,1,0,1,0,1,0,1,0,1] [m0] (aG Tryz.f120) []).2
def aD1 (a0:Zt×Zt×Zt)(a1:Int)(v13c:List SV)(v13n:Nat)(v14c:List SV)(v14n:Nat)(v15 v16:Int):LS:=⟨fU 76 [(1,(iv a1)),(5,(.s 0 0 v13n 9)),(6,(iv v15)),(7,(.s 1 0 v14n 9)),(8,(iv v16))],[(.live true true v13c),(.live true true v14c)]⟩
def jF (a0:Zt×Zt×Zt)(a1:Int):(List (Zt×Zt×Zt))×(List (Zt×Zt×Zt))×Int×Int->((List (Zt×Zt×Zt))×(List (Zt×Zt×Zt))×Int×Int)⊕(((List (Zt×Zt×Zt))×Int)⊕(List (Zt×Zt×Zt)))
 | (v13,v14,v15,v16) =>
  (bif (decide ((v16:Int) < (v13.length:Int))) then
   (.inl (v13,(v14++[((aE (v13.getD (tN v16) dF).1 2),(aR (aE (v13.getD (tN v16) dF).1 2) (aE (v13.getD (tN v16) dF).2.1 2)),(aR (aE (v13.getD (tN v16) dF).2.2 2) (aE (v13.getD (tN v16) dF).1 2))),((aR (aE (v13.getD (tN v16) dF).1 2) (aE (v13.getD (tN v16) dF).2.1 2)),(aE (v13.getD (tN v16) dF).2.1 2),(aR (aE (v13.getD (tN v16) dF).2.1 2) (aE (v13.getD (tN v16) dF).2.2 2))),((aR (aE (v13.getD (tN v16) dF).2.2 2) (aE (v13.getD (tN v16) dF).1 2)),(aR (aE (v13.getD (tN v16) dF).2.1 2) (aE (v13.getD (tN v16) dF).2.2 2)),(aE (v13.getD (tN v16) dF).2.2 2)),((aR (aE (v13.getD (tN v16) dF).1 2) (aE (v13.getD (tN v16) dF).2.1 2)),(aR (aE (v13.getD (tN v16) dF).2.1 2) (aE (v13.getD (tN v16) dF).2.2 2)),(aR (aE (v13.getD (tN v16) dF).2.2 2) (aE (v13.getD (tN v16) dF).1 2)))]),v15,(v16+1)))
  else
   (.inr (.inl (v14,(v15+1)))))
noncomputable def aD2:Code:=(aC [1,1,0,1] [] (aG Tryz.f120) []).1
noncomputable def aD3:List K:=(aC [1,1,0,1] [] (aG Tryz.f120) []).2
def xQ (a0:Zt×Zt×Zt)(a1:Int)(v11c:List SV)(v11n:Nat)(v12:Int):LS:=⟨fU 76 [(1,(iv a1)),(5,(.s 0 0 v11n 9)),(6,(iv v12))],[(.live true true v11c)]⟩
def fY (a0:Zt×Zt×Zt)(a1:Int):(List (Zt×Zt×Zt))×Int->((List (Zt×Zt×Zt))×Int)⊕(List (Zt×Zt×Zt))
 | (v11,v12) =>
  (bif (decide ((v12:Int) < a1)) then
   (aB (jF a0 a1) (tN ((v11.length:Int) - 0)+1) (v11,([]:List (Zt×Zt×Zt)),v12,0))
  else
   (.inr v11))
theorem aTm (a0:Zt×Zt×Zt)(a1:Int)(ha:0<=a1/\a1<=3) {cx:Cx} (hcx:cx.base=0)
 (n0:Nat) (g0:∀(v11:List (Zt×Zt×Zt)) (v12:Int),(0<=v12)/\(v12=0/\v11.length<=1\/v12=1/\v11.length<=4\/v12=2/\v11.length<=16\/3<=v12/\v11.length<=64)->tN (a1 - v12) < n0->Aw.Good Tryz.prog none 9 (bodyPost Tryz.prog Tryz.f120 (RR cx (.s 0 0 (aB (fY a0 a1) n0 (v11,v12)).length 9) [(.live true true (flat jR (aB (fY a0 a1) n0 (v11,v12))))] [])) cx [] (.l aD2 n0::aD3) (xQ a0 a1 (flat jR v11) v11.length v12)):∀(n:Nat) (v13:List (Zt×Zt×Zt)) (v14:List (Zt×Zt×Zt)) (v15 v16:Int),(0<=v16)/\(v14.length=4*tN v16)/\(v16<=v13.length)/\((0<=v15))/\((v15=0/\v13.length<=1\/v15=1/\v13.length<=4\/v15=2/\v13.length<=16\/3<=v15/\v13.length<=64))/\(v15 < a1)/\(tN (a1 - v15) < n0+1)->tN ((v13.length:Int) - v16) < n->Aw.Good Tryz.prog none 9 (bodyPost Tryz.prog Tryz.f120 (RR cx (.s 0 0 (fG (fY a0 a1) n0 (aB (jF a0 a1) n (v13,v14,v15,v16))).length 9) [(.live true true (flat jR (fG (fY a0 a1) n0 (aB (jF a0 a1) n (v13,v14,v15,v16)))))] [])) cx [] (.l aHh n::aHi n0) (aD1 a0 a1 (flat jR v13) v13.length (flat jR v14) v14.length v15 v16):=by
 intro n
 induction n with
 | zero=>intro v13 v14 v15 v16 hi hn;exact absurd hn (fZ _)
 | succ n ih =>
  intro v13 v14 v15 v16 hi hn
  refine aH ?_
  cases h0:(decide ((v16:Int) < (v13.length:Int))) with
  | true =>
   have q0:=bS h0
   have e:=Eq.refl (jF a0 a1 (v13,v14,v15,v16));conv at e=>rhs;simp only [jF,h0,aJ]
   rw [aA e]
   refine ba [.d h0,.i v16 (v13.length),.L dT v13 v16 0 3,.c [] (aK0 (v13.getD (tN v16) dF).1 2),.i v16 (v13.length),.L dT v13 v16 3 3,.c [] (aK0 (v13.getD (tN v16) dF).2.1 2),.i v16 (v13.length),.L dT v13 v16 6 3,.c [] (aK0 (v13.getD (tN v16) dF).2.2 2),.c [] (aTl (aE (v13.getD (tN v16) dF).1 2) (aE (v13.getD (tN v16) dF).2.1 2)),.c [] (aTl (aE (v13.getD (tN v16) dF).2.1 2) (aE (v13.getD (tN v16) dF).2.2 2)),.c [] (aTl (aE (v13.getD (tN v16) dF).2.2 2) (aE (v13.getD (tN v16) dF).1 2)),.p (show((flat jR v14).length=v14.length*9/\v14.length+4<=2 ^ 40/\(v14.length+4)*72<=2 ^ 47) from fN dT (by omega) (by omega))] [] [1,5,6,7,8] [0,9] hcx (m:=n) aHh (aHi n0) (aD1 a0 a1 (flat jR v13) (v13.length) (flat jR v14++[(iv (aE (v13.getD (tN v16) dF).1 2).1),(iv (aE (v13.getD (tN v16) dF).1 2).2.1),(iv (aE (v13.getD (tN v16) dF).1 2).2.2),(iv (aR (aE (v13.getD (tN v16) dF).1 2) (aE (v13.getD (tN v16) dF).2.1 2)).1),(iv (aR (aE (v13.getD (tN v16) dF).1 2) (aE (v13.getD (tN v16) dF).2.1 2)).2.1),(iv (aR (aE (v13.getD (tN v16) dF).1 2) (aE (v13.getD (tN v16) dF).2.1 2)).2.2),(iv (aR (aE (v13.getD (tN v16) dF).2.2 2) (aE (v13.getD (tN v16) dF).1 2)).1),(iv (aR (aE (v13.getD (tN v16) dF).2.2 2) (aE (v13.getD (tN v16) dF).1 2)).2.1),(iv (aR (aE (v13.getD (tN v16) dF).2.2 2) (aE (v13.getD (tN v16) dF).1 2)).2.2),(iv (aR (aE (v13.getD (tN v16) dF).1 2) (aE (v13.getD (tN v16) dF).2.1 2)).1),(iv (aR (aE (v13.getD (tN v16) dF).1 2) (aE (v13.getD (tN v16) dF).2.1 2)).2.1),(iv (aR (aE (v13.getD (tN v16) dF).1 2) (aE (v13.getD (tN v16) dF).2.1 2)).2.2),(iv (aE (v13.getD (tN v16) dF).2.1 2).1),(iv (aE (v13.getD (tN v16) dF).2.1 2).2.1),(iv (aE (v13.getD (tN v16) dF).2.1 2).2.2),(iv (aR (aE (v13.getD (tN v16) dF).2.1 2) (aE (v13.getD (tN v16) dF).2.2 2)).1),(iv (aR (aE (v13.getD (tN v16) dF).2.1 2) (aE (v13.getD (tN v16) dF).2.2 2)).2.1),(iv (aR (aE (v13.getD (tN v16) dF).2.1 2) (aE (v13.getD (tN v16) dF).2.2 2)).2.2),(iv (aR (aE (v13.getD (tN v16) dF).2.2 2) (aE (v13.getD (tN v16) dF).1 2)).1),(iv (aR (aE (v13.getD (tN v16) dF).2.2 2) (aE (v13.getD (tN v16) dF).1 2)).2.1),(iv (aR (aE (v13.getD (tN v16) dF).2.2 2) (aE (v13.getD (tN v16) dF).1 2)).2.2),(iv (aR (aE (v13.getD (tN v16) dF).2.1 2) (aE (v13.getD (tN v16) dF).2.2 2)).1),(iv (aR (aE (v13.getD (tN v16) dF).2.1 2) (aE (v13.getD (tN v16) dF).2.2 2)).2.1),(iv (aR (aE (v13.getD (tN v16) dF).2.1 2) (aE (v13.getD (tN v16) dF).2.2 2)).2.2),(iv (aE (v13.getD (tN v16) dF).2.2 2).1),(iv (aE (v13.getD (tN v16) dF).2.2 2).2.1),(iv (aE (v13.getD (tN v16) dF).2.2 2).2.2),(iv (aR (aE (v13.getD (tN v16) dF).1 2) (aE (v13.getD (tN v16) dF).2.1 2)).1),(iv (aR (aE (v13.getD (tN v16) dF).1 2) (aE (v13.getD (tN v16) dF).2.1 2)).2.1),(iv (aR (aE (v13.getD (tN v16) dF).1 2) (aE (v13.getD (tN v16) dF).2.1 2)).2.2),(iv (aR (aE (v13.getD (tN v16) dF).2.1 2) (aE (v13.getD (tN v16) dF).2.2 2)).1),(iv (aR (aE (v13.getD (tN v16) dF).2.1 2) (aE (v13.getD (tN v16) dF).2.2 2)).2.1),(iv (aR (aE (v13.getD (tN v16) dF).2.1 2) (aE (v13.getD (tN v16) dF).2.2 2)).2.2),(iv (aR (aE (v13.getD (tN v16) dF).2.2 2) (aE (v13.getD (tN v16) dF).1 2)).1),(iv (aR (aE (v13.getD (tN v16) dF).2.2 2) (aE (v13.getD (tN v16) dF).1 2)).2.1),(iv (aR (aE (v13.getD (tN v16) dF).2.2 2) (aE (v13.getD (tN v16) dF).1 2)).2.2)]) (v14.length+4) v15 (W (v16+1))) (by kernel_rfl) ?_
   have z0:(W (v16+1))=(v16+1):=aF (by omega) (by omega)
   have z1:(flat jR v14++[(iv (aE (v13.getD (tN v16) dF).1 2).1),(iv (aE (v13.getD (tN v16) dF).1 2).2.1),(iv (aE (v13.getD (tN v16) dF).1 2).2.2),(iv (aR (aE (v13.getD (tN v16) dF).1 2) (aE (v13.getD (tN v16) dF).2.1 2)).1),(iv (aR (aE (v13.getD (tN v16) dF).1 2) (aE (v13.getD (tN v16) dF).2.1 2)).2.1),(iv (aR (aE (v13.getD (tN v16) dF).1 2) (aE (v13.getD (tN v16) dF).2.1 2)).2.2),(iv (aR (aE (v13.getD (tN v16) dF).2.2 2) (aE (v13.getD (tN v16) dF).1 2)).1),(iv (aR (aE (v13.getD (tN v16) dF).2.2 2) (aE (v13.getD (tN v16) dF).1 2)).2.1),(iv (aR (aE (v13.getD (tN v16) dF).2.2 2) (aE (v13.getD (tN v16) dF).1 2)).2.2),(iv (aR (aE (v13.getD (tN v16) dF).1 2) (aE (v13.getD (tN v16) dF).2.1 2)).1),(iv (aR (aE (v13.getD (tN v16) dF).1 2) (aE (v13.getD (tN v16) dF).2.1 2)).2.1),(iv (aR (aE (v13.getD (tN v16) dF).1 2) (aE (v13.getD (tN v16) dF).2.1 2)).2.2),(iv (aE (v13.getD (tN v16) dF).2.1 2).1),(iv (aE (v13.getD (tN v16) dF).2.1 2).2.1),(iv (aE (v13.getD (tN v16) dF).2.1 2).2.2),(iv (aR (aE (v13.getD (tN v16) dF).2.1 2) (aE (v13.getD (tN v16) dF).2.2 2)).1),(iv (aR (aE (v13.getD (tN v16) dF).2.1 2) (aE (v13.getD (tN v16) dF).2.2 2)).2.1),(iv (aR (aE (v13.getD (tN v16) dF).2.1 2) (aE (v13.getD (tN v16) dF).2.2 2)).2.2),(iv (aR (aE (v13.getD (tN v16) dF).2.2 2) (aE (v13.getD (tN v16) dF).1 2)).1),(iv (aR (aE (v13.getD (tN v16) dF).2.2 2) (aE (v13.getD (tN v16) dF).1 2)).2.1),(iv (aR (aE (v13.getD (tN v16) dF).2.2 2) (aE (v13.getD (tN v16) dF).1 2)).2.2),(iv (aR (aE (v13.getD (tN v16) dF).2.1 2) (aE (v13.getD (tN v16) dF).2.2 2)).1),(iv (aR (aE (v13.getD (tN v16) dF).2.1 2) (aE (v13.getD (tN v16) dF).2.2 2)).2.1),(iv (aR (aE (v13.getD (tN v16) dF).2.1 2) (aE (v13.getD (tN v16) dF).2.2 2)).2.2),(iv (aE (v13.getD (tN v16) dF).2.2 2).1),(iv (aE (v13.getD (tN v16) dF).2.2 2).2.1),(iv (aE (v13.getD (tN v16) dF).2.2 2).2.2),(iv (aR (aE (v13.getD (tN v16) dF).1 2) (aE (v13.getD (tN v16) dF).2.1 2)).1),(iv (aR (aE (v13.getD (tN v16) dF).1 2) (aE (v13.getD (tN v16) dF).2.1 2)).2.1),(iv (aR (aE (v13.getD (tN v16) dF).1 2) (aE (v13.getD (tN v16) dF).2.1 2)).2.2),(iv (aR (aE (v13.getD (tN v16) dF).2.1 2) (aE (v13.getD (tN v16) dF).2.2 2)).1),(iv (aR (aE (v13.getD (tN v16) dF).2.1 2) (aE (v13.getD (tN v16) dF).2.2 2)).2.1),(iv (aR (aE (v13.getD (tN v16) dF).2.1 2) (aE (v13.getD (tN v16) dF).2.2 2)).2.2),(iv (aR (aE (v13.getD (tN v16) dF).2.2 2) (aE (v13.getD (tN v16) dF).1 2)).1),(iv (aR (aE (v13.getD (tN v16) dF).2.2 2) (aE (v13.getD (tN v16) dF).1 2)).2.1),(iv (aR (aE (v13.getD (tN v16) dF).2.2 2) (aE (v13.getD (tN v16) dF).1 2)).2.2)])=(flat jR (v14++[((aE (v13.getD (tN v16) dF).1 2),(aR (aE (v13.getD (tN v16) dF).1 2) (aE (v13.getD (tN v16) dF).2.1 2)),(aR (aE (v13.getD (tN v16) dF).2.2 2) (aE (v13.getD (tN v16) dF).1 2))),((aR (aE (v13.getD (tN v16) dF).1 2) (aE (v13.getD (tN v16) dF).2.1 2)),(aE (v13.getD (tN v16) dF).2.1 2),(aR (aE (v13.getD (tN v16) dF).2.1 2) (aE (v13.getD (tN v16) dF).2.2 2))),((aR (aE (v13.getD (tN v16) dF).2.2 2) (aE (v13.getD (tN v16) dF).1 2)),(aR (aE (v13.getD (tN v16) dF).2.1 2) (aE (v13.getD (tN v16) dF).2.2 2)),(aE (v13.getD (tN v16) dF).2.2 2)),((aR (aE (v13.getD (tN v16) dF).1 2) (aE (v13.getD (tN v16) dF).2.1 2)),(aR (aE (v13.getD (tN v16) dF).2.1 2) (aE (v13.getD (tN v16) dF).2.2 2)),(aR (aE (v13.getD (tN v16) dF).2.2 2) (aE (v13.getD (tN v16) dF).1 2)))])):=(bK (c:=jR) (l:=v14) (m:=[((aE (v13.getD (tN v16) dF).1 2),(aR (aE (v13.getD (tN v16) dF).1 2) (aE (v13.getD (tN v16) dF).2.1 2)),(aR (aE (v13.getD (tN v16) dF).2.2 2) (aE (v13.getD (tN v16) dF).1 2))),((aR (aE (v13.getD (tN v16) dF).1 2) (aE (v13.getD (tN v16) dF).2.1 2)),(aE (v13.getD (tN v16) dF).2.1 2),(aR (aE (v13.getD (tN v16) dF).2.1 2) (aE (v13.getD (tN v16) dF).2.2 2))),((aR (aE (v13.getD (tN v16) dF).2.2 2) (aE (v13.getD (tN v16) dF).1 2)),(aR (aE (v13.getD (tN v16) dF).2.1 2) (aE (v13.getD (tN v16) dF).2.2 2)),(aE (v13.getD (tN v16) dF).2.2 2)),((aR (aE (v13.getD (tN v16) dF).1 2) (aE (v13.getD (tN v16) dF).2.1 2)),(aR (aE (v13.getD (tN v16) dF).2.1 2) (aE (v13.getD (tN v16) dF).2.2 2)),(aR (aE (v13.getD (tN v16) dF).2.2 2) (aE (v13.getD (tN v16) dF).1 2)))])).symm
   have z2:(v14.length+4)=(v14++[((aE (v13.getD (tN v16) dF).1 2),(aR (aE (v13.getD (tN v16) dF).1 2) (aE (v13.getD (tN v16) dF).2.1 2)),(aR (aE (v13.getD (tN v16) dF).2.2 2) (aE (v13.getD (tN v16) dF).1 2))),((aR (aE (v13.getD (tN v16) dF).1 2) (aE (v13.getD (tN v16) dF).2.1 2)),(aE (v13.getD (tN v16) dF).2.1 2),(aR (aE (v13.getD (tN v16) dF).2.1 2) (aE (v13.getD (tN v16) dF).2.2 2))),((aR (aE (v13.getD (tN v16) dF).2.2 2) (aE (v13.getD (tN v16) dF).1 2)),(aR (aE (v13.getD (tN v16) dF).2.1 2) (aE (v13.getD (tN v16) dF).2.2 2)),(aE (v13.getD (tN v16) dF).2.2 2)),((aR (aE (v13.getD (tN v16) dF).1 2) (aE (v13.getD (tN v16) dF).2.1 2)),(aR (aE (v13.getD (tN v16) dF).2.1 2) (aE (v13.getD (tN v16) dF).2.2 2)),(aR (aE (v13.getD (tN v16) dF).2.2 2) (aE (v13.getD (tN v16) dF).1 2)))]).length:=dW v14 [((aE (v13.getD (tN v16) dF).1 2),(aR (aE (v13.getD (tN v16) dF).1 2) (aE (v13.getD (tN v16) dF).2.1 2)),(aR (aE (v13.getD (tN v16) dF).2.2 2) (aE (v13.getD (tN v16) dF).1 2))),((aR (aE (v13.getD (tN v16) dF).1 2) (aE (v13.getD (tN v16) dF).2.1 2)),(aE (v13.getD (tN v16) dF).2.1 2),(aR (aE (v13.getD (tN v16) dF).2.1 2) (aE (v13.getD (tN v16) dF).2.2 2))),((aR (aE (v13.getD (tN v16) dF).2.2 2) (aE (v13.getD (tN v16) dF).1 2)),(aR (aE (v13.getD (tN v16) dF).2.1 2) (aE (v13.getD (tN v16) dF).2.2 2)),(aE (v13.getD (tN v16) dF).2.2 2)),((aR (aE (v13.getD (tN v16) dF).1 2) (aE (v13.getD (tN v16) dF).2.1 2)),(aR (aE (v13.getD (tN v16) dF).2.1 2) (aE (v13.getD (tN v16) dF).2.2 2)),(aR (aE (v13.getD (tN v16) dF).2.2 2) (aE (v13.getD (tN v16) dF).1 2)))] rfl
   rw [z0,z1,z2]
   exact ih v13 (v14++[((aE (v13.getD (tN v16) dF).1 2),(aR (aE (v13.getD (tN v16) dF).1 2) (aE (v13.getD (tN v16) dF).2.1 2)),(aR (aE (v13.getD (tN v16) dF).2.2 2) (aE (v13.getD (tN v16) dF).1 2))),((aR (aE (v13.getD (tN v16) dF).1 2) (aE (v13.getD (tN v16) dF).2.1 2)),(aE (v13.getD (tN v16) dF).2.1 2),(aR (aE (v13.getD (tN v16) dF).2.1 2) (aE (v13.getD (tN v16) dF).2.2 2))),((aR (aE (v13.getD (tN v16) dF).2.2 2) (aE (v13.getD (tN v16) dF).1 2)),(aR (aE (v13.getD (tN v16) dF).2.1 2) (aE (v13.getD (tN v16) dF).2.2 2)),(aE (v13.getD (tN v16) dF).2.2 2)),((aR (aE (v13.getD (tN v16) dF).1 2) (aE (v13.getD (tN v16) dF).2.1 2)),(aR (aE (v13.getD (tN v16) dF).2.1 2) (aE (v13.getD (tN v16) dF).2.2 2)),(aR (aE (v13.getD (tN v16) dF).2.2 2) (aE (v13.getD (tN v16) dF).1 2)))]) v15 (v16+1) (by refine⟨?_,?_,?_,?_,?_,?_,?_⟩<;>(try simp only [Ls])<;>first | omega | assumption | exact hi.2.1 | exact hi.2.2.1 | exact hi.2.2.2.1 | exact hi.2.2.2.2.1 | exact hi.2.2.2.2.2.1 | exact hi.2.2.2.2.2.2.1 | simp) (by(try simp only [Ls]);omega)
  | false =>
   have q0:=cE h0
   have e:=Eq.refl (jF a0 a1 (v13,v14,v15,v16));conv at e=>rhs;simp only [jF,h0,aJ]
   rw [aD,e]
   refine ba [.d h0] [] [1,5,6] [1] hcx (m:=n0) aD2 (aD3) (xQ a0 a1 (flat jR v14) (v14.length) (W (v15+1))) (by kernel_rfl) ?_
   have z0:(W (v15+1))=(v15+1):=aF (by omega) (by omega)
   rw [z0]
   exact g0 v14 (v15+1) (by refine⟨?_,?_⟩<;>(try simp only [Ls])<;>first | omega | assumption | simp) (by(try simp only [Ls]);omega)
theorem aTn (a0:Zt×Zt×Zt)(a1:Int)(ha:0<=a1/\a1<=3) {cx:Cx} (hcx:cx.base=0):∀(n:Nat) (v11:List (Zt×Zt×Zt)) (v12:Int),(0<=v12)/\(v12=0/\v11.length<=1\/v12=1/\v11.length<=4\/v12=2/\v11.length<=16\/3<=v12/\v11.length<=64)->tN (a1 - v12) < n->Aw.Good Tryz.prog none 9 (bodyPost Tryz.prog Tryz.f120 (RR cx (.s 0 0 (aB (fY a0 a1) n (v11,v12)).length 9) [(.live true true (flat jR (aB (fY a0 a1) n (v11,v12))))] [])) cx [] (.l aD2 n::aD3) (xQ a0 a1 (flat jR v11) v11.length v12):=by
 intro n
 induction n with
 | zero=>intro v11 v12 hi hn;exact absurd hn (fZ _)
 | succ n ih =>
  intro v11 v12 hi hn
  refine aH ?_
  cases h0:(decide ((v12:Int) < a1)) with
  | true =>
   have q0:=bS h0
   have e:=Eq.refl (fY a0 a1 (v11,v12));conv at e=>rhs;simp only [fY,h0,aJ]
   rw [aD,e]
   refine en [.d h0] [.slot 7 9] [1,5,6,7,8] [0,1] hcx aHh (aHi n) (aD1 a0 a1 (flat jR v11) (v11.length) (flat jR ([]:List (Zt×Zt×Zt))) 0 v12 0) (tN ((v11.length:Int) - 0)+1) (by kernel_rfl) ?_
   exact aTm a0 a1 ha hcx n ih (tN ((v11.length:Int) - 0)+1) v11 ([]:List (Zt×Zt×Zt)) v12 0 (by refine⟨?_,?_,?_,?_,?_,?_,?_⟩<;>(try simp only [Ls])<;>first | omega | assumption | exact hi.2.1 | exact hi.2.2.1 | exact hi.2.2.2.1 | exact hi.2.2.2.2.1 | exact hi.2.2.2.2.2.1 | exact hi.2.2.2.2.2.2.1 | simp) (by(try simp only [Ls]);omega)
  | false =>
   have q0:=cE h0
   have e:=Eq.refl (fY a0 a1 (v11,v12));conv at e=>rhs;simp only [fY,h0,aJ]
   rw [aD,e]
   exact rt [.d h0] [] [0] hcx (by kernel_rfl)
def cF (a0:Zt×Zt×Zt)(a1:Int):List (Zt×Zt×Zt) :=
 (aB (fY a0 a1) (tN (a1 - 0)+1) (([a0]:List (Zt×Zt×Zt)),0))
theorem aVx (a0:Zt×Zt×Zt)(a1:Int)(ha:0<=a1/\a1<=3):Con Tryz.prog 120 [(.a (k9 a0)),(iv a1)] [] (.s 0 0 (cF a0 a1).length 9) [(.live true true (flat jR (cF a0 a1)))]:=by
 refine aK Tryz.func120 (by kernel_rfl) fun cx hcx=>?_
 have e:=Eq.refl (cF a0 a1);conv at e=>rhs;simp only [cF]
 rw [e]
 refine en [] [.sym 1 true] [1,5,6] [1] hcx aD2 (aD3) (xQ a0 a1 (flat jR ([a0]:List (Zt×Zt×Zt))) 1 0) (tN (a1 - 0)+1) (by kernel_rfl) ?_
 exact aTn a0 a1 ha hcx (tN (a1 - 0)+1) ([a0]:List (Zt×Zt×Zt)) 0 (by refine⟨?_,?_⟩<;>(try simp only [Ls])<;>first | omega | assumption | simp) (by(try simp only [Ls]);omega)
noncomputable def aAb:Code:=(aC [1,1,1,0,1] [] (aG Tryz.f119) []).1
noncomputable def aAc:List K:=(aC [1,1,1,0,1] [] (aG Tryz.f119) []).2
def uX (a0:List (Int×Int))(v1 v2 v3:Int):LS:=⟨fU 39 [(0,(.s 0 0 a0.length 2)),(5,(iv v1)),(6,(iv v2)),(7,(iv v3))],[(.live false true (flat cM a0))]⟩
def eW (a0:List (Int×Int)):Zt->Zt⊕Zt
 | (v1,v2,v3) =>
  (bif (decide ((v3:Int) < (a0.length:Int))) then
   (bif (!(oU (a0.getD (tN v3) dF))) then
    (.inr (0,0,1))
   else
    (.inl ((W (v1+(a0.getD (tN v3) dF).1)),(W (v2+(a0.getD (tN v3) dF).2)),(v3+1))))
  else
   (.inr (v1,v2,0)))
theorem aMr (a0:List (Int×Int))(l0:a0.length<=2^63-1) {cx:Cx} (hcx:cx.base=1):∀(n:Nat) (v1 v2 v3:Int),0<=v3->tN ((a0.length:Int) - v3) < n->Aw.Good Tryz.prog none 9 (bodyPost Tryz.prog Tryz.f119 (RR cx (.t (k3 (aB (eW a0) n (v1,v2,v3)))) [] [])) cx [] (.l aAb n::aAc) (uX a0 v1 v2 v3):=by
 intro n
 induction n with
 | zero=>intro v1 v2 v3 hi hn;exact absurd hn (fZ _)
 | succ n ih =>
  intro v1 v2 v3 hi hn
  refine aH ?_
  cases h0:(decide ((v3:Int) < (a0.length:Int))) with
  | true =>
   have q0:=bS h0
   let t1:List (St Tryz.prog):=[.d h0,.i v3 (a0.length),.L bW a0 v3 0 2,.c [] (aTi (a0.getD (tN v3) dF))]
   cases h1:(!(oU (a0.getD (tN v3) dF))) with
   | true =>
    have e:=Eq.refl (eW a0 (v1,v2,v3));conv at e=>rhs;simp only [eW,h0,h1,aJ]
    rw [aD,e]
    exact rt (t1++[.d h1]) [] [] hcx (by kernel_rfl)
   | false =>
    have e:=Eq.refl (eW a0 (v1,v2,v3));conv at e=>rhs;simp only [eW,h0,h1,aJ]
    rw [aA e]
    refine ba (t1++[.d h1,.i v3 (a0.length),.L bW a0 v3 0 1,.i v3 (a0.length),.L bW a0 v3 1 1]) [] [0,5,6,7] [] hcx (m:=n) aAb (aAc) (uX a0 (W (v1+(a0.getD (tN v3) dF).1)) (W (v2+(a0.getD (tN v3) dF).2)) (W (v3+1))) (by kernel_rfl) ?_
    have z0:(W (v3+1))=(v3+1):=aF (by omega) (by omega)
    rw [z0]
    exact ih (W (v1+(a0.getD (tN v3) dF).1)) (W (v2+(a0.getD (tN v3) dF).2)) (v3+1) (by(try simp only [Ls]);omega) (by(try simp only [Ls]);omega)
  | false =>
   have q0:=cE h0
   have e:=Eq.refl (eW a0 (v1,v2,v3));conv at e=>rhs;simp only [eW,h0,aJ]
   rw [aD,e]
   exact rt [.d h0] [] [] hcx (by kernel_rfl)
def cO (a0:List (Int×Int)):Zt :=
 (bif (decide (((a0.length:Int):Int) > 10000)) then
  (0,0,4)
 else
  (aB (eW a0) (tN ((a0.length:Int) - 0)+1) (0,0,0)))
theorem aMs (a0:List (Int×Int))(l0:a0.length<=2^63-1):Con Tryz.prog 119 [(.s 0 0 a0.length 2)] [(.live false true (flat cM a0))] (.t (k3 (cO a0))) []:=by
 refine aK Tryz.func119 (by kernel_rfl) fun cx hcx=>?_
 cases h0:(decide (((a0.length:Int):Int) > 10000)) with
 | true =>
  have q0:=bS h0
  have e:=Eq.refl (cO a0);conv at e=>rhs;simp only [cO,h0,aJ]
  rw [e]
  exact rt [.d h0] [] [] hcx (by kernel_rfl)
 | false =>
  have q0:=cE h0
  have e:=Eq.refl (cO a0);conv at e=>rhs;simp only [cO,h0,aJ]
  rw [e]
  refine en [.d h0] [] [0,5,6,7] [] hcx aAb (aAc) (uX a0 0 0 0) (tN ((a0.length:Int) - 0)+1) (by kernel_rfl) ?_
  exact aMr a0 l0 hcx (tN ((a0.length:Int) - 0)+1) 0 0 0 (by(try simp only [Ls]);omega) (by(try simp only [Ls]);omega)
def eI (a0:List (Int×Int)):(Int×Int)×Int :=
 (bif (((cO a0).2.2:Int) != 0) then
  ((0,0),(cO a0).2.2)
 else
  ((tA (cO a0).1 (cO a0).2.1).1,(tA (cO a0).1 (cO a0).2.1).2))
theorem aR8 (a0:List (Int×Int))(l0:a0.length<=2^63-1):Con Tryz.prog 81 [(.s 0 0 a0.length 2)] [(.live false true (flat cM a0))] (.t [(.a (k2 (eI a0).1)),(iv (eI a0).2)]) []:=by
 refine aK Tryz.func81 (by kernel_rfl) fun cx hcx=>?_
 let t0:List (St Tryz.prog):=[.c [0] (aMs a0 (by omega))]
 cases h0:(((cO a0).2.2:Int) != 0) with
 | true =>
  have q0:=bne_iff_ne.1 h0
  have e:=Eq.refl (eI a0);conv at e=>rhs;simp only [eI,h0,aJ]
  rw [e]
  exact rt (t0++[.d h0]) [] [] hcx (by kernel_rfl)
 | false =>
  have q0:=bne_eq_false_iff_eq.1 h0
  have e:=Eq.refl (eI a0);conv at e=>rhs;simp only [eI,h0,aJ]
  rw [e]
  exact rt (t0++[.d h0,.c [] (C86 (cO a0).1 (cO a0).2.1)]) [] [] hcx (by kernel_rfl)
def rO (a0:Int)(a1:Int):Int :=
 (bif (decide (((Int.tmod a0 a1):Int) < 0)) then
  (W ((W (Int.tdiv a0 a1)) - 1))
 else
  (W (Int.tdiv a0 a1)))
theorem aTo (a0:Int)(a1:Int)(ha:a1≠0):Con Tryz.prog 142 [(iv a0),(iv a1)] [] (iv (rO a0 a1)) []:=by
 refine aK Tryz.func142 (by kernel_rfl) fun cx hcx=>?_
 let t0:List (St Tryz.prog):=[.p (show(a1:Int)≠0 from by first | omega | (rw [aF]<;>omega) | exact dM _),.p (show(a1:Int)≠0 from by first | omega | (rw [aF]<;>omega) | exact dM _)]
 cases h0:(decide (((Int.tmod a0 a1):Int) < 0)) with
 | true =>
  have q0:=bS h0
  have e:=Eq.refl (rO a0 a1);conv at e=>rhs;simp only [rO,h0,aJ]
  rw [e]
  exact rt (t0++[.d h0]) [] [] hcx (by kernel_rfl)
 | false =>
  have q0:=cE h0
  have e:=Eq.refl (rO a0 a1);conv at e=>rhs;simp only [rO,h0,aJ]
  rw [e]
  exact rt (t0++[.d h0]) [] [] hcx (by kernel_rfl)
def tB (a0:Int)(a1:Int):Int :=
 (W (0 - (rO (W (0 - a0)) a1)))
theorem aTp (a0:Int)(a1:Int)(ha:a1≠0):Con Tryz.prog 143 [(iv a0),(iv a1)] [] (iv (tB a0 a1)) []:=by
 refine aK Tryz.func143 (by kernel_rfl) fun cx hcx=>?_
 have e:=Eq.refl (tB a0 a1);conv at e=>rhs;simp only [tB]
 rw [e]
 exact rt [.c [] (aTo (W (0 - a0)) a1  (by(try simp only [Lt,iX,iY]);omega))] [] [] hcx (by kernel_rfl)
def iP (a0:List (Int×Int)):(Int×Int)×Int :=
 (bif (((cO a0).2.2:Int) != 0) then
  ((0,0),(cO a0).2.2)
 else
  (bif (((a0.length:Int):Int) == 0) then
   ((0,0),1)
  else
   ((tA (rO (cO a0).1 (a0.length:Int)) (tB (cO a0).2.1 (a0.length:Int))).1,(tA (rO (cO a0).1 (a0.length:Int)) (tB (cO a0).2.1 (a0.length:Int))).2)))
theorem aTq (a0:List (Int×Int))(l0:a0.length<=2^63-1):Con Tryz.prog 121 [(.s 0 0 a0.length 2)] [(.live false true (flat cM a0))] (.t [(.a (k2 (iP a0).1)),(iv (iP a0).2)]) []:=by
 refine aK Tryz.func121 (by kernel_rfl) fun cx hcx=>?_
 let t0:List (St Tryz.prog):=[.c [0] (aMs a0 (by omega))]
 cases h0:(((cO a0).2.2:Int) != 0) with
 | true =>
  have q0:=bne_iff_ne.1 h0
  have e:=Eq.refl (iP a0);conv at e=>rhs;simp only [iP,h0,aJ]
  rw [e]
  exact rt (t0++[.d h0]) [] [] hcx (by kernel_rfl)
 | false =>
  have q0:=bne_eq_false_iff_eq.1 h0
  let t1:List (St Tryz.prog):=(t0++[.d h0])
  cases h1:(((a0.length:Int):Int) == 0) with
  | true =>
   have q1:=eq_of_beq h1
   have e:=Eq.refl (iP a0);conv at e=>rhs;simp only [iP,h0,h1,aJ]
   rw [e]
   exact rt (t1++[.d h1]) [] [] hcx (by kernel_rfl)
  | false =>
   have q1:=ne_of_beq_false h1
   have e:=Eq.refl (iP a0);conv at e=>rhs;simp only [iP,h0,h1,aJ]
   rw [e]
   exact rt (t1++[.d h1,.c [] (aTo (cO a0).1 (a0.length:Int)  (by(try simp only [Lt,iX,iY]);omega)),.c [] (aTp (cO a0).2.1 (a0.length:Int)  (by(try simp only [Lt,iX,iY]);omega)),.c [] (C86 (rO (cO a0).1 (a0.length:Int)) (tB (cO a0).2.1 (a0.length:Int)))]) [] [] hcx (by kernel_rfl)
noncomputable def gE:Code:=(aC [1,1,0,1] [] (aG Tryz.f140) []).1
noncomputable def gF:List K:=(aC [1,1,0,1] [] (aG Tryz.f140) []).2
def fC (a0:Zt×Zt×Zt)(a1:List Zt)(v1 v2:Int):LS:=⟨fU 44 [(1,(.s 0 0 a1.length 3)),(2,(.p 1 0)),(5,(iv v1)),(6,(iv v2))],[(.live false true (flat dQ a1)),(.live true false (k9 a0))]⟩
def bU (a0:Zt×Zt×Zt)(a1:List Zt):Int×Int->(Int×Int)⊕(Int)
 | (v1,v2) =>
  (bif (decide ((v2:Int) < (a1.length:Int))) then
   (bif (decide (((gD (cW a0.1 (a1.getD (tN v2) dF)) (cW a0.1 (a1.getD (tN v2) dF))):Int) > v1)) then
    (bif (decide (((gD (cW a0.2.1 (a1.getD (tN v2) dF)) (cW a0.2.1 (a1.getD (tN v2) dF))):Int) > (gD (cW a0.1 (a1.getD (tN v2) dF)) (cW a0.1 (a1.getD (tN v2) dF))))) then
     (bif (decide (((gD (cW a0.2.2 (a1.getD (tN v2) dF)) (cW a0.2.2 (a1.getD (tN v2) dF))):Int) > (gD (cW a0.2.1 (a1.getD (tN v2) dF)) (cW a0.2.1 (a1.getD (tN v2) dF))))) then
      (.inl ((gD (cW a0.2.2 (a1.getD (tN v2) dF)) (cW a0.2.2 (a1.getD (tN v2) dF))),(v2+1)))
     else
      (.inl ((gD (cW a0.2.1 (a1.getD (tN v2) dF)) (cW a0.2.1 (a1.getD (tN v2) dF))),(v2+1))))
    else
     (bif (decide (((gD (cW a0.2.2 (a1.getD (tN v2) dF)) (cW a0.2.2 (a1.getD (tN v2) dF))):Int) > (gD (cW a0.1 (a1.getD (tN v2) dF)) (cW a0.1 (a1.getD (tN v2) dF))))) then
      (.inl ((gD (cW a0.2.2 (a1.getD (tN v2) dF)) (cW a0.2.2 (a1.getD (tN v2) dF))),(v2+1)))
     else
      (.inl ((gD (cW a0.1 (a1.getD (tN v2) dF)) (cW a0.1 (a1.getD (tN v2) dF))),(v2+1)))))
   else
    (bif (decide (((gD (cW a0.2.1 (a1.getD (tN v2) dF)) (cW a0.2.1 (a1.getD (tN v2) dF))):Int) > v1)) then
     (bif (decide (((gD (cW a0.2.2 (a1.getD (tN v2) dF)) (cW a0.2.2 (a1.getD (tN v2) dF))):Int) > (gD (cW a0.2.1 (a1.getD (tN v2) dF)) (cW a0.2.1 (a1.getD (tN v2) dF))))) then
      (.inl ((gD (cW a0.2.2 (a1.getD (tN v2) dF)) (cW a0.2.2 (a1.getD (tN v2) dF))),(v2+1)))
     else
      (.inl ((gD (cW a0.2.1 (a1.getD (tN v2) dF)) (cW a0.2.1 (a1.getD (tN v2) dF))),(v2+1))))
    else
     (bif (decide (((gD (cW a0.2.2 (a1.getD (tN v2) dF)) (cW a0.2.2 (a1.getD (tN v2) dF))):Int) > v1)) then
      (.inl ((gD (cW a0.2.2 (a1.getD (tN v2) dF)) (cW a0.2.2 (a1.getD (tN v2) dF))),(v2+1)))
     else
      (.inl (v1,(v2+1))))))
  else
   (.inr v1))
theorem aMt (a0:Zt×Zt×Zt)(a1:List Zt)(l1:a1.length<=2^63-1) {cx:Cx} (hcx:cx.base=1):∀(n:Nat) (v1 v2:Int),0<=v2->tN ((a1.length:Int) - v2) < n->Aw.Good Tryz.prog none 9 (bodyPost Tryz.prog Tryz.f140 (RR cx (iv (aB (bU a0 a1) n (v1,v2))) [] [])) cx [] (.l gE n::gF) (fC a0 a1 v1 v2):=by
 intro n
 induction n with
 | zero=>intro v1 v2 hi hn;exact absurd hn (fZ _)
 | succ n ih =>
  intro v1 v2 hi hn
  refine aH ?_
  cases h0:(decide ((v2:Int) < (a1.length:Int))) with
  | true =>
   have q0:=bS h0
   let t1:List (St Tryz.prog):=[.d h0,.u 200,.T,.i 0 3 (by decide),.i v2 (a1.length),.L bQ a1 v2 0 3,.c [] (C75 a0.1 (a1.getD (tN v2) dF)),.c [] (C76 (cW a0.1 (a1.getD (tN v2) dF)) (cW a0.1 (a1.getD (tN v2) dF)))]
   cases h1:(decide (((gD (cW a0.1 (a1.getD (tN v2) dF)) (cW a0.1 (a1.getD (tN v2) dF))):Int) > v1)) with
   | true =>
    have q1:=bS h1
    let t2:List (St Tryz.prog):=(t1++[.d h1,.u 0,.T,.i 1 3 (by decide),.i v2 (a1.length),.L bQ a1 v2 0 3,.c [] (C75 a0.2.1 (a1.getD (tN v2) dF)),.c [] (C76 (cW a0.2.1 (a1.getD (tN v2) dF)) (cW a0.2.1 (a1.getD (tN v2) dF)))])
    cases h2:(decide (((gD (cW a0.2.1 (a1.getD (tN v2) dF)) (cW a0.2.1 (a1.getD (tN v2) dF))):Int) > (gD (cW a0.1 (a1.getD (tN v2) dF)) (cW a0.1 (a1.getD (tN v2) dF))))) with
    | true =>
     have q2:=bS h2
     let t3:List (St Tryz.prog):=(t2++[.d h2,.u 0,.T,.i 2 3 (by decide),.i v2 (a1.length),.L bQ a1 v2 0 3,.c [] (C75 a0.2.2 (a1.getD (tN v2) dF)),.c [] (C76 (cW a0.2.2 (a1.getD (tN v2) dF)) (cW a0.2.2 (a1.getD (tN v2) dF)))])
     cases h3:(decide (((gD (cW a0.2.2 (a1.getD (tN v2) dF)) (cW a0.2.2 (a1.getD (tN v2) dF))):Int) > (gD (cW a0.2.1 (a1.getD (tN v2) dF)) (cW a0.2.1 (a1.getD (tN v2) dF))))) with
     | true =>
      have q3:=bS h3
      have e:=Eq.refl (bU a0 a1 (v1,v2));conv at e=>rhs;simp only [bU,h0,h1,h2,h3,aJ]
      rw [aA e]
      refine ba (t3++[.d h3,.u 0,.F]) [] [1,2,5,6] [1] hcx (m:=n) gE (gF) (fC a0 a1 (gD (cW a0.2.2 (a1.getD (tN v2) dF)) (cW a0.2.2 (a1.getD (tN v2) dF))) (W (v2+1))) (by kernel_rfl) ?_
      have z0:(W (v2+1))=(v2+1):=aF (by omega) (by omega)
      rw [z0]
      exact ih (gD (cW a0.2.2 (a1.getD (tN v2) dF)) (cW a0.2.2 (a1.getD (tN v2) dF))) (v2+1) (by(try simp only [Ls]);omega) (by(try simp only [Ls]);omega)
     | false =>
      have q3:=cE h3
      have e:=Eq.refl (bU a0 a1 (v1,v2));conv at e=>rhs;simp only [bU,h0,h1,h2,h3,aJ]
      rw [aA e]
      refine ba (t3++[.d h3,.u 0,.F]) [] [1,2,5,6] [1] hcx (m:=n) gE (gF) (fC a0 a1 (gD (cW a0.2.1 (a1.getD (tN v2) dF)) (cW a0.2.1 (a1.getD (tN v2) dF))) (W (v2+1))) (by kernel_rfl) ?_
      have z0:(W (v2+1))=(v2+1):=aF (by omega) (by omega)
      rw [z0]
      exact ih (gD (cW a0.2.1 (a1.getD (tN v2) dF)) (cW a0.2.1 (a1.getD (tN v2) dF))) (v2+1) (by(try simp only [Ls]);omega) (by(try simp only [Ls]);omega)
    | false =>
     have q2:=cE h2
     let t3:List (St Tryz.prog):=(t2++[.d h2,.u 0,.T,.i 2 3 (by decide),.i v2 (a1.length),.L bQ a1 v2 0 3,.c [] (C75 a0.2.2 (a1.getD (tN v2) dF)),.c [] (C76 (cW a0.2.2 (a1.getD (tN v2) dF)) (cW a0.2.2 (a1.getD (tN v2) dF)))])
     cases h3:(decide (((gD (cW a0.2.2 (a1.getD (tN v2) dF)) (cW a0.2.2 (a1.getD (tN v2) dF))):Int) > (gD (cW a0.1 (a1.getD (tN v2) dF)) (cW a0.1 (a1.getD (tN v2) dF))))) with
     | true =>
      have q3:=bS h3
      have e:=Eq.refl (bU a0 a1 (v1,v2));conv at e=>rhs;simp only [bU,h0,h1,h2,h3,aJ]
      rw [aA e]
      refine ba (t3++[.d h3,.u 0,.F]) [] [1,2,5,6] [1] hcx (m:=n) gE (gF) (fC a0 a1 (gD (cW a0.2.2 (a1.getD (tN v2) dF)) (cW a0.2.2 (a1.getD (tN v2) dF))) (W (v2+1))) (by kernel_rfl) ?_
      have z0:(W (v2+1))=(v2+1):=aF (by omega) (by omega)
      rw [z0]
      exact ih (gD (cW a0.2.2 (a1.getD (tN v2) dF)) (cW a0.2.2 (a1.getD (tN v2) dF))) (v2+1) (by(try simp only [Ls]);omega) (by(try simp only [Ls]);omega)
     | false =>
      have q3:=cE h3
      have e:=Eq.refl (bU a0 a1 (v1,v2));conv at e=>rhs;simp only [bU,h0,h1,h2,h3,aJ]
      rw [aA e]
      refine ba (t3++[.d h3,.u 0,.F]) [] [1,2,5,6] [1] hcx (m:=n) gE (gF) (fC a0 a1 (gD (cW a0.1 (a1.getD (tN v2) dF)) (cW a0.1 (a1.getD (tN v2) dF))) (W (v2+1))) (by kernel_rfl) ?_
      have z0:(W (v2+1))=(v2+1):=aF (by omega) (by omega)
      rw [z0]
      exact ih (gD (cW a0.1 (a1.getD (tN v2) dF)) (cW a0.1 (a1.getD (tN v2) dF))) (v2+1) (by(try simp only [Ls]);omega) (by(try simp only [Ls]);omega)
   | false =>
    have q1:=cE h1
    let t2:List (St Tryz.prog):=(t1++[.d h1,.u 0,.T,.i 1 3 (by decide),.i v2 (a1.length),.L bQ a1 v2 0 3,.c [] (C75 a0.2.1 (a1.getD (tN v2) dF)),.c [] (C76 (cW a0.2.1 (a1.getD (tN v2) dF)) (cW a0.2.1 (a1.getD (tN v2) dF)))])
    cases h2:(decide (((gD (cW a0.2.1 (a1.getD (tN v2) dF)) (cW a0.2.1 (a1.getD (tN v2) dF))):Int) > v1)) with
    | true =>
     have q2:=bS h2
     let t3:List (St Tryz.prog):=(t2++[.d h2,.u 0,.T,.i 2 3 (by decide),.i v2 (a1.length),.L bQ a1 v2 0 3,.c [] (C75 a0.2.2 (a1.getD (tN v2) dF)),.c [] (C76 (cW a0.2.2 (a1.getD (tN v2) dF)) (cW a0.2.2 (a1.getD (tN v2) dF)))])
     cases h3:(decide (((gD (cW a0.2.2 (a1.getD (tN v2) dF)) (cW a0.2.2 (a1.getD (tN v2) dF))):Int) > (gD (cW a0.2.1 (a1.getD (tN v2) dF)) (cW a0.2.1 (a1.getD (tN v2) dF))))) with
     | true =>
      have q3:=bS h3
      have e:=Eq.refl (bU a0 a1 (v1,v2));conv at e=>rhs;simp only [bU,h0,h1,h2,h3,aJ]
      rw [aA e]
      refine ba (t3++[.d h3,.u 0,.F]) [] [1,2,5,6] [1] hcx (m:=n) gE (gF) (fC a0 a1 (gD (cW a0.2.2 (a1.getD (tN v2) dF)) (cW a0.2.2 (a1.getD (tN v2) dF))) (W (v2+1))) (by kernel_rfl) ?_
      have z0:(W (v2+1))=(v2+1):=aF (by omega) (by omega)
      rw [z0]
      exact ih (gD (cW a0.2.2 (a1.getD (tN v2) dF)) (cW a0.2.2 (a1.getD (tN v2) dF))) (v2+1) (by(try simp only [Ls]);omega) (by(try simp only [Ls]);omega)
     | false =>
      have q3:=cE h3
      have e:=Eq.refl (bU a0 a1 (v1,v2));conv at e=>rhs;simp only [bU,h0,h1,h2,h3,aJ]
      rw [aA e]
      refine ba (t3++[.d h3,.u 0,.F]) [] [1,2,5,6] [1] hcx (m:=n) gE (gF) (fC a0 a1 (gD (cW a0.2.1 (a1.getD (tN v2) dF)) (cW a0.2.1 (a1.getD (tN v2) dF))) (W (v2+1))) (by kernel_rfl) ?_
      have z0:(W (v2+1))=(v2+1):=aF (by omega) (by omega)
      rw [z0]
      exact ih (gD (cW a0.2.1 (a1.getD (tN v2) dF)) (cW a0.2.1 (a1.getD (tN v2) dF))) (v2+1) (by(try simp only [Ls]);omega) (by(try simp only [Ls]);omega)
    | false =>
     have q2:=cE h2
     let t3:List (St Tryz.prog):=(t2++[.d h2,.u 0,.T,.i 2 3 (by decide),.i v2 (a1.length),.L bQ a1 v2 0 3,.c [] (C75 a0.2.2 (a1.getD (tN v2) dF)),.c [] (C76 (cW a0.2.2 (a1.getD (tN v2) dF)) (cW a0.2.2 (a1.getD (tN v2) dF)))])
     cases h3:(decide (((gD (cW a0.2.2 (a1.getD (tN v2) dF)) (cW a0.2.2 (a1.getD (tN v2) dF))):Int) > v1)) with
     | true =>
      have q3:=bS h3
      have e:=Eq.refl (bU a0 a1 (v1,v2));conv at e=>rhs;simp only [bU,h0,h1,h2,h3,aJ]
      rw [aA e]
      refine ba (t3++[.d h3,.u 0,.F]) [] [1,2,5,6] [1] hcx (m:=n) gE (gF) (fC a0 a1 (gD (cW a0.2.2 (a1.getD (tN v2) dF)) (cW a0.2.2 (a1.getD (tN v2) dF))) (W (v2+1))) (by kernel_rfl) ?_
      have z0:(W (v2+1))=(v2+1):=aF (by omega) (by omega)
      rw [z0]
      exact ih (gD (cW a0.2.2 (a1.getD (tN v2) dF)) (cW a0.2.2 (a1.getD (tN v2) dF))) (v2+1) (by(try simp only [Ls]);omega) (by(try simp only [Ls]);omega)
     | false =>
      have q3:=cE h3
      have e:=Eq.refl (bU a0 a1 (v1,v2));conv at e=>rhs;simp only [bU,h0,h1,h2,h3,aJ]
      rw [aA e]
      refine ba (t3++[.d h3,.u 0,.F]) [] [1,2,5,6] [1] hcx (m:=n) gE (gF) (fC a0 a1 v1 (W (v2+1))) (by kernel_rfl) ?_
      have z0:(W (v2+1))=(v2+1):=aF (by omega) (by omega)
      rw [z0]
      exact ih v1 (v2+1) (by(try simp only [Ls]);omega) (by(try simp only [Ls]);omega)
  | false =>
   have q0:=cE h0
   have e:=Eq.refl (bU a0 a1 (v1,v2));conv at e=>rhs;simp only [bU,h0,aJ]
   rw [aD,e]
   exact rt [.d h0] [] [] hcx (by kernel_rfl)
def iQ (a0:Zt×Zt×Zt)(a1:List Zt):Int :=
 (aB (bU a0 a1) (tN ((a1.length:Int) - 0)+1) (0,0))
theorem aTr (a0:Zt×Zt×Zt)(a1:List Zt)(l1:a1.length<=2^63-1):Con Tryz.prog 140 [(.a (k9 a0)),(.s 0 0 a1.length 3)] [(.live false true (flat dQ a1))] (iv (iQ a0 a1)) []:=by
 refine aK Tryz.func140 (by kernel_rfl) fun cx hcx=>?_
 have e:=Eq.refl (iQ a0 a1);conv at e=>rhs;simp only [iQ]
 rw [e]
 refine en [] [] [1,2,5,6] [1] hcx gE (gF) (fC a0 a1 0 0) (tN ((a1.length:Int) - 0)+1) (by kernel_rfl) ?_
 exact aMt a0 a1 l1 hcx (tN ((a1.length:Int) - 0)+1) 0 0 (by(try simp only [Ls]);omega) (by(try simp only [Ls]);omega)
noncomputable def aAd:Code:=(aC [1,1,0,1] [] (aG Tryz.f153) []).1
noncomputable def aAe:List K:=(aC [1,1,0,1] [] (aG Tryz.f153) []).2
def uY (a0:List Int)(v1 v2 v3:Int):LS:=⟨fU 33 [(0,(.s 0 0 a0.length 1)),(4,(iv v1)),(5,(iv v2)),(6,(iv v3))],[(.live false true (flat c3 a0))]⟩
def mF (a0:List Int):Zt->Zt⊕(Int×Int)
 | (v1,v2,v3) =>
  (bif (decide ((v3:Int) < (a0.length:Int))) then
   (.inl ((if((a0.getD (tN v3) dF):Int) < v1 then(a0.getD (tN v3) dF) else v1),(if(v2:Int) < (a0.getD (tN v3) dF) then(a0.getD (tN v3) dF) else v2),(v3+1)))
  else
   (.inr (v1,v2)))
theorem aMu (a0:List Int)(l0:a0.length<=2^63-1)(hl:0 < a0.length) {cx:Cx} (hcx:cx.base=1):∀(n:Nat) (v1 v2 v3:Int),0<=v3->tN ((a0.length:Int) - v3) < n->Aw.Good Tryz.prog none 9 (bodyPost Tryz.prog Tryz.f153 (RR cx (.t (k2 (aB (mF a0) n (v1,v2,v3)))) [] [])) cx [] (.l aAd n::aAe) (uY a0 v1 v2 v3):=by
 intro n
 induction n with
 | zero=>intro v1 v2 v3 hi hn;exact absurd hn (fZ _)
 | succ n ih =>
  intro v1 v2 v3 hi hn
  refine aH ?_
  cases h0:(decide ((v3:Int) < (a0.length:Int))) with
  | true =>
   have q0:=bS h0
   have e:=Eq.refl (mF a0 (v1,v2,v3));conv at e=>rhs;simp only [mF,h0,aJ]
   rw [aA e]
   refine ba [.d h0,.i v3 (a0.length),.L dH a0 v3 0 1,.i v3 (a0.length),.L dH a0 v3 0 1] [] [0,4,5,6] [] hcx (m:=n) aAd (aAe) (uY a0 (if((a0.getD (tN v3) dF):Int) < v1 then(a0.getD (tN v3) dF) else v1) (if(v2:Int) < (a0.getD (tN v3) dF) then(a0.getD (tN v3) dF) else v2) (W (v3+1))) (by kernel_rfl) ?_
   have z0:(W (v3+1))=(v3+1):=aF (by omega) (by omega)
   rw [z0]
   exact ih (if((a0.getD (tN v3) dF):Int) < v1 then(a0.getD (tN v3) dF) else v1) (if(v2:Int) < (a0.getD (tN v3) dF) then(a0.getD (tN v3) dF) else v2) (v3+1) (by(try simp only [Ls]);omega) (by(try simp only [Ls]);omega)
  | false =>
   have q0:=cE h0
   have e:=Eq.refl (mF a0 (v1,v2,v3));conv at e=>rhs;simp only [mF,h0,aJ]
   rw [aD,e]
   exact rt [.d h0] [] [] hcx (by kernel_rfl)
def cL (a0:List Int):Int×Int :=
 (aB (mF a0) (tN ((a0.length:Int) - 0)+1) ((a0.getD (tN 0) dF),(a0.getD (tN 0) dF),0))
theorem aMv (a0:List Int)(l0:a0.length<=2^63-1)(hl:0 < a0.length):Con Tryz.prog 153 [(.s 0 0 a0.length 1)] [(.live false true (flat c3 a0))] (.t (k2 (cL a0))) []:=by
 refine aK Tryz.func153 (by kernel_rfl) fun cx hcx=>?_
 have e:=Eq.refl (cL a0);conv at e=>rhs;simp only [cL]
 rw [e]
 refine en [.i 0 (a0.length),.L dH a0 0 0 1,.i 0 (a0.length),.L dH a0 0 0 1] [] [0,4,5,6] [] hcx aAd (aAe) (uY a0 (a0.getD (tN 0) dF) (a0.getD (tN 0) dF) 0) (tN ((a0.length:Int) - 0)+1) (by kernel_rfl) ?_
 exact aMu a0 l0 hl hcx (tN ((a0.length:Int) - 0)+1) (a0.getD (tN 0) dF) (a0.getD (tN 0) dF) 0 (by(try simp only [Ls]);omega) (by(try simp only [Ls]);omega)
def fP (a0:List Int)(a1:List Int):Int :=
 (W ((if((if(0:Int) < (W ((cL a0).1 - (cL a1).2)) then(W ((cL a0).1 - (cL a1).2)) else 0):Int) < (W ((cL a1).1 - (cL a0).2)) then(W ((cL a1).1 - (cL a0).2)) else(if(0:Int) < (W ((cL a0).1 - (cL a1).2)) then(W ((cL a0).1 - (cL a1).2)) else 0))*(if((if(0:Int) < (W ((cL a0).1 - (cL a1).2)) then(W ((cL a0).1 - (cL a1).2)) else 0):Int) < (W ((cL a1).1 - (cL a0).2)) then(W ((cL a1).1 - (cL a0).2)) else(if(0:Int) < (W ((cL a0).1 - (cL a1).2)) then(W ((cL a0).1 - (cL a1).2)) else 0))))
theorem aAf (a0:List Int)(a1:List Int)(l0:a0.length<=2^63-1)(l1:a1.length<=2^63-1)(h1:0 < a0.length)(h2:0 < a1.length):Con Tryz.prog 150 [(.s 0 0 a0.length 1),(.s 1 0 a1.length 1)] [(.live false true (flat c3 a0)),(.live false true (flat c3 a1))] (iv (fP a0 a1)) []:=by
 refine aK Tryz.func150 (by kernel_rfl) fun cx hcx=>?_
 have e:=Eq.refl (fP a0 a1);conv at e=>rhs;simp only [fP]
 rw [e]
 exact rt [.c [0] (aMv a0 (by omega) (by(try simp only [Lt,iX,iY]);omega)),.c [1] (aMv a1 (by omega) (by(try simp only [Lt,iX,iY]);omega))] [] [] hcx (by kernel_rfl)
def gM (a0:Zt×Zt×Zt)(a1:Zt×Zt×Zt):Int :=
 (W ((W ((fP (bZ a0 0) (bZ a1 0))+(fP (bZ a0 1) (bZ a1 1))))+(fP (bZ a0 2) (bZ a1 2))))
theorem aTs (a0:Zt×Zt×Zt)(a1:Zt×Zt×Zt):Con Tryz.prog 141 [(.a (k9 a0)),(.s 0 0 3 3)] [(.live false false (k9 a1))] (iv (gM a0 a1)) []:=by
 refine aK Tryz.func141 (by kernel_rfl) fun cx hcx=>?_
 have e:=Eq.refl (gM a0 a1);conv at e=>rhs;simp only [gM]
 rw [e]
 exact rt [.c [2] (uW a0 0),.c [0] (uW a1 0),.c [3,4] (aAf (bZ a0 0) (bZ a1 0) (by(try simp only [Lt,iX,iY]);omega) (by(try simp only [Lt,iX,iY]);omega) (by(try simp only [Lt,iX,iY]);omega) (by(try simp only [Lt,iX,iY]);omega)),.c [2] (uW a0 1),.c [0] (uW a1 1),.c [5,6] (aAf (bZ a0 1) (bZ a1 1) (by(try simp only [Lt,iX,iY]);omega) (by(try simp only [Lt,iX,iY]);omega) (by(try simp only [Lt,iX,iY]);omega) (by(try simp only [Lt,iX,iY]);omega)),.c [2] (uW a0 2),.c [0] (uW a1 2),.c [7,8] (aAf (bZ a0 2) (bZ a1 2) (by(try simp only [Lt,iX,iY]);omega) (by(try simp only [Lt,iX,iY]);omega) (by(try simp only [Lt,iX,iY]);omega) (by(try simp only [Lt,iX,iY]);omega))] [] [] hcx (by kernel_rfl)
theorem aK1 {n a b:Int} (ha:0<=a)(hb:0<=b)(h1:a*a<=n)(h2:n < (a+1)*(a+1))(h3:b*b<=n)(h4:n < (b+1)*(b+1)):a=b:=by
 rcases Int.lt_trichotomy a b with h | h | h
 ·have:(a+1)*(a+1)<=b*b:=Int.mul_le_mul (by omega) (by omega) (by omega) hb
  omega
 ·exact h
 ·have:(b+1)*(b+1)<=a*a:=Int.mul_le_mul (by omega) (by omega) (by omega) ha
  omega
def IsRt (n r:Int):Prop:=0<=r/\r*r<=n/\n < (r+1)*(r+1)
theorem IsRt.eq {n a b:Int} (h:IsRt n a)(h':IsRt n b):a=b:=aK1 h.1 h'.1 h.2.1 h.2.2 h'.2.1 h'.2.2
theorem IsRt.le {n r m:Int} (h:IsRt n r)(hm:0<=m)(hn:n < (m+1)*(m+1)):r<=m:=by
 rcases Int.lt_or_le m r with hlt | hle
 ·have:(m+1)*(m+1)<=r*r:=Int.mul_le_mul (by omega) (by omega) (by omega) h.1
  have:=h.2.1;omega
 ·exact hle
theorem IsRt.ge {n r m:Int} (h:IsRt n r)(hm:0<=m)(hn:m*m<=n):m<=r:=by
 rcases Int.lt_or_le r m with hlt | hle
 ·have:(r+1)*(r+1)<=m*m:=Int.mul_le_mul (by omega) (by omega) (by have:=h.1;omega) hm
  have:=h.2.2;omega
 ·exact hle
theorem IsRt.mono {n m a b:Int} (h:IsRt n a)(h':IsRt m b)(hnm:n<=m):a<=b:=h'.ge h.1 (Int.le_trans h.2.1 hnm)
theorem aCm {n:Int} {S:Int×Int->(Int×Int)⊕Int} (hS:∀k b,0<=k->0 < b->k+b<=2147483648->S (k,b)=if(k+b)*(k+b)<=n then .inl (k+b,b / 2) else .inl (k,b / 2))(h0:∀k,S (k,0)=.inr k) :
 ∀(j f:Nat) (k:Int),j+2<=f->0<=k->k+2*2 ^ j<=2147483648->k*k<=n->n < (k+2*2 ^ j)*(k+2*2 ^ j)->IsRt n (aB S f (k,2 ^ j)):=by
 intro j
 induction j with
 | zero =>
  intro f k hf hk hb h1 h2
  obtain⟨f,rfl⟩:∃g,f=g+2:=⟨f - 2,by omega⟩
  simp only [Int.pow_zero] at h2 hb ⊢
  have hs:=hS k 1 hk (by omega) (by omega)
  by_cases hc:(k+1)*(k+1)<=n
  ·rw [if_pos hc] at hs
   rw [aA hs,show((1:Int) / 2)=0 by omega,aO (h0 _)]
   refine⟨by omega,hc,?_⟩
   rw [show k+1+1=k+2*1 by omega];exact h2
  ·rw [if_neg hc] at hs
   rw [aA hs,show((1:Int) / 2)=0 by omega,aO (h0 _)]
   exact⟨hk,h1,by omega⟩
 | succ j ih =>
  intro f k hf hk hb h1 h2
  obtain⟨f,rfl⟩:∃g,f=g+1:=⟨f - 1,by omega⟩
  have hp:(0:Int) < 2 ^ j:=Int.pow_pos (by omega)
  rw [Int.pow_succ] at h2 hb ⊢
  have hs:=hS k (2 ^ j*2) hk (by omega) (by omega)
  have hd:(2:Int) ^ j*2 / 2=2 ^ j:=Int.mul_ediv_cancel _ (by omega)
  rw [hd] at hs
  by_cases hc:(k+2 ^ j*2)*(k+2 ^ j*2)<=n
  ·rw [if_pos hc] at hs
   rw [aA hs]
   refine ih f _ (by omega) (by omega) (by omega) hc ?_
   rw [show k+2 ^ j*2+2*2 ^ j=k+2*((2:Int) ^ j*2) by omega];exact h2
  ·rw [if_neg hc] at hs
   rw [aA hs]
   refine ih f _ (by omega) hk (by omega) h1 ?_
   rw [show k+2*(2:Int) ^ j=k+2 ^ j*2 by omega];omega
theorem aK2 {n:Int} {S:Int×Int->(Int×Int)⊕Int} (hS:∀a b,0<=a->a < b->b<=2147483648->S (a,b)=if((a+b+1) / 2)*((a+b+1) / 2)<=n then .inl ((a+b+1) / 2,b) else .inl (a,(a+b+1) / 2 - 1))(h0:∀a,S (a,a)=.inr a) :
 ∀(f:Nat) (a b:Int),0<=a->a<=b->b<=2147483648->b - a < f->a*a<=n->n < (b+1)*(b+1)->IsRt n (aB S f (a,b)):=by
 intro f
 induction f with
 | zero=>intro a b _ h _ hf;omega
 | succ f ih =>
  intro a b ha hab hb hf h1 h2
  by_cases he:a=b
  ·subst he
   rw [aO (h0 a)];exact⟨ha,h1,h2⟩
  ·have hs:=hS a b ha (by omega) hb
   by_cases hc:((a+b+1) / 2)*((a+b+1) / 2)<=n
   ·rw [if_pos hc] at hs
    rw [aA hs]
    exact ih _ _ (by omega) (by omega) hb (by omega) hc h2
   ·rw [if_neg hc] at hs
    rw [aA hs]
    refine ih _ _ ha (by omega) (by omega) (by omega) h1 ?_
    rw [show(a+b+1) / 2 - 1+1=(a+b+1) / 2 by omega];omega
theorem aJj {a:Int} (h:0<=a)(h':a<=2147483648):0<=a*a/\a*a<=4611686018427387904:=⟨Int.mul_nonneg h h,Int.le_trans (Int.mul_le_mul h' h' h (by omega)) (by omega)⟩
theorem aJk {n:Int} (h0:0<=n)(h:n < 4611686018427387904):IsRt n (jQ n):=by
 unfold jQ
 refine aCm (n:=n) (fun k b hk hb hkb=>?_) (fun k=>?_) 30 _ 0 (by decide) (by omega) (by decide) (by omega) (by simpa using h)
 ·have h2:decide (b > 0)=true:=by simpa using hb
  have hw:W (k+b)=k+b:=aF (by omega) (by omega)
  have hq:=aJj (a:=k+b) (by omega) hkb
  have hw2:W ((k+b)*(k+b))=(k+b)*(k+b):=aF (by omega) (by omega)
  simp only [lN,h2,cond_true,hw,hw2]
  by_cases hc:(k+b)*(k+b)<=n<;>simp [hc]
 ·simp [lN]
theorem uZ {n:Int} (h0:0<=n)(h:n < 4611686018427387904):IsRt n (gW n):=by
 unfold gW
 rw [show decide ((4611686018427387904:Int)<=n)=false by simpa using h]
 simp only [cond_false]
 refine aCm (n:=n) (fun k b hk hb hkb=>?_) (fun k=>?_) 30 _ 0 (by decide) (by omega) (by decide) (by omega) (by simpa using h)
 ·have h2:((b:Int) == 0)=false:=by rw [beq_eq_false_iff_ne];omega
  have hw:W (k+b)=k+b:=aF (by omega) (by omega)
  have hq:=aJj (a:=k+b) (by omega) hkb
  have hw2:W ((k+b)*(k+b))=(k+b)*(k+b):=aF (by omega) (by omega)
  simp only [oS,h2,cond_false,hw,hw2]
  by_cases hc:(k+b)*(k+b)<=n<;>simp [hc]
 ·simp [oS]
theorem aMw {n:Int} (h0:0<=n)(h:n < 4611686018427387904):IsRt n (hO n):=by
 unfold hO
 refine aK2 (n:=n) (fun a b ha hab hb=>?_) (fun a=>?_) _ 0 2147483648 (by omega) (by omega) (by omega) (by decide) (by omega) (by omega)
 ·have h2:decide (a < b)=true:=by simpa using hab
  have hw:=aDt (a:=a) (b:=b) (by omega)
  have hw3:=aJf (a:=a) (b:=b) (by omega)
  have hq:=aJj (a:=(a+b+1) / 2) (by omega) (by omega)
  have hw2:W ((a+b+1) / 2*((a+b+1) / 2))=(a+b+1) / 2*((a+b+1) / 2):=aF (by omega) (by omega)
  have hw4:W ((a+b+1) / 2 - 1)=(a+b+1) / 2 - 1:=aF (by omega) (by omega)
  simp only [lP,h2,cond_true,hw,hw2,hw4]
  by_cases hc:(a+b+1) / 2*((a+b+1) / 2)<=n<;>simp [hc]
 ·simp [lP]
abbrev P3:=Zt
abbrev PN:=P3×P3×P3
def bd (m:Int)(p:P3):Prop:=(-m<=p.1/\p.1<=m)/\(-m<=p.2.1/\p.2.1<=m)/\(-m<=p.2.2/\p.2.2<=m)
def bdP (m:Int)(p:PN):Prop:=bd m p.1/\bd m p.2.1/\bd m p.2.2
def sb (p q:P3):P3:=(p.1 - q.1,p.2.1 - q.2.1,p.2.2 - q.2.2)
def dt (p q:P3):Int:=p.1*q.1+p.2.1*q.2.1+p.2.2*q.2.2
def cr (p q:P3):P3:=(p.2.1*q.2.2 - p.2.2*q.2.1,p.2.2*q.1 - p.1*q.2.2,p.1*q.2.1 - p.2.1*q.1)
def nX (p:PN):P3:=cr (sb p.2.1 p.1) (sb p.2.2 p.1)
theorem bR {a b x y:Int} (hx:-a<=x/\x<=a)(hy:-b<=y/\y<=b):-(a*b)<=x*y/\x*y<=a*b:=by
 have h1:=Int.mul_nonneg (show 0<=a - x by omega) (show 0<=b - y by omega)
 have h2:=Int.mul_nonneg (show 0<=a+x by omega) (show 0<=b+y by omega)
 have h3:=Int.mul_nonneg (show 0<=a - x by omega) (show 0<=b+y by omega)
 have h4:=Int.mul_nonneg (show 0<=a+x by omega) (show 0<=b - y by omega)
 rw [Int.sub_mul,Int.mul_sub,Int.mul_sub] at h1
 rw [Int.add_mul,Int.mul_add,Int.mul_add] at h2
 rw [Int.sub_mul,Int.mul_add,Int.mul_add] at h3
 rw [Int.add_mul,Int.mul_sub,Int.mul_sub] at h4
 omega
theorem mH {a b:Int} {p q:P3} (hp:bd a p)(hq:bd b q):bd (a+b) (sb p q):=by
 unfold bd at *;simp only [sb];omega
theorem kQ (x:Int):0<=x*x:=by
 rcases Int.le_total 0 x with h | h
 ·exact Int.mul_nonneg h h
 ·exact Int.mul_nonneg_of_nonpos_of_nonpos h h
theorem tC (p:P3):0<=dt p p:=by
 have:=kQ p.1;have:=kQ p.2.1;have:=kQ p.2.2
 simp only [dt];omega
theorem aTt {p:P3} (h:¬(p.1=0/\p.2.1=0/\p.2.2=0)):1<=dt p p:=by
 have:=kQ p.1;have:=kQ p.2.1;have:=kQ p.2.2
 have key:∀x:Int,x≠0->1<=x*x:=fun x hx=>by
  have h0:=kQ x
  have:x*x≠0:=Int.mul_ne_zero hx hx
  omega
 simp only [dt]
 by_cases h1:p.1=0
 ·by_cases h2:p.2.1=0
  ·have:=key p.2.2 (fun h3=>h ⟨h1,h2,h3⟩);omega
  ·have:=key _ h2;omega
 ·have:=key _ h1;omega
theorem aR9 {a:Int} {p q:P3} (hp:bd a p)(hq:bd a q):-(3*(a*a))<=dt p q/\dt p q<=3*(a*a):=by
 have:=bR hp.1 hq.1;have:=bR hp.2.1 hq.2.1;have:=bR hp.2.2 hq.2.2
 simp only [dt];omega
theorem aVy {a:Int} {p q:P3} (hp:bd a p)(hq:bd a q):bd (2*(a*a)) (cr p q):=by
 have:=bR hp.2.1 hq.2.2;have:=bR hp.2.2 hq.2.1;have:=bR hp.2.2 hq.1;have:=bR hp.1 hq.2.2;have:=bR hp.1 hq.2.1;have:=bR hp.2.1 hq.1
 unfold bd;simp only [cr];omega
theorem fsb {p q:P3} (hp:bd 100000 p)(hq:bd 100000 q):bJ p q=sb p q:=by
 unfold bd at *;simp only [bJ,sb]
 rw [aF (by omega) (by omega),aF (by omega) (by omega),aF (by omega) (by omega)]
theorem fdt {p q:P3} (hp:bd 1000000000 p)(hq:bd 1000000000 q):iO p q=dt p q:=by
 have h1:=bR hp.1 hq.1;have h2:=bR hp.2.1 hq.2.1;have h3:=bR hp.2.2 hq.2.2
 simp only [iO,zT,dt]
 rw [aF (n:=p.1*q.1) (by omega) (by omega),aF (n:=p.2.1*q.2.1) (by omega) (by omega),aF (n:=p.2.2*q.2.2) (by omega) (by omega),Int.zero_add,aF (n:=p.1*q.1) (by omega) (by omega),aF (n:=p.1*q.1+p.2.1*q.2.1) (by omega) (by omega),aF (by omega) (by omega)]
theorem rdt {p q:P3} (hp:bd 1000000000 p)(hq:bd 1000000000 q):gD p q=dt p q:=by
 have h1:=bR hp.1 hq.1;have h2:=bR hp.2.1 hq.2.1;have h3:=bR hp.2.2 hq.2.2
 simp only [gD,dt]
 rw [aF (n:=p.1*q.1) (by omega) (by omega),aF (n:=p.2.1*q.2.1) (by omega) (by omega),aF (n:=p.2.2*q.2.2) (by omega) (by omega),aF (n:=p.1*q.1+p.2.1*q.2.1) (by omega) (by omega),aF (by omega) (by omega)]
theorem rsb {p q:P3} (hp:bd 100000 p)(hq:bd 100000 q):cW p q=sb p q:=by
 unfold bd at *;simp only [cW,sb]
 rw [aF (by omega) (by omega),aF (by omega) (by omega),aF (by omega) (by omega)]
theorem aTu {p q:P3} (hp:bd 1000000000 p)(hq:bd 1000000000 q) :
 ((W ((W (p.2.1*q.2.2)) - (W (p.2.2*q.2.1)))),(W ((W (p.2.2*q.1)) - (W (p.1*q.2.2)))),(W ((W (p.1*q.2.1)) - (W (p.2.1*q.1)))))=cr p q:=by
 have h1:=bR hp.2.1 hq.2.2;have h2:=bR hp.2.2 hq.2.1;have h3:=bR hp.2.2 hq.1;have h4:=bR hp.1 hq.2.2;have h5:=bR hp.1 hq.2.1;have h6:=bR hp.2.1 hq.1
 simp only [cr]
 rw [aF (n:=p.2.1*q.2.2) (by omega) (by omega),aF (n:=p.2.2*q.2.1) (by omega) (by omega),aF (n:=p.2.2*q.1) (by omega) (by omega),aF (n:=p.1*q.2.2) (by omega) (by omega),aF (n:=p.1*q.2.1) (by omega) (by omega),aF (n:=p.2.1*q.1) (by omega) (by omega),
  aF (by omega) (by omega),aF (by omega) (by omega),aF (by omega) (by omega)]
theorem fcr {p q:P3} (hp:bd 1000000000 p)(hq:bd 1000000000 q):fX p q=cr p q:=aTu hp hq
theorem scr {p q:P3} (hp:bd 1000000000 p)(hq:bd 1000000000 q):aHg p q=cr p q:=aTu hp hq
theorem rcr {p q:P3} (hp:bd 1000000000 p)(hq:bd 1000000000 q):F74 p q=cr p q:=aTu hp hq
theorem ssb {p q:P3} (hp:bd 100000 p)(hq:bd 100000 q):zR p q=sb p q:=by
 unfold bd at *;simp only [zR,aKx,sb]
 rw [aF (n:=-1*q.1) (by omega) (by omega),aF (n:=-1*q.2.1) (by omega) (by omega),aF (n:=-1*q.2.2) (by omega) (by omega),aF (by omega) (by omega),aF (by omega) (by omega),aF (by omega) (by omega)]
 refine Prod.ext (by simp only;omega) (Prod.ext (by simp only;omega) (by simp only;omega))
theorem bd.mono {a b:Int} {p:P3} (h:bd a p)(hab:a<=b):bd b p:=by unfold bd at *;omega
theorem bdP.mono {a b:Int} {p:PN} (h:bdP a p)(hab:a<=b):bdP b p:=⟨h.1.mono hab,h.2.1.mono hab,h.2.2.mono hab⟩
theorem aK3 (n a b:Int):F95 n a b=decide (a<=n/\n<=b):=by
 unfold F95
 by_cases h1:n≥a<;>by_cases h2:n<=b<;>simp [h1,h2]<;>omega
theorem aHj (n a b:Int):aD0 n a b=decide (a<=n/\n<=b):=by
 unfold aD0
 by_cases h1:n≥a<;>by_cases h2:n<=b<;>simp [h1,h2]<;>omega
theorem rP (n a b:Int):F84 n a b=decide (a<=n/\n<=b):=by
 unfold F84
 by_cases h1:n≥a<;>by_cases h2:n<=b<;>simp [h1,h2]<;>omega
theorem rQ (n a b:Int):F39 n a b=decide (a<=n/\n<=b):=by
 unfold F39
 by_cases h1:n≥a<;>by_cases h2:n<=b<;>simp [h1,h2]<;>omega
theorem aD4 (n a b:Int):oR n a b=decide (a<=n/\n<=b):=by
 unfold oR
 by_cases h1:a<=n<;>by_cases h2:n<=b<;>simp [h1,h2]
theorem aVz {a b c d:Prop} [Decidable a] [Decidable b] [Decidable c] [Decidable d] (h:(a/\b/\c)↔d):(bif decide a then(bif decide b then decide c else false) else false)=decide d:=by
 by_cases h1:a
 ·by_cases h2:b
  ·rw [cA h1,cA h2,cond_true,cond_true]
   by_cases h3:c
   ·rw [cA h3,cA (h.1 ⟨h1,h2,h3⟩)]
   ·rw [cT h3,cT (fun hd=>h3 (h.2 hd).2.2)]
  ·rw [cA h1,cT h2,cond_true,cond_false,cT (fun hd=>h2 (h.2 hd).2.1)]
 ·rw [cT h1,cond_false,cT (fun hd=>h1 (h.2 hd).1)]
theorem eq3 (x y z a b:Int):(bif (((x:Int) == 0)&&(((y:Int) == 0)&&(((z:Int) == 0)&&true))) then a else b)=if x=0/\y=0/\z=0 then a else b:=by
 have key:∀t:Int,(t == 0)=decide (t=0):=fun t=>by
  by_cases h:t=0
  ·rw [cA h];simpa using h
  ·rw [cT h];simpa using h
 rw [key,key,key,Bool.and_true,←Bool.decide_and,←Bool.decide_and]
 by_cases h:x=0/\y=0/\z=0
 ·rw [if_pos h,cA h,cond_true]
 ·rw [if_neg h,cT h,cond_false]
open Classical in
theorem kR (p:P3):F87 p 64=decide (bd 64 p):=by
 unfold F87
 rw [aD4,aD4,aD4,aF (by omega) (by omega)]
 exact aVz (by unfold bd;omega)
open Classical in
theorem pP (p:P3):F40 p 64=decide (bd 64 p):=by
 unfold F40
 rw [rQ,rQ,rQ,aF (by omega) (by omega)]
 exact aVz (by unfold bd;omega)
open Classical in
noncomputable def vp (p:PN):Int:=if bdP 64 p then(if(nX p).1=0/\(nX p).2.1=0/\(nX p).2.2=0 then 6 else 0) else 1
theorem aSa {p:PN} (h:bdP 64 p):F88 p=nX p:=by
 have h1:=h.1.mono (show(64:Int)<=100000 by omega);have h2:=h.2.1.mono (show(64:Int)<=100000 by omega);have h3:=h.2.2.mono (show(64:Int)<=100000 by omega)
 unfold F88 nX
 rw [ssb h2 h1,ssb h3 h1]
 exact scr ((mH h.2.1 h.1).mono (by omega)) ((mH h.2.2 h.1).mono (by omega))
theorem aMx {p:PN} (h:bdP 64 p):kD p=nX p:=by
 have h1:=h.1.mono (show(64:Int)<=100000 by omega);have h2:=h.2.1.mono (show(64:Int)<=100000 by omega);have h3:=h.2.2.mono (show(64:Int)<=100000 by omega)
 unfold kD nX
 rw [rsb h2 h1,rsb h3 h1]
 exact rcr ((mH h.2.1 h.1).mono (by omega)) ((mH h.2.2 h.1).mono (by omega))
theorem aV0 {p:PN} (h:bdP 64 p):fX (bJ p.2.1 p.1) (bJ p.2.2 p.1)=nX p:=by
 have h1:=h.1.mono (show(64:Int)<=100000 by omega);have h2:=h.2.1.mono (show(64:Int)<=100000 by omega);have h3:=h.2.2.mono (show(64:Int)<=100000 by omega)
 unfold nX
 rw [fsb h2 h1,fsb h3 h1]
 exact fcr ((mH h.2.1 h.1).mono (by omega)) ((mH h.2.2 h.1).mono (by omega))
theorem aQi (p:PN):zS p=vp p:=by
 unfold zS vp
 rw [kR,kR,kR]
 by_cases h1:bd 64 p.1
 ·by_cases h2:bd 64 p.2.1
  ·by_cases h3:bd 64 p.2.2
   ·have hb:bdP 64 p:=⟨h1,h2,h3⟩
    rw [aSa hb,if_pos hb]
    rw [eq3];simp [h1,h2,h3]
   ·simp [h1,h2,h3,bdP]
  ·simp [h1,h2,bdP]
 ·simp [h1,bdP]
theorem aQj (p:PN):mD p=vp p:=by
 unfold mD vp
 rw [pP,pP,pP]
 by_cases h1:bd 64 p.1
 ·by_cases h2:bd 64 p.2.1
  ·by_cases h3:bd 64 p.2.2
   ·have hb:bdP 64 p:=⟨h1,h2,h3⟩
    rw [aMx hb,if_pos hb]
    rw [eq3];simp [h1,h2,h3]
   ·simp [h1,h2,h3,bdP]
  ·simp [h1,h2,bdP]
 ·simp [h1,bdP]
theorem jK {p:PN} (h:vp p=0):bdP 64 p/\1<=dt (nX p) (nX p):=by
 unfold vp at h
 split at h
 ·rename_i hb
  split at h
  ·cases h
  ·rename_i hn;exact⟨hb,aTt hn⟩
 ·cases h
theorem aMy {p:PN} (h:bdP 64 p):bd 32768 (nX p)/\dt (nX p) (nX p)<=3221225472:=by
 have hb:bd (2*(128*128)) (nX p):=aVy (mH h.2.1 h.1) (mH h.2.2 h.1)
 exact⟨hb.mono (by omega),by have:=(aR9 hb hb).2;omega⟩
theorem aMz {p:PN} (h:vp p=0):∃k,jQ (iO (fX (bJ p.2.1 p.1) (bJ p.2.2 p.1)) (fX (bJ p.2.1 p.1) (bJ p.2.2 p.1)))=k/\IsRt (dt (nX p) (nX p)) k/\1<=k/\k<=56755:=by
 obtain⟨hb,hd⟩:=jK h
 obtain⟨hn,hu⟩:=aMy hb
 rw [aV0 hb,fdt (hn.mono (by omega)) (hn.mono (by omega))]
 have:=aJk (n:=dt (nX p) (nX p)) (by omega) (by omega)
 exact⟨_,rfl,this,this.ge (by omega) (by omega),this.le (by omega) (by omega)⟩
theorem aM0 {p:PN} (h:zS p=0):W (128*jQ (iO (fX (bJ p.2.1 p.1) (bJ p.2.2 p.1)) (fX (bJ p.2.1 p.1) (bJ p.2.2 p.1))))≠0:=by
 rw [aQi] at h
 obtain⟨k,e,_,h1,h2⟩:=aMz h
 rw [e,aF (by omega) (by omega)];omega
theorem aQk {p:PN} (h:mD p=0):W (128*qL (gD (kD p) (kD p)))≠0:=by
 rw [aQj] at h
 obtain⟨hb,hd⟩:=jK h
 obtain⟨hn,hu⟩:=aMy hb
 rw [aMx hb,rdt (hn.mono (by omega)) (hn.mono (by omega))]
 have:=aMw (n:=dt (nX p) (nX p)) (by omega) (by omega)
 have h1:=this.ge (m:=1) (by omega) (by omega)
 have h2:=this.le (m:=56755) (by omega) (by omega)
 unfold qL
 rw [aF (by omega) (by omega)];omega
end Go.Proofs.YtcmdknehplnpfaaGreat
namespace Go.Proofs.YtcmdknehplnpfaaGreat
open Go.Proofs Go.Aw Go.RowKit
set_option maxRecDepth 100000
def qT (x:PN):List PN :=
 [(aE x.1 2,aR (aE x.1 2) (aE x.2.1 2),aR (aE x.2.2 2) (aE x.1 2)),
  (aR (aE x.1 2) (aE x.2.1 2),aE x.2.1 2,aR (aE x.2.1 2) (aE x.2.2 2)),
  (aR (aE x.2.2 2) (aE x.1 2),aR (aE x.2.1 2) (aE x.2.2 2),aE x.2.2 2),
  (aR (aE x.1 2) (aE x.2.1 2),aR (aE x.2.1 2) (aE x.2.2 2),aR (aE x.2.2 2) (aE x.1 2))]
def aBw:Nat->List PN->List PN
 | 0,l=>l
 | n+1,l=>aBw n (l.flatMap qT)
theorem wO:∀(n:Nat) (l:List PN),(aBw n l).length=4 ^ n*l.length
 | 0,l=>by simp [aBw]
 | n+1,l=>by
  have:(l.flatMap qT).length=4*l.length:=by
   induction l with
   | nil=>rfl
   | cons x l ih=>rw [List.flatMap_cons,List.length_append,ih];simp only [qT,List.length_cons,List.length_nil];omega
  rw [aBw,wO n,this,Nat.pow_succ]
  rw [←Nat.mul_assoc,Nat.mul_comm (4 ^ n) 4,Nat.mul_comm 4 (4 ^ n)]
theorem aTv (a0:PN)(a1:Int)(l:List PN):∀(f i:Nat) (nx:List PN) (d:Int),l.length - i < f->i<=l.length ->
 aB (jF a0 a1) f (l,nx,d,(i:Int))=.inl (nx++(l.drop i).flatMap qT,d+1):=by
 intro f
 induction f with
 | zero=>intro i nx d h;omega
 | succ f ih =>
  intro i nx d h hi
  by_cases hlt:i < l.length
  ·have hs:jF a0 a1 (l,nx,d,(i:Int))=.inl (l,nx++qT (l.getD i dF),d,((i+1:Nat):Int)):=by
    have:decide ((i:Int) < (l.length:Int))=true:=by simpa using hlt
    simp only [jF,this,cond_true,sJ,qT]
    rfl
   rw [aA hs,ih _ _ _ (by omega) (by omega)]
   have hd:l.drop i=l.getD i dF::l.drop (i+1):=by
    rw [List.drop_eq_getElem_cons hlt];simp [eU,hlt]
   rw [hd,List.flatMap_cons,List.append_assoc]
  ·have:decide ((i:Int) < (l.length:Int))=false:=by simpa using hlt
   have hs:jF a0 a1 (l,nx,d,(i:Int))=.inr (.inl (nx,d+1)):=by
    simp only [jF,this,cond_false]
   rw [aO hs,List.drop_of_length_le (by omega)];simp
theorem aQl (a0:PN)(a1:Int):∀(f n:Nat) (l:List PN),n < f->aB (fY a0 a1) f (l,a1 - n)=aBw n l:=by
 intro f
 induction f with
 | zero=>intro n l h;omega
 | succ f ih =>
  intro n l h
  cases n with
  | zero =>
   have hs:fY a0 a1 (l,a1 - (0:Nat))=.inr l:=by
    have:decide (a1 - ((0:Nat):Int) < a1)=false:=by simp
    simp only [fY,this,cond_false]
   rw [aO hs];rfl
  | succ n =>
   have hs:fY a0 a1 (l,a1 - ((n+1:Nat):Int))=.inl (l.flatMap qT,a1 - (n:Nat)):=by
    have:decide (a1 - ((n+1:Nat):Int) < a1)=true:=by simp;omega
    simp only [fY,this,cond_true]
    have:=aTv a0 a1 l (tN ((l.length:Int) - 0)+1) 0 [] (a1 - ((n+1:Nat):Int)) (by omega) (by omega)
    simp only [List.drop_zero,List.nil_append] at this
    rw [show((0:Nat):Int)=0 from rfl] at this
    rw [this,show a1 - ((n+1:Nat):Int)+1=a1 - (n:Nat) by omega]
   rw [aA hs,ih _ _ (by omega)];rfl
theorem aGe (p:PN) {d:Int} (h:0<=d):cF p d=aBw d.toNat [p]:=by
 unfold cF
 have:=aQl p d (tN (d - 0)+1) d.toNat [p] (by omega)
 rw [show d - (d.toNat:Int)=0 by omega] at this
 exact this
theorem aJl (p:PN) {d:Int} (h:0<=d):(cF p d).length=4 ^ d.toNat:=by
 rw [aGe p h,wO];simp
theorem aM1 {p:PN} {d:Int} (h:0<=d):((((cF p d).length:Nat)):Int)≠0:=by
 rw [aJl p h]
 have:0 < 4 ^ d.toNat:=Nat.pow_pos (by omega)
 omega
theorem aM2 {p:PN} {d:Int} (h:0<=d/\d<=3):(cF p d).length<=64:=by
 rw [aJl p h.1]
 have:d.toNat<=3:=by omega
 calc 4 ^ d.toNat<=4 ^ 3:=Nat.pow_le_pow_right (by omega) this
  _=64:=rfl
def aD5 (x:PN):List PN:=[q1 x,q2 x,q3 x,q4 x]
theorem jS {p:P3} (h:bd 100000 p):qJ p 2=(2*p.1,2*p.2.1,2*p.2.2):=by
 unfold bd at h;simp only [qJ];rw [aF (by omega) (by omega),aF (by omega) (by omega),aF (by omega) (by omega)]
theorem tD {p:P3} (h:bd 100000 p):aE p 2=(2*p.1,2*p.2.1,2*p.2.2):=by
 unfold bd at h;simp only [aE];rw [aF (by omega) (by omega),aF (by omega) (by omega),aF (by omega) (by omega)]
theorem tE {p q:P3} (hp:bd 100000 p)(hq:bd 100000 q):gB p q=(p.1+q.1,p.2.1+q.2.1,p.2.2+q.2.2):=by
 unfold bd at hp hq;simp only [gB];rw [aF (by omega) (by omega),aF (by omega) (by omega),aF (by omega) (by omega)]
theorem aM3 {p q:P3} (hp:bd 100000 p)(hq:bd 100000 q):aR (aE p 2) (aE q 2)=(p.1+q.1,p.2.1+q.2.1,p.2.2+q.2.2):=by
 rw [tD hp,tD hq]
 have key:∀a b:Int,(-100000<=a/\a<=100000)->(-100000<=b/\b<=100000)->W (Int.tdiv (W (2*a+2*b)) 2)=a+b:=fun a b h1 h2=>by
  rw [aF (n:=2*a+2*b) (by omega) (by omega),←Int.mul_add,Int.mul_tdiv_cancel_left _ (by omega),aF (by omega) (by omega)]
 simp only [aR]
 rw [key _ _ hp.1 hq.1,key _ _ hp.2.1 hq.2.1,key _ _ hp.2.2 hq.2.2]
theorem aQm {x:PN} (h:bdP 100000 x):qT x=aD5 x:=by
 unfold qT aD5 q1 q2 q3 q4
 rw [aM3 h.1 h.2.1,aM3 h.2.2 h.1,aM3 h.2.1 h.2.2,tE h.1 h.2.1,tE h.2.2 h.1,tE h.2.1 h.2.2,tD h.1,tD h.2.1,tD h.2.2,jS h.1,jS h.2.1,jS h.2.2]
theorem aQn {m:Int} {x y:PN} (h:bdP m x)(hm:m<=100000)(hy:y∈aD5 x):bdP (2*m) y:=by
 have h1:=h.1.mono hm;have h2:=h.2.1.mono hm;have h3:=h.2.2.mono hm
 unfold aD5 q1 q2 q3 q4 at hy
 rw [tE h1 h2,tE h3 h1,tE h2 h3,jS h1,jS h2,jS h3] at hy
 have ha:=h.1;have hb:=h.2.1;have hc:=h.2.2
 unfold bd at ha hb hc
 simp only [List.mem_cons,List.mem_nil_iff,or_false] at hy
 unfold bdP bd
 rcases hy with rfl | rfl | rfl | rfl<;>simp only<;>omega
theorem gS:∀(d:Nat) (p:PN),bI (d+1) p=(bI d p).flatMap aD5
 | 0,p=>by simp [bI,aD5]
 | d+1,p=>by
  rw [show bI (d+1+1) p=bI (d+1) (q1 p)++(bI (d+1) (q2 p)++(bI (d+1) (q3 p)++bI (d+1) (q4 p))) from rfl]
  rw [gS d (q1 p),gS d (q2 p),gS d (q3 p),gS d (q4 p)]
  simp only [bI,List.flatMap_append]
theorem xR:∀(d:Nat) {m:Int} {p x:PN},bdP m p->m*2 ^ d<=100000->0<=m->x∈bI d p->bdP (m*2 ^ d) x
 | 0,m,p,x,h,_,_,hx=>by simp [bI] at hx;subst hx;simpa using h
 | d+1,m,p,x,h,hm,h0,hx=>by
  rw [gS,List.mem_flatMap] at hx
  obtain⟨y,hy,hx⟩:=hx
  have hp:(0:Int) < 2 ^ d:=Int.pow_pos (by omega)
  have hle:m*2 ^ d<=m*2 ^ (d+1):=Int.mul_le_mul_of_nonneg_left (by rw [Int.pow_succ];omega) h0
  have:=aQn (xR d h (by omega) h0 hy) (by omega) hx
  rw [Int.pow_succ,←Int.mul_assoc,Int.mul_comm];exact this
theorem aAg {α β:Type} {f g:α->List β}:∀{l:List α},(∀x∈l,f x=g x)->l.flatMap f=l.flatMap g
 | [],_=>rfl
 | x::l,h=>by rw [List.flatMap_cons,List.flatMap_cons,h x (by simp),aAg (fun y hy=>h y (by simp [hy]))]
theorem aCn:∀(n:Nat) (l:List PN),aBw (n+1) l=(aBw n l).flatMap qT
 | 0,l=>rfl
 | n+1,l=>by rw [aBw,aCn n];rfl
theorem aM4 {p:PN} (hp:bdP 64 p):∀d:Nat,d<=9->aBw d [p]=bI d p
 | 0,_=>rfl
 | d+1,h=>by
  rw [aCn,aM4 hp d (by omega),gS]
  have hle:(64:Int)*2 ^ d<=100000:=by
   have h1:(2:Nat) ^ d<=2 ^ 9:=Nat.pow_le_pow_right (by omega) (by omega)
   have h2:(2:Int) ^ d=((2 ^ d:Nat):Int):=by simp
   omega
  exact aAg (fun x hx=>aQm ((xR d hp hle (by omega) hx).mono hle))
theorem aV1 {p:PN} (hp:bdP 64 p) {d:Int} (h:0<=d/\d<=3):cF p d=bI d.toNat p:=by
 rw [aGe p h.1,aM4 hp _ (by omega)]
theorem C67 (a0:Zt×Zt×Zt)(a1:Int):Con Tryz.prog 67 [(.a (k9 a0)),(iv a1)] [] (.f 102 [(.p 0 0),(.p 1 0)]) [(.live true false (k9 a0)),(.live true false [(iv a1)])]:=by
 refine aK Tryz.func67 (by kernel_rfl) fun cx hcx=>?_
 exact rt [] [] [0,1] hcx (by kernel_rfl)
def pQ (a0:Zt×Zt×Zt)(a1:Int):Int :=
 (bif (decide (((W ((W ((jQ (W (Int.tdiv (W (3537128906555392*2 ^ (min (tN (W (2*a1))) 64))) (W (128*(jQ (iO (fX (bJ a0.2.1 a0.1) (bJ a0.2.2 a0.1)) (fX (bJ a0.2.1 a0.1) (bJ a0.2.2 a0.1)))))))))*(jQ (W (Int.tdiv (W (3537128906555392*2 ^ (min (tN (W (2*a1))) 64))) (W (128*(jQ (iO (fX (bJ a0.2.1 a0.1) (bJ a0.2.2 a0.1)) (fX (bJ a0.2.1 a0.1) (bJ a0.2.2 a0.1)))))))))))*(W (128*(jQ (iO (fX (bJ a0.2.1 a0.1) (bJ a0.2.2 a0.1)) (fX (bJ a0.2.1 a0.1) (bJ a0.2.2 a0.1)))))))):Int) < (W (3537128906555392*2 ^ (min (tN (W (2*a1))) 64))))) then
  (W ((jQ (W (Int.tdiv (W (3537128906555392*2 ^ (min (tN (W (2*a1))) 64))) (W (128*(jQ (iO (fX (bJ a0.2.1 a0.1) (bJ a0.2.2 a0.1)) (fX (bJ a0.2.1 a0.1) (bJ a0.2.2 a0.1)))))))))+1))
 else
  (jQ (W (Int.tdiv (W (3537128906555392*2 ^ (min (tN (W (2*a1))) 64))) (W (128*(jQ (iO (fX (bJ a0.2.1 a0.1) (bJ a0.2.2 a0.1)) (fX (bJ a0.2.1 a0.1) (bJ a0.2.2 a0.1))))))))))
theorem C96 (a0:Zt×Zt×Zt)(a1:Int)(hp:zS a0=0)(ha:0<=a1/\a1<=3):Con Tryz.prog 96 [(.a (k9 a0)),(iv a1)] [] (iv (pQ a0 a1)) []:=by
 refine aK Tryz.func96 (by kernel_rfl) fun cx hcx=>?_
 let t0:List (St Tryz.prog):=[.c [] (aTd a0.2.1 a0.1),.c [] (aTd a0.2.2 a0.1),.c [] (aY0 (bJ a0.2.1 a0.1) (bJ a0.2.2 a0.1)),.c [] (aTc (fX (bJ a0.2.1 a0.1) (bJ a0.2.2 a0.1)) (fX (bJ a0.2.1 a0.1) (bJ a0.2.2 a0.1))),.c [] (aVo (iO (fX (bJ a0.2.1 a0.1) (bJ a0.2.2 a0.1)) (fX (bJ a0.2.1 a0.1) (bJ a0.2.2 a0.1)))),.p (show 0<=((W (2*a1)):Int) from by first | (rw [aF]<;>omega) | exact aM0 hp),.p (show((W (128*(jQ (iO (fX (bJ a0.2.1 a0.1) (bJ a0.2.2 a0.1)) (fX (bJ a0.2.1 a0.1) (bJ a0.2.2 a0.1)))))):Int)≠0 from by first | (rw [aF]<;>omega) | exact aM0 hp),.c [] (aVo (W (Int.tdiv (W (3537128906555392*2 ^ (min (tN (W (2*a1))) 64))) (W (128*(jQ (iO (fX (bJ a0.2.1 a0.1) (bJ a0.2.2 a0.1)) (fX (bJ a0.2.1 a0.1) (bJ a0.2.2 a0.1)))))))))]
 cases h0:(decide (((W ((W ((jQ (W (Int.tdiv (W (3537128906555392*2 ^ (min (tN (W (2*a1))) 64))) (W (128*(jQ (iO (fX (bJ a0.2.1 a0.1) (bJ a0.2.2 a0.1)) (fX (bJ a0.2.1 a0.1) (bJ a0.2.2 a0.1)))))))))*(jQ (W (Int.tdiv (W (3537128906555392*2 ^ (min (tN (W (2*a1))) 64))) (W (128*(jQ (iO (fX (bJ a0.2.1 a0.1) (bJ a0.2.2 a0.1)) (fX (bJ a0.2.1 a0.1) (bJ a0.2.2 a0.1)))))))))))*(W (128*(jQ (iO (fX (bJ a0.2.1 a0.1) (bJ a0.2.2 a0.1)) (fX (bJ a0.2.1 a0.1) (bJ a0.2.2 a0.1)))))))):Int) < (W (3537128906555392*2 ^ (min (tN (W (2*a1))) 64))))) with
 | true =>
  have q0:=bS h0
  have e:=Eq.refl (pQ a0 a1);conv at e=>rhs;simp only [pQ,h0,aJ]
  rw [e]
  exact rt (t0++[.d h0]) [] [] hcx (by kernel_rfl)
 | false =>
  have q0:=cE h0
  have e:=Eq.refl (pQ a0 a1);conv at e=>rhs;simp only [pQ,h0,aJ]
  rw [e]
  exact rt (t0++[.d h0]) [] [] hcx (by kernel_rfl)
def aS (a0:Zt×Zt×Zt):Zt×Zt×Zt :=
 a0
theorem C97 (a0:Zt×Zt×Zt):Con Tryz.prog 97 [(.a (k9 a0))] [] (.a (k9 (aS a0))) []:=by
 refine aK Tryz.func97 (by kernel_rfl) fun cx hcx=>?_
 have e:=Eq.refl (aS a0);conv at e=>rhs;simp only [aS]
 rw [e]
 exact rt [] [] [] hcx (by kernel_rfl)
def aBx (a0:Int)(a1:Int)(a2:Int):Int×Int :=
 (xE (a0,a1) a2).1
theorem aY6 (a0:Int)(a1:Int)(a2:Int):Con Tryz.prog 101 [(iv a0),(iv a1),(iv a2)] [] (.a (k2 (aBx a0 a1 a2))) []:=by
 refine aK Tryz.func101 (by kernel_rfl) fun cx hcx=>?_
 have e:=Eq.refl (aBx a0 a1 a2);conv at e=>rhs;simp only [aBx]
 rw [e]
 exact rt [.c [] (aY2 (a0,a1) a2)] [] [] hcx (by kernel_rfl)
noncomputable def aY7:Code:=match (dL [1,1,1,1,0,1,0] [] (Tryz.f65.body.getD .skip)).1 with
 | .rangeFunc _ _ a b=>a
 | _=>.skip
noncomputable def aY8:Code:=match (dL [1,1,1,1,0,1,0] [] (Tryz.f65.body.getD .skip)).1 with
 | .rangeFunc _ _ a b=>b
 | _=>.skip
noncomputable def aY9:List K:=(dL [1,1,1,1,0,1,0] [] (Tryz.f65.body.getD .skip)).2
def aTw (a0:Zt×Zt×Zt)(a1:Zt×Zt×Zt)(a2:Int):Int×Int->LS
 | (v1,v2)=>⟨[.u,.u,(iv a2),.u,.u,.u,(.p 0 0),(.p 1 0),(.p 2 0),(.p 3 0),(.p 4 0),(.p 5 0),.u,.u,.u,.u,.u,.u,.u,.u,.u,.u,.u,.u,.u,.u,.u,.u,.u,(.f 102 [(.p 6 0),(.p 7 0)]),.u,.u,.u,.u,.u,.u,.u,.u,.u,.u,.u,.u,.u,.u,.u,.u,.u,.u,.u,.u,.u,.u,.u,.u,.u,.u,.u,.u,.u,.u,.u,.u,.u,.u,.u,.u,.u,.u,.u,.u],[(.live true false [(iv 0),(iv 0)]),(.live true false [(iv (W (1*2 ^ (min (tN a2) 64))))]),(.live true false [(iv (pQ a0 a2))]),(.live true false (k9 (aS a1))),(.live true false [(iv v1)]),(.live true false [(iv v2)]),(.live true false (k9 a0)),(.live true false [(iv a2)])]⟩
def aV2 (a0:Zt×Zt×Zt)(a1:Zt×Zt×Zt)(a2:Int):Int×Int->Zt×Zt×Zt->LS
 | (v1,v2),x=>⟨[.u,.u,.u,.u,.u,.u,.u,(.p 1 0),(.p 2 0),(.p 3 0),(.p 4 0),(.p 5 0),(.p 8 0),.u,.u,.u,.u,.u,.u,.u,.u,.u,.u,.u,.u,.u,.u,.u,.u,.u,.u,.u,.u,.u,.u,.u,.u,.u,.u,.u,.u,.u,.u,.u,.u,.u,.u,.u,.u,.u,.u,.u,.u,.u,.u,.u,.u,.u,.u,.u,.u,.u,.u,.u,.u,.u,.u,.u,.u,.u],[(.live true false [(iv 0),(iv 0)]),(.live true false [(iv (W (1*2 ^ (min (tN a2) 64))))]),(.live true false [(iv (pQ a0 a2))]),(.live true false (k9 (aS a1))),(.live true false [(iv v1)]),(.live true false [(iv v2)]),(.live true false (k9 a0)),(.live true false [(iv a2)]),(.live true false (k9 x))]⟩
def wP (a0:Zt×Zt×Zt)(a1:Zt×Zt×Zt)(a2:Int):Int×Int->Zt×Zt×Zt->Int×Int
 | (v1,v2),x =>
  (bif (decide (((bL (aS x) (aS a1)):Int) > 0)) then
   ((W (v1+(nT (bY ([(aS x).1,(aS x).2.1,(aS x).2.2]:List Zt) ([(aS a1).1,(aS a1).2.1,(aS a1).2.2]:List Zt)) (W (1*2 ^ (min (tN a2) 64)))).1.1)),(W (v2+(if((nT (bL (aS x) (aS a1)) (W (1*2 ^ (min (tN a2) 64)))).1.2:Int) < (pQ a0 a2) then(nT (bL (aS x) (aS a1)) (W (1*2 ^ (min (tN a2) 64)))).1.2 else(pQ a0 a2)))))
  else
   ((W (v1+(nT (bY ([(aS x).1,(aS x).2.1,(aS x).2.2]:List Zt) ([(aS a1).1,(aS a1).2.1,(aS a1).2.2]:List Zt)) (W (1*2 ^ (min (tN a2) 64)))).1.1)),(W (v2+(pQ a0 a2)))))
def G65 (a0:Zt×Zt×Zt)(a1:Zt×Zt×Zt)(a2:Int):Int×Int->Int×Int
 | (v1,v2) =>
  (aBx v1 v2 (W (1*2 ^ (min (tN (W (2*a2))) 64))))
def F65 (a0:Zt×Zt×Zt)(a1:Zt×Zt×Zt)(a2:Int):Int×Int :=
 (G65 a0 a1 a2 ((bI (tN a2) a0).foldl (wP a0 a1 a2) (0,0)))
theorem C65 (a0:Zt×Zt×Zt)(a1:Zt×Zt×Zt)(a2:Int)(hp:zS a0=0)(ha:0<=a2/\a2<=3):Con Tryz.prog 65 [(.a (k9 a0)),(.a (k9 a1)),(iv a2)] [] (.a (k2 (F65 a0 a1 a2))) []:=by
 have e:(F65 a0 a1 a2)=(G65 a0 a1 a2 ((bI (tN a2) a0).foldl (wP a0 a1 a2) (0,0))):=by simp only [F65]
 rw [e]
 refine oL (n:=9) Tryz.func65 rfl (ent Tryz.func65 (by kernel_rfl) rfl) (by show 3<=Tryz.f65.ntmps;decide) (by kernel_rfl) trivial (fun cx hcx=>?_)
 refine sU (T:=T0) hT hm (f:=5000) (orc:=[.call [] (iv (pQ a0 a2)) [],.call [] (.a (k9 (aS a1))) [],.call [] (.f 102 [(.p 0 0),(.p 1 0)]) [(.live true false (k9 a0)),(.live true false [(iv a2)])]]) [] [2,6,7,8,9,10,11,29] [2,3,4,5,6,7,8,9] hcx (x:=.rangeFunc (.tmp 29) #[30] aY7 aY8) (k':=aY9) (s':=aTw a0 a1 a2 (0,0))
  (obs:=[.pr (0<=(a2:Int)),.call 96 [(.a (k9 a0)),(iv a2)] [] (iv (pQ a0 a2)) [],.call 97 [(.a (k9 a1))] [] (.a (k9 (aS a1))) [],.call 67 [(.a (k9 a0)),(iv a2)] [] (.f 102 [(.p 0 0),(.p 1 0)]) [(.live true false (k9 a0)),(.live true false [(iv a2)])]]) (by kernel_rfl) ⟨(show 0<=(a2:Int) from by first | omega | (rw [aF]<;>omega) | exact dM _),(C96 a0 a2  hp ha),(C97 a1),(C67 a0 a2),trivial⟩ ?_
 refine aGb (xs:=bI (tN a2) a0) (enc:=aBu) (V:=Int×Int) (R':=Empty) hcx rfl (by decide) [6,7] [(.p 0 0),(.p 1 0)] [(.live false false (k9 a0)),(.live false false [(iv a2)])] rfl rfl (aCk a0 a2 (by first | omega | exact pair_le h0)) (fun x=>SV.a (cP x)) zP aMg 8 (Nb rfl) (bS (by kernel_rfl))
  (aTw a0 a1 a2) (0,0) rfl (fun⟨v1,v2⟩=>(by kernel_rfl)) (by kernel_rfl) (fun v v'=>(cX (cX (cX (cX (cX (cX (cX (cX aCf))))))))) (fun⟨v1,v2⟩=>(by kernel_rfl)) (fun⟨v1,v2⟩=>(by kernel_rfl)) (fun⟨v1,v2⟩=>(Nat.le_of_ble_eq_true (by kernel_rfl)))
  (fun v x=>.inl (wP a0 a1 a2 v x)) (fun r=>r.elim) (fun v r=>r.elim) (fun r=>r.elim)
  (fun _ _=>True) trivial (aV2 a0 a1 a2) (fun⟨v1,v2⟩ x=>(by kernel_rfl)) (fun⟨v1,v2⟩ x=>(by kernel_rfl)) (fun⟨v1,v2⟩ x=>(Nat.le_of_ble_eq_true (by kernel_rfl)))
  (fun cx' l i ⟨v1,v2⟩ x QA hcx' hx hinv hg=>sV (T:=T0) hT hm (f:=5000) (orc:=[]) [] [7,8,9,10,11,12] [8] hcx' (obs:=[]) (by kernel_rfl) trivial hg)
  (fun cx' l i ⟨v1,v2⟩ x QB hcx' hx hinv hb1 hb2=>?_) (fun cx' d ⟨v1,v2⟩ hh hv hinv=>?_) (fun cx' d r hh hv=>?_)
 ·show Aw.Good _ _ _ _ _ _ _ (aV2 a0 a1 a2 (v1,v2) x)
  cases h0:(decide (((bL (aS x) (aS a1)):Int) > 0)) with
  | true =>
   have q0:=bS h0
   have e:(Sum.inl (wP a0 a1 a2 (v1,v2) x):(Int×Int)⊕Empty)=.inl ((W (v1+(nT (bY ([(aS x).1,(aS x).2.1,(aS x).2.2]:List Zt) ([(aS a1).1,(aS a1).2.1,(aS a1).2.2]:List Zt)) (W (1*2 ^ (min (tN a2) 64)))).1.1)),(W (v2+(if((nT (bL (aS x) (aS a1)) (W (1*2 ^ (min (tN a2) 64)))).1.2:Int) < (pQ a0 a2) then(nT (bL (aS x) (aS a1)) (W (1*2 ^ (min (tN a2) 64)))).1.2 else(pQ a0 a2))))):=by simp only [wP,h0,aJ]
   refine sV (T:=T0) hT hm (f:=5000) (orc:=[.call [] (.a (k9 (aS x))) [],.call [9,3] (iv (bY ([(aS x).1,(aS x).2.1,(aS x).2.2]:List Zt) ([(aS a1).1,(aS a1).2.1,(aS a1).2.2]:List Zt))) [],.call [] (.t [(.a (k2 (nT (bY ([(aS x).1,(aS x).2.1,(aS x).2.2]:List Zt) ([(aS a1).1,(aS a1).2.1,(aS a1).2.2]:List Zt)) (W (1*2 ^ (min (tN a2) 64)))).1)),(iv (nT (bY ([(aS x).1,(aS x).2.1,(aS x).2.2]:List Zt) ([(aS a1).1,(aS a1).2.1,(aS a1).2.2]:List Zt)) (W (1*2 ^ (min (tN a2) 64)))).2)]) [],.call [9,3] (iv (bL (aS x) (aS a1))) [],.d true,.call [] (.t [(.a (k2 (nT (bL (aS x) (aS a1)) (W (1*2 ^ (min (tN a2) 64)))).1)),(iv (nT (bL (aS x) (aS a1)) (W (1*2 ^ (min (tN a2) 64)))).2)]) []]) [] [] [] hcx' (s':=⟨List.replicate 70 .u,[(.live true false [(iv 0),(iv 0)]),(.live true false [(iv (W (1*2 ^ (min (tN a2) 64))))]),(.live true false [(iv (pQ a0 a2))]),(.live true false (k9 (aS a1))),(.live true false [(iv (W (v1+(nT (bY ([(aS x).1,(aS x).2.1,(aS x).2.2]:List Zt) ([(aS a1).1,(aS a1).2.1,(aS a1).2.2]:List Zt)) (W (1*2 ^ (min (tN a2) 64)))).1.1)))]),(.live true false [(iv (W (v2+(if((nT (bL (aS x) (aS a1)) (W (1*2 ^ (min (tN a2) 64)))).1.2:Int) < (pQ a0 a2) then(nT (bL (aS x) (aS a1)) (W (1*2 ^ (min (tN a2) 64)))).1.2 else(pQ a0 a2)))))]),(.live true false (k9 a0)),(.live true false [(iv a2)])]⟩)
    (obs:=[.call 97 [(.a (k9 x))] [] (.a (k9 (aS x))) [],.call 99 [(.s 0 0 3 3),(.s 1 0 3 3)] [(.live false false (k9 (aS x))),(.live false false (k9 (aS a1)))] (iv (bY ([(aS x).1,(aS x).2.1,(aS x).2.2]:List Zt) ([(aS a1).1,(aS a1).2.1,(aS a1).2.2]:List Zt))) [],.call 98 [(iv (bY ([(aS x).1,(aS x).2.1,(aS x).2.2]:List Zt) ([(aS a1).1,(aS a1).2.1,(aS a1).2.2]:List Zt))),(iv (W (1*2 ^ (min (tN a2) 64))))] [] (.t [(.a (k2 (nT (bY ([(aS x).1,(aS x).2.1,(aS x).2.2]:List Zt) ([(aS a1).1,(aS a1).2.1,(aS a1).2.2]:List Zt)) (W (1*2 ^ (min (tN a2) 64)))).1)),(iv (nT (bY ([(aS x).1,(aS x).2.1,(aS x).2.2]:List Zt) ([(aS a1).1,(aS a1).2.1,(aS a1).2.2]:List Zt)) (W (1*2 ^ (min (tN a2) 64)))).2)]) [],.call 100 [(.s 0 0 3 3),(.s 1 0 3 3)] [(.live false false (k9 (aS x))),(.live false false (k9 (aS a1)))] (iv (bL (aS x) (aS a1))) [],.eq (decide (((bL (aS x) (aS a1)):Int) > 0)) true,.call 98 [(iv (bL (aS x) (aS a1))),(iv (W (1*2 ^ (min (tN a2) 64))))] [] (.t [(.a (k2 (nT (bL (aS x) (aS a1)) (W (1*2 ^ (min (tN a2) 64)))).1)),(iv (nT (bL (aS x) (aS a1)) (W (1*2 ^ (min (tN a2) 64)))).2)]) []]) (by kernel_rfl) ⟨(C97 x),(Con.flags (bs':=[(.live false false (k9 (aS x))),(.live false false (k9 (aS a1)))]) (aJi ([(aS x).1,(aS x).2.1,(aS x).2.2]:List Zt) ([(aS a1).1,(aS a1).2.1,(aS a1).2.2]:List Zt) (by(try simp only [Lt]);omega) (by(try simp only [Lt]);omega)) rfl ⟨iM (fun _=>rfl),iM (fun _=>rfl),trivial⟩),(C98 (bY ([(aS x).1,(aS x).2.1,(aS x).2.2]:List Zt) ([(aS a1).1,(aS a1).2.1,(aS a1).2.2]:List Zt)) (W (1*2 ^ (min (tN a2) 64)))),(aGc (aS x) (aS a1)),h0,(C98 (bL (aS x) (aS a1)) (W (1*2 ^ (min (tN a2) 64)))),trivial⟩ ?_
   exact hb1 _ e trivial
  | false =>
   have q0:=cE h0
   have e:(Sum.inl (wP a0 a1 a2 (v1,v2) x):(Int×Int)⊕Empty)=.inl ((W (v1+(nT (bY ([(aS x).1,(aS x).2.1,(aS x).2.2]:List Zt) ([(aS a1).1,(aS a1).2.1,(aS a1).2.2]:List Zt)) (W (1*2 ^ (min (tN a2) 64)))).1.1)),(W (v2+(pQ a0 a2)))):=by simp only [wP,h0,aJ]
   refine sV (T:=T0) hT hm (f:=5000) (orc:=[.call [] (.a (k9 (aS x))) [],.call [9,3] (iv (bY ([(aS x).1,(aS x).2.1,(aS x).2.2]:List Zt) ([(aS a1).1,(aS a1).2.1,(aS a1).2.2]:List Zt))) [],.call [] (.t [(.a (k2 (nT (bY ([(aS x).1,(aS x).2.1,(aS x).2.2]:List Zt) ([(aS a1).1,(aS a1).2.1,(aS a1).2.2]:List Zt)) (W (1*2 ^ (min (tN a2) 64)))).1)),(iv (nT (bY ([(aS x).1,(aS x).2.1,(aS x).2.2]:List Zt) ([(aS a1).1,(aS a1).2.1,(aS a1).2.2]:List Zt)) (W (1*2 ^ (min (tN a2) 64)))).2)]) [],.call [9,3] (iv (bL (aS x) (aS a1))) [],.d false]) [] [] [] hcx' (s':=⟨List.replicate 70 .u,[(.live true false [(iv 0),(iv 0)]),(.live true false [(iv (W (1*2 ^ (min (tN a2) 64))))]),(.live true false [(iv (pQ a0 a2))]),(.live true false (k9 (aS a1))),(.live true false [(iv (W (v1+(nT (bY ([(aS x).1,(aS x).2.1,(aS x).2.2]:List Zt) ([(aS a1).1,(aS a1).2.1,(aS a1).2.2]:List Zt)) (W (1*2 ^ (min (tN a2) 64)))).1.1)))]),(.live true false [(iv (W (v2+(pQ a0 a2))))]),(.live true false (k9 a0)),(.live true false [(iv a2)])]⟩)
    (obs:=[.call 97 [(.a (k9 x))] [] (.a (k9 (aS x))) [],.call 99 [(.s 0 0 3 3),(.s 1 0 3 3)] [(.live false false (k9 (aS x))),(.live false false (k9 (aS a1)))] (iv (bY ([(aS x).1,(aS x).2.1,(aS x).2.2]:List Zt) ([(aS a1).1,(aS a1).2.1,(aS a1).2.2]:List Zt))) [],.call 98 [(iv (bY ([(aS x).1,(aS x).2.1,(aS x).2.2]:List Zt) ([(aS a1).1,(aS a1).2.1,(aS a1).2.2]:List Zt))),(iv (W (1*2 ^ (min (tN a2) 64))))] [] (.t [(.a (k2 (nT (bY ([(aS x).1,(aS x).2.1,(aS x).2.2]:List Zt) ([(aS a1).1,(aS a1).2.1,(aS a1).2.2]:List Zt)) (W (1*2 ^ (min (tN a2) 64)))).1)),(iv (nT (bY ([(aS x).1,(aS x).2.1,(aS x).2.2]:List Zt) ([(aS a1).1,(aS a1).2.1,(aS a1).2.2]:List Zt)) (W (1*2 ^ (min (tN a2) 64)))).2)]) [],.call 100 [(.s 0 0 3 3),(.s 1 0 3 3)] [(.live false false (k9 (aS x))),(.live false false (k9 (aS a1)))] (iv (bL (aS x) (aS a1))) [],.eq (decide (((bL (aS x) (aS a1)):Int) > 0)) false]) (by kernel_rfl) ⟨(C97 x),(Con.flags (bs':=[(.live false false (k9 (aS x))),(.live false false (k9 (aS a1)))]) (aJi ([(aS x).1,(aS x).2.1,(aS x).2.2]:List Zt) ([(aS a1).1,(aS a1).2.1,(aS a1).2.2]:List Zt) (by(try simp only [Lt]);omega) (by(try simp only [Lt]);omega)) rfl ⟨iM (fun _=>rfl),iM (fun _=>rfl),trivial⟩),(C98 (bY ([(aS x).1,(aS x).2.1,(aS x).2.2]:List Zt) ([(aS a1).1,(aS a1).2.1,(aS a1).2.2]:List Zt)) (W (1*2 ^ (min (tN a2) 64)))),(aGc (aS x) (aS a1)),h0,trivial⟩ ?_
   exact hb1 _ e trivial
 ·rw [rL,Sum.inl.injEq] at hv;rw [hv]
  show Aw.Good _ _ _ _ _ _ _ (aTw a0 a1 a2 (v1,v2))
  have e:G65 a0 a1 a2 (v1,v2)=(aBx v1 v2 (W (1*2 ^ (min (tN (W (2*a2))) 64)))):=by simp only [G65]
  rw [e]
  exact aJc (T:=T0) hT hm (f:=5000) (orc:=[.call [] (.a (k2 (aBx v1 v2 (W (1*2 ^ (min (tN (W (2*a2))) 64)))))) []]) [] [] [] hh hcx
   (obs:=[.pr (0<=((W (2*a2)):Int)),.call 101 [(iv v1),(iv v2),(iv (W (1*2 ^ (min (tN (W (2*a2))) 64))))] [] (.a (k2 (aBx v1 v2 (W (1*2 ^ (min (tN (W (2*a2))) 64)))))) []]) (by kernel_rfl) ⟨(show 0<=((W (2*a2)):Int) from by first | omega | (rw [aF]<;>omega) | exact dM _),(aY6 v1 v2 (W (1*2 ^ (min (tN (W (2*a2))) 64)))),trivial⟩
 ·exact r.elim
noncomputable def aD6:Code:=(aC [1,1,1,1,1,1,0] [] (aG Tryz.f138) []).1
noncomputable def aD7:List K:=(aC [1,1,1,1,1,1,0] [] (aG Tryz.f138) []).2
def xS (a0:Zt×Zt×Zt)(a1:Int)(v2 v3:Int):LS:=⟨fU 45 [(6,(iv (qL (gD (kD a0) (kD a0))))),(8,(iv (W ((W ((W (1099511627776*(W (1*2 ^ (min (tN (IntKind.wrap .u64 a1)) 64)))))*(W (1*2 ^ (min (tN (IntKind.wrap .u64 a1)) 64)))))*3217)))),(9,(iv v2)),(10,(iv v3))],[]⟩
def lQ (a0:Zt×Zt×Zt)(a1:Int):Int×Int->(Int×Int)⊕(Int)
 | (v2,v3) =>
  (bif (decide ((v2:Int) < v3)) then
   (bif (decide (((W ((W (Int.tdiv (W (v2+v3)) 2))*(W (Int.tdiv (W (v2+v3)) 2)))):Int)≥(tB (W ((W ((W (1099511627776*(W (1*2 ^ (min (tN (IntKind.wrap .u64 a1)) 64)))))*(W (1*2 ^ (min (tN (IntKind.wrap .u64 a1)) 64)))))*3217)) (W (128*(qL (gD (kD a0) (kD a0)))))))) then
    (.inl (v2,(W (Int.tdiv (W (v2+v3)) 2))))
   else
    (.inl ((W ((W (Int.tdiv (W (v2+v3)) 2))+1)),v3)))
  else
   (.inr v2))
theorem aTx (a0:Zt×Zt×Zt)(a1:Int)(ha:0<=a1/\a1<=3)(hr:W (128*qL (gD (kD a0) (kD a0)))≠0) {cx:Cx} (hcx:cx.base=0):∀(n:Nat) (v2 v3:Int),(0<=v2)/\(0<=v2)/\(v2<=v3)/\(v3<=268435456)->tN (v3 - v2) < n->Aw.Good Tryz.prog none 9 (bodyPost Tryz.prog Tryz.f138 (RR cx (iv (aB (lQ a0 a1) n (v2,v3))) [] [])) cx [] (.l aD6 n::aD7) (xS a0 a1 v2 v3):=by
 intro n
 induction n with
 | zero=>intro v2 v3 hi hn;exact absurd hn (fZ _)
 | succ n ih =>
  intro v2 v3 hi hn
  refine aH ?_
  have hw:=aDu (a:=v2) (b:=v3) (by omega)
  have hw2:=aJg (a:=v2) (b:=v3) (by omega)
  cases h0:(decide ((v2:Int) < v3)) with
  | true =>
   have q0:=bS h0
   let t1:List (St Tryz.prog):=[.d h0,.p (show(2:Int)≠0 from by decide),.c [] (aTp (W ((W ((W (1099511627776*(W (1*2 ^ (min (tN (IntKind.wrap .u64 a1)) 64)))))*(W (1*2 ^ (min (tN (IntKind.wrap .u64 a1)) 64)))))*3217)) (W (128*(qL (gD (kD a0) (kD a0)))))  (by(try simp only [Lt]);omega))]
   cases h1:(decide (((W ((W (Int.tdiv (W (v2+v3)) 2))*(W (Int.tdiv (W (v2+v3)) 2)))):Int)≥(tB (W ((W ((W (1099511627776*(W (1*2 ^ (min (tN (IntKind.wrap .u64 a1)) 64)))))*(W (1*2 ^ (min (tN (IntKind.wrap .u64 a1)) 64)))))*3217)) (W (128*(qL (gD (kD a0) (kD a0)))))))) with
   | true =>
    have q1:=bS h1
    have e:=Eq.refl (lQ a0 a1 (v2,v3));conv at e=>rhs;simp only [lQ,h0,h1,aJ]
    rw [aA e]
    refine ba (t1++[.d h1]) [] [6,8,9,10] [] hcx (m:=n) aD6 (aD7) (xS a0 a1 v2 (W (Int.tdiv (W (v2+v3)) 2))) (by kernel_rfl) ?_
    exact ih v2 (W (Int.tdiv (W (v2+v3)) 2)) (by refine⟨?_,?_,?_,?_⟩<;>(try simp only [Ls])<;>first | omega | assumption | simp) (by(try simp only [Ls]);omega)
   | false =>
    have q1:=cE h1
    have e:=Eq.refl (lQ a0 a1 (v2,v3));conv at e=>rhs;simp only [lQ,h0,h1,aJ]
    rw [aA e]
    refine ba (t1++[.d h1]) [] [6,8,9,10] [] hcx (m:=n) aD6 (aD7) (xS a0 a1 (W ((W (Int.tdiv (W (v2+v3)) 2))+1)) v3) (by kernel_rfl) ?_
    exact ih (W ((W (Int.tdiv (W (v2+v3)) 2))+1)) v3 (by refine⟨?_,?_,?_,?_⟩<;>(try simp only [Ls])<;>first | omega | assumption | simp) (by(try simp only [Ls]);omega)
  | false =>
   have q0:=cE h0
   have e:=Eq.refl (lQ a0 a1 (v2,v3));conv at e=>rhs;simp only [lQ,h0,aJ]
   rw [aD,e]
   exact rt [.d h0] [] [] hcx (by kernel_rfl)
def rR (a0:Zt×Zt×Zt)(a1:Int):Int :=
 (aB (lQ a0 a1) (tN (268435456 - 0)+1) (0,268435456))
theorem aZa (a0:Zt×Zt×Zt)(a1:Int)(ha:0<=a1/\a1<=3)(hr:W (128*qL (gD (kD a0) (kD a0)))≠0):Con Tryz.prog 138 [(.a (k9 a0)),(iv a1)] [] (iv (rR a0 a1)) []:=by
 refine aK Tryz.func138 (by kernel_rfl) fun cx hcx=>?_
 have e:=Eq.refl (rR a0 a1);conv at e=>rhs;simp only [rR]
 rw [e]
 refine en [.c [] (C41 a0),.c [] (C76 (kD a0) (kD a0)),.c [] (aY4 (gD (kD a0) (kD a0))),.p (show 0<=((IntKind.wrap .u64 a1):Int) from by first | omega | (rw [aF]<;>omega) | exact dM _)] [] [6,8,9,10] [] hcx aD6 (aD7) (xS a0 a1 0 268435456) (tN (268435456 - 0)+1) (by kernel_rfl) ?_
 exact aTx a0 a1 ha hr hcx (tN (268435456 - 0)+1) 0 268435456 (by refine⟨?_,?_,?_,?_⟩<;>(try simp only [Ls])<;>first | omega | assumption | simp) (by(try simp only [Ls]);omega)
noncomputable def aD8:Code:=(aC [1,1,1,1,1,0,1] [] (aG Tryz.f115) []).1
noncomputable def aD9:List K:=(aC [1,1,1,1,1,0,1] [] (aG Tryz.f115) []).2
def xT (a0:Zt×Zt×Zt)(a1:Int)(a2:Zt×Zt×Zt)(v1 v2 v3:Int):LS:=⟨fU 88 [(6,(.p 0 0)),(7,(.s 1 0 (cF a0 a1).length 9)),(8,(.s 2 0 3 3)),(9,(iv (W (1*2 ^ (min (tN (IntKind.wrap .u64 a1)) 64))))),(10,(iv (rR a0 a1))),(11,(iv v1)),(12,(iv v2)),(13,(iv v3))],[(.live true false [(iv 0),(iv 0)]),(.live true true (flat jR (cF a0 a1))),(.live true false (k9 a2))]⟩
def kS (a0:Zt×Zt×Zt)(a1:Int)(a2:Zt×Zt×Zt):Zt->Zt⊕(Int×Int)
 | (v1,v2,v3) =>
  (bif (decide ((v3:Int) < (((cF a0 a1).length:Nat):Int))) then
   (bif (decide (((gM ((cF a0 a1).getD (tN v3) dF) a2):Int) > 0)) then
    (.inl ((W (v1+(kV (iQ ((cF a0 a1).getD (tN v3) dF) ([a2.1,a2.2.1,a2.2.2]:List Zt)) (W (1*2 ^ (min (tN (IntKind.wrap .u64 a1)) 64)))).1.1)),(W (v2+(if((kV (gM ((cF a0 a1).getD (tN v3) dF) a2) (W (1*2 ^ (min (tN (IntKind.wrap .u64 a1)) 64)))).1.2:Int) < (rR a0 a1) then(kV (gM ((cF a0 a1).getD (tN v3) dF) a2) (W (1*2 ^ (min (tN (IntKind.wrap .u64 a1)) 64)))).1.2 else(rR a0 a1)))),(v3+1)))
   else
    (.inl ((W (v1+(kV (iQ ((cF a0 a1).getD (tN v3) dF) ([a2.1,a2.2.1,a2.2.2]:List Zt)) (W (1*2 ^ (min (tN (IntKind.wrap .u64 a1)) 64)))).1.1)),(W (v2+(rR a0 a1))),(v3+1))))
  else
   (.inr ((rO v1 (((cF a0 a1).length:Nat):Int)),(tB v2 (((cF a0 a1).length:Nat):Int)))))
theorem aTy (a0:Zt×Zt×Zt)(a1:Int)(a2:Zt×Zt×Zt)(ha:0<=a1/\a1<=3)(hr:W (128*qL (gD (kD a0) (kD a0)))≠0) {cx:Cx} (hcx:cx.base=0):∀(n:Nat) (v1 v2 v3:Int),0<=v3->tN ((((cF a0 a1).length:Nat):Int) - v3) < n->Aw.Good Tryz.prog none 9 (bodyPost Tryz.prog Tryz.f115 (RR cx (.a (k2 (aB (kS a0 a1 a2) n (v1,v2,v3)))) [] [])) cx [] (.l aD8 n::aD9) (xT a0 a1 a2 v1 v2 v3):=by
 intro n
 induction n with
 | zero=>intro v1 v2 v3 hi hn;exact absurd hn (fZ _)
 | succ n ih =>
  intro v1 v2 v3 hi hn
  refine aH ?_
  have hcl:=aM2 (p:=a0) ha
  cases h0:(decide ((v3:Int) < (((cF a0 a1).length:Nat):Int))) with
  | true =>
   have q0:=bS h0
   let t1:List (St Tryz.prog):=[.d h0,.i v3 ((cF a0 a1).length),.L dT (cF a0 a1) v3 0 9,.c [2] (Con.flags (bs':=[(.live false false (k9 a2))]) (aTr ((cF a0 a1).getD (tN v3) dF) ([a2.1,a2.2.1,a2.2.2]:List Zt) (by(try simp only [Lt]);omega)) rfl ⟨iM (fun _=>rfl),trivial⟩),.c [] (aVu (iQ ((cF a0 a1).getD (tN v3) dF) ([a2.1,a2.2.1,a2.2.2]:List Zt)) (W (1*2 ^ (min (tN (IntKind.wrap .u64 a1)) 64)))),.i v3 ((cF a0 a1).length),.L dT (cF a0 a1) v3 0 9,.c [2] (aTs ((cF a0 a1).getD (tN v3) dF) a2)]
   cases h1:(decide (((gM ((cF a0 a1).getD (tN v3) dF) a2):Int) > 0)) with
   | true =>
    have q1:=bS h1
    have e:=Eq.refl (kS a0 a1 a2 (v1,v2,v3));conv at e=>rhs;simp only [kS,h0,h1,aJ]
    rw [aA e]
    refine ba (t1++[.d h1,.c [] (aVu (gM ((cF a0 a1).getD (tN v3) dF) a2) (W (1*2 ^ (min (tN (IntKind.wrap .u64 a1)) 64))))]) [] [6,7,8,9,10,11,12,13] [0,1,2] hcx (m:=n) aD8 (aD9) (xT a0 a1 a2 (W (v1+(kV (iQ ((cF a0 a1).getD (tN v3) dF) ([a2.1,a2.2.1,a2.2.2]:List Zt)) (W (1*2 ^ (min (tN (IntKind.wrap .u64 a1)) 64)))).1.1)) (W (v2+(if((kV (gM ((cF a0 a1).getD (tN v3) dF) a2) (W (1*2 ^ (min (tN (IntKind.wrap .u64 a1)) 64)))).1.2:Int) < (rR a0 a1) then(kV (gM ((cF a0 a1).getD (tN v3) dF) a2) (W (1*2 ^ (min (tN (IntKind.wrap .u64 a1)) 64)))).1.2 else(rR a0 a1)))) (W (v3+1))) (by kernel_rfl) ?_
    have z0:(W (v3+1))=(v3+1):=aF (by omega) (by omega)
    rw [z0]
    exact ih (W (v1+(kV (iQ ((cF a0 a1).getD (tN v3) dF) ([a2.1,a2.2.1,a2.2.2]:List Zt)) (W (1*2 ^ (min (tN (IntKind.wrap .u64 a1)) 64)))).1.1)) (W (v2+(if((kV (gM ((cF a0 a1).getD (tN v3) dF) a2) (W (1*2 ^ (min (tN (IntKind.wrap .u64 a1)) 64)))).1.2:Int) < (rR a0 a1) then(kV (gM ((cF a0 a1).getD (tN v3) dF) a2) (W (1*2 ^ (min (tN (IntKind.wrap .u64 a1)) 64)))).1.2 else(rR a0 a1)))) (v3+1) (by(try simp only [Ls]);omega) (by(try simp only [Ls]);omega)
   | false =>
    have q1:=cE h1
    have e:=Eq.refl (kS a0 a1 a2 (v1,v2,v3));conv at e=>rhs;simp only [kS,h0,h1,aJ]
    rw [aA e]
    refine ba (t1++[.d h1]) [] [6,7,8,9,10,11,12,13] [0,1,2] hcx (m:=n) aD8 (aD9) (xT a0 a1 a2 (W (v1+(kV (iQ ((cF a0 a1).getD (tN v3) dF) ([a2.1,a2.2.1,a2.2.2]:List Zt)) (W (1*2 ^ (min (tN (IntKind.wrap .u64 a1)) 64)))).1.1)) (W (v2+(rR a0 a1))) (W (v3+1))) (by kernel_rfl) ?_
    have z0:(W (v3+1))=(v3+1):=aF (by omega) (by omega)
    rw [z0]
    exact ih (W (v1+(kV (iQ ((cF a0 a1).getD (tN v3) dF) ([a2.1,a2.2.1,a2.2.2]:List Zt)) (W (1*2 ^ (min (tN (IntKind.wrap .u64 a1)) 64)))).1.1)) (W (v2+(rR a0 a1))) (v3+1) (by(try simp only [Ls]);omega) (by(try simp only [Ls]);omega)
  | false =>
   have q0:=cE h0
   have e:=Eq.refl (kS a0 a1 a2 (v1,v2,v3));conv at e=>rhs;simp only [kS,h0,aJ]
   rw [aD,e]
   exact rt [.d h0,.c [] (aTo v1 (((cF a0 a1).length:Nat):Int)  (aM1 (by omega))),.c [] (aTp v2 (((cF a0 a1).length:Nat):Int)  (aM1 (by omega)))] [] [] hcx (by kernel_rfl)
def tF (a0:Zt×Zt×Zt)(a1:Int)(a2:Zt×Zt×Zt):Int×Int :=
 (aB (kS a0 a1 a2) (tN ((((cF a0 a1).length:Nat):Int) - 0)+1) (0,0,0))
theorem aV3 (a0:Zt×Zt×Zt)(a1:Int)(a2:Zt×Zt×Zt)(ha:0<=a1/\a1<=3)(hr:W (128*qL (gD (kD a0) (kD a0)))≠0):Con Tryz.prog 115 [(.a (k9 a0)),(iv a1),(.a (k9 a2))] [] (.a (k2 (tF a0 a1 a2))) []:=by
 refine aK Tryz.func115 (by kernel_rfl) fun cx hcx=>?_
 have e:=Eq.refl (tF a0 a1 a2);conv at e=>rhs;simp only [tF]
 rw [e]
 refine en [.c [] (aVx a0 a1  (by(try simp only [Lt]);omega)),.p (show 0<=((IntKind.wrap .u64 a1):Int) from by first | omega | (rw [aF]<;>omega) | exact dM _),.c [] (aZa a0 a1  ha hr)] [] [6,7,8,9,10,11,12,13] [2,3,4] hcx aD8 (aD9) (xT a0 a1 a2 0 0 0) (tN ((((cF a0 a1).length:Nat):Int) - 0)+1) (by kernel_rfl) ?_
 exact aTy a0 a1 a2 ha hr hcx (tN ((((cF a0 a1).length:Nat):Int) - 0)+1) 0 0 0 (by(try simp only [Ls]);omega) (by(try simp only [Ls]);omega)
def mx (a b:Int):Int:=if a < b then b else a
theorem oW {a b c:Int} (h:a<=c)(h':b<=c):mx a b<=c:=by unfold mx;split<;>assumption
theorem fQ (a b:Int):a<=mx a b:=by unfold mx;split<;>omega
theorem aHk (a b:Int):b<=mx a b:=by unfold mx;split<;>omega
def ds (p q:P3):Int:=dt (sb p q) (sb p q)
def fF (p q:P3):Int:=iO (bJ p q) (bJ p q)
theorem tG {p q:P3} (hp:bd 5000 p)(hq:bd 5000 q):fF p q=ds p q:=by
 unfold fF ds
 rw [fsb (hp.mono (by omega)) (hq.mono (by omega))]
 exact fdt ((mH hp hq).mono (by omega)) ((mH hp hq).mono (by omega))
def rF (p q:P3):Int:=gD (cW p q) (cW p q)
theorem tH {p q:P3} (hp:bd 5000 p)(hq:bd 5000 q):rF p q=ds p q:=by
 unfold rF ds
 rw [rsb (hp.mono (by omega)) (hq.mono (by omega))]
 exact rdt ((mH hp hq).mono (by omega)) ((mH hp hq).mono (by omega))
theorem aV4 (c:PN)(x y z:P3):bY [c.1,c.2.1,c.2.2] [x,y,z] =
 mx (mx (mx (mx (mx (mx (mx (mx (mx 0 (fF c.1 x)) (fF c.1 y)) (fF c.1 z)) (fF c.2.1 x)) (fF c.2.1 y)) (fF c.2.1 z)) (fF c.2.2 x)) (fF c.2.2 y)) (fF c.2.2 z):=by
 rfl
theorem vA (c:PN)(l:List P3)(v:Int)(i:Nat)(h:i < l.length) :
 bU c l (v,(i:Int))=.inl (mx (mx (mx v (rF c.1 (l.getD i dF))) (rF c.2.1 (l.getD i dF))) (rF c.2.2 (l.getD i dF)),((i+1:Nat):Int)):=by
 have h0:decide ((i:Int) < (l.length:Int))=true:=by simpa using h
 simp only [bU,h0,cond_true,sJ]
 have key:∀q:P3,(bif decide (rF c.1 q > v) then bif decide (rF c.2.1 q > rF c.1 q) then bif decide (rF c.2.2 q > rF c.2.1 q) then Sum.inl (rF c.2.2 q,(i:Int)+1) else Sum.inl (rF c.2.1 q,(i:Int)+1) else bif decide (rF c.2.2 q > rF c.1 q) then Sum.inl (rF c.2.2 q,(i:Int)+1) else Sum.inl (rF c.1 q,(i:Int)+1)
  else bif decide (rF c.2.1 q > v) then bif decide (rF c.2.2 q > rF c.2.1 q) then Sum.inl (rF c.2.2 q,(i:Int)+1) else Sum.inl (rF c.2.1 q,(i:Int)+1) else bif decide (rF c.2.2 q > v) then Sum.inl (rF c.2.2 q,(i:Int)+1) else Sum.inl (v,(i:Int)+1))
  = (Sum.inl (mx (mx (mx v (rF c.1 q)) (rF c.2.1 q)) (rF c.2.2 q),((i:Int)+1)):(Int×Int)⊕Int):=by
  intro q
  generalize rF c.1 q=a1;generalize rF c.2.1 q=a2;generalize rF c.2.2 q=a3
  unfold mx
  by_cases h1:a1 > v
  ·rw [cA h1,cond_true,if_pos h1]
   by_cases h2:a2 > a1
   ·rw [cA h2,cond_true,if_pos h2]
    by_cases h3:a3 > a2
    ·rw [cA h3,cond_true,if_pos h3]
    ·rw [cT h3,cond_false,if_neg h3]
   ·rw [cT h2,cond_false,if_neg h2]
    by_cases h3:a3 > a1
    ·rw [cA h3,cond_true,if_pos h3]
    ·rw [cT h3,cond_false,if_neg h3]
  ·rw [cT h1,cond_false,if_neg h1]
   by_cases h2:a2 > v
   ·rw [cA h2,cond_true,if_pos h2]
    by_cases h3:a3 > a2
    ·rw [cA h3,cond_true,if_pos h3]
    ·rw [cT h3,cond_false,if_neg h3]
   ·rw [cT h2,cond_false,if_neg h2]
    by_cases h3:a3 > v
    ·rw [cA h3,cond_true,if_pos h3]
    ·rw [cT h3,cond_false,if_neg h3]
 exact key (l.getD i dF)
theorem aM5 (c:PN)(l:List P3)(v:Int):bU c l (v,(l.length:Int))=.inr v:=by
 have h0:decide ((l.length:Int) < (l.length:Int))=false:=by simp
 simp only [bU,h0,cond_false]
theorem aV5 (c:PN)(x y z:P3):iQ c [x,y,z] =
 mx (mx (mx (mx (mx (mx (mx (mx (mx 0 (rF c.1 x)) (rF c.2.1 x)) (rF c.2.2 x)) (rF c.1 y)) (rF c.2.1 y)) (rF c.2.2 y)) (rF c.1 z)) (rF c.2.1 z)) (rF c.2.2 z):=by
 unfold iQ
 have e0:=vA c [x,y,z] 0 0 (by simp)
 have e1:=vA c [x,y,z] (mx (mx (mx 0 (rF c.1 x)) (rF c.2.1 x)) (rF c.2.2 x)) 1 (by simp)
 have e2:=vA c [x,y,z] (mx (mx (mx (mx (mx (mx 0 (rF c.1 x)) (rF c.2.1 x)) (rF c.2.2 x)) (rF c.1 y)) (rF c.2.1 y)) (rF c.2.2 y)) 2 (by simp)
 have e3:=aM5 c [x,y,z] (mx (mx (mx (mx (mx (mx (mx (mx (mx 0 (rF c.1 x)) (rF c.2.1 x)) (rF c.2.2 x)) (rF c.1 y)) (rF c.2.1 y)) (rF c.2.2 y)) (rF c.1 z)) (rF c.2.1 z)) (rF c.2.2 z))
 rw [show tN ((([x,y,z]:List P3).length:Int) - 0)+1=4 from rfl,show((0,0):Int×Int)=(0,((0:Nat):Int)) from rfl,aA e0]
 refine(aA e1).trans ?_
 refine(aA e2).trans ?_
 exact aO e3
theorem aM6 (a b c d e f g h i:Int):mx (mx (mx (mx (mx (mx (mx (mx (mx 0 a) b) c) d) e) f) g) h) i=mx (mx (mx (mx (mx (mx (mx (mx (mx 0 a) d) g) b) e) h) c) f) i:=by
 have key:∀a b c:Int,mx (mx a b) c=mx (mx a c) b:=fun a b c=>by unfold mx;repeat' split<;>omega
 rw [key _ c d,key _ b d,key _ f g,key _ e g,key _ c g,key _ b g]
 rw [key _ c e,key _ f h,key _ c h]
def lo3 (a b c:Int):Int:=if c < (if b < (if a < a then a else a) then b else(if a < a then a else a)) then c else(if b < (if a < a then a else a) then b else(if a < a then a else a))
def hi3 (a b c:Int):Int:=if(if(if a < a then a else a) < b then b else(if a < a then a else a)) < c then c else(if(if a < a then a else a) < b then b else(if a < a then a else a))
theorem vC (a b c:Int):lo3 a b c<=a/\lo3 a b c<=b/\lo3 a b c<=c:=by
 unfold lo3;simp only [Int.lt_irrefl,if_false];split<;>split at *<;>omega
theorem vD (a b c:Int):a<=hi3 a b c/\b<=hi3 a b c/\c<=hi3 a b c:=by
 unfold hi3;simp only [Int.lt_irrefl,if_false];split<;>split at *<;>omega
theorem aHl (a b c:Int):lo3 a b c=a\/lo3 a b c=b\/lo3 a b c=c:=by
 unfold lo3;simp only [Int.lt_irrefl,if_false];split<;>split at *<;>omega
theorem aHm (a b c:Int):hi3 a b c=a\/hi3 a b c=b\/hi3 a b c=c:=by
 unfold hi3;simp only [Int.lt_irrefl,if_false];split<;>split at *<;>omega
def gp (a b c d:Int):Int:=mx (mx 0 (c - b)) (a - d)
theorem aSb (a b c d:Int):0<=gp a b c d:=Int.le_trans (fQ 0 _) (fQ _ _)
theorem aQo (a b c d:Int):gp c d a b=gp a b c d:=by unfold gp mx;repeat' split<;>omega
def nr (a b c d:P3):Int:=gp a.1 b.1 c.1 d.1*gp a.1 b.1 c.1 d.1+gp a.2.1 b.2.1 c.2.1 d.2.1*gp a.2.1 b.2.1 c.2.1 d.2.1+gp a.2.2 b.2.2 c.2.2 d.2.2*gp a.2.2 b.2.2 c.2.2 d.2.2
def blo (c:PN):P3:=(lo3 c.1.1 c.2.1.1 c.2.2.1,lo3 c.1.2.1 c.2.1.2.1 c.2.2.2.1,lo3 c.1.2.2 c.2.1.2.2 c.2.2.2.2)
def bhi (c:PN):P3:=(hi3 c.1.1 c.2.1.1 c.2.2.1,hi3 c.1.2.1 c.2.1.2.1 c.2.2.2.1,hi3 c.1.2.2 c.2.1.2.2 c.2.2.2.2)
theorem aEa {m:Int} {c:PN} (h:bdP m c):bd m (blo c):=by
 have h1:=aHl c.1.1 c.2.1.1 c.2.2.1;have h2:=aHl c.1.2.1 c.2.1.2.1 c.2.2.2.1;have h3:=aHl c.1.2.2 c.2.1.2.2 c.2.2.2.2
 have ha:=h.1;have hb:=h.2.1;have hc:=h.2.2
 unfold bd at *;simp only [blo];omega
theorem aEb {m:Int} {c:PN} (h:bdP m c):bd m (bhi c):=by
 have h1:=aHm c.1.1 c.2.1.1 c.2.2.1;have h2:=aHm c.1.2.1 c.2.1.2.1 c.2.2.2.1;have h3:=aHm c.1.2.2 c.2.1.2.2 c.2.2.2.2
 have ha:=h.1;have hb:=h.2.1;have hc:=h.2.2
 unfold bd at *;simp only [bhi];omega
theorem aV6 (c:PN):aQ c=(blo c,bhi c):=rfl
theorem aM7 {a b c d:Int} (ha:-5000<=a/\a<=5000)(hb:-5000<=b/\b<=5000)(hc:-5000<=c/\c<=5000)(hd:-5000<=d/\d<=5000):kP a b c d=gp a b c d:=by
 unfold kP
 rw [aF (n:=c - b) (by omega) (by omega),aF (n:=a - d) (by omega) (by omega)];rfl
theorem aAh {a b c d:Int} (ha:-5000<=a/\a<=5000)(hb:-5000<=b/\b<=5000)(hc:-5000<=c/\c<=5000)(hd:-5000<=d/\d<=5000):0<=gp a b c d/\gp a b c d<=10000 :=
 ⟨aSb _ _ _ _,oW (oW (by omega) (by omega)) (by omega)⟩
theorem nrF {a b c d:P3} (ha:bd 5000 a)(hb:bd 5000 b)(hc:bd 5000 c)(hd:bd 5000 d) :
 iO (kP a.1 b.1 c.1 d.1,kP a.2.1 b.2.1 c.2.1 d.2.1,kP a.2.2 b.2.2 c.2.2 d.2.2) (kP a.1 b.1 c.1 d.1,kP a.2.1 b.2.1 c.2.1 d.2.1,kP a.2.2 b.2.2 c.2.2 d.2.2)=nr a b c d:=by
 rw [aM7 ha.1 hb.1 hc.1 hd.1,aM7 ha.2.1 hb.2.1 hc.2.1 hd.2.1,aM7 ha.2.2 hb.2.2 hc.2.2 hd.2.2]
 have h1:=aAh ha.1 hb.1 hc.1 hd.1;have h2:=aAh ha.2.1 hb.2.1 hc.2.1 hd.2.1;have h3:=aAh ha.2.2 hb.2.2 hc.2.2 hd.2.2
 have hv:bd 1000000000 (gp a.1 b.1 c.1 d.1,gp a.2.1 b.2.1 c.2.1 d.2.1,gp a.2.2 b.2.2 c.2.2 d.2.2):=by unfold bd;simp only;omega
 rw [fdt hv hv];rfl
theorem aTz {c q:PN} (hc:bdP 5000 c)(hq:bdP 5000 q):bL c q=nr (blo c) (bhi c) (blo q) (bhi q):=by
 unfold bL
 rw [aV6,aV6]
 exact nrF (aEa hc) (aEb hc) (aEa hq) (aEb hq)
theorem pR (a b c:Int):cL [a,b,c]=(lo3 a b c,hi3 a b c):=rfl
theorem aM8 {l m:List Int} {a b c d:Int} (hl:cL l=(a,b))(hm:cL m=(c,d))(ha:-5000<=a/\a<=5000)(hb:-5000<=b/\b<=5000)(hc:-5000<=c/\c<=5000)(hd:-5000<=d/\d<=5000) :
 fP l m=gp a b c d*gp a b c d:=by
 unfold fP
 rw [hl,hm]
 simp only
 rw [aF (n:=a - d) (by omega) (by omega),aF (n:=c - b) (by omega) (by omega)]
 have e:(if((if(0:Int) < a - d then a - d else 0):Int) < c - b then c - b else(if(0:Int) < a - d then a - d else 0))=gp a b c d:=aQo a b c d
 rw [e]
 have h1:=aAh ha hb hc hd
 have h2:=bR (a:=10000) (b:=10000) (x:=gp a b c d) (y:=gp a b c d) (by omega) (by omega)
 exact aF (by omega) (by omega)
theorem aZb {a b c:Int} (ha:0<=a/\a<=100000000)(hb:0<=b/\b<=100000000)(hc:0<=c/\c<=100000000):W ((W (a+b))+c)=a+b+c:=by
 rw [aF (n:=a+b) (by omega) (by omega),aF (by omega) (by omega)]
theorem aT0 {c q:PN} (hc:bdP 5000 c)(hq:bdP 5000 q):gM c q=nr (blo c) (bhi c) (blo q) (bhi q):=by
 unfold gM
 have hl:=aEa hc;have hh:=aEb hc;have kl:=aEa hq;have kh:=aEb hq
 have g1:=aM8 (l:=bZ c 0) (m:=bZ q 0) (pR c.1.1 c.2.1.1 c.2.2.1) (pR q.1.1 q.2.1.1 q.2.2.1) hl.1 hh.1 kl.1 kh.1
 have g2:=aM8 (l:=bZ c 1) (m:=bZ q 1) (pR c.1.2.1 c.2.1.2.1 c.2.2.2.1) (pR q.1.2.1 q.2.1.2.1 q.2.2.2.1) hl.2.1 hh.2.1 kl.2.1 kh.2.1
 have g3:=aM8 (l:=bZ c 2) (m:=bZ q 2) (pR c.1.2.2 c.2.1.2.2 c.2.2.2.2) (pR q.1.2.2 q.2.1.2.2 q.2.2.2.2) hl.2.2 hh.2.2 kl.2.2 kh.2.2
 have b1:=aAh hl.1 hh.1 kl.1 kh.1;have b2:=aAh hl.2.1 hh.2.1 kl.2.1 kh.2.1;have b3:=aAh hl.2.2 hh.2.2 kl.2.2 kh.2.2
 have m1:=bR (a:=10000) (b:=10000) (by omega) (by omega) (x:=gp (blo c).1 (bhi c).1 (blo q).1 (bhi q).1) (y:=gp (blo c).1 (bhi c).1 (blo q).1 (bhi q).1)
 have m2:=bR (a:=10000) (b:=10000) (by omega) (by omega) (x:=gp (blo c).2.1 (bhi c).2.1 (blo q).2.1 (bhi q).2.1) (y:=gp (blo c).2.1 (bhi c).2.1 (blo q).2.1 (bhi q).2.1)
 have m3:=bR (a:=10000) (b:=10000) (by omega) (by omega) (x:=gp (blo c).2.2 (bhi c).2.2 (blo q).2.2 (bhi q).2.2) (y:=gp (blo c).2.2 (bhi c).2.2 (blo q).2.2 (bhi q).2.2)
 rw [show fP (bZ c 0) (bZ q 0)=_ from g1,show fP (bZ c 1) (bZ q 1)=_ from g2,show fP (bZ c 2) (bZ q 2)=_ from g3]
 exact aZb ⟨kQ _,by have:=m1.2;exact this⟩ ⟨kQ _,by have:=m2.2;exact this⟩ ⟨kQ _,by have:=m3.2;exact this⟩
open Classical in
noncomputable def pk (p q:PN)(d:Int):Int:=if vp p=0 then(if vp q=0 then(if 0<=d/\d<=2 then 0 else 1) else vp q) else vp p
theorem aM9 (v w:Int)(b:Prop) [Decidable b]:(bif (v != 0) then v else(bif (w != 0) then w else(bif (!(decide b)) then(1:Int) else 0)))=if v=0 then(if w=0 then(if b then 0 else 1) else w) else v:=by
 by_cases hv:v=0
 ·subst hv
  by_cases hw:w=0
  ·subst hw;by_cases hb:b<;>simp [hb]
  ·rw [bne_iff_ne.2 hw,cond_true,if_neg hw];simp
 ·rw [bne_iff_ne.2 hv,cond_true,if_neg hv]
theorem xU (p q:PN)(d:Int):uR p q d=pk p q d:=by
 unfold uR pk
 rw [aQi,aQi,aK3,aM9]
theorem pS (p q:PN)(d:Int):kW p q d=pk p q d:=by
 unfold kW pk
 rw [aQj,aQj,aHj,aM9]
theorem tI {p q:PN} {d:Int} (h:pk p q d=0):vp p=0/\vp q=0/\0<=d/\d<=2:=by
 unfold pk at h
 split at h
 ·rename_i h0
  split at h
  ·rename_i h1
   split at h
   ·rename_i h2;exact⟨h0,h1,h2⟩
   ·cases h
  ·rename_i h1;exact absurd h h1
 ·rename_i h0;exact absurd h h0
theorem aJm {p q:PN} {d:Int} (h:((uR p q d:Int) != 0)=false):vp p=0/\vp q=0/\0<=d/\d<=2 :=
 tI (by rw [←xU];simpa using h)
theorem aJn {p q:PN} {d:Int} (h:((uR p q d:Int) != 0)=false):zS p=0:=by
 rw [aQi];exact(aJm h).1
theorem pair_le {p q:PN} {d:Int} (h:((uR p q d:Int) != 0)=false):0<=d/\d<=3:=by have:=aJm h;omega
theorem vE {p q:PN} {d:Int} (h:((kW p q d:Int) != 0)=false):0<=d/\d<=3:=by
 have:=tI (p:=p) (q:=q) (d:=d) (by rw [←pS];simpa using h);omega
theorem aCo {p q:PN} {d:Int} (h:((kW p q d:Int) != 0)=false):W (128*qL (gD (kD p) (kD p)))≠0 :=
 aQk (by rw [aQj];exact(tI (p:=p) (q:=q) (d:=d) (by rw [←pS];simpa using h)).1)
def uE (a0:Zt×Zt×Zt)(a1:Zt×Zt×Zt)(a2:Int):(Int×Int)×Int :=
 (bif (((uR a0 a1 a2):Int) != 0) then
  ((0,0),(uR a0 a1 a2))
 else
  ((F65 a0 ((qJ a1.1 (W (1*2 ^ (min (tN a2) 64)))),(qJ a1.2.1 (W (1*2 ^ (min (tN a2) 64)))),(qJ a1.2.2 (W (1*2 ^ (min (tN a2) 64))))) a2),0))
theorem C32 (a0:Zt×Zt×Zt)(a1:Zt×Zt×Zt)(a2:Int):Con Tryz.prog 32 [(.a (k9 a0)),(.a (k9 a1)),(iv a2)] [] (.t [(.a (k2 (uE a0 a1 a2).1)),(iv (uE a0 a1 a2).2)]) []:=by
 refine aK Tryz.func32 (by kernel_rfl) fun cx hcx=>?_
 let t0:List (St Tryz.prog):=[.c [] (C64 a0 a1 a2)]
 cases h0:(((uR a0 a1 a2):Int) != 0) with
 | true =>
  have q0:=bne_iff_ne.1 h0
  have e:=Eq.refl (uE a0 a1 a2);conv at e=>rhs;simp only [uE,h0,aJ]
  rw [e]
  exact rt (t0++[.d h0]) [] [] hcx (by kernel_rfl)
 | false =>
  have q0:=bne_eq_false_iff_eq.1 h0
  have e:=Eq.refl (uE a0 a1 a2);conv at e=>rhs;simp only [uE,h0,aJ]
  rw [e]
  exact rt (t0++[.d h0,.p (show 0<=(a2:Int) from by exact(pair_le h0).1),.c [] (C66 a1.1 (W (1*2 ^ (min (tN a2) 64)))),.c [] (C66 a1.2.1 (W (1*2 ^ (min (tN a2) 64)))),.c [] (C66 a1.2.2 (W (1*2 ^ (min (tN a2) 64)))),.c [] (C65 a0 ((qJ a1.1 (W (1*2 ^ (min (tN a2) 64)))),(qJ a1.2.1 (W (1*2 ^ (min (tN a2) 64)))),(qJ a1.2.2 (W (1*2 ^ (min (tN a2) 64))))) a2  (aJn h0) (pair_le h0))]) [] [] hcx (by kernel_rfl)
def F79 (a0:Zt×Zt×Zt)(a1:Zt×Zt×Zt)(a2:Int):(Int×Int)×Int :=
 (bif (((kW a0 a1 a2):Int) != 0) then
  ((0,0),(kW a0 a1 a2))
 else
  ((tF a0 a2 ((aE a1.1 (W (1*2 ^ (min (tN (IntKind.wrap .u64 a2)) 64)))),(aE a1.2.1 (W (1*2 ^ (min (tN (IntKind.wrap .u64 a2)) 64)))),(aE a1.2.2 (W (1*2 ^ (min (tN (IntKind.wrap .u64 a2)) 64)))))),0))
theorem C79 (a0:Zt×Zt×Zt)(a1:Zt×Zt×Zt)(a2:Int):Con Tryz.prog 79 [(.a (k9 a0)),(.a (k9 a1)),(iv a2)] [] (.t [(.a (k2 (F79 a0 a1 a2).1)),(iv (F79 a0 a1 a2).2)]) []:=by
 refine aK Tryz.func79 (by kernel_rfl) fun cx hcx=>?_
 let t0:List (St Tryz.prog):=[.c [] (aVw a0 a1 a2)]
 cases h0:(((kW a0 a1 a2):Int) != 0) with
 | true =>
  have q0:=bne_iff_ne.1 h0
  have e:=Eq.refl (F79 a0 a1 a2);conv at e=>rhs;simp only [F79,h0,aJ]
  rw [e]
  exact rt (t0++[.d h0]) [] [] hcx (by kernel_rfl)
 | false =>
  have q0:=bne_eq_false_iff_eq.1 h0
  have e:=Eq.refl (F79 a0 a1 a2);conv at e=>rhs;simp only [F79,h0,aJ]
  rw [e]
  exact rt (t0++[.d h0,.p (show 0<=((IntKind.wrap .u64 a2):Int) from by first | omega | (rw [aF]<;>omega) | exact dM _),.c [] (aK0 a1.1 (W (1*2 ^ (min (tN (IntKind.wrap .u64 a2)) 64)))),.c [] (aK0 a1.2.1 (W (1*2 ^ (min (tN (IntKind.wrap .u64 a2)) 64)))),.c [] (aK0 a1.2.2 (W (1*2 ^ (min (tN (IntKind.wrap .u64 a2)) 64)))),.c [] (aV3 a0 a2 ((aE a1.1 (W (1*2 ^ (min (tN (IntKind.wrap .u64 a2)) 64)))),(aE a1.2.1 (W (1*2 ^ (min (tN (IntKind.wrap .u64 a2)) 64)))),(aE a1.2.2 (W (1*2 ^ (min (tN (IntKind.wrap .u64 a2)) 64)))))  (vE h0) (aCo h0))]) [] [] hcx (by kernel_rfl)
end Go.Proofs.YtcmdknehplnpfaaGreat
namespace Go.Proofs.YtcmdknehplnpfaaGreat
open Go.Proofs Go.Aw Go.RowKit
set_option maxRecDepth 100000
theorem aGf:∀(d:Nat) (p:PN),(bI d p).length=4 ^ d
 | 0,p=>rfl
 | d+1,p=>by
  rw [gS]
  have:∀l:List PN,(l.flatMap aD5).length=4*l.length:=fun l=>by
   induction l with
   | nil=>rfl
   | cons x l ih=>rw [List.flatMap_cons,List.length_append,ih];show 4+_=_;simp only [List.length_cons];omega
  rw [this,aGf d p,Nat.pow_succ];omega
end Go.Proofs.YtcmdknehplnpfaaGreat
