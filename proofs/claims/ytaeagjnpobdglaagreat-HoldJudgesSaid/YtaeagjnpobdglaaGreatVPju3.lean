/-
  Parts of the proofs of the laws: the executor, what functions of the program compute, and that it is what the statements ask. No premise.
-/
import Derived.Test.YtaeagjnpobdglaaGreatVPju2
import Derived.Test.YtaeagjnpobdglaaGreatRows
import Derived.Shelf.Abstract
set_option linter.unusedVariables false
set_option linter.unusedSimpArgs false
set_option maxHeartbeats 4000000
open Int (toNat)
namespace Go.Aw
open Go.RowKit
def pG (a b:Int):Int:=if b < a then b else a
def iK (a b:Int):Int:=if a < b then b else a
theorem aBf {x:SV} (h:mD 0 x=true)(k:Nat):¬x.has k:=fun hk=>absurd (aD6 h hk) (iF _)
def cY {α β:Type} (kc:α→SV)(vc:β→SV)(l:List (α×β)):List (SV×SV):=l.map fun e=>(kc e.1,vc e.2)
def eJ {α β:Type} [DecidableEq α] (k:α):List (α×β)→Option (Nat×β)
 | []=>none
 | e::l=>if e.1=k then some (0,e.2) else match eJ k l with
   | some q=>some (q.1+1,q.2)
   | none=>none
def aV {α β:Type} [DecidableEq α] (l:List (α×β))(k:α)(d:β):β:=match eJ k l with
 | some q=>q.2
 | none=>d
def cH {α β:Type} [DecidableEq α] (l:List (α×β))(k:α)(v:β):List (α×β):=match eJ k l with
 | some q=>l.set q.1 (k,v)
 | none=>l++[(k,v)]
def pH {α β:Type} [DecidableEq α] (l:List (α×β))(k:α)(d:β):List (α×β):=match eJ k l with
 | some _=>l
 | none=>l++[(k,d)]
def mix {α β:Type} [DecidableEq α] (l:List (α×β))(k:α):Nat:=match eJ k l with
 | some q=>q.1
 | none=>l.length
structure KeyOK {α:Type} (T:Nat→Option TI) (kt:Nat) (kc:α→SV):Prop where
 hb:∀x,pF T kt (kc x)=true
 he:∀x y,∃b,zT T 100 kt (kc x).cells (kc y).cells=some b∧(b=true↔kc y=kc x)
 inj:∀x y,kc x=kc y→x=y
 pl:∀x,mD 0 (kc x)=true
theorem uS {α β:Type} {kc:α→SV} {vc:β→SV} {l:List (α×β)} {i:Nat} {x:SV×SV} (h:(cY kc vc l)[i]? = some x):∃e,l[i]? = some e∧x=(kc e.1,vc e.2):=by
 unfold cY at h
 rw [List.getElem?_map] at h
 cases hl:l[i]? with
 | none=>rw [hl] at h;cases h
 | some e=>rw [hl] at h;simp at h;exact⟨e,rfl,h.symm⟩
theorem qA {α β:Type} {kc:α→SV} {vc:β→SV} {l:List (α×β)} {T:Nat→Option TI} {kt:Nat} {k:α} (hk:KeyOK T kt kc):kP T kt (cY kc vc l) (kc k):=fun e he=>by
 obtain⟨i,hi⟩:=List.getElem?_of_mem he
 obtain⟨e',_,rfl⟩:=uS hi
 exact⟨hk.hb _,hk.he k e'.1⟩
theorem aJy {α β:Type} {kc:α→SV} {vc:β→SV} {l:List (α×β)} {T:Nat→Option TI} {kt:Nat} (hk:KeyOK T kt kc)(hv:∀v,mD 0 (vc v)=true):Plain (fO (cY kc vc l)):=fun j hj=>by
 rw [cK] at hj
 obtain⟨x,hx,hj⟩:=hj
 unfold fO at hx
 obtain⟨e,he,hx⟩:=List.mem_flatMap.1 hx
 obtain⟨i,hi⟩:=List.getElem?_of_mem he
 obtain⟨e',_,rfl⟩:=uS hi
 simp only [List.mem_cons,List.not_mem_nil,or_false] at hx
 rcases hx with rfl | rfl
 · exact aBf (hk.pl _) j hj
 · exact aBf (hv _) j hj
section
variable {α β : Type} [DecidableEq α] {kc : α → SV} {vc : β → SV} {l : List (α × β)} {k : α} {T : Nat → Option TI} {kt : Nat}
theorem tB:∀{l:List (α×β)} {q:Nat×β},eJ k l=some q→l[q.1]? = some (k,q.2)∧∀j e,j < q.1→l[j]? = some e→e.1≠k
 | [],q,h=>by simp [eJ] at h
 | e::l,q,h=>by
   simp only [eJ] at h
   split at h
   · rename_i he
     simp only [Option.some.injEq] at h
     subst h
     exact⟨by rw [←he];rfl,fun j e hj=>absurd hj (iF _)⟩
   · rename_i he
     split at h
     · rename_i q' hq
       simp only [Option.some.injEq] at h
       subst h
       obtain⟨h1,h2⟩:=tB hq
       refine⟨by simpa using h1,fun j e' hj hje=>?_⟩
       cases j with
       | zero=>simp at hje;rw [←hje];exact he
       | succ j=>exact h2 j e' (by omega) (by simpa using hje)
     · cases h
theorem aBg:∀{l:List (α×β)},eJ k l=none→∀e∈l,e.1≠k
 | [],_,e,he=>by simp at he
 | e::l,h,e',he=>by
   simp only [eJ] at h
   split at h
   · cases h
   · rename_i hne
     split at h
     · cases h
     · rename_i hn
       rcases List.mem_cons.1 he with rfl | he
       · exact hne
       · exact aBg hn e' he
theorem uT (hk:KeyOK T kt kc):aAl (cY kc vc l) (kc k) ((eJ k l).map fun q=>(q.1,vc q.2)):=by
 cases h:eJ k l with
 | some q =>
   obtain⟨h1,h2⟩:=tB h
   refine .inl ⟨q.1,vc q.2,by unfold cY;rw [List.getElem?_map,h1];rfl,fun j e hj he=>?_,rfl⟩
   obtain⟨e',he',rfl⟩:=uS he
   exact fun hc=>h2 j e' hj he' (hk.inj _ _ hc)
 | none =>
   refine .inr ⟨fun e he hc=>?_,rfl⟩
   obtain⟨i,hi⟩:=List.getElem?_of_mem he
   obtain⟨e',he',rfl⟩:=uS hi
   exact aBg h e' (List.mem_of_getElem? he') (hk.inj _ _ hc)
theorem aBh (d:β):vc (aV l k d)=(((eJ k l).map fun q=>(q.1,vc q.2)).map (·.2)).getD (vc d):=by
 unfold aV
 cases eJ k l<;>rfl
theorem aEb:∀{l:List (α×β)} (d:β),eJ k l=none→eJ k (l++[(k,d)])=some (l.length,d)
 | [],d,_=>by simp [eJ]
 | e::l,d,h=>by
   simp only [eJ] at h
   split at h
   · cases h
   · rename_i hne
     split at h
     · cases h
     · rename_i hn
       simp only [List.cons_append,eJ,if_neg hne,aEb d hn,List.length_cons]
theorem aN2 (l:List (α×β))(k:α)(d:β):aV (pH l k d) k d=aV l k d:=by
 unfold pH aV
 cases h:eJ k l with
 | some q=>simp only [h]
 | none=>simp only [aEb d h]
theorem aPg (hk:KeyOK T kt kc)(d:β):∃q,aAl (cY kc vc (pH l k d)) (kc k) q∧vc (aV l k d)=(q.map (·.2)).getD (vc d):=by
 rw [←aN2 l k d]
 exact⟨_,uT hk,aBh d⟩
theorem aT0 (hk:KeyOK T kt kc)(v:β):aTj (cY kc vc l) (kc k) (vc v) (cY kc vc (cH l k v)):=by
 refine⟨_,uT hk,?_⟩
 unfold cH
 cases h:eJ k l with
 | some q=>simp [cY,List.map_set]
 | none=>simp [cY]
theorem aT1 (hk:KeyOK T kt kc)(d:β):aTk (cY kc vc l) (kc k) (vc d) (cY kc vc (pH l k d)) (vc (aV l k d)) (mix l k):=by
 refine⟨_,uT hk,?_⟩
 unfold pH aV mix
 cases h:eJ k l with
 | some q=>simp
 | none=>simp [cY]
theorem aWm (v:β)(d:β):∃(j:Nat)(e:SV×SV),((mix l k:Nat):Int)=(j:Int)∧(cY kc vc (pH l k d))[j]? = some e∧cY kc vc (cH l k v)=(cY kc vc (pH l k d)).set j (e.1,vc v):=by
 unfold pH mix cH
 cases h:eJ k l with
 | some q =>
   refine⟨q.1,(kc k,vc q.2),rfl,?_,?_⟩
   · unfold cY;rw [List.getElem?_map,(tB h).1];rfl
   · simp [cY,List.map_set]
 | none =>
   refine⟨l.length,(kc k,vc d),rfl,?_,?_⟩
   · simp [cY]
   · simp [cY]
variable {P : Program}
def St.z (id:Nat):St P:=⟨[.stop id],[],trivial⟩
def vB (b:Bool):SV:=.v (.bool b)
def St.mG (hk:KeyOK T kt kc)(vc:β→SV)(l:List (α×β))(k:α)(d:β):St P :=
 ⟨[.ld [vc (aV l k d)]],[.pr (kP T kt (cY kc vc l) (kc k)),.pr (∃q,aAl (cY kc vc l) (kc k) q∧vc (aV l k d)=(q.map (·.2)).getD (vc d))],qA hk,⟨_,uT hk,aBh d⟩,trivial⟩
def St.mGa (hk:KeyOK T kt kc)(vc:β→SV)(l:List (α×β))(k:α)(d:β)(b:Nat):St P :=
 ⟨[.alt b (.map (cY kc vc (pH l k d))),.ld [vc (aV l k d)]],[.pr (kP T kt (cY kc vc l) (kc k)),.pr (∃q,aAl (cY kc vc l) (kc k) q∧vc (aV l k d)=(q.map (·.2)).getD (vc d)),
   .pr (kP T kt (cY kc vc (pH l k d)) (kc k)),.pr (∃q,aAl (cY kc vc (pH l k d)) (kc k) q∧vc (aV l k d)=(q.map (·.2)).getD (vc d)),.pr (({ val:=vc (aV l k d) }:Eff)={ val:=vc (aV l k d) })],
   qA hk,⟨_,uT hk,aBh d⟩,qA hk,aPg hk d,rfl,trivial⟩
def St.mR (kc:α→SV)(vc:β→SV)(l:List (α×β))(k:α)(d:β):St P:=⟨[],[.pr (BK.map (cY kc vc (pH l k d))=BK.map (cY kc vc (pH l k d)))],rfl,trivial⟩
def St.mP (hk:KeyOK T kt kc)(vc:β→SV)(l:List (α×β))(k:α)(v:β)(hv:∀v,mD 0 (vc v)=true:=by exact fun _=>rfl):St P :=
 ⟨[.mp (cY kc vc (cH l k v))],[.pr (kP T kt (cY kc vc l) (kc k)),.pr (aTj (cY kc vc l) (kc k) (vc v) (cY kc vc (cH l k v))),.pr (Plain (fO (cY kc vc (cH l k v))))],qA hk,aT0 hk v,aJy hk hv,trivial⟩
def St.mE (hk:KeyOK T kt kc)(vc:β→SV)(l:List (α×β))(k:α)(d:β)(hv:∀v,mD 0 (vc v)=true:=by exact fun _=>rfl):St P :=
 ⟨[.mp (cY kc vc (pH l k d)),.ld [vc (aV l k d),iv ((mix l k:Nat):Int)]],[.pr (kP T kt (cY kc vc l) (kc k)),.pr (∃j:Nat,((mix l k:Nat):Int)=(j:Int)∧aTk (cY kc vc l) (kc k) (vc d) (cY kc vc (pH l k d)) (vc (aV l k d)) j),.pr (Plain (fO (cY kc vc (pH l k d))))],qA hk,⟨_,rfl,aT1 hk d⟩,aJy hk hv,trivial⟩
def St.mS (hk:KeyOK T kt kc)(vc:β→SV)(l:List (α×β))(k:α)(d v:β)(hv:∀v,mD 0 (vc v)=true:=by exact fun _=>rfl):St P :=
 ⟨[.mp (cY kc vc (cH l k v))],[.pr (∃(j:Nat) (e:SV×SV),((mix l k:Nat):Int)=(j:Int)∧(cY kc vc (pH l k d))[j]? = some e∧cY kc vc (cH l k v)=(cY kc vc (pH l k d)).set j (e.1,vc v)),.pr (Plain (fO (cY kc vc (cH l k v))))],aWm v d,aJy hk hv,trivial⟩
end
def St.sub {P:Program} (a b:Int)(n:Nat)(h:0≤a∧a≤b∧b≤(n:Int):=by omega):St P:=⟨[.mp []],[.pr (0≤a∧a≤b∧b≤(n:Int))],h,trivial⟩
section
variable {P : Program}
theorem aFf {α:Type} {c:α→List SV} (hc:∀x,(c x).all SV.plain=true)(l:List α):Plain (flat c l):=jH hc
def St.D {α:Type} {c:α→List SV} {c2:List α→List SV} (es:Nat)(hc2:∀x,c2 x=[.d (flat c x) x.length es])(l:List (List α))(i:Int)(h:0≤i∧i < (l.length:Int):=by omega) (hc:∀x,(c x).all SV.plain=true:=by exact fun _=>rfl):St P :=
 ⟨[.ld [.d (flat c (l.getD i.toNat default)) (l.getD i.toNat default).length es]],[.pr (((flat c2 l).drop (0+i.toNat*1)).take 1=[.d (flat c (l.getD i.toNat default)) (l.getD i.toNat default).length es]),.pr (Plain (flat c (l.getD i.toNat default)))],
   by
     have h1:∀x,(c2 x).length=1:=fun x=>by rw [hc2];rfl
     have:=aPf h1 l i 0 1 h (by decide)
     rw [Nat.add_zero] at this
     show _=_
     rw [this,hc2];rfl,aFf hc _,trivial⟩
theorem aPh {α:Type} {c:α→List SV} {z:α} (n:Nat):flat c (List.replicate n z)=(List.replicate n (c z)).flatten:=by
 unfold flat
 rw [List.flatMap_def,List.map_replicate]
def St.Z {α:Type} (c:α→List SV)(z:α)(zs:List SV)(n:Int)(bytes:Nat)(h:0≤n∧n.toNat*bytes≤2 ^ 47∧n≤2 ^ 47:=by omega) (e:c z=zs:=by rfl):St P :=
 ⟨[.ld (flat c (List.replicate n.toNat z))],[.pr (0≤n∧n.toNat*bytes≤2 ^ 47∧n≤2 ^ 47),.pr (n=n),.pr (flat c (List.replicate n.toNat z)=(List.replicate n.toNat zs).flatten)],h,rfl,by rw [←e];exact aPh _,trivial⟩
theorem aEc {α:Type} {c:α→List SV} {es:Nat} (hc:∀x,(c x).length=es):∀(l:List α)(n:Nat),(flat c l).drop (n*es)=flat c (l.drop n)
 | [],n=>by simp [flat]
 | x::l,0=>by simp
 | x::l,n+1=>by
   rw [jG,Nat.add_mul,Nat.one_mul,Nat.add_comm,←List.drop_drop,List.drop_left' (hc x),aEc hc l n];simp
theorem aEd {α:Type} {c:α→List SV} {es:Nat} (hc:∀x,(c x).length=es):∀(l:List α)(n:Nat),(flat c l).take (n*es)=flat c (l.take n)
 | [],n=>by simp [flat]
 | x::l,0=>by simp [flat]
 | x::l,n+1=>by
   rw [jG,Nat.add_mul,Nat.one_mul,Nat.add_comm,←hc x,List.take_length_add_append,hc x,aEd hc l n];simp [jG]
def part {α:Type} (l:List α)(a b:Int):List α:=(l.drop a.toNat).take (b.toNat - a.toNat)
def St.S {α:Type} {c:α→List SV} {es:Nat} (hc:∀x,(c x).length=es)(l:List α)(a b:Int)(n:Nat)(h:0≤a∧a≤b∧b≤(n:Int):=by omega):St P :=
 ⟨[.ld (flat c (part l a b))],[.pr (0≤a∧a≤b∧b≤(n:Int)),.pr (flat c (part l a b)=((flat c l).drop (0+a.toNat*es)).take ((b.toNat - a.toNat)*es))],h,by rw [Nat.zero_add,aEc hc,aEd hc];rfl,trivial⟩
end
end Go.Aw
namespace Go.Aw
open Go.RowKit
mutual
def SV.hasB (i:Nat):SV→Bool
 | .p j _=>j == i
 | .s j _ _ _=>j == i
 | .m j=>j == i
 | .f _ caps=>SV.hasBl i caps
 | .a l=>SV.hasBl i l
 | .t l=>SV.hasBl i l
 | _=>false
def SV.hasBl (i:Nat):List SV→Bool
 | []=>false
 | x::l=>SV.hasB i x || SV.hasBl i l
end
def BK.hasB (i:Nat):BK→Bool
 | .live _ false cells=>SV.hasBl i cells
 | .map es=>SV.hasBl i (fO es)
 | _=>false
section
variable {P : Program} {ρ : Env} {W : World} {M : Nat → Prop}
end
end Go.Aw
namespace Go.Proofs.YtaeagjnpobdglaaGreat
open Go.Proofs Go.Aw Go.RowKit
set_option maxRecDepth 100000
noncomputable def T0:=conv Tryz.prog
theorem hT:kZ Tryz.prog T0:=fun _ _ h=>h
theorem hm:Tryz.prog.follows .mixedOrders=true:=by kernel_rfl
def W (n:Int):Int:=IntKind.wrap .i64 n
theorem aMf (n:Int):W n=if n % 18446744073709551616≥9223372036854775808 then n % 18446744073709551616 - 18446744073709551616 else n % 18446744073709551616:=by
 unfold W IntKind.wrap
 simp [IntKind.bits,IntKind.signed]
theorem aD {n:Int} (h1:-9223372036854775808≤n)(h2:n < 9223372036854775808):W n=n:=by
 rw [aMf];split<;>omega
theorem aFg (x:Int)(k:Nat) {m:Nat} (hm:(2:Int) ^ (min (toNat k) 64)=m):Int.fdiv x (2 ^ (min (toNat k) 64))=x / m:=by
 rw [hm];exact Int.fdiv_eq_ediv_of_nonneg _ (by omega)
theorem aFh {a b:Int} (h:0≤a∧a≤b∧b≤2147483648):W (Int.tdiv (W ((W (a+b))+1)) 2)=(a+b+1) / 2:=by
 rw [aD (n:=a+b) (by omega) (by omega),aD (n:=a+b+1) (by omega) (by omega),Int.tdiv_eq_ediv_of_nonneg (by omega),aD (by omega) (by omega)]
theorem aFi {a b:Int} (h:0≤a∧a≤b∧b≤2147483648):W (Int.tdiv (W (a+b)) 2)=(a+b) / 2:=by
 rw [aD (n:=a+b) (by omega) (by omega),Int.tdiv_eq_ediv_of_nonneg (by omega),aD (by omega) (by omega)]
theorem aMg {a b:Int} (h:0≤a∧a≤b∧b≤2147483648):W ((W (Int.tdiv (W ((W (a+b))+1)) 2)) - 1)=(a+b+1) / 2 - 1:=by
 rw [aFh h,aD (by omega) (by omega)]
theorem aMh {a b:Int} (h:0≤a∧a≤b∧b≤2147483648):W ((W (Int.tdiv (W (a+b)) 2))+1)=(a+b) / 2+1:=by
 rw [aFi h,aD (by omega) (by omega)]
theorem eA (n:Int):0≤IntKind.wrap .u64 n:=by
 simp only [IntKind.wrap,IntKind.bits,IntKind.signed]
 simp
 omega
def k9 (x:Zt×Zt×Zt):List SV:=[(iv x.1.1),(iv x.1.2.1),(iv x.1.2.2),(iv x.2.1.1),(iv x.2.1.2.1),(iv x.2.1.2.2),(iv x.2.2.1),(iv x.2.2.2.1),(iv x.2.2.2.2)]
def k3 (x:Zt):List SV:=[(iv x.1),(iv x.2.1),(iv x.2.2)]
def k2 (x:Int×Int):List SV:=[(iv x.1),(iv x.2)]
section
variable {cx : Cx} {k : List K} {s : LS} {base : Nat} {Q : Exit → Act → World → Prop}
theorem rt {fn:Func} (sts:List (St Tryz.prog))(ads:List Adj)(ks:List Nat)(hb:cx.base=base) {res:SV} {nb:List BK}
 (h:yL T0 fn.results.toList base [] ks (pT ads (run T0 5000 k s (stO sts)))=some (res,nb,[],stB sts)):Aw.Good Tryz.prog none 9 (bodyPost Tryz.prog fn (RR cx res nb [])) cx [] k s:=aZr hT hm sts ads ks hb h
theorem en (sts:List (St Tryz.prog))(ads:List Adj)(ts ks:List Nat)(hb:cx.base=base)(body:Code)(k':List K)(s':LS)(m:Nat)
 (h:zV base ts ks (pT ads (run T0 5000 k s (stO sts)))=some (body,k',s',stB sts)) (hg:Aw.Good Tryz.prog none 9 Q cx [] (.l body m::k') s'):Aw.Good Tryz.prog none 9 Q cx [] k s:=aTz hT hm sts ads ts ks hb body k' s' m h hg
theorem ba {m:Nat} (sts:List (St Tryz.prog))(ads:List Adj)(ts ks:List Nat)(hb:cx.base=base)(body:Code)(k':List K)(s':LS)
 (h:aFb base ts ks (pT ads (run T0 5000 k s (stO sts)))=some (body,m,k',s',stB sts)) (hg:Aw.Good Tryz.prog none 9 Q cx [] (.l body m::k') s'):Aw.Good Tryz.prog none 9 Q cx [] k s:=aWl hT hm sts ads ts ks hb body k' s' h hg
theorem ga (sts:List (St Tryz.prog))(ads:List Adj)(ts ks:List Nat)(hb:cx.base=base)(x:Code)(k':List K)(s':LS)
 (h:aTx base ts ks (pT ads (run T0 5000 k s (stO sts)))=some (x,k',s',stB sts)) (hg:Aw.Good Tryz.prog none 9 Q cx [] (.c x::k') s'):Aw.Good Tryz.prog none 9 Q cx [] k s:=bDl hT hm sts ads ts ks hb x k' s' h hg
end
def rV (a0:Zt)(a1:Int):Zt :=
 ((W (a1*a0.1)),(W (a1*a0.2.1)),(W (a1*a0.2.2)))
theorem C93 (a0:Zt)(a1:Int):Con Tryz.prog 93 [(.a (k3 a0)),(iv a1)] [] (.a (k3 (rV a0 a1))) []:=by
 refine aK Tryz.func93 (by kernel_rfl) fun cx hcx=>?_
 have e:=Eq.refl (rV a0 a1);conv at e=>rhs;simp only [rV]
 rw [e]
 exact rt [] [] [] hcx (by kernel_rfl)
def gL (a0:Zt)(a1:Zt):Zt :=
 ((W (a0.1+a1.1)),(W (a0.2.1+a1.2.1)),(W (a0.2.2+a1.2.2)))
theorem aWn (a0:Zt)(a1:Zt):Con Tryz.prog 125 [(.a (k3 a0)),(.a (k3 a1))] [] (.a (k3 (gL a0 a1))) []:=by
 refine aK Tryz.func125 (by kernel_rfl) fun cx hcx=>?_
 have e:=Eq.refl (gL a0 a1);conv at e=>rhs;simp only [gL]
 rw [e]
 exact rt [] [] [] hcx (by kernel_rfl)
def cP (x:Zt×Zt×Zt):List SV:=[iv x.1.1,iv x.1.2.1,iv x.1.2.2,iv x.2.1.1,iv x.2.1.2.1,iv x.2.1.2.2,iv x.2.2.1,iv x.2.2.2.1,iv x.2.2.2.2]
def aDm (x:Zt×Zt×Zt):Value:=.agg #[.int .i64 x.1.1,.int .i64 x.1.2.1,.int .i64 x.1.2.2,.int .i64 x.2.1.1,.int .i64 x.2.1.2.1,.int .i64 x.2.1.2.2,.int .i64 x.2.2.1,.int .i64 x.2.2.2.1,.int .i64 x.2.2.2.2]
theorem aBi (ρ:Env)(x:Zt×Zt×Zt):Rel ρ (.a (cP x)) (aDm x):=by
 simp only [Rel];exact⟨_,rfl,by simp [cP,Rels,Rel,iv]⟩
theorem aPi (x:Zt×Zt×Zt)(k:Nat):¬(SV.a (cP x)).has k:=by
 simp [cP,SV.has,SV.hasl,iv]
def yv (l:Nat):Value:=.func (.yield l) #[] #[]
def q1 (p:Zt×Zt×Zt):Zt×Zt×Zt:=(rV p.1 2,gL p.1 p.2.1,gL p.2.2 p.1)
def q2 (p:Zt×Zt×Zt):Zt×Zt×Zt:=(gL p.1 p.2.1,rV p.2.1 2,gL p.2.1 p.2.2)
def q3 (p:Zt×Zt×Zt):Zt×Zt×Zt:=(gL p.2.2 p.1,gL p.2.1 p.2.2,rV p.2.2 2)
def q4 (p:Zt×Zt×Zt):Zt×Zt×Zt:=(gL p.1 p.2.1,gL p.2.1 p.2.2,gL p.2.2 p.1)
def aR:Nat→Zt×Zt×Zt→List (Zt×Zt×Zt)
 | 0,p=>[p]
 | d+1,p=>aR d (q1 p)++(aR d (q2 p)++(aR d (q3 p)++aR d (q4 p)))
theorem yN:∀(d:Nat)(p:Zt×Zt×Zt),(aR d p).length=4 ^ d
 | 0,p=>rfl
 | d+1,p=>by simp only [aR,List.length_append,yN d,Nat.pow_succ];omega
def uU (l:Nat)(J:Nat→(Nat→Prop)→World→Prop)(Jx:(Nat→Prop)→World→Prop)(xs:List (Zt×Zt×Zt))(d:Nat):Prop :=
 ∀(p:Zt×Zt×Zt) (i:Nat) (S:Nat→Prop) (W:World) (ρ:Env) (vs:List Value),Rels ρ [.a (cP p),iv d,.p 0 0,.p 1 0] vs →
   BRep ρ (fun b=>W.heap.size≤b) W 0 (.live false false [.v (yv l)])→BRep ρ (fun b=>W.heap.size≤b) W 1 (.live false false [.f 124 [.p 0 0,.p 1 0]]) →
   (∀k,k < 2→∀b o n,ρ k=some (b,o,n)→¬S b)→J i S W→(∀j x,(aR d p)[j]? = some x→xs[i+j]? = some x) →
   Calls Tryz.prog 124 vs.toArray W (VR J Jx (i+(aR d p).length) S W)
noncomputable def OY:Array Oper:=match (fX [1,0,1,0,0] [] (Tryz.f124.body.getD .skip)).1 with
 | .region _ ops _=>ops
 | _=>#[]
noncomputable def KY:List K:=(fX [1,0,1,0,0] [] (Tryz.f124.body.getD .skip)).2
noncomputable def OV:Array Oper:=match (fX [1,1,1,1,0,1,0,0,1,1,0,0,1,0] [0] (Tryz.f124.body.getD .skip)).1 with
 | .region _ ops _=>ops
 | _=>#[]
noncomputable def KV (m:Nat):List K:=(fX [1,1,1,1,0,1,0,0,1,1,0,0,1,0] [m] (Tryz.f124.body.getD .skip)).2
noncomputable def oY:Oper:=OY.toList.getD 2 default
noncomputable def oV:Oper:=OV.toList.getD 4 default
noncomputable def aJz (o:Oper):Array TypeId:=match o.op with
 | .call c=>c.argTypes
 | _=>#[]
theorem aZs:oY.op=.call { callee:=.value (.tmp 17),args:=#[.tmp 18],argTypes:=aJz oY }:=by kernel_rfl
theorem aZt:oV.op=.call { callee:=.value (.tmp 66),args:=#[.tmp 67,.tmp 69],argTypes:=aJz oV }:=by kernel_rfl
theorem aPj:OY.toList=OY.toList.take 2++oY::OY.toList.drop 3:=by kernel_rfl
theorem uV:OV.toList=OV.toList.take 4++oV::OV.toList.drop 5:=by kernel_rfl
theorem aPk:nX Tryz.prog 124:=ent Tryz.func124 (by kernel_rfl) rfl
theorem aWo:nX Tryz.prog 123:=ent Tryz.func123 (by kernel_rfl) rfl
def zY (l:Nat)(p:Zt×Zt×Zt):LS:=⟨[.u,.u,.p 0 0,.u,.p 2 0,.u,.u,.u,.u,.u,.u,.u,.u,.u,.u,.u,.u,.u,.u,.u,.u,.u,.u,.u,.u,.u,.u,.u,.u,.u,.u,.u,.u,.u,.u,.u,.u,.u,.u,.u,.u,.u,.u,.u,.u,.u,.u,.u,.u,.u,.u,.u,.u,.u,.u,.u,.u,.u,.u,.u,.u,.u,.u,.u,.u,.u,.u,.u,.u,.u,.u,.u,.u],[.live false false [.v (yv l)],.live false false [.f 124 [.p 0 0,.p 1 0]],.live true false (cP p)]⟩
def zY1 (l:Nat)(p:Zt×Zt×Zt):LS:=⟨[.u,.u,.p 0 0,.u,.p 2 0,.u,.u,.u,.u,.u,.u,.u,.u,.u,.u,.u,.u,.v (yv l),.a (cP p),.u,.u,.u,.u,.u,.u,.u,.u,.u,.u,.u,.u,.u,.u,.u,.u,.u,.u,.u,.u,.u,.u,.u,.u,.u,.u,.u,.u,.u,.u,.u,.u,.u,.u,.u,.u,.u,.u,.u,.u,.u,.u,.u,.u,.u,.u,.u,.u,.u,.u,.u,.u,.u,.u],[.live false false [.v (yv l)],.live false false [.f 124 [.p 0 0,.p 1 0]],.live true false (cP p)]⟩
def zY3 (l:Nat)(p:Zt×Zt×Zt)(b:Bool):LS:=⟨[.u,.u,.p 0 0,.u,.p 2 0,.u,.v (.bool b),.u,.u,.u,.u,.u,.u,.u,.u,.u,.u,.v (yv l),.a (cP p),.v (.bool b),.u,.u,.u,.u,.u,.u,.u,.u,.u,.u,.u,.u,.u,.u,.u,.u,.u,.u,.u,.u,.u,.u,.u,.u,.u,.u,.u,.u,.u,.u,.u,.u,.u,.u,.u,.u,.u,.u,.u,.u,.u,.u,.u,.u,.u,.u,.u,.u,.u,.u,.u,.u,.u],[.live false false [.v (yv l)],.live false false [.f 124 [.p 0 0,.p 1 0]],.live false false (cP p)]⟩
def zV1 (l:Nat)(p:Zt×Zt×Zt)(d:Int):LS:=⟨[.u,iv d,.u,.p 1 0,.u,.u,.u,.u,.u,.u,.u,.u,.u,.u,.p 3 0,.u,.u,.u,.u,.u,.u,.u,.u,.u,.u,.u,.u,.u,.u,.u,.u,.u,.u,.u,.u,.u,.u,.u,.u,.u,.u,.u,.u,.u,.u,.u,.u,.u,.u,.u,.u,.u,.u,.u,.u,.u,.u,.u,.u,.u,.s 2 0 4 9,iv 4,iv 0,.u,.u,.u,.u,.u,.u,.u,.u,.u,.u],[.live false false [.v (yv l)],.live false false [.f 124 [.p 0 0,.p 1 0]],.live true false (cP (q1 p)++(cP (q2 p)++(cP (q3 p)++cP (q4 p)))),.live true false (cP (q1 p))]⟩
def bDm (l:Nat)(p:Zt×Zt×Zt)(d:Int):LS:=⟨[.u,iv d,.u,.p 1 0,.u,.u,.u,.u,.u,.u,.u,.u,.u,.u,.p 3 0,.u,.u,.u,.u,.u,.u,.u,.u,.u,.u,.u,.u,.u,.u,.u,.u,.u,.u,.u,.u,.u,.u,.u,.u,.u,.u,.u,.u,.u,.u,.u,.u,.u,.u,.u,.u,.u,.u,.u,.u,.u,.u,.u,.u,.u,.s 2 0 4 9,iv 4,iv 0,.u,.u,.u,.f 124 [.p 0 0,.p 1 0],.a (cP (q1 p)),iv d,iv (W (d - 1)),.u,.u,.u],[.live false false [.v (yv l)],.live false false [.f 124 [.p 0 0,.p 1 0]],.live true false (cP (q1 p)++(cP (q2 p)++(cP (q3 p)++cP (q4 p)))),.live true false (cP (q1 p))]⟩
def bDn (l:Nat)(p:Zt×Zt×Zt)(d:Int)(b:Bool):LS:=⟨[.u,iv d,.u,.p 1 0,.u,.u,.u,.u,.u,.u,.u,.u,.u,.u,.p 3 0,.u,.u,.u,.u,.u,.u,.u,.u,.u,.u,.u,.u,.u,.u,.u,.u,.u,.u,.u,.u,.u,.u,.u,.u,.u,.u,.u,.u,.u,.u,.u,.u,.u,.u,.u,.u,.u,.u,.u,.u,.u,.u,.u,.u,.u,.s 2 0 4 9,iv 4,iv 0,.u,.u,.u,.f 124 [.p 0 0,.p 1 0],.a (cP (q1 p)),iv d,iv (W (d - 1)),.v (.bool b),.v (.bool (!b)),.u],[.live false false [.v (yv l)],.live false false [.f 124 [.p 0 0,.p 1 0]],.live false false (cP (q1 p)++(cP (q2 p)++(cP (q3 p)++cP (q4 p)))),.live false false (cP (q1 p))]⟩
def zV2 (l:Nat)(p:Zt×Zt×Zt)(d:Int):LS:=⟨[.u,iv d,.u,.p 1 0,.u,.u,.u,.u,.u,.u,.u,.u,.u,.u,.p 4 0,.u,.u,.u,.u,.u,.u,.u,.u,.u,.u,.u,.u,.u,.u,.u,.u,.u,.u,.u,.u,.u,.u,.u,.u,.u,.u,.u,.u,.u,.u,.u,.u,.u,.u,.u,.u,.u,.u,.u,.u,.u,.u,.u,.u,.u,.s 2 0 4 9,iv 4,iv 1,.u,.u,.u,.u,.u,.u,.u,.u,.u,.u],[.live false false [.v (yv l)],.live false false [.f 124 [.p 0 0,.p 1 0]],.live false false (cP (q1 p)++(cP (q2 p)++(cP (q3 p)++cP (q4 p)))),.live false false (cP (q1 p)),.live true false (cP (q2 p))]⟩
def bDo (l:Nat)(p:Zt×Zt×Zt)(d:Int):LS:=⟨[.u,iv d,.u,.p 1 0,.u,.u,.u,.u,.u,.u,.u,.u,.u,.u,.p 4 0,.u,.u,.u,.u,.u,.u,.u,.u,.u,.u,.u,.u,.u,.u,.u,.u,.u,.u,.u,.u,.u,.u,.u,.u,.u,.u,.u,.u,.u,.u,.u,.u,.u,.u,.u,.u,.u,.u,.u,.u,.u,.u,.u,.u,.u,.s 2 0 4 9,iv 4,iv 1,.u,.u,.u,.f 124 [.p 0 0,.p 1 0],.a (cP (q2 p)),iv d,iv (W (d - 1)),.u,.u,.u],[.live false false [.v (yv l)],.live false false [.f 124 [.p 0 0,.p 1 0]],.live false false (cP (q1 p)++(cP (q2 p)++(cP (q3 p)++cP (q4 p)))),.live false false (cP (q1 p)),.live true false (cP (q2 p))]⟩
def bDp (l:Nat)(p:Zt×Zt×Zt)(d:Int)(b:Bool):LS:=⟨[.u,iv d,.u,.p 1 0,.u,.u,.u,.u,.u,.u,.u,.u,.u,.u,.p 4 0,.u,.u,.u,.u,.u,.u,.u,.u,.u,.u,.u,.u,.u,.u,.u,.u,.u,.u,.u,.u,.u,.u,.u,.u,.u,.u,.u,.u,.u,.u,.u,.u,.u,.u,.u,.u,.u,.u,.u,.u,.u,.u,.u,.u,.u,.s 2 0 4 9,iv 4,iv 1,.u,.u,.u,.f 124 [.p 0 0,.p 1 0],.a (cP (q2 p)),iv d,iv (W (d - 1)),.v (.bool b),.v (.bool (!b)),.u],[.live false false [.v (yv l)],.live false false [.f 124 [.p 0 0,.p 1 0]],.live false false (cP (q1 p)++(cP (q2 p)++(cP (q3 p)++cP (q4 p)))),.live false false (cP (q1 p)),.live false false (cP (q2 p))]⟩
def zV3 (l:Nat)(p:Zt×Zt×Zt)(d:Int):LS:=⟨[.u,iv d,.u,.p 1 0,.u,.u,.u,.u,.u,.u,.u,.u,.u,.u,.p 5 0,.u,.u,.u,.u,.u,.u,.u,.u,.u,.u,.u,.u,.u,.u,.u,.u,.u,.u,.u,.u,.u,.u,.u,.u,.u,.u,.u,.u,.u,.u,.u,.u,.u,.u,.u,.u,.u,.u,.u,.u,.u,.u,.u,.u,.u,.s 2 0 4 9,iv 4,iv 2,.u,.u,.u,.u,.u,.u,.u,.u,.u,.u],[.live false false [.v (yv l)],.live false false [.f 124 [.p 0 0,.p 1 0]],.live false false (cP (q1 p)++(cP (q2 p)++(cP (q3 p)++cP (q4 p)))),.live false false (cP (q1 p)),.live false false (cP (q2 p)),.live true false (cP (q3 p))]⟩
def bDq (l:Nat)(p:Zt×Zt×Zt)(d:Int):LS:=⟨[.u,iv d,.u,.p 1 0,.u,.u,.u,.u,.u,.u,.u,.u,.u,.u,.p 5 0,.u,.u,.u,.u,.u,.u,.u,.u,.u,.u,.u,.u,.u,.u,.u,.u,.u,.u,.u,.u,.u,.u,.u,.u,.u,.u,.u,.u,.u,.u,.u,.u,.u,.u,.u,.u,.u,.u,.u,.u,.u,.u,.u,.u,.u,.s 2 0 4 9,iv 4,iv 2,.u,.u,.u,.f 124 [.p 0 0,.p 1 0],.a (cP (q3 p)),iv d,iv (W (d - 1)),.u,.u,.u],[.live false false [.v (yv l)],.live false false [.f 124 [.p 0 0,.p 1 0]],.live false false (cP (q1 p)++(cP (q2 p)++(cP (q3 p)++cP (q4 p)))),.live false false (cP (q1 p)),.live false false (cP (q2 p)),.live true false (cP (q3 p))]⟩
def bDr (l:Nat)(p:Zt×Zt×Zt)(d:Int)(b:Bool):LS:=⟨[.u,iv d,.u,.p 1 0,.u,.u,.u,.u,.u,.u,.u,.u,.u,.u,.p 5 0,.u,.u,.u,.u,.u,.u,.u,.u,.u,.u,.u,.u,.u,.u,.u,.u,.u,.u,.u,.u,.u,.u,.u,.u,.u,.u,.u,.u,.u,.u,.u,.u,.u,.u,.u,.u,.u,.u,.u,.u,.u,.u,.u,.u,.u,.s 2 0 4 9,iv 4,iv 2,.u,.u,.u,.f 124 [.p 0 0,.p 1 0],.a (cP (q3 p)),iv d,iv (W (d - 1)),.v (.bool b),.v (.bool (!b)),.u],[.live false false [.v (yv l)],.live false false [.f 124 [.p 0 0,.p 1 0]],.live false false (cP (q1 p)++(cP (q2 p)++(cP (q3 p)++cP (q4 p)))),.live false false (cP (q1 p)),.live false false (cP (q2 p)),.live false false (cP (q3 p))]⟩
def zV4 (l:Nat)(p:Zt×Zt×Zt)(d:Int):LS:=⟨[.u,iv d,.u,.p 1 0,.u,.u,.u,.u,.u,.u,.u,.u,.u,.u,.p 6 0,.u,.u,.u,.u,.u,.u,.u,.u,.u,.u,.u,.u,.u,.u,.u,.u,.u,.u,.u,.u,.u,.u,.u,.u,.u,.u,.u,.u,.u,.u,.u,.u,.u,.u,.u,.u,.u,.u,.u,.u,.u,.u,.u,.u,.u,.s 2 0 4 9,iv 4,iv 3,.u,.u,.u,.u,.u,.u,.u,.u,.u,.u],[.live false false [.v (yv l)],.live false false [.f 124 [.p 0 0,.p 1 0]],.live false false (cP (q1 p)++(cP (q2 p)++(cP (q3 p)++cP (q4 p)))),.live false false (cP (q1 p)),.live false false (cP (q2 p)),.live false false (cP (q3 p)),.live true false (cP (q4 p))]⟩
def bDs (l:Nat)(p:Zt×Zt×Zt)(d:Int):LS:=⟨[.u,iv d,.u,.p 1 0,.u,.u,.u,.u,.u,.u,.u,.u,.u,.u,.p 6 0,.u,.u,.u,.u,.u,.u,.u,.u,.u,.u,.u,.u,.u,.u,.u,.u,.u,.u,.u,.u,.u,.u,.u,.u,.u,.u,.u,.u,.u,.u,.u,.u,.u,.u,.u,.u,.u,.u,.u,.u,.u,.u,.u,.u,.u,.s 2 0 4 9,iv 4,iv 3,.u,.u,.u,.f 124 [.p 0 0,.p 1 0],.a (cP (q4 p)),iv d,iv (W (d - 1)),.u,.u,.u],[.live false false [.v (yv l)],.live false false [.f 124 [.p 0 0,.p 1 0]],.live false false (cP (q1 p)++(cP (q2 p)++(cP (q3 p)++cP (q4 p)))),.live false false (cP (q1 p)),.live false false (cP (q2 p)),.live false false (cP (q3 p)),.live true false (cP (q4 p))]⟩
def bDt (l:Nat)(p:Zt×Zt×Zt)(d:Int)(b:Bool):LS:=⟨[.u,iv d,.u,.p 1 0,.u,.u,.u,.u,.u,.u,.u,.u,.u,.u,.p 6 0,.u,.u,.u,.u,.u,.u,.u,.u,.u,.u,.u,.u,.u,.u,.u,.u,.u,.u,.u,.u,.u,.u,.u,.u,.u,.u,.u,.u,.u,.u,.u,.u,.u,.u,.u,.u,.u,.u,.u,.u,.u,.u,.u,.u,.u,.s 2 0 4 9,iv 4,iv 3,.u,.u,.u,.f 124 [.p 0 0,.p 1 0],.a (cP (q4 p)),iv d,iv (W (d - 1)),.v (.bool b),.v (.bool (!b)),.u],[.live false false [.v (yv l)],.live false false [.f 124 [.p 0 0,.p 1 0]],.live false false (cP (q1 p)++(cP (q2 p)++(cP (q3 p)++cP (q4 p)))),.live false false (cP (q1 p)),.live false false (cP (q2 p)),.live false false (cP (q3 p)),.live false false (cP (q4 p))]⟩
def vb:SV→Bool
 | .v _ | .b _=>true
 | _=>false
theorem aBj {ρ ρ':Env}:∀{l:List SV} {vs us:List Value},l.all vb=true→Rels ρ l vs→Rels ρ' l us→vs=us
 | [],[],[],_,_,_=>rfl
 | [],_::_,_,_,h,_=>by simp [Rels] at h
 | [],[],_::_,_,_,h=>by simp [Rels] at h
 | _::_,[],_,_,h,_=>by simp [Rels] at h
 | _::_,_::_,[],_,_,h=>by simp [Rels] at h
 | x::l,y::vs,z::us,hp,h1,h2=>by
   simp only [List.all_cons,Bool.and_eq_true] at hp
   simp only [Rels] at h1 h2
   rw [aBj hp.2 h1.2 h2.2]
   have:y=z:=by
     cases x<;>simp only [vb,Bool.false_eq_true,false_and] at hp
     · have a1:=h1.1;have a2:=h2.1;simp only [Rel] at a1 a2;rw [a1,a2]
     · have a1:=h1.1;have a2:=h2.1;simp only [Rel] at a1 a2;rw [a1,a2]
   rw [this]
theorem qW {ρ:Env} {x:SV} {l:List SV} {y:Value} {m:List Value} (h:Rel ρ x y)(h':Rels ρ l m):Rels ρ (x::l) (y::m):=by simp only [Rels];exact⟨h,h'⟩
theorem aFj {α:Type} {xs A B:List α} {i:Nat} (h:∀j x,(A++B)[j]? = some x→xs[i+j]? = some x):(∀j x,A[j]? = some x→xs[i+j]? = some x)∧(∀j x,B[j]? = some x→xs[i+A.length+j]? = some x) :=
 ⟨fun j x hj=>h j x (by rw [List.getElem?_append_left (List.getElem?_eq_some_iff.1 hj).1];exact hj),fun j x hj=>by
   have:=h (A.length+j) x (by rw [List.getElem?_append_right (by omega),Nat.add_sub_cancel_left];exact hj)
   rwa [←Nat.add_assoc] at this⟩
section
variable {l : Nat} {J : Nat → (Nat → Prop) → World → Prop} {Jx : (Nat → Prop) → World → Prop} {xs : List (Zt × Zt × Zt)}
theorem lB (hJ:wN J)(hX:aFd Jx) {m m':Nat} {W0:World} {S:Nat→Prop} {cx:Cx} {b:Bool} (h1:b=true→∃Sc,Seg J W0 S m' cx Sc)(h2:b=false→SegX Jx W0 S cx)(hm:m'=m)(Wd:World)(hb:Below cx.w.heap.size cx.w Wd)(hd:cx.w.drawn≤Wd.drawn) :
   VR J Jx m S W0 (.returned (.bool b)) Wd:=by
 subst hm
 cases b with
 | true =>
   obtain⟨Sc,h⟩:=h1 rfl
   exact .inl ⟨rfl,Sc,hJ _ _ _ _ h.j hb hd,h.kept.grow hb hd,h.sub⟩
 | false =>
   have h:=h2 rfl
   obtain⟨Sc,hj⟩:=h.j
   exact .inr ⟨rfl,Sc,hX _ _ _ hj hb hd,h.kept.grow hb hd⟩
theorem aWp (hJ:wN J)(hX:aFd Jx)(hB:pX J)(hY:∀i x S W1,xs[i]? = some x→J i S W1→YieldAt (Fw none) 9 Tryz.prog l #[aDm x] W1 (YR J Jx i S W1)):uU l J Jx xs 0:=by
 intro p i S Wd ρ vs hargs hb0 hb1 hS hj hxs
 have hx:xs[i]? = some p:=by have:=hxs 0 p rfl;simpa using this
 refine mQ (n:=9) (bs:=[.live false false [.v (yv l)],.live false false [.f 124 [.p 0 0,.p 1 0]]]) Tryz.func124 rfl (by show 4≤Tryz.f124.ntmps;decide) (by kernel_rfl) ⟨rfl,rfl,trivial⟩ (by kernel_rfl) (fun i=>by rcases i with _ | _ | i<;>simp [BK.own]) (by kernel_rfl) hargs (fun i=>by rcases i with _ | _ | i<;>first | exact hb0 | exact hb1 | simp [BRep]) (fun i=>by rcases i with _ | _ | i<;>simp [BK.pl]) (fun cx hbase hw hρ hfz hown=>?_)
 subst hw
 have hd:((((0:Nat):Int):Int) == 0)=true:=rfl
 refine uP (T:=T0) hT hm (f:=5000) (orc:=[.d true,.stop 2]) [] [2,4] [2] hbase (x:=.region 2 OY false) (k':=KY) (s':=zY l p)
   (obs:=[.eq ((((0:Nat):Int):Int) == 0) true]) (by kernel_rfl) ⟨hd,trivial⟩ ?_
 have hseg:Seg J cx.w S i cx S:=⟨hj,Kept.refl _ _,fun b h=>.inl h,fun k b o n hk h=>hS k (by rw [hbase] at hk;exact hk) b o n ((hρ k).symm.trans h),hown,fun b o ho=>by rw [hfz b] at ho;cases ho⟩
 refine pY (Jx:=Jx) hT hJ hB (m:=i+1) hseg (OY.toList.take 2) oY (OY.toList.drop 3) aPj (s1:=zY1 l p) (by kernel_rfl) (by kernel_rfl) 19 (by kernel_rfl) (bY (by kernel_rfl)) 2 hbase (by kernel_rfl) (by kernel_rfl)
   (fun ρ a W2 hrep hsafe hj2 K Q' hK=>?_) (zY3 l p) (fun b=>by kernel_rfl) (fun b cx' hb' h1 h2=>?_)
 · have e1:=hrep.sl 17
   have e2:=hrep.sl 18
   refine aPd aZs (l:=l) (vs:=#[aDm p]) ?_ ?_ (hY i p S W2 hx hj2) hK
   · exact e1
   · have:a.eval (.tmp 18)=aDm p:=by
       have e3:Rel ρ (.a (cP p)) (a.tmps.getD 18 undef):=e2
       simp only [Rel] at e3
       obtain⟨vs,hv,hr⟩:=e3
       have h':=aBi ρ p
       simp only [Rel] at h'
       obtain⟨us,hu,hr'⟩:=h'
       show a.tmps.getD 18 undef=aDm p
       rw [hv,hu]
       have:vs=us:=aBj (by simp [cP,vb,iv]) hr hr'
       rw [this]
     simp [this]
 · have hown':∀c,¬cx'.own c:=by
     cases b with
     | true=>obtain⟨Sc,h⟩:=h1 rfl;exact h.own
     | false=>exact(h2 rfl).own
   exact qV (T:=T0) hT hm (f:=5000) (orc:=[]) (b:=b) (obs:=[]) (by cases b<;>kernel_rfl) trivial hown' (fun Wd hW hWd=>lB hJ hX h1 h2 rfl Wd hW hWd)
theorem aMi {d:Nat} (ih:uU l J Jx xs d) {cx:Cx} {N:Nat} {D:List Deferred} {ρ:Env} {s:FS} {a:Act} {Wd:World} (hrep:Rep cx N D ρ s a Wd) {p:Zt×Zt×Zt} {i:Nat} {S:Nat→Prop}
   (hdl:d < 1000) (e1:s.sl 66=.f 124 [.p 0 0,.p 1 0]) (e2:s.sl 67=.a (cP p)) (e3:s.sl 69=iv (W (((d+1:Nat):Int) - 1))) (e4:s.bk 0=.live false false [.v (yv l)]) (e5:s.bk 1=.live false false [.f 124 [.p 0 0,.p 1 0]])
   (hS:∀k,k < 2→∀b o n,ρ k=some (b,o,n)→¬S b) (hj:J i S Wd) (hxs:∀j x,(aR d p)[j]? = some x→xs[i+j]? = some x)
   (K:Act→World→Prop) (Q:Exit→Act→World→Prop) (hK:∀e Wd',VR J Jx (i+(aR d p).length) S Wd e Wd'→∃v,e=.returned v∧K (a.put oV.dst v) Wd'):oV.wpIn (Fw none) 9 Tryz.prog a Wd K Q:=by
 have r1:=hrep.sl 66
 have r2:=hrep.sl 67
 have r3:=hrep.sl 69
 rw [e1] at r1;rw [e2] at r2;rw [e3] at r3
 have hw:W (((d+1:Nat):Int) - 1)=(d:Int):=by rw [aD]<;>omega
 rw [hw] at r3
 simp only [Rel] at r1
 obtain⟨vs,hv,hc⟩:=r1
 have b0:=hrep.bk 0
 have b1:=hrep.bk 1
 rw [e4] at b0;rw [e5] at b1
 refine aMe aZt (g:=124) (caps:=vs) hv aPk (ih p i S Wd ρ _ ?_ b0.ro b1.ro hS hj hxs) hK
 exact qW r2 (qW r3 hc)
theorem aWq (hJ:wN J)(hX:aFd Jx)(hB:pX J) {d:Nat} (hdl:d < 1000)(ih:uU l J Jx xs d):uU l J Jx xs (d+1):=by
 intro p i S Wd ρ vs hargs hb0 hb1 hS hj hxs
 obtain⟨hx1,hr1⟩:=aFj hxs
 obtain⟨hx2,hr2⟩:=aFj hr1
 obtain⟨hx3,hx4⟩:=aFj hr2
 refine mQ (n:=9) (bs:=[.live false false [.v (yv l)],.live false false [.f 124 [.p 0 0,.p 1 0]]]) Tryz.func124 rfl (by show 4≤Tryz.f124.ntmps;decide) (by kernel_rfl) ⟨rfl,rfl,trivial⟩ (by kernel_rfl) (fun i=>by rcases i with _ | _ | i<;>simp [BK.own]) (by kernel_rfl) hargs (fun i=>by rcases i with _ | _ | i<;>first | exact hb0 | exact hb1 | simp [BRep]) (fun i=>by rcases i with _ | _ | i<;>simp [BK.pl]) (fun cx hbase hw hρ hfz hown=>?_)
 subst hw
 have hd:((((d+1:Nat):Int):Int) == 0)=false:=by rw [beq_eq_false_iff_ne];omega
 have hseg:Seg J cx.w S i cx S:=⟨hj,Kept.refl _ _,fun b h=>.inl h,fun k b o n hk h=>hS k (by rw [hbase] at hk;exact hk) b o n ((hρ k).symm.trans h),hown,fun b o ho=>by rw [hfz b] at ho;cases ho⟩
 refine uP (T:=T0) hT hm (f:=5000) (orc:=[.d false,.call [] (.a [(iv (rV p.1 2).1),(iv (rV p.1 2).2.1),(iv (rV p.1 2).2.2)]) [],.call [] (.a [(iv (rV p.2.1 2).1),(iv (rV p.2.1 2).2.1),(iv (rV p.2.1 2).2.2)]) [],.call [] (.a [(iv (rV p.2.2 2).1),(iv (rV p.2.2 2).2.1),(iv (rV p.2.2 2).2.2)]) [],.call [] (.a [(iv (gL p.1 p.2.1).1),(iv (gL p.1 p.2.1).2.1),(iv (gL p.1 p.2.1).2.2)]) [],.call [] (.a [(iv (gL p.2.1 p.2.2).1),(iv (gL p.2.1 p.2.2).2.1),(iv (gL p.2.1 p.2.2).2.2)]) [],.call [] (.a [(iv (gL p.2.2 p.1).1),(iv (gL p.2.2 p.1).2.1),(iv (gL p.2.2 p.1).2.2)]) [],.un 4,.d true,.stop 8]) [] [1,3,14,60,61,62] [9,10] hbase (x:=.region 8 OV false) (k':=KV 4) (s':=zV1 l p (d+1:Nat))
   (obs:=[.eq ((((d+1:Nat):Int):Int) == 0) false,.call 93 [(.a [(iv p.1.1),(iv p.1.2.1),(iv p.1.2.2)]),(iv 2)] [] (.a [(iv (rV p.1 2).1),(iv (rV p.1 2).2.1),(iv (rV p.1 2).2.2)]) [],.call 93 [(.a [(iv p.2.1.1),(iv p.2.1.2.1),(iv p.2.1.2.2)]),(iv 2)] [] (.a [(iv (rV p.2.1 2).1),(iv (rV p.2.1 2).2.1),(iv (rV p.2.1 2).2.2)]) [],.call 93 [(.a [(iv p.2.2.1),(iv p.2.2.2.1),(iv p.2.2.2.2)]),(iv 2)] [] (.a [(iv (rV p.2.2 2).1),(iv (rV p.2.2 2).2.1),(iv (rV p.2.2 2).2.2)]) [],.call 125 [(.a [(iv p.1.1),(iv p.1.2.1),(iv p.1.2.2)]),(.a [(iv p.2.1.1),(iv p.2.1.2.1),(iv p.2.1.2.2)])] [] (.a [(iv (gL p.1 p.2.1).1),(iv (gL p.1 p.2.1).2.1),(iv (gL p.1 p.2.1).2.2)]) [],.call 125 [(.a [(iv p.2.1.1),(iv p.2.1.2.1),(iv p.2.1.2.2)]),(.a [(iv p.2.2.1),(iv p.2.2.2.1),(iv p.2.2.2.2)])] [] (.a [(iv (gL p.2.1 p.2.2).1),(iv (gL p.2.1 p.2.2).2.1),(iv (gL p.2.1 p.2.2).2.2)]) [],.call 125 [(.a [(iv p.2.2.1),(iv p.2.2.2.1),(iv p.2.2.2.2)]),(.a [(iv p.1.1),(iv p.1.2.1),(iv p.1.2.2)])] [] (.a [(iv (gL p.2.2 p.1).1),(iv (gL p.2.2 p.1).2.1),(iv (gL p.2.2 p.1).2.2)]) [],.eq true true,.pr (0≤(0:Int)∧(0:Int) < ((4:Nat):Int))]) (by kernel_rfl) ⟨hd,(C93 p.1 2),(C93 p.2.1 2),(C93 p.2.2 2),(aWn p.1 p.2.1),(aWn p.2.1 p.2.2),(aWn p.2.2 p.1),rfl,(show 0≤(0:Int)∧(0:Int) < ((4:Nat):Int) from by decide),trivial⟩ ?_
 refine pY (Jx:=Jx) hT hJ hB (m:=i+(aR d (q1 p)).length) hseg (OV.toList.take 4) oV (OV.toList.drop 5) uV (s1:=bDm l p (d+1:Nat)) (by kernel_rfl) (by kernel_rfl) 70 (by kernel_rfl) (bY (by kernel_rfl)) 2 hbase (by kernel_rfl) (by kernel_rfl)
   (fun ρ a W2 hrep hsafe hj2 K Q' hK=>aMi ih hrep hdl rfl rfl rfl rfl rfl (fun k hk b o n h=>(match k,hk,h with | 0,_,h=>hsafe 0 _ _ _ rfl b o n h | 1,_,h=>hsafe 1 _ _ _ rfl b o n h)) hj2 (fun j x hj=>hx1 j x hj) K Q' hK) (bDn l p (d+1:Nat)) (fun b=>by kernel_rfl) (fun b cx hbase h1 h2=>?_)
 cases b with
 | false =>
   exact qV (T:=T0) hT hm (f:=5000) (orc:=[.d true]) (b:=false) (obs:=[.eq (!false) true]) (by kernel_rfl) ⟨rfl,trivial⟩ (h2 rfl).own (fun W hW hWd=>lB (m':=i+(aR (d+1) p).length) hJ hX (fun h=>by cases h) h2 rfl W hW hWd)
 | true =>
   obtain⟨Sc,hseg⟩:=h1 rfl
   refine uP (T:=T0) hT hm (f:=5000) (orc:=[.d false,.un 0,.d true,.stop 8]) [] [1,3,14,60,61,62] [4] hbase (x:=.region 8 OV false) (k':=KV 3) (s':=zV2 l p (d+1:Nat))
     (obs:=[.eq (!true) false,.eq (decide ((1:Int) < 4)) true,.pr (0≤(1:Int)∧(1:Int) < ((4:Nat):Int))]) (by kernel_rfl) ⟨rfl,rfl,(show 0≤(1:Int)∧(1:Int) < ((4:Nat):Int) from by decide),trivial⟩ ?_
   refine pY (Jx:=Jx) hT hJ hB (m:=i+(aR d (q1 p)).length+(aR d (q2 p)).length) hseg (OV.toList.take 4) oV (OV.toList.drop 5) uV (s1:=bDo l p (d+1:Nat)) (by kernel_rfl) (by kernel_rfl) 70 (by kernel_rfl) (bY (by kernel_rfl)) 4 hbase (by kernel_rfl) (by kernel_rfl)
     (fun ρ a W2 hrep hsafe hj2 K Q' hK=>aMi ih hrep hdl rfl rfl rfl rfl rfl (fun k hk b o n h=>(match k,hk,h with | 0,_,h=>hsafe 0 _ _ _ rfl b o n h | 1,_,h=>hsafe 1 _ _ _ rfl b o n h)) hj2 (fun j x hj=>hx2 j x hj) K Q' hK) (bDp l p (d+1:Nat)) (fun b=>by kernel_rfl) (fun b cx hbase h1 h2=>?_)
   cases b with
   | false =>
     exact qV (T:=T0) hT hm (f:=5000) (orc:=[.d true]) (b:=false) (obs:=[.eq (!false) true]) (by kernel_rfl) ⟨rfl,trivial⟩ (h2 rfl).own (fun W hW hWd=>lB (m':=i+(aR (d+1) p).length) hJ hX (fun h=>by cases h) h2 rfl W hW hWd)
   | true =>
     obtain⟨Sc,hseg⟩:=h1 rfl
     refine uP (T:=T0) hT hm (f:=5000) (orc:=[.d false,.un 0,.d true,.stop 8]) [] [1,3,14,60,61,62] [5] hbase (x:=.region 8 OV false) (k':=KV 2) (s':=zV3 l p (d+1:Nat))
       (obs:=[.eq (!true) false,.eq (decide ((2:Int) < 4)) true,.pr (0≤(2:Int)∧(2:Int) < ((4:Nat):Int))]) (by kernel_rfl) ⟨rfl,rfl,(show 0≤(2:Int)∧(2:Int) < ((4:Nat):Int) from by decide),trivial⟩ ?_
     refine pY (Jx:=Jx) hT hJ hB (m:=i+(aR d (q1 p)).length+(aR d (q2 p)).length+(aR d (q3 p)).length) hseg (OV.toList.take 4) oV (OV.toList.drop 5) uV (s1:=bDq l p (d+1:Nat)) (by kernel_rfl) (by kernel_rfl) 70 (by kernel_rfl) (bY (by kernel_rfl)) 5 hbase (by kernel_rfl) (by kernel_rfl)
       (fun ρ a W2 hrep hsafe hj2 K Q' hK=>aMi ih hrep hdl rfl rfl rfl rfl rfl (fun k hk b o n h=>(match k,hk,h with | 0,_,h=>hsafe 0 _ _ _ rfl b o n h | 1,_,h=>hsafe 1 _ _ _ rfl b o n h)) hj2 (fun j x hj=>hx3 j x hj) K Q' hK) (bDr l p (d+1:Nat)) (fun b=>by kernel_rfl) (fun b cx hbase h1 h2=>?_)
     cases b with
     | false =>
       exact qV (T:=T0) hT hm (f:=5000) (orc:=[.d true]) (b:=false) (obs:=[.eq (!false) true]) (by kernel_rfl) ⟨rfl,trivial⟩ (h2 rfl).own (fun W hW hWd=>lB (m':=i+(aR (d+1) p).length) hJ hX (fun h=>by cases h) h2 rfl W hW hWd)
     | true =>
       obtain⟨Sc,hseg⟩:=h1 rfl
       refine uP (T:=T0) hT hm (f:=5000) (orc:=[.d false,.un 0,.d true,.stop 8]) [] [1,3,14,60,61,62] [6] hbase (x:=.region 8 OV false) (k':=KV 1) (s':=zV4 l p (d+1:Nat))
         (obs:=[.eq (!true) false,.eq (decide ((3:Int) < 4)) true,.pr (0≤(3:Int)∧(3:Int) < ((4:Nat):Int))]) (by kernel_rfl) ⟨rfl,rfl,(show 0≤(3:Int)∧(3:Int) < ((4:Nat):Int) from by decide),trivial⟩ ?_
       refine pY (Jx:=Jx) hT hJ hB (m:=i+(aR d (q1 p)).length+(aR d (q2 p)).length+(aR d (q3 p)).length+(aR d (q4 p)).length) hseg (OV.toList.take 4) oV (OV.toList.drop 5) uV (s1:=bDs l p (d+1:Nat)) (by kernel_rfl) (by kernel_rfl) 70 (by kernel_rfl) (bY (by kernel_rfl)) 6 hbase (by kernel_rfl) (by kernel_rfl)
         (fun ρ a W2 hrep hsafe hj2 K Q' hK=>aMi ih hrep hdl rfl rfl rfl rfl rfl (fun k hk b o n h=>(match k,hk,h with | 0,_,h=>hsafe 0 _ _ _ rfl b o n h | 1,_,h=>hsafe 1 _ _ _ rfl b o n h)) hj2 (fun j x hj=>hx4 j x hj) K Q' hK) (bDt l p (d+1:Nat)) (fun b=>by kernel_rfl) (fun b cx hbase h1 h2=>?_)
       cases b with
       | false =>
         exact qV (T:=T0) hT hm (f:=5000) (orc:=[.d true]) (b:=false) (obs:=[.eq (!false) true]) (by kernel_rfl) ⟨rfl,trivial⟩ (h2 rfl).own (fun W hW hWd=>lB (m':=i+(aR (d+1) p).length) hJ hX (fun h=>by cases h) h2 rfl W hW hWd)
       | true =>
         exact qV (T:=T0) hT hm (f:=5000) (orc:=[.d false,.un 0,.d false]) (b:=true) (obs:=[.eq (!true) false,.eq (decide ((4:Int) < 4)) false]) (by kernel_rfl) ⟨rfl,rfl,trivial⟩ (h1 rfl).choose_spec.own (fun W hW hWd=>lB hJ hX h1 h2 (by simp only [aR,List.length_append];omega) W hW hWd)
theorem aEe (hJ:wN J)(hX:aFd Jx)(hB:pX J)(hY:∀i x S W1,xs[i]? = some x→J i S W1→YieldAt (Fw none) 9 Tryz.prog l #[aDm x] W1 (YR J Jx i S W1)):∀d,d < 1000→uU l J Jx xs d
 | 0,_=>aWp hJ hX hB hY
 | d+1,h=>aWq hJ hX hB (by omega) (aEe hJ hX hB hY d (by omega))
end
noncomputable def O2:Array Oper:=match (fX [1,1,1] [] (Tryz.f123.body.getD .skip)).1 with
 | .region _ ops _=>ops
 | _=>#[]
noncomputable def o2:Oper:=O2.toList.getD 3 default
theorem aZu:o2.op=.call { callee:=.value (.tmp 6),args:=#[.tmp 7,.tmp 8],argTypes:=aJz o2 }:=by kernel_rfl
theorem aPl:O2.toList=O2.toList.take 3++[o2]:=by kernel_rfl
def z2 (l:Nat)(p:Zt×Zt×Zt)(d:Int):LS:=⟨[.u,.p 0 0,.p 1 0,.u,.p 3 0,.u,.u,.u,.u,.u],[.live false false (cP p),.live false false [iv d],.live true false [.v (yv l)],.live true false [.f 124 [.p 2 0,.p 3 0]]]⟩
def z21 (l:Nat)(p:Zt×Zt×Zt)(d:Int):LS:=⟨[.u,.p 0 0,.p 1 0,.u,.p 3 0,.u,.f 124 [.p 2 0,.p 3 0],.a (cP p),iv d,.u],[.live false false (cP p),.live false false [iv d],.live true false [.v (yv l)],.live true false [.f 124 [.p 2 0,.p 3 0]]]⟩
theorem aPm (p:Zt×Zt×Zt)(d:Nat)(hd:d < 1000):aTv Tryz.prog 123 [.p 0 0,.p 1 0] [.live false false (cP p),.live false false [iv (d:Nat)]] aDm (aR d p):=by
 refine⟨aWo,fun ρ Wd lb hcaps hbs hpl l J Jx S0 hJ hX hB hY h0=>?_⟩
 have hcon:Calls Tryz.prog 123 ((Value.func (.yield l) #[] #[])::lb).toArray Wd fun e Wd'=>(∃v,e=.returned v)∧∃S',(J (aR d p).length S' Wd'∨Jx S' Wd')∧Kept Wd S0 Wd':=by
   refine mQ (n:=9) (args:=[.v (yv l),.p 0 0,.p 1 0]) (bs:=[.live false false (cP p),.live false false [iv (d:Nat)]]) Tryz.func123 rfl (by show 3≤Tryz.f123.ntmps;decide) (by kernel_rfl) ⟨rfl,rfl,trivial⟩ (by kernel_rfl) (fun i=>by rcases i with _ | _ | i<;>simp [BK.own]) (by kernel_rfl) ⟨rfl,hcaps⟩ hbs hpl (fun cx hbase hw hρ hfz hown=>?_)
   subst hw
   refine uP (T:=T0) hT hm (f:=5000) (orc:=[.stop 3]) [] [1,2,4] [2,3] hbase (x:=.region 3 O2 false) (k':=[]) (s':=z2 l p d)
     (obs:=[]) (by kernel_rfl) trivial ?_
   intro ρ a Wd hrep
   simp only [eE]
   refine wpIn_region ?_
   have hsz:O2.size=(O2.toList.take 3).length+(0+1):=by kernel_rfl
   have hget:∀j,O2[j]? = (O2.toList.take 3++[o2])[j]? := fun j=>by rw [←aPl,Array.getElem?_toList]
   rw [hsz,yM]
   refine zX hT (O2.toList.take 3) 0 (z2 l p d) (z21 l p d) [] [] _ [] (uR (T:=T0) (obs:=[]) (by kernel_rfl)).choose_spec trivial (fun j o' hj=>?_) ρ a Wd hrep (fun ρ1 a1 W1 hrep1 hl1=>?_)
   · rw [hget,Nat.zero_add,List.getElem?_append_left (List.getElem?_eq_some_iff.1 hj).1];exact hj
   rw [wpOpsIn_cons]
   unfold wpOpIn
   have ho:O2[(O2.toList.take 3).length]? = some o2:=by rw [hget,List.getElem?_append_right (Nat.le_refl _)];simp
   rw [ho]
   have hw:Region.wanted o2 (yielded O2 a1.tmps)=true:=by
     have hg:o2.guard=none:=by kernel_rfl
     unfold Region.wanted;rw [hg]
   simp only [hw,if_true]
   have hbel:Below cx.w.heap.size cx.w W1:=by
     have:=hrep1.kept
     exact⟨this.os,this.tape,this.output,this.size,fun k hk=>this.block k hk (hown k)⟩
   have r1:=hrep1.sl 6
   have r2:=hrep1.sl 7
   have r3:=hrep1.sl 8
   have r1':Rel ρ1 (.f 124 [.p 2 0,.p 3 0]) (a1.tmps.getD 6 undef):=r1
   have r2':Rel ρ1 (.a (cP p)) (a1.tmps.getD 7 undef):=r2
   have r3':Rel ρ1 (iv (d:Nat)) (a1.tmps.getD 8 undef):=r3
   simp only [Rel] at r1'
   obtain⟨vs,hv,hc⟩:=r1'
   have own2:∀b,cx.mine b→cx.w.heap.size≤b:=fun b hb=>hb.elim id (fun h=>(hown b h).elim)
   have b2:=(uJ (ks:=[2,3]) (i:=0) (m:=false) (x:=.live true false [.v (yv l)]) (y:=.live false false [.v (yv l)]) (M':=fun b=>W1.heap.size≤b) rfl rfl trivial (hrep1.bk 2) (fun _ h=>by cases h) (fun _ b hlt _ hM=>absurd hM (Nat.not_le_of_lt hlt))).1
   have b3:=(uJ (ks:=[2,3]) (i:=1) (m:=false) (x:=.live true false [.f 124 [.p 2 0,.p 3 0]]) (y:=.live false false [.f 124 [.p 0 0,.p 1 0]]) (M':=fun b=>W1.heap.size≤b) rfl rfl trivial (hrep1.bk 3) (fun _ h=>by cases h) (fun _ b hlt _ hM=>absurd hM (Nat.not_le_of_lt hlt))).1
   have hS2:∀k,k < 2→∀b o n,fM ρ1 [2,3] k=some (b,o,n)→¬S0 b:=fun k hk b o n h hSb=>by
     have hlt:=hB _ _ _ h0 b hSb
     have own:∀j,(z21 l p d).fs.bk j≠.un→((z21 l p d).fs.bk j).own→ρ1 j=some (b,o,n)→False:=fun j _ hj hρ=>by
       have hb:=hrep1.bk j
       cases hx:(z21 l p d).fs.bk j with
       | un=>rw [hx] at hj;exact hj
       | dead=>rw [hx] at hj;exact hj
       | map es =>
         rw [hx] at hb
         obtain⟨b',n',arr,q1,q2,_⟩:=hb
         rw [hρ] at q1;cases q1
         have:=own2 b q2;omega
       | live ow sy cs=>cases ow with
         | false=>rw [hx] at hj;exact hj
         | true =>
           rw [hx] at hb
           rcases hb with⟨q,_⟩ | ⟨b',vs,rest,ty,q1,q2,_⟩
           · rw [hρ] at q;cases q
           · rw [hρ] at q1;cases q1
             have:=own2 b q2;omega
     match k,hk with
     | 0,_=>exact own 2 (by simp [z21,LS.fs]) (by trivial) h
     | 1,_=>exact own 3 (by simp [z21,LS.fs]) (by trivial) h
   refine aMe aZu (g:=124) (caps:=vs) hv aPk ((aEe (l:=l) hJ hX hB hY d hd) p 0 S0 W1 (fM ρ1 [2,3]) (a1.tmps.getD 7 undef::a1.tmps.getD 8 undef::vs) ?_ b2 b3 hS2 (hJ _ _ _ _ h0 hbel hrep1.kept.drawn) (fun j x hj=>by rw [Nat.zero_add];exact hj)) (fun e Wd' hR=>?_)
   · exact qW (uI (ks:=[2,3]) (.a (cP p)) (.a (cP p)) _ rfl r2') (qW (uI (ks:=[2,3]) (iv (d:Nat)) (iv (d:Nat)) _ rfl r3') (renL_rel (ks:=[2,3]) [.p 2 0,.p 3 0] [.p 0 0,.p 1 0] vs rfl hc))
   · have fin:∀v:Bool,e=.returned (.bool v)→(∃S',(J (aR d p).length S' Wd'∨Jx S' Wd')∧Kept W1 S0 Wd')→∃v,e=.returned v∧wpOpsIn (Fw none) 9 Tryz.prog O2 (eE none 9 Tryz.prog (bodyPost Tryz.prog Tryz.f123 (fun e Wd'=>(∃v,e=.returned v)∧∃S',(J (aR d p).length S' Wd'∨Jx S' Wd')∧Kept cx.w S0 Wd')) []) (List.range' ((O2.toList.take 3).length+1) 0) (a1.put o2.dst v) Wd':=fun v he ⟨S',hj',hk'⟩=>by
       refine⟨_,he,?_⟩
       simp only [List.range'_zero,wpOpsIn,eE]
       refine⟨?_,_,aIf (by kernel_rfl),⟨_,rfl⟩,S',hj',?_⟩
       · exact hrep1.defs
       · exact(Kept.of_below S0 hbel hrep1.kept.drawn).trans hk' (fun b hb _=>hb)
     rcases hR with⟨he,S',hj',hk',_⟩ | ⟨he,S',hj',hk'⟩
     · exact fin true he ⟨S',.inl (by rwa [Nat.zero_add] at hj'),hk'⟩
     · exact fin false he ⟨S',.inr hj',hk'⟩
 have e:((Value.func (.yield l) #[] #[])::lb).toArray=#[.func (.yield l) #[] #[]]++lb.toArray:=by apply Array.ext';simp
 rw [←e];exact hcon
theorem aEf (p:Zt×Zt×Zt)(d:Int)(h:0≤d∧d≤3):aTv Tryz.prog 123 [.p 0 0,.p 1 0] [.live false false (cP p),.live false false [iv d]] aDm (aR (toNat d) p):=by
 have:=aPm p d.toNat (by omega)
 rwa [Int.toNat_of_nonneg h.1] at this
theorem aWr {p:Zt×Zt×Zt} {d:Int} (h:0≤d∧d≤3) {i:Nat} {x:Zt×Zt×Zt} (hx:(aR (toNat d) p)[i]? = some x):i < 64:=by
 have hl:=(List.getElem?_eq_some_iff.1 hx).1
 rw [yN] at hl
 have:toNat d≤3:=by omega
 have:4 ^ toNat d≤4 ^ 3:=Nat.pow_le_pow_right (by omega) this
 omega
end Go.Proofs.YtaeagjnpobdglaaGreat
namespace Go.Proofs.YtaeagjnpobdglaaGreat
open Go.Proofs Go.Aw Go.RowKit
set_option maxRecDepth 100000
def qB (a0:Int)(a1:Int)(a2:Int):Bool :=
 (bif (decide ((a1:Int)≤a0)) then
  (decide ((a0:Int)≤a2))
 else
  false)
theorem C43 (a0:Int)(a1:Int)(a2:Int):Con Tryz.prog 43 [(iv a0),(iv a1),(iv a2)] [] (.v (.bool (qB a0 a1 a2))) []:=by
 refine aK Tryz.func43 (by kernel_rfl) fun cx hcx=>?_
 cases h0:(decide ((a1:Int)≤a0)) with
 | true =>
  have q0:=bY h0
  have e:=Eq.refl (qB a0 a1 a2);conv at e=>rhs;simp only [qB,h0,aI]
  rw [e]
  exact rt [.d h0] [] [] hcx (by kernel_rfl)
 | false =>
  have q0:=cG h0
  have e:=Eq.refl (qB a0 a1 a2);conv at e=>rhs;simp only [qB,h0,aI]
  rw [e]
  exact rt [.d h0] [] [] hcx (by kernel_rfl)
def F36 (a0:Zt)(a1:Int):Bool :=
 (bif (qB a0.1 (W (0 - a1)) a1) then
  (bif (qB a0.2.1 (W (0 - a1)) a1) then
   (qB a0.2.2 (W (0 - a1)) a1)
  else
   false)
 else
  false)
theorem C36 (a0:Zt)(a1:Int):Con Tryz.prog 36 [(.a (k3 a0)),(iv a1)] [] (.v (.bool (F36 a0 a1))) []:=by
 refine aK Tryz.func36 (by kernel_rfl) fun cx hcx=>?_
 let t0:List (St Tryz.prog):=[.c [] (C43 a0.1 (W (0 - a1)) a1)]
 cases h0:(qB a0.1 (W (0 - a1)) a1) with
 | true =>
  let t1:List (St Tryz.prog):=(t0++[.d h0,.c [] (C43 a0.2.1 (W (0 - a1)) a1)])
  cases h1:(qB a0.2.1 (W (0 - a1)) a1) with
  | true =>
   have e:=Eq.refl (F36 a0 a1);conv at e=>rhs;simp only [F36,h0,h1,aI]
   rw [e]
   exact rt (t1++[.d h1,.c [] (C43 a0.2.2 (W (0 - a1)) a1)]) [] [] hcx (by kernel_rfl)
  | false =>
   have e:=Eq.refl (F36 a0 a1);conv at e=>rhs;simp only [F36,h0,h1,aI]
   rw [e]
   exact rt (t1++[.d h1]) [] [] hcx (by kernel_rfl)
 | false =>
  have e:=Eq.refl (F36 a0 a1);conv at e=>rhs;simp only [F36,h0,aI]
  rw [e]
  exact rt (t0++[.d h0]) [] [] hcx (by kernel_rfl)
def F39 (a0:Zt)(a1:Int)(a2:Zt):Zt :=
 ((W (a0.1+(W (a1*a2.1)))),(W (a0.2.1+(W (a1*a2.2.1)))),(W (a0.2.2+(W (a1*a2.2.2)))))
theorem C39 (a0:Zt)(a1:Int)(a2:Zt):Con Tryz.prog 39 [(.a (k3 a0)),(iv a1),(.a (k3 a2))] [] (.a (k3 (F39 a0 a1 a2))) []:=by
 refine aK Tryz.func39 (by kernel_rfl) fun cx hcx=>?_
 have e:=Eq.refl (F39 a0 a1 a2);conv at e=>rhs;simp only [F39]
 rw [e]
 exact rt [] [] [] hcx (by kernel_rfl)
def aBk (a0:Zt)(a1:Zt):Zt :=
 (F39 a0 (-1) a1)
theorem aZv (a0:Zt)(a1:Zt):Con Tryz.prog 131 [(.a (k3 a0)),(.a (k3 a1))] [] (.a (k3 (aBk a0 a1))) []:=by
 refine aK Tryz.func131 (by kernel_rfl) fun cx hcx=>?_
 have e:=Eq.refl (aBk a0 a1);conv at e=>rhs;simp only [aBk]
 rw [e]
 exact rt [.c [] (C39 a0 (-1) a1)] [] [] hcx (by kernel_rfl)
def aJ0 (a0:Zt)(a1:Zt):Zt :=
 ((W ((W (a0.2.1*a1.2.2)) - (W (a0.2.2*a1.2.1)))),(W ((W (a0.2.2*a1.1)) - (W (a0.1*a1.2.2)))),(W ((W (a0.1*a1.2.1)) - (W (a0.2.1*a1.1)))))
theorem aZw (a0:Zt)(a1:Zt):Con Tryz.prog 130 [(.a (k3 a0)),(.a (k3 a1))] [] (.a (k3 (aJ0 a0 a1))) []:=by
 refine aK Tryz.func130 (by kernel_rfl) fun cx hcx=>?_
 have e:=Eq.refl (aJ0 a0 a1);conv at e=>rhs;simp only [aJ0]
 rw [e]
 exact rt [] [] [] hcx (by kernel_rfl)
def nL (a0:Zt×Zt×Zt):Zt :=
 (aJ0 (aBk a0.2.1 a0.1) (aBk a0.2.2 a0.1))
theorem aZx (a0:Zt×Zt×Zt):Con Tryz.prog 100 [(.a (k9 a0))] [] (.a (k3 (nL a0))) []:=by
 refine aK Tryz.func100 (by kernel_rfl) fun cx hcx=>?_
 have e:=Eq.refl (nL a0);conv at e=>rhs;simp only [nL]
 rw [e]
 exact rt [.c [] (aZv a0.2.1 a0.1),.c [] (aZv a0.2.2 a0.1),.c [] (aZw (aBk a0.2.1 a0.1) (aBk a0.2.2 a0.1))] [] [] hcx (by kernel_rfl)
def lP (a0:Zt×Zt×Zt):Int :=
 (bif (!(F36 a0.1 64)) then
  1
 else
  (bif (!(F36 a0.2.1 64)) then
   1
  else
   (bif (!(F36 a0.2.2 64)) then
    1
   else
    (bif ((((nL a0).1:Int) == 0)&&((((nL a0).2.1:Int) == 0)&&((((nL a0).2.2:Int) == 0)&&true))) then
     6
    else
     0))))
theorem aZy (a0:Zt×Zt×Zt):Con Tryz.prog 115 [(.a (k9 a0))] [] (iv (lP a0)) []:=by
 refine aK Tryz.func115 (by kernel_rfl) fun cx hcx=>?_
 let t0:List (St Tryz.prog):=[.c [] (C36 a0.1 64)]
 cases h0:(!(F36 a0.1 64)) with
 | true =>
  have e:=Eq.refl (lP a0);conv at e=>rhs;simp only [lP,h0,aI]
  rw [e]
  exact rt (t0++[.d h0]) [] [] hcx (by kernel_rfl)
 | false =>
  let t1:List (St Tryz.prog):=(t0++[.d h0,.c [] (C36 a0.2.1 64)])
  cases h1:(!(F36 a0.2.1 64)) with
  | true =>
   have e:=Eq.refl (lP a0);conv at e=>rhs;simp only [lP,h0,h1,aI]
   rw [e]
   exact rt (t1++[.d h1]) [] [] hcx (by kernel_rfl)
  | false =>
   let t2:List (St Tryz.prog):=(t1++[.d h1,.c [] (C36 a0.2.2 64)])
   cases h2:(!(F36 a0.2.2 64)) with
   | true =>
    have e:=Eq.refl (lP a0);conv at e=>rhs;simp only [lP,h0,h1,h2,aI]
    rw [e]
    exact rt (t2++[.d h2]) [] [] hcx (by kernel_rfl)
   | false =>
    let t3:List (St Tryz.prog):=(t2++[.d h2,.c [] (aZx a0)])
    cases h3:((((nL a0).1:Int) == 0)&&((((nL a0).2.1:Int) == 0)&&((((nL a0).2.2:Int) == 0)&&true))) with
    | true =>
     have e:=Eq.refl (lP a0);conv at e=>rhs;simp only [lP,h0,h1,h2,h3,aI]
     rw [e]
     exact rt (t3++[.d h3]) [] [] hcx (by kernel_rfl)
    | false =>
     have e:=Eq.refl (lP a0);conv at e=>rhs;simp only [lP,h0,h1,h2,h3,aI]
     rw [e]
     exact rt (t3++[.d h3]) [] [] hcx (by kernel_rfl)
def aFk (a0:Int)(a1:Int)(a2:Int):Bool :=
 (bif (decide ((a0:Int)≥a1)) then
  (decide ((a0:Int)≤a2))
 else
  false)
theorem bDu (a0:Int)(a1:Int)(a2:Int):Con Tryz.prog 116 [(iv a0),(iv a1),(iv a2)] [] (.v (.bool (aFk a0 a1 a2))) []:=by
 refine aK Tryz.func116 (by kernel_rfl) fun cx hcx=>?_
 cases h0:(decide ((a0:Int)≥a1)) with
 | true =>
  have q0:=bY h0
  have e:=Eq.refl (aFk a0 a1 a2);conv at e=>rhs;simp only [aFk,h0,aI]
  rw [e]
  exact rt [.d h0] [] [] hcx (by kernel_rfl)
 | false =>
  have q0:=cG h0
  have e:=Eq.refl (aFk a0 a1 a2);conv at e=>rhs;simp only [aFk,h0,aI]
  rw [e]
  exact rt [.d h0] [] [] hcx (by kernel_rfl)
def wO (a0:Zt×Zt×Zt)(a1:Zt×Zt×Zt)(a2:Int):Int :=
 (bif (((lP a0):Int) != 0) then
  (lP a0)
 else
  (bif (((lP a1):Int) != 0) then
   (lP a1)
  else
   (bif (!(aFk a2 0 2)) then
    1
   else
    0)))
theorem C91 (a0:Zt×Zt×Zt)(a1:Zt×Zt×Zt)(a2:Int):Con Tryz.prog 91 [(.a (k9 a0)),(.a (k9 a1)),(iv a2)] [] (iv (wO a0 a1 a2)) []:=by
 refine aK Tryz.func91 (by kernel_rfl) fun cx hcx=>?_
 let t0:List (St Tryz.prog):=[.c [] (aZy a0)]
 cases h0:(((lP a0):Int) != 0) with
 | true =>
  have q0:=bne_iff_ne.1 h0
  have e:=Eq.refl (wO a0 a1 a2);conv at e=>rhs;simp only [wO,h0,aI]
  rw [e]
  exact rt (t0++[.d h0]) [] [] hcx (by kernel_rfl)
 | false =>
  have q0:=bne_eq_false_iff_eq.1 h0
  let t1:List (St Tryz.prog):=(t0++[.d h0,.c [] (aZy a1)])
  cases h1:(((lP a1):Int) != 0) with
  | true =>
   have q1:=bne_iff_ne.1 h1
   have e:=Eq.refl (wO a0 a1 a2);conv at e=>rhs;simp only [wO,h0,h1,aI]
   rw [e]
   exact rt (t1++[.d h1]) [] [] hcx (by kernel_rfl)
  | false =>
   have q1:=bne_eq_false_iff_eq.1 h1
   let t2:List (St Tryz.prog):=(t1++[.d h1,.c [] (bDu a2 0 2)])
   cases h2:(!(aFk a2 0 2)) with
   | true =>
    have e:=Eq.refl (wO a0 a1 a2);conv at e=>rhs;simp only [wO,h0,h1,h2,aI]
    rw [e]
    exact rt (t2++[.d h2]) [] [] hcx (by kernel_rfl)
   | false =>
    have e:=Eq.refl (wO a0 a1 a2);conv at e=>rhs;simp only [wO,h0,h1,h2,aI]
    rw [e]
    exact rt (t2++[.d h2]) [] [] hcx (by kernel_rfl)
noncomputable def aFl:Code:=(aE [1,1,0,1] [] (aH Tryz.f145) []).1
noncomputable def aFm:List K:=(aE [1,1,0,1] [] (aH Tryz.f145) []).2
def zZ (a0:Int)(v1 v2:Int):LS:=⟨iJ 22 [(0,(iv a0)),(3,(iv v1)),(4,(iv v2))],[]⟩
def mT (a0:Int):Int×Int→(Int×Int)⊕(Int)
 | (v1,v2) =>
  (bif (decide ((v2:Int) > 0)) then
   (bif (decide (((W ((W (v1+v2))*(W (v1+v2)))):Int)≤a0)) then
    (.inl ((W (v1+v2)),(v2 / 2)))
   else
    (.inl (v1,(v2 / 2))))
  else
   (.inr v1))
theorem aWs (a0:Int) {cx:Cx} (hcx:cx.base=0):∀(n:Nat)(v1 v2:Int),True→toNat v2 < n→Aw.Good Tryz.prog none 9 (bodyPost Tryz.prog Tryz.f145 (RR cx (iv (aB (mT a0) n (v1,v2))) [] [])) cx [] (.l aFl n::aFm) (zZ a0 v1 v2):=by
 intro n
 induction n with
 | zero=>intro v1 v2 hi hn;exact absurd hn (iF _)
 | succ n ih =>
   intro v1 v2 hi hn
   refine aG ?_
   cases h0:(decide ((v2:Int) > 0)) with
   | true =>
    have q0:=bY h0
    let t1:List (St Tryz.prog):=[.d h0]
    cases h1:(decide (((W ((W (v1+v2))*(W (v1+v2)))):Int)≤a0)) with
    | true =>
     have q1:=bY h1
     have e:=Eq.refl (mT a0 (v1,v2));conv at e=>rhs;simp only [mT,h0,h1,aI]
     rw [aA e]
     refine ba (t1++[.d h1,.p (show 0≤(1:Int) from by decide)]) [] [0,3,4] [] hcx (m:=n) aFl (aFm) (zZ a0 (W (v1+v2)) (Int.fdiv v2 (2 ^ (min (toNat 1) 64)))) (by kernel_rfl) ?_
     have z0:(Int.fdiv v2 (2 ^ (min (toNat 1) 64)))=(v2 / 2):=aFg _ 1 (by decide)
     rw [z0]
     exact ih (W (v1+v2)) (v2 / 2) trivial (by(try simp only [Ls]);omega)
    | false =>
     have q1:=cG h1
     have e:=Eq.refl (mT a0 (v1,v2));conv at e=>rhs;simp only [mT,h0,h1,aI]
     rw [aA e]
     refine ba (t1++[.d h1,.p (show 0≤(1:Int) from by decide)]) [] [0,3,4] [] hcx (m:=n) aFl (aFm) (zZ a0 v1 (Int.fdiv v2 (2 ^ (min (toNat 1) 64)))) (by kernel_rfl) ?_
     have z0:(Int.fdiv v2 (2 ^ (min (toNat 1) 64)))=(v2 / 2):=aFg _ 1 (by decide)
     rw [z0]
     exact ih v1 (v2 / 2) trivial (by(try simp only [Ls]);omega)
   | false =>
    have q0:=cG h0
    have e:=Eq.refl (mT a0 (v1,v2));conv at e=>rhs;simp only [mT,h0,aI]
    rw [aF,e]
    exact rt [.d h0] [] [] hcx (by kernel_rfl)
def kT (a0:Int):Int :=
 (aB (mT a0) (toNat 1073741824+1) (0,1073741824))
theorem aZz (a0:Int):Con Tryz.prog 145 [(iv a0)] [] (iv (kT a0)) []:=by
 refine aK Tryz.func145 (by kernel_rfl) fun cx hcx=>?_
 have e:=Eq.refl (kT a0);conv at e=>rhs;simp only [kT]
 rw [e]
 refine en [] [] [0,3,4] [] hcx aFl (aFm) (zZ a0 0 1073741824) (toNat 1073741824+1) (by kernel_rfl) ?_
 exact aWs a0 hcx (toNat 1073741824+1) 0 1073741824 trivial (by(try simp only [Ls]);omega)
def aBl (a0:(Int)×(Int)×(Int)):Int :=
 (W ((W ((W (0+a0.1))+a0.2.1))+a0.2.2))
theorem aWt (a0:(Int)×(Int)×(Int)):Con Tryz.prog 159 [(.s 0 0 3 1)] [(.live false false (k3 a0))] (iv (aBl a0)) []:=by
 refine aK Tryz.func159 (by kernel_rfl) fun cx hcx=>?_
 have e:=Eq.refl (aBl a0);conv at e=>rhs;simp only [aBl]
 rw [e]
 exact rt [.u 200,.T,.i 0 3 (by decide),.u 0,.T,.i 1 3 (by decide),.u 0,.T,.i 2 3 (by decide),.u 0,.F] [] [] hcx (by kernel_rfl)
def jJ (a0:Zt)(a1:Zt):Int :=
 (aBl ((W (a0.1*a1.1)),(W (a0.2.1*a1.2.1)),(W (a0.2.2*a1.2.2))))
theorem aWu (a0:Zt)(a1:Zt):Con Tryz.prog 146 [(.a (k3 a0)),(.a (k3 a1))] [] (iv (jJ a0 a1)) []:=by
 refine aK Tryz.func146 (by kernel_rfl) fun cx hcx=>?_
 have e:=Eq.refl (jJ a0 a1);conv at e=>rhs;simp only [jJ]
 rw [e]
 exact rt [.c [2] (aWt ((W (a0.1*a1.1)),(W (a0.2.1*a1.2.1)),(W (a0.2.2*a1.2.2))))] [] [] hcx (by kernel_rfl)
def bI (a0:Zt)(a1:Zt):Zt :=
 ((W (a0.1 - a1.1)),(W (a0.2.1 - a1.2.1)),(W (a0.2.2 - a1.2.2)))
theorem aWv (a0:Zt)(a1:Zt):Con Tryz.prog 144 [(.a (k3 a0)),(.a (k3 a1))] [] (.a (k3 (bI a0 a1))) []:=by
 refine aK Tryz.func144 (by kernel_rfl) fun cx hcx=>?_
 have e:=Eq.refl (bI a0 a1);conv at e=>rhs;simp only [bI]
 rw [e]
 exact rt [] [] [] hcx (by kernel_rfl)
def gG (a0:Zt)(a1:Zt):Zt :=
 ((W ((W (a0.2.1*a1.2.2)) - (W (a0.2.2*a1.2.1)))),(W ((W (a0.2.2*a1.1)) - (W (a0.1*a1.2.2)))),(W ((W (a0.1*a1.2.1)) - (W (a0.2.1*a1.1)))))
theorem bDv (a0:Zt)(a1:Zt):Con Tryz.prog 143 [(.a (k3 a0)),(.a (k3 a1))] [] (.a (k3 (gG a0 a1))) []:=by
 refine aK Tryz.func143 (by kernel_rfl) fun cx hcx=>?_
 have e:=Eq.refl (gG a0 a1);conv at e=>rhs;simp only [gG]
 rw [e]
 exact rt [] [] [] hcx (by kernel_rfl)
def aP (a0:Zt×Zt×Zt):Zt×Zt :=
 (((if(a0.2.2.1:Int) < (if(a0.2.1.1:Int) < (if(a0.1.1:Int) < a0.1.1 then a0.1.1 else a0.1.1) then a0.2.1.1 else(if(a0.1.1:Int) < a0.1.1 then a0.1.1 else a0.1.1)) then a0.2.2.1 else(if(a0.2.1.1:Int) < (if(a0.1.1:Int) < a0.1.1 then a0.1.1 else a0.1.1) then a0.2.1.1 else(if(a0.1.1:Int) < a0.1.1 then a0.1.1 else a0.1.1))),(if(a0.2.2.2.1:Int) < (if(a0.2.1.2.1:Int) < (if(a0.1.2.1:Int) < a0.1.2.1 then a0.1.2.1 else a0.1.2.1) then a0.2.1.2.1 else(if(a0.1.2.1:Int) < a0.1.2.1 then a0.1.2.1 else a0.1.2.1)) then a0.2.2.2.1 else(if(a0.2.1.2.1:Int) < (if(a0.1.2.1:Int) < a0.1.2.1 then a0.1.2.1 else a0.1.2.1) then a0.2.1.2.1 else(if(a0.1.2.1:Int) < a0.1.2.1 then a0.1.2.1 else a0.1.2.1))),(if(a0.2.2.2.2:Int) < (if(a0.2.1.2.2:Int) < (if(a0.1.2.2:Int) < a0.1.2.2 then a0.1.2.2 else a0.1.2.2) then a0.2.1.2.2 else(if(a0.1.2.2:Int) < a0.1.2.2 then a0.1.2.2 else a0.1.2.2)) then a0.2.2.2.2 else(if(a0.2.1.2.2:Int) < (if(a0.1.2.2:Int) < a0.1.2.2 then a0.1.2.2 else a0.1.2.2) then a0.2.1.2.2 else(if(a0.1.2.2:Int) < a0.1.2.2 then a0.1.2.2 else a0.1.2.2)))),((if((if((if(a0.1.1:Int) < a0.1.1 then a0.1.1 else a0.1.1):Int) < a0.2.1.1 then a0.2.1.1 else(if(a0.1.1:Int) < a0.1.1 then a0.1.1 else a0.1.1)):Int) < a0.2.2.1 then a0.2.2.1 else(if((if(a0.1.1:Int) < a0.1.1 then a0.1.1 else a0.1.1):Int) < a0.2.1.1 then a0.2.1.1 else(if(a0.1.1:Int) < a0.1.1 then a0.1.1 else a0.1.1))),(if((if((if(a0.1.2.1:Int) < a0.1.2.1 then a0.1.2.1 else a0.1.2.1):Int) < a0.2.1.2.1 then a0.2.1.2.1 else(if(a0.1.2.1:Int) < a0.1.2.1 then a0.1.2.1 else a0.1.2.1)):Int) < a0.2.2.2.1 then a0.2.2.2.1 else(if((if(a0.1.2.1:Int) < a0.1.2.1 then a0.1.2.1 else a0.1.2.1):Int) < a0.2.1.2.1 then a0.2.1.2.1 else(if(a0.1.2.1:Int) < a0.1.2.1 then a0.1.2.1 else a0.1.2.1))),(if((if((if(a0.1.2.2:Int) < a0.1.2.2 then a0.1.2.2 else a0.1.2.2):Int) < a0.2.1.2.2 then a0.2.1.2.2 else(if(a0.1.2.2:Int) < a0.1.2.2 then a0.1.2.2 else a0.1.2.2)):Int) < a0.2.2.2.2 then a0.2.2.2.2 else(if((if(a0.1.2.2:Int) < a0.1.2.2 then a0.1.2.2 else a0.1.2.2):Int) < a0.2.1.2.2 then a0.2.1.2.2 else(if(a0.1.2.2:Int) < a0.1.2.2 then a0.1.2.2 else a0.1.2.2)))))
theorem aPn (a0:Zt×Zt×Zt):Con Tryz.prog 148 [(.s 0 0 3 3)] [(.live false false (k9 a0))] (.t [(.a (k3 (aP a0).1)),(.a (k3 (aP a0).2))]) []:=by
 refine aK Tryz.func148 (by kernel_rfl) fun cx hcx=>?_
 have e:=Eq.refl (aP a0);conv at e=>rhs;simp only [aP]
 rw [e]
 exact rt [.i 0 3 (by decide),.i 0 3 (by decide),.u 200,.T,.i 0 3 (by decide),.u 0,.T,.i 1 3 (by decide),.u 0,.T,.i 2 3 (by decide),.u 0,.F] [] [] hcx (by kernel_rfl)
def lQ (a0:Int)(a1:Int)(a2:Int)(a3:Int):Int :=
 (if((if(0:Int) < (W (a2 - a1)) then(W (a2 - a1)) else 0):Int) < (W (a0 - a3)) then(W (a0 - a3)) else(if(0:Int) < (W (a2 - a1)) then(W (a2 - a1)) else 0))
theorem aWw (a0:Int)(a1:Int)(a2:Int)(a3:Int):Con Tryz.prog 149 [(iv a0),(iv a1),(iv a2),(iv a3)] [] (iv (lQ a0 a1 a2 a3)) []:=by
 refine aK Tryz.func149 (by kernel_rfl) fun cx hcx=>?_
 have e:=Eq.refl (lQ a0 a1 a2 a3);conv at e=>rhs;simp only [lQ]
 rw [e]
 exact rt [] [] [] hcx (by kernel_rfl)
def bJ (a0:Zt×Zt×Zt)(a1:Zt×Zt×Zt):Int :=
 (jJ ((lQ (aP a0).1.1 (aP a0).2.1 (aP a1).1.1 (aP a1).2.1),(lQ (aP a0).1.2.1 (aP a0).2.2.1 (aP a1).1.2.1 (aP a1).2.2.1),(lQ (aP a0).1.2.2 (aP a0).2.2.2 (aP a1).1.2.2 (aP a1).2.2.2)) ((lQ (aP a0).1.1 (aP a0).2.1 (aP a1).1.1 (aP a1).2.1),(lQ (aP a0).1.2.1 (aP a0).2.2.1 (aP a1).1.2.1 (aP a1).2.2.1),(lQ (aP a0).1.2.2 (aP a0).2.2.2 (aP a1).1.2.2 (aP a1).2.2.2)))
theorem aIh (a0:Zt×Zt×Zt)(a1:Zt×Zt×Zt):Con Tryz.prog 121 [(.s 0 0 3 3),(.s 1 0 3 3)] [(.live false false (k9 a0)),(.live false false (k9 a1))] (iv (bJ a0 a1)) []:=by
 refine aK Tryz.func121 (by kernel_rfl) fun cx hcx=>?_
 have e:=Eq.refl (bJ a0 a1);conv at e=>rhs;simp only [bJ]
 rw [e]
 exact rt [.c [0] (aPn a0),.c [1] (aPn a1),.c [] (aWw (aP a0).1.1 (aP a0).2.1 (aP a1).1.1 (aP a1).2.1),.c [] (aWw (aP a0).1.2.1 (aP a0).2.2.1 (aP a1).1.2.1 (aP a1).2.2.1),.c [] (aWw (aP a0).1.2.2 (aP a0).2.2.2 (aP a1).1.2.2 (aP a1).2.2.2),.c [] (aWu ((lQ (aP a0).1.1 (aP a0).2.1 (aP a1).1.1 (aP a1).2.1),(lQ (aP a0).1.2.1 (aP a0).2.2.1 (aP a1).1.2.1 (aP a1).2.2.1),(lQ (aP a0).1.2.2 (aP a0).2.2.2 (aP a1).1.2.2 (aP a1).2.2.2)) ((lQ (aP a0).1.1 (aP a0).2.1 (aP a1).1.1 (aP a1).2.1),(lQ (aP a0).1.2.1 (aP a0).2.2.1 (aP a1).1.2.1 (aP a1).2.2.1),(lQ (aP a0).1.2.2 (aP a0).2.2.2 (aP a1).1.2.2 (aP a1).2.2.2)))] [] [] hcx (by kernel_rfl)
def dU (x:Zt):List SV:=[(iv x.1),(iv x.2.1),(iv x.2.2)]
theorem bL (x:Zt):(dU x).length=3:=rfl
noncomputable def tC:Code:=(aE [1,1,0,1,0,1,1,0,1,1] [0] (aH Tryz.f120) []).1
noncomputable def tD (m0:Nat):List K:=(aE [1,1,0,1,0,1,1,0,1,1] [m0] (aH Tryz.f120) []).2
def qC (a0:List Zt)(a1:List Zt)(v5 v6 v7 v8 v9 v10:Int):LS:=⟨iJ 34 [(1,(.s 1 0 a1.length 3)),(5,(iv v5)),(7,(.p 2 0)),(11,(.s 0 0 a0.length 3)),(12,(iv (a0.length:Int))),(13,(iv v6)),(17,(.s 1 0 a1.length 3)),(18,(iv (a1.length:Int))),(19,(iv v7))],[(.live false true (flat dU a0)),(.live false true (flat dU a1)),(.live true false [(iv v8),(iv v9),(iv v10)])]⟩
def jK (a0:List Zt)(a1:List Zt):Int×Int×Int×Zt→(Int×Int×Int×Zt)⊕((Int×Int)⊕(Int))
 | (v5,v6,v7,v8,v9,v10) =>
  (bif (decide ((v7:Int) < (a1.length:Int))) then
   (.inl ((if(v5:Int) < (jJ (bI (v8,v9,v10) (a1.getD (toNat v7) default)) (bI (v8,v9,v10) (a1.getD (toNat v7) default))) then(jJ (bI (v8,v9,v10) (a1.getD (toNat v7) default)) (bI (v8,v9,v10) (a1.getD (toNat v7) default))) else v5),v6,(v7+1),v8,v9,v10))
  else
   (.inr (.inl (v5,(v6+1)))))
noncomputable def oF:Code:=(aE [1,1,0,1] [] (aH Tryz.f120) []).1
noncomputable def oG:List K:=(aE [1,1,0,1] [] (aH Tryz.f120) []).2
def mI (a0:List Zt)(a1:List Zt)(v3 v4:Int):LS:=⟨iJ 34 [(1,(.s 1 0 a1.length 3)),(5,(iv v3)),(11,(.s 0 0 a0.length 3)),(12,(iv (a0.length:Int))),(13,(iv v4))],[(.live false true (flat dU a0)),(.live false true (flat dU a1))]⟩
def fQ (a0:List Zt)(a1:List Zt):Int×Int→(Int×Int)⊕(Int)
 | (v3,v4) =>
  (bif (decide ((v4:Int) < (a0.length:Int))) then
   (aB (jK a0 a1) (toNat ((a1.length:Int) - 0)+1) (v3,v4,0,(a0.getD (toNat v4) default).1,(a0.getD (toNat v4) default).2.1,(a0.getD (toNat v4) default).2.2))
  else
   (.inr v3))
theorem aJ1 (a0:List Zt)(a1:List Zt)(l0:a0.length≤9223372036854775807)(l1:a1.length≤9223372036854775807) {cx:Cx} (hcx:cx.base=2)
   (n0:Nat) (g0:∀(v3 v4:Int),0≤v4→toNat ((a0.length:Int) - v4) < n0→Aw.Good Tryz.prog none 9 (bodyPost Tryz.prog Tryz.f120 (RR cx (iv (aB (fQ a0 a1) n0 (v3,v4))) [] [])) cx [] (.l oF n0::oG) (mI a0 a1 v3 v4)):∀(n:Nat) (v5 v6 v7 v8 v9 v10:Int),(0≤v7)∧((0≤v6))∧(v6 < (a0.length:Int))∧(toNat ((a0.length:Int) - v6) < n0+1)→toNat ((a1.length:Int) - v7) < n→Aw.Good Tryz.prog none 9 (bodyPost Tryz.prog Tryz.f120 (RR cx (iv (iX (fQ a0 a1) n0 (aB (jK a0 a1) n (v5,v6,v7,v8,v9,v10)))) [] [])) cx [] (.l tC n::tD n0) (qC a0 a1 v5 v6 v7 v8 v9 v10):=by
 intro n
 induction n with
 | zero=>intro v5 v6 v7 v8 v9 v10 hi hn;exact absurd hn (iF _)
 | succ n ih =>
   intro v5 v6 v7 v8 v9 v10 hi hn
   refine aG ?_
   cases h0:(decide ((v7:Int) < (a1.length:Int))) with
   | true =>
    have q0:=bY h0
    have e:=Eq.refl (jK a0 a1 (v5,v6,v7,v8,v9,v10));conv at e=>rhs;simp only [jK,h0,aI]
    rw [aA e]
    refine ba [.d h0,.i v7 (a1.length),.L bL a1 v7 0 3,.c [] (aWv (v8,v9,v10) (a1.getD (toNat v7) default)),.c [] (aWu (bI (v8,v9,v10) (a1.getD (toNat v7) default)) (bI (v8,v9,v10) (a1.getD (toNat v7) default)))] [] [1,5,7,11,12,13,17,18,19] [2] hcx (m:=n) tC (tD n0) (qC a0 a1 (if(v5:Int) < (jJ (bI (v8,v9,v10) (a1.getD (toNat v7) default)) (bI (v8,v9,v10) (a1.getD (toNat v7) default))) then(jJ (bI (v8,v9,v10) (a1.getD (toNat v7) default)) (bI (v8,v9,v10) (a1.getD (toNat v7) default))) else v5) v6 (W (v7+1)) v8 v9 v10) (by kernel_rfl) ?_
    have z0:(W (v7+1))=(v7+1):=aD (by omega) (by omega)
    rw [z0]
    exact ih (if(v5:Int) < (jJ (bI (v8,v9,v10) (a1.getD (toNat v7) default)) (bI (v8,v9,v10) (a1.getD (toNat v7) default))) then(jJ (bI (v8,v9,v10) (a1.getD (toNat v7) default)) (bI (v8,v9,v10) (a1.getD (toNat v7) default))) else v5) v6 (v7+1) v8 v9 v10 (by refine⟨?_,?_,?_,?_⟩<;>(try simp only [Ls])<;>first | omega | assumption | simp) (by(try simp only [Ls]);omega)
   | false =>
    have q0:=cG h0
    have e:=Eq.refl (jK a0 a1 (v5,v6,v7,v8,v9,v10));conv at e=>rhs;simp only [jK,h0,aI]
    rw [aF,e]
    refine ba [.d h0] [] [1,5,11,12,13] [] hcx (m:=n0) oF (oG) (mI a0 a1 v5 (W (v6+1))) (by kernel_rfl) ?_
    have z0:(W (v6+1))=(v6+1):=aD (by omega) (by omega)
    rw [z0]
    exact g0 v5 (v6+1) (by(try simp only [Ls]);omega) (by(try simp only [Ls]);omega)
theorem aJ2 (a0:List Zt)(a1:List Zt)(l0:a0.length≤9223372036854775807)(l1:a1.length≤9223372036854775807) {cx:Cx} (hcx:cx.base=2):∀(n:Nat)(v3 v4:Int),0≤v4→toNat ((a0.length:Int) - v4) < n→Aw.Good Tryz.prog none 9 (bodyPost Tryz.prog Tryz.f120 (RR cx (iv (aB (fQ a0 a1) n (v3,v4))) [] [])) cx [] (.l oF n::oG) (mI a0 a1 v3 v4):=by
 intro n
 induction n with
 | zero=>intro v3 v4 hi hn;exact absurd hn (iF _)
 | succ n ih =>
   intro v3 v4 hi hn
   refine aG ?_
   cases h0:(decide ((v4:Int) < (a0.length:Int))) with
   | true =>
    have q0:=bY h0
    have e:=Eq.refl (fQ a0 a1 (v3,v4));conv at e=>rhs;simp only [fQ,h0,aI]
    rw [aF,e]
    refine en [.d h0,.i v4 (a0.length),.L bL a0 v4 0 3] [] [1,5,7,11,12,13,17,18,19] [2] hcx tC (tD n) (qC a0 a1 v3 v4 0 ((a0.getD (toNat v4) default).1) ((a0.getD (toNat v4) default).2.1) ((a0.getD (toNat v4) default).2.2)) (toNat ((a1.length:Int) - 0)+1) (by kernel_rfl) ?_
    exact aJ1 a0 a1 l0 l1 hcx n ih (toNat ((a1.length:Int) - 0)+1) v3 v4 0 ((a0.getD (toNat v4) default).1) ((a0.getD (toNat v4) default).2.1) ((a0.getD (toNat v4) default).2.2) (by refine⟨?_,?_,?_,?_⟩<;>(try simp only [Ls])<;>first | omega | assumption | simp) (by(try simp only [Ls]);omega)
   | false =>
    have q0:=cG h0
    have e:=Eq.refl (fQ a0 a1 (v3,v4));conv at e=>rhs;simp only [fQ,h0,aI]
    rw [aF,e]
    exact rt [.d h0] [] [] hcx (by kernel_rfl)
def bH (a0:List Zt)(a1:List Zt):Int :=
 (aB (fQ a0 a1) (toNat ((a0.length:Int) - 0)+1) (0,0))
theorem aIi (a0:List Zt)(a1:List Zt)(l0:a0.length≤9223372036854775807)(l1:a1.length≤9223372036854775807):Con Tryz.prog 120 [(.s 0 0 a0.length 3),(.s 1 0 a1.length 3)] [(.live false true (flat dU a0)),(.live false true (flat dU a1))] (iv (bH a0 a1)) []:=by
 refine aK Tryz.func120 (by kernel_rfl) fun cx hcx=>?_
 have e:=Eq.refl (bH a0 a1);conv at e=>rhs;simp only [bH]
 rw [e]
 refine en [] [] [1,5,11,12,13] [] hcx oF (oG) (mI a0 a1 0 0) (toNat ((a0.length:Int) - 0)+1) (by kernel_rfl) ?_
 exact aJ2 a0 a1 l0 l1 hcx (toNat ((a0.length:Int) - 0)+1) 0 0 (by(try simp only [Ls]);omega) (by(try simp only [Ls]);omega)
noncomputable def aEg:Code:=match (fX [1] [] (aH Tryz.f89)).1 with
 | .scope c=>c
 | _=>.skip
noncomputable def aIj:List K:=(fX [1] [] (aH Tryz.f89)).2
noncomputable def aZ0:Code:=(findLabel aEg 0).getD .skip
def aBm (a0:Int)(v1 v2:Int):LS:=⟨iJ 22 [(0,(iv a0)),(3,(iv v1)),(4,(iv v2))],[]⟩
def qD (a0:Int):Int×Int→(Int×Int)⊕(Int)
 | (v1,v2) =>
  (bif ((v2:Int) == 0) then
   (.inr v1)
  else
   (bif (decide (((W ((W (v1+v2))*(W (v1+v2)))):Int)≤a0)) then
    (.inl ((W (v1+v2)),(v2 / 2)))
   else
    (.inl (v1,(v2 / 2)))))
theorem aVu (a0:Int) {cx:Cx} (hcx:cx.base=0):∀(n:Nat)(v1 v2:Int),0≤v2→toNat v2 < n→Aw.Good Tryz.prog none 9 (bodyPost Tryz.prog Tryz.f89 (RR cx (iv (aB (qD a0) n (v1,v2))) [] [])) cx [] (.c (.goto 0)::.s aEg n::aIj) (aBm a0 v1 v2):=by
 intro n
 induction n with
 | zero=>intro v1 v2 hi hn;exact absurd hn (iF _)
 | succ n ih =>
   intro v1 v2 hi hn
   refine aNz (rest:=aZ0) (by kernel_rfl) ?_
   cases h0:((v2:Int) == 0) with
   | true =>
    have q0:=eq_of_beq h0
    have e:=Eq.refl (qD a0 (v1,v2));conv at e=>rhs;simp only [qD,h0,aI]
    rw [aF,e]
    exact rt [.d h0] [] [] hcx (by kernel_rfl)
   | false =>
    have q0:=ne_of_beq_false h0
    let t1:List (St Tryz.prog):=[.d h0]
    cases h1:(decide (((W ((W (v1+v2))*(W (v1+v2)))):Int)≤a0)) with
    | true =>
     have q1:=bY h1
     have e:=Eq.refl (qD a0 (v1,v2));conv at e=>rhs;simp only [qD,h0,h1,aI]
     rw [aA e]
     refine ga (t1++[.d h1,.p (show 0≤(1:Int) from by decide)]) [] [0,3,4] [] hcx (.goto 0) (.s aEg n::aIj) (aBm a0 (W (v1+v2)) (Int.fdiv v2 (2 ^ (min (toNat 1) 64)))) (by kernel_rfl) ?_
     have z0:(Int.fdiv v2 (2 ^ (min (toNat 1) 64)))=(v2 / 2):=aFg _ 1 (by decide)
     rw [z0]
     exact ih (W (v1+v2)) (v2 / 2) (by(try simp only [Ls]);omega) (by omega)
    | false =>
     have q1:=cG h1
     have e:=Eq.refl (qD a0 (v1,v2));conv at e=>rhs;simp only [qD,h0,h1,aI]
     rw [aA e]
     refine ga (t1++[.d h1,.p (show 0≤(1:Int) from by decide)]) [] [0,3,4] [] hcx (.goto 0) (.s aEg n::aIj) (aBm a0 v1 (Int.fdiv v2 (2 ^ (min (toNat 1) 64)))) (by kernel_rfl) ?_
     have z0:(Int.fdiv v2 (2 ^ (min (toNat 1) 64)))=(v2 / 2):=aFg _ 1 (by decide)
     rw [z0]
     exact ih v1 (v2 / 2) (by(try simp only [Ls]);omega) (by omega)
def iG (a0:Int):Int :=
 (bif (decide ((4611686018427387904:Int)≤a0)) then
  (aB (qD a0) (toNat 1073741824+1) (2147483648,1073741824))
 else
  (aB (qD a0) (toNat 1073741824+1) (0,1073741824)))
theorem C89 (a0:Int):Con Tryz.prog 89 [(iv a0)] [] (iv (iG a0)) []:=by
 refine aK Tryz.func89 (by kernel_rfl) fun cx hcx=>?_
 cases h0:(decide ((4611686018427387904:Int)≤a0)) with
 | true =>
  have q0:=bY h0
  have e:=Eq.refl (iG a0);conv at e=>rhs;simp only [iG,h0,aI]
  rw [e]
  refine ga [.u (toNat 1073741824+1),.F,.d h0,.p (show 0≤(1:Int) from by decide)] [] [0,3,4] [] hcx (.goto 0) (.s aEg (toNat 1073741824+1)::aIj) (aBm a0 2147483648 1073741824) (by kernel_rfl) ?_
  exact aVu a0 hcx (toNat 1073741824+1) 2147483648 1073741824 (by(try simp only [Ls]);omega) (by omega)
 | false =>
  have q0:=cG h0
  have e:=Eq.refl (iG a0);conv at e=>rhs;simp only [iG,h0,aI]
  rw [e]
  refine ga [.u (toNat 1073741824+1),.F,.d h0,.p (show 0≤(1:Int) from by decide)] [] [0,3,4] [] hcx (.goto 0) (.s aEg (toNat 1073741824+1)::aIj) (aBm a0 0 1073741824) (by kernel_rfl) ?_
  exact aVu a0 hcx (toNat 1073741824+1) 0 1073741824 (by(try simp only [Ls]);omega) (by omega)
def qX (a0:Int×Int):Bool :=
 (bif (decide ((a0.1:Int)≥(-1099511627776))) then
  (bif (decide ((a0.1:Int)≤a0.2)) then
   (decide ((a0.2:Int)≤1099511627776))
  else
   false)
 else
  false)
theorem C76 (a0:Int×Int):Con Tryz.prog 76 [(.a [(iv a0.1),(iv a0.2)])] [] (.v (.bool (qX a0))) []:=by
 refine aK Tryz.func76 (by kernel_rfl) fun cx hcx=>?_
 cases h0:(decide ((a0.1:Int)≥(-1099511627776))) with
 | true =>
  have q0:=bY h0
  let t1:List (St Tryz.prog):=[.d h0]
  cases h1:(decide ((a0.1:Int)≤a0.2)) with
  | true =>
   have q1:=bY h1
   have e:=Eq.refl (qX a0);conv at e=>rhs;simp only [qX,h0,h1,aI]
   rw [e]
   exact rt (t1++[.d h1]) [] [] hcx (by kernel_rfl)
  | false =>
   have q1:=cG h1
   have e:=Eq.refl (qX a0);conv at e=>rhs;simp only [qX,h0,h1,aI]
   rw [e]
   exact rt (t1++[.d h1]) [] [] hcx (by kernel_rfl)
 | false =>
  have q0:=cG h0
  have e:=Eq.refl (qX a0);conv at e=>rhs;simp only [qX,h0,aI]
  rw [e]
  exact rt [.d h0] [] [] hcx (by kernel_rfl)
def qE (a0:Int)(a1:Int):(Int×Int)×Int :=
 (bif (!(qX (a0,a1))) then
  ((0,0),4)
 else
  ((a0,a1),0))
theorem C48 (a0:Int)(a1:Int):Con Tryz.prog 48 [(iv a0),(iv a1)] [] (.t [(.a (k2 (qE a0 a1).1)),(iv (qE a0 a1).2)]) []:=by
 refine aK Tryz.func48 (by kernel_rfl) fun cx hcx=>?_
 let t0:List (St Tryz.prog):=[.c [] (C76 (a0,a1))]
 cases h0:(!(qX (a0,a1))) with
 | true =>
  have e:=Eq.refl (qE a0 a1);conv at e=>rhs;simp only [qE,h0,aI]
  rw [e]
  exact rt (t0++[.d h0]) [] [] hcx (by kernel_rfl)
 | false =>
  have e:=Eq.refl (qE a0 a1);conv at e=>rhs;simp only [qE,h0,aI]
  rw [e]
  exact rt (t0++[.d h0]) [] [] hcx (by kernel_rfl)
def aDn (a0:Int)(a1:Int):(Int×Int)×Int :=
 (bif (((W ((W ((iG (W (Int.tdiv a0 a1)))*(iG (W (Int.tdiv a0 a1)))))*a1)):Int) == a0) then
  ((qE (iG (W (Int.tdiv a0 a1))) (iG (W (Int.tdiv a0 a1)))).1,(qE (iG (W (Int.tdiv a0 a1))) (iG (W (Int.tdiv a0 a1)))).2)
 else
  ((qE (iG (W (Int.tdiv a0 a1))) (W ((iG (W (Int.tdiv a0 a1)))+1))).1,(qE (iG (W (Int.tdiv a0 a1))) (W ((iG (W (Int.tdiv a0 a1)))+1))).2))
theorem bDw (a0:Int)(a1:Int)(ha:a1≠0):Con Tryz.prog 147 [(iv a0),(iv a1)] [] (.t [(.a (k2 (aDn a0 a1).1)),(iv (aDn a0 a1).2)]) []:=by
 refine aK Tryz.func147 (by kernel_rfl) fun cx hcx=>?_
 let t0:List (St Tryz.prog):=[.p (show(a1:Int)≠0 from by first | omega | (rw [aD]<;>omega) | exact eA _),.c [] (C89 (W (Int.tdiv a0 a1)))]
 cases h0:(((W ((W ((iG (W (Int.tdiv a0 a1)))*(iG (W (Int.tdiv a0 a1)))))*a1)):Int) == a0) with
 | true =>
  have q0:=eq_of_beq h0
  have e:=Eq.refl (aDn a0 a1);conv at e=>rhs;simp only [aDn,h0,aI]
  rw [e]
  exact rt (t0++[.d h0,.c [] (C48 (iG (W (Int.tdiv a0 a1))) (iG (W (Int.tdiv a0 a1))))]) [] [] hcx (by kernel_rfl)
 | false =>
  have q0:=ne_of_beq_false h0
  have e:=Eq.refl (aDn a0 a1);conv at e=>rhs;simp only [aDn,h0,aI]
  rw [e]
  exact rt (t0++[.d h0,.c [] (C48 (iG (W (Int.tdiv a0 a1))) (W ((iG (W (Int.tdiv a0 a1)))+1)))]) [] [] hcx (by kernel_rfl)
def fD (a0:Int)(a1:Int):(Int×Int)×Int :=
 (bif (decide ((a0:Int) < 1)) then
  ((0,0),1)
 else
  (bif (decide ((a0:Int) > 1099511627776)) then
   ((0,0),1)
  else
   (bif (decide ((a1:Int) < 1)) then
    ((0,0),1)
   else
    (bif (decide ((a1:Int) > 8)) then
     ((0,0),1)
    else
     ((aDn (W ((W (a1*a1))*2 ^ (min (toNat 40) 64))) a0).1,(aDn (W ((W (a1*a1))*2 ^ (min (toNat 40) 64))) a0).2)))))
theorem aWx (a0:Int)(a1:Int):Con Tryz.prog 119 [(iv a0),(iv a1)] [] (.t [(.a (k2 (fD a0 a1).1)),(iv (fD a0 a1).2)]) []:=by
 refine aK Tryz.func119 (by kernel_rfl) fun cx hcx=>?_
 cases h0:(decide ((a0:Int) < 1)) with
 | true =>
  have q0:=bY h0
  have e:=Eq.refl (fD a0 a1);conv at e=>rhs;simp only [fD,h0,aI]
  rw [e]
  exact rt [.d h0] [] [] hcx (by kernel_rfl)
 | false =>
  have q0:=cG h0
  let t1:List (St Tryz.prog):=[.d h0]
  cases h1:(decide ((a0:Int) > 1099511627776)) with
  | true =>
   have q1:=bY h1
   have e:=Eq.refl (fD a0 a1);conv at e=>rhs;simp only [fD,h0,h1,aI]
   rw [e]
   exact rt (t1++[.d h1]) [] [] hcx (by kernel_rfl)
  | false =>
   have q1:=cG h1
   let t2:List (St Tryz.prog):=(t1++[.d h1])
   cases h2:(decide ((a1:Int) < 1)) with
   | true =>
    have q2:=bY h2
    have e:=Eq.refl (fD a0 a1);conv at e=>rhs;simp only [fD,h0,h1,h2,aI]
    rw [e]
    exact rt (t2++[.d h2]) [] [] hcx (by kernel_rfl)
   | false =>
    have q2:=cG h2
    let t3:List (St Tryz.prog):=(t2++[.d h2])
    cases h3:(decide ((a1:Int) > 8)) with
    | true =>
     have q3:=bY h3
     have e:=Eq.refl (fD a0 a1);conv at e=>rhs;simp only [fD,h0,h1,h2,h3,aI]
     rw [e]
     exact rt (t3++[.d h3]) [] [] hcx (by kernel_rfl)
    | false =>
     have q3:=cG h3
     have e:=Eq.refl (fD a0 a1);conv at e=>rhs;simp only [fD,h0,h1,h2,h3,aI]
     rw [e]
     exact rt (t3++[.d h3,.p (show 0≤(40:Int) from by decide),.c [] (bDw (W ((W (a1*a1))*2 ^ (min (toNat 40) 64))) a0  (by(try simp only [Lt]);omega))]) [] [] hcx (by kernel_rfl)
def kA (a0:Int×Int):Int :=
 (bif (!(qX a0)) then
  1
 else
  0)
theorem aVv (a0:Int×Int):Con Tryz.prog 45 [(.s 0 0 1 2)] [(.live false false [(iv a0.1),(iv a0.2)])] (iv (kA a0)) []:=by
 refine aK Tryz.func45 (by kernel_rfl) fun cx hcx=>?_
 let t0:List (St Tryz.prog):=[.u 200,.T,.i 0 1 (by decide),.c [] (C76 a0)]
 cases h0:(!(qX a0)) with
 | true =>
  have e:=Eq.refl (kA a0);conv at e=>rhs;simp only [kA,h0,aI]
  rw [e]
  exact rt (t0++[.d h0]) [] [] hcx (by kernel_rfl)
 | false =>
  have e:=Eq.refl (kA a0);conv at e=>rhs;simp only [kA,h0,aI]
  rw [e]
  exact rt (t0++[.d h0,.u 0,.F]) [] [] hcx (by kernel_rfl)
def rW (a0:Int)(a1:Int):Int :=
 (bif (((Int.tmod a0 a1):Int) != 0) then
  (bif (!((decide ((a0:Int) < 0)) == (decide ((a1:Int) < 0)))) then
   (W ((W (Int.tdiv a0 a1)) - 1))
  else
   (W (Int.tdiv a0 a1)))
 else
  (W (Int.tdiv a0 a1)))
theorem aWy (a0:Int)(a1:Int)(ha:a1≠0):Con Tryz.prog 127 [(iv a0),(iv a1)] [] (iv (rW a0 a1)) []:=by
 refine aK Tryz.func127 (by kernel_rfl) fun cx hcx=>?_
 let t0:List (St Tryz.prog):=[.p (show(a1:Int)≠0 from by first | omega | (rw [aD]<;>omega) | exact eA _),.p (show(a1:Int)≠0 from by first | omega | (rw [aD]<;>omega) | exact eA _)]
 cases h0:(((Int.tmod a0 a1):Int) != 0) with
 | true =>
  have q0:=bne_iff_ne.1 h0
  let t1:List (St Tryz.prog):=(t0++[.d h0])
  cases h1:(!((decide ((a0:Int) < 0)) == (decide ((a1:Int) < 0)))) with
  | true =>
   have e:=Eq.refl (rW a0 a1);conv at e=>rhs;simp only [rW,h0,h1,aI]
   rw [e]
   exact rt (t1++[.d h1]) [] [] hcx (by kernel_rfl)
  | false =>
   have e:=Eq.refl (rW a0 a1);conv at e=>rhs;simp only [rW,h0,h1,aI]
   rw [e]
   exact rt (t1++[.d h1]) [] [] hcx (by kernel_rfl)
 | false =>
  have q0:=bne_eq_false_iff_eq.1 h0
  have e:=Eq.refl (rW a0 a1);conv at e=>rhs;simp only [rW,h0,aI]
  rw [e]
  exact rt (t0++[.d h0]) [] [] hcx (by kernel_rfl)
def aBn (a0:Int)(a1:Int):Int :=
 (W (0 - (rW (W (0 - a0)) a1)))
theorem aZ1 (a0:Int)(a1:Int)(ha:a1≠0):Con Tryz.prog 128 [(iv a0),(iv a1)] [] (iv (aBn a0 a1)) []:=by
 refine aK Tryz.func128 (by kernel_rfl) fun cx hcx=>?_
 have e:=Eq.refl (aBn a0 a1);conv at e=>rhs;simp only [aBn]
 rw [e]
 exact rt [.c [] (aWy (W (0 - a0)) a1  (by(try simp only [Lt]);omega))] [] [] hcx (by kernel_rfl)
def zG (a0:Int×Int)(a1:Int):(Int×Int)×Int :=
 (bif (((kA a0):Int) != 0) then
  ((0,0),(kA a0))
 else
  (bif (decide ((a1:Int) < 1)) then
   ((0,0),1)
  else
   (bif (decide ((a1:Int) > 1099511627776)) then
    ((0,0),1)
   else
    ((qE (rW a0.1 a1) (aBn a0.2 a1)).1,(qE (rW a0.1 a1) (aBn a0.2 a1)).2))))
theorem bDx (a0:Int×Int)(a1:Int):Con Tryz.prog 150 [(.a [(iv a0.1),(iv a0.2)]),(iv a1)] [] (.t [(.a (k2 (zG a0 a1).1)),(iv (zG a0 a1).2)]) []:=by
 refine aK Tryz.func150 (by kernel_rfl) fun cx hcx=>?_
 let t0:List (St Tryz.prog):=[.c [2] (aVv a0)]
 cases h0:(((kA a0):Int) != 0) with
 | true =>
  have q0:=bne_iff_ne.1 h0
  have e:=Eq.refl (zG a0 a1);conv at e=>rhs;simp only [zG,h0,aI]
  rw [e]
  exact rt (t0++[.d h0]) [] [] hcx (by kernel_rfl)
 | false =>
  have q0:=bne_eq_false_iff_eq.1 h0
  let t1:List (St Tryz.prog):=(t0++[.d h0])
  cases h1:(decide ((a1:Int) < 1)) with
  | true =>
   have q1:=bY h1
   have e:=Eq.refl (zG a0 a1);conv at e=>rhs;simp only [zG,h0,h1,aI]
   rw [e]
   exact rt (t1++[.d h1]) [] [] hcx (by kernel_rfl)
  | false =>
   have q1:=cG h1
   let t2:List (St Tryz.prog):=(t1++[.d h1])
   cases h2:(decide ((a1:Int) > 1099511627776)) with
   | true =>
    have q2:=bY h2
    have e:=Eq.refl (zG a0 a1);conv at e=>rhs;simp only [zG,h0,h1,h2,aI]
    rw [e]
    exact rt (t2++[.d h2]) [] [] hcx (by kernel_rfl)
   | false =>
    have q2:=cG h2
    have e:=Eq.refl (zG a0 a1);conv at e=>rhs;simp only [zG,h0,h1,h2,aI]
    rw [e]
    exact rt (t2++[.d h2,.c [] (aWy a0.1 a1  (by(try simp only [Lt]);omega)),.c [] (aZ1 a0.2 a1  (by(try simp only [Lt]);omega)),.c [] (C48 (rW a0.1 a1) (aBn a0.2 a1))]) [] [] hcx (by kernel_rfl)
def cO (x:Int×Int):List SV:=[(iv x.1),(iv x.2)]
theorem bZ (x:Int×Int):(cO x).length=2:=rfl
noncomputable def aFn:Code:=(aE [1,0,1] [] (aH Tryz.f45) []).1
noncomputable def aFo:List K:=(aE [1,0,1] [] (aH Tryz.f45) []).2
def aBo (a0:List (Int×Int))(v1:Int):LS:=⟨iJ 15 [(5,(.s 0 0 a0.length 2)),(6,(iv (a0.length:Int))),(7,(iv v1))],[(.live false true (flat cO a0))]⟩
def eH (a0:List (Int×Int)):Int→(Int)⊕(Int)
 | v1 =>
  (bif (decide ((v1:Int) < (a0.length:Int))) then
   (bif (!(qX (a0.getD (toNat v1) default))) then
    (.inr 1)
   else
    (.inl (v1+1)))
  else
   (.inr 0))
theorem aT2 (a0:List (Int×Int))(l0:a0.length≤9223372036854775807) {cx:Cx} (hcx:cx.base=1):∀(n:Nat)(v1:Int),0≤v1→toNat ((a0.length:Int) - v1) < n→Aw.Good Tryz.prog none 9 (bodyPost Tryz.prog Tryz.f45 (RR cx (iv (aB (eH a0) n v1)) [] [])) cx [] (.l aFn n::aFo) (aBo a0 v1):=by
 intro n
 induction n with
 | zero=>intro v1 hi hn;exact absurd hn (iF _)
 | succ n ih =>
   intro v1 hi hn
   refine aG ?_
   cases h0:(decide ((v1:Int) < (a0.length:Int))) with
   | true =>
    have q0:=bY h0
    let t1:List (St Tryz.prog):=[.d h0,.i v1 (a0.length),.L bZ a0 v1 0 2,.c [] (C76 (a0.getD (toNat v1) default))]
    cases h1:(!(qX (a0.getD (toNat v1) default))) with
    | true =>
     have e:=Eq.refl (eH a0 v1);conv at e=>rhs;simp only [eH,h0,h1,aI]
     rw [aF,e]
     exact rt (t1++[.d h1]) [] [] hcx (by kernel_rfl)
    | false =>
     have e:=Eq.refl (eH a0 v1);conv at e=>rhs;simp only [eH,h0,h1,aI]
     rw [aA e]
     refine ba (t1++[.d h1]) [] [5,6,7] [] hcx (m:=n) aFn (aFo) (aBo a0 (W (v1+1))) (by kernel_rfl) ?_
     have z0:(W (v1+1))=(v1+1):=aD (by omega) (by omega)
     rw [z0]
     exact ih (v1+1) (by(try simp only [Ls]);omega) (by(try simp only [Ls]);omega)
   | false =>
    have q0:=cG h0
    have e:=Eq.refl (eH a0 v1);conv at e=>rhs;simp only [eH,h0,aI]
    rw [aF,e]
    exact rt [.d h0] [] [] hcx (by kernel_rfl)
def sJ (a0:List (Int×Int)):Int :=
 (aB (eH a0) (toNat ((a0.length:Int) - 0)+1) 0)
theorem aZ2 (a0:List (Int×Int))(l0:a0.length≤9223372036854775807):Con Tryz.prog 45 [(.s 0 0 a0.length 2)] [(.live false true (flat cO a0))] (iv (sJ a0)) []:=by
 refine aK Tryz.func45 (by kernel_rfl) fun cx hcx=>?_
 have e:=Eq.refl (sJ a0);conv at e=>rhs;simp only [sJ]
 rw [e]
 refine en [] [] [5,6,7] [] hcx aFn (aFo) (aBo a0 0) (toNat ((a0.length:Int) - 0)+1) (by kernel_rfl) ?_
 exact aT2 a0 l0 hcx (toNat ((a0.length:Int) - 0)+1) 0 (by(try simp only [Ls]);omega) (by(try simp only [Ls]);omega)
noncomputable def aBp:Code:=(aE [1,1,1,0,1] [] (aH Tryz.f126) []).1
noncomputable def aBq:List K:=(aE [1,1,1,0,1] [] (aH Tryz.f126) []).2
def wP (a0:List (Int×Int))(v1 v2 v3:Int):LS:=⟨iJ 33 [(2,(iv v1)),(3,(iv v2)),(16,(.s 0 0 a0.length 2)),(17,(iv (a0.length:Int))),(18,(iv v3))],[(.live false true (flat cO a0))]⟩
def gM (a0:List (Int×Int)):Zt→Zt⊕Zt
 | (v1,v2,v3) =>
  (bif (decide ((v3:Int) < (a0.length:Int))) then
   (.inl ((W (v1+(a0.getD (toNat v3) default).1)),(W (v2+(a0.getD (toNat v3) default).2)),(v3+1)))
  else
   (.inr (v1,v2,0)))
theorem aPo (a0:List (Int×Int))(l0:a0.length≤9223372036854775807) {cx:Cx} (hcx:cx.base=1):∀(n:Nat)(v1 v2 v3:Int),0≤v3→toNat ((a0.length:Int) - v3) < n→Aw.Good Tryz.prog none 9 (bodyPost Tryz.prog Tryz.f126 (RR cx (.t (k3 (aB (gM a0) n (v1,v2,v3)))) [] [])) cx [] (.l aBp n::aBq) (wP a0 v1 v2 v3):=by
 intro n
 induction n with
 | zero=>intro v1 v2 v3 hi hn;exact absurd hn (iF _)
 | succ n ih =>
   intro v1 v2 v3 hi hn
   refine aG ?_
   cases h0:(decide ((v3:Int) < (a0.length:Int))) with
   | true =>
    have q0:=bY h0
    have e:=Eq.refl (gM a0 (v1,v2,v3));conv at e=>rhs;simp only [gM,h0,aI]
    rw [aA e]
    refine ba [.d h0,.i v3 (a0.length),.L bZ a0 v3 0 2] [] [2,3,16,17,18] [] hcx (m:=n) aBp (aBq) (wP a0 (W (v1+(a0.getD (toNat v3) default).1)) (W (v2+(a0.getD (toNat v3) default).2)) (W (v3+1))) (by kernel_rfl) ?_
    have z0:(W (v3+1))=(v3+1):=aD (by omega) (by omega)
    rw [z0]
    exact ih (W (v1+(a0.getD (toNat v3) default).1)) (W (v2+(a0.getD (toNat v3) default).2)) (v3+1) (by(try simp only [Ls]);omega) (by(try simp only [Ls]);omega)
   | false =>
    have q0:=cG h0
    have e:=Eq.refl (gM a0 (v1,v2,v3));conv at e=>rhs;simp only [gM,h0,aI]
    rw [aF,e]
    exact rt [.d h0] [] [] hcx (by kernel_rfl)
def cF (a0:List (Int×Int)):Zt :=
 (bif (decide (((a0.length:Int):Int) > 10000)) then
  (0,0,4)
 else
  (bif (((sJ a0):Int) != 0) then
   (0,0,(sJ a0))
  else
   (aB (gM a0) (toNat ((a0.length:Int) - 0)+1) (0,0,0))))
theorem aPp (a0:List (Int×Int))(l0:a0.length≤9223372036854775807):Con Tryz.prog 126 [(.s 0 0 a0.length 2)] [(.live false true (flat cO a0))] (.t (k3 (cF a0))) []:=by
 refine aK Tryz.func126 (by kernel_rfl) fun cx hcx=>?_
 cases h0:(decide (((a0.length:Int):Int) > 10000)) with
 | true =>
  have q0:=bY h0
  have e:=Eq.refl (cF a0);conv at e=>rhs;simp only [cF,h0,aI]
  rw [e]
  exact rt [.d h0] [] [] hcx (by kernel_rfl)
 | false =>
  have q0:=cG h0
  let t1:List (St Tryz.prog):=[.d h0,.c [0] (aZ2 a0 (by omega))]
  cases h1:(((sJ a0):Int) != 0) with
  | true =>
   have q1:=bne_iff_ne.1 h1
   have e:=Eq.refl (cF a0);conv at e=>rhs;simp only [cF,h0,h1,aI]
   rw [e]
   exact rt (t1++[.d h1]) [] [] hcx (by kernel_rfl)
  | false =>
   have q1:=bne_eq_false_iff_eq.1 h1
   have e:=Eq.refl (cF a0);conv at e=>rhs;simp only [cF,h0,h1,aI]
   rw [e]
   refine en (t1++[.d h1]) [] [2,3,16,17,18] [] hcx aBp (aBq) (wP a0 0 0 0) (toNat ((a0.length:Int) - 0)+1) (by kernel_rfl) ?_
   exact aPo a0 l0 hcx (toNat ((a0.length:Int) - 0)+1) 0 0 0 (by(try simp only [Ls]);omega) (by(try simp only [Ls]);omega)
def kJ (a0:List (Int×Int)):(Int×Int)×Int :=
 (bif (((cF a0).2.2:Int) != 0) then
  ((0,0),(cF a0).2.2)
 else
  ((qE (cF a0).1 (cF a0).2.1).1,(qE (cF a0).1 (cF a0).2.1).2))
theorem aWz (a0:List (Int×Int))(l0:a0.length≤9223372036854775807):Con Tryz.prog 129 [(.s 0 0 a0.length 2)] [(.live false true (flat cO a0))] (.t [(.a (k2 (kJ a0).1)),(iv (kJ a0).2)]) []:=by
 refine aK Tryz.func129 (by kernel_rfl) fun cx hcx=>?_
 let t0:List (St Tryz.prog):=[.c [0] (aPp a0 (by omega))]
 cases h0:(((cF a0).2.2:Int) != 0) with
 | true =>
  have q0:=bne_iff_ne.1 h0
  have e:=Eq.refl (kJ a0);conv at e=>rhs;simp only [kJ,h0,aI]
  rw [e]
  exact rt (t0++[.d h0]) [] [] hcx (by kernel_rfl)
 | false =>
  have q0:=bne_eq_false_iff_eq.1 h0
  have e:=Eq.refl (kJ a0);conv at e=>rhs;simp only [kJ,h0,aI]
  rw [e]
  exact rt (t0++[.d h0,.c [] (C48 (cF a0).1 (cF a0).2.1)]) [] [] hcx (by kernel_rfl)
def iL (a0:List (Int×Int)):(Int×Int)×Int :=
 (bif (((cF a0).2.2:Int) != 0) then
  ((0,0),(cF a0).2.2)
 else
  (bif (((a0.length:Int):Int) == 0) then
   ((0,0),1)
  else
   ((qE (rW (cF a0).1 (a0.length:Int)) (aBn (cF a0).2.1 (a0.length:Int))).1,(qE (rW (cF a0).1 (a0.length:Int)) (aBn (cF a0).2.1 (a0.length:Int))).2)))
theorem aZ3 (a0:List (Int×Int))(l0:a0.length≤9223372036854775807):Con Tryz.prog 95 [(.s 0 0 a0.length 2)] [(.live false true (flat cO a0))] (.t [(.a (k2 (iL a0).1)),(iv (iL a0).2)]) []:=by
 refine aK Tryz.func95 (by kernel_rfl) fun cx hcx=>?_
 let t0:List (St Tryz.prog):=[.c [0] (aPp a0 (by omega))]
 cases h0:(((cF a0).2.2:Int) != 0) with
 | true =>
  have q0:=bne_iff_ne.1 h0
  have e:=Eq.refl (iL a0);conv at e=>rhs;simp only [iL,h0,aI]
  rw [e]
  exact rt (t0++[.d h0]) [] [] hcx (by kernel_rfl)
 | false =>
  have q0:=bne_eq_false_iff_eq.1 h0
  let t1:List (St Tryz.prog):=(t0++[.d h0])
  cases h1:(((a0.length:Int):Int) == 0) with
  | true =>
   have q1:=eq_of_beq h1
   have e:=Eq.refl (iL a0);conv at e=>rhs;simp only [iL,h0,h1,aI]
   rw [e]
   exact rt (t1++[.d h1]) [] [] hcx (by kernel_rfl)
  | false =>
   have q1:=ne_of_beq_false h1
   have e:=Eq.refl (iL a0);conv at e=>rhs;simp only [iL,h0,h1,aI]
   rw [e]
   exact rt (t1++[.d h1,.c [] (aWy (cF a0).1 (a0.length:Int)  (by(try simp only [Lt]);omega)),.c [] (aZ1 (cF a0).2.1 (a0.length:Int)  (by(try simp only [Lt]);omega)),.c [] (C48 (rW (cF a0).1 (a0.length:Int)) (aBn (cF a0).2.1 (a0.length:Int)))]) [] [] hcx (by kernel_rfl)
def mJ (a0:(Int×Int)×(Int×Int)):Int :=
 (bif (!(qX a0.1)) then
  1
 else
  (bif (!(qX a0.2)) then
   1
  else
   0))
theorem aZ4 (a0:(Int×Int)×(Int×Int)):Con Tryz.prog 45 [(.s 0 0 2 2)] [(.live false false [(iv a0.1.1),(iv a0.1.2),(iv a0.2.1),(iv a0.2.2)])] (iv (mJ a0)) []:=by
 refine aK Tryz.func45 (by kernel_rfl) fun cx hcx=>?_
 let t0:List (St Tryz.prog):=[.u 200,.T,.i 0 2 (by decide),.c [] (C76 a0.1)]
 cases h0:(!(qX a0.1)) with
 | true =>
  have e:=Eq.refl (mJ a0);conv at e=>rhs;simp only [mJ,h0,aI]
  rw [e]
  exact rt (t0++[.d h0]) [] [] hcx (by kernel_rfl)
 | false =>
  let t1:List (St Tryz.prog):=(t0++[.d h0,.u 0,.T,.i 1 2 (by decide),.c [] (C76 a0.2)])
  cases h1:(!(qX a0.2)) with
  | true =>
   have e:=Eq.refl (mJ a0);conv at e=>rhs;simp only [mJ,h0,h1,aI]
   rw [e]
   exact rt (t1++[.d h1]) [] [] hcx (by kernel_rfl)
  | false =>
   have e:=Eq.refl (mJ a0);conv at e=>rhs;simp only [mJ,h0,h1,aI]
   rw [e]
   exact rt (t1++[.d h1,.u 0,.F]) [] [] hcx (by kernel_rfl)
def pI (a0:Int)(a1:Int):Int :=
 (bif ((a0:Int) != 0) then
  (bif ((a1:Int) != 0) then
   (bif (decide (((if(a1:Int) < (W (0 - a1)) then(W (0 - a1)) else a1):Int) > (W (Int.tdiv 1099511627776 (if(a0:Int) < (W (0 - a0)) then(W (0 - a0)) else a0))))) then
    (bif (!((decide ((a0:Int) < 0)) == (decide ((a1:Int) < 0)))) then
     (-1099511627777)
    else
     1099511627777)
   else
    (W (a0*a1)))
  else
   (W (a0*a1)))
 else
  (W (a0*a1)))
theorem C47 (a0:Int)(a1:Int)(ha:-1099511627776≤a0∧a0≤1099511627776):Con Tryz.prog 47 [(iv a0),(iv a1)] [] (iv (pI a0 a1)) []:=by
 refine aK Tryz.func47 (by kernel_rfl) fun cx hcx=>?_
 cases h0:((a0:Int) != 0) with
 | true =>
  have q0:=bne_iff_ne.1 h0
  let t1:List (St Tryz.prog):=[.d h0]
  cases h1:((a1:Int) != 0) with
  | true =>
   have q1:=bne_iff_ne.1 h1
   let t2:List (St Tryz.prog):=(t1++[.d h1,.p (show((if(a0:Int) < (W (0 - a0)) then(W (0 - a0)) else a0):Int)≠0 from by(have hw:=aD (n:=0 - a0) (by omega) (by omega);rw [hw];split<;>omega))])
   cases h2:(decide (((if(a1:Int) < (W (0 - a1)) then(W (0 - a1)) else a1):Int) > (W (Int.tdiv 1099511627776 (if(a0:Int) < (W (0 - a0)) then(W (0 - a0)) else a0))))) with
   | true =>
    have q2:=bY h2
    let t3:List (St Tryz.prog):=(t2++[.d h2])
    cases h3:(!((decide ((a0:Int) < 0)) == (decide ((a1:Int) < 0)))) with
    | true =>
     have e:=Eq.refl (pI a0 a1);conv at e=>rhs;simp only [pI,h0,h1,h2,h3,aI]
     rw [e]
     exact rt (t3++[.d h3]) [] [] hcx (by kernel_rfl)
    | false =>
     have e:=Eq.refl (pI a0 a1);conv at e=>rhs;simp only [pI,h0,h1,h2,h3,aI]
     rw [e]
     exact rt (t3++[.d h3]) [] [] hcx (by kernel_rfl)
   | false =>
    have q2:=cG h2
    have e:=Eq.refl (pI a0 a1);conv at e=>rhs;simp only [pI,h0,h1,h2,aI]
    rw [e]
    exact rt (t2++[.d h2]) [] [] hcx (by kernel_rfl)
  | false =>
   have q1:=bne_eq_false_iff_eq.1 h1
   have e:=Eq.refl (pI a0 a1);conv at e=>rhs;simp only [pI,h0,h1,aI]
   rw [e]
   exact rt (t1++[.d h1]) [] [] hcx (by kernel_rfl)
 | false =>
  have q0:=bne_eq_false_iff_eq.1 h0
  have e:=Eq.refl (pI a0 a1);conv at e=>rhs;simp only [pI,h0,aI]
  rw [e]
  exact rt [.d h0] [] [] hcx (by kernel_rfl)
def nM (a0:Int)(a1:Int)(a2:Int):Bool :=
 (bif (decide ((a0:Int)≥a1)) then
  (decide ((a0:Int)≤a2))
 else
  false)
theorem aT3 (a0:Int)(a1:Int)(a2:Int):Con Tryz.prog 140 [(iv a0),(iv a1),(iv a2)] [] (.v (.bool (nM a0 a1 a2))) []:=by
 refine aK Tryz.func140 (by kernel_rfl) fun cx hcx=>?_
 cases h0:(decide ((a0:Int)≥a1)) with
 | true =>
  have q0:=bY h0
  have e:=Eq.refl (nM a0 a1 a2);conv at e=>rhs;simp only [nM,h0,aI]
  rw [e]
  exact rt [.d h0] [] [] hcx (by kernel_rfl)
 | false =>
  have q0:=cG h0
  have e:=Eq.refl (nM a0 a1 a2);conv at e=>rhs;simp only [nM,h0,aI]
  rw [e]
  exact rt [.d h0] [] [] hcx (by kernel_rfl)
def F51 (a0:Int×Int):Bool :=
 (bif (decide ((a0.1:Int)≥(-1099511627776))) then
  (bif (decide ((a0.1:Int)≤a0.2)) then
   (decide ((a0.2:Int)≤1099511627776))
  else
   false)
 else
  false)
theorem C51 (a0:Int×Int):Con Tryz.prog 51 [(.a [(iv a0.1),(iv a0.2)])] [] (.v (.bool (F51 a0))) []:=by
 refine aK Tryz.func51 (by kernel_rfl) fun cx hcx=>?_
 cases h0:(decide ((a0.1:Int)≥(-1099511627776))) with
 | true =>
  have q0:=bY h0
  let t1:List (St Tryz.prog):=[.d h0]
  cases h1:(decide ((a0.1:Int)≤a0.2)) with
  | true =>
   have q1:=bY h1
   have e:=Eq.refl (F51 a0);conv at e=>rhs;simp only [F51,h0,h1,aI]
   rw [e]
   exact rt (t1++[.d h1]) [] [] hcx (by kernel_rfl)
  | false =>
   have q1:=cG h1
   have e:=Eq.refl (F51 a0);conv at e=>rhs;simp only [F51,h0,h1,aI]
   rw [e]
   exact rt (t1++[.d h1]) [] [] hcx (by kernel_rfl)
 | false =>
  have q0:=cG h0
  have e:=Eq.refl (F51 a0);conv at e=>rhs;simp only [F51,h0,aI]
  rw [e]
  exact rt [.d h0] [] [] hcx (by kernel_rfl)
def c3 (x:Int):List SV:=[(iv x)]
theorem fR (x:Int):(c3 x).length=1:=rfl
def bX (a0:Zt×Zt×Zt)(a1:Int):List (Int) :=
 (bif ((a1:Int) == 0) then
  ([a0.1.1,a0.2.1.1,a0.2.2.1]:List (Int))
 else
  (bif ((a1:Int) == 1) then
   ([a0.1.2.1,a0.2.1.2.1,a0.2.2.2.1]:List (Int))
  else
   ([a0.1.2.2,a0.2.1.2.2,a0.2.2.2.2]:List (Int))))
theorem wQ (a0:Zt×Zt×Zt)(a1:Int):Con Tryz.prog 173 [(.s 0 0 3 3),(iv a1)] [(.live false false (k9 a0))] (.s 1 0 (bX a0 a1).length 1) [(.live true true (flat c3 (bX a0 a1)))]:=by
 refine aK Tryz.func173 (by kernel_rfl) fun cx hcx=>?_
 let t0:List (St Tryz.prog):=[.u 200,.T]
 cases h0:((a1:Int) == 0) with
 | true =>
  have q0:=eq_of_beq h0
  have e:=Eq.refl (bX a0 a1);conv at e=>rhs;simp only [bX,h0,aI]
  rw [e]
  exact rt (t0++[.d h0,.i 0 3 (by decide),.u 0,.T,.d h0,.i 1 3 (by decide),.u 0,.T,.d h0,.i 2 3 (by decide),.u 0,.F]) [.sym 6 true] [6] hcx (by kernel_rfl)
 | false =>
  have q0:=ne_of_beq_false h0
  let t1:List (St Tryz.prog):=(t0++[.d h0])
  cases h1:((a1:Int) == 1) with
  | true =>
   have q1:=eq_of_beq h1
   have e:=Eq.refl (bX a0 a1);conv at e=>rhs;simp only [bX,h0,h1,aI]
   rw [e]
   exact rt (t1++[.d h1,.i 0 3 (by decide),.u 0,.T,.d h0,.d h1,.i 1 3 (by decide),.u 0,.T,.d h0,.d h1,.i 2 3 (by decide),.u 0,.F]) [.sym 6 true] [6] hcx (by kernel_rfl)
  | false =>
   have q1:=ne_of_beq_false h1
   have e:=Eq.refl (bX a0 a1);conv at e=>rhs;simp only [bX,h0,h1,aI]
   rw [e]
   exact rt (t1++[.d h1,.i 0 3 (by decide),.u 0,.T,.d h0,.d h1,.i 1 3 (by decide),.u 0,.T,.d h0,.d h1,.i 2 3 (by decide),.u 0,.F]) [.sym 6 true] [6] hcx (by kernel_rfl)
def aPq (a0:Zt)(a1:Int):List (Int) :=
 (bif ((a1:Int) == 0) then
  ([a0.1]:List (Int))
 else
  (bif ((a1:Int) == 1) then
   ([a0.2.1]:List (Int))
  else
   ([a0.2.2]:List (Int))))
theorem aW0 {a b c:Int} (h:(!(nM a b c))=false)(hb:1≤b:=by omega):a≠0:=by
 unfold nM at h
 cases h1:decide ((a:Int)≥b) with
 | true=>have:=bY h1;omega
 | false=>simp [h1] at h
theorem kB (a:Zt×Zt×Zt)(k:Int):(bX a k).length=3:=by
 unfold bX
 cases ((k:Int) == 0)<;>cases ((k:Int) == 1)<;>rfl
theorem kC (a:Zt)(k:Int):(aPq a k).length=1:=by
 unfold aPq
 cases ((k:Int) == 0)<;>cases ((k:Int) == 1)<;>rfl
noncomputable def aFp:Code:=(aE [1,1,0] [] (aH Tryz.f174) []).1
noncomputable def aFq:List K:=(aE [1,1,0] [] (aH Tryz.f174) []).2
def aAa (a0:Int)(v2 v3:Int):LS:=⟨iJ 23 [(0,(iv a0)),(3,(iv v2)),(4,(iv v3))],[]⟩
def mU (a0:Int):Int×Int→(Int×Int)⊕(Int)
 | (v2,v3) =>
  (bif (decide ((v2:Int) < v3)) then
   (bif (decide (((W ((W (Int.tdiv (W ((W (v2+v3))+1)) 2))*(W (Int.tdiv (W ((W (v2+v3))+1)) 2)))):Int)≤a0)) then
    (.inl ((W (Int.tdiv (W ((W (v2+v3))+1)) 2)),v3))
   else
    (.inl (v2,(W ((W (Int.tdiv (W ((W (v2+v3))+1)) 2)) - 1)))))
  else
   (.inr v2))
theorem aW1 (a0:Int) {cx:Cx} (hcx:cx.base=0):∀(n:Nat)(v2 v3:Int),(0≤v2)∧(0≤v2)∧(v2≤v3)∧(v3≤2147483648)→toNat (v3 - v2) < n→Aw.Good Tryz.prog none 9 (bodyPost Tryz.prog Tryz.f174 (RR cx (iv (aB (mU a0) n (v2,v3))) [] [])) cx [] (.l aFp n::aFq) (aAa a0 v2 v3):=by
 intro n
 induction n with
 | zero=>intro v2 v3 hi hn;exact absurd hn (iF _)
 | succ n ih =>
   intro v2 v3 hi hn
   refine aG ?_
   have hw:=aFh (a:=v2) (b:=v3) (by omega)
   have hw2:=aMg (a:=v2) (b:=v3) (by omega)
   cases h0:(decide ((v2:Int) < v3)) with
   | true =>
    have q0:=bY h0
    let t1:List (St Tryz.prog):=[.d h0,.p (show(2:Int)≠0 from by decide)]
    cases h1:(decide (((W ((W (Int.tdiv (W ((W (v2+v3))+1)) 2))*(W (Int.tdiv (W ((W (v2+v3))+1)) 2)))):Int)≤a0)) with
    | true =>
     have q1:=bY h1
     have e:=Eq.refl (mU a0 (v2,v3));conv at e=>rhs;simp only [mU,h0,h1,aI]
     rw [aA e]
     refine ba (t1++[.d h1]) [] [0,3,4] [] hcx (m:=n) aFp (aFq) (aAa a0 (W (Int.tdiv (W ((W (v2+v3))+1)) 2)) v3) (by kernel_rfl) ?_
     exact ih (W (Int.tdiv (W ((W (v2+v3))+1)) 2)) v3 (by refine⟨?_,?_,?_,?_⟩<;>(try simp only [Ls])<;>first | omega | assumption | simp) (by(try simp only [Ls]);omega)
    | false =>
     have q1:=cG h1
     have e:=Eq.refl (mU a0 (v2,v3));conv at e=>rhs;simp only [mU,h0,h1,aI]
     rw [aA e]
     refine ba (t1++[.d h1]) [] [0,3,4] [] hcx (m:=n) aFp (aFq) (aAa a0 v2 (W ((W (Int.tdiv (W ((W (v2+v3))+1)) 2)) - 1))) (by kernel_rfl) ?_
     exact ih v2 (W ((W (Int.tdiv (W ((W (v2+v3))+1)) 2)) - 1)) (by refine⟨?_,?_,?_,?_⟩<;>(try simp only [Ls])<;>first | omega | assumption | simp) (by(try simp only [Ls]);omega)
   | false =>
    have q0:=cG h0
    have e:=Eq.refl (mU a0 (v2,v3));conv at e=>rhs;simp only [mU,h0,aI]
    rw [aF,e]
    exact rt [.d h0] [] [] hcx (by kernel_rfl)
def iN (a0:Int):Int :=
 (aB (mU a0) (toNat (2147483648 - 0)+1) (0,2147483648))
theorem aZ5 (a0:Int):Con Tryz.prog 174 [(iv a0)] [] (iv (iN a0)) []:=by
 refine aK Tryz.func174 (by kernel_rfl) fun cx hcx=>?_
 have e:=Eq.refl (iN a0);conv at e=>rhs;simp only [iN]
 rw [e]
 refine en [] [] [0,3,4] [] hcx aFp (aFq) (aAa a0 0 2147483648) (toNat (2147483648 - 0)+1) (by kernel_rfl) ?_
 exact aW1 a0 hcx (toNat (2147483648 - 0)+1) 0 2147483648 (by refine⟨?_,?_,?_,?_⟩<;>(try simp only [Ls])<;>first | omega | assumption | simp) (by(try simp only [Ls]);omega)
def iO (a0:Int)(a1:Int):(Int×Int)×Int :=
 (bif (!(F51 (a0,a1))) then
  ((0,0),4)
 else
  ((a0,a1),0))
theorem aDo (a0:Int)(a1:Int):Con Tryz.prog 142 [(iv a0),(iv a1)] [] (.t [(.a (k2 (iO a0 a1).1)),(iv (iO a0 a1).2)]) []:=by
 refine aK Tryz.func142 (by kernel_rfl) fun cx hcx=>?_
 let t0:List (St Tryz.prog):=[.c [] (C51 (a0,a1))]
 cases h0:(!(F51 (a0,a1))) with
 | true =>
  have e:=Eq.refl (iO a0 a1);conv at e=>rhs;simp only [iO,h0,aI]
  rw [e]
  exact rt (t0++[.d h0]) [] [] hcx (by kernel_rfl)
 | false =>
  have e:=Eq.refl (iO a0 a1);conv at e=>rhs;simp only [iO,h0,aI]
  rw [e]
  exact rt (t0++[.d h0]) [] [] hcx (by kernel_rfl)
def zH (a0:Int)(a1:Int):(Int×Int)×Int :=
 (bif (((Int.tmod a0 a1):Int) == 0) then
  (bif (((W ((iN (W (Int.tdiv a0 a1)))*(iN (W (Int.tdiv a0 a1))))):Int) == (W (Int.tdiv a0 a1))) then
   ((iO (iN (W (Int.tdiv a0 a1))) (iN (W (Int.tdiv a0 a1)))).1,(iO (iN (W (Int.tdiv a0 a1))) (iN (W (Int.tdiv a0 a1)))).2)
  else
   ((iO (iN (W (Int.tdiv a0 a1))) (W ((iN (W (Int.tdiv a0 a1)))+1))).1,(iO (iN (W (Int.tdiv a0 a1))) (W ((iN (W (Int.tdiv a0 a1)))+1))).2))
 else
  ((iO (iN (W (Int.tdiv a0 a1))) (W ((iN (W (Int.tdiv a0 a1)))+1))).1,(iO (iN (W (Int.tdiv a0 a1))) (W ((iN (W (Int.tdiv a0 a1)))+1))).2))
theorem bDy (a0:Int)(a1:Int)(ha:a1≠0):Con Tryz.prog 171 [(iv a0),(iv a1)] [] (.t [(.a (k2 (zH a0 a1).1)),(iv (zH a0 a1).2)]) []:=by
 refine aK Tryz.func171 (by kernel_rfl) fun cx hcx=>?_
 let t0:List (St Tryz.prog):=[.p (show(a1:Int)≠0 from by first | omega | (rw [aD]<;>omega) | exact eA _),.c [] (aZ5 (W (Int.tdiv a0 a1))),.p (show(a1:Int)≠0 from by first | omega | (rw [aD]<;>omega) | exact eA _)]
 cases h0:(((Int.tmod a0 a1):Int) == 0) with
 | true =>
  have q0:=eq_of_beq h0
  let t1:List (St Tryz.prog):=(t0++[.d h0,.p (show(a1:Int)≠0 from by first | omega | (rw [aD]<;>omega) | exact eA _)])
  cases h1:(((W ((iN (W (Int.tdiv a0 a1)))*(iN (W (Int.tdiv a0 a1))))):Int) == (W (Int.tdiv a0 a1))) with
  | true =>
   have q1:=eq_of_beq h1
   have e:=Eq.refl (zH a0 a1);conv at e=>rhs;simp only [zH,h0,h1,aI]
   rw [e]
   exact rt (t1++[.d h1,.c [] (aDo (iN (W (Int.tdiv a0 a1))) (iN (W (Int.tdiv a0 a1))))]) [] [] hcx (by kernel_rfl)
  | false =>
   have q1:=ne_of_beq_false h1
   have e:=Eq.refl (zH a0 a1);conv at e=>rhs;simp only [zH,h0,h1,aI]
   rw [e]
   exact rt (t1++[.d h1,.c [] (aDo (iN (W (Int.tdiv a0 a1))) (W ((iN (W (Int.tdiv a0 a1)))+1)))]) [] [] hcx (by kernel_rfl)
 | false =>
  have q0:=ne_of_beq_false h0
  have e:=Eq.refl (zH a0 a1);conv at e=>rhs;simp only [zH,h0,aI]
  rw [e]
  exact rt (t0++[.d h0,.c [] (aDo (iN (W (Int.tdiv a0 a1))) (W ((iN (W (Int.tdiv a0 a1)))+1)))]) [] [] hcx (by kernel_rfl)
def lZ (a0:Int)(a1:Int):(Int×Int)×Int :=
 (bif (!(nM a0 1 1099511627776)) then
  ((0,0),1)
 else
  (bif (!(nM a1 1 8)) then
   ((0,0),1)
  else
   ((zH (W ((W ((W (1048576*a1))*1048576))*a1)) a0).1,(zH (W ((W ((W (1048576*a1))*1048576))*a1)) a0).2)))
theorem aZ6 (a0:Int)(a1:Int):Con Tryz.prog 163 [(iv a0),(iv a1)] [] (.t [(.a (k2 (lZ a0 a1).1)),(iv (lZ a0 a1).2)]) []:=by
 refine aK Tryz.func163 (by kernel_rfl) fun cx hcx=>?_
 let t0:List (St Tryz.prog):=[.c [] (aT3 a0 1 1099511627776)]
 cases h0:(!(nM a0 1 1099511627776)) with
 | true =>
  have e:=Eq.refl (lZ a0 a1);conv at e=>rhs;simp only [lZ,h0,aI]
  rw [e]
  exact rt (t0++[.d h0]) [] [] hcx (by kernel_rfl)
 | false =>
  let t1:List (St Tryz.prog):=(t0++[.d h0,.c [] (aT3 a1 1 8)])
  cases h1:(!(nM a1 1 8)) with
  | true =>
   have e:=Eq.refl (lZ a0 a1);conv at e=>rhs;simp only [lZ,h0,h1,aI]
   rw [e]
   exact rt (t1++[.d h1]) [] [] hcx (by kernel_rfl)
  | false =>
   have e:=Eq.refl (lZ a0 a1);conv at e=>rhs;simp only [lZ,h0,h1,aI]
   rw [e]
   exact rt (t1++[.d h1,.c [] (bDy (W ((W ((W (1048576*a1))*1048576))*a1)) a0  (aW0 h0))]) [] [] hcx (by kernel_rfl)
def rX (a0:Int):Int :=
 (iN a0)
theorem bDz (a0:Int):Con Tryz.prog 170 [(iv a0)] [] (iv (rX a0)) []:=by
 refine aK Tryz.func170 (by kernel_rfl) fun cx hcx=>?_
 have e:=Eq.refl (rX a0);conv at e=>rhs;simp only [rX]
 rw [e]
 exact rt [.c [] (aZ5 a0)] [] [] hcx (by kernel_rfl)
def aT (a0:Zt)(a1:Zt):Zt :=
 ((W (a0.1 - a1.1)),(W (a0.2.1 - a1.2.1)),(W (a0.2.2 - a1.2.2)))
theorem aFr (a0:Zt)(a1:Zt):Con Tryz.prog 105 [(.a (k3 a0)),(.a (k3 a1))] [] (.a (k3 (aT a0 a1))) []:=by
 refine aK Tryz.func105 (by kernel_rfl) fun cx hcx=>?_
 have e:=Eq.refl (aT a0 a1);conv at e=>rhs;simp only [aT]
 rw [e]
 exact rt [] [] [] hcx (by kernel_rfl)
def aFs (a0:Zt)(a1:Zt):Zt :=
 ((W ((W (a0.2.1*a1.2.2)) - (W (a0.2.2*a1.2.1)))),(W ((W (a0.2.2*a1.1)) - (W (a0.1*a1.2.2)))),(W ((W (a0.1*a1.2.1)) - (W (a0.2.1*a1.1)))))
theorem aZ7 (a0:Zt)(a1:Zt):Con Tryz.prog 104 [(.a (k3 a0)),(.a (k3 a1))] [] (.a (k3 (aFs a0 a1))) []:=by
 refine aK Tryz.func104 (by kernel_rfl) fun cx hcx=>?_
 have e:=Eq.refl (aFs a0 a1);conv at e=>rhs;simp only [aFs]
 rw [e]
 exact rt [] [] [] hcx (by kernel_rfl)
def lC (a0:Zt×Zt×Zt):Zt :=
 (aFs (aT a0.2.1 a0.1) (aT a0.2.2 a0.1))
theorem C80 (a0:Zt×Zt×Zt):Con Tryz.prog 80 [(.a (k9 a0))] [] (.a (k3 (lC a0))) []:=by
 refine aK Tryz.func80 (by kernel_rfl) fun cx hcx=>?_
 have e:=Eq.refl (lC a0);conv at e=>rhs;simp only [lC]
 rw [e]
 exact rt [.c [] (aFr a0.2.1 a0.1),.c [] (aFr a0.2.2 a0.1),.c [] (aZ7 (aT a0.2.1 a0.1) (aT a0.2.2 a0.1))] [] [] hcx (by kernel_rfl)
def cB (a0:Zt)(a1:Zt):Int :=
 (W ((W ((W (a0.1*a1.1))+(W (a0.2.1*a1.2.1))))+(W (a0.2.2*a1.2.2))))
theorem aFt (a0:Zt)(a1:Zt):Con Tryz.prog 106 [(.a (k3 a0)),(.a (k3 a1))] [] (iv (cB a0 a1)) []:=by
 refine aK Tryz.func106 (by kernel_rfl) fun cx hcx=>?_
 have e:=Eq.refl (cB a0 a1);conv at e=>rhs;simp only [cB]
 rw [e]
 exact rt [] [] [] hcx (by kernel_rfl)
def F78 (a0:Int)(a1:Int)(a2:Int):Bool :=
 (bif (decide ((a0:Int)≥a1)) then
  (decide ((a0:Int)≤a2))
 else
  false)
theorem C78 (a0:Int)(a1:Int)(a2:Int):Con Tryz.prog 78 [(iv a0),(iv a1),(iv a2)] [] (.v (.bool (F78 a0 a1 a2))) []:=by
 refine aK Tryz.func78 (by kernel_rfl) fun cx hcx=>?_
 cases h0:(decide ((a0:Int)≥a1)) with
 | true =>
  have q0:=bY h0
  have e:=Eq.refl (F78 a0 a1 a2);conv at e=>rhs;simp only [F78,h0,aI]
  rw [e]
  exact rt [.d h0] [] [] hcx (by kernel_rfl)
 | false =>
  have q0:=cG h0
  have e:=Eq.refl (F78 a0 a1 a2);conv at e=>rhs;simp only [F78,h0,aI]
  rw [e]
  exact rt [.d h0] [] [] hcx (by kernel_rfl)
def F79 (a0:Zt)(a1:Int):Bool :=
 (bif (F78 a0.1 (W (0 - a1)) a1) then
  (bif (F78 a0.2.1 (W (0 - a1)) a1) then
   (F78 a0.2.2 (W (0 - a1)) a1)
  else
   false)
 else
  false)
theorem C79 (a0:Zt)(a1:Int):Con Tryz.prog 79 [(.a (k3 a0)),(iv a1)] [] (.v (.bool (F79 a0 a1))) []:=by
 refine aK Tryz.func79 (by kernel_rfl) fun cx hcx=>?_
 let t0:List (St Tryz.prog):=[.c [] (C78 a0.1 (W (0 - a1)) a1)]
 cases h0:(F78 a0.1 (W (0 - a1)) a1) with
 | true =>
  let t1:List (St Tryz.prog):=(t0++[.d h0,.c [] (C78 a0.2.1 (W (0 - a1)) a1)])
  cases h1:(F78 a0.2.1 (W (0 - a1)) a1) with
  | true =>
   have e:=Eq.refl (F79 a0 a1);conv at e=>rhs;simp only [F79,h0,h1,aI]
   rw [e]
   exact rt (t1++[.d h1,.c [] (C78 a0.2.2 (W (0 - a1)) a1)]) [] [] hcx (by kernel_rfl)
  | false =>
   have e:=Eq.refl (F79 a0 a1);conv at e=>rhs;simp only [F79,h0,h1,aI]
   rw [e]
   exact rt (t1++[.d h1]) [] [] hcx (by kernel_rfl)
 | false =>
  have e:=Eq.refl (F79 a0 a1);conv at e=>rhs;simp only [F79,h0,aI]
  rw [e]
  exact rt (t0++[.d h0]) [] [] hcx (by kernel_rfl)
def nN (a0:Zt×Zt×Zt):Int :=
 (bif (!(F79 a0.1 64)) then
  1
 else
  (bif (!(F79 a0.2.1 64)) then
   1
  else
   (bif (!(F79 a0.2.2 64)) then
    1
   else
    (bif ((((lC a0).1:Int) == 0)&&((((lC a0).2.1:Int) == 0)&&((((lC a0).2.2:Int) == 0)&&true))) then
     6
    else
     0))))
theorem aZ8 (a0:Zt×Zt×Zt):Con Tryz.prog 160 [(.a (k9 a0))] [] (iv (nN a0)) []:=by
 refine aK Tryz.func160 (by kernel_rfl) fun cx hcx=>?_
 let t0:List (St Tryz.prog):=[.c [] (C79 a0.1 64)]
 cases h0:(!(F79 a0.1 64)) with
 | true =>
  have e:=Eq.refl (nN a0);conv at e=>rhs;simp only [nN,h0,aI]
  rw [e]
  exact rt (t0++[.d h0]) [] [] hcx (by kernel_rfl)
 | false =>
  let t1:List (St Tryz.prog):=(t0++[.d h0,.c [] (C79 a0.2.1 64)])
  cases h1:(!(F79 a0.2.1 64)) with
  | true =>
   have e:=Eq.refl (nN a0);conv at e=>rhs;simp only [nN,h0,h1,aI]
   rw [e]
   exact rt (t1++[.d h1]) [] [] hcx (by kernel_rfl)
  | false =>
   let t2:List (St Tryz.prog):=(t1++[.d h1,.c [] (C79 a0.2.2 64)])
   cases h2:(!(F79 a0.2.2 64)) with
   | true =>
    have e:=Eq.refl (nN a0);conv at e=>rhs;simp only [nN,h0,h1,h2,aI]
    rw [e]
    exact rt (t2++[.d h2]) [] [] hcx (by kernel_rfl)
   | false =>
    let t3:List (St Tryz.prog):=(t2++[.d h2,.c [] (C80 a0)])
    cases h3:((((lC a0).1:Int) == 0)&&((((lC a0).2.1:Int) == 0)&&((((lC a0).2.2:Int) == 0)&&true))) with
    | true =>
     have e:=Eq.refl (nN a0);conv at e=>rhs;simp only [nN,h0,h1,h2,h3,aI]
     rw [e]
     exact rt (t3++[.d h3]) [] [] hcx (by kernel_rfl)
    | false =>
     have e:=Eq.refl (nN a0);conv at e=>rhs;simp only [nN,h0,h1,h2,h3,aI]
     rw [e]
     exact rt (t3++[.d h3]) [] [] hcx (by kernel_rfl)
def aFu (a0:Int)(a1:Int)(a2:Int):Bool :=
 (bif (decide ((a0:Int)≥a1)) then
  (decide ((a0:Int)≤a2))
 else
  false)
theorem bD0 (a0:Int)(a1:Int)(a2:Int):Con Tryz.prog 161 [(iv a0),(iv a1),(iv a2)] [] (.v (.bool (aFu a0 a1 a2))) []:=by
 refine aK Tryz.func161 (by kernel_rfl) fun cx hcx=>?_
 cases h0:(decide ((a0:Int)≥a1)) with
 | true =>
  have q0:=bY h0
  have e:=Eq.refl (aFu a0 a1 a2);conv at e=>rhs;simp only [aFu,h0,aI]
  rw [e]
  exact rt [.d h0] [] [] hcx (by kernel_rfl)
 | false =>
  have q0:=cG h0
  have e:=Eq.refl (aFu a0 a1 a2);conv at e=>rhs;simp only [aFu,h0,aI]
  rw [e]
  exact rt [.d h0] [] [] hcx (by kernel_rfl)
def mA (a0:Zt×Zt×Zt)(a1:Zt×Zt×Zt)(a2:Int):Int :=
 (bif (((nN a0):Int) != 0) then
  (nN a0)
 else
  (bif (((nN a1):Int) != 0) then
   (nN a1)
  else
   (bif (!(aFu a2 0 2)) then
    1
   else
    0)))
theorem aZ9 (a0:Zt×Zt×Zt)(a1:Zt×Zt×Zt)(a2:Int):Con Tryz.prog 152 [(.a (k9 a0)),(.a (k9 a1)),(iv a2)] [] (iv (mA a0 a1 a2)) []:=by
 refine aK Tryz.func152 (by kernel_rfl) fun cx hcx=>?_
 let t0:List (St Tryz.prog):=[.c [] (aZ8 a0)]
 cases h0:(((nN a0):Int) != 0) with
 | true =>
  have q0:=bne_iff_ne.1 h0
  have e:=Eq.refl (mA a0 a1 a2);conv at e=>rhs;simp only [mA,h0,aI]
  rw [e]
  exact rt (t0++[.d h0]) [] [] hcx (by kernel_rfl)
 | false =>
  have q0:=bne_eq_false_iff_eq.1 h0
  let t1:List (St Tryz.prog):=(t0++[.d h0,.c [] (aZ8 a1)])
  cases h1:(((nN a1):Int) != 0) with
  | true =>
   have q1:=bne_iff_ne.1 h1
   have e:=Eq.refl (mA a0 a1 a2);conv at e=>rhs;simp only [mA,h0,h1,aI]
   rw [e]
   exact rt (t1++[.d h1]) [] [] hcx (by kernel_rfl)
  | false =>
   have q1:=bne_eq_false_iff_eq.1 h1
   let t2:List (St Tryz.prog):=(t1++[.d h1,.c [] (bD0 a2 0 2)])
   cases h2:(!(aFu a2 0 2)) with
   | true =>
    have e:=Eq.refl (mA a0 a1 a2);conv at e=>rhs;simp only [mA,h0,h1,h2,aI]
    rw [e]
    exact rt (t2++[.d h2]) [] [] hcx (by kernel_rfl)
   | false =>
    have e:=Eq.refl (mA a0 a1 a2);conv at e=>rhs;simp only [mA,h0,h1,h2,aI]
    rw [e]
    exact rt (t2++[.d h2]) [] [] hcx (by kernel_rfl)
def dK (x:Zt×Zt×Zt):List SV:=[(iv x.1.1),(iv x.1.2.1),(iv x.1.2.2),(iv x.2.1.1),(iv x.2.1.2.1),(iv x.2.1.2.2),(iv x.2.2.1),(iv x.2.2.2.1),(iv x.2.2.2.2)]
theorem cU (x:Zt×Zt×Zt):(dK x).length=9:=rfl
def aC (a0:Zt)(a1:Int):Zt :=
 ((W (a1*a0.1)),(W (a1*a0.2.1)),(W (a1*a0.2.2)))
theorem aN3 (a0:Zt)(a1:Int):Con Tryz.prog 154 [(.a (k3 a0)),(iv a1)] [] (.a (k3 (aC a0 a1))) []:=by
 refine aK Tryz.func154 (by kernel_rfl) fun cx hcx=>?_
 have e:=Eq.refl (aC a0 a1);conv at e=>rhs;simp only [aC]
 rw [e]
 exact rt [] [] [] hcx (by kernel_rfl)
def aQ (a0:Zt)(a1:Zt):Zt :=
 ((W (Int.tdiv (W (a0.1+a1.1)) 2)),(W (Int.tdiv (W (a0.2.1+a1.2.1)) 2)),(W (Int.tdiv (W (a0.2.2+a1.2.2)) 2)))
theorem aW2 (a0:Zt)(a1:Zt):Con Tryz.prog 169 [(.a (k3 a0)),(.a (k3 a1))] [] (.a (k3 (aQ a0 a1))) []:=by
 refine aK Tryz.func169 (by kernel_rfl) fun cx hcx=>?_
 have e:=Eq.refl (aQ a0 a1);conv at e=>rhs;simp only [aQ]
 rw [e]
 exact rt [.p (show(2:Int)≠0 from by decide),.p (show(2:Int)≠0 from by decide),.p (show(2:Int)≠0 from by decide)] [] [] hcx (by kernel_rfl)
noncomputable def aJ3:Code:=(aE [1,1,0,1,0,1,0,1,0,1] [0] (aH Tryz.f157) []).1
noncomputable def aJ4 (m0:Nat):List K:=(aE [1,1,0,1,0,1,0,1,0,1] [m0] (aH Tryz.f157) []).2
def aFv (a0:Zt×Zt×Zt)(a1:Int)(v13c:List SV)(v13n:Nat)(v14c:List SV)(v14n:Nat)(v15 v16:Int):LS:=⟨iJ 76 [(1,(iv a1)),(5,(.s 0 0 v13n 9)),(6,(iv v15)),(7,(.s 1 0 v14n 9)),(8,(iv v16))],[(.live true true v13c),(.live true true v14c)]⟩
def kK (a0:Zt×Zt×Zt)(a1:Int):(List (Zt×Zt×Zt))×(List (Zt×Zt×Zt))×Int×Int→((List (Zt×Zt×Zt))×(List (Zt×Zt×Zt))×Int×Int)⊕(((List (Zt×Zt×Zt))×Int)⊕(List (Zt×Zt×Zt)))
 | (v13,v14,v15,v16) =>
  (bif (decide ((v16:Int) < (v13.length:Int))) then
   (.inl (v13,(v14++[((aC (v13.getD (toNat v16) default).1 2),(aQ (aC (v13.getD (toNat v16) default).1 2) (aC (v13.getD (toNat v16) default).2.1 2)),(aQ (aC (v13.getD (toNat v16) default).2.2 2) (aC (v13.getD (toNat v16) default).1 2))),((aQ (aC (v13.getD (toNat v16) default).1 2) (aC (v13.getD (toNat v16) default).2.1 2)),(aC (v13.getD (toNat v16) default).2.1 2),(aQ (aC (v13.getD (toNat v16) default).2.1 2) (aC (v13.getD (toNat v16) default).2.2 2))),((aQ (aC (v13.getD (toNat v16) default).2.2 2) (aC (v13.getD (toNat v16) default).1 2)),(aQ (aC (v13.getD (toNat v16) default).2.1 2) (aC (v13.getD (toNat v16) default).2.2 2)),(aC (v13.getD (toNat v16) default).2.2 2)),((aQ (aC (v13.getD (toNat v16) default).1 2) (aC (v13.getD (toNat v16) default).2.1 2)),(aQ (aC (v13.getD (toNat v16) default).2.1 2) (aC (v13.getD (toNat v16) default).2.2 2)),(aQ (aC (v13.getD (toNat v16) default).2.2 2) (aC (v13.getD (toNat v16) default).1 2)))]),v15,(v16+1)))
  else
   (.inr (.inl (v14,(v15+1)))))
noncomputable def aFw:Code:=(aE [1,1,0,1] [] (aH Tryz.f157) []).1
noncomputable def aFx:List K:=(aE [1,1,0,1] [] (aH Tryz.f157) []).2
def aAb (a0:Zt×Zt×Zt)(a1:Int)(v11c:List SV)(v11n:Nat)(v12:Int):LS:=⟨iJ 76 [(1,(iv a1)),(5,(.s 0 0 v11n 9)),(6,(iv v12))],[(.live true true v11c)]⟩
def gH (a0:Zt×Zt×Zt)(a1:Int):(List (Zt×Zt×Zt))×Int→((List (Zt×Zt×Zt))×Int)⊕(List (Zt×Zt×Zt))
 | (v11,v12) =>
  (bif (decide ((v12:Int) < a1)) then
   (aB (kK a0 a1) (toNat ((v11.length:Int) - 0)+1) (v11,([]:List (Zt×Zt×Zt)),v12,0))
  else
   (.inr v11))
theorem aW3 (a0:Zt×Zt×Zt)(a1:Int)(ha:0≤a1∧a1≤3) {cx:Cx} (hcx:cx.base=0)
   (n0:Nat) (g0:∀(v11:List (Zt×Zt×Zt)) (v12:Int),(0≤v12)∧(v12=0∧v11.length≤1∨v12=1∧v11.length≤4∨v12=2∧v11.length≤16∨3≤v12∧v11.length≤64)→toNat (a1 - v12) < n0→Aw.Good Tryz.prog none 9 (bodyPost Tryz.prog Tryz.f157 (RR cx (.s 0 0 (aB (gH a0 a1) n0 (v11,v12)).length 9) [(.live true true (flat dK (aB (gH a0 a1) n0 (v11,v12))))] [])) cx [] (.l aFw n0::aFx) (aAb a0 a1 (flat dK v11) v11.length v12)):∀(n:Nat) (v13:List (Zt×Zt×Zt)) (v14:List (Zt×Zt×Zt)) (v15 v16:Int),(0≤v16)∧(v14.length=4*toNat v16)∧(v16≤v13.length)∧((0≤v15))∧((v15=0∧v13.length≤1∨v15=1∧v13.length≤4∨v15=2∧v13.length≤16∨3≤v15∧v13.length≤64))∧(v15 < a1)∧(toNat (a1 - v15) < n0+1)→toNat ((v13.length:Int) - v16) < n→Aw.Good Tryz.prog none 9 (bodyPost Tryz.prog Tryz.f157 (RR cx (.s 0 0 (iX (gH a0 a1) n0 (aB (kK a0 a1) n (v13,v14,v15,v16))).length 9) [(.live true true (flat dK (iX (gH a0 a1) n0 (aB (kK a0 a1) n (v13,v14,v15,v16)))))] [])) cx [] (.l aJ3 n::aJ4 n0) (aFv a0 a1 (flat dK v13) v13.length (flat dK v14) v14.length v15 v16):=by
 intro n
 induction n with
 | zero=>intro v13 v14 v15 v16 hi hn;exact absurd hn (iF _)
 | succ n ih =>
   intro v13 v14 v15 v16 hi hn
   refine aG ?_
   cases h0:(decide ((v16:Int) < (v13.length:Int))) with
   | true =>
    have q0:=bY h0
    have e:=Eq.refl (kK a0 a1 (v13,v14,v15,v16));conv at e=>rhs;simp only [kK,h0,aI]
    rw [aA e]
    refine ba [.d h0,.i v16 (v13.length),.L cU v13 v16 0 3,.c [] (aN3 (v13.getD (toNat v16) default).1 2),.i v16 (v13.length),.L cU v13 v16 3 3,.c [] (aN3 (v13.getD (toNat v16) default).2.1 2),.i v16 (v13.length),.L cU v13 v16 6 3,.c [] (aN3 (v13.getD (toNat v16) default).2.2 2),.c [] (aW2 (aC (v13.getD (toNat v16) default).1 2) (aC (v13.getD (toNat v16) default).2.1 2)),.c [] (aW2 (aC (v13.getD (toNat v16) default).2.1 2) (aC (v13.getD (toNat v16) default).2.2 2)),.c [] (aW2 (aC (v13.getD (toNat v16) default).2.2 2) (aC (v13.getD (toNat v16) default).1 2)),.p (show((flat dK v14).length=v14.length*9∧v14.length+4≤2 ^ 40∧(v14.length+4)*72≤2 ^ 47) from gF cU (by omega) (by omega))] [] [1,5,6,7,8] [0,9] hcx (m:=n) aJ3 (aJ4 n0) (aFv a0 a1 (flat dK v13) (v13.length) (flat dK v14++[(iv (aC (v13.getD (toNat v16) default).1 2).1),(iv (aC (v13.getD (toNat v16) default).1 2).2.1),(iv (aC (v13.getD (toNat v16) default).1 2).2.2),(iv (aQ (aC (v13.getD (toNat v16) default).1 2) (aC (v13.getD (toNat v16) default).2.1 2)).1),(iv (aQ (aC (v13.getD (toNat v16) default).1 2) (aC (v13.getD (toNat v16) default).2.1 2)).2.1),(iv (aQ (aC (v13.getD (toNat v16) default).1 2) (aC (v13.getD (toNat v16) default).2.1 2)).2.2),(iv (aQ (aC (v13.getD (toNat v16) default).2.2 2) (aC (v13.getD (toNat v16) default).1 2)).1),(iv (aQ (aC (v13.getD (toNat v16) default).2.2 2) (aC (v13.getD (toNat v16) default).1 2)).2.1),(iv (aQ (aC (v13.getD (toNat v16) default).2.2 2) (aC (v13.getD (toNat v16) default).1 2)).2.2),(iv (aQ (aC (v13.getD (toNat v16) default).1 2) (aC (v13.getD (toNat v16) default).2.1 2)).1),(iv (aQ (aC (v13.getD (toNat v16) default).1 2) (aC (v13.getD (toNat v16) default).2.1 2)).2.1),(iv (aQ (aC (v13.getD (toNat v16) default).1 2) (aC (v13.getD (toNat v16) default).2.1 2)).2.2),(iv (aC (v13.getD (toNat v16) default).2.1 2).1),(iv (aC (v13.getD (toNat v16) default).2.1 2).2.1),(iv (aC (v13.getD (toNat v16) default).2.1 2).2.2),(iv (aQ (aC (v13.getD (toNat v16) default).2.1 2) (aC (v13.getD (toNat v16) default).2.2 2)).1),(iv (aQ (aC (v13.getD (toNat v16) default).2.1 2) (aC (v13.getD (toNat v16) default).2.2 2)).2.1),(iv (aQ (aC (v13.getD (toNat v16) default).2.1 2) (aC (v13.getD (toNat v16) default).2.2 2)).2.2),(iv (aQ (aC (v13.getD (toNat v16) default).2.2 2) (aC (v13.getD (toNat v16) default).1 2)).1),(iv (aQ (aC (v13.getD (toNat v16) default).2.2 2) (aC (v13.getD (toNat v16) default).1 2)).2.1),(iv (aQ (aC (v13.getD (toNat v16) default).2.2 2) (aC (v13.getD (toNat v16) default).1 2)).2.2),(iv (aQ (aC (v13.getD (toNat v16) default).2.1 2) (aC (v13.getD (toNat v16) default).2.2 2)).1),(iv (aQ (aC (v13.getD (toNat v16) default).2.1 2) (aC (v13.getD (toNat v16) default).2.2 2)).2.1),(iv (aQ (aC (v13.getD (toNat v16) default).2.1 2) (aC (v13.getD (toNat v16) default).2.2 2)).2.2),(iv (aC (v13.getD (toNat v16) default).2.2 2).1),(iv (aC (v13.getD (toNat v16) default).2.2 2).2.1),(iv (aC (v13.getD (toNat v16) default).2.2 2).2.2),(iv (aQ (aC (v13.getD (toNat v16) default).1 2) (aC (v13.getD (toNat v16) default).2.1 2)).1),(iv (aQ (aC (v13.getD (toNat v16) default).1 2) (aC (v13.getD (toNat v16) default).2.1 2)).2.1),(iv (aQ (aC (v13.getD (toNat v16) default).1 2) (aC (v13.getD (toNat v16) default).2.1 2)).2.2),(iv (aQ (aC (v13.getD (toNat v16) default).2.1 2) (aC (v13.getD (toNat v16) default).2.2 2)).1),(iv (aQ (aC (v13.getD (toNat v16) default).2.1 2) (aC (v13.getD (toNat v16) default).2.2 2)).2.1),(iv (aQ (aC (v13.getD (toNat v16) default).2.1 2) (aC (v13.getD (toNat v16) default).2.2 2)).2.2),(iv (aQ (aC (v13.getD (toNat v16) default).2.2 2) (aC (v13.getD (toNat v16) default).1 2)).1),(iv (aQ (aC (v13.getD (toNat v16) default).2.2 2) (aC (v13.getD (toNat v16) default).1 2)).2.1),(iv (aQ (aC (v13.getD (toNat v16) default).2.2 2) (aC (v13.getD (toNat v16) default).1 2)).2.2)]) (v14.length+4) v15 (W (v16+1))) (by kernel_rfl) ?_
    have z0:(W (v16+1))=(v16+1):=aD (by omega) (by omega)
    have z1:(flat dK v14++[(iv (aC (v13.getD (toNat v16) default).1 2).1),(iv (aC (v13.getD (toNat v16) default).1 2).2.1),(iv (aC (v13.getD (toNat v16) default).1 2).2.2),(iv (aQ (aC (v13.getD (toNat v16) default).1 2) (aC (v13.getD (toNat v16) default).2.1 2)).1),(iv (aQ (aC (v13.getD (toNat v16) default).1 2) (aC (v13.getD (toNat v16) default).2.1 2)).2.1),(iv (aQ (aC (v13.getD (toNat v16) default).1 2) (aC (v13.getD (toNat v16) default).2.1 2)).2.2),(iv (aQ (aC (v13.getD (toNat v16) default).2.2 2) (aC (v13.getD (toNat v16) default).1 2)).1),(iv (aQ (aC (v13.getD (toNat v16) default).2.2 2) (aC (v13.getD (toNat v16) default).1 2)).2.1),(iv (aQ (aC (v13.getD (toNat v16) default).2.2 2) (aC (v13.getD (toNat v16) default).1 2)).2.2),(iv (aQ (aC (v13.getD (toNat v16) default).1 2) (aC (v13.getD (toNat v16) default).2.1 2)).1),(iv (aQ (aC (v13.getD (toNat v16) default).1 2) (aC (v13.getD (toNat v16) default).2.1 2)).2.1),(iv (aQ (aC (v13.getD (toNat v16) default).1 2) (aC (v13.getD (toNat v16) default).2.1 2)).2.2),(iv (aC (v13.getD (toNat v16) default).2.1 2).1),(iv (aC (v13.getD (toNat v16) default).2.1 2).2.1),(iv (aC (v13.getD (toNat v16) default).2.1 2).2.2),(iv (aQ (aC (v13.getD (toNat v16) default).2.1 2) (aC (v13.getD (toNat v16) default).2.2 2)).1),(iv (aQ (aC (v13.getD (toNat v16) default).2.1 2) (aC (v13.getD (toNat v16) default).2.2 2)).2.1),(iv (aQ (aC (v13.getD (toNat v16) default).2.1 2) (aC (v13.getD (toNat v16) default).2.2 2)).2.2),(iv (aQ (aC (v13.getD (toNat v16) default).2.2 2) (aC (v13.getD (toNat v16) default).1 2)).1),(iv (aQ (aC (v13.getD (toNat v16) default).2.2 2) (aC (v13.getD (toNat v16) default).1 2)).2.1),(iv (aQ (aC (v13.getD (toNat v16) default).2.2 2) (aC (v13.getD (toNat v16) default).1 2)).2.2),(iv (aQ (aC (v13.getD (toNat v16) default).2.1 2) (aC (v13.getD (toNat v16) default).2.2 2)).1),(iv (aQ (aC (v13.getD (toNat v16) default).2.1 2) (aC (v13.getD (toNat v16) default).2.2 2)).2.1),(iv (aQ (aC (v13.getD (toNat v16) default).2.1 2) (aC (v13.getD (toNat v16) default).2.2 2)).2.2),(iv (aC (v13.getD (toNat v16) default).2.2 2).1),(iv (aC (v13.getD (toNat v16) default).2.2 2).2.1),(iv (aC (v13.getD (toNat v16) default).2.2 2).2.2),(iv (aQ (aC (v13.getD (toNat v16) default).1 2) (aC (v13.getD (toNat v16) default).2.1 2)).1),(iv (aQ (aC (v13.getD (toNat v16) default).1 2) (aC (v13.getD (toNat v16) default).2.1 2)).2.1),(iv (aQ (aC (v13.getD (toNat v16) default).1 2) (aC (v13.getD (toNat v16) default).2.1 2)).2.2),(iv (aQ (aC (v13.getD (toNat v16) default).2.1 2) (aC (v13.getD (toNat v16) default).2.2 2)).1),(iv (aQ (aC (v13.getD (toNat v16) default).2.1 2) (aC (v13.getD (toNat v16) default).2.2 2)).2.1),(iv (aQ (aC (v13.getD (toNat v16) default).2.1 2) (aC (v13.getD (toNat v16) default).2.2 2)).2.2),(iv (aQ (aC (v13.getD (toNat v16) default).2.2 2) (aC (v13.getD (toNat v16) default).1 2)).1),(iv (aQ (aC (v13.getD (toNat v16) default).2.2 2) (aC (v13.getD (toNat v16) default).1 2)).2.1),(iv (aQ (aC (v13.getD (toNat v16) default).2.2 2) (aC (v13.getD (toNat v16) default).1 2)).2.2)])=(flat dK (v14++[((aC (v13.getD (toNat v16) default).1 2),(aQ (aC (v13.getD (toNat v16) default).1 2) (aC (v13.getD (toNat v16) default).2.1 2)),(aQ (aC (v13.getD (toNat v16) default).2.2 2) (aC (v13.getD (toNat v16) default).1 2))),((aQ (aC (v13.getD (toNat v16) default).1 2) (aC (v13.getD (toNat v16) default).2.1 2)),(aC (v13.getD (toNat v16) default).2.1 2),(aQ (aC (v13.getD (toNat v16) default).2.1 2) (aC (v13.getD (toNat v16) default).2.2 2))),((aQ (aC (v13.getD (toNat v16) default).2.2 2) (aC (v13.getD (toNat v16) default).1 2)),(aQ (aC (v13.getD (toNat v16) default).2.1 2) (aC (v13.getD (toNat v16) default).2.2 2)),(aC (v13.getD (toNat v16) default).2.2 2)),((aQ (aC (v13.getD (toNat v16) default).1 2) (aC (v13.getD (toNat v16) default).2.1 2)),(aQ (aC (v13.getD (toNat v16) default).2.1 2) (aC (v13.getD (toNat v16) default).2.2 2)),(aQ (aC (v13.getD (toNat v16) default).2.2 2) (aC (v13.getD (toNat v16) default).1 2)))])):=(bN (c:=dK) (l:=v14) (m:=[((aC (v13.getD (toNat v16) default).1 2),(aQ (aC (v13.getD (toNat v16) default).1 2) (aC (v13.getD (toNat v16) default).2.1 2)),(aQ (aC (v13.getD (toNat v16) default).2.2 2) (aC (v13.getD (toNat v16) default).1 2))),((aQ (aC (v13.getD (toNat v16) default).1 2) (aC (v13.getD (toNat v16) default).2.1 2)),(aC (v13.getD (toNat v16) default).2.1 2),(aQ (aC (v13.getD (toNat v16) default).2.1 2) (aC (v13.getD (toNat v16) default).2.2 2))),((aQ (aC (v13.getD (toNat v16) default).2.2 2) (aC (v13.getD (toNat v16) default).1 2)),(aQ (aC (v13.getD (toNat v16) default).2.1 2) (aC (v13.getD (toNat v16) default).2.2 2)),(aC (v13.getD (toNat v16) default).2.2 2)),((aQ (aC (v13.getD (toNat v16) default).1 2) (aC (v13.getD (toNat v16) default).2.1 2)),(aQ (aC (v13.getD (toNat v16) default).2.1 2) (aC (v13.getD (toNat v16) default).2.2 2)),(aQ (aC (v13.getD (toNat v16) default).2.2 2) (aC (v13.getD (toNat v16) default).1 2)))])).symm
    have z2:(v14.length+4)=(v14++[((aC (v13.getD (toNat v16) default).1 2),(aQ (aC (v13.getD (toNat v16) default).1 2) (aC (v13.getD (toNat v16) default).2.1 2)),(aQ (aC (v13.getD (toNat v16) default).2.2 2) (aC (v13.getD (toNat v16) default).1 2))),((aQ (aC (v13.getD (toNat v16) default).1 2) (aC (v13.getD (toNat v16) default).2.1 2)),(aC (v13.getD (toNat v16) default).2.1 2),(aQ (aC (v13.getD (toNat v16) default).2.1 2) (aC (v13.getD (toNat v16) default).2.2 2))),((aQ (aC (v13.getD (toNat v16) default).2.2 2) (aC (v13.getD (toNat v16) default).1 2)),(aQ (aC (v13.getD (toNat v16) default).2.1 2) (aC (v13.getD (toNat v16) default).2.2 2)),(aC (v13.getD (toNat v16) default).2.2 2)),((aQ (aC (v13.getD (toNat v16) default).1 2) (aC (v13.getD (toNat v16) default).2.1 2)),(aQ (aC (v13.getD (toNat v16) default).2.1 2) (aC (v13.getD (toNat v16) default).2.2 2)),(aQ (aC (v13.getD (toNat v16) default).2.2 2) (aC (v13.getD (toNat v16) default).1 2)))]).length:=eF v14 [((aC (v13.getD (toNat v16) default).1 2),(aQ (aC (v13.getD (toNat v16) default).1 2) (aC (v13.getD (toNat v16) default).2.1 2)),(aQ (aC (v13.getD (toNat v16) default).2.2 2) (aC (v13.getD (toNat v16) default).1 2))),((aQ (aC (v13.getD (toNat v16) default).1 2) (aC (v13.getD (toNat v16) default).2.1 2)),(aC (v13.getD (toNat v16) default).2.1 2),(aQ (aC (v13.getD (toNat v16) default).2.1 2) (aC (v13.getD (toNat v16) default).2.2 2))),((aQ (aC (v13.getD (toNat v16) default).2.2 2) (aC (v13.getD (toNat v16) default).1 2)),(aQ (aC (v13.getD (toNat v16) default).2.1 2) (aC (v13.getD (toNat v16) default).2.2 2)),(aC (v13.getD (toNat v16) default).2.2 2)),((aQ (aC (v13.getD (toNat v16) default).1 2) (aC (v13.getD (toNat v16) default).2.1 2)),(aQ (aC (v13.getD (toNat v16) default).2.1 2) (aC (v13.getD (toNat v16) default).2.2 2)),(aQ (aC (v13.getD (toNat v16) default).2.2 2) (aC (v13.getD (toNat v16) default).1 2)))] rfl
    rw [z0,z1,z2]
    exact ih v13 (v14++[((aC (v13.getD (toNat v16) default).1 2),(aQ (aC (v13.getD (toNat v16) default).1 2) (aC (v13.getD (toNat v16) default).2.1 2)),(aQ (aC (v13.getD (toNat v16) default).2.2 2) (aC (v13.getD (toNat v16) default).1 2))),((aQ (aC (v13.getD (toNat v16) default).1 2) (aC (v13.getD (toNat v16) default).2.1 2)),(aC (v13.getD (toNat v16) default).2.1 2),(aQ (aC (v13.getD (toNat v16) default).2.1 2) (aC (v13.getD (toNat v16) default).2.2 2))),((aQ (aC (v13.getD (toNat v16) default).2.2 2) (aC (v13.getD (toNat v16) default).1 2)),(aQ (aC (v13.getD (toNat v16) default).2.1 2) (aC (v13.getD (toNat v16) default).2.2 2)),(aC (v13.getD (toNat v16) default).2.2 2)),((aQ (aC (v13.getD (toNat v16) default).1 2) (aC (v13.getD (toNat v16) default).2.1 2)),(aQ (aC (v13.getD (toNat v16) default).2.1 2) (aC (v13.getD (toNat v16) default).2.2 2)),(aQ (aC (v13.getD (toNat v16) default).2.2 2) (aC (v13.getD (toNat v16) default).1 2)))]) v15 (v16+1) (by refine⟨?_,?_,?_,?_,?_,?_,?_⟩<;>(try simp only [Ls])<;>first | omega | assumption | exact hi.2.1 | exact hi.2.2.1 | exact hi.2.2.2.1 | exact hi.2.2.2.2.1 | exact hi.2.2.2.2.2.1 | exact hi.2.2.2.2.2.2.1 | simp) (by(try simp only [Ls]);omega)
   | false =>
    have q0:=cG h0
    have e:=Eq.refl (kK a0 a1 (v13,v14,v15,v16));conv at e=>rhs;simp only [kK,h0,aI]
    rw [aF,e]
    refine ba [.d h0] [] [1,5,6] [1] hcx (m:=n0) aFw (aFx) (aAb a0 a1 (flat dK v14) (v14.length) (W (v15+1))) (by kernel_rfl) ?_
    have z0:(W (v15+1))=(v15+1):=aD (by omega) (by omega)
    rw [z0]
    exact g0 v14 (v15+1) (by refine⟨?_,?_⟩<;>(try simp only [Ls])<;>first | omega | assumption | simp) (by(try simp only [Ls]);omega)
theorem aW4 (a0:Zt×Zt×Zt)(a1:Int)(ha:0≤a1∧a1≤3) {cx:Cx} (hcx:cx.base=0):∀(n:Nat)(v11:List (Zt×Zt×Zt))(v12:Int),(0≤v12)∧(v12=0∧v11.length≤1∨v12=1∧v11.length≤4∨v12=2∧v11.length≤16∨3≤v12∧v11.length≤64)→toNat (a1 - v12) < n→Aw.Good Tryz.prog none 9 (bodyPost Tryz.prog Tryz.f157 (RR cx (.s 0 0 (aB (gH a0 a1) n (v11,v12)).length 9) [(.live true true (flat dK (aB (gH a0 a1) n (v11,v12))))] [])) cx [] (.l aFw n::aFx) (aAb a0 a1 (flat dK v11) v11.length v12):=by
 intro n
 induction n with
 | zero=>intro v11 v12 hi hn;exact absurd hn (iF _)
 | succ n ih =>
   intro v11 v12 hi hn
   refine aG ?_
   cases h0:(decide ((v12:Int) < a1)) with
   | true =>
    have q0:=bY h0
    have e:=Eq.refl (gH a0 a1 (v11,v12));conv at e=>rhs;simp only [gH,h0,aI]
    rw [aF,e]
    refine en [.d h0] [.slot 7 9] [1,5,6,7,8] [0,1] hcx aJ3 (aJ4 n) (aFv a0 a1 (flat dK v11) (v11.length) (flat dK ([]:List (Zt×Zt×Zt))) 0 v12 0) (toNat ((v11.length:Int) - 0)+1) (by kernel_rfl) ?_
    exact aW3 a0 a1 ha hcx n ih (toNat ((v11.length:Int) - 0)+1) v11 ([]:List (Zt×Zt×Zt)) v12 0 (by refine⟨?_,?_,?_,?_,?_,?_,?_⟩<;>(try simp only [Ls])<;>first | omega | assumption | exact hi.2.1 | exact hi.2.2.1 | exact hi.2.2.2.1 | exact hi.2.2.2.2.1 | exact hi.2.2.2.2.2.1 | exact hi.2.2.2.2.2.2.1 | simp) (by(try simp only [Ls]);omega)
   | false =>
    have q0:=cG h0
    have e:=Eq.refl (gH a0 a1 (v11,v12));conv at e=>rhs;simp only [gH,h0,aI]
    rw [aF,e]
    exact rt [.d h0] [] [0] hcx (by kernel_rfl)
def cD (a0:Zt×Zt×Zt)(a1:Int):List (Zt×Zt×Zt) :=
 (aB (gH a0 a1) (toNat (a1 - 0)+1) (([a0]:List (Zt×Zt×Zt)),0))
theorem bAa (a0:Zt×Zt×Zt)(a1:Int)(ha:0≤a1∧a1≤3):Con Tryz.prog 157 [(.a (k9 a0)),(iv a1)] [] (.s 0 0 (cD a0 a1).length 9) [(.live true true (flat dK (cD a0 a1)))]:=by
 refine aK Tryz.func157 (by kernel_rfl) fun cx hcx=>?_
 have e:=Eq.refl (cD a0 a1);conv at e=>rhs;simp only [cD]
 rw [e]
 refine en [] [.sym 1 true] [1,5,6] [1] hcx aFw (aFx) (aAb a0 a1 (flat dK ([a0]:List (Zt×Zt×Zt))) 1 0) (toNat (a1 - 0)+1) (by kernel_rfl) ?_
 exact aW4 a0 a1 ha hcx (toNat (a1 - 0)+1) ([a0]:List (Zt×Zt×Zt)) 0 (by refine⟨?_,?_⟩<;>(try simp only [Ls])<;>first | omega | assumption | simp) (by(try simp only [Ls]);omega)
noncomputable def aBr:Code:=(aE [1,1,1,0,1] [] (aH Tryz.f156) []).1
noncomputable def aBs:List K:=(aE [1,1,1,0,1] [] (aH Tryz.f156) []).2
def wR (a0:List (Int×Int))(v1 v2 v3:Int):LS:=⟨iJ 39 [(0,(.s 0 0 a0.length 2)),(5,(iv v1)),(6,(iv v2)),(7,(iv v3))],[(.live false true (flat cO a0))]⟩
def fE (a0:List (Int×Int)):Zt→Zt⊕Zt
 | (v1,v2,v3) =>
  (bif (decide ((v3:Int) < (a0.length:Int))) then
   (bif (!(F51 (a0.getD (toNat v3) default))) then
    (.inr (0,0,1))
   else
    (.inl ((W (v1+(a0.getD (toNat v3) default).1)),(W (v2+(a0.getD (toNat v3) default).2)),(v3+1))))
  else
   (.inr (v1,v2,0)))
theorem aPr (a0:List (Int×Int))(l0:a0.length≤9223372036854775807) {cx:Cx} (hcx:cx.base=1):∀(n:Nat)(v1 v2 v3:Int),0≤v3→toNat ((a0.length:Int) - v3) < n→Aw.Good Tryz.prog none 9 (bodyPost Tryz.prog Tryz.f156 (RR cx (.t (k3 (aB (fE a0) n (v1,v2,v3)))) [] [])) cx [] (.l aBr n::aBs) (wR a0 v1 v2 v3):=by
 intro n
 induction n with
 | zero=>intro v1 v2 v3 hi hn;exact absurd hn (iF _)
 | succ n ih =>
   intro v1 v2 v3 hi hn
   refine aG ?_
   cases h0:(decide ((v3:Int) < (a0.length:Int))) with
   | true =>
    have q0:=bY h0
    let t1:List (St Tryz.prog):=[.d h0,.i v3 (a0.length),.L bZ a0 v3 0 2,.c [] (C51 (a0.getD (toNat v3) default))]
    cases h1:(!(F51 (a0.getD (toNat v3) default))) with
    | true =>
     have e:=Eq.refl (fE a0 (v1,v2,v3));conv at e=>rhs;simp only [fE,h0,h1,aI]
     rw [aF,e]
     exact rt (t1++[.d h1]) [] [] hcx (by kernel_rfl)
    | false =>
     have e:=Eq.refl (fE a0 (v1,v2,v3));conv at e=>rhs;simp only [fE,h0,h1,aI]
     rw [aA e]
     refine ba (t1++[.d h1,.i v3 (a0.length),.L bZ a0 v3 0 1,.i v3 (a0.length),.L bZ a0 v3 1 1]) [] [0,5,6,7] [] hcx (m:=n) aBr (aBs) (wR a0 (W (v1+(a0.getD (toNat v3) default).1)) (W (v2+(a0.getD (toNat v3) default).2)) (W (v3+1))) (by kernel_rfl) ?_
     have z0:(W (v3+1))=(v3+1):=aD (by omega) (by omega)
     rw [z0]
     exact ih (W (v1+(a0.getD (toNat v3) default).1)) (W (v2+(a0.getD (toNat v3) default).2)) (v3+1) (by(try simp only [Ls]);omega) (by(try simp only [Ls]);omega)
   | false =>
    have q0:=cG h0
    have e:=Eq.refl (fE a0 (v1,v2,v3));conv at e=>rhs;simp only [fE,h0,aI]
    rw [aF,e]
    exact rt [.d h0] [] [] hcx (by kernel_rfl)
def cL (a0:List (Int×Int)):Zt :=
 (bif (decide (((a0.length:Int):Int) > 10000)) then
  (0,0,4)
 else
  (aB (fE a0) (toNat ((a0.length:Int) - 0)+1) (0,0,0)))
theorem aPs (a0:List (Int×Int))(l0:a0.length≤9223372036854775807):Con Tryz.prog 156 [(.s 0 0 a0.length 2)] [(.live false true (flat cO a0))] (.t (k3 (cL a0))) []:=by
 refine aK Tryz.func156 (by kernel_rfl) fun cx hcx=>?_
 cases h0:(decide (((a0.length:Int):Int) > 10000)) with
 | true =>
  have q0:=bY h0
  have e:=Eq.refl (cL a0);conv at e=>rhs;simp only [cL,h0,aI]
  rw [e]
  exact rt [.d h0] [] [] hcx (by kernel_rfl)
 | false =>
  have q0:=cG h0
  have e:=Eq.refl (cL a0);conv at e=>rhs;simp only [cL,h0,aI]
  rw [e]
  refine en [.d h0] [] [0,5,6,7] [] hcx aBr (aBs) (wR a0 0 0 0) (toNat ((a0.length:Int) - 0)+1) (by kernel_rfl) ?_
  exact aPr a0 l0 hcx (toNat ((a0.length:Int) - 0)+1) 0 0 0 (by(try simp only [Ls]);omega) (by(try simp only [Ls]);omega)
def cZ (a0:List (Int×Int)):(Int×Int)×Int :=
 (bif (((cL a0).2.2:Int) != 0) then
  ((0,0),(cL a0).2.2)
 else
  ((iO (cL a0).1 (cL a0).2.1).1,(iO (cL a0).1 (cL a0).2.1).2))
theorem aPt (a0:List (Int×Int))(l0:a0.length≤9223372036854775807):Con Tryz.prog 137 [(.s 0 0 a0.length 2)] [(.live false true (flat cO a0))] (.t [(.a (k2 (cZ a0).1)),(iv (cZ a0).2)]) []:=by
 refine aK Tryz.func137 (by kernel_rfl) fun cx hcx=>?_
 let t0:List (St Tryz.prog):=[.c [0] (aPs a0 (by omega))]
 cases h0:(((cL a0).2.2:Int) != 0) with
 | true =>
  have q0:=bne_iff_ne.1 h0
  have e:=Eq.refl (cZ a0);conv at e=>rhs;simp only [cZ,h0,aI]
  rw [e]
  exact rt (t0++[.d h0]) [] [] hcx (by kernel_rfl)
 | false =>
  have q0:=bne_eq_false_iff_eq.1 h0
  have e:=Eq.refl (cZ a0);conv at e=>rhs;simp only [cZ,h0,aI]
  rw [e]
  exact rt (t0++[.d h0,.c [] (aDo (cL a0).1 (cL a0).2.1)]) [] [] hcx (by kernel_rfl)
def tE (a0:Int)(a1:Int):Int :=
 (bif (decide (((Int.tmod a0 a1):Int) < 0)) then
  (W ((W (Int.tdiv a0 a1)) - 1))
 else
  (W (Int.tdiv a0 a1)))
theorem aW5 (a0:Int)(a1:Int)(ha:a1≠0):Con Tryz.prog 166 [(iv a0),(iv a1)] [] (iv (tE a0 a1)) []:=by
 refine aK Tryz.func166 (by kernel_rfl) fun cx hcx=>?_
 let t0:List (St Tryz.prog):=[.p (show(a1:Int)≠0 from by first | omega | (rw [aD]<;>omega) | exact eA _),.p (show(a1:Int)≠0 from by first | omega | (rw [aD]<;>omega) | exact eA _)]
 cases h0:(decide (((Int.tmod a0 a1):Int) < 0)) with
 | true =>
  have q0:=bY h0
  have e:=Eq.refl (tE a0 a1);conv at e=>rhs;simp only [tE,h0,aI]
  rw [e]
  exact rt (t0++[.d h0]) [] [] hcx (by kernel_rfl)
 | false =>
  have q0:=cG h0
  have e:=Eq.refl (tE a0 a1);conv at e=>rhs;simp only [tE,h0,aI]
  rw [e]
  exact rt (t0++[.d h0]) [] [] hcx (by kernel_rfl)
def uW (a0:Int)(a1:Int):Int :=
 (W (0 - (tE (W (0 - a0)) a1)))
theorem aW6 (a0:Int)(a1:Int)(ha:a1≠0):Con Tryz.prog 167 [(iv a0),(iv a1)] [] (iv (uW a0 a1)) []:=by
 refine aK Tryz.func167 (by kernel_rfl) fun cx hcx=>?_
 have e:=Eq.refl (uW a0 a1);conv at e=>rhs;simp only [uW]
 rw [e]
 exact rt [.c [] (aW5 (W (0 - a0)) a1  (by(try simp only [Lt,kB,kC]);omega))] [] [] hcx (by kernel_rfl)
def jL (a0:List (Int×Int)):(Int×Int)×Int :=
 (bif (((cL a0).2.2:Int) != 0) then
  ((0,0),(cL a0).2.2)
 else
  (bif (((a0.length:Int):Int) == 0) then
   ((0,0),1)
  else
   ((iO (tE (cL a0).1 (a0.length:Int)) (uW (cL a0).2.1 (a0.length:Int))).1,(iO (tE (cL a0).1 (a0.length:Int)) (uW (cL a0).2.1 (a0.length:Int))).2)))
theorem aW7 (a0:List (Int×Int))(l0:a0.length≤9223372036854775807):Con Tryz.prog 158 [(.s 0 0 a0.length 2)] [(.live false true (flat cO a0))] (.t [(.a (k2 (jL a0).1)),(iv (jL a0).2)]) []:=by
 refine aK Tryz.func158 (by kernel_rfl) fun cx hcx=>?_
 let t0:List (St Tryz.prog):=[.c [0] (aPs a0 (by omega))]
 cases h0:(((cL a0).2.2:Int) != 0) with
 | true =>
  have q0:=bne_iff_ne.1 h0
  have e:=Eq.refl (jL a0);conv at e=>rhs;simp only [jL,h0,aI]
  rw [e]
  exact rt (t0++[.d h0]) [] [] hcx (by kernel_rfl)
 | false =>
  have q0:=bne_eq_false_iff_eq.1 h0
  let t1:List (St Tryz.prog):=(t0++[.d h0])
  cases h1:(((a0.length:Int):Int) == 0) with
  | true =>
   have q1:=eq_of_beq h1
   have e:=Eq.refl (jL a0);conv at e=>rhs;simp only [jL,h0,h1,aI]
   rw [e]
   exact rt (t1++[.d h1]) [] [] hcx (by kernel_rfl)
  | false =>
   have q1:=ne_of_beq_false h1
   have e:=Eq.refl (jL a0);conv at e=>rhs;simp only [jL,h0,h1,aI]
   rw [e]
   exact rt (t1++[.d h1,.c [] (aW5 (cL a0).1 (a0.length:Int)  (by(try simp only [Lt,kB,kC]);omega)),.c [] (aW6 (cL a0).2.1 (a0.length:Int)  (by(try simp only [Lt,kB,kC]);omega)),.c [] (aDo (tE (cL a0).1 (a0.length:Int)) (uW (cL a0).2.1 (a0.length:Int)))]) [] [] hcx (by kernel_rfl)
noncomputable def gN:Code:=(aE [1,1,0,1] [] (aH Tryz.f164) []).1
noncomputable def gO:List K:=(aE [1,1,0,1] [] (aH Tryz.f164) []).2
def fI (a0:Zt×Zt×Zt)(a1:List Zt)(v1 v2:Int):LS:=⟨iJ 44 [(1,(.s 0 0 a1.length 3)),(2,(.p 1 0)),(5,(iv v1)),(6,(iv v2))],[(.live false true (flat dU a1)),(.live true false (k9 a0))]⟩
def bQ (a0:Zt×Zt×Zt)(a1:List Zt):Int×Int→(Int×Int)⊕(Int)
 | (v1,v2) =>
  (bif (decide ((v2:Int) < (a1.length:Int))) then
   (bif (decide (((cB (aT a0.1 (a1.getD (toNat v2) default)) (aT a0.1 (a1.getD (toNat v2) default))):Int) > v1)) then
    (bif (decide (((cB (aT a0.2.1 (a1.getD (toNat v2) default)) (aT a0.2.1 (a1.getD (toNat v2) default))):Int) > (cB (aT a0.1 (a1.getD (toNat v2) default)) (aT a0.1 (a1.getD (toNat v2) default))))) then
     (bif (decide (((cB (aT a0.2.2 (a1.getD (toNat v2) default)) (aT a0.2.2 (a1.getD (toNat v2) default))):Int) > (cB (aT a0.2.1 (a1.getD (toNat v2) default)) (aT a0.2.1 (a1.getD (toNat v2) default))))) then
      (.inl ((cB (aT a0.2.2 (a1.getD (toNat v2) default)) (aT a0.2.2 (a1.getD (toNat v2) default))),(v2+1)))
     else
      (.inl ((cB (aT a0.2.1 (a1.getD (toNat v2) default)) (aT a0.2.1 (a1.getD (toNat v2) default))),(v2+1))))
    else
     (bif (decide (((cB (aT a0.2.2 (a1.getD (toNat v2) default)) (aT a0.2.2 (a1.getD (toNat v2) default))):Int) > (cB (aT a0.1 (a1.getD (toNat v2) default)) (aT a0.1 (a1.getD (toNat v2) default))))) then
      (.inl ((cB (aT a0.2.2 (a1.getD (toNat v2) default)) (aT a0.2.2 (a1.getD (toNat v2) default))),(v2+1)))
     else
      (.inl ((cB (aT a0.1 (a1.getD (toNat v2) default)) (aT a0.1 (a1.getD (toNat v2) default))),(v2+1)))))
   else
    (bif (decide (((cB (aT a0.2.1 (a1.getD (toNat v2) default)) (aT a0.2.1 (a1.getD (toNat v2) default))):Int) > v1)) then
     (bif (decide (((cB (aT a0.2.2 (a1.getD (toNat v2) default)) (aT a0.2.2 (a1.getD (toNat v2) default))):Int) > (cB (aT a0.2.1 (a1.getD (toNat v2) default)) (aT a0.2.1 (a1.getD (toNat v2) default))))) then
      (.inl ((cB (aT a0.2.2 (a1.getD (toNat v2) default)) (aT a0.2.2 (a1.getD (toNat v2) default))),(v2+1)))
     else
      (.inl ((cB (aT a0.2.1 (a1.getD (toNat v2) default)) (aT a0.2.1 (a1.getD (toNat v2) default))),(v2+1))))
    else
     (bif (decide (((cB (aT a0.2.2 (a1.getD (toNat v2) default)) (aT a0.2.2 (a1.getD (toNat v2) default))):Int) > v1)) then
      (.inl ((cB (aT a0.2.2 (a1.getD (toNat v2) default)) (aT a0.2.2 (a1.getD (toNat v2) default))),(v2+1)))
     else
      (.inl (v1,(v2+1))))))
  else
   (.inr v1))
theorem aPu (a0:Zt×Zt×Zt)(a1:List Zt)(l1:a1.length≤9223372036854775807) {cx:Cx} (hcx:cx.base=1):∀(n:Nat)(v1 v2:Int),0≤v2→toNat ((a1.length:Int) - v2) < n→Aw.Good Tryz.prog none 9 (bodyPost Tryz.prog Tryz.f164 (RR cx (iv (aB (bQ a0 a1) n (v1,v2))) [] [])) cx [] (.l gN n::gO) (fI a0 a1 v1 v2):=by
 intro n
 induction n with
 | zero=>intro v1 v2 hi hn;exact absurd hn (iF _)
 | succ n ih =>
   intro v1 v2 hi hn
   refine aG ?_
   cases h0:(decide ((v2:Int) < (a1.length:Int))) with
   | true =>
    have q0:=bY h0
    let t1:List (St Tryz.prog):=[.d h0,.u 200,.T,.i 0 3 (by decide),.i v2 (a1.length),.L bL a1 v2 0 3,.c [] (aFr a0.1 (a1.getD (toNat v2) default)),.c [] (aFt (aT a0.1 (a1.getD (toNat v2) default)) (aT a0.1 (a1.getD (toNat v2) default)))]
    cases h1:(decide (((cB (aT a0.1 (a1.getD (toNat v2) default)) (aT a0.1 (a1.getD (toNat v2) default))):Int) > v1)) with
    | true =>
     have q1:=bY h1
     let t2:List (St Tryz.prog):=(t1++[.d h1,.u 0,.T,.i 1 3 (by decide),.i v2 (a1.length),.L bL a1 v2 0 3,.c [] (aFr a0.2.1 (a1.getD (toNat v2) default)),.c [] (aFt (aT a0.2.1 (a1.getD (toNat v2) default)) (aT a0.2.1 (a1.getD (toNat v2) default)))])
     cases h2:(decide (((cB (aT a0.2.1 (a1.getD (toNat v2) default)) (aT a0.2.1 (a1.getD (toNat v2) default))):Int) > (cB (aT a0.1 (a1.getD (toNat v2) default)) (aT a0.1 (a1.getD (toNat v2) default))))) with
     | true =>
      have q2:=bY h2
      let t3:List (St Tryz.prog):=(t2++[.d h2,.u 0,.T,.i 2 3 (by decide),.i v2 (a1.length),.L bL a1 v2 0 3,.c [] (aFr a0.2.2 (a1.getD (toNat v2) default)),.c [] (aFt (aT a0.2.2 (a1.getD (toNat v2) default)) (aT a0.2.2 (a1.getD (toNat v2) default)))])
      cases h3:(decide (((cB (aT a0.2.2 (a1.getD (toNat v2) default)) (aT a0.2.2 (a1.getD (toNat v2) default))):Int) > (cB (aT a0.2.1 (a1.getD (toNat v2) default)) (aT a0.2.1 (a1.getD (toNat v2) default))))) with
      | true =>
       have q3:=bY h3
       have e:=Eq.refl (bQ a0 a1 (v1,v2));conv at e=>rhs;simp only [bQ,h0,h1,h2,h3,aI]
       rw [aA e]
       refine ba (t3++[.d h3,.u 0,.F]) [] [1,2,5,6] [1] hcx (m:=n) gN (gO) (fI a0 a1 (cB (aT a0.2.2 (a1.getD (toNat v2) default)) (aT a0.2.2 (a1.getD (toNat v2) default))) (W (v2+1))) (by kernel_rfl) ?_
       have z0:(W (v2+1))=(v2+1):=aD (by omega) (by omega)
       rw [z0]
       exact ih (cB (aT a0.2.2 (a1.getD (toNat v2) default)) (aT a0.2.2 (a1.getD (toNat v2) default))) (v2+1) (by(try simp only [Ls]);omega) (by(try simp only [Ls]);omega)
      | false =>
       have q3:=cG h3
       have e:=Eq.refl (bQ a0 a1 (v1,v2));conv at e=>rhs;simp only [bQ,h0,h1,h2,h3,aI]
       rw [aA e]
       refine ba (t3++[.d h3,.u 0,.F]) [] [1,2,5,6] [1] hcx (m:=n) gN (gO) (fI a0 a1 (cB (aT a0.2.1 (a1.getD (toNat v2) default)) (aT a0.2.1 (a1.getD (toNat v2) default))) (W (v2+1))) (by kernel_rfl) ?_
       have z0:(W (v2+1))=(v2+1):=aD (by omega) (by omega)
       rw [z0]
       exact ih (cB (aT a0.2.1 (a1.getD (toNat v2) default)) (aT a0.2.1 (a1.getD (toNat v2) default))) (v2+1) (by(try simp only [Ls]);omega) (by(try simp only [Ls]);omega)
     | false =>
      have q2:=cG h2
      let t3:List (St Tryz.prog):=(t2++[.d h2,.u 0,.T,.i 2 3 (by decide),.i v2 (a1.length),.L bL a1 v2 0 3,.c [] (aFr a0.2.2 (a1.getD (toNat v2) default)),.c [] (aFt (aT a0.2.2 (a1.getD (toNat v2) default)) (aT a0.2.2 (a1.getD (toNat v2) default)))])
      cases h3:(decide (((cB (aT a0.2.2 (a1.getD (toNat v2) default)) (aT a0.2.2 (a1.getD (toNat v2) default))):Int) > (cB (aT a0.1 (a1.getD (toNat v2) default)) (aT a0.1 (a1.getD (toNat v2) default))))) with
      | true =>
       have q3:=bY h3
       have e:=Eq.refl (bQ a0 a1 (v1,v2));conv at e=>rhs;simp only [bQ,h0,h1,h2,h3,aI]
       rw [aA e]
       refine ba (t3++[.d h3,.u 0,.F]) [] [1,2,5,6] [1] hcx (m:=n) gN (gO) (fI a0 a1 (cB (aT a0.2.2 (a1.getD (toNat v2) default)) (aT a0.2.2 (a1.getD (toNat v2) default))) (W (v2+1))) (by kernel_rfl) ?_
       have z0:(W (v2+1))=(v2+1):=aD (by omega) (by omega)
       rw [z0]
       exact ih (cB (aT a0.2.2 (a1.getD (toNat v2) default)) (aT a0.2.2 (a1.getD (toNat v2) default))) (v2+1) (by(try simp only [Ls]);omega) (by(try simp only [Ls]);omega)
      | false =>
       have q3:=cG h3
       have e:=Eq.refl (bQ a0 a1 (v1,v2));conv at e=>rhs;simp only [bQ,h0,h1,h2,h3,aI]
       rw [aA e]
       refine ba (t3++[.d h3,.u 0,.F]) [] [1,2,5,6] [1] hcx (m:=n) gN (gO) (fI a0 a1 (cB (aT a0.1 (a1.getD (toNat v2) default)) (aT a0.1 (a1.getD (toNat v2) default))) (W (v2+1))) (by kernel_rfl) ?_
       have z0:(W (v2+1))=(v2+1):=aD (by omega) (by omega)
       rw [z0]
       exact ih (cB (aT a0.1 (a1.getD (toNat v2) default)) (aT a0.1 (a1.getD (toNat v2) default))) (v2+1) (by(try simp only [Ls]);omega) (by(try simp only [Ls]);omega)
    | false =>
     have q1:=cG h1
     let t2:List (St Tryz.prog):=(t1++[.d h1,.u 0,.T,.i 1 3 (by decide),.i v2 (a1.length),.L bL a1 v2 0 3,.c [] (aFr a0.2.1 (a1.getD (toNat v2) default)),.c [] (aFt (aT a0.2.1 (a1.getD (toNat v2) default)) (aT a0.2.1 (a1.getD (toNat v2) default)))])
     cases h2:(decide (((cB (aT a0.2.1 (a1.getD (toNat v2) default)) (aT a0.2.1 (a1.getD (toNat v2) default))):Int) > v1)) with
     | true =>
      have q2:=bY h2
      let t3:List (St Tryz.prog):=(t2++[.d h2,.u 0,.T,.i 2 3 (by decide),.i v2 (a1.length),.L bL a1 v2 0 3,.c [] (aFr a0.2.2 (a1.getD (toNat v2) default)),.c [] (aFt (aT a0.2.2 (a1.getD (toNat v2) default)) (aT a0.2.2 (a1.getD (toNat v2) default)))])
      cases h3:(decide (((cB (aT a0.2.2 (a1.getD (toNat v2) default)) (aT a0.2.2 (a1.getD (toNat v2) default))):Int) > (cB (aT a0.2.1 (a1.getD (toNat v2) default)) (aT a0.2.1 (a1.getD (toNat v2) default))))) with
      | true =>
       have q3:=bY h3
       have e:=Eq.refl (bQ a0 a1 (v1,v2));conv at e=>rhs;simp only [bQ,h0,h1,h2,h3,aI]
       rw [aA e]
       refine ba (t3++[.d h3,.u 0,.F]) [] [1,2,5,6] [1] hcx (m:=n) gN (gO) (fI a0 a1 (cB (aT a0.2.2 (a1.getD (toNat v2) default)) (aT a0.2.2 (a1.getD (toNat v2) default))) (W (v2+1))) (by kernel_rfl) ?_
       have z0:(W (v2+1))=(v2+1):=aD (by omega) (by omega)
       rw [z0]
       exact ih (cB (aT a0.2.2 (a1.getD (toNat v2) default)) (aT a0.2.2 (a1.getD (toNat v2) default))) (v2+1) (by(try simp only [Ls]);omega) (by(try simp only [Ls]);omega)
      | false =>
       have q3:=cG h3
       have e:=Eq.refl (bQ a0 a1 (v1,v2));conv at e=>rhs;simp only [bQ,h0,h1,h2,h3,aI]
       rw [aA e]
       refine ba (t3++[.d h3,.u 0,.F]) [] [1,2,5,6] [1] hcx (m:=n) gN (gO) (fI a0 a1 (cB (aT a0.2.1 (a1.getD (toNat v2) default)) (aT a0.2.1 (a1.getD (toNat v2) default))) (W (v2+1))) (by kernel_rfl) ?_
       have z0:(W (v2+1))=(v2+1):=aD (by omega) (by omega)
       rw [z0]
       exact ih (cB (aT a0.2.1 (a1.getD (toNat v2) default)) (aT a0.2.1 (a1.getD (toNat v2) default))) (v2+1) (by(try simp only [Ls]);omega) (by(try simp only [Ls]);omega)
     | false =>
      have q2:=cG h2
      let t3:List (St Tryz.prog):=(t2++[.d h2,.u 0,.T,.i 2 3 (by decide),.i v2 (a1.length),.L bL a1 v2 0 3,.c [] (aFr a0.2.2 (a1.getD (toNat v2) default)),.c [] (aFt (aT a0.2.2 (a1.getD (toNat v2) default)) (aT a0.2.2 (a1.getD (toNat v2) default)))])
      cases h3:(decide (((cB (aT a0.2.2 (a1.getD (toNat v2) default)) (aT a0.2.2 (a1.getD (toNat v2) default))):Int) > v1)) with
      | true =>
       have q3:=bY h3
       have e:=Eq.refl (bQ a0 a1 (v1,v2));conv at e=>rhs;simp only [bQ,h0,h1,h2,h3,aI]
       rw [aA e]
       refine ba (t3++[.d h3,.u 0,.F]) [] [1,2,5,6] [1] hcx (m:=n) gN (gO) (fI a0 a1 (cB (aT a0.2.2 (a1.getD (toNat v2) default)) (aT a0.2.2 (a1.getD (toNat v2) default))) (W (v2+1))) (by kernel_rfl) ?_
       have z0:(W (v2+1))=(v2+1):=aD (by omega) (by omega)
       rw [z0]
       exact ih (cB (aT a0.2.2 (a1.getD (toNat v2) default)) (aT a0.2.2 (a1.getD (toNat v2) default))) (v2+1) (by(try simp only [Ls]);omega) (by(try simp only [Ls]);omega)
      | false =>
       have q3:=cG h3
       have e:=Eq.refl (bQ a0 a1 (v1,v2));conv at e=>rhs;simp only [bQ,h0,h1,h2,h3,aI]
       rw [aA e]
       refine ba (t3++[.d h3,.u 0,.F]) [] [1,2,5,6] [1] hcx (m:=n) gN (gO) (fI a0 a1 v1 (W (v2+1))) (by kernel_rfl) ?_
       have z0:(W (v2+1))=(v2+1):=aD (by omega) (by omega)
       rw [z0]
       exact ih v1 (v2+1) (by(try simp only [Ls]);omega) (by(try simp only [Ls]);omega)
   | false =>
    have q0:=cG h0
    have e:=Eq.refl (bQ a0 a1 (v1,v2));conv at e=>rhs;simp only [bQ,h0,aI]
    rw [aF,e]
    exact rt [.d h0] [] [] hcx (by kernel_rfl)
def jM (a0:Zt×Zt×Zt)(a1:List Zt):Int :=
 (aB (bQ a0 a1) (toNat ((a1.length:Int) - 0)+1) (0,0))
theorem aW8 (a0:Zt×Zt×Zt)(a1:List Zt)(l1:a1.length≤9223372036854775807):Con Tryz.prog 164 [(.a (k9 a0)),(.s 0 0 a1.length 3)] [(.live false true (flat dU a1))] (iv (jM a0 a1)) []:=by
 refine aK Tryz.func164 (by kernel_rfl) fun cx hcx=>?_
 have e:=Eq.refl (jM a0 a1);conv at e=>rhs;simp only [jM]
 rw [e]
 refine en [] [] [1,2,5,6] [1] hcx gN (gO) (fI a0 a1 0 0) (toNat ((a1.length:Int) - 0)+1) (by kernel_rfl) ?_
 exact aPu a0 a1 l1 hcx (toNat ((a1.length:Int) - 0)+1) 0 0 (by(try simp only [Ls]);omega) (by(try simp only [Ls]);omega)
noncomputable def aBt:Code:=(aE [1,1,0,1] [] (aH Tryz.f175) []).1
noncomputable def aBu:List K:=(aE [1,1,0,1] [] (aH Tryz.f175) []).2
def wS (a0:List (Int))(v1 v2 v3:Int):LS:=⟨iJ 33 [(0,(.s 0 0 a0.length 1)),(4,(iv v1)),(5,(iv v2)),(6,(iv v3))],[(.live false true (flat c3 a0))]⟩
def nO (a0:List (Int)):Zt→Zt⊕(Int×Int)
 | (v1,v2,v3) =>
  (bif (decide ((v3:Int) < (a0.length:Int))) then
   (.inl ((if((a0.getD (toNat v3) default):Int) < v1 then(a0.getD (toNat v3) default) else v1),(if(v2:Int) < (a0.getD (toNat v3) default) then(a0.getD (toNat v3) default) else v2),(v3+1)))
  else
   (.inr (v1,v2)))
theorem aPv (a0:List (Int))(l0:a0.length≤9223372036854775807)(hl:0 < a0.length) {cx:Cx} (hcx:cx.base=1):∀(n:Nat)(v1 v2 v3:Int),0≤v3→toNat ((a0.length:Int) - v3) < n→Aw.Good Tryz.prog none 9 (bodyPost Tryz.prog Tryz.f175 (RR cx (.t (k2 (aB (nO a0) n (v1,v2,v3)))) [] [])) cx [] (.l aBt n::aBu) (wS a0 v1 v2 v3):=by
 intro n
 induction n with
 | zero=>intro v1 v2 v3 hi hn;exact absurd hn (iF _)
 | succ n ih =>
   intro v1 v2 v3 hi hn
   refine aG ?_
   cases h0:(decide ((v3:Int) < (a0.length:Int))) with
   | true =>
    have q0:=bY h0
    have e:=Eq.refl (nO a0 (v1,v2,v3));conv at e=>rhs;simp only [nO,h0,aI]
    rw [aA e]
    refine ba [.d h0,.i v3 (a0.length),.L fR a0 v3 0 1,.i v3 (a0.length),.L fR a0 v3 0 1] [] [0,4,5,6] [] hcx (m:=n) aBt (aBu) (wS a0 (if((a0.getD (toNat v3) default):Int) < v1 then(a0.getD (toNat v3) default) else v1) (if(v2:Int) < (a0.getD (toNat v3) default) then(a0.getD (toNat v3) default) else v2) (W (v3+1))) (by kernel_rfl) ?_
    have z0:(W (v3+1))=(v3+1):=aD (by omega) (by omega)
    rw [z0]
    exact ih (if((a0.getD (toNat v3) default):Int) < v1 then(a0.getD (toNat v3) default) else v1) (if(v2:Int) < (a0.getD (toNat v3) default) then(a0.getD (toNat v3) default) else v2) (v3+1) (by(try simp only [Ls]);omega) (by(try simp only [Ls]);omega)
   | false =>
    have q0:=cG h0
    have e:=Eq.refl (nO a0 (v1,v2,v3));conv at e=>rhs;simp only [nO,h0,aI]
    rw [aF,e]
    exact rt [.d h0] [] [] hcx (by kernel_rfl)
def cI (a0:List (Int)):Int×Int :=
 (aB (nO a0) (toNat ((a0.length:Int) - 0)+1) ((a0.getD (toNat 0) default),(a0.getD (toNat 0) default),0))
theorem aPw (a0:List (Int))(l0:a0.length≤9223372036854775807)(hl:0 < a0.length):Con Tryz.prog 175 [(.s 0 0 a0.length 1)] [(.live false true (flat c3 a0))] (.t (k2 (cI a0))) []:=by
 refine aK Tryz.func175 (by kernel_rfl) fun cx hcx=>?_
 have e:=Eq.refl (cI a0);conv at e=>rhs;simp only [cI]
 rw [e]
 refine en [.i 0 (a0.length),.L fR a0 0 0 1,.i 0 (a0.length),.L fR a0 0 0 1] [] [0,4,5,6] [] hcx aBt (aBu) (wS a0 (a0.getD (toNat 0) default) (a0.getD (toNat 0) default) 0) (toNat ((a0.length:Int) - 0)+1) (by kernel_rfl) ?_
 exact aPv a0 l0 hl hcx (toNat ((a0.length:Int) - 0)+1) (a0.getD (toNat 0) default) (a0.getD (toNat 0) default) 0 (by(try simp only [Ls]);omega) (by(try simp only [Ls]);omega)
def fS (a0:List (Int))(a1:List (Int)):Int :=
 (W ((if((if(0:Int) < (W ((cI a0).1 - (cI a1).2)) then(W ((cI a0).1 - (cI a1).2)) else 0):Int) < (W ((cI a1).1 - (cI a0).2)) then(W ((cI a1).1 - (cI a0).2)) else(if(0:Int) < (W ((cI a0).1 - (cI a1).2)) then(W ((cI a0).1 - (cI a1).2)) else 0))*(if((if(0:Int) < (W ((cI a0).1 - (cI a1).2)) then(W ((cI a0).1 - (cI a1).2)) else 0):Int) < (W ((cI a1).1 - (cI a0).2)) then(W ((cI a1).1 - (cI a0).2)) else(if(0:Int) < (W ((cI a0).1 - (cI a1).2)) then(W ((cI a0).1 - (cI a1).2)) else 0))))
theorem aBv (a0:List (Int))(a1:List (Int))(l0:a0.length≤9223372036854775807)(l1:a1.length≤9223372036854775807)(h1:0 < a0.length)(h2:0 < a1.length):Con Tryz.prog 172 [(.s 0 0 a0.length 1),(.s 1 0 a1.length 1)] [(.live false true (flat c3 a0)),(.live false true (flat c3 a1))] (iv (fS a0 a1)) []:=by
 refine aK Tryz.func172 (by kernel_rfl) fun cx hcx=>?_
 have e:=Eq.refl (fS a0 a1);conv at e=>rhs;simp only [fS]
 rw [e]
 exact rt [.c [0] (aPw a0 (by omega) (by(try simp only [Lt,kB,kC]);omega)),.c [1] (aPw a1 (by omega) (by(try simp only [Lt,kB,kC]);omega))] [] [] hcx (by kernel_rfl)
def gY (a0:Zt×Zt×Zt)(a1:Zt×Zt×Zt):Int :=
 (W ((W ((fS (bX a0 0) (bX a1 0))+(fS (bX a0 1) (bX a1 1))))+(fS (bX a0 2) (bX a1 2))))
theorem aW9 (a0:Zt×Zt×Zt)(a1:Zt×Zt×Zt):Con Tryz.prog 165 [(.a (k9 a0)),(.s 0 0 3 3)] [(.live false false (k9 a1))] (iv (gY a0 a1)) []:=by
 refine aK Tryz.func165 (by kernel_rfl) fun cx hcx=>?_
 have e:=Eq.refl (gY a0 a1);conv at e=>rhs;simp only [gY]
 rw [e]
 exact rt [.c [2] (wQ a0 0),.c [0] (wQ a1 0),.c [3,4] (aBv (bX a0 0) (bX a1 0) (by(try simp only [Lt,kB,kC]);omega) (by(try simp only [Lt,kB,kC]);omega) (by(try simp only [Lt,kB,kC]);omega) (by(try simp only [Lt,kB,kC]);omega)),.c [2] (wQ a0 1),.c [0] (wQ a1 1),.c [5,6] (aBv (bX a0 1) (bX a1 1) (by(try simp only [Lt,kB,kC]);omega) (by(try simp only [Lt,kB,kC]);omega) (by(try simp only [Lt,kB,kC]);omega) (by(try simp only [Lt,kB,kC]);omega)),.c [2] (wQ a0 2),.c [0] (wQ a1 2),.c [7,8] (aBv (bX a0 2) (bX a1 2) (by(try simp only [Lt,kB,kC]);omega) (by(try simp only [Lt,kB,kC]);omega) (by(try simp only [Lt,kB,kC]);omega) (by(try simp only [Lt,kB,kC]);omega))] [] [] hcx (by kernel_rfl)
theorem aN4 {n a b:Int} (ha:0≤a)(hb:0≤b)(h1:a*a≤n)(h2:n < (a+1)*(a+1))(h3:b*b≤n)(h4:n < (b+1)*(b+1)):a=b:=by
 rcases Int.lt_trichotomy a b with h | h | h
 · have:(a+1)*(a+1)≤b*b:=Int.mul_le_mul (by omega) (by omega) (by omega) hb
   omega
 · exact h
 · have:(b+1)*(b+1)≤a*a:=Int.mul_le_mul (by omega) (by omega) (by omega) ha
   omega
def IsRt (n r:Int):Prop:=0≤r∧r*r≤n∧n < (r+1)*(r+1)
theorem IsRt.eq {n a b:Int} (h:IsRt n a)(h':IsRt n b):a=b:=aN4 h.1 h'.1 h.2.1 h.2.2 h'.2.1 h'.2.2
theorem IsRt.le {n r m:Int} (h:IsRt n r)(hm:0≤m)(hn:n < (m+1)*(m+1)):r≤m:=by
 rcases Int.lt_or_le m r with hlt | hle
 · have:(m+1)*(m+1)≤r*r:=Int.mul_le_mul (by omega) (by omega) (by omega) h.1
   have:=h.2.1;omega
 · exact hle
theorem IsRt.ge {n r m:Int} (h:IsRt n r)(hm:0≤m)(hn:m*m≤n):m≤r:=by
 rcases Int.lt_or_le r m with hlt | hle
 · have:(r+1)*(r+1)≤m*m:=Int.mul_le_mul (by omega) (by omega) (by have:=h.1;omega) hm
   have:=h.2.2;omega
 · exact hle
theorem IsRt.mono {n m a b:Int} (h:IsRt n a)(h':IsRt m b)(hnm:n≤m):a≤b:=h'.ge h.1 (Int.le_trans h.2.1 hnm)
theorem aEh {n:Int} {S:Int×Int→(Int×Int)⊕Int} (hS:∀k b,0≤k→0 < b→k+b≤2147483648→S (k,b)=if(k+b)*(k+b)≤n then .inl (k+b,b / 2) else .inl (k,b / 2))(h0:∀k,S (k,0)=.inr k) :
   ∀(j f:Nat) (k:Int),j+2≤f→0≤k→k+2*2 ^ j≤2147483648→k*k≤n→n < (k+2*2 ^ j)*(k+2*2 ^ j)→IsRt n (aB S f (k,2 ^ j)):=by
 intro j
 induction j with
 | zero =>
   intro f k hf hk hb h1 h2
   obtain⟨f,rfl⟩:∃g,f=g+2:=⟨f - 2,by omega⟩
   simp only [Int.pow_zero] at h2 hb ⊢
   have hs:=hS k 1 hk (by omega) (by omega)
   by_cases hc:(k+1)*(k+1)≤n
   · rw [if_pos hc] at hs
     rw [aA hs,show((1:Int) / 2)=0 by omega,aO (h0 _)]
     refine⟨by omega,hc,?_⟩
     rw [show k+1+1=k+2*1 by omega];exact h2
   · rw [if_neg hc] at hs
     rw [aA hs,show((1:Int) / 2)=0 by omega,aO (h0 _)]
     exact⟨hk,h1,by omega⟩
 | succ j ih =>
   intro f k hf hk hb h1 h2
   obtain⟨f,rfl⟩:∃g,f=g+1:=⟨f - 1,by omega⟩
   have hp:(0:Int) < 2 ^ j:=Int.pow_pos (by omega)
   rw [Int.pow_succ] at h2 hb ⊢
   have hs:=hS k (2 ^ j*2) hk (by omega) (by omega)
   have hd:(2:Int) ^ j*2 / 2=2 ^ j:=Int.mul_ediv_cancel _ (by omega)
   rw [hd] at hs
   by_cases hc:(k+2 ^ j*2)*(k+2 ^ j*2)≤n
   · rw [if_pos hc] at hs
     rw [aA hs]
     refine ih f _ (by omega) (by omega) (by omega) hc ?_
     rw [show k+2 ^ j*2+2*2 ^ j=k+2*((2:Int) ^ j*2) by omega];exact h2
   · rw [if_neg hc] at hs
     rw [aA hs]
     refine ih f _ (by omega) hk (by omega) h1 ?_
     rw [show k+2*(2:Int) ^ j=k+2 ^ j*2 by omega];omega
theorem aN5 {n:Int} {S:Int×Int→(Int×Int)⊕Int} (hS:∀a b,0≤a→a < b→b≤2147483648→S (a,b)=if((a+b+1) / 2)*((a+b+1) / 2)≤n then .inl ((a+b+1) / 2,b) else .inl (a,(a+b+1) / 2 - 1))(h0:∀a,S (a,a)=.inr a) :
   ∀(f:Nat) (a b:Int),0≤a→a≤b→b≤2147483648→b - a < f→a*a≤n→n < (b+1)*(b+1)→IsRt n (aB S f (a,b)):=by
 intro f
 induction f with
 | zero=>intro a b _ h _ hf;omega
 | succ f ih =>
   intro a b ha hab hb hf h1 h2
   by_cases he:a=b
   · subst he
     rw [aO (h0 a)];exact⟨ha,h1,h2⟩
   · have hs:=hS a b ha (by omega) hb
     by_cases hc:((a+b+1) / 2)*((a+b+1) / 2)≤n
     · rw [if_pos hc] at hs
       rw [aA hs]
       exact ih _ _ (by omega) (by omega) hb (by omega) hc h2
     · rw [if_neg hc] at hs
       rw [aA hs]
       refine ih _ _ ha (by omega) (by omega) (by omega) h1 ?_
       rw [show(a+b+1) / 2 - 1+1=(a+b+1) / 2 by omega];omega
theorem aMj {a:Int} (h:0≤a)(h':a≤2147483648):0≤a*a∧a*a≤4611686018427387904:=⟨Int.mul_nonneg h h,Int.le_trans (Int.mul_le_mul h' h' h (by omega)) (by omega)⟩
theorem aMk {n:Int} (h0:0≤n)(h:n < 4611686018427387904):IsRt n (kT n):=by
 unfold kT
 refine aEh (n:=n) (fun k b hk hb hkb=>?_) (fun k=>?_) 30 _ 0 (by decide) (by omega) (by decide) (by omega) (by simpa using h)
 · have h2:decide (b > 0)=true:=by simpa using hb
   have hw:W (k+b)=k+b:=aD (by omega) (by omega)
   have hq:=aMj (a:=k+b) (by omega) hkb
   have hw2:W ((k+b)*(k+b))=(k+b)*(k+b):=aD (by omega) (by omega)
   simp only [mT,h2,cond_true,hw,hw2]
   by_cases hc:(k+b)*(k+b)≤n<;>simp [hc]
 · simp [mT]
theorem wT {n:Int} (h0:0≤n)(h:n < 4611686018427387904):IsRt n (iG n):=by
 unfold iG
 rw [show decide ((4611686018427387904:Int)≤n)=false by simpa using h]
 simp only [cond_false]
 refine aEh (n:=n) (fun k b hk hb hkb=>?_) (fun k=>?_) 30 _ 0 (by decide) (by omega) (by decide) (by omega) (by simpa using h)
 · have h2:((b:Int) == 0)=false:=by rw [beq_eq_false_iff_ne];omega
   have hw:W (k+b)=k+b:=aD (by omega) (by omega)
   have hq:=aMj (a:=k+b) (by omega) hkb
   have hw2:W ((k+b)*(k+b))=(k+b)*(k+b):=aD (by omega) (by omega)
   simp only [qD,h2,cond_false,hw,hw2]
   by_cases hc:(k+b)*(k+b)≤n<;>simp [hc]
 · simp [qD]
theorem aPx {n:Int} (h0:0≤n)(h:n < 4611686018427387904):IsRt n (iN n):=by
 unfold iN
 refine aN5 (n:=n) (fun a b ha hab hb=>?_) (fun a=>?_) _ 0 2147483648 (by omega) (by omega) (by omega) (by decide) (by omega) (by omega)
 · have h2:decide (a < b)=true:=by simpa using hab
   have hw:=aFh (a:=a) (b:=b) (by omega)
   have hw3:=aMg (a:=a) (b:=b) (by omega)
   have hq:=aMj (a:=(a+b+1) / 2) (by omega) (by omega)
   have hw2:W ((a+b+1) / 2*((a+b+1) / 2))=(a+b+1) / 2*((a+b+1) / 2):=aD (by omega) (by omega)
   have hw4:W ((a+b+1) / 2 - 1)=(a+b+1) / 2 - 1:=aD (by omega) (by omega)
   simp only [mU,h2,cond_true,hw,hw2,hw4]
   by_cases hc:(a+b+1) / 2*((a+b+1) / 2)≤n<;>simp [hc]
 · simp [mU]
abbrev P3:=Zt
abbrev PN:=P3×P3×P3
def bd (m:Int)(p:P3):Prop:=(-m≤p.1∧p.1≤m)∧(-m≤p.2.1∧p.2.1≤m)∧(-m≤p.2.2∧p.2.2≤m)
def bdP (m:Int)(p:PN):Prop:=bd m p.1∧bd m p.2.1∧bd m p.2.2
def sb (p q:P3):P3:=(p.1 - q.1,p.2.1 - q.2.1,p.2.2 - q.2.2)
def dt (p q:P3):Int:=p.1*q.1+p.2.1*q.2.1+p.2.2*q.2.2
def cr (p q:P3):P3:=(p.2.1*q.2.2 - p.2.2*q.2.1,p.2.2*q.1 - p.1*q.2.2,p.1*q.2.1 - p.2.1*q.1)
def lD (p:PN):P3:=cr (sb p.2.1 p.1) (sb p.2.2 p.1)
theorem bD {a b x y:Int} (hx:-a≤x∧x≤a)(hy:-b≤y∧y≤b):-(a*b)≤x*y∧x*y≤a*b:=by
 have h1:=Int.mul_nonneg (show 0≤a - x by omega) (show 0≤b - y by omega)
 have h2:=Int.mul_nonneg (show 0≤a+x by omega) (show 0≤b+y by omega)
 have h3:=Int.mul_nonneg (show 0≤a - x by omega) (show 0≤b+y by omega)
 have h4:=Int.mul_nonneg (show 0≤a+x by omega) (show 0≤b - y by omega)
 rw [Int.sub_mul,Int.mul_sub,Int.mul_sub] at h1
 rw [Int.add_mul,Int.mul_add,Int.mul_add] at h2
 rw [Int.sub_mul,Int.mul_add,Int.mul_add] at h3
 rw [Int.add_mul,Int.mul_sub,Int.mul_sub] at h4
 omega
theorem nP {a b:Int} {p q:P3} (hp:bd a p)(hq:bd b q):bd (a+b) (sb p q):=by
 unfold bd at *;simp only [sb];omega
theorem iY (x:Int):0≤x*x:=by
 rcases Int.le_total 0 x with h | h
 · exact Int.mul_nonneg h h
 · exact Int.mul_nonneg_of_nonpos_of_nonpos h h
theorem uX (p:P3):0≤dt p p:=by
 have:=iY p.1;have:=iY p.2.1;have:=iY p.2.2
 simp only [dt];omega
theorem aXa {p:P3} (h:¬(p.1=0∧p.2.1=0∧p.2.2=0)):1≤dt p p:=by
 have:=iY p.1;have:=iY p.2.1;have:=iY p.2.2
 have key:∀x:Int,x≠0→1≤x*x:=fun x hx=>by
   have h0:=iY x
   have:x*x≠0:=Int.mul_ne_zero hx hx
   omega
 simp only [dt]
 by_cases h1:p.1=0
 · by_cases h2:p.2.1=0
   · have:=key p.2.2 (fun h3=>h ⟨h1,h2,h3⟩);omega
   · have:=key _ h2;omega
 · have:=key _ h1;omega
theorem aVw {a:Int} {p q:P3} (hp:bd a p)(hq:bd a q):-(3*(a*a))≤dt p q∧dt p q≤3*(a*a):=by
 have:=bD hp.1 hq.1;have:=bD hp.2.1 hq.2.1;have:=bD hp.2.2 hq.2.2
 simp only [dt];omega
theorem bAb {a:Int} {p q:P3} (hp:bd a p)(hq:bd a q):bd (2*(a*a)) (cr p q):=by
 have:=bD hp.2.1 hq.2.2;have:=bD hp.2.2 hq.2.1;have:=bD hp.2.2 hq.1;have:=bD hp.1 hq.2.2;have:=bD hp.1 hq.2.1;have:=bD hp.2.1 hq.1
 unfold bd;simp only [cr];omega
theorem fsb {p q:P3} (hp:bd 100000 p)(hq:bd 100000 q):bI p q=sb p q:=by
 unfold bd at *;simp only [bI,sb]
 rw [aD (by omega) (by omega),aD (by omega) (by omega),aD (by omega) (by omega)]
theorem fdt {p q:P3} (hp:bd 1000000000 p)(hq:bd 1000000000 q):jJ p q=dt p q:=by
 have h1:=bD hp.1 hq.1;have h2:=bD hp.2.1 hq.2.1;have h3:=bD hp.2.2 hq.2.2
 simp only [jJ,aBl,dt]
 rw [aD (n:=p.1*q.1) (by omega) (by omega),aD (n:=p.2.1*q.2.1) (by omega) (by omega),aD (n:=p.2.2*q.2.2) (by omega) (by omega),Int.zero_add,aD (n:=p.1*q.1) (by omega) (by omega),aD (n:=p.1*q.1+p.2.1*q.2.1) (by omega) (by omega),aD (by omega) (by omega)]
theorem rdt {p q:P3} (hp:bd 1000000000 p)(hq:bd 1000000000 q):cB p q=dt p q:=by
 have h1:=bD hp.1 hq.1;have h2:=bD hp.2.1 hq.2.1;have h3:=bD hp.2.2 hq.2.2
 simp only [cB,dt]
 rw [aD (n:=p.1*q.1) (by omega) (by omega),aD (n:=p.2.1*q.2.1) (by omega) (by omega),aD (n:=p.2.2*q.2.2) (by omega) (by omega),aD (n:=p.1*q.1+p.2.1*q.2.1) (by omega) (by omega),aD (by omega) (by omega)]
theorem rsb {p q:P3} (hp:bd 100000 p)(hq:bd 100000 q):aT p q=sb p q:=by
 unfold bd at *;simp only [aT,sb]
 rw [aD (by omega) (by omega),aD (by omega) (by omega),aD (by omega) (by omega)]
theorem aXb {p q:P3} (hp:bd 1000000000 p)(hq:bd 1000000000 q) :
   ((W ((W (p.2.1*q.2.2)) - (W (p.2.2*q.2.1)))),(W ((W (p.2.2*q.1)) - (W (p.1*q.2.2)))),(W ((W (p.1*q.2.1)) - (W (p.2.1*q.1)))))=cr p q:=by
 have h1:=bD hp.2.1 hq.2.2;have h2:=bD hp.2.2 hq.2.1;have h3:=bD hp.2.2 hq.1;have h4:=bD hp.1 hq.2.2;have h5:=bD hp.1 hq.2.1;have h6:=bD hp.2.1 hq.1
 simp only [cr]
 rw [aD (n:=p.2.1*q.2.2) (by omega) (by omega),aD (n:=p.2.2*q.2.1) (by omega) (by omega),aD (n:=p.2.2*q.1) (by omega) (by omega),aD (n:=p.1*q.2.2) (by omega) (by omega),aD (n:=p.1*q.2.1) (by omega) (by omega),aD (n:=p.2.1*q.1) (by omega) (by omega),
   aD (by omega) (by omega),aD (by omega) (by omega),aD (by omega) (by omega)]
theorem fcr {p q:P3} (hp:bd 1000000000 p)(hq:bd 1000000000 q):gG p q=cr p q:=aXb hp hq
theorem scr {p q:P3} (hp:bd 1000000000 p)(hq:bd 1000000000 q):aJ0 p q=cr p q:=aXb hp hq
theorem rcr {p q:P3} (hp:bd 1000000000 p)(hq:bd 1000000000 q):aFs p q=cr p q:=aXb hp hq
theorem ssb {p q:P3} (hp:bd 100000 p)(hq:bd 100000 q):aBk p q=sb p q:=by
 unfold bd at *;simp only [aBk,F39,sb]
 rw [aD (n:=-1*q.1) (by omega) (by omega),aD (n:=-1*q.2.1) (by omega) (by omega),aD (n:=-1*q.2.2) (by omega) (by omega),aD (by omega) (by omega),aD (by omega) (by omega),aD (by omega) (by omega)]
 refine Prod.ext (by simp only;omega) (Prod.ext (by simp only;omega) (by simp only;omega))
theorem bd.mono {a b:Int} {p:P3} (h:bd a p)(hab:a≤b):bd b p:=by unfold bd at *;omega
theorem bdP.mono {a b:Int} {p:PN} (h:bdP a p)(hab:a≤b):bdP b p:=⟨h.1.mono hab,h.2.1.mono hab,h.2.2.mono hab⟩
theorem aN6 (n a b:Int):aFk n a b=decide (a≤n∧n≤b):=by
 unfold aFk
 by_cases h1:n≥a<;>by_cases h2:n≤b<;>simp [h1,h2]<;>omega
theorem aJ5 (n a b:Int):aFu n a b=decide (a≤n∧n≤b):=by
 unfold aFu
 by_cases h1:n≥a<;>by_cases h2:n≤b<;>simp [h1,h2]<;>omega
theorem tF (n a b:Int):nM n a b=decide (a≤n∧n≤b):=by
 unfold nM
 by_cases h1:n≥a<;>by_cases h2:n≤b<;>simp [h1,h2]<;>omega
theorem tG (n a b:Int):F78 n a b=decide (a≤n∧n≤b):=by
 unfold F78
 by_cases h1:n≥a<;>by_cases h2:n≤b<;>simp [h1,h2]<;>omega
theorem aFy (n a b:Int):qB n a b=decide (a≤n∧n≤b):=by
 unfold qB
 by_cases h1:a≤n<;>by_cases h2:n≤b<;>simp [h1,h2]
theorem bAc {a b c d:Prop} [Decidable a] [Decidable b] [Decidable c] [Decidable d] (h:(a∧b∧c)↔d):(bif decide a then(bif decide b then decide c else false) else false)=decide d:=by
 by_cases h1:a
 · by_cases h2:b
   · rw [bV h1,bV h2,cond_true,cond_true]
     by_cases h3:c
     · rw [bV h3,bV (h.1 ⟨h1,h2,h3⟩)]
     · rw [cJ h3,cJ (fun hd=>h3 (h.2 hd).2.2)]
   · rw [bV h1,cJ h2,cond_true,cond_false,cJ (fun hd=>h2 (h.2 hd).2.1)]
 · rw [cJ h1,cond_false,cJ (fun hd=>h1 (h.2 hd).1)]
theorem eq3 (x y z a b:Int):(bif (((x:Int) == 0)&&(((y:Int) == 0)&&(((z:Int) == 0)&&true))) then a else b)=if x=0∧y=0∧z=0 then a else b:=by
 have key:∀t:Int,(t == 0)=decide (t=0):=fun t=>by
   by_cases h:t=0
   · rw [bV h];simpa using h
   · rw [cJ h];simpa using h
 rw [key,key,key,Bool.and_true,←Bool.decide_and,←Bool.decide_and]
 by_cases h:x=0∧y=0∧z=0
 · rw [if_pos h,bV h,cond_true]
 · rw [if_neg h,cJ h,cond_false]
open Classical in
theorem lR (p:P3):F36 p 64=decide (bd 64 p):=by
 unfold F36
 rw [aFy,aFy,aFy,aD (by omega) (by omega)]
 exact bAc (by unfold bd;omega)
open Classical in
theorem qY (p:P3):F79 p 64=decide (bd 64 p):=by
 unfold F79
 rw [tG,tG,tG,aD (by omega) (by omega)]
 exact bAc (by unfold bd;omega)
open Classical in
noncomputable def vp (p:PN):Int:=if bdP 64 p then(if(lD p).1=0∧(lD p).2.1=0∧(lD p).2.2=0 then 6 else 0) else 1
theorem aVx {p:PN} (h:bdP 64 p):nL p=lD p:=by
 have h1:=h.1.mono (show(64:Int)≤100000 by omega);have h2:=h.2.1.mono (show(64:Int)≤100000 by omega);have h3:=h.2.2.mono (show(64:Int)≤100000 by omega)
 unfold nL lD
 rw [ssb h2 h1,ssb h3 h1]
 exact scr ((nP h.2.1 h.1).mono (by omega)) ((nP h.2.2 h.1).mono (by omega))
theorem aPy {p:PN} (h:bdP 64 p):lC p=lD p:=by
 have h1:=h.1.mono (show(64:Int)≤100000 by omega);have h2:=h.2.1.mono (show(64:Int)≤100000 by omega);have h3:=h.2.2.mono (show(64:Int)≤100000 by omega)
 unfold lC lD
 rw [rsb h2 h1,rsb h3 h1]
 exact rcr ((nP h.2.1 h.1).mono (by omega)) ((nP h.2.2 h.1).mono (by omega))
theorem bAd {p:PN} (h:bdP 64 p):gG (bI p.2.1 p.1) (bI p.2.2 p.1)=lD p:=by
 have h1:=h.1.mono (show(64:Int)≤100000 by omega);have h2:=h.2.1.mono (show(64:Int)≤100000 by omega);have h3:=h.2.2.mono (show(64:Int)≤100000 by omega)
 unfold lD
 rw [fsb h2 h1,fsb h3 h1]
 exact fcr ((nP h.2.1 h.1).mono (by omega)) ((nP h.2.2 h.1).mono (by omega))
theorem aT4 (p:PN):lP p=vp p:=by
 unfold lP vp
 rw [lR,lR,lR]
 by_cases h1:bd 64 p.1
 · by_cases h2:bd 64 p.2.1
   · by_cases h3:bd 64 p.2.2
     · have hb:bdP 64 p:=⟨h1,h2,h3⟩
       rw [aVx hb,if_pos hb]
       rw [eq3];simp [h1,h2,h3]
     · simp [h1,h2,h3,bdP]
   · simp [h1,h2,bdP]
 · simp [h1,bdP]
theorem aT5 (p:PN):nN p=vp p:=by
 unfold nN vp
 rw [qY,qY,qY]
 by_cases h1:bd 64 p.1
 · by_cases h2:bd 64 p.2.1
   · by_cases h3:bd 64 p.2.2
     · have hb:bdP 64 p:=⟨h1,h2,h3⟩
       rw [aPy hb,if_pos hb]
       rw [eq3];simp [h1,h2,h3]
     · simp [h1,h2,h3,bdP]
   · simp [h1,h2,bdP]
 · simp [h1,bdP]
theorem gD {p:PN} (h:vp p=0):bdP 64 p∧1≤dt (lD p) (lD p):=by
 unfold vp at h
 split at h
 · rename_i hb
   split at h
   · cases h
   · rename_i hn;exact⟨hb,aXa hn⟩
 · cases h
theorem aPz {p:PN} (h:bdP 64 p):bd 32768 (lD p)∧dt (lD p) (lD p)≤3221225472:=by
 have hb:bd (2*(128*128)) (lD p):=bAb (nP h.2.1 h.1) (nP h.2.2 h.1)
 exact⟨hb.mono (by omega),by have:=(aVw hb hb).2;omega⟩
theorem aP0 {p:PN} (h:vp p=0):∃k,kT (jJ (gG (bI p.2.1 p.1) (bI p.2.2 p.1)) (gG (bI p.2.1 p.1) (bI p.2.2 p.1)))=k∧IsRt (dt (lD p) (lD p)) k∧1≤k∧k≤56755:=by
 obtain⟨hb,hd⟩:=gD h
 obtain⟨hn,hu⟩:=aPz hb
 rw [bAd hb,fdt (hn.mono (by omega)) (hn.mono (by omega))]
 have:=aMk (n:=dt (lD p) (lD p)) (by omega) (by omega)
 exact⟨_,rfl,this,this.ge (by omega) (by omega),this.le (by omega) (by omega)⟩
theorem aP1 {p:PN} (h:lP p=0):W (128*kT (jJ (gG (bI p.2.1 p.1) (bI p.2.2 p.1)) (gG (bI p.2.1 p.1) (bI p.2.2 p.1))))≠0:=by
 rw [aT4] at h
 obtain⟨k,e,_,h1,h2⟩:=aP0 h
 rw [e,aD (by omega) (by omega)];omega
theorem aT6 {p:PN} (h:nN p=0):W (128*rX (cB (lC p) (lC p)))≠0:=by
 rw [aT5] at h
 obtain⟨hb,hd⟩:=gD h
 obtain⟨hn,hu⟩:=aPz hb
 rw [aPy hb,rdt (hn.mono (by omega)) (hn.mono (by omega))]
 have:=aPx (n:=dt (lD p) (lD p)) (by omega) (by omega)
 have h1:=this.ge (m:=1) (by omega) (by omega)
 have h2:=this.le (m:=56755) (by omega) (by omega)
 unfold rX
 rw [aD (by omega) (by omega)];omega
end Go.Proofs.YtaeagjnpobdglaaGreat
namespace Go.Proofs.YtaeagjnpobdglaaGreat
open Go.Proofs Go.Aw Go.RowKit
set_option maxRecDepth 100000
def sK (x:PN):List PN :=
 [(aC x.1 2,aQ (aC x.1 2) (aC x.2.1 2),aQ (aC x.2.2 2) (aC x.1 2)),
  (aQ (aC x.1 2) (aC x.2.1 2),aC x.2.1 2,aQ (aC x.2.1 2) (aC x.2.2 2)),
  (aQ (aC x.2.2 2) (aC x.1 2),aQ (aC x.2.1 2) (aC x.2.2 2),aC x.2.2 2),
  (aQ (aC x.1 2) (aC x.2.1 2),aQ (aC x.2.1 2) (aC x.2.2 2),aQ (aC x.2.2 2) (aC x.1 2))]
def aDp:Nat→List PN→List PN
 | 0,l=>l
 | n+1,l=>aDp n (l.flatMap sK)
theorem yO:∀(n:Nat)(l:List PN),(aDp n l).length=4 ^ n*l.length
 | 0,l=>by simp [aDp]
 | n+1,l=>by
   have:(l.flatMap sK).length=4*l.length:=by
     induction l with
     | nil=>rfl
     | cons x l ih=>rw [List.flatMap_cons,List.length_append,ih];simp only [sK,List.length_cons,List.length_nil];omega
   rw [aDp,yO n,this,Nat.pow_succ]
   rw [←Nat.mul_assoc,Nat.mul_comm (4 ^ n) 4,Nat.mul_comm 4 (4 ^ n)]
theorem aXc (a0:PN)(a1:Int)(l:List PN):∀(f i:Nat)(nx:List PN)(d:Int),l.length - i < f→i≤l.length →
   aB (kK a0 a1) f (l,nx,d,(i:Int))=.inl (nx++(l.drop i).flatMap sK,d+1):=by
 intro f
 induction f with
 | zero=>intro i nx d h;omega
 | succ f ih =>
   intro i nx d h hi
   by_cases hlt:i < l.length
   · have hs:kK a0 a1 (l,nx,d,(i:Int))=.inl (l,nx++sK (l.getD i default),d,((i+1:Nat):Int)):=by
       have:decide ((i:Int) < (l.length:Int))=true:=by simpa using hlt
       simp only [kK,this,cond_true,uC,sK]
       rfl
     rw [aA hs,ih _ _ _ (by omega) (by omega)]
     have hd:l.drop i=l.getD i default::l.drop (i+1):=by
       rw [List.drop_eq_getElem_cons hlt];simp [fL,hlt]
     rw [hd,List.flatMap_cons,List.append_assoc]
   · have:decide ((i:Int) < (l.length:Int))=false:=by simpa using hlt
     have hs:kK a0 a1 (l,nx,d,(i:Int))=.inr (.inl (nx,d+1)):=by
       simp only [kK,this,cond_false]
     rw [aO hs,List.drop_of_length_le (by omega)];simp
theorem aT7 (a0:PN)(a1:Int):∀(f n:Nat)(l:List PN),n < f→aB (gH a0 a1) f (l,a1 - n)=aDp n l:=by
 intro f
 induction f with
 | zero=>intro n l h;omega
 | succ f ih =>
   intro n l h
   cases n with
   | zero =>
     have hs:gH a0 a1 (l,a1 - (0:Nat))=.inr l:=by
       have:decide (a1 - ((0:Nat):Int) < a1)=false:=by simp
       simp only [gH,this,cond_false]
     rw [aO hs];rfl
   | succ n =>
     have hs:gH a0 a1 (l,a1 - ((n+1:Nat):Int))=.inl (l.flatMap sK,a1 - (n:Nat)):=by
       have:decide (a1 - ((n+1:Nat):Int) < a1)=true:=by simp;omega
       simp only [gH,this,cond_true]
       have:=aXc a0 a1 l (toNat ((l.length:Int) - 0)+1) 0 [] (a1 - ((n+1:Nat):Int)) (by omega) (by omega)
       simp only [List.drop_zero,List.nil_append] at this
       rw [show((0:Nat):Int)=0 from rfl] at this
       rw [this,show a1 - ((n+1:Nat):Int)+1=a1 - (n:Nat) by omega]
     rw [aA hs,ih _ _ (by omega)];rfl
theorem aIk (p:PN) {d:Int} (h:0≤d):cD p d=aDp d.toNat [p]:=by
 unfold cD
 have:=aT7 p d (toNat (d - 0)+1) d.toNat [p] (by omega)
 rw [show d - (d.toNat:Int)=0 by omega] at this
 exact this
theorem aMl (p:PN) {d:Int} (h:0≤d):(cD p d).length=4 ^ d.toNat:=by
 rw [aIk p h,yO];simp
theorem aP2 {p:PN} {d:Int} (h:0≤d):((((cD p d).length:Nat)):Int)≠0:=by
 rw [aMl p h]
 have:0 < 4 ^ d.toNat:=Nat.pow_pos (by omega)
 omega
theorem aP3 {p:PN} {d:Int} (h:0≤d∧d≤3):(cD p d).length≤64:=by
 rw [aMl p h.1]
 have:d.toNat≤3:=by omega
 calc 4 ^ d.toNat≤4 ^ 3:=Nat.pow_le_pow_right (by omega) this
   _=64:=rfl
def aBw (x:PN):List PN:=[q1 x,q2 x,q3 x,q4 x]
theorem gS {p:P3} (h:bd 100000 p):rV p 2=(2*p.1,2*p.2.1,2*p.2.2):=by
 unfold bd at h;simp only [rV];rw [aD (by omega) (by omega),aD (by omega) (by omega),aD (by omega) (by omega)]
theorem uY {p:P3} (h:bd 100000 p):aC p 2=(2*p.1,2*p.2.1,2*p.2.2):=by
 unfold bd at h;simp only [aC];rw [aD (by omega) (by omega),aD (by omega) (by omega),aD (by omega) (by omega)]
theorem oZ {p q:P3} (hp:bd 100000 p)(hq:bd 100000 q):gL p q=(p.1+q.1,p.2.1+q.2.1,p.2.2+q.2.2):=by
 unfold bd at hp hq;simp only [gL];rw [aD (by omega) (by omega),aD (by omega) (by omega),aD (by omega) (by omega)]
theorem aP4 {p q:P3} (hp:bd 100000 p)(hq:bd 100000 q):aQ (aC p 2) (aC q 2)=(p.1+q.1,p.2.1+q.2.1,p.2.2+q.2.2):=by
 rw [uY hp,uY hq]
 have key:∀a b:Int,(-100000≤a∧a≤100000)→(-100000≤b∧b≤100000)→W (Int.tdiv (W (2*a+2*b)) 2)=a+b:=fun a b h1 h2=>by
   rw [aD (n:=2*a+2*b) (by omega) (by omega),←Int.mul_add,Int.mul_tdiv_cancel_left _ (by omega),aD (by omega) (by omega)]
 simp only [aQ]
 rw [key _ _ hp.1 hq.1,key _ _ hp.2.1 hq.2.1,key _ _ hp.2.2 hq.2.2]
theorem aT8 {x:PN} (h:bdP 100000 x):sK x=aBw x:=by
 unfold sK aBw q1 q2 q3 q4
 rw [aP4 h.1 h.2.1,aP4 h.2.2 h.1,aP4 h.2.1 h.2.2,oZ h.1 h.2.1,oZ h.2.2 h.1,oZ h.2.1 h.2.2,uY h.1,uY h.2.1,uY h.2.2,gS h.1,gS h.2.1,gS h.2.2]
theorem aT9 {m:Int} {x y:PN} (h:bdP m x)(hm:m≤100000)(hy:y∈aBw x):bdP (2*m) y:=by
 have h1:=h.1.mono hm;have h2:=h.2.1.mono hm;have h3:=h.2.2.mono hm
 unfold aBw q1 q2 q3 q4 at hy
 rw [oZ h1 h2,oZ h3 h1,oZ h2 h3,gS h1,gS h2,gS h3] at hy
 have ha:=h.1;have hb:=h.2.1;have hc:=h.2.2
 unfold bd at ha hb hc
 simp only [List.mem_cons,List.mem_nil_iff,or_false] at hy
 unfold bdP bd
 rcases hy with rfl | rfl | rfl | rfl<;>simp only<;>omega
theorem fY:∀(d:Nat)(p:PN),aR (d+1) p=(aR d p).flatMap aBw
 | 0,p=>by simp [aR,aBw]
 | d+1,p=>by
   rw [show aR (d+1+1) p=aR (d+1) (q1 p)++(aR (d+1) (q2 p)++(aR (d+1) (q3 p)++aR (d+1) (q4 p))) from rfl]
   rw [fY d (q1 p),fY d (q2 p),fY d (q3 p),fY d (q4 p)]
   simp only [aR,List.flatMap_append]
theorem uZ:∀(d:Nat) {m:Int} {p x:PN},bdP m p→m*2 ^ d≤100000→0≤m→x∈aR d p→bdP (m*2 ^ d) x
 | 0,m,p,x,h,_,_,hx=>by simp [aR] at hx;subst hx;simpa using h
 | d+1,m,p,x,h,hm,h0,hx=>by
   rw [fY,List.mem_flatMap] at hx
   obtain⟨y,hy,hx⟩:=hx
   have hp:(0:Int) < 2 ^ d:=Int.pow_pos (by omega)
   have hle:m*2 ^ d≤m*2 ^ (d+1):=Int.mul_le_mul_of_nonneg_left (by rw [Int.pow_succ];omega) h0
   have:=aT9 (uZ d h (by omega) h0 hy) (by omega) hx
   rw [Int.pow_succ,←Int.mul_assoc,Int.mul_comm];exact this
theorem aBx {α β:Type} {f g:α→List β}:∀{l:List α},(∀x∈l,f x=g x)→l.flatMap f=l.flatMap g
 | [],_=>rfl
 | x::l,h=>by rw [List.flatMap_cons,List.flatMap_cons,h x (by simp),aBx (fun y hy=>h y (by simp [hy]))]
theorem aEi:∀(n:Nat)(l:List PN),aDp (n+1) l=(aDp n l).flatMap sK
 | 0,l=>rfl
 | n+1,l=>by rw [aDp,aEi n];rfl
theorem aP5 {p:PN} (hp:bdP 64 p):∀d:Nat,d≤9→aDp d [p]=aR d p
 | 0,_=>rfl
 | d+1,h=>by
   rw [aEi,aP5 hp d (by omega),fY]
   have hle:(64:Int)*2 ^ d≤100000:=by
     have h1:(2:Nat) ^ d≤2 ^ 9:=Nat.pow_le_pow_right (by omega) (by omega)
     have h2:(2:Int) ^ d=((2 ^ d:Nat):Int):=by simp
     omega
   exact aBx (fun x hx=>aT8 ((uZ d hp hle (by omega) hx).mono hle))
theorem bAe {p:PN} (hp:bdP 64 p) {d:Int} (h:0≤d∧d≤3):cD p d=aR d.toNat p:=by
 rw [aIk p h.1,aP5 hp _ (by omega)]
theorem C94 (a0:Zt×Zt×Zt)(a1:Int):Con Tryz.prog 94 [(.a (k9 a0)),(iv a1)] [] (.f 123 [(.p 0 0),(.p 1 0)]) [(.live true false (k9 a0)),(.live true false [(iv a1)])]:=by
 refine aK Tryz.func94 (by kernel_rfl) fun cx hcx=>?_
 exact rt [] [] [0,1] hcx (by kernel_rfl)
def bW (a0:Zt×Zt×Zt)(a1:Int):Int :=
 (bif (decide (((W ((W ((kT (W (Int.tdiv (W (3537128906555392*2 ^ (min (toNat (W (2*a1))) 64))) (W (128*(kT (jJ (gG (bI a0.2.1 a0.1) (bI a0.2.2 a0.1)) (gG (bI a0.2.1 a0.1) (bI a0.2.2 a0.1)))))))))*(kT (W (Int.tdiv (W (3537128906555392*2 ^ (min (toNat (W (2*a1))) 64))) (W (128*(kT (jJ (gG (bI a0.2.1 a0.1) (bI a0.2.2 a0.1)) (gG (bI a0.2.1 a0.1) (bI a0.2.2 a0.1)))))))))))*(W (128*(kT (jJ (gG (bI a0.2.1 a0.1) (bI a0.2.2 a0.1)) (gG (bI a0.2.1 a0.1) (bI a0.2.2 a0.1)))))))):Int) < (W (3537128906555392*2 ^ (min (toNat (W (2*a1))) 64))))) then
  (W ((kT (W (Int.tdiv (W (3537128906555392*2 ^ (min (toNat (W (2*a1))) 64))) (W (128*(kT (jJ (gG (bI a0.2.1 a0.1) (bI a0.2.2 a0.1)) (gG (bI a0.2.1 a0.1) (bI a0.2.2 a0.1)))))))))+1))
 else
  (kT (W (Int.tdiv (W (3537128906555392*2 ^ (min (toNat (W (2*a1))) 64))) (W (128*(kT (jJ (gG (bI a0.2.1 a0.1) (bI a0.2.2 a0.1)) (gG (bI a0.2.1 a0.1) (bI a0.2.2 a0.1))))))))))
theorem bD1 (a0:Zt×Zt×Zt)(a1:Int)(hp:lP a0=0)(ha:0≤a1∧a1≤3):Con Tryz.prog 117 [(.a (k9 a0)),(iv a1)] [] (iv (bW a0 a1)) []:=by
 refine aK Tryz.func117 (by kernel_rfl) fun cx hcx=>?_
 let t0:List (St Tryz.prog):=[.c [] (aWv a0.2.1 a0.1),.c [] (aWv a0.2.2 a0.1),.c [] (bDv (bI a0.2.1 a0.1) (bI a0.2.2 a0.1)),.c [] (aWu (gG (bI a0.2.1 a0.1) (bI a0.2.2 a0.1)) (gG (bI a0.2.1 a0.1) (bI a0.2.2 a0.1))),.c [] (aZz (jJ (gG (bI a0.2.1 a0.1) (bI a0.2.2 a0.1)) (gG (bI a0.2.1 a0.1) (bI a0.2.2 a0.1)))),.p (show 0≤((W (2*a1)):Int) from by first | (rw [aD]<;>omega) | exact aP1 hp),.p (show((W (128*(kT (jJ (gG (bI a0.2.1 a0.1) (bI a0.2.2 a0.1)) (gG (bI a0.2.1 a0.1) (bI a0.2.2 a0.1)))))):Int)≠0 from by first | (rw [aD]<;>omega) | exact aP1 hp),.c [] (aZz (W (Int.tdiv (W (3537128906555392*2 ^ (min (toNat (W (2*a1))) 64))) (W (128*(kT (jJ (gG (bI a0.2.1 a0.1) (bI a0.2.2 a0.1)) (gG (bI a0.2.1 a0.1) (bI a0.2.2 a0.1)))))))))]
 cases h0:(decide (((W ((W ((kT (W (Int.tdiv (W (3537128906555392*2 ^ (min (toNat (W (2*a1))) 64))) (W (128*(kT (jJ (gG (bI a0.2.1 a0.1) (bI a0.2.2 a0.1)) (gG (bI a0.2.1 a0.1) (bI a0.2.2 a0.1)))))))))*(kT (W (Int.tdiv (W (3537128906555392*2 ^ (min (toNat (W (2*a1))) 64))) (W (128*(kT (jJ (gG (bI a0.2.1 a0.1) (bI a0.2.2 a0.1)) (gG (bI a0.2.1 a0.1) (bI a0.2.2 a0.1)))))))))))*(W (128*(kT (jJ (gG (bI a0.2.1 a0.1) (bI a0.2.2 a0.1)) (gG (bI a0.2.1 a0.1) (bI a0.2.2 a0.1)))))))):Int) < (W (3537128906555392*2 ^ (min (toNat (W (2*a1))) 64))))) with
 | true =>
  have q0:=bY h0
  have e:=Eq.refl (bW a0 a1);conv at e=>rhs;simp only [bW,h0,aI]
  rw [e]
  exact rt (t0++[.d h0]) [] [] hcx (by kernel_rfl)
 | false =>
  have q0:=cG h0
  have e:=Eq.refl (bW a0 a1);conv at e=>rhs;simp only [bW,h0,aI]
  rw [e]
  exact rt (t0++[.d h0]) [] [] hcx (by kernel_rfl)
def aJ (a0:Zt×Zt×Zt):Zt×Zt×Zt :=
 a0
theorem aXd (a0:Zt×Zt×Zt):Con Tryz.prog 118 [(.a (k9 a0))] [] (.a (k9 (aJ a0))) []:=by
 refine aK Tryz.func118 (by kernel_rfl) fun cx hcx=>?_
 have e:=Eq.refl (aJ a0);conv at e=>rhs;simp only [aJ]
 rw [e]
 exact rt [] [] [] hcx (by kernel_rfl)
def aDq (a0:Int)(a1:Int)(a2:Int):Int×Int :=
 (zG (a0,a1) a2).1
theorem bD2 (a0:Int)(a1:Int)(a2:Int):Con Tryz.prog 122 [(iv a0),(iv a1),(iv a2)] [] (.a (k2 (aDq a0 a1 a2))) []:=by
 refine aK Tryz.func122 (by kernel_rfl) fun cx hcx=>?_
 have e:=Eq.refl (aDq a0 a1 a2);conv at e=>rhs;simp only [aDq]
 rw [e]
 exact rt [.c [] (bDx (a0,a1) a2)] [] [] hcx (by kernel_rfl)
noncomputable def bD3:Code:=match (fX [1,1,1,1,0,1,0] [] (Tryz.f92.body.getD .skip)).1 with
 | .rangeFunc _ _ a b=>a
 | _=>.skip
noncomputable def bD4:Code:=match (fX [1,1,1,1,0,1,0] [] (Tryz.f92.body.getD .skip)).1 with
 | .rangeFunc _ _ a b=>b
 | _=>.skip
noncomputable def bD5:List K:=(fX [1,1,1,1,0,1,0] [] (Tryz.f92.body.getD .skip)).2
def aXe (a0:Zt×Zt×Zt)(a1:Zt×Zt×Zt)(a2:Int):Int×Int→LS
 | (v1,v2)=>⟨[.u,.u,(iv a2),.u,.u,.u,(.p 0 0),(.p 1 0),(.p 2 0),(.p 3 0),(.p 4 0),(.p 5 0),.u,.u,.u,.u,.u,.u,.u,.u,.u,.u,.u,.u,.u,.u,.u,.u,.u,(.f 123 [(.p 6 0),(.p 7 0)]),.u,.u,.u,.u,.u,.u,.u,.u,.u,.u,.u,.u,.u,.u,.u,.u,.u,.u,.u,.u,.u,.u,.u,.u,.u,.u,.u,.u,.u,.u,.u,.u,.u,.u,.u,.u,.u,.u,.u,.u],[(.live true false [(iv 0),(iv 0)]),(.live true false [(iv (W (1*2 ^ (min (toNat a2) 64))))]),(.live true false [(iv (bW a0 a2))]),(.live true false (k9 (aJ a1))),(.live true false [(iv v1)]),(.live true false [(iv v2)]),(.live true false (k9 a0)),(.live true false [(iv a2)])]⟩
def bAf (a0:Zt×Zt×Zt)(a1:Zt×Zt×Zt)(a2:Int):Int×Int→Zt×Zt×Zt→LS
 | (v1,v2),x=>⟨[.u,.u,.u,.u,.u,.u,.u,(.p 1 0),(.p 2 0),(.p 3 0),(.p 4 0),(.p 5 0),(.p 8 0),.u,.u,.u,.u,.u,.u,.u,.u,.u,.u,.u,.u,.u,.u,.u,.u,.u,.u,.u,.u,.u,.u,.u,.u,.u,.u,.u,.u,.u,.u,.u,.u,.u,.u,.u,.u,.u,.u,.u,.u,.u,.u,.u,.u,.u,.u,.u,.u,.u,.u,.u,.u,.u,.u,.u,.u,.u],[(.live true false [(iv 0),(iv 0)]),(.live true false [(iv (W (1*2 ^ (min (toNat a2) 64))))]),(.live true false [(iv (bW a0 a2))]),(.live true false (k9 (aJ a1))),(.live true false [(iv v1)]),(.live true false [(iv v2)]),(.live true false (k9 a0)),(.live true false [(iv a2)]),(.live true false (k9 x))]⟩
def yP (a0:Zt×Zt×Zt)(a1:Zt×Zt×Zt)(a2:Int):Int×Int→Zt×Zt×Zt→Int×Int
 | (v1,v2),x =>
  (bif (decide (((bJ (aJ x) (aJ a1)):Int) > 0)) then
   ((W (v1+(fD (bH ([(aJ x).1,(aJ x).2.1,(aJ x).2.2]:List Zt) ([(aJ a1).1,(aJ a1).2.1,(aJ a1).2.2]:List Zt)) (W (1*2 ^ (min (toNat a2) 64)))).1.1)),(W (v2+(if((fD (bJ (aJ x) (aJ a1)) (W (1*2 ^ (min (toNat a2) 64)))).1.2:Int) < (bW a0 a2) then(fD (bJ (aJ x) (aJ a1)) (W (1*2 ^ (min (toNat a2) 64)))).1.2 else(bW a0 a2)))))
  else
   ((W (v1+(fD (bH ([(aJ x).1,(aJ x).2.1,(aJ x).2.2]:List Zt) ([(aJ a1).1,(aJ a1).2.1,(aJ a1).2.2]:List Zt)) (W (1*2 ^ (min (toNat a2) 64)))).1.1)),(W (v2+(bW a0 a2)))))
def G92 (a0:Zt×Zt×Zt)(a1:Zt×Zt×Zt)(a2:Int):Int×Int→Int×Int
 | (v1,v2) =>
  (aDq v1 v2 (W (1*2 ^ (min (toNat (W (2*a2))) 64))))
def F92 (a0:Zt×Zt×Zt)(a1:Zt×Zt×Zt)(a2:Int):Int×Int :=
 (G92 a0 a1 a2 ((aR (toNat a2) a0).foldl (yP a0 a1 a2) (0,0)))
theorem C92 (a0:Zt×Zt×Zt)(a1:Zt×Zt×Zt)(a2:Int)(hp:lP a0=0)(ha:0≤a2∧a2≤3):Con Tryz.prog 92 [(.a (k9 a0)),(.a (k9 a1)),(iv a2)] [] (.a (k2 (F92 a0 a1 a2))) []:=by
 have e:(F92 a0 a1 a2)=(G92 a0 a1 a2 ((aR (toNat a2) a0).foldl (yP a0 a1 a2) (0,0))):=by simp only [F92]
 rw [e]
 refine pW (n:=9) Tryz.func92 rfl (ent Tryz.func92 (by kernel_rfl) rfl) (by show 3≤Tryz.f92.ntmps;decide) (by kernel_rfl) trivial (fun cx hcx=>?_)
 refine uP (T:=T0) hT hm (f:=5000) (orc:=[.call [] (iv (bW a0 a2)) [],.call [] (.a (k9 (aJ a1))) [],.call [] (.f 123 [(.p 0 0),(.p 1 0)]) [(.live true false (k9 a0)),(.live true false [(iv a2)])]]) [] [2,6,7,8,9,10,11,29] [2,3,4,5,6,7,8,9] hcx (x:=.rangeFunc (.tmp 29) #[30] bD3 bD4) (k':=bD5) (s':=aXe a0 a1 a2 (0,0))
   (obs:=[.pr (0≤(a2:Int)),.call 117 [(.a (k9 a0)),(iv a2)] [] (iv (bW a0 a2)) [],.call 118 [(.a (k9 a1))] [] (.a (k9 (aJ a1))) [],.call 94 [(.a (k9 a0)),(iv a2)] [] (.f 123 [(.p 0 0),(.p 1 0)]) [(.live true false (k9 a0)),(.live true false [(iv a2)])]]) (by kernel_rfl) ⟨(show 0≤(a2:Int) from by first | omega | (rw [aD]<;>omega) | exact eA _),(bD1 a0 a2  hp ha),(aXd a1),(C94 a0 a2),trivial⟩ ?_
 refine aIg (xs:=aR (toNat a2) a0) (enc:=aDm) (V:=Int×Int) (R':=Empty) hcx rfl (by decide) [6,7] [(.p 0 0),(.p 1 0)] [(.live false false (k9 a0)),(.live false false [(iv a2)])] rfl rfl (aEf a0 a2 (by first | omega | exact pair_le h0)) (fun x=>SV.a (cP x)) aBi aPi 8 (Nb rfl) (bY (by kernel_rfl))
   (aXe a0 a1 a2) (0,0) rfl (fun⟨v1,v2⟩=>(by kernel_rfl)) (by kernel_rfl) (fun v v'=>(cX (cX (cX (cX (cX (cX (cX (cX aEa))))))))) (fun⟨v1,v2⟩=>(by kernel_rfl)) (fun⟨v1,v2⟩=>(by kernel_rfl)) (fun⟨v1,v2⟩=>(Nat.le_of_ble_eq_true (by kernel_rfl)))
   (fun v x=>.inl (yP a0 a1 a2 v x)) (fun r=>r.elim) (fun v r=>r.elim) (fun r=>r.elim)
   (fun _ _=>True) trivial (bAf a0 a1 a2) (fun⟨v1,v2⟩ x=>(by kernel_rfl)) (fun⟨v1,v2⟩ x=>(by kernel_rfl)) (fun⟨v1,v2⟩ x=>(Nat.le_of_ble_eq_true (by kernel_rfl)))
   (fun cx' l i ⟨v1,v2⟩ x QA hcx' hx hinv hg=>uQ (T:=T0) hT hm (f:=5000) (orc:=[]) [] [7,8,9,10,11,12] [8] hcx' (obs:=[]) (by kernel_rfl) trivial hg)
   (fun cx' l i ⟨v1,v2⟩ x QB hcx' hx hinv hb1 hb2=>?_) (fun cx' d ⟨v1,v2⟩ hh hv hinv=>?_) (fun cx' d r hh hv=>?_)
 · show Aw.Good _ _ _ _ _ _ _ (bAf a0 a1 a2 (v1,v2) x)
   cases h0:(decide (((bJ (aJ x) (aJ a1)):Int) > 0)) with
   | true =>
     have q0:=bY h0
     have e:(Sum.inl (yP a0 a1 a2 (v1,v2) x):(Int×Int)⊕Empty)=.inl ((W (v1+(fD (bH ([(aJ x).1,(aJ x).2.1,(aJ x).2.2]:List Zt) ([(aJ a1).1,(aJ a1).2.1,(aJ a1).2.2]:List Zt)) (W (1*2 ^ (min (toNat a2) 64)))).1.1)),(W (v2+(if((fD (bJ (aJ x) (aJ a1)) (W (1*2 ^ (min (toNat a2) 64)))).1.2:Int) < (bW a0 a2) then(fD (bJ (aJ x) (aJ a1)) (W (1*2 ^ (min (toNat a2) 64)))).1.2 else(bW a0 a2))))):=by simp only [yP,h0,aI]
     refine uQ (T:=T0) hT hm (f:=5000) (orc:=[.call [] (.a (k9 (aJ x))) [],.call [9,3] (iv (bH ([(aJ x).1,(aJ x).2.1,(aJ x).2.2]:List Zt) ([(aJ a1).1,(aJ a1).2.1,(aJ a1).2.2]:List Zt))) [],.call [] (.t [(.a (k2 (fD (bH ([(aJ x).1,(aJ x).2.1,(aJ x).2.2]:List Zt) ([(aJ a1).1,(aJ a1).2.1,(aJ a1).2.2]:List Zt)) (W (1*2 ^ (min (toNat a2) 64)))).1)),(iv (fD (bH ([(aJ x).1,(aJ x).2.1,(aJ x).2.2]:List Zt) ([(aJ a1).1,(aJ a1).2.1,(aJ a1).2.2]:List Zt)) (W (1*2 ^ (min (toNat a2) 64)))).2)]) [],.call [9,3] (iv (bJ (aJ x) (aJ a1))) [],.d true,.call [] (.t [(.a (k2 (fD (bJ (aJ x) (aJ a1)) (W (1*2 ^ (min (toNat a2) 64)))).1)),(iv (fD (bJ (aJ x) (aJ a1)) (W (1*2 ^ (min (toNat a2) 64)))).2)]) []]) [] [] [] hcx' (s':=⟨List.replicate 70 .u,[(.live true false [(iv 0),(iv 0)]),(.live true false [(iv (W (1*2 ^ (min (toNat a2) 64))))]),(.live true false [(iv (bW a0 a2))]),(.live true false (k9 (aJ a1))),(.live true false [(iv (W (v1+(fD (bH ([(aJ x).1,(aJ x).2.1,(aJ x).2.2]:List Zt) ([(aJ a1).1,(aJ a1).2.1,(aJ a1).2.2]:List Zt)) (W (1*2 ^ (min (toNat a2) 64)))).1.1)))]),(.live true false [(iv (W (v2+(if((fD (bJ (aJ x) (aJ a1)) (W (1*2 ^ (min (toNat a2) 64)))).1.2:Int) < (bW a0 a2) then(fD (bJ (aJ x) (aJ a1)) (W (1*2 ^ (min (toNat a2) 64)))).1.2 else(bW a0 a2)))))]),(.live true false (k9 a0)),(.live true false [(iv a2)])]⟩)
       (obs:=[.call 118 [(.a (k9 x))] [] (.a (k9 (aJ x))) [],.call 120 [(.s 0 0 3 3),(.s 1 0 3 3)] [(.live false false (k9 (aJ x))),(.live false false (k9 (aJ a1)))] (iv (bH ([(aJ x).1,(aJ x).2.1,(aJ x).2.2]:List Zt) ([(aJ a1).1,(aJ a1).2.1,(aJ a1).2.2]:List Zt))) [],.call 119 [(iv (bH ([(aJ x).1,(aJ x).2.1,(aJ x).2.2]:List Zt) ([(aJ a1).1,(aJ a1).2.1,(aJ a1).2.2]:List Zt))),(iv (W (1*2 ^ (min (toNat a2) 64))))] [] (.t [(.a (k2 (fD (bH ([(aJ x).1,(aJ x).2.1,(aJ x).2.2]:List Zt) ([(aJ a1).1,(aJ a1).2.1,(aJ a1).2.2]:List Zt)) (W (1*2 ^ (min (toNat a2) 64)))).1)),(iv (fD (bH ([(aJ x).1,(aJ x).2.1,(aJ x).2.2]:List Zt) ([(aJ a1).1,(aJ a1).2.1,(aJ a1).2.2]:List Zt)) (W (1*2 ^ (min (toNat a2) 64)))).2)]) [],.call 121 [(.s 0 0 3 3),(.s 1 0 3 3)] [(.live false false (k9 (aJ x))),(.live false false (k9 (aJ a1)))] (iv (bJ (aJ x) (aJ a1))) [],.eq (decide (((bJ (aJ x) (aJ a1)):Int) > 0)) true,.call 119 [(iv (bJ (aJ x) (aJ a1))),(iv (W (1*2 ^ (min (toNat a2) 64))))] [] (.t [(.a (k2 (fD (bJ (aJ x) (aJ a1)) (W (1*2 ^ (min (toNat a2) 64)))).1)),(iv (fD (bJ (aJ x) (aJ a1)) (W (1*2 ^ (min (toNat a2) 64)))).2)]) []]) (by kernel_rfl) ⟨(aXd x),(Con.flags (bs':=[(.live false false (k9 (aJ x))),(.live false false (k9 (aJ a1)))]) (aIi ([(aJ x).1,(aJ x).2.1,(aJ x).2.2]:List Zt) ([(aJ a1).1,(aJ a1).2.1,(aJ a1).2.2]:List Zt) (by(try simp only [Lt]);omega) (by(try simp only [Lt]);omega)) rfl ⟨jH (fun _=>rfl),jH (fun _=>rfl),trivial⟩),(aWx (bH ([(aJ x).1,(aJ x).2.1,(aJ x).2.2]:List Zt) ([(aJ a1).1,(aJ a1).2.1,(aJ a1).2.2]:List Zt)) (W (1*2 ^ (min (toNat a2) 64)))),(aIh (aJ x) (aJ a1)),h0,(aWx (bJ (aJ x) (aJ a1)) (W (1*2 ^ (min (toNat a2) 64)))),trivial⟩ ?_
     exact hb1 _ e trivial
   | false =>
     have q0:=cG h0
     have e:(Sum.inl (yP a0 a1 a2 (v1,v2) x):(Int×Int)⊕Empty)=.inl ((W (v1+(fD (bH ([(aJ x).1,(aJ x).2.1,(aJ x).2.2]:List Zt) ([(aJ a1).1,(aJ a1).2.1,(aJ a1).2.2]:List Zt)) (W (1*2 ^ (min (toNat a2) 64)))).1.1)),(W (v2+(bW a0 a2)))):=by simp only [yP,h0,aI]
     refine uQ (T:=T0) hT hm (f:=5000) (orc:=[.call [] (.a (k9 (aJ x))) [],.call [9,3] (iv (bH ([(aJ x).1,(aJ x).2.1,(aJ x).2.2]:List Zt) ([(aJ a1).1,(aJ a1).2.1,(aJ a1).2.2]:List Zt))) [],.call [] (.t [(.a (k2 (fD (bH ([(aJ x).1,(aJ x).2.1,(aJ x).2.2]:List Zt) ([(aJ a1).1,(aJ a1).2.1,(aJ a1).2.2]:List Zt)) (W (1*2 ^ (min (toNat a2) 64)))).1)),(iv (fD (bH ([(aJ x).1,(aJ x).2.1,(aJ x).2.2]:List Zt) ([(aJ a1).1,(aJ a1).2.1,(aJ a1).2.2]:List Zt)) (W (1*2 ^ (min (toNat a2) 64)))).2)]) [],.call [9,3] (iv (bJ (aJ x) (aJ a1))) [],.d false]) [] [] [] hcx' (s':=⟨List.replicate 70 .u,[(.live true false [(iv 0),(iv 0)]),(.live true false [(iv (W (1*2 ^ (min (toNat a2) 64))))]),(.live true false [(iv (bW a0 a2))]),(.live true false (k9 (aJ a1))),(.live true false [(iv (W (v1+(fD (bH ([(aJ x).1,(aJ x).2.1,(aJ x).2.2]:List Zt) ([(aJ a1).1,(aJ a1).2.1,(aJ a1).2.2]:List Zt)) (W (1*2 ^ (min (toNat a2) 64)))).1.1)))]),(.live true false [(iv (W (v2+(bW a0 a2))))]),(.live true false (k9 a0)),(.live true false [(iv a2)])]⟩)
       (obs:=[.call 118 [(.a (k9 x))] [] (.a (k9 (aJ x))) [],.call 120 [(.s 0 0 3 3),(.s 1 0 3 3)] [(.live false false (k9 (aJ x))),(.live false false (k9 (aJ a1)))] (iv (bH ([(aJ x).1,(aJ x).2.1,(aJ x).2.2]:List Zt) ([(aJ a1).1,(aJ a1).2.1,(aJ a1).2.2]:List Zt))) [],.call 119 [(iv (bH ([(aJ x).1,(aJ x).2.1,(aJ x).2.2]:List Zt) ([(aJ a1).1,(aJ a1).2.1,(aJ a1).2.2]:List Zt))),(iv (W (1*2 ^ (min (toNat a2) 64))))] [] (.t [(.a (k2 (fD (bH ([(aJ x).1,(aJ x).2.1,(aJ x).2.2]:List Zt) ([(aJ a1).1,(aJ a1).2.1,(aJ a1).2.2]:List Zt)) (W (1*2 ^ (min (toNat a2) 64)))).1)),(iv (fD (bH ([(aJ x).1,(aJ x).2.1,(aJ x).2.2]:List Zt) ([(aJ a1).1,(aJ a1).2.1,(aJ a1).2.2]:List Zt)) (W (1*2 ^ (min (toNat a2) 64)))).2)]) [],.call 121 [(.s 0 0 3 3),(.s 1 0 3 3)] [(.live false false (k9 (aJ x))),(.live false false (k9 (aJ a1)))] (iv (bJ (aJ x) (aJ a1))) [],.eq (decide (((bJ (aJ x) (aJ a1)):Int) > 0)) false]) (by kernel_rfl) ⟨(aXd x),(Con.flags (bs':=[(.live false false (k9 (aJ x))),(.live false false (k9 (aJ a1)))]) (aIi ([(aJ x).1,(aJ x).2.1,(aJ x).2.2]:List Zt) ([(aJ a1).1,(aJ a1).2.1,(aJ a1).2.2]:List Zt) (by(try simp only [Lt]);omega) (by(try simp only [Lt]);omega)) rfl ⟨jH (fun _=>rfl),jH (fun _=>rfl),trivial⟩),(aWx (bH ([(aJ x).1,(aJ x).2.1,(aJ x).2.2]:List Zt) ([(aJ a1).1,(aJ a1).2.1,(aJ a1).2.2]:List Zt)) (W (1*2 ^ (min (toNat a2) 64)))),(aIh (aJ x) (aJ a1)),h0,trivial⟩ ?_
     exact hb1 _ e trivial
 · rw [tA,Sum.inl.injEq] at hv;rw [hv]
   show Aw.Good _ _ _ _ _ _ _ (aXe a0 a1 a2 (v1,v2))
   have e:G92 a0 a1 a2 (v1,v2)=(aDq v1 v2 (W (1*2 ^ (min (toNat (W (2*a2))) 64)))):=by simp only [G92]
   rw [e]
   exact aMd (T:=T0) hT hm (f:=5000) (orc:=[.call [] (.a (k2 (aDq v1 v2 (W (1*2 ^ (min (toNat (W (2*a2))) 64)))))) []]) [] [] [] hh hcx
     (obs:=[.pr (0≤((W (2*a2)):Int)),.call 122 [(iv v1),(iv v2),(iv (W (1*2 ^ (min (toNat (W (2*a2))) 64))))] [] (.a (k2 (aDq v1 v2 (W (1*2 ^ (min (toNat (W (2*a2))) 64)))))) []]) (by kernel_rfl) ⟨(show 0≤((W (2*a2)):Int) from by first | omega | (rw [aD]<;>omega) | exact eA _),(bD2 v1 v2 (W (1*2 ^ (min (toNat (W (2*a2))) 64)))),trivial⟩
 · exact r.elim
noncomputable def aFz:Code:=(aE [1,1,1,1,1,1,0] [] (aH Tryz.f162) []).1
noncomputable def aF0:List K:=(aE [1,1,1,1,1,1,0] [] (aH Tryz.f162) []).2
def aAc (a0:Zt×Zt×Zt)(a1:Int)(v2 v3:Int):LS:=⟨iJ 45 [(6,(iv (rX (cB (lC a0) (lC a0))))),(8,(iv (W ((W ((W (1099511627776*(W (1*2 ^ (min (toNat (IntKind.wrap .u64 a1)) 64)))))*(W (1*2 ^ (min (toNat (IntKind.wrap .u64 a1)) 64)))))*3217)))),(9,(iv v2)),(10,(iv v3))],[]⟩
def mV (a0:Zt×Zt×Zt)(a1:Int):Int×Int→(Int×Int)⊕(Int)
 | (v2,v3) =>
  (bif (decide ((v2:Int) < v3)) then
   (bif (decide (((W ((W (Int.tdiv (W (v2+v3)) 2))*(W (Int.tdiv (W (v2+v3)) 2)))):Int)≥(uW (W ((W ((W (1099511627776*(W (1*2 ^ (min (toNat (IntKind.wrap .u64 a1)) 64)))))*(W (1*2 ^ (min (toNat (IntKind.wrap .u64 a1)) 64)))))*3217)) (W (128*(rX (cB (lC a0) (lC a0)))))))) then
    (.inl (v2,(W (Int.tdiv (W (v2+v3)) 2))))
   else
    (.inl ((W ((W (Int.tdiv (W (v2+v3)) 2))+1)),v3)))
  else
   (.inr v2))
theorem aXf (a0:Zt×Zt×Zt)(a1:Int)(ha:0≤a1∧a1≤3)(hr:W (128*rX (cB (lC a0) (lC a0)))≠0) {cx:Cx} (hcx:cx.base=0):∀(n:Nat)(v2 v3:Int),(0≤v2)∧(0≤v2)∧(v2≤v3)∧(v3≤268435456)→toNat (v3 - v2) < n→Aw.Good Tryz.prog none 9 (bodyPost Tryz.prog Tryz.f162 (RR cx (iv (aB (mV a0 a1) n (v2,v3))) [] [])) cx [] (.l aFz n::aF0) (aAc a0 a1 v2 v3):=by
 intro n
 induction n with
 | zero=>intro v2 v3 hi hn;exact absurd hn (iF _)
 | succ n ih =>
   intro v2 v3 hi hn
   refine aG ?_
   have hw:=aFi (a:=v2) (b:=v3) (by omega)
   have hw2:=aMh (a:=v2) (b:=v3) (by omega)
   cases h0:(decide ((v2:Int) < v3)) with
   | true =>
    have q0:=bY h0
    let t1:List (St Tryz.prog):=[.d h0,.p (show(2:Int)≠0 from by decide),.c [] (aW6 (W ((W ((W (1099511627776*(W (1*2 ^ (min (toNat (IntKind.wrap .u64 a1)) 64)))))*(W (1*2 ^ (min (toNat (IntKind.wrap .u64 a1)) 64)))))*3217)) (W (128*(rX (cB (lC a0) (lC a0)))))  (by(try simp only [Lt]);omega))]
    cases h1:(decide (((W ((W (Int.tdiv (W (v2+v3)) 2))*(W (Int.tdiv (W (v2+v3)) 2)))):Int)≥(uW (W ((W ((W (1099511627776*(W (1*2 ^ (min (toNat (IntKind.wrap .u64 a1)) 64)))))*(W (1*2 ^ (min (toNat (IntKind.wrap .u64 a1)) 64)))))*3217)) (W (128*(rX (cB (lC a0) (lC a0)))))))) with
    | true =>
     have q1:=bY h1
     have e:=Eq.refl (mV a0 a1 (v2,v3));conv at e=>rhs;simp only [mV,h0,h1,aI]
     rw [aA e]
     refine ba (t1++[.d h1]) [] [6,8,9,10] [] hcx (m:=n) aFz (aF0) (aAc a0 a1 v2 (W (Int.tdiv (W (v2+v3)) 2))) (by kernel_rfl) ?_
     exact ih v2 (W (Int.tdiv (W (v2+v3)) 2)) (by refine⟨?_,?_,?_,?_⟩<;>(try simp only [Ls])<;>first | omega | assumption | simp) (by(try simp only [Ls]);omega)
    | false =>
     have q1:=cG h1
     have e:=Eq.refl (mV a0 a1 (v2,v3));conv at e=>rhs;simp only [mV,h0,h1,aI]
     rw [aA e]
     refine ba (t1++[.d h1]) [] [6,8,9,10] [] hcx (m:=n) aFz (aF0) (aAc a0 a1 (W ((W (Int.tdiv (W (v2+v3)) 2))+1)) v3) (by kernel_rfl) ?_
     exact ih (W ((W (Int.tdiv (W (v2+v3)) 2))+1)) v3 (by refine⟨?_,?_,?_,?_⟩<;>(try simp only [Ls])<;>first | omega | assumption | simp) (by(try simp only [Ls]);omega)
   | false =>
    have q0:=cG h0
    have e:=Eq.refl (mV a0 a1 (v2,v3));conv at e=>rhs;simp only [mV,h0,aI]
    rw [aF,e]
    exact rt [.d h0] [] [] hcx (by kernel_rfl)
def tH (a0:Zt×Zt×Zt)(a1:Int):Int :=
 (aB (mV a0 a1) (toNat (268435456 - 0)+1) (0,268435456))
theorem bD6 (a0:Zt×Zt×Zt)(a1:Int)(ha:0≤a1∧a1≤3)(hr:W (128*rX (cB (lC a0) (lC a0)))≠0):Con Tryz.prog 162 [(.a (k9 a0)),(iv a1)] [] (iv (tH a0 a1)) []:=by
 refine aK Tryz.func162 (by kernel_rfl) fun cx hcx=>?_
 have e:=Eq.refl (tH a0 a1);conv at e=>rhs;simp only [tH]
 rw [e]
 refine en [.c [] (C80 a0),.c [] (aFt (lC a0) (lC a0)),.c [] (bDz (cB (lC a0) (lC a0))),.p (show 0≤((IntKind.wrap .u64 a1):Int) from by first | omega | (rw [aD]<;>omega) | exact eA _)] [] [6,8,9,10] [] hcx aFz (aF0) (aAc a0 a1 0 268435456) (toNat (268435456 - 0)+1) (by kernel_rfl) ?_
 exact aXf a0 a1 ha hr hcx (toNat (268435456 - 0)+1) 0 268435456 (by refine⟨?_,?_,?_,?_⟩<;>(try simp only [Ls])<;>first | omega | assumption | simp) (by(try simp only [Ls]);omega)
noncomputable def aF1:Code:=(aE [1,1,1,1,1,0,1] [] (aH Tryz.f153) []).1
noncomputable def aF2:List K:=(aE [1,1,1,1,1,0,1] [] (aH Tryz.f153) []).2
def aAd (a0:Zt×Zt×Zt)(a1:Int)(a2:Zt×Zt×Zt)(v1 v2 v3:Int):LS:=⟨iJ 88 [(6,(.p 0 0)),(7,(.s 1 0 (cD a0 a1).length 9)),(8,(.s 2 0 3 3)),(9,(iv (W (1*2 ^ (min (toNat (IntKind.wrap .u64 a1)) 64))))),(10,(iv (tH a0 a1))),(11,(iv v1)),(12,(iv v2)),(13,(iv v3))],[(.live true false [(iv 0),(iv 0)]),(.live true true (flat dK (cD a0 a1))),(.live true false (k9 a2))]⟩
def lS (a0:Zt×Zt×Zt)(a1:Int)(a2:Zt×Zt×Zt):Zt→Zt⊕(Int×Int)
 | (v1,v2,v3) =>
  (bif (decide ((v3:Int) < (((cD a0 a1).length:Nat):Int))) then
   (bif (decide (((gY ((cD a0 a1).getD (toNat v3) default) a2):Int) > 0)) then
    (.inl ((W (v1+(lZ (jM ((cD a0 a1).getD (toNat v3) default) ([a2.1,a2.2.1,a2.2.2]:List Zt)) (W (1*2 ^ (min (toNat (IntKind.wrap .u64 a1)) 64)))).1.1)),(W (v2+(if((lZ (gY ((cD a0 a1).getD (toNat v3) default) a2) (W (1*2 ^ (min (toNat (IntKind.wrap .u64 a1)) 64)))).1.2:Int) < (tH a0 a1) then(lZ (gY ((cD a0 a1).getD (toNat v3) default) a2) (W (1*2 ^ (min (toNat (IntKind.wrap .u64 a1)) 64)))).1.2 else(tH a0 a1)))),(v3+1)))
   else
    (.inl ((W (v1+(lZ (jM ((cD a0 a1).getD (toNat v3) default) ([a2.1,a2.2.1,a2.2.2]:List Zt)) (W (1*2 ^ (min (toNat (IntKind.wrap .u64 a1)) 64)))).1.1)),(W (v2+(tH a0 a1))),(v3+1))))
  else
   (.inr ((tE v1 (((cD a0 a1).length:Nat):Int)),(uW v2 (((cD a0 a1).length:Nat):Int)))))
theorem aXg (a0:Zt×Zt×Zt)(a1:Int)(a2:Zt×Zt×Zt)(ha:0≤a1∧a1≤3)(hr:W (128*rX (cB (lC a0) (lC a0)))≠0) {cx:Cx} (hcx:cx.base=0):∀(n:Nat)(v1 v2 v3:Int),0≤v3→toNat ((((cD a0 a1).length:Nat):Int) - v3) < n→Aw.Good Tryz.prog none 9 (bodyPost Tryz.prog Tryz.f153 (RR cx (.a (k2 (aB (lS a0 a1 a2) n (v1,v2,v3)))) [] [])) cx [] (.l aF1 n::aF2) (aAd a0 a1 a2 v1 v2 v3):=by
 intro n
 induction n with
 | zero=>intro v1 v2 v3 hi hn;exact absurd hn (iF _)
 | succ n ih =>
   intro v1 v2 v3 hi hn
   refine aG ?_
   have hcl:=aP3 (p:=a0) ha
   cases h0:(decide ((v3:Int) < (((cD a0 a1).length:Nat):Int))) with
   | true =>
    have q0:=bY h0
    let t1:List (St Tryz.prog):=[.d h0,.i v3 ((cD a0 a1).length),.L cU (cD a0 a1) v3 0 9,.c [2] (Con.flags (bs':=[(.live false false (k9 a2))]) (aW8 ((cD a0 a1).getD (toNat v3) default) ([a2.1,a2.2.1,a2.2.2]:List Zt) (by(try simp only [Lt]);omega)) rfl ⟨jH (fun _=>rfl),trivial⟩),.c [] (aZ6 (jM ((cD a0 a1).getD (toNat v3) default) ([a2.1,a2.2.1,a2.2.2]:List Zt)) (W (1*2 ^ (min (toNat (IntKind.wrap .u64 a1)) 64)))),.i v3 ((cD a0 a1).length),.L cU (cD a0 a1) v3 0 9,.c [2] (aW9 ((cD a0 a1).getD (toNat v3) default) a2)]
    cases h1:(decide (((gY ((cD a0 a1).getD (toNat v3) default) a2):Int) > 0)) with
    | true =>
     have q1:=bY h1
     have e:=Eq.refl (lS a0 a1 a2 (v1,v2,v3));conv at e=>rhs;simp only [lS,h0,h1,aI]
     rw [aA e]
     refine ba (t1++[.d h1,.c [] (aZ6 (gY ((cD a0 a1).getD (toNat v3) default) a2) (W (1*2 ^ (min (toNat (IntKind.wrap .u64 a1)) 64))))]) [] [6,7,8,9,10,11,12,13] [0,1,2] hcx (m:=n) aF1 (aF2) (aAd a0 a1 a2 (W (v1+(lZ (jM ((cD a0 a1).getD (toNat v3) default) ([a2.1,a2.2.1,a2.2.2]:List Zt)) (W (1*2 ^ (min (toNat (IntKind.wrap .u64 a1)) 64)))).1.1)) (W (v2+(if((lZ (gY ((cD a0 a1).getD (toNat v3) default) a2) (W (1*2 ^ (min (toNat (IntKind.wrap .u64 a1)) 64)))).1.2:Int) < (tH a0 a1) then(lZ (gY ((cD a0 a1).getD (toNat v3) default) a2) (W (1*2 ^ (min (toNat (IntKind.wrap .u64 a1)) 64)))).1.2 else(tH a0 a1)))) (W (v3+1))) (by kernel_rfl) ?_
     have z0:(W (v3+1))=(v3+1):=aD (by omega) (by omega)
     rw [z0]
     exact ih (W (v1+(lZ (jM ((cD a0 a1).getD (toNat v3) default) ([a2.1,a2.2.1,a2.2.2]:List Zt)) (W (1*2 ^ (min (toNat (IntKind.wrap .u64 a1)) 64)))).1.1)) (W (v2+(if((lZ (gY ((cD a0 a1).getD (toNat v3) default) a2) (W (1*2 ^ (min (toNat (IntKind.wrap .u64 a1)) 64)))).1.2:Int) < (tH a0 a1) then(lZ (gY ((cD a0 a1).getD (toNat v3) default) a2) (W (1*2 ^ (min (toNat (IntKind.wrap .u64 a1)) 64)))).1.2 else(tH a0 a1)))) (v3+1) (by(try simp only [Ls]);omega) (by(try simp only [Ls]);omega)
    | false =>
     have q1:=cG h1
     have e:=Eq.refl (lS a0 a1 a2 (v1,v2,v3));conv at e=>rhs;simp only [lS,h0,h1,aI]
     rw [aA e]
     refine ba (t1++[.d h1]) [] [6,7,8,9,10,11,12,13] [0,1,2] hcx (m:=n) aF1 (aF2) (aAd a0 a1 a2 (W (v1+(lZ (jM ((cD a0 a1).getD (toNat v3) default) ([a2.1,a2.2.1,a2.2.2]:List Zt)) (W (1*2 ^ (min (toNat (IntKind.wrap .u64 a1)) 64)))).1.1)) (W (v2+(tH a0 a1))) (W (v3+1))) (by kernel_rfl) ?_
     have z0:(W (v3+1))=(v3+1):=aD (by omega) (by omega)
     rw [z0]
     exact ih (W (v1+(lZ (jM ((cD a0 a1).getD (toNat v3) default) ([a2.1,a2.2.1,a2.2.2]:List Zt)) (W (1*2 ^ (min (toNat (IntKind.wrap .u64 a1)) 64)))).1.1)) (W (v2+(tH a0 a1))) (v3+1) (by(try simp only [Ls]);omega) (by(try simp only [Ls]);omega)
   | false =>
    have q0:=cG h0
    have e:=Eq.refl (lS a0 a1 a2 (v1,v2,v3));conv at e=>rhs;simp only [lS,h0,aI]
    rw [aF,e]
    exact rt [.d h0,.c [] (aW5 v1 (((cD a0 a1).length:Nat):Int)  (aP2 (by omega))),.c [] (aW6 v2 (((cD a0 a1).length:Nat):Int)  (aP2 (by omega)))] [] [] hcx (by kernel_rfl)
def vA (a0:Zt×Zt×Zt)(a1:Int)(a2:Zt×Zt×Zt):Int×Int :=
 (aB (lS a0 a1 a2) (toNat ((((cD a0 a1).length:Nat):Int) - 0)+1) (0,0,0))
theorem bAg (a0:Zt×Zt×Zt)(a1:Int)(a2:Zt×Zt×Zt)(ha:0≤a1∧a1≤3)(hr:W (128*rX (cB (lC a0) (lC a0)))≠0):Con Tryz.prog 153 [(.a (k9 a0)),(iv a1),(.a (k9 a2))] [] (.a (k2 (vA a0 a1 a2))) []:=by
 refine aK Tryz.func153 (by kernel_rfl) fun cx hcx=>?_
 have e:=Eq.refl (vA a0 a1 a2);conv at e=>rhs;simp only [vA]
 rw [e]
 refine en [.c [] (bAa a0 a1  (by(try simp only [Lt]);omega)),.p (show 0≤((IntKind.wrap .u64 a1):Int) from by first | omega | (rw [aD]<;>omega) | exact eA _),.c [] (bD6 a0 a1  ha hr)] [] [6,7,8,9,10,11,12,13] [2,3,4] hcx aF1 (aF2) (aAd a0 a1 a2 0 0 0) (toNat ((((cD a0 a1).length:Nat):Int) - 0)+1) (by kernel_rfl) ?_
 exact aXg a0 a1 a2 ha hr hcx (toNat ((((cD a0 a1).length:Nat):Int) - 0)+1) 0 0 0 (by(try simp only [Ls]);omega) (by(try simp only [Ls]);omega)
def mx (a b:Int):Int:=if a < b then b else a
theorem qF {a b c:Int} (h:a≤c)(h':b≤c):mx a b≤c:=by unfold mx;split<;>assumption
theorem dG (a b:Int):a≤mx a b:=by unfold mx;split<;>omega
theorem kL (a b:Int):b≤mx a b:=by unfold mx;split<;>omega
def ds (p q:P3):Int:=dt (sb p q) (sb p q)
def fF (p q:P3):Int:=jJ (bI p q) (bI p q)
theorem vC {p q:P3} (hp:bd 5000 p)(hq:bd 5000 q):fF p q=ds p q:=by
 unfold fF ds
 rw [fsb (hp.mono (by omega)) (hq.mono (by omega))]
 exact fdt ((nP hp hq).mono (by omega)) ((nP hp hq).mono (by omega))
def rF (p q:P3):Int:=cB (aT p q) (aT p q)
theorem vD {p q:P3} (hp:bd 5000 p)(hq:bd 5000 q):rF p q=ds p q:=by
 unfold rF ds
 rw [rsb (hp.mono (by omega)) (hq.mono (by omega))]
 exact rdt ((nP hp hq).mono (by omega)) ((nP hp hq).mono (by omega))
theorem bAh (c:PN)(x y z:P3):bH [c.1,c.2.1,c.2.2] [x,y,z] =
   mx (mx (mx (mx (mx (mx (mx (mx (mx 0 (fF c.1 x)) (fF c.1 y)) (fF c.1 z)) (fF c.2.1 x)) (fF c.2.1 y)) (fF c.2.1 z)) (fF c.2.2 x)) (fF c.2.2 y)) (fF c.2.2 z):=by
 rfl
theorem wU (c:PN)(l:List P3)(v:Int)(i:Nat)(h:i < l.length) :
   bQ c l (v,(i:Int))=.inl (mx (mx (mx v (rF c.1 (l.getD i default))) (rF c.2.1 (l.getD i default))) (rF c.2.2 (l.getD i default)),((i+1:Nat):Int)):=by
 have h0:decide ((i:Int) < (l.length:Int))=true:=by simpa using h
 simp only [bQ,h0,cond_true,uC]
 have key:∀q:P3,(bif decide (rF c.1 q > v) then bif decide (rF c.2.1 q > rF c.1 q) then bif decide (rF c.2.2 q > rF c.2.1 q) then Sum.inl (rF c.2.2 q,(i:Int)+1) else Sum.inl (rF c.2.1 q,(i:Int)+1) else bif decide (rF c.2.2 q > rF c.1 q) then Sum.inl (rF c.2.2 q,(i:Int)+1) else Sum.inl (rF c.1 q,(i:Int)+1)
   else bif decide (rF c.2.1 q > v) then bif decide (rF c.2.2 q > rF c.2.1 q) then Sum.inl (rF c.2.2 q,(i:Int)+1) else Sum.inl (rF c.2.1 q,(i:Int)+1) else bif decide (rF c.2.2 q > v) then Sum.inl (rF c.2.2 q,(i:Int)+1) else Sum.inl (v,(i:Int)+1))
   = (Sum.inl (mx (mx (mx v (rF c.1 q)) (rF c.2.1 q)) (rF c.2.2 q),((i:Int)+1)):(Int×Int)⊕Int):=by
   intro q
   generalize rF c.1 q=a1;generalize rF c.2.1 q=a2;generalize rF c.2.2 q=a3
   unfold mx
   by_cases h1:a1 > v
   · rw [bV h1,cond_true,if_pos h1]
     by_cases h2:a2 > a1
     · rw [bV h2,cond_true,if_pos h2]
       by_cases h3:a3 > a2
       · rw [bV h3,cond_true,if_pos h3]
       · rw [cJ h3,cond_false,if_neg h3]
     · rw [cJ h2,cond_false,if_neg h2]
       by_cases h3:a3 > a1
       · rw [bV h3,cond_true,if_pos h3]
       · rw [cJ h3,cond_false,if_neg h3]
   · rw [cJ h1,cond_false,if_neg h1]
     by_cases h2:a2 > v
     · rw [bV h2,cond_true,if_pos h2]
       by_cases h3:a3 > a2
       · rw [bV h3,cond_true,if_pos h3]
       · rw [cJ h3,cond_false,if_neg h3]
     · rw [cJ h2,cond_false,if_neg h2]
       by_cases h3:a3 > v
       · rw [bV h3,cond_true,if_pos h3]
       · rw [cJ h3,cond_false,if_neg h3]
 exact key (l.getD i default)
theorem aP6 (c:PN)(l:List P3)(v:Int):bQ c l (v,(l.length:Int))=.inr v:=by
 have h0:decide ((l.length:Int) < (l.length:Int))=false:=by simp
 simp only [bQ,h0,cond_false]
theorem bAi (c:PN)(x y z:P3):jM c [x,y,z] =
   mx (mx (mx (mx (mx (mx (mx (mx (mx 0 (rF c.1 x)) (rF c.2.1 x)) (rF c.2.2 x)) (rF c.1 y)) (rF c.2.1 y)) (rF c.2.2 y)) (rF c.1 z)) (rF c.2.1 z)) (rF c.2.2 z):=by
 unfold jM
 have e0:=wU c [x,y,z] 0 0 (by simp)
 have e1:=wU c [x,y,z] (mx (mx (mx 0 (rF c.1 x)) (rF c.2.1 x)) (rF c.2.2 x)) 1 (by simp)
 have e2:=wU c [x,y,z] (mx (mx (mx (mx (mx (mx 0 (rF c.1 x)) (rF c.2.1 x)) (rF c.2.2 x)) (rF c.1 y)) (rF c.2.1 y)) (rF c.2.2 y)) 2 (by simp)
 have e3:=aP6 c [x,y,z] (mx (mx (mx (mx (mx (mx (mx (mx (mx 0 (rF c.1 x)) (rF c.2.1 x)) (rF c.2.2 x)) (rF c.1 y)) (rF c.2.1 y)) (rF c.2.2 y)) (rF c.1 z)) (rF c.2.1 z)) (rF c.2.2 z))
 rw [show toNat ((([x,y,z]:List P3).length:Int) - 0)+1=4 from rfl,show((0,0):Int×Int)=(0,((0:Nat):Int)) from rfl,aA e0]
 refine(aA e1).trans ?_
 refine(aA e2).trans ?_
 exact aO e3
theorem aP7 (a b c d e f g h i:Int):mx (mx (mx (mx (mx (mx (mx (mx (mx 0 a) b) c) d) e) f) g) h) i=mx (mx (mx (mx (mx (mx (mx (mx (mx 0 a) d) g) b) e) h) c) f) i:=by
 have key:∀a b c:Int,mx (mx a b) c=mx (mx a c) b:=fun a b c=>by unfold mx;repeat' split<;>omega
 rw [key _ c d,key _ b d,key _ f g,key _ e g,key _ c g,key _ b g]
 rw [key _ c e,key _ f h,key _ c h]
def zI (a b c:Int):Int:=if c < (if b < (if a < a then a else a) then b else(if a < a then a else a)) then c else(if b < (if a < a then a else a) then b else(if a < a then a else a))
def zJ (a b c:Int):Int:=if(if(if a < a then a else a) < b then b else(if a < a then a else a)) < c then c else(if(if a < a then a else a) < b then b else(if a < a then a else a))
theorem lT (a b c:Int):zI a b c≤a∧zI a b c≤b∧zI a b c≤c:=by
 unfold zI;simp only [Int.lt_irrefl,if_false];split<;>split at *<;>omega
theorem lU (a b c:Int):a≤zJ a b c∧b≤zJ a b c∧c≤zJ a b c:=by
 unfold zJ;simp only [Int.lt_irrefl,if_false];split<;>split at *<;>omega
theorem aF3 (a b c:Int):zI a b c=a∨zI a b c=b∨zI a b c=c:=by
 unfold zI;simp only [Int.lt_irrefl,if_false];split<;>split at *<;>omega
theorem aF4 (a b c:Int):zJ a b c=a∨zJ a b c=b∨zJ a b c=c:=by
 unfold zJ;simp only [Int.lt_irrefl,if_false];split<;>split at *<;>omega
def gp (a b c d:Int):Int:=mx (mx 0 (c - b)) (a - d)
theorem aBy (a b c d:Int):0≤gp a b c d:=Int.le_trans (dG 0 _) (dG _ _)
theorem aUa (a b c d:Int):gp c d a b=gp a b c d:=by unfold gp mx;repeat' split<;>omega
def nr (a b c d:P3):Int:=gp a.1 b.1 c.1 d.1*gp a.1 b.1 c.1 d.1+gp a.2.1 b.2.1 c.2.1 d.2.1*gp a.2.1 b.2.1 c.2.1 d.2.1+gp a.2.2 b.2.2 c.2.2 d.2.2*gp a.2.2 b.2.2 c.2.2 d.2.2
def oH (c:PN):P3:=(zI c.1.1 c.2.1.1 c.2.2.1,zI c.1.2.1 c.2.1.2.1 c.2.2.2.1,zI c.1.2.2 c.2.1.2.2 c.2.2.2.2)
def oI (c:PN):P3:=(zJ c.1.1 c.2.1.1 c.2.2.1,zJ c.1.2.1 c.2.1.2.1 c.2.2.2.1,zJ c.1.2.2 c.2.1.2.2 c.2.2.2.2)
theorem aF5 {m:Int} {c:PN} (h:bdP m c):bd m (oH c):=by
 have h1:=aF3 c.1.1 c.2.1.1 c.2.2.1;have h2:=aF3 c.1.2.1 c.2.1.2.1 c.2.2.2.1;have h3:=aF3 c.1.2.2 c.2.1.2.2 c.2.2.2.2
 have ha:=h.1;have hb:=h.2.1;have hc:=h.2.2
 unfold bd at *;simp only [oH];omega
theorem aF6 {m:Int} {c:PN} (h:bdP m c):bd m (oI c):=by
 have h1:=aF4 c.1.1 c.2.1.1 c.2.2.1;have h2:=aF4 c.1.2.1 c.2.1.2.1 c.2.2.2.1;have h3:=aF4 c.1.2.2 c.2.1.2.2 c.2.2.2.2
 have ha:=h.1;have hb:=h.2.1;have hc:=h.2.2
 unfold bd at *;simp only [oI];omega
theorem bAj (c:PN):aP c=(oH c,oI c):=rfl
theorem aP8 {a b c d:Int} (ha:-5000≤a∧a≤5000)(hb:-5000≤b∧b≤5000)(hc:-5000≤c∧c≤5000)(hd:-5000≤d∧d≤5000):lQ a b c d=gp a b c d:=by
 unfold lQ
 rw [aD (n:=c - b) (by omega) (by omega),aD (n:=a - d) (by omega) (by omega)];rfl
theorem aBz {a b c d:Int} (ha:-5000≤a∧a≤5000)(hb:-5000≤b∧b≤5000)(hc:-5000≤c∧c≤5000)(hd:-5000≤d∧d≤5000):0≤gp a b c d∧gp a b c d≤10000 :=
 ⟨aBy _ _ _ _,qF (qF (by omega) (by omega)) (by omega)⟩
theorem nrF {a b c d:P3} (ha:bd 5000 a)(hb:bd 5000 b)(hc:bd 5000 c)(hd:bd 5000 d) :
   jJ (lQ a.1 b.1 c.1 d.1,lQ a.2.1 b.2.1 c.2.1 d.2.1,lQ a.2.2 b.2.2 c.2.2 d.2.2) (lQ a.1 b.1 c.1 d.1,lQ a.2.1 b.2.1 c.2.1 d.2.1,lQ a.2.2 b.2.2 c.2.2 d.2.2)=nr a b c d:=by
 rw [aP8 ha.1 hb.1 hc.1 hd.1,aP8 ha.2.1 hb.2.1 hc.2.1 hd.2.1,aP8 ha.2.2 hb.2.2 hc.2.2 hd.2.2]
 have h1:=aBz ha.1 hb.1 hc.1 hd.1;have h2:=aBz ha.2.1 hb.2.1 hc.2.1 hd.2.1;have h3:=aBz ha.2.2 hb.2.2 hc.2.2 hd.2.2
 have hv:bd 1000000000 (gp a.1 b.1 c.1 d.1,gp a.2.1 b.2.1 c.2.1 d.2.1,gp a.2.2 b.2.2 c.2.2 d.2.2):=by unfold bd;simp only;omega
 rw [fdt hv hv];rfl
theorem aXh {c q:PN} (hc:bdP 5000 c)(hq:bdP 5000 q):bJ c q=nr (oH c) (oI c) (oH q) (oI q):=by
 unfold bJ
 rw [bAj,bAj]
 exact nrF (aF5 hc) (aF6 hc) (aF5 hq) (aF6 hq)
theorem qZ (a b c:Int):cI [a,b,c]=(zI a b c,zJ a b c):=rfl
theorem aP9 {l m:List Int} {a b c d:Int} (hl:cI l=(a,b))(hm:cI m=(c,d))(ha:-5000≤a∧a≤5000)(hb:-5000≤b∧b≤5000)(hc:-5000≤c∧c≤5000)(hd:-5000≤d∧d≤5000) :
   fS l m=gp a b c d*gp a b c d:=by
 unfold fS
 rw [hl,hm]
 simp only
 rw [aD (n:=a - d) (by omega) (by omega),aD (n:=c - b) (by omega) (by omega)]
 have e:(if((if(0:Int) < a - d then a - d else 0):Int) < c - b then c - b else(if(0:Int) < a - d then a - d else 0))=gp a b c d:=aUa a b c d
 rw [e]
 have h1:=aBz ha hb hc hd
 have h2:=bD (a:=10000) (b:=10000) (x:=gp a b c d) (y:=gp a b c d) (by omega) (by omega)
 exact aD (by omega) (by omega)
theorem bD7 {a b c:Int} (ha:0≤a∧a≤100000000)(hb:0≤b∧b≤100000000)(hc:0≤c∧c≤100000000):W ((W (a+b))+c)=a+b+c:=by
 rw [aD (n:=a+b) (by omega) (by omega),aD (by omega) (by omega)]
theorem aXi {c q:PN} (hc:bdP 5000 c)(hq:bdP 5000 q):gY c q=nr (oH c) (oI c) (oH q) (oI q):=by
 unfold gY
 have hl:=aF5 hc;have hh:=aF6 hc;have kl:=aF5 hq;have kh:=aF6 hq
 have g1:=aP9 (l:=bX c 0) (m:=bX q 0) (qZ c.1.1 c.2.1.1 c.2.2.1) (qZ q.1.1 q.2.1.1 q.2.2.1) hl.1 hh.1 kl.1 kh.1
 have g2:=aP9 (l:=bX c 1) (m:=bX q 1) (qZ c.1.2.1 c.2.1.2.1 c.2.2.2.1) (qZ q.1.2.1 q.2.1.2.1 q.2.2.2.1) hl.2.1 hh.2.1 kl.2.1 kh.2.1
 have g3:=aP9 (l:=bX c 2) (m:=bX q 2) (qZ c.1.2.2 c.2.1.2.2 c.2.2.2.2) (qZ q.1.2.2 q.2.1.2.2 q.2.2.2.2) hl.2.2 hh.2.2 kl.2.2 kh.2.2
 have b1:=aBz hl.1 hh.1 kl.1 kh.1;have b2:=aBz hl.2.1 hh.2.1 kl.2.1 kh.2.1;have b3:=aBz hl.2.2 hh.2.2 kl.2.2 kh.2.2
 have m1:=bD (a:=10000) (b:=10000) (by omega) (by omega) (x:=gp (oH c).1 (oI c).1 (oH q).1 (oI q).1) (y:=gp (oH c).1 (oI c).1 (oH q).1 (oI q).1)
 have m2:=bD (a:=10000) (b:=10000) (by omega) (by omega) (x:=gp (oH c).2.1 (oI c).2.1 (oH q).2.1 (oI q).2.1) (y:=gp (oH c).2.1 (oI c).2.1 (oH q).2.1 (oI q).2.1)
 have m3:=bD (a:=10000) (b:=10000) (by omega) (by omega) (x:=gp (oH c).2.2 (oI c).2.2 (oH q).2.2 (oI q).2.2) (y:=gp (oH c).2.2 (oI c).2.2 (oH q).2.2 (oI q).2.2)
 rw [show fS (bX c 0) (bX q 0)=_ from g1,show fS (bX c 1) (bX q 1)=_ from g2,show fS (bX c 2) (bX q 2)=_ from g3]
 exact bD7 ⟨iY _,by have:=m1.2;exact this⟩ ⟨iY _,by have:=m2.2;exact this⟩ ⟨iY _,by have:=m3.2;exact this⟩
open Classical in
noncomputable def pk (p q:PN)(d:Int):Int:=if vp p=0 then(if vp q=0 then(if 0≤d∧d≤2 then 0 else 1) else vp q) else vp p
theorem aQa (v w:Int)(b:Prop) [Decidable b]:(bif (v != 0) then v else(bif (w != 0) then w else(bif (!(decide b)) then(1:Int) else 0)))=if v=0 then(if w=0 then(if b then 0 else 1) else w) else v:=by
 by_cases hv:v=0
 · subst hv
   by_cases hw:w=0
   · subst hw;by_cases hb:b<;>simp [hb]
   · rw [bne_iff_ne.2 hw,cond_true,if_neg hw];simp
 · rw [bne_iff_ne.2 hv,cond_true,if_neg hv]
theorem aAe (p q:PN)(d:Int):wO p q d=pk p q d:=by
 unfold wO pk
 rw [aT4,aT4,aN6,aQa]
theorem rA (p q:PN)(d:Int):mA p q d=pk p q d:=by
 unfold mA pk
 rw [aT5,aT5,aJ5,aQa]
theorem vE {p q:PN} {d:Int} (h:pk p q d=0):vp p=0∧vp q=0∧0≤d∧d≤2:=by
 unfold pk at h
 split at h
 · rename_i h0
   split at h
   · rename_i h1
     split at h
     · rename_i h2;exact⟨h0,h1,h2⟩
     · cases h
   · rename_i h1;exact absurd h h1
 · rename_i h0;exact absurd h h0
theorem aMm {p q:PN} {d:Int} (h:((wO p q d:Int) != 0)=false):vp p=0∧vp q=0∧0≤d∧d≤2 :=
 vE (by rw [←aAe];simpa using h)
theorem aMn {p q:PN} {d:Int} (h:((wO p q d:Int) != 0)=false):lP p=0:=by
 rw [aT4];exact(aMm h).1
theorem pair_le {p q:PN} {d:Int} (h:((wO p q d:Int) != 0)=false):0≤d∧d≤3:=by have:=aMm h;omega
theorem wV {p q:PN} {d:Int} (h:((mA p q d:Int) != 0)=false):0≤d∧d≤3:=by
 have:=vE (p:=p) (q:=q) (d:=d) (by rw [←rA];simpa using h);omega
theorem aEj {p q:PN} {d:Int} (h:((mA p q d:Int) != 0)=false):W (128*rX (cB (lC p) (lC p)))≠0 :=
 aT6 (by rw [aT5];exact(vE (p:=p) (q:=q) (d:=d) (by rw [←rA];simpa using h)).1)
def uA (a0:Zt×Zt×Zt)(a1:Zt×Zt×Zt)(a2:Int):(Int×Int)×Int :=
 (bif (((wO a0 a1 a2):Int) != 0) then
  ((0,0),(wO a0 a1 a2))
 else
  ((F92 a0 ((rV a1.1 (W (1*2 ^ (min (toNat a2) 64)))),(rV a1.2.1 (W (1*2 ^ (min (toNat a2) 64)))),(rV a1.2.2 (W (1*2 ^ (min (toNat a2) 64))))) a2),0))
theorem C60 (a0:Zt×Zt×Zt)(a1:Zt×Zt×Zt)(a2:Int):Con Tryz.prog 60 [(.a (k9 a0)),(.a (k9 a1)),(iv a2)] [] (.t [(.a (k2 (uA a0 a1 a2).1)),(iv (uA a0 a1 a2).2)]) []:=by
 refine aK Tryz.func60 (by kernel_rfl) fun cx hcx=>?_
 let t0:List (St Tryz.prog):=[.c [] (C91 a0 a1 a2)]
 cases h0:(((wO a0 a1 a2):Int) != 0) with
 | true =>
  have q0:=bne_iff_ne.1 h0
  have e:=Eq.refl (uA a0 a1 a2);conv at e=>rhs;simp only [uA,h0,aI]
  rw [e]
  exact rt (t0++[.d h0]) [] [] hcx (by kernel_rfl)
 | false =>
  have q0:=bne_eq_false_iff_eq.1 h0
  have e:=Eq.refl (uA a0 a1 a2);conv at e=>rhs;simp only [uA,h0,aI]
  rw [e]
  exact rt (t0++[.d h0,.p (show 0≤(a2:Int) from by exact(pair_le h0).1),.c [] (C93 a1.1 (W (1*2 ^ (min (toNat a2) 64)))),.c [] (C93 a1.2.1 (W (1*2 ^ (min (toNat a2) 64)))),.c [] (C93 a1.2.2 (W (1*2 ^ (min (toNat a2) 64)))),.c [] (C92 a0 ((rV a1.1 (W (1*2 ^ (min (toNat a2) 64)))),(rV a1.2.1 (W (1*2 ^ (min (toNat a2) 64)))),(rV a1.2.2 (W (1*2 ^ (min (toNat a2) 64))))) a2  (aMn h0) (pair_le h0))]) [] [] hcx (by kernel_rfl)
def lV (a0:Zt×Zt×Zt)(a1:Zt×Zt×Zt)(a2:Int):(Int×Int)×Int :=
 (bif (((mA a0 a1 a2):Int) != 0) then
  ((0,0),(mA a0 a1 a2))
 else
  ((vA a0 a2 ((aC a1.1 (W (1*2 ^ (min (toNat (IntKind.wrap .u64 a2)) 64)))),(aC a1.2.1 (W (1*2 ^ (min (toNat (IntKind.wrap .u64 a2)) 64)))),(aC a1.2.2 (W (1*2 ^ (min (toNat (IntKind.wrap .u64 a2)) 64)))))),0))
theorem bD8 (a0:Zt×Zt×Zt)(a1:Zt×Zt×Zt)(a2:Int):Con Tryz.prog 135 [(.a (k9 a0)),(.a (k9 a1)),(iv a2)] [] (.t [(.a (k2 (lV a0 a1 a2).1)),(iv (lV a0 a1 a2).2)]) []:=by
 refine aK Tryz.func135 (by kernel_rfl) fun cx hcx=>?_
 let t0:List (St Tryz.prog):=[.c [] (aZ9 a0 a1 a2)]
 cases h0:(((mA a0 a1 a2):Int) != 0) with
 | true =>
  have q0:=bne_iff_ne.1 h0
  have e:=Eq.refl (lV a0 a1 a2);conv at e=>rhs;simp only [lV,h0,aI]
  rw [e]
  exact rt (t0++[.d h0]) [] [] hcx (by kernel_rfl)
 | false =>
  have q0:=bne_eq_false_iff_eq.1 h0
  have e:=Eq.refl (lV a0 a1 a2);conv at e=>rhs;simp only [lV,h0,aI]
  rw [e]
  exact rt (t0++[.d h0,.p (show 0≤((IntKind.wrap .u64 a2):Int) from by first | omega | (rw [aD]<;>omega) | exact eA _),.c [] (aN3 a1.1 (W (1*2 ^ (min (toNat (IntKind.wrap .u64 a2)) 64)))),.c [] (aN3 a1.2.1 (W (1*2 ^ (min (toNat (IntKind.wrap .u64 a2)) 64)))),.c [] (aN3 a1.2.2 (W (1*2 ^ (min (toNat (IntKind.wrap .u64 a2)) 64)))),.c [] (bAg a0 a2 ((aC a1.1 (W (1*2 ^ (min (toNat (IntKind.wrap .u64 a2)) 64)))),(aC a1.2.1 (W (1*2 ^ (min (toNat (IntKind.wrap .u64 a2)) 64)))),(aC a1.2.2 (W (1*2 ^ (min (toNat (IntKind.wrap .u64 a2)) 64)))))  (wV h0) (aEj h0))]) [] [] hcx (by kernel_rfl)
end Go.Proofs.YtaeagjnpobdglaaGreat
namespace Go.Proofs.YtaeagjnpobdglaaGreat
open Go.Proofs Go.Aw Go.RowKit
set_option maxRecDepth 100000
theorem aIl:∀(d:Nat)(p:PN),(aR d p).length=4 ^ d
 | 0,p=>rfl
 | d+1,p=>by
   rw [fY]
   have:∀l:List PN,(l.flatMap aBw).length=4*l.length:=fun l=>by
     induction l with
     | nil=>rfl
     | cons x l ih=>rw [List.flatMap_cons,List.length_append,ih];show 4+_=_;simp only [List.length_cons];omega
   rw [this,aIl d p,Nat.pow_succ];omega
end Go.Proofs.YtaeagjnpobdglaaGreat
