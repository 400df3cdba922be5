/-
  Parts of the proofs of the laws: the executor, what functions of the program compute, and that it is what the statements ask. No premise.
-/
import Derived.Test.YtkdfcbmcgnaicaaGreatVPen4
set_option linter.unusedVariables false
set_option linter.unusedSimpArgs false
set_option maxHeartbeats 4000000
open Int renaming toNat → tN
open Inhabited renaming default → dF
namespace Go.Proofs.YtkdfcbmcgnaicaaGreat
open Go.Proofs Go.Aw Go.RowKit
set_option maxRecDepth 100000
abbrev BU:=(List (((Zt×Zt×Zt)×Int)))×Int×List Int×bE
structure PADD (b:BU) (i k:Int):Prop where
 inr:InR b.1.length b.2.2.1
 rng:0<=i/\i < k/\k<=b.2.2.1.length/\b.2.2.1.length<=1048576
 nds:b.2.2.2.length+2*(k - i)<=4194304
 lf:1<=b.2.1
theorem InR.part {n:Nat} {l:List Int} (h:InR n l)(a b:Int):InR n (Aw.part l a b):=fun x hx=>h x (List.mem_of_mem_drop (List.mem_of_mem_take hx))
theorem InR.atD {n:Nat} {l:List Int} (h:InR n l)(h0:0 < n)(i:Nat):0<=l.getD i dF/\l.getD i dF < (n:Int):=by
 by_cases hi:i < l.length
 ·exact h.at hi
 ·rw [fP,List.getElem?_eq_none (by omega)]
  exact⟨Int.le_refl _,by show(0:Int) < n;omega⟩
theorem aGw {a0:bT} {a1:List Int}:∀(d i n:Nat) (m:bT),d=a1.length - i->i<=a1.length->d < n ->
 aH (fY a0 a1) n (m,(i:Int))=m++(a1.drop i).map (fun a=>a0.getD (tN a) dF)
 | 0,i,n,m,hd,hi,hn=>by
  obtain⟨n,rfl⟩:∃m,n=m+1:=⟨n - 1,by omega⟩
  have:i=a1.length:=by omega
  subst this
  have e:fY a0 a1 (m,(a1.length:Int))=.inr m:=by
   simp only [fY];rw [dA (Int.lt_irrefl _),cond_false]
  rw [aQ e];simp
 | d+1,i,n,m,hd,hi,hn=>by
  obtain⟨n,rfl⟩:∃m,n=m+1:=⟨n - 1,by omega⟩
  have e:fY a0 a1 (m,(i:Int))=.inl (m++[a0.getD (tN (a1.getD i dF)) dF],((i+1:Nat):Int)):=by
   simp only [fY]
   rw [cI (show((i:Nat):Int) < (a1.length:Nat) by omega),cond_true,fT];rfl
  rw [aI e,aGw d (i+1) n _ (by omega) (by omega) (by omega),List.drop_eq_getElem_cons (show i < a1.length by omega),List.map_cons]
  simp [fP,List.getElem?_eq_getElem (show i < a1.length by omega)]
theorem aOq (a0:bT)(a1:List Int):gR a0 a1=a1.map (fun a=>a0.getD (tN a) dF):=by
 have:=aGw (a0:=a0) (a1:=a1) a1.length 0 (tN ((a1.length:Int) - 0)+1) [] (by omega) (by omega) (by omega)
 exact this
theorem zA (a0:bT)(a1:List Int):(gR a0 a1).length=a1.length:=by rw [aOq];simp
theorem aTr {N:Nat} {l:List Int} {o m:Nat} {c:BU×Int} (hw:o+m<=l.length/\l.length<=1048576)(hi:InR N l):(iR l o m c).length=l.length/\InR N (iR l o m c) :=
 yZ _ hw hi (by omega) (by omega)
theorem aA9 {i k:Int} (h:0<=i/\i < k/\k<=1048576):(W (i+(W (Int.tdiv (W ((W (k - i))+1)) 2))))=i+(k - i+1) / 2:=by
 rw [aR (n:=k - i) (by omega) (by omega),aR (n:=k - i+1) (by omega) (by omega),Int.tdiv_eq_ediv_of_nonneg (by omega),aR (n:=(k - i+1) / 2) (by omega) (by omega),aR (by omega) (by omega)]
def dQ (a0:bT×Int×List Int×bE)(a1:Int)(a2:Int):=(gR a0.1 (Aw.part (a0.2.2.1) a1 a2))
def iA (a0:bT×Int×List Int×bE)(a1:Int)(a2:Int):=(yG (dQ a0 a1 a2) (dX (dQ a0 a1 a2)))
def aGx (a0:bT×Int×List Int×bE)(a1:Int)(a2:Int):=(aGv (a0.1,a0.2.1,(a0.2.2.1,(a0.2.2.2++[(a1,a2,(-1),(-1),(dX (dQ a0 a1 a2)),(iA a0 a1 a2).1)]))) (Aw.part (a0.2.2.1) a1 a2))
def yH (a0:bT×Int×List Int×bE)(a1:Int)(a2:Int):=(iR (a0.2.2.1) (tN a1) (tN a2 - tN a1) ((a0.1,a0.2.1,(a0.2.2.1,(a0.2.2.2++[(a1,a2,(-1),(-1),(dX (dQ a0 a1 a2)),(iA a0 a1 a2).1)]))),(aGx a0 a1 a2).2))
def fK (rr:eK->(Int)->(Int)->Int×bT×Int×List Int×bE)(a0:bT×Int×List Int×bE)(a1:Int)(a2:Int):=(rr (a0.1,a0.2.1,((yH a0 a1 a2),(a0.2.2.2++[(a1,a2,(-1),(-1),(dX (dQ a0 a1 a2)),(iA a0 a1 a2).1)]))) a1 (W (a1+(W (Int.tdiv (W ((W (a2 - a1))+1)) 2)))))
def aU (rr:eK->(Int)->(Int)->Int×bT×Int×List Int×bE)(a0:bT×Int×List Int×bE)(a1:Int)(a2:Int):=(rr (a0.1,(fK (rr) a0 a1 a2).2.2.1,((fK (rr) a0 a1 a2).2.2.2.1,(fK (rr) a0 a1 a2).2.2.2.2)) (W (a1+(W (Int.tdiv (W ((W (a2 - a1))+1)) 2)))) a2)
def cH:Nat->eK->(Int)->(Int)->Int×bT×Int×List Int×bE
 | 0,_,_,_=>dF
 | nr+1,a0,a1,a2 =>
 (bif (decide (((W (a2 - a1)):Int) > a0.2.1)) then
  ((a0.2.2.2.length:Int),(a0.1,(aU (cH nr) a0 a1 a2).2.2.1,((aU (cH nr) a0 a1 a2).2.2.2.1,(((aU (cH nr) a0 a1 a2).2.2.2.2.set (tN (a0.2.2.2.length:Int)) (((aU (cH nr) a0 a1 a2).2.2.2.2.getD (tN (a0.2.2.2.length:Int)) dF).1,((aU (cH nr) a0 a1 a2).2.2.2.2.getD (tN (a0.2.2.2.length:Int)) dF).2.1,(fK (cH nr) a0 a1 a2).1,((aU (cH nr) a0 a1 a2).2.2.2.2.getD (tN (a0.2.2.2.length:Int)) dF).2.2.2.1,((aU (cH nr) a0 a1 a2).2.2.2.2.getD (tN (a0.2.2.2.length:Int)) dF).2.2.2.2.1,((aU (cH nr) a0 a1 a2).2.2.2.2.getD (tN (a0.2.2.2.length:Int)) dF).2.2.2.2.2)).set (tN (a0.2.2.2.length:Int)) ((((aU (cH nr) a0 a1 a2).2.2.2.2.set (tN (a0.2.2.2.length:Int)) (((aU (cH nr) a0 a1 a2).2.2.2.2.getD (tN (a0.2.2.2.length:Int)) dF).1,((aU (cH nr) a0 a1 a2).2.2.2.2.getD (tN (a0.2.2.2.length:Int)) dF).2.1,(fK (cH nr) a0 a1 a2).1,((aU (cH nr) a0 a1 a2).2.2.2.2.getD (tN (a0.2.2.2.length:Int)) dF).2.2.2.1,((aU (cH nr) a0 a1 a2).2.2.2.2.getD (tN (a0.2.2.2.length:Int)) dF).2.2.2.2.1,((aU (cH nr) a0 a1 a2).2.2.2.2.getD (tN (a0.2.2.2.length:Int)) dF).2.2.2.2.2)).getD (tN (a0.2.2.2.length:Int)) dF).1,(((aU (cH nr) a0 a1 a2).2.2.2.2.set (tN (a0.2.2.2.length:Int)) (((aU (cH nr) a0 a1 a2).2.2.2.2.getD (tN (a0.2.2.2.length:Int)) dF).1,((aU (cH nr) a0 a1 a2).2.2.2.2.getD (tN (a0.2.2.2.length:Int)) dF).2.1,(fK (cH nr) a0 a1 a2).1,((aU (cH nr) a0 a1 a2).2.2.2.2.getD (tN (a0.2.2.2.length:Int)) dF).2.2.2.1,((aU (cH nr) a0 a1 a2).2.2.2.2.getD (tN (a0.2.2.2.length:Int)) dF).2.2.2.2.1,((aU (cH nr) a0 a1 a2).2.2.2.2.getD (tN (a0.2.2.2.length:Int)) dF).2.2.2.2.2)).getD (tN (a0.2.2.2.length:Int)) dF).2.1,(((aU (cH nr) a0 a1 a2).2.2.2.2.set (tN (a0.2.2.2.length:Int)) (((aU (cH nr) a0 a1 a2).2.2.2.2.getD (tN (a0.2.2.2.length:Int)) dF).1,((aU (cH nr) a0 a1 a2).2.2.2.2.getD (tN (a0.2.2.2.length:Int)) dF).2.1,(fK (cH nr) a0 a1 a2).1,((aU (cH nr) a0 a1 a2).2.2.2.2.getD (tN (a0.2.2.2.length:Int)) dF).2.2.2.1,((aU (cH nr) a0 a1 a2).2.2.2.2.getD (tN (a0.2.2.2.length:Int)) dF).2.2.2.2.1,((aU (cH nr) a0 a1 a2).2.2.2.2.getD (tN (a0.2.2.2.length:Int)) dF).2.2.2.2.2)).getD (tN (a0.2.2.2.length:Int)) dF).2.2.1,(aU (cH nr) a0 a1 a2).1,(((aU (cH nr) a0 a1 a2).2.2.2.2.set (tN (a0.2.2.2.length:Int)) (((aU (cH nr) a0 a1 a2).2.2.2.2.getD (tN (a0.2.2.2.length:Int)) dF).1,((aU (cH nr) a0 a1 a2).2.2.2.2.getD (tN (a0.2.2.2.length:Int)) dF).2.1,(fK (cH nr) a0 a1 a2).1,((aU (cH nr) a0 a1 a2).2.2.2.2.getD (tN (a0.2.2.2.length:Int)) dF).2.2.2.1,((aU (cH nr) a0 a1 a2).2.2.2.2.getD (tN (a0.2.2.2.length:Int)) dF).2.2.2.2.1,((aU (cH nr) a0 a1 a2).2.2.2.2.getD (tN (a0.2.2.2.length:Int)) dF).2.2.2.2.2)).getD (tN (a0.2.2.2.length:Int)) dF).2.2.2.2.1,(((aU (cH nr) a0 a1 a2).2.2.2.2.set (tN (a0.2.2.2.length:Int)) (((aU (cH nr) a0 a1 a2).2.2.2.2.getD (tN (a0.2.2.2.length:Int)) dF).1,((aU (cH nr) a0 a1 a2).2.2.2.2.getD (tN (a0.2.2.2.length:Int)) dF).2.1,(fK (cH nr) a0 a1 a2).1,((aU (cH nr) a0 a1 a2).2.2.2.2.getD (tN (a0.2.2.2.length:Int)) dF).2.2.2.1,((aU (cH nr) a0 a1 a2).2.2.2.2.getD (tN (a0.2.2.2.length:Int)) dF).2.2.2.2.1,((aU (cH nr) a0 a1 a2).2.2.2.2.getD (tN (a0.2.2.2.length:Int)) dF).2.2.2.2.2)).getD (tN (a0.2.2.2.length:Int)) dF).2.2.2.2.2)))))
 else
  ((a0.2.2.2.length:Int),(a0.1,a0.2.1,(a0.2.2.1,(a0.2.2.2++[(a1,a2,(-1),(-1),(dX (dQ a0 a1 a2)),(iA a0 a1 a2).1)])))))
def F49 (a0:bT×Int×List Int×bE)(a1:Int)(a2:Int):Int×bT×Int×List Int×bE:=cH (tN (a2 - a1)+1) a0 a1 a2
structure ADDR (b r:BU) (i k:Int):Prop where
 pan:r.1=b.1
 leaf:r.2.1=b.2.1
 ol:r.2.2.1.length=b.2.2.1.length
 oi:InR b.1.length r.2.2.1
 lo:b.2.2.2.length < r.2.2.2.length
 hi:r.2.2.2.length<=b.2.2.2.length+2*(k - i) - 1
section
variable {nr : Nat} {b : BU} {i k : Int} (hp : PADD b i k)
include hp
theorem sX:(yH b i k).length=b.2.2.1.length/\InR b.1.length (yH b i k) :=
 aTr (by have:=hp.rng;omega) hp.inr
theorem aMm {x:Int×Int×Int×Int×Zt×Int} (h2:2<=k - i):PADD (b.1,b.2.1,(yH b i k),b.2.2.2++[x]) i (W (i+(W (Int.tdiv (W ((W (k - i))+1)) 2)))):=by
 have h:=hp.rng;have hn:=hp.nds
 rw [aA9 ⟨h.1,h.2.1,by omega⟩]
 have h4:=sX hp
 exact⟨h4.2,⟨h.1,by omega,by rw [h4.1];omega,by rw [h4.1];omega⟩,by simp only [List.length_append,List.length_cons,List.length_nil];omega,hp.lf⟩
end
theorem aOr {b r:BU} {i k:Int} {o:List Int} {x:Int×Int×Int×Int×Zt×Int} (hp:PADD b i k)(ho:o.length=b.2.2.1.length)(h2:2<=k - i)(hr:ADDR (b.1,b.2.1,o,b.2.2.2++[x]) r i (W (i+(W (Int.tdiv (W ((W (k - i))+1)) 2))))) :
 PADD (b.1,r.2.1,r.2.2.1,r.2.2.2) (W (i+(W (Int.tdiv (W ((W (k - i))+1)) 2)))) k:=by
 have h:=hp.rng;have hn:=hp.nds
 obtain⟨g1,g2,g3,g4,g5,g6⟩:=hr
 rw [aA9 ⟨h.1,h.2.1,by omega⟩] at g6 ⊢
 simp only [List.length_append,List.length_cons,List.length_nil] at g3 g5 g6 g2
 exact⟨g4,⟨by omega,by omega,by rw [g3];omega,by rw [g3];omega⟩,by simp only;omega,by rw [g2];exact hp.lf⟩
theorem vN:∀(nr:Nat) (b:BU) (i k:Int),PADD b i k->tN (k - i) < nr->ADDR b (cH nr b i k).2 i k
 | 0,b,i,k,_,hn=>absurd hn (eL _)
 | nr+1,b,i,k,hp,hn=>by
  have h:=hp.rng;have hn2:=hp.nds;have hl:=hp.lf
  have hW:W (k - i)=k - i:=aR (by omega) (by omega)
  simp only [cH]
  by_cases h0:W (k - i) > b.2.1
  ·rw [cI h0,cond_true]
   have h2:2<=k - i:=by omega
   have hm:=aA9 ⟨h.1,h.2.1,by omega⟩
   have h5:ADDR _ (fK (cH nr) b i k).2 i _:=vN nr _ _ _ (aMm hp h2) (by rw [hm];omega)
   have h6:ADDR _ (aU (cH nr) b i k).2 _ k:=vN nr _ _ _ (aOr hp (sX hp).1 h2 h5) (by rw [hm];omega)
   have g3:=h5.ol;have g5:=h5.lo;have g6:=h5.hi;have f3:=h6.ol;have f5:=h6.lo;have f6:=h6.hi
   rw [hm] at g6 f6
   simp only [List.length_append,List.length_cons,List.length_nil] at g3 g5 g6 f3 f5 f6
   refine⟨rfl,h6.leaf.trans h5.leaf,?_,h6.oi,?_,?_⟩
   ·show(aU (cH nr) b i k).2.2.2.1.length=_
    rw [f3,g3];exact(sX hp).1
   ·simp only [List.length_set];omega
   ·simp only [List.length_set];omega
  ·rw [dA h0,cond_false]
   exact⟨rfl,rfl,rfl,hp.inr,by simp,by simp;omega⟩
theorem aWp:∀(nr:Nat) (a0:bT×Int×List Int×bE) (a1:Int) (a2:Int) (l0_1:a0.1.length<=2^63-1) (l0_2_2_1:a0.2.2.1.length<=2^63-1) (l0_2_2_2:a0.2.2.2.length<=2^63-1) (hp:PADD a0 a1 a2),tN (a2 - a1) < nr->Con Tryz.prog 49 [(.p 0 0),(iv a1),(iv a2)] [(.live true false [(.s 1 0 a0.1.length 10),(iv a0.2.1),(.s 2 0 a0.2.2.1.length 1),(.s 3 0 a0.2.2.2.length 8)]),(.live false true (flat dI a0.1)),(.live true true (flat c3 a0.2.2.1)),(.live true true (flat bZ a0.2.2.2))] (iv (cH nr a0 a1 a2).1) [(.live true true (flat bZ (cH nr a0 a1 a2).2.2.2.2))] [(.live true false [(.s 1 0 a0.1.length 10),(iv (cH nr a0 a1 a2).2.2.1),(.s 2 0 (cH nr a0 a1 a2).2.2.2.1.length 1),(.s 4 0 (cH nr a0 a1 a2).2.2.2.2.length 8)]),.un,(.live true true (flat c3 (cH nr a0 a1 a2).2.2.2.1)),.dead]:=by
 intro nr
 induction nr with
 | zero=>intro a0 a1 a2 l0_1 l0_2_2_1 l0_2_2_2 hp hlt;exact absurd hlt (eL _)
 | succ nr ihr =>
 intro a0 a1 a2 l0_1 l0_2_2_1 l0_2_2_2 hp hlt
 refine bA Tryz.func49 (by kernel_rfl) fun cx hcx=>?_
 have hpr:=hp.rng
 have hpn:=hp.nds
 have hpl:=hp.lf
 have hpt:=dL (l:=a0.2.2.1) (a:=a1) (b:=a2) (by omega)
 have hm1:(dQ a0 a1 a2).length=_:=zA a0.1 (Aw.part a0.2.2.1 a1 a2)
 have hW:W (a2 - a1)=a2 - a1:=aR (by omega) (by omega)
 have hmid:=aA9 (i:=a1) (k:=a2) (by omega)
 have h4:=sX hp
 try (have _:=h0;rw [hmid] at g6 f6;simp only [List.length_append,List.length_cons,List.length_nil] at g3 g5 g6 f3 f5 f6)
 let t0:List (St Tryz.prog):=[.sub a1 a2 (a0.2.2.1.length),.c [1,2] (show Con Tryz.prog 70 [(.s 0 0 a0.1.length 10),(.s 1 (0+tN a1*1) (tN a2 - tN a1) 1)] [(.live false true (flat dI a0.1)),(.live false true (flat c3 a0.2.2.1))] (.s 2 0 (dQ a0 a1 a2).length 10) [(.live true true (flat dI (dQ a0 a1 a2)))] from Con.part (l:=a0.2.2.1) (a:=a1) (b:=a2) (c:=c3) (pre:=[(.s 0 0 a0.1.length 10)]) (post:=[]) (bs1:=[(.live false true (flat dI a0.1))]) (bs2:=[]) 1 aF (by omega) rfl (by rfl) (aQy a0.1 (Aw.part (a0.2.2.1) a1 a2) (by omega) (by omega) (hp.inr.part a1 a2) (by omega))),.c [4] (aVf (dQ a0 a1 a2) (by omega) (by omega)),.c [4] (aVh (dQ a0 a1 a2) (dX (dQ a0 a1 a2)) (by omega) (by omega)),.p (show((flat bZ a0.2.2.2).length=a0.2.2.2.length*8/\a0.2.2.2.length+1<=2 ^ 40/\(a0.2.2.2.length+1)*64<=2 ^ 47) from nX bU (by omega) (by omega))]
 cases h0:(decide (((W (a2 - a1)):Int) > a0.2.1)) with
 | true =>
  have q0:=cN h0
  have h4:=sX hp
  try have h2:2<=a2 - a1:=(fun _=>by omega) h0
  try have h5:ADDR _ (fK (cH nr) a0 a1 a2).2 a1 _:=(fun _=>vN nr _ _ _ (aMm hp h2) (by rw [hmid];omega)) h0
  try have h6:ADDR _ (aU (cH nr) a0 a1 a2).2 _ a2:=(fun _=>vN nr _ _ _ (aOr hp (sX hp).1 h2 h5) (by rw [hmid];omega)) h0
  try have g5:=(fun _=>h5.lo) h0
  try have g6:=(fun _=>h5.hi) h0
  try have g3:=(fun _=>h5.ol) h0
  try have f5:=(fun _=>h6.lo) h0
  try have f6:=(fun _=>h6.hi) h0
  try have f3:=(fun _=>h6.ol) h0
  try (have _:=h0;rw [hmid] at g6 f6;simp only [List.length_append,List.length_cons,List.length_nil] at g3 g5 g6 f3 f5 f6)
  have e:=Eq.refl (cH (nr+1) a0 a1 a2);conv at e=>rhs;simp only [cH,h0,aW]
  rw [e]
  try dsimp only [aZ]
  try dsimp only
  rw [show flat bZ (((aU (cH nr) a0 a1 a2).2.2.2.2.set (tN (a0.2.2.2.length:Int)) (((aU (cH nr) a0 a1 a2).2.2.2.2.getD (tN (a0.2.2.2.length:Int)) dF).1,((aU (cH nr) a0 a1 a2).2.2.2.2.getD (tN (a0.2.2.2.length:Int)) dF).2.1,(fK (cH nr) a0 a1 a2).1,((aU (cH nr) a0 a1 a2).2.2.2.2.getD (tN (a0.2.2.2.length:Int)) dF).2.2.2.1,((aU (cH nr) a0 a1 a2).2.2.2.2.getD (tN (a0.2.2.2.length:Int)) dF).2.2.2.2.1,((aU (cH nr) a0 a1 a2).2.2.2.2.getD (tN (a0.2.2.2.length:Int)) dF).2.2.2.2.2)).set (tN (a0.2.2.2.length:Int)) ((((aU (cH nr) a0 a1 a2).2.2.2.2.set (tN (a0.2.2.2.length:Int)) (((aU (cH nr) a0 a1 a2).2.2.2.2.getD (tN (a0.2.2.2.length:Int)) dF).1,((aU (cH nr) a0 a1 a2).2.2.2.2.getD (tN (a0.2.2.2.length:Int)) dF).2.1,(fK (cH nr) a0 a1 a2).1,((aU (cH nr) a0 a1 a2).2.2.2.2.getD (tN (a0.2.2.2.length:Int)) dF).2.2.2.1,((aU (cH nr) a0 a1 a2).2.2.2.2.getD (tN (a0.2.2.2.length:Int)) dF).2.2.2.2.1,((aU (cH nr) a0 a1 a2).2.2.2.2.getD (tN (a0.2.2.2.length:Int)) dF).2.2.2.2.2)).getD (tN (a0.2.2.2.length:Int)) dF).1,(((aU (cH nr) a0 a1 a2).2.2.2.2.set (tN (a0.2.2.2.length:Int)) (((aU (cH nr) a0 a1 a2).2.2.2.2.getD (tN (a0.2.2.2.length:Int)) dF).1,((aU (cH nr) a0 a1 a2).2.2.2.2.getD (tN (a0.2.2.2.length:Int)) dF).2.1,(fK (cH nr) a0 a1 a2).1,((aU (cH nr) a0 a1 a2).2.2.2.2.getD (tN (a0.2.2.2.length:Int)) dF).2.2.2.1,((aU (cH nr) a0 a1 a2).2.2.2.2.getD (tN (a0.2.2.2.length:Int)) dF).2.2.2.2.1,((aU (cH nr) a0 a1 a2).2.2.2.2.getD (tN (a0.2.2.2.length:Int)) dF).2.2.2.2.2)).getD (tN (a0.2.2.2.length:Int)) dF).2.1,(((aU (cH nr) a0 a1 a2).2.2.2.2.set (tN (a0.2.2.2.length:Int)) (((aU (cH nr) a0 a1 a2).2.2.2.2.getD (tN (a0.2.2.2.length:Int)) dF).1,((aU (cH nr) a0 a1 a2).2.2.2.2.getD (tN (a0.2.2.2.length:Int)) dF).2.1,(fK (cH nr) a0 a1 a2).1,((aU (cH nr) a0 a1 a2).2.2.2.2.getD (tN (a0.2.2.2.length:Int)) dF).2.2.2.1,((aU (cH nr) a0 a1 a2).2.2.2.2.getD (tN (a0.2.2.2.length:Int)) dF).2.2.2.2.1,((aU (cH nr) a0 a1 a2).2.2.2.2.getD (tN (a0.2.2.2.length:Int)) dF).2.2.2.2.2)).getD (tN (a0.2.2.2.length:Int)) dF).2.2.1,(aU (cH nr) a0 a1 a2).1,(((aU (cH nr) a0 a1 a2).2.2.2.2.set (tN (a0.2.2.2.length:Int)) (((aU (cH nr) a0 a1 a2).2.2.2.2.getD (tN (a0.2.2.2.length:Int)) dF).1,((aU (cH nr) a0 a1 a2).2.2.2.2.getD (tN (a0.2.2.2.length:Int)) dF).2.1,(fK (cH nr) a0 a1 a2).1,((aU (cH nr) a0 a1 a2).2.2.2.2.getD (tN (a0.2.2.2.length:Int)) dF).2.2.2.1,((aU (cH nr) a0 a1 a2).2.2.2.2.getD (tN (a0.2.2.2.length:Int)) dF).2.2.2.2.1,((aU (cH nr) a0 a1 a2).2.2.2.2.getD (tN (a0.2.2.2.length:Int)) dF).2.2.2.2.2)).getD (tN (a0.2.2.2.length:Int)) dF).2.2.2.2.1,(((aU (cH nr) a0 a1 a2).2.2.2.2.set (tN (a0.2.2.2.length:Int)) (((aU (cH nr) a0 a1 a2).2.2.2.2.getD (tN (a0.2.2.2.length:Int)) dF).1,((aU (cH nr) a0 a1 a2).2.2.2.2.getD (tN (a0.2.2.2.length:Int)) dF).2.1,(fK (cH nr) a0 a1 a2).1,((aU (cH nr) a0 a1 a2).2.2.2.2.getD (tN (a0.2.2.2.length:Int)) dF).2.2.2.1,((aU (cH nr) a0 a1 a2).2.2.2.2.getD (tN (a0.2.2.2.length:Int)) dF).2.2.2.2.1,((aU (cH nr) a0 a1 a2).2.2.2.2.getD (tN (a0.2.2.2.length:Int)) dF).2.2.2.2.2)).getD (tN (a0.2.2.2.length:Int)) dF).2.2.2.2.2))=(splice (splice (flat bZ (aU (cH nr) a0 a1 a2).2.2.2.2) (0+tN (a0.2.2.2.length:Int)*8+2) [(iv (fK (cH nr) a0 a1 a2).1)]) (0+tN (a0.2.2.2.length:Int)*8+3) [(iv (aU (cH nr) a0 a1 a2).1)]) from Eq.symm (by rw [show(splice (flat bZ (aU (cH nr) a0 a1 a2).2.2.2.2) (0+tN (a0.2.2.2.length:Int)*8+2) [(iv (fK (cH nr) a0 a1 a2).1)])=flat bZ ((aU (cH nr) a0 a1 a2).2.2.2.2.set (tN (a0.2.2.2.length:Int)) (((aU (cH nr) a0 a1 a2).2.2.2.2.getD (tN (a0.2.2.2.length:Int)) dF).1,((aU (cH nr) a0 a1 a2).2.2.2.2.getD (tN (a0.2.2.2.length:Int)) dF).2.1,(fK (cH nr) a0 a1 a2).1,((aU (cH nr) a0 a1 a2).2.2.2.2.getD (tN (a0.2.2.2.length:Int)) dF).2.2.2.1,((aU (cH nr) a0 a1 a2).2.2.2.2.getD (tN (a0.2.2.2.length:Int)) dF).2.2.2.2.1,((aU (cH nr) a0 a1 a2).2.2.2.2.getD (tN (a0.2.2.2.length:Int)) dF).2.2.2.2.2)) from(bB bU (by first | omega | (simp only [Lt];omega)) (o:=2) (d:=dF) (Nb rfl) rfl)];exact bB bU (by first | omega | (simp only [Lt];omega)) (o:=3) (d:=dF) (Nb rfl) rfl)]
  try rw [show List.length (α:=Int×Int×Int×Int×Zt×Int) (((aU (cH nr) a0 a1 a2).2.2.2.2.set (tN (a0.2.2.2.length:Int)) (((aU (cH nr) a0 a1 a2).2.2.2.2.getD (tN (a0.2.2.2.length:Int)) dF).1,((aU (cH nr) a0 a1 a2).2.2.2.2.getD (tN (a0.2.2.2.length:Int)) dF).2.1,(fK (cH nr) a0 a1 a2).1,((aU (cH nr) a0 a1 a2).2.2.2.2.getD (tN (a0.2.2.2.length:Int)) dF).2.2.2.1,((aU (cH nr) a0 a1 a2).2.2.2.2.getD (tN (a0.2.2.2.length:Int)) dF).2.2.2.2.1,((aU (cH nr) a0 a1 a2).2.2.2.2.getD (tN (a0.2.2.2.length:Int)) dF).2.2.2.2.2)).set (tN (a0.2.2.2.length:Int)) ((((aU (cH nr) a0 a1 a2).2.2.2.2.set (tN (a0.2.2.2.length:Int)) (((aU (cH nr) a0 a1 a2).2.2.2.2.getD (tN (a0.2.2.2.length:Int)) dF).1,((aU (cH nr) a0 a1 a2).2.2.2.2.getD (tN (a0.2.2.2.length:Int)) dF).2.1,(fK (cH nr) a0 a1 a2).1,((aU (cH nr) a0 a1 a2).2.2.2.2.getD (tN (a0.2.2.2.length:Int)) dF).2.2.2.1,((aU (cH nr) a0 a1 a2).2.2.2.2.getD (tN (a0.2.2.2.length:Int)) dF).2.2.2.2.1,((aU (cH nr) a0 a1 a2).2.2.2.2.getD (tN (a0.2.2.2.length:Int)) dF).2.2.2.2.2)).getD (tN (a0.2.2.2.length:Int)) dF).1,(((aU (cH nr) a0 a1 a2).2.2.2.2.set (tN (a0.2.2.2.length:Int)) (((aU (cH nr) a0 a1 a2).2.2.2.2.getD (tN (a0.2.2.2.length:Int)) dF).1,((aU (cH nr) a0 a1 a2).2.2.2.2.getD (tN (a0.2.2.2.length:Int)) dF).2.1,(fK (cH nr) a0 a1 a2).1,((aU (cH nr) a0 a1 a2).2.2.2.2.getD (tN (a0.2.2.2.length:Int)) dF).2.2.2.1,((aU (cH nr) a0 a1 a2).2.2.2.2.getD (tN (a0.2.2.2.length:Int)) dF).2.2.2.2.1,((aU (cH nr) a0 a1 a2).2.2.2.2.getD (tN (a0.2.2.2.length:Int)) dF).2.2.2.2.2)).getD (tN (a0.2.2.2.length:Int)) dF).2.1,(((aU (cH nr) a0 a1 a2).2.2.2.2.set (tN (a0.2.2.2.length:Int)) (((aU (cH nr) a0 a1 a2).2.2.2.2.getD (tN (a0.2.2.2.length:Int)) dF).1,((aU (cH nr) a0 a1 a2).2.2.2.2.getD (tN (a0.2.2.2.length:Int)) dF).2.1,(fK (cH nr) a0 a1 a2).1,((aU (cH nr) a0 a1 a2).2.2.2.2.getD (tN (a0.2.2.2.length:Int)) dF).2.2.2.1,((aU (cH nr) a0 a1 a2).2.2.2.2.getD (tN (a0.2.2.2.length:Int)) dF).2.2.2.2.1,((aU (cH nr) a0 a1 a2).2.2.2.2.getD (tN (a0.2.2.2.length:Int)) dF).2.2.2.2.2)).getD (tN (a0.2.2.2.length:Int)) dF).2.2.1,(aU (cH nr) a0 a1 a2).1,(((aU (cH nr) a0 a1 a2).2.2.2.2.set (tN (a0.2.2.2.length:Int)) (((aU (cH nr) a0 a1 a2).2.2.2.2.getD (tN (a0.2.2.2.length:Int)) dF).1,((aU (cH nr) a0 a1 a2).2.2.2.2.getD (tN (a0.2.2.2.length:Int)) dF).2.1,(fK (cH nr) a0 a1 a2).1,((aU (cH nr) a0 a1 a2).2.2.2.2.getD (tN (a0.2.2.2.length:Int)) dF).2.2.2.1,((aU (cH nr) a0 a1 a2).2.2.2.2.getD (tN (a0.2.2.2.length:Int)) dF).2.2.2.2.1,((aU (cH nr) a0 a1 a2).2.2.2.2.getD (tN (a0.2.2.2.length:Int)) dF).2.2.2.2.2)).getD (tN (a0.2.2.2.length:Int)) dF).2.2.2.2.1,(((aU (cH nr) a0 a1 a2).2.2.2.2.set (tN (a0.2.2.2.length:Int)) (((aU (cH nr) a0 a1 a2).2.2.2.2.getD (tN (a0.2.2.2.length:Int)) dF).1,((aU (cH nr) a0 a1 a2).2.2.2.2.getD (tN (a0.2.2.2.length:Int)) dF).2.1,(fK (cH nr) a0 a1 a2).1,((aU (cH nr) a0 a1 a2).2.2.2.2.getD (tN (a0.2.2.2.length:Int)) dF).2.2.2.1,((aU (cH nr) a0 a1 a2).2.2.2.2.getD (tN (a0.2.2.2.length:Int)) dF).2.2.2.2.1,((aU (cH nr) a0 a1 a2).2.2.2.2.getD (tN (a0.2.2.2.length:Int)) dF).2.2.2.2.2)).getD (tN (a0.2.2.2.length:Int)) dF).2.2.2.2.2))=(aU (cH nr) a0 a1 a2).2.2.2.2.length from by first | simp;done | omega]
  exact wG (t0++[.d h0,.sub a1 a2 (a0.2.2.1.length),.sub a1 a2 (a0.2.2.1.length),.c [0,1,2,7] (show Con Tryz.prog 74 [(.p 0 0),(.s 2 (0+tN a1*1) (tN a2 - tN a1) 1)] [(.live false false [(.s 1 0 a0.1.length 10),(iv a0.2.1),(.s 2 0 a0.2.2.1.length 1),(.s 3 0 (a0.2.2.2.length+1) 8)]),(.live false true (flat dI a0.1)),(.live false true (flat c3 a0.2.2.1)),(.live false true (flat bZ a0.2.2.2++[(iv a1),(iv a2),(iv (-1)),(iv (-1)),(iv (dX (dQ a0 a1 a2)).1),(iv (dX (dQ a0 a1 a2)).2.1),(iv (dX (dQ a0 a1 a2)).2.2),(iv (iA a0 a1 a2).1)]))] (.a [(.p 0 0),(iv (aGx a0 a1 a2).2)]) [] from Con.alias (l:=a0.2.2.1) (a:=a1) (b:=a2) (c:=c3) (pre:=[(.p 0 0)]) (post:=[]) (bs:=[(.live false false [(.s 1 0 a0.1.length 10),(iv a0.2.1),(.s 2 0 a0.2.2.1.length 1),(.s 3 0 (a0.2.2.2.length+1) 8)]),(.live false true (flat dI a0.1)),(.live false true (flat c3 a0.2.2.1)),(.live false true (flat bZ a0.2.2.2++[(iv a1),(iv a2),(iv (-1)),(iv (-1)),(iv (dX (dQ a0 a1 a2)).1),(iv (dX (dQ a0 a1 a2)).2.1),(iv (dX (dQ a0 a1 a2)).2.2),(iv (iA a0 a1 a2).1)]))]) 2 aF (by omega) rfl (by rfl) (by have q:=(aVi (a0.1,a0.2.1,(a0.2.2.1,(a0.2.2.2++[(a1,a2,(-1),(-1),(dX (dQ a0 a1 a2)),(iA a0 a1 a2).1)]))) (Aw.part (a0.2.2.1) a1 a2) (by omega) (by omega) (by(try simp only [Lt]);omega) (by omega) (hp.inr.part a1 a2) (by omega));(try dsimp only at q);rw [show flat bZ (a0.2.2.2++[(a1,a2,(-1),(-1),(dX (dQ a0 a1 a2)),(iA a0 a1 a2).1)])=(flat bZ a0.2.2.2++[(iv a1),(iv a2),(iv (-1)),(iv (-1)),(iv (dX (dQ a0 a1 a2)).1),(iv (dX (dQ a0 a1 a2)).2.1),(iv (dX (dQ a0 a1 a2)).2.2),(iv (iA a0 a1 a2).1)]) from dP] at q;(try rw [show List.length (α:=Int×Int×Int×Int×Zt×Int) (a0.2.2.2++[(a1,a2,(-1),(-1),(dX (dQ a0 a1 a2)),(iA a0 a1 a2).1)])=(a0.2.2.2.length+1) from by first | simp;done | omega] at q);exact q)),.c [2,0,1,7] (by have q:=(aMk (a0.2.2.1) (tN a1) (tN a2 - tN a1) ((a0.1,a0.2.1,(a0.2.2.1,(a0.2.2.2++[(a1,a2,(-1),(-1),(dX (dQ a0 a1 a2)),(iA a0 a1 a2).1)]))),(aGx a0 a1 a2).2) (by omega) (by omega) (by omega) (by(try simp only [Lt]);omega) (by omega) hp.inr);(try dsimp only at q);rw [show flat bZ (a0.2.2.2++[(a1,a2,(-1),(-1),(dX (dQ a0 a1 a2)),(iA a0 a1 a2).1)])=(flat bZ a0.2.2.2++[(iv a1),(iv a2),(iv (-1)),(iv (-1)),(iv (dX (dQ a0 a1 a2)).1),(iv (dX (dQ a0 a1 a2)).2.1),(iv (dX (dQ a0 a1 a2)).2.2),(iv (iA a0 a1 a2).1)]) from dP] at q;(try rw [show List.length (α:=Int×Int×Int×Int×Zt×Int) (a0.2.2.2++[(a1,a2,(-1),(-1),(dX (dQ a0 a1 a2)),(iA a0 a1 a2).1)])=(a0.2.2.2.length+1) from by first | simp;done | omega] at q);exact q),.p (show(2:Int)≠0 from by decide),.c [0,1,2,7] (by have q:=(ihr (a0.1,a0.2.1,((yH a0 a1 a2),(a0.2.2.2++[(a1,a2,(-1),(-1),(dX (dQ a0 a1 a2)),(iA a0 a1 a2).1)]))) a1 (W (a1+(W (Int.tdiv (W ((W (a2 - a1))+1)) 2)))) (by omega) (by(try simp only [Lt]);omega) (by(try simp only [Lt]);omega) (by first | exact aMm hp h2 | exact aOr hp (sX hp).1 h2 h5) (by rw [hmid];omega));(try dsimp only at q);rw [show flat bZ (a0.2.2.2++[(a1,a2,(-1),(-1),(dX (dQ a0 a1 a2)),(iA a0 a1 a2).1)])=(flat bZ a0.2.2.2++[(iv a1),(iv a2),(iv (-1)),(iv (-1)),(iv (dX (dQ a0 a1 a2)).1),(iv (dX (dQ a0 a1 a2)).2.1),(iv (dX (dQ a0 a1 a2)).2.2),(iv (iA a0 a1 a2).1)]) from dP] at q;(try rw [show List.length (α:=Int) (yH a0 a1 a2)=a0.2.2.1.length from by first | simp;done | omega] at q);(try rw [show List.length (α:=Int×Int×Int×Int×Zt×Int) (a0.2.2.2++[(a1,a2,(-1),(-1),(dX (dQ a0 a1 a2)),(iA a0 a1 a2).1)])=(a0.2.2.2.length+1) from by first | simp;done | omega] at q);exact q),.c [0,1,2,8] (ihr (a0.1,(fK (cH nr) a0 a1 a2).2.2.1,((fK (cH nr) a0 a1 a2).2.2.2.1,(fK (cH nr) a0 a1 a2).2.2.2.2)) (W (a1+(W (Int.tdiv (W ((W (a2 - a1))+1)) 2)))) a2 (by omega) (by(try simp only [Lt]);omega) (by(try simp only [Lt]);omega) (by first | exact aMm hp h2 | exact aOr hp (sX hp).1 h2 h5) (by rw [hmid];omega)),.i (a0.2.2.2.length:Int) ((aU (cH nr) a0 a1 a2).2.2.2.2.length),.p (show((0+tN (a0.2.2.2.length:Int)*8+2)+1<=(flat bZ (aU (cH nr) a0 a1 a2).2.2.2.2).length) from(dS bU (by first | omega | (simp only [Lt];omega)) (o:=2) (Nb rfl))),.i (a0.2.2.2.length:Int) ((aU (cH nr) a0 a1 a2).2.2.2.2.length),.p (show((0+tN (a0.2.2.2.length:Int)*8+3)+1<=(splice (flat bZ (aU (cH nr) a0 a1 a2).2.2.2.2) (0+tN (a0.2.2.2.length:Int)*8+2) [(iv (fK (cH nr) a0 a1 a2).1)]).length) from(by rw [show(splice (flat bZ (aU (cH nr) a0 a1 a2).2.2.2.2) (0+tN (a0.2.2.2.length:Int)*8+2) [(iv (fK (cH nr) a0 a1 a2).1)])=flat bZ ((aU (cH nr) a0 a1 a2).2.2.2.2.set (tN (a0.2.2.2.length:Int)) (((aU (cH nr) a0 a1 a2).2.2.2.2.getD (tN (a0.2.2.2.length:Int)) dF).1,((aU (cH nr) a0 a1 a2).2.2.2.2.getD (tN (a0.2.2.2.length:Int)) dF).2.1,(fK (cH nr) a0 a1 a2).1,((aU (cH nr) a0 a1 a2).2.2.2.2.getD (tN (a0.2.2.2.length:Int)) dF).2.2.2.1,((aU (cH nr) a0 a1 a2).2.2.2.2.getD (tN (a0.2.2.2.length:Int)) dF).2.2.2.2.1,((aU (cH nr) a0 a1 a2).2.2.2.2.getD (tN (a0.2.2.2.length:Int)) dF).2.2.2.2.2)) from(bB bU (by first | omega | (simp only [Lt];omega)) (o:=2) (d:=dF) (Nb rfl) rfl)];exact dS bU (by first | omega | (simp only [Lt];omega)) (o:=3) (Nb rfl)))]) [] [0,2,3] [9] hcx (by kernel_rfl)
 | false =>
  have q0:=cY h0
  have h4:=sX hp
  try (have _:=h0;rw [hmid] at g6 f6;simp only [List.length_append,List.length_cons,List.length_nil] at g3 g5 g6 f3 f5 f6)
  have e:=Eq.refl (cH (nr+1) a0 a1 a2);conv at e=>rhs;simp only [cH,h0,aW]
  rw [e]
  try dsimp only [aZ]
  try dsimp only
  rw [show flat bZ (a0.2.2.2++[(a1,a2,(-1),(-1),(dX (dQ a0 a1 a2)),(iA a0 a1 a2).1)])=(flat bZ a0.2.2.2++[(iv a1),(iv a2),(iv (-1)),(iv (-1)),(iv (dX (dQ a0 a1 a2)).1),(iv (dX (dQ a0 a1 a2)).2.1),(iv (dX (dQ a0 a1 a2)).2.2),(iv (iA a0 a1 a2).1)]) from dP]
  try rw [show List.length (α:=Int×Int×Int×Int×Zt×Int) (a0.2.2.2++[(a1,a2,(-1),(-1),(dX (dQ a0 a1 a2)),(iA a0 a1 a2).1)])=(a0.2.2.2.length+1) from by first | simp;done | omega]
  exact wG (t0++[.d h0]) [] [0,2,3] [7] hcx (by kernel_rfl)
theorem C49 (a0:bT×Int×List Int×bE)(a1:Int)(a2:Int)(l0_1:a0.1.length<=2^63-1)(l0_2_2_1:a0.2.2.1.length<=2^63-1)(l0_2_2_2:a0.2.2.2.length<=2^63-1)(hp:PADD a0 a1 a2):Con Tryz.prog 49 [(.p 0 0),(iv a1),(iv a2)] [(.live true false [(.s 1 0 a0.1.length 10),(iv a0.2.1),(.s 2 0 a0.2.2.1.length 1),(.s 3 0 a0.2.2.2.length 8)]),(.live false true (flat dI a0.1)),(.live true true (flat c3 a0.2.2.1)),(.live true true (flat bZ a0.2.2.2))] (iv (F49 a0 a1 a2).1) [(.live true true (flat bZ (F49 a0 a1 a2).2.2.2.2))] [(.live true false [(.s 1 0 a0.1.length 10),(iv (F49 a0 a1 a2).2.2.1),(.s 2 0 (F49 a0 a1 a2).2.2.2.1.length 1),(.s 4 0 (F49 a0 a1 a2).2.2.2.2.length 8)]),.un,(.live true true (flat c3 (F49 a0 a1 a2).2.2.2.1)),.dead]:=aWp (tN (a2 - a1)+1) a0 a1 a2 l0_1 l0_2_2_1 l0_2_2_2 hp (lss _)
end Go.Proofs.YtkdfcbmcgnaicaaGreat
namespace Go.Proofs.YtkdfcbmcgnaicaaGreat
open Go.Proofs Go.Aw Go.RowKit
set_option maxRecDepth 100000
theorem InR.add {n:Nat} {l:List Int} (h:InR n l) {x:Int} (hx:0<=x/\x < (n:Int)):InR n (l++[x]):=fun y hy=>by
 rcases List.mem_append.1 hy with hy | hy
 ·exact h y hy
 ·rw [List.mem_singleton.1 hy];exact hx
theorem InR.nil (n:Nat):InR n []:=fun y hy=>by simp at hy
noncomputable def aEp:Code:=(aN [1,1,0,1] [] (aL Tryz.f30) []).1
noncomputable def aEq:List K:=(aN [1,1,0,1] [] (aL Tryz.f30) []).2
def aBa (a0:bT)(a1:Int)(v3c:List SV)(v3n:Nat)(v4c:List SV)(v4n:Nat)(v5:Int):LS:=⟨gO 40 [(0,(.s 0 0 a0.length 10)),(4,(.p 1 0)),(5,(.p 2 0)),(12,(iv (a0.length:Int))),(13,(iv v5))],[(.live false true (flat dI a0)),(.live true false [(.v (.slice none 0 0)),(.v (.slice none 0 0))]),(.live true false [(.s 0 0 a0.length 10),(iv a1),(.s 3 0 v3n 1),(.s 4 0 v4n 8)]),(.live true true v3c),(.live true true v4c)]⟩
def hP (a0:bT)(a1:Int):List Int×bE×Int->(List Int×bE×Int)⊕(List Int×bE)
 | (v3,v4,v5) =>
  (bif (decide ((v5:Int) < (a0.length:Int))) then
   (.inl ((v3++[v5]),v4,(v5+1)))
  else
   (bif (decide (((a0.length:Int):Int) > 0)) then
    (.inr ((F49 (a0,a1,(v3,v4)) 0 (a0.length:Int)).2.2.2.1,(F49 (a0,a1,(v3,v4)) 0 (a0.length:Int)).2.2.2.2))
   else
    (.inr (v3,v4))))
theorem aQ3 (a0:bT)(a1:Int)(l0:a0.length<=2^63-1)(hl:a0.length<=96)(hf:1<=a1) {cx:Cx} (hcx:cx.base=1):∀(n:Nat) (v3:List Int) (v4:bE) (v5:Int),(0<=v5)/\(v3.length=tN v5)/\(InR a0.length v3)/\(v4.length=0)/\(v5<=a0.length)/\(a0.length<=96)/\(1<=a1)->tN ((a0.length:Int) - v5) < n->Aw.Good Tryz.prog none 9 (bodyPost Tryz.prog Tryz.f30 (RR cx (.a [(.s 1 0 (aH (hP a0 a1) n (v3,v4,v5)).1.length 1),(.s 2 0 (aH (hP a0 a1) n (v3,v4,v5)).2.length 8)]) [(.live true true (flat c3 (aH (hP a0 a1) n (v3,v4,v5)).1)),(.live true true (flat bZ (aH (hP a0 a1) n (v3,v4,v5)).2))] [])) cx [] (.l aEp n::aEq) (aBa a0 a1 (flat c3 v3) v3.length (flat bZ v4) v4.length v5):=by
 intro n
 induction n with
 | zero=>intro v3 v4 v5 hi hn;exact absurd hn (eL _)
 | succ n ih =>
  intro v3 v4 v5 hi hn
  refine aS ?_
  cases h0:(decide ((v5:Int) < (a0.length:Int))) with
  | true =>
   have q0:=cN h0
   have e:=Eq.refl (hP a0 a1 (v3,v4,v5));conv at e=>rhs;simp only [hP,h0,aW]
   rw [aI e]
   refine ba [.d h0,.p (show((flat c3 v3).length=v3.length*1/\v3.length+1<=2 ^ 40/\(v3.length+1)*8<=2 ^ 47) from nX aF (by omega) (by omega))] [] [0,4,5,12,13] [1,2,6,4] hcx (m:=n) aEp (aEq) (aBa a0 a1 (flat c3 v3++[(iv v5)]) (v3.length+1) (flat bZ v4) (v4.length) (W (v5+1))) (by kernel_rfl) ?_
   have z0:(W (v5+1))=(v5+1):=aR (by omega) (by omega)
   have z1:(flat c3 v3++[(iv v5)])=(flat c3 (v3++[v5])):=(dP (c:=c3) (l:=v3) (m:=[v5])).symm
   have z2:(v3.length+1)=(v3++[v5]).length:=uZ v3 [v5] rfl
   rw [z0,z1,z2]
   exact ih (v3++[v5]) v4 (v5+1) (by refine⟨?_,?_,?_,?_,?_,?_,?_⟩<;>first | omega | assumption | exact InR.nil _ | exact hi.2.2.1 | exact hi.2.2.1.add (by omega) | (simp only [Ls];omega) | simp) (by omega)
  | false =>
   have q0:=cY h0
   let t1:List (St Tryz.prog):=[.d h0]
   cases h1:(decide (((a0.length:Int):Int) > 0)) with
   | true =>
    have q1:=cN h1
    have e:=Eq.refl (hP a0 a1 (v3,v4,v5));conv at e=>rhs;simp only [hP,h0,h1,aW]
    rw [aK,e]
    exact rt (t1++[.d h1,.c [2,0,3,4] (C49 (a0,a1,(v3,v4)) 0 (a0.length:Int) (by omega) (by(try simp only [Lt]);omega) (by(try simp only [Lt]);omega) (by refine⟨?_,?_,?_,?_⟩<;>first | exact hi.2.2.1 | (simp only [];omega) | omega))]) [] [3,5] hcx (by kernel_rfl)
   | false =>
    have q1:=cY h1
    have e:=Eq.refl (hP a0 a1 (v3,v4,v5));conv at e=>rhs;simp only [hP,h0,h1,aW]
    rw [aK,e]
    exact rt (t1++[.d h1]) [] [3,4] hcx (by kernel_rfl)
def lP (a0:bT)(a1:Int):List Int×bE :=
 (aH (hP a0 a1) (tN ((a0.length:Int) - 0)+1) (([]:List Int),([]:bE),0))
theorem aSu (a0:bT)(a1:Int)(l0:a0.length<=2^63-1)(hl:a0.length<=96)(hf:1<=a1):Con Tryz.prog 30 [(.s 0 0 a0.length 10),(iv a1)] [(.live false true (flat dI a0))] (.a [(.s 1 0 (lP a0 a1).1.length 1),(.s 2 0 (lP a0 a1).2.length 8)]) [(.live true true (flat c3 (lP a0 a1).1)),(.live true true (flat bZ (lP a0 a1).2))]:=by
 refine bA Tryz.func30 (by kernel_rfl) fun cx hcx=>?_
 have e:=Eq.refl (lP a0 a1);conv at e=>rhs;simp only [lP]
 rw [e]
 refine en [] [.cell 2 2 1,.cell 2 3 8] [0,4,5,12,13] [1,2,3,4] hcx aEp (aEq) (aBa a0 a1 (flat c3 ([]:List Int)) 0 (flat bZ ([]:bE)) 0 0) (tN ((a0.length:Int) - 0)+1) (by kernel_rfl) ?_
 exact aQ3 a0 a1 l0 hl hf hcx (tN ((a0.length:Int) - 0)+1) ([]:List Int) ([]:bE) 0 (by refine⟨?_,?_,?_,?_,?_,?_,?_⟩<;>first | omega | assumption | exact InR.nil _ | exact hi.2.2.1 | exact hi.2.2.1.add (by omega) | (simp only [Ls];omega) | simp) (by omega)
noncomputable def aK9:Code:=(aN [1,1,0,1] [] (aL Tryz.f20) []).1
noncomputable def aLa:List K:=(aN [1,1,0,1] [] (aL Tryz.f20) []).2
def aEr (a0:List Int×bE)(v1 v2:Int):LS:=⟨gO 20 [(3,(iv v1)),(7,(.s 1 0 a0.2.length 8)),(8,(iv (a0.2.length:Int))),(9,(iv v2))],[(.live false true (flat c3 a0.1)),(.live false true (flat bZ a0.2))]⟩
def yI (a0:List Int×bE):Int×Int->(Int×Int)⊕(Int)
 | (v1,v2) =>
  (bif (decide ((v2:Int) < (a0.2.length:Int))) then
   (bif (decide (((a0.2.getD (tN v2) dF).2.2.1:Int) < 0)) then
    (.inl ((W (v1+1)),(v2+1)))
   else
    (.inl (v1,(v2+1))))
  else
   (.inr v1))
theorem aVj (a0:List Int×bE)(l0_1:a0.1.length<=2^63-1)(l0_2:a0.2.length<=2^63-1)(hl:a0.2.length<=1048576) {cx:Cx} (hcx:cx.base=2):∀(n:Nat) (v1 v2:Int),0<=v2->tN ((a0.2.length:Int) - v2) < n->Aw.Good Tryz.prog none 9 (bodyPost Tryz.prog Tryz.f20 (RR cx (iv (aH (yI a0) n (v1,v2))) [] [])) cx [] (.l aK9 n::aLa) (aEr a0 v1 v2):=by
 intro n
 induction n with
 | zero=>intro v1 v2 hi hn;exact absurd hn (eL _)
 | succ n ih =>
  intro v1 v2 hi hn
  refine aS ?_
  cases h0:(decide ((v2:Int) < (a0.2.length:Int))) with
  | true =>
   have q0:=cN h0
   let t1:List (St Tryz.prog):=[.d h0,.i v2 (a0.2.length),.L bU a0.2 v2 0 8]
   cases h1:(decide (((a0.2.getD (tN v2) dF).2.2.1:Int) < 0)) with
   | true =>
    have q1:=cN h1
    have e:=Eq.refl (yI a0 (v1,v2));conv at e=>rhs;simp only [yI,h0,h1,aW]
    rw [aI e]
    refine ba (t1++[.d h1]) [] [3,7,8,9] [] hcx (m:=n) aK9 (aLa) (aEr a0 (W (v1+1)) (W (v2+1))) (by kernel_rfl) ?_
    have z0:(W (v2+1))=(v2+1):=aR (by omega) (by omega)
    rw [z0]
    exact ih (W (v1+1)) (v2+1) (by omega) (by omega)
   | false =>
    have q1:=cY h1
    have e:=Eq.refl (yI a0 (v1,v2));conv at e=>rhs;simp only [yI,h0,h1,aW]
    rw [aI e]
    refine ba (t1++[.d h1]) [] [3,7,8,9] [] hcx (m:=n) aK9 (aLa) (aEr a0 v1 (W (v2+1))) (by kernel_rfl) ?_
    have z0:(W (v2+1))=(v2+1):=aR (by omega) (by omega)
    rw [z0]
    exact ih v1 (v2+1) (by omega) (by omega)
  | false =>
   have q0:=cY h0
   have e:=Eq.refl (yI a0 (v1,v2));conv at e=>rhs;simp only [yI,h0,aW]
   rw [aK,e]
   exact rt [.d h0] [] [] hcx (by kernel_rfl)
def F20 (a0:List Int×bE):Int :=
 (aH (yI a0) (tN ((a0.2.length:Int) - 0)+1) (0,0))
theorem C20 (a0:List Int×bE)(l0_1:a0.1.length<=2^63-1)(l0_2:a0.2.length<=2^63-1)(hl:a0.2.length<=1048576):Con Tryz.prog 20 [(.a [(.s 0 0 a0.1.length 1),(.s 1 0 a0.2.length 8)])] [(.live false true (flat c3 a0.1)),(.live false true (flat bZ a0.2))] (iv (F20 a0)) []:=by
 refine bA Tryz.func20 (by kernel_rfl) fun cx hcx=>?_
 have e:=Eq.refl (F20 a0);conv at e=>rhs;simp only [F20]
 rw [e]
 refine en [] [] [3,7,8,9] [] hcx aK9 (aLa) (aEr a0 0 0) (tN ((a0.2.length:Int) - 0)+1) (by kernel_rfl) ?_
 exact aVj a0 l0_1 l0_2 hl hcx (tN ((a0.2.length:Int) - 0)+1) 0 0 (by omega) (by omega)
noncomputable def aOs:Code:=(aN [1,1,0,1] [] (aL Tryz.f18) []).1
noncomputable def aOt:List K:=(aN [1,1,0,1] [] (aL Tryz.f18) []).2
def aIv (v2c:List SV)(v2n:Nat)(v3:Int):LS:=⟨gO 23 [(1,(.s 0 0 v2n 10)),(2,(iv v3))],[(.live true true v2c)]⟩
def aBb:bT×Int->(bT×Int)⊕bT
 | (v2,v3) =>
  (bif (decide ((v3:Int) < 4)) then
   (.inl ((v2++[((((W (9*v3)),0,0),((W ((W (9*v3))+1)),0,0),((W (9*v3)),1,0)),1)]),(v3+1)))
  else
   (.inr v2))
theorem aVk {cx:Cx} (hcx:cx.base=0):∀(n:Nat) (v2:bT) (v3:Int),(0<=v3)/\(v2.length=tN v3)/\(v3<=4)->tN (4 - v3) < n->Aw.Good Tryz.prog none 9 (bodyPost Tryz.prog Tryz.f18 (RR cx (.s 0 0 (aH (aBb) n (v2,v3)).length 10) [(.live true true (flat dI (aH (aBb) n (v2,v3))))] [])) cx [] (.l aOs n::aOt) (aIv (flat dI v2) v2.length v3):=by
 intro n
 induction n with
 | zero=>intro v2 v3 hi hn;exact absurd hn (eL _)
 | succ n ih =>
  intro v2 v3 hi hn
  refine aS ?_
  cases h0:(decide ((v3:Int) < 4)) with
  | true =>
   have q0:=cN h0
   have e:=Eq.refl (aBb (v2,v3));conv at e=>rhs;simp only [aBb,h0,aW]
   rw [aI e]
   refine ba [.d h0,.p (show((flat dI v2).length=v2.length*10/\v2.length+1<=2 ^ 40/\(v2.length+1)*80<=2 ^ 47) from nX eM (by omega) (by omega))] [] [1,2] [2] hcx (m:=n) aOs (aOt) (aIv (flat dI v2++[(iv (W (9*v3))),(iv 0),(iv 0),(iv (W ((W (9*v3))+1))),(iv 0),(iv 0),(iv (W (9*v3))),(iv 1),(iv 0),(iv 1)]) (v2.length+1) (W (v3+1))) (by kernel_rfl) ?_
   have z0:(W (v3+1))=(v3+1):=aR (by omega) (by omega)
   have z1:(flat dI v2++[(iv (W (9*v3))),(iv 0),(iv 0),(iv (W ((W (9*v3))+1))),(iv 0),(iv 0),(iv (W (9*v3))),(iv 1),(iv 0),(iv 1)])=(flat dI (v2++[((((W (9*v3)),0,0),((W ((W (9*v3))+1)),0,0),((W (9*v3)),1,0)),1)])):=(dP (c:=dI) (l:=v2) (m:=[((((W (9*v3)),0,0),((W ((W (9*v3))+1)),0,0),((W (9*v3)),1,0)),1)])).symm
   have z2:(v2.length+1)=(v2++[((((W (9*v3)),0,0),((W ((W (9*v3))+1)),0,0),((W (9*v3)),1,0)),1)]).length:=uZ v2 [((((W (9*v3)),0,0),((W ((W (9*v3))+1)),0,0),((W (9*v3)),1,0)),1)] rfl
   rw [z0,z1,z2]
   exact ih (v2++[((((W (9*v3)),0,0),((W ((W (9*v3))+1)),0,0),((W (9*v3)),1,0)),1)]) (v3+1) (by refine⟨?_,?_,?_⟩<;>(try simp only [Ls])<;>first | omega | assumption | simp) (by omega)
  | false =>
   have q0:=cY h0
   have e:=Eq.refl (aBb (v2,v3));conv at e=>rhs;simp only [aBb,h0,aW]
   rw [aK,e]
   exact rt [.d h0] [] [0] hcx (by kernel_rfl)
def tX:bT :=
 (aH (aBb) (tN (4 - 0)+1) (([]:bT),0))
theorem C18:Con Tryz.prog 18 [] [] (.s 0 0 tX.length 10) [(.live true true (flat dI tX))]:=by
 refine bA Tryz.func18 (by kernel_rfl) fun cx hcx=>?_
 have e:=Eq.refl tX;conv at e=>rhs;simp only [tX]
 rw [e]
 refine en [] [.slot 1 10] [1,2] [0] hcx aOs (aOt) (aIv (flat dI ([]:bT)) 0 0) (tN (4 - 0)+1) (by kernel_rfl) ?_
 exact aVk hcx (tN (4 - 0)+1) ([]:bT) 0 (by refine⟨?_,?_,?_⟩<;>(try simp only [Ls])<;>first | omega | assumption | simp) (by omega)
def F27 (a0:Int)(a1:Int)(a2:Int):Bool :=
 (bif (decide ((a0:Int)≥a1)) then
  (decide ((a0:Int)<=a2))
 else
  false)
theorem C27 (a0:Int)(a1:Int)(a2:Int):Con Tryz.prog 27 [(iv a0),(iv a1),(iv a2)] [] (.v (.bool (F27 a0 a1 a2))) []:=by
 refine bA Tryz.func27 (by kernel_rfl) fun cx hcx=>?_
 cases h0:(decide ((a0:Int)≥a1)) with
 | true =>
  have q0:=cN h0
  have e:=Eq.refl (F27 a0 a1 a2);conv at e=>rhs;simp only [F27,h0,aW]
  rw [e]
  exact rt [.d h0] [] [] hcx (by kernel_rfl)
 | false =>
  have q0:=cY h0
  have e:=Eq.refl (F27 a0 a1 a2);conv at e=>rhs;simp only [F27,h0,aW]
  rw [e]
  exact rt [.d h0] [] [] hcx (by kernel_rfl)
theorem aVl {n m k:Int} (h:(!(F27 n k m))=false):k<=n:=by
 simp only [F27] at h
 by_cases h1:n≥k
 ·exact h1
 ·rw [dA h1] at h;simp at h
def eZ (a0:bT)(a1:Int):(List Int×bE)×Int :=
 (bif (((iY a0):Int) != 0) then
  ((([]:List Int),([]:bE)),(iY a0))
 else
  (bif (!(F27 a1 1 16)) then
   ((([]:List Int),([]:bE)),1)
  else
   (((lP a0 a1).1,(lP a0 a1).2),0)))
theorem aVm (a0:bT)(a1:Int)(l0:a0.length<=2^63-1):Con Tryz.prog 17 [(.s 0 0 a0.length 10),(iv a1)] [(.live false true (flat dI a0))] (.t [(.a [(.s 1 0 (eZ a0 a1).1.1.length 1),(.s 2 0 (eZ a0 a1).1.2.length 8)]),(iv (eZ a0 a1).2)]) [(.live true true (flat c3 (eZ a0 a1).1.1)),(.live true true (flat bZ (eZ a0 a1).1.2))]:=by
 refine bA Tryz.func17 (by kernel_rfl) fun cx hcx=>?_
 let t0:List (St Tryz.prog):=[.c [0] (aNq a0 (by omega))]
 cases h0:(((iY a0):Int) != 0) with
 | true =>
  have q0:=bne_iff_ne.1 h0
  have e:=Eq.refl (eZ a0 a1);conv at e=>rhs;simp only [eZ,h0,aW]
  rw [e]
  exact rt (t0++[.d h0]) [.cell 1 0 1,.cell 1 1 8] [2,3] hcx (by kernel_rfl)
 | false =>
  have q0:=bne_eq_false_iff_eq.1 h0
  let t1:List (St Tryz.prog):=(t0++[.d h0,.c [] (C27 a1 1 16)])
  cases h1:(!(F27 a1 1 16)) with
  | true =>
   have e:=Eq.refl (eZ a0 a1);conv at e=>rhs;simp only [eZ,h0,h1,aW]
   rw [e]
   exact rt (t1++[.d h1]) [.cell 1 0 1,.cell 1 1 8] [2,3] hcx (by kernel_rfl)
  | false =>
   have e:=Eq.refl (eZ a0 a1);conv at e=>rhs;simp only [eZ,h0,h1,aW]
   rw [e]
   exact rt (t1++[.d h1,.c [0] (aSu a0 a1 (by omega) (vC (l:=a0) (bne_eq_false_iff_eq.1 h0)) (aVl h1))]) [] [2,3] hcx (by kernel_rfl)
noncomputable def rO:Code:=(aN [1,1,0,1] [] (aL Tryz.f19) []).1
noncomputable def rP:List K:=(aN [1,1,0,1] [] (aL Tryz.f19) []).2
def nA (a0:List Int×bE)(v1c:List SV)(v1n:Nat)(v2:Int):LS:=⟨gO 69 [(1,(.p 2 0)),(3,(.s 3 0 v1n 1)),(4,(iv v2))],[(.live false true (flat c3 a0.1)),(.live false true (flat bZ a0.2)),(.live true false [(.s 0 0 a0.1.length 1),(.s 1 0 a0.2.length 8)]),(.live true true v1c)]⟩
def iH (a0:List Int×bE):List Int×Int->(List Int×Int)⊕(Int)
 | (v1,v2) =>
  (bif (decide ((v2:Int)≥0)) then
   (bif (decide (((a0.2.getD (tN v2) dF).2.2.1:Int) > v2)) then
    (bif (decide (((a0.2.getD (tN v2) dF).2.2.1:Int) < (v1.length:Int))) then
     (bif (decide (((a0.2.getD (tN v2) dF).2.2.2.1:Int) > v2)) then
      (bif (decide (((a0.2.getD (tN v2) dF).2.2.2.1:Int) < (v1.length:Int))) then
       (.inl ((((v1.set (tN v2) 1).set (tN v2) (cZ ((v1.set (tN v2) 1).getD (tN v2) dF) (W (((v1.set (tN v2) 1).getD (tN (a0.2.getD (tN v2) dF).2.2.1) dF)+1)))).set (tN v2) (cZ (((v1.set (tN v2) 1).set (tN v2) (cZ ((v1.set (tN v2) 1).getD (tN v2) dF) (W (((v1.set (tN v2) 1).getD (tN (a0.2.getD (tN v2) dF).2.2.1) dF)+1)))).getD (tN v2) dF) (W ((((v1.set (tN v2) 1).set (tN v2) (cZ ((v1.set (tN v2) 1).getD (tN v2) dF) (W (((v1.set (tN v2) 1).getD (tN (a0.2.getD (tN v2) dF).2.2.1) dF)+1)))).getD (tN (a0.2.getD (tN v2) dF).2.2.2.1) dF)+1)))),(W (v2 - 1))))
      else
       (.inl (((v1.set (tN v2) 1).set (tN v2) (cZ ((v1.set (tN v2) 1).getD (tN v2) dF) (W (((v1.set (tN v2) 1).getD (tN (a0.2.getD (tN v2) dF).2.2.1) dF)+1)))),(W (v2 - 1)))))
     else
      (.inl (((v1.set (tN v2) 1).set (tN v2) (cZ ((v1.set (tN v2) 1).getD (tN v2) dF) (W (((v1.set (tN v2) 1).getD (tN (a0.2.getD (tN v2) dF).2.2.1) dF)+1)))),(W (v2 - 1)))))
    else
     (bif (decide (((a0.2.getD (tN v2) dF).2.2.2.1:Int) > v2)) then
      (bif (decide (((a0.2.getD (tN v2) dF).2.2.2.1:Int) < (v1.length:Int))) then
       (.inl (((v1.set (tN v2) 1).set (tN v2) (cZ ((v1.set (tN v2) 1).getD (tN v2) dF) (W (((v1.set (tN v2) 1).getD (tN (a0.2.getD (tN v2) dF).2.2.2.1) dF)+1)))),(W (v2 - 1))))
      else
       (.inl ((v1.set (tN v2) 1),(W (v2 - 1)))))
     else
      (.inl ((v1.set (tN v2) 1),(W (v2 - 1))))))
   else
    (bif (decide (((a0.2.getD (tN v2) dF).2.2.2.1:Int) > v2)) then
     (bif (decide (((a0.2.getD (tN v2) dF).2.2.2.1:Int) < (v1.length:Int))) then
      (.inl (((v1.set (tN v2) 1).set (tN v2) (cZ ((v1.set (tN v2) 1).getD (tN v2) dF) (W (((v1.set (tN v2) 1).getD (tN (a0.2.getD (tN v2) dF).2.2.2.1) dF)+1)))),(W (v2 - 1))))
     else
      (.inl ((v1.set (tN v2) 1),(W (v2 - 1)))))
    else
     (.inl ((v1.set (tN v2) 1),(W (v2 - 1))))))
  else
   (bif (((v1.length:Int):Int) == 0) then
    (.inr 0)
   else
    (.inr (v1.getD (tN 0) dF))))
theorem aVn (a0:List Int×bE)(l0_1:a0.1.length<=2^63-1)(l0_2:a0.2.length<=2^63-1)(hl:a0.2.length<=1048576) {cx:Cx} (hcx:cx.base=2):∀(n:Nat) (v1:List Int) (v2:Int),(v1.length=a0.2.length)/\(-1<=v2)/\(v2 < a0.2.length)->tN (v2+1) < n->Aw.Good Tryz.prog none 9 (bodyPost Tryz.prog Tryz.f19 (RR cx (iv (aH (iH a0) n (v1,v2))) [] [])) cx [] (.l rO n::rP) (nA a0 (flat c3 v1) v1.length v2):=by
 intro n
 induction n with
 | zero=>intro v1 v2 hi hn;exact absurd hn (eL _)
 | succ n ih =>
  intro v1 v2 hi hn
  refine aS ?_
  have hw_i:=aR (n:=v2 - 1) (by omega) (by omega)
  cases h0:(decide ((v2:Int)≥0)) with
  | true =>
   have q0:=cN h0
   let t1:List (St Tryz.prog):=[.d h0,.i v2 (v1.length),.p (show((0+tN v2*1)+1<=(flat c3 v1).length) from(dS aF (by first | omega | (simp only [Lt];omega)) (o:=0) (Nb rfl))),.i v2 (a0.2.length),.L bU a0.2 v2 2 1,.i v2 (a0.2.length),.L bU a0.2 v2 3 1,.u 200,.T,.i 0 2 (by decide)]
   cases h1:(decide (((a0.2.getD (tN v2) dF).2.2.1:Int) > v2)) with
   | true =>
    have q1:=cN h1
    let t2:List (St Tryz.prog):=(t1++[.d h1])
    cases h2:(decide (((a0.2.getD (tN v2) dF).2.2.1:Int) < (v1.length:Int))) with
    | true =>
     have q2:=cN h2
     let t3:List (St Tryz.prog):=(t2++[.d h2,.i v2 (v1.length),.R aF (v1.set (tN v2) 1) v2 0 1 (show(splice (flat c3 v1) (0+tN v2*1) [(iv 1)])=flat c3 (v1.set (tN v2) 1) from(bB aF (by first | omega | (simp only [Lt];omega)) (o:=0) (d:=dF) (Nb rfl) rfl)),.i ((a0.2.getD (tN v2) dF).2.2.1) (v1.length),.R aF (v1.set (tN v2) 1) (a0.2.getD (tN v2) dF).2.2.1 0 1 (show(splice (flat c3 v1) (0+tN v2*1) [(iv 1)])=flat c3 (v1.set (tN v2) 1) from(bB aF (by first | omega | (simp only [Lt];omega)) (o:=0) (d:=dF) (Nb rfl) rfl)),.i v2 (v1.length),.p (show((0+tN v2*1)+1<=(splice (flat c3 v1) (0+tN v2*1) [(iv 1)]).length) from(by rw [show(splice (flat c3 v1) (0+tN v2*1) [(iv 1)])=flat c3 (v1.set (tN v2) 1) from(bB aF (by first | omega | (simp only [Lt];omega)) (o:=0) (d:=dF) (Nb rfl) rfl)];exact dS aF (by first | omega | (simp only [Lt];omega)) (o:=0) (Nb rfl))),.u 0,.T,.i 1 2 (by decide)])
     cases h3:(decide (((a0.2.getD (tN v2) dF).2.2.2.1:Int) > v2)) with
     | true =>
      have q3:=cN h3
      let t4:List (St Tryz.prog):=(t3++[.d h3])
      cases h4:(decide (((a0.2.getD (tN v2) dF).2.2.2.1:Int) < (v1.length:Int))) with
      | true =>
       have q4:=cN h4
       have e:=Eq.refl (iH a0 (v1,v2));conv at e=>rhs;simp only [iH,h0,h1,h2,h3,h4,aW]
       rw [aI e]
       refine ba (t4++[.d h4,.i v2 (v1.length),.R aF ((v1.set (tN v2) 1).set (tN v2) (cZ ((v1.set (tN v2) 1).getD (tN v2) dF) (W (((v1.set (tN v2) 1).getD (tN (a0.2.getD (tN v2) dF).2.2.1) dF)+1)))) v2 0 1 (show(splice (splice (flat c3 v1) (0+tN v2*1) [(iv 1)]) (0+tN v2*1) [(iv (cZ ((v1.set (tN v2) 1).getD (tN v2) dF) (W (((v1.set (tN v2) 1).getD (tN (a0.2.getD (tN v2) dF).2.2.1) dF)+1))))])=flat c3 ((v1.set (tN v2) 1).set (tN v2) (cZ ((v1.set (tN v2) 1).getD (tN v2) dF) (W (((v1.set (tN v2) 1).getD (tN (a0.2.getD (tN v2) dF).2.2.1) dF)+1)))) from(by rw [show(splice (flat c3 v1) (0+tN v2*1) [(iv 1)])=flat c3 (v1.set (tN v2) 1) from(bB aF (by first | omega | (simp only [Lt];omega)) (o:=0) (d:=dF) (Nb rfl) rfl)];exact bB aF (by first | omega | (simp only [Lt];omega)) (o:=0) (d:=dF) (Nb rfl) rfl)),.i ((a0.2.getD (tN v2) dF).2.2.2.1) (v1.length),.R aF ((v1.set (tN v2) 1).set (tN v2) (cZ ((v1.set (tN v2) 1).getD (tN v2) dF) (W (((v1.set (tN v2) 1).getD (tN (a0.2.getD (tN v2) dF).2.2.1) dF)+1)))) (a0.2.getD (tN v2) dF).2.2.2.1 0 1 (show(splice (splice (flat c3 v1) (0+tN v2*1) [(iv 1)]) (0+tN v2*1) [(iv (cZ ((v1.set (tN v2) 1).getD (tN v2) dF) (W (((v1.set (tN v2) 1).getD (tN (a0.2.getD (tN v2) dF).2.2.1) dF)+1))))])=flat c3 ((v1.set (tN v2) 1).set (tN v2) (cZ ((v1.set (tN v2) 1).getD (tN v2) dF) (W (((v1.set (tN v2) 1).getD (tN (a0.2.getD (tN v2) dF).2.2.1) dF)+1)))) from(by rw [show(splice (flat c3 v1) (0+tN v2*1) [(iv 1)])=flat c3 (v1.set (tN v2) 1) from(bB aF (by first | omega | (simp only [Lt];omega)) (o:=0) (d:=dF) (Nb rfl) rfl)];exact bB aF (by first | omega | (simp only [Lt];omega)) (o:=0) (d:=dF) (Nb rfl) rfl)),.i v2 (v1.length),.p (show((0+tN v2*1)+1<=(splice (splice (flat c3 v1) (0+tN v2*1) [(iv 1)]) (0+tN v2*1) [(iv (cZ ((v1.set (tN v2) 1).getD (tN v2) dF) (W (((v1.set (tN v2) 1).getD (tN (a0.2.getD (tN v2) dF).2.2.1) dF)+1))))]).length) from(by rw [show(splice (splice (flat c3 v1) (0+tN v2*1) [(iv 1)]) (0+tN v2*1) [(iv (cZ ((v1.set (tN v2) 1).getD (tN v2) dF) (W (((v1.set (tN v2) 1).getD (tN (a0.2.getD (tN v2) dF).2.2.1) dF)+1))))])=flat c3 ((v1.set (tN v2) 1).set (tN v2) (cZ ((v1.set (tN v2) 1).getD (tN v2) dF) (W (((v1.set (tN v2) 1).getD (tN (a0.2.getD (tN v2) dF).2.2.1) dF)+1)))) from(by rw [show(splice (flat c3 v1) (0+tN v2*1) [(iv 1)])=flat c3 (v1.set (tN v2) 1) from(bB aF (by first | omega | (simp only [Lt];omega)) (o:=0) (d:=dF) (Nb rfl) rfl)];exact bB aF (by first | omega | (simp only [Lt];omega)) (o:=0) (d:=dF) (Nb rfl) rfl)];exact dS aF (by first | omega | (simp only [Lt];omega)) (o:=0) (Nb rfl))),.u 0,.F]) [] [1,3,4] [2,3] hcx (m:=n) rO (rP) (nA a0 (splice (splice (splice (flat c3 v1) (0+tN v2*1) [(iv 1)]) (0+tN v2*1) [(iv (cZ ((v1.set (tN v2) 1).getD (tN v2) dF) (W (((v1.set (tN v2) 1).getD (tN (a0.2.getD (tN v2) dF).2.2.1) dF)+1))))]) (0+tN v2*1) [(iv (cZ (((v1.set (tN v2) 1).set (tN v2) (cZ ((v1.set (tN v2) 1).getD (tN v2) dF) (W (((v1.set (tN v2) 1).getD (tN (a0.2.getD (tN v2) dF).2.2.1) dF)+1)))).getD (tN v2) dF) (W ((((v1.set (tN v2) 1).set (tN v2) (cZ ((v1.set (tN v2) 1).getD (tN v2) dF) (W (((v1.set (tN v2) 1).getD (tN (a0.2.getD (tN v2) dF).2.2.1) dF)+1)))).getD (tN (a0.2.getD (tN v2) dF).2.2.2.1) dF)+1))))]) (v1.length) (W (v2 - 1))) (by kernel_rfl) ?_
       have z0:(splice (splice (splice (flat c3 v1) (0+tN v2*1) [(iv 1)]) (0+tN v2*1) [(iv (cZ ((v1.set (tN v2) 1).getD (tN v2) dF) (W (((v1.set (tN v2) 1).getD (tN (a0.2.getD (tN v2) dF).2.2.1) dF)+1))))]) (0+tN v2*1) [(iv (cZ (((v1.set (tN v2) 1).set (tN v2) (cZ ((v1.set (tN v2) 1).getD (tN v2) dF) (W (((v1.set (tN v2) 1).getD (tN (a0.2.getD (tN v2) dF).2.2.1) dF)+1)))).getD (tN v2) dF) (W ((((v1.set (tN v2) 1).set (tN v2) (cZ ((v1.set (tN v2) 1).getD (tN v2) dF) (W (((v1.set (tN v2) 1).getD (tN (a0.2.getD (tN v2) dF).2.2.1) dF)+1)))).getD (tN (a0.2.getD (tN v2) dF).2.2.2.1) dF)+1))))])=flat c3 (((v1.set (tN v2) 1).set (tN v2) (cZ ((v1.set (tN v2) 1).getD (tN v2) dF) (W (((v1.set (tN v2) 1).getD (tN (a0.2.getD (tN v2) dF).2.2.1) dF)+1)))).set (tN v2) (cZ (((v1.set (tN v2) 1).set (tN v2) (cZ ((v1.set (tN v2) 1).getD (tN v2) dF) (W (((v1.set (tN v2) 1).getD (tN (a0.2.getD (tN v2) dF).2.2.1) dF)+1)))).getD (tN v2) dF) (W ((((v1.set (tN v2) 1).set (tN v2) (cZ ((v1.set (tN v2) 1).getD (tN v2) dF) (W (((v1.set (tN v2) 1).getD (tN (a0.2.getD (tN v2) dF).2.2.1) dF)+1)))).getD (tN (a0.2.getD (tN v2) dF).2.2.2.1) dF)+1)))):=(by rw [show(splice (splice (flat c3 v1) (0+tN v2*1) [(iv 1)]) (0+tN v2*1) [(iv (cZ ((v1.set (tN v2) 1).getD (tN v2) dF) (W (((v1.set (tN v2) 1).getD (tN (a0.2.getD (tN v2) dF).2.2.1) dF)+1))))])=flat c3 ((v1.set (tN v2) 1).set (tN v2) (cZ ((v1.set (tN v2) 1).getD (tN v2) dF) (W (((v1.set (tN v2) 1).getD (tN (a0.2.getD (tN v2) dF).2.2.1) dF)+1)))) from(by rw [show(splice (flat c3 v1) (0+tN v2*1) [(iv 1)])=flat c3 (v1.set (tN v2) 1) from(bB aF (by first | omega | (simp only [Lt];omega)) (o:=0) (d:=dF) (Nb rfl) rfl)];exact bB aF (by first | omega | (simp only [Lt];omega)) (o:=0) (d:=dF) (Nb rfl) rfl)];exact bB aF (by first | omega | (simp only [Lt];omega)) (o:=0) (d:=dF) (Nb rfl) rfl)
       have z1:v1.length=(((v1.set (tN v2) 1).set (tN v2) (cZ ((v1.set (tN v2) 1).getD (tN v2) dF) (W (((v1.set (tN v2) 1).getD (tN (a0.2.getD (tN v2) dF).2.2.1) dF)+1)))).set (tN v2) (cZ (((v1.set (tN v2) 1).set (tN v2) (cZ ((v1.set (tN v2) 1).getD (tN v2) dF) (W (((v1.set (tN v2) 1).getD (tN (a0.2.getD (tN v2) dF).2.2.1) dF)+1)))).getD (tN v2) dF) (W ((((v1.set (tN v2) 1).set (tN v2) (cZ ((v1.set (tN v2) 1).getD (tN v2) dF) (W (((v1.set (tN v2) 1).getD (tN (a0.2.getD (tN v2) dF).2.2.1) dF)+1)))).getD (tN (a0.2.getD (tN v2) dF).2.2.2.1) dF)+1)))).length:=by simp
       rw [z0,z1]
       exact ih (((v1.set (tN v2) 1).set (tN v2) (cZ ((v1.set (tN v2) 1).getD (tN v2) dF) (W (((v1.set (tN v2) 1).getD (tN (a0.2.getD (tN v2) dF).2.2.1) dF)+1)))).set (tN v2) (cZ (((v1.set (tN v2) 1).set (tN v2) (cZ ((v1.set (tN v2) 1).getD (tN v2) dF) (W (((v1.set (tN v2) 1).getD (tN (a0.2.getD (tN v2) dF).2.2.1) dF)+1)))).getD (tN v2) dF) (W ((((v1.set (tN v2) 1).set (tN v2) (cZ ((v1.set (tN v2) 1).getD (tN v2) dF) (W (((v1.set (tN v2) 1).getD (tN (a0.2.getD (tN v2) dF).2.2.1) dF)+1)))).getD (tN (a0.2.getD (tN v2) dF).2.2.2.1) dF)+1)))) (W (v2 - 1)) (by refine⟨?_,?_,?_⟩<;>(try simp only [Ls])<;>first | omega | assumption | simp) (by omega)
      | false =>
       have q4:=cY h4
       have e:=Eq.refl (iH a0 (v1,v2));conv at e=>rhs;simp only [iH,h0,h1,h2,h3,h4,aW]
       rw [aI e]
       refine ba (t4++[.d h4,.u 0,.F]) [] [1,3,4] [2,3] hcx (m:=n) rO (rP) (nA a0 (splice (splice (flat c3 v1) (0+tN v2*1) [(iv 1)]) (0+tN v2*1) [(iv (cZ ((v1.set (tN v2) 1).getD (tN v2) dF) (W (((v1.set (tN v2) 1).getD (tN (a0.2.getD (tN v2) dF).2.2.1) dF)+1))))]) (v1.length) (W (v2 - 1))) (by kernel_rfl) ?_
       have z0:(splice (splice (flat c3 v1) (0+tN v2*1) [(iv 1)]) (0+tN v2*1) [(iv (cZ ((v1.set (tN v2) 1).getD (tN v2) dF) (W (((v1.set (tN v2) 1).getD (tN (a0.2.getD (tN v2) dF).2.2.1) dF)+1))))])=flat c3 ((v1.set (tN v2) 1).set (tN v2) (cZ ((v1.set (tN v2) 1).getD (tN v2) dF) (W (((v1.set (tN v2) 1).getD (tN (a0.2.getD (tN v2) dF).2.2.1) dF)+1)))):=(by rw [show(splice (flat c3 v1) (0+tN v2*1) [(iv 1)])=flat c3 (v1.set (tN v2) 1) from(bB aF (by first | omega | (simp only [Lt];omega)) (o:=0) (d:=dF) (Nb rfl) rfl)];exact bB aF (by first | omega | (simp only [Lt];omega)) (o:=0) (d:=dF) (Nb rfl) rfl)
       have z1:v1.length=((v1.set (tN v2) 1).set (tN v2) (cZ ((v1.set (tN v2) 1).getD (tN v2) dF) (W (((v1.set (tN v2) 1).getD (tN (a0.2.getD (tN v2) dF).2.2.1) dF)+1)))).length:=by simp
       rw [z0,z1]
       exact ih ((v1.set (tN v2) 1).set (tN v2) (cZ ((v1.set (tN v2) 1).getD (tN v2) dF) (W (((v1.set (tN v2) 1).getD (tN (a0.2.getD (tN v2) dF).2.2.1) dF)+1)))) (W (v2 - 1)) (by refine⟨?_,?_,?_⟩<;>(try simp only [Ls])<;>first | omega | assumption | simp) (by omega)
     | false =>
      have q3:=cY h3
      have e:=Eq.refl (iH a0 (v1,v2));conv at e=>rhs;simp only [iH,h0,h1,h2,h3,aW]
      rw [aI e]
      refine ba (t3++[.d h3,.u 0,.F]) [] [1,3,4] [2,3] hcx (m:=n) rO (rP) (nA a0 (splice (splice (flat c3 v1) (0+tN v2*1) [(iv 1)]) (0+tN v2*1) [(iv (cZ ((v1.set (tN v2) 1).getD (tN v2) dF) (W (((v1.set (tN v2) 1).getD (tN (a0.2.getD (tN v2) dF).2.2.1) dF)+1))))]) (v1.length) (W (v2 - 1))) (by kernel_rfl) ?_
      have z0:(splice (splice (flat c3 v1) (0+tN v2*1) [(iv 1)]) (0+tN v2*1) [(iv (cZ ((v1.set (tN v2) 1).getD (tN v2) dF) (W (((v1.set (tN v2) 1).getD (tN (a0.2.getD (tN v2) dF).2.2.1) dF)+1))))])=flat c3 ((v1.set (tN v2) 1).set (tN v2) (cZ ((v1.set (tN v2) 1).getD (tN v2) dF) (W (((v1.set (tN v2) 1).getD (tN (a0.2.getD (tN v2) dF).2.2.1) dF)+1)))):=(by rw [show(splice (flat c3 v1) (0+tN v2*1) [(iv 1)])=flat c3 (v1.set (tN v2) 1) from(bB aF (by first | omega | (simp only [Lt];omega)) (o:=0) (d:=dF) (Nb rfl) rfl)];exact bB aF (by first | omega | (simp only [Lt];omega)) (o:=0) (d:=dF) (Nb rfl) rfl)
      have z1:v1.length=((v1.set (tN v2) 1).set (tN v2) (cZ ((v1.set (tN v2) 1).getD (tN v2) dF) (W (((v1.set (tN v2) 1).getD (tN (a0.2.getD (tN v2) dF).2.2.1) dF)+1)))).length:=by simp
      rw [z0,z1]
      exact ih ((v1.set (tN v2) 1).set (tN v2) (cZ ((v1.set (tN v2) 1).getD (tN v2) dF) (W (((v1.set (tN v2) 1).getD (tN (a0.2.getD (tN v2) dF).2.2.1) dF)+1)))) (W (v2 - 1)) (by refine⟨?_,?_,?_⟩<;>(try simp only [Ls])<;>first | omega | assumption | simp) (by omega)
    | false =>
     have q2:=cY h2
     let t3:List (St Tryz.prog):=(t2++[.d h2,.u 0,.T,.i 1 2 (by decide)])
     cases h3:(decide (((a0.2.getD (tN v2) dF).2.2.2.1:Int) > v2)) with
     | true =>
      have q3:=cN h3
      let t4:List (St Tryz.prog):=(t3++[.d h3])
      cases h4:(decide (((a0.2.getD (tN v2) dF).2.2.2.1:Int) < (v1.length:Int))) with
      | true =>
       have q4:=cN h4
       have e:=Eq.refl (iH a0 (v1,v2));conv at e=>rhs;simp only [iH,h0,h1,h2,h3,h4,aW]
       rw [aI e]
       refine ba (t4++[.d h4,.i v2 (v1.length),.R aF (v1.set (tN v2) 1) v2 0 1 (show(splice (flat c3 v1) (0+tN v2*1) [(iv 1)])=flat c3 (v1.set (tN v2) 1) from(bB aF (by first | omega | (simp only [Lt];omega)) (o:=0) (d:=dF) (Nb rfl) rfl)),.i ((a0.2.getD (tN v2) dF).2.2.2.1) (v1.length),.R aF (v1.set (tN v2) 1) (a0.2.getD (tN v2) dF).2.2.2.1 0 1 (show(splice (flat c3 v1) (0+tN v2*1) [(iv 1)])=flat c3 (v1.set (tN v2) 1) from(bB aF (by first | omega | (simp only [Lt];omega)) (o:=0) (d:=dF) (Nb rfl) rfl)),.i v2 (v1.length),.p (show((0+tN v2*1)+1<=(splice (flat c3 v1) (0+tN v2*1) [(iv 1)]).length) from(by rw [show(splice (flat c3 v1) (0+tN v2*1) [(iv 1)])=flat c3 (v1.set (tN v2) 1) from(bB aF (by first | omega | (simp only [Lt];omega)) (o:=0) (d:=dF) (Nb rfl) rfl)];exact dS aF (by first | omega | (simp only [Lt];omega)) (o:=0) (Nb rfl))),.u 0,.F]) [] [1,3,4] [2,3] hcx (m:=n) rO (rP) (nA a0 (splice (splice (flat c3 v1) (0+tN v2*1) [(iv 1)]) (0+tN v2*1) [(iv (cZ ((v1.set (tN v2) 1).getD (tN v2) dF) (W (((v1.set (tN v2) 1).getD (tN (a0.2.getD (tN v2) dF).2.2.2.1) dF)+1))))]) (v1.length) (W (v2 - 1))) (by kernel_rfl) ?_
       have z0:(splice (splice (flat c3 v1) (0+tN v2*1) [(iv 1)]) (0+tN v2*1) [(iv (cZ ((v1.set (tN v2) 1).getD (tN v2) dF) (W (((v1.set (tN v2) 1).getD (tN (a0.2.getD (tN v2) dF).2.2.2.1) dF)+1))))])=flat c3 ((v1.set (tN v2) 1).set (tN v2) (cZ ((v1.set (tN v2) 1).getD (tN v2) dF) (W (((v1.set (tN v2) 1).getD (tN (a0.2.getD (tN v2) dF).2.2.2.1) dF)+1)))):=(by rw [show(splice (flat c3 v1) (0+tN v2*1) [(iv 1)])=flat c3 (v1.set (tN v2) 1) from(bB aF (by first | omega | (simp only [Lt];omega)) (o:=0) (d:=dF) (Nb rfl) rfl)];exact bB aF (by first | omega | (simp only [Lt];omega)) (o:=0) (d:=dF) (Nb rfl) rfl)
       have z1:v1.length=((v1.set (tN v2) 1).set (tN v2) (cZ ((v1.set (tN v2) 1).getD (tN v2) dF) (W (((v1.set (tN v2) 1).getD (tN (a0.2.getD (tN v2) dF).2.2.2.1) dF)+1)))).length:=by simp
       rw [z0,z1]
       exact ih ((v1.set (tN v2) 1).set (tN v2) (cZ ((v1.set (tN v2) 1).getD (tN v2) dF) (W (((v1.set (tN v2) 1).getD (tN (a0.2.getD (tN v2) dF).2.2.2.1) dF)+1)))) (W (v2 - 1)) (by refine⟨?_,?_,?_⟩<;>(try simp only [Ls])<;>first | omega | assumption | simp) (by omega)
      | false =>
       have q4:=cY h4
       have e:=Eq.refl (iH a0 (v1,v2));conv at e=>rhs;simp only [iH,h0,h1,h2,h3,h4,aW]
       rw [aI e]
       refine ba (t4++[.d h4,.u 0,.F]) [] [1,3,4] [2,3] hcx (m:=n) rO (rP) (nA a0 (splice (flat c3 v1) (0+tN v2*1) [(iv 1)]) (v1.length) (W (v2 - 1))) (by kernel_rfl) ?_
       have z0:(splice (flat c3 v1) (0+tN v2*1) [(iv 1)])=flat c3 (v1.set (tN v2) 1):=(bB aF (by first | omega | (simp only [Lt];omega)) (o:=0) (d:=dF) (Nb rfl) rfl)
       have z1:v1.length=(v1.set (tN v2) 1).length:=by simp
       rw [z0,z1]
       exact ih (v1.set (tN v2) 1) (W (v2 - 1)) (by refine⟨?_,?_,?_⟩<;>(try simp only [Ls])<;>first | omega | assumption | simp) (by omega)
     | false =>
      have q3:=cY h3
      have e:=Eq.refl (iH a0 (v1,v2));conv at e=>rhs;simp only [iH,h0,h1,h2,h3,aW]
      rw [aI e]
      refine ba (t3++[.d h3,.u 0,.F]) [] [1,3,4] [2,3] hcx (m:=n) rO (rP) (nA a0 (splice (flat c3 v1) (0+tN v2*1) [(iv 1)]) (v1.length) (W (v2 - 1))) (by kernel_rfl) ?_
      have z0:(splice (flat c3 v1) (0+tN v2*1) [(iv 1)])=flat c3 (v1.set (tN v2) 1):=(bB aF (by first | omega | (simp only [Lt];omega)) (o:=0) (d:=dF) (Nb rfl) rfl)
      have z1:v1.length=(v1.set (tN v2) 1).length:=by simp
      rw [z0,z1]
      exact ih (v1.set (tN v2) 1) (W (v2 - 1)) (by refine⟨?_,?_,?_⟩<;>(try simp only [Ls])<;>first | omega | assumption | simp) (by omega)
   | false =>
    have q1:=cY h1
    let t2:List (St Tryz.prog):=(t1++[.d h1,.u 0,.T,.i 1 2 (by decide)])
    cases h2:(decide (((a0.2.getD (tN v2) dF).2.2.2.1:Int) > v2)) with
    | true =>
     have q2:=cN h2
     let t3:List (St Tryz.prog):=(t2++[.d h2])
     cases h3:(decide (((a0.2.getD (tN v2) dF).2.2.2.1:Int) < (v1.length:Int))) with
     | true =>
      have q3:=cN h3
      have e:=Eq.refl (iH a0 (v1,v2));conv at e=>rhs;simp only [iH,h0,h1,h2,h3,aW]
      rw [aI e]
      refine ba (t3++[.d h3,.i v2 (v1.length),.R aF (v1.set (tN v2) 1) v2 0 1 (show(splice (flat c3 v1) (0+tN v2*1) [(iv 1)])=flat c3 (v1.set (tN v2) 1) from(bB aF (by first | omega | (simp only [Lt];omega)) (o:=0) (d:=dF) (Nb rfl) rfl)),.i ((a0.2.getD (tN v2) dF).2.2.2.1) (v1.length),.R aF (v1.set (tN v2) 1) (a0.2.getD (tN v2) dF).2.2.2.1 0 1 (show(splice (flat c3 v1) (0+tN v2*1) [(iv 1)])=flat c3 (v1.set (tN v2) 1) from(bB aF (by first | omega | (simp only [Lt];omega)) (o:=0) (d:=dF) (Nb rfl) rfl)),.i v2 (v1.length),.p (show((0+tN v2*1)+1<=(splice (flat c3 v1) (0+tN v2*1) [(iv 1)]).length) from(by rw [show(splice (flat c3 v1) (0+tN v2*1) [(iv 1)])=flat c3 (v1.set (tN v2) 1) from(bB aF (by first | omega | (simp only [Lt];omega)) (o:=0) (d:=dF) (Nb rfl) rfl)];exact dS aF (by first | omega | (simp only [Lt];omega)) (o:=0) (Nb rfl))),.u 0,.F]) [] [1,3,4] [2,3] hcx (m:=n) rO (rP) (nA a0 (splice (splice (flat c3 v1) (0+tN v2*1) [(iv 1)]) (0+tN v2*1) [(iv (cZ ((v1.set (tN v2) 1).getD (tN v2) dF) (W (((v1.set (tN v2) 1).getD (tN (a0.2.getD (tN v2) dF).2.2.2.1) dF)+1))))]) (v1.length) (W (v2 - 1))) (by kernel_rfl) ?_
      have z0:(splice (splice (flat c3 v1) (0+tN v2*1) [(iv 1)]) (0+tN v2*1) [(iv (cZ ((v1.set (tN v2) 1).getD (tN v2) dF) (W (((v1.set (tN v2) 1).getD (tN (a0.2.getD (tN v2) dF).2.2.2.1) dF)+1))))])=flat c3 ((v1.set (tN v2) 1).set (tN v2) (cZ ((v1.set (tN v2) 1).getD (tN v2) dF) (W (((v1.set (tN v2) 1).getD (tN (a0.2.getD (tN v2) dF).2.2.2.1) dF)+1)))):=(by rw [show(splice (flat c3 v1) (0+tN v2*1) [(iv 1)])=flat c3 (v1.set (tN v2) 1) from(bB aF (by first | omega | (simp only [Lt];omega)) (o:=0) (d:=dF) (Nb rfl) rfl)];exact bB aF (by first | omega | (simp only [Lt];omega)) (o:=0) (d:=dF) (Nb rfl) rfl)
      have z1:v1.length=((v1.set (tN v2) 1).set (tN v2) (cZ ((v1.set (tN v2) 1).getD (tN v2) dF) (W (((v1.set (tN v2) 1).getD (tN (a0.2.getD (tN v2) dF).2.2.2.1) dF)+1)))).length:=by simp
      rw [z0,z1]
      exact ih ((v1.set (tN v2) 1).set (tN v2) (cZ ((v1.set (tN v2) 1).getD (tN v2) dF) (W (((v1.set (tN v2) 1).getD (tN (a0.2.getD (tN v2) dF).2.2.2.1) dF)+1)))) (W (v2 - 1)) (by refine⟨?_,?_,?_⟩<;>(try simp only [Ls])<;>first | omega | assumption | simp) (by omega)
     | false =>
      have q3:=cY h3
      have e:=Eq.refl (iH a0 (v1,v2));conv at e=>rhs;simp only [iH,h0,h1,h2,h3,aW]
      rw [aI e]
      refine ba (t3++[.d h3,.u 0,.F]) [] [1,3,4] [2,3] hcx (m:=n) rO (rP) (nA a0 (splice (flat c3 v1) (0+tN v2*1) [(iv 1)]) (v1.length) (W (v2 - 1))) (by kernel_rfl) ?_
      have z0:(splice (flat c3 v1) (0+tN v2*1) [(iv 1)])=flat c3 (v1.set (tN v2) 1):=(bB aF (by first | omega | (simp only [Lt];omega)) (o:=0) (d:=dF) (Nb rfl) rfl)
      have z1:v1.length=(v1.set (tN v2) 1).length:=by simp
      rw [z0,z1]
      exact ih (v1.set (tN v2) 1) (W (v2 - 1)) (by refine⟨?_,?_,?_⟩<;>(try simp only [Ls])<;>first | omega | assumption | simp) (by omega)
    | false =>
     have q2:=cY h2
     have e:=Eq.refl (iH a0 (v1,v2));conv at e=>rhs;simp only [iH,h0,h1,h2,aW]
     rw [aI e]
     refine ba (t2++[.d h2,.u 0,.F]) [] [1,3,4] [2,3] hcx (m:=n) rO (rP) (nA a0 (splice (flat c3 v1) (0+tN v2*1) [(iv 1)]) (v1.length) (W (v2 - 1))) (by kernel_rfl) ?_
     have z0:(splice (flat c3 v1) (0+tN v2*1) [(iv 1)])=flat c3 (v1.set (tN v2) 1):=(bB aF (by first | omega | (simp only [Lt];omega)) (o:=0) (d:=dF) (Nb rfl) rfl)
     have z1:v1.length=(v1.set (tN v2) 1).length:=by simp
     rw [z0,z1]
     exact ih (v1.set (tN v2) 1) (W (v2 - 1)) (by refine⟨?_,?_,?_⟩<;>(try simp only [Ls])<;>first | omega | assumption | simp) (by omega)
  | false =>
   have q0:=cY h0
   let t1:List (St Tryz.prog):=[.d h0]
   cases h1:(((v1.length:Int):Int) == 0) with
   | true =>
    have q1:=eq_of_beq h1
    have e:=Eq.refl (iH a0 (v1,v2));conv at e=>rhs;simp only [iH,h0,h1,aW]
    rw [aK,e]
    exact rt (t1++[.d h1]) [] [] hcx (by kernel_rfl)
   | false =>
    have q1:=ne_of_beq_false h1
    have e:=Eq.refl (iH a0 (v1,v2));conv at e=>rhs;simp only [iH,h0,h1,aW]
    rw [aK,e]
    exact rt (t1++[.d h1,.i 0 (v1.length),.L aF v1 0 0 1]) [] [] hcx (by kernel_rfl)
def F19 (a0:List Int×bE):Int :=
 (aH (iH a0) (tN ((W ((a0.2.length:Int) - 1))+1)+1) ((List.replicate (tN (a0.2.length:Int)) 0),(W ((a0.2.length:Int) - 1))))
theorem C19 (a0:List Int×bE)(l0_1:a0.1.length<=2^63-1)(l0_2:a0.2.length<=2^63-1)(hl:a0.2.length<=1048576):Con Tryz.prog 19 [(.a [(.s 0 0 a0.1.length 1),(.s 1 0 a0.2.length 8)])] [(.live false true (flat c3 a0.1)),(.live false true (flat bZ a0.2))] (iv (F19 a0)) []:=by
 refine bA Tryz.func19 (by kernel_rfl) fun cx hcx=>?_
 have hw_i:=aR (n:=(a0.2.length:Int) - 1) (by omega) (by omega)
 have e:=Eq.refl (F19 a0);conv at e=>rhs;simp only [F19]
 rw [e]
 refine en [.Z c3 0 [(iv 0)] (a0.2.length:Int) 8] [] [1,3,4] [2,3] hcx rO (rP) (nA a0 (flat c3 (List.replicate (tN (a0.2.length:Int)) 0)) (tN (a0.2.length:Int)) (W ((a0.2.length:Int) - 1))) (tN ((W ((a0.2.length:Int) - 1))+1)+1) (by kernel_rfl) ?_
 have q:=aVn a0 l0_1 l0_2 hl hcx (tN ((W ((a0.2.length:Int) - 1))+1)+1) (List.replicate (tN (a0.2.length:Int)) 0) (W ((a0.2.length:Int) - 1)) (by refine⟨?_,?_,?_⟩<;>(try simp only [Ls])<;>first | omega | assumption | simp) (by omega)
 simp only [List.length_replicate] at q
 exact q
def F7:Bool :=
 (bif (((eZ tX 1).2:Int) == 0) then
  (bif (((((eZ tX 1).1.2.length:Nat):Int):Int) == 7) then
   (bif (((F19 ((eZ tX 1).1.1,(eZ tX 1).1.2)):Int) == 3) then
    (bif (((F20 ((eZ tX 1).1.1,(eZ tX 1).1.2)):Int) == 4) then
     (bif ((((eZ tX 1).1.2.getD (tN 0) dF).2.2.1:Int) == 1) then
      ((((eZ tX 1).1.2.getD (tN 0) dF).2.2.2.1:Int) == 4)
     else
      false)
    else
     false)
   else
    false)
  else
   false)
 else
  false)
theorem C7:Con Tryz.prog 7 [] [] (.v (.bool F7)) []:=by
 refine bA Tryz.func7 (by kernel_rfl) fun cx hcx=>?_
 have hrl:tX.length=4:=by kernel_rfl
 have hbl:(eZ tX 1).1.2.length=7:=by kernel_rfl
 have hbo:(eZ tX 1).1.1.length=4:=by kernel_rfl
 let t0:List (St Tryz.prog):=[.c [] (C18),.c [0] (aVm tX 1 (by omega))]
 cases h0:(((eZ tX 1).2:Int) == 0) with
 | true =>
  have q0:=eq_of_beq h0
  let t1:List (St Tryz.prog):=(t0++[.d h0])
  cases h1:(((((eZ tX 1).1.2.length:Nat):Int):Int) == 7) with
  | true =>
   have q1:=eq_of_beq h1
   let t2:List (St Tryz.prog):=(t1++[.d h1,.c [1,2] (C19 ((eZ tX 1).1.1,(eZ tX 1).1.2) (by(try simp only [Lt]);omega) (by(try simp only [Lt]);omega) (by(try simp only [Lt]);omega))])
   cases h2:(((F19 ((eZ tX 1).1.1,(eZ tX 1).1.2)):Int) == 3) with
   | true =>
    have q2:=eq_of_beq h2
    let t3:List (St Tryz.prog):=(t2++[.d h2,.c [1,2] (C20 ((eZ tX 1).1.1,(eZ tX 1).1.2) (by(try simp only [Lt]);omega) (by(try simp only [Lt]);omega) (by(try simp only [Lt]);omega))])
    cases h3:(((F20 ((eZ tX 1).1.1,(eZ tX 1).1.2)):Int) == 4) with
    | true =>
     have q3:=eq_of_beq h3
     let t4:List (St Tryz.prog):=(t3++[.d h3,.i 0 ((eZ tX 1).1.2.length),.L bU (eZ tX 1).1.2 0 2 1])
     cases h4:((((eZ tX 1).1.2.getD (tN 0) dF).2.2.1:Int) == 1) with
     | true =>
      have q4:=eq_of_beq h4
      have e:=Eq.refl F7;conv at e=>rhs;simp only [F7,h0,h1,h2,h3,h4,aW]
      rw [e]
      exact rt (t4++[.d h4,.i 0 ((eZ tX 1).1.2.length),.L bU (eZ tX 1).1.2 0 3 1]) [] [] hcx (by kernel_rfl)
     | false =>
      have q4:=ne_of_beq_false h4
      have e:=Eq.refl F7;conv at e=>rhs;simp only [F7,h0,h1,h2,h3,h4,aW]
      rw [e]
      exact rt (t4++[.d h4]) [] [] hcx (by kernel_rfl)
    | false =>
     have q3:=ne_of_beq_false h3
     have e:=Eq.refl F7;conv at e=>rhs;simp only [F7,h0,h1,h2,h3,aW]
     rw [e]
     exact rt (t3++[.d h3]) [] [] hcx (by kernel_rfl)
   | false =>
    have q2:=ne_of_beq_false h2
    have e:=Eq.refl F7;conv at e=>rhs;simp only [F7,h0,h1,h2,aW]
    rw [e]
    exact rt (t2++[.d h2]) [] [] hcx (by kernel_rfl)
  | false =>
   have q1:=ne_of_beq_false h1
   have e:=Eq.refl F7;conv at e=>rhs;simp only [F7,h0,h1,aW]
   rw [e]
   exact rt (t1++[.d h1]) [] [] hcx (by kernel_rfl)
 | false =>
  have q0:=ne_of_beq_false h0
  have e:=Eq.refl F7;conv at e=>rhs;simp only [F7,h0,aW]
  rw [e]
  exact rt (t0++[.d h0]) [] [] hcx (by kernel_rfl)
theorem aTs:F7=true:=by kernel_rfl
theorem aQ4 (n lo hi:Int):F48 n lo hi=F79 n lo hi:=by
 unfold F48 F79
 by_cases h1:lo<=n<;>by_cases h2:n<=hi<;>simp [h1,h2]
theorem aBc (l:List (PN×Int)):iY l=kN l:=by
 have e:gX l=jH l:=by
  funext v
  simp only [gX,jH,aUs,aWg,aQ4]
 unfold iY kN
 rw [e]
theorem aGy {l:List (PN×Int)} (h:kN l=0):l.length<=96:=vC (by rw [aBc];exact h)
def eF (a0:Zt)(a1:Int):Int :=
 (bif ((a1:Int) == 0) then
  a0.1
 else
  (bif ((a1:Int) == 1) then
   a0.2.1
  else
   a0.2.2))
theorem aEs (a0:Zt)(a1:Int):Con Tryz.prog 123 [(.a (k3 a0)),(iv a1)] [] (iv (eF a0 a1)) []:=by
 refine bA Tryz.func123 (by kernel_rfl) fun cx hcx=>?_
 cases h0:((a1:Int) == 0) with
 | true =>
  have q0:=eq_of_beq h0
  have e:=Eq.refl (eF a0 a1);conv at e=>rhs;simp only [eF,h0,aW]
  rw [e]
  exact rt [.d h0] [] [] hcx (by kernel_rfl)
 | false =>
  have q0:=ne_of_beq_false h0
  let t1:List (St Tryz.prog):=[.d h0]
  cases h1:((a1:Int) == 1) with
  | true =>
   have q1:=eq_of_beq h1
   have e:=Eq.refl (eF a0 a1);conv at e=>rhs;simp only [eF,h0,h1,aW]
   rw [e]
   exact rt (t1++[.d h1]) [] [] hcx (by kernel_rfl)
  | false =>
   have q1:=ne_of_beq_false h1
   have e:=Eq.refl (eF a0 a1);conv at e=>rhs;simp only [eF,h0,h1,aW]
   rw [e]
   exact rt (t1++[.d h1]) [] [] hcx (by kernel_rfl)
def gN (a0:(Zt×Zt×Zt)×Int)(a1:Int):Int :=
 (W ((W ((eF a0.1.1 a1)+(eF a0.1.2.1 a1)))+(eF a0.1.2.2 a1)))
theorem aGz (a0:(Zt×Zt×Zt)×Int)(a1:Int):Con Tryz.prog 126 [(.a [(iv a0.1.1.1),(iv a0.1.1.2.1),(iv a0.1.1.2.2),(iv a0.1.2.1.1),(iv a0.1.2.1.2.1),(iv a0.1.2.1.2.2),(iv a0.1.2.2.1),(iv a0.1.2.2.2.1),(iv a0.1.2.2.2.2),(iv a0.2)]),(iv a1)] [] (iv (gN a0 a1)) []:=by
 refine bA Tryz.func126 (by kernel_rfl) fun cx hcx=>?_
 have e:=Eq.refl (gN a0 a1);conv at e=>rhs;simp only [gN]
 rw [e]
 exact rt [.c [] (aEs a0.1.1 a1),.c [] (aEs a0.1.2.1 a1),.c [] (aEs a0.1.2.2 a1)] [] [] hcx (by kernel_rfl)
def aCd (a0:Int)(a1:Int):Int :=
 (Int.fdiv (W (a0+a1)) (2 ^ (min (tN 1) 64)))
theorem aWq (a0:Int)(a1:Int):Con Tryz.prog 124 [(iv a0),(iv a1)] [] (iv (aCd a0 a1)) []:=by
 refine bA Tryz.func124 (by kernel_rfl) fun cx hcx=>?_
 have e:=Eq.refl (aCd a0 a1);conv at e=>rhs;simp only [aCd]
 rw [e]
 exact rt [.p (show 0<=(1:Int) from by decide)] [] [] hcx (by kernel_rfl)
noncomputable def tY:Code:=(aN [1,1,0,1] [] (aL Tryz.f100) []).1
noncomputable def tZ:List K:=(aN [1,1,0,1] [] (aL Tryz.f100) []).2
def rQ (a0:bT)(a1:List Int)(a2:Int)(v1 v2 v3:Int):LS:=⟨gO 56 [(0,(.s 0 0 a0.length 10)),(1,(.s 1 0 a1.length 1)),(2,(iv a2)),(7,(iv v1)),(8,(iv v2)),(9,(iv v3))],[(.live false true (flat dI a0)),(.live false true (flat c3 a1))]⟩
def cJ (a0:bT)(a1:List Int)(a2:Int):Zt->Zt⊕(Int)
 | (v1,v2,v3) =>
  (bif (decide ((v3:Int) < (a1.length:Int))) then
   (.inl ((gW (gW (gW v1 (eF (a0.getD (tN (a1.getD (tN v3) dF)) dF).1.1 a2)) (eF (a0.getD (tN (a1.getD (tN v3) dF)) dF).1.2.1 a2)) (eF (a0.getD (tN (a1.getD (tN v3) dF)) dF).1.2.2 a2)),(cZ (cZ (cZ v2 (eF (a0.getD (tN (a1.getD (tN v3) dF)) dF).1.1 a2)) (eF (a0.getD (tN (a1.getD (tN v3) dF)) dF).1.2.1 a2)) (eF (a0.getD (tN (a1.getD (tN v3) dF)) dF).1.2.2 a2)),(v3+1)))
  else
   (.inr (aCd v1 v2)))
theorem aIw (a0:bT)(a1:List Int)(a2:Int)(l0:a0.length<=2^63-1)(l1:a1.length<=2^63-1)(hir:InR a0.length a1)(hl:a1.length<=1048576) {cx:Cx} (hcx:cx.base=2):∀(n:Nat) (v1 v2 v3:Int),(0<=v3)/\(v3<=a1.length)->tN ((a1.length:Int) - v3) < n->Aw.Good Tryz.prog none 9 (bodyPost Tryz.prog Tryz.f100 (RR cx (iv (aH (cJ a0 a1 a2) n (v1,v2,v3))) [] [])) cx [] (.l tY n::tZ) (rQ a0 a1 a2 v1 v2 v3):=by
 intro n
 induction n with
 | zero=>intro v1 v2 v3 hi hn;exact absurd hn (eL _)
 | succ n ih =>
  intro v1 v2 v3 hi hn
  refine aS ?_
  cases h0:(decide ((v3:Int) < (a1.length:Int))) with
  | true =>
   have q0:=cN h0
   try have hr1:=hir.at (i:=tN v3) (by have _:=h0;omega)
   have e:=Eq.refl (cJ a0 a1 a2 (v1,v2,v3));conv at e=>rhs;simp only [cJ,h0,aW]
   rw [aI e]
   refine ba [.d h0,.i v3 (a1.length),.L aF a1 v3 0 1,.i (a1.getD (tN v3) dF) (a0.length),.L eM a0 (a1.getD (tN v3) dF) 0 9,.c [] (aEs (a0.getD (tN (a1.getD (tN v3) dF)) dF).1.1 a2),.c [] (aEs (a0.getD (tN (a1.getD (tN v3) dF)) dF).1.2.1 a2),.c [] (aEs (a0.getD (tN (a1.getD (tN v3) dF)) dF).1.2.2 a2),.c [] (aEs (a0.getD (tN (a1.getD (tN v3) dF)) dF).1.1 a2),.c [] (aEs (a0.getD (tN (a1.getD (tN v3) dF)) dF).1.2.1 a2),.c [] (aEs (a0.getD (tN (a1.getD (tN v3) dF)) dF).1.2.2 a2)] [] [0,1,2,7,8,9] [] hcx (m:=n) tY (tZ) (rQ a0 a1 a2 (gW (gW (gW v1 (eF (a0.getD (tN (a1.getD (tN v3) dF)) dF).1.1 a2)) (eF (a0.getD (tN (a1.getD (tN v3) dF)) dF).1.2.1 a2)) (eF (a0.getD (tN (a1.getD (tN v3) dF)) dF).1.2.2 a2)) (cZ (cZ (cZ v2 (eF (a0.getD (tN (a1.getD (tN v3) dF)) dF).1.1 a2)) (eF (a0.getD (tN (a1.getD (tN v3) dF)) dF).1.2.1 a2)) (eF (a0.getD (tN (a1.getD (tN v3) dF)) dF).1.2.2 a2)) (W (v3+1))) (by kernel_rfl) ?_
   have z0:(W (v3+1))=(v3+1):=aR (by omega) (by omega)
   rw [z0]
   exact ih (gW (gW (gW v1 (eF (a0.getD (tN (a1.getD (tN v3) dF)) dF).1.1 a2)) (eF (a0.getD (tN (a1.getD (tN v3) dF)) dF).1.2.1 a2)) (eF (a0.getD (tN (a1.getD (tN v3) dF)) dF).1.2.2 a2)) (cZ (cZ (cZ v2 (eF (a0.getD (tN (a1.getD (tN v3) dF)) dF).1.1 a2)) (eF (a0.getD (tN (a1.getD (tN v3) dF)) dF).1.2.1 a2)) (eF (a0.getD (tN (a1.getD (tN v3) dF)) dF).1.2.2 a2)) (v3+1) (by refine⟨?_,?_⟩<;>(try simp only [Ls])<;>first | omega | assumption | simp) (by omega)
  | false =>
   have q0:=cY h0
   have e:=Eq.refl (cJ a0 a1 a2 (v1,v2,v3));conv at e=>rhs;simp only [cJ,h0,aW]
   rw [aK,e]
   exact rt [.d h0,.c [] (aWq v1 v2)] [] [] hcx (by kernel_rfl)
def aO (a0:bT)(a1:List Int)(a2:Int):Int :=
 (aH (cJ a0 a1 a2) (tN ((a1.length:Int) - 0)+1) (64,(-64),0))
theorem kG (a0:bT)(a1:List Int)(a2:Int)(l0:a0.length<=2^63-1)(l1:a1.length<=2^63-1)(hir:InR a0.length a1)(hl:a1.length<=1048576):Con Tryz.prog 100 [(.s 0 0 a0.length 10),(.s 1 0 a1.length 1),(iv a2)] [(.live false true (flat dI a0)),(.live false true (flat c3 a1))] (iv (aO a0 a1 a2)) []:=by
 refine bA Tryz.func100 (by kernel_rfl) fun cx hcx=>?_
 have e:=Eq.refl (aO a0 a1 a2);conv at e=>rhs;simp only [aO]
 rw [e]
 refine en [] [] [0,1,2,7,8,9] [] hcx tY (tZ) (rQ a0 a1 a2 64 (-64) 0) (tN ((a1.length:Int) - 0)+1) (by kernel_rfl) ?_
 exact aIw a0 a1 a2 l0 l1 hir hl hcx (tN ((a1.length:Int) - 0)+1) 64 (-64) 0 (by refine⟨?_,?_⟩<;>(try simp only [Ls])<;>first | omega | assumption | simp) (by omega)
noncomputable def uA:Code:=(aN [1,1,0,1] [] (aL Tryz.f102) []).1
noncomputable def uB:List K:=(aN [1,1,0,1] [] (aL Tryz.f102) []).2
def rR (a0:bT)(a1:List Int)(v2c:List SV)(v2n:Nat)(v3:Int):LS:=⟨gO 24 [(0,(.s 0 0 a0.length 10)),(1,(.s 1 0 a1.length 1)),(5,(.s 2 0 v2n 10)),(6,(iv v3))],[(.live false true (flat dI a0)),(.live false true (flat c3 a1)),(.live true true v2c)]⟩
def jL (a0:bT)(a1:List Int):bT×Int->(bT×Int)⊕bT
 | (v2,v3) =>
  (bif (decide ((v3:Int) < (a1.length:Int))) then
   (.inl ((v2++[(a0.getD (tN (a1.getD (tN v3) dF)) dF)]),(v3+1)))
  else
   (.inr v2))
theorem aIx (a0:bT)(a1:List Int)(l0:a0.length<=2^63-1)(l1:a1.length<=2^63-1)(hir:InR a0.length a1)(hl:a1.length<=1048576) {cx:Cx} (hcx:cx.base=2):∀(n:Nat) (v2:bT) (v3:Int),(0<=v3)/\(v2.length=tN v3)/\(v3<=a1.length)->tN ((a1.length:Int) - v3) < n->Aw.Good Tryz.prog none 9 (bodyPost Tryz.prog Tryz.f102 (RR cx (.s 2 0 (aH (jL a0 a1) n (v2,v3)).length 10) [(.live true true (flat dI (aH (jL a0 a1) n (v2,v3))))] [])) cx [] (.l uA n::uB) (rR a0 a1 (flat dI v2) v2.length v3):=by
 intro n
 induction n with
 | zero=>intro v2 v3 hi hn;exact absurd hn (eL _)
 | succ n ih =>
  intro v2 v3 hi hn
  refine aS ?_
  cases h0:(decide ((v3:Int) < (a1.length:Int))) with
  | true =>
   have q0:=cN h0
   try have hr1:=hir.at (i:=tN v3) (by have _:=h0;omega)
   have e:=Eq.refl (jL a0 a1 (v2,v3));conv at e=>rhs;simp only [jL,h0,aW]
   rw [aI e]
   refine ba [.d h0,.i v3 (a1.length),.L aF a1 v3 0 1,.i (a1.getD (tN v3) dF) (a0.length),.L eM a0 (a1.getD (tN v3) dF) 0 10,.p (show((flat dI v2).length=v2.length*10/\v2.length+1<=2 ^ 40/\(v2.length+1)*80<=2 ^ 47) from nX eM (by omega) (by omega))] [] [0,1,5,6] [4] hcx (m:=n) uA (uB) (rR a0 a1 (flat dI v2++[(iv (a0.getD (tN (a1.getD (tN v3) dF)) dF).1.1.1),(iv (a0.getD (tN (a1.getD (tN v3) dF)) dF).1.1.2.1),(iv (a0.getD (tN (a1.getD (tN v3) dF)) dF).1.1.2.2),(iv (a0.getD (tN (a1.getD (tN v3) dF)) dF).1.2.1.1),(iv (a0.getD (tN (a1.getD (tN v3) dF)) dF).1.2.1.2.1),(iv (a0.getD (tN (a1.getD (tN v3) dF)) dF).1.2.1.2.2),(iv (a0.getD (tN (a1.getD (tN v3) dF)) dF).1.2.2.1),(iv (a0.getD (tN (a1.getD (tN v3) dF)) dF).1.2.2.2.1),(iv (a0.getD (tN (a1.getD (tN v3) dF)) dF).1.2.2.2.2),(iv (a0.getD (tN (a1.getD (tN v3) dF)) dF).2)]) (v2.length+1) (W (v3+1))) (by kernel_rfl) ?_
   have z0:(W (v3+1))=(v3+1):=aR (by omega) (by omega)
   have z1:(flat dI v2++[(iv (a0.getD (tN (a1.getD (tN v3) dF)) dF).1.1.1),(iv (a0.getD (tN (a1.getD (tN v3) dF)) dF).1.1.2.1),(iv (a0.getD (tN (a1.getD (tN v3) dF)) dF).1.1.2.2),(iv (a0.getD (tN (a1.getD (tN v3) dF)) dF).1.2.1.1),(iv (a0.getD (tN (a1.getD (tN v3) dF)) dF).1.2.1.2.1),(iv (a0.getD (tN (a1.getD (tN v3) dF)) dF).1.2.1.2.2),(iv (a0.getD (tN (a1.getD (tN v3) dF)) dF).1.2.2.1),(iv (a0.getD (tN (a1.getD (tN v3) dF)) dF).1.2.2.2.1),(iv (a0.getD (tN (a1.getD (tN v3) dF)) dF).1.2.2.2.2),(iv (a0.getD (tN (a1.getD (tN v3) dF)) dF).2)])=(flat dI (v2++[(a0.getD (tN (a1.getD (tN v3) dF)) dF)])):=(dP (c:=dI) (l:=v2) (m:=[(a0.getD (tN (a1.getD (tN v3) dF)) dF)])).symm
   have z2:(v2.length+1)=(v2++[(a0.getD (tN (a1.getD (tN v3) dF)) dF)]).length:=uZ v2 [(a0.getD (tN (a1.getD (tN v3) dF)) dF)] rfl
   rw [z0,z1,z2]
   exact ih (v2++[(a0.getD (tN (a1.getD (tN v3) dF)) dF)]) (v3+1) (by refine⟨?_,?_,?_⟩<;>(try simp only [Ls])<;>first | omega | assumption | simp) (by omega)
  | false =>
   have q0:=cY h0
   have e:=Eq.refl (jL a0 a1 (v2,v3));conv at e=>rhs;simp only [jL,h0,aW]
   rw [aK,e]
   exact rt [.d h0] [] [2] hcx (by kernel_rfl)
def gF (a0:bT)(a1:List Int):bT :=
 (aH (jL a0 a1) (tN ((a1.length:Int) - 0)+1) (([]:bT),0))
theorem aBd (a0:bT)(a1:List Int)(l0:a0.length<=2^63-1)(l1:a1.length<=2^63-1)(hir:InR a0.length a1)(hl:a1.length<=1048576):Con Tryz.prog 102 [(.s 0 0 a0.length 10),(.s 1 0 a1.length 1)] [(.live false true (flat dI a0)),(.live false true (flat c3 a1))] (.s 2 0 (gF a0 a1).length 10) [(.live true true (flat dI (gF a0 a1)))]:=by
 refine bA Tryz.func102 (by kernel_rfl) fun cx hcx=>?_
 have e:=Eq.refl (gF a0 a1);conv at e=>rhs;simp only [gF]
 rw [e]
 refine en [] [.slot 5 10] [0,1,5,6] [2] hcx uA (uB) (rR a0 a1 (flat dI ([]:bT)) 0 0) (tN ((a1.length:Int) - 0)+1) (by kernel_rfl) ?_
 exact aIx a0 a1 l0 l1 hir hl hcx (tN ((a1.length:Int) - 0)+1) ([]:bT) 0 (by refine⟨?_,?_,?_⟩<;>(try simp only [Ls])<;>first | omega | assumption | simp) (by omega)
noncomputable def uC:Code:=(aN [1,1,0,1,0,1,0,1,0,1] [0] (aL Tryz.f104) []).1
noncomputable def uD (m0:Nat):List K:=(aN [1,1,0,1,0,1,0,1,0,1] [m0] (aL Tryz.f104) []).2
def rS (a0:bT)(a1:List Int)(v14 v15 v16 v17 v18 v19:Int):LS:=⟨gO 69 [(0,(.s 0 0 a0.length 10)),(1,(.s 1 0 a1.length 1)),(5,(iv v14)),(6,(iv v15)),(7,(iv v16)),(8,(iv v17)),(9,(iv v18)),(10,(iv v19))],[(.live false true (flat dI a0)),(.live false true (flat c3 a1))]⟩
def cV (a0:bT)(a1:List Int):Int×Int×Int×Zt->(Int×Int×Int×Zt)⊕(Zt⊕(Int))
 | (v14,v15,v16,v17,v18,v19) =>
  (bif (decide ((v19:Int) < (a1.length:Int))) then
   (.inl (v14,v15,v16,(gW v17 (gN (a0.getD (tN (a1.getD (tN v19) dF)) dF) v16)),(cZ v18 (gN (a0.getD (tN (a1.getD (tN v19) dF)) dF) v16)),(v19+1)))
  else
   (bif (decide (((W (v18 - v17)):Int) > v15)) then
    (.inr (.inl (v16,(W (v18 - v17)),(v16+1))))
   else
    (.inr (.inl (v14,v15,(v16+1))))))
noncomputable def nB:Code:=(aN [1,1,0,1] [] (aL Tryz.f104) []).1
noncomputable def nC:List K:=(aN [1,1,0,1] [] (aL Tryz.f104) []).2
def lQ (a0:bT)(a1:List Int)(v11 v12 v13:Int):LS:=⟨gO 69 [(0,(.s 0 0 a0.length 10)),(1,(.s 1 0 a1.length 1)),(5,(iv v11)),(6,(iv v12)),(7,(iv v13))],[(.live false true (flat dI a0)),(.live false true (flat c3 a1))]⟩
def eR (a0:bT)(a1:List Int):Zt->Zt⊕(Int)
 | (v11,v12,v13) =>
  (bif (decide ((v13:Int) < 3)) then
   (aH (cV a0 a1) (tN ((a1.length:Int) - 1)+1) (v11,v12,v13,(gN (a0.getD (tN (a1.getD (tN 0) dF)) dF) v13),(gN (a0.getD (tN (a1.getD (tN 0) dF)) dF) v13),1))
  else
   (.inr v11))
theorem aIy (a0:bT)(a1:List Int)(l0:a0.length<=2^63-1)(l1:a1.length<=2^63-1)(hir:InR a0.length a1)(hl:1<=a1.length/\a1.length<=1048576) {cx:Cx} (hcx:cx.base=2)
 (n0:Nat) (g0:∀(v11 v12 v13:Int),(0<=v13)/\(v13<=3)->tN (3 - v13) < n0->Aw.Good Tryz.prog none 9 (bodyPost Tryz.prog Tryz.f104 (RR cx (iv (aH (eR a0 a1) n0 (v11,v12,v13))) [] [])) cx [] (.l nB n0::nC) (lQ a0 a1 v11 v12 v13)):∀(n:Nat) (v14 v15 v16 v17 v18 v19:Int),(0<=v19)/\(1<=v19)/\(v19<=a1.length)/\((0<=v16))/\((v16<=3))/\(v16 < 3)/\(tN (3 - v16) < n0+1)->tN ((a1.length:Int) - v19) < n->Aw.Good Tryz.prog none 9 (bodyPost Tryz.prog Tryz.f104 (RR cx (iv (aZ (eR a0 a1) n0 (aH (cV a0 a1) n (v14,v15,v16,v17,v18,v19)))) [] [])) cx [] (.l uC n::uD n0) (rS a0 a1 v14 v15 v16 v17 v18 v19):=by
 intro n
 induction n with
 | zero=>intro v14 v15 v16 v17 v18 v19 hi hn;exact absurd hn (eL _)
 | succ n ih =>
  intro v14 v15 v16 v17 v18 v19 hi hn
  refine aS ?_
  have hr0:=hir.at (i:=tN 0) (by have:=hl.1;simp;omega)
  cases h0:(decide ((v19:Int) < (a1.length:Int))) with
  | true =>
   have q0:=cN h0
   try have hr1:=hir.at (i:=tN v19) (by have _:=h0;omega)
   have e:=Eq.refl (cV a0 a1 (v14,v15,v16,v17,v18,v19));conv at e=>rhs;simp only [cV,h0,aW]
   rw [aI e]
   refine ba [.d h0,.i v19 (a1.length),.L aF a1 v19 0 1,.i (a1.getD (tN v19) dF) (a0.length),.L eM a0 (a1.getD (tN v19) dF) 0 10,.c [] (aGz (a0.getD (tN (a1.getD (tN v19) dF)) dF) v16),.i v19 (a1.length),.L aF a1 v19 0 1,.i (a1.getD (tN v19) dF) (a0.length),.L eM a0 (a1.getD (tN v19) dF) 0 10,.c [] (aGz (a0.getD (tN (a1.getD (tN v19) dF)) dF) v16)] [] [0,1,5,6,7,8,9,10] [] hcx (m:=n) uC (uD n0) (rS a0 a1 v14 v15 v16 (gW v17 (gN (a0.getD (tN (a1.getD (tN v19) dF)) dF) v16)) (cZ v18 (gN (a0.getD (tN (a1.getD (tN v19) dF)) dF) v16)) (W (v19+1))) (by kernel_rfl) ?_
   have z0:(W (v19+1))=(v19+1):=aR (by omega) (by omega)
   rw [z0]
   exact ih v14 v15 v16 (gW v17 (gN (a0.getD (tN (a1.getD (tN v19) dF)) dF) v16)) (cZ v18 (gN (a0.getD (tN (a1.getD (tN v19) dF)) dF) v16)) (v19+1) (by refine⟨?_,?_,?_,?_,?_,?_,?_⟩<;>(try simp only [Ls])<;>first | omega | assumption | exact hi.2.1 | exact hi.2.2.1 | exact hi.2.2.2.1 | exact hi.2.2.2.2.1 | exact hi.2.2.2.2.2.1 | exact hi.2.2.2.2.2.2.1 | simp) (by omega)
  | false =>
   have q0:=cY h0
   let t1:List (St Tryz.prog):=[.d h0]
   cases h1:(decide (((W (v18 - v17)):Int) > v15)) with
   | true =>
    have q1:=cN h1
    have e:=Eq.refl (cV a0 a1 (v14,v15,v16,v17,v18,v19));conv at e=>rhs;simp only [cV,h0,h1,aW]
    rw [aK,e]
    refine ba (t1++[.d h1]) [] [0,1,5,6,7] [] hcx (m:=n0) nB (nC) (lQ a0 a1 v16 (W (v18 - v17)) (W (v16+1))) (by kernel_rfl) ?_
    have z0:(W (v16+1))=(v16+1):=aR (by omega) (by omega)
    rw [z0]
    exact g0 v16 (W (v18 - v17)) (v16+1) (by refine⟨?_,?_⟩<;>(try simp only [Ls])<;>first | omega | assumption | simp) (by omega)
   | false =>
    have q1:=cY h1
    have e:=Eq.refl (cV a0 a1 (v14,v15,v16,v17,v18,v19));conv at e=>rhs;simp only [cV,h0,h1,aW]
    rw [aK,e]
    refine ba (t1++[.d h1]) [] [0,1,5,6,7] [] hcx (m:=n0) nB (nC) (lQ a0 a1 v14 v15 (W (v16+1))) (by kernel_rfl) ?_
    have z0:(W (v16+1))=(v16+1):=aR (by omega) (by omega)
    rw [z0]
    exact g0 v14 v15 (v16+1) (by refine⟨?_,?_⟩<;>(try simp only [Ls])<;>first | omega | assumption | simp) (by omega)
theorem aIz (a0:bT)(a1:List Int)(l0:a0.length<=2^63-1)(l1:a1.length<=2^63-1)(hir:InR a0.length a1)(hl:1<=a1.length/\a1.length<=1048576) {cx:Cx} (hcx:cx.base=2):∀(n:Nat) (v11 v12 v13:Int),(0<=v13)/\(v13<=3)->tN (3 - v13) < n->Aw.Good Tryz.prog none 9 (bodyPost Tryz.prog Tryz.f104 (RR cx (iv (aH (eR a0 a1) n (v11,v12,v13))) [] [])) cx [] (.l nB n::nC) (lQ a0 a1 v11 v12 v13):=by
 intro n
 induction n with
 | zero=>intro v11 v12 v13 hi hn;exact absurd hn (eL _)
 | succ n ih =>
  intro v11 v12 v13 hi hn
  refine aS ?_
  have hr0:=hir.at (i:=tN 0) (by have:=hl.1;simp;omega)
  cases h0:(decide ((v13:Int) < 3)) with
  | true =>
   have q0:=cN h0
   have e:=Eq.refl (eR a0 a1 (v11,v12,v13));conv at e=>rhs;simp only [eR,h0,aW]
   rw [aK,e]
   refine en [.d h0,.i 0 (a1.length),.L aF a1 0 0 1,.i (a1.getD (tN 0) dF) (a0.length),.L eM a0 (a1.getD (tN 0) dF) 0 10,.c [] (aGz (a0.getD (tN (a1.getD (tN 0) dF)) dF) v13),.i 0 (a1.length),.L aF a1 0 0 1,.i (a1.getD (tN 0) dF) (a0.length),.L eM a0 (a1.getD (tN 0) dF) 0 10,.c [] (aGz (a0.getD (tN (a1.getD (tN 0) dF)) dF) v13)] [] [0,1,5,6,7,8,9,10] [] hcx uC (uD n) (rS a0 a1 v11 v12 v13 (gN (a0.getD (tN (a1.getD (tN 0) dF)) dF) v13) (gN (a0.getD (tN (a1.getD (tN 0) dF)) dF) v13) 1) (tN ((a1.length:Int) - 1)+1) (by kernel_rfl) ?_
   exact aIy a0 a1 l0 l1 hir hl hcx n ih (tN ((a1.length:Int) - 1)+1) v11 v12 v13 (gN (a0.getD (tN (a1.getD (tN 0) dF)) dF) v13) (gN (a0.getD (tN (a1.getD (tN 0) dF)) dF) v13) 1 (by refine⟨?_,?_,?_,?_,?_,?_,?_⟩<;>(try simp only [Ls])<;>first | omega | assumption | exact hi.2.1 | exact hi.2.2.1 | exact hi.2.2.2.1 | exact hi.2.2.2.2.1 | exact hi.2.2.2.2.2.1 | exact hi.2.2.2.2.2.2.1 | simp) (by omega)
  | false =>
   have q0:=cY h0
   have e:=Eq.refl (eR a0 a1 (v11,v12,v13));conv at e=>rhs;simp only [eR,h0,aW]
   rw [aK,e]
   exact rt [.d h0] [] [] hcx (by kernel_rfl)
def aG (a0:bT)(a1:List Int):Int :=
 (aH (eR a0 a1) (tN (3 - 0)+1) (0,(-1),0))
theorem aBe (a0:bT)(a1:List Int)(l0:a0.length<=2^63-1)(l1:a1.length<=2^63-1)(hir:InR a0.length a1)(hl:1<=a1.length/\a1.length<=1048576):Con Tryz.prog 104 [(.s 0 0 a0.length 10),(.s 1 0 a1.length 1)] [(.live false true (flat dI a0)),(.live false true (flat c3 a1))] (iv (aG a0 a1)) []:=by
 refine bA Tryz.func104 (by kernel_rfl) fun cx hcx=>?_
 have e:=Eq.refl (aG a0 a1);conv at e=>rhs;simp only [aG]
 rw [e]
 refine en [] [] [0,1,5,6,7] [] hcx nB (nC) (lQ a0 a1 0 (-1) 0) (tN (3 - 0)+1) (by kernel_rfl) ?_
 exact aIz a0 a1 l0 l1 hir hl hcx (tN (3 - 0)+1) 0 (-1) 0 (by refine⟨?_,?_⟩<;>(try simp only [Ls])<;>first | omega | assumption | simp) (by omega)
def lV (a0:bT)(a1:Zt):Int :=
 (bif (((kN a0):Int) != 0) then
  (kN a0)
 else
  (bif (!(rJ a1 64)) then
   1
  else
   0))
theorem aTt (a0:bT)(a1:Zt)(l0:a0.length<=2^63-1):Con Tryz.prog 125 [(.s 0 0 a0.length 10),(.a (k3 a1))] [(.live false true (flat dI a0))] (iv (lV a0 a1)) []:=by
 refine bA Tryz.func125 (by kernel_rfl) fun cx hcx=>?_
 let t0:List (St Tryz.prog):=[.c [0] (aSh a0 (by omega))]
 cases h0:(((kN a0):Int) != 0) with
 | true =>
  have q0:=bne_iff_ne.1 h0
  have e:=Eq.refl (lV a0 a1);conv at e=>rhs;simp only [lV,h0,aW]
  rw [e]
  exact rt (t0++[.d h0]) [] [] hcx (by kernel_rfl)
 | false =>
  have q0:=bne_eq_false_iff_eq.1 h0
  let t1:List (St Tryz.prog):=(t0++[.d h0,.c [] (aWh a1 64)])
  cases h1:(!(rJ a1 64)) with
  | true =>
   have e:=Eq.refl (lV a0 a1);conv at e=>rhs;simp only [lV,h0,h1,aW]
   rw [e]
   exact rt (t1++[.d h1]) [] [] hcx (by kernel_rfl)
  | false =>
   have e:=Eq.refl (lV a0 a1);conv at e=>rhs;simp only [lV,h0,h1,aW]
   rw [e]
   exact rt (t1++[.d h1]) [] [] hcx (by kernel_rfl)
noncomputable def aBf:Code:=(aN [1,1,1,1,0,1] [] (aL Tryz.f101) []).1
noncomputable def aBg:List K:=(aN [1,1,1,1,0,1] [] (aL Tryz.f101) []).2
def wY (a0:bT)(a1:Zt)(v1 v2:Int):LS:=⟨gO 45 [(0,(.s 0 0 a0.length 10)),(3,(.p 1 0)),(7,(iv v1)),(8,(iv v2))],[(.live false true (flat dI a0)),(.live true false (k3 a1))]⟩
def nD (a0:bT)(a1:Zt):Int×Int->(Int×Int)⊕(Int×Int)
 | (v1,v2) =>
  (bif (decide ((v2:Int) < (a0.length:Int))) then
   (.inl ((if((if((if(v1:Int) < (fV (fM (a0.getD (tN v2) dF).1.1 a1)) then(fV (fM (a0.getD (tN v2) dF).1.1 a1)) else v1):Int) < (fV (fM (a0.getD (tN v2) dF).1.2.1 a1)) then(fV (fM (a0.getD (tN v2) dF).1.2.1 a1)) else(if(v1:Int) < (fV (fM (a0.getD (tN v2) dF).1.1 a1)) then(fV (fM (a0.getD (tN v2) dF).1.1 a1)) else v1)):Int) < (fV (fM (a0.getD (tN v2) dF).1.2.2 a1)) then(fV (fM (a0.getD (tN v2) dF).1.2.2 a1)) else(if((if(v1:Int) < (fV (fM (a0.getD (tN v2) dF).1.1 a1)) then(fV (fM (a0.getD (tN v2) dF).1.1 a1)) else v1):Int) < (fV (fM (a0.getD (tN v2) dF).1.2.1 a1)) then(fV (fM (a0.getD (tN v2) dF).1.2.1 a1)) else(if(v1:Int) < (fV (fM (a0.getD (tN v2) dF).1.1 a1)) then(fV (fM (a0.getD (tN v2) dF).1.1 a1)) else v1))),(v2+1)))
  else
   (.inr (v1,0)))
theorem aOu (a0:bT)(a1:Zt)(l0:a0.length<=2^63-1) {cx:Cx} (hcx:cx.base=1):∀(n:Nat) (v1 v2:Int),0<=v2->tN ((a0.length:Int) - v2) < n->Aw.Good Tryz.prog none 9 (bodyPost Tryz.prog Tryz.f101 (RR cx (.t (k2 (aH (nD a0 a1) n (v1,v2)))) [] [])) cx [] (.l aBf n::aBg) (wY a0 a1 v1 v2):=by
 intro n
 induction n with
 | zero=>intro v1 v2 hi hn;exact absurd hn (eL _)
 | succ n ih =>
  intro v1 v2 hi hn
  refine aS ?_
  cases h0:(decide ((v2:Int) < (a0.length:Int))) with
  | true =>
   have q0:=cN h0
   have e:=Eq.refl (nD a0 a1 (v1,v2));conv at e=>rhs;simp only [nD,h0,aW]
   rw [aI e]
   refine ba [.d h0,.i v2 (a0.length),.L eM a0 v2 0 9,.c [] (aQv (a0.getD (tN v2) dF).1.1 a1),.c [] (aQu (fM (a0.getD (tN v2) dF).1.1 a1)),.c [] (aQv (a0.getD (tN v2) dF).1.2.1 a1),.c [] (aQu (fM (a0.getD (tN v2) dF).1.2.1 a1)),.c [] (aQv (a0.getD (tN v2) dF).1.2.2 a1),.c [] (aQu (fM (a0.getD (tN v2) dF).1.2.2 a1))] [] [0,3,7,8] [1] hcx (m:=n) aBf (aBg) (wY a0 a1 (if((if((if(v1:Int) < (fV (fM (a0.getD (tN v2) dF).1.1 a1)) then(fV (fM (a0.getD (tN v2) dF).1.1 a1)) else v1):Int) < (fV (fM (a0.getD (tN v2) dF).1.2.1 a1)) then(fV (fM (a0.getD (tN v2) dF).1.2.1 a1)) else(if(v1:Int) < (fV (fM (a0.getD (tN v2) dF).1.1 a1)) then(fV (fM (a0.getD (tN v2) dF).1.1 a1)) else v1)):Int) < (fV (fM (a0.getD (tN v2) dF).1.2.2 a1)) then(fV (fM (a0.getD (tN v2) dF).1.2.2 a1)) else(if((if(v1:Int) < (fV (fM (a0.getD (tN v2) dF).1.1 a1)) then(fV (fM (a0.getD (tN v2) dF).1.1 a1)) else v1):Int) < (fV (fM (a0.getD (tN v2) dF).1.2.1 a1)) then(fV (fM (a0.getD (tN v2) dF).1.2.1 a1)) else(if(v1:Int) < (fV (fM (a0.getD (tN v2) dF).1.1 a1)) then(fV (fM (a0.getD (tN v2) dF).1.1 a1)) else v1))) (W (v2+1))) (by kernel_rfl) ?_
   have z0:(W (v2+1))=(v2+1):=aR (by omega) (by omega)
   rw [z0]
   exact ih (if((if((if(v1:Int) < (fV (fM (a0.getD (tN v2) dF).1.1 a1)) then(fV (fM (a0.getD (tN v2) dF).1.1 a1)) else v1):Int) < (fV (fM (a0.getD (tN v2) dF).1.2.1 a1)) then(fV (fM (a0.getD (tN v2) dF).1.2.1 a1)) else(if(v1:Int) < (fV (fM (a0.getD (tN v2) dF).1.1 a1)) then(fV (fM (a0.getD (tN v2) dF).1.1 a1)) else v1)):Int) < (fV (fM (a0.getD (tN v2) dF).1.2.2 a1)) then(fV (fM (a0.getD (tN v2) dF).1.2.2 a1)) else(if((if(v1:Int) < (fV (fM (a0.getD (tN v2) dF).1.1 a1)) then(fV (fM (a0.getD (tN v2) dF).1.1 a1)) else v1):Int) < (fV (fM (a0.getD (tN v2) dF).1.2.1 a1)) then(fV (fM (a0.getD (tN v2) dF).1.2.1 a1)) else(if(v1:Int) < (fV (fM (a0.getD (tN v2) dF).1.1 a1)) then(fV (fM (a0.getD (tN v2) dF).1.1 a1)) else v1))) (v2+1) (by omega) (by omega)
  | false =>
   have q0:=cY h0
   have e:=Eq.refl (nD a0 a1 (v1,v2));conv at e=>rhs;simp only [nD,h0,aW]
   rw [aK,e]
   exact rt [.d h0] [] [] hcx (by kernel_rfl)
def lW (a0:bT)(a1:Zt):Int×Int :=
 (bif (((lV a0 a1):Int) != 0) then
  (0,(lV a0 a1))
 else
  (aH (nD a0 a1) (tN ((a0.length:Int) - 0)+1) (0,0)))
theorem aI0 (a0:bT)(a1:Zt)(l0:a0.length<=2^63-1):Con Tryz.prog 101 [(.s 0 0 a0.length 10),(.a (k3 a1))] [(.live false true (flat dI a0))] (.t (k2 (lW a0 a1))) []:=by
 refine bA Tryz.func101 (by kernel_rfl) fun cx hcx=>?_
 let t0:List (St Tryz.prog):=[.c [0] (aTt a0 a1 (by omega))]
 cases h0:(((lV a0 a1):Int) != 0) with
 | true =>
  have q0:=bne_iff_ne.1 h0
  have e:=Eq.refl (lW a0 a1);conv at e=>rhs;simp only [lW,h0,aW]
  rw [e]
  exact rt (t0++[.d h0]) [] [] hcx (by kernel_rfl)
 | false =>
  have q0:=bne_eq_false_iff_eq.1 h0
  have e:=Eq.refl (lW a0 a1);conv at e=>rhs;simp only [lW,h0,aW]
  rw [e]
  refine en (t0++[.d h0]) [] [0,3,7,8] [1] hcx aBf (aBg) (wY a0 a1 0 0) (tN ((a0.length:Int) - 0)+1) (by kernel_rfl) ?_
  exact aOu a0 a1 l0 hcx (tN ((a0.length:Int) - 0)+1) 0 0 (by omega) (by omega)
noncomputable def qK:Code:=(aN [1,1,0,1,0,1,0,1] [0] (aL Tryz.f103) []).1
noncomputable def qL (m0:Nat):List K:=(aN [1,1,0,1,0,1,0,1] [m0] (aL Tryz.f103) []).2
def nO (a0:bT)(a1:List Int)(a2:Int)(v5c:List SV)(v5n:Nat)(v6 v7:Int):LS:=⟨gO 99 [(0,(.s 0 0 a0.length 10)),(2,(iv a2)),(7,(.s 2 0 v5n 1)),(8,(iv v6)),(9,(iv v7))],[(.live false true (flat dI a0)),(.live false true (flat c3 a1)),(.live true true v5c)]⟩
def dD (a0:bT)(a1:List Int)(a2:Int):List Int×Int×Int->(List Int×Int×Int)⊕((List Int×Int)⊕(List Int))
 | (v5,v6,v7) =>
  (bif (decide ((v7:Int) > 0)) then
   (bif (decide (((gN (a0.getD (tN (v5.getD (tN v7) dF)) dF) a2):Int) < (gN (a0.getD (tN (v5.getD (tN (W (v7 - 1))) dF)) dF) a2))) then
    (.inl (((v5.set (tN v7) (v5.getD (tN (W (v7 - 1))) dF)).set (tN (W (v7 - 1))) (v5.getD (tN v7) dF)),v6,(W (v7 - 1))))
   else
    (bif (((gN (a0.getD (tN (v5.getD (tN v7) dF)) dF) a2):Int) == (gN (a0.getD (tN (v5.getD (tN (W (v7 - 1))) dF)) dF) a2)) then
     (bif (decide (((v5.getD (tN v7) dF):Int) < (v5.getD (tN (W (v7 - 1))) dF))) then
      (.inl (((v5.set (tN v7) (v5.getD (tN (W (v7 - 1))) dF)).set (tN (W (v7 - 1))) (v5.getD (tN v7) dF)),v6,(W (v7 - 1))))
     else
      (.inr (.inl (v5,(v6+1)))))
    else
     (.inr (.inl (v5,(v6+1))))))
  else
   (.inr (.inl (v5,(v6+1)))))
noncomputable def kU:Code:=(aN [1,1,0,1] [] (aL Tryz.f103) []).1
noncomputable def kV:List K:=(aN [1,1,0,1] [] (aL Tryz.f103) []).2
def jR (a0:bT)(a1:List Int)(a2:Int)(v3c:List SV)(v3n:Nat)(v4:Int):LS:=⟨gO 99 [(0,(.s 0 0 a0.length 10)),(2,(iv a2)),(7,(.s 2 0 v3n 1)),(8,(iv v4))],[(.live false true (flat dI a0)),(.live false true (flat c3 a1)),(.live true true v3c)]⟩
def eD (a0:bT)(a1:List Int)(a2:Int):List Int×Int->(List Int×Int)⊕(List Int)
 | (v3,v4) =>
  (bif (decide ((v4:Int) < (v3.length:Int))) then
   (aH (dD a0 a1 a2) (tN v4+1) (v3,v4,v4))
  else
   (.inr v3))
theorem aI1 (a0:bT)(a1:List Int)(a2:Int)(l0:a0.length<=2^63-1)(l1:a1.length<=2^63-1)(hir:InR a0.length a1)(hl:a1.length<=1048576) {cx:Cx} (hcx:cx.base=2)
 (n0:Nat) (g0:∀(v3:List Int) (v4:Int),(0<=v4)/\(v3.length=a1.length)/\(InR a0.length v3)/\(1<=v4)->tN ((v3.length:Int) - v4) < n0->Aw.Good Tryz.prog none 9 (bodyPost Tryz.prog Tryz.f103 (RR cx (.s 2 0 (aH (eD a0 a1 a2) n0 (v3,v4)).length 1) [(.live true true (flat c3 (aH (eD a0 a1 a2) n0 (v3,v4))))] [])) cx [] (.l kU n0::kV) (jR a0 a1 a2 (flat c3 v3) v3.length v4)):∀(n:Nat) (v5:List Int) (v6 v7:Int),(v5.length=a1.length)/\(InR a0.length v5)/\(0<=v7)/\(v7<=v6)/\(1<=v6)/\(v6 < a1.length)/\((0<=v6))/\((v5.length=a1.length))/\((InR a0.length v5))/\((1<=v6))/\(v6 < (v5.length:Int))/\(tN ((v5.length:Int) - v6) < n0+1)->tN v7 < n->Aw.Good Tryz.prog none 9 (bodyPost Tryz.prog Tryz.f103 (RR cx (.s 2 0 (aZ (eD a0 a1 a2) n0 (aH (dD a0 a1 a2) n (v5,v6,v7))).length 1) [(.live true true (flat c3 (aZ (eD a0 a1 a2) n0 (aH (dD a0 a1 a2) n (v5,v6,v7)))))] [])) cx [] (.l qK n::qL n0) (nO a0 a1 a2 (flat c3 v5) v5.length v6 v7):=by
 intro n
 induction n with
 | zero=>intro v5 v6 v7 hi hn;exact absurd hn (eL _)
 | succ n ih =>
  intro v5 v6 v7 hi hn
  refine aS ?_
  cases h0:(decide ((v7:Int) > 0)) with
  | true =>
   have q0:=cN h0
   try have hw_k:=(fun _=>aR (n:=v7 - 1) (by omega) (by omega)) h0
   try have hr1:=hi.2.1.at (i:=tN v7) (by have _:=h0;omega)
   try have hr2:=hi.2.1.at (i:=tN (W (v7 - 1))) (by have _:=h0;omega)
   let t1:List (St Tryz.prog):=[.d h0,.i v7 (v5.length),.L aF v5 v7 0 1,.i (v5.getD (tN v7) dF) (a0.length),.L eM a0 (v5.getD (tN v7) dF) 0 10,.c [] (aGz (a0.getD (tN (v5.getD (tN v7) dF)) dF) a2),.i (W (v7 - 1)) (v5.length),.L aF v5 (W (v7 - 1)) 0 1,.i (v5.getD (tN (W (v7 - 1))) dF) (a0.length),.L eM a0 (v5.getD (tN (W (v7 - 1))) dF) 0 10,.c [] (aGz (a0.getD (tN (v5.getD (tN (W (v7 - 1))) dF)) dF) a2)]
   cases h1:(decide (((gN (a0.getD (tN (v5.getD (tN v7) dF)) dF) a2):Int) < (gN (a0.getD (tN (v5.getD (tN (W (v7 - 1))) dF)) dF) a2))) with
   | true =>
    have q1:=cN h1
    try have hw_k:=(fun _=>aR (n:=v7 - 1) (by omega) (by omega)) h0
    try have hr1:=hi.2.1.at (i:=tN v7) (by have _:=h0;omega)
    try have hr2:=hi.2.1.at (i:=tN (W (v7 - 1))) (by have _:=h0;omega)
    have e:=Eq.refl (dD a0 a1 a2 (v5,v6,v7));conv at e=>rhs;simp only [dD,h0,h1,aW]
    rw [aI e]
    refine ba (t1++[.d h1,.i v7 (v5.length),.L aF v5 v7 0 1,.i (W (v7 - 1)) (v5.length),.L aF v5 (W (v7 - 1)) 0 1,.i v7 (v5.length),.p (show((0+tN v7*1)+1<=(flat c3 v5).length) from(dS aF (by first | omega | (simp only [Lt];omega)) (o:=0) (Nb rfl))),.i (W (v7 - 1)) (v5.length),.p (show((0+tN (W (v7 - 1))*1)+1<=(splice (flat c3 v5) (0+tN v7*1) [(iv (v5.getD (tN (W (v7 - 1))) dF))]).length) from(by rw [show(splice (flat c3 v5) (0+tN v7*1) [(iv (v5.getD (tN (W (v7 - 1))) dF))])=flat c3 (v5.set (tN v7) (v5.getD (tN (W (v7 - 1))) dF)) from(bB aF (by first | omega | (simp only [Lt];omega)) (o:=0) (d:=dF) (Nb rfl) rfl)];exact dS aF (by first | omega | (simp only [Lt];omega)) (o:=0) (Nb rfl)))]) [] [0,2,7,8,9] [2] hcx (m:=n) qK (qL n0) (nO a0 a1 a2 (splice (splice (flat c3 v5) (0+tN v7*1) [(iv (v5.getD (tN (W (v7 - 1))) dF))]) (0+tN (W (v7 - 1))*1) [(iv (v5.getD (tN v7) dF))]) (v5.length) v6 (W (v7 - 1))) (by kernel_rfl) ?_
    have z0:(splice (splice (flat c3 v5) (0+tN v7*1) [(iv (v5.getD (tN (W (v7 - 1))) dF))]) (0+tN (W (v7 - 1))*1) [(iv (v5.getD (tN v7) dF))])=flat c3 ((v5.set (tN v7) (v5.getD (tN (W (v7 - 1))) dF)).set (tN (W (v7 - 1))) (v5.getD (tN v7) dF)):=(by rw [show(splice (flat c3 v5) (0+tN v7*1) [(iv (v5.getD (tN (W (v7 - 1))) dF))])=flat c3 (v5.set (tN v7) (v5.getD (tN (W (v7 - 1))) dF)) from(bB aF (by first | omega | (simp only [Lt];omega)) (o:=0) (d:=dF) (Nb rfl) rfl)];exact bB aF (by first | omega | (simp only [Lt];omega)) (o:=0) (d:=dF) (Nb rfl) rfl)
    have z1:v5.length=((v5.set (tN v7) (v5.getD (tN (W (v7 - 1))) dF)).set (tN (W (v7 - 1))) (v5.getD (tN v7) dF)).length:=by simp
    rw [z0,z1]
    exact ih ((v5.set (tN v7) (v5.getD (tN (W (v7 - 1))) dF)).set (tN (W (v7 - 1))) (v5.getD (tN v7) dF)) v6 (W (v7 - 1)) (by and_intros<;>(try simp only [Lt])<;>first | omega | assumption | exact hi.2.1 | exact hi.2.2.1 | exact InR.swap hi.2.1 (by omega) (by omega) | exact InR.swap hr (by omega) (by omega)) (by omega)
   | false =>
    have q1:=cY h1
    try have hw_k:=(fun _=>aR (n:=v7 - 1) (by omega) (by omega)) h0
    try have hr1:=hi.2.1.at (i:=tN v7) (by have _:=h0;omega)
    try have hr2:=hi.2.1.at (i:=tN (W (v7 - 1))) (by have _:=h0;omega)
    let t2:List (St Tryz.prog):=(t1++[.d h1,.i v7 (v5.length),.L aF v5 v7 0 1,.i (v5.getD (tN v7) dF) (a0.length),.L eM a0 (v5.getD (tN v7) dF) 0 10,.c [] (aGz (a0.getD (tN (v5.getD (tN v7) dF)) dF) a2),.i (W (v7 - 1)) (v5.length),.L aF v5 (W (v7 - 1)) 0 1,.i (v5.getD (tN (W (v7 - 1))) dF) (a0.length),.L eM a0 (v5.getD (tN (W (v7 - 1))) dF) 0 10,.c [] (aGz (a0.getD (tN (v5.getD (tN (W (v7 - 1))) dF)) dF) a2)])
    cases h2:(((gN (a0.getD (tN (v5.getD (tN v7) dF)) dF) a2):Int) == (gN (a0.getD (tN (v5.getD (tN (W (v7 - 1))) dF)) dF) a2)) with
    | true =>
     have q2:=eq_of_beq h2
     try have hw_k:=(fun _=>aR (n:=v7 - 1) (by omega) (by omega)) h0
     try have hr1:=hi.2.1.at (i:=tN v7) (by have _:=h0;omega)
     try have hr2:=hi.2.1.at (i:=tN (W (v7 - 1))) (by have _:=h0;omega)
     let t3:List (St Tryz.prog):=(t2++[.d h2,.i v7 (v5.length),.L aF v5 v7 0 1,.i (W (v7 - 1)) (v5.length),.L aF v5 (W (v7 - 1)) 0 1])
     cases h3:(decide (((v5.getD (tN v7) dF):Int) < (v5.getD (tN (W (v7 - 1))) dF))) with
     | true =>
      have q3:=cN h3
      try have hw_k:=(fun _=>aR (n:=v7 - 1) (by omega) (by omega)) h0
      try have hr1:=hi.2.1.at (i:=tN v7) (by have _:=h0;omega)
      try have hr2:=hi.2.1.at (i:=tN (W (v7 - 1))) (by have _:=h0;omega)
      have e:=Eq.refl (dD a0 a1 a2 (v5,v6,v7));conv at e=>rhs;simp only [dD,h0,h1,h2,h3,aW]
      rw [aI e]
      refine ba (t3++[.d h3,.i v7 (v5.length),.L aF v5 v7 0 1,.i (W (v7 - 1)) (v5.length),.L aF v5 (W (v7 - 1)) 0 1,.i v7 (v5.length),.p (show((0+tN v7*1)+1<=(flat c3 v5).length) from(dS aF (by first | omega | (simp only [Lt];omega)) (o:=0) (Nb rfl))),.i (W (v7 - 1)) (v5.length),.p (show((0+tN (W (v7 - 1))*1)+1<=(splice (flat c3 v5) (0+tN v7*1) [(iv (v5.getD (tN (W (v7 - 1))) dF))]).length) from(by rw [show(splice (flat c3 v5) (0+tN v7*1) [(iv (v5.getD (tN (W (v7 - 1))) dF))])=flat c3 (v5.set (tN v7) (v5.getD (tN (W (v7 - 1))) dF)) from(bB aF (by first | omega | (simp only [Lt];omega)) (o:=0) (d:=dF) (Nb rfl) rfl)];exact dS aF (by first | omega | (simp only [Lt];omega)) (o:=0) (Nb rfl)))]) [] [0,2,7,8,9] [2] hcx (m:=n) qK (qL n0) (nO a0 a1 a2 (splice (splice (flat c3 v5) (0+tN v7*1) [(iv (v5.getD (tN (W (v7 - 1))) dF))]) (0+tN (W (v7 - 1))*1) [(iv (v5.getD (tN v7) dF))]) (v5.length) v6 (W (v7 - 1))) (by kernel_rfl) ?_
      have z0:(splice (splice (flat c3 v5) (0+tN v7*1) [(iv (v5.getD (tN (W (v7 - 1))) dF))]) (0+tN (W (v7 - 1))*1) [(iv (v5.getD (tN v7) dF))])=flat c3 ((v5.set (tN v7) (v5.getD (tN (W (v7 - 1))) dF)).set (tN (W (v7 - 1))) (v5.getD (tN v7) dF)):=(by rw [show(splice (flat c3 v5) (0+tN v7*1) [(iv (v5.getD (tN (W (v7 - 1))) dF))])=flat c3 (v5.set (tN v7) (v5.getD (tN (W (v7 - 1))) dF)) from(bB aF (by first | omega | (simp only [Lt];omega)) (o:=0) (d:=dF) (Nb rfl) rfl)];exact bB aF (by first | omega | (simp only [Lt];omega)) (o:=0) (d:=dF) (Nb rfl) rfl)
      have z1:v5.length=((v5.set (tN v7) (v5.getD (tN (W (v7 - 1))) dF)).set (tN (W (v7 - 1))) (v5.getD (tN v7) dF)).length:=by simp
      rw [z0,z1]
      exact ih ((v5.set (tN v7) (v5.getD (tN (W (v7 - 1))) dF)).set (tN (W (v7 - 1))) (v5.getD (tN v7) dF)) v6 (W (v7 - 1)) (by and_intros<;>(try simp only [Lt])<;>first | omega | assumption | exact hi.2.1 | exact hi.2.2.1 | exact InR.swap hi.2.1 (by omega) (by omega) | exact InR.swap hr (by omega) (by omega)) (by omega)
     | false =>
      have q3:=cY h3
      try have hw_k:=(fun _=>aR (n:=v7 - 1) (by omega) (by omega)) h0
      try have hr1:=hi.2.1.at (i:=tN v7) (by have _:=h0;omega)
      try have hr2:=hi.2.1.at (i:=tN (W (v7 - 1))) (by have _:=h0;omega)
      have e:=Eq.refl (dD a0 a1 a2 (v5,v6,v7));conv at e=>rhs;simp only [dD,h0,h1,h2,h3,aW]
      rw [aK,e]
      refine ba (t3++[.d h3]) [] [0,2,7,8] [2] hcx (m:=n0) kU (kV) (jR a0 a1 a2 (flat c3 v5) (v5.length) (W (v6+1))) (by kernel_rfl) ?_
      have z0:(W (v6+1))=(v6+1):=aR (by omega) (by omega)
      rw [z0]
      exact g0 v5 (v6+1) (by and_intros<;>(try simp only [Lt])<;>first | omega | assumption | exact hi.2.1 | exact hi.2.2.1 | exact InR.swap hi.2.1 (by omega) (by omega) | exact InR.swap hr (by omega) (by omega)) (by omega)
    | false =>
     have q2:=ne_of_beq_false h2
     try have hw_k:=(fun _=>aR (n:=v7 - 1) (by omega) (by omega)) h0
     try have hr1:=hi.2.1.at (i:=tN v7) (by have _:=h0;omega)
     try have hr2:=hi.2.1.at (i:=tN (W (v7 - 1))) (by have _:=h0;omega)
     have e:=Eq.refl (dD a0 a1 a2 (v5,v6,v7));conv at e=>rhs;simp only [dD,h0,h1,h2,aW]
     rw [aK,e]
     refine ba (t2++[.d h2]) [] [0,2,7,8] [2] hcx (m:=n0) kU (kV) (jR a0 a1 a2 (flat c3 v5) (v5.length) (W (v6+1))) (by kernel_rfl) ?_
     have z0:(W (v6+1))=(v6+1):=aR (by omega) (by omega)
     rw [z0]
     exact g0 v5 (v6+1) (by and_intros<;>(try simp only [Lt])<;>first | omega | assumption | exact hi.2.1 | exact hi.2.2.1 | exact InR.swap hi.2.1 (by omega) (by omega) | exact InR.swap hr (by omega) (by omega)) (by omega)
  | false =>
   have q0:=cY h0
   try have hw_k:=(fun _=>aR (n:=v7 - 1) (by omega) (by omega)) h0
   try have hr1:=hi.2.1.at (i:=tN v7) (by have _:=h0;omega)
   try have hr2:=hi.2.1.at (i:=tN (W (v7 - 1))) (by have _:=h0;omega)
   have e:=Eq.refl (dD a0 a1 a2 (v5,v6,v7));conv at e=>rhs;simp only [dD,h0,aW]
   rw [aK,e]
   refine ba [.d h0] [] [0,2,7,8] [2] hcx (m:=n0) kU (kV) (jR a0 a1 a2 (flat c3 v5) (v5.length) (W (v6+1))) (by kernel_rfl) ?_
   have z0:(W (v6+1))=(v6+1):=aR (by omega) (by omega)
   rw [z0]
   exact g0 v5 (v6+1) (by and_intros<;>(try simp only [Lt])<;>first | omega | assumption | exact hi.2.1 | exact hi.2.2.1 | exact InR.swap hi.2.1 (by omega) (by omega) | exact InR.swap hr (by omega) (by omega)) (by omega)
theorem aI2 (a0:bT)(a1:List Int)(a2:Int)(l0:a0.length<=2^63-1)(l1:a1.length<=2^63-1)(hir:InR a0.length a1)(hl:a1.length<=1048576) {cx:Cx} (hcx:cx.base=2):∀(n:Nat) (v3:List Int) (v4:Int),(0<=v4)/\(v3.length=a1.length)/\(InR a0.length v3)/\(1<=v4)->tN ((v3.length:Int) - v4) < n->Aw.Good Tryz.prog none 9 (bodyPost Tryz.prog Tryz.f103 (RR cx (.s 2 0 (aH (eD a0 a1 a2) n (v3,v4)).length 1) [(.live true true (flat c3 (aH (eD a0 a1 a2) n (v3,v4))))] [])) cx [] (.l kU n::kV) (jR a0 a1 a2 (flat c3 v3) v3.length v4):=by
 intro n
 induction n with
 | zero=>intro v3 v4 hi hn;exact absurd hn (eL _)
 | succ n ih =>
  intro v3 v4 hi hn
  refine aS ?_
  cases h0:(decide ((v4:Int) < (v3.length:Int))) with
  | true =>
   have q0:=cN h0
   have e:=Eq.refl (eD a0 a1 a2 (v3,v4));conv at e=>rhs;simp only [eD,h0,aW]
   rw [aK,e]
   refine en [.d h0] [] [0,2,7,8,9] [2] hcx qK (qL n) (nO a0 a1 a2 (flat c3 v3) (v3.length) v4 v4) (tN v4+1) (by kernel_rfl) ?_
   exact aI1 a0 a1 a2 l0 l1 hir hl hcx n ih (tN v4+1) v3 v4 v4 (by and_intros<;>(try simp only [Lt])<;>first | omega | assumption | exact hi.2.1 | exact hi.2.2.1 | exact InR.swap hi.2.1 (by omega) (by omega) | exact InR.swap hr (by omega) (by omega)) (by omega)
  | false =>
   have q0:=cY h0
   have e:=Eq.refl (eD a0 a1 a2 (v3,v4));conv at e=>rhs;simp only [eD,h0,aW]
   rw [aK,e]
   exact rt [.d h0] [] [2] hcx (by kernel_rfl)
def aJ (a0:bT)(a1:List Int)(a2:Int):List Int :=
 (aH (eD a0 a1 a2) (tN ((((([]:List Int)++a1).length:Nat):Int) - 1)+1) ((([]:List Int)++a1),1))
theorem aBh (a0:bT)(a1:List Int)(a2:Int)(l0:a0.length<=2^63-1)(l1:a1.length<=2^63-1)(hir:InR a0.length a1)(hl:a1.length<=1048576):Con Tryz.prog 103 [(.s 0 0 a0.length 10),(.s 1 0 a1.length 1),(iv a2)] [(.live false true (flat dI a0)),(.live false true (flat c3 a1))] (.s 2 0 (aJ a0 a1 a2).length 1) [(.live true true (flat c3 (aJ a0 a1 a2)))]:=by
 refine bA Tryz.func103 (by kernel_rfl) fun cx hcx=>?_
 have e:=Eq.refl (aJ a0 a1 a2);conv at e=>rhs;simp only [aJ]
 rw [e]
 refine en [.p (show(([]:List SV).length=0*1/\(flat c3 a1).length=a1.length*1/\(flat c3 a1).all SV.one=true/\0+a1.length<=2 ^ 40/\(0+a1.length)*8<=2 ^ 47) from by refine⟨?_,?_,?_,?_,?_⟩<;>first | omega | exact iJ (fun _=>rfl) | (simp [bW aF];done) | (simp [bW aF];omega))] [] [0,2,7,8] [3] hcx kU (kV) (jR a0 a1 a2 (([]:List SV)++(flat c3 a1)) (0+a1.length) 1) (tN ((((([]:List Int)++a1).length:Nat):Int) - 1)+1) (by kernel_rfl) ?_
 have z0:(([]:List SV)++(flat c3 a1))=flat c3 (([]:List Int)++a1):=(by simp [flat])
 have z1:(0+a1.length)=(([]:List Int)++a1).length:=by simp
 rw [z0,z1]
 exact aI2 a0 a1 a2 l0 l1 hir hl hcx (tN ((((([]:List Int)++a1).length:Nat):Int) - 1)+1) (([]:List Int)++a1) 1 (by and_intros<;>(try simp only [Lt])<;>first | omega | assumption | exact hi.2.1 | exact hi.2.2.1 | exact InR.swap hi.2.1 (by omega) (by omega) | exact InR.swap hr (by omega) (by omega)) (by omega)
abbrev TR:=List Int×bE
abbrev gU:=bT
structure PGRW (l:gU) (t:TR) (ns:List Int) (leaf:Int):Prop where
 inr:InR l.length ns
 rng:1<=ns.length/\t.1.length+ns.length<=1048576
 nds:t.2.length+2*ns.length<=4194304
 lf:1<=leaf
theorem aQ5 (l:gU)(ns:List Int):gF l ns=gR l ns:=rfl
theorem aEt (l:gU)(ns:List Int):(gF l ns).length=ns.length:=by rw [aQ5,zA]
def cOf (l:gU)(k:Int):qT:=((l,0,[],[]),k)
theorem aEu (l:gU)(k:Int)(x:Int):gN (l.getD (tN x) dF) k=kk (cOf l k) x:=by
 unfold kk cOf gN rK eF
 cases h0:(k == 0) with
 | true=>rfl
 | false =>
  cases h1:(k == 1) with
  | true=>rfl
  | false=>rfl
theorem aOv (l:gU)(k x y:Int):(decide (gN (l.getD (tN x) dF) k < gN (l.getD (tN y) dF) k) || ((gN (l.getD (tN x) dF) k == gN (l.getD (tN y) dF) k)&&decide (x < y)))=bK (cOf l k) x y:=by
 rw [aEu,aEu]
 cases h:bK (cOf l k) x y with
 | true=>rw [aEi] at h;simp;exact h
 | false=>rw [aK7] at h;simp;omega
section
open Go.Sort
variable {l : gU} {ns : List Int} {k : Int}
theorem aLb {n:Nat} (hn:n<=1048576)(hns:ns.length=n):∀(m:Nat) (d:Array Int) (j:Nat) (w:Int),d.size=n->j < n->j < m ->
 aH (dD l ns k) m (wp ns 0 d,w,(j:Int))=.inl (wp ns 0 (insInner (bK (cOf l k)) 0 j d),w+1)
 | 0,_,_,_,_,_,h=>absurd h (eL _)
 | m+1,d,0,w,hd,hj,hm=>by
  refine aQ ?_
  simp only [dD]
  rw [dA (by omega),cond_false];rfl
 | m+1,d,j+1,w,hd,hj,hm=>by
  have hl':0+d.size<=ns.length:=by omega
  have e1:W (((j+1:Nat):Int) - 1)=((j:Nat):Int):=wN (by omega) (by omega)
  have g1:=cU hl' (i:=j+1) (by omega)
  have g0:=cU hl' (i:=j) (by omega)
  have gs:=gK hl' (i:=j+1) (j:=j) (by omega) (by omega)
  rw [Nat.zero_add] at g1 g0
  rw [Nat.zero_add,Nat.zero_add] at gs
  rw [insInner,cI (show j+1 > 0 by omega),Bool.true_and]
  have e:dD l ns k (wp ns 0 d,w,((j+1:Nat):Int))=bif bK (cOf l k) d[j+1]! d[j]! then .inl (wp ns 0 (swp d (j+1) j),w,(j:Int)) else .inr (.inl (wp ns 0 d,w+1)):=by
   rw [←aOv]
   simp only [dD,e1,fT]
   rw [cI (show((j+1:Nat):Int) > 0 by omega),cond_true,gs,g1,g0]
   cases decide (gN (l.getD (tN d[j+1]!) dF) k < gN (l.getD (tN d[j]!) dF) k) with
   | true=>rfl
   | false =>
    cases (gN (l.getD (tN d[j+1]!) dF) k == gN (l.getD (tN d[j]!) dF) k) with
    | false=>rfl
    | true=>cases decide (d[j+1]! < d[j]!)<;>rfl
  cases q:bK (cOf l k) d[j+1]! d[j]! with
  | true =>
   rw [q,cond_true] at e
   rw [aI e]
   exact aLb hn hns m _ j w (by rw [Go.Sort.size_swp];exact hd) (by omega) (by omega)
  | false=>rw [q,cond_false] at e;exact aQ e
theorem aLc {n:Nat} (hn:n<=1048576)(hns:ns.length=n):∀(m:Nat) (d:Array Int) (i:Nat),d.size=n->n - i < m ->
 aH (eD l ns k) m (wp ns 0 d,(i:Int))=wp ns 0 (insOuter (bK (cOf l k)) 0 n i d)
 | 0,_,_,_,h=>absurd h (eL _)
 | m+1,d,i,hd,hm=>by
  rw [insOuter]
  have hlen:(wp ns 0 d).length=n:=by rw [aA0 (by omega),hns]
  by_cases h1:i < n
  ·rw [if_pos h1]
   have e:eD l ns k (wp ns 0 d,(i:Int))=aH (dD l ns k) (tN (i:Int)+1) (wp ns 0 d,(i:Int),(i:Int)):=by
    simp only [eD];rw [cI (by omega),cond_true]
   rw [aI (e.trans (aLb hn hns _ d i _ hd (by omega) (by omega)))]
   exact aLc hn hns m _ (i+1) (by rw [oH];exact hd) (by omega)
  ·rw [if_neg h1]
   refine aQ ?_
   simp only [eD];rw [dA (by omega),cond_false]
def qV (l:gU)(k:Int)(ns:List Int):List Int:=ns.mergeSort (fun x y=>!bK (cOf l k) y x)
theorem nP (l:gU)(k:Int)(ns:List Int):(qV l k ns).length=ns.length:=(List.mergeSort_perm ns _).length_eq
theorem aQ6 {N:Nat} (h:InR N ns):InR N (qV l k ns):=fun x hx=>h x ((List.mergeSort_perm ns _).mem_iff.1 hx)
theorem aOw {n:Nat} (h:ns.length=n) {d:Array Int} (hd:d.size=n):wp ns 0 d=d.toList:=by unfold wp;rw [Nat.zero_add,hd,←h,List.drop_length];simp
theorem aQ7 (c:qT):bK c=bK (cOf c.1.1 c.2):=rfl
theorem aG0 {c:qT} {d d':Array Int} (h1:PermIn 0 d.size d d')(h2:SortedIn (bK c) 0 d.size d'):d'.toList=qV c.1.1 c.2 d.toList:=by
 unfold qV
 rw [←aQ7]
 exact sorted_unique_holds (lt:=bK c) (mK c) (aQx c) d d' h1 h2
theorem aOx (h:ns.length<=1048576):aJ l ns k=qV l k ns:=by
 unfold aJ
 have hz:(ns.toArray).size=ns.length:=by simp
 have hw:wp ns 0 ns.toArray=ns:=by rw [aOw rfl hz]
 have h1:=insertionSort_holds (lt:=bK (cOf l k)) (mK _) ns.toArray 0 ns.length (Nat.zero_le _) (by rw [hz];exact Nat.le_refl _)
 have h0:=aLc (l:=l) (k:=k) h rfl (tN ((((([]:List Int)++ns).length:Nat):Int) - 1)+1) ns.toArray 1 hz (by rw [List.nil_append];omega)
 have e:insOuter (bK (cOf l k)) 0 ns.length 1 ns.toArray=insertionSort (bK (cOf l k)) ns.toArray 0 ns.length:=rfl
 rw [hw,e,aOw (n:=ns.length) (d:=insertionSort (bK (cOf l k)) ns.toArray 0 ns.length) rfl (by rw [h1.1.1];exact hz),aG0 (c:=cOf l k) (by rw [hz];exact h1.1) (by rw [hz];exact h1.2)] at h0
 exact h0
theorem aTu {v:List Int} {o n:Nat} {c:qT} (hw:o+n<=v.length/\v.length<=1048576) :
 iR v o n c=v.take o++qV c.1.1 c.2 ((v.drop o).take n)++v.drop (o+n):=by
 have hz:=fJ hw.1
 have hb:bitsLen n<=1048576:=Nat.le_trans ((bitsLen_le_iff n 62).2 (by omega)) (by omega)
 have h:=aOp (l:=v) hw.1 (by omega) (tN (((n:Nat):Int) - 0)+1) ((c.1.1,c.1.2.1,(v,c.1.2.2.2)),c.2) (kF v o n) 0 n (bitsLen n) hz (Nat.zero_le _) (Nat.le_refl _) hb (by omega)
 have hs:=pdq_sorts (bK ((c.1.1,c.1.2.1,(v,c.1.2.2.2)),c.2)) (mK _) (kF v o n) 0 n (bitsLen n) true true (Nat.zero_le _) (by rw [hz];exact Nat.le_refl _) (Or.inl rfl)
 rw [mV hw.1] at h
 have e:iR v o n c=aV (tN (((n:Nat):Int) - 0)+1) v o n ((0:Nat):Int) ((n:Nat):Int) ((bitsLen n:Nat):Int) ((c.1.1,c.1.2.1,(v,c.1.2.2.2)),c.2):=by
  unfold iR sF F94
  rw [show IntKind.wrap .u64 ((n:Nat):Int)=n by rw [IntKind.wrap_u64];omega,fT,bitLen_eq _ (by omega)]
  rfl
 rw [e,h.1]
 unfold wp
 rw [h.2,aG0 (c:=((c.1.1,c.1.2.1,(v,c.1.2.2.2)),c.2)) (d:=kF v o n) (by rw [hz];exact hs.1) (by rw [hz];exact hs.2)]
 rfl
end
theorem sY {n:Nat} (h:n<=1048576):W (Int.tdiv (W (((n:Nat):Int)+1)) 2)=(((n+1) / 2:Nat):Int):=by
 rw [wN (x:=((n:Nat):Int)+1) (n:=n+1) (by omega) (by omega),Int.tdiv_eq_ediv_of_nonneg (by omega)];exact wN (by omega) (by omega)
end Go.Proofs.YtkdfcbmcgnaicaaGreat
namespace Go.Proofs.YtkdfcbmcgnaicaaGreat
open Go.Proofs Go.Aw Go.RowKit
set_option maxRecDepth 100000
structure GRR (t r:TR) (ns:List Int):Prop where
 ol:r.1.length=t.1.length+ns.length
 lo:t.2.length < r.2.length
 hi:r.2.length<=t.2.length+2*ns.length - 1
section
variable {l : gU} {t : TR} {ns : List Int} {leaf : Int} {x : Int × Int × Int × Int × Zt × Int}
theorem sZ (hp:PGRW l t ns leaf)(k:Int):(aJ l ns k).length=ns.length/\InR l.length (aJ l ns k):=by
 rw [aOx (by have:=hp.rng;omega)]
 exact⟨nP _ _ _,aQ6 hp.inr⟩
theorem kH (hp:PGRW l t ns leaf)(k:Int)(h2:2<=ns.length):PGRW l (t.1,t.2++[x]) (Aw.part (aJ l ns k) 0 (W (Int.tdiv (W ((((aJ l ns k).length:Nat):Int)+1)) 2))) leaf:=by
 have hs:=sZ hp k
 have h:=hp.rng;have hn:=hp.nds
 rw [sY (by omega),hs.1]
 have hpt:=dL (l:=aJ l ns k) (a:=0) (b:=(((ns.length+1) / 2:Nat):Int)) (by omega)
 refine⟨hs.2.part _ _,⟨by rw [hpt];omega,?_⟩,?_,hp.lf⟩
 ·rw [hpt];dsimp only;omega
 ·rw [hpt];simp only [List.length_append,List.length_cons,List.length_nil];omega
theorem nQ {r:TR} (hp:PGRW l t ns leaf)(k:Int)(h2:2<=ns.length)(hr:GRR (t.1,t.2++[x]) r (Aw.part (aJ l ns k) 0 (W (Int.tdiv (W ((((aJ l ns k).length:Nat):Int)+1)) 2)))) :
 PGRW l (r.1,r.2) (Aw.part (aJ l ns k) (W (Int.tdiv (W ((((aJ l ns k).length:Nat):Int)+1)) 2)) (((aJ l ns k).length:Nat):Int)) leaf:=by
 have hs:=sZ hp k
 have h:=hp.rng;have hn:=hp.nds
 obtain⟨g1,g2,g3⟩:=hr
 rw [sY (by omega),hs.1] at g1 g3 ⊢
 have hpt1:=dL (l:=aJ l ns k) (a:=0) (b:=(((ns.length+1) / 2:Nat):Int)) (by omega)
 have hpt2:=dL (l:=aJ l ns k) (a:=(((ns.length+1) / 2:Nat):Int)) (b:=(ns.length:Int)) (by omega)
 rw [hpt1] at g1 g3
 simp only [List.length_append,List.length_cons,List.length_nil] at g1 g2 g3
 refine⟨hs.2.part _ _,⟨by rw [hpt2];omega,?_⟩,?_,hp.lf⟩
 ·rw [hpt2];dsimp only;omega
 ·rw [hpt2];dsimp only;omega
end
def fD (a0:bT)(a1:List Int×bE)(a2:List Int)(a3:Int):=(lW (gF a0 a2) ((aO a0 a2 0),(aO a0 a2 1),(aO a0 a2 2)))
def bP (rr:bT->(List Int×bE)->(List Int)->(Int)->List Int×bE)(a0:bT)(a1:List Int×bE)(a2:List Int)(a3:Int):=(rr a0 (a1.1,(a1.2++[((a1.1.length:Int),(W ((a1.1.length:Int)+(a2.length:Int))),(-1),(-1),((aO a0 a2 0),(aO a0 a2 1),(aO a0 a2 2)),(fD a0 a1 a2 a3).1)])) (Aw.part (aJ a0 a2 (aG a0 a2)) 0 (W (Int.tdiv (W ((((aJ a0 a2 (aG a0 a2)).length:Nat):Int)+1)) 2))) a3)
def aB (rr:bT->(List Int×bE)->(List Int)->(Int)->List Int×bE)(a0:bT)(a1:List Int×bE)(a2:List Int)(a3:Int):=(rr a0 ((bP (rr) a0 a1 a2 a3).1,(bP (rr) a0 a1 a2 a3).2) (Aw.part (aJ a0 a2 (aG a0 a2)) (W (Int.tdiv (W ((((aJ a0 a2 (aG a0 a2)).length:Nat):Int)+1)) 2)) (((aJ a0 a2 (aG a0 a2)).length:Nat):Int)) a3)
def aA:Nat->bT->(List Int×bE)->(List Int)->(Int)->List Int×bE
 | 0,_,_,_,_=>dF
 | nr+1,a0,a1,a2,a3 =>
 (bif (decide (((a2.length:Int):Int)<=a3)) then
  ((a1.1++a2),(a1.2++[((a1.1.length:Int),(W ((a1.1.length:Int)+(a2.length:Int))),(-1),(-1),((aO a0 a2 0),(aO a0 a2 1),(aO a0 a2 2)),(fD a0 a1 a2 a3).1)]))
 else
  ((aB (aA nr) a0 a1 a2 a3).1,(((aB (aA nr) a0 a1 a2 a3).2.set (tN (a1.2.length:Int)) (((aB (aA nr) a0 a1 a2 a3).2.getD (tN (a1.2.length:Int)) dF).1,((aB (aA nr) a0 a1 a2 a3).2.getD (tN (a1.2.length:Int)) dF).2.1,(((a1.2.length+1):Nat):Int),((aB (aA nr) a0 a1 a2 a3).2.getD (tN (a1.2.length:Int)) dF).2.2.2.1,((aB (aA nr) a0 a1 a2 a3).2.getD (tN (a1.2.length:Int)) dF).2.2.2.2.1,((aB (aA nr) a0 a1 a2 a3).2.getD (tN (a1.2.length:Int)) dF).2.2.2.2.2)).set (tN (a1.2.length:Int)) ((((aB (aA nr) a0 a1 a2 a3).2.set (tN (a1.2.length:Int)) (((aB (aA nr) a0 a1 a2 a3).2.getD (tN (a1.2.length:Int)) dF).1,((aB (aA nr) a0 a1 a2 a3).2.getD (tN (a1.2.length:Int)) dF).2.1,(((a1.2.length+1):Nat):Int),((aB (aA nr) a0 a1 a2 a3).2.getD (tN (a1.2.length:Int)) dF).2.2.2.1,((aB (aA nr) a0 a1 a2 a3).2.getD (tN (a1.2.length:Int)) dF).2.2.2.2.1,((aB (aA nr) a0 a1 a2 a3).2.getD (tN (a1.2.length:Int)) dF).2.2.2.2.2)).getD (tN (a1.2.length:Int)) dF).1,(((aB (aA nr) a0 a1 a2 a3).2.set (tN (a1.2.length:Int)) (((aB (aA nr) a0 a1 a2 a3).2.getD (tN (a1.2.length:Int)) dF).1,((aB (aA nr) a0 a1 a2 a3).2.getD (tN (a1.2.length:Int)) dF).2.1,(((a1.2.length+1):Nat):Int),((aB (aA nr) a0 a1 a2 a3).2.getD (tN (a1.2.length:Int)) dF).2.2.2.1,((aB (aA nr) a0 a1 a2 a3).2.getD (tN (a1.2.length:Int)) dF).2.2.2.2.1,((aB (aA nr) a0 a1 a2 a3).2.getD (tN (a1.2.length:Int)) dF).2.2.2.2.2)).getD (tN (a1.2.length:Int)) dF).2.1,(((aB (aA nr) a0 a1 a2 a3).2.set (tN (a1.2.length:Int)) (((aB (aA nr) a0 a1 a2 a3).2.getD (tN (a1.2.length:Int)) dF).1,((aB (aA nr) a0 a1 a2 a3).2.getD (tN (a1.2.length:Int)) dF).2.1,(((a1.2.length+1):Nat):Int),((aB (aA nr) a0 a1 a2 a3).2.getD (tN (a1.2.length:Int)) dF).2.2.2.1,((aB (aA nr) a0 a1 a2 a3).2.getD (tN (a1.2.length:Int)) dF).2.2.2.2.1,((aB (aA nr) a0 a1 a2 a3).2.getD (tN (a1.2.length:Int)) dF).2.2.2.2.2)).getD (tN (a1.2.length:Int)) dF).2.2.1,(((bP (aA nr) a0 a1 a2 a3).2.length:Nat):Int),(((aB (aA nr) a0 a1 a2 a3).2.set (tN (a1.2.length:Int)) (((aB (aA nr) a0 a1 a2 a3).2.getD (tN (a1.2.length:Int)) dF).1,((aB (aA nr) a0 a1 a2 a3).2.getD (tN (a1.2.length:Int)) dF).2.1,(((a1.2.length+1):Nat):Int),((aB (aA nr) a0 a1 a2 a3).2.getD (tN (a1.2.length:Int)) dF).2.2.2.1,((aB (aA nr) a0 a1 a2 a3).2.getD (tN (a1.2.length:Int)) dF).2.2.2.2.1,((aB (aA nr) a0 a1 a2 a3).2.getD (tN (a1.2.length:Int)) dF).2.2.2.2.2)).getD (tN (a1.2.length:Int)) dF).2.2.2.2.1,(((aB (aA nr) a0 a1 a2 a3).2.set (tN (a1.2.length:Int)) (((aB (aA nr) a0 a1 a2 a3).2.getD (tN (a1.2.length:Int)) dF).1,((aB (aA nr) a0 a1 a2 a3).2.getD (tN (a1.2.length:Int)) dF).2.1,(((a1.2.length+1):Nat):Int),((aB (aA nr) a0 a1 a2 a3).2.getD (tN (a1.2.length:Int)) dF).2.2.2.1,((aB (aA nr) a0 a1 a2 a3).2.getD (tN (a1.2.length:Int)) dF).2.2.2.2.1,((aB (aA nr) a0 a1 a2 a3).2.getD (tN (a1.2.length:Int)) dF).2.2.2.2.2)).getD (tN (a1.2.length:Int)) dF).2.2.2.2.2))))
def fG (a0:bT)(a1:List Int×bE)(a2:List Int)(a3:Int):List Int×bE:=aA (a2.length+1) a0 a1 a2 a3
theorem kI:∀(nr:Nat) (l:gU) (t:TR) (ns:List Int) (leaf:Int),PGRW l t ns leaf->ns.length < nr->GRR t (aA nr l t ns leaf) ns
 | 0,_,_,_,_,_,h=>absurd h (eL _)
 | nr+1,l,t,ns,leaf,hp,hn=>by
  have h:=hp.rng;have hl:=hp.lf
  simp only [aA]
  by_cases h0:(ns.length:Int)<=leaf
  ·rw [cI h0,cond_true]
   exact⟨by simp,by simp,by simp;omega⟩
  ·rw [dA h0,cond_false]
   have h2:2<=ns.length:=by omega
   have hs:=sZ hp (aG l ns)
   have hf:=sY (n:=ns.length) (by omega)
   have hpt1:=dL (l:=aJ l ns (aG l ns)) (a:=0) (b:=(((ns.length+1) / 2:Nat):Int)) (by omega)
   have hpt2:=dL (l:=aJ l ns (aG l ns)) (a:=(((ns.length+1) / 2:Nat):Int)) (b:=(ns.length:Int)) (by omega)
   have h5:GRR _ (bP (aA nr) l t ns leaf) _:=kI nr _ _ _ _ (kH hp _ h2) (by rw [hs.1,hf,hpt1];omega)
   have h6:GRR _ (aB (aA nr) l t ns leaf) _:=kI nr _ _ _ _ (nQ hp _ h2 h5) (by rw [hs.1,hf,hpt2];omega)
   obtain⟨g1,g2,g3⟩:=h5
   obtain⟨f1,f2,f3⟩:=h6
   rw [hs.1,hf,hpt1] at g1 g3
   rw [hs.1,hf,hpt2] at f1 f3
   dsimp only at g1 g2 g3 f1 f2 f3
   simp only [List.length_append,List.length_cons,List.length_nil] at g1 g2 g3
   exact⟨by dsimp only;omega,by simp only [List.length_set];omega,by simp only [List.length_set];omega⟩
theorem aEv:∀(nr:Nat) (a0:bT) (a1:List Int×bE) (a2:List Int) (a3:Int) (l0:a0.length<=2^63-1) (l1_1:a1.1.length<=2^63-1) (l1_2:a1.2.length<=2^63-1) (l2:a2.length<=2^63-1) (hp:PGRW a0 a1 a2 a3),a2.length < nr->Con Tryz.prog 81 [(.s 0 0 a0.length 10),(.a [(.s 1 0 a1.1.length 1),(.s 2 0 a1.2.length 8)]),(.s 3 0 a2.length 1),(iv a3)] [(.live false true (flat dI a0)),(.live true true (flat c3 a1.1)),(.live true true (flat bZ a1.2)),(.live false true (flat c3 a2))] (.a [(.s 4 0 (aA nr a0 a1 a2 a3).1.length 1),(.s 5 0 (aA nr a0 a1 a2 a3).2.length 8)]) [(.live true true (flat c3 (aA nr a0 a1 a2 a3).1)),(.live true true (flat bZ (aA nr a0 a1 a2 a3).2))] [.un,.dead,.dead,.un]:=by
 intro nr
 induction nr with
 | zero=>intro a0 a1 a2 a3 l0 l1_1 l1_2 l2 hp hlt;exact absurd hlt (eL _)
 | succ nr ihr =>
 intro a0 a1 a2 a3 l0 l1_1 l1_2 l2 hp hlt
 refine bA Tryz.func81 (by kernel_rfl) fun cx hcx=>?_
 have hpr:=hp.rng
 have hpn:=hp.nds
 try dsimp only at hpr hpn
 try simp only [List.length_nil,Nat.zero_add] at hpr hpn
 have hpl:=hp.lf
 have hpk:=aEt a0 a2
 have hso:=sZ hp (aG a0 a2)
 obtain⟨hso1,hso2⟩:=hso
 have hhf:(W (Int.tdiv (W ((((aJ a0 a2 (aG a0 a2)).length:Nat):Int)+1)) 2))=(((a2.length+1) / 2:Nat):Int):=by rw [hso1];exact sY (by omega)
 have hpt1:(Aw.part (aJ a0 a2 (aG a0 a2)) 0 (W (Int.tdiv (W ((((aJ a0 a2 (aG a0 a2)).length:Nat):Int)+1)) 2))).length=(a2.length+1) / 2:=by rw [dL (by omega)];omega
 have hpt2:(Aw.part (aJ a0 a2 (aG a0 a2)) (W (Int.tdiv (W ((((aJ a0 a2 (aG a0 a2)).length:Nat):Int)+1)) 2)) (((aJ a0 a2 (aG a0 a2)).length:Nat):Int)).length=a2.length - (a2.length+1) / 2:=by rw [dL (by omega)];omega
 try (have _:=h0;simp only [List.length_append,List.length_cons,List.length_nil] at g1 g2 g3 f1 f2 f3)
 let t0:List (St Tryz.prog):=[.c [0,3] (kG a0 a2 0 (by omega) (by omega) hp.inr (by omega)),.c [0,3] (kG a0 a2 1 (by omega) (by omega) hp.inr (by omega)),.c [0,3] (kG a0 a2 2 (by omega) (by omega) hp.inr (by omega)),.c [0,3] (aBd a0 a2 (by omega) (by omega) hp.inr (by omega)),.c [7] (aI0 (gF a0 a2) ((aO a0 a2 0),(aO a0 a2 1),(aO a0 a2 2)) (by omega)),.p (show((flat bZ a1.2).length=a1.2.length*8/\a1.2.length+1<=2 ^ 40/\(a1.2.length+1)*64<=2 ^ 47) from nX bU (by omega) (by omega))]
 cases h0:(decide (((a2.length:Int):Int)<=a3)) with
 | true =>
  have q0:=cN h0
  try (have _:=h0;simp only [List.length_append,List.length_cons,List.length_nil] at g1 g2 g3 f1 f2 f3)
  have e:=Eq.refl (aA (nr+1) a0 a1 a2 a3);conv at e=>rhs;simp only [aA,h0,aW]
  rw [e]
  try dsimp only [aZ]
  try dsimp only
  rw [show flat c3 (a1.1++a2)=((flat c3 a1.1)++(flat c3 a2)) from Eq.symm (by simp [flat])]
  try rw [show List.length (α:=Int) (a1.1++a2)=(a1.1.length+a2.length) from by first | simp;done | omega]
  rw [show flat bZ (a1.2++[((a1.1.length:Int),(W ((a1.1.length:Int)+(a2.length:Int))),(-1),(-1),((aO a0 a2 0),(aO a0 a2 1),(aO a0 a2 2)),(fD a0 a1 a2 a3).1)])=(flat bZ a1.2++[(iv (a1.1.length:Int)),(iv (W ((a1.1.length:Int)+(a2.length:Int)))),(iv (-1)),(iv (-1)),(iv (aO a0 a2 0)),(iv (aO a0 a2 1)),(iv (aO a0 a2 2)),(iv (fD a0 a1 a2 a3).1)]) from dP]
  try rw [show List.length (α:=Int×Int×Int×Int×Zt×Int) (a1.2++[((a1.1.length:Int),(W ((a1.1.length:Int)+(a2.length:Int))),(-1),(-1),((aO a0 a2 0),(aO a0 a2 1),(aO a0 a2 2)),(fD a0 a1 a2 a3).1)])=(a1.2.length+1) from by first | simp;done | omega]
  exact wG (t0++[.d h0,.p (show((flat c3 a1.1).length=a1.1.length*1/\(flat c3 a2).length=a2.length*1/\(flat c3 a2).all SV.one=true/\a1.1.length+a2.length<=2 ^ 40/\(a1.1.length+a2.length)*8<=2 ^ 47) from by refine⟨?_,?_,?_,?_,?_⟩<;>first | omega | exact iJ (fun _=>rfl) | (simp [bW aF];done) | (simp [bW aF];omega))]) [] [1,2] [10,9] hcx (by kernel_rfl)
 | false =>
  have q0:=cY h0
  try have h2:2<=a2.length:=(fun _=>by omega) h0
  try have h5:GRR _ (bP (aA nr) a0 a1 a2 a3) _:=(fun _=>kI nr _ _ _ _ (kH hp _ h2) (by omega)) h0
  try have h6:GRR _ (aB (aA nr) a0 a1 a2 a3) _:=(fun _=>kI nr _ _ _ _ (nQ hp _ h2 h5) (by omega)) h0
  try have g1:=(fun _=>h5.ol) h0
  try have g2:=(fun _=>h5.lo) h0
  try have g3:=(fun _=>h5.hi) h0
  try have f1:=(fun _=>h6.ol) h0
  try have f2:=(fun _=>h6.lo) h0
  try have f3:=(fun _=>h6.hi) h0
  try (have _:=h0;simp only [List.length_append,List.length_cons,List.length_nil] at g1 g2 g3 f1 f2 f3)
  have e:=Eq.refl (aA (nr+1) a0 a1 a2 a3);conv at e=>rhs;simp only [aA,h0,aW]
  rw [e]
  try dsimp only [aZ]
  try dsimp only
  rw [show flat bZ (((aB (aA nr) a0 a1 a2 a3).2.set (tN (a1.2.length:Int)) (((aB (aA nr) a0 a1 a2 a3).2.getD (tN (a1.2.length:Int)) dF).1,((aB (aA nr) a0 a1 a2 a3).2.getD (tN (a1.2.length:Int)) dF).2.1,(((a1.2.length+1):Nat):Int),((aB (aA nr) a0 a1 a2 a3).2.getD (tN (a1.2.length:Int)) dF).2.2.2.1,((aB (aA nr) a0 a1 a2 a3).2.getD (tN (a1.2.length:Int)) dF).2.2.2.2.1,((aB (aA nr) a0 a1 a2 a3).2.getD (tN (a1.2.length:Int)) dF).2.2.2.2.2)).set (tN (a1.2.length:Int)) ((((aB (aA nr) a0 a1 a2 a3).2.set (tN (a1.2.length:Int)) (((aB (aA nr) a0 a1 a2 a3).2.getD (tN (a1.2.length:Int)) dF).1,((aB (aA nr) a0 a1 a2 a3).2.getD (tN (a1.2.length:Int)) dF).2.1,(((a1.2.length+1):Nat):Int),((aB (aA nr) a0 a1 a2 a3).2.getD (tN (a1.2.length:Int)) dF).2.2.2.1,((aB (aA nr) a0 a1 a2 a3).2.getD (tN (a1.2.length:Int)) dF).2.2.2.2.1,((aB (aA nr) a0 a1 a2 a3).2.getD (tN (a1.2.length:Int)) dF).2.2.2.2.2)).getD (tN (a1.2.length:Int)) dF).1,(((aB (aA nr) a0 a1 a2 a3).2.set (tN (a1.2.length:Int)) (((aB (aA nr) a0 a1 a2 a3).2.getD (tN (a1.2.length:Int)) dF).1,((aB (aA nr) a0 a1 a2 a3).2.getD (tN (a1.2.length:Int)) dF).2.1,(((a1.2.length+1):Nat):Int),((aB (aA nr) a0 a1 a2 a3).2.getD (tN (a1.2.length:Int)) dF).2.2.2.1,((aB (aA nr) a0 a1 a2 a3).2.getD (tN (a1.2.length:Int)) dF).2.2.2.2.1,((aB (aA nr) a0 a1 a2 a3).2.getD (tN (a1.2.length:Int)) dF).2.2.2.2.2)).getD (tN (a1.2.length:Int)) dF).2.1,(((aB (aA nr) a0 a1 a2 a3).2.set (tN (a1.2.length:Int)) (((aB (aA nr) a0 a1 a2 a3).2.getD (tN (a1.2.length:Int)) dF).1,((aB (aA nr) a0 a1 a2 a3).2.getD (tN (a1.2.length:Int)) dF).2.1,(((a1.2.length+1):Nat):Int),((aB (aA nr) a0 a1 a2 a3).2.getD (tN (a1.2.length:Int)) dF).2.2.2.1,((aB (aA nr) a0 a1 a2 a3).2.getD (tN (a1.2.length:Int)) dF).2.2.2.2.1,((aB (aA nr) a0 a1 a2 a3).2.getD (tN (a1.2.length:Int)) dF).2.2.2.2.2)).getD (tN (a1.2.length:Int)) dF).2.2.1,(((bP (aA nr) a0 a1 a2 a3).2.length:Nat):Int),(((aB (aA nr) a0 a1 a2 a3).2.set (tN (a1.2.length:Int)) (((aB (aA nr) a0 a1 a2 a3).2.getD (tN (a1.2.length:Int)) dF).1,((aB (aA nr) a0 a1 a2 a3).2.getD (tN (a1.2.length:Int)) dF).2.1,(((a1.2.length+1):Nat):Int),((aB (aA nr) a0 a1 a2 a3).2.getD (tN (a1.2.length:Int)) dF).2.2.2.1,((aB (aA nr) a0 a1 a2 a3).2.getD (tN (a1.2.length:Int)) dF).2.2.2.2.1,((aB (aA nr) a0 a1 a2 a3).2.getD (tN (a1.2.length:Int)) dF).2.2.2.2.2)).getD (tN (a1.2.length:Int)) dF).2.2.2.2.1,(((aB (aA nr) a0 a1 a2 a3).2.set (tN (a1.2.length:Int)) (((aB (aA nr) a0 a1 a2 a3).2.getD (tN (a1.2.length:Int)) dF).1,((aB (aA nr) a0 a1 a2 a3).2.getD (tN (a1.2.length:Int)) dF).2.1,(((a1.2.length+1):Nat):Int),((aB (aA nr) a0 a1 a2 a3).2.getD (tN (a1.2.length:Int)) dF).2.2.2.1,((aB (aA nr) a0 a1 a2 a3).2.getD (tN (a1.2.length:Int)) dF).2.2.2.2.1,((aB (aA nr) a0 a1 a2 a3).2.getD (tN (a1.2.length:Int)) dF).2.2.2.2.2)).getD (tN (a1.2.length:Int)) dF).2.2.2.2.2))=(splice (splice (flat bZ (aB (aA nr) a0 a1 a2 a3).2) (0+tN (a1.2.length:Int)*8+2) [(iv (((a1.2.length+1):Nat):Int))]) (0+tN (a1.2.length:Int)*8+3) [(iv (((bP (aA nr) a0 a1 a2 a3).2.length:Nat):Int))]) from Eq.symm (by rw [show(splice (flat bZ (aB (aA nr) a0 a1 a2 a3).2) (0+tN (a1.2.length:Int)*8+2) [(iv (((a1.2.length+1):Nat):Int))])=flat bZ ((aB (aA nr) a0 a1 a2 a3).2.set (tN (a1.2.length:Int)) (((aB (aA nr) a0 a1 a2 a3).2.getD (tN (a1.2.length:Int)) dF).1,((aB (aA nr) a0 a1 a2 a3).2.getD (tN (a1.2.length:Int)) dF).2.1,(((a1.2.length+1):Nat):Int),((aB (aA nr) a0 a1 a2 a3).2.getD (tN (a1.2.length:Int)) dF).2.2.2.1,((aB (aA nr) a0 a1 a2 a3).2.getD (tN (a1.2.length:Int)) dF).2.2.2.2.1,((aB (aA nr) a0 a1 a2 a3).2.getD (tN (a1.2.length:Int)) dF).2.2.2.2.2)) from(bB bU (by first | omega | (simp only [Lt];omega)) (o:=2) (d:=dF) (Nb rfl) rfl)];exact bB bU (by first | omega | (simp only [Lt];omega)) (o:=3) (d:=dF) (Nb rfl) rfl)]
  try rw [show List.length (α:=Int×Int×Int×Int×Zt×Int) (((aB (aA nr) a0 a1 a2 a3).2.set (tN (a1.2.length:Int)) (((aB (aA nr) a0 a1 a2 a3).2.getD (tN (a1.2.length:Int)) dF).1,((aB (aA nr) a0 a1 a2 a3).2.getD (tN (a1.2.length:Int)) dF).2.1,(((a1.2.length+1):Nat):Int),((aB (aA nr) a0 a1 a2 a3).2.getD (tN (a1.2.length:Int)) dF).2.2.2.1,((aB (aA nr) a0 a1 a2 a3).2.getD (tN (a1.2.length:Int)) dF).2.2.2.2.1,((aB (aA nr) a0 a1 a2 a3).2.getD (tN (a1.2.length:Int)) dF).2.2.2.2.2)).set (tN (a1.2.length:Int)) ((((aB (aA nr) a0 a1 a2 a3).2.set (tN (a1.2.length:Int)) (((aB (aA nr) a0 a1 a2 a3).2.getD (tN (a1.2.length:Int)) dF).1,((aB (aA nr) a0 a1 a2 a3).2.getD (tN (a1.2.length:Int)) dF).2.1,(((a1.2.length+1):Nat):Int),((aB (aA nr) a0 a1 a2 a3).2.getD (tN (a1.2.length:Int)) dF).2.2.2.1,((aB (aA nr) a0 a1 a2 a3).2.getD (tN (a1.2.length:Int)) dF).2.2.2.2.1,((aB (aA nr) a0 a1 a2 a3).2.getD (tN (a1.2.length:Int)) dF).2.2.2.2.2)).getD (tN (a1.2.length:Int)) dF).1,(((aB (aA nr) a0 a1 a2 a3).2.set (tN (a1.2.length:Int)) (((aB (aA nr) a0 a1 a2 a3).2.getD (tN (a1.2.length:Int)) dF).1,((aB (aA nr) a0 a1 a2 a3).2.getD (tN (a1.2.length:Int)) dF).2.1,(((a1.2.length+1):Nat):Int),((aB (aA nr) a0 a1 a2 a3).2.getD (tN (a1.2.length:Int)) dF).2.2.2.1,((aB (aA nr) a0 a1 a2 a3).2.getD (tN (a1.2.length:Int)) dF).2.2.2.2.1,((aB (aA nr) a0 a1 a2 a3).2.getD (tN (a1.2.length:Int)) dF).2.2.2.2.2)).getD (tN (a1.2.length:Int)) dF).2.1,(((aB (aA nr) a0 a1 a2 a3).2.set (tN (a1.2.length:Int)) (((aB (aA nr) a0 a1 a2 a3).2.getD (tN (a1.2.length:Int)) dF).1,((aB (aA nr) a0 a1 a2 a3).2.getD (tN (a1.2.length:Int)) dF).2.1,(((a1.2.length+1):Nat):Int),((aB (aA nr) a0 a1 a2 a3).2.getD (tN (a1.2.length:Int)) dF).2.2.2.1,((aB (aA nr) a0 a1 a2 a3).2.getD (tN (a1.2.length:Int)) dF).2.2.2.2.1,((aB (aA nr) a0 a1 a2 a3).2.getD (tN (a1.2.length:Int)) dF).2.2.2.2.2)).getD (tN (a1.2.length:Int)) dF).2.2.1,(((bP (aA nr) a0 a1 a2 a3).2.length:Nat):Int),(((aB (aA nr) a0 a1 a2 a3).2.set (tN (a1.2.length:Int)) (((aB (aA nr) a0 a1 a2 a3).2.getD (tN (a1.2.length:Int)) dF).1,((aB (aA nr) a0 a1 a2 a3).2.getD (tN (a1.2.length:Int)) dF).2.1,(((a1.2.length+1):Nat):Int),((aB (aA nr) a0 a1 a2 a3).2.getD (tN (a1.2.length:Int)) dF).2.2.2.1,((aB (aA nr) a0 a1 a2 a3).2.getD (tN (a1.2.length:Int)) dF).2.2.2.2.1,((aB (aA nr) a0 a1 a2 a3).2.getD (tN (a1.2.length:Int)) dF).2.2.2.2.2)).getD (tN (a1.2.length:Int)) dF).2.2.2.2.1,(((aB (aA nr) a0 a1 a2 a3).2.set (tN (a1.2.length:Int)) (((aB (aA nr) a0 a1 a2 a3).2.getD (tN (a1.2.length:Int)) dF).1,((aB (aA nr) a0 a1 a2 a3).2.getD (tN (a1.2.length:Int)) dF).2.1,(((a1.2.length+1):Nat):Int),((aB (aA nr) a0 a1 a2 a3).2.getD (tN (a1.2.length:Int)) dF).2.2.2.1,((aB (aA nr) a0 a1 a2 a3).2.getD (tN (a1.2.length:Int)) dF).2.2.2.2.1,((aB (aA nr) a0 a1 a2 a3).2.getD (tN (a1.2.length:Int)) dF).2.2.2.2.2)).getD (tN (a1.2.length:Int)) dF).2.2.2.2.2))=(aB (aA nr) a0 a1 a2 a3).2.length from by first | simp;done | omega]
  exact wG (t0++[.d h0,.c [0,3] (aBe a0 a2 (by omega) (by omega) hp.inr (by omega)),.c [0,3] (aBh a0 a2 (aG a0 a2) (by omega) (by omega) hp.inr (by omega)),.p (show(2:Int)≠0 from by decide),.S aF (aJ a0 a2 (aG a0 a2)) 0 (W (Int.tdiv (W ((((aJ a0 a2 (aG a0 a2)).length:Nat):Int)+1)) 2)) ((aJ a0 a2 (aG a0 a2)).length),.c [0,1,9,11] (by have q:=(ihr a0 (a1.1,(a1.2++[((a1.1.length:Int),(W ((a1.1.length:Int)+(a2.length:Int))),(-1),(-1),((aO a0 a2 0),(aO a0 a2 1),(aO a0 a2 2)),(fD a0 a1 a2 a3).1)])) (Aw.part (aJ a0 a2 (aG a0 a2)) 0 (W (Int.tdiv (W ((((aJ a0 a2 (aG a0 a2)).length:Nat):Int)+1)) 2))) a3 (by omega) (by omega) (by(try simp only [Lt]);omega) (by omega) (by first | exact kH hp _ h2 | exact nQ hp _ h2 h5) (by omega));(try dsimp only at q);rw [show flat bZ (a1.2++[((a1.1.length:Int),(W ((a1.1.length:Int)+(a2.length:Int))),(-1),(-1),((aO a0 a2 0),(aO a0 a2 1),(aO a0 a2 2)),(fD a0 a1 a2 a3).1)])=(flat bZ a1.2++[(iv (a1.1.length:Int)),(iv (W ((a1.1.length:Int)+(a2.length:Int)))),(iv (-1)),(iv (-1)),(iv (aO a0 a2 0)),(iv (aO a0 a2 1)),(iv (aO a0 a2 2)),(iv (fD a0 a1 a2 a3).1)]) from dP] at q;(try rw [show List.length (α:=Int×Int×Int×Int×Zt×Int) (a1.2++[((a1.1.length:Int),(W ((a1.1.length:Int)+(a2.length:Int))),(-1),(-1),((aO a0 a2 0),(aO a0 a2 1),(aO a0 a2 2)),(fD a0 a1 a2 a3).1)])=(a1.2.length+1) from by first | simp;done | omega] at q);(try rw [show List.length (α:=Int) (Aw.part (aJ a0 a2 (aG a0 a2)) 0 (W (Int.tdiv (W ((((aJ a0 a2 (aG a0 a2)).length:Nat):Int)+1)) 2)))=(tN (W (Int.tdiv (W ((((aJ a0 a2 (aG a0 a2)).length:Nat):Int)+1)) 2)) - tN 0) from by first | simp;done | omega] at q);exact q),.S aF (aJ a0 a2 (aG a0 a2)) (W (Int.tdiv (W ((((aJ a0 a2 (aG a0 a2)).length:Nat):Int)+1)) 2)) (((aJ a0 a2 (aG a0 a2)).length:Nat):Int) ((aJ a0 a2 (aG a0 a2)).length),.c [0,12,13,14] (by have q:=(ihr a0 ((bP (aA nr) a0 a1 a2 a3).1,(bP (aA nr) a0 a1 a2 a3).2) (Aw.part (aJ a0 a2 (aG a0 a2)) (W (Int.tdiv (W ((((aJ a0 a2 (aG a0 a2)).length:Nat):Int)+1)) 2)) (((aJ a0 a2 (aG a0 a2)).length:Nat):Int)) a3 (by omega) (by(try simp only [Lt]);omega) (by(try simp only [Lt]);omega) (by omega) (by first | exact kH hp _ h2 | exact nQ hp _ h2 h5) (by omega));(try dsimp only at q);(try rw [show List.length (α:=Int) (Aw.part (aJ a0 a2 (aG a0 a2)) (W (Int.tdiv (W ((((aJ a0 a2 (aG a0 a2)).length:Nat):Int)+1)) 2)) (((aJ a0 a2 (aG a0 a2)).length:Nat):Int))=(tN (((aJ a0 a2 (aG a0 a2)).length:Nat):Int) - tN (W (Int.tdiv (W ((((aJ a0 a2 (aG a0 a2)).length:Nat):Int)+1)) 2))) from by first | simp;done | omega] at q);exact q),.i (a1.2.length:Int) ((aB (aA nr) a0 a1 a2 a3).2.length),.p (show((0+tN (a1.2.length:Int)*8+2)+1<=(flat bZ (aB (aA nr) a0 a1 a2 a3).2).length) from(dS bU (by first | omega | (simp only [Lt];omega)) (o:=2) (Nb rfl))),.i (a1.2.length:Int) ((aB (aA nr) a0 a1 a2 a3).2.length),.p (show((0+tN (a1.2.length:Int)*8+3)+1<=(splice (flat bZ (aB (aA nr) a0 a1 a2 a3).2) (0+tN (a1.2.length:Int)*8+2) [(iv (((a1.2.length+1):Nat):Int))]).length) from(by rw [show(splice (flat bZ (aB (aA nr) a0 a1 a2 a3).2) (0+tN (a1.2.length:Int)*8+2) [(iv (((a1.2.length+1):Nat):Int))])=flat bZ ((aB (aA nr) a0 a1 a2 a3).2.set (tN (a1.2.length:Int)) (((aB (aA nr) a0 a1 a2 a3).2.getD (tN (a1.2.length:Int)) dF).1,((aB (aA nr) a0 a1 a2 a3).2.getD (tN (a1.2.length:Int)) dF).2.1,(((a1.2.length+1):Nat):Int),((aB (aA nr) a0 a1 a2 a3).2.getD (tN (a1.2.length:Int)) dF).2.2.2.1,((aB (aA nr) a0 a1 a2 a3).2.getD (tN (a1.2.length:Int)) dF).2.2.2.2.1,((aB (aA nr) a0 a1 a2 a3).2.getD (tN (a1.2.length:Int)) dF).2.2.2.2.2)) from(bB bU (by first | omega | (simp only [Lt];omega)) (o:=2) (d:=dF) (Nb rfl) rfl)];exact dS bU (by first | omega | (simp only [Lt];omega)) (o:=3) (Nb rfl)))]) [] [1,2] [15,16] hcx (by kernel_rfl)
theorem yJ (a0:bT)(a1:List Int×bE)(a2:List Int)(a3:Int)(l0:a0.length<=2^63-1)(l1_1:a1.1.length<=2^63-1)(l1_2:a1.2.length<=2^63-1)(l2:a2.length<=2^63-1)(hp:PGRW a0 a1 a2 a3):Con Tryz.prog 81 [(.s 0 0 a0.length 10),(.a [(.s 1 0 a1.1.length 1),(.s 2 0 a1.2.length 8)]),(.s 3 0 a2.length 1),(iv a3)] [(.live false true (flat dI a0)),(.live true true (flat c3 a1.1)),(.live true true (flat bZ a1.2)),(.live false true (flat c3 a2))] (.a [(.s 4 0 (fG a0 a1 a2 a3).1.length 1),(.s 5 0 (fG a0 a1 a2 a3).2.length 8)]) [(.live true true (flat c3 (fG a0 a1 a2 a3).1)),(.live true true (flat bZ (fG a0 a1 a2 a3).2))] [.un,.dead,.dead,.un]:=aEv (a2.length+1) a0 a1 a2 a3 l0 l1_1 l1_2 l2 hp (lss _)
end Go.Proofs.YtkdfcbmcgnaicaaGreat
namespace Go.Proofs.YtkdfcbmcgnaicaaGreat
open Go.Proofs Go.Aw Go.RowKit
set_option maxRecDepth 100000
theorem rT:∀(n1 n2:Nat) (l:gU) (t:TR) (ns:List Int) (leaf:Int),PGRW l t ns leaf->ns.length < n1->ns.length < n2->aA n1 l t ns leaf=aA n2 l t ns leaf
 | 0,_,_,_,_,_,_,h,_=>absurd h (eL _)
 | _+1,0,_,_,_,_,_,_,h=>absurd h (eL _)
 | n1+1,n2+1,l,t,ns,leaf,hp,h1,h2=>by
  have h:=hp.rng;have hl:=hp.lf
  simp only [aA]
  by_cases h0:(ns.length:Int)<=leaf
  ·rw [cI h0];rfl
  ·rw [dA h0,cond_false,cond_false]
   have g2:2<=ns.length:=by omega
   have hs:=sZ hp (aG l ns)
   have hf:=sY (n:=ns.length) (by omega)
   have hpt1:=dL (l:=aJ l ns (aG l ns)) (a:=0) (b:=(((ns.length+1) / 2:Nat):Int)) (by omega)
   have hpt2:=dL (l:=aJ l ns (aG l ns)) (a:=(((ns.length+1) / 2:Nat):Int)) (b:=(ns.length:Int)) (by omega)
   have h5:GRR _ (bP (aA n1) l t ns leaf) _:=kI n1 _ _ _ _ (kH hp _ g2) (by rw [hs.1,hf,hpt1];omega)
   have e2:bP (aA n1) l t ns leaf=bP (aA n2) l t ns leaf:=rT n1 n2 _ _ _ _ (kH hp _ g2) (by rw [hs.1,hf,hpt1];omega) (by rw [hs.1,hf,hpt1];omega)
   have e3:aB (aA n1) l t ns leaf=aB (aA n2) l t ns leaf:=by
    have:=rT n1 n2 _ _ _ _ (nQ hp _ g2 h5) (by rw [hs.1,hf,hpt2];omega) (by rw [hs.1,hf,hpt2];omega)
    unfold aB
    rw [←e2]
    exact this
   rw [e3,e2]
def fE (a0:bT)(a1:List Int×bE)(a2:List Int)(a3:Int):=(lW (gF a0 a2) ((aO a0 a2 0),(aO a0 a2 1),(aO a0 a2 2)))
def eJ (rr:bT->(List Int×bE)->(List Int)->(Int)->List Int×bE)(a0:bT)(a1:List Int×bE)(a2:List Int)(a3:Int):=(rr a0 (([]:List Int),(a1.2++[(0,(W (0+(a2.length:Int))),(-1),(-1),((aO a0 a2 0),(aO a0 a2 1),(aO a0 a2 2)),(fE a0 a1 a2 a3).1)])) (Aw.part (aJ a0 a2 (aG a0 a2)) 0 (W (Int.tdiv (W ((((aJ a0 a2 (aG a0 a2)).length:Nat):Int)+1)) 2))) a3)
def aC (rr:bT->(List Int×bE)->(List Int)->(Int)->List Int×bE)(a0:bT)(a1:List Int×bE)(a2:List Int)(a3:Int):=(fG a0 ((eJ (rr) a0 a1 a2 a3).1,(eJ (rr) a0 a1 a2 a3).2) (Aw.part (aJ a0 a2 (aG a0 a2)) (W (Int.tdiv (W ((((aJ a0 a2 (aG a0 a2)).length:Nat):Int)+1)) 2)) (((aJ a0 a2 (aG a0 a2)).length:Nat):Int)) a3)
def aE:Nat->bT->(List Int×bE)->(List Int)->(Int)->List Int×bE
 | 0,_,_,_,_=>dF
 | nr+1,a0,a1,a2,a3 =>
 (bif (decide (((a2.length:Int):Int)<=a3)) then
  (a2,(a1.2++[(0,(W (0+(a2.length:Int))),(-1),(-1),((aO a0 a2 0),(aO a0 a2 1),(aO a0 a2 2)),(fE a0 a1 a2 a3).1)]))
 else
  ((aC (aE nr) a0 a1 a2 a3).1,(((aC (aE nr) a0 a1 a2 a3).2.set (tN (a1.2.length:Int)) (((aC (aE nr) a0 a1 a2 a3).2.getD (tN (a1.2.length:Int)) dF).1,((aC (aE nr) a0 a1 a2 a3).2.getD (tN (a1.2.length:Int)) dF).2.1,(((a1.2.length+1):Nat):Int),((aC (aE nr) a0 a1 a2 a3).2.getD (tN (a1.2.length:Int)) dF).2.2.2.1,((aC (aE nr) a0 a1 a2 a3).2.getD (tN (a1.2.length:Int)) dF).2.2.2.2.1,((aC (aE nr) a0 a1 a2 a3).2.getD (tN (a1.2.length:Int)) dF).2.2.2.2.2)).set (tN (a1.2.length:Int)) ((((aC (aE nr) a0 a1 a2 a3).2.set (tN (a1.2.length:Int)) (((aC (aE nr) a0 a1 a2 a3).2.getD (tN (a1.2.length:Int)) dF).1,((aC (aE nr) a0 a1 a2 a3).2.getD (tN (a1.2.length:Int)) dF).2.1,(((a1.2.length+1):Nat):Int),((aC (aE nr) a0 a1 a2 a3).2.getD (tN (a1.2.length:Int)) dF).2.2.2.1,((aC (aE nr) a0 a1 a2 a3).2.getD (tN (a1.2.length:Int)) dF).2.2.2.2.1,((aC (aE nr) a0 a1 a2 a3).2.getD (tN (a1.2.length:Int)) dF).2.2.2.2.2)).getD (tN (a1.2.length:Int)) dF).1,(((aC (aE nr) a0 a1 a2 a3).2.set (tN (a1.2.length:Int)) (((aC (aE nr) a0 a1 a2 a3).2.getD (tN (a1.2.length:Int)) dF).1,((aC (aE nr) a0 a1 a2 a3).2.getD (tN (a1.2.length:Int)) dF).2.1,(((a1.2.length+1):Nat):Int),((aC (aE nr) a0 a1 a2 a3).2.getD (tN (a1.2.length:Int)) dF).2.2.2.1,((aC (aE nr) a0 a1 a2 a3).2.getD (tN (a1.2.length:Int)) dF).2.2.2.2.1,((aC (aE nr) a0 a1 a2 a3).2.getD (tN (a1.2.length:Int)) dF).2.2.2.2.2)).getD (tN (a1.2.length:Int)) dF).2.1,(((aC (aE nr) a0 a1 a2 a3).2.set (tN (a1.2.length:Int)) (((aC (aE nr) a0 a1 a2 a3).2.getD (tN (a1.2.length:Int)) dF).1,((aC (aE nr) a0 a1 a2 a3).2.getD (tN (a1.2.length:Int)) dF).2.1,(((a1.2.length+1):Nat):Int),((aC (aE nr) a0 a1 a2 a3).2.getD (tN (a1.2.length:Int)) dF).2.2.2.1,((aC (aE nr) a0 a1 a2 a3).2.getD (tN (a1.2.length:Int)) dF).2.2.2.2.1,((aC (aE nr) a0 a1 a2 a3).2.getD (tN (a1.2.length:Int)) dF).2.2.2.2.2)).getD (tN (a1.2.length:Int)) dF).2.2.1,(((eJ (aE nr) a0 a1 a2 a3).2.length:Nat):Int),(((aC (aE nr) a0 a1 a2 a3).2.set (tN (a1.2.length:Int)) (((aC (aE nr) a0 a1 a2 a3).2.getD (tN (a1.2.length:Int)) dF).1,((aC (aE nr) a0 a1 a2 a3).2.getD (tN (a1.2.length:Int)) dF).2.1,(((a1.2.length+1):Nat):Int),((aC (aE nr) a0 a1 a2 a3).2.getD (tN (a1.2.length:Int)) dF).2.2.2.1,((aC (aE nr) a0 a1 a2 a3).2.getD (tN (a1.2.length:Int)) dF).2.2.2.2.1,((aC (aE nr) a0 a1 a2 a3).2.getD (tN (a1.2.length:Int)) dF).2.2.2.2.2)).getD (tN (a1.2.length:Int)) dF).2.2.2.2.1,(((aC (aE nr) a0 a1 a2 a3).2.set (tN (a1.2.length:Int)) (((aC (aE nr) a0 a1 a2 a3).2.getD (tN (a1.2.length:Int)) dF).1,((aC (aE nr) a0 a1 a2 a3).2.getD (tN (a1.2.length:Int)) dF).2.1,(((a1.2.length+1):Nat):Int),((aC (aE nr) a0 a1 a2 a3).2.getD (tN (a1.2.length:Int)) dF).2.2.2.1,((aC (aE nr) a0 a1 a2 a3).2.getD (tN (a1.2.length:Int)) dF).2.2.2.2.1,((aC (aE nr) a0 a1 a2 a3).2.getD (tN (a1.2.length:Int)) dF).2.2.2.2.2)).getD (tN (a1.2.length:Int)) dF).2.2.2.2.2))))
def jS (a0:bT)(a1:List Int×bE)(a2:List Int)(a3:Int):List Int×bE:=aE (a2.length+1) a0 a1 a2 a3
theorem aOy:∀(nr:Nat) (l:gU) (t:TR) (ns:List Int) (leaf:Int),PGRW l ([],t.2) ns leaf->ns.length < nr->aE nr l t ns leaf=aA nr l ([],t.2) ns leaf
 | 0,_,_,_,_,_,h=>absurd h (eL _)
 | nr+1,l,t,ns,leaf,hp,hn=>by
  have h:=hp.rng;have hl:=hp.lf
  simp only [aE,aA]
  by_cases h0:(ns.length:Int)<=leaf
  ·rw [cI h0,cond_true,cond_true]
   rfl
  ·rw [dA h0,cond_false,cond_false]
   have g2:2<=ns.length:=by omega
   have hs:=sZ hp (aG l ns)
   have hf:=sY (n:=ns.length) (by omega)
   have hpt1:=dL (l:=aJ l ns (aG l ns)) (a:=0) (b:=(((ns.length+1) / 2:Nat):Int)) (by omega)
   have hpt2:=dL (l:=aJ l ns (aG l ns)) (a:=(((ns.length+1) / 2:Nat):Int)) (b:=(ns.length:Int)) (by omega)
   have e2:eJ (aE nr) l t ns leaf=bP (aA nr) l ([],t.2) ns leaf:=aOy nr _ ([],_) _ _ (kH hp _ g2) (by rw [hs.1,hf,hpt1];omega)
   have h5:GRR _ (bP (aA nr) l ([],t.2) ns leaf) _:=kI nr _ _ _ _ (kH hp _ g2) (by rw [hs.1,hf,hpt1];omega)
   have e3:aC (aE nr) l t ns leaf=aB (aA nr) l ([],t.2) ns leaf:=by
    unfold aC aB fG
    rw [e2]
    exact rT _ _ _ _ _ _ (nQ hp _ g2 h5) (lss _) (by rw [hs.1,hf,hpt2];omega)
   rw [e3,e2]
theorem aCu (nr:Nat)(l:gU)(t:TR)(ns:List Int)(leaf:Int)(hp:PGRW l ([],t.2) ns leaf)(h:ns.length < nr):GRR ([],t.2) (aE nr l t ns leaf) ns:=by
 rw [aOy nr l t ns leaf hp h];exact kI nr _ _ _ _ hp h
theorem aEw:∀(nr:Nat) (a0:bT) (a1:List Int×bE) (a2:List Int) (a3:Int) (l0:a0.length<=2^63-1) (l1_1:a1.1.length<=2^63-1) (l1_2:a1.2.length<=2^63-1) (l2:a2.length<=2^63-1) (hp:PGRW a0 ([],a1.2) a2 a3),a2.length < nr->Con Tryz.prog 81 [(.s 0 0 a0.length 10),(.a [(.v (.slice none 0 0)),(.s 1 0 a1.2.length 8)]),(.s 2 0 a2.length 1),(iv a3)] [(.live false true (flat dI a0)),(.live true true (flat bZ a1.2)),(.live false true (flat c3 a2))] (.a [(.s 3 0 (aE nr a0 a1 a2 a3).1.length 1),(.s 4 0 (aE nr a0 a1 a2 a3).2.length 8)]) [(.live true true (flat c3 (aE nr a0 a1 a2 a3).1)),(.live true true (flat bZ (aE nr a0 a1 a2 a3).2))] [.un,.dead,.un]:=by
 intro nr
 induction nr with
 | zero=>intro a0 a1 a2 a3 l0 l1_1 l1_2 l2 hp hlt;exact absurd hlt (eL _)
 | succ nr ihr =>
 intro a0 a1 a2 a3 l0 l1_1 l1_2 l2 hp hlt
 refine bA Tryz.func81 (by kernel_rfl) fun cx hcx=>?_
 have hpr:=hp.rng
 have hpn:=hp.nds
 try dsimp only at hpr hpn
 try simp only [List.length_nil,Nat.zero_add] at hpr hpn
 have hpl:=hp.lf
 have hpk:=aEt a0 a2
 have hso:=sZ hp (aG a0 a2)
 obtain⟨hso1,hso2⟩:=hso
 have hhf:(W (Int.tdiv (W ((((aJ a0 a2 (aG a0 a2)).length:Nat):Int)+1)) 2))=(((a2.length+1) / 2:Nat):Int):=by rw [hso1];exact sY (by omega)
 have hpt1:(Aw.part (aJ a0 a2 (aG a0 a2)) 0 (W (Int.tdiv (W ((((aJ a0 a2 (aG a0 a2)).length:Nat):Int)+1)) 2))).length=(a2.length+1) / 2:=by rw [dL (by omega)];omega
 have hpt2:(Aw.part (aJ a0 a2 (aG a0 a2)) (W (Int.tdiv (W ((((aJ a0 a2 (aG a0 a2)).length:Nat):Int)+1)) 2)) (((aJ a0 a2 (aG a0 a2)).length:Nat):Int)).length=a2.length - (a2.length+1) / 2:=by rw [dL (by omega)];omega
 try (have _:=h0;simp only [List.length_append,List.length_cons,List.length_nil] at g1 g2 g3 f1 f2 f3)
 let t0:List (St Tryz.prog):=[.c [0,2] (kG a0 a2 0 (by omega) (by omega) hp.inr (by omega)),.c [0,2] (kG a0 a2 1 (by omega) (by omega) hp.inr (by omega)),.c [0,2] (kG a0 a2 2 (by omega) (by omega) hp.inr (by omega)),.c [0,2] (aBd a0 a2 (by omega) (by omega) hp.inr (by omega)),.c [6] (aI0 (gF a0 a2) ((aO a0 a2 0),(aO a0 a2 1),(aO a0 a2 2)) (by omega)),.p (show((flat bZ a1.2).length=a1.2.length*8/\a1.2.length+1<=2 ^ 40/\(a1.2.length+1)*64<=2 ^ 47) from nX bU (by omega) (by omega))]
 cases h0:(decide (((a2.length:Int):Int)<=a3)) with
 | true =>
  have q0:=cN h0
  try (have _:=h0;simp only [List.length_append,List.length_cons,List.length_nil] at g1 g2 g3 f1 f2 f3)
  have e:=Eq.refl (aE (nr+1) a0 a1 a2 a3);conv at e=>rhs;simp only [aE,h0,aW]
  rw [e]
  try dsimp only [aZ]
  try dsimp only
  rw [show flat bZ (a1.2++[(0,(W (0+(a2.length:Int))),(-1),(-1),((aO a0 a2 0),(aO a0 a2 1),(aO a0 a2 2)),(fE a0 a1 a2 a3).1)])=(flat bZ a1.2++[(iv 0),(iv (W (0+(a2.length:Int)))),(iv (-1)),(iv (-1)),(iv (aO a0 a2 0)),(iv (aO a0 a2 1)),(iv (aO a0 a2 2)),(iv (fE a0 a1 a2 a3).1)]) from dP]
  try rw [show List.length (α:=Int×Int×Int×Int×Zt×Int) (a1.2++[(0,(W (0+(a2.length:Int))),(-1),(-1),((aO a0 a2 0),(aO a0 a2 1),(aO a0 a2 2)),(fE a0 a1 a2 a3).1)])=(a1.2.length+1) from by first | simp;done | omega]
  exact wG (t0++[.d h0,.p (show((flat c3 a2).length=a2.length*1/\(flat c3 a2).all SV.one=true/\a2.length<=2 ^ 40/\a2.length*8<=2 ^ 47) from by refine⟨?_,?_,?_,?_⟩<;>first | omega | exact iJ (fun _=>rfl) | (simp [bW aF];done) | (simp [bW aF];omega))]) [] [1] [9,8] hcx (by kernel_rfl)
 | false =>
  have q0:=cY h0
  try have h2:2<=a2.length:=(fun _=>by omega) h0
  try have h5:GRR _ (eJ (aE nr) a0 a1 a2 a3) _:=(fun _=>aCu nr a0 ([],_) _ a3 (kH hp _ h2) (by omega)) h0
  try have h6:GRR _ (aC (aE nr) a0 a1 a2 a3) _:=(fun _=>kI _ _ _ _ _ (nQ hp _ h2 h5) (lss _)) h0
  try have g1:=(fun _=>h5.ol) h0
  try have g2:=(fun _=>h5.lo) h0
  try have g3:=(fun _=>h5.hi) h0
  try have f1:=(fun _=>h6.ol) h0
  try have f2:=(fun _=>h6.lo) h0
  try have f3:=(fun _=>h6.hi) h0
  try (have _:=h0;simp only [List.length_append,List.length_cons,List.length_nil] at g1 g2 g3 f1 f2 f3)
  have e:=Eq.refl (aE (nr+1) a0 a1 a2 a3);conv at e=>rhs;simp only [aE,h0,aW]
  rw [e]
  try dsimp only [aZ]
  try dsimp only
  rw [show flat bZ (((aC (aE nr) a0 a1 a2 a3).2.set (tN (a1.2.length:Int)) (((aC (aE nr) a0 a1 a2 a3).2.getD (tN (a1.2.length:Int)) dF).1,((aC (aE nr) a0 a1 a2 a3).2.getD (tN (a1.2.length:Int)) dF).2.1,(((a1.2.length+1):Nat):Int),((aC (aE nr) a0 a1 a2 a3).2.getD (tN (a1.2.length:Int)) dF).2.2.2.1,((aC (aE nr) a0 a1 a2 a3).2.getD (tN (a1.2.length:Int)) dF).2.2.2.2.1,((aC (aE nr) a0 a1 a2 a3).2.getD (tN (a1.2.length:Int)) dF).2.2.2.2.2)).set (tN (a1.2.length:Int)) ((((aC (aE nr) a0 a1 a2 a3).2.set (tN (a1.2.length:Int)) (((aC (aE nr) a0 a1 a2 a3).2.getD (tN (a1.2.length:Int)) dF).1,((aC (aE nr) a0 a1 a2 a3).2.getD (tN (a1.2.length:Int)) dF).2.1,(((a1.2.length+1):Nat):Int),((aC (aE nr) a0 a1 a2 a3).2.getD (tN (a1.2.length:Int)) dF).2.2.2.1,((aC (aE nr) a0 a1 a2 a3).2.getD (tN (a1.2.length:Int)) dF).2.2.2.2.1,((aC (aE nr) a0 a1 a2 a3).2.getD (tN (a1.2.length:Int)) dF).2.2.2.2.2)).getD (tN (a1.2.length:Int)) dF).1,(((aC (aE nr) a0 a1 a2 a3).2.set (tN (a1.2.length:Int)) (((aC (aE nr) a0 a1 a2 a3).2.getD (tN (a1.2.length:Int)) dF).1,((aC (aE nr) a0 a1 a2 a3).2.getD (tN (a1.2.length:Int)) dF).2.1,(((a1.2.length+1):Nat):Int),((aC (aE nr) a0 a1 a2 a3).2.getD (tN (a1.2.length:Int)) dF).2.2.2.1,((aC (aE nr) a0 a1 a2 a3).2.getD (tN (a1.2.length:Int)) dF).2.2.2.2.1,((aC (aE nr) a0 a1 a2 a3).2.getD (tN (a1.2.length:Int)) dF).2.2.2.2.2)).getD (tN (a1.2.length:Int)) dF).2.1,(((aC (aE nr) a0 a1 a2 a3).2.set (tN (a1.2.length:Int)) (((aC (aE nr) a0 a1 a2 a3).2.getD (tN (a1.2.length:Int)) dF).1,((aC (aE nr) a0 a1 a2 a3).2.getD (tN (a1.2.length:Int)) dF).2.1,(((a1.2.length+1):Nat):Int),((aC (aE nr) a0 a1 a2 a3).2.getD (tN (a1.2.length:Int)) dF).2.2.2.1,((aC (aE nr) a0 a1 a2 a3).2.getD (tN (a1.2.length:Int)) dF).2.2.2.2.1,((aC (aE nr) a0 a1 a2 a3).2.getD (tN (a1.2.length:Int)) dF).2.2.2.2.2)).getD (tN (a1.2.length:Int)) dF).2.2.1,(((eJ (aE nr) a0 a1 a2 a3).2.length:Nat):Int),(((aC (aE nr) a0 a1 a2 a3).2.set (tN (a1.2.length:Int)) (((aC (aE nr) a0 a1 a2 a3).2.getD (tN (a1.2.length:Int)) dF).1,((aC (aE nr) a0 a1 a2 a3).2.getD (tN (a1.2.length:Int)) dF).2.1,(((a1.2.length+1):Nat):Int),((aC (aE nr) a0 a1 a2 a3).2.getD (tN (a1.2.length:Int)) dF).2.2.2.1,((aC (aE nr) a0 a1 a2 a3).2.getD (tN (a1.2.length:Int)) dF).2.2.2.2.1,((aC (aE nr) a0 a1 a2 a3).2.getD (tN (a1.2.length:Int)) dF).2.2.2.2.2)).getD (tN (a1.2.length:Int)) dF).2.2.2.2.1,(((aC (aE nr) a0 a1 a2 a3).2.set (tN (a1.2.length:Int)) (((aC (aE nr) a0 a1 a2 a3).2.getD (tN (a1.2.length:Int)) dF).1,((aC (aE nr) a0 a1 a2 a3).2.getD (tN (a1.2.length:Int)) dF).2.1,(((a1.2.length+1):Nat):Int),((aC (aE nr) a0 a1 a2 a3).2.getD (tN (a1.2.length:Int)) dF).2.2.2.1,((aC (aE nr) a0 a1 a2 a3).2.getD (tN (a1.2.length:Int)) dF).2.2.2.2.1,((aC (aE nr) a0 a1 a2 a3).2.getD (tN (a1.2.length:Int)) dF).2.2.2.2.2)).getD (tN (a1.2.length:Int)) dF).2.2.2.2.2))=(splice (splice (flat bZ (aC (aE nr) a0 a1 a2 a3).2) (0+tN (a1.2.length:Int)*8+2) [(iv (((a1.2.length+1):Nat):Int))]) (0+tN (a1.2.length:Int)*8+3) [(iv (((eJ (aE nr) a0 a1 a2 a3).2.length:Nat):Int))]) from Eq.symm (by rw [show(splice (flat bZ (aC (aE nr) a0 a1 a2 a3).2) (0+tN (a1.2.length:Int)*8+2) [(iv (((a1.2.length+1):Nat):Int))])=flat bZ ((aC (aE nr) a0 a1 a2 a3).2.set (tN (a1.2.length:Int)) (((aC (aE nr) a0 a1 a2 a3).2.getD (tN (a1.2.length:Int)) dF).1,((aC (aE nr) a0 a1 a2 a3).2.getD (tN (a1.2.length:Int)) dF).2.1,(((a1.2.length+1):Nat):Int),((aC (aE nr) a0 a1 a2 a3).2.getD (tN (a1.2.length:Int)) dF).2.2.2.1,((aC (aE nr) a0 a1 a2 a3).2.getD (tN (a1.2.length:Int)) dF).2.2.2.2.1,((aC (aE nr) a0 a1 a2 a3).2.getD (tN (a1.2.length:Int)) dF).2.2.2.2.2)) from(bB bU (by first | omega | (simp only [Lt];omega)) (o:=2) (d:=dF) (Nb rfl) rfl)];exact bB bU (by first | omega | (simp only [Lt];omega)) (o:=3) (d:=dF) (Nb rfl) rfl)]
  try rw [show List.length (α:=Int×Int×Int×Int×Zt×Int) (((aC (aE nr) a0 a1 a2 a3).2.set (tN (a1.2.length:Int)) (((aC (aE nr) a0 a1 a2 a3).2.getD (tN (a1.2.length:Int)) dF).1,((aC (aE nr) a0 a1 a2 a3).2.getD (tN (a1.2.length:Int)) dF).2.1,(((a1.2.length+1):Nat):Int),((aC (aE nr) a0 a1 a2 a3).2.getD (tN (a1.2.length:Int)) dF).2.2.2.1,((aC (aE nr) a0 a1 a2 a3).2.getD (tN (a1.2.length:Int)) dF).2.2.2.2.1,((aC (aE nr) a0 a1 a2 a3).2.getD (tN (a1.2.length:Int)) dF).2.2.2.2.2)).set (tN (a1.2.length:Int)) ((((aC (aE nr) a0 a1 a2 a3).2.set (tN (a1.2.length:Int)) (((aC (aE nr) a0 a1 a2 a3).2.getD (tN (a1.2.length:Int)) dF).1,((aC (aE nr) a0 a1 a2 a3).2.getD (tN (a1.2.length:Int)) dF).2.1,(((a1.2.length+1):Nat):Int),((aC (aE nr) a0 a1 a2 a3).2.getD (tN (a1.2.length:Int)) dF).2.2.2.1,((aC (aE nr) a0 a1 a2 a3).2.getD (tN (a1.2.length:Int)) dF).2.2.2.2.1,((aC (aE nr) a0 a1 a2 a3).2.getD (tN (a1.2.length:Int)) dF).2.2.2.2.2)).getD (tN (a1.2.length:Int)) dF).1,(((aC (aE nr) a0 a1 a2 a3).2.set (tN (a1.2.length:Int)) (((aC (aE nr) a0 a1 a2 a3).2.getD (tN (a1.2.length:Int)) dF).1,((aC (aE nr) a0 a1 a2 a3).2.getD (tN (a1.2.length:Int)) dF).2.1,(((a1.2.length+1):Nat):Int),((aC (aE nr) a0 a1 a2 a3).2.getD (tN (a1.2.length:Int)) dF).2.2.2.1,((aC (aE nr) a0 a1 a2 a3).2.getD (tN (a1.2.length:Int)) dF).2.2.2.2.1,((aC (aE nr) a0 a1 a2 a3).2.getD (tN (a1.2.length:Int)) dF).2.2.2.2.2)).getD (tN (a1.2.length:Int)) dF).2.1,(((aC (aE nr) a0 a1 a2 a3).2.set (tN (a1.2.length:Int)) (((aC (aE nr) a0 a1 a2 a3).2.getD (tN (a1.2.length:Int)) dF).1,((aC (aE nr) a0 a1 a2 a3).2.getD (tN (a1.2.length:Int)) dF).2.1,(((a1.2.length+1):Nat):Int),((aC (aE nr) a0 a1 a2 a3).2.getD (tN (a1.2.length:Int)) dF).2.2.2.1,((aC (aE nr) a0 a1 a2 a3).2.getD (tN (a1.2.length:Int)) dF).2.2.2.2.1,((aC (aE nr) a0 a1 a2 a3).2.getD (tN (a1.2.length:Int)) dF).2.2.2.2.2)).getD (tN (a1.2.length:Int)) dF).2.2.1,(((eJ (aE nr) a0 a1 a2 a3).2.length:Nat):Int),(((aC (aE nr) a0 a1 a2 a3).2.set (tN (a1.2.length:Int)) (((aC (aE nr) a0 a1 a2 a3).2.getD (tN (a1.2.length:Int)) dF).1,((aC (aE nr) a0 a1 a2 a3).2.getD (tN (a1.2.length:Int)) dF).2.1,(((a1.2.length+1):Nat):Int),((aC (aE nr) a0 a1 a2 a3).2.getD (tN (a1.2.length:Int)) dF).2.2.2.1,((aC (aE nr) a0 a1 a2 a3).2.getD (tN (a1.2.length:Int)) dF).2.2.2.2.1,((aC (aE nr) a0 a1 a2 a3).2.getD (tN (a1.2.length:Int)) dF).2.2.2.2.2)).getD (tN (a1.2.length:Int)) dF).2.2.2.2.1,(((aC (aE nr) a0 a1 a2 a3).2.set (tN (a1.2.length:Int)) (((aC (aE nr) a0 a1 a2 a3).2.getD (tN (a1.2.length:Int)) dF).1,((aC (aE nr) a0 a1 a2 a3).2.getD (tN (a1.2.length:Int)) dF).2.1,(((a1.2.length+1):Nat):Int),((aC (aE nr) a0 a1 a2 a3).2.getD (tN (a1.2.length:Int)) dF).2.2.2.1,((aC (aE nr) a0 a1 a2 a3).2.getD (tN (a1.2.length:Int)) dF).2.2.2.2.1,((aC (aE nr) a0 a1 a2 a3).2.getD (tN (a1.2.length:Int)) dF).2.2.2.2.2)).getD (tN (a1.2.length:Int)) dF).2.2.2.2.2))=(aC (aE nr) a0 a1 a2 a3).2.length from by first | simp;done | omega]
  exact wG (t0++[.d h0,.c [0,2] (aBe a0 a2 (by omega) (by omega) hp.inr (by omega)),.c [0,2] (aBh a0 a2 (aG a0 a2) (by omega) (by omega) hp.inr (by omega)),.p (show(2:Int)≠0 from by decide),.S aF (aJ a0 a2 (aG a0 a2)) 0 (W (Int.tdiv (W ((((aJ a0 a2 (aG a0 a2)).length:Nat):Int)+1)) 2)) ((aJ a0 a2 (aG a0 a2)).length),.c [0,8,10] (by have q:=(ihr a0 (([]:List Int),(a1.2++[(0,(W (0+(a2.length:Int))),(-1),(-1),((aO a0 a2 0),(aO a0 a2 1),(aO a0 a2 2)),(fE a0 a1 a2 a3).1)])) (Aw.part (aJ a0 a2 (aG a0 a2)) 0 (W (Int.tdiv (W ((((aJ a0 a2 (aG a0 a2)).length:Nat):Int)+1)) 2))) a3 (by omega) (by(try simp only [Lt]);omega) (by(try simp only [Lt]);omega) (by omega) (by first | exact kH hp _ h2 | exact nQ hp _ h2 h5) (by omega));(try dsimp only at q);rw [show flat bZ (a1.2++[(0,(W (0+(a2.length:Int))),(-1),(-1),((aO a0 a2 0),(aO a0 a2 1),(aO a0 a2 2)),(fE a0 a1 a2 a3).1)])=(flat bZ a1.2++[(iv 0),(iv (W (0+(a2.length:Int)))),(iv (-1)),(iv (-1)),(iv (aO a0 a2 0)),(iv (aO a0 a2 1)),(iv (aO a0 a2 2)),(iv (fE a0 a1 a2 a3).1)]) from dP] at q;(try rw [show List.length (α:=Int×Int×Int×Int×Zt×Int) (a1.2++[(0,(W (0+(a2.length:Int))),(-1),(-1),((aO a0 a2 0),(aO a0 a2 1),(aO a0 a2 2)),(fE a0 a1 a2 a3).1)])=(a1.2.length+1) from by first | simp;done | omega] at q);(try rw [show List.length (α:=Int) (Aw.part (aJ a0 a2 (aG a0 a2)) 0 (W (Int.tdiv (W ((((aJ a0 a2 (aG a0 a2)).length:Nat):Int)+1)) 2)))=(tN (W (Int.tdiv (W ((((aJ a0 a2 (aG a0 a2)).length:Nat):Int)+1)) 2)) - tN 0) from by first | simp;done | omega] at q);exact q),.S aF (aJ a0 a2 (aG a0 a2)) (W (Int.tdiv (W ((((aJ a0 a2 (aG a0 a2)).length:Nat):Int)+1)) 2)) (((aJ a0 a2 (aG a0 a2)).length:Nat):Int) ((aJ a0 a2 (aG a0 a2)).length),.c [0,11,12,13] (by have q:=(yJ a0 ((eJ (aE nr) a0 a1 a2 a3).1,(eJ (aE nr) a0 a1 a2 a3).2) (Aw.part (aJ a0 a2 (aG a0 a2)) (W (Int.tdiv (W ((((aJ a0 a2 (aG a0 a2)).length:Nat):Int)+1)) 2)) (((aJ a0 a2 (aG a0 a2)).length:Nat):Int)) a3 (by omega) (by(try simp only [Lt]);omega) (by(try simp only [Lt]);omega) (by omega) (by first | exact kH hp _ h2 | exact nQ hp _ h2 h5));(try dsimp only at q);(try rw [show List.length (α:=Int) (Aw.part (aJ a0 a2 (aG a0 a2)) (W (Int.tdiv (W ((((aJ a0 a2 (aG a0 a2)).length:Nat):Int)+1)) 2)) (((aJ a0 a2 (aG a0 a2)).length:Nat):Int))=(tN (((aJ a0 a2 (aG a0 a2)).length:Nat):Int) - tN (W (Int.tdiv (W ((((aJ a0 a2 (aG a0 a2)).length:Nat):Int)+1)) 2))) from by first | simp;done | omega] at q);exact q),.i (a1.2.length:Int) ((aC (aE nr) a0 a1 a2 a3).2.length),.p (show((0+tN (a1.2.length:Int)*8+2)+1<=(flat bZ (aC (aE nr) a0 a1 a2 a3).2).length) from(dS bU (by first | omega | (simp only [Lt];omega)) (o:=2) (Nb rfl))),.i (a1.2.length:Int) ((aC (aE nr) a0 a1 a2 a3).2.length),.p (show((0+tN (a1.2.length:Int)*8+3)+1<=(splice (flat bZ (aC (aE nr) a0 a1 a2 a3).2) (0+tN (a1.2.length:Int)*8+2) [(iv (((a1.2.length+1):Nat):Int))]).length) from(by rw [show(splice (flat bZ (aC (aE nr) a0 a1 a2 a3).2) (0+tN (a1.2.length:Int)*8+2) [(iv (((a1.2.length+1):Nat):Int))])=flat bZ ((aC (aE nr) a0 a1 a2 a3).2.set (tN (a1.2.length:Int)) (((aC (aE nr) a0 a1 a2 a3).2.getD (tN (a1.2.length:Int)) dF).1,((aC (aE nr) a0 a1 a2 a3).2.getD (tN (a1.2.length:Int)) dF).2.1,(((a1.2.length+1):Nat):Int),((aC (aE nr) a0 a1 a2 a3).2.getD (tN (a1.2.length:Int)) dF).2.2.2.1,((aC (aE nr) a0 a1 a2 a3).2.getD (tN (a1.2.length:Int)) dF).2.2.2.2.1,((aC (aE nr) a0 a1 a2 a3).2.getD (tN (a1.2.length:Int)) dF).2.2.2.2.2)) from(bB bU (by first | omega | (simp only [Lt];omega)) (o:=2) (d:=dF) (Nb rfl) rfl)];exact dS bU (by first | omega | (simp only [Lt];omega)) (o:=3) (Nb rfl)))]) [] [1] [14,15] hcx (by kernel_rfl)
theorem aG1 (a0:bT)(a1:List Int×bE)(a2:List Int)(a3:Int)(l0:a0.length<=2^63-1)(l1_1:a1.1.length<=2^63-1)(l1_2:a1.2.length<=2^63-1)(l2:a2.length<=2^63-1)(hp:PGRW a0 ([],a1.2) a2 a3):Con Tryz.prog 81 [(.s 0 0 a0.length 10),(.a [(.v (.slice none 0 0)),(.s 1 0 a1.2.length 8)]),(.s 2 0 a2.length 1),(iv a3)] [(.live false true (flat dI a0)),(.live true true (flat bZ a1.2)),(.live false true (flat c3 a2))] (.a [(.s 3 0 (jS a0 a1 a2 a3).1.length 1),(.s 4 0 (jS a0 a1 a2 a3).2.length 8)]) [(.live true true (flat c3 (jS a0 a1 a2 a3).1)),(.live true true (flat bZ (jS a0 a1 a2 a3).2))] [.un,.dead,.un]:=aEw (a2.length+1) a0 a1 a2 a3 l0 l1_1 l1_2 l2 hp (lss _)
def lJ (a0:bT)(a1:List Int×bE)(a2:List Int)(a3:Int):=(lW (gF a0 a2) ((aO a0 a2 0),(aO a0 a2 1),(aO a0 a2 2)))
def dY (a0:bT)(a1:List Int×bE)(a2:List Int)(a3:Int):=(jS a0 (([]:List Int),([(0,(W (0+(a2.length:Int))),(-1),(-1),((aO a0 a2 0),(aO a0 a2 1),(aO a0 a2 2)),(lJ a0 a1 a2 a3).1)]:bE)) (Aw.part (aJ a0 a2 (aG a0 a2)) 0 (W (Int.tdiv (W ((((aJ a0 a2 (aG a0 a2)).length:Nat):Int)+1)) 2))) a3)
def aD (a0:bT)(a1:List Int×bE)(a2:List Int)(a3:Int):=(fG a0 ((dY a0 a1 a2 a3).1,(dY a0 a1 a2 a3).2) (Aw.part (aJ a0 a2 (aG a0 a2)) (W (Int.tdiv (W ((((aJ a0 a2 (aG a0 a2)).length:Nat):Int)+1)) 2)) (((aJ a0 a2 (aG a0 a2)).length:Nat):Int)) a3)
def fQ:Nat->bT->(List Int×bE)->(List Int)->(Int)->List Int×bE
 | 0,_,_,_,_=>dF
 | nr+1,a0,a1,a2,a3 =>
 (bif (decide (((a2.length:Int):Int)<=a3)) then
  (a2,([(0,(W (0+(a2.length:Int))),(-1),(-1),((aO a0 a2 0),(aO a0 a2 1),(aO a0 a2 2)),(lJ a0 a1 a2 a3).1)]:bE))
 else
  ((aD a0 a1 a2 a3).1,(((aD a0 a1 a2 a3).2.set (tN 0) (((aD a0 a1 a2 a3).2.getD (tN 0) dF).1,((aD a0 a1 a2 a3).2.getD (tN 0) dF).2.1,1,((aD a0 a1 a2 a3).2.getD (tN 0) dF).2.2.2.1,((aD a0 a1 a2 a3).2.getD (tN 0) dF).2.2.2.2.1,((aD a0 a1 a2 a3).2.getD (tN 0) dF).2.2.2.2.2)).set (tN 0) ((((aD a0 a1 a2 a3).2.set (tN 0) (((aD a0 a1 a2 a3).2.getD (tN 0) dF).1,((aD a0 a1 a2 a3).2.getD (tN 0) dF).2.1,1,((aD a0 a1 a2 a3).2.getD (tN 0) dF).2.2.2.1,((aD a0 a1 a2 a3).2.getD (tN 0) dF).2.2.2.2.1,((aD a0 a1 a2 a3).2.getD (tN 0) dF).2.2.2.2.2)).getD (tN 0) dF).1,(((aD a0 a1 a2 a3).2.set (tN 0) (((aD a0 a1 a2 a3).2.getD (tN 0) dF).1,((aD a0 a1 a2 a3).2.getD (tN 0) dF).2.1,1,((aD a0 a1 a2 a3).2.getD (tN 0) dF).2.2.2.1,((aD a0 a1 a2 a3).2.getD (tN 0) dF).2.2.2.2.1,((aD a0 a1 a2 a3).2.getD (tN 0) dF).2.2.2.2.2)).getD (tN 0) dF).2.1,(((aD a0 a1 a2 a3).2.set (tN 0) (((aD a0 a1 a2 a3).2.getD (tN 0) dF).1,((aD a0 a1 a2 a3).2.getD (tN 0) dF).2.1,1,((aD a0 a1 a2 a3).2.getD (tN 0) dF).2.2.2.1,((aD a0 a1 a2 a3).2.getD (tN 0) dF).2.2.2.2.1,((aD a0 a1 a2 a3).2.getD (tN 0) dF).2.2.2.2.2)).getD (tN 0) dF).2.2.1,(((dY a0 a1 a2 a3).2.length:Nat):Int),(((aD a0 a1 a2 a3).2.set (tN 0) (((aD a0 a1 a2 a3).2.getD (tN 0) dF).1,((aD a0 a1 a2 a3).2.getD (tN 0) dF).2.1,1,((aD a0 a1 a2 a3).2.getD (tN 0) dF).2.2.2.1,((aD a0 a1 a2 a3).2.getD (tN 0) dF).2.2.2.2.1,((aD a0 a1 a2 a3).2.getD (tN 0) dF).2.2.2.2.2)).getD (tN 0) dF).2.2.2.2.1,(((aD a0 a1 a2 a3).2.set (tN 0) (((aD a0 a1 a2 a3).2.getD (tN 0) dF).1,((aD a0 a1 a2 a3).2.getD (tN 0) dF).2.1,1,((aD a0 a1 a2 a3).2.getD (tN 0) dF).2.2.2.1,((aD a0 a1 a2 a3).2.getD (tN 0) dF).2.2.2.2.1,((aD a0 a1 a2 a3).2.getD (tN 0) dF).2.2.2.2.2)).getD (tN 0) dF).2.2.2.2.2))))
def gV (a0:bT)(a1:List Int×bE)(a2:List Int)(a3:Int):List Int×bE:=fQ (a2.length+1) a0 a1 a2 a3
theorem aEx:∀(nr:Nat) (a0:bT) (a1:List Int×bE) (a2:List Int) (a3:Int) (l0:a0.length<=2^63-1) (l1_1:a1.1.length<=2^63-1) (l1_2:a1.2.length<=2^63-1) (l2:a2.length<=2^63-1) (hp:PGRW a0 ([],[]) a2 a3),a2.length < nr->Con Tryz.prog 81 [(.s 0 0 a0.length 10),(.a [(.v (.slice none 0 0)),(.v (.slice none 0 0))]),(.s 1 0 a2.length 1),(iv a3)] [(.live false true (flat dI a0)),(.live false true (flat c3 a2))] (.a [(.s 2 0 (fQ nr a0 a1 a2 a3).1.length 1),(.s 3 0 (fQ nr a0 a1 a2 a3).2.length 8)]) [(.live true true (flat c3 (fQ nr a0 a1 a2 a3).1)),(.live true true (flat bZ (fQ nr a0 a1 a2 a3).2))]:=by
 intro nr
 induction nr with
 | zero=>intro a0 a1 a2 a3 l0 l1_1 l1_2 l2 hp hlt;exact absurd hlt (eL _)
 | succ nr ihr =>
 intro a0 a1 a2 a3 l0 l1_1 l1_2 l2 hp hlt
 refine bA Tryz.func81 (by kernel_rfl) fun cx hcx=>?_
 have hpr:=hp.rng
 have hpn:=hp.nds
 try dsimp only at hpr hpn
 try simp only [List.length_nil,Nat.zero_add] at hpr hpn
 have hpl:=hp.lf
 have hpk:=aEt a0 a2
 have hso:=sZ hp (aG a0 a2)
 obtain⟨hso1,hso2⟩:=hso
 have hhf:(W (Int.tdiv (W ((((aJ a0 a2 (aG a0 a2)).length:Nat):Int)+1)) 2))=(((a2.length+1) / 2:Nat):Int):=by rw [hso1];exact sY (by omega)
 have hpt1:(Aw.part (aJ a0 a2 (aG a0 a2)) 0 (W (Int.tdiv (W ((((aJ a0 a2 (aG a0 a2)).length:Nat):Int)+1)) 2))).length=(a2.length+1) / 2:=by rw [dL (by omega)];omega
 have hpt2:(Aw.part (aJ a0 a2 (aG a0 a2)) (W (Int.tdiv (W ((((aJ a0 a2 (aG a0 a2)).length:Nat):Int)+1)) 2)) (((aJ a0 a2 (aG a0 a2)).length:Nat):Int)).length=a2.length - (a2.length+1) / 2:=by rw [dL (by omega)];omega
 try (have _:=h0;simp only [List.length_append,List.length_cons,List.length_nil] at g1 g2 g3 f1 f2 f3)
 let t0:List (St Tryz.prog):=[.c [0,1] (kG a0 a2 0 (by omega) (by omega) hp.inr (by omega)),.c [0,1] (kG a0 a2 1 (by omega) (by omega) hp.inr (by omega)),.c [0,1] (kG a0 a2 2 (by omega) (by omega) hp.inr (by omega)),.c [0,1] (aBd a0 a2 (by omega) (by omega) hp.inr (by omega)),.c [5] (aI0 (gF a0 a2) ((aO a0 a2 0),(aO a0 a2 1),(aO a0 a2 2)) (by omega))]
 cases h0:(decide (((a2.length:Int):Int)<=a3)) with
 | true =>
  have q0:=cN h0
  try (have _:=h0;simp only [List.length_append,List.length_cons,List.length_nil] at g1 g2 g3 f1 f2 f3)
  have e:=Eq.refl (fQ (nr+1) a0 a1 a2 a3);conv at e=>rhs;simp only [fQ,h0,aW]
  rw [e]
  try dsimp only [aZ]
  try dsimp only
  exact rt (t0++[.d h0,.p (show((flat c3 a2).length=a2.length*1/\(flat c3 a2).all SV.one=true/\a2.length<=2 ^ 40/\a2.length*8<=2 ^ 47) from by refine⟨?_,?_,?_,?_⟩<;>first | omega | exact iJ (fun _=>rfl) | (simp [bW aF];done) | (simp [bW aF];omega))]) [.sym 7 true]  [8,7] hcx (by kernel_rfl)
 | false =>
  have q0:=cY h0
  try have h2:2<=a2.length:=(fun _=>by omega) h0
  try have h5:GRR _ (dY a0 a1 a2 a3) _:=(fun _=>aCu _ a0 ([],_) _ a3 (kH (t:=([],[])) hp _ h2) (lss _)) h0
  try have h6:GRR _ (aD a0 a1 a2 a3) _:=(fun _=>kI _ _ _ _ _ (nQ (t:=([],[])) hp _ h2 h5) (lss _)) h0
  try have g1:=(fun _=>h5.ol) h0
  try have g2:=(fun _=>h5.lo) h0
  try have g3:=(fun _=>h5.hi) h0
  try have f1:=(fun _=>h6.ol) h0
  try have f2:=(fun _=>h6.lo) h0
  try have f3:=(fun _=>h6.hi) h0
  try (have _:=h0;simp only [List.length_append,List.length_cons,List.length_nil] at g1 g2 g3 f1 f2 f3)
  have e:=Eq.refl (fQ (nr+1) a0 a1 a2 a3);conv at e=>rhs;simp only [fQ,h0,aW]
  rw [e]
  try dsimp only [aZ]
  try dsimp only
  rw [show flat bZ (((aD a0 a1 a2 a3).2.set (tN 0) (((aD a0 a1 a2 a3).2.getD (tN 0) dF).1,((aD a0 a1 a2 a3).2.getD (tN 0) dF).2.1,1,((aD a0 a1 a2 a3).2.getD (tN 0) dF).2.2.2.1,((aD a0 a1 a2 a3).2.getD (tN 0) dF).2.2.2.2.1,((aD a0 a1 a2 a3).2.getD (tN 0) dF).2.2.2.2.2)).set (tN 0) ((((aD a0 a1 a2 a3).2.set (tN 0) (((aD a0 a1 a2 a3).2.getD (tN 0) dF).1,((aD a0 a1 a2 a3).2.getD (tN 0) dF).2.1,1,((aD a0 a1 a2 a3).2.getD (tN 0) dF).2.2.2.1,((aD a0 a1 a2 a3).2.getD (tN 0) dF).2.2.2.2.1,((aD a0 a1 a2 a3).2.getD (tN 0) dF).2.2.2.2.2)).getD (tN 0) dF).1,(((aD a0 a1 a2 a3).2.set (tN 0) (((aD a0 a1 a2 a3).2.getD (tN 0) dF).1,((aD a0 a1 a2 a3).2.getD (tN 0) dF).2.1,1,((aD a0 a1 a2 a3).2.getD (tN 0) dF).2.2.2.1,((aD a0 a1 a2 a3).2.getD (tN 0) dF).2.2.2.2.1,((aD a0 a1 a2 a3).2.getD (tN 0) dF).2.2.2.2.2)).getD (tN 0) dF).2.1,(((aD a0 a1 a2 a3).2.set (tN 0) (((aD a0 a1 a2 a3).2.getD (tN 0) dF).1,((aD a0 a1 a2 a3).2.getD (tN 0) dF).2.1,1,((aD a0 a1 a2 a3).2.getD (tN 0) dF).2.2.2.1,((aD a0 a1 a2 a3).2.getD (tN 0) dF).2.2.2.2.1,((aD a0 a1 a2 a3).2.getD (tN 0) dF).2.2.2.2.2)).getD (tN 0) dF).2.2.1,(((dY a0 a1 a2 a3).2.length:Nat):Int),(((aD a0 a1 a2 a3).2.set (tN 0) (((aD a0 a1 a2 a3).2.getD (tN 0) dF).1,((aD a0 a1 a2 a3).2.getD (tN 0) dF).2.1,1,((aD a0 a1 a2 a3).2.getD (tN 0) dF).2.2.2.1,((aD a0 a1 a2 a3).2.getD (tN 0) dF).2.2.2.2.1,((aD a0 a1 a2 a3).2.getD (tN 0) dF).2.2.2.2.2)).getD (tN 0) dF).2.2.2.2.1,(((aD a0 a1 a2 a3).2.set (tN 0) (((aD a0 a1 a2 a3).2.getD (tN 0) dF).1,((aD a0 a1 a2 a3).2.getD (tN 0) dF).2.1,1,((aD a0 a1 a2 a3).2.getD (tN 0) dF).2.2.2.1,((aD a0 a1 a2 a3).2.getD (tN 0) dF).2.2.2.2.1,((aD a0 a1 a2 a3).2.getD (tN 0) dF).2.2.2.2.2)).getD (tN 0) dF).2.2.2.2.2))=(splice (splice (flat bZ (aD a0 a1 a2 a3).2) (0+tN 0*8+2) [(iv 1)]) (0+tN 0*8+3) [(iv (((dY a0 a1 a2 a3).2.length:Nat):Int))]) from Eq.symm (by rw [show(splice (flat bZ (aD a0 a1 a2 a3).2) (0+tN 0*8+2) [(iv 1)])=flat bZ ((aD a0 a1 a2 a3).2.set (tN 0) (((aD a0 a1 a2 a3).2.getD (tN 0) dF).1,((aD a0 a1 a2 a3).2.getD (tN 0) dF).2.1,1,((aD a0 a1 a2 a3).2.getD (tN 0) dF).2.2.2.1,((aD a0 a1 a2 a3).2.getD (tN 0) dF).2.2.2.2.1,((aD a0 a1 a2 a3).2.getD (tN 0) dF).2.2.2.2.2)) from(bB bU (by first | omega | (simp only [Lt];omega)) (o:=2) (d:=dF) (Nb rfl) rfl)];exact bB bU (by first | omega | (simp only [Lt];omega)) (o:=3) (d:=dF) (Nb rfl) rfl)]
  try rw [show List.length (α:=Int×Int×Int×Int×Zt×Int) (((aD a0 a1 a2 a3).2.set (tN 0) (((aD a0 a1 a2 a3).2.getD (tN 0) dF).1,((aD a0 a1 a2 a3).2.getD (tN 0) dF).2.1,1,((aD a0 a1 a2 a3).2.getD (tN 0) dF).2.2.2.1,((aD a0 a1 a2 a3).2.getD (tN 0) dF).2.2.2.2.1,((aD a0 a1 a2 a3).2.getD (tN 0) dF).2.2.2.2.2)).set (tN 0) ((((aD a0 a1 a2 a3).2.set (tN 0) (((aD a0 a1 a2 a3).2.getD (tN 0) dF).1,((aD a0 a1 a2 a3).2.getD (tN 0) dF).2.1,1,((aD a0 a1 a2 a3).2.getD (tN 0) dF).2.2.2.1,((aD a0 a1 a2 a3).2.getD (tN 0) dF).2.2.2.2.1,((aD a0 a1 a2 a3).2.getD (tN 0) dF).2.2.2.2.2)).getD (tN 0) dF).1,(((aD a0 a1 a2 a3).2.set (tN 0) (((aD a0 a1 a2 a3).2.getD (tN 0) dF).1,((aD a0 a1 a2 a3).2.getD (tN 0) dF).2.1,1,((aD a0 a1 a2 a3).2.getD (tN 0) dF).2.2.2.1,((aD a0 a1 a2 a3).2.getD (tN 0) dF).2.2.2.2.1,((aD a0 a1 a2 a3).2.getD (tN 0) dF).2.2.2.2.2)).getD (tN 0) dF).2.1,(((aD a0 a1 a2 a3).2.set (tN 0) (((aD a0 a1 a2 a3).2.getD (tN 0) dF).1,((aD a0 a1 a2 a3).2.getD (tN 0) dF).2.1,1,((aD a0 a1 a2 a3).2.getD (tN 0) dF).2.2.2.1,((aD a0 a1 a2 a3).2.getD (tN 0) dF).2.2.2.2.1,((aD a0 a1 a2 a3).2.getD (tN 0) dF).2.2.2.2.2)).getD (tN 0) dF).2.2.1,(((dY a0 a1 a2 a3).2.length:Nat):Int),(((aD a0 a1 a2 a3).2.set (tN 0) (((aD a0 a1 a2 a3).2.getD (tN 0) dF).1,((aD a0 a1 a2 a3).2.getD (tN 0) dF).2.1,1,((aD a0 a1 a2 a3).2.getD (tN 0) dF).2.2.2.1,((aD a0 a1 a2 a3).2.getD (tN 0) dF).2.2.2.2.1,((aD a0 a1 a2 a3).2.getD (tN 0) dF).2.2.2.2.2)).getD (tN 0) dF).2.2.2.2.1,(((aD a0 a1 a2 a3).2.set (tN 0) (((aD a0 a1 a2 a3).2.getD (tN 0) dF).1,((aD a0 a1 a2 a3).2.getD (tN 0) dF).2.1,1,((aD a0 a1 a2 a3).2.getD (tN 0) dF).2.2.2.1,((aD a0 a1 a2 a3).2.getD (tN 0) dF).2.2.2.2.1,((aD a0 a1 a2 a3).2.getD (tN 0) dF).2.2.2.2.2)).getD (tN 0) dF).2.2.2.2.2))=(aD a0 a1 a2 a3).2.length from by first | simp;done | omega]
  exact rt (t0++[.d h0,.c [0,1] (aBe a0 a2 (by omega) (by omega) hp.inr (by omega)),.c [0,1] (aBh a0 a2 (aG a0 a2) (by omega) (by omega) hp.inr (by omega)),.p (show(2:Int)≠0 from by decide),.S aF (aJ a0 a2 (aG a0 a2)) 0 (W (Int.tdiv (W ((((aJ a0 a2 (aG a0 a2)).length:Nat):Int)+1)) 2)) ((aJ a0 a2 (aG a0 a2)).length),.c [0,7,9] (by have q:=(Con.flags (bs':=[(.live false true (flat dI a0)),(.live true false [(iv 0),(iv (W (0+(a2.length:Int)))),(iv (-1)),(iv (-1)),(iv (aO a0 a2 0)),(iv (aO a0 a2 1)),(iv (aO a0 a2 2)),(iv (lJ a0 a1 a2 a3).1)]),(.live false true (flat c3 (Aw.part (aJ a0 a2 (aG a0 a2)) 0 (W (Int.tdiv (W ((((aJ a0 a2 (aG a0 a2)).length:Nat):Int)+1)) 2)))))]) (aG1 a0 (([]:List Int),([(0,(W (0+(a2.length:Int))),(-1),(-1),((aO a0 a2 0),(aO a0 a2 1),(aO a0 a2 2)),(lJ a0 a1 a2 a3).1)]:bE)) (Aw.part (aJ a0 a2 (aG a0 a2)) 0 (W (Int.tdiv (W ((((aJ a0 a2 (aG a0 a2)).length:Nat):Int)+1)) 2))) a3 (by omega) (by(try simp only [Lt]);omega) (by(try simp only [Lt]);omega) (by omega) (by first | exact kH hp _ h2 | exact nQ hp _ h2 h5)) rfl ⟨pR (fun _=>rfl),pR (fun _=>rfl),pR (fun _=>rfl),trivial⟩);(try dsimp only at q);(try rw [show List.length (α:=Int) (Aw.part (aJ a0 a2 (aG a0 a2)) 0 (W (Int.tdiv (W ((((aJ a0 a2 (aG a0 a2)).length:Nat):Int)+1)) 2)))=(tN (W (Int.tdiv (W ((((aJ a0 a2 (aG a0 a2)).length:Nat):Int)+1)) 2)) - tN 0) from by first | simp;done | omega] at q);exact q),.S aF (aJ a0 a2 (aG a0 a2)) (W (Int.tdiv (W ((((aJ a0 a2 (aG a0 a2)).length:Nat):Int)+1)) 2)) (((aJ a0 a2 (aG a0 a2)).length:Nat):Int) ((aJ a0 a2 (aG a0 a2)).length),.c [0,10,11,12] (by have q:=(yJ a0 ((dY a0 a1 a2 a3).1,(dY a0 a1 a2 a3).2) (Aw.part (aJ a0 a2 (aG a0 a2)) (W (Int.tdiv (W ((((aJ a0 a2 (aG a0 a2)).length:Nat):Int)+1)) 2)) (((aJ a0 a2 (aG a0 a2)).length:Nat):Int)) a3 (by omega) (by(try simp only [Lt]);omega) (by(try simp only [Lt]);omega) (by omega) (by first | exact kH hp _ h2 | exact nQ hp _ h2 h5));(try dsimp only at q);(try rw [show List.length (α:=Int) (Aw.part (aJ a0 a2 (aG a0 a2)) (W (Int.tdiv (W ((((aJ a0 a2 (aG a0 a2)).length:Nat):Int)+1)) 2)) (((aJ a0 a2 (aG a0 a2)).length:Nat):Int))=(tN (((aJ a0 a2 (aG a0 a2)).length:Nat):Int) - tN (W (Int.tdiv (W ((((aJ a0 a2 (aG a0 a2)).length:Nat):Int)+1)) 2))) from by first | simp;done | omega] at q);exact q),.i 0 ((aD a0 a1 a2 a3).2.length),.p (show((0+tN 0*8+2)+1<=(flat bZ (aD a0 a1 a2 a3).2).length) from(dS bU (by first | omega | (simp only [Lt];omega)) (o:=2) (Nb rfl))),.i 0 ((aD a0 a1 a2 a3).2.length),.p (show((0+tN 0*8+3)+1<=(splice (flat bZ (aD a0 a1 a2 a3).2) (0+tN 0*8+2) [(iv 1)]).length) from(by rw [show(splice (flat bZ (aD a0 a1 a2 a3).2) (0+tN 0*8+2) [(iv 1)])=flat bZ ((aD a0 a1 a2 a3).2.set (tN 0) (((aD a0 a1 a2 a3).2.getD (tN 0) dF).1,((aD a0 a1 a2 a3).2.getD (tN 0) dF).2.1,1,((aD a0 a1 a2 a3).2.getD (tN 0) dF).2.2.2.1,((aD a0 a1 a2 a3).2.getD (tN 0) dF).2.2.2.2.1,((aD a0 a1 a2 a3).2.getD (tN 0) dF).2.2.2.2.2)) from(bB bU (by first | omega | (simp only [Lt];omega)) (o:=2) (d:=dF) (Nb rfl) rfl)];exact dS bU (by first | omega | (simp only [Lt];omega)) (o:=3) (Nb rfl)))]) []  [13,14] hcx (by kernel_rfl)
theorem aG2 (a0:bT)(a1:List Int×bE)(a2:List Int)(a3:Int)(l0:a0.length<=2^63-1)(l1_1:a1.1.length<=2^63-1)(l1_2:a1.2.length<=2^63-1)(l2:a2.length<=2^63-1)(hp:PGRW a0 ([],[]) a2 a3):Con Tryz.prog 81 [(.s 0 0 a0.length 10),(.a [(.v (.slice none 0 0)),(.v (.slice none 0 0))]),(.s 1 0 a2.length 1),(iv a3)] [(.live false true (flat dI a0)),(.live false true (flat c3 a2))] (.a [(.s 2 0 (gV a0 a1 a2 a3).1.length 1),(.s 3 0 (gV a0 a1 a2 a3).2.length 8)]) [(.live true true (flat c3 (gV a0 a1 a2 a3).1)),(.live true true (flat bZ (gV a0 a1 a2 a3).2))]:=aEx (a2.length+1) a0 a1 a2 a3 l0 l1_1 l1_2 l2 hp (lss _)
end Go.Proofs.YtkdfcbmcgnaicaaGreat
