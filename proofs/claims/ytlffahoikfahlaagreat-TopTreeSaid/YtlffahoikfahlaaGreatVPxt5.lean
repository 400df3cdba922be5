/-
  Parts of the proofs of the laws: the executor, what functions of the program compute, and that it is what the statements ask. No premise.
-/
import Derived.Test.YtlffahoikfahlaaGreatVPxt4
set_option linter.unusedVariables false
set_option linter.unusedSimpArgs false
set_option maxHeartbeats 4000000
open Int renaming toNat → tN
open Inhabited renaming default → dF
open Go.IntKind renaming wrap → iW
open BitVec renaming ofInt → bO
open Int renaming tdiv → tD
open Int renaming fdiv → fD
open Int renaming tmod → mD
namespace Go.Proofs.YtlffahoikfahlaaGreat
open Go.Proofs Go.Aw Go.RowKit
set_option maxRecDepth 100000
section
variable {o n : Nat} {l l0 : ZL} {c : sH}
theorem qH (lt:Int->Int->Bool)(a:Nat):∀(j:Nat) (d:Array Int),(Go.Sort.insInner lt a j d).size=d.size
 | 0,d=>rfl
 | j+1,d=>by
  rw [Go.Sort.insInner];split
  ·rw [qH lt a j,tJ]
  ·rfl
theorem aMs (hl:o+n<=l.length)(hn:n<=1048576) {a:Nat} {a2:Int}:∀(m:Nat) (d:Array Int) (j:Nat) (w:Int),d.size=n->j < n->j - a < m ->
 aE (cO l0 o n (a:Int) a2 c) m (wp l o d,w,(j:Int))=.inl (wp l o (Go.Sort.insInner (bM c) a j d),w+1)
 | 0,_,_,_,_,_,h=>absurd h (fW _)
 | m+1,d,0,w,hd,hj,hm=>by
  refine aM ?_;simp only [cO];rw [cV (by omega),cond_false];rfl
 | m+1,d,j+1,w,hd,hj,hm=>by
  have hl':o+d.size<=l.length:=by omega
  have e1:W (((j+1:Nat):Int) - 1)=((j:Nat):Int):=wN (by omega) (by omega);rw [Go.Sort.insInner];by_cases h1:j+1 > a
  ·have e:cO l0 o n (a:Int) a2 c (wp l o d,w,((j+1:Nat):Int))=bif bM c d[j+1]! d[j]! then .inl (wp l o (Go.Sort.swp d (j+1) j),w,(j:Int)) else .inr (.inl (wp l o d,w+1)):=by
    simp only [cO,e1,iH,aMq,aMr];rw [cL (by omega),cond_true,gW hl' (i:=j+1) (j:=j) (by omega) (by omega),cZ hl' (i:=j+1) (by omega),cZ hl' (i:=j) (by omega)]
   rw [cL h1,Bool.true_and];cases q:bM c d[j+1]! d[j]!
   case true=>rw [q,cond_true] at e;rw [aD e];exact aMs hl hn m _ j w (by rw [tJ];exact hd) (by omega) (by omega)
   rw [q,cond_false] at e;exact aM e
  ·rw [cV h1,Bool.false_and];refine aM ?_;simp only [cO];rw [cV (by omega),cond_false];rfl
theorem aMt (hl:o+n<=l.length)(hn:n<=1048576) {a b:Nat} (hb:b<=n):∀(m:Nat) (d:Array Int) (i:Nat),d.size=n->b - i < m ->
 aE (dV l0 o n (a:Int) (b:Int) c) m (wp l o d,(i:Int))=wp l o (Go.Sort.insOuter (bM c) a b i d)
 | 0,_,_,_,h=>absurd h (fW _)
 | m+1,d,i,hd,hm=>by
  rw [Go.Sort.insOuter];by_cases h1:i < b
  ·rw [if_pos h1];have e:dV l0 o n (a:Int) (b:Int) c (wp l o d,(i:Int))=aE (cO l0 o n (a:Int) (b:Int) c) (tN ((i:Int) - a)+1) (wp l o d,(i:Int),(i:Int)):=by
    simp only [dV];rw [cL (by omega),cond_true]
   rw [aD (e.trans (aMs hl hn _ d i _ hd (by omega) (by omega)))];exact aMt hl hn hb m _ (i+1) (by rw [qH];exact hd) (by omega)
  ·rw [if_neg h1];refine aM ?_;simp only [dV];rw [cV (by omega),cond_false]
theorem aQy {d:Array Int} (hl:o+n<=l.length)(hn:n<=1048576) {a b:Nat} (hb:b<=n)(ha:a<=n)(hd:d.size=n):gR (wp l o d) o n (a:Int) (b:Int) c=wp l o (Go.Sort.insertionSort (bM c) d a b):=by
 unfold gR;rw [wN (n:=a+1) (by omega) (by omega)];exact aMt hl hn hb _ d (a+1) hd (by omega)
theorem aVt (hl:o+n<=l.length)(hn:n<=1048576) {a1 a2:Int}:∀(m:Nat) (d:Array Int) (i j:Nat),d.size=n->i<=n->j < n->j - i < m ->
 aE (eS l0 o n a1 a2 c) m (wp l o d,(i:Int),(j:Int))=wp l o (Go.Sort.reverseLoop i j d)
 | 0,_,_,_,_,_,_,h=>absurd h (fW _)
 | m+1,d,i,j,hd,hi,hj,hm=>by
  have hl':o+d.size<=l.length:=by omega
  rw [Go.Sort.reverseLoop];by_cases h1:i < j
  ·rw [if_pos h1];have e:eS l0 o n a1 a2 c (wp l o d,(i:Int),(j:Int))=.inl (wp l o (Go.Sort.swp d i j),((i+1:Nat):Int),((j - 1:Nat):Int)):=by
    simp only [eS,iH];rw [cL (by omega),cond_true,gW hl' (i:=i) (j:=j) (by omega) (by omega),wN (x:=(j:Int) - 1) (n:=j - 1) (by omega) (by omega)];rfl
   rw [aD e];exact aVt hl hn m _ (i+1) (j - 1) (by rw [tJ];exact hd) (by omega) (by omega) (by omega)
  ·rw [if_neg h1];refine aM ?_;simp only [eS];rw [cV (by omega),cond_false]
theorem aQz {d:Array Int} (hl:o+n<=l.length)(hn:n<=1048576) {a b:Nat} (hab:a < b)(hb:b<=n)(hd:d.size=n):eO (wp l o d) o n (a:Int) (b:Int) c=wp l o (Go.Sort.reverseRange d a b):=by
 unfold eO;rw [wN (x:=(b:Int) - 1) (n:=b - 1) (by omega) (by omega)];exact aVt hl hn _ d a (b - 1) hd (by omega) (by omega) (by omega)
theorem aQ0 (hl:o+n<=l.length)(hn:n<=1048576) {a:Nat} {a2:Int}:∀(k m:Nat) (d:Array Int),d.size=n->a+k<=n->k < m ->
 aE (eU l0 o n (a:Int) a2 c) m (wp l o d,(k:Int) - 1)=wp l o (Go.Sort.heapPop (bM c) a k d)/\(Go.Sort.heapPop (bM c) a k d).size=n
 | 0,m+1,d,hd,_,_=>by
  refine⟨aM ?_,hd⟩;simp only [eU];rw [cV (by omega),cond_false];rfl
 | k+1,m+1,d,hd,hk,hm=>by
  have hl':o+d.size<=l.length:=by omega
  have hs:=aVr (c:=((c.1.1,c.1.2.1,(wp l o (Go.Sort.swp d a (a+k)),c.1.2.2.2)),c.2)) (l:=l) (d:=Go.Sort.swp d a (a+k)) (hi:=k) (first:=a) (lo:=0) hl hn (by omega) (by omega) (by rw [tJ];exact hd);have e:eU l0 o n (a:Int) a2 c (wp l o d,((k+1:Nat):Int) - 1)=.inl (wp l o (Go.Sort.siftDown (bM c) k a 0 (Go.Sort.swp d a (a+k))),(k:Int) - 1):=by
   rw [show((k+1:Nat):Int) - 1=(k:Int) by omega];simp only [eU,iH,wN (x:=(a:Int)+(k:Int)) (n:=a+k) (by omega) (by omega)];rw [cL (by omega),cond_true,gW hl' (i:=a) (j:=a+k) (by omega) (by omega),aG (n:=(k:Int) - 1) (by omega) (by omega)];exact congrArg (fun z=>Sum.inl (z,(k:Int) - 1)) hs.1
  rw [aD e];exact aQ0 hl hn k m _ hs.2 (by omega) (by omega)
theorem aQ1 (hl:o+n<=l.length)(hn:n<=1048576) {a b:Nat} (hab:a<=b)(hb:b<=n):∀(k m:Nat) (d:Array Int),d.size=n->k<=1048576->k < m ->
 aE (eV l0 o n (a:Int) (b:Int) c) m (wp l o d,(k:Int) - 1)=wp l o (Go.Sort.heapPop (bM c) a (b - a) (Go.Sort.heapBuild (bM c) (b - a) a k d))/\(Go.Sort.heapPop (bM c) a (b - a) (Go.Sort.heapBuild (bM c) (b - a) a k d)).size=n
 | 0,m+1,d,hd,_,_=>by
  have e2:W ((W ((b:Int) - (a:Int))) - 1)=((b - a:Nat):Int) - 1:=by rw [wN (x:=(b:Int) - (a:Int)) (n:=b - a) (by omega) (by omega)];exact aG (by omega) (by omega)
  have h1:=aQ0 (l:=l) (l0:=l0) (c:=c) (a:=a) (a2:=(b:Int)) hl hn (b - a) (tN (((b - a:Nat):Int) - 1+1)+1) d hd (by omega) (by omega);refine⟨aM ?_,h1.2⟩;simp only [eV,e2];rw [cV (by omega),cond_false,h1.1];rfl
 | k+1,m+1,d,hd,hk,hm=>by
  have hs:=aVr (c:=((c.1.1,c.1.2.1,(wp l o d,c.1.2.2.2)),c.2)) (l:=l) (d:=d) (hi:=b - a) (first:=a) (lo:=k) hl hn (by omega) (by omega) hd;have e:eV l0 o n (a:Int) (b:Int) c (wp l o d,((k+1:Nat):Int) - 1)=.inl (wp l o (Go.Sort.siftDown (bM c) (b - a) a k d),(k:Int) - 1):=by
   rw [show((k+1:Nat):Int) - 1=(k:Int) by omega];simp only [eV,wN (x:=(b:Int) - (a:Int)) (n:=b - a) (by omega) (by omega)];rw [cL (by omega),cond_true,aG (n:=(k:Int) - 1) (by omega) (by omega)];exact congrArg (fun z=>Sum.inl (z,(k:Int) - 1)) hs.1
  rw [aD e];exact aQ1 hl hn hab hb k m _ hs.2 (by omega) (by omega)
theorem aQ2 {d:Array Int} (hl:o+n<=l.length)(hn:n<=1048576) {a b:Nat} (hab:a<=b)(hb:b<=n)(hd:d.size=n):gT (wp l o d) o n (a:Int) (b:Int) c=wp l o (Go.Sort.heapSort (bM c) d a b):=by
 unfold gT;have hm:W (tD (W ((W ((b:Int) - (a:Int))) - 1)) 2)=(((b - a - 1) / 2+1:Nat):Int) - 1:=by
  rw [wN (x:=(b:Int) - (a:Int)) (n:=b - a) (by omega) (by omega)];rcases aQt (n:=((b - a:Nat):Int)) (by omega) with h | ⟨h,h2⟩
  ·by_cases h0:b - a=0
   ·rw [h0];decide
   ·rw [h];omega
  ·rw [h2];omega
 rw [hm];exact(aQ1 (l:=l) hl hn hab hb ((b - a - 1) / 2+1) _ d hd (by omega) (by omega)).1
end
end Go.Proofs.YtlffahoikfahlaaGreat
namespace Go.Proofs.YtlffahoikfahlaaGreat
open Go.Proofs Go.Aw Go.RowKit
set_option maxRecDepth 100000
section
open Go.Sort
variable {o n : Nat} {l l0 : ZL} {c : sH} {a3 b : Int} {a : Nat} {d : Array Int}
theorem hZ (c:sH)(v:ZL)(x y:Int):decide (iB ((c.1.1,c.1.2.1,(v,c.1.2.2.2)),c.2) x y < 0)=bM c x y:=rfl
theorem qI (p:Int->Bool)(d:Array Int)(i j:Nat)(h:1<=j):scanDown p d i j=if i<=j&&p d[j]! then scanDown p d i (j - 1) else j:=by
 obtain⟨j,rfl⟩:∃k,j=k+1:=⟨j - 1,by omega⟩;rw [scanDown];rfl
theorem aMu (hl:o+n<=l.length)(hn:n<=1048576)(hd:d.size=n)(ha:a < n) {j:Nat} (hj:j < n):∀(m i:Nat),i<=1048577->j+2 - i < m ->
 aE (cQ l0 o n (a:Int) b a3 c) m (wp l o d,(i:Int),(j:Int))=(aE (bQ l0 o n (a:Int) b a3 c) (tN ((j:Int)+2 - (scanUp (fun x=>bM c x d[a]!) d j i:Nat))+1) (wp l o d,((scanUp (fun x=>bM c x d[a]!) d j i:Nat):Int),(j:Int)))
 | 0,_,_,h=>absurd h (fW _)
 | m+1,i,hi,hm=>by
  have hl':o+d.size<=l.length:=by omega
  rw [scanUp];by_cases h1:i<=j
  ·rw [cL h1,Bool.true_and];have e:cQ l0 o n (a:Int) b a3 c (wp l o d,(i:Int),(j:Int))=bif (bM c d[i]! d[a]!) then .inl (wp l o d,((i+1:Nat):Int),(j:Int)) else .inr (aE (bQ l0 o n (a:Int) b a3 c) (tN ((j:Int)+2 - (i:Int))+1) (wp l o d,(i:Int),(j:Int))):=by
    simp only [cQ,iH,hZ];rw [cL (show(i:Int)<=(j:Int) by omega),cond_true,cZ hl' (i:=i) (by omega),cZ hl' (i:=a) (by omega)];rfl
   cases q:bM c d[i]! d[a]!
   case true=>rw [q] at e;rw [aD (e.trans (by rfl)),if_pos (show(true)=true from rfl)];exact aMu hl hn hd ha hj m (i+1) (by omega) (by omega)
   rw [q] at e;rw [if_neg (show ¬(false)=true from by decide)];exact aM (e.trans (by rfl))
  ·rw [cV h1,Bool.false_and,if_neg Bool.false_ne_true];refine aM ?_;simp only [cQ];rw [cV (show ¬(i:Int)<=(j:Int) by omega),cond_false]
theorem aMv (hl:o+n<=l.length)(hn:n<=1048576)(hd:d.size=n)(ha:a < n) {i:Nat} (hi:1<=i/\i<=n+1):∀(m j:Nat),j < n->i<=j+2->j+2 - i < m ->
 aE (bQ l0 o n (a:Int) b a3 c) m (wp l o d,(i:Int),(j:Int))=(if i > scanDown (fun x=>!bM c x d[a]!) d i j then(((scanDown (fun x=>!bM c x d[a]!) d i j:Nat):Int),true,wp l o (swp d (scanDown (fun x=>!bM c x d[a]!) d i j) a)) else aE (bP l0 o n (a:Int) b a3 c) (tN (((scanDown (fun x=>!bM c x d[a]!) d i j - 1:Nat):Int)+2 - ((i+1:Nat):Int))+1) (wp l o (swp d i (scanDown (fun x=>!bM c x d[a]!) d i j)),((i+1:Nat):Int),((scanDown (fun x=>!bM c x d[a]!) d i j - 1:Nat):Int)))
 | 0,_,_,_,h=>absurd h (fW _)
 | m+1,j,hj,hij,hm=>by
  have hl':o+d.size<=l.length:=by omega
  by_cases h1:i<=j
  ·rw [qI _ _ _ _ (by omega),cL h1,Bool.true_and];have e1:W ((j:Int) - 1)=((j - 1:Nat):Int):=wN (by omega) (by omega);have e2:W ((i:Int)+1)=((i+1:Nat):Int):=wN (by omega) (by omega);cases q:bM c d[j]! d[a]!
   case false=>
    rw [if_pos (show(!false)=true from rfl)];have e:bQ l0 o n (a:Int) b a3 c (wp l o d,(i:Int),(j:Int))=.inl (wp l o d,(i:Int),((j - 1:Nat):Int)):=by
     simp only [bQ,iH,hZ,e1];rw [cL (show(i:Int)<=(j:Int) by omega),cond_true,cZ hl' (i:=j) (by omega),cZ hl' (i:=a) (by omega)];rw [q];rfl
    rw [aD e];exact aMv hl hn hd ha hi m (j - 1) (by omega) (by omega) (by omega)
   rw [if_neg (show ¬(!true)=true from by decide),if_neg (by omega)];refine aM ?_;simp only [bQ,iH,hZ,e1,e2];rw [cL (show(i:Int)<=(j:Int) by omega),cond_true,gW hl' (i:=i) (j:=j) (by omega) (by omega),gW hl' (i:=j) (j:=a) (by omega) (by omega),cZ hl' (i:=j) (by omega),cZ hl' (i:=a) (by omega),cV (show ¬(i:Int) > (j:Int) by omega),cond_false,q];rfl
  ·have hsd:scanDown (fun x=>!bM c x d[a]!) d i j=j:=by
    cases j with
    | zero=>rfl
    | succ j=>rw [scanDown,cV h1];rfl
   rw [hsd,if_pos (by omega)];refine aM ?_;simp only [bQ,iH];rw [cV (show ¬(i:Int)<=(j:Int) by omega),cond_false,cL (show(i:Int) > (j:Int) by omega),cond_true,gW hl' (i:=j) (j:=a) (by omega) (by omega)]
theorem aMw (hl:o+n<=l.length)(hn:n<=1048576)(hd:d.size=n)(ha:a < n) {j:Nat} (hj:j < n):∀(m i:Nat),i<=1048577->j+2 - i < m ->
 aE (cF l0 o n (a:Int) b a3 c) m (wp l o d,(i:Int),(j:Int))=(aE (bN l0 o n (a:Int) b a3 c) (tN ((j:Int)+2 - (scanUp (fun x=>bM c x d[a]!) d j i:Nat))+1) (wp l o d,((scanUp (fun x=>bM c x d[a]!) d j i:Nat):Int),(j:Int)))
 | 0,_,_,h=>absurd h (fW _)
 | m+1,i,hi,hm=>by
  have hl':o+d.size<=l.length:=by omega
  rw [scanUp];by_cases h1:i<=j
  ·rw [cL h1,Bool.true_and];have e:cF l0 o n (a:Int) b a3 c (wp l o d,(i:Int),(j:Int))=bif (bM c d[i]! d[a]!) then .inl (wp l o d,((i+1:Nat):Int),(j:Int)) else .inr (aE (bN l0 o n (a:Int) b a3 c) (tN ((j:Int)+2 - (i:Int))+1) (wp l o d,(i:Int),(j:Int))):=by
    simp only [cF,iH,hZ];rw [cL (show(i:Int)<=(j:Int) by omega),cond_true,cZ hl' (i:=i) (by omega),cZ hl' (i:=a) (by omega)];rfl
   cases q:bM c d[i]! d[a]!
   case true=>rw [q] at e;rw [aD (e.trans (by rfl)),if_pos (show(true)=true from rfl)];exact aMw hl hn hd ha hj m (i+1) (by omega) (by omega)
   rw [q] at e;rw [if_neg (show ¬(false)=true from by decide)];exact aM (e.trans (by rfl))
  ·rw [cV h1,Bool.false_and,if_neg Bool.false_ne_true];refine aM ?_;simp only [cF];rw [cV (show ¬(i:Int)<=(j:Int) by omega),cond_false]
theorem aMx (hl:o+n<=l.length)(hn:n<=1048576)(hd:d.size=n)(ha:a < n) {i:Nat} (hi:1<=i/\i<=n+1):∀(m j:Nat),j < n->i<=j+2->j+2 - i < m ->
 aE (bN l0 o n (a:Int) b a3 c) m (wp l o d,(i:Int),(j:Int))=(if i > scanDown (fun x=>!bM c x d[a]!) d i j then .inr (((scanDown (fun x=>!bM c x d[a]!) d i j:Nat):Int),false,wp l o (swp d (scanDown (fun x=>!bM c x d[a]!) d i j) a)) else .inl (wp l o (swp d i (scanDown (fun x=>!bM c x d[a]!) d i j)),((i+1:Nat):Int),((scanDown (fun x=>!bM c x d[a]!) d i j - 1:Nat):Int)))
 | 0,_,_,_,h=>absurd h (fW _)
 | m+1,j,hj,hij,hm=>by
  have hl':o+d.size<=l.length:=by omega
  by_cases h1:i<=j
  ·rw [qI _ _ _ _ (by omega),cL h1,Bool.true_and];have e1:W ((j:Int) - 1)=((j - 1:Nat):Int):=wN (by omega) (by omega);have e2:W ((i:Int)+1)=((i+1:Nat):Int):=wN (by omega) (by omega);cases q:bM c d[j]! d[a]!
   case false=>
    rw [if_pos (show(!false)=true from rfl)];have e:bN l0 o n (a:Int) b a3 c (wp l o d,(i:Int),(j:Int))=.inl (wp l o d,(i:Int),((j - 1:Nat):Int)):=by
     simp only [bN,iH,hZ,e1];rw [cL (show(i:Int)<=(j:Int) by omega),cond_true,cZ hl' (i:=j) (by omega),cZ hl' (i:=a) (by omega)];rw [q];rfl
    rw [aD e];exact aMx hl hn hd ha hi m (j - 1) (by omega) (by omega) (by omega)
   rw [if_neg (show ¬(!true)=true from by decide),if_neg (by omega)];refine aM ?_;simp only [bN,iH,hZ,e1,e2];rw [cL (show(i:Int)<=(j:Int) by omega),cond_true,gW hl' (i:=i) (j:=j) (by omega) (by omega),gW hl' (i:=j) (j:=a) (by omega) (by omega),cZ hl' (i:=j) (by omega),cZ hl' (i:=a) (by omega),cV (show ¬(i:Int) > (j:Int) by omega),cond_false,q];rfl
  ·have hsd:scanDown (fun x=>!bM c x d[a]!) d i j=j:=by
    cases j with
    | zero=>rfl
    | succ j=>rw [scanDown,cV h1];rfl
   rw [hsd,if_pos (by omega)];refine aM ?_;simp only [bN,iH];rw [cV (show ¬(i:Int)<=(j:Int) by omega),cond_false,cL (show(i:Int) > (j:Int) by omega),cond_true,gW hl' (i:=j) (j:=a) (by omega) (by omega)]
theorem aMy (hl:o+n<=l.length)(hn:n<=1048576)(ha:a < n):∀(m:Nat) (d:Array Int) (i j:Nat),d.size=n->a < i->i<=j+2->j < n->j+2 - i < m ->
 aE (bP l0 o n (a:Int) b a3 c) m (wp l o d,(i:Int),(j:Int))=(((partLoop (bM c) a i j d).1:Int),false,wp l o (swp (partLoop (bM c) a i j d).2 (partLoop (bM c) a i j d).1 a))
 | 0,_,_,_,_,_,_,_,h=>absurd h (fW _)
 | m+1,d,i,j,hd,hai,hij,hj,hm=>by
  have h3:=aMw (l:=l) (l0:=l0) (c:=c) (a3:=a3) (b:=b) (a:=a) hl hn hd ha hj (tN ((j:Int)+2 - (i:Int))+1) i (by omega) (by omega);have g1:=scanUp_ge (fun x=>bM c x d[a]!) d j i;have g2:scanUp (fun x=>bM c x d[a]!) d j i<=j+2:=by
   have:=(scanUp_spec (fun x=>bM c x d[a]!) d j _ i rfl).2.1;by_cases h:i<=j+1
   ·omega
   ·rw [scanUp,cV (by omega)];simp;omega
  have h4:=aMx (l:=l) (l0:=l0) (c:=c) (a3:=a3) (b:=b) (a:=a) hl hn hd ha (i:=scanUp (fun x=>bM c x d[a]!) d j i) (by omega) (tN ((j:Int)+2 - (scanUp (fun x=>bM c x d[a]!) d j i:Nat))+1) j hj (by omega) (by omega);have g3:=scanDown_le (fun x=>!bM c x d[a]!) d (scanUp (fun x=>bM c x d[a]!) d j i) j;have e:bP l0 o n (a:Int) b a3 c (wp l o d,(i:Int),(j:Int))=aE (cF l0 o n (a:Int) b a3 c) (tN ((j:Int)+2 - (i:Int))+1) (wp l o d,(i:Int),(j:Int)):=rfl;rw [partLoop_eq];by_cases h:scanUp (fun x=>bM c x d[a]!) d j i > scanDown (fun x=>!bM c x d[a]!) d (scanUp (fun x=>bM c x d[a]!) d j i) j
  ·rw [if_pos h] at h4 ⊢;exact aM (e.trans (h3.trans h4))
  ·rw [if_neg h] at h4 ⊢;rw [aD (e.trans (h3.trans h4))];exact aMy hl hn ha m _ _ _ (by rw [Go.Sort.size_swp];exact hd) (by omega) (by omega) (by omega) (by omega)
theorem aQ3 (hl:o+n<=l.length)(hn:n<=1048576)(hd:d.size=n) {b p:Nat} (hap:a<=p)(hpb:p < b)(hb:b<=n) :
 aF (wp l o d) o n (a:Int) (b:Int) (p:Int) c=(((partition (bM c) d a b p).1:Int),(partition (bM c) d a b p).2.1,wp l o (partition (bM c) d a b p).2.2):=by
 have hl':o+d.size<=l.length:=by omega
 have hds:(swp d a p).size=n:=by rw [Go.Sort.size_swp];exact hd
 unfold aF partition;dsimp only;rw [iH,iH,gW hl' (i:=a) (j:=p) (by omega) (by omega),wN (x:=(a:Int)+1) (n:=a+1) (by omega) (by omega),wN (x:=(b:Int) - 1) (n:=b - 1) (by omega) (by omega)];generalize swp d a p=d at hds ⊢;rw [aMu (l:=l) (a:=a) hl hn hds (by omega) (j:=b - 1) (by omega) _ (a+1) (by omega) (by omega)];have g1:=scanUp_ge (fun x=>bM c x d[a]!) d (b - 1) (a+1);have g2:=(scanUp_spec (fun x=>bM c x d[a]!) d (b - 1) _ (a+1) rfl).2.1 (by omega);rw [aMv (l:=l) (a:=a) hl hn hds (by omega) (i:=scanUp (fun x=>bM c x d[a]!) d (b - 1) (a+1)) (by omega) _ (b - 1) (by omega) (by omega) (by omega)];have g3:=scanDown_le (fun x=>!bM c x d[a]!) d (scanUp (fun x=>bM c x d[a]!) d (b - 1) (a+1)) (b - 1);generalize scanUp (fun x=>bM c x d[a]!) d (b - 1) (a+1)=i at g1 g2 g3 ⊢;by_cases h:i > scanDown (fun x=>!bM c x d[a]!) d i (b - 1)
 ·rw [if_pos h,if_pos h]
 ·rw [if_neg h,if_neg h,aMy hl hn (by omega) _ _ _ _ (by rw [Go.Sort.size_swp];exact hds) (by omega) (by omega) (by omega) (by omega)]
theorem aMz (hl:o+n<=l.length)(hn:n<=1048576)(hd:d.size=n)(ha:a < n) {j:Nat} (hj:j < n):∀(m i:Nat),i<=1048577->j+2 - i < m ->
 aE (cR l0 o n (a:Int) b a3 c) m (wp l o d,(i:Int),(j:Int))=(aE (bS l0 o n (a:Int) b a3 c) (tN ((j:Int)+2 - (scanUp (fun x=>!bM c d[a]! x) d j i:Nat))+1) (wp l o d,((scanUp (fun x=>!bM c d[a]! x) d j i:Nat):Int),(j:Int)))
 | 0,_,_,h=>absurd h (fW _)
 | m+1,i,hi,hm=>by
  have hl':o+d.size<=l.length:=by omega
  rw [scanUp];by_cases h1:i<=j
  ·rw [cL h1,Bool.true_and];have e:cR l0 o n (a:Int) b a3 c (wp l o d,(i:Int),(j:Int))=bif (!bM c d[a]! d[i]!) then .inl (wp l o d,((i+1:Nat):Int),(j:Int)) else .inr (aE (bS l0 o n (a:Int) b a3 c) (tN ((j:Int)+2 - (i:Int))+1) (wp l o d,(i:Int),(j:Int))):=by
    simp only [cR,iH,hZ];rw [cL (show(i:Int)<=(j:Int) by omega),cond_true,cZ hl' (i:=i) (by omega),cZ hl' (i:=a) (by omega)];rfl
   cases q:bM c d[a]! d[i]!
   case false=>rw [q] at e;rw [aD (e.trans (by rfl)),if_pos (show(!false)=true from rfl)];exact aMz hl hn hd ha hj m (i+1) (by omega) (by omega)
   rw [q] at e;rw [if_neg (show ¬(!true)=true from by decide)];exact aM (e.trans (by rfl))
  ·rw [cV h1,Bool.false_and,if_neg Bool.false_ne_true];refine aM ?_;simp only [cR];rw [cV (show ¬(i:Int)<=(j:Int) by omega),cond_false]
theorem aM0 (hl:o+n<=l.length)(hn:n<=1048576)(hd:d.size=n)(ha:a < n) {i:Nat} (hi:1<=i/\i<=n+1):∀(m j:Nat),j < n->i<=j+2->j+2 - i < m ->
 aE (bS l0 o n (a:Int) b a3 c) m (wp l o d,(i:Int),(j:Int))=(if i > scanDown (fun x=>bM c d[a]! x) d i j then .inr ((i:Int),wp l o d) else .inl (wp l o (swp d i (scanDown (fun x=>bM c d[a]! x) d i j)),((i+1:Nat):Int),((scanDown (fun x=>bM c d[a]! x) d i j - 1:Nat):Int)))
 | 0,_,_,_,h=>absurd h (fW _)
 | m+1,j,hj,hij,hm=>by
  have hl':o+d.size<=l.length:=by omega
  by_cases h1:i<=j
  ·rw [qI _ _ _ _ (by omega),cL h1,Bool.true_and];have e1:W ((j:Int) - 1)=((j - 1:Nat):Int):=wN (by omega) (by omega);have e2:W ((i:Int)+1)=((i+1:Nat):Int):=wN (by omega) (by omega);cases q:bM c d[a]! d[j]!
   case true=>
    rw [if_pos (show(true)=true from rfl)];have e:bS l0 o n (a:Int) b a3 c (wp l o d,(i:Int),(j:Int))=.inl (wp l o d,(i:Int),((j - 1:Nat):Int)):=by
     simp only [bS,iH,hZ,e1];rw [cL (show(i:Int)<=(j:Int) by omega),cond_true,cZ hl' (i:=j) (by omega),cZ hl' (i:=a) (by omega)];rw [q];rfl
    rw [aD e];exact aM0 hl hn hd ha hi m (j - 1) (by omega) (by omega) (by omega)
   rw [if_neg (show ¬(false)=true from by decide),if_neg (by omega)];refine aM ?_;simp only [bS,iH,hZ,e1,e2];rw [cL (show(i:Int)<=(j:Int) by omega),cond_true,gW hl' (i:=i) (j:=j) (by omega) (by omega),cZ hl' (i:=j) (by omega),cZ hl' (i:=a) (by omega),cV (show ¬(i:Int) > (j:Int) by omega),cond_false,q];rfl
  ·have hsd:scanDown (fun x=>bM c d[a]! x) d i j=j:=by
    cases j with
    | zero=>rfl
    | succ j=>rw [scanDown,cV h1];rfl
   rw [hsd,if_pos (by omega)];refine aM ?_;simp only [bS,iH];rw [cV (show ¬(i:Int)<=(j:Int) by omega),cond_false,cL (show(i:Int) > (j:Int) by omega),cond_true]
theorem aM1 (hl:o+n<=l.length)(hn:n<=1048576)(ha:a < n):∀(m:Nat) (d:Array Int) (i j:Nat),d.size=n->a < i->i<=j+2->j < n->j+2 - i < m ->
 aE (cG l0 o n (a:Int) b a3 c) m (wp l o d,(i:Int),(j:Int))=(((partEqLoop (bM c) a i j d).1:Int),wp l o (partEqLoop (bM c) a i j d).2)
 | 0,_,_,_,_,_,_,_,h=>absurd h (fW _)
 | m+1,d,i,j,hd,hai,hij,hj,hm=>by
  have h3:=aMz (l:=l) (l0:=l0) (c:=c) (a3:=a3) (b:=b) (a:=a) hl hn hd ha hj (tN ((j:Int)+2 - (i:Int))+1) i (by omega) (by omega);have g1:=scanUp_ge (fun x=>!bM c d[a]! x) d j i;have g2:scanUp (fun x=>!bM c d[a]! x) d j i<=j+2:=by
   have:=(scanUp_spec (fun x=>!bM c d[a]! x) d j _ i rfl).2.1;by_cases h:i<=j+1
   ·omega
   ·rw [scanUp,cV (by omega)];simp;omega
  have h4:=aM0 (l:=l) (l0:=l0) (c:=c) (a3:=a3) (b:=b) (a:=a) hl hn hd ha (i:=scanUp (fun x=>!bM c d[a]! x) d j i) (by omega) (tN ((j:Int)+2 - (scanUp (fun x=>!bM c d[a]! x) d j i:Nat))+1) j hj (by omega) (by omega);have g3:=scanDown_le (fun x=>bM c d[a]! x) d (scanUp (fun x=>!bM c d[a]! x) d j i) j;have e:cG l0 o n (a:Int) b a3 c (wp l o d,(i:Int),(j:Int))=aE (cR l0 o n (a:Int) b a3 c) (tN ((j:Int)+2 - (i:Int))+1) (wp l o d,(i:Int),(j:Int)):=rfl;rw [partEqLoop_eq];by_cases h:scanUp (fun x=>!bM c d[a]! x) d j i > scanDown (fun x=>bM c d[a]! x) d (scanUp (fun x=>!bM c d[a]! x) d j i) j
  ·rw [if_pos h] at h4 ⊢;exact aM (e.trans (h3.trans h4))
  ·rw [if_neg h] at h4 ⊢;rw [aD (e.trans (h3.trans h4))];exact aM1 hl hn ha m _ _ _ (by rw [Go.Sort.size_swp];exact hd) (by omega) (by omega) (by omega) (by omega)
theorem aQ4 (hl:o+n<=l.length)(hn:n<=1048576)(hd:d.size=n) {b p:Nat} (hap:a<=p)(hpb:p < b)(hb:b<=n) :
 cM (wp l o d) o n (a:Int) (b:Int) (p:Int) c=(((partitionEqual (bM c) d a b p).1:Int),wp l o (partitionEqual (bM c) d a b p).2):=by
 have hl':o+d.size<=l.length:=by omega
 unfold cM partitionEqual;rw [iH,iH,gW hl' (i:=a) (j:=p) (by omega) (by omega),wN (x:=(a:Int)+1) (n:=a+1) (by omega) (by omega),wN (x:=(b:Int) - 1) (n:=b - 1) (by omega) (by omega)];exact aM1 hl hn (by omega) _ _ _ _ (by rw [Go.Sort.size_swp];exact hd) (by omega) (by omega) (by omega) (by omega)
end
end Go.Proofs.YtlffahoikfahlaaGreat
namespace Go.Proofs.YtlffahoikfahlaaGreat
open Go.Proofs Go.Aw Go.RowKit
set_option maxRecDepth 100000
section
open Go.Sort
variable {o n a b : Nat} {l l0 : ZL} {c : sH} {d : Array Int}
theorem tM (lt:Int->Int->Bool):∀(j:Nat) (d:Array Int),(shiftDown lt j d).size=d.size
 | 0,d=>rfl
 | j+1,d=>by
  rw [shiftDown];split
  ·rfl
  ·rw [tM lt j,Go.Sort.size_swp]
theorem xL (lt:Int->Int->Bool)(b:Nat):∀(m j:Nat) (d:Array Int),b - j<=m->(shiftUp lt b j d).size=d.size
 | 0,j,d,h=>by rw [shiftUp,if_neg (by omega)]
 | m+1,j,d,h=>by
  rw [shiftUp];split
  ·split
   ·rfl
   ·rw [xL lt b m _ _ (by omega),Go.Sort.size_swp]
  ·rfl
theorem xM (lt:Int->Int->Bool)(a i:Nat)(d:Array Int):(fixDown lt a i d).size=d.size:=by
 unfold fixDown;split
 ·exact tM _ _ _
 ·rfl
theorem aC1 (lt:Int->Int->Bool)(b i:Nat)(d:Array Int):(fixUp lt b i d).size=d.size:=by
 unfold fixUp;split
 ·exact xL _ _ _ _ _ (Nat.le_refl _)
 ·rfl
theorem aM2 (hl:o+n<=l.length)(hn:n<=1048576)(hb:b<=n) {i s:Int}:∀(m:Nat) (d:Array Int) (j:Nat),d.size=n->1<=j->j<=n->b - j < m ->
 aE (bU l0 o n (a:Int) (b:Int) c) m (wp l o d,i,s,(j:Int))=.inl (wp l o (shiftUp (bM c) b j d),i,s+1)
 | 0,_,_,_,_,_,h=>absurd h (fW _)
 | m+1,d,j,hd,hj,hjn,hm=>by
  have hl':o+d.size<=l.length:=by omega
  have e1:W ((j:Int) - 1)=((j - 1:Nat):Int):=wN (by omega) (by omega);rw [shiftUp];by_cases h1:j < b
  ·rw [if_pos h1];have e:bU l0 o n (a:Int) (b:Int) c (wp l o d,i,s,(j:Int))=bif !bM c d[j]! d[j - 1]! then .inr (.inl (wp l o d,i,s+1)) else .inl (wp l o (swp d j (j - 1)),i,s,((j+1:Nat):Int)):=by
    simp only [bU,iH,hZ,e1];rw [cL (show(j:Int) < (b:Int) by omega),cond_true,gW hl' (i:=j) (j:=j - 1) (by omega) (by omega),cZ hl' (i:=j) (by omega),cZ hl' (i:=j - 1) (by omega)];rfl
   cases q:bM c d[j]! d[j - 1]!
   case true=>rw [q] at e;rw [aD (e.trans (by rfl)),if_neg (show ¬(!true)=true by decide)];exact aM2 hl hn hb m _ (j+1) (by rw [Go.Sort.size_swp];exact hd) (by omega) (by omega) (by omega)
   rw [q] at e;rw [if_pos (show(!false)=true from rfl)];exact aM (e.trans (by rfl))
  ·rw [if_neg h1];refine aM ?_;simp only [bU];rw [cV (show ¬(j:Int) < (b:Int) by omega),cond_false]
theorem aZ8 (hl:o+n<=l.length)(hn:n<=1048576)(hb:b<=n) {s:Int} {i:Nat} (hd:d.size=n)(hi:i<=b) :
 (bif decide (W ((b:Int) - (i:Int))≥2) then(aE (bU l0 o n (a:Int) (b:Int) c) (tN ((b:Int) - ((i:Int)+1))+1) (wp l o d,(i:Int),s,(i:Int)+1)) else .inl (wp l o d,(i:Int),s+1))=.inl (wp l o (fixUp (bM c) b i d),(i:Int),s+1):=by
 rw [wN (x:=(b:Int) - (i:Int)) (n:=b - i) (by omega) (by omega)];unfold fixUp;by_cases h:b - i≥2
 ·rw [cL (show((b - i:Nat):Int)≥2 by omega),cond_true,if_pos h];exact aM2 (i:=(i:Int)) hl hn hb _ d (i+1) hd (by omega) (by omega) (by omega)
 ·rw [cV (show ¬((b - i:Nat):Int)≥2 by omega),cond_false,if_neg h]
theorem aVu (hl:o+n<=l.length)(hn:n<=1048576)(hb:b<=n) {s:Int} {i:Nat} (hd:d.size=n)(hi:i<=b) :
 (bif decide (W ((b:Int) - (i:Int))≥2) then Sum.inr (aE (bU l0 o n (a:Int) (b:Int) c) (tN ((b:Int) - ((i:Int)+1))+1) (wp l o d,(i:Int),s,(i:Int)+1)) else Sum.inr (Sum.inl (wp l o d,(i:Int),s+1)):(ZL×Zt)⊕((ZL×Int×Int)⊕(Bool×ZL)))=.inr (.inl (wp l o (fixUp (bM c) b i d),(i:Int),s+1)):=by
 rw [←aZ8 (l0:=l0) (a:=a) hl hn hb hd hi];cases decide (W ((b:Int) - (i:Int))≥2)<;>rfl
theorem aM3 (hl:o+n<=l.length)(hn:n<=1048576)(hb:b<=n) {s:Int} {i:Nat} (hi:i<=b):∀(m:Nat) (d:Array Int) (j:Nat),d.size=n->j < n->j < m ->
 aE (bV l0 o n (a:Int) (b:Int) c) m (wp l o d,(i:Int),s,(j:Int))=.inl (wp l o (fixUp (bM c) b i (shiftDown (bM c) j d)),(i:Int),s+1)
 | 0,_,_,_,_,h=>absurd h (fW _)
 | m+1,d,0,hd,hj,hm=>by
  refine aM ?_;simp only [bV];rw [cV (show ¬((0:Nat):Int)≥1 by omega),cond_false];exact aVu hl hn hb hd hi
 | m+1,d,j+1,hd,hj,hm=>by
  have hl':o+d.size<=l.length:=by omega
  have e1:W (((j+1:Nat):Int) - 1)=((j:Nat):Int):=wN (by omega) (by omega);rw [shiftDown];have e:bV l0 o n (a:Int) (b:Int) c (wp l o d,(i:Int),s,((j+1:Nat):Int))=bif !bM c d[j+1]! d[j]! then .inr (.inl (wp l o (fixUp (bM c) b i d),(i:Int),s+1)) else .inl (wp l o (swp d (j+1) j),(i:Int),s,(j:Int)):=by
   simp only [bV,iH,hZ,e1];rw [cL (show((j+1:Nat):Int)≥1 by omega),cond_true,gW hl' (i:=j+1) (j:=j) (by omega) (by omega),cZ hl' (i:=j+1) (by omega),cZ hl' (i:=j) (by omega)];exact congrArg (fun z=>bif !bM c d[j+1]! d[j]! then z else _) (aVu (l0:=l0) (a:=a) (c:=c) hl hn hb hd hi)
  cases q:bM c d[j+1]! d[j]!
  case true=>rw [q] at e;rw [aD (e.trans (by rfl)),if_neg (show ¬(!true)=true by decide)];exact aM3 hl hn hb hi m _ j (by rw [Go.Sort.size_swp];exact hd) (by omega) (by omega)
  rw [q] at e;rw [if_pos (show(!false)=true from rfl)];exact aM (e.trans (by rfl))
def aQ5 (l:ZL)(o a b:Nat)(c:sH)(d:Array Int)(k:Nat)(s:Int):(ZL×Int×Int)⊕(Bool×ZL) := if k=b then .inr (true,wp l o d)else if b - a < 50 then .inr (false,wp l o d)else .inl (wp l o (fixUp (bM c) b k (fixDown (bM c) a k (swp d k (k - 1)))),(k:Int),s+1)
theorem bCu (hl:o+n<=l.length)(hn:n<=1048576)(hb:b<=n) {s:Int} {k:Nat} (hd:d.size=n)(hk:a < k)(hkb:k<=b) :
 (bif ((k:Int) == (b:Int)) then Sum.inr (Sum.inr (true,wp l o d)) else bif decide (W ((b:Int) - (a:Int)) < 50) then Sum.inr (Sum.inr (false,wp l o d)) else
  bif decide (W ((k:Int) - (a:Int))≥2) then Sum.inr (aE (bV l0 o n (a:Int) (b:Int) c) (tN ((k - 1:Nat):Int)+1) ((((wp l o d).set (o+k) ((wp l o d).getD (o+(k - 1)) dF)).set (o+(k - 1)) ((wp l o d).getD (o+k) dF)),(k:Int),s,((k - 1:Nat):Int)))
  else bif decide (W ((b:Int) - (k:Int))≥2) then Sum.inr (aE (bU l0 o n (a:Int) (b:Int) c) (tN ((b:Int) - ((k:Int)+1))+1) ((((wp l o d).set (o+k) ((wp l o d).getD (o+(k - 1)) dF)).set (o+(k - 1)) ((wp l o d).getD (o+k) dF)),(k:Int),s,(k:Int)+1)) else Sum.inr (Sum.inl ((((wp l o d).set (o+k) ((wp l o d).getD (o+(k - 1)) dF)).set (o+(k - 1)) ((wp l o d).getD (o+k) dF)),(k:Int),s+1)) :
  (ZL×Int×Int)⊕((ZL×Int×Int)⊕(Bool×ZL)))=.inr (aQ5 l o a b c d k s):=by
 have hl':o+d.size<=l.length:=by omega
 unfold aQ5;by_cases h1:k=b
 ·rw [if_pos h1,show((k:Int) == (b:Int))=true by simp;omega];rfl
 ·rw [if_neg h1,show((k:Int) == (b:Int))=false by simp;omega,cond_false,wN (x:=(b:Int) - (a:Int)) (n:=b - a) (by omega) (by omega)];by_cases h2:b - a < 50
  ·rw [if_pos h2,cL (by omega)];rfl
  ·rw [if_neg h2,cV (by omega),cond_false,gW hl' (i:=k) (j:=k - 1) (by omega) (by omega),wN (x:=(k:Int) - (a:Int)) (n:=k - a) (by omega) (by omega)];have hds:(swp d k (k - 1)).size=n:=by rw [Go.Sort.size_swp];exact hd
   unfold fixDown;by_cases h3:k - a≥2
   ·rw [cL (show((k - a:Nat):Int)≥2 by omega),cond_true,if_pos h3,aM3 hl hn hb hkb _ _ (k - 1) hds (by omega) (by omega)]
   ·rw [cV (show ¬((k - a:Nat):Int)≥2 by omega),cond_false,if_neg h3];have:=aZ8 (l0:=l0) (a:=a) (c:=c) (s:=s) hl hn hb hds hkb;rw [←this];cases decide (W ((b:Int) - (k:Int))≥2)<;>rfl
theorem aM4 (hl:o+n<=l.length)(hn:n<=1048576)(hb:b<=n)(hd:d.size=n) {s:Int}:∀(m i:Nat),a < i->i<=b->b - i < m ->
 aE (aZ l0 o n (a:Int) (b:Int) c) m (wp l o d,(i:Int),s)=aQ5 l o a b c d (scanSorted (bM c) d b i) s
 | 0,_,_,_,h=>absurd h (fW _)
 | m+1,i,hai,hib,hm=>by
  have hl':o+d.size<=l.length:=by omega
  have e1:W ((i:Int) - 1)=((i - 1:Nat):Int):=wN (by omega) (by omega);rw [scanSorted];have hT:=bCu (l0:=l0) (c:=c) (s:=s) hl hn hb hd hai hib;by_cases h1:i < b
  ·rw [cL h1,Bool.true_and];cases q:bM c d[i]! d[i - 1]!
   case true=>rw [if_neg (show ¬(!true)=true by decide)];refine aM ?_;simp only [aZ,iH,hZ,e1];rw [cL (show(i:Int) < (b:Int) by omega),cond_true];rw [show(!bM c ((wp l o d).getD (o+i) dF) ((wp l o d).getD (o+(i - 1)) dF))=false by rw [cZ hl' (by omega),cZ hl' (by omega),q];rfl,cond_false];exact hT
   rw [if_pos (show(!false)=true from rfl)];have e:aZ l0 o n (a:Int) (b:Int) c (wp l o d,(i:Int),s)=.inl (wp l o d,((i+1:Nat):Int),s):=by
    simp only [aZ,iH,hZ,e1];rw [cL (show(i:Int) < (b:Int) by omega),cond_true];rw [show(!bM c ((wp l o d).getD (o+i) dF) ((wp l o d).getD (o+(i - 1)) dF))=true by rw [cZ hl' (by omega),cZ hl' (by omega),q];rfl,cond_true];rfl
   rw [aD e];exact aM4 hl hn hb hd m (i+1) (by omega) (by omega) (by omega)
  ·rw [cV h1,Bool.false_and,if_neg Bool.false_ne_true];refine aM ?_;simp only [aZ,iH,hZ,e1];rw [cV (show ¬(i:Int) < (b:Int) by omega),cond_false];exact hT
theorem oW (lt:Int->Int->Bool)(d:Array Int)(b:Nat):∀(m i:Nat),b - i<=m->i<=b->i<=scanSorted lt d b i/\scanSorted lt d b i<=b
 | 0,i,h,hi=>by rw [scanSorted,cV (by omega),Bool.false_and,if_neg Bool.false_ne_true];exact⟨Nat.le_refl _,hi⟩
 | m+1,i,h,hi=>by
  rw [scanSorted];split
  ·rename_i hc;simp at hc;have:=oW lt d b m (i+1) (by omega) (by omega);omega
  ·exact⟨Nat.le_refl _,hi⟩
theorem aM5 (hl:o+n<=l.length)(hn:n<=1048576)(hb:b<=n):∀(k m:Nat) (d:Array Int) (i:Nat) (s:Int),d.size=n->a < i->i<=b->s+k=5->k < m ->
 aE (bL l0 o n (a:Int) (b:Int) c) m (wp l o d,(i:Int),s)=((partialIns (bM c) a b k i d).2,wp l o (partialIns (bM c) a b k i d).1)/\(partialIns (bM c) a b k i d).1.size=n
 | 0,m+1,d,i,s,hd,hai,hib,hs,hm=>by
  refine⟨aM ?_,hd⟩;simp only [bL];rw [cV (show ¬s < 5 by omega),cond_false];rfl
 | k+1,m+1,d,i,s,hd,hai,hib,hs,hm=>by
  have e:bL l0 o n (a:Int) (b:Int) c (wp l o d,(i:Int),s)=aQ5 l o a b c d (scanSorted (bM c) d b i) s:=by
   simp only [bL];rw [cL (show s < 5 by omega),cond_true];exact aM4 hl hn hb hd _ i hai hib (by omega)
  rw [partialIns_succ];have hr:=oW (bM c) d b _ i (Nat.le_refl _) hib;generalize scanSorted (bM c) d b i=q at e hr ⊢;unfold aQ5 at e;by_cases h1:q=b
  ·rw [if_pos h1] at e ⊢;exact⟨aM e,hd⟩
  ·rw [if_neg h1] at e ⊢;by_cases h2:b - a < 50
   ·rw [if_pos h2] at e ⊢;exact⟨aM e,hd⟩
   ·rw [if_neg h2] at e ⊢;rw [aD e];exact aM5 hl hn hb k m _ q (s+1) (by rw [aC1,xM,Go.Sort.size_swp];exact hd) (by omega) hr.2 (by omega) (by omega)
theorem aQ6 (hl:o+n<=l.length)(hn:n<=1048576)(hd:d.size=n)(hab:a < b)(hb:b<=n) :
 cE (wp l o d) o n (a:Int) (b:Int) c=((partialInsertionSort (bM c) d a b).2,wp l o (partialInsertionSort (bM c) d a b).1)/\(partialInsertionSort (bM c) d a b).1.size=n:=by
 unfold cE partialInsertionSort;rw [wN (x:=(a:Int)+1) (n:=a+1) (by omega) (by omega)];exact aM5 hl hn hb 5 _ d (a+1) 0 hd (by omega) (by omega) (by omega) (by decide)
end
end Go.Proofs.YtlffahoikfahlaaGreat
namespace Go.Proofs.YtlffahoikfahlaaGreat
open Go.Proofs Go.Aw Go.RowKit
set_option maxRecDepth 100000
section
open Go.Sort
variable {o n a b : Nat} {l l0 : ZL} {c : sH} {d : Array Int}
theorem aQ7 (hl:o+n<=l.length)(hd:d.size=n) {x y s:Nat} (hx:x < n)(hy:y < n)(hs:s<=1000) :
 aN (wp l o d) o n (x:Int) (y:Int) (s:Int) c=(((order2 (bM c) d x y s).1:Int),((order2 (bM c) d x y s).2.1:Int),((order2 (bM c) d x y s).2.2:Int))/\(order2 (bM c) d x y s).2.2<=s+1:=by
 have hl':o+d.size<=l.length:=by omega
 unfold aN order2;rw [hZ,iH,iH,cZ hl' (by omega),cZ hl' (by omega)];cases bM c d[y]! d[x]!
 case true=>rw [cond_true,if_pos rfl];exact⟨by rw [wN (x:=(s:Int)+1) (n:=s+1) (by omega) (by omega)],Nat.le_refl _⟩
 rw [cond_false,if_neg Bool.false_ne_true];exact⟨rfl,Nat.le_succ _⟩
theorem aQ8 (hl:o+n<=l.length)(hd:d.size=n) {x y z s:Nat} (hx:x < n)(hy:y < n)(hz:z < n)(hs:s<=900) :
 dH (wp l o d) o n (x:Int) (y:Int) (z:Int) (s:Int) c=(((median (bM c) d x y z s).1:Int),((median (bM c) d x y z s).2:Int))/\(median (bM c) d x y z s).2<=s+3:=by
 unfold dH median;simp only [aQu];have h1:=aQ7 (c:=c) hl hd hx hy (s:=s) (by omega);have m1:=order2_mem (bM c) d x y s;rw [h1.1];generalize order2 (bM c) d x y s=r1 at h1 m1 ⊢;have h2:=aQ7 (c:=c) hl hd (x:=r1.2.1) (y:=z) (s:=r1.2.2) (by omega) hz (by omega);have m2:=order2_mem (bM c) d r1.2.1 z r1.2.2;rw [h2.1];generalize order2 (bM c) d r1.2.1 z r1.2.2=r2 at h2 m2 ⊢;have h3:=aQ7 (c:=c) hl hd (x:=r1.1) (y:=r2.1) (s:=r2.2.2) (by omega) (by omega) (by omega);rw [h3.1];exact⟨rfl,by omega⟩
theorem aQ9 (hl:o+n<=l.length)(hn:n<=1048576)(hd:d.size=n) {x s:Nat} (hx:1<=x)(hx2:x+1 < n)(hs:s<=900) :
 dI (wp l o d) o n (x:Int) (s:Int) c=(((medianAdjacent (bM c) d x s).1:Int),((medianAdjacent (bM c) d x s).2:Int))/\(medianAdjacent (bM c) d x s).2<=s+3:=by
 have h:=aQ8 (c:=((c.1.1,c.1.2.1,(wp l o d,c.1.2.2.2)),c.2)) hl hd (x:=x - 1) (y:=x) (z:=x+1) (s:=s) (by omega) (by omega) (by omega) hs;unfold dI;rw [wN (x:=(x:Int) - 1) (n:=x - 1) (by omega) (by omega),wN (x:=(x:Int)+1) (n:=x+1) (by omega) (by omega),h.1];exact⟨rfl,h.2⟩
theorem aXq (v0 v:ZL)(x y z s:Int):dH v0 o n x y z s ((c.1.1,c.1.2.1,(v,c.1.2.2.2)),c.2)=dH v0 o n x y z s c:=rfl
theorem aXr (v0 v:ZL)(x s:Int):dI v0 o n x s ((c.1.1,c.1.2.1,(v,c.1.2.2.2)),c.2)=dI v0 o n x s c:=rfl
def aM6:Hint->Int | .unknown=>0 | .increasing=>1 | .decreasing=>2
theorem aM7 (r:Nat×Nat):(bif (((r.2:Nat):Int) == 0) then(((r.1:Nat):Int),(1:Int)) else bif (((r.2:Nat):Int) == 12) then(((r.1:Nat):Int),2) else(((r.1:Nat):Int),0))=((r.1:Int),aM6 (if r.2=0 then .increasing else if r.2=12 then .decreasing else .unknown)):=by
 by_cases h:r.2=0
 ·rw [if_pos h,h];rfl
 ·rw [if_neg h,show(((r.2:Nat):Int) == 0)=false by simp;omega,cond_false];by_cases h2:r.2=12
  ·rw [if_pos h2,h2];rfl
  ·rw [if_neg h2,show(((r.2:Nat):Int) == 12)=false by simp;omega,cond_false];rfl
theorem aRa (hl:o+n<=l.length)(hn:n<=1048576)(hd:d.size=n)(hab:a < b)(hb:b<=n) :
 aY (wp l o d) o n (a:Int) (b:Int) c=(((choosePivot (bM c) d a b).1:Int),aM6 (choosePivot (bM c) d a b).2):=by
 have hw:W ((b:Int) - (a:Int))=((b - a:Nat):Int):=wN (by omega) (by omega);have hq:W (tD ((b - a:Nat):Int) 4)=(((b - a) / 4:Nat):Int):=by rw [aFe (by omega)];omega
 have hk:∀k:Nat,k<=3->W ((a:Int)+(W ((((b - a) / 4:Nat):Int)*(k:Int))))=((a+(b - a) / 4*k:Nat):Int):=fun k hk=>by
  rw [wN (x:=(((b - a) / 4:Nat):Int)*(k:Int)) (n:=(b - a) / 4*k) (by push_cast;rfl) (Nat.le_trans (Nat.mul_le_mul_left _ hk) (by omega))];exact wN (by push_cast;rfl) (by have:=Nat.mul_le_mul_left ((b - a) / 4) hk;omega)
 have hk1:=hk 1 (by omega);have hk2:=hk 2 (by omega);have hk3:=hk 3 (by omega);simp only [Int.natCast_one] at hk1;rw [show((2:Nat):Int)=2 from rfl] at hk2;rw [show((3:Nat):Int)=3 from rfl] at hk3;unfold aY choosePivot;simp only [gC,gB,bH,bG,bF];simp only [aXr,aXq];rw [hw,hq,hk1,hk2,hk3];by_cases h8:b - a≥8
 ·rw [cL (show((b - a:Nat):Int)≥8 by omega),cond_true,if_pos h8];by_cases h50:b - a≥50
  ·rw [cL (show((b - a:Nat):Int)≥50 by omega),cond_true,if_pos h50];have g1:=aQ9 (c:=c) hl hn hd (x:=a+(b - a) / 4*1) (s:=0) (by omega) (by omega) (by omega);have m1:(medianAdjacent (bM c) d (a+(b - a) / 4*1) 0).1 < n:=by rcases medianAdjacent_mem (bM c) d (a+(b - a) / 4*1) 0 with h | h | h<;>omega
   rw [Int.natCast_zero] at g1;rw [g1.1];generalize medianAdjacent (bM c) d (a+(b - a) / 4*1) 0=r1 at g1 m1 ⊢;have g2:=aQ9 (c:=c) hl hn hd (x:=a+(b - a) / 4*2) (s:=r1.2) (by omega) (by omega) (by omega);have m2:(medianAdjacent (bM c) d (a+(b - a) / 4*2) r1.2).1 < n:=by rcases medianAdjacent_mem (bM c) d (a+(b - a) / 4*2) r1.2 with h | h | h<;>omega
   rw [g2.1];generalize medianAdjacent (bM c) d (a+(b - a) / 4*2) r1.2=r2 at g2 m2 ⊢;have g3:=aQ9 (c:=c) hl hn hd (x:=a+(b - a) / 4*3) (s:=r2.2) (by omega) (by omega) (by omega);have m3:(medianAdjacent (bM c) d (a+(b - a) / 4*3) r2.2).1 < n:=by rcases medianAdjacent_mem (bM c) d (a+(b - a) / 4*3) r2.2 with h | h | h<;>omega
   rw [g3.1];generalize medianAdjacent (bM c) d (a+(b - a) / 4*3) r2.2=r3 at g3 m3 ⊢;have g4:=aQ8 (c:=c) hl hd (x:=r1.1) (y:=r2.1) (z:=r3.1) (s:=r3.2) m1 m2 m3 (by omega);rw [g4.1];exact aM7 _
  ·rw [cV (show ¬((b - a:Nat):Int)≥50 by omega),cond_false,if_neg h50];have g4:=aQ8 (c:=c) hl hd (x:=a+(b - a) / 4*1) (y:=a+(b - a) / 4*2) (z:=a+(b - a) / 4*3) (s:=0) (by omega) (by omega) (by omega) (by omega);rw [Int.natCast_zero] at g4;rw [g4.1];exact aM7 _
 ·rw [cV (show ¬((b - a:Nat):Int)≥8 by omega),cond_false,if_neg h8];rfl
theorem aRb {x y:Nat} (hx:x < 18446744073709551616)(hy:y < 18446744073709551616):iW .u64 ((bO 64 (x:Int) ^^^ bO 64 (y:Int)).toNat:Int)=((x ^^^ y:Nat):Int):=by
 have h:x ^^^ y < 2 ^ 64:=Nat.xor_lt_two_pow (by omega) (by omega);rw [BitVec.toNat_xor,BitVec.toNat_ofInt,BitVec.toNat_ofInt,show((x:Int) % ((2 ^ 64:Nat):Int)).toNat=x by omega,show((y:Int) % ((2 ^ 64:Nat):Int)).toNat=y by omega,IntKind.wrap_u64];omega
theorem aZ9 {x:Nat} (hx:x < 18446744073709551616):fC (x:Int)=(((xorNextN x:Nat):Int),((xorNextN x:Nat):Int)):=by
 have e1:iW .u64 ((bO 64 (x:Int) ^^^ bO 64 (iW .u64 ((x:Int)*2 ^ (min (tN 13) 64)))).toNat:Int)=((x ^^^ (x*8192 % 18446744073709551616):Nat):Int):=by
  rw [show(2:Int) ^ (min (tN 13) 64)=8192 from by decide,IntKind.wrap_u64 ((x:Int)*8192),show((x:Int)*8192 % 18446744073709551616)=((x*8192 % 18446744073709551616:Nat):Int) by omega];exact aRb hx (by omega)
 unfold fC xorNextN;simp only [e1];obtain⟨A,hA⟩:∃A:Nat,A=x ^^^ (x*8192 % 18446744073709551616):=⟨_,rfl⟩;have lA:A < 18446744073709551616:=by rw [hA];exact Nat.xor_lt_two_pow (n:=64) (by omega) (by omega)
 rw [←hA];have e2:iW .u64 ((bO 64 (A:Int) ^^^ bO 64 (fD (A:Int) (2 ^ (min (tN 7) 64)))).toNat:Int)=((A ^^^ (A / 128):Nat):Int):=by
  rw [show(2:Int) ^ (min (tN 7) 64)=128 from by decide,Int.fdiv_eq_ediv_of_nonneg _ (by decide),show((A:Int) / 128)=((A / 128:Nat):Int) by omega];exact aRb lA (by omega)
 simp only [e2];obtain⟨B,hB⟩:∃B:Nat,B=A ^^^ (A / 128):=⟨_,rfl⟩;have lB:B < 18446744073709551616:=by rw [hB];exact Nat.xor_lt_two_pow (n:=64) (by omega) (by omega)
 rw [←hB];have e3:iW .u64 ((bO 64 (B:Int) ^^^ bO 64 (iW .u64 ((B:Int)*2 ^ (min (tN 17) 64)))).toNat:Int)=((B ^^^ (B*131072 % 18446744073709551616):Nat):Int):=by
  rw [show(2:Int) ^ (min (tN 17) 64)=131072 from by decide,IntKind.wrap_u64 ((B:Int)*131072),show((B:Int)*131072 % 18446744073709551616)=((B*131072 % 18446744073709551616:Nat):Int) by omega];exact aRb lB (by omega)
 rw [e3]
theorem aC2 (hl:o+n<=l.length)(hn:n<=1048576)(hd:d.size=n)(hab:a+8<=b)(hb:b<=n) {i:Nat} (h1:a+(b - a) / 4*2<=i+1)(h2:i<=a+(b - a) / 4*2+1)(r:UInt64) :
 eG l0 o n (a:Int) (b:Int) c (wp l o d,(i:Int),((r.toNat:Nat):Int)) =
  .inl (wp l o (breakStep a (b - a) (1 <<< bitsLen (b - a)) (r,d) i).2,((i+1:Nat):Int),(((breakStep a (b - a) (1 <<< bitsLen (b - a)) (r,d) i).1.toNat:Nat):Int))/\(breakStep a (b - a) (1 <<< bitsLen (b - a)) (r,d) i).2.size=n:=by
 have hl':o+d.size<=l.length:=by omega
 have hw:W ((b:Int) - (a:Int))=((b - a:Nat):Int):=wN (by omega) (by omega);have hq:W (tD ((b - a:Nat):Int) 4)=(((b - a) / 4:Nat):Int):=by rw [aFe (by omega)];omega
 have hA:W ((a:Int)+(W ((((b - a) / 4:Nat):Int)*2)))=((a+(b - a) / 4*2:Nat):Int):=by
  rw [wN (x:=(((b - a) / 4:Nat):Int)*2) (n:=(b - a) / 4*2) (by omega) (by omega)];exact wN (by omega) (by omega)
 have hA1:W (((a+(b - a) / 4*2:Nat):Int)+1)=((a+(b - a) / 4*2+1:Nat):Int):=wN (by omega) (by omega);have hM:=aQw (n:=b - a) (by omega) (by omega);have hxs:=aZ9 (x:=r.toNat) (by have:=r.toNat_lt;omega);have hxl:xorNextN r.toNat < 18446744073709551616:=xorNextN_lt _ (by have:=r.toNat_lt;omega);have hO:aOu ((xorNextN r.toNat:Nat):Int) (fI ((b - a:Nat):Int))=((xorNextN r.toNat &&& (1 <<< bitsLen (b - a) - 1):Nat):Int):=by
  rw [aQv (by omega),aI9 _ ⟨hM.1,by omega⟩,BitVec.toNat_ofInt];rw [show(((xorNextN r.toNat:Nat):Int) % ((2 ^ 64:Nat):Int)).toNat=xorNextN r.toNat by omega]
 unfold aOu at hO;have hle:xorNextN r.toNat &&& (1 <<< bitsLen (b - a) - 1)<=1 <<< bitsLen (b - a) - 1:=Nat.and_le_right;unfold breakStep;simp only [xorNext_toNat];generalize hoo:xorNextN r.toNat &&& (1 <<< bitsLen (b - a) - 1)=O at hO hle ⊢;simp only [eG,hw,hq,hA,hA1,hxs,hO,iH];rw [cL (show(i:Int)<=((a+(b - a) / 4*2+1:Nat):Int) by omega),cond_true];by_cases h:O≥b - a
 ·rw [cL (show(O:Int)≥((b - a:Nat):Int) by omega),cond_true,if_pos h,wN (x:=(O:Int) - ((b - a:Nat):Int)) (n:=O - (b - a)) (by omega) (by omega),wN (x:=(a:Int)+((O - (b - a):Nat):Int)) (n:=a+(O - (b - a))) (by omega) (by omega),iH,gW hl' (i:=i) (j:=a+(O - (b - a))) (by omega) (by omega)];exact⟨rfl,by rw [Go.Sort.size_swp];exact hd⟩
 ·rw [cV (show ¬(O:Int)≥((b - a:Nat):Int) by omega),cond_false,if_neg h,wN (x:=(a:Int)+(O:Int)) (n:=a+O) (by omega) (by omega),iH,gW hl' (i:=i) (j:=a+O) (by omega) (by omega)];exact⟨rfl,by rw [Go.Sort.size_swp];exact hd⟩
theorem aRc (hl:o+n<=l.length)(hn:n<=1048576)(hd:d.size=n)(hab:a<=b)(hb:b<=n) :
 eC (wp l o d) o n (a:Int) (b:Int) c=wp l o (breakPatterns d a b):=by
 have hw:W ((b:Int) - (a:Int))=((b - a:Nat):Int):=wN (by omega) (by omega);unfold eC breakPatterns;simp only [];rw [hw];by_cases h8:b - a≥8
 ·rw [cL (show((b - a:Nat):Int)≥8 by omega),cond_true,if_pos h8];have hq:W (tD ((b - a:Nat):Int) 4)=(((b - a) / 4:Nat):Int):=by rw [aFe (by omega)];omega
  have hA:W ((a:Int)+(W ((((b - a) / 4:Nat):Int)*2)))=((a+(b - a) / 4*2:Nat):Int):=by
   rw [wN (x:=(((b - a) / 4:Nat):Int)*2) (n:=(b - a) / 4*2) (by omega) (by omega)];exact wN (by omega) (by omega)
  rw [hq,hA,wN (x:=((a+(b - a) / 4*2:Nat):Int) - 1) (n:=a+(b - a) / 4*2 - 1) (by omega) (by omega)];have hr:iW .u64 ((b - a:Nat):Int)=(((UInt64.ofNat (b - a)).toNat:Nat):Int):=by
   rw [IntKind.wrap_u64,UInt64.toNat_ofNat_of_lt' (show b - a < 2 ^ 64 by omega)];omega
  rw [hr,show tN ((a:Int)+((b:Int) - (a:Int)) / 4*2+2 - ((a+(b - a) / 4*2 - 1:Nat):Int))+1=4 by omega];have s1:=aC2 (a:=a) (b:=b) (l:=l) (l0:=wp l o d) (c:=c) (d:=d) hl hn hd (by omega) hb (i:=a+(b - a) / 4*2 - 1) (by omega) (by omega) (UInt64.ofNat (b - a));rw [aD s1.1];generalize hst1:breakStep a (b - a) (1 <<< bitsLen (b - a)) (UInt64.ofNat (b - a),d) (a+(b - a) / 4*2 - 1)=st1 at s1 ⊢;obtain⟨r1,d1⟩:=st1;have s2:=aC2 (a:=a) (b:=b) (l:=l) (l0:=wp l o d) (c:=c) (d:=d1) hl hn s1.2 (by omega) hb (i:=a+(b - a) / 4*2 - 1+1) (by omega) (by omega) r1;rw [aD s2.1];generalize hst2:breakStep a (b - a) (1 <<< bitsLen (b - a)) (r1,d1) (a+(b - a) / 4*2 - 1+1)=st2 at s2 ⊢;obtain⟨r2,d2⟩:=st2;have s3:=aC2 (a:=a) (b:=b) (l:=l) (l0:=wp l o d) (c:=c) (d:=d2) hl hn s2.2 (by omega) hb (i:=a+(b - a) / 4*2 - 1+1+1) (by omega) (by omega) r2;rw [aD s3.1];refine aM ?_;simp only [eG,hw,hq,hA];rw [cV (by rw [wN (x:=((a+(b - a) / 4*2:Nat):Int)+1) (n:=a+(b - a) / 4*2+1) (by omega) (by omega)];omega),cond_false]
 ·rw [cV (show ¬((b - a:Nat):Int)≥8 by omega),cond_false,if_neg h8]
end
end Go.Proofs.YtlffahoikfahlaaGreat
namespace Go.Proofs.YtlffahoikfahlaaGreat
open Go.Proofs Go.Aw Go.RowKit
set_option maxRecDepth 100000
section
open Go.Sort
theorem aM8 (x y:Int):pX x y=if x < y then -1 else if y < x then 1 else 0:=by
 have hn:∀z:Int,aCz z=false:=fun z=>by unfold aCz;simp
 unfold pX;rw [hn,hn,cond_false,cond_false];by_cases h:x < y
 ·rw [cL h,if_pos h];rfl
 ·rw [cV h,if_neg h,cond_false];by_cases h2:y < x
  ·rw [cL (show x > y from h2),if_pos h2];rfl
  ·rw [cV (show ¬x > y from h2),if_neg h2];rfl
def kk (c:sH)(x:Int):Int:=kJ c.1 x c.2
theorem aGj (c:sH)(x y:Int):bM c x y=true↔kk c x < kk c y\/kk c x=kk c y/\x < y:=by
 have e:iB c x y=pY (pX (kk c x) (kk c y),pX x y):=rfl;unfold bM;rw [decide_eq_true_iff,e,aM8,aM8];unfold pY;by_cases h1:kk c x < kk c y
 ·simp [h1]
 ·by_cases h2:kk c y < kk c x
  ·simp [h1,h2];omega
  ·by_cases h3:x < y
   ·simp [h1,h2,h3];omega
   ·by_cases h4:y < x
    ·simp [h1,h2,h3,h4]
    ·simp [h1,h2,h3,h4]
theorem aM9 (c:sH)(x y:Int):bM c x y=false↔¬(kk c x < kk c y\/kk c x=kk c y/\x < y):=by
 rw [←aGj];simp
theorem nQ (c:sH):SWO (bM c) where
 irrefl x:=by rw [aM9];omega
 trans x y z h1 h2:=by rw [aGj] at *;omega
 ntrans x y z h1 h2:=by rw [aM9] at *;omega
theorem aUc (c:sH)(x y:Int)(h1:bM c x y=false)(h2:bM c y x=false):x=y:=by
 rw [aM9] at *;omega
def Al (p:Int->Prop)(d:Array Int):Prop:=∀i,i < d.size->p d[i]!
variable {p : Int → Prop} {d d' : Array Int} {N o n : Nat} {l v : ZL} {c : sH}
theorem Al.swp (h:Al p d) {i j:Nat} (hi:i < d.size)(hj:j < d.size):Al p (Go.Sort.swp d i j):=fun k hk=>by
 rw [Go.Sort.size_swp] at hk;rw [Go.Sort.swp_get d hi hj k];split
 ·exact h i hi
 ·split
  ·exact h j hj
  ·exact h k hk
theorem Al.perm (h:Al p d) {a b:Nat} (hb:b<=d.size)(hp:PermIn a b d d'):Al p d':=fun k hk=>by
 by_cases hin:a<=k/\k < b
 ·exact permIn_all d d' a b p hb hp (fun i h1 h2=>h i (by omega)) k hin.1 hin.2
 ·rw [hp.2.1 k (by omega)];exact h k (by rw [←hp.1];exact hk)
theorem aXs (h:o+d.size<=l.length):InR N (wp l o d)↔(∀x∈l.take o++l.drop (o+d.size),0<=x/\x < (N:Int))/\Al (fun x=>0<=x/\x < (N:Int)) d:=by
 unfold InR wp Al;constructor
 ·intro hx;refine⟨fun x hm=>hx x ?_,fun i hi=>hx _ ?_⟩
  ·rcases List.mem_append.1 hm with hm | hm
   ·exact List.mem_append_left _ (List.mem_append_left _ hm)
   ·exact List.mem_append_right _ hm
  ·refine List.mem_append_left _ (List.mem_append_right _ ?_);rw [getElem!_pos d i hi];exact Array.mem_toList_iff.2 (Array.getElem_mem hi)
 ·rintro ⟨h1,h2⟩ x hm
  rcases List.mem_append.1 hm with hm | hm
  ·rcases List.mem_append.1 hm with hm | hm
   ·exact h1 x (List.mem_append_left _ hm)
   ·obtain⟨i,hi,rfl⟩:=List.getElem_of_mem hm;have hi':i < d.size:=by simpa using hi
    have:=h2 i hi';rw [getElem!_pos d i hi'] at this;simpa using this
  ·exact h1 x (List.mem_append_right _ hm)
theorem aRd (hl:o+n<=v.length)(hi:InR N v) {f:Array Int->Array Int} (hs:(f (kV v o n)).size=n)(hf:∀p,Al p (kV v o n)->Al p (f (kV v o n))):(wp v o (f (kV v o n))).length=v.length/\InR N (wp v o (f (kV v o n))):=by
 refine⟨aC0 (by omega),?_⟩;have hz:(kV v o n).size=n:=fQ hl;have h0:InR N (wp v o (kV v o n)):=by rw [oS hl];exact hi
 rw [aXs (by omega)] at h0 ⊢;rw [hs];rw [hz] at h0;exact⟨h0.1,hf _ h0.2⟩
theorem rA (hl:o+n<=v.length)(hi:InR N v) {a b:Nat} (hb:b<=n)(hp:PermIn a b (kV v o n) d'):(wp v o d').length=v.length/\InR N (wp v o d') :=
 aRd (f:=fun _=>d') hl hi (by rw [hp.1];exact fQ hl) (fun p h=>h.perm (by rw [fQ hl];exact hb) hp)
theorem xN (lt:Int->Int->Bool):∀(j:Nat) (d:Array Int),j < d.size->Al p d->Al p (shiftDown lt j d)
 | 0,d,_,h=>h
 | j+1,d,hj,h=>by
  rw [shiftDown];split
  ·exact h
  ·exact xN lt j _ (by rw [Go.Sort.size_swp];omega) (h.swp hj (by omega))
theorem aC3 (lt:Int->Int->Bool)(b:Nat):∀(m j:Nat) (d:Array Int),b - j<=m->b<=d.size->Al p d->Al p (shiftUp lt b j d)
 | 0,j,d,hm,_,h=>by rw [shiftUp,if_neg (by omega)];exact h
 | m+1,j,d,hm,hb,h=>by
  rw [shiftUp];split
  ·split
   ·exact h
   ·exact aC3 lt b m _ _ (by omega) (by rw [Go.Sort.size_swp];exact hb) (h.swp (by omega) (by omega))
  ·exact h
theorem vG (lt:Int->Int->Bool)(a b:Nat):∀(s i:Nat) (d:Array Int),i<=b->b<=d.size->Al p d->Al p (partialIns lt a b s i d).1/\(partialIns lt a b s i d).1.size=d.size
 | 0,i,d,_,_,h=>⟨h,rfl⟩
 | s+1,i,d,hi,hb,h=>by
  rw [partialIns_succ];have hr:=oW lt d b _ i (Nat.le_refl _) hi;generalize scanSorted lt d b i=k at hr ⊢;split
  ·exact⟨h,rfl⟩
  ·split
   ·exact⟨h,rfl⟩
   ·have h1:Al p (Go.Sort.swp d k (k - 1)):=h.swp (by omega) (by omega);have h2:Al p (fixDown lt a k (Go.Sort.swp d k (k - 1))):=by
     unfold fixDown;split
     ·exact xN lt _ _ (by rw [Go.Sort.size_swp];omega) h1
     ·exact h1
    have zz2:(fixDown lt a k (Go.Sort.swp d k (k - 1))).size=d.size:=by rw [xM,Go.Sort.size_swp]
    have h3:Al p (fixUp lt b k (fixDown lt a k (Go.Sort.swp d k (k - 1)))):=by
     unfold fixUp;split
     ·exact aC3 lt b _ _ _ (Nat.le_refl _) (by rw [zz2];exact hb) h2
     ·exact h2
    have zz3:(fixUp lt b k (fixDown lt a k (Go.Sort.swp d k (k - 1)))).size=d.size:=by rw [aC1,zz2]
    have ih:=vG lt a b s k _ hr.2 (by rw [zz3];exact hb) h3;exact⟨ih.1,by rw [ih.2,zz3]⟩
theorem aNa (lt:Int->Int->Bool) {a b q:Nat} (h1:a<=q)(h2:q < b)(hb:b<=d.size):a < (partitionEqual lt d a b q).1/\(partitionEqual lt d a b q).1<=b/\PermIn a b d (partitionEqual lt d a b q).2:=by
 unfold partitionEqual;obtain⟨r1,r2,r3,_⟩:=partEqLoop_spec lt a b _ (a+1) (b - 1) (Go.Sort.swp d a q) (Nat.le_refl _) (lss a) (by omega) (by omega) (by rw [Go.Sort.size_swp];exact hb) (fun t h1 h2=>by omega) (fun t h1 h2=>by omega);exact⟨r1,r2,permIn_trans _ _ _ _ _ (swp_permIn d a b a q (Nat.le_refl _) (by omega) h1 h2 hb) (permIn_mono _ _ (a+1) b a b (Nat.le_succ a) (Nat.le_refl _) (by rw [Go.Sort.size_swp];exact hb) r3)⟩
variable {a b q : Int}
theorem bAa (hw:o+n<=v.length/\v.length<=1048576)(hi:InR N v)(h:0<=a/\a<=b/\b<=(n:Int)) :
 (gR v o n a b c).length=v.length/\InR N (gR v o n a b c):=by
 obtain⟨a,rfl⟩:∃k:Nat,a=k:=⟨a.toNat,by omega⟩;obtain⟨b,rfl⟩:∃k:Nat,b=k:=⟨b.toNat,by omega⟩;have hz:=fQ hw.1;have e:=aQy (l:=v) (c:=c) (d:=kV v o n) hw.1 (by omega) (a:=a) (b:=b) (by omega) (by omega) hz;rw [oS hw.1] at e;rw [e];exact rA hw.1 hi (a:=a) (b:=b) (by omega) (insertionSort_holds (nQ c) _ a b (by omega) (by omega)).1
theorem bAb (hw:o+n<=v.length/\v.length<=1048576)(hi:InR N v)(h:0<=a/\a<=b/\b<=(n:Int)) :
 (gT v o n a b c).length=v.length/\InR N (gT v o n a b c):=by
 obtain⟨a,rfl⟩:∃k:Nat,a=k:=⟨a.toNat,by omega⟩;obtain⟨b,rfl⟩:∃k:Nat,b=k:=⟨b.toNat,by omega⟩;have hz:=fQ hw.1;have e:=aQ2 (l:=v) (c:=c) (d:=kV v o n) hw.1 (by omega) (a:=a) (b:=b) (by omega) (by omega) hz;rw [oS hw.1] at e;rw [e];exact rA hw.1 hi (a:=a) (b:=b) (by omega) (heapSort_holds (nQ c) _ a b (by omega) (by omega)).1
theorem aVv (hw:o+n<=v.length/\v.length<=1048576)(hi:InR N v)(h:0<=a/\a<=b/\b<=(n:Int)) :
 (eC v o n a b c).length=v.length/\InR N (eC v o n a b c):=by
 obtain⟨a,rfl⟩:∃k:Nat,a=k:=⟨a.toNat,by omega⟩;obtain⟨b,rfl⟩:∃k:Nat,b=k:=⟨b.toNat,by omega⟩;have hz:=fQ hw.1;have e:=aRc (l:=v) (c:=c) (d:=kV v o n) hw.1 (by omega) hz (a:=a) (b:=b) (by omega) (by omega);rw [oS hw.1] at e;rw [e];exact rA hw.1 hi (a:=a) (b:=b) (by omega) (breakPatterns_holds _ a b (by omega) (by omega))
theorem aVw (hw:o+n<=v.length/\v.length<=1048576)(hi:InR N v)(h:0<=a/\a < b/\b<=(n:Int)) :
 (eO v o n a b c).length=v.length/\InR N (eO v o n a b c):=by
 obtain⟨a,rfl⟩:∃k:Nat,a=k:=⟨a.toNat,by omega⟩;obtain⟨b,rfl⟩:∃k:Nat,b=k:=⟨b.toNat,by omega⟩;have hz:=fQ hw.1;have e:=aQz (l:=v) (c:=c) (d:=kV v o n) hw.1 (by omega) (a:=a) (b:=b) (by omega) (by omega) hz;rw [oS hw.1] at e;rw [e];exact rA hw.1 hi (a:=a) (b:=b) (by omega) (reverseRange_holds _ a b (by omega) (by omega))
theorem aVx (hw:o+n<=v.length/\v.length<=1048576)(h:0<=a/\a < b/\b<=(n:Int)) :
 a<=(aY v o n a b c).1/\(aY v o n a b c).1 < b:=by
 obtain⟨a,rfl⟩:∃k:Nat,a=k:=⟨a.toNat,by omega⟩;obtain⟨b,rfl⟩:∃k:Nat,b=k:=⟨b.toNat,by omega⟩;have hz:=fQ hw.1;have e:=aRa (l:=v) (c:=c) (d:=kV v o n) hw.1 (by omega) hz (a:=a) (b:=b) (by omega) (by omega);rw [oS hw.1] at e;rw [e];have:=choosePivot_holds (bM c) (kV v o n) a b (by omega);dsimp only;omega
theorem aVy (hw:o+n<=v.length/\v.length<=1048576)(hi:InR N v)(h:0<=a/\a < b/\b<=(n:Int)) :
 (cE v o n a b c).2.length=v.length/\InR N (cE v o n a b c).2:=by
 obtain⟨a,rfl⟩:∃k:Nat,a=k:=⟨a.toNat,by omega⟩;obtain⟨b,rfl⟩:∃k:Nat,b=k:=⟨b.toNat,by omega⟩;have hz:=fQ hw.1;have e:=aQ6 (l:=v) (c:=c) (d:=kV v o n) hw.1 (by omega) hz (a:=a) (b:=b) (by omega) (by omega);rw [oS hw.1] at e;rw [e.1];exact aRd (f:=fun d=>(partialInsertionSort (bM c) d a b).1) hw.1 hi e.2 (fun p hp=>(vG (bM c) a b 5 (a+1) _ (by omega) (by omega) hp).1)
theorem aVz (hw:o+n<=v.length/\v.length<=1048576)(hi:InR N v)(h:0<=a/\a<=q/\q < b/\b<=(n:Int)) :
 (a<=(aF v o n a b q c).1/\(aF v o n a b q c).1 < b)/\(aF v o n a b q c).2.2.length=v.length/\InR N (aF v o n a b q c).2.2:=by
 obtain⟨a,rfl⟩:∃k:Nat,a=k:=⟨a.toNat,by omega⟩;obtain⟨b,rfl⟩:∃k:Nat,b=k:=⟨b.toNat,by omega⟩;obtain⟨q,rfl⟩:∃k:Nat,q=k:=⟨q.toNat,by omega⟩;have hz:=fQ hw.1;have e:=aQ3 (l:=v) (c:=c) (d:=kV v o n) hw.1 (by omega) hz (a:=a) (b:=b) (p:=q) (by omega) (by omega) (by omega);rw [oS hw.1] at e;rw [e];obtain⟨r1,r2,r3,_⟩:=partition_holds (lt:=bM c) (nQ c) (kV v o n) a b q (by omega) (by omega) (by omega);exact⟨by dsimp only;omega,rA hw.1 hi (a:=a) (b:=b) (by omega) r3⟩
theorem aV0 (hw:o+n<=v.length/\v.length<=1048576)(hi:InR N v)(h:0<=a/\a<=q/\q < b/\b<=(n:Int)) :
 (a < (cM v o n a b q c).1/\(cM v o n a b q c).1<=b)/\(cM v o n a b q c).2.length=v.length/\InR N (cM v o n a b q c).2:=by
 obtain⟨a,rfl⟩:∃k:Nat,a=k:=⟨a.toNat,by omega⟩;obtain⟨b,rfl⟩:∃k:Nat,b=k:=⟨b.toNat,by omega⟩;obtain⟨q,rfl⟩:∃k:Nat,q=k:=⟨q.toNat,by omega⟩;have hz:=fQ hw.1;have e:=aQ4 (l:=v) (c:=c) (d:=kV v o n) hw.1 (by omega) hz (a:=a) (b:=b) (p:=q) (by omega) (by omega) (by omega);rw [oS hw.1] at e;rw [e];obtain⟨r1,r2,r3⟩:=aNa (d:=kV v o n) (bM c) (a:=a) (b:=b) (q:=q) (by omega) (by omega) (by omega);exact⟨by dsimp only;omega,rA hw.1 hi (a:=a) (b:=b) (by omega) r3⟩
end
end Go.Proofs.YtlffahoikfahlaaGreat
namespace Go.Proofs.YtlffahoikfahlaaGreat
open Go.Proofs Go.Aw Go.RowKit
set_option maxRecDepth 100000
noncomputable def nB:Code:=(dK [1,1,0,0,0,1,1,1,1,1,1,1,1,0] [0] (aX Tryz.f160)).1
noncomputable def nC (m0:Nat):List K:=(dK [1,1,0,0,0,1,1,1,1,1,1,1,1,0] [m0] (aX Tryz.f160)).2
def lO (nr:Nat)(a0:ZL)(a0_o a0_n:Nat)(a1 a2 a3:Int)(a4:eW×Int)(v31c:List SV)(v31n:Nat)(v32 v33 v34 v35 v36:Int):LS:=⟨jT 148 [(0,(.s 0 (0+a0_o*1) a0_n 1)),(1,(iv v32)),(2,(iv v33)),(3,(iv v34)),(4,(.f 1000126 [(.a [(.p 1 0),(iv a4.2)])])),(12,(iv v35)),(13,(iv v36))],[(.live true true v31c),(.live false false [(.s 2 0 a4.1.1.length 10),(iv a4.1.2.1),(.s 0 0 v31n 1),(.s 3 0 a4.1.2.2.2.length 8)]),(.live false true (flat fJ a4.1.1)),(.live false true (flat fP a4.1.2.2.2))]⟩
def dC (rr:ZL->(Nat)->(Nat)->(Int)->(Int)->(Int)->TyS->ZL)(a0:ZL)(a0_o a0_n:Nat)(a1 a2 a3:Int)(a4:eW×Int):ZL×Int×Int×Zt->(ZL×Int×Int×Int×Bool×Bool)⊕ZL | (v31,v32,v33,v34,v35,v36) => (bif (decide (((W ((aF v31 a0_o a0_n v32 v33 v36 ((a4.1.1,a4.1.2.1,(v31,a4.1.2.2.2)),a4.2)).1 - v32)):Int) < (W (v33 - (aF v31 a0_o a0_n v32 v33 v36 ((a4.1.1,a4.1.2.1,(v31,a4.1.2.2.2)),a4.2)).1))))then(.inl ((rr ((aF v31 a0_o a0_n v32 v33 v36 ((a4.1.1,a4.1.2.1,(v31,a4.1.2.2.2)),a4.2)).2.2) a0_o a0_n v32 (aF v31 a0_o a0_n v32 v33 v36 ((a4.1.1,a4.1.2.1,(v31,a4.1.2.2.2)),a4.2)).1 v34 ((a4.1.1,a4.1.2.1,((aF v31 a0_o a0_n v32 v33 v36 ((a4.1.1,a4.1.2.1,(v31,a4.1.2.2.2)),a4.2)).2.2,a4.1.2.2.2)),a4.2)),(W ((aF v31 a0_o a0_n v32 v33 v36 ((a4.1.1,a4.1.2.1,(v31,a4.1.2.2.2)),a4.2)).1+1)),v33,v34,(decide (((W ((aF v31 a0_o a0_n v32 v33 v36 ((a4.1.1,a4.1.2.1,(v31,a4.1.2.2.2)),a4.2)).1 - v32)):Int)≥(W (tD v35 8)))),(aF v31 a0_o a0_n v32 v33 v36 ((a4.1.1,a4.1.2.1,(v31,a4.1.2.2.2)),a4.2)).2.1))else(.inl ((rr ((aF v31 a0_o a0_n v32 v33 v36 ((a4.1.1,a4.1.2.1,(v31,a4.1.2.2.2)),a4.2)).2.2) a0_o a0_n (W ((aF v31 a0_o a0_n v32 v33 v36 ((a4.1.1,a4.1.2.1,(v31,a4.1.2.2.2)),a4.2)).1+1)) v33 v34 ((a4.1.1,a4.1.2.1,((aF v31 a0_o a0_n v32 v33 v36 ((a4.1.1,a4.1.2.1,(v31,a4.1.2.2.2)),a4.2)).2.2,a4.1.2.2.2)),a4.2)),v32,(aF v31 a0_o a0_n v32 v33 v36 ((a4.1.1,a4.1.2.1,(v31,a4.1.2.2.2)),a4.2)).1,v34,(decide (((W (v33 - (aF v31 a0_o a0_n v32 v33 v36 ((a4.1.1,a4.1.2.1,(v31,a4.1.2.2.2)),a4.2)).1)):Int)≥(W (tD v35 8)))),(aF v31 a0_o a0_n v32 v33 v36 ((a4.1.1,a4.1.2.1,(v31,a4.1.2.2.2)),a4.2)).2.1)))
noncomputable def iM:Code:=(dK [1,1,0,0,0,1,1,1,1,1,1,1,0,0] [0] (aX Tryz.f160)).1
noncomputable def iN (m0:Nat):List K:=(dK [1,1,0,0,0,1,1,1,1,1,1,1,0,0] [m0] (aX Tryz.f160)).2
def iE (nr:Nat)(a0:ZL)(a0_o a0_n:Nat)(a1 a2 a3:Int)(a4:eW×Int)(v23c:List SV)(v23n:Nat)(v24 v25 v26:Int)(v27 v28:Bool)(v29 v30:Int):LS:=⟨jT 148 [(0,(.s 0 (0+a0_o*1) a0_n 1)),(1,(iv v24)),(2,(iv v25)),(3,(iv v26)),(4,(.f 1000126 [(.a [(.p 1 0),(iv a4.2)])])),(10,(.v (.bool v27))),(11,(.v (.bool v28))),(12,(iv v29)),(13,(iv v30))],[(.live true true v23c),(.live false false [(.s 2 0 a4.1.1.length 10),(iv a4.1.2.1),(.s 0 0 v23n 1),(.s 3 0 a4.1.2.2.2.length 8)]),(.live false true (flat fJ a4.1.1)),(.live false true (flat fP a4.1.2.2.2))]⟩
def bI (rr:ZL->(Nat)->(Nat)->(Int)->(Int)->(Int)->TyS->ZL)(a0:ZL)(a0_o a0_n:Nat)(a1 a2 a3:Int)(a4:eW×Int):ZL×Int×Int×Int×Bool×Bool×Int×Int->(ZL×Int×Int×Int×Bool×Bool)⊕ZL | (v23,v24,v25,v26,v27,v28,v29,v30) => (bif (decide ((v24:Int) > 0))then(bif (!(decide (((iB ((a4.1.1,a4.1.2.1,(v23,a4.1.2.2.2)),a4.2) (v23.getD (a0_o+tN (W (v24 - 1))) dF) (v23.getD (a0_o+tN v30) dF)):Int) < 0)))then(.inl ((cM v23 a0_o a0_n v24 v25 v30 ((a4.1.1,a4.1.2.1,(v23,a4.1.2.2.2)),a4.2)).2,(cM v23 a0_o a0_n v24 v25 v30 ((a4.1.1,a4.1.2.1,(v23,a4.1.2.2.2)),a4.2)).1,v25,v26,v27,v28))else(dC rr a0 a0_o a0_n a1 a2 a3 a4 (v23,v24,v25,v26,v29,v30)))else(dC rr a0 a0_o a0_n a1 a2 a3 a4 (v23,v24,v25,v26,v29,v30)))
noncomputable def nD:Code:=(dK [1,1,0,0,0,1,1,1,1,1,1,0,0] [0] (aX Tryz.f160)).1
noncomputable def nE (m0:Nat):List K:=(dK [1,1,0,0,0,1,1,1,1,1,1,0,0] [m0] (aX Tryz.f160)).2
def lP (nr:Nat)(a0:ZL)(a0_o a0_n:Nat)(a1 a2 a3:Int)(a4:eW×Int)(v14c:List SV)(v14n:Nat)(v15 v16 v17:Int)(v18 v19:Bool)(v20 v21 v22:Int):LS:=⟨jT 148 [(0,(.s 0 (0+a0_o*1) a0_n 1)),(1,(iv v15)),(2,(iv v16)),(3,(iv v17)),(4,(.f 1000126 [(.a [(.p 1 0),(iv a4.2)])])),(10,(.v (.bool v18))),(11,(.v (.bool v19))),(12,(iv v20)),(13,(iv v21)),(14,(iv v22))],[(.live true true v14c),(.live false false [(.s 2 0 a4.1.1.length 10),(iv a4.1.2.1),(.s 0 0 v14n 1),(.s 3 0 a4.1.2.2.2.length 8)]),(.live false true (flat fJ a4.1.1)),(.live false true (flat fP a4.1.2.2.2))]⟩
def bR (rr:ZL->(Nat)->(Nat)->(Int)->(Int)->(Int)->TyS->ZL)(a0:ZL)(a0_o a0_n:Nat)(a1 a2 a3:Int)(a4:eW×Int):ZL×Int×Int×Int×Bool×Bool×Zt->(ZL×Int×Int×Int×Bool×Bool)⊕ZL | (v14,v15,v16,v17,v18,v19,v20,v21,v22) => (bif v18 then(bif v19 then(bif ((v22:Int) == 1)then(bif (cE v14 a0_o a0_n v15 v16 ((a4.1.1,a4.1.2.1,(v14,a4.1.2.2.2)),a4.2)).1 then(.inr (cE v14 a0_o a0_n v15 v16 ((a4.1.1,a4.1.2.1,(v14,a4.1.2.2.2)),a4.2)).2)else(bI rr a0 a0_o a0_n a1 a2 a3 a4 ((cE v14 a0_o a0_n v15 v16 ((a4.1.1,a4.1.2.1,(v14,a4.1.2.2.2)),a4.2)).2,v15,v16,v17,v18,v19,v20,v21)))else(bI rr a0 a0_o a0_n a1 a2 a3 a4 (v14,v15,v16,v17,v18,v19,v20,v21)))else(bI rr a0 a0_o a0_n a1 a2 a3 a4 (v14,v15,v16,v17,v18,v19,v20,v21)))else(bI rr a0 a0_o a0_n a1 a2 a3 a4 (v14,v15,v16,v17,v18,v19,v20,v21)))
noncomputable def nF:Code:=(dK [1,1,0,0,0,1,1,1,1,0] [0] (aX Tryz.f160)).1
noncomputable def nG (m0:Nat):List K:=(dK [1,1,0,0,0,1,1,1,1,0] [m0] (aX Tryz.f160)).2
def lQ (nr:Nat)(a0:ZL)(a0_o a0_n:Nat)(a1 a2 a3:Int)(a4:eW×Int)(v7c:List SV)(v7n:Nat)(v8 v9 v10:Int)(v11 v12:Bool)(v13:Int):LS:=⟨jT 148 [(0,(.s 0 (0+a0_o*1) a0_n 1)),(1,(iv v8)),(2,(iv v9)),(3,(iv v10)),(4,(.f 1000126 [(.a [(.p 1 0),(iv a4.2)])])),(10,(.v (.bool v11))),(11,(.v (.bool v12))),(12,(iv v13))],[(.live true true v7c),(.live false false [(.s 2 0 a4.1.1.length 10),(iv a4.1.2.1),(.s 0 0 v7n 1),(.s 3 0 a4.1.2.2.2.length 8)]),(.live false true (flat fJ a4.1.1)),(.live false true (flat fP a4.1.2.2.2))]⟩
def dD (rr:ZL->(Nat)->(Nat)->(Int)->(Int)->(Int)->TyS->ZL)(a0:ZL)(a0_o a0_n:Nat)(a1 a2 a3:Int)(a4:eW×Int):ZL×Int×Int×Int×Bool×Bool×Int->(ZL×Int×Int×Int×Bool×Bool)⊕ZL | (v7,v8,v9,v10,v11,v12,v13) => (bif (((aY v7 a0_o a0_n v8 v9 ((a4.1.1,a4.1.2.1,(v7,a4.1.2.2.2)),a4.2)).2:Int) == 2)then(bR rr a0 a0_o a0_n a1 a2 a3 a4 ((eO v7 a0_o a0_n v8 v9 ((a4.1.1,a4.1.2.1,(v7,a4.1.2.2.2)),a4.2)),v8,v9,v10,v11,v12,v13,(W ((W (v9 - 1)) - (W ((aY v7 a0_o a0_n v8 v9 ((a4.1.1,a4.1.2.1,(v7,a4.1.2.2.2)),a4.2)).1 - v8)))),1))else(bR rr a0 a0_o a0_n a1 a2 a3 a4 (v7,v8,v9,v10,v11,v12,v13,(aY v7 a0_o a0_n v8 v9 ((a4.1.1,a4.1.2.1,(v7,a4.1.2.2.2)),a4.2)).1,(aY v7 a0_o a0_n v8 v9 ((a4.1.1,a4.1.2.1,(v7,a4.1.2.2.2)),a4.2)).2)))
noncomputable def cT:=bC [1,1] [] (aX Tryz.f160) []
def fA (nr:Nat)(a0:ZL)(a0_o a0_n:Nat)(a1 a2 a3:Int)(a4:eW×Int)(v1c:List SV)(v1n:Nat)(v2 v3 v4:Int)(v5 v6:Bool):LS:=⟨jT 148 [(0,(.s 0 (0+a0_o*1) a0_n 1)),(1,(iv v2)),(2,(iv v3)),(3,(iv v4)),(4,(.f 1000126 [(.a [(.p 1 0),(iv a4.2)])])),(10,(.v (.bool v5))),(11,(.v (.bool v6)))],[(.live true true v1c),(.live false false [(.s 2 0 a4.1.1.length 10),(iv a4.1.2.1),(.s 0 0 v1n 1),(.s 3 0 a4.1.2.2.2.length 8)]),(.live false true (flat fJ a4.1.1)),(.live false true (flat fP a4.1.2.2.2))]⟩
def bD (rr:ZL->(Nat)->(Nat)->(Int)->(Int)->(Int)->TyS->ZL)(a0:ZL)(a0_o a0_n:Nat)(a1 a2 a3:Int)(a4:eW×Int):ZL×Int×Int×Int×Bool×Bool->(ZL×Int×Int×Int×Bool×Bool)⊕ZL | (v1,v2,v3,v4,v5,v6) => (bif (decide (((W (v3 - v2)):Int)<=12))then(.inr (gR v1 a0_o a0_n v2 v3 ((a4.1.1,a4.1.2.1,(v1,a4.1.2.2.2)),a4.2)))else(bif ((v4:Int) == 0)then(.inr (gT v1 a0_o a0_n v2 v3 ((a4.1.1,a4.1.2.1,(v1,a4.1.2.2.2)),a4.2)))else(bif (!v5)then(dD rr a0 a0_o a0_n a1 a2 a3 a4 ((eC v1 a0_o a0_n v2 v3 ((a4.1.1,a4.1.2.1,(v1,a4.1.2.2.2)),a4.2)),v2,v3,(W (v4 - 1)),v5,v6,(W (v3 - v2))))else(dD rr a0 a0_o a0_n a1 a2 a3 a4 (v1,v2,v3,v4,v5,v6,(W (v3 - v2)))))))
def aK:Nat->ZL->(Nat)->(Nat)->(Int)->(Int)->(Int)->TyS->ZL | 0,_,_,_,_,_,_,_=>dF | nr+1,a0,a0_o,a0_n,a1,a2,a3,a4 => (aE (bD (aK nr) a0 a0_o a0_n a1 a2 a3 a4) (tN (a2 - a1)+1) (a0,a1,a2,a3,true,true))
def pR (a0:ZL)(a0_o a0_n:Nat)(a1 a2 a3:Int)(a4:eW×Int):ZL:=aK (tN (a2 - a1)+1) a0 a0_o a0_n a1 a2 a3 a4
section
variable {N o n L : Nat} {v : ZL} {a b lim lo hi : Int} {c : sH}
def PqP (L N:Nat)(lo hi:Int)(m:Int):((ZL×Int×Int×Int×Bool×Bool)⊕ZL)->Prop | .inl s=>s.1.length=L/\InR N s.1/\lo<=s.2.1/\s.2.1<=s.2.2.1/\s.2.2.1<=hi/\s.2.2.1 - s.2.1 < m | .inr v=>v.length=L/\InR N v
theorem aFf {σ ρ:Type} [Inhabited ρ] {S:σ->σ⊕ρ} (P:σ->Prop)(Q:ρ->Prop)(m:σ->Nat)(h:∀s,P s->match S s with | .inl t=>P t/\m t < m s | .inr r=>Q r):∀(k:Nat) (s:σ),P s->m s < k->Q (aE S k s)
 | 0,s,_,hk=>absurd hk (fW _)
 | k+1,s,hs,hk=>by
  have h1:=h s hs;cases e:S s with
  | inl t=>rw [e] at h1;rw [aD e];exact aFf P Q m h k t h1.1 (by have:=h1.2;omega)
  | inr r=>rw [e] at h1;rw [aM e];exact h1
variable {nr : Nat} {rr : ZL → Nat → Nat → Int → Int → Int → sH → ZL}
 (Hr:∀(v:ZL) (o n:Nat) (a b lim:Int) (c:sH),(o+n<=v.length/\v.length<=1048576)->InR N v->(0<=a/\a<=b/\b<=(n:Int))->tN (b - a) < nr->(rr v o n a b lim c).length=v.length/\InR N (rr v o n a b lim c))
include Hr
theorem bCv {a0:ZL} {a1 a2 a3 ln q:Int} (hw:o+n<=v.length/\v.length<=1048576)(hI:InR N v)(h:0<=a/\lo<=a/\a<=q/\q < b/\b<=hi/\b<=(n:Int))(hm:tN (b - a)<=nr) :
 PqP v.length N lo hi (b - a) (dC rr a0 o n a1 a2 a3 c (v,a,b,lim,ln,q)):=by
 obtain⟨h1,h2,h3⟩:=aVz (N:=N) (v:=v) (o:=o) (n:=n) (a:=a) (b:=b) (q:=q) (c:=((c.1.1,c.1.2.1,(v,c.1.2.2.2)),c.2)) hw hI (by omega);have hw1:=aG (n:=(aF v o n a b q ((c.1.1,c.1.2.1,(v,c.1.2.2.2)),c.2)).1+1) (by omega) (by omega);simp only [dC];rw [Bool.cond_eq_ite];split
 ·have hr:=Hr (aF v o n a b q ((c.1.1,c.1.2.1,(v,c.1.2.2.2)),c.2)).2.2 o n a (aF v o n a b q ((c.1.1,c.1.2.1,(v,c.1.2.2.2)),c.2)).1 lim ((c.1.1,c.1.2.1,((aF v o n a b q ((c.1.1,c.1.2.1,(v,c.1.2.2.2)),c.2)).2.2,c.1.2.2.2)),c.2) (by omega) h3 (by omega) (by omega);exact⟨hr.1.trans h2,hr.2,by dsimp only;omega,by dsimp only;omega,by dsimp only;omega,by dsimp only;omega⟩
 ·have hr:=Hr (aF v o n a b q ((c.1.1,c.1.2.1,(v,c.1.2.2.2)),c.2)).2.2 o n (W ((aF v o n a b q ((c.1.1,c.1.2.1,(v,c.1.2.2.2)),c.2)).1+1)) b lim ((c.1.1,c.1.2.1,((aF v o n a b q ((c.1.1,c.1.2.1,(v,c.1.2.2.2)),c.2)).2.2,c.1.2.2.2)),c.2) (by omega) h3 (by omega) (by omega);exact⟨hr.1.trans h2,hr.2,by dsimp only;omega,by dsimp only;omega,by dsimp only;omega,by dsimp only;omega⟩
theorem bAc {a0:ZL} {a1 a2 a3 ln q:Int} {b1 b2:Bool} (hw:o+n<=v.length/\v.length<=1048576)(hI:InR N v)(h:0<=a/\lo<=a/\a<=q/\q < b/\b<=hi/\b<=(n:Int))(hm:tN (b - a)<=nr) :
 PqP v.length N lo hi (b - a) (bI rr a0 o n a1 a2 a3 c (v,a,b,lim,b1,b2,ln,q)):=by
 have h20:=bCv Hr (a0:=a0) (a1:=a1) (a2:=a2) (a3:=a3) (ln:=ln) (q:=q) (lim:=lim) (c:=c) hw hI h hm;simp only [bI];rw [Bool.cond_eq_ite];split
 ·rw [Bool.cond_eq_ite];split
  ·obtain⟨h1,h2,h3⟩:=aV0 (N:=N) (v:=v) (o:=o) (n:=n) (a:=a) (b:=b) (q:=q) (c:=((c.1.1,c.1.2.1,(v,c.1.2.2.2)),c.2)) hw hI (by omega);exact⟨h2,h3,by dsimp only;omega,by dsimp only;omega,by dsimp only;omega,by dsimp only;omega⟩
  ·exact h20
 ·exact h20
theorem bAd {a0:ZL} {a1 a2 a3 ln q hn:Int} {b1 b2:Bool} (hw:o+n<=v.length/\v.length<=1048576)(hI:InR N v)(h:0<=a/\lo<=a/\a<=q/\q < b/\b<=hi/\b<=(n:Int))(hm:tN (b - a)<=nr) :
 PqP v.length N lo hi (b - a) (bR rr a0 o n a1 a2 a3 c (v,a,b,lim,b1,b2,ln,q,hn)):=by
 have h17:=bAc Hr (a0:=a0) (a1:=a1) (a2:=a2) (a3:=a3) (ln:=ln) (q:=q) (lim:=lim) (c:=c) (b1:=b1) (b2:=b2) hw hI h hm;obtain⟨h1,h2⟩:=aVy (N:=N) (v:=v) (o:=o) (n:=n) (a:=a) (b:=b) (c:=((c.1.1,c.1.2.1,(v,c.1.2.2.2)),c.2)) hw hI (by omega);have g17:=bAc Hr (o:=o) (n:=n) (a:=a) (b:=b) (lo:=lo) (hi:=hi) (v:=(cE v o n a b ((c.1.1,c.1.2.1,(v,c.1.2.2.2)),c.2)).2) (a0:=a0) (a1:=a1) (a2:=a2) (a3:=a3) (ln:=ln) (q:=q) (lim:=lim) (c:=c) (b1:=b1) (b2:=b2) (by omega) h2 h hm;rw [h1] at g17;simp only [bR];cases b1
 case false=>exact h17
 cases b2
 case false=>exact h17
 rw [cond_true,cond_true,Bool.cond_eq_ite];split
 ·rw [Bool.cond_eq_ite];split
  ·exact⟨h1,h2⟩
  ·exact g17
 ·exact h17
theorem bAe {a0:ZL} {a1 a2 a3 ln:Int} {b1 b2:Bool} (hw:o+n<=v.length/\v.length<=1048576)(hI:InR N v)(h:0<=a/\lo<=a/\a < b/\b<=hi/\b<=(n:Int))(hm:tN (b - a)<=nr) :
 PqP v.length N lo hi (b - a) (dD rr a0 o n a1 a2 a3 c (v,a,b,lim,b1,b2,ln)):=by
 have hc:=aVx (v:=v) (o:=o) (n:=n) (a:=a) (b:=b) (c:=((c.1.1,c.1.2.1,(v,c.1.2.2.2)),c.2)) hw (by omega);obtain⟨h1,h2⟩:=aVw (N:=N) (v:=v) (o:=o) (n:=n) (a:=a) (b:=b) (c:=((c.1.1,c.1.2.1,(v,c.1.2.2.2)),c.2)) hw hI (by omega);have e1:W ((W (b - 1)) - (W ((aY v o n a b ((c.1.1,c.1.2.1,(v,c.1.2.2.2)),c.2)).1 - a)))=b - 1 - ((aY v o n a b ((c.1.1,c.1.2.1,(v,c.1.2.2.2)),c.2)).1 - a):=by
  rw [aG (n:=b - 1) (by omega) (by omega),aG (n:=(aY v o n a b ((c.1.1,c.1.2.1,(v,c.1.2.2.2)),c.2)).1 - a) (by omega) (by omega)];exact aG (by omega) (by omega)
 simp only [dD,e1];rw [Bool.cond_eq_ite];split
 ·have g:=bAd Hr (v:=eO v o n a b ((c.1.1,c.1.2.1,(v,c.1.2.2.2)),c.2)) (a0:=a0) (a1:=a1) (a2:=a2) (a3:=a3) (ln:=ln) (q:=b - 1 - ((aY v o n a b ((c.1.1,c.1.2.1,(v,c.1.2.2.2)),c.2)).1 - a)) (hn:=1) (lim:=lim) (c:=c) (b1:=b1) (b2:=b2) (lo:=lo) (hi:=hi) (a:=a) (b:=b) (o:=o) (n:=n) (by omega) h2 (by omega) hm;rw [h1] at g;exact g
 ·exact bAd Hr hw hI (by omega) hm
theorem pq0 {a0:ZL} {a1 a2 a3:Int} {b1 b2:Bool} (hw:o+n<=v.length/\v.length<=1048576)(hI:InR N v)(h:0<=a/\lo<=a/\a<=b/\b<=hi/\b<=(n:Int))(hm:tN (b - a)<=nr) :
 PqP v.length N lo hi (b - a) (bD rr a0 o n a1 a2 a3 c (v,a,b,lim,b1,b2)):=by
 have hW:=aG (n:=b - a) (by omega) (by omega);simp only [bD];by_cases h12:W (b - a)<=12
 ·rw [cL h12,cond_true];exact bAa hw hI (by omega)
 ·rw [cV h12,cond_false,Bool.cond_eq_ite];split
  ·exact bAb hw hI (by omega)
  ·cases b1
   case true=>exact bAe Hr hw hI (by omega) hm
   obtain⟨h1,h2⟩:=aVv (N:=N) (v:=v) (o:=o) (n:=n) (a:=a) (b:=b) (c:=((c.1.1,c.1.2.1,(v,c.1.2.2.2)),c.2)) hw hI (by omega);have g:=bAe Hr (v:=eC v o n a b ((c.1.1,c.1.2.1,(v,c.1.2.2.2)),c.2)) (a0:=a0) (a1:=a1) (a2:=a2) (a3:=a3) (ln:=W (b - a)) (lim:=W (lim - 1)) (c:=c) (b1:=false) (b2:=b2) (lo:=lo) (hi:=hi) (a:=a) (b:=b) (o:=o) (n:=n) (by omega) h2 (by omega) hm;rw [h1] at g;exact g
end
theorem aA4:∀(nr:Nat) {N o n:Nat} {v:ZL} {a b lim:Int} {c:sH},(o+n<=v.length/\v.length<=1048576)->InR N v->(0<=a/\a<=b/\b<=(n:Int))->tN (b - a) < nr ->
 (aK nr v o n a b lim c).length=v.length/\InR N (aK nr v o n a b lim c)
 | 0,_,_,_,_,_,_,_,_,_,_,_,h=>absurd h (fW _)
 | nr+1,N,o,n,v,a,b,lim,c,hw,hI,h,hm=>by
  have Hr:=fun(v:ZL) (o n:Nat) (a b lim:Int) (c:sH) h1 h2 h3 h4=>aA4 nr (N:=N) (v:=v) (o:=o) (n:=n) (a:=a) (b:=b) (lim:=lim) (c:=c) h1 h2 h3 h4
  unfold aK;refine aFf (fun s=>s.1.length=v.length/\InR N s.1/\a<=s.2.1/\s.2.1<=s.2.2.1/\s.2.2.1<=b) (fun r=>r.length=v.length/\InR N r) (fun s=>tN (s.2.2.1 - s.2.1)) (fun s hs=>?_) _ _ ⟨rfl,hI,by dsimp only;omega,by dsimp only;omega,by dsimp only;omega⟩ (by dsimp only;omega);obtain⟨s1,s2,s3,s4,s5,s6⟩:=s;dsimp only at hs ⊢;have g:=pq0 (N:=N) (nr:=nr) Hr (v:=s1) (o:=o) (n:=n) (a:=s2) (b:=s3) (lim:=s4) (c:=c) (lo:=a) (hi:=b) (a0:=v) (a1:=a) (a2:=b) (a3:=lim) (b1:=s5) (b2:=s6) (by omega) hs.2.1 (by omega) (by omega);rw [hs.1] at g;cases e:bD (aK nr) v o n a b lim c (s1,s2,s3,s4,s5,s6) with
  | inr r=>rw [e] at g;exact g
  | inl t =>
   rw [e] at g;obtain⟨g1,g2,g3,g4,g5,g6⟩:=g;exact⟨⟨g1,g2,g3,g4,g5⟩,by omega⟩
theorem sI (nr:Nat)(a0:ZL)(a0_o a0_n:Nat)(a1 a2 a3:Int)(a4:eW×Int)(l0:a0.length<=2^63-1)(l4_1_1:a4.1.1.length<=2^63-1)(l4_1_2_2_1:a4.1.2.2.1.length<=2^63-1)(l4_1_2_2_2:a4.1.2.2.2.length<=2^63-1)(hw:a0_o+a0_n<=a0.length/\a0.length<=1048576)(hr:InR a4.1.1.length a0)(hab:0<=a1/\a1<=a2/\a2<=↑a0_n)(hlt:tN (a2 - a1) < nr+1)(ihr:∀(a0:ZL)(a0_o a0_n:Nat)(a1 a2 a3:Int)(a4:eW×Int)(l0:a0.length<=2^63-1)(l4_1_1:a4.1.1.length<=2^63-1)(l4_1_2_2_1:a4.1.2.2.1.length<=2^63-1)(l4_1_2_2_2:a4.1.2.2.2.length<=2^63-1)(hw:a0_o+a0_n<=a0.length/\a0.length<=1048576)(hr:InR a4.1.1.length a0)(hab:0<=a1/\a1<=a2/\a2<=↑a0_n),tN (a2 - a1) < nr->Con Tryz.prog 160 [(.s 0 (0+a0_o*1) a0_n 1),(iv a1),(iv a2),(iv a3),(.f 1000126 [(.a [(.p 1 0),(iv a4.2)])])] [(.live true true (flat c3 a0)),(.live false false [(.s 2 0 a4.1.1.length 10),(iv a4.1.2.1),(.s 0 0 a0.length 1),(.s 3 0 a4.1.2.2.2.length 8)]),(.live false true (flat fJ a4.1.1)),(.live false true (flat fP a4.1.2.2.2))] (.t []) [] [(.live true true (flat c3 (aK nr a0 a0_o a0_n a1 a2 a3 a4))),.un,.un,.un]) {cx:Cx} (hcx:cx.base=4)
 (n0:Nat) (g0:∀(v1:ZL) (v2 v3 v4:Int) (v5 v6:Bool),(v1.length=a0.length)/\(InR a4.1.1.length v1)/\(a1<=v2)/\(v2<=v3)/\(v3<=a2)->tN (v3 - v2) < n0->gG Tryz.f160 cx (.t []) [] [(.live true true (flat c3 (aE (bD (aK nr) a0 a0_o a0_n a1 a2 a3 a4) n0 (v1,v2,v3,v4,v5,v6)))),.un,.un,.un] (.l cT.1 n0::cT.2) (fA nr a0 a0_o a0_n a1 a2 a3 a4 (flat c3 v1) v1.length v2 v3 v4 v5 v6)) (v31:ZL) (v32 v33 v34 v35 v36:Int):(v31.length=a0.length)/\(InR a4.1.1.length v31)/\(a1<=v32)/\(v32<=v33)/\(v33<=a2)/\(v35=v33 - v32)/\(13<=v35)/\(v32<=v36)/\(v36 < v33)/\((v31.length=a0.length))/\((InR a4.1.1.length v31))/\((a1<=v32))/\((v32<=v33))/\((v33<=a2))/\(tN (v33 - v32) < n0+1)->gG Tryz.f160 cx (.t []) [] [(.live true true (flat c3 (bZ (bD (aK nr) a0 a0_o a0_n a1 a2 a3 a4) n0 (dC (aK nr) a0 a0_o a0_n a1 a2 a3 a4 (v31,v32,v33,v34,v35,v36))))),.un,.un,.un] (.c nB::nC n0) (lO nr a0 a0_o a0_n a1 a2 a3 a4 (flat c3 v31) v31.length v32 v33 v34 v35 v36):=by
 intro hi;have hpa:=aVz (N:=a4.1.1.length) (v:=v31) (o:=a0_o) (n:=a0_n) (a:=v32) (b:=v33) (c:=((a4.1.1,a4.1.2.1,(v31,a4.1.2.2.2)),a4.2)) (q:=v36) (by omega) hi.2.1 (by omega);obtain⟨hpa1,hpa2,hpa3⟩:=hpa;have hw_1:=aG (n:=(aF v31 a0_o a0_n v32 v33 v36 ((a4.1.1,a4.1.2.1,(v31,a4.1.2.2.2)),a4.2)).1+1) (by omega) (by omega);have hrc1:=aA4 nr (N:=a4.1.1.length) (v:=(aF v31 a0_o a0_n v32 v33 v36 ((a4.1.1,a4.1.2.1,(v31,a4.1.2.2.2)),a4.2)).2.2) (o:=a0_o) (n:=a0_n) (a:=v32) (b:=(aF v31 a0_o a0_n v32 v33 v36 ((a4.1.1,a4.1.2.1,(v31,a4.1.2.2.2)),a4.2)).1) (lim:=v34) (c:=((a4.1.1,a4.1.2.1,((aF v31 a0_o a0_n v32 v33 v36 ((a4.1.1,a4.1.2.1,(v31,a4.1.2.2.2)),a4.2)).2.2,a4.1.2.2.2)),a4.2)) (by omega) hpa3 (by omega) (by omega);obtain⟨hrc1a,hrc1b⟩:=hrc1;have hrc2:=aA4 nr (N:=a4.1.1.length) (v:=(aF v31 a0_o a0_n v32 v33 v36 ((a4.1.1,a4.1.2.1,(v31,a4.1.2.2.2)),a4.2)).2.2) (o:=a0_o) (n:=a0_n) (a:=(W ((aF v31 a0_o a0_n v32 v33 v36 ((a4.1.1,a4.1.2.1,(v31,a4.1.2.2.2)),a4.2)).1+1))) (b:=v33) (lim:=v34) (c:=((a4.1.1,a4.1.2.1,((aF v31 a0_o a0_n v32 v33 v36 ((a4.1.1,a4.1.2.1,(v31,a4.1.2.2.2)),a4.2)).2.2,a4.1.2.2.2)),a4.2)) (by omega) hpa3 (by omega) (by omega);obtain⟨hrc2a,hrc2b⟩:=hrc2;let t0:SL:=[.c [0,1,2,3] (aI2 v31 a0_o a0_n v32 v33 v36 ((a4.1.1,a4.1.2.1,(v31,a4.1.2.2.2)),a4.2) (by omega) (by omega) (by(try simp only [Lt]);omega) (by omega) (by omega) hi.2.1 (by omega)),.p (show(8:Int)≠0 from by decide)];cases h0:(decide (((W ((aF v31 a0_o a0_n v32 v33 v36 ((a4.1.1,a4.1.2.1,(v31,a4.1.2.2.2)),a4.2)).1 - v32)):Int) < (W (v33 - (aF v31 a0_o a0_n v32 v33 v36 ((a4.1.1,a4.1.2.1,(v31,a4.1.2.2.2)),a4.2)).1))))
 case true=>
  have q0:=dE h0;have e:=Eq.refl (dC (aK nr) a0 a0_o a0_n a1 a2 a3 a4 (v31,v32,v33,v34,v35,v36));(conv at e=>rhs;simp only [dC,h0,aQ]);rw [e];refine bA n0 (t0++[.d h0,.c [0,1,2,3] (by have q:=(ihr ((aF v31 a0_o a0_n v32 v33 v36 ((a4.1.1,a4.1.2.1,(v31,a4.1.2.2.2)),a4.2)).2.2) a0_o a0_n v32 (aF v31 a0_o a0_n v32 v33 v36 ((a4.1.1,a4.1.2.1,(v31,a4.1.2.2.2)),a4.2)).1 v34 ((a4.1.1,a4.1.2.1,((aF v31 a0_o a0_n v32 v33 v36 ((a4.1.1,a4.1.2.1,(v31,a4.1.2.2.2)),a4.2)).2.2,a4.1.2.2.2)),a4.2) (by omega) (by omega) (by(try simp only [Lt]);omega) (by omega) (by omega) hpa3 (by omega) (by omega));(try dsimp only at q);(try rw [show List.length (α:=Int) (aF v31 a0_o a0_n v32 v33 v36 ((a4.1.1,a4.1.2.1,(v31,a4.1.2.2.2)),a4.2)).2.2=v31.length from by first | simp;done | omega] at q);exact q)]) [0,1,2,3,4,10,11] [] hcx cT (fA nr a0 a0_o a0_n a1 a2 a3 a4 (flat c3 (aK nr ((aF v31 a0_o a0_n v32 v33 v36 ((a4.1.1,a4.1.2.1,(v31,a4.1.2.2.2)),a4.2)).2.2) a0_o a0_n v32 (aF v31 a0_o a0_n v32 v33 v36 ((a4.1.1,a4.1.2.1,(v31,a4.1.2.2.2)),a4.2)).1 v34 ((a4.1.1,a4.1.2.1,((aF v31 a0_o a0_n v32 v33 v36 ((a4.1.1,a4.1.2.1,(v31,a4.1.2.2.2)),a4.2)).2.2,a4.1.2.2.2)),a4.2))) (v31.length) (W ((aF v31 a0_o a0_n v32 v33 v36 ((a4.1.1,a4.1.2.1,(v31,a4.1.2.2.2)),a4.2)).1+1)) v33 v34 (decide (((W ((aF v31 a0_o a0_n v32 v33 v36 ((a4.1.1,a4.1.2.1,(v31,a4.1.2.2.2)),a4.2)).1 - v32)):Int)≥(W (tD v35 8)))) ((aF v31 a0_o a0_n v32 v33 v36 ((a4.1.1,a4.1.2.1,(v31,a4.1.2.2.2)),a4.2)).2.1)) ?_;have z0:v31.length=(aK nr ((aF v31 a0_o a0_n v32 v33 v36 ((a4.1.1,a4.1.2.1,(v31,a4.1.2.2.2)),a4.2)).2.2) a0_o a0_n v32 (aF v31 a0_o a0_n v32 v33 v36 ((a4.1.1,a4.1.2.1,(v31,a4.1.2.2.2)),a4.2)).1 v34 ((a4.1.1,a4.1.2.1,((aF v31 a0_o a0_n v32 v33 v36 ((a4.1.1,a4.1.2.1,(v31,a4.1.2.2.2)),a4.2)).2.2,a4.1.2.2.2)),a4.2)).length:=by first | omega | (simp;done)
  rw [z0];exact g0 (aK nr ((aF v31 a0_o a0_n v32 v33 v36 ((a4.1.1,a4.1.2.1,(v31,a4.1.2.2.2)),a4.2)).2.2) a0_o a0_n v32 (aF v31 a0_o a0_n v32 v33 v36 ((a4.1.1,a4.1.2.1,(v31,a4.1.2.2.2)),a4.2)).1 v34 ((a4.1.1,a4.1.2.1,((aF v31 a0_o a0_n v32 v33 v36 ((a4.1.1,a4.1.2.1,(v31,a4.1.2.2.2)),a4.2)).2.2,a4.1.2.2.2)),a4.2)) (W ((aF v31 a0_o a0_n v32 v33 v36 ((a4.1.1,a4.1.2.1,(v31,a4.1.2.2.2)),a4.2)).1+1)) v33 v34 (decide (((W ((aF v31 a0_o a0_n v32 v33 v36 ((a4.1.1,a4.1.2.1,(v31,a4.1.2.2.2)),a4.2)).1 - v32)):Int)≥(W (tD v35 8)))) ((aF v31 a0_o a0_n v32 v33 v36 ((a4.1.1,a4.1.2.1,(v31,a4.1.2.2.2)),a4.2)).2.1) (by and_intros<;>(try simp only [Lt])<;>first | omega | assumption | exact hi.2.1 | exact hi.2.2.1 | exact InR.swap hi.2.1 (by omega) (by omega) | exact InR.swap hr (by omega) (by omega) | exact hbk2 | exact hrv2 | exact hpi2 | exact hpe3 | exact hpa3 | exact hrc1b | exact hrc2b) (by omega)
 have q0:=dO h0;have e:=Eq.refl (dC (aK nr) a0 a0_o a0_n a1 a2 a3 a4 (v31,v32,v33,v34,v35,v36));(conv at e=>rhs;simp only [dC,h0,aQ]);rw [e];refine bA n0 (t0++[.d h0,.c [0,1,2,3] (by have q:=(ihr ((aF v31 a0_o a0_n v32 v33 v36 ((a4.1.1,a4.1.2.1,(v31,a4.1.2.2.2)),a4.2)).2.2) a0_o a0_n (W ((aF v31 a0_o a0_n v32 v33 v36 ((a4.1.1,a4.1.2.1,(v31,a4.1.2.2.2)),a4.2)).1+1)) v33 v34 ((a4.1.1,a4.1.2.1,((aF v31 a0_o a0_n v32 v33 v36 ((a4.1.1,a4.1.2.1,(v31,a4.1.2.2.2)),a4.2)).2.2,a4.1.2.2.2)),a4.2) (by omega) (by omega) (by(try simp only [Lt]);omega) (by omega) (by omega) hpa3 (by omega) (by omega));(try dsimp only at q);(try rw [show List.length (α:=Int) (aF v31 a0_o a0_n v32 v33 v36 ((a4.1.1,a4.1.2.1,(v31,a4.1.2.2.2)),a4.2)).2.2=v31.length from by first | simp;done | omega] at q);exact q)]) [0,1,2,3,4,10,11] [] hcx cT (fA nr a0 a0_o a0_n a1 a2 a3 a4 (flat c3 (aK nr ((aF v31 a0_o a0_n v32 v33 v36 ((a4.1.1,a4.1.2.1,(v31,a4.1.2.2.2)),a4.2)).2.2) a0_o a0_n (W ((aF v31 a0_o a0_n v32 v33 v36 ((a4.1.1,a4.1.2.1,(v31,a4.1.2.2.2)),a4.2)).1+1)) v33 v34 ((a4.1.1,a4.1.2.1,((aF v31 a0_o a0_n v32 v33 v36 ((a4.1.1,a4.1.2.1,(v31,a4.1.2.2.2)),a4.2)).2.2,a4.1.2.2.2)),a4.2))) (v31.length) v32 ((aF v31 a0_o a0_n v32 v33 v36 ((a4.1.1,a4.1.2.1,(v31,a4.1.2.2.2)),a4.2)).1) v34 (decide (((W (v33 - (aF v31 a0_o a0_n v32 v33 v36 ((a4.1.1,a4.1.2.1,(v31,a4.1.2.2.2)),a4.2)).1)):Int)≥(W (tD v35 8)))) ((aF v31 a0_o a0_n v32 v33 v36 ((a4.1.1,a4.1.2.1,(v31,a4.1.2.2.2)),a4.2)).2.1)) ?_;have z0:v31.length=(aK nr ((aF v31 a0_o a0_n v32 v33 v36 ((a4.1.1,a4.1.2.1,(v31,a4.1.2.2.2)),a4.2)).2.2) a0_o a0_n (W ((aF v31 a0_o a0_n v32 v33 v36 ((a4.1.1,a4.1.2.1,(v31,a4.1.2.2.2)),a4.2)).1+1)) v33 v34 ((a4.1.1,a4.1.2.1,((aF v31 a0_o a0_n v32 v33 v36 ((a4.1.1,a4.1.2.1,(v31,a4.1.2.2.2)),a4.2)).2.2,a4.1.2.2.2)),a4.2)).length:=by first | omega | (simp;done)
 rw [z0];exact g0 (aK nr ((aF v31 a0_o a0_n v32 v33 v36 ((a4.1.1,a4.1.2.1,(v31,a4.1.2.2.2)),a4.2)).2.2) a0_o a0_n (W ((aF v31 a0_o a0_n v32 v33 v36 ((a4.1.1,a4.1.2.1,(v31,a4.1.2.2.2)),a4.2)).1+1)) v33 v34 ((a4.1.1,a4.1.2.1,((aF v31 a0_o a0_n v32 v33 v36 ((a4.1.1,a4.1.2.1,(v31,a4.1.2.2.2)),a4.2)).2.2,a4.1.2.2.2)),a4.2)) v32 ((aF v31 a0_o a0_n v32 v33 v36 ((a4.1.1,a4.1.2.1,(v31,a4.1.2.2.2)),a4.2)).1) v34 (decide (((W (v33 - (aF v31 a0_o a0_n v32 v33 v36 ((a4.1.1,a4.1.2.1,(v31,a4.1.2.2.2)),a4.2)).1)):Int)≥(W (tD v35 8)))) ((aF v31 a0_o a0_n v32 v33 v36 ((a4.1.1,a4.1.2.1,(v31,a4.1.2.2.2)),a4.2)).2.1) (by and_intros<;>(try simp only [Lt])<;>first | omega | assumption | exact hi.2.1 | exact hi.2.2.1 | exact InR.swap hi.2.1 (by omega) (by omega) | exact InR.swap hr (by omega) (by omega) | exact hbk2 | exact hrv2 | exact hpi2 | exact hpe3 | exact hpa3 | exact hrc1b | exact hrc2b) (by omega)
theorem kF (nr:Nat)(a0:ZL)(a0_o a0_n:Nat)(a1 a2 a3:Int)(a4:eW×Int)(l0:a0.length<=2^63-1)(l4_1_1:a4.1.1.length<=2^63-1)(l4_1_2_2_1:a4.1.2.2.1.length<=2^63-1)(l4_1_2_2_2:a4.1.2.2.2.length<=2^63-1)(hw:a0_o+a0_n<=a0.length/\a0.length<=1048576)(hr:InR a4.1.1.length a0)(hab:0<=a1/\a1<=a2/\a2<=↑a0_n)(hlt:tN (a2 - a1) < nr+1)(ihr:∀(a0:ZL)(a0_o a0_n:Nat)(a1 a2 a3:Int)(a4:eW×Int)(l0:a0.length<=2^63-1)(l4_1_1:a4.1.1.length<=2^63-1)(l4_1_2_2_1:a4.1.2.2.1.length<=2^63-1)(l4_1_2_2_2:a4.1.2.2.2.length<=2^63-1)(hw:a0_o+a0_n<=a0.length/\a0.length<=1048576)(hr:InR a4.1.1.length a0)(hab:0<=a1/\a1<=a2/\a2<=↑a0_n),tN (a2 - a1) < nr->Con Tryz.prog 160 [(.s 0 (0+a0_o*1) a0_n 1),(iv a1),(iv a2),(iv a3),(.f 1000126 [(.a [(.p 1 0),(iv a4.2)])])] [(.live true true (flat c3 a0)),(.live false false [(.s 2 0 a4.1.1.length 10),(iv a4.1.2.1),(.s 0 0 a0.length 1),(.s 3 0 a4.1.2.2.2.length 8)]),(.live false true (flat fJ a4.1.1)),(.live false true (flat fP a4.1.2.2.2))] (.t []) [] [(.live true true (flat c3 (aK nr a0 a0_o a0_n a1 a2 a3 a4))),.un,.un,.un]) {cx:Cx} (hcx:cx.base=4)
 (n0:Nat) (g0:∀(v1:ZL) (v2 v3 v4:Int) (v5 v6:Bool),(v1.length=a0.length)/\(InR a4.1.1.length v1)/\(a1<=v2)/\(v2<=v3)/\(v3<=a2)->tN (v3 - v2) < n0->gG Tryz.f160 cx (.t []) [] [(.live true true (flat c3 (aE (bD (aK nr) a0 a0_o a0_n a1 a2 a3 a4) n0 (v1,v2,v3,v4,v5,v6)))),.un,.un,.un] (.l cT.1 n0::cT.2) (fA nr a0 a0_o a0_n a1 a2 a3 a4 (flat c3 v1) v1.length v2 v3 v4 v5 v6)) (v23:ZL) (v24 v25 v26:Int) (v27 v28:Bool) (v29 v30:Int):(v23.length=a0.length)/\(InR a4.1.1.length v23)/\(a1<=v24)/\(v24<=v25)/\(v25<=a2)/\(v29=v25 - v24)/\(13<=v29)/\(v24<=v30)/\(v30 < v25)/\((v23.length=a0.length))/\((InR a4.1.1.length v23))/\((a1<=v24))/\((v24<=v25))/\((v25<=a2))/\(tN (v25 - v24) < n0+1)->gG Tryz.f160 cx (.t []) [] [(.live true true (flat c3 (bZ (bD (aK nr) a0 a0_o a0_n a1 a2 a3 a4) n0 (bI (aK nr) a0 a0_o a0_n a1 a2 a3 a4 (v23,v24,v25,v26,v27,v28,v29,v30))))),.un,.un,.un] (.c iM::iN n0) (iE nr a0 a0_o a0_n a1 a2 a3 a4 (flat c3 v23) v23.length v24 v25 v26 v27 v28 v29 v30):=by
 intro hi;have hpe:=aV0 (N:=a4.1.1.length) (v:=v23) (o:=a0_o) (n:=a0_n) (a:=v24) (b:=v25) (c:=((a4.1.1,a4.1.2.1,(v23,a4.1.2.2.2)),a4.2)) (q:=v30) (by omega) hi.2.1 (by omega);obtain⟨hpe1,hpe2,hpe3⟩:=hpe;have hw_1:=aG (n:=v24 - 1) (by omega) (by omega);cases h0:(decide ((v24:Int) > 0))
 case true=>
  have q0:=dE h0;let t1:SL:=[.d h0,.i (W (v24 - 1)) a0_n,cW aB v23 a0_o (W (v24 - 1)) 0 1,.i v30 a0_n,cW aB v23 a0_o v30 0 1,.c [1,2,0,3] (uR ((a4.1.1,a4.1.2.1,(v23,a4.1.2.2.2)),a4.2) (v23.getD (a0_o+tN (W (v24 - 1))) dF) (v23.getD (a0_o+tN v30) dF) (by omega) (by(try simp only [Lt]);omega) (by omega) (hi.2.1.at (by omega)) (hi.2.1.at (by omega)))];cases h1:(!(decide (((iB ((a4.1.1,a4.1.2.1,(v23,a4.1.2.2.2)),a4.2) (v23.getD (a0_o+tN (W (v24 - 1))) dF) (v23.getD (a0_o+tN v30) dF)):Int) < 0)))
  case true=>
   have e:=Eq.refl (bI (aK nr) a0 a0_o a0_n a1 a2 a3 a4 (v23,v24,v25,v26,v27,v28,v29,v30));(conv at e=>rhs;simp only [bI,h0,h1,aQ]);rw [e];refine bA n0 (t1++[.d h1,.c [0,1,2,3] (aI3 v23 a0_o a0_n v24 v25 v30 ((a4.1.1,a4.1.2.1,(v23,a4.1.2.2.2)),a4.2) (by omega) (by omega) (by(try simp only [Lt]);omega) (by omega) (by omega) hi.2.1 (by omega))]) [0,1,2,3,4,10,11] [] hcx cT (fA nr a0 a0_o a0_n a1 a2 a3 a4 (flat c3 (cM v23 a0_o a0_n v24 v25 v30 ((a4.1.1,a4.1.2.1,(v23,a4.1.2.2.2)),a4.2)).2) (v23.length) ((cM v23 a0_o a0_n v24 v25 v30 ((a4.1.1,a4.1.2.1,(v23,a4.1.2.2.2)),a4.2)).1) v25 v26 v27 v28) ?_;have z0:v23.length=(cM v23 a0_o a0_n v24 v25 v30 ((a4.1.1,a4.1.2.1,(v23,a4.1.2.2.2)),a4.2)).2.length:=by first | omega | (simp;done)
   rw [z0];exact g0 ((cM v23 a0_o a0_n v24 v25 v30 ((a4.1.1,a4.1.2.1,(v23,a4.1.2.2.2)),a4.2)).2) ((cM v23 a0_o a0_n v24 v25 v30 ((a4.1.1,a4.1.2.1,(v23,a4.1.2.2.2)),a4.2)).1) v25 v26 v27 v28 (by and_intros<;>(try simp only [Lt])<;>first | omega | assumption | exact hi.2.1 | exact hi.2.2.1 | exact InR.swap hi.2.1 (by omega) (by omega) | exact InR.swap hr (by omega) (by omega) | exact hbk2 | exact hrv2 | exact hpi2 | exact hpe3 | exact hpa3 | exact hrc1b | exact hrc2b) (by omega)
  have e:=Eq.refl (bI (aK nr) a0 a0_o a0_n a1 a2 a3 a4 (v23,v24,v25,v26,v27,v28,v29,v30));(conv at e=>rhs;simp only [bI,h0,h1,aQ]);rw [e];refine ga (t1++[.d h1,.z 20]) [] [0,1,2,3,4,12,13] [] hcx nB (nC n0) (lO nr a0 a0_o a0_n a1 a2 a3 a4 (flat c3 v23) (v23.length) v24 v25 v26 v29 v30) (by kernel_rfl) ?_;exact sI nr a0 a0_o a0_n a1 a2 a3 a4 l0 l4_1_1 l4_1_2_2_1 l4_1_2_2_2 hw hr hab hlt ihr hcx n0 g0 v23 v24 v25 v26 v29 v30 (by and_intros<;>(try simp only [Lt])<;>first | omega | assumption | exact hi.2.1 | exact hi.2.2.1 | exact InR.swap hi.2.1 (by omega) (by omega) | exact InR.swap hr (by omega) (by omega) | exact hbk2 | exact hrv2 | exact hpi2 | exact hpe3 | exact hpa3 | exact hrc1b | exact hrc2b)
 have q0:=dO h0;have e:=Eq.refl (bI (aK nr) a0 a0_o a0_n a1 a2 a3 a4 (v23,v24,v25,v26,v27,v28,v29,v30));(conv at e=>rhs;simp only [bI,h0,aQ]);rw [e];refine ga [.d h0,.z 20] [] [0,1,2,3,4,12,13] [] hcx nB (nC n0) (lO nr a0 a0_o a0_n a1 a2 a3 a4 (flat c3 v23) (v23.length) v24 v25 v26 v29 v30) (by kernel_rfl) ?_;exact sI nr a0 a0_o a0_n a1 a2 a3 a4 l0 l4_1_1 l4_1_2_2_1 l4_1_2_2_2 hw hr hab hlt ihr hcx n0 g0 v23 v24 v25 v26 v29 v30 (by and_intros<;>(try simp only [Lt])<;>first | omega | assumption | exact hi.2.1 | exact hi.2.2.1 | exact InR.swap hi.2.1 (by omega) (by omega) | exact InR.swap hr (by omega) (by omega) | exact hbk2 | exact hrv2 | exact hpi2 | exact hpe3 | exact hpa3 | exact hrc1b | exact hrc2b)
theorem sJ (nr:Nat)(a0:ZL)(a0_o a0_n:Nat)(a1 a2 a3:Int)(a4:eW×Int)(l0:a0.length<=2^63-1)(l4_1_1:a4.1.1.length<=2^63-1)(l4_1_2_2_1:a4.1.2.2.1.length<=2^63-1)(l4_1_2_2_2:a4.1.2.2.2.length<=2^63-1)(hw:a0_o+a0_n<=a0.length/\a0.length<=1048576)(hr:InR a4.1.1.length a0)(hab:0<=a1/\a1<=a2/\a2<=↑a0_n)(hlt:tN (a2 - a1) < nr+1)(ihr:∀(a0:ZL)(a0_o a0_n:Nat)(a1 a2 a3:Int)(a4:eW×Int)(l0:a0.length<=2^63-1)(l4_1_1:a4.1.1.length<=2^63-1)(l4_1_2_2_1:a4.1.2.2.1.length<=2^63-1)(l4_1_2_2_2:a4.1.2.2.2.length<=2^63-1)(hw:a0_o+a0_n<=a0.length/\a0.length<=1048576)(hr:InR a4.1.1.length a0)(hab:0<=a1/\a1<=a2/\a2<=↑a0_n),tN (a2 - a1) < nr->Con Tryz.prog 160 [(.s 0 (0+a0_o*1) a0_n 1),(iv a1),(iv a2),(iv a3),(.f 1000126 [(.a [(.p 1 0),(iv a4.2)])])] [(.live true true (flat c3 a0)),(.live false false [(.s 2 0 a4.1.1.length 10),(iv a4.1.2.1),(.s 0 0 a0.length 1),(.s 3 0 a4.1.2.2.2.length 8)]),(.live false true (flat fJ a4.1.1)),(.live false true (flat fP a4.1.2.2.2))] (.t []) [] [(.live true true (flat c3 (aK nr a0 a0_o a0_n a1 a2 a3 a4))),.un,.un,.un]) {cx:Cx} (hcx:cx.base=4)
 (n0:Nat) (g0:∀(v1:ZL) (v2 v3 v4:Int) (v5 v6:Bool),(v1.length=a0.length)/\(InR a4.1.1.length v1)/\(a1<=v2)/\(v2<=v3)/\(v3<=a2)->tN (v3 - v2) < n0->gG Tryz.f160 cx (.t []) [] [(.live true true (flat c3 (aE (bD (aK nr) a0 a0_o a0_n a1 a2 a3 a4) n0 (v1,v2,v3,v4,v5,v6)))),.un,.un,.un] (.l cT.1 n0::cT.2) (fA nr a0 a0_o a0_n a1 a2 a3 a4 (flat c3 v1) v1.length v2 v3 v4 v5 v6)) (v14:ZL) (v15 v16 v17:Int) (v18 v19:Bool) (v20 v21 v22:Int):(v14.length=a0.length)/\(InR a4.1.1.length v14)/\(a1<=v15)/\(v15<=v16)/\(v16<=a2)/\(v20=v16 - v15)/\(13<=v20)/\(v15<=v21)/\(v21 < v16)/\((v14.length=a0.length))/\((InR a4.1.1.length v14))/\((a1<=v15))/\((v15<=v16))/\((v16<=a2))/\(tN (v16 - v15) < n0+1)->gG Tryz.f160 cx (.t []) [] [(.live true true (flat c3 (bZ (bD (aK nr) a0 a0_o a0_n a1 a2 a3 a4) n0 (bR (aK nr) a0 a0_o a0_n a1 a2 a3 a4 (v14,v15,v16,v17,v18,v19,v20,v21,v22))))),.un,.un,.un] (.c nD::nE n0) (lP nr a0 a0_o a0_n a1 a2 a3 a4 (flat c3 v14) v14.length v15 v16 v17 v18 v19 v20 v21 v22):=by
 intro hi;have hpi:=aVy (N:=a4.1.1.length) (v:=v14) (o:=a0_o) (n:=a0_n) (a:=v15) (b:=v16) (c:=((a4.1.1,a4.1.2.1,(v14,a4.1.2.2.2)),a4.2)) (by omega) hi.2.1 (by omega);obtain⟨hpi1,hpi2⟩:=hpi;rcases aMb v18 with h0 | h0
 ·skip
  let t1:SL:=[.d h0];rcases aMb v19 with h1 | h1
  ·skip
   let t2:SL:=t1++[.d h1];cases h2:((v22:Int) == 1)
   case true=>
    have q2:=eq_of_beq h2;let t3:SL:=t2++[.d h2,.c [0,1,2,3] (aI4 v14 a0_o a0_n v15 v16 ((a4.1.1,a4.1.2.1,(v14,a4.1.2.2.2)),a4.2) (by omega) (by omega) (by(try simp only [Lt]);omega) (by omega) (by omega) hi.2.1 (by omega))];cases h3:(cE v14 a0_o a0_n v15 v16 ((a4.1.1,a4.1.2.1,(v14,a4.1.2.2.2)),a4.2)).1
    case true=>
     have e:=Eq.refl (bR (aK nr) a0 a0_o a0_n a1 a2 a3 a4 (v14,v15,v16,v17,v18,v19,v20,v21,v22));(conv at e=>rhs;simp only [bR,h0,h1,h2,h3,aQ]);rw [e]
     try dsimp only [bZ]
     try dsimp only
     try rw [show List.length (α:=Int) (cE v14 a0_o a0_n v15 v16 ((a4.1.1,a4.1.2.1,(v14,a4.1.2.2.2)),a4.2)).2=v14.length from by first | simp;done | omega]
     exact rtm (t3++[.d h3]) [] [0] [] hcx (by kernel_rfl)
    have e:bR (aK nr) a0 a0_o a0_n a1 a2 a3 a4 (v14,v15,v16,v17,v18,v19,v20,v21,v22)=(bI (aK nr) a0 a0_o a0_n a1 a2 a3 a4 ((cE v14 a0_o a0_n v15 v16 ((a4.1.1,a4.1.2.1,(v14,a4.1.2.2.2)),a4.2)).2,v15,v16,v17,v18,v19,v20,v21)):=by simp only [bR,h0,h1,h2,h3,aQ]
    rw [e];refine ga (t3++[.d h3,.z 17]) [] [0,1,2,3,4,10,11,12,13] [] hcx iM (iN n0) (iE nr a0 a0_o a0_n a1 a2 a3 a4 (flat c3 (cE v14 a0_o a0_n v15 v16 ((a4.1.1,a4.1.2.1,(v14,a4.1.2.2.2)),a4.2)).2) (v14.length) v15 v16 v17 v18 v19 v20 v21) (by kernel_rfl) ?_;have z0:v14.length=(cE v14 a0_o a0_n v15 v16 ((a4.1.1,a4.1.2.1,(v14,a4.1.2.2.2)),a4.2)).2.length:=by first | omega | (simp;done)
    rw [z0];exact kF nr a0 a0_o a0_n a1 a2 a3 a4 l0 l4_1_1 l4_1_2_2_1 l4_1_2_2_2 hw hr hab hlt ihr hcx n0 g0 ((cE v14 a0_o a0_n v15 v16 ((a4.1.1,a4.1.2.1,(v14,a4.1.2.2.2)),a4.2)).2) v15 v16 v17 v18 v19 v20 v21 (by and_intros<;>(try simp only [Lt])<;>first | omega | assumption | exact hi.2.1 | exact hi.2.2.1 | exact InR.swap hi.2.1 (by omega) (by omega) | exact InR.swap hr (by omega) (by omega) | exact hbk2 | exact hrv2 | exact hpi2 | exact hpe3 | exact hpa3 | exact hrc1b | exact hrc2b)
   have q2:=ne_of_beq_false h2;have e:bR (aK nr) a0 a0_o a0_n a1 a2 a3 a4 (v14,v15,v16,v17,v18,v19,v20,v21,v22)=(bI (aK nr) a0 a0_o a0_n a1 a2 a3 a4 (v14,v15,v16,v17,v18,v19,v20,v21)):=by simp only [bR,h0,h1,h2,aQ]
   rw [e];refine ga (t2++[.d h2,.z 17]) [] [0,1,2,3,4,10,11,12,13] [] hcx iM (iN n0) (iE nr a0 a0_o a0_n a1 a2 a3 a4 (flat c3 v14) (v14.length) v15 v16 v17 v18 v19 v20 v21) (by kernel_rfl) ?_;exact kF nr a0 a0_o a0_n a1 a2 a3 a4 l0 l4_1_1 l4_1_2_2_1 l4_1_2_2_2 hw hr hab hlt ihr hcx n0 g0 v14 v15 v16 v17 v18 v19 v20 v21 (by and_intros<;>(try simp only [Lt])<;>first | omega | assumption | exact hi.2.1 | exact hi.2.2.1 | exact InR.swap hi.2.1 (by omega) (by omega) | exact InR.swap hr (by omega) (by omega) | exact hbk2 | exact hrv2 | exact hpi2 | exact hpe3 | exact hpa3 | exact hrc1b | exact hrc2b)
  ·skip
   have e:bR (aK nr) a0 a0_o a0_n a1 a2 a3 a4 (v14,v15,v16,v17,v18,v19,v20,v21,v22)=(bI (aK nr) a0 a0_o a0_n a1 a2 a3 a4 (v14,v15,v16,v17,v18,v19,v20,v21)):=by simp only [bR,h0,h1,aQ]
   rw [e];refine ga (t1++[.d h1,.z 17]) [] [0,1,2,3,4,10,11,12,13] [] hcx iM (iN n0) (iE nr a0 a0_o a0_n a1 a2 a3 a4 (flat c3 v14) (v14.length) v15 v16 v17 v18 v19 v20 v21) (by kernel_rfl) ?_;exact kF nr a0 a0_o a0_n a1 a2 a3 a4 l0 l4_1_1 l4_1_2_2_1 l4_1_2_2_2 hw hr hab hlt ihr hcx n0 g0 v14 v15 v16 v17 v18 v19 v20 v21 (by and_intros<;>(try simp only [Lt])<;>first | omega | assumption | exact hi.2.1 | exact hi.2.2.1 | exact InR.swap hi.2.1 (by omega) (by omega) | exact InR.swap hr (by omega) (by omega) | exact hbk2 | exact hrv2 | exact hpi2 | exact hpe3 | exact hpa3 | exact hrc1b | exact hrc2b)
 ·skip
  have e:bR (aK nr) a0 a0_o a0_n a1 a2 a3 a4 (v14,v15,v16,v17,v18,v19,v20,v21,v22)=(bI (aK nr) a0 a0_o a0_n a1 a2 a3 a4 (v14,v15,v16,v17,v18,v19,v20,v21)):=by simp only [bR,h0,aQ]
  rw [e];refine ga [.d h0,.z 17] [] [0,1,2,3,4,10,11,12,13] [] hcx iM (iN n0) (iE nr a0 a0_o a0_n a1 a2 a3 a4 (flat c3 v14) (v14.length) v15 v16 v17 v18 v19 v20 v21) (by kernel_rfl) ?_;exact kF nr a0 a0_o a0_n a1 a2 a3 a4 l0 l4_1_1 l4_1_2_2_1 l4_1_2_2_2 hw hr hab hlt ihr hcx n0 g0 v14 v15 v16 v17 v18 v19 v20 v21 (by and_intros<;>(try simp only [Lt])<;>first | omega | assumption | exact hi.2.1 | exact hi.2.2.1 | exact InR.swap hi.2.1 (by omega) (by omega) | exact InR.swap hr (by omega) (by omega) | exact hbk2 | exact hrv2 | exact hpi2 | exact hpe3 | exact hpa3 | exact hrc1b | exact hrc2b)
theorem sK (nr:Nat)(a0:ZL)(a0_o a0_n:Nat)(a1 a2 a3:Int)(a4:eW×Int)(l0:a0.length<=2^63-1)(l4_1_1:a4.1.1.length<=2^63-1)(l4_1_2_2_1:a4.1.2.2.1.length<=2^63-1)(l4_1_2_2_2:a4.1.2.2.2.length<=2^63-1)(hw:a0_o+a0_n<=a0.length/\a0.length<=1048576)(hr:InR a4.1.1.length a0)(hab:0<=a1/\a1<=a2/\a2<=↑a0_n)(hlt:tN (a2 - a1) < nr+1)(ihr:∀(a0:ZL)(a0_o a0_n:Nat)(a1 a2 a3:Int)(a4:eW×Int)(l0:a0.length<=2^63-1)(l4_1_1:a4.1.1.length<=2^63-1)(l4_1_2_2_1:a4.1.2.2.1.length<=2^63-1)(l4_1_2_2_2:a4.1.2.2.2.length<=2^63-1)(hw:a0_o+a0_n<=a0.length/\a0.length<=1048576)(hr:InR a4.1.1.length a0)(hab:0<=a1/\a1<=a2/\a2<=↑a0_n),tN (a2 - a1) < nr->Con Tryz.prog 160 [(.s 0 (0+a0_o*1) a0_n 1),(iv a1),(iv a2),(iv a3),(.f 1000126 [(.a [(.p 1 0),(iv a4.2)])])] [(.live true true (flat c3 a0)),(.live false false [(.s 2 0 a4.1.1.length 10),(iv a4.1.2.1),(.s 0 0 a0.length 1),(.s 3 0 a4.1.2.2.2.length 8)]),(.live false true (flat fJ a4.1.1)),(.live false true (flat fP a4.1.2.2.2))] (.t []) [] [(.live true true (flat c3 (aK nr a0 a0_o a0_n a1 a2 a3 a4))),.un,.un,.un]) {cx:Cx} (hcx:cx.base=4)
 (n0:Nat) (g0:∀(v1:ZL) (v2 v3 v4:Int) (v5 v6:Bool),(v1.length=a0.length)/\(InR a4.1.1.length v1)/\(a1<=v2)/\(v2<=v3)/\(v3<=a2)->tN (v3 - v2) < n0->gG Tryz.f160 cx (.t []) [] [(.live true true (flat c3 (aE (bD (aK nr) a0 a0_o a0_n a1 a2 a3 a4) n0 (v1,v2,v3,v4,v5,v6)))),.un,.un,.un] (.l cT.1 n0::cT.2) (fA nr a0 a0_o a0_n a1 a2 a3 a4 (flat c3 v1) v1.length v2 v3 v4 v5 v6)) (v7:ZL) (v8 v9 v10:Int) (v11 v12:Bool) (v13:Int):(v7.length=a0.length)/\(InR a4.1.1.length v7)/\(a1<=v8)/\(v8<=v9)/\(v9<=a2)/\(v13=v9 - v8)/\(13<=v13)/\((v7.length=a0.length))/\((InR a4.1.1.length v7))/\((a1<=v8))/\((v8<=v9))/\((v9<=a2))/\(tN (v9 - v8) < n0+1)->gG Tryz.f160 cx (.t []) [] [(.live true true (flat c3 (bZ (bD (aK nr) a0 a0_o a0_n a1 a2 a3 a4) n0 (dD (aK nr) a0 a0_o a0_n a1 a2 a3 a4 (v7,v8,v9,v10,v11,v12,v13))))),.un,.un,.un] (.c nF::nG n0) (lQ nr a0 a0_o a0_n a1 a2 a3 a4 (flat c3 v7) v7.length v8 v9 v10 v11 v12 v13):=by
 intro hi;have hrv:=aVw (N:=a4.1.1.length) (v:=v7) (o:=a0_o) (n:=a0_n) (a:=v8) (b:=v9) (c:=((a4.1.1,a4.1.2.1,(v7,a4.1.2.2.2)),a4.2)) (by omega) hi.2.1 (by omega);obtain⟨hrv1,hrv2⟩:=hrv;have hcp:=aVx (v:=v7) (o:=a0_o) (n:=a0_n) (a:=v8) (b:=v9) (c:=((a4.1.1,a4.1.2.1,(v7,a4.1.2.2.2)),a4.2)) (by omega) (by omega);have hw_1:=aG (n:=v9 - 1) (by omega) (by omega);have hw_2:=aG (n:=(aY v7 a0_o a0_n v8 v9 ((a4.1.1,a4.1.2.1,(v7,a4.1.2.2.2)),a4.2)).1 - v8) (by omega) (by omega);have hw_3:=aG (n:=(W (v9 - 1)) - (W ((aY v7 a0_o a0_n v8 v9 ((a4.1.1,a4.1.2.1,(v7,a4.1.2.2.2)),a4.2)).1 - v8))) (by omega) (by omega);let t0:SL:=[.c [0,1,2,3] (aI7 v7 a0_o a0_n v8 v9 ((a4.1.1,a4.1.2.1,(v7,a4.1.2.2.2)),a4.2) (by omega) (by omega) (by(try simp only [Lt]);omega) (by omega) (by omega) hi.2.1 (by omega))];cases h0:(((aY v7 a0_o a0_n v8 v9 ((a4.1.1,a4.1.2.1,(v7,a4.1.2.2.2)),a4.2)).2:Int) == 2)
 case true=>
  have q0:=eq_of_beq h0;have e:=Eq.refl (dD (aK nr) a0 a0_o a0_n a1 a2 a3 a4 (v7,v8,v9,v10,v11,v12,v13));(conv at e=>rhs;simp only [dD,h0,aQ]);rw [e];refine ga (t0++[.d h0,.c [0,1,2,3] (aI1 v7 a0_o a0_n v8 v9 ((a4.1.1,a4.1.2.1,(v7,a4.1.2.2.2)),a4.2) (by omega) (by omega) (by(try simp only [Lt]);omega) (by omega) (by omega) hi.2.1 (by omega)),.z 15]) [] [0,1,2,3,4,10,11,12,13,14] [] hcx nD (nE n0) (lP nr a0 a0_o a0_n a1 a2 a3 a4 (flat c3 (eO v7 a0_o a0_n v8 v9 ((a4.1.1,a4.1.2.1,(v7,a4.1.2.2.2)),a4.2))) (v7.length) v8 v9 v10 v11 v12 v13 (W ((W (v9 - 1)) - (W ((aY v7 a0_o a0_n v8 v9 ((a4.1.1,a4.1.2.1,(v7,a4.1.2.2.2)),a4.2)).1 - v8)))) 1) (by kernel_rfl) ?_;have z0:v7.length=(eO v7 a0_o a0_n v8 v9 ((a4.1.1,a4.1.2.1,(v7,a4.1.2.2.2)),a4.2)).length:=by first | omega | (simp;done)
  rw [z0];exact sJ nr a0 a0_o a0_n a1 a2 a3 a4 l0 l4_1_1 l4_1_2_2_1 l4_1_2_2_2 hw hr hab hlt ihr hcx n0 g0 (eO v7 a0_o a0_n v8 v9 ((a4.1.1,a4.1.2.1,(v7,a4.1.2.2.2)),a4.2)) v8 v9 v10 v11 v12 v13 (W ((W (v9 - 1)) - (W ((aY v7 a0_o a0_n v8 v9 ((a4.1.1,a4.1.2.1,(v7,a4.1.2.2.2)),a4.2)).1 - v8)))) 1 (by and_intros<;>(try simp only [Lt])<;>first | omega | assumption | exact hi.2.1 | exact hi.2.2.1 | exact InR.swap hi.2.1 (by omega) (by omega) | exact InR.swap hr (by omega) (by omega) | exact hbk2 | exact hrv2 | exact hpi2 | exact hpe3 | exact hpa3 | exact hrc1b | exact hrc2b)
 have q0:=ne_of_beq_false h0;have e:=Eq.refl (dD (aK nr) a0 a0_o a0_n a1 a2 a3 a4 (v7,v8,v9,v10,v11,v12,v13));(conv at e=>rhs;simp only [dD,h0,aQ]);rw [e];refine ga (t0++[.d h0,.z 15]) [] [0,1,2,3,4,10,11,12,13,14] [] hcx nD (nE n0) (lP nr a0 a0_o a0_n a1 a2 a3 a4 (flat c3 v7) (v7.length) v8 v9 v10 v11 v12 v13 ((aY v7 a0_o a0_n v8 v9 ((a4.1.1,a4.1.2.1,(v7,a4.1.2.2.2)),a4.2)).1) ((aY v7 a0_o a0_n v8 v9 ((a4.1.1,a4.1.2.1,(v7,a4.1.2.2.2)),a4.2)).2)) (by kernel_rfl) ?_;exact sJ nr a0 a0_o a0_n a1 a2 a3 a4 l0 l4_1_1 l4_1_2_2_1 l4_1_2_2_2 hw hr hab hlt ihr hcx n0 g0 v7 v8 v9 v10 v11 v12 v13 ((aY v7 a0_o a0_n v8 v9 ((a4.1.1,a4.1.2.1,(v7,a4.1.2.2.2)),a4.2)).1) ((aY v7 a0_o a0_n v8 v9 ((a4.1.1,a4.1.2.1,(v7,a4.1.2.2.2)),a4.2)).2) (by and_intros<;>(try simp only [Lt])<;>first | omega | assumption | exact hi.2.1 | exact hi.2.2.1 | exact InR.swap hi.2.1 (by omega) (by omega) | exact InR.swap hr (by omega) (by omega) | exact hbk2 | exact hrv2 | exact hpi2 | exact hpe3 | exact hpa3 | exact hrc1b | exact hrc2b)
theorem aEp (nr:Nat)(a0:ZL)(a0_o a0_n:Nat)(a1 a2 a3:Int)(a4:eW×Int)(l0:a0.length<=2^63-1)(l4_1_1:a4.1.1.length<=2^63-1)(l4_1_2_2_1:a4.1.2.2.1.length<=2^63-1)(l4_1_2_2_2:a4.1.2.2.2.length<=2^63-1)(hw:a0_o+a0_n<=a0.length/\a0.length<=1048576)(hr:InR a4.1.1.length a0)(hab:0<=a1/\a1<=a2/\a2<=↑a0_n)(hlt:tN (a2 - a1) < nr+1)(ihr:∀(a0:ZL)(a0_o a0_n:Nat)(a1 a2 a3:Int)(a4:eW×Int)(l0:a0.length<=2^63-1)(l4_1_1:a4.1.1.length<=2^63-1)(l4_1_2_2_1:a4.1.2.2.1.length<=2^63-1)(l4_1_2_2_2:a4.1.2.2.2.length<=2^63-1)(hw:a0_o+a0_n<=a0.length/\a0.length<=1048576)(hr:InR a4.1.1.length a0)(hab:0<=a1/\a1<=a2/\a2<=↑a0_n),tN (a2 - a1) < nr->Con Tryz.prog 160 [(.s 0 (0+a0_o*1) a0_n 1),(iv a1),(iv a2),(iv a3),(.f 1000126 [(.a [(.p 1 0),(iv a4.2)])])] [(.live true true (flat c3 a0)),(.live false false [(.s 2 0 a4.1.1.length 10),(iv a4.1.2.1),(.s 0 0 a0.length 1),(.s 3 0 a4.1.2.2.2.length 8)]),(.live false true (flat fJ a4.1.1)),(.live false true (flat fP a4.1.2.2.2))] (.t []) [] [(.live true true (flat c3 (aK nr a0 a0_o a0_n a1 a2 a3 a4))),.un,.un,.un]) {cx:Cx} (hcx:cx.base=4):∀(n:Nat) (v1:ZL) (v2 v3 v4:Int) (v5 v6:Bool),(v1.length=a0.length)/\(InR a4.1.1.length v1)/\(a1<=v2)/\(v2<=v3)/\(v3<=a2)->tN (v3 - v2) < n->gG Tryz.f160 cx (.t []) [] [(.live true true (flat c3 (aE (bD (aK nr) a0 a0_o a0_n a1 a2 a3 a4) n (v1,v2,v3,v4,v5,v6)))),.un,.un,.un] (.l cT.1 n::cT.2) (fA nr a0 a0_o a0_n a1 a2 a3 a4 (flat c3 v1) v1.length v2 v3 v4 v5 v6):=by
 intro n
 induction n with|zero=>intro v1 v2 v3 v4 v5 v6 hi hn;exact absurd hn (fW _)|succ n ih=>?_
 intro v1 v2 v3 v4 v5 v6 hi hn;refine aS ?_;have hw_l:=aG (n:=v3 - v2) (by omega) (by omega);have hbk:=aVv (N:=a4.1.1.length) (v:=v1) (o:=a0_o) (n:=a0_n) (a:=v2) (b:=v3) (c:=((a4.1.1,a4.1.2.1,(v1,a4.1.2.2.2)),a4.2)) (by omega) hi.2.1 (by omega);obtain⟨hbk1,hbk2⟩:=hbk;cases h0:(decide (((W (v3 - v2)):Int)<=12))
 case true=>
  have q0:=dE h0;have e:=Eq.refl (bD (aK nr) a0 a0_o a0_n a1 a2 a3 a4 (v1,v2,v3,v4,v5,v6));(conv at e=>rhs;simp only [bD,h0,aQ]);rw [aJ,e]
  try dsimp only [bZ]
  try dsimp only
  try rw [show List.length (α:=Int) (gR v1 a0_o a0_n v2 v3 ((a4.1.1,a4.1.2.1,(v1,a4.1.2.2.2)),a4.2))=v1.length from by first | simp;done | omega]
  exact rtm [.d h0,.c [0,1,2,3] (aI0 v1 a0_o a0_n v2 v3 ((a4.1.1,a4.1.2.1,(v1,a4.1.2.2.2)),a4.2) (by omega) (by omega) (by(try simp only [Lt]);omega) (by omega) (by omega) hi.2.1 (by omega))] [] [0] [] hcx (by kernel_rfl)
 have q0:=dO h0;let t1:SL:=[.d h0];cases h1:((v4:Int) == 0)
 case true=>
  have q1:=eq_of_beq h1;have e:=Eq.refl (bD (aK nr) a0 a0_o a0_n a1 a2 a3 a4 (v1,v2,v3,v4,v5,v6));(conv at e=>rhs;simp only [bD,h0,h1,aQ]);rw [aJ,e]
  try dsimp only [bZ]
  try dsimp only
  try rw [show List.length (α:=Int) (gT v1 a0_o a0_n v2 v3 ((a4.1.1,a4.1.2.1,(v1,a4.1.2.2.2)),a4.2))=v1.length from by first | simp;done | omega]
  exact rtm (t1++[.d h1,.c [0,1,2,3] (aI5 v1 a0_o a0_n v2 v3 ((a4.1.1,a4.1.2.1,(v1,a4.1.2.2.2)),a4.2) (by omega) (by omega) (by(try simp only [Lt]);omega) (by omega) (by omega) hi.2.1 (by omega))]) [] [0] [] hcx (by kernel_rfl)
 have q1:=ne_of_beq_false h1;let t2:SL:=t1++[.d h1];cases h2:(!v5)
 case true=>
  have e:=Eq.refl (bD (aK nr) a0 a0_o a0_n a1 a2 a3 a4 (v1,v2,v3,v4,v5,v6));(conv at e=>rhs;simp only [bD,h0,h1,h2,aQ]);rw [aJ,e];refine ga (t2++[.d h2,.c [0,1,2,3] (aJa v1 a0_o a0_n v2 v3 ((a4.1.1,a4.1.2.1,(v1,a4.1.2.2.2)),a4.2) (by omega) (by omega) (by(try simp only [Lt]);omega) (by omega) (by omega) hi.2.1 (by omega)),.z 10]) [] [0,1,2,3,4,10,11,12] [] hcx nF (nG n) (lQ nr a0 a0_o a0_n a1 a2 a3 a4 (flat c3 (eC v1 a0_o a0_n v2 v3 ((a4.1.1,a4.1.2.1,(v1,a4.1.2.2.2)),a4.2))) (v1.length) v2 v3 (W (v4 - 1)) v5 v6 (W (v3 - v2))) (by kernel_rfl) ?_;have z0:v1.length=(eC v1 a0_o a0_n v2 v3 ((a4.1.1,a4.1.2.1,(v1,a4.1.2.2.2)),a4.2)).length:=by first | omega | (simp;done)
  rw [z0];exact sK nr a0 a0_o a0_n a1 a2 a3 a4 l0 l4_1_1 l4_1_2_2_1 l4_1_2_2_2 hw hr hab hlt ihr hcx n ih (eC v1 a0_o a0_n v2 v3 ((a4.1.1,a4.1.2.1,(v1,a4.1.2.2.2)),a4.2)) v2 v3 (W (v4 - 1)) v5 v6 (W (v3 - v2)) (by and_intros<;>(try simp only [Lt])<;>first | omega | assumption | exact hi.2.1 | exact hi.2.2.1 | exact InR.swap hi.2.1 (by omega) (by omega) | exact InR.swap hr (by omega) (by omega) | exact hbk2 | exact hrv2 | exact hpi2 | exact hpe3 | exact hpa3 | exact hrc1b | exact hrc2b)
 have e:=Eq.refl (bD (aK nr) a0 a0_o a0_n a1 a2 a3 a4 (v1,v2,v3,v4,v5,v6));(conv at e=>rhs;simp only [bD,h0,h1,h2,aQ]);rw [aJ,e];refine ga (t2++[.d h2,.z 10]) [] [0,1,2,3,4,10,11,12] [] hcx nF (nG n) (lQ nr a0 a0_o a0_n a1 a2 a3 a4 (flat c3 v1) (v1.length) v2 v3 v4 v5 v6 (W (v3 - v2))) (by kernel_rfl) ?_;exact sK nr a0 a0_o a0_n a1 a2 a3 a4 l0 l4_1_1 l4_1_2_2_1 l4_1_2_2_2 hw hr hab hlt ihr hcx n ih v1 v2 v3 v4 v5 v6 (W (v3 - v2)) (by and_intros<;>(try simp only [Lt])<;>first | omega | assumption | exact hi.2.1 | exact hi.2.2.1 | exact InR.swap hi.2.1 (by omega) (by omega) | exact InR.swap hr (by omega) (by omega) | exact hbk2 | exact hrv2 | exact hpi2 | exact hpe3 | exact hpa3 | exact hrc1b | exact hrc2b)
theorem aGk:∀(nr:Nat) (a0:ZL) (a0_o a0_n:Nat) (a1 a2 a3:Int) (a4:eW×Int) (l0:a0.length<=2^63-1) (l4_1_1:a4.1.1.length<=2^63-1) (l4_1_2_2_1:a4.1.2.2.1.length<=2^63-1) (l4_1_2_2_2:a4.1.2.2.2.length<=2^63-1) (hw:a0_o+a0_n<=a0.length/\a0.length<=1048576) (hr:InR a4.1.1.length a0) (hab:0<=a1/\a1<=a2/\a2<=↑a0_n),tN (a2 - a1) < nr->Con Tryz.prog 160 [(.s 0 (0+a0_o*1) a0_n 1),(iv a1),(iv a2),(iv a3),(.f 1000126 [(.a [(.p 1 0),(iv a4.2)])])] [(.live true true (flat c3 a0)),(.live false false [(.s 2 0 a4.1.1.length 10),(iv a4.1.2.1),(.s 0 0 a0.length 1),(.s 3 0 a4.1.2.2.2.length 8)]),(.live false true (flat fJ a4.1.1)),(.live false true (flat fP a4.1.2.2.2))] (.t []) [] [(.live true true (flat c3 (aK nr a0 a0_o a0_n a1 a2 a3 a4))),.un,.un,.un]:=by
 intro nr
 induction nr with
 | zero=>intro a0 a0_o a0_n a1 a2 a3 a4 l0 l4_1_1 l4_1_2_2_1 l4_1_2_2_2 hw hr hab hlt;exact absurd hlt (fW _)
 | succ nr ihr =>
 intro a0 a0_o a0_n a1 a2 a3 a4 l0 l4_1_1 l4_1_2_2_1 l4_1_2_2_2 hw hr hab hlt;refine cS Tryz.func160 fun cx hcx=>?_
 have e:=Eq.refl (aK (nr+1) a0 a0_o a0_n a1 a2 a3 a4);(conv at e=>rhs;simp only [aK]);rw [e];refine eN [] [0,1,2,3,4,10,11] [] hcx cT (fA nr a0 a0_o a0_n a1 a2 a3 a4 (flat c3 a0) (a0.length) a1 a2 a3 true true) (tN (a2 - a1)+1) ?_;exact aEp nr a0 a0_o a0_n a1 a2 a3 a4 l0 l4_1_1 l4_1_2_2_1 l4_1_2_2_2 hw hr hab hlt ihr hcx (tN (a2 - a1)+1) a0 a1 a2 a3 true true (by and_intros<;>(try simp only [Lt])<;>first | omega | assumption | exact hi.2.1 | exact hi.2.2.1 | exact InR.swap hi.2.1 (by omega) (by omega) | exact InR.swap hr (by omega) (by omega) | exact hbk2 | exact hrv2 | exact hpi2 | exact hpe3 | exact hpa3 | exact hrc1b | exact hrc2b) (by omega)
theorem aJb (a0:ZL)(a0_o a0_n:Nat)(a1 a2 a3:Int)(a4:eW×Int)(l0:a0.length<=2^63-1)(l4_1_1:a4.1.1.length<=2^63-1)(l4_1_2_2_1:a4.1.2.2.1.length<=2^63-1)(l4_1_2_2_2:a4.1.2.2.2.length<=2^63-1)(hw:a0_o+a0_n<=a0.length/\a0.length<=1048576)(hr:InR a4.1.1.length a0)(hab:0<=a1/\a1<=a2/\a2<=↑a0_n):Con Tryz.prog 160 [(.s 0 (0+a0_o*1) a0_n 1),(iv a1),(iv a2),(iv a3),(.f 1000126 [(.a [(.p 1 0),(iv a4.2)])])] [(.live true true (flat c3 a0)),(.live false false [(.s 2 0 a4.1.1.length 10),(iv a4.1.2.1),(.s 0 0 a0.length 1),(.s 3 0 a4.1.2.2.2.length 8)]),(.live false true (flat fJ a4.1.1)),(.live false true (flat fP a4.1.2.2.2))] (.t []) [] [(.live true true (flat c3 (pR a0 a0_o a0_n a1 a2 a3 a4))),.un,.un,.un]:=aGk (tN (a2 - a1)+1) a0 a0_o a0_n a1 a2 a3 a4 l0 l4_1_1 l4_1_2_2_1 l4_1_2_2_2 hw hr hab (lss _)
end Go.Proofs.YtlffahoikfahlaaGreat
namespace Go.Proofs.YtlffahoikfahlaaGreat
open Go.Proofs Go.Aw Go.RowKit
set_option maxRecDepth 100000
section
open Go.Sort
variable {o n : Nat} {l l0 : ZL} {c : sH} {nr m : Nat} {a1 a2 a3 : Int}
def PqT (l:ZL)(o n:Nat)(rr:ZL->Nat->Nat->Int->Int->Int->sH->ZL)(l0:ZL)(a1 a2 a3:Int)(c:sH)(m:Nat)(x:(ZL×Int×Int×Int×Bool×Bool)⊕ZL)(t:Array Int):Prop := bZ (bD rr l0 o n a1 a2 a3 c) m x=wp l o t/\t.size=n
variable {rr : ZL → Nat → Nat → Int → Int → Int → sH → ZL}
 (hl:o+n<=l.length) (hn:n<=1048576)
 (Hr:∀(c:sH) (d:Array Int) (a b lim:Nat),d.size=n->a<=b->b<=n->lim<=1048576->b - a < nr->rr (wp l o d) o n (a:Int) (b:Int) (lim:Int) c=wp l o (pdq (bM c) d a b lim true true)/\(pdq (bM c) d a b lim true true).size=n)
 (Hm:∀(d:Array Int) (a b lim:Nat) (w1 w2:Bool),d.size=n->a<=b->b<=n->lim<=1048576->b - a < m->b - a<=nr->aE (bD rr l0 o n a1 a2 a3 c) m (wp l o d,(a:Int),(b:Int),(lim:Int),w1,w2)=wp l o (pdq (bM c) d a b lim w1 w2)/\(pdq (bM c) d a b lim w1 w2).size=n)
include hl hn Hr Hm
theorem bAf {d:Array Int} {a b lim q:Nat} (hd:d.size=n)(hq:a<=q/\q < b)(hb:b<=n)(hli:lim<=1048576)(hm:b - a<=m)(hnr:b - a<=nr) :
 PqT l o n rr l0 a1 a2 a3 c m (dC rr l0 o n a1 a2 a3 c (wp l o d,(a:Int),(b:Int),(lim:Int),((b - a:Nat):Int),(q:Int)))
  (match partition (bM c) d a b q with
   | (mid,alreadyPartitioned,d4) =>
    if _h:a<=mid/\mid < b then
     if mid - a < b - mid then pdq (bM c) (pdq (bM c) d4 a mid lim true true) (mid+1) b lim (decide (mid - a≥(b - a) / 8)) alreadyPartitioned
     else pdq (bM c) (pdq (bM c) d4 (mid+1) b lim true true) a mid lim (decide (b - mid≥(b - a) / 8)) alreadyPartitioned
    else d4):=by
 have hp:aF (wp l o d) o n (a:Int) (b:Int) (q:Int) ((c.1.1,c.1.2.1,(wp l o d,c.1.2.2.2)),c.2)=_:=aQ3 (l:=l) (c:=((c.1.1,c.1.2.1,(wp l o d,c.1.2.2.2)),c.2)) hl hn hd hq.1 hq.2 hb;obtain⟨r1,r2,r3,_⟩:=partition_holds (lt:=bM c) (nQ c) d a b q hq.1 hq.2 (by omega);have hp':aF (wp l o d) o n (a:Int) (b:Int) (q:Int) ((c.1.1,c.1.2.1,(wp l o d,c.1.2.2.2)),c.2)=(((partition (bM c) d a b q).1:Int),(partition (bM c) d a b q).2.1,wp l o (partition (bM c) d a b q).2.2):=hp;clear hp;generalize partition (bM c) d a b q=pt at hp' r1 r2 r3 ⊢;obtain⟨mid,ap,d4⟩:=pt;dsimp only at hp' r1 r2 r3 ⊢;have hd4:d4.size=n:=by rw [r3.1];exact hd
 rw [dif_pos ⟨r1,r2⟩];have e8:W (tD ((b - a:Nat):Int) 8)=(((b - a) / 8:Nat):Int):=by rw [Int.tdiv_eq_ediv_of_nonneg (by omega)];exact wN (by omega) (by omega)
 unfold PqT;simp only [dC,hp',e8,wN (x:=(mid:Int) - (a:Int)) (n:=mid - a) (by omega) (by omega),wN (x:=(b:Int) - (mid:Int)) (n:=b - mid) (by omega) (by omega),wN (x:=(mid:Int)+1) (n:=mid+1) (by omega) (by omega)];by_cases h:mid - a < b - mid
 ·rw [cL (show((mid - a:Nat):Int) < ((b - mid:Nat):Int) by omega),cond_true,if_pos h];have h1:=Hr ((c.1.1,c.1.2.1,(wp l o d4,c.1.2.2.2)),c.2) d4 a mid lim hd4 r1 (by omega) hli (by omega);rw [h1.1];have hd5:decide (((mid - a:Nat):Int)≥(((b - a) / 8:Nat):Int))=decide (mid - a≥(b - a) / 8):=by
   by_cases h8:mid - a≥(b - a) / 8
   ·rw [cL h8];exact cL (by omega)
   ·rw [cV h8];exact cV (by omega)
  rw [hd5];exact Hm (pdq (bM c) d4 a mid lim true true) (mid+1) b lim _ _ h1.2 (by omega) hb hli (by omega) (by omega)
 ·rw [cV (show ¬((mid - a:Nat):Int) < ((b - mid:Nat):Int) by omega),cond_false,if_neg h];have h1:=Hr ((c.1.1,c.1.2.1,(wp l o d4,c.1.2.2.2)),c.2) d4 (mid+1) b lim hd4 (by omega) hb hli (by omega);rw [h1.1];have hd5:decide (((b - mid:Nat):Int)≥(((b - a) / 8:Nat):Int))=decide (b - mid≥(b - a) / 8):=by
   by_cases h8:b - mid≥(b - a) / 8
   ·rw [cL h8];exact cL (by omega)
   ·rw [cV h8];exact cV (by omega)
  rw [hd5];exact Hm (pdq (bM c) d4 (mid+1) b lim true true) a mid lim _ _ h1.2 (by omega) (by omega) hli (by omega) (by omega)
theorem aV1 {d:Array Int} {a b lim q:Nat} {w1 w2:Bool} (hd:d.size=n)(hq:a<=q/\q < b)(hb:b<=n)(hli:lim<=1048576)(hm:b - a<=m)(hnr:b - a<=nr) :
 PqT l o n rr l0 a1 a2 a3 c m (bI rr l0 o n a1 a2 a3 c (wp l o d,(a:Int),(b:Int),(lim:Int),w1,w2,((b - a:Nat):Int),(q:Int)))
  (if a > 0&&!bM c d[a - 1]! d[q]! then
   match partitionEqual (bM c) d a b q with
   | (mid,d4)=>if _h:a < mid/\mid<=b then pdq (bM c) d4 mid b lim w1 w2 else d4
  else match partition (bM c) d a b q with
   | (mid,alreadyPartitioned,d4) =>
    if _h:a<=mid/\mid < b then
     if mid - a < b - mid then pdq (bM c) (pdq (bM c) d4 a mid lim true true) (mid+1) b lim (decide (mid - a≥(b - a) / 8)) alreadyPartitioned
     else pdq (bM c) (pdq (bM c) d4 (mid+1) b lim true true) a mid lim (decide (b - mid≥(b - a) / 8)) alreadyPartitioned
    else d4):=by
 have h20:=bAf (a1:=a1) (a2:=a2) (a3:=a3) (l0:=l0) (c:=c) hl hn Hr Hm hd hq hb hli hm hnr;have hl':o+d.size<=l.length:=by omega
 unfold PqT at h20 ⊢;simp only [bI,hZ];by_cases h0:a > 0
 ·rw [cL (show(a:Int) > 0 by omega),cond_true,wN (x:=(a:Int) - 1) (n:=a - 1) (by omega) (by omega),iH,iH,cZ hl' (by omega),cZ hl' (by omega),cL h0,Bool.true_and];cases hc:bM c d[a - 1]! d[q]!
  case true=>exact h20
  rw [Bool.not_false,cond_true,if_pos rfl];have hp:cM (wp l o d) o n (a:Int) (b:Int) (q:Int) ((c.1.1,c.1.2.1,(wp l o d,c.1.2.2.2)),c.2)=(((partitionEqual (bM c) d a b q).1:Int),wp l o (partitionEqual (bM c) d a b q).2):=aQ4 (l:=l) (c:=((c.1.1,c.1.2.1,(wp l o d,c.1.2.2.2)),c.2)) hl hn hd hq.1 hq.2 hb;obtain⟨r1,r2,r3⟩:=aNa (d:=d) (bM c) (a:=a) (b:=b) (q:=q) hq.1 hq.2 (by omega);generalize partitionEqual (bM c) d a b q=pt at hp r1 r2 r3 ⊢;obtain⟨mid,d4⟩:=pt;dsimp only at hp r1 r2 r3 ⊢;rw [dif_pos ⟨r1,r2⟩,hp];exact Hm d4 mid b lim w1 w2 (by rw [r3.1];exact hd) r2 hb hli (by omega) (by omega)
 ·rw [cV (show ¬(a:Int) > 0 by omega),cond_false,cV h0,Bool.false_and,if_neg Bool.false_ne_true];exact h20
theorem aRe {d:Array Int} {a b lim q:Nat} {w1 w2:Bool} {hi:Hint} (hd:d.size=n)(hq:a<=q/\q < b)(hb:b<=n)(hli:lim<=1048576)(hm:b - a<=m)(hnr:b - a<=nr) :
 PqT l o n rr l0 a1 a2 a3 c m (bR rr l0 o n a1 a2 a3 c (wp l o d,(a:Int),(b:Int),(lim:Int),w1,w2,((b - a:Nat):Int),(q:Int),aM6 hi))
  (let pi:=if w1&&w2&&hi=.increasing then partialInsertionSort (bM c) d a b else(d,false)
  if pi.2 then pi.1 else
  if a > 0&&!bM c pi.1[a - 1]! pi.1[q]! then
   match partitionEqual (bM c) pi.1 a b q with
   | (mid,d4)=>if _h:a < mid/\mid<=b then pdq (bM c) d4 mid b lim w1 w2 else d4
  else match partition (bM c) pi.1 a b q with
   | (mid,alreadyPartitioned,d4) =>
    if _h:a<=mid/\mid < b then
     if mid - a < b - mid then pdq (bM c) (pdq (bM c) d4 a mid lim true true) (mid+1) b lim (decide (mid - a≥(b - a) / 8)) alreadyPartitioned
     else pdq (bM c) (pdq (bM c) d4 (mid+1) b lim true true) a mid lim (decide (b - mid≥(b - a) / 8)) alreadyPartitioned
    else d4):=by
 have h17:=aV1 (a1:=a1) (a2:=a2) (a3:=a3) (l0:=l0) (c:=c) (w1:=w1) (w2:=w2) hl hn Hr Hm hd hq hb hli hm hnr;have hno:(w1&&w2&&decide (hi=.increasing))=false->PqT l o n rr l0 a1 a2 a3 c m (bI rr l0 o n a1 a2 a3 c (wp l o d,(a:Int),(b:Int),(lim:Int),w1,w2,((b - a:Nat):Int),(q:Int)))
  (let pi:=if w1&&w2&&hi=.increasing then partialInsertionSort (bM c) d a b else(d,false)
  if pi.2 then pi.1 else
  if a > 0&&!bM c pi.1[a - 1]! pi.1[q]! then
   match partitionEqual (bM c) pi.1 a b q with
   | (mid,d4)=>if _h:a < mid/\mid<=b then pdq (bM c) d4 mid b lim w1 w2 else d4
  else match partition (bM c) pi.1 a b q with
   | (mid,alreadyPartitioned,d4) =>
    if _h:a<=mid/\mid < b then
     if mid - a < b - mid then pdq (bM c) (pdq (bM c) d4 a mid lim true true) (mid+1) b lim (decide (mid - a≥(b - a) / 8)) alreadyPartitioned
     else pdq (bM c) (pdq (bM c) d4 (mid+1) b lim true true) a mid lim (decide (b - mid≥(b - a) / 8)) alreadyPartitioned
    else d4):=fun h=>by rw [h];exact h17
 simp only [bR];cases w1
 case false=>exact hno rfl
 cases w2
 case false=>exact hno rfl
 rw [cond_true,cond_true];cases hi with
 | unknown=>exact hno rfl
 | decreasing=>exact hno rfl
 | increasing =>
  have hp:cE (wp l o d) o n (a:Int) (b:Int) ((c.1.1,c.1.2.1,(wp l o d,c.1.2.2.2)),c.2)=((partialInsertionSort (bM c) d a b).2,wp l o (partialInsertionSort (bM c) d a b).1)/\(partialInsertionSort (bM c) d a b).1.size=n:=aQ6 (l:=l) (c:=((c.1.1,c.1.2.1,(wp l o d,c.1.2.2.2)),c.2)) hl hn hd (by omega) hb;rw [hp.1];show PqT l o n rr l0 a1 a2 a3 c m (bif (partialInsertionSort (bM c) d a b).2 then .inr (wp l o (partialInsertionSort (bM c) d a b).1) else _) (let pi:=partialInsertionSort (bM c) d a b;_);generalize partialInsertionSort (bM c) d a b=pt at hp ⊢;obtain⟨d3,fin⟩:=pt;dsimp only at hp ⊢;cases fin
  case true=>exact⟨rfl,hp.2⟩
  exact aV1 (a1:=a1) (a2:=a2) (a3:=a3) (l0:=l0) (c:=c) (w1:=true) (w2:=true) hl hn Hr Hm hp.2 hq hb hli hm hnr
theorem bCw {d:Array Int} {a b lim:Nat} {w1 w2:Bool} (hd:d.size=n)(hab:a<=b)(hb:b<=n)(hli:lim<=1048576)(hm:b - a<=m)(hnr:b - a<=nr) :
 PqT l o n rr l0 a1 a2 a3 c m (bD rr l0 o n a1 a2 a3 c (wp l o d,(a:Int),(b:Int),(lim:Int),w1,w2)) (pdq (bM c) d a b lim w1 w2):=by
 have hw:W ((b:Int) - (a:Int))=((b - a:Nat):Int):=wN (by omega) (by omega);rw [pdq];simp only [bD,hw];by_cases h12:b - a<=12
 ·rw [cL (show((b - a:Nat):Int)<=12 by omega),cond_true,if_pos h12];have:=aQy (l:=l) (c:=((c.1.1,c.1.2.1,(wp l o d,c.1.2.2.2)),c.2)) hl hn hb (by omega) hd (a:=a);exact⟨this,by rw [(insertionSort_holds (nQ c) d a b hab (by omega)).1.1];exact hd⟩
 ·rw [cV (show ¬((b - a:Nat):Int)<=12 by omega),cond_false,if_neg h12];by_cases hl0:lim=0
  ·rw [if_pos hl0,show(((lim:Nat):Int) == 0)=true by simp [hl0],cond_true];have:=aQ2 (l:=l) (c:=((c.1.1,c.1.2.1,(wp l o d,c.1.2.2.2)),c.2)) hl hn hab hb hd;exact⟨this,by rw [(heapSort_holds (nQ c) d a b hab (by omega)).1.1];exact hd⟩
  ·rw [if_neg hl0,show(((lim:Nat):Int) == 0)=false by simp [hl0],cond_false];have j10:∀(d1:Array Int) (lim:Nat),d1.size=n->lim<=1048576->PqT l o n rr l0 a1 a2 a3 c m (dD rr l0 o n a1 a2 a3 c (wp l o d1,(a:Int),(b:Int),(lim:Int),w1,w2,((b - a:Nat):Int)))
    (let cc:=choosePivot (bM c) d1 a b
    let d2:=if cc.2=.decreasing then reverseRange d1 a b else d1
    let pivot:=if cc.2=.decreasing then(b - 1) - (cc.1 - a) else cc.1
    let hint:=if cc.2=.decreasing then Hint.increasing else cc.2
    let pi:=if w1&&w2&&hint=.increasing then partialInsertionSort (bM c) d2 a b else(d2,false)
    if pi.2 then pi.1 else
    if a > 0&&!bM c pi.1[a - 1]! pi.1[pivot]! then
     match partitionEqual (bM c) pi.1 a b pivot with
     | (mid,d4)=>if _h:a < mid/\mid<=b then pdq (bM c) d4 mid b lim w1 w2 else d4
    else match partition (bM c) pi.1 a b pivot with
     | (mid,alreadyPartitioned,d4) =>
      if _h:a<=mid/\mid < b then
       if mid - a < b - mid then pdq (bM c) (pdq (bM c) d4 a mid lim true true) (mid+1) b lim (decide (mid - a≥(b - a) / 8)) alreadyPartitioned
       else pdq (bM c) (pdq (bM c) d4 (mid+1) b lim true true) a mid lim (decide (b - mid≥(b - a) / 8)) alreadyPartitioned
      else d4):=fun d1 lim hd1 hli=>by
    have hc:aY (wp l o d1) o n (a:Int) (b:Int) ((c.1.1,c.1.2.1,(wp l o d1,c.1.2.2.2)),c.2)=(((choosePivot (bM c) d1 a b).1:Int),aM6 (choosePivot (bM c) d1 a b).2):=aRa (l:=l) (c:=((c.1.1,c.1.2.1,(wp l o d1,c.1.2.2.2)),c.2)) hl hn hd1 (by omega) hb;have hr:=choosePivot_holds (bM c) d1 a b (by omega);simp only [dD,hc];generalize choosePivot (bM c) d1 a b=pt at hr ⊢;obtain⟨q,hi⟩:=pt;dsimp only at hr ⊢;cases hi with
    | unknown=>exact aRe (hi:=.unknown) (a1:=a1) (a2:=a2) (a3:=a3) (l0:=l0) (c:=c) hl hn Hr Hm hd1 hr hb hli hm hnr
    | increasing=>exact aRe (hi:=.increasing) (a1:=a1) (a2:=a2) (a3:=a3) (l0:=l0) (c:=c) hl hn Hr Hm hd1 hr hb hli hm hnr
    | decreasing =>
     have hv:=aQz (l:=l) (c:=((c.1.1,c.1.2.1,(wp l o d1,c.1.2.2.2)),c.2)) hl hn (a:=a) (b:=b) (by omega) hb hd1;have e1:W ((W ((b:Int) - 1)) - (W ((q:Int) - (a:Int))))=(((b - 1) - (q - a):Nat):Int):=by
      rw [wN (x:=(b:Int) - 1) (n:=b - 1) (by omega) (by omega),wN (x:=(q:Int) - (a:Int)) (n:=q - a) (by omega) (by omega)];exact wN (by omega) (by omega)
     show PqT l o n rr l0 a1 a2 a3 c m (bR rr l0 o n a1 a2 a3 c ((eO (wp l o d1) o n (a:Int) (b:Int) ((c.1.1,c.1.2.1,(wp l o d1,c.1.2.2.2)),c.2)),(a:Int),(b:Int),(lim:Int),w1,w2,((b - a:Nat):Int),(W ((W ((b:Int) - 1)) - (W ((q:Int) - (a:Int))))),1)) _;rw [hv,e1];exact aRe (hi:=.increasing) (a1:=a1) (a2:=a2) (a3:=a3) (l0:=l0) (c:=c) hl hn Hr Hm (by rw [(reverseRange_holds d1 a b hab (by omega)).1];exact hd1) (by omega) hb hli hm hnr
   cases w1
   case true=>exact j10 d lim hd hli
   have hv:=aRc (l:=l) (c:=((c.1.1,c.1.2.1,(wp l o d,c.1.2.2.2)),c.2)) hl hn hd hab hb;rw [wN (x:=(lim:Int) - 1) (n:=lim - 1) (by omega) (by omega),hv];exact j10 (breakPatterns d a b) (lim - 1) (by rw [(breakPatterns_holds d a b hab (by omega)).1];exact hd) (by omega)
omit Hr Hm in
theorem aRf:∀(nr:Nat) (c:sH) (d:Array Int) (a b lim:Nat),d.size=n->a<=b->b<=n->lim<=1048576->b - a < nr ->
 aK nr (wp l o d) o n (a:Int) (b:Int) (lim:Int) c=wp l o (pdq (bM c) d a b lim true true)/\(pdq (bM c) d a b lim true true).size=n
 | 0,_,_,_,_,_,_,_,_,_,h=>absurd h (fW _)
 | nr+1,c,d,a,b,lim,hd,hab,hb,hli,hnr=>by
  have Hr:=fun(c:sH) (d:Array Int) (a b lim:Nat) h1 h2 h3 h4 h5=>aRf nr c d a b lim h1 h2 h3 h4 h5
  unfold aK;have lp:∀(m:Nat) (d':Array Int) (a' b' lim':Nat) (w1 w2:Bool),d'.size=n->a'<=b'->b'<=n->lim'<=1048576->b' - a' < m->b' - a'<=nr ->
   aE (bD (aK nr) (wp l o d) o n (a:Int) (b:Int) (lim:Int) c) m (wp l o d',(a':Int),(b':Int),(lim':Int),w1,w2)=wp l o (pdq (bM c) d' a' b' lim' w1 w2)/\(pdq (bM c) d' a' b' lim' w1 w2).size=n:=by
   intro m
   induction m with|zero=>intro _ _ _ _ _ _ _ _ _ _ h;exact absurd h (fW _)|succ m ih=>?_
   intro d' a' b' lim' w1 w2 h1 h2 h3 h4 h5 h6;rw [aJ];exact bCw (rr:=aK nr) (nr:=nr) hl hn Hr ih h1 h2 h3 h4 (by omega) h6
  exact lp _ d a b lim true true hd hab hb hli (by omega) (by omega)
end
end Go.Proofs.YtlffahoikfahlaaGreat
namespace Go.Proofs.YtlffahoikfahlaaGreat
open Go.Proofs Go.Aw Go.RowKit
set_option maxRecDepth 100000
def gU (a0:ZL)(a0_o a0_n:Nat)(a1:eW×Int):ZL := (pR a0 a0_o a0_n 0 ((a0_n:Nat):Int) (aI8 (iW .u64 ((a0_n:Nat):Int))) ((a1.1.1,a1.1.2.1,(a0,a1.1.2.2.2)),a1.2))
theorem aJc (a0:ZL)(a0_o a0_n:Nat)(a1:eW×Int)(l0:a0.length<=2^63-1)(l1_1_1:a1.1.1.length<=2^63-1)(l1_1_2_2_1:a1.1.2.2.1.length<=2^63-1)(l1_1_2_2_2:a1.1.2.2.2.length<=2^63-1)(hw:a0_o+a0_n<=a0.length/\a0.length<=1048576)(hr:InR a1.1.1.length a0):Con Tryz.prog 124 [(.s 0 (0+a0_o*1) a0_n 1),(.f 1000126 [(.a [(.p 1 0),(iv a1.2)])])] [(.live true true (flat c3 a0)),(.live false false [(.s 2 0 a1.1.1.length 10),(iv a1.1.2.1),(.s 0 0 a0.length 1),(.s 3 0 a1.1.2.2.2.length 8)]),(.live false true (flat fJ a1.1.1)),(.live false true (flat fP a1.1.2.2.2))] (.t []) [] [(.live true true (flat c3 (gU a0 a0_o a0_n a1))),.un,.un,.un]:=by
 refine cS Tryz.func124 fun cx hcx=>?_
 have e:=Eq.refl (gU a0 a0_o a0_n a1);(conv at e=>rhs;simp only [gU]);rw [e]
 try dsimp only [bZ]
 try dsimp only
 try rw [show List.length (α:=Int) (pR a0 a0_o a0_n 0 ((a0_n:Nat):Int) (aI8 (iW .u64 ((a0_n:Nat):Int))) ((a1.1.1,a1.1.2.1,(a0,a1.1.2.2.2)),a1.2))=a0.length from by first | simp;done | omega]
 exact rtn [.c [] (aZ7 (iW .u64 ((a0_n:Nat):Int))  (by rw [IntKind.wrap_u64];omega)),.c [0,1,2,3] (aJb a0 a0_o a0_n 0 ((a0_n:Nat):Int) (aI8 (iW .u64 ((a0_n:Nat):Int))) ((a1.1.1,a1.1.2.1,(a0,a1.1.2.2.2)),a1.2) (by omega) (by omega) (by omega) (by omega) hw hr (by omega))] [] [0] [] hcx (by kernel_rfl)
def iI (a0:Zt×Zt×Zt):Zt×Zt×Zt := a0
theorem bCx (a0:Zt×Zt×Zt):Con Tryz.prog 158 [(.a (k9 a0))] [] (.a (k9 (iI a0))) []:=by
 refine cS Tryz.func158 fun cx hcx=>?_
 have e:=Eq.refl (iI a0);(conv at e=>rhs;simp only [iI]);rw [e];exact rT [] hcx
def aOv (a0:Int):Int := (fD a0 (2 ^ (min (tN 1) 64)))
theorem aXt (a0:Int):Con Tryz.prog 159 [(iv a0)] [] (iv (aOv a0)) []:=by
 refine cS Tryz.func159 fun cx hcx=>?_
 have e:=Eq.refl (aOv a0);(conv at e=>rhs;simp only [aOv]);rw [e];exact rT [.p (show 0<=(1:Int) from by decide)] hcx
noncomputable def rB:=bC [1,1,0,1] [] (aX Tryz.f25) []
def wH (a0:cC)(a1:ZL)(v2c:List SV)(v2n:Nat)(v3:Int):LS:=⟨jT 23 [(0,(.s 0 0 a0.length 10)),(5,(.s 2 0 v2n 10)),(8,(.s 1 0 a1.length 1)),(9,(iv (a1.length:Int))),(10,(iv v3))],[(.live false true (flat fJ a0)),(.live false true (flat c3 a1)),(.live true true v2c)]⟩
def gN (a0:cC)(a1:ZL):cC×Int->(cC×Int)⊕cC | (v2,v3) => (bif (decide ((v3:Int) < (a1.length:Int)))then(.inl ((v2++[(a0.getD (tN (a1.getD (tN v3) dF)) dF)]),(v3+1)))else(.inr v2))
def kS0 (x:((Int×Int×Int)×(Int×Int×Int)×Int×Int×Int)×Int):List SV:=[(iv x.1.1.1),(iv x.1.1.2.1),(iv x.1.1.2.2),(iv x.1.2.1.1),(iv x.1.2.1.2.1),(iv x.1.2.1.2.2),(iv x.1.2.2.1),(iv x.1.2.2.2.1),(iv x.1.2.2.2.2),(iv x.2)]
theorem aOw (a0:cC)(a1:ZL)(l0:a0.length<=2^63-1)(l1:a1.length<=2^63-1)(hir:InR a0.length a1)(hl:a1.length<=1048576) {cx:Cx} (hcx:cx.base=2):∀(n:Nat) (v2:cC) (v3:Int),(0<=v3)/\(v2.length=tN v3)/\(v3<=a1.length)->tN ((a1.length:Int) - v3) < n->gG Tryz.f25 cx (.s 2 0 (aE (gN a0 a1) n (v2,v3)).length 10) [(.live true true (flat fJ (aE (gN a0 a1) n (v2,v3))))] [] (.l rB.1 n::rB.2) (wH a0 a1 (flat fJ v2) v2.length v3):=by
 intro n
 induction n with|zero=>intro v2 v3 hi hn;exact absurd hn (fW _)|succ n ih=>?_
 intro v2 v3 hi hn;refine aS ?_;cases h0:(decide ((v3:Int) < (a1.length:Int)))
 case true=>
  have q0:=dE h0
  try have hr1:=hir.at (i:=tN v3) (by have _:=h0;omega)
  have e:=Eq.refl (gN a0 a1 (v2,v3));(conv at e=>rhs;simp only [gN,h0,aQ]);rw [aD e];refine bA n [.d h0,.i v3 (a1.length),.L aB a1 v3 0 1,.i (a1.getD (tN v3) dF) (a0.length),.L kE a0 (a1.getD (tN v3) dF) 0 10,.p (show((flat fJ v2).length=v2.length*10/\v2.length+1<=2 ^ 40/\(v2.length+1)*80<=2 ^ 47) from rS kE (by omega) (by omega))] [0,5,8,9,10] [4] hcx rB (wH a0 a1 (flat fJ v2++(kS0 (a0.getD (tN (a1.getD (tN v3) dF)) dF))) (v2.length+1) (W (v3+1))) ?_;have z0:(W (v3+1))=(v3+1):=aG (by omega) (by omega);have z1:(flat fJ v2++(kS0 (a0.getD (tN (a1.getD (tN v3) dF)) dF)))=_:=(eJ (c:=fJ) (l:=v2) (m:=[(a0.getD (tN (a1.getD (tN v3) dF)) dF)])).symm;have z2:(v2.length+1)=_:=uE v2 [(a0.getD (tN (a1.getD (tN v3) dF)) dF)] rfl;rw [z0,z1,z2];exact ih _ _ (by refine⟨?_,?_,?_⟩<;>(try simp only [Ls])<;>first | omega | assumption | simp) (by omega)
 have q0:=dO h0;have e:=Eq.refl (gN a0 a1 (v2,v3));(conv at e=>rhs;simp only [gN,h0,aQ]);rw [aJ,e];exact rt [.d h0] [] [2] hcx (by kernel_rfl)
def dA (a0:cC)(a1:ZL):cC := (aE (gN a0 a1) (tN ((a1.length:Int) - 0)+1) (([]:cC),0))
theorem aNb (a0:cC)(a1:ZL)(l0:a0.length<=2^63-1)(l1:a1.length<=2^63-1)(hir:InR a0.length a1)(hl:a1.length<=1048576):Con Tryz.prog 25 [(.s 0 0 a0.length 10),(.s 1 0 a1.length 1)] [(.live false true (flat fJ a0)),(.live false true (flat c3 a1))] (.s 2 0 (dA a0 a1).length 10) [(.live true true (flat fJ (dA a0 a1)))]:=by
 refine cS Tryz.func25 fun cx hcx=>?_
 have e:=Eq.refl (dA a0 a1);(conv at e=>rhs;simp only [dA]);rw [e];refine en [] [.slot 5 10] [0,5,8,9,10] [2] hcx rB.1 rB.2 (wH a0 a1 (flat fJ ([]:cC)) 0 0) (tN ((a1.length:Int) - 0)+1) (by kernel_rfl) ?_;exact aOw a0 a1 l0 l1 hir hl hcx (tN ((a1.length:Int) - 0)+1) ([]:cC) 0 (by refine⟨?_,?_,?_⟩<;>(try simp only [Ls])<;>first | omega | assumption | simp) (by omega)
noncomputable def xO:=bC [1,1,0,1] [] (aX Tryz.f122) []
def zA (a0:cC)(v1 v2 v3 v4 v5 v6 v7:Int):LS:=⟨jT 84 [(2,(.p 1 0)),(3,(.p 2 0)),(4,(.p 3 0)),(19,(.s 0 0 a0.length 10)),(20,(iv (a0.length:Int))),(21,(iv v1))],[(.live false true (flat fJ a0)),(.live true false [(iv 0),(iv 0),(iv 0)]),(.live true false [(iv v2),(iv v3),(iv v4)]),(.live true false [(iv v5),(iv v6),(iv v7)])]⟩
def iF (a0:cC):Int×Int×Int×Int×Zt->(Int×Int×Int×Int×Zt)⊕Zt | (v1,v2,v3,v4,v5,v6,v7) => (bif (decide ((v1:Int) < (a0.length:Int)))then(.inl ((v1+1),(iQ (iQ (iQ v2 (iI (a0.getD (tN v1) dF).1).1.1) (iI (a0.getD (tN v1) dF).1).2.1.1) (iI (a0.getD (tN v1) dF).1).2.2.1),(iQ (iQ (iQ v3 (iI (a0.getD (tN v1) dF).1).1.2.1) (iI (a0.getD (tN v1) dF).1).2.1.2.1) (iI (a0.getD (tN v1) dF).1).2.2.2.1),(iQ (iQ (iQ v4 (iI (a0.getD (tN v1) dF).1).1.2.2) (iI (a0.getD (tN v1) dF).1).2.1.2.2) (iI (a0.getD (tN v1) dF).1).2.2.2.2),(bX (bX (bX v5 (iI (a0.getD (tN v1) dF).1).1.1) (iI (a0.getD (tN v1) dF).1).2.1.1) (iI (a0.getD (tN v1) dF).1).2.2.1),(bX (bX (bX v6 (iI (a0.getD (tN v1) dF).1).1.2.1) (iI (a0.getD (tN v1) dF).1).2.1.2.1) (iI (a0.getD (tN v1) dF).1).2.2.2.1),(bX (bX (bX v7 (iI (a0.getD (tN v1) dF).1).1.2.2) (iI (a0.getD (tN v1) dF).1).2.1.2.2) (iI (a0.getD (tN v1) dF).1).2.2.2.2)))else(.inr ((aOv (W (v2+v5))),(aOv (W (v3+v6))),(aOv (W (v4+v7))))))
theorem aRg (a0:cC)(l0:a0.length<=2^63-1)(hl:1<=a0.length/\a0.length<=1048576) {cx:Cx} (hcx:cx.base=1):∀(n:Nat) (v1 v2 v3 v4 v5 v6 v7:Int),(0<=v1)/\(v1<=a0.length)->tN ((a0.length:Int) - v1) < n->gG Tryz.f122 cx (.a (k3 (aE (iF a0) n (v1,v2,v3,v4,v5,v6,v7)))) [] [] (.l xO.1 n::xO.2) (zA a0 v1 v2 v3 v4 v5 v6 v7):=by
 intro n
 induction n with|zero=>intro v1 v2 v3 v4 v5 v6 v7 hi hn;exact absurd hn (fW _)|succ n ih=>?_
 intro v1 v2 v3 v4 v5 v6 v7 hi hn;refine aS ?_;cases h0:(decide ((v1:Int) < (a0.length:Int)))
 case true=>have q0:=dE h0;have e:=Eq.refl (iF a0 (v1,v2,v3,v4,v5,v6,v7));(conv at e=>rhs;simp only [iF,h0,aQ]);rw [aD e];refine bA n [.d h0,.i v1 (a0.length),.L kE a0 v1 0 10,.c [] (bCx (a0.getD (tN v1) dF).1),.u 200,.T,.i 0 3,.u 0,.T,.i 1 3,.u 0,.T,.i 2 3,.u 0,.F] [2,3,4,19,20,21] [1,2,3] hcx xO (zA a0 (W (v1+1)) (iQ (iQ (iQ v2 (iI (a0.getD (tN v1) dF).1).1.1) (iI (a0.getD (tN v1) dF).1).2.1.1) (iI (a0.getD (tN v1) dF).1).2.2.1) (iQ (iQ (iQ v3 (iI (a0.getD (tN v1) dF).1).1.2.1) (iI (a0.getD (tN v1) dF).1).2.1.2.1) (iI (a0.getD (tN v1) dF).1).2.2.2.1) (iQ (iQ (iQ v4 (iI (a0.getD (tN v1) dF).1).1.2.2) (iI (a0.getD (tN v1) dF).1).2.1.2.2) (iI (a0.getD (tN v1) dF).1).2.2.2.2) (bX (bX (bX v5 (iI (a0.getD (tN v1) dF).1).1.1) (iI (a0.getD (tN v1) dF).1).2.1.1) (iI (a0.getD (tN v1) dF).1).2.2.1) (bX (bX (bX v6 (iI (a0.getD (tN v1) dF).1).1.2.1) (iI (a0.getD (tN v1) dF).1).2.1.2.1) (iI (a0.getD (tN v1) dF).1).2.2.2.1) (bX (bX (bX v7 (iI (a0.getD (tN v1) dF).1).1.2.2) (iI (a0.getD (tN v1) dF).1).2.1.2.2) (iI (a0.getD (tN v1) dF).1).2.2.2.2)) ?_;have z0:(W (v1+1))=(v1+1):=aG (by omega) (by omega);rw [z0];exact ih _ _ _ _ _ _ _ (by refine⟨?_,?_⟩<;>(try simp only [Ls])<;>first | omega | assumption | simp) (by omega)
 have q0:=dO h0;have e:=Eq.refl (iF a0 (v1,v2,v3,v4,v5,v6,v7));(conv at e=>rhs;simp only [iF,h0,aQ]);rw [aJ,e];exact rT [.d h0,.c [] (aXt (W (v2+v5))),.c [] (aXt (W (v3+v6))),.c [] (aXt (W (v4+v7)))] hcx
def cI (a0:cC):Zt := (aE (iF a0) (tN ((a0.length:Int) - 0)+1) (0,(a0.getD (tN 0) dF).1.1.1,(a0.getD (tN 0) dF).1.1.2.1,(a0.getD (tN 0) dF).1.1.2.2,(a0.getD (tN 0) dF).1.1.1,(a0.getD (tN 0) dF).1.1.2.1,(a0.getD (tN 0) dF).1.1.2.2))
theorem aXu (a0:cC)(l0:a0.length<=2^63-1)(hl:1<=a0.length/\a0.length<=1048576):Con Tryz.prog 122 [(.s 0 0 a0.length 10)] [(.live false true (flat fJ a0))] (.a (k3 (cI a0))) []:=by
 refine cS Tryz.func122 fun cx hcx=>?_
 have e:=Eq.refl (cI a0);(conv at e=>rhs;simp only [cI]);rw [e];refine eN [.i 0 (a0.length),.L kE a0 0 0 3,.i 0 (a0.length),.L kE a0 0 0 3] [2,3,4,19,20,21] [1,2,3] hcx xO (zA a0 0 ((a0.getD (tN 0) dF).1.1.1) ((a0.getD (tN 0) dF).1.1.2.1) ((a0.getD (tN 0) dF).1.1.2.2) ((a0.getD (tN 0) dF).1.1.1) ((a0.getD (tN 0) dF).1.1.2.1) ((a0.getD (tN 0) dF).1.1.2.2)) (tN ((a0.length:Int) - 0)+1) ?_;exact aRg a0 l0 hl hcx (tN ((a0.length:Int) - 0)+1) 0 ((a0.getD (tN 0) dF).1.1.1) ((a0.getD (tN 0) dF).1.1.2.1) ((a0.getD (tN 0) dF).1.1.2.2) ((a0.getD (tN 0) dF).1.1.1) ((a0.getD (tN 0) dF).1.1.2.1) ((a0.getD (tN 0) dF).1.1.2.2) (by refine⟨?_,?_⟩<;>(try simp only [Ls])<;>first | omega | assumption | simp) (by omega)
def rC (a0 a1 a2:Int):Bool := (bif (decide ((a1:Int)<=a0))then(decide ((a0:Int)<=a2))else false)
theorem C98 (a0 a1 a2:Int):Con Tryz.prog 98 [(iv a0),(iv a1),(iv a2)] [] (.v (.bool (rC a0 a1 a2))) []:=by
 refine cS Tryz.func98 fun cx hcx=>?_
 cases h0:(decide ((a1:Int)<=a0))
 case true=>have q0:=dE h0;have e:=Eq.refl (rC a0 a1 a2);(conv at e=>rhs;simp only [rC,h0,aQ]);rw [e];exact rT [.d h0] hcx
 have q0:=dO h0;have e:=Eq.refl (rC a0 a1 a2);(conv at e=>rhs;simp only [rC,h0,aQ]);rw [e];exact rT [.d h0] hcx
def F91 (a0:Zt)(a1:Int):Bool := (bif (rC a0.1 (W (0 - a1)) a1)then(bif (rC a0.2.1 (W (0 - a1)) a1)then(rC a0.2.2 (W (0 - a1)) a1)else false)else false)
theorem C91 (a0:Zt)(a1:Int):Con Tryz.prog 91 [(.a (k3 a0)),(iv a1)] [] (.v (.bool (F91 a0 a1))) []:=by
 refine cS Tryz.func91 fun cx hcx=>?_
 let t0:SL:=[.c [] (C98 a0.1 (W (0 - a1)) a1)];cases h0:(rC a0.1 (W (0 - a1)) a1)
 case true=>
  let t1:SL:=t0++[.d h0,.c [] (C98 a0.2.1 (W (0 - a1)) a1)];cases h1:(rC a0.2.1 (W (0 - a1)) a1)
  case true=>have e:=Eq.refl (F91 a0 a1);(conv at e=>rhs;simp only [F91,h0,h1,aQ]);rw [e];exact rT (t1++[.d h1,.c [] (C98 a0.2.2 (W (0 - a1)) a1)]) hcx
  have e:=Eq.refl (F91 a0 a1);(conv at e=>rhs;simp only [F91,h0,h1,aQ]);rw [e];exact rT (t1++[.d h1]) hcx
 have e:=Eq.refl (F91 a0 a1);(conv at e=>rhs;simp only [F91,h0,aQ]);rw [e];exact rT (t0++[.d h0]) hcx
def bB (a0 a1:Zt):Zt := ((W (a0.1 - a1.1)),(W (a0.2.1 - a1.2.1)),(W (a0.2.2 - a1.2.2)))
theorem C92 (a0 a1:Zt):Con Tryz.prog 92 [(.a (k3 a0)),(.a (k3 a1))] [] (.a (k3 (bB a0 a1))) []:=by
 refine cS Tryz.func92 fun cx hcx=>?_
 have e:=Eq.refl (bB a0 a1);(conv at e=>rhs;simp only [bB]);rw [e];exact rT [] hcx
def dB (a0 a1:Zt):Int := (W ((W ((W (a0.1*a1.1))+(W (a0.2.1*a1.2.1))))+(W (a0.2.2*a1.2.2))))
theorem aOx (a0 a1:Zt):Con Tryz.prog 100 [(.a (k3 a0)),(.a (k3 a1))] [] (iv (dB a0 a1)) []:=by
 refine cS Tryz.func100 fun cx hcx=>?_
 have e:=Eq.refl (dB a0 a1);(conv at e=>rhs;simp only [dB]);rw [e];exact rT [] hcx
def mV (a0:cC)(a1:Zt):Int := (bif (((gL a0):Int) != 0)then(gL a0)else(bif (!(F91 a1 64))then 1 else 0))
theorem aV2 (a0:cC)(a1:Zt)(l0:a0.length<=2^63-1):Con Tryz.prog 51 [(.s 0 0 a0.length 10),(.a (k3 a1))] [(.live false true (flat fJ a0))] (iv (mV a0 a1)) []:=by
 refine cS Tryz.func51 fun cx hcx=>?_
 let t0:SL:=[.c [0] (aMe a0 (by omega))];cases h0:(((gL a0):Int) != 0)
 case true=>have q0:=bne_iff_ne.1 h0;have e:=Eq.refl (mV a0 a1);(conv at e=>rhs;simp only [mV,h0,aQ]);rw [e];exact rT (t0++[.d h0]) hcx
 have q0:=bne_eq_false_iff_eq.1 h0;let t1:SL:=t0++[.d h0,.c [] (C91 a1 64)];cases h1:(!(F91 a1 64))
 case true=>have e:=Eq.refl (mV a0 a1);(conv at e=>rhs;simp only [mV,h0,h1,aQ]);rw [e];exact rT (t1++[.d h1]) hcx
 have e:=Eq.refl (mV a0 a1);(conv at e=>rhs;simp only [mV,h0,h1,aQ]);rw [e];exact rT (t1++[.d h1]) hcx
noncomputable def xP:=bC [1,1,1,0,1] [] (aX Tryz.f123) []
def zB (a0:cC)(a1:Zt)(v1 v2:Int):LS:=⟨jT 49 [(3,(.p 1 0)),(7,(iv v1)),(19,(.s 0 0 a0.length 10)),(20,(iv (a0.length:Int))),(21,(iv v2))],[(.live false true (flat fJ a0)),(.live true false (k3 a1))]⟩
def oX (a0:cC)(a1:Zt):Zs->Zs⊕Zs | (v1,v2) => (bif (decide ((v2:Int) < (a0.length:Int)))then(.inl ((bX (bX (bX v1 (dB (bB (a0.getD (tN v2) dF).1.1 a1) (bB (a0.getD (tN v2) dF).1.1 a1))) (dB (bB (a0.getD (tN v2) dF).1.2.1 a1) (bB (a0.getD (tN v2) dF).1.2.1 a1))) (dB (bB (a0.getD (tN v2) dF).1.2.2 a1) (bB (a0.getD (tN v2) dF).1.2.2 a1))),(v2+1)))else(.inr (v1,0)))
theorem aRh (a0:cC)(a1:Zt)(l0:a0.length<=2^63-1)(hl:a0.length<=1048576) {cx:Cx} (hcx:cx.base=1):∀(n:Nat) (v1 v2:Int),(0<=v2)/\(v2<=a0.length)->tN ((a0.length:Int) - v2) < n->gG Tryz.f123 cx (.t (k2 (aE (oX a0 a1) n (v1,v2)))) [] [] (.l xP.1 n::xP.2) (zB a0 a1 v1 v2):=by
 intro n
 induction n with|zero=>intro v1 v2 hi hn;exact absurd hn (fW _)|succ n ih=>?_
 intro v1 v2 hi hn;refine aS ?_;cases h0:(decide ((v2:Int) < (a0.length:Int)))
 case true=>have q0:=dE h0;have e:=Eq.refl (oX a0 a1 (v1,v2));(conv at e=>rhs;simp only [oX,h0,aQ]);rw [aD e];refine bA n [.d h0,.i v2 (a0.length),.L kE a0 v2 0 10,.u 200,.T,.i 0 3,.c [] (C92 (a0.getD (tN v2) dF).1.1 a1),.c [] (aOx (bB (a0.getD (tN v2) dF).1.1 a1) (bB (a0.getD (tN v2) dF).1.1 a1)),.u 0,.T,.i 1 3,.c [] (C92 (a0.getD (tN v2) dF).1.2.1 a1),.c [] (aOx (bB (a0.getD (tN v2) dF).1.2.1 a1) (bB (a0.getD (tN v2) dF).1.2.1 a1)),.u 0,.T,.i 2 3,.c [] (C92 (a0.getD (tN v2) dF).1.2.2 a1),.c [] (aOx (bB (a0.getD (tN v2) dF).1.2.2 a1) (bB (a0.getD (tN v2) dF).1.2.2 a1)),.u 0,.F] [3,7,19,20,21] [1] hcx xP (zB a0 a1 (bX (bX (bX v1 (dB (bB (a0.getD (tN v2) dF).1.1 a1) (bB (a0.getD (tN v2) dF).1.1 a1))) (dB (bB (a0.getD (tN v2) dF).1.2.1 a1) (bB (a0.getD (tN v2) dF).1.2.1 a1))) (dB (bB (a0.getD (tN v2) dF).1.2.2 a1) (bB (a0.getD (tN v2) dF).1.2.2 a1))) (W (v2+1))) ?_;have z0:(W (v2+1))=(v2+1):=aG (by omega) (by omega);rw [z0];exact ih _ _ (by refine⟨?_,?_⟩<;>(try simp only [Ls])<;>first | omega | assumption | simp) (by omega)
 have q0:=dO h0;have e:=Eq.refl (oX a0 a1 (v1,v2));(conv at e=>rhs;simp only [oX,h0,aQ]);rw [aJ,e];exact rT [.d h0] hcx
def tO (a0:cC)(a1:Zt):Zs := (bif (((mV a0 a1):Int) != 0)then(0,(mV a0 a1))else(aE (oX a0 a1) (tN ((a0.length:Int) - 0)+1) (0,0)))
theorem aXv (a0:cC)(a1:Zt)(l0:a0.length<=2^63-1)(hl:a0.length<=1048576):Con Tryz.prog 123 [(.s 0 0 a0.length 10),(.a (k3 a1))] [(.live false true (flat fJ a0))] (.t (k2 (tO a0 a1))) []:=by
 refine cS Tryz.func123 fun cx hcx=>?_
 let t0:SL:=[.c [0] (aV2 a0 a1 (by omega))];cases h0:(((mV a0 a1):Int) != 0)
 case true=>have q0:=bne_iff_ne.1 h0;have e:=Eq.refl (tO a0 a1);(conv at e=>rhs;simp only [tO,h0,aQ]);rw [e];exact rT (t0++[.d h0]) hcx
 have q0:=bne_eq_false_iff_eq.1 h0;have e:=Eq.refl (tO a0 a1);(conv at e=>rhs;simp only [tO,h0,aQ]);rw [e];refine eN (t0++[.d h0]) [3,7,19,20,21] [1] hcx xP (zB a0 a1 0 0) (tN ((a0.length:Int) - 0)+1) ?_;exact aRh a0 a1 l0 hl hcx (tN ((a0.length:Int) - 0)+1) 0 0 (by refine⟨?_,?_⟩<;>(try simp only [Ls])<;>first | omega | assumption | simp) (by omega)
noncomputable def aC4:Code:=(bC [1,1,0,1,0,1,1,0,1,1,0,1] [0] (aX Tryz.f125) []).1
noncomputable def aC5 (m0:Nat):List K:=(bC [1,1,0,1,0,1,1,0,1,1,0,1] [m0] (aX Tryz.f125) []).2
def zC (a0:cC×Int×ZL×eB)(a1:ZL)(v15 v16 v17 v18 v19 v20 v21:Int):LS:=⟨jT 59 [(0,(.p 0 0)),(1,(.s 4 0 a1.length 1)),(4,(.p 5 0)),(5,(iv v15)),(6,(iv v16)),(7,(iv v17)),(8,(iv v18)),(9,(iv v19)),(12,(iv v20)),(27,(.s 4 0 a1.length 1)),(28,(iv (a1.length:Int))),(29,(iv v21))],[(.live false false [(.s 1 0 a0.1.length 10),(iv a0.2.1),(.s 2 0 a0.2.2.1.length 1),(.s 3 0 a0.2.2.2.length 8)]),(.live false true (flat fJ a0.1)),(.live false true (flat c3 a0.2.2.1)),(.live false true (flat fP a0.2.2.2)),(.live false true (flat c3 a1)),(.live true false [(.v (.pointer none)),(iv 0)])]⟩
def fU (a0:cC×Int×ZL×eB)(a1:ZL):Int×Int×Int×Int×Zt->(Int×Int×Int×Int×Zt)⊕(Zt⊕TyS) | (v15,v16,v17,v18,v19,v20,v21) => (bif (decide ((v21:Int) < (a1.length:Int)))then(.inl (v15,v16,v17,(if((kJ (a0.1,a0.2.1,(a0.2.2.1,a0.2.2.2)) (a1.getD (tN v21) dF) v17):Int) < v18 then(kJ (a0.1,a0.2.1,(a0.2.2.1,a0.2.2.2)) (a1.getD (tN v21) dF) v17)else v18),(if(v19:Int) < (kJ (a0.1,a0.2.1,(a0.2.2.1,a0.2.2.2)) (a1.getD (tN v21) dF) v17)then(kJ (a0.1,a0.2.1,(a0.2.2.1,a0.2.2.2)) (a1.getD (tN v21) dF) v17)else v19),v20,(v21+1)))else(bif (decide (((W (v19 - v18)):Int) > v16))then(.inr (.inl (v17,(W (v19 - v18)),(v20+1))))else(.inr (.inl (v15,v16,(v20+1))))))
noncomputable def oZ:=bC [1,1,0,1] [] (aX Tryz.f125) []
def rD (a0:cC×Int×ZL×eB)(a1:ZL)(v12 v13 v14:Int):LS:=⟨jT 59 [(0,(.p 0 0)),(1,(.s 4 0 a1.length 1)),(4,(.p 5 0)),(5,(iv v12)),(6,(iv v13)),(12,(iv v14))],[(.live false false [(.s 1 0 a0.1.length 10),(iv a0.2.1),(.s 2 0 a0.2.2.1.length 1),(.s 3 0 a0.2.2.2.length 8)]),(.live false true (flat fJ a0.1)),(.live false true (flat c3 a0.2.2.1)),(.live false true (flat fP a0.2.2.2)),(.live false true (flat c3 a1)),(.live true false [(.v (.pointer none)),(iv 0)])]⟩
def iG (a0:cC×Int×ZL×eB)(a1:ZL):Zt->Zt⊕TyS | (v12,v13,v14) => (bif (decide ((v14:Int) < 3))then(aE (fU a0 a1) (tN ((a1.length:Int) - 0)+1) (v12,v13,v14,(kJ (a0.1,a0.2.1,(a0.2.2.1,a0.2.2.2)) (a1.getD (tN 0) dF) v14),(kJ (a0.1,a0.2.1,(a0.2.2.1,a0.2.2.2)) (a1.getD (tN 0) dF) v14),v14,0))else(.inr ((a0.1,a0.2.1,(a0.2.2.1,a0.2.2.2)),v12)))
theorem aRi (a0:cC×Int×ZL×eB)(a1:ZL)(l0_1:a0.1.length<=2^63-1)(l0_2_2_1:a0.2.2.1.length<=2^63-1)(l0_2_2_2:a0.2.2.2.length<=2^63-1)(l1:a1.length<=2^63-1)(hir:InR a0.1.length a1)(hl:1<=a1.length/\a1.length<=1048576) {cx:Cx} (hcx:cx.base=5)
 (n0:Nat) (g0:∀(v12 v13 v14:Int),(0<=v14)/\(v14<=3)->tN (3 - v14) < n0->gG Tryz.f125 cx (.a [(.p 0 0),(iv (aE (iG a0 a1) n0 (v12,v13,v14)).2)]) [] [] (.l oZ.1 n0::oZ.2) (rD a0 a1 v12 v13 v14)):∀(n:Nat) (v15 v16 v17 v18 v19 v20 v21:Int),(0<=v21)/\(v21<=a1.length)/\((0<=v20))/\((v20<=3))/\(v20 < 3)/\(tN (3 - v20) < n0+1)->tN ((a1.length:Int) - v21) < n->gG Tryz.f125 cx (.a [(.p 0 0),(iv (bZ (iG a0 a1) n0 (aE (fU a0 a1) n (v15,v16,v17,v18,v19,v20,v21))).2)]) [] [] (.l aC4 n::aC5 n0) (zC a0 a1 v15 v16 v17 v18 v19 v20 v21):=by
 intro n
 induction n with|zero=>intro v15 v16 v17 v18 v19 v20 v21 hi hn;exact absurd hn (fW _)|succ n ih=>?_
 intro v15 v16 v17 v18 v19 v20 v21 hi hn;refine aS ?_;cases h0:(decide ((v21:Int) < (a1.length:Int)))
 case true=>
  have q0:=dE h0
  try have hr1:=hir.at (i:=tN v21) (by have _:=h0;omega)
  have e:=Eq.refl (fU a0 a1 (v15,v16,v17,v18,v19,v20,v21));(conv at e=>rhs;simp only [fU,h0,aQ]);rw [aD e];refine ba [.d h0,.i v21 (a1.length),.L aB a1 v21 0 1,.c [0,1,2,3] (aOt (a0.1,a0.2.1,(a0.2.2.1,a0.2.2.2)) (a1.getD (tN v21) dF) v17 (by omega) (by omega) (by omega) (by omega)),.c [0,1,2,3] (aOt (a0.1,a0.2.1,(a0.2.2.1,a0.2.2.2)) (a1.getD (tN v21) dF) v17 (by omega) (by omega) (by omega) (by omega))] [] [0,1,4,5,6,7,8,9,12,27,28,29] [5] hcx (m:=n) aC4 (aC5 n0) (zC a0 a1 v15 v16 v17 (if((kJ (a0.1,a0.2.1,(a0.2.2.1,a0.2.2.2)) (a1.getD (tN v21) dF) v17):Int) < v18 then(kJ (a0.1,a0.2.1,(a0.2.2.1,a0.2.2.2)) (a1.getD (tN v21) dF) v17) else v18) (if(v19:Int) < (kJ (a0.1,a0.2.1,(a0.2.2.1,a0.2.2.2)) (a1.getD (tN v21) dF) v17) then(kJ (a0.1,a0.2.1,(a0.2.2.1,a0.2.2.2)) (a1.getD (tN v21) dF) v17) else v19) v20 (W (v21+1))) (by kernel_rfl) ?_;have z0:(W (v21+1))=(v21+1):=aG (by omega) (by omega);rw [z0];exact ih _ _ _ _ _ _ _ (by refine⟨?_,?_,?_,?_,?_,?_⟩<;>(try simp only [Ls])<;>first | omega | assumption | exact hi.2.1 | exact hi.2.2.1 | exact hi.2.2.2.1 | exact hi.2.2.2.2.1 | exact hi.2.2.2.2.2.1 | simp) (by omega)
 have q0:=dO h0;let t1:SL:=[.d h0];cases h1:(decide (((W (v19 - v18)):Int) > v16))
 case true=>have q1:=dE h1;have e:=Eq.refl (fU a0 a1 (v15,v16,v17,v18,v19,v20,v21));(conv at e=>rhs;simp only [fU,h0,h1,aQ]);rw [aJ,e];refine bA n0 (t1++[.d h1]) [0,1,4,5,6,12] [5] hcx oZ (rD a0 a1 v17 (W (v19 - v18)) (W (v20+1))) ?_;have z0:(W (v20+1))=(v20+1):=aG (by omega) (by omega);rw [z0];exact g0 v17 (W (v19 - v18)) (v20+1) (by refine⟨?_,?_⟩<;>(try simp only [Ls])<;>first | omega | assumption | simp) (by omega)
 have q1:=dO h1;have e:=Eq.refl (fU a0 a1 (v15,v16,v17,v18,v19,v20,v21));(conv at e=>rhs;simp only [fU,h0,h1,aQ]);rw [aJ,e];refine bA n0 (t1++[.d h1]) [0,1,4,5,6,12] [5] hcx oZ (rD a0 a1 v15 v16 (W (v20+1))) ?_;have z0:(W (v20+1))=(v20+1):=aG (by omega) (by omega);rw [z0];exact g0 v15 v16 (v20+1) (by refine⟨?_,?_⟩<;>(try simp only [Ls])<;>first | omega | assumption | simp) (by omega)
theorem aRj (a0:cC×Int×ZL×eB)(a1:ZL)(l0_1:a0.1.length<=2^63-1)(l0_2_2_1:a0.2.2.1.length<=2^63-1)(l0_2_2_2:a0.2.2.2.length<=2^63-1)(l1:a1.length<=2^63-1)(hir:InR a0.1.length a1)(hl:1<=a1.length/\a1.length<=1048576) {cx:Cx} (hcx:cx.base=5):∀(n:Nat) (v12 v13 v14:Int),(0<=v14)/\(v14<=3)->tN (3 - v14) < n->gG Tryz.f125 cx (.a [(.p 0 0),(iv (aE (iG a0 a1) n (v12,v13,v14)).2)]) [] [] (.l oZ.1 n::oZ.2) (rD a0 a1 v12 v13 v14):=by
 intro n
 induction n with|zero=>intro v12 v13 v14 hi hn;exact absurd hn (fW _)|succ n ih=>?_
 intro v12 v13 v14 hi hn;refine aS ?_;have hr0:=hir.at (i:=0) (by omega);cases h0:(decide ((v14:Int) < 3))
 case true=>have q0:=dE h0;have e:=Eq.refl (iG a0 a1 (v12,v13,v14));(conv at e=>rhs;simp only [iG,h0,aQ]);rw [aJ,e];refine en [.d h0,.i 0 (a1.length),.L aB a1 0 0 1,.c [0,1,2,3] (aOt (a0.1,a0.2.1,(a0.2.2.1,a0.2.2.2)) (a1.getD (tN 0) dF) v14 (by omega) (by omega) (by omega) (by(try simp only [Lt]);omega)),.i 0 (a1.length),.L aB a1 0 0 1,.c [0,1,2,3] (aOt (a0.1,a0.2.1,(a0.2.2.1,a0.2.2.2)) (a1.getD (tN 0) dF) v14 (by omega) (by omega) (by omega) (by(try simp only [Lt]);omega))] [] [0,1,4,5,6,7,8,9,12,27,28,29] [5] hcx aC4 (aC5 n) (zC a0 a1 v12 v13 v14 (kJ (a0.1,a0.2.1,(a0.2.2.1,a0.2.2.2)) (a1.getD (tN 0) dF) v14) (kJ (a0.1,a0.2.1,(a0.2.2.1,a0.2.2.2)) (a1.getD (tN 0) dF) v14) v14 0) (tN ((a1.length:Int) - 0)+1) (by kernel_rfl) ?_;exact aRi a0 a1 l0_1 l0_2_2_1 l0_2_2_2 l1 hir hl hcx n ih (tN ((a1.length:Int) - 0)+1) v12 v13 v14 (kJ (a0.1,a0.2.1,(a0.2.2.1,a0.2.2.2)) (a1.getD (tN 0) dF) v14) (kJ (a0.1,a0.2.1,(a0.2.2.1,a0.2.2.2)) (a1.getD (tN 0) dF) v14) v14 0 (by refine⟨?_,?_,?_,?_,?_,?_⟩<;>(try simp only [Ls])<;>first | omega | assumption | exact hi.2.1 | exact hi.2.2.1 | exact hi.2.2.2.1 | exact hi.2.2.2.2.1 | exact hi.2.2.2.2.2.1 | simp) (by omega)
 have q0:=dO h0;have e:=Eq.refl (iG a0 a1 (v12,v13,v14));(conv at e=>rhs;simp only [iG,h0,aQ]);rw [aJ,e];exact rT [.d h0] hcx
def aC6 (a0:cC×Int×ZL×eB)(a1:ZL):eW×Int := (aE (iG a0 a1) (tN (3 - 0)+1) (0,(-1),0))
theorem aXw (a0:cC×Int×ZL×eB)(a1:ZL)(l0_1:a0.1.length<=2^63-1)(l0_2_2_1:a0.2.2.1.length<=2^63-1)(l0_2_2_2:a0.2.2.2.length<=2^63-1)(l1:a1.length<=2^63-1)(hir:InR a0.1.length a1)(hl:1<=a1.length/\a1.length<=1048576):Con Tryz.prog 125 [(.p 0 0),(.s 4 0 a1.length 1)] [(.live false false [(.s 1 0 a0.1.length 10),(iv a0.2.1),(.s 2 0 a0.2.2.1.length 1),(.s 3 0 a0.2.2.2.length 8)]),(.live false true (flat fJ a0.1)),(.live false true (flat c3 a0.2.2.1)),(.live false true (flat fP a0.2.2.2)),(.live false true (flat c3 a1))] (.a [(.p 0 0),(iv (aC6 a0 a1).2)]) []:=by
 refine cS Tryz.func125 fun cx hcx=>?_
 have e:=Eq.refl (aC6 a0 a1);(conv at e=>rhs;simp only [aC6])
 try rw [e]
 refine eN [] [0,1,4,5,6,12] [5] hcx oZ (rD a0 a1 0 (-1) 0) (tN (3 - 0)+1) ?_;exact aRj a0 a1 l0_1 l0_2_2_1 l0_2_2_2 l1 hir hl hcx (tN (3 - 0)+1) 0 (-1) 0 (by refine⟨?_,?_⟩<;>(try simp only [Ls])<;>first | omega | assumption | simp) (by omega)
abbrev BU:=(List (((Zt×Zt×Zt)×Int)))×Int×ZL×eB
structure PADD (b:BU) (i k:Int):Prop where
 inr:InR b.1.length b.2.2.1
 rng:0<=i/\i < k/\k<=b.2.2.1.length/\b.2.2.1.length<=1048576
 nds:b.2.2.2.length+2*(k - i)<=4194304
 lf:1<=b.2.1
theorem InR.part {n:Nat} {l:ZL} (h:InR n l)(a b:Int):InR n (Aw.part l a b):=fun x hx=>h x (List.mem_of_mem_drop (List.mem_of_mem_take hx))
theorem aJd {a0:cC} {a1:ZL}:∀(d i n:Nat) (m:cC),d=a1.length - i->i<=a1.length->d < n ->
 aE (gN a0 a1) n (m,(i:Int))=m++(a1.drop i).map (fun a=>a0.getD (tN a) dF)
 | 0,i,n,m,hd,hi,hn=>by
  obtain⟨n,rfl⟩:∃m,n=m+1:=⟨n - 1,by omega⟩;have:i=a1.length:=by omega
  subst this;have e:gN a0 a1 (m,(a1.length:Int))=.inr m:=by
   simp only [gN];rw [cV (Int.lt_irrefl _),cond_false]
  rw [aM e];simp
 | d+1,i,n,m,hd,hi,hn=>by
  obtain⟨n,rfl⟩:∃m,n=m+1:=⟨n - 1,by omega⟩;have e:gN a0 a1 (m,(i:Int))=.inl (m++[a0.getD (tN (a1.getD i dF)) dF],((i+1:Nat):Int)):=by
   simp only [gN];rw [cL (show((i:Nat):Int) < (a1.length:Nat) by omega),cond_true,iH];rfl
  rw [aD e,aJd d (i+1) n _ (by omega) (by omega) (by omega),List.drop_eq_getElem_cons (show i < a1.length by omega),List.map_cons];simp [fS,List.getElem?_eq_getElem (show i < a1.length by omega)]
theorem aGl (a0:cC)(a1:ZL):dA a0 a1=a1.map (fun a=>a0.getD (tN a) dF):=by
 have:=aJd (a0:=a0) (a1:=a1) a1.length 0 (tN ((a1.length:Int) - 0)+1) [] (by omega) (by omega) (by omega);exact this
theorem aA5 (a0:cC)(a1:ZL):(dA a0 a1).length=a1.length:=by rw [aGl];simp
theorem aXx {N:Nat} {l:ZL} {o m:Nat} {c:BU×Int} (hw:o+m<=l.length/\l.length<=1048576)(hi:InR N l):(gU l o m c).length=l.length/\InR N (gU l o m c) :=
 aA4 _ hw hi (by omega) (by omega)
theorem aC7 {i k:Int} (h:0<=i/\i < k/\k<=1048576):(W (i+(W (tD (W ((W (k - i))+1)) 2))))=i+(k - i+1) / 2:=by
 rw [aG (n:=k - i) (by omega) (by omega),aG (n:=k - i+1) (by omega) (by omega),Int.tdiv_eq_ediv_of_nonneg (by omega),aG (n:=(k - i+1) / 2) (by omega) (by omega),aG (by omega) (by omega)]
def eE (a0:cC×Int×ZL×eB)(a1 a2:Int):=(dA a0.1 (Aw.part (a0.2.2.1) a1 a2))
def iO (a0:cC×Int×ZL×eB)(a1 a2:Int):=(tO (eE a0 a1 a2) (cI (eE a0 a1 a2)))
def aJe (a0:cC×Int×ZL×eB)(a1 a2:Int):=(aC6 (a0.1,a0.2.1,(a0.2.2.1,(a0.2.2.2++[(a1,a2,(-1),(-1),(cI (eE a0 a1 a2)),(iO a0 a1 a2).1)]))) (Aw.part (a0.2.2.1) a1 a2))
def aAa (a0:cC×Int×ZL×eB)(a1 a2:Int):=(gU (a0.2.2.1) (tN a1) (tN a2 - tN a1) ((a0.1,a0.2.1,(a0.2.2.1,(a0.2.2.2++[(a1,a2,(-1),(-1),(cI (eE a0 a1 a2)),(iO a0 a1 a2).1)]))),(aJe a0 a1 a2).2))
def fR (rr:eW->(Int)->(Int)->Int×cC×Int×ZL×eB)(a0:cC×Int×ZL×eB)(a1 a2:Int):=(rr (a0.1,a0.2.1,((aAa a0 a1 a2),(a0.2.2.2++[(a1,a2,(-1),(-1),(cI (eE a0 a1 a2)),(iO a0 a1 a2).1)]))) a1 (W (a1+(W (tD (W ((W (a2 - a1))+1)) 2)))))
def aR (rr:eW->(Int)->(Int)->Int×cC×Int×ZL×eB)(a0:cC×Int×ZL×eB)(a1 a2:Int):=(rr (a0.1,(fR (rr) a0 a1 a2).2.2.1,((fR (rr) a0 a1 a2).2.2.2.1,(fR (rr) a0 a1 a2).2.2.2.2)) (W (a1+(W (tD (W ((W (a2 - a1))+1)) 2)))) a2)
def cA:Nat->eW->(Int)->(Int)->Int×cC×Int×ZL×eB | 0,_,_,_=>dF | nr+1,a0,a1,a2 => (bif (decide (((W (a2 - a1)):Int) > a0.2.1))then((a0.2.2.2.length:Int),(a0.1,(aR (cA nr) a0 a1 a2).2.2.1,((aR (cA nr) a0 a1 a2).2.2.2.1,(((aR (cA nr) a0 a1 a2).2.2.2.2.set (tN (a0.2.2.2.length:Int)) (((aR (cA nr) a0 a1 a2).2.2.2.2.getD (tN (a0.2.2.2.length:Int)) dF).1,((aR (cA nr) a0 a1 a2).2.2.2.2.getD (tN (a0.2.2.2.length:Int)) dF).2.1,(fR (cA nr) a0 a1 a2).1,((aR (cA nr) a0 a1 a2).2.2.2.2.getD (tN (a0.2.2.2.length:Int)) dF).2.2.2.1,((aR (cA nr) a0 a1 a2).2.2.2.2.getD (tN (a0.2.2.2.length:Int)) dF).2.2.2.2.1,((aR (cA nr) a0 a1 a2).2.2.2.2.getD (tN (a0.2.2.2.length:Int)) dF).2.2.2.2.2)).set (tN (a0.2.2.2.length:Int)) ((((aR (cA nr) a0 a1 a2).2.2.2.2.set (tN (a0.2.2.2.length:Int)) (((aR (cA nr) a0 a1 a2).2.2.2.2.getD (tN (a0.2.2.2.length:Int)) dF).1,((aR (cA nr) a0 a1 a2).2.2.2.2.getD (tN (a0.2.2.2.length:Int)) dF).2.1,(fR (cA nr) a0 a1 a2).1,((aR (cA nr) a0 a1 a2).2.2.2.2.getD (tN (a0.2.2.2.length:Int)) dF).2.2.2.1,((aR (cA nr) a0 a1 a2).2.2.2.2.getD (tN (a0.2.2.2.length:Int)) dF).2.2.2.2.1,((aR (cA nr) a0 a1 a2).2.2.2.2.getD (tN (a0.2.2.2.length:Int)) dF).2.2.2.2.2)).getD (tN (a0.2.2.2.length:Int)) dF).1,(((aR (cA nr) a0 a1 a2).2.2.2.2.set (tN (a0.2.2.2.length:Int)) (((aR (cA nr) a0 a1 a2).2.2.2.2.getD (tN (a0.2.2.2.length:Int)) dF).1,((aR (cA nr) a0 a1 a2).2.2.2.2.getD (tN (a0.2.2.2.length:Int)) dF).2.1,(fR (cA nr) a0 a1 a2).1,((aR (cA nr) a0 a1 a2).2.2.2.2.getD (tN (a0.2.2.2.length:Int)) dF).2.2.2.1,((aR (cA nr) a0 a1 a2).2.2.2.2.getD (tN (a0.2.2.2.length:Int)) dF).2.2.2.2.1,((aR (cA nr) a0 a1 a2).2.2.2.2.getD (tN (a0.2.2.2.length:Int)) dF).2.2.2.2.2)).getD (tN (a0.2.2.2.length:Int)) dF).2.1,(((aR (cA nr) a0 a1 a2).2.2.2.2.set (tN (a0.2.2.2.length:Int)) (((aR (cA nr) a0 a1 a2).2.2.2.2.getD (tN (a0.2.2.2.length:Int)) dF).1,((aR (cA nr) a0 a1 a2).2.2.2.2.getD (tN (a0.2.2.2.length:Int)) dF).2.1,(fR (cA nr) a0 a1 a2).1,((aR (cA nr) a0 a1 a2).2.2.2.2.getD (tN (a0.2.2.2.length:Int)) dF).2.2.2.1,((aR (cA nr) a0 a1 a2).2.2.2.2.getD (tN (a0.2.2.2.length:Int)) dF).2.2.2.2.1,((aR (cA nr) a0 a1 a2).2.2.2.2.getD (tN (a0.2.2.2.length:Int)) dF).2.2.2.2.2)).getD (tN (a0.2.2.2.length:Int)) dF).2.2.1,(aR (cA nr) a0 a1 a2).1,(((aR (cA nr) a0 a1 a2).2.2.2.2.set (tN (a0.2.2.2.length:Int)) (((aR (cA nr) a0 a1 a2).2.2.2.2.getD (tN (a0.2.2.2.length:Int)) dF).1,((aR (cA nr) a0 a1 a2).2.2.2.2.getD (tN (a0.2.2.2.length:Int)) dF).2.1,(fR (cA nr) a0 a1 a2).1,((aR (cA nr) a0 a1 a2).2.2.2.2.getD (tN (a0.2.2.2.length:Int)) dF).2.2.2.1,((aR (cA nr) a0 a1 a2).2.2.2.2.getD (tN (a0.2.2.2.length:Int)) dF).2.2.2.2.1,((aR (cA nr) a0 a1 a2).2.2.2.2.getD (tN (a0.2.2.2.length:Int)) dF).2.2.2.2.2)).getD (tN (a0.2.2.2.length:Int)) dF).2.2.2.2.1,(((aR (cA nr) a0 a1 a2).2.2.2.2.set (tN (a0.2.2.2.length:Int)) (((aR (cA nr) a0 a1 a2).2.2.2.2.getD (tN (a0.2.2.2.length:Int)) dF).1,((aR (cA nr) a0 a1 a2).2.2.2.2.getD (tN (a0.2.2.2.length:Int)) dF).2.1,(fR (cA nr) a0 a1 a2).1,((aR (cA nr) a0 a1 a2).2.2.2.2.getD (tN (a0.2.2.2.length:Int)) dF).2.2.2.1,((aR (cA nr) a0 a1 a2).2.2.2.2.getD (tN (a0.2.2.2.length:Int)) dF).2.2.2.2.1,((aR (cA nr) a0 a1 a2).2.2.2.2.getD (tN (a0.2.2.2.length:Int)) dF).2.2.2.2.2)).getD (tN (a0.2.2.2.length:Int)) dF).2.2.2.2.2)))))else((a0.2.2.2.length:Int),(a0.1,a0.2.1,(a0.2.2.1,(a0.2.2.2++[(a1,a2,(-1),(-1),(cI (eE a0 a1 a2)),(iO a0 a1 a2).1)])))))
def F76 (a0:cC×Int×ZL×eB)(a1 a2:Int):Int×cC×Int×ZL×eB:=cA (tN (a2 - a1)+1) a0 a1 a2
structure ADDR (b r:BU) (i k:Int):Prop where
 pan:r.1=b.1
 leaf:r.2.1=b.2.1
 ol:r.2.2.1.length=b.2.2.1.length
 oi:InR b.1.length r.2.2.1
 lo:b.2.2.2.length < r.2.2.2.length
 hi:r.2.2.2.length<=b.2.2.2.length+2*(k - i) - 1
section
variable {nr : Nat} {b : BU} {i k : Int} (hp : PADD b i k)
include hp
theorem vH:(aAa b i k).length=b.2.2.1.length/\InR b.1.length (aAa b i k) :=
 aXx (by have:=hp.rng;omega) hp.inr
theorem aOy {x:Int×Int×Int×Int×Zt×Int} (h2:2<=k - i):PADD (b.1,b.2.1,(aAa b i k),b.2.2.2++[x]) i (W (i+(W (tD (W ((W (k - i))+1)) 2)))):=by
 have h:=hp.rng;have hn:=hp.nds;rw [aC7 ⟨h.1,h.2.1,by omega⟩];have h4:=vH hp;exact⟨h4.2,⟨h.1,by omega,by rw [h4.1];omega,by rw [h4.1];omega⟩,by simp only [List.length_append,List.length_cons,List.length_nil];omega,hp.lf⟩
end
theorem aRk {b r:BU} {i k:Int} {o:ZL} {x:Int×Int×Int×Int×Zt×Int} (hp:PADD b i k)(ho:o.length=b.2.2.1.length)(h2:2<=k - i)(hr:ADDR (b.1,b.2.1,o,b.2.2.2++[x]) r i (W (i+(W (tD (W ((W (k - i))+1)) 2))))) :
 PADD (b.1,r.2.1,r.2.2.1,r.2.2.2) (W (i+(W (tD (W ((W (k - i))+1)) 2)))) k:=by
 have h:=hp.rng;have hn:=hp.nds;obtain⟨g1,g2,g3,g4,g5,g6⟩:=hr;rw [aC7 ⟨h.1,h.2.1,by omega⟩] at g6 ⊢;simp only [List.length_append,List.length_cons,List.length_nil] at g3 g5 g6 g2;exact⟨g4,⟨by omega,by omega,by rw [g3];omega,by rw [g3];omega⟩,by simp only;omega,by rw [g2];exact hp.lf⟩
theorem xQ:∀(nr:Nat) (b:BU) (i k:Int),PADD b i k->tN (k - i) < nr->ADDR b (cA nr b i k).2 i k
 | 0,b,i,k,_,hn=>absurd hn (fW _)
 | nr+1,b,i,k,hp,hn=>by
  have h:=hp.rng;have hn2:=hp.nds;have hl:=hp.lf;have hW:W (k - i)=k - i:=aG (by omega) (by omega);simp only [cA];by_cases h0:W (k - i) > b.2.1
  ·rw [cL h0,cond_true];have h2:2<=k - i:=by omega
   have hm:=aC7 ⟨h.1,h.2.1,by omega⟩;have h5:ADDR _ (fR (cA nr) b i k).2 i _:=xQ nr _ _ _ (aOy hp h2) (by rw [hm];omega);have h6:ADDR _ (aR (cA nr) b i k).2 _ k:=xQ nr _ _ _ (aRk hp (vH hp).1 h2 h5) (by rw [hm];omega);have g3:=h5.ol;have g5:=h5.lo;have g6:=h5.hi;have f3:=h6.ol;have f5:=h6.lo;have f6:=h6.hi;rw [hm] at g6 f6;simp only [List.length_append,List.length_cons,List.length_nil] at g3 g5 g6 f3 f5 f6;refine⟨rfl,h6.leaf.trans h5.leaf,?_,h6.oi,?_,?_⟩
   ·show(aR (cA nr) b i k).2.2.2.1.length=_;rw [f3,g3];exact(vH hp).1
   ·simp only [List.length_set];omega
   ·simp only [List.length_set];omega
  ·rw [cV h0,cond_false];exact⟨rfl,rfl,rfl,hp.inr,by simp,by simp;omega⟩
theorem bCy:∀(nr:Nat) (a0:cC×Int×ZL×eB) (a1 a2:Int) (l0_1:a0.1.length<=2^63-1) (l0_2_2_1:a0.2.2.1.length<=2^63-1) (l0_2_2_2:a0.2.2.2.length<=2^63-1) (hp:PADD a0 a1 a2),tN (a2 - a1) < nr->Con Tryz.prog 76 [(.p 0 0),(iv a1),(iv a2)] [(.live true false [(.s 1 0 a0.1.length 10),(iv a0.2.1),(.s 2 0 a0.2.2.1.length 1),(.s 3 0 a0.2.2.2.length 8)]),(.live false true (flat fJ a0.1)),(.live true true (flat c3 a0.2.2.1)),(.live true true (flat fP a0.2.2.2))] (iv (cA nr a0 a1 a2).1) [(.live true true (flat fP (cA nr a0 a1 a2).2.2.2.2))] [(.live true false [(.s 1 0 a0.1.length 10),(iv (cA nr a0 a1 a2).2.2.1),(.s 2 0 (cA nr a0 a1 a2).2.2.2.1.length 1),(.s 4 0 (cA nr a0 a1 a2).2.2.2.2.length 8)]),.un,(.live true true (flat c3 (cA nr a0 a1 a2).2.2.2.1)),.dead]:=by
 intro nr
 induction nr with
 | zero=>intro a0 a1 a2 l0_1 l0_2_2_1 l0_2_2_2 hp hlt;exact absurd hlt (fW _)
 | succ nr ihr =>
 intro a0 a1 a2 l0_1 l0_2_2_1 l0_2_2_2 hp hlt;refine cS Tryz.func76 fun cx hcx=>?_
 have hpr:=hp.rng;have hpn:=hp.nds;have hpl:=hp.lf;have hpt:=cD (l:=a0.2.2.1) (a:=a1) (b:=a2) (by omega);have hm1:(eE a0 a1 a2).length=_:=aA5 a0.1 (Aw.part a0.2.2.1 a1 a2);have hW:W (a2 - a1)=a2 - a1:=aG (by omega) (by omega);have hmid:=aC7 (i:=a1) (k:=a2) (by omega);have h4:=vH hp
 try (have _:=h0;rw [hmid] at g6 f6;simp only [List.length_append,List.length_cons,List.length_nil] at g3 g5 g6 f3 f5 f6)
 let t0:SL:=[.sub a1 a2 (a0.2.2.1.length),.c [1,2] (show Con Tryz.prog 25 [(.s 0 0 a0.1.length 10),(.s 1 (0+tN a1*1) (tN a2 - tN a1) 1)] [(.live false true (flat fJ a0.1)),(.live false true (flat c3 a0.2.2.1))] (.s 2 0 (eE a0 a1 a2).length 10) [(.live true true (flat fJ (eE a0 a1 a2)))] from Con.part (l:=a0.2.2.1) (a:=a1) (b:=a2) (c:=c3) (pre:=[(.s 0 0 a0.1.length 10)]) (post:=[]) (bs1:=[(.live false true (flat fJ a0.1))]) (bs2:=[]) 1 aB (by omega) rfl (by rfl) (aNb a0.1 (Aw.part (a0.2.2.1) a1 a2) (by omega) (by omega) (hp.inr.part a1 a2) (by omega))),.c [4] (aXu (eE a0 a1 a2) (by omega) (by omega)),.c [4] (aXv (eE a0 a1 a2) (cI (eE a0 a1 a2)) (by omega) (by omega)),.p (show((flat fP a0.2.2.2).length=a0.2.2.2.length*8/\a0.2.2.2.length+1<=2 ^ 40/\(a0.2.2.2.length+1)*64<=2 ^ 47) from rS hU (by omega) (by omega))];cases h0:(decide (((W (a2 - a1)):Int) > a0.2.1))
 case true=>
  have q0:=dE h0;have h4:=vH hp
  try have h2:2<=a2 - a1:=(fun _=>by omega) h0
  try have h5:ADDR _ (fR (cA nr) a0 a1 a2).2 a1 _:=(fun _=>xQ nr _ _ _ (aOy hp h2) (by rw [hmid];omega)) h0
  try have h6:ADDR _ (aR (cA nr) a0 a1 a2).2 _ a2:=(fun _=>xQ nr _ _ _ (aRk hp (vH hp).1 h2 h5) (by rw [hmid];omega)) h0
  try have g5:=(fun _=>h5.lo) h0
  try have g6:=(fun _=>h5.hi) h0
  try have g3:=(fun _=>h5.ol) h0
  try have f5:=(fun _=>h6.lo) h0
  try have f6:=(fun _=>h6.hi) h0
  try have f3:=(fun _=>h6.ol) h0
  try (have _:=h0;rw [hmid] at g6 f6;simp only [List.length_append,List.length_cons,List.length_nil] at g3 g5 g6 f3 f5 f6)
  have e:=Eq.refl (cA (nr+1) a0 a1 a2);(conv at e=>rhs;simp only [cA,h0,aQ]);rw [e]
  try dsimp only [bZ]
  try dsimp only
  rw [show flat fP (((aR (cA nr) a0 a1 a2).2.2.2.2.set (tN (a0.2.2.2.length:Int)) (((aR (cA nr) a0 a1 a2).2.2.2.2.getD (tN (a0.2.2.2.length:Int)) dF).1,((aR (cA nr) a0 a1 a2).2.2.2.2.getD (tN (a0.2.2.2.length:Int)) dF).2.1,(fR (cA nr) a0 a1 a2).1,((aR (cA nr) a0 a1 a2).2.2.2.2.getD (tN (a0.2.2.2.length:Int)) dF).2.2.2.1,((aR (cA nr) a0 a1 a2).2.2.2.2.getD (tN (a0.2.2.2.length:Int)) dF).2.2.2.2.1,((aR (cA nr) a0 a1 a2).2.2.2.2.getD (tN (a0.2.2.2.length:Int)) dF).2.2.2.2.2)).set (tN (a0.2.2.2.length:Int)) ((((aR (cA nr) a0 a1 a2).2.2.2.2.set (tN (a0.2.2.2.length:Int)) (((aR (cA nr) a0 a1 a2).2.2.2.2.getD (tN (a0.2.2.2.length:Int)) dF).1,((aR (cA nr) a0 a1 a2).2.2.2.2.getD (tN (a0.2.2.2.length:Int)) dF).2.1,(fR (cA nr) a0 a1 a2).1,((aR (cA nr) a0 a1 a2).2.2.2.2.getD (tN (a0.2.2.2.length:Int)) dF).2.2.2.1,((aR (cA nr) a0 a1 a2).2.2.2.2.getD (tN (a0.2.2.2.length:Int)) dF).2.2.2.2.1,((aR (cA nr) a0 a1 a2).2.2.2.2.getD (tN (a0.2.2.2.length:Int)) dF).2.2.2.2.2)).getD (tN (a0.2.2.2.length:Int)) dF).1,(((aR (cA nr) a0 a1 a2).2.2.2.2.set (tN (a0.2.2.2.length:Int)) (((aR (cA nr) a0 a1 a2).2.2.2.2.getD (tN (a0.2.2.2.length:Int)) dF).1,((aR (cA nr) a0 a1 a2).2.2.2.2.getD (tN (a0.2.2.2.length:Int)) dF).2.1,(fR (cA nr) a0 a1 a2).1,((aR (cA nr) a0 a1 a2).2.2.2.2.getD (tN (a0.2.2.2.length:Int)) dF).2.2.2.1,((aR (cA nr) a0 a1 a2).2.2.2.2.getD (tN (a0.2.2.2.length:Int)) dF).2.2.2.2.1,((aR (cA nr) a0 a1 a2).2.2.2.2.getD (tN (a0.2.2.2.length:Int)) dF).2.2.2.2.2)).getD (tN (a0.2.2.2.length:Int)) dF).2.1,(((aR (cA nr) a0 a1 a2).2.2.2.2.set (tN (a0.2.2.2.length:Int)) (((aR (cA nr) a0 a1 a2).2.2.2.2.getD (tN (a0.2.2.2.length:Int)) dF).1,((aR (cA nr) a0 a1 a2).2.2.2.2.getD (tN (a0.2.2.2.length:Int)) dF).2.1,(fR (cA nr) a0 a1 a2).1,((aR (cA nr) a0 a1 a2).2.2.2.2.getD (tN (a0.2.2.2.length:Int)) dF).2.2.2.1,((aR (cA nr) a0 a1 a2).2.2.2.2.getD (tN (a0.2.2.2.length:Int)) dF).2.2.2.2.1,((aR (cA nr) a0 a1 a2).2.2.2.2.getD (tN (a0.2.2.2.length:Int)) dF).2.2.2.2.2)).getD (tN (a0.2.2.2.length:Int)) dF).2.2.1,(aR (cA nr) a0 a1 a2).1,(((aR (cA nr) a0 a1 a2).2.2.2.2.set (tN (a0.2.2.2.length:Int)) (((aR (cA nr) a0 a1 a2).2.2.2.2.getD (tN (a0.2.2.2.length:Int)) dF).1,((aR (cA nr) a0 a1 a2).2.2.2.2.getD (tN (a0.2.2.2.length:Int)) dF).2.1,(fR (cA nr) a0 a1 a2).1,((aR (cA nr) a0 a1 a2).2.2.2.2.getD (tN (a0.2.2.2.length:Int)) dF).2.2.2.1,((aR (cA nr) a0 a1 a2).2.2.2.2.getD (tN (a0.2.2.2.length:Int)) dF).2.2.2.2.1,((aR (cA nr) a0 a1 a2).2.2.2.2.getD (tN (a0.2.2.2.length:Int)) dF).2.2.2.2.2)).getD (tN (a0.2.2.2.length:Int)) dF).2.2.2.2.1,(((aR (cA nr) a0 a1 a2).2.2.2.2.set (tN (a0.2.2.2.length:Int)) (((aR (cA nr) a0 a1 a2).2.2.2.2.getD (tN (a0.2.2.2.length:Int)) dF).1,((aR (cA nr) a0 a1 a2).2.2.2.2.getD (tN (a0.2.2.2.length:Int)) dF).2.1,(fR (cA nr) a0 a1 a2).1,((aR (cA nr) a0 a1 a2).2.2.2.2.getD (tN (a0.2.2.2.length:Int)) dF).2.2.2.1,((aR (cA nr) a0 a1 a2).2.2.2.2.getD (tN (a0.2.2.2.length:Int)) dF).2.2.2.2.1,((aR (cA nr) a0 a1 a2).2.2.2.2.getD (tN (a0.2.2.2.length:Int)) dF).2.2.2.2.2)).getD (tN (a0.2.2.2.length:Int)) dF).2.2.2.2.2))=(splice (splice (flat fP (aR (cA nr) a0 a1 a2).2.2.2.2) (0+tN (a0.2.2.2.length:Int)*8+2) [(iv (fR (cA nr) a0 a1 a2).1)]) (0+tN (a0.2.2.2.length:Int)*8+3) [(iv (aR (cA nr) a0 a1 a2).1)]) from Eq.symm (by rw [show(splice (flat fP (aR (cA nr) a0 a1 a2).2.2.2.2) (0+tN (a0.2.2.2.length:Int)*8+2) [(iv (fR (cA nr) a0 a1 a2).1)])=flat fP ((aR (cA nr) a0 a1 a2).2.2.2.2.set (tN (a0.2.2.2.length:Int)) (((aR (cA nr) a0 a1 a2).2.2.2.2.getD (tN (a0.2.2.2.length:Int)) dF).1,((aR (cA nr) a0 a1 a2).2.2.2.2.getD (tN (a0.2.2.2.length:Int)) dF).2.1,(fR (cA nr) a0 a1 a2).1,((aR (cA nr) a0 a1 a2).2.2.2.2.getD (tN (a0.2.2.2.length:Int)) dF).2.2.2.1,((aR (cA nr) a0 a1 a2).2.2.2.2.getD (tN (a0.2.2.2.length:Int)) dF).2.2.2.2.1,((aR (cA nr) a0 a1 a2).2.2.2.2.getD (tN (a0.2.2.2.length:Int)) dF).2.2.2.2.2)) from(bT hU (by first | omega | (simp only [Lt];omega)) (o:=2) (d:=dF) (Nb rfl) rfl)];exact bT hU (by first | omega | (simp only [Lt];omega)) (o:=3) (d:=dF) (Nb rfl) rfl)]
  try rw [show List.length (α:=Int×Int×Int×Int×Zt×Int) (((aR (cA nr) a0 a1 a2).2.2.2.2.set (tN (a0.2.2.2.length:Int)) (((aR (cA nr) a0 a1 a2).2.2.2.2.getD (tN (a0.2.2.2.length:Int)) dF).1,((aR (cA nr) a0 a1 a2).2.2.2.2.getD (tN (a0.2.2.2.length:Int)) dF).2.1,(fR (cA nr) a0 a1 a2).1,((aR (cA nr) a0 a1 a2).2.2.2.2.getD (tN (a0.2.2.2.length:Int)) dF).2.2.2.1,((aR (cA nr) a0 a1 a2).2.2.2.2.getD (tN (a0.2.2.2.length:Int)) dF).2.2.2.2.1,((aR (cA nr) a0 a1 a2).2.2.2.2.getD (tN (a0.2.2.2.length:Int)) dF).2.2.2.2.2)).set (tN (a0.2.2.2.length:Int)) ((((aR (cA nr) a0 a1 a2).2.2.2.2.set (tN (a0.2.2.2.length:Int)) (((aR (cA nr) a0 a1 a2).2.2.2.2.getD (tN (a0.2.2.2.length:Int)) dF).1,((aR (cA nr) a0 a1 a2).2.2.2.2.getD (tN (a0.2.2.2.length:Int)) dF).2.1,(fR (cA nr) a0 a1 a2).1,((aR (cA nr) a0 a1 a2).2.2.2.2.getD (tN (a0.2.2.2.length:Int)) dF).2.2.2.1,((aR (cA nr) a0 a1 a2).2.2.2.2.getD (tN (a0.2.2.2.length:Int)) dF).2.2.2.2.1,((aR (cA nr) a0 a1 a2).2.2.2.2.getD (tN (a0.2.2.2.length:Int)) dF).2.2.2.2.2)).getD (tN (a0.2.2.2.length:Int)) dF).1,(((aR (cA nr) a0 a1 a2).2.2.2.2.set (tN (a0.2.2.2.length:Int)) (((aR (cA nr) a0 a1 a2).2.2.2.2.getD (tN (a0.2.2.2.length:Int)) dF).1,((aR (cA nr) a0 a1 a2).2.2.2.2.getD (tN (a0.2.2.2.length:Int)) dF).2.1,(fR (cA nr) a0 a1 a2).1,((aR (cA nr) a0 a1 a2).2.2.2.2.getD (tN (a0.2.2.2.length:Int)) dF).2.2.2.1,((aR (cA nr) a0 a1 a2).2.2.2.2.getD (tN (a0.2.2.2.length:Int)) dF).2.2.2.2.1,((aR (cA nr) a0 a1 a2).2.2.2.2.getD (tN (a0.2.2.2.length:Int)) dF).2.2.2.2.2)).getD (tN (a0.2.2.2.length:Int)) dF).2.1,(((aR (cA nr) a0 a1 a2).2.2.2.2.set (tN (a0.2.2.2.length:Int)) (((aR (cA nr) a0 a1 a2).2.2.2.2.getD (tN (a0.2.2.2.length:Int)) dF).1,((aR (cA nr) a0 a1 a2).2.2.2.2.getD (tN (a0.2.2.2.length:Int)) dF).2.1,(fR (cA nr) a0 a1 a2).1,((aR (cA nr) a0 a1 a2).2.2.2.2.getD (tN (a0.2.2.2.length:Int)) dF).2.2.2.1,((aR (cA nr) a0 a1 a2).2.2.2.2.getD (tN (a0.2.2.2.length:Int)) dF).2.2.2.2.1,((aR (cA nr) a0 a1 a2).2.2.2.2.getD (tN (a0.2.2.2.length:Int)) dF).2.2.2.2.2)).getD (tN (a0.2.2.2.length:Int)) dF).2.2.1,(aR (cA nr) a0 a1 a2).1,(((aR (cA nr) a0 a1 a2).2.2.2.2.set (tN (a0.2.2.2.length:Int)) (((aR (cA nr) a0 a1 a2).2.2.2.2.getD (tN (a0.2.2.2.length:Int)) dF).1,((aR (cA nr) a0 a1 a2).2.2.2.2.getD (tN (a0.2.2.2.length:Int)) dF).2.1,(fR (cA nr) a0 a1 a2).1,((aR (cA nr) a0 a1 a2).2.2.2.2.getD (tN (a0.2.2.2.length:Int)) dF).2.2.2.1,((aR (cA nr) a0 a1 a2).2.2.2.2.getD (tN (a0.2.2.2.length:Int)) dF).2.2.2.2.1,((aR (cA nr) a0 a1 a2).2.2.2.2.getD (tN (a0.2.2.2.length:Int)) dF).2.2.2.2.2)).getD (tN (a0.2.2.2.length:Int)) dF).2.2.2.2.1,(((aR (cA nr) a0 a1 a2).2.2.2.2.set (tN (a0.2.2.2.length:Int)) (((aR (cA nr) a0 a1 a2).2.2.2.2.getD (tN (a0.2.2.2.length:Int)) dF).1,((aR (cA nr) a0 a1 a2).2.2.2.2.getD (tN (a0.2.2.2.length:Int)) dF).2.1,(fR (cA nr) a0 a1 a2).1,((aR (cA nr) a0 a1 a2).2.2.2.2.getD (tN (a0.2.2.2.length:Int)) dF).2.2.2.1,((aR (cA nr) a0 a1 a2).2.2.2.2.getD (tN (a0.2.2.2.length:Int)) dF).2.2.2.2.1,((aR (cA nr) a0 a1 a2).2.2.2.2.getD (tN (a0.2.2.2.length:Int)) dF).2.2.2.2.2)).getD (tN (a0.2.2.2.length:Int)) dF).2.2.2.2.2))=(aR (cA nr) a0 a1 a2).2.2.2.2.length from by first | simp;done | omega]
  exact rtm (t0++[.d h0,.sub a1 a2 (a0.2.2.1.length),.sub a1 a2 (a0.2.2.1.length),.c [0,1,2,7] (show Con Tryz.prog 125 [(.p 0 0),(.s 2 (0+tN a1*1) (tN a2 - tN a1) 1)] [(.live false false [(.s 1 0 a0.1.length 10),(iv a0.2.1),(.s 2 0 a0.2.2.1.length 1),(.s 3 0 (a0.2.2.2.length+1) 8)]),(.live false true (flat fJ a0.1)),(.live false true (flat c3 a0.2.2.1)),(.live false true (flat fP a0.2.2.2++[(iv a1),(iv a2),(iv (-1)),(iv (-1)),(iv (cI (eE a0 a1 a2)).1),(iv (cI (eE a0 a1 a2)).2.1),(iv (cI (eE a0 a1 a2)).2.2),(iv (iO a0 a1 a2).1)]))] (.a [(.p 0 0),(iv (aJe a0 a1 a2).2)]) [] from Con.alias (l:=a0.2.2.1) (a:=a1) (b:=a2) (c:=c3) (pre:=[(.p 0 0)]) (post:=[]) (bs:=[(.live false false [(.s 1 0 a0.1.length 10),(iv a0.2.1),(.s 2 0 a0.2.2.1.length 1),(.s 3 0 (a0.2.2.2.length+1) 8)]),(.live false true (flat fJ a0.1)),(.live false true (flat c3 a0.2.2.1)),(.live false true (flat fP a0.2.2.2++[(iv a1),(iv a2),(iv (-1)),(iv (-1)),(iv (cI (eE a0 a1 a2)).1),(iv (cI (eE a0 a1 a2)).2.1),(iv (cI (eE a0 a1 a2)).2.2),(iv (iO a0 a1 a2).1)]))]) 2 aB (by omega) rfl (by rfl) (by have q:=(aXw (a0.1,a0.2.1,(a0.2.2.1,(a0.2.2.2++[(a1,a2,(-1),(-1),(cI (eE a0 a1 a2)),(iO a0 a1 a2).1)]))) (Aw.part (a0.2.2.1) a1 a2) (by omega) (by omega) (by(try simp only [Lt]);omega) (by omega) (hp.inr.part a1 a2) (by omega));(try dsimp only at q);rw [show flat fP (a0.2.2.2++[(a1,a2,(-1),(-1),(cI (eE a0 a1 a2)),(iO a0 a1 a2).1)])=(flat fP a0.2.2.2++[(iv a1),(iv a2),(iv (-1)),(iv (-1)),(iv (cI (eE a0 a1 a2)).1),(iv (cI (eE a0 a1 a2)).2.1),(iv (cI (eE a0 a1 a2)).2.2),(iv (iO a0 a1 a2).1)]) from eJ] at q;(try rw [show List.length (α:=Int×Int×Int×Int×Zt×Int) (a0.2.2.2++[(a1,a2,(-1),(-1),(cI (eE a0 a1 a2)),(iO a0 a1 a2).1)])=(a0.2.2.2.length+1) from by first | simp;done | omega] at q);exact q)),.c [2,0,1,7] (by have q:=(aJc (a0.2.2.1) (tN a1) (tN a2 - tN a1) ((a0.1,a0.2.1,(a0.2.2.1,(a0.2.2.2++[(a1,a2,(-1),(-1),(cI (eE a0 a1 a2)),(iO a0 a1 a2).1)]))),(aJe a0 a1 a2).2) (by omega) (by omega) (by omega) (by(try simp only [Lt]);omega) (by omega) hp.inr);(try dsimp only at q);rw [show flat fP (a0.2.2.2++[(a1,a2,(-1),(-1),(cI (eE a0 a1 a2)),(iO a0 a1 a2).1)])=(flat fP a0.2.2.2++[(iv a1),(iv a2),(iv (-1)),(iv (-1)),(iv (cI (eE a0 a1 a2)).1),(iv (cI (eE a0 a1 a2)).2.1),(iv (cI (eE a0 a1 a2)).2.2),(iv (iO a0 a1 a2).1)]) from eJ] at q;(try rw [show List.length (α:=Int×Int×Int×Int×Zt×Int) (a0.2.2.2++[(a1,a2,(-1),(-1),(cI (eE a0 a1 a2)),(iO a0 a1 a2).1)])=(a0.2.2.2.length+1) from by first | simp;done | omega] at q);exact q),.p (show(2:Int)≠0 from by decide),.c [0,1,2,7] (by have q:=(ihr (a0.1,a0.2.1,((aAa a0 a1 a2),(a0.2.2.2++[(a1,a2,(-1),(-1),(cI (eE a0 a1 a2)),(iO a0 a1 a2).1)]))) a1 (W (a1+(W (tD (W ((W (a2 - a1))+1)) 2)))) (by omega) (by(try simp only [Lt]);omega) (by(try simp only [Lt]);omega) (by first | exact aOy hp h2 | exact aRk hp (vH hp).1 h2 h5) (by rw [hmid];omega));(try dsimp only at q);rw [show flat fP (a0.2.2.2++[(a1,a2,(-1),(-1),(cI (eE a0 a1 a2)),(iO a0 a1 a2).1)])=(flat fP a0.2.2.2++[(iv a1),(iv a2),(iv (-1)),(iv (-1)),(iv (cI (eE a0 a1 a2)).1),(iv (cI (eE a0 a1 a2)).2.1),(iv (cI (eE a0 a1 a2)).2.2),(iv (iO a0 a1 a2).1)]) from eJ] at q;(try rw [show List.length (α:=Int) (aAa a0 a1 a2)=a0.2.2.1.length from by first | simp;done | omega] at q);(try rw [show List.length (α:=Int×Int×Int×Int×Zt×Int) (a0.2.2.2++[(a1,a2,(-1),(-1),(cI (eE a0 a1 a2)),(iO a0 a1 a2).1)])=(a0.2.2.2.length+1) from by first | simp;done | omega] at q);exact q),.c [0,1,2,8] (ihr (a0.1,(fR (cA nr) a0 a1 a2).2.2.1,((fR (cA nr) a0 a1 a2).2.2.2.1,(fR (cA nr) a0 a1 a2).2.2.2.2)) (W (a1+(W (tD (W ((W (a2 - a1))+1)) 2)))) a2 (by omega) (by(try simp only [Lt]);omega) (by(try simp only [Lt]);omega) (by first | exact aOy hp h2 | exact aRk hp (vH hp).1 h2 h5) (by rw [hmid];omega)),.i (a0.2.2.2.length:Int) ((aR (cA nr) a0 a1 a2).2.2.2.2.length),.p (show((0+tN (a0.2.2.2.length:Int)*8+2)+1<=(flat fP (aR (cA nr) a0 a1 a2).2.2.2.2).length) from(iS hU (by first | omega | (simp only [Lt];omega)) (o:=2) (Nb rfl))),.i (a0.2.2.2.length:Int) ((aR (cA nr) a0 a1 a2).2.2.2.2.length),.p (show((0+tN (a0.2.2.2.length:Int)*8+3)+1<=(splice (flat fP (aR (cA nr) a0 a1 a2).2.2.2.2) (0+tN (a0.2.2.2.length:Int)*8+2) [(iv (fR (cA nr) a0 a1 a2).1)]).length) from(by rw [show(splice (flat fP (aR (cA nr) a0 a1 a2).2.2.2.2) (0+tN (a0.2.2.2.length:Int)*8+2) [(iv (fR (cA nr) a0 a1 a2).1)])=flat fP ((aR (cA nr) a0 a1 a2).2.2.2.2.set (tN (a0.2.2.2.length:Int)) (((aR (cA nr) a0 a1 a2).2.2.2.2.getD (tN (a0.2.2.2.length:Int)) dF).1,((aR (cA nr) a0 a1 a2).2.2.2.2.getD (tN (a0.2.2.2.length:Int)) dF).2.1,(fR (cA nr) a0 a1 a2).1,((aR (cA nr) a0 a1 a2).2.2.2.2.getD (tN (a0.2.2.2.length:Int)) dF).2.2.2.1,((aR (cA nr) a0 a1 a2).2.2.2.2.getD (tN (a0.2.2.2.length:Int)) dF).2.2.2.2.1,((aR (cA nr) a0 a1 a2).2.2.2.2.getD (tN (a0.2.2.2.length:Int)) dF).2.2.2.2.2)) from(bT hU (by first | omega | (simp only [Lt];omega)) (o:=2) (d:=dF) (Nb rfl) rfl)];exact iS hU (by first | omega | (simp only [Lt];omega)) (o:=3) (Nb rfl)))]) [] [0,2,3] [9] hcx (by kernel_rfl)
 have q0:=dO h0;have h4:=vH hp
 try (have _:=h0;rw [hmid] at g6 f6;simp only [List.length_append,List.length_cons,List.length_nil] at g3 g5 g6 f3 f5 f6)
 have e:=Eq.refl (cA (nr+1) a0 a1 a2);(conv at e=>rhs;simp only [cA,h0,aQ]);rw [e]
 try dsimp only [bZ]
 try dsimp only
 rw [show flat fP (a0.2.2.2++[(a1,a2,(-1),(-1),(cI (eE a0 a1 a2)),(iO a0 a1 a2).1)])=(flat fP a0.2.2.2++[(iv a1),(iv a2),(iv (-1)),(iv (-1)),(iv (cI (eE a0 a1 a2)).1),(iv (cI (eE a0 a1 a2)).2.1),(iv (cI (eE a0 a1 a2)).2.2),(iv (iO a0 a1 a2).1)]) from eJ]
 try rw [show List.length (α:=Int×Int×Int×Int×Zt×Int) (a0.2.2.2++[(a1,a2,(-1),(-1),(cI (eE a0 a1 a2)),(iO a0 a1 a2).1)])=(a0.2.2.2.length+1) from by first | simp;done | omega]
 exact rtm (t0++[.d h0]) [] [0,2,3] [7] hcx (by kernel_rfl)
theorem C76 (a0:cC×Int×ZL×eB)(a1 a2:Int)(l0_1:a0.1.length<=2^63-1)(l0_2_2_1:a0.2.2.1.length<=2^63-1)(l0_2_2_2:a0.2.2.2.length<=2^63-1)(hp:PADD a0 a1 a2):Con Tryz.prog 76 [(.p 0 0),(iv a1),(iv a2)] [(.live true false [(.s 1 0 a0.1.length 10),(iv a0.2.1),(.s 2 0 a0.2.2.1.length 1),(.s 3 0 a0.2.2.2.length 8)]),(.live false true (flat fJ a0.1)),(.live true true (flat c3 a0.2.2.1)),(.live true true (flat fP a0.2.2.2))] (iv (F76 a0 a1 a2).1) [(.live true true (flat fP (F76 a0 a1 a2).2.2.2.2))] [(.live true false [(.s 1 0 a0.1.length 10),(iv (F76 a0 a1 a2).2.2.1),(.s 2 0 (F76 a0 a1 a2).2.2.2.1.length 1),(.s 4 0 (F76 a0 a1 a2).2.2.2.2.length 8)]),.un,(.live true true (flat c3 (F76 a0 a1 a2).2.2.2.1)),.dead]:=bCy (tN (a2 - a1)+1) a0 a1 a2 l0_1 l0_2_2_1 l0_2_2_2 hp (lss _)
end Go.Proofs.YtlffahoikfahlaaGreat
namespace Go.Proofs.YtlffahoikfahlaaGreat
open Go.Proofs Go.Aw Go.RowKit
set_option maxRecDepth 100000
theorem InR.add {n:Nat} {l:ZL} (h:InR n l) {x:Int} (hx:0<=x/\x < (n:Int)):InR n (l++[x]):=fun y hy=>by
 rcases List.mem_append.1 hy with hy | hy
 ·exact h y hy
 ·rw [List.mem_singleton.1 hy];exact hx
theorem InR.nil (n:Nat):InR n []:=fun y hy=>by simp at hy
noncomputable def xR:=bC [1,1,0,1] [] (aX Tryz.f39) []
def aC8 (a0:cC)(a1:Int)(v3c:List SV)(v3n:Nat)(v4c:List SV)(v4n:Nat)(v5:Int):LS:=⟨jT 40 [(0,(.s 0 0 a0.length 10)),(4,(.p 1 0)),(5,(.p 2 0)),(12,(iv (a0.length:Int))),(13,(iv v5))],[(.live false true (flat fJ a0)),(.live true false [(.v (.slice none 0 0)),(.v (.slice none 0 0))]),(.live true false [(.s 0 0 a0.length 10),(iv a1),(.s 3 0 v3n 1),(.s 4 0 v4n 8)]),(.live true true v3c),(.live true true v4c)]⟩
def iJ (a0:cC)(a1:Int):ZL×eB×Int->(ZL×eB×Int)⊕(ZL×eB) | (v3,v4,v5) => (bif (decide ((v5:Int) < (a0.length:Int)))then(.inl ((v3++[v5]),v4,(v5+1)))else(bif (decide (((a0.length:Int):Int) > 0))then(.inr ((F76 (a0,a1,(v3,v4)) 0 (a0.length:Int)).2.2.2.1,(F76 (a0,a1,(v3,v4)) 0 (a0.length:Int)).2.2.2.2))else(.inr (v3,v4))))
theorem aUd (a0:cC)(a1:Int)(l0:a0.length<=2^63-1)(hl:a0.length<=96)(hf:1<=a1) {cx:Cx} (hcx:cx.base=1):∀(n:Nat) (v3:ZL) (v4:eB) (v5:Int),(0<=v5)/\(v3.length=tN v5)/\(InR a0.length v3)/\(v4.length=0)/\(v5<=a0.length)/\(a0.length<=96)/\(1<=a1)->tN ((a0.length:Int) - v5) < n->gG Tryz.f39 cx (.a [(.s 1 0 (aE (iJ a0 a1) n (v3,v4,v5)).1.length 1),(.s 2 0 (aE (iJ a0 a1) n (v3,v4,v5)).2.length 8)]) [(.live true true (flat c3 (aE (iJ a0 a1) n (v3,v4,v5)).1)),(.live true true (flat fP (aE (iJ a0 a1) n (v3,v4,v5)).2))] [] (.l xR.1 n::xR.2) (aC8 a0 a1 (flat c3 v3) v3.length (flat fP v4) v4.length v5):=by
 intro n
 induction n with|zero=>intro v3 v4 v5 hi hn;exact absurd hn (fW _)|succ n ih=>?_
 intro v3 v4 v5 hi hn;refine aS ?_;cases h0:(decide ((v5:Int) < (a0.length:Int)))
 case true=>have q0:=dE h0;have e:=Eq.refl (iJ a0 a1 (v3,v4,v5));(conv at e=>rhs;simp only [iJ,h0,aQ]);rw [aD e];refine bA n [.d h0,.p (show((flat c3 v3).length=v3.length*1/\v3.length+1<=2 ^ 40/\(v3.length+1)*8<=2 ^ 47) from rS aB (by omega) (by omega))] [0,4,5,12,13] [1,2,6,4] hcx xR (aC8 a0 a1 (flat c3 v3++[(iv v5)]) (v3.length+1) (flat fP v4) (v4.length) (W (v5+1))) ?_;have z0:(W (v5+1))=(v5+1):=aG (by omega) (by omega);have z1:(flat c3 v3++[(iv v5)])=_:=(eJ (c:=c3) (l:=v3) (m:=[v5])).symm;have z2:(v3.length+1)=_:=uE v3 [v5] rfl;rw [z0,z1,z2];exact ih _ _ _ (by refine⟨?_,?_,?_,?_,?_,?_,?_⟩<;>first | omega | assumption | exact InR.nil _ | exact hi.2.2.1 | exact hi.2.2.1.add (by omega) | (simp only [Ls];omega) | simp) (by omega)
 have q0:=dO h0;let t1:SL:=[.d h0];cases h1:(decide (((a0.length:Int):Int) > 0))
 case true=>have q1:=dE h1;have e:=Eq.refl (iJ a0 a1 (v3,v4,v5));(conv at e=>rhs;simp only [iJ,h0,h1,aQ]);rw [aJ,e];exact rt (t1++[.d h1,.c [2,0,3,4] (C76 (a0,a1,(v3,v4)) 0 (a0.length:Int) (by omega) (by(try simp only [Lt]);omega) (by(try simp only [Lt]);omega) (by refine⟨?_,?_,?_,?_⟩<;>first | exact hi.2.2.1 | (simp only [];omega) | omega))]) [] [3,5] hcx (by kernel_rfl)
 have q1:=dO h1;have e:=Eq.refl (iJ a0 a1 (v3,v4,v5));(conv at e=>rhs;simp only [iJ,h0,h1,aQ]);rw [aJ,e];exact rt (t1++[.d h1]) [] [3,4] hcx (by kernel_rfl)
def mX (a0:cC)(a1:Int):ZL×eB := (aE (iJ a0 a1) (tN ((a0.length:Int) - 0)+1) (([]:ZL),([]:eB),0))
theorem aV3 (a0:cC)(a1:Int)(l0:a0.length<=2^63-1)(hl:a0.length<=96)(hf:1<=a1):Con Tryz.prog 39 [(.s 0 0 a0.length 10),(iv a1)] [(.live false true (flat fJ a0))] (.a [(.s 1 0 (mX a0 a1).1.length 1),(.s 2 0 (mX a0 a1).2.length 8)]) [(.live true true (flat c3 (mX a0 a1).1)),(.live true true (flat fP (mX a0 a1).2))]:=by
 refine cS Tryz.func39 fun cx hcx=>?_
 have e:=Eq.refl (mX a0 a1);(conv at e=>rhs;simp only [mX]);rw [e];refine en [] [.cell 2 2 1,.cell 2 3 8] [0,4,5,12,13] [1,2,3,4] hcx xR.1 xR.2 (aC8 a0 a1 (flat c3 ([]:ZL)) 0 (flat fP ([]:eB)) 0 0) (tN ((a0.length:Int) - 0)+1) (by kernel_rfl) ?_;exact aUd a0 a1 l0 hl hf hcx (tN ((a0.length:Int) - 0)+1) ([]:ZL) ([]:eB) 0 (by refine⟨?_,?_,?_,?_,?_,?_,?_⟩<;>first | omega | assumption | exact InR.nil _ | exact hi.2.2.1 | exact hi.2.2.1.add (by omega) | (simp only [Ls];omega) | simp) (by omega)
noncomputable def aJf:=bC [1,1,0,1] [] (aX Tryz.f19) []
def aGm (a0:ZL×eB)(v1 v2:Int):LS:=⟨jT 20 [(3,(iv v1)),(7,(.s 1 0 a0.2.length 8)),(8,(iv (a0.2.length:Int))),(9,(iv v2))],[(.live false true (flat c3 a0.1)),(.live false true (flat fP a0.2))]⟩
def aAb (a0:ZL×eB):Zs->Zs⊕(Int) | (v1,v2) => (bif (decide ((v2:Int) < (a0.2.length:Int)))then(bif (decide (((a0.2.getD (tN v2) dF).2.2.1:Int) < 0))then(.inl ((W (v1+1)),(v2+1)))else(.inl (v1,(v2+1))))else(.inr v1))
theorem bAg (a0:ZL×eB)(l0_1:a0.1.length<=2^63-1)(l0_2:a0.2.length<=2^63-1)(hl:a0.2.length<=1048576) {cx:Cx} (hcx:cx.base=2):∀(n:Nat) (v1 v2:Int),0<=v2->tN ((a0.2.length:Int) - v2) < n->gG Tryz.f19 cx (iv (aE (aAb a0) n (v1,v2))) [] [] (.l aJf.1 n::aJf.2) (aGm a0 v1 v2):=by
 intro n
 induction n with|zero=>intro v1 v2 hi hn;exact absurd hn (fW _)|succ n ih=>?_
 intro v1 v2 hi hn;refine aS ?_;cases h0:(decide ((v2:Int) < (a0.2.length:Int)))
 case true=>
  have q0:=dE h0;let t1:SL:=[.d h0,.i v2 (a0.2.length),.L hU a0.2 v2 0 8];cases h1:(decide (((a0.2.getD (tN v2) dF).2.2.1:Int) < 0))
  case true=>have q1:=dE h1;have e:=Eq.refl (aAb a0 (v1,v2));(conv at e=>rhs;simp only [aAb,h0,h1,aQ]);rw [aD e];refine bA n (t1++[.d h1]) [3,7,8,9] [] hcx aJf (aGm a0 (W (v1+1)) (W (v2+1))) ?_;have z0:(W (v2+1))=(v2+1):=aG (by omega) (by omega);rw [z0];exact ih _ _ (by omega) (by omega)
  have q1:=dO h1;have e:=Eq.refl (aAb a0 (v1,v2));(conv at e=>rhs;simp only [aAb,h0,h1,aQ]);rw [aD e];refine bA n (t1++[.d h1]) [3,7,8,9] [] hcx aJf (aGm a0 v1 (W (v2+1))) ?_;have z0:(W (v2+1))=(v2+1):=aG (by omega) (by omega);rw [z0];exact ih _ _ (by omega) (by omega)
 have q0:=dO h0;have e:=Eq.refl (aAb a0 (v1,v2));(conv at e=>rhs;simp only [aAb,h0,aQ]);rw [aJ,e];exact rT [.d h0] hcx
def F19 (a0:ZL×eB):Int := (aE (aAb a0) (tN ((a0.2.length:Int) - 0)+1) (0,0))
theorem C19 (a0:ZL×eB)(l0_1:a0.1.length<=2^63-1)(l0_2:a0.2.length<=2^63-1)(hl:a0.2.length<=1048576):Con Tryz.prog 19 [(.a [(.s 0 0 a0.1.length 1),(.s 1 0 a0.2.length 8)])] [(.live false true (flat c3 a0.1)),(.live false true (flat fP a0.2))] (iv (F19 a0)) []:=by
 refine cS Tryz.func19 fun cx hcx=>?_
 have e:=Eq.refl (F19 a0);(conv at e=>rhs;simp only [F19]);rw [e];refine eN [] [3,7,8,9] [] hcx aJf (aGm a0 0 0) (tN ((a0.2.length:Int) - 0)+1) ?_;exact bAg a0 l0_1 l0_2 hl hcx (tN ((a0.2.length:Int) - 0)+1) 0 0 (by omega) (by omega)
noncomputable def aJg:=bC [1,1,0,1] [] (aX Tryz.f17) []
def aK0 (v2c:List SV)(v2n:Nat)(v3:Int):LS:=⟨jT 23 [(1,(.s 0 0 v2n 10)),(2,(iv v3))],[(.live true true v2c)]⟩
def aC9:cC×Int->(cC×Int)⊕cC | (v2,v3) => (bif (decide ((v3:Int) < 4))then(.inl ((v2++[((((W (9*v3)),0,0),((W ((W (9*v3))+1)),0,0),((W (9*v3)),1,0)),1)]),(v3+1)))else(.inr v2))
theorem bAh {cx:Cx} (hcx:cx.base=0):∀(n:Nat) (v2:cC) (v3:Int),(0<=v3)/\(v2.length=tN v3)/\(v3<=4)->tN (4 - v3) < n->gG Tryz.f17 cx (.s 0 0 (aE (aC9) n (v2,v3)).length 10) [(.live true true (flat fJ (aE (aC9) n (v2,v3))))] [] (.l aJg.1 n::aJg.2) (aK0 (flat fJ v2) v2.length v3):=by
 intro n
 induction n with|zero=>intro v2 v3 hi hn;exact absurd hn (fW _)|succ n ih=>?_
 intro v2 v3 hi hn;refine aS ?_;cases h0:(decide ((v3:Int) < 4))
 case true=>have q0:=dE h0;have e:=Eq.refl (aC9 (v2,v3));(conv at e=>rhs;simp only [aC9,h0,aQ]);rw [aD e];refine bA n [.d h0,.p (show((flat fJ v2).length=v2.length*10/\v2.length+1<=2 ^ 40/\(v2.length+1)*80<=2 ^ 47) from rS kE (by omega) (by omega))] [1,2] [2] hcx aJg (aK0 (flat fJ v2++[(iv (W (9*v3))),(iv 0),(iv 0),(iv (W ((W (9*v3))+1))),(iv 0),(iv 0),(iv (W (9*v3))),(iv 1),(iv 0),(iv 1)]) (v2.length+1) (W (v3+1))) ?_;have z0:(W (v3+1))=(v3+1):=aG (by omega) (by omega);have z1:(flat fJ v2++[(iv (W (9*v3))),(iv 0),(iv 0),(iv (W ((W (9*v3))+1))),(iv 0),(iv 0),(iv (W (9*v3))),(iv 1),(iv 0),(iv 1)])=_:=(eJ (c:=fJ) (l:=v2) (m:=[((((W (9*v3)),0,0),((W ((W (9*v3))+1)),0,0),((W (9*v3)),1,0)),1)])).symm;have z2:(v2.length+1)=_:=uE v2 [((((W (9*v3)),0,0),((W ((W (9*v3))+1)),0,0),((W (9*v3)),1,0)),1)] rfl;rw [z0,z1,z2];exact ih _ _ (by refine⟨?_,?_,?_⟩<;>(try simp only [Ls])<;>first | omega | assumption | simp) (by omega)
 have q0:=dO h0;have e:=Eq.refl (aC9 (v2,v3));(conv at e=>rhs;simp only [aC9,h0,aQ]);rw [aJ,e];exact rt [.d h0] [] [0] hcx (by kernel_rfl)
def wI:cC := (aE (aC9) (tN (4 - 0)+1) (([]:cC),0))
theorem C17:Con Tryz.prog 17 [] [] (.s 0 0 wI.length 10) [(.live true true (flat fJ wI))]:=by
 refine cS Tryz.func17 fun cx hcx=>?_
 have e:=Eq.refl wI;(conv at e=>rhs;simp only [wI]);rw [e];refine en [] [.slot 1 10] [1,2] [0] hcx aJg.1 aJg.2 (aK0 (flat fJ ([]:cC)) 0 0) (tN (4 - 0)+1) (by kernel_rfl) ?_;exact bAh hcx (tN (4 - 0)+1) ([]:cC) 0 (by refine⟨?_,?_,?_⟩<;>(try simp only [Ls])<;>first | omega | assumption | simp) (by omega)
def vI (a0 a1 a2:Int):Bool := (bif (decide ((a0:Int)≥a1))then(decide ((a0:Int)<=a2))else false)
theorem C23 (a0 a1 a2:Int):Con Tryz.prog 23 [(iv a0),(iv a1),(iv a2)] [] (.v (.bool (vI a0 a1 a2))) []:=by
 refine cS Tryz.func23 fun cx hcx=>?_
 cases h0:(decide ((a0:Int)≥a1))
 case true=>have q0:=dE h0;have e:=Eq.refl (vI a0 a1 a2);(conv at e=>rhs;simp only [vI,h0,aQ]);rw [e];exact rT [.d h0] hcx
 have q0:=dO h0;have e:=Eq.refl (vI a0 a1 a2);(conv at e=>rhs;simp only [vI,h0,aQ]);rw [e];exact rT [.d h0] hcx
theorem aV4 {n m k:Int} (h:(!(vI n k m))=false):k<=n:=by
 simp only [vI] at h;by_cases h1:n≥k
 ·exact h1
 ·rw [cV h1] at h;simp at h
def aA (a0:cC)(a1:Int):(ZL×eB)×Int := (bif (((gL a0):Int) != 0)then((([]:ZL),([]:eB)),(gL a0))else(bif (!(vI a1 1 16))then((([]:ZL),([]:eB)),1)else(((mX a0 a1).1,(mX a0 a1).2),0)))
theorem aRl (a0:cC)(a1:Int)(l0:a0.length<=2^63-1):Con Tryz.prog 11 [(.s 0 0 a0.length 10),(iv a1)] [(.live false true (flat fJ a0))] (.t [(.a [(.s 1 0 (aA a0 a1).1.1.length 1),(.s 2 0 (aA a0 a1).1.2.length 8)]),(iv (aA a0 a1).2)]) [(.live true true (flat c3 (aA a0 a1).1.1)),(.live true true (flat fP (aA a0 a1).1.2))]:=by
 refine cS Tryz.func11 fun cx hcx=>?_
 let t0:SL:=[.c [0] (aMe a0 (by omega))];cases h0:(((gL a0):Int) != 0)
 case true=>have q0:=bne_iff_ne.1 h0;have e:=Eq.refl (aA a0 a1);(conv at e=>rhs;simp only [aA,h0,aQ]);rw [e];exact rt (t0++[.d h0]) [.cell 1 0 1,.cell 1 1 8] [2,3] hcx (by kernel_rfl)
 have q0:=bne_eq_false_iff_eq.1 h0;let t1:SL:=t0++[.d h0,.c [] (C23 a1 1 16)];cases h1:(!(vI a1 1 16))
 case true=>have e:=Eq.refl (aA a0 a1);(conv at e=>rhs;simp only [aA,h0,h1,aQ]);rw [e];exact rt (t1++[.d h1]) [.cell 1 0 1,.cell 1 1 8] [2,3] hcx (by kernel_rfl)
 have e:=Eq.refl (aA a0 a1);(conv at e=>rhs;simp only [aA,h0,h1,aQ]);rw [e];exact rt (t1++[.d h1,.c [0] (aV3 a0 a1 (by omega) (uK (l:=a0) (bne_eq_false_iff_eq.1 h0)) (aV4 h1))]) [] [2,3] hcx (by kernel_rfl)
end Go.Proofs.YtlffahoikfahlaaGreat
