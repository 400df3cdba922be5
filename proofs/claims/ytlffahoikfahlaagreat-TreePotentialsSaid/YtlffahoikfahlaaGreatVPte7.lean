/-
  Parts of the proofs of the laws: the executor, what functions of the program compute, and that it is what the statements ask. No premise.
-/
import Derived.Test.YtlffahoikfahlaaGreatVPte6
import Derived.Shelf.Small.Bits
import Derived.Lib.ItoaNum
set_option linter.unusedVariables false
set_option linter.unusedSimpArgs false
set_option maxHeartbeats 4000000
open Int renaming toNat → tN
open Inhabited renaming default → dF
open Go.IntKind renaming wrap → iW
open BitVec renaming ofInt → bO
open Int renaming tdiv → tD
open Int renaming fdiv → fD
open Int renaming tmod → mD
namespace Go.Proofs.YtlffahoikfahlaaGreat
open Go.Proofs Go.Aw Go.RowKit
set_option maxRecDepth 100000
theorem aWb {l:jM} {leaf:Int} (h:iH l=0)(hf:1<=leaf):(oT l leaf).1.length<=96/\(oT l leaf).2.length<=192:=by
 have hv:=aMx h;rw [aTu l hv hf];have:=rS l hv.1 hf;have:=hv.1;omega
theorem aWc {l:jM} {leaf:Int} (h:kQ l=0)(hf:1<=leaf):(mV l leaf).1.length<=96/\(mV l leaf).2.length<=192:=by
 have hl:=yQ h;rw [aH9 l hl hf];have:=rS l hl hf;omega
noncomputable def rU:=aU [1,1,0,1] [] (aV Tryz.f174) []
def tP (a0 a1:ZL)(v1:Int):LS:=⟨gU 26 [(0,(.s 0 0 a0.length 1)),(1,(.s 1 0 a1.length 1)),(12,(iv (a0.length:Int))),(13,(iv v1))],[(.live false true (flat c3 a0)),(.live false true (flat c3 a1))]⟩
def xA (a0 a1:ZL):Int->(Int)⊕(Bool) | v1 => (bif (decide ((v1:Int) < (a0.length:Int)))then(bif (((a0.getD (tN v1) dF):Int) != (a1.getD (tN v1) dF))then(.inr false)else(.inl (v1+1)))else(.inr true))
theorem aM1 (a0 a1:ZL)(l0:a0.length<=2^63-1)(l1:a1.length<=2^63-1) {cx:Cx} (hcx:cx.base=2):∀(n:Nat) (v1:Int),(0<=v1)/\(a0.length=a1.length)->tN ((a0.length:Int) - v1) < n->gG Tryz.f174 cx (.v (.bool (aG (xA a0 a1) n v1))) [] [] (.l rU.1 n::rU.2) (tP a0 a1 v1):=by
 intro n
 induction n with|zero=>intro v1 hi hn;exact absurd hn (dX _)|succ n ih=>?_
 intro v1 hi hn;refine aN ?_;rw [aZ,xA];cases h0:(decide ((v1:Int) < (a0.length:Int)))
 case true=>
  have q0:=eS h0;let t1:SL:=[.d h0,.i v1 (a0.length),.L aF a0 v1 0 1,.i v1 (a1.length),.L aF a1 v1 0 1];cases h1:(((a0.getD (tN v1) dF):Int) != (a1.getD (tN v1) dF))
  case true=>exact rT (t1++[.d h1]) hcx
  refine bA n (t1++[.d h1]) [0,1,12,13] [] hcx rU (tP a0 a1 (W (v1+1))) ?_;have z0:(W (v1+1))=(v1+1):=aH oM oM;rw [z0];exact ih _ oR oM
 exact rT [.d h0] hcx
def tQ (a0 a1:ZL):Bool := (bif (((a0.length:Int):Int) != (a1.length:Int))then false else(aG (xA a0 a1) (tN ((a0.length:Int) - 0)+1) 0))
theorem aTv (a0 a1:ZL)(l0:a0.length<=2^63-1)(l1:a1.length<=2^63-1):Con Tryz.prog 174 [(.s 0 0 a0.length 1),(.s 1 0 a1.length 1)] [(.live false true (flat c3 a0)),(.live false true (flat c3 a1))] (.v (.bool (tQ a0 a1))) []:=by
 refine cS Tryz.func174 fun cx hcx=>?_
 rw [tQ];cases h0:(((a0.length:Int):Int) != (a1.length:Int))
 case true=>exact rT [.d h0] hcx
 have q0:=bne_eq_false_iff_eq.1 h0;refine eN [.d h0] [0,1,12,13] [] hcx rU (tP a0 a1 0) (tN ((a0.length:Int) - 0)+1) ?_;exact aM1 a0 a1 l0 l1 hcx (tN ((a0.length:Int) - 0)+1) 0 oR oM
noncomputable def rV:=aU [1,1,0,1] [] (aV Tryz.f175) []
def tR (a0 a1:cV)(v1:Int):LS:=⟨gU 26 [(0,(.s 0 0 a0.length 8)),(1,(.s 1 0 a1.length 8)),(12,(iv (a0.length:Int))),(13,(iv v1))],[(.live false true (flat cR a0)),(.live false true (flat cR a1))]⟩
def xB (a0 a1:cV):Int->(Int)⊕(Bool) | v1 => (bif (decide ((v1:Int) < (a0.length:Int)))then(bif (!((((a0.getD (tN v1) dF).1:Int) == (a1.getD (tN v1) dF).1)&&((((a0.getD (tN v1) dF).2.1:Int) == (a1.getD (tN v1) dF).2.1)&&((((a0.getD (tN v1) dF).2.2.1:Int) == (a1.getD (tN v1) dF).2.2.1)&&((((a0.getD (tN v1) dF).2.2.2.1:Int) == (a1.getD (tN v1) dF).2.2.2.1)&&(((((a0.getD (tN v1) dF).2.2.2.2.1.1:Int) == (a1.getD (tN v1) dF).2.2.2.2.1.1)&&((((a0.getD (tN v1) dF).2.2.2.2.1.2.1:Int) == (a1.getD (tN v1) dF).2.2.2.2.1.2.1)&&((((a0.getD (tN v1) dF).2.2.2.2.1.2.2:Int) == (a1.getD (tN v1) dF).2.2.2.2.1.2.2)&&true)))&&((((a0.getD (tN v1) dF).2.2.2.2.2:Int) == (a1.getD (tN v1) dF).2.2.2.2.2)&&true)))))))then(.inr false)else(.inl (v1+1)))else(.inr true))
theorem aM2 (a0 a1:cV)(l0:a0.length<=2^63-1)(l1:a1.length<=2^63-1) {cx:Cx} (hcx:cx.base=2):∀(n:Nat) (v1:Int),(0<=v1)/\(a0.length=a1.length)->tN ((a0.length:Int) - v1) < n->gG Tryz.f175 cx (.v (.bool (aG (xB a0 a1) n v1))) [] [] (.l rV.1 n::rV.2) (tR a0 a1 v1):=by
 intro n
 induction n with|zero=>intro v1 hi hn;exact absurd hn (dX _)|succ n ih=>?_
 intro v1 hi hn;refine aN ?_;rw [aZ,xB];cases h0:(decide ((v1:Int) < (a0.length:Int)))
 case true=>
  have q0:=eS h0;let t1:SL:=[.d h0,.i v1 (a0.length),.L cC a0 v1 0 8,.i v1 (a1.length),.L cC a1 v1 0 8];cases h1:(!((((a0.getD (tN v1) dF).1:Int) == (a1.getD (tN v1) dF).1)&&((((a0.getD (tN v1) dF).2.1:Int) == (a1.getD (tN v1) dF).2.1)&&((((a0.getD (tN v1) dF).2.2.1:Int) == (a1.getD (tN v1) dF).2.2.1)&&((((a0.getD (tN v1) dF).2.2.2.1:Int) == (a1.getD (tN v1) dF).2.2.2.1)&&(((((a0.getD (tN v1) dF).2.2.2.2.1.1:Int) == (a1.getD (tN v1) dF).2.2.2.2.1.1)&&((((a0.getD (tN v1) dF).2.2.2.2.1.2.1:Int) == (a1.getD (tN v1) dF).2.2.2.2.1.2.1)&&((((a0.getD (tN v1) dF).2.2.2.2.1.2.2:Int) == (a1.getD (tN v1) dF).2.2.2.2.1.2.2)&&true)))&&((((a0.getD (tN v1) dF).2.2.2.2.2:Int) == (a1.getD (tN v1) dF).2.2.2.2.2)&&true)))))))
  case true=>exact rT (t1++[.d h1]) hcx
  refine bA n (t1++[.d h1]) [0,1,12,13] [] hcx rV (tR a0 a1 (W (v1+1))) ?_;have z0:(W (v1+1))=(v1+1):=aH oM oM;rw [z0];exact ih _ oR oM
 exact rT [.d h0] hcx
def aD9 (a0 a1:cV):Bool := (bif (((a0.length:Int):Int) != (a1.length:Int))then false else(aG (xB a0 a1) (tN ((a0.length:Int) - 0)+1) 0))
theorem aTw (a0 a1:cV)(l0:a0.length<=2^63-1)(l1:a1.length<=2^63-1):Con Tryz.prog 175 [(.s 0 0 a0.length 8),(.s 1 0 a1.length 8)] [(.live false true (flat cR a0)),(.live false true (flat cR a1))] (.v (.bool (aD9 a0 a1))) []:=by
 refine cS Tryz.func175 fun cx hcx=>?_
 rw [aD9];cases h0:(((a0.length:Int):Int) != (a1.length:Int))
 case true=>exact rT [.d h0] hcx
 have q0:=bne_eq_false_iff_eq.1 h0;refine eN [.d h0] [0,1,12,13] [] hcx rV (tR a0 a1 0) (tN ((a0.length:Int) - 0)+1) ?_;exact aM2 a0 a1 l0 l1 hcx (tN ((a0.length:Int) - 0)+1) 0 oR oM
def aQh (a0 a1:ZL×cV):Bool := (bif (tQ a0.1 a1.1)then(aD9 a0.2 a1.2)else false)
theorem bE9 (a0 a1:ZL×cV)(l0_1:a0.1.length<=2^63-1)(l0_2:a0.2.length<=2^63-1)(l1_1:a1.1.length<=2^63-1)(l1_2:a1.2.length<=2^63-1):Con Tryz.prog 140 [(.a [(.s 0 0 a0.1.length 1),(.s 1 0 a0.2.length 8)]),(.a [(.s 2 0 a1.1.length 1),(.s 3 0 a1.2.length 8)])] [(.live false true (flat c3 a0.1)),(.live false true (flat cR a0.2)),(.live false true (flat c3 a1.1)),(.live false true (flat cR a1.2))] (.v (.bool (aQh a0 a1))) []:=by
 refine cS Tryz.func140 fun cx hcx=>?_
 let t0:SL:=[.c [0,2] (aTv a0.1 a1.1 oM oM)];rw [aQh];cases h0:(tQ a0.1 a1.1)
 case true=>exact rT (t0++[.d h0,.c [1,3] (aTw a0.2 a1.2 oM oM)]) hcx
 exact rT (t0++[.d h0]) hcx
noncomputable def aBy:=aU [1,1,0,1] [] (aV Tryz.f88) []
def aEa (a0:bV)(a1:ZL×cV)(v1:Int):LS:=⟨gU 21 [(0,(.s 0 0 a0.length 10)),(3,(.p 3 0)),(6,(iv v1))],[(.live false true (flat dI a0)),(.live false true (flat c3 a1.1)),(.live false true (flat cR a1.2)),(.live true false [(.s 1 0 a1.1.length 1),(.s 2 0 a1.2.length 8)])]⟩
def uT (a0:bV)(a1:ZL×cV):Int->(Int)⊕(Int) | v1 => (bif (decide ((v1:Int)<=16))then(bif (aQh (a1.1,a1.2) ((oT a0 v1).1,(oT a0 v1).2))then(.inr 0)else(.inl (v1+1)))else(.inr 1))
theorem aWd (a0:bV)(a1:ZL×cV)(l0:a0.length<=2^63-1)(l1_1:a1.1.length<=2^63-1)(l1_2:a1.2.length<=2^63-1) {cx:Cx} (hcx:cx.base=3):∀(n:Nat) (v1:Int),(0<=v1)/\(iH a0=0)/\(1<=v1)->tN (16 - v1+1) < n->gG Tryz.f88 cx (iv (aG (uT a0 a1) n v1)) [] [] (.l aBy.1 n::aBy.2) (aEa a0 a1 v1):=by
 intro n
 induction n with|zero=>intro v1 hi hn;exact absurd hn (dX _)|succ n ih=>?_
 intro v1 hi hn;refine aN ?_;have hbl:=aWb (l:=a0) (leaf:=v1) hi.2.1 oM;rw [aZ,uT];cases h0:(decide ((v1:Int)<=16))
 case true=>
  have q0:=eS h0;let t1:SL:=[.d h0,.c [0] (aXw a0 v1 oM (uN (l:=a0) hi.2.1) oM),.c [1,2,4,5] (bE9 (a1.1,a1.2) ((oT a0 v1).1,(oT a0 v1).2) oM oM (by(try simp only [Lt]);omega) (by(try simp only [Lt]);omega))];cases h1:(aQh (a1.1,a1.2) ((oT a0 v1).1,(oT a0 v1).2))
  case true=>exact rT (t1++[.d h1]) hcx
  refine bA n (t1++[.d h1]) [0,3,6] [3] hcx aBy (aEa a0 a1 (W (v1+1))) ?_;have z0:(W (v1+1))=(v1+1):=aH oM oM;rw [z0];exact ih _ oR oM
 exact rT [.d h0] hcx
def aA7 (a0:bV)(a1:ZL×cV):Int := (bif (((iH a0):Int) != 0)then(iH a0)else(aG (uT a0 a1) (tN (16 - 1+1)+1) 1))
theorem bCw (a0:bV)(a1:ZL×cV)(l0:a0.length<=2^63-1)(l1_1:a1.1.length<=2^63-1)(l1_2:a1.2.length<=2^63-1):Con Tryz.prog 88 [(.s 0 0 a0.length 10),(.a [(.s 1 0 a1.1.length 1),(.s 2 0 a1.2.length 8)])] [(.live false true (flat dI a0)),(.live false true (flat c3 a1.1)),(.live false true (flat cR a1.2))] (iv (aA7 a0 a1)) []:=by
 refine cS Tryz.func88 fun cx hcx=>?_
 let t0:SL:=[.c [0] (aN1 a0 oM)];rw [aA7];cases h0:(((iH a0):Int) != 0)
 case true=>exact rT (t0++[.d h0]) hcx
 have q0:=bne_eq_false_iff_eq.1 h0;refine eN (t0++[.d h0]) [0,3,6] [3] hcx aBy (aEa a0 a1 1) (tN (16 - 1+1)+1) ?_;exact aWd a0 a1 l0 l1_1 l1_2 hcx (tN (16 - 1+1)+1) 1 oR oM
noncomputable def aBz:=aU [1,1,1,0,1] [] (aV Tryz.f58) []
def aEb (a0:bV)(a1:ZL×cV)(v1:Int):LS:=⟨gU 21 [(0,(.s 0 0 a0.length 10)),(3,(.p 3 0)),(6,(iv v1))],[(.live false true (flat dI a0)),(.live false true (flat c3 a1.1)),(.live false true (flat cR a1.2)),(.live true false [(.s 1 0 a1.1.length 1),(.s 2 0 a1.2.length 8)])]⟩
def iY (a0:bV)(a1:ZL×cV):Int->(Int)⊕(Int) | v1 => (bif (decide ((v1:Int)<=16))then(bif (aH7 (a1.1,a1.2) ((mV a0 v1).1,(mV a0 v1).2))then(.inr 0)else(.inl (v1+1)))else(.inr 1))
theorem aWe (a0:bV)(a1:ZL×cV)(l0:a0.length<=2^63-1)(l1_1:a1.1.length<=2^63-1)(l1_2:a1.2.length<=2^63-1) {cx:Cx} (hcx:cx.base=3):∀(n:Nat) (v1:Int),(0<=v1)/\(kQ a0=0)/\(1<=v1)->tN (16 - v1+1) < n->gG Tryz.f58 cx (iv (aG (iY a0 a1) n v1)) [] [] (.l aBz.1 n::aBz.2) (aEb a0 a1 v1):=by
 intro n
 induction n with|zero=>intro v1 hi hn;exact absurd hn (dX _)|succ n ih=>?_
 intro v1 hi hn;refine aN ?_;have hbl:=aWc (l:=a0) (leaf:=v1) hi.2.1 oM;rw [aZ,iY];cases h0:(decide ((v1:Int)<=16))
 case true=>
  have q0:=eS h0;let t1:SL:=[.d h0,.c [0] (aXy a0 v1 oM (yQ (l:=a0) hi.2.1) oM),.c [1,2,4,5] (bE8 (a1.1,a1.2) ((mV a0 v1).1,(mV a0 v1).2) oM oM (by(try simp only [Lt]);omega) (by(try simp only [Lt]);omega))];cases h1:(aH7 (a1.1,a1.2) ((mV a0 v1).1,(mV a0 v1).2))
  case true=>exact rT (t1++[.d h1]) hcx
  refine bA n (t1++[.d h1]) [0,3,6] [3] hcx aBz (aEb a0 a1 (W (v1+1))) ?_;have z0:(W (v1+1))=(v1+1):=aH oM oM;rw [z0];exact ih _ oR oM
 exact rT [.d h0] hcx
def mW (a0:bV)(a1:ZL×cV):Int := (bif (((kQ a0):Int) != 0)then(kQ a0)else(aG (iY a0 a1) (tN (16 - 1+1)+1) 1))
theorem bCx (a0:bV)(a1:ZL×cV)(l0:a0.length<=2^63-1)(l1_1:a1.1.length<=2^63-1)(l1_2:a1.2.length<=2^63-1):Con Tryz.prog 58 [(.s 0 0 a0.length 10),(.a [(.s 1 0 a1.1.length 1),(.s 2 0 a1.2.length 8)])] [(.live false true (flat dI a0)),(.live false true (flat c3 a1.1)),(.live false true (flat cR a1.2))] (iv (mW a0 a1)) []:=by
 refine cS Tryz.func58 fun cx hcx=>?_
 let t0:SL:=[.c [0] (aRq a0 oM)];rw [mW];cases h0:(((kQ a0):Int) != 0)
 case true=>exact rT (t0++[.d h0]) hcx
 have q0:=bne_eq_false_iff_eq.1 h0;refine eN (t0++[.d h0]) [0,3,6] [3] hcx aBz (aEb a0 a1 1) (tN (16 - 1+1)+1) ?_;exact aWe a0 a1 l0 l1_1 l1_2 hcx (tN (16 - 1+1)+1) 1 oR oM
end Go.Proofs.YtlffahoikfahlaaGreat
namespace Go.Proofs.YtlffahoikfahlaaGreat
open Go.Proofs Go.Aw Go.RowKit
set_option maxRecDepth 100000
theorem aWf (a b:TR):aQh a b=aH7 a b:=by
 have e1:tQ a.1 b.1=kZ a.1 b.1:=rfl;unfold aQh aH7;rw [e1];cases kZ a.1 b.1<;>rfl
theorem aIa {S:Int->Int⊕Bool} {N:Nat} {p:Nat->Prop} (h1:∀i:Nat,i < N->(S (i:Int)=.inl ((i+1:Nat):Int)/\p i)\/S (i:Int)=.inr false):∀(d i n:Nat),d=N - i->i<=N->d < n->aG S n (i:Int)=true->∀j,i<=j->j < N->p j
 | 0,i,n,hd,hi,hn,_,j,h1,h2=>absurd h2 oM
 | d+1,i,n,hd,hi,hn,h,j,g1,g2=>by
  obtain⟨n,rfl⟩:∃m,n=m+1:=⟨n - 1,by omega⟩;rcases h1 i oM with⟨e,hp⟩ | e
  ·rw [aK e] at h;by_cases hj:j=i
   ·rw [hj];exact hp
   ·exact aIa h1 d (i+1) n oM oM oM h j oM g2
  ·rw [aL e] at h;cases h
theorem aK1 {α:Type} [Inhabited α] {a b:List α} (h:a.length=b.length)(h2:∀j,j < a.length->a.getD j dF=b.getD j dF):a=b:=by
 refine List.ext_getElem h fun i h3 h4=>?_
 have:=h2 i h3;rw [gS,gS,List.getElem?_eq_getElem h3,List.getElem?_eq_getElem h4] at this;exact this
theorem aWg {a b:ZL} (h:kZ a b=true):a=b:=by
 unfold kZ at h;by_cases hl:a.length=b.length
 ·rw [show(((a.length:Int):Int) != (b.length:Int))=false by rw [hl];simp,cond_false] at h;refine aK1 hl (aIa (N:=a.length) (p:=fun j=>a.getD j dF=b.getD j dF) (fun i hi=>?_) a.length 0 _ oM oM oM h · (Nat.zero_le _) ·);simp only [rR,iB];rw [bX (show((i:Nat):Int) < (a.length:Nat) by omega),cond_true];cases e:((a.getD i dF:Int) != b.getD i dF)
  case true=>exact .inr rfl
  exact .inl ⟨rfl,bne_eq_false_iff_eq.1 e⟩
 ·rw [show(((a.length:Int):Int) != (b.length:Int))=true by rw [bne_iff_ne];omega,cond_true] at h;cases h
theorem aTx {a b:TR} (h:aH7 a b=true):a=b:=by
 unfold aH7 at h;cases h1:kZ a.1 b.1
 case false=>rw [h1] at h;cases h
 rw [h1,Bool.not_true,cond_false] at h;by_cases hl:a.2.length=b.2.length
 ·rw [show(((a.2.length:Int):Int) != (b.2.length:Int))=false by rw [hl];simp,cond_false] at h;refine Prod.ext (aWg h1) (aK1 hl (aIa (N:=a.2.length) (p:=fun j=>a.2.getD j dF=b.2.getD j dF) (fun i hi=>?_) a.2.length 0 _ oM oM oM h · (Nat.zero_le _) ·));simp only [aH6,iB];rw [bX (show((i:Nat):Int) < (a.2.length:Nat) by omega),cond_true];generalize a.2.getD i dF=x;generalize b.2.getD i dF=y;obtain⟨x1,x2,x3,x4,⟨x5,x6,x7⟩,x8⟩:=x;obtain⟨y1,y2,y3,y4,⟨y5,y6,y7⟩,y8⟩:=y;dsimp only;rw [Bool.cond_eq_ite];split
  ·exact .inr rfl
  ·rename_i hq;refine .inl ⟨rfl,?_⟩;simp at hq ⊢;omega
 ·rw [show(((a.2.length:Int):Int) != (b.2.length:Int))=true by rw [bne_iff_ne];omega,cond_true] at h;cases h
theorem aK2 {l:jM} {t:TR} (hv:VCH l):∀(n:Nat) (v:Int),1<=v->aG (uT l t) n v=aG (iY l t) n v
 | 0,_,_=>rfl
 | n+1,v,h=>by
  have e:uT l t v=iY l t v:=by
   simp only [uT,iY,aWf,aTu l hv h,aH9 l hv.1 h]
  have h2:(iY l t v=.inl (v+1))\/(∃r,iY l t v=.inr r):=by
   simp only [iY];rw [Bool.cond_eq_ite];split
   ·rw [Bool.cond_eq_ite];split
    ·exact .inr ⟨_,rfl⟩
    ·exact .inl rfl
   ·exact .inr ⟨_,rfl⟩
  rcases h2 with h2 | ⟨r,h2⟩
  ·rw [aK (e.trans h2),aK h2];exact aK2 hv n (v+1) oM
  ·rw [aL (e.trans h2),aL h2]
theorem aK3 (l:jM)(t:TR):aA7 l t=mW l t:=by
 unfold aA7 mW;rw [wW];cases h:((kQ l:Int) != 0)
 case true=>rfl
 exact aK2 (aMx (by rw [wW];exact bne_eq_false_iff_eq.1 h)) _ 1 (Int.le_refl _)
theorem xC {l:jM} {t:TR} (h:mW l t=0):VCH l/\∃leaf:Int,1<=leaf/\leaf<=16/\t=BT l leaf:=by
 unfold mW at h;cases h0:((kQ l:Int) != 0)
 case true=>rw [h0,cond_true] at h;rw [h] at h0;cases h0
 rw [h0,cond_false] at h;have hv:=aMx (l:=l) (by rw [wW];exact bne_eq_false_iff_eq.1 h0);refine⟨hv,?_⟩;have lp:∀(n:Nat) (v:Int),1<=v->tN (17 - v) < n->aG (iY l t) n v=0->∃leaf:Int,1<=leaf/\leaf<=16/\t=BT l leaf:=by
  intro n
  induction n with|zero=>intro _ _ h;exact absurd h (dX _)|succ n ih=>?_
  intro v h1 h2 h3;by_cases hv16:v<=16
  ·cases hs:aH7 (t.1,t.2) ((mV l v).1,(mV l v).2)
   case true=>have:=aTx hs;exact⟨v,h1,hv16,by rw [←aH9 l hv.1 h1];exact this⟩
   have e:iY l t v=.inl (v+1):=by
    simp only [iY];rw [bX hv16,cond_true,hs,cond_false]
   rw [aK e] at h3;exact ih _ oM oM h3
  ·have e:iY l t v=.inr 1:=by
    simp only [iY];rw [cA hv16,cond_false]
   rw [aL e] at h3;exact absurd h3 (by decide)
 exact lp _ 1 (Int.le_refl _) oM h
structure NOK (fr m a k:Int) (x:NDE):Prop where
 c1:fr<=x.1
 c2:x.1 < x.2.1
 c3:x.2.1<=fr+m
 c4:(x.2.2.1=-1/\x.2.2.2.1=-1)\/(a < x.2.2.1/\x.2.2.1 < a+k/\a < x.2.2.2.1/\x.2.2.2.1 < a+k)
theorem aX0 (l:jM)(leaf:Int)(n:Nat)(ns:ZL)(fr a:Int):1<=(GT l leaf (n+1) ns fr a).2.length:=by
 by_cases h0:(ns.length:Int)<=leaf
 ·rw [nN h0];simp
 ·rw [nO h0];simp
theorem aTy (l:jM) {leaf:Int} (hl:1<=leaf):∀(n:Nat) (ns:ZL) (fr a:Int),ns.length < n->1<=ns.length->∀x∈(GT l leaf n ns fr a).2,NOK fr ns.length a (GT l leaf n ns fr a).2.length x
 | 0,_,_,_,h,_=>absurd h (dX _)
 | n+1,ns,fr,a,h,h1=>by
  by_cases h0:(ns.length:Int)<=leaf
  ·rw [nN h0];intro x hx;rw [List.mem_singleton.1 hx];exact⟨Int.le_refl _,by unfold ndR;dsimp only;omega,by unfold ndR;exact Int.le_refl _,.inl ⟨rfl,rfl⟩⟩
  ·rw [nO h0];have hsl:=pL l (aI l ns) ns;obtain⟨n,rfl⟩:∃k,n=k+1:=⟨n - 1,by omega⟩;have g1:=aTy l hl (n+1) ((rA l (aI l ns) ns).take ((ns.length+1) / 2)) fr (a+1) (by rw [List.length_take,hsl];omega) (by rw [List.length_take,hsl];omega);have g2:=aTy l hl (n+1) ((rA l (aI l ns) ns).drop ((ns.length+1) / 2)) (fr+((ns.length+1) / 2:Nat)) (a+1+(GT l leaf (n+1) ((rA l (aI l ns) ns).take ((ns.length+1) / 2)) fr (a+1)).2.length) (by rw [List.length_drop,hsl];omega) (by rw [List.length_drop,hsl];omega);have k1:=aX0 l leaf n ((rA l (aI l ns) ns).take ((ns.length+1) / 2)) fr (a+1);have k2:=aX0 l leaf n ((rA l (aI l ns) ns).drop ((ns.length+1) / 2)) (fr+((ns.length+1) / 2:Nat)) (a+1+(GT l leaf (n+1) ((rA l (aI l ns) ns).take ((ns.length+1) / 2)) fr (a+1)).2.length);rw [List.length_take,hsl] at g1;rw [List.length_drop,hsl] at g2;generalize GT l leaf (n+1) ((rA l (aI l ns) ns).take ((ns.length+1) / 2)) fr (a+1)=A at g1 g2 k1 k2 ⊢;generalize GT l leaf (n+1) ((rA l (aI l ns) ns).drop ((ns.length+1) / 2)) (fr+((ns.length+1) / 2:Nat)) (a+1+A.2.length)=B at g2 k2 ⊢;intro x hx;simp only [List.length_cons,List.length_append,Int.natCast_add,Int.natCast_one];rcases List.mem_cons.1 hx with rfl | hx
   ·exact⟨Int.le_refl _,by unfold ndR;dsimp only;omega,by unfold ndR;exact Int.le_refl _,.inr ⟨by unfold ndR;dsimp only;omega,by unfold ndR;dsimp only;omega,by unfold ndR;dsimp only;omega,by unfold ndR;dsimp only;omega⟩⟩
   ·rcases List.mem_append.1 hx with hx | hx
    ·obtain⟨c1,c2,c3,c4⟩:=g1 x hx;exact⟨c1,c2,by omega,by rcases c4 with c4 | c4;exact .inl c4;exact .inr oM⟩
    ·obtain⟨c1,c2,c3,c4⟩:=g2 x hx;exact⟨by omega,c2,by omega,by rcases c4 with c4 | c4;exact .inl c4;exact .inr oM⟩
theorem bCy (l:jM) {leaf:Int} (hl:1<=leaf):∀x∈(BT l leaf).2,NOK 0 l.length 0 (BT l leaf).2.length x:=by
 unfold BT;by_cases h0:l.length=0
 ·rw [if_pos h0];intro x hx;cases hx
 ·rw [if_neg h0];have:=aTy l hl (l.length+1) (lU l.length) 0 0 (by rw [fL];omega) (by rw [fL];omega);rw [fL] at this;exact this
inductive TRE (N:List NDE):Nat->Nat->Int->Int->Int->Prop where
 | leaf {a:Nat} {f t:Int}:a < N.length->f < t->(N.getD a dF).1=f->(N.getD a dF).2.1=t->(N.getD a dF).2.2.1=-1->(N.getD a dF).2.2.2.1=-1->TRE N a 1 f t 1
 | node {a m1 m2:Nat} {f c t h1 h2:Int}:a < N.length->(N.getD a dF).1=f->(N.getD a dF).2.1=t->(N.getD a dF).2.2.1=((a+1:Nat):Int)->(N.getD a dF).2.2.2.1=((a+1+m1:Nat):Int)->TRE N (a+1) m1 f c h1->TRE N (a+1+m1) m2 c t h2->TRE N a (m1+m2+1) f t (1+bT h1 h2)
theorem bFa (a b:Int):a<=bT a b/\b<=bT a b/\(bT a b=a\/bT a b=b):=by unfold bT;split<;>omega
theorem iD {N:List NDE} {a m:Nat} {f t h:Int} (H:TRE N a m f t h):a+m<=N.length/\1<=m/\f < t/\1<=h/\h<=m/\(N.getD a dF).1=f/\(N.getD a dF).2.1=t:=by
 induction H with
 | leaf h1 h2 h3 h4 _ _=>exact⟨by omega,Nat.le_refl _,h2,Int.le_refl _,Int.le_refl _,h3,h4⟩
 | node g1 g2 g3 g4 g5 _ _ i1 i2 =>
  rename_i h1 h2 _ _;have:=bFa h1 h2;exact⟨by omega,by omega,by omega,by omega,by omega,g2,g3⟩
theorem aQi {α:Type} [Inhabited α] {x y:List α} {j:Nat} (h:j < x.length):(x++y).getD j dF=x.getD j dF:=by
 rw [gS,gS,List.getElem?_append_left h]
theorem aQj {α:Type} [Inhabited α] {x y:List α} {j:Nat}:(x++y).getD (x.length+j) dF=y.getD j dF:=by
 rw [gS,gS,List.getElem?_append_right oM,Nat.add_sub_cancel_left]
theorem aM3 (l:jM) {leaf:Int} (hl:1<=leaf):∀(n:Nat) (ns:ZL) (fr:Int) (a:Nat) (N:List NDE),ns.length < n->1<=ns.length->a+(GT l leaf n ns fr a).2.length<=N.length ->
 (∀j,j < (GT l leaf n ns fr a).2.length->N.getD (a+j) dF=(GT l leaf n ns fr a).2.getD j dF)->∃h,TRE N a (GT l leaf n ns fr a).2.length fr (fr+ns.length) h
 | 0,_,_,_,_,h,_=>absurd h (dX _)
 | n+1,ns,fr,a,N,h,h1=>by
  by_cases h0:(ns.length:Int)<=leaf
  ·rw [nN h0];intro g1 g2;have e:=g2 0 (by simp);rw [Nat.add_zero] at e;have e':N.getD a dF=ndR l ns fr (-1) (-1):=e;exact⟨1,TRE.leaf (by simp only [List.length_singleton] at g1;omega) oM (by rw [e'];rfl) (by rw [e'];rfl) (by rw [e'];rfl) (by rw [e'];rfl)⟩
  ·rw [nO h0];have hsl:=pL l (aI l ns) ns;have ea:((a:Nat):Int)+1=((a+1:Nat):Int):=by omega
   rw [ea];have c1:=aM3 l hl n ((rA l (aI l ns) ns).take ((ns.length+1) / 2)) fr (a+1) N (by rw [List.length_take,hsl];omega) (by rw [List.length_take,hsl];omega);have c2:=aM3 l hl n ((rA l (aI l ns) ns).drop ((ns.length+1) / 2)) (fr+((ns.length+1) / 2:Nat)) (a+1+(GT l leaf n ((rA l (aI l ns) ns).take ((ns.length+1) / 2)) fr ((a+1:Nat):Int)).2.length) N (by rw [List.length_drop,hsl];omega) (by rw [List.length_drop,hsl];omega);rw [List.length_take,hsl] at c1;rw [List.length_drop,hsl] at c2;rw [show(((a+1:Nat):Int)+(((GT l leaf n ((rA l (aI l ns) ns).take ((ns.length+1) / 2)) fr ((a+1:Nat):Int)).2.length:Nat):Int))=((a+1+(GT l leaf n ((rA l (aI l ns) ns).take ((ns.length+1) / 2)) fr ((a+1:Nat):Int)).2.length:Nat):Int) by omega];generalize GT l leaf n ((rA l (aI l ns) ns).take ((ns.length+1) / 2)) fr ((a+1:Nat):Int)=A at c1 c2 ⊢;generalize GT l leaf n ((rA l (aI l ns) ns).drop ((ns.length+1) / 2)) (fr+((ns.length+1) / 2:Nat)) ((a+1+A.2.length:Nat):Int)=B at c2 ⊢;intro g1 g2;simp only [List.length_cons,List.length_append] at g1 g2 ⊢;have e':N.getD a dF=ndR l ns fr ((a+1:Nat):Int) ((a+1+A.2.length:Nat):Int):=g2 0 oM;obtain⟨x1,d1⟩:=c1 oM (fun j hj=>by
    have:=g2 (j+1) oM;rw [List.getD_cons_succ,aQi hj] at this;rw [←this];congr 1;omega)
   obtain⟨x2,d2⟩:=c2 oM (fun j hj=>by
    have:=g2 (A.2.length+j+1) oM;rw [List.getD_cons_succ,aQj] at this;rw [←this];congr 1;omega)
   rw [show fr+((min ((ns.length+1) / 2) ns.length:Nat):Int)=fr+(((ns.length+1) / 2:Nat):Int) by omega] at d1;rw [show fr+(((ns.length+1) / 2:Nat):Int)+((ns.length - (ns.length+1) / 2:Nat):Int)=fr+(ns.length:Int) by omega] at d2;exact⟨_,TRE.node oM (by rw [e'];rfl) (by rw [e'];rfl) (by rw [e'];rfl) (by rw [e'];rfl) d1 d2⟩
theorem aIb (l:jM) {leaf:Int} (hl:1<=leaf):(l.length=0/\BT l leaf=([],[]))\/∃h,TRE (BT l leaf).2 0 (BT l leaf).2.length 0 l.length h:=by
 unfold BT;by_cases h0:l.length=0
 ·rw [if_pos h0];exact .inl ⟨h0,rfl⟩
 ·rw [if_neg h0];have:=aM3 l hl (l.length+1) (lU l.length) 0 0 (GT l leaf (l.length+1) (lU l.length) 0 ((0:Nat):Int)).2 (by rw [fL];omega) (by rw [fL];omega) oM (fun j _=>by rw [Nat.zero_add]);rw [fL,Int.zero_add] at this;exact .inr this
structure PVIS (i:Int) (t:TR) (far pan:ZL):Prop where
 e0:0<=i
 e1:t.1.length<=1048576
 e2:t.2.length<=1048576
 e3:∃(m:Nat) (f u h:Int),TRE t.2 (tN i) m f u h/\0<=f/\u<=t.1.length/\far.length<=f/\pan.length<=f
theorem aIc {i:Int} {t:TR} {far pan:ZL} (h:PVIS i t far pan):i < t.2.length/\far.length<=t.1.length/\pan.length<=t.1.length/\0<=(t.2.getD (tN i) dF).1/\(t.2.getD (tN i) dF).1 < (t.2.getD (tN i) dF).2.1/\(t.2.getD (tN i) dF).2.1<=t.1.length:=by
 obtain⟨e0,e1,e2,m,f,u,hh,e3,e4,e5,e6,e7⟩:=h;have:=iD e3;omega
theorem aEc {N:List NDE} {a m:Nat} {f u h:Int} (H:TRE N a m f u h):(m=1/\h=1/\(N.getD a dF).2.2.1=-1/\(N.getD a dF).2.2.2.1=-1) \/
 ∃(m1 m2:Nat) (c h1 h2:Int),m=m1+m2+1/\(N.getD a dF).2.2.1=((a+1:Nat):Int)/\(N.getD a dF).2.2.2.1=((a+1+m1:Nat):Int)/\TRE N (a+1) m1 f c h1/\TRE N (a+1+m1) m2 c u h2/\h=1+bT h1 h2:=by
 cases H with
 | leaf h1 h2 h3 h4 h5 h6=>exact .inl ⟨rfl,rfl,h5,h6⟩
 | node g1 g2 g3 g4 g5 b1 b2=>exact .inr ⟨_,_,_,_,_,rfl,g4,g5,b1,b2,rfl⟩
theorem aTz {i:Int} {t:TR} {far pan:ZL} (h:PVIS i t far pan)(hk:¬(t.2.getD (tN i) dF).2.2.1 < 0):PVIS (t.2.getD (tN i) dF).2.2.1 t far pan/\t.2.length - tN (t.2.getD (tN i) dF).2.2.1 < t.2.length - tN i/\t.2.length - tN (t.2.getD (tN i) dF).2.2.2.1 < t.2.length - tN i:=by
 obtain⟨e0,e1,e2,m,f,u,hh,e3,e4,e5,e6,e7⟩:=h;have hb:=iD e3;rcases aEc e3 with⟨_,_,h5,_⟩ | ⟨m1,m2,c,h1,h2,e8,g4,g5,b1,b2,e9⟩
 ·omega
 ·have l1:=iD b1;have l2:=iD b2;refine⟨⟨by omega,e1,e2,m1,f,c,h1,?_,e4,by omega,e6,e7⟩,by omega,by omega⟩;rw [g4,iB];exact b1
def F49 (a0:Zt):Bool := (bif (F23 a0.1 (-256) 256)then(bif (F23 a0.2.1 (-256) 256)then(F23 a0.2.2 (-256) 256)else false)else false)
theorem C49 (a0:Zt):Con Tryz.prog 49 [(.a (k3 a0))] [] (.v (.bool (F49 a0))) []:=by
 refine cS Tryz.func49 fun cx hcx=>?_
 let t0:SL:=[.c [] (C23 a0.1 (-256) 256)];rw [F49];cases h0:(F23 a0.1 (-256) 256)
 case true=>
  let t1:SL:=t0++[.d h0,.c [] (C23 a0.2.1 (-256) 256)];cases h1:(F23 a0.2.1 (-256) 256)
  case true=>exact rT (t1++[.d h1,.c [] (C23 a0.2.2 (-256) 256)]) hcx
  exact rT (t1++[.d h1]) hcx
 exact rT (t0++[.d h0]) hcx
def F27 (a0 a1:Zt):Zt := ((W (a0.1 - a1.1)),(W (a0.2.1 - a1.2.1)),(W (a0.2.2 - a1.2.2)))
theorem C27 (a0 a1:Zt):Con Tryz.prog 27 [(.a (k3 a0)),(.a (k3 a1))] [] (.a (k3 (F27 a0 a1))) []:=by
 refine cS Tryz.func27 fun cx hcx=>?_
 exact rT [] hcx
def F90 (a0:Zt):Int := (W ((W ((W (a0.1*a0.1))+(W (a0.2.1*a0.2.1))))+(W (a0.2.2*a0.2.2))))
theorem C90 (a0:Zt):Con Tryz.prog 90 [(.a (k3 a0))] [] (iv (F90 a0)) []:=by
 refine cS Tryz.func90 fun cx hcx=>?_
 exact rT [] hcx
def tS (a0:Int)(a1:ZL×cV)(a2:Zt)(a3:Int)(a4 a5:ZL):=(F27 a2 (a1.2.getD (tN a0) dF).2.2.2.2.1)
def qZ (rr:(Int)->(ZL×cV)->Zt->(Int)->ZL->ZL->ZL×ZL)(a0:Int)(a1:ZL×cV)(a2:Zt)(a3:Int)(a4 a5:ZL):=(rr (a1.2.getD (tN a0) dF).2.2.1 (a1.1,a1.2) a2 a3 a4 a5)
def aEd (rr:(Int)->(ZL×cV)->Zt->(Int)->ZL->ZL->ZL×ZL)(a0:Int)(a1:ZL×cV)(a2:Zt)(a3:Int)(a4 a5:ZL):=(rr (a1.2.getD (tN a0) dF).2.2.2.1 (a1.1,a1.2) a2 a3 (qZ (rr) a0 a1 a2 a3 a4 a5).1 (qZ (rr) a0 a1 a2 a3 a4 a5).2)
def qB:Nat->(Int)->(ZL×cV)->Zt->(Int)->ZL->ZL->ZL×ZL | 0,_,_,_,_,_,_=>dF | nr+1,a0,a1,a2,a3,a4,a5 => (bif (decide (((W ((W ((a1.2.getD (tN a0) dF).2.2.2.2.2*a3))*a3)):Int)<=(F90 (tS a0 a1 a2 a3 a4 a5))))then(bif (decide (((a1.2.getD (tN a0) dF).2.2.2.2.2:Int) < (F90 (tS a0 a1 a2 a3 a4 a5))))then((a4++[a0]),a5)else(bif (decide (((a1.2.getD (tN a0) dF).2.2.1:Int) < 0))then(a4,(a5++(Aw.part (a1.1) ((a1.2.getD (tN a0) dF).1) ((a1.2.getD (tN a0) dF).2.1))))else((aEd (qB nr) a0 a1 a2 a3 a4 a5).1,(aEd (qB nr) a0 a1 a2 a3 a4 a5).2)))else(bif (decide (((a1.2.getD (tN a0) dF).2.2.1:Int) < 0))then(a4,(a5++(Aw.part (a1.1) ((a1.2.getD (tN a0) dF).1) ((a1.2.getD (tN a0) dF).2.1))))else((aEd (qB nr) a0 a1 a2 a3 a4 a5).1,(aEd (qB nr) a0 a1 a2 a3 a4 a5).2)))
def F89 (a0:Int)(a1:ZL×cV)(a2:Zt)(a3:Int)(a4 a5:ZL):ZL×ZL:=qB ((a1.2.length - tN a0)+1) a0 a1 a2 a3 a4 a5
theorem aB0:∀(nr:Nat) (i:Int) (t:TR) (x:Zt) (sep:Int) (far pan:ZL) (m:Nat) (f u h:Int),TRE t.2 (tN i) m f u h->0<=i->0<=f->u<=t.1.length->far.length<=f->pan.length<=f->t.2.length - tN i < nr ->
 (qB nr i t x sep far pan).1.length<=u/\(qB nr i t x sep far pan).2.length<=u
 | 0,_,_,_,_,_,_,_,_,_,_,_,_,_,_,_,_,h=>absurd h (dX _)
 | nr+1,i,t,x,sep,far,pan,m,f,u,h,H,h0,hf,hu,g1,g2,hn=>by
  have hb:=iD H;simp only [qB];have hfar:(far++[i]).length<=u/\(pan.length:Int)<=u:=by rw [List.length_append,List.length_singleton];omega
  have hpan:((far.length:Int)<=u)/\((pan++Aw.part t.1 (t.2.getD (tN i) dF).1 (t.2.getD (tN i) dF).2.1).length:Int)<=u:=by
   rw [List.length_append,bD oM];omega
  have hrec:¬(t.2.getD (tN i) dF).2.2.1 < 0->((aEd (qB nr) i t x sep far pan).1.length:Int)<=u/\((aEd (qB nr) i t x sep far pan).2.length:Int)<=u:=by
   intro hk;rcases aEc H with⟨_,_,h5,_⟩ | ⟨m1,m2,c,h1,h2,e8,g4,g5,b1,b2,e9⟩
   ·omega
   ·have l1:=iD b1;have l2:=iD b2;have c1:=aB0 nr (t.2.getD (tN i) dF).2.2.1 t x sep far pan m1 f c h1 (by rw [g4,iB];exact b1) oM hf oM g1 g2 oM;exact aB0 nr (t.2.getD (tN i) dF).2.2.2.1 t x sep (qZ (qB nr) i t x sep far pan).1 (qZ (qB nr) i t x sep far pan).2 m2 c u h2 (by rw [g5,iB];exact b2) oM oM hu c1.1 c1.2 oM
  repeat' (rw [Bool.cond_eq_ite];split)
  all_goals first | exact hfar | exact hpan | (refine hrec ?_;rename_i hq;exact iF (eq_false_of_ne_true hq))
theorem aT0 {nr:Nat} {i:Int} {t:TR} {x:Zt} {sep:Int} {far pan:ZL} (h:PVIS i t far pan)(hlt:t.2.length - tN i < nr+1)(hk:¬(t.2.getD (tN i) dF).2.2.1 < 0) :
 PVIS (t.2.getD (tN i) dF).2.2.2.1 t (qZ (qB nr) i t x sep far pan).1 (qZ (qB nr) i t x sep far pan).2:=by
 obtain⟨e0,e1,e2,m,f,u,hh,e3,e4,e5,e6,e7⟩:=h;have hb:=iD e3;rcases aEc e3 with⟨_,_,h5,_⟩ | ⟨m1,m2,c,h1,h2,e8,g4,g5,b1,b2,e9⟩
 ·omega
 ·have l1:=iD b1;have l2:=iD b2;have c1:=aB0 nr (t.2.getD (tN i) dF).2.2.1 t x sep far pan m1 f c h1 (by rw [g4,iB];exact b1) oM e4 oM e6 e7 oM;exact⟨by omega,e1,e2,m2,c,u,h2,by rw [g5,iB];exact b2,by omega,e5,c1.1,c1.2⟩
theorem aT1 {nr:Nat} {i:Int} {t:TR} {far pan:ZL} (x:Zt)(sep:Int)(h:PVIS i t far pan)(hlt:t.2.length - tN i < nr+1)(hk:¬(t.2.getD (tN i) dF).2.2.1 < 0) :
 (t.2.length - tN (t.2.getD (tN i) dF).2.2.1 < nr/\t.2.length - tN (t.2.getD (tN i) dF).2.2.2.1 < nr)/\((qZ (qB nr) i t x sep far pan).1.length<=1048576/\(qZ (qB nr) i t x sep far pan).2.length<=1048576):=by
 have h1:=aTz h hk;have h2:=aT0 (x:=x) (sep:=sep) h hlt hk;have h3:=aIc h2;have h4:=h2.e1;omega
theorem bFb:∀(nr:Nat) (a0:Int) (a1:ZL×cV) (a2:Zt) (a3:Int) (a4 a5:ZL) (l1_1:a1.1.length<=2^63-1) (l1_2:a1.2.length<=2^63-1) (l4:a4.length<=2^63-1) (l5:a5.length<=2^63-1) (hp:PVIS a0 a1 a4 a5),(a1.2.length - tN a0) < nr->Con Tryz.prog 89 [(iv a0),(.p 0 0),(.p 3 0),(.p 4 0),(.p 5 0),(.p 7 0),(.p 9 0)] [(.live false false [(.s 1 0 a1.1.length 1),(.s 2 0 a1.2.length 8)]),(.live false true (flat c3 a1.1)),(.live false true (flat cR a1.2)),(.live false false (k3 a2)),(.live false false [(iv a3)]),(.live true false [(.s 6 0 a4.length 1)]),(.live true true (flat c3 a4)),(.live true false [(.s 8 0 a5.length 1)]),(.live true true (flat c3 a5)),(.live false false [(.f 89 [(.p 0 0),(.p 3 0),(.p 4 0),(.p 5 0),(.p 7 0),(.p 9 0)])])] (.t []) [(.live true true (flat c3 (qB nr a0 a1 a2 a3 a4 a5).1)),(.live true true (flat c3 (qB nr a0 a1 a2 a3 a4 a5).2))] [.un,.un,.un,.un,.un,(.live true false [(.s 10 0 (qB nr a0 a1 a2 a3 a4 a5).1.length 1)]),.dead,(.live true false [(.s 11 0 (qB nr a0 a1 a2 a3 a4 a5).2.length 1)]),.dead,.un]:=by
 intro nr
 induction nr with
 | zero=>intro a0 a1 a2 a3 a4 a5 l1_1 l1_2 l4 l5 hp hlt;exact absurd hlt (dX _)
 | succ nr ihr =>
 intro a0 a1 a2 a3 a4 a5 l1_1 l1_2 l4 l5 hp hlt;refine cS Tryz.func89 fun cx hcx=>?_
 have hpb:=aIc hp;have hp1:=hp.e0;have hp2:=hp.e1;have hL:=fun q=>(aTz hp q).1
 have hM:=fun q=>aT0 (x:=a2) (sep:=a3) hp hlt q
 have hN:=aT1 a2 a3 hp hlt;let t0:SL:=[.i a0 (a1.2.length),.L cC a1.2 a0 0 8,.c [] (C27 a2 (a1.2.getD (tN a0) dF).2.2.2.2.1),.c [] (C90 (tS a0 a1 a2 a3 a4 a5))];rw [qB];cases h0:(decide (((W ((W ((a1.2.getD (tN a0) dF).2.2.2.2.2*a3))*a3)):Int)<=(F90 (tS a0 a1 a2 a3 a4 a5))))
 case true=>
  let t1:SL:=t0++[.d h0];cases h1:(decide (((a1.2.getD (tN a0) dF).2.2.2.2.2:Int) < (F90 (tS a0 a1 a2 a3 a4 a5))))
  case true=>
   simp only [vF]
   try dsimp only [bN]
   try dsimp only
   rw [show flat c3 (a4++[a0])=(flat c3 a4++[(iv a0)]) from bQ]
   try rw [show List.length (α:=Int) (a4++[a0])=(a4.length+1) from by first | simp;done | omega]
   exact rtn (t1++[.d h1,.p (show((flat c3 a4).length=a4.length*1/\a4.length+1<=2 ^ 40/\(a4.length+1)*8<=2 ^ 47) from iS aF oM oM)]) [.mv 7 0] [5,6,7,8] [12,13] hcx oK
  let t2:SL:=t1++[.d h1];cases h2:(decide (((a1.2.getD (tN a0) dF).2.2.1:Int) < 0))
  case true=>
   simp only [vF]
   try dsimp only [bN]
   try dsimp only
   rw [show flat c3 (a5++(Aw.part (a1.1) ((a1.2.getD (tN a0) dF).1) ((a1.2.getD (tN a0) dF).2.1)))=((flat c3 a5)++(flat c3 (Aw.part (a1.1) ((a1.2.getD (tN a0) dF).1) ((a1.2.getD (tN a0) dF).2.1)))) from Eq.symm (by simp [flat])]
   try rw [show List.length (α:=Int) (a5++(Aw.part (a1.1) ((a1.2.getD (tN a0) dF).1) ((a1.2.getD (tN a0) dF).2.1)))=(a5.length+(tN (a1.2.getD (tN a0) dF).2.1 - tN (a1.2.getD (tN a0) dF).1)) from by first | simp;done | omega | (rw [List.length_append,bD oM];done)]
   exact rtn (t2++[.d h2,.S aF (a1.1) ((a1.2.getD (tN a0) dF).1) ((a1.2.getD (tN a0) dF).2.1) (a1.1.length),.p (show((flat c3 a5).length=a5.length*1/\(flat c3 (Aw.part (a1.1) ((a1.2.getD (tN a0) dF).1) ((a1.2.getD (tN a0) dF).2.1))).length=(tN (a1.2.getD (tN a0) dF).2.1 - tN (a1.2.getD (tN a0) dF).1)*1/\(flat c3 (Aw.part (a1.1) ((a1.2.getD (tN a0) dF).1) ((a1.2.getD (tN a0) dF).2.1))).all SV.one=true/\a5.length+(tN (a1.2.getD (tN a0) dF).2.1 - tN (a1.2.getD (tN a0) dF).1)<=2 ^ 40/\(a5.length+(tN (a1.2.getD (tN a0) dF).2.1 - tN (a1.2.getD (tN a0) dF).1))*8<=2 ^ 47) from by refine⟨?_,?_,?_,?_,?_⟩<;>first | omega | exact mT (fun _=>rfl) | (simp [dD aF];done) | (simp [dD aF];omega) | (rw [dD aF,bD oM];first | done | omega))]) [.mv 5 0] [5,6,7,8] [13,12] hcx oK
  have q2:=iF h2
  try dsimp only [bN]
  try dsimp only
  exact rtn (t2++[.d h2,.c [0,1,2,3,4,5,6,7,8,9] (ihr (a1.2.getD (tN a0) dF).2.2.1 (a1.1,a1.2) a2 a3 a4 a5 oM oM oM oM (by first | exact hL (by assumption) | exact hM (by assumption)) (by first | exact(hN (by assumption)).1.1 | exact(hN (by assumption)).1.2)),.c [0,1,2,3,4,5,11,7,12,9] (ihr (a1.2.getD (tN a0) dF).2.2.2.1 (a1.1,a1.2) a2 a3 (qZ (qB nr) a0 a1 a2 a3 a4 a5).1 (qZ (qB nr) a0 a1 a2 a3 a4 a5).2 oM oM oM oM (by first | exact hL (by assumption) | exact hM (by assumption)) (by first | exact(hN (by assumption)).1.1 | exact(hN (by assumption)).1.2))]) [] [5,6,7,8] [13,14] hcx oK
 let t1:SL:=t0++[.d h0];cases h1:(decide (((a1.2.getD (tN a0) dF).2.2.1:Int) < 0))
 case true=>
  simp only [vF]
  try dsimp only [bN]
  try dsimp only
  rw [show flat c3 (a5++(Aw.part (a1.1) ((a1.2.getD (tN a0) dF).1) ((a1.2.getD (tN a0) dF).2.1)))=((flat c3 a5)++(flat c3 (Aw.part (a1.1) ((a1.2.getD (tN a0) dF).1) ((a1.2.getD (tN a0) dF).2.1)))) from Eq.symm (by simp [flat])]
  try rw [show List.length (α:=Int) (a5++(Aw.part (a1.1) ((a1.2.getD (tN a0) dF).1) ((a1.2.getD (tN a0) dF).2.1)))=(a5.length+(tN (a1.2.getD (tN a0) dF).2.1 - tN (a1.2.getD (tN a0) dF).1)) from by first | simp;done | omega | (rw [List.length_append,bD oM];done)]
  exact rtn (t1++[.d h1,.S aF (a1.1) ((a1.2.getD (tN a0) dF).1) ((a1.2.getD (tN a0) dF).2.1) (a1.1.length),.p (show((flat c3 a5).length=a5.length*1/\(flat c3 (Aw.part (a1.1) ((a1.2.getD (tN a0) dF).1) ((a1.2.getD (tN a0) dF).2.1))).length=(tN (a1.2.getD (tN a0) dF).2.1 - tN (a1.2.getD (tN a0) dF).1)*1/\(flat c3 (Aw.part (a1.1) ((a1.2.getD (tN a0) dF).1) ((a1.2.getD (tN a0) dF).2.1))).all SV.one=true/\a5.length+(tN (a1.2.getD (tN a0) dF).2.1 - tN (a1.2.getD (tN a0) dF).1)<=2 ^ 40/\(a5.length+(tN (a1.2.getD (tN a0) dF).2.1 - tN (a1.2.getD (tN a0) dF).1))*8<=2 ^ 47) from by refine⟨?_,?_,?_,?_,?_⟩<;>first | omega | exact mT (fun _=>rfl) | (simp [dD aF];done) | (simp [dD aF];omega) | (rw [dD aF,bD oM];first | done | omega))]) [.mv 5 0] [5,6,7,8] [13,12] hcx oK
 have q1:=iF h1
 try dsimp only [bN]
 try dsimp only
 exact rtn (t1++[.d h1,.c [0,1,2,3,4,5,6,7,8,9] (ihr (a1.2.getD (tN a0) dF).2.2.1 (a1.1,a1.2) a2 a3 a4 a5 oM oM oM oM (by first | exact hL (by assumption) | exact hM (by assumption)) (by first | exact(hN (by assumption)).1.1 | exact(hN (by assumption)).1.2)),.c [0,1,2,3,4,5,11,7,12,9] (ihr (a1.2.getD (tN a0) dF).2.2.2.1 (a1.1,a1.2) a2 a3 (qZ (qB nr) a0 a1 a2 a3 a4 a5).1 (qZ (qB nr) a0 a1 a2 a3 a4 a5).2 oM oM oM oM (by first | exact hL (by assumption) | exact hM (by assumption)) (by first | exact(hN (by assumption)).1.1 | exact(hN (by assumption)).1.2))]) [] [5,6,7,8] [13,14] hcx oK
theorem C89 (a0:Int)(a1:ZL×cV)(a2:Zt)(a3:Int)(a4 a5:ZL)(l1_1:a1.1.length<=2^63-1)(l1_2:a1.2.length<=2^63-1)(l4:a4.length<=2^63-1)(l5:a5.length<=2^63-1)(hp:PVIS a0 a1 a4 a5):Con Tryz.prog 89 [(iv a0),(.p 0 0),(.p 3 0),(.p 4 0),(.p 5 0),(.p 7 0),(.p 9 0)] [(.live false false [(.s 1 0 a1.1.length 1),(.s 2 0 a1.2.length 8)]),(.live false true (flat c3 a1.1)),(.live false true (flat cR a1.2)),(.live false false (k3 a2)),(.live false false [(iv a3)]),(.live true false [(.s 6 0 a4.length 1)]),(.live true true (flat c3 a4)),(.live true false [(.s 8 0 a5.length 1)]),(.live true true (flat c3 a5)),(.live false false [(.f 89 [(.p 0 0),(.p 3 0),(.p 4 0),(.p 5 0),(.p 7 0),(.p 9 0)])])] (.t []) [(.live true true (flat c3 (F89 a0 a1 a2 a3 a4 a5).1)),(.live true true (flat c3 (F89 a0 a1 a2 a3 a4 a5).2))] [.un,.un,.un,.un,.un,(.live true false [(.s 10 0 (F89 a0 a1 a2 a3 a4 a5).1.length 1)]),.dead,(.live true false [(.s 11 0 (F89 a0 a1 a2 a3 a4 a5).2.length 1)]),.dead,.un]:=bFb ((a1.2.length - tN a0)+1) a0 a1 a2 a3 a4 a5 l1_1 l1_2 l4 l5 hp (lss _)
noncomputable def aId:=dY [1,1,1,0,1,0] [] (aV Tryz.f50)
def aO5 (a0:ZL×cV)(a1:Zt)(a2:Int)(v1c:List SV)(v1n:Nat)(v2c:List SV)(v2n:Nat):LS:=⟨gU 18 [(6,(.p 2 0)),(7,(.p 3 0)),(8,(.p 4 0))],[(.live false true (flat c3 a0.1)),(.live false true (flat cR a0.2)),(.live true false [(.s 5 0 v1n 1)]),(.live true false [(.s 6 0 v2n 1)]),(.live true false [(.f 89 [(.p 7 0),(.p 8 0),(.p 9 0),(.p 2 0),(.p 3 0),(.p 4 0)])]),(.live true true v1c),(.live true true v2c),(.live true false [(.s 0 0 a0.1.length 1),(.s 1 0 a0.2.length 8)]),(.live true false (k3 a1)),(.live true false [(iv a2)])]⟩
def tT (a0:ZL×cV)(a1:Zt)(a2:Int):ZL×ZL->ZL×ZL | (v1,v2) => ((F89 0 (a0.1,a0.2) a1 a2 v1 v2).1,(F89 0 (a0.1,a0.2) a1 a2 v1 v2).2)
theorem aZ2 (a0:ZL×cV)(a1:Zt)(a2:Int)(l0_1:a0.1.length<=2^63-1)(l0_2:a0.2.length<=2^63-1)(hp:0 < a0.2.length->PVIS 0 a0 [] []) {cx:Cx} (hcx:cx.base=2)(v1 v2:ZL):PVIS 0 a0 v1 v2->gG Tryz.f50 cx (.t [(.s 2 0 (tT a0 a1 a2 (v1,v2)).1.length 1),(.s 3 0 (tT a0 a1 a2 (v1,v2)).2.length 1)]) [(.live true true (flat c3 (tT a0 a1 a2 (v1,v2)).1)),(.live true true (flat c3 (tT a0 a1 a2 (v1,v2)).2))] [] (.c aId.1::aId.2) (aO5 a0 a1 a2 (flat c3 v1) v1.length (flat c3 v2) v2.length):=by
 intro hi;have hb:=aIc hi;have hb2:=hi.e1;exact rt [.c [7,0,1,8,9,2,5,3,6,4] (C89 0 (a0.1,a0.2) a1 a2 v1 v2 oM oM oM oM hi)] [] [10,11] hcx oK
def F50 (a0:ZL×cV)(a1:Zt)(a2:Int):ZL×ZL := (bif (decide (((a0.2.length:Int):Int) > 0))then(tT a0 a1 a2 (([]:ZL),([]:ZL)))else(([]:ZL),([]:ZL)))
theorem C50 (a0:ZL×cV)(a1:Zt)(a2:Int)(l0_1:a0.1.length<=2^63-1)(l0_2:a0.2.length<=2^63-1)(hp:0 < a0.2.length->PVIS 0 a0 [] []):Con Tryz.prog 50 [(.a [(.s 0 0 a0.1.length 1),(.s 1 0 a0.2.length 8)]),(.a (k3 a1)),(iv a2)] [(.live false true (flat c3 a0.1)),(.live false true (flat cR a0.2))] (.t [(.s 2 0 (F50 a0 a1 a2).1.length 1),(.s 3 0 (F50 a0 a1 a2).2.length 1)]) [(.live true true (flat c3 (F50 a0 a1 a2).1)),(.live true true (flat c3 (F50 a0 a1 a2).2))]:=by
 refine cS Tryz.func50 fun cx hcx=>?_
 rw [F50];cases h0:(decide (((a0.2.length:Int):Int) > 0))
 case true=>have q0:=eS h0;refine ga [.d h0,.z 4] [.cell 5 0 1,.cell 6 0 1] [6,7,8] [5,6,7,8,9,2,3,4] hcx aId.1 aId.2 (aO5 a0 a1 a2 (flat c3 ([]:ZL)) 0 (flat c3 ([]:ZL)) 0) oK ?_;exact aZ2 a0 a1 a2 l0_1 l0_2 hp hcx ([]:ZL) ([]:ZL) (hp oM)
 exact rt [.d h0] [.cell 5 0 1,.cell 6 0 1] [8,9] hcx oK
def yT (a0:bV)(a1:ZL×cV)(a2:Int):Int := (bif (((aA7 a0 (a1.1,a1.2)):Int) != 0)then(aA7 a0 (a1.1,a1.2))else(bif (!(F23 a2 1 16))then 1 else 0))
theorem bCz (a0:bV)(a1:ZL×cV)(a2:Int)(l0:a0.length<=2^63-1)(l1_1:a1.1.length<=2^63-1)(l1_2:a1.2.length<=2^63-1):Con Tryz.prog 48 [(.s 0 0 a0.length 10),(.a [(.s 1 0 a1.1.length 1),(.s 2 0 a1.2.length 8)]),(iv a2)] [(.live false true (flat dI a0)),(.live false true (flat c3 a1.1)),(.live false true (flat cR a1.2))] (iv (yT a0 a1 a2)) []:=by
 refine cS Tryz.func48 fun cx hcx=>?_
 let t0:SL:=[.c [0,1,2] (bCw a0 (a1.1,a1.2) oM oM oM)];rw [yT];cases h0:(((aA7 a0 (a1.1,a1.2)):Int) != 0)
 case true=>exact rT (t0++[.d h0]) hcx
 let t1:SL:=t0++[.d h0,.c [] (C23 a2 1 16)];cases h1:(!(F23 a2 1 16))
 case true=>exact rT (t1++[.d h1]) hcx
 exact rT (t1++[.d h1]) hcx
def aT2 (t:TR):Prop:=t.1.length<=1048576/\t.2.length<=1048576/\∀i:Nat,i < t.2.length->0<=(t.2.getD i dF).1/\(t.2.getD i dF).1 < (t.2.getD i dF).2.1/\(t.2.getD i dF).2.1<=t.1.length
theorem aO6 (l:jM)(hl:l.length<=96) {leaf:Int} (h1:1<=leaf):aT2 (BT l leaf):=by
 have hb:=rS l hl h1;refine⟨by omega,by omega,fun i hi=>?_⟩;have:=bCy l h1 _ (List.getElem_mem hi);rw [gS,List.getElem?_eq_getElem hi];simp only [Option.getD_some];obtain⟨c1,c2,c3,_⟩:=this;omega
theorem aT3 {l:jM} {t:TR} (h:mW l t=0):aT2 t:=by
 obtain⟨hv,leaf,h1,_,rfl⟩:=xC h;exact aO6 l hv.1 h1
theorem aT4 {l:jM} {t:TR} (h:mW l t=0)(h0:0 < t.2.length):PVIS 0 t [] []:=by
 obtain⟨hv,leaf,h1,_,rfl⟩:=xC h;have hb:=rS l hv.1 h1;have hl:=hv.1;rcases aIb l h1 with⟨_,e⟩ | ⟨hh,H⟩
 ·rw [e] at h0;exact absurd h0 (Nat.lt_irrefl _)
 ·exact⟨Int.le_refl _,by omega,by omega,_,_,_,_,H,Int.le_refl _,by omega,by simp,by simp⟩
noncomputable def vX:=aU [1,1,1,0,1] [] (aV Tryz.f60) []
def tU (a0:ZL×cV)(a1:Zt)(a2:Int)(v6c:List SV)(v6n:Nat)(v7c:List SV)(v7n:Nat)(v8 v9:Int):LS:=⟨gU 73 [(2,(iv a2)),(3,(.p 2 0)),(4,(.p 3 0)),(8,(.s 4 0 v6n 1)),(9,(.s 5 0 v7n 1)),(10,(iv v8)),(11,(iv v9))],[(.live false true (flat c3 a0.1)),(.live false true (flat cR a0.2)),(.live true false [(.s 0 0 a0.1.length 1),(.s 1 0 a0.2.length 8)]),(.live true false (k3 a1)),(.live true true v6c),(.live true true v7c)]⟩
def kK (a0:ZL×cV)(a1:Zt)(a2:Int):ZL×ZL×Int×Int->(ZL×ZL×Int×Int)⊕(ZL×ZL) | (v6,v7,v8,v9) => (bif (decide ((v9:Int) < (a0.2.length:Int)))then(bif (decide (((a0.2.getD (tN v9) dF).1:Int) < v8))then(.inl (v6,v7,v8,(v9+1)))else(bif (decide (((W ((W ((a0.2.getD (tN v9) dF).2.2.2.2.2*a2))*a2)):Int)<=(bP (bJ a1 (a0.2.getD (tN v9) dF).2.2.2.2.1))))then(bif (decide (((a0.2.getD (tN v9) dF).2.2.2.2.2:Int) < (bP (bJ a1 (a0.2.getD (tN v9) dF).2.2.2.2.1))))then(.inl ((v6++[v9]),v7,(a0.2.getD (tN v9) dF).2.1,(v9+1)))else(bif (decide (((a0.2.getD (tN v9) dF).2.2.1:Int) < 0))then(.inl (v6,(v7++(Aw.part (a0.1) ((a0.2.getD (tN v9) dF).1) ((a0.2.getD (tN v9) dF).2.1))),(a0.2.getD (tN v9) dF).2.1,(v9+1)))else(.inl (v6,v7,v8,(v9+1)))))else(bif (decide (((a0.2.getD (tN v9) dF).2.2.1:Int) < 0))then(.inl (v6,(v7++(Aw.part (a0.1) ((a0.2.getD (tN v9) dF).1) ((a0.2.getD (tN v9) dF).2.1))),(a0.2.getD (tN v9) dF).2.1,(v9+1)))else(.inl (v6,v7,v8,(v9+1))))))else(.inr (v6,v7)))
theorem bC0 (a0:ZL×cV)(a1:Zt)(a2:Int)(l0_1:a0.1.length<=2^63-1)(l0_2:a0.2.length<=2^63-1)(hk:aT2 a0) {cx:Cx} (hcx:cx.base=2):∀(n:Nat) (v6 v7:ZL) (v8 v9:Int),(0<=v9)/\(0<=v9)/\(v6.length<=v9)/\(v7.length<=v8)/\(v8<=a0.1.length)/\(v9<=a0.2.length)->tN ((a0.2.length:Int) - v9) < n->gG Tryz.f60 cx (.t [(.s 2 0 (aG (kK a0 a1 a2) n (v6,v7,v8,v9)).1.length 1),(.s 3 0 (aG (kK a0 a1 a2) n (v6,v7,v8,v9)).2.length 1)]) [(.live true true (flat c3 (aG (kK a0 a1 a2) n (v6,v7,v8,v9)).1)),(.live true true (flat c3 (aG (kK a0 a1 a2) n (v6,v7,v8,v9)).2))] [] (.l vX.1 n::vX.2) (tU a0 a1 a2 (flat c3 v6) v6.length (flat c3 v7) v7.length v8 v9):=by
 intro n
 induction n with|zero=>intro v6 v7 v8 v9 hi hn;exact absurd hn (dX _)|succ n ih=>?_
 intro v6 v7 v8 v9 hi hn;refine aN ?_;have hk1:=hk.1;have hk2:=hk.2.1;rw [aZ,kK];cases h0:(decide ((v9:Int) < (a0.2.length:Int)))
 case true=>
  have q0:=eS h0
  try have hk0:=hk.2.2 (tN v9) (by have _:=h0;omega)
  try have hpl:=bD (l:=a0.1) (a:=(a0.2.getD (tN v9) dF).1) (b:=(a0.2.getD (tN v9) dF).2.1) (by have _:=h0;omega)
  let t1:SL:=[.d h0,.i v9 (a0.2.length),.L cC a0.2 v9 0 8];cases h1:(decide (((a0.2.getD (tN v9) dF).1:Int) < v8))
  case true=>
   try have hk0:=hk.2.2 (tN v9) (by have _:=h0;omega)
   try have hpl:=bD (l:=a0.1) (a:=(a0.2.getD (tN v9) dF).1) (b:=(a0.2.getD (tN v9) dF).2.1) (by have _:=h0;omega)
   refine bA n (t1++[.d h1]) [2,3,4,8,9,10,11] [2,3,4,5] hcx vX (tU a0 a1 a2 (flat c3 v6) (v6.length) (flat c3 v7) (v7.length) v8 (W (v9+1))) ?_;have z0:(W (v9+1))=(v9+1):=aH oM oM;rw [z0];exact ih _ _ _ _ (by refine⟨?_,?_,?_,?_,?_,?_⟩<;>(try simp only [Ls])<;>first | omega | assumption | exact hi.2.1 | exact hi.2.2.1 | exact hi.2.2.2.1 | exact hi.2.2.2.2.1 | exact hi.2.2.2.2.2.1 | simp) oM
  have q1:=iF h1
  try have hk0:=hk.2.2 (tN v9) (by have _:=h0;omega)
  try have hpl:=bD (l:=a0.1) (a:=(a0.2.getD (tN v9) dF).1) (b:=(a0.2.getD (tN v9) dF).2.1) (by have _:=h0;omega)
  let t2:SL:=t1++[.d h1,.c [] (C34 a1 (a0.2.getD (tN v9) dF).2.2.2.2.1),.c [] (aP2 (bJ a1 (a0.2.getD (tN v9) dF).2.2.2.2.1))];cases h2:(decide (((W ((W ((a0.2.getD (tN v9) dF).2.2.2.2.2*a2))*a2)):Int)<=(bP (bJ a1 (a0.2.getD (tN v9) dF).2.2.2.2.1))))
  case true=>
   try have hk0:=hk.2.2 (tN v9) (by have _:=h0;omega)
   try have hpl:=bD (l:=a0.1) (a:=(a0.2.getD (tN v9) dF).1) (b:=(a0.2.getD (tN v9) dF).2.1) (by have _:=h0;omega)
   let t3:SL:=t2++[.d h2];cases h3:(decide (((a0.2.getD (tN v9) dF).2.2.2.2.2:Int) < (bP (bJ a1 (a0.2.getD (tN v9) dF).2.2.2.2.1))))
   case true=>
    try have hk0:=hk.2.2 (tN v9) (by have _:=h0;omega)
    try have hpl:=bD (l:=a0.1) (a:=(a0.2.getD (tN v9) dF).1) (b:=(a0.2.getD (tN v9) dF).2.1) (by have _:=h0;omega)
    refine bA n (t3++[.d h3,.p (show((flat c3 v6).length=v6.length*1/\v6.length+1<=2 ^ 40/\(v6.length+1)*8<=2 ^ 47) from iS aF oM oM)]) [2,3,4,8,9,10,11] [2,3,8,5] hcx vX (tU a0 a1 a2 (flat c3 v6++[(iv v9)]) (v6.length+1) (flat c3 v7) (v7.length) ((a0.2.getD (tN v9) dF).2.1) (W (v9+1))) ?_;have z0:(W (v9+1))=(v9+1):=aH oM oM;have z1:(flat c3 v6++[(iv v9)])=_:=(bQ (c:=c3) (l:=v6) (m:=[v9])).symm;have z2:(v6.length+1)=_:=jN v6 [v9] rfl;rw [z0,z1,z2];exact ih _ _ _ _ (by refine⟨?_,?_,?_,?_,?_,?_⟩<;>(try simp only [Ls])<;>first | omega | assumption | exact hi.2.1 | exact hi.2.2.1 | exact hi.2.2.2.1 | exact hi.2.2.2.2.1 | exact hi.2.2.2.2.2.1 | simp) oM
   try have hk0:=hk.2.2 (tN v9) (by have _:=h0;omega)
   try have hpl:=bD (l:=a0.1) (a:=(a0.2.getD (tN v9) dF).1) (b:=(a0.2.getD (tN v9) dF).2.1) (by have _:=h0;omega)
   let t4:SL:=t3++[.d h3];cases h4:(decide (((a0.2.getD (tN v9) dF).2.2.1:Int) < 0))
   case true=>
    try have hk0:=hk.2.2 (tN v9) (by have _:=h0;omega)
    try have hpl:=bD (l:=a0.1) (a:=(a0.2.getD (tN v9) dF).1) (b:=(a0.2.getD (tN v9) dF).2.1) (by have _:=h0;omega)
    refine bA n (t4++[.d h4,.S aF (a0.1) ((a0.2.getD (tN v9) dF).1) ((a0.2.getD (tN v9) dF).2.1) (a0.1.length),.p (show((flat c3 v7).length=v7.length*1/\(flat c3 (Aw.part (a0.1) ((a0.2.getD (tN v9) dF).1) ((a0.2.getD (tN v9) dF).2.1))).length=(tN (a0.2.getD (tN v9) dF).2.1 - tN (a0.2.getD (tN v9) dF).1)*1/\(flat c3 (Aw.part (a0.1) ((a0.2.getD (tN v9) dF).1) ((a0.2.getD (tN v9) dF).2.1))).all SV.one=true/\v7.length+(tN (a0.2.getD (tN v9) dF).2.1 - tN (a0.2.getD (tN v9) dF).1)<=2 ^ 40/\(v7.length+(tN (a0.2.getD (tN v9) dF).2.1 - tN (a0.2.getD (tN v9) dF).1))*8<=2 ^ 47) from by refine⟨?_,?_,?_,?_,?_⟩<;>first | omega | exact mT (fun _=>rfl) | (simp [dD aF];done) | (simp [dD aF];omega) | (rw [dD aF,bD oM];first | done | omega))]) [2,3,4,8,9,10,11] [2,3,4,8] hcx vX (tU a0 a1 a2 (flat c3 v6) (v6.length) ((flat c3 v7)++(flat c3 (Aw.part (a0.1) ((a0.2.getD (tN v9) dF).1) ((a0.2.getD (tN v9) dF).2.1)))) (v7.length+(tN (a0.2.getD (tN v9) dF).2.1 - tN (a0.2.getD (tN v9) dF).1)) ((a0.2.getD (tN v9) dF).2.1) (W (v9+1))) ?_;have z0:(W (v9+1))=(v9+1):=aH oM oM;have z1:((flat c3 v7)++(flat c3 (Aw.part (a0.1) ((a0.2.getD (tN v9) dF).1) ((a0.2.getD (tN v9) dF).2.1))))=flat c3 (v7++(Aw.part (a0.1) ((a0.2.getD (tN v9) dF).1) ((a0.2.getD (tN v9) dF).2.1))):=(by simp [flat]);have z2:(v7.length+(tN (a0.2.getD (tN v9) dF).2.1 - tN (a0.2.getD (tN v9) dF).1))=(v7++(Aw.part (a0.1) ((a0.2.getD (tN v9) dF).1) ((a0.2.getD (tN v9) dF).2.1))).length:=by first | (simp;done) | (rw [List.length_append];omega)
    rw [z0,z1,z2];exact ih _ _ _ _ (by refine⟨?_,?_,?_,?_,?_,?_⟩<;>(try simp only [Ls])<;>first | omega | assumption | exact hi.2.1 | exact hi.2.2.1 | exact hi.2.2.2.1 | exact hi.2.2.2.2.1 | exact hi.2.2.2.2.2.1 | simp) oM
   try have hk0:=hk.2.2 (tN v9) (by have _:=h0;omega)
   try have hpl:=bD (l:=a0.1) (a:=(a0.2.getD (tN v9) dF).1) (b:=(a0.2.getD (tN v9) dF).2.1) (by have _:=h0;omega)
   refine bA n (t4++[.d h4]) [2,3,4,8,9,10,11] [2,3,4,5] hcx vX (tU a0 a1 a2 (flat c3 v6) (v6.length) (flat c3 v7) (v7.length) v8 (W (v9+1))) ?_;have z0:(W (v9+1))=(v9+1):=aH oM oM;rw [z0];exact ih _ _ _ _ (by refine⟨?_,?_,?_,?_,?_,?_⟩<;>(try simp only [Ls])<;>first | omega | assumption | exact hi.2.1 | exact hi.2.2.1 | exact hi.2.2.2.1 | exact hi.2.2.2.2.1 | exact hi.2.2.2.2.2.1 | simp) oM
  try have hk0:=hk.2.2 (tN v9) (by have _:=h0;omega)
  try have hpl:=bD (l:=a0.1) (a:=(a0.2.getD (tN v9) dF).1) (b:=(a0.2.getD (tN v9) dF).2.1) (by have _:=h0;omega)
  let t3:SL:=t2++[.d h2];cases h3:(decide (((a0.2.getD (tN v9) dF).2.2.1:Int) < 0))
  case true=>
   try have hk0:=hk.2.2 (tN v9) (by have _:=h0;omega)
   try have hpl:=bD (l:=a0.1) (a:=(a0.2.getD (tN v9) dF).1) (b:=(a0.2.getD (tN v9) dF).2.1) (by have _:=h0;omega)
   refine bA n (t3++[.d h3,.S aF (a0.1) ((a0.2.getD (tN v9) dF).1) ((a0.2.getD (tN v9) dF).2.1) (a0.1.length),.p (show((flat c3 v7).length=v7.length*1/\(flat c3 (Aw.part (a0.1) ((a0.2.getD (tN v9) dF).1) ((a0.2.getD (tN v9) dF).2.1))).length=(tN (a0.2.getD (tN v9) dF).2.1 - tN (a0.2.getD (tN v9) dF).1)*1/\(flat c3 (Aw.part (a0.1) ((a0.2.getD (tN v9) dF).1) ((a0.2.getD (tN v9) dF).2.1))).all SV.one=true/\v7.length+(tN (a0.2.getD (tN v9) dF).2.1 - tN (a0.2.getD (tN v9) dF).1)<=2 ^ 40/\(v7.length+(tN (a0.2.getD (tN v9) dF).2.1 - tN (a0.2.getD (tN v9) dF).1))*8<=2 ^ 47) from by refine⟨?_,?_,?_,?_,?_⟩<;>first | omega | exact mT (fun _=>rfl) | (simp [dD aF];done) | (simp [dD aF];omega) | (rw [dD aF,bD oM];first | done | omega))]) [2,3,4,8,9,10,11] [2,3,4,8] hcx vX (tU a0 a1 a2 (flat c3 v6) (v6.length) ((flat c3 v7)++(flat c3 (Aw.part (a0.1) ((a0.2.getD (tN v9) dF).1) ((a0.2.getD (tN v9) dF).2.1)))) (v7.length+(tN (a0.2.getD (tN v9) dF).2.1 - tN (a0.2.getD (tN v9) dF).1)) ((a0.2.getD (tN v9) dF).2.1) (W (v9+1))) ?_;have z0:(W (v9+1))=(v9+1):=aH oM oM;have z1:((flat c3 v7)++(flat c3 (Aw.part (a0.1) ((a0.2.getD (tN v9) dF).1) ((a0.2.getD (tN v9) dF).2.1))))=flat c3 (v7++(Aw.part (a0.1) ((a0.2.getD (tN v9) dF).1) ((a0.2.getD (tN v9) dF).2.1))):=(by simp [flat]);have z2:(v7.length+(tN (a0.2.getD (tN v9) dF).2.1 - tN (a0.2.getD (tN v9) dF).1))=(v7++(Aw.part (a0.1) ((a0.2.getD (tN v9) dF).1) ((a0.2.getD (tN v9) dF).2.1))).length:=by first | (simp;done) | (rw [List.length_append];omega)
   rw [z0,z1,z2];exact ih _ _ _ _ (by refine⟨?_,?_,?_,?_,?_,?_⟩<;>(try simp only [Ls])<;>first | omega | assumption | exact hi.2.1 | exact hi.2.2.1 | exact hi.2.2.2.1 | exact hi.2.2.2.2.1 | exact hi.2.2.2.2.2.1 | simp) oM
  try have hk0:=hk.2.2 (tN v9) (by have _:=h0;omega)
  try have hpl:=bD (l:=a0.1) (a:=(a0.2.getD (tN v9) dF).1) (b:=(a0.2.getD (tN v9) dF).2.1) (by have _:=h0;omega)
  refine bA n (t3++[.d h3]) [2,3,4,8,9,10,11] [2,3,4,5] hcx vX (tU a0 a1 a2 (flat c3 v6) (v6.length) (flat c3 v7) (v7.length) v8 (W (v9+1))) ?_;have z0:(W (v9+1))=(v9+1):=aH oM oM;rw [z0];exact ih _ _ _ _ (by refine⟨?_,?_,?_,?_,?_,?_⟩<;>(try simp only [Ls])<;>first | omega | assumption | exact hi.2.1 | exact hi.2.2.1 | exact hi.2.2.2.1 | exact hi.2.2.2.2.1 | exact hi.2.2.2.2.2.1 | simp) oM
 exact rt [.d h0] [] [4,5] hcx oK
def F60 (a0:ZL×cV)(a1:Zt)(a2:Int):ZL×ZL := (aG (kK a0 a1 a2) (tN ((a0.2.length:Int) - 0)+1) (([]:ZL),([]:ZL),0,0))
theorem C60 (a0:ZL×cV)(a1:Zt)(a2:Int)(l0_1:a0.1.length<=2^63-1)(l0_2:a0.2.length<=2^63-1)(hk:aT2 a0):Con Tryz.prog 60 [(.a [(.s 0 0 a0.1.length 1),(.s 1 0 a0.2.length 8)]),(.a (k3 a1)),(iv a2)] [(.live false true (flat c3 a0.1)),(.live false true (flat cR a0.2))] (.t [(.s 2 0 (F60 a0 a1 a2).1.length 1),(.s 3 0 (F60 a0 a1 a2).2.length 1)]) [(.live true true (flat c3 (F60 a0 a1 a2).1)),(.live true true (flat c3 (F60 a0 a1 a2).2))]:=by
 refine cS Tryz.func60 fun cx hcx=>?_
 have hk1:=hk.1;have hk2:=hk.2.1;refine en [] [.slot 8 1,.slot 9 1] [2,3,4,8,9,10,11] [2,3,4,5] hcx vX.1 vX.2 (tU a0 a1 a2 (flat c3 ([]:ZL)) 0 (flat c3 ([]:ZL)) 0 0 0) (tN ((a0.2.length:Int) - 0)+1) oK ?_;exact bC0 a0 a1 a2 l0_1 l0_2 hk hcx (tN ((a0.2.length:Int) - 0)+1) ([]:ZL) ([]:ZL) 0 0 (by refine⟨?_,?_,?_,?_,?_,?_⟩<;>(try simp only [Ls])<;>first | omega | assumption | exact hi.2.1 | exact hi.2.2.1 | exact hi.2.2.2.1 | exact hi.2.2.2.2.1 | exact hi.2.2.2.2.2.1 | simp) oM
def F30 (a0 a1 a2:Int):Bool := (bif (decide ((a0:Int)≥a1))then(decide ((a0:Int)<=a2))else false)
theorem C30 (a0 a1 a2:Int):Con Tryz.prog 30 [(iv a0),(iv a1),(iv a2)] [] (.v (.bool (F30 a0 a1 a2))) []:=by
 refine cS Tryz.func30 fun cx hcx=>?_
 rw [F30];cases h0:(decide ((a0:Int)≥a1))
 case true=>exact rT [.d h0] hcx
 exact rT [.d h0] hcx
def aS (a0:bV)(a1:ZL×cV)(a2:Zt)(a3:Int):ZL×ZL×Int := (bif (((mW a0 (a1.1,a1.2)):Int) != 0)then(([]:ZL),([]:ZL),(mW a0 (a1.1,a1.2)))else(bif (!(zG a2 256))then(([]:ZL),([]:ZL),1)else(bif (!(F30 a3 1 16))then(([]:ZL),([]:ZL),1)else((F60 (a1.1,a1.2) a2 a3).1,(F60 (a1.1,a1.2) a2 a3).2,0))))
theorem bC1 (a0:bV)(a1:ZL×cV)(a2:Zt)(a3:Int)(l0:a0.length<=2^63-1)(l1_1:a1.1.length<=2^63-1)(l1_2:a1.2.length<=2^63-1):Con Tryz.prog 29 [(.s 0 0 a0.length 10),(.a [(.s 1 0 a1.1.length 1),(.s 2 0 a1.2.length 8)]),(.a (k3 a2)),(iv a3)] [(.live false true (flat dI a0)),(.live false true (flat c3 a1.1)),(.live false true (flat cR a1.2))] (.t [(.s 3 0 (aS a0 a1 a2 a3).1.length 1),(.s 4 0 (aS a0 a1 a2 a3).2.1.length 1),(iv (aS a0 a1 a2 a3).2.2)]) [(.live true true (flat c3 (aS a0 a1 a2 a3).1)),(.live true true (flat c3 (aS a0 a1 a2 a3).2.1))]:=by
 refine cS Tryz.func29 fun cx hcx=>?_
 let t0:SL:=[.c [0,1,2] (bCx a0 (a1.1,a1.2) oM oM oM)];rw [aS];cases h0:(((mW a0 (a1.1,a1.2)):Int) != 0)
 case true=>exact rt (t0++[.d h0]) [.slot 8 1,.slot 9 1] [5,6] hcx oK
 let t1:SL:=t0++[.d h0,.c [] (C59 a2 256)];cases h1:(!(zG a2 256))
 case true=>exact rt (t1++[.d h1]) [.slot 8 1,.slot 9 1] [5,6] hcx oK
 let t2:SL:=t1++[.d h1,.c [] (C30 a3 1 16)];cases h2:(!(F30 a3 1 16))
 case true=>exact rt (t2++[.d h2]) [.slot 8 1,.slot 9 1] [5,6] hcx oK
 exact rt (t2++[.d h2,.c [1,2] (C60 (a1.1,a1.2) a2 a3 oM oM (aT3 (bne_eq_false_iff_eq.1 (by assumption))))]) [] [5,6] hcx oK
def yU (t:TR)(x:Zt)(sep:Int)(a:Nat):Prop := W (W ((t.2.getD a dF).2.2.2.2.2*sep)*sep)<=F90 (F27 x (t.2.getD a dF).2.2.2.2.1)/\(t.2.getD a dF).2.2.2.2.2 < F90 (F27 x (t.2.getD a dF).2.2.2.2.1)
section
variable {t : TR} {x : Zt} {sep : Int} {a : Nat} {far pan : ZL} {d : Int}
theorem aO7 (ha:a < t.2.length)(hd:¬(t.2.getD a dF).1 < d)(h:yU t x sep a):kK t x sep (far,pan,d,(a:Int))=.inl (far++[(a:Int)],pan,(t.2.getD a dF).2.1,((a+1:Nat):Int)):=by
 simp only [kK,iB];rw [bX (show(a:Int) < (t.2.length:Int) by omega),cA hd,bX (show W (W ((t.2.getD a dF).2.2.2.2.2*sep)*sep)<=bP (bJ x (t.2.getD a dF).2.2.2.2.1) from h.1),bX (show(t.2.getD a dF).2.2.2.2.2 < bP (bJ x (t.2.getD a dF).2.2.2.2.1) from h.2)];rfl
theorem aT5 (ha:a < t.2.length)(hd:¬(t.2.getD a dF).1 < d)(h:¬yU t x sep a)(hl:(t.2.getD a dF).2.2.1 < 0):kK t x sep (far,pan,d,(a:Int))=.inl (far,pan++Aw.part t.1 (t.2.getD a dF).1 (t.2.getD a dF).2.1,(t.2.getD a dF).2.1,((a+1:Nat):Int)):=by
 simp only [kK,iB];rw [bX (show(a:Int) < (t.2.length:Int) by omega),cA hd,bX hl];unfold yU at h;by_cases h1:W (W ((t.2.getD a dF).2.2.2.2.2*sep)*sep)<=bP (bJ x (t.2.getD a dF).2.2.2.2.1)
 ·rw [bX h1,cA (show ¬((t.2.getD a dF).2.2.2.2.2 < bP (bJ x (t.2.getD a dF).2.2.2.2.1)) from fun h2=>h ⟨h1,h2⟩)];rfl
 ·rw [cA h1];rfl
theorem aT6 (ha:a < t.2.length)(hd:¬(t.2.getD a dF).1 < d)(h:¬yU t x sep a)(hl:¬(t.2.getD a dF).2.2.1 < 0):kK t x sep (far,pan,d,(a:Int))=.inl (far,pan,d,((a+1:Nat):Int)):=by
 simp only [kK,iB];rw [bX (show(a:Int) < (t.2.length:Int) by omega),cA hd,cA hl];unfold yU at h;by_cases h1:W (W ((t.2.getD a dF).2.2.2.2.2*sep)*sep)<=bP (bJ x (t.2.getD a dF).2.2.2.2.1)
 ·rw [bX h1,cA (show ¬((t.2.getD a dF).2.2.2.2.2 < bP (bJ x (t.2.getD a dF).2.2.2.2.1)) from fun h2=>h ⟨h1,h2⟩)];rfl
 ·rw [cA h1];rfl
theorem aT7 (ha:a < t.2.length)(hd:(t.2.getD a dF).1 < d):kK t x sep (far,pan,d,(a:Int))=.inl (far,pan,d,((a+1:Nat):Int)):=by
 simp only [kK,iB];rw [bX (show(a:Int) < (t.2.length:Int) by omega),bX hd];rfl
theorem aB1 {n:Nat} (h:yU t x sep a):qB (n+1) (a:Int) t x sep far pan=(far++[(a:Int)],pan):=by
 simp only [qB,iB];rw [bX (show W (W ((t.2.getD a dF).2.2.2.2.2*sep)*sep)<=F90 (tS (a:Int) t x sep far pan) from h.1),bX (show(t.2.getD a dF).2.2.2.2.2 < F90 (tS (a:Int) t x sep far pan) from h.2)];rfl
theorem aK4 {n:Nat} (h:¬yU t x sep a)(hl:(t.2.getD a dF).2.2.1 < 0):qB (n+1) (a:Int) t x sep far pan=(far,pan++Aw.part t.1 (t.2.getD a dF).1 (t.2.getD a dF).2.1):=by
 simp only [qB,iB];rw [bX hl];unfold yU at h;by_cases h1:W (W ((t.2.getD a dF).2.2.2.2.2*sep)*sep)<=F90 (tS (a:Int) t x sep far pan)
 ·rw [bX h1,cA (show ¬((t.2.getD a dF).2.2.2.2.2 < F90 (tS (a:Int) t x sep far pan)) from fun h2=>h ⟨h1,h2⟩)];rfl
 ·rw [cA h1];rfl
theorem aK5 {n:Nat} (h:¬yU t x sep a)(hl:¬(t.2.getD a dF).2.2.1 < 0):qB (n+1) (a:Int) t x sep far pan =
 qB n (t.2.getD a dF).2.2.2.1 t x sep (qB n (t.2.getD a dF).2.2.1 t x sep far pan).1 (qB n (t.2.getD a dF).2.2.1 t x sep far pan).2:=by
 simp only [qB,qZ,aEd,iB];rw [cA hl];unfold yU at h;by_cases h1:W (W ((t.2.getD a dF).2.2.2.2.2*sep)*sep)<=F90 (tS (a:Int) t x sep far pan)
 ·rw [bX h1,cA (show ¬((t.2.getD a dF).2.2.2.2.2 < F90 (tS (a:Int) t x sep far pan)) from fun h2=>h ⟨h1,h2⟩)];rfl
 ·rw [cA h1];rfl
end
theorem aK6 {N:List NDE} {a m:Nat} {f u h:Int} (H:TRE N a m f u h):∀j,a<=j->j < a+m->(N.getD j dF).1 < u:=by
 induction H with
 | @leaf a f u h1 h2 h3 h4 h5 h6=>intro j g1 g2;rw [show j=a by omega,h3];exact h2
 | @node a m1 m2 f c u h1 h2 g1 g2 g3 g4 g5 b1 b2 i1 i2 =>
  intro j k1 k2;have l1:=iD b1;have l2:=iD b2;by_cases e:j=a
  ·rw [e,g2];omega
  ·by_cases e2:j < a+1+m1
   ·have:=i1 j oM oM;omega
   ·exact i2 j oM oM
theorem aO8 {t:TR} {x:Zt} {sep:Int} {far pan:ZL} {u:Int}:∀(d a k:Nat),a+d<=t.2.length->(∀j,a<=j->j < a+d->(t.2.getD j dF).1 < u) ->
 aG (kK t x sep) (k+d) (far,pan,u,(a:Int))=aG (kK t x sep) k (far,pan,u,((a+d:Nat):Int))
 | 0,_,_,_,_=>rfl
 | d+1,a,k,h,h2=>by
  rw [show k+(d+1)=k+d+1 by omega,aK (aT7 oM (h2 a (Nat.le_refl _) oM)),aO8 d (a+1) k oM (fun j g1 g2=>h2 j oM oM),show a+1+d=a+(d+1) by omega]
theorem aZ3 {t:TR} {x:Zt} {sep:Int} {a m:Nat} {f u h:Int} (H:TRE t.2 a m f u h):∀(n k:Nat) (far pan:ZL),t.2.length - a < n ->
 aG (kK t x sep) (k+m) (far,pan,f,(a:Int))=aG (kK t x sep) k ((qB n (a:Int) t x sep far pan).1,(qB n (a:Int) t x sep far pan).2,u,((a+m:Nat):Int)):=by
 induction H with
 | @leaf a f u h1 h2 h3 h4 h5 h6 =>
  intro n k far pan hn;obtain⟨n,rfl⟩:∃q,n=q+1:=⟨n - 1,by omega⟩;by_cases hq:yU t x sep a
  ·rw [aB1 hq,aK (aO7 h1 oM hq),h4]
  ·rw [aK4 hq oM,aK (aT5 h1 oM hq oM),h4]
 | @node a m1 m2 f c u h1 h2 g1 g2 g3 g4 g5 b1 b2 i1 i2 =>
  intro n k far pan hn;obtain⟨n,rfl⟩:∃q,n=q+1:=⟨n - 1,by omega⟩;have l1:=iD b1;have l2:=iD b2;by_cases hq:yU t x sep a
  ·rw [aB1 hq,show k+(m1+m2+1)=k+(m1+m2)+1 by omega,aK (aO7 g1 oM hq),g3,aO8 (m1+m2) (a+1) k oM (fun j k1 k2=>by
    by_cases e2:j < a+1+m1
    ·have:=aK6 b1 j oM oM;omega
    ·exact aK6 b2 j oM oM),show a+1+(m1+m2)=a+(m1+m2+1) by omega]
  ·rw [aK5 hq oM,show k+(m1+m2+1)=k+m2+m1+1 by omega,aK (aT6 g1 oM hq oM),g4,g5,i1 n (k+m2) far pan oM,i2 n k _ _ oM,show a+1+m1+m2=a+(m1+m2+1) by omega]
theorem aZ4 {l:jM} {t:TR} (x:Zt)(sep:Int)(h:mW l t=0):F50 t x sep=F60 t x sep:=by
 obtain⟨hv,leaf,h1,_,rfl⟩:=xC h;rcases aIb l h1 with⟨_,e⟩ | ⟨hh,H⟩
 ·rw [e];rfl
 ·have hw:=iD H
  revert H hw
  generalize BT l leaf=t;intro H hw;unfold F50 F60;rw [bX (show(t.2.length:Int) > 0 by omega),cond_true];simp only [tT,F89];have e:=aZ3 (x:=x) (sep:=sep) H (t.2.length - tN 0+1) 1 [] [] (by simp);rw [show tN ((t.2.length:Int) - 0)+1=1+t.2.length by omega];have e2:aG (kK t x sep) (1+t.2.length) (([]:ZL),([]:ZL),0,0)=_:=e;rw [e2];rw [aL (n:=0) (x:=((qB (t.2.length - tN 0+1) ((0:Nat):Int) t x sep [] []).1,(qB (t.2.length - tN 0+1) ((0:Nat):Int) t x sep [] []).2)) (by
   simp only [kK];rw [cA (show ¬(((0+t.2.length:Nat):Int) < (t.2.length:Int)) by omega),cond_false])]
  rfl
end Go.Proofs.YtlffahoikfahlaaGreat
namespace Go.Proofs.YtlffahoikfahlaaGreat
open Go.Proofs Go.Aw Go.RowKit
set_option maxRecDepth 100000
theorem aX1 {l:jM} {t:TR} {sep:Int} (h:((yT l t sep:Int) != 0)=false):mW l t=0:=by
 have h:=bne_eq_false_iff_eq.1 h;unfold yT at h;rw [←aK3];cases h0:((aA7 l (t.1,t.2):Int) != 0)
 case true=>rw [h0,cond_true] at h;exact h
 exact bne_eq_false_iff_eq.1 h0
def aP (a0:bV)(a1:ZL×cV)(a2:Zt)(a3:Int):ZL×ZL×Int := (bif (((yT a0 (a1.1,a1.2) a3):Int) != 0)then(([]:ZL),([]:ZL),(yT a0 (a1.1,a1.2) a3))else(bif (!(F49 a2))then(([]:ZL),([]:ZL),1)else((F50 (a1.1,a1.2) a2 a3).1,(F50 (a1.1,a1.2) a2 a3).2,0)))
theorem bC2 (a0:bV)(a1:ZL×cV)(a2:Zt)(a3:Int)(l0:a0.length<=2^63-1)(l1_1:a1.1.length<=2^63-1)(l1_2:a1.2.length<=2^63-1):Con Tryz.prog 22 [(.s 0 0 a0.length 10),(.a [(.s 1 0 a1.1.length 1),(.s 2 0 a1.2.length 8)]),(.a (k3 a2)),(iv a3)] [(.live false true (flat dI a0)),(.live false true (flat c3 a1.1)),(.live false true (flat cR a1.2))] (.t [(.s 3 0 (aP a0 a1 a2 a3).1.length 1),(.s 4 0 (aP a0 a1 a2 a3).2.1.length 1),(iv (aP a0 a1 a2 a3).2.2)]) [(.live true true (flat c3 (aP a0 a1 a2 a3).1)),(.live true true (flat c3 (aP a0 a1 a2 a3).2.1))]:=by
 refine cS Tryz.func22 fun cx hcx=>?_
 let t0:SL:=[.c [0,1,2] (bCz a0 (a1.1,a1.2) a3 oM oM oM)];rw [aP];cases h0:(((yT a0 (a1.1,a1.2) a3):Int) != 0)
 case true=>exact rt (t0++[.d h0]) [.slot 8 1,.slot 9 1] [5,6] hcx oK
 let t1:SL:=t0++[.d h0,.c [] (C49 a2)];cases h1:(!(F49 a2))
 case true=>exact rt (t1++[.d h1]) [.slot 8 1,.slot 9 1] [5,6] hcx oK
 exact rt (t1++[.d h1,.c [1,2] (C50 (a1.1,a1.2) a2 a3 oM oM (fun q=>aT4 (aX1 (by assumption)) q))]) [] [5,6] hcx oK
def aGj:Go.Shelf.Ren:=⟨fun | 134=>203 | 129=>191 | n=>n,fun | 53=>128 | 3=>3 | 4=>4 | 46=>122 | 5=>5 | 9=>9 | n=>n,fun | n=>n⟩
theorem bC3:Go.Proofs.Lays.n134 Tryz.prog aGj:={
 mixed:=by kernel_rfl
 f129:=Tryz.func191.trans (congrArg some oK)
 f134:=Tryz.func203.trans (congrArg some oK)
 t3:=Tryz.underlying3
 a3:=Tryz.isAgg3
 z3:=Tryz.sizeOf3
 v3:=Tryz.zeroValue3
 t4:=Tryz.underlying4
 a4:=Tryz.isAgg4
 z4:=Tryz.sizeOf4
 v4:=Tryz.zeroValue4
 t5:=Tryz.underlying5
 a5:=Tryz.isAgg5
 z5:=Tryz.sizeOf5
 v5:=Tryz.zeroValue5
 t9:=Tryz.underlying9
 a9:=Tryz.isAgg9
 z9:=Tryz.sizeOf9
 v9:=Tryz.zeroValue9
 t46:=Tryz.underlying122
 a46:=Tryz.isAgg122
 z46:=Tryz.sizeOf122
 v46:=Tryz.zeroValue122
 t53:=Tryz.underlying128
 a53:=Tryz.isAgg128
 z53:=Tryz.sizeOf128
 v53:=Tryz.zeroValue128 }
def cG (n:Int):Int:=64 - ((Lib.bitLen n.toNat:Nat):Int)
theorem bFc (a0:Int)(hn:0<=a0/\a0<=18446744073709551615):Con Tryz.prog 203 [.v (.int .u64 a0)] [] (iv (cG a0)) []:=by
 refine⟨ent Tryz.func203 oK rfl,fun ρ W vs hr hb hpl hap hfz=>?_⟩
 match vs,hr with
 | [],hr=>simp [Rels] at hr
 | _::_::_,hr=>simp [Rels] at hr
 | [v1],hr =>
 simp only [Rels,and_true,Rel] at hr;subst hr;have h:=Any.bits_LeadingZeros64 (ρ:=aGj) bC3 a0 W hn.1 hn.2;refine h.mono fun e w' ⟨he,hw⟩=>?_
 subst hw;have un1:∀m j,fQ m ([]:List BK) [] j=.un:=fun m j=>by unfold fQ;simp
 exact⟨ρ,_,he,fun _ _=>rfl,by simp only [iv,Rel];rfl,Kept.refl _ _,fun j=>by rw [un1];trivial,fun j=>by rw [un1];trivial,fun i j b n b' n' _ o1=>by rw [un1] at o1;exact o1.elim,ρ.le_refl,fun b o hb=>⟨(hfz b o hb).1,fun j m o1=>by rw [un1] at o1;exact o1.elim,.inl hb⟩⟩
structure DvP (hi lo y:Int):Prop where
 hy:0 < y/\y < 9223372036854775808
 hh:0<=hi/\hi < y
 hl:0<=lo/\lo < 18446744073709551616
theorem aQk (n:Int):0<=iW .u64 n/\iW .u64 n < 18446744073709551616:=by rw [pI];omega
theorem nP {n:Int} (h:0<=n/\n < 18446744073709551616):iW .u64 n=n:=by rw [pI];omega
theorem aT8 {u y:Int} (hy:1<=y/\y < 4294967296)(hu:0<=u/\u < 18446744073709551616):iW .u64 (tD u y)=u / y/\iW .u64 (u - (iW .u64 ((iW .u64 (tD u y))*y)))=u - u / y*y/\0<=u - u / y*y/\u - u / y*y < y:=by
 have h1:=Int.mul_ediv_add_emod u y;have h2:=Int.emod_nonneg u (show y≠0 by omega);have h3:=Int.emod_lt_of_pos u (show 0 < y by omega);have h4:0<=u / y:=Int.ediv_nonneg hu.1 oM;have h5:u / y<=u:=Int.ediv_le_self _ hu.1;have hc:y*(u / y)=u / y*y:=Int.mul_comm _ _;have h6:0<=u / y*y:=Int.mul_nonneg h4 oM;have e1:iW .u64 (tD u y)=u / y:=by rw [Int.tdiv_eq_ediv_of_nonneg hu.1,nP oM]
 refine⟨e1,?_,by omega,by omega⟩;rw [e1,nP (n:=u / y*y) oM,nP oM]
theorem aX2 {u y:Int} (hy:1<=y/\y < 4294967296)(hu:0<=u/\u < 18446744073709551616):0<=iW .u64 (u - (iW .u64 ((iW .u64 (tD u y))*y)))/\iW .u64 (u - (iW .u64 ((iW .u64 (tD u y))*y))) < 4294967296:=by
 obtain⟨_,e,h1,h2⟩:=aT8 hy hu;rw [e];omega
theorem bC4 {y:Int} (h:0 < y/\y < 9223372036854775808):∃k:Nat,cG y=((k:Nat):Int)/\1<=k/\k<=63/\9223372036854775808<=y*2 ^ k/\y*2 ^ k < 18446744073709551616:=by
 obtain⟨n,rfl⟩:∃n:Nat,y=(n:Int):=⟨y.toNat,by omega⟩;have hb:=Lib.bitLenAux_bounds 64 n oM oM;have hl:=Lib.bitLen_le n 63 oM oM;unfold cG;simp only [iB];change 1<=Lib.bitLen n/\2 ^ (Lib.bitLen n - 1)<=n/\n < 2 ^ Lib.bitLen n at hb;obtain⟨b1,b2,b3⟩:=hb;generalize Lib.bitLen n=b at *;refine⟨64 - b,by omega,by omega,by omega,?_,?_⟩
 ·have e:(2:Nat) ^ (b - 1)*2 ^ (64 - b)=9223372036854775808:=by
   rw [←Nat.pow_add,show b - 1+(64 - b)=63 by omega]
  have h1:(2:Nat) ^ (b - 1)*2 ^ (64 - b)<=n*2 ^ (64 - b):=Nat.mul_le_mul_right _ b2;have h2:(n:Int)*2 ^ (64 - b)=((n*2 ^ (64 - b):Nat):Int):=by push_cast;rfl
  rw [h2];omega
 ·have e:(2:Nat) ^ b*2 ^ (64 - b)=18446744073709551616:=by
   rw [←Nat.pow_add,show b+(64 - b)=64 by omega]
  have h1:n*2 ^ (64 - b) < 2 ^ b*2 ^ (64 - b):=Nat.mul_lt_mul_of_pos_right b3 (Nat.pow_pos oM);have h2:(n:Int)*2 ^ (64 - b)=((n*2 ^ (64 - b):Nat):Int):=by push_cast;rfl
  rw [h2];omega
theorem bC5 {y:Int} {k:Nat} (h:cG y=((k:Nat):Int))(hk:k<=63):(min (tN (iW .u64 (cG y))) 64)=k:=by
 rw [h,nP oM,iB];omega
theorem bFd {y:Int} (h:0 < y/\y < 9223372036854775808):1<=(fD (iW .u64 (y*2 ^ (min (tN (iW .u64 (cG y))) 64))) (2 ^ (min (tN 32) 64)))/\(fD (iW .u64 (y*2 ^ (min (tN (iW .u64 (cG y))) 64))) (2 ^ (min (tN 32) 64))) < 4294967296:=by
 obtain⟨k,h1,h2,h3,h4,h5⟩:=bC4 h;rw [bC5 h1 h3,nP oM,aHp];omega
noncomputable def aEe:=aU [1,1,1,1,1,1,1,1,1,1,1,1,1,1,1,1,1,1,0] [] (aV Tryz.f196) []
def aB2 (a0 a1 a2:Int)(v18 v19 v20 v21 v22 v23 v24 v25 v26:Int):LS:=⟨gU 135 [(2,(.v (.int .u64 v18))),(8,(.v (.int .u64 v19))),(9,(.v (.int .u64 v20))),(10,(.v (.int .u64 v21))),(14,(.v (.int .u64 v22))),(15,(.v (.int .u64 v23))),(16,(.v (.int .u64 v24))),(17,(.v (.int .u64 v25))),(18,(.v (.int .u64 v26)))],[]⟩
def rW (a0 a1 a2:Int):Int×Int×Int×Int×Int×Int×Zt->(Int×Int×Int×Int×Int×Int×Zt)⊕Zs | (v18,v19,v20,v21,v22,v23,v24,v25,v26) => (bif (decide ((v26:Int)≥4294967296))then(bif (decide (((iW .u64 (v24+v20)):Int)≥4294967296))then(.inr ((iW .u64 ((iW .u64 (v23*4294967296))+(iW .u64 (v26 - 1)))),(fD (iW .u64 ((iW .u64 ((iW .u64 (v25*4294967296))+v22)) - (iW .u64 ((iW .u64 (v26 - 1))*v18)))) (2 ^ (min (tN v19) 64)))))else(.inl (v18,v19,v20,v21,v22,v23,(iW .u64 (v24+v20)),v25,(iW .u64 (v26 - 1)))))else(bif (decide (((iW .u64 (v26*v21)):Int) > (iW .u64 ((iW .u64 (4294967296*v24))+v22))))then(bif (decide (((iW .u64 (v24+v20)):Int)≥4294967296))then(.inr ((iW .u64 ((iW .u64 (v23*4294967296))+(iW .u64 (v26 - 1)))),(fD (iW .u64 ((iW .u64 ((iW .u64 (v25*4294967296))+v22)) - (iW .u64 ((iW .u64 (v26 - 1))*v18)))) (2 ^ (min (tN v19) 64)))))else(.inl (v18,v19,v20,v21,v22,v23,(iW .u64 (v24+v20)),v25,(iW .u64 (v26 - 1)))))else(.inr ((iW .u64 ((iW .u64 (v23*4294967296))+v26)),(fD (iW .u64 ((iW .u64 ((iW .u64 (v25*4294967296))+v22)) - (iW .u64 (v26*v18)))) (2 ^ (min (tN v19) 64)))))))
noncomputable def tV:=dY [1,1,1,1,1,1,1,1,1,1,1,1,1,1,1,0] [] (aV Tryz.f196)
def uU (a0 a1 a2:Int)(v10 v11 v12 v13 v14 v15 v16 v17:Int):LS:=⟨gU 135 [(2,(.v (.int .u64 v10))),(8,(.v (.int .u64 v11))),(9,(.v (.int .u64 v12))),(10,(.v (.int .u64 v13))),(11,(.v (.int .u64 v14))),(13,(.v (.int .u64 v15))),(14,(.v (.int .u64 v16))),(15,(.v (.int .u64 v17)))],[]⟩
def hG (a0 a1 a2:Int):Int×Int×Int×Int×Int×Zt->Zs | (v10,v11,v12,v13,v14,v15,v16,v17) => (aG (rW a0 a1 a2) (tN (4294967296 - (iW .u64 ((iW .u64 ((iW .u64 ((iW .u64 (v14*4294967296))+v15)) - (iW .u64 (v17*v10)))) - (iW .u64 ((iW .u64 (tD (iW .u64 ((iW .u64 ((iW .u64 (v14*4294967296))+v15)) - (iW .u64 (v17*v10)))) v12))*v12)))))+1) (v10,v11,v12,v13,v16,v17,(iW .u64 ((iW .u64 ((iW .u64 ((iW .u64 (v14*4294967296))+v15)) - (iW .u64 (v17*v10)))) - (iW .u64 ((iW .u64 (tD (iW .u64 ((iW .u64 ((iW .u64 (v14*4294967296))+v15)) - (iW .u64 (v17*v10)))) v12))*v12)))),(iW .u64 ((iW .u64 ((iW .u64 (v14*4294967296))+v15)) - (iW .u64 (v17*v10)))),(iW .u64 (tD (iW .u64 ((iW .u64 ((iW .u64 (v14*4294967296))+v15)) - (iW .u64 (v17*v10)))) v12))))
noncomputable def aEf:=aU [1,1,1,1,1,1,1,1,1,1,1,1,1,1,0] [] (aV Tryz.f196) []
def aB3 (a0 a1 a2:Int)(v1 v2 v3 v4 v5 v6 v7 v8 v9:Int):LS:=⟨gU 135 [(2,(.v (.int .u64 v1))),(8,(.v (.int .u64 v2))),(9,(.v (.int .u64 v3))),(10,(.v (.int .u64 v4))),(11,(.v (.int .u64 v5))),(13,(.v (.int .u64 v6))),(14,(.v (.int .u64 v7))),(15,(.v (.int .u64 v8))),(16,(.v (.int .u64 v9)))],[]⟩
def rX (a0 a1 a2:Int):Int×Int×Int×Int×Int×Int×Zt->(Int×Int×Int×Int×Int×Int×Zt)⊕Zs | (v1,v2,v3,v4,v5,v6,v7,v8,v9) => (bif (decide ((v8:Int)≥4294967296))then(bif (decide (((iW .u64 (v9+v3)):Int)≥4294967296))then(.inr (hG a0 a1 a2 (v1,v2,v3,v4,v5,v6,v7,(iW .u64 (v8 - 1)))))else(.inl (v1,v2,v3,v4,v5,v6,v7,(iW .u64 (v8 - 1)),(iW .u64 (v9+v3)))))else(bif (decide (((iW .u64 (v8*v4)):Int) > (iW .u64 ((iW .u64 (4294967296*v9))+v6))))then(bif (decide (((iW .u64 (v9+v3)):Int)≥4294967296))then(.inr (hG a0 a1 a2 (v1,v2,v3,v4,v5,v6,v7,(iW .u64 (v8 - 1)))))else(.inl (v1,v2,v3,v4,v5,v6,v7,(iW .u64 (v8 - 1)),(iW .u64 (v9+v3)))))else(.inr (hG a0 a1 a2 (v1,v2,v3,v4,v5,v6,v7,v8)))))
theorem aZ5 (a0 a1 a2:Int)(hy:DvP a0 a1 a2) {cx:Cx} (hcx:cx.base=0):∀(n:Nat) (v18 v19 v20 v21 v22 v23 v24 v25 v26:Int),(1<=v20)/\(v20 < 4294967296)/\(0<=v24)/\(v24 < 4294967296)/\(0<=v19)->tN (4294967296 - v24) < n->gG Tryz.f196 cx (.t [(.v (.int .u64 (aG (rW a0 a1 a2) n (v18,v19,v20,v21,v22,v23,v24,v25,v26)).1)),(.v (.int .u64 (aG (rW a0 a1 a2) n (v18,v19,v20,v21,v22,v23,v24,v25,v26)).2))]) [] [] (.l aEe.1 n::aEe.2) (aB2 a0 a1 a2 v18 v19 v20 v21 v22 v23 v24 v25 v26):=by
 intro n
 induction n with|zero=>intro v18 v19 v20 v21 v22 v23 v24 v25 v26 hi hn;exact absurd hn (dX _)|succ n ih=>?_
 intro v18 v19 v20 v21 v22 v23 v24 v25 v26 hi hn;refine aN ?_;have hu9:=pI (v24+v20);rw [aZ,rW];cases h0:(decide ((v26:Int)≥4294967296))
 case true=>
  let t1:SL:=[.d h0];cases h1:(decide (((iW .u64 (v24+v20)):Int)≥4294967296))
  case true=>exact rT (t1++[.d h1,.p (show 0<=(v19:Int) from by first | omega | (rw [aH]<;>omega) | exact dZ _)]) hcx
  have q1:=iF h1;refine bA n (t1++[.d h1]) [2,8,9,10,14,15,16,17,18] [] hcx aEe (aB2 a0 a1 a2 v18 v19 v20 v21 v22 v23 (iW .u64 (v24+v20)) v25 (iW .u64 (v26 - 1))) ?_;exact ih _ _ _ _ _ _ _ _ _ oR oM
 let t1:SL:=[.d h0];cases h1:(decide (((iW .u64 (v26*v21)):Int) > (iW .u64 ((iW .u64 (4294967296*v24))+v22))))
 case true=>
  let t2:SL:=t1++[.d h1];cases h2:(decide (((iW .u64 (v24+v20)):Int)≥4294967296))
  case true=>exact rT (t2++[.d h2,.p (show 0<=(v19:Int) from by first | omega | (rw [aH]<;>omega) | exact dZ _)]) hcx
  have q2:=iF h2;refine bA n (t2++[.d h2]) [2,8,9,10,14,15,16,17,18] [] hcx aEe (aB2 a0 a1 a2 v18 v19 v20 v21 v22 v23 (iW .u64 (v24+v20)) v25 (iW .u64 (v26 - 1))) ?_;exact ih _ _ _ _ _ _ _ _ _ oR oM
 exact rT (t1++[.d h1,.p (show 0<=(v19:Int) from by first | omega | (rw [aH]<;>omega) | exact dZ _)]) hcx
theorem aEg (a0 a1 a2:Int)(hy:DvP a0 a1 a2) {cx:Cx} (hcx:cx.base=0)(v10 v11 v12 v13 v14 v15 v16 v17:Int):(1<=v12)/\(v12 < 4294967296)/\(0<=v11)->gG Tryz.f196 cx (.t [(.v (.int .u64 (hG a0 a1 a2 (v10,v11,v12,v13,v14,v15,v16,v17)).1)),(.v (.int .u64 (hG a0 a1 a2 (v10,v11,v12,v13,v14,v15,v16,v17)).2))]) [] [] (.c tV.1::tV.2) (uU a0 a1 a2 v10 v11 v12 v13 v14 v15 v16 v17):=by
 intro hi;have hrh:=aX2 (u:=(iW .u64 ((iW .u64 ((iW .u64 (v14*4294967296))+v15)) - (iW .u64 (v17*v10))))) ⟨hi.1,hi.2.1⟩ (aQk _);refine eN [.p (show(v12:Int)≠0 from by first | omega | (rw [aH]<;>omega) | exact dZ _)] [2,8,9,10,14,15,16,17,18] [] hcx aEe (aB2 a0 a1 a2 v10 v11 v12 v13 v16 v17 (iW .u64 ((iW .u64 ((iW .u64 ((iW .u64 (v14*4294967296))+v15)) - (iW .u64 (v17*v10)))) - (iW .u64 ((iW .u64 (tD (iW .u64 ((iW .u64 ((iW .u64 (v14*4294967296))+v15)) - (iW .u64 (v17*v10)))) v12))*v12)))) (iW .u64 ((iW .u64 ((iW .u64 (v14*4294967296))+v15)) - (iW .u64 (v17*v10)))) (iW .u64 (tD (iW .u64 ((iW .u64 ((iW .u64 (v14*4294967296))+v15)) - (iW .u64 (v17*v10)))) v12))) (tN (4294967296 - (iW .u64 ((iW .u64 ((iW .u64 ((iW .u64 (v14*4294967296))+v15)) - (iW .u64 (v17*v10)))) - (iW .u64 ((iW .u64 (tD (iW .u64 ((iW .u64 ((iW .u64 (v14*4294967296))+v15)) - (iW .u64 (v17*v10)))) v12))*v12)))))+1) ?_;exact aZ5 a0 a1 a2 hy hcx (tN (4294967296 - (iW .u64 ((iW .u64 ((iW .u64 ((iW .u64 (v14*4294967296))+v15)) - (iW .u64 (v17*v10)))) - (iW .u64 ((iW .u64 (tD (iW .u64 ((iW .u64 ((iW .u64 (v14*4294967296))+v15)) - (iW .u64 (v17*v10)))) v12))*v12)))))+1) v10 v11 v12 v13 v16 v17 (iW .u64 ((iW .u64 ((iW .u64 ((iW .u64 (v14*4294967296))+v15)) - (iW .u64 (v17*v10)))) - (iW .u64 ((iW .u64 (tD (iW .u64 ((iW .u64 ((iW .u64 (v14*4294967296))+v15)) - (iW .u64 (v17*v10)))) v12))*v12)))) (iW .u64 ((iW .u64 ((iW .u64 (v14*4294967296))+v15)) - (iW .u64 (v17*v10)))) (iW .u64 (tD (iW .u64 ((iW .u64 ((iW .u64 (v14*4294967296))+v15)) - (iW .u64 (v17*v10)))) v12)) oR oM
theorem aZ6 (a0 a1 a2:Int)(hy:DvP a0 a1 a2) {cx:Cx} (hcx:cx.base=0):∀(n:Nat) (v1 v2 v3 v4 v5 v6 v7 v8 v9:Int),(1<=v3)/\(v3 < 4294967296)/\(0<=v9)/\(v9 < 4294967296)/\(0<=v2)->tN (4294967296 - v9) < n->gG Tryz.f196 cx (.t [(.v (.int .u64 (aG (rX a0 a1 a2) n (v1,v2,v3,v4,v5,v6,v7,v8,v9)).1)),(.v (.int .u64 (aG (rX a0 a1 a2) n (v1,v2,v3,v4,v5,v6,v7,v8,v9)).2))]) [] [] (.l aEf.1 n::aEf.2) (aB3 a0 a1 a2 v1 v2 v3 v4 v5 v6 v7 v8 v9):=by
 intro n
 induction n with|zero=>intro v1 v2 v3 v4 v5 v6 v7 v8 v9 hi hn;exact absurd hn (dX _)|succ n ih=>?_
 intro v1 v2 v3 v4 v5 v6 v7 v8 v9 hi hn;refine aN ?_;have hu9:=pI (v9+v3);rw [aZ,rX];cases h0:(decide ((v8:Int)≥4294967296))
 case true=>
  let t1:SL:=[.d h0];cases h1:(decide (((iW .u64 (v9+v3)):Int)≥4294967296))
  case true=>refine gA (t1++[.d h1,.z 21]) [2,8,9,10,11,13,14,15] [] hcx tV (uU a0 a1 a2 v1 v2 v3 v4 v5 v6 v7 (iW .u64 (v8 - 1))) ?_;exact aEg a0 a1 a2 hy hcx v1 v2 v3 v4 v5 v6 v7 (iW .u64 (v8 - 1)) oR
  have q1:=iF h1;refine bA n (t1++[.d h1]) [2,8,9,10,11,13,14,15,16] [] hcx aEf (aB3 a0 a1 a2 v1 v2 v3 v4 v5 v6 v7 (iW .u64 (v8 - 1)) (iW .u64 (v9+v3))) ?_;exact ih _ _ _ _ _ _ _ _ _ oR oM
 let t1:SL:=[.d h0];cases h1:(decide (((iW .u64 (v8*v4)):Int) > (iW .u64 ((iW .u64 (4294967296*v9))+v6))))
 case true=>
  let t2:SL:=t1++[.d h1];cases h2:(decide (((iW .u64 (v9+v3)):Int)≥4294967296))
  case true=>refine gA (t2++[.d h2,.z 21]) [2,8,9,10,11,13,14,15] [] hcx tV (uU a0 a1 a2 v1 v2 v3 v4 v5 v6 v7 (iW .u64 (v8 - 1))) ?_;exact aEg a0 a1 a2 hy hcx v1 v2 v3 v4 v5 v6 v7 (iW .u64 (v8 - 1)) oR
  have q2:=iF h2;refine bA n (t2++[.d h2]) [2,8,9,10,11,13,14,15,16] [] hcx aEf (aB3 a0 a1 a2 v1 v2 v3 v4 v5 v6 v7 (iW .u64 (v8 - 1)) (iW .u64 (v9+v3))) ?_;exact ih _ _ _ _ _ _ _ _ _ oR oM
 refine gA (t1++[.d h1,.z 21]) [2,8,9,10,11,13,14,15] [] hcx tV (uU a0 a1 a2 v1 v2 v3 v4 v5 v6 v7 v8) ?_;exact aEg a0 a1 a2 hy hcx v1 v2 v3 v4 v5 v6 v7 v8 oR
def jR (a0 a1 a2:Int):Zs := (bif ((a2:Int) == 0)then dF else(bif (decide ((a2:Int)<=a0))then dF else(bif ((a0:Int) == 0)then((iW .u64 (tD a1 a2)),(mD a1 a2))else(aG (rX a0 a1 a2) (tN (4294967296 - (iW .u64 ((iW .u64 ((bO 64 (iW .u64 (a0*2 ^ (min (tN (iW .u64 (cG a2))) 64))) ||| bO 64 (fD a1 (2 ^ (min (tN (iW .u64 (64 - (iW .u64 (cG a2))))) 64)))).toNat:Int)) - (iW .u64 ((iW .u64 (tD (iW .u64 ((bO 64 (iW .u64 (a0*2 ^ (min (tN (iW .u64 (cG a2))) 64))) ||| bO 64 (fD a1 (2 ^ (min (tN (iW .u64 (64 - (iW .u64 (cG a2))))) 64)))).toNat:Int)) (fD (iW .u64 (a2*2 ^ (min (tN (iW .u64 (cG a2))) 64))) (2 ^ (min (tN 32) 64)))))*(fD (iW .u64 (a2*2 ^ (min (tN (iW .u64 (cG a2))) 64))) (2 ^ (min (tN 32) 64))))))))+1) ((iW .u64 (a2*2 ^ (min (tN (iW .u64 (cG a2))) 64))),(iW .u64 (cG a2)),(fD (iW .u64 (a2*2 ^ (min (tN (iW .u64 (cG a2))) 64))) (2 ^ (min (tN 32) 64))),(iW .u64 ((bO 64 (iW .u64 (a2*2 ^ (min (tN (iW .u64 (cG a2))) 64))) &&& bO 64 4294967295).toNat:Int)),(iW .u64 ((bO 64 (iW .u64 (a0*2 ^ (min (tN (iW .u64 (cG a2))) 64))) ||| bO 64 (fD a1 (2 ^ (min (tN (iW .u64 (64 - (iW .u64 (cG a2))))) 64)))).toNat:Int)),(fD (iW .u64 (a1*2 ^ (min (tN (iW .u64 (cG a2))) 64))) (2 ^ (min (tN 32) 64))),(iW .u64 ((bO 64 (iW .u64 (a1*2 ^ (min (tN (iW .u64 (cG a2))) 64))) &&& bO 64 4294967295).toNat:Int)),(iW .u64 (tD (iW .u64 ((bO 64 (iW .u64 (a0*2 ^ (min (tN (iW .u64 (cG a2))) 64))) ||| bO 64 (fD a1 (2 ^ (min (tN (iW .u64 (64 - (iW .u64 (cG a2))))) 64)))).toNat:Int)) (fD (iW .u64 (a2*2 ^ (min (tN (iW .u64 (cG a2))) 64))) (2 ^ (min (tN 32) 64))))),(iW .u64 ((iW .u64 ((bO 64 (iW .u64 (a0*2 ^ (min (tN (iW .u64 (cG a2))) 64))) ||| bO 64 (fD a1 (2 ^ (min (tN (iW .u64 (64 - (iW .u64 (cG a2))))) 64)))).toNat:Int)) - (iW .u64 ((iW .u64 (tD (iW .u64 ((bO 64 (iW .u64 (a0*2 ^ (min (tN (iW .u64 (cG a2))) 64))) ||| bO 64 (fD a1 (2 ^ (min (tN (iW .u64 (64 - (iW .u64 (cG a2))))) 64)))).toNat:Int)) (fD (iW .u64 (a2*2 ^ (min (tN (iW .u64 (cG a2))) 64))) (2 ^ (min (tN 32) 64)))))*(fD (iW .u64 (a2*2 ^ (min (tN (iW .u64 (cG a2))) 64))) (2 ^ (min (tN 32) 64))))))))))))
theorem bFe (a0 a1 a2:Int)(hy:DvP a0 a1 a2):Con Tryz.prog 196 [(.v (.int .u64 a0)),(.v (.int .u64 a1)),(.v (.int .u64 a2))] [] (.t [(.v (.int .u64 (jR a0 a1 a2).1)),(.v (.int .u64 (jR a0 a1 a2).2))]) []:=by
 refine cS Tryz.func196 fun cx hcx=>?_
 have hyy:=hy.hy;have hdv:=bFd hy.hy;have hun:=aQk (cG a2);have hrh:=aX2 (u:=(iW .u64 ((bO 64 (iW .u64 (a0*2 ^ (min (tN (iW .u64 (cG a2))) 64))) ||| bO 64 (fD a1 (2 ^ (min (tN (iW .u64 (64 - (iW .u64 (cG a2))))) 64)))).toNat:Int))) hdv (aQk _);rw [jR];cases h0:((a2:Int) == 0)
 case true=>have q0:=eq_of_beq h0;have h9:=hy.hy;have h8:=hy.hh;first | exact absurd (eq_of_beq h0) oM | exact absurd (eS h1) oM
 have q0:=ne_of_beq_false h0;let t1:SL:=[.d h0];cases h1:(decide ((a2:Int)<=a0))
 case true=>have q1:=eS h1;have h9:=hy.hy;have h8:=hy.hh;first | exact absurd (eq_of_beq h0) oM | exact absurd (eS h1) oM
 let t2:SL:=t1++[.d h1];cases h2:((a0:Int) == 0)
 case true=>exact rT (t2++[.d h2,.p (show(a2:Int)≠0 from by first | omega | (rw [aH]<;>omega) | exact dZ _),.p (show(a2:Int)≠0 from by first | omega | (rw [aH]<;>omega) | exact dZ _)]) hcx
 refine eN (t2++[.d h2,.c [] (bFc a2  (by have:=hy.hy;omega)),.p (show 0<=((iW .u64 (cG a2)):Int) from by first | omega | (rw [aH]<;>omega) | exact dZ _),.p (show 0<=(32:Int) from by decide),.p (show 0<=((iW .u64 (cG a2)):Int) from by first | omega | (rw [aH]<;>omega) | exact dZ _),.p (show 0<=((iW .u64 (64 - (iW .u64 (cG a2)))):Int) from by first | omega | (rw [aH]<;>omega) | exact dZ _),.p (show 0<=((iW .u64 (cG a2)):Int) from by first | omega | (rw [aH]<;>omega) | exact dZ _),.p (show 0<=(32:Int) from by decide),.p (show((fD (iW .u64 (a2*2 ^ (min (tN (iW .u64 (cG a2))) 64))) (2 ^ (min (tN 32) 64))):Int)≠0 from by first | omega | (rw [aH]<;>omega) | exact dZ _)]) [2,8,9,10,11,13,14,15,16] [] hcx aEf (aB3 a0 a1 a2 (iW .u64 (a2*2 ^ (min (tN (iW .u64 (cG a2))) 64))) (iW .u64 (cG a2)) (fD (iW .u64 (a2*2 ^ (min (tN (iW .u64 (cG a2))) 64))) (2 ^ (min (tN 32) 64))) (iW .u64 ((bO 64 (iW .u64 (a2*2 ^ (min (tN (iW .u64 (cG a2))) 64))) &&& bO 64 4294967295).toNat:Int)) (iW .u64 ((bO 64 (iW .u64 (a0*2 ^ (min (tN (iW .u64 (cG a2))) 64))) ||| bO 64 (fD a1 (2 ^ (min (tN (iW .u64 (64 - (iW .u64 (cG a2))))) 64)))).toNat:Int)) (fD (iW .u64 (a1*2 ^ (min (tN (iW .u64 (cG a2))) 64))) (2 ^ (min (tN 32) 64))) (iW .u64 ((bO 64 (iW .u64 (a1*2 ^ (min (tN (iW .u64 (cG a2))) 64))) &&& bO 64 4294967295).toNat:Int)) (iW .u64 (tD (iW .u64 ((bO 64 (iW .u64 (a0*2 ^ (min (tN (iW .u64 (cG a2))) 64))) ||| bO 64 (fD a1 (2 ^ (min (tN (iW .u64 (64 - (iW .u64 (cG a2))))) 64)))).toNat:Int)) (fD (iW .u64 (a2*2 ^ (min (tN (iW .u64 (cG a2))) 64))) (2 ^ (min (tN 32) 64))))) (iW .u64 ((iW .u64 ((bO 64 (iW .u64 (a0*2 ^ (min (tN (iW .u64 (cG a2))) 64))) ||| bO 64 (fD a1 (2 ^ (min (tN (iW .u64 (64 - (iW .u64 (cG a2))))) 64)))).toNat:Int)) - (iW .u64 ((iW .u64 (tD (iW .u64 ((bO 64 (iW .u64 (a0*2 ^ (min (tN (iW .u64 (cG a2))) 64))) ||| bO 64 (fD a1 (2 ^ (min (tN (iW .u64 (64 - (iW .u64 (cG a2))))) 64)))).toNat:Int)) (fD (iW .u64 (a2*2 ^ (min (tN (iW .u64 (cG a2))) 64))) (2 ^ (min (tN 32) 64)))))*(fD (iW .u64 (a2*2 ^ (min (tN (iW .u64 (cG a2))) 64))) (2 ^ (min (tN 32) 64)))))))) (tN (4294967296 - (iW .u64 ((iW .u64 ((bO 64 (iW .u64 (a0*2 ^ (min (tN (iW .u64 (cG a2))) 64))) ||| bO 64 (fD a1 (2 ^ (min (tN (iW .u64 (64 - (iW .u64 (cG a2))))) 64)))).toNat:Int)) - (iW .u64 ((iW .u64 (tD (iW .u64 ((bO 64 (iW .u64 (a0*2 ^ (min (tN (iW .u64 (cG a2))) 64))) ||| bO 64 (fD a1 (2 ^ (min (tN (iW .u64 (64 - (iW .u64 (cG a2))))) 64)))).toNat:Int)) (fD (iW .u64 (a2*2 ^ (min (tN (iW .u64 (cG a2))) 64))) (2 ^ (min (tN 32) 64)))))*(fD (iW .u64 (a2*2 ^ (min (tN (iW .u64 (cG a2))) 64))) (2 ^ (min (tN 32) 64))))))))+1) ?_;exact aZ6 a0 a1 a2 hy hcx (tN (4294967296 - (iW .u64 ((iW .u64 ((bO 64 (iW .u64 (a0*2 ^ (min (tN (iW .u64 (cG a2))) 64))) ||| bO 64 (fD a1 (2 ^ (min (tN (iW .u64 (64 - (iW .u64 (cG a2))))) 64)))).toNat:Int)) - (iW .u64 ((iW .u64 (tD (iW .u64 ((bO 64 (iW .u64 (a0*2 ^ (min (tN (iW .u64 (cG a2))) 64))) ||| bO 64 (fD a1 (2 ^ (min (tN (iW .u64 (64 - (iW .u64 (cG a2))))) 64)))).toNat:Int)) (fD (iW .u64 (a2*2 ^ (min (tN (iW .u64 (cG a2))) 64))) (2 ^ (min (tN 32) 64)))))*(fD (iW .u64 (a2*2 ^ (min (tN (iW .u64 (cG a2))) 64))) (2 ^ (min (tN 32) 64))))))))+1) (iW .u64 (a2*2 ^ (min (tN (iW .u64 (cG a2))) 64))) (iW .u64 (cG a2)) (fD (iW .u64 (a2*2 ^ (min (tN (iW .u64 (cG a2))) 64))) (2 ^ (min (tN 32) 64))) (iW .u64 ((bO 64 (iW .u64 (a2*2 ^ (min (tN (iW .u64 (cG a2))) 64))) &&& bO 64 4294967295).toNat:Int)) (iW .u64 ((bO 64 (iW .u64 (a0*2 ^ (min (tN (iW .u64 (cG a2))) 64))) ||| bO 64 (fD a1 (2 ^ (min (tN (iW .u64 (64 - (iW .u64 (cG a2))))) 64)))).toNat:Int)) (fD (iW .u64 (a1*2 ^ (min (tN (iW .u64 (cG a2))) 64))) (2 ^ (min (tN 32) 64))) (iW .u64 ((bO 64 (iW .u64 (a1*2 ^ (min (tN (iW .u64 (cG a2))) 64))) &&& bO 64 4294967295).toNat:Int)) (iW .u64 (tD (iW .u64 ((bO 64 (iW .u64 (a0*2 ^ (min (tN (iW .u64 (cG a2))) 64))) ||| bO 64 (fD a1 (2 ^ (min (tN (iW .u64 (64 - (iW .u64 (cG a2))))) 64)))).toNat:Int)) (fD (iW .u64 (a2*2 ^ (min (tN (iW .u64 (cG a2))) 64))) (2 ^ (min (tN 32) 64))))) (iW .u64 ((iW .u64 ((bO 64 (iW .u64 (a0*2 ^ (min (tN (iW .u64 (cG a2))) 64))) ||| bO 64 (fD a1 (2 ^ (min (tN (iW .u64 (64 - (iW .u64 (cG a2))))) 64)))).toNat:Int)) - (iW .u64 ((iW .u64 (tD (iW .u64 ((bO 64 (iW .u64 (a0*2 ^ (min (tN (iW .u64 (cG a2))) 64))) ||| bO 64 (fD a1 (2 ^ (min (tN (iW .u64 (64 - (iW .u64 (cG a2))))) 64)))).toNat:Int)) (fD (iW .u64 (a2*2 ^ (min (tN (iW .u64 (cG a2))) 64))) (2 ^ (min (tN 32) 64)))))*(fD (iW .u64 (a2*2 ^ (min (tN (iW .u64 (cG a2))) 64))) (2 ^ (min (tN 32) 64))))))) oR oM
theorem aAk (q y1 y0:Int):q*(y1*4294967296+y0)=q*y1*4294967296+q*y0:=by grind
structure KnI (u2 u1 y1 y0 q r:Int):Prop where
 e:q*y1+r=u2
 r0:0<=r
 lt:u2*4294967296+u1 < (q+1)*(y1*4294967296+y0)
 q1:q<=4294967297
 q0:0<=q
structure KnH (u2 u1 y1 y0:Int):Prop where
 u2:0<=u2/\u2 < y1*4294967296+y0
 u1:0<=u1/\u1 < 4294967296
 y1:2147483648<=y1/\y1 < 4294967296
 y0:0<=y0/\y0 < 4294967296
theorem aO9 {u2 u1 y1 y0:Int} (h:KnH u2 u1 y1 y0):KnI u2 u1 y1 y0 (u2 / y1) (u2 - u2 / y1*y1)/\u2 - u2 / y1*y1 < y1:=by
 obtain⟨a,b,c,d⟩:=h;have h1:=Int.mul_ediv_add_emod u2 y1;have h2:=Int.emod_nonneg u2 (show y1≠0 by omega);have h3:=Int.emod_lt_of_pos u2 (show 0 < y1 by omega);have hc:y1*(u2 / y1)=u2 / y1*y1:=Int.mul_comm _ _;have hq0:0<=u2 / y1:=Int.ediv_nonneg a.1 oM;have hq1:u2 / y1<=4294967297:=by
  have:u2 / y1 < 4294967298:=Int.ediv_lt_of_lt_mul oM oM;omega
 have e1:=aAk (u2 / y1+1) y1 y0;have e2:(u2 / y1+1)*y1=u2 / y1*y1+y1:=by grind
 have e3:0<=(u2 / y1+1)*y0:=Int.mul_nonneg oM d.1;exact⟨⟨by omega,by omega,by rw [e1,e2];omega,hq1,hq0⟩,by omega⟩
theorem aZ7 {u2 u1 y1 y0 q r:Int} (h:KnH u2 u1 y1 y0)(hI:KnI u2 u1 y1 y0 q r)(ht:4294967296<=q\/r*4294967296+u1 < q*y0):u2*4294967296+u1 < q*(y1*4294967296+y0):=by
 obtain⟨a,b,c,d⟩:=h;rcases ht with ht | ht
 ·have:4294967296*(y1*4294967296+y0)<=q*(y1*4294967296+y0):=Int.mul_le_mul_of_nonneg_right ht oM;omega
 ·have e:=hI.e;rw [aAk];omega
theorem aPa {u2 u1 y1 y0 q r:Int} (h:KnH u2 u1 y1 y0)(hI:KnI u2 u1 y1 y0 q r)(ht:4294967296<=q\/r*4294967296+u1 < q*y0):KnI u2 u1 y1 y0 (q - 1) (r+y1)/\1<=q:=by
 have hb:=aZ7 h hI ht;obtain⟨a,b,c,d⟩:=h;have e:=hI.e;have hq:1<=q:=by
  rcases Int.lt_or_le 0 q with hq | hq
  ·omega
  ·have:q=0:=Int.le_antisymm hq hI.q0;subst this;simp at hb;omega
 refine⟨⟨?_,by have:=hI.r0;omega,?_,by have:=hI.q1;omega,by omega⟩,hq⟩
 ·have:(q - 1)*y1=q*y1 - y1:=by grind
  omega
 ·rw [show q - 1+1=q by omega];exact hb
theorem aIe {u2 u1 y1 y0 q r:Int} (h:KnH u2 u1 y1 y0)(hI:KnI u2 u1 y1 y0 q r)(hd:q*y0<=r*4294967296+u1):q=(u2*4294967296+u1) / (y1*4294967296+y0):=by
 obtain⟨a,b,c,d⟩:=h;have e:=hI.e;have h1:=hI.lt;have h2:q*(y1*4294967296+y0)<=u2*4294967296+u1:=by rw [aAk];omega
 have hp:0 < y1*4294967296+y0:=by omega
 refine Int.le_antisymm ((Int.le_ediv_iff_mul_le hp).2 h2) ?_;have:(u2*4294967296+u1) / (y1*4294967296+y0) < q+1:=Int.ediv_lt_of_lt_mul hp h1;omega
theorem aT9 {u2 u1 y1 y0 q r:Int} (h:KnH u2 u1 y1 y0)(hI:KnI u2 u1 y1 y0 q r)(hq:q<=4294967296)(hr:4294967296<=r):q=(u2*4294967296+u1) / (y1*4294967296+y0):=by
 refine aIe h hI ?_;obtain⟨a,b,c,d⟩:=h;have h1:q*y0<=4294967296*y0:=Int.mul_le_mul_of_nonneg_right hq d.1;omega
theorem aZ8 {u2 u1 u0 Y:Int} (hY:0 < Y):(u2*4294967296+u1)*4294967296+u0=((u2*4294967296+u1) / Y*4294967296+((u2*4294967296+u1 - (u2*4294967296+u1) / Y*Y)*4294967296+u0) / Y)*Y+(((u2*4294967296+u1 - (u2*4294967296+u1) / Y*Y)*4294967296+u0) - ((u2*4294967296+u1 - (u2*4294967296+u1) / Y*Y)*4294967296+u0) / Y*Y):=by
 grind
theorem aZ9 {N Y q r:Int} (hY:0 < Y)(h:N=q*Y+r)(h0:0<=r)(h1:r < Y):q=N / Y/\r=N % Y:=by
 subst h;rw [Int.add_comm,Int.add_mul_ediv_right _ _ oM,Int.ediv_eq_zero_of_lt h0 h1,Int.add_mul_emod_self_right,Int.emod_eq_of_lt h0 h1];exact⟨by omega,rfl⟩
theorem nU {T R:Type} [Inhabited R] {S:T->T⊕R} (μ:T->Nat)(Pr:T->Prop)(Qr:R->Prop)(h:∀x,Pr x->(∃a,S x=.inl a/\Pr a/\μ a < μ x)\/(∃r,S x=.inr r/\Qr r)) :
 ∀(n:Nat) (x:T),Pr x->μ x < n->Qr (aG S n x)
 | 0,_,_,hn=>absurd hn (dX _)
 | n+1,x,hx,hn=>by
  rcases h x hx with⟨a,e1,e2,e3⟩ | ⟨r,e1,e2⟩
  ·rw [aK e1];exact nU μ Pr Qr h n a e2 oM
  ·rw [aL e1];exact e2
theorem bC6 {q r y1 y0 u u0:Int} (hH:KnH u u0 y1 y0)(hI:KnI u u0 y1 y0 q r)(hr:r < 4294967296)(hq:q < 4294967296):iW .u64 (q*y0)=q*y0/\iW .u64 ((iW .u64 (4294967296*r))+u0)=r*4294967296+u0:=by
 obtain⟨a,b,c,d⟩:=hH;have h0:=hI.q0;have h1:=hI.r0;have h2:0<=q*y0:=Int.mul_nonneg h0 d.1;have h3:q*y0<=4294967295*y0:=Int.mul_le_mul_of_nonneg_right oM d.1;rw [nP (n:=q*y0) oM,nP (n:=4294967296*r) oM,nP oM];exact⟨rfl,by omega⟩
theorem aX3 {q r y1 y0 u u0:Int} (hH:KnH u u0 y1 y0)(hI:KnI u u0 y1 y0 q r)(hr:r < 4294967296)(h1:1<=q):iW .u64 (r+y1)=r+y1/\iW .u64 (q - 1)=q - 1:=by
 obtain⟨a,b,c,d⟩:=hH;have h0:=hI.q1;have h2:=hI.r0;rw [nP (n:=r+y1) oM,nP (n:=q - 1) oM];exact⟨rfl,rfl⟩
def dvR (y s u0 q1 u q0:Int):Zs:=(iW .u64 ((iW .u64 (q1*4294967296))+q0),fD (iW .u64 ((iW .u64 ((iW .u64 (u*4294967296))+u0)) - (iW .u64 (q0*y)))) (2 ^ (min (tN s) 64)))
theorem bFf {a0 a1 a2 y s y1 y0 u0 q1 r u q0:Int} (n:Nat)(hH:KnH u u0 y1 y0)(hI:KnI u u0 y1 y0 q0 r)(hr:r < 4294967296)(hn:tN (4294967296 - r) < n) :
 aG (rW a0 a1 a2) n (y,s,y1,y0,u0,q1,r,u,q0)=dvR y s u0 q1 u ((u*4294967296+u0) / (y1*4294967296+y0)):=by
 refine nU (S:=rW a0 a1 a2) (fun v:Int×Int×Int×Int×Int×Int×Zt=>tN (4294967296 - v.2.2.2.2.2.2.1)) (fun v:Int×Int×Int×Int×Int×Int×Zt=>∃q r,v=(y,s,y1,y0,u0,q1,r,u,q)/\KnI u u0 y1 y0 q r/\r < 4294967296) (fun z=>z=dvR y s u0 q1 u ((u*4294967296+u0) / (y1*4294967296+y0))) (fun v hv=>?_) n _ ⟨q0,r,rfl,hI,hr⟩ hn;obtain⟨q,r,rfl,hI,hr⟩:=hv;have hc:=hH.y1;have go:(4294967296<=q\/r*4294967296+u0 < q*y0)->(∃z,(bif (decide ((iW .u64 (r+y1):Int)≥4294967296)) then(Sum.inr (dvR y s u0 q1 u (iW .u64 (q - 1))):(Int×Int×Int×Int×Int×Int×Zt)⊕Zs) else .inl (y,s,y1,y0,u0,q1,iW .u64 (r+y1),u,iW .u64 (q - 1)))=.inl z/\(∃q r,z=(y,s,y1,y0,u0,q1,r,u,q)/\KnI u u0 y1 y0 q r/\r < 4294967296)/\tN (4294967296 - z.2.2.2.2.2.2.1) < tN (4294967296 - r))\/(∃z,(bif (decide ((iW .u64 (r+y1):Int)≥4294967296)) then(Sum.inr (dvR y s u0 q1 u (iW .u64 (q - 1))):(Int×Int×Int×Int×Int×Int×Zt)⊕Zs) else .inl (y,s,y1,y0,u0,q1,iW .u64 (r+y1),u,iW .u64 (q - 1)))=.inr z/\z=dvR y s u0 q1 u ((u*4294967296+u0) / (y1*4294967296+y0))):=fun ht=>by
  obtain⟨hI2,hq1⟩:=aPa hH hI ht;obtain⟨e1,e2⟩:=aX3 hH hI hr hq1;rw [e1,e2];cases h2:(decide ((r+y1:Int)≥4294967296))
  case true=>have h3:=eS h2;have hb:=hI.q1;rw [cond_true];exact .inr ⟨_,rfl,by rw [←aT9 hH hI2 oM h3]⟩
  have h3:=iF h2;rw [cond_false];exact .inl ⟨_,rfl,⟨q - 1,r+y1,rfl,hI2,by omega⟩,by show tN (4294967296 - (r+y1)) < tN (4294967296 - r);omega⟩
 cases h0:(decide ((q:Int)≥4294967296))
 case true=>have:=go (.inl (eS h0));simp only [rW,h0,cond_true];exact this
 have hq:=iF h0;obtain⟨e1,e2⟩:=bC6 hH hI hr oM;cases h1:(decide ((iW .u64 (q*y0):Int) > (iW .u64 ((iW .u64 (4294967296*r))+u0))))
 case true=>have ht:=eS h1;rw [e1,e2] at ht;have:=go (.inr ht);simp only [rW,h0,h1,vF];exact this
 have ht:=iF h1;rw [e1,e2] at ht;refine .inr ⟨dvR y s u0 q1 u q,by simp only [rW,h0,h1,cond_false];rfl,?_⟩;rw [←aIe hH hI oM]
theorem bFg {a0 a1 a2 y s y1 y0 u2 u1 u0 r q0:Int} (n:Nat)(hH:KnH u2 u1 y1 y0)(hI:KnI u2 u1 y1 y0 q0 r)(hr:r < 4294967296)(hn:tN (4294967296 - r) < n) :
 aG (rX a0 a1 a2) n (y,s,y1,y0,u2,u1,u0,q0,r)=hG a0 a1 a2 (y,s,y1,y0,u2,u1,u0,(u2*4294967296+u1) / (y1*4294967296+y0)):=by
 refine nU (S:=rX a0 a1 a2) (fun v:Int×Int×Int×Int×Int×Int×Zt=>tN (4294967296 - v.2.2.2.2.2.2.2.2)) (fun v:Int×Int×Int×Int×Int×Int×Zt=>∃q r,v=(y,s,y1,y0,u2,u1,u0,q,r)/\KnI u2 u1 y1 y0 q r/\r < 4294967296) (fun z=>z=hG a0 a1 a2 (y,s,y1,y0,u2,u1,u0,(u2*4294967296+u1) / (y1*4294967296+y0))) (fun v hv=>?_) n _ ⟨q0,r,rfl,hI,hr⟩ hn;obtain⟨q,r,rfl,hI,hr⟩:=hv;have hc:=hH.y1;have go:(4294967296<=q\/r*4294967296+u1 < q*y0)->(∃z,(bif (decide ((iW .u64 (r+y1):Int)≥4294967296)) then(Sum.inr (hG a0 a1 a2 (y,s,y1,y0,u2,u1,u0,iW .u64 (q - 1))):(Int×Int×Int×Int×Int×Int×Zt)⊕Zs) else .inl (y,s,y1,y0,u2,u1,u0,iW .u64 (q - 1),iW .u64 (r+y1)))=.inl z/\(∃q r,z=(y,s,y1,y0,u2,u1,u0,q,r)/\KnI u2 u1 y1 y0 q r/\r < 4294967296)/\tN (4294967296 - z.2.2.2.2.2.2.2.2) < tN (4294967296 - r))\/(∃z,(bif (decide ((iW .u64 (r+y1):Int)≥4294967296)) then(Sum.inr (hG a0 a1 a2 (y,s,y1,y0,u2,u1,u0,iW .u64 (q - 1))):(Int×Int×Int×Int×Int×Int×Zt)⊕Zs) else .inl (y,s,y1,y0,u2,u1,u0,iW .u64 (q - 1),iW .u64 (r+y1)))=.inr z/\z=hG a0 a1 a2 (y,s,y1,y0,u2,u1,u0,(u2*4294967296+u1) / (y1*4294967296+y0))):=fun ht=>by
  obtain⟨hI2,hq1⟩:=aPa hH hI ht;obtain⟨e1,e2⟩:=aX3 hH hI hr hq1;rw [e1,e2];cases h2:(decide ((r+y1:Int)≥4294967296))
  case true=>have h3:=eS h2;have hb:=hI.q1;rw [cond_true];exact .inr ⟨_,rfl,by rw [←aT9 hH hI2 oM h3]⟩
  have h3:=iF h2;rw [cond_false];exact .inl ⟨_,rfl,⟨q - 1,r+y1,rfl,hI2,by omega⟩,by show tN (4294967296 - (r+y1)) < tN (4294967296 - r);omega⟩
 cases h0:(decide ((q:Int)≥4294967296))
 case true=>have:=go (.inl (eS h0));simp only [rX,h0,cond_true];exact this
 have hq:=iF h0;obtain⟨e1,e2⟩:=bC6 hH hI hr oM;cases h1:(decide ((iW .u64 (q*y0):Int) > (iW .u64 ((iW .u64 (4294967296*r))+u1))))
 case true=>have ht:=eS h1;rw [e1,e2] at ht;have:=go (.inr ht);simp only [rX,h0,h1,vF];exact this
 have ht:=iF h1;rw [e1,e2] at ht;refine .inr ⟨hG a0 a1 a2 (y,s,y1,y0,u2,u1,u0,q),by simp only [rX,h0,h1,cond_false],?_⟩;rw [←aIe hH hI oM]
theorem bFh {a0 a1 a2 s y1 y0 u2 u1 u0:Int} (hH:KnH u2 u1 y1 y0)(h0:0<=u0/\u0 < 4294967296) :
 hG a0 a1 a2 (y1*4294967296+y0,s,y1,y0,u2,u1,u0,(u2*4294967296+u1) / (y1*4294967296+y0)) =
  (((u2*4294967296+u1)*4294967296+u0) / (y1*4294967296+y0),fD (((u2*4294967296+u1)*4294967296+u0) % (y1*4294967296+y0)) (2 ^ (min (tN s) 64))):=by
 obtain⟨a,b,c,d⟩:=hH;have hY:0 < y1*4294967296+y0:=by omega
 have n1:=Int.mul_ediv_add_emod (u2*4294967296+u1) (y1*4294967296+y0);have n2:=Int.emod_nonneg (u2*4294967296+u1) (show y1*4294967296+y0≠0 by omega);have n3:=Int.emod_lt_of_pos (u2*4294967296+u1) hY;have nq:(u2*4294967296+u1) / (y1*4294967296+y0) < 4294967296:=Int.ediv_lt_of_lt_mul hY oM;have nq0:0<=(u2*4294967296+u1) / (y1*4294967296+y0):=Int.ediv_nonneg oM oM;have hmc:(u2*4294967296+u1) / (y1*4294967296+y0)*(y1*4294967296+y0)=(y1*4294967296+y0)*((u2*4294967296+u1) / (y1*4294967296+y0)):=Int.mul_comm _ _;have hu:(iW .u64 ((iW .u64 ((iW .u64 (u2*4294967296))+u1)) - (iW .u64 ((u2*4294967296+u1) / (y1*4294967296+y0)*(y1*4294967296+y0)))))=(u2*4294967296+u1) % (y1*4294967296+y0):=by
  simp only [pI];rw [hmc];generalize (y1*4294967296+y0)*((u2*4294967296+u1) / (y1*4294967296+y0))=p at *;generalize (u2*4294967296+u1) % (y1*4294967296+y0)=m at *;omega
 unfold hG;simp only [hu];have hall:=aZ8 (u2:=u2) (u1:=u1) (u0:=u0) hY;have hmod:u2*4294967296+u1 - (u2*4294967296+u1) / (y1*4294967296+y0)*(y1*4294967296+y0)=(u2*4294967296+u1) % (y1*4294967296+y0):=by omega
 rw [hmod] at hall;generalize hQ:(u2*4294967296+u1) / (y1*4294967296+y0)=Q at *;generalize hm:(u2*4294967296+u1) % (y1*4294967296+y0)=m at *;have hH2:KnH m u0 y1 y0:=⟨⟨n2,n3⟩,h0,c,d⟩;obtain⟨e1,e2,e3,e4⟩:=aT8 (u:=m) (y:=y1) oM oM;obtain⟨i1,i2⟩:=aO9 hH2;rw [e2,e1];rw [bFf _ hH2 i1 oM oM];have m1:=Int.mul_ediv_add_emod (m*4294967296+u0) (y1*4294967296+y0);have m2:=Int.emod_nonneg (m*4294967296+u0) (show y1*4294967296+y0≠0 by omega);have m3:=Int.emod_lt_of_pos (m*4294967296+u0) hY;have mq:(m*4294967296+u0) / (y1*4294967296+y0) < 4294967296:=Int.ediv_lt_of_lt_mul hY oM;have mq0:0<=(m*4294967296+u0) / (y1*4294967296+y0):=Int.ediv_nonneg oM oM;have mmc:(m*4294967296+u0) / (y1*4294967296+y0)*(y1*4294967296+y0)=(y1*4294967296+y0)*((m*4294967296+u0) / (y1*4294967296+y0)):=Int.mul_comm _ _;obtain⟨r1,r2⟩:=aZ9 hY hall oM oM;rw [←r1,←r2];unfold dvR;rw [eA];constructor
 ·rw [nP (n:=Q*4294967296) oM,nP oM]
 ·congr 1;simp only [pI];rw [mmc];generalize (y1*4294967296+y0)*((m*4294967296+u0) / (y1*4294967296+y0))=p at *;omega
theorem aUa {a b:Int} {k:Nat} (ha:0<=a)(hb:0<=b/\b < 2 ^ k)(h:a*2 ^ k+b < 18446744073709551616):((bO 64 (a*2 ^ k) ||| bO 64 b).toNat:Int)=a*2 ^ k+b:=by
 obtain⟨x,rfl⟩:∃n:Nat,a=(n:Int):=⟨a.toNat,by omega⟩;obtain⟨y,rfl⟩:∃n:Nat,b=(n:Int):=⟨b.toNat,by omega⟩;have e:(x:Int)*2 ^ k=((2 ^ k*x:Nat):Int):=by push_cast;rw [Int.mul_comm]
 have hy:y < 2 ^ k:=by
  have h2:=hb.2;have:((2:Int) ^ k)=((2 ^ k:Nat):Int):=by push_cast;rfl
  rw [this] at h2;omega
 rw [e] at h ⊢;rw [BitVec.toNat_or,BitVec.toNat_ofInt,BitVec.toNat_ofInt];have h1:((2 ^ k*x:Nat):Int) % ((2 ^ 64:Nat):Int)=((2 ^ k*x:Nat):Int):=Int.emod_eq_of_lt oM oM;have h2:((y:Nat):Int) % ((2 ^ 64:Nat):Int)=((y:Nat):Int):=Int.emod_eq_of_lt oM oM;rw [h1,h2,iB,iB,←Nat.two_pow_add_eq_or_of_lt hy];push_cast;rfl
theorem aUb {hi lo y:Int} (h:DvP hi lo y):jR hi lo y=((hi*18446744073709551616+lo) / y,(hi*18446744073709551616+lo) % y):=by
 obtain⟨hy,hh,hl⟩:=h;obtain⟨k,k1,k2,k3,k4,k5⟩:=bC4 hy;have es:=bC5 k1 k3;unfold jR;rw [show((y:Int) == 0)=false from beq_eq_false_iff_ne.2 oM,cond_false,cA (by omega:¬(y:Int)<=hi),cond_false];cases h0:((hi:Int) == 0)
 case true=>have e0:=eq_of_beq h0;subst e0;rw [cond_true,Int.tdiv_eq_ediv_of_nonneg hl.1,Int.tmod_eq_emod_of_nonneg hl.1];have h1:0<=lo / y:=Int.ediv_nonneg hl.1 oM;have h2:lo / y<=lo:=Int.ediv_le_self _ hl.1;rw [nP oM];simp
 rw [cond_false,es];have hpk:(0:Int) < 2 ^ k:=Int.pow_pos oM;have hpq:(0:Int) < 2 ^ (64 - k):=Int.pow_pos oM;have hPQ:(2:Int) ^ k*2 ^ (64 - k)=18446744073709551616:=by rw [←Int.pow_add,show k+(64 - k)=64 by omega];rfl
 have e64:(min (tN (iW .u64 (64 - (iW .u64 (cG y))))) 64)=64 - k:=by
  rw [k1,nP (n:=((k:Nat):Int)) oM,nP oM];omega
 rw [e64];have fd:∀(z:Int) (m:Nat),fD z (2 ^ m)=z / 2 ^ m:=fun z m=>Int.fdiv_eq_ediv_of_nonneg _ (Int.le_of_lt (Int.pow_pos oM))
 have hhy:hi*2 ^ k < y*2 ^ k:=Int.mul_lt_mul_of_pos_right hh.2 hpk;have hh1:(hi+1)*2 ^ k<=y*2 ^ k:=Int.mul_le_mul_of_nonneg_right oM oM;have hh2:(hi+1)*2 ^ k=hi*2 ^ k+2 ^ k:=by rw [Int.add_mul,Int.one_mul]
 have hh0:0<=hi*2 ^ k:=Int.mul_nonneg hh.1 oM;have hlq:0<=lo / 2 ^ (64 - k):=Int.ediv_nonneg hl.1 oM;have hlq2:lo / 2 ^ (64 - k) < 2 ^ k:=Int.ediv_lt_of_lt_mul hpq (by rw [hPQ];exact hl.2);rw [nP (n:=y*2 ^ k) oM,nP (n:=hi*2 ^ k) oM,fd lo (64 - k),aUa hh.1 ⟨hlq,hlq2⟩ oM,nP (n:=hi*2 ^ k+lo / 2 ^ (64 - k)) oM];simp only [aHp,aSh];have hY1:2147483648<=y*2 ^ k / 4294967296/\y*2 ^ k / 4294967296 < 4294967296:=by omega
 obtain⟨c1,c2⟩:=aQk (lo*2 ^ k);have eY:y*2 ^ k / 4294967296*4294967296+y*2 ^ k % 4294967296=y*2 ^ k:=by omega
 have hH:KnH (hi*2 ^ k+lo / 2 ^ (64 - k)) (iW .u64 (lo*2 ^ k) / 4294967296) (y*2 ^ k / 4294967296) (y*2 ^ k % 4294967296):=⟨⟨by omega,by rw [eY];omega⟩,by omega,hY1,by omega⟩;obtain⟨e1,e2,e3,e4⟩:=aT8 (u:=hi*2 ^ k+lo / 2 ^ (64 - k)) (y:=y*2 ^ k / 4294967296) oM oM;obtain⟨i1,i2⟩:=aO9 hH;have um:iW .u64 (y*2 ^ k % 4294967296)=y*2 ^ k % 4294967296:=nP oM;have um2:iW .u64 (iW .u64 (lo*2 ^ k) % 4294967296)=iW .u64 (lo*2 ^ k) % 4294967296:=nP oM;rw [e2,e1,um,um2];rw [bFg _ hH i1 oM oM];have hj:=bFh (a0:=hi) (a1:=lo) (a2:=y) (s:=iW .u64 (cG y)) (u0:=iW .u64 (lo*2 ^ k) % 4294967296) hH oM;rw [eY] at hj ⊢;rw [hj,es];have hN:((hi*2 ^ k+lo / 2 ^ (64 - k))*4294967296+iW .u64 (lo*2 ^ k) / 4294967296)*4294967296+iW .u64 (lo*2 ^ k) % 4294967296=(hi*18446744073709551616+lo)*2 ^ k:=by
  have d1:lo*2 ^ k / 18446744073709551616=lo / 2 ^ (64 - k):=by
   rw [←hPQ,Int.mul_comm ((2:Int) ^ k),Int.mul_ediv_mul_of_pos_left _ _ hpk]
  have d2:iW .u64 (lo*2 ^ k)=lo*2 ^ k - lo*2 ^ k / 18446744073709551616*18446744073709551616:=by rw [pI];omega
  have d3:(hi*18446744073709551616+lo)*2 ^ k=hi*2 ^ k*18446744073709551616+lo*2 ^ k:=by rw [Int.add_mul,Int.mul_right_comm]
  rw [d1] at d2;rw [d3];generalize lo*2 ^ k=a at *;generalize hi*2 ^ k=b at *;generalize lo / 2 ^ (64 - k)=c at *;omega
 have hem:(hi*18446744073709551616+lo)*2 ^ k % (y*2 ^ k)=(hi*18446744073709551616+lo) % y*2 ^ k:=by
  rw [Int.mul_comm _ ((2:Int) ^ k),Int.mul_comm y,Int.mul_emod_mul_of_pos _ _ hpk,Int.mul_comm]
 rw [hN,Int.mul_ediv_mul_of_pos_left _ _ hpk,hem,fd,Int.mul_ediv_cancel _ oM]
def aM4 (a0:jY):Int := (W ((W (a0.2.2.2.1+a0.2.2.2.2.2.2.1))+a0.2.2.2.2.2.2.2.2))
def kS1 (x:Int×Int×(Int×Int×Int)×Int×Int×Int×Int×Int×Int):List SV:=[(iv x.1),(iv x.2.1),(iv x.2.2.1.1),(iv x.2.2.1.2.1),(iv x.2.2.1.2.2),(iv x.2.2.2.1),(iv x.2.2.2.2.1),(iv x.2.2.2.2.2.1),(iv x.2.2.2.2.2.2.1),(iv x.2.2.2.2.2.2.2.1),(iv x.2.2.2.2.2.2.2.2)]
theorem bFi (a0:jY):Con Tryz.prog 145 [(.a (kS1 a0))] [] (iv (aM4 a0)) []:=by
 refine cS Tryz.func145 fun cx hcx=>?_
 exact rT [.i 0 6,.i 3 6,.i 5 6] hcx
noncomputable def yV:=dY [1,0,1,0,0] [] (aV Tryz.f141)
def yW (a0:jY):LS:=⟨gU 35 [],[]⟩
def rY (a0:jY):Unit->Int | () => 1
theorem aIf (a0:jY) {cx:Cx} (hcx:cx.base=0):True->gG Tryz.f141 cx (iv (rY a0 ())) [] [] (.c yV.1::yV.2) (yW a0):=by
 intro hi;exact rT [] hcx
def aAl (a0:jY):Int := (bif (!(tL a0.2.1 0 1048576))then(rY a0 ())else(bif (!(tL a0.1 (W (0 - a0.2.1)) a0.2.1))then(rY a0 ())else(bif (!(F91 a0.2.2.1 1073741824))then(rY a0 ())else(bif (!(tL a0.2.2.2.1 (-17179869184) 17179869184))then 1 else(bif (!(tL a0.2.2.2.2.1 (-17179869184) 17179869184))then 1 else(bif (!(tL a0.2.2.2.2.2.1 (-17179869184) 17179869184))then 1 else(bif (!(tL a0.2.2.2.2.2.2.1 (-17179869184) 17179869184))then 1 else(bif (!(tL a0.2.2.2.2.2.2.2.1 (-17179869184) 17179869184))then 1 else(bif (!(tL a0.2.2.2.2.2.2.2.2 (-17179869184) 17179869184))then 1 else 0)))))))))
theorem bFj (a0:jY):Con Tryz.prog 141 [(.a (kS1 a0))] [] (iv (aAl a0)) []:=by
 refine cS Tryz.func141 fun cx hcx=>?_
 let t0:SL:=[.c [] (C98 a0.2.1 0 1048576)];rw [aAl];cases h0:(!(tL a0.2.1 0 1048576))
 case true=>refine gA (t0++[.d h0,.z 2]) [] [] hcx yV (yW a0) ?_;exact aIf a0 hcx trivial
 let t1:SL:=t0++[.d h0,.c [] (C98 a0.1 (W (0 - a0.2.1)) a0.2.1)];cases h1:(!(tL a0.1 (W (0 - a0.2.1)) a0.2.1))
 case true=>refine gA (t1++[.d h1,.z 2]) [] [] hcx yV (yW a0) ?_;exact aIf a0 hcx trivial
 let t2:SL:=t1++[.d h1,.c [] (C91 a0.2.2.1 1073741824)];cases h2:(!(F91 a0.2.2.1 1073741824))
 case true=>refine gA (t2++[.d h2,.z 2]) [] [] hcx yV (yW a0) ?_;exact aIf a0 hcx trivial
 let t3:SL:=t2++[.d h2,.u 200,.T,.i 0 6,.c [] (C98 a0.2.2.2.1 (-17179869184) 17179869184)];cases h3:(!(tL a0.2.2.2.1 (-17179869184) 17179869184))
 case true=>exact rT (t3++[.d h3]) hcx
 let t4:SL:=t3++[.d h3,.u 0,.T,.i 1 6,.c [] (C98 a0.2.2.2.2.1 (-17179869184) 17179869184)];cases h4:(!(tL a0.2.2.2.2.1 (-17179869184) 17179869184))
 case true=>exact rT (t4++[.d h4]) hcx
 let t5:SL:=t4++[.d h4,.u 0,.T,.i 2 6,.c [] (C98 a0.2.2.2.2.2.1 (-17179869184) 17179869184)];cases h5:(!(tL a0.2.2.2.2.2.1 (-17179869184) 17179869184))
 case true=>exact rT (t5++[.d h5]) hcx
 let t6:SL:=t5++[.d h5,.u 0,.T,.i 3 6,.c [] (C98 a0.2.2.2.2.2.2.1 (-17179869184) 17179869184)];cases h6:(!(tL a0.2.2.2.2.2.2.1 (-17179869184) 17179869184))
 case true=>exact rT (t6++[.d h6]) hcx
 let t7:SL:=t6++[.d h6,.u 0,.T,.i 4 6,.c [] (C98 a0.2.2.2.2.2.2.2.1 (-17179869184) 17179869184)];cases h7:(!(tL a0.2.2.2.2.2.2.2.1 (-17179869184) 17179869184))
 case true=>exact rT (t7++[.d h7]) hcx
 let t8:SL:=t7++[.d h7,.u 0,.T,.i 5 6,.c [] (C98 a0.2.2.2.2.2.2.2.2 (-17179869184) 17179869184)];cases h8:(!(tL a0.2.2.2.2.2.2.2.2 (-17179869184) 17179869184))
 case true=>exact rT (t8++[.d h8]) hcx
 exact rT (t8++[.d h8,.u 0,.F]) hcx
def aQl (a0:Zt)(a1:Int):Int := (bif (!(F91 a0 384))then 1 else(bif (!(tL a1 0 2))then 1 else(bif (((a0.1:Int) == 0)&&(((a0.2.1:Int) == 0)&&(((a0.2.2:Int) == 0)&&true)))then 11 else 0)))
theorem bFk (a0:Zt)(a1:Int):Con Tryz.prog 142 [(.a (k3 a0)),(iv a1)] [] (iv (aQl a0 a1)) []:=by
 refine cS Tryz.func142 fun cx hcx=>?_
 let t0:SL:=[.c [] (C91 a0 384)];rw [aQl];cases h0:(!(F91 a0 384))
 case true=>exact rT (t0++[.d h0]) hcx
 let t1:SL:=t0++[.d h0,.c [] (C98 a1 0 2)];cases h1:(!(tL a1 0 2))
 case true=>exact rT (t1++[.d h1]) hcx
 let t2:SL:=t1++[.d h1];cases h2:(((a0.1:Int) == 0)&&(((a0.2.1:Int) == 0)&&(((a0.2.2:Int) == 0)&&true)))
 case true=>exact rT (t2++[.d h2]) hcx
 exact rT (t2++[.d h2]) hcx
def F95 (a0:jY)(a1:Zt)(a2:Int):Int := (bif (((aAl a0):Int) != 0)then(aAl a0)else(aQl a1 a2))
theorem C95 (a0:jY)(a1:Zt)(a2:Int):Con Tryz.prog 95 [(.a (kS1 a0)),(.a (k3 a1)),(iv a2)] [] (iv (F95 a0 a1 a2)) []:=by
 refine cS Tryz.func95 fun cx hcx=>?_
 let t0:SL:=[.c [] (bFj a0)];rw [F95];cases h0:(((aAl a0):Int) != 0)
 case true=>exact rT (t0++[.d h0]) hcx
 exact rT (t0++[.d h0,.c [] (bFk a1 a2)]) hcx
structure UOK (u:Zt):Prop where
 bd:(-384<=u.1/\u.1<=384)/\(-384<=u.2.1/\u.2.1<=384)/\(-384<=u.2.2/\u.2.2<=384)
 nz:u.1≠0\/u.2.1≠0\/u.2.2≠0
theorem lV (n a b:Int):tL n a b=decide (a<=n/\n<=b):=by
 unfold tL;by_cases h1:a<=n<;>by_cases h2:n<=b<;>simp [h1,h2]
theorem bC7 {n a b:Int} (h:(!tL n a b)=false):a<=n/\n<=b:=by
 rw [lV] at h;simpa using h
theorem yX {a:Int} (h:-384<=a/\a<=384):0<=a*a/\a*a<=147456/\(a≠0->1<=a*a):=by
 have h1:=dM (a:=384) (b:=384) (x:=a) (y:=a) oM oM;have h2:0<=a*a:=by
  rcases Int.lt_or_le a 0 with h | h
  ·exact Int.mul_nonneg_of_nonpos_of_nonpos oM oM
  ·exact Int.mul_nonneg h h
 refine⟨h2,by omega,fun hn=>?_⟩;have:a*a≠0:=Int.mul_ne_zero hn hn;omega
def n2 (u:Zt):Int:=u.1*u.1+u.2.1*u.2.1+u.2.2*u.2.2
theorem aGk {u:Zt} (h:UOK u):1<=n2 u/\n2 u<=442368:=by
 obtain⟨a1,a2,a3⟩:=yX h.bd.1;obtain⟨b1,b2,b3⟩:=yX h.bd.2.1;obtain⟨c1,c2,c3⟩:=yX h.bd.2.2;unfold n2;refine⟨?_,by omega⟩;rcases h.nz with h' | h' | h'
 ·have:=a3 h';omega
 ·have:=b3 h';omega
 ·have:=c3 h';omega
theorem aAm {u:Zt} (hb:(-384<=u.1/\u.1<=384)/\(-384<=u.2.1/\u.2.1<=384)/\(-384<=u.2.2/\u.2.2<=384)):dC u u=n2 u:=by
 obtain⟨a1,a2,a3⟩:=yX hb.1;obtain⟨b1,b2,b3⟩:=yX hb.2.1;obtain⟨c1,c2,c3⟩:=yX hb.2.2;unfold dC n2;rw [aH (n:=u.1*u.1) oM oM,aH (n:=u.2.1*u.2.1) oM oM,aH (n:=u.2.2*u.2.2) oM oM,aH (n:=u.1*u.1+u.2.1*u.2.1) oM oM,aH oM oM]
theorem aPb {u:Zt} (h:UOK u):1<=n2 u*n2 u/\n2 u*n2 u<=195689447424:=by
 have hb:=aGk h;have h1:=dM (a:=442368) (b:=442368) (x:=n2 u) (y:=n2 u) oM oM;have h2:0 < n2 u*n2 u:=Int.mul_pos oM oM;omega
theorem aX4 {u:Zt} (h:UOK u):W (3*(dC u u))=3*n2 u:=by
 have hb:=aGk h;rw [aAm h.bd,aH oM oM]
theorem aUc {u:Zt} (h:UOK u):W ((W (24*(dC u u)))*(dC u u))=24*(n2 u*n2 u):=by
 have hb:=aGk h;have hs:=aPb h;have e:24*n2 u*n2 u=24*(n2 u*n2 u):=Int.mul_assoc _ _ _;rw [aAm h.bd,aH (n:=24*n2 u) oM oM,e,aH oM oM]
theorem bAa {u:Zt} (h:UOK u):0 < W (3*(dC u u))/\W (3*(dC u u)) < 9223372036854775808:=by
 have hb:=aGk h;rw [aX4 h];omega
theorem bAb {u:Zt} (h:UOK u):0 < W ((W (24*(dC u u)))*(dC u u))/\W ((W (24*(dC u u)))*(dC u u)) < 9223372036854775808:=by
 have hs:=aPb h;rw [aUc h];omega
theorem bAc {n d:Int} (hd:0 < d/\d < 9223372036854775808)(h:¬(bY n 1048576).1≥iW .u64 d):DvP (bY n 1048576).1 (bY n 1048576).2 (iW .u64 d):=by
 have e:iW .u64 d=d:=nP oM;have h1:0<=(bY n 1048576).1:=by unfold bY;exact(aQk _).1
 have h2:0<=(bY n 1048576).2/\(bY n 1048576).2 < 18446744073709551616:=by unfold bY;exact aQk _
 rw [e] at h ⊢;exact⟨hd,⟨h1,by omega⟩,h2⟩
theorem aUd {p:Zt} {k:Int} (hk:0<=k/\k<=1073741824):F91 p k=true↔(-k<=p.1/\p.1<=k)/\(-k<=p.2.1/\p.2.1<=k)/\(-k<=p.2.2/\p.2.2<=k):=by
 unfold F91;rw [lV,lV,lV,aH (n:=0 - k) oM oM];by_cases h1:0 - k<=p.1/\p.1<=k<;>by_cases h2:0 - k<=p.2.1/\p.2.1<=k<;>by_cases h3:0 - k<=p.2.2/\p.2.2<=k<;>simp [h1,h2,h3]<;>omega
theorem bAd {u:Zt} {o:Int} (h:aQl u o=0):UOK u/\0<=o/\o<=2:=by
 unfold aQl at h;cases h1:F91 u 384
 case false=>rw [h1] at h;simp only [Bool.not_false,cond_true] at h;exact absurd h (by decide)
 have hn:=(aUd oM).1 h1;rw [h1,lV] at h;by_cases h2:0<=o/\o<=2
 ·rw [bX h2] at h;simp only [Bool.not_true,cond_false] at h;refine⟨⟨by omega,?_⟩,h2⟩;by_cases a:u.1=0
  ·by_cases b:u.2.1=0
   ·by_cases c:u.2.2=0
    ·rw [a,b,c] at h;exact absurd h (by decide)
    ·exact .inr (.inr c)
   ·exact .inr (.inl b)
  ·exact .inl a
 ·rw [cA h2] at h;simp only [Bool.not_true,Bool.not_false,vF] at h;exact absurd h (by decide)
theorem bAe {m:jY} {u:Zt} {o:Int} (h:((F95 m u o:Int) != 0)=false):aAl m=0/\UOK u/\0<=o/\o<=2:=by
 have h:=bne_eq_false_iff_eq.1 h;unfold F95 at h;cases h1:((aAl m:Int) != 0)
 case true=>rw [h1,cond_true] at h;exact absurd h (bne_iff_ne.1 h1)
 rw [h1,cond_false] at h;exact⟨bne_eq_false_iff_eq.1 h1,bAd h⟩
def kD (a0:Zt):Zt := a0
theorem nQ (a0:Zt):Con Tryz.prog 94 [(.a (k3 a0))] [] (.a (k3 (kD a0))) []:=by
 refine cS Tryz.func94 fun cx hcx=>?_
 exact rT [] hcx
def F93:Zs×Zs×Zs×Zs×Zs×Int×Int := ((0,0),(0,1),(0,2),(1,1),(1,2),(2,2))
theorem C93:Con Tryz.prog 93 [] [] (.a [(iv F93.1.1),(iv F93.1.2),(iv F93.2.1.1),(iv F93.2.1.2),(iv F93.2.2.1.1),(iv F93.2.2.1.2),(iv F93.2.2.2.1.1),(iv F93.2.2.2.1.2),(iv F93.2.2.2.2.1.1),(iv F93.2.2.2.2.1.2),(iv F93.2.2.2.2.2.1),(iv F93.2.2.2.2.2.2)]) []:=by
 refine cS Tryz.func93 fun cx hcx=>?_
 exact rT [] hcx
def aEh (a0 a1:Int):Zs×Bool := (bif (decide (((bY (iW .u64 (bT a0 (W (0 - a0)))) 1048576).1:Int)≥(iW .u64 a1)))then((0,0),false)else(bif (decide (((jR (bY (iW .u64 (bT a0 (W (0 - a0)))) 1048576).1 (bY (iW .u64 (bT a0 (W (0 - a0)))) 1048576).2 (iW .u64 a1)).1:Int) > 1099511627776))then((0,0),false)else(bif (decide (((jR (bY (iW .u64 (bT a0 (W (0 - a0)))) 1048576).1 (bY (iW .u64 (bT a0 (W (0 - a0)))) 1048576).2 (iW .u64 a1)).2:Int) > 0))then(bif (decide ((a0:Int) < 0))then(((W (0 - (W ((W (jR (bY (iW .u64 (bT a0 (W (0 - a0)))) 1048576).1 (bY (iW .u64 (bT a0 (W (0 - a0)))) 1048576).2 (iW .u64 a1)).1)+1)))),(W (0 - (W (jR (bY (iW .u64 (bT a0 (W (0 - a0)))) 1048576).1 (bY (iW .u64 (bT a0 (W (0 - a0)))) 1048576).2 (iW .u64 a1)).1)))),(uZ ((W (0 - (W ((W (jR (bY (iW .u64 (bT a0 (W (0 - a0)))) 1048576).1 (bY (iW .u64 (bT a0 (W (0 - a0)))) 1048576).2 (iW .u64 a1)).1)+1)))),(W (0 - (W (jR (bY (iW .u64 (bT a0 (W (0 - a0)))) 1048576).1 (bY (iW .u64 (bT a0 (W (0 - a0)))) 1048576).2 (iW .u64 a1)).1))))))else(((W (jR (bY (iW .u64 (bT a0 (W (0 - a0)))) 1048576).1 (bY (iW .u64 (bT a0 (W (0 - a0)))) 1048576).2 (iW .u64 a1)).1),(W ((W (jR (bY (iW .u64 (bT a0 (W (0 - a0)))) 1048576).1 (bY (iW .u64 (bT a0 (W (0 - a0)))) 1048576).2 (iW .u64 a1)).1)+1))),(uZ ((W (jR (bY (iW .u64 (bT a0 (W (0 - a0)))) 1048576).1 (bY (iW .u64 (bT a0 (W (0 - a0)))) 1048576).2 (iW .u64 a1)).1),(W ((W (jR (bY (iW .u64 (bT a0 (W (0 - a0)))) 1048576).1 (bY (iW .u64 (bT a0 (W (0 - a0)))) 1048576).2 (iW .u64 a1)).1)+1))))))else(bif (decide ((a0:Int) < 0))then(((W (0 - (W (jR (bY (iW .u64 (bT a0 (W (0 - a0)))) 1048576).1 (bY (iW .u64 (bT a0 (W (0 - a0)))) 1048576).2 (iW .u64 a1)).1))),(W (0 - (W (jR (bY (iW .u64 (bT a0 (W (0 - a0)))) 1048576).1 (bY (iW .u64 (bT a0 (W (0 - a0)))) 1048576).2 (iW .u64 a1)).1)))),(uZ ((W (0 - (W (jR (bY (iW .u64 (bT a0 (W (0 - a0)))) 1048576).1 (bY (iW .u64 (bT a0 (W (0 - a0)))) 1048576).2 (iW .u64 a1)).1))),(W (0 - (W (jR (bY (iW .u64 (bT a0 (W (0 - a0)))) 1048576).1 (bY (iW .u64 (bT a0 (W (0 - a0)))) 1048576).2 (iW .u64 a1)).1))))))else(((W (jR (bY (iW .u64 (bT a0 (W (0 - a0)))) 1048576).1 (bY (iW .u64 (bT a0 (W (0 - a0)))) 1048576).2 (iW .u64 a1)).1),(W (jR (bY (iW .u64 (bT a0 (W (0 - a0)))) 1048576).1 (bY (iW .u64 (bT a0 (W (0 - a0)))) 1048576).2 (iW .u64 a1)).1)),(uZ ((W (jR (bY (iW .u64 (bT a0 (W (0 - a0)))) 1048576).1 (bY (iW .u64 (bT a0 (W (0 - a0)))) 1048576).2 (iW .u64 a1)).1),(W (jR (bY (iW .u64 (bT a0 (W (0 - a0)))) 1048576).1 (bY (iW .u64 (bT a0 (W (0 - a0)))) 1048576).2 (iW .u64 a1)).1))))))))
theorem bFl (a0 a1:Int)(hd:0 < a1/\a1 < 9223372036854775808):Con Tryz.prog 176 [(iv a0),(iv a1)] [] (.t [(.a (k2 (aEh a0 a1).1)),(.v (.bool (aEh a0 a1).2))]) []:=by
 refine cS Tryz.func176 fun cx hcx=>?_
 let t0:SL:=[.c [] (aZi (iW .u64 (bT a0 (W (0 - a0)))) 1048576)];rw [aEh];cases h0:(decide (((bY (iW .u64 (bT a0 (W (0 - a0)))) 1048576).1:Int)≥(iW .u64 a1)))
 case true=>exact rT (t0++[.d h0]) hcx
 let t1:SL:=t0++[.d h0,.c [] (bFe (bY (iW .u64 (bT a0 (W (0 - a0)))) 1048576).1 (bY (iW .u64 (bT a0 (W (0 - a0)))) 1048576).2 (iW .u64 a1)  (bAc hd (iF h0)))];cases h1:(decide (((jR (bY (iW .u64 (bT a0 (W (0 - a0)))) 1048576).1 (bY (iW .u64 (bT a0 (W (0 - a0)))) 1048576).2 (iW .u64 a1)).1:Int) > 1099511627776))
 case true=>exact rT (t1++[.d h1]) hcx
 let t2:SL:=t1++[.d h1];cases h2:(decide (((jR (bY (iW .u64 (bT a0 (W (0 - a0)))) 1048576).1 (bY (iW .u64 (bT a0 (W (0 - a0)))) 1048576).2 (iW .u64 a1)).2:Int) > 0))
 case true=>
  let t3:SL:=t2++[.d h2];cases h3:(decide ((a0:Int) < 0))
  case true=>exact rT (t3++[.d h3,.c [] (C55 ((W (0 - (W ((W (jR (bY (iW .u64 (bT a0 (W (0 - a0)))) 1048576).1 (bY (iW .u64 (bT a0 (W (0 - a0)))) 1048576).2 (iW .u64 a1)).1)+1)))),(W (0 - (W (jR (bY (iW .u64 (bT a0 (W (0 - a0)))) 1048576).1 (bY (iW .u64 (bT a0 (W (0 - a0)))) 1048576).2 (iW .u64 a1)).1)))))]) hcx
  exact rT (t3++[.d h3,.c [] (C55 ((W (jR (bY (iW .u64 (bT a0 (W (0 - a0)))) 1048576).1 (bY (iW .u64 (bT a0 (W (0 - a0)))) 1048576).2 (iW .u64 a1)).1),(W ((W (jR (bY (iW .u64 (bT a0 (W (0 - a0)))) 1048576).1 (bY (iW .u64 (bT a0 (W (0 - a0)))) 1048576).2 (iW .u64 a1)).1)+1))))]) hcx
 let t3:SL:=t2++[.d h2];cases h3:(decide ((a0:Int) < 0))
 case true=>exact rT (t3++[.d h3,.c [] (C55 ((W (0 - (W (jR (bY (iW .u64 (bT a0 (W (0 - a0)))) 1048576).1 (bY (iW .u64 (bT a0 (W (0 - a0)))) 1048576).2 (iW .u64 a1)).1))),(W (0 - (W (jR (bY (iW .u64 (bT a0 (W (0 - a0)))) 1048576).1 (bY (iW .u64 (bT a0 (W (0 - a0)))) 1048576).2 (iW .u64 a1)).1)))))]) hcx
 exact rT (t3++[.d h3,.c [] (C55 ((W (jR (bY (iW .u64 (bT a0 (W (0 - a0)))) 1048576).1 (bY (iW .u64 (bT a0 (W (0 - a0)))) 1048576).2 (iW .u64 a1)).1),(W (jR (bY (iW .u64 (bT a0 (W (0 - a0)))) 1048576).1 (bY (iW .u64 (bT a0 (W (0 - a0)))) 1048576).2 (iW .u64 a1)).1)))]) hcx
def kc5 (n:Int):SV:=.v (.int .u8 n)
theorem K5:KeyOK T0 5 kc5:=aYg (fun _=>by kernel_rfl) (fun _ _=>by kernel_rfl)
theorem bFm:Con Tryz.prog 204 [] [] (.m 0) [(.map (Aw.mapE kc5 (fun x=>x) [(43,(.a [(.v (.func (.func 206) #[] #[])),(.v (.func (.func 207) #[] #[]))])),(45,(.a [(.v (.func (.func 206) #[] #[])),(.v (.func (.func 208) #[] #[]))])),(42,(.a [(.v (.func (.func 206) #[] #[])),(.v (.func (.func 209) #[] #[]))])),(47,(.a [(.v (.func (.func 213) #[] #[])),(.v (.func (.func 214) #[] #[]))]))]))]:=by
 refine cS Tryz.func204 fun cx hcx=>?_
 exact rt [.mPl K5 [] 43 (.a [(.v (.func (.func 206) #[] #[])),(.v (.func (.func 207) #[] #[]))]),.mPl K5 [(43,(.a [(.v (.func (.func 206) #[] #[])),(.v (.func (.func 207) #[] #[]))]))] 45 (.a [(.v (.func (.func 206) #[] #[])),(.v (.func (.func 208) #[] #[]))]),.mPl K5 [(43,(.a [(.v (.func (.func 206) #[] #[])),(.v (.func (.func 207) #[] #[]))])),(45,(.a [(.v (.func (.func 206) #[] #[])),(.v (.func (.func 208) #[] #[]))]))] 42 (.a [(.v (.func (.func 206) #[] #[])),(.v (.func (.func 209) #[] #[]))]),.mPl K5 [(43,(.a [(.v (.func (.func 206) #[] #[])),(.v (.func (.func 207) #[] #[]))])),(45,(.a [(.v (.func (.func 206) #[] #[])),(.v (.func (.func 208) #[] #[]))])),(42,(.a [(.v (.func (.func 206) #[] #[])),(.v (.func (.func 209) #[] #[]))]))] 47 (.a [(.v (.func (.func 213) #[] #[])),(.v (.func (.func 214) #[] #[]))])] [] [0] hcx oK
def aWh (a0:Zs):Int := 0
theorem bFn (a0:Zs):Con Tryz.prog 206 [(.a [(iv a0.1),(iv a0.2)])] [] (iv (aWh a0)) []:=by
 refine cS Tryz.func206 fun cx hcx=>?_
 exact rT [] hcx
def aK7 (a0 a1:Int):Int := (W ((W ((fD a0 (2 ^ (min (tN 20) 64)))*a1))+(fD (W ((W ((bO 64 a0 &&& bO 64 1048575).toNat:Int))*a1)) (2 ^ (min (tN 20) 64)))))
theorem aUe (a0 a1:Int):Con Tryz.prog 211 [(iv a0),(iv a1)] [] (iv (aK7 a0 a1)) []:=by
 refine cS Tryz.func211 fun cx hcx=>?_
 exact rT [.p (show 0<=(20:Int) from by decide),.p (show 0<=(20:Int) from by decide)] hcx
def aM5 (a0 a1:Int):Int := (W (0 - (aK7 (W (0 - a0)) a1)))
theorem aWi (a0 a1:Int):Con Tryz.prog 212 [(iv a0),(iv a1)] [] (iv (aM5 a0 a1)) []:=by
 refine cS Tryz.func212 fun cx hcx=>?_
 exact rT [.c [] (aUe (W (0 - a0)) a1)] hcx
def eJ (a0 a1:Zs):Zs := ((hP (hP (hP (aK7 a0.1 a1.1) (aK7 a0.1 a1.2)) (aK7 a0.2 a1.1)) (aK7 a0.2 a1.2)),(bT (bT (bT (aM5 a0.1 a1.1) (aM5 a0.1 a1.2)) (aM5 a0.2 a1.1)) (aM5 a0.2 a1.2)))
theorem aEi (a0 a1:Zs):Con Tryz.prog 210 [(.a [(iv a0.1),(iv a0.2)]),(.a [(iv a1.1),(iv a1.2)]),(.v (.func (.func 211) #[] #[])),(.v (.func (.func 212) #[] #[]))] [] (.t (k2 (eJ a0 a1))) []:=by
 refine cS Tryz.func210 fun cx hcx=>?_
 exact rT [.c [] (aUe a0.1 a1.1),.c [] (aUe a0.1 a1.2),.c [] (aUe a0.2 a1.1),.c [] (aUe a0.2 a1.2),.c [] (aWi a0.1 a1.1),.c [] (aWi a0.1 a1.2),.c [] (aWi a0.2 a1.1),.c [] (aWi a0.2 a1.2)] hcx
def aM6 (a0 a1:Zs):Zs := ((eJ a0 a1).1,(eJ a0 a1).2)
theorem bFo (a0 a1:Zs):Con Tryz.prog 209 [(.a [(iv a0.1),(iv a0.2)]),(.a [(iv a1.1),(iv a1.2)])] [] (.t (k2 (aM6 a0 a1))) []:=by
 refine cS Tryz.func209 fun cx hcx=>?_
 exact rT [.c [] (aEi a0 a1)] hcx
def oX (a1 a2:Zs):Zs×Int := (bif (((aDb (a1,a2)):Int) != 0)then((0,0),(aDb (a1,a2)))else(bif (((aWh a2):Int) != 0)then((0,0),(aWh a2))else((sT (aM6 a1 a2).1 (aM6 a1 a2).2).1,(sT (aM6 a1 a2).1 (aM6 a1 a2).2).2)))
theorem aUf (a1 a2:Zs):Con Tryz.prog 197 [(.v (.int .u8 42)),(.a [(iv a1.1),(iv a1.2)]),(.a [(iv a2.1),(iv a2.2)])] [] (.t [(.a (k2 (oX a1 a2).1)),(iv (oX a1 a2).2)]) []:=by
 refine cS Tryz.func197 fun cx hcx=>?_
 let t0:SL:=[.c [3] (bBj (a1,a2))];rw [oX];cases h0:(((aDb (a1,a2)):Int) != 0)
 case true=>exact rT (t0++[.d h0]) hcx
 let t1:SL:=t0++[.d h0,.c [] (bFm),.mG K5 (fun x=>x) [(43,(.a [(.v (.func (.func 206) #[] #[])),(.v (.func (.func 207) #[] #[]))])),(45,(.a [(.v (.func (.func 206) #[] #[])),(.v (.func (.func 208) #[] #[]))])),(42,(.a [(.v (.func (.func 206) #[] #[])),(.v (.func (.func 209) #[] #[]))])),(47,(.a [(.v (.func (.func 213) #[] #[])),(.v (.func (.func 214) #[] #[]))]))] 42 (.a [(.v .nilFunc),(.v .nilFunc)]),.c [] (bFn a2)];cases h1:(((aWh a2):Int) != 0)
 case true=>exact rT (t1++[.d h1]) hcx
 exact rT (t1++[.d h1,.c [] (bFo a1 a2),.c [] (C57 (aM6 a1 a2).1 (aM6 a1 a2).2)]) hcx
def aQm (a0 a1:Zs):Zs×Int := ((oX a0 a1).1,(oX a0 a1).2)
theorem bFp (a0 a1:Zs):Con Tryz.prog 177 [(.a [(iv a0.1),(iv a0.2)]),(.a [(iv a1.1),(iv a1.2)])] [] (.t [(.a (k2 (aQm a0 a1).1)),(iv (aQm a0 a1).2)]) []:=by
 refine cS Tryz.func177 fun cx hcx=>?_
 exact rT [.c [] (aUf a0 a1)] hcx
def aEj (a0 a1 a2:Int):Zs×Int := (bif (!(aEh a0 a1).2)then((0,0),4)else(bif (((vA a2 1).2:Int) != 0)then((0,0),(vA a2 1).2)else((aQm (aEh a0 a1).1 (vA a2 1).1).1,(aQm (aEh a0 a1).1 (vA a2 1).1).2)))
theorem bC8 (a0 a1 a2:Int)(hd:0 < a1/\a1 < 9223372036854775808):Con Tryz.prog 143 [(iv a0),(iv a1),(iv a2)] [] (.t [(.a (k2 (aEj a0 a1 a2).1)),(iv (aEj a0 a1 a2).2)]) []:=by
 refine cS Tryz.func143 fun cx hcx=>?_
 let t0:SL:=[.c [] (bFl a0 a1  hd)];rw [aEj];cases h0:(!(aEh a0 a1).2)
 case true=>exact rT (t0++[.d h0]) hcx
 let t1:SL:=t0++[.d h0,.c [] (C79 a2 1)];cases h1:(((vA a2 1).2:Int) != 0)
 case true=>exact rT (t1++[.d h1]) hcx
 exact rT (t1++[.d h1,.c [] (bFp (aEh a0 a1).1 (vA a2 1).1)]) hcx
def aK8 (a0:jY)(a1:Zt):Int := (W ((W ((W ((W ((W ((W (0+(W ((W ((kD a1).1*a0.2.2.2.1))*(kD a1).1))))+(W ((W ((W ((kD a1).1*a0.2.2.2.2.1))*(kD a1).2.1))*2))))+(W ((W ((W ((kD a1).1*a0.2.2.2.2.2.1))*(kD a1).2.2))*2))))+(W ((W ((kD a1).2.1*a0.2.2.2.2.2.2.1))*(kD a1).2.1))))+(W ((W ((W ((kD a1).2.1*a0.2.2.2.2.2.2.2.1))*(kD a1).2.2))*2))))+(W ((W ((kD a1).2.2*a0.2.2.2.2.2.2.2.2))*(kD a1).2.2))))
theorem bFq (a0:jY)(a1:Zt):Con Tryz.prog 144 [(.a (kS1 a0)),(.a (k3 a1))] [] (iv (aK8 a0 a1)) []:=by
 refine cS Tryz.func144 fun cx hcx=>?_
 exact rT [.c [] (nQ a1),.c [] (show Con Tryz.prog 93 [] [] (.a [(iv 0),(iv 0),(iv 0),(iv 1),(iv 0),(iv 2),(iv 1),(iv 1),(iv 1),(iv 2),(iv 2),(iv 2)]) [] from C93),.u 200,.T,.i 0 6,.i 0 2,.i 0 3,.i 0 6,.i 1 2,.i 0 3,.i 0 2,.i 1 2,.F,.u 0,.T,.i 1 6,.i 0 2,.i 0 3,.i 1 6,.i 1 2,.i 1 3,.i 0 2,.i 1 2,.T,.u 0,.T,.i 2 6,.i 0 2,.i 0 3,.i 2 6,.i 1 2,.i 2 3,.i 0 2,.i 1 2,.T,.u 0,.T,.i 3 6,.i 0 2,.i 1 3,.i 3 6,.i 1 2,.i 1 3,.i 0 2,.i 1 2,.F,.u 0,.T,.i 4 6,.i 0 2,.i 1 3,.i 4 6,.i 1 2,.i 2 3,.i 0 2,.i 1 2,.T,.u 0,.T,.i 5 6,.i 0 2,.i 2 3,.i 5 6,.i 1 2,.i 2 3,.i 0 2,.i 1 2,.F,.u 0,.F] hcx
def F97 (a0:jY)(a1:Zt)(a2:Int):Zs×Int := (bif ((a2:Int) == 0)then(bif (((vA (dC a1 a1) 1).2:Int) != 0)then((0,0),(vA (dC a1 a1) 1).2)else((xF (vA (dC a1 a1) 1).1 a0.1).1,(xF (vA (dC a1 a1) 1).1 a0.1).2))else(bif ((a2:Int) == 1)then((aEj (dC a0.2.2.1 a1) (W (3*(dC a1 a1))) (dC a1 a1)).1,(aEj (dC a0.2.2.1 a1) (W (3*(dC a1 a1))) (dC a1 a1)).2)else((aEj (W ((W (3*(aK8 a0 a1))) - (W ((dC a1 a1)*(aM4 a0))))) (W ((W (24*(dC a1 a1)))*(dC a1 a1))) (dC a1 a1)).1,(aEj (W ((W (3*(aK8 a0 a1))) - (W ((dC a1 a1)*(aM4 a0))))) (W ((W (24*(dC a1 a1)))*(dC a1 a1))) (dC a1 a1)).2)))
theorem C97 (a0:jY)(a1:Zt)(a2:Int)(hu:UOK a1):Con Tryz.prog 97 [(.a (kS1 a0)),(.a (k3 a1)),(iv a2)] [] (.t [(.a (k2 (F97 a0 a1 a2).1)),(iv (F97 a0 a1 a2).2)]) []:=by
 refine cS Tryz.func97 fun cx hcx=>?_
 let t0:SL:=[.c [] (aP8 a1 a1)];rw [F97];cases h0:((a2:Int) == 0)
 case true=>
  let t1:SL:=t0++[.d h0,.c [] (C79 (dC a1 a1) 1)];cases h1:(((vA (dC a1 a1) 1).2:Int) != 0)
  case true=>exact rT (t1++[.d h1]) hcx
  exact rT (t1++[.d h1,.c [] (C43 (vA (dC a1 a1) 1).1 a0.1)]) hcx
 let t1:SL:=t0++[.d h0];cases h1:((a2:Int) == 1)
 case true=>exact rT (t1++[.d h1,.c [] (aP8 a0.2.2.1 a1),.c [] (bC8 (dC a0.2.2.1 a1) (W (3*(dC a1 a1))) (dC a1 a1)  (by first | exact bAa hu | exact bAb hu))]) hcx
 exact rT (t1++[.d h1,.c [] (bFq a0 a1),.c [] (bFi a0),.c [] (bC8 (W ((W (3*(aK8 a0 a1))) - (W ((dC a1 a1)*(aM4 a0))))) (W ((W (24*(dC a1 a1)))*(dC a1 a1))) (dC a1 a1)  (by first | exact bAa hu | exact bAb hu))]) hcx
noncomputable def aK9:=aU [1,1,0] [] (aV Tryz.f99) []
def aIg (a0:Int)(v2 v3:Int):LS:=⟨gU 22 [(0,(iv a0)),(3,(iv v2)),(4,(iv v3))],[]⟩
def tW (a0:Int):Zs->Zs⊕(Int) | (v2,v3) => (bif (decide (((W (v3 - v2)):Int) > 1))then(bif (decide (((W ((W (tD (W (v2+v3)) 2))*(W (tD (W (v2+v3)) 2)))):Int)<=a0))then(.inl ((W (tD (W (v2+v3)) 2)),v3))else(.inl (v2,(W (tD (W (v2+v3)) 2)))))else(.inr v2))
theorem bC9 (a0:Int) {cx:Cx} (hcx:cx.base=0):∀(n:Nat) (v2 v3:Int),(0<=v2)/\(v2 < v3)/\(v3<=2147483648)->tN (v3 - v2) < n->gG Tryz.f99 cx (iv (aG (tW a0) n (v2,v3))) [] [] (.l aK9.1 n::aK9.2) (aIg a0 v2 v3):=by
 intro n
 induction n with|zero=>intro v2 v3 hi hn;exact absurd hn (dX _)|succ n ih=>?_
 intro v2 v3 hi hn;refine aN ?_;have hmd:=aG6 (a:=v2) (b:=v3) ⟨by omega,by omega,by omega⟩;have hw1:=aH (n:=v3 - v2) oM oM;rw [aZ,tW];cases h0:(decide (((W (v3 - v2)):Int) > 1))
 case true=>
  have q0:=eS h0;let t1:SL:=[.d h0,.p (show(2:Int)≠0 from by decide)];cases h1:(decide (((W ((W (tD (W (v2+v3)) 2))*(W (tD (W (v2+v3)) 2)))):Int)<=a0))
  case true=>refine bA n (t1++[.d h1]) [0,3,4] [] hcx aK9 (aIg a0 (W (tD (W (v2+v3)) 2)) v3) ?_;exact ih _ _ oR oM
  refine bA n (t1++[.d h1]) [0,3,4] [] hcx aK9 (aIg a0 v2 (W (tD (W (v2+v3)) 2))) ?_;exact ih _ _ oR oM
 exact rT [.d h0] hcx
def qD (a0:Int):Int := (aG (tW a0) (tN (2147483648 - 0)+1) (0,2147483648))
theorem C99 (a0:Int):Con Tryz.prog 99 [(iv a0)] [] (iv (qD a0)) []:=by
 refine cS Tryz.func99 fun cx hcx=>?_
 refine eN [] [0,3,4] [] hcx aK9 (aIg a0 0 2147483648) (tN (2147483648 - 0)+1) ?_;exact bC9 a0 hcx (tN (2147483648 - 0)+1) 0 2147483648 oR oM
def yY (a0 a1:Int):Int := (W (tD (W ((W (a0+a1)) - 1)) a1))
theorem bAf (a0 a1:Int)(hd:a1≠0):Con Tryz.prog 101 [(iv a0),(iv a1)] [] (iv (yY a0 a1)) []:=by
 refine cS Tryz.func101 fun cx hcx=>?_
 exact rT [.p (show(a1:Int)≠0 from by first | omega | (rw [aH]<;>omega) | exact dZ _)] hcx
def pN (a0:jY×Zt)(a1:(Zt×Zt×Zt)×Int):jY×Zt := (((W (a0.1.1+a1.2)),(W (a0.1.2.1+(if(a1.2:Int) < (W (0 - a1.2))then(W (0 - a1.2))else a1.2))),(bC a0.1.2.2.1 ((W ((W (0 - a1.2))*(W ((W ((bC a1.1.1 a0.2).1+(bC a1.1.2.1 a0.2).1))+(bC a1.1.2.2 a0.2).1)))),(W ((W (0 - a1.2))*(W ((W ((bC a1.1.1 a0.2).2.1+(bC a1.1.2.1 a0.2).2.1))+(bC a1.1.2.2 a0.2).2.1)))),(W ((W (0 - a1.2))*(W ((W ((bC a1.1.1 a0.2).2.2+(bC a1.1.2.1 a0.2).2.2))+(bC a1.1.2.2 a0.2).2.2)))))),((W (a0.1.2.2.2.1+(W (a1.2*(W ((W ((W ((W ((kD ((W ((W ((bC a1.1.1 a0.2).1+(bC a1.1.2.1 a0.2).1))+(bC a1.1.2.2 a0.2).1)),(W ((W ((bC a1.1.1 a0.2).2.1+(bC a1.1.2.1 a0.2).2.1))+(bC a1.1.2.2 a0.2).2.1)),(W ((W ((bC a1.1.1 a0.2).2.2+(bC a1.1.2.1 a0.2).2.2))+(bC a1.1.2.2 a0.2).2.2)))).1*(kD ((W ((W ((bC a1.1.1 a0.2).1+(bC a1.1.2.1 a0.2).1))+(bC a1.1.2.2 a0.2).1)),(W ((W ((bC a1.1.1 a0.2).2.1+(bC a1.1.2.1 a0.2).2.1))+(bC a1.1.2.2 a0.2).2.1)),(W ((W ((bC a1.1.1 a0.2).2.2+(bC a1.1.2.1 a0.2).2.2))+(bC a1.1.2.2 a0.2).2.2)))).1))+(W ((kD (bC a1.1.1 a0.2)).1*(kD (bC a1.1.1 a0.2)).1))))+(W ((kD (bC a1.1.2.1 a0.2)).1*(kD (bC a1.1.2.1 a0.2)).1))))+(W ((kD (bC a1.1.2.2 a0.2)).1*(kD (bC a1.1.2.2 a0.2)).1)))))))),(W (a0.1.2.2.2.2.1+(W (a1.2*(W ((W ((W ((W ((kD ((W ((W ((bC a1.1.1 a0.2).1+(bC a1.1.2.1 a0.2).1))+(bC a1.1.2.2 a0.2).1)),(W ((W ((bC a1.1.1 a0.2).2.1+(bC a1.1.2.1 a0.2).2.1))+(bC a1.1.2.2 a0.2).2.1)),(W ((W ((bC a1.1.1 a0.2).2.2+(bC a1.1.2.1 a0.2).2.2))+(bC a1.1.2.2 a0.2).2.2)))).1*(kD ((W ((W ((bC a1.1.1 a0.2).1+(bC a1.1.2.1 a0.2).1))+(bC a1.1.2.2 a0.2).1)),(W ((W ((bC a1.1.1 a0.2).2.1+(bC a1.1.2.1 a0.2).2.1))+(bC a1.1.2.2 a0.2).2.1)),(W ((W ((bC a1.1.1 a0.2).2.2+(bC a1.1.2.1 a0.2).2.2))+(bC a1.1.2.2 a0.2).2.2)))).2.1))+(W ((kD (bC a1.1.1 a0.2)).1*(kD (bC a1.1.1 a0.2)).2.1))))+(W ((kD (bC a1.1.2.1 a0.2)).1*(kD (bC a1.1.2.1 a0.2)).2.1))))+(W ((kD (bC a1.1.2.2 a0.2)).1*(kD (bC a1.1.2.2 a0.2)).2.1)))))))),(W (a0.1.2.2.2.2.2.1+(W (a1.2*(W ((W ((W ((W ((kD ((W ((W ((bC a1.1.1 a0.2).1+(bC a1.1.2.1 a0.2).1))+(bC a1.1.2.2 a0.2).1)),(W ((W ((bC a1.1.1 a0.2).2.1+(bC a1.1.2.1 a0.2).2.1))+(bC a1.1.2.2 a0.2).2.1)),(W ((W ((bC a1.1.1 a0.2).2.2+(bC a1.1.2.1 a0.2).2.2))+(bC a1.1.2.2 a0.2).2.2)))).1*(kD ((W ((W ((bC a1.1.1 a0.2).1+(bC a1.1.2.1 a0.2).1))+(bC a1.1.2.2 a0.2).1)),(W ((W ((bC a1.1.1 a0.2).2.1+(bC a1.1.2.1 a0.2).2.1))+(bC a1.1.2.2 a0.2).2.1)),(W ((W ((bC a1.1.1 a0.2).2.2+(bC a1.1.2.1 a0.2).2.2))+(bC a1.1.2.2 a0.2).2.2)))).2.2))+(W ((kD (bC a1.1.1 a0.2)).1*(kD (bC a1.1.1 a0.2)).2.2))))+(W ((kD (bC a1.1.2.1 a0.2)).1*(kD (bC a1.1.2.1 a0.2)).2.2))))+(W ((kD (bC a1.1.2.2 a0.2)).1*(kD (bC a1.1.2.2 a0.2)).2.2)))))))),(W (a0.1.2.2.2.2.2.2.1+(W (a1.2*(W ((W ((W ((W ((kD ((W ((W ((bC a1.1.1 a0.2).1+(bC a1.1.2.1 a0.2).1))+(bC a1.1.2.2 a0.2).1)),(W ((W ((bC a1.1.1 a0.2).2.1+(bC a1.1.2.1 a0.2).2.1))+(bC a1.1.2.2 a0.2).2.1)),(W ((W ((bC a1.1.1 a0.2).2.2+(bC a1.1.2.1 a0.2).2.2))+(bC a1.1.2.2 a0.2).2.2)))).2.1*(kD ((W ((W ((bC a1.1.1 a0.2).1+(bC a1.1.2.1 a0.2).1))+(bC a1.1.2.2 a0.2).1)),(W ((W ((bC a1.1.1 a0.2).2.1+(bC a1.1.2.1 a0.2).2.1))+(bC a1.1.2.2 a0.2).2.1)),(W ((W ((bC a1.1.1 a0.2).2.2+(bC a1.1.2.1 a0.2).2.2))+(bC a1.1.2.2 a0.2).2.2)))).2.1))+(W ((kD (bC a1.1.1 a0.2)).2.1*(kD (bC a1.1.1 a0.2)).2.1))))+(W ((kD (bC a1.1.2.1 a0.2)).2.1*(kD (bC a1.1.2.1 a0.2)).2.1))))+(W ((kD (bC a1.1.2.2 a0.2)).2.1*(kD (bC a1.1.2.2 a0.2)).2.1)))))))),(W (a0.1.2.2.2.2.2.2.2.1+(W (a1.2*(W ((W ((W ((W ((kD ((W ((W ((bC a1.1.1 a0.2).1+(bC a1.1.2.1 a0.2).1))+(bC a1.1.2.2 a0.2).1)),(W ((W ((bC a1.1.1 a0.2).2.1+(bC a1.1.2.1 a0.2).2.1))+(bC a1.1.2.2 a0.2).2.1)),(W ((W ((bC a1.1.1 a0.2).2.2+(bC a1.1.2.1 a0.2).2.2))+(bC a1.1.2.2 a0.2).2.2)))).2.1*(kD ((W ((W ((bC a1.1.1 a0.2).1+(bC a1.1.2.1 a0.2).1))+(bC a1.1.2.2 a0.2).1)),(W ((W ((bC a1.1.1 a0.2).2.1+(bC a1.1.2.1 a0.2).2.1))+(bC a1.1.2.2 a0.2).2.1)),(W ((W ((bC a1.1.1 a0.2).2.2+(bC a1.1.2.1 a0.2).2.2))+(bC a1.1.2.2 a0.2).2.2)))).2.2))+(W ((kD (bC a1.1.1 a0.2)).2.1*(kD (bC a1.1.1 a0.2)).2.2))))+(W ((kD (bC a1.1.2.1 a0.2)).2.1*(kD (bC a1.1.2.1 a0.2)).2.2))))+(W ((kD (bC a1.1.2.2 a0.2)).2.1*(kD (bC a1.1.2.2 a0.2)).2.2)))))))),(W (a0.1.2.2.2.2.2.2.2.2+(W (a1.2*(W ((W ((W ((W ((kD ((W ((W ((bC a1.1.1 a0.2).1+(bC a1.1.2.1 a0.2).1))+(bC a1.1.2.2 a0.2).1)),(W ((W ((bC a1.1.1 a0.2).2.1+(bC a1.1.2.1 a0.2).2.1))+(bC a1.1.2.2 a0.2).2.1)),(W ((W ((bC a1.1.1 a0.2).2.2+(bC a1.1.2.1 a0.2).2.2))+(bC a1.1.2.2 a0.2).2.2)))).2.2*(kD ((W ((W ((bC a1.1.1 a0.2).1+(bC a1.1.2.1 a0.2).1))+(bC a1.1.2.2 a0.2).1)),(W ((W ((bC a1.1.1 a0.2).2.1+(bC a1.1.2.1 a0.2).2.1))+(bC a1.1.2.2 a0.2).2.1)),(W ((W ((bC a1.1.1 a0.2).2.2+(bC a1.1.2.1 a0.2).2.2))+(bC a1.1.2.2 a0.2).2.2)))).2.2))+(W ((kD (bC a1.1.1 a0.2)).2.2*(kD (bC a1.1.1 a0.2)).2.2))))+(W ((kD (bC a1.1.2.1 a0.2)).2.2*(kD (bC a1.1.2.1 a0.2)).2.2))))+(W ((kD (bC a1.1.2.2 a0.2)).2.2*(kD (bC a1.1.2.2 a0.2)).2.2)))))))))),a0.2)
theorem C52 (a0:jY×Zt)(a1:(Zt×Zt×Zt)×Int):Con Tryz.prog 52 [(.p 0 0),(.a (kS0 a1))] [(.live true false [(iv a0.1.1),(iv a0.1.2.1),(iv a0.1.2.2.1.1),(iv a0.1.2.2.1.2.1),(iv a0.1.2.2.1.2.2),(iv a0.1.2.2.2.1),(iv a0.1.2.2.2.2.1),(iv a0.1.2.2.2.2.2.1),(iv a0.1.2.2.2.2.2.2.1),(iv a0.1.2.2.2.2.2.2.2.1),(iv a0.1.2.2.2.2.2.2.2.2),(iv a0.2.1),(iv a0.2.2.1),(iv a0.2.2.2)])] (.t []) [] [(.live true false [(iv (pN a0 a1).1.1),(iv (pN a0 a1).1.2.1),(iv (pN a0 a1).1.2.2.1.1),(iv (pN a0 a1).1.2.2.1.2.1),(iv (pN a0 a1).1.2.2.1.2.2),(iv (pN a0 a1).1.2.2.2.1),(iv (pN a0 a1).1.2.2.2.2.1),(iv (pN a0 a1).1.2.2.2.2.2.1),(iv (pN a0 a1).1.2.2.2.2.2.2.1),(iv (pN a0 a1).1.2.2.2.2.2.2.2.1),(iv (pN a0 a1).1.2.2.2.2.2.2.2.2),(iv (pN a0 a1).2.1),(iv (pN a0 a1).2.2.1),(iv (pN a0 a1).2.2.2)])]:=by
 refine cS Tryz.func52 fun cx hcx=>?_
 try dsimp only [bN]
 try dsimp only
 exact rtn [.c [] (C92 a1.1.1 a0.2),.c [] (C92 a1.1.2.1 a0.2),.c [] (C92 a1.1.2.2 a0.2),.i 0 3,.i 1 3,.i 2 3,.i 0 3,.i 1 3,.i 2 3,.i 0 3,.i 1 3,.i 2 3,.c [] (C92 a0.1.2.2.1 ((W ((W (0 - a1.2))*(W ((W ((bC a1.1.1 a0.2).1+(bC a1.1.2.1 a0.2).1))+(bC a1.1.2.2 a0.2).1)))),(W ((W (0 - a1.2))*(W ((W ((bC a1.1.1 a0.2).2.1+(bC a1.1.2.1 a0.2).2.1))+(bC a1.1.2.2 a0.2).2.1)))),(W ((W (0 - a1.2))*(W ((W ((bC a1.1.1 a0.2).2.2+(bC a1.1.2.1 a0.2).2.2))+(bC a1.1.2.2 a0.2).2.2)))))),.c [] (show Con Tryz.prog 93 [] [] (.a [(iv 0),(iv 0),(iv 0),(iv 1),(iv 0),(iv 2),(iv 1),(iv 1),(iv 1),(iv 2),(iv 2),(iv 2)]) [] from C93),.u 200,.T,.i 0 6,.c [] (nQ ((W ((W ((bC a1.1.1 a0.2).1+(bC a1.1.2.1 a0.2).1))+(bC a1.1.2.2 a0.2).1)),(W ((W ((bC a1.1.1 a0.2).2.1+(bC a1.1.2.1 a0.2).2.1))+(bC a1.1.2.2 a0.2).2.1)),(W ((W ((bC a1.1.1 a0.2).2.2+(bC a1.1.2.1 a0.2).2.2))+(bC a1.1.2.2 a0.2).2.2)))),.i 0 2,.i 0 3,.c [] (nQ ((W ((W ((bC a1.1.1 a0.2).1+(bC a1.1.2.1 a0.2).1))+(bC a1.1.2.2 a0.2).1)),(W ((W ((bC a1.1.1 a0.2).2.1+(bC a1.1.2.1 a0.2).2.1))+(bC a1.1.2.2 a0.2).2.1)),(W ((W ((bC a1.1.1 a0.2).2.2+(bC a1.1.2.1 a0.2).2.2))+(bC a1.1.2.2 a0.2).2.2)))),.i 1 2,.i 0 3,.u 200,.T,.i 0 3,.c [] (nQ (bC a1.1.1 a0.2)),.i 0 2,.i 0 3,.c [] (nQ (bC a1.1.1 a0.2)),.i 1 2,.i 0 3,.u 0,.T,.i 1 3,.c [] (nQ (bC a1.1.2.1 a0.2)),.i 0 2,.i 0 3,.c [] (nQ (bC a1.1.2.1 a0.2)),.i 1 2,.i 0 3,.u 0,.T,.i 2 3,.c [] (nQ (bC a1.1.2.2 a0.2)),.i 0 2,.i 0 3,.c [] (nQ (bC a1.1.2.2 a0.2)),.i 1 2,.i 0 3,.u 0,.F,.i 0 6,.i 0 6,.u 0,.T,.i 1 6,.c [] (nQ ((W ((W ((bC a1.1.1 a0.2).1+(bC a1.1.2.1 a0.2).1))+(bC a1.1.2.2 a0.2).1)),(W ((W ((bC a1.1.1 a0.2).2.1+(bC a1.1.2.1 a0.2).2.1))+(bC a1.1.2.2 a0.2).2.1)),(W ((W ((bC a1.1.1 a0.2).2.2+(bC a1.1.2.1 a0.2).2.2))+(bC a1.1.2.2 a0.2).2.2)))),.i 0 2,.i 0 3,.c [] (nQ ((W ((W ((bC a1.1.1 a0.2).1+(bC a1.1.2.1 a0.2).1))+(bC a1.1.2.2 a0.2).1)),(W ((W ((bC a1.1.1 a0.2).2.1+(bC a1.1.2.1 a0.2).2.1))+(bC a1.1.2.2 a0.2).2.1)),(W ((W ((bC a1.1.1 a0.2).2.2+(bC a1.1.2.1 a0.2).2.2))+(bC a1.1.2.2 a0.2).2.2)))),.i 1 2,.i 1 3,.u 200,.T,.i 0 3,.c [] (nQ (bC a1.1.1 a0.2)),.i 0 2,.i 0 3,.c [] (nQ (bC a1.1.1 a0.2)),.i 1 2,.i 1 3,.u 0,.T,.i 1 3,.c [] (nQ (bC a1.1.2.1 a0.2)),.i 0 2,.i 0 3,.c [] (nQ (bC a1.1.2.1 a0.2)),.i 1 2,.i 1 3,.u 0,.T,.i 2 3,.c [] (nQ (bC a1.1.2.2 a0.2)),.i 0 2,.i 0 3,.c [] (nQ (bC a1.1.2.2 a0.2)),.i 1 2,.i 1 3,.u 0,.F,.i 1 6,.i 1 6,.u 0,.T,.i 2 6,.c [] (nQ ((W ((W ((bC a1.1.1 a0.2).1+(bC a1.1.2.1 a0.2).1))+(bC a1.1.2.2 a0.2).1)),(W ((W ((bC a1.1.1 a0.2).2.1+(bC a1.1.2.1 a0.2).2.1))+(bC a1.1.2.2 a0.2).2.1)),(W ((W ((bC a1.1.1 a0.2).2.2+(bC a1.1.2.1 a0.2).2.2))+(bC a1.1.2.2 a0.2).2.2)))),.i 0 2,.i 0 3,.c [] (nQ ((W ((W ((bC a1.1.1 a0.2).1+(bC a1.1.2.1 a0.2).1))+(bC a1.1.2.2 a0.2).1)),(W ((W ((bC a1.1.1 a0.2).2.1+(bC a1.1.2.1 a0.2).2.1))+(bC a1.1.2.2 a0.2).2.1)),(W ((W ((bC a1.1.1 a0.2).2.2+(bC a1.1.2.1 a0.2).2.2))+(bC a1.1.2.2 a0.2).2.2)))),.i 1 2,.i 2 3,.u 200,.T,.i 0 3,.c [] (nQ (bC a1.1.1 a0.2)),.i 0 2,.i 0 3,.c [] (nQ (bC a1.1.1 a0.2)),.i 1 2,.i 2 3,.u 0,.T,.i 1 3,.c [] (nQ (bC a1.1.2.1 a0.2)),.i 0 2,.i 0 3,.c [] (nQ (bC a1.1.2.1 a0.2)),.i 1 2,.i 2 3,.u 0,.T,.i 2 3,.c [] (nQ (bC a1.1.2.2 a0.2)),.i 0 2,.i 0 3,.c [] (nQ (bC a1.1.2.2 a0.2)),.i 1 2,.i 2 3,.u 0,.F,.i 2 6,.i 2 6,.u 0,.T,.i 3 6,.c [] (nQ ((W ((W ((bC a1.1.1 a0.2).1+(bC a1.1.2.1 a0.2).1))+(bC a1.1.2.2 a0.2).1)),(W ((W ((bC a1.1.1 a0.2).2.1+(bC a1.1.2.1 a0.2).2.1))+(bC a1.1.2.2 a0.2).2.1)),(W ((W ((bC a1.1.1 a0.2).2.2+(bC a1.1.2.1 a0.2).2.2))+(bC a1.1.2.2 a0.2).2.2)))),.i 0 2,.i 1 3,.c [] (nQ ((W ((W ((bC a1.1.1 a0.2).1+(bC a1.1.2.1 a0.2).1))+(bC a1.1.2.2 a0.2).1)),(W ((W ((bC a1.1.1 a0.2).2.1+(bC a1.1.2.1 a0.2).2.1))+(bC a1.1.2.2 a0.2).2.1)),(W ((W ((bC a1.1.1 a0.2).2.2+(bC a1.1.2.1 a0.2).2.2))+(bC a1.1.2.2 a0.2).2.2)))),.i 1 2,.i 1 3,.u 200,.T,.i 0 3,.c [] (nQ (bC a1.1.1 a0.2)),.i 0 2,.i 1 3,.c [] (nQ (bC a1.1.1 a0.2)),.i 1 2,.i 1 3,.u 0,.T,.i 1 3,.c [] (nQ (bC a1.1.2.1 a0.2)),.i 0 2,.i 1 3,.c [] (nQ (bC a1.1.2.1 a0.2)),.i 1 2,.i 1 3,.u 0,.T,.i 2 3,.c [] (nQ (bC a1.1.2.2 a0.2)),.i 0 2,.i 1 3,.c [] (nQ (bC a1.1.2.2 a0.2)),.i 1 2,.i 1 3,.u 0,.F,.i 3 6,.i 3 6,.u 0,.T,.i 4 6,.c [] (nQ ((W ((W ((bC a1.1.1 a0.2).1+(bC a1.1.2.1 a0.2).1))+(bC a1.1.2.2 a0.2).1)),(W ((W ((bC a1.1.1 a0.2).2.1+(bC a1.1.2.1 a0.2).2.1))+(bC a1.1.2.2 a0.2).2.1)),(W ((W ((bC a1.1.1 a0.2).2.2+(bC a1.1.2.1 a0.2).2.2))+(bC a1.1.2.2 a0.2).2.2)))),.i 0 2,.i 1 3,.c [] (nQ ((W ((W ((bC a1.1.1 a0.2).1+(bC a1.1.2.1 a0.2).1))+(bC a1.1.2.2 a0.2).1)),(W ((W ((bC a1.1.1 a0.2).2.1+(bC a1.1.2.1 a0.2).2.1))+(bC a1.1.2.2 a0.2).2.1)),(W ((W ((bC a1.1.1 a0.2).2.2+(bC a1.1.2.1 a0.2).2.2))+(bC a1.1.2.2 a0.2).2.2)))),.i 1 2,.i 2 3,.u 200,.T,.i 0 3,.c [] (nQ (bC a1.1.1 a0.2)),.i 0 2,.i 1 3,.c [] (nQ (bC a1.1.1 a0.2)),.i 1 2,.i 2 3,.u 0,.T,.i 1 3,.c [] (nQ (bC a1.1.2.1 a0.2)),.i 0 2,.i 1 3,.c [] (nQ (bC a1.1.2.1 a0.2)),.i 1 2,.i 2 3,.u 0,.T,.i 2 3,.c [] (nQ (bC a1.1.2.2 a0.2)),.i 0 2,.i 1 3,.c [] (nQ (bC a1.1.2.2 a0.2)),.i 1 2,.i 2 3,.u 0,.F,.i 4 6,.i 4 6,.u 0,.T,.i 5 6,.c [] (nQ ((W ((W ((bC a1.1.1 a0.2).1+(bC a1.1.2.1 a0.2).1))+(bC a1.1.2.2 a0.2).1)),(W ((W ((bC a1.1.1 a0.2).2.1+(bC a1.1.2.1 a0.2).2.1))+(bC a1.1.2.2 a0.2).2.1)),(W ((W ((bC a1.1.1 a0.2).2.2+(bC a1.1.2.1 a0.2).2.2))+(bC a1.1.2.2 a0.2).2.2)))),.i 0 2,.i 2 3,.c [] (nQ ((W ((W ((bC a1.1.1 a0.2).1+(bC a1.1.2.1 a0.2).1))+(bC a1.1.2.2 a0.2).1)),(W ((W ((bC a1.1.1 a0.2).2.1+(bC a1.1.2.1 a0.2).2.1))+(bC a1.1.2.2 a0.2).2.1)),(W ((W ((bC a1.1.1 a0.2).2.2+(bC a1.1.2.1 a0.2).2.2))+(bC a1.1.2.2 a0.2).2.2)))),.i 1 2,.i 2 3,.u 200,.T,.i 0 3,.c [] (nQ (bC a1.1.1 a0.2)),.i 0 2,.i 2 3,.c [] (nQ (bC a1.1.1 a0.2)),.i 1 2,.i 2 3,.u 0,.T,.i 1 3,.c [] (nQ (bC a1.1.2.1 a0.2)),.i 0 2,.i 2 3,.c [] (nQ (bC a1.1.2.1 a0.2)),.i 1 2,.i 2 3,.u 0,.T,.i 2 3,.c [] (nQ (bC a1.1.2.2 a0.2)),.i 0 2,.i 2 3,.c [] (nQ (bC a1.1.2.2 a0.2)),.i 1 2,.i 2 3,.u 0,.F,.i 5 6,.i 5 6,.u 0,.F] [] [0] [] hcx oK
theorem aPc {n:Int} (h0:0<=n)(h1:n < 4611686018427387904):0<=qD n/\qD n < 2147483648/\qD n*qD n<=n/\n < (qD n+1)*(qD n+1):=by
 unfold qD;refine nU (S:=tW n) (fun v:Zs=>tN (v.2 - v.1)) (fun v:Zs=>0<=v.1/\v.1 < v.2/\v.2<=2147483648/\v.1*v.1<=n/\n < v.2*v.2) (fun r:Int=>0<=r/\r < 2147483648/\r*r<=n/\n < (r+1)*(r+1)) (fun v hv=>?_) _ (0,2147483648) ⟨by decide,by decide,by decide,h0,by simpa using h1⟩ (lss _);obtain⟨a,b⟩:=v;obtain⟨g0,g1,g2,g3,g4⟩:=hv;dsimp only at g0 g1 g2 g3 g4;have hm:=aG6 (a:=a) (b:=b) ⟨g0,by omega,g2⟩;have hw:=aH (n:=b - a) oM oM;have hsq:=dM (a:=2147483648) (b:=2147483648) (x:=(a+b) / 2) (y:=(a+b) / 2) oM oM;have hsn:0<=(a+b) / 2*((a+b) / 2):=Int.mul_nonneg oM oM;cases h:(decide (((W (b - a)):Int) > 1))
 case true=>
  have hgt:=eS h;rw [hw] at hgt;cases h2:(decide (((W ((W (tD (W (a+b)) 2))*(W (tD (W (a+b)) 2)))):Int)<=n))
  case true=>rw [hm] at h2;have hle:=eS h2;rw [aH oM oM] at hle;exact .inl ⟨((a+b) / 2,b),by simp only [tW,h,hm,h2,cond_true],⟨by show 0<=(a+b) / 2;omega,by show(a+b) / 2 < b;omega,g2,hle,g4⟩,by show tN (b - (a+b) / 2) < tN (b - a);omega⟩
  rw [hm] at h2;have hle:=iF h2;rw [aH oM oM] at hle;exact .inl ⟨(a,(a+b) / 2),by simp only [tW,h,hm,h2,vF],⟨g0,by show a < (a+b) / 2;omega,by show(a+b) / 2<=2147483648;omega,g3,by show n < (a+b) / 2*((a+b) / 2);omega⟩,by show tN ((a+b) / 2 - a) < tN (b - a);omega⟩
 have hgt:=iF h;rw [hw] at hgt;have e:b=a+1:=by omega
 subst e;exact .inr ⟨a,by simp only [tW,h,cond_false],g0,by omega,g3,g4⟩
theorem aUg (n:Int):0<=qD n/\qD n < 2147483648:=by
 unfold qD;refine nU (S:=tW n) (fun v:Zs=>tN (v.2 - v.1)) (fun v:Zs=>0<=v.1/\v.1 < v.2/\v.2<=2147483648) (fun r:Int=>0<=r/\r < 2147483648) (fun v hv=>?_) _ (0,2147483648) ⟨by decide,by decide,by decide⟩ (lss _);obtain⟨a,b⟩:=v;obtain⟨g0,g1,g2⟩:=hv;dsimp only at g0 g1 g2;have hm:=aG6 (a:=a) (b:=b) ⟨g0,by omega,g2⟩;have hw:=aH (n:=b - a) oM oM;cases h:(decide (((W (b - a)):Int) > 1))
 case true=>
  have hgt:=eS h;rw [hw] at hgt;cases h2:(decide (((W ((W (tD (W (a+b)) 2))*(W (tD (W (a+b)) 2)))):Int)<=n))
  case true=>rw [hm] at h2;exact .inl ⟨((a+b) / 2,b),by simp only [tW,h,hm,h2,cond_true],⟨by show 0<=(a+b) / 2;omega,by show(a+b) / 2 < b;omega,g2⟩,by show tN (b - (a+b) / 2) < tN (b - a);omega⟩
  rw [hm] at h2;exact .inl ⟨(a,(a+b) / 2),by simp only [tW,h,hm,h2,vF],⟨g0,by show a < (a+b) / 2;omega,by show(a+b) / 2<=2147483648;omega⟩,by show tN ((a+b) / 2 - a) < tN (b - a);omega⟩
 have hgt:=iF h;exact .inr ⟨a,by simp only [tW,h,cond_false],g0,by omega⟩
def gB (a0:Int)(a1:jY)(a2:Zt)(a3:List Zs)(a4:Int):(List Zs)×Int := (bif ((a4:Int) == 0)then((a3++[(F97 a1 a2 a0).1]),(F97 a1 a2 a0).2)else((a3++[(F97 a1 a2 a0).1]),a4))
theorem C96 (a0:Int)(a1:jY)(a2:Zt)(a3:List Zs)(a4:Int)(l3:a3.length<=2^63-1)(hu:UOK a2)(hl:a3.length<=1000):Con Tryz.prog 96 [(iv a0),(.p 0 0),(.p 1 0),(.p 2 0),(.p 4 0)] [(.live false false (kS1 a1)),(.live false false (k3 a2)),(.live true false [(.s 3 0 a3.length 2)]),(.live true true (flat lF a3)),(.live true false [(iv a4)])] (.t []) [(.live true true (flat lF (gB a0 a1 a2 a3 a4).1))] [.un,.un,(.live true false [(.s 5 0 (gB a0 a1 a2 a3 a4).1.length 2)]),.dead,(.live true false [(iv (gB a0 a1 a2 a3 a4).2)])]:=by
 refine cS Tryz.func96 fun cx hcx=>?_
 let t0:SL:=[.c [] (C97 a1 a2 a0  hu),.p (show((flat lF a3).length=a3.length*2/\a3.length+1<=2 ^ 40/\(a3.length+1)*16<=2 ^ 47) from iS kA oM oM)];rw [gB];cases h0:((a4:Int) == 0)
 case true=>
  simp only [vF]
  try dsimp only [bN]
  try dsimp only
  rw [show flat lF (a3++[(F97 a1 a2 a0).1])=(flat lF a3++(k2 (F97 a1 a2 a0).1)) from bQ]
  try rw [show List.length (α:=Zs) (a3++[(F97 a1 a2 a0).1])=(a3.length+1) from by first | simp;done | omega]
  exact rtn (t0++[.d h0]) [] [2,3,4] [7] hcx oK
 simp only [vF]
 try dsimp only [bN]
 try dsimp only
 rw [show flat lF (a3++[(F97 a1 a2 a0).1])=(flat lF a3++(k2 (F97 a1 a2 a0).1)) from bQ]
 try rw [show List.length (α:=Zs) (a3++[(F97 a1 a2 a0).1])=(a3.length+1) from by first | simp;done | omega]
 exact rtn (t0++[.d h0]) [] [2,3,4] [7] hcx oK
theorem rZ (k:Int)(m:jY)(u:Zt)(l:List Zs)(e:Int):(gB k m u l e).1.length=l.length+1:=by
 unfold gB;cases ((e:Int) == 0)<;>simp
noncomputable def yZ:=dY [1,1,1,1,1,1,0,0] [] (aV Tryz.f53)
def zA (a0:jY)(a1:Zt)(a2:Int)(v2c:List SV)(v2n:Nat)(v3:Int):LS:=⟨gU 40 [(6,(.p 0 0)),(9,(.p 1 0)),(10,(.p 2 0))],[(.live true false [(iv 0),(iv 0)]),(.live true false [(.s 3 0 v2n 2)]),(.live true false [(iv v3)]),(.live true true v2c)]⟩
def lC (a0:jY)(a1:Zt)(a2:Int):(List Zs)×Int->Zs×Int | (v2,v3) => (bif ((v3:Int) != 0)then((0,0),v3)else((qP v2).1,(qP v2).2))
noncomputable def aIh:=dY [1,1,1,1,1,0,0] [] (aV Tryz.f53)
def aPd (a0:jY)(a1:Zt)(a2:Int)(v1c:List SV)(v1n:Nat):LS:=⟨gU 40 [(2,(iv a2)),(6,(.p 0 0)),(9,(.p 1 0)),(10,(.p 2 0)),(11,(.f 96 [(.p 3 0),(.p 4 0),(.p 1 0),(.p 2 0)]))],[(.live true false [(iv 0),(iv 0)]),(.live true false [(.s 5 0 v1n 2)]),(.live true false [(iv 0)]),(.live true false (kS1 a0)),(.live true false (k3 a1)),(.live true true v1c)]⟩
def aAn (a0:jY)(a1:Zt)(a2:Int):List Zs->Zs×Int | v1 => (bif ((a2:Int) == 2)then(lC a0 a1 a2 ((gB 0 a0 a1 (gB 1 a0 a1 (gB 2 a0 a1 v1 0).1 (gB 2 a0 a1 v1 0).2).1 (gB 1 a0 a1 (gB 2 a0 a1 v1 0).1 (gB 2 a0 a1 v1 0).2).2).1,(gB 0 a0 a1 (gB 1 a0 a1 (gB 2 a0 a1 v1 0).1 (gB 2 a0 a1 v1 0).2).1 (gB 1 a0 a1 (gB 2 a0 a1 v1 0).1 (gB 2 a0 a1 v1 0).2).2).2))else(bif ((a2:Int) == 1)then(lC a0 a1 a2 ((gB 0 a0 a1 (gB 1 a0 a1 v1 0).1 (gB 1 a0 a1 v1 0).2).1,(gB 0 a0 a1 (gB 1 a0 a1 v1 0).1 (gB 1 a0 a1 v1 0).2).2))else(lC a0 a1 a2 ((gB 0 a0 a1 v1 0).1,(gB 0 a0 a1 v1 0).2))))
theorem aIi (a0:jY)(a1:Zt)(a2:Int) {cx:Cx} (hcx:cx.base=0)(v2:List Zs)(v3:Int):v2.length<=3->gG Tryz.f53 cx (.t [(.a (k2 (lC a0 a1 a2 (v2,v3)).1)),(iv (lC a0 a1 a2 (v2,v3)).2)]) [] [] (.c yZ.1::yZ.2) (zA a0 a1 a2 (flat lF v2) v2.length v3):=by
 intro hi;rw [lC];cases h0:((v3:Int) != 0)
 case true=>exact rT [.d h0] hcx
 exact rT [.d h0,.c [3] (aRl v2 oM)] hcx
theorem bAg (a0:jY)(a1:Zt)(a2:Int) {cx:Cx} (hcx:cx.base=0)(v1:List Zs):(UOK a1)/\(v1.length=0)->gG Tryz.f53 cx (.t [(.a (k2 (aAn a0 a1 a2 v1).1)),(iv (aAn a0 a1 a2 v1).2)]) [] [] (.c aIh.1::aIh.2) (aPd a0 a1 a2 (flat lF v1) v1.length):=by
 intro hi;rw [aAn];cases h0:((a2:Int) == 2)
 case true=>refine gA [.d h0,.c [3,4,1,5,2] (C96 2 a0 a1 v1 0 oM hi.1 oM),.c [3,4,1,6,2] (C96 1 a0 a1 (gB 2 a0 a1 v1 0).1 (gB 2 a0 a1 v1 0).2 (by(try simp only [Lt,rZ]);omega) hi.1 (by(try simp only [rZ]);omega)),.c [3,4,1,7,2] (C96 0 a0 a1 (gB 1 a0 a1 (gB 2 a0 a1 v1 0).1 (gB 2 a0 a1 v1 0).2).1 (gB 1 a0 a1 (gB 2 a0 a1 v1 0).1 (gB 2 a0 a1 v1 0).2).2 (by(try simp only [Lt,rZ]);omega) hi.1 (by(try simp only [rZ]);omega)),.z 13] [6,9,10] [0,1,2,8] hcx yZ (zA a0 a1 a2 (flat lF (gB 0 a0 a1 (gB 1 a0 a1 (gB 2 a0 a1 v1 0).1 (gB 2 a0 a1 v1 0).2).1 (gB 1 a0 a1 (gB 2 a0 a1 v1 0).1 (gB 2 a0 a1 v1 0).2).2).1) ((gB 0 a0 a1 (gB 1 a0 a1 (gB 2 a0 a1 v1 0).1 (gB 2 a0 a1 v1 0).2).1 (gB 1 a0 a1 (gB 2 a0 a1 v1 0).1 (gB 2 a0 a1 v1 0).2).2).1.length) ((gB 0 a0 a1 (gB 1 a0 a1 (gB 2 a0 a1 v1 0).1 (gB 2 a0 a1 v1 0).2).1 (gB 1 a0 a1 (gB 2 a0 a1 v1 0).1 (gB 2 a0 a1 v1 0).2).2).2)) ?_;exact aIi a0 a1 a2 hcx ((gB 0 a0 a1 (gB 1 a0 a1 (gB 2 a0 a1 v1 0).1 (gB 2 a0 a1 v1 0).2).1 (gB 1 a0 a1 (gB 2 a0 a1 v1 0).1 (gB 2 a0 a1 v1 0).2).2).1) ((gB 0 a0 a1 (gB 1 a0 a1 (gB 2 a0 a1 v1 0).1 (gB 2 a0 a1 v1 0).2).1 (gB 1 a0 a1 (gB 2 a0 a1 v1 0).1 (gB 2 a0 a1 v1 0).2).2).2) (by(try simp only [rZ]);omega)
 let t1:SL:=[.d h0];cases h1:((a2:Int) == 1)
 case true=>refine gA (t1++[.d h1,.c [3,4,1,5,2] (C96 1 a0 a1 v1 0 oM hi.1 oM),.c [3,4,1,6,2] (C96 0 a0 a1 (gB 1 a0 a1 v1 0).1 (gB 1 a0 a1 v1 0).2 (by(try simp only [Lt,rZ]);omega) hi.1 (by(try simp only [rZ]);omega)),.z 13]) [6,9,10] [0,1,2,7] hcx yZ (zA a0 a1 a2 (flat lF (gB 0 a0 a1 (gB 1 a0 a1 v1 0).1 (gB 1 a0 a1 v1 0).2).1) ((gB 0 a0 a1 (gB 1 a0 a1 v1 0).1 (gB 1 a0 a1 v1 0).2).1.length) ((gB 0 a0 a1 (gB 1 a0 a1 v1 0).1 (gB 1 a0 a1 v1 0).2).2)) ?_;exact aIi a0 a1 a2 hcx ((gB 0 a0 a1 (gB 1 a0 a1 v1 0).1 (gB 1 a0 a1 v1 0).2).1) ((gB 0 a0 a1 (gB 1 a0 a1 v1 0).1 (gB 1 a0 a1 v1 0).2).2) (by(try simp only [rZ]);omega)
 refine gA (t1++[.d h1,.c [3,4,1,5,2] (C96 0 a0 a1 v1 0 oM hi.1 oM),.z 13]) [6,9,10] [0,1,2,6] hcx yZ (zA a0 a1 a2 (flat lF (gB 0 a0 a1 v1 0).1) ((gB 0 a0 a1 v1 0).1.length) ((gB 0 a0 a1 v1 0).2)) ?_;exact aIi a0 a1 a2 hcx ((gB 0 a0 a1 v1 0).1) ((gB 0 a0 a1 v1 0).2) (by(try simp only [rZ]);omega)
def F53 (a0:jY)(a1:Zt)(a2:Int):Zs×Int := (bif (((F95 a0 a1 a2):Int) != 0)then((0,0),(F95 a0 a1 a2))else(aAn a0 a1 a2 ([]:List Zs)))
theorem C53 (a0:jY)(a1:Zt)(a2:Int):Con Tryz.prog 53 [(.a (kS1 a0)),(.a (k3 a1)),(iv a2)] [] (.t [(.a (k2 (F53 a0 a1 a2).1)),(iv (F53 a0 a1 a2).2)]) []:=by
 refine cS Tryz.func53 fun cx hcx=>?_
 let t0:SL:=[.c [] (C95 a0 a1 a2)];rw [F53];cases h0:(((F95 a0 a1 a2):Int) != 0)
 case true=>exact rT (t0++[.d h0]) hcx
 refine ga (t0++[.d h0,.z 7]) [.cell 3 0 2] [2,6,9,10,11] [2,3,4,0,1,5] hcx aIh.1 aIh.2 (aPd a0 a1 a2 (flat lF ([]:List Zs)) 0) oK ?_;exact bAg a0 a1 a2 hcx ([]:List Zs) ⟨(bAe h0).2.1,rfl⟩
noncomputable def aPe:=aU [1,1,1,1,1,1,1,1,1,0,1] [] (aV Tryz.f54) []
def aM7 (a0 a1:Int)(a2:Zt)(a3:Int)(v5 v6 v7 v8:Int):LS:=⟨gU 79 [(0,(iv a0)),(11,(iv v5)),(12,(iv (qD (W ((W ((dC a2 a2)*1048576))*1048576))))),(13,(iv v6)),(14,(iv v7)),(60,(iv a3)),(61,(iv v8))],[]⟩
def aEk (a0 a1:Int)(a2:Zt)(a3:Int):Int×Zt->(Int×Zt)⊕Zs | (v5,v6,v7,v8) => (bif (decide ((v8:Int) < a3))then(.inl (v5,v6,(yY (W (v7*v6)) 1048576),(v8+1)))else(bif (decide (((yY (W ((W (a0*v7))*1048576)) (W ((qD (W ((W ((dC a2 a2)*1048576))*1048576))) - v5))):Int) > 1099511627776))then(.inr (0,4))else(.inr ((yY (W ((W (a0*v7))*1048576)) (W ((qD (W ((W ((dC a2 a2)*1048576))*1048576))) - v5))),0))))
noncomputable def aIj:=dY [1,1,1,1,1,0] [] (aV Tryz.f54)
def aIk (a0 a1:Int)(a2:Zt)(a3 v1:Int):LS:=⟨gU 79 [(0,(iv a0)),(3,(iv a3)),(6,(.p 0 0)),(11,(iv v1))],[(.live true false (k3 a2))]⟩
def sB (a0 a1:Int)(a2:Zt)(a3:Int):Int->Zs | v1 => (bif (decide (((qD (W ((W ((dC a2 a2)*1048576))*1048576))):Int)<=v1))then(0,10)else(aG (aEk a0 a1 a2 a3) (tN (a3 - 0)+1) (v1,(yY (W (v1*1048576)) (qD (W ((W ((dC a2 a2)*1048576))*1048576)))),(yY (W (v1*1048576)) (qD (W ((W ((dC a2 a2)*1048576))*1048576)))),0)))
theorem bDa (a0 a1:Int)(a2:Zt)(a3:Int) {cx:Cx} (hcx:cx.base=0):∀(n:Nat) (v5 v6 v7 v8:Int),(0<=v8)/\(a3<=2)/\(0<=v5)/\(v5 < (qD (W ((W ((dC a2 a2)*1048576))*1048576))))->tN (a3 - v8) < n->gG Tryz.f54 cx (.t (k2 (aG (aEk a0 a1 a2 a3) n (v5,v6,v7,v8)))) [] [] (.l aPe.1 n::aPe.2) (aM7 a0 a1 a2 a3 v5 v6 v7 v8):=by
 intro n
 induction n with|zero=>intro v5 v6 v7 v8 hi hn;exact absurd hn (dX _)|succ n ih=>?_
 intro v5 v6 v7 v8 hi hn;refine aN ?_;have hb2:=aUg (W ((W ((dC a2 a2)*1048576))*1048576));have hw2:=aH (n:=(qD (W ((W ((dC a2 a2)*1048576))*1048576))) - v5) oM oM;rw [aZ,aEk];cases h0:(decide ((v8:Int) < a3))
 case true=>have q0:=eS h0;refine bA n [.d h0,.c [] (bAf (W (v7*v6)) 1048576  oM)] [0,11,12,13,14,60,61] [] hcx aPe (aM7 a0 a1 a2 a3 v5 v6 (yY (W (v7*v6)) 1048576) (W (v8+1))) ?_;have z0:(W (v8+1))=(v8+1):=aH oM oM;rw [z0];exact ih _ _ _ _ oR oM
 let t1:SL:=[.d h0,.c [] (bAf (W ((W (a0*v7))*1048576)) (W ((qD (W ((W ((dC a2 a2)*1048576))*1048576))) - v5))  oM)];cases h1:(decide (((yY (W ((W (a0*v7))*1048576)) (W ((qD (W ((W ((dC a2 a2)*1048576))*1048576))) - v5))):Int) > 1099511627776))
 case true=>exact rT (t1++[.d h1]) hcx
 exact rT (t1++[.d h1]) hcx
theorem aUh (a0 a1:Int)(a2:Zt)(a3:Int) {cx:Cx} (hcx:cx.base=0)(v1:Int):(0<=v1)/\(v1<=2147483648)/\(a3<=2)->gG Tryz.f54 cx (.t (k2 (sB a0 a1 a2 a3 v1))) [] [] (.c aIj.1::aIj.2) (aIk a0 a1 a2 a3 v1):=by
 intro hi;have hb2:=aUg (W ((W ((dC a2 a2)*1048576))*1048576));have hw2:=aH (n:=(qD (W ((W ((dC a2 a2)*1048576))*1048576))) - v1) oM oM;let t0:SL:=[.c [] (aP8 a2 a2),.c [] (C99 (W ((W ((dC a2 a2)*1048576))*1048576)))];rw [sB];cases h0:(decide (((qD (W ((W ((dC a2 a2)*1048576))*1048576))):Int)<=v1))
 case true=>exact rT (t0++[.d h0]) hcx
 have q0:=iF h0;refine eN (t0++[.d h0,.c [] (bAf (W (v1*1048576)) (qD (W ((W ((dC a2 a2)*1048576))*1048576)))  oM)]) [0,11,12,13,14,60,61] [] hcx aPe (aM7 a0 a1 a2 a3 v1 (yY (W (v1*1048576)) (qD (W ((W ((dC a2 a2)*1048576))*1048576)))) (yY (W (v1*1048576)) (qD (W ((W ((dC a2 a2)*1048576))*1048576)))) 0) (tN (a3 - 0)+1) ?_;exact bDa a0 a1 a2 a3 hcx (tN (a3 - 0)+1) v1 (yY (W (v1*1048576)) (qD (W ((W ((dC a2 a2)*1048576))*1048576)))) (yY (W (v1*1048576)) (qD (W ((W ((dC a2 a2)*1048576))*1048576)))) 0 oR oM
def F54 (a0 a1:Int)(a2:Zt)(a3:Int):Zs := (bif (!(tL a0 0 1048576))then(0,1)else(bif (!(tL a1 0 131072))then(0,1)else(bif (!(F91 a2 384))then(0,1)else(bif (!(tL a3 0 2))then(0,1)else(bif (decide (((W ((qD (W ((W (a1*1048576))*1048576)))*(qD (W ((W (a1*1048576))*1048576))))):Int) < (W ((W (a1*1048576))*1048576))))then(sB a0 a1 a2 a3 (W ((qD (W ((W (a1*1048576))*1048576)))+1)))else(sB a0 a1 a2 a3 (qD (W ((W (a1*1048576))*1048576)))))))))
theorem C54 (a0 a1:Int)(a2:Zt)(a3:Int):Con Tryz.prog 54 [(iv a0),(iv a1),(.a (k3 a2)),(iv a3)] [] (.t (k2 (F54 a0 a1 a2 a3))) []:=by
 refine cS Tryz.func54 fun cx hcx=>?_
 have hb1:=aUg (W ((W (a1*1048576))*1048576));have hw1:=aH (n:=(qD (W ((W (a1*1048576))*1048576)))+1) oM oM;let t0:SL:=[.c [] (C98 a0 0 1048576)];rw [F54];cases h0:(!(tL a0 0 1048576))
 case true=>exact rT (t0++[.d h0]) hcx
 let t1:SL:=t0++[.d h0,.c [] (C98 a1 0 131072)];cases h1:(!(tL a1 0 131072))
 case true=>exact rT (t1++[.d h1]) hcx
 let t2:SL:=t1++[.d h1,.c [] (C91 a2 384)];cases h2:(!(F91 a2 384))
 case true=>exact rT (t2++[.d h2]) hcx
 let t3:SL:=t2++[.d h2,.c [] (C98 a3 0 2)];cases h3:(!(tL a3 0 2))
 case true=>exact rT (t3++[.d h3]) hcx
 try have ho9:=bC7 h3
 let t4:SL:=t3++[.d h3,.c [] (C99 (W ((W (a1*1048576))*1048576)))];cases h4:(decide (((W ((qD (W ((W (a1*1048576))*1048576)))*(qD (W ((W (a1*1048576))*1048576))))):Int) < (W ((W (a1*1048576))*1048576))))
 case true=>refine gA (t4++[.d h4,.z 7]) [0,3,6,11] [0] hcx aIj (aIk a0 a1 a2 a3 (W ((qD (W ((W (a1*1048576))*1048576)))+1))) ?_;exact aUh a0 a1 a2 a3 hcx (W ((qD (W ((W (a1*1048576))*1048576)))+1)) oR
 refine gA (t4++[.d h4,.z 7]) [0,3,6,11] [0] hcx aIj (aIk a0 a1 a2 a3 (qD (W ((W (a1*1048576))*1048576)))) ?_;exact aUh a0 a1 a2 a3 hcx (qD (W ((W (a1*1048576))*1048576))) oR
def F26 (a0:jY)(a1:Int)(a2:Zt)(a3:Int):Zs×Int := (bif (((F53 a0 a2 a3).2:Int) != 0)then((0,0),(F53 a0 a2 a3).2)else(bif (((F54 a0.2.1 a1 a2 a3).2:Int) != 0)then((0,0),(F54 a0.2.1 a1 a2 a3).2)else(bif (!(uZ ((W ((F53 a0 a2 a3).1.1 - (F54 a0.2.1 a1 a2 a3).1)),(W ((F53 a0 a2 a3).1.2+(F54 a0.2.1 a1 a2 a3).1)))))then((0,0),4)else(((W ((F53 a0 a2 a3).1.1 - (F54 a0.2.1 a1 a2 a3).1)),(W ((F53 a0 a2 a3).1.2+(F54 a0.2.1 a1 a2 a3).1))),0))))
theorem C26 (a0:jY)(a1:Int)(a2:Zt)(a3:Int):Con Tryz.prog 26 [(.a (kS1 a0)),(iv a1),(.a (k3 a2)),(iv a3)] [] (.t [(.a (k2 (F26 a0 a1 a2 a3).1)),(iv (F26 a0 a1 a2 a3).2)]) []:=by
 refine cS Tryz.func26 fun cx hcx=>?_
 let t0:SL:=[.c [] (C53 a0 a2 a3)];rw [F26];cases h0:(((F53 a0 a2 a3).2:Int) != 0)
 case true=>exact rT (t0++[.d h0]) hcx
 let t1:SL:=t0++[.d h0,.c [] (C54 a0.2.1 a1 a2 a3)];cases h1:(((F54 a0.2.1 a1 a2 a3).2:Int) != 0)
 case true=>exact rT (t1++[.d h1]) hcx
 let t2:SL:=t1++[.d h1,.c [] (C55 ((W ((F53 a0 a2 a3).1.1 - (F54 a0.2.1 a1 a2 a3).1)),(W ((F53 a0 a2 a3).1.2+(F54 a0.2.1 a1 a2 a3).1))))];cases h2:(!(uZ ((W ((F53 a0 a2 a3).1.1 - (F54 a0.2.1 a1 a2 a3).1)),(W ((F53 a0 a2 a3).1.2+(F54 a0.2.1 a1 a2 a3).1)))))
 case true=>exact rT (t2++[.d h2]) hcx
 exact rT (t2++[.d h2]) hcx
noncomputable def aB4:=aU [1,1,1,0,1] [] (aV Tryz.f24) []
def aEl (a0:bV)(a1:Zt)(v1 v2 v3 v4 v5 v6 v7 v8 v9 v10 v11 v12 v13 v14 v15:Int):LS:=⟨gU 34 [(4,(.p 1 0)),(7,(.p 2 0)),(20,(.s 0 0 a0.length 10)),(21,(iv (a0.length:Int))),(22,(iv v1))],[(.live false true (flat dI a0)),(.live true false [(iv 0),(iv 0),(iv 0),(iv 0),(iv 0),(iv 0),(iv 0),(iv 0),(iv 0),(iv 0),(iv 0)]),(.live true false [(iv v2),(iv v3),(iv v4),(iv v5),(iv v6),(iv v7),(iv v8),(iv v9),(iv v10),(iv v11),(iv v12),(iv v13),(iv v14),(iv v15)])]⟩
def zB (a0:bV)(a1:Zt):Int×Int×Int×Int×Int×Int×Int×Int×Int×Int×Int×Int×Zt->(Int×Int×Int×Int×Int×Int×Int×Int×Int×Int×Int×Int×Zt)⊕(jY×Int) | (v1,v2,v3,v4,v5,v6,v7,v8,v9,v10,v11,v12,v13,v14,v15) => (bif (decide ((v1:Int) < (a0.length:Int)))then(.inl ((v1+1),(pN ((v2,v3,(v4,v5,v6),(v7,v8,v9,v10,v11,v12)),(v13,v14,v15)) (a0.getD (tN v1) dF)).1.1,(pN ((v2,v3,(v4,v5,v6),(v7,v8,v9,v10,v11,v12)),(v13,v14,v15)) (a0.getD (tN v1) dF)).1.2.1,(pN ((v2,v3,(v4,v5,v6),(v7,v8,v9,v10,v11,v12)),(v13,v14,v15)) (a0.getD (tN v1) dF)).1.2.2.1.1,(pN ((v2,v3,(v4,v5,v6),(v7,v8,v9,v10,v11,v12)),(v13,v14,v15)) (a0.getD (tN v1) dF)).1.2.2.1.2.1,(pN ((v2,v3,(v4,v5,v6),(v7,v8,v9,v10,v11,v12)),(v13,v14,v15)) (a0.getD (tN v1) dF)).1.2.2.1.2.2,(pN ((v2,v3,(v4,v5,v6),(v7,v8,v9,v10,v11,v12)),(v13,v14,v15)) (a0.getD (tN v1) dF)).1.2.2.2.1,(pN ((v2,v3,(v4,v5,v6),(v7,v8,v9,v10,v11,v12)),(v13,v14,v15)) (a0.getD (tN v1) dF)).1.2.2.2.2.1,(pN ((v2,v3,(v4,v5,v6),(v7,v8,v9,v10,v11,v12)),(v13,v14,v15)) (a0.getD (tN v1) dF)).1.2.2.2.2.2.1,(pN ((v2,v3,(v4,v5,v6),(v7,v8,v9,v10,v11,v12)),(v13,v14,v15)) (a0.getD (tN v1) dF)).1.2.2.2.2.2.2.1,(pN ((v2,v3,(v4,v5,v6),(v7,v8,v9,v10,v11,v12)),(v13,v14,v15)) (a0.getD (tN v1) dF)).1.2.2.2.2.2.2.2.1,(pN ((v2,v3,(v4,v5,v6),(v7,v8,v9,v10,v11,v12)),(v13,v14,v15)) (a0.getD (tN v1) dF)).1.2.2.2.2.2.2.2.2,(pN ((v2,v3,(v4,v5,v6),(v7,v8,v9,v10,v11,v12)),(v13,v14,v15)) (a0.getD (tN v1) dF)).2.1,(pN ((v2,v3,(v4,v5,v6),(v7,v8,v9,v10,v11,v12)),(v13,v14,v15)) (a0.getD (tN v1) dF)).2.2.1,(pN ((v2,v3,(v4,v5,v6),(v7,v8,v9,v10,v11,v12)),(v13,v14,v15)) (a0.getD (tN v1) dF)).2.2.2))else(.inr ((v2,v3,(v4,v5,v6),(v7,v8,v9,v10,v11,v12)),0)))
theorem aWj (a0:bV)(a1:Zt)(l0:a0.length<=2^63-1) {cx:Cx} (hcx:cx.base=1):∀(n:Nat) (v1 v2 v3 v4 v5 v6 v7 v8 v9 v10 v11 v12 v13 v14 v15:Int),0<=v1->tN ((a0.length:Int) - v1) < n->gG Tryz.f24 cx (.t [(.a (kS1 (aG (zB a0 a1) n (v1,v2,v3,v4,v5,v6,v7,v8,v9,v10,v11,v12,v13,v14,v15)).1)),(iv (aG (zB a0 a1) n (v1,v2,v3,v4,v5,v6,v7,v8,v9,v10,v11,v12,v13,v14,v15)).2)]) [] [] (.l aB4.1 n::aB4.2) (aEl a0 a1 v1 v2 v3 v4 v5 v6 v7 v8 v9 v10 v11 v12 v13 v14 v15):=by
 intro n
 induction n with|zero=>intro v1 v2 v3 v4 v5 v6 v7 v8 v9 v10 v11 v12 v13 v14 v15 hi hn;exact absurd hn (dX _)|succ n ih=>?_
 intro v1 v2 v3 v4 v5 v6 v7 v8 v9 v10 v11 v12 v13 v14 v15 hi hn;refine aN ?_;rw [aZ,zB];cases h0:(decide ((v1:Int) < (a0.length:Int)))
 case true=>have q0:=eS h0;refine bA n [.d h0,.i v1 (a0.length),.L cQ a0 v1 0 10,.c [2] (C52 ((v2,v3,(v4,v5,v6),(v7,v8,v9,v10,v11,v12)),(v13,v14,v15)) (a0.getD (tN v1) dF))] [4,7,20,21,22] [1,2] hcx aB4 (aEl a0 a1 (W (v1+1)) ((pN ((v2,v3,(v4,v5,v6),(v7,v8,v9,v10,v11,v12)),(v13,v14,v15)) (a0.getD (tN v1) dF)).1.1) ((pN ((v2,v3,(v4,v5,v6),(v7,v8,v9,v10,v11,v12)),(v13,v14,v15)) (a0.getD (tN v1) dF)).1.2.1) ((pN ((v2,v3,(v4,v5,v6),(v7,v8,v9,v10,v11,v12)),(v13,v14,v15)) (a0.getD (tN v1) dF)).1.2.2.1.1) ((pN ((v2,v3,(v4,v5,v6),(v7,v8,v9,v10,v11,v12)),(v13,v14,v15)) (a0.getD (tN v1) dF)).1.2.2.1.2.1) ((pN ((v2,v3,(v4,v5,v6),(v7,v8,v9,v10,v11,v12)),(v13,v14,v15)) (a0.getD (tN v1) dF)).1.2.2.1.2.2) ((pN ((v2,v3,(v4,v5,v6),(v7,v8,v9,v10,v11,v12)),(v13,v14,v15)) (a0.getD (tN v1) dF)).1.2.2.2.1) ((pN ((v2,v3,(v4,v5,v6),(v7,v8,v9,v10,v11,v12)),(v13,v14,v15)) (a0.getD (tN v1) dF)).1.2.2.2.2.1) ((pN ((v2,v3,(v4,v5,v6),(v7,v8,v9,v10,v11,v12)),(v13,v14,v15)) (a0.getD (tN v1) dF)).1.2.2.2.2.2.1) ((pN ((v2,v3,(v4,v5,v6),(v7,v8,v9,v10,v11,v12)),(v13,v14,v15)) (a0.getD (tN v1) dF)).1.2.2.2.2.2.2.1) ((pN ((v2,v3,(v4,v5,v6),(v7,v8,v9,v10,v11,v12)),(v13,v14,v15)) (a0.getD (tN v1) dF)).1.2.2.2.2.2.2.2.1) ((pN ((v2,v3,(v4,v5,v6),(v7,v8,v9,v10,v11,v12)),(v13,v14,v15)) (a0.getD (tN v1) dF)).1.2.2.2.2.2.2.2.2) ((pN ((v2,v3,(v4,v5,v6),(v7,v8,v9,v10,v11,v12)),(v13,v14,v15)) (a0.getD (tN v1) dF)).2.1) ((pN ((v2,v3,(v4,v5,v6),(v7,v8,v9,v10,v11,v12)),(v13,v14,v15)) (a0.getD (tN v1) dF)).2.2.1) ((pN ((v2,v3,(v4,v5,v6),(v7,v8,v9,v10,v11,v12)),(v13,v14,v15)) (a0.getD (tN v1) dF)).2.2.2)) ?_;have z0:(W (v1+1))=(v1+1):=aH oM oM;rw [z0];exact ih _ _ _ _ _ _ _ _ _ _ _ _ _ _ _ oM oM
 exact rT [.d h0] hcx
def lD (a0:bV)(a1:Zt):jY×Int := (bif (((sP a0 a1):Int) != 0)then((0,0,(0,0,0),(0,0,0,0,0,0)),(sP a0 a1))else(aG (zB a0 a1) (tN ((a0.length:Int) - 0)+1) (0,0,0,0,0,0,0,0,0,0,0,0,a1.1,a1.2.1,a1.2.2)))
theorem bDb (a0:bV)(a1:Zt)(l0:a0.length<=2^63-1):Con Tryz.prog 24 [(.s 0 0 a0.length 10),(.a (k3 a1))] [(.live false true (flat dI a0))] (.t [(.a (kS1 (lD a0 a1).1)),(iv (lD a0 a1).2)]) []:=by
 refine cS Tryz.func24 fun cx hcx=>?_
 let t0:SL:=[.c [0] (aXv a0 a1 oM)];rw [lD];cases h0:(((sP a0 a1):Int) != 0)
 case true=>exact rT (t0++[.d h0]) hcx
 refine eN (t0++[.d h0]) [4,7,20,21,22] [2,3] hcx aB4 (aEl a0 a1 0 0 0 0 0 0 0 0 0 0 0 0 (a1.1) (a1.2.1) (a1.2.2)) (tN ((a0.length:Int) - 0)+1) ?_;exact aWj a0 a1 l0 hcx (tN ((a0.length:Int) - 0)+1) 0 0 0 0 0 0 0 0 0 0 0 0 (a1.1) (a1.2.1) (a1.2.2) oM oM
end Go.Proofs.YtlffahoikfahlaaGreat
