/-
  Parts of the proofs of the laws: the executor, what functions of the program compute, and that it is what the statements ask. No premise.
-/
import Derived.Test.YtlffahoikfahlaaGreatVPte5
set_option linter.unusedVariables false
set_option linter.unusedSimpArgs false
set_option maxHeartbeats 4000000
open Int renaming toNat → tN
open Inhabited renaming default → dF
open Go.IntKind renaming wrap → iW
open BitVec renaming ofInt → bO
open Int renaming tdiv → tD
open Int renaming fdiv → fD
open Int renaming tmod → mD
namespace Go.Proofs.YtlffahoikfahlaaGreat
open Go.Proofs Go.Aw Go.RowKit
set_option maxRecDepth 100000
theorem InR.add {n:Nat} {l:ZL} (h:InR n l) {x:Int} (hx:0<=x/\x < (n:Int)):InR n (l++[x]):=fun y hy=>by
 rcases List.mem_append.1 hy with hy | hy
 ·exact h y hy
 ·rw [List.mem_singleton.1 hy];exact hx
theorem InR.nil (n:Nat):InR n []:=fun y hy=>by simp at hy
noncomputable def yO:=aU [1,1,0,1] [] (aV Tryz.f39) []
def aD5 (a0:bV)(a1:Int)(v3c:List SV)(v3n:Nat)(v4c:List SV)(v4n:Nat)(v5:Int):LS:=⟨gU 40 [(0,(.s 0 0 a0.length 10)),(4,(.p 1 0)),(5,(.p 2 0)),(12,(iv (a0.length:Int))),(13,(iv v5))],[(.live false true (flat dI a0)),(.live true false [(.v (.slice none 0 0)),(.v (.slice none 0 0))]),(.live true false [(.s 0 0 a0.length 10),(iv a1),(.s 3 0 v3n 1),(.s 4 0 v4n 8)]),(.live true true v3c),(.live true true v4c)]⟩
def mK (a0:bV)(a1:Int):ZL×cV×Int->(ZL×cV×Int)⊕(ZL×cV) | (v3,v4,v5) => (bif (decide ((v5:Int) < (a0.length:Int)))then(.inl ((v3++[v5]),v4,(v5+1)))else(bif (decide (((a0.length:Int):Int) > 0))then(.inr ((F76 (a0,a1,(v3,v4)) 0 (a0.length:Int)).2.2.2.1,(F76 (a0,a1,(v3,v4)) 0 (a0.length:Int)).2.2.2.2))else(.inr (v3,v4))))
theorem aV3 (a0:bV)(a1:Int)(l0:a0.length<=2^63-1)(hl:a0.length<=96)(hf:1<=a1) {cx:Cx} (hcx:cx.base=1):∀(n:Nat) (v3:ZL) (v4:cV) (v5:Int),(0<=v5)/\(v3.length=tN v5)/\(InR a0.length v3)/\(v4.length=0)/\(v5<=a0.length)/\(a0.length<=96)/\(1<=a1)->tN ((a0.length:Int) - v5) < n->gG Tryz.f39 cx (.a [(.s 1 0 (aG (mK a0 a1) n (v3,v4,v5)).1.length 1),(.s 2 0 (aG (mK a0 a1) n (v3,v4,v5)).2.length 8)]) [(.live true true (flat c3 (aG (mK a0 a1) n (v3,v4,v5)).1)),(.live true true (flat cR (aG (mK a0 a1) n (v3,v4,v5)).2))] [] (.l yO.1 n::yO.2) (aD5 a0 a1 (flat c3 v3) v3.length (flat cR v4) v4.length v5):=by
 intro n
 induction n with|zero=>intro v3 v4 v5 hi hn;exact absurd hn (dX _)|succ n ih=>?_
 intro v3 v4 v5 hi hn;refine aN ?_;rw [aZ,mK];cases h0:(decide ((v5:Int) < (a0.length:Int)))
 case true=>have q0:=eS h0;refine bA n [.d h0,.p (show((flat c3 v3).length=v3.length*1/\v3.length+1<=2 ^ 40/\(v3.length+1)*8<=2 ^ 47) from iS aF oM oM)] [0,4,5,12,13] [1,2,6,4] hcx yO (aD5 a0 a1 (flat c3 v3++[(iv v5)]) (v3.length+1) (flat cR v4) (v4.length) (W (v5+1))) ?_;have z0:(W (v5+1))=(v5+1):=aH oM oM;have z1:(flat c3 v3++[(iv v5)])=_:=(bQ (c:=c3) (l:=v3) (m:=[v5])).symm;have z2:(v3.length+1)=_:=jN v3 [v5] rfl;rw [z0,z1,z2];exact ih _ _ _ (by refine⟨?_,?_,?_,?_,?_,?_,?_⟩<;>first | omega | assumption | exact InR.nil _ | exact hi.2.2.1 | exact hi.2.2.1.add oM | (simp only [Ls];omega) | simp) oM
 have q0:=iF h0;let t1:SL:=[.d h0];cases h1:(decide (((a0.length:Int):Int) > 0))
 case true=>have q1:=eS h1;exact rt (t1++[.d h1,.c [2,0,3,4] (C76 (a0,a1,(v3,v4)) 0 (a0.length:Int) oM (by(try simp only [Lt]);omega) (by(try simp only [Lt]);omega) (by refine⟨?_,?_,?_,?_⟩<;>first | exact hi.2.2.1 | (simp only [];omega) | omega))]) [] [3,5] hcx oK
 exact rt (t1++[.d h1]) [] [3,4] hcx oK
def oT (a0:bV)(a1:Int):ZL×cV := (aG (mK a0 a1) (tN ((a0.length:Int) - 0)+1) (([]:ZL),([]:cV),0))
theorem aXw (a0:bV)(a1:Int)(l0:a0.length<=2^63-1)(hl:a0.length<=96)(hf:1<=a1):Con Tryz.prog 39 [(.s 0 0 a0.length 10),(iv a1)] [(.live false true (flat dI a0))] (.a [(.s 1 0 (oT a0 a1).1.length 1),(.s 2 0 (oT a0 a1).2.length 8)]) [(.live true true (flat c3 (oT a0 a1).1)),(.live true true (flat cR (oT a0 a1).2))]:=by
 refine cS Tryz.func39 fun cx hcx=>?_
 refine en [] [.cell 2 2 1,.cell 2 3 8] [0,4,5,12,13] [1,2,3,4] hcx yO.1 yO.2 (aD5 a0 a1 (flat c3 ([]:ZL)) 0 (flat cR ([]:cV)) 0 0) (tN ((a0.length:Int) - 0)+1) oK ?_;exact aV3 a0 a1 l0 hl hf hcx (tN ((a0.length:Int) - 0)+1) ([]:ZL) ([]:cV) 0 (by refine⟨?_,?_,?_,?_,?_,?_,?_⟩<;>first | omega | assumption | exact InR.nil _ | exact hi.2.2.1 | exact hi.2.2.1.add oM | (simp only [Ls];omega) | simp) oM
end Go.Proofs.YtlffahoikfahlaaGreat
namespace Go.Proofs.YtlffahoikfahlaaGreat
open Go.Proofs Go.Aw Go.RowKit
set_option maxRecDepth 100000
noncomputable def aKr:=aU [1,1,0,1] [] (aV Tryz.f19) []
def aHv (a0:ZL×cV)(v1 v2:Int):LS:=⟨gU 20 [(3,(iv v1)),(7,(.s 1 0 a0.2.length 8)),(8,(iv (a0.2.length:Int))),(9,(iv v2))],[(.live false true (flat c3 a0.1)),(.live false true (flat cR a0.2))]⟩
def aTk (a0:ZL×cV):Zs->Zs⊕(Int) | (v1,v2) => (bif (decide ((v2:Int) < (a0.2.length:Int)))then(bif (decide (((a0.2.getD (tN v2) dF).2.2.1:Int) < 0))then(.inl ((W (v1+1)),(v2+1)))else(.inl (v1,(v2+1))))else(.inr v1))
theorem bCo (a0:ZL×cV)(l0_1:a0.1.length<=2^63-1)(l0_2:a0.2.length<=2^63-1)(hl:a0.2.length<=1048576) {cx:Cx} (hcx:cx.base=2):∀(n:Nat) (v1 v2:Int),0<=v2->tN ((a0.2.length:Int) - v2) < n->gG Tryz.f19 cx (iv (aG (aTk a0) n (v1,v2))) [] [] (.l aKr.1 n::aKr.2) (aHv a0 v1 v2):=by
 intro n
 induction n with|zero=>intro v1 v2 hi hn;exact absurd hn (dX _)|succ n ih=>?_
 intro v1 v2 hi hn;refine aN ?_;rw [aZ,aTk];cases h0:(decide ((v2:Int) < (a0.2.length:Int)))
 case true=>
  have q0:=eS h0;let t1:SL:=[.d h0,.i v2 (a0.2.length),.L cC a0.2 v2 0 8];cases h1:(decide (((a0.2.getD (tN v2) dF).2.2.1:Int) < 0))
  case true=>refine bA n (t1++[.d h1]) [3,7,8,9] [] hcx aKr (aHv a0 (W (v1+1)) (W (v2+1))) ?_;have z0:(W (v2+1))=(v2+1):=aH oM oM;rw [z0];exact ih _ _ oM oM
  refine bA n (t1++[.d h1]) [3,7,8,9] [] hcx aKr (aHv a0 v1 (W (v2+1))) ?_;have z0:(W (v2+1))=(v2+1):=aH oM oM;rw [z0];exact ih _ _ oM oM
 exact rT [.d h0] hcx
def F19 (a0:ZL×cV):Int := (aG (aTk a0) (tN ((a0.2.length:Int) - 0)+1) (0,0))
theorem C19 (a0:ZL×cV)(l0_1:a0.1.length<=2^63-1)(l0_2:a0.2.length<=2^63-1)(hl:a0.2.length<=1048576):Con Tryz.prog 19 [(.a [(.s 0 0 a0.1.length 1),(.s 1 0 a0.2.length 8)])] [(.live false true (flat c3 a0.1)),(.live false true (flat cR a0.2))] (iv (F19 a0)) []:=by
 refine cS Tryz.func19 fun cx hcx=>?_
 refine eN [] [3,7,8,9] [] hcx aKr (aHv a0 0 0) (tN ((a0.2.length:Int) - 0)+1) ?_;exact bCo a0 l0_1 l0_2 hl hcx (tN ((a0.2.length:Int) - 0)+1) 0 0 oM oM
noncomputable def aKs:=aU [1,1,0,1] [] (aV Tryz.f17) []
def aMv (v2c:List SV)(v2n:Nat)(v3:Int):LS:=⟨gU 23 [(1,(.s 0 0 v2n 10)),(2,(iv v3))],[(.live true true v2c)]⟩
def aOx:bV×Int->(bV×Int)⊕bV | (v2,v3) => (bif (decide ((v3:Int) < 4))then(.inl ((v2++[((((W (9*v3)),0,0),((W ((W (9*v3))+1)),0,0),((W (9*v3)),1,0)),1)]),(v3+1)))else(.inr v2))
theorem bCp {cx:Cx} (hcx:cx.base=0):∀(n:Nat) (v2:bV) (v3:Int),(0<=v3)/\(v2.length=tN v3)/\(v3<=4)->tN (4 - v3) < n->gG Tryz.f17 cx (.s 0 0 (aG (aOx) n (v2,v3)).length 10) [(.live true true (flat dI (aG (aOx) n (v2,v3))))] [] (.l aKs.1 n::aKs.2) (aMv (flat dI v2) v2.length v3):=by
 intro n
 induction n with|zero=>intro v2 v3 hi hn;exact absurd hn (dX _)|succ n ih=>?_
 intro v2 v3 hi hn;refine aN ?_;rw [aZ,aOx];cases h0:(decide ((v3:Int) < 4))
 case true=>have q0:=eS h0;refine bA n [.d h0,.p (show((flat dI v2).length=v2.length*10/\v2.length+1<=2 ^ 40/\(v2.length+1)*80<=2 ^ 47) from iS cQ oM oM)] [1,2] [2] hcx aKs (aMv (flat dI v2++[(iv (W (9*v3))),(iv 0),(iv 0),(iv (W ((W (9*v3))+1))),(iv 0),(iv 0),(iv (W (9*v3))),(iv 1),(iv 0),(iv 1)]) (v2.length+1) (W (v3+1))) ?_;have z0:(W (v3+1))=(v3+1):=aH oM oM;have z1:(flat dI v2++[(iv (W (9*v3))),(iv 0),(iv 0),(iv (W ((W (9*v3))+1))),(iv 0),(iv 0),(iv (W (9*v3))),(iv 1),(iv 0),(iv 1)])=_:=(bQ (c:=dI) (l:=v2) (m:=[((((W (9*v3)),0,0),((W ((W (9*v3))+1)),0,0),((W (9*v3)),1,0)),1)])).symm;have z2:(v2.length+1)=_:=jN v2 [((((W (9*v3)),0,0),((W ((W (9*v3))+1)),0,0),((W (9*v3)),1,0)),1)] rfl;rw [z0,z1,z2];exact ih _ _ oR oM
 exact rt [.d h0] [] [0] hcx oK
def yP:bV := (aG (aOx) (tN (4 - 0)+1) (([]:bV),0))
theorem C17:Con Tryz.prog 17 [] [] (.s 0 0 yP.length 10) [(.live true true (flat dI yP))]:=by
 refine cS Tryz.func17 fun cx hcx=>?_
 refine en [] [.slot 1 10] [1,2] [0] hcx aKs.1 aKs.2 (aMv (flat dI ([]:bV)) 0 0) (tN (4 - 0)+1) oK ?_;exact bCp hcx (tN (4 - 0)+1) ([]:bV) 0 oR oM
def F23 (a0 a1 a2:Int):Bool := (bif (decide ((a0:Int)≥a1))then(decide ((a0:Int)<=a2))else false)
theorem C23 (a0 a1 a2:Int):Con Tryz.prog 23 [(iv a0),(iv a1),(iv a2)] [] (.v (.bool (F23 a0 a1 a2))) []:=by
 refine cS Tryz.func23 fun cx hcx=>?_
 rw [F23];cases h0:(decide ((a0:Int)≥a1))
 case true=>exact rT [.d h0] hcx
 exact rT [.d h0] hcx
theorem bCq {n m k:Int} (h:(!(F23 n k m))=false):k<=n:=by
 simp only [F23] at h;by_cases h1:n≥k
 ·exact h1
 ·rw [cA h1] at h;simp at h
def fZ (a0:bV)(a1:Int):(ZL×cV)×Int := (bif (((iH a0):Int) != 0)then((([]:ZL),([]:cV)),(iH a0))else(bif (!(F23 a1 1 16))then((([]:ZL),([]:cV)),1)else(((oT a0 a1).1,(oT a0 a1).2),0)))
theorem bCr (a0:bV)(a1:Int)(l0:a0.length<=2^63-1):Con Tryz.prog 11 [(.s 0 0 a0.length 10),(iv a1)] [(.live false true (flat dI a0))] (.t [(.a [(.s 1 0 (fZ a0 a1).1.1.length 1),(.s 2 0 (fZ a0 a1).1.2.length 8)]),(iv (fZ a0 a1).2)]) [(.live true true (flat c3 (fZ a0 a1).1.1)),(.live true true (flat cR (fZ a0 a1).1.2))]:=by
 refine cS Tryz.func11 fun cx hcx=>?_
 let t0:SL:=[.c [0] (aN1 a0 oM)];rw [fZ];cases h0:(((iH a0):Int) != 0)
 case true=>exact rt (t0++[.d h0]) [.cell 1 0 1,.cell 1 1 8] [2,3] hcx oK
 let t1:SL:=t0++[.d h0,.c [] (C23 a1 1 16)];cases h1:(!(F23 a1 1 16))
 case true=>exact rt (t1++[.d h1]) [.cell 1 0 1,.cell 1 1 8] [2,3] hcx oK
 exact rt (t1++[.d h1,.c [0] (aXw a0 a1 oM (uN (l:=a0) (bne_eq_false_iff_eq.1 h0)) (bCq h1))]) [] [2,3] hcx oK
noncomputable def sQ:=aU [1,1,0,1] [] (aV Tryz.f18) []
def oU (a0:ZL×cV)(v1c:List SV)(v1n:Nat)(v2:Int):LS:=⟨gU 69 [(1,(.p 2 0)),(3,(.s 3 0 v1n 1)),(4,(iv v2))],[(.live false true (flat c3 a0.1)),(.live false true (flat cR a0.2)),(.live true false [(.s 0 0 a0.1.length 1),(.s 1 0 a0.2.length 8)]),(.live true true v1c)]⟩
def aTl (a0:ZL×cV):ZL×Int->(ZL×Int)⊕(Int) | (v1,v2) => (bif (decide ((v2:Int)≥0))then(bif (decide (((a0.2.getD (tN v2) dF).2.2.1:Int) > v2))then(bif (decide (((a0.2.getD (tN v2) dF).2.2.1:Int) < (v1.length:Int)))then(bif (decide (((a0.2.getD (tN v2) dF).2.2.2.1:Int) > v2))then(bif (decide (((a0.2.getD (tN v2) dF).2.2.2.1:Int) < (v1.length:Int)))then(.inl ((((v1.set (tN v2) 1).set (tN v2) (bT ((v1.set (tN v2) 1).getD (tN v2) dF) (W (((v1.set (tN v2) 1).getD (tN (a0.2.getD (tN v2) dF).2.2.1) dF)+1)))).set (tN v2) (bT (((v1.set (tN v2) 1).set (tN v2) (bT ((v1.set (tN v2) 1).getD (tN v2) dF) (W (((v1.set (tN v2) 1).getD (tN (a0.2.getD (tN v2) dF).2.2.1) dF)+1)))).getD (tN v2) dF) (W ((((v1.set (tN v2) 1).set (tN v2) (bT ((v1.set (tN v2) 1).getD (tN v2) dF) (W (((v1.set (tN v2) 1).getD (tN (a0.2.getD (tN v2) dF).2.2.1) dF)+1)))).getD (tN (a0.2.getD (tN v2) dF).2.2.2.1) dF)+1)))),(W (v2 - 1))))else(.inl (((v1.set (tN v2) 1).set (tN v2) (bT ((v1.set (tN v2) 1).getD (tN v2) dF) (W (((v1.set (tN v2) 1).getD (tN (a0.2.getD (tN v2) dF).2.2.1) dF)+1)))),(W (v2 - 1)))))else(.inl (((v1.set (tN v2) 1).set (tN v2) (bT ((v1.set (tN v2) 1).getD (tN v2) dF) (W (((v1.set (tN v2) 1).getD (tN (a0.2.getD (tN v2) dF).2.2.1) dF)+1)))),(W (v2 - 1)))))else(bif (decide (((a0.2.getD (tN v2) dF).2.2.2.1:Int) > v2))then(bif (decide (((a0.2.getD (tN v2) dF).2.2.2.1:Int) < (v1.length:Int)))then(.inl (((v1.set (tN v2) 1).set (tN v2) (bT ((v1.set (tN v2) 1).getD (tN v2) dF) (W (((v1.set (tN v2) 1).getD (tN (a0.2.getD (tN v2) dF).2.2.2.1) dF)+1)))),(W (v2 - 1))))else(.inl ((v1.set (tN v2) 1),(W (v2 - 1)))))else(.inl ((v1.set (tN v2) 1),(W (v2 - 1))))))else(bif (decide (((a0.2.getD (tN v2) dF).2.2.2.1:Int) > v2))then(bif (decide (((a0.2.getD (tN v2) dF).2.2.2.1:Int) < (v1.length:Int)))then(.inl (((v1.set (tN v2) 1).set (tN v2) (bT ((v1.set (tN v2) 1).getD (tN v2) dF) (W (((v1.set (tN v2) 1).getD (tN (a0.2.getD (tN v2) dF).2.2.2.1) dF)+1)))),(W (v2 - 1))))else(.inl ((v1.set (tN v2) 1),(W (v2 - 1)))))else(.inl ((v1.set (tN v2) 1),(W (v2 - 1))))))else(bif (((v1.length:Int):Int) == 0)then(.inr 0)else(.inr (v1.getD (tN 0) dF))))
theorem bCs (a0:ZL×cV)(l0_1:a0.1.length<=2^63-1)(l0_2:a0.2.length<=2^63-1)(hl:a0.2.length<=1048576) {cx:Cx} (hcx:cx.base=2):∀(n:Nat) (v1:ZL) (v2:Int),(v1.length=a0.2.length)/\(-1<=v2)/\(v2 < a0.2.length)->tN (v2+1) < n->gG Tryz.f18 cx (iv (aG (aTl a0) n (v1,v2))) [] [] (.l sQ.1 n::sQ.2) (oU a0 (flat c3 v1) v1.length v2):=by
 intro n
 induction n with|zero=>intro v1 v2 hi hn;exact absurd hn (dX _)|succ n ih=>?_
 intro v1 v2 hi hn;refine aN ?_;have hw_i:=aH (n:=v2 - 1) oM oM;rw [aZ,aTl];cases h0:(decide ((v2:Int)≥0))
 case true=>
  have q0:=eS h0;let t1:SL:=[.d h0,.i v2 (v1.length),.p (show((0+tN v2*1)+1<=(flat c3 v1).length) from(dR aF oL (o:=0) (Nb rfl))),.i v2 (a0.2.length),.L cC a0.2 v2 2 1,.i v2 (a0.2.length),.L cC a0.2 v2 3 1,.u 200,.T,.i 0 2];cases h1:(decide (((a0.2.getD (tN v2) dF).2.2.1:Int) > v2))
  case true=>
   have q1:=eS h1;let t2:SL:=t1++[.d h1];cases h2:(decide (((a0.2.getD (tN v2) dF).2.2.1:Int) < (v1.length:Int)))
   case true=>
    have q2:=eS h2;let t3:SL:=t2++[.d h2,.i v2 (v1.length),.R aF (v1.set (tN v2) 1) v2 0 1 (show(splice (flat c3 v1) (0+tN v2*1) [(iv 1)])=flat c3 (v1.set (tN v2) 1) from(bE aF oL (o:=0) (d:=dF) (Nb rfl) rfl)),.i ((a0.2.getD (tN v2) dF).2.2.1) (v1.length),.R aF (v1.set (tN v2) 1) (a0.2.getD (tN v2) dF).2.2.1 0 1 (show(splice (flat c3 v1) (0+tN v2*1) [(iv 1)])=flat c3 (v1.set (tN v2) 1) from(bE aF oL (o:=0) (d:=dF) (Nb rfl) rfl)),.i v2 (v1.length),.p (show((0+tN v2*1)+1<=(splice (flat c3 v1) (0+tN v2*1) [(iv 1)]).length) from(by rw [show(splice (flat c3 v1) (0+tN v2*1) [(iv 1)])=flat c3 (v1.set (tN v2) 1) from(bE aF oL (o:=0) (d:=dF) (Nb rfl) rfl)];exact dR aF oL (o:=0) (Nb rfl))),.u 0,.T,.i 1 2];cases h3:(decide (((a0.2.getD (tN v2) dF).2.2.2.1:Int) > v2))
    case true=>
     have q3:=eS h3;let t4:SL:=t3++[.d h3];cases h4:(decide (((a0.2.getD (tN v2) dF).2.2.2.1:Int) < (v1.length:Int)))
     case true=>
      have q4:=eS h4;refine bA n (t4++[.d h4,.i v2 (v1.length),.R aF ((v1.set (tN v2) 1).set (tN v2) (bT ((v1.set (tN v2) 1).getD (tN v2) dF) (W (((v1.set (tN v2) 1).getD (tN (a0.2.getD (tN v2) dF).2.2.1) dF)+1)))) v2 0 1 (show(splice (splice (flat c3 v1) (0+tN v2*1) [(iv 1)]) (0+tN v2*1) [(iv (bT ((v1.set (tN v2) 1).getD (tN v2) dF) (W (((v1.set (tN v2) 1).getD (tN (a0.2.getD (tN v2) dF).2.2.1) dF)+1))))])=flat c3 ((v1.set (tN v2) 1).set (tN v2) (bT ((v1.set (tN v2) 1).getD (tN v2) dF) (W (((v1.set (tN v2) 1).getD (tN (a0.2.getD (tN v2) dF).2.2.1) dF)+1)))) from(by rw [show(splice (flat c3 v1) (0+tN v2*1) [(iv 1)])=flat c3 (v1.set (tN v2) 1) from(bE aF oL (o:=0) (d:=dF) (Nb rfl) rfl)];exact bE aF oL (o:=0) (d:=dF) (Nb rfl) rfl)),.i ((a0.2.getD (tN v2) dF).2.2.2.1) (v1.length),.R aF ((v1.set (tN v2) 1).set (tN v2) (bT ((v1.set (tN v2) 1).getD (tN v2) dF) (W (((v1.set (tN v2) 1).getD (tN (a0.2.getD (tN v2) dF).2.2.1) dF)+1)))) (a0.2.getD (tN v2) dF).2.2.2.1 0 1 (show(splice (splice (flat c3 v1) (0+tN v2*1) [(iv 1)]) (0+tN v2*1) [(iv (bT ((v1.set (tN v2) 1).getD (tN v2) dF) (W (((v1.set (tN v2) 1).getD (tN (a0.2.getD (tN v2) dF).2.2.1) dF)+1))))])=flat c3 ((v1.set (tN v2) 1).set (tN v2) (bT ((v1.set (tN v2) 1).getD (tN v2) dF) (W (((v1.set (tN v2) 1).getD (tN (a0.2.getD (tN v2) dF).2.2.1) dF)+1)))) from(by rw [show(splice (flat c3 v1) (0+tN v2*1) [(iv 1)])=flat c3 (v1.set (tN v2) 1) from(bE aF oL (o:=0) (d:=dF) (Nb rfl) rfl)];exact bE aF oL (o:=0) (d:=dF) (Nb rfl) rfl)),.i v2 (v1.length),.p (show((0+tN v2*1)+1<=(splice (splice (flat c3 v1) (0+tN v2*1) [(iv 1)]) (0+tN v2*1) [(iv (bT ((v1.set (tN v2) 1).getD (tN v2) dF) (W (((v1.set (tN v2) 1).getD (tN (a0.2.getD (tN v2) dF).2.2.1) dF)+1))))]).length) from(by rw [show(splice (splice (flat c3 v1) (0+tN v2*1) [(iv 1)]) (0+tN v2*1) [(iv (bT ((v1.set (tN v2) 1).getD (tN v2) dF) (W (((v1.set (tN v2) 1).getD (tN (a0.2.getD (tN v2) dF).2.2.1) dF)+1))))])=flat c3 ((v1.set (tN v2) 1).set (tN v2) (bT ((v1.set (tN v2) 1).getD (tN v2) dF) (W (((v1.set (tN v2) 1).getD (tN (a0.2.getD (tN v2) dF).2.2.1) dF)+1)))) from(by rw [show(splice (flat c3 v1) (0+tN v2*1) [(iv 1)])=flat c3 (v1.set (tN v2) 1) from(bE aF oL (o:=0) (d:=dF) (Nb rfl) rfl)];exact bE aF oL (o:=0) (d:=dF) (Nb rfl) rfl)];exact dR aF oL (o:=0) (Nb rfl))),.u 0,.F]) [1,3,4] [2,3] hcx sQ (oU a0 (splice (splice (splice (flat c3 v1) (0+tN v2*1) [(iv 1)]) (0+tN v2*1) [(iv (bT ((v1.set (tN v2) 1).getD (tN v2) dF) (W (((v1.set (tN v2) 1).getD (tN (a0.2.getD (tN v2) dF).2.2.1) dF)+1))))]) (0+tN v2*1) [(iv (bT (((v1.set (tN v2) 1).set (tN v2) (bT ((v1.set (tN v2) 1).getD (tN v2) dF) (W (((v1.set (tN v2) 1).getD (tN (a0.2.getD (tN v2) dF).2.2.1) dF)+1)))).getD (tN v2) dF) (W ((((v1.set (tN v2) 1).set (tN v2) (bT ((v1.set (tN v2) 1).getD (tN v2) dF) (W (((v1.set (tN v2) 1).getD (tN (a0.2.getD (tN v2) dF).2.2.1) dF)+1)))).getD (tN (a0.2.getD (tN v2) dF).2.2.2.1) dF)+1))))]) (v1.length) (W (v2 - 1))) ?_;have z0:(splice (splice (splice (flat c3 v1) (0+tN v2*1) [(iv 1)]) (0+tN v2*1) [(iv (bT ((v1.set (tN v2) 1).getD (tN v2) dF) (W (((v1.set (tN v2) 1).getD (tN (a0.2.getD (tN v2) dF).2.2.1) dF)+1))))]) (0+tN v2*1) [(iv (bT (((v1.set (tN v2) 1).set (tN v2) (bT ((v1.set (tN v2) 1).getD (tN v2) dF) (W (((v1.set (tN v2) 1).getD (tN (a0.2.getD (tN v2) dF).2.2.1) dF)+1)))).getD (tN v2) dF) (W ((((v1.set (tN v2) 1).set (tN v2) (bT ((v1.set (tN v2) 1).getD (tN v2) dF) (W (((v1.set (tN v2) 1).getD (tN (a0.2.getD (tN v2) dF).2.2.1) dF)+1)))).getD (tN (a0.2.getD (tN v2) dF).2.2.2.1) dF)+1))))])=flat c3 (((v1.set (tN v2) 1).set (tN v2) (bT ((v1.set (tN v2) 1).getD (tN v2) dF) (W (((v1.set (tN v2) 1).getD (tN (a0.2.getD (tN v2) dF).2.2.1) dF)+1)))).set (tN v2) (bT (((v1.set (tN v2) 1).set (tN v2) (bT ((v1.set (tN v2) 1).getD (tN v2) dF) (W (((v1.set (tN v2) 1).getD (tN (a0.2.getD (tN v2) dF).2.2.1) dF)+1)))).getD (tN v2) dF) (W ((((v1.set (tN v2) 1).set (tN v2) (bT ((v1.set (tN v2) 1).getD (tN v2) dF) (W (((v1.set (tN v2) 1).getD (tN (a0.2.getD (tN v2) dF).2.2.1) dF)+1)))).getD (tN (a0.2.getD (tN v2) dF).2.2.2.1) dF)+1)))):=(by rw [show(splice (splice (flat c3 v1) (0+tN v2*1) [(iv 1)]) (0+tN v2*1) [(iv (bT ((v1.set (tN v2) 1).getD (tN v2) dF) (W (((v1.set (tN v2) 1).getD (tN (a0.2.getD (tN v2) dF).2.2.1) dF)+1))))])=flat c3 ((v1.set (tN v2) 1).set (tN v2) (bT ((v1.set (tN v2) 1).getD (tN v2) dF) (W (((v1.set (tN v2) 1).getD (tN (a0.2.getD (tN v2) dF).2.2.1) dF)+1)))) from(by rw [show(splice (flat c3 v1) (0+tN v2*1) [(iv 1)])=flat c3 (v1.set (tN v2) 1) from(bE aF oL (o:=0) (d:=dF) (Nb rfl) rfl)];exact bE aF oL (o:=0) (d:=dF) (Nb rfl) rfl)];exact bE aF oL (o:=0) (d:=dF) (Nb rfl) rfl);have z1:v1.length=(((v1.set (tN v2) 1).set (tN v2) (bT ((v1.set (tN v2) 1).getD (tN v2) dF) (W (((v1.set (tN v2) 1).getD (tN (a0.2.getD (tN v2) dF).2.2.1) dF)+1)))).set (tN v2) (bT (((v1.set (tN v2) 1).set (tN v2) (bT ((v1.set (tN v2) 1).getD (tN v2) dF) (W (((v1.set (tN v2) 1).getD (tN (a0.2.getD (tN v2) dF).2.2.1) dF)+1)))).getD (tN v2) dF) (W ((((v1.set (tN v2) 1).set (tN v2) (bT ((v1.set (tN v2) 1).getD (tN v2) dF) (W (((v1.set (tN v2) 1).getD (tN (a0.2.getD (tN v2) dF).2.2.1) dF)+1)))).getD (tN (a0.2.getD (tN v2) dF).2.2.2.1) dF)+1)))).length:=by simp
      rw [z0,z1];exact ih _ _ oR oM
     refine bA n (t4++[.d h4,.u 0,.F]) [1,3,4] [2,3] hcx sQ (oU a0 (splice (splice (flat c3 v1) (0+tN v2*1) [(iv 1)]) (0+tN v2*1) [(iv (bT ((v1.set (tN v2) 1).getD (tN v2) dF) (W (((v1.set (tN v2) 1).getD (tN (a0.2.getD (tN v2) dF).2.2.1) dF)+1))))]) (v1.length) (W (v2 - 1))) ?_;have z0:(splice (splice (flat c3 v1) (0+tN v2*1) [(iv 1)]) (0+tN v2*1) [(iv (bT ((v1.set (tN v2) 1).getD (tN v2) dF) (W (((v1.set (tN v2) 1).getD (tN (a0.2.getD (tN v2) dF).2.2.1) dF)+1))))])=flat c3 ((v1.set (tN v2) 1).set (tN v2) (bT ((v1.set (tN v2) 1).getD (tN v2) dF) (W (((v1.set (tN v2) 1).getD (tN (a0.2.getD (tN v2) dF).2.2.1) dF)+1)))):=(by rw [show(splice (flat c3 v1) (0+tN v2*1) [(iv 1)])=flat c3 (v1.set (tN v2) 1) from(bE aF oL (o:=0) (d:=dF) (Nb rfl) rfl)];exact bE aF oL (o:=0) (d:=dF) (Nb rfl) rfl);have z1:v1.length=((v1.set (tN v2) 1).set (tN v2) (bT ((v1.set (tN v2) 1).getD (tN v2) dF) (W (((v1.set (tN v2) 1).getD (tN (a0.2.getD (tN v2) dF).2.2.1) dF)+1)))).length:=by simp
     rw [z0,z1];exact ih _ _ oR oM
    refine bA n (t3++[.d h3,.u 0,.F]) [1,3,4] [2,3] hcx sQ (oU a0 (splice (splice (flat c3 v1) (0+tN v2*1) [(iv 1)]) (0+tN v2*1) [(iv (bT ((v1.set (tN v2) 1).getD (tN v2) dF) (W (((v1.set (tN v2) 1).getD (tN (a0.2.getD (tN v2) dF).2.2.1) dF)+1))))]) (v1.length) (W (v2 - 1))) ?_;have z0:(splice (splice (flat c3 v1) (0+tN v2*1) [(iv 1)]) (0+tN v2*1) [(iv (bT ((v1.set (tN v2) 1).getD (tN v2) dF) (W (((v1.set (tN v2) 1).getD (tN (a0.2.getD (tN v2) dF).2.2.1) dF)+1))))])=flat c3 ((v1.set (tN v2) 1).set (tN v2) (bT ((v1.set (tN v2) 1).getD (tN v2) dF) (W (((v1.set (tN v2) 1).getD (tN (a0.2.getD (tN v2) dF).2.2.1) dF)+1)))):=(by rw [show(splice (flat c3 v1) (0+tN v2*1) [(iv 1)])=flat c3 (v1.set (tN v2) 1) from(bE aF oL (o:=0) (d:=dF) (Nb rfl) rfl)];exact bE aF oL (o:=0) (d:=dF) (Nb rfl) rfl);have z1:v1.length=((v1.set (tN v2) 1).set (tN v2) (bT ((v1.set (tN v2) 1).getD (tN v2) dF) (W (((v1.set (tN v2) 1).getD (tN (a0.2.getD (tN v2) dF).2.2.1) dF)+1)))).length:=by simp
    rw [z0,z1];exact ih _ _ oR oM
   let t3:SL:=t2++[.d h2,.u 0,.T,.i 1 2];cases h3:(decide (((a0.2.getD (tN v2) dF).2.2.2.1:Int) > v2))
   case true=>
    have q3:=eS h3;let t4:SL:=t3++[.d h3];cases h4:(decide (((a0.2.getD (tN v2) dF).2.2.2.1:Int) < (v1.length:Int)))
    case true=>
     have q4:=eS h4;refine bA n (t4++[.d h4,.i v2 (v1.length),.R aF (v1.set (tN v2) 1) v2 0 1 (show(splice (flat c3 v1) (0+tN v2*1) [(iv 1)])=flat c3 (v1.set (tN v2) 1) from(bE aF oL (o:=0) (d:=dF) (Nb rfl) rfl)),.i ((a0.2.getD (tN v2) dF).2.2.2.1) (v1.length),.R aF (v1.set (tN v2) 1) (a0.2.getD (tN v2) dF).2.2.2.1 0 1 (show(splice (flat c3 v1) (0+tN v2*1) [(iv 1)])=flat c3 (v1.set (tN v2) 1) from(bE aF oL (o:=0) (d:=dF) (Nb rfl) rfl)),.i v2 (v1.length),.p (show((0+tN v2*1)+1<=(splice (flat c3 v1) (0+tN v2*1) [(iv 1)]).length) from(by rw [show(splice (flat c3 v1) (0+tN v2*1) [(iv 1)])=flat c3 (v1.set (tN v2) 1) from(bE aF oL (o:=0) (d:=dF) (Nb rfl) rfl)];exact dR aF oL (o:=0) (Nb rfl))),.u 0,.F]) [1,3,4] [2,3] hcx sQ (oU a0 (splice (splice (flat c3 v1) (0+tN v2*1) [(iv 1)]) (0+tN v2*1) [(iv (bT ((v1.set (tN v2) 1).getD (tN v2) dF) (W (((v1.set (tN v2) 1).getD (tN (a0.2.getD (tN v2) dF).2.2.2.1) dF)+1))))]) (v1.length) (W (v2 - 1))) ?_;have z0:(splice (splice (flat c3 v1) (0+tN v2*1) [(iv 1)]) (0+tN v2*1) [(iv (bT ((v1.set (tN v2) 1).getD (tN v2) dF) (W (((v1.set (tN v2) 1).getD (tN (a0.2.getD (tN v2) dF).2.2.2.1) dF)+1))))])=flat c3 ((v1.set (tN v2) 1).set (tN v2) (bT ((v1.set (tN v2) 1).getD (tN v2) dF) (W (((v1.set (tN v2) 1).getD (tN (a0.2.getD (tN v2) dF).2.2.2.1) dF)+1)))):=(by rw [show(splice (flat c3 v1) (0+tN v2*1) [(iv 1)])=flat c3 (v1.set (tN v2) 1) from(bE aF oL (o:=0) (d:=dF) (Nb rfl) rfl)];exact bE aF oL (o:=0) (d:=dF) (Nb rfl) rfl);have z1:v1.length=((v1.set (tN v2) 1).set (tN v2) (bT ((v1.set (tN v2) 1).getD (tN v2) dF) (W (((v1.set (tN v2) 1).getD (tN (a0.2.getD (tN v2) dF).2.2.2.1) dF)+1)))).length:=by simp
     rw [z0,z1];exact ih _ _ oR oM
    refine bA n (t4++[.d h4,.u 0,.F]) [1,3,4] [2,3] hcx sQ (oU a0 (splice (flat c3 v1) (0+tN v2*1) [(iv 1)]) (v1.length) (W (v2 - 1))) ?_;have z0:(splice (flat c3 v1) (0+tN v2*1) [(iv 1)])=flat c3 (v1.set (tN v2) 1):=(bE aF oL (o:=0) (d:=dF) (Nb rfl) rfl);have z1:v1.length=(v1.set (tN v2) 1).length:=by simp
    rw [z0,z1];exact ih _ _ oR oM
   refine bA n (t3++[.d h3,.u 0,.F]) [1,3,4] [2,3] hcx sQ (oU a0 (splice (flat c3 v1) (0+tN v2*1) [(iv 1)]) (v1.length) (W (v2 - 1))) ?_;have z0:(splice (flat c3 v1) (0+tN v2*1) [(iv 1)])=flat c3 (v1.set (tN v2) 1):=(bE aF oL (o:=0) (d:=dF) (Nb rfl) rfl);have z1:v1.length=(v1.set (tN v2) 1).length:=by simp
   rw [z0,z1];exact ih _ _ oR oM
  let t2:SL:=t1++[.d h1,.u 0,.T,.i 1 2];cases h2:(decide (((a0.2.getD (tN v2) dF).2.2.2.1:Int) > v2))
  case true=>
   have q2:=eS h2;let t3:SL:=t2++[.d h2];cases h3:(decide (((a0.2.getD (tN v2) dF).2.2.2.1:Int) < (v1.length:Int)))
   case true=>
    have q3:=eS h3;refine bA n (t3++[.d h3,.i v2 (v1.length),.R aF (v1.set (tN v2) 1) v2 0 1 (show(splice (flat c3 v1) (0+tN v2*1) [(iv 1)])=flat c3 (v1.set (tN v2) 1) from(bE aF oL (o:=0) (d:=dF) (Nb rfl) rfl)),.i ((a0.2.getD (tN v2) dF).2.2.2.1) (v1.length),.R aF (v1.set (tN v2) 1) (a0.2.getD (tN v2) dF).2.2.2.1 0 1 (show(splice (flat c3 v1) (0+tN v2*1) [(iv 1)])=flat c3 (v1.set (tN v2) 1) from(bE aF oL (o:=0) (d:=dF) (Nb rfl) rfl)),.i v2 (v1.length),.p (show((0+tN v2*1)+1<=(splice (flat c3 v1) (0+tN v2*1) [(iv 1)]).length) from(by rw [show(splice (flat c3 v1) (0+tN v2*1) [(iv 1)])=flat c3 (v1.set (tN v2) 1) from(bE aF oL (o:=0) (d:=dF) (Nb rfl) rfl)];exact dR aF oL (o:=0) (Nb rfl))),.u 0,.F]) [1,3,4] [2,3] hcx sQ (oU a0 (splice (splice (flat c3 v1) (0+tN v2*1) [(iv 1)]) (0+tN v2*1) [(iv (bT ((v1.set (tN v2) 1).getD (tN v2) dF) (W (((v1.set (tN v2) 1).getD (tN (a0.2.getD (tN v2) dF).2.2.2.1) dF)+1))))]) (v1.length) (W (v2 - 1))) ?_;have z0:(splice (splice (flat c3 v1) (0+tN v2*1) [(iv 1)]) (0+tN v2*1) [(iv (bT ((v1.set (tN v2) 1).getD (tN v2) dF) (W (((v1.set (tN v2) 1).getD (tN (a0.2.getD (tN v2) dF).2.2.2.1) dF)+1))))])=flat c3 ((v1.set (tN v2) 1).set (tN v2) (bT ((v1.set (tN v2) 1).getD (tN v2) dF) (W (((v1.set (tN v2) 1).getD (tN (a0.2.getD (tN v2) dF).2.2.2.1) dF)+1)))):=(by rw [show(splice (flat c3 v1) (0+tN v2*1) [(iv 1)])=flat c3 (v1.set (tN v2) 1) from(bE aF oL (o:=0) (d:=dF) (Nb rfl) rfl)];exact bE aF oL (o:=0) (d:=dF) (Nb rfl) rfl);have z1:v1.length=((v1.set (tN v2) 1).set (tN v2) (bT ((v1.set (tN v2) 1).getD (tN v2) dF) (W (((v1.set (tN v2) 1).getD (tN (a0.2.getD (tN v2) dF).2.2.2.1) dF)+1)))).length:=by simp
    rw [z0,z1];exact ih _ _ oR oM
   refine bA n (t3++[.d h3,.u 0,.F]) [1,3,4] [2,3] hcx sQ (oU a0 (splice (flat c3 v1) (0+tN v2*1) [(iv 1)]) (v1.length) (W (v2 - 1))) ?_;have z0:(splice (flat c3 v1) (0+tN v2*1) [(iv 1)])=flat c3 (v1.set (tN v2) 1):=(bE aF oL (o:=0) (d:=dF) (Nb rfl) rfl);have z1:v1.length=(v1.set (tN v2) 1).length:=by simp
   rw [z0,z1];exact ih _ _ oR oM
  refine bA n (t2++[.d h2,.u 0,.F]) [1,3,4] [2,3] hcx sQ (oU a0 (splice (flat c3 v1) (0+tN v2*1) [(iv 1)]) (v1.length) (W (v2 - 1))) ?_;have z0:(splice (flat c3 v1) (0+tN v2*1) [(iv 1)])=flat c3 (v1.set (tN v2) 1):=(bE aF oL (o:=0) (d:=dF) (Nb rfl) rfl);have z1:v1.length=(v1.set (tN v2) 1).length:=by simp
  rw [z0,z1];exact ih _ _ oR oM
 let t1:SL:=[.d h0];cases h1:(((v1.length:Int):Int) == 0)
 case true=>exact rT (t1++[.d h1]) hcx
 have q1:=ne_of_beq_false h1;exact rT (t1++[.d h1,.i 0 (v1.length),.L aF v1 0 0 1]) hcx
def F18 (a0:ZL×cV):Int := (aG (aTl a0) (tN ((W ((a0.2.length:Int) - 1))+1)+1) ((List.replicate (tN (a0.2.length:Int)) 0),(W ((a0.2.length:Int) - 1))))
theorem C18 (a0:ZL×cV)(l0_1:a0.1.length<=2^63-1)(l0_2:a0.2.length<=2^63-1)(hl:a0.2.length<=1048576):Con Tryz.prog 18 [(.a [(.s 0 0 a0.1.length 1),(.s 1 0 a0.2.length 8)])] [(.live false true (flat c3 a0.1)),(.live false true (flat cR a0.2))] (iv (F18 a0)) []:=by
 refine cS Tryz.func18 fun cx hcx=>?_
 have hw_i:=aH (n:=(a0.2.length:Int) - 1) oM oM;refine eN [.Z c3 0 [(iv 0)] (a0.2.length:Int) 8] [1,3,4] [2,3] hcx sQ (oU a0 (flat c3 (List.replicate (tN (a0.2.length:Int)) 0)) (tN (a0.2.length:Int)) (W ((a0.2.length:Int) - 1))) (tN ((W ((a0.2.length:Int) - 1))+1)+1) ?_;have q:=bCs a0 l0_1 l0_2 hl hcx (tN ((W ((a0.2.length:Int) - 1))+1)+1) (List.replicate (tN (a0.2.length:Int)) 0) (W ((a0.2.length:Int) - 1)) oR oM;simp only [List.length_replicate] at q;exact q
def F7:Bool := (bif (((fZ yP 1).2:Int) == 0)then(bif (((((fZ yP 1).1.2.length:Nat):Int):Int) == 7)then(bif (((F18 ((fZ yP 1).1.1,(fZ yP 1).1.2)):Int) == 3)then(bif (((F19 ((fZ yP 1).1.1,(fZ yP 1).1.2)):Int) == 4)then(bif ((((fZ yP 1).1.2.getD (tN 0) dF).2.2.1:Int) == 1)then((((fZ yP 1).1.2.getD (tN 0) dF).2.2.2.1:Int) == 4)else false)else false)else false)else false)else false)
theorem C7:Con Tryz.prog 7 [] [] (.v (.bool F7)) []:=by
 refine cS Tryz.func7 fun cx hcx=>?_
 have hrl:yP.length=4:=by kernel_rfl
 have hbl:(fZ yP 1).1.2.length=7:=by kernel_rfl
 have hbo:(fZ yP 1).1.1.length=4:=by kernel_rfl
 let t0:SL:=[.c [] (C17),.c [0] (bCr yP 1 oM)];rw [F7];cases h0:(((fZ yP 1).2:Int) == 0)
 case true=>
  let t1:SL:=t0++[.d h0];cases h1:(((((fZ yP 1).1.2.length:Nat):Int):Int) == 7)
  case true=>
   let t2:SL:=t1++[.d h1,.c [1,2] (C18 ((fZ yP 1).1.1,(fZ yP 1).1.2) (by(try simp only [Lt]);omega) (by(try simp only [Lt]);omega) (by(try simp only [Lt]);omega))];cases h2:(((F18 ((fZ yP 1).1.1,(fZ yP 1).1.2)):Int) == 3)
   case true=>
    let t3:SL:=t2++[.d h2,.c [1,2] (C19 ((fZ yP 1).1.1,(fZ yP 1).1.2) (by(try simp only [Lt]);omega) (by(try simp only [Lt]);omega) (by(try simp only [Lt]);omega))];cases h3:(((F19 ((fZ yP 1).1.1,(fZ yP 1).1.2)):Int) == 4)
    case true=>
     let t4:SL:=t3++[.d h3,.i 0 ((fZ yP 1).1.2.length),.L cC (fZ yP 1).1.2 0 2 1];cases h4:((((fZ yP 1).1.2.getD (tN 0) dF).2.2.1:Int) == 1)
     case true=>exact rT (t4++[.d h4,.i 0 ((fZ yP 1).1.2.length),.L cC (fZ yP 1).1.2 0 3 1]) hcx
     exact rT (t4++[.d h4]) hcx
    exact rT (t3++[.d h3]) hcx
   exact rT (t2++[.d h2]) hcx
  exact rT (t1++[.d h1]) hcx
 exact rT (t0++[.d h0]) hcx
theorem aZw:F7=true:=by kernel_rfl
theorem aV4 (n lo hi:Int):F41 n lo hi=F46 n lo hi:=by
 unfold F41 F46;by_cases h1:lo<=n<;>by_cases h2:n<=hi<;>simp [h1,h2]
theorem wW (l:List (PN×Int)):iH l=kQ l:=by
 have e:kB l=yB l:=by
  funext v
  simp only [kB,yB,aVp,bBr,aV4]
 unfold iH kQ;rw [e]
theorem yQ {l:List (PN×Int)} (h:kQ l=0):l.length<=96:=uN (by rw [wW];exact h)
def fP (a0:Zt)(a1:Int):Int := (bif ((a1:Int) == 0)then a0.1 else(bif ((a1:Int) == 1)then a0.2.1 else a0.2.2))
theorem aHw (a0:Zt)(a1:Int):Con Tryz.prog 137 [(.a (k3 a0)),(iv a1)] [] (iv (fP a0 a1)) []:=by
 refine cS Tryz.func137 fun cx hcx=>?_
 rw [fP];cases h0:((a1:Int) == 0)
 case true=>exact rT [.d h0] hcx
 let t1:SL:=[.d h0];cases h1:((a1:Int) == 1)
 case true=>exact rT (t1++[.d h1]) hcx
 exact rT (t1++[.d h1]) hcx
def iL (a0:(Zt×Zt×Zt)×Int)(a1:Int):Int := (W ((W ((fP a0.1.1 a1)+(fP a0.1.2.1 a1)))+(fP a0.1.2.2 a1)))
theorem aKt (a0:(Zt×Zt×Zt)×Int)(a1:Int):Con Tryz.prog 139 [(.a (kS0 a0)),(iv a1)] [] (iv (iL a0 a1)) []:=by
 refine cS Tryz.func139 fun cx hcx=>?_
 exact rT [.c [] (aHw a0.1.1 a1),.c [] (aHw a0.1.2.1 a1),.c [] (aHw a0.1.2.2 a1)] hcx
def aKu (a0 a1:Int):Int := (fD (W (a0+a1)) (2 ^ (min (tN 1) 64)))
theorem bE6 (a0 a1:Int):Con Tryz.prog 138 [(iv a0),(iv a1)] [] (iv (aKu a0 a1)) []:=by
 refine cS Tryz.func138 fun cx hcx=>?_
 exact rT [.p (show 0<=(1:Int) from by decide)] hcx
noncomputable def uP:=aU [1,1,0,1] [] (aV Tryz.f84) []
def wX (a0:bV)(a1:ZL)(a2:Int)(v1 v2 v3:Int):LS:=⟨gU 56 [(0,(.s 0 0 a0.length 10)),(1,(.s 1 0 a1.length 1)),(2,(iv a2)),(7,(iv v1)),(8,(iv v2)),(9,(iv v3))],[(.live false true (flat dI a0)),(.live false true (flat c3 a1))]⟩
def dS (a0:bV)(a1:ZL)(a2:Int):Zt->Zt⊕(Int) | (v1,v2,v3) => (bif (decide ((v3:Int) < (a1.length:Int)))then(.inl ((hP (hP (hP v1 (fP (a0.getD (tN (a1.getD (tN v3) dF)) dF).1.1 a2)) (fP (a0.getD (tN (a1.getD (tN v3) dF)) dF).1.2.1 a2)) (fP (a0.getD (tN (a1.getD (tN v3) dF)) dF).1.2.2 a2)),(bT (bT (bT v2 (fP (a0.getD (tN (a1.getD (tN v3) dF)) dF).1.1 a2)) (fP (a0.getD (tN (a1.getD (tN v3) dF)) dF).1.2.1 a2)) (fP (a0.getD (tN (a1.getD (tN v3) dF)) dF).1.2.2 a2)),(v3+1)))else(.inr (aKu v1 v2)))
theorem aQa (a0:bV)(a1:ZL)(a2:Int)(l0:a0.length<=2^63-1)(l1:a1.length<=2^63-1)(hir:InR a0.length a1)(hl:a1.length<=1048576) {cx:Cx} (hcx:cx.base=2):∀(n:Nat) (v1 v2 v3:Int),(0<=v3)/\(v3<=a1.length)->tN ((a1.length:Int) - v3) < n->gG Tryz.f84 cx (iv (aG (dS a0 a1 a2) n (v1,v2,v3))) [] [] (.l uP.1 n::uP.2) (wX a0 a1 a2 v1 v2 v3):=by
 intro n
 induction n with|zero=>intro v1 v2 v3 hi hn;exact absurd hn (dX _)|succ n ih=>?_
 intro v1 v2 v3 hi hn;refine aN ?_;rw [aZ,dS];cases h0:(decide ((v3:Int) < (a1.length:Int)))
 case true=>
  have q0:=eS h0
  try have hr1:=hir.at (i:=tN v3) (by have _:=h0;omega)
  refine bA n [.d h0,.i v3 (a1.length),.L aF a1 v3 0 1,.i (a1.getD (tN v3) dF) (a0.length),.L cQ a0 (a1.getD (tN v3) dF) 0 9,.c [] (aHw (a0.getD (tN (a1.getD (tN v3) dF)) dF).1.1 a2),.c [] (aHw (a0.getD (tN (a1.getD (tN v3) dF)) dF).1.2.1 a2),.c [] (aHw (a0.getD (tN (a1.getD (tN v3) dF)) dF).1.2.2 a2),.c [] (aHw (a0.getD (tN (a1.getD (tN v3) dF)) dF).1.1 a2),.c [] (aHw (a0.getD (tN (a1.getD (tN v3) dF)) dF).1.2.1 a2),.c [] (aHw (a0.getD (tN (a1.getD (tN v3) dF)) dF).1.2.2 a2)] [0,1,2,7,8,9] [] hcx uP (wX a0 a1 a2 (hP (hP (hP v1 (fP (a0.getD (tN (a1.getD (tN v3) dF)) dF).1.1 a2)) (fP (a0.getD (tN (a1.getD (tN v3) dF)) dF).1.2.1 a2)) (fP (a0.getD (tN (a1.getD (tN v3) dF)) dF).1.2.2 a2)) (bT (bT (bT v2 (fP (a0.getD (tN (a1.getD (tN v3) dF)) dF).1.1 a2)) (fP (a0.getD (tN (a1.getD (tN v3) dF)) dF).1.2.1 a2)) (fP (a0.getD (tN (a1.getD (tN v3) dF)) dF).1.2.2 a2)) (W (v3+1))) ?_;have z0:(W (v3+1))=(v3+1):=aH oM oM;rw [z0];exact ih _ _ _ oR oM
 exact rT [.d h0,.c [] (bE6 v1 v2)] hcx
def aR (a0:bV)(a1:ZL)(a2:Int):Int := (aG (dS a0 a1 a2) (tN ((a1.length:Int) - 0)+1) (64,(-64),0))
theorem nM (a0:bV)(a1:ZL)(a2:Int)(l0:a0.length<=2^63-1)(l1:a1.length<=2^63-1)(hir:InR a0.length a1)(hl:a1.length<=1048576):Con Tryz.prog 84 [(.s 0 0 a0.length 10),(.s 1 0 a1.length 1),(iv a2)] [(.live false true (flat dI a0)),(.live false true (flat c3 a1))] (iv (aR a0 a1 a2)) []:=by
 refine cS Tryz.func84 fun cx hcx=>?_
 refine eN [] [0,1,2,7,8,9] [] hcx uP (wX a0 a1 a2 64 (-64) 0) (tN ((a1.length:Int) - 0)+1) ?_;exact aQa a0 a1 a2 l0 l1 hir hl hcx (tN ((a1.length:Int) - 0)+1) 64 (-64) 0 oR oM
noncomputable def qX:=aU [1,1,0,1] [] (aV Tryz.f32) []
def wY (a0:bV)(a1:ZL)(v2c:List SV)(v2n:Nat)(v3:Int):LS:=⟨gU 24 [(0,(.s 0 0 a0.length 10)),(1,(.s 1 0 a1.length 1)),(5,(.s 2 0 v2n 10)),(6,(iv v3))],[(.live false true (flat dI a0)),(.live false true (flat c3 a1)),(.live true true v2c)]⟩
def uQ (a0:bV)(a1:ZL):bV×Int->(bV×Int)⊕bV | (v2,v3) => (bif (decide ((v3:Int) < (a1.length:Int)))then(.inl ((v2++[(a0.getD (tN (a1.getD (tN v3) dF)) dF)]),(v3+1)))else(.inr v2))
theorem aQb (a0:bV)(a1:ZL)(l0:a0.length<=2^63-1)(l1:a1.length<=2^63-1)(hir:InR a0.length a1)(hl:a1.length<=1048576) {cx:Cx} (hcx:cx.base=2):∀(n:Nat) (v2:bV) (v3:Int),(0<=v3)/\(v2.length=tN v3)/\(v3<=a1.length)->tN ((a1.length:Int) - v3) < n->gG Tryz.f32 cx (.s 2 0 (aG (uQ a0 a1) n (v2,v3)).length 10) [(.live true true (flat dI (aG (uQ a0 a1) n (v2,v3))))] [] (.l qX.1 n::qX.2) (wY a0 a1 (flat dI v2) v2.length v3):=by
 intro n
 induction n with|zero=>intro v2 v3 hi hn;exact absurd hn (dX _)|succ n ih=>?_
 intro v2 v3 hi hn;refine aN ?_;rw [aZ,uQ];cases h0:(decide ((v3:Int) < (a1.length:Int)))
 case true=>
  have q0:=eS h0
  try have hr1:=hir.at (i:=tN v3) (by have _:=h0;omega)
  refine bA n [.d h0,.i v3 (a1.length),.L aF a1 v3 0 1,.i (a1.getD (tN v3) dF) (a0.length),.L cQ a0 (a1.getD (tN v3) dF) 0 10,.p (show((flat dI v2).length=v2.length*10/\v2.length+1<=2 ^ 40/\(v2.length+1)*80<=2 ^ 47) from iS cQ oM oM)] [0,1,5,6] [4] hcx qX (wY a0 a1 (flat dI v2++(kS0 (a0.getD (tN (a1.getD (tN v3) dF)) dF))) (v2.length+1) (W (v3+1))) ?_;have z0:(W (v3+1))=(v3+1):=aH oM oM;have z1:(flat dI v2++(kS0 (a0.getD (tN (a1.getD (tN v3) dF)) dF)))=_:=(bQ (c:=dI) (l:=v2) (m:=[(a0.getD (tN (a1.getD (tN v3) dF)) dF)])).symm;have z2:(v2.length+1)=_:=jN v2 [(a0.getD (tN (a1.getD (tN v3) dF)) dF)] rfl;rw [z0,z1,z2];exact ih _ _ oR oM
 exact rt [.d h0] [] [2] hcx oK
def cU (a0:bV)(a1:ZL):bV := (aG (uQ a0 a1) (tN ((a1.length:Int) - 0)+1) (([]:bV),0))
theorem aBv (a0:bV)(a1:ZL)(l0:a0.length<=2^63-1)(l1:a1.length<=2^63-1)(hir:InR a0.length a1)(hl:a1.length<=1048576):Con Tryz.prog 32 [(.s 0 0 a0.length 10),(.s 1 0 a1.length 1)] [(.live false true (flat dI a0)),(.live false true (flat c3 a1))] (.s 2 0 (cU a0 a1).length 10) [(.live true true (flat dI (cU a0 a1)))]:=by
 refine cS Tryz.func32 fun cx hcx=>?_
 refine en [] [.slot 5 10] [0,1,5,6] [2] hcx qX.1 qX.2 (wY a0 a1 (flat dI ([]:bV)) 0 0) (tN ((a1.length:Int) - 0)+1) oK ?_;exact aQb a0 a1 l0 l1 hir hl hcx (tN ((a1.length:Int) - 0)+1) ([]:bV) 0 oR oM
noncomputable def aAh:Code:=(aU [1,1,0,1,0,1,0,1,0,1] [0] (aV Tryz.f87) []).1
noncomputable def aAi (m0:Nat):List K:=(aU [1,1,0,1,0,1,0,1,0,1] [m0] (aV Tryz.f87) []).2
def wZ (a0:bV)(a1:ZL)(v14 v15 v16 v17 v18 v19:Int):LS:=⟨gU 69 [(0,(.s 0 0 a0.length 10)),(1,(.s 1 0 a1.length 1)),(5,(iv v14)),(6,(iv v15)),(7,(iv v16)),(8,(iv v17)),(9,(iv v18)),(10,(iv v19))],[(.live false true (flat dI a0)),(.live false true (flat c3 a1))]⟩
def fO (a0:bV)(a1:ZL):Int×Int×Int×Zt->(Int×Int×Int×Zt)⊕(Zt⊕(Int)) | (v14,v15,v16,v17,v18,v19) => (bif (decide ((v19:Int) < (a1.length:Int)))then(.inl (v14,v15,v16,(hP v17 (iL (a0.getD (tN (a1.getD (tN v19) dF)) dF) v16)),(bT v18 (iL (a0.getD (tN (a1.getD (tN v19) dF)) dF) v16)),(v19+1)))else(bif (decide (((W (v18 - v17)):Int) > v15))then(.inr (.inl (v16,(W (v18 - v17)),(v16+1))))else(.inr (.inl (v14,v15,(v16+1))))))
noncomputable def lS:=aU [1,1,0,1] [] (aV Tryz.f87) []
def oW (a0:bV)(a1:ZL)(v11 v12 v13:Int):LS:=⟨gU 69 [(0,(.s 0 0 a0.length 10)),(1,(.s 1 0 a1.length 1)),(5,(iv v11)),(6,(iv v12)),(7,(iv v13))],[(.live false true (flat dI a0)),(.live false true (flat c3 a1))]⟩
def hF (a0:bV)(a1:ZL):Zt->Zt⊕(Int) | (v11,v12,v13) => (bif (decide ((v13:Int) < 3))then(aG (fO a0 a1) (tN ((a1.length:Int) - 1)+1) (v11,v12,v13,(iL (a0.getD (tN (a1.getD (tN 0) dF)) dF) v13),(iL (a0.getD (tN (a1.getD (tN 0) dF)) dF) v13),1))else(.inr v11))
theorem aQc (a0:bV)(a1:ZL)(l0:a0.length<=2^63-1)(l1:a1.length<=2^63-1)(hir:InR a0.length a1)(hl:1<=a1.length/\a1.length<=1048576) {cx:Cx} (hcx:cx.base=2)
 (n0:Nat) (g0:∀(v11 v12 v13:Int),(0<=v13)/\(v13<=3)->tN (3 - v13) < n0->gG Tryz.f87 cx (iv (aG (hF a0 a1) n0 (v11,v12,v13))) [] [] (.l lS.1 n0::lS.2) (oW a0 a1 v11 v12 v13)):∀(n:Nat) (v14 v15 v16 v17 v18 v19:Int),(0<=v19)/\(1<=v19)/\(v19<=a1.length)/\((0<=v16))/\((v16<=3))/\(v16 < 3)/\(tN (3 - v16) < n0+1)->tN ((a1.length:Int) - v19) < n->gG Tryz.f87 cx (iv (bN (hF a0 a1) n0 (aG (fO a0 a1) n (v14,v15,v16,v17,v18,v19)))) [] [] (.l aAh n::aAi n0) (wZ a0 a1 v14 v15 v16 v17 v18 v19):=by
 intro n
 induction n with|zero=>intro v14 v15 v16 v17 v18 v19 hi hn;exact absurd hn (dX _)|succ n ih=>?_
 intro v14 v15 v16 v17 v18 v19 hi hn;refine aN ?_;have hr0:=hir.at (i:=tN 0) (by have:=hl.1;simp;omega);rw [aZ,fO];cases h0:(decide ((v19:Int) < (a1.length:Int)))
 case true=>
  have q0:=eS h0
  try have hr1:=hir.at (i:=tN v19) (by have _:=h0;omega)
  refine ba [.d h0,.i v19 (a1.length),.L aF a1 v19 0 1,.i (a1.getD (tN v19) dF) (a0.length),.L cQ a0 (a1.getD (tN v19) dF) 0 10,.c [] (aKt (a0.getD (tN (a1.getD (tN v19) dF)) dF) v16),.i v19 (a1.length),.L aF a1 v19 0 1,.i (a1.getD (tN v19) dF) (a0.length),.L cQ a0 (a1.getD (tN v19) dF) 0 10,.c [] (aKt (a0.getD (tN (a1.getD (tN v19) dF)) dF) v16)] [] [0,1,5,6,7,8,9,10] [] hcx (m:=n) aAh (aAi n0) (wZ a0 a1 v14 v15 v16 (hP v17 (iL (a0.getD (tN (a1.getD (tN v19) dF)) dF) v16)) (bT v18 (iL (a0.getD (tN (a1.getD (tN v19) dF)) dF) v16)) (W (v19+1))) oK ?_;have z0:(W (v19+1))=(v19+1):=aH oM oM;rw [z0];exact ih _ _ _ _ _ _ (by refine⟨?_,?_,?_,?_,?_,?_,?_⟩<;>(try simp only [Ls])<;>first | omega | assumption | exact hi.2.1 | exact hi.2.2.1 | exact hi.2.2.2.1 | exact hi.2.2.2.2.1 | exact hi.2.2.2.2.2.1 | exact hi.2.2.2.2.2.2.1 | simp) oM
 have q0:=iF h0;let t1:SL:=[.d h0];cases h1:(decide (((W (v18 - v17)):Int) > v15))
 case true=>refine bA n0 (t1++[.d h1]) [0,1,5,6,7] [] hcx lS (oW a0 a1 v16 (W (v18 - v17)) (W (v16+1))) ?_;have z0:(W (v16+1))=(v16+1):=aH oM oM;rw [z0];exact g0 v16 (W (v18 - v17)) (v16+1) oR oM
 refine bA n0 (t1++[.d h1]) [0,1,5,6,7] [] hcx lS (oW a0 a1 v14 v15 (W (v16+1))) ?_;have z0:(W (v16+1))=(v16+1):=aH oM oM;rw [z0];exact g0 v14 v15 (v16+1) oR oM
theorem aQd (a0:bV)(a1:ZL)(l0:a0.length<=2^63-1)(l1:a1.length<=2^63-1)(hir:InR a0.length a1)(hl:1<=a1.length/\a1.length<=1048576) {cx:Cx} (hcx:cx.base=2):∀(n:Nat) (v11 v12 v13:Int),(0<=v13)/\(v13<=3)->tN (3 - v13) < n->gG Tryz.f87 cx (iv (aG (hF a0 a1) n (v11,v12,v13))) [] [] (.l lS.1 n::lS.2) (oW a0 a1 v11 v12 v13):=by
 intro n
 induction n with|zero=>intro v11 v12 v13 hi hn;exact absurd hn (dX _)|succ n ih=>?_
 intro v11 v12 v13 hi hn;refine aN ?_;have hr0:=hir.at (i:=tN 0) (by have:=hl.1;simp;omega);rw [aZ,hF];cases h0:(decide ((v13:Int) < 3))
 case true=>have q0:=eS h0;refine en [.d h0,.i 0 (a1.length),.L aF a1 0 0 1,.i (a1.getD (tN 0) dF) (a0.length),.L cQ a0 (a1.getD (tN 0) dF) 0 10,.c [] (aKt (a0.getD (tN (a1.getD (tN 0) dF)) dF) v13),.i 0 (a1.length),.L aF a1 0 0 1,.i (a1.getD (tN 0) dF) (a0.length),.L cQ a0 (a1.getD (tN 0) dF) 0 10,.c [] (aKt (a0.getD (tN (a1.getD (tN 0) dF)) dF) v13)] [] [0,1,5,6,7,8,9,10] [] hcx aAh (aAi n) (wZ a0 a1 v11 v12 v13 (iL (a0.getD (tN (a1.getD (tN 0) dF)) dF) v13) (iL (a0.getD (tN (a1.getD (tN 0) dF)) dF) v13) 1) (tN ((a1.length:Int) - 1)+1) oK ?_;exact aQc a0 a1 l0 l1 hir hl hcx n ih (tN ((a1.length:Int) - 1)+1) v11 v12 v13 (iL (a0.getD (tN (a1.getD (tN 0) dF)) dF) v13) (iL (a0.getD (tN (a1.getD (tN 0) dF)) dF) v13) 1 (by refine⟨?_,?_,?_,?_,?_,?_,?_⟩<;>(try simp only [Ls])<;>first | omega | assumption | exact hi.2.1 | exact hi.2.2.1 | exact hi.2.2.2.1 | exact hi.2.2.2.2.1 | exact hi.2.2.2.2.2.1 | exact hi.2.2.2.2.2.2.1 | simp) oM
 exact rT [.d h0] hcx
def aI (a0:bV)(a1:ZL):Int := (aG (hF a0 a1) (tN (3 - 0)+1) (0,(-1),0))
theorem aHx (a0:bV)(a1:ZL)(l0:a0.length<=2^63-1)(l1:a1.length<=2^63-1)(hir:InR a0.length a1)(hl:1<=a1.length/\a1.length<=1048576):Con Tryz.prog 87 [(.s 0 0 a0.length 10),(.s 1 0 a1.length 1)] [(.live false true (flat dI a0)),(.live false true (flat c3 a1))] (iv (aI a0 a1)) []:=by
 refine cS Tryz.func87 fun cx hcx=>?_
 refine eN [] [0,1,5,6,7] [] hcx lS (oW a0 a1 0 (-1) 0) (tN (3 - 0)+1) ?_;exact aQd a0 a1 l0 l1 hir hl hcx (tN (3 - 0)+1) 0 (-1) 0 oR oM
def pK (a0:bV)(a1:Zt):Int := (bif (((kQ a0):Int) != 0)then(kQ a0)else(bif (!(zG a1 64))then 1 else 0))
theorem aXx (a0:bV)(a1:Zt)(l0:a0.length<=2^63-1):Con Tryz.prog 61 [(.s 0 0 a0.length 10),(.a (k3 a1))] [(.live false true (flat dI a0))] (iv (pK a0 a1)) []:=by
 refine cS Tryz.func61 fun cx hcx=>?_
 let t0:SL:=[.c [0] (aRq a0 oM)];rw [pK];cases h0:(((kQ a0):Int) != 0)
 case true=>exact rT (t0++[.d h0]) hcx
 let t1:SL:=t0++[.d h0,.c [] (C59 a1 64)];cases h1:(!(zG a1 64))
 case true=>exact rT (t1++[.d h1]) hcx
 exact rT (t1++[.d h1]) hcx
noncomputable def aBw:=aU [1,1,1,1,0,1] [] (aV Tryz.f85) []
def aD6 (a0:bV)(a1:Zt)(v1 v2:Int):LS:=⟨gU 45 [(0,(.s 0 0 a0.length 10)),(3,(.p 1 0)),(7,(iv v1)),(8,(iv v2))],[(.live false true (flat dI a0)),(.live true false (k3 a1))]⟩
def aBx (a0:bV)(a1:Zt):Zs->Zs⊕Zs | (v1,v2) => (bif (decide ((v2:Int) < (a0.length:Int)))then(.inl ((if((if((if(v1:Int) < (bP (bJ (a0.getD (tN v2) dF).1.1 a1))then(bP (bJ (a0.getD (tN v2) dF).1.1 a1))else v1):Int) < (bP (bJ (a0.getD (tN v2) dF).1.2.1 a1))then(bP (bJ (a0.getD (tN v2) dF).1.2.1 a1))else(if(v1:Int) < (bP (bJ (a0.getD (tN v2) dF).1.1 a1))then(bP (bJ (a0.getD (tN v2) dF).1.1 a1))else v1)):Int) < (bP (bJ (a0.getD (tN v2) dF).1.2.2 a1))then(bP (bJ (a0.getD (tN v2) dF).1.2.2 a1))else(if((if(v1:Int) < (bP (bJ (a0.getD (tN v2) dF).1.1 a1))then(bP (bJ (a0.getD (tN v2) dF).1.1 a1))else v1):Int) < (bP (bJ (a0.getD (tN v2) dF).1.2.1 a1))then(bP (bJ (a0.getD (tN v2) dF).1.2.1 a1))else(if(v1:Int) < (bP (bJ (a0.getD (tN v2) dF).1.1 a1))then(bP (bJ (a0.getD (tN v2) dF).1.1 a1))else v1))),(v2+1)))else(.inr (v1,0)))
theorem aV5 (a0:bV)(a1:Zt)(l0:a0.length<=2^63-1) {cx:Cx} (hcx:cx.base=1):∀(n:Nat) (v1 v2:Int),0<=v2->tN ((a0.length:Int) - v2) < n->gG Tryz.f85 cx (.t (k2 (aG (aBx a0 a1) n (v1,v2)))) [] [] (.l aBw.1 n::aBw.2) (aD6 a0 a1 v1 v2):=by
 intro n
 induction n with|zero=>intro v1 v2 hi hn;exact absurd hn (dX _)|succ n ih=>?_
 intro v1 v2 hi hn;refine aN ?_;rw [aZ,aBx];cases h0:(decide ((v2:Int) < (a0.length:Int)))
 case true=>have q0:=eS h0;refine bA n [.d h0,.i v2 (a0.length),.L cQ a0 v2 0 9,.c [] (C34 (a0.getD (tN v2) dF).1.1 a1),.c [] (aP2 (bJ (a0.getD (tN v2) dF).1.1 a1)),.c [] (C34 (a0.getD (tN v2) dF).1.2.1 a1),.c [] (aP2 (bJ (a0.getD (tN v2) dF).1.2.1 a1)),.c [] (C34 (a0.getD (tN v2) dF).1.2.2 a1),.c [] (aP2 (bJ (a0.getD (tN v2) dF).1.2.2 a1))] [0,3,7,8] [1] hcx aBw (aD6 a0 a1 (if((if((if(v1:Int) < (bP (bJ (a0.getD (tN v2) dF).1.1 a1)) then(bP (bJ (a0.getD (tN v2) dF).1.1 a1)) else v1):Int) < (bP (bJ (a0.getD (tN v2) dF).1.2.1 a1)) then(bP (bJ (a0.getD (tN v2) dF).1.2.1 a1)) else(if(v1:Int) < (bP (bJ (a0.getD (tN v2) dF).1.1 a1)) then(bP (bJ (a0.getD (tN v2) dF).1.1 a1)) else v1)):Int) < (bP (bJ (a0.getD (tN v2) dF).1.2.2 a1)) then(bP (bJ (a0.getD (tN v2) dF).1.2.2 a1)) else(if((if(v1:Int) < (bP (bJ (a0.getD (tN v2) dF).1.1 a1)) then(bP (bJ (a0.getD (tN v2) dF).1.1 a1)) else v1):Int) < (bP (bJ (a0.getD (tN v2) dF).1.2.1 a1)) then(bP (bJ (a0.getD (tN v2) dF).1.2.1 a1)) else(if(v1:Int) < (bP (bJ (a0.getD (tN v2) dF).1.1 a1)) then(bP (bJ (a0.getD (tN v2) dF).1.1 a1)) else v1))) (W (v2+1))) ?_;have z0:(W (v2+1))=(v2+1):=aH oM oM;rw [z0];exact ih _ _ oM oM
 exact rT [.d h0] hcx
def yR (a0:bV)(a1:Zt):Zs := (bif (((pK a0 a1):Int) != 0)then(0,(pK a0 a1))else(aG (aBx a0 a1) (tN ((a0.length:Int) - 0)+1) (0,0)))
theorem aTm (a0:bV)(a1:Zt)(l0:a0.length<=2^63-1):Con Tryz.prog 85 [(.s 0 0 a0.length 10),(.a (k3 a1))] [(.live false true (flat dI a0))] (.t (k2 (yR a0 a1))) []:=by
 refine cS Tryz.func85 fun cx hcx=>?_
 let t0:SL:=[.c [0] (aXx a0 a1 oM)];rw [yR];cases h0:(((pK a0 a1):Int) != 0)
 case true=>exact rT (t0++[.d h0]) hcx
 refine eN (t0++[.d h0]) [0,3,7,8] [1] hcx aBw (aD6 a0 a1 0 0) (tN ((a0.length:Int) - 0)+1) ?_;exact aV5 a0 a1 l0 hcx (tN ((a0.length:Int) - 0)+1) 0 0 oM oM
noncomputable def uR:Code:=(aU [1,1,0,1,0,1,0,1] [0] (aV Tryz.f86) []).1
noncomputable def uS (m0:Nat):List K:=(aU [1,1,0,1,0,1,0,1] [m0] (aV Tryz.f86) []).2
def rP (a0:bV)(a1:ZL)(a2:Int)(v5c:List SV)(v5n:Nat)(v6 v7:Int):LS:=⟨gU 99 [(0,(.s 0 0 a0.length 10)),(2,(iv a2)),(7,(.s 2 0 v5n 1)),(8,(iv v6)),(9,(iv v7))],[(.live false true (flat dI a0)),(.live false true (flat c3 a1)),(.live true true v5c)]⟩
def jQ (a0:bV)(a1:ZL)(a2:Int):ZL×Int×Int->(ZL×Int×Int)⊕((ZL×Int)⊕ZL) | (v5,v6,v7) => (bif (decide ((v7:Int) > 0))then(bif (decide (((iL (a0.getD (tN (v5.getD (tN v7) dF)) dF) a2):Int) < (iL (a0.getD (tN (v5.getD (tN (W (v7 - 1))) dF)) dF) a2)))then(.inl (((v5.set (tN v7) (v5.getD (tN (W (v7 - 1))) dF)).set (tN (W (v7 - 1))) (v5.getD (tN v7) dF)),v6,(W (v7 - 1))))else(bif (((iL (a0.getD (tN (v5.getD (tN v7) dF)) dF) a2):Int) == (iL (a0.getD (tN (v5.getD (tN (W (v7 - 1))) dF)) dF) a2))then(bif (decide (((v5.getD (tN v7) dF):Int) < (v5.getD (tN (W (v7 - 1))) dF)))then(.inl (((v5.set (tN v7) (v5.getD (tN (W (v7 - 1))) dF)).set (tN (W (v7 - 1))) (v5.getD (tN v7) dF)),v6,(W (v7 - 1))))else(.inr (.inl (v5,(v6+1)))))else(.inr (.inl (v5,(v6+1))))))else(.inr (.inl (v5,(v6+1)))))
noncomputable def kI:=aU [1,1,0,1] [] (aV Tryz.f86) []
def lT (a0:bV)(a1:ZL)(a2:Int)(v3c:List SV)(v3n:Nat)(v4:Int):LS:=⟨gU 99 [(0,(.s 0 0 a0.length 10)),(2,(iv a2)),(7,(.s 2 0 v3n 1)),(8,(iv v4))],[(.live false true (flat dI a0)),(.live false true (flat c3 a1)),(.live true true v3c)]⟩
def gE (a0:bV)(a1:ZL)(a2:Int):ZL×Int->(ZL×Int)⊕ZL | (v3,v4) => (bif (decide ((v4:Int) < (v3.length:Int)))then(aG (jQ a0 a1 a2) (tN v4+1) (v3,v4,v4))else(.inr v3))
theorem aQe (a0:bV)(a1:ZL)(a2:Int)(l0:a0.length<=2^63-1)(l1:a1.length<=2^63-1)(hir:InR a0.length a1)(hl:a1.length<=1048576) {cx:Cx} (hcx:cx.base=2)
 (n0:Nat) (g0:∀(v3:ZL) (v4:Int),(0<=v4)/\(v3.length=a1.length)/\(InR a0.length v3)/\(1<=v4)->tN ((v3.length:Int) - v4) < n0->gG Tryz.f86 cx (.s 2 0 (aG (gE a0 a1 a2) n0 (v3,v4)).length 1) [(.live true true (flat c3 (aG (gE a0 a1 a2) n0 (v3,v4))))] [] (.l kI.1 n0::kI.2) (lT a0 a1 a2 (flat c3 v3) v3.length v4)):∀(n:Nat) (v5:ZL) (v6 v7:Int),(v5.length=a1.length)/\(InR a0.length v5)/\(0<=v7)/\(v7<=v6)/\(1<=v6)/\(v6 < a1.length)/\((0<=v6))/\((v5.length=a1.length))/\((InR a0.length v5))/\((1<=v6))/\(v6 < (v5.length:Int))/\(tN ((v5.length:Int) - v6) < n0+1)->tN v7 < n->gG Tryz.f86 cx (.s 2 0 (bN (gE a0 a1 a2) n0 (aG (jQ a0 a1 a2) n (v5,v6,v7))).length 1) [(.live true true (flat c3 (bN (gE a0 a1 a2) n0 (aG (jQ a0 a1 a2) n (v5,v6,v7)))))] [] (.l uR n::uS n0) (rP a0 a1 a2 (flat c3 v5) v5.length v6 v7):=by
 intro n
 induction n with|zero=>intro v5 v6 v7 hi hn;exact absurd hn (dX _)|succ n ih=>?_
 intro v5 v6 v7 hi hn;refine aN ?_;rw [aZ,jQ];cases h0:(decide ((v7:Int) > 0))
 case true=>
  have q0:=eS h0
  try have hw_k:=(fun _=>aH (n:=v7 - 1) oM oM) h0
  try have hr1:=hi.2.1.at (i:=tN v7) (by have _:=h0;omega)
  try have hr2:=hi.2.1.at (i:=tN (W (v7 - 1))) (by have _:=h0;omega)
  let t1:SL:=[.d h0,.i v7 (v5.length),.L aF v5 v7 0 1,.i (v5.getD (tN v7) dF) (a0.length),.L cQ a0 (v5.getD (tN v7) dF) 0 10,.c [] (aKt (a0.getD (tN (v5.getD (tN v7) dF)) dF) a2),.i (W (v7 - 1)) (v5.length),.L aF v5 (W (v7 - 1)) 0 1,.i (v5.getD (tN (W (v7 - 1))) dF) (a0.length),.L cQ a0 (v5.getD (tN (W (v7 - 1))) dF) 0 10,.c [] (aKt (a0.getD (tN (v5.getD (tN (W (v7 - 1))) dF)) dF) a2)];cases h1:(decide (((iL (a0.getD (tN (v5.getD (tN v7) dF)) dF) a2):Int) < (iL (a0.getD (tN (v5.getD (tN (W (v7 - 1))) dF)) dF) a2)))
  case true=>
   try have hr1:=hi.2.1.at (i:=tN v7) (by have _:=h0;omega)
   try have hr2:=hi.2.1.at (i:=tN (W (v7 - 1))) (by have _:=h0;omega)
   refine ba (t1++[.d h1,.i v7 (v5.length),.L aF v5 v7 0 1,.i (W (v7 - 1)) (v5.length),.L aF v5 (W (v7 - 1)) 0 1,.i v7 (v5.length),.p (show((0+tN v7*1)+1<=(flat c3 v5).length) from(dR aF oL (o:=0) (Nb rfl))),.i (W (v7 - 1)) (v5.length),.p (show((0+tN (W (v7 - 1))*1)+1<=(splice (flat c3 v5) (0+tN v7*1) [(iv (v5.getD (tN (W (v7 - 1))) dF))]).length) from(by rw [show(splice (flat c3 v5) (0+tN v7*1) [(iv (v5.getD (tN (W (v7 - 1))) dF))])=flat c3 (v5.set (tN v7) (v5.getD (tN (W (v7 - 1))) dF)) from(bE aF oL (o:=0) (d:=dF) (Nb rfl) rfl)];exact dR aF oL (o:=0) (Nb rfl)))]) [] [0,2,7,8,9] [2] hcx (m:=n) uR (uS n0) (rP a0 a1 a2 (splice (splice (flat c3 v5) (0+tN v7*1) [(iv (v5.getD (tN (W (v7 - 1))) dF))]) (0+tN (W (v7 - 1))*1) [(iv (v5.getD (tN v7) dF))]) (v5.length) v6 (W (v7 - 1))) oK ?_;have z0:(splice (splice (flat c3 v5) (0+tN v7*1) [(iv (v5.getD (tN (W (v7 - 1))) dF))]) (0+tN (W (v7 - 1))*1) [(iv (v5.getD (tN v7) dF))])=flat c3 ((v5.set (tN v7) (v5.getD (tN (W (v7 - 1))) dF)).set (tN (W (v7 - 1))) (v5.getD (tN v7) dF)):=(by rw [show(splice (flat c3 v5) (0+tN v7*1) [(iv (v5.getD (tN (W (v7 - 1))) dF))])=flat c3 (v5.set (tN v7) (v5.getD (tN (W (v7 - 1))) dF)) from(bE aF oL (o:=0) (d:=dF) (Nb rfl) rfl)];exact bE aF oL (o:=0) (d:=dF) (Nb rfl) rfl);have z1:v5.length=((v5.set (tN v7) (v5.getD (tN (W (v7 - 1))) dF)).set (tN (W (v7 - 1))) (v5.getD (tN v7) dF)).length:=by simp
   rw [z0,z1];exact ih _ _ _ (by and_intros<;>(try simp only [Lt])<;>first | omega | assumption | exact hi.2.1 | exact hi.2.2.1 | exact InR.swap hi.2.1 oM oM | exact InR.swap hr oM oM) oM
  have q1:=iF h1
  try have hr1:=hi.2.1.at (i:=tN v7) (by have _:=h0;omega)
  try have hr2:=hi.2.1.at (i:=tN (W (v7 - 1))) (by have _:=h0;omega)
  let t2:SL:=t1++[.d h1,.i v7 (v5.length),.L aF v5 v7 0 1,.i (v5.getD (tN v7) dF) (a0.length),.L cQ a0 (v5.getD (tN v7) dF) 0 10,.c [] (aKt (a0.getD (tN (v5.getD (tN v7) dF)) dF) a2),.i (W (v7 - 1)) (v5.length),.L aF v5 (W (v7 - 1)) 0 1,.i (v5.getD (tN (W (v7 - 1))) dF) (a0.length),.L cQ a0 (v5.getD (tN (W (v7 - 1))) dF) 0 10,.c [] (aKt (a0.getD (tN (v5.getD (tN (W (v7 - 1))) dF)) dF) a2)];cases h2:(((iL (a0.getD (tN (v5.getD (tN v7) dF)) dF) a2):Int) == (iL (a0.getD (tN (v5.getD (tN (W (v7 - 1))) dF)) dF) a2))
  case true=>
   try have hr1:=hi.2.1.at (i:=tN v7) (by have _:=h0;omega)
   try have hr2:=hi.2.1.at (i:=tN (W (v7 - 1))) (by have _:=h0;omega)
   let t3:SL:=t2++[.d h2,.i v7 (v5.length),.L aF v5 v7 0 1,.i (W (v7 - 1)) (v5.length),.L aF v5 (W (v7 - 1)) 0 1];cases h3:(decide (((v5.getD (tN v7) dF):Int) < (v5.getD (tN (W (v7 - 1))) dF)))
   case true=>
    try have hr1:=hi.2.1.at (i:=tN v7) (by have _:=h0;omega)
    try have hr2:=hi.2.1.at (i:=tN (W (v7 - 1))) (by have _:=h0;omega)
    refine ba (t3++[.d h3,.i v7 (v5.length),.L aF v5 v7 0 1,.i (W (v7 - 1)) (v5.length),.L aF v5 (W (v7 - 1)) 0 1,.i v7 (v5.length),.p (show((0+tN v7*1)+1<=(flat c3 v5).length) from(dR aF oL (o:=0) (Nb rfl))),.i (W (v7 - 1)) (v5.length),.p (show((0+tN (W (v7 - 1))*1)+1<=(splice (flat c3 v5) (0+tN v7*1) [(iv (v5.getD (tN (W (v7 - 1))) dF))]).length) from(by rw [show(splice (flat c3 v5) (0+tN v7*1) [(iv (v5.getD (tN (W (v7 - 1))) dF))])=flat c3 (v5.set (tN v7) (v5.getD (tN (W (v7 - 1))) dF)) from(bE aF oL (o:=0) (d:=dF) (Nb rfl) rfl)];exact dR aF oL (o:=0) (Nb rfl)))]) [] [0,2,7,8,9] [2] hcx (m:=n) uR (uS n0) (rP a0 a1 a2 (splice (splice (flat c3 v5) (0+tN v7*1) [(iv (v5.getD (tN (W (v7 - 1))) dF))]) (0+tN (W (v7 - 1))*1) [(iv (v5.getD (tN v7) dF))]) (v5.length) v6 (W (v7 - 1))) oK ?_;have z0:(splice (splice (flat c3 v5) (0+tN v7*1) [(iv (v5.getD (tN (W (v7 - 1))) dF))]) (0+tN (W (v7 - 1))*1) [(iv (v5.getD (tN v7) dF))])=flat c3 ((v5.set (tN v7) (v5.getD (tN (W (v7 - 1))) dF)).set (tN (W (v7 - 1))) (v5.getD (tN v7) dF)):=(by rw [show(splice (flat c3 v5) (0+tN v7*1) [(iv (v5.getD (tN (W (v7 - 1))) dF))])=flat c3 (v5.set (tN v7) (v5.getD (tN (W (v7 - 1))) dF)) from(bE aF oL (o:=0) (d:=dF) (Nb rfl) rfl)];exact bE aF oL (o:=0) (d:=dF) (Nb rfl) rfl);have z1:v5.length=((v5.set (tN v7) (v5.getD (tN (W (v7 - 1))) dF)).set (tN (W (v7 - 1))) (v5.getD (tN v7) dF)).length:=by simp
    rw [z0,z1];exact ih _ _ _ (by and_intros<;>(try simp only [Lt])<;>first | omega | assumption | exact hi.2.1 | exact hi.2.2.1 | exact InR.swap hi.2.1 oM oM | exact InR.swap hr oM oM) oM
   try have hr1:=hi.2.1.at (i:=tN v7) (by have _:=h0;omega)
   try have hr2:=hi.2.1.at (i:=tN (W (v7 - 1))) (by have _:=h0;omega)
   refine bA n0 (t3++[.d h3]) [0,2,7,8] [2] hcx kI (lT a0 a1 a2 (flat c3 v5) (v5.length) (W (v6+1))) ?_;have z0:(W (v6+1))=(v6+1):=aH oM oM;rw [z0];exact g0 v5 (v6+1) (by and_intros<;>(try simp only [Lt])<;>first | omega | assumption | exact hi.2.1 | exact hi.2.2.1 | exact InR.swap hi.2.1 oM oM | exact InR.swap hr oM oM) oM
  have q2:=ne_of_beq_false h2
  try have hr1:=hi.2.1.at (i:=tN v7) (by have _:=h0;omega)
  try have hr2:=hi.2.1.at (i:=tN (W (v7 - 1))) (by have _:=h0;omega)
  refine bA n0 (t2++[.d h2]) [0,2,7,8] [2] hcx kI (lT a0 a1 a2 (flat c3 v5) (v5.length) (W (v6+1))) ?_;have z0:(W (v6+1))=(v6+1):=aH oM oM;rw [z0];exact g0 v5 (v6+1) (by and_intros<;>(try simp only [Lt])<;>first | omega | assumption | exact hi.2.1 | exact hi.2.2.1 | exact InR.swap hi.2.1 oM oM | exact InR.swap hr oM oM) oM
 have q0:=iF h0
 try have hw_k:=(fun _=>aH (n:=v7 - 1) oM oM) h0
 try have hr1:=hi.2.1.at (i:=tN v7) (by have _:=h0;omega)
 try have hr2:=hi.2.1.at (i:=tN (W (v7 - 1))) (by have _:=h0;omega)
 refine bA n0 [.d h0] [0,2,7,8] [2] hcx kI (lT a0 a1 a2 (flat c3 v5) (v5.length) (W (v6+1))) ?_;have z0:(W (v6+1))=(v6+1):=aH oM oM;rw [z0];exact g0 v5 (v6+1) (by and_intros<;>(try simp only [Lt])<;>first | omega | assumption | exact hi.2.1 | exact hi.2.2.1 | exact InR.swap hi.2.1 oM oM | exact InR.swap hr oM oM) oM
theorem aQf (a0:bV)(a1:ZL)(a2:Int)(l0:a0.length<=2^63-1)(l1:a1.length<=2^63-1)(hir:InR a0.length a1)(hl:a1.length<=1048576) {cx:Cx} (hcx:cx.base=2):∀(n:Nat) (v3:ZL) (v4:Int),(0<=v4)/\(v3.length=a1.length)/\(InR a0.length v3)/\(1<=v4)->tN ((v3.length:Int) - v4) < n->gG Tryz.f86 cx (.s 2 0 (aG (gE a0 a1 a2) n (v3,v4)).length 1) [(.live true true (flat c3 (aG (gE a0 a1 a2) n (v3,v4))))] [] (.l kI.1 n::kI.2) (lT a0 a1 a2 (flat c3 v3) v3.length v4):=by
 intro n
 induction n with|zero=>intro v3 v4 hi hn;exact absurd hn (dX _)|succ n ih=>?_
 intro v3 v4 hi hn;refine aN ?_;rw [aZ,gE];cases h0:(decide ((v4:Int) < (v3.length:Int)))
 case true=>have q0:=eS h0;refine en [.d h0] [] [0,2,7,8,9] [2] hcx uR (uS n) (rP a0 a1 a2 (flat c3 v3) (v3.length) v4 v4) (tN v4+1) oK ?_;exact aQe a0 a1 a2 l0 l1 hir hl hcx n ih (tN v4+1) v3 v4 v4 (by and_intros<;>(try simp only [Lt])<;>first | omega | assumption | exact hi.2.1 | exact hi.2.2.1 | exact InR.swap hi.2.1 oM oM | exact InR.swap hr oM oM) oM
 exact rt [.d h0] [] [2] hcx oK
def aM (a0:bV)(a1:ZL)(a2:Int):ZL := (aG (gE a0 a1 a2) (tN ((((([]:ZL)++a1).length:Nat):Int) - 1)+1) ((([]:ZL)++a1),1))
theorem aHy (a0:bV)(a1:ZL)(a2:Int)(l0:a0.length<=2^63-1)(l1:a1.length<=2^63-1)(hir:InR a0.length a1)(hl:a1.length<=1048576):Con Tryz.prog 86 [(.s 0 0 a0.length 10),(.s 1 0 a1.length 1),(iv a2)] [(.live false true (flat dI a0)),(.live false true (flat c3 a1))] (.s 2 0 (aM a0 a1 a2).length 1) [(.live true true (flat c3 (aM a0 a1 a2)))]:=by
 refine cS Tryz.func86 fun cx hcx=>?_
 refine eN [.p (show(([]:List SV).length=0*1/\(flat c3 a1).length=a1.length*1/\(flat c3 a1).all SV.one=true/\0+a1.length<=2 ^ 40/\(0+a1.length)*8<=2 ^ 47) from by refine⟨?_,?_,?_,?_,?_⟩<;>first | omega | exact mT (fun _=>rfl) | (simp [dD aF];done) | (simp [dD aF];omega))] [0,2,7,8] [3] hcx kI (lT a0 a1 a2 (([]:List SV)++(flat c3 a1)) (0+a1.length) 1) (tN ((((([]:ZL)++a1).length:Nat):Int) - 1)+1) ?_;have z0:(([]:List SV)++(flat c3 a1))=flat c3 (([]:ZL)++a1):=(by simp [flat]);have z1:(0+a1.length)=(([]:ZL)++a1).length:=by simp
 rw [z0,z1];exact aQf a0 a1 a2 l0 l1 hir hl hcx (tN ((((([]:ZL)++a1).length:Nat):Int) - 1)+1) (([]:ZL)++a1) 1 (by and_intros<;>(try simp only [Lt])<;>first | omega | assumption | exact hi.2.1 | exact hi.2.2.1 | exact InR.swap hi.2.1 oM oM | exact InR.swap hr oM oM) oM
abbrev TR:=ZL×cV
abbrev jM:=bV
structure PGRW (l:jM) (t:TR) (ns:ZL) (leaf:Int):Prop where
 inr:InR l.length ns
 rng:1<=ns.length/\t.1.length+ns.length<=1048576
 nds:t.2.length+2*ns.length<=4194304
 lf:1<=leaf
theorem aV6 (l:jM)(ns:ZL):cU l ns=cW l ns:=rfl
theorem aHz (l:jM)(ns:ZL):(cU l ns).length=ns.length:=by rw [aV6,uO]
def cOf (l:jM)(k:Int):sL:=((l,0,[],[]),k)
theorem aH0 (l:jM)(k:Int)(x:Int):iL (l.getD (tN x) dF) k=kk (cOf l k) x:=by
 unfold kk cOf iL mU fP;cases h0:(k == 0)
 case true=>rfl
 cases h1:(k == 1)
 case true=>rfl
 rfl
theorem aTn (l:jM)(k x y:Int):(decide (iL (l.getD (tN x) dF) k < iL (l.getD (tN y) dF) k) || ((iL (l.getD (tN x) dF) k == iL (l.getD (tN y) dF) k)&&decide (x < y)))=bH (cOf l k) x y:=by
 rw [aH0,aH0];cases h:bH (cOf l k) x y
 case true=>rw [aHt] at h;simp;exact h
 rw [aOu] at h;simp;omega
section
open Go.Sort
variable {l : jM} {ns : ZL} {k : Int}
theorem aOy {n:Nat} (hn:n<=1048576)(hns:ns.length=n):∀(m:Nat) (d:Array Int) (j:Nat) (w:Int),d.size=n->j < n->j < m ->
 aG (jQ l ns k) m (wp ns 0 d,w,(j:Int))=.inl (wp ns 0 (insInner (bH (cOf l k)) 0 j d),w+1)
 | 0,_,_,_,_,_,h=>absurd h (dX _)
 | m+1,d,0,w,hd,hj,hm=>by
  refine aL ?_;simp only [jQ];rw [cA oM,cond_false];rfl
 | m+1,d,j+1,w,hd,hj,hm=>by
  have hl':0+d.size<=ns.length:=by omega
  have e1:W (((j+1:Nat):Int) - 1)=((j:Nat):Int):=wN oM oM;have g1:=cT hl' (i:=j+1) oM;have g0:=cT hl' (i:=j) oM;have gs:=gL hl' (i:=j+1) (j:=j) oM oM;rw [Nat.zero_add] at g1 g0;rw [Nat.zero_add,Nat.zero_add] at gs;rw [insInner,bX (show j+1 > 0 by omega),Bool.true_and];have e:jQ l ns k (wp ns 0 d,w,((j+1:Nat):Int))=bif bH (cOf l k) d[j+1]! d[j]! then .inl (wp ns 0 (swp d (j+1) j),w,(j:Int)) else .inr (.inl (wp ns 0 d,w+1)):=by
   rw [←aTn];simp only [jQ,e1,iB];rw [bX (show((j+1:Nat):Int) > 0 by omega),cond_true,gs,g1,g0];cases decide (iL (l.getD (tN d[j+1]!) dF) k < iL (l.getD (tN d[j]!) dF) k)
   case true=>rfl
   cases (iL (l.getD (tN d[j+1]!) dF) k == iL (l.getD (tN d[j]!) dF) k)
   case false=>rfl
   cases decide (d[j+1]! < d[j]!)<;>rfl
  cases q:bH (cOf l k) d[j+1]! d[j]!
  case true=>rw [q,cond_true] at e;rw [aK e];exact aOy hn hns m _ j w (by rw [Go.Sort.size_swp];exact hd) oM oM
  rw [q,cond_false] at e;exact aL e
theorem aOz {n:Nat} (hn:n<=1048576)(hns:ns.length=n):∀(m:Nat) (d:Array Int) (i:Nat),d.size=n->n - i < m ->
 aG (gE l ns k) m (wp ns 0 d,(i:Int))=wp ns 0 (insOuter (bH (cOf l k)) 0 n i d)
 | 0,_,_,_,h=>absurd h (dX _)
 | m+1,d,i,hd,hm=>by
  rw [insOuter];have hlen:(wp ns 0 d).length=n:=by rw [aDw oM,hns]
  by_cases h1:i < n
  ·rw [if_pos h1];have e:gE l ns k (wp ns 0 d,(i:Int))=aG (jQ l ns k) (tN (i:Int)+1) (wp ns 0 d,(i:Int),(i:Int)):=by
    simp only [gE];rw [bX oM,cond_true]
   rw [aK (e.trans (aOy hn hns _ d i _ hd oM oM))];exact aOz hn hns m _ (i+1) (by rw [pZ];exact hd) oM
  ·rw [if_neg h1];refine aL ?_;simp only [gE];rw [cA oM,cond_false]
def rA (l:jM)(k:Int)(ns:ZL):ZL:=ns.mergeSort (fun x y=>!bH (cOf l k) y x)
theorem pL (l:jM)(k:Int)(ns:ZL):(rA l k ns).length=ns.length:=(List.mergeSort_perm ns _).length_eq
theorem aV7 {N:Nat} (h:InR N ns):InR N (rA l k ns):=fun x hx=>h x ((List.mergeSort_perm ns _).mem_iff.1 hx)
theorem aTo {n:Nat} (h:ns.length=n) {d:Array Int} (hd:d.size=n):wp ns 0 d=d.toList:=by unfold wp;rw [Nat.zero_add,hd,←h,List.drop_length];simp
theorem aV8 (c:sL):bH c=bH (cOf c.1.1 c.2):=rfl
theorem aKv {c:sL} {d d':Array Int} (h1:PermIn 0 d.size d d')(h2:SortedIn (bH c) 0 d.size d'):d'.toList=rA c.1.1 c.2 d.toList:=by
 unfold rA;rw [←aV8];exact sorted_unique_holds (lt:=bH c) (nL c) (aV1 c) d d' h1 h2
theorem aTp (h:ns.length<=1048576):aM l ns k=rA l k ns:=by
 unfold aM;have hz:(ns.toArray).size=ns.length:=by simp
 have hw:wp ns 0 ns.toArray=ns:=by rw [aTo rfl hz]
 have h1:=insertionSort_holds (lt:=bH (cOf l k)) (nL _) ns.toArray 0 ns.length (Nat.zero_le _) (by rw [hz];exact Nat.le_refl _);have h0:=aOz (l:=l) (k:=k) h rfl (tN ((((([]:ZL)++ns).length:Nat):Int) - 1)+1) ns.toArray 1 hz (by rw [List.nil_append];omega);have e:insOuter (bH (cOf l k)) 0 ns.length 1 ns.toArray=insertionSort (bH (cOf l k)) ns.toArray 0 ns.length:=rfl;rw [hw,e,aTo (n:=ns.length) (d:=insertionSort (bH (cOf l k)) ns.toArray 0 ns.length) rfl (by rw [h1.1.1];exact hz),aKv (c:=cOf l k) (by rw [hz];exact h1.1) (by rw [hz];exact h1.2)] at h0;exact h0
theorem aZx {v:ZL} {o n:Nat} {c:sL} (hw:o+n<=v.length/\v.length<=1048576) :
 jJ v o n c=v.take o++rA c.1.1 c.2 ((v.drop o).take n)++v.drop (o+n):=by
 have hz:=fM hw.1;have hb:bitsLen n<=1048576:=Nat.le_trans ((bitsLen_le_iff n 62).2 oM) oM;have h:=aTe (l:=v) hw.1 oM (tN (((n:Nat):Int) - 0)+1) ((c.1.1,c.1.2.1,(v,c.1.2.2.2)),c.2) (kV v o n) 0 n (bitsLen n) hz (Nat.zero_le _) (Nat.le_refl _) hb oM;have hs:=pdq_sorts (bH ((c.1.1,c.1.2.1,(v,c.1.2.2.2)),c.2)) (nL _) (kV v o n) 0 n (bitsLen n) true true (Nat.zero_le _) (by rw [hz];exact Nat.le_refl _) (Or.inl rfl);rw [oN hw.1] at h;have e:jJ v o n c=aX (tN (((n:Nat):Int) - 0)+1) v o n ((0:Nat):Int) ((n:Nat):Int) ((bitsLen n:Nat):Int) ((c.1.1,c.1.2.1,(v,c.1.2.2.2)),c.2):=by
  unfold jJ pJ aKk;rw [show iW .u64 ((n:Nat):Int)=n by rw [IntKind.wrap_u64];omega,iB,bitLen_eq _ oM];rfl
 rw [e,h.1];unfold wp;rw [h.2,aKv (c:=((c.1.1,c.1.2.1,(v,c.1.2.2.2)),c.2)) (d:=kV v o n) (by rw [hz];exact hs.1) (by rw [hz];exact hs.2)];rfl
end
theorem vV {n:Nat} (h:n<=1048576):W (tD (W (((n:Nat):Int)+1)) 2)=(((n+1) / 2:Nat):Int):=by
 rw [wN (x:=((n:Nat):Int)+1) (n:=n+1) oM oM,Int.tdiv_eq_ediv_of_nonneg oM];exact wN oM oM
end Go.Proofs.YtlffahoikfahlaaGreat
namespace Go.Proofs.YtlffahoikfahlaaGreat
open Go.Proofs Go.Aw Go.RowKit
set_option maxRecDepth 100000
structure GRR (t r:TR) (ns:ZL):Prop where
 ol:r.1.length=t.1.length+ns.length
 lo:t.2.length < r.2.length
 hi:r.2.length<=t.2.length+2*ns.length - 1
section
variable {l : jM} {t : TR} {ns : ZL} {leaf : Int} {x : Int × Int × Int × Int × Zt × Int}
theorem vW (hp:PGRW l t ns leaf)(k:Int):(aM l ns k).length=ns.length/\InR l.length (aM l ns k):=by
 rw [aTp (by have:=hp.rng;omega)];exact⟨pL _ _ _,aV7 hp.inr⟩
theorem kX (hp:PGRW l t ns leaf)(k:Int)(h2:2<=ns.length):PGRW l (t.1,t.2++[x]) (Aw.part (aM l ns k) 0 (W (tD (W ((((aM l ns k).length:Nat):Int)+1)) 2))) leaf:=by
 have hs:=vW hp k;have h:=hp.rng;have hn:=hp.nds;rw [vV oM,hs.1];have hpt:=bD (l:=aM l ns k) (a:=0) (b:=(((ns.length+1) / 2:Nat):Int)) oM;refine⟨hs.2.part _ _,⟨by rw [hpt];omega,?_⟩,?_,hp.lf⟩
 ·rw [hpt];dsimp only;omega
 ·rw [hpt];simp only [List.length_append,List.length_cons,List.length_nil];omega
theorem pM {r:TR} (hp:PGRW l t ns leaf)(k:Int)(h2:2<=ns.length)(hr:GRR (t.1,t.2++[x]) r (Aw.part (aM l ns k) 0 (W (tD (W ((((aM l ns k).length:Nat):Int)+1)) 2)))) :
 PGRW l (r.1,r.2) (Aw.part (aM l ns k) (W (tD (W ((((aM l ns k).length:Nat):Int)+1)) 2)) (((aM l ns k).length:Nat):Int)) leaf:=by
 have hs:=vW hp k;have h:=hp.rng;have hn:=hp.nds;obtain⟨g1,g2,g3⟩:=hr;rw [vV oM,hs.1] at g1 g3 ⊢;have hpt1:=bD (l:=aM l ns k) (a:=0) (b:=(((ns.length+1) / 2:Nat):Int)) oM;have hpt2:=bD (l:=aM l ns k) (a:=(((ns.length+1) / 2:Nat):Int)) (b:=(ns.length:Int)) oM;rw [hpt1] at g1 g3;simp only [List.length_append,List.length_cons,List.length_nil] at g1 g2 g3;refine⟨hs.2.part _ _,⟨by rw [hpt2];omega,?_⟩,?_,hp.lf⟩
 ·rw [hpt2];dsimp only;omega
 ·rw [hpt2];dsimp only;omega
end
def fB (a0:bV)(a1:ZL×cV)(a2:ZL)(a3:Int):=(yR (cU a0 a2) ((aR a0 a2 0),(aR a0 a2 1),(aR a0 a2 2)))
def bM (rr:bV->(ZL×cV)->ZL->(Int)->ZL×cV)(a0:bV)(a1:ZL×cV)(a2:ZL)(a3:Int):=(rr a0 (a1.1,(a1.2++[((a1.1.length:Int),(W ((a1.1.length:Int)+(a2.length:Int))),(-1),(-1),((aR a0 a2 0),(aR a0 a2 1),(aR a0 a2 2)),(fB a0 a1 a2 a3).1)])) (Aw.part (aM a0 a2 (aI a0 a2)) 0 (W (tD (W ((((aM a0 a2 (aI a0 a2)).length:Nat):Int)+1)) 2))) a3)
def aA (rr:bV->(ZL×cV)->ZL->(Int)->ZL×cV)(a0:bV)(a1:ZL×cV)(a2:ZL)(a3:Int):=(rr a0 ((bM (rr) a0 a1 a2 a3).1,(bM (rr) a0 a1 a2 a3).2) (Aw.part (aM a0 a2 (aI a0 a2)) (W (tD (W ((((aM a0 a2 (aI a0 a2)).length:Nat):Int)+1)) 2)) (((aM a0 a2 (aI a0 a2)).length:Nat):Int)) a3)
def aB:Nat->bV->(ZL×cV)->ZL->(Int)->ZL×cV | 0,_,_,_,_=>dF | nr+1,a0,a1,a2,a3 => (bif (decide (((a2.length:Int):Int)<=a3))then((a1.1++a2),(a1.2++[((a1.1.length:Int),(W ((a1.1.length:Int)+(a2.length:Int))),(-1),(-1),((aR a0 a2 0),(aR a0 a2 1),(aR a0 a2 2)),(fB a0 a1 a2 a3).1)]))else((aA (aB nr) a0 a1 a2 a3).1,(((aA (aB nr) a0 a1 a2 a3).2.set (tN (a1.2.length:Int)) (((aA (aB nr) a0 a1 a2 a3).2.getD (tN (a1.2.length:Int)) dF).1,((aA (aB nr) a0 a1 a2 a3).2.getD (tN (a1.2.length:Int)) dF).2.1,(((a1.2.length+1):Nat):Int),((aA (aB nr) a0 a1 a2 a3).2.getD (tN (a1.2.length:Int)) dF).2.2.2.1,((aA (aB nr) a0 a1 a2 a3).2.getD (tN (a1.2.length:Int)) dF).2.2.2.2.1,((aA (aB nr) a0 a1 a2 a3).2.getD (tN (a1.2.length:Int)) dF).2.2.2.2.2)).set (tN (a1.2.length:Int)) ((((aA (aB nr) a0 a1 a2 a3).2.set (tN (a1.2.length:Int)) (((aA (aB nr) a0 a1 a2 a3).2.getD (tN (a1.2.length:Int)) dF).1,((aA (aB nr) a0 a1 a2 a3).2.getD (tN (a1.2.length:Int)) dF).2.1,(((a1.2.length+1):Nat):Int),((aA (aB nr) a0 a1 a2 a3).2.getD (tN (a1.2.length:Int)) dF).2.2.2.1,((aA (aB nr) a0 a1 a2 a3).2.getD (tN (a1.2.length:Int)) dF).2.2.2.2.1,((aA (aB nr) a0 a1 a2 a3).2.getD (tN (a1.2.length:Int)) dF).2.2.2.2.2)).getD (tN (a1.2.length:Int)) dF).1,(((aA (aB nr) a0 a1 a2 a3).2.set (tN (a1.2.length:Int)) (((aA (aB nr) a0 a1 a2 a3).2.getD (tN (a1.2.length:Int)) dF).1,((aA (aB nr) a0 a1 a2 a3).2.getD (tN (a1.2.length:Int)) dF).2.1,(((a1.2.length+1):Nat):Int),((aA (aB nr) a0 a1 a2 a3).2.getD (tN (a1.2.length:Int)) dF).2.2.2.1,((aA (aB nr) a0 a1 a2 a3).2.getD (tN (a1.2.length:Int)) dF).2.2.2.2.1,((aA (aB nr) a0 a1 a2 a3).2.getD (tN (a1.2.length:Int)) dF).2.2.2.2.2)).getD (tN (a1.2.length:Int)) dF).2.1,(((aA (aB nr) a0 a1 a2 a3).2.set (tN (a1.2.length:Int)) (((aA (aB nr) a0 a1 a2 a3).2.getD (tN (a1.2.length:Int)) dF).1,((aA (aB nr) a0 a1 a2 a3).2.getD (tN (a1.2.length:Int)) dF).2.1,(((a1.2.length+1):Nat):Int),((aA (aB nr) a0 a1 a2 a3).2.getD (tN (a1.2.length:Int)) dF).2.2.2.1,((aA (aB nr) a0 a1 a2 a3).2.getD (tN (a1.2.length:Int)) dF).2.2.2.2.1,((aA (aB nr) a0 a1 a2 a3).2.getD (tN (a1.2.length:Int)) dF).2.2.2.2.2)).getD (tN (a1.2.length:Int)) dF).2.2.1,(((bM (aB nr) a0 a1 a2 a3).2.length:Nat):Int),(((aA (aB nr) a0 a1 a2 a3).2.set (tN (a1.2.length:Int)) (((aA (aB nr) a0 a1 a2 a3).2.getD (tN (a1.2.length:Int)) dF).1,((aA (aB nr) a0 a1 a2 a3).2.getD (tN (a1.2.length:Int)) dF).2.1,(((a1.2.length+1):Nat):Int),((aA (aB nr) a0 a1 a2 a3).2.getD (tN (a1.2.length:Int)) dF).2.2.2.1,((aA (aB nr) a0 a1 a2 a3).2.getD (tN (a1.2.length:Int)) dF).2.2.2.2.1,((aA (aB nr) a0 a1 a2 a3).2.getD (tN (a1.2.length:Int)) dF).2.2.2.2.2)).getD (tN (a1.2.length:Int)) dF).2.2.2.2.1,(((aA (aB nr) a0 a1 a2 a3).2.set (tN (a1.2.length:Int)) (((aA (aB nr) a0 a1 a2 a3).2.getD (tN (a1.2.length:Int)) dF).1,((aA (aB nr) a0 a1 a2 a3).2.getD (tN (a1.2.length:Int)) dF).2.1,(((a1.2.length+1):Nat):Int),((aA (aB nr) a0 a1 a2 a3).2.getD (tN (a1.2.length:Int)) dF).2.2.2.1,((aA (aB nr) a0 a1 a2 a3).2.getD (tN (a1.2.length:Int)) dF).2.2.2.2.1,((aA (aB nr) a0 a1 a2 a3).2.getD (tN (a1.2.length:Int)) dF).2.2.2.2.2)).getD (tN (a1.2.length:Int)) dF).2.2.2.2.2))))
def fK (a0:bV)(a1:ZL×cV)(a2:ZL)(a3:Int):ZL×cV:=aB (a2.length+1) a0 a1 a2 a3
theorem kY:∀(nr:Nat) (l:jM) (t:TR) (ns:ZL) (leaf:Int),PGRW l t ns leaf->ns.length < nr->GRR t (aB nr l t ns leaf) ns
 | 0,_,_,_,_,_,h=>absurd h (dX _)
 | nr+1,l,t,ns,leaf,hp,hn=>by
  have h:=hp.rng;have hl:=hp.lf;simp only [aB];by_cases h0:(ns.length:Int)<=leaf
  ·rw [bX h0,cond_true];exact⟨by simp,by simp,by simp;omega⟩
  ·rw [cA h0,cond_false];have h2:2<=ns.length:=by omega
   have hs:=vW hp (aI l ns);have hf:=vV (n:=ns.length) oM;have hpt1:=bD (l:=aM l ns (aI l ns)) (a:=0) (b:=(((ns.length+1) / 2:Nat):Int)) oM;have hpt2:=bD (l:=aM l ns (aI l ns)) (a:=(((ns.length+1) / 2:Nat):Int)) (b:=(ns.length:Int)) oM;have h5:GRR _ (bM (aB nr) l t ns leaf) _:=kY nr _ _ _ _ (kX hp _ h2) (by rw [hs.1,hf,hpt1];omega);have h6:GRR _ (aA (aB nr) l t ns leaf) _:=kY nr _ _ _ _ (pM hp _ h2 h5) (by rw [hs.1,hf,hpt2];omega);obtain⟨g1,g2,g3⟩:=h5;obtain⟨f1,f2,f3⟩:=h6;rw [hs.1,hf,hpt1] at g1 g3;rw [hs.1,hf,hpt2] at f1 f3;dsimp only at g1 g2 g3 f1 f2 f3;simp only [List.length_append,List.length_cons,List.length_nil] at g1 g2 g3;exact⟨by dsimp only;omega,by simp only [List.length_set];omega,by simp only [List.length_set];omega⟩
theorem aH1:∀(nr:Nat) (a0:bV) (a1:ZL×cV) (a2:ZL) (a3:Int) (l0:a0.length<=2^63-1) (l1_1:a1.1.length<=2^63-1) (l1_2:a1.2.length<=2^63-1) (l2:a2.length<=2^63-1) (hp:PGRW a0 a1 a2 a3),a2.length < nr->Con Tryz.prog 47 [(.s 0 0 a0.length 10),(.a [(.s 1 0 a1.1.length 1),(.s 2 0 a1.2.length 8)]),(.s 3 0 a2.length 1),(iv a3)] [(.live false true (flat dI a0)),(.live true true (flat c3 a1.1)),(.live true true (flat cR a1.2)),(.live false true (flat c3 a2))] (.a [(.s 4 0 (aB nr a0 a1 a2 a3).1.length 1),(.s 5 0 (aB nr a0 a1 a2 a3).2.length 8)]) [(.live true true (flat c3 (aB nr a0 a1 a2 a3).1)),(.live true true (flat cR (aB nr a0 a1 a2 a3).2))] [.un,.dead,.dead,.un]:=by
 intro nr
 induction nr with
 | zero=>intro a0 a1 a2 a3 l0 l1_1 l1_2 l2 hp hlt;exact absurd hlt (dX _)
 | succ nr ihr =>
 intro a0 a1 a2 a3 l0 l1_1 l1_2 l2 hp hlt;refine cS Tryz.func47 fun cx hcx=>?_
 have hpr:=hp.rng;have hpn:=hp.nds
 try dsimp only at hpr hpn
 try simp only [List.length_nil,Nat.zero_add] at hpr hpn
 have hpl:=hp.lf;have hpk:=aHz a0 a2;have hso:=vW hp (aI a0 a2);obtain⟨hso1,hso2⟩:=hso;have hhf:(W (tD (W ((((aM a0 a2 (aI a0 a2)).length:Nat):Int)+1)) 2))=(((a2.length+1) / 2:Nat):Int):=by rw [hso1];exact vV oM
 have hpt1:(Aw.part (aM a0 a2 (aI a0 a2)) 0 (W (tD (W ((((aM a0 a2 (aI a0 a2)).length:Nat):Int)+1)) 2))).length=(a2.length+1) / 2:=by rw [bD oM];omega
 have hpt2:(Aw.part (aM a0 a2 (aI a0 a2)) (W (tD (W ((((aM a0 a2 (aI a0 a2)).length:Nat):Int)+1)) 2)) (((aM a0 a2 (aI a0 a2)).length:Nat):Int)).length=a2.length - (a2.length+1) / 2:=by rw [bD oM];omega
 try (have _:=h0;simp only [List.length_append,List.length_cons,List.length_nil] at g1 g2 g3 f1 f2 f3)
 let t0:SL:=[.c [0,3] (nM a0 a2 0 oM oM hp.inr oM),.c [0,3] (nM a0 a2 1 oM oM hp.inr oM),.c [0,3] (nM a0 a2 2 oM oM hp.inr oM),.c [0,3] (aBv a0 a2 oM oM hp.inr oM),.c [7] (aTm (cU a0 a2) ((aR a0 a2 0),(aR a0 a2 1),(aR a0 a2 2)) oM),.p (show((flat cR a1.2).length=a1.2.length*8/\a1.2.length+1<=2 ^ 40/\(a1.2.length+1)*64<=2 ^ 47) from iS cC oM oM)];rw [aB];cases h0:(decide (((a2.length:Int):Int)<=a3))
 case true=>
  try (have _:=h0;simp only [List.length_append,List.length_cons,List.length_nil] at g1 g2 g3 f1 f2 f3)
  simp only [vF]
  try dsimp only [bN]
  try dsimp only
  rw [show flat c3 (a1.1++a2)=((flat c3 a1.1)++(flat c3 a2)) from Eq.symm (by simp [flat])]
  try rw [show List.length (α:=Int) (a1.1++a2)=(a1.1.length+a2.length) from by first | simp;done | omega]
  rw [show flat cR (a1.2++[((a1.1.length:Int),(W ((a1.1.length:Int)+(a2.length:Int))),(-1),(-1),((aR a0 a2 0),(aR a0 a2 1),(aR a0 a2 2)),(fB a0 a1 a2 a3).1)])=(flat cR a1.2++[(iv (a1.1.length:Int)),(iv (W ((a1.1.length:Int)+(a2.length:Int)))),(iv (-1)),(iv (-1)),(iv (aR a0 a2 0)),(iv (aR a0 a2 1)),(iv (aR a0 a2 2)),(iv (fB a0 a1 a2 a3).1)]) from bQ]
  try rw [show List.length (α:=Int×Int×Int×Int×Zt×Int) (a1.2++[((a1.1.length:Int),(W ((a1.1.length:Int)+(a2.length:Int))),(-1),(-1),((aR a0 a2 0),(aR a0 a2 1),(aR a0 a2 2)),(fB a0 a1 a2 a3).1)])=(a1.2.length+1) from by first | simp;done | omega]
  exact zE (t0++[.d h0,.p (show((flat c3 a1.1).length=a1.1.length*1/\(flat c3 a2).length=a2.length*1/\(flat c3 a2).all SV.one=true/\a1.1.length+a2.length<=2 ^ 40/\(a1.1.length+a2.length)*8<=2 ^ 47) from by refine⟨?_,?_,?_,?_,?_⟩<;>first | omega | exact mT (fun _=>rfl) | (simp [dD aF];done) | (simp [dD aF];omega))]) [] [1,2] [10,9] hcx oK
 have q0:=iF h0
 try have h2:2<=a2.length:=(fun _=>by omega) h0
 try have h5:GRR _ (bM (aB nr) a0 a1 a2 a3) _:=(fun _=>kY nr _ _ _ _ (kX hp _ h2) oM) h0
 try have h6:GRR _ (aA (aB nr) a0 a1 a2 a3) _:=(fun _=>kY nr _ _ _ _ (pM hp _ h2 h5) oM) h0
 try have g1:=(fun _=>h5.ol) h0
 try have g2:=(fun _=>h5.lo) h0
 try have g3:=(fun _=>h5.hi) h0
 try have f1:=(fun _=>h6.ol) h0
 try have f2:=(fun _=>h6.lo) h0
 try have f3:=(fun _=>h6.hi) h0
 try (have _:=h0;simp only [List.length_append,List.length_cons,List.length_nil] at g1 g2 g3 f1 f2 f3)
 simp only [vF]
 try dsimp only [bN]
 try dsimp only
 rw [show flat cR (((aA (aB nr) a0 a1 a2 a3).2.set (tN (a1.2.length:Int)) (((aA (aB nr) a0 a1 a2 a3).2.getD (tN (a1.2.length:Int)) dF).1,((aA (aB nr) a0 a1 a2 a3).2.getD (tN (a1.2.length:Int)) dF).2.1,(((a1.2.length+1):Nat):Int),((aA (aB nr) a0 a1 a2 a3).2.getD (tN (a1.2.length:Int)) dF).2.2.2.1,((aA (aB nr) a0 a1 a2 a3).2.getD (tN (a1.2.length:Int)) dF).2.2.2.2.1,((aA (aB nr) a0 a1 a2 a3).2.getD (tN (a1.2.length:Int)) dF).2.2.2.2.2)).set (tN (a1.2.length:Int)) ((((aA (aB nr) a0 a1 a2 a3).2.set (tN (a1.2.length:Int)) (((aA (aB nr) a0 a1 a2 a3).2.getD (tN (a1.2.length:Int)) dF).1,((aA (aB nr) a0 a1 a2 a3).2.getD (tN (a1.2.length:Int)) dF).2.1,(((a1.2.length+1):Nat):Int),((aA (aB nr) a0 a1 a2 a3).2.getD (tN (a1.2.length:Int)) dF).2.2.2.1,((aA (aB nr) a0 a1 a2 a3).2.getD (tN (a1.2.length:Int)) dF).2.2.2.2.1,((aA (aB nr) a0 a1 a2 a3).2.getD (tN (a1.2.length:Int)) dF).2.2.2.2.2)).getD (tN (a1.2.length:Int)) dF).1,(((aA (aB nr) a0 a1 a2 a3).2.set (tN (a1.2.length:Int)) (((aA (aB nr) a0 a1 a2 a3).2.getD (tN (a1.2.length:Int)) dF).1,((aA (aB nr) a0 a1 a2 a3).2.getD (tN (a1.2.length:Int)) dF).2.1,(((a1.2.length+1):Nat):Int),((aA (aB nr) a0 a1 a2 a3).2.getD (tN (a1.2.length:Int)) dF).2.2.2.1,((aA (aB nr) a0 a1 a2 a3).2.getD (tN (a1.2.length:Int)) dF).2.2.2.2.1,((aA (aB nr) a0 a1 a2 a3).2.getD (tN (a1.2.length:Int)) dF).2.2.2.2.2)).getD (tN (a1.2.length:Int)) dF).2.1,(((aA (aB nr) a0 a1 a2 a3).2.set (tN (a1.2.length:Int)) (((aA (aB nr) a0 a1 a2 a3).2.getD (tN (a1.2.length:Int)) dF).1,((aA (aB nr) a0 a1 a2 a3).2.getD (tN (a1.2.length:Int)) dF).2.1,(((a1.2.length+1):Nat):Int),((aA (aB nr) a0 a1 a2 a3).2.getD (tN (a1.2.length:Int)) dF).2.2.2.1,((aA (aB nr) a0 a1 a2 a3).2.getD (tN (a1.2.length:Int)) dF).2.2.2.2.1,((aA (aB nr) a0 a1 a2 a3).2.getD (tN (a1.2.length:Int)) dF).2.2.2.2.2)).getD (tN (a1.2.length:Int)) dF).2.2.1,(((bM (aB nr) a0 a1 a2 a3).2.length:Nat):Int),(((aA (aB nr) a0 a1 a2 a3).2.set (tN (a1.2.length:Int)) (((aA (aB nr) a0 a1 a2 a3).2.getD (tN (a1.2.length:Int)) dF).1,((aA (aB nr) a0 a1 a2 a3).2.getD (tN (a1.2.length:Int)) dF).2.1,(((a1.2.length+1):Nat):Int),((aA (aB nr) a0 a1 a2 a3).2.getD (tN (a1.2.length:Int)) dF).2.2.2.1,((aA (aB nr) a0 a1 a2 a3).2.getD (tN (a1.2.length:Int)) dF).2.2.2.2.1,((aA (aB nr) a0 a1 a2 a3).2.getD (tN (a1.2.length:Int)) dF).2.2.2.2.2)).getD (tN (a1.2.length:Int)) dF).2.2.2.2.1,(((aA (aB nr) a0 a1 a2 a3).2.set (tN (a1.2.length:Int)) (((aA (aB nr) a0 a1 a2 a3).2.getD (tN (a1.2.length:Int)) dF).1,((aA (aB nr) a0 a1 a2 a3).2.getD (tN (a1.2.length:Int)) dF).2.1,(((a1.2.length+1):Nat):Int),((aA (aB nr) a0 a1 a2 a3).2.getD (tN (a1.2.length:Int)) dF).2.2.2.1,((aA (aB nr) a0 a1 a2 a3).2.getD (tN (a1.2.length:Int)) dF).2.2.2.2.1,((aA (aB nr) a0 a1 a2 a3).2.getD (tN (a1.2.length:Int)) dF).2.2.2.2.2)).getD (tN (a1.2.length:Int)) dF).2.2.2.2.2))=(splice (splice (flat cR (aA (aB nr) a0 a1 a2 a3).2) (0+tN (a1.2.length:Int)*8+2) [(iv (((a1.2.length+1):Nat):Int))]) (0+tN (a1.2.length:Int)*8+3) [(iv (((bM (aB nr) a0 a1 a2 a3).2.length:Nat):Int))]) from Eq.symm (by rw [show(splice (flat cR (aA (aB nr) a0 a1 a2 a3).2) (0+tN (a1.2.length:Int)*8+2) [(iv (((a1.2.length+1):Nat):Int))])=flat cR ((aA (aB nr) a0 a1 a2 a3).2.set (tN (a1.2.length:Int)) (((aA (aB nr) a0 a1 a2 a3).2.getD (tN (a1.2.length:Int)) dF).1,((aA (aB nr) a0 a1 a2 a3).2.getD (tN (a1.2.length:Int)) dF).2.1,(((a1.2.length+1):Nat):Int),((aA (aB nr) a0 a1 a2 a3).2.getD (tN (a1.2.length:Int)) dF).2.2.2.1,((aA (aB nr) a0 a1 a2 a3).2.getD (tN (a1.2.length:Int)) dF).2.2.2.2.1,((aA (aB nr) a0 a1 a2 a3).2.getD (tN (a1.2.length:Int)) dF).2.2.2.2.2)) from(bE cC oL (o:=2) (d:=dF) (Nb rfl) rfl)];exact bE cC oL (o:=3) (d:=dF) (Nb rfl) rfl)]
 try rw [show List.length (α:=Int×Int×Int×Int×Zt×Int) (((aA (aB nr) a0 a1 a2 a3).2.set (tN (a1.2.length:Int)) (((aA (aB nr) a0 a1 a2 a3).2.getD (tN (a1.2.length:Int)) dF).1,((aA (aB nr) a0 a1 a2 a3).2.getD (tN (a1.2.length:Int)) dF).2.1,(((a1.2.length+1):Nat):Int),((aA (aB nr) a0 a1 a2 a3).2.getD (tN (a1.2.length:Int)) dF).2.2.2.1,((aA (aB nr) a0 a1 a2 a3).2.getD (tN (a1.2.length:Int)) dF).2.2.2.2.1,((aA (aB nr) a0 a1 a2 a3).2.getD (tN (a1.2.length:Int)) dF).2.2.2.2.2)).set (tN (a1.2.length:Int)) ((((aA (aB nr) a0 a1 a2 a3).2.set (tN (a1.2.length:Int)) (((aA (aB nr) a0 a1 a2 a3).2.getD (tN (a1.2.length:Int)) dF).1,((aA (aB nr) a0 a1 a2 a3).2.getD (tN (a1.2.length:Int)) dF).2.1,(((a1.2.length+1):Nat):Int),((aA (aB nr) a0 a1 a2 a3).2.getD (tN (a1.2.length:Int)) dF).2.2.2.1,((aA (aB nr) a0 a1 a2 a3).2.getD (tN (a1.2.length:Int)) dF).2.2.2.2.1,((aA (aB nr) a0 a1 a2 a3).2.getD (tN (a1.2.length:Int)) dF).2.2.2.2.2)).getD (tN (a1.2.length:Int)) dF).1,(((aA (aB nr) a0 a1 a2 a3).2.set (tN (a1.2.length:Int)) (((aA (aB nr) a0 a1 a2 a3).2.getD (tN (a1.2.length:Int)) dF).1,((aA (aB nr) a0 a1 a2 a3).2.getD (tN (a1.2.length:Int)) dF).2.1,(((a1.2.length+1):Nat):Int),((aA (aB nr) a0 a1 a2 a3).2.getD (tN (a1.2.length:Int)) dF).2.2.2.1,((aA (aB nr) a0 a1 a2 a3).2.getD (tN (a1.2.length:Int)) dF).2.2.2.2.1,((aA (aB nr) a0 a1 a2 a3).2.getD (tN (a1.2.length:Int)) dF).2.2.2.2.2)).getD (tN (a1.2.length:Int)) dF).2.1,(((aA (aB nr) a0 a1 a2 a3).2.set (tN (a1.2.length:Int)) (((aA (aB nr) a0 a1 a2 a3).2.getD (tN (a1.2.length:Int)) dF).1,((aA (aB nr) a0 a1 a2 a3).2.getD (tN (a1.2.length:Int)) dF).2.1,(((a1.2.length+1):Nat):Int),((aA (aB nr) a0 a1 a2 a3).2.getD (tN (a1.2.length:Int)) dF).2.2.2.1,((aA (aB nr) a0 a1 a2 a3).2.getD (tN (a1.2.length:Int)) dF).2.2.2.2.1,((aA (aB nr) a0 a1 a2 a3).2.getD (tN (a1.2.length:Int)) dF).2.2.2.2.2)).getD (tN (a1.2.length:Int)) dF).2.2.1,(((bM (aB nr) a0 a1 a2 a3).2.length:Nat):Int),(((aA (aB nr) a0 a1 a2 a3).2.set (tN (a1.2.length:Int)) (((aA (aB nr) a0 a1 a2 a3).2.getD (tN (a1.2.length:Int)) dF).1,((aA (aB nr) a0 a1 a2 a3).2.getD (tN (a1.2.length:Int)) dF).2.1,(((a1.2.length+1):Nat):Int),((aA (aB nr) a0 a1 a2 a3).2.getD (tN (a1.2.length:Int)) dF).2.2.2.1,((aA (aB nr) a0 a1 a2 a3).2.getD (tN (a1.2.length:Int)) dF).2.2.2.2.1,((aA (aB nr) a0 a1 a2 a3).2.getD (tN (a1.2.length:Int)) dF).2.2.2.2.2)).getD (tN (a1.2.length:Int)) dF).2.2.2.2.1,(((aA (aB nr) a0 a1 a2 a3).2.set (tN (a1.2.length:Int)) (((aA (aB nr) a0 a1 a2 a3).2.getD (tN (a1.2.length:Int)) dF).1,((aA (aB nr) a0 a1 a2 a3).2.getD (tN (a1.2.length:Int)) dF).2.1,(((a1.2.length+1):Nat):Int),((aA (aB nr) a0 a1 a2 a3).2.getD (tN (a1.2.length:Int)) dF).2.2.2.1,((aA (aB nr) a0 a1 a2 a3).2.getD (tN (a1.2.length:Int)) dF).2.2.2.2.1,((aA (aB nr) a0 a1 a2 a3).2.getD (tN (a1.2.length:Int)) dF).2.2.2.2.2)).getD (tN (a1.2.length:Int)) dF).2.2.2.2.2))=(aA (aB nr) a0 a1 a2 a3).2.length from by first | simp;done | omega]
 exact zE (t0++[.d h0,.c [0,3] (aHx a0 a2 oM oM hp.inr oM),.c [0,3] (aHy a0 a2 (aI a0 a2) oM oM hp.inr oM),.p (show(2:Int)≠0 from by decide),.S aF (aM a0 a2 (aI a0 a2)) 0 (W (tD (W ((((aM a0 a2 (aI a0 a2)).length:Nat):Int)+1)) 2)) ((aM a0 a2 (aI a0 a2)).length),.c [0,1,9,11] (by have q:=(ihr a0 (a1.1,(a1.2++[((a1.1.length:Int),(W ((a1.1.length:Int)+(a2.length:Int))),(-1),(-1),((aR a0 a2 0),(aR a0 a2 1),(aR a0 a2 2)),(fB a0 a1 a2 a3).1)])) (Aw.part (aM a0 a2 (aI a0 a2)) 0 (W (tD (W ((((aM a0 a2 (aI a0 a2)).length:Nat):Int)+1)) 2))) a3 oM oM (by(try simp only [Lt]);omega) oM (by first | exact kX hp _ h2 | exact pM hp _ h2 h5) oM);(try dsimp only at q);rw [show flat cR (a1.2++[((a1.1.length:Int),(W ((a1.1.length:Int)+(a2.length:Int))),(-1),(-1),((aR a0 a2 0),(aR a0 a2 1),(aR a0 a2 2)),(fB a0 a1 a2 a3).1)])=(flat cR a1.2++[(iv (a1.1.length:Int)),(iv (W ((a1.1.length:Int)+(a2.length:Int)))),(iv (-1)),(iv (-1)),(iv (aR a0 a2 0)),(iv (aR a0 a2 1)),(iv (aR a0 a2 2)),(iv (fB a0 a1 a2 a3).1)]) from bQ] at q;(try rw [show List.length (α:=Int×Int×Int×Int×Zt×Int) (a1.2++[((a1.1.length:Int),(W ((a1.1.length:Int)+(a2.length:Int))),(-1),(-1),((aR a0 a2 0),(aR a0 a2 1),(aR a0 a2 2)),(fB a0 a1 a2 a3).1)])=(a1.2.length+1) from by first | simp;done | omega] at q);(try rw [show List.length (α:=Int) (Aw.part (aM a0 a2 (aI a0 a2)) 0 (W (tD (W ((((aM a0 a2 (aI a0 a2)).length:Nat):Int)+1)) 2)))=(tN (W (tD (W ((((aM a0 a2 (aI a0 a2)).length:Nat):Int)+1)) 2)) - tN 0) from by first | simp;done | omega] at q);exact q),.S aF (aM a0 a2 (aI a0 a2)) (W (tD (W ((((aM a0 a2 (aI a0 a2)).length:Nat):Int)+1)) 2)) (((aM a0 a2 (aI a0 a2)).length:Nat):Int) ((aM a0 a2 (aI a0 a2)).length),.c [0,12,13,14] (by have q:=(ihr a0 ((bM (aB nr) a0 a1 a2 a3).1,(bM (aB nr) a0 a1 a2 a3).2) (Aw.part (aM a0 a2 (aI a0 a2)) (W (tD (W ((((aM a0 a2 (aI a0 a2)).length:Nat):Int)+1)) 2)) (((aM a0 a2 (aI a0 a2)).length:Nat):Int)) a3 oM (by(try simp only [Lt]);omega) (by(try simp only [Lt]);omega) oM (by first | exact kX hp _ h2 | exact pM hp _ h2 h5) oM);(try dsimp only at q);(try rw [show List.length (α:=Int) (Aw.part (aM a0 a2 (aI a0 a2)) (W (tD (W ((((aM a0 a2 (aI a0 a2)).length:Nat):Int)+1)) 2)) (((aM a0 a2 (aI a0 a2)).length:Nat):Int))=(tN (((aM a0 a2 (aI a0 a2)).length:Nat):Int) - tN (W (tD (W ((((aM a0 a2 (aI a0 a2)).length:Nat):Int)+1)) 2))) from by first | simp;done | omega] at q);exact q),.i (a1.2.length:Int) ((aA (aB nr) a0 a1 a2 a3).2.length),.p (show((0+tN (a1.2.length:Int)*8+2)+1<=(flat cR (aA (aB nr) a0 a1 a2 a3).2).length) from(dR cC oL (o:=2) (Nb rfl))),.i (a1.2.length:Int) ((aA (aB nr) a0 a1 a2 a3).2.length),.p (show((0+tN (a1.2.length:Int)*8+3)+1<=(splice (flat cR (aA (aB nr) a0 a1 a2 a3).2) (0+tN (a1.2.length:Int)*8+2) [(iv (((a1.2.length+1):Nat):Int))]).length) from(by rw [show(splice (flat cR (aA (aB nr) a0 a1 a2 a3).2) (0+tN (a1.2.length:Int)*8+2) [(iv (((a1.2.length+1):Nat):Int))])=flat cR ((aA (aB nr) a0 a1 a2 a3).2.set (tN (a1.2.length:Int)) (((aA (aB nr) a0 a1 a2 a3).2.getD (tN (a1.2.length:Int)) dF).1,((aA (aB nr) a0 a1 a2 a3).2.getD (tN (a1.2.length:Int)) dF).2.1,(((a1.2.length+1):Nat):Int),((aA (aB nr) a0 a1 a2 a3).2.getD (tN (a1.2.length:Int)) dF).2.2.2.1,((aA (aB nr) a0 a1 a2 a3).2.getD (tN (a1.2.length:Int)) dF).2.2.2.2.1,((aA (aB nr) a0 a1 a2 a3).2.getD (tN (a1.2.length:Int)) dF).2.2.2.2.2)) from(bE cC oL (o:=2) (d:=dF) (Nb rfl) rfl)];exact dR cC oL (o:=3) (Nb rfl)))]) [] [1,2] [15,16] hcx oK
theorem aA6 (a0:bV)(a1:ZL×cV)(a2:ZL)(a3:Int)(l0:a0.length<=2^63-1)(l1_1:a1.1.length<=2^63-1)(l1_2:a1.2.length<=2^63-1)(l2:a2.length<=2^63-1)(hp:PGRW a0 a1 a2 a3):Con Tryz.prog 47 [(.s 0 0 a0.length 10),(.a [(.s 1 0 a1.1.length 1),(.s 2 0 a1.2.length 8)]),(.s 3 0 a2.length 1),(iv a3)] [(.live false true (flat dI a0)),(.live true true (flat c3 a1.1)),(.live true true (flat cR a1.2)),(.live false true (flat c3 a2))] (.a [(.s 4 0 (fK a0 a1 a2 a3).1.length 1),(.s 5 0 (fK a0 a1 a2 a3).2.length 8)]) [(.live true true (flat c3 (fK a0 a1 a2 a3).1)),(.live true true (flat cR (fK a0 a1 a2 a3).2))] [.un,.dead,.dead,.un]:=aH1 (a2.length+1) a0 a1 a2 a3 l0 l1_1 l1_2 l2 hp (lss _)
end Go.Proofs.YtlffahoikfahlaaGreat
namespace Go.Proofs.YtlffahoikfahlaaGreat
open Go.Proofs Go.Aw Go.RowKit
set_option maxRecDepth 100000
theorem tM:∀(n1 n2:Nat) (l:jM) (t:TR) (ns:ZL) (leaf:Int),PGRW l t ns leaf->ns.length < n1->ns.length < n2->aB n1 l t ns leaf=aB n2 l t ns leaf
 | 0,_,_,_,_,_,_,h,_=>absurd h (dX _)
 | _+1,0,_,_,_,_,_,_,h=>absurd h (dX _)
 | n1+1,n2+1,l,t,ns,leaf,hp,h1,h2=>by
  have h:=hp.rng;have hl:=hp.lf;simp only [aB];by_cases h0:(ns.length:Int)<=leaf
  ·rw [bX h0];rfl
  ·rw [cA h0,cond_false,cond_false];have g2:2<=ns.length:=by omega
   have hs:=vW hp (aI l ns);have hf:=vV (n:=ns.length) oM;have hpt1:=bD (l:=aM l ns (aI l ns)) (a:=0) (b:=(((ns.length+1) / 2:Nat):Int)) oM;have hpt2:=bD (l:=aM l ns (aI l ns)) (a:=(((ns.length+1) / 2:Nat):Int)) (b:=(ns.length:Int)) oM;have h5:GRR _ (bM (aB n1) l t ns leaf) _:=kY n1 _ _ _ _ (kX hp _ g2) (by rw [hs.1,hf,hpt1];omega);have e2:bM (aB n1) l t ns leaf=bM (aB n2) l t ns leaf:=tM n1 n2 _ _ _ _ (kX hp _ g2) (by rw [hs.1,hf,hpt1];omega) (by rw [hs.1,hf,hpt1];omega);have e3:aA (aB n1) l t ns leaf=aA (aB n2) l t ns leaf:=by
    have:=tM n1 n2 _ _ _ _ (pM hp _ g2 h5) (by rw [hs.1,hf,hpt2];omega) (by rw [hs.1,hf,hpt2];omega);unfold aA;rw [←e2];exact this
   rw [e3,e2]
def fC (a0:bV)(a1:ZL×cV)(a2:ZL)(a3:Int):=(yR (cU a0 a2) ((aR a0 a2 0),(aR a0 a2 1),(aR a0 a2 2)))
def eF (rr:bV->(ZL×cV)->ZL->(Int)->ZL×cV)(a0:bV)(a1:ZL×cV)(a2:ZL)(a3:Int):=(rr a0 (([]:ZL),(a1.2++[(0,(W (0+(a2.length:Int))),(-1),(-1),((aR a0 a2 0),(aR a0 a2 1),(aR a0 a2 2)),(fC a0 a1 a2 a3).1)])) (Aw.part (aM a0 a2 (aI a0 a2)) 0 (W (tD (W ((((aM a0 a2 (aI a0 a2)).length:Nat):Int)+1)) 2))) a3)
def aC (rr:bV->(ZL×cV)->ZL->(Int)->ZL×cV)(a0:bV)(a1:ZL×cV)(a2:ZL)(a3:Int):=(fK a0 ((eF (rr) a0 a1 a2 a3).1,(eF (rr) a0 a1 a2 a3).2) (Aw.part (aM a0 a2 (aI a0 a2)) (W (tD (W ((((aM a0 a2 (aI a0 a2)).length:Nat):Int)+1)) 2)) (((aM a0 a2 (aI a0 a2)).length:Nat):Int)) a3)
def aE:Nat->bV->(ZL×cV)->ZL->(Int)->ZL×cV | 0,_,_,_,_=>dF | nr+1,a0,a1,a2,a3 => (bif (decide (((a2.length:Int):Int)<=a3))then(a2,(a1.2++[(0,(W (0+(a2.length:Int))),(-1),(-1),((aR a0 a2 0),(aR a0 a2 1),(aR a0 a2 2)),(fC a0 a1 a2 a3).1)]))else((aC (aE nr) a0 a1 a2 a3).1,(((aC (aE nr) a0 a1 a2 a3).2.set (tN (a1.2.length:Int)) (((aC (aE nr) a0 a1 a2 a3).2.getD (tN (a1.2.length:Int)) dF).1,((aC (aE nr) a0 a1 a2 a3).2.getD (tN (a1.2.length:Int)) dF).2.1,(((a1.2.length+1):Nat):Int),((aC (aE nr) a0 a1 a2 a3).2.getD (tN (a1.2.length:Int)) dF).2.2.2.1,((aC (aE nr) a0 a1 a2 a3).2.getD (tN (a1.2.length:Int)) dF).2.2.2.2.1,((aC (aE nr) a0 a1 a2 a3).2.getD (tN (a1.2.length:Int)) dF).2.2.2.2.2)).set (tN (a1.2.length:Int)) ((((aC (aE nr) a0 a1 a2 a3).2.set (tN (a1.2.length:Int)) (((aC (aE nr) a0 a1 a2 a3).2.getD (tN (a1.2.length:Int)) dF).1,((aC (aE nr) a0 a1 a2 a3).2.getD (tN (a1.2.length:Int)) dF).2.1,(((a1.2.length+1):Nat):Int),((aC (aE nr) a0 a1 a2 a3).2.getD (tN (a1.2.length:Int)) dF).2.2.2.1,((aC (aE nr) a0 a1 a2 a3).2.getD (tN (a1.2.length:Int)) dF).2.2.2.2.1,((aC (aE nr) a0 a1 a2 a3).2.getD (tN (a1.2.length:Int)) dF).2.2.2.2.2)).getD (tN (a1.2.length:Int)) dF).1,(((aC (aE nr) a0 a1 a2 a3).2.set (tN (a1.2.length:Int)) (((aC (aE nr) a0 a1 a2 a3).2.getD (tN (a1.2.length:Int)) dF).1,((aC (aE nr) a0 a1 a2 a3).2.getD (tN (a1.2.length:Int)) dF).2.1,(((a1.2.length+1):Nat):Int),((aC (aE nr) a0 a1 a2 a3).2.getD (tN (a1.2.length:Int)) dF).2.2.2.1,((aC (aE nr) a0 a1 a2 a3).2.getD (tN (a1.2.length:Int)) dF).2.2.2.2.1,((aC (aE nr) a0 a1 a2 a3).2.getD (tN (a1.2.length:Int)) dF).2.2.2.2.2)).getD (tN (a1.2.length:Int)) dF).2.1,(((aC (aE nr) a0 a1 a2 a3).2.set (tN (a1.2.length:Int)) (((aC (aE nr) a0 a1 a2 a3).2.getD (tN (a1.2.length:Int)) dF).1,((aC (aE nr) a0 a1 a2 a3).2.getD (tN (a1.2.length:Int)) dF).2.1,(((a1.2.length+1):Nat):Int),((aC (aE nr) a0 a1 a2 a3).2.getD (tN (a1.2.length:Int)) dF).2.2.2.1,((aC (aE nr) a0 a1 a2 a3).2.getD (tN (a1.2.length:Int)) dF).2.2.2.2.1,((aC (aE nr) a0 a1 a2 a3).2.getD (tN (a1.2.length:Int)) dF).2.2.2.2.2)).getD (tN (a1.2.length:Int)) dF).2.2.1,(((eF (aE nr) a0 a1 a2 a3).2.length:Nat):Int),(((aC (aE nr) a0 a1 a2 a3).2.set (tN (a1.2.length:Int)) (((aC (aE nr) a0 a1 a2 a3).2.getD (tN (a1.2.length:Int)) dF).1,((aC (aE nr) a0 a1 a2 a3).2.getD (tN (a1.2.length:Int)) dF).2.1,(((a1.2.length+1):Nat):Int),((aC (aE nr) a0 a1 a2 a3).2.getD (tN (a1.2.length:Int)) dF).2.2.2.1,((aC (aE nr) a0 a1 a2 a3).2.getD (tN (a1.2.length:Int)) dF).2.2.2.2.1,((aC (aE nr) a0 a1 a2 a3).2.getD (tN (a1.2.length:Int)) dF).2.2.2.2.2)).getD (tN (a1.2.length:Int)) dF).2.2.2.2.1,(((aC (aE nr) a0 a1 a2 a3).2.set (tN (a1.2.length:Int)) (((aC (aE nr) a0 a1 a2 a3).2.getD (tN (a1.2.length:Int)) dF).1,((aC (aE nr) a0 a1 a2 a3).2.getD (tN (a1.2.length:Int)) dF).2.1,(((a1.2.length+1):Nat):Int),((aC (aE nr) a0 a1 a2 a3).2.getD (tN (a1.2.length:Int)) dF).2.2.2.1,((aC (aE nr) a0 a1 a2 a3).2.getD (tN (a1.2.length:Int)) dF).2.2.2.2.1,((aC (aE nr) a0 a1 a2 a3).2.getD (tN (a1.2.length:Int)) dF).2.2.2.2.2)).getD (tN (a1.2.length:Int)) dF).2.2.2.2.2))))
def kJ (a0:bV)(a1:ZL×cV)(a2:ZL)(a3:Int):ZL×cV:=aE (a2.length+1) a0 a1 a2 a3
theorem aTq:∀(nr:Nat) (l:jM) (t:TR) (ns:ZL) (leaf:Int),PGRW l ([],t.2) ns leaf->ns.length < nr->aE nr l t ns leaf=aB nr l ([],t.2) ns leaf
 | 0,_,_,_,_,_,h=>absurd h (dX _)
 | nr+1,l,t,ns,leaf,hp,hn=>by
  have h:=hp.rng;have hl:=hp.lf;simp only [aE,aB];by_cases h0:(ns.length:Int)<=leaf
  ·rw [bX h0,cond_true,cond_true];rfl
  ·rw [cA h0,cond_false,cond_false];have g2:2<=ns.length:=by omega
   have hs:=vW hp (aI l ns);have hf:=vV (n:=ns.length) oM;have hpt1:=bD (l:=aM l ns (aI l ns)) (a:=0) (b:=(((ns.length+1) / 2:Nat):Int)) oM;have hpt2:=bD (l:=aM l ns (aI l ns)) (a:=(((ns.length+1) / 2:Nat):Int)) (b:=(ns.length:Int)) oM;have e2:eF (aE nr) l t ns leaf=bM (aB nr) l ([],t.2) ns leaf:=aTq nr _ ([],_) _ _ (kX hp _ g2) (by rw [hs.1,hf,hpt1];omega);have h5:GRR _ (bM (aB nr) l ([],t.2) ns leaf) _:=kY nr _ _ _ _ (kX hp _ g2) (by rw [hs.1,hf,hpt1];omega);have e3:aC (aE nr) l t ns leaf=aA (aB nr) l ([],t.2) ns leaf:=by
    unfold aC aA fK;rw [e2];exact tM _ _ _ _ _ _ (pM hp _ g2 h5) (lss _) (by rw [hs.1,hf,hpt2];omega)
   rw [e3,e2]
theorem aGh (nr:Nat)(l:jM)(t:TR)(ns:ZL)(leaf:Int)(hp:PGRW l ([],t.2) ns leaf)(h:ns.length < nr):GRR ([],t.2) (aE nr l t ns leaf) ns:=by
 rw [aTq nr l t ns leaf hp h];exact kY nr _ _ _ _ hp h
theorem aH2:∀(nr:Nat) (a0:bV) (a1:ZL×cV) (a2:ZL) (a3:Int) (l0:a0.length<=2^63-1) (l1_1:a1.1.length<=2^63-1) (l1_2:a1.2.length<=2^63-1) (l2:a2.length<=2^63-1) (hp:PGRW a0 ([],a1.2) a2 a3),a2.length < nr->Con Tryz.prog 47 [(.s 0 0 a0.length 10),(.a [(.v (.slice none 0 0)),(.s 1 0 a1.2.length 8)]),(.s 2 0 a2.length 1),(iv a3)] [(.live false true (flat dI a0)),(.live true true (flat cR a1.2)),(.live false true (flat c3 a2))] (.a [(.s 3 0 (aE nr a0 a1 a2 a3).1.length 1),(.s 4 0 (aE nr a0 a1 a2 a3).2.length 8)]) [(.live true true (flat c3 (aE nr a0 a1 a2 a3).1)),(.live true true (flat cR (aE nr a0 a1 a2 a3).2))] [.un,.dead,.un]:=by
 intro nr
 induction nr with
 | zero=>intro a0 a1 a2 a3 l0 l1_1 l1_2 l2 hp hlt;exact absurd hlt (dX _)
 | succ nr ihr =>
 intro a0 a1 a2 a3 l0 l1_1 l1_2 l2 hp hlt;refine cS Tryz.func47 fun cx hcx=>?_
 have hpr:=hp.rng;have hpn:=hp.nds
 try dsimp only at hpr hpn
 try simp only [List.length_nil,Nat.zero_add] at hpr hpn
 have hpl:=hp.lf;have hpk:=aHz a0 a2;have hso:=vW hp (aI a0 a2);obtain⟨hso1,hso2⟩:=hso;have hhf:(W (tD (W ((((aM a0 a2 (aI a0 a2)).length:Nat):Int)+1)) 2))=(((a2.length+1) / 2:Nat):Int):=by rw [hso1];exact vV oM
 have hpt1:(Aw.part (aM a0 a2 (aI a0 a2)) 0 (W (tD (W ((((aM a0 a2 (aI a0 a2)).length:Nat):Int)+1)) 2))).length=(a2.length+1) / 2:=by rw [bD oM];omega
 have hpt2:(Aw.part (aM a0 a2 (aI a0 a2)) (W (tD (W ((((aM a0 a2 (aI a0 a2)).length:Nat):Int)+1)) 2)) (((aM a0 a2 (aI a0 a2)).length:Nat):Int)).length=a2.length - (a2.length+1) / 2:=by rw [bD oM];omega
 try (have _:=h0;simp only [List.length_append,List.length_cons,List.length_nil] at g1 g2 g3 f1 f2 f3)
 let t0:SL:=[.c [0,2] (nM a0 a2 0 oM oM hp.inr oM),.c [0,2] (nM a0 a2 1 oM oM hp.inr oM),.c [0,2] (nM a0 a2 2 oM oM hp.inr oM),.c [0,2] (aBv a0 a2 oM oM hp.inr oM),.c [6] (aTm (cU a0 a2) ((aR a0 a2 0),(aR a0 a2 1),(aR a0 a2 2)) oM),.p (show((flat cR a1.2).length=a1.2.length*8/\a1.2.length+1<=2 ^ 40/\(a1.2.length+1)*64<=2 ^ 47) from iS cC oM oM)];rw [aE];cases h0:(decide (((a2.length:Int):Int)<=a3))
 case true=>
  try (have _:=h0;simp only [List.length_append,List.length_cons,List.length_nil] at g1 g2 g3 f1 f2 f3)
  simp only [vF]
  try dsimp only [bN]
  try dsimp only
  rw [show flat cR (a1.2++[(0,(W (0+(a2.length:Int))),(-1),(-1),((aR a0 a2 0),(aR a0 a2 1),(aR a0 a2 2)),(fC a0 a1 a2 a3).1)])=(flat cR a1.2++[(iv 0),(iv (W (0+(a2.length:Int)))),(iv (-1)),(iv (-1)),(iv (aR a0 a2 0)),(iv (aR a0 a2 1)),(iv (aR a0 a2 2)),(iv (fC a0 a1 a2 a3).1)]) from bQ]
  try rw [show List.length (α:=Int×Int×Int×Int×Zt×Int) (a1.2++[(0,(W (0+(a2.length:Int))),(-1),(-1),((aR a0 a2 0),(aR a0 a2 1),(aR a0 a2 2)),(fC a0 a1 a2 a3).1)])=(a1.2.length+1) from by first | simp;done | omega]
  exact zE (t0++[.d h0,.p (show((flat c3 a2).length=a2.length*1/\(flat c3 a2).all SV.one=true/\a2.length<=2 ^ 40/\a2.length*8<=2 ^ 47) from by refine⟨?_,?_,?_,?_⟩<;>first | omega | exact mT (fun _=>rfl) | (simp [dD aF];done) | (simp [dD aF];omega))]) [] [1] [9,8] hcx oK
 have q0:=iF h0
 try have h2:2<=a2.length:=(fun _=>by omega) h0
 try have h5:GRR _ (eF (aE nr) a0 a1 a2 a3) _:=(fun _=>aGh nr a0 ([],_) _ a3 (kX hp _ h2) oM) h0
 try have h6:GRR _ (aC (aE nr) a0 a1 a2 a3) _:=(fun _=>kY _ _ _ _ _ (pM hp _ h2 h5) (lss _)) h0
 try have g1:=(fun _=>h5.ol) h0
 try have g2:=(fun _=>h5.lo) h0
 try have g3:=(fun _=>h5.hi) h0
 try have f1:=(fun _=>h6.ol) h0
 try have f2:=(fun _=>h6.lo) h0
 try have f3:=(fun _=>h6.hi) h0
 try (have _:=h0;simp only [List.length_append,List.length_cons,List.length_nil] at g1 g2 g3 f1 f2 f3)
 simp only [vF]
 try dsimp only [bN]
 try dsimp only
 rw [show flat cR (((aC (aE nr) a0 a1 a2 a3).2.set (tN (a1.2.length:Int)) (((aC (aE nr) a0 a1 a2 a3).2.getD (tN (a1.2.length:Int)) dF).1,((aC (aE nr) a0 a1 a2 a3).2.getD (tN (a1.2.length:Int)) dF).2.1,(((a1.2.length+1):Nat):Int),((aC (aE nr) a0 a1 a2 a3).2.getD (tN (a1.2.length:Int)) dF).2.2.2.1,((aC (aE nr) a0 a1 a2 a3).2.getD (tN (a1.2.length:Int)) dF).2.2.2.2.1,((aC (aE nr) a0 a1 a2 a3).2.getD (tN (a1.2.length:Int)) dF).2.2.2.2.2)).set (tN (a1.2.length:Int)) ((((aC (aE nr) a0 a1 a2 a3).2.set (tN (a1.2.length:Int)) (((aC (aE nr) a0 a1 a2 a3).2.getD (tN (a1.2.length:Int)) dF).1,((aC (aE nr) a0 a1 a2 a3).2.getD (tN (a1.2.length:Int)) dF).2.1,(((a1.2.length+1):Nat):Int),((aC (aE nr) a0 a1 a2 a3).2.getD (tN (a1.2.length:Int)) dF).2.2.2.1,((aC (aE nr) a0 a1 a2 a3).2.getD (tN (a1.2.length:Int)) dF).2.2.2.2.1,((aC (aE nr) a0 a1 a2 a3).2.getD (tN (a1.2.length:Int)) dF).2.2.2.2.2)).getD (tN (a1.2.length:Int)) dF).1,(((aC (aE nr) a0 a1 a2 a3).2.set (tN (a1.2.length:Int)) (((aC (aE nr) a0 a1 a2 a3).2.getD (tN (a1.2.length:Int)) dF).1,((aC (aE nr) a0 a1 a2 a3).2.getD (tN (a1.2.length:Int)) dF).2.1,(((a1.2.length+1):Nat):Int),((aC (aE nr) a0 a1 a2 a3).2.getD (tN (a1.2.length:Int)) dF).2.2.2.1,((aC (aE nr) a0 a1 a2 a3).2.getD (tN (a1.2.length:Int)) dF).2.2.2.2.1,((aC (aE nr) a0 a1 a2 a3).2.getD (tN (a1.2.length:Int)) dF).2.2.2.2.2)).getD (tN (a1.2.length:Int)) dF).2.1,(((aC (aE nr) a0 a1 a2 a3).2.set (tN (a1.2.length:Int)) (((aC (aE nr) a0 a1 a2 a3).2.getD (tN (a1.2.length:Int)) dF).1,((aC (aE nr) a0 a1 a2 a3).2.getD (tN (a1.2.length:Int)) dF).2.1,(((a1.2.length+1):Nat):Int),((aC (aE nr) a0 a1 a2 a3).2.getD (tN (a1.2.length:Int)) dF).2.2.2.1,((aC (aE nr) a0 a1 a2 a3).2.getD (tN (a1.2.length:Int)) dF).2.2.2.2.1,((aC (aE nr) a0 a1 a2 a3).2.getD (tN (a1.2.length:Int)) dF).2.2.2.2.2)).getD (tN (a1.2.length:Int)) dF).2.2.1,(((eF (aE nr) a0 a1 a2 a3).2.length:Nat):Int),(((aC (aE nr) a0 a1 a2 a3).2.set (tN (a1.2.length:Int)) (((aC (aE nr) a0 a1 a2 a3).2.getD (tN (a1.2.length:Int)) dF).1,((aC (aE nr) a0 a1 a2 a3).2.getD (tN (a1.2.length:Int)) dF).2.1,(((a1.2.length+1):Nat):Int),((aC (aE nr) a0 a1 a2 a3).2.getD (tN (a1.2.length:Int)) dF).2.2.2.1,((aC (aE nr) a0 a1 a2 a3).2.getD (tN (a1.2.length:Int)) dF).2.2.2.2.1,((aC (aE nr) a0 a1 a2 a3).2.getD (tN (a1.2.length:Int)) dF).2.2.2.2.2)).getD (tN (a1.2.length:Int)) dF).2.2.2.2.1,(((aC (aE nr) a0 a1 a2 a3).2.set (tN (a1.2.length:Int)) (((aC (aE nr) a0 a1 a2 a3).2.getD (tN (a1.2.length:Int)) dF).1,((aC (aE nr) a0 a1 a2 a3).2.getD (tN (a1.2.length:Int)) dF).2.1,(((a1.2.length+1):Nat):Int),((aC (aE nr) a0 a1 a2 a3).2.getD (tN (a1.2.length:Int)) dF).2.2.2.1,((aC (aE nr) a0 a1 a2 a3).2.getD (tN (a1.2.length:Int)) dF).2.2.2.2.1,((aC (aE nr) a0 a1 a2 a3).2.getD (tN (a1.2.length:Int)) dF).2.2.2.2.2)).getD (tN (a1.2.length:Int)) dF).2.2.2.2.2))=(splice (splice (flat cR (aC (aE nr) a0 a1 a2 a3).2) (0+tN (a1.2.length:Int)*8+2) [(iv (((a1.2.length+1):Nat):Int))]) (0+tN (a1.2.length:Int)*8+3) [(iv (((eF (aE nr) a0 a1 a2 a3).2.length:Nat):Int))]) from Eq.symm (by rw [show(splice (flat cR (aC (aE nr) a0 a1 a2 a3).2) (0+tN (a1.2.length:Int)*8+2) [(iv (((a1.2.length+1):Nat):Int))])=flat cR ((aC (aE nr) a0 a1 a2 a3).2.set (tN (a1.2.length:Int)) (((aC (aE nr) a0 a1 a2 a3).2.getD (tN (a1.2.length:Int)) dF).1,((aC (aE nr) a0 a1 a2 a3).2.getD (tN (a1.2.length:Int)) dF).2.1,(((a1.2.length+1):Nat):Int),((aC (aE nr) a0 a1 a2 a3).2.getD (tN (a1.2.length:Int)) dF).2.2.2.1,((aC (aE nr) a0 a1 a2 a3).2.getD (tN (a1.2.length:Int)) dF).2.2.2.2.1,((aC (aE nr) a0 a1 a2 a3).2.getD (tN (a1.2.length:Int)) dF).2.2.2.2.2)) from(bE cC oL (o:=2) (d:=dF) (Nb rfl) rfl)];exact bE cC oL (o:=3) (d:=dF) (Nb rfl) rfl)]
 try rw [show List.length (α:=Int×Int×Int×Int×Zt×Int) (((aC (aE nr) a0 a1 a2 a3).2.set (tN (a1.2.length:Int)) (((aC (aE nr) a0 a1 a2 a3).2.getD (tN (a1.2.length:Int)) dF).1,((aC (aE nr) a0 a1 a2 a3).2.getD (tN (a1.2.length:Int)) dF).2.1,(((a1.2.length+1):Nat):Int),((aC (aE nr) a0 a1 a2 a3).2.getD (tN (a1.2.length:Int)) dF).2.2.2.1,((aC (aE nr) a0 a1 a2 a3).2.getD (tN (a1.2.length:Int)) dF).2.2.2.2.1,((aC (aE nr) a0 a1 a2 a3).2.getD (tN (a1.2.length:Int)) dF).2.2.2.2.2)).set (tN (a1.2.length:Int)) ((((aC (aE nr) a0 a1 a2 a3).2.set (tN (a1.2.length:Int)) (((aC (aE nr) a0 a1 a2 a3).2.getD (tN (a1.2.length:Int)) dF).1,((aC (aE nr) a0 a1 a2 a3).2.getD (tN (a1.2.length:Int)) dF).2.1,(((a1.2.length+1):Nat):Int),((aC (aE nr) a0 a1 a2 a3).2.getD (tN (a1.2.length:Int)) dF).2.2.2.1,((aC (aE nr) a0 a1 a2 a3).2.getD (tN (a1.2.length:Int)) dF).2.2.2.2.1,((aC (aE nr) a0 a1 a2 a3).2.getD (tN (a1.2.length:Int)) dF).2.2.2.2.2)).getD (tN (a1.2.length:Int)) dF).1,(((aC (aE nr) a0 a1 a2 a3).2.set (tN (a1.2.length:Int)) (((aC (aE nr) a0 a1 a2 a3).2.getD (tN (a1.2.length:Int)) dF).1,((aC (aE nr) a0 a1 a2 a3).2.getD (tN (a1.2.length:Int)) dF).2.1,(((a1.2.length+1):Nat):Int),((aC (aE nr) a0 a1 a2 a3).2.getD (tN (a1.2.length:Int)) dF).2.2.2.1,((aC (aE nr) a0 a1 a2 a3).2.getD (tN (a1.2.length:Int)) dF).2.2.2.2.1,((aC (aE nr) a0 a1 a2 a3).2.getD (tN (a1.2.length:Int)) dF).2.2.2.2.2)).getD (tN (a1.2.length:Int)) dF).2.1,(((aC (aE nr) a0 a1 a2 a3).2.set (tN (a1.2.length:Int)) (((aC (aE nr) a0 a1 a2 a3).2.getD (tN (a1.2.length:Int)) dF).1,((aC (aE nr) a0 a1 a2 a3).2.getD (tN (a1.2.length:Int)) dF).2.1,(((a1.2.length+1):Nat):Int),((aC (aE nr) a0 a1 a2 a3).2.getD (tN (a1.2.length:Int)) dF).2.2.2.1,((aC (aE nr) a0 a1 a2 a3).2.getD (tN (a1.2.length:Int)) dF).2.2.2.2.1,((aC (aE nr) a0 a1 a2 a3).2.getD (tN (a1.2.length:Int)) dF).2.2.2.2.2)).getD (tN (a1.2.length:Int)) dF).2.2.1,(((eF (aE nr) a0 a1 a2 a3).2.length:Nat):Int),(((aC (aE nr) a0 a1 a2 a3).2.set (tN (a1.2.length:Int)) (((aC (aE nr) a0 a1 a2 a3).2.getD (tN (a1.2.length:Int)) dF).1,((aC (aE nr) a0 a1 a2 a3).2.getD (tN (a1.2.length:Int)) dF).2.1,(((a1.2.length+1):Nat):Int),((aC (aE nr) a0 a1 a2 a3).2.getD (tN (a1.2.length:Int)) dF).2.2.2.1,((aC (aE nr) a0 a1 a2 a3).2.getD (tN (a1.2.length:Int)) dF).2.2.2.2.1,((aC (aE nr) a0 a1 a2 a3).2.getD (tN (a1.2.length:Int)) dF).2.2.2.2.2)).getD (tN (a1.2.length:Int)) dF).2.2.2.2.1,(((aC (aE nr) a0 a1 a2 a3).2.set (tN (a1.2.length:Int)) (((aC (aE nr) a0 a1 a2 a3).2.getD (tN (a1.2.length:Int)) dF).1,((aC (aE nr) a0 a1 a2 a3).2.getD (tN (a1.2.length:Int)) dF).2.1,(((a1.2.length+1):Nat):Int),((aC (aE nr) a0 a1 a2 a3).2.getD (tN (a1.2.length:Int)) dF).2.2.2.1,((aC (aE nr) a0 a1 a2 a3).2.getD (tN (a1.2.length:Int)) dF).2.2.2.2.1,((aC (aE nr) a0 a1 a2 a3).2.getD (tN (a1.2.length:Int)) dF).2.2.2.2.2)).getD (tN (a1.2.length:Int)) dF).2.2.2.2.2))=(aC (aE nr) a0 a1 a2 a3).2.length from by first | simp;done | omega]
 exact zE (t0++[.d h0,.c [0,2] (aHx a0 a2 oM oM hp.inr oM),.c [0,2] (aHy a0 a2 (aI a0 a2) oM oM hp.inr oM),.p (show(2:Int)≠0 from by decide),.S aF (aM a0 a2 (aI a0 a2)) 0 (W (tD (W ((((aM a0 a2 (aI a0 a2)).length:Nat):Int)+1)) 2)) ((aM a0 a2 (aI a0 a2)).length),.c [0,8,10] (by have q:=(ihr a0 (([]:ZL),(a1.2++[(0,(W (0+(a2.length:Int))),(-1),(-1),((aR a0 a2 0),(aR a0 a2 1),(aR a0 a2 2)),(fC a0 a1 a2 a3).1)])) (Aw.part (aM a0 a2 (aI a0 a2)) 0 (W (tD (W ((((aM a0 a2 (aI a0 a2)).length:Nat):Int)+1)) 2))) a3 oM (by(try simp only [Lt]);omega) (by(try simp only [Lt]);omega) oM (by first | exact kX hp _ h2 | exact pM hp _ h2 h5) oM);(try dsimp only at q);rw [show flat cR (a1.2++[(0,(W (0+(a2.length:Int))),(-1),(-1),((aR a0 a2 0),(aR a0 a2 1),(aR a0 a2 2)),(fC a0 a1 a2 a3).1)])=(flat cR a1.2++[(iv 0),(iv (W (0+(a2.length:Int)))),(iv (-1)),(iv (-1)),(iv (aR a0 a2 0)),(iv (aR a0 a2 1)),(iv (aR a0 a2 2)),(iv (fC a0 a1 a2 a3).1)]) from bQ] at q;(try rw [show List.length (α:=Int×Int×Int×Int×Zt×Int) (a1.2++[(0,(W (0+(a2.length:Int))),(-1),(-1),((aR a0 a2 0),(aR a0 a2 1),(aR a0 a2 2)),(fC a0 a1 a2 a3).1)])=(a1.2.length+1) from by first | simp;done | omega] at q);(try rw [show List.length (α:=Int) (Aw.part (aM a0 a2 (aI a0 a2)) 0 (W (tD (W ((((aM a0 a2 (aI a0 a2)).length:Nat):Int)+1)) 2)))=(tN (W (tD (W ((((aM a0 a2 (aI a0 a2)).length:Nat):Int)+1)) 2)) - tN 0) from by first | simp;done | omega] at q);exact q),.S aF (aM a0 a2 (aI a0 a2)) (W (tD (W ((((aM a0 a2 (aI a0 a2)).length:Nat):Int)+1)) 2)) (((aM a0 a2 (aI a0 a2)).length:Nat):Int) ((aM a0 a2 (aI a0 a2)).length),.c [0,11,12,13] (by have q:=(aA6 a0 ((eF (aE nr) a0 a1 a2 a3).1,(eF (aE nr) a0 a1 a2 a3).2) (Aw.part (aM a0 a2 (aI a0 a2)) (W (tD (W ((((aM a0 a2 (aI a0 a2)).length:Nat):Int)+1)) 2)) (((aM a0 a2 (aI a0 a2)).length:Nat):Int)) a3 oM (by(try simp only [Lt]);omega) (by(try simp only [Lt]);omega) oM (by first | exact kX hp _ h2 | exact pM hp _ h2 h5));(try dsimp only at q);(try rw [show List.length (α:=Int) (Aw.part (aM a0 a2 (aI a0 a2)) (W (tD (W ((((aM a0 a2 (aI a0 a2)).length:Nat):Int)+1)) 2)) (((aM a0 a2 (aI a0 a2)).length:Nat):Int))=(tN (((aM a0 a2 (aI a0 a2)).length:Nat):Int) - tN (W (tD (W ((((aM a0 a2 (aI a0 a2)).length:Nat):Int)+1)) 2))) from by first | simp;done | omega] at q);exact q),.i (a1.2.length:Int) ((aC (aE nr) a0 a1 a2 a3).2.length),.p (show((0+tN (a1.2.length:Int)*8+2)+1<=(flat cR (aC (aE nr) a0 a1 a2 a3).2).length) from(dR cC oL (o:=2) (Nb rfl))),.i (a1.2.length:Int) ((aC (aE nr) a0 a1 a2 a3).2.length),.p (show((0+tN (a1.2.length:Int)*8+3)+1<=(splice (flat cR (aC (aE nr) a0 a1 a2 a3).2) (0+tN (a1.2.length:Int)*8+2) [(iv (((a1.2.length+1):Nat):Int))]).length) from(by rw [show(splice (flat cR (aC (aE nr) a0 a1 a2 a3).2) (0+tN (a1.2.length:Int)*8+2) [(iv (((a1.2.length+1):Nat):Int))])=flat cR ((aC (aE nr) a0 a1 a2 a3).2.set (tN (a1.2.length:Int)) (((aC (aE nr) a0 a1 a2 a3).2.getD (tN (a1.2.length:Int)) dF).1,((aC (aE nr) a0 a1 a2 a3).2.getD (tN (a1.2.length:Int)) dF).2.1,(((a1.2.length+1):Nat):Int),((aC (aE nr) a0 a1 a2 a3).2.getD (tN (a1.2.length:Int)) dF).2.2.2.1,((aC (aE nr) a0 a1 a2 a3).2.getD (tN (a1.2.length:Int)) dF).2.2.2.2.1,((aC (aE nr) a0 a1 a2 a3).2.getD (tN (a1.2.length:Int)) dF).2.2.2.2.2)) from(bE cC oL (o:=2) (d:=dF) (Nb rfl) rfl)];exact dR cC oL (o:=3) (Nb rfl)))]) [] [1] [14,15] hcx oK
theorem aKw (a0:bV)(a1:ZL×cV)(a2:ZL)(a3:Int)(l0:a0.length<=2^63-1)(l1_1:a1.1.length<=2^63-1)(l1_2:a1.2.length<=2^63-1)(l2:a2.length<=2^63-1)(hp:PGRW a0 ([],a1.2) a2 a3):Con Tryz.prog 47 [(.s 0 0 a0.length 10),(.a [(.v (.slice none 0 0)),(.s 1 0 a1.2.length 8)]),(.s 2 0 a2.length 1),(iv a3)] [(.live false true (flat dI a0)),(.live true true (flat cR a1.2)),(.live false true (flat c3 a2))] (.a [(.s 3 0 (kJ a0 a1 a2 a3).1.length 1),(.s 4 0 (kJ a0 a1 a2 a3).2.length 8)]) [(.live true true (flat c3 (kJ a0 a1 a2 a3).1)),(.live true true (flat cR (kJ a0 a1 a2 a3).2))] [.un,.dead,.un]:=aH2 (a2.length+1) a0 a1 a2 a3 l0 l1_1 l1_2 l2 hp (lss _)
def mL (a0:bV)(a1:ZL×cV)(a2:ZL)(a3:Int):=(yR (cU a0 a2) ((aR a0 a2 0),(aR a0 a2 1),(aR a0 a2 2)))
def dV (a0:bV)(a1:ZL×cV)(a2:ZL)(a3:Int):=(kJ a0 (([]:ZL),([(0,(W (0+(a2.length:Int))),(-1),(-1),((aR a0 a2 0),(aR a0 a2 1),(aR a0 a2 2)),(mL a0 a1 a2 a3).1)]:cV)) (Aw.part (aM a0 a2 (aI a0 a2)) 0 (W (tD (W ((((aM a0 a2 (aI a0 a2)).length:Nat):Int)+1)) 2))) a3)
def aD (a0:bV)(a1:ZL×cV)(a2:ZL)(a3:Int):=(fK a0 ((dV a0 a1 a2 a3).1,(dV a0 a1 a2 a3).2) (Aw.part (aM a0 a2 (aI a0 a2)) (W (tD (W ((((aM a0 a2 (aI a0 a2)).length:Nat):Int)+1)) 2)) (((aM a0 a2 (aI a0 a2)).length:Nat):Int)) a3)
def jL:Nat->bV->(ZL×cV)->ZL->(Int)->ZL×cV | 0,_,_,_,_=>dF | nr+1,a0,a1,a2,a3 => (bif (decide (((a2.length:Int):Int)<=a3))then(a2,([(0,(W (0+(a2.length:Int))),(-1),(-1),((aR a0 a2 0),(aR a0 a2 1),(aR a0 a2 2)),(mL a0 a1 a2 a3).1)]:cV))else((aD a0 a1 a2 a3).1,(((aD a0 a1 a2 a3).2.set (tN 0) (((aD a0 a1 a2 a3).2.getD (tN 0) dF).1,((aD a0 a1 a2 a3).2.getD (tN 0) dF).2.1,1,((aD a0 a1 a2 a3).2.getD (tN 0) dF).2.2.2.1,((aD a0 a1 a2 a3).2.getD (tN 0) dF).2.2.2.2.1,((aD a0 a1 a2 a3).2.getD (tN 0) dF).2.2.2.2.2)).set (tN 0) ((((aD a0 a1 a2 a3).2.set (tN 0) (((aD a0 a1 a2 a3).2.getD (tN 0) dF).1,((aD a0 a1 a2 a3).2.getD (tN 0) dF).2.1,1,((aD a0 a1 a2 a3).2.getD (tN 0) dF).2.2.2.1,((aD a0 a1 a2 a3).2.getD (tN 0) dF).2.2.2.2.1,((aD a0 a1 a2 a3).2.getD (tN 0) dF).2.2.2.2.2)).getD (tN 0) dF).1,(((aD a0 a1 a2 a3).2.set (tN 0) (((aD a0 a1 a2 a3).2.getD (tN 0) dF).1,((aD a0 a1 a2 a3).2.getD (tN 0) dF).2.1,1,((aD a0 a1 a2 a3).2.getD (tN 0) dF).2.2.2.1,((aD a0 a1 a2 a3).2.getD (tN 0) dF).2.2.2.2.1,((aD a0 a1 a2 a3).2.getD (tN 0) dF).2.2.2.2.2)).getD (tN 0) dF).2.1,(((aD a0 a1 a2 a3).2.set (tN 0) (((aD a0 a1 a2 a3).2.getD (tN 0) dF).1,((aD a0 a1 a2 a3).2.getD (tN 0) dF).2.1,1,((aD a0 a1 a2 a3).2.getD (tN 0) dF).2.2.2.1,((aD a0 a1 a2 a3).2.getD (tN 0) dF).2.2.2.2.1,((aD a0 a1 a2 a3).2.getD (tN 0) dF).2.2.2.2.2)).getD (tN 0) dF).2.2.1,(((dV a0 a1 a2 a3).2.length:Nat):Int),(((aD a0 a1 a2 a3).2.set (tN 0) (((aD a0 a1 a2 a3).2.getD (tN 0) dF).1,((aD a0 a1 a2 a3).2.getD (tN 0) dF).2.1,1,((aD a0 a1 a2 a3).2.getD (tN 0) dF).2.2.2.1,((aD a0 a1 a2 a3).2.getD (tN 0) dF).2.2.2.2.1,((aD a0 a1 a2 a3).2.getD (tN 0) dF).2.2.2.2.2)).getD (tN 0) dF).2.2.2.2.1,(((aD a0 a1 a2 a3).2.set (tN 0) (((aD a0 a1 a2 a3).2.getD (tN 0) dF).1,((aD a0 a1 a2 a3).2.getD (tN 0) dF).2.1,1,((aD a0 a1 a2 a3).2.getD (tN 0) dF).2.2.2.1,((aD a0 a1 a2 a3).2.getD (tN 0) dF).2.2.2.2.1,((aD a0 a1 a2 a3).2.getD (tN 0) dF).2.2.2.2.2)).getD (tN 0) dF).2.2.2.2.2))))
def iA (a0:bV)(a1:ZL×cV)(a2:ZL)(a3:Int):ZL×cV:=jL (a2.length+1) a0 a1 a2 a3
theorem aH3:∀(nr:Nat) (a0:bV) (a1:ZL×cV) (a2:ZL) (a3:Int) (l0:a0.length<=2^63-1) (l1_1:a1.1.length<=2^63-1) (l1_2:a1.2.length<=2^63-1) (l2:a2.length<=2^63-1) (hp:PGRW a0 ([],[]) a2 a3),a2.length < nr->Con Tryz.prog 47 [(.s 0 0 a0.length 10),(.a [(.v (.slice none 0 0)),(.v (.slice none 0 0))]),(.s 1 0 a2.length 1),(iv a3)] [(.live false true (flat dI a0)),(.live false true (flat c3 a2))] (.a [(.s 2 0 (jL nr a0 a1 a2 a3).1.length 1),(.s 3 0 (jL nr a0 a1 a2 a3).2.length 8)]) [(.live true true (flat c3 (jL nr a0 a1 a2 a3).1)),(.live true true (flat cR (jL nr a0 a1 a2 a3).2))]:=by
 intro nr
 induction nr with
 | zero=>intro a0 a1 a2 a3 l0 l1_1 l1_2 l2 hp hlt;exact absurd hlt (dX _)
 | succ nr ihr =>
 intro a0 a1 a2 a3 l0 l1_1 l1_2 l2 hp hlt;refine cS Tryz.func47 fun cx hcx=>?_
 have hpr:=hp.rng;have hpn:=hp.nds
 try dsimp only at hpr hpn
 try simp only [List.length_nil,Nat.zero_add] at hpr hpn
 have hpl:=hp.lf;have hpk:=aHz a0 a2;have hso:=vW hp (aI a0 a2);obtain⟨hso1,hso2⟩:=hso;have hhf:(W (tD (W ((((aM a0 a2 (aI a0 a2)).length:Nat):Int)+1)) 2))=(((a2.length+1) / 2:Nat):Int):=by rw [hso1];exact vV oM
 have hpt1:(Aw.part (aM a0 a2 (aI a0 a2)) 0 (W (tD (W ((((aM a0 a2 (aI a0 a2)).length:Nat):Int)+1)) 2))).length=(a2.length+1) / 2:=by rw [bD oM];omega
 have hpt2:(Aw.part (aM a0 a2 (aI a0 a2)) (W (tD (W ((((aM a0 a2 (aI a0 a2)).length:Nat):Int)+1)) 2)) (((aM a0 a2 (aI a0 a2)).length:Nat):Int)).length=a2.length - (a2.length+1) / 2:=by rw [bD oM];omega
 try (have _:=h0;simp only [List.length_append,List.length_cons,List.length_nil] at g1 g2 g3 f1 f2 f3)
 let t0:SL:=[.c [0,1] (nM a0 a2 0 oM oM hp.inr oM),.c [0,1] (nM a0 a2 1 oM oM hp.inr oM),.c [0,1] (nM a0 a2 2 oM oM hp.inr oM),.c [0,1] (aBv a0 a2 oM oM hp.inr oM),.c [5] (aTm (cU a0 a2) ((aR a0 a2 0),(aR a0 a2 1),(aR a0 a2 2)) oM)];rw [jL];cases h0:(decide (((a2.length:Int):Int)<=a3))
 case true=>
  try (have _:=h0;simp only [List.length_append,List.length_cons,List.length_nil] at g1 g2 g3 f1 f2 f3)
  try dsimp only [bN]
  try dsimp only
  exact rt (t0++[.d h0,.p (show((flat c3 a2).length=a2.length*1/\(flat c3 a2).all SV.one=true/\a2.length<=2 ^ 40/\a2.length*8<=2 ^ 47) from by refine⟨?_,?_,?_,?_⟩<;>first | omega | exact mT (fun _=>rfl) | (simp [dD aF];done) | (simp [dD aF];omega))]) [.sym 7 true]  [8,7] hcx oK
 have q0:=iF h0
 try have h2:2<=a2.length:=(fun _=>by omega) h0
 try have h5:GRR _ (dV a0 a1 a2 a3) _:=(fun _=>aGh _ a0 ([],_) _ a3 (kX (t:=([],[])) hp _ h2) (lss _)) h0
 try have h6:GRR _ (aD a0 a1 a2 a3) _:=(fun _=>kY _ _ _ _ _ (pM (t:=([],[])) hp _ h2 h5) (lss _)) h0
 try have g1:=(fun _=>h5.ol) h0
 try have g2:=(fun _=>h5.lo) h0
 try have g3:=(fun _=>h5.hi) h0
 try have f1:=(fun _=>h6.ol) h0
 try have f2:=(fun _=>h6.lo) h0
 try have f3:=(fun _=>h6.hi) h0
 try (have _:=h0;simp only [List.length_append,List.length_cons,List.length_nil] at g1 g2 g3 f1 f2 f3)
 simp only [vF]
 try dsimp only [bN]
 try dsimp only
 rw [show flat cR (((aD a0 a1 a2 a3).2.set (tN 0) (((aD a0 a1 a2 a3).2.getD (tN 0) dF).1,((aD a0 a1 a2 a3).2.getD (tN 0) dF).2.1,1,((aD a0 a1 a2 a3).2.getD (tN 0) dF).2.2.2.1,((aD a0 a1 a2 a3).2.getD (tN 0) dF).2.2.2.2.1,((aD a0 a1 a2 a3).2.getD (tN 0) dF).2.2.2.2.2)).set (tN 0) ((((aD a0 a1 a2 a3).2.set (tN 0) (((aD a0 a1 a2 a3).2.getD (tN 0) dF).1,((aD a0 a1 a2 a3).2.getD (tN 0) dF).2.1,1,((aD a0 a1 a2 a3).2.getD (tN 0) dF).2.2.2.1,((aD a0 a1 a2 a3).2.getD (tN 0) dF).2.2.2.2.1,((aD a0 a1 a2 a3).2.getD (tN 0) dF).2.2.2.2.2)).getD (tN 0) dF).1,(((aD a0 a1 a2 a3).2.set (tN 0) (((aD a0 a1 a2 a3).2.getD (tN 0) dF).1,((aD a0 a1 a2 a3).2.getD (tN 0) dF).2.1,1,((aD a0 a1 a2 a3).2.getD (tN 0) dF).2.2.2.1,((aD a0 a1 a2 a3).2.getD (tN 0) dF).2.2.2.2.1,((aD a0 a1 a2 a3).2.getD (tN 0) dF).2.2.2.2.2)).getD (tN 0) dF).2.1,(((aD a0 a1 a2 a3).2.set (tN 0) (((aD a0 a1 a2 a3).2.getD (tN 0) dF).1,((aD a0 a1 a2 a3).2.getD (tN 0) dF).2.1,1,((aD a0 a1 a2 a3).2.getD (tN 0) dF).2.2.2.1,((aD a0 a1 a2 a3).2.getD (tN 0) dF).2.2.2.2.1,((aD a0 a1 a2 a3).2.getD (tN 0) dF).2.2.2.2.2)).getD (tN 0) dF).2.2.1,(((dV a0 a1 a2 a3).2.length:Nat):Int),(((aD a0 a1 a2 a3).2.set (tN 0) (((aD a0 a1 a2 a3).2.getD (tN 0) dF).1,((aD a0 a1 a2 a3).2.getD (tN 0) dF).2.1,1,((aD a0 a1 a2 a3).2.getD (tN 0) dF).2.2.2.1,((aD a0 a1 a2 a3).2.getD (tN 0) dF).2.2.2.2.1,((aD a0 a1 a2 a3).2.getD (tN 0) dF).2.2.2.2.2)).getD (tN 0) dF).2.2.2.2.1,(((aD a0 a1 a2 a3).2.set (tN 0) (((aD a0 a1 a2 a3).2.getD (tN 0) dF).1,((aD a0 a1 a2 a3).2.getD (tN 0) dF).2.1,1,((aD a0 a1 a2 a3).2.getD (tN 0) dF).2.2.2.1,((aD a0 a1 a2 a3).2.getD (tN 0) dF).2.2.2.2.1,((aD a0 a1 a2 a3).2.getD (tN 0) dF).2.2.2.2.2)).getD (tN 0) dF).2.2.2.2.2))=(splice (splice (flat cR (aD a0 a1 a2 a3).2) (0+tN 0*8+2) [(iv 1)]) (0+tN 0*8+3) [(iv (((dV a0 a1 a2 a3).2.length:Nat):Int))]) from Eq.symm (by rw [show(splice (flat cR (aD a0 a1 a2 a3).2) (0+tN 0*8+2) [(iv 1)])=flat cR ((aD a0 a1 a2 a3).2.set (tN 0) (((aD a0 a1 a2 a3).2.getD (tN 0) dF).1,((aD a0 a1 a2 a3).2.getD (tN 0) dF).2.1,1,((aD a0 a1 a2 a3).2.getD (tN 0) dF).2.2.2.1,((aD a0 a1 a2 a3).2.getD (tN 0) dF).2.2.2.2.1,((aD a0 a1 a2 a3).2.getD (tN 0) dF).2.2.2.2.2)) from(bE cC oL (o:=2) (d:=dF) (Nb rfl) rfl)];exact bE cC oL (o:=3) (d:=dF) (Nb rfl) rfl)]
 try rw [show List.length (α:=Int×Int×Int×Int×Zt×Int) (((aD a0 a1 a2 a3).2.set (tN 0) (((aD a0 a1 a2 a3).2.getD (tN 0) dF).1,((aD a0 a1 a2 a3).2.getD (tN 0) dF).2.1,1,((aD a0 a1 a2 a3).2.getD (tN 0) dF).2.2.2.1,((aD a0 a1 a2 a3).2.getD (tN 0) dF).2.2.2.2.1,((aD a0 a1 a2 a3).2.getD (tN 0) dF).2.2.2.2.2)).set (tN 0) ((((aD a0 a1 a2 a3).2.set (tN 0) (((aD a0 a1 a2 a3).2.getD (tN 0) dF).1,((aD a0 a1 a2 a3).2.getD (tN 0) dF).2.1,1,((aD a0 a1 a2 a3).2.getD (tN 0) dF).2.2.2.1,((aD a0 a1 a2 a3).2.getD (tN 0) dF).2.2.2.2.1,((aD a0 a1 a2 a3).2.getD (tN 0) dF).2.2.2.2.2)).getD (tN 0) dF).1,(((aD a0 a1 a2 a3).2.set (tN 0) (((aD a0 a1 a2 a3).2.getD (tN 0) dF).1,((aD a0 a1 a2 a3).2.getD (tN 0) dF).2.1,1,((aD a0 a1 a2 a3).2.getD (tN 0) dF).2.2.2.1,((aD a0 a1 a2 a3).2.getD (tN 0) dF).2.2.2.2.1,((aD a0 a1 a2 a3).2.getD (tN 0) dF).2.2.2.2.2)).getD (tN 0) dF).2.1,(((aD a0 a1 a2 a3).2.set (tN 0) (((aD a0 a1 a2 a3).2.getD (tN 0) dF).1,((aD a0 a1 a2 a3).2.getD (tN 0) dF).2.1,1,((aD a0 a1 a2 a3).2.getD (tN 0) dF).2.2.2.1,((aD a0 a1 a2 a3).2.getD (tN 0) dF).2.2.2.2.1,((aD a0 a1 a2 a3).2.getD (tN 0) dF).2.2.2.2.2)).getD (tN 0) dF).2.2.1,(((dV a0 a1 a2 a3).2.length:Nat):Int),(((aD a0 a1 a2 a3).2.set (tN 0) (((aD a0 a1 a2 a3).2.getD (tN 0) dF).1,((aD a0 a1 a2 a3).2.getD (tN 0) dF).2.1,1,((aD a0 a1 a2 a3).2.getD (tN 0) dF).2.2.2.1,((aD a0 a1 a2 a3).2.getD (tN 0) dF).2.2.2.2.1,((aD a0 a1 a2 a3).2.getD (tN 0) dF).2.2.2.2.2)).getD (tN 0) dF).2.2.2.2.1,(((aD a0 a1 a2 a3).2.set (tN 0) (((aD a0 a1 a2 a3).2.getD (tN 0) dF).1,((aD a0 a1 a2 a3).2.getD (tN 0) dF).2.1,1,((aD a0 a1 a2 a3).2.getD (tN 0) dF).2.2.2.1,((aD a0 a1 a2 a3).2.getD (tN 0) dF).2.2.2.2.1,((aD a0 a1 a2 a3).2.getD (tN 0) dF).2.2.2.2.2)).getD (tN 0) dF).2.2.2.2.2))=(aD a0 a1 a2 a3).2.length from by first | simp;done | omega]
 exact rt (t0++[.d h0,.c [0,1] (aHx a0 a2 oM oM hp.inr oM),.c [0,1] (aHy a0 a2 (aI a0 a2) oM oM hp.inr oM),.p (show(2:Int)≠0 from by decide),.S aF (aM a0 a2 (aI a0 a2)) 0 (W (tD (W ((((aM a0 a2 (aI a0 a2)).length:Nat):Int)+1)) 2)) ((aM a0 a2 (aI a0 a2)).length),.c [0,7,9] (by have q:=(Con.flags (bs':=[(.live false true (flat dI a0)),(.live true false [(iv 0),(iv (W (0+(a2.length:Int)))),(iv (-1)),(iv (-1)),(iv (aR a0 a2 0)),(iv (aR a0 a2 1)),(iv (aR a0 a2 2)),(iv (mL a0 a1 a2 a3).1)]),(.live false true (flat c3 (Aw.part (aM a0 a2 (aI a0 a2)) 0 (W (tD (W ((((aM a0 a2 (aI a0 a2)).length:Nat):Int)+1)) 2)))))]) (aKw a0 (([]:ZL),([(0,(W (0+(a2.length:Int))),(-1),(-1),((aR a0 a2 0),(aR a0 a2 1),(aR a0 a2 2)),(mL a0 a1 a2 a3).1)]:cV)) (Aw.part (aM a0 a2 (aI a0 a2)) 0 (W (tD (W ((((aM a0 a2 (aI a0 a2)).length:Nat):Int)+1)) 2))) a3 oM (by(try simp only [Lt]);omega) (by(try simp only [Lt]);omega) oM (by first | exact kX hp _ h2 | exact pM hp _ h2 h5)) rfl ⟨jA (fun _=>rfl),jA (fun _=>rfl),jA (fun _=>rfl),trivial⟩);(try dsimp only at q);(try rw [show List.length (α:=Int) (Aw.part (aM a0 a2 (aI a0 a2)) 0 (W (tD (W ((((aM a0 a2 (aI a0 a2)).length:Nat):Int)+1)) 2)))=(tN (W (tD (W ((((aM a0 a2 (aI a0 a2)).length:Nat):Int)+1)) 2)) - tN 0) from by first | simp;done | omega] at q);exact q),.S aF (aM a0 a2 (aI a0 a2)) (W (tD (W ((((aM a0 a2 (aI a0 a2)).length:Nat):Int)+1)) 2)) (((aM a0 a2 (aI a0 a2)).length:Nat):Int) ((aM a0 a2 (aI a0 a2)).length),.c [0,10,11,12] (by have q:=(aA6 a0 ((dV a0 a1 a2 a3).1,(dV a0 a1 a2 a3).2) (Aw.part (aM a0 a2 (aI a0 a2)) (W (tD (W ((((aM a0 a2 (aI a0 a2)).length:Nat):Int)+1)) 2)) (((aM a0 a2 (aI a0 a2)).length:Nat):Int)) a3 oM (by(try simp only [Lt]);omega) (by(try simp only [Lt]);omega) oM (by first | exact kX hp _ h2 | exact pM hp _ h2 h5));(try dsimp only at q);(try rw [show List.length (α:=Int) (Aw.part (aM a0 a2 (aI a0 a2)) (W (tD (W ((((aM a0 a2 (aI a0 a2)).length:Nat):Int)+1)) 2)) (((aM a0 a2 (aI a0 a2)).length:Nat):Int))=(tN (((aM a0 a2 (aI a0 a2)).length:Nat):Int) - tN (W (tD (W ((((aM a0 a2 (aI a0 a2)).length:Nat):Int)+1)) 2))) from by first | simp;done | omega] at q);exact q),.i 0 ((aD a0 a1 a2 a3).2.length),.p (show((0+tN 0*8+2)+1<=(flat cR (aD a0 a1 a2 a3).2).length) from(dR cC oL (o:=2) (Nb rfl))),.i 0 ((aD a0 a1 a2 a3).2.length),.p (show((0+tN 0*8+3)+1<=(splice (flat cR (aD a0 a1 a2 a3).2) (0+tN 0*8+2) [(iv 1)]).length) from(by rw [show(splice (flat cR (aD a0 a1 a2 a3).2) (0+tN 0*8+2) [(iv 1)])=flat cR ((aD a0 a1 a2 a3).2.set (tN 0) (((aD a0 a1 a2 a3).2.getD (tN 0) dF).1,((aD a0 a1 a2 a3).2.getD (tN 0) dF).2.1,1,((aD a0 a1 a2 a3).2.getD (tN 0) dF).2.2.2.1,((aD a0 a1 a2 a3).2.getD (tN 0) dF).2.2.2.2.1,((aD a0 a1 a2 a3).2.getD (tN 0) dF).2.2.2.2.2)) from(bE cC oL (o:=2) (d:=dF) (Nb rfl) rfl)];exact dR cC oL (o:=3) (Nb rfl)))]) []  [13,14] hcx oK
theorem aKx (a0:bV)(a1:ZL×cV)(a2:ZL)(a3:Int)(l0:a0.length<=2^63-1)(l1_1:a1.1.length<=2^63-1)(l1_2:a1.2.length<=2^63-1)(l2:a2.length<=2^63-1)(hp:PGRW a0 ([],[]) a2 a3):Con Tryz.prog 47 [(.s 0 0 a0.length 10),(.a [(.v (.slice none 0 0)),(.v (.slice none 0 0))]),(.s 1 0 a2.length 1),(iv a3)] [(.live false true (flat dI a0)),(.live false true (flat c3 a2))] (.a [(.s 2 0 (iA a0 a1 a2 a3).1.length 1),(.s 3 0 (iA a0 a1 a2 a3).2.length 8)]) [(.live true true (flat c3 (iA a0 a1 a2 a3).1)),(.live true true (flat cR (iA a0 a1 a2 a3).2))]:=aH3 (a2.length+1) a0 a1 a2 a3 l0 l1_1 l1_2 l2 hp (lss _)
noncomputable def yS:=aU [1,1,0,1] [] (aV Tryz.f21) []
def aD7 (a0:bV)(a1:Int)(v2c:List SV)(v2n:Nat)(v3:Int):LS:=⟨gU 26 [(0,(.s 0 0 a0.length 10)),(1,(iv a1)),(4,(.p 1 0)),(5,(.s 2 0 v2n 1)),(6,(iv v3))],[(.live false true (flat dI a0)),(.live true false [(.v (.slice none 0 0)),(.v (.slice none 0 0))]),(.live true true v2c)]⟩
def mM (a0:bV)(a1:Int):ZL×Int->(ZL×Int)⊕(ZL×cV) | (v2,v3) => (bif (decide ((v3:Int) < (a0.length:Int)))then(.inl ((v2++[v3]),(v3+1)))else(bif (((a0.length:Int):Int) == 0)then(.inr (([]:ZL),([]:cV)))else(.inr ((iA a0 (([]:ZL),([]:cV)) v2 a1).1,(iA a0 (([]:ZL),([]:cV)) v2 a1).2))))
theorem aV9 (a0:bV)(a1:Int)(l0:a0.length<=2^63-1)(hl:a0.length<=96)(hf:1<=a1) {cx:Cx} (hcx:cx.base=1):∀(n:Nat) (v2:ZL) (v3:Int),(0<=v3)/\(v2.length=tN v3)/\(InR a0.length v2)/\(v3<=a0.length)/\(a0.length<=96)->tN ((a0.length:Int) - v3) < n->gG Tryz.f21 cx (.a [(.s 1 0 (aG (mM a0 a1) n (v2,v3)).1.length 1),(.s 2 0 (aG (mM a0 a1) n (v2,v3)).2.length 8)]) [(.live true true (flat c3 (aG (mM a0 a1) n (v2,v3)).1)),(.live true true (flat cR (aG (mM a0 a1) n (v2,v3)).2))] [] (.l yS.1 n::yS.2) (aD7 a0 a1 (flat c3 v2) v2.length v3):=by
 intro n
 induction n with|zero=>intro v2 v3 hi hn;exact absurd hn (dX _)|succ n ih=>?_
 intro v2 v3 hi hn;refine aN ?_;rw [aZ,mM];cases h0:(decide ((v3:Int) < (a0.length:Int)))
 case true=>have q0:=eS h0;refine bA n [.d h0,.p (show((flat c3 v2).length=v2.length*1/\v2.length+1<=2 ^ 40/\(v2.length+1)*8<=2 ^ 47) from iS aF oM oM)] [0,1,4,5,6] [1,4] hcx yS (aD7 a0 a1 (flat c3 v2++[(iv v3)]) (v2.length+1) (W (v3+1))) ?_;have z0:(W (v3+1))=(v3+1):=aH oM oM;have z1:(flat c3 v2++[(iv v3)])=_:=(bQ (c:=c3) (l:=v2) (m:=[v3])).symm;have z2:(v2.length+1)=_:=jN v2 [v3] rfl;rw [z0,z1,z2];exact ih _ _ (by and_intros<;>(try simp only [Lt])<;>first | omega | assumption | exact hi.2.1 | exact hi.2.2.1 | exact InR.swap hi.2.1 oM oM | exact InR.swap hr oM oM | exact InR.nil _ | exact hi.2.2.1.add oM) oM
 have q0:=iF h0;let t1:SL:=[.d h0];cases h1:(((a0.length:Int):Int) == 0)
 case true=>exact rt (t1++[.d h1]) [.cell 1 0 1,.cell 1 1 8] [3,4] hcx oK
 have q1:=ne_of_beq_false h1;exact rt (t1++[.d h1,.c [0,2] (aKx a0 (([]:ZL),([]:cV)) v2 a1 oM (by(try simp only [Lt]);omega) (by(try simp only [Lt]);omega) oM ⟨hi.2.2.1,by simp only [List.length_nil];omega,by simp only [List.length_nil];omega,hf⟩)]) [] [3,4] hcx oK
def mV (a0:bV)(a1:Int):ZL×cV := (aG (mM a0 a1) (tN ((a0.length:Int) - 0)+1) (([]:ZL),0))
theorem aXy (a0:bV)(a1:Int)(l0:a0.length<=2^63-1)(hl:a0.length<=96)(hf:1<=a1):Con Tryz.prog 21 [(.s 0 0 a0.length 10),(iv a1)] [(.live false true (flat dI a0))] (.a [(.s 1 0 (mV a0 a1).1.length 1),(.s 2 0 (mV a0 a1).2.length 8)]) [(.live true true (flat c3 (mV a0 a1).1)),(.live true true (flat cR (mV a0 a1).2))]:=by
 refine cS Tryz.func21 fun cx hcx=>?_
 refine en [] [.slot 5 1] [0,1,4,5,6] [1,2] hcx yS.1 yS.2 (aD7 a0 a1 (flat c3 ([]:ZL)) 0 0) (tN ((a0.length:Int) - 0)+1) oK ?_;exact aV9 a0 a1 l0 hl hf hcx (tN ((a0.length:Int) - 0)+1) ([]:ZL) 0 (by and_intros<;>(try simp only [Lt])<;>first | omega | assumption | exact hi.2.1 | exact hi.2.2.1 | exact InR.swap hi.2.1 oM oM | exact InR.swap hr oM oM | exact InR.nil _ | exact hi.2.2.1.add oM) oM
def iU (a0:bV)(a1:Int):(ZL×cV)×Int := (bif (((kQ a0):Int) != 0)then((([]:ZL),([]:cV)),(kQ a0))else(bif (decide ((a1:Int) < 1))then((([]:ZL),([]:cV)),1)else(bif (decide ((a1:Int) > 16))then((([]:ZL),([]:cV)),1)else(((mV a0 a1).1,(mV a0 a1).2),0))))
theorem bE7 (a0:bV)(a1:Int)(l0:a0.length<=2^63-1):Con Tryz.prog 8 [(.s 0 0 a0.length 10),(iv a1)] [(.live false true (flat dI a0))] (.t [(.a [(.s 1 0 (iU a0 a1).1.1.length 1),(.s 2 0 (iU a0 a1).1.2.length 8)]),(iv (iU a0 a1).2)]) [(.live true true (flat c3 (iU a0 a1).1.1)),(.live true true (flat cR (iU a0 a1).1.2))]:=by
 refine cS Tryz.func8 fun cx hcx=>?_
 let t0:SL:=[.c [0] (aRq a0 oM)];rw [iU];cases h0:(((kQ a0):Int) != 0)
 case true=>exact rt (t0++[.d h0]) [.cell 1 0 1,.cell 1 1 8] [2,3] hcx oK
 let t1:SL:=t0++[.d h0];cases h1:(decide ((a1:Int) < 1))
 case true=>exact rt (t1++[.d h1]) [.cell 1 0 1,.cell 1 1 8] [2,3] hcx oK
 have q1:=iF h1;let t2:SL:=t1++[.d h1];cases h2:(decide ((a1:Int) > 16))
 case true=>exact rt (t2++[.d h2]) [.cell 1 0 1,.cell 1 1 8] [2,3] hcx oK
 have q2:=iF h2;exact rt (t2++[.d h2,.c [0] (aXy a0 a1 oM (yQ (l:=a0) (bne_eq_false_iff_eq.1 h0)) oM)]) [] [2,3] hcx oK
noncomputable def rQ:=aU [1,1,0,1] [] (aV Tryz.f146) []
def tO (a0 a1:ZL)(v1:Int):LS:=⟨gU 26 [(0,(.s 0 0 a0.length 1)),(1,(.s 1 0 a1.length 1)),(5,(iv v1))],[(.live false true (flat c3 a0)),(.live false true (flat c3 a1))]⟩
def rR (a0 a1:ZL):Int->(Int)⊕(Bool) | v1 => (bif (decide ((v1:Int) < (a0.length:Int)))then(bif (((a0.getD (tN v1) dF):Int) != (a1.getD (tN v1) dF))then(.inr false)else(.inl (v1+1)))else(.inr true))
theorem aMw (a0 a1:ZL)(l0:a0.length<=2^63-1)(l1:a1.length<=2^63-1) {cx:Cx} (hcx:cx.base=2):∀(n:Nat) (v1:Int),(0<=v1)/\(a0.length=a1.length)->tN ((a0.length:Int) - v1) < n->gG Tryz.f146 cx (.v (.bool (aG (rR a0 a1) n v1))) [] [] (.l rQ.1 n::rQ.2) (tO a0 a1 v1):=by
 intro n
 induction n with|zero=>intro v1 hi hn;exact absurd hn (dX _)|succ n ih=>?_
 intro v1 hi hn;refine aN ?_;rw [aZ,rR];cases h0:(decide ((v1:Int) < (a0.length:Int)))
 case true=>
  have q0:=eS h0;let t1:SL:=[.d h0,.i v1 (a0.length),.L aF a0 v1 0 1,.i v1 (a1.length),.L aF a1 v1 0 1];cases h1:(((a0.getD (tN v1) dF):Int) != (a1.getD (tN v1) dF))
  case true=>exact rT (t1++[.d h1]) hcx
  refine bA n (t1++[.d h1]) [0,1,5] [] hcx rQ (tO a0 a1 (W (v1+1))) ?_;have z0:(W (v1+1))=(v1+1):=aH oM oM;rw [z0];exact ih _ oR oM
 exact rT [.d h0] hcx
def kZ (a0 a1:ZL):Bool := (bif (((a0.length:Int):Int) != (a1.length:Int))then false else(aG (rR a0 a1) (tN ((a0.length:Int) - 0)+1) 0))
theorem aTr (a0 a1:ZL)(l0:a0.length<=2^63-1)(l1:a1.length<=2^63-1):Con Tryz.prog 146 [(.s 0 0 a0.length 1),(.s 1 0 a1.length 1)] [(.live false true (flat c3 a0)),(.live false true (flat c3 a1))] (.v (.bool (kZ a0 a1))) []:=by
 refine cS Tryz.func146 fun cx hcx=>?_
 rw [kZ];cases h0:(((a0.length:Int):Int) != (a1.length:Int))
 case true=>exact rT [.d h0] hcx
 have q0:=bne_eq_false_iff_eq.1 h0;refine eN [.d h0] [0,1,5] [] hcx rQ (tO a0 a1 0) (tN ((a0.length:Int) - 0)+1) ?_;exact aMw a0 a1 l0 l1 hcx (tN ((a0.length:Int) - 0)+1) 0 oR oM
noncomputable def aH4:=aU [1,1,0,1] [] (aV Tryz.f102) []
def aH5 (a0 a1:ZL×cV)(v1:Int):LS:=⟨gU 39 [(2,(.p 4 0)),(3,(.p 5 0)),(5,(iv v1))],[(.live false true (flat c3 a0.1)),(.live false true (flat cR a0.2)),(.live false true (flat c3 a1.1)),(.live false true (flat cR a1.2)),(.live true false [(.s 0 0 a0.1.length 1),(.s 1 0 a0.2.length 8)]),(.live true false [(.s 2 0 a1.1.length 1),(.s 3 0 a1.2.length 8)])]⟩
def aH6 (a0 a1:ZL×cV):Int->(Int)⊕(Bool) | v1 => (bif (decide ((v1:Int) < (a0.2.length:Int)))then(bif (!((((a0.2.getD (tN v1) dF).1:Int) == (a1.2.getD (tN v1) dF).1)&&((((a0.2.getD (tN v1) dF).2.1:Int) == (a1.2.getD (tN v1) dF).2.1)&&((((a0.2.getD (tN v1) dF).2.2.1:Int) == (a1.2.getD (tN v1) dF).2.2.1)&&((((a0.2.getD (tN v1) dF).2.2.2.1:Int) == (a1.2.getD (tN v1) dF).2.2.2.1)&&(((((a0.2.getD (tN v1) dF).2.2.2.2.1.1:Int) == (a1.2.getD (tN v1) dF).2.2.2.2.1.1)&&((((a0.2.getD (tN v1) dF).2.2.2.2.1.2.1:Int) == (a1.2.getD (tN v1) dF).2.2.2.2.1.2.1)&&((((a0.2.getD (tN v1) dF).2.2.2.2.1.2.2:Int) == (a1.2.getD (tN v1) dF).2.2.2.2.1.2.2)&&true)))&&((((a0.2.getD (tN v1) dF).2.2.2.2.2:Int) == (a1.2.getD (tN v1) dF).2.2.2.2.2)&&true)))))))then(.inr false)else(.inl (v1+1)))else(.inr true))
theorem aZy (a0 a1:ZL×cV)(l0_1:a0.1.length<=2^63-1)(l0_2:a0.2.length<=2^63-1)(l1_1:a1.1.length<=2^63-1)(l1_2:a1.2.length<=2^63-1) {cx:Cx} (hcx:cx.base=4):∀(n:Nat) (v1:Int),(0<=v1)/\(a0.2.length=a1.2.length)->tN ((a0.2.length:Int) - v1) < n->gG Tryz.f102 cx (.v (.bool (aG (aH6 a0 a1) n v1))) [] [] (.l aH4.1 n::aH4.2) (aH5 a0 a1 v1):=by
 intro n
 induction n with|zero=>intro v1 hi hn;exact absurd hn (dX _)|succ n ih=>?_
 intro v1 hi hn;refine aN ?_;rw [aZ,aH6];cases h0:(decide ((v1:Int) < (a0.2.length:Int)))
 case true=>
  have q0:=eS h0;let t1:SL:=[.d h0,.i v1 (a0.2.length),.L cC a0.2 v1 0 8,.i v1 (a1.2.length),.L cC a1.2 v1 0 8];cases h1:(!((((a0.2.getD (tN v1) dF).1:Int) == (a1.2.getD (tN v1) dF).1)&&((((a0.2.getD (tN v1) dF).2.1:Int) == (a1.2.getD (tN v1) dF).2.1)&&((((a0.2.getD (tN v1) dF).2.2.1:Int) == (a1.2.getD (tN v1) dF).2.2.1)&&((((a0.2.getD (tN v1) dF).2.2.2.1:Int) == (a1.2.getD (tN v1) dF).2.2.2.1)&&(((((a0.2.getD (tN v1) dF).2.2.2.2.1.1:Int) == (a1.2.getD (tN v1) dF).2.2.2.2.1.1)&&((((a0.2.getD (tN v1) dF).2.2.2.2.1.2.1:Int) == (a1.2.getD (tN v1) dF).2.2.2.2.1.2.1)&&((((a0.2.getD (tN v1) dF).2.2.2.2.1.2.2:Int) == (a1.2.getD (tN v1) dF).2.2.2.2.1.2.2)&&true)))&&((((a0.2.getD (tN v1) dF).2.2.2.2.2:Int) == (a1.2.getD (tN v1) dF).2.2.2.2.2)&&true)))))))
  case true=>exact rT (t1++[.d h1]) hcx
  refine bA n (t1++[.d h1]) [2,3,5] [4,5] hcx aH4 (aH5 a0 a1 (W (v1+1))) ?_;have z0:(W (v1+1))=(v1+1):=aH oM oM;rw [z0];exact ih _ oR oM
 exact rT [.d h0] hcx
def aH7 (a0 a1:ZL×cV):Bool := (bif (!(kZ a0.1 a1.1))then false else(bif (((a0.2.length:Int):Int) != (a1.2.length:Int))then false else(aG (aH6 a0 a1) (tN ((a0.2.length:Int) - 0)+1) 0)))
theorem bE8 (a0 a1:ZL×cV)(l0_1:a0.1.length<=2^63-1)(l0_2:a0.2.length<=2^63-1)(l1_1:a1.1.length<=2^63-1)(l1_2:a1.2.length<=2^63-1):Con Tryz.prog 102 [(.a [(.s 0 0 a0.1.length 1),(.s 1 0 a0.2.length 8)]),(.a [(.s 2 0 a1.1.length 1),(.s 3 0 a1.2.length 8)])] [(.live false true (flat c3 a0.1)),(.live false true (flat cR a0.2)),(.live false true (flat c3 a1.1)),(.live false true (flat cR a1.2))] (.v (.bool (aH7 a0 a1))) []:=by
 refine cS Tryz.func102 fun cx hcx=>?_
 let t0:SL:=[.c [0,2] (aTr a0.1 a1.1 oM oM)];rw [aH7];cases h0:(!(kZ a0.1 a1.1))
 case true=>exact rT (t0++[.d h0]) hcx
 let t1:SL:=t0++[.d h0];cases h1:(((a0.2.length:Int):Int) != (a1.2.length:Int))
 case true=>exact rT (t1++[.d h1]) hcx
 have q1:=bne_eq_false_iff_eq.1 h1;refine eN (t1++[.d h1]) [2,3,5] [4,5] hcx aH4 (aH5 a0 a1 0) (tN ((a0.2.length:Int) - 0)+1) ?_;exact aZy a0 a1 l0_1 l0_2 l1_1 l1_2 hcx (tN ((a0.2.length:Int) - 0)+1) 0 oR oM
def VCH (l:jM):Prop:=l.length<=96/\∀i,i < l.length->vp (l.getD i dF).1=0/\(-100<=(l.getD i dF).2/\(l.getD i dF).2<=100)
theorem aKy {l:jM}:∀(d i n:Nat),d=l.length - i->i<=l.length->d < n->aG (kB l) n (i:Int)=0->∀j,i<=j->j < l.length->vp (l.getD j dF).1=0/\(-100<=(l.getD j dF).2/\(l.getD j dF).2<=100)
 | 0,i,n,hd,hi,hn,_,j,h1,h2=>absurd h2 oM
 | d+1,i,n,hd,hi,hn,h,j,h1,h2=>by
  obtain⟨n,rfl⟩:∃m,n=m+1:=⟨n - 1,by omega⟩;have e:kB l (i:Int)=bif (((F75 (l.getD i dF).1):Int) != 0) then .inr (F75 (l.getD i dF).1) else bif (!(F41 (l.getD i dF).2 (-100) 100)) then .inr 1 else .inl ((i+1:Nat):Int):=by
   simp only [kB,iB];rw [bX (show((i:Nat):Int) < (l.length:Int) by omega),cond_true];rfl
  cases hv:(((F75 (l.getD i dF).1):Int) != 0)
  case true=>rw [hv,cond_true] at e;rw [aL e] at h;rw [h] at hv;exact absurd hv (by decide)
  rw [hv,cond_false] at e;cases hw:(!(F41 (l.getD i dF).2 (-100) 100))
  case true=>rw [hw,cond_true] at e;rw [aL e] at h;exact absurd h (by decide)
  rw [hw,cond_false] at e;rw [aK e] at h;by_cases hj:j=i
  ·subst hj;refine⟨?_,?_⟩
   ·rw [←aVp];exact bne_eq_false_iff_eq.1 hv
   ·simp only [F41,Bool.not_eq_false'] at hw;by_cases h3:(l.getD j dF).2≥-100
    ·rw [bX h3,cond_true] at hw;exact⟨h3,eS hw⟩
    ·rw [cA h3,cond_false] at hw;cases hw
  ·exact aKy d (i+1) n oM oM oM h j oM h2
theorem aMx {l:jM} (h:iH l=0):VCH l:=by
 refine⟨uN h,fun i hi=>?_⟩;have hl:=uN h;unfold iH at h;rw [cA (show ¬(l.length:Int) > 96 by omega),cond_false] at h;exact aKy l.length 0 _ oM oM oM h i (Nat.zero_le _) hi
theorem aTs {l:jM} (h:VCH l) {i:Nat} (hi:i < l.length):bdP 64 (l.getD i dF).1:=(aRs (h.2 i hi).1).1
section
variable {l : jM} {ns : ZL}
theorem aKz {i:Nat} (hi:i < ns.length):(cW l ns).getD i dF=l.getD (tN (ns.getD i dF)) dF:=by
 rw [aMu];simp [gS,hi]
theorem aK0 (hl:ns.length<=1048576):∀(n i:Nat) (a1 a2 a3 b1 b2 b3:Int),ns.length - i < n ->
 aG (jW (cW l ns)) n ((i:Int),a1,a2,a3,b1,b2,b3) =
  (aG (dS l ns 0) n (a1,b1,(i:Int)),aG (dS l ns 1) n (a2,b2,(i:Int)),aG (dS l ns 2) n (a3,b3,(i:Int)))
 | 0,_,_,_,_,_,_,_,h=>absurd h (dX _)
 | n+1,i,a1,a2,a3,b1,b2,b3,h=>by
  have hm:(cW l ns).length=ns.length:=uO l ns;by_cases h1:i < ns.length
  ·have hg:=aKz (l:=l) h1;have e:jW (cW l ns) ((i:Int),a1,a2,a3,b1,b2,b3)=.inl (((i+1:Nat):Int),hP (hP (hP a1 (l.getD (tN (ns.getD i dF)) dF).1.1.1) (l.getD (tN (ns.getD i dF)) dF).1.2.1.1) (l.getD (tN (ns.getD i dF)) dF).1.2.2.1,hP (hP (hP a2 (l.getD (tN (ns.getD i dF)) dF).1.1.2.1) (l.getD (tN (ns.getD i dF)) dF).1.2.1.2.1) (l.getD (tN (ns.getD i dF)) dF).1.2.2.2.1,hP (hP (hP a3 (l.getD (tN (ns.getD i dF)) dF).1.1.2.2) (l.getD (tN (ns.getD i dF)) dF).1.2.1.2.2) (l.getD (tN (ns.getD i dF)) dF).1.2.2.2.2,
    bT (bT (bT b1 (l.getD (tN (ns.getD i dF)) dF).1.1.1) (l.getD (tN (ns.getD i dF)) dF).1.2.1.1) (l.getD (tN (ns.getD i dF)) dF).1.2.2.1,bT (bT (bT b2 (l.getD (tN (ns.getD i dF)) dF).1.1.2.1) (l.getD (tN (ns.getD i dF)) dF).1.2.1.2.1) (l.getD (tN (ns.getD i dF)) dF).1.2.2.2.1,bT (bT (bT b3 (l.getD (tN (ns.getD i dF)) dF).1.1.2.2) (l.getD (tN (ns.getD i dF)) dF).1.2.1.2.2) (l.getD (tN (ns.getD i dF)) dF).1.2.2.2.2):=by
    simp only [jW,iB,hg,hm];rw [bX oM,cond_true];rfl
   have r:∀k a b,dS l ns k (a,b,(i:Int))=.inl (hP (hP (hP a (fP (l.getD (tN (ns.getD i dF)) dF).1.1 k)) (fP (l.getD (tN (ns.getD i dF)) dF).1.2.1 k)) (fP (l.getD (tN (ns.getD i dF)) dF).1.2.2 k),
    bT (bT (bT b (fP (l.getD (tN (ns.getD i dF)) dF).1.1 k)) (fP (l.getD (tN (ns.getD i dF)) dF).1.2.1 k)) (fP (l.getD (tN (ns.getD i dF)) dF).1.2.2 k),((i+1:Nat):Int)):=fun k a b=>by
    simp only [dS,iB];rw [bX oM,cond_true];rfl
   rw [aK e,aK (r 0 a1 b1),aK (r 1 a2 b2),aK (r 2 a3 b3)];exact aK0 hl n (i+1) _ _ _ _ _ _ oM
  ·have e:jW (cW l ns) ((i:Int),a1,a2,a3,b1,b2,b3)=.inr (aKu a1 b1,aKu a2 b2,aKu a3 b3):=by
    simp only [jW,hm];rw [cA oM,cond_false];rfl
   have r:∀k a b,dS l ns k (a,b,(i:Int))=.inr (aKu a b):=fun k a b=>by
    simp only [dS];rw [cA oM,cond_false]
   rw [aL e,aL (r 0 a1 b1),aL (r 1 a2 b2),aL (r 2 a3 b3)]
theorem aZz (hv:VCH l)(hi:InR l.length ns)(h1:1<=ns.length)(hl:ns.length<=1048576):cI (cW l ns)=(aR l ns 0,aR l ns 1,aR l ns 2):=by
 have hm:(cW l ns).length=ns.length:=uO l ns;have hg:=aKz (l:=l) (ns:=ns) (i:=0) oM;have h0:=hi.at (i:=0) oM;have hb:=aTs hv (i:=tN (ns.getD 0 dF)) oM;unfold cI aR;rw [hm,show(tN 0)=0 from rfl,hg];obtain⟨n,hn⟩:∃n,tN ((ns.length:Int) - 0)+1=n+1:=⟨_,rfl⟩;rw [hn];have hnn:ns.length<=n:=by omega
 generalize hp:l.getD (tN (ns.getD 0 dF)) dF=p at hb hg ⊢
 -- the first round
 have e:jW (cW l ns) (0,p.1.1.1,p.1.1.2.1,p.1.1.2.2,p.1.1.1,p.1.1.2.1,p.1.1.2.2)=.inl (((1:Nat):Int),hP (hP (hP p.1.1.1 p.1.1.1) p.1.2.1.1) p.1.2.2.1,hP (hP (hP p.1.1.2.1 p.1.1.2.1) p.1.2.1.2.1) p.1.2.2.2.1,hP (hP (hP p.1.1.2.2 p.1.1.2.2) p.1.2.1.2.2) p.1.2.2.2.2,
  bT (bT (bT p.1.1.1 p.1.1.1) p.1.2.1.1) p.1.2.2.1,bT (bT (bT p.1.1.2.1 p.1.1.2.1) p.1.2.1.2.1) p.1.2.2.2.1,bT (bT (bT p.1.1.2.2 p.1.1.2.2) p.1.2.1.2.2) p.1.2.2.2.2):=by
  simp only [jW,show(tN 0)=0 from rfl,hg,hm];rw [bX oM,cond_true];rfl
 have r:∀k,dS l ns k (64,(-64),0)=.inl (hP (hP (hP 64 (fP p.1.1 k)) (fP p.1.2.1 k)) (fP p.1.2.2 k),
  bT (bT (bT (-64) (fP p.1.1 k)) (fP p.1.2.1 k)) (fP p.1.2.2 k),((1:Nat):Int)):=fun k=>by
  simp only [dS,show(tN 0)=0 from rfl,hp];rw [bX oM,cond_true];rfl
 have m1:∀x y z:Int,(-64<=x/\x<=64)->hP (hP (hP 64 x) y) z=hP (hP (hP x x) y) z:=fun x y z hx=>by
  congr 2;unfold hP;split<;>split<;>omega
 have m2:∀x y z:Int,(-64<=x/\x<=64)->bT (bT (bT (-64) x) y) z=bT (bT (bT x x) y) z:=fun x y z hx=>by
  congr 2;unfold bT;split<;>split<;>omega
 obtain⟨⟨hx,hy,hz⟩,_⟩:=hb;rw [aK e,aK (r 0),aK (r 1),aK (r 2),aK0 hl n 1 _ _ _ _ _ _ oM];rw [m1 _ _ _ (show -64<=fP p.1.1 0/\fP p.1.1 0<=64 from hx),m2 _ _ _ (show -64<=fP p.1.1 0/\fP p.1.1 0<=64 from hx),
  m1 _ _ _ (show -64<=fP p.1.1 1/\fP p.1.1 1<=64 from hy),m2 _ _ _ (show -64<=fP p.1.1 1/\fP p.1.1 1<=64 from hy),
  m1 _ _ _ (show -64<=fP p.1.1 2/\fP p.1.1 2<=64 from hz),m2 _ _ _ (show -64<=fP p.1.1 2/\fP p.1.1 2<=64 from hz)]
 rfl
theorem aO0 (hv:VCH l)(hi:InR l.length ns)(k:Int):∀(n i:Nat) (a b:Int),ns.length - i < n->(-64<=a/\a<=64)->(-64<=b/\b<=64)->-64<=aG (dS l ns k) n (a,b,(i:Int))/\aG (dS l ns k) n (a,b,(i:Int))<=64
 | 0,_,_,_,h,_,_=>absurd h (dX _)
 | n+1,i,a,b,h,ha,hb=>by
  by_cases h1:i < ns.length
  ·have h0:=hi.at h1;have hp:=aTs hv (i:=tN (ns.getD i dF)) oM;have r:dS l ns k (a,b,(i:Int))=.inl (hP (hP (hP a (fP (l.getD (tN (ns.getD i dF)) dF).1.1 k)) (fP (l.getD (tN (ns.getD i dF)) dF).1.2.1 k)) (fP (l.getD (tN (ns.getD i dF)) dF).1.2.2 k),
    bT (bT (bT b (fP (l.getD (tN (ns.getD i dF)) dF).1.1 k)) (fP (l.getD (tN (ns.getD i dF)) dF).1.2.1 k)) (fP (l.getD (tN (ns.getD i dF)) dF).1.2.2 k),((i+1:Nat):Int)):=by
    simp only [dS,iB];rw [bX oM,cond_true];rfl
   rw [aK r];have ax:∀p:Zt,bd 64 p->-64<=fP p k/\fP p k<=64:=fun p hp=>by
    unfold fP;rw [Bool.cond_eq_ite];split
    ·exact hp.1
    ·rw [Bool.cond_eq_ite];split
     ·exact hp.2.1
     ·exact hp.2.2
   have qa1:=ax _ hp.1;have qa2:=ax _ hp.2.1;have qa3:=ax _ hp.2.2;have mn:∀x y:Int,(-64<=x/\x<=64)->(-64<=y/\y<=64)->-64<=hP x y/\hP x y<=64:=fun x y hx hy=>by unfold hP;split<;>assumption
   have mx:∀x y:Int,(-64<=x/\x<=64)->(-64<=y/\y<=64)->-64<=bT x y/\bT x y<=64:=fun x y hx hy=>by unfold bT;split<;>assumption
   exact aO0 hv hi k n (i+1) _ _ oM (mn _ _ (mn _ _ (mn _ _ ha qa1) qa2) qa3) (mx _ _ (mx _ _ (mx _ _ hb qa1) qa2) qa3)
  ·have r:dS l ns k (a,b,(i:Int))=.inr (aKu a b):=by
    simp only [dS];rw [cA oM,cond_false]
   rw [aL r];unfold aKu;rw [aH oM oM,show(2:Int) ^ (min (tN 1) 64)=2 from by decide,Int.fdiv_eq_ediv_of_nonneg _ (by decide)];omega
theorem aAj (hv:VCH l)(hi:InR l.length ns)(k:Int):-64<=aR l ns k/\aR l ns k<=64 :=
 aO0 hv hi k _ 0 64 (-64) oM oM oM
theorem aZ0 (m:jM) {c:Zt} (hc:bd 64 c):aD0 m c=yR m c:=by
 obtain⟨h1,h2,h3⟩:=hc;have hW:W (0 - 64)=-64:=by decide
 have e1:F91 c 64=true:=by
  unfold F91 tL;rw [hW,bX h1.1,bX h1.2,bX h2.1,bX h2.2,bX h3.1,bX h3.2];rfl
 have sz:∀x:Int,(-64<=x/\x<=64)->F63 x<=64:=fun x hx=>by
  unfold F63;rw [aH (n:=0 - x) oM oM];split<;>omega
 have e2:zG c 64=true:=by
  unfold zG;rw [hW,bX (sz _ h1),bX (sz _ h2),bX (sz _ h3),bX (show c.1≥-64 from h1.1),bX (show c.2.1≥-64 from h2.1),bX (show c.2.2≥-64 from h3.1)];rfl
 have e3:sP m c=pK m c:=by
  unfold sP pK;rw [wW,e1,e2]
 have e4:yM m c=aBx m c:=by
  funext ⟨v1,v2⟩
  rfl
 unfold aD0 yR;rw [e3,e4]
def bCt (b:BU):Zt⊕Int->Zt⊕(BU×Int) | .inl s=>.inl s | .inr x=>.inr (b,x)
theorem aO1 {b:BU} (hb:b.1=l) {k:Int}:∀(n i:Nat) (v15 v16 lo hi:Int),ns.length - i < n ->
 aG (jK b ns) n (v15,v16,k,lo,hi,k,(i:Int))=bCt b (aG (fO l ns) n (v15,v16,k,lo,hi,(i:Int)))
 | 0,_,_,_,_,_,h=>absurd h (dX _)
 | n+1,i,v15,v16,lo,hi,h=>by
  have hk:∀x:Int,mU (b.1,b.2.1,(b.2.2.1,b.2.2.2)) x k=iL (l.getD (tN x) dF) k:=fun x=>by
   rw [aH0,←hb];rfl
  by_cases h1:i < ns.length
  ·have e:jK b ns (v15,v16,k,lo,hi,k,(i:Int))=.inl (v15,v16,k,hP lo (iL (l.getD (tN (ns.getD i dF)) dF) k),bT hi (iL (l.getD (tN (ns.getD i dF)) dF) k),k,((i+1:Nat):Int)):=by
    simp only [jK,hk,iB];rw [bX oM,cond_true];rfl
   have r:fO l ns (v15,v16,k,lo,hi,(i:Int))=.inl (v15,v16,k,hP lo (iL (l.getD (tN (ns.getD i dF)) dF) k),bT hi (iL (l.getD (tN (ns.getD i dF)) dF) k),((i+1:Nat):Int)):=by
    simp only [fO,iB];rw [bX oM,cond_true];rfl
   rw [aK e,aK r];exact aO1 hb n (i+1) _ _ _ _ oM
  ·have e:jK b ns (v15,v16,k,lo,hi,k,(i:Int))=.inr (bCt b (bif (decide (((W (hi - lo)):Int) > v16)) then .inl (k,(W (hi - lo)),k+1) else .inl (v15,v16,k+1))):=by
    simp only [jK];rw [cA oM,cond_false];cases decide (((W (hi - lo)):Int) > v16)<;>rfl
   have r:fO l ns (v15,v16,k,lo,hi,(i:Int))=.inr (bif (decide (((W (hi - lo)):Int) > v16)) then .inl (k,(W (hi - lo)),k+1) else .inl (v15,v16,k+1)):=by
    simp only [fO];rw [cA oM,cond_false];cases decide (((W (hi - lo)):Int) > v16)<;>rfl
   rw [aL e,aL r]
theorem aO2 {b:BU} (hb:b.1=l)(h1:1<=ns.length):∀(n:Nat) (v12 v13 k:Int),tN (3 - k) < n ->
 aG (jX b ns) n (v12,v13,k)=(b,aG (hF l ns) n (v12,v13,k))
 | 0,_,_,_,h=>absurd h (dX _)
 | n+1,v12,v13,k,h=>by
  have hk:∀x:Int,mU (b.1,b.2.1,(b.2.2.1,b.2.2.2)) x k=iL (l.getD (tN x) dF) k:=fun x=>by
   rw [aH0,←hb];rfl
  by_cases h3:k < 3
  ·generalize hK:iL (l.getD (tN (ns.getD (tN 0) dF)) dF) k=K;have e0:jX b ns (v12,v13,k)=aG (jK b ns) (tN ((ns.length:Int) - 0)+1) (v12,v13,k,K,K,k,((0:Nat):Int)):=by
    simp only [jX,hk,hK];rw [bX h3,cond_true];rfl
   have r0:hF l ns (v12,v13,k)=aG (fO l ns) (tN ((ns.length:Int) - 1)+1) (v12,v13,k,K,K,((1:Nat):Int)):=by
    simp only [hF,hK];rw [bX h3,cond_true];rfl
   have f0:tN ((ns.length:Int) - 0)+1=(tN ((ns.length:Int) - 1)+1)+1:=by omega
   have e1:jK b ns (v12,v13,k,K,K,k,((0:Nat):Int))=.inl (v12,v13,k,K,K,k,((1:Nat):Int)):=by
    simp only [jK,hk,iB];rw [show(tN 0)=0 from rfl] at hK;rw [bX oM,cond_true,hK,if_neg oM];rfl
   rw [f0,aK e1,aO1 hb _ 1 _ _ _ _ oM,←r0] at e0
   -- what a round brings
   have hr:∃x y,hF l ns (v12,v13,k)=.inl (x,y,k+1):=by
    rw [r0];have gen:∀(m i:Nat) (lo hi:Int),ns.length - i < m->∃x y,aG (fO l ns) m (v12,v13,k,lo,hi,(i:Int))=.inl (x,y,k+1):=by
     intro m
     induction m with|zero=>intro _ _ _ h;exact absurd h (dX _)|succ m ih=>?_
     intro i lo hi hm;by_cases hi1:i < ns.length
     ·have r:fO l ns (v12,v13,k,lo,hi,(i:Int))=.inl (v12,v13,k,hP lo (iL (l.getD (tN (ns.getD i dF)) dF) k),bT hi (iL (l.getD (tN (ns.getD i dF)) dF) k),((i+1:Nat):Int)):=by
       simp only [fO,iB];rw [bX oM,cond_true];rfl
      rw [aK r];exact ih _ _ _ oM
     ·have r:fO l ns (v12,v13,k,lo,hi,(i:Int))=.inr (bif (decide (((W (hi - lo)):Int) > v13)) then .inl (k,(W (hi - lo)),k+1) else .inl (v12,v13,k+1)):=by
       simp only [fO];rw [cA oM,cond_false];cases decide (((W (hi - lo)):Int) > v13)<;>rfl
      rw [aL r];cases decide (((W (hi - lo)):Int) > v13)
      ·exact⟨_,_,rfl⟩
      ·exact⟨_,_,rfl⟩
    exact gen _ 1 K K oM
   obtain⟨x,y,hr⟩:=hr;rw [hr] at e0;rw [aK (show _=Sum.inl (x,y,k+1) from e0),aK hr];exact aO2 hb h1 n _ _ (k+1) oM
  ·have e:jX b ns (v12,v13,k)=.inr (b,v12):=by
    simp only [jX];rw [cA h3,cond_false]
   have r:hF l ns (v12,v13,k)=.inr v12:=by
    simp only [hF];rw [cA h3,cond_false]
   rw [aL e,aL r]
theorem aZ1 {b:BU} (hb:b.1=l)(h1:1<=ns.length):aD3 b ns=(b,aI l ns) :=
 aO2 hb h1 _ _ _ _ oM
end
end Go.Proofs.YtlffahoikfahlaaGreat
namespace Go.Proofs.YtlffahoikfahlaaGreat
open Go.Proofs Go.Aw Go.RowKit
set_option maxRecDepth 100000
abbrev NDE:=Int×Int×Int×Int×Zt×Int
def aWa (l:jM)(ns:ZL):Zt:=(aR l ns 0,aR l ns 1,aR l ns 2)
def ndR (l:jM)(ns:ZL)(fr lt rt:Int):NDE:=(fr,fr+ns.length,lt,rt,aWa l ns,(yR (cU l ns) (aWa l ns)).1)
def GT (l:jM)(leaf:Int):Nat->ZL->Int->Int->ZL×List NDE
 | 0,_,_,_=>([],[])
 | n+1,ns,fr,at_ =>
  if(ns.length:Int)<=leaf then(ns,[ndR l ns fr (-1) (-1)]) else
   let s:=rA l (aI l ns) ns;let h:=(ns.length+1) / 2;let a:=GT l leaf n (s.take h) fr (at_+1);let b:=GT l leaf n (s.drop h) (fr+h) (at_+1+a.2.length)
   (a.1++b.1,ndR l ns fr (at_+1) (at_+1+a.2.length)::(a.2++b.2))
theorem nN {l:jM} {leaf:Int} {n:Nat} {ns:ZL} {fr a:Int} (h:(ns.length:Int)<=leaf):GT l leaf (n+1) ns fr a=(ns,[ndR l ns fr (-1) (-1)]):=by
 rw [GT,if_pos h]
theorem nO {l:jM} {leaf:Int} {n:Nat} {ns:ZL} {fr a:Int} (h:¬(ns.length:Int)<=leaf):GT l leaf (n+1) ns fr a =
 ((GT l leaf n ((rA l (aI l ns) ns).take ((ns.length+1) / 2)) fr (a+1)).1++(GT l leaf n ((rA l (aI l ns) ns).drop ((ns.length+1) / 2)) (fr+((ns.length+1) / 2:Nat)) (a+1+(GT l leaf n ((rA l (aI l ns) ns).take ((ns.length+1) / 2)) fr (a+1)).2.length)).1,
   ndR l ns fr (a+1) (a+1+(GT l leaf n ((rA l (aI l ns) ns).take ((ns.length+1) / 2)) fr (a+1)).2.length)::((GT l leaf n ((rA l (aI l ns) ns).take ((ns.length+1) / 2)) fr (a+1)).2++(GT l leaf n ((rA l (aI l ns) ns).drop ((ns.length+1) / 2)) (fr+((ns.length+1) / 2:Nat)) (a+1+(GT l leaf n ((rA l (aI l ns) ns).take ((ns.length+1) / 2)) fr (a+1)).2.length)).2)):=by
 rw [GT,if_neg h]
theorem aTt {α:Type} (pre post:List α)(x y:α):(pre++x::post).set pre.length y=pre++y::post:=by
 rw [List.set_append_right _ _ (Nat.le_refl _),Nat.sub_self];rfl
theorem aO3 {α:Type} [Inhabited α] (pre post:List α)(x:α):(pre++x::post).getD pre.length dF=x:=by
 rw [gS,List.getElem?_append_right (Nat.le_refl _),Nat.sub_self];rfl
theorem aXz {s:ZL} {h:Nat}:Aw.part s 0 (h:Int)=s.take h:=by unfold Aw.part;simp
theorem bCu {s:ZL} {h:Nat}:Aw.part s (h:Int) (s.length:Int)=s.drop h:=by
 unfold Aw.part;rw [iB,iB];exact List.take_of_length_le (by rw [List.length_drop];exact Nat.le_refl _)
theorem aH8:∀(nr:Nat) (l:jM) (t:TR) (ns:ZL) (leaf:Int),PGRW l t ns leaf->ns.length < nr ->
 aB nr l t ns leaf=(t.1++(GT l leaf nr ns t.1.length t.2.length).1,t.2++(GT l leaf nr ns t.1.length t.2.length).2)
 | 0,_,_,_,_,_,h=>absurd h (dX _)
 | nr+1,l,t,ns,leaf,hp,hn=>by
  have h:=hp.rng;have hl:=hp.lf;have hnd:=hp.nds;simp only [aB];have hW:W ((t.1.length:Int)+(ns.length:Int))=(t.1.length:Int)+ns.length:=aH oM oM;by_cases h0:(ns.length:Int)<=leaf
  ·rw [bX h0,cond_true,nN h0,hW];rfl
  ·rw [cA h0,cond_false,nO h0];have g2:2<=ns.length:=by omega
   have hs:=vW hp (aI l ns);have hf:=vV (n:=ns.length) oM;have hso:=aTp (l:=l) (k:=aI l ns) (ns:=ns) oM;have hsl:=pL l (aI l ns) ns;have hpt1:=bD (l:=aM l ns (aI l ns)) (a:=0) (b:=(((ns.length+1) / 2:Nat):Int)) oM;have hpt2:=bD (l:=aM l ns (aI l ns)) (a:=(((ns.length+1) / 2:Nat):Int)) (b:=(ns.length:Int)) oM;have h5:GRR _ (bM (aB nr) l t ns leaf) _:=kY nr _ _ _ _ (kX hp _ g2) (by rw [hs.1,hf,hpt1];omega);have h5o:=h5.ol;rw [hs.1,hf,hpt1] at h5o;dsimp only at h5o;have e2:bM (aB nr) l t ns leaf=_:=aH8 nr _ _ _ _ (kX hp _ g2) (by rw [hs.1,hf,hpt1];omega);have e3:aA (aB nr) l t ns leaf=_:=aH8 nr _ _ _ _ (pM hp _ g2 h5) (by rw [hs.1,hf,hpt2];omega);have hf':W (tD (W ((((rA l (aI l ns) ns).length:Nat):Int)+1)) 2)=(((ns.length+1) / 2:Nat):Int):=by rw [hsl];exact hf
   rw [hso,hf',aXz] at e2;rw [hso,hf',bCu] at e3;rw [e2] at h5o e3;simp only [List.length_append,List.length_cons,List.length_nil,Nat.zero_add,Int.natCast_add,Int.natCast_one] at e2 e3 h5o;have ho1:(GT l leaf nr ((rA l (aI l ns) ns).take ((ns.length+1) / 2)) t.1.length (t.2.length+1)).1.length=(ns.length+1) / 2:=by omega
   rw [ho1] at e3;rw [e3,e2];simp only [iB,List.append_assoc,List.cons_append,List.nil_append,aTt,aO3,hW,List.length_append,List.length_cons,Int.natCast_add,Int.natCast_one];rw [show(t.2.length:Int)+((GT l leaf nr ((rA l (aI l ns) ns).take ((ns.length+1) / 2)) t.1.length (t.2.length+1)).2.length+1)=t.2.length+1+(GT l leaf nr ((rA l (aI l ns) ns).take ((ns.length+1) / 2)) t.1.length (t.2.length+1)).2.length by omega];rfl
theorem aD8 (l:jM) {leaf:Int} (hl:1<=leaf):∀(n:Nat) (ns:ZL) (fr a:Int),ns.length < n->(GT l leaf n ns fr a).1.length=ns.length
 | 0,_,_,_,h=>absurd h (dX _)
 | n+1,ns,fr,a,h=>by
  by_cases h0:(ns.length:Int)<=leaf
  ·rw [nN h0]
  ·rw [nO h0];have hsl:=pL l (aI l ns) ns;simp only [List.length_append];rw [aD8 l hl n _ _ _ (by rw [List.length_take,hsl];omega),aD8 l hl n _ _ _ (by rw [List.length_drop,hsl];omega),List.length_take,List.length_drop,hsl];omega
theorem aO4 (pre s post:ZL) {i k:Int} (h:Nat)(hi:i=pre.length)(hk:k=i+h)(hh:h<=s.length):Aw.part (pre++(s++post)) i k=s.take h:=by
 unfold Aw.part;rw [hk,hi,show((pre.length:Int)+(h:Int)).toNat=pre.length+h by omega,iB,List.drop_append_of_le_length (Nat.le_refl _),List.drop_length,List.nil_append,show pre.length+h - pre.length=h by omega,List.take_append_of_le_length hh]
theorem aMy:∀(nr:Nat) (b:BU) (i k:Int),PADD b i k->VCH b.1->tN (k - i) < nr ->
 cD nr b i k=((b.2.2.2.length:Int),b.1,b.2.1,b.2.2.1.take i.toNat++((GT b.1 b.2.1 nr (Aw.part b.2.2.1 i k) i b.2.2.2.length).1++b.2.2.1.drop k.toNat),b.2.2.2++(GT b.1 b.2.1 nr (Aw.part b.2.2.1 i k) i b.2.2.2.length).2)
 | 0,_,_,_,_,_,h=>absurd h (dX _)
 | nr+1,b,i,k,hp,hv,hn=>by
  have h:=hp.rng;have hn2:=hp.nds;have hl:=hp.lf;have hW:W (k - i)=k - i:=aH oM oM;have hpl:=bD (l:=b.2.2.1) (a:=i) (b:=k) oM;have hir:=hp.inr.part i k;have hcen:cI (dQ b i k)=aWa b.1 (Aw.part b.2.2.1 i k):=aZz hv hir (by rw [hpl];omega) (by rw [hpl];omega);have hrad:(iK b i k).1=(yR (cU b.1 (Aw.part b.2.2.1 i k)) (aWa b.1 (Aw.part b.2.2.1 i k))).1:=by
   unfold iK;rw [hcen,aZ0 _ ⟨aAj hv hir 0,aAj hv hir 1,aAj hv hir 2⟩];rfl
  have hnd:∀x y,((i,k,x,y,cI (dQ b i k),(iK b i k).1):NDE)=ndR b.1 (Aw.part b.2.2.1 i k) i x y:=fun x y=>by
   unfold ndR;rw [hcen,hrad,hpl,show i+((tN k - tN i:Nat):Int)=k by omega]
  simp only [cD];by_cases h0:W (k - i) > b.2.1
  ·rw [bX h0,cond_true,nO (by rw [hpl];omega)];have h2:2<=k - i:=by omega
   have hm:=aD4 ⟨h.1,h.2.1,by omega⟩;have hax:(aKq b i k).2=aI b.1 (Aw.part b.2.2.1 i k):=by
    unfold aKq;exact congrArg Prod.snd (aZ1 (l:=b.1) (b:=(b.1,b.2.1,b.2.2.1,b.2.2.2++[(i,k,(-1),(-1),(cI (dQ b i k)),(iK b i k).1)])) rfl (by rw [hpl];omega))
   have hor:aA4 b i k=b.2.2.1.take i.toNat++(rA b.1 (aI b.1 (Aw.part b.2.2.1 i k)) (Aw.part b.2.2.1 i k)++b.2.2.1.drop k.toNat):=by
    unfold aA4;rw [aZx oM,hax,List.append_assoc,show i.toNat+(k.toNat - i.toNat)=k.toNat by omega];rfl
   have h5:ADDR _ (fN (cD nr) b i k).2 i _:=yN nr _ _ _ (aP9 hp h2) (by rw [hm];omega);have e5:fN (cD nr) b i k=_:=aMy nr _ _ _ (aP9 hp h2) hv (by rw [hm];omega);have e6:aW (cD nr) b i k=_:=aMy nr _ _ _ (aTj hp (aA5 hp).1 h2 h5) hv (by rw [hm];omega);have hsl:=pL b.1 (aI b.1 (Aw.part b.2.2.1 i k)) (Aw.part b.2.2.1 i k);rw [hm,hnd] at e5;generalize hs:rA b.1 (aI b.1 (Aw.part b.2.2.1 i k)) (Aw.part b.2.2.1 i k)=s at hor hsl e5 e6 ⊢;generalize hh:((Aw.part b.2.2.1 i k).length+1) / 2=hf at e5 e6 ⊢;have hfe:(i+(k - i+1) / 2)=i+(hf:Int):=by rw [←hh,hpl];omega
   have hsn:s.length=(k - i).toNat:=by rw [hsl,hpl];omega
   have hfs:hf<=s.length:=by rw [←hh,hpl,hsn];omega
   have htk:(b.2.2.1.take i.toNat).length=i.toNat:=by rw [List.length_take];omega
   dsimp only at e5;have d1:(b.2.2.1.take i.toNat++(s++b.2.2.1.drop k.toNat)).take i.toNat=b.2.2.1.take i.toNat:=by
    rw [List.take_append_of_le_length (by rw [htk];exact Nat.le_refl _),List.take_of_length_le (by rw [htk];exact Nat.le_refl _)]
   have d2:(b.2.2.1.take i.toNat++(s++b.2.2.1.drop k.toNat)).drop (i+(hf:Int)).toNat=s.drop hf++b.2.2.1.drop k.toNat:=by
    rw [List.drop_append,List.drop_of_length_le (by rw [htk];omega),List.nil_append,htk,show(i+(hf:Int)).toNat - i.toNat=hf by omega,List.drop_append_of_le_length hfs]
   have g1:=aD8 b.1 hl nr (s.take hf) i (((b.2.2.2++[ndR b.1 (Aw.part b.2.2.1 i k) i (-1) (-1)]).length:Nat):Int) (by rw [List.length_take,hsn];have:=hn;rw [←hh,hpl];omega);have g2:=aD8 b.1 hl nr (s.drop hf) (i+(hf:Int)) ((((b.2.2.2++[ndR b.1 (Aw.part b.2.2.1 i k) i (-1) (-1)])++(GT b.1 b.2.1 nr (s.take hf) i (((b.2.2.2++[ndR b.1 (Aw.part b.2.2.1 i k) i (-1) (-1)]).length:Nat):Int)).2).length:Nat):Int) (by rw [List.length_drop,hsn];have:=hn;rw [←hh,hpl];omega);rw [hor,hfe,aO4 (b.2.2.1.take i.toNat) s (b.2.2.1.drop k.toNat) hf (by rw [htk];omega) rfl hfs,d1,d2] at e5;rw [e5,hm,hfe] at e6;dsimp only at e6;rw [←List.append_assoc (List.take i.toNat b.2.2.1)] at e6;have hl1:(b.2.2.1.take i.toNat++(GT b.1 b.2.1 nr (s.take hf) i (((b.2.2.2++[ndR b.1 (Aw.part b.2.2.1 i k) i (-1) (-1)]).length:Nat):Int)).1).length=i.toNat+hf:=by
    rw [List.length_append,htk,g1,List.length_take];omega
   rw [aO4 _ (s.drop hf) (b.2.2.1.drop k.toNat) (s.drop hf).length (by rw [hl1];omega) (by rw [List.length_drop,hsn];omega) (Nat.le_refl _),List.take_length] at e6;have d3:∀x y z:ZL,x.length=i.toNat+hf->(x++(y++z)).take (i+(hf:Int)).toNat=x:=fun x y z hx=>by
    rw [show(i+(hf:Int)).toNat=x.length by omega,List.take_append_of_le_length (Nat.le_refl _),List.take_length]
   have d4:∀x y z:ZL,x.length=i.toNat+hf->y.length=s.length - hf->(x++(y++z)).drop k.toNat=z:=fun x y z hx hy=>by
    rw [←List.append_assoc,show k.toNat=(x++y).length by rw [List.length_append,hx,hy,hsn];omega,List.drop_append_of_le_length (Nat.le_refl _),List.drop_length,List.nil_append]
   rw [d3 _ _ _ hl1,d4 _ _ _ hl1 (by rw [List.length_drop])] at e6;rw [e6,e5];simp only [iB,List.append_assoc,List.cons_append,List.nil_append,aTt,aO3,List.length_append,List.length_cons,List.length_nil,Nat.zero_add,Int.natCast_add,Int.natCast_one];rw [show(b.2.2.2.length:Int)+((GT b.1 b.2.1 nr (s.take hf) i ((b.2.2.2.length:Int)+1)).2.length+1)=b.2.2.2.length+1+(GT b.1 b.2.1 nr (s.take hf) i ((b.2.2.2.length:Int)+1)).2.length by omega];rfl
  ·rw [cA h0,cond_false,nN (by rw [hpl];omega),hnd];dsimp only;rw [←List.append_assoc,List.append_assoc];have:b.2.2.1.take i.toNat++(Aw.part b.2.2.1 i k++b.2.2.1.drop k.toNat)=b.2.2.1:=by
    unfold Aw.part;have e:b.2.2.1.drop k.toNat=(b.2.2.1.drop i.toNat).drop (k.toNat - i.toNat):=by rw [List.drop_drop,show i.toNat+(k.toNat - i.toNat)=k.toNat by omega]
    rw [e,List.take_append_drop,List.take_append_drop]
   rw [this]
theorem bCv (l:jM)(t:TR)(ns:ZL)(leaf:Int)(hp:PGRW l ([],[]) ns leaf):iA l t ns leaf=fK l ([],[]) ns leaf:=by
 have h:=hp.rng;have hl:=hp.lf;unfold iA fK;simp only [jL,aB];by_cases h0:(ns.length:Int)<=leaf
 ·rw [bX h0,cond_true,cond_true];rfl
 ·rw [cA h0,cond_false,cond_false];have g2:2<=ns.length:=by omega
  have hs:=vW hp (aI l ns);have hf:=vV (n:=ns.length) oM;have hpt1:=bD (l:=aM l ns (aI l ns)) (a:=0) (b:=(((ns.length+1) / 2:Nat):Int)) oM;have hpt2:=bD (l:=aM l ns (aI l ns)) (a:=(((ns.length+1) / 2:Nat):Int)) (b:=(ns.length:Int)) oM;have e2:dV l t ns leaf=bM (aB ns.length) l ([],[]) ns leaf:=by
   unfold dV bM kJ;refine(aTq _ l ([],_) _ leaf (kX (t:=([],[])) hp _ g2) (lss _)).trans ?_;exact tM _ _ _ _ _ _ (kX hp _ g2) (lss _) (by rw [hs.1,hf,hpt1];omega)
  have h5:GRR _ (bM (aB ns.length) l ([],[]) ns leaf) _:=kY _ _ _ _ _ (kX hp _ g2) (by rw [hs.1,hf,hpt1];omega);have e3:aD l t ns leaf=aA (aB ns.length) l ([],[]) ns leaf:=by
   unfold aD aA fK;rw [e2];exact tM _ _ _ _ _ _ (pM hp _ g2 h5) (lss _) (by rw [hs.1,hf,hpt2];omega)
  rw [e3,e2];rfl
def lU (n:Nat):ZL:=(List.range n).map (fun i:Nat=>(i:Int))
theorem fL (n:Nat):(lU n).length=n:=by simp [lU]
theorem aGi (n:Nat):lU (n+1)=lU n++[(n:Int)]:=by simp [lU,List.range_succ]
theorem qY (n:Nat):InR n (lU n):=fun x hx=>by
 simp only [lU,List.mem_map,List.mem_range] at hx;obtain⟨i,hi,rfl⟩:=hx;omega
def BT (l:jM)(leaf:Int):ZL×List NDE:=if l.length=0 then([],[]) else GT l leaf (l.length+1) (lU l.length) 0 0
theorem aQg {l:jM} (h:1<=l.length)(hl:l.length<=96) {leaf:Int} (hf:1<=leaf):PGRW l ([],[]) (lU l.length) leaf :=
 ⟨qY _,by rw [fL];simp only [List.length_nil];omega,by rw [fL];simp only [List.length_nil];omega,hf⟩
theorem aH9 (l:jM)(hl:l.length<=96) {leaf:Int} (hf:1<=leaf):mV l leaf=BT l leaf:=by
 have lp:∀(n i:Nat),l.length - i < n->i<=l.length->aG (mM l leaf) n (lU i,(i:Int))=BT l leaf:=by
  intro n
  induction n with|zero=>intro i h;exact absurd h (dX _)|succ n ih=>?_
  intro i h hi;by_cases h1:i < l.length
  ·have e:mM l leaf (lU i,(i:Int))=.inl (lU (i+1),((i+1:Nat):Int)):=by
    simp only [mM];rw [bX oM,cond_true,aGi];rfl
   rw [aK e];exact ih _ oM oM
  ·obtain rfl:i=l.length:=by omega
   refine aL ?_;simp only [mM];rw [cA oM,cond_false];unfold BT;by_cases h0:l.length=0
   ·rw [if_pos h0,show(((l.length:Int):Int) == 0)=true by simp [h0],cond_true]
   ·have hp:=aQg (l:=l) oM hl hf;rw [if_neg h0,show(((l.length:Int):Int) == 0)=false by rw [beq_eq_false_iff_ne];omega,cond_false,bCv _ _ _ _ hp];unfold fK;rw [aH8 _ _ _ _ _ hp (lss _),fL];rfl
 exact lp (tN ((l.length:Int) - 0)+1) 0 oM (Nat.zero_le _)
theorem aTu (l:jM)(hv:VCH l) {leaf:Int} (hf:1<=leaf):oT l leaf=BT l leaf:=by
 have hl:=hv.1;have lp:∀(n i:Nat),l.length - i < n->i<=l.length->aG (mK l leaf) n (lU i,([]:List NDE),(i:Int))=BT l leaf:=by
  intro n
  induction n with|zero=>intro i h;exact absurd h (dX _)|succ n ih=>?_
  intro i h hi;by_cases h1:i < l.length
  ·have e:mK l leaf (lU i,([]:List NDE),(i:Int))=.inl (lU (i+1),([]:List NDE),((i+1:Nat):Int)):=by
    simp only [mK];rw [bX oM,cond_true,aGi];rfl
   rw [aK e];exact ih _ oM oM
  ·obtain rfl:i=l.length:=by omega
   refine aL ?_;simp only [mK];rw [cA oM,cond_false];unfold BT;by_cases h0:l.length=0
   ·rw [if_pos h0,cA oM,cond_false];have:lU l.length=[]:=by rw [h0];simp [lU]
    rw [this]
   ·have hp:PADD (l,leaf,(lU l.length,([]:List NDE))) 0 (l.length:Int):=⟨qY _,by dsimp only;rw [fL];omega,by dsimp only;simp only [List.length_nil];omega,hf⟩;rw [if_neg h0,bX oM,cond_true];unfold F76;rw [aMy _ _ _ _ hp hv (lss _)];dsimp only;have hpt:Aw.part (lU l.length) 0 (l.length:Int)=lU l.length:=by rw [aXz,List.take_of_length_le (by rw [fL];exact Nat.le_refl _)]
    have hsub:tN ((l.length:Int) - 0)=l.length:=by omega
    rw [hpt,hsub,iB,List.drop_of_length_le (by rw [fL];exact Nat.le_refl _),List.append_nil];rfl
 exact lp (tN ((l.length:Int) - 0)+1) 0 oM (Nat.zero_le _)
theorem aMz (l:jM) {leaf:Int} (hl:1<=leaf):∀(n:Nat) (ns:ZL) (fr a:Int),ns.length < n->1<=ns.length->(GT l leaf n ns fr a).2.length+1<=2*ns.length
 | 0,_,_,_,h,_=>absurd h (dX _)
 | n+1,ns,fr,a,h,h1=>by
  by_cases h0:(ns.length:Int)<=leaf
  ·rw [nN h0];simp only [List.length_cons,List.length_nil];omega
  ·rw [nO h0];have hsl:=pL l (aI l ns) ns;have g1:=aMz l hl n ((rA l (aI l ns) ns).take ((ns.length+1) / 2)) fr (a+1) (by rw [List.length_take,hsl];omega) (by rw [List.length_take,hsl];omega);have g2:=aMz l hl n ((rA l (aI l ns) ns).drop ((ns.length+1) / 2)) (fr+((ns.length+1) / 2:Nat)) (a+1+(GT l leaf n ((rA l (aI l ns) ns).take ((ns.length+1) / 2)) fr (a+1)).2.length) (by rw [List.length_drop,hsl];omega) (by rw [List.length_drop,hsl];omega);rw [List.length_take,hsl] at g1;rw [List.length_drop,hsl] at g2;simp only [List.length_cons,List.length_append];omega
theorem rS (l:jM)(hl:l.length<=96) {leaf:Int} (hf:1<=leaf):(BT l leaf).1.length=l.length/\(BT l leaf).2.length<=192:=by
 unfold BT;by_cases h0:l.length=0
 ·rw [if_pos h0,h0];exact⟨rfl,Nat.zero_le _⟩
 ·rw [if_neg h0];have g1:=aD8 l hf (l.length+1) (lU l.length) 0 0 (by rw [fL];omega);have g2:=aMz l hf (l.length+1) (lU l.length) 0 0 (by rw [fL];omega) (by rw [fL];omega);rw [fL] at g1 g2;exact⟨g1,by omega⟩
theorem aM0 (l:jM)(leaf:Int):(iU l leaf).1.1.length<=96/\(iU l leaf).1.2.length<=192:=by
 unfold iU;cases h:((kQ l:Int) != 0)
 case true=>exact⟨Nat.zero_le _,Nat.zero_le _⟩
 have hl:=yQ (l:=l) (bne_eq_false_iff_eq.1 h);rw [cond_false];by_cases h1:leaf < 1
 ·rw [bX h1];exact⟨Nat.zero_le _,Nat.zero_le _⟩
 ·rw [cA h1,cond_false];by_cases h2:leaf > 16
  ·rw [bX h2];exact⟨Nat.zero_le _,Nat.zero_le _⟩
  ·rw [cA h2,cond_false,aH9 l hl oM];have:=rS l hl (leaf:=leaf) oM;exact⟨by dsimp only;omega,this.2⟩
end Go.Proofs.YtlffahoikfahlaaGreat
