/-
  Parts of the proofs of the laws: the executor, what functions of the program compute, and that it is what the statements ask. No premise.
-/
import Derived.Test.YtlffahoikfahlaaGreatVPte7
set_option linter.unusedVariables false
set_option linter.unusedSimpArgs false
set_option maxHeartbeats 4000000
open Int renaming toNat → tN
open Inhabited renaming default → dF
open Go.IntKind renaming wrap → iW
open BitVec renaming ofInt → bO
open Int renaming tdiv → tD
open Int renaming fdiv → fD
open Int renaming tmod → mD
namespace Go.Proofs.YtlffahoikfahlaaGreat
open Go.Proofs Go.Aw Go.RowKit
set_option maxRecDepth 100000
def iR (a0:Zt)(a1:Int):Int×Int×Int×Zt := ((W ((W (a1*a0.1))*a0.1)),(W ((W (a1*a0.1))*a0.2.1)),(W ((W (a1*a0.1))*a0.2.2)),(W ((W (a1*a0.2.1))*a0.2.1)),(W ((W (a1*a0.2.1))*a0.2.2)),(W ((W (a1*a0.2.2))*a0.2.2)))
def kS2 (x:Int×Int×Int×Int×Int×Int):List SV:=[(iv x.1),(iv x.2.1),(iv x.2.2.1),(iv x.2.2.2.1),(iv x.2.2.2.2.1),(iv x.2.2.2.2.2)]
theorem C65 (a0:Zt)(a1:Int):Con Tryz.prog 65 [(.a (k3 a0)),(iv a1)] [] (.a (kS2 (iR a0 a1))) []:=by
 refine cS Tryz.func65 fun cx hcx=>?_
 exact rT [] hcx
def lE (a0 a1:Int×Int×Int×Zt):Int×Int×Int×Zt := ((W (a0.1+a1.1)),(W (a0.2.1+a1.2.1)),(W (a0.2.2.1+a1.2.2.1)),(W (a0.2.2.2.1+a1.2.2.2.1)),(W (a0.2.2.2.2.1+a1.2.2.2.2.1)),(W (a0.2.2.2.2.2+a1.2.2.2.2.2)))
theorem C64 (a0 a1:Int×Int×Int×Zt):Con Tryz.prog 64 [(.a (kS2 a0)),(.a (kS2 a1))] [] (.a (kS2 (lE a0 a1))) []:=by
 refine cS Tryz.func64 fun cx hcx=>?_
 exact rT [.u 200,.T,.i 0 6,.i 0 6,.i 0 6,.u 0,.T,.i 1 6,.i 1 6,.i 1 6,.u 0,.T,.i 2 6,.i 2 6,.i 2 6,.u 0,.T,.i 3 6,.i 3 6,.i 3 6,.u 0,.T,.i 4 6,.i 4 6,.i 4 6,.u 0,.T,.i 5 6,.i 5 6,.i 5 6,.u 0,.F] hcx
def vC (a0:jY):Int := (bif (decide ((a0.2.1:Int) < 0))then 1 else(bif (decide ((a0.2.1:Int) > 1048576))then 1 else(bif (decide ((a0.1:Int) > a0.2.1))then 1 else(bif (decide ((a0.1:Int) < (W (0 - a0.2.1))))then 1 else(bif (!(zG a0.2.2.1 1073741824))then 1 else(bif (decide ((a0.2.2.2.1:Int) > 17179869184))then 1 else(bif (decide ((a0.2.2.2.1:Int) < (-17179869184)))then 1 else(bif (decide ((a0.2.2.2.2.1:Int) > 17179869184))then 1 else(bif (decide ((a0.2.2.2.2.1:Int) < (-17179869184)))then 1 else(bif (decide ((a0.2.2.2.2.2.1:Int) > 17179869184))then 1 else(bif (decide ((a0.2.2.2.2.2.1:Int) < (-17179869184)))then 1 else(bif (decide ((a0.2.2.2.2.2.2.1:Int) > 17179869184))then 1 else(bif (decide ((a0.2.2.2.2.2.2.1:Int) < (-17179869184)))then 1 else(bif (decide ((a0.2.2.2.2.2.2.2.1:Int) > 17179869184))then 1 else(bif (decide ((a0.2.2.2.2.2.2.2.1:Int) < (-17179869184)))then 1 else(bif (decide ((a0.2.2.2.2.2.2.2.2:Int) > 17179869184))then 1 else(bif (decide ((a0.2.2.2.2.2.2.2.2:Int) < (-17179869184)))then 1 else 0)))))))))))))))))
theorem bDc (a0:jY):Con Tryz.prog 104 [(.a (kS1 a0))] [] (iv (vC a0)) []:=by
 refine cS Tryz.func104 fun cx hcx=>?_
 rw [vC];cases h0:(decide ((a0.2.1:Int) < 0))
 case true=>exact rT [.d h0] hcx
 let t1:SL:=[.d h0];cases h1:(decide ((a0.2.1:Int) > 1048576))
 case true=>exact rT (t1++[.d h1]) hcx
 let t2:SL:=t1++[.d h1];cases h2:(decide ((a0.1:Int) > a0.2.1))
 case true=>exact rT (t2++[.d h2]) hcx
 let t3:SL:=t2++[.d h2];cases h3:(decide ((a0.1:Int) < (W (0 - a0.2.1))))
 case true=>exact rT (t3++[.d h3]) hcx
 let t4:SL:=t3++[.d h3,.c [] (C59 a0.2.2.1 1073741824)];cases h4:(!(zG a0.2.2.1 1073741824))
 case true=>exact rT (t4++[.d h4]) hcx
 let t5:SL:=t4++[.d h4,.u 200,.T,.i 0 6];cases h5:(decide ((a0.2.2.2.1:Int) > 17179869184))
 case true=>exact rT (t5++[.d h5]) hcx
 let t6:SL:=t5++[.d h5,.i 0 6];cases h6:(decide ((a0.2.2.2.1:Int) < (-17179869184)))
 case true=>exact rT (t6++[.d h6]) hcx
 let t7:SL:=t6++[.d h6,.u 0,.T,.i 1 6];cases h7:(decide ((a0.2.2.2.2.1:Int) > 17179869184))
 case true=>exact rT (t7++[.d h7]) hcx
 let t8:SL:=t7++[.d h7,.i 1 6];cases h8:(decide ((a0.2.2.2.2.1:Int) < (-17179869184)))
 case true=>exact rT (t8++[.d h8]) hcx
 let t9:SL:=t8++[.d h8,.u 0,.T,.i 2 6];cases h9:(decide ((a0.2.2.2.2.2.1:Int) > 17179869184))
 case true=>exact rT (t9++[.d h9]) hcx
 let t10:SL:=t9++[.d h9,.i 2 6];cases h10:(decide ((a0.2.2.2.2.2.1:Int) < (-17179869184)))
 case true=>exact rT (t10++[.d h10]) hcx
 let t11:SL:=t10++[.d h10,.u 0,.T,.i 3 6];cases h11:(decide ((a0.2.2.2.2.2.2.1:Int) > 17179869184))
 case true=>exact rT (t11++[.d h11]) hcx
 let t12:SL:=t11++[.d h11,.i 3 6];cases h12:(decide ((a0.2.2.2.2.2.2.1:Int) < (-17179869184)))
 case true=>exact rT (t12++[.d h12]) hcx
 let t13:SL:=t12++[.d h12,.u 0,.T,.i 4 6];cases h13:(decide ((a0.2.2.2.2.2.2.2.1:Int) > 17179869184))
 case true=>exact rT (t13++[.d h13]) hcx
 let t14:SL:=t13++[.d h13,.i 4 6];cases h14:(decide ((a0.2.2.2.2.2.2.2.1:Int) < (-17179869184)))
 case true=>exact rT (t14++[.d h14]) hcx
 let t15:SL:=t14++[.d h14,.u 0,.T,.i 5 6];cases h15:(decide ((a0.2.2.2.2.2.2.2.2:Int) > 17179869184))
 case true=>exact rT (t15++[.d h15]) hcx
 let t16:SL:=t15++[.d h15,.i 5 6];cases h16:(decide ((a0.2.2.2.2.2.2.2.2:Int) < (-17179869184)))
 case true=>exact rT (t16++[.d h16]) hcx
 exact rT (t16++[.d h16,.u 0,.F]) hcx
def aEm (a0:jY)(a1:Zt):Int := (W ((W ((W ((W ((W ((W ((W ((W ((W (0+(W (a0.2.2.2.1*(iR a1 1).1))))+(W (a0.2.2.2.2.1*(iR a1 1).2.1))))+(W (a0.2.2.2.2.1*(iR a1 1).2.1))))+(W (a0.2.2.2.2.2.1*(iR a1 1).2.2.1))))+(W (a0.2.2.2.2.2.1*(iR a1 1).2.2.1))))+(W (a0.2.2.2.2.2.2.1*(iR a1 1).2.2.2.1))))+(W (a0.2.2.2.2.2.2.2.1*(iR a1 1).2.2.2.2.1))))+(W (a0.2.2.2.2.2.2.2.1*(iR a1 1).2.2.2.2.1))))+(W (a0.2.2.2.2.2.2.2.2*(iR a1 1).2.2.2.2.2))))
theorem bFr (a0:jY)(a1:Zt):Con Tryz.prog 147 [(.a (kS1 a0)),(.a (k3 a1))] [] (iv (aEm a0 a1)) []:=by
 refine cS Tryz.func147 fun cx hcx=>?_
 exact rT [.c [] (C65 a1 1),.u 200,.T,.i 0 6,.i 0 6,.F,.F,.F,.u 0,.T,.i 1 6,.i 1 6,.T,.i 1 6,.i 1 6,.u 0,.T,.i 2 6,.i 2 6,.F,.T,.i 2 6,.i 2 6,.u 0,.T,.i 3 6,.i 3 6,.F,.F,.F,.u 0,.T,.i 4 6,.i 4 6,.F,.F,.T,.i 4 6,.i 4 6,.u 0,.T,.i 5 6,.i 5 6,.F,.F,.F,.u 0,.F] hcx
noncomputable def aEn:=aU [1,1,0,1] [] (aV Tryz.f107) []
def aB5 (a0:Int)(v1 v2:Int):LS:=⟨gU 22 [(0,(iv a0)),(3,(iv v1)),(4,(iv v2))],[]⟩
def aEo (a0:Int):Zs->Zs⊕(Int) | (v1,v2) => (bif (decide ((v2:Int) > 0))then(bif (decide (((W ((W (v1+v2))*(W (v1+v2)))):Int)<=a0))then(.inl ((W (v1+v2)),(W (tD v2 2))))else(.inl (v1,(W (tD v2 2)))))else(.inr v1))
theorem bAh (a0:Int) {cx:Cx} (hcx:cx.base=0):∀(n:Nat) (v1 v2:Int),(0<=v2)/\(v2<=1073741824)->tN v2 < n->gG Tryz.f107 cx (iv (aG (aEo a0) n (v1,v2))) [] [] (.l aEn.1 n::aEn.2) (aB5 a0 v1 v2):=by
 intro n
 induction n with|zero=>intro v1 v2 hi hn;exact absurd hn (dX _)|succ n ih=>?_
 intro v1 v2 hi hn;refine aN ?_;have hw_t:W (tD v2 2)=v2 / 2:=by rw [Int.tdiv_eq_ediv_of_nonneg oM];exact aH oM oM
 rw [aZ,aEo];cases h0:(decide ((v2:Int) > 0))
 case true=>
  have q0:=eS h0;let t1:SL:=[.d h0];cases h1:(decide (((W ((W (v1+v2))*(W (v1+v2)))):Int)<=a0))
  case true=>refine bA n (t1++[.d h1,.p (show(2:Int)≠0 from by decide)]) [0,3,4] [] hcx aEn (aB5 a0 (W (v1+v2)) (W (tD v2 2))) ?_;exact ih _ _ oR oM
  refine bA n (t1++[.d h1,.p (show(2:Int)≠0 from by decide)]) [0,3,4] [] hcx aEn (aB5 a0 v1 (W (tD v2 2))) ?_;exact ih _ _ oR oM
 exact rT [.d h0] hcx
def iE (a0:Int):Int := (aG (aEo a0) (tN 1073741824+1) (0,1073741824))
theorem bDd (a0:Int):Con Tryz.prog 107 [(iv a0)] [] (iv (iE a0)) []:=by
 refine cS Tryz.func107 fun cx hcx=>?_
 refine eN [] [0,3,4] [] hcx aEn (aB5 a0 0 1073741824) (tN 1073741824+1) ?_;exact bAh a0 hcx (tN 1073741824+1) 0 1073741824 oR oM
def lG (a0:Int):Int := (bif (decide (((W ((iE a0)*(iE a0))):Int) < a0))then(W ((iE a0)+1))else(iE a0))
theorem bFs (a0:Int):Con Tryz.prog 106 [(iv a0)] [] (iv (lG a0)) []:=by
 refine cS Tryz.func106 fun cx hcx=>?_
 let t0:SL:=[.c [] (bDd a0)];rw [lG];cases h0:(decide (((W ((iE a0)*(iE a0))):Int) < a0))
 case true=>exact rT (t0++[.d h0]) hcx
 exact rT (t0++[.d h0]) hcx
def iZ (a0 a1:Int):Int := (W (tD (W ((W (a0+a1)) - 1)) a1))
theorem bAi (a0 a1:Int)(hd:a1≠0):Con Tryz.prog 108 [(iv a0),(iv a1)] [] (iv (iZ a0 a1)) []:=by
 refine cS Tryz.func108 fun cx hcx=>?_
 exact rT [.p (show(a1:Int)≠0 from by first | omega | (rw [aH]<;>omega) | exact dZ _)] hcx
noncomputable def aB6:=aU [1,1,1,1,0,1] [] (aV Tryz.f31) []
def aEp (a0:bV)(a1:Zt)(v1 v2 v3 v4 v5 v6 v7 v8 v9 v10 v11 v12:Int):LS:=⟨gU 109 [(0,(.s 0 0 a0.length 10)),(3,(.p 1 0)),(4,(.p 2 0)),(7,(.p 3 0)),(8,(iv v1))],[(.live false true (flat dI a0)),(.live true false (k3 a1)),(.live true false [(iv 0),(iv 0),(iv 0),(iv 0),(iv 0),(iv 0),(iv 0),(iv 0),(iv 0),(iv 0),(iv 0)]),(.live true false [(iv v2),(iv v3),(iv v4),(iv v5),(iv v6),(iv v7),(iv v8),(iv v9),(iv v10),(iv v11),(iv v12)])]⟩
def sC (a0:bV)(a1:Zt):Int×Int×Int×Int×Int×Int×Int×Int×Int×Zt->(Int×Int×Int×Int×Int×Int×Int×Int×Int×Zt)⊕(jY×Int) | (v1,v2,v3,v4,v5,v6,v7,v8,v9,v10,v11,v12) => (bif (decide ((v1:Int) < (a0.length:Int)))then(.inl ((v1+1),(W (v2+(a0.getD (tN v1) dF).2)),(W (v3+(F63 (a0.getD (tN v1) dF).2))),(gC (v4,v5,v6) ((W ((a0.getD (tN v1) dF).2*(gC (bJ (a0.getD (tN v1) dF).1.1 a1) (gC (bJ (a0.getD (tN v1) dF).1.2.1 a1) (bJ (a0.getD (tN v1) dF).1.2.2 a1))).1)),(W ((a0.getD (tN v1) dF).2*(gC (bJ (a0.getD (tN v1) dF).1.1 a1) (gC (bJ (a0.getD (tN v1) dF).1.2.1 a1) (bJ (a0.getD (tN v1) dF).1.2.2 a1))).2.1)),(W ((a0.getD (tN v1) dF).2*(gC (bJ (a0.getD (tN v1) dF).1.1 a1) (gC (bJ (a0.getD (tN v1) dF).1.2.1 a1) (bJ (a0.getD (tN v1) dF).1.2.2 a1))).2.2)))).1,(gC (v4,v5,v6) ((W ((a0.getD (tN v1) dF).2*(gC (bJ (a0.getD (tN v1) dF).1.1 a1) (gC (bJ (a0.getD (tN v1) dF).1.2.1 a1) (bJ (a0.getD (tN v1) dF).1.2.2 a1))).1)),(W ((a0.getD (tN v1) dF).2*(gC (bJ (a0.getD (tN v1) dF).1.1 a1) (gC (bJ (a0.getD (tN v1) dF).1.2.1 a1) (bJ (a0.getD (tN v1) dF).1.2.2 a1))).2.1)),(W ((a0.getD (tN v1) dF).2*(gC (bJ (a0.getD (tN v1) dF).1.1 a1) (gC (bJ (a0.getD (tN v1) dF).1.2.1 a1) (bJ (a0.getD (tN v1) dF).1.2.2 a1))).2.2)))).2.1,(gC (v4,v5,v6) ((W ((a0.getD (tN v1) dF).2*(gC (bJ (a0.getD (tN v1) dF).1.1 a1) (gC (bJ (a0.getD (tN v1) dF).1.2.1 a1) (bJ (a0.getD (tN v1) dF).1.2.2 a1))).1)),(W ((a0.getD (tN v1) dF).2*(gC (bJ (a0.getD (tN v1) dF).1.1 a1) (gC (bJ (a0.getD (tN v1) dF).1.2.1 a1) (bJ (a0.getD (tN v1) dF).1.2.2 a1))).2.1)),(W ((a0.getD (tN v1) dF).2*(gC (bJ (a0.getD (tN v1) dF).1.1 a1) (gC (bJ (a0.getD (tN v1) dF).1.2.1 a1) (bJ (a0.getD (tN v1) dF).1.2.2 a1))).2.2)))).2.2,(lE (v7,v8,v9,v10,v11,v12) (lE (lE (iR (bJ (a0.getD (tN v1) dF).1.1 a1) (a0.getD (tN v1) dF).2) (iR (bJ (a0.getD (tN v1) dF).1.2.1 a1) (a0.getD (tN v1) dF).2)) (lE (iR (bJ (a0.getD (tN v1) dF).1.2.2 a1) (a0.getD (tN v1) dF).2) (iR (gC (bJ (a0.getD (tN v1) dF).1.1 a1) (gC (bJ (a0.getD (tN v1) dF).1.2.1 a1) (bJ (a0.getD (tN v1) dF).1.2.2 a1))) (a0.getD (tN v1) dF).2)))).1,(lE (v7,v8,v9,v10,v11,v12) (lE (lE (iR (bJ (a0.getD (tN v1) dF).1.1 a1) (a0.getD (tN v1) dF).2) (iR (bJ (a0.getD (tN v1) dF).1.2.1 a1) (a0.getD (tN v1) dF).2)) (lE (iR (bJ (a0.getD (tN v1) dF).1.2.2 a1) (a0.getD (tN v1) dF).2) (iR (gC (bJ (a0.getD (tN v1) dF).1.1 a1) (gC (bJ (a0.getD (tN v1) dF).1.2.1 a1) (bJ (a0.getD (tN v1) dF).1.2.2 a1))) (a0.getD (tN v1) dF).2)))).2.1,(lE (v7,v8,v9,v10,v11,v12) (lE (lE (iR (bJ (a0.getD (tN v1) dF).1.1 a1) (a0.getD (tN v1) dF).2) (iR (bJ (a0.getD (tN v1) dF).1.2.1 a1) (a0.getD (tN v1) dF).2)) (lE (iR (bJ (a0.getD (tN v1) dF).1.2.2 a1) (a0.getD (tN v1) dF).2) (iR (gC (bJ (a0.getD (tN v1) dF).1.1 a1) (gC (bJ (a0.getD (tN v1) dF).1.2.1 a1) (bJ (a0.getD (tN v1) dF).1.2.2 a1))) (a0.getD (tN v1) dF).2)))).2.2.1,(lE (v7,v8,v9,v10,v11,v12) (lE (lE (iR (bJ (a0.getD (tN v1) dF).1.1 a1) (a0.getD (tN v1) dF).2) (iR (bJ (a0.getD (tN v1) dF).1.2.1 a1) (a0.getD (tN v1) dF).2)) (lE (iR (bJ (a0.getD (tN v1) dF).1.2.2 a1) (a0.getD (tN v1) dF).2) (iR (gC (bJ (a0.getD (tN v1) dF).1.1 a1) (gC (bJ (a0.getD (tN v1) dF).1.2.1 a1) (bJ (a0.getD (tN v1) dF).1.2.2 a1))) (a0.getD (tN v1) dF).2)))).2.2.2.1,(lE (v7,v8,v9,v10,v11,v12) (lE (lE (iR (bJ (a0.getD (tN v1) dF).1.1 a1) (a0.getD (tN v1) dF).2) (iR (bJ (a0.getD (tN v1) dF).1.2.1 a1) (a0.getD (tN v1) dF).2)) (lE (iR (bJ (a0.getD (tN v1) dF).1.2.2 a1) (a0.getD (tN v1) dF).2) (iR (gC (bJ (a0.getD (tN v1) dF).1.1 a1) (gC (bJ (a0.getD (tN v1) dF).1.2.1 a1) (bJ (a0.getD (tN v1) dF).1.2.2 a1))) (a0.getD (tN v1) dF).2)))).2.2.2.2.1,(lE (v7,v8,v9,v10,v11,v12) (lE (lE (iR (bJ (a0.getD (tN v1) dF).1.1 a1) (a0.getD (tN v1) dF).2) (iR (bJ (a0.getD (tN v1) dF).1.2.1 a1) (a0.getD (tN v1) dF).2)) (lE (iR (bJ (a0.getD (tN v1) dF).1.2.2 a1) (a0.getD (tN v1) dF).2) (iR (gC (bJ (a0.getD (tN v1) dF).1.1 a1) (gC (bJ (a0.getD (tN v1) dF).1.2.1 a1) (bJ (a0.getD (tN v1) dF).1.2.2 a1))) (a0.getD (tN v1) dF).2)))).2.2.2.2.2))else(.inr ((v2,v3,(v4,v5,v6),(v7,v8,v9,v10,v11,v12)),0)))
theorem aWk (a0:bV)(a1:Zt)(l0:a0.length<=2^63-1) {cx:Cx} (hcx:cx.base=1):∀(n:Nat) (v1 v2 v3 v4 v5 v6 v7 v8 v9 v10 v11 v12:Int),0<=v1->tN ((a0.length:Int) - v1) < n->gG Tryz.f31 cx (.t [(.a (kS1 (aG (sC a0 a1) n (v1,v2,v3,v4,v5,v6,v7,v8,v9,v10,v11,v12)).1)),(iv (aG (sC a0 a1) n (v1,v2,v3,v4,v5,v6,v7,v8,v9,v10,v11,v12)).2)]) [] [] (.l aB6.1 n::aB6.2) (aEp a0 a1 v1 v2 v3 v4 v5 v6 v7 v8 v9 v10 v11 v12):=by
 intro n
 induction n with|zero=>intro v1 v2 v3 v4 v5 v6 v7 v8 v9 v10 v11 v12 hi hn;exact absurd hn (dX _)|succ n ih=>?_
 intro v1 v2 v3 v4 v5 v6 v7 v8 v9 v10 v11 v12 hi hn;refine aN ?_;rw [aZ,sC];cases h0:(decide ((v1:Int) < (a0.length:Int)))
 case true=>have q0:=eS h0;refine bA n [.d h0,.i v1 (a0.length),.L cQ a0 v1 9 1,.i v1 (a0.length),.L cQ a0 v1 0 3,.c [] (C34 (a0.getD (tN v1) dF).1.1 a1),.i v1 (a0.length),.L cQ a0 v1 3 3,.c [] (C34 (a0.getD (tN v1) dF).1.2.1 a1),.i v1 (a0.length),.L cQ a0 v1 6 3,.c [] (C34 (a0.getD (tN v1) dF).1.2.2 a1),.c [] (C62 (bJ (a0.getD (tN v1) dF).1.2.1 a1) (bJ (a0.getD (tN v1) dF).1.2.2 a1)),.c [] (C62 (bJ (a0.getD (tN v1) dF).1.1 a1) (gC (bJ (a0.getD (tN v1) dF).1.2.1 a1) (bJ (a0.getD (tN v1) dF).1.2.2 a1))),.c [] (C63 (a0.getD (tN v1) dF).2),.c [] (C62 (v4,v5,v6) ((W ((a0.getD (tN v1) dF).2*(gC (bJ (a0.getD (tN v1) dF).1.1 a1) (gC (bJ (a0.getD (tN v1) dF).1.2.1 a1) (bJ (a0.getD (tN v1) dF).1.2.2 a1))).1)),(W ((a0.getD (tN v1) dF).2*(gC (bJ (a0.getD (tN v1) dF).1.1 a1) (gC (bJ (a0.getD (tN v1) dF).1.2.1 a1) (bJ (a0.getD (tN v1) dF).1.2.2 a1))).2.1)),(W ((a0.getD (tN v1) dF).2*(gC (bJ (a0.getD (tN v1) dF).1.1 a1) (gC (bJ (a0.getD (tN v1) dF).1.2.1 a1) (bJ (a0.getD (tN v1) dF).1.2.2 a1))).2.2)))),.c [] (C65 (bJ (a0.getD (tN v1) dF).1.1 a1) (a0.getD (tN v1) dF).2),.c [] (C65 (bJ (a0.getD (tN v1) dF).1.2.1 a1) (a0.getD (tN v1) dF).2),.c [] (C64 (iR (bJ (a0.getD (tN v1) dF).1.1 a1) (a0.getD (tN v1) dF).2) (iR (bJ (a0.getD (tN v1) dF).1.2.1 a1) (a0.getD (tN v1) dF).2)),.c [] (C65 (bJ (a0.getD (tN v1) dF).1.2.2 a1) (a0.getD (tN v1) dF).2),.c [] (C65 (gC (bJ (a0.getD (tN v1) dF).1.1 a1) (gC (bJ (a0.getD (tN v1) dF).1.2.1 a1) (bJ (a0.getD (tN v1) dF).1.2.2 a1))) (a0.getD (tN v1) dF).2),.c [] (C64 (iR (bJ (a0.getD (tN v1) dF).1.2.2 a1) (a0.getD (tN v1) dF).2) (iR (gC (bJ (a0.getD (tN v1) dF).1.1 a1) (gC (bJ (a0.getD (tN v1) dF).1.2.1 a1) (bJ (a0.getD (tN v1) dF).1.2.2 a1))) (a0.getD (tN v1) dF).2)),.c [] (C64 (lE (iR (bJ (a0.getD (tN v1) dF).1.1 a1) (a0.getD (tN v1) dF).2) (iR (bJ (a0.getD (tN v1) dF).1.2.1 a1) (a0.getD (tN v1) dF).2)) (lE (iR (bJ (a0.getD (tN v1) dF).1.2.2 a1) (a0.getD (tN v1) dF).2) (iR (gC (bJ (a0.getD (tN v1) dF).1.1 a1) (gC (bJ (a0.getD (tN v1) dF).1.2.1 a1) (bJ (a0.getD (tN v1) dF).1.2.2 a1))) (a0.getD (tN v1) dF).2))),.c [] (C64 (v7,v8,v9,v10,v11,v12) (lE (lE (iR (bJ (a0.getD (tN v1) dF).1.1 a1) (a0.getD (tN v1) dF).2) (iR (bJ (a0.getD (tN v1) dF).1.2.1 a1) (a0.getD (tN v1) dF).2)) (lE (iR (bJ (a0.getD (tN v1) dF).1.2.2 a1) (a0.getD (tN v1) dF).2) (iR (gC (bJ (a0.getD (tN v1) dF).1.1 a1) (gC (bJ (a0.getD (tN v1) dF).1.2.1 a1) (bJ (a0.getD (tN v1) dF).1.2.2 a1))) (a0.getD (tN v1) dF).2))))] [0,3,4,7,8] [1,2,3] hcx aB6 (aEp a0 a1 (W (v1+1)) (W (v2+(a0.getD (tN v1) dF).2)) (W (v3+(F63 (a0.getD (tN v1) dF).2))) ((gC (v4,v5,v6) ((W ((a0.getD (tN v1) dF).2*(gC (bJ (a0.getD (tN v1) dF).1.1 a1) (gC (bJ (a0.getD (tN v1) dF).1.2.1 a1) (bJ (a0.getD (tN v1) dF).1.2.2 a1))).1)),(W ((a0.getD (tN v1) dF).2*(gC (bJ (a0.getD (tN v1) dF).1.1 a1) (gC (bJ (a0.getD (tN v1) dF).1.2.1 a1) (bJ (a0.getD (tN v1) dF).1.2.2 a1))).2.1)),(W ((a0.getD (tN v1) dF).2*(gC (bJ (a0.getD (tN v1) dF).1.1 a1) (gC (bJ (a0.getD (tN v1) dF).1.2.1 a1) (bJ (a0.getD (tN v1) dF).1.2.2 a1))).2.2)))).1) ((gC (v4,v5,v6) ((W ((a0.getD (tN v1) dF).2*(gC (bJ (a0.getD (tN v1) dF).1.1 a1) (gC (bJ (a0.getD (tN v1) dF).1.2.1 a1) (bJ (a0.getD (tN v1) dF).1.2.2 a1))).1)),(W ((a0.getD (tN v1) dF).2*(gC (bJ (a0.getD (tN v1) dF).1.1 a1) (gC (bJ (a0.getD (tN v1) dF).1.2.1 a1) (bJ (a0.getD (tN v1) dF).1.2.2 a1))).2.1)),(W ((a0.getD (tN v1) dF).2*(gC (bJ (a0.getD (tN v1) dF).1.1 a1) (gC (bJ (a0.getD (tN v1) dF).1.2.1 a1) (bJ (a0.getD (tN v1) dF).1.2.2 a1))).2.2)))).2.1) ((gC (v4,v5,v6) ((W ((a0.getD (tN v1) dF).2*(gC (bJ (a0.getD (tN v1) dF).1.1 a1) (gC (bJ (a0.getD (tN v1) dF).1.2.1 a1) (bJ (a0.getD (tN v1) dF).1.2.2 a1))).1)),(W ((a0.getD (tN v1) dF).2*(gC (bJ (a0.getD (tN v1) dF).1.1 a1) (gC (bJ (a0.getD (tN v1) dF).1.2.1 a1) (bJ (a0.getD (tN v1) dF).1.2.2 a1))).2.1)),(W ((a0.getD (tN v1) dF).2*(gC (bJ (a0.getD (tN v1) dF).1.1 a1) (gC (bJ (a0.getD (tN v1) dF).1.2.1 a1) (bJ (a0.getD (tN v1) dF).1.2.2 a1))).2.2)))).2.2) ((lE (v7,v8,v9,v10,v11,v12) (lE (lE (iR (bJ (a0.getD (tN v1) dF).1.1 a1) (a0.getD (tN v1) dF).2) (iR (bJ (a0.getD (tN v1) dF).1.2.1 a1) (a0.getD (tN v1) dF).2)) (lE (iR (bJ (a0.getD (tN v1) dF).1.2.2 a1) (a0.getD (tN v1) dF).2) (iR (gC (bJ (a0.getD (tN v1) dF).1.1 a1) (gC (bJ (a0.getD (tN v1) dF).1.2.1 a1) (bJ (a0.getD (tN v1) dF).1.2.2 a1))) (a0.getD (tN v1) dF).2)))).1) ((lE (v7,v8,v9,v10,v11,v12) (lE (lE (iR (bJ (a0.getD (tN v1) dF).1.1 a1) (a0.getD (tN v1) dF).2) (iR (bJ (a0.getD (tN v1) dF).1.2.1 a1) (a0.getD (tN v1) dF).2)) (lE (iR (bJ (a0.getD (tN v1) dF).1.2.2 a1) (a0.getD (tN v1) dF).2) (iR (gC (bJ (a0.getD (tN v1) dF).1.1 a1) (gC (bJ (a0.getD (tN v1) dF).1.2.1 a1) (bJ (a0.getD (tN v1) dF).1.2.2 a1))) (a0.getD (tN v1) dF).2)))).2.1) ((lE (v7,v8,v9,v10,v11,v12) (lE (lE (iR (bJ (a0.getD (tN v1) dF).1.1 a1) (a0.getD (tN v1) dF).2) (iR (bJ (a0.getD (tN v1) dF).1.2.1 a1) (a0.getD (tN v1) dF).2)) (lE (iR (bJ (a0.getD (tN v1) dF).1.2.2 a1) (a0.getD (tN v1) dF).2) (iR (gC (bJ (a0.getD (tN v1) dF).1.1 a1) (gC (bJ (a0.getD (tN v1) dF).1.2.1 a1) (bJ (a0.getD (tN v1) dF).1.2.2 a1))) (a0.getD (tN v1) dF).2)))).2.2.1) ((lE (v7,v8,v9,v10,v11,v12) (lE (lE (iR (bJ (a0.getD (tN v1) dF).1.1 a1) (a0.getD (tN v1) dF).2) (iR (bJ (a0.getD (tN v1) dF).1.2.1 a1) (a0.getD (tN v1) dF).2)) (lE (iR (bJ (a0.getD (tN v1) dF).1.2.2 a1) (a0.getD (tN v1) dF).2) (iR (gC (bJ (a0.getD (tN v1) dF).1.1 a1) (gC (bJ (a0.getD (tN v1) dF).1.2.1 a1) (bJ (a0.getD (tN v1) dF).1.2.2 a1))) (a0.getD (tN v1) dF).2)))).2.2.2.1) ((lE (v7,v8,v9,v10,v11,v12) (lE (lE (iR (bJ (a0.getD (tN v1) dF).1.1 a1) (a0.getD (tN v1) dF).2) (iR (bJ (a0.getD (tN v1) dF).1.2.1 a1) (a0.getD (tN v1) dF).2)) (lE (iR (bJ (a0.getD (tN v1) dF).1.2.2 a1) (a0.getD (tN v1) dF).2) (iR (gC (bJ (a0.getD (tN v1) dF).1.1 a1) (gC (bJ (a0.getD (tN v1) dF).1.2.1 a1) (bJ (a0.getD (tN v1) dF).1.2.2 a1))) (a0.getD (tN v1) dF).2)))).2.2.2.2.1) ((lE (v7,v8,v9,v10,v11,v12) (lE (lE (iR (bJ (a0.getD (tN v1) dF).1.1 a1) (a0.getD (tN v1) dF).2) (iR (bJ (a0.getD (tN v1) dF).1.2.1 a1) (a0.getD (tN v1) dF).2)) (lE (iR (bJ (a0.getD (tN v1) dF).1.2.2 a1) (a0.getD (tN v1) dF).2) (iR (gC (bJ (a0.getD (tN v1) dF).1.1 a1) (gC (bJ (a0.getD (tN v1) dF).1.2.1 a1) (bJ (a0.getD (tN v1) dF).1.2.2 a1))) (a0.getD (tN v1) dF).2)))).2.2.2.2.2)) ?_;have z0:(W (v1+1))=(v1+1):=aH oM oM;rw [z0];exact ih _ _ _ _ _ _ _ _ _ _ _ _ oM oM
 exact rT [.d h0] hcx
def kL (a0:bV)(a1:Zt):jY×Int := (bif (((pK a0 a1):Int) != 0)then((0,0,(0,0,0),(0,0,0,0,0,0)),(pK a0 a1))else(aG (sC a0 a1) (tN ((a0.length:Int) - 0)+1) (0,0,0,0,0,0,0,0,0,0,0,0)))
theorem bDe (a0:bV)(a1:Zt)(l0:a0.length<=2^63-1):Con Tryz.prog 31 [(.s 0 0 a0.length 10),(.a (k3 a1))] [(.live false true (flat dI a0))] (.t [(.a (kS1 (kL a0 a1).1)),(iv (kL a0 a1).2)]) []:=by
 refine cS Tryz.func31 fun cx hcx=>?_
 let t0:SL:=[.c [0] (aXx a0 a1 oM)];rw [kL];cases h0:(((pK a0 a1):Int) != 0)
 case true=>exact rT (t0++[.d h0]) hcx
 refine eN (t0++[.d h0]) [0,3,4,7,8] [1,2,3] hcx aB6 (aEp a0 a1 0 0 0 0 0 0 0 0 0 0 0 0) (tN ((a0.length:Int) - 0)+1) ?_;exact aWk a0 a1 l0 hcx (tN ((a0.length:Int) - 0)+1) 0 0 0 0 0 0 0 0 0 0 0 0 oM oM
def iV (a0 a1:Int):Zs := (bif (((mD (bY (eK a0) (eK a1)).2 1048576):Int) != 0)then(bif (!((decide ((a0:Int) < 0)) == (decide ((a1:Int) < 0))))then((W ((W (0 - (W (iW .u64 ((bO 64 (iW .u64 ((bY (eK a0) (eK a1)).1*2 ^ (min (tN 44) 64))) ||| bO 64 (fD (bY (eK a0) (eK a1)).2 (2 ^ (min (tN 20) 64)))).toNat:Int))))) - 1)),(W (0 - (W (iW .u64 ((bO 64 (iW .u64 ((bY (eK a0) (eK a1)).1*2 ^ (min (tN 44) 64))) ||| bO 64 (fD (bY (eK a0) (eK a1)).2 (2 ^ (min (tN 20) 64)))).toNat:Int))))))else((W (iW .u64 ((bO 64 (iW .u64 ((bY (eK a0) (eK a1)).1*2 ^ (min (tN 44) 64))) ||| bO 64 (fD (bY (eK a0) (eK a1)).2 (2 ^ (min (tN 20) 64)))).toNat:Int))),(W ((W (iW .u64 ((bO 64 (iW .u64 ((bY (eK a0) (eK a1)).1*2 ^ (min (tN 44) 64))) ||| bO 64 (fD (bY (eK a0) (eK a1)).2 (2 ^ (min (tN 20) 64)))).toNat:Int)))+1))))else(bif (!((decide ((a0:Int) < 0)) == (decide ((a1:Int) < 0))))then((W ((W (0 - (W (iW .u64 ((bO 64 (iW .u64 ((bY (eK a0) (eK a1)).1*2 ^ (min (tN 44) 64))) ||| bO 64 (fD (bY (eK a0) (eK a1)).2 (2 ^ (min (tN 20) 64)))).toNat:Int))))) - 0)),(W (0 - (W (iW .u64 ((bO 64 (iW .u64 ((bY (eK a0) (eK a1)).1*2 ^ (min (tN 44) 64))) ||| bO 64 (fD (bY (eK a0) (eK a1)).2 (2 ^ (min (tN 20) 64)))).toNat:Int))))))else((W (iW .u64 ((bO 64 (iW .u64 ((bY (eK a0) (eK a1)).1*2 ^ (min (tN 44) 64))) ||| bO 64 (fD (bY (eK a0) (eK a1)).2 (2 ^ (min (tN 20) 64)))).toNat:Int))),(W ((W (iW .u64 ((bO 64 (iW .u64 ((bY (eK a0) (eK a1)).1*2 ^ (min (tN 44) 64))) ||| bO 64 (fD (bY (eK a0) (eK a1)).2 (2 ^ (min (tN 20) 64)))).toNat:Int)))+0)))))
theorem bDf (a0 a1:Int):Con Tryz.prog 178 [(iv a0),(iv a1)] [] (.t (k2 (iV a0 a1))) []:=by
 refine cS Tryz.func178 fun cx hcx=>?_
 let t0:SL:=[.c [] (aVy a0),.c [] (aVy a1),.c [] (aZi (eK a0) (eK a1)),.p (show 0<=(44:Int) from by decide),.p (show 0<=(20:Int) from by decide),.p (show(1048576:Int)≠0 from by decide)];rw [iV];cases h0:(((mD (bY (eK a0) (eK a1)).2 1048576):Int) != 0)
 case true=>
  let t1:SL:=t0++[.d h0];cases h1:(!((decide ((a0:Int) < 0)) == (decide ((a1:Int) < 0))))
  case true=>exact rT (t1++[.d h1]) hcx
  exact rT (t1++[.d h1]) hcx
 let t1:SL:=t0++[.d h0];cases h1:(!((decide ((a0:Int) < 0)) == (decide ((a1:Int) < 0))))
 case true=>exact rT (t1++[.d h1]) hcx
 exact rT (t1++[.d h1]) hcx
noncomputable def tX:=aU [1,1,1,1,0,1] [] (aV Tryz.f149) []
def uV (a0 a1:Zs)(v7c:List SV)(v7n:Nat)(v8c:List SV)(v8n:Nat)(v9 v10 v11:Int):LS:=⟨gU 77 [(4,(.p 0 0)),(6,(.s 1 0 v7n 1)),(7,(.s 2 0 v8n 1)),(8,(iv v9)),(9,(iv v10)),(10,(iv v11))],[(.live true false [(iv 0),(iv 0)]),(.live true true v7c),(.live true true v8c)]⟩
def tY (a0 a1:Zs):ZL×ZL×Zt->(ZL×ZL×Zt)⊕(Zs×Int) | (v7,v8,v9,v10,v11) => (bif (decide ((v11:Int) < 4))then(bif (decide (((iV (v7.getD (tN v11) dF) (v8.getD (tN v11) dF)).1:Int) < v9))then(bif (decide (((iV (v7.getD (tN v11) dF) (v8.getD (tN v11) dF)).2:Int) > v10))then(.inl (v7,v8,(iV (v7.getD (tN v11) dF) (v8.getD (tN v11) dF)).1,(iV (v7.getD (tN v11) dF) (v8.getD (tN v11) dF)).2,(v11+1)))else(.inl (v7,v8,(iV (v7.getD (tN v11) dF) (v8.getD (tN v11) dF)).1,v10,(v11+1))))else(bif (decide (((iV (v7.getD (tN v11) dF) (v8.getD (tN v11) dF)).2:Int) > v10))then(.inl (v7,v8,v9,(iV (v7.getD (tN v11) dF) (v8.getD (tN v11) dF)).2,(v11+1)))else(.inl (v7,v8,v9,v10,(v11+1)))))else(.inr ((F72 v9 v10).1,(F72 v9 v10).2)))
theorem bAj (a0 a1:Zs) {cx:Cx} (hcx:cx.base=0):∀(n:Nat) (v7 v8:ZL) (v9 v10 v11:Int),(0<=v11)/\(v7.length=4)/\(v8.length=4)->tN (4 - v11) < n->gG Tryz.f149 cx (.t [(.a (k2 (aG (tY a0 a1) n (v7,v8,v9,v10,v11)).1)),(iv (aG (tY a0 a1) n (v7,v8,v9,v10,v11)).2)]) [] [] (.l tX.1 n::tX.2) (uV a0 a1 (flat c3 v7) v7.length (flat c3 v8) v8.length v9 v10 v11):=by
 intro n
 induction n with|zero=>intro v7 v8 v9 v10 v11 hi hn;exact absurd hn (dX _)|succ n ih=>?_
 intro v7 v8 v9 v10 v11 hi hn;refine aN ?_;rw [aZ,tY];cases h0:(decide ((v11:Int) < 4))
 case true=>
  have q0:=eS h0;let t1:SL:=[.d h0,.i v11 (v7.length),.L aF v7 v11 0 1,.i v11 (v8.length),.L aF v8 v11 0 1,.c [] (bDf (v7.getD (tN v11) dF) (v8.getD (tN v11) dF))];cases h1:(decide (((iV (v7.getD (tN v11) dF) (v8.getD (tN v11) dF)).1:Int) < v9))
  case true=>
   let t2:SL:=t1++[.d h1];cases h2:(decide (((iV (v7.getD (tN v11) dF) (v8.getD (tN v11) dF)).2:Int) > v10))
   case true=>refine bA n (t2++[.d h2]) [4,6,7,8,9,10] [0,1,2] hcx tX (uV a0 a1 (flat c3 v7) (v7.length) (flat c3 v8) (v8.length) ((iV (v7.getD (tN v11) dF) (v8.getD (tN v11) dF)).1) ((iV (v7.getD (tN v11) dF) (v8.getD (tN v11) dF)).2) (W (v11+1))) ?_;have z0:(W (v11+1))=(v11+1):=aH oM oM;rw [z0];exact ih _ _ _ _ _ oR oM
   refine bA n (t2++[.d h2]) [4,6,7,8,9,10] [0,1,2] hcx tX (uV a0 a1 (flat c3 v7) (v7.length) (flat c3 v8) (v8.length) ((iV (v7.getD (tN v11) dF) (v8.getD (tN v11) dF)).1) v10 (W (v11+1))) ?_;have z0:(W (v11+1))=(v11+1):=aH oM oM;rw [z0];exact ih _ _ _ _ _ oR oM
  let t2:SL:=t1++[.d h1];cases h2:(decide (((iV (v7.getD (tN v11) dF) (v8.getD (tN v11) dF)).2:Int) > v10))
  case true=>refine bA n (t2++[.d h2]) [4,6,7,8,9,10] [0,1,2] hcx tX (uV a0 a1 (flat c3 v7) (v7.length) (flat c3 v8) (v8.length) v9 ((iV (v7.getD (tN v11) dF) (v8.getD (tN v11) dF)).2) (W (v11+1))) ?_;have z0:(W (v11+1))=(v11+1):=aH oM oM;rw [z0];exact ih _ _ _ _ _ oR oM
  refine bA n (t2++[.d h2]) [4,6,7,8,9,10] [0,1,2] hcx tX (uV a0 a1 (flat c3 v7) (v7.length) (flat c3 v8) (v8.length) v9 v10 (W (v11+1))) ?_;have z0:(W (v11+1))=(v11+1):=aH oM oM;rw [z0];exact ih _ _ _ _ _ oR oM
 exact rT [.d h0,.c [] (C72 v9 v10)] hcx
def aBg (a0 a1:Zs):Zs×Int := (bif (!(xE a0))then((0,0),1)else(bif (!(xE a1))then((0,0),1)else(aG (tY a0 a1) (tN (4 - 0)+1) (([a0.1,a0.1,a0.2,a0.2]:ZL),([a1.1,a1.2,a1.1,a1.2]:ZL),(iV a0.1 a1.1).1,(iV a0.1 a1.1).2,0))))
theorem bDg (a0 a1:Zs):Con Tryz.prog 149 [(.a [(iv a0.1),(iv a0.2)]),(.a [(iv a1.1),(iv a1.2)])] [] (.t [(.a (k2 (aBg a0 a1).1)),(iv (aBg a0 a1).2)]) []:=by
 refine cS Tryz.func149 fun cx hcx=>?_
 let t0:SL:=[.c [] (C68 a0)];rw [aBg];cases h0:(!(xE a0))
 case true=>exact rT (t0++[.d h0]) hcx
 let t1:SL:=t0++[.d h0,.c [] (C68 a1)];cases h1:(!(xE a1))
 case true=>exact rT (t1++[.d h1]) hcx
 refine en (t1++[.d h1,.c [] (bDf a0.1 a1.1)]) [.sym 3 true,.sym 4 true] [4,6,7,8,9,10] [2,3,4] hcx tX.1 tX.2 (uV a0 a1 (flat c3 ([a0.1,a0.1,a0.2,a0.2]:ZL)) 4 (flat c3 ([a1.1,a1.2,a1.1,a1.2]:ZL)) 4 ((iV a0.1 a1.1).1) ((iV a0.1 a1.1).2) 0) (tN (4 - 0)+1) oK ?_;exact bAj a0 a1 hcx (tN (4 - 0)+1) ([a0.1,a0.1,a0.2,a0.2]:ZL) ([a1.1,a1.2,a1.1,a1.2]:ZL) ((iV a0.1 a1.1).1) ((iV a0.1 a1.1).2) 0 oR oM
theorem aB7 {n:Int} (h0:0<=n)(h:n < 4611686018427387904):IsRt n (iE n):=by
 unfold iE;refine aF7 (n:=n) (fun k b hk hb hkb=>?_) (fun k=>?_) 30 _ 0 (by decide) oM (by decide) oM (by simpa using h)
 ·have h2:decide (b > 0)=true:=by simpa using hb
  have hw:W (k+b)=k+b:=aH oM oM;have hq:=aRr (a:=k+b) oM hkb;have hw2:W ((k+b)*(k+b))=(k+b)*(k+b):=aH oM oM;have hd:W (tD b 2)=b / 2:=by rw [Int.tdiv_eq_ediv_of_nonneg oM];exact aH oM oM
  simp only [aEo,h2,cond_true,hw,hw2];by_cases hc:(k+b)*(k+b)<=n<;>simp [hc,hd]
 ·simp [aEo]
theorem aM8 {n k:Int} (hk:0<=k/\k<=1073741824):(F63 n<=k/\n≥W (0 - k))↔(-k<=n/\n<=k):=by
 have e:W (0 - k)=0 - k:=aH oM oM;rw [e];unfold F63;constructor
 ·rintro ⟨h1,h2⟩
  split at h1<;>omega
 ·intro h;rw [aH (n:=0 - n) oM oM];constructor
  ·split<;>omega
  ·omega
theorem sD {p:Zt} {k:Int} (hk:0<=k/\k<=1073741824):zG p k=true↔(-k<=p.1/\p.1<=k)/\(-k<=p.2.1/\p.2.1<=k)/\(-k<=p.2.2/\p.2.2<=k):=by
 rw [←aM8 (n:=p.1) hk,←aM8 (n:=p.2.1) hk,←aM8 (n:=p.2.2) hk];unfold zG;by_cases h1:F63 p.1<=k<;>by_cases h2:F63 p.2.1<=k<;>by_cases h3:F63 p.2.2<=k<;>by_cases h4:p.1≥W (0 - k)<;>by_cases h5:p.2.1≥W (0 - k)<;>simp [h1,h2,h3,h4,h5]
theorem sE {p:Zt} {k:Int} (hk:0<=k/\k<=1073741824):F91 p k=zG p k:=by
 rw [Bool.eq_iff_iff,aUd hk,sD hk]
theorem aLa {u:Zt} (hb:(-384<=u.1/\u.1<=384)/\(-384<=u.2.1/\u.2.1<=384)/\(-384<=u.2.2/\u.2.2<=384)):bP u=n2 u:=by
 rw [←aAm hb];rfl
theorem bDh {u:Zt} (h:(!(zG u 384))=false)(hn:¬bP u=0):UOK u:=by
 have hb:=(sD (k:=384) oM).1 (by simpa using h);refine⟨hb,?_⟩;rw [aLa hb] at hn;by_cases a:u.1=0
 ·by_cases b:u.2.1=0
  ·by_cases c:u.2.2=0
   ·exfalso;apply hn;unfold n2;rw [a,b,c];rfl
   ·exact .inr (.inr c)
  ·exact .inr (.inl b)
 ·exact .inl a
theorem aIl {u:Zt} (h:(!(zG u 384))=false)(hn:¬bP u=0):W (3*(bP u))≠0/\W ((W (24*(bP u)))*(bP u))≠0:=by
 have hU:=bDh h hn;have e:bP u=dC u u:=rfl;rw [e];have h1:=bAa hU;have h2:=bAb hU;omega
theorem aIm {n:Int} (h:0<=n/\n<=442368):W (W (n*1048576)*1048576)=n*1099511627776:=by
 rw [aH (n:=n*1048576) oM oM,show n*1048576*1048576=n*1099511627776 by omega,aH oM oM]
theorem aX5 {u:Zt} (hb:(-384<=u.1/\u.1<=384)/\(-384<=u.2.1/\u.2.1<=384)/\(-384<=u.2.2/\u.2.2<=384)):0<=n2 u/\n2 u<=442368:=by
 obtain⟨a1,a2,a3⟩:=yX hb.1;obtain⟨b1,b2,b3⟩:=yX hb.2.1;obtain⟨c1,c2,c3⟩:=yX hb.2.2;unfold n2;omega
theorem aPf {n r:Int} (h:IsRt n r)(hn:n < 4611686018427387904):0<=r/\r < 2147483648:=by
 obtain⟨h0,h1,h2⟩:=h;refine⟨h0,?_⟩;rcases Int.lt_or_le r 2147483648 with h | h
 ·exact h
 ·have:(2147483648:Int)*2147483648<=r*r:=Int.mul_le_mul h h oM oM;omega
theorem bAk {n:Int} (h0:0<=n)(h:n < 4611686018427387904):0<=lG n/\lG n<=2147483648:=by
 have hr:=aPf (aB7 h0 h) h;unfold lG;rw [aH (n:=iE n+1) oM oM,Bool.cond_eq_ite];split<;>omega
theorem bDi {a:Int} {u:Zt} (h1:¬a < 0)(h2:¬a > 131072)(h3:(!(zG u 384))=false) :
 (0<=lG (W ((W (a*1048576))*1048576))/\lG (W ((W (a*1048576))*1048576))<=2147483648)/\0<=iE (W ((W ((bP u)*1048576))*1048576))/\iE (W ((W ((bP u)*1048576))*1048576)) < 2147483648:=by
 have hb:=(sD (k:=384) oM).1 (by simpa using h3);have hn:=aX5 hb;rw [aLa hb,aIm (n:=a) oM,aIm (n:=n2 u) hn];exact⟨bAk oM oM,aPf (aB7 oM oM) oM⟩
def qC (a0 a1:Int):Zs×Int := (bif (decide (((mD a0 a1):Int) < 0))then(bif (decide (((W ((W (tD a0 a1)) - 1)):Int) > 1048576))then((0,0),4)else(bif (decide (((W ((W (tD a0 a1)) - 1)):Int) < (-1048577)))then((0,0),4)else(bif (((mD (W ((W ((mD a0 a1)+a1))*1048576)) a1):Int) != 0)then(bif (!(xE ((W ((W ((W ((W (tD a0 a1)) - 1))*1048576))+(W (tD (W ((W ((mD a0 a1)+a1))*1048576)) a1)))),(W ((W ((W ((W ((W (tD a0 a1)) - 1))*1048576))+(W (tD (W ((W ((mD a0 a1)+a1))*1048576)) a1))))+1)))))then((0,0),4)else(((W ((W ((W ((W (tD a0 a1)) - 1))*1048576))+(W (tD (W ((W ((mD a0 a1)+a1))*1048576)) a1)))),(W ((W ((W ((W ((W (tD a0 a1)) - 1))*1048576))+(W (tD (W ((W ((mD a0 a1)+a1))*1048576)) a1))))+1))),0))else(bif (!(xE ((W ((W ((W ((W (tD a0 a1)) - 1))*1048576))+(W (tD (W ((W ((mD a0 a1)+a1))*1048576)) a1)))),(W ((W ((W ((W (tD a0 a1)) - 1))*1048576))+(W (tD (W ((W ((mD a0 a1)+a1))*1048576)) a1)))))))then((0,0),4)else(((W ((W ((W ((W (tD a0 a1)) - 1))*1048576))+(W (tD (W ((W ((mD a0 a1)+a1))*1048576)) a1)))),(W ((W ((W ((W (tD a0 a1)) - 1))*1048576))+(W (tD (W ((W ((mD a0 a1)+a1))*1048576)) a1))))),0)))))else(bif (decide (((W (tD a0 a1)):Int) > 1048576))then((0,0),4)else(bif (decide (((W (tD a0 a1)):Int) < (-1048577)))then((0,0),4)else(bif (((mD (W ((mD a0 a1)*1048576)) a1):Int) != 0)then(bif (!(xE ((W ((W ((W (tD a0 a1))*1048576))+(W (tD (W ((mD a0 a1)*1048576)) a1)))),(W ((W ((W ((W (tD a0 a1))*1048576))+(W (tD (W ((mD a0 a1)*1048576)) a1))))+1)))))then((0,0),4)else(((W ((W ((W (tD a0 a1))*1048576))+(W (tD (W ((mD a0 a1)*1048576)) a1)))),(W ((W ((W ((W (tD a0 a1))*1048576))+(W (tD (W ((mD a0 a1)*1048576)) a1))))+1))),0))else(bif (!(xE ((W ((W ((W (tD a0 a1))*1048576))+(W (tD (W ((mD a0 a1)*1048576)) a1)))),(W ((W ((W (tD a0 a1))*1048576))+(W (tD (W ((mD a0 a1)*1048576)) a1)))))))then((0,0),4)else(((W ((W ((W (tD a0 a1))*1048576))+(W (tD (W ((mD a0 a1)*1048576)) a1)))),(W ((W ((W (tD a0 a1))*1048576))+(W (tD (W ((mD a0 a1)*1048576)) a1))))),0))))))
theorem bDj (a0 a1:Int)(hd:a1≠0):Con Tryz.prog 148 [(iv a0),(iv a1)] [] (.t [(.a (k2 (qC a0 a1).1)),(iv (qC a0 a1).2)]) []:=by
 refine cS Tryz.func148 fun cx hcx=>?_
 let t0:SL:=[.p (show(a1:Int)≠0 from by first | omega | (rw [aH]<;>omega) | exact dZ _),.p (show(a1:Int)≠0 from by first | omega | (rw [aH]<;>omega) | exact dZ _)];rw [qC];cases h0:(decide (((mD a0 a1):Int) < 0))
 case true=>
  let t1:SL:=t0++[.d h0];cases h1:(decide (((W ((W (tD a0 a1)) - 1)):Int) > 1048576))
  case true=>exact rT (t1++[.d h1]) hcx
  let t2:SL:=t1++[.d h1];cases h2:(decide (((W ((W (tD a0 a1)) - 1)):Int) < (-1048577)))
  case true=>exact rT (t2++[.d h2]) hcx
  let t3:SL:=t2++[.d h2,.p (show(a1:Int)≠0 from by first | omega | (rw [aH]<;>omega) | exact dZ _),.p (show(a1:Int)≠0 from by first | omega | (rw [aH]<;>omega) | exact dZ _)];cases h3:(((mD (W ((W ((mD a0 a1)+a1))*1048576)) a1):Int) != 0)
  case true=>
   let t4:SL:=t3++[.d h3,.c [] (C68 ((W ((W ((W ((W (tD a0 a1)) - 1))*1048576))+(W (tD (W ((W ((mD a0 a1)+a1))*1048576)) a1)))),(W ((W ((W ((W ((W (tD a0 a1)) - 1))*1048576))+(W (tD (W ((W ((mD a0 a1)+a1))*1048576)) a1))))+1))))];cases h4:(!(xE ((W ((W ((W ((W (tD a0 a1)) - 1))*1048576))+(W (tD (W ((W ((mD a0 a1)+a1))*1048576)) a1)))),(W ((W ((W ((W ((W (tD a0 a1)) - 1))*1048576))+(W (tD (W ((W ((mD a0 a1)+a1))*1048576)) a1))))+1)))))
   case true=>exact rT (t4++[.d h4]) hcx
   exact rT (t4++[.d h4]) hcx
  let t4:SL:=t3++[.d h3,.c [] (C68 ((W ((W ((W ((W (tD a0 a1)) - 1))*1048576))+(W (tD (W ((W ((mD a0 a1)+a1))*1048576)) a1)))),(W ((W ((W ((W (tD a0 a1)) - 1))*1048576))+(W (tD (W ((W ((mD a0 a1)+a1))*1048576)) a1))))))];cases h4:(!(xE ((W ((W ((W ((W (tD a0 a1)) - 1))*1048576))+(W (tD (W ((W ((mD a0 a1)+a1))*1048576)) a1)))),(W ((W ((W ((W (tD a0 a1)) - 1))*1048576))+(W (tD (W ((W ((mD a0 a1)+a1))*1048576)) a1)))))))
  case true=>exact rT (t4++[.d h4]) hcx
  exact rT (t4++[.d h4]) hcx
 let t1:SL:=t0++[.d h0];cases h1:(decide (((W (tD a0 a1)):Int) > 1048576))
 case true=>exact rT (t1++[.d h1]) hcx
 let t2:SL:=t1++[.d h1];cases h2:(decide (((W (tD a0 a1)):Int) < (-1048577)))
 case true=>exact rT (t2++[.d h2]) hcx
 let t3:SL:=t2++[.d h2,.p (show(a1:Int)≠0 from by first | omega | (rw [aH]<;>omega) | exact dZ _),.p (show(a1:Int)≠0 from by first | omega | (rw [aH]<;>omega) | exact dZ _)];cases h3:(((mD (W ((mD a0 a1)*1048576)) a1):Int) != 0)
 case true=>
  let t4:SL:=t3++[.d h3,.c [] (C68 ((W ((W ((W (tD a0 a1))*1048576))+(W (tD (W ((mD a0 a1)*1048576)) a1)))),(W ((W ((W ((W (tD a0 a1))*1048576))+(W (tD (W ((mD a0 a1)*1048576)) a1))))+1))))];cases h4:(!(xE ((W ((W ((W (tD a0 a1))*1048576))+(W (tD (W ((mD a0 a1)*1048576)) a1)))),(W ((W ((W ((W (tD a0 a1))*1048576))+(W (tD (W ((mD a0 a1)*1048576)) a1))))+1)))))
  case true=>exact rT (t4++[.d h4]) hcx
  exact rT (t4++[.d h4]) hcx
 let t4:SL:=t3++[.d h3,.c [] (C68 ((W ((W ((W (tD a0 a1))*1048576))+(W (tD (W ((mD a0 a1)*1048576)) a1)))),(W ((W ((W (tD a0 a1))*1048576))+(W (tD (W ((mD a0 a1)*1048576)) a1))))))];cases h4:(!(xE ((W ((W ((W (tD a0 a1))*1048576))+(W (tD (W ((mD a0 a1)*1048576)) a1)))),(W ((W ((W (tD a0 a1))*1048576))+(W (tD (W ((mD a0 a1)*1048576)) a1)))))))
 case true=>exact rT (t4++[.d h4]) hcx
 exact rT (t4++[.d h4]) hcx
def xD (a0:jY)(a1:Zt)(a2:Int):Zs×Int := (bif (((vC a0):Int) != 0)then((0,0),1)else(bif (!(zG a1 384))then((0,0),1)else(bif (decide ((a2:Int) < 0))then((0,0),1)else(bif (decide ((a2:Int) > 2))then((0,0),1)else(bif (((bP a1):Int) == 0)then((0,0),11)else(bif (((oC (bP a1) 1).2:Int) != 0)then((0,0),(oC (bP a1) 1).2)else(bif ((a2:Int) == 0)then((F36 (oC (bP a1) 1).1 a0.1).1,(F36 (oC (bP a1) 1).1 a0.1).2)else(bif ((a2:Int) == 2)then(bif (((qC (W ((W (3*(aEm a0 a1))) - (W ((bP a1)*(W ((W (a0.2.2.2.1+a0.2.2.2.2.2.2.1))+a0.2.2.2.2.2.2.2.2)))))) (W ((W (24*(bP a1)))*(bP a1)))).2:Int) != 0)then((0,0),(qC (W ((W (3*(aEm a0 a1))) - (W ((bP a1)*(W ((W (a0.2.2.2.1+a0.2.2.2.2.2.2.1))+a0.2.2.2.2.2.2.2.2)))))) (W ((W (24*(bP a1)))*(bP a1)))).2)else((aBg (qC (W ((W (3*(aEm a0 a1))) - (W ((bP a1)*(W ((W (a0.2.2.2.1+a0.2.2.2.2.2.2.1))+a0.2.2.2.2.2.2.2.2)))))) (W ((W (24*(bP a1)))*(bP a1)))).1 (oC (bP a1) 1).1).1,(aBg (qC (W ((W (3*(aEm a0 a1))) - (W ((bP a1)*(W ((W (a0.2.2.2.1+a0.2.2.2.2.2.2.1))+a0.2.2.2.2.2.2.2.2)))))) (W ((W (24*(bP a1)))*(bP a1)))).1 (oC (bP a1) 1).1).2))else(bif (((qC (W ((W ((W (a0.2.2.1.1*a1.1))+(W (a0.2.2.1.2.1*a1.2.1))))+(W (a0.2.2.1.2.2*a1.2.2)))) (W (3*(bP a1)))).2:Int) != 0)then((0,0),(qC (W ((W ((W (a0.2.2.1.1*a1.1))+(W (a0.2.2.1.2.1*a1.2.1))))+(W (a0.2.2.1.2.2*a1.2.2)))) (W (3*(bP a1)))).2)else((aBg (qC (W ((W ((W (a0.2.2.1.1*a1.1))+(W (a0.2.2.1.2.1*a1.2.1))))+(W (a0.2.2.1.2.2*a1.2.2)))) (W (3*(bP a1)))).1 (oC (bP a1) 1).1).1,(aBg (qC (W ((W ((W (a0.2.2.1.1*a1.1))+(W (a0.2.2.1.2.1*a1.2.1))))+(W (a0.2.2.1.2.2*a1.2.2)))) (W (3*(bP a1)))).1 (oC (bP a1) 1).1).2))))))))))
theorem bFt (a0:jY)(a1:Zt)(a2:Int):Con Tryz.prog 105 [(.a (kS1 a0)),(.a (k3 a1)),(iv a2)] [] (.t [(.a (k2 (xD a0 a1 a2).1)),(iv (xD a0 a1 a2).2)]) []:=by
 refine cS Tryz.func105 fun cx hcx=>?_
 let t0:SL:=[.c [] (bDc a0)];rw [xD];cases h0:(((vC a0):Int) != 0)
 case true=>exact rT (t0++[.d h0]) hcx
 let t1:SL:=t0++[.d h0,.c [] (C59 a1 384)];cases h1:(!(zG a1 384))
 case true=>exact rT (t1++[.d h1]) hcx
 let t2:SL:=t1++[.d h1];cases h2:(decide ((a2:Int) < 0))
 case true=>exact rT (t2++[.d h2]) hcx
 let t3:SL:=t2++[.d h2];cases h3:(decide ((a2:Int) > 2))
 case true=>exact rT (t3++[.d h3]) hcx
 let t4:SL:=t3++[.d h3,.c [] (aP2 a1)];cases h4:(((bP a1):Int) == 0)
 case true=>exact rT (t4++[.d h4]) hcx
 have q4:=ne_of_beq_false h4;let t5:SL:=t4++[.d h4,.c [] (aYz (bP a1) 1)];cases h5:(((oC (bP a1) 1).2:Int) != 0)
 case true=>exact rT (t5++[.d h5]) hcx
 let t6:SL:=t5++[.d h5];cases h6:((a2:Int) == 0)
 case true=>exact rT (t6++[.d h6,.c [] (C36 (oC (bP a1) 1).1 a0.1)]) hcx
 let t7:SL:=t6++[.d h6];cases h7:((a2:Int) == 2)
 case true=>
  let t8:SL:=t7++[.d h7,.c [] (bFr a0 a1),.i 0 6,.i 3 6,.i 5 6,.c [] (bDj (W ((W (3*(aEm a0 a1))) - (W ((bP a1)*(W ((W (a0.2.2.2.1+a0.2.2.2.2.2.2.1))+a0.2.2.2.2.2.2.2.2)))))) (W ((W (24*(bP a1)))*(bP a1)))  (by first | exact(aIl h1 q4).1 | exact(aIl h1 q4).2))];cases h8:(((qC (W ((W (3*(aEm a0 a1))) - (W ((bP a1)*(W ((W (a0.2.2.2.1+a0.2.2.2.2.2.2.1))+a0.2.2.2.2.2.2.2.2)))))) (W ((W (24*(bP a1)))*(bP a1)))).2:Int) != 0)
  case true=>exact rT (t8++[.d h8]) hcx
  exact rT (t8++[.d h8,.c [] (bDg (qC (W ((W (3*(aEm a0 a1))) - (W ((bP a1)*(W ((W (a0.2.2.2.1+a0.2.2.2.2.2.2.1))+a0.2.2.2.2.2.2.2.2)))))) (W ((W (24*(bP a1)))*(bP a1)))).1 (oC (bP a1) 1).1)]) hcx
 let t8:SL:=t7++[.d h7,.c [] (bDj (W ((W ((W (a0.2.2.1.1*a1.1))+(W (a0.2.2.1.2.1*a1.2.1))))+(W (a0.2.2.1.2.2*a1.2.2)))) (W (3*(bP a1)))  (by first | exact(aIl h1 q4).1 | exact(aIl h1 q4).2))];cases h8:(((qC (W ((W ((W (a0.2.2.1.1*a1.1))+(W (a0.2.2.1.2.1*a1.2.1))))+(W (a0.2.2.1.2.2*a1.2.2)))) (W (3*(bP a1)))).2:Int) != 0)
 case true=>exact rT (t8++[.d h8]) hcx
 exact rT (t8++[.d h8,.c [] (bDg (qC (W ((W ((W (a0.2.2.1.1*a1.1))+(W (a0.2.2.1.2.1*a1.2.1))))+(W (a0.2.2.1.2.2*a1.2.2)))) (W (3*(bP a1)))).1 (oC (bP a1) 1).1)]) hcx
noncomputable def aLb:=aU [1,1,1,0,1] [] (aV Tryz.f66) []
def aM9 (a0:jY)(a1:Zt)(a2:Int)(v2c:List SV)(v2n:Nat)(v3:Int):LS:=⟨gU 53 [(2,(iv a2)),(3,(.p 0 0)),(4,(.p 1 0)),(6,(.p 2 0)),(8,(.s 3 0 v2n 2)),(9,(iv v3))],[(.live true false (kS1 a0)),(.live true false (k3 a1)),(.live true false [(iv 0),(iv 0)]),(.live true true v2c)]⟩
def tZ (a0:jY)(a1:Zt)(a2:Int):(List Zs)×Int->((List Zs)×Int)⊕(Zs×Int) | (v2,v3) => (bif (decide ((v3:Int)<=a2))then(bif (((xD a0 a1 v3).2:Int) != 0)then(.inr ((0,0),(xD a0 a1 v3).2))else(.inl ((v2++[(xD a0 a1 v3).1]),(v3+1))))else(.inr ((vM v2).1,(vM v2).2)))
theorem bDk (a0:jY)(a1:Zt)(a2:Int) {cx:Cx} (hcx:cx.base=0):∀(n:Nat) (v2:List Zs) (v3:Int),(0<=v3)/\(v2.length<=v3)/\(a2<=2)/\(v3<=3)->tN (a2 - v3+1) < n->gG Tryz.f66 cx (.t [(.a (k2 (aG (tZ a0 a1 a2) n (v2,v3)).1)),(iv (aG (tZ a0 a1 a2) n (v2,v3)).2)]) [] [] (.l aLb.1 n::aLb.2) (aM9 a0 a1 a2 (flat lF v2) v2.length v3):=by
 intro n
 induction n with|zero=>intro v2 v3 hi hn;exact absurd hn (dX _)|succ n ih=>?_
 intro v2 v3 hi hn;refine aN ?_;rw [aZ,tZ];cases h0:(decide ((v3:Int)<=a2))
 case true=>
  have q0:=eS h0;let t1:SL:=[.d h0,.c [] (bFt a0 a1 v3)];cases h1:(((xD a0 a1 v3).2:Int) != 0)
  case true=>exact rT (t1++[.d h1]) hcx
  refine bA n (t1++[.d h1,.p (show((flat lF v2).length=v2.length*2/\v2.length+1<=2 ^ 40/\(v2.length+1)*16<=2 ^ 47) from iS kA oM oM)]) [2,3,4,6,8,9] [0,1,2,6] hcx aLb (aM9 a0 a1 a2 (flat lF v2++(k2 (xD a0 a1 v3).1)) (v2.length+1) (W (v3+1))) ?_;have z0:(W (v3+1))=(v3+1):=aH oM oM;have z1:(flat lF v2++(k2 (xD a0 a1 v3).1))=_:=(bQ (c:=lF) (l:=v2) (m:=[(xD a0 a1 v3).1])).symm;have z2:(v2.length+1)=_:=jN v2 [(xD a0 a1 v3).1] rfl;rw [z0,z1,z2];exact ih _ _ oR oM
 exact rT [.d h0,.c [3] (aW7 v2 oM)] hcx
def F66 (a0:jY)(a1:Zt)(a2:Int):Zs×Int := (bif (((vC a0):Int) != 0)then((0,0),1)else(bif (!(zG a1 384))then((0,0),1)else(bif (decide ((a2:Int) < 0))then((0,0),1)else(bif (decide ((a2:Int) > 2))then((0,0),1)else(aG (tZ a0 a1 a2) (tN (a2 - 0+1)+1) (([]:List Zs),0))))))
theorem C66 (a0:jY)(a1:Zt)(a2:Int):Con Tryz.prog 66 [(.a (kS1 a0)),(.a (k3 a1)),(iv a2)] [] (.t [(.a (k2 (F66 a0 a1 a2).1)),(iv (F66 a0 a1 a2).2)]) []:=by
 refine cS Tryz.func66 fun cx hcx=>?_
 let t0:SL:=[.c [] (bDc a0)];rw [F66];cases h0:(((vC a0):Int) != 0)
 case true=>exact rT (t0++[.d h0]) hcx
 let t1:SL:=t0++[.d h0,.c [] (C59 a1 384)];cases h1:(!(zG a1 384))
 case true=>exact rT (t1++[.d h1]) hcx
 let t2:SL:=t1++[.d h1];cases h2:(decide ((a2:Int) < 0))
 case true=>exact rT (t2++[.d h2]) hcx
 have q2:=iF h2;let t3:SL:=t2++[.d h2];cases h3:(decide ((a2:Int) > 2))
 case true=>exact rT (t3++[.d h3]) hcx
 have q3:=iF h3;refine en (t3++[.d h3]) [.slot 8 2] [2,3,4,6,8,9] [0,1,2,3] hcx aLb.1 aLb.2 (aM9 a0 a1 a2 (flat lF ([]:List Zs)) 0 0) (tN (a2 - 0+1)+1) oK ?_;exact bDk a0 a1 a2 hcx (tN (a2 - 0+1)+1) ([]:List Zs) 0 oR oM
noncomputable def aPg:=aU [1,1,1,1,1,1,0,1] [] (aV Tryz.f67) []
def aNa (a0 a1:Int)(a2:Zt)(a3:Int)(v1 v2:Int):LS:=⟨gU 80 [(0,(iv a0)),(3,(iv a3)),(10,(iv (lG (W ((W (a1*1048576))*1048576))))),(11,(iv (iE (W ((W ((bP a2)*1048576))*1048576))))),(12,(iv (iZ (W ((lG (W ((W (a1*1048576))*1048576)))*1048576)) (iE (W ((W ((bP a2)*1048576))*1048576)))))),(13,(iv v1)),(14,(iv v2))],[]⟩
def aA8 (a0 a1:Int)(a2:Zt)(a3:Int):Zs->Zs⊕Zs | (v1,v2) => (bif (decide ((v2:Int) < a3))then(.inl ((iZ (W (v1*(iZ (W ((lG (W ((W (a1*1048576))*1048576)))*1048576)) (iE (W ((W ((bP a2)*1048576))*1048576)))))) 1048576),(v2+1)))else(bif (decide (((iZ (W ((W (a0*v1))*1048576)) (W ((iE (W ((W ((bP a2)*1048576))*1048576))) - (lG (W ((W (a1*1048576))*1048576)))))):Int) > 1099511627776))then(.inr (0,4))else(.inr ((iZ (W ((W (a0*v1))*1048576)) (W ((iE (W ((W ((bP a2)*1048576))*1048576))) - (lG (W ((W (a1*1048576))*1048576)))))),0))))
theorem bDl (a0 a1:Int)(a2:Zt)(a3:Int) {cx:Cx} (hcx:cx.base=0):∀(n:Nat) (v1 v2:Int),(0<=v2)/\(a3<=2)/\(0<=(lG (W ((W (a1*1048576))*1048576))))/\((lG (W ((W (a1*1048576))*1048576))) < (iE (W ((W ((bP a2)*1048576))*1048576))))/\((iE (W ((W ((bP a2)*1048576))*1048576))) < 2147483648)->tN (a3 - v2) < n->gG Tryz.f67 cx (.t (k2 (aG (aA8 a0 a1 a2 a3) n (v1,v2)))) [] [] (.l aPg.1 n::aPg.2) (aNa a0 a1 a2 a3 v1 v2):=by
 intro n
 induction n with|zero=>intro v1 v2 hi hn;exact absurd hn (dX _)|succ n ih=>?_
 intro v1 v2 hi hn;refine aN ?_;have hw2:=aH (n:=(iE (W ((W ((bP a2)*1048576))*1048576))) - (lG (W ((W (a1*1048576))*1048576)))) oM oM;rw [aZ,aA8];cases h0:(decide ((v2:Int) < a3))
 case true=>have q0:=eS h0;refine bA n [.d h0,.c [] (bAi (W (v1*(iZ (W ((lG (W ((W (a1*1048576))*1048576)))*1048576)) (iE (W ((W ((bP a2)*1048576))*1048576)))))) 1048576  oM)] [0,3,10,11,12,13,14] [] hcx aPg (aNa a0 a1 a2 a3 (iZ (W (v1*(iZ (W ((lG (W ((W (a1*1048576))*1048576)))*1048576)) (iE (W ((W ((bP a2)*1048576))*1048576)))))) 1048576) (W (v2+1))) ?_;have z0:(W (v2+1))=(v2+1):=aH oM oM;rw [z0];exact ih _ _ oR oM
 let t1:SL:=[.d h0,.c [] (bAi (W ((W (a0*v1))*1048576)) (W ((iE (W ((W ((bP a2)*1048576))*1048576))) - (lG (W ((W (a1*1048576))*1048576)))))  oM)];cases h1:(decide (((iZ (W ((W (a0*v1))*1048576)) (W ((iE (W ((W ((bP a2)*1048576))*1048576))) - (lG (W ((W (a1*1048576))*1048576)))))):Int) > 1099511627776))
 case true=>exact rT (t1++[.d h1]) hcx
 exact rT (t1++[.d h1]) hcx
def F67 (a0 a1:Int)(a2:Zt)(a3:Int):Zs := (bif (decide ((a0:Int) < 0))then(0,1)else(bif (decide ((a0:Int) > 1048576))then(0,1)else(bif (decide ((a1:Int) < 0))then(0,1)else(bif (decide ((a1:Int) > 131072))then(0,1)else(bif (!(zG a2 384))then(0,1)else(bif (decide ((a3:Int) < 0))then(0,1)else(bif (decide ((a3:Int) > 2))then(0,1)else(bif (decide (((iE (W ((W ((bP a2)*1048576))*1048576))):Int)<=(lG (W ((W (a1*1048576))*1048576)))))then(0,10)else(aG (aA8 a0 a1 a2 a3) (tN (a3 - 0)+1) ((iZ (W ((lG (W ((W (a1*1048576))*1048576)))*1048576)) (iE (W ((W ((bP a2)*1048576))*1048576)))),0))))))))))
theorem C67 (a0 a1:Int)(a2:Zt)(a3:Int):Con Tryz.prog 67 [(iv a0),(iv a1),(.a (k3 a2)),(iv a3)] [] (.t (k2 (F67 a0 a1 a2 a3))) []:=by
 refine cS Tryz.func67 fun cx hcx=>?_
 rw [F67];cases h0:(decide ((a0:Int) < 0))
 case true=>exact rT [.d h0] hcx
 let t1:SL:=[.d h0];cases h1:(decide ((a0:Int) > 1048576))
 case true=>exact rT (t1++[.d h1]) hcx
 let t2:SL:=t1++[.d h1];cases h2:(decide ((a1:Int) < 0))
 case true=>exact rT (t2++[.d h2]) hcx
 have q2:=iF h2;let t3:SL:=t2++[.d h2];cases h3:(decide ((a1:Int) > 131072))
 case true=>exact rT (t3++[.d h3]) hcx
 have q3:=iF h3;let t4:SL:=t3++[.d h3,.c [] (C59 a2 384)];cases h4:(!(zG a2 384))
 case true=>exact rT (t4++[.d h4]) hcx
 try have hx1:=bDi q2 q3 h4
 let t5:SL:=t4++[.d h4];cases h5:(decide ((a3:Int) < 0))
 case true=>exact rT (t5++[.d h5]) hcx
 have q5:=iF h5;let t6:SL:=t5++[.d h5];cases h6:(decide ((a3:Int) > 2))
 case true=>exact rT (t6++[.d h6]) hcx
 have q6:=iF h6;let t7:SL:=t6++[.d h6,.c [] (bFs (W ((W (a1*1048576))*1048576))),.c [] (aP2 a2),.c [] (bDd (W ((W ((bP a2)*1048576))*1048576)))];cases h7:(decide (((iE (W ((W ((bP a2)*1048576))*1048576))):Int)<=(lG (W ((W (a1*1048576))*1048576)))))
 case true=>exact rT (t7++[.d h7]) hcx
 have q7:=iF h7;refine eN (t7++[.d h7,.c [] (bAi (W ((lG (W ((W (a1*1048576))*1048576)))*1048576)) (iE (W ((W ((bP a2)*1048576))*1048576)))  oM)]) [0,3,10,11,12,13,14] [] hcx aPg (aNa a0 a1 a2 a3 (iZ (W ((lG (W ((W (a1*1048576))*1048576)))*1048576)) (iE (W ((W ((bP a2)*1048576))*1048576)))) 0) (tN (a3 - 0)+1) ?_;exact bDl a0 a1 a2 a3 hcx (tN (a3 - 0)+1) (iZ (W ((lG (W ((W (a1*1048576))*1048576)))*1048576)) (iE (W ((W ((bP a2)*1048576))*1048576)))) 0 oR oM
def F33 (a0:jY)(a1:Int)(a2:Zt)(a3:Int):Zs×Int := (bif (((F66 a0 a2 a3).2:Int) != 0)then((0,0),(F66 a0 a2 a3).2)else(bif (((F67 a0.2.1 a1 a2 a3).2:Int) != 0)then((0,0),(F67 a0.2.1 a1 a2 a3).2)else(bif (!(xE ((W ((F66 a0 a2 a3).1.1 - (F67 a0.2.1 a1 a2 a3).1)),(W ((F66 a0 a2 a3).1.2+(F67 a0.2.1 a1 a2 a3).1)))))then((0,0),4)else(((W ((F66 a0 a2 a3).1.1 - (F67 a0.2.1 a1 a2 a3).1)),(W ((F66 a0 a2 a3).1.2+(F67 a0.2.1 a1 a2 a3).1))),0))))
theorem C33 (a0:jY)(a1:Int)(a2:Zt)(a3:Int):Con Tryz.prog 33 [(.a (kS1 a0)),(iv a1),(.a (k3 a2)),(iv a3)] [] (.t [(.a (k2 (F33 a0 a1 a2 a3).1)),(iv (F33 a0 a1 a2 a3).2)]) []:=by
 refine cS Tryz.func33 fun cx hcx=>?_
 let t0:SL:=[.c [] (C66 a0 a2 a3)];rw [F33];cases h0:(((F66 a0 a2 a3).2:Int) != 0)
 case true=>exact rT (t0++[.d h0]) hcx
 let t1:SL:=t0++[.d h0,.c [] (C67 a0.2.1 a1 a2 a3)];cases h1:(((F67 a0.2.1 a1 a2 a3).2:Int) != 0)
 case true=>exact rT (t1++[.d h1]) hcx
 let t2:SL:=t1++[.d h1,.c [] (C68 ((W ((F66 a0 a2 a3).1.1 - (F67 a0.2.1 a1 a2 a3).1)),(W ((F66 a0 a2 a3).1.2+(F67 a0.2.1 a1 a2 a3).1))))];cases h2:(!(xE ((W ((F66 a0 a2 a3).1.1 - (F67 a0.2.1 a1 a2 a3).1)),(W ((F66 a0 a2 a3).1.2+(F67 a0.2.1 a1 a2 a3).1)))))
 case true=>exact rT (t2++[.d h2]) hcx
 exact rT (t2++[.d h2]) hcx
end Go.Proofs.YtlffahoikfahlaaGreat
namespace Go.Proofs.YtlffahoikfahlaaGreat
open Go.Proofs Go.Aw Go.RowKit
set_option maxRecDepth 100000
theorem sF (a:Zs):uZ a=true↔vs a:=by
 constructor
 ·intro hv;unfold uZ at hv;unfold vs;by_cases c1:a.1≥-1099511627776
  ·by_cases c2:a.1<=a.2
   ·by_cases c3:a.2<=1099511627776
    ·exact⟨c1,c2,c3⟩
    ·rw [bX c1,bX c2,cA c3] at hv;simp at hv
   ·rw [bX c1,cA c2] at hv;simp at hv
  ·rw [cA c1] at hv;simp at hv
 ·exact aDs
theorem aWl {a b:Zs} (ha:vs a)(hb:vs b):aDb (a,b)=0:=by
 unfold aDb;rw [aDs ha,aDs hb];rfl
def fl (n:Int):Int:=n / 1048576
def ce (n:Int):Int:=-(-n / 1048576)
def b40 (x:Int):Prop:=-1099511627776<=x/\x<=1099511627776
theorem bDm (x:Int):((bO 64 x &&& bO 64 1048575).toNat:Int)=x % 1048576:=by
 have e:(bO 64 1048575).toNat=2 ^ 20 - 1:=by decide
 rw [BitVec.toNat_and,e,Nat.and_two_pow_sub_one_eq_mod,BitVec.toNat_ofInt];omega
theorem aUi (x:Int):fD x (2 ^ (min (tN 20) 64))=x / 1048576:=aL3 x 20 (m:=1048576) (by decide)
theorem aLc {x y:Int} (hx:b40 x)(hy:b40 y):aK7 x y=fl (x*y):=by
 unfold aK7 fl;unfold b40 at hx hy;rw [bDm,aUi,aUi,aH (n:=x % 1048576) oM oM];have m1:=dM (a:=1048576) (b:=1099511627776) (x:=x / 1048576) (y:=y) ⟨by omega,by omega⟩ hy;have m2:=dM (a:=1048576) (b:=1099511627776) (x:=x % 1048576) (y:=y) ⟨by omega,by omega⟩ hy;rw [aH (n:=x / 1048576*y) oM oM,aH (n:=x % 1048576*y) oM oM,aH oM oM];have e:x*y=x / 1048576*y*1048576+x % 1048576*y:=by
  have:x=x / 1048576*1048576+x % 1048576:=by omega
  conv=>lhs;rw [this]
  grind
 rw [e];generalize x / 1048576*y=A;generalize x % 1048576*y=B;omega
theorem aPh {x y:Int} (hx:b40 x)(hy:b40 y):aM5 x y=ce (x*y):=by
 unfold aM5;have hx':b40 (-x):=by unfold b40 at *;omega
 have m:=dM (a:=1099511627776) (b:=1099511627776) (x:=x) (y:=y) hx hy;rw [aH (n:=0 - x) (by unfold b40 at hx;omega) (by unfold b40 at hx;omega),Int.zero_sub x,aLc hx' hy,Int.neg_mul,Int.zero_sub];unfold fl ce;rw [aH oM oM]
def mn4 (f:Int->Int->Int)(a b:Zs):Int:=hP (hP (hP (f a.1 b.1) (f a.1 b.2)) (f a.2 b.1)) (f a.2 b.2)
def mx4 (f:Int->Int->Int)(a b:Zs):Int:=bT (bT (bT (f a.1 b.1) (f a.1 b.2)) (f a.2 b.1)) (f a.2 b.2)
theorem vb1 (n a b A:Int):(bif !(decide (a<=n/\n<=b)) then 1 else A)=bif decide (n > b) then 1 else bif decide (n < a) then 1 else A:=by
 by_cases h1:n > b
 ·rw [bX h1,cA oM];rfl
 ·by_cases h2:n < a
  ·rw [cA h1,bX h2,cA oM];rfl
  ·rw [cA h1,cA h2,bX oM];rfl
theorem vb2 (n a b A:Int):(bif !(decide (a<=n/\n<=b)) then 1 else A)=bif decide (n < a) then 1 else bif decide (n > b) then 1 else A:=by
 by_cases h1:n > b
 ·rw [bX h1,cA (show ¬(a<=n/\n<=b) by omega)];cases decide (n < a)<;>rfl
 ·by_cases h2:n < a
  ·rw [cA h1,bX h2,cA oM];rfl
  ·rw [cA h1,cA h2,bX oM];rfl
theorem aUj (m:jY):aAl m=vC m:=by
 unfold aAl vC;simp only [rY];rw [lV m.2.1 0 1048576,vb2];simp only [lV,vb1,sE (p:=m.2.2.1) (k:=1073741824) (by decide)]
theorem WaL (a b:Int):W (W a+b)=W (a+b):=by simp only [aAz];(repeat' split)<;>omega
theorem WaR (a b:Int):W (a+W b)=W (a+b):=by simp only [aAz];(repeat' split)<;>omega
theorem WsL (a b:Int):W (W a - b)=W (a - b):=by simp only [aAz];(repeat' split)<;>omega
theorem WsR (a b:Int):W (a - W b)=W (a - b):=by simp only [aAz];(repeat' split)<;>omega
theorem bDn (a k:Int):W (a+k*18446744073709551616)=W a:=by simp only [aAz];(repeat' split)<;>omega
theorem bDo (a:Int):∃k:Int,W a=a+k*18446744073709551616:=by
 simp only [aAz];split
 ·exact⟨-(a / 18446744073709551616) - 1,by omega⟩
 ·exact⟨-(a / 18446744073709551616),by omega⟩
theorem WmL (a b:Int):W (W a*b)=W (a*b):=by
 obtain⟨k,hk⟩:=bDo a;rw [hk,show(a+k*18446744073709551616)*b=a*b+(k*b)*18446744073709551616 by grind,bDn]
theorem WmR (a b:Int):W (a*W b)=W (a*b):=by rw [Int.mul_comm,WmL,Int.mul_comm]
theorem aWm (a:Int):-9223372036854775808<=W a/\W a < 9223372036854775808:=by simp only [aAz];split<;>omega
theorem bAl {x:Int} (hx:0<=x/\x<=9223372036854775808):bY x 1048576=(x*1048576 / 18446744073709551616,x*1048576 % 18446744073709551616):=by
 obtain⟨h,l,rfl,h1,l1⟩:∃h l:Int,x=h*4294967296+l/\(0<=h/\h<=2147483648)/\(0<=l/\l < 4294967296):=⟨x / 4294967296,x % 4294967296,by omega,by omega,by omega⟩;unfold bY;simp only [pI,aHp,aSh];rw [show(h*4294967296+l) / 4294967296=h by omega,show(h*4294967296+l) % 4294967296=l by omega,show(1048576:Int) / 4294967296=0 from by decide,show(1048576:Int) % 4294967296=1048576 from by decide];simp only [Int.mul_zero,Int.zero_emod];rw [eA];exact⟨by omega,by omega⟩
def qsp (n d:Int):Zs:=(n*1048576 / d,-(-(n*1048576) / d))
theorem aX6 {X d:Int} (hd:0 < d):-(-X / d)=if X % d=0 then X / d else X / d+1:=by
 have h:=Int.mul_ediv_add_emod X d;have h1:=Int.emod_nonneg X (show d≠0 by omega);have h2:=Int.emod_lt_of_pos X hd;split
 ·rename_i h0;have e:-X=d*(-(X / d)):=by rw [Int.mul_neg];omega
  rw [e,Int.mul_ediv_cancel_left _ oM];omega
 ·have e:-X=(d - X % d)+d*(-(X / d) - 1):=by rw [Int.mul_sub,Int.mul_neg];omega
  rw [e,Int.add_mul_ediv_left _ _ oM,Int.ediv_eq_zero_of_lt oM oM];omega
theorem bFu {n d:Int} (hn:-9223372036854775808<=n/\n < 9223372036854775808)(hd:0 < d/\d < 8796093022208) :
 (vs (qsp n d)/\aEh n d=(qsp n d,true))\/(¬vs (qsp n d)/\(aEh n d).2=false):=by
 obtain⟨A,hA,hA0⟩:∃A:Int,iW .u64 (bT n (W (0 - n)))=A/\0<=A/\A<=9223372036854775808/\((0<=n/\n=A)\/(n < 0/\n=-A)):=by
  refine⟨_,rfl,?_⟩;rw [pI,aAz];unfold bT
  (repeat' split)<;>omega
 obtain⟨a0,a1,a2⟩:=hA0;have hu:iW .u64 d=d:=nP oM;unfold aEh;rw [hA,hu,bAl ⟨a0,a1⟩];simp only;have hcd:=aX6 (X:=A*1048576) hd.1;have hN0:0<=A*1048576:=by omega
 have hq0:0<=A*1048576 / d:=Int.ediv_nonneg hN0 oM;have hqs:(0<=n/\qsp n d=(A*1048576 / d,if A*1048576 % d=0 then A*1048576 / d else A*1048576 / d+1))\/(n < 0/\qsp n d=(-(if A*1048576 % d=0 then A*1048576 / d else A*1048576 / d+1),-(A*1048576 / d))):=by
  rcases a2 with⟨h1,h2⟩ | ⟨h1,h2⟩
  ·left;refine⟨h1,?_⟩;unfold qsp;rw [h2,hcd]
  ·right;refine⟨h1,?_⟩;unfold qsp;rw [h2,show -A*1048576=-(A*1048576) by omega,Int.neg_neg,←hcd,Int.neg_neg]
 have hbig:1099511627776 < A*1048576 / d->¬vs (qsp n d):=by
  intro h hv;unfold vs at hv;rcases hqs with⟨h1,h2⟩ | ⟨h1,h2⟩<;>rw [h2] at hv<;>simp only at hv<;>split at hv<;>omega
 by_cases hc:A*1048576 / 18446744073709551616≥d
 ·rw [bX hc,cond_true];refine .inr ⟨hbig ?_,rfl⟩;have h1:d*18446744073709551616<=A*1048576:=by omega
  have h2:(18446744073709551616:Int)<=A*1048576 / d:=(Int.le_ediv_iff_mul_le hd.1).2 oM;omega
 ·rw [cA hc,cond_false];rw [aUb (hi:=A*1048576 / 18446744073709551616) (lo:=A*1048576 % 18446744073709551616) (y:=d) ⟨by omega,by omega,by omega⟩,show A*1048576 / 18446744073709551616*18446744073709551616+A*1048576 % 18446744073709551616=A*1048576 by omega];simp only;have hr0:=Int.emod_nonneg (A*1048576) (show d≠0 by omega);generalize A*1048576 / d=q at *;generalize A*1048576 % d=r at *;by_cases h1:q > 1099511627776
  ·rw [bX h1,cond_true];exact .inr ⟨hbig h1,rfl⟩
  ·rw [cA h1,cond_false,aH (n:=q) oM oM,aH (n:=q+1) oM oM,aH (n:=0 - q) oM oM,aH (n:=0 - (q+1)) oM oM];have hfin:∀s:Zs,s=qsp n d->(vs (qsp n d)/\((s,uZ s):Zs×Bool)=(qsp n d,true))\/(¬vs (qsp n d)/\((s,uZ s):Zs×Bool).2=false):=by
    rintro s rfl
    by_cases hv:vs (qsp n d)
    ·exact .inl ⟨hv,by rw [(sF _).2 hv]⟩
    ·exact .inr ⟨hv,by cases h:uZ (qsp n d);rfl;exact absurd ((sF _).1 h) hv⟩
   rcases hqs with⟨h2,h3⟩ | ⟨h2,h3⟩
   ·simp only [cA (show ¬n < 0 by omega),cond_false];by_cases h4:r > 0
    ·rw [bX h4,cond_true];rw [if_neg oM] at h3;exact hfin _ h3.symm
    ·rw [cA h4,cond_false];rw [if_pos oM] at h3;exact hfin _ h3.symm
   ·simp only [bX h2,cond_true];by_cases h4:r > 0
    ·rw [bX h4,cond_true];rw [if_neg oM] at h3;exact hfin _ (by rw [h3,Int.zero_sub,Int.zero_sub])
    ·rw [cA h4,cond_false];rw [if_pos oM] at h3;exact hfin _ (by rw [h3,Int.zero_sub])
theorem aEq (s:Zs):xE s=uZ s:=rfl
open Classical in
theorem aIn {n d w r:Int} (hn:-9223372036854775808<=n/\n < 9223372036854775808)(hd:0 < d/\d < 8796093022208)(hr:0<=r/\r < d)(e:n=d*w+r) :
 (bif decide ((w:Int) > 1048576) then(((0,0),4):Zs×Int) else bif decide ((w:Int) < (-1048577)) then((0,0),4) else
  bif ((mD (W (r*1048576)) d:Int) != 0) then
   bif !(xE ((W ((W (w*1048576))+(W (tD (W (r*1048576)) d)))),(W ((W ((W (w*1048576))+(W (tD (W (r*1048576)) d))))+1)))) then((0,0),4)
   else(((W ((W (w*1048576))+(W (tD (W (r*1048576)) d)))),(W ((W ((W (w*1048576))+(W (tD (W (r*1048576)) d))))+1))),0)
  else
   bif !(xE ((W ((W (w*1048576))+(W (tD (W (r*1048576)) d)))),(W ((W (w*1048576))+(W (tD (W (r*1048576)) d)))))) then((0,0),4)
   else(((W ((W (w*1048576))+(W (tD (W (r*1048576)) d)))),(W ((W (w*1048576))+(W (tD (W (r*1048576)) d))))),0))
 = if vs (qsp n d) then(qsp n d,0) else((0,0),4):=by
 have hR0:0<=r*1048576:=by omega
 have hX:n*1048576=r*1048576+d*(w*1048576):=by rw [e];grind
 have hlo:n*1048576 / d=r*1048576 / d+w*1048576:=by rw [hX,Int.add_mul_ediv_left _ _ oM]
 have hmo:n*1048576 % d=r*1048576 % d:=by rw [hX,Int.add_mul_emod_self_left]
 have hcd:=aX6 (X:=n*1048576) hd.1;have hq0:0<=r*1048576 / d:=Int.ediv_nonneg hR0 oM;have hq1:r*1048576 / d < 1048576:=(Int.ediv_lt_iff_lt_mul hd.1).2 oM;have hqs:qsp n d=(r*1048576 / d+w*1048576,if r*1048576 % d=0 then r*1048576 / d+w*1048576 else r*1048576 / d+w*1048576+1):=by
  unfold qsp;rw [hcd,hlo,hmo]
 rw [aH (n:=r*1048576) oM oM,Int.tmod_eq_emod_of_nonneg hR0,Int.tdiv_eq_ediv_of_nonneg hR0];generalize r*1048576 / d=q at *;generalize r*1048576 % d=m at *;rw [hqs];by_cases h1:w > 1048576
 ·rw [bX h1,cond_true,if_neg (by unfold vs;simp only;split<;>omega)]
 ·by_cases h2:w < -1048577
  ·rw [cA h1,bX h2,cond_false,cond_true,if_neg (by unfold vs;simp only;split<;>omega)]
  ·rw [cA h1,cA h2,cond_false,cond_false,aH (n:=w*1048576) oM oM,aH (n:=q) oM oM,aH (n:=w*1048576+q) oM oM,aH (n:=w*1048576+q+1) oM oM,Int.add_comm (w*1048576) q];have hfin:∀s:Zs,(bif !(xE s) then(((0,0),4):Zs×Int) else(s,0))=if vs s then(s,0) else((0,0),4):=by
    intro s;rw [aEq];by_cases hv:vs s
    ·rw [(sF _).2 hv,if_pos hv];rfl
    ·rw [if_neg hv];cases h:uZ s
     ·rfl
     ·exact absurd ((sF _).1 h) hv
   by_cases h4:m=0
   ·rw [bne_eq_false_iff_eq.2 h4,cond_false,if_pos h4,hfin]
   ·rw [bne_iff_ne.2 h4,cond_true,if_neg h4,hfin]
open Classical in
theorem bFv {n d:Int} (hn:-9223372036854775808<=n/\n < 9223372036854775808)(hd:0 < d/\d < 8796093022208) :
 qC n d=if vs (qsp n d) then(qsp n d,0) else((0,0),4):=by
 unfold qC;have hA:∀a:Int,0<=a->a<=9223372036854775808->0<=a / d/\a / d<=a/\d*(a / d)+a % d=a/\0<=a % d/\a % d < d:=fun a h1 h2 =>
  ⟨Int.ediv_nonneg h1 oM,Int.ediv_le_self _ h1,Int.mul_ediv_add_emod a d,Int.emod_nonneg a oM,Int.emod_lt_of_pos a hd.1⟩
 rcases Int.lt_or_le n 0 with h | h
 ·obtain⟨a,rfl⟩:∃a:Int,n=-a:=⟨-n,by omega⟩;obtain⟨g1,g2,g3,g4,g5⟩:=hA a oM oM;rw [Int.neg_tmod,Int.neg_tdiv,Int.tmod_eq_emod_of_nonneg (show 0<=a by omega),Int.tdiv_eq_ediv_of_nonneg (show 0<=a by omega)];by_cases h0:a % d=0
  ·rw [cA (show ¬(-(a % d) < 0) by omega),cond_false,aH (n:=-(a / d)) oM oM];exact aIn hn hd ⟨by omega,by omega⟩ (by rw [Int.mul_neg];omega)
  ·have g6:a / d*1<=a:=by omega
   have g7:-(a / d) - 1≥-9223372036854775808:=by
    rcases Int.lt_or_le (a / d) 9223372036854775808 with h8 | h8
    ·omega
    ·exfalso;have h9:1*(a / d)<=d*(a / d):=Int.mul_le_mul_of_nonneg_right oM g1;omega
   rw [bX (show(-(a % d) < 0) by omega),cond_true,aH (n:=-(a / d)) oM oM,aH (n:=-(a / d) - 1) oM oM,aH (n:=-(a % d)+d) oM oM];exact aIn hn hd ⟨by omega,by omega⟩ (by rw [Int.mul_sub,Int.mul_neg];omega)
 ·obtain⟨g1,g2,g3,g4,g5⟩:=hA n oM oM;rw [Int.tmod_eq_emod_of_nonneg h,Int.tdiv_eq_ediv_of_nonneg h,cA (show ¬(n % d < 0) by omega),cond_false,aH (n:=n / d) oM oM];exact aIn hn hd ⟨by omega,by omega⟩ oM
end Go.Proofs.YtlffahoikfahlaaGreat
namespace Go.Proofs.YtlffahoikfahlaaGreat
open Go.Proofs Go.Aw Go.RowKit
set_option maxRecDepth 100000
def ml4 (x y:Int):Int:=fl (x*y)
def mh4 (x y:Int):Int:=ce (x*y)
theorem aWn {a:Zs} (h:vs a):b40 a.1/\b40 a.2:=by unfold vs at h;unfold b40;omega
theorem bAm {a b:Zs} (ha:vs a)(hb:vs b):aQm a b=sT (mn4 ml4 a b) (mx4 mh4 a b):=by
 obtain⟨a1,a2⟩:=aWn ha;obtain⟨b1,b2⟩:=aWn hb;show oX a b=_;unfold oX;have e:eJ a b=(mn4 ml4 a b,mx4 mh4 a b):=by
  unfold eJ mn4 mx4 ml4 mh4;rw [aLc a1 b1,aLc a1 b2,aLc a2 b1,aLc a2 b2,aPh a1 b1,aPh a1 b2,aPh a2 b1,aPh a2 b2]
 rw [aWl ha hb];show((sT (eJ a b).1 (eJ a b).2).1,(sT (eJ a b).1 (eJ a b).2).2)=_;rw [e]
theorem szr {z:Int} (hz:b40 z):eK z=if z < 0 then 0 - z else z:=by
 unfold b40 at hz;unfold eK;by_cases h:z < 0
 ·rw [bX h,cond_true,if_pos h,aH oM oM,pI];omega
 ·rw [cA h,cond_false,if_neg h,pI];omega
theorem aPi {x y:Int} (hx:b40 x)(hy:b40 y):iV x y=(ml4 x y,mh4 x y):=by
 have hbd:=dM (a:=1099511627776) (b:=1099511627776) (x:=if x < 0 then 0 - x else x) (y:=if y < 0 then 0 - y else y) (by unfold b40 at hx;split<;>omega) (by unfold b40 at hy;split<;>omega);have hnn:0<=(if x < 0 then 0 - x else x)*(if y < 0 then 0 - y else y):=Int.mul_nonneg (by split<;>omega) (by split<;>omega);have hm:=aMp x y;unfold iV ml4 mh4 fl ce;rw [szr hx,szr hy,aXh (by unfold b40 at hx;split<;>omega) (by unfold b40 at hy;split<;>omega)];generalize (if x < 0 then 0 - x else x)*(if y < 0 then 0 - y else y)=m at *;simp only;have h44:∀a:Int,a*2 ^ (min (tN 44) 64)=a*2 ^ 44:=fun a=>rfl
 have eor:iW .u64 ((bO 64 (iW .u64 (m / 18446744073709551616*2 ^ (min (tN 44) 64))) ||| bO 64 (fD (m % 18446744073709551616) (2 ^ (min (tN 20) 64)))).toNat:Int)=m / 1048576:=by
  have e44:(2:Int) ^ 44=17592186044416:=by decide
  rw [aUi,h44,nP (n:=m / 18446744073709551616*2 ^ 44) (by rw [e44];omega),aUa (a:=m / 18446744073709551616) (b:=m % 18446744073709551616 / 1048576) (k:=44) oM (by rw [e44];omega) (by rw [e44];omega),e44,nP (n:=m / 18446744073709551616*17592186044416+m % 18446744073709551616 / 1048576) oM];omega
 rw [eor,Int.tmod_eq_emod_of_nonneg (show 0<=m % 18446744073709551616 by omega)];have hs:(!(decide (x < 0) == decide (y < 0)))=decide (¬((x < 0)=(y < 0))):=by
  by_cases h1:x < 0<;>by_cases h2:y < 0<;>simp [h1,h2]
 rw [hs,aH (n:=m / 1048576) oM oM,aH (n:=0 - m / 1048576) oM oM,aH (n:=0 - m / 1048576 - 1) oM oM,aH (n:=0 - m / 1048576 - 0) oM oM,aH (n:=m / 1048576+1) oM oM,aH (n:=m / 1048576+0) oM oM];rcases hm with⟨g1,g2⟩ | ⟨g1,g2⟩
 ·rw [cA (fun h=>h g2),g1];by_cases h0:m % 18446744073709551616 % 1048576=0
  ·rw [bne_eq_false_iff_eq.2 h0];simp only [cond_false,eA,true_and];omega
  ·rw [bne_iff_ne.2 h0];simp only [cond_true,cond_false,eA,true_and];omega
 ·rw [bX g2,g1];by_cases h0:m % 18446744073709551616 % 1048576=0
  ·rw [bne_eq_false_iff_eq.2 h0];simp only [cond_true,cond_false,eA,true_and];omega
  ·rw [bne_iff_ne.2 h0];simp only [cond_true,eA,true_and];omega
theorem bAn (a b:Int):hP a b=if b < a then b else a:=by unfold hP;(repeat' split)<;>omega
theorem bAo (a b:Int):bT a b=if b > a then b else a:=by unfold bT;(repeat' split)<;>omega
theorem aUk (a:Int):hP a a=a:=by unfold hP;split<;>rfl
theorem aUl (a:Int):bT a a=a:=by unfold bT;split<;>rfl
theorem aIo {a b:Zs} (l m:ZL)(x y i:Int)(h:i < 4):tY a b (l,m,x,y,i)=.inl (l,m,hP x (iV (l.getD (tN i) dF) (m.getD (tN i) dF)).1,bT y (iV (l.getD (tN i) dF) (m.getD (tN i) dF)).2,i+1):=by
 simp only [tY];rw [bX h,cond_true,bAn,bAo];generalize iV (l.getD (tN i) dF) (m.getD (tN i) dF)=t;by_cases h1:t.1 < x<;>by_cases h2:t.2 > y<;>simp [h1,h2]
theorem bAp {a b:Zs} (ha:vs a)(hb:vs b):aBg a b=sT (mn4 ml4 a b) (mx4 mh4 a b):=by
 obtain⟨a1,a2⟩:=aWn ha;obtain⟨b1,b2⟩:=aWn hb;unfold aBg;rw [aEq,aEq,(sF _).2 ha,(sF _).2 hb];show aG (tY a b) 5 _=_;rw [aK (aIo _ _ _ _ _ (by decide)),aK (aIo _ _ _ _ _ (by decide)),aK (aIo _ _ _ _ _ (by decide)),aK (aIo _ _ _ _ _ (by decide))];show aG (tY a b) 1 ([a.1,a.1,a.2,a.2],[b.1,b.2,b.1,b.2],hP (hP (hP (hP (iV a.1 b.1).1 (iV a.1 b.1).1) (iV a.1 b.2).1) (iV a.2 b.1).1) (iV a.2 b.2).1,bT (bT (bT (bT (iV a.1 b.1).2 (iV a.1 b.1).2) (iV a.1 b.2).2) (iV a.2 b.1).2) (iV a.2 b.2).2,4)=_;rw [aUk,aUl,aPi a1 b1,aPi a1 b2,aPi a2 b1,aPi a2 b2];rfl
theorem aUm {n:Int} (h:1<=n/\n<=1000000000):vA n 1=(wT 1 n,0):=by
 have hs:(1:Int)=1\/(1:Int)=2\/(1:Int)=4\/(1:Int)=8:=.inl rfl;obtain⟨e1,e2⟩:=bB1 hs;unfold vA wT;have e:W ((W ((1:Int)*1))*2 ^ (min (tN 40) 64))=NN 1:=by kernel_rfl
 rw [cA (show ¬n < 1 by omega),cond_false,cA (show ¬n > 1099511627776 by omega),cond_false,e1,cond_false,e2,cond_false,if_neg (show ¬n < 1 by omega),e,aXb (aGb hs) oM]
theorem bAq {n:Int} (h:1<=n/\n<=1000000000):oC n 1=(wT 1 n,0):=by
 have hs:(1:Int)=1\/(1:Int)=2\/(1:Int)=4\/(1:Int)=8:=.inl rfl;obtain⟨_,_,e3⟩:=lt8 hs;unfold oC wT;have e:W ((W ((W (1048576*1))*1048576))*1)=NN 1:=by kernel_rfl
 rw [e3,rN,bX (show(1<=n/\n<=1099511627776) by omega),if_neg (show ¬n < 1 by omega),e,aXc (aGb hs) oM];rfl
theorem aIp (n:Int):vs (wT 1 n):=by
 have h:=aHn (s:=1) (.inl rfl);have h1:=h.lo n;have h2:=h.le n;have h3:=h.hi n;unfold vs;omega
noncomputable def tqV (x d n:Int):Zs×Int:=open Classical in if vs (qsp x d)then sT (mn4 ml4 (qsp x d) (wT 1 n)) (mx4 mh4 (qsp x d) (wT 1 n))else((0,0),4)
theorem aUn {x d n:Int} (hx:-9223372036854775808<=x/\x < 9223372036854775808)(hd:0 < d/\d < 8796093022208)(hn:1<=n/\n<=1000000000):aEj x d n=tqV x d n:=by
 unfold aEj tqV;rw [aUm hn];rcases bFu hx hd with⟨h1,h2⟩ | ⟨h1,h2⟩
 ·rw [if_pos h1,h2];show aQm (qsp x d) (wT 1 n)=_;rw [bAm h1 (aIp n)]
 ·rw [if_neg h1,h2];rfl
theorem aUo {x d n:Int} (hx:-9223372036854775808<=x/\x < 9223372036854775808)(hd:0 < d/\d < 8796093022208):(bif (((qC x d).2:Int) != 0) then(((0,0),(qC x d).2):Zs×Int) else((aBg (qC x d).1 (wT 1 n)).1,(aBg (qC x d).1 (wT 1 n)).2))=tqV x d n:=by
 unfold tqV;rw [bFv hx hd];by_cases h1:vs (qsp x d)
 ·rw [if_pos h1,if_pos h1];show aBg (qsp x d) (wT 1 n)=_;rw [bAp h1 (aIp n)]
 ·rw [if_neg h1,if_neg h1];rfl
theorem bAr (m:jY)(u:Zt):aK8 m u=aEm m u:=by
 unfold aK8 aEm iR kD;simp only [WaL,WaR,WmL,WmR];congr 1;grind
theorem bDp (m:jY):aAl m=0\/aAl m=1:=by
 have h:∀(b:Bool) (A:Int),A=0\/A=1->(bif b then 1 else A)=0\/(bif b then 1 else A)=1:=by
  intro b A h;cases b
  ·exact h
  ·exact .inr rfl
 unfold aAl;simp only [rY]
 repeat' apply h
 exact .inl rfl
theorem aUp {m:jY} (h:vC m=0):(0<=m.2.1/\m.2.1<=1048576)/\-1048576<=m.1/\m.1<=1048576:=by
 rw [←aUj] at h;unfold aAl at h;rw [lV,lV] at h;simp only [rY] at h;by_cases h1:0<=m.2.1/\m.2.1<=1048576
 ·rw [aH (n:=0 - m.2.1) oM oM] at h;by_cases h2:0 - m.2.1<=m.1/\m.1<=m.2.1
  ·omega
  ·rw [bX h1,cA h2] at h;exact absurd h (by simp)
 ·rw [cA h1] at h;exact absurd h (by simp)
noncomputable def fV (m:jY)(u:Zt)(k:Int):Zs×Int := if k=0 then sT (scl (wT 1 (n2 u)) m.1).1 (scl (wT 1 (n2 u)) m.1).2 else if k=1 then tqV (dC m.2.2.1 u) (3*n2 u) (n2 u)else tqV (W ((W (3*aK8 m u)) - (W (n2 u*aM4 m)))) (24*(n2 u*n2 u)) (n2 u)
theorem bAs {m:jY} {u:Zt} {k:Int} (hm:vC m=0)(hu:UOK u):F97 m u k=fV m u k:=by
 have hb:=aGk hu;have hs:=aPb hu;have hc:=aUp hm;unfold F97 fV;rw [aX4 hu,aUc hu,aAm hu.bd,aUm (n:=n2 u) oM];by_cases h0:k=0
 ·rw [if_pos h0,beq_iff_eq.2 h0];show xF (wT 1 (n2 u)) m.1=_;rw [aN7 (aIp _) oM]
 ·rw [if_neg h0,beq_eq_false_iff_ne.2 h0,cond_false];by_cases h1:k=1
  ·rw [if_pos h1,beq_iff_eq.2 h1,cond_true];show aEj (dC m.2.2.1 u) (3*n2 u) (n2 u)=_;exact aUn (by unfold dC;exact aWm _) oM oM
  ·rw [if_neg h1,beq_eq_false_iff_ne.2 h1,cond_false];show aEj (W ((W (3*aK8 m u)) - (W (n2 u*aM4 m)))) (24*(n2 u*n2 u)) (n2 u)=_;exact aUn (aWm _) oM oM
theorem bAt {m:jY} {u:Zt} {k:Int} (hm:vC m=0)(hu:UOK u)(hk:0<=k/\k<=2):xD m u k=fV m u k:=by
 have hb:=aGk hu;have hs:=aPb hu;have hc:=aUp hm;have hsm:=(sD (p:=u) (k:=384) (by decide)).2 hu.bd;have hd1:W (3*n2 u)=3*n2 u:=aH oM oM;have hd2:W ((W (24*n2 u))*n2 u)=24*(n2 u*n2 u):=by have:=aUc hu;rwa [aAm hu.bd] at this
 unfold xD fV;rw [hm,hsm,aLa hu.bd,bAq (n:=n2 u) oM,cA (show ¬k < 0 by omega),cA (show ¬k > 2 by omega),beq_eq_false_iff_ne.2 (show n2 u≠0 by omega),hd1,hd2];by_cases h0:k=0
 ·rw [if_pos h0,beq_iff_eq.2 h0];show F36 (wT 1 (n2 u)) m.1=_;rw [aN9 (aIp _) oM]
 ·rw [if_neg h0,beq_eq_false_iff_ne.2 h0];by_cases h1:k=1
  ·rw [if_pos h1,beq_eq_false_iff_ne.2 (show k≠2 by omega)];exact aUo (x:=dC m.2.2.1 u) (by unfold dC;exact aWm _) oM
  ·rw [if_neg h1,beq_iff_eq.2 (show k=2 by omega),bAr];exact aUo (x:=W ((W (3*aEm m u)) - (W (n2 u*aM4 m)))) (aWm _) oM
theorem bAu (a b:Int):((sT a b).2=0/\vs (sT a b).1)\/sT a b=((0,0),4):=by
 rcases aGd a b with⟨e,hv⟩ | e
 ·left;rw [e];exact⟨rfl,hv⟩
 ·right;exact e
theorem uW (m:jY)(u:Zt)(k:Int):((fV m u k).2=0/\vs (fV m u k).1)\/fV m u k=((0,0),4):=by
 unfold fV tqV
 (repeat' split)<;>first | exact bAu _ _ | exact .inr rfl
theorem bAv {u:Zt} (hb:(-384<=u.1/\u.1<=384)/\(-384<=u.2.1/\u.2.1<=384)/\(-384<=u.2.2/\u.2.2<=384)):(((u.1:Int) == 0)&&(((u.2.1:Int) == 0)&&(((u.2.2:Int) == 0)&&true)))=true/\n2 u=0\/(((u.1:Int) == 0)&&(((u.2.1:Int) == 0)&&(((u.2.2:Int) == 0)&&true)))=false/\UOK u:=by
 by_cases a:u.1=0
 ·by_cases b:u.2.1=0
  ·by_cases c:u.2.2=0
   ·left;rw [a,b,c];refine⟨rfl,?_⟩;unfold n2;rw [a,b,c];rfl
   ·right;exact⟨by simp [a,b,c],hb,.inr (.inr c)⟩
  ·right;exact⟨by simp [a,b],hb,.inr (.inl b)⟩
 ·right;exact⟨by simp [a],hb,.inl a⟩
theorem aX7 (a b c:Zs):wU [c,b,a] (0,0)=wU [a,b,c] (0,0)/\wU [b,a] (0,0)=wU [a,b] (0,0):=by
 simp only [aHq,List.map_cons,List.map_nil,List.sum_cons,List.sum_nil,eA];omega
noncomputable def vlV (m:jY)(u:Zt)(o:Int):Zs×Int := if(fV m u 0).2≠0 then((0,0),4)else if o=0 then aDt [(fV m u 0).1]else if(fV m u 1).2≠0 then((0,0),4)else if o=1 then aDt [(fV m u 0).1,(fV m u 1).1]else if(fV m u 2).2≠0 then((0,0),4)else aDt [(fV m u 0).1,(fV m u 1).1,(fV m u 2).1]
theorem bFw {m:jY} {u:Zt} (hm:vC m=0)(hu:UOK u)(k:Int)(l:List Zs)(e:Int):gB k m u l e=(l++[(fV m u k).1],if e=0 then(fV m u k).2 else e):=by
 unfold gB;rw [bAs hm hu];by_cases h:e=0
 ·rw [if_pos h,beq_iff_eq.2 h];rfl
 ·rw [if_neg h,beq_eq_false_iff_ne.2 h];rfl
theorem bFx {m:jY} {u:Zt} {o:Int} (hm:vC m=0)(hu:UOK u)(ho:0<=o/\o<=2):aAn m u o []=vlV m u o:=by
 have hS:∀(l:List Zs) (e:Int),(∀a∈l,e=0->vs a)->l.length<=10->lC m u o (l,e)=if e=0 then aDt l else((0,0),e):=by
  intro l e hl hn;simp only [lC];by_cases h:e=0
  ·rw [bne_eq_false_iff_eq.2 h,if_pos h];show qP l=_;exact aSp (fun a ha=>hl a ha h) oM
  ·rw [bne_iff_ne.2 h,if_neg h];rfl
 simp only [aAn,bFw hm hu,List.nil_append,List.cons_append];unfold vlV;have e0:=uW m u 0;have e1:=uW m u 1;have e2:=uW m u 2;rcases (show o=0\/o=1\/o=2 by omega) with rfl | rfl | rfl
 ·show lC m u 0 ([(fV m u 0).1],(fV m u 0).2)=_;rcases e0 with⟨z0,v0⟩ | z0
  ·rw [z0,hS _ _ (by simp [v0]) (by simp)];rfl
  ·rw [z0,hS _ _ (by simp) (by simp)];rfl
 ·show lC m u 1 ([(fV m u 1).1,(fV m u 0).1],if(fV m u 1).2=0 then(fV m u 0).2 else(fV m u 1).2)=_;rcases e0 with⟨z0,v0⟩ | z0<;>rcases e1 with⟨z1,v1⟩ | z1
  ·rw [z0,z1,hS _ _ (by simp [v0,v1]) (by simp)];simp only [aDt,(aX7 (fV m u 0).1 (fV m u 1).1 (0,0)).2];rfl
  ·rw [z0,z1,hS _ _ (by simp) (by simp)];rfl
  ·rw [z0,z1,hS _ _ (by simp) (by simp)];rfl
  ·rw [z0,z1,hS _ _ (by simp) (by simp)];rfl
 ·show lC m u 2 ([(fV m u 2).1,(fV m u 1).1,(fV m u 0).1],if(if(fV m u 2).2=0 then(fV m u 1).2 else(fV m u 2).2)=0 then(fV m u 0).2 else(if(fV m u 2).2=0 then(fV m u 1).2 else(fV m u 2).2))=_;rcases e0 with⟨z0,v0⟩ | z0<;>rcases e1 with⟨z1,v1⟩ | z1<;>rcases e2 with⟨z2,v2⟩ | z2
  ·rw [z0,z1,z2,hS _ _ (by simp [v0,v1,v2]) (by simp)];simp only [aDt,(aX7 (fV m u 0).1 (fV m u 1).1 (fV m u 2).1).1];rfl
  all_goals rw [z0,z1,z2,hS _ _ (by simp) (by simp)];rfl
theorem bFy {m:jY} {u:Zt} {o:Int} (hm:vC m=0)(hu:UOK u)(ho:0<=o/\o<=2):aG (tZ m u o) (tN (o - 0+1)+1) (([]:List Zs),0)=vlV m u o:=by
 have hi:∀(l:List Zs) (k:Int),0<=k->k<=o->tZ m u o (l,k)=if(fV m u k).2≠0 then .inr ((0,0),(fV m u k).2) else .inl (l++[(fV m u k).1],k+1):=by
  intro l k h0 h1;simp only [tZ];rw [bX h1,cond_true,bAt hm hu oM];by_cases h:(fV m u k).2=0
  ·rw [bne_eq_false_iff_eq.2 h,if_neg (by simpa using h)];rfl
  ·rw [bne_iff_ne.2 h,if_pos h];rfl
 have hx:∀(l:List Zs) (k:Int),o < k->(∀a∈l,vs a)->l.length<=10->tZ m u o (l,k)=.inr (aDt l):=by
  intro l k h0 hl hn;simp only [tZ];rw [cA (show ¬k<=o by omega),cond_false,aXj hl oM]
 unfold vlV;have e0:=uW m u 0;have e1:=uW m u 1;have e2:=uW m u 2;have i0:=hi [] 0 oM oM;rcases e0 with⟨z0,v0⟩ | z0
 ·rw [if_neg (by simpa using z0)] at i0 ⊢;rcases (show o=0\/1<=o by omega) with rfl | ho1
  ·show aG _ 2 _=_;rw [aK i0,aL (hx _ _ oM (by simp [v0]) (by simp))];rfl
  ·have i1:=hi ([]++[(fV m u 0).1]) (0+1) oM oM;rw [if_neg (show ¬o=0 by omega)];rcases e1 with⟨z1,v1⟩ | z1
   ·rw [if_neg (by simpa using z1)] at i1 ⊢;rcases (show o=1\/o=2 by omega) with rfl | rfl
    ·show aG _ 3 _=_;rw [aK i0,aK i1,aL (hx _ _ oM (by simp [v0,v1]) (by simp))];rfl
    ·have i2:=hi ([]++[(fV m u 0).1]++[(fV m u (0+1)).1]) (0+1+1) oM oM;rw [if_neg (show ¬(2:Int)=1 by decide)];rcases e2 with⟨z2,v2⟩ | z2
     ·rw [if_neg (by simpa using z2)] at i2 ⊢;show aG _ 4 _=_;rw [aK i0,aK i1,aK i2,aL (hx _ _ oM (by simp [v0,v1,v2]) (by simp))];rfl
     ·rw [if_pos (by rw [show(0:Int)+1+1=2 from rfl,z2];decide)] at i2;rw [if_pos (by rw [z2];decide)];show aG _ 4 _=_;rw [aK i0,aK i1,aL i2,show(0:Int)+1+1=2 from rfl,z2]
   ·rw [if_pos (by rw [show(0:Int)+1=1 from rfl,z1];decide)] at i1;rw [if_pos (by rw [z1];decide)];rw [show tN (o - 0+1)+1=(tN (o - 1)+1)+1+1 by omega,aK i0,aL i1,show(0:Int)+1=1 from rfl,z1]
 ·rw [if_pos (by rw [z0];decide)] at i0 ⊢;rw [aL i0,z0]
theorem aWo (m:jY)(u:Zt)(o:Int):F53 m u o=F66 m u o:=by
 unfold F53 F66 F95;rcases bDp m with h0 | h0
 ·have hm:vC m=0:=by rw [←aUj];exact h0
  rw [h0,hm];simp only [bne_self_eq_false,cond_false];unfold aQl;rw [sE (p:=u) (k:=384) (by decide),lV];cases hs:zG u 384
  case false=>rfl
  have hb:=(sD (k:=384) (by decide)).1 hs;simp only [Bool.not_true,cond_false];by_cases ho:0<=o/\o<=2
  ·rw [bX ho,cA (show ¬o < 0 by omega),cA (show ¬o > 2 by omega)];simp only [Bool.not_true,cond_false];rcases bAv hb with⟨g1,g2⟩ | ⟨g1,g2⟩
   ·rw [g1];have hT:xD m u 0=((0,0),11):=by
     unfold xD;rw [hm,hs,aLa hb,g2];rfl
    have hst:tZ m u o ([],0)=.inr ((0,0),11):=by
     simp only [tZ];rw [hT,bX ho.1];rfl
    rw [aL hst];rfl
   ·rw [g1,bFy hm g2 ho,←bFx hm g2 ho];rfl
  ·rw [cA ho];simp only [Bool.not_false,cond_true];by_cases h1:o < 0
   ·rw [bX h1];rfl
   ·rw [cA h1,bX (show o > 2 by omega)];rfl
 ·have hm:vC m=1:=by rw [←aUj];exact h0
  rw [h0,hm];rfl
theorem vbG {α:Type} (n a b:Int)(x A:α):(bif !(decide (a<=n/\n<=b)) then x else A)=bif decide (n < a) then x else bif decide (n > b) then x else A:=by
 by_cases h1:n > b
 ·rw [bX h1,cA (show ¬(a<=n/\n<=b) by omega)];cases decide (n < a)<;>rfl
 ·by_cases h2:n < a
  ·rw [cA h1,bX h2,cA oM];rfl
  ·rw [cA h1,cA h2,bX oM];rfl
theorem sR {α:Type} {b:Bool} {x A B:α} (h:b=false->A=B):(bif b then x else A)=(bif b then x else B):=by
 cases b
 case true=>rfl
 exact h rfl
def aNb (t r v e:Int):Zs := (bif (decide (((iZ (W ((W (t*e))*1048576)) (W (r - v))):Int) > 1099511627776))then(0,4)else((iZ (W ((W (t*e))*1048576)) (W (r - v))),0))
def aWp (t r v o:Int):Zs := if o=0 then aNb t r v (iZ (W (v*1048576)) r)else if o=1 then aNb t r v (iZ (W ((iZ (W (v*1048576)) r)*(iZ (W (v*1048576)) r))) 1048576)else aNb t r v (iZ (W ((iZ (W ((iZ (W (v*1048576)) r)*(iZ (W (v*1048576)) r))) 1048576)*(iZ (W (v*1048576)) r))) 1048576)
theorem bDq {t a:Int} {u:Zt} {o v r:Int} (ho:0<=o/\o<=2)(hr:qD (W ((W ((dC u u)*1048576))*1048576))=r):sB t a u o v=bif decide (r<=v) then(0,10) else aWp t r v o:=by
 have hi:∀e k:Int,k < o->aEk t a u o (v,iZ (W (v*1048576)) r,e,k)=.inl (v,iZ (W (v*1048576)) r,iZ (W (e*iZ (W (v*1048576)) r)) 1048576,k+1):=by
  intro e k h;simp only [aEk];rw [bX h];rfl
 have hx:∀e:Int,aEk t a u o (v,iZ (W (v*1048576)) r,e,o)=.inr (aNb t r v e):=by
  intro e;simp only [aEk,hr];rw [cA (Int.lt_irrefl _),cond_false];unfold aNb;rw [show yY=iZ from rfl];cases decide (((iZ (W ((W (t*e))*1048576)) (W (r - v))):Int) > 1099511627776)<;>rfl
 simp only [sB,hr];refine sR fun _=>?_
 rw [show yY=iZ from rfl];unfold aWp;rcases (show o=0\/o=1\/o=2 by omega) with rfl | rfl | rfl
 ·exact aL (n:=0) (hx _)
 ·exact(aK (n:=1) (hi _ _ (by decide))).trans (aL (n:=0) (hx _))
 ·exact(aK (n:=2) (hi _ _ (by decide))).trans ((aK (n:=1) (hi _ _ (by decide))).trans (aL (n:=0) (hx _)))
theorem bDr {t a:Int} {u:Zt} {o v r:Int} (ho:0<=o/\o<=2)(hr:iE (W ((W ((bP u)*1048576))*1048576))=r)(hv:lG (W ((W (a*1048576))*1048576))=v) :
 aG (aA8 t a u o) (tN (o - 0)+1) (iZ (W (v*1048576)) r,0)=aWp t r v o:=by
 have hi:∀e k:Int,k < o->aA8 t a u o (e,k)=.inl (iZ (W (e*iZ (W (v*1048576)) r)) 1048576,k+1):=by
  intro e k h;simp only [aA8,hr,hv];rw [bX h];rfl
 have hx:∀e:Int,aA8 t a u o (e,o)=.inr (aNb t r v e):=by
  intro e;simp only [aA8,hr,hv];rw [cA (Int.lt_irrefl _),cond_false];unfold aNb;cases decide (((iZ (W ((W (t*e))*1048576)) (W (r - v))):Int) > 1099511627776)<;>rfl
 unfold aWp;rcases (show o=0\/o=1\/o=2 by omega) with rfl | rfl | rfl
 ·exact aL (n:=0) (hx _)
 ·exact(aK (n:=1) (hi _ _ (by decide))).trans (aL (n:=0) (hx _))
 ·exact(aK (n:=2) (hi _ _ (by decide))).trans ((aK (n:=1) (hi _ _ (by decide))).trans (aL (n:=0) (hx _)))
theorem bAw (t a:Int)(u:Zt)(o:Int):F54 t a u o=F67 t a u o:=by
 unfold F54 F67;rw [lV t,vbG,lV a,vbG,lV o,vbG,sE (p:=u) (k:=384) (by decide)];refine sR fun _=>sR fun _=>sR fun h1=>sR fun h2=>sR fun h3=>sR fun h4=>sR fun h5=>?_
 have g1:=iF h1;have g2:=iF h2;have g4:=iF h4;have g5:=iF h5;have hb:=(sD (p:=u) (k:=384) (by decide)).1 (by simpa using h3);have hn:=aX5 hb;have e1:qD (W ((W (a*1048576))*1048576))=iE (W ((W (a*1048576))*1048576)):=by
  rw [aIm (n:=a) oM];have h:=aPc (n:=a*1099511627776) oM oM;exact IsRt.eq ⟨h.1,h.2.2⟩ (aB7 oM oM)
 have e2:qD (W ((W ((dC u u)*1048576))*1048576))=iE (W ((W ((bP u)*1048576))*1048576)):=by
  rw [aAm hb,aLa hb,aIm hn];have h:=aPc (n:=n2 u*1099511627776) oM oM;exact IsRt.eq ⟨h.1,h.2.2⟩ (aB7 oM oM)
 have e3:(bif (decide (((W ((iE (W ((W (a*1048576))*1048576)))*(iE (W ((W (a*1048576))*1048576))))):Int) < (W ((W (a*1048576))*1048576)))) then
  (sB t a u o (W ((iE (W ((W (a*1048576))*1048576)))+1)))
  else
   (sB t a u o (iE (W ((W (a*1048576))*1048576)))))=sB t a u o (lG (W ((W (a*1048576))*1048576))):=by
  unfold lG;cases decide (((W ((iE (W ((W (a*1048576))*1048576)))*(iE (W ((W (a*1048576))*1048576))))):Int) < (W ((W (a*1048576))*1048576)))<;>rfl
 rw [e1,e3,bDq oM e2,bDr oM rfl rfl]
theorem aWq (m:jY)(a:Int)(u:Zt)(o:Int):F26 m a u o=F33 m a u o:=by
 unfold F26 F33;simp only [aWo,bAw,aEq]
theorem uX {T T' R:Type} [Inhabited R] {S:T->T⊕R} {S':T'->T'⊕R} (rel:T->T'->Prop)(h:∀x y,rel x y->(∃a b,S x=.inl a/\S' y=.inl b/\rel a b)\/(∃r,S x=.inr r/\S' y=.inr r)) :
 ∀(n:Nat) (x:T) (y:T'),rel x y->aG S n x=aG S' n y
 | 0,_,_,_=>rfl
 | n+1,x,y,hxy=>by
  rcases h x y hxy with⟨a,b,e1,e2,e3⟩ | ⟨r,e1,e2⟩
  ·rw [aK e1,aK e2];exact uX rel h n a b e3
  ·rw [aL e1,aL e2]
theorem ad2 (s q a1 b1 c1 a2 b2 c2:Int):W (s+W (q*W (W (W (W (W (W (a1+b1)+c1)*W (W (a2+b2)+c2))+W (a1*a2))+W (b1*b2))+W (c1*c2))))=W (s+W (W (W (W (q*a1)*a2)+W (W (q*b1)*b2))+W (W (W (q*c1)*c2)+W (W (q*W (a1+W (b1+c1)))*W (a2+W (b2+c2)))))):=by
 simp only [WaL,WaR,WmL,WmR];congr 1;grind
theorem ad1 (d q a b c:Int):W (d - W (W (0 - q)*W (W (a+b)+c)))=W (d+W (q*W (a+W (b+c)))):=by
 simp only [WaL,WaR,WmL,WmR,WsL,WsR];congr 1;grind
theorem bAx (m:jY)(c:Zt)(x:PN×Int):pN (m,c) x =
 ((W (m.1+x.2),W (m.2.1+F63 x.2),
   gC m.2.2.1 (W (x.2*(gC (bJ x.1.1 c) (gC (bJ x.1.2.1 c) (bJ x.1.2.2 c))).1),W (x.2*(gC (bJ x.1.1 c) (gC (bJ x.1.2.1 c) (bJ x.1.2.2 c))).2.1),W (x.2*(gC (bJ x.1.1 c) (gC (bJ x.1.2.1 c) (bJ x.1.2.2 c))).2.2)),
   lE m.2.2.2 (lE (lE (iR (bJ x.1.1 c) x.2) (iR (bJ x.1.2.1 c) x.2)) (lE (iR (bJ x.1.2.2 c) x.2) (iR (gC (bJ x.1.1 c) (gC (bJ x.1.2.1 c) (bJ x.1.2.2 c))) x.2)))),c):=by
 unfold pN lE iR kD;simp only [ad2,ad1,bC,bJ,gC];rfl
theorem aUq (l:jM)(c:Zt):sP l c=pK l c:=by
 unfold sP pK;rw [wW,sE (p:=c) (k:=64) (by decide)]
theorem bDs (l:jM)(c:Zt):lD l c=kL l c:=by
 unfold lD kL;rw [aUq];refine sR fun _=>?_
 refine uX (fun(x:Int×Int×Int×Int×Int×Int×Int×Int×Int×Int×Int×Int×Zt) (y:Int×Int×Int×Int×Int×Int×Int×Int×Int×Zt)=>x=(y.1,y.2.1,y.2.2.1,y.2.2.2.1,y.2.2.2.2.1,y.2.2.2.2.2.1,y.2.2.2.2.2.2.1,y.2.2.2.2.2.2.2.1,y.2.2.2.2.2.2.2.2.1,y.2.2.2.2.2.2.2.2.2.1,y.2.2.2.2.2.2.2.2.2.2.1,y.2.2.2.2.2.2.2.2.2.2.2,c.1,c.2.1,c.2.2)) (fun x y hxy=>?_) _ _ _ rfl;subst hxy;obtain⟨i,v2,v3,v4,v5,v6,v7,v8,v9,v10,v11,v12⟩:=y;simp only [zB,sC];by_cases h:i < (l.length:Int)
 ·left;rw [bX h,cond_true,cond_true,bAx];exact⟨_,_,rfl,rfl,rfl⟩
 ·right;rw [cA h];exact⟨_,rfl,rfl⟩
theorem aIq {n:Int} (h:F63 n<=256)(h2:n≥-256):-256<=n/\n<=256:=by
 unfold F63 at h;split at h<;>omega
theorem aIr {n:Int} (h:-256<=n/\n<=256):F63 n<=256:=by
 unfold F63;rw [aH oM oM];split<;>omega
def aWr (x:Zt):Prop:=(-256<=x.1/\x.1<=256)/\(-256<=x.2.1/\x.2.1<=256)/\(-256<=x.2.2/\x.2.2<=256)
theorem aNc (x:Zt):zG x 256=true↔aWr x:=by
 unfold zG aWr;rw [show W (0 - 256)=-256 from rfl];constructor
 ·intro h;by_cases h1:F63 x.1<=256<;>by_cases h2:F63 x.2.1<=256<;>by_cases h3:F63 x.2.2<=256<;>simp [h1,h2,h3] at h;exact⟨aIq h1 h.1,aIq h2 h.2.1,aIq h3 h.2.2⟩
 ·intro h;have h1:=aIr h.1;have h2:=aIr h.2.1;have h3:=aIr h.2.2;simp [h1,h2,h3,h.1.1,h.2.1.1,h.2.2.1]
theorem aUr (n:Int):F23 n (-256) 256=decide (-256<=n/\n<=256):=by
 unfold F23;by_cases h1:-256<=n<;>by_cases h2:n<=256<;>simp [h1,h2]
theorem aWs (x:Zt):F49 x=zG x 256:=by
 have h:F49 x=true↔aWr x:=by
  unfold F49 aWr;rw [aUr,aUr,aUr];by_cases h1:-256<=x.1/\x.1<=256<;>by_cases h2:-256<=x.2.1/\x.2.1<=256<;>simp [h1,h2]
 exact Bool.eq_iff_iff.2 (h.trans (aNc x).symm)
theorem bAy {l:jM} {t:TR} (x:Zt)(sep:Int)(h:mW l t=0):(F50 t x sep).1.length<=96/\(F50 t x sep).2.length<=96:=by
 obtain⟨hv,leaf,h1,_,rfl⟩:=xC h;have hl:=hv.1;have hb:=rS l hv.1 h1;rcases aIb l h1 with⟨_,e⟩ | ⟨hh,H⟩
 ·rw [e];exact⟨Nat.zero_le _,Nat.zero_le _⟩
 ·have hw:=iD H;unfold F50;rw [bX (show(((BT l leaf).2.length:Nat):Int) > 0 by omega),cond_true];simp only [tT,F89];have:=aB0 ((BT l leaf).2.length - tN 0+1) 0 (BT l leaf) x sep [] [] _ _ _ _ H (Int.le_refl _) (Int.le_refl _) oM (Int.le_refl _) (Int.le_refl _) oM;exact⟨Int.ofNat_le.1 (Int.le_trans this.1 oM),Int.ofNat_le.1 (Int.le_trans this.2 oM)⟩
theorem aEr (l:jM)(t:TR)(x:Zt)(sep:Int):aP l t x sep=aS l t x sep:=by
 unfold aP aS yT;rw [aK3,aWs];have ew:F23 sep 1 16=F30 sep 1 16:=rfl;rw [ew];cases h0:((mW l (t.1,t.2):Int) != 0)
 case true=>simp only [cond_true,h0]
 have hc:=aZ4 x sep (bne_eq_false_iff_eq.1 h0);cases h1:F30 sep 1 16
 case true=>
  simp only [cond_false,Bool.not_true];cases h2:zG x 256
  case true=>simp only [Bool.not_true,cond_false];rw [show((0:Int) != 0)=false from rfl,cond_false];exact congrArg (fun q:ZL×ZL=>(q.1,q.2,(0:Int))) hc
  rfl
 simp only [cond_false,Bool.not_false,cond_true];cases h2:zG x 256<;>rfl
theorem aIs (l:jM) {leaf:Int} (hl:1<=leaf):∀(n:Nat) (ns:ZL) (fr a:Int),ns.length < n->(GT l leaf n ns fr a).1.Perm ns
 | 0,_,_,_,h=>absurd h (dX _)
 | n+1,ns,fr,a,h=>by
  by_cases h0:(ns.length:Int)<=leaf
  ·rw [nN h0]
  ·rw [nO h0];have hsl:=pL l (aI l ns) ns;refine((aIs l hl n _ _ _ (by rw [List.length_take,hsl];omega)).append (aIs l hl n _ _ _ (by rw [List.length_drop,hsl];omega))).trans ?_;rw [List.take_append_drop];exact List.mergeSort_perm ns _
theorem aIt (l:jM) {leaf:Int} (hl:1<=leaf):(BT l leaf).1.Perm (lU l.length):=by
 unfold BT;by_cases h0:l.length=0
 ·rw [if_pos h0,h0];exact List.Perm.refl _
 ·rw [if_neg h0];exact aIs l hl _ _ _ _ (by rw [fL];omega)
def prt (t:TR)(i:Int):ZL:=Aw.part t.1 (t.2.getD (tN i) dF).1 (t.2.getD (tN i) dF).2.1
def occ (t:TR)(far pan:ZL):ZL:=far.flatMap (prt t)++pan
theorem aUs {l:ZL} {f c u:Int} (h:0<=f/\f<=c/\c<=u):Aw.part l f c++Aw.part l c u=Aw.part l f u:=by
 unfold Aw.part;rw [show tN u - tN f=(tN c - tN f)+(tN u - tN c) by omega,List.take_add,List.drop_drop,show tN f+(tN c - tN f)=tN c by omega]
theorem aUt {l:ZL}:Aw.part l 0 (l.length:Int)=l:=by unfold Aw.part;simp
theorem aWt {t:TR} {x:Zt} {sep:Int} {a m:Nat} {f u h:Int} (H:TRE t.2 a m f u h):∀(n:Nat) (far pan:ZL),0<=f->t.2.length - a < n ->
 (∀i∈(qB n (a:Int) t x sep far pan).1,i∈far\/(0<=i/\i < t.2.length))/\(occ t (qB n (a:Int) t x sep far pan).1 (qB n (a:Int) t x sep far pan).2).Perm (occ t far pan++Aw.part t.1 f u):=by
 have hfar:∀(a:Nat) (f u:Int) (far pan:ZL),a < t.2.length->(t.2.getD a dF).1=f->(t.2.getD a dF).2.1=u->(∀i∈far++[(a:Int)],i∈far\/(0<=i/\i < t.2.length))/\(occ t (far++[(a:Int)]) pan).Perm (occ t far pan++Aw.part t.1 f u):=by
  intro a f u far pan h1 h2 h3;refine⟨fun i hi=>?_,?_⟩
  ·rcases List.mem_append.1 hi with hi | hi
   ·exact .inl hi
   ·rw [List.mem_singleton.1 hi];exact .inr ⟨by omega,by omega⟩
  ·have e:prt t (a:Int)=Aw.part t.1 f u:=by unfold prt;rw [iB,h2,h3]
   unfold occ;rw [List.flatMap_append,List.flatMap_singleton,e,List.append_assoc,List.append_assoc];exact List.Perm.append_left _ List.perm_append_comm
 induction H with
 | @leaf a f u h1 h2 h3 h4 h5 h6 =>
  intro n far pan h0 hn;obtain⟨n,rfl⟩:∃q,n=q+1:=⟨n - 1,by omega⟩;by_cases hq:yU t x sep a
  ·rw [aB1 hq];exact hfar a f u far pan h1 h3 h4
  ·rw [aK4 hq oM,h3,h4];exact⟨fun i hi=>.inl hi,by unfold occ;rw [List.append_assoc]⟩
 | @node a m1 m2 f c u h1 h2 g1 g2 g3 g4 g5 b1 b2 i1 i2 =>
  intro n far pan h0 hn;obtain⟨n,rfl⟩:∃q,n=q+1:=⟨n - 1,by omega⟩;have l1:=iD b1;have l2:=iD b2;by_cases hq:yU t x sep a
  ·rw [aB1 hq];exact hfar a f u far pan g1 g2 g3
  ·rw [aK5 hq oM,g4,g5];obtain⟨j1,j2⟩:=i1 n far pan h0 oM;obtain⟨k1,k2⟩:=i2 n (qB n ((a+1:Nat):Int) t x sep far pan).1 (qB n ((a+1:Nat):Int) t x sep far pan).2 oM oM;refine⟨fun i hi=>?_,?_⟩
   ·rcases k1 i hi with k1 | k1
    ·exact j1 i k1
    ·exact .inr k1
   ·refine k2.trans ((j2.append_right _).trans ?_);rw [List.append_assoc,aUs oM]
theorem aWu {l:jM} {leaf:Int} (hv:VCH l)(h1:1<=leaf)(x:Zt)(sep:Int) :
 (∀i∈(F50 (BT l leaf) x sep).1,0<=i/\i < (BT l leaf).2.length)/\(occ (BT l leaf) (F50 (BT l leaf) x sep).1 (F50 (BT l leaf) x sep).2).Perm (lU l.length):=by
 have hb:=rS l hv.1 h1;have hp:=aIt l h1;rcases aIb l h1 with⟨h0,e⟩ | ⟨hh,H⟩
 ·rw [e,h0];exact⟨fun i hi=>(by cases hi),List.Perm.refl _⟩
 ·have hw:=iD H;unfold F50;rw [bX (show(((BT l leaf).2.length:Nat):Int) > 0 by omega),cond_true];simp only [tT,F89];obtain⟨k1,k2⟩:=aWt (x:=x) (sep:=sep) H ((BT l leaf).2.length - tN 0+1) [] [] (Int.le_refl _) (by simp);refine⟨fun i hi=>?_,?_⟩
  ·rcases k1 i hi with k | k
   ·cases k
   ·exact k
  ·have e:Aw.part (BT l leaf).1 0 (l.length:Int)=(BT l leaf).1:=by rw [←hb.1];exact aUt
   rw [e] at k2;exact k2.trans hp
structure PCH (l:jM) (t:TR) (far pan:ZL):Prop where
 nods:aT2 t
 ord:InR l.length t.1
 inf:InR t.2.length far
 inp:InR l.length pan
 lens:l.length<=96/\t.1.length=l.length/\far.length<=96/\pan.length<=96
theorem aX8 {l:jM} {t:TR} {x:Zt} {sep:Int} (h:(aP l t x sep).2.2=0):mW l t=0/\F49 x=true/\(aP l t x sep)=((F50 t x sep).1,(F50 t x sep).2,0):=by
 unfold aP at h ⊢;cases h0:((yT l (t.1,t.2) sep:Int) != 0)
 case true=>rw [h0,cond_true] at h;exact absurd h (bne_iff_ne.1 h0)
 have hc:=aX1 h0;rw [h0,cond_false] at h;rw [cond_false];cases hs:F49 x
 case false=>rw [hs] at h;simp at h
 exact⟨hc,rfl,rfl⟩
theorem aIu {l:jM} {t:TR} {x:Zt} {sep:Int} (h:(aP l t x sep).2.2=0):PCH l t (aP l t x sep).1 (aP l t x sep).2.1:=by
 obtain⟨hc,_,e⟩:=aX8 h;have hb:=bAy x sep hc;obtain⟨hv,leaf,h1,h2,rfl⟩:=xC hc;obtain⟨k1,k2⟩:=aWu hv h1 x sep;rw [e];exact⟨aO6 l hv.1 h1,fun y hy=>qY _ y ((aIt l h1).mem_iff.1 hy),k1,fun y hy=>qY _ y (k2.mem_iff.1 (List.mem_append_right _ hy)),hv.1,(rS l hv.1 h1).1,hb⟩
theorem aEs {l:jM} {t:TR} {x:Zt} {sep:Int} (h:(aS l t x sep).2.2=0):PCH l t (aS l t x sep).1 (aS l t x sep).2.1:=by
 rw [←aEr] at h ⊢;exact aIu h
theorem PCH.node {l:jM} {t:TR} {far pan:ZL} (h:PCH l t far pan) {i:Nat} (hi:i < far.length):(0<=far.getD i dF/\far.getD i dF < (t.2.length:Int))/\0<=(t.2.getD (tN (far.getD i dF)) dF).1/\(t.2.getD (tN (far.getD i dF)) dF).1 < (t.2.getD (tN (far.getD i dF)) dF).2.1/\(t.2.getD (tN (far.getD i dF)) dF).2.1<=t.1.length:=by
 have h1:=h.inf.at hi;exact⟨h1,h.nods.2.2 _ oM⟩
theorem aLd {m:jM} (h:VCH m):iH m=0:=by
 have lp:∀(d i n:Nat),d=m.length - i->i<=m.length->d < n->aG (kB m) n (i:Int)=0:=by
  intro d
  induction d with
  | zero =>
   intro i n hd hi hn;obtain⟨n,rfl⟩:∃k,n=k+1:=⟨n - 1,by omega⟩;refine aL ?_;simp only [kB];rw [cA (show ¬((i:Nat):Int) < (m.length:Int) by omega),cond_false]
  | succ d ih =>
   intro i n hd hi hn;obtain⟨n,rfl⟩:∃k,n=k+1:=⟨n - 1,by omega⟩;obtain⟨g1,g2,g3⟩:=h.2 i oM;have e:kB m (i:Int)=bif (((F75 (m.getD i dF).1):Int) != 0) then .inr (F75 (m.getD i dF).1) else bif (!(F41 (m.getD i dF).2 (-100) 100)) then .inr 1 else .inl ((i+1:Nat):Int):=by
    simp only [kB,iB];rw [bX (show((i:Nat):Int) < (m.length:Int) by omega),cond_true];rfl
   rw [aVp,g1,qS,bX (show -100<=(m.getD i dF).2/\(m.getD i dF).2<=100 from⟨g2,g3⟩)] at e;rw [aK (e.trans rfl)];exact ih _ _ oM oM oM
 unfold iH;rw [cA (show ¬(m.length:Int) > 96 by have:=h.1;omega),cond_false];exact lp m.length 0 _ oM oM oM
theorem aNd {l:jM} (hv:VCH l) {leaf:Int}:∀(n:Nat) (ns:ZL) (fr a:Int),InR l.length ns->∀N∈(GT l leaf n ns fr a).2,bd 64 N.2.2.2.2.1
 | 0,_,_,_,_=>fun N hN=>by cases hN
 | n+1,ns,fr,a,hi=>by
  have hroot:∀lt rt:Int,bd 64 (ndR l ns fr lt rt).2.2.2.2.1:=fun _ _=>⟨aAj hv hi 0,aAj hv hi 1,aAj hv hi 2⟩
  intro N hN;by_cases h0:(ns.length:Int)<=leaf
  ·rw [nN h0] at hN;rw [List.mem_singleton.1 hN];exact hroot _ _
  ·rw [nO h0] at hN;have hsp:(rA l (aI l ns) ns).Perm ns:=List.mergeSort_perm ns _;generalize rA l (aI l ns) ns=s at *;rcases List.mem_cons.1 hN with rfl | hN
   ·exact hroot _ _
   ·rcases List.mem_append.1 hN with hN | hN
    ·exact aNd hv n _ _ _ (fun x hx=>hi x (hsp.mem_iff.1 (List.mem_of_mem_take hx))) N hN
    ·exact aNd hv n _ _ _ (fun x hx=>hi x (hsp.mem_iff.1 (List.mem_of_mem_drop hx))) N hN
theorem bAz {l:jM} (hv:VCH l) {leaf:Int} {N:NDE} (hN:N∈(BT l leaf).2):bd 64 N.2.2.2.2.1:=by
 unfold BT at hN;by_cases h0:l.length=0
 ·rw [if_pos h0] at hN;cases hN
 ·rw [if_neg h0] at hN;exact aNd hv _ _ _ _ (qY _) N hN
theorem bDt {m:jM} {c:Zt} (h:pK m c=0):(kL m c).2=0:=by
 unfold kL;rw [h];refine nU (S:=sC m c) (fun v:Int×Int×Int×Int×Int×Int×Int×Int×Int×Zt=>tN ((m.length:Nat) - v.1)) (fun v=>True) (fun r:jY×Int=>r.2=0) (fun v _=>?_) _ _ trivial (by simp only;omega);obtain⟨i,v2,v3,v4,v5,v6,v7,v8,v9,v10,v11,v12⟩:=v;simp only [sC];by_cases hh:i < (m.length:Int)
 ·left;rw [bX hh,cond_true];exact⟨_,rfl,trivial,by simp only;omega⟩
 ·right;rw [cA hh];exact⟨_,rfl,rfl⟩
theorem aWv {l:jM} {t:TR} (hc:mW l t=0) {i:Nat} (hi:i < t.2.length):(kL (cU l (Aw.part t.1 (t.2.getD i dF).1 (t.2.getD i dF).2.1)) (t.2.getD i dF).2.2.2.2.1).2=0:=by
 obtain⟨hv,leaf,h1,h2,rfl⟩:=xC hc;refine bDt ?_;have hg:(BT l leaf).2.getD i dF∈(BT l leaf).2:=by
  rw [gS,List.getElem?_eq_getElem hi];exact List.getElem_mem hi
 have hb:=bAz hv hg;have hir:InR l.length (Aw.part (BT l leaf).1 ((BT l leaf).2.getD i dF).1 ((BT l leaf).2.getD i dF).2.1):=InR.part (fun y hy=>qY _ y ((aIt l h1).mem_iff.1 hy)) _ _;have hln:(Aw.part (BT l leaf).1 ((BT l leaf).2.getD i dF).1 ((BT l leaf).2.getD i dF).2.1).length<=96:=by
  have h3:=(rS l hv.1 h1).1;have h4:(Aw.part (BT l leaf).1 ((BT l leaf).2.getD i dF).1 ((BT l leaf).2.getD i dF).2.1).length<=(BT l leaf).1.length:=by unfold Aw.part;simp only [List.length_take,List.length_drop];omega
  have:=hv.1;omega
 generalize Aw.part (BT l leaf).1 ((BT l leaf).2.getD i dF).1 ((BT l leaf).2.getD i dF).2.1=ns at *;have hpm:cU l ns=ns.map (fun a=>l.getD (tN a) dF):=aMu l ns;have hvp:VCH (cU l ns):=by
  refine⟨by rw [hpm,List.length_map];exact hln,fun k hk=>?_⟩;rw [hpm,List.length_map] at hk;have he:(cU l ns).getD k dF=l.getD (tN (ns.getD k dF)) dF:=by rw [hpm];simp [gS,hk]
  rw [he];have:=hir.at hk;exact hv.2 _ oM
 unfold pK;rw [←wW,aLd hvp,(sD (k:=64) (by decide)).2 hb];rfl
theorem PCH.part {l:jM} {t:TR} {far pan:ZL} (h:PCH l t far pan)(a b:Int):(Aw.part t.1 a b).length<=1048576:=by
 have h1:=h.nods.1;have h4:(Aw.part t.1 a b).length<=t.1.length:=by unfold Aw.part;simp only [List.length_take,List.length_drop];omega
 omega
noncomputable def aIv:=aU [1,1,1,1,1,1,0,1] [] (aV Tryz.f9) []
def aIw (a0:bV)(a1:ZL×cV)(a2:Zt)(a3 a4 a5:Int)(v5c:List SV)(v5n:Nat)(v6:Int):LS:=⟨gU 131 [(0,(.s 0 0 a0.length 10)),(5,(iv a5)),(8,(.p 3 0)),(12,(.p 4 0)),(17,(.s 5 0 v5n 2)),(101,(.s 6 0 (aP a0 (a1.1,a1.2) a2 a3).2.1.length 1)),(102,(iv (((aP a0 (a1.1,a1.2) a2 a3).2.1.length:Nat):Int))),(103,(iv v6))],[(.live false true (flat dI a0)),(.live false true (flat c3 a1.1)),(.live false true (flat cR a1.2)),(.live true false (k3 a2)),(.live true false [(iv 0),(iv 0)]),(.live true true v5c),(.live true true (flat c3 (aP a0 (a1.1,a1.2) a2 a3).2.1))]⟩
def aAo (a0:bV)(a1:ZL×cV)(a2:Zt)(a3 a4 a5:Int):(List Zs)×Int->((List Zs)×Int)⊕(Zs×Int) | (v5,v6) => (bif (decide ((v6:Int) < (((aP a0 (a1.1,a1.2) a2 a3).2.1.length:Nat):Int)))then(bif (((qT (Aw.part a0 ((aP a0 (a1.1,a1.2) a2 a3).2.1.getD (tN v6) dF) (W (((aP a0 (a1.1,a1.2) a2 a3).2.1.getD (tN v6) dF)+1))) a2 a5).2:Int) != 0)then(.inr ((0,0),(qT (Aw.part a0 ((aP a0 (a1.1,a1.2) a2 a3).2.1.getD (tN v6) dF) (W (((aP a0 (a1.1,a1.2) a2 a3).2.1.getD (tN v6) dF)+1))) a2 a5).2))else(.inl ((v5++[(qT (Aw.part a0 ((aP a0 (a1.1,a1.2) a2 a3).2.1.getD (tN v6) dF) (W (((aP a0 (a1.1,a1.2) a2 a3).2.1.getD (tN v6) dF)+1))) a2 a5).1]),(v6+1))))else(.inr ((qP v5).1,(qP v5).2)))
noncomputable def aEt:=aU [1,1,1,1,1,0,1] [] (aV Tryz.f9) []
def aIx (a0:bV)(a1:ZL×cV)(a2:Zt)(a3 a4 a5:Int)(v2c:List SV)(v2n:Nat)(v3:Int):LS:=⟨gU 131 [(0,(.s 0 0 a0.length 10)),(4,(iv a4)),(5,(iv a5)),(7,(.p 3 0)),(8,(.p 4 0)),(12,(.p 5 0)),(15,(.s 6 0 (aP a0 (a1.1,a1.2) a2 a3).2.1.length 1)),(17,(.s 7 0 v2n 2)),(50,(.s 8 0 (aP a0 (a1.1,a1.2) a2 a3).1.length 1)),(51,(iv (((aP a0 (a1.1,a1.2) a2 a3).1.length:Nat):Int))),(52,(iv v3))],[(.live false true (flat dI a0)),(.live false true (flat c3 a1.1)),(.live false true (flat cR a1.2)),(.live true false [(.s 1 0 a1.1.length 1),(.s 2 0 a1.2.length 8)]),(.live true false (k3 a2)),(.live true false [(iv 0),(iv 0)]),(.live true true (flat c3 (aP a0 (a1.1,a1.2) a2 a3).2.1)),(.live true true v2c),(.live true true (flat c3 (aP a0 (a1.1,a1.2) a2 a3).1))]⟩
def aEu (a0:bV)(a1:ZL×cV)(a2:Zt)(a3 a4 a5:Int):(List Zs)×Int->((List Zs)×Int)⊕(Zs×Int) | (v2,v3) => (bif (decide ((v3:Int) < (((aP a0 (a1.1,a1.2) a2 a3).1.length:Nat):Int)))then(bif (((lD (cW a0 (Aw.part (a1.1) ((a1.2.getD (tN ((aP a0 (a1.1,a1.2) a2 a3).1.getD (tN v3) dF)) dF).1) ((a1.2.getD (tN ((aP a0 (a1.1,a1.2) a2 a3).1.getD (tN v3) dF)) dF).2.1))) (a1.2.getD (tN ((aP a0 (a1.1,a1.2) a2 a3).1.getD (tN v3) dF)) dF).2.2.2.2.1).2:Int) != 0)then(.inr ((0,0),(lD (cW a0 (Aw.part (a1.1) ((a1.2.getD (tN ((aP a0 (a1.1,a1.2) a2 a3).1.getD (tN v3) dF)) dF).1) ((a1.2.getD (tN ((aP a0 (a1.1,a1.2) a2 a3).1.getD (tN v3) dF)) dF).2.1))) (a1.2.getD (tN ((aP a0 (a1.1,a1.2) a2 a3).1.getD (tN v3) dF)) dF).2.2.2.2.1).2))else(bif (((F26 (lD (cW a0 (Aw.part (a1.1) ((a1.2.getD (tN ((aP a0 (a1.1,a1.2) a2 a3).1.getD (tN v3) dF)) dF).1) ((a1.2.getD (tN ((aP a0 (a1.1,a1.2) a2 a3).1.getD (tN v3) dF)) dF).2.1))) (a1.2.getD (tN ((aP a0 (a1.1,a1.2) a2 a3).1.getD (tN v3) dF)) dF).2.2.2.2.1).1 (a1.2.getD (tN ((aP a0 (a1.1,a1.2) a2 a3).1.getD (tN v3) dF)) dF).2.2.2.2.2 (F27 a2 (a1.2.getD (tN ((aP a0 (a1.1,a1.2) a2 a3).1.getD (tN v3) dF)) dF).2.2.2.2.1) a4).2:Int) != 0)then(.inr ((0,0),(F26 (lD (cW a0 (Aw.part (a1.1) ((a1.2.getD (tN ((aP a0 (a1.1,a1.2) a2 a3).1.getD (tN v3) dF)) dF).1) ((a1.2.getD (tN ((aP a0 (a1.1,a1.2) a2 a3).1.getD (tN v3) dF)) dF).2.1))) (a1.2.getD (tN ((aP a0 (a1.1,a1.2) a2 a3).1.getD (tN v3) dF)) dF).2.2.2.2.1).1 (a1.2.getD (tN ((aP a0 (a1.1,a1.2) a2 a3).1.getD (tN v3) dF)) dF).2.2.2.2.2 (F27 a2 (a1.2.getD (tN ((aP a0 (a1.1,a1.2) a2 a3).1.getD (tN v3) dF)) dF).2.2.2.2.1) a4).2))else(.inl ((v2++[(F26 (lD (cW a0 (Aw.part (a1.1) ((a1.2.getD (tN ((aP a0 (a1.1,a1.2) a2 a3).1.getD (tN v3) dF)) dF).1) ((a1.2.getD (tN ((aP a0 (a1.1,a1.2) a2 a3).1.getD (tN v3) dF)) dF).2.1))) (a1.2.getD (tN ((aP a0 (a1.1,a1.2) a2 a3).1.getD (tN v3) dF)) dF).2.2.2.2.1).1 (a1.2.getD (tN ((aP a0 (a1.1,a1.2) a2 a3).1.getD (tN v3) dF)) dF).2.2.2.2.2 (F27 a2 (a1.2.getD (tN ((aP a0 (a1.1,a1.2) a2 a3).1.getD (tN v3) dF)) dF).2.2.2.2.1) a4).1]),(v3+1)))))else(.inr (aG (aAo a0 a1 a2 a3 a4 a5) (tN ((((aP a0 (a1.1,a1.2) a2 a3).2.1.length:Nat):Int) - 0)+1) (v2,0))))
theorem bA0 (a0:bV)(a1:ZL×cV)(a2:Zt)(a3 a4 a5:Int)(l0:a0.length<=2^63-1)(l1_1:a1.1.length<=2^63-1)(l1_2:a1.2.length<=2^63-1) {cx:Cx} (hcx:cx.base=3):∀(n:Nat) (v5:List Zs) (v6:Int),(0<=v6)/\((aP a0 (a1.1,a1.2) a2 a3).2.2=0)/\(v5.length<=96+v6)/\(v6<=(aP a0 (a1.1,a1.2) a2 a3).2.1.length)->tN ((((aP a0 (a1.1,a1.2) a2 a3).2.1.length:Nat):Int) - v6) < n->gG Tryz.f9 cx (.t [(.a (k2 (aG (aAo a0 a1 a2 a3 a4 a5) n (v5,v6)).1)),(iv (aG (aAo a0 a1 a2 a3 a4 a5) n (v5,v6)).2)]) [] [] (.l aIv.1 n::aIv.2) (aIw a0 a1 a2 a3 a4 a5 (flat lF v5) v5.length v6):=by
 intro n
 induction n with|zero=>intro v5 v6 hi hn;exact absurd hn (dX _)|succ n ih=>?_
 intro v5 v6 hi hn;refine aN ?_;have hp:=aIu (l:=a0) (t:=(a1.1,a1.2)) (x:=a2) (sep:=a3) hi.2.1;have hl96:=hp.lens;rw [aZ,aAo];cases h0:(decide ((v6:Int) < (((aP a0 (a1.1,a1.2) a2 a3).2.1.length:Nat):Int)))
 case true=>
  have q0:=eS h0
  try have hnd:=hp.inp.at (i:=tN v6) (by have _:=h0;omega)
  try have hw1:=aH (n:=((aP a0 (a1.1,a1.2) a2 a3).2.1.getD (tN v6) dF)+1) (by have _:=h0;omega) (by have _:=h0;omega)
  try have hpq:=bD (l:=a0) (a:=((aP a0 (a1.1,a1.2) a2 a3).2.1.getD (tN v6) dF)) (b:=W (((aP a0 (a1.1,a1.2) a2 a3).2.1.getD (tN v6) dF)+1)) (by have _:=h0;omega)
  let t1:SL:=[.d h0,.i v6 ((aP a0 (a1.1,a1.2) a2 a3).2.1.length),.L aF (aP a0 (a1.1,a1.2) a2 a3).2.1 v6 0 1,.S cQ a0 ((aP a0 (a1.1,a1.2) a2 a3).2.1.getD (tN v6) dF) (W (((aP a0 (a1.1,a1.2) a2 a3).2.1.getD (tN v6) dF)+1)) (a0.length),.c [7] (by have q:=(bB9 (Aw.part a0 ((aP a0 (a1.1,a1.2) a2 a3).2.1.getD (tN v6) dF) (W (((aP a0 (a1.1,a1.2) a2 a3).2.1.getD (tN v6) dF)+1))) a2 a5 oM);(try dsimp only at q);(try rw [show List.length (α:=(Zt×Zt×Zt)×Int) (Aw.part a0 ((aP a0 (a1.1,a1.2) a2 a3).2.1.getD (tN v6) dF) (W (((aP a0 (a1.1,a1.2) a2 a3).2.1.getD (tN v6) dF)+1)))=(tN (W (((aP a0 (a1.1,a1.2) a2 a3).2.1.getD (tN v6) dF)+1)) - tN ((aP a0 (a1.1,a1.2) a2 a3).2.1.getD (tN v6) dF)) from by first | simp;done | omega] at q);exact q)];cases h1:(((qT (Aw.part a0 ((aP a0 (a1.1,a1.2) a2 a3).2.1.getD (tN v6) dF) (W (((aP a0 (a1.1,a1.2) a2 a3).2.1.getD (tN v6) dF)+1))) a2 a5).2:Int) != 0)
  case true=>
   try have hnd:=hp.inp.at (i:=tN v6) (by have _:=h0;omega)
   try have hw1:=aH (n:=((aP a0 (a1.1,a1.2) a2 a3).2.1.getD (tN v6) dF)+1) (by have _:=h0;omega) (by have _:=h0;omega)
   try have hpq:=bD (l:=a0) (a:=((aP a0 (a1.1,a1.2) a2 a3).2.1.getD (tN v6) dF)) (b:=W (((aP a0 (a1.1,a1.2) a2 a3).2.1.getD (tN v6) dF)+1)) (by have _:=h0;omega)
   exact rT (t1++[.d h1]) hcx
  try have hnd:=hp.inp.at (i:=tN v6) (by have _:=h0;omega)
  try have hw1:=aH (n:=((aP a0 (a1.1,a1.2) a2 a3).2.1.getD (tN v6) dF)+1) (by have _:=h0;omega) (by have _:=h0;omega)
  try have hpq:=bD (l:=a0) (a:=((aP a0 (a1.1,a1.2) a2 a3).2.1.getD (tN v6) dF)) (b:=W (((aP a0 (a1.1,a1.2) a2 a3).2.1.getD (tN v6) dF)+1)) (by have _:=h0;omega)
  refine bA n (t1++[.d h1,.p (show((flat lF v5).length=v5.length*2/\v5.length+1<=2 ^ 40/\(v5.length+1)*16<=2 ^ 47) from iS kA oM oM)]) [0,5,8,12,17,101,102,103] [3,4,10,6] hcx aIv (aIw a0 a1 a2 a3 a4 a5 (flat lF v5++(k2 (qT (Aw.part a0 ((aP a0 (a1.1,a1.2) a2 a3).2.1.getD (tN v6) dF) (W (((aP a0 (a1.1,a1.2) a2 a3).2.1.getD (tN v6) dF)+1))) a2 a5).1)) (v5.length+1) (W (v6+1))) ?_;have z0:(W (v6+1))=(v6+1):=aH oM oM;have z1:(flat lF v5++(k2 (qT (Aw.part a0 ((aP a0 (a1.1,a1.2) a2 a3).2.1.getD (tN v6) dF) (W (((aP a0 (a1.1,a1.2) a2 a3).2.1.getD (tN v6) dF)+1))) a2 a5).1))=_:=(bQ (c:=lF) (l:=v5) (m:=[(qT (Aw.part a0 ((aP a0 (a1.1,a1.2) a2 a3).2.1.getD (tN v6) dF) (W (((aP a0 (a1.1,a1.2) a2 a3).2.1.getD (tN v6) dF)+1))) a2 a5).1])).symm;have z2:(v5.length+1)=_:=jN v5 [(qT (Aw.part a0 ((aP a0 (a1.1,a1.2) a2 a3).2.1.getD (tN v6) dF) (W (((aP a0 (a1.1,a1.2) a2 a3).2.1.getD (tN v6) dF)+1))) a2 a5).1] rfl;rw [z0,z1,z2];exact ih _ _ oR oM
 have q0:=iF h0;exact rT [.d h0,.c [5] (aRl v5 oM)] hcx
theorem bA1 (a0:bV)(a1:ZL×cV)(a2:Zt)(a3 a4 a5:Int)(l0:a0.length<=2^63-1)(l1_1:a1.1.length<=2^63-1)(l1_2:a1.2.length<=2^63-1) {cx:Cx} (hcx:cx.base=3):∀(n:Nat) (v2:List Zs) (v3:Int),(0<=v3)/\((aP a0 (a1.1,a1.2) a2 a3).2.2=0)/\(v2.length<=v3)/\(v3<=(aP a0 (a1.1,a1.2) a2 a3).1.length)->tN ((((aP a0 (a1.1,a1.2) a2 a3).1.length:Nat):Int) - v3) < n->gG Tryz.f9 cx (.t [(.a (k2 (aG (aEu a0 a1 a2 a3 a4 a5) n (v2,v3)).1)),(iv (aG (aEu a0 a1 a2 a3 a4 a5) n (v2,v3)).2)]) [] [] (.l aEt.1 n::aEt.2) (aIx a0 a1 a2 a3 a4 a5 (flat lF v2) v2.length v3):=by
 intro n
 induction n with|zero=>intro v2 v3 hi hn;exact absurd hn (dX _)|succ n ih=>?_
 intro v2 v3 hi hn;refine aN ?_;have hp:=aIu (l:=a0) (t:=(a1.1,a1.2)) (x:=a2) (sep:=a3) hi.2.1;have hl96:=hp.lens
 try (have _:=h0;dsimp only at hnd)
 have hml:=uO a0 (Aw.part (a1.1) (a1.2.getD (tN ((aP a0 (a1.1,a1.2) a2 a3).1.getD (tN v3) dF)) dF).1 (a1.2.getD (tN ((aP a0 (a1.1,a1.2) a2 a3).1.getD (tN v3) dF)) dF).2.1);rw [aZ,aEu];cases h0:(decide ((v3:Int) < (((aP a0 (a1.1,a1.2) a2 a3).1.length:Nat):Int)))
 case true=>
  have q0:=eS h0
  try have hnd:=hp.node (i:=tN v3) (by have _:=h0;omega)
  try (have _:=h0;dsimp only at hnd)
  try have hpl:=bD (l:=a1.1) (a:=(a1.2.getD (tN ((aP a0 (a1.1,a1.2) a2 a3).1.getD (tN v3) dF)) dF).1) (b:=(a1.2.getD (tN ((aP a0 (a1.1,a1.2) a2 a3).1.getD (tN v3) dF)) dF).2.1) (by have _:=h0;omega)
  let t1:SL:=[.d h0,.i v3 ((aP a0 (a1.1,a1.2) a2 a3).1.length),.L aF (aP a0 (a1.1,a1.2) a2 a3).1 v3 0 1,.i ((aP a0 (a1.1,a1.2) a2 a3).1.getD (tN v3) dF) (a1.2.length),.L cC a1.2 ((aP a0 (a1.1,a1.2) a2 a3).1.getD (tN v3) dF) 0 8,.S aF (a1.1) ((a1.2.getD (tN ((aP a0 (a1.1,a1.2) a2 a3).1.getD (tN v3) dF)) dF).1) ((a1.2.getD (tN ((aP a0 (a1.1,a1.2) a2 a3).1.getD (tN v3) dF)) dF).2.1) (a1.1.length),.c [0,10] (by have q:=(aOw a0 (Aw.part (a1.1) ((a1.2.getD (tN ((aP a0 (a1.1,a1.2) a2 a3).1.getD (tN v3) dF)) dF).1) ((a1.2.getD (tN ((aP a0 (a1.1,a1.2) a2 a3).1.getD (tN v3) dF)) dF).2.1)) oM oM (hp.ord.part _ _) (hp.part _ _));(try dsimp only at q);(try rw [show List.length (α:=Int) (Aw.part (a1.1) ((a1.2.getD (tN ((aP a0 (a1.1,a1.2) a2 a3).1.getD (tN v3) dF)) dF).1) ((a1.2.getD (tN ((aP a0 (a1.1,a1.2) a2 a3).1.getD (tN v3) dF)) dF).2.1))=(tN (a1.2.getD (tN ((aP a0 (a1.1,a1.2) a2 a3).1.getD (tN v3) dF)) dF).2.1 - tN (a1.2.getD (tN ((aP a0 (a1.1,a1.2) a2 a3).1.getD (tN v3) dF)) dF).1) from by first | simp;done | omega] at q);exact q),.c [11] (bDb (cW a0 (Aw.part (a1.1) ((a1.2.getD (tN ((aP a0 (a1.1,a1.2) a2 a3).1.getD (tN v3) dF)) dF).1) ((a1.2.getD (tN ((aP a0 (a1.1,a1.2) a2 a3).1.getD (tN v3) dF)) dF).2.1))) (a1.2.getD (tN ((aP a0 (a1.1,a1.2) a2 a3).1.getD (tN v3) dF)) dF).2.2.2.2.1 oM)];cases h1:(((lD (cW a0 (Aw.part (a1.1) ((a1.2.getD (tN ((aP a0 (a1.1,a1.2) a2 a3).1.getD (tN v3) dF)) dF).1) ((a1.2.getD (tN ((aP a0 (a1.1,a1.2) a2 a3).1.getD (tN v3) dF)) dF).2.1))) (a1.2.getD (tN ((aP a0 (a1.1,a1.2) a2 a3).1.getD (tN v3) dF)) dF).2.2.2.2.1).2:Int) != 0)
  case true=>
   try have hnd:=hp.node (i:=tN v3) (by have _:=h0;omega)
   try (have _:=h0;dsimp only at hnd)
   try have hpl:=bD (l:=a1.1) (a:=(a1.2.getD (tN ((aP a0 (a1.1,a1.2) a2 a3).1.getD (tN v3) dF)) dF).1) (b:=(a1.2.getD (tN ((aP a0 (a1.1,a1.2) a2 a3).1.getD (tN v3) dF)) dF).2.1) (by have _:=h0;omega)
   exact rT (t1++[.d h1]) hcx
  try have hnd:=hp.node (i:=tN v3) (by have _:=h0;omega)
  try (have _:=h0;dsimp only at hnd)
  try have hpl:=bD (l:=a1.1) (a:=(a1.2.getD (tN ((aP a0 (a1.1,a1.2) a2 a3).1.getD (tN v3) dF)) dF).1) (b:=(a1.2.getD (tN ((aP a0 (a1.1,a1.2) a2 a3).1.getD (tN v3) dF)) dF).2.1) (by have _:=h0;omega)
  let t2:SL:=t1++[.d h1,.c [] (C27 a2 (a1.2.getD (tN ((aP a0 (a1.1,a1.2) a2 a3).1.getD (tN v3) dF)) dF).2.2.2.2.1),.c [] (C26 (lD (cW a0 (Aw.part (a1.1) ((a1.2.getD (tN ((aP a0 (a1.1,a1.2) a2 a3).1.getD (tN v3) dF)) dF).1) ((a1.2.getD (tN ((aP a0 (a1.1,a1.2) a2 a3).1.getD (tN v3) dF)) dF).2.1))) (a1.2.getD (tN ((aP a0 (a1.1,a1.2) a2 a3).1.getD (tN v3) dF)) dF).2.2.2.2.1).1 (a1.2.getD (tN ((aP a0 (a1.1,a1.2) a2 a3).1.getD (tN v3) dF)) dF).2.2.2.2.2 (F27 a2 (a1.2.getD (tN ((aP a0 (a1.1,a1.2) a2 a3).1.getD (tN v3) dF)) dF).2.2.2.2.1) a4)];cases h2:(((F26 (lD (cW a0 (Aw.part (a1.1) ((a1.2.getD (tN ((aP a0 (a1.1,a1.2) a2 a3).1.getD (tN v3) dF)) dF).1) ((a1.2.getD (tN ((aP a0 (a1.1,a1.2) a2 a3).1.getD (tN v3) dF)) dF).2.1))) (a1.2.getD (tN ((aP a0 (a1.1,a1.2) a2 a3).1.getD (tN v3) dF)) dF).2.2.2.2.1).1 (a1.2.getD (tN ((aP a0 (a1.1,a1.2) a2 a3).1.getD (tN v3) dF)) dF).2.2.2.2.2 (F27 a2 (a1.2.getD (tN ((aP a0 (a1.1,a1.2) a2 a3).1.getD (tN v3) dF)) dF).2.2.2.2.1) a4).2:Int) != 0)
  case true=>
   try have hnd:=hp.node (i:=tN v3) (by have _:=h0;omega)
   try (have _:=h0;dsimp only at hnd)
   try have hpl:=bD (l:=a1.1) (a:=(a1.2.getD (tN ((aP a0 (a1.1,a1.2) a2 a3).1.getD (tN v3) dF)) dF).1) (b:=(a1.2.getD (tN ((aP a0 (a1.1,a1.2) a2 a3).1.getD (tN v3) dF)) dF).2.1) (by have _:=h0;omega)
   exact rT (t2++[.d h2]) hcx
  try have hnd:=hp.node (i:=tN v3) (by have _:=h0;omega)
  try (have _:=h0;dsimp only at hnd)
  try have hpl:=bD (l:=a1.1) (a:=(a1.2.getD (tN ((aP a0 (a1.1,a1.2) a2 a3).1.getD (tN v3) dF)) dF).1) (b:=(a1.2.getD (tN ((aP a0 (a1.1,a1.2) a2 a3).1.getD (tN v3) dF)) dF).2.1) (by have _:=h0;omega)
  refine bA n (t2++[.d h2,.p (show((flat lF v2).length=v2.length*2/\v2.length+1<=2 ^ 40/\(v2.length+1)*16<=2 ^ 47) from iS kA oM oM)]) [0,4,5,7,8,12,15,17,50,51,52] [3,4,5,6,15,8] hcx aEt (aIx a0 a1 a2 a3 a4 a5 (flat lF v2++[(iv (F26 (lD (cW a0 (Aw.part (a1.1) ((a1.2.getD (tN ((aP a0 (a1.1,a1.2) a2 a3).1.getD (tN v3) dF)) dF).1) ((a1.2.getD (tN ((aP a0 (a1.1,a1.2) a2 a3).1.getD (tN v3) dF)) dF).2.1))) (a1.2.getD (tN ((aP a0 (a1.1,a1.2) a2 a3).1.getD (tN v3) dF)) dF).2.2.2.2.1).1 (a1.2.getD (tN ((aP a0 (a1.1,a1.2) a2 a3).1.getD (tN v3) dF)) dF).2.2.2.2.2 (F27 a2 (a1.2.getD (tN ((aP a0 (a1.1,a1.2) a2 a3).1.getD (tN v3) dF)) dF).2.2.2.2.1) a4).1.1),(iv (F26 (lD (cW a0 (Aw.part (a1.1) ((a1.2.getD (tN ((aP a0 (a1.1,a1.2) a2 a3).1.getD (tN v3) dF)) dF).1) ((a1.2.getD (tN ((aP a0 (a1.1,a1.2) a2 a3).1.getD (tN v3) dF)) dF).2.1))) (a1.2.getD (tN ((aP a0 (a1.1,a1.2) a2 a3).1.getD (tN v3) dF)) dF).2.2.2.2.1).1 (a1.2.getD (tN ((aP a0 (a1.1,a1.2) a2 a3).1.getD (tN v3) dF)) dF).2.2.2.2.2 (F27 a2 (a1.2.getD (tN ((aP a0 (a1.1,a1.2) a2 a3).1.getD (tN v3) dF)) dF).2.2.2.2.1) a4).1.2)]) (v2.length+1) (W (v3+1))) ?_;have z0:(W (v3+1))=(v3+1):=aH oM oM;have z1:(flat lF v2++[(iv (F26 (lD (cW a0 (Aw.part (a1.1) ((a1.2.getD (tN ((aP a0 (a1.1,a1.2) a2 a3).1.getD (tN v3) dF)) dF).1) ((a1.2.getD (tN ((aP a0 (a1.1,a1.2) a2 a3).1.getD (tN v3) dF)) dF).2.1))) (a1.2.getD (tN ((aP a0 (a1.1,a1.2) a2 a3).1.getD (tN v3) dF)) dF).2.2.2.2.1).1 (a1.2.getD (tN ((aP a0 (a1.1,a1.2) a2 a3).1.getD (tN v3) dF)) dF).2.2.2.2.2 (F27 a2 (a1.2.getD (tN ((aP a0 (a1.1,a1.2) a2 a3).1.getD (tN v3) dF)) dF).2.2.2.2.1) a4).1.1),(iv (F26 (lD (cW a0 (Aw.part (a1.1) ((a1.2.getD (tN ((aP a0 (a1.1,a1.2) a2 a3).1.getD (tN v3) dF)) dF).1) ((a1.2.getD (tN ((aP a0 (a1.1,a1.2) a2 a3).1.getD (tN v3) dF)) dF).2.1))) (a1.2.getD (tN ((aP a0 (a1.1,a1.2) a2 a3).1.getD (tN v3) dF)) dF).2.2.2.2.1).1 (a1.2.getD (tN ((aP a0 (a1.1,a1.2) a2 a3).1.getD (tN v3) dF)) dF).2.2.2.2.2 (F27 a2 (a1.2.getD (tN ((aP a0 (a1.1,a1.2) a2 a3).1.getD (tN v3) dF)) dF).2.2.2.2.1) a4).1.2)])=_:=(bQ (c:=lF) (l:=v2) (m:=[(F26 (lD (cW a0 (Aw.part (a1.1) ((a1.2.getD (tN ((aP a0 (a1.1,a1.2) a2 a3).1.getD (tN v3) dF)) dF).1) ((a1.2.getD (tN ((aP a0 (a1.1,a1.2) a2 a3).1.getD (tN v3) dF)) dF).2.1))) (a1.2.getD (tN ((aP a0 (a1.1,a1.2) a2 a3).1.getD (tN v3) dF)) dF).2.2.2.2.1).1 (a1.2.getD (tN ((aP a0 (a1.1,a1.2) a2 a3).1.getD (tN v3) dF)) dF).2.2.2.2.2 (F27 a2 (a1.2.getD (tN ((aP a0 (a1.1,a1.2) a2 a3).1.getD (tN v3) dF)) dF).2.2.2.2.1) a4).1])).symm;have z2:(v2.length+1)=_:=jN v2 [(F26 (lD (cW a0 (Aw.part (a1.1) ((a1.2.getD (tN ((aP a0 (a1.1,a1.2) a2 a3).1.getD (tN v3) dF)) dF).1) ((a1.2.getD (tN ((aP a0 (a1.1,a1.2) a2 a3).1.getD (tN v3) dF)) dF).2.1))) (a1.2.getD (tN ((aP a0 (a1.1,a1.2) a2 a3).1.getD (tN v3) dF)) dF).2.2.2.2.1).1 (a1.2.getD (tN ((aP a0 (a1.1,a1.2) a2 a3).1.getD (tN v3) dF)) dF).2.2.2.2.2 (F27 a2 (a1.2.getD (tN ((aP a0 (a1.1,a1.2) a2 a3).1.getD (tN v3) dF)) dF).2.2.2.2.1) a4).1] rfl;rw [z0,z1,z2];exact ih _ _ oR oM
 have q0:=iF h0
 try (have _:=h0;dsimp only at hnd)
 refine eN [.d h0] [0,5,8,12,17,101,102,103] [4,5,7,6] hcx aIv (aIw a0 a1 a2 a3 a4 a5 (flat lF v2) (v2.length) 0) (tN ((((aP a0 (a1.1,a1.2) a2 a3).2.1.length:Nat):Int) - 0)+1) ?_;exact bA0 a0 a1 a2 a3 a4 a5 l0 l1_1 l1_2 hcx (tN ((((aP a0 (a1.1,a1.2) a2 a3).2.1.length:Nat):Int) - 0)+1) v2 0 oR oM
def aEv (a0:bV)(a1:ZL×cV)(a2:Zt)(a3 a4 a5:Int):Zs×Int := (bif (((aP a0 (a1.1,a1.2) a2 a3).2.2:Int) != 0)then((0,0),(aP a0 (a1.1,a1.2) a2 a3).2.2)else(bif (!(F23 a4 0 2))then((0,0),1)else(bif (!(F23 a5 0 3))then((0,0),1)else(aG (aEu a0 a1 a2 a3 a4 a5) (tN ((((aP a0 (a1.1,a1.2) a2 a3).1.length:Nat):Int) - 0)+1) (([]:List Zs),0)))))
theorem bFz (a0:bV)(a1:ZL×cV)(a2:Zt)(a3 a4 a5:Int)(l0:a0.length<=2^63-1)(l1_1:a1.1.length<=2^63-1)(l1_2:a1.2.length<=2^63-1):Con Tryz.prog 9 [(.s 0 0 a0.length 10),(.a [(.s 1 0 a1.1.length 1),(.s 2 0 a1.2.length 8)]),(.a (k3 a2)),(iv a3),(iv a4),(iv a5)] [(.live false true (flat dI a0)),(.live false true (flat c3 a1.1)),(.live false true (flat cR a1.2))] (.t [(.a (k2 (aEv a0 a1 a2 a3 a4 a5).1)),(iv (aEv a0 a1 a2 a3 a4 a5).2)]) []:=by
 refine cS Tryz.func9 fun cx hcx=>?_
 let t0:SL:=[.c [0,1,2] (bC2 a0 (a1.1,a1.2) a2 a3 oM oM oM)];rw [aEv];cases h0:(((aP a0 (a1.1,a1.2) a2 a3).2.2:Int) != 0)
 case true=>exact rT (t0++[.d h0]) hcx
 have q0:=bne_eq_false_iff_eq.1 h0;let t1:SL:=t0++[.d h0,.c [] (C23 a4 0 2)];cases h1:(!(F23 a4 0 2))
 case true=>exact rT (t1++[.d h1]) hcx
 let t2:SL:=t1++[.d h1,.c [] (C23 a5 0 3)];cases h2:(!(F23 a5 0 3))
 case true=>exact rT (t2++[.d h2]) hcx
 refine en (t2++[.d h2]) [.slot 17 2] [0,4,5,7,8,12,15,17,50,51,52] [3,4,5,7,8,6] hcx aEt.1 aEt.2 (aIx a0 a1 a2 a3 a4 a5 (flat lF ([]:List Zs)) 0 0) (tN ((((aP a0 (a1.1,a1.2) a2 a3).1.length:Nat):Int) - 0)+1) oK ?_;exact bA1 a0 a1 a2 a3 a4 a5 l0 l1_1 l1_2 hcx (tN ((((aP a0 (a1.1,a1.2) a2 a3).1.length:Nat):Int) - 0)+1) ([]:List Zs) 0 oR oM
noncomputable def aB8:=aU [1,1,1,1,1,1,0,1] [] (aV Tryz.f10) []
def aEw (a0:bV)(a1:ZL×cV)(a2:Zt)(a3 a4 a5:Int)(v5c:List SV)(v5n:Nat)(v6:Int):LS:=⟨gU 143 [(0,(.s 0 0 a0.length 10)),(5,(iv a5)),(8,(.p 3 0)),(12,(.p 4 0)),(15,(.s 5 0 (aS a0 (a1.1,a1.2) a2 a3).2.1.length 1)),(17,(.s 6 0 v5n 2)),(24,(iv v6))],[(.live false true (flat dI a0)),(.live false true (flat c3 a1.1)),(.live false true (flat cR a1.2)),(.live true false (k3 a2)),(.live true false [(iv 0),(iv 0)]),(.live true true (flat c3 (aS a0 (a1.1,a1.2) a2 a3).2.1)),(.live true true v5c)]⟩
def uY (a0:bV)(a1:ZL×cV)(a2:Zt)(a3 a4 a5:Int):(List Zs)×Int->((List Zs)×Int)⊕(Zs×Int) | (v5,v6) => (bif (decide ((v6:Int) < (((aS a0 (a1.1,a1.2) a2 a3).2.1.length:Nat):Int)))then(bif (((vO (a0.getD (tN ((aS a0 (a1.1,a1.2) a2 a3).2.1.getD (tN v6) dF)) dF).1 a2 a5).2:Int) != 0)then(.inr ((0,0),(vO (a0.getD (tN ((aS a0 (a1.1,a1.2) a2 a3).2.1.getD (tN v6) dF)) dF).1 a2 a5).2))else(bif (((F36 (vO (a0.getD (tN ((aS a0 (a1.1,a1.2) a2 a3).2.1.getD (tN v6) dF)) dF).1 a2 a5).1 (a0.getD (tN ((aS a0 (a1.1,a1.2) a2 a3).2.1.getD (tN v6) dF)) dF).2).2:Int) != 0)then(.inr ((0,0),(F36 (vO (a0.getD (tN ((aS a0 (a1.1,a1.2) a2 a3).2.1.getD (tN v6) dF)) dF).1 a2 a5).1 (a0.getD (tN ((aS a0 (a1.1,a1.2) a2 a3).2.1.getD (tN v6) dF)) dF).2).2))else(.inl ((v5++[(F36 (vO (a0.getD (tN ((aS a0 (a1.1,a1.2) a2 a3).2.1.getD (tN v6) dF)) dF).1 a2 a5).1 (a0.getD (tN ((aS a0 (a1.1,a1.2) a2 a3).2.1.getD (tN v6) dF)) dF).2).1]),(v6+1)))))else(.inr ((vM v5).1,(vM v5).2)))
noncomputable def zC:=aU [1,1,1,1,1,0,1] [] (aV Tryz.f10) []
def aEx (a0:bV)(a1:ZL×cV)(a2:Zt)(a3 a4 a5:Int)(v2c:List SV)(v2n:Nat)(v3:Int):LS:=⟨gU 143 [(0,(.s 0 0 a0.length 10)),(4,(iv a4)),(5,(iv a5)),(7,(.p 3 0)),(8,(.p 4 0)),(12,(.p 5 0)),(14,(.s 6 0 (aS a0 (a1.1,a1.2) a2 a3).1.length 1)),(15,(.s 7 0 (aS a0 (a1.1,a1.2) a2 a3).2.1.length 1)),(17,(.s 8 0 v2n 2)),(18,(iv v3))],[(.live false true (flat dI a0)),(.live false true (flat c3 a1.1)),(.live false true (flat cR a1.2)),(.live true false [(.s 1 0 a1.1.length 1),(.s 2 0 a1.2.length 8)]),(.live true false (k3 a2)),(.live true false [(iv 0),(iv 0)]),(.live true true (flat c3 (aS a0 (a1.1,a1.2) a2 a3).1)),(.live true true (flat c3 (aS a0 (a1.1,a1.2) a2 a3).2.1)),(.live true true v2c)]⟩
def zD (a0:bV)(a1:ZL×cV)(a2:Zt)(a3 a4 a5:Int):(List Zs)×Int->((List Zs)×Int)⊕(Zs×Int) | (v2,v3) => (bif (decide ((v3:Int) < (((aS a0 (a1.1,a1.2) a2 a3).1.length:Nat):Int)))then(bif (((F33 (kL (cU a0 (Aw.part (a1.1) ((a1.2.getD (tN ((aS a0 (a1.1,a1.2) a2 a3).1.getD (tN v3) dF)) dF).1) ((a1.2.getD (tN ((aS a0 (a1.1,a1.2) a2 a3).1.getD (tN v3) dF)) dF).2.1))) (a1.2.getD (tN ((aS a0 (a1.1,a1.2) a2 a3).1.getD (tN v3) dF)) dF).2.2.2.2.1).1 (a1.2.getD (tN ((aS a0 (a1.1,a1.2) a2 a3).1.getD (tN v3) dF)) dF).2.2.2.2.2 (bJ a2 (a1.2.getD (tN ((aS a0 (a1.1,a1.2) a2 a3).1.getD (tN v3) dF)) dF).2.2.2.2.1) a4).2:Int) != 0)then(.inr ((0,0),(F33 (kL (cU a0 (Aw.part (a1.1) ((a1.2.getD (tN ((aS a0 (a1.1,a1.2) a2 a3).1.getD (tN v3) dF)) dF).1) ((a1.2.getD (tN ((aS a0 (a1.1,a1.2) a2 a3).1.getD (tN v3) dF)) dF).2.1))) (a1.2.getD (tN ((aS a0 (a1.1,a1.2) a2 a3).1.getD (tN v3) dF)) dF).2.2.2.2.1).1 (a1.2.getD (tN ((aS a0 (a1.1,a1.2) a2 a3).1.getD (tN v3) dF)) dF).2.2.2.2.2 (bJ a2 (a1.2.getD (tN ((aS a0 (a1.1,a1.2) a2 a3).1.getD (tN v3) dF)) dF).2.2.2.2.1) a4).2))else(.inl ((v2++[(F33 (kL (cU a0 (Aw.part (a1.1) ((a1.2.getD (tN ((aS a0 (a1.1,a1.2) a2 a3).1.getD (tN v3) dF)) dF).1) ((a1.2.getD (tN ((aS a0 (a1.1,a1.2) a2 a3).1.getD (tN v3) dF)) dF).2.1))) (a1.2.getD (tN ((aS a0 (a1.1,a1.2) a2 a3).1.getD (tN v3) dF)) dF).2.2.2.2.1).1 (a1.2.getD (tN ((aS a0 (a1.1,a1.2) a2 a3).1.getD (tN v3) dF)) dF).2.2.2.2.2 (bJ a2 (a1.2.getD (tN ((aS a0 (a1.1,a1.2) a2 a3).1.getD (tN v3) dF)) dF).2.2.2.2.1) a4).1]),(v3+1))))else(.inr (aG (uY a0 a1 a2 a3 a4 a5) (tN ((((aS a0 (a1.1,a1.2) a2 a3).2.1.length:Nat):Int) - 0)+1) (v2,0))))
theorem aWw (a0:bV)(a1:ZL×cV)(a2:Zt)(a3 a4 a5:Int)(l0:a0.length<=2^63-1)(l1_1:a1.1.length<=2^63-1)(l1_2:a1.2.length<=2^63-1) {cx:Cx} (hcx:cx.base=3):∀(n:Nat) (v5:List Zs) (v6:Int),(0<=v6)/\((aS a0 (a1.1,a1.2) a2 a3).2.2=0)/\(v5.length<=96+v6)/\(v6<=(aS a0 (a1.1,a1.2) a2 a3).2.1.length)->tN ((((aS a0 (a1.1,a1.2) a2 a3).2.1.length:Nat):Int) - v6) < n->gG Tryz.f10 cx (.t [(.a (k2 (aG (uY a0 a1 a2 a3 a4 a5) n (v5,v6)).1)),(iv (aG (uY a0 a1 a2 a3 a4 a5) n (v5,v6)).2)]) [] [] (.l aB8.1 n::aB8.2) (aEw a0 a1 a2 a3 a4 a5 (flat lF v5) v5.length v6):=by
 intro n
 induction n with|zero=>intro v5 v6 hi hn;exact absurd hn (dX _)|succ n ih=>?_
 intro v5 v6 hi hn;refine aN ?_;have hp:=aEs (l:=a0) (t:=(a1.1,a1.2)) (x:=a2) (sep:=a3) hi.2.1;have hl96:=hp.lens;rw [aZ,uY];cases h0:(decide ((v6:Int) < (((aS a0 (a1.1,a1.2) a2 a3).2.1.length:Nat):Int)))
 case true=>
  have q0:=eS h0
  try have hnd:=hp.inp.at (i:=tN v6) (by have _:=h0;omega)
  let t1:SL:=[.d h0,.i v6 ((aS a0 (a1.1,a1.2) a2 a3).2.1.length),.L aF (aS a0 (a1.1,a1.2) a2 a3).2.1 v6 0 1,.i ((aS a0 (a1.1,a1.2) a2 a3).2.1.getD (tN v6) dF) (a0.length),.L cQ a0 ((aS a0 (a1.1,a1.2) a2 a3).2.1.getD (tN v6) dF) 0 10,.c [] (C35 (a0.getD (tN ((aS a0 (a1.1,a1.2) a2 a3).2.1.getD (tN v6) dF)) dF).1 a2 a5)];cases h1:(((vO (a0.getD (tN ((aS a0 (a1.1,a1.2) a2 a3).2.1.getD (tN v6) dF)) dF).1 a2 a5).2:Int) != 0)
  case true=>
   try have hnd:=hp.inp.at (i:=tN v6) (by have _:=h0;omega)
   exact rT (t1++[.d h1]) hcx
  try have hnd:=hp.inp.at (i:=tN v6) (by have _:=h0;omega)
  let t2:SL:=t1++[.d h1,.c [] (C36 (vO (a0.getD (tN ((aS a0 (a1.1,a1.2) a2 a3).2.1.getD (tN v6) dF)) dF).1 a2 a5).1 (a0.getD (tN ((aS a0 (a1.1,a1.2) a2 a3).2.1.getD (tN v6) dF)) dF).2)];cases h2:(((F36 (vO (a0.getD (tN ((aS a0 (a1.1,a1.2) a2 a3).2.1.getD (tN v6) dF)) dF).1 a2 a5).1 (a0.getD (tN ((aS a0 (a1.1,a1.2) a2 a3).2.1.getD (tN v6) dF)) dF).2).2:Int) != 0)
  case true=>
   try have hnd:=hp.inp.at (i:=tN v6) (by have _:=h0;omega)
   exact rT (t2++[.d h2]) hcx
  try have hnd:=hp.inp.at (i:=tN v6) (by have _:=h0;omega)
  refine bA n (t2++[.d h2,.p (show((flat lF v5).length=v5.length*2/\v5.length+1<=2 ^ 40/\(v5.length+1)*16<=2 ^ 47) from iS kA oM oM)]) [0,5,8,12,15,17,24] [3,4,5,10] hcx aB8 (aEw a0 a1 a2 a3 a4 a5 (flat lF v5++(k2 (F36 (vO (a0.getD (tN ((aS a0 (a1.1,a1.2) a2 a3).2.1.getD (tN v6) dF)) dF).1 a2 a5).1 (a0.getD (tN ((aS a0 (a1.1,a1.2) a2 a3).2.1.getD (tN v6) dF)) dF).2).1)) (v5.length+1) (W (v6+1))) ?_;have z0:(W (v6+1))=(v6+1):=aH oM oM;have z1:(flat lF v5++(k2 (F36 (vO (a0.getD (tN ((aS a0 (a1.1,a1.2) a2 a3).2.1.getD (tN v6) dF)) dF).1 a2 a5).1 (a0.getD (tN ((aS a0 (a1.1,a1.2) a2 a3).2.1.getD (tN v6) dF)) dF).2).1))=_:=(bQ (c:=lF) (l:=v5) (m:=[(F36 (vO (a0.getD (tN ((aS a0 (a1.1,a1.2) a2 a3).2.1.getD (tN v6) dF)) dF).1 a2 a5).1 (a0.getD (tN ((aS a0 (a1.1,a1.2) a2 a3).2.1.getD (tN v6) dF)) dF).2).1])).symm;have z2:(v5.length+1)=_:=jN v5 [(F36 (vO (a0.getD (tN ((aS a0 (a1.1,a1.2) a2 a3).2.1.getD (tN v6) dF)) dF).1 a2 a5).1 (a0.getD (tN ((aS a0 (a1.1,a1.2) a2 a3).2.1.getD (tN v6) dF)) dF).2).1] rfl;rw [z0,z1,z2];exact ih _ _ oR oM
 have q0:=iF h0;exact rT [.d h0,.c [6] (aW7 v5 oM)] hcx
theorem aWx (a0:bV)(a1:ZL×cV)(a2:Zt)(a3 a4 a5:Int)(l0:a0.length<=2^63-1)(l1_1:a1.1.length<=2^63-1)(l1_2:a1.2.length<=2^63-1) {cx:Cx} (hcx:cx.base=3):∀(n:Nat) (v2:List Zs) (v3:Int),(0<=v3)/\((aS a0 (a1.1,a1.2) a2 a3).2.2=0)/\(v2.length<=v3)/\(v3<=(aS a0 (a1.1,a1.2) a2 a3).1.length)->tN ((((aS a0 (a1.1,a1.2) a2 a3).1.length:Nat):Int) - v3) < n->gG Tryz.f10 cx (.t [(.a (k2 (aG (zD a0 a1 a2 a3 a4 a5) n (v2,v3)).1)),(iv (aG (zD a0 a1 a2 a3 a4 a5) n (v2,v3)).2)]) [] [] (.l zC.1 n::zC.2) (aEx a0 a1 a2 a3 a4 a5 (flat lF v2) v2.length v3):=by
 intro n
 induction n with|zero=>intro v2 v3 hi hn;exact absurd hn (dX _)|succ n ih=>?_
 intro v2 v3 hi hn;refine aN ?_;have hp:=aEs (l:=a0) (t:=(a1.1,a1.2)) (x:=a2) (sep:=a3) hi.2.1;have hl96:=hp.lens
 try (have _:=h0;dsimp only at hnd)
 have hml:=uO a0 (Aw.part (a1.1) (a1.2.getD (tN ((aS a0 (a1.1,a1.2) a2 a3).1.getD (tN v3) dF)) dF).1 (a1.2.getD (tN ((aS a0 (a1.1,a1.2) a2 a3).1.getD (tN v3) dF)) dF).2.1);have hml2:(cU a0 (Aw.part (a1.1) (a1.2.getD (tN ((aS a0 (a1.1,a1.2) a2 a3).1.getD (tN v3) dF)) dF).1 (a1.2.getD (tN ((aS a0 (a1.1,a1.2) a2 a3).1.getD (tN v3) dF)) dF).2.1)).length=_:=hml;rw [aZ,zD];cases h0:(decide ((v3:Int) < (((aS a0 (a1.1,a1.2) a2 a3).1.length:Nat):Int)))
 case true=>
  have q0:=eS h0
  try have hnd:=hp.node (i:=tN v3) (by have _:=h0;omega)
  try (have _:=h0;dsimp only at hnd)
  try have hpl:=bD (l:=a1.1) (a:=(a1.2.getD (tN ((aS a0 (a1.1,a1.2) a2 a3).1.getD (tN v3) dF)) dF).1) (b:=(a1.2.getD (tN ((aS a0 (a1.1,a1.2) a2 a3).1.getD (tN v3) dF)) dF).2.1) (by have _:=h0;omega)
  let t1:SL:=[.d h0,.i v3 ((aS a0 (a1.1,a1.2) a2 a3).1.length),.L aF (aS a0 (a1.1,a1.2) a2 a3).1 v3 0 1,.i ((aS a0 (a1.1,a1.2) a2 a3).1.getD (tN v3) dF) (a1.2.length),.L cC a1.2 ((aS a0 (a1.1,a1.2) a2 a3).1.getD (tN v3) dF) 0 8,.S aF (a1.1) ((a1.2.getD (tN ((aS a0 (a1.1,a1.2) a2 a3).1.getD (tN v3) dF)) dF).1) ((a1.2.getD (tN ((aS a0 (a1.1,a1.2) a2 a3).1.getD (tN v3) dF)) dF).2.1) (a1.1.length),.c [0,10] (by have q:=(aBv a0 (Aw.part (a1.1) ((a1.2.getD (tN ((aS a0 (a1.1,a1.2) a2 a3).1.getD (tN v3) dF)) dF).1) ((a1.2.getD (tN ((aS a0 (a1.1,a1.2) a2 a3).1.getD (tN v3) dF)) dF).2.1)) oM oM (hp.ord.part _ _) (hp.part _ _));(try dsimp only at q);(try rw [show List.length (α:=Int) (Aw.part (a1.1) ((a1.2.getD (tN ((aS a0 (a1.1,a1.2) a2 a3).1.getD (tN v3) dF)) dF).1) ((a1.2.getD (tN ((aS a0 (a1.1,a1.2) a2 a3).1.getD (tN v3) dF)) dF).2.1))=(tN (a1.2.getD (tN ((aS a0 (a1.1,a1.2) a2 a3).1.getD (tN v3) dF)) dF).2.1 - tN (a1.2.getD (tN ((aS a0 (a1.1,a1.2) a2 a3).1.getD (tN v3) dF)) dF).1) from by first | simp;done | omega] at q);exact q),.c [11] (bDe (cU a0 (Aw.part (a1.1) ((a1.2.getD (tN ((aS a0 (a1.1,a1.2) a2 a3).1.getD (tN v3) dF)) dF).1) ((a1.2.getD (tN ((aS a0 (a1.1,a1.2) a2 a3).1.getD (tN v3) dF)) dF).2.1))) (a1.2.getD (tN ((aS a0 (a1.1,a1.2) a2 a3).1.getD (tN v3) dF)) dF).2.2.2.2.1 oM),.c [] (C34 a2 (a1.2.getD (tN ((aS a0 (a1.1,a1.2) a2 a3).1.getD (tN v3) dF)) dF).2.2.2.2.1),.c [] (C33 (kL (cU a0 (Aw.part (a1.1) ((a1.2.getD (tN ((aS a0 (a1.1,a1.2) a2 a3).1.getD (tN v3) dF)) dF).1) ((a1.2.getD (tN ((aS a0 (a1.1,a1.2) a2 a3).1.getD (tN v3) dF)) dF).2.1))) (a1.2.getD (tN ((aS a0 (a1.1,a1.2) a2 a3).1.getD (tN v3) dF)) dF).2.2.2.2.1).1 (a1.2.getD (tN ((aS a0 (a1.1,a1.2) a2 a3).1.getD (tN v3) dF)) dF).2.2.2.2.2 (bJ a2 (a1.2.getD (tN ((aS a0 (a1.1,a1.2) a2 a3).1.getD (tN v3) dF)) dF).2.2.2.2.1) a4)];cases h1:(((F33 (kL (cU a0 (Aw.part (a1.1) ((a1.2.getD (tN ((aS a0 (a1.1,a1.2) a2 a3).1.getD (tN v3) dF)) dF).1) ((a1.2.getD (tN ((aS a0 (a1.1,a1.2) a2 a3).1.getD (tN v3) dF)) dF).2.1))) (a1.2.getD (tN ((aS a0 (a1.1,a1.2) a2 a3).1.getD (tN v3) dF)) dF).2.2.2.2.1).1 (a1.2.getD (tN ((aS a0 (a1.1,a1.2) a2 a3).1.getD (tN v3) dF)) dF).2.2.2.2.2 (bJ a2 (a1.2.getD (tN ((aS a0 (a1.1,a1.2) a2 a3).1.getD (tN v3) dF)) dF).2.2.2.2.1) a4).2:Int) != 0)
  case true=>
   try have hnd:=hp.node (i:=tN v3) (by have _:=h0;omega)
   try (have _:=h0;dsimp only at hnd)
   try have hpl:=bD (l:=a1.1) (a:=(a1.2.getD (tN ((aS a0 (a1.1,a1.2) a2 a3).1.getD (tN v3) dF)) dF).1) (b:=(a1.2.getD (tN ((aS a0 (a1.1,a1.2) a2 a3).1.getD (tN v3) dF)) dF).2.1) (by have _:=h0;omega)
   exact rT (t1++[.d h1]) hcx
  try have hnd:=hp.node (i:=tN v3) (by have _:=h0;omega)
  try (have _:=h0;dsimp only at hnd)
  try have hpl:=bD (l:=a1.1) (a:=(a1.2.getD (tN ((aS a0 (a1.1,a1.2) a2 a3).1.getD (tN v3) dF)) dF).1) (b:=(a1.2.getD (tN ((aS a0 (a1.1,a1.2) a2 a3).1.getD (tN v3) dF)) dF).2.1) (by have _:=h0;omega)
  refine bA n (t1++[.d h1,.p (show((flat lF v2).length=v2.length*2/\v2.length+1<=2 ^ 40/\(v2.length+1)*16<=2 ^ 47) from iS kA oM oM)]) [0,4,5,7,8,12,14,15,17,18] [3,4,5,6,7,15] hcx zC (aEx a0 a1 a2 a3 a4 a5 (flat lF v2++[(iv (F33 (kL (cU a0 (Aw.part (a1.1) ((a1.2.getD (tN ((aS a0 (a1.1,a1.2) a2 a3).1.getD (tN v3) dF)) dF).1) ((a1.2.getD (tN ((aS a0 (a1.1,a1.2) a2 a3).1.getD (tN v3) dF)) dF).2.1))) (a1.2.getD (tN ((aS a0 (a1.1,a1.2) a2 a3).1.getD (tN v3) dF)) dF).2.2.2.2.1).1 (a1.2.getD (tN ((aS a0 (a1.1,a1.2) a2 a3).1.getD (tN v3) dF)) dF).2.2.2.2.2 (bJ a2 (a1.2.getD (tN ((aS a0 (a1.1,a1.2) a2 a3).1.getD (tN v3) dF)) dF).2.2.2.2.1) a4).1.1),(iv (F33 (kL (cU a0 (Aw.part (a1.1) ((a1.2.getD (tN ((aS a0 (a1.1,a1.2) a2 a3).1.getD (tN v3) dF)) dF).1) ((a1.2.getD (tN ((aS a0 (a1.1,a1.2) a2 a3).1.getD (tN v3) dF)) dF).2.1))) (a1.2.getD (tN ((aS a0 (a1.1,a1.2) a2 a3).1.getD (tN v3) dF)) dF).2.2.2.2.1).1 (a1.2.getD (tN ((aS a0 (a1.1,a1.2) a2 a3).1.getD (tN v3) dF)) dF).2.2.2.2.2 (bJ a2 (a1.2.getD (tN ((aS a0 (a1.1,a1.2) a2 a3).1.getD (tN v3) dF)) dF).2.2.2.2.1) a4).1.2)]) (v2.length+1) (W (v3+1))) ?_;have z0:(W (v3+1))=(v3+1):=aH oM oM;have z1:(flat lF v2++[(iv (F33 (kL (cU a0 (Aw.part (a1.1) ((a1.2.getD (tN ((aS a0 (a1.1,a1.2) a2 a3).1.getD (tN v3) dF)) dF).1) ((a1.2.getD (tN ((aS a0 (a1.1,a1.2) a2 a3).1.getD (tN v3) dF)) dF).2.1))) (a1.2.getD (tN ((aS a0 (a1.1,a1.2) a2 a3).1.getD (tN v3) dF)) dF).2.2.2.2.1).1 (a1.2.getD (tN ((aS a0 (a1.1,a1.2) a2 a3).1.getD (tN v3) dF)) dF).2.2.2.2.2 (bJ a2 (a1.2.getD (tN ((aS a0 (a1.1,a1.2) a2 a3).1.getD (tN v3) dF)) dF).2.2.2.2.1) a4).1.1),(iv (F33 (kL (cU a0 (Aw.part (a1.1) ((a1.2.getD (tN ((aS a0 (a1.1,a1.2) a2 a3).1.getD (tN v3) dF)) dF).1) ((a1.2.getD (tN ((aS a0 (a1.1,a1.2) a2 a3).1.getD (tN v3) dF)) dF).2.1))) (a1.2.getD (tN ((aS a0 (a1.1,a1.2) a2 a3).1.getD (tN v3) dF)) dF).2.2.2.2.1).1 (a1.2.getD (tN ((aS a0 (a1.1,a1.2) a2 a3).1.getD (tN v3) dF)) dF).2.2.2.2.2 (bJ a2 (a1.2.getD (tN ((aS a0 (a1.1,a1.2) a2 a3).1.getD (tN v3) dF)) dF).2.2.2.2.1) a4).1.2)])=_:=(bQ (c:=lF) (l:=v2) (m:=[(F33 (kL (cU a0 (Aw.part (a1.1) ((a1.2.getD (tN ((aS a0 (a1.1,a1.2) a2 a3).1.getD (tN v3) dF)) dF).1) ((a1.2.getD (tN ((aS a0 (a1.1,a1.2) a2 a3).1.getD (tN v3) dF)) dF).2.1))) (a1.2.getD (tN ((aS a0 (a1.1,a1.2) a2 a3).1.getD (tN v3) dF)) dF).2.2.2.2.1).1 (a1.2.getD (tN ((aS a0 (a1.1,a1.2) a2 a3).1.getD (tN v3) dF)) dF).2.2.2.2.2 (bJ a2 (a1.2.getD (tN ((aS a0 (a1.1,a1.2) a2 a3).1.getD (tN v3) dF)) dF).2.2.2.2.1) a4).1])).symm;have z2:(v2.length+1)=_:=jN v2 [(F33 (kL (cU a0 (Aw.part (a1.1) ((a1.2.getD (tN ((aS a0 (a1.1,a1.2) a2 a3).1.getD (tN v3) dF)) dF).1) ((a1.2.getD (tN ((aS a0 (a1.1,a1.2) a2 a3).1.getD (tN v3) dF)) dF).2.1))) (a1.2.getD (tN ((aS a0 (a1.1,a1.2) a2 a3).1.getD (tN v3) dF)) dF).2.2.2.2.1).1 (a1.2.getD (tN ((aS a0 (a1.1,a1.2) a2 a3).1.getD (tN v3) dF)) dF).2.2.2.2.2 (bJ a2 (a1.2.getD (tN ((aS a0 (a1.1,a1.2) a2 a3).1.getD (tN v3) dF)) dF).2.2.2.2.1) a4).1] rfl;rw [z0,z1,z2];exact ih _ _ oR oM
 have q0:=iF h0
 try (have _:=h0;dsimp only at hnd)
 refine eN [.d h0] [0,5,8,12,15,17,24] [4,5,7,8] hcx aB8 (aEw a0 a1 a2 a3 a4 a5 (flat lF v2) (v2.length) 0) (tN ((((aS a0 (a1.1,a1.2) a2 a3).2.1.length:Nat):Int) - 0)+1) ?_;exact aWw a0 a1 a2 a3 a4 a5 l0 l1_1 l1_2 hcx (tN ((((aS a0 (a1.1,a1.2) a2 a3).2.1.length:Nat):Int) - 0)+1) v2 0 oR oM
def uA (a0:bV)(a1:ZL×cV)(a2:Zt)(a3 a4 a5:Int):Zs×Int := (bif (((aS a0 (a1.1,a1.2) a2 a3).2.2:Int) != 0)then((0,0),(aS a0 (a1.1,a1.2) a2 a3).2.2)else(bif (!(F30 a4 0 2))then((0,0),1)else(bif (!(F30 a5 0 3))then((0,0),1)else(aG (zD a0 a1 a2 a3 a4 a5) (tN ((((aS a0 (a1.1,a1.2) a2 a3).1.length:Nat):Int) - 0)+1) (([]:List Zs),0)))))
theorem bDu (a0:bV)(a1:ZL×cV)(a2:Zt)(a3 a4 a5:Int)(l0:a0.length<=2^63-1)(l1_1:a1.1.length<=2^63-1)(l1_2:a1.2.length<=2^63-1):Con Tryz.prog 10 [(.s 0 0 a0.length 10),(.a [(.s 1 0 a1.1.length 1),(.s 2 0 a1.2.length 8)]),(.a (k3 a2)),(iv a3),(iv a4),(iv a5)] [(.live false true (flat dI a0)),(.live false true (flat c3 a1.1)),(.live false true (flat cR a1.2))] (.t [(.a (k2 (uA a0 a1 a2 a3 a4 a5).1)),(iv (uA a0 a1 a2 a3 a4 a5).2)]) []:=by
 refine cS Tryz.func10 fun cx hcx=>?_
 let t0:SL:=[.c [0,1,2] (bC1 a0 (a1.1,a1.2) a2 a3 oM oM oM)];rw [uA];cases h0:(((aS a0 (a1.1,a1.2) a2 a3).2.2:Int) != 0)
 case true=>exact rT (t0++[.d h0]) hcx
 have q0:=bne_eq_false_iff_eq.1 h0;let t1:SL:=t0++[.d h0,.c [] (C30 a4 0 2)];cases h1:(!(F30 a4 0 2))
 case true=>exact rT (t1++[.d h1]) hcx
 let t2:SL:=t1++[.d h1,.c [] (C30 a5 0 3)];cases h2:(!(F30 a5 0 3))
 case true=>exact rT (t2++[.d h2]) hcx
 refine en (t2++[.d h2]) [.slot 17 2] [0,4,5,7,8,12,14,15,17,18] [3,4,5,6,7,8] hcx zC.1 zC.2 (aEx a0 a1 a2 a3 a4 a5 (flat lF ([]:List Zs)) 0 0) (tN ((((aS a0 (a1.1,a1.2) a2 a3).1.length:Nat):Int) - 0)+1) oK ?_;exact aWx a0 a1 a2 a3 a4 a5 l0 l1_1 l1_2 hcx (tN ((((aS a0 (a1.1,a1.2) a2 a3).1.length:Nat):Int) - 0)+1) ([]:List Zs) 0 oR oM
theorem aQn {α:Type} [Inhabited α] (l:List α) {i:Int} (h:0<=i/\i < (l.length:Int)):Aw.part l i (i+1)=[l.getD (tN i) dF]:=by
 obtain⟨n,rfl⟩:∃n:Nat,i=(n:Int):=⟨i.toNat,by omega⟩;have hn:n < l.length:=by omega
 unfold Aw.part;rw [iB,show tN ((n:Int)+1) - n=1 by omega,List.drop_eq_getElem_cons hn,gS,List.getElem?_eq_getElem hn];rfl
def ptR (c:PN×Int)(x:Zt)(d:Int):Zs×Int := bif (((vO c.1 x d).2:Int) != 0)then((0,0),(vO c.1 x d).2)else bif (((F36 (vO c.1 x d).1 c.2).2:Int) != 0)then((0,0),(F36 (vO c.1 x d).1 c.2).2)else((F36 (vO c.1 x d).1 c.2).1,0)
theorem aUu {c:PN×Int} (hc:-100<=c.2/\c.2<=100) {x:Zt} {d:Int}:((vO c.1 x d).2=0->F36 (vO c.1 x d).1 c.2=xF (wS c.1 x d).1 c.2)/\((ptR c x d).2=0->vs (ptR c x d).1):=by
 have e:vO c.1 x d=wS c.1 x d:=by rw [aSg,aHo]
 have hsc:(vO c.1 x d).2=0->F36 (vO c.1 x d).1 c.2=xF (wS c.1 x d).1 c.2:=by
  intro h;have hv:=(aSn (of:=wT) (fun s hs=>aHn hs) (p:=c.1) (x:=x) (d:=d) (by rw [←aHo];exact h)).2;rw [←aHo] at hv;rw [aN9 hv oM,←e,aN7 hv oM]
 refine⟨hsc,fun h=>?_⟩;unfold ptR at h ⊢;cases h1:(((vO c.1 x d).2:Int) != 0)
 case true=>rw [h1,cond_true] at h;exact absurd h (bne_iff_ne.1 h1)
 have hs:=hsc (bne_eq_false_iff_eq.1 h1);rw [h1,cond_false] at h;rw [cond_false];cases h2:(((F36 (vO c.1 x d).1 c.2).2:Int) != 0)
 case true=>rw [h2,cond_true] at h;exact absurd h (bne_iff_ne.1 h2)
 have h3:=bne_eq_false_iff_eq.1 h2;rw [cond_false];rw [hs] at h3 ⊢;exact aSq h3
theorem aWy {c:PN×Int} (hv:vp c.1=0)(hc:-100<=c.2/\c.2<=100) {x:Zt} {d:Int} (hx:F40 x=true)(hd:F41 d 0 3=true):qT [c] x d=ptR c x d:=by
 have hV:VCH [c]:=⟨by simp,fun i hi=>by
  have:i=0:=by simp only [List.length_cons,List.length_nil] at hi;omega
  subst this;exact⟨hv,hc⟩⟩
 obtain⟨hsc,hvs⟩:=aUu hc (x:=x) (d:=d);have e:vO c.1 x d=wS c.1 x d:=by rw [aSg,aHo]
 unfold qT;rw [aLd hV,hx,hd];show aG (rO [c] x d) 2 ([],0)=_;have e0:rO [c] x d ([],0)=(bif (((wS c.1 x d).2:Int) != 0) then .inr ((0,0),(wS c.1 x d).2) else bif (((xF (wS c.1 x d).1 c.2).2:Int) != 0) then .inr ((0,0),(xF (wS c.1 x d).1 c.2).2) else .inl ([(xF (wS c.1 x d).1 c.2).1],1)):=rfl;unfold ptR at hvs ⊢;rw [e] at hsc hvs ⊢;cases h1:(((wS c.1 x d).2:Int) != 0)
 case true=>rw [h1,cond_true] at e0;rw [aL e0];rfl
 have hs:=hsc (bne_eq_false_iff_eq.1 h1);rw [h1,cond_false] at e0 hvs;rw [hs] at hvs ⊢;rw [cond_false];cases h2:(((xF (wS c.1 x d).1 c.2).2:Int) != 0)
 case true=>rw [h2,cond_true] at e0;rw [aL e0];rfl
 rw [h2,cond_false] at e0 hvs;have hv1:=hvs rfl;simp only at hv1;have e1:rO [c] x d ([(xF (wS c.1 x d).1 c.2).1],1)=.inr (aDt [(xF (wS c.1 x d).1 c.2).1]):=by
  rw [←aSp (l:=[(xF (wS c.1 x d).1 c.2).1]) (fun a ha=>by rw [List.mem_singleton.1 ha];exact hv1) (by simp)];rfl
 rw [aK e0,aL e1,cond_false];unfold aDt;rw [aHq];simp only [List.map_cons,List.map_nil,List.sum_cons,List.sum_nil,Int.add_zero,Int.zero_add];exact aJ9 hv1.1 hv1.2.1 hv1.2.2
theorem bA2 {m:jY} {a:Int} {u:Zt} {o:Int} (h:(F33 m a u o).2=0):vs (F33 m a u o).1:=by
 unfold F33 at h ⊢;cases h1:(((F66 m u o).2:Int) != 0)
 case true=>rw [h1,cond_true] at h;exact absurd h (bne_iff_ne.1 h1)
 rw [h1,cond_false] at h;rw [cond_false];cases h2:(((F67 m.2.1 a u o).2:Int) != 0)
 case true=>rw [h2,cond_true] at h;exact absurd h (bne_iff_ne.1 h2)
 rw [h2,cond_false] at h;rw [cond_false];cases h3:xE ((W ((F66 m u o).1.1 - (F67 m.2.1 a u o).1)),(W ((F66 m u o).1.2+(F67 m.2.1 a u o).1)))
 case false=>rw [h3] at h;exact absurd h (by simp)
 rw [aEq] at h3;exact(sF _).1 h3
theorem aWz (l:jM)(t:TR)(x:Zt)(s o d:Int):aEv l t x s o d=uA l t x s o d:=by
 unfold aEv uA;rw [aEr];refine sR fun hc=>?_
 have hc:=bne_eq_false_iff_eq.1 hc;rw [show F23=F30 from rfl];refine sR fun ho=>sR fun hd=>?_
 have hd1:F41 d 0 3=true:=by
  have hd2:F30 d 0 3=true:=by simpa using hd
  exact hd2
 have hp:=aEs (l:=l) (t:=(t.1,t.2)) (x:=x) (sep:=s) hc;have hq:=aX8 (l:=l) (t:=(t.1,t.2)) (x:=x) (sep:=s) (by rw [aEr];exact hc);have hx:F40 x=true:=hq.2.1;have hck:=hq.1;obtain⟨hv,_⟩:=xC hck;have hl96:=hp.lens;have loop1:∀(n:Nat) (v:List Zs) (i:Int),(∀a∈v,vs a)->0<=i->v.length<=96+i->i<=(aS l (t.1,t.2) x s).2.1.length->aG (aAo l t x s o d) n (v,i)=aG (uY l t x s o d) n (v,i):=by
  intro n v i hv1 hi0 hvl hil;refine uX (fun(a b:List Zs×Int)=>a=b/\(∀z∈a.1,vs z)/\0<=a.2/\a.1.length<=96+a.2/\a.2<=(aS l (t.1,t.2) x s).2.1.length) (fun a b hab=>?_) n _ _ ⟨rfl,hv1,hi0,hvl,hil⟩;obtain⟨rfl,k1,k2,k3,k4⟩:=hab;obtain⟨v,i⟩:=a;simp only at k1 k2 k3 k4;simp only [aAo,uY,aEr];by_cases h:i < (((aS l (t.1,t.2) x s).2.1.length:Nat):Int)
  ·rw [bX h,cond_true,cond_true];have hi:=hp.inp.at (i:=tN i) oM;generalize (aS l (t.1,t.2) x s).2.1.getD (tN i) dF=j at *;have hcv:=hv.2 (tN j) oM;rw [aH (n:=j+1) oM oM,aQn l hi,aWy hcv.1 hcv.2 hx hd1];obtain⟨_,hvs⟩:=aUu hcv.2 (x:=x) (d:=d);unfold ptR at hvs ⊢;cases h1:(((vO (l.getD (tN j) dF).1 x d).2:Int) != 0)
   case true=>right;rw [cond_true,cond_true,h1];exact⟨_,rfl,rfl⟩
   rw [h1,cond_false] at hvs;rw [cond_false,cond_false];cases h2:(((F36 (vO (l.getD (tN j) dF).1 x d).1 (l.getD (tN j) dF).2).2:Int) != 0)
   case true=>right;rw [cond_true,cond_true,h2];exact⟨_,rfl,rfl⟩
   rw [h2,cond_false] at hvs;left;refine⟨_,_,rfl,rfl,rfl,fun z hz=>?_,by simp only;omega,by simp only [List.length_append,List.length_cons,List.length_nil];omega,by simp only;omega⟩;rcases List.mem_append.1 hz with hz | hz
   ·exact k1 z hz
   ·rw [List.mem_singleton.1 hz];exact hvs rfl
  ·right;rw [cA h,cond_false,cond_false];refine⟨_,rfl,?_⟩;show Sum.inr (vM v)=Sum.inr (qP v);rw [aSp k1 oM,aXj k1 oM]
 refine uX (fun(a b:List Zs×Int)=>a=b/\(∀z∈a.1,vs z)/\0<=a.2/\a.1.length<=a.2/\a.2<=(aS l (t.1,t.2) x s).1.length) (fun a b hab=>?_) _ _ _ ⟨rfl,(fun z hz=>nomatch hz),Int.le_refl _,Int.le_refl _,(show(0:Int)<=((aS l (t.1,t.2) x s).1.length:Nat) by omega)⟩;obtain⟨rfl,k1,k2,k3,k4⟩:=hab;obtain⟨v,i⟩:=a;simp only at k1 k2 k3 k4;simp only [aEu,zD,aEr];by_cases h:i < (((aS l (t.1,t.2) x s).1.length:Nat):Int)
 ·rw [bX h,cond_true,cond_true];have hi:=(hp.node (i:=tN i) oM).1;generalize (aS l (t.1,t.2) x s).1.getD (tN i) dF=j at *;have hz:=aWv (l:=l) (t:=(t.1,t.2)) hck (i:=tN j) oM;simp only at hz;rw [show cW=cU from rfl,show F27=bJ from rfl,bDs,hz];simp only [aWq];rw [show(((0:Int):Int) != 0)=false from rfl,cond_false];generalize (kL (cU l (Aw.part t.1 (t.2.getD (tN j) dF).1 (t.2.getD (tN j) dF).2.1)) (t.2.getD (tN j) dF).2.2.2.2.1).1=m;have hfv:=bA2 (m:=m) (a:=(t.2.getD (tN j) dF).2.2.2.2.2) (u:=bJ x (t.2.getD (tN j) dF).2.2.2.2.1) (o:=o);generalize F33 m (t.2.getD (tN j) dF).2.2.2.2.2 (bJ x (t.2.getD (tN j) dF).2.2.2.2.1) o=R at *;cases h1:((R.2:Int) != 0)
  case true=>right;exact⟨_,rfl,rfl⟩
  left;refine⟨_,_,rfl,rfl,rfl,fun z hz=>?_,by simp only;omega,by simp only [List.length_append,List.length_cons,List.length_nil];omega,by simp only;omega⟩;rcases List.mem_append.1 hz with hz | hz
  ·exact k1 z hz
  ·rw [List.mem_singleton.1 hz];exact hfv (bne_eq_false_iff_eq.1 h1)
 ·right;rw [cA h,cond_false,cond_false];refine⟨_,rfl,?_⟩;rw [loop1 _ v 0 k1 (Int.le_refl _) oM oM]
def aW0 (a0:bV):Bool := (bif (decide (((a0.length:Int):Int) > 40))then(bif (decide (((a0.length:Int):Int)<=96))then true else(decide (((a0.length:Int):Int) > 200)))else(decide (((a0.length:Int):Int) > 200)))
theorem bF0 (a0:bV)(l0:a0.length<=2^63-1):Con Tryz.prog 6 [(.s 0 0 a0.length 10)] [(.live false true (flat dI a0))] (.v (.bool (aW0 a0))) []:=by
 refine cS Tryz.func6 fun cx hcx=>?_
 rw [aW0];cases h0:(decide (((a0.length:Int):Int) > 40))
 case true=>
  let t1:SL:=[.d h0];cases h1:(decide (((a0.length:Int):Int)<=96))
  case true=>exact rT (t1++[.d h1]) hcx
  exact rT (t1++[.d h1]) hcx
 exact rT [.d h0] hcx
def aW1 (a0:bV)(a1:Int×Zt×Zt):Bool := (bif (aW0 a0)then F7 else(bif ((((aEv a0 ((iU a0 a1.1).1.1,(iU a0 a1.1).1.2) a1.2.1 a1.2.2.1 a1.2.2.2.1 a1.2.2.2.2).1.1:Int) == (uA a0 ((iU a0 a1.1).1.1,(iU a0 a1.1).1.2) a1.2.1 a1.2.2.1 a1.2.2.2.1 a1.2.2.2.2).1.1)&&((((aEv a0 ((iU a0 a1.1).1.1,(iU a0 a1.1).1.2) a1.2.1 a1.2.2.1 a1.2.2.2.1 a1.2.2.2.2).1.2:Int) == (uA a0 ((iU a0 a1.1).1.1,(iU a0 a1.1).1.2) a1.2.1 a1.2.2.1 a1.2.2.2.1 a1.2.2.2.2).1.2)&&true))then(bif (((aEv a0 ((iU a0 a1.1).1.1,(iU a0 a1.1).1.2) a1.2.1 a1.2.2.1 a1.2.2.2.1 a1.2.2.2.2).2:Int) == (uA a0 ((iU a0 a1.1).1.1,(iU a0 a1.1).1.2) a1.2.1 a1.2.2.1 a1.2.2.2.1 a1.2.2.2.2).2)then F7 else false)else false))
theorem bF1 (a0:bV)(a1:Int×Zt×Zt)(l0:a0.length<=2^63-1):Con Tryz.prog 3 [(.s 0 0 a0.length 10),(.a [(iv a1.1),(iv a1.2.1.1),(iv a1.2.1.2.1),(iv a1.2.1.2.2),(iv a1.2.2.1),(iv a1.2.2.2.1),(iv a1.2.2.2.2)])] [(.live false true (flat dI a0))] (.v (.bool (aW1 a0 a1))) []:=by
 refine cS Tryz.func3 fun cx hcx=>?_
 have hb2:=aM0 a0 a1.1;let t0:SL:=[.c [0] (bF0 a0 oM)];rw [aW1];cases h0:(aW0 a0)
 case true=>exact rT (t0++[.d h0,.c [] (C7)]) hcx
 let t1:SL:=t0++[.d h0,.c [0] (bE7 a0 a1.1 oM),.c [0,2,3] (bFz a0 ((iU a0 a1.1).1.1,(iU a0 a1.1).1.2) a1.2.1 a1.2.2.1 a1.2.2.2.1 a1.2.2.2.2 oM (by(try simp only [Lt]);omega) (by(try simp only [Lt]);omega)),.c [0,2,3] (bDu a0 ((iU a0 a1.1).1.1,(iU a0 a1.1).1.2) a1.2.1 a1.2.2.1 a1.2.2.2.1 a1.2.2.2.2 oM (by(try simp only [Lt]);omega) (by(try simp only [Lt]);omega))];cases h1:((((aEv a0 ((iU a0 a1.1).1.1,(iU a0 a1.1).1.2) a1.2.1 a1.2.2.1 a1.2.2.2.1 a1.2.2.2.2).1.1:Int) == (uA a0 ((iU a0 a1.1).1.1,(iU a0 a1.1).1.2) a1.2.1 a1.2.2.1 a1.2.2.2.1 a1.2.2.2.2).1.1)&&((((aEv a0 ((iU a0 a1.1).1.1,(iU a0 a1.1).1.2) a1.2.1 a1.2.2.1 a1.2.2.2.1 a1.2.2.2.2).1.2:Int) == (uA a0 ((iU a0 a1.1).1.1,(iU a0 a1.1).1.2) a1.2.1 a1.2.2.1 a1.2.2.2.1 a1.2.2.2.2).1.2)&&true))
 case true=>
  let t2:SL:=t1++[.d h1];cases h2:(((aEv a0 ((iU a0 a1.1).1.1,(iU a0 a1.1).1.2) a1.2.1 a1.2.2.1 a1.2.2.2.1 a1.2.2.2.2).2:Int) == (uA a0 ((iU a0 a1.1).1.1,(iU a0 a1.1).1.2) a1.2.1 a1.2.2.1 a1.2.2.2.1 a1.2.2.2.2).2)
  case true=>exact rT (t2++[.d h2,.c [] (C7)]) hcx
  exact rT (t2++[.d h2]) hcx
 exact rT (t1++[.d h1]) hcx
end Go.Proofs.YtlffahoikfahlaaGreat
