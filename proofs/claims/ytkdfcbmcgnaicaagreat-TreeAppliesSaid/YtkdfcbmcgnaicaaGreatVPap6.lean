/-
  Parts of the proofs of the laws: the executor, what functions of the program compute, and that it is what the statements ask. No premise.
-/
import Derived.Test.YtkdfcbmcgnaicaaGreatVPap5
set_option linter.unusedVariables false
set_option linter.unusedSimpArgs false
set_option maxHeartbeats 4000000
open Int renaming toNat → tN
open Inhabited renaming default → dF
namespace Go.Proofs.YtkdfcbmcgnaicaaGreat
open Go.Proofs Go.Aw Go.RowKit
set_option maxRecDepth 100000
def eK (a0:Zt)(a1:Int):Int :=
 (bif ((a1:Int) == 0) then
  a0.1
 else
  (bif ((a1:Int) == 1) then
   a0.2.1
  else
   a0.2.2))
theorem aFb (a0:Zt)(a1:Int):Con Tryz.prog 123 [(.a (k3 a0)),(iv a1)] [] (iv (eK a0 a1)) []:=by
 refine aY Tryz.func123 (by kernel_rfl) fun cx hcx=>?_
 cases h0:((a1:Int) == 0) with
 | true =>
  have q0:=eq_of_beq h0
  have e:=Eq.refl (eK a0 a1);conv at e=>rhs;simp only [eK,h0,aT]
  rw [e]
  exact rt [.d h0] [] [] hcx (by kernel_rfl)
 | false =>
  have q0:=ne_of_beq_false h0
  let t1:List (St Tryz.prog):=[.d h0]
  cases h1:((a1:Int) == 1) with
  | true =>
   have q1:=eq_of_beq h1
   have e:=Eq.refl (eK a0 a1);conv at e=>rhs;simp only [eK,h0,h1,aT]
   rw [e]
   exact rt (t1++[.d h1]) [] [] hcx (by kernel_rfl)
  | false =>
   have q1:=ne_of_beq_false h1
   have e:=Eq.refl (eK a0 a1);conv at e=>rhs;simp only [eK,h0,h1,aT]
   rw [e]
   exact rt (t1++[.d h1]) [] [] hcx (by kernel_rfl)
def gS (a0:(Zt×Zt×Zt)×Int)(a1:Int):Int :=
 (W ((W ((eK a0.1.1 a1)+(eK a0.1.2.1 a1)))+(eK a0.1.2.2 a1)))
theorem aHh (a0:(Zt×Zt×Zt)×Int)(a1:Int):Con Tryz.prog 126 [(.a [(iv a0.1.1.1),(iv a0.1.1.2.1),(iv a0.1.1.2.2),(iv a0.1.2.1.1),(iv a0.1.2.1.2.1),(iv a0.1.2.1.2.2),(iv a0.1.2.2.1),(iv a0.1.2.2.2.1),(iv a0.1.2.2.2.2),(iv a0.2)]),(iv a1)] [] (iv (gS a0 a1)) []:=by
 refine aY Tryz.func126 (by kernel_rfl) fun cx hcx=>?_
 have e:=Eq.refl (gS a0 a1);conv at e=>rhs;simp only [gS]
 rw [e]
 exact rt [.c [] (aFb a0.1.1 a1),.c [] (aFb a0.1.2.1 a1),.c [] (aFb a0.1.2.2 a1)] [] [] hcx (by kernel_rfl)
def aCy (a0:Int)(a1:Int):Int :=
 (Int.fdiv (W (a0+a1)) (2 ^ (min (tN 1) 64)))
theorem aXf (a0:Int)(a1:Int):Con Tryz.prog 124 [(iv a0),(iv a1)] [] (iv (aCy a0 a1)) []:=by
 refine aY Tryz.func124 (by kernel_rfl) fun cx hcx=>?_
 have e:=Eq.refl (aCy a0 a1);conv at e=>rhs;simp only [aCy]
 rw [e]
 exact rt [.p (show 0<=(1:Int) from by decide)] [] [] hcx (by kernel_rfl)
noncomputable def uL:Code:=(aM [1,1,0,1] [] (aL Tryz.f100) []).1
noncomputable def uM:List K:=(aM [1,1,0,1] [] (aL Tryz.f100) []).2
def sD (a0:bO)(a1:List Int)(a2:Int)(v1 v2 v3:Int):LS:=⟨gD 56 [(0,(.s 0 0 a0.length 10)),(1,(.s 1 0 a1.length 1)),(2,(iv a2)),(7,(iv v1)),(8,(iv v2)),(9,(iv v3))],[(.live false true (flat dC a0)),(.live false true (flat c3 a1))]⟩
def cK (a0:bO)(a1:List Int)(a2:Int):Zt->Zt⊕(Int)
 | (v1,v2,v3) =>
  (bif (decide ((v3:Int) < (a1.length:Int))) then
   (.inl ((gZ (gZ (gZ v1 (eK (a0.getD (tN (a1.getD (tN v3) dF)) dF).1.1 a2)) (eK (a0.getD (tN (a1.getD (tN v3) dF)) dF).1.2.1 a2)) (eK (a0.getD (tN (a1.getD (tN v3) dF)) dF).1.2.2 a2)),(dB (dB (dB v2 (eK (a0.getD (tN (a1.getD (tN v3) dF)) dF).1.1 a2)) (eK (a0.getD (tN (a1.getD (tN v3) dF)) dF).1.2.1 a2)) (eK (a0.getD (tN (a1.getD (tN v3) dF)) dF).1.2.2 a2)),(v3+1)))
  else
   (.inr (aCy v1 v2)))
theorem aJi (a0:bO)(a1:List Int)(a2:Int)(l0:a0.length<=2^63-1)(l1:a1.length<=2^63-1)(hir:InR a0.length a1)(hl:a1.length<=1048576) {cx:Cx} (hcx:cx.base=2):∀(n:Nat) (v1 v2 v3:Int),(0<=v3)/\(v3<=a1.length)->tN ((a1.length:Int) - v3) < n->Aw.Good Tryz.prog none 9 (bodyPost Tryz.prog Tryz.f100 (RR cx (iv (aH (cK a0 a1 a2) n (v1,v2,v3))) [] [])) cx [] (.l uL n::uM) (sD a0 a1 a2 v1 v2 v3):=by
 intro n
 induction n with
 | zero=>intro v1 v2 v3 hi hn;exact absurd hn (eI _)
 | succ n ih =>
  intro v1 v2 v3 hi hn
  refine aR ?_
  cases h0:(decide ((v3:Int) < (a1.length:Int))) with
  | true =>
   have q0:=cJ h0
   try have hr1:=hir.at (i:=tN v3) (by have _:=h0;omega)
   have e:=Eq.refl (cK a0 a1 a2 (v1,v2,v3));conv at e=>rhs;simp only [cK,h0,aT]
   rw [aI e]
   refine ba [.d h0,.i v3 (a1.length),.L aF a1 v3 0 1,.i (a1.getD (tN v3) dF) (a0.length),.L eC a0 (a1.getD (tN v3) dF) 0 9,.c [] (aFb (a0.getD (tN (a1.getD (tN v3) dF)) dF).1.1 a2),.c [] (aFb (a0.getD (tN (a1.getD (tN v3) dF)) dF).1.2.1 a2),.c [] (aFb (a0.getD (tN (a1.getD (tN v3) dF)) dF).1.2.2 a2),.c [] (aFb (a0.getD (tN (a1.getD (tN v3) dF)) dF).1.1 a2),.c [] (aFb (a0.getD (tN (a1.getD (tN v3) dF)) dF).1.2.1 a2),.c [] (aFb (a0.getD (tN (a1.getD (tN v3) dF)) dF).1.2.2 a2)] [] [0,1,2,7,8,9] [] hcx (m:=n) uL (uM) (sD a0 a1 a2 (gZ (gZ (gZ v1 (eK (a0.getD (tN (a1.getD (tN v3) dF)) dF).1.1 a2)) (eK (a0.getD (tN (a1.getD (tN v3) dF)) dF).1.2.1 a2)) (eK (a0.getD (tN (a1.getD (tN v3) dF)) dF).1.2.2 a2)) (dB (dB (dB v2 (eK (a0.getD (tN (a1.getD (tN v3) dF)) dF).1.1 a2)) (eK (a0.getD (tN (a1.getD (tN v3) dF)) dF).1.2.1 a2)) (eK (a0.getD (tN (a1.getD (tN v3) dF)) dF).1.2.2 a2)) (W (v3+1))) (by kernel_rfl) ?_
   have z0:(W (v3+1))=(v3+1):=aS (by omega) (by omega)
   rw [z0]
   exact ih (gZ (gZ (gZ v1 (eK (a0.getD (tN (a1.getD (tN v3) dF)) dF).1.1 a2)) (eK (a0.getD (tN (a1.getD (tN v3) dF)) dF).1.2.1 a2)) (eK (a0.getD (tN (a1.getD (tN v3) dF)) dF).1.2.2 a2)) (dB (dB (dB v2 (eK (a0.getD (tN (a1.getD (tN v3) dF)) dF).1.1 a2)) (eK (a0.getD (tN (a1.getD (tN v3) dF)) dF).1.2.1 a2)) (eK (a0.getD (tN (a1.getD (tN v3) dF)) dF).1.2.2 a2)) (v3+1) (by refine⟨?_,?_⟩<;>(try simp only [Ls])<;>first | omega | assumption | simp) (by omega)
  | false =>
   have q0:=cN h0
   have e:=Eq.refl (cK a0 a1 a2 (v1,v2,v3));conv at e=>rhs;simp only [cK,h0,aT]
   rw [aJ,e]
   exact rt [.d h0,.c [] (aXf v1 v2)] [] [] hcx (by kernel_rfl)
def aO (a0:bO)(a1:List Int)(a2:Int):Int :=
 (aH (cK a0 a1 a2) (tN ((a1.length:Int) - 0)+1) (64,(-64),0))
theorem kM (a0:bO)(a1:List Int)(a2:Int)(l0:a0.length<=2^63-1)(l1:a1.length<=2^63-1)(hir:InR a0.length a1)(hl:a1.length<=1048576):Con Tryz.prog 100 [(.s 0 0 a0.length 10),(.s 1 0 a1.length 1),(iv a2)] [(.live false true (flat dC a0)),(.live false true (flat c3 a1))] (iv (aO a0 a1 a2)) []:=by
 refine aY Tryz.func100 (by kernel_rfl) fun cx hcx=>?_
 have e:=Eq.refl (aO a0 a1 a2);conv at e=>rhs;simp only [aO]
 rw [e]
 refine en [] [] [0,1,2,7,8,9] [] hcx uL (uM) (sD a0 a1 a2 64 (-64) 0) (tN ((a1.length:Int) - 0)+1) (by kernel_rfl) ?_
 exact aJi a0 a1 a2 l0 l1 hir hl hcx (tN ((a1.length:Int) - 0)+1) 64 (-64) 0 (by refine⟨?_,?_⟩<;>(try simp only [Ls])<;>first | omega | assumption | simp) (by omega)
noncomputable def uN:Code:=(aM [1,1,0,1] [] (aL Tryz.f102) []).1
noncomputable def uO:List K:=(aM [1,1,0,1] [] (aL Tryz.f102) []).2
def sE (a0:bO)(a1:List Int)(v2c:List SV)(v2n:Nat)(v3:Int):LS:=⟨gD 24 [(0,(.s 0 0 a0.length 10)),(1,(.s 1 0 a1.length 1)),(5,(.s 2 0 v2n 10)),(6,(iv v3))],[(.live false true (flat dC a0)),(.live false true (flat c3 a1)),(.live true true v2c)]⟩
def jS (a0:bO)(a1:List Int):bO×Int->(bO×Int)⊕bO
 | (v2,v3) =>
  (bif (decide ((v3:Int) < (a1.length:Int))) then
   (.inl ((v2++[(a0.getD (tN (a1.getD (tN v3) dF)) dF)]),(v3+1)))
  else
   (.inr v2))
theorem aJj (a0:bO)(a1:List Int)(l0:a0.length<=2^63-1)(l1:a1.length<=2^63-1)(hir:InR a0.length a1)(hl:a1.length<=1048576) {cx:Cx} (hcx:cx.base=2):∀(n:Nat) (v2:bO) (v3:Int),(0<=v3)/\(v2.length=tN v3)/\(v3<=a1.length)->tN ((a1.length:Int) - v3) < n->Aw.Good Tryz.prog none 9 (bodyPost Tryz.prog Tryz.f102 (RR cx (.s 2 0 (aH (jS a0 a1) n (v2,v3)).length 10) [(.live true true (flat dC (aH (jS a0 a1) n (v2,v3))))] [])) cx [] (.l uN n::uO) (sE a0 a1 (flat dC v2) v2.length v3):=by
 intro n
 induction n with
 | zero=>intro v2 v3 hi hn;exact absurd hn (eI _)
 | succ n ih =>
  intro v2 v3 hi hn
  refine aR ?_
  cases h0:(decide ((v3:Int) < (a1.length:Int))) with
  | true =>
   have q0:=cJ h0
   try have hr1:=hir.at (i:=tN v3) (by have _:=h0;omega)
   have e:=Eq.refl (jS a0 a1 (v2,v3));conv at e=>rhs;simp only [jS,h0,aT]
   rw [aI e]
   refine ba [.d h0,.i v3 (a1.length),.L aF a1 v3 0 1,.i (a1.getD (tN v3) dF) (a0.length),.L eC a0 (a1.getD (tN v3) dF) 0 10,.p (show((flat dC v2).length=v2.length*10/\v2.length+1<=2 ^ 40/\(v2.length+1)*80<=2 ^ 47) from kG eC (by omega) (by omega))] [] [0,1,5,6] [4] hcx (m:=n) uN (uO) (sE a0 a1 (flat dC v2++[(iv (a0.getD (tN (a1.getD (tN v3) dF)) dF).1.1.1),(iv (a0.getD (tN (a1.getD (tN v3) dF)) dF).1.1.2.1),(iv (a0.getD (tN (a1.getD (tN v3) dF)) dF).1.1.2.2),(iv (a0.getD (tN (a1.getD (tN v3) dF)) dF).1.2.1.1),(iv (a0.getD (tN (a1.getD (tN v3) dF)) dF).1.2.1.2.1),(iv (a0.getD (tN (a1.getD (tN v3) dF)) dF).1.2.1.2.2),(iv (a0.getD (tN (a1.getD (tN v3) dF)) dF).1.2.2.1),(iv (a0.getD (tN (a1.getD (tN v3) dF)) dF).1.2.2.2.1),(iv (a0.getD (tN (a1.getD (tN v3) dF)) dF).1.2.2.2.2),(iv (a0.getD (tN (a1.getD (tN v3) dF)) dF).2)]) (v2.length+1) (W (v3+1))) (by kernel_rfl) ?_
   have z0:(W (v3+1))=(v3+1):=aS (by omega) (by omega)
   have z1:(flat dC v2++[(iv (a0.getD (tN (a1.getD (tN v3) dF)) dF).1.1.1),(iv (a0.getD (tN (a1.getD (tN v3) dF)) dF).1.1.2.1),(iv (a0.getD (tN (a1.getD (tN v3) dF)) dF).1.1.2.2),(iv (a0.getD (tN (a1.getD (tN v3) dF)) dF).1.2.1.1),(iv (a0.getD (tN (a1.getD (tN v3) dF)) dF).1.2.1.2.1),(iv (a0.getD (tN (a1.getD (tN v3) dF)) dF).1.2.1.2.2),(iv (a0.getD (tN (a1.getD (tN v3) dF)) dF).1.2.2.1),(iv (a0.getD (tN (a1.getD (tN v3) dF)) dF).1.2.2.2.1),(iv (a0.getD (tN (a1.getD (tN v3) dF)) dF).1.2.2.2.2),(iv (a0.getD (tN (a1.getD (tN v3) dF)) dF).2)])=(flat dC (v2++[(a0.getD (tN (a1.getD (tN v3) dF)) dF)])):=(cM (c:=dC) (l:=v2) (m:=[(a0.getD (tN (a1.getD (tN v3) dF)) dF)])).symm
   have z2:(v2.length+1)=(v2++[(a0.getD (tN (a1.getD (tN v3) dF)) dF)]).length:=mI v2 [(a0.getD (tN (a1.getD (tN v3) dF)) dF)] rfl
   rw [z0,z1,z2]
   exact ih (v2++[(a0.getD (tN (a1.getD (tN v3) dF)) dF)]) (v3+1) (by refine⟨?_,?_,?_⟩<;>(try simp only [Ls])<;>first | omega | assumption | simp) (by omega)
  | false =>
   have q0:=cN h0
   have e:=Eq.refl (jS a0 a1 (v2,v3));conv at e=>rhs;simp only [jS,h0,aT]
   rw [aJ,e]
   exact rt [.d h0] [] [2] hcx (by kernel_rfl)
def gK (a0:bO)(a1:List Int):bO :=
 (aH (jS a0 a1) (tN ((a1.length:Int) - 0)+1) (([]:bO),0))
theorem aBy (a0:bO)(a1:List Int)(l0:a0.length<=2^63-1)(l1:a1.length<=2^63-1)(hir:InR a0.length a1)(hl:a1.length<=1048576):Con Tryz.prog 102 [(.s 0 0 a0.length 10),(.s 1 0 a1.length 1)] [(.live false true (flat dC a0)),(.live false true (flat c3 a1))] (.s 2 0 (gK a0 a1).length 10) [(.live true true (flat dC (gK a0 a1)))]:=by
 refine aY Tryz.func102 (by kernel_rfl) fun cx hcx=>?_
 have e:=Eq.refl (gK a0 a1);conv at e=>rhs;simp only [gK]
 rw [e]
 refine en [] [.slot 5 10] [0,1,5,6] [2] hcx uN (uO) (sE a0 a1 (flat dC ([]:bO)) 0 0) (tN ((a1.length:Int) - 0)+1) (by kernel_rfl) ?_
 exact aJj a0 a1 l0 l1 hir hl hcx (tN ((a1.length:Int) - 0)+1) ([]:bO) 0 (by refine⟨?_,?_,?_⟩<;>(try simp only [Ls])<;>first | omega | assumption | simp) (by omega)
noncomputable def uP:Code:=(aM [1,1,0,1,0,1,0,1,0,1] [0] (aL Tryz.f104) []).1
noncomputable def uQ (m0:Nat):List K:=(aM [1,1,0,1,0,1,0,1,0,1] [m0] (aL Tryz.f104) []).2
def sF (a0:bO)(a1:List Int)(v14 v15 v16 v17 v18 v19:Int):LS:=⟨gD 69 [(0,(.s 0 0 a0.length 10)),(1,(.s 1 0 a1.length 1)),(5,(iv v14)),(6,(iv v15)),(7,(iv v16)),(8,(iv v17)),(9,(iv v18)),(10,(iv v19))],[(.live false true (flat dC a0)),(.live false true (flat c3 a1))]⟩
def cX (a0:bO)(a1:List Int):Int×Int×Int×Zt->(Int×Int×Int×Zt)⊕(Zt⊕(Int))
 | (v14,v15,v16,v17,v18,v19) =>
  (bif (decide ((v19:Int) < (a1.length:Int))) then
   (.inl (v14,v15,v16,(gZ v17 (gS (a0.getD (tN (a1.getD (tN v19) dF)) dF) v16)),(dB v18 (gS (a0.getD (tN (a1.getD (tN v19) dF)) dF) v16)),(v19+1)))
  else
   (bif (decide (((W (v18 - v17)):Int) > v15)) then
    (.inr (.inl (v16,(W (v18 - v17)),(v16+1))))
   else
    (.inr (.inl (v14,v15,(v16+1))))))
noncomputable def nN:Code:=(aM [1,1,0,1] [] (aL Tryz.f104) []).1
noncomputable def nO:List K:=(aM [1,1,0,1] [] (aL Tryz.f104) []).2
def lX (a0:bO)(a1:List Int)(v11 v12 v13:Int):LS:=⟨gD 69 [(0,(.s 0 0 a0.length 10)),(1,(.s 1 0 a1.length 1)),(5,(iv v11)),(6,(iv v12)),(7,(iv v13))],[(.live false true (flat dC a0)),(.live false true (flat c3 a1))]⟩
def eU (a0:bO)(a1:List Int):Zt->Zt⊕(Int)
 | (v11,v12,v13) =>
  (bif (decide ((v13:Int) < 3)) then
   (aH (cX a0 a1) (tN ((a1.length:Int) - 1)+1) (v11,v12,v13,(gS (a0.getD (tN (a1.getD (tN 0) dF)) dF) v13),(gS (a0.getD (tN (a1.getD (tN 0) dF)) dF) v13),1))
  else
   (.inr v11))
theorem aJk (a0:bO)(a1:List Int)(l0:a0.length<=2^63-1)(l1:a1.length<=2^63-1)(hir:InR a0.length a1)(hl:1<=a1.length/\a1.length<=1048576) {cx:Cx} (hcx:cx.base=2)
 (n0:Nat) (g0:∀(v11 v12 v13:Int),(0<=v13)/\(v13<=3)->tN (3 - v13) < n0->Aw.Good Tryz.prog none 9 (bodyPost Tryz.prog Tryz.f104 (RR cx (iv (aH (eU a0 a1) n0 (v11,v12,v13))) [] [])) cx [] (.l nN n0::nO) (lX a0 a1 v11 v12 v13)):∀(n:Nat) (v14 v15 v16 v17 v18 v19:Int),(0<=v19)/\(1<=v19)/\(v19<=a1.length)/\((0<=v16))/\((v16<=3))/\(v16 < 3)/\(tN (3 - v16) < n0+1)->tN ((a1.length:Int) - v19) < n->Aw.Good Tryz.prog none 9 (bodyPost Tryz.prog Tryz.f104 (RR cx (iv (bA (eU a0 a1) n0 (aH (cX a0 a1) n (v14,v15,v16,v17,v18,v19)))) [] [])) cx [] (.l uP n::uQ n0) (sF a0 a1 v14 v15 v16 v17 v18 v19):=by
 intro n
 induction n with
 | zero=>intro v14 v15 v16 v17 v18 v19 hi hn;exact absurd hn (eI _)
 | succ n ih =>
  intro v14 v15 v16 v17 v18 v19 hi hn
  refine aR ?_
  have hr0:=hir.at (i:=tN 0) (by have:=hl.1;simp;omega)
  cases h0:(decide ((v19:Int) < (a1.length:Int))) with
  | true =>
   have q0:=cJ h0
   try have hr1:=hir.at (i:=tN v19) (by have _:=h0;omega)
   have e:=Eq.refl (cX a0 a1 (v14,v15,v16,v17,v18,v19));conv at e=>rhs;simp only [cX,h0,aT]
   rw [aI e]
   refine ba [.d h0,.i v19 (a1.length),.L aF a1 v19 0 1,.i (a1.getD (tN v19) dF) (a0.length),.L eC a0 (a1.getD (tN v19) dF) 0 10,.c [] (aHh (a0.getD (tN (a1.getD (tN v19) dF)) dF) v16),.i v19 (a1.length),.L aF a1 v19 0 1,.i (a1.getD (tN v19) dF) (a0.length),.L eC a0 (a1.getD (tN v19) dF) 0 10,.c [] (aHh (a0.getD (tN (a1.getD (tN v19) dF)) dF) v16)] [] [0,1,5,6,7,8,9,10] [] hcx (m:=n) uP (uQ n0) (sF a0 a1 v14 v15 v16 (gZ v17 (gS (a0.getD (tN (a1.getD (tN v19) dF)) dF) v16)) (dB v18 (gS (a0.getD (tN (a1.getD (tN v19) dF)) dF) v16)) (W (v19+1))) (by kernel_rfl) ?_
   have z0:(W (v19+1))=(v19+1):=aS (by omega) (by omega)
   rw [z0]
   exact ih v14 v15 v16 (gZ v17 (gS (a0.getD (tN (a1.getD (tN v19) dF)) dF) v16)) (dB v18 (gS (a0.getD (tN (a1.getD (tN v19) dF)) dF) v16)) (v19+1) (by refine⟨?_,?_,?_,?_,?_,?_,?_⟩<;>(try simp only [Ls])<;>first | omega | assumption | exact hi.2.1 | exact hi.2.2.1 | exact hi.2.2.2.1 | exact hi.2.2.2.2.1 | exact hi.2.2.2.2.2.1 | exact hi.2.2.2.2.2.2.1 | simp) (by omega)
  | false =>
   have q0:=cN h0
   let t1:List (St Tryz.prog):=[.d h0]
   cases h1:(decide (((W (v18 - v17)):Int) > v15)) with
   | true =>
    have q1:=cJ h1
    have e:=Eq.refl (cX a0 a1 (v14,v15,v16,v17,v18,v19));conv at e=>rhs;simp only [cX,h0,h1,aT]
    rw [aJ,e]
    refine ba (t1++[.d h1]) [] [0,1,5,6,7] [] hcx (m:=n0) nN (nO) (lX a0 a1 v16 (W (v18 - v17)) (W (v16+1))) (by kernel_rfl) ?_
    have z0:(W (v16+1))=(v16+1):=aS (by omega) (by omega)
    rw [z0]
    exact g0 v16 (W (v18 - v17)) (v16+1) (by refine⟨?_,?_⟩<;>(try simp only [Ls])<;>first | omega | assumption | simp) (by omega)
   | false =>
    have q1:=cN h1
    have e:=Eq.refl (cX a0 a1 (v14,v15,v16,v17,v18,v19));conv at e=>rhs;simp only [cX,h0,h1,aT]
    rw [aJ,e]
    refine ba (t1++[.d h1]) [] [0,1,5,6,7] [] hcx (m:=n0) nN (nO) (lX a0 a1 v14 v15 (W (v16+1))) (by kernel_rfl) ?_
    have z0:(W (v16+1))=(v16+1):=aS (by omega) (by omega)
    rw [z0]
    exact g0 v14 v15 (v16+1) (by refine⟨?_,?_⟩<;>(try simp only [Ls])<;>first | omega | assumption | simp) (by omega)
theorem aJl (a0:bO)(a1:List Int)(l0:a0.length<=2^63-1)(l1:a1.length<=2^63-1)(hir:InR a0.length a1)(hl:1<=a1.length/\a1.length<=1048576) {cx:Cx} (hcx:cx.base=2):∀(n:Nat) (v11 v12 v13:Int),(0<=v13)/\(v13<=3)->tN (3 - v13) < n->Aw.Good Tryz.prog none 9 (bodyPost Tryz.prog Tryz.f104 (RR cx (iv (aH (eU a0 a1) n (v11,v12,v13))) [] [])) cx [] (.l nN n::nO) (lX a0 a1 v11 v12 v13):=by
 intro n
 induction n with
 | zero=>intro v11 v12 v13 hi hn;exact absurd hn (eI _)
 | succ n ih =>
  intro v11 v12 v13 hi hn
  refine aR ?_
  have hr0:=hir.at (i:=tN 0) (by have:=hl.1;simp;omega)
  cases h0:(decide ((v13:Int) < 3)) with
  | true =>
   have q0:=cJ h0
   have e:=Eq.refl (eU a0 a1 (v11,v12,v13));conv at e=>rhs;simp only [eU,h0,aT]
   rw [aJ,e]
   refine en [.d h0,.i 0 (a1.length),.L aF a1 0 0 1,.i (a1.getD (tN 0) dF) (a0.length),.L eC a0 (a1.getD (tN 0) dF) 0 10,.c [] (aHh (a0.getD (tN (a1.getD (tN 0) dF)) dF) v13),.i 0 (a1.length),.L aF a1 0 0 1,.i (a1.getD (tN 0) dF) (a0.length),.L eC a0 (a1.getD (tN 0) dF) 0 10,.c [] (aHh (a0.getD (tN (a1.getD (tN 0) dF)) dF) v13)] [] [0,1,5,6,7,8,9,10] [] hcx uP (uQ n) (sF a0 a1 v11 v12 v13 (gS (a0.getD (tN (a1.getD (tN 0) dF)) dF) v13) (gS (a0.getD (tN (a1.getD (tN 0) dF)) dF) v13) 1) (tN ((a1.length:Int) - 1)+1) (by kernel_rfl) ?_
   exact aJk a0 a1 l0 l1 hir hl hcx n ih (tN ((a1.length:Int) - 1)+1) v11 v12 v13 (gS (a0.getD (tN (a1.getD (tN 0) dF)) dF) v13) (gS (a0.getD (tN (a1.getD (tN 0) dF)) dF) v13) 1 (by refine⟨?_,?_,?_,?_,?_,?_,?_⟩<;>(try simp only [Ls])<;>first | omega | assumption | exact hi.2.1 | exact hi.2.2.1 | exact hi.2.2.2.1 | exact hi.2.2.2.2.1 | exact hi.2.2.2.2.2.1 | exact hi.2.2.2.2.2.2.1 | simp) (by omega)
  | false =>
   have q0:=cN h0
   have e:=Eq.refl (eU a0 a1 (v11,v12,v13));conv at e=>rhs;simp only [eU,h0,aT]
   rw [aJ,e]
   exact rt [.d h0] [] [] hcx (by kernel_rfl)
def aG (a0:bO)(a1:List Int):Int :=
 (aH (eU a0 a1) (tN (3 - 0)+1) (0,(-1),0))
theorem aBz (a0:bO)(a1:List Int)(l0:a0.length<=2^63-1)(l1:a1.length<=2^63-1)(hir:InR a0.length a1)(hl:1<=a1.length/\a1.length<=1048576):Con Tryz.prog 104 [(.s 0 0 a0.length 10),(.s 1 0 a1.length 1)] [(.live false true (flat dC a0)),(.live false true (flat c3 a1))] (iv (aG a0 a1)) []:=by
 refine aY Tryz.func104 (by kernel_rfl) fun cx hcx=>?_
 have e:=Eq.refl (aG a0 a1);conv at e=>rhs;simp only [aG]
 rw [e]
 refine en [] [] [0,1,5,6,7] [] hcx nN (nO) (lX a0 a1 0 (-1) 0) (tN (3 - 0)+1) (by kernel_rfl) ?_
 exact aJl a0 a1 l0 l1 hir hl hcx (tN (3 - 0)+1) 0 (-1) 0 (by refine⟨?_,?_⟩<;>(try simp only [Ls])<;>first | omega | assumption | simp) (by omega)
def mC (a0:bO)(a1:Zt):Int :=
 (bif (((kW a0):Int) != 0) then
  (kW a0)
 else
  (bif (!(rW a1 64)) then
   1
  else
   0))
theorem aUg (a0:bO)(a1:Zt)(l0:a0.length<=2^63-1):Con Tryz.prog 125 [(.s 0 0 a0.length 10),(.a (k3 a1))] [(.live false true (flat dC a0))] (iv (mC a0 a1)) []:=by
 refine aY Tryz.func125 (by kernel_rfl) fun cx hcx=>?_
 let t0:List (St Tryz.prog):=[.c [0] (aS3 a0 (by omega))]
 cases h0:(((kW a0):Int) != 0) with
 | true =>
  have q0:=bne_iff_ne.1 h0
  have e:=Eq.refl (mC a0 a1);conv at e=>rhs;simp only [mC,h0,aT]
  rw [e]
  exact rt (t0++[.d h0]) [] [] hcx (by kernel_rfl)
 | false =>
  have q0:=bne_eq_false_iff_eq.1 h0
  let t1:List (St Tryz.prog):=(t0++[.d h0,.c [] (aW6 a1 64)])
  cases h1:(!(rW a1 64)) with
  | true =>
   have e:=Eq.refl (mC a0 a1);conv at e=>rhs;simp only [mC,h0,h1,aT]
   rw [e]
   exact rt (t1++[.d h1]) [] [] hcx (by kernel_rfl)
  | false =>
   have e:=Eq.refl (mC a0 a1);conv at e=>rhs;simp only [mC,h0,h1,aT]
   rw [e]
   exact rt (t1++[.d h1]) [] [] hcx (by kernel_rfl)
noncomputable def aB0:Code:=(aM [1,1,1,1,0,1] [] (aL Tryz.f101) []).1
noncomputable def aB1:List K:=(aM [1,1,1,1,0,1] [] (aL Tryz.f101) []).2
def xP (a0:bO)(a1:Zt)(v1 v2:Int):LS:=⟨gD 45 [(0,(.s 0 0 a0.length 10)),(3,(.p 1 0)),(7,(iv v1)),(8,(iv v2))],[(.live false true (flat dC a0)),(.live true false (k3 a1))]⟩
def nP (a0:bO)(a1:Zt):Int×Int->(Int×Int)⊕(Int×Int)
 | (v1,v2) =>
  (bif (decide ((v2:Int) < (a0.length:Int))) then
   (.inl ((if((if((if(v1:Int) < (gB (fS (a0.getD (tN v2) dF).1.1 a1)) then(gB (fS (a0.getD (tN v2) dF).1.1 a1)) else v1):Int) < (gB (fS (a0.getD (tN v2) dF).1.2.1 a1)) then(gB (fS (a0.getD (tN v2) dF).1.2.1 a1)) else(if(v1:Int) < (gB (fS (a0.getD (tN v2) dF).1.1 a1)) then(gB (fS (a0.getD (tN v2) dF).1.1 a1)) else v1)):Int) < (gB (fS (a0.getD (tN v2) dF).1.2.2 a1)) then(gB (fS (a0.getD (tN v2) dF).1.2.2 a1)) else(if((if(v1:Int) < (gB (fS (a0.getD (tN v2) dF).1.1 a1)) then(gB (fS (a0.getD (tN v2) dF).1.1 a1)) else v1):Int) < (gB (fS (a0.getD (tN v2) dF).1.2.1 a1)) then(gB (fS (a0.getD (tN v2) dF).1.2.1 a1)) else(if(v1:Int) < (gB (fS (a0.getD (tN v2) dF).1.1 a1)) then(gB (fS (a0.getD (tN v2) dF).1.1 a1)) else v1))),(v2+1)))
  else
   (.inr (v1,0)))
theorem aPe (a0:bO)(a1:Zt)(l0:a0.length<=2^63-1) {cx:Cx} (hcx:cx.base=1):∀(n:Nat) (v1 v2:Int),0<=v2->tN ((a0.length:Int) - v2) < n->Aw.Good Tryz.prog none 9 (bodyPost Tryz.prog Tryz.f101 (RR cx (.t (k2 (aH (nP a0 a1) n (v1,v2)))) [] [])) cx [] (.l aB0 n::aB1) (xP a0 a1 v1 v2):=by
 intro n
 induction n with
 | zero=>intro v1 v2 hi hn;exact absurd hn (eI _)
 | succ n ih =>
  intro v1 v2 hi hn
  refine aR ?_
  cases h0:(decide ((v2:Int) < (a0.length:Int))) with
  | true =>
   have q0:=cJ h0
   have e:=Eq.refl (nP a0 a1 (v1,v2));conv at e=>rhs;simp only [nP,h0,aT]
   rw [aI e]
   refine ba [.d h0,.i v2 (a0.length),.L eC a0 v2 0 9,.c [] (aRe (a0.getD (tN v2) dF).1.1 a1),.c [] (aRd (fS (a0.getD (tN v2) dF).1.1 a1)),.c [] (aRe (a0.getD (tN v2) dF).1.2.1 a1),.c [] (aRd (fS (a0.getD (tN v2) dF).1.2.1 a1)),.c [] (aRe (a0.getD (tN v2) dF).1.2.2 a1),.c [] (aRd (fS (a0.getD (tN v2) dF).1.2.2 a1))] [] [0,3,7,8] [1] hcx (m:=n) aB0 (aB1) (xP a0 a1 (if((if((if(v1:Int) < (gB (fS (a0.getD (tN v2) dF).1.1 a1)) then(gB (fS (a0.getD (tN v2) dF).1.1 a1)) else v1):Int) < (gB (fS (a0.getD (tN v2) dF).1.2.1 a1)) then(gB (fS (a0.getD (tN v2) dF).1.2.1 a1)) else(if(v1:Int) < (gB (fS (a0.getD (tN v2) dF).1.1 a1)) then(gB (fS (a0.getD (tN v2) dF).1.1 a1)) else v1)):Int) < (gB (fS (a0.getD (tN v2) dF).1.2.2 a1)) then(gB (fS (a0.getD (tN v2) dF).1.2.2 a1)) else(if((if(v1:Int) < (gB (fS (a0.getD (tN v2) dF).1.1 a1)) then(gB (fS (a0.getD (tN v2) dF).1.1 a1)) else v1):Int) < (gB (fS (a0.getD (tN v2) dF).1.2.1 a1)) then(gB (fS (a0.getD (tN v2) dF).1.2.1 a1)) else(if(v1:Int) < (gB (fS (a0.getD (tN v2) dF).1.1 a1)) then(gB (fS (a0.getD (tN v2) dF).1.1 a1)) else v1))) (W (v2+1))) (by kernel_rfl) ?_
   have z0:(W (v2+1))=(v2+1):=aS (by omega) (by omega)
   rw [z0]
   exact ih (if((if((if(v1:Int) < (gB (fS (a0.getD (tN v2) dF).1.1 a1)) then(gB (fS (a0.getD (tN v2) dF).1.1 a1)) else v1):Int) < (gB (fS (a0.getD (tN v2) dF).1.2.1 a1)) then(gB (fS (a0.getD (tN v2) dF).1.2.1 a1)) else(if(v1:Int) < (gB (fS (a0.getD (tN v2) dF).1.1 a1)) then(gB (fS (a0.getD (tN v2) dF).1.1 a1)) else v1)):Int) < (gB (fS (a0.getD (tN v2) dF).1.2.2 a1)) then(gB (fS (a0.getD (tN v2) dF).1.2.2 a1)) else(if((if(v1:Int) < (gB (fS (a0.getD (tN v2) dF).1.1 a1)) then(gB (fS (a0.getD (tN v2) dF).1.1 a1)) else v1):Int) < (gB (fS (a0.getD (tN v2) dF).1.2.1 a1)) then(gB (fS (a0.getD (tN v2) dF).1.2.1 a1)) else(if(v1:Int) < (gB (fS (a0.getD (tN v2) dF).1.1 a1)) then(gB (fS (a0.getD (tN v2) dF).1.1 a1)) else v1))) (v2+1) (by omega) (by omega)
  | false =>
   have q0:=cN h0
   have e:=Eq.refl (nP a0 a1 (v1,v2));conv at e=>rhs;simp only [nP,h0,aT]
   rw [aJ,e]
   exact rt [.d h0] [] [] hcx (by kernel_rfl)
def mD (a0:bO)(a1:Zt):Int×Int :=
 (bif (((mC a0 a1):Int) != 0) then
  (0,(mC a0 a1))
 else
  (aH (nP a0 a1) (tN ((a0.length:Int) - 0)+1) (0,0)))
theorem aJm (a0:bO)(a1:Zt)(l0:a0.length<=2^63-1):Con Tryz.prog 101 [(.s 0 0 a0.length 10),(.a (k3 a1))] [(.live false true (flat dC a0))] (.t (k2 (mD a0 a1))) []:=by
 refine aY Tryz.func101 (by kernel_rfl) fun cx hcx=>?_
 let t0:List (St Tryz.prog):=[.c [0] (aUg a0 a1 (by omega))]
 cases h0:(((mC a0 a1):Int) != 0) with
 | true =>
  have q0:=bne_iff_ne.1 h0
  have e:=Eq.refl (mD a0 a1);conv at e=>rhs;simp only [mD,h0,aT]
  rw [e]
  exact rt (t0++[.d h0]) [] [] hcx (by kernel_rfl)
 | false =>
  have q0:=bne_eq_false_iff_eq.1 h0
  have e:=Eq.refl (mD a0 a1);conv at e=>rhs;simp only [mD,h0,aT]
  rw [e]
  refine en (t0++[.d h0]) [] [0,3,7,8] [1] hcx aB0 (aB1) (xP a0 a1 0 0) (tN ((a0.length:Int) - 0)+1) (by kernel_rfl) ?_
  exact aPe a0 a1 l0 hcx (tN ((a0.length:Int) - 0)+1) 0 0 (by omega) (by omega)
noncomputable def qX:Code:=(aM [1,1,0,1,0,1,0,1] [0] (aL Tryz.f103) []).1
noncomputable def qY (m0:Nat):List K:=(aM [1,1,0,1,0,1,0,1] [m0] (aL Tryz.f103) []).2
def oB (a0:bO)(a1:List Int)(a2:Int)(v5c:List SV)(v5n:Nat)(v6 v7:Int):LS:=⟨gD 99 [(0,(.s 0 0 a0.length 10)),(2,(iv a2)),(7,(.s 2 0 v5n 1)),(8,(iv v6)),(9,(iv v7))],[(.live false true (flat dC a0)),(.live false true (flat c3 a1)),(.live true true v5c)]⟩
def dG (a0:bO)(a1:List Int)(a2:Int):List Int×Int×Int->(List Int×Int×Int)⊕((List Int×Int)⊕(List Int))
 | (v5,v6,v7) =>
  (bif (decide ((v7:Int) > 0)) then
   (bif (decide (((gS (a0.getD (tN (v5.getD (tN v7) dF)) dF) a2):Int) < (gS (a0.getD (tN (v5.getD (tN (W (v7 - 1))) dF)) dF) a2))) then
    (.inl (((v5.set (tN v7) (v5.getD (tN (W (v7 - 1))) dF)).set (tN (W (v7 - 1))) (v5.getD (tN v7) dF)),v6,(W (v7 - 1))))
   else
    (bif (((gS (a0.getD (tN (v5.getD (tN v7) dF)) dF) a2):Int) == (gS (a0.getD (tN (v5.getD (tN (W (v7 - 1))) dF)) dF) a2)) then
     (bif (decide (((v5.getD (tN v7) dF):Int) < (v5.getD (tN (W (v7 - 1))) dF))) then
      (.inl (((v5.set (tN v7) (v5.getD (tN (W (v7 - 1))) dF)).set (tN (W (v7 - 1))) (v5.getD (tN v7) dF)),v6,(W (v7 - 1))))
     else
      (.inr (.inl (v5,(v6+1)))))
    else
     (.inr (.inl (v5,(v6+1))))))
  else
   (.inr (.inl (v5,(v6+1)))))
noncomputable def lC:Code:=(aM [1,1,0,1] [] (aL Tryz.f103) []).1
noncomputable def lD:List K:=(aM [1,1,0,1] [] (aL Tryz.f103) []).2
def jX (a0:bO)(a1:List Int)(a2:Int)(v3c:List SV)(v3n:Nat)(v4:Int):LS:=⟨gD 99 [(0,(.s 0 0 a0.length 10)),(2,(iv a2)),(7,(.s 2 0 v3n 1)),(8,(iv v4))],[(.live false true (flat dC a0)),(.live false true (flat c3 a1)),(.live true true v3c)]⟩
def eH (a0:bO)(a1:List Int)(a2:Int):List Int×Int->(List Int×Int)⊕(List Int)
 | (v3,v4) =>
  (bif (decide ((v4:Int) < (v3.length:Int))) then
   (aH (dG a0 a1 a2) (tN v4+1) (v3,v4,v4))
  else
   (.inr v3))
theorem aJn (a0:bO)(a1:List Int)(a2:Int)(l0:a0.length<=2^63-1)(l1:a1.length<=2^63-1)(hir:InR a0.length a1)(hl:a1.length<=1048576) {cx:Cx} (hcx:cx.base=2)
 (n0:Nat) (g0:∀(v3:List Int) (v4:Int),(0<=v4)/\(v3.length=a1.length)/\(InR a0.length v3)/\(1<=v4)->tN ((v3.length:Int) - v4) < n0->Aw.Good Tryz.prog none 9 (bodyPost Tryz.prog Tryz.f103 (RR cx (.s 2 0 (aH (eH a0 a1 a2) n0 (v3,v4)).length 1) [(.live true true (flat c3 (aH (eH a0 a1 a2) n0 (v3,v4))))] [])) cx [] (.l lC n0::lD) (jX a0 a1 a2 (flat c3 v3) v3.length v4)):∀(n:Nat) (v5:List Int) (v6 v7:Int),(v5.length=a1.length)/\(InR a0.length v5)/\(0<=v7)/\(v7<=v6)/\(1<=v6)/\(v6 < a1.length)/\((0<=v6))/\((v5.length=a1.length))/\((InR a0.length v5))/\((1<=v6))/\(v6 < (v5.length:Int))/\(tN ((v5.length:Int) - v6) < n0+1)->tN v7 < n->Aw.Good Tryz.prog none 9 (bodyPost Tryz.prog Tryz.f103 (RR cx (.s 2 0 (bA (eH a0 a1 a2) n0 (aH (dG a0 a1 a2) n (v5,v6,v7))).length 1) [(.live true true (flat c3 (bA (eH a0 a1 a2) n0 (aH (dG a0 a1 a2) n (v5,v6,v7)))))] [])) cx [] (.l qX n::qY n0) (oB a0 a1 a2 (flat c3 v5) v5.length v6 v7):=by
 intro n
 induction n with
 | zero=>intro v5 v6 v7 hi hn;exact absurd hn (eI _)
 | succ n ih =>
  intro v5 v6 v7 hi hn
  refine aR ?_
  cases h0:(decide ((v7:Int) > 0)) with
  | true =>
   have q0:=cJ h0
   try have hw_k:=(fun _=>aS (n:=v7 - 1) (by omega) (by omega)) h0
   try have hr1:=hi.2.1.at (i:=tN v7) (by have _:=h0;omega)
   try have hr2:=hi.2.1.at (i:=tN (W (v7 - 1))) (by have _:=h0;omega)
   let t1:List (St Tryz.prog):=[.d h0,.i v7 (v5.length),.L aF v5 v7 0 1,.i (v5.getD (tN v7) dF) (a0.length),.L eC a0 (v5.getD (tN v7) dF) 0 10,.c [] (aHh (a0.getD (tN (v5.getD (tN v7) dF)) dF) a2),.i (W (v7 - 1)) (v5.length),.L aF v5 (W (v7 - 1)) 0 1,.i (v5.getD (tN (W (v7 - 1))) dF) (a0.length),.L eC a0 (v5.getD (tN (W (v7 - 1))) dF) 0 10,.c [] (aHh (a0.getD (tN (v5.getD (tN (W (v7 - 1))) dF)) dF) a2)]
   cases h1:(decide (((gS (a0.getD (tN (v5.getD (tN v7) dF)) dF) a2):Int) < (gS (a0.getD (tN (v5.getD (tN (W (v7 - 1))) dF)) dF) a2))) with
   | true =>
    have q1:=cJ h1
    try have hw_k:=(fun _=>aS (n:=v7 - 1) (by omega) (by omega)) h0
    try have hr1:=hi.2.1.at (i:=tN v7) (by have _:=h0;omega)
    try have hr2:=hi.2.1.at (i:=tN (W (v7 - 1))) (by have _:=h0;omega)
    have e:=Eq.refl (dG a0 a1 a2 (v5,v6,v7));conv at e=>rhs;simp only [dG,h0,h1,aT]
    rw [aI e]
    refine ba (t1++[.d h1,.i v7 (v5.length),.L aF v5 v7 0 1,.i (W (v7 - 1)) (v5.length),.L aF v5 (W (v7 - 1)) 0 1,.i v7 (v5.length),.p (show((0+tN v7*1)+1<=(flat c3 v5).length) from(dT aF (by first | omega | (simp only [Lt];omega)) (o:=0) (Nb rfl))),.i (W (v7 - 1)) (v5.length),.p (show((0+tN (W (v7 - 1))*1)+1<=(splice (flat c3 v5) (0+tN v7*1) [(iv (v5.getD (tN (W (v7 - 1))) dF))]).length) from(by rw [show(splice (flat c3 v5) (0+tN v7*1) [(iv (v5.getD (tN (W (v7 - 1))) dF))])=flat c3 (v5.set (tN v7) (v5.getD (tN (W (v7 - 1))) dF)) from(bB aF (by first | omega | (simp only [Lt];omega)) (o:=0) (d:=dF) (Nb rfl) rfl)];exact dT aF (by first | omega | (simp only [Lt];omega)) (o:=0) (Nb rfl)))]) [] [0,2,7,8,9] [2] hcx (m:=n) qX (qY n0) (oB a0 a1 a2 (splice (splice (flat c3 v5) (0+tN v7*1) [(iv (v5.getD (tN (W (v7 - 1))) dF))]) (0+tN (W (v7 - 1))*1) [(iv (v5.getD (tN v7) dF))]) (v5.length) v6 (W (v7 - 1))) (by kernel_rfl) ?_
    have z0:(splice (splice (flat c3 v5) (0+tN v7*1) [(iv (v5.getD (tN (W (v7 - 1))) dF))]) (0+tN (W (v7 - 1))*1) [(iv (v5.getD (tN v7) dF))])=flat c3 ((v5.set (tN v7) (v5.getD (tN (W (v7 - 1))) dF)).set (tN (W (v7 - 1))) (v5.getD (tN v7) dF)):=(by rw [show(splice (flat c3 v5) (0+tN v7*1) [(iv (v5.getD (tN (W (v7 - 1))) dF))])=flat c3 (v5.set (tN v7) (v5.getD (tN (W (v7 - 1))) dF)) from(bB aF (by first | omega | (simp only [Lt];omega)) (o:=0) (d:=dF) (Nb rfl) rfl)];exact bB aF (by first | omega | (simp only [Lt];omega)) (o:=0) (d:=dF) (Nb rfl) rfl)
    have z1:v5.length=((v5.set (tN v7) (v5.getD (tN (W (v7 - 1))) dF)).set (tN (W (v7 - 1))) (v5.getD (tN v7) dF)).length:=by simp
    rw [z0,z1]
    exact ih ((v5.set (tN v7) (v5.getD (tN (W (v7 - 1))) dF)).set (tN (W (v7 - 1))) (v5.getD (tN v7) dF)) v6 (W (v7 - 1)) (by and_intros<;>(try simp only [Lt])<;>first | omega | assumption | exact hi.2.1 | exact hi.2.2.1 | exact InR.swap hi.2.1 (by omega) (by omega) | exact InR.swap hr (by omega) (by omega)) (by omega)
   | false =>
    have q1:=cN h1
    try have hw_k:=(fun _=>aS (n:=v7 - 1) (by omega) (by omega)) h0
    try have hr1:=hi.2.1.at (i:=tN v7) (by have _:=h0;omega)
    try have hr2:=hi.2.1.at (i:=tN (W (v7 - 1))) (by have _:=h0;omega)
    let t2:List (St Tryz.prog):=(t1++[.d h1,.i v7 (v5.length),.L aF v5 v7 0 1,.i (v5.getD (tN v7) dF) (a0.length),.L eC a0 (v5.getD (tN v7) dF) 0 10,.c [] (aHh (a0.getD (tN (v5.getD (tN v7) dF)) dF) a2),.i (W (v7 - 1)) (v5.length),.L aF v5 (W (v7 - 1)) 0 1,.i (v5.getD (tN (W (v7 - 1))) dF) (a0.length),.L eC a0 (v5.getD (tN (W (v7 - 1))) dF) 0 10,.c [] (aHh (a0.getD (tN (v5.getD (tN (W (v7 - 1))) dF)) dF) a2)])
    cases h2:(((gS (a0.getD (tN (v5.getD (tN v7) dF)) dF) a2):Int) == (gS (a0.getD (tN (v5.getD (tN (W (v7 - 1))) dF)) dF) a2)) with
    | true =>
     have q2:=eq_of_beq h2
     try have hw_k:=(fun _=>aS (n:=v7 - 1) (by omega) (by omega)) h0
     try have hr1:=hi.2.1.at (i:=tN v7) (by have _:=h0;omega)
     try have hr2:=hi.2.1.at (i:=tN (W (v7 - 1))) (by have _:=h0;omega)
     let t3:List (St Tryz.prog):=(t2++[.d h2,.i v7 (v5.length),.L aF v5 v7 0 1,.i (W (v7 - 1)) (v5.length),.L aF v5 (W (v7 - 1)) 0 1])
     cases h3:(decide (((v5.getD (tN v7) dF):Int) < (v5.getD (tN (W (v7 - 1))) dF))) with
     | true =>
      have q3:=cJ h3
      try have hw_k:=(fun _=>aS (n:=v7 - 1) (by omega) (by omega)) h0
      try have hr1:=hi.2.1.at (i:=tN v7) (by have _:=h0;omega)
      try have hr2:=hi.2.1.at (i:=tN (W (v7 - 1))) (by have _:=h0;omega)
      have e:=Eq.refl (dG a0 a1 a2 (v5,v6,v7));conv at e=>rhs;simp only [dG,h0,h1,h2,h3,aT]
      rw [aI e]
      refine ba (t3++[.d h3,.i v7 (v5.length),.L aF v5 v7 0 1,.i (W (v7 - 1)) (v5.length),.L aF v5 (W (v7 - 1)) 0 1,.i v7 (v5.length),.p (show((0+tN v7*1)+1<=(flat c3 v5).length) from(dT aF (by first | omega | (simp only [Lt];omega)) (o:=0) (Nb rfl))),.i (W (v7 - 1)) (v5.length),.p (show((0+tN (W (v7 - 1))*1)+1<=(splice (flat c3 v5) (0+tN v7*1) [(iv (v5.getD (tN (W (v7 - 1))) dF))]).length) from(by rw [show(splice (flat c3 v5) (0+tN v7*1) [(iv (v5.getD (tN (W (v7 - 1))) dF))])=flat c3 (v5.set (tN v7) (v5.getD (tN (W (v7 - 1))) dF)) from(bB aF (by first | omega | (simp only [Lt];omega)) (o:=0) (d:=dF) (Nb rfl) rfl)];exact dT aF (by first | omega | (simp only [Lt];omega)) (o:=0) (Nb rfl)))]) [] [0,2,7,8,9] [2] hcx (m:=n) qX (qY n0) (oB a0 a1 a2 (splice (splice (flat c3 v5) (0+tN v7*1) [(iv (v5.getD (tN (W (v7 - 1))) dF))]) (0+tN (W (v7 - 1))*1) [(iv (v5.getD (tN v7) dF))]) (v5.length) v6 (W (v7 - 1))) (by kernel_rfl) ?_
      have z0:(splice (splice (flat c3 v5) (0+tN v7*1) [(iv (v5.getD (tN (W (v7 - 1))) dF))]) (0+tN (W (v7 - 1))*1) [(iv (v5.getD (tN v7) dF))])=flat c3 ((v5.set (tN v7) (v5.getD (tN (W (v7 - 1))) dF)).set (tN (W (v7 - 1))) (v5.getD (tN v7) dF)):=(by rw [show(splice (flat c3 v5) (0+tN v7*1) [(iv (v5.getD (tN (W (v7 - 1))) dF))])=flat c3 (v5.set (tN v7) (v5.getD (tN (W (v7 - 1))) dF)) from(bB aF (by first | omega | (simp only [Lt];omega)) (o:=0) (d:=dF) (Nb rfl) rfl)];exact bB aF (by first | omega | (simp only [Lt];omega)) (o:=0) (d:=dF) (Nb rfl) rfl)
      have z1:v5.length=((v5.set (tN v7) (v5.getD (tN (W (v7 - 1))) dF)).set (tN (W (v7 - 1))) (v5.getD (tN v7) dF)).length:=by simp
      rw [z0,z1]
      exact ih ((v5.set (tN v7) (v5.getD (tN (W (v7 - 1))) dF)).set (tN (W (v7 - 1))) (v5.getD (tN v7) dF)) v6 (W (v7 - 1)) (by and_intros<;>(try simp only [Lt])<;>first | omega | assumption | exact hi.2.1 | exact hi.2.2.1 | exact InR.swap hi.2.1 (by omega) (by omega) | exact InR.swap hr (by omega) (by omega)) (by omega)
     | false =>
      have q3:=cN h3
      try have hw_k:=(fun _=>aS (n:=v7 - 1) (by omega) (by omega)) h0
      try have hr1:=hi.2.1.at (i:=tN v7) (by have _:=h0;omega)
      try have hr2:=hi.2.1.at (i:=tN (W (v7 - 1))) (by have _:=h0;omega)
      have e:=Eq.refl (dG a0 a1 a2 (v5,v6,v7));conv at e=>rhs;simp only [dG,h0,h1,h2,h3,aT]
      rw [aJ,e]
      refine ba (t3++[.d h3]) [] [0,2,7,8] [2] hcx (m:=n0) lC (lD) (jX a0 a1 a2 (flat c3 v5) (v5.length) (W (v6+1))) (by kernel_rfl) ?_
      have z0:(W (v6+1))=(v6+1):=aS (by omega) (by omega)
      rw [z0]
      exact g0 v5 (v6+1) (by and_intros<;>(try simp only [Lt])<;>first | omega | assumption | exact hi.2.1 | exact hi.2.2.1 | exact InR.swap hi.2.1 (by omega) (by omega) | exact InR.swap hr (by omega) (by omega)) (by omega)
    | false =>
     have q2:=ne_of_beq_false h2
     try have hw_k:=(fun _=>aS (n:=v7 - 1) (by omega) (by omega)) h0
     try have hr1:=hi.2.1.at (i:=tN v7) (by have _:=h0;omega)
     try have hr2:=hi.2.1.at (i:=tN (W (v7 - 1))) (by have _:=h0;omega)
     have e:=Eq.refl (dG a0 a1 a2 (v5,v6,v7));conv at e=>rhs;simp only [dG,h0,h1,h2,aT]
     rw [aJ,e]
     refine ba (t2++[.d h2]) [] [0,2,7,8] [2] hcx (m:=n0) lC (lD) (jX a0 a1 a2 (flat c3 v5) (v5.length) (W (v6+1))) (by kernel_rfl) ?_
     have z0:(W (v6+1))=(v6+1):=aS (by omega) (by omega)
     rw [z0]
     exact g0 v5 (v6+1) (by and_intros<;>(try simp only [Lt])<;>first | omega | assumption | exact hi.2.1 | exact hi.2.2.1 | exact InR.swap hi.2.1 (by omega) (by omega) | exact InR.swap hr (by omega) (by omega)) (by omega)
  | false =>
   have q0:=cN h0
   try have hw_k:=(fun _=>aS (n:=v7 - 1) (by omega) (by omega)) h0
   try have hr1:=hi.2.1.at (i:=tN v7) (by have _:=h0;omega)
   try have hr2:=hi.2.1.at (i:=tN (W (v7 - 1))) (by have _:=h0;omega)
   have e:=Eq.refl (dG a0 a1 a2 (v5,v6,v7));conv at e=>rhs;simp only [dG,h0,aT]
   rw [aJ,e]
   refine ba [.d h0] [] [0,2,7,8] [2] hcx (m:=n0) lC (lD) (jX a0 a1 a2 (flat c3 v5) (v5.length) (W (v6+1))) (by kernel_rfl) ?_
   have z0:(W (v6+1))=(v6+1):=aS (by omega) (by omega)
   rw [z0]
   exact g0 v5 (v6+1) (by and_intros<;>(try simp only [Lt])<;>first | omega | assumption | exact hi.2.1 | exact hi.2.2.1 | exact InR.swap hi.2.1 (by omega) (by omega) | exact InR.swap hr (by omega) (by omega)) (by omega)
theorem aJo (a0:bO)(a1:List Int)(a2:Int)(l0:a0.length<=2^63-1)(l1:a1.length<=2^63-1)(hir:InR a0.length a1)(hl:a1.length<=1048576) {cx:Cx} (hcx:cx.base=2):∀(n:Nat) (v3:List Int) (v4:Int),(0<=v4)/\(v3.length=a1.length)/\(InR a0.length v3)/\(1<=v4)->tN ((v3.length:Int) - v4) < n->Aw.Good Tryz.prog none 9 (bodyPost Tryz.prog Tryz.f103 (RR cx (.s 2 0 (aH (eH a0 a1 a2) n (v3,v4)).length 1) [(.live true true (flat c3 (aH (eH a0 a1 a2) n (v3,v4))))] [])) cx [] (.l lC n::lD) (jX a0 a1 a2 (flat c3 v3) v3.length v4):=by
 intro n
 induction n with
 | zero=>intro v3 v4 hi hn;exact absurd hn (eI _)
 | succ n ih =>
  intro v3 v4 hi hn
  refine aR ?_
  cases h0:(decide ((v4:Int) < (v3.length:Int))) with
  | true =>
   have q0:=cJ h0
   have e:=Eq.refl (eH a0 a1 a2 (v3,v4));conv at e=>rhs;simp only [eH,h0,aT]
   rw [aJ,e]
   refine en [.d h0] [] [0,2,7,8,9] [2] hcx qX (qY n) (oB a0 a1 a2 (flat c3 v3) (v3.length) v4 v4) (tN v4+1) (by kernel_rfl) ?_
   exact aJn a0 a1 a2 l0 l1 hir hl hcx n ih (tN v4+1) v3 v4 v4 (by and_intros<;>(try simp only [Lt])<;>first | omega | assumption | exact hi.2.1 | exact hi.2.2.1 | exact InR.swap hi.2.1 (by omega) (by omega) | exact InR.swap hr (by omega) (by omega)) (by omega)
  | false =>
   have q0:=cN h0
   have e:=Eq.refl (eH a0 a1 a2 (v3,v4));conv at e=>rhs;simp only [eH,h0,aT]
   rw [aJ,e]
   exact rt [.d h0] [] [2] hcx (by kernel_rfl)
def aK (a0:bO)(a1:List Int)(a2:Int):List Int :=
 (aH (eH a0 a1 a2) (tN ((((([]:List Int)++a1).length:Nat):Int) - 1)+1) ((([]:List Int)++a1),1))
theorem aB2 (a0:bO)(a1:List Int)(a2:Int)(l0:a0.length<=2^63-1)(l1:a1.length<=2^63-1)(hir:InR a0.length a1)(hl:a1.length<=1048576):Con Tryz.prog 103 [(.s 0 0 a0.length 10),(.s 1 0 a1.length 1),(iv a2)] [(.live false true (flat dC a0)),(.live false true (flat c3 a1))] (.s 2 0 (aK a0 a1 a2).length 1) [(.live true true (flat c3 (aK a0 a1 a2)))]:=by
 refine aY Tryz.func103 (by kernel_rfl) fun cx hcx=>?_
 have e:=Eq.refl (aK a0 a1 a2);conv at e=>rhs;simp only [aK]
 rw [e]
 refine en [.p (show(([]:List SV).length=0*1/\(flat c3 a1).length=a1.length*1/\(flat c3 a1).all SV.one=true/\0+a1.length<=2 ^ 40/\(0+a1.length)*8<=2 ^ 47) from by refine⟨?_,?_,?_,?_,?_⟩<;>first | omega | exact iO (fun _=>rfl) | (simp [bW aF];done) | (simp [bW aF];omega))] [] [0,2,7,8] [3] hcx lC (lD) (jX a0 a1 a2 (([]:List SV)++(flat c3 a1)) (0+a1.length) 1) (tN ((((([]:List Int)++a1).length:Nat):Int) - 1)+1) (by kernel_rfl) ?_
 have z0:(([]:List SV)++(flat c3 a1))=flat c3 (([]:List Int)++a1):=(by simp [flat])
 have z1:(0+a1.length)=(([]:List Int)++a1).length:=by simp
 rw [z0,z1]
 exact aJo a0 a1 a2 l0 l1 hir hl hcx (tN ((((([]:List Int)++a1).length:Nat):Int) - 1)+1) (([]:List Int)++a1) 1 (by and_intros<;>(try simp only [Lt])<;>first | omega | assumption | exact hi.2.1 | exact hi.2.2.1 | exact InR.swap hi.2.1 (by omega) (by omega) | exact InR.swap hr (by omega) (by omega)) (by omega)
end Go.Proofs.YtkdfcbmcgnaicaaGreat
namespace Go.Proofs.YtkdfcbmcgnaicaaGreat
open Go.Proofs Go.Aw Go.RowKit
set_option maxRecDepth 100000
abbrev TR:=List Int×bF
abbrev gX:=bO
structure PGRW (l:gX) (t:TR) (ns:List Int) (leaf:Int):Prop where
 inr:InR l.length ns
 rng:1<=ns.length/\t.1.length+ns.length<=1048576
 nds:t.2.length+2*ns.length<=4194304
 lf:1<=leaf
theorem aRo (l:gX)(ns:List Int):gK l ns=gU l ns:=rfl
theorem aFc (l:gX)(ns:List Int):(gK l ns).length=ns.length:=by rw [aRo,zW]
def cOf (l:gX)(k:Int):rG:=((l,0,[],[]),k)
theorem aFd (l:gX)(k:Int)(x:Int):gS (l.getD (tN x) dF) k=kk (cOf l k) x:=by
 unfold kk cOf gS rX eK
 cases h0:(k == 0) with
 | true=>rfl
 | false =>
  cases h1:(k == 1) with
  | true=>rfl
  | false=>rfl
theorem aPf (l:gX)(k x y:Int):(decide (gS (l.getD (tN x) dF) k < gS (l.getD (tN y) dF) k) || ((gS (l.getD (tN x) dF) k == gS (l.getD (tN y) dF) k)&&decide (x < y)))=bK (cOf l k) x y:=by
 rw [aFd,aFd]
 cases h:bK (cOf l k) x y with
 | true=>rw [aE1] at h;simp;exact h
 | false=>rw [aLo] at h;simp;omega
section
open Go.Sort
variable {l : gX} {ns : List Int} {k : Int}
theorem aLs {n:Nat} (hn:n<=1048576)(hns:ns.length=n):∀(m:Nat) (d:Array Int) (j:Nat) (w:Int),d.size=n->j < n->j < m ->
 aH (dG l ns k) m (wp ns 0 d,w,(j:Int))=.inl (wp ns 0 (insInner (bK (cOf l k)) 0 j d),w+1)
 | 0,_,_,_,_,_,h=>absurd h (eI _)
 | m+1,d,0,w,hd,hj,hm=>by
  refine aQ ?_
  simp only [dG]
  rw [dA (by omega),cond_false];rfl
 | m+1,d,j+1,w,hd,hj,hm=>by
  have hl':0+d.size<=ns.length:=by omega
  have e1:W (((j+1:Nat):Int) - 1)=((j:Nat):Int):=wN (by omega) (by omega)
  have g1:=cW hl' (i:=j+1) (by omega)
  have g0:=cW hl' (i:=j) (by omega)
  have gs:=gP hl' (i:=j+1) (j:=j) (by omega) (by omega)
  rw [Nat.zero_add] at g1 g0
  rw [Nat.zero_add,Nat.zero_add] at gs
  rw [insInner,cH (show j+1 > 0 by omega),Bool.true_and]
  have e:dG l ns k (wp ns 0 d,w,((j+1:Nat):Int))=bif bK (cOf l k) d[j+1]! d[j]! then .inl (wp ns 0 (swp d (j+1) j),w,(j:Int)) else .inr (.inl (wp ns 0 d,w+1)):=by
   rw [←aPf]
   simp only [dG,e1,fZ]
   rw [cH (show((j+1:Nat):Int) > 0 by omega),cond_true,gs,g1,g0]
   cases decide (gS (l.getD (tN d[j+1]!) dF) k < gS (l.getD (tN d[j]!) dF) k) with
   | true=>rfl
   | false =>
    cases (gS (l.getD (tN d[j+1]!) dF) k == gS (l.getD (tN d[j]!) dF) k) with
    | false=>rfl
    | true=>cases decide (d[j+1]! < d[j]!)<;>rfl
  cases q:bK (cOf l k) d[j+1]! d[j]! with
  | true =>
   rw [q,cond_true] at e
   rw [aI e]
   exact aLs hn hns m _ j w (by rw [Go.Sort.size_swp];exact hd) (by omega) (by omega)
  | false=>rw [q,cond_false] at e;exact aQ e
theorem aLt {n:Nat} (hn:n<=1048576)(hns:ns.length=n):∀(m:Nat) (d:Array Int) (i:Nat),d.size=n->n - i < m ->
 aH (eH l ns k) m (wp ns 0 d,(i:Int))=wp ns 0 (insOuter (bK (cOf l k)) 0 n i d)
 | 0,_,_,_,h=>absurd h (eI _)
 | m+1,d,i,hd,hm=>by
  rw [insOuter]
  have hlen:(wp ns 0 d).length=n:=by rw [aBl (by omega),hns]
  by_cases h1:i < n
  ·rw [if_pos h1]
   have e:eH l ns k (wp ns 0 d,(i:Int))=aH (dG l ns k) (tN (i:Int)+1) (wp ns 0 d,(i:Int),(i:Int)):=by
    simp only [eH];rw [cH (by omega),cond_true]
   rw [aI (e.trans (aLs hn hns _ d i _ hd (by omega) (by omega)))]
   exact aLt hn hns m _ (i+1) (by rw [oT];exact hd) (by omega)
  ·rw [if_neg h1]
   refine aQ ?_
   simp only [eH];rw [dA (by omega),cond_false]
def rI (l:gX)(k:Int)(ns:List Int):List Int:=ns.mergeSort (fun x y=>!bK (cOf l k) y x)
theorem oC (l:gX)(k:Int)(ns:List Int):(rI l k ns).length=ns.length:=(List.mergeSort_perm ns _).length_eq
theorem aRp {N:Nat} (h:InR N ns):InR N (rI l k ns):=fun x hx=>h x ((List.mergeSort_perm ns _).mem_iff.1 hx)
theorem aPg {n:Nat} (h:ns.length=n) {d:Array Int} (hd:d.size=n):wp ns 0 d=d.toList:=by unfold wp;rw [Nat.zero_add,hd,←h,List.drop_length];simp
theorem aRq (c:rG):bK c=bK (cOf c.1.1 c.2):=rfl
theorem aHi {c:rG} {d d':Array Int} (h1:PermIn 0 d.size d d')(h2:SortedIn (bK c) 0 d.size d'):d'.toList=rI c.1.1 c.2 d.toList:=by
 unfold rI
 rw [←aRq]
 exact sorted_unique_holds (lt:=bK c) (mU c) (aRg c) d d' h1 h2
theorem aPh (h:ns.length<=1048576):aK l ns k=rI l k ns:=by
 unfold aK
 have hz:(ns.toArray).size=ns.length:=by simp
 have hw:wp ns 0 ns.toArray=ns:=by rw [aPg rfl hz]
 have h1:=insertionSort_holds (lt:=bK (cOf l k)) (mU _) ns.toArray 0 ns.length (Nat.zero_le _) (by rw [hz];exact Nat.le_refl _)
 have h0:=aLt (l:=l) (k:=k) h rfl (tN ((((([]:List Int)++ns).length:Nat):Int) - 1)+1) ns.toArray 1 hz (by rw [List.nil_append];omega)
 have e:insOuter (bK (cOf l k)) 0 ns.length 1 ns.toArray=insertionSort (bK (cOf l k)) ns.toArray 0 ns.length:=rfl
 rw [hw,e,aPg (n:=ns.length) (d:=insertionSort (bK (cOf l k)) ns.toArray 0 ns.length) rfl (by rw [h1.1.1];exact hz),aHi (c:=cOf l k) (by rw [hz];exact h1.1) (by rw [hz];exact h1.2)] at h0
 exact h0
theorem aUh {v:List Int} {o n:Nat} {c:rG} (hw:o+n<=v.length/\v.length<=1048576) :
 iW v o n c=v.take o++rI c.1.1 c.2 ((v.drop o).take n)++v.drop (o+n):=by
 have hz:=fP hw.1
 have hb:bitsLen n<=1048576:=Nat.le_trans ((bitsLen_le_iff n 62).2 (by omega)) (by omega)
 have h:=aO9 (l:=v) hw.1 (by omega) (tN (((n:Nat):Int) - 0)+1) ((c.1.1,c.1.2.1,(v,c.1.2.2.2)),c.2) (kL v o n) 0 n (bitsLen n) hz (Nat.zero_le _) (Nat.le_refl _) hb (by omega)
 have hs:=pdq_sorts (bK ((c.1.1,c.1.2.1,(v,c.1.2.2.2)),c.2)) (mU _) (kL v o n) 0 n (bitsLen n) true true (Nat.zero_le _) (by rw [hz];exact Nat.le_refl _) (Or.inl rfl)
 rw [nH hw.1] at h
 have e:iW v o n c=aW (tN (((n:Nat):Int) - 0)+1) v o n ((0:Nat):Int) ((n:Nat):Int) ((bitsLen n:Nat):Int) ((c.1.1,c.1.2.1,(v,c.1.2.2.2)),c.2):=by
  unfold iW sQ F94
  rw [show IntKind.wrap .u64 ((n:Nat):Int)=n by rw [IntKind.wrap_u64];omega,fZ,bitLen_eq _ (by omega)]
  rfl
 rw [e,h.1]
 unfold wp
 rw [h.2,aHi (c:=((c.1.1,c.1.2.1,(v,c.1.2.2.2)),c.2)) (d:=kL v o n) (by rw [hz];exact hs.1) (by rw [hz];exact hs.2)]
 rfl
end
theorem tL {n:Nat} (h:n<=1048576):W (Int.tdiv (W (((n:Nat):Int)+1)) 2)=(((n+1) / 2:Nat):Int):=by
 rw [wN (x:=((n:Nat):Int)+1) (n:=n+1) (by omega) (by omega),Int.tdiv_eq_ediv_of_nonneg (by omega)];exact wN (by omega) (by omega)
end Go.Proofs.YtkdfcbmcgnaicaaGreat
namespace Go.Proofs.YtkdfcbmcgnaicaaGreat
open Go.Proofs Go.Aw Go.RowKit
set_option maxRecDepth 100000
structure GRR (t r:TR) (ns:List Int):Prop where
 ol:r.1.length=t.1.length+ns.length
 lo:t.2.length < r.2.length
 hi:r.2.length<=t.2.length+2*ns.length - 1
section
variable {l : gX} {t : TR} {ns : List Int} {leaf : Int} {x : Int × Int × Int × Int × Zt × Int}
theorem tM (hp:PGRW l t ns leaf)(k:Int):(aK l ns k).length=ns.length/\InR l.length (aK l ns k):=by
 rw [aPh (by have:=hp.rng;omega)]
 exact⟨oC _ _ _,aRp hp.inr⟩
theorem kN (hp:PGRW l t ns leaf)(k:Int)(h2:2<=ns.length):PGRW l (t.1,t.2++[x]) (Aw.part (aK l ns k) 0 (W (Int.tdiv (W ((((aK l ns k).length:Nat):Int)+1)) 2))) leaf:=by
 have hs:=tM hp k
 have h:=hp.rng;have hn:=hp.nds
 rw [tL (by omega),hs.1]
 have hpt:=dN (l:=aK l ns k) (a:=0) (b:=(((ns.length+1) / 2:Nat):Int)) (by omega)
 refine⟨hs.2.part _ _,⟨by rw [hpt];omega,?_⟩,?_,hp.lf⟩
 ·rw [hpt];dsimp only;omega
 ·rw [hpt];simp only [List.length_append,List.length_cons,List.length_nil];omega
theorem oD {r:TR} (hp:PGRW l t ns leaf)(k:Int)(h2:2<=ns.length)(hr:GRR (t.1,t.2++[x]) r (Aw.part (aK l ns k) 0 (W (Int.tdiv (W ((((aK l ns k).length:Nat):Int)+1)) 2)))) :
 PGRW l (r.1,r.2) (Aw.part (aK l ns k) (W (Int.tdiv (W ((((aK l ns k).length:Nat):Int)+1)) 2)) (((aK l ns k).length:Nat):Int)) leaf:=by
 have hs:=tM hp k
 have h:=hp.rng;have hn:=hp.nds
 obtain⟨g1,g2,g3⟩:=hr
 rw [tL (by omega),hs.1] at g1 g3 ⊢
 have hpt1:=dN (l:=aK l ns k) (a:=0) (b:=(((ns.length+1) / 2:Nat):Int)) (by omega)
 have hpt2:=dN (l:=aK l ns k) (a:=(((ns.length+1) / 2:Nat):Int)) (b:=(ns.length:Int)) (by omega)
 rw [hpt1] at g1 g3
 simp only [List.length_append,List.length_cons,List.length_nil] at g1 g2 g3
 refine⟨hs.2.part _ _,⟨by rw [hpt2];omega,?_⟩,?_,hp.lf⟩
 ·rw [hpt2];dsimp only;omega
 ·rw [hpt2];dsimp only;omega
end
def fJ (a0:bO)(a1:List Int×bF)(a2:List Int)(a3:Int):=(mD (gK a0 a2) ((aO a0 a2 0),(aO a0 a2 1),(aO a0 a2 2)))
def bQ (rr:bO->(List Int×bF)->(List Int)->(Int)->List Int×bF)(a0:bO)(a1:List Int×bF)(a2:List Int)(a3:Int):=(rr a0 (a1.1,(a1.2++[((a1.1.length:Int),(W ((a1.1.length:Int)+(a2.length:Int))),(-1),(-1),((aO a0 a2 0),(aO a0 a2 1),(aO a0 a2 2)),(fJ a0 a1 a2 a3).1)])) (Aw.part (aK a0 a2 (aG a0 a2)) 0 (W (Int.tdiv (W ((((aK a0 a2 (aG a0 a2)).length:Nat):Int)+1)) 2))) a3)
def aB (rr:bO->(List Int×bF)->(List Int)->(Int)->List Int×bF)(a0:bO)(a1:List Int×bF)(a2:List Int)(a3:Int):=(rr a0 ((bQ (rr) a0 a1 a2 a3).1,(bQ (rr) a0 a1 a2 a3).2) (Aw.part (aK a0 a2 (aG a0 a2)) (W (Int.tdiv (W ((((aK a0 a2 (aG a0 a2)).length:Nat):Int)+1)) 2)) (((aK a0 a2 (aG a0 a2)).length:Nat):Int)) a3)
def aA:Nat->bO->(List Int×bF)->(List Int)->(Int)->List Int×bF
 | 0,_,_,_,_=>dF
 | nr+1,a0,a1,a2,a3 =>
 (bif (decide (((a2.length:Int):Int)<=a3)) then
  ((a1.1++a2),(a1.2++[((a1.1.length:Int),(W ((a1.1.length:Int)+(a2.length:Int))),(-1),(-1),((aO a0 a2 0),(aO a0 a2 1),(aO a0 a2 2)),(fJ a0 a1 a2 a3).1)]))
 else
  ((aB (aA nr) a0 a1 a2 a3).1,(((aB (aA nr) a0 a1 a2 a3).2.set (tN (a1.2.length:Int)) (((aB (aA nr) a0 a1 a2 a3).2.getD (tN (a1.2.length:Int)) dF).1,((aB (aA nr) a0 a1 a2 a3).2.getD (tN (a1.2.length:Int)) dF).2.1,(((a1.2.length+1):Nat):Int),((aB (aA nr) a0 a1 a2 a3).2.getD (tN (a1.2.length:Int)) dF).2.2.2.1,((aB (aA nr) a0 a1 a2 a3).2.getD (tN (a1.2.length:Int)) dF).2.2.2.2.1,((aB (aA nr) a0 a1 a2 a3).2.getD (tN (a1.2.length:Int)) dF).2.2.2.2.2)).set (tN (a1.2.length:Int)) ((((aB (aA nr) a0 a1 a2 a3).2.set (tN (a1.2.length:Int)) (((aB (aA nr) a0 a1 a2 a3).2.getD (tN (a1.2.length:Int)) dF).1,((aB (aA nr) a0 a1 a2 a3).2.getD (tN (a1.2.length:Int)) dF).2.1,(((a1.2.length+1):Nat):Int),((aB (aA nr) a0 a1 a2 a3).2.getD (tN (a1.2.length:Int)) dF).2.2.2.1,((aB (aA nr) a0 a1 a2 a3).2.getD (tN (a1.2.length:Int)) dF).2.2.2.2.1,((aB (aA nr) a0 a1 a2 a3).2.getD (tN (a1.2.length:Int)) dF).2.2.2.2.2)).getD (tN (a1.2.length:Int)) dF).1,(((aB (aA nr) a0 a1 a2 a3).2.set (tN (a1.2.length:Int)) (((aB (aA nr) a0 a1 a2 a3).2.getD (tN (a1.2.length:Int)) dF).1,((aB (aA nr) a0 a1 a2 a3).2.getD (tN (a1.2.length:Int)) dF).2.1,(((a1.2.length+1):Nat):Int),((aB (aA nr) a0 a1 a2 a3).2.getD (tN (a1.2.length:Int)) dF).2.2.2.1,((aB (aA nr) a0 a1 a2 a3).2.getD (tN (a1.2.length:Int)) dF).2.2.2.2.1,((aB (aA nr) a0 a1 a2 a3).2.getD (tN (a1.2.length:Int)) dF).2.2.2.2.2)).getD (tN (a1.2.length:Int)) dF).2.1,(((aB (aA nr) a0 a1 a2 a3).2.set (tN (a1.2.length:Int)) (((aB (aA nr) a0 a1 a2 a3).2.getD (tN (a1.2.length:Int)) dF).1,((aB (aA nr) a0 a1 a2 a3).2.getD (tN (a1.2.length:Int)) dF).2.1,(((a1.2.length+1):Nat):Int),((aB (aA nr) a0 a1 a2 a3).2.getD (tN (a1.2.length:Int)) dF).2.2.2.1,((aB (aA nr) a0 a1 a2 a3).2.getD (tN (a1.2.length:Int)) dF).2.2.2.2.1,((aB (aA nr) a0 a1 a2 a3).2.getD (tN (a1.2.length:Int)) dF).2.2.2.2.2)).getD (tN (a1.2.length:Int)) dF).2.2.1,(((bQ (aA nr) a0 a1 a2 a3).2.length:Nat):Int),(((aB (aA nr) a0 a1 a2 a3).2.set (tN (a1.2.length:Int)) (((aB (aA nr) a0 a1 a2 a3).2.getD (tN (a1.2.length:Int)) dF).1,((aB (aA nr) a0 a1 a2 a3).2.getD (tN (a1.2.length:Int)) dF).2.1,(((a1.2.length+1):Nat):Int),((aB (aA nr) a0 a1 a2 a3).2.getD (tN (a1.2.length:Int)) dF).2.2.2.1,((aB (aA nr) a0 a1 a2 a3).2.getD (tN (a1.2.length:Int)) dF).2.2.2.2.1,((aB (aA nr) a0 a1 a2 a3).2.getD (tN (a1.2.length:Int)) dF).2.2.2.2.2)).getD (tN (a1.2.length:Int)) dF).2.2.2.2.1,(((aB (aA nr) a0 a1 a2 a3).2.set (tN (a1.2.length:Int)) (((aB (aA nr) a0 a1 a2 a3).2.getD (tN (a1.2.length:Int)) dF).1,((aB (aA nr) a0 a1 a2 a3).2.getD (tN (a1.2.length:Int)) dF).2.1,(((a1.2.length+1):Nat):Int),((aB (aA nr) a0 a1 a2 a3).2.getD (tN (a1.2.length:Int)) dF).2.2.2.1,((aB (aA nr) a0 a1 a2 a3).2.getD (tN (a1.2.length:Int)) dF).2.2.2.2.1,((aB (aA nr) a0 a1 a2 a3).2.getD (tN (a1.2.length:Int)) dF).2.2.2.2.2)).getD (tN (a1.2.length:Int)) dF).2.2.2.2.2))))
def fM (a0:bO)(a1:List Int×bF)(a2:List Int)(a3:Int):List Int×bF:=aA (a2.length+1) a0 a1 a2 a3
theorem kO:∀(nr:Nat) (l:gX) (t:TR) (ns:List Int) (leaf:Int),PGRW l t ns leaf->ns.length < nr->GRR t (aA nr l t ns leaf) ns
 | 0,_,_,_,_,_,h=>absurd h (eI _)
 | nr+1,l,t,ns,leaf,hp,hn=>by
  have h:=hp.rng;have hl:=hp.lf
  simp only [aA]
  by_cases h0:(ns.length:Int)<=leaf
  ·rw [cH h0,cond_true]
   exact⟨by simp,by simp,by simp;omega⟩
  ·rw [dA h0,cond_false]
   have h2:2<=ns.length:=by omega
   have hs:=tM hp (aG l ns)
   have hf:=tL (n:=ns.length) (by omega)
   have hpt1:=dN (l:=aK l ns (aG l ns)) (a:=0) (b:=(((ns.length+1) / 2:Nat):Int)) (by omega)
   have hpt2:=dN (l:=aK l ns (aG l ns)) (a:=(((ns.length+1) / 2:Nat):Int)) (b:=(ns.length:Int)) (by omega)
   have h5:GRR _ (bQ (aA nr) l t ns leaf) _:=kO nr _ _ _ _ (kN hp _ h2) (by rw [hs.1,hf,hpt1];omega)
   have h6:GRR _ (aB (aA nr) l t ns leaf) _:=kO nr _ _ _ _ (oD hp _ h2 h5) (by rw [hs.1,hf,hpt2];omega)
   obtain⟨g1,g2,g3⟩:=h5
   obtain⟨f1,f2,f3⟩:=h6
   rw [hs.1,hf,hpt1] at g1 g3
   rw [hs.1,hf,hpt2] at f1 f3
   dsimp only at g1 g2 g3 f1 f2 f3
   simp only [List.length_append,List.length_cons,List.length_nil] at g1 g2 g3
   exact⟨by dsimp only;omega,by simp only [List.length_set];omega,by simp only [List.length_set];omega⟩
theorem aFe:∀(nr:Nat) (a0:bO) (a1:List Int×bF) (a2:List Int) (a3:Int) (l0:a0.length<=2^63-1) (l1_1:a1.1.length<=2^63-1) (l1_2:a1.2.length<=2^63-1) (l2:a2.length<=2^63-1) (hp:PGRW a0 a1 a2 a3),a2.length < nr->Con Tryz.prog 81 [(.s 0 0 a0.length 10),(.a [(.s 1 0 a1.1.length 1),(.s 2 0 a1.2.length 8)]),(.s 3 0 a2.length 1),(iv a3)] [(.live false true (flat dC a0)),(.live true true (flat c3 a1.1)),(.live true true (flat cB a1.2)),(.live false true (flat c3 a2))] (.a [(.s 4 0 (aA nr a0 a1 a2 a3).1.length 1),(.s 5 0 (aA nr a0 a1 a2 a3).2.length 8)]) [(.live true true (flat c3 (aA nr a0 a1 a2 a3).1)),(.live true true (flat cB (aA nr a0 a1 a2 a3).2))] [.un,.dead,.dead,.un]:=by
 intro nr
 induction nr with
 | zero=>intro a0 a1 a2 a3 l0 l1_1 l1_2 l2 hp hlt;exact absurd hlt (eI _)
 | succ nr ihr =>
 intro a0 a1 a2 a3 l0 l1_1 l1_2 l2 hp hlt
 refine aY Tryz.func81 (by kernel_rfl) fun cx hcx=>?_
 have hpr:=hp.rng
 have hpn:=hp.nds
 try dsimp only at hpr hpn
 try simp only [List.length_nil,Nat.zero_add] at hpr hpn
 have hpl:=hp.lf
 have hpk:=aFc a0 a2
 have hso:=tM hp (aG a0 a2)
 obtain⟨hso1,hso2⟩:=hso
 have hhf:(W (Int.tdiv (W ((((aK a0 a2 (aG a0 a2)).length:Nat):Int)+1)) 2))=(((a2.length+1) / 2:Nat):Int):=by rw [hso1];exact tL (by omega)
 have hpt1:(Aw.part (aK a0 a2 (aG a0 a2)) 0 (W (Int.tdiv (W ((((aK a0 a2 (aG a0 a2)).length:Nat):Int)+1)) 2))).length=(a2.length+1) / 2:=by rw [dN (by omega)];omega
 have hpt2:(Aw.part (aK a0 a2 (aG a0 a2)) (W (Int.tdiv (W ((((aK a0 a2 (aG a0 a2)).length:Nat):Int)+1)) 2)) (((aK a0 a2 (aG a0 a2)).length:Nat):Int)).length=a2.length - (a2.length+1) / 2:=by rw [dN (by omega)];omega
 try (have _:=h0;simp only [List.length_append,List.length_cons,List.length_nil] at g1 g2 g3 f1 f2 f3)
 let t0:List (St Tryz.prog):=[.c [0,3] (kM a0 a2 0 (by omega) (by omega) hp.inr (by omega)),.c [0,3] (kM a0 a2 1 (by omega) (by omega) hp.inr (by omega)),.c [0,3] (kM a0 a2 2 (by omega) (by omega) hp.inr (by omega)),.c [0,3] (aBy a0 a2 (by omega) (by omega) hp.inr (by omega)),.c [7] (aJm (gK a0 a2) ((aO a0 a2 0),(aO a0 a2 1),(aO a0 a2 2)) (by omega)),.p (show((flat cB a1.2).length=a1.2.length*8/\a1.2.length+1<=2 ^ 40/\(a1.2.length+1)*64<=2 ^ 47) from kG bU (by omega) (by omega))]
 cases h0:(decide (((a2.length:Int):Int)<=a3)) with
 | true =>
  have q0:=cJ h0
  try (have _:=h0;simp only [List.length_append,List.length_cons,List.length_nil] at g1 g2 g3 f1 f2 f3)
  have e:=Eq.refl (aA (nr+1) a0 a1 a2 a3);conv at e=>rhs;simp only [aA,h0,aT]
  rw [e]
  try dsimp only [bA]
  try dsimp only
  rw [show flat c3 (a1.1++a2)=((flat c3 a1.1)++(flat c3 a2)) from Eq.symm (by simp [flat])]
  try rw [show List.length (α:=Int) (a1.1++a2)=(a1.1.length+a2.length) from by first | simp;done | omega]
  rw [show flat cB (a1.2++[((a1.1.length:Int),(W ((a1.1.length:Int)+(a2.length:Int))),(-1),(-1),((aO a0 a2 0),(aO a0 a2 1),(aO a0 a2 2)),(fJ a0 a1 a2 a3).1)])=(flat cB a1.2++[(iv (a1.1.length:Int)),(iv (W ((a1.1.length:Int)+(a2.length:Int)))),(iv (-1)),(iv (-1)),(iv (aO a0 a2 0)),(iv (aO a0 a2 1)),(iv (aO a0 a2 2)),(iv (fJ a0 a1 a2 a3).1)]) from cM]
  try rw [show List.length (α:=Int×Int×Int×Int×Zt×Int) (a1.2++[((a1.1.length:Int),(W ((a1.1.length:Int)+(a2.length:Int))),(-1),(-1),((aO a0 a2 0),(aO a0 a2 1),(aO a0 a2 2)),(fJ a0 a1 a2 a3).1)])=(a1.2.length+1) from by first | simp;done | omega]
  exact wW (t0++[.d h0,.p (show((flat c3 a1.1).length=a1.1.length*1/\(flat c3 a2).length=a2.length*1/\(flat c3 a2).all SV.one=true/\a1.1.length+a2.length<=2 ^ 40/\(a1.1.length+a2.length)*8<=2 ^ 47) from by refine⟨?_,?_,?_,?_,?_⟩<;>first | omega | exact iO (fun _=>rfl) | (simp [bW aF];done) | (simp [bW aF];omega))]) [] [1,2] [10,9] hcx (by kernel_rfl)
 | false =>
  have q0:=cN h0
  try have h2:2<=a2.length:=(fun _=>by omega) h0
  try have h5:GRR _ (bQ (aA nr) a0 a1 a2 a3) _:=(fun _=>kO nr _ _ _ _ (kN hp _ h2) (by omega)) h0
  try have h6:GRR _ (aB (aA nr) a0 a1 a2 a3) _:=(fun _=>kO nr _ _ _ _ (oD hp _ h2 h5) (by omega)) h0
  try have g1:=(fun _=>h5.ol) h0
  try have g2:=(fun _=>h5.lo) h0
  try have g3:=(fun _=>h5.hi) h0
  try have f1:=(fun _=>h6.ol) h0
  try have f2:=(fun _=>h6.lo) h0
  try have f3:=(fun _=>h6.hi) h0
  try (have _:=h0;simp only [List.length_append,List.length_cons,List.length_nil] at g1 g2 g3 f1 f2 f3)
  have e:=Eq.refl (aA (nr+1) a0 a1 a2 a3);conv at e=>rhs;simp only [aA,h0,aT]
  rw [e]
  try dsimp only [bA]
  try dsimp only
  rw [show flat cB (((aB (aA nr) a0 a1 a2 a3).2.set (tN (a1.2.length:Int)) (((aB (aA nr) a0 a1 a2 a3).2.getD (tN (a1.2.length:Int)) dF).1,((aB (aA nr) a0 a1 a2 a3).2.getD (tN (a1.2.length:Int)) dF).2.1,(((a1.2.length+1):Nat):Int),((aB (aA nr) a0 a1 a2 a3).2.getD (tN (a1.2.length:Int)) dF).2.2.2.1,((aB (aA nr) a0 a1 a2 a3).2.getD (tN (a1.2.length:Int)) dF).2.2.2.2.1,((aB (aA nr) a0 a1 a2 a3).2.getD (tN (a1.2.length:Int)) dF).2.2.2.2.2)).set (tN (a1.2.length:Int)) ((((aB (aA nr) a0 a1 a2 a3).2.set (tN (a1.2.length:Int)) (((aB (aA nr) a0 a1 a2 a3).2.getD (tN (a1.2.length:Int)) dF).1,((aB (aA nr) a0 a1 a2 a3).2.getD (tN (a1.2.length:Int)) dF).2.1,(((a1.2.length+1):Nat):Int),((aB (aA nr) a0 a1 a2 a3).2.getD (tN (a1.2.length:Int)) dF).2.2.2.1,((aB (aA nr) a0 a1 a2 a3).2.getD (tN (a1.2.length:Int)) dF).2.2.2.2.1,((aB (aA nr) a0 a1 a2 a3).2.getD (tN (a1.2.length:Int)) dF).2.2.2.2.2)).getD (tN (a1.2.length:Int)) dF).1,(((aB (aA nr) a0 a1 a2 a3).2.set (tN (a1.2.length:Int)) (((aB (aA nr) a0 a1 a2 a3).2.getD (tN (a1.2.length:Int)) dF).1,((aB (aA nr) a0 a1 a2 a3).2.getD (tN (a1.2.length:Int)) dF).2.1,(((a1.2.length+1):Nat):Int),((aB (aA nr) a0 a1 a2 a3).2.getD (tN (a1.2.length:Int)) dF).2.2.2.1,((aB (aA nr) a0 a1 a2 a3).2.getD (tN (a1.2.length:Int)) dF).2.2.2.2.1,((aB (aA nr) a0 a1 a2 a3).2.getD (tN (a1.2.length:Int)) dF).2.2.2.2.2)).getD (tN (a1.2.length:Int)) dF).2.1,(((aB (aA nr) a0 a1 a2 a3).2.set (tN (a1.2.length:Int)) (((aB (aA nr) a0 a1 a2 a3).2.getD (tN (a1.2.length:Int)) dF).1,((aB (aA nr) a0 a1 a2 a3).2.getD (tN (a1.2.length:Int)) dF).2.1,(((a1.2.length+1):Nat):Int),((aB (aA nr) a0 a1 a2 a3).2.getD (tN (a1.2.length:Int)) dF).2.2.2.1,((aB (aA nr) a0 a1 a2 a3).2.getD (tN (a1.2.length:Int)) dF).2.2.2.2.1,((aB (aA nr) a0 a1 a2 a3).2.getD (tN (a1.2.length:Int)) dF).2.2.2.2.2)).getD (tN (a1.2.length:Int)) dF).2.2.1,(((bQ (aA nr) a0 a1 a2 a3).2.length:Nat):Int),(((aB (aA nr) a0 a1 a2 a3).2.set (tN (a1.2.length:Int)) (((aB (aA nr) a0 a1 a2 a3).2.getD (tN (a1.2.length:Int)) dF).1,((aB (aA nr) a0 a1 a2 a3).2.getD (tN (a1.2.length:Int)) dF).2.1,(((a1.2.length+1):Nat):Int),((aB (aA nr) a0 a1 a2 a3).2.getD (tN (a1.2.length:Int)) dF).2.2.2.1,((aB (aA nr) a0 a1 a2 a3).2.getD (tN (a1.2.length:Int)) dF).2.2.2.2.1,((aB (aA nr) a0 a1 a2 a3).2.getD (tN (a1.2.length:Int)) dF).2.2.2.2.2)).getD (tN (a1.2.length:Int)) dF).2.2.2.2.1,(((aB (aA nr) a0 a1 a2 a3).2.set (tN (a1.2.length:Int)) (((aB (aA nr) a0 a1 a2 a3).2.getD (tN (a1.2.length:Int)) dF).1,((aB (aA nr) a0 a1 a2 a3).2.getD (tN (a1.2.length:Int)) dF).2.1,(((a1.2.length+1):Nat):Int),((aB (aA nr) a0 a1 a2 a3).2.getD (tN (a1.2.length:Int)) dF).2.2.2.1,((aB (aA nr) a0 a1 a2 a3).2.getD (tN (a1.2.length:Int)) dF).2.2.2.2.1,((aB (aA nr) a0 a1 a2 a3).2.getD (tN (a1.2.length:Int)) dF).2.2.2.2.2)).getD (tN (a1.2.length:Int)) dF).2.2.2.2.2))=(splice (splice (flat cB (aB (aA nr) a0 a1 a2 a3).2) (0+tN (a1.2.length:Int)*8+2) [(iv (((a1.2.length+1):Nat):Int))]) (0+tN (a1.2.length:Int)*8+3) [(iv (((bQ (aA nr) a0 a1 a2 a3).2.length:Nat):Int))]) from Eq.symm (by rw [show(splice (flat cB (aB (aA nr) a0 a1 a2 a3).2) (0+tN (a1.2.length:Int)*8+2) [(iv (((a1.2.length+1):Nat):Int))])=flat cB ((aB (aA nr) a0 a1 a2 a3).2.set (tN (a1.2.length:Int)) (((aB (aA nr) a0 a1 a2 a3).2.getD (tN (a1.2.length:Int)) dF).1,((aB (aA nr) a0 a1 a2 a3).2.getD (tN (a1.2.length:Int)) dF).2.1,(((a1.2.length+1):Nat):Int),((aB (aA nr) a0 a1 a2 a3).2.getD (tN (a1.2.length:Int)) dF).2.2.2.1,((aB (aA nr) a0 a1 a2 a3).2.getD (tN (a1.2.length:Int)) dF).2.2.2.2.1,((aB (aA nr) a0 a1 a2 a3).2.getD (tN (a1.2.length:Int)) dF).2.2.2.2.2)) from(bB bU (by first | omega | (simp only [Lt];omega)) (o:=2) (d:=dF) (Nb rfl) rfl)];exact bB bU (by first | omega | (simp only [Lt];omega)) (o:=3) (d:=dF) (Nb rfl) rfl)]
  try rw [show List.length (α:=Int×Int×Int×Int×Zt×Int) (((aB (aA nr) a0 a1 a2 a3).2.set (tN (a1.2.length:Int)) (((aB (aA nr) a0 a1 a2 a3).2.getD (tN (a1.2.length:Int)) dF).1,((aB (aA nr) a0 a1 a2 a3).2.getD (tN (a1.2.length:Int)) dF).2.1,(((a1.2.length+1):Nat):Int),((aB (aA nr) a0 a1 a2 a3).2.getD (tN (a1.2.length:Int)) dF).2.2.2.1,((aB (aA nr) a0 a1 a2 a3).2.getD (tN (a1.2.length:Int)) dF).2.2.2.2.1,((aB (aA nr) a0 a1 a2 a3).2.getD (tN (a1.2.length:Int)) dF).2.2.2.2.2)).set (tN (a1.2.length:Int)) ((((aB (aA nr) a0 a1 a2 a3).2.set (tN (a1.2.length:Int)) (((aB (aA nr) a0 a1 a2 a3).2.getD (tN (a1.2.length:Int)) dF).1,((aB (aA nr) a0 a1 a2 a3).2.getD (tN (a1.2.length:Int)) dF).2.1,(((a1.2.length+1):Nat):Int),((aB (aA nr) a0 a1 a2 a3).2.getD (tN (a1.2.length:Int)) dF).2.2.2.1,((aB (aA nr) a0 a1 a2 a3).2.getD (tN (a1.2.length:Int)) dF).2.2.2.2.1,((aB (aA nr) a0 a1 a2 a3).2.getD (tN (a1.2.length:Int)) dF).2.2.2.2.2)).getD (tN (a1.2.length:Int)) dF).1,(((aB (aA nr) a0 a1 a2 a3).2.set (tN (a1.2.length:Int)) (((aB (aA nr) a0 a1 a2 a3).2.getD (tN (a1.2.length:Int)) dF).1,((aB (aA nr) a0 a1 a2 a3).2.getD (tN (a1.2.length:Int)) dF).2.1,(((a1.2.length+1):Nat):Int),((aB (aA nr) a0 a1 a2 a3).2.getD (tN (a1.2.length:Int)) dF).2.2.2.1,((aB (aA nr) a0 a1 a2 a3).2.getD (tN (a1.2.length:Int)) dF).2.2.2.2.1,((aB (aA nr) a0 a1 a2 a3).2.getD (tN (a1.2.length:Int)) dF).2.2.2.2.2)).getD (tN (a1.2.length:Int)) dF).2.1,(((aB (aA nr) a0 a1 a2 a3).2.set (tN (a1.2.length:Int)) (((aB (aA nr) a0 a1 a2 a3).2.getD (tN (a1.2.length:Int)) dF).1,((aB (aA nr) a0 a1 a2 a3).2.getD (tN (a1.2.length:Int)) dF).2.1,(((a1.2.length+1):Nat):Int),((aB (aA nr) a0 a1 a2 a3).2.getD (tN (a1.2.length:Int)) dF).2.2.2.1,((aB (aA nr) a0 a1 a2 a3).2.getD (tN (a1.2.length:Int)) dF).2.2.2.2.1,((aB (aA nr) a0 a1 a2 a3).2.getD (tN (a1.2.length:Int)) dF).2.2.2.2.2)).getD (tN (a1.2.length:Int)) dF).2.2.1,(((bQ (aA nr) a0 a1 a2 a3).2.length:Nat):Int),(((aB (aA nr) a0 a1 a2 a3).2.set (tN (a1.2.length:Int)) (((aB (aA nr) a0 a1 a2 a3).2.getD (tN (a1.2.length:Int)) dF).1,((aB (aA nr) a0 a1 a2 a3).2.getD (tN (a1.2.length:Int)) dF).2.1,(((a1.2.length+1):Nat):Int),((aB (aA nr) a0 a1 a2 a3).2.getD (tN (a1.2.length:Int)) dF).2.2.2.1,((aB (aA nr) a0 a1 a2 a3).2.getD (tN (a1.2.length:Int)) dF).2.2.2.2.1,((aB (aA nr) a0 a1 a2 a3).2.getD (tN (a1.2.length:Int)) dF).2.2.2.2.2)).getD (tN (a1.2.length:Int)) dF).2.2.2.2.1,(((aB (aA nr) a0 a1 a2 a3).2.set (tN (a1.2.length:Int)) (((aB (aA nr) a0 a1 a2 a3).2.getD (tN (a1.2.length:Int)) dF).1,((aB (aA nr) a0 a1 a2 a3).2.getD (tN (a1.2.length:Int)) dF).2.1,(((a1.2.length+1):Nat):Int),((aB (aA nr) a0 a1 a2 a3).2.getD (tN (a1.2.length:Int)) dF).2.2.2.1,((aB (aA nr) a0 a1 a2 a3).2.getD (tN (a1.2.length:Int)) dF).2.2.2.2.1,((aB (aA nr) a0 a1 a2 a3).2.getD (tN (a1.2.length:Int)) dF).2.2.2.2.2)).getD (tN (a1.2.length:Int)) dF).2.2.2.2.2))=(aB (aA nr) a0 a1 a2 a3).2.length from by first | simp;done | omega]
  exact wW (t0++[.d h0,.c [0,3] (aBz a0 a2 (by omega) (by omega) hp.inr (by omega)),.c [0,3] (aB2 a0 a2 (aG a0 a2) (by omega) (by omega) hp.inr (by omega)),.p (show(2:Int)≠0 from by decide),.S aF (aK a0 a2 (aG a0 a2)) 0 (W (Int.tdiv (W ((((aK a0 a2 (aG a0 a2)).length:Nat):Int)+1)) 2)) ((aK a0 a2 (aG a0 a2)).length),.c [0,1,9,11] (by have q:=(ihr a0 (a1.1,(a1.2++[((a1.1.length:Int),(W ((a1.1.length:Int)+(a2.length:Int))),(-1),(-1),((aO a0 a2 0),(aO a0 a2 1),(aO a0 a2 2)),(fJ a0 a1 a2 a3).1)])) (Aw.part (aK a0 a2 (aG a0 a2)) 0 (W (Int.tdiv (W ((((aK a0 a2 (aG a0 a2)).length:Nat):Int)+1)) 2))) a3 (by omega) (by omega) (by(try simp only [Lt]);omega) (by omega) (by first | exact kN hp _ h2 | exact oD hp _ h2 h5) (by omega));(try dsimp only at q);rw [show flat cB (a1.2++[((a1.1.length:Int),(W ((a1.1.length:Int)+(a2.length:Int))),(-1),(-1),((aO a0 a2 0),(aO a0 a2 1),(aO a0 a2 2)),(fJ a0 a1 a2 a3).1)])=(flat cB a1.2++[(iv (a1.1.length:Int)),(iv (W ((a1.1.length:Int)+(a2.length:Int)))),(iv (-1)),(iv (-1)),(iv (aO a0 a2 0)),(iv (aO a0 a2 1)),(iv (aO a0 a2 2)),(iv (fJ a0 a1 a2 a3).1)]) from cM] at q;(try rw [show List.length (α:=Int×Int×Int×Int×Zt×Int) (a1.2++[((a1.1.length:Int),(W ((a1.1.length:Int)+(a2.length:Int))),(-1),(-1),((aO a0 a2 0),(aO a0 a2 1),(aO a0 a2 2)),(fJ a0 a1 a2 a3).1)])=(a1.2.length+1) from by first | simp;done | omega] at q);(try rw [show List.length (α:=Int) (Aw.part (aK a0 a2 (aG a0 a2)) 0 (W (Int.tdiv (W ((((aK a0 a2 (aG a0 a2)).length:Nat):Int)+1)) 2)))=(tN (W (Int.tdiv (W ((((aK a0 a2 (aG a0 a2)).length:Nat):Int)+1)) 2)) - tN 0) from by first | simp;done | omega] at q);exact q),.S aF (aK a0 a2 (aG a0 a2)) (W (Int.tdiv (W ((((aK a0 a2 (aG a0 a2)).length:Nat):Int)+1)) 2)) (((aK a0 a2 (aG a0 a2)).length:Nat):Int) ((aK a0 a2 (aG a0 a2)).length),.c [0,12,13,14] (by have q:=(ihr a0 ((bQ (aA nr) a0 a1 a2 a3).1,(bQ (aA nr) a0 a1 a2 a3).2) (Aw.part (aK a0 a2 (aG a0 a2)) (W (Int.tdiv (W ((((aK a0 a2 (aG a0 a2)).length:Nat):Int)+1)) 2)) (((aK a0 a2 (aG a0 a2)).length:Nat):Int)) a3 (by omega) (by(try simp only [Lt]);omega) (by(try simp only [Lt]);omega) (by omega) (by first | exact kN hp _ h2 | exact oD hp _ h2 h5) (by omega));(try dsimp only at q);(try rw [show List.length (α:=Int) (Aw.part (aK a0 a2 (aG a0 a2)) (W (Int.tdiv (W ((((aK a0 a2 (aG a0 a2)).length:Nat):Int)+1)) 2)) (((aK a0 a2 (aG a0 a2)).length:Nat):Int))=(tN (((aK a0 a2 (aG a0 a2)).length:Nat):Int) - tN (W (Int.tdiv (W ((((aK a0 a2 (aG a0 a2)).length:Nat):Int)+1)) 2))) from by first | simp;done | omega] at q);exact q),.i (a1.2.length:Int) ((aB (aA nr) a0 a1 a2 a3).2.length),.p (show((0+tN (a1.2.length:Int)*8+2)+1<=(flat cB (aB (aA nr) a0 a1 a2 a3).2).length) from(dT bU (by first | omega | (simp only [Lt];omega)) (o:=2) (Nb rfl))),.i (a1.2.length:Int) ((aB (aA nr) a0 a1 a2 a3).2.length),.p (show((0+tN (a1.2.length:Int)*8+3)+1<=(splice (flat cB (aB (aA nr) a0 a1 a2 a3).2) (0+tN (a1.2.length:Int)*8+2) [(iv (((a1.2.length+1):Nat):Int))]).length) from(by rw [show(splice (flat cB (aB (aA nr) a0 a1 a2 a3).2) (0+tN (a1.2.length:Int)*8+2) [(iv (((a1.2.length+1):Nat):Int))])=flat cB ((aB (aA nr) a0 a1 a2 a3).2.set (tN (a1.2.length:Int)) (((aB (aA nr) a0 a1 a2 a3).2.getD (tN (a1.2.length:Int)) dF).1,((aB (aA nr) a0 a1 a2 a3).2.getD (tN (a1.2.length:Int)) dF).2.1,(((a1.2.length+1):Nat):Int),((aB (aA nr) a0 a1 a2 a3).2.getD (tN (a1.2.length:Int)) dF).2.2.2.1,((aB (aA nr) a0 a1 a2 a3).2.getD (tN (a1.2.length:Int)) dF).2.2.2.2.1,((aB (aA nr) a0 a1 a2 a3).2.getD (tN (a1.2.length:Int)) dF).2.2.2.2.2)) from(bB bU (by first | omega | (simp only [Lt];omega)) (o:=2) (d:=dF) (Nb rfl) rfl)];exact dT bU (by first | omega | (simp only [Lt];omega)) (o:=3) (Nb rfl)))]) [] [1,2] [15,16] hcx (by kernel_rfl)
theorem zF (a0:bO)(a1:List Int×bF)(a2:List Int)(a3:Int)(l0:a0.length<=2^63-1)(l1_1:a1.1.length<=2^63-1)(l1_2:a1.2.length<=2^63-1)(l2:a2.length<=2^63-1)(hp:PGRW a0 a1 a2 a3):Con Tryz.prog 81 [(.s 0 0 a0.length 10),(.a [(.s 1 0 a1.1.length 1),(.s 2 0 a1.2.length 8)]),(.s 3 0 a2.length 1),(iv a3)] [(.live false true (flat dC a0)),(.live true true (flat c3 a1.1)),(.live true true (flat cB a1.2)),(.live false true (flat c3 a2))] (.a [(.s 4 0 (fM a0 a1 a2 a3).1.length 1),(.s 5 0 (fM a0 a1 a2 a3).2.length 8)]) [(.live true true (flat c3 (fM a0 a1 a2 a3).1)),(.live true true (flat cB (fM a0 a1 a2 a3).2))] [.un,.dead,.dead,.un]:=aFe (a2.length+1) a0 a1 a2 a3 l0 l1_1 l1_2 l2 hp (lss _)
end Go.Proofs.YtkdfcbmcgnaicaaGreat
namespace Go.Proofs.YtkdfcbmcgnaicaaGreat
open Go.Proofs Go.Aw Go.RowKit
set_option maxRecDepth 100000
theorem sG:∀(n1 n2:Nat) (l:gX) (t:TR) (ns:List Int) (leaf:Int),PGRW l t ns leaf->ns.length < n1->ns.length < n2->aA n1 l t ns leaf=aA n2 l t ns leaf
 | 0,_,_,_,_,_,_,h,_=>absurd h (eI _)
 | _+1,0,_,_,_,_,_,_,h=>absurd h (eI _)
 | n1+1,n2+1,l,t,ns,leaf,hp,h1,h2=>by
  have h:=hp.rng;have hl:=hp.lf
  simp only [aA]
  by_cases h0:(ns.length:Int)<=leaf
  ·rw [cH h0];rfl
  ·rw [dA h0,cond_false,cond_false]
   have g2:2<=ns.length:=by omega
   have hs:=tM hp (aG l ns)
   have hf:=tL (n:=ns.length) (by omega)
   have hpt1:=dN (l:=aK l ns (aG l ns)) (a:=0) (b:=(((ns.length+1) / 2:Nat):Int)) (by omega)
   have hpt2:=dN (l:=aK l ns (aG l ns)) (a:=(((ns.length+1) / 2:Nat):Int)) (b:=(ns.length:Int)) (by omega)
   have h5:GRR _ (bQ (aA n1) l t ns leaf) _:=kO n1 _ _ _ _ (kN hp _ g2) (by rw [hs.1,hf,hpt1];omega)
   have e2:bQ (aA n1) l t ns leaf=bQ (aA n2) l t ns leaf:=sG n1 n2 _ _ _ _ (kN hp _ g2) (by rw [hs.1,hf,hpt1];omega) (by rw [hs.1,hf,hpt1];omega)
   have e3:aB (aA n1) l t ns leaf=aB (aA n2) l t ns leaf:=by
    have:=sG n1 n2 _ _ _ _ (oD hp _ g2 h5) (by rw [hs.1,hf,hpt2];omega) (by rw [hs.1,hf,hpt2];omega)
    unfold aB
    rw [←e2]
    exact this
   rw [e3,e2]
def fK (a0:bO)(a1:List Int×bF)(a2:List Int)(a3:Int):=(mD (gK a0 a2) ((aO a0 a2 0),(aO a0 a2 1),(aO a0 a2 2)))
def eO (rr:bO->(List Int×bF)->(List Int)->(Int)->List Int×bF)(a0:bO)(a1:List Int×bF)(a2:List Int)(a3:Int):=(rr a0 (([]:List Int),(a1.2++[(0,(W (0+(a2.length:Int))),(-1),(-1),((aO a0 a2 0),(aO a0 a2 1),(aO a0 a2 2)),(fK a0 a1 a2 a3).1)])) (Aw.part (aK a0 a2 (aG a0 a2)) 0 (W (Int.tdiv (W ((((aK a0 a2 (aG a0 a2)).length:Nat):Int)+1)) 2))) a3)
def aC (rr:bO->(List Int×bF)->(List Int)->(Int)->List Int×bF)(a0:bO)(a1:List Int×bF)(a2:List Int)(a3:Int):=(fM a0 ((eO (rr) a0 a1 a2 a3).1,(eO (rr) a0 a1 a2 a3).2) (Aw.part (aK a0 a2 (aG a0 a2)) (W (Int.tdiv (W ((((aK a0 a2 (aG a0 a2)).length:Nat):Int)+1)) 2)) (((aK a0 a2 (aG a0 a2)).length:Nat):Int)) a3)
def aE:Nat->bO->(List Int×bF)->(List Int)->(Int)->List Int×bF
 | 0,_,_,_,_=>dF
 | nr+1,a0,a1,a2,a3 =>
 (bif (decide (((a2.length:Int):Int)<=a3)) then
  (a2,(a1.2++[(0,(W (0+(a2.length:Int))),(-1),(-1),((aO a0 a2 0),(aO a0 a2 1),(aO a0 a2 2)),(fK a0 a1 a2 a3).1)]))
 else
  ((aC (aE nr) a0 a1 a2 a3).1,(((aC (aE nr) a0 a1 a2 a3).2.set (tN (a1.2.length:Int)) (((aC (aE nr) a0 a1 a2 a3).2.getD (tN (a1.2.length:Int)) dF).1,((aC (aE nr) a0 a1 a2 a3).2.getD (tN (a1.2.length:Int)) dF).2.1,(((a1.2.length+1):Nat):Int),((aC (aE nr) a0 a1 a2 a3).2.getD (tN (a1.2.length:Int)) dF).2.2.2.1,((aC (aE nr) a0 a1 a2 a3).2.getD (tN (a1.2.length:Int)) dF).2.2.2.2.1,((aC (aE nr) a0 a1 a2 a3).2.getD (tN (a1.2.length:Int)) dF).2.2.2.2.2)).set (tN (a1.2.length:Int)) ((((aC (aE nr) a0 a1 a2 a3).2.set (tN (a1.2.length:Int)) (((aC (aE nr) a0 a1 a2 a3).2.getD (tN (a1.2.length:Int)) dF).1,((aC (aE nr) a0 a1 a2 a3).2.getD (tN (a1.2.length:Int)) dF).2.1,(((a1.2.length+1):Nat):Int),((aC (aE nr) a0 a1 a2 a3).2.getD (tN (a1.2.length:Int)) dF).2.2.2.1,((aC (aE nr) a0 a1 a2 a3).2.getD (tN (a1.2.length:Int)) dF).2.2.2.2.1,((aC (aE nr) a0 a1 a2 a3).2.getD (tN (a1.2.length:Int)) dF).2.2.2.2.2)).getD (tN (a1.2.length:Int)) dF).1,(((aC (aE nr) a0 a1 a2 a3).2.set (tN (a1.2.length:Int)) (((aC (aE nr) a0 a1 a2 a3).2.getD (tN (a1.2.length:Int)) dF).1,((aC (aE nr) a0 a1 a2 a3).2.getD (tN (a1.2.length:Int)) dF).2.1,(((a1.2.length+1):Nat):Int),((aC (aE nr) a0 a1 a2 a3).2.getD (tN (a1.2.length:Int)) dF).2.2.2.1,((aC (aE nr) a0 a1 a2 a3).2.getD (tN (a1.2.length:Int)) dF).2.2.2.2.1,((aC (aE nr) a0 a1 a2 a3).2.getD (tN (a1.2.length:Int)) dF).2.2.2.2.2)).getD (tN (a1.2.length:Int)) dF).2.1,(((aC (aE nr) a0 a1 a2 a3).2.set (tN (a1.2.length:Int)) (((aC (aE nr) a0 a1 a2 a3).2.getD (tN (a1.2.length:Int)) dF).1,((aC (aE nr) a0 a1 a2 a3).2.getD (tN (a1.2.length:Int)) dF).2.1,(((a1.2.length+1):Nat):Int),((aC (aE nr) a0 a1 a2 a3).2.getD (tN (a1.2.length:Int)) dF).2.2.2.1,((aC (aE nr) a0 a1 a2 a3).2.getD (tN (a1.2.length:Int)) dF).2.2.2.2.1,((aC (aE nr) a0 a1 a2 a3).2.getD (tN (a1.2.length:Int)) dF).2.2.2.2.2)).getD (tN (a1.2.length:Int)) dF).2.2.1,(((eO (aE nr) a0 a1 a2 a3).2.length:Nat):Int),(((aC (aE nr) a0 a1 a2 a3).2.set (tN (a1.2.length:Int)) (((aC (aE nr) a0 a1 a2 a3).2.getD (tN (a1.2.length:Int)) dF).1,((aC (aE nr) a0 a1 a2 a3).2.getD (tN (a1.2.length:Int)) dF).2.1,(((a1.2.length+1):Nat):Int),((aC (aE nr) a0 a1 a2 a3).2.getD (tN (a1.2.length:Int)) dF).2.2.2.1,((aC (aE nr) a0 a1 a2 a3).2.getD (tN (a1.2.length:Int)) dF).2.2.2.2.1,((aC (aE nr) a0 a1 a2 a3).2.getD (tN (a1.2.length:Int)) dF).2.2.2.2.2)).getD (tN (a1.2.length:Int)) dF).2.2.2.2.1,(((aC (aE nr) a0 a1 a2 a3).2.set (tN (a1.2.length:Int)) (((aC (aE nr) a0 a1 a2 a3).2.getD (tN (a1.2.length:Int)) dF).1,((aC (aE nr) a0 a1 a2 a3).2.getD (tN (a1.2.length:Int)) dF).2.1,(((a1.2.length+1):Nat):Int),((aC (aE nr) a0 a1 a2 a3).2.getD (tN (a1.2.length:Int)) dF).2.2.2.1,((aC (aE nr) a0 a1 a2 a3).2.getD (tN (a1.2.length:Int)) dF).2.2.2.2.1,((aC (aE nr) a0 a1 a2 a3).2.getD (tN (a1.2.length:Int)) dF).2.2.2.2.2)).getD (tN (a1.2.length:Int)) dF).2.2.2.2.2))))
def jY (a0:bO)(a1:List Int×bF)(a2:List Int)(a3:Int):List Int×bF:=aE (a2.length+1) a0 a1 a2 a3
theorem aPi:∀(nr:Nat) (l:gX) (t:TR) (ns:List Int) (leaf:Int),PGRW l ([],t.2) ns leaf->ns.length < nr->aE nr l t ns leaf=aA nr l ([],t.2) ns leaf
 | 0,_,_,_,_,_,h=>absurd h (eI _)
 | nr+1,l,t,ns,leaf,hp,hn=>by
  have h:=hp.rng;have hl:=hp.lf
  simp only [aE,aA]
  by_cases h0:(ns.length:Int)<=leaf
  ·rw [cH h0,cond_true,cond_true]
   rfl
  ·rw [dA h0,cond_false,cond_false]
   have g2:2<=ns.length:=by omega
   have hs:=tM hp (aG l ns)
   have hf:=tL (n:=ns.length) (by omega)
   have hpt1:=dN (l:=aK l ns (aG l ns)) (a:=0) (b:=(((ns.length+1) / 2:Nat):Int)) (by omega)
   have hpt2:=dN (l:=aK l ns (aG l ns)) (a:=(((ns.length+1) / 2:Nat):Int)) (b:=(ns.length:Int)) (by omega)
   have e2:eO (aE nr) l t ns leaf=bQ (aA nr) l ([],t.2) ns leaf:=aPi nr _ ([],_) _ _ (kN hp _ g2) (by rw [hs.1,hf,hpt1];omega)
   have h5:GRR _ (bQ (aA nr) l ([],t.2) ns leaf) _:=kO nr _ _ _ _ (kN hp _ g2) (by rw [hs.1,hf,hpt1];omega)
   have e3:aC (aE nr) l t ns leaf=aB (aA nr) l ([],t.2) ns leaf:=by
    unfold aC aB fM
    rw [e2]
    exact sG _ _ _ _ _ _ (oD hp _ g2 h5) (lss _) (by rw [hs.1,hf,hpt2];omega)
   rw [e3,e2]
theorem aDd (nr:Nat)(l:gX)(t:TR)(ns:List Int)(leaf:Int)(hp:PGRW l ([],t.2) ns leaf)(h:ns.length < nr):GRR ([],t.2) (aE nr l t ns leaf) ns:=by
 rw [aPi nr l t ns leaf hp h];exact kO nr _ _ _ _ hp h
theorem aFf:∀(nr:Nat) (a0:bO) (a1:List Int×bF) (a2:List Int) (a3:Int) (l0:a0.length<=2^63-1) (l1_1:a1.1.length<=2^63-1) (l1_2:a1.2.length<=2^63-1) (l2:a2.length<=2^63-1) (hp:PGRW a0 ([],a1.2) a2 a3),a2.length < nr->Con Tryz.prog 81 [(.s 0 0 a0.length 10),(.a [(.v (.slice none 0 0)),(.s 1 0 a1.2.length 8)]),(.s 2 0 a2.length 1),(iv a3)] [(.live false true (flat dC a0)),(.live true true (flat cB a1.2)),(.live false true (flat c3 a2))] (.a [(.s 3 0 (aE nr a0 a1 a2 a3).1.length 1),(.s 4 0 (aE nr a0 a1 a2 a3).2.length 8)]) [(.live true true (flat c3 (aE nr a0 a1 a2 a3).1)),(.live true true (flat cB (aE nr a0 a1 a2 a3).2))] [.un,.dead,.un]:=by
 intro nr
 induction nr with
 | zero=>intro a0 a1 a2 a3 l0 l1_1 l1_2 l2 hp hlt;exact absurd hlt (eI _)
 | succ nr ihr =>
 intro a0 a1 a2 a3 l0 l1_1 l1_2 l2 hp hlt
 refine aY Tryz.func81 (by kernel_rfl) fun cx hcx=>?_
 have hpr:=hp.rng
 have hpn:=hp.nds
 try dsimp only at hpr hpn
 try simp only [List.length_nil,Nat.zero_add] at hpr hpn
 have hpl:=hp.lf
 have hpk:=aFc a0 a2
 have hso:=tM hp (aG a0 a2)
 obtain⟨hso1,hso2⟩:=hso
 have hhf:(W (Int.tdiv (W ((((aK a0 a2 (aG a0 a2)).length:Nat):Int)+1)) 2))=(((a2.length+1) / 2:Nat):Int):=by rw [hso1];exact tL (by omega)
 have hpt1:(Aw.part (aK a0 a2 (aG a0 a2)) 0 (W (Int.tdiv (W ((((aK a0 a2 (aG a0 a2)).length:Nat):Int)+1)) 2))).length=(a2.length+1) / 2:=by rw [dN (by omega)];omega
 have hpt2:(Aw.part (aK a0 a2 (aG a0 a2)) (W (Int.tdiv (W ((((aK a0 a2 (aG a0 a2)).length:Nat):Int)+1)) 2)) (((aK a0 a2 (aG a0 a2)).length:Nat):Int)).length=a2.length - (a2.length+1) / 2:=by rw [dN (by omega)];omega
 try (have _:=h0;simp only [List.length_append,List.length_cons,List.length_nil] at g1 g2 g3 f1 f2 f3)
 let t0:List (St Tryz.prog):=[.c [0,2] (kM a0 a2 0 (by omega) (by omega) hp.inr (by omega)),.c [0,2] (kM a0 a2 1 (by omega) (by omega) hp.inr (by omega)),.c [0,2] (kM a0 a2 2 (by omega) (by omega) hp.inr (by omega)),.c [0,2] (aBy a0 a2 (by omega) (by omega) hp.inr (by omega)),.c [6] (aJm (gK a0 a2) ((aO a0 a2 0),(aO a0 a2 1),(aO a0 a2 2)) (by omega)),.p (show((flat cB a1.2).length=a1.2.length*8/\a1.2.length+1<=2 ^ 40/\(a1.2.length+1)*64<=2 ^ 47) from kG bU (by omega) (by omega))]
 cases h0:(decide (((a2.length:Int):Int)<=a3)) with
 | true =>
  have q0:=cJ h0
  try (have _:=h0;simp only [List.length_append,List.length_cons,List.length_nil] at g1 g2 g3 f1 f2 f3)
  have e:=Eq.refl (aE (nr+1) a0 a1 a2 a3);conv at e=>rhs;simp only [aE,h0,aT]
  rw [e]
  try dsimp only [bA]
  try dsimp only
  rw [show flat cB (a1.2++[(0,(W (0+(a2.length:Int))),(-1),(-1),((aO a0 a2 0),(aO a0 a2 1),(aO a0 a2 2)),(fK a0 a1 a2 a3).1)])=(flat cB a1.2++[(iv 0),(iv (W (0+(a2.length:Int)))),(iv (-1)),(iv (-1)),(iv (aO a0 a2 0)),(iv (aO a0 a2 1)),(iv (aO a0 a2 2)),(iv (fK a0 a1 a2 a3).1)]) from cM]
  try rw [show List.length (α:=Int×Int×Int×Int×Zt×Int) (a1.2++[(0,(W (0+(a2.length:Int))),(-1),(-1),((aO a0 a2 0),(aO a0 a2 1),(aO a0 a2 2)),(fK a0 a1 a2 a3).1)])=(a1.2.length+1) from by first | simp;done | omega]
  exact wW (t0++[.d h0,.p (show((flat c3 a2).length=a2.length*1/\(flat c3 a2).all SV.one=true/\a2.length<=2 ^ 40/\a2.length*8<=2 ^ 47) from by refine⟨?_,?_,?_,?_⟩<;>first | omega | exact iO (fun _=>rfl) | (simp [bW aF];done) | (simp [bW aF];omega))]) [] [1] [9,8] hcx (by kernel_rfl)
 | false =>
  have q0:=cN h0
  try have h2:2<=a2.length:=(fun _=>by omega) h0
  try have h5:GRR _ (eO (aE nr) a0 a1 a2 a3) _:=(fun _=>aDd nr a0 ([],_) _ a3 (kN hp _ h2) (by omega)) h0
  try have h6:GRR _ (aC (aE nr) a0 a1 a2 a3) _:=(fun _=>kO _ _ _ _ _ (oD hp _ h2 h5) (lss _)) h0
  try have g1:=(fun _=>h5.ol) h0
  try have g2:=(fun _=>h5.lo) h0
  try have g3:=(fun _=>h5.hi) h0
  try have f1:=(fun _=>h6.ol) h0
  try have f2:=(fun _=>h6.lo) h0
  try have f3:=(fun _=>h6.hi) h0
  try (have _:=h0;simp only [List.length_append,List.length_cons,List.length_nil] at g1 g2 g3 f1 f2 f3)
  have e:=Eq.refl (aE (nr+1) a0 a1 a2 a3);conv at e=>rhs;simp only [aE,h0,aT]
  rw [e]
  try dsimp only [bA]
  try dsimp only
  rw [show flat cB (((aC (aE nr) a0 a1 a2 a3).2.set (tN (a1.2.length:Int)) (((aC (aE nr) a0 a1 a2 a3).2.getD (tN (a1.2.length:Int)) dF).1,((aC (aE nr) a0 a1 a2 a3).2.getD (tN (a1.2.length:Int)) dF).2.1,(((a1.2.length+1):Nat):Int),((aC (aE nr) a0 a1 a2 a3).2.getD (tN (a1.2.length:Int)) dF).2.2.2.1,((aC (aE nr) a0 a1 a2 a3).2.getD (tN (a1.2.length:Int)) dF).2.2.2.2.1,((aC (aE nr) a0 a1 a2 a3).2.getD (tN (a1.2.length:Int)) dF).2.2.2.2.2)).set (tN (a1.2.length:Int)) ((((aC (aE nr) a0 a1 a2 a3).2.set (tN (a1.2.length:Int)) (((aC (aE nr) a0 a1 a2 a3).2.getD (tN (a1.2.length:Int)) dF).1,((aC (aE nr) a0 a1 a2 a3).2.getD (tN (a1.2.length:Int)) dF).2.1,(((a1.2.length+1):Nat):Int),((aC (aE nr) a0 a1 a2 a3).2.getD (tN (a1.2.length:Int)) dF).2.2.2.1,((aC (aE nr) a0 a1 a2 a3).2.getD (tN (a1.2.length:Int)) dF).2.2.2.2.1,((aC (aE nr) a0 a1 a2 a3).2.getD (tN (a1.2.length:Int)) dF).2.2.2.2.2)).getD (tN (a1.2.length:Int)) dF).1,(((aC (aE nr) a0 a1 a2 a3).2.set (tN (a1.2.length:Int)) (((aC (aE nr) a0 a1 a2 a3).2.getD (tN (a1.2.length:Int)) dF).1,((aC (aE nr) a0 a1 a2 a3).2.getD (tN (a1.2.length:Int)) dF).2.1,(((a1.2.length+1):Nat):Int),((aC (aE nr) a0 a1 a2 a3).2.getD (tN (a1.2.length:Int)) dF).2.2.2.1,((aC (aE nr) a0 a1 a2 a3).2.getD (tN (a1.2.length:Int)) dF).2.2.2.2.1,((aC (aE nr) a0 a1 a2 a3).2.getD (tN (a1.2.length:Int)) dF).2.2.2.2.2)).getD (tN (a1.2.length:Int)) dF).2.1,(((aC (aE nr) a0 a1 a2 a3).2.set (tN (a1.2.length:Int)) (((aC (aE nr) a0 a1 a2 a3).2.getD (tN (a1.2.length:Int)) dF).1,((aC (aE nr) a0 a1 a2 a3).2.getD (tN (a1.2.length:Int)) dF).2.1,(((a1.2.length+1):Nat):Int),((aC (aE nr) a0 a1 a2 a3).2.getD (tN (a1.2.length:Int)) dF).2.2.2.1,((aC (aE nr) a0 a1 a2 a3).2.getD (tN (a1.2.length:Int)) dF).2.2.2.2.1,((aC (aE nr) a0 a1 a2 a3).2.getD (tN (a1.2.length:Int)) dF).2.2.2.2.2)).getD (tN (a1.2.length:Int)) dF).2.2.1,(((eO (aE nr) a0 a1 a2 a3).2.length:Nat):Int),(((aC (aE nr) a0 a1 a2 a3).2.set (tN (a1.2.length:Int)) (((aC (aE nr) a0 a1 a2 a3).2.getD (tN (a1.2.length:Int)) dF).1,((aC (aE nr) a0 a1 a2 a3).2.getD (tN (a1.2.length:Int)) dF).2.1,(((a1.2.length+1):Nat):Int),((aC (aE nr) a0 a1 a2 a3).2.getD (tN (a1.2.length:Int)) dF).2.2.2.1,((aC (aE nr) a0 a1 a2 a3).2.getD (tN (a1.2.length:Int)) dF).2.2.2.2.1,((aC (aE nr) a0 a1 a2 a3).2.getD (tN (a1.2.length:Int)) dF).2.2.2.2.2)).getD (tN (a1.2.length:Int)) dF).2.2.2.2.1,(((aC (aE nr) a0 a1 a2 a3).2.set (tN (a1.2.length:Int)) (((aC (aE nr) a0 a1 a2 a3).2.getD (tN (a1.2.length:Int)) dF).1,((aC (aE nr) a0 a1 a2 a3).2.getD (tN (a1.2.length:Int)) dF).2.1,(((a1.2.length+1):Nat):Int),((aC (aE nr) a0 a1 a2 a3).2.getD (tN (a1.2.length:Int)) dF).2.2.2.1,((aC (aE nr) a0 a1 a2 a3).2.getD (tN (a1.2.length:Int)) dF).2.2.2.2.1,((aC (aE nr) a0 a1 a2 a3).2.getD (tN (a1.2.length:Int)) dF).2.2.2.2.2)).getD (tN (a1.2.length:Int)) dF).2.2.2.2.2))=(splice (splice (flat cB (aC (aE nr) a0 a1 a2 a3).2) (0+tN (a1.2.length:Int)*8+2) [(iv (((a1.2.length+1):Nat):Int))]) (0+tN (a1.2.length:Int)*8+3) [(iv (((eO (aE nr) a0 a1 a2 a3).2.length:Nat):Int))]) from Eq.symm (by rw [show(splice (flat cB (aC (aE nr) a0 a1 a2 a3).2) (0+tN (a1.2.length:Int)*8+2) [(iv (((a1.2.length+1):Nat):Int))])=flat cB ((aC (aE nr) a0 a1 a2 a3).2.set (tN (a1.2.length:Int)) (((aC (aE nr) a0 a1 a2 a3).2.getD (tN (a1.2.length:Int)) dF).1,((aC (aE nr) a0 a1 a2 a3).2.getD (tN (a1.2.length:Int)) dF).2.1,(((a1.2.length+1):Nat):Int),((aC (aE nr) a0 a1 a2 a3).2.getD (tN (a1.2.length:Int)) dF).2.2.2.1,((aC (aE nr) a0 a1 a2 a3).2.getD (tN (a1.2.length:Int)) dF).2.2.2.2.1,((aC (aE nr) a0 a1 a2 a3).2.getD (tN (a1.2.length:Int)) dF).2.2.2.2.2)) from(bB bU (by first | omega | (simp only [Lt];omega)) (o:=2) (d:=dF) (Nb rfl) rfl)];exact bB bU (by first | omega | (simp only [Lt];omega)) (o:=3) (d:=dF) (Nb rfl) rfl)]
  try rw [show List.length (α:=Int×Int×Int×Int×Zt×Int) (((aC (aE nr) a0 a1 a2 a3).2.set (tN (a1.2.length:Int)) (((aC (aE nr) a0 a1 a2 a3).2.getD (tN (a1.2.length:Int)) dF).1,((aC (aE nr) a0 a1 a2 a3).2.getD (tN (a1.2.length:Int)) dF).2.1,(((a1.2.length+1):Nat):Int),((aC (aE nr) a0 a1 a2 a3).2.getD (tN (a1.2.length:Int)) dF).2.2.2.1,((aC (aE nr) a0 a1 a2 a3).2.getD (tN (a1.2.length:Int)) dF).2.2.2.2.1,((aC (aE nr) a0 a1 a2 a3).2.getD (tN (a1.2.length:Int)) dF).2.2.2.2.2)).set (tN (a1.2.length:Int)) ((((aC (aE nr) a0 a1 a2 a3).2.set (tN (a1.2.length:Int)) (((aC (aE nr) a0 a1 a2 a3).2.getD (tN (a1.2.length:Int)) dF).1,((aC (aE nr) a0 a1 a2 a3).2.getD (tN (a1.2.length:Int)) dF).2.1,(((a1.2.length+1):Nat):Int),((aC (aE nr) a0 a1 a2 a3).2.getD (tN (a1.2.length:Int)) dF).2.2.2.1,((aC (aE nr) a0 a1 a2 a3).2.getD (tN (a1.2.length:Int)) dF).2.2.2.2.1,((aC (aE nr) a0 a1 a2 a3).2.getD (tN (a1.2.length:Int)) dF).2.2.2.2.2)).getD (tN (a1.2.length:Int)) dF).1,(((aC (aE nr) a0 a1 a2 a3).2.set (tN (a1.2.length:Int)) (((aC (aE nr) a0 a1 a2 a3).2.getD (tN (a1.2.length:Int)) dF).1,((aC (aE nr) a0 a1 a2 a3).2.getD (tN (a1.2.length:Int)) dF).2.1,(((a1.2.length+1):Nat):Int),((aC (aE nr) a0 a1 a2 a3).2.getD (tN (a1.2.length:Int)) dF).2.2.2.1,((aC (aE nr) a0 a1 a2 a3).2.getD (tN (a1.2.length:Int)) dF).2.2.2.2.1,((aC (aE nr) a0 a1 a2 a3).2.getD (tN (a1.2.length:Int)) dF).2.2.2.2.2)).getD (tN (a1.2.length:Int)) dF).2.1,(((aC (aE nr) a0 a1 a2 a3).2.set (tN (a1.2.length:Int)) (((aC (aE nr) a0 a1 a2 a3).2.getD (tN (a1.2.length:Int)) dF).1,((aC (aE nr) a0 a1 a2 a3).2.getD (tN (a1.2.length:Int)) dF).2.1,(((a1.2.length+1):Nat):Int),((aC (aE nr) a0 a1 a2 a3).2.getD (tN (a1.2.length:Int)) dF).2.2.2.1,((aC (aE nr) a0 a1 a2 a3).2.getD (tN (a1.2.length:Int)) dF).2.2.2.2.1,((aC (aE nr) a0 a1 a2 a3).2.getD (tN (a1.2.length:Int)) dF).2.2.2.2.2)).getD (tN (a1.2.length:Int)) dF).2.2.1,(((eO (aE nr) a0 a1 a2 a3).2.length:Nat):Int),(((aC (aE nr) a0 a1 a2 a3).2.set (tN (a1.2.length:Int)) (((aC (aE nr) a0 a1 a2 a3).2.getD (tN (a1.2.length:Int)) dF).1,((aC (aE nr) a0 a1 a2 a3).2.getD (tN (a1.2.length:Int)) dF).2.1,(((a1.2.length+1):Nat):Int),((aC (aE nr) a0 a1 a2 a3).2.getD (tN (a1.2.length:Int)) dF).2.2.2.1,((aC (aE nr) a0 a1 a2 a3).2.getD (tN (a1.2.length:Int)) dF).2.2.2.2.1,((aC (aE nr) a0 a1 a2 a3).2.getD (tN (a1.2.length:Int)) dF).2.2.2.2.2)).getD (tN (a1.2.length:Int)) dF).2.2.2.2.1,(((aC (aE nr) a0 a1 a2 a3).2.set (tN (a1.2.length:Int)) (((aC (aE nr) a0 a1 a2 a3).2.getD (tN (a1.2.length:Int)) dF).1,((aC (aE nr) a0 a1 a2 a3).2.getD (tN (a1.2.length:Int)) dF).2.1,(((a1.2.length+1):Nat):Int),((aC (aE nr) a0 a1 a2 a3).2.getD (tN (a1.2.length:Int)) dF).2.2.2.1,((aC (aE nr) a0 a1 a2 a3).2.getD (tN (a1.2.length:Int)) dF).2.2.2.2.1,((aC (aE nr) a0 a1 a2 a3).2.getD (tN (a1.2.length:Int)) dF).2.2.2.2.2)).getD (tN (a1.2.length:Int)) dF).2.2.2.2.2))=(aC (aE nr) a0 a1 a2 a3).2.length from by first | simp;done | omega]
  exact wW (t0++[.d h0,.c [0,2] (aBz a0 a2 (by omega) (by omega) hp.inr (by omega)),.c [0,2] (aB2 a0 a2 (aG a0 a2) (by omega) (by omega) hp.inr (by omega)),.p (show(2:Int)≠0 from by decide),.S aF (aK a0 a2 (aG a0 a2)) 0 (W (Int.tdiv (W ((((aK a0 a2 (aG a0 a2)).length:Nat):Int)+1)) 2)) ((aK a0 a2 (aG a0 a2)).length),.c [0,8,10] (by have q:=(ihr a0 (([]:List Int),(a1.2++[(0,(W (0+(a2.length:Int))),(-1),(-1),((aO a0 a2 0),(aO a0 a2 1),(aO a0 a2 2)),(fK a0 a1 a2 a3).1)])) (Aw.part (aK a0 a2 (aG a0 a2)) 0 (W (Int.tdiv (W ((((aK a0 a2 (aG a0 a2)).length:Nat):Int)+1)) 2))) a3 (by omega) (by(try simp only [Lt]);omega) (by(try simp only [Lt]);omega) (by omega) (by first | exact kN hp _ h2 | exact oD hp _ h2 h5) (by omega));(try dsimp only at q);rw [show flat cB (a1.2++[(0,(W (0+(a2.length:Int))),(-1),(-1),((aO a0 a2 0),(aO a0 a2 1),(aO a0 a2 2)),(fK a0 a1 a2 a3).1)])=(flat cB a1.2++[(iv 0),(iv (W (0+(a2.length:Int)))),(iv (-1)),(iv (-1)),(iv (aO a0 a2 0)),(iv (aO a0 a2 1)),(iv (aO a0 a2 2)),(iv (fK a0 a1 a2 a3).1)]) from cM] at q;(try rw [show List.length (α:=Int×Int×Int×Int×Zt×Int) (a1.2++[(0,(W (0+(a2.length:Int))),(-1),(-1),((aO a0 a2 0),(aO a0 a2 1),(aO a0 a2 2)),(fK a0 a1 a2 a3).1)])=(a1.2.length+1) from by first | simp;done | omega] at q);(try rw [show List.length (α:=Int) (Aw.part (aK a0 a2 (aG a0 a2)) 0 (W (Int.tdiv (W ((((aK a0 a2 (aG a0 a2)).length:Nat):Int)+1)) 2)))=(tN (W (Int.tdiv (W ((((aK a0 a2 (aG a0 a2)).length:Nat):Int)+1)) 2)) - tN 0) from by first | simp;done | omega] at q);exact q),.S aF (aK a0 a2 (aG a0 a2)) (W (Int.tdiv (W ((((aK a0 a2 (aG a0 a2)).length:Nat):Int)+1)) 2)) (((aK a0 a2 (aG a0 a2)).length:Nat):Int) ((aK a0 a2 (aG a0 a2)).length),.c [0,11,12,13] (by have q:=(zF a0 ((eO (aE nr) a0 a1 a2 a3).1,(eO (aE nr) a0 a1 a2 a3).2) (Aw.part (aK a0 a2 (aG a0 a2)) (W (Int.tdiv (W ((((aK a0 a2 (aG a0 a2)).length:Nat):Int)+1)) 2)) (((aK a0 a2 (aG a0 a2)).length:Nat):Int)) a3 (by omega) (by(try simp only [Lt]);omega) (by(try simp only [Lt]);omega) (by omega) (by first | exact kN hp _ h2 | exact oD hp _ h2 h5));(try dsimp only at q);(try rw [show List.length (α:=Int) (Aw.part (aK a0 a2 (aG a0 a2)) (W (Int.tdiv (W ((((aK a0 a2 (aG a0 a2)).length:Nat):Int)+1)) 2)) (((aK a0 a2 (aG a0 a2)).length:Nat):Int))=(tN (((aK a0 a2 (aG a0 a2)).length:Nat):Int) - tN (W (Int.tdiv (W ((((aK a0 a2 (aG a0 a2)).length:Nat):Int)+1)) 2))) from by first | simp;done | omega] at q);exact q),.i (a1.2.length:Int) ((aC (aE nr) a0 a1 a2 a3).2.length),.p (show((0+tN (a1.2.length:Int)*8+2)+1<=(flat cB (aC (aE nr) a0 a1 a2 a3).2).length) from(dT bU (by first | omega | (simp only [Lt];omega)) (o:=2) (Nb rfl))),.i (a1.2.length:Int) ((aC (aE nr) a0 a1 a2 a3).2.length),.p (show((0+tN (a1.2.length:Int)*8+3)+1<=(splice (flat cB (aC (aE nr) a0 a1 a2 a3).2) (0+tN (a1.2.length:Int)*8+2) [(iv (((a1.2.length+1):Nat):Int))]).length) from(by rw [show(splice (flat cB (aC (aE nr) a0 a1 a2 a3).2) (0+tN (a1.2.length:Int)*8+2) [(iv (((a1.2.length+1):Nat):Int))])=flat cB ((aC (aE nr) a0 a1 a2 a3).2.set (tN (a1.2.length:Int)) (((aC (aE nr) a0 a1 a2 a3).2.getD (tN (a1.2.length:Int)) dF).1,((aC (aE nr) a0 a1 a2 a3).2.getD (tN (a1.2.length:Int)) dF).2.1,(((a1.2.length+1):Nat):Int),((aC (aE nr) a0 a1 a2 a3).2.getD (tN (a1.2.length:Int)) dF).2.2.2.1,((aC (aE nr) a0 a1 a2 a3).2.getD (tN (a1.2.length:Int)) dF).2.2.2.2.1,((aC (aE nr) a0 a1 a2 a3).2.getD (tN (a1.2.length:Int)) dF).2.2.2.2.2)) from(bB bU (by first | omega | (simp only [Lt];omega)) (o:=2) (d:=dF) (Nb rfl) rfl)];exact dT bU (by first | omega | (simp only [Lt];omega)) (o:=3) (Nb rfl)))]) [] [1] [14,15] hcx (by kernel_rfl)
theorem aHj (a0:bO)(a1:List Int×bF)(a2:List Int)(a3:Int)(l0:a0.length<=2^63-1)(l1_1:a1.1.length<=2^63-1)(l1_2:a1.2.length<=2^63-1)(l2:a2.length<=2^63-1)(hp:PGRW a0 ([],a1.2) a2 a3):Con Tryz.prog 81 [(.s 0 0 a0.length 10),(.a [(.v (.slice none 0 0)),(.s 1 0 a1.2.length 8)]),(.s 2 0 a2.length 1),(iv a3)] [(.live false true (flat dC a0)),(.live true true (flat cB a1.2)),(.live false true (flat c3 a2))] (.a [(.s 3 0 (jY a0 a1 a2 a3).1.length 1),(.s 4 0 (jY a0 a1 a2 a3).2.length 8)]) [(.live true true (flat c3 (jY a0 a1 a2 a3).1)),(.live true true (flat cB (jY a0 a1 a2 a3).2))] [.un,.dead,.un]:=aFf (a2.length+1) a0 a1 a2 a3 l0 l1_1 l1_2 l2 hp (lss _)
def lP (a0:bO)(a1:List Int×bF)(a2:List Int)(a3:Int):=(mD (gK a0 a2) ((aO a0 a2 0),(aO a0 a2 1),(aO a0 a2 2)))
def eB (a0:bO)(a1:List Int×bF)(a2:List Int)(a3:Int):=(jY a0 (([]:List Int),([(0,(W (0+(a2.length:Int))),(-1),(-1),((aO a0 a2 0),(aO a0 a2 1),(aO a0 a2 2)),(lP a0 a1 a2 a3).1)]:bF)) (Aw.part (aK a0 a2 (aG a0 a2)) 0 (W (Int.tdiv (W ((((aK a0 a2 (aG a0 a2)).length:Nat):Int)+1)) 2))) a3)
def aD (a0:bO)(a1:List Int×bF)(a2:List Int)(a3:Int):=(fM a0 ((eB a0 a1 a2 a3).1,(eB a0 a1 a2 a3).2) (Aw.part (aK a0 a2 (aG a0 a2)) (W (Int.tdiv (W ((((aK a0 a2 (aG a0 a2)).length:Nat):Int)+1)) 2)) (((aK a0 a2 (aG a0 a2)).length:Nat):Int)) a3)
def fW:Nat->bO->(List Int×bF)->(List Int)->(Int)->List Int×bF
 | 0,_,_,_,_=>dF
 | nr+1,a0,a1,a2,a3 =>
 (bif (decide (((a2.length:Int):Int)<=a3)) then
  (a2,([(0,(W (0+(a2.length:Int))),(-1),(-1),((aO a0 a2 0),(aO a0 a2 1),(aO a0 a2 2)),(lP a0 a1 a2 a3).1)]:bF))
 else
  ((aD a0 a1 a2 a3).1,(((aD a0 a1 a2 a3).2.set (tN 0) (((aD a0 a1 a2 a3).2.getD (tN 0) dF).1,((aD a0 a1 a2 a3).2.getD (tN 0) dF).2.1,1,((aD a0 a1 a2 a3).2.getD (tN 0) dF).2.2.2.1,((aD a0 a1 a2 a3).2.getD (tN 0) dF).2.2.2.2.1,((aD a0 a1 a2 a3).2.getD (tN 0) dF).2.2.2.2.2)).set (tN 0) ((((aD a0 a1 a2 a3).2.set (tN 0) (((aD a0 a1 a2 a3).2.getD (tN 0) dF).1,((aD a0 a1 a2 a3).2.getD (tN 0) dF).2.1,1,((aD a0 a1 a2 a3).2.getD (tN 0) dF).2.2.2.1,((aD a0 a1 a2 a3).2.getD (tN 0) dF).2.2.2.2.1,((aD a0 a1 a2 a3).2.getD (tN 0) dF).2.2.2.2.2)).getD (tN 0) dF).1,(((aD a0 a1 a2 a3).2.set (tN 0) (((aD a0 a1 a2 a3).2.getD (tN 0) dF).1,((aD a0 a1 a2 a3).2.getD (tN 0) dF).2.1,1,((aD a0 a1 a2 a3).2.getD (tN 0) dF).2.2.2.1,((aD a0 a1 a2 a3).2.getD (tN 0) dF).2.2.2.2.1,((aD a0 a1 a2 a3).2.getD (tN 0) dF).2.2.2.2.2)).getD (tN 0) dF).2.1,(((aD a0 a1 a2 a3).2.set (tN 0) (((aD a0 a1 a2 a3).2.getD (tN 0) dF).1,((aD a0 a1 a2 a3).2.getD (tN 0) dF).2.1,1,((aD a0 a1 a2 a3).2.getD (tN 0) dF).2.2.2.1,((aD a0 a1 a2 a3).2.getD (tN 0) dF).2.2.2.2.1,((aD a0 a1 a2 a3).2.getD (tN 0) dF).2.2.2.2.2)).getD (tN 0) dF).2.2.1,(((eB a0 a1 a2 a3).2.length:Nat):Int),(((aD a0 a1 a2 a3).2.set (tN 0) (((aD a0 a1 a2 a3).2.getD (tN 0) dF).1,((aD a0 a1 a2 a3).2.getD (tN 0) dF).2.1,1,((aD a0 a1 a2 a3).2.getD (tN 0) dF).2.2.2.1,((aD a0 a1 a2 a3).2.getD (tN 0) dF).2.2.2.2.1,((aD a0 a1 a2 a3).2.getD (tN 0) dF).2.2.2.2.2)).getD (tN 0) dF).2.2.2.2.1,(((aD a0 a1 a2 a3).2.set (tN 0) (((aD a0 a1 a2 a3).2.getD (tN 0) dF).1,((aD a0 a1 a2 a3).2.getD (tN 0) dF).2.1,1,((aD a0 a1 a2 a3).2.getD (tN 0) dF).2.2.2.1,((aD a0 a1 a2 a3).2.getD (tN 0) dF).2.2.2.2.1,((aD a0 a1 a2 a3).2.getD (tN 0) dF).2.2.2.2.2)).getD (tN 0) dF).2.2.2.2.2))))
def gY (a0:bO)(a1:List Int×bF)(a2:List Int)(a3:Int):List Int×bF:=fW (a2.length+1) a0 a1 a2 a3
theorem aFg:∀(nr:Nat) (a0:bO) (a1:List Int×bF) (a2:List Int) (a3:Int) (l0:a0.length<=2^63-1) (l1_1:a1.1.length<=2^63-1) (l1_2:a1.2.length<=2^63-1) (l2:a2.length<=2^63-1) (hp:PGRW a0 ([],[]) a2 a3),a2.length < nr->Con Tryz.prog 81 [(.s 0 0 a0.length 10),(.a [(.v (.slice none 0 0)),(.v (.slice none 0 0))]),(.s 1 0 a2.length 1),(iv a3)] [(.live false true (flat dC a0)),(.live false true (flat c3 a2))] (.a [(.s 2 0 (fW nr a0 a1 a2 a3).1.length 1),(.s 3 0 (fW nr a0 a1 a2 a3).2.length 8)]) [(.live true true (flat c3 (fW nr a0 a1 a2 a3).1)),(.live true true (flat cB (fW nr a0 a1 a2 a3).2))]:=by
 intro nr
 induction nr with
 | zero=>intro a0 a1 a2 a3 l0 l1_1 l1_2 l2 hp hlt;exact absurd hlt (eI _)
 | succ nr ihr =>
 intro a0 a1 a2 a3 l0 l1_1 l1_2 l2 hp hlt
 refine aY Tryz.func81 (by kernel_rfl) fun cx hcx=>?_
 have hpr:=hp.rng
 have hpn:=hp.nds
 try dsimp only at hpr hpn
 try simp only [List.length_nil,Nat.zero_add] at hpr hpn
 have hpl:=hp.lf
 have hpk:=aFc a0 a2
 have hso:=tM hp (aG a0 a2)
 obtain⟨hso1,hso2⟩:=hso
 have hhf:(W (Int.tdiv (W ((((aK a0 a2 (aG a0 a2)).length:Nat):Int)+1)) 2))=(((a2.length+1) / 2:Nat):Int):=by rw [hso1];exact tL (by omega)
 have hpt1:(Aw.part (aK a0 a2 (aG a0 a2)) 0 (W (Int.tdiv (W ((((aK a0 a2 (aG a0 a2)).length:Nat):Int)+1)) 2))).length=(a2.length+1) / 2:=by rw [dN (by omega)];omega
 have hpt2:(Aw.part (aK a0 a2 (aG a0 a2)) (W (Int.tdiv (W ((((aK a0 a2 (aG a0 a2)).length:Nat):Int)+1)) 2)) (((aK a0 a2 (aG a0 a2)).length:Nat):Int)).length=a2.length - (a2.length+1) / 2:=by rw [dN (by omega)];omega
 try (have _:=h0;simp only [List.length_append,List.length_cons,List.length_nil] at g1 g2 g3 f1 f2 f3)
 let t0:List (St Tryz.prog):=[.c [0,1] (kM a0 a2 0 (by omega) (by omega) hp.inr (by omega)),.c [0,1] (kM a0 a2 1 (by omega) (by omega) hp.inr (by omega)),.c [0,1] (kM a0 a2 2 (by omega) (by omega) hp.inr (by omega)),.c [0,1] (aBy a0 a2 (by omega) (by omega) hp.inr (by omega)),.c [5] (aJm (gK a0 a2) ((aO a0 a2 0),(aO a0 a2 1),(aO a0 a2 2)) (by omega))]
 cases h0:(decide (((a2.length:Int):Int)<=a3)) with
 | true =>
  have q0:=cJ h0
  try (have _:=h0;simp only [List.length_append,List.length_cons,List.length_nil] at g1 g2 g3 f1 f2 f3)
  have e:=Eq.refl (fW (nr+1) a0 a1 a2 a3);conv at e=>rhs;simp only [fW,h0,aT]
  rw [e]
  try dsimp only [bA]
  try dsimp only
  exact rt (t0++[.d h0,.p (show((flat c3 a2).length=a2.length*1/\(flat c3 a2).all SV.one=true/\a2.length<=2 ^ 40/\a2.length*8<=2 ^ 47) from by refine⟨?_,?_,?_,?_⟩<;>first | omega | exact iO (fun _=>rfl) | (simp [bW aF];done) | (simp [bW aF];omega))]) [.sym 7 true]  [8,7] hcx (by kernel_rfl)
 | false =>
  have q0:=cN h0
  try have h2:2<=a2.length:=(fun _=>by omega) h0
  try have h5:GRR _ (eB a0 a1 a2 a3) _:=(fun _=>aDd _ a0 ([],_) _ a3 (kN (t:=([],[])) hp _ h2) (lss _)) h0
  try have h6:GRR _ (aD a0 a1 a2 a3) _:=(fun _=>kO _ _ _ _ _ (oD (t:=([],[])) hp _ h2 h5) (lss _)) h0
  try have g1:=(fun _=>h5.ol) h0
  try have g2:=(fun _=>h5.lo) h0
  try have g3:=(fun _=>h5.hi) h0
  try have f1:=(fun _=>h6.ol) h0
  try have f2:=(fun _=>h6.lo) h0
  try have f3:=(fun _=>h6.hi) h0
  try (have _:=h0;simp only [List.length_append,List.length_cons,List.length_nil] at g1 g2 g3 f1 f2 f3)
  have e:=Eq.refl (fW (nr+1) a0 a1 a2 a3);conv at e=>rhs;simp only [fW,h0,aT]
  rw [e]
  try dsimp only [bA]
  try dsimp only
  rw [show flat cB (((aD a0 a1 a2 a3).2.set (tN 0) (((aD a0 a1 a2 a3).2.getD (tN 0) dF).1,((aD a0 a1 a2 a3).2.getD (tN 0) dF).2.1,1,((aD a0 a1 a2 a3).2.getD (tN 0) dF).2.2.2.1,((aD a0 a1 a2 a3).2.getD (tN 0) dF).2.2.2.2.1,((aD a0 a1 a2 a3).2.getD (tN 0) dF).2.2.2.2.2)).set (tN 0) ((((aD a0 a1 a2 a3).2.set (tN 0) (((aD a0 a1 a2 a3).2.getD (tN 0) dF).1,((aD a0 a1 a2 a3).2.getD (tN 0) dF).2.1,1,((aD a0 a1 a2 a3).2.getD (tN 0) dF).2.2.2.1,((aD a0 a1 a2 a3).2.getD (tN 0) dF).2.2.2.2.1,((aD a0 a1 a2 a3).2.getD (tN 0) dF).2.2.2.2.2)).getD (tN 0) dF).1,(((aD a0 a1 a2 a3).2.set (tN 0) (((aD a0 a1 a2 a3).2.getD (tN 0) dF).1,((aD a0 a1 a2 a3).2.getD (tN 0) dF).2.1,1,((aD a0 a1 a2 a3).2.getD (tN 0) dF).2.2.2.1,((aD a0 a1 a2 a3).2.getD (tN 0) dF).2.2.2.2.1,((aD a0 a1 a2 a3).2.getD (tN 0) dF).2.2.2.2.2)).getD (tN 0) dF).2.1,(((aD a0 a1 a2 a3).2.set (tN 0) (((aD a0 a1 a2 a3).2.getD (tN 0) dF).1,((aD a0 a1 a2 a3).2.getD (tN 0) dF).2.1,1,((aD a0 a1 a2 a3).2.getD (tN 0) dF).2.2.2.1,((aD a0 a1 a2 a3).2.getD (tN 0) dF).2.2.2.2.1,((aD a0 a1 a2 a3).2.getD (tN 0) dF).2.2.2.2.2)).getD (tN 0) dF).2.2.1,(((eB a0 a1 a2 a3).2.length:Nat):Int),(((aD a0 a1 a2 a3).2.set (tN 0) (((aD a0 a1 a2 a3).2.getD (tN 0) dF).1,((aD a0 a1 a2 a3).2.getD (tN 0) dF).2.1,1,((aD a0 a1 a2 a3).2.getD (tN 0) dF).2.2.2.1,((aD a0 a1 a2 a3).2.getD (tN 0) dF).2.2.2.2.1,((aD a0 a1 a2 a3).2.getD (tN 0) dF).2.2.2.2.2)).getD (tN 0) dF).2.2.2.2.1,(((aD a0 a1 a2 a3).2.set (tN 0) (((aD a0 a1 a2 a3).2.getD (tN 0) dF).1,((aD a0 a1 a2 a3).2.getD (tN 0) dF).2.1,1,((aD a0 a1 a2 a3).2.getD (tN 0) dF).2.2.2.1,((aD a0 a1 a2 a3).2.getD (tN 0) dF).2.2.2.2.1,((aD a0 a1 a2 a3).2.getD (tN 0) dF).2.2.2.2.2)).getD (tN 0) dF).2.2.2.2.2))=(splice (splice (flat cB (aD a0 a1 a2 a3).2) (0+tN 0*8+2) [(iv 1)]) (0+tN 0*8+3) [(iv (((eB a0 a1 a2 a3).2.length:Nat):Int))]) from Eq.symm (by rw [show(splice (flat cB (aD a0 a1 a2 a3).2) (0+tN 0*8+2) [(iv 1)])=flat cB ((aD a0 a1 a2 a3).2.set (tN 0) (((aD a0 a1 a2 a3).2.getD (tN 0) dF).1,((aD a0 a1 a2 a3).2.getD (tN 0) dF).2.1,1,((aD a0 a1 a2 a3).2.getD (tN 0) dF).2.2.2.1,((aD a0 a1 a2 a3).2.getD (tN 0) dF).2.2.2.2.1,((aD a0 a1 a2 a3).2.getD (tN 0) dF).2.2.2.2.2)) from(bB bU (by first | omega | (simp only [Lt];omega)) (o:=2) (d:=dF) (Nb rfl) rfl)];exact bB bU (by first | omega | (simp only [Lt];omega)) (o:=3) (d:=dF) (Nb rfl) rfl)]
  try rw [show List.length (α:=Int×Int×Int×Int×Zt×Int) (((aD a0 a1 a2 a3).2.set (tN 0) (((aD a0 a1 a2 a3).2.getD (tN 0) dF).1,((aD a0 a1 a2 a3).2.getD (tN 0) dF).2.1,1,((aD a0 a1 a2 a3).2.getD (tN 0) dF).2.2.2.1,((aD a0 a1 a2 a3).2.getD (tN 0) dF).2.2.2.2.1,((aD a0 a1 a2 a3).2.getD (tN 0) dF).2.2.2.2.2)).set (tN 0) ((((aD a0 a1 a2 a3).2.set (tN 0) (((aD a0 a1 a2 a3).2.getD (tN 0) dF).1,((aD a0 a1 a2 a3).2.getD (tN 0) dF).2.1,1,((aD a0 a1 a2 a3).2.getD (tN 0) dF).2.2.2.1,((aD a0 a1 a2 a3).2.getD (tN 0) dF).2.2.2.2.1,((aD a0 a1 a2 a3).2.getD (tN 0) dF).2.2.2.2.2)).getD (tN 0) dF).1,(((aD a0 a1 a2 a3).2.set (tN 0) (((aD a0 a1 a2 a3).2.getD (tN 0) dF).1,((aD a0 a1 a2 a3).2.getD (tN 0) dF).2.1,1,((aD a0 a1 a2 a3).2.getD (tN 0) dF).2.2.2.1,((aD a0 a1 a2 a3).2.getD (tN 0) dF).2.2.2.2.1,((aD a0 a1 a2 a3).2.getD (tN 0) dF).2.2.2.2.2)).getD (tN 0) dF).2.1,(((aD a0 a1 a2 a3).2.set (tN 0) (((aD a0 a1 a2 a3).2.getD (tN 0) dF).1,((aD a0 a1 a2 a3).2.getD (tN 0) dF).2.1,1,((aD a0 a1 a2 a3).2.getD (tN 0) dF).2.2.2.1,((aD a0 a1 a2 a3).2.getD (tN 0) dF).2.2.2.2.1,((aD a0 a1 a2 a3).2.getD (tN 0) dF).2.2.2.2.2)).getD (tN 0) dF).2.2.1,(((eB a0 a1 a2 a3).2.length:Nat):Int),(((aD a0 a1 a2 a3).2.set (tN 0) (((aD a0 a1 a2 a3).2.getD (tN 0) dF).1,((aD a0 a1 a2 a3).2.getD (tN 0) dF).2.1,1,((aD a0 a1 a2 a3).2.getD (tN 0) dF).2.2.2.1,((aD a0 a1 a2 a3).2.getD (tN 0) dF).2.2.2.2.1,((aD a0 a1 a2 a3).2.getD (tN 0) dF).2.2.2.2.2)).getD (tN 0) dF).2.2.2.2.1,(((aD a0 a1 a2 a3).2.set (tN 0) (((aD a0 a1 a2 a3).2.getD (tN 0) dF).1,((aD a0 a1 a2 a3).2.getD (tN 0) dF).2.1,1,((aD a0 a1 a2 a3).2.getD (tN 0) dF).2.2.2.1,((aD a0 a1 a2 a3).2.getD (tN 0) dF).2.2.2.2.1,((aD a0 a1 a2 a3).2.getD (tN 0) dF).2.2.2.2.2)).getD (tN 0) dF).2.2.2.2.2))=(aD a0 a1 a2 a3).2.length from by first | simp;done | omega]
  exact rt (t0++[.d h0,.c [0,1] (aBz a0 a2 (by omega) (by omega) hp.inr (by omega)),.c [0,1] (aB2 a0 a2 (aG a0 a2) (by omega) (by omega) hp.inr (by omega)),.p (show(2:Int)≠0 from by decide),.S aF (aK a0 a2 (aG a0 a2)) 0 (W (Int.tdiv (W ((((aK a0 a2 (aG a0 a2)).length:Nat):Int)+1)) 2)) ((aK a0 a2 (aG a0 a2)).length),.c [0,7,9] (by have q:=(Con.flags (bs':=[(.live false true (flat dC a0)),(.live true false [(iv 0),(iv (W (0+(a2.length:Int)))),(iv (-1)),(iv (-1)),(iv (aO a0 a2 0)),(iv (aO a0 a2 1)),(iv (aO a0 a2 2)),(iv (lP a0 a1 a2 a3).1)]),(.live false true (flat c3 (Aw.part (aK a0 a2 (aG a0 a2)) 0 (W (Int.tdiv (W ((((aK a0 a2 (aG a0 a2)).length:Nat):Int)+1)) 2)))))]) (aHj a0 (([]:List Int),([(0,(W (0+(a2.length:Int))),(-1),(-1),((aO a0 a2 0),(aO a0 a2 1),(aO a0 a2 2)),(lP a0 a1 a2 a3).1)]:bF)) (Aw.part (aK a0 a2 (aG a0 a2)) 0 (W (Int.tdiv (W ((((aK a0 a2 (aG a0 a2)).length:Nat):Int)+1)) 2))) a3 (by omega) (by(try simp only [Lt]);omega) (by(try simp only [Lt]);omega) (by omega) (by first | exact kN hp _ h2 | exact oD hp _ h2 h5)) rfl ⟨qF (fun _=>rfl),qF (fun _=>rfl),qF (fun _=>rfl),trivial⟩);(try dsimp only at q);(try rw [show List.length (α:=Int) (Aw.part (aK a0 a2 (aG a0 a2)) 0 (W (Int.tdiv (W ((((aK a0 a2 (aG a0 a2)).length:Nat):Int)+1)) 2)))=(tN (W (Int.tdiv (W ((((aK a0 a2 (aG a0 a2)).length:Nat):Int)+1)) 2)) - tN 0) from by first | simp;done | omega] at q);exact q),.S aF (aK a0 a2 (aG a0 a2)) (W (Int.tdiv (W ((((aK a0 a2 (aG a0 a2)).length:Nat):Int)+1)) 2)) (((aK a0 a2 (aG a0 a2)).length:Nat):Int) ((aK a0 a2 (aG a0 a2)).length),.c [0,10,11,12] (by have q:=(zF a0 ((eB a0 a1 a2 a3).1,(eB a0 a1 a2 a3).2) (Aw.part (aK a0 a2 (aG a0 a2)) (W (Int.tdiv (W ((((aK a0 a2 (aG a0 a2)).length:Nat):Int)+1)) 2)) (((aK a0 a2 (aG a0 a2)).length:Nat):Int)) a3 (by omega) (by(try simp only [Lt]);omega) (by(try simp only [Lt]);omega) (by omega) (by first | exact kN hp _ h2 | exact oD hp _ h2 h5));(try dsimp only at q);(try rw [show List.length (α:=Int) (Aw.part (aK a0 a2 (aG a0 a2)) (W (Int.tdiv (W ((((aK a0 a2 (aG a0 a2)).length:Nat):Int)+1)) 2)) (((aK a0 a2 (aG a0 a2)).length:Nat):Int))=(tN (((aK a0 a2 (aG a0 a2)).length:Nat):Int) - tN (W (Int.tdiv (W ((((aK a0 a2 (aG a0 a2)).length:Nat):Int)+1)) 2))) from by first | simp;done | omega] at q);exact q),.i 0 ((aD a0 a1 a2 a3).2.length),.p (show((0+tN 0*8+2)+1<=(flat cB (aD a0 a1 a2 a3).2).length) from(dT bU (by first | omega | (simp only [Lt];omega)) (o:=2) (Nb rfl))),.i 0 ((aD a0 a1 a2 a3).2.length),.p (show((0+tN 0*8+3)+1<=(splice (flat cB (aD a0 a1 a2 a3).2) (0+tN 0*8+2) [(iv 1)]).length) from(by rw [show(splice (flat cB (aD a0 a1 a2 a3).2) (0+tN 0*8+2) [(iv 1)])=flat cB ((aD a0 a1 a2 a3).2.set (tN 0) (((aD a0 a1 a2 a3).2.getD (tN 0) dF).1,((aD a0 a1 a2 a3).2.getD (tN 0) dF).2.1,1,((aD a0 a1 a2 a3).2.getD (tN 0) dF).2.2.2.1,((aD a0 a1 a2 a3).2.getD (tN 0) dF).2.2.2.2.1,((aD a0 a1 a2 a3).2.getD (tN 0) dF).2.2.2.2.2)) from(bB bU (by first | omega | (simp only [Lt];omega)) (o:=2) (d:=dF) (Nb rfl) rfl)];exact dT bU (by first | omega | (simp only [Lt];omega)) (o:=3) (Nb rfl)))]) []  [13,14] hcx (by kernel_rfl)
theorem aHk (a0:bO)(a1:List Int×bF)(a2:List Int)(a3:Int)(l0:a0.length<=2^63-1)(l1_1:a1.1.length<=2^63-1)(l1_2:a1.2.length<=2^63-1)(l2:a2.length<=2^63-1)(hp:PGRW a0 ([],[]) a2 a3):Con Tryz.prog 81 [(.s 0 0 a0.length 10),(.a [(.v (.slice none 0 0)),(.v (.slice none 0 0))]),(.s 1 0 a2.length 1),(iv a3)] [(.live false true (flat dC a0)),(.live false true (flat c3 a2))] (.a [(.s 2 0 (gY a0 a1 a2 a3).1.length 1),(.s 3 0 (gY a0 a1 a2 a3).2.length 8)]) [(.live true true (flat c3 (gY a0 a1 a2 a3).1)),(.live true true (flat cB (gY a0 a1 a2 a3).2))]:=aFg (a2.length+1) a0 a1 a2 a3 l0 l1_1 l1_2 l2 hp (lss _)
noncomputable def aFh:Code:=(aM [1,1,0,1] [] (aL Tryz.f62) []).1
noncomputable def aFi:List K:=(aM [1,1,0,1] [] (aL Tryz.f62) []).2
def aB3 (a0:bO)(a1:Int)(v2c:List SV)(v2n:Nat)(v3:Int):LS:=⟨gD 26 [(0,(.s 0 0 a0.length 10)),(1,(iv a1)),(4,(.p 1 0)),(5,(.s 2 0 v2n 1)),(6,(iv v3))],[(.live false true (flat dC a0)),(.live true false [(.v (.slice none 0 0)),(.v (.slice none 0 0))]),(.live true true v2c)]⟩
def iA (a0:bO)(a1:Int):List Int×Int->(List Int×Int)⊕(List Int×bF)
 | (v2,v3) =>
  (bif (decide ((v3:Int) < (a0.length:Int))) then
   (.inl ((v2++[v3]),(v3+1)))
  else
   (bif (((a0.length:Int):Int) == 0) then
    (.inr (([]:List Int),([]:bF)))
   else
    (.inr ((gY a0 (([]:List Int),([]:bF)) v2 a1).1,(gY a0 (([]:List Int),([]:bF)) v2 a1).2))))
theorem aRr (a0:bO)(a1:Int)(l0:a0.length<=2^63-1)(hl:a0.length<=96)(hf:1<=a1) {cx:Cx} (hcx:cx.base=1):∀(n:Nat) (v2:List Int) (v3:Int),(0<=v3)/\(v2.length=tN v3)/\(InR a0.length v2)/\(v3<=a0.length)/\(a0.length<=96)->tN ((a0.length:Int) - v3) < n->Aw.Good Tryz.prog none 9 (bodyPost Tryz.prog Tryz.f62 (RR cx (.a [(.s 1 0 (aH (iA a0 a1) n (v2,v3)).1.length 1),(.s 2 0 (aH (iA a0 a1) n (v2,v3)).2.length 8)]) [(.live true true (flat c3 (aH (iA a0 a1) n (v2,v3)).1)),(.live true true (flat cB (aH (iA a0 a1) n (v2,v3)).2))] [])) cx [] (.l aFh n::aFi) (aB3 a0 a1 (flat c3 v2) v2.length v3):=by
 intro n
 induction n with
 | zero=>intro v2 v3 hi hn;exact absurd hn (eI _)
 | succ n ih =>
  intro v2 v3 hi hn
  refine aR ?_
  cases h0:(decide ((v3:Int) < (a0.length:Int))) with
  | true =>
   have q0:=cJ h0
   have e:=Eq.refl (iA a0 a1 (v2,v3));conv at e=>rhs;simp only [iA,h0,aT]
   rw [aI e]
   refine ba [.d h0,.p (show((flat c3 v2).length=v2.length*1/\v2.length+1<=2 ^ 40/\(v2.length+1)*8<=2 ^ 47) from kG aF (by omega) (by omega))] [] [0,1,4,5,6] [1,4] hcx (m:=n) aFh (aFi) (aB3 a0 a1 (flat c3 v2++[(iv v3)]) (v2.length+1) (W (v3+1))) (by kernel_rfl) ?_
   have z0:(W (v3+1))=(v3+1):=aS (by omega) (by omega)
   have z1:(flat c3 v2++[(iv v3)])=(flat c3 (v2++[v3])):=(cM (c:=c3) (l:=v2) (m:=[v3])).symm
   have z2:(v2.length+1)=(v2++[v3]).length:=mI v2 [v3] rfl
   rw [z0,z1,z2]
   exact ih (v2++[v3]) (v3+1) (by and_intros<;>(try simp only [Lt])<;>first | omega | assumption | exact hi.2.1 | exact hi.2.2.1 | exact InR.swap hi.2.1 (by omega) (by omega) | exact InR.swap hr (by omega) (by omega) | exact InR.nil _ | exact hi.2.2.1.add (by omega)) (by omega)
  | false =>
   have q0:=cN h0
   let t1:List (St Tryz.prog):=[.d h0]
   cases h1:(((a0.length:Int):Int) == 0) with
   | true =>
    have q1:=eq_of_beq h1
    have e:=Eq.refl (iA a0 a1 (v2,v3));conv at e=>rhs;simp only [iA,h0,h1,aT]
    rw [aJ,e]
    exact rt (t1++[.d h1]) [.cell 1 0 1,.cell 1 1 8] [3,4] hcx (by kernel_rfl)
   | false =>
    have q1:=ne_of_beq_false h1
    have e:=Eq.refl (iA a0 a1 (v2,v3));conv at e=>rhs;simp only [iA,h0,h1,aT]
    rw [aJ,e]
    exact rt (t1++[.d h1,.c [0,2] (aHk a0 (([]:List Int),([]:bF)) v2 a1 (by omega) (by(try simp only [Lt]);omega) (by(try simp only [Lt]);omega) (by omega) ⟨hi.2.2.1,by simp only [List.length_nil];omega,by simp only [List.length_nil];omega,hf⟩)]) [] [3,4] hcx (by kernel_rfl)
def lY (a0:bO)(a1:Int):List Int×bF :=
 (aH (iA a0 a1) (tN ((a0.length:Int) - 0)+1) (([]:List Int),0))
theorem aWg (a0:bO)(a1:Int)(l0:a0.length<=2^63-1)(hl:a0.length<=96)(hf:1<=a1):Con Tryz.prog 62 [(.s 0 0 a0.length 10),(iv a1)] [(.live false true (flat dC a0))] (.a [(.s 1 0 (lY a0 a1).1.length 1),(.s 2 0 (lY a0 a1).2.length 8)]) [(.live true true (flat c3 (lY a0 a1).1)),(.live true true (flat cB (lY a0 a1).2))]:=by
 refine aY Tryz.func62 (by kernel_rfl) fun cx hcx=>?_
 have e:=Eq.refl (lY a0 a1);conv at e=>rhs;simp only [lY]
 rw [e]
 refine en [] [.slot 5 1] [0,1,4,5,6] [1,2] hcx aFh (aFi) (aB3 a0 a1 (flat c3 ([]:List Int)) 0 0) (tN ((a0.length:Int) - 0)+1) (by kernel_rfl) ?_
 exact aRr a0 a1 l0 hl hf hcx (tN ((a0.length:Int) - 0)+1) ([]:List Int) 0 (by and_intros<;>(try simp only [Lt])<;>first | omega | assumption | exact hi.2.1 | exact hi.2.2.1 | exact InR.swap hi.2.1 (by omega) (by omega) | exact InR.swap hr (by omega) (by omega) | exact InR.nil _ | exact hi.2.2.1.add (by omega)) (by omega)
noncomputable def xQ:Code:=(aM [1,1,0,1] [] (aL Tryz.f80) []).1
noncomputable def xR:List K:=(aM [1,1,0,1] [] (aL Tryz.f80) []).2
def uR (a0:List Int)(a1:List Int)(v1:Int):LS:=⟨gD 26 [(0,(.s 0 0 a0.length 1)),(1,(.s 1 0 a1.length 1)),(5,(iv v1))],[(.live false true (flat c3 a0)),(.live false true (flat c3 a1))]⟩
def iZ (a0:List Int)(a1:List Int):Int->(Int)⊕(Bool)
 | v1 =>
  (bif (decide ((v1:Int) < (a0.length:Int))) then
   (bif (((a0.getD (tN v1) dF):Int) != (a1.getD (tN v1) dF)) then
    (.inr false)
   else
    (.inl (v1+1)))
  else
   (.inr true))
theorem aM2 (a0:List Int)(a1:List Int)(l0:a0.length<=2^63-1)(l1:a1.length<=2^63-1) {cx:Cx} (hcx:cx.base=2):∀(n:Nat) (v1:Int),(0<=v1)/\(a0.length=a1.length)->tN ((a0.length:Int) - v1) < n->Aw.Good Tryz.prog none 9 (bodyPost Tryz.prog Tryz.f80 (RR cx (.v (.bool (aH (iZ a0 a1) n v1))) [] [])) cx [] (.l xQ n::xR) (uR a0 a1 v1):=by
 intro n
 induction n with
 | zero=>intro v1 hi hn;exact absurd hn (eI _)
 | succ n ih =>
  intro v1 hi hn
  refine aR ?_
  cases h0:(decide ((v1:Int) < (a0.length:Int))) with
  | true =>
   have q0:=cJ h0
   let t1:List (St Tryz.prog):=[.d h0,.i v1 (a0.length),.L aF a0 v1 0 1,.i v1 (a1.length),.L aF a1 v1 0 1]
   cases h1:(((a0.getD (tN v1) dF):Int) != (a1.getD (tN v1) dF)) with
   | true =>
    have q1:=bne_iff_ne.1 h1
    have e:=Eq.refl (iZ a0 a1 v1);conv at e=>rhs;simp only [iZ,h0,h1,aT]
    rw [aJ,e]
    exact rt (t1++[.d h1]) [] [] hcx (by kernel_rfl)
   | false =>
    have q1:=bne_eq_false_iff_eq.1 h1
    have e:=Eq.refl (iZ a0 a1 v1);conv at e=>rhs;simp only [iZ,h0,h1,aT]
    rw [aI e]
    refine ba (t1++[.d h1]) [] [0,1,5] [] hcx (m:=n) xQ (xR) (uR a0 a1 (W (v1+1))) (by kernel_rfl) ?_
    have z0:(W (v1+1))=(v1+1):=aS (by omega) (by omega)
    rw [z0]
    exact ih (v1+1) (by refine⟨?_,?_⟩<;>(try simp only [Ls])<;>first | omega | assumption | simp) (by omega)
  | false =>
   have q0:=cN h0
   have e:=Eq.refl (iZ a0 a1 v1);conv at e=>rhs;simp only [iZ,h0,aT]
   rw [aJ,e]
   exact rt [.d h0] [] [] hcx (by kernel_rfl)
def jQ (a0:List Int)(a1:List Int):Bool :=
 (bif (((a0.length:Int):Int) != (a1.length:Int)) then
  false
 else
  (aH (iZ a0 a1) (tN ((a0.length:Int) - 0)+1) 0))
theorem aRs (a0:List Int)(a1:List Int)(l0:a0.length<=2^63-1)(l1:a1.length<=2^63-1):Con Tryz.prog 80 [(.s 0 0 a0.length 1),(.s 1 0 a1.length 1)] [(.live false true (flat c3 a0)),(.live false true (flat c3 a1))] (.v (.bool (jQ a0 a1))) []:=by
 refine aY Tryz.func80 (by kernel_rfl) fun cx hcx=>?_
 cases h0:(((a0.length:Int):Int) != (a1.length:Int)) with
 | true =>
  have q0:=bne_iff_ne.1 h0
  have e:=Eq.refl (jQ a0 a1);conv at e=>rhs;simp only [jQ,h0,aT]
  rw [e]
  exact rt [.d h0] [] [] hcx (by kernel_rfl)
 | false =>
  have q0:=bne_eq_false_iff_eq.1 h0
  have e:=Eq.refl (jQ a0 a1);conv at e=>rhs;simp only [jQ,h0,aT]
  rw [e]
  refine en [.d h0] [] [0,1,5] [] hcx xQ (xR) (uR a0 a1 0) (tN ((a0.length:Int) - 0)+1) (by kernel_rfl) ?_
  exact aM2 a0 a1 l0 l1 hcx (tN ((a0.length:Int) - 0)+1) 0 (by refine⟨?_,?_⟩<;>(try simp only [Ls])<;>first | omega | assumption | simp) (by omega)
noncomputable def aPj:Code:=(aM [1,1,0,1] [] (aL Tryz.f61) []).1
noncomputable def aPk:List K:=(aM [1,1,0,1] [] (aL Tryz.f61) []).2
def aJp (a0:List Int×bF)(a1:List Int×bF)(v1:Int):LS:=⟨gD 39 [(2,(.p 4 0)),(3,(.p 5 0)),(5,(iv v1))],[(.live false true (flat c3 a0.1)),(.live false true (flat cB a0.2)),(.live false true (flat c3 a1.1)),(.live false true (flat cB a1.2)),(.live true false [(.s 0 0 a0.1.length 1),(.s 1 0 a0.2.length 8)]),(.live true false [(.s 2 0 a1.1.length 1),(.s 3 0 a1.2.length 8)])]⟩
def wD (a0:List Int×bF)(a1:List Int×bF):Int->(Int)⊕(Bool)
 | v1 =>
  (bif (decide ((v1:Int) < (a0.2.length:Int))) then
   (bif (!((((a0.2.getD (tN v1) dF).1:Int) == (a1.2.getD (tN v1) dF).1)&&((((a0.2.getD (tN v1) dF).2.1:Int) == (a1.2.getD (tN v1) dF).2.1)&&((((a0.2.getD (tN v1) dF).2.2.1:Int) == (a1.2.getD (tN v1) dF).2.2.1)&&((((a0.2.getD (tN v1) dF).2.2.2.1:Int) == (a1.2.getD (tN v1) dF).2.2.2.1)&&(((((a0.2.getD (tN v1) dF).2.2.2.2.1.1:Int) == (a1.2.getD (tN v1) dF).2.2.2.2.1.1)&&((((a0.2.getD (tN v1) dF).2.2.2.2.1.2.1:Int) == (a1.2.getD (tN v1) dF).2.2.2.2.1.2.1)&&((((a0.2.getD (tN v1) dF).2.2.2.2.1.2.2:Int) == (a1.2.getD (tN v1) dF).2.2.2.2.1.2.2)&&true)))&&((((a0.2.getD (tN v1) dF).2.2.2.2.2:Int) == (a1.2.getD (tN v1) dF).2.2.2.2.2)&&true))))))) then
    (.inr false)
   else
    (.inl (v1+1)))
  else
   (.inr true))
theorem aWh (a0:List Int×bF)(a1:List Int×bF)(l0_1:a0.1.length<=2^63-1)(l0_2:a0.2.length<=2^63-1)(l1_1:a1.1.length<=2^63-1)(l1_2:a1.2.length<=2^63-1) {cx:Cx} (hcx:cx.base=4):∀(n:Nat) (v1:Int),(0<=v1)/\(a0.2.length=a1.2.length)->tN ((a0.2.length:Int) - v1) < n->Aw.Good Tryz.prog none 9 (bodyPost Tryz.prog Tryz.f61 (RR cx (.v (.bool (aH (wD a0 a1) n v1))) [] [])) cx [] (.l aPj n::aPk) (aJp a0 a1 v1):=by
 intro n
 induction n with
 | zero=>intro v1 hi hn;exact absurd hn (eI _)
 | succ n ih =>
  intro v1 hi hn
  refine aR ?_
  cases h0:(decide ((v1:Int) < (a0.2.length:Int))) with
  | true =>
   have q0:=cJ h0
   let t1:List (St Tryz.prog):=[.d h0,.i v1 (a0.2.length),.L bU a0.2 v1 0 8,.i v1 (a1.2.length),.L bU a1.2 v1 0 8]
   cases h1:(!((((a0.2.getD (tN v1) dF).1:Int) == (a1.2.getD (tN v1) dF).1)&&((((a0.2.getD (tN v1) dF).2.1:Int) == (a1.2.getD (tN v1) dF).2.1)&&((((a0.2.getD (tN v1) dF).2.2.1:Int) == (a1.2.getD (tN v1) dF).2.2.1)&&((((a0.2.getD (tN v1) dF).2.2.2.1:Int) == (a1.2.getD (tN v1) dF).2.2.2.1)&&(((((a0.2.getD (tN v1) dF).2.2.2.2.1.1:Int) == (a1.2.getD (tN v1) dF).2.2.2.2.1.1)&&((((a0.2.getD (tN v1) dF).2.2.2.2.1.2.1:Int) == (a1.2.getD (tN v1) dF).2.2.2.2.1.2.1)&&((((a0.2.getD (tN v1) dF).2.2.2.2.1.2.2:Int) == (a1.2.getD (tN v1) dF).2.2.2.2.1.2.2)&&true)))&&((((a0.2.getD (tN v1) dF).2.2.2.2.2:Int) == (a1.2.getD (tN v1) dF).2.2.2.2.2)&&true))))))) with
   | true =>
    have e:=Eq.refl (wD a0 a1 v1);conv at e=>rhs;simp only [wD,h0,h1,aT]
    rw [aJ,e]
    exact rt (t1++[.d h1]) [] [] hcx (by kernel_rfl)
   | false =>
    have e:=Eq.refl (wD a0 a1 v1);conv at e=>rhs;simp only [wD,h0,h1,aT]
    rw [aI e]
    refine ba (t1++[.d h1]) [] [2,3,5] [4,5] hcx (m:=n) aPj (aPk) (aJp a0 a1 (W (v1+1))) (by kernel_rfl) ?_
    have z0:(W (v1+1))=(v1+1):=aS (by omega) (by omega)
    rw [z0]
    exact ih (v1+1) (by refine⟨?_,?_⟩<;>(try simp only [Ls])<;>first | omega | assumption | simp) (by omega)
  | false =>
   have q0:=cN h0
   have e:=Eq.refl (wD a0 a1 v1);conv at e=>rhs;simp only [wD,h0,aT]
   rw [aJ,e]
   exact rt [.d h0] [] [] hcx (by kernel_rfl)
def F61 (a0:List Int×bF)(a1:List Int×bF):Bool :=
 (bif (!(jQ a0.1 a1.1)) then
  false
 else
  (bif (((a0.2.length:Int):Int) != (a1.2.length:Int)) then
   false
  else
   (aH (wD a0 a1) (tN ((a0.2.length:Int) - 0)+1) 0)))
theorem C61 (a0:List Int×bF)(a1:List Int×bF)(l0_1:a0.1.length<=2^63-1)(l0_2:a0.2.length<=2^63-1)(l1_1:a1.1.length<=2^63-1)(l1_2:a1.2.length<=2^63-1):Con Tryz.prog 61 [(.a [(.s 0 0 a0.1.length 1),(.s 1 0 a0.2.length 8)]),(.a [(.s 2 0 a1.1.length 1),(.s 3 0 a1.2.length 8)])] [(.live false true (flat c3 a0.1)),(.live false true (flat cB a0.2)),(.live false true (flat c3 a1.1)),(.live false true (flat cB a1.2))] (.v (.bool (F61 a0 a1))) []:=by
 refine aY Tryz.func61 (by kernel_rfl) fun cx hcx=>?_
 let t0:List (St Tryz.prog):=[.c [0,2] (aRs a0.1 a1.1 (by omega) (by omega))]
 cases h0:(!(jQ a0.1 a1.1)) with
 | true =>
  have e:=Eq.refl (F61 a0 a1);conv at e=>rhs;simp only [F61,h0,aT]
  rw [e]
  exact rt (t0++[.d h0]) [] [] hcx (by kernel_rfl)
 | false =>
  let t1:List (St Tryz.prog):=(t0++[.d h0])
  cases h1:(((a0.2.length:Int):Int) != (a1.2.length:Int)) with
  | true =>
   have q1:=bne_iff_ne.1 h1
   have e:=Eq.refl (F61 a0 a1);conv at e=>rhs;simp only [F61,h0,h1,aT]
   rw [e]
   exact rt (t1++[.d h1]) [] [] hcx (by kernel_rfl)
  | false =>
   have q1:=bne_eq_false_iff_eq.1 h1
   have e:=Eq.refl (F61 a0 a1);conv at e=>rhs;simp only [F61,h0,h1,aT]
   rw [e]
   refine en (t1++[.d h1]) [] [2,3,5] [4,5] hcx aPj (aPk) (aJp a0 a1 0) (tN ((a0.2.length:Int) - 0)+1) (by kernel_rfl) ?_
   exact aWh a0 a1 l0_1 l0_2 l1_1 l1_2 hcx (tN ((a0.2.length:Int) - 0)+1) 0 (by refine⟨?_,?_⟩<;>(try simp only [Ls])<;>first | omega | assumption | simp) (by omega)
def VCH (l:gX):Prop:=l.length<=96/\∀i,i < l.length->vp (l.getD i dF).1=0/\(-100<=(l.getD i dF).2/\(l.getD i dF).2<=100)
theorem aHl {l:gX}:∀(d i n:Nat),d=l.length - i->i<=l.length->d < n->aH (hH l) n (i:Int)=0->∀j,i<=j->j < l.length->vp (l.getD j dF).1=0/\(-100<=(l.getD j dF).2/\(l.getD j dF).2<=100)
 | 0,i,n,hd,hi,hn,_,j,h1,h2=>absurd h2 (by omega)
 | d+1,i,n,hd,hi,hn,h,j,h1,h2=>by
  obtain⟨n,rfl⟩:∃m,n=m+1:=⟨n - 1,by omega⟩
  have e:hH l (i:Int)=bif (((F47 (l.getD i dF).1):Int) != 0) then .inr (F47 (l.getD i dF).1) else bif (!(F48 (l.getD i dF).2 (-100) 100)) then .inr 1 else .inl ((i+1:Nat):Int):=by
   simp only [hH,fZ]
   rw [cH (show((i:Nat):Int) < (l.length:Int) by omega),cond_true];rfl
  cases hv:(((F47 (l.getD i dF).1):Int) != 0) with
  | true =>
   rw [hv,cond_true] at e
   rw [aQ e] at h
   rw [h] at hv;exact absurd hv (by decide)
  | false =>
   rw [hv,cond_false] at e
   cases hw:(!(F48 (l.getD i dF).2 (-100) 100)) with
   | true =>
    rw [hw,cond_true] at e
    rw [aQ e] at h
    exact absurd h (by decide)
   | false =>
    rw [hw,cond_false] at e
    rw [aI e] at h
    by_cases hj:j=i
    ·subst hj
     refine⟨?_,?_⟩
     ·rw [←aVk];exact bne_eq_false_iff_eq.1 hv
     ·simp only [F48,Bool.not_eq_false'] at hw
      by_cases h3:(l.getD j dF).2≥-100
      ·rw [cH h3,cond_true] at hw;exact⟨h3,cJ hw⟩
      ·rw [dA h3,cond_false] at hw;cases hw
    ·exact aHl d (i+1) n (by omega) (by omega) (by omega) h j (by omega) h2
theorem aJq {l:gX} (h:jD l=0):VCH l:=by
 refine⟨vQ h,fun i hi=>?_⟩
 have hl:=vQ h
 unfold jD at h
 rw [dA (show ¬(l.length:Int) > 96 by omega),cond_false] at h
 exact aHl l.length 0 _ (by omega) (by omega) (by omega) h i (Nat.zero_le _) hi
theorem aPl {l:gX} (h:VCH l) {i:Nat} (hi:i < l.length):bdP 64 (l.getD i dF).1:=(aVl (h.2 i hi).1).1
section
variable {l : gX} {ns : List Int}
theorem aHm {i:Nat} (hi:i < ns.length):(gU l ns).getD i dF=l.getD (tN (ns.getD i dF)) dF:=by
 rw [aPa];simp [fV,hi]
theorem aHn (hl:ns.length<=1048576):∀(n i:Nat) (a1 a2 a3 b1 b2 b3:Int),ns.length - i < n ->
 aH (iX (gU l ns)) n ((i:Int),a1,a2,a3,b1,b2,b3) =
  (aH (cK l ns 0) n (a1,b1,(i:Int)),aH (cK l ns 1) n (a2,b2,(i:Int)),aH (cK l ns 2) n (a3,b3,(i:Int)))
 | 0,_,_,_,_,_,_,_,h=>absurd h (eI _)
 | n+1,i,a1,a2,a3,b1,b2,b3,h=>by
  have hm:(gU l ns).length=ns.length:=zW l ns
  by_cases h1:i < ns.length
  ·have hg:=aHm (l:=l) h1
   have e:iX (gU l ns) ((i:Int),a1,a2,a3,b1,b2,b3)=.inl (((i+1:Nat):Int),gZ (gZ (gZ a1 (l.getD (tN (ns.getD i dF)) dF).1.1.1) (l.getD (tN (ns.getD i dF)) dF).1.2.1.1) (l.getD (tN (ns.getD i dF)) dF).1.2.2.1,gZ (gZ (gZ a2 (l.getD (tN (ns.getD i dF)) dF).1.1.2.1) (l.getD (tN (ns.getD i dF)) dF).1.2.1.2.1) (l.getD (tN (ns.getD i dF)) dF).1.2.2.2.1,gZ (gZ (gZ a3 (l.getD (tN (ns.getD i dF)) dF).1.1.2.2) (l.getD (tN (ns.getD i dF)) dF).1.2.1.2.2) (l.getD (tN (ns.getD i dF)) dF).1.2.2.2.2,
    dB (dB (dB b1 (l.getD (tN (ns.getD i dF)) dF).1.1.1) (l.getD (tN (ns.getD i dF)) dF).1.2.1.1) (l.getD (tN (ns.getD i dF)) dF).1.2.2.1,dB (dB (dB b2 (l.getD (tN (ns.getD i dF)) dF).1.1.2.1) (l.getD (tN (ns.getD i dF)) dF).1.2.1.2.1) (l.getD (tN (ns.getD i dF)) dF).1.2.2.2.1,dB (dB (dB b3 (l.getD (tN (ns.getD i dF)) dF).1.1.2.2) (l.getD (tN (ns.getD i dF)) dF).1.2.1.2.2) (l.getD (tN (ns.getD i dF)) dF).1.2.2.2.2):=by
    simp only [iX,fZ,hg,hm]
    rw [cH (by omega),cond_true];rfl
   have r:∀k a b,cK l ns k (a,b,(i:Int))=.inl (gZ (gZ (gZ a (eK (l.getD (tN (ns.getD i dF)) dF).1.1 k)) (eK (l.getD (tN (ns.getD i dF)) dF).1.2.1 k)) (eK (l.getD (tN (ns.getD i dF)) dF).1.2.2 k),
    dB (dB (dB b (eK (l.getD (tN (ns.getD i dF)) dF).1.1 k)) (eK (l.getD (tN (ns.getD i dF)) dF).1.2.1 k)) (eK (l.getD (tN (ns.getD i dF)) dF).1.2.2 k),((i+1:Nat):Int)):=fun k a b=>by
    simp only [cK,fZ]
    rw [cH (by omega),cond_true];rfl
   rw [aI e,aI (r 0 a1 b1),aI (r 1 a2 b2),aI (r 2 a3 b3)]
   exact aHn hl n (i+1) _ _ _ _ _ _ (by omega)
  ·have e:iX (gU l ns) ((i:Int),a1,a2,a3,b1,b2,b3)=.inr (aCy a1 b1,aCy a2 b2,aCy a3 b3):=by
    simp only [iX,hm]
    rw [dA (by omega),cond_false];rfl
   have r:∀k a b,cK l ns k (a,b,(i:Int))=.inr (aCy a b):=fun k a b=>by
    simp only [cK]
    rw [dA (by omega),cond_false]
   rw [aQ e,aQ (r 0 a1 b1),aQ (r 1 a2 b2),aQ (r 2 a3 b3)]
theorem aUi (hv:VCH l)(hi:InR l.length ns)(h1:1<=ns.length)(hl:ns.length<=1048576):eA (gU l ns)=(aO l ns 0,aO l ns 1,aO l ns 2):=by
 have hm:(gU l ns).length=ns.length:=zW l ns
 have hg:=aHm (l:=l) (ns:=ns) (i:=0) (by omega)
 have h0:=hi.at (i:=0) (by omega)
 have hb:=aPl hv (i:=tN (ns.getD 0 dF)) (by omega)
 unfold eA aO
 rw [hm,show(tN 0)=0 from rfl,hg]
 obtain⟨n,hn⟩:∃n,tN ((ns.length:Int) - 0)+1=n+1:=⟨_,rfl⟩
 rw [hn]
 have hnn:ns.length<=n:=by omega
 generalize hp:l.getD (tN (ns.getD 0 dF)) dF=p at hb hg ⊢
 -- the first round
 have e:iX (gU l ns) (0,p.1.1.1,p.1.1.2.1,p.1.1.2.2,p.1.1.1,p.1.1.2.1,p.1.1.2.2)=.inl (((1:Nat):Int),gZ (gZ (gZ p.1.1.1 p.1.1.1) p.1.2.1.1) p.1.2.2.1,gZ (gZ (gZ p.1.1.2.1 p.1.1.2.1) p.1.2.1.2.1) p.1.2.2.2.1,gZ (gZ (gZ p.1.1.2.2 p.1.1.2.2) p.1.2.1.2.2) p.1.2.2.2.2,
  dB (dB (dB p.1.1.1 p.1.1.1) p.1.2.1.1) p.1.2.2.1,dB (dB (dB p.1.1.2.1 p.1.1.2.1) p.1.2.1.2.1) p.1.2.2.2.1,dB (dB (dB p.1.1.2.2 p.1.1.2.2) p.1.2.1.2.2) p.1.2.2.2.2):=by
  simp only [iX,show(tN 0)=0 from rfl,hg,hm]
  rw [cH (by omega),cond_true];rfl
 have r:∀k,cK l ns k (64,(-64),0)=.inl (gZ (gZ (gZ 64 (eK p.1.1 k)) (eK p.1.2.1 k)) (eK p.1.2.2 k),
  dB (dB (dB (-64) (eK p.1.1 k)) (eK p.1.2.1 k)) (eK p.1.2.2 k),((1:Nat):Int)):=fun k=>by
  simp only [cK,show(tN 0)=0 from rfl,hp]
  rw [cH (by omega),cond_true];rfl
 have m1:∀x y z:Int,(-64<=x/\x<=64)->gZ (gZ (gZ 64 x) y) z=gZ (gZ (gZ x x) y) z:=fun x y z hx=>by
  congr 2;unfold gZ;split<;>split<;>omega
 have m2:∀x y z:Int,(-64<=x/\x<=64)->dB (dB (dB (-64) x) y) z=dB (dB (dB x x) y) z:=fun x y z hx=>by
  congr 2;unfold dB;split<;>split<;>omega
 obtain⟨⟨hx,hy,hz⟩,_⟩:=hb
 rw [aI e,aI (r 0),aI (r 1),aI (r 2),aHn hl n 1 _ _ _ _ _ _ (by omega)]
 rw [m1 _ _ _ (show -64<=eK p.1.1 0/\eK p.1.1 0<=64 from hx),m2 _ _ _ (show -64<=eK p.1.1 0/\eK p.1.1 0<=64 from hx),
  m1 _ _ _ (show -64<=eK p.1.1 1/\eK p.1.1 1<=64 from hy),m2 _ _ _ (show -64<=eK p.1.1 1/\eK p.1.1 1<=64 from hy),
  m1 _ _ _ (show -64<=eK p.1.1 2/\eK p.1.1 2<=64 from hz),m2 _ _ _ (show -64<=eK p.1.1 2/\eK p.1.1 2<=64 from hz)]
 rfl
theorem aLu (hv:VCH l)(hi:InR l.length ns)(k:Int):∀(n i:Nat) (a b:Int),ns.length - i < n->(-64<=a/\a<=64)->(-64<=b/\b<=64)->-64<=aH (cK l ns k) n (a,b,(i:Int))/\aH (cK l ns k) n (a,b,(i:Int))<=64
 | 0,_,_,_,h,_,_=>absurd h (eI _)
 | n+1,i,a,b,h,ha,hb=>by
  by_cases h1:i < ns.length
  ·have h0:=hi.at h1
   have hp:=aPl hv (i:=tN (ns.getD i dF)) (by omega)
   have r:cK l ns k (a,b,(i:Int))=.inl (gZ (gZ (gZ a (eK (l.getD (tN (ns.getD i dF)) dF).1.1 k)) (eK (l.getD (tN (ns.getD i dF)) dF).1.2.1 k)) (eK (l.getD (tN (ns.getD i dF)) dF).1.2.2 k),
    dB (dB (dB b (eK (l.getD (tN (ns.getD i dF)) dF).1.1 k)) (eK (l.getD (tN (ns.getD i dF)) dF).1.2.1 k)) (eK (l.getD (tN (ns.getD i dF)) dF).1.2.2 k),((i+1:Nat):Int)):=by
    simp only [cK,fZ]
    rw [cH (by omega),cond_true];rfl
   rw [aI r]
   have ax:∀p:Zt,bd 64 p->-64<=eK p k/\eK p k<=64:=fun p hp=>by
    unfold eK
    rw [Bool.cond_eq_ite]
    split
    ·exact hp.1
    ·rw [Bool.cond_eq_ite]
     split
     ·exact hp.2.1
     ·exact hp.2.2
   have qa1:=ax _ hp.1;have qa2:=ax _ hp.2.1;have qa3:=ax _ hp.2.2
   have mn:∀x y:Int,(-64<=x/\x<=64)->(-64<=y/\y<=64)->-64<=gZ x y/\gZ x y<=64:=fun x y hx hy=>by unfold gZ;split<;>assumption
   have mx:∀x y:Int,(-64<=x/\x<=64)->(-64<=y/\y<=64)->-64<=dB x y/\dB x y<=64:=fun x y hx hy=>by unfold dB;split<;>assumption
   exact aLu hv hi k n (i+1) _ _ (by omega) (mn _ _ (mn _ _ (mn _ _ ha qa1) qa2) qa3) (mx _ _ (mx _ _ (mx _ _ hb qa1) qa2) qa3)
  ·have r:cK l ns k (a,b,(i:Int))=.inr (aCy a b):=by
    simp only [cK]
    rw [dA (by omega),cond_false]
   rw [aQ r]
   unfold aCy
   rw [aS (by omega) (by omega),show(2:Int) ^ (min (tN 1) 64)=2 from by decide,Int.fdiv_eq_ediv_of_nonneg _ (by decide)]
   omega
theorem aJr (hv:VCH l)(hi:InR l.length ns)(k:Int):-64<=aO l ns k/\aO l ns k<=64 :=
 aLu hv hi k _ 0 64 (-64) (by omega) (by omega) (by omega)
theorem aUj (m:gX) {c:Zt} (hc:bd 64 c):zC m c=mD m c:=by
 obtain⟨h1,h2,h3⟩:=hc
 have hW:W (0 - 64)=-64:=by decide
 have e1:aBr c 64=true:=by
  unfold aBr aBq
  rw [hW,cH h1.1,cH h1.2,cH h2.1,cH h2.2,cH h3.1,cH h3.2];rfl
 have sz:∀x:Int,(-64<=x/\x<=64)->aBh x<=64:=fun x hx=>by
  unfold aBh
  rw [aS (n:=0 - x) (by omega) (by omega)]
  split<;>omega
 have e2:rW c 64=true:=by
  unfold rW
  rw [hW,cH (sz _ h1),cH (sz _ h2),cH (sz _ h3),cH (show c.1≥-64 from h1.1),cH (show c.2.1≥-64 from h2.1),cH (show c.2.2≥-64 from h3.1)];rfl
 have e3:rH m c=mC m c:=by
  unfold rH mC
  rw [aBx,e1,e2]
 have e4:qW m c=nP m c:=by
  funext ⟨v1,v2⟩
  rfl
 unfold zC mD
 rw [e3,e4]
def aWi (b:BU):Zt⊕Int->Zt⊕(BU×Int)
 | .inl s=>.inl s
 | .inr x=>.inr (b,x)
theorem aLv {b:BU} (hb:b.1=l) {k:Int}:∀(n i:Nat) (v15 v16 lo hi:Int),ns.length - i < n ->
 aH (gV b ns) n (v15,v16,k,lo,hi,k,(i:Int))=aWi b (aH (cX l ns) n (v15,v16,k,lo,hi,(i:Int)))
 | 0,_,_,_,_,_,h=>absurd h (eI _)
 | n+1,i,v15,v16,lo,hi,h=>by
  have hk:∀x:Int,rX (b.1,b.2.1,(b.2.2.1,b.2.2.2)) x k=gS (l.getD (tN x) dF) k:=fun x=>by
   rw [aFd,←hb];rfl
  by_cases h1:i < ns.length
  ·have e:gV b ns (v15,v16,k,lo,hi,k,(i:Int))=.inl (v15,v16,k,gZ lo (gS (l.getD (tN (ns.getD i dF)) dF) k),dB hi (gS (l.getD (tN (ns.getD i dF)) dF) k),k,((i+1:Nat):Int)):=by
    simp only [gV,hk,fZ]
    rw [cH (by omega),cond_true];rfl
   have r:cX l ns (v15,v16,k,lo,hi,(i:Int))=.inl (v15,v16,k,gZ lo (gS (l.getD (tN (ns.getD i dF)) dF) k),dB hi (gS (l.getD (tN (ns.getD i dF)) dF) k),((i+1:Nat):Int)):=by
    simp only [cX,fZ]
    rw [cH (by omega),cond_true];rfl
   rw [aI e,aI r]
   exact aLv hb n (i+1) _ _ _ _ (by omega)
  ·have e:gV b ns (v15,v16,k,lo,hi,k,(i:Int))=.inr (aWi b (bif (decide (((W (hi - lo)):Int) > v16)) then .inl (k,(W (hi - lo)),k+1) else .inl (v15,v16,k+1))):=by
    simp only [gV]
    rw [dA (by omega),cond_false]
    cases decide (((W (hi - lo)):Int) > v16)<;>rfl
   have r:cX l ns (v15,v16,k,lo,hi,(i:Int))=.inr (bif (decide (((W (hi - lo)):Int) > v16)) then .inl (k,(W (hi - lo)),k+1) else .inl (v15,v16,k+1)):=by
    simp only [cX]
    rw [dA (by omega),cond_false]
    cases decide (((W (hi - lo)):Int) > v16)<;>rfl
   rw [aQ e,aQ r]
theorem aLw {b:BU} (hb:b.1=l)(h1:1<=ns.length):∀(n:Nat) (v12 v13 k:Int),tN (3 - k) < n ->
 aH (iY b ns) n (v12,v13,k)=(b,aH (eU l ns) n (v12,v13,k))
 | 0,_,_,_,h=>absurd h (eI _)
 | n+1,v12,v13,k,h=>by
  have hk:∀x:Int,rX (b.1,b.2.1,(b.2.2.1,b.2.2.2)) x k=gS (l.getD (tN x) dF) k:=fun x=>by
   rw [aFd,←hb];rfl
  by_cases h3:k < 3
  ·generalize hK:gS (l.getD (tN (ns.getD (tN 0) dF)) dF) k=K
   have e0:iY b ns (v12,v13,k)=aH (gV b ns) (tN ((ns.length:Int) - 0)+1) (v12,v13,k,K,K,k,((0:Nat):Int)):=by
    simp only [iY,hk,hK]
    rw [cH h3,cond_true];rfl
   have r0:eU l ns (v12,v13,k)=aH (cX l ns) (tN ((ns.length:Int) - 1)+1) (v12,v13,k,K,K,((1:Nat):Int)):=by
    simp only [eU,hK]
    rw [cH h3,cond_true];rfl
   have f0:tN ((ns.length:Int) - 0)+1=(tN ((ns.length:Int) - 1)+1)+1:=by omega
   have e1:gV b ns (v12,v13,k,K,K,k,((0:Nat):Int))=.inl (v12,v13,k,K,K,k,((1:Nat):Int)):=by
    simp only [gV,hk,fZ]
    rw [show(tN 0)=0 from rfl] at hK
    rw [cH (by omega),cond_true,hK,if_neg (by omega)];rfl
   rw [f0,aI e1,aLv hb _ 1 _ _ _ _ (by omega),←r0] at e0
   -- what a round brings
   have hr:∃x y,eU l ns (v12,v13,k)=.inl (x,y,k+1):=by
    rw [r0]
    have gen:∀(m i:Nat) (lo hi:Int),ns.length - i < m->∃x y,aH (cX l ns) m (v12,v13,k,lo,hi,(i:Int))=.inl (x,y,k+1):=by
     intro m
     induction m with
     | zero=>intro _ _ _ h;exact absurd h (eI _)
     | succ m ih =>
      intro i lo hi hm
      by_cases hi1:i < ns.length
      ·have r:cX l ns (v12,v13,k,lo,hi,(i:Int))=.inl (v12,v13,k,gZ lo (gS (l.getD (tN (ns.getD i dF)) dF) k),dB hi (gS (l.getD (tN (ns.getD i dF)) dF) k),((i+1:Nat):Int)):=by
        simp only [cX,fZ]
        rw [cH (by omega),cond_true];rfl
       rw [aI r]
       exact ih (i+1) _ _ (by omega)
      ·have r:cX l ns (v12,v13,k,lo,hi,(i:Int))=.inr (bif (decide (((W (hi - lo)):Int) > v13)) then .inl (k,(W (hi - lo)),k+1) else .inl (v12,v13,k+1)):=by
        simp only [cX]
        rw [dA (by omega),cond_false]
        cases decide (((W (hi - lo)):Int) > v13)<;>rfl
       rw [aQ r]
       cases decide (((W (hi - lo)):Int) > v13)
       ·exact⟨_,_,rfl⟩
       ·exact⟨_,_,rfl⟩
    exact gen _ 1 K K (by omega)
   obtain⟨x,y,hr⟩:=hr
   rw [hr] at e0
   rw [aI (show _=Sum.inl (x,y,k+1) from e0),aI hr]
   exact aLw hb h1 n _ _ (k+1) (by omega)
  ·have e:iY b ns (v12,v13,k)=.inr (b,v12):=by
    simp only [iY]
    rw [dA h3,cond_false]
   have r:eU l ns (v12,v13,k)=.inr v12:=by
    simp only [eU]
    rw [dA h3,cond_false]
   rw [aQ e,aQ r]
theorem aUk {b:BU} (hb:b.1=l)(h1:1<=ns.length):aHd b ns=(b,aG l ns) :=
 aLw hb h1 _ _ _ _ (by omega)
end
end Go.Proofs.YtkdfcbmcgnaicaaGreat
namespace Go.Proofs.YtkdfcbmcgnaicaaGreat
open Go.Proofs Go.Aw Go.RowKit
set_option maxRecDepth 100000
abbrev NDE:=Int×Int×Int×Int×Zt×Int
def aRt (l:gX)(ns:List Int):Zt:=(aO l ns 0,aO l ns 1,aO l ns 2)
def ndR (l:gX)(ns:List Int)(fr lt rt:Int):NDE:=(fr,fr+ns.length,lt,rt,aRt l ns,(mD (gK l ns) (aRt l ns)).1)
def GT (l:gX)(leaf:Int):Nat->List Int->Int->Int->List Int×List NDE
 | 0,_,_,_=>([],[])
 | n+1,ns,fr,at_ =>
  if(ns.length:Int)<=leaf then(ns,[ndR l ns fr (-1) (-1)]) else
   let s:=rI l (aG l ns) ns
   let h:=(ns.length+1) / 2
   let a:=GT l leaf n (s.take h) fr (at_+1)
   let b:=GT l leaf n (s.drop h) (fr+h) (at_+1+a.2.length)
   (a.1++b.1,ndR l ns fr (at_+1) (at_+1+a.2.length)::(a.2++b.2))
theorem oE {l:gX} {leaf:Int} {n:Nat} {ns:List Int} {fr a:Int} (h:(ns.length:Int)<=leaf):GT l leaf (n+1) ns fr a=(ns,[ndR l ns fr (-1) (-1)]):=by
 rw [GT,if_pos h]
theorem oF {l:gX} {leaf:Int} {n:Nat} {ns:List Int} {fr a:Int} (h:¬(ns.length:Int)<=leaf):GT l leaf (n+1) ns fr a =
 ((GT l leaf n ((rI l (aG l ns) ns).take ((ns.length+1) / 2)) fr (a+1)).1++(GT l leaf n ((rI l (aG l ns) ns).drop ((ns.length+1) / 2)) (fr+((ns.length+1) / 2:Nat)) (a+1+(GT l leaf n ((rI l (aG l ns) ns).take ((ns.length+1) / 2)) fr (a+1)).2.length)).1,
   ndR l ns fr (a+1) (a+1+(GT l leaf n ((rI l (aG l ns) ns).take ((ns.length+1) / 2)) fr (a+1)).2.length)::((GT l leaf n ((rI l (aG l ns) ns).take ((ns.length+1) / 2)) fr (a+1)).2++(GT l leaf n ((rI l (aG l ns) ns).drop ((ns.length+1) / 2)) (fr+((ns.length+1) / 2:Nat)) (a+1+(GT l leaf n ((rI l (aG l ns) ns).take ((ns.length+1) / 2)) fr (a+1)).2.length)).2)):=by
 rw [GT,if_neg h]
theorem aPm {α:Type} (pre post:List α)(x y:α):(pre++x::post).set pre.length y=pre++y::post:=by
 rw [List.set_append_right _ _ (Nat.le_refl _),Nat.sub_self];rfl
theorem aLx {α:Type} [Inhabited α] (pre post:List α)(x:α):(pre++x::post).getD pre.length dF=x:=by
 rw [fV,List.getElem?_append_right (Nat.le_refl _),Nat.sub_self];rfl
theorem aTi {s:List Int} {h:Nat}:Aw.part s 0 (h:Int)=s.take h:=by unfold Aw.part;simp
theorem aWj {s:List Int} {h:Nat}:Aw.part s (h:Int) (s.length:Int)=s.drop h:=by
 unfold Aw.part
 rw [fZ,fZ]
 exact List.take_of_length_le (by rw [List.length_drop];exact Nat.le_refl _)
theorem aFj:∀(nr:Nat) (l:gX) (t:TR) (ns:List Int) (leaf:Int),PGRW l t ns leaf->ns.length < nr ->
 aA nr l t ns leaf=(t.1++(GT l leaf nr ns t.1.length t.2.length).1,t.2++(GT l leaf nr ns t.1.length t.2.length).2)
 | 0,_,_,_,_,_,h=>absurd h (eI _)
 | nr+1,l,t,ns,leaf,hp,hn=>by
  have h:=hp.rng;have hl:=hp.lf;have hnd:=hp.nds
  simp only [aA]
  have hW:W ((t.1.length:Int)+(ns.length:Int))=(t.1.length:Int)+ns.length:=aS (by omega) (by omega)
  by_cases h0:(ns.length:Int)<=leaf
  ·rw [cH h0,cond_true,oE h0,hW]
   rfl
  ·rw [dA h0,cond_false,oF h0]
   have g2:2<=ns.length:=by omega
   have hs:=tM hp (aG l ns)
   have hf:=tL (n:=ns.length) (by omega)
   have hso:=aPh (l:=l) (k:=aG l ns) (ns:=ns) (by omega)
   have hsl:=oC l (aG l ns) ns
   have hpt1:=dN (l:=aK l ns (aG l ns)) (a:=0) (b:=(((ns.length+1) / 2:Nat):Int)) (by omega)
   have hpt2:=dN (l:=aK l ns (aG l ns)) (a:=(((ns.length+1) / 2:Nat):Int)) (b:=(ns.length:Int)) (by omega)
   have h5:GRR _ (bQ (aA nr) l t ns leaf) _:=kO nr _ _ _ _ (kN hp _ g2) (by rw [hs.1,hf,hpt1];omega)
   have h5o:=h5.ol
   rw [hs.1,hf,hpt1] at h5o
   dsimp only at h5o
   have e2:bQ (aA nr) l t ns leaf=_:=aFj nr _ _ _ _ (kN hp _ g2) (by rw [hs.1,hf,hpt1];omega)
   have e3:aB (aA nr) l t ns leaf=_:=aFj nr _ _ _ _ (oD hp _ g2 h5) (by rw [hs.1,hf,hpt2];omega)
   have hf':W (Int.tdiv (W ((((rI l (aG l ns) ns).length:Nat):Int)+1)) 2)=(((ns.length+1) / 2:Nat):Int):=by rw [hsl];exact hf
   rw [hso,hf',aTi] at e2
   rw [hso,hf',aWj] at e3
   rw [e2] at h5o e3
   simp only [List.length_append,List.length_cons,List.length_nil,Nat.zero_add,Int.natCast_add,Int.natCast_one] at e2 e3 h5o
   have ho1:(GT l leaf nr ((rI l (aG l ns) ns).take ((ns.length+1) / 2)) t.1.length (t.2.length+1)).1.length=(ns.length+1) / 2:=by omega
   rw [ho1] at e3
   rw [e3,e2]
   simp only [fZ,List.append_assoc,List.cons_append,List.nil_append,aPm,aLx,hW,List.length_append,List.length_cons,Int.natCast_add,Int.natCast_one]
   rw [show(t.2.length:Int)+((GT l leaf nr ((rI l (aG l ns) ns).take ((ns.length+1) / 2)) t.1.length (t.2.length+1)).2.length+1)=t.2.length+1+(GT l leaf nr ((rI l (aG l ns) ns).take ((ns.length+1) / 2)) t.1.length (t.2.length+1)).2.length by omega]
   rfl
theorem aB4 (l:gX) {leaf:Int} (hl:1<=leaf):∀(n:Nat) (ns:List Int) (fr a:Int),ns.length < n->(GT l leaf n ns fr a).1.length=ns.length
 | 0,_,_,_,h=>absurd h (eI _)
 | n+1,ns,fr,a,h=>by
  by_cases h0:(ns.length:Int)<=leaf
  ·rw [oE h0]
  ·rw [oF h0]
   have hsl:=oC l (aG l ns) ns
   simp only [List.length_append]
   rw [aB4 l hl n _ _ _ (by rw [List.length_take,hsl];omega),aB4 l hl n _ _ _ (by rw [List.length_drop,hsl];omega),List.length_take,List.length_drop,hsl]
   omega
theorem aLy (pre s post:List Int) {i k:Int} (h:Nat)(hi:i=pre.length)(hk:k=i+h)(hh:h<=s.length):Aw.part (pre++(s++post)) i k=s.take h:=by
 unfold Aw.part
 rw [hk,hi,show((pre.length:Int)+(h:Int)).toNat=pre.length+h by omega,fZ,List.drop_append_of_le_length (Nat.le_refl _),List.drop_length,List.nil_append,show pre.length+h - pre.length=h by omega,List.take_append_of_le_length hh]
theorem aJs:∀(nr:Nat) (b:BU) (i k:Int),PADD b i k->VCH b.1->tN (k - i) < nr ->
 cI nr b i k=((b.2.2.2.length:Int),b.1,b.2.1,b.2.2.1.take i.toNat++((GT b.1 b.2.1 nr (Aw.part b.2.2.1 i k) i b.2.2.2.length).1++b.2.2.1.drop k.toNat),b.2.2.2++(GT b.1 b.2.1 nr (Aw.part b.2.2.1 i k) i b.2.2.2.length).2)
 | 0,_,_,_,_,_,h=>absurd h (eI _)
 | nr+1,b,i,k,hp,hv,hn=>by
  have h:=hp.rng;have hn2:=hp.nds;have hl:=hp.lf
  have hW:W (k - i)=k - i:=aS (by omega) (by omega)
  have hpl:=dN (l:=b.2.2.1) (a:=i) (b:=k) (by omega)
  have hir:=hp.inr.part i k
  have hcen:eA (dR b i k)=aRt b.1 (Aw.part b.2.2.1 i k):=aUi hv hir (by rw [hpl];omega) (by rw [hpl];omega)
  have hrad:(iE b i k).1=(mD (gK b.1 (Aw.part b.2.2.1 i k)) (aRt b.1 (Aw.part b.2.2.1 i k))).1:=by
   unfold iE
   rw [hcen,aUj _ ⟨aJr hv hir 0,aJr hv hir 1,aJr hv hir 2⟩]
   rfl
  have hnd:∀x y,((i,k,x,y,eA (dR b i k),(iE b i k).1):NDE)=ndR b.1 (Aw.part b.2.2.1 i k) i x y:=fun x y=>by
   unfold ndR
   rw [hcen,hrad,hpl,show i+((tN k - tN i:Nat):Int)=k by omega]
  simp only [cI]
  by_cases h0:W (k - i) > b.2.1
  ·rw [cH h0,cond_true,oF (by rw [hpl];omega)]
   have h2:2<=k - i:=by omega
   have hm:=aBu ⟨h.1,h.2.1,by omega⟩
   have hax:(aHf b i k).2=aG b.1 (Aw.part b.2.2.1 i k):=by
    unfold aHf
    exact congrArg Prod.snd (aUk (l:=b.1) (b:=(b.1,b.2.1,b.2.2.1,b.2.2.2++[(i,k,(-1),(-1),(eA (dR b i k)),(iE b i k).1)])) rfl (by rw [hpl];omega))
   have hor:zD b i k=b.2.2.1.take i.toNat++(rI b.1 (aG b.1 (Aw.part b.2.2.1 i k)) (Aw.part b.2.2.1 i k)++b.2.2.1.drop k.toNat):=by
    unfold zD
    rw [aUh (by omega),hax,List.append_assoc,show i.toNat+(k.toNat - i.toNat)=k.toNat by omega]
    rfl
   have h5:ADDR _ (fQ (cI nr) b i k).2 i _:=wC nr _ _ _ (aM1 hp h2) (by rw [hm];omega)
   have e5:fQ (cI nr) b i k=_:=aJs nr _ _ _ (aM1 hp h2) hv (by rw [hm];omega)
   have e6:aV (cI nr) b i k=_:=aJs nr _ _ _ (aPb hp (tK hp).1 h2 h5) hv (by rw [hm];omega)
   have hsl:=oC b.1 (aG b.1 (Aw.part b.2.2.1 i k)) (Aw.part b.2.2.1 i k)
   rw [hm,hnd] at e5
   generalize hs:rI b.1 (aG b.1 (Aw.part b.2.2.1 i k)) (Aw.part b.2.2.1 i k)=s at hor hsl e5 e6 ⊢
   generalize hh:((Aw.part b.2.2.1 i k).length+1) / 2=hf at e5 e6 ⊢
   have hfe:(i+(k - i+1) / 2)=i+(hf:Int):=by rw [←hh,hpl];omega
   have hsn:s.length=(k - i).toNat:=by rw [hsl,hpl];omega
   have hfs:hf<=s.length:=by rw [←hh,hpl,hsn];omega
   have htk:(b.2.2.1.take i.toNat).length=i.toNat:=by rw [List.length_take];omega
   dsimp only at e5
   have d1:(b.2.2.1.take i.toNat++(s++b.2.2.1.drop k.toNat)).take i.toNat=b.2.2.1.take i.toNat:=by
    rw [List.take_append_of_le_length (by rw [htk];exact Nat.le_refl _),List.take_of_length_le (by rw [htk];exact Nat.le_refl _)]
   have d2:(b.2.2.1.take i.toNat++(s++b.2.2.1.drop k.toNat)).drop (i+(hf:Int)).toNat=s.drop hf++b.2.2.1.drop k.toNat:=by
    rw [List.drop_append,List.drop_of_length_le (by rw [htk];omega),List.nil_append,htk,show(i+(hf:Int)).toNat - i.toNat=hf by omega,List.drop_append_of_le_length hfs]
   have g1:=aB4 b.1 hl nr (s.take hf) i (((b.2.2.2++[ndR b.1 (Aw.part b.2.2.1 i k) i (-1) (-1)]).length:Nat):Int) (by rw [List.length_take,hsn];have:=hn;rw [←hh,hpl];omega)
   have g2:=aB4 b.1 hl nr (s.drop hf) (i+(hf:Int)) ((((b.2.2.2++[ndR b.1 (Aw.part b.2.2.1 i k) i (-1) (-1)])++(GT b.1 b.2.1 nr (s.take hf) i (((b.2.2.2++[ndR b.1 (Aw.part b.2.2.1 i k) i (-1) (-1)]).length:Nat):Int)).2).length:Nat):Int) (by rw [List.length_drop,hsn];have:=hn;rw [←hh,hpl];omega)
   rw [hor,hfe,aLy (b.2.2.1.take i.toNat) s (b.2.2.1.drop k.toNat) hf (by rw [htk];omega) rfl hfs,d1,d2] at e5
   rw [e5,hm,hfe] at e6
   dsimp only at e6
   rw [←List.append_assoc (List.take i.toNat b.2.2.1)] at e6
   have hl1:(b.2.2.1.take i.toNat++(GT b.1 b.2.1 nr (s.take hf) i (((b.2.2.2++[ndR b.1 (Aw.part b.2.2.1 i k) i (-1) (-1)]).length:Nat):Int)).1).length=i.toNat+hf:=by
    rw [List.length_append,htk,g1,List.length_take];omega
   rw [aLy _ (s.drop hf) (b.2.2.1.drop k.toNat) (s.drop hf).length (by rw [hl1];omega) (by rw [List.length_drop,hsn];omega) (Nat.le_refl _),List.take_length] at e6
   have d3:∀x y z:List Int,x.length=i.toNat+hf->(x++(y++z)).take (i+(hf:Int)).toNat=x:=fun x y z hx=>by
    rw [show(i+(hf:Int)).toNat=x.length by omega,List.take_append_of_le_length (Nat.le_refl _),List.take_length]
   have d4:∀x y z:List Int,x.length=i.toNat+hf->y.length=s.length - hf->(x++(y++z)).drop k.toNat=z:=fun x y z hx hy=>by
    rw [←List.append_assoc,show k.toNat=(x++y).length by rw [List.length_append,hx,hy,hsn];omega,List.drop_append_of_le_length (Nat.le_refl _),List.drop_length,List.nil_append]
   rw [d3 _ _ _ hl1,d4 _ _ _ hl1 (by rw [List.length_drop])] at e6
   rw [e6,e5]
   simp only [fZ,List.append_assoc,List.cons_append,List.nil_append,aPm,aLx,List.length_append,List.length_cons,List.length_nil,Nat.zero_add,Int.natCast_add,Int.natCast_one]
   rw [show(b.2.2.2.length:Int)+((GT b.1 b.2.1 nr (s.take hf) i ((b.2.2.2.length:Int)+1)).2.length+1)=b.2.2.2.length+1+(GT b.1 b.2.1 nr (s.take hf) i ((b.2.2.2.length:Int)+1)).2.length by omega]
   rfl
  ·rw [dA h0,cond_false,oE (by rw [hpl];omega),hnd]
   dsimp only
   rw [←List.append_assoc,List.append_assoc]
   have:b.2.2.1.take i.toNat++(Aw.part b.2.2.1 i k++b.2.2.1.drop k.toNat)=b.2.2.1:=by
    unfold Aw.part
    have e:b.2.2.1.drop k.toNat=(b.2.2.1.drop i.toNat).drop (k.toNat - i.toNat):=by rw [List.drop_drop,show i.toNat+(k.toNat - i.toNat)=k.toNat by omega]
    rw [e,List.take_append_drop,List.take_append_drop]
   rw [this]
theorem aWk (l:gX)(t:TR)(ns:List Int)(leaf:Int)(hp:PGRW l ([],[]) ns leaf):gY l t ns leaf=fM l ([],[]) ns leaf:=by
 have h:=hp.rng;have hl:=hp.lf
 unfold gY fM
 simp only [fW,aA]
 by_cases h0:(ns.length:Int)<=leaf
 ·rw [cH h0,cond_true,cond_true]
  rfl
 ·rw [dA h0,cond_false,cond_false]
  have g2:2<=ns.length:=by omega
  have hs:=tM hp (aG l ns)
  have hf:=tL (n:=ns.length) (by omega)
  have hpt1:=dN (l:=aK l ns (aG l ns)) (a:=0) (b:=(((ns.length+1) / 2:Nat):Int)) (by omega)
  have hpt2:=dN (l:=aK l ns (aG l ns)) (a:=(((ns.length+1) / 2:Nat):Int)) (b:=(ns.length:Int)) (by omega)
  have e2:eB l t ns leaf=bQ (aA ns.length) l ([],[]) ns leaf:=by
   unfold eB bQ jY
   refine(aPi _ l ([],_) _ leaf (kN (t:=([],[])) hp _ g2) (lss _)).trans ?_
   exact sG _ _ _ _ _ _ (kN hp _ g2) (lss _) (by rw [hs.1,hf,hpt1];omega)
  have h5:GRR _ (bQ (aA ns.length) l ([],[]) ns leaf) _:=kO _ _ _ _ _ (kN hp _ g2) (by rw [hs.1,hf,hpt1];omega)
  have e3:aD l t ns leaf=aB (aA ns.length) l ([],[]) ns leaf:=by
   unfold aD aB fM
   rw [e2]
   exact sG _ _ _ _ _ _ (oD hp _ g2 h5) (lss _) (by rw [hs.1,hf,hpt2];omega)
  rw [e3,e2]
  rfl
def lZ (n:Nat):List Int:=(List.range n).map (fun i:Nat=>(i:Int))
theorem fN (n:Nat):(lZ n).length=n:=by simp [lZ]
theorem aDe (n:Nat):lZ (n+1)=lZ n++[(n:Int)]:=by simp [lZ,List.range_succ]
theorem aB5 (n:Nat):InR n (lZ n):=fun x hx=>by
 simp only [lZ,List.mem_map,List.mem_range] at hx
 obtain⟨i,hi,rfl⟩:=hx
 omega
def BT (l:gX)(leaf:Int):List Int×List NDE:=if l.length=0 then([],[]) else GT l leaf (l.length+1) (lZ l.length) 0 0
theorem aM3 {l:gX} (h:1<=l.length)(hl:l.length<=96) {leaf:Int} (hf:1<=leaf):PGRW l ([],[]) (lZ l.length) leaf :=
 ⟨aB5 _,by rw [fN];simp only [List.length_nil];omega,by rw [fN];simp only [List.length_nil];omega,hf⟩
theorem aJt (l:gX)(hl:l.length<=96) {leaf:Int} (hf:1<=leaf):lY l leaf=BT l leaf:=by
 have lp:∀(n i:Nat),l.length - i < n->i<=l.length->aH (iA l leaf) n (lZ i,(i:Int))=BT l leaf:=by
  intro n
  induction n with
  | zero=>intro i h;exact absurd h (eI _)
  | succ n ih =>
   intro i h hi
   by_cases h1:i < l.length
   ·have e:iA l leaf (lZ i,(i:Int))=.inl (lZ (i+1),((i+1:Nat):Int)):=by
     simp only [iA]
     rw [cH (by omega),cond_true,aDe];rfl
    rw [aI e]
    exact ih (i+1) (by omega) (by omega)
   ·obtain rfl:i=l.length:=by omega
    refine aQ ?_
    simp only [iA]
    rw [dA (by omega),cond_false]
    unfold BT
    by_cases h0:l.length=0
    ·rw [if_pos h0,show(((l.length:Int):Int) == 0)=true by simp [h0],cond_true]
    ·have hp:=aM3 (l:=l) (by omega) hl hf
     rw [if_neg h0,show(((l.length:Int):Int) == 0)=false by rw [beq_eq_false_iff_ne];omega,cond_false,aWk _ _ _ _ hp]
     unfold fM
     rw [aFj _ _ _ _ _ hp (lss _),fN]
     rfl
 exact lp (tN ((l.length:Int) - 0)+1) 0 (by omega) (Nat.zero_le _)
theorem aPn (l:gX)(hv:VCH l) {leaf:Int} (hf:1<=leaf):lW l leaf=BT l leaf:=by
 have hl:=hv.1
 have lp:∀(n i:Nat),l.length - i < n->i<=l.length->aH (hZ l leaf) n (lZ i,([]:List NDE),(i:Int))=BT l leaf:=by
  intro n
  induction n with
  | zero=>intro i h;exact absurd h (eI _)
  | succ n ih =>
   intro i h hi
   by_cases h1:i < l.length
   ·have e:hZ l leaf (lZ i,([]:List NDE),(i:Int))=.inl (lZ (i+1),([]:List NDE),((i+1:Nat):Int)):=by
     simp only [hZ]
     rw [cH (by omega),cond_true,aDe];rfl
    rw [aI e]
    exact ih (i+1) (by omega) (by omega)
   ·obtain rfl:i=l.length:=by omega
    refine aQ ?_
    simp only [hZ]
    rw [dA (by omega),cond_false]
    unfold BT
    by_cases h0:l.length=0
    ·rw [if_pos h0,dA (by omega),cond_false]
     have:lZ l.length=[]:=by rw [h0];simp [lZ]
     rw [this]
    ·have hp:PADD (l,leaf,(lZ l.length,([]:List NDE))) 0 (l.length:Int):=⟨aB5 _,by dsimp only;rw [fN];omega,by dsimp only;simp only [List.length_nil];omega,hf⟩
     rw [if_neg h0,cH (by omega),cond_true]
     unfold F49
     rw [aJs _ _ _ _ hp hv (lss _)]
     dsimp only
     have hpt:Aw.part (lZ l.length) 0 (l.length:Int)=lZ l.length:=by rw [aTi,List.take_of_length_le (by rw [fN];exact Nat.le_refl _)]
     have hsub:tN ((l.length:Int) - 0)=l.length:=by omega
     rw [hpt,hsub,fZ,List.drop_of_length_le (by rw [fN];exact Nat.le_refl _),List.append_nil]
     rfl
 exact lp (tN ((l.length:Int) - 0)+1) 0 (by omega) (Nat.zero_le _)
theorem aJu (l:gX) {leaf:Int} (hl:1<=leaf):∀(n:Nat) (ns:List Int) (fr a:Int),ns.length < n->1<=ns.length->(GT l leaf n ns fr a).2.length+1<=2*ns.length
 | 0,_,_,_,h,_=>absurd h (eI _)
 | n+1,ns,fr,a,h,h1=>by
  by_cases h0:(ns.length:Int)<=leaf
  ·rw [oE h0];simp only [List.length_cons,List.length_nil];omega
  ·rw [oF h0]
   have hsl:=oC l (aG l ns) ns
   have g1:=aJu l hl n ((rI l (aG l ns) ns).take ((ns.length+1) / 2)) fr (a+1) (by rw [List.length_take,hsl];omega) (by rw [List.length_take,hsl];omega)
   have g2:=aJu l hl n ((rI l (aG l ns) ns).drop ((ns.length+1) / 2)) (fr+((ns.length+1) / 2:Nat)) (a+1+(GT l leaf n ((rI l (aG l ns) ns).take ((ns.length+1) / 2)) fr (a+1)).2.length) (by rw [List.length_drop,hsl];omega) (by rw [List.length_drop,hsl];omega)
   rw [List.length_take,hsl] at g1
   rw [List.length_drop,hsl] at g2
   simp only [List.length_cons,List.length_append]
   omega
theorem xS (l:gX)(hl:l.length<=96) {leaf:Int} (hf:1<=leaf):(BT l leaf).1.length=l.length/\(BT l leaf).2.length<=192:=by
 unfold BT
 by_cases h0:l.length=0
 ·rw [if_pos h0,h0];exact⟨rfl,Nat.zero_le _⟩
 ·rw [if_neg h0]
  have g1:=aB4 l hf (l.length+1) (lZ l.length) 0 0 (by rw [fN];omega)
  have g2:=aJu l hf (l.length+1) (lZ l.length) 0 0 (by rw [fN];omega) (by rw [fN];omega)
  rw [fN] at g1 g2
  exact⟨g1,by omega⟩
theorem aRu {l:gX} {leaf:Int} (h:jD l=0)(hf:1<=leaf):(lW l leaf).1.length<=96/\(lW l leaf).2.length<=192:=by
 have hv:=aJq h
 rw [aPn l hv hf]
 have:=xS l hv.1 hf
 have:=hv.1
 omega
theorem aRv {l:gX} {leaf:Int} (h:kW l=0)(hf:1<=leaf):(lY l leaf).1.length<=96/\(lY l leaf).2.length<=192:=by
 have hl:=aHg h
 rw [aJt l hl hf]
 have:=xS l hl hf
 omega
noncomputable def xT:Code:=(aM [1,1,0,1] [] (aL Tryz.f76) []).1
noncomputable def xU:List K:=(aM [1,1,0,1] [] (aL Tryz.f76) []).2
def uS (a0:List Int)(a1:List Int)(v1:Int):LS:=⟨gD 26 [(0,(.s 0 0 a0.length 1)),(1,(.s 1 0 a1.length 1)),(12,(iv (a0.length:Int))),(13,(iv v1))],[(.live false true (flat c3 a0)),(.live false true (flat c3 a1))]⟩
def jZ (a0:List Int)(a1:List Int):Int->(Int)⊕(Bool)
 | v1 =>
  (bif (decide ((v1:Int) < (a0.length:Int))) then
   (bif (((a0.getD (tN v1) dF):Int) != (a1.getD (tN v1) dF)) then
    (.inr false)
   else
    (.inl (v1+1)))
  else
   (.inr true))
theorem aM4 (a0:List Int)(a1:List Int)(l0:a0.length<=2^63-1)(l1:a1.length<=2^63-1) {cx:Cx} (hcx:cx.base=2):∀(n:Nat) (v1:Int),(0<=v1)/\(a0.length=a1.length)->tN ((a0.length:Int) - v1) < n->Aw.Good Tryz.prog none 9 (bodyPost Tryz.prog Tryz.f76 (RR cx (.v (.bool (aH (jZ a0 a1) n v1))) [] [])) cx [] (.l xT n::xU) (uS a0 a1 v1):=by
 intro n
 induction n with
 | zero=>intro v1 hi hn;exact absurd hn (eI _)
 | succ n ih =>
  intro v1 hi hn
  refine aR ?_
  cases h0:(decide ((v1:Int) < (a0.length:Int))) with
  | true =>
   have q0:=cJ h0
   let t1:List (St Tryz.prog):=[.d h0,.i v1 (a0.length),.L aF a0 v1 0 1,.i v1 (a1.length),.L aF a1 v1 0 1]
   cases h1:(((a0.getD (tN v1) dF):Int) != (a1.getD (tN v1) dF)) with
   | true =>
    have q1:=bne_iff_ne.1 h1
    have e:=Eq.refl (jZ a0 a1 v1);conv at e=>rhs;simp only [jZ,h0,h1,aT]
    rw [aJ,e]
    exact rt (t1++[.d h1]) [] [] hcx (by kernel_rfl)
   | false =>
    have q1:=bne_eq_false_iff_eq.1 h1
    have e:=Eq.refl (jZ a0 a1 v1);conv at e=>rhs;simp only [jZ,h0,h1,aT]
    rw [aI e]
    refine ba (t1++[.d h1]) [] [0,1,12,13] [] hcx (m:=n) xT (xU) (uS a0 a1 (W (v1+1))) (by kernel_rfl) ?_
    have z0:(W (v1+1))=(v1+1):=aS (by omega) (by omega)
    rw [z0]
    exact ih (v1+1) (by refine⟨?_,?_⟩<;>(try simp only [Ls])<;>first | omega | assumption | simp) (by omega)
  | false =>
   have q0:=cN h0
   have e:=Eq.refl (jZ a0 a1 v1);conv at e=>rhs;simp only [jZ,h0,aT]
   rw [aJ,e]
   exact rt [.d h0] [] [] hcx (by kernel_rfl)
def oG (a0:List Int)(a1:List Int):Bool :=
 (bif (((a0.length:Int):Int) != (a1.length:Int)) then
  false
 else
  (aH (jZ a0 a1) (tN ((a0.length:Int) - 0)+1) 0))
theorem aRw (a0:List Int)(a1:List Int)(l0:a0.length<=2^63-1)(l1:a1.length<=2^63-1):Con Tryz.prog 76 [(.s 0 0 a0.length 1),(.s 1 0 a1.length 1)] [(.live false true (flat c3 a0)),(.live false true (flat c3 a1))] (.v (.bool (oG a0 a1))) []:=by
 refine aY Tryz.func76 (by kernel_rfl) fun cx hcx=>?_
 cases h0:(((a0.length:Int):Int) != (a1.length:Int)) with
 | true =>
  have q0:=bne_iff_ne.1 h0
  have e:=Eq.refl (oG a0 a1);conv at e=>rhs;simp only [oG,h0,aT]
  rw [e]
  exact rt [.d h0] [] [] hcx (by kernel_rfl)
 | false =>
  have q0:=bne_eq_false_iff_eq.1 h0
  have e:=Eq.refl (oG a0 a1);conv at e=>rhs;simp only [oG,h0,aT]
  rw [e]
  refine en [.d h0] [] [0,1,12,13] [] hcx xT (xU) (uS a0 a1 0) (tN ((a0.length:Int) - 0)+1) (by kernel_rfl) ?_
  exact aM4 a0 a1 l0 l1 hcx (tN ((a0.length:Int) - 0)+1) 0 (by refine⟨?_,?_⟩<;>(try simp only [Ls])<;>first | omega | assumption | simp) (by omega)
noncomputable def xV:Code:=(aM [1,1,0,1] [] (aL Tryz.f77) []).1
noncomputable def xW:List K:=(aM [1,1,0,1] [] (aL Tryz.f77) []).2
def uT (a0:bF)(a1:bF)(v1:Int):LS:=⟨gD 26 [(0,(.s 0 0 a0.length 8)),(1,(.s 1 0 a1.length 8)),(12,(iv (a0.length:Int))),(13,(iv v1))],[(.live false true (flat cB a0)),(.live false true (flat cB a1))]⟩
def kA (a0:bF)(a1:bF):Int->(Int)⊕(Bool)
 | v1 =>
  (bif (decide ((v1:Int) < (a0.length:Int))) then
   (bif (!((((a0.getD (tN v1) dF).1:Int) == (a1.getD (tN v1) dF).1)&&((((a0.getD (tN v1) dF).2.1:Int) == (a1.getD (tN v1) dF).2.1)&&((((a0.getD (tN v1) dF).2.2.1:Int) == (a1.getD (tN v1) dF).2.2.1)&&((((a0.getD (tN v1) dF).2.2.2.1:Int) == (a1.getD (tN v1) dF).2.2.2.1)&&(((((a0.getD (tN v1) dF).2.2.2.2.1.1:Int) == (a1.getD (tN v1) dF).2.2.2.2.1.1)&&((((a0.getD (tN v1) dF).2.2.2.2.1.2.1:Int) == (a1.getD (tN v1) dF).2.2.2.2.1.2.1)&&((((a0.getD (tN v1) dF).2.2.2.2.1.2.2:Int) == (a1.getD (tN v1) dF).2.2.2.2.1.2.2)&&true)))&&((((a0.getD (tN v1) dF).2.2.2.2.2:Int) == (a1.getD (tN v1) dF).2.2.2.2.2)&&true))))))) then
    (.inr false)
   else
    (.inl (v1+1)))
  else
   (.inr true))
theorem aM5 (a0:bF)(a1:bF)(l0:a0.length<=2^63-1)(l1:a1.length<=2^63-1) {cx:Cx} (hcx:cx.base=2):∀(n:Nat) (v1:Int),(0<=v1)/\(a0.length=a1.length)->tN ((a0.length:Int) - v1) < n->Aw.Good Tryz.prog none 9 (bodyPost Tryz.prog Tryz.f77 (RR cx (.v (.bool (aH (kA a0 a1) n v1))) [] [])) cx [] (.l xV n::xW) (uT a0 a1 v1):=by
 intro n
 induction n with
 | zero=>intro v1 hi hn;exact absurd hn (eI _)
 | succ n ih =>
  intro v1 hi hn
  refine aR ?_
  cases h0:(decide ((v1:Int) < (a0.length:Int))) with
  | true =>
   have q0:=cJ h0
   let t1:List (St Tryz.prog):=[.d h0,.i v1 (a0.length),.L bU a0 v1 0 8,.i v1 (a1.length),.L bU a1 v1 0 8]
   cases h1:(!((((a0.getD (tN v1) dF).1:Int) == (a1.getD (tN v1) dF).1)&&((((a0.getD (tN v1) dF).2.1:Int) == (a1.getD (tN v1) dF).2.1)&&((((a0.getD (tN v1) dF).2.2.1:Int) == (a1.getD (tN v1) dF).2.2.1)&&((((a0.getD (tN v1) dF).2.2.2.1:Int) == (a1.getD (tN v1) dF).2.2.2.1)&&(((((a0.getD (tN v1) dF).2.2.2.2.1.1:Int) == (a1.getD (tN v1) dF).2.2.2.2.1.1)&&((((a0.getD (tN v1) dF).2.2.2.2.1.2.1:Int) == (a1.getD (tN v1) dF).2.2.2.2.1.2.1)&&((((a0.getD (tN v1) dF).2.2.2.2.1.2.2:Int) == (a1.getD (tN v1) dF).2.2.2.2.1.2.2)&&true)))&&((((a0.getD (tN v1) dF).2.2.2.2.2:Int) == (a1.getD (tN v1) dF).2.2.2.2.2)&&true))))))) with
   | true =>
    have e:=Eq.refl (kA a0 a1 v1);conv at e=>rhs;simp only [kA,h0,h1,aT]
    rw [aJ,e]
    exact rt (t1++[.d h1]) [] [] hcx (by kernel_rfl)
   | false =>
    have e:=Eq.refl (kA a0 a1 v1);conv at e=>rhs;simp only [kA,h0,h1,aT]
    rw [aI e]
    refine ba (t1++[.d h1]) [] [0,1,12,13] [] hcx (m:=n) xV (xW) (uT a0 a1 (W (v1+1))) (by kernel_rfl) ?_
    have z0:(W (v1+1))=(v1+1):=aS (by omega) (by omega)
    rw [z0]
    exact ih (v1+1) (by refine⟨?_,?_⟩<;>(try simp only [Ls])<;>first | omega | assumption | simp) (by omega)
  | false =>
   have q0:=cN h0
   have e:=Eq.refl (kA a0 a1 v1);conv at e=>rhs;simp only [kA,h0,aT]
   rw [aJ,e]
   exact rt [.d h0] [] [] hcx (by kernel_rfl)
def sR (a0:bF)(a1:bF):Bool :=
 (bif (((a0.length:Int):Int) != (a1.length:Int)) then
  false
 else
  (aH (kA a0 a1) (tN ((a0.length:Int) - 0)+1) 0))
theorem aRx (a0:bF)(a1:bF)(l0:a0.length<=2^63-1)(l1:a1.length<=2^63-1):Con Tryz.prog 77 [(.s 0 0 a0.length 8),(.s 1 0 a1.length 8)] [(.live false true (flat cB a0)),(.live false true (flat cB a1))] (.v (.bool (sR a0 a1))) []:=by
 refine aY Tryz.func77 (by kernel_rfl) fun cx hcx=>?_
 cases h0:(((a0.length:Int):Int) != (a1.length:Int)) with
 | true =>
  have q0:=bne_iff_ne.1 h0
  have e:=Eq.refl (sR a0 a1);conv at e=>rhs;simp only [sR,h0,aT]
  rw [e]
  exact rt [.d h0] [] [] hcx (by kernel_rfl)
 | false =>
  have q0:=bne_eq_false_iff_eq.1 h0
  have e:=Eq.refl (sR a0 a1);conv at e=>rhs;simp only [sR,h0,aT]
  rw [e]
  refine en [.d h0] [] [0,1,12,13] [] hcx xV (xW) (uT a0 a1 0) (tN ((a0.length:Int) - 0)+1) (by kernel_rfl) ?_
  exact aM5 a0 a1 l0 l1 hcx (tN ((a0.length:Int) - 0)+1) 0 (by refine⟨?_,?_⟩<;>(try simp only [Ls])<;>first | omega | assumption | simp) (by omega)
def F50 (a0:List Int×bF)(a1:List Int×bF):Bool :=
 (bif (oG a0.1 a1.1) then
  (sR a0.2 a1.2)
 else
  false)
theorem C50 (a0:List Int×bF)(a1:List Int×bF)(l0_1:a0.1.length<=2^63-1)(l0_2:a0.2.length<=2^63-1)(l1_1:a1.1.length<=2^63-1)(l1_2:a1.2.length<=2^63-1):Con Tryz.prog 50 [(.a [(.s 0 0 a0.1.length 1),(.s 1 0 a0.2.length 8)]),(.a [(.s 2 0 a1.1.length 1),(.s 3 0 a1.2.length 8)])] [(.live false true (flat c3 a0.1)),(.live false true (flat cB a0.2)),(.live false true (flat c3 a1.1)),(.live false true (flat cB a1.2))] (.v (.bool (F50 a0 a1))) []:=by
 refine aY Tryz.func50 (by kernel_rfl) fun cx hcx=>?_
 let t0:List (St Tryz.prog):=[.c [0,2] (aRw a0.1 a1.1 (by omega) (by omega))]
 cases h0:(oG a0.1 a1.1) with
 | true =>
  have e:=Eq.refl (F50 a0 a1);conv at e=>rhs;simp only [F50,h0,aT]
  rw [e]
  exact rt (t0++[.d h0,.c [1,3] (aRx a0.2 a1.2 (by omega) (by omega))]) [] [] hcx (by kernel_rfl)
 | false =>
  have e:=Eq.refl (F50 a0 a1);conv at e=>rhs;simp only [F50,h0,aT]
  rw [e]
  exact rt (t0++[.d h0]) [] [] hcx (by kernel_rfl)
noncomputable def aFk:Code:=(aM [1,1,0,1] [] (aL Tryz.f31) []).1
noncomputable def aFl:List K:=(aM [1,1,0,1] [] (aL Tryz.f31) []).2
def aB6 (a0:bO)(a1:List Int×bF)(v1:Int):LS:=⟨gD 21 [(0,(.s 0 0 a0.length 10)),(3,(.p 3 0)),(6,(iv v1))],[(.live false true (flat dC a0)),(.live false true (flat c3 a1.1)),(.live false true (flat cB a1.2)),(.live true false [(.s 1 0 a1.1.length 1),(.s 2 0 a1.2.length 8)])]⟩
def kP (a0:bO)(a1:List Int×bF):Int->(Int)⊕(Int)
 | v1 =>
  (bif (decide ((v1:Int)<=16)) then
   (bif (F50 (a1.1,a1.2) ((lW a0 v1).1,(lW a0 v1).2)) then
    (.inr 0)
   else
    (.inl (v1+1)))
  else
   (.inr 1))
theorem aRy (a0:bO)(a1:List Int×bF)(l0:a0.length<=2^63-1)(l1_1:a1.1.length<=2^63-1)(l1_2:a1.2.length<=2^63-1) {cx:Cx} (hcx:cx.base=3):∀(n:Nat) (v1:Int),(0<=v1)/\(jD a0=0)/\(1<=v1)->tN (16 - v1+1) < n->Aw.Good Tryz.prog none 9 (bodyPost Tryz.prog Tryz.f31 (RR cx (iv (aH (kP a0 a1) n v1)) [] [])) cx [] (.l aFk n::aFl) (aB6 a0 a1 v1):=by
 intro n
 induction n with
 | zero=>intro v1 hi hn;exact absurd hn (eI _)
 | succ n ih =>
  intro v1 hi hn
  refine aR ?_
  have hbl:=aRu (l:=a0) (leaf:=v1) hi.2.1 (by omega)
  cases h0:(decide ((v1:Int)<=16)) with
  | true =>
   have q0:=cJ h0
   let t1:List (St Tryz.prog):=[.d h0,.c [0] (aTh a0 v1 (by omega) (vQ (l:=a0) hi.2.1) (by omega)),.c [1,2,4,5] (C50 (a1.1,a1.2) ((lW a0 v1).1,(lW a0 v1).2) (by omega) (by omega) (by(try simp only [Lt]);omega) (by(try simp only [Lt]);omega))]
   cases h1:(F50 (a1.1,a1.2) ((lW a0 v1).1,(lW a0 v1).2)) with
   | true =>
    have e:=Eq.refl (kP a0 a1 v1);conv at e=>rhs;simp only [kP,h0,h1,aT]
    rw [aJ,e]
    exact rt (t1++[.d h1]) [] [] hcx (by kernel_rfl)
   | false =>
    have e:=Eq.refl (kP a0 a1 v1);conv at e=>rhs;simp only [kP,h0,h1,aT]
    rw [aI e]
    refine ba (t1++[.d h1]) [] [0,3,6] [3] hcx (m:=n) aFk (aFl) (aB6 a0 a1 (W (v1+1))) (by kernel_rfl) ?_
    have z0:(W (v1+1))=(v1+1):=aS (by omega) (by omega)
    rw [z0]
    exact ih (v1+1) (by refine⟨?_,?_,?_⟩<;>(try simp only [Ls])<;>first | omega | assumption | simp) (by omega)
  | false =>
   have q0:=cN h0
   have e:=Eq.refl (kP a0 a1 v1);conv at e=>rhs;simp only [kP,h0,aT]
   rw [aJ,e]
   exact rt [.d h0] [] [] hcx (by kernel_rfl)
def tO (a0:bO)(a1:List Int×bF):Int :=
 (bif (((jD a0):Int) != 0) then
  (jD a0)
 else
  (aH (kP a0 a1) (tN (16 - 1+1)+1) 1))
theorem aWl (a0:bO)(a1:List Int×bF)(l0:a0.length<=2^63-1)(l1_1:a1.1.length<=2^63-1)(l1_2:a1.2.length<=2^63-1):Con Tryz.prog 31 [(.s 0 0 a0.length 10),(.a [(.s 1 0 a1.1.length 1),(.s 2 0 a1.2.length 8)])] [(.live false true (flat dC a0)),(.live false true (flat c3 a1.1)),(.live false true (flat cB a1.2))] (iv (tO a0 a1)) []:=by
 refine aY Tryz.func31 (by kernel_rfl) fun cx hcx=>?_
 let t0:List (St Tryz.prog):=[.c [0] (aOa a0 (by omega))]
 cases h0:(((jD a0):Int) != 0) with
 | true =>
  have q0:=bne_iff_ne.1 h0
  have e:=Eq.refl (tO a0 a1);conv at e=>rhs;simp only [tO,h0,aT]
  rw [e]
  exact rt (t0++[.d h0]) [] [] hcx (by kernel_rfl)
 | false =>
  have q0:=bne_eq_false_iff_eq.1 h0
  have e:=Eq.refl (tO a0 a1);conv at e=>rhs;simp only [tO,h0,aT]
  rw [e]
  refine en (t0++[.d h0]) [] [0,3,6] [3] hcx aFk (aFl) (aB6 a0 a1 1) (tN (16 - 1+1)+1) (by kernel_rfl) ?_
  exact aRy a0 a1 l0 l1_1 l1_2 hcx (tN (16 - 1+1)+1) 1 (by refine⟨?_,?_,?_⟩<;>(try simp only [Ls])<;>first | omega | assumption | simp) (by omega)
noncomputable def aFm:Code:=(aM [1,1,1,0,1] [] (aL Tryz.f40) []).1
noncomputable def aFn:List K:=(aM [1,1,1,0,1] [] (aL Tryz.f40) []).2
def aB7 (a0:bO)(a1:List Int×bF)(v1:Int):LS:=⟨gD 21 [(0,(.s 0 0 a0.length 10)),(3,(.p 3 0)),(6,(iv v1))],[(.live false true (flat dC a0)),(.live false true (flat c3 a1.1)),(.live false true (flat cB a1.2)),(.live true false [(.s 1 0 a1.1.length 1),(.s 2 0 a1.2.length 8)])]⟩
def fU (a0:bO)(a1:List Int×bF):Int->(Int)⊕(Int)
 | v1 =>
  (bif (decide ((v1:Int)<=16)) then
   (bif (F61 (a1.1,a1.2) ((lY a0 v1).1,(lY a0 v1).2)) then
    (.inr 0)
   else
    (.inl (v1+1)))
  else
   (.inr 1))
theorem aRz (a0:bO)(a1:List Int×bF)(l0:a0.length<=2^63-1)(l1_1:a1.1.length<=2^63-1)(l1_2:a1.2.length<=2^63-1) {cx:Cx} (hcx:cx.base=3):∀(n:Nat) (v1:Int),(0<=v1)/\(kW a0=0)/\(1<=v1)->tN (16 - v1+1) < n->Aw.Good Tryz.prog none 9 (bodyPost Tryz.prog Tryz.f40 (RR cx (iv (aH (fU a0 a1) n v1)) [] [])) cx [] (.l aFm n::aFn) (aB7 a0 a1 v1):=by
 intro n
 induction n with
 | zero=>intro v1 hi hn;exact absurd hn (eI _)
 | succ n ih =>
  intro v1 hi hn
  refine aR ?_
  have hbl:=aRv (l:=a0) (leaf:=v1) hi.2.1 (by omega)
  cases h0:(decide ((v1:Int)<=16)) with
  | true =>
   have q0:=cJ h0
   let t1:List (St Tryz.prog):=[.d h0,.c [0] (aWg a0 v1 (by omega) (aHg (l:=a0) hi.2.1) (by omega)),.c [1,2,4,5] (C61 (a1.1,a1.2) ((lY a0 v1).1,(lY a0 v1).2) (by omega) (by omega) (by(try simp only [Lt]);omega) (by(try simp only [Lt]);omega))]
   cases h1:(F61 (a1.1,a1.2) ((lY a0 v1).1,(lY a0 v1).2)) with
   | true =>
    have e:=Eq.refl (fU a0 a1 v1);conv at e=>rhs;simp only [fU,h0,h1,aT]
    rw [aJ,e]
    exact rt (t1++[.d h1]) [] [] hcx (by kernel_rfl)
   | false =>
    have e:=Eq.refl (fU a0 a1 v1);conv at e=>rhs;simp only [fU,h0,h1,aT]
    rw [aI e]
    refine ba (t1++[.d h1]) [] [0,3,6] [3] hcx (m:=n) aFm (aFn) (aB7 a0 a1 (W (v1+1))) (by kernel_rfl) ?_
    have z0:(W (v1+1))=(v1+1):=aS (by omega) (by omega)
    rw [z0]
    exact ih (v1+1) (by refine⟨?_,?_,?_⟩<;>(try simp only [Ls])<;>first | omega | assumption | simp) (by omega)
  | false =>
   have q0:=cN h0
   have e:=Eq.refl (fU a0 a1 v1);conv at e=>rhs;simp only [fU,h0,aT]
   rw [aJ,e]
   exact rt [.d h0] [] [] hcx (by kernel_rfl)
def gR (a0:bO)(a1:List Int×bF):Int :=
 (bif (((kW a0):Int) != 0) then
  (kW a0)
 else
  (aH (fU a0 a1) (tN (16 - 1+1)+1) 1))
theorem aWm (a0:bO)(a1:List Int×bF)(l0:a0.length<=2^63-1)(l1_1:a1.1.length<=2^63-1)(l1_2:a1.2.length<=2^63-1):Con Tryz.prog 40 [(.s 0 0 a0.length 10),(.a [(.s 1 0 a1.1.length 1),(.s 2 0 a1.2.length 8)])] [(.live false true (flat dC a0)),(.live false true (flat c3 a1.1)),(.live false true (flat cB a1.2))] (iv (gR a0 a1)) []:=by
 refine aY Tryz.func40 (by kernel_rfl) fun cx hcx=>?_
 let t0:List (St Tryz.prog):=[.c [0] (aS3 a0 (by omega))]
 cases h0:(((kW a0):Int) != 0) with
 | true =>
  have q0:=bne_iff_ne.1 h0
  have e:=Eq.refl (gR a0 a1);conv at e=>rhs;simp only [gR,h0,aT]
  rw [e]
  exact rt (t0++[.d h0]) [] [] hcx (by kernel_rfl)
 | false =>
  have q0:=bne_eq_false_iff_eq.1 h0
  have e:=Eq.refl (gR a0 a1);conv at e=>rhs;simp only [gR,h0,aT]
  rw [e]
  refine en (t0++[.d h0]) [] [0,3,6] [3] hcx aFm (aFn) (aB7 a0 a1 1) (tN (16 - 1+1)+1) (by kernel_rfl) ?_
  exact aRz a0 a1 l0 l1_1 l1_2 hcx (tN (16 - 1+1)+1) 1 (by refine⟨?_,?_,?_⟩<;>(try simp only [Ls])<;>first | omega | assumption | simp) (by omega)
theorem aR0 (a b:TR):F50 a b=F61 a b:=by
 have e1:oG a.1 b.1=jQ a.1 b.1:=rfl
 unfold F50 F61
 rw [e1]
 cases jQ a.1 b.1<;>rfl
theorem zX {S:Int->Int⊕Bool} {N:Nat} {p:Nat->Prop} (h1:∀i:Nat,i < N->(S (i:Int)=.inl ((i+1:Nat):Int)/\p i)\/S (i:Int)=.inr false):∀(d i n:Nat),d=N - i->i<=N->d < n->aH S n (i:Int)=true->∀j,i<=j->j < N->p j
 | 0,i,n,hd,hi,hn,_,j,h1,h2=>absurd h2 (by omega)
 | d+1,i,n,hd,hi,hn,h,j,g1,g2=>by
  obtain⟨n,rfl⟩:∃m,n=m+1:=⟨n - 1,by omega⟩
  rcases h1 i (by omega) with⟨e,hp⟩ | e
  ·rw [aI e] at h
   by_cases hj:j=i
   ·rw [hj];exact hp
   ·exact zX h1 d (i+1) n (by omega) (by omega) (by omega) h j (by omega) g2
  ·rw [aQ e] at h;cases h
theorem aB8 {α:Type} [Inhabited α] {a b:List α} (h:a.length=b.length)(h2:∀j,j < a.length->a.getD j dF=b.getD j dF):a=b:=by
 refine List.ext_getElem h fun i h3 h4=>?_
 have:=h2 i h3
 rw [fV,fV,List.getElem?_eq_getElem h3,List.getElem?_eq_getElem h4] at this
 exact this
theorem aR1 {a b:List Int} (h:jQ a b=true):a=b:=by
 unfold jQ at h
 by_cases hl:a.length=b.length
 ·rw [show(((a.length:Int):Int) != (b.length:Int))=false by rw [hl];simp,cond_false] at h
  refine aB8 hl (zX (N:=a.length) (p:=fun j=>a.getD j dF=b.getD j dF) (fun i hi=>?_) a.length 0 _ (by omega) (by omega) (by omega) h · (Nat.zero_le _) ·)
  simp only [iZ,fZ]
  rw [cH (show((i:Nat):Int) < (a.length:Nat) by omega),cond_true]
  cases e:((a.getD i dF:Int) != b.getD i dF) with
  | true=>exact .inr rfl
  | false=>exact .inl ⟨rfl,bne_eq_false_iff_eq.1 e⟩
 ·rw [show(((a.length:Int):Int) != (b.length:Int))=true by rw [bne_iff_ne];omega,cond_true] at h
  cases h
theorem aPo {a b:TR} (h:F61 a b=true):a=b:=by
 unfold F61 at h
 cases h1:jQ a.1 b.1 with
 | false=>rw [h1] at h;cases h
 | true =>
  rw [h1,Bool.not_true,cond_false] at h
  by_cases hl:a.2.length=b.2.length
  ·rw [show(((a.2.length:Int):Int) != (b.2.length:Int))=false by rw [hl];simp,cond_false] at h
   refine Prod.ext (aR1 h1) (aB8 hl (zX (N:=a.2.length) (p:=fun j=>a.2.getD j dF=b.2.getD j dF) (fun i hi=>?_) a.2.length 0 _ (by omega) (by omega) (by omega) h · (Nat.zero_le _) ·))
   simp only [wD,fZ]
   rw [cH (show((i:Nat):Int) < (a.2.length:Nat) by omega),cond_true]
   generalize a.2.getD i dF=x
   generalize b.2.getD i dF=y
   obtain⟨x1,x2,x3,x4,⟨x5,x6,x7⟩,x8⟩:=x
   obtain⟨y1,y2,y3,y4,⟨y5,y6,y7⟩,y8⟩:=y
   dsimp only
   rw [Bool.cond_eq_ite]
   split
   ·exact .inr rfl
   ·rename_i hq
    refine .inl ⟨rfl,?_⟩
    simp at hq ⊢
    omega
  ·rw [show(((a.2.length:Int):Int) != (b.2.length:Int))=true by rw [bne_iff_ne];omega,cond_true] at h
   cases h
theorem aHo {l:gX} {t:TR} (hv:VCH l):∀(n:Nat) (v:Int),1<=v->aH (kP l t) n v=aH (fU l t) n v
 | 0,_,_=>rfl
 | n+1,v,h=>by
  have e:kP l t v=fU l t v:=by
   simp only [kP,fU,aR0,aPn l hv h,aJt l hv.1 h]
  have h2:(fU l t v=.inl (v+1))\/(∃r,fU l t v=.inr r):=by
   simp only [fU]
   rw [Bool.cond_eq_ite]
   split
   ·rw [Bool.cond_eq_ite]
    split
    ·exact .inr ⟨_,rfl⟩
    ·exact .inl rfl
   ·exact .inr ⟨_,rfl⟩
  rcases h2 with h2 | ⟨r,h2⟩
  ·rw [aI (e.trans h2),aI h2];exact aHo hv n (v+1) (by omega)
  ·rw [aQ (e.trans h2),aQ h2]
theorem aHp (l:gX)(t:TR):tO l t=gR l t:=by
 unfold tO gR
 rw [aBx]
 cases h:((kW l:Int) != 0) with
 | true=>rfl
 | false=>exact aHo (aJq (by rw [aBx];exact bne_eq_false_iff_eq.1 h)) _ 1 (Int.le_refl _)
theorem uU {l:gX} {t:TR} (h:gR l t=0):VCH l/\∃leaf:Int,1<=leaf/\leaf<=16/\t=BT l leaf:=by
 unfold gR at h
 cases h0:((kW l:Int) != 0) with
 | true=>rw [h0,cond_true] at h;rw [h] at h0;cases h0
 | false =>
  rw [h0,cond_false] at h
  have hv:=aJq (l:=l) (by rw [aBx];exact bne_eq_false_iff_eq.1 h0)
  refine⟨hv,?_⟩
  have lp:∀(n:Nat) (v:Int),1<=v->tN (17 - v) < n->aH (fU l t) n v=0->∃leaf:Int,1<=leaf/\leaf<=16/\t=BT l leaf:=by
   intro n
   induction n with
   | zero=>intro _ _ h;exact absurd h (eI _)
   | succ n ih =>
    intro v h1 h2 h3
    by_cases hv16:v<=16
    ·cases hs:F61 (t.1,t.2) ((lY l v).1,(lY l v).2) with
     | true =>
      have:=aPo hs
      exact⟨v,h1,hv16,by rw [←aJt l hv.1 h1];exact this⟩
     | false =>
      have e:fU l t v=.inl (v+1):=by
       simp only [fU]
       rw [cH hv16,cond_true,hs,cond_false]
      rw [aI e] at h3
      exact ih (v+1) (by omega) (by omega) h3
    ·have e:fU l t v=.inr 1:=by
      simp only [fU]
      rw [dA hv16,cond_false]
     rw [aQ e] at h3
     exact absurd h3 (by decide)
  exact lp _ 1 (Int.le_refl _) (by omega) h
structure NOK (fr m a k:Int) (x:NDE):Prop where
 c1:fr<=x.1
 c2:x.1 < x.2.1
 c3:x.2.1<=fr+m
 c4:(x.2.2.1=-1/\x.2.2.2.1=-1)\/(a < x.2.2.1/\x.2.2.1 < a+k/\a < x.2.2.2.1/\x.2.2.2.1 < a+k)
theorem aTj (l:gX)(leaf:Int)(n:Nat)(ns:List Int)(fr a:Int):1<=(GT l leaf (n+1) ns fr a).2.length:=by
 by_cases h0:(ns.length:Int)<=leaf
 ·rw [oE h0];simp
 ·rw [oF h0];simp
theorem aPp (l:gX) {leaf:Int} (hl:1<=leaf):∀(n:Nat) (ns:List Int) (fr a:Int),ns.length < n->1<=ns.length->∀x∈(GT l leaf n ns fr a).2,NOK fr ns.length a (GT l leaf n ns fr a).2.length x
 | 0,_,_,_,h,_=>absurd h (eI _)
 | n+1,ns,fr,a,h,h1=>by
  by_cases h0:(ns.length:Int)<=leaf
  ·rw [oE h0]
   intro x hx
   rw [List.mem_singleton.1 hx]
   exact⟨Int.le_refl _,by unfold ndR;dsimp only;omega,by unfold ndR;exact Int.le_refl _,.inl ⟨rfl,rfl⟩⟩
  ·rw [oF h0]
   have hsl:=oC l (aG l ns) ns
   obtain⟨n,rfl⟩:∃k,n=k+1:=⟨n - 1,by omega⟩
   have g1:=aPp l hl (n+1) ((rI l (aG l ns) ns).take ((ns.length+1) / 2)) fr (a+1) (by rw [List.length_take,hsl];omega) (by rw [List.length_take,hsl];omega)
   have g2:=aPp l hl (n+1) ((rI l (aG l ns) ns).drop ((ns.length+1) / 2)) (fr+((ns.length+1) / 2:Nat)) (a+1+(GT l leaf (n+1) ((rI l (aG l ns) ns).take ((ns.length+1) / 2)) fr (a+1)).2.length) (by rw [List.length_drop,hsl];omega) (by rw [List.length_drop,hsl];omega)
   have k1:=aTj l leaf n ((rI l (aG l ns) ns).take ((ns.length+1) / 2)) fr (a+1)
   have k2:=aTj l leaf n ((rI l (aG l ns) ns).drop ((ns.length+1) / 2)) (fr+((ns.length+1) / 2:Nat)) (a+1+(GT l leaf (n+1) ((rI l (aG l ns) ns).take ((ns.length+1) / 2)) fr (a+1)).2.length)
   rw [List.length_take,hsl] at g1
   rw [List.length_drop,hsl] at g2
   generalize GT l leaf (n+1) ((rI l (aG l ns) ns).take ((ns.length+1) / 2)) fr (a+1)=A at g1 g2 k1 k2 ⊢
   generalize GT l leaf (n+1) ((rI l (aG l ns) ns).drop ((ns.length+1) / 2)) (fr+((ns.length+1) / 2:Nat)) (a+1+A.2.length)=B at g2 k2 ⊢
   intro x hx
   simp only [List.length_cons,List.length_append,Int.natCast_add,Int.natCast_one]
   rcases List.mem_cons.1 hx with rfl | hx
   ·exact⟨Int.le_refl _,by unfold ndR;dsimp only;omega,by unfold ndR;exact Int.le_refl _,.inr ⟨by unfold ndR;dsimp only;omega,by unfold ndR;dsimp only;omega,by unfold ndR;dsimp only;omega,by unfold ndR;dsimp only;omega⟩⟩
   ·rcases List.mem_append.1 hx with hx | hx
    ·obtain⟨c1,c2,c3,c4⟩:=g1 x hx
     exact⟨c1,c2,by omega,by rcases c4 with c4 | c4;exact .inl c4;exact .inr (by omega)⟩
    ·obtain⟨c1,c2,c3,c4⟩:=g2 x hx
     exact⟨by omega,c2,by omega,by rcases c4 with c4 | c4;exact .inl c4;exact .inr (by omega)⟩
theorem aWn (l:gX) {leaf:Int} (hl:1<=leaf):∀x∈(BT l leaf).2,NOK 0 l.length 0 (BT l leaf).2.length x:=by
 unfold BT
 by_cases h0:l.length=0
 ·rw [if_pos h0];intro x hx;cases hx
 ·rw [if_neg h0]
  have:=aPp l hl (l.length+1) (lZ l.length) 0 0 (by rw [fN];omega) (by rw [fN];omega)
  rw [fN] at this
  exact this
inductive TRE (N:List NDE):Nat->Nat->Int->Int->Int->Prop where
 | leaf {a:Nat} {f t:Int}:a < N.length->f < t->(N.getD a dF).1=f->(N.getD a dF).2.1=t->(N.getD a dF).2.2.1=-1->(N.getD a dF).2.2.2.1=-1->TRE N a 1 f t 1
 | node {a m1 m2:Nat} {f c t h1 h2:Int}:a < N.length->(N.getD a dF).1=f->(N.getD a dF).2.1=t->(N.getD a dF).2.2.1=((a+1:Nat):Int)->(N.getD a dF).2.2.2.1=((a+1+m1:Nat):Int)->TRE N (a+1) m1 f c h1->TRE N (a+1+m1) m2 c t h2->TRE N a (m1+m2+1) f t (1+dB h1 h2)
theorem aXg (a b:Int):a<=dB a b/\b<=dB a b/\(dB a b=a\/dB a b=b):=by unfold dB;split<;>omega
theorem cG {N:List NDE} {a m:Nat} {f t h:Int} (H:TRE N a m f t h):a+m<=N.length/\1<=m/\f < t/\1<=h/\h<=m/\(N.getD a dF).1=f/\(N.getD a dF).2.1=t:=by
 induction H with
 | leaf h1 h2 h3 h4 _ _=>exact⟨by omega,Nat.le_refl _,h2,Int.le_refl _,Int.le_refl _,h3,h4⟩
 | node g1 g2 g3 g4 g5 _ _ i1 i2 =>
  rename_i h1 h2 _ _
  have:=aXg h1 h2
  exact⟨by omega,by omega,by omega,by omega,by omega,g2,g3⟩
theorem aM6 {α:Type} [Inhabited α] {x y:List α} {j:Nat} (h:j < x.length):(x++y).getD j dF=x.getD j dF:=by
 rw [fV,fV,List.getElem?_append_left h]
theorem aM7 {α:Type} [Inhabited α] {x y:List α} {j:Nat}:(x++y).getD (x.length+j) dF=y.getD j dF:=by
 rw [fV,fV,List.getElem?_append_right (by omega),Nat.add_sub_cancel_left]
theorem aJv (l:gX) {leaf:Int} (hl:1<=leaf):∀(n:Nat) (ns:List Int) (fr:Int) (a:Nat) (N:List NDE),ns.length < n->1<=ns.length->a+(GT l leaf n ns fr a).2.length<=N.length ->
 (∀j,j < (GT l leaf n ns fr a).2.length->N.getD (a+j) dF=(GT l leaf n ns fr a).2.getD j dF)->∃h,TRE N a (GT l leaf n ns fr a).2.length fr (fr+ns.length) h
 | 0,_,_,_,_,h,_=>absurd h (eI _)
 | n+1,ns,fr,a,N,h,h1=>by
  by_cases h0:(ns.length:Int)<=leaf
  ·rw [oE h0]
   intro g1 g2
   have e:=g2 0 (by simp)
   rw [Nat.add_zero] at e
   have e':N.getD a dF=ndR l ns fr (-1) (-1):=e
   exact⟨1,TRE.leaf (by simp only [List.length_singleton] at g1;omega) (by omega) (by rw [e'];rfl) (by rw [e'];rfl) (by rw [e'];rfl) (by rw [e'];rfl)⟩
  ·rw [oF h0]
   have hsl:=oC l (aG l ns) ns
   have ea:((a:Nat):Int)+1=((a+1:Nat):Int):=by omega
   rw [ea]
   have c1:=aJv l hl n ((rI l (aG l ns) ns).take ((ns.length+1) / 2)) fr (a+1) N (by rw [List.length_take,hsl];omega) (by rw [List.length_take,hsl];omega)
   have c2:=aJv l hl n ((rI l (aG l ns) ns).drop ((ns.length+1) / 2)) (fr+((ns.length+1) / 2:Nat)) (a+1+(GT l leaf n ((rI l (aG l ns) ns).take ((ns.length+1) / 2)) fr ((a+1:Nat):Int)).2.length) N (by rw [List.length_drop,hsl];omega) (by rw [List.length_drop,hsl];omega)
   rw [List.length_take,hsl] at c1
   rw [List.length_drop,hsl] at c2
   rw [show(((a+1:Nat):Int)+(((GT l leaf n ((rI l (aG l ns) ns).take ((ns.length+1) / 2)) fr ((a+1:Nat):Int)).2.length:Nat):Int))=((a+1+(GT l leaf n ((rI l (aG l ns) ns).take ((ns.length+1) / 2)) fr ((a+1:Nat):Int)).2.length:Nat):Int) by omega]
   generalize GT l leaf n ((rI l (aG l ns) ns).take ((ns.length+1) / 2)) fr ((a+1:Nat):Int)=A at c1 c2 ⊢
   generalize GT l leaf n ((rI l (aG l ns) ns).drop ((ns.length+1) / 2)) (fr+((ns.length+1) / 2:Nat)) ((a+1+A.2.length:Nat):Int)=B at c2 ⊢
   intro g1 g2
   simp only [List.length_cons,List.length_append] at g1 g2 ⊢
   have e':N.getD a dF=ndR l ns fr ((a+1:Nat):Int) ((a+1+A.2.length:Nat):Int):=g2 0 (by omega)
   obtain⟨x1,d1⟩:=c1 (by omega) (fun j hj=>by
    have:=g2 (j+1) (by omega)
    rw [List.getD_cons_succ,aM6 hj] at this
    rw [←this];congr 1;omega)
   obtain⟨x2,d2⟩:=c2 (by omega) (fun j hj=>by
    have:=g2 (A.2.length+j+1) (by omega)
    rw [List.getD_cons_succ,aM7] at this
    rw [←this];congr 1;omega)
   rw [show fr+((min ((ns.length+1) / 2) ns.length:Nat):Int)=fr+(((ns.length+1) / 2:Nat):Int) by omega] at d1
   rw [show fr+(((ns.length+1) / 2:Nat):Int)+((ns.length - (ns.length+1) / 2:Nat):Int)=fr+(ns.length:Int) by omega] at d2
   exact⟨_,TRE.node (by omega) (by rw [e'];rfl) (by rw [e'];rfl) (by rw [e'];rfl) (by rw [e'];rfl) d1 d2⟩
theorem aFo (l:gX) {leaf:Int} (hl:1<=leaf):(l.length=0/\BT l leaf=([],[]))\/∃h,TRE (BT l leaf).2 0 (BT l leaf).2.length 0 l.length h:=by
 unfold BT
 by_cases h0:l.length=0
 ·rw [if_pos h0];exact .inl ⟨h0,rfl⟩
 ·rw [if_neg h0]
  have:=aJv l hl (l.length+1) (lZ l.length) 0 0 (GT l leaf (l.length+1) (lZ l.length) 0 ((0:Nat):Int)).2 (by rw [fN];omega) (by rw [fN];omega) (by omega) (fun j _=>by rw [Nat.zero_add])
  rw [fN,Int.zero_add] at this
  exact .inr this
theorem iF {N:List NDE} {a m:Nat} {f u h:Int} (H:TRE N a m f u h):(m=1/\h=1/\(N.getD a dF).2.2.1=-1/\(N.getD a dF).2.2.2.1=-1) \/
 ∃(m1 m2:Nat) (c h1 h2:Int),m=m1+m2+1/\(N.getD a dF).2.2.1=((a+1:Nat):Int)/\(N.getD a dF).2.2.2.1=((a+1+m1:Nat):Int)/\TRE N (a+1) m1 f c h1/\TRE N (a+1+m1) m2 c u h2/\h=1+dB h1 h2:=by
 cases H with
 | leaf h1 h2 h3 h4 h5 h6=>exact .inl ⟨rfl,rfl,h5,h6⟩
 | node g1 g2 g3 g4 g5 b1 b2=>exact .inr ⟨_,_,_,_,_,rfl,g4,g5,b1,b2,rfl⟩
def aUl (t:TR):Prop:=t.1.length<=1048576/\t.2.length<=1048576/\∀i:Nat,i < t.2.length->0<=(t.2.getD i dF).1/\(t.2.getD i dF).1 < (t.2.getD i dF).2.1/\(t.2.getD i dF).2.1<=t.1.length
theorem aR2 (l:gX)(hl:l.length<=96) {leaf:Int} (h1:1<=leaf):aUl (BT l leaf):=by
 have hb:=xS l hl h1
 refine⟨by omega,by omega,fun i hi=>?_⟩
 have:=aWn l h1 _ (List.getElem_mem hi)
 rw [fV,List.getElem?_eq_getElem hi]
 simp only [Option.getD_some]
 obtain⟨c1,c2,c3,_⟩:=this
 omega
def F53 (a0:Zt)(a1:Zt):Zt :=
 ((W (a0.1 - a1.1)),(W (a0.2.1 - a1.2.1)),(W (a0.2.2 - a1.2.2)))
theorem C53 (a0:Zt)(a1:Zt):Con Tryz.prog 53 [(.a (k3 a0)),(.a (k3 a1))] [] (.a (k3 (F53 a0 a1))) []:=by
 refine aY Tryz.func53 (by kernel_rfl) fun cx hcx=>?_
 have e:=Eq.refl (F53 a0 a1);conv at e=>rhs;simp only [F53]
 rw [e]
 exact rt [] [] [] hcx (by kernel_rfl)
def F52 (a0:Zt):Int :=
 (W ((W ((W (a0.1*a0.1))+(W (a0.2.1*a0.2.1))))+(W (a0.2.2*a0.2.2))))
theorem C52 (a0:Zt):Con Tryz.prog 52 [(.a (k3 a0))] [] (iv (F52 a0)) []:=by
 refine aY Tryz.func52 (by kernel_rfl) fun cx hcx=>?_
 have e:=Eq.refl (F52 a0);conv at e=>rhs;simp only [F52]
 rw [e]
 exact rt [] [] [] hcx (by kernel_rfl)
section
variable {t : TR} {x : Zt} {sep : Int} {a : Nat} {far pan : List Int} {d : Int}
end
end Go.Proofs.YtkdfcbmcgnaicaaGreat
namespace Go.Proofs.YtkdfcbmcgnaicaaGreat
open Go.Proofs Go.Aw Go.RowKit
set_option maxRecDepth 100000
def aCz (a0:bO):Bool :=
 (bif (decide (((a0.length:Int):Int) > 40)) then
  (bif (decide (((a0.length:Int):Int)<=96)) then
   true
  else
   (decide (((a0.length:Int):Int) > 200)))
 else
  (decide (((a0.length:Int):Int) > 200)))
theorem aXh (a0:bO)(l0:a0.length<=2^63-1):Con Tryz.prog 5 [(.s 0 0 a0.length 10)] [(.live false true (flat dC a0))] (.v (.bool (aCz a0))) []:=by
 refine aY Tryz.func5 (by kernel_rfl) fun cx hcx=>?_
 cases h0:(decide (((a0.length:Int):Int) > 40)) with
 | true =>
  have q0:=cJ h0
  let t1:List (St Tryz.prog):=[.d h0]
  cases h1:(decide (((a0.length:Int):Int)<=96)) with
  | true =>
   have q1:=cJ h1
   have e:=Eq.refl (aCz a0);conv at e=>rhs;simp only [aCz,h0,h1,aT]
   rw [e]
   exact rt (t1++[.d h1]) [] [] hcx (by kernel_rfl)
  | false =>
   have q1:=cN h1
   have e:=Eq.refl (aCz a0);conv at e=>rhs;simp only [aCz,h0,h1,aT]
   rw [e]
   exact rt (t1++[.d h1]) [] [] hcx (by kernel_rfl)
 | false =>
  have q0:=cN h0
  have e:=Eq.refl (aCz a0);conv at e=>rhs;simp only [aCz,h0,aT]
  rw [e]
  exact rt [.d h0] [] [] hcx (by kernel_rfl)
theorem aFp (l:gX) {leaf:Int} (hl:1<=leaf):∀(n:Nat) (ns:List Int) (fr a:Int),ns.length < n->(GT l leaf n ns fr a).1.Perm ns
 | 0,_,_,_,h=>absurd h (eI _)
 | n+1,ns,fr,a,h=>by
  by_cases h0:(ns.length:Int)<=leaf
  ·rw [oE h0]
  ·rw [oF h0]
   have hsl:=oC l (aG l ns) ns
   refine((aFp l hl n _ _ _ (by rw [List.length_take,hsl];omega)).append (aFp l hl n _ _ _ (by rw [List.length_drop,hsl];omega))).trans ?_
   rw [List.take_append_drop]
   exact List.mergeSort_perm ns _
theorem aR3 (l:gX) {leaf:Int} (hl:1<=leaf):(BT l leaf).1.Perm (lZ l.length):=by
 unfold BT
 by_cases h0:l.length=0
 ·rw [if_pos h0,h0];exact List.Perm.refl _
 ·rw [if_neg h0];exact aFp l hl _ _ _ _ (by rw [fN];omega)
end Go.Proofs.YtkdfcbmcgnaicaaGreat
