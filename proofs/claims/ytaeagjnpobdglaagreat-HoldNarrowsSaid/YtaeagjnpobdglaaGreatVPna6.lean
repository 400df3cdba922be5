/-
  Parts of the proofs of the laws: the executor, what functions of the program compute, and that it is what the statements ask. No premise.
-/
import Derived.Test.YtaeagjnpobdglaaGreatVPna5
set_option linter.unusedVariables false
set_option linter.unusedSimpArgs false
set_option maxHeartbeats 4000000
open Int (toNat)
namespace Go.Proofs.YtaeagjnpobdglaaGreat
open Go.Proofs Go.Aw Go.RowKit
set_option maxRecDepth 100000
theorem aX {m:ME} {q:List Int} {d:Int} (h:(((aS m q d).2:Int) != 0)=false):1<=(aS m q d).1.length/\(∀s∈(aS m q d).1,1<=s.1)/\(∀s∈(aS m q d).1,1<=s.2):=by
 rw [sX] at h ⊢
 exact aE0 h
theorem wC (m:ME)(q:List Int)(d:Int):(aS m q d).1.length<=96:=by
 rw [sX];exact aVx m q d
theorem aNt {q:List Int} (hq:okC q)(hl:q.length<=96):cF q=q.sum:=by
 obtain⟨e,h2,h3⟩:=aAo q 0 hq (by omega) (by omega)
 rw [aSr,e];omega
theorem lO {m:ME} {q:List Int} {d:Int} (h:(((gA m q d).2:Int) != 0)=false):cF q≠0/\W (Int.tdiv (W ((W ((gA m q d).1.2+(cF q))) - 1)) (cF q))≠0:=by
 rw [bDm] at h ⊢
 have h':=h
 unfold EnV at h'
 cases hc:(chD m q d != 0) with
 | true=>rw [hc,cond_true] at h';rw [hc] at h';exact absurd h' (by decide)
 | false =>
   obtain⟨hC,hd⟩:=gO (bne_eq_false_iff_eq.1 hc)
   have hn:=hC.n;have hl:=hC.len;have hs:=hC.pos
   have hf:=aS2 h
   rw [aC3 hC.ok hC.pos (by omega)] at hf
   rw [aNt hC.ok (by omega)]
   exact hf
theorem aE1 (m:ME)(q:List Int)(d:Int):(∀s∈(aS m q d).1,1<=s.1)/\(∀s∈(aS m q d).1,1<=s.2):=by
 cases h:(((aS m q d).2:Int) != 0) with
 | false=>exact(aX h).2
 | true =>
   rw [sX] at h ⊢
   unfold jD at h ⊢
   cases hc:(chD m q d != 0) with
   | true=>simp
   | false =>
     rw [hc,cond_false] at h
     rw [cond_false]
     unfold pS at h ⊢
     cases hs:nL (fun r:List (Int×Int)=>eA (r.zip q)) ((aU m).map (gB m d)) [] with
     | inr r=>simp [pR]
     | inl l=>rw [hs] at h;simp [pR] at h
noncomputable def aGz:Code:=(aD [1,1,1,1,0,1] [] (aG Tryz.f84) []).1
noncomputable def aG0:List K:=(aD [1,1,1,1,0,1] [] (aG Tryz.f84) []).2
def aC4 (a0:Zm)(a1:List (Int))(a2:Int)(v1 v2:Int):LS:=⟨iH 44 [(1,(.s 2 0 a1.length 1)),(8,(.s 3 0 (aS (a0.1,a0.2) a1 a2).1.length 2)),(10,(iv v1)),(11,(iv v2))],[(.live false true (flat dL a0.1)),(.live false true (flat dW a0.2)),(.live false true (flat c3 a1)),(.live true true (flat cQ (aS (a0.1,a0.2) a1 a2).1))]⟩
def lD (a0:Zm)(a1:List (Int))(a2:Int):Int×Int->(Int×Int)⊕(Int×Int)
 | (v1,v2) =>
  (bif (decide ((v2:Int) < (((aS (a0.1,a0.2) a1 a2).1.length:Nat):Int))) then
   (.inl ((iI v1 ((aS (a0.1,a0.2) a1 a2).1.getD (toNat v2) default).2),(v2+1)))
  else
   (.inr ((aCw (W (Int.tdiv (W ((W ((cF a1)*1048576))*1048576)) v1))).1,(aCw (W (Int.tdiv (W ((W ((cF a1)*1048576))*1048576)) v1))).2)))
theorem aVy (a0:Zm)(a1:List (Int))(a2:Int)(l0_1:a0.1.length<=9223372036854775807)(l0_2:a0.2.length<=9223372036854775807)(l1:a1.length<=9223372036854775807) {cx:Cx} (hcx:cx.base=3):∀(n:Nat)(v1 v2:Int),(0<=v2)/\(0<=v1)/\(v2=0\/1<=v1)/\(1<=(aS (a0.1,a0.2) a1 a2).1.length)->toNat ((((aS (a0.1,a0.2) a1 a2).1.length:Nat):Int) - v2) < n->Aw.Good Tryz.prog none 9 (bodyPost Tryz.prog Tryz.f84 (RR cx (.t (k2 (aB (lD a0 a1 a2) n (v1,v2)))) [] [])) cx [] (.l aGz n::aG0) (aC4 a0 a1 a2 v1 v2):=by
 intro n
 induction n with
 | zero=>intro v1 v2 hi hn;exact absurd hn (gP _)
 | succ n ih =>
   intro v1 v2 hi hn
   refine aH ?_
   have hx1:=wC (a0.1,a0.2) a1 a2
   have hps:=aLs (aE1 (a0.1,a0.2) a1 a2).2 v2
   have hmx:=pH v1 ((aS (a0.1,a0.2) a1 a2).1.getD (toNat v2) default).2
   cases h0:(decide ((v2:Int) < (((aS (a0.1,a0.2) a1 a2).1.length:Nat):Int))) with
   | true =>
    have q0:=bO h0
    have e:=Eq.refl (lD a0 a1 a2 (v1,v2));conv at e=>rhs;simp only [lD,h0,aI]
    rw [aA e]
    refine ba [.d h0,.i v2 ((aS (a0.1,a0.2) a1 a2).1.length),.L cC (aS (a0.1,a0.2) a1 a2).1 v2 1 1] [] [1,8,10,11] [3] hcx (m:=n) aGz (aG0) (aC4 a0 a1 a2 (iI v1 ((aS (a0.1,a0.2) a1 a2).1.getD (toNat v2) default).2) (W (v2+1))) (by kernel_rfl) ?_
    have z0:(W (v2+1))=(v2+1):=aE (by omega) (by omega)
    rw [z0]
    exact ih (iI v1 ((aS (a0.1,a0.2) a1 a2).1.getD (toNat v2) default).2) (v2+1) (by refine⟨?_,?_,?_,?_⟩<;>(try simp only [Ls])<;>first | omega | assumption | simp) (by(try simp only [Ls]);omega)
   | false =>
    have q0:=cA h0
    have e:=Eq.refl (lD a0 a1 a2 (v1,v2));conv at e=>rhs;simp only [lD,h0,aI]
    rw [aC,e]
    exact rt [.d h0,.c [2] (aGt a1 (by omega)),.p (show(v1:Int)≠0 from by first | omega | (rw [aE]<;>omega) | exact eE _),.c [] (aZm (W (Int.tdiv (W ((W ((cF a1)*1048576))*1048576)) v1)))] [] [] hcx (by kernel_rfl)
def oD (a0:Zm)(a1:List (Int))(a2:Int):Int×Int :=
 (bif (((aS (a0.1,a0.2) a1 a2).2:Int) != 0) then
  (0,(aS (a0.1,a0.2) a1 a2).2)
 else
  (aB (lD a0 a1 a2) (toNat ((((aS (a0.1,a0.2) a1 a2).1.length:Nat):Int) - 0)+1) (0,0)))
theorem bDo (a0:Zm)(a1:List (Int))(a2:Int)(l0_1:a0.1.length<=9223372036854775807)(l0_2:a0.2.length<=9223372036854775807)(l1:a1.length<=9223372036854775807):Con Tryz.prog 84 [(.a [(.s 0 0 a0.1.length 3),(.s 1 0 a0.2.length 3)]),(.s 2 0 a1.length 1),(iv a2)] [(.live false true (flat dL a0.1)),(.live false true (flat dW a0.2)),(.live false true (flat c3 a1))] (.t (k2 (oD a0 a1 a2))) []:=by
 refine aJ Tryz.func84 (by kernel_rfl) fun cx hcx=>?_
 have hx1:=wC (a0.1,a0.2) a1 a2
 try have hx2:=aX h0
 try have hx3:=pG (aX h0).2.1 (aX h0).1
 try have hx4:=(aX h0).1
 let t0:List (St Tryz.prog):=[.c [0,1,2] (aSw (a0.1,a0.2) a1 a2 (by(try simp only [Lt]);omega) (by(try simp only [Lt]);omega) (by omega))]
 cases h0:(((aS (a0.1,a0.2) a1 a2).2:Int) != 0) with
 | true =>
  have q0:=bne_iff_ne.1 h0
  try have hx2:=aX h0
  try have hx3:=pG (aX h0).2.1 (aX h0).1
  try have hx4:=(aX h0).1
  have e:=Eq.refl (oD a0 a1 a2);conv at e=>rhs;simp only [oD,h0,aI]
  rw [e]
  exact rt (t0++[.d h0]) [] [] hcx (by kernel_rfl)
 | false =>
  have q0:=bne_eq_false_iff_eq.1 h0
  try have hx2:=aX h0
  try have hx3:=pG (aX h0).2.1 (aX h0).1
  try have hx4:=(aX h0).1
  have e:=Eq.refl (oD a0 a1 a2);conv at e=>rhs;simp only [oD,h0,aI]
  rw [e]
  refine en (t0++[.d h0]) [] [1,8,10,11] [4] hcx aGz (aG0) (aC4 a0 a1 a2 0 0) (toNat ((((aS (a0.1,a0.2) a1 a2).1.length:Nat):Int) - 0)+1) (by kernel_rfl) ?_
  exact aVy a0 a1 a2 l0_1 l0_2 l1 hcx (toNat ((((aS (a0.1,a0.2) a1 a2).1.length:Nat):Int) - 0)+1) 0 0 (by refine⟨?_,?_,?_,?_⟩<;>(try simp only [Ls])<;>first | omega | assumption | simp) (by(try simp only [Ls]);omega)
noncomputable def aG1:Code:=(aD [1,1,1,1,0,1] [] (aG Tryz.f86) []).1
noncomputable def aG2:List K:=(aD [1,1,1,1,0,1] [] (aG Tryz.f86) []).2
def aC5 (a0:Zm)(a1:List (Int))(a2:Int)(v1 v2:Int):LS:=⟨iH 51 [(1,(.s 2 0 a1.length 1)),(8,(.s 3 0 (aS (a0.1,a0.2) a1 a2).1.length 2)),(10,(iv v1)),(11,(iv v2))],[(.live false true (flat dL a0.1)),(.live false true (flat dW a0.2)),(.live false true (flat c3 a1)),(.live true true (flat cQ (aS (a0.1,a0.2) a1 a2).1))]⟩
def lE (a0:Zm)(a1:List (Int))(a2:Int):Int×Int->(Int×Int)⊕(Int×Int)
 | (v1,v2) =>
  (bif (decide ((v2:Int) < (((aS (a0.1,a0.2) a1 a2).1.length:Nat):Int))) then
   (.inl ((nU v1 ((aS (a0.1,a0.2) a1 a2).1.getD (toNat v2) default).1),(v2+1)))
  else
   (.inr ((aCw (W (Int.tdiv (W ((W ((W ((W ((cF a1)*1048576))*1048576))+v1)) - 1)) v1))).1,(aCw (W (Int.tdiv (W ((W ((W ((W ((cF a1)*1048576))*1048576))+v1)) - 1)) v1))).2)))
theorem aVz (a0:Zm)(a1:List (Int))(a2:Int)(l0_1:a0.1.length<=9223372036854775807)(l0_2:a0.2.length<=9223372036854775807)(l1:a1.length<=9223372036854775807) {cx:Cx} (hcx:cx.base=3):∀(n:Nat)(v1 v2:Int),(0<=v2)/\(1<=v1)->toNat ((((aS (a0.1,a0.2) a1 a2).1.length:Nat):Int) - v2) < n->Aw.Good Tryz.prog none 9 (bodyPost Tryz.prog Tryz.f86 (RR cx (.t (k2 (aB (lE a0 a1 a2) n (v1,v2)))) [] [])) cx [] (.l aG1 n::aG2) (aC5 a0 a1 a2 v1 v2):=by
 intro n
 induction n with
 | zero=>intro v1 v2 hi hn;exact absurd hn (gP _)
 | succ n ih =>
   intro v1 v2 hi hn
   refine aH ?_
   have hx1:=wC (a0.1,a0.2) a1 a2
   have hps:=aLt (aE1 (a0.1,a0.2) a1 a2).1 v2
   have hmx:=uB v1 ((aS (a0.1,a0.2) a1 a2).1.getD (toNat v2) default).1
   cases h0:(decide ((v2:Int) < (((aS (a0.1,a0.2) a1 a2).1.length:Nat):Int))) with
   | true =>
    have q0:=bO h0
    have e:=Eq.refl (lE a0 a1 a2 (v1,v2));conv at e=>rhs;simp only [lE,h0,aI]
    rw [aA e]
    refine ba [.d h0,.i v2 ((aS (a0.1,a0.2) a1 a2).1.length),.L cC (aS (a0.1,a0.2) a1 a2).1 v2 0 1] [] [1,8,10,11] [3] hcx (m:=n) aG1 (aG2) (aC5 a0 a1 a2 (nU v1 ((aS (a0.1,a0.2) a1 a2).1.getD (toNat v2) default).1) (W (v2+1))) (by kernel_rfl) ?_
    have z0:(W (v2+1))=(v2+1):=aE (by omega) (by omega)
    rw [z0]
    exact ih (nU v1 ((aS (a0.1,a0.2) a1 a2).1.getD (toNat v2) default).1) (v2+1) (by refine⟨?_,?_⟩<;>(try simp only [Ls])<;>first | omega | assumption | simp) (by(try simp only [Ls]);omega)
   | false =>
    have q0:=cA h0
    have e:=Eq.refl (lE a0 a1 a2 (v1,v2));conv at e=>rhs;simp only [lE,h0,aI]
    rw [aC,e]
    exact rt [.d h0,.c [2] (aGt a1 (by omega)),.p (show(v1:Int)≠0 from by first | omega | (rw [aE]<;>omega) | exact eE _),.c [] (aZm (W (Int.tdiv (W ((W ((W ((W ((cF a1)*1048576))*1048576))+v1)) - 1)) v1)))] [] [] hcx (by kernel_rfl)
def qS (a0:Zm)(a1:List (Int))(a2:Int):Int×Int :=
 (bif (((aS (a0.1,a0.2) a1 a2).2:Int) != 0) then
  (0,(aS (a0.1,a0.2) a1 a2).2)
 else
  (aB (lE a0 a1 a2) (toNat ((((aS (a0.1,a0.2) a1 a2).1.length:Nat):Int) - 0)+1) (((aS (a0.1,a0.2) a1 a2).1.getD (toNat 0) default).1,0)))
theorem bDp (a0:Zm)(a1:List (Int))(a2:Int)(l0_1:a0.1.length<=9223372036854775807)(l0_2:a0.2.length<=9223372036854775807)(l1:a1.length<=9223372036854775807):Con Tryz.prog 86 [(.a [(.s 0 0 a0.1.length 3),(.s 1 0 a0.2.length 3)]),(.s 2 0 a1.length 1),(iv a2)] [(.live false true (flat dL a0.1)),(.live false true (flat dW a0.2)),(.live false true (flat c3 a1))] (.t (k2 (qS a0 a1 a2))) []:=by
 refine aJ Tryz.func86 (by kernel_rfl) fun cx hcx=>?_
 have hx1:=wC (a0.1,a0.2) a1 a2
 try have hx2:=aX h0
 try have hx3:=pG (aX h0).2.1 (aX h0).1
 try have hx4:=(aX h0).1
 let t0:List (St Tryz.prog):=[.c [0,1,2] (aSw (a0.1,a0.2) a1 a2 (by(try simp only [Lt]);omega) (by(try simp only [Lt]);omega) (by omega))]
 cases h0:(((aS (a0.1,a0.2) a1 a2).2:Int) != 0) with
 | true =>
  have q0:=bne_iff_ne.1 h0
  try have hx2:=aX h0
  try have hx3:=pG (aX h0).2.1 (aX h0).1
  try have hx4:=(aX h0).1
  have e:=Eq.refl (qS a0 a1 a2);conv at e=>rhs;simp only [qS,h0,aI]
  rw [e]
  exact rt (t0++[.d h0]) [] [] hcx (by kernel_rfl)
 | false =>
  have q0:=bne_eq_false_iff_eq.1 h0
  try have hx2:=aX h0
  try have hx3:=pG (aX h0).2.1 (aX h0).1
  try have hx4:=(aX h0).1
  have e:=Eq.refl (qS a0 a1 a2);conv at e=>rhs;simp only [qS,h0,aI]
  rw [e]
  refine en (t0++[.d h0,.i 0 ((aS (a0.1,a0.2) a1 a2).1.length),.L cC (aS (a0.1,a0.2) a1 a2).1 0 0 1]) [] [1,8,10,11] [4] hcx aG1 (aG2) (aC5 a0 a1 a2 (((aS (a0.1,a0.2) a1 a2).1.getD (toNat 0) default).1) 0) (toNat ((((aS (a0.1,a0.2) a1 a2).1.length:Nat):Int) - 0)+1) (by kernel_rfl) ?_
  exact aVz a0 a1 a2 l0_1 l0_2 l1 hcx (toNat ((((aS (a0.1,a0.2) a1 a2).1.length:Nat):Int) - 0)+1) (((aS (a0.1,a0.2) a1 a2).1.getD (toNat 0) default).1) 0 (by refine⟨?_,?_⟩<;>(try simp only [Ls])<;>first | omega | assumption | simp) (by(try simp only [Ls]);omega)
def qT (a0:Zm)(a1:List (Int))(a2:Int):Int×Int :=
 (bif (((gA (a0.1,a0.2) a1 a2).2:Int) != 0) then
  (0,(gA (a0.1,a0.2) a1 a2).2)
 else
  ((aCw (W (Int.tdiv (W ((W ((cF a1)*1048576))*1048576)) (W (Int.tdiv (W ((W ((gA (a0.1,a0.2) a1 a2).1.2+(cF a1))) - 1)) (cF a1)))))).1,(aCw (W (Int.tdiv (W ((W ((cF a1)*1048576))*1048576)) (W (Int.tdiv (W ((W ((gA (a0.1,a0.2) a1 a2).1.2+(cF a1))) - 1)) (cF a1)))))).2))
theorem bDq (a0:Zm)(a1:List (Int))(a2:Int)(l0_1:a0.1.length<=9223372036854775807)(l0_2:a0.2.length<=9223372036854775807)(l1:a1.length<=9223372036854775807):Con Tryz.prog 85 [(.a [(.s 0 0 a0.1.length 3),(.s 1 0 a0.2.length 3)]),(.s 2 0 a1.length 1),(iv a2)] [(.live false true (flat dL a0.1)),(.live false true (flat dW a0.2)),(.live false true (flat c3 a1))] (.t (k2 (qT a0 a1 a2))) []:=by
 refine aJ Tryz.func85 (by kernel_rfl) fun cx hcx=>?_
 try have hx1:=(lO h0).1
 try have hx2:=(lO h0).2
 let t0:List (St Tryz.prog):=[.c [0,1,2] (aZt (a0.1,a0.2) a1 a2 (by(try simp only [Lt]);omega) (by(try simp only [Lt]);omega) (by omega))]
 cases h0:(((gA (a0.1,a0.2) a1 a2).2:Int) != 0) with
 | true =>
  have q0:=bne_iff_ne.1 h0
  try have hx1:=(lO h0).1
  try have hx2:=(lO h0).2
  have e:=Eq.refl (qT a0 a1 a2);conv at e=>rhs;simp only [qT,h0,aI]
  rw [e]
  exact rt (t0++[.d h0]) [] [] hcx (by kernel_rfl)
 | false =>
  have q0:=bne_eq_false_iff_eq.1 h0
  try have hx1:=(lO h0).1
  try have hx2:=(lO h0).2
  have e:=Eq.refl (qT a0 a1 a2);conv at e=>rhs;simp only [qT,h0,aI]
  rw [e]
  exact rt (t0++[.d h0,.c [2] (aGt a1 (by omega)),.p (show((cF a1):Int)≠0 from by first | omega | (rw [aE]<;>omega) | exact eE _),.p (show((W (Int.tdiv (W ((W ((gA (a0.1,a0.2) a1 a2).1.2+(cF a1))) - 1)) (cF a1))):Int)≠0 from by first | omega | (rw [aE]<;>omega) | exact eE _),.c [] (aZm (W (Int.tdiv (W ((W ((cF a1)*1048576))*1048576)) (W (Int.tdiv (W ((W ((gA (a0.1,a0.2) a1 a2).1.2+(cF a1))) - 1)) (cF a1))))))]) [] [] hcx (by kernel_rfl)
theorem aG3 {m:ME} {q:List Int} {d:Int} (h:(((oD m q d).2:Int) != 0)=false):1<=m.1.length:=by
 cases hp:(((aS (m.1,m.2) q d).2:Int) != 0) with
 | true =>
   unfold oD at h
   rw [hp,cond_true] at h
   rw [hp] at h
   exact absurd h (by decide)
 | false =>
   rw [sX] at hp
   unfold jD at hp
   cases hc:(chD (m.1,m.2) q d != 0) with
   | true=>rw [hc,cond_true] at hp;rw [hc] at hp;exact absurd hp (by decide)
   | false =>
     obtain⟨hC,hd⟩:=gO (bne_eq_false_iff_eq.1 hc)
     exact(oZ (m:=m) (by rw [show fB m=0 from hC.v];rfl)).1
def gX (a0:Zm)(a1:List (Int))(a2:Int):(Int×Int)×Int :=
 (bif (((oD (a0.1,a0.2) a1 a2).2:Int) != 0) then
  ((0,0),(oD (a0.1,a0.2) a1 a2).2)
 else
  (bif (((qT (a0.1,a0.2) a1 a2).2:Int) != 0) then
   ((0,0),(qT (a0.1,a0.2) a1 a2).2)
  else
   (bif (((qS (a0.1,a0.2) a1 a2).2:Int) != 0) then
    ((0,0),(qS (a0.1,a0.2) a1 a2).2)
   else
    (bif (((F87 (a0.1,a0.2) (F88 (a0.1,a0.2))).2:Int) != 0) then
     ((0,0),(F87 (a0.1,a0.2) (F88 (a0.1,a0.2))).2)
    else
     (((iI (oD (a0.1,a0.2) a1 a2).1 (qT (a0.1,a0.2) a1 a2).1),(nU (qS (a0.1,a0.2) a1 a2).1 (F87 (a0.1,a0.2) (F88 (a0.1,a0.2))).1)),0)))))
theorem bDr (a0:Zm)(a1:List (Int))(a2:Int)(l0_1:a0.1.length<=9223372036854775807)(l0_2:a0.2.length<=9223372036854775807)(l1:a1.length<=9223372036854775807):Con Tryz.prog 53 [(.a [(.s 0 0 a0.1.length 3),(.s 1 0 a0.2.length 3)]),(.s 2 0 a1.length 1),(iv a2)] [(.live false true (flat dL a0.1)),(.live false true (flat dW a0.2)),(.live false true (flat c3 a1))] (.t [(.a (k2 (gX a0 a1 a2).1)),(iv (gX a0 a1 a2).2)]) []:=by
 refine aJ Tryz.func53 (by kernel_rfl) fun cx hcx=>?_
 let t0:List (St Tryz.prog):=[.c [0,1,2] (bDo (a0.1,a0.2) a1 a2 (by(try simp only [Lt]);omega) (by(try simp only [Lt]);omega) (by omega))]
 cases h0:(((oD (a0.1,a0.2) a1 a2).2:Int) != 0) with
 | true =>
  have q0:=bne_iff_ne.1 h0
  have e:=Eq.refl (gX a0 a1 a2);conv at e=>rhs;simp only [gX,h0,aI]
  rw [e]
  exact rt (t0++[.d h0]) [] [] hcx (by kernel_rfl)
 | false =>
  have q0:=bne_eq_false_iff_eq.1 h0
  let t1:List (St Tryz.prog):=(t0++[.d h0,.c [0,1,2] (bDq (a0.1,a0.2) a1 a2 (by(try simp only [Lt]);omega) (by(try simp only [Lt]);omega) (by omega))])
  cases h1:(((qT (a0.1,a0.2) a1 a2).2:Int) != 0) with
  | true =>
   have q1:=bne_iff_ne.1 h1
   have e:=Eq.refl (gX a0 a1 a2);conv at e=>rhs;simp only [gX,h0,h1,aI]
   rw [e]
   exact rt (t1++[.d h1]) [] [] hcx (by kernel_rfl)
  | false =>
   have q1:=bne_eq_false_iff_eq.1 h1
   let t2:List (St Tryz.prog):=(t1++[.d h1,.c [0,1,2] (bDp (a0.1,a0.2) a1 a2 (by(try simp only [Lt]);omega) (by(try simp only [Lt]);omega) (by omega))])
   cases h2:(((qS (a0.1,a0.2) a1 a2).2:Int) != 0) with
   | true =>
    have q2:=bne_iff_ne.1 h2
    have e:=Eq.refl (gX a0 a1 a2);conv at e=>rhs;simp only [gX,h0,h1,h2,aI]
    rw [e]
    exact rt (t2++[.d h2]) [] [] hcx (by kernel_rfl)
   | false =>
    have q2:=bne_eq_false_iff_eq.1 h2
    let t3:List (St Tryz.prog):=(t2++[.d h2,.c [0,1] (C88 (a0.1,a0.2) (by(try simp only [Lt]);omega) (by(try simp only [Lt]);omega) (aG3 h0)),.c [0,1] (C87 (a0.1,a0.2) (F88 (a0.1,a0.2)) (by(try simp only [Lt]);omega) (by(try simp only [Lt]);omega))])
    cases h3:(((F87 (a0.1,a0.2) (F88 (a0.1,a0.2))).2:Int) != 0) with
    | true =>
     have q3:=bne_iff_ne.1 h3
     have e:=Eq.refl (gX a0 a1 a2);conv at e=>rhs;simp only [gX,h0,h1,h2,h3,aI]
     rw [e]
     exact rt (t3++[.d h3]) [] [] hcx (by kernel_rfl)
    | false =>
     have q3:=bne_eq_false_iff_eq.1 h3
     have e:=Eq.refl (gX a0 a1 a2);conv at e=>rhs;simp only [gX,h0,h1,h2,h3,aI]
     rw [e]
     exact rt (t3++[.d h3]) [] [] hcx (by kernel_rfl)
theorem aV0 {T:TB} {q:List Int} (hr:∀r∈T,r.length<=q.length)(hm:q.length<=96):(bC T q).1.length<=T.length:=by
 rw [aNq hr hm]
 unfold pS
 cases hs:nL (fun r:List (Int×Int)=>eA (r.zip q)) T [] with
 | inr r=>simp [pR]
 | inl l =>
   obtain⟨e,_⟩:=lC hs
   simp only [pR]
   rw [e,List.nil_append,List.length_map];exact Nat.le_refl _
def jG (a0:(Zm)×(List (List (Int×Int)))×(List (List (Int×Int)))×Int)(a1:List (Int)):(Int×Int)×Int :=
 (bif (((bC a0.2.1 a1).2:Int) != 0) then
  ((0,0),(bC a0.2.1 a1).2)
 else
  (bif (((iA (bC a0.2.1 a1).1 a1).2:Int) != 0) then
   ((0,0),(iA (bC a0.2.1 a1).1 a1).2)
  else
   (bif (((cU a0.2.2.1 a1).2:Int) != 0) then
    ((0,0),(cU a0.2.2.1 a1).2)
   else
    (bif (((pN (cU a0.2.2.1 a1).1 a1).2:Int) != 0) then
     ((0,0),(pN (cU a0.2.2.1 a1).1 a1).2)
    else
     (bif (((iF (bC a0.2.1 a1).1 a1).2:Int) != 0) then
      ((0,0),(iF (bC a0.2.1 a1).1 a1).2)
     else
      (((iI (iA (bC a0.2.1 a1).1 a1).1 (pN (cU a0.2.2.1 a1).1 a1).1),(nU (iF (bC a0.2.1 a1).1 a1).1 a0.2.2.2)),0))))))
theorem bDs (a0:(Zm)×(List (List (Int×Int)))×(List (List (Int×Int)))×Int)(a1:List (Int))(l0_1_1:a0.1.1.length<=9223372036854775807)(l0_1_2:a0.1.2.length<=9223372036854775807)(l0_2_1:a0.2.1.length<=9223372036854775807)(l0_2_2_1:a0.2.2.1.length<=9223372036854775807)(l1:a1.length<=9223372036854775807)(hr:∀r∈a0.2.1,r.length<=a1.length)(hn:a0.2.1.length<=96)(hm:a1.length<=96)(hl:a0.2.2.1.length=a1.length)(hs:∀r∈a0.2.2.1,r.length=a1.length)(hp:(((bC a0.2.1 a1).2:Int) != 0)=false->1<=(bC a0.2.1 a1).1.length/\(∀s∈(bC a0.2.1 a1).1,1<=s.1)/\(∀s∈(bC a0.2.1 a1).1,1<=s.2))(he:(((cU a0.2.2.1 a1).2:Int) != 0)=false->W (Int.tdiv (W (Int.tdiv (cO a1) 1048576)) 1048576)≠0/\F99 (cU a0.2.2.1 a1).1.2 (W (Int.tdiv (W (Int.tdiv (cO a1) 1048576)) 1048576))≠0):Con Tryz.prog 34 [(.a [(.s 0 0 a0.1.1.length 3),(.s 1 0 a0.1.2.length 3),(.s 2 0 a0.2.1.length 1),(.s 3 0 a0.2.2.1.length 1),(iv a0.2.2.2)]),(.s 4 0 a1.length 1)] [(.live false true (flat dL a0.1.1)),(.live false true (flat dW a0.1.2)),(.live false true (flat fA a0.2.1)),(.live false true (flat fA a0.2.2.1)),(.live false true (flat c3 a1))] (.t [(.a (k2 (jG a0 a1).1)),(iv (jG a0 a1).2)]) []:=by
 refine aJ Tryz.func34 (by kernel_rfl) fun cx hcx=>?_
 have hx1:=aV0 hr hm
 let t0:List (St Tryz.prog):=[.c [2,4] (aVq a0.2.1 a1 (by omega) (by omega) hr hn hm)]
 cases h0:(((bC a0.2.1 a1).2:Int) != 0) with
 | true =>
  have q0:=bne_iff_ne.1 h0
  have e:=Eq.refl (jG a0 a1);conv at e=>rhs;simp only [jG,h0,aI]
  rw [e]
  exact rt (t0++[.d h0]) [] [] hcx (by kernel_rfl)
 | false =>
  have q0:=bne_eq_false_iff_eq.1 h0
  let t1:List (St Tryz.prog):=(t0++[.d h0,.c [7,4] (aVv (bC a0.2.1 a1).1 a1 (by(try simp only [Lt]);omega) (by omega) (hp h0).1 (hp h0).2.2)])
  cases h1:(((iA (bC a0.2.1 a1).1 a1).2:Int) != 0) with
  | true =>
   have q1:=bne_iff_ne.1 h1
   have e:=Eq.refl (jG a0 a1);conv at e=>rhs;simp only [jG,h0,h1,aI]
   rw [e]
   exact rt (t1++[.d h1]) [] [] hcx (by kernel_rfl)
  | false =>
   have q1:=bne_eq_false_iff_eq.1 h1
   let t2:List (St Tryz.prog):=(t1++[.d h1,.c [3,4] (aVr a0.2.2.1 a1 (by omega) (by omega) hl hs hm)])
   cases h2:(((cU a0.2.2.1 a1).2:Int) != 0) with
   | true =>
    have q2:=bne_iff_ne.1 h2
    have e:=Eq.refl (jG a0 a1);conv at e=>rhs;simp only [jG,h0,h1,h2,aI]
    rw [e]
    exact rt (t2++[.d h2]) [] [] hcx (by kernel_rfl)
   | false =>
    have q2:=bne_eq_false_iff_eq.1 h2
    let t3:List (St Tryz.prog):=(t2++[.d h2,.c [4] (bDn (cU a0.2.2.1 a1).1 a1 (by omega) (he h2).1 (he h2).2)])
    cases h3:(((pN (cU a0.2.2.1 a1).1 a1).2:Int) != 0) with
    | true =>
     have q3:=bne_iff_ne.1 h3
     have e:=Eq.refl (jG a0 a1);conv at e=>rhs;simp only [jG,h0,h1,h2,h3,aI]
     rw [e]
     exact rt (t3++[.d h3]) [] [] hcx (by kernel_rfl)
    | false =>
     have q3:=bne_eq_false_iff_eq.1 h3
     let t4:List (St Tryz.prog):=(t3++[.d h3,.c [7,4] (aVw (bC a0.2.1 a1).1 a1 (by(try simp only [Lt]);omega) (by omega) (hp h0).1 (hp h0).2.1)])
     cases h4:(((iF (bC a0.2.1 a1).1 a1).2:Int) != 0) with
     | true =>
      have q4:=bne_iff_ne.1 h4
      have e:=Eq.refl (jG a0 a1);conv at e=>rhs;simp only [jG,h0,h1,h2,h3,h4,aI]
      rw [e]
      exact rt (t4++[.d h4]) [] [] hcx (by kernel_rfl)
     | false =>
      have q4:=bne_eq_false_iff_eq.1 h4
      have e:=Eq.refl (jG a0 a1);conv at e=>rhs;simp only [jG,h0,h1,h2,h3,h4,aI]
      rw [e]
      exact rt (t4++[.d h4]) [] [] hcx (by kernel_rfl)
theorem bDt:W (0 - 256)=-256:=rfl
theorem aG4 {n:Int} (h:sJ n<=256)(h2:n≥-256):-256<=n/\n<=256:=by
 unfold sJ at h
 split at h<;>omega
theorem aG5 {n:Int} (h:-256<=n/\n<=256):sJ n<=256:=by
 unfold sJ
 rw [aE (by omega) (by omega)]
 split<;>omega
theorem aC6 (x:P3):oW x 256=true↔bd 256 x:=by
 unfold oW bd
 rw [bDt]
 constructor
 · intro h
   by_cases h1:sJ x.1<=256<;>by_cases h2:sJ x.2.1<=256<;>by_cases h3:sJ x.2.2<=256<;>simp [h1,h2,h3] at h
   exact⟨aG4 h1 h.1,aG4 h2 h.2.1,aG4 h3 h.2.2⟩
 · intro h
   have h1:=aG5 h.1;have h2:=aG5 h.2.1;have h3:=aG5 h.2.2
   simp [h1,h2,h3,h.1.1,h.2.1.1,h.2.2.1]
theorem wD (n:Int):pA n (-256) 256=decide (-256<=n/\n<=256):=by
 unfold pA
 by_cases h1:-256<=n<;>by_cases h2:n<=256<;>simp [h1,h2]
noncomputable def dsW (p x:P3):Int:=W ((W ((W ((W (p.1 - x.1))*(W (p.1 - x.1))))+(W ((W (p.2.1 - x.2.1))*(W (p.2.1 - x.2.1))))))+(W ((W (p.2.2 - x.2.2))*(W (p.2.2 - x.2.2)))))
theorem aZz {p x:P3} (hp:bd 64 p)(hx:bd 256 x):0<=dsW p x/\dsW p x<=400000:=by
 unfold bd at hp hx
 have e1:W (p.1 - x.1)=p.1 - x.1:=aE (by omega) (by omega)
 have e2:W (p.2.1 - x.2.1)=p.2.1 - x.2.1:=aE (by omega) (by omega)
 have e3:W (p.2.2 - x.2.2)=p.2.2 - x.2.2:=aE (by omega) (by omega)
 have b1:=bD (a:=320) (b:=320) (x:=p.1 - x.1) (y:=p.1 - x.1) (by omega) (by omega)
 have b2:=bD (a:=320) (b:=320) (x:=p.2.1 - x.2.1) (y:=p.2.1 - x.2.1) (by omega) (by omega)
 have b3:=bD (a:=320) (b:=320) (x:=p.2.2 - x.2.2) (y:=p.2.2 - x.2.2) (by omega) (by omega)
 have n1:0<=(p.1 - x.1)*(p.1 - x.1):=by rcases Int.le_total 0 (p.1 - x.1) with h | h;exact Int.mul_nonneg h h;exact Int.mul_nonneg_of_nonpos_of_nonpos h h
 have n2:0<=(p.2.1 - x.2.1)*(p.2.1 - x.2.1):=by rcases Int.le_total 0 (p.2.1 - x.2.1) with h | h;exact Int.mul_nonneg h h;exact Int.mul_nonneg_of_nonpos_of_nonpos h h
 have n3:0<=(p.2.2 - x.2.2)*(p.2.2 - x.2.2):=by rcases Int.le_total 0 (p.2.2 - x.2.2) with h | h;exact Int.mul_nonneg h h;exact Int.mul_nonneg_of_nonpos_of_nonpos h h
 unfold dsW
 simp only [e1,e2,e3]
 generalize (p.1 - x.1)*(p.1 - x.1)=a at *
 generalize (p.2.1 - x.2.1)*(p.2.1 - x.2.1)=b at *
 generalize (p.2.2 - x.2.2)*(p.2.2 - x.2.2)=c at *
 rw [aE (n:=a) (by omega) (by omega),aE (n:=b) (by omega) (by omega),aE (n:=c) (by omega) (by omega),aE (n:=a+b) (by omega) (by omega),aE (n:=a+b+c) (by omega) (by omega)]
 omega
noncomputable def jH (m:ME)(x:P3):Int:=m.1.foldl (fun v p=>iI v (dsW p x)) 0
theorem wE {x:P3} (hx:bd 256 x):∀(l:List P3)(v:Int),(∀p∈l,bd 64 p)->0<=v/\v<=400000->0<=l.foldl (fun v p=>iI v (dsW p x)) v/\l.foldl (fun v p=>iI v (dsW p x)) v<=400000
 | [],v,_,h=>h
 | p::l,v,hp,h=>by
   rw [List.foldl_cons]
   have:=aZz (hp p List.mem_cons_self) hx
   have:=pH v (dsW p x)
   exact wE hx l _ (fun y hy=>hp y (List.mem_cons_of_mem _ hy)) (by omega)
theorem aG6 (m:ME)(x:P3):aB (pM m x) (toNat ((m.1.length:Int) - 0)+1) (0,0)=((xP (jH m x)).1.2,(xP (jH m x)).2):=by
 have key:=aZ (S:=pM m x) (fun v i=>(v,i)) (fun v p=>.inl (iI v (dsW p x))) (fun v=>((xP v).1.2,(xP v).2)) (L:=m.1) (v:=0) (n:=toNat ((m.1.length:Int) - 0)+1) (fun _ _=>True) ?_ (fun _ _ _ _ _ _ _=>trivial) ?_ (by omega) trivial
 · refine Eq.trans key ?_
   rw [bI];rfl
 · intro i c hc v _
   obtain⟨hlt,hce⟩:=List.getElem?_eq_some_iff.1 hc
   simp only [pM]
   rw [bT (by omega),cond_true,bA hc];rfl
 · intro v _
   simp only [pM]
   rw [cJ (by omega),cond_false]
theorem aV1 (m:ME)(x:P3):aB (sW m x) (toNat ((m.1.length:Int) - 0)+1) (0,0)=((tU (jH m x)).1.2,(tU (jH m x)).2):=by
 have key:=aZ (S:=sW m x) (fun v i=>(v,i)) (fun v p=>.inl (iI v (dsW p x))) (fun v=>((tU v).1.2,(tU v).2)) (L:=m.1) (v:=0) (n:=toNat ((m.1.length:Int) - 0)+1) (fun _ _=>True) ?_ (fun _ _ _ _ _ _ _=>trivial) ?_ (by omega) trivial
 · refine Eq.trans key ?_
   rw [bI];rfl
 · intro i c hc v _
   obtain⟨hlt,hce⟩:=List.getElem?_eq_some_iff.1 hc
   simp only [sW]
   rw [bT (by omega),cond_true,bA hc];rfl
 · intro v _
   simp only [sW]
   rw [cJ (by omega),cond_false]
theorem aV2 (m:ME)(x:P3):tV m x=F87 m x:=by
 unfold tV F87
 rw [show vU (m.1,m.2)=fB (m.1,m.2) from(aGn m).symm,wD,wD,wD]
 cases h:(((fB (m.1,m.2)):Int) != 0) with
 | true=>rfl
 | false =>
   rw [cond_false,cond_false]
   by_cases hb:bd 256 x
   · rw [(aC6 x).2 hb,bT hb.1,bT hb.2.1,bT hb.2.2]
     simp only [Bool.not_true,cond_false]
     have hv:fB m=0:=bne_eq_false_iff_eq.1 h
     obtain⟨_,_,_,hpt,_⟩:=iT hv
     unfold F68 at hpt
     have hpb:=aLr m _ 0 _ (by omega) hpt
     have hall:∀p∈m.1,bd 64 p:=fun p hp=>by
       obtain⟨j,hj,e⟩:=List.getElem_of_mem hp
       have:=hpb j (Nat.zero_le _) hj
       rw [eZ,List.getElem?_eq_getElem hj,Option.getD_some,e] at this
       exact this
     have hB:0<=jH m x/\jH m x<=400000:=wE hb m.1 0 hall (by omega)
     rw [aG6,aV1,aZj hB]
   · have hs:oW x 256=false:=by
       cases hq:oW x 256 with
       | true=>exact absurd ((aC6 x).1 hq) hb
       | false=>rfl
     rw [hs]
     simp only [Bool.not_false,cond_true]
     unfold bd at hb
     by_cases h1:-256<=x.1/\x.1<=256
     · rw [bT h1]
       by_cases h2:-256<=x.2.1/\x.2.1<=256
       · rw [bT h2]
         by_cases h3:-256<=x.2.2/\x.2.2<=256
         · exact absurd ⟨h1,h2,h3⟩ hb
         · rw [cJ h3];rfl
       · rw [cJ h2];rfl
     · rw [cJ h1];rfl
noncomputable def mxF (l:List (Int×Int))(v:Int):Int:=l.foldl (fun v s=>iI v s.2) v
noncomputable def mnF (l:List (Int×Int))(v:Int):Int:=l.foldl (fun v s=>nU v s.1) v
theorem aG7 (q:List Int):W ((W (cF q*1048576))*1048576)=cO q:=by rw [aW8,aSr]
theorem aS3 {l:List (Int×Int)} (hl:1<=l.length)(hp:∀s∈l,1<=s.2):mxF l (l.getD (toNat 0) default).2=mxF l 0:=by
 cases l with
 | nil=>simp at hl
 | cons s t =>
   have hs:=hp s List.mem_cons_self
   show t.foldl (fun v s=>iI v s.2) (iI s.2 s.2)=t.foldl (fun v s=>iI v s.2) (iI 0 s.2)
   rw [show iI s.2 s.2=s.2 from by unfold iI;split<;>rfl,show iI 0 s.2=s.2 from by unfold iI;rw [if_pos (by omega)]]
theorem aNu (l:List (Int×Int))(q:List Int):iA l q=F97 (W (Int.tdiv (cO q) (mxF l (l.getD (toNat 0) default).2))):=by
 unfold iA
 have key:=aZ (S:=gE l q) (fun v i=>(v,i)) (fun v s=>.inl (iI v s.2)) (fun v=>F97 (W (Int.tdiv (cO q) v))) (L:=l) (v:=(l.getD (toNat 0) default).2) (n:=toNat ((l.length:Int) - 0)+1) (fun _ _=>True) ?_ (fun _ _ _ _ _ _ _=>trivial) ?_ (by omega) trivial
 · refine Eq.trans key ?_
   rw [bI];rfl
 · intro i c hc v _
   obtain⟨hlt,hce⟩:=List.getElem?_eq_some_iff.1 hc
   simp only [gE]
   rw [bT (by omega),cond_true,bA hc];rfl
 · intro v _
   simp only [gE]
   rw [cJ (by omega),cond_false]
theorem aNv (l:List (Int×Int))(q:List Int):iF l q=F97 (F99 (cO q) (mnF l (l.getD (toNat 0) default).1)):=by
 unfold iF
 have key:=aZ (S:=gF l q) (fun v i=>(v,i)) (fun v s=>.inl (nU v s.1)) (fun v=>F97 (F99 (cO q) v)) (L:=l) (v:=(l.getD (toNat 0) default).1) (n:=toNat ((l.length:Int) - 0)+1) (fun _ _=>True) ?_ (fun _ _ _ _ _ _ _=>trivial) ?_ (by omega) trivial
 · refine Eq.trans key ?_
   rw [bI];rfl
 · intro i c hc v _
   obtain⟨hlt,hce⟩:=List.getElem?_eq_some_iff.1 hc
   simp only [gF]
   rw [bT (by omega),cond_true,bA hc];rfl
 · intro v _
   simp only [gF]
   rw [cJ (by omega),cond_false]
theorem aI7 {α:Type}:∀(L:List α)(j:Nat),(L.foldl (fun(p:List Int×Nat) _=>(p.1.set p.2 1,p.2+1)) (List.replicate j 1++List.replicate L.length 0,j)).1=List.replicate (j+L.length) 1
 | [],j=>by simp
 | c::L,j=>by
   rw [List.foldl_cons]
   have e:(List.replicate j (1:Int)++List.replicate (L.length+1) 0).set j 1=List.replicate (j+1) 1++List.replicate L.length 0:=by
     rw [List.set_append_right (h:=by rw [List.length_replicate];exact Nat.le_refl _),List.length_replicate,Nat.sub_self,List.replicate_succ,List.set_cons_zero,List.replicate_succ' (n:=j),List.append_assoc];rfl
   simp only [List.length_cons]
   rw [e,aI7 L (j+1)]
   congr 1;omega
theorem aZ0 (m:ME):F57 m=m.2.map fun _=>1:=by
 unfold F57
 have key:=aZ (S:=sV m) (fun(v:List Int×Nat) i=>(v.1,i)) (fun v _=>.inl (v.1.set v.2 1,v.2+1)) (fun v=>v.1) (L:=m.2) (v:=(List.replicate (toNat (m.2.length:Int)) 0,0)) (n:=toNat ((((toNat (m.2.length:Int)):Nat):Int) - 0)+1) (fun i v=>v.2=i) ?_ (fun i c hc v v' hv h=>by simp only [Sum.inl.injEq] at h;subst h;show v.2+1=i+1;omega) ?_ (by omega) rfl
 · refine Eq.trans key ?_
   rw [bI]
   simp only [aCk]
   have:=aI7 m.2 0
   simp only [List.replicate_zero,List.nil_append,Nat.zero_add] at this
   rw [uM,this,List.map_const']
 · intro i c hc v hv
   obtain⟨hlt,hce⟩:=List.getElem?_eq_some_iff.1 hc
   simp only [sV]
   rw [bT (by omega),cond_true,uM,hv];rfl
 · intro v _
   simp only [sV]
   rw [cJ (by omega),cond_false]
noncomputable def bxS (v:P3×P3)(p:P3):P3×P3:=((nU v.1.1 p.1,nU v.1.2.1 p.2.1,nU v.1.2.2 p.2.2),(iI v.2.1 p.1,iI v.2.2.1 p.2.1,iI v.2.2.2 p.2.2))
noncomputable def bxV (m:ME):P3×P3:=(m.1.drop 1).foldl bxS (m.1.getD (toNat 0) default,m.1.getD (toNat 0) default)
noncomputable def aO9 (n:Int):Int:=Int.fdiv n (2 ^ (min (toNat 1) 64))
noncomputable def yM (v:P3×P3):P3:=(aO9 (W (v.1.1+v.2.1)),aO9 (W (v.1.2.1+v.2.2.1)),aO9 (W (v.1.2.2+v.2.2.2)))
theorem aS4 {m:ME} (h:1<=m.1.length):F88 m=yM (bxV m):=by
 unfold F88
 have key:=aCl (S:=vV m) (fun(v:P3×P3) i=>(i,v.1.1,v.1.2.1,v.1.2.2,v.2.1,v.2.2.1,v.2.2.2)) (fun v p=>.inl (bxS v p)) (fun v=>yM v) (L:=m.1) (fun _ _=>True) ?_ (fun _ _ _ _ _ _ _=>trivial) ?_ (m.1.drop 1) 1 (toNat ((m.1.length:Int) - 1)+1) (m.1.getD (toNat 0) default,m.1.getD (toNat 0) default) rfl h (by rw [List.length_drop];omega) trivial
 · refine Eq.trans key ?_
   rw [bI];rfl
 · intro i c hc v _
   obtain⟨hlt,hce⟩:=List.getElem?_eq_some_iff.1 hc
   simp only [vV]
   rw [bT (by omega),cond_true,bA hc];rfl
 · intro v _
   simp only [vV]
   rw [cJ (by omega),cond_false];rfl
theorem aXa {m:ME} (h:fB m=0):sU m=((bxV m).1,(bxV m).2,0):=by
 have hp:=(oZ (m:=m) (by rw [h];rfl)).1
 unfold sU
 rw [show fB (m.1,m.2)=0 from h,show(((0:Int)) != 0)=false from rfl,cond_false]
 have key:=aZ (S:=qR m) (fun(v:P3×P3) i=>(i,v.1.1,v.1.2.1,v.1.2.2,v.2.1,v.2.2.1,v.2.2.2)) (fun v p=>.inl (bxS v p)) (fun v=>(v.1,v.2,0)) (L:=m.1) (v:=(m.1.getD (toNat 0) default,m.1.getD (toNat 0) default)) (n:=toNat ((m.1.length:Int) - 0)+1) (fun _ _=>True) ?_ (fun _ _ _ _ _ _ _=>trivial) ?_ (by omega) trivial
 · refine Eq.trans key ?_
   rw [bI]
   have e:m.1.foldl bxS (m.1.getD (toNat 0) default,m.1.getD (toNat 0) default)=bxV m:=by
     unfold bxV
     generalize m.1=l at hp ⊢
     cases l with
     | nil=>simp at hp
     | cons p t =>
       show t.foldl bxS (bxS (p,p) p)=t.foldl bxS (p,p)
       have n1:∀a:Int,nU a a=a:=fun a=>by unfold nU;split<;>rfl
       have n2:∀a:Int,iI a a=a:=fun a=>by unfold iI;split<;>rfl
       rw [show bxS (p,p) p=(p,p) from by unfold bxS;simp only [n1,n2]]
   rw [e];rfl
 · intro i c hc v _
   obtain⟨hlt,hce⟩:=List.getElem?_eq_some_iff.1 hc
   simp only [qR]
   rw [bT (by omega),cond_true,bA hc];rfl
 · intro v _
   simp only [qR]
   rw [cJ (by omega),cond_false]
theorem bDu {n:Int} (h:0<=n/\n<=400000):(xP n).2=0:=by
 obtain⟨r,hr,e⟩:=aSa h
 obtain⟨h0,h1,h2⟩:=hr
 rw [e]
 unfold zO
 have hb:r<=1073741824:=by
   by_cases hc:r<=1073741824
   · exact hc
   · have:=Int.mul_le_mul (show(1073741824:Int)<=r by omega) (show(1073741824:Int)<=r by omega) (by omega) (by omega)
     omega
 have hx:(if r*r=n*1099511627776 then r else r+1)=r\/(if r*r=n*1099511627776 then r else r+1)=r+1:=by split<;>simp
 generalize (if r*r=n*1099511627776 then r else r+1)=s at hx ⊢
 rw [aCb (by omega) (by omega) (by omega)]
theorem aG8 {n:Int} (h:-128<=n/\n<=128):-64<=aO9 n/\aO9 n<=64:=by
 unfold aO9
 rw [show((2:Int) ^ (min (toNat 1) 64))=2 from by decide,Int.fdiv_eq_ediv_of_nonneg _ (by decide)]
 omega
theorem aS5:∀(l:List P3)(v:P3×P3),(∀p∈l,bd 64 p)->bd 64 v.1->bd 64 v.2->bd 64 (l.foldl bxS v).1/\bd 64 (l.foldl bxS v).2
 | [],v,_,h1,h2=>⟨h1,h2⟩
 | p::l,v,hp,h1,h2=>by
   rw [List.foldl_cons]
   have hb:=hp p List.mem_cons_self
   unfold bd at h1 h2 hb
   refine aS5 l _ (fun y hy=>hp y (List.mem_cons_of_mem _ hy)) ?_ ?_
   · have a:=uB v.1.1 p.1;have b:=uB v.1.2.1 p.2.1;have c:=uB v.1.2.2 p.2.2
     unfold bd bxS;simp only;omega
   · have a:=pH v.2.1 p.1;have b:=pH v.2.2.1 p.2.1;have c:=pH v.2.2.2 p.2.2
     unfold bd bxS;simp only;omega
theorem aG9 {m:ME} (hv:fB m=0):∀p∈m.1,bd 64 p:=fun p hp=>by
 obtain⟨_,_,_,hpt,_⟩:=iT hv
 unfold F68 at hpt
 have hpb:=aLr m _ 0 _ (by omega) hpt
 obtain⟨j,hj,e⟩:=List.getElem_of_mem hp
 have:=hpb j (Nat.zero_le _) hj
 rw [eZ,List.getElem?_eq_getElem hj,Option.getD_some,e] at this
 exact this
theorem aS6 {m:ME} (hv:fB m=0):bd 64 (yM (bxV m)):=by
 have hall:=aG9 hv
 have hp:=(oZ (m:=m) (by rw [hv];rfl)).1
 have h0:bd 64 (m.1.getD (toNat 0) default):=by
   rw [eZ,List.getElem?_eq_getElem (show toNat 0 < m.1.length from hp),Option.getD_some]
   exact hall _ (List.getElem_mem _)
 obtain⟨a,b⟩:=aS5 (m.1.drop 1) (m.1.getD (toNat 0) default,m.1.getD (toNat 0) default) (fun p hp=>hall p (List.mem_of_mem_drop hp)) h0 h0
 change bd 64 (bxV m).1 at a
 change bd 64 (bxV m).2 at b
 unfold bd at a b
 unfold bd yM
 rw [aE (n:=(bxV m).1.1+(bxV m).2.1) (by omega) (by omega),aE (n:=(bxV m).1.2.1+(bxV m).2.2.1) (by omega) (by omega),aE (n:=(bxV m).1.2.2+(bxV m).2.2.2) (by omega) (by omega)]
 exact⟨aG8 (by omega),aG8 (by omega),aG8 (by omega)⟩
theorem aHa {m:ME} {d:Int} (h:fB m=0)(hd:0<=d/\d<=2):¬(((bU (m.1,m.2) d).2:Int) != 0)=true:=by
 rw [show bU (m.1,m.2) d=_ from aI4 h hd];show ¬((0:Int) != 0)=true;decide
theorem aHb {m:ME} {d:Int} (h:fB m=0)(hd:0<=d/\d<=2):¬(((cD (m.1,m.2) d).2:Int) != 0)=true:=by
 rw [show cD (m.1,m.2) d=_ from aI5 h hd];show ¬((0:Int) != 0)=true;decide
theorem aHc {m:ME} (h:fB m=0):¬(((sU (m.1,m.2)).2.2:Int) != 0)=true:=by
 rw [show sU (m.1,m.2)=_ from aXa h];show ¬((0:Int) != 0)=true;decide
def F33 (a0:Zm)(a1:Int):((Zm)×(List (List (Int×Int)))×(List (List (Int×Int)))×Int)×Int :=
 (bif (((bU (a0.1,a0.2) a1).2:Int) != 0) then
  default
 else
  (bif (((cD (a0.1,a0.2) a1).2:Int) != 0) then
   default
  else
   (bif (((sU (a0.1,a0.2)).2.2:Int) != 0) then
    default
   else
    (((a0.1,a0.2),(bU (a0.1,a0.2) a1).1,(cD (a0.1,a0.2) a1).1,(tV (a0.1,a0.2) ((Int.fdiv (W ((sU (a0.1,a0.2)).1.1+(sU (a0.1,a0.2)).2.1.1)) (2 ^ (min (toNat 1) 64))),(Int.fdiv (W ((sU (a0.1,a0.2)).1.2.1+(sU (a0.1,a0.2)).2.1.2.1)) (2 ^ (min (toNat 1) 64))),(Int.fdiv (W ((sU (a0.1,a0.2)).1.2.2+(sU (a0.1,a0.2)).2.1.2.2)) (2 ^ (min (toNat 1) 64))))).1),(tV (a0.1,a0.2) ((Int.fdiv (W ((sU (a0.1,a0.2)).1.1+(sU (a0.1,a0.2)).2.1.1)) (2 ^ (min (toNat 1) 64))),(Int.fdiv (W ((sU (a0.1,a0.2)).1.2.1+(sU (a0.1,a0.2)).2.1.2.1)) (2 ^ (min (toNat 1) 64))),(Int.fdiv (W ((sU (a0.1,a0.2)).1.2.2+(sU (a0.1,a0.2)).2.1.2.2)) (2 ^ (min (toNat 1) 64))))).2))))
theorem C33 (a0:Zm)(a1:Int)(l0_1:a0.1.length<=9223372036854775807)(l0_2:a0.2.length<=9223372036854775807)(hv:fB a0=0)(hd:0<=a1/\a1<=2):Con Tryz.prog 33 [(.a [(.s 0 0 a0.1.length 3),(.s 1 0 a0.2.length 3)]),(iv a1)] [(.live false true (flat dL a0.1)),(.live false true (flat dW a0.2))] (.t [(.a [(.s 0 0 a0.1.length 3),(.s 1 0 a0.2.length 3),(.s 2 0 (F33 a0 a1).1.2.1.length 1),(.s 3 0 (F33 a0 a1).1.2.2.1.length 1),(iv (F33 a0 a1).1.2.2.2)]),(iv (F33 a0 a1).2)]) [(.live true true (flat fA (F33 a0 a1).1.2.1)),(.live true true (flat fA (F33 a0 a1).1.2.2.1))]:=by
 refine aJ Tryz.func33 (by kernel_rfl) fun cx hcx=>?_
 let t0:List (St Tryz.prog):=[.c [0,1] (aVo (a0.1,a0.2) a1 (by(try simp only [Lt]);omega) (by(try simp only [Lt]);omega))]
 cases h0:(((bU (a0.1,a0.2) a1).2:Int) != 0) with
 | true =>
  have q0:=bne_iff_ne.1 h0
  first | exact absurd h0 (aHa hv hd) | exact absurd h1 (aHb hv hd) | exact absurd h2 (aHc hv)
 | false =>
  have q0:=bne_eq_false_iff_eq.1 h0
  let t1:List (St Tryz.prog):=(t0++[.d h0,.c [0,1] (aVp (a0.1,a0.2) a1 (by(try simp only [Lt]);omega) (by(try simp only [Lt]);omega))])
  cases h1:(((cD (a0.1,a0.2) a1).2:Int) != 0) with
  | true =>
   have q1:=bne_iff_ne.1 h1
   first | exact absurd h0 (aHa hv hd) | exact absurd h1 (aHb hv hd) | exact absurd h2 (aHc hv)
  | false =>
   have q1:=bne_eq_false_iff_eq.1 h1
   let t2:List (St Tryz.prog):=(t1++[.d h1,.c [0,1] (C62 (a0.1,a0.2) (by(try simp only [Lt]);omega) (by(try simp only [Lt]);omega))])
   cases h2:(((sU (a0.1,a0.2)).2.2:Int) != 0) with
   | true =>
    have q2:=bne_iff_ne.1 h2
    first | exact absurd h0 (aHa hv hd) | exact absurd h1 (aHb hv hd) | exact absurd h2 (aHc hv)
   | false =>
    have q2:=bne_eq_false_iff_eq.1 h2
    have e:=Eq.refl (F33 a0 a1);conv at e=>rhs;simp only [F33,h0,h1,h2,aI]
    rw [e]
    exact rt (t2++[.d h2,.p (show 0<=(1:Int) from by decide),.p (show 0<=(1:Int) from by decide),.p (show 0<=(1:Int) from by decide),.c [0,1] (C28 (a0.1,a0.2) ((Int.fdiv (W ((sU (a0.1,a0.2)).1.1+(sU (a0.1,a0.2)).2.1.1)) (2 ^ (min (toNat 1) 64))),(Int.fdiv (W ((sU (a0.1,a0.2)).1.2.1+(sU (a0.1,a0.2)).2.1.2.1)) (2 ^ (min (toNat 1) 64))),(Int.fdiv (W ((sU (a0.1,a0.2)).1.2.2+(sU (a0.1,a0.2)).2.1.2.2)) (2 ^ (min (toNat 1) 64)))) (by(try simp only [Lt]);omega) (by(try simp only [Lt]);omega))]) [] [4,5] hcx (by kernel_rfl)
theorem aS7 {m:ME} (hv:fB m=0):(tV m (yM (bxV m))).2=0:=by
 have hb:=aS6 hv
 have hb2:bd 256 (yM (bxV m)):=by unfold bd at hb ⊢;omega
 unfold tV
 rw [show fB (m.1,m.2)=0 from hv,wD,wD,wD,bT hb2.1,bT hb2.2.1,bT hb2.2.2]
 show(aB (pM m (yM (bxV m))) (toNat ((m.1.length:Int) - 0)+1) (0,0)).2=0
 rw [aG6]
 exact bDu (wE hb2 m.1 0 (aG9 hv) (by omega))
theorem aLv {m:ME} {d:Int} (h:fB m=0)(hd:0<=d/\d<=2):F33 m d =
   (((m.1,m.2),(bU m d).1,(cD m d).1,(tV m (yM (bxV m))).1),0):=by
 have h1:=Bool.eq_false_iff.2 (aHa h hd)
 have h2:=Bool.eq_false_iff.2 (aHb h hd)
 have h3:=Bool.eq_false_iff.2 (aHc h)
 have hB:=aS7 h
 have e:sU (m.1,m.2)=((bxV m).1,(bxV m).2,0):=aXa h
 unfold F33
 rw [h1,cond_false,h2,cond_false,h3,cond_false]
 rw [←hB,e]
 rfl
theorem aI8 {m:ME} {q:List Int} {d:Int} (h:((gI m q d:Int) != 0)=false):fB m=0/\0<=d/\d<=2:=by
 rw [zJ] at h
 obtain⟨hc,hd⟩:=gO (bne_eq_false_iff_eq.1 h)
 exact⟨hc.v,hd⟩
abbrev TBL:=ME×TB×TB×Int
structure BndPre (T:TBL) (q:List Int):Prop where
 hr:∀r∈T.2.1,r.length<=q.length
 hn:T.2.1.length<=96
 hm:q.length<=96
 hl:T.2.2.1.length=q.length
 hs:∀r∈T.2.2.1,r.length=q.length
 hp:(((bC T.2.1 q).2:Int) != 0)=false->1<=(bC T.2.1 q).1.length/\(∀s∈(bC T.2.1 q).1,1<=s.1)/\(∀s∈(bC T.2.1 q).1,1<=s.2)
 he:(((cU T.2.2.1 q).2:Int) != 0)=false->W (Int.tdiv (W (Int.tdiv (cO q) 1048576)) 1048576)≠0/\F99 (cU T.2.2.1 q).1.2 (W (Int.tdiv (W (Int.tdiv (cO q) 1048576)) 1048576))≠0
theorem aPa {m:ME} {q:List Int} {d:Int} (hC:ChOK m q)(hd:0<=d/\d<=2)(h:(((bC (bU m d).1 q).2:Int) != 0)=false) :
   1<=(bC (bU m d).1 q).1.length/\(∀s∈(bC (bU m d).1 q).1,1<=s.1)/\(∀s∈(bC (bU m d).1 q).1,1<=s.2):=by
 have e:(bU m d).1=(aU m).map (gB m d):=by rw [aI4 hC.v hd];rfl
 have hn:=hC.n;have hl:=hC.len;have hs:=hC.pos
 have hpl:(aU m).length=m.2.length:=List.length_map _
 have hrow:∀r∈(aU m).map (gB m d),r.length=q.length/\∀s∈r,okP s:=fun r hr=>by
   obtain⟨p,hp,rfl⟩:=List.mem_map.1 hr
   unfold gB
   refine⟨by rw [List.length_map];omega,fun s hsm=>?_⟩
   obtain⟨p',hp',rfl⟩:=List.mem_map.1 hsm
   exact(kN (mH hC.v hd hp' hp)).2
 rw [e,aNq (fun r hr=>by rw [(hrow r hr).1];exact Nat.le_refl _) (by omega)] at h ⊢
 have hp:=aGx hrow hC.ok (bne_eq_false_iff_eq.1 h)
 refine⟨by rw [hp.1,List.length_map];omega,fun s hs'=>?_,fun s hs'=>?_⟩
 · have:=hp.2 s hs';omega
 · have:=hp.2 s hs';omega
theorem aS8 {m:ME} {q:List Int} {d:Int} (hC:ChOK m q)(hd:0<=d/\d<=2)(h:(((cU (cD m d).1 q).2:Int) != 0)=false) :
   W (Int.tdiv (W (Int.tdiv (cO q) 1048576)) 1048576)≠0/\F99 (cU (cD m d).1 q).1.2 (W (Int.tdiv (W (Int.tdiv (cO q) 1048576)) 1048576))≠0:=by
 have e:(cD m d).1=MT m d:=by rw [aI5 hC.v hd];rfl
 have hn:=hC.n;have hl:=hC.len;have hs:=hC.pos;have hle:=hC.le
 have hpl:(aU m).length=m.2.length:=List.length_map _
 rw [e,aZy (by omega) (by omega)] at h ⊢
 obtain⟨hp,hv⟩:=aLu hC hd (bne_eq_false_iff_eq.1 h)
 rw [aC3 hC.ok hC.pos (by omega)]
 unfold vs at hv
 have:=(aGy (a:=(eA (((aU m).zip q).flatMap (eC m q d))).1.2) (n:=q.sum) (by omega) (by omega)).1
 exact⟨by omega,by omega⟩
theorem cV {m:ME} {q:List Int} {d:Int} (h:((gI m q d:Int) != 0)=false):BndPre (F33 m d).1 q:=by
 obtain⟨hv,hd⟩:=aI8 h
 have p1:=aVt h
 have p2:=aZs h
 have hC:ChOK m q:=by rw [zJ] at h;exact(gO (bne_eq_false_iff_eq.1 h)).1
 rw [aLv hv hd]
 exact⟨p1.1,p1.2.1,p1.2.2,p2.1,p2.2.1,fun h0=>aPa hC hd h0,fun h0=>aS8 hC hd h0⟩
theorem aLw (m:ME):(F57 m).length=m.2.length:=by rw [aZ0,List.length_map]
def bW (a0:Zm)(a1:List (Int))(a2:Int):(Int×Int)×Int :=
 (bif (((gI (a0.1,a0.2) a1 a2):Int) != 0) then
  ((0,0),(gI (a0.1,a0.2) a1 a2))
 else
  (bif (((F33 (a0.1,a0.2) a2).2:Int) != 0) then
   ((0,0),(F33 (a0.1,a0.2) a2).2)
  else
   ((jG ((a0.1,a0.2),(F33 (a0.1,a0.2) a2).1.2.1,(F33 (a0.1,a0.2) a2).1.2.2.1,(F33 (a0.1,a0.2) a2).1.2.2.2) a1).1,(jG ((a0.1,a0.2),(F33 (a0.1,a0.2) a2).1.2.1,(F33 (a0.1,a0.2) a2).1.2.2.1,(F33 (a0.1,a0.2) a2).1.2.2.2) a1).2)))
theorem aXb (a0:Zm)(a1:List (Int))(a2:Int)(l0_1:a0.1.length<=9223372036854775807)(l0_2:a0.2.length<=9223372036854775807)(l1:a1.length<=9223372036854775807):Con Tryz.prog 11 [(.a [(.s 0 0 a0.1.length 3),(.s 1 0 a0.2.length 3)]),(.s 2 0 a1.length 1),(iv a2)] [(.live false true (flat dL a0.1)),(.live false true (flat dW a0.2)),(.live false true (flat c3 a1))] (.t [(.a (k2 (bW a0 a1 a2).1)),(iv (bW a0 a1 a2).2)]) []:=by
 refine aJ Tryz.func11 (by kernel_rfl) fun cx hcx=>?_
 try have hx1:=(cV h0).hn
 try have hx2:=(cV h0).hm
 try have hx3:=(cV h0).hl
 let t0:List (St Tryz.prog):=[.c [0,1,2] (bDa (a0.1,a0.2) a1 a2 (by(try simp only [Lt]);omega) (by(try simp only [Lt]);omega) (by omega))]
 cases h0:(((gI (a0.1,a0.2) a1 a2):Int) != 0) with
 | true =>
  have q0:=bne_iff_ne.1 h0
  try have hx1:=(cV h0).hn
  try have hx2:=(cV h0).hm
  try have hx3:=(cV h0).hl
  have e:=Eq.refl (bW a0 a1 a2);conv at e=>rhs;simp only [bW,h0,aI]
  rw [e]
  exact rt (t0++[.d h0]) [] [] hcx (by kernel_rfl)
 | false =>
  have q0:=bne_eq_false_iff_eq.1 h0
  try have hx1:=(cV h0).hn
  try have hx2:=(cV h0).hm
  try have hx3:=(cV h0).hl
  let t1:List (St Tryz.prog):=(t0++[.d h0,.c [0,1] (C33 (a0.1,a0.2) a2 (by(try simp only [Lt]);omega) (by(try simp only [Lt]);omega) (aI8 h0).1 (aI8 h0).2)])
  cases h1:(((F33 (a0.1,a0.2) a2).2:Int) != 0) with
  | true =>
   have q1:=bne_iff_ne.1 h1
   try have hx1:=(cV h0).hn
   try have hx2:=(cV h0).hm
   try have hx3:=(cV h0).hl
   have e:=Eq.refl (bW a0 a1 a2);conv at e=>rhs;simp only [bW,h0,h1,aI]
   rw [e]
   exact rt (t1++[.d h1]) [] [] hcx (by kernel_rfl)
  | false =>
   have q1:=bne_eq_false_iff_eq.1 h1
   try have hx1:=(cV h0).hn
   try have hx2:=(cV h0).hm
   try have hx3:=(cV h0).hl
   have e:=Eq.refl (bW a0 a1 a2);conv at e=>rhs;simp only [bW,h0,h1,aI]
   rw [e]
   exact rt (t1++[.d h1,.c [0,1,5,6,2] (bDs ((a0.1,a0.2),(F33 (a0.1,a0.2) a2).1.2.1,(F33 (a0.1,a0.2) a2).1.2.2.1,(F33 (a0.1,a0.2) a2).1.2.2.2) a1 (by(try simp only [Lt]);omega) (by(try simp only [Lt]);omega) (by(try simp only [Lt]);omega) (by(try simp only [Lt]);omega) (by(try simp only [Lt]);omega) (cV h0).hr (cV h0).hn (cV h0).hm (cV h0).hl (cV h0).hs (cV h0).hp (cV h0).he)]) [] [] hcx (by kernel_rfl)
def F31 (a0:Zm)(a1:Int):(Int×Int)×Int :=
 (bif (((fB (a0.1,a0.2)):Int) != 0) then
  ((0,0),(fB (a0.1,a0.2)))
 else
  ((bW (a0.1,a0.2) (F57 (a0.1,a0.2)) a1).1,(bW (a0.1,a0.2) (F57 (a0.1,a0.2)) a1).2))
theorem C31 (a0:Zm)(a1:Int)(l0_1:a0.1.length<=9223372036854775807)(l0_2:a0.2.length<=9223372036854775807):Con Tryz.prog 31 [(.a [(.s 0 0 a0.1.length 3),(.s 1 0 a0.2.length 3)]),(iv a1)] [(.live false true (flat dL a0.1)),(.live false true (flat dW a0.2))] (.t [(.a (k2 (F31 a0 a1).1)),(iv (F31 a0 a1).2)]) []:=by
 refine aJ Tryz.func31 (by kernel_rfl) fun cx hcx=>?_
 try have hg:=(qP h0).2
 have ho:=aLw (a0.1,a0.2)
 let t0:List (St Tryz.prog):=[.c [0,1] (C35 (a0.1,a0.2) (by(try simp only [Lt]);omega) (by(try simp only [Lt]);omega))]
 cases h0:(((fB (a0.1,a0.2)):Int) != 0) with
 | true =>
  have q0:=bne_iff_ne.1 h0
  try have hg:=(qP h0).2
  have e:=Eq.refl (F31 a0 a1);conv at e=>rhs;simp only [F31,h0,aI]
  rw [e]
  exact rt (t0++[.d h0]) [] [] hcx (by kernel_rfl)
 | false =>
  have q0:=bne_eq_false_iff_eq.1 h0
  try have hg:=(qP h0).2
  have e:=Eq.refl (F31 a0 a1);conv at e=>rhs;simp only [F31,h0,aI]
  rw [e]
  exact rt (t0++[.d h0,.c [0,1] (C57 (a0.1,a0.2) (by(try simp only [Lt]);omega) (by(try simp only [Lt]);omega) (by(try simp only [Lt]);omega)),.c [0,1,4] (aXb (a0.1,a0.2) (F57 (a0.1,a0.2)) a1 (by(try simp only [Lt]);omega) (by(try simp only [Lt]);omega) (by(try simp only [Lt]);omega))]) [] [] hcx (by kernel_rfl)
namespace CapT
theorem lP {a b:Rat} (h:a=b):a<=b:=by rw [h];exact Rat.le_refl
def sm:Nat->(Nat->Rat)->Rat
 | 0,_=>0
 | n+1,f=>sm n f+f n
theorem bX {n:Nat} {f g:Nat->Rat} (h:∀i,i < n->f i=g i):sm n f=sm n g:=by
 induction n with
 | zero=>rfl
 | succ n ih=>rw [sm,sm,ih (fun i hi=>h i (by omega)),h n (by omega)]
theorem oE {n:Nat} {f g:Nat->Rat} (h:∀i,i < n->f i<=g i):sm n f<=sm n g:=by
 induction n with
 | zero=>exact Rat.le_refl
 | succ n ih =>
   have h1:=ih (fun i hi=>h i (by omega))
   have h2:=h n (by omega)
   rw [sm,sm];grind
theorem nI (n:Nat)(f g:Nat->Rat):sm n (fun i=>f i+g i)=sm n f+sm n g:=by
 induction n with
 | zero=>grind [sm]
 | succ n ih=>rw [sm,sm,sm,ih];grind
theorem dO (n:Nat)(c:Rat)(f:Nat->Rat):sm n (fun i=>c*f i)=c*sm n f:=by
 induction n with
 | zero=>grind [sm]
 | succ n ih=>rw [sm,sm,ih];grind
theorem aAp (n:Nat):sm n (fun _=>0)=0:=by
 induction n with
 | zero=>rfl
 | succ n ih=>rw [sm,ih];grind
theorem rZ {n:Nat} {f:Nat->Rat} (h:∀i,i < n->0<=f i):0<=sm n f:=by
 have:=oE (f:=fun _=>0) h
 rwa [aAp] at this
theorem aHd (n m:Nat)(f:Nat->Nat->Rat):sm n (fun i=>sm m (fun j=>f i j))=sm m (fun j=>sm n (fun i=>f i j)):=by
 induction n with
 | zero=>simp only [sm,aAp]
 | succ n ih=>simp only [sm];rw [ih,nI]
theorem aS9 (a b:Nat)(f:Nat->Rat):sm (a+b) f=sm a f+sm b (fun i=>f (a+i)):=by
 induction b with
 | zero=>simp only [sm,Nat.add_zero];grind
 | succ b ih=>rw [←Nat.add_assoc,sm,ih,sm];grind
theorem aC7 (n:Nat)(c:Rat):sm n (fun _=>c)=n*c:=by
 induction n with
 | zero=>simp only [sm];grind
 | succ n ih=>rw [sm,ih];grind
theorem aC8 (n:Nat)(f:Nat->Rat):sm (n+1) f=f 0+sm n (fun i=>f (i+1)):=by
 induction n with
 | zero=>simp only [sm];grind
 | succ n ih=>rw [sm,ih,sm];grind
theorem aZ1 {n m a:Nat} {f:Nat->Rat} (h:∀i,i < n->0<=f i)(hn:a+m<=n):sm m (fun i=>f (a+i))<=sm n f:=by
 have e:n=a+m+(n - a - m):=by omega
 rw [e,aS9,aS9]
 have h1:=rZ (n:=a) (f:=f) (fun i hi=>h i (by omega))
 have h2:=rZ (n:=n - a - m) (f:=fun i=>f (a+m+i)) (fun i hi=>h _ (by omega))
 grind
def ln (L:Nat)(f:Int->Rat):Rat:=sm (2*L+1) (fun i=>f ((i:Int) - L))
theorem eV {L:Nat} {f g:Int->Rat} (h:∀x:Int,-L<=x->x<=L->f x=g x):ln L f=ln L g:=bX (fun i hi=>h _ (by omega) (by omega))
theorem wF {L:Nat} {f g:Int->Rat} (h:∀x:Int,-L<=x->x<=L->f x<=g x):ln L f<=ln L g:=oE (fun i hi=>h _ (by omega) (by omega))
theorem lQ {L:Nat} {f:Int->Rat} (h:∀x:Int,-L<=x->x<=L->0<=f x):0<=ln L f:=rZ (fun i hi=>h _ (by omega) (by omega))
theorem yN (L:Nat)(f g:Int->Rat):ln L (fun x=>f x+g x)=ln L f+ln L g:=nI _ _ _
theorem aLx (L:Nat)(c:Rat)(f:Int->Rat):ln L (fun x=>c*f x)=c*ln L f:=dO _ _ _
theorem aV3 (L:Nat):ln L (fun _=>0)=0:=aAp _
theorem aHe (L M:Nat)(f:Int->Int->Rat):ln L (fun x=>ln M (fun y=>f x y))=ln M (fun y=>ln L (fun x=>f x y)):=aHd _ _ _
theorem wG (L:Nat)(c:Rat):ln L (fun _=>c)=(2*L+1)*c:=by
 rw [ln,aC7];grind
theorem aTa (L:Nat)(f:Int->Rat):ln L (fun x=>f (x+1))+f (-L)=ln L f+f (L+1):=by
 have h1:=aC8 (2*L+1) (fun i=>f ((i:Int) - L))
 rw [sm] at h1
 have e:sm (2*L+1) (fun i=>f (((i+1:Nat):Int) - L))=ln L (fun x=>f (x+1)):=bX (fun i hi=>by rw [show((i+1:Nat):Int) - L=(i:Int) - L+1 by omega])
 rw [e,show(((0:Nat):Int) - (L:Int))=-L by omega,show(((2*L+1:Nat):Int) - (L:Int))=L+1 by omega] at h1
 have e2:ln L f=sm (2*L+1) (fun i=>f ((i:Int) - L)):=rfl
 rw [e2];grind
theorem aPb {L:Nat} {f:Int->Rat} (h1:f (-L)=0)(h2:f (L+1)=0):ln L (fun x=>f (x+1))=ln L f:=by
 have:=aTa L f
 rw [h1,h2] at this;grind
theorem aLy {L M:Nat} {a:Int} {f:Int->Rat} (h:∀x:Int,-L<=x->x<=L->0<=f x)(h1:-L<=a - M)(h2:a+M<=L):ln M (fun y=>f (a+y))<=ln L f:=by
 have:=aZ1 (n:=2*L+1) (m:=2*M+1) (a:=toNat (L+a - M)) (f:=fun i=>f ((i:Int) - L)) (fun i hi=>h _ (by omega) (by omega)) (by omega)
 refine Rat.le_trans (lP (bX (fun i hi=>?_))) this
 show f _=f _
 rw [show((toNat (L+a - M)+i:Nat):Int) - L=a+((i:Int) - M) by omega]
theorem aHf (L:Nat)(f:Int->Rat):ln (L+1) f=ln L f+f (L+1)+f (-L - 1):=by
 have e:2*(L+1)+1=(2*L+1+1)+1:=by omega
 rw [ln,e,sm,aC8]
 have e2:sm (2*L+1) (fun i=>f (((i+1:Nat):Int) - ((L+1:Nat):Int)))=ln L f:=bX (fun i hi=>by rw [show(((i+1:Nat):Int) - ((L+1:Nat):Int))=(i:Int) - L by omega])
 rw [e2,show(((0:Nat):Int) - ((L+1:Nat):Int))=-L - 1 by omega,show(((2*L+1+1:Nat):Int) - ((L+1:Nat):Int))=L+1 by omega]
 grind
abbrev V3:=Zt
def va (p q:V3):V3:=(p.1+q.1,p.2.1+q.2.1,p.2.2+q.2.2)
def vs (p q:V3):V3:=(p.1 - q.1,p.2.1 - q.2.1,p.2.2 - q.2.2)
def inb (L:Int)(p:V3):Prop:=-L<=p.1/\p.1<=L/\-L<=p.2.1/\p.2.1<=L/\-L<=p.2.2/\p.2.2<=L
def bx (L:Nat)(f:V3->Rat):Rat:=ln L (fun x=>ln L (fun y=>ln L (fun z=>f (x,y,z))))
theorem qU {L:Nat} {f g:V3->Rat} (h:∀p,inb L p->f p=g p):bx L f=bx L g :=
 eV (fun x a b=>eV (fun y c d=>eV (fun z e k=>h (x,y,z) ⟨a,b,c,d,e,k⟩)))
theorem wH {L:Nat} {f g:V3->Rat} (h:∀p,inb L p->f p<=g p):bx L f<=bx L g :=
 wF (fun x a b=>wF (fun y c d=>wF (fun z e k=>h (x,y,z) ⟨a,b,c,d,e,k⟩)))
theorem aPc {L:Nat} {f:V3->Rat} (h:∀p,inb L p->0<=f p):0<=bx L f :=
 lQ (fun x a b=>lQ (fun y c d=>lQ (fun z e k=>h (x,y,z) ⟨a,b,c,d,e,k⟩)))
theorem aC9 (L:Nat)(f g:V3->Rat):bx L (fun p=>f p+g p)=bx L f+bx L g:=by
 simp only [bx,yN]
theorem nJ (L:Nat)(c:Rat)(f:V3->Rat):bx L (fun p=>c*f p)=c*bx L f:=by
 simp only [bx,aLx]
theorem aNw (L:Nat):bx L (fun _=>0)=0:=by
 simp only [bx,aV3]
theorem aV4 (L:Nat)(f g:V3->Rat):bx L (fun p=>f p - g p)=bx L f - bx L g:=by
 have:=aC9 L f (fun p=>(-1)*g p)
 rw [nJ] at this
 have e:bx L (fun p=>f p - g p)=bx L (fun p=>f p+(-1)*g p):=qU (fun p _=>by grind)
 rw [e,this];grind
theorem uE {L M:Nat} {a:V3} {f:V3->Rat} (h:∀p,inb L p->0<=f p)(h1:∀p,inb M p->inb L (va a p)):bx M (fun p=>f (va a p))<=bx L f:=by
 obtain⟨a1,a2,a3,a4,a5,a6⟩:=h1 (-(M:Int),-(M:Int),-(M:Int)) ⟨by simp only;omega,by simp only;omega,by simp only;omega,by simp only;omega,by simp only;omega,by simp only;omega⟩
 obtain⟨b1,b2,b3,b4,b5,b6⟩:=h1 ((M:Int),(M:Int),(M:Int)) ⟨by simp only;omega,by simp only;omega,by simp only;omega,by simp only;omega,by simp only;omega,by simp only;omega⟩
 simp only [va] at *
 have s1:bx M (fun p=>f (va a p))<=ln M (fun x=>ln L (fun y=>ln L (fun z=>f (a.1+x,y,z)))):=by
   refine wF (fun x hx1 hx2=>?_)
   have s2:ln M (fun y=>ln M (fun z=>f (a.1+x,a.2.1+y,a.2.2+z)))<=ln M (fun y=>ln L (fun z=>f (a.1+x,a.2.1+y,z))):=by
     refine wF (fun y hy1 hy2=>?_)
     exact aLy (f:=fun z=>f (a.1+x,a.2.1+y,z)) (fun z hz1 hz2=>h _ ⟨by simp only;omega,by simp only;omega,by simp only;omega,by simp only;omega,hz1,hz2⟩) (by omega) (by omega)
   refine Rat.le_trans s2 ?_
   exact aLy (f:=fun y=>ln L (fun z=>f (a.1+x,y,z))) (fun y hy1 hy2=>lQ (fun z hz1 hz2=>h _ ⟨by simp only;omega,by simp only;omega,hy1,hy2,hz1,hz2⟩)) (by omega) (by omega)
 refine Rat.le_trans s1 ?_
 exact aLy (f:=fun x=>ln L (fun y=>ln L (fun z=>f (x,y,z)))) (fun x hx1 hx2=>lQ (fun y hy1 hy2=>lQ (fun z hz1 hz2=>h _ ⟨hx1,hx2,hy1,hy2,hz1,hz2⟩))) (by omega) (by omega)
def ls {α:Type}:List α->(α->Rat)->Rat
 | [],_=>0
 | a::l,f=>f a+ls l f
theorem ls_congr {α:Type} {l:List α} {f g:α->Rat} (h:∀a,a∈l->f a=g a):ls l f=ls l g:=by
 induction l with
 | nil=>rfl
 | cons a l ih=>rw [ls,ls,h a (List.mem_cons_self ..),ih (fun b hb=>h b (List.mem_cons_of_mem _ hb))]
theorem sY {α:Type} {l:List α} {f g:α->Rat} (h:∀a,a∈l->f a<=g a):ls l f<=ls l g:=by
 induction l with
 | nil=>exact Rat.le_refl
 | cons a l ih =>
   have h1:=h a (List.mem_cons_self ..)
   have h2:=ih (fun b hb=>h b (List.mem_cons_of_mem _ hb))
   rw [ls,ls];grind
theorem aHg {α:Type} (l:List α)(f g:α->Rat):ls l (fun a=>f a+g a)=ls l f+ls l g:=by
 induction l with
 | nil=>grind [ls]
 | cons a l ih=>rw [ls,ls,ls,ih];grind
theorem ls_mul {α:Type} (l:List α)(c:Rat)(f:α->Rat):ls l (fun a=>c*f a)=c*ls l f:=by
 induction l with
 | nil=>grind [ls]
 | cons a l ih=>rw [ls,ls,ih];grind
theorem aV5 {α:Type} (l:List α):ls l (fun _=>0)=0:=by
 induction l with
 | nil=>rfl
 | cons a l ih=>rw [ls,ih];grind
theorem jV {α:Type} {l:List α} {f:α->Rat} (h:∀a,a∈l->0<=f a):0<=ls l f:=by
 have:=sY (f:=fun _=>0) h
 rwa [aV5] at this
theorem aTb {α:Type} (l m:List α)(f:α->Rat):ls (l++m) f=ls l f+ls m f:=by
 induction l with
 | nil=>show ls m f=0+ls m f;grind
 | cons a l ih=>rw [List.cons_append,ls,ls,ih];grind
theorem ls_flat {α β:Type} (l:List α)(g:α->List β)(f:β->Rat):ls (l.flatMap g) f=ls l (fun a=>ls (g a) f):=by
 induction l with
 | nil=>rfl
 | cons a l ih=>rw [List.flatMap_cons,aTb,ih,ls]
theorem ls_map {α β:Type} (l:List α)(g:α->β)(f:β->Rat):ls (l.map g) f=ls l (fun a=>f (g a)):=by
 induction l with
 | nil=>rfl
 | cons a l ih=>rw [List.map_cons,ls,ls,ih]
theorem aNx {α:Type} (l:List α)(L:Nat)(f:α->V3->Rat):bx L (fun p=>ls l (fun a=>f a p))=ls l (fun a=>bx L (fun p=>f a p)):=by
 induction l with
 | nil=>simp only [ls,aNw]
 | cons a l ih=>simp only [ls];rw [aC9,ih]
def px (p:V3):V3:=(p.1+1,p.2.1,p.2.2)
def py (p:V3):V3:=(p.1,p.2.1+1,p.2.2)
def pz (p:V3):V3:=(p.1,p.2.1,p.2.2+1)
def mx (p:V3):V3:=(p.1 - 1,p.2.1,p.2.2)
def my (p:V3):V3:=(p.1,p.2.1 - 1,p.2.2)
def mz (p:V3):V3:=(p.1,p.2.1,p.2.2 - 1)
def cR (f:V3->Rat)(p:V3):Rat:=6*f p - (f (px p)+f (mx p)+(f (py p)+f (my p))+(f (pz p)+f (mz p)))
def ed (L:Nat)(F:V3->V3->Rat):Rat:=bx L (fun p=>F p (px p))+bx L (fun p=>F p (py p))+bx L (fun p=>F p (pz p))
theorem aTc {L:Nat} {F G:V3->V3->Rat} (h:∀p q,inb (L+1) p->inb (L+1) q->F p q<=G p q):ed L F<=ed L G:=by
 have k:∀p,inb L p->inb (L+1) p/\inb (L+1) (px p)/\inb (L+1) (py p)/\inb (L+1) (pz p):=by
   intro p hp;simp only [inb,px,py,pz] at *;omega
 have h1:=wH (L:=L) (f:=fun p=>F p (px p)) (g:=fun p=>G p (px p)) (fun p hp=>h _ _ (k p hp).1 (k p hp).2.1)
 have h2:=wH (L:=L) (f:=fun p=>F p (py p)) (g:=fun p=>G p (py p)) (fun p hp=>h _ _ (k p hp).1 (k p hp).2.2.1)
 have h3:=wH (L:=L) (f:=fun p=>F p (pz p)) (g:=fun p=>G p (pz p)) (fun p hp=>h _ _ (k p hp).1 (k p hp).2.2.2)
 unfold ed;grind
theorem aZ2 {L:Nat} {F G:V3->V3->Rat} (h:∀p q,inb (L+1) p->inb (L+1) q->(q=px p\/q=py p\/q=pz p)->F p q<=G p q):ed L F<=ed L G:=by
 have k:∀p,inb L p->inb (L+1) p/\inb (L+1) (px p)/\inb (L+1) (py p)/\inb (L+1) (pz p):=by
   intro p hp;simp only [inb,px,py,pz] at *;omega
 have h1:=wH (L:=L) (f:=fun p=>F p (px p)) (g:=fun p=>G p (px p)) (fun p hp=>h _ _ (k p hp).1 (k p hp).2.1 (.inl rfl))
 have h2:=wH (L:=L) (f:=fun p=>F p (py p)) (g:=fun p=>G p (py p)) (fun p hp=>h _ _ (k p hp).1 (k p hp).2.2.1 (.inr (.inl rfl)))
 have h3:=wH (L:=L) (f:=fun p=>F p (pz p)) (g:=fun p=>G p (pz p)) (fun p hp=>h _ _ (k p hp).1 (k p hp).2.2.2 (.inr (.inr rfl)))
 unfold ed;grind
theorem aTd (L:Nat)(F G:V3->V3->Rat):ed L (fun p q=>F p q+G p q)=ed L F+ed L G:=by
 simp only [ed,aC9];grind
theorem aLz (L:Nat)(c:Rat)(F:V3->V3->Rat):ed L (fun p q=>c*F p q)=c*ed L F:=by
 simp only [ed,nJ];grind
theorem aTe {L:Nat} {F G:V3->V3->Rat} (h:∀p q,F p q=G p q):ed L F=ed L G:=by
 have:F=G:=funext fun p=>funext fun q=>h p q
 rw [this]
theorem aDa {L:Nat} {f g:Int->Rat} (h1:g (-L)=0)(h2:g (L+1)=0):ln L (fun x=>(f (x+1) - f x)*(g (x+1) - g x))=ln L (fun x=>g x*(2*f x - f (x+1) - f (x - 1))):=by
 have h:=aPb (L:=L) (f:=fun x=>g x*(f x - f (x - 1))) (by rw [h1];grind) (by rw [h2];grind)
 have e1:ln L (fun x=>(f (x+1) - f x)*(g (x+1) - g x))=ln L (fun x=>(fun x=>g x*(f x - f (x - 1))) (x+1)+(-1)*(g x*(f (x+1) - f x))):=by
   refine eV (fun x _ _=>?_)
   simp only []
   rw [show x+1 - 1=x by omega];grind
 rw [e1,yN,aLx,h,←aLx,←yN]
 refine eV (fun x _ _=>?_)
 grind
theorem bDv (L:Nat)(f:V3->Rat):bx L f=ln L (fun y=>ln L (fun z=>ln L (fun x=>f (x,y,z)))):=by
 unfold bx
 rw [aHe]
 refine eV (fun y _ _=>?_)
 rw [aHe]
theorem bDw (L:Nat)(f:V3->Rat):bx L f=ln L (fun x=>ln L (fun z=>ln L (fun y=>f (x,y,z)))):=by
 unfold bx
 refine eV (fun x _ _=>?_)
 rw [aHe]
theorem aDb {L:Nat} {f g:V3->Rat} (h:∀p,inb (L+1) p->¬inb ((L:Int) - 1) p->g p=0):ed L (fun p q=>(f q - f p)*(g q - g p))=bx L (fun p=>g p*cR f p):=by
 have k1:bx L (fun p=>(f (px p) - f p)*(g (px p) - g p))=bx L (fun p=>g p*(2*f p - f (px p) - f (mx p))):=by
   rw [bDv,bDv]
   refine eV (fun y hy1 hy2=>eV (fun z hz1 hz2=>?_))
   exact aDa (f:=fun x=>f (x,y,z)) (g:=fun x=>g (x,y,z)) (h _ (by simp only [inb];omega) (by simp only [inb];omega)) (h _ (by simp only [inb];omega) (by simp only [inb];omega))
 have k2:bx L (fun p=>(f (py p) - f p)*(g (py p) - g p))=bx L (fun p=>g p*(2*f p - f (py p) - f (my p))):=by
   rw [bDw,bDw]
   refine eV (fun y hy1 hy2=>eV (fun z hz1 hz2=>?_))
   exact aDa (f:=fun x=>f (y,x,z)) (g:=fun x=>g (y,x,z)) (h _ (by simp only [inb];omega) (by simp only [inb];omega)) (h _ (by simp only [inb];omega) (by simp only [inb];omega))
 have k3:bx L (fun p=>(f (pz p) - f p)*(g (pz p) - g p))=bx L (fun p=>g p*(2*f p - f (pz p) - f (mz p))):=by
   unfold bx
   refine eV (fun y hy1 hy2=>eV (fun z hz1 hz2=>?_))
   exact aDa (f:=fun x=>f (y,z,x)) (g:=fun x=>g (y,z,x)) (h _ (by simp only [inb];omega) (by simp only [inb];omega)) (h _ (by simp only [inb];omega) (by simp only [inb];omega))
 unfold ed
 rw [k1,k2,k3,←aC9,←aC9]
 refine qU (fun p _=>?_)
 unfold cR;grind
def gG (lam v a:Rat):Rat:=if a<=lam then 0 else if a<=v then a - lam else v - lam
def jI (lam a:Rat):Rat:=if a<=lam then 0 else a - lam
theorem rmul_le {a b c:Rat} (h:a<=b)(hc:0<=c):a*c<=b*c:=Rat.mul_le_mul_of_nonneg_right h hc
theorem rmul_le' {a b c:Rat} (h:a<=b)(hc:0<=c):c*a<=c*b:=Rat.mul_le_mul_of_nonneg_left h hc
theorem aTf {x y:Rat} (h:(0<=x/\x<=y)\/(x<=0/\y<=x)):x*x<=y*x:=by
 rcases h with⟨h1,h2⟩ | ⟨h1,h2⟩
 · exact rmul_le h2 h1
 · have:=rmul_le' (a:=-x) (b:=-y) (c:=-x) (by grind) (by grind)
   grind
theorem aZ3 {lam v a b:Rat} (hv:lam<=v):(gG lam v b - gG lam v a)*(gG lam v b - gG lam v a)<=(b - a)*(gG lam v b - gG lam v a):=by
 refine aTf ?_
 unfold gG
 grind
theorem aZ4 {lam a b:Rat}:(jI lam b - jI lam a)*(jI lam b - jI lam a)<=(b - a)*(jI lam b - jI lam a):=by
 refine aTf ?_
 unfold jI
 grind
theorem aTg {lam v a:Rat} (hv:lam<=v):0<=gG lam v a/\gG lam v a<=v - lam:=by
 unfold gG;grind
theorem aV6 {lam v a:Rat} (hv:lam<=v)(h:v<=a):gG lam v a=v - lam:=by
 unfold gG;grind
theorem aZ5 {lam a:Rat} (hl:0<=lam)(ha:0<=a):0<=jI lam a/\jI lam a<=a:=by
 unfold jI;grind
theorem sq_nonneg (x:Rat):0<=x*x:=by
 rcases Rat.le_total (a:=0) (b:=x) with h | h
 · exact Rat.mul_nonneg h h
 · have:=Rat.mul_nonneg (a:=-x) (b:=-x) (by grind) (by grind)
   grind
theorem bFz {L:Nat} {W U:V3->Rat} {lam lam' v A Y Z:Rat}
   (h1:∀p,inb (L+1) p->¬inb ((L:Int) - 1) p->U p<=lam/\W p<=lam')
   (h2:∀p q,inb (L+1) p->inb (L+1) q->(q=px p\/q=py p\/q=pz p)->(lam < U p\/lam < U q)->lam'<=W p/\lam'<=W q)
   (hv:lam<=v) (hA:bx L (fun p=>jI lam' (W p)*cR W p)<=A) (hY:bx L (fun p=>gG lam v (U p)*cR U p)<=Y)
   (hZ:Z<=bx L (fun p=>gG lam v (U p)*cR W p)) (hZ0:0<=Z) (hY0:0 < Y):Z*Z<=A*Y:=by
 have su:∀p,inb (L+1) p->¬inb ((L:Int) - 1) p->gG lam v (U p)=0:=fun p a b=>by
   have:=(h1 p a b).1;unfold gG;rw [if_pos this]
 have sw:∀p,inb (L+1) p->¬inb ((L:Int) - 1) p->jI lam' (W p)=0:=fun p a b=>by
   have:=(h1 p a b).2;unfold jI;rw [if_pos this]
 rw [←aDb (f:=W) (g:=fun p=>jI lam' (W p)) sw] at hA
 rw [←aDb (f:=U) (g:=fun p=>gG lam v (U p)) su] at hY
 rw [←aDb (f:=W) (g:=fun p=>gG lam v (U p)) su] at hZ
 have a1:ed L (fun p q=>(jI lam' (W q) - jI lam' (W p))*(jI lam' (W q) - jI lam' (W p)))<=A :=
   Rat.le_trans (aTc (fun p q _ _=>aZ4)) hA
 have a2:ed L (fun p q=>(gG lam v (U q) - gG lam v (U p))*(gG lam v (U q) - gG lam v (U p)))<=Y :=
   Rat.le_trans (aTc (fun p q _ _=>aZ3 hv)) hY
 have a3:Z<=ed L (fun p q=>(jI lam' (W q) - jI lam' (W p))*(gG lam v (U q) - gG lam v (U p))):=by
   refine Rat.le_trans hZ (aZ2 (fun p q hp hq hpq=>?_))
   by_cases c:lam < U p\/lam < U q
   · have:=h2 p q hp hq hpq c
     have e1:jI lam' (W p)=W p - lam':=by unfold jI;grind
     have e2:jI lam' (W q)=W q - lam':=by unfold jI;grind
     rw [e1,e2];grind
   · have e1:gG lam v (U p)=0:=by unfold gG;grind
     have e2:gG lam v (U q)=0:=by unfold gG;grind
     rw [e1,e2];grind
 have n0:0<=ed L (fun p q=>(Y*(jI lam' (W q) - jI lam' (W p)) - Z*(gG lam v (U q) - gG lam v (U p)))*(Y*(jI lam' (W q) - jI lam' (W p)) - Z*(gG lam v (U q) - gG lam v (U p)))):=by
   have:=aTc (L:=L) (F:=fun _ _=>0) (G:=fun p q=>(Y*(jI lam' (W q) - jI lam' (W p)) - Z*(gG lam v (U q) - gG lam v (U p)))*(Y*(jI lam' (W q) - jI lam' (W p)) - Z*(gG lam v (U q) - gG lam v (U p)))) (fun p q _ _=>sq_nonneg _)
   have e:ed L (fun _ _=>0)=0:=by simp only [ed,aNw];grind
   rwa [e] at this
 have ex:ed L (fun p q=>(Y*(jI lam' (W q) - jI lam' (W p)) - Z*(gG lam v (U q) - gG lam v (U p)))*(Y*(jI lam' (W q) - jI lam' (W p)) - Z*(gG lam v (U q) - gG lam v (U p))))
     = (Y*Y)*ed L (fun p q=>(jI lam' (W q) - jI lam' (W p))*(jI lam' (W q) - jI lam' (W p)))+((-2*Y*Z)*ed L (fun p q=>(jI lam' (W q) - jI lam' (W p))*(gG lam v (U q) - gG lam v (U p)))+(Z*Z)*ed L (fun p q=>(gG lam v (U q) - gG lam v (U p))*(gG lam v (U q) - gG lam v (U p)))):=by
   rw [←aLz,←aLz,←aLz,←aTd,←aTd]
   exact aTe (fun p q=>by grind)
 rw [ex] at n0
 generalize ed L (fun p q=>(jI lam' (W q) - jI lam' (W p))*(jI lam' (W q) - jI lam' (W p)))=P at *
 generalize ed L (fun p q=>(jI lam' (W q) - jI lam' (W p))*(gG lam v (U q) - gG lam v (U p)))=R at *
 generalize ed L (fun p q=>(gG lam v (U q) - gG lam v (U p))*(gG lam v (U q) - gG lam v (U p)))=S at *
 have b1:(Y*Y)*P<=(Y*Y)*A:=rmul_le' a1 (sq_nonneg Y)
 have b2:(Y*Z)*Z<=(Y*Z)*R:=rmul_le' a3 (Rat.mul_nonneg (Rat.le_of_lt hY0) hZ0)
 have b3:(Z*Z)*S<=(Z*Z)*Y:=rmul_le' a2 (sq_nonneg Z)
 have b4:0<=Y*(A*Y - Z*Z):=by grind
 by_cases c:Z*Z<=A*Y
 · exact c
 · have:0 < Y*(Z*Z - A*Y):=Rat.mul_pos hY0 (by grind)
   grind
abbrev WP:=Rat×V3
def dP (X:List WP):Rat:=ls X (fun a=>a.1)
def fG (K:V3->Rat)(X:List WP)(z:V3):Rat:=ls X (fun a=>a.1*K (vs z a.2))
def nsq (p:V3):Int:=p.1*p.1+p.2.1*p.2.1+p.2.2*p.2.2
theorem aHh (K:V3->Rat)(X:List WP)(z:V3):cR (fG K X) z=ls X (fun a=>a.1*cR K (vs z a.2)):=by
 have e:∀a:V3,vs (px z) a=px (vs z a)/\vs (mx z) a=mx (vs z a)/\vs (py z) a=py (vs z a)/\vs (my z) a=my (vs z a)/\vs (pz z) a=pz (vs z a)/\vs (mz z) a=mz (vs z a):=by
   intro a
   simp only [vs,px,py,pz,mx,my,mz,Prod.mk.injEq,true_and,and_true]
   omega
 induction X with
 | nil=>simp only [cR,fG,ls];grind
 | cons a X ih =>
   obtain⟨e1,e2,e3,e4,e5,e6⟩:=e a.2
   have:cR (fG K (a::X)) z=a.1*cR K (vs z a.2)+cR (fG K X) z:=by
     simp only [cR,fG,ls,e1,e2,e3,e4,e5,e6];grind
   rw [this,ih,ls]
theorem uF {K:V3->Rat} {X:List WP} (hK:∀p,0<=K p)(hX:∀a,a∈X->0<=a.1)(z:V3):0<=fG K X z :=
 jV (fun a ha=>Rat.mul_nonneg (hX a ha) (hK _))
theorem aHi {K:V3->Rat} {X:List WP} {c:Rat} (hX:∀a,a∈X->0<=a.1) {z:V3} (h:∀a,a∈X->K (vs z a.2)<=c):fG K X z<=dP X*c:=by
 have:=sY (l:=X) (f:=fun a=>a.1*K (vs z a.2)) (g:=fun a=>c*a.1) (fun a ha=>by have:=rmul_le' (h a ha) (hX a ha);grind)
 rw [ls_mul] at this
 unfold fG dP;grind
theorem aZ6 {K:V3->Rat} {X:List WP} {c:Rat} (hX:∀a,a∈X->0<=a.1) {z:V3} (h:∀a,a∈X->c<=K (vs z a.2)):dP X*c<=fG K X z:=by
 have:=sY (l:=X) (g:=fun a=>a.1*K (vs z a.2)) (f:=fun a=>c*a.1) (fun a ha=>by have:=rmul_le' (h a ha) (hX a ha);grind)
 rw [ls_mul] at this
 unfold fG dP;grind
theorem aI9 {X:List WP} (hX:∀a,a∈X->0<=a.1):0<=dP X:=jV hX
theorem kO {a b:Int} (h:0<=a)(h2:a<=b):a*a<=b*b:=Int.mul_le_mul h2 h2 h (by omega)
theorem sq_int_nonneg (a:Int):0<=a*a:=by
 rcases Int.le_total 0 a with h | h
 · exact Int.mul_nonneg h h
 · have:=Int.mul_nonneg (a:=-a) (b:=-a) (by omega) (by omega)
   grind
theorem aDc {a b:Int} (h0:0<=b)(h:b<=a\/a<=-b):b*b<=a*a:=by
 rcases h with h | h
 · exact kO h0 h
 · have:=kO (a:=b) (b:=-a) h0 (by omega)
   grind
theorem aL0 {a b:Int} (h:-b<=a)(h2:a<=b):a*a<=b*b:=by
 rcases Int.le_total 0 a with h0 | h0
 · exact kO h0 h2
 · have:=kO (a:=-a) (b:=b) (by omega) (by omega)
   grind
theorem aNy {D:Int} {p:V3} (hD:0<=D)(h:¬inb (D - 1) p):D*D<=nsq p:=by
 have h1:=sq_int_nonneg p.1
 have h2:=sq_int_nonneg p.2.1
 have h3:=sq_int_nonneg p.2.2
 have:(D<=p.1\/p.1<=-D)\/(D<=p.2.1\/p.2.1<=-D)\/(D<=p.2.2\/p.2.2<=-D):=by
   unfold inb at h;omega
 unfold nsq
 rcases this with h | h | h
 · have:=aDc hD h;omega
 · have:=aDc hD h;omega
 · have:=aDc hD h;omega
theorem aHj {D:Int} {p:V3} (h:inb D p):nsq p<=3*(D*D):=by
 obtain⟨a,b,c,d,e,f⟩:=h
 have h1:=aL0 a b
 have h2:=aL0 c d
 have h3:=aL0 e f
 unfold nsq;omega
theorem nsq_nonneg (p:V3):0<=nsq p:=by
 have h1:=sq_int_nonneg p.1
 have h2:=sq_int_nonneg p.2.1
 have h3:=sq_int_nonneg p.2.2
 unfold nsq;omega
theorem dI {x y:Rat} (hy:0<=y)(h:x*x<=y*y):x<=y:=by
 by_cases c:x<=y
 · exact c
 · have h1:y*y<=y*x:=rmul_le' (by grind) hy
   have h2:0 < (x - y)*x:=Rat.mul_pos (by grind) (by grind)
   grind
theorem inv_nn {a:Rat} (h:0<=a):0<=1 / a:=by
 rcases Rat.le_iff_lt_or_eq.mp h with h1 | h1
 · have:=Rat.inv_pos.mpr h1
   rw [Rat.div_def];grind
 · rw [←h1,Rat.div_def,Rat.inv_zero];grind
theorem rcast_pos {a:Int} (h:0 < a):(0:Rat) < (a:Rat):=by
 have:=Rat.intCast_lt_intCast.mpr h
 exact this
theorem rcast_le {a b:Int} (h:a<=b):(a:Rat)<=(b:Rat):=Rat.intCast_le_intCast.mpr h
theorem rcast_mul (a b:Int):((a*b:Int):Rat)=(a:Rat)*(b:Rat):=Rat.intCast_mul a b
theorem rcast_add (a b:Int):((a+b:Int):Rat)=(a:Rat)+(b:Rat):=Rat.intCast_add a b
structure Kn (K:V3->Rat) (N:Int):Prop where
 pos:∀p,0<=K p
 quart:∀p,K p<=1 / 4
 up:∀p,K p*K p*((nsq p+16:Int):Rat)<=1
 lo:∀p,inb N p->1<=4*(K p*K p*((nsq p+16:Int):Rat))
 rho:∀p,inb N p->0<=cR K p
theorem aL1 {K:V3->Rat} {N:Int} (hk:Kn K N) {D:Int} (hD:0 < D) {p:V3} (h:¬inb (D - 1) p):K p<=1 / (D:Rat):=by
 have h1:=aNy (by omega) h
 have hd:(0:Rat) < (D:Rat):=rcast_pos hD
 have h2:((D*D:Int):Rat)<=((nsq p+16:Int):Rat):=rcast_le (by omega)
 have h3:=rmul_le' h2 (sq_nonneg (K p))
 have h4:=hk.up p
 rw [rcast_mul] at h3
 have h5:K p*(D:Rat)<=1:=dI (by decide) (by grind)
 have h6:=rmul_le h5 (c:=1 / (D:Rat)) (inv_nn (Rat.le_of_lt hd))
 have e:K p*(D:Rat)*(1 / (D:Rat))=K p:=by grind
 rw [e] at h6;grind
theorem aV7 {K:V3->Rat} {N:Int} (hk:Kn K N) {D:Int} (hD:4<=D)(hN:D<=N) {p:V3} (h:inb D p):1 / (4*(D:Rat))<=K p:=by
 have h1:=aHj h
 have hd:(0:Rat) < (D:Rat):=rcast_pos (by omega)
 have hD2:16<=D*D:=by have:=kO (a:=4) (b:=D) (by omega) hD;omega
 have h2:((nsq p+16:Int):Rat)<=((4*(D*D):Int):Rat):=rcast_le (by omega)
 have h3:=rmul_le' h2 (sq_nonneg (K p))
 have h4:=hk.lo p (by unfold inb at *;omega)
 rw [rcast_mul,rcast_mul] at h3
 have h5:1<=K p*(4*(D:Rat)):=dI (Rat.mul_nonneg (hk.pos p) (by grind)) (by grind)
 have h6:=rmul_le h5 (c:=1 / (4*(D:Rat))) (inv_nn (by grind))
 have e:K p*(4*(D:Rat))*(1 / (4*(D:Rat)))=K p:=by grind
 rw [e] at h6;grind
theorem bDx (a p:V3):vs (va a p) a=p:=by
 obtain⟨a1,a2,a3⟩:=a
 obtain⟨p1,p2,p3⟩:=p
 simp only [vs,va,Prod.mk.injEq];omega
theorem bDy (a p:V3):va a (vs p a)=p:=by
 obtain⟨a1,a2,a3⟩:=a
 obtain⟨p1,p2,p3⟩:=p
 simp only [vs,va,Prod.mk.injEq];omega
def vn (a:V3):V3:=(-a.1,-a.2.1,-a.2.2)
theorem aXc (z a:V3):vs z a=va (vn a) z:=by
 obtain⟨a1,a2,a3⟩:=a
 obtain⟨p1,p2,p3⟩:=z
 simp only [vs,va,vn,Prod.mk.injEq];omega
theorem bF0 {K:V3->Rat} {X Y:List WP} {R s L1 L n:Nat} {v En:Rat}
   (hL:L=4*(L1+1+R)+R) (hn:n=L+1+R) (hR:4<=R) (h1:R<=L1) (hs:s+R<=L)
   (hk:Kn K n) (hX:∀a,a∈X->0<=a.1/\inb R a.2) (hY:∀b,b∈Y->0<=b.1/\inb R b.2)
   (hU:∀a,a∈X->∀z,inb s z->v<=fG K Y (va a.2 z)) (hE:∀z,inb s z->ls X (fun a=>a.1*fG K X (va a.2 z))<=En)
   (hv:dP Y / ((L1+1 - R:Int):Rat) < v) (hm:0 < bx n (cR K)) (hq:0 < dP Y) :
   (dP X*bx s (cR K))*(dP X*bx s (cR K))*(v - dP Y / ((L1+1 - R:Int):Rat))<=(bx n (cR K)*En+dP X*dP X*(1 / 4)*(bx n (cR K) - bx s (cR K)))*(dP Y*bx n (cR K)):=by
 generalize hlam:dP Y / ((L1+1 - R:Int):Rat)=lam at *
 have hX0:∀a,a∈X->0<=a.1:=fun a ha=>(hX a ha).1
 have hY0:∀a,a∈Y->0<=a.1:=fun a ha=>(hY a ha).1
 have hQ:0<=dP X:=aI9 hX0
 have hvl:lam<=v:=Rat.le_of_lt hv
 have hd1:(0:Rat) < ((L1+1 - R:Int):Rat):=rcast_pos (by omega)
 -- far away
 have farY:∀p,¬inb (L1:Int) p->fG K Y p<=lam:=by
   intro p hp
   rw [←hlam]
   have:=aHi (K:=K) (z:=p) (c:=1 / ((L1+1 - R:Int):Rat)) hY0 (fun b hb=>aL1 hk (by omega) (by have:=(hY b hb).2;simp only [inb,vs] at *;omega))
   have e:dP Y*(1 / ((L1+1 - R:Int):Rat))=dP Y / ((L1+1 - R:Int):Rat):=by grind
   rwa [e] at this
 have farX:∀p,¬inb ((L:Int) - 1) p->fG K X p<=dP X*(1 / (4*((L1+1+R:Int):Rat))):=by
   intro p hp
   have e:(4*((L1+1+R:Int):Rat))=((4*(L1+1+R):Int):Rat):=by rw [rcast_mul];rfl
   rw [e]
   exact aHi (K:=K) (z:=p) hX0 (fun b hb=>aL1 hk (by omega) (by have:=(hX b hb).2;simp only [inb,vs] at *;omega))
 have nearX:∀p,inb ((L1:Int)+1) p->dP X*(1 / (4*((L1+1+R:Int):Rat)))<=fG K X p:=by
   intro p hp
   exact aZ6 (K:=K) (z:=p) hX0 (fun b hb=>aV7 hk (by omega) (by omega) (by have:=(hX b hb).2;simp only [inb,vs] at *;omega))
 have c1:∀p,inb ((L:Int)+1) p->¬inb ((L:Int) - 1) p->fG K Y p<=lam/\fG K X p<=dP X*(1 / (4*((L1+1+R:Int):Rat))):=by
   intro p _ hp
   exact⟨farY p (by unfold inb at *;omega),farX p hp⟩
 have c2:∀p q,inb ((L:Int)+1) p->inb ((L:Int)+1) q->(q=px p\/q=py p\/q=pz p)->(lam < fG K Y p\/lam < fG K Y q)->dP X*(1 / (4*((L1+1+R:Int):Rat)))<=fG K X p/\dP X*(1 / (4*((L1+1+R:Int):Rat)))<=fG K X q:=by
   intro p q _ _ hpq hc
   have hh:inb (L1:Int) p\/inb (L1:Int) q:=by
     rcases hc with hc | hc
     · by_cases d:inb (L1:Int) p
       · exact .inl d
       · have:=farY p d;exact absurd hc (Rat.not_lt.mpr this)
     · by_cases d:inb (L1:Int) q
       · exact .inr d
       · have:=farY q d;exact absurd hc (Rat.not_lt.mpr this)
   have hpq':inb ((L1:Int)+1) p/\inb ((L1:Int)+1) q:=by
     rcases hpq with rfl | rfl | rfl<;>simp only [inb,px,py,pz] at *<;>omega
   exact⟨nearX p hpq'.1,nearX q hpq'.2⟩
 -- the three jC
 have rn:∀p,inb (n:Int) p->0<=cR K p:=hk.rho
 have hA:bx L (fun p=>jI (dP X*(1 / (4*((L1+1+R:Int):Rat)))) (fG K X p)*cR (fG K X) p)<=bx n (cR K)*En+dP X*dP X*(1 / 4)*(bx n (cR K) - bx s (cR K)):=by
   have lam0:0<=dP X*(1 / (4*((L1+1+R:Int):Rat))):=by
     have h4:(0:Rat) < ((L1+1+R:Int):Rat):=rcast_pos (by omega)
     refine Rat.mul_nonneg hQ ?_
     exact inv_nn (by grind)
   generalize dP X*(1 / (4*((L1+1+R:Int):Rat)))=lam' at *
   have e1:bx L (fun p=>jI lam' (fG K X p)*cR (fG K X) p)=ls X (fun a=>a.1*bx L (fun p=>jI lam' (fG K X p)*cR K (vs p a.2))):=by
     rw [show(fun p=>jI lam' (fG K X p)*cR (fG K X) p)=(fun p=>ls X (fun a=>a.1*(jI lam' (fG K X p)*cR K (vs p a.2)))) from funext fun p=>by
       rw [aHh,←ls_mul];exact ls_congr (fun a _=>by grind)]
     rw [aNx]
     exact ls_congr (fun a _=>nJ _ _ _)
   rw [e1]
   have b1:ls X (fun a=>a.1*bx L (fun p=>jI lam' (fG K X p)*cR K (vs p a.2)))<=ls X (fun a=>a.1*bx s (fun z=>fG K X (va a.2 z)*cR K z)+dP X*(1 / 4)*(bx n (cR K) - bx s (cR K))*a.1):=by
     refine sY (fun a ha=>?_)
     have t1:bx L (fun p=>jI lam' (fG K X p)*cR K (vs p a.2))<=bx n (fun z=>fG K X (va a.2 z)*cR K z):=by
       have t2:bx L (fun p=>jI lam' (fG K X p)*cR K (vs p a.2))<=bx L (fun p=>(fun z=>fG K X (va a.2 z)*cR K z) (va (vn a.2) p)):=by
         refine wH (fun p hp=>?_)
         simp only []
         rw [←aXc,bDy]
         refine rmul_le (aZ5 lam0 (uF hk.pos hX0 p)).2 (rn _ ?_)
         have:=(hX a ha).2;simp only [inb,vs] at *;omega
       refine Rat.le_trans t2 (uE (f:=fun z=>fG K X (va a.2 z)*cR K z) (fun p hp=>Rat.mul_nonneg (uF hk.pos hX0 _) (rn p hp)) (fun p hp=>?_))
       have:=(hX a ha).2;simp only [inb,va,vn] at *;omega
     have t3:bx s (fun z=>(dP X*(1 / 4) - fG K X (va a.2 z))*cR K z)<=bx n (fun z=>(dP X*(1 / 4) - fG K X (va a.2 z))*cR K z):=by
       have:=uE (L:=n) (M:=s) (a:=(0,0,0)) (f:=fun z=>(dP X*(1 / 4) - fG K X (va a.2 z))*cR K z) (fun p hp=>Rat.mul_nonneg (by
         have:=aHi (K:=K) (z:=va a.2 p) (c:=1 / 4) hX0 (fun b _=>hk.quart _);grind) (rn p hp)) (fun p hp=>by simp only [inb,va] at *;omega)
       have e:∀z:V3,va (0,0,0) z=z:=fun z=>by obtain⟨a,b,c⟩:=z;simp only [va,Prod.mk.injEq];omega
       simp only [e] at this
       exact this
     have e3:∀k:Nat,bx k (fun z=>(dP X*(1 / 4) - fG K X (va a.2 z))*cR K z)=dP X*(1 / 4)*bx k (cR K) - bx k (fun z=>fG K X (va a.2 z)*cR K z):=by
       intro k
       rw [←nJ,←aV4]
       exact qU (fun p _=>by grind)
     rw [e3,e3] at t3
     have t4:=rmul_le' (Rat.le_trans t1 (show bx n (fun z=>fG K X (va a.2 z)*cR K z)<=bx s (fun z=>fG K X (va a.2 z)*cR K z)+dP X*(1 / 4)*(bx n (cR K) - bx s (cR K)) by grind)) (hX0 a ha)
     grind
   refine Rat.le_trans b1 ?_
   rw [aHg,ls_mul]
   have e4:ls X (fun a=>a.1*bx s (fun z=>fG K X (va a.2 z)*cR K z))=bx s (fun z=>cR K z*ls X (fun a=>a.1*fG K X (va a.2 z))):=by
     have:=aNx X s (fun a z=>a.1*(fG K X (va a.2 z)*cR K z))
     rw [show(fun a:WP=>a.1*bx s (fun z=>fG K X (va a.2 z)*cR K z))=(fun a=>bx s (fun z=>a.1*(fG K X (va a.2 z)*cR K z))) from funext fun a=>(nJ _ _ _).symm,←this]
     refine qU (fun z _=>?_)
     rw [←ls_mul];exact ls_congr (fun a _=>by grind)
   rw [e4]
   have hsn:∀p:V3,inb (s:Int) p->inb (n:Int) p:=fun p hp=>by unfold inb at *;omega
   have b2:bx s (fun z=>cR K z*ls X (fun a=>a.1*fG K X (va a.2 z)))<=En*bx s (cR K):=by
     rw [←nJ]
     refine wH (fun z hz=>?_)
     have:=rmul_le' (hE z hz) (rn z (hsn z hz))
     grind
   have b3:bx s (cR K)<=bx n (cR K):=by
     have:=uE (L:=n) (M:=s) (a:=(0,0,0)) (f:=cR K) rn (fun p hp=>by simp only [inb,va] at *;omega)
     have e:∀z:V3,va (0,0,0) z=z:=fun z=>by obtain⟨a,b,c⟩:=z;simp only [va,Prod.mk.injEq];omega
     simp only [e] at this
     exact this
   have hEn:0<=En:=Rat.le_trans (jV (fun a ha=>Rat.mul_nonneg (hX0 a ha) (uF hk.pos hX0 _))) (hE (0,0,0) ⟨by simp only;omega,by simp only;omega,by simp only;omega,by simp only;omega,by simp only;omega,by simp only;omega⟩)
   have b4:=rmul_le' b3 hEn
   have:ls X (fun a=>a.1)=dP X:=rfl
   rw [this]
   grind
 have hYy:bx L (fun p=>gG lam v (fG K Y p)*cR (fG K Y) p)<=dP Y*bx n (cR K)*(v - lam):=by
   have e1:bx L (fun p=>gG lam v (fG K Y p)*cR (fG K Y) p)=ls Y (fun a=>a.1*bx L (fun p=>gG lam v (fG K Y p)*cR K (vs p a.2))):=by
     rw [show(fun p=>gG lam v (fG K Y p)*cR (fG K Y) p)=(fun p=>ls Y (fun a=>a.1*(gG lam v (fG K Y p)*cR K (vs p a.2)))) from funext fun p=>by
       rw [aHh,←ls_mul];exact ls_congr (fun a _=>by grind)]
     rw [aNx]
     exact ls_congr (fun a _=>nJ _ _ _)
   rw [e1]
   have b1:ls Y (fun a=>a.1*bx L (fun p=>gG lam v (fG K Y p)*cR K (vs p a.2)))<=ls Y (fun a=>(bx n (cR K)*(v - lam))*a.1):=by
     refine sY (fun a ha=>?_)
     have t1:bx L (fun p=>gG lam v (fG K Y p)*cR K (vs p a.2))<=(v - lam)*bx L (fun p=>cR K (va (vn a.2) p)):=by
       rw [←nJ]
       refine wH (fun p hp=>?_)
       rw [←aXc]
       refine rmul_le (aTg hvl).2 (rn _ ?_)
       have:=(hY a ha).2;simp only [inb,vs] at *;omega
     have t2:bx L (fun p=>cR K (va (vn a.2) p))<=bx n (cR K):=uE rn (fun p hp=>by have:=(hY a ha).2;simp only [inb,va,vn] at *;omega)
     have t3:=rmul_le' t2 (show 0<=v - lam by grind)
     have t4:=rmul_le' (Rat.le_trans t1 t3) (hY0 a ha)
     grind
   refine Rat.le_trans b1 ?_
   rw [ls_mul]
   have:ls Y (fun a=>a.1)=dP Y:=rfl
   rw [this];grind
 have hZ:dP X*bx s (cR K)*(v - lam)<=bx L (fun p=>gG lam v (fG K Y p)*cR (fG K X) p):=by
   have e1:bx L (fun p=>gG lam v (fG K Y p)*cR (fG K X) p)=ls X (fun a=>a.1*bx L (fun p=>gG lam v (fG K Y p)*cR K (vs p a.2))):=by
     rw [show(fun p=>gG lam v (fG K Y p)*cR (fG K X) p)=(fun p=>ls X (fun a=>a.1*(gG lam v (fG K Y p)*cR K (vs p a.2)))) from funext fun p=>by
       rw [aHh,←ls_mul];exact ls_congr (fun a _=>by grind)]
     rw [aNx]
     exact ls_congr (fun a _=>nJ _ _ _)
   rw [e1]
   have b1:ls X (fun a=>(bx s (cR K)*(v - lam))*a.1)<=ls X (fun a=>a.1*bx L (fun p=>gG lam v (fG K Y p)*cR K (vs p a.2))):=by
     refine sY (fun a ha=>?_)
     have t1:bx s (fun z=>gG lam v (fG K Y (va a.2 z))*cR K z)<=bx L (fun p=>gG lam v (fG K Y p)*cR K (vs p a.2)):=by
       have:=uE (L:=L) (M:=s) (a:=a.2) (f:=fun p=>gG lam v (fG K Y p)*cR K (vs p a.2)) (fun p hp=>Rat.mul_nonneg (aTg hvl).1 (rn _ (by have:=(hX a ha).2;simp only [inb,vs] at *;omega))) (fun p hp=>by have:=(hX a ha).2;simp only [inb,va] at *;omega)
       simp only [bDx] at this
       exact this
     have t2:bx s (fun z=>gG lam v (fG K Y (va a.2 z))*cR K z)=(v - lam)*bx s (cR K):=by
       rw [←nJ]
       exact qU (fun z hz=>by rw [aV6 hvl (hU a ha z hz)])
     rw [t2] at t1
     have t4:=rmul_le' t1 (hX0 a ha)
     grind
   rw [ls_mul] at b1
   have:ls X (fun a=>a.1)=dP X:=rfl
   rw [this] at b1
   refine Rat.le_trans (lP ?_) b1
   grind
 have hms:0<=bx s (cR K):=aPc (fun p hp=>rn p (by unfold inb at *;omega))
 have hvp:0 < v - lam:=by grind
 have hY1:0 < dP Y*bx n (cR K)*(v - lam):=Rat.mul_pos (Rat.mul_pos hq hm) hvp
 have fin:=bFz c1 c2 hvl hA hYy hZ (Rat.mul_nonneg (Rat.mul_nonneg hQ hms) (Rat.le_of_lt hvp)) hY1
 generalize bx n (cR K)*En+dP X*dP X*(1 / 4)*(bx n (cR K) - bx s (cR K))=A at *
 generalize dP X*bx s (cR K)=P at *
 generalize dP Y*bx n (cR K)=T at *
 by_cases c:P*P*(v - lam)<=A*T
 · exact c
 · have:=Rat.mul_pos (a:=v - lam) (b:=P*P*(v - lam) - A*T) hvp (by grind)
   grind
def Pu (u:Rat):Rat:=1 - u / 2+3 / 8*(u*u) - 5 / 16*(u*u*u)+2 / 5*(u*u*(u*u))
def Pl (u:Rat):Rat:=1 - u / 2+3 / 8*(u*u) - 5 / 16*(u*u*u)
theorem ub (u:Rat)(h1:-(3 / 10)<=u)(h2:u<=3 / 10):u*u<=9 / 100/\-(27 / 1000)<=u*u*u/\u*u*u<=27 / 1000/\u*u*(u*u)<=81 / 10000/\-(243 / 100000)<=u*u*(u*u)*u:=by
 have a1:0<=(3 / 10 - u)*(u+3 / 10):=Rat.mul_nonneg (by grind) (by grind)
 have s:=sq_nonneg u
 have a2:u*u<=9 / 100:=by grind
 have a3:0<=(9 / 100 - u*u)*(u+3 / 10):=Rat.mul_nonneg (by grind) (by grind)
 have a4:0<=(9 / 100 - u*u)*(3 / 10 - u):=Rat.mul_nonneg (by grind) (by grind)
 have a5:0<=(u*u)*(3 / 10 - u):=Rat.mul_nonneg s (by grind)
 have a6:0<=(u*u)*(u+3 / 10):=Rat.mul_nonneg s (by grind)
 have a7:u*u*(u*u)<=81 / 10000:=by
   have:=rmul_le a2 s
   grind
 have a8:0<=(u*u*(u*u))*(u+3 / 10):=Rat.mul_nonneg (Rat.mul_nonneg s s) (by grind)
 refine⟨a2,by grind,by grind,a7,by grind⟩
theorem bDz (u:Rat)(h1:-(3 / 10)<=u)(h2:u<=3 / 10):0<=Pu u:=by
 obtain⟨a,b,c,d,e⟩:=ub u h1 h2
 have s:=sq_nonneg u
 have s2:=Rat.mul_nonneg s s
 unfold Pu;grind
theorem bD0 (u:Rat)(h1:-(3 / 10)<=u)(h2:u<=3 / 10):1<=Pu u*Pu u*(1+u):=by
 obtain⟨a,b,c,d,e⟩:=ub u h1 h2
 have s:=sq_nonneg u
 have s2:=Rat.mul_nonneg s s
 have q:0<=81 / 320+99 / 160*u - 303 / 1280*(u*u)+189 / 1280*(u*u*u) - 9 / 100*(u*u*(u*u))+4 / 25*(u*u*(u*u)*u):=by grind
 have qk2:=Rat.mul_nonneg s2 q
 have id:Pu u*Pu u*(1+u)=1+(u*u*(u*u))*(81 / 320+99 / 160*u - 303 / 1280*(u*u)+189 / 1280*(u*u*u) - 9 / 100*(u*u*(u*u))+4 / 25*(u*u*(u*u)*u)):=by
   unfold Pu;grind
 rw [id];grind
theorem bD1 (u:Rat)(h1:-(3 / 10)<=u)(h2:u<=3 / 10):Pl u*Pl u*(1+u)<=1:=by
 obtain⟨a,b,c,d,e⟩:=ub u h1 h2
 have s:=sq_nonneg u
 have s2:=Rat.mul_nonneg s s
 have q:0<=35 / 64 - 7 / 32*u+35 / 256*(u*u) - 25 / 256*(u*u*u):=by grind
 have qk2:=Rat.mul_nonneg s2 q
 have id:Pl u*Pl u*(1+u)=1 - (u*u*(u*u))*(35 / 64 - 7 / 32*u+35 / 256*(u*u) - 25 / 256*(u*u*u)):=by
   unfold Pl;grind
 rw [id];grind
theorem bD2 {x y z i:Rat} (h:(x*x+y*y+z*z+16)*i=1)(hi:0<=i)(h16:16*i<=1) :
   Pu ((1+2*x)*i)+Pu ((1 - 2*x)*i)+(Pu ((1+2*y)*i)+Pu ((1 - 2*y)*i))+(Pu ((1+2*z)*i)+Pu ((1 - 2*z)*i))<=6 - 30*(i*i):=by
 have e1:∀w:Rat,Pu ((1+2*w)*i)+Pu ((1 - 2*w)*i)=2 - i+3 / 8*((2+8*(w*w))*(i*i)) - 5 / 16*((2+24*(w*w))*(i*i*i))+2 / 5*((2+48*(w*w)+32*(w*w*(w*w)))*(i*i*(i*i))):=by
   intro w;unfold Pu;grind
 rw [e1,e1,e1]
 have hS:(x*x+y*y+z*z)*i=1 - 16*i:=by grind
 have s2:(x*x+y*y+z*z)*(i*i)=i - 16*(i*i):=by
   have:(x*x+y*y+z*z)*(i*i)=((x*x+y*y+z*z)*i)*i:=by grind
   rw [this,hS];grind
 have s3:(x*x+y*y+z*z)*(i*i*i)=i*i - 16*(i*i*i):=by
   have:(x*x+y*y+z*z)*(i*i*i)=((x*x+y*y+z*z)*i)*(i*i):=by grind
   rw [this,hS];grind
 have s4:(x*x+y*y+z*z)*(i*i*(i*i))=i*i*i - 16*(i*i*(i*i)):=by
   have:(x*x+y*y+z*z)*(i*i*(i*i))=((x*x+y*y+z*z)*i)*(i*i*i):=by grind
   rw [this,hS];grind
 have qk4:(x*x*(x*x)+y*y*(y*y)+z*z*(z*z))*(i*i*(i*i))<=(1 - 16*i)*(1 - 16*i)*(i*i):=by
   have a1:=Rat.mul_nonneg (sq_nonneg x) (sq_nonneg y)
   have a2:=Rat.mul_nonneg (sq_nonneg x) (sq_nonneg z)
   have a3:=Rat.mul_nonneg (sq_nonneg y) (sq_nonneg z)
   have a4:x*x*(x*x)+y*y*(y*y)+z*z*(z*z)<=(x*x+y*y+z*z)*(x*x+y*y+z*z):=by grind
   have a5:=rmul_le a4 (Rat.mul_nonneg (sq_nonneg i) (sq_nonneg i))
   refine Rat.le_trans a5 (lP ?_)
   have:(x*x+y*y+z*z)*(x*x+y*y+z*z)*(i*i*(i*i))=((x*x+y*y+z*z)*i)*((x*x+y*y+z*z)*i)*(i*i):=by grind
   rw [this,hS]
 have i2:=sq_nonneg i
 have i3:0<=i*i*i:=Rat.mul_nonneg i2 hi
 have i4:i*i*(i*i)<=1 / 16*(i*i*i):=by
   have:=rmul_le' (show i<=1 / 16 by grind) i3
   grind
 generalize hX:x*x=X at *
 generalize hY:y*y=Y at *
 generalize hZ:z*z=Z at *
 grind
theorem bD3 {x y z i:Rat} (h:(x*x+y*y+z*z+16)*i=1)(hi:0<=i)(h16:16*i<=1) :
   6 - 54*(i*i)<=Pl ((1+2*x)*i)+Pl ((1 - 2*x)*i)+(Pl ((1+2*y)*i)+Pl ((1 - 2*y)*i))+(Pl ((1+2*z)*i)+Pl ((1 - 2*z)*i)):=by
 have e1:∀w:Rat,Pl ((1+2*w)*i)+Pl ((1 - 2*w)*i)=2 - i+3 / 8*((2+8*(w*w))*(i*i)) - 5 / 16*((2+24*(w*w))*(i*i*i)):=by
   intro w;unfold Pl;grind
 rw [e1,e1,e1]
 have hS:(x*x+y*y+z*z)*i=1 - 16*i:=by grind
 have s2:(x*x+y*y+z*z)*(i*i)=i - 16*(i*i):=by
   have:(x*x+y*y+z*z)*(i*i)=((x*x+y*y+z*z)*i)*i:=by grind
   rw [this,hS];grind
 have s3:(x*x+y*y+z*z)*(i*i*i)=i*i - 16*(i*i*i):=by
   have:(x*x+y*y+z*z)*(i*i*i)=((x*x+y*y+z*z)*i)*(i*i):=by grind
   rw [this,hS];grind
 have i2:=sq_nonneg i
 have i3:0<=i*i*i:=Rat.mul_nonneg i2 hi
 generalize hX:x*x=X at *
 generalize hY:y*y=Y at *
 generalize hZ:z*z=Z at *
 grind
structure KB (K:V3->Rat) (e:Rat):Prop where
 pos:∀p,0<=K p
 up:∀p,K p*K p*((nsq p+16:Int):Rat)<=1
 lo:∀p,1<=(K p+e)*(K p+e)*((nsq p+16:Int):Rat)
theorem isq (b:Nat)(t:Nat)(ht:0 < t):∃k:Nat,k*k*t<=b/\b < (k+1)*(k+1)*t:=by
 have:∀n:Nat,∃k:Nat,k*k*t<=b/\(b < (k+1)*(k+1)*t\/n<=k):=by
   intro n
   induction n with
   | zero=>exact⟨0,by simp,.inr (Nat.le_refl _)⟩
   | succ n ih =>
     obtain⟨k,h1,h2⟩:=ih
     by_cases c:b < (k+1)*(k+1)*t
     · exact⟨k,h1,.inl c⟩
     · rcases h2 with h2 | h2
       · exact absurd h2 c
       · exact⟨k+1,by omega,.inr (by omega)⟩
 obtain⟨k,h1,h2⟩:=this (b+1)
 rcases h2 with h2 | h2
 · exact⟨k,h1,h2⟩
 · exfalso
   have h3:k*k<=k*k*t:=Nat.le_mul_of_pos_right _ ht
   have h4:k*1<=k*k:=Nat.mul_le_mul_left _ (by omega)
   omega
theorem bD4 (B:Nat)(hB:0 < B):∃K:V3->Rat,KB K (1 / (B:Rat)):=by
 have hp:∀p:V3,∃k:Nat,k*k*toNat (nsq p+16)<=B*B/\B*B < (k+1)*(k+1)*toNat (nsq p+16):=fun p=>isq _ _ (by have:=nsq_nonneg p;omega)
 have hb:(0:Rat) < (B:Rat):=by
   have:=rcast_pos (a:=(B:Int)) (by omega)
   exact this
 refine⟨fun p=>((Classical.choose (hp p):Nat):Rat) / (B:Rat),fun p=>?_,fun p=>?_,fun p=>?_⟩
 · have:=inv_nn (Rat.le_of_lt hb)
   have k0:(0:Rat)<=((Classical.choose (hp p):Nat):Rat):=rcast_le (a:=0) (b:=((Classical.choose (hp p):Nat):Int)) (by omega)
   have:=Rat.mul_nonneg k0 this
   have e:((Classical.choose (hp p):Nat):Rat) / (B:Rat)=((Classical.choose (hp p):Nat):Rat)*(1 / (B:Rat)):=by grind
   rw [e];exact this
 · have h:=(Classical.choose_spec (hp p)).1
   have h0:=nsq_nonneg p
   generalize Classical.choose (hp p)=k at *
   have h2:((k:Int)*(k:Int)*(nsq p+16))<=(B:Int)*(B:Int):=by
     have:=Int.ofNat_le.mpr h
     rw [Int.natCast_mul,Int.natCast_mul,Int.natCast_mul,Int.toNat_of_nonneg (by omega)] at this
     exact this
   have h3:=rcast_le h2
   rw [rcast_mul,rcast_mul,rcast_mul] at h3
   have h4:=rmul_le h3 (c:=(1 / (B:Rat))*(1 / (B:Rat))) (sq_nonneg _)
   have e1:(((B:Int):Rat)*((B:Int):Rat))*((1 / (B:Rat))*(1 / (B:Rat)))=1:=by
     have:((B:Int):Rat)=(B:Rat):=rfl
     rw [this];grind
   rw [e1] at h4
   have:((k:Int):Rat)=(k:Rat):=rfl
   rw [this] at h4
   grind
 · have h:=(Classical.choose_spec (hp p)).2
   have h0:=nsq_nonneg p
   generalize Classical.choose (hp p)=k at *
   have h2:(B:Int)*(B:Int)<=(((k:Int)+1)*((k:Int)+1)*(nsq p+16)):=by
     have:=Int.ofNat_lt.mpr h
     rw [Int.natCast_mul,Int.natCast_mul,Int.natCast_mul,Int.toNat_of_nonneg (by omega)] at this
     have e:((k+1:Nat):Int)=(k:Int)+1:=by omega
     rw [e] at this
     exact Int.le_of_lt this
   have h3:=rcast_le h2
   rw [rcast_mul,rcast_mul,rcast_mul,rcast_add] at h3
   have h4:=rmul_le h3 (c:=(1 / (B:Rat))*(1 / (B:Rat))) (sq_nonneg _)
   have e1:(((B:Int):Rat)*((B:Int):Rat))*((1 / (B:Rat))*(1 / (B:Rat)))=1:=by
     have:((B:Int):Rat)=(B:Rat):=rfl
     rw [this];grind
   rw [e1] at h4
   have:((k:Int):Rat)=(k:Rat):=rfl
   rw [this,show((1:Int):Rat)=1 from rfl] at h4
   have e2:((k:Rat) / (B:Rat)+1 / (B:Rat))=((k:Rat)+1)*(1 / (B:Rat)):=by grind
   rw [e2];grind
theorem aTh {a b T:Rat} (hT:0 < T)(hb:0<=b)(h1:a*a*T<=1)(h2:1<=b*b*T):a<=b:=by
 refine dI hb ?_
 by_cases c:a*a<=b*b
 · exact c
 · have:=Rat.mul_pos (a:=a*a - b*b) (b:=T) (by grind) hT
   grind
theorem aTi {t:Rat} (h:0 < t):∃i:Rat,0 < i/\t*i=1:=by
 refine⟨t⁻¹,Rat.inv_pos.mpr h,?_⟩
 exact Rat.mul_inv_cancel _ (by grind)
theorem aE2 {K:V3->Rat} {e:Rat} (hk:KB K e)(he:0<=e) {p q:V3} {d i:Rat} (hi:0 < i)(h1:((nsq p+16:Int):Rat)*i=1)(hq:((nsq q+16:Int):Rat)=((nsq p+16:Int):Rat)+d)
   (hd1:-(3 / 10)<=d*i) (hd2:d*i<=3 / 10):K q<=Pu (d*i)*(K p+e)/\Pl (d*i)*K p - e<=K q:=by
 have hT:(0:Rat) < ((nsq q+16:Int):Rat):=rcast_pos (by have:=nsq_nonneg q;omega)
 have hf:((nsq q+16:Int):Rat)=((nsq p+16:Int):Rat)*(1+d*i):=by
   rw [hq]
   have:((nsq p+16:Int):Rat)*(1+d*i)=((nsq p+16:Int):Rat)+d*(((nsq p+16:Int):Rat)*i):=by grind
   rw [this,h1];grind
 have hu:=hk.up p
 have hl:=hk.lo p
 have hu2:=hk.up q
 have hl2:=hk.lo q
 have kp:=hk.pos p
 have kq:=hk.pos q
 generalize hS:((nsq p+16:Int):Rat)=S at *
 constructor
 · refine aTh hT (Rat.mul_nonneg (bDz _ hd1 hd2) (by grind)) hu2 ?_
   rw [hf]
   have a1:=bD0 _ hd1 hd2
   have a2:=rmul_le a1 (c:=(K p+e)*(K p+e)*S) (by grind)
   have:Pu (d*i)*(K p+e)*(Pu (d*i)*(K p+e))*(S*(1+d*i))=Pu (d*i)*Pu (d*i)*(1+d*i)*((K p+e)*(K p+e)*S):=by grind
   rw [this];grind
 · have a0:Pl (d*i)*K p<=K q+e:=by
     refine aTh hT (by grind) ?_ hl2
     rw [hf]
     have a1:=bD1 _ hd1 hd2
     have s0:0<=K p*K p*S:=Rat.mul_nonneg (sq_nonneg _) (by
       rw [←hS];exact Rat.le_of_lt (rcast_pos (by have:=nsq_nonneg p;omega)))
     have a2:=rmul_le a1 s0
     have:Pl (d*i)*K p*(Pl (d*i)*K p)*(S*(1+d*i))=Pl (d*i)*Pl (d*i)*(1+d*i)*(K p*K p*S):=by grind
     rw [this];grind
   grind
theorem aPd {t x i:Rat} (hi:0<=i)(h:t*i=1)(h1:10*(1+2*x)<=3*t)(h2:-(3*t)<=10*(1+2*x)):-(3 / 10)<=(1+2*x)*i/\(1+2*x)*i<=3 / 10:=by
 have a:=rmul_le h1 hi
 have b:=rmul_le h2 hi
 constructor
 · grind
 · grind
theorem aZ7 {K:V3->Rat} {e:Rat} (hk:KB K e)(he:0<=e) {p:V3} {i:Rat} (hi:0 < i)(h1:((nsq p+16:Int):Rat)*i=1)(hs:e<=i*i*i):0<=cR K p/\cR K p<=84*(i*i)*K p/\i / 2<=K p/\e<=K p:=by
 have ht16:(16:Rat)<=((nsq p+16:Int):Rat):=rcast_le (a:=16) (by have:=nsq_nonneg p;omega)
 have h16:16*i<=1:=by
   have:=rmul_le ht16 (Rat.le_of_lt hi)
   grind
 have hi0:=Rat.le_of_lt hi
 have i2:=sq_nonneg i
 have sm1:e<=i / 16:=by
   have:=rmul_le' (show i<=1 / 16 by grind) hi0
   have:=rmul_le (show i*i<=1 / 16*(1 / 16) by grind) hi0
   grind
 have kp:i / 2<=K p:=by
   have hl:=hk.lo p
   have k0:=hk.pos p
   have:1<=(K p+e)*((nsq p+16:Int):Rat):=by
     refine dI (Rat.mul_nonneg (by grind) (by grind)) ?_
     have:=rmul_le' hl (c:=((nsq p+16:Int):Rat)) (by grind)
     grind
   have a:=rmul_le this hi0
   have:(K p+e)*((nsq p+16:Int):Rat)*i=K p+e:=by
     have:(K p+e)*((nsq p+16:Int):Rat)*i=(K p+e)*(((nsq p+16:Int):Rat)*i):=by grind
     rw [this,h1];grind
   rw [this] at a
   grind
 have key:6*e<=30*(i*i)*K p:=by
   have:=rmul_le' kp (c:=30*(i*i)) (by grind)
   have a:=rmul_le i2 hi0
   grind
 obtain⟨x,y,z⟩:=p
 have hx:∀a:Int,10*(1+2*a)<=3*(a*a+16)/\-(3*(a*a+16))<=10*(1+2*a):=by
   intro a
   have b1:=sq_int_nonneg (3*a - 10)
   have b2:=sq_int_nonneg (3*a+10)
   constructor<;>grind
 have hn:∀a:Int,a*a<=nsq (x,y,z)->(10*(1+2*(a:Rat))<=3*((nsq (x,y,z)+16:Int):Rat)/\-(3*((nsq (x,y,z)+16:Int):Rat))<=10*(1+2*(a:Rat)))/\(10*(1+2*(-(a:Rat)))<=3*((nsq (x,y,z)+16:Int):Rat)/\-(3*((nsq (x,y,z)+16:Int):Rat))<=10*(1+2*(-(a:Rat)))):=by
   intro a ha
   have b1:=hx a
   have b2:=hx (-a)
   have b3:(-a)*(-a)=a*a:=by grind
   rw [b3] at b2
   have c1:=rcast_le (show 10*(1+2*a)<=3*(nsq (x,y,z)+16) by omega)
   have c2:=rcast_le (show -(3*(nsq (x,y,z)+16))<=10*(1+2*a) by omega)
   have c3:=rcast_le (show 10*(1+2*(-a))<=3*(nsq (x,y,z)+16) by omega)
   have c4:=rcast_le (show -(3*(nsq (x,y,z)+16))<=10*(1+2*(-a)) by omega)
   simp only [Rat.intCast_mul,Rat.intCast_add,Rat.intCast_neg] at c1 c2 c3 c4 ⊢
   refine⟨⟨?_,?_⟩,?_,?_⟩<;>grind
 have hsq:x*x<=nsq (x,y,z)/\y*y<=nsq (x,y,z)/\z*z<=nsq (x,y,z):=by
   have:=sq_int_nonneg x
   have:=sq_int_nonneg y
   have:=sq_int_nonneg z
   unfold nsq;simp only;omega
 have n1:((nsq (px (x,y,z))+16:Int):Rat)=((nsq (x,y,z)+16:Int):Rat)+(1+2*(x:Rat)):=by
   have:nsq (px (x,y,z))+16=nsq (x,y,z)+16+(1+2*x):=by simp only [nsq,px];grind
   rw [this];simp only [Rat.intCast_mul,Rat.intCast_add];rfl
 have n2:((nsq (mx (x,y,z))+16:Int):Rat)=((nsq (x,y,z)+16:Int):Rat)+(1+2*(-(x:Rat))):=by
   have:nsq (mx (x,y,z))+16=nsq (x,y,z)+16+(1+2*(-x)):=by simp only [nsq,mx];grind
   rw [this];simp only [Rat.intCast_mul,Rat.intCast_add,Rat.intCast_neg];rfl
 have n3:((nsq (py (x,y,z))+16:Int):Rat)=((nsq (x,y,z)+16:Int):Rat)+(1+2*(y:Rat)):=by
   have:nsq (py (x,y,z))+16=nsq (x,y,z)+16+(1+2*y):=by simp only [nsq,py];grind
   rw [this];simp only [Rat.intCast_mul,Rat.intCast_add];rfl
 have n4:((nsq (my (x,y,z))+16:Int):Rat)=((nsq (x,y,z)+16:Int):Rat)+(1+2*(-(y:Rat))):=by
   have:nsq (my (x,y,z))+16=nsq (x,y,z)+16+(1+2*(-y)):=by simp only [nsq,my];grind
   rw [this];simp only [Rat.intCast_mul,Rat.intCast_add,Rat.intCast_neg];rfl
 have n5:((nsq (pz (x,y,z))+16:Int):Rat)=((nsq (x,y,z)+16:Int):Rat)+(1+2*(z:Rat)):=by
   have:nsq (pz (x,y,z))+16=nsq (x,y,z)+16+(1+2*z):=by simp only [nsq,pz];grind
   rw [this];simp only [Rat.intCast_mul,Rat.intCast_add];rfl
 have n6:((nsq (mz (x,y,z))+16:Int):Rat)=((nsq (x,y,z)+16:Int):Rat)+(1+2*(-(z:Rat))):=by
   have:nsq (mz (x,y,z))+16=nsq (x,y,z)+16+(1+2*(-z)):=by simp only [nsq,mz];grind
   rw [this];simp only [Rat.intCast_mul,Rat.intCast_add,Rat.intCast_neg];rfl
 have hX:=hn x hsq.1
 have hY:=hn y hsq.2.1
 have hZ:=hn z hsq.2.2
 have tx:=aPd hi0 h1 hX.1.1 hX.1.2
 have tx':=aPd hi0 h1 hX.2.1 hX.2.2
 have ty:=aPd hi0 h1 hY.1.1 hY.1.2
 have ty':=aPd hi0 h1 hY.2.1 hY.2.2
 have tz:=aPd hi0 h1 hZ.1.1 hZ.1.2
 have tz':=aPd hi0 h1 hZ.2.1 hZ.2.2
 have b1:=aE2 hk he hi h1 n1 tx.1 tx.2
 have b2:=aE2 hk he hi h1 n2 tx'.1 tx'.2
 have b3:=aE2 hk he hi h1 n3 ty.1 ty.2
 have b4:=aE2 hk he hi h1 n4 ty'.1 ty'.2
 have b5:=aE2 hk he hi h1 n5 tz.1 tz.2
 have b6:=aE2 hk he hi h1 n6 tz'.1 tz'.2
 have hns:((x:Rat)*x+(y:Rat)*y+(z:Rat)*z+16)*i=1:=by
   rw [←h1]
   simp only [nsq,Rat.intCast_mul,Rat.intCast_add];rfl
 have su:=bD2 hns hi0 h16
 have sl:=bD3 hns hi0 h16
 have eqm:∀a:Rat,(1+2*(-a))=1 - 2*a:=fun a=>by grind
 rw [eqm] at b2 b4 b6
 have kk:=hk.pos (x,y,z)
 have m1:=rmul_le su (c:=K (x,y,z)+e) (by grind)
 have m2:=rmul_le sl kk
 refine⟨?_,?_,kp,by grind⟩
 · unfold cR
   have g:0<=30*(i*i)*e:=Rat.mul_nonneg (by grind) he
   generalize Pu ((1+2*(x:Rat))*i)=p1 at *
   generalize Pu ((1 - 2*(x:Rat))*i)=p2 at *
   generalize Pu ((1+2*(y:Rat))*i)=p3 at *
   generalize Pu ((1 - 2*(y:Rat))*i)=p4 at *
   generalize Pu ((1+2*(z:Rat))*i)=p5 at *
   generalize Pu ((1 - 2*(z:Rat))*i)=p6 at *
   clear su sl m2 hns
   have b1:=b1.1
   have b2:=b2.1
   have b3:=b3.1
   have b4:=b4.1
   have b5:=b5.1
   have b6:=b6.1
   have:(p1+p2+(p3+p4)+(p5+p6))*(K (x,y,z)+e)=p1*(K (x,y,z)+e)+p2*(K (x,y,z)+e)+(p3*(K (x,y,z)+e)+p4*(K (x,y,z)+e))+(p5*(K (x,y,z)+e)+p6*(K (x,y,z)+e)):=by grind
   rw [this] at m1
   have:(6 - 30*(i*i))*(K (x,y,z)+e)=6*K (x,y,z)+6*e - 30*(i*i)*K (x,y,z) - 30*(i*i)*e:=by grind
   rw [this] at m1
   generalize 30*(i*i)*K (x,y,z)=A at *
   generalize 30*(i*i)*e=B at *
   grind
 · unfold cR
   generalize Pl ((1+2*(x:Rat))*i)=p1 at *
   generalize Pl ((1 - 2*(x:Rat))*i)=p2 at *
   generalize Pl ((1+2*(y:Rat))*i)=p3 at *
   generalize Pl ((1 - 2*(y:Rat))*i)=p4 at *
   generalize Pl ((1+2*(z:Rat))*i)=p5 at *
   generalize Pl ((1 - 2*(z:Rat))*i)=p6 at *
   clear su sl m1 hns
   have b1:=b1.2
   have b2:=b2.2
   have b3:=b3.2
   have b4:=b4.2
   have b5:=b5.2
   have b6:=b6.2
   have:(p1+p2+(p3+p4)+(p5+p6))*K (x,y,z)=p1*K (x,y,z)+p2*K (x,y,z)+(p3*K (x,y,z)+p4*K (x,y,z))+(p5*K (x,y,z)+p6*K (x,y,z)):=by grind
   rw [this] at m2
   have:(6 - 54*(i*i))*K (x,y,z)=6*K (x,y,z) - 54 / 30*(30*(i*i)*K (x,y,z)):=by grind
   rw [this] at m2
   have:84*(i*i)*K (x,y,z)=84 / 30*(30*(i*i)*K (x,y,z)):=by grind
   rw [this]
   generalize 30*(i*i)*K (x,y,z)=A at *
   grind
theorem zK {L:Nat} {f:Int->Rat} {c:Rat} (h:∀x:Int,-L<=x->x<=L->f x<=c):ln L f<=(2*L+1)*c:=by
 have:=wF (L:=L) (f:=f) (g:=fun _=>c) h
 rwa [wG] at this
theorem aTj {n:Nat} {f:V3->Rat} {c:Rat} (hc:0<=c)(h:∀p,inb ((n:Int)+1) p->¬inb (n:Int) p->f p<=c):bx (n+1) f<=bx n f+6*((2*n+3)*(2*n+3))*c:=by
 have n0:(0:Rat)<=(n:Rat):=rcast_le (a:=0) (b:=(n:Int)) (by omega)
 have cst:(((n+1:Nat):Nat):Rat)=(n:Rat)+1:=by
   have:=rcast_add (n:Int) 1
   exact this
 have zl:∀x y:Int,-(n+1:Nat)<=x->x<=(n+1:Nat)->-(n+1:Nat)<=y->y<=(n+1:Nat)->(x=n+1\/x=-(n:Int) - 1\/y=n+1\/y=-(n:Int) - 1)->ln (n+1) (fun z=>f (x,y,z))<=(2*n+3)*c:=by
   intro x y a1 a2 a3 a4 a5
   have:=zK (L:=n+1) (f:=fun z=>f (x,y,z)) (c:=c) (fun z b1 b2=>h _ (by simp only [inb];omega) (by simp only [inb];omega))
   rw [cst] at this
   grind
 have yl:∀x:Int,(x=n+1\/x=-(n:Int) - 1)->ln (n+1) (fun y=>ln (n+1) (fun z=>f (x,y,z)))<=(2*n+3)*((2*n+3)*c):=by
   intro x hx
   have:=zK (L:=n+1) (f:=fun y=>ln (n+1) (fun z=>f (x,y,z))) (c:=(2*n+3)*c) (fun y b1 b2=>zl x y (by omega) (by omega) b1 b2 (by omega))
   rw [cst] at this
   grind
 have e1:bx (n+1) f<=ln n (fun x=>ln (n+1) (fun y=>ln (n+1) (fun z=>f (x,y,z))))+2*((2*n+3)*((2*n+3)*c)):=by
   unfold bx
   rw [aHf]
   have a1:=yl (n+1) (.inl rfl)
   have a2:=yl (-(n:Int) - 1) (.inr rfl)
   grind
 have e2:ln n (fun x=>ln (n+1) (fun y=>ln (n+1) (fun z=>f (x,y,z))))<=ln n (fun x=>ln n (fun y=>ln (n+1) (fun z=>f (x,y,z))))+(2*n+1)*(2*((2*n+3)*c)):=by
   rw [←wG,←yN]
   refine wF (fun x a1 a2=>?_)
   rw [aHf]
   have b1:=zl x (n+1) (by omega) (by omega) (by omega) (by omega) (.inr (.inr (.inl rfl)))
   have b2:=zl x (-(n:Int) - 1) (by omega) (by omega) (by omega) (by omega) (.inr (.inr (.inr rfl)))
   grind
 have e3:ln n (fun x=>ln n (fun y=>ln (n+1) (fun z=>f (x,y,z))))<=bx n f+(2*n+1)*((2*n+1)*(2*c)):=by
   unfold bx
   rw [←wG,←yN]
   refine wF (fun x a1 a2=>?_)
   rw [←wG,←yN]
   refine wF (fun y b1 b2=>?_)
   rw [aHf]
   have d1:=h (x,y,(n:Int)+1) (by simp only [inb];omega) (by simp only [inb];omega)
   have d2:=h (x,y,-(n:Int) - 1) (by simp only [inb];omega) (by simp only [inb];omega)
   grind
 have nc:0<=(n:Rat)*c:=Rat.mul_nonneg n0 hc
 grind
theorem odm {r:Rat} (h:0 < r):1 / r*r=1:=by
 rw [Rat.div_def]
 have:=Rat.inv_mul_cancel r (by grind)
 grind
theorem bF1 (N:Nat)(hN:1<=N):∃K:V3->Rat,∃e:Rat,0 < e/\e*((3*(N*N:Nat)+16:Nat):Rat)<=1/\KB K e/\Kn K N/\(∀n:Nat,n<=N->1 / 25<=bx n (cR K)) /\
   ∀s n:Nat,1<=s->s<=n->n<=N->(bx n (cR K) - bx s (cR K))*((s:Rat)*(s:Rat))<=2268:=by
 generalize hT:3*(N*N)+16=T
 have hT0:0 < T*T*T:=Nat.mul_pos (Nat.mul_pos (by omega) (by omega)) (by omega)
 obtain⟨K,hK⟩:=bD4 (T*T*T) hT0
 have tr:(16:Rat)<=(T:Rat):=rcast_le (a:=16) (b:=(T:Int)) (by omega)
 have hb:(0:Rat) < ((T*T*T:Nat):Rat):=by
   have:=rcast_pos (a:=((T*T*T:Nat):Int)) (by omega)
   exact this
 have hbe:((T*T*T:Nat):Rat)=(T:Rat)*(T:Rat)*(T:Rat):=by
   have:(((T*T*T:Nat):Int):Rat)=(((T:Int)*(T:Int)*(T:Int):Int):Rat):=by
     rw [Int.natCast_mul,Int.natCast_mul]
   rw [rcast_mul,rcast_mul] at this
   exact this
 obtain⟨e,he,hee⟩:=aTi hb
 have e1:1 / ((T*T*T:Nat):Rat)=e:=by
   have:1 / ((T*T*T:Nat):Rat)*((T*T*T:Nat):Rat)=1:=by grind
   grind
 rw [e1] at hK
 have heT:e*(T:Rat)<=1:=by
   rw [hbe] at hee
   have a1:0<=e*(T:Rat):=Rat.mul_nonneg (Rat.le_of_lt he) (by grind)
   have a2:0<=e*(T:Rat)*((T:Rat)*(T:Rat) - 1):=Rat.mul_nonneg a1 (by
     have:=rmul_le' tr (c:=(T:Rat)) (by grind)
     grind)
   grind
 have small:∀p,inb (N:Int) p->∃i:Rat,0 < i/\((nsq p+16:Int):Rat)*i=1/\e<=i*i*i:=by
   intro p hp
   have h1:=aHj hp
   have h2:((nsq p+16:Int):Rat)<=(T:Rat):=by
     have e3:(T:Int)=3*((N:Int)*(N:Int))+16:=by rw [←hT];simp
     have:nsq p+16<=(T:Int):=by rw [e3];omega
     exact rcast_le this
   have hp0:(0:Rat) < ((nsq p+16:Int):Rat):=rcast_pos (by have:=nsq_nonneg p;omega)
   obtain⟨i,hi,hi1⟩:=aTi hp0
   refine⟨i,hi,hi1,?_⟩
   have a1:1<=(T:Rat)*i:=by
     have:=rmul_le h2 (Rat.le_of_lt hi)
     grind
   have a0:=Rat.le_of_lt hi
   have ti:0<=(T:Rat)*i:=by grind
   have a2:1<=(T:Rat)*i*((T:Rat)*i):=by
     have:=rmul_le a1 ti
     grind
   have a3:1<=(T:Rat)*i*((T:Rat)*i)*((T:Rat)*i):=by
     have:=rmul_le a2 ti
     grind
   have a4:=rmul_le a3 (Rat.le_of_lt he)
   rw [hbe] at hee
   have:(T:Rat)*i*((T:Rat)*i)*((T:Rat)*i)*e=i*i*i*((T:Rat)*(T:Rat)*(T:Rat)*e):=by grind
   rw [this,hee] at a4
   grind
 have lb:∀p,inb (N:Int) p->∃i:Rat,0 < i/\((nsq p+16:Int):Rat)*i=1/\0<=cR K p/\cR K p<=84*(i*i)*K p/\e<=K p:=by
   intro p hp
   obtain⟨i,hi,hi1,hs⟩:=small p hp
   have:=aZ7 hK (Rat.le_of_lt he) hi hi1 hs
   exact⟨i,hi,hi1,this.1,this.2.1,this.2.2.2⟩
 have kn:Kn K N:=by
   refine⟨hK.pos,fun p=>?_,hK.up,fun p hp=>?_,fun p hp=>?_⟩
   · have h1:=hK.up p
     have h2:(16:Rat)<=((nsq p+16:Int):Rat):=rcast_le (a:=16) (by have:=nsq_nonneg p;omega)
     have h3:=rmul_le' h2 (sq_nonneg (K p))
     have:4*K p<=1:=dI (by decide) (by grind)
     grind
   · obtain⟨i,hi,hi1,_,_,h3⟩:=lb p hp
     have h1:=hK.lo p
     have k0:=hK.pos p
     have s0:(0:Rat)<=((nsq p+16:Int):Rat):=Rat.le_of_lt (rcast_pos (by have:=nsq_nonneg p;omega))
     have h4:(K p+e)*(K p+e)<=(2*K p)*(2*K p):=by
       have a1:=rmul_le (show K p+e<=2*K p by grind) (show 0<=K p+e by grind)
       have a2:=rmul_le' (show K p+e<=2*K p by grind) (show 0<=2*K p by grind)
       grind
     have h5:=rmul_le h4 s0
     grind
   · obtain⟨i,hi,hi1,h3,_⟩:=lb p hp
     exact h3
 have step:∀n:Nat,n+1<=N->bx (n+1) (cR K)<=bx n (cR K)+6*((2*n+3)*(2*n+3))*(84*((1 / ((n:Rat)+1))*(1 / ((n:Rat)+1))*(1 / ((n:Rat)+1))*(1 / ((n:Rat)+1))*(1 / ((n:Rat)+1)))):=by
   intro n hn
   have n0:(0:Rat)<=(n:Rat):=rcast_le (a:=0) (b:=(n:Int)) (by omega)
   have j0:0<=1 / ((n:Rat)+1):=inv_nn (by grind)
   refine aTj ?_ (fun p h1 h2=>?_)
   · exact Rat.mul_nonneg (by decide) (Rat.mul_nonneg (Rat.mul_nonneg (Rat.mul_nonneg (Rat.mul_nonneg j0 j0) j0) j0) j0)
   · obtain⟨i,hi,hi1,_,h4,_⟩:=lb p (by unfold inb at *;omega)
     have k1:=aL1 kn (D:=(n:Int)+1) (by omega) (p:=p) (by unfold inb at *;omega)
     have ec:(((n:Int)+1:Int):Rat)=(n:Rat)+1:=rcast_add (n:Int) 1
     rw [ec] at k1
     have k2:=aNy (D:=(n:Int)+1) (p:=p) (by omega) (by unfold inb at *;omega)
     have k3:(((n:Int)+1:Int):Rat)*(((n:Int)+1:Int):Rat)<=((nsq p+16:Int):Rat):=by
       rw [←rcast_mul];exact rcast_le (by omega)
     rw [ec] at k3
     have jn:(1 / ((n:Rat)+1))*((n:Rat)+1)=1:=odm (by grind)
     generalize 1 / ((n:Rat)+1)=j at *
     generalize hr:(n:Rat)+1=r at *
     have i1:i<=j*j:=by
       have a1:=rmul_le k3 (Rat.le_of_lt hi)
       have a2:=rmul_le' a1 (c:=j*j) (Rat.mul_nonneg j0 j0)
       have:j*j*(r*r*i)=(j*r)*(j*r)*i:=by grind
       rw [this,jn,hi1] at a2
       grind
     have i2:i*i<=j*j*(j*j):=by
       have a1:=rmul_le i1 (Rat.le_of_lt hi)
       have a2:=rmul_le' i1 (c:=j*j) (Rat.mul_nonneg j0 j0)
       grind
     have i3:i*i*K p<=j*j*(j*j)*j:=by
       have a1:=rmul_le i2 (hK.pos p)
       have a2:=rmul_le' k1 (c:=j*j*(j*j)) (Rat.mul_nonneg (Rat.mul_nonneg j0 j0) (Rat.mul_nonneg j0 j0))
       grind
     grind
 refine⟨K,e,he,heT,hK,kn,fun n hn=>?_,fun s n hs hsn hn=>?_⟩
 · -- the middle
   have l0:1 / 25<=cR K (0,0,0):=by
     have t0:nsq (0,0,0)=0:=rfl
     have h0:=hK.lo (0,0,0)
     have hup:∀q,nsq q=1->K q<=2426 / 10000:=by
       intro q hq
       have h1:=hK.up q
       rw [hq] at h1
       have h17:((1+16:Int):Rat)=17:=rfl
       rw [h17] at h1
       refine dI (by grind) ?_
       have:(17:Rat)*(2426 / 10000*(2426 / 10000))≥1:=by decide +kernel
       grind
     have a1:=hup (px (0,0,0)) rfl
     have a2:=hup (mx (0,0,0)) rfl
     have a3:=hup (py (0,0,0)) rfl
     have a4:=hup (my (0,0,0)) rfl
     have a5:=hup (pz (0,0,0)) rfl
     have a6:=hup (mz (0,0,0)) rfl
     rw [t0] at h0
     have h16:((0+16:Int):Rat)=16:=rfl
     rw [h16] at h0
     have k0:=hK.pos (0,0,0)
     have b1:1<=4*(K (0,0,0)+e):=dI (by grind) (by grind)
     have e16:e<=1 / 4000:=by
       rw [hbe] at hee
       have g1:(16:Rat)*16<=(T:Rat)*(T:Rat):=by
         have a1:=rmul_le tr (show(0:Rat)<=16 by decide)
         have a2:=rmul_le' tr (show(0:Rat)<=(T:Rat) by grind)
         grind
       have g2:(16:Rat)*16*16<=(T:Rat)*(T:Rat)*(T:Rat):=by
         have a1:=rmul_le g1 (show(0:Rat)<=16 by decide)
         have a2:=rmul_le' tr (show(0:Rat)<=(T:Rat)*(T:Rat) by grind)
         grind
       have g3:=rmul_le g2 (Rat.le_of_lt he)
       rw [hee] at g3
       grind
     unfold cR
     grind
   have:bx 0 (cR K)<=bx n (cR K):=by
     have:=uE (L:=n) (M:=0) (a:=(0,0,0)) (f:=cR K) (fun p hp=>kn.rho p (by unfold inb at *;omega)) (fun p hp=>by simp only [inb,va] at *;omega)
     have ez:∀z:V3,va (0,0,0) z=z:=fun z=>by obtain⟨a,b,c⟩:=z;simp only [va,Prod.mk.injEq];omega
     simp only [ez] at this
     exact this
   have b0:bx 0 (cR K)=cR K (0,0,0):=by
     simp only [bx,ln,sm]
     grind
   rw [b0] at this
   exact Rat.le_trans l0 this
 · have main:∀d:Nat,s+d<=N->bx (s+d) (cR K)+2268*(1 / ((s+d:Nat):Rat))*(1 / (((s+d:Nat):Rat)+1))<=bx s (cR K)+2268*(1 / (s:Rat))*(1 / ((s:Rat)+1)):=by
     intro d
     induction d with
     | zero=>intro _;exact Rat.le_refl
     | succ d ih =>
       intro hd
       have ih:=ih (by omega)
       have st:=step (s+d) (by omega)
       have cn:((s+(d+1):Nat):Rat)=((s+d:Nat):Rat)+1:=by
         have:=rcast_add ((s+d:Nat):Int) 1
         exact this
       have r1:(1:Rat)<=((s+d:Nat):Rat):=rcast_le (a:=1) (b:=((s+d:Nat):Int)) (by omega)
       rw [cn]
       have eq2:s+(d+1)=s+d+1:=by omega
       rw [eq2]
       refine Rat.le_trans ?_ ih
       generalize ((s+d:Nat):Rat)=r at *
       have k0:0<=1 / r:=inv_nn (by grind)
       have kj:0<=1 / (r+1):=inv_nn (by grind)
       have kl:0<=1 / (r+1+1):=inv_nn (by grind)
       have m1:1 / r*r=1:=odm (by grind)
       have m2:1 / (r+1)*(r+1)=1:=odm (by grind)
       have m3:1 / (r+1+1)*(r+1+1)=1:=odm (by grind)
       generalize 1 / r=k at *
       generalize 1 / (r+1)=j at *
       generalize 1 / (r+1+1)=l at *
       have f1:k - l=2*(k*l):=by
         have:(k - l)=(k*r)*0+k*(l*(r+1+1)) - l*(k*r):=by rw [m1,m3];grind
         rw [this];grind
       have f2:j*j<=k*l:=by
         have g1:k*l=k*l*((j*(r+1))*(j*(r+1))):=by rw [m2];grind
         have g2:k*l*((j*(r+1))*(j*(r+1)))=j*j*((k*r)*(l*(r+1+1)))+k*l*(j*j):=by grind
         rw [g1,g2,m1,m3]
         have:0<=k*l*(j*j):=Rat.mul_nonneg (Rat.mul_nonneg k0 kl) (Rat.mul_nonneg kj kj)
         grind
       have f3:6*((2*r+3)*(2*r+3))*(84*(j*j*j*j*j))<=4536*(j*j*j):=by
         have g1:(2*r+3)*(2*r+3)<=9*((r+1)*(r+1)):=by
           have:0<=r*r:=sq_nonneg r
           have:0<=(r - 1)*r:=Rat.mul_nonneg (by grind) (by grind)
           grind
         have g2:=rmul_le g1 (c:=504*(j*j*j*j*j)) (Rat.mul_nonneg (by decide) (Rat.mul_nonneg (Rat.mul_nonneg (Rat.mul_nonneg (Rat.mul_nonneg kj kj) kj) kj) kj))
         have g3:9*((r+1)*(r+1))*(504*(j*j*j*j*j))=4536*(j*j*j)*((j*(r+1))*(j*(r+1))):=by grind
         rw [g3,m2] at g2
         grind
       have f4:4536*(j*j*j)<=2268*j*(k - l):=by
         rw [f1]
         have:=rmul_le' f2 (c:=4536*j) (by grind)
         grind
       grind
   have h1:=main (n - s) (by omega)
   rw [show s+(n - s)=n by omega] at h1
   have n1:(1:Rat)<=(n:Rat):=rcast_le (a:=1) (b:=(n:Int)) (by omega)
   have s1:(1:Rat)<=(s:Rat):=rcast_le (a:=1) (b:=(s:Int)) (by omega)
   have p1:0<=2268*(1 / (n:Rat))*(1 / ((n:Rat)+1)):=Rat.mul_nonneg (Rat.mul_nonneg (by decide) (inv_nn (by grind))) (inv_nn (by grind))
   have h2:bx n (cR K) - bx s (cR K)<=2268*(1 / (s:Rat))*(1 / ((s:Rat)+1)):=by grind
   have h3:=rmul_le h2 (c:=(s:Rat)*(s:Rat)) (by
     have:=sq_nonneg (s:Rat);exact this)
   refine Rat.le_trans h3 ?_
   have k0:0<=1 / ((s:Rat)+1):=inv_nn (by grind)
   have m1:1 / (s:Rat)*(s:Rat)=1:=odm (by grind)
   have m2:1 / ((s:Rat)+1)*((s:Rat)+1)=1:=odm (by grind)
   generalize 1 / (s:Rat)=k at *
   generalize 1 / ((s:Rat)+1)=j at *
   have:2268*k*j*((s:Rat)*(s:Rat))=2268*(k*(s:Rat))*(j*(s:Rat)):=by grind
   rw [this,m1]
   grind
def qb (n k:Nat):Rat:=(2*k*n:Int) / ((n*n+k*k:Int):Rat)
def qs (n k:Nat):Rat:=((2*(2*k+1)*(2*n):Int):Rat) / ((2*n*(2*n)+(2*k+1)*(2*k+1):Int):Rat)
def qc (n k:Nat):Rat:=((2*n*(2*n) - (2*k+1)*(2*k+1):Int):Rat) / ((2*n*(2*n)+(2*k+1)*(2*k+1):Int):Rat)
def cl (a b y:Rat):Rat:=if y<=a then a else if y<=b then y else b
theorem aNz {a b x y:Rat} (hab:a<=b)(h:x<=y):cl a b x<=cl a b y:=by
 unfold cl;grind
theorem aHk {a b y:Rat} (hab:a<=b):a<=cl a b y/\cl a b y<=b:=by
 unfold cl;grind
def ar (s c u v:Rat):Rat:=(v - u)*((1 - s*u) / c+(1 - s*v) / c) / 2
theorem bD5 {s c u v g y:Rat} (hc:0 < c)(hs:0<=s)(hsc:s*s+c*c=1)(hu:u<=v)(hv:v<=y)(hv0:0<=v)(hg:0<=g)(hgy:g*g+y*y<=1):(v - u)*g<=ar s c u v:=by
 have t1:s*y+c*g<=1:=by
   refine dI (by decide) ?_
   have a1:=sq_nonneg (s*g - c*y)
   have a2:(s*y+c*g)*(s*y+c*g)+(s*g - c*y)*(s*g - c*y)=(s*s+c*c)*(g*g+y*y):=by grind
   rw [hsc] at a2
   grind
 have ic:c*(1 / c)=1:=by have:=odm hc;grind
 have ic0:=inv_nn (Rat.le_of_lt hc)
 have t2:c*g<=1 - s*v:=by
   have:=rmul_le' hv hs
   grind
 have t3:g<=(1 - s*v) / c:=by
   have:=rmul_le t2 ic0
   have e1:c*g*(1 / c)=g:=by
     have:c*g*(1 / c)=(c*(1 / c))*g:=by grind
     rw [this,ic];grind
   have e2:(1 - s*v)*(1 / c)=(1 - s*v) / c:=by
     rw [Rat.div_def,Rat.div_def];grind
   rw [e1,e2] at this
   exact this
 have t4:(1 - s*v) / c<=(1 - s*u) / c:=by
   have:=rmul_le (show 1 - s*v<=1 - s*u by have:=rmul_le' hu hs;grind) ic0
   rw [Rat.div_def,Rat.div_def]
   rw [Rat.div_def] at this
   grind
 have t5:=rmul_le' (show g<=((1 - s*u) / c+(1 - s*v) / c) / 2 by grind) (show 0<=v - u by grind)
 unfold ar
 grind
def Ph (n:Nat)(y:Rat):Rat:=sm n (fun k=>ar (qs n k) (qc n k) (qb n k) (cl (qb n k) (qb n (k+1)) y))
structure Seg (n k:Nat):Prop where
 c0:0 < qc n k
 s0:0<=qs n k
 sc:qs n k*qs n k+qc n k*qc n k=1
 b0:0<=qb n k
 bb:qb n k<=qb n (k+1)
theorem aZ8 {s c u v w:Rat}:ar s c u w - ar s c u v=ar s c v w:=by
 unfold ar
 have e:∀x:Rat,x / c=x*c⁻¹:=fun x=>Rat.div_def ..
 rw [e,e,e];grind
theorem aTk (n:Nat)(h:∀k,k < n->Seg n k)(y:Rat):∀m,m<=n->sm m (fun k=>cl (qb n k) (qb n (k+1)) y - qb n k)=(if y<=qb n 0 then 0 else if y<=qb n m then y - qb n 0 else qb n m - qb n 0):=by
 intro m
 induction m with
 | zero=>intro _;simp only [sm];grind
 | succ m ih =>
   intro hm
   rw [sm,ih (by omega)]
   have hb:=(h m (by omega)).bb
   have mono:qb n 0<=qb n m:=by
     have:∀j,j<=m->qb n 0<=qb n j:=by
       intro j
       induction j with
       | zero=>intro _;exact Rat.le_refl
       | succ j ih =>
         intro hj
         exact Rat.le_trans (ih (by omega)) (h j (by omega)).bb
     exact this m (Nat.le_refl _)
   unfold cl;grind
theorem aTl {n:Nat} (h:∀k,k < n->Seg n k)(h0:qb n 0=0)(h1:qb n n=1) {x y g:Rat} (hx:0<=x)(hxy:x<=y)(hy:y<=1)(hg:0<=g)(hgy:g*g+y*y<=1):(y - x)*g<=Ph n y - Ph n x:=by
 have e1:Ph n y - Ph n x=sm n (fun k=>ar (qs n k) (qc n k) (cl (qb n k) (qb n (k+1)) x) (cl (qb n k) (qb n (k+1)) y)):=by
   unfold Ph
   have:=nI n (fun k=>ar (qs n k) (qc n k) (qb n k) (cl (qb n k) (qb n (k+1)) x)) (fun k=>ar (qs n k) (qc n k) (cl (qb n k) (qb n (k+1)) x) (cl (qb n k) (qb n (k+1)) y))
   have e2:sm n (fun k=>ar (qs n k) (qc n k) (qb n k) (cl (qb n k) (qb n (k+1)) y))=sm n (fun k=>ar (qs n k) (qc n k) (qb n k) (cl (qb n k) (qb n (k+1)) x)+ar (qs n k) (qc n k) (cl (qb n k) (qb n (k+1)) x) (cl (qb n k) (qb n (k+1)) y)):=by
     refine bX (fun k _=>?_)
     have:=aZ8 (s:=qs n k) (c:=qc n k) (u:=qb n k) (v:=cl (qb n k) (qb n (k+1)) x) (w:=cl (qb n k) (qb n (k+1)) y)
     rw [←this];grind
   rw [e2,this];grind
 have e3:sm n (fun k=>cl (qb n k) (qb n (k+1)) y - cl (qb n k) (qb n (k+1)) x)=y - x:=by
   have a1:=aTk n h y n (Nat.le_refl _)
   have a2:=aTk n h x n (Nat.le_refl _)
   rw [h0,h1] at a1 a2
   have:=nI n (fun k=>cl (qb n k) (qb n (k+1)) y - qb n k) (fun k=>(-1)*(cl (qb n k) (qb n (k+1)) x - qb n k))
   rw [dO,a1,a2] at this
   have e4:sm n (fun k=>cl (qb n k) (qb n (k+1)) y - cl (qb n k) (qb n (k+1)) x)=sm n (fun k=>cl (qb n k) (qb n (k+1)) y - qb n k+(-1)*(cl (qb n k) (qb n (k+1)) x - qb n k)):=bX (fun k _=>by grind)
   rw [e4,this];grind
 rw [e1,←e3]
 have:sm n (fun k=>cl (qb n k) (qb n (k+1)) y - cl (qb n k) (qb n (k+1)) x)*g=sm n (fun k=>g*(cl (qb n k) (qb n (k+1)) y - cl (qb n k) (qb n (k+1)) x)):=by
   rw [dO];grind
 rw [this]
 refine oE (fun k hk=>?_)
 have hs:=h k hk
 have m1:=aNz (a:=qb n k) (b:=qb n (k+1)) hs.bb hxy
 have m2:=aHk (a:=qb n k) (b:=qb n (k+1)) (y:=y) hs.bb
 have m3:=aHk (a:=qb n k) (b:=qb n (k+1)) (y:=x) hs.bb
 by_cases c:y<=qb n k
 · have c1:cl (qb n k) (qb n (k+1)) y=qb n k:=by unfold cl;grind
   have c2:cl (qb n k) (qb n (k+1)) x=qb n k:=by unfold cl;grind
   rw [c1,c2]
   unfold ar;grind
 · have c1:cl (qb n k) (qb n (k+1)) y<=y:=by unfold cl;grind
   have:=bD5 (u:=cl (qb n k) (qb n (k+1)) x) (v:=cl (qb n k) (qb n (k+1)) y) hs.c0 hs.s0 hs.sc m1 c1 (Rat.le_trans hs.b0 m2.1) hg hgy
   grind
theorem sL (a c:Rat):a / c=a*(1 / c):=by rw [Rat.div_def,Rat.div_def];grind
theorem bD6 (n:Nat):((n:Int):Rat)=(n:Rat):=rfl
theorem yO {n k:Nat} (hk:k < n):Seg n k:=by
 have hn0:(0:Int) < n:=by omega
 have sqk:=sq_int_nonneg (k:Int)
 have sqn:0 < (n:Int)*n:=Int.mul_pos hn0 hn0
 have D0:(0:Int) < 2*n*(2*n)+(2*k+1)*(2*k+1):=by
   have:=sq_int_nonneg (2*(k:Int)+1)
   have:(2*(n:Int)*(2*n))=4*((n:Int)*n):=by grind
   omega
 have C0:(0:Int) < 2*n*(2*n) - (2*k+1)*(2*k+1):=by
   have:=Int.mul_self_lt_mul_self (a:=2*(k:Int)+1) (b:=2*(n:Int)) (by omega) (by omega)
   omega
 have E0:(0:Int) < (n:Int)*n+k*k:=by omega
 have E1:(0:Int) < (n:Int)*n+(k+1:Nat)*(k+1:Nat):=by
   have:=sq_int_nonneg ((k+1:Nat):Int);omega
 have rD:=rcast_pos D0
 have rC:=rcast_pos C0
 have rE0:=rcast_pos E0
 have rE1:=rcast_pos E1
 have kk:(0:Rat)<=((k:Int):Rat):=rcast_le (a:=0) (by omega)
 have nn:(0:Rat)<=((n:Int):Rat):=rcast_le (a:=0) (by omega)
 have iD:=odm rD
 have iE0:=odm rE0
 have iE1:=odm rE1
 have iD0:=inv_nn (Rat.le_of_lt rD)
 have iE00:=inv_nn (Rat.le_of_lt rE0)
 have iE10:=inv_nn (Rat.le_of_lt rE1)
 refine⟨?_,?_,?_,?_,?_⟩
 · unfold qc
   rw [sL]
   refine Rat.mul_pos rC ?_
   rw [Rat.div_def]
   have:=Rat.inv_pos.mpr rD
   grind
 · unfold qs
   rw [sL]
   refine Rat.mul_nonneg (rcast_le (a:=0) ?_) iD0
   have:=Int.mul_nonneg (a:=2*(2*(k:Int)+1)) (b:=2*(n:Int)) (by omega) (by omega)
   exact this
 · unfold qs qc
   rw [sL,sL (((2*n*(2*n) - (2*k+1)*(2*k+1):Int):Rat))]
   have e:(((2*(2*k+1)*(2*n):Int):Rat)*((2*(2*k+1)*(2*n):Int):Rat)+((2*n*(2*n) - (2*k+1)*(2*k+1):Int):Rat)*((2*n*(2*n) - (2*k+1)*(2*k+1):Int):Rat))=((2*n*(2*n)+(2*k+1)*(2*k+1):Int):Rat)*((2*n*(2*n)+(2*k+1)*(2*k+1):Int):Rat):=by
     rw [←rcast_mul,←rcast_mul,←rcast_add,←rcast_mul]
     congr 1
     grind
   generalize ((2*n*(2*n)+(2*k+1)*(2*k+1):Int):Rat)=Dr at *
   generalize ((2*(2*k+1)*(2*n):Int):Rat)=Sr at *
   generalize ((2*n*(2*n) - (2*k+1)*(2*k+1):Int):Rat)=Cr at *
   generalize 1 / Dr=j at *
   have:Sr*j*(Sr*j)+Cr*j*(Cr*j)=(Sr*Sr+Cr*Cr)*(j*j):=by grind
   rw [this,e]
   have:Dr*Dr*(j*j)=(j*Dr)*(j*Dr):=by grind
   rw [this,iD];grind
 · unfold qb
   rw [sL]
   refine Rat.mul_nonneg (rcast_le (a:=0) ?_) iE00
   have:=Int.mul_nonneg (a:=2*(k:Int)) (b:=(n:Int)) (by omega) (by omega)
   exact this
 · unfold qb
   rw [sL,sL (((2*(k+1:Nat)*n:Int):Rat))]
   have key:(2*(k:Int)*n)*((n:Int)*n+(k+1:Nat)*(k+1:Nat))<=(2*((k+1:Nat):Int)*n)*((n:Int)*n+k*k):=by
     have h1:(k:Int)*(k+1)<=(n:Int)*n:=by
       have:=Int.mul_le_mul (a:=(k:Int)) (b:=(k:Int)+1) (c:=(n:Int)) (d:=(n:Int)) (by omega) (by omega) (by omega) (by omega)
       exact this
     have h2:=Int.mul_nonneg (a:=(n:Int)) (b:=(n:Int)*n - k*(k+1)) (by omega) (by omega)
     have e:((k+1:Nat):Int)=(k:Int)+1:=by omega
     rw [e]
     grind
   have rk:=rcast_le key
   rw [rcast_mul,rcast_mul (2*((k+1:Nat):Int)*n)] at rk
   generalize ((2*(k:Int)*n:Int):Rat)=b0 at *
   generalize ((2*((k+1:Nat):Int)*n:Int):Rat)=b1 at *
   generalize (((n:Int)*n+(k+1:Nat)*(k+1:Nat):Int):Rat)=e1 at *
   generalize (((n:Int)*n+k*k:Int):Rat)=e0 at *
   generalize 1 / e0=j0 at *
   generalize 1 / e1=j1 at *
   have h3:=rmul_le rk (c:=j0*j1) (Rat.mul_nonneg iE00 iE10)
   have a1:b0*e1*(j0*j1)=b0*j0*(j1*e1):=by grind
   have a2:b1*e0*(j0*j1)=b1*j1*(j0*e0):=by grind
   rw [a1,a2,iE0,iE1] at h3
   grind
theorem aZ9 {n:Nat}:qb n 0=0:=by
 unfold qb
 rw [sL]
 have:((2*((0:Nat):Int)*n:Int):Rat)=0:=by
   have:(2*((0:Nat):Int)*(n:Int))=0:=by simp
   rw [this];rfl
 rw [this];grind
theorem aV8 {n:Nat} (h:0 < n):qb n n=1:=by
 unfold qb
 have e:(2*(n:Int)*n)=(n:Int)*n+n*n:=by grind
 rw [e,sL]
 have hn0:(0:Int) < n:=by omega
 have sqn:0 < (n:Int)*n:=Int.mul_pos hn0 hn0
 have:=odm (rcast_pos (a:=(n:Int)*n+n*n) (by omega))
 grind
def zn (k:Nat):Int :=
 let n:Int:=400
 let B0:=2*(k:Int)*n
 let E0:=n*n+k*k
 let B1:=2*((k:Int)+1)*n
 let E1:=n*n+((k:Int)+1)*((k:Int)+1)
 let S:=2*(2*(k:Int)+1)*(2*n)
 let D:=2*n*(2*n)+(2*(k:Int)+1)*(2*(k:Int)+1)
 (B1*E0 - B0*E1)*((D*E0 - S*B0)*E1+(D*E1 - S*B1)*E0)
def zd (k:Nat):Int :=
 let n:Int:=400
 let E0:=n*n+k*k
 let E1:=n*n+((k:Int)+1)*((k:Int)+1)
 let C:=2*n*(2*n) - (2*(k:Int)+1)*(2*(k:Int)+1)
 2*(E0*E1*(E0*E1))*C
def zk (k:Nat):Int:=zn k*1000000000000 / zd k+1
def aPe:Nat->Int
 | 0=>0
 | n+1=>aPe n+zk n
theorem aV9:aPe 400<=785399400000:=by decide +kernel
theorem aWa {B0 E0 B1 E1 S C D i0 i1 iD iC:Rat} (h0:i0*E0=1)(h1:i1*E1=1)(hD:iD*D=1)(hC:iC*C=1) :
   (B1*i1 - B0*i0)*((1 - S*iD*(B0*i0))*(D*iC)+(1 - S*iD*(B1*i1))*(D*iC)) / 2=((B1*E0 - B0*E1)*((D*E0 - S*B0)*E1+(D*E1 - S*B1)*E0))*(i0*i1*(i0*i1)*iC / 2):=by
 have a1:(B1*E0 - B0*E1)*(i0*i1)=B1*i1 - B0*i0:=by
   have:(B1*E0 - B0*E1)*(i0*i1)=B1*i1*(i0*E0) - B0*i0*(i1*E1):=by grind
   rw [this,h0,h1];grind
 have a2:((D*E0 - S*B0)*E1+(D*E1 - S*B1)*E0)*(i0*i1)=(D - S*B0*i0)+(D - S*B1*i1):=by
   have:((D*E0 - S*B0)*E1+(D*E1 - S*B1)*E0)*(i0*i1)=(D*(i0*E0) - S*B0*i0)*(i1*E1)+(D*(i1*E1) - S*B1*i1)*(i0*E0):=by grind
   rw [this,h0,h1];grind
 have a3:(1 - S*iD*(B0*i0))*(D*iC)=(D - S*B0*i0)*iC:=by
   have:(1 - S*iD*(B0*i0))*(D*iC)=(D - S*(iD*D)*(B0*i0))*iC:=by grind
   rw [this,hD];grind
 have a4:(1 - S*iD*(B1*i1))*(D*iC)=(D - S*B1*i1)*iC:=by
   have:(1 - S*iD*(B1*i1))*(D*iC)=(D - S*(iD*D)*(B1*i1))*iC:=by grind
   rw [this,hD];grind
 have a5:((B1*E0 - B0*E1)*((D*E0 - S*B0)*E1+(D*E1 - S*B1)*E0))*(i0*i1*(i0*i1)*iC / 2)=((B1*E0 - B0*E1)*(i0*i1))*(((D*E0 - S*B0)*E1+(D*E1 - S*B1)*E0)*(i0*i1))*iC / 2:=by grind
 rw [a5,a1,a2,a3,a4]
 grind
theorem aDd {a b:Rat} (h:0 < a)(hb:b*a=1):1 / a=b:=by
 have h1:=odm h
 have:(1 / a)*a*b=b*a*(1 / a):=by grind
 rw [h1,hb] at this
 grind
theorem bD7 {x c d:Rat} (hc:0 < c)(hd:0 < d):x / (c / d)=x*(d*(1 / c)):=by
 have h1:=odm hc
 have h2:=odm hd
 have i1:0 < 1 / d:=by rw [Rat.div_def];have:=Rat.inv_pos.mpr hd;grind
 have h3:0 < c*(1 / d):=Rat.mul_pos hc i1
 rw [sL x,sL c,aDd h3 (b:=d*(1 / c)) (by
   have:d*(1 / c)*(c*(1 / d))=(1 / c*c)*(1 / d*d):=by grind
   rw [this,h1,h2];grind)]
theorem bD8 {p q c:Rat} (hp:0 < p)(hq:0 < q)(hc:0 < c):1 / p*(1 / q)*(1 / p*(1 / q))*(1 / c) / 2=1 / (2*(p*q*(p*q))*c):=by
 have h1:=odm hp
 have h2:=odm hq
 have h3:=odm hc
 have h4:0 < 2*(p*q*(p*q))*c:=Rat.mul_pos (Rat.mul_pos (by decide) (Rat.mul_pos (Rat.mul_pos hp hq) (Rat.mul_pos hp hq))) hc
 refine(aDd h4 ?_).symm
 have:1 / p*(1 / q)*(1 / p*(1 / q))*(1 / c) / 2*(2*(p*q*(p*q))*c)=(1 / p*p)*(1 / q*q)*((1 / p*p)*(1 / q*q))*(1 / c*c):=by grind
 rw [this,h1,h2,h3];grind
theorem bF2 {k:Nat} (hk:k < 400):ar (qs 400 k) (qc 400 k) (qb 400 k) (qb 400 (k+1))<=((zk k:Int):Rat)*(1 / 1000000000000):=by
 have sqk:=sq_int_nonneg (k:Int)
 have sqk1:=sq_int_nonneg ((k:Int)+1)
 have hC:(0:Int) < 2*400*(2*400) - (2*(k:Int)+1)*(2*(k:Int)+1):=by
   have:=Int.mul_self_lt_mul_self (a:=2*(k:Int)+1) (b:=800) (by omega) (by omega)
   omega
 have hD:(0:Int) < 2*400*(2*400)+(2*(k:Int)+1)*(2*(k:Int)+1):=by
   have:=sq_int_nonneg (2*(k:Int)+1);omega
 have hE0:(0:Int) < 400*400+(k:Int)*k:=by omega
 have hE1:(0:Int) < 400*400+((k:Int)+1)*((k:Int)+1):=by omega
 have hE1':((400:Nat):Int)*(400:Nat)+((k+1:Nat):Int)*(k+1:Nat)=400*400+((k:Int)+1)*((k:Int)+1):=by
   have:((k+1:Nat):Int)=(k:Int)+1:=by omega
   rw [this];rfl
 have hB1':2*((k+1:Nat):Int)*(400:Nat)=2*((k:Int)+1)*400:=by
   have:((k+1:Nat):Int)=(k:Int)+1:=by omega
   rw [this];rfl
 have zdp:0 < zd k:=by
   unfold zd
   exact Int.mul_pos (Int.mul_pos (by decide) (Int.mul_pos (Int.mul_pos hE0 hE1) (Int.mul_pos hE0 hE1))) hC
 have e1:ar (qs 400 k) (qc 400 k) (qb 400 k) (qb 400 (k+1))=((zn k:Int):Rat)*(1 / ((zd k:Int):Rat)):=by
   unfold ar qs qc qb
   have f:=aWa (B0:=((2*(k:Int)*400:Int):Rat)) (B1:=((2*((k:Int)+1)*400:Int):Rat)) (S:=((2*(2*(k:Int)+1)*(2*400):Int):Rat)) (odm (rcast_pos hE0)) (odm (rcast_pos hE1)) (odm (rcast_pos hD)) (odm (rcast_pos hC))
   have g0:((2*(k:Int)*((400:Nat):Int):Int):Rat) / ((((400:Nat):Int)*((400:Nat):Int)+(k:Int)*(k:Int):Int):Rat)=((2*(k:Int)*400:Int):Rat)*(1 / ((400*400+(k:Int)*k:Int):Rat)):=sL _ _
   have g1:((2*((k+1:Nat):Int)*((400:Nat):Int):Int):Rat) / ((((400:Nat):Int)*((400:Nat):Int)+((k+1:Nat):Int)*((k+1:Nat):Int):Int):Rat)=((2*((k:Int)+1)*400:Int):Rat)*(1 / ((400*400+((k:Int)+1)*((k:Int)+1):Int):Rat)):=by
     rw [hE1',hB1'];exact sL _ _
   have g2:((2*(2*(k:Int)+1)*(2*((400:Nat):Int)):Int):Rat) / ((2*((400:Nat):Int)*(2*((400:Nat):Int))+(2*(k:Int)+1)*(2*(k:Int)+1):Int):Rat)=((2*(2*(k:Int)+1)*(2*400):Int):Rat)*(1 / ((2*400*(2*400)+(2*(k:Int)+1)*(2*(k:Int)+1):Int):Rat)):=sL _ _
   have g3:∀x:Rat,x / (((2*((400:Nat):Int)*(2*((400:Nat):Int)) - (2*(k:Int)+1)*(2*(k:Int)+1):Int):Rat) / ((2*((400:Nat):Int)*(2*((400:Nat):Int))+(2*(k:Int)+1)*(2*(k:Int)+1):Int):Rat))=x*(((2*400*(2*400)+(2*(k:Int)+1)*(2*(k:Int)+1):Int):Rat)*(1 / ((2*400*(2*400) - (2*(k:Int)+1)*(2*(k:Int)+1):Int):Rat))):=by
     intro x
     have n1:=rcast_pos hC
     have n2:=rcast_pos hD
     have e4:((400:Nat):Int)=400:=rfl
     rw [e4]
     generalize ((2*400*(2*400) - (2*(k:Int)+1)*(2*(k:Int)+1):Int):Rat)=c at *
     generalize ((2*400*(2*400)+(2*(k:Int)+1)*(2*(k:Int)+1):Int):Rat)=d at *
     exact bD7 n1 n2
   rw [g0,g1,g2,g3,g3,f]
   have zk1:((zn k:Int):Rat)=((((2*((k:Int)+1)*400:Int):Rat)*((400*400+(k:Int)*k:Int):Rat) - ((2*(k:Int)*400:Int):Rat)*((400*400+((k:Int)+1)*((k:Int)+1):Int):Rat))*((((2*400*(2*400)+(2*(k:Int)+1)*(2*(k:Int)+1):Int):Rat)*((400*400+(k:Int)*k:Int):Rat) - ((2*(2*(k:Int)+1)*(2*400):Int):Rat)*((2*(k:Int)*400:Int):Rat))*((400*400+((k:Int)+1)*((k:Int)+1):Int):Rat)+(((2*400*(2*400)+(2*(k:Int)+1)*(2*(k:Int)+1):Int):Rat)*((400*400+((k:Int)+1)*((k:Int)+1):Int):Rat) - ((2*(2*(k:Int)+1)*(2*400):Int):Rat)*((2*((k:Int)+1)*400:Int):Rat))*((400*400+(k:Int)*k:Int):Rat))):=by
     unfold zn
     simp only [Rat.intCast_mul,Rat.intCast_add,Rat.intCast_sub]
   have zk2:((zd k:Int):Rat)=2*(((400*400+(k:Int)*k:Int):Rat)*((400*400+((k:Int)+1)*((k:Int)+1):Int):Rat)*(((400*400+(k:Int)*k:Int):Rat)*((400*400+((k:Int)+1)*((k:Int)+1):Int):Rat)))*((2*400*(2*400) - (2*(k:Int)+1)*(2*(k:Int)+1):Int):Rat):=by
     unfold zd
     simp only [Rat.intCast_mul,Rat.intCast_add,Rat.intCast_sub]
     rfl
   rw [zk1,zk2]
   have n1:=rcast_pos hC
   have n3:=rcast_pos hE0
   have n4:=rcast_pos hE1
   clear f g0 g1 g2 g3 zk1 zk2
   generalize ((2*400*(2*400) - (2*(k:Int)+1)*(2*(k:Int)+1):Int):Rat)=c at *
   generalize ((400*400+(k:Int)*k:Int):Rat)=p at *
   generalize ((400*400+((k:Int)+1)*((k:Int)+1):Int):Rat)=q at *
   have:1 / p*(1 / q)*(1 / p*(1 / q))*(1 / c) / 2=1 / (2*(p*q*(p*q))*c):=bD8 n3 n4 n1
   rw [this]
 have e2:zn k*1000000000000<=zk k*zd k:=by
   unfold zk
   have:=Int.lt_mul_ediv_self_add (x:=zn k*1000000000000) zdp
   rw [Int.add_mul]
   have e:zn k*1000000000000 / zd k*zd k=zd k*(zn k*1000000000000 / zd k):=Int.mul_comm ..
   rw [e];omega
 have e3:=rcast_le e2
 rw [rcast_mul,rcast_mul] at e3
 have zr:=rcast_pos zdp
 have iz:=odm zr
 have iz0:=inv_nn (Rat.le_of_lt zr)
 rw [e1]
 generalize 1 / ((zd k:Int):Rat)=j at *
 have e4:=rmul_le e3 iz0
 have e5:((zk k:Int):Rat)*((zd k:Int):Rat)*j=((zk k:Int):Rat)*(j*((zd k:Int):Rat)):=by grind
 rw [e5,iz] at e4
 have e6:((1000000000000:Int):Rat)=1000000000000:=rfl
 rw [e6] at e4
 have e7:(1000000000000:Rat)*(1 / 1000000000000)=1:=by decide +kernel
 have e8:=rmul_le e4 (c:=1 / 1000000000000) (by decide +kernel)
 have e9:((zn k:Int):Rat)*1000000000000*j*(1 / 1000000000000)=((zn k:Int):Rat)*j*(1000000000000*(1 / 1000000000000)):=by grind
 rw [e9,e7] at e8
 grind
theorem bAa:Ph 400 1 - Ph 400 0<=7853994 / 10000000:=by
 have h0:Ph 400 0=0:=by
   unfold Ph
   have:sm 400 (fun k=>ar (qs 400 k) (qc 400 k) (qb 400 k) (cl (qb 400 k) (qb 400 (k+1)) 0))=sm 400 (fun _=>0):=by
     refine bX (fun k hk=>?_)
     have:=(yO (n:=400) (k:=k) hk).b0
     have c:cl (qb 400 k) (qb 400 (k+1)) 0=qb 400 k:=by unfold cl;grind
     rw [c];unfold ar;grind
   rw [this,aAp]
 have h1:Ph 400 1<=((aPe 400:Int):Rat)*(1 / 1000000000000):=by
   unfold Ph
   have:∀n,n<=400->sm n (fun k=>ar (qs 400 k) (qc 400 k) (qb 400 k) (cl (qb 400 k) (qb 400 (k+1)) 1))<=((aPe n:Int):Rat)*(1 / 1000000000000):=by
     intro n
     induction n with
     | zero=>intro _;simp only [sm,aPe];decide +kernel
     | succ n ih =>
       intro hn
       rw [sm,aPe,rcast_add]
       have a1:=ih (by omega)
       have b1:∀m,m<=400->qb 400 m<=1:=by
         intro m hm
         have:∀d,m+d<=400->qb 400 m<=qb 400 (m+d):=by
           intro d
           induction d with
           | zero=>intro _;exact Rat.le_refl
           | succ d ih=>intro hd;exact Rat.le_trans (ih (by omega)) (yO (by omega)).bb
         have:=this (400 - m) (by omega)
         rw [show m+(400 - m)=400 by omega,aV8 (by decide)] at this
         exact this
       have b2:=b1 (n+1) (by omega)
       have b3:=(yO (n:=400) (k:=n) (by omega)).bb
       have c:cl (qb 400 n) (qb 400 (n+1)) 1=qb 400 (n+1):=by unfold cl;grind
       rw [c]
       have a2:=bF2 (k:=n) (by omega)
       grind
   exact this 400 (Nat.le_refl _)
 have h2:=rmul_le (rcast_le aV9) (c:=1 / 1000000000000) (by decide +kernel)
 have h3:((785399400000:Int):Rat)*(1 / 1000000000000)=7853994 / 10000000:=by decide +kernel
 rw [h3] at h2
 rw [h0];grind
open Classical in
noncomputable def ind (p:Prop):Rat:=if p then 1 else 0
theorem aHl (p:Prop):0<=ind p:=by unfold ind;split<;>decide
theorem aDe {p:Prop} (h:p):ind p=1:=by unfold ind;rw [if_pos h]
theorem aJa {p:Prop} (h:¬p):ind p=0:=by unfold ind;rw [if_neg h]
theorem aHm (P:Nat->Prop):∀m:Nat,(sm m (fun i=>ind (P i))=0/\∀i,i < m->¬P i)\/∃a b:Nat,a<=b/\b < m/\P a/\P b/\sm m (fun i=>ind (P i))<=((b:Int):Rat) - ((a:Int):Rat)+1
 | 0=>.inl ⟨rfl,fun i hi=>absurd hi (gP _)⟩
 | m+1=>by
   rcases aHm P m with⟨h1,h2⟩ | ⟨a,b,h1,h2,h3,h4,h5⟩
   · by_cases c:P m
     · right
       refine⟨m,m,Nat.le_refl _,by omega,c,c,?_⟩
       rw [sm,h1,aDe c];grind
     · left
       refine⟨by rw [sm,h1,aJa c];grind,fun i hi=>?_⟩
       by_cases e:i=m
       · rw [e];exact c
       · exact h2 i (by omega)
   · right
     by_cases c:P m
     · refine⟨a,m,by omega,by omega,h3,c,?_⟩
       rw [sm,aDe c]
       have:((b:Int):Rat)+1<=((m:Int):Rat):=by
         have:=rcast_le (show(b:Int)+1<=(m:Int) by omega)
         rw [rcast_add] at this
         exact this
       grind
     · refine⟨a,b,h1,by omega,h3,h4,?_⟩
       rw [sm,aJa c];grind
theorem aJb (x0 R:Rat)(hR:0<=R)(M:Nat):sm M (fun j=>ind (((j:Int):Rat) - x0<=R/\-R<=((j:Int):Rat) - x0))<=2*R+1:=by
 rcases aHm (fun j=>((j:Int):Rat) - x0<=R/\-R<=((j:Int):Rat) - x0) M with⟨h,_⟩ | ⟨a,b,_,_,h3,h4,h5⟩
 · rw [h];grind
 · grind
def Pc (y:Rat):Rat:=Ph 400 (cl 0 1 y)
theorem sB {x y:Rat} (h:x<=y):Pc x<=Pc y:=by
 have m1:=aHk (a:=0) (b:=1) (y:=x) (by decide)
 have m2:=aHk (a:=0) (b:=1) (y:=y) (by decide)
 have m3:=aNz (a:=0) (b:=1) (by decide) h
 have:=aTl (n:=400) (fun k hk=>yO hk) aZ9 (aV8 (by decide)) (g:=0) m1.1 m3 m2.2 (by decide) (by
   have:cl 0 1 y*cl 0 1 y<=1*1:=by
     have a1:=rmul_le m2.2 m2.1
     have a2:=rmul_le' m2.2 (show(0:Rat)<=1 by decide)
     grind
   grind)
 unfold Pc;grind
def aN0 (a b:Rat):Rat:=if a<=b then b else a
def aN1 (a b:Rat):Rat:=if a<=b then a else b
theorem aTm (x y:Rat):Pc x - Pc y<=7853994 / 10000000:=by
 have h1:Pc x<=Ph 400 1:=by
   have:=sB (x:=x) (y:=aN0 x 1) (by unfold aN0;grind)
   have e:Pc (aN0 x 1)=Ph 400 1:=by unfold Pc cl aN0;grind
   rwa [e] at this
 have h2:Ph 400 0<=Pc y:=by
   have:=sB (x:=aN1 y 0) (y:=y) (by unfold aN1;grind)
   have e:Pc (aN1 y 0)=Ph 400 0:=by unfold Pc cl aN1;grind
   rwa [e] at this
 have:=bAa
 grind
theorem aTn (f:Int->Rat):∀M:Nat,sm M (fun j=>f (j:Int) - f ((j:Int) - 1))=f ((M:Int) - 1) - f (-1)
 | 0=>by simp only [sm];rw [show((0:Nat):Int) - 1=-1 by omega];grind
 | M+1=>by
   rw [sm,aTn f M,show((M+1:Nat):Int) - 1=(M:Int) by omega];grind
theorem aN2 (f:Int->Rat):∀M:Nat,sm M (fun j=>f (j:Int) - f ((j:Int)+1))=f 0 - f (M:Int)
 | 0=>by simp only [sm];rw [show((0:Nat):Int)=0 by omega];grind
 | M+1=>by
   rw [sm,aN2 f M,show((M+1:Nat):Int)=(M:Int)+1 by omega];grind
theorem bD9 {d y g:Rat} (hd:0 < d)(hg:0<=g)(hgy:g*g+y*y<=1):d*g<=(Pc y - Pc (y - d))+(Pc (-y) - Pc (-y - d))+d*ind (y<=d/\-d<=y):=by
 have g1:g<=1:=dI (by decide) (by have:=sq_nonneg y;grind)
 have y1:y<=1:=dI (by decide) (by have:=sq_nonneg g;grind)
 have y2:-y<=1:=dI (by decide) (by have:=sq_nonneg g;grind)
 have p1:=sB (x:=y - d) (y:=y) (by grind)
 have p2:=sB (x:=-y - d) (y:=-y) (by grind)
 by_cases c:y<=d/\-d<=y
 · rw [aDe c]
   have:=rmul_le' g1 (Rat.le_of_lt hd)
   grind
 · rw [aJa c]
   by_cases c1:d < y
   · have:=aTl (n:=400) (fun k hk=>yO hk) aZ9 (aV8 (by decide)) (x:=y - d) (y:=y) (g:=g) (by grind) (by grind) y1 hg hgy
     have e1:Pc y=Ph 400 y:=by unfold Pc cl;grind
     have e2:Pc (y - d)=Ph 400 (y - d):=by unfold Pc cl;grind
     rw [e1,e2]
     grind
   · have c2:d < -y:=by grind
     have hgy2:g*g+(-y)*(-y)<=1:=by grind
     have:=aTl (n:=400) (fun k hk=>yO hk) aZ9 (aV8 (by decide)) (x:=-y - d) (y:=-y) (g:=g) (by grind) (by grind) y2 hg hgy2
     have e1:Pc (-y)=Ph 400 (-y):=by unfold Pc cl;grind
     have e2:Pc (-y - d)=Ph 400 (-y - d):=by unfold Pc cl;grind
     rw [e1,e2]
     grind
theorem aTo {d x0 k:Rat} (hd:0 < d)(hk:0<=k) {M:Nat} {cnt:Nat->Rat}
   (h:∀j,j < M->cnt j<=0\/∃g,0<=g/\cnt j<=1+k*g/\g*g+(d*(((j:Int):Rat) - x0))*(d*(((j:Int):Rat) - x0))<=1) :
   sm M cnt<=(2*(1 / d)+1)+k*((1 / d)*(2*(7853994 / 10000000))+3):=by
 have id1:=odm hd
 have id0:=inv_nn (Rat.le_of_lt hd)
 have pt:∀j,j < M->cnt j<=ind (((j:Int):Rat) - x0<=1 / d/\-(1 / d)<=((j:Int):Rat) - x0)+(k*(1 / d))*(((fun z:Int=>Pc (d*((z:Rat) - x0))) (j:Int) - (fun z:Int=>Pc (d*((z:Rat) - x0))) ((j:Int) - 1))+((fun z:Int=>Pc (-(d*((z:Rat) - x0)))) (j:Int) - (fun z:Int=>Pc (-(d*((z:Rat) - x0)))) ((j:Int)+1)))+k*ind (((j:Int):Rat) - x0<=1/\-1<=((j:Int):Rat) - x0):=by
   intro j hj
   have e1:d*((((j:Int) - 1:Int):Rat) - x0)=d*(((j:Int):Rat) - x0) - d:=by
     have:(((j:Int) - 1:Int):Rat)=((j:Int):Rat) - 1:=Rat.intCast_sub _ _
     rw [this];grind
   have e2:-(d*((((j:Int)+1:Int):Rat) - x0))=-(d*(((j:Int):Rat) - x0)) - d:=by
     have:(((j:Int)+1:Int):Rat)=((j:Int):Rat)+1:=Rat.intCast_add _ _
     rw [this];grind
   simp only [e1,e2]
   have p1:=sB (x:=d*(((j:Int):Rat) - x0) - d) (y:=d*(((j:Int):Rat) - x0)) (by grind)
   have p2:=sB (x:=-(d*(((j:Int):Rat) - x0)) - d) (y:=-(d*(((j:Int):Rat) - x0))) (by grind)
   have i1:=aHl (((j:Int):Rat) - x0<=1 / d/\-(1 / d)<=((j:Int):Rat) - x0)
   have i2:=aHl (((j:Int):Rat) - x0<=1/\-1<=((j:Int):Rat) - x0)
   rcases h j hj with h0 | ⟨g,h1,h2,h3⟩
   · have qk1:=Rat.mul_nonneg (Rat.mul_nonneg hk id0) (show 0<=(Pc (d*(((j:Int):Rat) - x0)) - Pc (d*(((j:Int):Rat) - x0) - d))+(Pc (-(d*(((j:Int):Rat) - x0))) - Pc (-(d*(((j:Int):Rat) - x0)) - d)) by grind)
     have qk2:=Rat.mul_nonneg hk i2
     grind
   · have rg:=bD9 hd h1 h3
     have y1:d*(((j:Int):Rat) - x0)<=1:=dI (by decide) (by have:=sq_nonneg g;grind)
     have y2:-(d*(((j:Int):Rat) - x0))<=1:=dI (by decide) (by have:=sq_nonneg g;grind)
     generalize hz:((j:Int):Rat) - x0=z at *
     have c1:z<=1 / d/\-(1 / d)<=z:=by
       have a1:=rmul_le y1 id0
       have a2:=rmul_le y2 id0
       have b1:d*z*(1 / d)=z:=by
         have:d*z*(1 / d)=(1 / d*d)*z:=by grind
         rw [this,id1];grind
       have b2:-(d*z)*(1 / d)=-z:=by
         have:-(d*z)*(1 / d)=-((1 / d*d)*z):=by grind
         rw [this,id1];grind
       rw [b1] at a1
       rw [b2] at a2
       grind
     rw [aDe c1]
     have e3:ind (d*z<=d/\-d<=d*z)<=ind (z<=1/\-1<=z):=by
       by_cases c2:d*z<=d/\-d<=d*z
       · have c3:z<=1/\-1<=z:=by
           have a1:=rmul_le c2.1 id0
           have a2:=rmul_le c2.2 id0
           have b1:d*z*(1 / d)=z:=by
             have:d*z*(1 / d)=(1 / d*d)*z:=by grind
             rw [this,id1];grind
           rw [b1] at a1 a2
           grind
         rw [aDe c2,aDe c3];exact Rat.le_refl
       · rw [aJa c2];exact aHl _
     have a1:=rmul_le' rg (Rat.mul_nonneg hk id0)
     have b1:k*(1 / d)*(d*g)=k*g:=by
       have:k*(1 / d)*(d*g)=k*(1 / d*d)*g:=by grind
       rw [this,id1];grind
     rw [b1] at a1
     have a2:=rmul_le' e3 hk
     have b2:k*(1 / d)*(d*ind (d*z<=d/\-d<=d*z))=k*ind (d*z<=d/\-d<=d*z):=by
       have:k*(1 / d)*(d*ind (d*z<=d/\-d<=d*z))=k*(1 / d*d)*ind (d*z<=d/\-d<=d*z):=by grind
       rw [this,id1];grind
     have b3:k*(1 / d)*(Pc (d*z) - Pc (d*z - d)+(Pc (-(d*z)) - Pc (-(d*z) - d))+d*ind (d*z<=d/\-d<=d*z))=k*(1 / d)*(Pc (d*z) - Pc (d*z - d)+(Pc (-(d*z)) - Pc (-(d*z) - d)))+k*(1 / d)*(d*ind (d*z<=d/\-d<=d*z)):=by grind
     rw [b3,b2] at a1
     grind
 refine Rat.le_trans (oE pt) ?_
 rw [nI,nI,dO,dO,nI]
 have t1:sm M (fun j=>(fun z:Int=>Pc (d*((z:Rat) - x0))) (j:Int) - (fun z:Int=>Pc (d*((z:Rat) - x0))) ((j:Int) - 1))=_:=aTn (fun z:Int=>Pc (d*((z:Rat) - x0))) M
 have t2:sm M (fun j=>(fun z:Int=>Pc (-(d*((z:Rat) - x0)))) (j:Int) - (fun z:Int=>Pc (-(d*((z:Rat) - x0)))) ((j:Int)+1))=_:=aN2 (fun z:Int=>Pc (-(d*((z:Rat) - x0)))) M
 rw [t1,t2]
 have n1:=aJb x0 (1 / d) id0 M
 have n2:=aJb x0 1 (by decide) M
 have r1:=aTm (d*((((M:Int) - 1:Int):Rat) - x0)) (d*((((-1:Int):Int):Rat) - x0))
 have r2:=aTm (-(d*((((0:Int):Int):Rat) - x0))) (-(d*((((M:Int):Int):Rat) - x0)))
 have m1:=rmul_le' (show(Pc (d*((((M:Int) - 1:Int):Rat) - x0)) - Pc (d*((((-1:Int):Int):Rat) - x0)))+(Pc (-(d*((((0:Int):Int):Rat) - x0))) - Pc (-(d*((((M:Int):Int):Rat) - x0))))<=2*(7853994 / 10000000) by grind) (Rat.mul_nonneg hk id0)
 have m2:=rmul_le' n2 hk
 have e:k*(1 / d*(2*(7853994 / 10000000))+3)=k*(1 / d)*(2*(7853994 / 10000000))+k*(2*1+1):=by grind
 rw [e]
 grind
def dt (p q:V3):Int:=p.1*q.1+p.2.1*q.2.1+p.2.2*q.2.2
def cr (p q:V3):V3:=(p.2.1*q.2.2 - p.2.2*q.2.1,p.2.2*q.1 - p.1*q.2.2,p.1*q.2.1 - p.2.1*q.1)
def pt (A u w:V3)(M:Nat)(i j:Nat):V3:=(M*A.1+i*u.1+j*w.1,M*A.2.1+i*u.2.1+j*w.2.1,M*A.2.2+i*u.2.2+j*w.2.2)
theorem fl (x:Rat)(h:0<=x):∃s:Nat,(s:Rat)<=x/\x < (s:Rat)+1:=by
 have h1:=Rat.floor_le x
 have h2:=Rat.lt_floor_add_one x
 have h3:0<=x.floor:=Rat.le_floor_iff.mpr h
 refine⟨toNat x.floor,?_,?_⟩
 · have e:((toNat x.floor:Nat):Rat)=((x.floor:Int):Rat):=by
     rw [←bD6,Int.toNat_of_nonneg h3]
   rw [e];exact h1
 · have e:((toNat x.floor:Nat):Rat)=((x.floor:Int):Rat):=by
     rw [←bD6,Int.toNat_of_nonneg h3]
   rw [e]
   rw [rcast_add] at h2
   exact h2
theorem aWb (E:Int)(hE:0 < E):∃e:Rat,0 < e/\(E:Rat)<=e*e/\e*e<=(E:Rat)*(1+1 / 1000000):=by
 obtain⟨k,h1,h2⟩:=isq (toNat E*100000000000000) 1 (by decide)
 have hk:(k:Int)*k<=E*100000000000000:=by
   have:=Int.ofNat_le.mpr h1
   rw [Int.natCast_mul,Int.natCast_mul,Int.natCast_mul,Int.toNat_of_nonneg (by omega)] at this
   have e1:((1:Nat):Int)=1:=rfl
   have e2:((100000000000000:Nat):Int)=100000000000000:=rfl
   rw [e1,e2] at this
   omega
 have hk2:E*100000000000000<=((k:Int)+1)*((k:Int)+1):=by
   have:=Int.ofNat_lt.mpr h2
   rw [Int.natCast_mul,Int.natCast_mul,Int.natCast_mul,Int.toNat_of_nonneg (by omega)] at this
   have e1:((1:Nat):Int)=1:=rfl
   have e2:((100000000000000:Nat):Int)=100000000000000:=rfl
   have e3:((k+1:Nat):Int)=(k:Int)+1:=by omega
   rw [e1,e2,e3] at this
   omega
 have hkE:(k:Int)<=10000000*E:=by
   rcases Int.le_total (k:Int) (10000000*E) with c | c
   · exact c
   · rcases Int.lt_or_le (10000000*E) (k:Int) with d | d
     · have a1:=Int.mul_self_lt_mul_self (a:=10000000*E) (b:=(k:Int)) (by omega) d
       have a2:10000000*E*(10000000*E)=100000000000000*(E*E):=by grind
       have a3:E*1<=E*E:=Int.mul_le_mul_of_nonneg_left (by omega) (by omega)
       omega
     · exact d
 have r1:=rcast_le hk
 have r2:=rcast_le hk2
 have r3:=rcast_le hkE
 have rE:=rcast_le (show 1<=E by omega)
 simp only [Rat.intCast_mul,Rat.intCast_add] at r1 r2 r3
 have c1:((100000000000000:Int):Rat)=100000000000000:=rfl
 have c2:((10000000:Int):Rat)=10000000:=rfl
 have c3:((1:Int):Rat)=1:=rfl
 rw [c1] at r1
 rw [c1,c3] at r2
 rw [c2] at r3
 rw [c3] at rE
 have k0:(0:Rat)<=((k:Int):Rat):=rcast_le (a:=0) (by omega)
 generalize ((k:Int):Rat)=x at *
 generalize ((E:Int):Rat)=y at *
 refine⟨(x+1) / 10000000,by grind,?_,?_⟩
 · have:(x+1) / 10000000*((x+1) / 10000000)=(x+1)*(x+1) / 100000000000000:=by grind
   rw [this];grind
 · have:(x+1) / 10000000*((x+1) / 10000000)=(x*x+2*x+1) / 100000000000000:=by grind
   rw [this];grind
theorem lagrC (v u:V3):nsq u*nsq v=dt v u*dt v u+nsq (cr v u):=by
 simp only [nsq,dt,cr];grind
theorem lagr' (v u:V3):dt v u*dt v u<=nsq u*nsq v:=by
 have:=lagrC v u
 have:=nsq_nonneg (cr v u)
 omega
theorem aTp {A u w x:V3} {r M k:Nat} (hr:(r:Int)*r<=nsq (cr u w))(hr0:0 < r):∃c0 x0:Rat,∀i j:Nat,nsq (vs x (pt A u w M i j))<=(k:Int)*k ->
   (((nsq u:Int):Rat)*((i:Int):Rat)+((dt u w:Int):Rat)*((j:Int):Rat) - c0)*(((nsq u:Int):Rat)*((i:Int):Rat)+((dt u w:Int):Rat)*((j:Int):Rat) - c0)+((r:Int):Rat)*(((j:Int):Rat) - x0)*(((r:Int):Rat)*(((j:Int):Rat) - x0))<=((nsq u:Int):Rat)*(((k:Int):Rat)*((k:Int):Rat)):=by
 generalize hb:vs x (pt A u w M 0 0)=b
 have al0:0 < nsq (cr u w):=by
   have:(0:Int) < (r:Int)*r:=Int.mul_pos (by omega) (by omega)
   omega
 have hE0:=nsq_nonneg u
 refine⟨((dt b u:Int):Rat),-((dt (cr b u) (cr u w):Int):Rat) / ((nsq (cr u w):Int):Rat),fun i j hv=>?_⟩
 have ev:vs x (pt A u w M i j)=(b.1 - i*u.1 - j*w.1,b.2.1 - i*u.2.1 - j*w.2.1,b.2.2 - i*u.2.2 - j*w.2.2):=by
   rw [←hb]
   simp only [vs,pt,Prod.mk.injEq]
   refine⟨?_,?_,?_⟩<;>grind
 generalize hvv:vs x (pt A u w M i j)=v at *
 have d1:dt v u=dt b u - nsq u*i - dt u w*j:=by
   rw [ev];simp only [dt,nsq];grind
 have d2:dt (cr v u) (cr u w)=dt (cr b u) (cr u w)+j*nsq (cr u w):=by
   rw [ev];simp only [dt,nsq,cr];grind
 have l1:=lagrC v u
 have l2:=lagr' (cr v u) (cr u w)
 have al:=rcast_pos al0
 -- everything as rational numbers
 have R1:((nsq u:Int):Rat)*((nsq v:Int):Rat)=((dt v u:Int):Rat)*((dt v u:Int):Rat)+((nsq (cr v u):Int):Rat):=by
   rw [←rcast_mul,←rcast_mul,←rcast_add,l1]
 have R2:((dt (cr v u) (cr u w):Int):Rat)*((dt (cr v u) (cr u w):Int):Rat)<=((nsq (cr u w):Int):Rat)*((nsq (cr v u):Int):Rat):=by
   rw [←rcast_mul,←rcast_mul];exact rcast_le l2
 have R3:((dt v u:Int):Rat)=((dt b u:Int):Rat) - ((nsq u:Int):Rat)*((i:Int):Rat) - ((dt u w:Int):Rat)*((j:Int):Rat):=by
   rw [d1];simp only [Rat.intCast_sub,Rat.intCast_mul]
 have R4:((dt (cr v u) (cr u w):Int):Rat)=((dt (cr b u) (cr u w):Int):Rat)+((j:Int):Rat)*((nsq (cr u w):Int):Rat):=by
   rw [d2];simp only [Rat.intCast_add,Rat.intCast_mul]
 have R5:((r:Int):Rat)*((r:Int):Rat)<=((nsq (cr u w):Int):Rat):=by
   rw [←rcast_mul];exact rcast_le hr
 have R6:((nsq v:Int):Rat)<=((k:Int):Rat)*((k:Int):Rat):=by
   rw [←rcast_mul];exact rcast_le hv
 have R7:(0:Rat)<=((nsq u:Int):Rat):=rcast_le (a:=0) hE0
 clear hv hr al0 hE0 d1 d2 l1 l2 ev hb hvv
 generalize ((nsq u:Int):Rat)=e at *
 generalize ((nsq v:Int):Rat)=nv at *
 generalize ((dt v u:Int):Rat)=dv at *
 generalize ((nsq (cr v u):Int):Rat)=nc at *
 generalize ((dt (cr v u) (cr u w):Int):Rat)=dc at *
 generalize ((nsq (cr u w):Int):Rat)=a at *
 generalize ((dt b u:Int):Rat)=db at *
 generalize ((dt (cr b u) (cr u w):Int):Rat)=dbc at *
 generalize ((dt u w:Int):Rat)=duw at *
 generalize ((i:Int):Rat)=I at *
 generalize ((j:Int):Rat)=J at *
 generalize ((r:Int):Rat)=R at *
 generalize ((k:Int):Rat)=k at *
 have ia:=odm al
 have ia0:=inv_nn (Rat.le_of_lt al)
 rw [sL (-dbc) a]
 generalize 1 / a=t at *
 have s1:J - -dbc*t=dc*t:=by
   rw [R4]
   have:(dbc+J*a)*t=dbc*t+J*(t*a):=by grind
   rw [this,ia];grind
 rw [s1]
 have s2:R*(dc*t)*(R*(dc*t))<=nc:=by
   have a1:R*(dc*t)*(R*(dc*t))=(R*R)*((dc*t)*(dc*t)):=by grind
   have a2:=rmul_le R5 (sq_nonneg (dc*t))
   have a3:a*((dc*t)*(dc*t))=(dc*dc)*(t*(t*a)):=by grind
   rw [ia] at a3
   have a4:=rmul_le R2 ia0
   have a5:a*nc*t=nc*(t*a):=by grind
   rw [ia] at a5
   grind
 have s3:(e*I+duw*J - db)*(e*I+duw*J - db)=dv*dv:=by rw [R3];grind
 rw [s3]
 have:=rmul_le' R6 R7
 grind
theorem aTq {A u w:V3} {r:Nat} (hu:0 < nsq u)(hr:(r:Int)*r<=nsq (cr u w))(hr0:0 < r):∃C:Rat,0<=C/\∀(x:V3)(M k:Nat),0 < k ->
   sm M (fun j=>sm (M - j) (fun i=>ind (nsq (vs x (pt A u w M i j))<=(k:Int)*k)))<=3217 / 1024*(1 / ((r:Int):Rat))*(((k:Int):Rat)*((k:Int):Rat))+C*((k:Int):Rat):=by
 obtain⟨e,he,he1,he2⟩:=aWb (nsq u) hu
 have hR:=rcast_pos (a:=(r:Int)) (by omega)
 have hE:=rcast_pos hu
 have iR:=odm hR
 have iR0:=inv_nn (Rat.le_of_lt hR)
 have iE:=odm hE
 have iE0:=inv_nn (Rat.le_of_lt hE)
 refine⟨2*e*(1 / ((r:Int):Rat))+6*e*(1 / ((nsq u:Int):Rat))+1,?_,fun x M k hk=>?_⟩
 · have a1:=Rat.mul_nonneg (show 0<=2*e by grind) iR0
   have a2:=Rat.mul_nonneg (show 0<=6*e by grind) iE0
   grind
 obtain⟨c0,x0,hc⟩:=aTp (A:=A) (u:=u) (w:=w) (x:=x) (r:=r) (M:=M) (k:=k) hr hr0
 have hk1:(1:Rat)<=((k:Int):Rat):=rcast_le (a:=1) (by omega)
 generalize hE':((nsq u:Int):Rat)=E at *
 generalize hR':((r:Int):Rat)=R at *
 generalize hK':((k:Int):Rat)=q at *
 have hek:0 < e*q:=Rat.mul_pos he (by grind)
 have iq:=odm hek
 have iq0:=inv_nn (Rat.le_of_lt hek)
 have hd:0 < R*(1 / (e*q)):=Rat.mul_pos hR (by rw [Rat.div_def];have:=Rat.inv_pos.mpr hek;grind)
 have main:=aTo (d:=R*(1 / (e*q))) (x0:=x0) (k:=2*(e*q)*(1 / E)) hd (Rat.mul_nonneg (by grind) iE0) (M:=M) (cnt:=fun j=>sm (M - j) (fun i=>ind (nsq (vs x (pt A u w M i j))<=(k:Int)*k))) (fun j hj=>by
   rcases aHm (fun i=>nsq (vs x (pt A u w M i j))<=(k:Int)*k) (M - j) with⟨h0,_⟩ | ⟨a,b,h1,h2,h3,h4,h5⟩
   · left;rw [h0];exact Rat.le_refl
   · right
     have ca:=hc a j h3
     have cb:=hc b j h4
     have hab:((a:Int):Rat)<=((b:Int):Rat):=rcast_le (by omega)
     refine⟨E*(((b:Int):Rat) - ((a:Int):Rat)) / 2*(1 / (e*q)),?_,?_,?_⟩
     · have:=Rat.mul_nonneg (Rat.mul_nonneg (Rat.le_of_lt hE) (show 0<=((b:Int):Rat) - ((a:Int):Rat) by grind)) iq0
       grind
     · refine Rat.le_trans h5 (lP ?_)
       have:2*(e*q)*(1 / E)*(E*(((b:Int):Rat) - ((a:Int):Rat)) / 2*(1 / (e*q)))=(1 / E*E)*(1 / (e*q)*(e*q))*(((b:Int):Rat) - ((a:Int):Rat)):=by grind
       rw [this,iE,iq];grind
     · generalize ((a:Int):Rat)=a at *
       generalize ((b:Int):Rat)=b at *
       generalize ((j:Int):Rat)=J at *
       generalize ((dt u w:Int):Rat)=F at *
       have s0:=sq_nonneg ((E*a+F*J - c0)+(E*b+F*J - c0))
       have s1:(E*(b - a) / 2)*(E*(b - a) / 2)+(R*(J - x0))*(R*(J - x0))<=(e*q)*(e*q):=by
         have t1:(E*(b - a))*(E*(b - a))<=2*((E*a+F*J - c0)*(E*a+F*J - c0))+2*((E*b+F*J - c0)*(E*b+F*J - c0)):=by grind
         have t2:E*(q*q)<=(e*q)*(e*q):=by
           have:=rmul_le he1 (sq_nonneg q)
           grind
         generalize (E*a+F*J - c0)*(E*a+F*J - c0)=X at *
         generalize (E*b+F*J - c0)*(E*b+F*J - c0)=Y at *
         grind
       have s2:=rmul_le s1 (c:=(1 / (e*q))*(1 / (e*q))) (sq_nonneg _)
       have s3:(e*q)*(e*q)*((1 / (e*q))*(1 / (e*q)))=(1 / (e*q)*(e*q))*(1 / (e*q)*(e*q)):=by grind
       rw [s3,iq] at s2
       grind)
 refine Rat.le_trans main ?_
 have id:1 / (R*(1 / (e*q)))=(e*q)*(1 / R):=aDd hd (by
   have:e*q*(1 / R)*(R*(1 / (e*q)))=(1 / R*R)*(1 / (e*q)*(e*q)):=by grind
   rw [this,iR,iq];grind)
 rw [id]
 have key:2*(e*q)*(1 / E)*((e*q)*(1 / R)*(2*(7853994 / 10000000)))<=3217 / 1024*(1 / R)*(q*q):=by
   have a1:e*e*(1 / E)<=1+1 / 1000000:=by
     have:=rmul_le he2 iE0
     have a2:E*(1+1 / 1000000)*(1 / E)=(1 / E*E)*(1+1 / 1000000):=by grind
     rw [a2,iE] at this
     grind
   have a2:=rmul_le a1 (c:=4*(7853994 / 10000000)*((1 / R)*(q*q))) (Rat.mul_nonneg (by decide +kernel) (Rat.mul_nonneg iR0 (sq_nonneg q)))
   have a3:(4:Rat)*(7853994 / 10000000)*(1+1 / 1000000)<=3217 / 1024:=by decide +kernel
   have a4:=rmul_le a3 (c:=(1 / R)*(q*q)) (Rat.mul_nonneg iR0 (sq_nonneg q))
   generalize 1 / R=t at *
   generalize 1 / E=s at *
   grind
 have k2:q<=q*q:=by
   have:=rmul_le' hk1 (show 0<=q by grind)
   grind
 generalize 1 / R=t at *
 generalize 1 / E=s at *
 grind
theorem jY (n:Nat):((n+1:Nat):Rat)=(n:Rat)+1:=rcast_add (n:Int) 1
theorem uG (n:Nat):(0:Rat)<=(n:Rat):=rcast_le (a:=0) (b:=(n:Int)) (by omega)
theorem aXd {K:V3->Rat} {e:Rat} (h1:∀p,K p<=1 / 4)(h2:∀p,K p*K p*((nsq p+16:Int):Rat)<=1)(p:V3):∀s:Nat,K p<=1 / ((s:Rat)+1)+sm s (fun l=>1 / ((l:Rat)+1)*(1 / ((l:Rat)+1+1))*ind (nsq p<=((l+2:Nat):Int)*(l+2:Nat)))
 | 0=>by
   simp only [sm]
   have:=h1 p
   have e:1 / (((0:Nat):Rat)+1)=1:=by decide +kernel
   rw [e];grind
 | s+1=>by
   rw [sm]
   have ih:=aXd h1 h2 p s (e:=e)
   have s0:=uG s
   have i1:=odm (r:=(s:Rat)+1) (by grind)
   have i2:=odm (r:=(s:Rat)+1+1) (by grind)
   have j1:=inv_nn (a:=(s:Rat)+1) (by grind)
   have j2:=inv_nn (a:=(s:Rat)+1+1) (by grind)
   have cs:((s+1:Nat):Rat)=(s:Rat)+1:=jY s
   rw [cs]
   have split:1 / ((s:Rat)+1)=1 / ((s:Rat)+1+1)+1 / ((s:Rat)+1)*(1 / ((s:Rat)+1+1)):=by
     generalize 1 / ((s:Rat)+1)=a at *
     generalize 1 / ((s:Rat)+1+1)=b at *
     have:a=a*(b*((s:Rat)+1+1)):=by rw [i2];grind
     have t2:a*(b*((s:Rat)+1+1))=b*(a*((s:Rat)+1))+a*b:=by grind
     rw [this,t2,i1];grind
   have snn:0<=sm s (fun l=>1 / ((l:Rat)+1)*(1 / ((l:Rat)+1+1))*ind (nsq p<=((l+2:Nat):Int)*(l+2:Nat))):=rZ (fun l _=>by
     have l0:=uG l
     exact Rat.mul_nonneg (Rat.mul_nonneg (inv_nn (by grind)) (inv_nn (by grind))) (aHl _))
   by_cases c:nsq p<=((s+2:Nat):Int)*(s+2:Nat)
   · rw [aDe c]
     grind
   · rw [aJa c]
     have k1:K p<=1 / ((s:Rat)+1+1):=by
       have a1:=h2 p
       have a2:((s:Rat)+1+1)*((s:Rat)+1+1)<=((nsq p+16:Int):Rat):=by
         have b1:=rcast_le (show((s+2:Nat):Int)*(s+2:Nat)<=nsq p+16 by omega)
         rw [rcast_mul] at b1
         have b2:(((s+2:Nat):Int):Rat)=(s:Rat)+1+1:=by
           have:=jY (s+1)
           rw [cs] at this
           exact this
         rw [b2] at b1
         exact b1
       have a3:=rmul_le' a2 (sq_nonneg (K p))
       have a4:K p*((s:Rat)+1+1)<=1:=dI (by decide) (by grind)
       have a5:=rmul_le a4 j2
       have a6:K p*((s:Rat)+1+1)*(1 / ((s:Rat)+1+1))=K p*(1 / ((s:Rat)+1+1)*((s:Rat)+1+1)):=by grind
       rw [a6,i2] at a5
       grind
     have:=Rat.mul_nonneg j1 j2
     grind
theorem bF3 (a:Nat)(ha:0 < a):∀s:Nat,sm s (fun l=>1 / ((l:Rat)+1))<=(a:Rat)+(s:Rat)*(1 / (a:Rat)):=by
 have a1:(1:Rat)<=(a:Rat):=rcast_le (a:=1) (b:=(a:Int)) (by omega)
 have ja:=inv_nn (a:=(a:Rat)) (by grind)
 have key:∀s:Nat,sm s (fun l=>1 / ((l:Rat)+1))<=(if s<=a then(s:Rat) else(a:Rat))+(s:Rat)*(1 / (a:Rat)):=by
   intro s
   induction s with
   | zero =>
     simp only [sm]
     have e:((0:Nat):Rat)=0:=rfl
     rw [if_pos (Nat.zero_le _),e];grind
   | succ s ih =>
     rw [sm]
     have s0:=uG s
     have t0:=inv_nn (a:=(s:Rat)+1) (by grind)
     have t1:=odm (r:=(s:Rat)+1) (by grind)
     by_cases c:s+1<=a
     · rw [if_pos c,jY]
       rw [if_pos (by omega)] at ih
       have t2:1 / ((s:Rat)+1)<=1:=by
         have:=rmul_le' (show(1:Rat)<=(s:Rat)+1 by grind) t0
         rw [t1] at this;grind
       grind
     · rw [if_neg c,jY]
       have t3:(a:Rat)<=(s:Rat):=rcast_le (a:=(a:Int)) (b:=(s:Int)) (by omega)
       have t2:1 / ((s:Rat)+1)<=1 / (a:Rat):=by
         have u1:=odm (r:=(a:Rat)) (by grind)
         have u2:=rmul_le' (show(a:Rat)<=(s:Rat)+1 by grind) (Rat.mul_nonneg ja t0)
         have u3:1 / (a:Rat)*(1 / ((s:Rat)+1))*(a:Rat)=(1 / (a:Rat)*(a:Rat))*(1 / ((s:Rat)+1)):=by grind
         have u4:1 / (a:Rat)*(1 / ((s:Rat)+1))*((s:Rat)+1)=(1 / ((s:Rat)+1)*((s:Rat)+1))*(1 / (a:Rat)):=by grind
         rw [u3,u4,u1,t1] at u2
         grind
       by_cases d:s<=a
       · rw [if_pos d] at ih
         have:s=a:=by omega
         subst this
         grind
       · rw [if_neg d] at ih
         grind
 intro s
 refine Rat.le_trans (key s) ?_
 split
 · have:(s:Rat)<=(a:Rat):=rcast_le (a:=(s:Int)) (b:=(a:Int)) (by omega)
   grind
 · exact Rat.le_refl
def ns (M:Nat):Rat:=sm M (fun j=>sm (M - j) (fun _=>1))
theorem aTr (M:Nat):2*ns M=(M:Rat)*((M:Rat)+1):=by
 have key:∀M:Nat,sm M (fun j=>(M:Rat) - (j:Rat))*2=(M:Rat)*((M:Rat)+1):=by
   intro M
   induction M with
   | zero=>simp only [sm];decide +kernel
   | succ M ih =>
     rw [aC8]
     have e:sm M (fun i=>((M+1:Nat):Rat) - ((i+1:Nat):Rat))=sm M (fun j=>(M:Rat) - (j:Rat)):=bX (fun i _=>by rw [jY,jY];grind)
     rw [e,jY]
     have z:((0:Nat):Rat)=0:=rfl
     rw [z];grind
 have:ns M=sm M (fun j=>(M:Rat) - (j:Rat)):=by
   unfold ns
   refine bX (fun j hj=>?_)
   rw [aC7]
   have:((M - j:Nat):Rat)=(M:Rat) - (j:Rat):=by
     have h:=Rat.intCast_sub (M:Int) (j:Int)
     have e:((M - j:Nat):Int)=(M:Int) - (j:Int):=by omega
     rw [←e] at h
     exact h
   rw [this];grind
 rw [this,←key M];grind
def jJ (K:V3->Rat)(x A u w:V3)(M:Nat):Rat:=sm M (fun j=>sm (M - j) (fun i=>K (vs x (pt A u w M i j))))
theorem rim {A u w:V3} {r:Nat} {h:Rat} (hu:0 < nsq u)(hr:(r:Int)*r<=nsq (cr u w))(hr0:0 < r)(hh:0 < h)(hhr:3217<=128*((r:Int):Rat)*(h*h)) :
   ∃C:Rat,0<=C/\∀(K:V3->Rat),(∀p,K p<=1 / 4)->(∀p,K p*K p*((nsq p+16:Int):Rat)<=1)->∀(x:V3) (n:Nat),0 < n ->
     jJ K x A u w (n*n*n*n)*(((n*n*n*n:Nat):Rat))<=ns (n*n*n*n)*(h+C*(1 / (n:Rat))):=by
 obtain⟨C,hC,hcnt⟩:=aTq (A:=A) hu hr hr0
 have hR:=rcast_pos (a:=(r:Int)) (by omega)
 have iR:=odm hR
 have iR0:=inv_nn (Rat.le_of_lt hR)
 have ih:=odm hh
 have ih0:=inv_nn (Rat.le_of_lt hh)
 generalize hP:3217 / 1024*(1 / ((r:Int):Rat))=P at *
 have hP0:0 < P:=by
   rw [←hP]
   refine Rat.mul_pos (by decide +kernel) ?_
   rw [Rat.div_def];have:=Rat.inv_pos.mpr hR;grind
 have h8:8*P<=h*h:=by
   have a1:=rmul_le hhr iR0
   have a2:128*((r:Int):Rat)*(h*h)*(1 / ((r:Int):Rat))=128*(1 / ((r:Int):Rat)*((r:Int):Rat))*(h*h):=by grind
   rw [a2,iR] at a1
   rw [←hP];grind
 have iP:=odm hP0
 have iP0:=inv_nn (Rat.le_of_lt hP0)
 -- sigma = h / (4 P)
 have hsig:0 < h*(1 / P) / 4:=by
   have:0 < h*(1 / P):=Rat.mul_pos hh (by rw [Rat.div_def];have:=Rat.inv_pos.mpr hP0;grind)
   grind
 generalize hs:h*(1 / P) / 4=sg at *
 have hPs:4*(P*sg)=h:=by
   rw [←hs]
   have:4*(P*(h*(1 / P) / 4))=(1 / P*P)*h:=by grind
   rw [this,iP];grind
 refine⟨2*(P+C)*(1+sg),?_,fun K k1 k2 x n hn=>?_⟩
 · have:=Rat.mul_nonneg (show 0<=2*(P+C) by grind) (show 0<=1+sg by grind)
   exact this
 generalize hM:n*n*n*n=M
 have n1:(1:Rat)<=(n:Rat):=rcast_le (a:=1) (b:=(n:Int)) (by omega)
 have inn:=odm (r:=(n:Rat)) (by grind)
 have inn0:=inv_nn (a:=(n:Rat)) (by grind)
 have hMr:(M:Rat)=(n:Rat)*(n:Rat)*(n:Rat)*(n:Rat):=by
   rw [←hM]
   have:((n*n*n*n:Nat):Int)=(n:Int)*n*n*n:=by simp
   have h2:(((n*n*n*n:Nat):Int):Rat)=((n:Int):Rat)*((n:Int):Rat)*((n:Int):Rat)*((n:Int):Rat):=by
     rw [this,rcast_mul,rcast_mul,rcast_mul]
   exact h2
 have n3:1<=(n:Rat)*(n:Rat)*(n:Rat):=by
   have a1:=rmul_le n1 (show(0:Rat)<=(n:Rat) by grind)
   have a2:=rmul_le (show 1<=(n:Rat)*(n:Rat) by grind) (show(0:Rat)<=(n:Rat) by grind)
   grind
 have M1:1<=(M:Rat):=by
   rw [hMr]
   have:=rmul_le n3 (show(0:Rat)<=(n:Rat) by grind)
   grind
 have hMs:0<=(M:Rat)*sg:=Rat.mul_nonneg (by grind) (Rat.le_of_lt hsig)
 obtain⟨s,hs1,hs2⟩:=fl ((M:Rat)*sg) hMs
 have s0:=uG s
 -- the layers
 have b1:jJ K x A u w M<=ns M*(1 / ((s:Rat)+1))+sm s (fun l=>1 / ((l:Rat)+1)*(1 / ((l:Rat)+1+1))*sm M (fun j=>sm (M - j) (fun i=>ind (nsq (vs x (pt A u w M i j))<=((l+2:Nat):Int)*(l+2:Nat))))):=by
   have e1:ns M*(1 / ((s:Rat)+1))=sm M (fun j=>sm (M - j) (fun _=>1 / ((s:Rat)+1))):=by
     unfold ns
     have:ns M*(1 / ((s:Rat)+1))=(1 / ((s:Rat)+1))*ns M:=by grind
     unfold ns at this
     rw [this,←dO]
     refine bX (fun j _=>?_)
     rw [←dO]
     exact bX (fun i _=>by grind)
   have e2:sm s (fun l=>1 / ((l:Rat)+1)*(1 / ((l:Rat)+1+1))*sm M (fun j=>sm (M - j) (fun i=>ind (nsq (vs x (pt A u w M i j))<=((l+2:Nat):Int)*(l+2:Nat)))))=sm M (fun j=>sm (M - j) (fun i=>sm s (fun l=>1 / ((l:Rat)+1)*(1 / ((l:Rat)+1+1))*ind (nsq (vs x (pt A u w M i j))<=((l+2:Nat):Int)*(l+2:Nat))))):=by
     have:∀l:Nat,1 / ((l:Rat)+1)*(1 / ((l:Rat)+1+1))*sm M (fun j=>sm (M - j) (fun i=>ind (nsq (vs x (pt A u w M i j))<=((l+2:Nat):Int)*(l+2:Nat))))=sm M (fun j=>sm (M - j) (fun i=>1 / ((l:Rat)+1)*(1 / ((l:Rat)+1+1))*ind (nsq (vs x (pt A u w M i j))<=((l+2:Nat):Int)*(l+2:Nat)))):=by
       intro l
       rw [←dO]
       refine bX (fun j _=>?_)
       rw [←dO]
     rw [bX (fun l _=>this l),aHd]
     refine bX (fun j _=>?_)
     rw [aHd]
   rw [e1,e2,←nI]
   unfold jJ
   refine oE (fun j _=>?_)
   rw [←nI]
   exact oE (fun i _=>aXd (e:=0) k1 k2 _ s)
 have b2:sm s (fun l=>1 / ((l:Rat)+1)*(1 / ((l:Rat)+1+1))*sm M (fun j=>sm (M - j) (fun i=>ind (nsq (vs x (pt A u w M i j))<=((l+2:Nat):Int)*(l+2:Nat)))))<=sm s (fun l=>P+(P+C)*(1 / ((l:Rat)+1))):=by
   refine oE (fun l _=>?_)
   have l0:=uG l
   have c1:=hcnt x M (l+2) (by omega)
   have cl:(((l+2:Nat):Int):Rat)=(l:Rat)+1+1:=by
     have h1:=jY (l+1)
     have h2:=jY l
     rw [h2] at h1
     exact h1
   rw [cl] at c1
   have i1:=odm (r:=(l:Rat)+1) (by grind)
   have i2:=odm (r:=(l:Rat)+1+1) (by grind)
   have j1:=inv_nn (a:=(l:Rat)+1) (by grind)
   have j2:=inv_nn (a:=(l:Rat)+1+1) (by grind)
   have c2:=rmul_le' c1 (Rat.mul_nonneg j1 j2)
   refine Rat.le_trans c2 (lP ?_)
   generalize 1 / ((l:Rat)+1)=a at *
   generalize 1 / ((l:Rat)+1+1)=b at *
   have e1:a*b*(P*(((l:Rat)+1+1)*((l:Rat)+1+1))+C*((l:Rat)+1+1))=(b*((l:Rat)+1+1))*(P*(a*((l:Rat)+1)+a)+C*a):=by grind
   rw [e1,i2,i1];grind
 have b3:sm s (fun l=>P+(P+C)*(1 / ((l:Rat)+1)))=P*(s:Rat)+(P+C)*sm s (fun l=>1 / ((l:Rat)+1)):=by
   rw [nI,aC7,dO];grind
 have b4:=bF3 n hn s
 have b5:=rmul_le' b4 (show 0<=P+C by grind)
 have N2:=aTr M
 have iS:1 / ((s:Rat)+1)*((M:Rat)*sg)<=1:=by
   have i1:=odm (r:=(s:Rat)+1) (by grind)
   have j1:=inv_nn (a:=(s:Rat)+1) (by grind)
   have:=rmul_le' (Rat.le_of_lt hs2) j1
   rw [i1] at this
   exact this
 have N0:0<=ns M:=by
   have:=Rat.mul_nonneg (show(0:Rat)<=(M:Rat) by grind) (show(0:Rat)<=(M:Rat)+1 by grind)
   grind
 have S0:=inv_nn (a:=(s:Rat)+1) (by grind)
 -- everything times M
 have all:jJ K x A u w M<=ns M*(1 / ((s:Rat)+1))+(P*(s:Rat)+(P+C)*((n:Rat)+(s:Rat)*(1 / (n:Rat)))):=by
   rw [b3] at b2
   generalize sm s (fun l=>1 / ((l:Rat)+1))=H at *
   grind
 have t1:ns M*(1 / ((s:Rat)+1))*(M:Rat)<=ns M*(h / 2):=by
   -- (1/(s+1)) M sg <= 1 and 1/sg = 4P/h <= h/2
   have u1:1 / ((s:Rat)+1)*(M:Rat)<=h / 2:=by
     have v1:8*(P*sg)*1<=h*h*sg:=by
       have:=rmul_le h8 (Rat.le_of_lt hsig)
       grind
     have v2:2*h<=h*h*sg:=by rw [←hPs] at v1 ⊢;grind
     have v3:2<=h*sg:=by
       have:=rmul_le v2 ih0
       have e1:2*h*(1 / h)=2*(1 / h*h):=by grind
       have e2:h*h*sg*(1 / h)=(1 / h*h)*(h*sg):=by grind
       rw [e1,e2,ih] at this
       grind
     have v4:=rmul_le' iS (Rat.le_of_lt hh)
     have v5:=rmul_le' v3 (Rat.mul_nonneg S0 (show(0:Rat)<=(M:Rat) by grind))
     grind
   have:=rmul_le' u1 N0
   grind
 have t2:P*(s:Rat)*(M:Rat)<=ns M*(h / 2):=by
   have u1:=rmul_le' hs1 (Rat.le_of_lt hP0)
   have u2:=rmul_le u1 (show(0:Rat)<=(M:Rat) by grind)
   have u3:P*((M:Rat)*sg)*(M:Rat)=h / 4*((M:Rat)*(M:Rat)):=by rw [←hPs];grind
   have u4:(M:Rat)*(M:Rat)<=2*ns M:=by rw [N2];grind
   have u5:=rmul_le' u4 (show 0<=h / 4 by grind)
   grind
 have t3:(P+C)*((n:Rat)+(s:Rat)*(1 / (n:Rat)))*(M:Rat)<=ns M*(2*(P+C)*(1+sg)*(1 / (n:Rat))):=by
   have u1:(s:Rat)*(1 / (n:Rat))<=(n:Rat)*(n:Rat)*(n:Rat)*sg:=by
     have:=rmul_le hs1 inn0
     have e1:(M:Rat)*sg*(1 / (n:Rat))=(n:Rat)*(n:Rat)*(n:Rat)*sg*(1 / (n:Rat)*(n:Rat)):=by rw [hMr];grind
     rw [e1,inn] at this
     grind
   have u2:(n:Rat)+(s:Rat)*(1 / (n:Rat))<=(n:Rat)*(n:Rat)*(n:Rat)*(1+sg):=by
     have a1:(n:Rat)<=(n:Rat)*(n:Rat)*(n:Rat):=by
       have a2:=rmul_le' n1 (show(0:Rat)<=(n:Rat) by grind)
       have a3:=rmul_le' n1 (show(0:Rat)<=(n:Rat)*(n:Rat) by grind)
       grind
     grind
   have u3:=rmul_le' u2 (show 0<=P+C by grind)
   have u4:=rmul_le u3 (show(0:Rat)<=(M:Rat) by grind)
   have u5:(n:Rat)*(n:Rat)*(n:Rat)=(M:Rat)*(1 / (n:Rat)):=by
     have:(M:Rat)*(1 / (n:Rat))=(n:Rat)*(n:Rat)*(n:Rat)*(1 / (n:Rat)*(n:Rat)):=by rw [hMr];grind
     rw [this,inn];grind
   rw [u5] at u4
   have u6:(M:Rat)*(M:Rat)<=2*ns M:=by rw [N2];grind
   have u7:=rmul_le' u6 (c:=(P+C)*(1+sg)*(1 / (n:Rat))) (Rat.mul_nonneg (Rat.mul_nonneg (by grind) (by grind)) inn0)
   grind
 have fin:=rmul_le all (show(0:Rat)<=(M:Rat) by grind)
 grind
structure Tri where
 A:V3
 B:V3
 C:V3
 q:Rat
 o:(V3×V3×V3)×Int
def lF (t:Tri)(M i j:Nat):V3:=pt t.A (vs t.B t.A) (vs t.C t.A) M i j
def smp (M:Nat)(t:Tri):List WP:=(List.range M).flatMap fun j=>(List.range (M - j)).map fun i=>(t.q,lF t M i j)
theorem aJc (n:Nat)(f:Nat->Rat):ls (List.range n) f=sm n f:=by
 induction n with
 | zero=>rfl
 | succ n ih=>rw [List.range_succ,aTb,ih,sm];simp only [ls];grind
theorem aL2 (M:Nat)(t:Tri)(f:WP->Rat):ls (smp M t) f=sm M (fun j=>sm (M - j) (fun i=>f (t.q,lF t M i j))):=by
 unfold smp
 rw [ls_flat,aJc]
 refine bX (fun j _=>?_)
 rw [ls_map,aJc]
def oF (M:Nat)(X:List Tri):List WP:=X.flatMap (smp M)
def tot (X:List Tri):Rat:=ls X (fun t=>t.q)
theorem aE3 (M:Nat)(X:List Tri):dP (oF M X)=tot X*ns M:=by
 unfold dP oF tot
 rw [ls_flat]
 have:ls X (fun t=>ls (smp M t) (fun a=>a.1))=ls X (fun t=>ns M*t.q):=by
   refine ls_congr (fun t _=>?_)
   rw [aL2]
   unfold ns
   have:t.q*sm M (fun j=>sm (M - j) (fun _=>1))=sm M (fun j=>sm (M - j) (fun _=>1))*t.q:=by grind
   rw [←this,←dO]
   refine bX (fun j _=>?_)
   rw [←dO]
   exact bX (fun i _=>by grind)
 rw [this,ls_mul];grind
theorem aJd (K:V3->Rat)(M:Nat)(X:List Tri)(z:V3):fG K (oF M X) z=ls X (fun t=>t.q*jJ K z t.A (vs t.B t.A) (vs t.C t.A) M):=by
 unfold fG oF
 rw [ls_flat]
 refine ls_congr (fun t _=>?_)
 rw [aL2]
 unfold jJ
 rw [←dO]
 refine bX (fun j _=>?_)
 rw [←dO]
 rfl
theorem aDf {M:Nat} {X:List Tri} {a:WP} (h:a∈oF M X):∃t,t∈X/\∃i j:Nat,i+j < M/\a=(t.q,lF t M i j):=by
 obtain⟨t,ht,h⟩:=List.mem_flatMap.1 h
 obtain⟨j,hj,h⟩:=List.mem_flatMap.1 h
 obtain⟨i,hi,rfl⟩:=List.mem_map.1 h
 have:=List.mem_range.1 hj
 have:=List.mem_range.1 hi
 exact⟨t,ht,i,j,by omega,rfl⟩
theorem aDg (t:Tri) {M i j:Nat} (h:i+j < M):lF t M i j=(((M - i - j:Nat):Int)*t.A.1+i*t.B.1+j*t.C.1,((M - i - j:Nat):Int)*t.A.2.1+i*t.B.2.1+j*t.C.2.1,((M - i - j:Nat):Int)*t.A.2.2+i*t.B.2.2+j*t.C.2.2):=by
 have e:((M - i - j:Nat):Int)=(M:Int) - i - j:=by omega
 rw [e]
 simp only [lF,pt,vs,Prod.mk.injEq]
 refine⟨?_,?_,?_⟩<;>grind
theorem aDh {a b c x y z G:Int} (ha:0<=a)(hb:0<=b)(hc:0<=c)(hx:x<=G)(hy:y<=G)(hz:z<=G):a*x+b*y+c*z<=(a+b+c)*G:=by
 have h1:=Int.mul_le_mul_of_nonneg_left hx ha
 have h2:=Int.mul_le_mul_of_nonneg_left hy hb
 have h3:=Int.mul_le_mul_of_nonneg_left hz hc
 grind
theorem aJe {a b c x y z G:Int} (ha:0<=a)(hb:0<=b)(hc:0<=c)(hx:G<=x)(hy:G<=y)(hz:G<=z):(a+b+c)*G<=a*x+b*y+c*z:=by
 have h1:=Int.mul_le_mul_of_nonneg_left hx ha
 have h2:=Int.mul_le_mul_of_nonneg_left hy hb
 have h3:=Int.mul_le_mul_of_nonneg_left hz hc
 grind
def tin (G:Int)(t:Tri):Prop:=inb G t.A/\inb G t.B/\inb G t.C
theorem aTs {t:Tri} {G M i j:Nat} (h:i+j < M)(ht:tin G t):inb (M*G:Nat) (lF t M i j):=by
 rw [aDg t h]
 obtain⟨⟨a1,a2,a3,a4,a5,a6⟩,⟨b1,b2,b3,b4,b5,b6⟩,⟨c1,c2,c3,c4,c5,c6⟩⟩:=ht
 have e:((M - i - j:Nat):Int)+(i:Int)+(j:Int)=(M:Int):=by omega
 have em:((M*G:Nat):Int)=(M:Int)*(G:Int):=Int.natCast_mul M G
 have p:∀x y z:Int,x<=G->y<=G->z<=G->((M - i - j:Nat):Int)*x+i*y+j*z<=(M:Int)*G:=by
   intro x y z hx hy hz
   have:=aDh (a:=((M - i - j:Nat):Int)) (b:=(i:Int)) (c:=(j:Int)) (by omega) (by omega) (by omega) hx hy hz
   rwa [e] at this
 have m:∀x y z:Int,-(G:Int)<=x->-(G:Int)<=y->-(G:Int)<=z->-((M:Int)*G)<=((M - i - j:Nat):Int)*x+i*y+j*z:=by
   intro x y z hx hy hz
   have:=aJe (a:=((M - i - j:Nat):Int)) (b:=(i:Int)) (c:=(j:Int)) (by omega) (by omega) (by omega) hx hy hz
   rw [e] at this
   have e2:(M:Int)*-(G:Int)=-((M:Int)*G):=by grind
   rwa [e2] at this
 rw [em]
 exact⟨m _ _ _ a1 b1 c1,p _ _ _ a2 b2 c2,m _ _ _ a3 b3 c3,p _ _ _ a4 b4 c4,m _ _ _ a5 b5 c5,p _ _ _ a6 b6 c6⟩
theorem bAb (a b c:Int)(ha:0<=a)(hb:0<=b)(hc:0<=c)(x y z:Int):(a*x+b*y+c*z)*(a*x+b*y+c*z)<=(a+b+c)*(a*(x*x)+b*(y*y)+c*(z*z)):=by
 have h1:=Int.mul_nonneg (Int.mul_nonneg ha hb) (sq_int_nonneg (x - y))
 have h2:=Int.mul_nonneg (Int.mul_nonneg hb hc) (sq_int_nonneg (y - z))
 have h3:=Int.mul_nonneg (Int.mul_nonneg ha hc) (sq_int_nonneg (x - z))
 grind
theorem aXe (a b c:Int)(ha:0<=a)(hb:0<=b)(hc:0<=c)(p q r:V3) {f:Int} (hp:nsq p<=f)(hq:nsq q<=f)(hr:nsq r<=f) :
   nsq (a*p.1+b*q.1+c*r.1,a*p.2.1+b*q.2.1+c*r.2.1,a*p.2.2+b*q.2.2+c*r.2.2)<=(a+b+c)*((a+b+c)*f):=by
 have h1:=bAb a b c ha hb hc p.1 q.1 r.1
 have h2:=bAb a b c ha hb hc p.2.1 q.2.1 r.2.1
 have h3:=bAb a b c ha hb hc p.2.2 q.2.2 r.2.2
 have h4:=aDh ha hb hc hp hq hr
 have h5:=Int.mul_le_mul_of_nonneg_left h4 (show 0<=a+b+c by omega)
 unfold nsq at *
 simp only
 grind
def bEa (t s:Tri)(f:Int):Prop:=∀p,p∈[t.A,t.B,t.C]->∀q,q∈[s.A,s.B,s.C]->nsq (vs p q)<=f
theorem bAc {t s:Tri} {f:Int} (h:bEa t s f) {M i j i' j':Nat} (h1:i+j < M)(h2:i'+j' < M):nsq (vs (lF t M i j) (lF s M i' j'))<=(M:Int)*(M*f):=by
 have e:((M - i - j:Nat):Int)+(i:Int)+(j:Int)=(M:Int):=by omega
 have e':((M - i' - j':Nat):Int)+(i':Int)+(j':Int)=(M:Int):=by omega
 have hM:(0:Int) < (M:Int):=by omega
 have one:∀q,q∈[s.A,s.B,s.C]->nsq (vs (lF t M i j) (M*q.1,M*q.2.1,M*q.2.2))<=(M:Int)*(M*f):=by
   intro q hq
   have:=aXe ((M - i - j:Nat):Int) (i:Int) (j:Int) (by omega) (by omega) (by omega) (vs t.A q) (vs t.B q) (vs t.C q) (h _ (by simp) q hq) (h _ (by simp) q hq) (h _ (by simp) q hq)
   rw [e] at this
   rw [aDg t h1]
   have e2:vs (((M - i - j:Nat):Int)*t.A.1+i*t.B.1+j*t.C.1,((M - i - j:Nat):Int)*t.A.2.1+i*t.B.2.1+j*t.C.2.1,((M - i - j:Nat):Int)*t.A.2.2+i*t.B.2.2+j*t.C.2.2) (M*q.1,M*q.2.1,M*q.2.2)=(((M - i - j:Nat):Int)*(vs t.A q).1+i*(vs t.B q).1+j*(vs t.C q).1,((M - i - j:Nat):Int)*(vs t.A q).2.1+i*(vs t.B q).2.1+j*(vs t.C q).2.1,((M - i - j:Nat):Int)*(vs t.A q).2.2+i*(vs t.B q).2.2+j*(vs t.C q).2.2):=by
     simp only [vs,Prod.mk.injEq]
     rw [←e]
     refine⟨?_,?_,?_⟩<;>grind
   rw [e2];exact this
 have all:=aXe ((M - i' - j':Nat):Int) (i':Int) (j':Int) (by omega) (by omega) (by omega) _ _ _ (one s.A (by simp)) (one s.B (by simp)) (one s.C (by simp))
 rw [e'] at all
 have e3:(((M - i' - j':Nat):Int)*(vs (lF t M i j) (M*s.A.1,M*s.A.2.1,M*s.A.2.2)).1+i'*(vs (lF t M i j) (M*s.B.1,M*s.B.2.1,M*s.B.2.2)).1+j'*(vs (lF t M i j) (M*s.C.1,M*s.C.2.1,M*s.C.2.2)).1,((M - i' - j':Nat):Int)*(vs (lF t M i j) (M*s.A.1,M*s.A.2.1,M*s.A.2.2)).2.1+i'*(vs (lF t M i j) (M*s.B.1,M*s.B.2.1,M*s.B.2.2)).2.1+j'*(vs (lF t M i j) (M*s.C.1,M*s.C.2.1,M*s.C.2.2)).2.1,((M - i' - j':Nat):Int)*(vs (lF t M i j) (M*s.A.1,M*s.A.2.1,M*s.A.2.2)).2.2+i'*(vs (lF t M i j) (M*s.B.1,M*s.B.2.1,M*s.B.2.2)).2.2+j'*(vs (lF t M i j) (M*s.C.1,M*s.C.2.1,M*s.C.2.2)).2.2)=(M*(vs (lF t M i j) (lF s M i' j')).1,M*(vs (lF t M i j) (lF s M i' j')).2.1,M*(vs (lF t M i j) (lF s M i' j')).2.2):=by
   rw [aDg s h2]
   generalize lF t M i j=p
   simp only [vs,Prod.mk.injEq]
   rw [←e']
   refine⟨?_,?_,?_⟩<;>grind
 rw [e3] at all
 generalize vs (lF t M i j) (lF s M i' j')=v at *
 have e4:nsq (M*v.1,M*v.2.1,M*v.2.2)=(M:Int)*(M*nsq v):=by simp only [nsq];grind
 rw [e4] at all
 have l1:=Int.le_of_mul_le_mul_left all hM
 exact Int.le_of_mul_le_mul_left l1 hM
def gapc (a b c x y z g:Int):Prop:=g=0\/(∀p,p∈[a,b,c]->∀q,q∈[x,y,z]->p+g<=q)\/(∀p,p∈[a,b,c]->∀q,q∈[x,y,z]->q+g<=p)
def nearT (t s:Tri)(n:Int):Prop:=∃g:V3,0<=g.1/\0<=g.2.1/\0<=g.2.2/\n<=nsq g/\gapc t.A.1 t.B.1 t.C.1 s.A.1 s.B.1 s.C.1 g.1/\gapc t.A.2.1 t.B.2.1 t.C.2.1 s.A.2.1 s.B.2.1 s.C.2.1 g.2.1/\gapc t.A.2.2 t.B.2.2 t.C.2.2 s.A.2.2 s.B.2.2 s.C.2.2 g.2.2
def aL3 (a b c:Int):Int:=if a<=b then(if b<=c then c else b) else(if a<=c then c else a)
def aL4 (a b c:Int):Int:=if a<=b then(if c<=a then c else a) else(if c<=b then c else b)
theorem aTt {a b c i j k x y z l m n M g:Int} (ha:0<=a)(hb:0<=b)(hc:0<=c)(hl:0<=l)(hm:0<=m)(hn:0<=n)(h1:a+b+c=M)(h2:l+m+n=M)(h:∀p,p∈[i,j,k]->∀q,q∈[x,y,z]->p+g<=q) :
   M*g<=(l*x+m*y+n*z) - (a*i+b*j+c*k):=by
 -- the greatest of the first and the least of the others
 have hx:=aJe (G:=aL4 x y z) (x:=x) (y:=y) (z:=z) hl hm hn (by unfold aL4;grind) (by unfold aL4;grind) (by unfold aL4;grind)
 have hi:=aDh (G:=aL3 i j k) (x:=i) (y:=j) (z:=k) ha hb hc (by unfold aL3;grind) (by unfold aL3;grind) (by unfold aL3;grind)
 have hg:aL3 i j k+g<=aL4 x y z:=by
   have e1:aL3 i j k∈[i,j,k]:=by unfold aL3;grind
   have e2:aL4 x y z∈[x,y,z]:=by unfold aL4;grind
   exact h _ e1 _ e2
 rw [h1] at hi
 rw [h2] at hx
 have h3:=Int.mul_le_mul_of_nonneg_left hg (show 0<=M by omega)
 rw [Int.mul_add] at h3
 omega
theorem aL5 {a b c i j k x y z l m n M g:Int} (ha:0<=a)(hb:0<=b)(hc:0<=c)(hl:0<=l)(hm:0<=m)(hn:0<=n)(h1:a+b+c=M)(h2:l+m+n=M)(hg:0<=g)(h:gapc i j k x y z g) :
   M*(M*(g*g))<=((a*i+b*j+c*k) - (l*x+m*y+n*z))*((a*i+b*j+c*k) - (l*x+m*y+n*z)):=by
 have hM:0<=M:=by omega
 have e:M*(M*(g*g))=(M*g)*(M*g):=by grind
 rw [e]
 have hMg:=Int.mul_nonneg hM hg
 rcases h with h | h | h
 · rw [h]
   have:=sq_int_nonneg ((a*i+b*j+c*k) - (l*x+m*y+n*z))
   grind
 · have:=aTt ha hb hc hl hm hn h1 h2 h
   exact aDc hMg (.inr (by omega))
 · have:=aTt (i:=x) (j:=y) (k:=z) (x:=i) (y:=j) (z:=k) hl hm hn ha hb hc h2 h1 (fun p hp q hq=>h q hq p hp)
   exact aDc hMg (.inl (by omega))
theorem aWc {t s:Tri} {f:Int} (h:nearT t s f) {M i j i' j':Nat} (h1:i+j < M)(h2:i'+j' < M):(M:Int)*(M*f)<=nsq (vs (lF t M i j) (lF s M i' j')):=by
 obtain⟨g,g1,g2,g3,hf,c1,c2,c3⟩:=h
 have e:((M - i - j:Nat):Int)+(i:Int)+(j:Int)=(M:Int):=by omega
 have e':((M - i' - j':Nat):Int)+(i':Int)+(j':Int)=(M:Int):=by omega
 have k1:=aL5 (a:=((M - i - j:Nat):Int)) (b:=(i:Int)) (c:=(j:Int)) (l:=((M - i' - j':Nat):Int)) (m:=(i':Int)) (n:=(j':Int)) (by omega) (by omega) (by omega) (by omega) (by omega) (by omega) e e' g1 c1
 have k2:=aL5 (a:=((M - i - j:Nat):Int)) (b:=(i:Int)) (c:=(j:Int)) (l:=((M - i' - j':Nat):Int)) (m:=(i':Int)) (n:=(j':Int)) (by omega) (by omega) (by omega) (by omega) (by omega) (by omega) e e' g2 c2
 have k3:=aL5 (a:=((M - i - j:Nat):Int)) (b:=(i:Int)) (c:=(j:Int)) (l:=((M - i' - j':Nat):Int)) (m:=(i':Int)) (n:=(j':Int)) (by omega) (by omega) (by omega) (by omega) (by omega) (by omega) e e' g3 c3
 have k4:=Int.mul_le_mul_of_nonneg_left (Int.mul_le_mul_of_nonneg_left hf (show 0<=(M:Int) by omega)) (show 0<=(M:Int) by omega)
 rw [aDg t h1,aDg s h2]
 unfold nsq at *
 simp only [vs]
 have e3:(M:Int)*((M:Int)*(g.1*g.1+g.2.1*g.2.1+g.2.2*g.2.2))=(M:Int)*((M:Int)*(g.1*g.1))+(M:Int)*((M:Int)*(g.2.1*g.2.1))+(M:Int)*((M:Int)*(g.2.2*g.2.2)):=by grind
 omega
theorem aJf (D z v:V3)(n:Int)(hn:0<=n)(h:v=va D z):n*nsq D<=(n+1)*nsq v+n*(n+1)*nsq z/\n*nsq v<=(n+1)*nsq D+n*(n+1)*nsq z:=by
 subst h
 have a1:=sq_int_nonneg (D.1+z.1+n*z.1)
 have a2:=sq_int_nonneg (D.2.1+z.2.1+n*z.2.1)
 have a3:=sq_int_nonneg (D.2.2+z.2.2+n*z.2.2)
 have b1:=sq_int_nonneg (D.1 - n*z.1)
 have b2:=sq_int_nonneg (D.2.1 - n*z.2.1)
 have b3:=sq_int_nonneg (D.2.2 - n*z.2.2)
 unfold nsq va
 simp only
 constructor<;>grind
theorem pw {n:Nat}:((n*n*n*n:Nat):Int)=(n:Int)*n*n*n:=by simp
theorem bAd {K:V3->Rat} (kp:∀p,0<=K p)(k2:∀p,K p*K p*((nsq p+16:Int):Rat)<=1) {n:Nat} (hn:8<=n) {f:Int} {h:Rat} (hh:0 < h)(hf:1<=f)(hfh:1<=h*h*(f:Rat))
   {D z:V3} (hD:((n*n*n*n:Nat):Int)*(((n*n*n*n:Nat):Int)*f)<=nsq D) (hz:inb ((n*n*n:Nat):Int) z):K (va D z)*((n*n*n*n:Nat):Rat)<=h*(1+8*(1 / (n:Rat))):=by
 have hz2:=aHj hz
 have sh:=(aJf D z (va D z) n (by omega) rfl).1
 have kv:=k2 (va D z)
 have kv0:=kp (va D z)
 have hv0:=nsq_nonneg (va D z)
 generalize va D z=v at *
 -- integers to rationals
 have R1:=rcast_le sh
 have R2:=rcast_le hD
 have R3:=rcast_le hz2
 have Rf:=rcast_le hf
 have n8:(8:Rat)<=(n:Rat):=rcast_le (a:=8) (b:=(n:Int)) (by omega)
 have e3:(((n*n*n:Nat):Int):Rat)=(n:Rat)*(n:Rat)*(n:Rat):=by
   have:((n*n*n:Nat):Int)=(n:Int)*n*n:=by simp
   rw [this,rcast_mul,rcast_mul];rfl
 have e4:(((n*n*n*n:Nat):Int):Rat)=(n:Rat)*(n:Rat)*(n:Rat)*(n:Rat):=by
   rw [pw,rcast_mul,rcast_mul,rcast_mul];rfl
 have eM:((n*n*n*n:Nat):Rat)=(n:Rat)*(n:Rat)*(n:Rat)*(n:Rat):=e4
 simp only [Rat.intCast_mul,Rat.intCast_add,e3,e4] at R1 R2 R3
 have en:((n:Int):Rat)=(n:Rat):=rfl
 have c1:((1:Int):Rat)=1:=rfl
 have c3:((3:Int):Rat)=3:=rfl
 rw [en,c1] at R1
 rw [c3] at R3
 rw [c1] at Rf
 have kv':K v*K v*((nsq v:Int):Rat)<=1:=by
   have:=rmul_le' (rcast_le (show nsq v<=nsq v+16 by omega)) (sq_nonneg (K v))
   grind
 rw [eM]
 have inn:=odm (r:=(n:Rat)) (by grind)
 have inn0:=inv_nn (a:=(n:Rat)) (by grind)
 generalize ((nsq v:Int):Rat)=V at *
 generalize ((nsq D:Int):Rat)=DD at *
 generalize ((nsq z:Int):Rat)=Z at *
 generalize ((f:Int):Rat)=F at *
 generalize K v=k at *
 clear hD hz hz2 sh kv hv0 hf e3 e4 eM c1 c3 en
 have hfF:0 < F:=by grind
 generalize hM:(n:Rat)*(n:Rat)*(n:Rat)*(n:Rat)=M at *
 generalize hS:(n:Rat)*(n:Rat)*(n:Rat)=S at *
 generalize (n:Rat)=r at *
 generalize 1 / r=j at *
 have j8:j<=1 / 8:=by
   have:=rmul_le' n8 inn0
   rw [inn] at this
   grind
 have hMS:M=S*r:=by rw [←hM,←hS]
 have hS0:0<=S:=by
   rw [←hS];exact Rat.mul_nonneg (Rat.mul_nonneg (by grind) (by grind)) (by grind)
 have hM0:0<=M:=by rw [hMS];exact Rat.mul_nonneg hS0 (by grind)
 -- V >= M M F (1 - 4 j)
 have hV:M*(M*F)*(1 - 4*j)<=V:=by
   have a1:r*DD<=(r+1)*V+r*(r+1)*Z:=R1
   have a2:=rmul_le' R2 (show 0<=r by grind)
   have a3:=rmul_le' R3 (show 0<=r*(r+1) from Rat.mul_nonneg (by grind) (by grind))
   -- S = M j
   have hSj:S=M*j:=by rw [hMS];grind
   have a4:r*(r+1)*(3*(S*S))=3*(1+j)*(M*M):=by
     have:r*(r+1)*(3*(S*S))=3*((j*r)*(j*r)+j*(j*r))*(M*M):=by rw [hSj];grind
     rw [this,inn];grind
   rw [a4] at a3
   have a5:M*M<=M*(M*F):=by
     have:=rmul_le' Rf (Rat.mul_nonneg hM0 hM0)
     grind
   have a6:3*(1+j)*(M*M)<=3*(1+j)*(M*(M*F)):=rmul_le' a5 (by grind)
   generalize M*(M*F)=Q at *
   have hQ:0<=Q:=Rat.le_trans (Rat.mul_nonneg hM0 hM0) a5
   have a7:r*Q<=(r+1)*V+3*(1+j)*Q:=by grind
   -- times j:  Q <= (1 + j) V + 3 j (1 + j) Q
   have a8:=rmul_le' a7 inn0
   have b1:j*(r*Q)=(j*r)*Q:=by grind
   have b2:j*((r+1)*V+3*(1+j)*Q)=(j*r+j)*V+3*j*(1+j)*Q:=by grind
   rw [b1,b2,inn] at a8
   -- (1 - 4 j)(1 + j) <= 1 - 3 j (1 + j)
   by_cases c:Q*(1 - 4*j)<=V
   · exact c
   · have d1:(1+j)*V < (1+j)*(Q*(1 - 4*j)):=by
       have:=Rat.mul_pos (a:=1+j) (b:=Q*(1 - 4*j) - V) (by grind) (by grind)
       grind
     have d2:0<=Q*(j*j):=Rat.mul_nonneg hQ (Rat.mul_nonneg inn0 inn0)
     grind
 -- k M <= h (1 + 8 j)
 have s1:1<=(1 - 4*j)*((1+8*j)*(1+8*j)):=by
   have:0<=j*(12 - 256*(j*j)):=Rat.mul_nonneg inn0 (by
     have:=rmul_le' j8 inn0
     grind)
   grind
 have hk1:=rmul_le' hV (sq_nonneg k)
 have s2:k*k*(M*(M*F)*(1 - 4*j))<=1:=Rat.le_trans hk1 kv'
 refine dI (Rat.mul_nonneg (Rat.le_of_lt hh) (by grind)) ?_
 -- (k M)^2 F (1 - 4 j) <= 1 <= h h F (1 - 4 j)(1 + 8 j)^2
 have s3:=rmul_le' s1 (c:=h*h*F) (by grind)
 have s4:(k*M)*(k*M)*(F*(1 - 4*j))<=(h*(1+8*j))*(h*(1+8*j))*(F*(1 - 4*j)):=by grind
 by_cases c:k*M*(k*M)<=h*(1+8*j)*(h*(1+8*j))
 · exact c
 · have:=Rat.mul_pos (a:=k*M*(k*M) - h*(1+8*j)*(h*(1+8*j))) (b:=F*(1 - 4*j)) (by grind) (Rat.mul_pos hfF (by grind))
   grind
theorem bEb {K:V3->Rat} {e:Rat} (kp:∀p,0<=K p)(k3:∀p,1<=(K p+e)*(K p+e)*((nsq p+16:Int):Rat))(he:0<=e) {n:Nat} (hn:8<=n)(heM:e*((n*n*n*n:Nat):Rat)<=1 / (n:Rat)) {f:Int} {lo:Rat} (hl:0<=lo)(hf:1<=f)(hfl:lo*lo*(f:Rat)<=1)
   {D z:V3} (hD:nsq D<=((n*n*n*n:Nat):Int)*(((n*n*n*n:Nat):Int)*f)) (hz:inb ((n*n*n:Nat):Int) z):lo*(1 - 8*(1 / (n:Rat))) - 1 / (n:Rat)<=K (va D z)*((n*n*n*n:Nat):Rat):=by
 have hz2:=aHj hz
 have sh:=(aJf D z (va D z) n (by omega) rfl).2
 have kv:=k3 (va D z)
 have kv0:=kp (va D z)
 have hv0:=nsq_nonneg (va D z)
 generalize va D z=v at *
 have R1:=rcast_le sh
 have R2:=rcast_le hD
 have R3:=rcast_le hz2
 have Rf:=rcast_le hf
 have n8:(8:Rat)<=(n:Rat):=rcast_le (a:=8) (b:=(n:Int)) (by omega)
 have e3:(((n*n*n:Nat):Int):Rat)=(n:Rat)*(n:Rat)*(n:Rat):=by
   have:((n*n*n:Nat):Int)=(n:Int)*n*n:=by simp
   rw [this,rcast_mul,rcast_mul];rfl
 have e4:(((n*n*n*n:Nat):Int):Rat)=(n:Rat)*(n:Rat)*(n:Rat)*(n:Rat):=by
   rw [pw,rcast_mul,rcast_mul,rcast_mul];rfl
 have eM:((n*n*n*n:Nat):Rat)=(n:Rat)*(n:Rat)*(n:Rat)*(n:Rat):=e4
 simp only [Rat.intCast_mul,Rat.intCast_add,e3,e4] at R1 R2 R3
 have en:((n:Int):Rat)=(n:Rat):=rfl
 have c1:((1:Int):Rat)=1:=rfl
 have c3:((3:Int):Rat)=3:=rfl
 have c16:((16:Int):Rat)=16:=rfl
 rw [en,c1] at R1
 rw [c3] at R3
 rw [c1] at Rf
 rw [rcast_add,c16] at kv
 rw [eM] at heM ⊢
 have inn:=odm (r:=(n:Rat)) (by grind)
 have inn0:=inv_nn (a:=(n:Rat)) (by grind)
 generalize ((nsq v:Int):Rat)=V at *
 generalize ((nsq D:Int):Rat)=DD at *
 generalize ((nsq z:Int):Rat)=Z at *
 generalize ((f:Int):Rat)=F at *
 generalize K v=k at *
 clear hD hz hz2 sh hv0 hf e3 e4 eM c1 c3 c16 en
 have hn3:1<=(n:Rat)*(n:Rat)*(n:Rat):=by
   have a1:=rmul_le n8 (show(0:Rat)<=(n:Rat) by grind)
   have a2:=rmul_le (show 1<=(n:Rat)*(n:Rat) by grind) (show(0:Rat)<=(n:Rat) by grind)
   grind
 generalize hM:(n:Rat)*(n:Rat)*(n:Rat)*(n:Rat)=M at *
 generalize hS:(n:Rat)*(n:Rat)*(n:Rat)=S at *
 generalize (n:Rat)=r at *
 generalize 1 / r=j at *
 have j8:j<=1 / 8:=by
   have:=rmul_le' n8 inn0
   rw [inn] at this
   grind
 have hMS:M=S*r:=by rw [←hM,←hS]
 have hM8:8<=M:=by
   rw [hMS]
   have:=rmul_le hn3 (show 0<=r by grind)
   grind
 have hSj:S=M*j:=by rw [hMS];grind
 -- V + 16 <= M M F (1 + 8 j)
 have hV:V+16<=M*(M*F)*(1+8*j):=by
   have a2:=rmul_le' R2 (show 0<=r+1 by grind)
   have a3:=rmul_le' R3 (show 0<=r*(r+1) from Rat.mul_nonneg (by grind) (by grind))
   have a4:r*(r+1)*(3*(S*S))=3*(1+j)*(M*M):=by
     have:r*(r+1)*(3*(S*S))=3*((j*r)*(j*r)+j*(j*r))*(M*M):=by rw [hSj];grind
     rw [this,inn];grind
   rw [a4] at a3
   have a5:M*M<=M*(M*F):=by
     have:=rmul_le' Rf (Rat.mul_nonneg (show 0<=M by grind) (show 0<=M by grind))
     grind
   have a6:3*(1+j)*(M*M)<=3*(1+j)*(M*(M*F)):=rmul_le' a5 (by grind)
   have a9:16<=2*j*(M*(M*F)):=by
     -- M j = S >= 1, M >= 8
     have b1:M*j*M<=j*(M*(M*F)):=by
       have:=rmul_le' a5 inn0
       grind
     have b2:8<=M*j*M:=by
       rw [←hSj]
       have:=rmul_le hn3 (show 0<=M by grind)
       grind
     grind
   generalize M*(M*F)=Q at *
   have a7:r*V<=(r+1)*Q+3*(1+j)*Q:=by grind
   have a8:=rmul_le' a7 inn0
   have b1:j*(r*V)=(j*r)*V:=by grind
   have b2:j*((r+1)*Q+3*(1+j)*Q)=(j*r+j)*Q+3*j*(1+j)*Q:=by grind
   rw [b1,b2,inn] at a8
   have hQ:0<=j*Q:=by grind
   have d2:3*j*(j*Q)<=3 / 8*(j*Q):=by
     have:=rmul_le j8 hQ
     grind
   grind
 have s1:=rmul_le' hV (sq_nonneg (k+e))
 have s2:lo<=(k+e)*M*(1+8*j):=by
   refine dI (Rat.mul_nonneg (Rat.mul_nonneg (by grind) (by grind)) (by grind)) ?_
   have t1:1<=((k+e)*M)*((k+e)*M)*(F*(1+8*j)):=by grind
   have t2:lo*lo*F<=((k+e)*M)*((k+e)*M)*(1+8*j)*F:=by grind
   have t3:lo*lo<=((k+e)*M)*((k+e)*M)*(1+8*j):=by
     by_cases c:lo*lo<=((k+e)*M)*((k+e)*M)*(1+8*j)
     · exact c
     · have:=Rat.mul_pos (a:=lo*lo - ((k+e)*M)*((k+e)*M)*(1+8*j)) (b:=F) (by grind) (by grind)
       grind
   have t4:0<=((k+e)*M)*((k+e)*M)*(1+8*j)*(8*j):=Rat.mul_nonneg (Rat.mul_nonneg (sq_nonneg _) (by grind)) (by grind)
   grind
 have s3:=rmul_le s2 (c:=1 - 8*j) (by grind)
 have s4:0<=(k+e)*M*(64*(j*j)):=Rat.mul_nonneg (Rat.mul_nonneg (by grind) (by grind)) (by have:=sq_nonneg j;grind)
 grind
theorem bEc (c d:Rat)(hd:0 < d):∃n0:Nat,0 < n0/\∀n:Nat,n0<=n->c*(1 / (n:Rat)) < d:=by
 have hd1:=odm hd
 have hd0:=inv_nn (Rat.le_of_lt hd)
 have hx:0<=(if 0<=c then c else 0)*(1 / d):=Rat.mul_nonneg (by split<;>grind) hd0
 obtain⟨s,h1,h2⟩:=fl _ hx
 refine⟨s+1,by omega,fun n hn=>?_⟩
 have hn1:(s:Rat)+1<=(n:Rat):=by
   have:=rcast_le (a:=((s+1:Nat):Int)) (b:=(n:Int)) (by omega)
   have e:(((s+1:Nat):Int):Rat)=(s:Rat)+1:=jY s
   rw [e] at this
   exact this
 have s0:=uG s
 have i1:=odm (r:=(n:Rat)) (by grind)
 have i0:=inv_nn (a:=(n:Rat)) (by grind)
 have cd:c < d*(n:Rat):=by
   have a1:(if 0<=c then c else 0)*(1 / d) < (n:Rat):=by grind
   have a2:c<=(if 0<=c then c else 0):=by grind
   have a3:=Rat.mul_pos (a:=(n:Rat) - (if 0<=c then c else 0)*(1 / d)) (b:=d) (by grind) hd
   have a4:((n:Rat) - (if 0<=c then c else 0)*(1 / d))*d=(n:Rat)*d - (if 0<=c then c else 0)*(1 / d*d):=by grind
   rw [a4,hd1] at a3
   grind
 have ip:0 < 1 / (n:Rat):=by
   rw [Rat.div_def];have:=Rat.inv_pos.mpr (show(0:Rat) < (n:Rat) by grind);grind
 have:=Rat.mul_pos (a:=d*(n:Rat) - c) (b:=1 / (n:Rat)) (by grind) ip
 have e:(d*(n:Rat) - c)*(1 / (n:Rat))=d*(1 / (n:Rat)*(n:Rat)) - c*(1 / (n:Rat)):=by grind
 rw [e,i1] at this
 grind
theorem bEd {x y c:Rat} {n0:Nat} (h:∀n:Nat,n0<=n->x<=y+c*(1 / (n:Rat))):x<=y:=by
 by_cases d:x<=y
 · exact d
 · obtain⟨n1,_,h1⟩:=bEc c (x - y) (by grind)
   have a:=h (n0+n1) (by omega)
   have b:=h1 (n0+n1) (by omega)
   grind
theorem aJg {α:Type} {X:List α} {P:α->Rat->Prop} (h:∀t,t∈X->∃C:Rat,0<=C/\∀C',C<=C'->P t C'):∃C:Rat,0<=C/\∀t,t∈X->∀C',C<=C'->P t C':=by
 induction X with
 | nil=>exact⟨0,Rat.le_refl,fun t ht=>by cases ht⟩
 | cons a X ih =>
   obtain⟨C1,h1,h2⟩:=h a List.mem_cons_self
   obtain⟨C2,h3,h4⟩:=ih (fun t ht=>h t (List.mem_cons_of_mem _ ht))
   refine⟨C1+C2,by grind,fun t ht C' hC=>?_⟩
   rcases List.mem_cons.1 ht with rfl | ht
   · exact h2 C' (by grind)
   · exact h4 t ht C' (by grind)
def rimT (t:Tri)(h:Rat):Prop:=∃r:Nat,0 < r/\(r:Int)*r<=nsq (cr (vs t.B t.A) (vs t.C t.A))/\0 < nsq (vs t.B t.A)/\3217<=128*((r:Int):Rat)*(h*h)
theorem aXf (x y z:V3):vs (va x z) y=va (vs x y) z:=by
 simp only [vs,va,Prod.mk.injEq];omega
theorem bAe {t t':Tri} {h:Rat} (hh:0 < h)(hn:(∃f:Int,1<=f/\1<=h*h*(f:Rat)/\nearT t' t f)\/rimT t h) :
   ∃C:Rat,0<=C/\∀C',C<=C'->∀(K:V3->Rat),(∀p,0<=K p)->(∀p,K p<=1 / 4)->(∀p,K p*K p*((nsq p+16:Int):Rat)<=1)->∀(n:Nat),8<=n->∀(i j:Nat) (z:V3),i+j < n*n*n*n->inb ((n*n*n:Nat):Int) z ->
     jJ K (va (lF t' (n*n*n*n) i j) z) t.A (vs t.B t.A) (vs t.C t.A) (n*n*n*n)*((n*n*n*n:Nat):Rat)<=ns (n*n*n*n)*(h+C'*(1 / (n:Rat))):=by
 rcases hn with⟨f,hf,hfh,hg⟩ | ⟨r,hr0,hr,hu,hrh⟩
 · refine⟨8*h,by grind,fun C' hC K k0 k1 k2 n hn i j z hij hz=>?_⟩
   have n8:(8:Rat)<=(n:Rat):=rcast_le (a:=8) (b:=(n:Int)) (by omega)
   have inn0:=inv_nn (a:=(n:Rat)) (by grind)
   unfold jJ ns
   have e1:sm (n*n*n*n) (fun j'=>sm (n*n*n*n - j') (fun i'=>K (vs (va (lF t' (n*n*n*n) i j) z) (pt t.A (vs t.B t.A) (vs t.C t.A) (n*n*n*n) i' j'))))*((n*n*n*n:Nat):Rat)=sm (n*n*n*n) (fun j'=>sm (n*n*n*n - j') (fun i'=>((n*n*n*n:Nat):Rat)*K (vs (va (lF t' (n*n*n*n) i j) z) (pt t.A (vs t.B t.A) (vs t.C t.A) (n*n*n*n) i' j')))):=by
     have:∀S:Rat,S*((n*n*n*n:Nat):Rat)=((n*n*n*n:Nat):Rat)*S:=fun S=>by grind
     rw [this,←dO]
     exact bX (fun j' _=>by rw [←dO])
   have e2:sm (n*n*n*n) (fun j'=>sm (n*n*n*n - j') (fun _=>1))*(h+C'*(1 / (n:Rat)))=sm (n*n*n*n) (fun j'=>sm (n*n*n*n - j') (fun _=>(h+C'*(1 / (n:Rat)))*1)):=by
     have:∀S:Rat,S*(h+C'*(1 / (n:Rat)))=(h+C'*(1 / (n:Rat)))*S:=fun S=>by grind
     rw [this,←dO]
     exact bX (fun j' _=>by rw [←dO])
   rw [e1,e2]
   refine oE (fun j' hj'=>oE (fun i' hi'=>?_))
   have hp:pt t.A (vs t.B t.A) (vs t.C t.A) (n*n*n*n) i' j'=lF t (n*n*n*n) i' j':=rfl
   rw [hp,aXf]
   have:=bAd k0 k2 hn hh hf hfh (aWc hg hij (show i'+j' < n*n*n*n by omega)) hz
   have c1:=rmul_le hC inn0
   grind
 · obtain⟨C,hC0,hC⟩:=rim (A:=t.A) hu hr hr0 hh hrh
   refine⟨C,hC0,fun C' hCC K k0 k1 k2 n hn i j z hij hz=>?_⟩
   have n8:(8:Rat)<=(n:Rat):=rcast_le (a:=8) (b:=(n:Int)) (by omega)
   have inn0:=inv_nn (a:=(n:Rat)) (by grind)
   refine Rat.le_trans (hC K k1 k2 _ n (by omega)) ?_
   have N0:0<=ns (n*n*n*n):=by
     have:=aTr (n*n*n*n)
     have m0:=uG (n*n*n*n)
     have:=Rat.mul_nonneg m0 (show(0:Rat)<=((n*n*n*n:Nat):Rat)+1 by grind)
     grind
   refine rmul_le' ?_ N0
   have:=rmul_le hCC inn0
   grind
def potAt (Y:List Tri)(V:Rat)(t:Tri)(M i j:Nat):Prop:=∃lo:Tri->Rat,(∀s,s∈Y->0<=lo s/\∃f:Int,1<=f/\lo s*lo s*(f:Rat)<=1/\∀i' j':Nat,i'+j' < M->nsq (vs (lF t M i j) (lF s M i' j'))<=(M:Int)*(M*f))/\V<=ls Y (fun s=>s.q*lo s)
theorem cap {X Y:List Tri} {G:Nat} {h:Tri->Tri->Rat} {V E:Rat}
   (hX:∀t,t∈X->0<=t.q/\tin G t) (hY:∀s,s∈Y->0<=s.q/\tin G s)
   (hpot:∀t,t∈X->∀M i j:Nat,i+j < M->potAt Y V t M i j)
   (hnear:∀t,t∈X->∀t',t'∈X->0 < h t t'/\((∃f:Int,1<=f/\1<=h t t'*h t t'*(f:Rat)/\nearT t' t f)\/rimT t (h t t')))
   (hE:ls X (fun t'=>t'.q*ls X (fun t=>t.q*h t t'))<=E):tot X*tot X*V<=tot Y*E:=by
 have hX0:0<=tot X:=jV (fun t ht=>(hX t ht).1)
 have hY0:0<=tot Y:=jV (fun t ht=>(hY t ht).1)
 have hE0:0<=E:=Rat.le_trans (jV (fun t' ht'=>Rat.mul_nonneg (hX t' ht').1 (jV (fun t ht=>Rat.mul_nonneg (hX t ht).1 (Rat.le_of_lt (hnear t ht t' ht').1))))) hE
 have r0:=Rat.mul_nonneg hY0 hE0
 by_cases hVp:0 < V
 case neg =>
   have:=Rat.mul_nonneg (Rat.mul_nonneg hX0 hX0) (show 0<=-V by grind)
   grind
 by_cases hXe:tot X=0
 · rw [hXe];grind
 have hXp:0 < tot X:=by grind
 have hYV:V<=tot Y:=by
   match X,hXe with
   | [],hXe=>exact absurd rfl hXe
   | t::_,_ =>
     obtain⟨lo,hlo,hV⟩:=hpot t List.mem_cons_self 1 0 0 (by omega)
     refine Rat.le_trans hV (sY (fun s hs=>?_))
     obtain⟨l0,f,f1,f2,_⟩:=hlo s hs
     have f1':=rcast_le f1
     have c1:((1:Int):Rat)=1:=rfl
     rw [c1] at f1'
     have l1:lo s<=1:=dI (by decide) (by
       have:=rmul_le' f1' (sq_nonneg (lo s))
       grind)
     have:=rmul_le' l1 (hY s hs).1
     grind
 have hYp:0 < tot Y:=by grind
 -- one constant for all pairs
 have hC:∃C:Rat,0<=C/\∀t,t∈X->∀C',C<=C'->∀t',t'∈X->∀(K:V3->Rat),(∀p,0<=K p)->(∀p,K p<=1 / 4)->(∀p,K p*K p*((nsq p+16:Int):Rat)<=1)->∀(n:Nat),8<=n->∀(i j:Nat) (z:V3),i+j < n*n*n*n->inb ((n*n*n:Nat):Int) z ->
     jJ K (va (lF t' (n*n*n*n) i j) z) t.A (vs t.B t.A) (vs t.C t.A) (n*n*n*n)*((n*n*n*n:Nat):Rat)<=ns (n*n*n*n)*(h t t'+C'*(1 / (n:Rat))):=by
   refine aJg (fun t ht=>?_)
   have:=aJg (X:=X) (P:=fun t' C'=>∀(K:V3->Rat),(∀p,0<=K p)->(∀p,K p<=1 / 4)->(∀p,K p*K p*((nsq p+16:Int):Rat)<=1)->∀(n:Nat),8<=n->∀(i j:Nat) (z:V3),i+j < n*n*n*n->inb ((n*n*n:Nat):Int) z ->
     jJ K (va (lF t' (n*n*n*n) i j) z) t.A (vs t.B t.A) (vs t.C t.A) (n*n*n*n)*((n*n*n*n:Nat):Rat)<=ns (n*n*n*n)*(h t t'+C'*(1 / (n:Rat)))) (fun t' ht'=>bAe (hnear t ht t' ht').1 (hnear t ht t' ht').2)
   obtain⟨C,c0,c1⟩:=this
   exact⟨C,c0,fun C' hC' t' ht'=>c1 t' ht' C' hC'⟩
 obtain⟨C,hC0,hC⟩:=hC
 -- n large
 obtain⟨n0,hn0p,hn0⟩:=bEc (8*V+3*tot Y) V hVp
 refine bEd (n0:=n0+56708) (c:=tot X*tot X*(113408*V+3*tot Y)+tot Y*(tot X*tot X*(C+14175))) (fun n hn=>?_)
 have hn8:8<=n:=by omega
 have hsmall:=hn0 n (by omega)
 have n8:(56700:Rat)<=(n:Rat):=rcast_le (a:=56700) (b:=(n:Int)) (by omega)
 have inn:=odm (r:=(n:Rat)) (by grind)
 have inn0:=inv_nn (a:=(n:Rat)) (by grind)
 generalize hM:n*n*n*n=M at *
 have hMr:(M:Rat)=(n:Rat)*(n:Rat)*(n:Rat)*(n:Rat):=by
   rw [←hM]
   have h2:(((n*n*n*n:Nat):Int):Rat)=((n:Int):Rat)*((n:Int):Rat)*((n:Int):Rat)*((n:Int):Rat):=by
     rw [pw,rcast_mul,rcast_mul,rcast_mul]
   exact h2
 have n2p:1<=(n:Rat)*(n:Rat):=by
   have a1:=rmul_le n8 (show(0:Rat)<=(n:Rat) by grind)
   grind
 have n3p:1<=(n:Rat)*(n:Rat)*(n:Rat):=by
   have a2:=rmul_le n2p (show(0:Rat)<=(n:Rat) by grind)
   grind
 have M1:1<=(M:Rat):=by
   rw [hMr]
   have:=rmul_le n3p (show(0:Rat)<=(n:Rat) by grind)
   grind
 have iM:=odm (r:=(M:Rat)) (by grind)
 have iM0:=inv_nn (a:=(M:Rat)) (by grind)
 have hMn:1<=M:=by
   have:(0:Rat) < (M:Rat):=by grind
   rcases Nat.eq_zero_or_pos M with c | c
   · rw [c] at this;exact absurd this (by decide)
   · exact c
 have hn3M:n*n*n<=M:=by rw [←hM];exact Nat.le_mul_of_pos_right _ (by omega)
 -- the boxes
 generalize hR:M*(G+1)+4=R
 have hRM:M<=R:=by rw [←hR];have:=Nat.le_mul_of_pos_right M (show 0 < G+1 by omega);omega
 have hRG:M*G<=R:=by rw [←hR];have:=Nat.mul_le_mul_left M (show G<=G+1 by omega);omega
 generalize hL1:n*R=L1
 have hL1R:R<=L1:=by rw [←hL1];exact Nat.le_mul_of_pos_left _ (by omega)
 generalize hL:4*(L1+1+R)+R=L
 generalize hnn:L+1+R=nn
 have hnnM:n*M<=nn:=by
   have:n*M<=n*R:=Nat.mul_le_mul_left _ hRM
   omega
 obtain⟨K,e,he,heN,hkb,hkn,hm1,hm2⟩:=bF1 nn (by omega)
 have heM:e*(M:Rat)<=1 / (n:Rat):=by
   -- e (3 nn^2 + 16) <= 1 and n M <= nn <= nn nn
   have a1:(n:Rat)*(M:Rat)<=((3*(nn*nn:Nat)+16:Nat):Rat):=by
     have:((n*M:Nat):Int)<=((3*(nn*nn)+16:Nat):Int):=by
       have b1:nn*1<=nn*nn:=Nat.mul_le_mul_left _ (by omega)
       omega
     have b2:=rcast_le this
     have b3:(((n*M:Nat):Int):Rat)=(n:Rat)*(M:Rat):=by
       rw [Int.natCast_mul,rcast_mul];rfl
     rw [b3] at b2
     exact b2
   have a2:=rmul_le' a1 (Rat.le_of_lt he)
   have a3:e*((n:Rat)*(M:Rat))<=1:=Rat.le_trans a2 heN
   have a4:=rmul_le a3 inn0
   have a5:e*((n:Rat)*(M:Rat))*(1 / (n:Rat))=e*(M:Rat)*(1 / (n:Rat)*(n:Rat)):=by grind
   rw [a5,inn] at a4
   grind
 have N2:=aTr M
 have N0:0 < ns M:=by
   have:=Rat.mul_pos (show(0:Rat) < (M:Rat) by grind) (show(0:Rat) < (M:Rat)+1 by grind)
   grind
 have N0':=Rat.le_of_lt N0
 have mX:dP (oF M X)=tot X*ns M:=aE3 M X
 have mY:dP (oF M Y)=tot Y*ns M:=aE3 M Y
 have inX:∀a,a∈oF M X->0<=a.1/\inb (R:Int) a.2:=by
   intro a ha
   obtain⟨t,ht,i,j,hij,rfl⟩:=aDf ha
   refine⟨(hX t ht).1,?_⟩
   have:=aTs hij (hX t ht).2
   simp only;unfold inb at *;omega
 have inY:∀a,a∈oF M Y->0<=a.1/\inb (R:Int) a.2:=by
   intro a ha
   obtain⟨t,ht,i,j,hij,rfl⟩:=aDf ha
   refine⟨(hY t ht).1,?_⟩
   have:=aTs hij (hY t ht).2
   simp only;unfold inb at *;omega
 have hU:∀a,a∈oF M X->∀z,inb ((n*n*n:Nat):Int) z->ns M*((1 - 8*(1 / (n:Rat)))*V - 1 / (n:Rat)*tot Y)*(1 / (M:Rat))<=fG K (oF M Y) (va a.2 z):=by
   intro a ha z hz
   obtain⟨t,ht,i,j,hij,rfl⟩:=aDf ha
   obtain⟨lo,hlo,hV⟩:=hpot t ht M i j hij
   rw [aJd]
   have b1:ls Y (fun s=>ns M*((1 - 8*(1 / (n:Rat)))*(1 / (M:Rat)))*(s.q*lo s)+(-(ns M*(1 / (n:Rat))*(1 / (M:Rat))))*s.q)<=ls Y (fun s=>s.q*jJ K (va (lF t M i j) z) s.A (vs s.B s.A) (vs s.C s.A) M):=by
     refine sY (fun s hs=>?_)
     obtain⟨l0,f,f1,f2,f3⟩:=hlo s hs
     have b2:ns M*(lo s*(1 - 8*(1 / (n:Rat))) - 1 / (n:Rat))<=jJ K (va (lF t M i j) z) s.A (vs s.B s.A) (vs s.C s.A) M*(M:Rat):=by
       unfold jJ ns
       have e1:sm M (fun j'=>sm (M - j') (fun i'=>K (vs (va (lF t M i j) z) (pt s.A (vs s.B s.A) (vs s.C s.A) M i' j'))))*(M:Rat)=sm M (fun j'=>sm (M - j') (fun i'=>(M:Rat)*K (vs (va (lF t M i j) z) (pt s.A (vs s.B s.A) (vs s.C s.A) M i' j')))):=by
         have:∀S:Rat,S*(M:Rat)=(M:Rat)*S:=fun S=>by grind
         rw [this,←dO]
         exact bX (fun j' _=>by rw [←dO])
       have e2:sm M (fun j'=>sm (M - j') (fun _=>1))*(lo s*(1 - 8*(1 / (n:Rat))) - 1 / (n:Rat))=sm M (fun j'=>sm (M - j') (fun _=>(lo s*(1 - 8*(1 / (n:Rat))) - 1 / (n:Rat))*1)):=by
         have:∀S:Rat,S*(lo s*(1 - 8*(1 / (n:Rat))) - 1 / (n:Rat))=(lo s*(1 - 8*(1 / (n:Rat))) - 1 / (n:Rat))*S:=fun S=>by grind
         rw [this,←dO]
         exact bX (fun j' _=>by rw [←dO])
       rw [e1,e2]
       refine oE (fun j' hj'=>oE (fun i' hi'=>?_))
       have hp:pt s.A (vs s.B s.A) (vs s.C s.A) M i' j'=lF s M i' j':=rfl
       rw [hp,aXf]
       have fp:=f3 i' j' (show i'+j' < M by omega)
       have:=bEb (e:=e) hkb.pos hkb.lo (Rat.le_of_lt he) hn8 (by rw [hM];exact heM) l0 f1 f2 (by rw [hM];exact fp) hz
       rw [hM] at this
       grind
     have b3:=rmul_le b2 iM0
     have b4:jJ K (va (lF t M i j) z) s.A (vs s.B s.A) (vs s.C s.A) M*(M:Rat)*(1 / (M:Rat))=jJ K (va (lF t M i j) z) s.A (vs s.B s.A) (vs s.C s.A) M*(1 / (M:Rat)*(M:Rat)):=by grind
     rw [b4,iM] at b3
     have b5:=rmul_le' b3 (hY s hs).1
     grind
   refine Rat.le_trans ?_ b1
   rw [aHg,ls_mul,ls_mul]
   have c1:=hV
   have c2:(0:Rat)<=1 - 8*(1 / (n:Rat)):=by
     have:=rmul_le' n8 inn0
     rw [inn] at this
     grind
   have c3:=rmul_le' c1 (Rat.mul_nonneg N0' (Rat.mul_nonneg c2 iM0))
   have:ls Y (fun a=>a.q)=tot Y:=rfl
   rw [this]
   grind
 have hEn:∀z,inb ((n*n*n:Nat):Int) z->ls (oF M X) (fun a=>a.1*fG K (oF M X) (va a.2 z))<=ns M*ns M*(E+tot X*tot X*C*(1 / (n:Rat)))*(1 / (M:Rat)):=by
   intro z hz
   unfold oF
   rw [ls_flat]
   have b0:ls X (fun t'=>ls (smp M t') (fun a=>a.1*fG K (oF M X) (va a.2 z)))<=ls X (fun t'=>ns M*ns M*(1 / (M:Rat))*(t'.q*ls X (fun t=>t.q*h t t'))+ns M*ns M*(1 / (M:Rat))*(C*(1 / (n:Rat)))*tot X*t'.q):=by
     refine sY (fun t' ht'=>?_)
     rw [aL2]
     have b1:∀i j:Nat,i+j < M->fG K (oF M X) (va (lF t' M i j) z)<=ns M*(1 / (M:Rat))*(ls X (fun t=>t.q*h t t')+C*(1 / (n:Rat))*tot X):=by
       intro i j hij
       rw [aJd]
       have b2:ls X (fun t=>t.q*jJ K (va (lF t' M i j) z) t.A (vs t.B t.A) (vs t.C t.A) M)<=ls X (fun t=>ns M*(1 / (M:Rat))*(t.q*h t t')+ns M*(1 / (M:Rat))*(C*(1 / (n:Rat)))*t.q):=by
         refine sY (fun t ht=>?_)
         have b3:=hC t ht C Rat.le_refl t' ht' K hkb.pos hkn.quart hkb.up n hn8 i j z (by rw [hM];exact hij) hz
         rw [hM] at b3
         have b4:=rmul_le b3 iM0
         have b5:jJ K (va (lF t' M i j) z) t.A (vs t.B t.A) (vs t.C t.A) M*(M:Rat)*(1 / (M:Rat))=jJ K (va (lF t' M i j) z) t.A (vs t.B t.A) (vs t.C t.A) M*(1 / (M:Rat)*(M:Rat)):=by grind
         rw [b5,iM] at b4
         have b6:=rmul_le' b4 (hX t ht).1
         grind
       refine Rat.le_trans b2 ?_
       rw [aHg,ls_mul,ls_mul]
       have:ls X (fun a=>a.q)=tot X:=rfl
       rw [this]
       grind
     have b7:sm M (fun j=>sm (M - j) (fun i=>t'.q*fG K (oF M X) (va (lF t' M i j) z)))<=sm M (fun j=>sm (M - j) (fun _=>t'.q*(ns M*(1 / (M:Rat))*(ls X (fun t=>t.q*h t t')+C*(1 / (n:Rat))*tot X))*1)):=by
       refine oE (fun j hj=>oE (fun i hi=>?_))
       have:=rmul_le' (b1 i j (by omega)) (hX t' ht').1
       grind
     refine Rat.le_trans b7 (lP ?_)
     have b8:sm M (fun j=>sm (M - j) (fun _=>t'.q*(ns M*(1 / (M:Rat))*(ls X (fun t=>t.q*h t t')+C*(1 / (n:Rat))*tot X))*1))=t'.q*(ns M*(1 / (M:Rat))*(ls X (fun t=>t.q*h t t')+C*(1 / (n:Rat))*tot X))*ns M:=by
       unfold ns
       rw [←dO]
       exact bX (fun j _=>by rw [←dO])
     rw [b8];grind
   refine Rat.le_trans b0 ?_
   rw [aHg,ls_mul,ls_mul]
   have:ls X (fun a=>a.q)=tot X:=rfl
   rw [this]
   have c1:=rmul_le' hE (Rat.mul_nonneg (Rat.mul_nonneg N0' N0') iM0)
   grind
 -- lambda
 have d1:(n:Rat)*(M:Rat)<=2*((L1+1 - R:Int):Rat):=by
   have:(((n*M:Nat):Int))<=2*((L1:Int)+1 - R):=by
     have b1:n*M<=n*R:=Nat.mul_le_mul_left _ hRM
     have b2:2*R<=n*R:=Nat.mul_le_mul_right _ (by omega)
     rw [hL1] at b1 b2
     omega
   have b2:=rcast_le this
   rw [rcast_mul] at b2
   have b3:(((n*M:Nat):Int):Rat)=(n:Rat)*(M:Rat):=by
     rw [Int.natCast_mul,rcast_mul];rfl
   rw [b3] at b2
   exact b2
 have dpos:(0:Rat) < ((L1+1 - R:Int):Rat):=rcast_pos (by omega)
 have hlam:tot Y*ns M / ((L1+1 - R:Int):Rat)<=ns M*(2*(1 / (n:Rat))*tot Y)*(1 / (M:Rat)):=by
   have id:=odm dpos
   have id0:=inv_nn (Rat.le_of_lt dpos)
   rw [sL]
   -- 1/d <= 2 j / M
   have b1:1 / ((L1+1 - R:Int):Rat)<=2*(1 / (n:Rat))*(1 / (M:Rat)):=by
     have b2:=rmul_le d1 (Rat.mul_nonneg id0 (Rat.mul_nonneg inn0 iM0))
     have e1:(n:Rat)*(M:Rat)*(1 / ((L1+1 - R:Int):Rat)*(1 / (n:Rat)*(1 / (M:Rat))))=(1 / (n:Rat)*(n:Rat))*(1 / (M:Rat)*(M:Rat))*(1 / ((L1+1 - R:Int):Rat)):=by grind
     have e2:2*((L1+1 - R:Int):Rat)*(1 / ((L1+1 - R:Int):Rat)*(1 / (n:Rat)*(1 / (M:Rat))))=(1 / ((L1+1 - R:Int):Rat)*((L1+1 - R:Int):Rat))*(2*(1 / (n:Rat))*(1 / (M:Rat))):=by grind
     rw [e1,e2,inn,iM,id] at b2
     grind
   have:=rmul_le' b1 (Rat.mul_nonneg hY0 N0')
   grind
 have hvl:dP (oF M Y) / ((L1+1 - R:Int):Rat) < ns M*((1 - 8*(1 / (n:Rat)))*V - 1 / (n:Rat)*tot Y)*(1 / (M:Rat)):=by
   rw [mY]
   have b1:0 < ns M*(1 / (M:Rat)):=Rat.mul_pos N0 (by rw [Rat.div_def];have:=Rat.inv_pos.mpr (show(0:Rat) < (M:Rat) by grind);grind)
   have b2:=Rat.mul_pos (a:=ns M*(1 / (M:Rat))) (b:=V - (8*V+3*tot Y)*(1 / (n:Rat))) b1 (by grind)
   grind
 have hmm:=hm1 nn (Nat.le_refl _)
 have fin:=bF0 (K:=K) (X:=oF M X) (Y:=oF M Y) (R:=R) (s:=n*n*n) (L1:=L1) (L:=L) (n:=nn) hL.symm hnn.symm (by omega) hL1R (by omega) hkn inX inY hU hEn hvl (by grind) (by rw [mY];exact Rat.mul_pos hYp N0)
 have ht:=hm2 (n*n*n) nn (by
   have:(1:Rat)<=((n*n*n:Nat):Rat):=by
     have e3:((n*n*n:Nat):Rat)=(n:Rat)*(n:Rat)*(n:Rat):=by
       have:((n*n*n:Nat):Int)=(n:Int)*n*n:=by simp
       have h2:(((n*n*n:Nat):Int):Rat)=((n:Int):Rat)*((n:Int):Rat)*((n:Int):Rat):=by rw [this,rcast_mul,rcast_mul]
       exact h2
     rw [e3];exact n3p
   rcases Nat.eq_zero_or_pos (n*n*n) with c | c
   · rw [c] at this;exact absurd this (by decide)
   · exact c) (by omega) (Nat.le_refl _)
 have e3:((n*n*n:Nat):Rat)=(n:Rat)*(n:Rat)*(n:Rat):=by
   have:((n*n*n:Nat):Int)=(n:Int)*n*n:=by simp
   have h2:(((n*n*n:Nat):Int):Rat)=((n:Int):Rat)*((n:Int):Rat)*((n:Int):Rat):=by rw [this,rcast_mul,rcast_mul]
   exact h2
 rw [e3] at ht
 rw [mX,mY] at fin
 have hms0:bx (n*n*n) (cR K)<=bx nn (cR K):=by
   have:=uE (L:=nn) (M:=n*n*n) (a:=(0,0,0)) (f:=cR K) (fun p hp=>hkn.rho p hp) (fun p hp=>by simp only [inb,va] at *;omega)
   have e:∀z:V3,va (0,0,0) z=z:=fun z=>by obtain⟨a,b,c⟩:=z;simp only [va,Prod.mk.injEq];omega
   simp only [e] at this
   exact this
 have hms1:=hm1 (n*n*n) (by omega)
 -- plain algebra from here
 clear hU hEn hkb hkn hm1 hm2 hC hpot hnear hE inX inY hX hY mX mY heN heM he hn0 hnnM dpos
 generalize bx nn (cR K)=m at *
 generalize bx (n*n*n) (cR K)=ms at *
 generalize tot X=a at *
 generalize tot Y=b at *
 generalize ns M=N at *
 generalize b*N / ((L1+1 - R:Int):Rat)=lam at *
 generalize hMq:(M:Rat)=Mr at *
 generalize (n:Rat)=r at *
 generalize 1 / r=j at *
 generalize 1 / Mr=i at *
 have j1:56700*j<=1:=by
   have:=rmul_le' n8 inn0
   rw [inn] at this
   grind
 have j2:j*j<=j:=by
   have:=rmul_le' (show j<=1 by grind) inn0
   grind
 -- the tail
 have ht2:m - ms<=2268*(j*j*j*(j*j*j)):=by
   have:=rmul_le ht (c:=j*j*j*(j*j*j)) (sq_nonneg _)
   have e1:(m - ms)*(r*r*r*(r*r*r))*(j*j*j*(j*j*j))=(m - ms)*((j*r)*(j*r)*(j*r)*((j*r)*(j*r)*(j*r))):=by grind
   rw [e1,inn] at this
   grind
 have mp:0 < m:=by grind
 have ht3:Mr*(m - ms)<=56700*j*m:=by
   have b1:=rmul_le' ht2 (show 0<=Mr by grind)
   have b2:Mr*(2268*(j*j*j*(j*j*j)))=2268*(j*j)*((j*r)*(j*r)*(j*r)*(j*r)):=by rw [hMr];grind
   rw [b2,inn] at b1
   have b3:=rmul_le' hmm inn0
   grind
 have ht4:m*(1 - 56700*j)<=ms:=by
   have b1:m - ms<=Mr*(m - ms):=by
     have:=rmul_le M1 (show 0<=m - ms by grind)
     grind
   grind
 have hW:0 < V - (8*V+3*b)*j:=by grind
 have ms2:m*m*(1 - 113400*j)<=ms*ms:=by
   have c0:0<=m*(1 - 56700*j):=Rat.mul_nonneg (Rat.le_of_lt mp) (by grind)
   have c1:=rmul_le ht4 c0
   have c2:=rmul_le' ht4 (show 0<=ms by grind)
   have c3:0<=m*m*(56700*j*(56700*j)):=Rat.mul_nonneg (sq_nonneg m) (sq_nonneg _)
   grind
 have hvl2:N*i*(V - (8*V+3*b)*j)<=N*((1 - 8*j)*V - j*b)*i - lam:=by grind
 -- fin divided by N^3 i
 have qk1:=rmul_le' hvl2 (show 0<=a*N*ms*(a*N*ms) from sq_nonneg _)
 have qk2:a*N*ms*(a*N*ms)*(N*i*(V - (8*V+3*b)*j))<=(m*(N*N*(E+a*a*C*j)*i)+a*N*(a*N)*(1 / 4)*(m - ms))*(b*N*m):=Rat.le_trans qk1 fin
 have qk3:a*a*(ms*ms)*(V - (8*V+3*b)*j)<=(m*(E+a*a*C*j)+a*a*(1 / 4)*(Mr*(m - ms)))*(b*m):=by
   have ip:0 < N*N*N*i:=by
     have:0 < i:=by
       by_cases c:i=0
       · rw [c] at iM;grind
       · grind
     exact Rat.mul_pos (Rat.mul_pos (Rat.mul_pos N0 N0) N0) this
   have e1:a*N*ms*(a*N*ms)*(N*i*(V - (8*V+3*b)*j))=(a*a*(ms*ms)*(V - (8*V+3*b)*j))*(N*N*N*i):=by grind
   have e2:(m*(N*N*(E+a*a*C*j)*i)+a*N*(a*N)*(1 / 4)*(m - ms))*(b*N*m)=((m*(E+a*a*C*j)+a*a*(1 / 4)*(Mr*(m - ms)))*(b*m))*(N*N*N*i):=by
     have:a*N*(a*N)*(1 / 4)*(m - ms)=a*N*(a*N)*(1 / 4)*(m - ms)*(i*Mr):=by rw [iM];grind
     rw [this];grind
   rw [e1,e2] at qk2
   generalize a*a*(ms*ms)*(V - (8*V+3*b)*j)=Lh at *
   generalize (m*(E+a*a*C*j)+a*a*(1 / 4)*(Mr*(m - ms)))*(b*m)=Rh at *
   by_cases c:Lh<=Rh
   · exact c
   · have:=Rat.mul_pos (a:=Lh - Rh) (b:=N*N*N*i) (by grind) ip
     grind
 have aa0:=sq_nonneg a
 have qk4:a*a*(m*m*(1 - 113400*j))*(V - (8*V+3*b)*j)<=a*a*(ms*ms)*(V - (8*V+3*b)*j):=rmul_le (rmul_le' ms2 aa0) (Rat.le_of_lt hW)
 have qk5:(m*(E+a*a*C*j)+a*a*(1 / 4)*(Mr*(m - ms)))*(b*m)<=(m*(E+a*a*C*j)+a*a*(1 / 4)*(56700*j*m))*(b*m):=by
   have:=rmul_le' ht3 (show 0<=a*a*(1 / 4) by grind)
   exact rmul_le (by grind) (Rat.mul_nonneg hY0 (Rat.le_of_lt mp))
 have qk6:a*a*((1 - 113400*j)*(V - (8*V+3*b)*j))<=b*(E+a*a*(C+14175)*j):=by
   have e1:a*a*(m*m*(1 - 113400*j))*(V - (8*V+3*b)*j)=(a*a*((1 - 113400*j)*(V - (8*V+3*b)*j)))*(m*m):=by grind
   have e2:(m*(E+a*a*C*j)+a*a*(1 / 4)*(56700*j*m))*(b*m)=(b*(E+a*a*(C+14175)*j))*(m*m):=by grind
   have qk7:=Rat.le_trans qk4 (Rat.le_trans qk3 qk5)
   rw [e1,e2] at qk7
   have mm:=Rat.mul_pos mp mp
   generalize a*a*((1 - 113400*j)*(V - (8*V+3*b)*j))=Lh at *
   generalize b*(E+a*a*(C+14175)*j)=Rh at *
   by_cases c:Lh<=Rh
   · exact c
   · have:=Rat.mul_pos (a:=Lh - Rh) (b:=m*m) (by grind) mm
     grind
 have qk8:V - (113408*V+3*b)*j<=(1 - 113400*j)*(V - (8*V+3*b)*j):=by
   have:0<=113400*j*((8*V+3*b)*j):=Rat.mul_nonneg (by grind) (Rat.mul_nonneg (by grind) inn0)
   grind
 have qk9:=rmul_le' qk8 aa0
 grind
theorem potAt_of {Y:List Tri} {V:Rat} {t:Tri} (lo:Tri->Rat)(hlo:∀s,s∈Y->0<=lo s/\∃f:Int,1<=f/\lo s*lo s*(f:Rat)<=1/\bEa t s f)(hV:V<=ls Y (fun s=>s.q*lo s)) {M i j:Nat} (hij:i+j < M):potAt Y V t M i j :=
 ⟨lo,fun s hs=>by
   obtain⟨l0,f,f1,f2,f3⟩:=hlo s hs
   exact⟨l0,f,f1,f2,fun i' j' h=>bAc f3 hij h⟩,hV⟩
end CapT
end Go.Proofs.YtaeagjnpobdglaaGreat
namespace Go.Proofs.YtaeagjnpobdglaaGreat
open Go.Proofs Go.Aw Go.RowKit
set_option maxRecDepth 100000
def uH (w:Int)(q:PN)(X:P3):Prop:=∃i j k:Int,0<=i/\0<=j/\0<=k/\i+j+k=w/\X.1=i*q.1.1+j*q.2.1.1+k*q.2.2.1/\X.2.1=i*q.1.2.1+j*q.2.1.2.1+k*q.2.2.2.1/\X.2.2=i*q.1.2.2+j*q.2.1.2.2+k*q.2.2.2.2
theorem aHn {w v:Int} {q:PN} {X Y:P3} (h:uH w q X)(h':uH v q Y):uH (w+v) q (ad X Y):=by
 obtain⟨i,j,k,a1,a2,a3,a4,a5,a6,a7⟩:=h
 obtain⟨i',j',k',b1,b2,b3,b4,b5,b6,b7⟩:=h'
 refine⟨i+i',j+j',k+k',by omega,by omega,by omega,by omega,?_,?_,?_⟩
 · simp only [ad];rw [a5,b5];grind
 · simp only [ad];rw [a6,b6];grind
 · simp only [ad];rw [a7,b7];grind
theorem aJh:∀(d:Nat) {m:Int} {q b:PN},bdP m q->m*2 ^ d<=100000->0<=m->b∈aR d q->uH (2 ^ d) q b.1/\uH (2 ^ d) q b.2.1/\uH (2 ^ d) q b.2.2
 | 0,m,q,b,h,_,_,hx=>by
   simp only [aR,List.mem_singleton] at hx
   subst hx
   exact⟨⟨1,0,0,by simp,by simp,by simp,by simp,by simp,by simp,by simp⟩,⟨0,1,0,by simp,by simp,by simp,by simp,by simp,by simp,by simp⟩,⟨0,0,1,by simp,by simp,by simp,by simp,by simp,by simp,by simp⟩⟩
 | d+1,m,q,b,h,hm,h0,hx=>by
   rw [gC,List.mem_flatMap] at hx
   obtain⟨y,hy,hx⟩:=hx
   have hp:(0:Int) < 2 ^ d:=Int.pow_pos (by omega)
   have hle:m*2 ^ d<=m*2 ^ (d+1):=Int.mul_le_mul_of_nonneg_left (by rw [Int.pow_succ];omega) h0
   have hb:=vK d h (by omega) h0 hy
   obtain⟨i1,i2,i3⟩:=aJh d h (by omega) h0 hy
   obtain⟨a1,b1,a2,b2,a3,b3,h1,k1,h2,k2,h3,k3,rfl⟩:=aVa (hb.mono (by omega)) hx
   have key:∀a:P3,(a=y.1\/a=y.2.1\/a=y.2.2)->uH (2 ^ d) q a:=fun a ha=>by rcases ha with rfl | rfl | rfl<;>assumption
   have e:(2:Int) ^ (d+1)=2 ^ d+2 ^ d:=by rw [Int.pow_succ];omega
   rw [e]
   exact⟨aHn (key _ h1) (key _ k1),aHn (key _ h2) (key _ k2),aHn (key _ h3) (key _ k3)⟩
theorem aN3 {q b:PN} {d:Int} (hq:bdP 64 q)(hd:0<=d/\d<=3)(hb:b∈aR d.toNat q):uH (sc d) q b.1/\uH (sc d) q b.2.1/\uH (sc d) q b.2.2:=by
 rcases d4 hd with rfl | rfl | rfl | rfl<;>exact aJh (m:=64) _ hq (by decide) (by decide) hb
theorem cau (i j k u v t:Int)(hi:0<=i)(hj:0<=j)(hk:0<=k):(i*u+j*v+k*t)*(i*u+j*v+k*t)<=(i+j+k)*(i*(u*u)+j*(v*v)+k*(t*t)):=by
 have h1:=Int.mul_nonneg (Int.mul_nonneg hi hj) (jF (u - v))
 have h2:=Int.mul_nonneg (Int.mul_nonneg hi hk) (jF (u - t))
 have h3:=Int.mul_nonneg (Int.mul_nonneg hj hk) (jF (v - t))
 have e:(i+j+k)*(i*(u*u)+j*(v*v)+k*(t*t)) - (i*u+j*v+k*t)*(i*u+j*v+k*t)=i*j*((u - v)*(u - v))+i*k*((u - t)*(u - t))+j*k*((v - t)*(v - t)):=by grind
 omega
theorem aN4 {w M:Int} {q:PN} {X Z:P3} (hw:1<=w)(h:uH w q X)(h1:ds (tm w q.1) Z<=M)(h2:ds (tm w q.2.1) Z<=M)(h3:ds (tm w q.2.2) Z<=M):ds X Z<=M:=by
 obtain⟨i,j,k,a1,a2,a3,a4,a5,a6,a7⟩:=h
 have c1:=cau i j k (w*q.1.1 - Z.1) (w*q.2.1.1 - Z.1) (w*q.2.2.1 - Z.1) a1 a2 a3
 have c2:=cau i j k (w*q.1.2.1 - Z.2.1) (w*q.2.1.2.1 - Z.2.1) (w*q.2.2.2.1 - Z.2.1) a1 a2 a3
 have c3:=cau i j k (w*q.1.2.2 - Z.2.2) (w*q.2.1.2.2 - Z.2.2) (w*q.2.2.2.2 - Z.2.2) a1 a2 a3
 rw [a4] at c1 c2 c3
 have f1:i*(w*q.1.1 - Z.1)+j*(w*q.2.1.1 - Z.1)+k*(w*q.2.2.1 - Z.1)=w*(X.1 - Z.1):=by rw [a5];subst a4;grind
 have f2:i*(w*q.1.2.1 - Z.2.1)+j*(w*q.2.1.2.1 - Z.2.1)+k*(w*q.2.2.2.1 - Z.2.1)=w*(X.2.1 - Z.2.1):=by rw [a6];subst a4;grind
 have f3:i*(w*q.1.2.2 - Z.2.2)+j*(w*q.2.1.2.2 - Z.2.2)+k*(w*q.2.2.2.2 - Z.2.2)=w*(X.2.2 - Z.2.2):=by rw [a7];subst a4;grind
 rw [f1] at c1;rw [f2] at c2;rw [f3] at c3
 have g1:=Int.mul_le_mul_of_nonneg_left h1 a1;have g2:=Int.mul_le_mul_of_nonneg_left h2 a2;have g3:=Int.mul_le_mul_of_nonneg_left h3 a3
 have e:w*w*ds X Z<=w*w*M:=by
   have e1:w*w*ds X Z=w*(X.1 - Z.1)*(w*(X.1 - Z.1))+w*(X.2.1 - Z.2.1)*(w*(X.2.1 - Z.2.1))+w*(X.2.2 - Z.2.2)*(w*(X.2.2 - Z.2.2)):=by unfold ds dt sb;grind
   have e2:w*(i*ds (tm w q.1) Z+j*ds (tm w q.2.1) Z+k*ds (tm w q.2.2) Z)=w*(i*((w*q.1.1 - Z.1)*(w*q.1.1 - Z.1))+j*((w*q.2.1.1 - Z.1)*(w*q.2.1.1 - Z.1))+k*((w*q.2.2.1 - Z.1)*(w*q.2.2.1 - Z.1)))+w*(i*((w*q.1.2.1 - Z.2.1)*(w*q.1.2.1 - Z.2.1))+j*((w*q.2.1.2.1 - Z.2.1)*(w*q.2.1.2.1 - Z.2.1))+k*((w*q.2.2.2.1 - Z.2.1)*(w*q.2.2.2.1 - Z.2.1)))+w*(i*((w*q.1.2.2 - Z.2.2)*(w*q.1.2.2 - Z.2.2))+j*((w*q.2.1.2.2 - Z.2.2)*(w*q.2.1.2.2 - Z.2.2))+k*((w*q.2.2.2.2 - Z.2.2)*(w*q.2.2.2.2 - Z.2.2))):=by unfold ds dt sb tm;grind
   have e3:w*(i*ds (tm w q.1) Z+j*ds (tm w q.2.1) Z+k*ds (tm w q.2.2) Z)<=w*(i*M+j*M+k*M):=Int.mul_le_mul_of_nonneg_left (by omega) (by omega)
   have e4:w*(i*M+j*M+k*M)=w*w*M:=by
     rw [show i*M+j*M+k*M=(i+j+k)*M by grind,a4];grind
   omega
 exact Int.le_of_mul_le_mul_left e (Int.mul_pos (by omega) (by omega))
theorem aL6 {w M lo:Int} {A B C i j k:Int} (hi:0<=i)(hj:0<=j)(hk:0<=k)(hw:i+j+k=w)(hw1:1<=w)(h1:w*A<=M/\lo<=w*A)(h2:w*B<=M/\lo<=w*B)(h3:w*C<=M/\lo<=w*C):lo<=i*A+j*B+k*C/\i*A+j*B+k*C<=M:=by
 have e:w*(i*A+j*B+k*C)=i*(w*A)+j*(w*B)+k*(w*C):=by grind
 have l1:=Int.mul_le_mul_of_nonneg_left h1.1 hi;have l2:=Int.mul_le_mul_of_nonneg_left h2.1 hj;have l3:=Int.mul_le_mul_of_nonneg_left h3.1 hk
 have m1:=Int.mul_le_mul_of_nonneg_left h1.2 hi;have m2:=Int.mul_le_mul_of_nonneg_left h2.2 hj;have m3:=Int.mul_le_mul_of_nonneg_left h3.2 hk
 have e1:i*M+j*M+k*M=w*M:=by rw [←hw];grind
 have e2:i*lo+j*lo+k*lo=w*lo:=by rw [←hw];grind
 exact⟨Int.le_of_mul_le_mul_left (a:=w) (by omega) (by omega),Int.le_of_mul_le_mul_left (a:=w) (by omega) (by omega)⟩
theorem aDi {w:Int} {q:PN} {X:P3} (hw:1<=w)(h:uH w q X):((oS (lN w q)).1<=X.1/\X.1<=(oT (lN w q)).1)/\((oS (lN w q)).2.1<=X.2.1/\X.2.1<=(oT (lN w q)).2.1)/\((oS (lN w q)).2.2<=X.2.2/\X.2.2<=(oT (lN w q)).2.2):=by
 obtain⟨i,j,k,a1,a2,a3,a4,a5,a6,a7⟩:=h
 have i1:=in3 (c:=lN w q) (a:=tm w q.1) (Or.inl rfl);have i2:=in3 (c:=lN w q) (a:=tm w q.2.1) (Or.inr (Or.inl rfl));have i3:=in3 (c:=lN w q) (a:=tm w q.2.2) (Or.inr (Or.inr rfl))
 simp only [tm] at i1 i2 i3
 rw [a5,a6,a7]
 exact⟨aL6 a1 a2 a3 a4 hw ⟨i1.2.1,i1.1⟩ ⟨i2.2.1,i2.1⟩ ⟨i3.2.1,i3.1⟩,aL6 a1 a2 a3 a4 hw ⟨i1.2.2.2.1,i1.2.2.1⟩ ⟨i2.2.2.2.1,i2.2.2.1⟩ ⟨i3.2.2.2.1,i3.2.2.1⟩,aL6 a1 a2 a3 a4 hw ⟨i1.2.2.2.2.2,i1.2.2.2.2.1⟩ ⟨i2.2.2.2.2.2,i2.2.2.2.2.1⟩ ⟨i3.2.2.2.2.2,i3.2.2.2.2.1⟩⟩
theorem aWd (c q:PN) {a b:P3} (ha:a=c.1\/a=c.2.1\/a=c.2.2)(hb:b=q.1\/b=q.2.1\/b=q.2.2):ds a b<=fa3 c q:=by
 unfold fa3
 have t1:=fun m (h:ds a b<=m) (n:Int)=>Int.le_trans h (dG m n)
 rcases ha with rfl | rfl | rfl<;>rcases hb with rfl | rfl | rfl<;>first | exact kS _ _ | (refine Int.le_trans ?_ (dG _ _);first | exact kS _ _ | (refine Int.le_trans ?_ (dG _ _);first | exact kS _ _ | (refine Int.le_trans ?_ (dG _ _);first | exact kS _ _ | (refine Int.le_trans ?_ (dG _ _);first | exact kS _ _ | (refine Int.le_trans ?_ (dG _ _);first | exact kS _ _ | (refine Int.le_trans ?_ (dG _ _);first | exact kS _ _ | (refine Int.le_trans ?_ (dG _ _);first | exact kS _ _ | (refine Int.le_trans ?_ (dG _ _);exact kS _ _))))))))
section
variable {q a b : PN} {d : Int}
theorem aTu (hq:bdP 64 q)(hd:0<=d/\d<=3)(hb:b∈aR d.toNat q):uL a (lN (sc d) q)<=uL a b:=by
 obtain⟨h1,h2,h3⟩:=aN3 hq hd hb
 have hw:=(aM8 d).1
 have x1:=aDi hw h1;have x2:=aDi hw h2;have x3:=aDi hw h3
 have key:∀u v w m:Int,m<=u->m<=v->m<=w->m<=zZ u v w:=fun u v w m e1 e2 e3=>by rcases aGa u v w with e | e | e<;>rw [e]<;>assumption
 have key2:∀u v w m:Int,u<=m->v<=m->w<=m->hi3 u v w<=m:=fun u v w m e1 e2 e3=>by rcases aGb u v w with e | e | e<;>rw [e]<;>assumption
 have gm:∀e f l h l' h':Int,l<=l'->h'<=h->gp e f l h*gp e f l h<=gp e f l' h'*gp e f l' h':=by
   intro e f l h l' h' e1 e2
   have:gp e f l h<=gp e f l' h':=by unfold gp mx;(repeat' split)<;>omega
   exact Int.mul_le_mul this this (aB9 _ _ _ _) (aB9 _ _ _ _)
 have g1:=gm (oS a).1 (oT a).1 _ _ _ _ (key _ _ _ _ x1.1.1 x2.1.1 x3.1.1) (key2 _ _ _ _ x1.1.2 x2.1.2 x3.1.2)
 have g2:=gm (oS a).2.1 (oT a).2.1 _ _ _ _ (key _ _ _ _ x1.2.1.1 x2.2.1.1 x3.2.1.1) (key2 _ _ _ _ x1.2.1.2 x2.2.1.2 x3.2.1.2)
 have g3:=gm (oS a).2.2 (oT a).2.2 _ _ _ _ (key _ _ _ _ x1.2.2.1 x2.2.2.1 x3.2.2.1) (key2 _ _ _ _ x1.2.2.2 x2.2.2.2 x3.2.2.2)
 exact Int.add_le_add (Int.add_le_add g1 g2) g3
end
def fH (d:Int):Int:=sc (2 - d)
theorem aHo {d:Int} (h:0<=d/\d<=2):fH d*sc d=4/\1<=fH d/\fH d<=4:=by
 have:d=0\/d=1\/d=2:=by omega
 rcases this with rfl | rfl | rfl<;>decide
noncomputable def aHp (d R:Int)(w:Rat)(c:PN):CapT.Tri:=⟨tm (fH d) c.1,tm (fH d) c.2.1,tm (fH d) c.2.2,w,(c,R)⟩
noncomputable def chs (d:Int)(L:List (PN×Int)):List CapT.Tri:=L.flatMap fun e=>(aR d.toNat e.1).map (aHp d (bY e.1 d) ((e.2:Int):Rat))
def uu:Rat:=1 / 4194304
theorem aTv:uu*uu*17592186044416=1:=by unfold uu;decide +kernel
theorem aDj:0 < uu:=by unfold uu;decide +kernel
theorem qV {α:Type} (g:α->Int):∀l:List α,CapT.ls l (fun a=>((g a:Int):Rat))=(((l.map g).sum:Int):Rat)
 | []=>rfl
 | a::l=>by rw [CapT.ls,qV g l,List.map_cons,List.sum_cons,CapT.rcast_add]
theorem nB {d:Int} {L:List (PN×Int)} {t:CapT.Tri} (h:t∈chs d L):∃e,e∈L/\∃c,c∈aR d.toNat e.1/\t=aHp d (bY e.1 d) ((e.2:Int):Rat) c:=by
 obtain⟨e,he,h⟩:=List.mem_flatMap.1 h
 obtain⟨c,hc,rfl⟩:=List.mem_map.1 h
 exact⟨e,he,c,hc,rfl⟩
theorem aHq {d:Int} {L:List (PN×Int)} (f:CapT.Tri->Rat):CapT.ls (chs d L) f=CapT.ls L (fun e=>CapT.ls (aR d.toNat e.1) (fun c=>f (aHp d (bY e.1 d) ((e.2:Int):Rat) c))):=by
 unfold chs
 rw [CapT.ls_flat]
 refine CapT.ls_congr (fun e _=>?_)
 rw [CapT.ls_map]
def nK (L:List (PN×Int)):Int:=(L.map (·.2)).sum
theorem aHr {d:Int} (hd:0<=d/\d<=2)(L:List (PN×Int)):CapT.tot (chs d L)=((sc d*sc d*nK L:Int):Rat):=by
 unfold CapT.tot
 rw [aHq]
 have h1:CapT.ls L (fun e=>CapT.ls (aR d.toNat e.1) (fun c=>(aHp d (bY e.1 d) ((e.2:Int):Rat) c).q))=CapT.ls L (fun e=>((sc d*sc d:Int):Rat)*((e.2:Int):Rat)):=by
   refine CapT.ls_congr (fun e _=>?_)
   have hl:=mV (d:=d) (by omega) e.1
   show CapT.ls (aR d.toNat e.1) (fun _=>((e.2:Int):Rat))=_
   rw [←hl]
   clear hl
   generalize aR d.toNat e.1=l
   induction l with
   | nil=>show(0:Rat)=_;rw [show(((([]:List PN).length:Nat):Int):Rat)=0 from rfl];grind
   | cons c l ih =>
     rw [CapT.ls,ih,List.length_cons,show((l.length+1:Nat):Int)=(l.length:Int)+1 by omega,CapT.rcast_add]
     rw [show((1:Int):Rat)=1 from rfl]
     grind
 rw [h1,CapT.ls_mul,qV (fun e:PN×Int=>e.2),←CapT.rcast_mul]
 rfl
noncomputable def aD4 (d:Int)(L:List (PN×Int)):Int:=(L.map fun e'=>((aR d.toNat e'.1).map fun b=>e'.2*(L.map fun e=>((aR d.toNat e.1).map fun c=>e.2*sI (bY e.1 d) d b c).sum).sum).sum).sum
noncomputable def PLs (d:Int)(L:List (PN×Int))(p:PN):Int:=(L.map fun e=>((aR d.toNat e.1).map fun c=>e.2*bLo d (lN (sc d) p) c).sum).sum
noncomputable def hcap (d:Int)(t t':CapT.Tri):Rat:=((sI t.o.2 d t'.o.1 t.o.1:Int):Rat)*uu
theorem bEe (d:Int)(L:List (PN×Int)):CapT.ls (chs d L) (fun t'=>t'.q*CapT.ls (chs d L) (fun t=>t.q*hcap d t t'))=((aD4 d L:Int):Rat)*uu:=by
 have inner:∀t':CapT.Tri,CapT.ls (chs d L) (fun t=>t.q*hcap d t t')=uu*(((L.map fun e=>((aR d.toNat e.1).map fun c=>e.2*sI (bY e.1 d) d t'.o.1 c).sum).sum:Int):Rat):=by
   intro t'
   rw [aHq,←qV,←CapT.ls_mul]
   refine CapT.ls_congr (fun e _=>?_)
   rw [←qV,←CapT.ls_mul]
   refine CapT.ls_congr (fun c _=>?_)
   rw [CapT.rcast_mul]
   show((e.2:Int):Rat)*(((sI (bY e.1 d) d t'.o.1 c:Int):Rat)*uu)=_
   grind
 rw [aHq]
 unfold aD4
 have e2:∀x:Rat,x*uu=uu*x:=fun x=>by grind
 rw [e2,←qV,←CapT.ls_mul]
 refine CapT.ls_congr (fun e' _=>?_)
 rw [←qV,←CapT.ls_mul]
 refine CapT.ls_congr (fun b _=>?_)
 rw [inner,CapT.rcast_mul]
 have hx:∀x y:Rat,x*(uu*y)=uu*(x*y):=fun x y=>by grind
 exact hx _ _
theorem bF4 (d:Int)(L:List (PN×Int))(p:PN):CapT.ls (chs d L) (fun s=>s.q*(((bLo d (lN (sc d) p) s.o.1:Int):Rat)*uu))=((PLs d L p:Int):Rat)*uu:=by
 rw [aHq]
 unfold PLs
 have e2:∀x:Rat,x*uu=uu*x:=fun x=>by grind
 rw [e2,←qV,←CapT.ls_mul]
 refine CapT.ls_congr (fun e _=>?_)
 rw [←qV,←CapT.ls_mul]
 refine CapT.ls_congr (fun c _=>?_)
 rw [CapT.rcast_mul]
 show((e.2:Int):Rat)*(((bLo d (lN (sc d) p) c:Int):Rat)*uu)=_
 grind
theorem aL7 {d R:Int} (hd:0<=d/\d<=2) {w:Rat} {p c:PN} (hp:vp p=0)(hc:c∈aR d.toNat p):CapT.tin (2048:Nat) (aHp d R w c):=by
 have h1:=oU (gH hp).1 (by omega) hc
 have h2:=aHo hd
 have key:∀x:P3,bd 512 x->CapT.inb ((2048:Nat):Int) (tm (fH d) x):=by
   intro x hx
   have a1:=bD (a:=4) (b:=512) (x:=fH d) (y:=x.1) (by omega) hx.1
   have a2:=bD (a:=4) (b:=512) (x:=fH d) (y:=x.2.1) (by omega) hx.2.1
   have a3:=bD (a:=4) (b:=512) (x:=fH d) (y:=x.2.2) (by omega) hx.2.2
   unfold CapT.inb tm
   simp only
   omega
 exact⟨key _ h1.1,key _ h1.2.1,key _ h1.2.2⟩
theorem bEf {H F:Int} (h:17592186044416<=H*H*F):1<=((H:Int):Rat)*uu*(((H:Int):Rat)*uu)*((F:Int):Rat):=by
 have h1:=CapT.rcast_le h
 rw [CapT.rcast_mul,CapT.rcast_mul] at h1
 have h2:=CapT.rmul_le' h1 (CapT.sq_nonneg uu)
 have h3:uu*uu*((17592186044416:Int):Rat)=1:=aTv
 rw [h3] at h2
 grind
theorem bAf {H F:Int} (h:H*H*F<=17592186044416):((H:Int):Rat)*uu*(((H:Int):Rat)*uu)*((F:Int):Rat)<=1:=by
 have h1:=CapT.rcast_le h
 rw [CapT.rcast_mul,CapT.rcast_mul] at h1
 have h2:=CapT.rmul_le' h1 (CapT.sq_nonneg uu)
 have h3:uu*uu*((17592186044416:Int):Rat)=1:=aTv
 rw [h3] at h2
 grind
theorem aXg {d:Int} (hd:0<=d/\d<=2):NN (sc d)*(fH d*fH d)=17592186044416:=by
 have:d=0\/d=1\/d=2:=by omega
 rcases this with rfl | rfl | rfl<;>decide
theorem aTw (g a b c x y z:Int)(hg:0<=g):CapT.gapc (g*x) (g*y) (g*z) (g*a) (g*b) (g*c) (g*gp (zZ a b c) (hi3 a b c) (zZ x y z) (hi3 x y z)):=by
 have l1:=mB a b c;have l2:=mB x y z
 have h1:=mC a b c;have h2:=mC x y z
 have hm:∀u v w:Int,u+w<=v->g*u+g*w<=g*v:=by
   intro u v w h
   have:=Int.mul_le_mul_of_nonneg_left h hg
   rw [Int.mul_add] at this
   exact this
 have hc:gp (zZ a b c) (hi3 a b c) (zZ x y z) (hi3 x y z)=0\/gp (zZ a b c) (hi3 a b c) (zZ x y z) (hi3 x y z)=zZ x y z - hi3 a b c\/gp (zZ a b c) (hi3 a b c) (zZ x y z) (hi3 x y z)=zZ a b c - hi3 x y z:=by
   unfold gp mx;repeat' split
   all_goals omega
 generalize gp (zZ a b c) (hi3 a b c) (zZ x y z) (hi3 x y z)=G at *
 unfold CapT.gapc
 rcases hc with hc | hc | hc
 · left;rw [hc,Int.mul_zero]
 · right;right
   intro p hp q hq
   simp only [List.mem_cons,List.not_mem_nil,or_false] at hp hq
   rcases hp with rfl | rfl | rfl<;>rcases hq with rfl | rfl | rfl<;>exact hm _ _ _ (by omega)
 · right;left
   intro p hp q hq
   simp only [List.mem_cons,List.not_mem_nil,or_false] at hp hq
   rcases hp with rfl | rfl | rfl<;>rcases hq with rfl | rfl | rfl<;>exact hm _ _ _ (by omega)
theorem aWe {p:PN} {d:Int} (hp:vp p=0)(hd:0<=d/\d<=3):∃r,1<=r/\r*r<=dt (lL p) (lL p)/\sH d<=bY p d*bY p d*(128*r)/\1<=bY p d:=by
 obtain⟨r,hr,r1,r2,hu,hb⟩:=vQ hp hd
 have ht:=aKs d
 obtain⟨c1,_⟩:=qO (t:=sH d) (b:=128*r) (by omega)
 have c2:=Int.mul_le_mul_of_nonneg_right hu.2.1 (show 0<=128*r by omega)
 refine⟨r,r1,hr.2.1,Int.le_trans c1 c2,?_⟩
 rcases Int.lt_or_le 0 (bY p d) with h | h
 · exact h
 · have h0:bY p d=0:=Int.le_antisymm h hu.1
   rw [h0] at c2
   omega
theorem bAg {d:Int} (hd:0<=d/\d<=2):sH d*(fH d*fH d)=3217*17592186044416:=by
 have:d=0\/d=1\/d=2:=by omega
 rcases this with rfl | rfl | rfl<;>decide
theorem aJi {d:Int} (hd:0<=d/\d<=2) {L:List (PN×Int)} (hL:∀e∈L,vp e.1=0/\0<=e.2):∀t,t∈chs d L->∀t',t'∈chs d L->0 < hcap d t t'/\((∃f:Int,1<=f/\1<=hcap d t t'*hcap d t t'*(f:Rat)/\CapT.nearT t' t f)\/CapT.rimT t (hcap d t t')):=by
 intro t ht t' ht'
 obtain⟨e,he,c,hc,rfl⟩:=nB ht
 obtain⟨e',he',b,hb,rfl⟩:=nB ht'
 have hp:=(hL e he).1
 have hg:=aHo hd
 obtain⟨r,r1,r2,r3,R1⟩:=aWe hp (d:=d) (by omega)
 have hb1:=aXg hd
 show 0 < ((sI (bY e.1 d) d b c:Int):Rat)*uu/\((∃f:Int,1<=f/\1<=((sI (bY e.1 d) d b c:Int):Rat)*uu*(((sI (bY e.1 d) d b c:Int):Rat)*uu)*(f:Rat)/\CapT.nearT _ _ f)\/CapT.rimT _ (((sI (bY e.1 d) d b c:Int):Rat)*uu))
 have rimcase:CapT.rimT (aHp d (bY e.1 d) ((e.2:Int):Rat) c) (((bY e.1 d:Int):Rat)*uu):=by
   have hn:=aKx (gH hp).1 (d:=d) (by omega) hc
   have hrr:1<=r*(fH d*fH d):=by
     have:=Int.mul_le_mul (a:=1) (b:=1) (c:=r) (d:=fH d*fH d) r1 (by have:=Int.mul_le_mul (a:=1) (b:=1) (c:=fH d) (d:=fH d) hg.2.1 hg.2.1 (by omega) (by omega);omega) (by omega) (by omega)
     omega
   refine⟨toNat (r*(fH d*fH d)),by omega,?_,?_,?_⟩
   · rw [Int.toNat_of_nonneg (by omega)]
     have e1:CapT.nsq (CapT.cr (CapT.vs (tm (fH d) c.2.1) (tm (fH d) c.1)) (CapT.vs (tm (fH d) c.2.2) (tm (fH d) c.1)))=(fH d*fH d)*(fH d*fH d)*dt (lL c) (lL c):=by
       simp only [CapT.nsq,CapT.cr,CapT.vs,tm,dt,lL,cr,sb]
       grind
     show _<=CapT.nsq (CapT.cr (CapT.vs (tm (fH d) c.2.1) (tm (fH d) c.1)) (CapT.vs (tm (fH d) c.2.2) (tm (fH d) c.1)))
     rw [e1,hn]
     have:=Int.mul_le_mul_of_nonneg_left r2 (show 0<=(fH d*fH d)*(fH d*fH d) from CapT.sq_int_nonneg _)
     grind
   · show 0 < CapT.nsq (CapT.vs (tm (fH d) c.2.1) (tm (fH d) c.1))
     have h0:=CapT.nsq_nonneg (CapT.vs (tm (fH d) c.2.1) (tm (fH d) c.1))
     have e1:CapT.nsq (CapT.vs (tm (fH d) c.2.1) (tm (fH d) c.1))=(fH d*fH d)*dt (sb c.2.1 c.1) (sb c.2.1 c.1):=by
       simp only [CapT.nsq,CapT.vs,tm,dt,sb]
       grind
     have l1:=CapT.lagr' (sb c.2.1 c.1) (sb c.2.2 c.1)
     have l2:=CapT.lagrC (sb c.2.2 c.1) (sb c.2.1 c.1)
     have n1:1<=dt (lL c) (lL c):=by rw [hn];exact(gH hp).2
     have e2:CapT.nsq (CapT.cr (sb c.2.2 c.1) (sb c.2.1 c.1))=dt (lL c) (lL c):=by
       simp only [CapT.nsq,CapT.cr,dt,lL,cr]
       grind
     have e3:CapT.nsq (sb c.2.1 c.1)=dt (sb c.2.1 c.1) (sb c.2.1 c.1):=rfl
     rw [e2,e3] at l2
     have s0:=CapT.sq_int_nonneg (CapT.dt (sb c.2.2 c.1) (sb c.2.1 c.1))
     have p1:1<=dt (sb c.2.1 c.1) (sb c.2.1 c.1):=by
       rcases Int.lt_or_le 0 (dt (sb c.2.1 c.1) (sb c.2.1 c.1)) with h | h
       · exact h
       · have hz:dt (sb c.2.1 c.1) (sb c.2.1 c.1)=0:=Int.le_antisymm h (by rw [←e3];exact CapT.nsq_nonneg _)
         rw [hz] at l2
         omega
     rw [e1]
     exact Int.mul_pos (Int.mul_pos (by omega) (by omega)) (by omega)
   · rw [Int.toNat_of_nonneg (by omega)]
     have t1:=bAg hd
     have t2:=Int.mul_le_mul_of_nonneg_right r3 (show 0<=fH d*fH d from CapT.sq_int_nonneg _)
     rw [t1] at t2
     have t3:3217*17592186044416<=bY e.1 d*bY e.1 d*(128*(r*(fH d*fH d))):=by grind
     have t4:=CapT.rcast_le t3
     rw [CapT.rcast_mul,CapT.rcast_mul (bY e.1 d*bY e.1 d),CapT.rcast_mul,CapT.rcast_mul 128] at t4
     have c1:((3217:Int):Rat)=3217:=rfl
     have c2:((17592186044416:Int):Rat)=17592186044416:=rfl
     have c3:((128:Int):Rat)=128:=rfl
     rw [c1,c2,c3] at t4
     have t5:=CapT.rmul_le' t4 (CapT.sq_nonneg uu)
     have t6:uu*uu*(3217*17592186044416)=3217*(uu*uu*17592186044416):=by grind
     rw [t6,aTv] at t5
     grind
 have pos:∀H:Int,1<=H->0 < ((H:Int):Rat)*uu:=fun H h=>Rat.mul_pos (CapT.rcast_pos (by omega)) aDj
 unfold sI
 by_cases hz:0 < uL c b
 · rw [if_pos hz]
   have hi:=aKz (N:=NN (sc d)) (n:=uL c b) (by
     have:d=0\/d=1\/d=2:=by omega
     rcases this with rfl | rfl | rfl<;>decide) (by omega)
   have ho:of1 (sc d) (uL c b)=inv (NN (sc d)) (uL c b):=by unfold of1;rw [if_neg (by omega)]
   by_cases hR:(of1 (sc d) (uL c b)).2 < bY e.1 d
   · rw [if_pos hR]
     rw [ho]
     refine⟨pos _ hi.1,.inl ⟨uL c b*(fH d*fH d),?_,?_,?_⟩⟩
     · have:=Int.mul_le_mul (a:=1) (b:=1) (c:=uL c b) (d:=fH d*fH d) (by omega) (by have:=Int.mul_le_mul (a:=1) (b:=1) (c:=fH d) (d:=fH d) hg.2.1 hg.2.1 (by omega) (by omega);omega) (by omega) (by omega)
       omega
     · refine bEf ?_
       have:=Int.mul_le_mul_of_nonneg_right hi.2.1 (show 0<=fH d*fH d from CapT.sq_int_nonneg _)
       rw [hb1] at this
       grind
     · refine⟨(fH d*gp (oS c).1 (oT c).1 (oS b).1 (oT b).1,fH d*gp (oS c).2.1 (oT c).2.1 (oS b).2.1 (oT b).2.1,fH d*gp (oS c).2.2 (oT c).2.2 (oS b).2.2 (oT b).2.2),Int.mul_nonneg (by omega) (aB9 ..),Int.mul_nonneg (by omega) (aB9 ..),Int.mul_nonneg (by omega) (aB9 ..),?_,aTw _ _ _ _ _ _ _ (by omega),aTw _ _ _ _ _ _ _ (by omega),aTw _ _ _ _ _ _ _ (by omega)⟩
       unfold uL nr CapT.nsq
       simp only
       exact Int.le_of_eq (by grind)
   · rw [if_neg hR]
     exact⟨pos _ R1,.inr rimcase⟩
 · rw [if_neg hz]
   exact⟨pos _ R1,.inr rimcase⟩
theorem aHs {w g:Int} {q:PN} {X:P3} (hg:0<=g)(h:uH w q X):uH (g*w) q (tm g X):=by
 obtain⟨i,j,k,hi,hj,hk,hw,h1,h2,h3⟩:=h
 refine⟨g*i,g*j,g*k,Int.mul_nonneg hg hi,Int.mul_nonneg hg hj,Int.mul_nonneg hg hk,?_,?_,?_,?_⟩
 · rw [←hw];grind
 · simp only [tm];rw [h1];grind
 · simp only [tm];rw [h2];grind
 · simp only [tm];rw [h3];grind
theorem aJj {d R:Int} (hd:0<=d/\d<=2) {w:Rat} {p c:PN} (hp:vp p=0)(hc:c∈aR d.toNat p):∀P,P∈[(aHp d R w c).A,(aHp d R w c).B,(aHp d R w c).C]->uH 4 p P:=by
 obtain⟨h1,h2,h3⟩:=aN3 (gH hp).1 (d:=d) (by omega) hc
 have hg:=aHo hd
 intro P hP
 simp only [List.mem_cons,List.not_mem_nil,or_false] at hP
 rw [←hg.1]
 rcases hP with rfl | rfl | rfl
 · exact aHs (by omega) h1
 · exact aHs (by omega) h2
 · exact aHs (by omega) h3
theorem aWf {d d':Int} (hd:0<=d/\d<=2)(hd':0<=d'/\d'<=2) {L L':List (PN×Int)} (hL:∀e∈L,vp e.1=0/\0<=e.2)(hL':∀e∈L',vp e.1=0/\0<=e.2) {V0:Int} (hV:∀e∈L,V0<=PLs d' L' e.1) :
   ∀t,t∈chs d L->∀M i j:Nat,i+j < M->CapT.potAt (chs d' L') (((V0:Int):Rat)*uu) t M i j:=by
 intro t ht M i j hij
 obtain⟨e,he,b,hb,rfl⟩:=nB ht
 have hp:=(hL e he).1
 refine CapT.potAt_of (fun s=>((bLo d' (lN (sc d') e.1) s.o.1:Int):Rat)*uu) (fun s hs=>?_) ?_ hij
 · obtain⟨e',he',c,hc,rfl⟩:=nB hs
   have hp':=(hL' e' he').1
   have hg:=aHo hd'
   have hb1:=aXg hd'
   have hfp:=aNj (q:=lN (sc d') e.1) hp' (d:=d') (by omega) hc
   have hN:0<=NN (sc d')/\NN (sc d')<=288230376151711744:=aCc (qN d')
   obtain⟨k,k1,k2,k3,k4,k5,k6,k7,k8⟩:=lM hN hfp
   have hbl:bLo d' (lN (sc d') e.1) c=k:=by
     unfold bLo of1
     rw [if_neg (by omega)]
     unfold inv
     exact k1
   refine⟨?_,fa3 c (lN (sc d') e.1)*(fH d'*fH d'),?_,?_,?_⟩
   · show 0<=((bLo d' (lN (sc d') e.1) c:Int):Rat)*uu
     rw [hbl]
     exact Rat.mul_nonneg (CapT.rcast_le (a:=0) k3) (Rat.le_of_lt aDj)
   · have:=Int.mul_le_mul (a:=1) (b:=1) (c:=fa3 c (lN (sc d') e.1)) (d:=fH d'*fH d') hfp (by have:=Int.mul_le_mul (a:=1) (b:=1) (c:=fH d') (d:=fH d') hg.2.1 hg.2.1 (by omega) (by omega);omega) (by omega) (by omega)
     omega
   · show((bLo d' (lN (sc d') e.1) c:Int):Rat)*uu*(((bLo d' (lN (sc d') e.1) c:Int):Rat)*uu)*_<=1
     rw [hbl]
     refine bAf ?_
     have:=Int.mul_le_mul_of_nonneg_right k8 (show 0<=fH d'*fH d' from CapT.sq_int_nonneg _)
     rw [hb1] at this
     grind
   · intro P hP Q hQ
     have hh:=aJj hd hp hb P hP
     have hQ':∃a,(a=c.1\/a=c.2.1\/a=c.2.2)/\Q=tm (fH d') a:=by
       simp only [List.mem_cons,List.not_mem_nil,or_false] at hQ
       rcases hQ with rfl | rfl | rfl
       · exact⟨_,.inl rfl,rfl⟩
       · exact⟨_,.inr (.inl rfl),rfl⟩
       · exact⟨_,.inr (.inr rfl),rfl⟩
     obtain⟨a,ha,rfl⟩:=hQ'
     have one:∀x:P3,(tm (sc d') x=(lN (sc d') e.1).1\/tm (sc d') x=(lN (sc d') e.1).2.1\/tm (sc d') x=(lN (sc d') e.1).2.2)->ds (tm 4 x) (tm (fH d') a)<=fa3 c (lN (sc d') e.1)*(fH d'*fH d'):=by
       intro x hx
       have h1:=aWd c (lN (sc d') e.1) ha hx
       have h2:=Int.mul_le_mul_of_nonneg_right h1 (show 0<=fH d'*fH d' from CapT.sq_int_nonneg _)
       have e1:ds (tm 4 x) (tm (fH d') a)=ds a (tm (sc d') x)*(fH d'*fH d'):=by
         rw [←hg.1]
         simp only [ds,dt,sb,tm]
         grind
       rw [e1];exact h2
     have:=aN4 (w:=4) (Z:=tm (fH d') a) (by decide) hh (one e.1.1 (.inl rfl)) (one e.1.2.1 (.inr (.inl rfl))) (one e.1.2.2 (.inr (.inr rfl)))
     exact this
 · rw [bF4]
   exact CapT.rmul_le (CapT.rcast_le (hV e he)) (Rat.le_of_lt aDj)
theorem bEg {d d':Int} (hd:0<=d/\d<=2)(hd':0<=d'/\d'<=2) {L L':List (PN×Int)} (hL:∀e∈L,vp e.1=0/\0<=e.2)(hL':∀e∈L',vp e.1=0/\0<=e.2) {V0 E0:Int} (hV:∀e∈L,V0<=PLs d' L' e.1)(hE:aD4 d L<=E0) :
   (sc d*sc d*nK L)*(sc d*sc d*nK L)*V0<=(sc d'*sc d'*nK L')*E0:=by
 have key:=CapT.cap (X:=chs d L) (Y:=chs d' L') (G:=2048) (h:=hcap d) (V:=((V0:Int):Rat)*uu) (E:=((E0:Int):Rat)*uu)
   (fun t ht=>by
     obtain⟨e,he,c,hc,rfl⟩:=nB ht
     exact⟨CapT.rcast_le (a:=0) (hL e he).2,aL7 hd (hL e he).1 hc⟩)
   (fun t ht=>by
     obtain⟨e,he,c,hc,rfl⟩:=nB ht
     exact⟨CapT.rcast_le (a:=0) (hL' e he).2,aL7 hd' (hL' e he).1 hc⟩)
   (aWf hd hd' hL hL' hV) (aJi hd hL) (by
     rw [bEe]
     exact CapT.rmul_le (CapT.rcast_le hE) (Rat.le_of_lt aDj))
 rw [aHr hd,aHr hd'] at key
 have h1:(((sc d*sc d*nK L)*(sc d*sc d*nK L)*V0:Int):Rat)*uu<=(((sc d'*sc d'*nK L')*E0:Int):Rat)*uu:=by
   rw [CapT.rcast_mul,CapT.rcast_mul (sc d*sc d*nK L),CapT.rcast_mul (sc d'*sc d'*nK L')]
   grind
 have h2:(((sc d*sc d*nK L)*(sc d*sc d*nK L)*V0:Int):Rat)<=(((sc d'*sc d'*nK L')*E0:Int):Rat):=by
   rcases Rat.le_total (a:=(((sc d*sc d*nK L)*(sc d*sc d*nK L)*V0:Int):Rat)) (b:=(((sc d'*sc d'*nK L')*E0:Int):Rat)) with h | h
   · exact h
   · have hu:uu*4194304=1:=by unfold uu;decide +kernel
     have h3:=CapT.rmul_le h1 (show(0:Rat)<=4194304 by decide +kernel)
     have hx:∀x:Rat,x*uu*4194304=x*(uu*4194304):=fun x=>by grind
     rw [hx,hx,hu] at h3
     grind
 exact Rat.intCast_le_intCast.mp h2
theorem bEh {d:Int} (hd:0<=d/\d<=2) {L:List (PN×Int)} (hL:∀e∈L,vp e.1=0/\0<=e.2) {c:P3} {m B E0:Int} (hc:bd 256 c)(hm:∀e∈L,ds e.1.1 c<=m/\ds e.1.2.1 c<=m/\ds e.1.2.2 c<=m)(hm1:1<=m)(hB:m*1099511627776<=B*B)(hB0:1<=B)(hE:aD4 d L<=E0) :
   (sc d*sc d*nK L)*(sc d*sc d*nK L)*1099511627776<=B*E0:=by
 have hBr:=CapT.rcast_pos (a:=B) (by omega)
 have iB:=CapT.odm hBr
 have iB0:=CapT.inv_nn (Rat.le_of_lt hBr)
 have key:=CapT.cap (X:=chs d L) (Y:=[⟨tm 4 c,tm 4 c,tm 4 c,1,((c,c,c),0)⟩]) (G:=2048) (h:=hcap d) (V:=262144*(1 / ((B:Int):Rat))) (E:=((E0:Int):Rat)*uu)
   (fun t ht=>by
     obtain⟨e,he,c,hc,rfl⟩:=nB ht
     exact⟨CapT.rcast_le (a:=0) (hL e he).2,aL7 hd (hL e he).1 hc⟩)
   (fun t ht=>by
     obtain rfl:=List.mem_singleton.1 ht
     have:CapT.inb ((2048:Nat):Int) (tm 4 c):=by
       unfold CapT.inb tm bd at *
       simp only
       omega
     exact⟨show(0:Rat)<=1 by decide +kernel,this,this,this⟩)
   (fun t ht M i j hij=>by
     obtain⟨e,he,b,hb,rfl⟩:=nB ht
     have hp:=(hL e he).1
     refine CapT.potAt_of (fun _=>262144*(1 / ((B:Int):Rat))) (fun s hs=>?_) ?_ hij
     · obtain rfl:=List.mem_singleton.1 hs
       refine⟨Rat.mul_nonneg (by decide +kernel) iB0,16*m,by omega,?_,?_⟩
       · have h1:=CapT.rcast_le hB
         rw [CapT.rcast_mul,CapT.rcast_mul] at h1
         have h2:=CapT.rmul_le' h1 (CapT.sq_nonneg (1 / ((B:Int):Rat)))
         have e1:(1 / ((B:Int):Rat))*(1 / ((B:Int):Rat))*(((B:Int):Rat)*((B:Int):Rat))=(1 / ((B:Int):Rat)*((B:Int):Rat))*(1 / ((B:Int):Rat)*((B:Int):Rat)):=by grind
         rw [e1,iB] at h2
         have c1:((1099511627776:Int):Rat)=1099511627776:=rfl
         rw [c1] at h2
         rw [CapT.rcast_mul,show((16:Int):Rat)=16 from rfl]
         grind
       · intro P hP Q hQ
         have hh:=aJj hd hp hb P hP
         have hQ':Q=tm 4 c:=by
           simp only [List.mem_cons,List.not_mem_nil,or_false,or_self] at hQ
           exact hQ
         subst hQ'
         have e4:∀x:P3,ds (tm 4 x) (tm 4 c)=16*ds x c:=by
           intro x;simp only [ds,dt,sb,tm];grind
         have h3:=hm e he
         exact aN4 (w:=4) (Z:=tm 4 c) (by decide) hh (by rw [e4];omega) (by rw [e4];omega) (by rw [e4];omega)
     · simp only [CapT.ls];grind)
   (aJi hd hL) (by
     rw [bEe]
     exact CapT.rmul_le (CapT.rcast_le hE) (Rat.le_of_lt aDj))
 rw [aHr hd] at key
 have t1:CapT.tot [⟨tm 4 c,tm 4 c,tm 4 c,1,((c,c,c),0)⟩]=1:=by simp only [CapT.tot,CapT.ls];grind
 rw [t1] at key
 have h1:=CapT.rmul_le key (Rat.le_of_lt hBr)
 have hu:uu*4194304=1:=by unfold uu;decide +kernel
 have h2:=CapT.rmul_le h1 (show(0:Rat)<=4194304 by decide +kernel)
 have e2:∀x:Rat,x*(262144*(1 / ((B:Int):Rat)))*((B:Int):Rat)*4194304=x*1099511627776*(1 / ((B:Int):Rat)*((B:Int):Rat)):=fun x=>by grind
 have e3:1*(((E0:Int):Rat)*uu)*((B:Int):Rat)*4194304=((B:Int):Rat)*((E0:Int):Rat)*(uu*4194304):=by grind
 rw [e2,e3,iB,hu] at h2
 refine Rat.intCast_le_intCast.mp ?_
 rw [CapT.rcast_mul,CapT.rcast_mul (sc d*sc d*nK L),CapT.rcast_mul B]
 have c1:((1099511627776:Int):Rat)=1099511627776:=rfl
 rw [c1]
 grind
end Go.Proofs.YtaeagjnpobdglaaGreat
