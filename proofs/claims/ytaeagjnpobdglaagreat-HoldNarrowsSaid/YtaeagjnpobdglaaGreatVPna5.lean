/-
  Parts of the proofs of the laws: the executor, what functions of the program compute, and that it is what the statements ask. No premise.
-/
import Derived.Test.YtaeagjnpobdglaaGreatVPna4
set_option linter.unusedVariables false
set_option linter.unusedSimpArgs false
set_option maxHeartbeats 4000000
open Int (toNat)
namespace Go.Proofs.YtaeagjnpobdglaaGreat
open Go.Proofs Go.Aw Go.RowKit
set_option maxRecDepth 100000
theorem okl (m:ME)(h64:m.1.length<=64):∀(n:Nat)(v:List Bool)(i:Int),0<=i->toNat ((m.2.length:Int) - i) < n->aB (kK m) n (v,i)=0->∀j:Int,i<=j->j < (m.2.length:Int)->F69 m (m.2.getD (toNat j) default)=0:=by
 intro n
 induction n with
 | zero=>intro v i _ h;omega
 | succ n ih =>
   intro v i hi hn h j h1 h2
   have hlt:i < (m.2.length:Int):=by omega
   cases hf:((F69 (m.1,m.2) (m.2.getD (toNat i) default):Int) != 0) with
   | true =>
     have e:kK m (v,i)=.inr (F69 (m.1,m.2) (m.2.getD (toNat i) default)):=by
       simp only [kK];rw [bT hlt,cond_true,hf,cond_true]
     rw [aO e] at h
     exact absurd h (bne_iff_ne.1 hf)
   | false =>
     by_cases hj:j=i
     · subst hj;exact bne_eq_false_iff_eq.1 hf
     · have e:kK m (v,i)=.inl ((((v.set (toNat (m.2.getD (toNat i) default).1) true).set (toNat (m.2.getD (toNat i) default).2.1) true).set (toNat (m.2.getD (toNat i) default).2.2) true),(i+1)):=by
         simp only [kK];rw [bT hlt,cond_true,hf,cond_false]
       rw [aA e] at h
       exact ih _ (i+1) (by omega) (by omega) h j (by omega) h2
theorem iT {m:ME} (h:fB m=0):m.1.length<=64/\1<=m.2.length/\m.2.length<=96/\F68 m=0/\∀j:Int,0<=j->j < (m.2.length:Int)->F69 m (m.2.getD (toNat j) default)=0:=by
 unfold fB at h
 by_cases h1:(m.1.length:Int) > 64
 · rw [bT h1,cond_true] at h;exact absurd h (by decide)
 · rw [cJ h1,cond_false] at h
   cases h2:(!qI (m.2.length:Int) 1 96) with
   | true=>rw [h2,cond_true] at h;exact absurd h (by decide)
   | false =>
     have g:=iL h2
     rw [h2,cond_false] at h
     cases h3:((F68 (m.1,m.2):Int) != 0) with
     | true=>rw [h3,cond_true] at h;exact absurd h (bne_iff_ne.1 h3)
     | false =>
       rw [h3,cond_false] at h
       exact⟨by omega,by omega,by omega,bne_eq_false_iff_eq.1 h3,fun j h1 h2=>okl m (by omega) _ _ 0 (Int.le_refl 0) (by omega) h j h1 h2⟩
theorem qP {m:ME} (h:((fB m:Int) != 0)=false):mF m m.2.length/\m.2.length<=96:=by
 obtain⟨h1,_,h3,_,h4⟩:=iT (bne_eq_false_iff_eq.1 h)
 exact⟨fun i g1 g2=>mW (m:=m) (by rw [h4 i g1 g2];rfl) h1,h3⟩
def bF (a0:Zm):(List (Zt×Zt×Zt))×Int :=
 (bif (((fB (a0.1,a0.2)):Int) != 0) then
  (([]:List (Zt×Zt×Zt)),(fB (a0.1,a0.2)))
 else
  ((gD (a0.1,a0.2)),0))
theorem C90 (a0:Zm)(l0_1:a0.1.length<=9223372036854775807)(l0_2:a0.2.length<=9223372036854775807):Con Tryz.prog 90 [(.a [(.s 0 0 a0.1.length 3),(.s 1 0 a0.2.length 3)])] [(.live false true (flat dL a0.1)),(.live false true (flat dW a0.2))] (.t [(.s 2 0 (bF a0).1.length 9),(iv (bF a0).2)]) [(.live true true (flat dM (bF a0).1))]:=by
 refine aJ Tryz.func90 (by kernel_rfl) fun cx hcx=>?_
 let t0:List (St Tryz.prog):=[.c [0,1] (C35 (a0.1,a0.2) (by(try simp only [Lt]);omega) (by(try simp only [Lt]);omega))]
 cases h0:(((fB (a0.1,a0.2)):Int) != 0) with
 | true =>
  have q0:=bne_iff_ne.1 h0
  have e:=Eq.refl (bF a0);conv at e=>rhs;simp only [bF,h0,aI]
  rw [e]
  exact rt (t0++[.d h0]) [.slot 2 9] [3] hcx (by kernel_rfl)
 | false =>
  have q0:=bne_eq_false_iff_eq.1 h0
  have e:=Eq.refl (bF a0);conv at e=>rhs;simp only [bF,h0,aI]
  rw [e]
  exact rt (t0++[.d h0,.c [0,1] (bCm (a0.1,a0.2) (by(try simp only [Lt]);omega) (by(try simp only [Lt]);omega) (qP h0).1 (qP h0).2)]) [] [3] hcx (by kernel_rfl)
theorem aW6 (m:ME):bF m=bif ((fB m:Int) != 0) then([],fB m) else(m.2.map (eO m),0):=by
 unfold bF
 rw [show gD (m.1,m.2)=m.2.map (eO m) from aGk m]
theorem rO (m:ME):(bF m).1.length<=96:=by
 rw [aW6]
 cases h:((fB m:Int) != 0) with
 | true=>exact Nat.zero_le _
 | false=>rw [cond_false];show(m.2.map _).length<=96;rw [List.length_map];exact(qP h).2
theorem bC5 {R:Type} [Inhabited R] {p:Int->Prop} [DecidablePred p] {G:Int->R} {M:Int} {S:Int×Int->(Int×Int)⊕R} (hS:∀k b,0<=k->0 < b->k+b<=M->S (k,b)=if p (k+b) then .inl (k+b,b / 2) else .inl (k,b / 2))(h0:∀k,0<=k->k<=M->S (k,0)=.inr (G k)) :
   ∀(j f:Nat) (k:Int),j+2<=f->0<=k->k+2*2 ^ j<=M->p k->¬p (k+2*2 ^ j)->∃r,0<=r/\r<=M/\p r/\¬p (r+1)/\aB S f (k,2 ^ j)=G r:=by
 intro j
 induction j with
 | zero =>
   intro f k hf hk hb h1 h2
   obtain⟨f,rfl⟩:∃g,f=g+2:=⟨f - 2,by omega⟩
   simp only [Int.pow_zero] at h2 hb ⊢
   have hs:=hS k 1 hk (by omega) (by omega)
   by_cases hc:p (k+1)
   · rw [if_pos hc] at hs
     rw [aA hs,show((1:Int) / 2)=0 by omega,aO (h0 _ (by omega) (by omega))]
     exact⟨k+1,by omega,by omega,hc,by rw [show k+1+1=k+2*1 by omega];exact h2,rfl⟩
   · rw [if_neg hc] at hs
     rw [aA hs,show((1:Int) / 2)=0 by omega,aO (h0 _ hk (by omega))]
     exact⟨k,hk,by omega,h1,hc,rfl⟩
 | succ j ih =>
   intro f k hf hk hb h1 h2
   obtain⟨f,rfl⟩:∃g,f=g+1:=⟨f - 1,by omega⟩
   have hp:(0:Int) < 2 ^ j:=Int.pow_pos (by omega)
   rw [Int.pow_succ] at h2 hb ⊢
   have hs:=hS k (2 ^ j*2) hk (by omega) (by omega)
   have hd:(2:Int) ^ j*2 / 2=2 ^ j:=Int.mul_ediv_cancel _ (by omega)
   rw [hd] at hs
   by_cases hc:p (k+2 ^ j*2)
   · rw [if_pos hc] at hs
     rw [aA hs]
     refine ih f _ (by omega) (by omega) (by omega) hc ?_
     rw [show k+2 ^ j*2+2*2 ^ j=k+2*((2:Int) ^ j*2) by omega];exact h2
   · rw [if_neg hc] at hs
     rw [aA hs]
     refine ih f _ (by omega) hk (by omega) h1 ?_
     rw [show k+2*(2:Int) ^ j=k+2 ^ j*2 by omega];exact hc
theorem bC6 {R:Type} [Inhabited R] {p:Int->Prop} [DecidablePred p] {G:Int->R} {M:Int} {S:Int×Int->(Int×Int)⊕R} (hS:∀a b,0<=a->a < b->b<=M->S (a,b)=if p ((a+b+1) / 2) then .inl ((a+b+1) / 2,b) else .inl (a,(a+b+1) / 2 - 1))(h0:∀a,0<=a->a<=M->S (a,a)=.inr (G a)) :
   ∀(f:Nat) (a b:Int),0<=a->a<=b->b<=M->b - a < f->p a->¬p (b+1)->∃r,0<=r/\r<=M/\p r/\¬p (r+1)/\aB S f (a,b)=G r:=by
 intro f
 induction f with
 | zero=>intro a b _ h _ hf;omega
 | succ f ih =>
   intro a b ha hab hb hf h1 h2
   by_cases he:a=b
   · subst he
     rw [aO (h0 a ha hb)];exact⟨a,ha,hb,h1,h2,rfl⟩
   · have hs:=hS a b ha (by omega) hb
     by_cases hc:p ((a+b+1) / 2)
     · rw [if_pos hc] at hs
       rw [aA hs]
       exact ih _ _ (by omega) (by omega) hb (by omega) hc h2
     · rw [if_neg hc] at hs
       rw [aA hs]
       refine ih _ _ ha (by omega) (by omega) (by omega) h1 ?_
       rw [show(a+b+1) / 2 - 1+1=(a+b+1) / 2 by omega];exact hc
theorem um1 {a b:Int} (h:0<=a/\a<=b/\b<=1099511627776):IntKind.wrap .u64 (Int.tdiv (IntKind.wrap .u64 ((IntKind.wrap .u64 (a+b))+1)) 2)=(a+b+1) / 2:=by
 rw [vS (a+b),Int.emod_eq_of_lt (a:=a+b) (by omega) (by omega),vS (a+b+1),Int.emod_eq_of_lt (a:=a+b+1) (by omega) (by omega),Int.tdiv_eq_ediv_of_nonneg (by omega),vS,Int.emod_eq_of_lt (by omega) (by omega)]
theorem um2 {a b:Int} (h:0<=a/\a < b/\b<=1099511627776):IntKind.wrap .u64 ((IntKind.wrap .u64 (Int.tdiv (IntKind.wrap .u64 ((IntKind.wrap .u64 (a+b))+1)) 2)) - 1)=(a+b+1) / 2 - 1:=by
 rw [um1 (by omega),vS,Int.emod_eq_of_lt (by omega) (by omega)]
theorem aVi {b:Int} (h:0<=b/\b<=1099511627776):W (Int.tdiv b 2)=b / 2:=by rw [Int.tdiv_eq_ediv_of_nonneg (by omega),aE (by omega) (by omega)]
noncomputable def aNh:Code:=(aD [1,1,1,1,1,0,1] [] (aG Tryz.f56) []).1
noncomputable def aNi:List K:=(aD [1,1,1,1,1,0,1] [] (aG Tryz.f56) []).2
def aGo (a0:Int)(v1 v2:Int):LS:=⟨iH 70 [(2,(.p 0 0)),(4,(iv (iU a0))),(5,(iv (W ((W (a0 - (W ((iU a0)*(iU a0)))))*2 ^ (min (toNat 40) 64))))),(6,(iv v1)),(7,(iv v2))],[(.live true false [(iv 0),(iv 0)])]⟩
def mZ (a0:Int):Int×Int->(Int×Int)⊕((Int×Int)×Int)
 | (v1,v2) =>
  (bif (decide ((v2:Int) > 0)) then
   (bif (decide (((W ((W ((W ((W (2*(iU a0)))*(W (v1+v2))))*2 ^ (min (toNat 20) 64)))+(W ((W (v1+v2))*(W (v1+v2)))))):Int)<=(W ((W (a0 - (W ((iU a0)*(iU a0)))))*2 ^ (min (toNat 40) 64))))) then
    (.inl ((W (v1+v2)),(W (Int.tdiv v2 2))))
   else
    (.inl (v1,(W (Int.tdiv v2 2)))))
  else
   (bif (((W ((W ((W ((W (2*(iU a0)))*v1))*2 ^ (min (toNat 20) 64)))+(W (v1*v1)))):Int) == (W ((W (a0 - (W ((iU a0)*(iU a0)))))*2 ^ (min (toNat 40) 64)))) then
    (.inr ((qL (W ((W ((iU a0)*2 ^ (min (toNat 20) 64)))+v1)) (W ((W ((iU a0)*2 ^ (min (toNat 20) 64)))+v1))).1,(qL (W ((W ((iU a0)*2 ^ (min (toNat 20) 64)))+v1)) (W ((W ((iU a0)*2 ^ (min (toNat 20) 64)))+v1))).2))
   else
    (.inr ((qL (W ((W ((iU a0)*2 ^ (min (toNat 20) 64)))+v1)) (W ((W ((W ((iU a0)*2 ^ (min (toNat 20) 64)))+v1))+1))).1,(qL (W ((W ((iU a0)*2 ^ (min (toNat 20) 64)))+v1)) (W ((W ((W ((iU a0)*2 ^ (min (toNat 20) 64)))+v1))+1))).2))))
theorem bC7 (a0:Int) {cx:Cx} (hcx:cx.base=0):∀(n:Nat)(v1 v2:Int),(0<=v2)/\(v2<=1099511627776)->toNat v2 < n->Aw.Good Tryz.prog none 9 (bodyPost Tryz.prog Tryz.f56 (RR cx (.t [(.a (k2 (aB (mZ a0) n (v1,v2)).1)),(iv (aB (mZ a0) n (v1,v2)).2)]) [] [])) cx [] (.l aNh n::aNi) (aGo a0 v1 v2):=by
 intro n
 induction n with
 | zero=>intro v1 v2 hi hn;exact absurd hn (gP _)
 | succ n ih =>
   intro v1 v2 hi hn
   refine aH ?_
   have hw1:=aVi (b:=v2) (by omega)
   cases h0:(decide ((v2:Int) > 0)) with
   | true =>
    have q0:=bO h0
    let t1:List (St Tryz.prog):=[.d h0,.p (show 0<=(20:Int) from by decide)]
    cases h1:(decide (((W ((W ((W ((W (2*(iU a0)))*(W (v1+v2))))*2 ^ (min (toNat 20) 64)))+(W ((W (v1+v2))*(W (v1+v2)))))):Int)<=(W ((W (a0 - (W ((iU a0)*(iU a0)))))*2 ^ (min (toNat 40) 64))))) with
    | true =>
     have q1:=bO h1
     have e:=Eq.refl (mZ a0 (v1,v2));conv at e=>rhs;simp only [mZ,h0,h1,aI]
     rw [aA e]
     refine ba (t1++[.d h1,.p (show(2:Int)≠0 from by decide)]) [] [2,4,5,6,7] [0] hcx (m:=n) aNh (aNi) (aGo a0 (W (v1+v2)) (W (Int.tdiv v2 2))) (by kernel_rfl) ?_
     exact ih (W (v1+v2)) (W (Int.tdiv v2 2)) (by refine⟨?_,?_⟩<;>(try simp only [Ls])<;>first | omega | assumption | simp) (by(try simp only [Ls]);omega)
    | false =>
     have q1:=cA h1
     have e:=Eq.refl (mZ a0 (v1,v2));conv at e=>rhs;simp only [mZ,h0,h1,aI]
     rw [aA e]
     refine ba (t1++[.d h1,.p (show(2:Int)≠0 from by decide)]) [] [2,4,5,6,7] [0] hcx (m:=n) aNh (aNi) (aGo a0 v1 (W (Int.tdiv v2 2))) (by kernel_rfl) ?_
     exact ih v1 (W (Int.tdiv v2 2)) (by refine⟨?_,?_⟩<;>(try simp only [Ls])<;>first | omega | assumption | simp) (by(try simp only [Ls]);omega)
   | false =>
    have q0:=cA h0
    let t1:List (St Tryz.prog):=[.d h0,.p (show 0<=(20:Int) from by decide),.p (show 0<=(20:Int) from by decide)]
    cases h1:(((W ((W ((W ((W (2*(iU a0)))*v1))*2 ^ (min (toNat 20) 64)))+(W (v1*v1)))):Int) == (W ((W (a0 - (W ((iU a0)*(iU a0)))))*2 ^ (min (toNat 40) 64)))) with
    | true =>
     have q1:=eq_of_beq h1
     have e:=Eq.refl (mZ a0 (v1,v2));conv at e=>rhs;simp only [mZ,h0,h1,aI]
     rw [aC,e]
     exact rt (t1++[.d h1,.c [] (C48 (W ((W ((iU a0)*2 ^ (min (toNat 20) 64)))+v1)) (W ((W ((iU a0)*2 ^ (min (toNat 20) 64)))+v1)))]) [] [] hcx (by kernel_rfl)
    | false =>
     have q1:=ne_of_beq_false h1
     have e:=Eq.refl (mZ a0 (v1,v2));conv at e=>rhs;simp only [mZ,h0,h1,aI]
     rw [aC,e]
     exact rt (t1++[.d h1,.c [] (C48 (W ((W ((iU a0)*2 ^ (min (toNat 20) 64)))+v1)) (W ((W ((W ((iU a0)*2 ^ (min (toNat 20) 64)))+v1))+1)))]) [] [] hcx (by kernel_rfl)
def xP (a0:Int):(Int×Int)×Int :=
 (bif (decide ((a0:Int) < 0)) then
  ((0,0),1)
 else
  (bif (decide ((a0:Int) > 1099511627776)) then
   ((0,0),1)
  else
   (aB (mZ a0) (toNat 524288+1) (0,524288))))
theorem C56 (a0:Int):Con Tryz.prog 56 [(iv a0)] [] (.t [(.a (k2 (xP a0).1)),(iv (xP a0).2)]) []:=by
 refine aJ Tryz.func56 (by kernel_rfl) fun cx hcx=>?_
 cases h0:(decide ((a0:Int) < 0)) with
 | true =>
  have q0:=bO h0
  have e:=Eq.refl (xP a0);conv at e=>rhs;simp only [xP,h0,aI]
  rw [e]
  exact rt [.d h0] [] [] hcx (by kernel_rfl)
 | false =>
  have q0:=cA h0
  let t1:List (St Tryz.prog):=[.d h0]
  cases h1:(decide ((a0:Int) > 1099511627776)) with
  | true =>
   have q1:=bO h1
   have e:=Eq.refl (xP a0);conv at e=>rhs;simp only [xP,h0,h1,aI]
   rw [e]
   exact rt (t1++[.d h1]) [] [] hcx (by kernel_rfl)
  | false =>
   have q1:=cA h1
   have e:=Eq.refl (xP a0);conv at e=>rhs;simp only [xP,h0,h1,aI]
   rw [e]
   refine en (t1++[.d h1,.c [] (C89 a0),.p (show 0<=(40:Int) from by decide)]) [] [2,4,5,6,7] [0] hcx aNh (aNi) (aGo a0 0 524288) (toNat 524288+1) (by kernel_rfl) ?_
   exact bC7 a0 hcx (toNat 524288+1) 0 524288 (by refine⟨?_,?_⟩<;>(try simp only [Ls])<;>first | omega | assumption | simp) (by(try simp only [Ls]);omega)
noncomputable def xQ:Code:=(aD [1,1,1,1,0] [] (aG Tryz.f114) []).1
noncomputable def xR:List K:=(aD [1,1,1,1,0] [] (aG Tryz.f114) []).2
def rP (a0:Int)(v2 v3:Int):LS:=⟨iH 82 [(2,(.p 0 0)),(4,(.v (.int .u64 (fS (IntKind.wrap .u64 a0) 1099511627776).1))),(5,(.v (.int .u64 (fS (IntKind.wrap .u64 a0) 1099511627776).2))),(6,(.v (.int .u64 v2))),(7,(.v (.int .u64 v3)))],[(.live true false [(iv 0),(iv 0)])]⟩
def eR (a0:Int):Int×Int->(Int×Int)⊕((Int×Int)×Int)
 | (v2,v3) =>
  (bif (decide ((v2:Int) < v3)) then
   (bif (decide (((fS (IntKind.wrap .u64 (Int.tdiv (IntKind.wrap .u64 ((IntKind.wrap .u64 (v2+v3))+1)) 2)) (IntKind.wrap .u64 (Int.tdiv (IntKind.wrap .u64 ((IntKind.wrap .u64 (v2+v3))+1)) 2))).1:Int) < (fS (IntKind.wrap .u64 a0) 1099511627776).1)) then
    (.inl ((IntKind.wrap .u64 (Int.tdiv (IntKind.wrap .u64 ((IntKind.wrap .u64 (v2+v3))+1)) 2)),v3))
   else
    (bif (((fS (IntKind.wrap .u64 (Int.tdiv (IntKind.wrap .u64 ((IntKind.wrap .u64 (v2+v3))+1)) 2)) (IntKind.wrap .u64 (Int.tdiv (IntKind.wrap .u64 ((IntKind.wrap .u64 (v2+v3))+1)) 2))).1:Int) == (fS (IntKind.wrap .u64 a0) 1099511627776).1) then
     (bif (decide (((fS (IntKind.wrap .u64 (Int.tdiv (IntKind.wrap .u64 ((IntKind.wrap .u64 (v2+v3))+1)) 2)) (IntKind.wrap .u64 (Int.tdiv (IntKind.wrap .u64 ((IntKind.wrap .u64 (v2+v3))+1)) 2))).2:Int)<=(fS (IntKind.wrap .u64 a0) 1099511627776).2)) then
      (.inl ((IntKind.wrap .u64 (Int.tdiv (IntKind.wrap .u64 ((IntKind.wrap .u64 (v2+v3))+1)) 2)),v3))
     else
      (.inl (v2,(IntKind.wrap .u64 ((IntKind.wrap .u64 (Int.tdiv (IntKind.wrap .u64 ((IntKind.wrap .u64 (v2+v3))+1)) 2)) - 1)))))
    else
     (.inl (v2,(IntKind.wrap .u64 ((IntKind.wrap .u64 (Int.tdiv (IntKind.wrap .u64 ((IntKind.wrap .u64 (v2+v3))+1)) 2)) - 1))))))
  else
   (bif (((fS v2 v2).1:Int) == (fS (IntKind.wrap .u64 a0) 1099511627776).1) then
    (bif (((fS v2 v2).2:Int) == (fS (IntKind.wrap .u64 a0) 1099511627776).2) then
     (.inr ((iY (W v2) (W v2)).1,(iY (W v2) (W v2)).2))
    else
     (.inr ((iY (W v2) (W ((W v2)+1))).1,(iY (W v2) (W ((W v2)+1))).2)))
   else
    (.inr ((iY (W v2) (W ((W v2)+1))).1,(iY (W v2) (W ((W v2)+1))).2))))
theorem aZi (a0:Int) {cx:Cx} (hcx:cx.base=0):∀(n:Nat)(v2 v3:Int),(0<=v2)/\(0<=v2)/\(v2<=v3)/\(v3<=1099511627776)->toNat (v3 - v2) < n->Aw.Good Tryz.prog none 9 (bodyPost Tryz.prog Tryz.f114 (RR cx (.t [(.a (k2 (aB (eR a0) n (v2,v3)).1)),(iv (aB (eR a0) n (v2,v3)).2)]) [] [])) cx [] (.l xQ n::xR) (rP a0 v2 v3):=by
 intro n
 induction n with
 | zero=>intro v2 v3 hi hn;exact absurd hn (gP _)
 | succ n ih =>
   intro v2 v3 hi hn
   refine aH ?_
   have hw1:=um1 (a:=v2) (b:=v3) (by omega)
   have hw2:=fun h=>um2 (a:=v2) (b:=v3) h
   cases h0:(decide ((v2:Int) < v3)) with
   | true =>
    have q0:=bO h0
    let t1:List (St Tryz.prog):=[.d h0,.p (show(2:Int)≠0 from by decide),.c [] (aU7 (IntKind.wrap .u64 (Int.tdiv (IntKind.wrap .u64 ((IntKind.wrap .u64 (v2+v3))+1)) 2)) (IntKind.wrap .u64 (Int.tdiv (IntKind.wrap .u64 ((IntKind.wrap .u64 (v2+v3))+1)) 2)))]
    cases h1:(decide (((fS (IntKind.wrap .u64 (Int.tdiv (IntKind.wrap .u64 ((IntKind.wrap .u64 (v2+v3))+1)) 2)) (IntKind.wrap .u64 (Int.tdiv (IntKind.wrap .u64 ((IntKind.wrap .u64 (v2+v3))+1)) 2))).1:Int) < (fS (IntKind.wrap .u64 a0) 1099511627776).1)) with
    | true =>
     have q1:=bO h1
     have e:=Eq.refl (eR a0 (v2,v3));conv at e=>rhs;simp only [eR,h0,h1,aI]
     rw [aA e]
     refine ba (t1++[.d h1]) [] [2,4,5,6,7] [0] hcx (m:=n) xQ (xR) (rP a0 (IntKind.wrap .u64 (Int.tdiv (IntKind.wrap .u64 ((IntKind.wrap .u64 (v2+v3))+1)) 2)) v3) (by kernel_rfl) ?_
     exact ih (IntKind.wrap .u64 (Int.tdiv (IntKind.wrap .u64 ((IntKind.wrap .u64 (v2+v3))+1)) 2)) v3 (by refine⟨?_,?_,?_,?_⟩<;>(try simp only [Ls])<;>first | omega | assumption | simp) (by(try simp only [Ls]);omega)
    | false =>
     have q1:=cA h1
     let t2:List (St Tryz.prog):=(t1++[.d h1])
     cases h2:(((fS (IntKind.wrap .u64 (Int.tdiv (IntKind.wrap .u64 ((IntKind.wrap .u64 (v2+v3))+1)) 2)) (IntKind.wrap .u64 (Int.tdiv (IntKind.wrap .u64 ((IntKind.wrap .u64 (v2+v3))+1)) 2))).1:Int) == (fS (IntKind.wrap .u64 a0) 1099511627776).1) with
     | true =>
      have q2:=eq_of_beq h2
      let t3:List (St Tryz.prog):=(t2++[.d h2])
      cases h3:(decide (((fS (IntKind.wrap .u64 (Int.tdiv (IntKind.wrap .u64 ((IntKind.wrap .u64 (v2+v3))+1)) 2)) (IntKind.wrap .u64 (Int.tdiv (IntKind.wrap .u64 ((IntKind.wrap .u64 (v2+v3))+1)) 2))).2:Int)<=(fS (IntKind.wrap .u64 a0) 1099511627776).2)) with
      | true =>
       have q3:=bO h3
       have e:=Eq.refl (eR a0 (v2,v3));conv at e=>rhs;simp only [eR,h0,h1,h2,h3,aI]
       rw [aA e]
       refine ba (t3++[.d h3]) [] [2,4,5,6,7] [0] hcx (m:=n) xQ (xR) (rP a0 (IntKind.wrap .u64 (Int.tdiv (IntKind.wrap .u64 ((IntKind.wrap .u64 (v2+v3))+1)) 2)) v3) (by kernel_rfl) ?_
       exact ih (IntKind.wrap .u64 (Int.tdiv (IntKind.wrap .u64 ((IntKind.wrap .u64 (v2+v3))+1)) 2)) v3 (by refine⟨?_,?_,?_,?_⟩<;>(try simp only [Ls])<;>first | omega | assumption | simp) (by(try simp only [Ls]);omega)
      | false =>
       have q3:=cA h3
       have e:=Eq.refl (eR a0 (v2,v3));conv at e=>rhs;simp only [eR,h0,h1,h2,h3,aI]
       rw [aA e]
       refine ba (t3++[.d h3]) [] [2,4,5,6,7] [0] hcx (m:=n) xQ (xR) (rP a0 v2 (IntKind.wrap .u64 ((IntKind.wrap .u64 (Int.tdiv (IntKind.wrap .u64 ((IntKind.wrap .u64 (v2+v3))+1)) 2)) - 1))) (by kernel_rfl) ?_
       exact ih v2 (IntKind.wrap .u64 ((IntKind.wrap .u64 (Int.tdiv (IntKind.wrap .u64 ((IntKind.wrap .u64 (v2+v3))+1)) 2)) - 1)) (by refine⟨?_,?_,?_,?_⟩<;>(try simp only [Ls])<;>first | omega | assumption | simp) (by(try simp only [Ls]);omega)
     | false =>
      have q2:=ne_of_beq_false h2
      have e:=Eq.refl (eR a0 (v2,v3));conv at e=>rhs;simp only [eR,h0,h1,h2,aI]
      rw [aA e]
      refine ba (t2++[.d h2]) [] [2,4,5,6,7] [0] hcx (m:=n) xQ (xR) (rP a0 v2 (IntKind.wrap .u64 ((IntKind.wrap .u64 (Int.tdiv (IntKind.wrap .u64 ((IntKind.wrap .u64 (v2+v3))+1)) 2)) - 1))) (by kernel_rfl) ?_
      exact ih v2 (IntKind.wrap .u64 ((IntKind.wrap .u64 (Int.tdiv (IntKind.wrap .u64 ((IntKind.wrap .u64 (v2+v3))+1)) 2)) - 1)) (by refine⟨?_,?_,?_,?_⟩<;>(try simp only [Ls])<;>first | omega | assumption | simp) (by(try simp only [Ls]);omega)
   | false =>
    have q0:=cA h0
    let t1:List (St Tryz.prog):=[.d h0,.c [] (aU7 v2 v2)]
    cases h1:(((fS v2 v2).1:Int) == (fS (IntKind.wrap .u64 a0) 1099511627776).1) with
    | true =>
     have q1:=eq_of_beq h1
     let t2:List (St Tryz.prog):=(t1++[.d h1])
     cases h2:(((fS v2 v2).2:Int) == (fS (IntKind.wrap .u64 a0) 1099511627776).2) with
     | true =>
      have q2:=eq_of_beq h2
      have e:=Eq.refl (eR a0 (v2,v3));conv at e=>rhs;simp only [eR,h0,h1,h2,aI]
      rw [aC,e]
      exact rt (t2++[.d h2,.c [] (aDy (W v2) (W v2))]) [] [] hcx (by kernel_rfl)
     | false =>
      have q2:=ne_of_beq_false h2
      have e:=Eq.refl (eR a0 (v2,v3));conv at e=>rhs;simp only [eR,h0,h1,h2,aI]
      rw [aC,e]
      exact rt (t2++[.d h2,.c [] (aDy (W v2) (W ((W v2)+1)))]) [] [] hcx (by kernel_rfl)
    | false =>
     have q1:=ne_of_beq_false h1
     have e:=Eq.refl (eR a0 (v2,v3));conv at e=>rhs;simp only [eR,h0,h1,aI]
     rw [aC,e]
     exact rt (t1++[.d h1,.c [] (aDy (W v2) (W ((W v2)+1)))]) [] [] hcx (by kernel_rfl)
def tU (a0:Int):(Int×Int)×Int :=
 (bif (!(nW a0 0 1099511627776)) then
  ((0,0),1)
 else
  (aB (eR a0) (toNat (1099511627776 - 0)+1) (0,1099511627776)))
theorem bFy (a0:Int):Con Tryz.prog 114 [(iv a0)] [] (.t [(.a (k2 (tU a0).1)),(iv (tU a0).2)]) []:=by
 refine aJ Tryz.func114 (by kernel_rfl) fun cx hcx=>?_
 let t0:List (St Tryz.prog):=[.c [] (aUy a0 0 1099511627776)]
 cases h0:(!(nW a0 0 1099511627776)) with
 | true =>
  have e:=Eq.refl (tU a0);conv at e=>rhs;simp only [tU,h0,aI]
  rw [e]
  exact rt (t0++[.d h0]) [] [] hcx (by kernel_rfl)
 | false =>
  have e:=Eq.refl (tU a0);conv at e=>rhs;simp only [tU,h0,aI]
  rw [e]
  refine en (t0++[.d h0,.c [] (aU7 (IntKind.wrap .u64 a0) 1099511627776)]) [] [2,4,5,6,7] [0] hcx xQ (xR) (rP a0 0 1099511627776) (toNat (1099511627776 - 0)+1) (by kernel_rfl) ?_
  exact aZi a0 hcx (toNat (1099511627776 - 0)+1) 0 1099511627776 (by refine⟨?_,?_,?_,?_⟩<;>(try simp only [Ls])<;>first | omega | assumption | simp) (by(try simp only [Ls]);omega)
def zO (n r:Int):(Int×Int)×Int:=qL r (if r*r=n*1099511627776 then r else r+1)
theorem aSa {n:Int} (h:0<=n/\n<=400000):∃r,IsRt (n*1099511627776) r/\xP n=zO n r:=by
 have ha:=xK (n:=n) h.1 (by omega)
 unfold xP
 rw [cJ (by omega),cJ (by omega),cond_false,cond_false]
 have hle:iU n<=1000:=ha.le (by omega) (by omega)
 have h0:=ha.1
 have h1:=ha.2.1
 have h2:=ha.2.2
 have p20:(2:Int) ^ (min (toNat 20) 64)=1048576:=by decide
 have p40:(2:Int) ^ (min (toNat 40) 64)=1099511627776:=by decide
 generalize ea:iU n=a at *
 have haa:0<=a*a:=Int.mul_nonneg h0 h0
 have ex:(a+1)*(a+1)=a*a+2*a+1:=by grind
 have key:∀f:Int,0<=f->f<=1048576->W ((W ((W ((W (2*a))*(W f)))*2 ^ (min (toNat 20) 64)))+(W ((W f)*(W f))))=(a*1048576+f)*(a*1048576+f) - a*a*1099511627776:=by
   intro f f0 f1
   have m1:=bD (a:=1000) (b:=1048576) (x:=a) (y:=f) ⟨by omega,by omega⟩ ⟨by omega,by omega⟩
   have m2:=bD (a:=1048576) (b:=1048576) (x:=f) (y:=f) ⟨by omega,by omega⟩ ⟨by omega,by omega⟩
   have e1:2*a*f=2*(a*f):=by grind
   rw [p20,aE (n:=f) (by omega) (by omega),aE (n:=2*a) (by omega) (by omega),e1,aE (n:=2*(a*f)) (by omega) (by omega),aE (n:=2*(a*f)*1048576) (by omega) (by omega),aE (n:=f*f) (by omega) (by omega),aE (by omega) (by omega)]
   grind
 have rest:W ((W (n - (W (a*a))))*2 ^ (min (toNat 40) 64))=n*1099511627776 - a*a*1099511627776:=by
   rw [p40,aE (n:=a*a) (by omega) (by omega),aE (n:=n - a*a) (by omega) (by omega),aE (by omega) (by omega)]
   omega
 have key0:∀f:Int,0<=f->f<=1048576->W ((W ((W ((W (2*a))*f))*2 ^ (min (toNat 20) 64)))+(W (f*f)))=(a*1048576+f)*(a*1048576+f) - a*a*1099511627776:=by
   intro f f0 f1
   have:=key f f0 f1
   rwa [aE (n:=f) (by omega) (by omega)] at this
 have A20:W (a*2 ^ (min (toNat 20) 64))=a*1048576:=by rw [p20,aE (by omega) (by omega)]
 obtain⟨f,f0,f1,g1,g2,e⟩:=bC5 (p:=fun f=>(a*1048576+f)*(a*1048576+f)<=n*1099511627776) (G:=fun f=>zO n (a*1048576+f)) (M:=1048576) (S:=mZ n) (fun k b hk hb hkb=>by
     simp only [mZ,ea]
     rw [bT (show b > 0 from hb),cond_true,key (k+b) (by omega) (by omega),rest,aE (n:=k+b) (by omega) (by omega),Int.tdiv_eq_ediv_of_nonneg (by omega),aE (n:=b / 2) (by omega) (by omega)]
     by_cases hc:(a*1048576+(k+b))*(a*1048576+(k+b))<=n*1099511627776
     · rw [if_pos hc,bT (by omega),cond_true]
     · rw [if_neg hc,cJ (by omega),cond_false])
   (fun k hk hk2=>by
     simp only [mZ,ea]
     rw [cJ (by omega),cond_false,key0 k hk hk2,rest,A20,aE (n:=a*1048576+k) (by omega) (by omega),aE (n:=a*1048576+k+1) (by omega) (by omega)]
     unfold zO
     by_cases hc:(a*1048576+k)*(a*1048576+k)=n*1099511627776
     · rw [if_pos hc,hc,beq_self_eq_true,cond_true]
     · rw [if_neg hc,beq_eq_false_iff_ne.2 (by omega),cond_false])
   19 (toNat 524288+1) 0 (by decide) (by omega) (by decide) (by
     have:(a*1048576+0)*(a*1048576+0)=a*a*1099511627776:=by grind
     omega) (by
     have:(a*1048576+(0+2*2 ^ 19))*(a*1048576+(0+2*2 ^ 19))=(a+1)*(a+1)*1099511627776:=by grind
     rw [this];omega)
 refine⟨a*1048576+f,⟨by omega,g1,?_⟩,e⟩
 rw [show a*1048576+f+1=a*1048576+(f+1) by omega]
 omega
theorem bC8 {n:Int} (h:0<=n/\n<=400000):∃r,IsRt (n*1099511627776) r/\tU n=zO n r:=by
 unfold tU
 have hw:(!nW n 0 1099511627776)=false:=by
   unfold nW
   rw [bT (show n≥0 from h.1),bT (show n<=1099511627776 by omega)];rfl
 rw [hw,cond_false]
 have un:IntKind.wrap .u64 n=n:=by rw [vS];omega
 have mm:∀k:Int,0<=k->k<=1099511627776->fS k k=(k*k / 18446744073709551616,k*k % 18446744073709551616):=fun k k0 k1=>aQ7 ⟨k0,k1⟩ ⟨k0,k1⟩
 have mn:fS (IntKind.wrap .u64 n) 1099511627776=(n*1099511627776 / 18446744073709551616,n*1099511627776 % 18446744073709551616):=by
   rw [un];exact aQ7 ⟨h.1,by omega⟩ ⟨by omega,by omega⟩
 obtain⟨r,r0,r1,g1,g2,e⟩:=bC6 (p:=fun k=>k*k<=n*1099511627776) (G:=fun r=>zO n r) (M:=1099511627776) (S:=eR n) (fun a b ha hab hb=>by
     have wm:IntKind.wrap .u64 ((a+b+1) / 2 - 1)=(a+b+1) / 2 - 1:=by rw [vS,Int.emod_eq_of_lt (by omega) (by omega)]
     simp only [eR,um1 (a:=a) (b:=b) (by omega),wm,mn]
     rw [mm ((a+b+1) / 2) (by omega) (by omega),bT hab,cond_true]
     simp only
     generalize (a+b+1) / 2*((a+b+1) / 2)=X
     generalize n*1099511627776=N
     by_cases hc:X<=N
     · rw [if_pos hc]
       by_cases c1:X / 18446744073709551616 < N / 18446744073709551616
       · rw [bT c1,cond_true]
       · rw [cJ c1,cond_false,beq_iff_eq.2 (show X / 18446744073709551616=N / 18446744073709551616 by omega),cond_true,bT (by omega),cond_true]
     · rw [if_neg hc,cJ (by omega),cond_false]
       by_cases c1:X / 18446744073709551616=N / 18446744073709551616
       · rw [beq_iff_eq.2 c1,cond_true,cJ (by omega),cond_false]
       · rw [beq_eq_false_iff_ne.2 c1,cond_false])
   (fun a ha ha2=>by
     simp only [eR,mn]
     rw [mm a ha ha2,cJ (by omega),cond_false,aE (n:=a) (by omega) (by omega),aE (n:=a+1) (by omega) (by omega)]
     unfold zO
     simp only
     generalize a*a=X
     generalize n*1099511627776=N
     by_cases hc:X=N
     · rw [if_pos hc,hc,beq_self_eq_true,cond_true,beq_self_eq_true,cond_true];rfl
     · rw [if_neg hc]
       by_cases c1:X / 18446744073709551616=N / 18446744073709551616
       · rw [beq_iff_eq.2 c1,cond_true,beq_eq_false_iff_ne.2 (by omega),cond_false];rfl
       · rw [beq_eq_false_iff_ne.2 c1,cond_false];rfl)
   (toNat (1099511627776 - 0)+1) 0 1099511627776 (by omega) (by omega) (by omega) (by omega) (by omega) (by omega)
 exact⟨r,⟨r0,g1,by omega⟩,e⟩
theorem aZj {n:Int} (h:0<=n/\n<=400000):xP n=tU n:=by
 obtain⟨r,h1,e1⟩:=aSa h
 obtain⟨s,h2,e2⟩:=bC8 h
 rw [e1,e2,h1.eq h2]
theorem oZ {m:ME} (h:((fB m:Int) != 0)=false):1<=m.1.length/\m.1.length<=64:=by
 obtain⟨h1,h2,h3,_,h4⟩:=iT (bne_eq_false_iff_eq.1 h)
 have:=(qP h).1 0 (Int.le_refl 0) (by omega)
 exact⟨by omega,h1⟩
theorem aVj {m:ME} {k:Int} (h:mF m k)(i:Int):(0<=i/\i < k)->((0<=(m.2.getD (toNat i) default).1/\(m.2.getD (toNat i) default).1 < (m.1.length:Int))/\(0<=(m.2.getD (toNat i) default).2.1/\(m.2.getD (toNat i) default).2.1 < (m.1.length:Int))/\0<=(m.2.getD (toNat i) default).2.2/\(m.2.getD (toNat i) default).2.2 < (m.1.length:Int)):=fun g=>h i g.1 g.2
def pA (a0:Int)(a1:Int)(a2:Int):Bool :=
 (bif (decide ((a0:Int)≥a1)) then
  (decide ((a0:Int)<=a2))
 else
  false)
theorem C55 (a0:Int)(a1:Int)(a2:Int):Con Tryz.prog 55 [(iv a0),(iv a1),(iv a2)] [] (.v (.bool (pA a0 a1 a2))) []:=by
 refine aJ Tryz.func55 (by kernel_rfl) fun cx hcx=>?_
 cases h0:(decide ((a0:Int)≥a1)) with
 | true =>
  have q0:=bO h0
  have e:=Eq.refl (pA a0 a1 a2);conv at e=>rhs;simp only [pA,h0,aI]
  rw [e]
  exact rt [.d h0] [] [] hcx (by kernel_rfl)
 | false =>
  have q0:=cA h0
  have e:=Eq.refl (pA a0 a1 a2);conv at e=>rhs;simp only [pA,h0,aI]
  rw [e]
  exact rt [.d h0] [] [] hcx (by kernel_rfl)
def F52 (a0:Int)(a1:Int)(a2:Int):Bool :=
 (bif (decide ((a0:Int)≥a1)) then
  (decide ((a0:Int)<=a2))
 else
  false)
theorem C52 (a0:Int)(a1:Int)(a2:Int):Con Tryz.prog 52 [(iv a0),(iv a1),(iv a2)] [] (.v (.bool (F52 a0 a1 a2))) []:=by
 refine aJ Tryz.func52 (by kernel_rfl) fun cx hcx=>?_
 cases h0:(decide ((a0:Int)≥a1)) with
 | true =>
  have q0:=bO h0
  have e:=Eq.refl (F52 a0 a1 a2);conv at e=>rhs;simp only [F52,h0,aI]
  rw [e]
  exact rt [.d h0] [] [] hcx (by kernel_rfl)
 | false =>
  have q0:=cA h0
  have e:=Eq.refl (F52 a0 a1 a2);conv at e=>rhs;simp only [F52,h0,aI]
  rw [e]
  exact rt [.d h0] [] [] hcx (by kernel_rfl)
theorem qQ {d:Int} {a b:Int} (h:(!pA d a b)=false):a<=d/\d<=b:=by
 unfold pA at h
 by_cases h1:d≥a
 · by_cases h2:d<=b
   · exact⟨h1,h2⟩
   · rw [bT h1,cJ h2] at h;simp at h
 · rw [cJ h1] at h;simp at h
theorem aCp {d:Int} {a b:Int} (h:(!F52 d a b)=false):a<=d/\d<=b:=qQ h
noncomputable def aGp:Code:=(aD [1,1,1,1,0,1] [] (aG Tryz.f58) []).1
noncomputable def aGq:List K:=(aD [1,1,1,1,0,1] [] (aG Tryz.f58) []).2
def aCq (a0:Zm)(a1:List (Int))(v1 v2:Int):LS:=⟨iH 35 [(6,(iv v1)),(20,(.s 2 0 a1.length 1)),(21,(iv (a1.length:Int))),(22,(iv v2))],[(.live false true (flat dL a0.1)),(.live false true (flat dW a0.2)),(.live false true (flat c3 a1))]⟩
def hO (a0:Zm)(a1:List (Int)):Int×Int->(Int×Int)⊕(Int)
 | (v1,v2) =>
  (bif (decide ((v2:Int) < (a1.length:Int))) then
   (bif (!(pA (a1.getD (toNat v2) default) 0 100)) then
    (.inr 1)
   else
    (.inl ((W (v1+(a1.getD (toNat v2) default))),(v2+1))))
  else
   (bif ((v1:Int) == 0) then
    (.inr 11)
   else
    (.inr 0)))
theorem aVk (a0:Zm)(a1:List (Int))(l0_1:a0.1.length<=9223372036854775807)(l0_2:a0.2.length<=9223372036854775807)(l1:a1.length<=9223372036854775807) {cx:Cx} (hcx:cx.base=3):∀(n:Nat)(v1 v2:Int),0<=v2->toNat ((a1.length:Int) - v2) < n->Aw.Good Tryz.prog none 9 (bodyPost Tryz.prog Tryz.f58 (RR cx (iv (aB (hO a0 a1) n (v1,v2))) [] [])) cx [] (.l aGp n::aGq) (aCq a0 a1 v1 v2):=by
 intro n
 induction n with
 | zero=>intro v1 v2 hi hn;exact absurd hn (gP _)
 | succ n ih =>
   intro v1 v2 hi hn
   refine aH ?_
   cases h0:(decide ((v2:Int) < (a1.length:Int))) with
   | true =>
    have q0:=bO h0
    let t1:List (St Tryz.prog):=[.d h0,.i v2 (a1.length),.L fX a1 v2 0 1,.c [] (C55 (a1.getD (toNat v2) default) 0 100)]
    cases h1:(!(pA (a1.getD (toNat v2) default) 0 100)) with
    | true =>
     have e:=Eq.refl (hO a0 a1 (v1,v2));conv at e=>rhs;simp only [hO,h0,h1,aI]
     rw [aC,e]
     exact rt (t1++[.d h1]) [] [] hcx (by kernel_rfl)
    | false =>
     have e:=Eq.refl (hO a0 a1 (v1,v2));conv at e=>rhs;simp only [hO,h0,h1,aI]
     rw [aA e]
     refine ba (t1++[.d h1]) [] [6,20,21,22] [] hcx (m:=n) aGp (aGq) (aCq a0 a1 (W (v1+(a1.getD (toNat v2) default))) (W (v2+1))) (by kernel_rfl) ?_
     have z0:(W (v2+1))=(v2+1):=aE (by omega) (by omega)
     rw [z0]
     exact ih (W (v1+(a1.getD (toNat v2) default))) (v2+1) (by(try simp only [Ls]);omega) (by(try simp only [Ls]);omega)
   | false =>
    have q0:=cA h0
    let t1:List (St Tryz.prog):=[.d h0]
    cases h1:((v1:Int) == 0) with
    | true =>
     have q1:=eq_of_beq h1
     have e:=Eq.refl (hO a0 a1 (v1,v2));conv at e=>rhs;simp only [hO,h0,h1,aI]
     rw [aC,e]
     exact rt (t1++[.d h1]) [] [] hcx (by kernel_rfl)
    | false =>
     have q1:=ne_of_beq_false h1
     have e:=Eq.refl (hO a0 a1 (v1,v2));conv at e=>rhs;simp only [hO,h0,h1,aI]
     rw [aC,e]
     exact rt (t1++[.d h1]) [] [] hcx (by kernel_rfl)
def oC (a0:Zm)(a1:List (Int)):Int :=
 (bif (((fB (a0.1,a0.2)):Int) != 0) then
  (fB (a0.1,a0.2))
 else
  (bif (((a1.length:Int):Int) != (a0.2.length:Int)) then
   1
  else
   (aB (hO a0 a1) (toNat ((a1.length:Int) - 0)+1) (0,0))))
theorem bC9 (a0:Zm)(a1:List (Int))(l0_1:a0.1.length<=9223372036854775807)(l0_2:a0.2.length<=9223372036854775807)(l1:a1.length<=9223372036854775807):Con Tryz.prog 58 [(.a [(.s 0 0 a0.1.length 3),(.s 1 0 a0.2.length 3)]),(.s 2 0 a1.length 1)] [(.live false true (flat dL a0.1)),(.live false true (flat dW a0.2)),(.live false true (flat c3 a1))] (iv (oC a0 a1)) []:=by
 refine aJ Tryz.func58 (by kernel_rfl) fun cx hcx=>?_
 let t0:List (St Tryz.prog):=[.c [0,1] (C35 (a0.1,a0.2) (by(try simp only [Lt]);omega) (by(try simp only [Lt]);omega))]
 cases h0:(((fB (a0.1,a0.2)):Int) != 0) with
 | true =>
  have q0:=bne_iff_ne.1 h0
  have e:=Eq.refl (oC a0 a1);conv at e=>rhs;simp only [oC,h0,aI]
  rw [e]
  exact rt (t0++[.d h0]) [] [] hcx (by kernel_rfl)
 | false =>
  have q0:=bne_eq_false_iff_eq.1 h0
  let t1:List (St Tryz.prog):=(t0++[.d h0])
  cases h1:(((a1.length:Int):Int) != (a0.2.length:Int)) with
  | true =>
   have q1:=bne_iff_ne.1 h1
   have e:=Eq.refl (oC a0 a1);conv at e=>rhs;simp only [oC,h0,h1,aI]
   rw [e]
   exact rt (t1++[.d h1]) [] [] hcx (by kernel_rfl)
  | false =>
   have q1:=bne_eq_false_iff_eq.1 h1
   have e:=Eq.refl (oC a0 a1);conv at e=>rhs;simp only [oC,h0,h1,aI]
   rw [e]
   refine en (t1++[.d h1]) [] [6,20,21,22] [] hcx aGp (aGq) (aCq a0 a1 0 0) (toNat ((a1.length:Int) - 0)+1) (by kernel_rfl) ?_
   exact aVk a0 a1 l0_1 l0_2 l1 hcx (toNat ((a1.length:Int) - 0)+1) 0 0 (by(try simp only [Ls]);omega) (by(try simp only [Ls]);omega)
def gI (a0:Zm)(a1:List (Int))(a2:Int):Int :=
 (bif (((oC (a0.1,a0.2) a1):Int) != 0) then
  (oC (a0.1,a0.2) a1)
 else
  (bif (!(pA a2 0 2)) then
   1
  else
   0))
theorem bDa (a0:Zm)(a1:List (Int))(a2:Int)(l0_1:a0.1.length<=9223372036854775807)(l0_2:a0.2.length<=9223372036854775807)(l1:a1.length<=9223372036854775807):Con Tryz.prog 32 [(.a [(.s 0 0 a0.1.length 3),(.s 1 0 a0.2.length 3)]),(.s 2 0 a1.length 1),(iv a2)] [(.live false true (flat dL a0.1)),(.live false true (flat dW a0.2)),(.live false true (flat c3 a1))] (iv (gI a0 a1 a2)) []:=by
 refine aJ Tryz.func32 (by kernel_rfl) fun cx hcx=>?_
 let t0:List (St Tryz.prog):=[.c [0,1,2] (bC9 (a0.1,a0.2) a1 (by(try simp only [Lt]);omega) (by(try simp only [Lt]);omega) (by omega))]
 cases h0:(((oC (a0.1,a0.2) a1):Int) != 0) with
 | true =>
  have q0:=bne_iff_ne.1 h0
  have e:=Eq.refl (gI a0 a1 a2);conv at e=>rhs;simp only [gI,h0,aI]
  rw [e]
  exact rt (t0++[.d h0]) [] [] hcx (by kernel_rfl)
 | false =>
  have q0:=bne_eq_false_iff_eq.1 h0
  let t1:List (St Tryz.prog):=(t0++[.d h0,.c [] (C55 a2 0 2)])
  cases h1:(!(pA a2 0 2)) with
  | true =>
   have e:=Eq.refl (gI a0 a1 a2);conv at e=>rhs;simp only [gI,h0,h1,aI]
   rw [e]
   exact rt (t1++[.d h1]) [] [] hcx (by kernel_rfl)
  | false =>
   have e:=Eq.refl (gI a0 a1 a2);conv at e=>rhs;simp only [gI,h0,h1,aI]
   rw [e]
   exact rt (t1++[.d h1]) [] [] hcx (by kernel_rfl)
def F97 (a0:Int):Int×Int :=
 (bif (decide ((a0:Int) > 1099511627776)) then
  (0,4)
 else
  (a0,0))
theorem C97 (a0:Int):Con Tryz.prog 97 [(iv a0)] [] (.t (k2 (F97 a0))) []:=by
 refine aJ Tryz.func97 (by kernel_rfl) fun cx hcx=>?_
 cases h0:(decide ((a0:Int) > 1099511627776)) with
 | true =>
  have q0:=bO h0
  have e:=Eq.refl (F97 a0);conv at e=>rhs;simp only [F97,h0,aI]
  rw [e]
  exact rt [.d h0] [] [] hcx (by kernel_rfl)
 | false =>
  have q0:=cA h0
  have e:=Eq.refl (F97 a0);conv at e=>rhs;simp only [F97,h0,aI]
  rw [e]
  exact rt [.d h0] [] [] hcx (by kernel_rfl)
noncomputable def aGr:Code:=(aD [1,1,0,1] [] (aG Tryz.f98) []).1
noncomputable def aGs:List K:=(aD [1,1,0,1] [] (aG Tryz.f98) []).2
def aCr (a0:List (Int))(v1 v2:Int):LS:=⟨iH 19 [(3,(iv v1)),(6,(.s 0 0 a0.length 1)),(7,(iv (a0.length:Int))),(8,(iv v2))],[(.live false true (flat c3 a0))]⟩
def nA (a0:List (Int)):Int×Int->(Int×Int)⊕(Int)
 | (v1,v2) =>
  (bif (decide ((v2:Int) < (a0.length:Int))) then
   (.inl ((W (v1+(a0.getD (toNat v2) default))),(v2+1)))
  else
   (.inr (W ((W (v1*1048576))*1048576))))
theorem aVl (a0:List (Int))(l0:a0.length<=9223372036854775807) {cx:Cx} (hcx:cx.base=1):∀(n:Nat)(v1 v2:Int),0<=v2->toNat ((a0.length:Int) - v2) < n->Aw.Good Tryz.prog none 9 (bodyPost Tryz.prog Tryz.f98 (RR cx (iv (aB (nA a0) n (v1,v2))) [] [])) cx [] (.l aGr n::aGs) (aCr a0 v1 v2):=by
 intro n
 induction n with
 | zero=>intro v1 v2 hi hn;exact absurd hn (gP _)
 | succ n ih =>
   intro v1 v2 hi hn
   refine aH ?_
   cases h0:(decide ((v2:Int) < (a0.length:Int))) with
   | true =>
    have q0:=bO h0
    have e:=Eq.refl (nA a0 (v1,v2));conv at e=>rhs;simp only [nA,h0,aI]
    rw [aA e]
    refine ba [.d h0,.i v2 (a0.length),.L fX a0 v2 0 1] [] [3,6,7,8] [] hcx (m:=n) aGr (aGs) (aCr a0 (W (v1+(a0.getD (toNat v2) default))) (W (v2+1))) (by kernel_rfl) ?_
    have z0:(W (v2+1))=(v2+1):=aE (by omega) (by omega)
    rw [z0]
    exact ih (W (v1+(a0.getD (toNat v2) default))) (v2+1) (by(try simp only [Ls]);omega) (by(try simp only [Ls]);omega)
   | false =>
    have q0:=cA h0
    have e:=Eq.refl (nA a0 (v1,v2));conv at e=>rhs;simp only [nA,h0,aI]
    rw [aC,e]
    exact rt [.d h0] [] [] hcx (by kernel_rfl)
def cO (a0:List (Int)):Int :=
 (aB (nA a0) (toNat ((a0.length:Int) - 0)+1) (0,0))
theorem aSb (a0:List (Int))(l0:a0.length<=9223372036854775807):Con Tryz.prog 98 [(.s 0 0 a0.length 1)] [(.live false true (flat c3 a0))] (iv (cO a0)) []:=by
 refine aJ Tryz.func98 (by kernel_rfl) fun cx hcx=>?_
 have e:=Eq.refl (cO a0);conv at e=>rhs;simp only [cO]
 rw [e]
 refine en [] [] [3,6,7,8] [] hcx aGr (aGs) (aCr a0 0 0) (toNat ((a0.length:Int) - 0)+1) (by kernel_rfl) ?_
 exact aVl a0 l0 hcx (toNat ((a0.length:Int) - 0)+1) 0 0 (by(try simp only [Ls]);omega) (by(try simp only [Ls]);omega)
noncomputable def aSc:Code:=(aD [1,1,1,1,0,1] [] (aG Tryz.f28) []).1
noncomputable def aSd:List K:=(aD [1,1,1,1,0,1] [] (aG Tryz.f28) []).2
def aLi (a0:Zm)(a1:Zt)(v1 v2:Int):LS:=⟨iH 82 [(3,(.p 2 0)),(9,(iv v1)),(39,(.s 0 0 a0.1.length 3)),(40,(iv (a0.1.length:Int))),(41,(iv v2))],[(.live false true (flat dL a0.1)),(.live false true (flat dW a0.2)),(.live true false (k3 a1))]⟩
def pM (a0:Zm)(a1:Zt):Int×Int->(Int×Int)⊕(Int×Int)
 | (v1,v2) =>
  (bif (decide ((v2:Int) < (a0.1.length:Int))) then
   (.inl ((iI v1 (W ((W ((W ((W ((a0.1.getD (toNat v2) default).1 - a1.1))*(W ((a0.1.getD (toNat v2) default).1 - a1.1))))+(W ((W ((a0.1.getD (toNat v2) default).2.1 - a1.2.1))*(W ((a0.1.getD (toNat v2) default).2.1 - a1.2.1))))))+(W ((W ((a0.1.getD (toNat v2) default).2.2 - a1.2.2))*(W ((a0.1.getD (toNat v2) default).2.2 - a1.2.2))))))),(v2+1)))
  else
   (.inr ((xP v1).1.2,(xP v1).2)))
theorem bDb (a0:Zm)(a1:Zt)(l0_1:a0.1.length<=9223372036854775807)(l0_2:a0.2.length<=9223372036854775807) {cx:Cx} (hcx:cx.base=2):∀(n:Nat)(v1 v2:Int),0<=v2->toNat ((a0.1.length:Int) - v2) < n->Aw.Good Tryz.prog none 9 (bodyPost Tryz.prog Tryz.f28 (RR cx (.t (k2 (aB (pM a0 a1) n (v1,v2)))) [] [])) cx [] (.l aSc n::aSd) (aLi a0 a1 v1 v2):=by
 intro n
 induction n with
 | zero=>intro v1 v2 hi hn;exact absurd hn (gP _)
 | succ n ih =>
   intro v1 v2 hi hn
   refine aH ?_
   cases h0:(decide ((v2:Int) < (a0.1.length:Int))) with
   | true =>
    have q0:=bO h0
    have e:=Eq.refl (pM a0 a1 (v1,v2));conv at e=>rhs;simp only [pM,h0,aI]
    rw [aA e]
    refine ba [.d h0,.i v2 (a0.1.length),.L bM a0.1 v2 0 3] [] [3,9,39,40,41] [2] hcx (m:=n) aSc (aSd) (aLi a0 a1 (iI v1 (W ((W ((W ((W ((a0.1.getD (toNat v2) default).1 - a1.1))*(W ((a0.1.getD (toNat v2) default).1 - a1.1))))+(W ((W ((a0.1.getD (toNat v2) default).2.1 - a1.2.1))*(W ((a0.1.getD (toNat v2) default).2.1 - a1.2.1))))))+(W ((W ((a0.1.getD (toNat v2) default).2.2 - a1.2.2))*(W ((a0.1.getD (toNat v2) default).2.2 - a1.2.2))))))) (W (v2+1))) (by kernel_rfl) ?_
    have z0:(W (v2+1))=(v2+1):=aE (by omega) (by omega)
    rw [z0]
    exact ih (iI v1 (W ((W ((W ((W ((a0.1.getD (toNat v2) default).1 - a1.1))*(W ((a0.1.getD (toNat v2) default).1 - a1.1))))+(W ((W ((a0.1.getD (toNat v2) default).2.1 - a1.2.1))*(W ((a0.1.getD (toNat v2) default).2.1 - a1.2.1))))))+(W ((W ((a0.1.getD (toNat v2) default).2.2 - a1.2.2))*(W ((a0.1.getD (toNat v2) default).2.2 - a1.2.2))))))) (v2+1) (by(try simp only [Ls]);omega) (by(try simp only [Ls]);omega)
   | false =>
    have q0:=cA h0
    have e:=Eq.refl (pM a0 a1 (v1,v2));conv at e=>rhs;simp only [pM,h0,aI]
    rw [aC,e]
    exact rt [.d h0,.c [] (C56 v1)] [] [] hcx (by kernel_rfl)
def tV (a0:Zm)(a1:Zt):Int×Int :=
 (bif (((fB (a0.1,a0.2)):Int) != 0) then
  (0,(fB (a0.1,a0.2)))
 else
  (bif (!(pA a1.1 (-256) 256)) then
   (0,1)
  else
   (bif (!(pA a1.2.1 (-256) 256)) then
    (0,1)
   else
    (bif (!(pA a1.2.2 (-256) 256)) then
     (0,1)
    else
     (aB (pM a0 a1) (toNat ((a0.1.length:Int) - 0)+1) (0,0))))))
theorem C28 (a0:Zm)(a1:Zt)(l0_1:a0.1.length<=9223372036854775807)(l0_2:a0.2.length<=9223372036854775807):Con Tryz.prog 28 [(.a [(.s 0 0 a0.1.length 3),(.s 1 0 a0.2.length 3)]),(.a (k3 a1))] [(.live false true (flat dL a0.1)),(.live false true (flat dW a0.2))] (.t (k2 (tV a0 a1))) []:=by
 refine aJ Tryz.func28 (by kernel_rfl) fun cx hcx=>?_
 let t0:List (St Tryz.prog):=[.c [0,1] (C35 (a0.1,a0.2) (by(try simp only [Lt]);omega) (by(try simp only [Lt]);omega))]
 cases h0:(((fB (a0.1,a0.2)):Int) != 0) with
 | true =>
  have q0:=bne_iff_ne.1 h0
  have e:=Eq.refl (tV a0 a1);conv at e=>rhs;simp only [tV,h0,aI]
  rw [e]
  exact rt (t0++[.d h0]) [] [] hcx (by kernel_rfl)
 | false =>
  have q0:=bne_eq_false_iff_eq.1 h0
  let t1:List (St Tryz.prog):=(t0++[.d h0,.u 200,.T,.i 0 3 (by decide),.c [] (C55 a1.1 (-256) 256)])
  cases h1:(!(pA a1.1 (-256) 256)) with
  | true =>
   have e:=Eq.refl (tV a0 a1);conv at e=>rhs;simp only [tV,h0,h1,aI]
   rw [e]
   exact rt (t1++[.d h1]) [] [] hcx (by kernel_rfl)
  | false =>
   let t2:List (St Tryz.prog):=(t1++[.d h1,.u 0,.T,.i 1 3 (by decide),.c [] (C55 a1.2.1 (-256) 256)])
   cases h2:(!(pA a1.2.1 (-256) 256)) with
   | true =>
    have e:=Eq.refl (tV a0 a1);conv at e=>rhs;simp only [tV,h0,h1,h2,aI]
    rw [e]
    exact rt (t2++[.d h2]) [] [] hcx (by kernel_rfl)
   | false =>
    let t3:List (St Tryz.prog):=(t2++[.d h2,.u 0,.T,.i 2 3 (by decide),.c [] (C55 a1.2.2 (-256) 256)])
    cases h3:(!(pA a1.2.2 (-256) 256)) with
    | true =>
     have e:=Eq.refl (tV a0 a1);conv at e=>rhs;simp only [tV,h0,h1,h2,h3,aI]
     rw [e]
     exact rt (t3++[.d h3]) [] [] hcx (by kernel_rfl)
    | false =>
     have e:=Eq.refl (tV a0 a1);conv at e=>rhs;simp only [tV,h0,h1,h2,h3,aI]
     rw [e]
     refine en (t3++[.d h3,.u 0,.F]) [] [3,9,39,40,41] [3] hcx aSc (aSd) (aLi a0 a1 0 0) (toNat ((a0.1.length:Int) - 0)+1) (by kernel_rfl) ?_
     exact bDb a0 a1 l0_1 l0_2 hcx (toNat ((a0.1.length:Int) - 0)+1) 0 0 (by(try simp only [Ls]);omega) (by(try simp only [Ls]);omega)
noncomputable def aSe:Code:=(aD [1,1,1,0,1] [] (aG Tryz.f62) []).1
noncomputable def aSf:List K:=(aD [1,1,1,0,1] [] (aG Tryz.f62) []).2
def aLj (a0:Zm)(v1 v2 v3 v4 v5 v6 v7:Int):LS:=⟨iH 65 [(2,(.p 2 0)),(3,(.p 3 0)),(24,(.s 0 0 a0.1.length 3)),(25,(iv (a0.1.length:Int))),(26,(iv v1))],[(.live false true (flat dL a0.1)),(.live false true (flat dW a0.2)),(.live true false [(iv v2),(iv v3),(iv v4)]),(.live true false [(iv v5),(iv v6),(iv v7)])]⟩
def qR (a0:Zm):Int×Int×Int×Int×Zt->(Int×Int×Int×Int×Zt)⊕(Zt×Zt×Int)
 | (v1,v2,v3,v4,v5,v6,v7) =>
  (bif (decide ((v1:Int) < (a0.1.length:Int))) then
   (.inl ((v1+1),(if((a0.1.getD (toNat v1) default).1:Int) < v2 then(a0.1.getD (toNat v1) default).1 else v2),(if((a0.1.getD (toNat v1) default).2.1:Int) < v3 then(a0.1.getD (toNat v1) default).2.1 else v3),(if((a0.1.getD (toNat v1) default).2.2:Int) < v4 then(a0.1.getD (toNat v1) default).2.2 else v4),(if(v5:Int) < (a0.1.getD (toNat v1) default).1 then(a0.1.getD (toNat v1) default).1 else v5),(if(v6:Int) < (a0.1.getD (toNat v1) default).2.1 then(a0.1.getD (toNat v1) default).2.1 else v6),(if(v7:Int) < (a0.1.getD (toNat v1) default).2.2 then(a0.1.getD (toNat v1) default).2.2 else v7)))
  else
   (.inr ((v2,v3,v4),(v5,v6,v7),0)))
theorem bDc (a0:Zm)(l0_1:a0.1.length<=9223372036854775807)(l0_2:a0.2.length<=9223372036854775807) {cx:Cx} (hcx:cx.base=2):∀(n:Nat)(v1 v2 v3 v4 v5 v6 v7:Int),0<=v1->toNat ((a0.1.length:Int) - v1) < n->Aw.Good Tryz.prog none 9 (bodyPost Tryz.prog Tryz.f62 (RR cx (.t [(.a (k3 (aB (qR a0) n (v1,v2,v3,v4,v5,v6,v7)).1)),(.a (k3 (aB (qR a0) n (v1,v2,v3,v4,v5,v6,v7)).2.1)),(iv (aB (qR a0) n (v1,v2,v3,v4,v5,v6,v7)).2.2)]) [] [])) cx [] (.l aSe n::aSf) (aLj a0 v1 v2 v3 v4 v5 v6 v7):=by
 intro n
 induction n with
 | zero=>intro v1 v2 v3 v4 v5 v6 v7 hi hn;exact absurd hn (gP _)
 | succ n ih =>
   intro v1 v2 v3 v4 v5 v6 v7 hi hn
   refine aH ?_
   cases h0:(decide ((v1:Int) < (a0.1.length:Int))) with
   | true =>
    have q0:=bO h0
    have e:=Eq.refl (qR a0 (v1,v2,v3,v4,v5,v6,v7));conv at e=>rhs;simp only [qR,h0,aI]
    rw [aA e]
    refine ba [.d h0,.i v1 (a0.1.length),.L bM a0.1 v1 0 3] [] [2,3,24,25,26] [2,3] hcx (m:=n) aSe (aSf) (aLj a0 (W (v1+1)) (if((a0.1.getD (toNat v1) default).1:Int) < v2 then(a0.1.getD (toNat v1) default).1 else v2) (if((a0.1.getD (toNat v1) default).2.1:Int) < v3 then(a0.1.getD (toNat v1) default).2.1 else v3) (if((a0.1.getD (toNat v1) default).2.2:Int) < v4 then(a0.1.getD (toNat v1) default).2.2 else v4) (if(v5:Int) < (a0.1.getD (toNat v1) default).1 then(a0.1.getD (toNat v1) default).1 else v5) (if(v6:Int) < (a0.1.getD (toNat v1) default).2.1 then(a0.1.getD (toNat v1) default).2.1 else v6) (if(v7:Int) < (a0.1.getD (toNat v1) default).2.2 then(a0.1.getD (toNat v1) default).2.2 else v7)) (by kernel_rfl) ?_
    have z0:(W (v1+1))=(v1+1):=aE (by omega) (by omega)
    rw [z0]
    exact ih (v1+1) (if((a0.1.getD (toNat v1) default).1:Int) < v2 then(a0.1.getD (toNat v1) default).1 else v2) (if((a0.1.getD (toNat v1) default).2.1:Int) < v3 then(a0.1.getD (toNat v1) default).2.1 else v3) (if((a0.1.getD (toNat v1) default).2.2:Int) < v4 then(a0.1.getD (toNat v1) default).2.2 else v4) (if(v5:Int) < (a0.1.getD (toNat v1) default).1 then(a0.1.getD (toNat v1) default).1 else v5) (if(v6:Int) < (a0.1.getD (toNat v1) default).2.1 then(a0.1.getD (toNat v1) default).2.1 else v6) (if(v7:Int) < (a0.1.getD (toNat v1) default).2.2 then(a0.1.getD (toNat v1) default).2.2 else v7) (by(try simp only [Ls]);omega) (by(try simp only [Ls]);omega)
   | false =>
    have q0:=cA h0
    have e:=Eq.refl (qR a0 (v1,v2,v3,v4,v5,v6,v7));conv at e=>rhs;simp only [qR,h0,aI]
    rw [aC,e]
    exact rt [.d h0] [] [] hcx (by kernel_rfl)
def sU (a0:Zm):Zt×Zt×Int :=
 (bif (((fB (a0.1,a0.2)):Int) != 0) then
  ((0,0,0),(0,0,0),(fB (a0.1,a0.2)))
 else
  (aB (qR a0) (toNat ((a0.1.length:Int) - 0)+1) (0,(a0.1.getD (toNat 0) default).1,(a0.1.getD (toNat 0) default).2.1,(a0.1.getD (toNat 0) default).2.2,(a0.1.getD (toNat 0) default).1,(a0.1.getD (toNat 0) default).2.1,(a0.1.getD (toNat 0) default).2.2)))
theorem C62 (a0:Zm)(l0_1:a0.1.length<=9223372036854775807)(l0_2:a0.2.length<=9223372036854775807):Con Tryz.prog 62 [(.a [(.s 0 0 a0.1.length 3),(.s 1 0 a0.2.length 3)])] [(.live false true (flat dL a0.1)),(.live false true (flat dW a0.2))] (.t [(.a (k3 (sU a0).1)),(.a (k3 (sU a0).2.1)),(iv (sU a0).2.2)]) []:=by
 refine aJ Tryz.func62 (by kernel_rfl) fun cx hcx=>?_
 try have hp1:1<=a0.1.length:=(oZ h0).1
 let t0:List (St Tryz.prog):=[.c [0,1] (C35 (a0.1,a0.2) (by(try simp only [Lt]);omega) (by(try simp only [Lt]);omega))]
 cases h0:(((fB (a0.1,a0.2)):Int) != 0) with
 | true =>
  have q0:=bne_iff_ne.1 h0
  try have hp1:1<=a0.1.length:=(oZ h0).1
  have e:=Eq.refl (sU a0);conv at e=>rhs;simp only [sU,h0,aI]
  rw [e]
  exact rt (t0++[.d h0]) [] [] hcx (by kernel_rfl)
 | false =>
  have q0:=bne_eq_false_iff_eq.1 h0
  try have hp1:1<=a0.1.length:=(oZ h0).1
  have e:=Eq.refl (sU a0);conv at e=>rhs;simp only [sU,h0,aI]
  rw [e]
  refine en (t0++[.d h0,.i 0 (a0.1.length),.L bM a0.1 0 0 3,.i 0 (a0.1.length),.L bM a0.1 0 0 3]) [] [2,3,24,25,26] [3,4] hcx aSe (aSf) (aLj a0 0 ((a0.1.getD (toNat 0) default).1) ((a0.1.getD (toNat 0) default).2.1) ((a0.1.getD (toNat 0) default).2.2) ((a0.1.getD (toNat 0) default).1) ((a0.1.getD (toNat 0) default).2.1) ((a0.1.getD (toNat 0) default).2.2)) (toNat ((a0.1.length:Int) - 0)+1) (by kernel_rfl) ?_
  exact bDc a0 l0_1 l0_2 hcx (toNat ((a0.1.length:Int) - 0)+1) 0 ((a0.1.getD (toNat 0) default).1) ((a0.1.getD (toNat 0) default).2.1) ((a0.1.getD (toNat 0) default).2.2) ((a0.1.getD (toNat 0) default).1) ((a0.1.getD (toNat 0) default).2.1) ((a0.1.getD (toNat 0) default).2.2) (by(try simp only [Ls]);omega) (by(try simp only [Ls]);omega)
noncomputable def aSg:Code:=(aD [1,1,0,1] [] (aG Tryz.f57) []).1
noncomputable def aSh:List K:=(aD [1,1,0,1] [] (aG Tryz.f57) []).2
def aLk (a0:Zm)(v1c:List SV)(v1n:Nat)(v2:Int):LS:=⟨iH 19 [(3,(.s 2 0 v1n 1)),(10,(iv (((toNat (a0.2.length:Int)):Nat):Int))),(11,(iv v2))],[(.live false true (flat dL a0.1)),(.live false true (flat dW a0.2)),(.live true true v1c)]⟩
def sV (a0:Zm):List (Int)×Int->(List (Int)×Int)⊕(List (Int))
 | (v1,v2) =>
  (bif (decide ((v2:Int) < (((toNat (a0.2.length:Int)):Nat):Int))) then
   (.inl ((v1.set (toNat v2) 1),(v2+1)))
  else
   (.inr v1))
theorem bDd (a0:Zm)(l0_1:a0.1.length<=9223372036854775807)(l0_2:a0.2.length<=9223372036854775807)(hn:a0.2.length<=96) {cx:Cx} (hcx:cx.base=2):∀(n:Nat)(v1:List (Int))(v2:Int),(0<=v2)/\(v1.length=a0.2.length)->toNat ((((toNat (a0.2.length:Int)):Nat):Int) - v2) < n->Aw.Good Tryz.prog none 9 (bodyPost Tryz.prog Tryz.f57 (RR cx (.s 2 0 (aB (sV a0) n (v1,v2)).length 1) [(.live true true (flat c3 (aB (sV a0) n (v1,v2))))] [])) cx [] (.l aSg n::aSh) (aLk a0 (flat c3 v1) v1.length v2):=by
 intro n
 induction n with
 | zero=>intro v1 v2 hi hn;exact absurd hn (gP _)
 | succ n ih =>
   intro v1 v2 hi hn
   refine aH ?_
   cases h0:(decide ((v2:Int) < (((toNat (a0.2.length:Int)):Nat):Int))) with
   | true =>
    have q0:=bO h0
    have e:=Eq.refl (sV a0 (v1,v2));conv at e=>rhs;simp only [sV,h0,aI]
    rw [aA e]
    refine ba [.d h0,.i v2 (v1.length),.p (show((0+toNat v2*1)+1<=(flat c3 v1).length) from(jT fX (by first | omega | (simp only [Lt];omega)) (o:=0) (Nb rfl)))] [] [3,10,11] [2] hcx (m:=n) aSg (aSh) (aLk a0 (splice (flat c3 v1) (0+toNat v2*1) [(iv 1)]) (v1.length) (W (v2+1))) (by kernel_rfl) ?_
    have z0:(W (v2+1))=(v2+1):=aE (by omega) (by omega)
    have z1:(splice (flat c3 v1) (0+toNat v2*1) [(iv 1)])=flat c3 (v1.set (toNat v2) 1):=(eN fX (by first | omega | (simp only [Lt];omega)) (o:=0) (d:=default) (Nb rfl) rfl)
    have z2:v1.length=(v1.set (toNat v2) 1).length:=by simp
    rw [z0,z1,z2]
    exact ih (v1.set (toNat v2) 1) (v2+1) (by refine⟨?_,?_⟩<;>(try simp only [Ls])<;>first | omega | assumption | simp) (by(try simp only [Ls]);omega)
   | false =>
    have q0:=cA h0
    have e:=Eq.refl (sV a0 (v1,v2));conv at e=>rhs;simp only [sV,h0,aI]
    rw [aC,e]
    exact rt [.d h0] [] [2] hcx (by kernel_rfl)
def F57 (a0:Zm):List (Int) :=
 (aB (sV a0) (toNat ((((toNat (a0.2.length:Int)):Nat):Int) - 0)+1) ((List.replicate (toNat (a0.2.length:Int)) 0),0))
theorem C57 (a0:Zm)(l0_1:a0.1.length<=9223372036854775807)(l0_2:a0.2.length<=9223372036854775807)(hn:a0.2.length<=96):Con Tryz.prog 57 [(.a [(.s 0 0 a0.1.length 3),(.s 1 0 a0.2.length 3)])] [(.live false true (flat dL a0.1)),(.live false true (flat dW a0.2))] (.s 2 0 (F57 a0).length 1) [(.live true true (flat c3 (F57 a0)))]:=by
 refine aJ Tryz.func57 (by kernel_rfl) fun cx hcx=>?_
 have e:=Eq.refl (F57 a0);conv at e=>rhs;simp only [F57]
 rw [e]
 refine en [.Z c3 0 [(iv 0)] (a0.2.length:Int) 8] [] [3,10,11] [3] hcx aSg (aSh) (aLk a0 (flat c3 (List.replicate (toNat (a0.2.length:Int)) 0)) (toNat (a0.2.length:Int)) 0) (toNat ((((toNat (a0.2.length:Int)):Nat):Int) - 0)+1) (by kernel_rfl) ?_
 have q:=bDd a0 l0_1 l0_2 hn hcx (toNat ((((toNat (a0.2.length:Int)):Nat):Int) - 0)+1) (List.replicate (toNat (a0.2.length:Int)) 0) 0 (by refine⟨?_,?_⟩<;>(try simp only [Ls])<;>first | omega | assumption | simp) (by(try simp only [Ls]);omega)
 simp only [List.length_replicate] at q
 exact q
def F30 (a0:Zm)(a1:Int):Int×Int :=
 (bif (((fB (a0.1,a0.2)):Int) != 0) then
  (0,(fB (a0.1,a0.2)))
 else
  (bif (!(pA a1 0 2)) then
   (0,1)
  else
   ((W ((W ((a0.2.length:Int)*(a0.2.length:Int)))*(W ((W (1*2 ^ (min (toNat (W (2*a1))) 64)))+(W ((W (1*2 ^ (min (toNat (W (2*a1))) 64)))*(W (1*2 ^ (min (toNat (W (2*a1))) 64))))))))),0)))
theorem C30 (a0:Zm)(a1:Int)(l0_1:a0.1.length<=9223372036854775807)(l0_2:a0.2.length<=9223372036854775807):Con Tryz.prog 30 [(.a [(.s 0 0 a0.1.length 3),(.s 1 0 a0.2.length 3)]),(iv a1)] [(.live false true (flat dL a0.1)),(.live false true (flat dW a0.2))] (.t (k2 (F30 a0 a1))) []:=by
 refine aJ Tryz.func30 (by kernel_rfl) fun cx hcx=>?_
 try have hw1:=qQ h1
 let t0:List (St Tryz.prog):=[.c [0,1] (C35 (a0.1,a0.2) (by(try simp only [Lt]);omega) (by(try simp only [Lt]);omega))]
 cases h0:(((fB (a0.1,a0.2)):Int) != 0) with
 | true =>
  have q0:=bne_iff_ne.1 h0
  try have hw1:=qQ h1
  have e:=Eq.refl (F30 a0 a1);conv at e=>rhs;simp only [F30,h0,aI]
  rw [e]
  exact rt (t0++[.d h0]) [] [] hcx (by kernel_rfl)
 | false =>
  have q0:=bne_eq_false_iff_eq.1 h0
  try have hw1:=qQ h1
  let t1:List (St Tryz.prog):=(t0++[.d h0,.c [] (C55 a1 0 2)])
  cases h1:(!(pA a1 0 2)) with
  | true =>
   try have hw1:=qQ h1
   have e:=Eq.refl (F30 a0 a1);conv at e=>rhs;simp only [F30,h0,h1,aI]
   rw [e]
   exact rt (t1++[.d h1]) [] [] hcx (by kernel_rfl)
  | false =>
   try have hw1:=qQ h1
   have e:=Eq.refl (F30 a0 a1);conv at e=>rhs;simp only [F30,h0,h1,aI]
   rw [e]
   exact rt (t1++[.d h1,.p (show 0<=((W (2*a1)):Int) from by first | omega | (rw [aE]<;>omega) | exact eE _)]) [] [] hcx (by kernel_rfl)
noncomputable def aCs:Code:=(aD [1,1,0,1] [] (aG Tryz.f109) []).1
noncomputable def aCt:List K:=(aD [1,1,0,1] [] (aG Tryz.f109) []).2
def xS (a0:List (Int))(v1 v2:Int):LS:=⟨iH 18 [(0,(.s 0 0 a0.length 1)),(3,(iv v1)),(4,(iv v2))],[(.live false true (flat c3 a0))]⟩
def kM (a0:List (Int)):Int×Int->(Int×Int)⊕(Int)
 | (v1,v2) =>
  (bif (decide ((v2:Int) < (a0.length:Int))) then
   (.inl ((W (v1+(a0.getD (toNat v2) default))),(v2+1)))
  else
   (.inr v1))
theorem aSi (a0:List (Int))(l0:a0.length<=9223372036854775807) {cx:Cx} (hcx:cx.base=1):∀(n:Nat)(v1 v2:Int),0<=v2->toNat ((a0.length:Int) - v2) < n->Aw.Good Tryz.prog none 9 (bodyPost Tryz.prog Tryz.f109 (RR cx (iv (aB (kM a0) n (v1,v2))) [] [])) cx [] (.l aCs n::aCt) (xS a0 v1 v2):=by
 intro n
 induction n with
 | zero=>intro v1 v2 hi hn;exact absurd hn (gP _)
 | succ n ih =>
   intro v1 v2 hi hn
   refine aH ?_
   cases h0:(decide ((v2:Int) < (a0.length:Int))) with
   | true =>
    have q0:=bO h0
    have e:=Eq.refl (kM a0 (v1,v2));conv at e=>rhs;simp only [kM,h0,aI]
    rw [aA e]
    refine ba [.d h0,.i v2 (a0.length),.L fX a0 v2 0 1] [] [0,3,4] [] hcx (m:=n) aCs (aCt) (xS a0 (W (v1+(a0.getD (toNat v2) default))) (W (v2+1))) (by kernel_rfl) ?_
    have z0:(W (v2+1))=(v2+1):=aE (by omega) (by omega)
    rw [z0]
    exact ih (W (v1+(a0.getD (toNat v2) default))) (v2+1) (by(try simp only [Ls]);omega) (by(try simp only [Ls]);omega)
   | false =>
    have q0:=cA h0
    have e:=Eq.refl (kM a0 (v1,v2));conv at e=>rhs;simp only [kM,h0,aI]
    rw [aC,e]
    exact rt [.d h0] [] [] hcx (by kernel_rfl)
def cF (a0:List (Int)):Int :=
 (aB (kM a0) (toNat ((a0.length:Int) - 0)+1) (0,0))
theorem aGt (a0:List (Int))(l0:a0.length<=9223372036854775807):Con Tryz.prog 109 [(.s 0 0 a0.length 1)] [(.live false true (flat c3 a0))] (iv (cF a0)) []:=by
 refine aJ Tryz.func109 (by kernel_rfl) fun cx hcx=>?_
 have e:=Eq.refl (cF a0);conv at e=>rhs;simp only [cF]
 rw [e]
 refine en [] [] [0,3,4] [] hcx aCs (aCt) (xS a0 0 0) (toNat ((a0.length:Int) - 0)+1) (by kernel_rfl) ?_
 exact aSi a0 l0 hcx (toNat ((a0.length:Int) - 0)+1) 0 0 (by(try simp only [Ls]);omega) (by(try simp only [Ls]);omega)
noncomputable def aCu:Code:=(aD [1,1,1,1,0,1] [] (aG Tryz.f151) []).1
noncomputable def aCv:List K:=(aD [1,1,1,1,0,1] [] (aG Tryz.f151) []).2
def xT (a0:Zm)(a1:List (Int))(v1:Int):LS:=⟨iH 33 [(1,(.s 2 0 a1.length 1)),(6,(iv v1))],[(.live false true (flat dL a0.1)),(.live false true (flat dW a0.2)),(.live false true (flat c3 a1))]⟩
def fO (a0:Zm)(a1:List (Int)):Int->(Int)⊕(Int)
 | v1 =>
  (bif (decide ((v1:Int) < (a1.length:Int))) then
   (bif (!(F52 (a1.getD (toNat v1) default) 0 100)) then
    (.inr 1)
   else
    (.inl (v1+1)))
  else
   (bif (((cF a1):Int) == 0) then
    (.inr 11)
   else
    (.inr 0)))
theorem aSj (a0:Zm)(a1:List (Int))(l0_1:a0.1.length<=9223372036854775807)(l0_2:a0.2.length<=9223372036854775807)(l1:a1.length<=9223372036854775807) {cx:Cx} (hcx:cx.base=3):∀(n:Nat)(v1:Int),0<=v1->toNat ((a1.length:Int) - v1) < n->Aw.Good Tryz.prog none 9 (bodyPost Tryz.prog Tryz.f151 (RR cx (iv (aB (fO a0 a1) n v1)) [] [])) cx [] (.l aCu n::aCv) (xT a0 a1 v1):=by
 intro n
 induction n with
 | zero=>intro v1 hi hn;exact absurd hn (gP _)
 | succ n ih =>
   intro v1 hi hn
   refine aH ?_
   cases h0:(decide ((v1:Int) < (a1.length:Int))) with
   | true =>
    have q0:=bO h0
    let t1:List (St Tryz.prog):=[.d h0,.i v1 (a1.length),.L fX a1 v1 0 1,.c [] (C52 (a1.getD (toNat v1) default) 0 100)]
    cases h1:(!(F52 (a1.getD (toNat v1) default) 0 100)) with
    | true =>
     have e:=Eq.refl (fO a0 a1 v1);conv at e=>rhs;simp only [fO,h0,h1,aI]
     rw [aC,e]
     exact rt (t1++[.d h1]) [] [] hcx (by kernel_rfl)
    | false =>
     have e:=Eq.refl (fO a0 a1 v1);conv at e=>rhs;simp only [fO,h0,h1,aI]
     rw [aA e]
     refine ba (t1++[.d h1]) [] [1,6] [] hcx (m:=n) aCu (aCv) (xT a0 a1 (W (v1+1))) (by kernel_rfl) ?_
     have z0:(W (v1+1))=(v1+1):=aE (by omega) (by omega)
     rw [z0]
     exact ih (v1+1) (by(try simp only [Ls]);omega) (by(try simp only [Ls]);omega)
   | false =>
    have q0:=cA h0
    let t1:List (St Tryz.prog):=[.d h0,.c [2] (aGt a1 (by omega))]
    cases h1:(((cF a1):Int) == 0) with
    | true =>
     have q1:=eq_of_beq h1
     have e:=Eq.refl (fO a0 a1 v1);conv at e=>rhs;simp only [fO,h0,h1,aI]
     rw [aC,e]
     exact rt (t1++[.d h1]) [] [] hcx (by kernel_rfl)
    | false =>
     have q1:=ne_of_beq_false h1
     have e:=Eq.refl (fO a0 a1 v1);conv at e=>rhs;simp only [fO,h0,h1,aI]
     rw [aC,e]
     exact rt (t1++[.d h1]) [] [] hcx (by kernel_rfl)
def jU (a0:Zm)(a1:List (Int)):Int :=
 (bif (((vU (a0.1,a0.2)):Int) != 0) then
  (vU (a0.1,a0.2))
 else
  (bif (((a1.length:Int):Int) != (a0.2.length:Int)) then
   1
  else
   (aB (fO a0 a1) (toNat ((a1.length:Int) - 0)+1) 0)))
theorem aZk (a0:Zm)(a1:List (Int))(l0_1:a0.1.length<=9223372036854775807)(l0_2:a0.2.length<=9223372036854775807)(l1:a1.length<=9223372036854775807):Con Tryz.prog 151 [(.a [(.s 0 0 a0.1.length 3),(.s 1 0 a0.2.length 3)]),(.s 2 0 a1.length 1)] [(.live false true (flat dL a0.1)),(.live false true (flat dW a0.2)),(.live false true (flat c3 a1))] (iv (jU a0 a1)) []:=by
 refine aJ Tryz.func151 (by kernel_rfl) fun cx hcx=>?_
 let t0:List (St Tryz.prog):=[.c [0,1] (C50 (a0.1,a0.2) (by(try simp only [Lt]);omega) (by(try simp only [Lt]);omega))]
 cases h0:(((vU (a0.1,a0.2)):Int) != 0) with
 | true =>
  have q0:=bne_iff_ne.1 h0
  have e:=Eq.refl (jU a0 a1);conv at e=>rhs;simp only [jU,h0,aI]
  rw [e]
  exact rt (t0++[.d h0]) [] [] hcx (by kernel_rfl)
 | false =>
  have q0:=bne_eq_false_iff_eq.1 h0
  let t1:List (St Tryz.prog):=(t0++[.d h0])
  cases h1:(((a1.length:Int):Int) != (a0.2.length:Int)) with
  | true =>
   have q1:=bne_iff_ne.1 h1
   have e:=Eq.refl (jU a0 a1);conv at e=>rhs;simp only [jU,h0,h1,aI]
   rw [e]
   exact rt (t1++[.d h1]) [] [] hcx (by kernel_rfl)
  | false =>
   have q1:=bne_eq_false_iff_eq.1 h1
   have e:=Eq.refl (jU a0 a1);conv at e=>rhs;simp only [jU,h0,h1,aI]
   rw [e]
   refine en (t1++[.d h1]) [] [1,6] [] hcx aCu (aCv) (xT a0 a1 0) (toNat ((a1.length:Int) - 0)+1) (by kernel_rfl) ?_
   exact aSj a0 a1 l0_1 l0_2 l1 hcx (toNat ((a1.length:Int) - 0)+1) 0 (by(try simp only [Ls]);omega) (by(try simp only [Ls]);omega)
def fQ (a0:Zm)(a1:List (Int))(a2:Int):Int :=
 (bif (((jU (a0.1,a0.2) a1):Int) != 0) then
  (jU (a0.1,a0.2) a1)
 else
  (bif (!(F52 a2 0 2)) then
   1
  else
   0))
theorem aSk (a0:Zm)(a1:List (Int))(a2:Int)(l0_1:a0.1.length<=9223372036854775807)(l0_2:a0.2.length<=9223372036854775807)(l1:a1.length<=9223372036854775807):Con Tryz.prog 133 [(.a [(.s 0 0 a0.1.length 3),(.s 1 0 a0.2.length 3)]),(.s 2 0 a1.length 1),(iv a2)] [(.live false true (flat dL a0.1)),(.live false true (flat dW a0.2)),(.live false true (flat c3 a1))] (iv (fQ a0 a1 a2)) []:=by
 refine aJ Tryz.func133 (by kernel_rfl) fun cx hcx=>?_
 let t0:List (St Tryz.prog):=[.c [0,1,2] (aZk (a0.1,a0.2) a1 (by(try simp only [Lt]);omega) (by(try simp only [Lt]);omega) (by omega))]
 cases h0:(((jU (a0.1,a0.2) a1):Int) != 0) with
 | true =>
  have q0:=bne_iff_ne.1 h0
  have e:=Eq.refl (fQ a0 a1 a2);conv at e=>rhs;simp only [fQ,h0,aI]
  rw [e]
  exact rt (t0++[.d h0]) [] [] hcx (by kernel_rfl)
 | false =>
  have q0:=bne_eq_false_iff_eq.1 h0
  let t1:List (St Tryz.prog):=(t0++[.d h0,.c [] (C52 a2 0 2)])
  cases h1:(!(F52 a2 0 2)) with
  | true =>
   have e:=Eq.refl (fQ a0 a1 a2);conv at e=>rhs;simp only [fQ,h0,h1,aI]
   rw [e]
   exact rt (t1++[.d h1]) [] [] hcx (by kernel_rfl)
  | false =>
   have e:=Eq.refl (fQ a0 a1 a2);conv at e=>rhs;simp only [fQ,h0,h1,aI]
   rw [e]
   exact rt (t1++[.d h1]) [] [] hcx (by kernel_rfl)
noncomputable def aLl:Code:=(aD [1,1,0,1] [] (aG Tryz.f134) []).1
noncomputable def aLm:List K:=(aD [1,1,0,1] [] (aG Tryz.f134) []).2
def aGu (a0:Zm)(v2c:List SV)(v2n:Nat)(v3:Int):LS:=⟨iH 41 [(1,(.p 2 0)),(3,(.s 3 0 v2n 9)),(4,(iv v3))],[(.live false true (flat dL a0.1)),(.live false true (flat dW a0.2)),(.live true false [(.s 0 0 a0.1.length 3),(.s 1 0 a0.2.length 3)]),(.live true true v2c)]⟩
def pB (a0:Zm):(List (Zt×Zt×Zt))×Int->((List (Zt×Zt×Zt))×Int)⊕(List (Zt×Zt×Zt))
 | (v2,v3) =>
  (bif (decide ((v3:Int) < (a0.2.length:Int))) then
   (.inl ((v2++[((a0.1.getD (toNat (a0.2.getD (toNat v3) default).1) default),(a0.1.getD (toNat (a0.2.getD (toNat v3) default).2.1) default),(a0.1.getD (toNat (a0.2.getD (toNat v3) default).2.2) default))]),(v3+1)))
  else
   (.inr v2))
theorem aZl (a0:Zm)(l0_1:a0.1.length<=9223372036854775807)(l0_2:a0.2.length<=9223372036854775807)(hv:mF a0 a0.2.length)(hn:a0.2.length<=96) {cx:Cx} (hcx:cx.base=2):∀(n:Nat)(v2:List (Zt×Zt×Zt))(v3:Int),(0<=v3)/\(v2.length=toNat v3)/\(v3<=a0.2.length)->toNat ((a0.2.length:Int) - v3) < n->Aw.Good Tryz.prog none 9 (bodyPost Tryz.prog Tryz.f134 (RR cx (.s 2 0 (aB (pB a0) n (v2,v3)).length 9) [(.live true true (flat dM (aB (pB a0) n (v2,v3))))] [])) cx [] (.l aLl n::aLm) (aGu a0 (flat dM v2) v2.length v3):=by
 intro n
 induction n with
 | zero=>intro v2 v3 hi hn;exact absurd hn (gP _)
 | succ n ih =>
   intro v2 v3 hi hn
   refine aH ?_
   have hf0:=aVj hv v3
   cases h0:(decide ((v3:Int) < (a0.2.length:Int))) with
   | true =>
    have q0:=bO h0
    have e:=Eq.refl (pB a0 (v2,v3));conv at e=>rhs;simp only [pB,h0,aI]
    rw [aA e]
    refine ba [.d h0,.i v3 (a0.2.length),.L aW a0.2 v3 0 3,.i 0 3 (by decide),.i ((a0.2.getD (toNat v3) default).1) (a0.1.length),.L bM a0.1 (a0.2.getD (toNat v3) default).1 0 3,.i 1 3 (by decide),.i ((a0.2.getD (toNat v3) default).2.1) (a0.1.length),.L bM a0.1 (a0.2.getD (toNat v3) default).2.1 0 3,.i 2 3 (by decide),.i ((a0.2.getD (toNat v3) default).2.2) (a0.1.length),.L bM a0.1 (a0.2.getD (toNat v3) default).2.2 0 3,.p (show((flat dM v2).length=v2.length*9/\v2.length+1<=2 ^ 40/\(v2.length+1)*72<=2 ^ 47) from gL cW (by omega) (by omega))] [] [1,3,4] [2,6] hcx (m:=n) aLl (aLm) (aGu a0 (flat dM v2++[(iv (a0.1.getD (toNat (a0.2.getD (toNat v3) default).1) default).1),(iv (a0.1.getD (toNat (a0.2.getD (toNat v3) default).1) default).2.1),(iv (a0.1.getD (toNat (a0.2.getD (toNat v3) default).1) default).2.2),(iv (a0.1.getD (toNat (a0.2.getD (toNat v3) default).2.1) default).1),(iv (a0.1.getD (toNat (a0.2.getD (toNat v3) default).2.1) default).2.1),(iv (a0.1.getD (toNat (a0.2.getD (toNat v3) default).2.1) default).2.2),(iv (a0.1.getD (toNat (a0.2.getD (toNat v3) default).2.2) default).1),(iv (a0.1.getD (toNat (a0.2.getD (toNat v3) default).2.2) default).2.1),(iv (a0.1.getD (toNat (a0.2.getD (toNat v3) default).2.2) default).2.2)]) (v2.length+1) (W (v3+1))) (by kernel_rfl) ?_
    have z0:(W (v3+1))=(v3+1):=aE (by omega) (by omega)
    have z1:(flat dM v2++[(iv (a0.1.getD (toNat (a0.2.getD (toNat v3) default).1) default).1),(iv (a0.1.getD (toNat (a0.2.getD (toNat v3) default).1) default).2.1),(iv (a0.1.getD (toNat (a0.2.getD (toNat v3) default).1) default).2.2),(iv (a0.1.getD (toNat (a0.2.getD (toNat v3) default).2.1) default).1),(iv (a0.1.getD (toNat (a0.2.getD (toNat v3) default).2.1) default).2.1),(iv (a0.1.getD (toNat (a0.2.getD (toNat v3) default).2.1) default).2.2),(iv (a0.1.getD (toNat (a0.2.getD (toNat v3) default).2.2) default).1),(iv (a0.1.getD (toNat (a0.2.getD (toNat v3) default).2.2) default).2.1),(iv (a0.1.getD (toNat (a0.2.getD (toNat v3) default).2.2) default).2.2)])=(flat dM (v2++[((a0.1.getD (toNat (a0.2.getD (toNat v3) default).1) default),(a0.1.getD (toNat (a0.2.getD (toNat v3) default).2.1) default),(a0.1.getD (toNat (a0.2.getD (toNat v3) default).2.2) default))])):=(bN (c:=dM) (l:=v2) (m:=[((a0.1.getD (toNat (a0.2.getD (toNat v3) default).1) default),(a0.1.getD (toNat (a0.2.getD (toNat v3) default).2.1) default),(a0.1.getD (toNat (a0.2.getD (toNat v3) default).2.2) default))])).symm
    have z2:(v2.length+1)=(v2++[((a0.1.getD (toNat (a0.2.getD (toNat v3) default).1) default),(a0.1.getD (toNat (a0.2.getD (toNat v3) default).2.1) default),(a0.1.getD (toNat (a0.2.getD (toNat v3) default).2.2) default))]).length:=eH v2 [((a0.1.getD (toNat (a0.2.getD (toNat v3) default).1) default),(a0.1.getD (toNat (a0.2.getD (toNat v3) default).2.1) default),(a0.1.getD (toNat (a0.2.getD (toNat v3) default).2.2) default))] rfl
    rw [z0,z1,z2]
    exact ih (v2++[((a0.1.getD (toNat (a0.2.getD (toNat v3) default).1) default),(a0.1.getD (toNat (a0.2.getD (toNat v3) default).2.1) default),(a0.1.getD (toNat (a0.2.getD (toNat v3) default).2.2) default))]) (v3+1) (by refine⟨?_,?_,?_⟩<;>(try simp only [Ls])<;>first | omega | assumption | simp) (by(try simp only [Ls]);omega)
   | false =>
    have q0:=cA h0
    have e:=Eq.refl (pB a0 (v2,v3));conv at e=>rhs;simp only [pB,h0,aI]
    rw [aC,e]
    exact rt [.d h0] [] [3] hcx (by kernel_rfl)
def aN (a0:Zm):List (Zt×Zt×Zt) :=
 (aB (pB a0) (toNat ((a0.2.length:Int) - 0)+1) (([]:List (Zt×Zt×Zt)),0))
theorem bDe (a0:Zm)(l0_1:a0.1.length<=9223372036854775807)(l0_2:a0.2.length<=9223372036854775807)(hv:mF a0 a0.2.length)(hn:a0.2.length<=96):Con Tryz.prog 134 [(.a [(.s 0 0 a0.1.length 3),(.s 1 0 a0.2.length 3)])] [(.live false true (flat dL a0.1)),(.live false true (flat dW a0.2))] (.s 2 0 (aN a0).length 9) [(.live true true (flat dM (aN a0)))]:=by
 refine aJ Tryz.func134 (by kernel_rfl) fun cx hcx=>?_
 have e:=Eq.refl (aN a0);conv at e=>rhs;simp only [aN]
 rw [e]
 refine en [] [.slot 3 9] [1,3,4] [2,3] hcx aLl (aLm) (aGu a0 (flat dM ([]:List (Zt×Zt×Zt))) 0 0) (toNat ((a0.2.length:Int) - 0)+1) (by kernel_rfl) ?_
 exact aZl a0 l0_1 l0_2 hv hn hcx (toNat ((a0.2.length:Int) - 0)+1) ([]:List (Zt×Zt×Zt)) 0 (by refine⟨?_,?_,?_⟩<;>(try simp only [Ls])<;>first | omega | assumption | simp) (by(try simp only [Ls]);omega)
def aCw (a0:Int):Int×Int :=
 (bif (decide ((a0:Int) > 1099511627776)) then
  (0,4)
 else
  (a0,0))
theorem aZm (a0:Int):Con Tryz.prog 108 [(iv a0)] [] (.t (k2 (aCw a0))) []:=by
 refine aJ Tryz.func108 (by kernel_rfl) fun cx hcx=>?_
 cases h0:(decide ((a0:Int) > 1099511627776)) with
 | true =>
  have q0:=bO h0
  have e:=Eq.refl (aCw a0);conv at e=>rhs;simp only [aCw,h0,aI]
  rw [e]
  exact rt [.d h0] [] [] hcx (by kernel_rfl)
 | false =>
  have q0:=cA h0
  have e:=Eq.refl (aCw a0);conv at e=>rhs;simp only [aCw,h0,aI]
  rw [e]
  exact rt [.d h0] [] [] hcx (by kernel_rfl)
noncomputable def aSl:Code:=(aD [1,1,1,1,1,0,1] [] (aG Tryz.f87) []).1
noncomputable def aSm:List K:=(aD [1,1,1,1,1,0,1] [] (aG Tryz.f87) []).2
def aLn (a0:Zm)(a1:Zt)(v1 v2:Int):LS:=⟨iH 43 [(2,(.p 2 0)),(3,(.p 3 0)),(7,(iv v1)),(8,(iv v2))],[(.live false true (flat dL a0.1)),(.live false true (flat dW a0.2)),(.live true false [(.s 0 0 a0.1.length 3),(.s 1 0 a0.2.length 3)]),(.live true false (k3 a1))]⟩
def sW (a0:Zm)(a1:Zt):Int×Int->(Int×Int)⊕(Int×Int)
 | (v1,v2) =>
  (bif (decide ((v2:Int) < (a0.1.length:Int))) then
   (.inl ((iI v1 (aOw (aK2 (a0.1.getD (toNat v2) default) a1))),(v2+1)))
  else
   (.inr ((tU v1).1.2,(tU v1).2)))
theorem bDf (a0:Zm)(a1:Zt)(l0_1:a0.1.length<=9223372036854775807)(l0_2:a0.2.length<=9223372036854775807) {cx:Cx} (hcx:cx.base=2):∀(n:Nat)(v1 v2:Int),0<=v2->toNat ((a0.1.length:Int) - v2) < n->Aw.Good Tryz.prog none 9 (bodyPost Tryz.prog Tryz.f87 (RR cx (.t (k2 (aB (sW a0 a1) n (v1,v2)))) [] [])) cx [] (.l aSl n::aSm) (aLn a0 a1 v1 v2):=by
 intro n
 induction n with
 | zero=>intro v1 v2 hi hn;exact absurd hn (gP _)
 | succ n ih =>
   intro v1 v2 hi hn
   refine aH ?_
   cases h0:(decide ((v2:Int) < (a0.1.length:Int))) with
   | true =>
    have q0:=bO h0
    have e:=Eq.refl (sW a0 a1 (v1,v2));conv at e=>rhs;simp only [sW,h0,aI]
    rw [aA e]
    refine ba [.d h0,.i v2 (a0.1.length),.L bM a0.1 v2 0 3,.c [] (bFt (a0.1.getD (toNat v2) default) a1),.c [] (bFs (aK2 (a0.1.getD (toNat v2) default) a1))] [] [2,3,7,8] [2,3] hcx (m:=n) aSl (aSm) (aLn a0 a1 (iI v1 (aOw (aK2 (a0.1.getD (toNat v2) default) a1))) (W (v2+1))) (by kernel_rfl) ?_
    have z0:(W (v2+1))=(v2+1):=aE (by omega) (by omega)
    rw [z0]
    exact ih (iI v1 (aOw (aK2 (a0.1.getD (toNat v2) default) a1))) (v2+1) (by(try simp only [Ls]);omega) (by(try simp only [Ls]);omega)
   | false =>
    have q0:=cA h0
    have e:=Eq.refl (sW a0 a1 (v1,v2));conv at e=>rhs;simp only [sW,h0,aI]
    rw [aC,e]
    exact rt [.d h0,.c [] (bFy v1)] [] [] hcx (by kernel_rfl)
def F87 (a0:Zm)(a1:Zt):Int×Int :=
 (bif (((vU (a0.1,a0.2)):Int) != 0) then
  (0,(vU (a0.1,a0.2)))
 else
  (bif (!(oW a1 256)) then
   (0,1)
  else
   (aB (sW a0 a1) (toNat ((a0.1.length:Int) - 0)+1) (0,0))))
theorem C87 (a0:Zm)(a1:Zt)(l0_1:a0.1.length<=9223372036854775807)(l0_2:a0.2.length<=9223372036854775807):Con Tryz.prog 87 [(.a [(.s 0 0 a0.1.length 3),(.s 1 0 a0.2.length 3)]),(.a (k3 a1))] [(.live false true (flat dL a0.1)),(.live false true (flat dW a0.2))] (.t (k2 (F87 a0 a1))) []:=by
 refine aJ Tryz.func87 (by kernel_rfl) fun cx hcx=>?_
 let t0:List (St Tryz.prog):=[.c [0,1] (C50 (a0.1,a0.2) (by(try simp only [Lt]);omega) (by(try simp only [Lt]);omega))]
 cases h0:(((vU (a0.1,a0.2)):Int) != 0) with
 | true =>
  have q0:=bne_iff_ne.1 h0
  have e:=Eq.refl (F87 a0 a1);conv at e=>rhs;simp only [F87,h0,aI]
  rw [e]
  exact rt (t0++[.d h0]) [] [] hcx (by kernel_rfl)
 | false =>
  have q0:=bne_eq_false_iff_eq.1 h0
  let t1:List (St Tryz.prog):=(t0++[.d h0,.c [] (bFr a1 256)])
  cases h1:(!(oW a1 256)) with
  | true =>
   have e:=Eq.refl (F87 a0 a1);conv at e=>rhs;simp only [F87,h0,h1,aI]
   rw [e]
   exact rt (t1++[.d h1]) [] [] hcx (by kernel_rfl)
  | false =>
   have e:=Eq.refl (F87 a0 a1);conv at e=>rhs;simp only [F87,h0,h1,aI]
   rw [e]
   refine en (t1++[.d h1]) [] [2,3,7,8] [2,3] hcx aSl (aSm) (aLn a0 a1 0 0) (toNat ((a0.1.length:Int) - 0)+1) (by kernel_rfl) ?_
   exact bDf a0 a1 l0_1 l0_2 hcx (toNat ((a0.1.length:Int) - 0)+1) 0 0 (by(try simp only [Ls]);omega) (by(try simp only [Ls]);omega)
noncomputable def aSn:Code:=(aD [1,1,0,1] [] (aG Tryz.f88) []).1
noncomputable def aSo:List K:=(aD [1,1,0,1] [] (aG Tryz.f88) []).2
def aLo (a0:Zm)(v1 v2 v3 v4 v5 v6 v7:Int):LS:=⟨iH 78 [(1,(.p 2 0)),(2,(.p 3 0)),(3,(.p 4 0)),(4,(.p 5 0)),(5,(iv v1))],[(.live false true (flat dL a0.1)),(.live false true (flat dW a0.2)),(.live true false [(.s 0 0 a0.1.length 3),(.s 1 0 a0.2.length 3)]),(.live true false [(iv 0),(iv 0),(iv 0)]),(.live true false [(iv v2),(iv v3),(iv v4)]),(.live true false [(iv v5),(iv v6),(iv v7)])]⟩
def vV (a0:Zm):Int×Int×Int×Int×Zt->(Int×Int×Int×Int×Zt)⊕Zt
 | (v1,v2,v3,v4,v5,v6,v7) =>
  (bif (decide ((v1:Int) < (a0.1.length:Int))) then
   (.inl ((v1+1),(nU v2 (a0.1.getD (toNat v1) default).1),(nU v3 (a0.1.getD (toNat v1) default).2.1),(nU v4 (a0.1.getD (toNat v1) default).2.2),(iI v5 (a0.1.getD (toNat v1) default).1),(iI v6 (a0.1.getD (toNat v1) default).2.1),(iI v7 (a0.1.getD (toNat v1) default).2.2)))
  else
   (.inr ((Int.fdiv (W (v2+v5)) (2 ^ (min (toNat 1) 64))),(Int.fdiv (W (v3+v6)) (2 ^ (min (toNat 1) 64))),(Int.fdiv (W (v4+v7)) (2 ^ (min (toNat 1) 64))))))
theorem bDg (a0:Zm)(l0_1:a0.1.length<=9223372036854775807)(l0_2:a0.2.length<=9223372036854775807)(hp:1<=a0.1.length) {cx:Cx} (hcx:cx.base=2):∀(n:Nat)(v1 v2 v3 v4 v5 v6 v7:Int),0<=v1->toNat ((a0.1.length:Int) - v1) < n->Aw.Good Tryz.prog none 9 (bodyPost Tryz.prog Tryz.f88 (RR cx (.a (k3 (aB (vV a0) n (v1,v2,v3,v4,v5,v6,v7)))) [] [])) cx [] (.l aSn n::aSo) (aLo a0 v1 v2 v3 v4 v5 v6 v7):=by
 intro n
 induction n with
 | zero=>intro v1 v2 v3 v4 v5 v6 v7 hi hn;exact absurd hn (gP _)
 | succ n ih =>
   intro v1 v2 v3 v4 v5 v6 v7 hi hn
   refine aH ?_
   cases h0:(decide ((v1:Int) < (a0.1.length:Int))) with
   | true =>
    have q0:=bO h0
    have e:=Eq.refl (vV a0 (v1,v2,v3,v4,v5,v6,v7));conv at e=>rhs;simp only [vV,h0,aI]
    rw [aA e]
    refine ba [.d h0,.i v1 (a0.1.length),.L bM a0.1 v1 0 3] [] [1,2,3,4,5] [2,3,4,5] hcx (m:=n) aSn (aSo) (aLo a0 (W (v1+1)) (nU v2 (a0.1.getD (toNat v1) default).1) (nU v3 (a0.1.getD (toNat v1) default).2.1) (nU v4 (a0.1.getD (toNat v1) default).2.2) (iI v5 (a0.1.getD (toNat v1) default).1) (iI v6 (a0.1.getD (toNat v1) default).2.1) (iI v7 (a0.1.getD (toNat v1) default).2.2)) (by kernel_rfl) ?_
    have z0:(W (v1+1))=(v1+1):=aE (by omega) (by omega)
    rw [z0]
    exact ih (v1+1) (nU v2 (a0.1.getD (toNat v1) default).1) (nU v3 (a0.1.getD (toNat v1) default).2.1) (nU v4 (a0.1.getD (toNat v1) default).2.2) (iI v5 (a0.1.getD (toNat v1) default).1) (iI v6 (a0.1.getD (toNat v1) default).2.1) (iI v7 (a0.1.getD (toNat v1) default).2.2) (by(try simp only [Ls]);omega) (by(try simp only [Ls]);omega)
   | false =>
    have q0:=cA h0
    have e:=Eq.refl (vV a0 (v1,v2,v3,v4,v5,v6,v7));conv at e=>rhs;simp only [vV,h0,aI]
    rw [aC,e]
    exact rt [.d h0,.p (show 0<=(1:Int) from by decide),.p (show 0<=(1:Int) from by decide),.p (show 0<=(1:Int) from by decide)] [] [] hcx (by kernel_rfl)
def F88 (a0:Zm):Zt :=
 (aB (vV a0) (toNat ((a0.1.length:Int) - 1)+1) (1,(a0.1.getD (toNat 0) default).1,(a0.1.getD (toNat 0) default).2.1,(a0.1.getD (toNat 0) default).2.2,(a0.1.getD (toNat 0) default).1,(a0.1.getD (toNat 0) default).2.1,(a0.1.getD (toNat 0) default).2.2))
theorem C88 (a0:Zm)(l0_1:a0.1.length<=9223372036854775807)(l0_2:a0.2.length<=9223372036854775807)(hp:1<=a0.1.length):Con Tryz.prog 88 [(.a [(.s 0 0 a0.1.length 3),(.s 1 0 a0.2.length 3)])] [(.live false true (flat dL a0.1)),(.live false true (flat dW a0.2))] (.a (k3 (F88 a0))) []:=by
 refine aJ Tryz.func88 (by kernel_rfl) fun cx hcx=>?_
 have e:=Eq.refl (F88 a0);conv at e=>rhs;simp only [F88]
 rw [e]
 refine en [.i 0 (a0.1.length),.L bM a0.1 0 0 3,.i 0 (a0.1.length),.L bM a0.1 0 0 3] [] [1,2,3,4,5] [2,3,4,5] hcx aSn (aSo) (aLo a0 1 ((a0.1.getD (toNat 0) default).1) ((a0.1.getD (toNat 0) default).2.1) ((a0.1.getD (toNat 0) default).2.2) ((a0.1.getD (toNat 0) default).1) ((a0.1.getD (toNat 0) default).2.1) ((a0.1.getD (toNat 0) default).2.2)) (toNat ((a0.1.length:Int) - 1)+1) (by kernel_rfl) ?_
 exact bDg a0 l0_1 l0_2 hp hcx (toNat ((a0.1.length:Int) - 1)+1) 1 ((a0.1.getD (toNat 0) default).1) ((a0.1.getD (toNat 0) default).2.1) ((a0.1.getD (toNat 0) default).2.2) ((a0.1.getD (toNat 0) default).1) ((a0.1.getD (toNat 0) default).2.1) ((a0.1.getD (toNat 0) default).2.2) (by(try simp only [Ls]);omega) (by(try simp only [Ls]);omega)
noncomputable def aSp:Code:=(aD [1,1,1,1,1,0,1] [] (aG Tryz.f27) []).1
noncomputable def aSq:List K:=(aD [1,1,1,1,1,0,1] [] (aG Tryz.f27) []).2
def aLp (a0:Zm)(a1:Int)(v1 v2 v3:Int):LS:=⟨iH 38 [(1,(iv a1)),(2,(.p 2 0)),(7,(iv v1)),(8,(iv v2)),(9,(iv v3))],[(.live false true (flat dL a0.1)),(.live false true (flat dW a0.2)),(.live true false [(.s 0 0 a0.1.length 3),(.s 1 0 a0.2.length 3)])]⟩
def aEx (a0:Zm)(a1:Int):Zt->Zt⊕(Int×Int)
 | (v1,v2,v3) =>
  (bif (decide ((v3:Int) < a1)) then
   (.inl ((W (v1*4)),(W (v2*16)),(v3+1)))
  else
   (.inr ((W ((W ((a0.2.length:Int)*(a0.2.length:Int)))*(W (v1+v2)))),0)))
theorem bDh (a0:Zm)(a1:Int)(l0_1:a0.1.length<=9223372036854775807)(l0_2:a0.2.length<=9223372036854775807) {cx:Cx} (hcx:cx.base=2):∀(n:Nat)(v1 v2 v3:Int),(0<=v3)/\(a1<=2)->toNat (a1 - v3) < n->Aw.Good Tryz.prog none 9 (bodyPost Tryz.prog Tryz.f27 (RR cx (.t (k2 (aB (aEx a0 a1) n (v1,v2,v3)))) [] [])) cx [] (.l aSp n::aSq) (aLp a0 a1 v1 v2 v3):=by
 intro n
 induction n with
 | zero=>intro v1 v2 v3 hi hn;exact absurd hn (gP _)
 | succ n ih =>
   intro v1 v2 v3 hi hn
   refine aH ?_
   cases h0:(decide ((v3:Int) < a1)) with
   | true =>
    have q0:=bO h0
    have e:=Eq.refl (aEx a0 a1 (v1,v2,v3));conv at e=>rhs;simp only [aEx,h0,aI]
    rw [aA e]
    refine ba [.d h0] [] [1,2,7,8,9] [2] hcx (m:=n) aSp (aSq) (aLp a0 a1 (W (v1*4)) (W (v2*16)) (W (v3+1))) (by kernel_rfl) ?_
    have z0:(W (v3+1))=(v3+1):=aE (by omega) (by omega)
    rw [z0]
    exact ih (W (v1*4)) (W (v2*16)) (v3+1) (by refine⟨?_,?_⟩<;>(try simp only [Ls])<;>first | omega | assumption | simp) (by(try simp only [Ls]);omega)
   | false =>
    have q0:=cA h0
    have e:=Eq.refl (aEx a0 a1 (v1,v2,v3));conv at e=>rhs;simp only [aEx,h0,aI]
    rw [aC,e]
    exact rt [.d h0] [] [] hcx (by kernel_rfl)
def F27 (a0:Zm)(a1:Int):Int×Int :=
 (bif (((vU (a0.1,a0.2)):Int) != 0) then
  (0,(vU (a0.1,a0.2)))
 else
  (bif (!(F52 a1 0 2)) then
   (0,1)
  else
   (aB (aEx a0 a1) (toNat (a1 - 0)+1) (1,1,0))))
theorem C27 (a0:Zm)(a1:Int)(l0_1:a0.1.length<=9223372036854775807)(l0_2:a0.2.length<=9223372036854775807):Con Tryz.prog 27 [(.a [(.s 0 0 a0.1.length 3),(.s 1 0 a0.2.length 3)]),(iv a1)] [(.live false true (flat dL a0.1)),(.live false true (flat dW a0.2))] (.t (k2 (F27 a0 a1))) []:=by
 refine aJ Tryz.func27 (by kernel_rfl) fun cx hcx=>?_
 try have hw1:=aCp h1
 let t0:List (St Tryz.prog):=[.c [0,1] (C50 (a0.1,a0.2) (by(try simp only [Lt]);omega) (by(try simp only [Lt]);omega))]
 cases h0:(((vU (a0.1,a0.2)):Int) != 0) with
 | true =>
  have q0:=bne_iff_ne.1 h0
  try have hw1:=aCp h1
  have e:=Eq.refl (F27 a0 a1);conv at e=>rhs;simp only [F27,h0,aI]
  rw [e]
  exact rt (t0++[.d h0]) [] [] hcx (by kernel_rfl)
 | false =>
  have q0:=bne_eq_false_iff_eq.1 h0
  try have hw1:=aCp h1
  let t1:List (St Tryz.prog):=(t0++[.d h0,.c [] (C52 a1 0 2)])
  cases h1:(!(F52 a1 0 2)) with
  | true =>
   try have hw1:=aCp h1
   have e:=Eq.refl (F27 a0 a1);conv at e=>rhs;simp only [F27,h0,h1,aI]
   rw [e]
   exact rt (t1++[.d h1]) [] [] hcx (by kernel_rfl)
  | false =>
   try have hw1:=aCp h1
   have e:=Eq.refl (F27 a0 a1);conv at e=>rhs;simp only [F27,h0,h1,aI]
   rw [e]
   refine en (t1++[.d h1]) [] [1,2,7,8,9] [2] hcx aSp (aSq) (aLp a0 a1 1 1 0) (toNat (a1 - 0)+1) (by kernel_rfl) ?_
   exact bDh a0 a1 l0_1 l0_2 hcx (toNat (a1 - 0)+1) 1 1 0 (by refine⟨?_,?_⟩<;>(try simp only [Ls])<;>first | omega | assumption | simp) (by(try simp only [Ls]);omega)
def oI:Zm :=
 (([(1,0,0),((-1),0,0),(0,1,0),(0,(-1),0),(0,0,1),(0,0,(-1))]:List Zt),([(0,2,4),(2,1,4),(1,3,4),(3,0,4),(2,0,5),(1,2,5),(3,1,5),(0,3,5)]:List Zt))
theorem C29:Con Tryz.prog 29 [] [] (.a [(.s 0 0 oI.1.length 3),(.s 1 0 oI.2.length 3)]) [(.live true true (flat dL oI.1)),(.live true true (flat dW oI.2))]:=by
 refine aJ Tryz.func29 (by kernel_rfl) fun cx hcx=>?_
 have e:=Eq.refl oI;conv at e=>rhs;simp only [oI]
 rw [e]
 exact rt [] [.sym 1 true,.sym 2 true] [1,2] hcx (by kernel_rfl)
def F9 (a0:Zm)(a1:Int):Bool :=
 (bif (decide (((a0.1.length:Int):Int) > 200)) then
  true
 else
  (bif (decide (((a0.2.length:Int):Int) > 200)) then
   true
  else
   (bif (((F27 (a0.1,a0.2) a1).2:Int) == 0) then
    (decide (((F27 (a0.1,a0.2) a1).1:Int) > 20000))
   else
    false)))
theorem C9 (a0:Zm)(a1:Int)(l0_1:a0.1.length<=9223372036854775807)(l0_2:a0.2.length<=9223372036854775807):Con Tryz.prog 9 [(.a [(.s 0 0 a0.1.length 3),(.s 1 0 a0.2.length 3)]),(iv a1)] [(.live false true (flat dL a0.1)),(.live false true (flat dW a0.2))] (.v (.bool (F9 a0 a1))) []:=by
 refine aJ Tryz.func9 (by kernel_rfl) fun cx hcx=>?_
 cases h0:(decide (((a0.1.length:Int):Int) > 200)) with
 | true =>
  have q0:=bO h0
  have e:=Eq.refl (F9 a0 a1);conv at e=>rhs;simp only [F9,h0,aI]
  rw [e]
  exact rt [.d h0] [] [] hcx (by kernel_rfl)
 | false =>
  have q0:=cA h0
  let t1:List (St Tryz.prog):=[.d h0]
  cases h1:(decide (((a0.2.length:Int):Int) > 200)) with
  | true =>
   have q1:=bO h1
   have e:=Eq.refl (F9 a0 a1);conv at e=>rhs;simp only [F9,h0,h1,aI]
   rw [e]
   exact rt (t1++[.d h1]) [] [] hcx (by kernel_rfl)
  | false =>
   have q1:=cA h1
   let t2:List (St Tryz.prog):=(t1++[.d h1,.c [0,1] (C27 (a0.1,a0.2) a1 (by(try simp only [Lt]);omega) (by(try simp only [Lt]);omega))])
   cases h2:(((F27 (a0.1,a0.2) a1).2:Int) == 0) with
   | true =>
    have q2:=eq_of_beq h2
    have e:=Eq.refl (F9 a0 a1);conv at e=>rhs;simp only [F9,h0,h1,h2,aI]
    rw [e]
    exact rt (t2++[.d h2]) [] [] hcx (by kernel_rfl)
   | false =>
    have q2:=ne_of_beq_false h2
    have e:=Eq.refl (F9 a0 a1);conv at e=>rhs;simp only [F9,h0,h1,h2,aI]
    rw [e]
    exact rt (t2++[.d h2]) [] [] hcx (by kernel_rfl)
theorem aZn {s n:Int} (hs:s=1\/s=2\/s=4\/s=8)(h1:1<=n)(h2:n<=1099511627776):1<=(of1 s n).1:=by
 unfold of1
 rw [if_neg (by omega)]
 unfold inv
 have hN:1099511627776<=NN s:=by rcases hs with rfl | rfl | rfl | rfl<;>decide
 have hb:=aCc hs
 obtain⟨q1,q2,q3⟩:=nG hb.1 h1
 have hq:1<=NN s / n:=Int.le_ediv_of_mul_le (by omega) (by omega)
 have hr:=xK (n:=NN s / n) q1 (by omega)
 exact hr.ge (by omega) (by omega)
theorem aNj {p c q:PN} {d:Int} (hp:vp p=0)(hd:0<=d/\d<=3)(hc:c∈aR d.toNat p):1<=fa3 c q:=by
 obtain⟨g1,g2,g3⟩:=aKu c q
 obtain⟨hb,hn⟩:=gH hp
 have h:=aQ5 c q.1 g1 g2 g3
 rw [aKx hb hd hc] at h
 rcases Int.lt_or_le (fa3 c q) 1 with h' | h'
 · have h0:0<=fa3 c q:=Int.le_trans (vI _) g1
   have:fa3 c q=0:=by omega
   rw [this] at h;omega
 · exact h'
theorem aLq {α:Type} {g:α->Int}:∀(l:List α),(∀c∈l,1<=g c)->(l.length:Int)<=(l.map g).sum
 | [],_=>by simp
 | c::l,h=>by
   have h1:=h c List.mem_cons_self
   have h2:=aLq l (fun c hc=>h c (List.mem_cons_of_mem _ hc))
   simp only [List.map_cons,List.sum_cons,List.length_cons];omega
theorem aZo {v n:Int} (hn:1<=n)(h:n<=v):1<=v / n:=Int.le_ediv_of_mul_le (by omega) (by omega)
theorem aVm {p q:PN} {d:Int} (hp:vp p=0)(hq:bdP 5000 q)(hd:0<=d/\d<=3):1<=(iK p q d).1:=by
 have hlen:=mV hd p
 have hc:=kT d
 unfold iK avg
 rw [vT]
 simp only [Int.zero_add]
 refine aZo (by omega) ?_
 rw [←hlen]
 refine aLq _ (fun c hcm=>?_)
 have hcb:=(oU (gH hp).1 hd hcm).mono (show(512:Int)<=5000 by omega)
 have:=aKt hcb hq
 exact aZn (qN d) (aNj hp hd hcm) (by omega)
def okP (a:Int×Int):Prop:=1<=a.1/\a.1<=a.2/\a.2<=536870913
theorem aNk {p q:PN} {d:Int} (hp:vp p=0)(hq:bdP 5000 q)(hd:0<=d/\d<=3):okP (iK p q d):=by
 have h1:=aVm hp hq hd
 have h2:=aRe (q:=q) hp hd
 unfold okE at h2
 exact⟨h1,h2.2.1,h2.2.2⟩
theorem xU {p q:PN} {d:Int} (h:pk p q d=0):uK p q d=(iK p (lN (sc d) q) d,0):=by
 unfold uK
 rw [aAl,h]
 obtain⟨h1,h2,h3⟩:=vO h
 have hs:=aM8 d
 have hq:=(gH h2).1
 have hq':=hq.mono (show(64:Int)<=4096 by omega)
 have hd:0<=d/\d<=3:=by omega
 have e1:=aQ6 h1 (aGe hs hq) hd
 unfold lN at e1 ⊢
 rw [aYr hd,aOv hs hq'.1,aOv hs hq'.2.1,aOv hs hq'.2.2,e1];rfl
theorem kN {p q:PN} {d:Int} (h:pk p q d=0):(uK p q d).2=0/\okP (uK p q d).1:=by
 rw [xU h]
 obtain⟨h1,h2,h3⟩:=vO h
 exact⟨rfl,aNk h1 (aGe (aM8 d) (gH h2).1) (by omega)⟩
theorem pC {p q:PN} {d:Int} (h:pk p q d=0):(pU p q d).2=0/\okP (pU p q d).1:=by
 rw [aCi]
 obtain⟨h1,h2,h3⟩:=vO h
 have hd:0<=d/\d<=3:=by omega
 unfold aGi
 rw [if_pos h]
 refine⟨rfl,?_⟩
 have hl:=aCh (p:=p) (q:=q) hd
 have hc:=kT d
 have hpos:∀a∈tR p q d,okP a:=by
   intro a ha
   obtain⟨b,hb,rfl⟩:=List.mem_map.1 ha
   exact aNk h1 ((oU (gH h2).1 hd hb).mono (by omega)) hd
 have hs1:sc d*sc d<=((tR p q d).map (·.1)).sum:=by rw [←hl];exact aLq _ (fun a ha=>(hpos a ha).1)
 have key:∀l:List (Int×Int),(∀a∈l,okP a)->(l.map (·.1)).sum<=(l.map (·.2)).sum/\(l.map (·.2)).sum<=536870913*(l.length:Nat):=by
   intro l
   induction l with
   | nil=>intro _;simp
   | cons c l ih =>
     intro h
     obtain⟨a1,a2,a3⟩:=h c List.mem_cons_self
     have h2:=ih (fun c hc=>h c (List.mem_cons_of_mem _ hc))
     simp only [List.map_cons,List.sum_cons,List.length_cons];omega
 have hk:=key _ hpos
 rw [hl] at hk
 rw [rM]
 unfold avg okP
 simp only [Int.zero_add]
 generalize ((tR p q d).map (·.1)).sum=x at *
 generalize ((tR p q d).map (·.2)).sum=y at *
 rcases hc with e | e | e | e<;>rw [e] at hs1 hk ⊢<;>omega
theorem aLr (m:ME):∀(n i:Nat)(v:List (P3×Bool)),m.1.length - i < n->aB (eP m) n (v,(i:Int))=0->∀j,i<=j->j < m.1.length->bd 64 (m.1.getD j default):=by
 intro n
 induction n with
 | zero=>intro i v h;omega
 | succ n ih =>
   intro i v hn h j h1 h2
   have hw:((i:Nat):Int) < (m.1.length:Int):=by omega
   cases hr:F36 (m.1.getD i default) 64 with
   | false =>
     have e1:eP m (v,(i:Int))=.inr 1:=by
       simp only [eP];rw [bT hw,cond_true,uM,hr];rfl
     rw [aO e1] at h;exact absurd h (by decide)
   | true =>
     cases hg:aV v (m.1.getD i default) false with
     | true =>
       have e1:eP m (v,(i:Int))=.inr 1:=by
         simp only [eP];rw [bT hw,cond_true,uM,hr,hg];rfl
       rw [aO e1] at h;exact absurd h (by decide)
     | false =>
       have e1:eP m (v,(i:Int))=.inl (cK v (m.1.getD i default) true,((i+1:Nat):Int)):=by
         simp only [eP];rw [bT hw,cond_true,uM,hr,hg];rfl
       rw [aA e1] at h
       by_cases hj:j=i
       · subst hj
         classical
         rw [lZ] at hr
         exact bO hr
       · exact ih (i+1) _ (by omega) h j (by omega) h2
theorem aVn {m:ME} (h:fB m=0):∀j,j < m.1.length->bd 64 (m.1.getD j default):=by
 obtain⟨_,_,_,h4,_⟩:=iT h
 exact fun j hj=>aLr m _ 0 [] (by omega) h4 j (Nat.zero_le _) hj
theorem aGv {m:ME} (h:fB m=0):∀c∈m.2,vp (eO m c)=0:=by
 intro c hc
 obtain⟨i,hi⟩:=List.getElem?_of_mem hc
 obtain⟨hlt,_⟩:=List.getElem?_eq_some_iff.1 hi
 have hpt:=aVn h
 obtain⟨h64,_,_,_,hf⟩:=iT h
 have hfc:=hf (i:Int) (by omega) (by omega)
 rw [bA hi] at hfc
 have hin:inF m.1.length c:=mW (m:=m) (by rw [hfc];rfl) h64
 have hb:bdP 64 (eO m c):=⟨hpt _ (by have:=hin.1;omega),hpt _ (by have:=hin.2.1;omega),hpt _ (by have:=hin.2.2;omega)⟩
 unfold F69 at hfc
 have hw:W ((m.1.length:Int) - 1)=(m.1.length:Int) - 1:=aE (by omega) (by omega)
 have fr:∀x:Int,0<=x/\x < (m.1.length:Int)->(!qI x 0 (W ((m.1.length:Int) - 1)))=false:=by
   intro x hx
   unfold qI
   rw [hw,bT hx.1,bT (show x<=(m.1.length:Int) - 1 by omega)];rfl
 rw [fr _ hin.1,fr _ hin.2.1,fr _ hin.2.2,cond_false,cond_false,cond_false,show nV (eO (m.1,m.2) c)=lL (eO m c) from aWz hb] at hfc
 unfold vp
 rw [if_pos hb]
 generalize lL (eO m c)=q at hfc ⊢
 by_cases hz:q.1=0/\q.2.1=0/\q.2.2=0
 · rw [hz.1,hz.2.1,hz.2.2] at hfc;exact absurd hfc (by decide)
 · rw [if_neg hz]
theorem mH {m:ME} (h:fB m=0) {d:Int} (hd:0<=d/\d<=2) {p q:PN} (hp:p∈m.2.map (eO m))(hq:q∈m.2.map (eO m)):pk p q d=0:=by
 obtain⟨a,ha,rfl⟩:=List.mem_map.1 hp
 obtain⟨b,hb,rfl⟩:=List.mem_map.1 hq
 unfold pk
 rw [if_pos (aGv h a ha),if_pos (aGv h b hb),if_pos hd]
theorem aZp {α:Type} {n:Nat} {t:List (List α)} (h:∀r∈t,r.length=n)(j:Int):(0<=j/\j < (t.length:Int))->(t.getD (toNat j) default).length=n:=fun g=>by
 have hlt:toNat j < t.length:=by omega
 rw [eZ,List.getElem?_eq_getElem hlt,Option.getD_some]
 exact h _ (List.getElem_mem hlt)
theorem aZq {α:Type} {n:Nat} {t:List (List α)} (h:∀r∈t,r.length<=n)(j:Int):(0<=j/\j < (t.length:Int))->(t.getD (toNat j) default).length<=n:=fun g=>by
 have hlt:toNat j < t.length:=by omega
 rw [eZ,List.getElem?_eq_getElem hlt,Option.getD_some]
 exact h _ (List.getElem_mem hlt)
noncomputable def xV:Code:=(aD [1,1,0,1] [] (aG Tryz.f96) []).1
noncomputable def xW:List K:=(aD [1,1,0,1] [] (aG Tryz.f96) []).2
def tW (a0:List (Int×Int))(a1:List (Int))(v2c:List SV)(v2n:Nat)(v3:Int):LS:=⟨iH 40 [(1,(.s 1 0 a1.length 1)),(4,(.p 2 0)),(6,(.s 3 0 v2n 2)),(11,(.s 0 0 a0.length 2)),(12,(iv (a0.length:Int))),(13,(iv v3))],[(.live false true (flat cQ a0)),(.live false true (flat c3 a1)),(.live true false [(iv 0),(iv 0)]),(.live true true v2c)]⟩
def dX (a0:List (Int×Int))(a1:List (Int)):(List (Int×Int))×Int->((List (Int×Int))×Int)⊕((Int×Int)×Int)
 | (v2,v3) =>
  (bif (decide ((v3:Int) < (a0.length:Int))) then
   (bif (((oA (a0.getD (toNat v3) default) (a1.getD (toNat v3) default)).2:Int) != 0) then
    (.inr ((0,0),(oA (a0.getD (toNat v3) default) (a1.getD (toNat v3) default)).2))
   else
    (.inl ((v2++[(oA (a0.getD (toNat v3) default) (a1.getD (toNat v3) default)).1]),(v3+1))))
  else
   (.inr ((kQ v2).1,(kQ v2).2)))
theorem aOz (a0:List (Int×Int))(a1:List (Int))(l0:a0.length<=9223372036854775807)(l1:a1.length<=9223372036854775807)(hl:a0.length<=a1.length)(hn:a0.length<=9216) {cx:Cx} (hcx:cx.base=2):∀(n:Nat)(v2:List (Int×Int))(v3:Int),(0<=v3)/\(v2.length=toNat v3)/\(v3<=a0.length)->toNat ((a0.length:Int) - v3) < n->Aw.Good Tryz.prog none 9 (bodyPost Tryz.prog Tryz.f96 (RR cx (.t [(.a (k2 (aB (dX a0 a1) n (v2,v3)).1)),(iv (aB (dX a0 a1) n (v2,v3)).2)]) [] [])) cx [] (.l xV n::xW) (tW a0 a1 (flat cQ v2) v2.length v3):=by
 intro n
 induction n with
 | zero=>intro v2 v3 hi hn;exact absurd hn (gP _)
 | succ n ih =>
   intro v2 v3 hi hn
   refine aH ?_
   cases h0:(decide ((v3:Int) < (a0.length:Int))) with
   | true =>
    have q0:=bO h0
    let t1:List (St Tryz.prog):=[.d h0,.i v3 (a0.length),.L cC a0 v3 0 2,.i v3 (a1.length),.L fX a1 v3 0 1,.c [] (C17 (a0.getD (toNat v3) default) (a1.getD (toNat v3) default))]
    cases h1:(((oA (a0.getD (toNat v3) default) (a1.getD (toNat v3) default)).2:Int) != 0) with
    | true =>
     have q1:=bne_iff_ne.1 h1
     have e:=Eq.refl (dX a0 a1 (v2,v3));conv at e=>rhs;simp only [dX,h0,h1,aI]
     rw [aC,e]
     exact rt (t1++[.d h1]) [] [] hcx (by kernel_rfl)
    | false =>
     have q1:=bne_eq_false_iff_eq.1 h1
     have e:=Eq.refl (dX a0 a1 (v2,v3));conv at e=>rhs;simp only [dX,h0,h1,aI]
     rw [aA e]
     refine ba (t1++[.d h1,.p (show((flat cQ v2).length=v2.length*2/\v2.length+1<=2 ^ 40/\(v2.length+1)*16<=2 ^ 47) from gL cC (by omega) (by omega))]) [] [1,4,6,11,12,13] [2,7] hcx (m:=n) xV (xW) (tW a0 a1 (flat cQ v2++(k2 (oA (a0.getD (toNat v3) default) (a1.getD (toNat v3) default)).1)) (v2.length+1) (W (v3+1))) (by kernel_rfl) ?_
     have z0:(W (v3+1))=(v3+1):=aE (by omega) (by omega)
     have z1:(flat cQ v2++(k2 (oA (a0.getD (toNat v3) default) (a1.getD (toNat v3) default)).1))=(flat cQ (v2++[(oA (a0.getD (toNat v3) default) (a1.getD (toNat v3) default)).1])):=(bN (c:=cQ) (l:=v2) (m:=[(oA (a0.getD (toNat v3) default) (a1.getD (toNat v3) default)).1])).symm
     have z2:(v2.length+1)=(v2++[(oA (a0.getD (toNat v3) default) (a1.getD (toNat v3) default)).1]).length:=eH v2 [(oA (a0.getD (toNat v3) default) (a1.getD (toNat v3) default)).1] rfl
     rw [z0,z1,z2]
     exact ih (v2++[(oA (a0.getD (toNat v3) default) (a1.getD (toNat v3) default)).1]) (v3+1) (by refine⟨?_,?_,?_⟩<;>(try simp only [Ls])<;>first | omega | assumption | simp) (by(try simp only [Ls]);omega)
   | false =>
    have q0:=cA h0
    have e:=Eq.refl (dX a0 a1 (v2,v3));conv at e=>rhs;simp only [dX,h0,aI]
    rw [aC,e]
    exact rt [.d h0,.c [3] (aX7 v2 (by omega))] [] [] hcx (by kernel_rfl)
def dC (a0:List (Int×Int))(a1:List (Int)):(Int×Int)×Int :=
 (aB (dX a0 a1) (toNat ((a0.length:Int) - 0)+1) (([]:List (Int×Int)),0))
theorem aNl (a0:List (Int×Int))(a1:List (Int))(l0:a0.length<=9223372036854775807)(l1:a1.length<=9223372036854775807)(hl:a0.length<=a1.length)(hn:a0.length<=9216):Con Tryz.prog 96 [(.s 0 0 a0.length 2),(.s 1 0 a1.length 1)] [(.live false true (flat cQ a0)),(.live false true (flat c3 a1))] (.t [(.a (k2 (dC a0 a1).1)),(iv (dC a0 a1).2)]) []:=by
 refine aJ Tryz.func96 (by kernel_rfl) fun cx hcx=>?_
 have e:=Eq.refl (dC a0 a1);conv at e=>rhs;simp only [dC]
 rw [e]
 refine en [] [.slot 6 2] [1,4,6,11,12,13] [2,3] hcx xV (xW) (tW a0 a1 (flat cQ ([]:List (Int×Int))) 0 0) (toNat ((a0.length:Int) - 0)+1) (by kernel_rfl) ?_
 exact aOz a0 a1 l0 l1 hl hn hcx (toNat ((a0.length:Int) - 0)+1) ([]:List (Int×Int)) 0 (by refine⟨?_,?_,?_⟩<;>(try simp only [Ls])<;>first | omega | assumption | simp) (by(try simp only [Ls]);omega)
def fA (x:List (Int×Int)):List SV:=[(.d (flat cQ x) x.length 2)]
theorem vW (x:List (Int×Int)):(fA x).length=1:=rfl
noncomputable def xX:Code:=(aD [1,1,1,1,0,1,0,1,1,0,1,1,0,1] [0] (aG Tryz.f59) []).1
noncomputable def xY (m0:Nat):List K:=(aD [1,1,1,1,0,1,0,1,1,0,1,1,0,1] [m0] (aG Tryz.f59) []).2
def tX (a0:Zm)(a1:Int)(v10c:List SV)(v10n:Nat)(v11c:List SV)(v11n:Nat)(v12 v13 v14 v15 v16 v17 v18 v19 v20 v21 v22:Int):LS:=⟨iH 60 [(1,(iv a1)),(2,(.v (.func (.func 60) #[] #[]))),(8,(.s 2 0 (bF (a0.1,a0.2)).1.length 9)),(10,(.s 3 0 v10n 1)),(12,(.p 4 0)),(13,(.s 5 0 v11n 2)),(26,(.s 2 0 (bF (a0.1,a0.2)).1.length 9)),(27,(iv (((bF (a0.1,a0.2)).1.length:Nat):Int))),(28,(iv v12)),(32,(.s 2 0 (bF (a0.1,a0.2)).1.length 9)),(33,(iv (((bF (a0.1,a0.2)).1.length:Nat):Int))),(34,(iv v13))],[(.live false true (flat dL a0.1)),(.live false true (flat dW a0.2)),(.live true true (flat dM (bF (a0.1,a0.2)).1)),(.live true true v10c),(.live true false [(iv v14),(iv v15),(iv v16),(iv v17),(iv v18),(iv v19),(iv v20),(iv v21),(iv v22)]),(.live true true v11c)]⟩
def eS (a0:Zm)(a1:Int):(List (List (Int×Int)))×(List (Int×Int))×Int×Int×Int×Int×Int×Int×Int×Int×Zt->((List (List (Int×Int)))×(List (Int×Int))×Int×Int×Int×Int×Int×Int×Int×Int×Zt)⊕(((List (List (Int×Int)))×Int)⊕((List (List (Int×Int)))×Int))
 | (v10,v11,v12,v13,v14,v15,v16,v17,v18,v19,v20,v21,v22) =>
  (bif (decide ((v13:Int) < (((bF (a0.1,a0.2)).1.length:Nat):Int))) then
   (bif (((uK ((bF (a0.1,a0.2)).1.getD (toNat v13) default) ((v14,v15,v16),(v17,v18,v19),(v20,v21,v22)) a1).2:Int) != 0) then
    (.inr (.inr (([]:List (List (Int×Int))),(uK ((bF (a0.1,a0.2)).1.getD (toNat v13) default) ((v14,v15,v16),(v17,v18,v19),(v20,v21,v22)) a1).2)))
   else
    (.inl (v10,(v11++[(uK ((bF (a0.1,a0.2)).1.getD (toNat v13) default) ((v14,v15,v16),(v17,v18,v19),(v20,v21,v22)) a1).1]),v12,(v13+1),v14,v15,v16,v17,v18,v19,v20,v21,v22)))
  else
   (.inr (.inl ((v10++[v11]),(v12+1)))))
noncomputable def rQ:Code:=(aD [1,1,1,1,0,1] [] (aG Tryz.f59) []).1
noncomputable def rR:List K:=(aD [1,1,1,1,0,1] [] (aG Tryz.f59) []).2
def pD (a0:Zm)(a1:Int)(v8c:List SV)(v8n:Nat)(v9:Int):LS:=⟨iH 60 [(1,(iv a1)),(2,(.v (.func (.func 60) #[] #[]))),(8,(.s 2 0 (bF (a0.1,a0.2)).1.length 9)),(10,(.s 3 0 v8n 1)),(26,(.s 2 0 (bF (a0.1,a0.2)).1.length 9)),(27,(iv (((bF (a0.1,a0.2)).1.length:Nat):Int))),(28,(iv v9))],[(.live false true (flat dL a0.1)),(.live false true (flat dW a0.2)),(.live true true (flat dM (bF (a0.1,a0.2)).1)),(.live true true v8c)]⟩
def dA (a0:Zm)(a1:Int):(List (List (Int×Int)))×Int->((List (List (Int×Int)))×Int)⊕((List (List (Int×Int)))×Int)
 | (v8,v9) =>
  (bif (decide ((v9:Int) < (((bF (a0.1,a0.2)).1.length:Nat):Int))) then
   (aB (eS a0 a1) (toNat ((((bF (a0.1,a0.2)).1.length:Nat):Int) - 0)+1) (v8,([]:List (Int×Int)),v9,0,((bF (a0.1,a0.2)).1.getD (toNat v9) default).1.1,((bF (a0.1,a0.2)).1.getD (toNat v9) default).1.2.1,((bF (a0.1,a0.2)).1.getD (toNat v9) default).1.2.2,((bF (a0.1,a0.2)).1.getD (toNat v9) default).2.1.1,((bF (a0.1,a0.2)).1.getD (toNat v9) default).2.1.2.1,((bF (a0.1,a0.2)).1.getD (toNat v9) default).2.1.2.2,((bF (a0.1,a0.2)).1.getD (toNat v9) default).2.2.1,((bF (a0.1,a0.2)).1.getD (toNat v9) default).2.2.2.1,((bF (a0.1,a0.2)).1.getD (toNat v9) default).2.2.2.2))
  else
   (.inr (v8,0)))
theorem aO0 (a0:Zm)(a1:Int)(l0_1:a0.1.length<=9223372036854775807)(l0_2:a0.2.length<=9223372036854775807) {cx:Cx} (hcx:cx.base=2)
   (n0:Nat) (g0:∀(v8:List (List (Int×Int))) (v9:Int),(0<=v9)/\(v8.length=toNat v9)/\(v9<=(bF (a0.1,a0.2)).1.length)->toNat ((((bF (a0.1,a0.2)).1.length:Nat):Int) - v9) < n0->Aw.Good Tryz.prog none 9 (bodyPost Tryz.prog Tryz.f59 (RR cx (.t [(.s 2 0 (aB (dA a0 a1) n0 (v8,v9)).1.length 1),(iv (aB (dA a0 a1) n0 (v8,v9)).2)]) [(.live true true (flat fA (aB (dA a0 a1) n0 (v8,v9)).1))] [])) cx [] (.l rQ n0::rR) (pD a0 a1 (flat fA v8) v8.length v9)):∀(n:Nat) (v10:List (List (Int×Int))) (v11:List (Int×Int)) (v12 v13 v14 v15 v16 v17 v18 v19 v20 v21 v22:Int),(0<=v13)/\(v11.length=toNat v13)/\(v13<=(bF (a0.1,a0.2)).1.length)/\(v10.length=toNat v12)/\(0<=v12)/\(v12 < (bF (a0.1,a0.2)).1.length)/\((0<=v12))/\((v10.length=toNat v12))/\((v12<=(bF (a0.1,a0.2)).1.length))/\(v12 < (((bF (a0.1,a0.2)).1.length:Nat):Int))/\(toNat ((((bF (a0.1,a0.2)).1.length:Nat):Int) - v12) < n0+1)->toNat ((((bF (a0.1,a0.2)).1.length:Nat):Int) - v13) < n->Aw.Good Tryz.prog none 9 (bodyPost Tryz.prog Tryz.f59 (RR cx (.t [(.s 2 0 (jE (dA a0 a1) n0 (aB (eS a0 a1) n (v10,v11,v12,v13,v14,v15,v16,v17,v18,v19,v20,v21,v22))).1.length 1),(iv (jE (dA a0 a1) n0 (aB (eS a0 a1) n (v10,v11,v12,v13,v14,v15,v16,v17,v18,v19,v20,v21,v22))).2)]) [(.live true true (flat fA (jE (dA a0 a1) n0 (aB (eS a0 a1) n (v10,v11,v12,v13,v14,v15,v16,v17,v18,v19,v20,v21,v22))).1))] [])) cx [] (.l xX n::xY n0) (tX a0 a1 (flat fA v10) v10.length (flat cQ v11) v11.length v12 v13 v14 v15 v16 v17 v18 v19 v20 v21 v22):=by
 intro n
 induction n with
 | zero=>intro v10 v11 v12 v13 v14 v15 v16 v17 v18 v19 v20 v21 v22 hi hn;exact absurd hn (gP _)
 | succ n ih =>
   intro v10 v11 v12 v13 v14 v15 v16 v17 v18 v19 v20 v21 v22 hi hn
   refine aH ?_
   have hpl:=rO (a0.1,a0.2)
   cases h0:(decide ((v13:Int) < (((bF (a0.1,a0.2)).1.length:Nat):Int))) with
   | true =>
    have q0:=bO h0
    let t1:List (St Tryz.prog):=[.d h0,.i v13 ((bF (a0.1,a0.2)).1.length),.L cW (bF (a0.1,a0.2)).1 v13 0 9,.c [] (C60 ((bF (a0.1,a0.2)).1.getD (toNat v13) default) ((v14,v15,v16),(v17,v18,v19),(v20,v21,v22)) a1)]
    cases h1:(((uK ((bF (a0.1,a0.2)).1.getD (toNat v13) default) ((v14,v15,v16),(v17,v18,v19),(v20,v21,v22)) a1).2:Int) != 0) with
    | true =>
     have q1:=bne_iff_ne.1 h1
     have e:=Eq.refl (eS a0 a1 (v10,v11,v12,v13,v14,v15,v16,v17,v18,v19,v20,v21,v22));conv at e=>rhs;simp only [eS,h0,h1,aI]
     rw [aC,e]
     exact rt (t1++[.d h1]) [.slot 6 1] [8] hcx (by kernel_rfl)
    | false =>
     have q1:=bne_eq_false_iff_eq.1 h1
     have e:=Eq.refl (eS a0 a1 (v10,v11,v12,v13,v14,v15,v16,v17,v18,v19,v20,v21,v22));conv at e=>rhs;simp only [eS,h0,h1,aI]
     rw [aA e]
     refine ba (t1++[.d h1,.p (show((flat cQ v11).length=v11.length*2/\v11.length+1<=2 ^ 40/\(v11.length+1)*16<=2 ^ 47) from gL cC (by omega) (by omega))]) [] [1,2,8,10,12,13,26,27,28,32,33,34] [2,3,4,9] hcx (m:=n) xX (xY n0) (tX a0 a1 (flat fA v10) (v10.length) (flat cQ v11++(k2 (uK ((bF (a0.1,a0.2)).1.getD (toNat v13) default) ((v14,v15,v16),(v17,v18,v19),(v20,v21,v22)) a1).1)) (v11.length+1) v12 (W (v13+1)) v14 v15 v16 v17 v18 v19 v20 v21 v22) (by kernel_rfl) ?_
     have z0:(W (v13+1))=(v13+1):=aE (by omega) (by omega)
     have z1:(flat cQ v11++(k2 (uK ((bF (a0.1,a0.2)).1.getD (toNat v13) default) ((v14,v15,v16),(v17,v18,v19),(v20,v21,v22)) a1).1))=(flat cQ (v11++[(uK ((bF (a0.1,a0.2)).1.getD (toNat v13) default) ((v14,v15,v16),(v17,v18,v19),(v20,v21,v22)) a1).1])):=(bN (c:=cQ) (l:=v11) (m:=[(uK ((bF (a0.1,a0.2)).1.getD (toNat v13) default) ((v14,v15,v16),(v17,v18,v19),(v20,v21,v22)) a1).1])).symm
     have z2:(v11.length+1)=(v11++[(uK ((bF (a0.1,a0.2)).1.getD (toNat v13) default) ((v14,v15,v16),(v17,v18,v19),(v20,v21,v22)) a1).1]).length:=eH v11 [(uK ((bF (a0.1,a0.2)).1.getD (toNat v13) default) ((v14,v15,v16),(v17,v18,v19),(v20,v21,v22)) a1).1] rfl
     rw [z0,z1,z2]
     exact ih v10 (v11++[(uK ((bF (a0.1,a0.2)).1.getD (toNat v13) default) ((v14,v15,v16),(v17,v18,v19),(v20,v21,v22)) a1).1]) v12 (v13+1) v14 v15 v16 v17 v18 v19 v20 v21 v22 (by refine⟨?_,?_,?_,?_,?_,?_,?_,?_,?_,?_,?_⟩<;>(try simp only [Ls])<;>first | omega | assumption | exact hi.2.1 | exact hi.2.2.1 | exact hi.2.2.2.1 | exact hi.2.2.2.2.1 | exact hi.2.2.2.2.2.1 | exact hi.2.2.2.2.2.2.1 | exact hi.2.2.2.2.2.2.2.1 | exact hi.2.2.2.2.2.2.2.2.1 | exact hi.2.2.2.2.2.2.2.2.2.1 | exact hi.2.2.2.2.2.2.2.2.2.2.1 | simp) (by(try simp only [Ls]);omega)
   | false =>
    have q0:=cA h0
    have e:=Eq.refl (eS a0 a1 (v10,v11,v12,v13,v14,v15,v16,v17,v18,v19,v20,v21,v22));conv at e=>rhs;simp only [eS,h0,aI]
    rw [aC,e]
    refine ba [.d h0,.p (show((flat cQ v11)).length=v11.length*2 from by simp [aEw cC]),.p (show((flat fA v10).length=v10.length*1/\v10.length+1<=2 ^ 40/\(v10.length+1)*24<=2 ^ 47) from gL vW (by omega) (by omega))] [] [1,2,8,10,26,27,28] [2,7] hcx (m:=n0) rQ (rR) (pD a0 a1 (flat fA v10++[(.d (flat cQ v11) v11.length 2)]) (v10.length+1) (W (v12+1))) (by kernel_rfl) ?_
    have z0:(W (v12+1))=(v12+1):=aE (by omega) (by omega)
    have z1:(flat fA v10++[(.d (flat cQ v11) v11.length 2)])=(flat fA (v10++[v11])):=(bN (c:=fA) (l:=v10) (m:=[v11])).symm
    have z2:(v10.length+1)=(v10++[v11]).length:=eH v10 [v11] rfl
    rw [z0,z1,z2]
    exact g0 (v10++[v11]) (v12+1) (by refine⟨?_,?_,?_⟩<;>(try simp only [Ls])<;>first | omega | assumption | simp) (by(try simp only [Ls]);omega)
theorem aO1 (a0:Zm)(a1:Int)(l0_1:a0.1.length<=9223372036854775807)(l0_2:a0.2.length<=9223372036854775807) {cx:Cx} (hcx:cx.base=2):∀(n:Nat)(v8:List (List (Int×Int)))(v9:Int),(0<=v9)/\(v8.length=toNat v9)/\(v9<=(bF (a0.1,a0.2)).1.length)->toNat ((((bF (a0.1,a0.2)).1.length:Nat):Int) - v9) < n->Aw.Good Tryz.prog none 9 (bodyPost Tryz.prog Tryz.f59 (RR cx (.t [(.s 2 0 (aB (dA a0 a1) n (v8,v9)).1.length 1),(iv (aB (dA a0 a1) n (v8,v9)).2)]) [(.live true true (flat fA (aB (dA a0 a1) n (v8,v9)).1))] [])) cx [] (.l rQ n::rR) (pD a0 a1 (flat fA v8) v8.length v9):=by
 intro n
 induction n with
 | zero=>intro v8 v9 hi hn;exact absurd hn (gP _)
 | succ n ih =>
   intro v8 v9 hi hn
   refine aH ?_
   have hpl:=rO (a0.1,a0.2)
   cases h0:(decide ((v9:Int) < (((bF (a0.1,a0.2)).1.length:Nat):Int))) with
   | true =>
    have q0:=bO h0
    have e:=Eq.refl (dA a0 a1 (v8,v9));conv at e=>rhs;simp only [dA,h0,aI]
    rw [aC,e]
    refine en [.d h0,.i v9 ((bF (a0.1,a0.2)).1.length),.L cW (bF (a0.1,a0.2)).1 v9 0 9] [.slot 13 2] [1,2,8,10,12,13,26,27,28,32,33,34] [2,3,4,5] hcx xX (xY n) (tX a0 a1 (flat fA v8) (v8.length) (flat cQ ([]:List (Int×Int))) 0 v9 0 (((bF (a0.1,a0.2)).1.getD (toNat v9) default).1.1) (((bF (a0.1,a0.2)).1.getD (toNat v9) default).1.2.1) (((bF (a0.1,a0.2)).1.getD (toNat v9) default).1.2.2) (((bF (a0.1,a0.2)).1.getD (toNat v9) default).2.1.1) (((bF (a0.1,a0.2)).1.getD (toNat v9) default).2.1.2.1) (((bF (a0.1,a0.2)).1.getD (toNat v9) default).2.1.2.2) (((bF (a0.1,a0.2)).1.getD (toNat v9) default).2.2.1) (((bF (a0.1,a0.2)).1.getD (toNat v9) default).2.2.2.1) (((bF (a0.1,a0.2)).1.getD (toNat v9) default).2.2.2.2)) (toNat ((((bF (a0.1,a0.2)).1.length:Nat):Int) - 0)+1) (by kernel_rfl) ?_
    exact aO0 a0 a1 l0_1 l0_2 hcx n ih (toNat ((((bF (a0.1,a0.2)).1.length:Nat):Int) - 0)+1) v8 ([]:List (Int×Int)) v9 0 (((bF (a0.1,a0.2)).1.getD (toNat v9) default).1.1) (((bF (a0.1,a0.2)).1.getD (toNat v9) default).1.2.1) (((bF (a0.1,a0.2)).1.getD (toNat v9) default).1.2.2) (((bF (a0.1,a0.2)).1.getD (toNat v9) default).2.1.1) (((bF (a0.1,a0.2)).1.getD (toNat v9) default).2.1.2.1) (((bF (a0.1,a0.2)).1.getD (toNat v9) default).2.1.2.2) (((bF (a0.1,a0.2)).1.getD (toNat v9) default).2.2.1) (((bF (a0.1,a0.2)).1.getD (toNat v9) default).2.2.2.1) (((bF (a0.1,a0.2)).1.getD (toNat v9) default).2.2.2.2) (by refine⟨?_,?_,?_,?_,?_,?_,?_,?_,?_,?_,?_⟩<;>(try simp only [Ls])<;>first | omega | assumption | exact hi.2.1 | exact hi.2.2.1 | exact hi.2.2.2.1 | exact hi.2.2.2.2.1 | exact hi.2.2.2.2.2.1 | exact hi.2.2.2.2.2.2.1 | exact hi.2.2.2.2.2.2.2.1 | exact hi.2.2.2.2.2.2.2.2.1 | exact hi.2.2.2.2.2.2.2.2.2.1 | exact hi.2.2.2.2.2.2.2.2.2.2.1 | simp) (by(try simp only [Ls]);omega)
   | false =>
    have q0:=cA h0
    have e:=Eq.refl (dA a0 a1 (v8,v9));conv at e=>rhs;simp only [dA,h0,aI]
    rw [aC,e]
    exact rt [.d h0] [] [3] hcx (by kernel_rfl)
def bU (a0:Zm)(a1:Int):(List (List (Int×Int)))×Int :=
 (bif (((bF (a0.1,a0.2)).2:Int) != 0) then
  (([]:List (List (Int×Int))),(bF (a0.1,a0.2)).2)
 else
  (aB (dA a0 a1) (toNat ((((bF (a0.1,a0.2)).1.length:Nat):Int) - 0)+1) (([]:List (List (Int×Int))),0)))
theorem aVo (a0:Zm)(a1:Int)(l0_1:a0.1.length<=9223372036854775807)(l0_2:a0.2.length<=9223372036854775807):Con Tryz.prog 59 [(.a [(.s 0 0 a0.1.length 3),(.s 1 0 a0.2.length 3)]),(iv a1),(.v (.func (.func 60) #[] #[]))] [(.live false true (flat dL a0.1)),(.live false true (flat dW a0.2))] (.t [(.s 2 0 (bU a0 a1).1.length 1),(iv (bU a0 a1).2)]) [(.live true true (flat fA (bU a0 a1).1))]:=by
 refine aJ Tryz.func59 (by kernel_rfl) fun cx hcx=>?_
 have hpl:=rO (a0.1,a0.2)
 let t0:List (St Tryz.prog):=[.c [0,1] (C90 (a0.1,a0.2) (by(try simp only [Lt]);omega) (by(try simp only [Lt]);omega))]
 cases h0:(((bF (a0.1,a0.2)).2:Int) != 0) with
 | true =>
  have q0:=bne_iff_ne.1 h0
  have e:=Eq.refl (bU a0 a1);conv at e=>rhs;simp only [bU,h0,aI]
  rw [e]
  exact rt (t0++[.d h0]) [.slot 6 1] [4] hcx (by kernel_rfl)
 | false =>
  have q0:=bne_eq_false_iff_eq.1 h0
  have e:=Eq.refl (bU a0 a1);conv at e=>rhs;simp only [bU,h0,aI]
  rw [e]
  refine en (t0++[.d h0]) [.slot 10 1] [1,2,8,10,26,27,28] [3,4] hcx rQ (rR) (pD a0 a1 (flat fA ([]:List (List (Int×Int)))) 0 0) (toNat ((((bF (a0.1,a0.2)).1.length:Nat):Int) - 0)+1) (by kernel_rfl) ?_
  exact aO1 a0 a1 l0_1 l0_2 hcx (toNat ((((bF (a0.1,a0.2)).1.length:Nat):Int) - 0)+1) ([]:List (List (Int×Int))) 0 (by refine⟨?_,?_,?_⟩<;>(try simp only [Ls])<;>first | omega | assumption | simp) (by(try simp only [Ls]);omega)
noncomputable def xZ:Code:=(aD [1,1,1,1,0,1,0,1,1,0,1,1,0,1] [0] (aG Tryz.f59) []).1
noncomputable def yA (m0:Nat):List K:=(aD [1,1,1,1,0,1,0,1,1,0,1,1,0,1] [m0] (aG Tryz.f59) []).2
def tY (a0:Zm)(a1:Int)(v10c:List SV)(v10n:Nat)(v11c:List SV)(v11n:Nat)(v12 v13 v14 v15 v16 v17 v18 v19 v20 v21 v22:Int):LS:=⟨iH 60 [(1,(iv a1)),(2,(.v (.func (.func 61) #[] #[]))),(8,(.s 2 0 (bF (a0.1,a0.2)).1.length 9)),(10,(.s 3 0 v10n 1)),(12,(.p 4 0)),(13,(.s 5 0 v11n 2)),(26,(.s 2 0 (bF (a0.1,a0.2)).1.length 9)),(27,(iv (((bF (a0.1,a0.2)).1.length:Nat):Int))),(28,(iv v12)),(32,(.s 2 0 (bF (a0.1,a0.2)).1.length 9)),(33,(iv (((bF (a0.1,a0.2)).1.length:Nat):Int))),(34,(iv v13))],[(.live false true (flat dL a0.1)),(.live false true (flat dW a0.2)),(.live true true (flat dM (bF (a0.1,a0.2)).1)),(.live true true v10c),(.live true false [(iv v14),(iv v15),(iv v16),(iv v17),(iv v18),(iv v19),(iv v20),(iv v21),(iv v22)]),(.live true true v11c)]⟩
def eT (a0:Zm)(a1:Int):(List (List (Int×Int)))×(List (Int×Int))×Int×Int×Int×Int×Int×Int×Int×Int×Zt->((List (List (Int×Int)))×(List (Int×Int))×Int×Int×Int×Int×Int×Int×Int×Int×Zt)⊕(((List (List (Int×Int)))×Int)⊕((List (List (Int×Int)))×Int))
 | (v10,v11,v12,v13,v14,v15,v16,v17,v18,v19,v20,v21,v22) =>
  (bif (decide ((v13:Int) < (((bF (a0.1,a0.2)).1.length:Nat):Int))) then
   (bif (((pU ((bF (a0.1,a0.2)).1.getD (toNat v13) default) ((v14,v15,v16),(v17,v18,v19),(v20,v21,v22)) a1).2:Int) != 0) then
    (.inr (.inr (([]:List (List (Int×Int))),(pU ((bF (a0.1,a0.2)).1.getD (toNat v13) default) ((v14,v15,v16),(v17,v18,v19),(v20,v21,v22)) a1).2)))
   else
    (.inl (v10,(v11++[(pU ((bF (a0.1,a0.2)).1.getD (toNat v13) default) ((v14,v15,v16),(v17,v18,v19),(v20,v21,v22)) a1).1]),v12,(v13+1),v14,v15,v16,v17,v18,v19,v20,v21,v22)))
  else
   (.inr (.inl ((v10++[v11]),(v12+1)))))
noncomputable def rS:Code:=(aD [1,1,1,1,0,1] [] (aG Tryz.f59) []).1
noncomputable def rT:List K:=(aD [1,1,1,1,0,1] [] (aG Tryz.f59) []).2
def pE (a0:Zm)(a1:Int)(v8c:List SV)(v8n:Nat)(v9:Int):LS:=⟨iH 60 [(1,(iv a1)),(2,(.v (.func (.func 61) #[] #[]))),(8,(.s 2 0 (bF (a0.1,a0.2)).1.length 9)),(10,(.s 3 0 v8n 1)),(26,(.s 2 0 (bF (a0.1,a0.2)).1.length 9)),(27,(iv (((bF (a0.1,a0.2)).1.length:Nat):Int))),(28,(iv v9))],[(.live false true (flat dL a0.1)),(.live false true (flat dW a0.2)),(.live true true (flat dM (bF (a0.1,a0.2)).1)),(.live true true v8c)]⟩
def dB (a0:Zm)(a1:Int):(List (List (Int×Int)))×Int->((List (List (Int×Int)))×Int)⊕((List (List (Int×Int)))×Int)
 | (v8,v9) =>
  (bif (decide ((v9:Int) < (((bF (a0.1,a0.2)).1.length:Nat):Int))) then
   (aB (eT a0 a1) (toNat ((((bF (a0.1,a0.2)).1.length:Nat):Int) - 0)+1) (v8,([]:List (Int×Int)),v9,0,((bF (a0.1,a0.2)).1.getD (toNat v9) default).1.1,((bF (a0.1,a0.2)).1.getD (toNat v9) default).1.2.1,((bF (a0.1,a0.2)).1.getD (toNat v9) default).1.2.2,((bF (a0.1,a0.2)).1.getD (toNat v9) default).2.1.1,((bF (a0.1,a0.2)).1.getD (toNat v9) default).2.1.2.1,((bF (a0.1,a0.2)).1.getD (toNat v9) default).2.1.2.2,((bF (a0.1,a0.2)).1.getD (toNat v9) default).2.2.1,((bF (a0.1,a0.2)).1.getD (toNat v9) default).2.2.2.1,((bF (a0.1,a0.2)).1.getD (toNat v9) default).2.2.2.2))
  else
   (.inr (v8,0)))
theorem aO2 (a0:Zm)(a1:Int)(l0_1:a0.1.length<=9223372036854775807)(l0_2:a0.2.length<=9223372036854775807) {cx:Cx} (hcx:cx.base=2)
   (n0:Nat) (g0:∀(v8:List (List (Int×Int))) (v9:Int),(0<=v9)/\(v8.length=toNat v9)/\(v9<=(bF (a0.1,a0.2)).1.length)->toNat ((((bF (a0.1,a0.2)).1.length:Nat):Int) - v9) < n0->Aw.Good Tryz.prog none 9 (bodyPost Tryz.prog Tryz.f59 (RR cx (.t [(.s 2 0 (aB (dB a0 a1) n0 (v8,v9)).1.length 1),(iv (aB (dB a0 a1) n0 (v8,v9)).2)]) [(.live true true (flat fA (aB (dB a0 a1) n0 (v8,v9)).1))] [])) cx [] (.l rS n0::rT) (pE a0 a1 (flat fA v8) v8.length v9)):∀(n:Nat) (v10:List (List (Int×Int))) (v11:List (Int×Int)) (v12 v13 v14 v15 v16 v17 v18 v19 v20 v21 v22:Int),(0<=v13)/\(v11.length=toNat v13)/\(v13<=(bF (a0.1,a0.2)).1.length)/\(v10.length=toNat v12)/\(0<=v12)/\(v12 < (bF (a0.1,a0.2)).1.length)/\((0<=v12))/\((v10.length=toNat v12))/\((v12<=(bF (a0.1,a0.2)).1.length))/\(v12 < (((bF (a0.1,a0.2)).1.length:Nat):Int))/\(toNat ((((bF (a0.1,a0.2)).1.length:Nat):Int) - v12) < n0+1)->toNat ((((bF (a0.1,a0.2)).1.length:Nat):Int) - v13) < n->Aw.Good Tryz.prog none 9 (bodyPost Tryz.prog Tryz.f59 (RR cx (.t [(.s 2 0 (jE (dB a0 a1) n0 (aB (eT a0 a1) n (v10,v11,v12,v13,v14,v15,v16,v17,v18,v19,v20,v21,v22))).1.length 1),(iv (jE (dB a0 a1) n0 (aB (eT a0 a1) n (v10,v11,v12,v13,v14,v15,v16,v17,v18,v19,v20,v21,v22))).2)]) [(.live true true (flat fA (jE (dB a0 a1) n0 (aB (eT a0 a1) n (v10,v11,v12,v13,v14,v15,v16,v17,v18,v19,v20,v21,v22))).1))] [])) cx [] (.l xZ n::yA n0) (tY a0 a1 (flat fA v10) v10.length (flat cQ v11) v11.length v12 v13 v14 v15 v16 v17 v18 v19 v20 v21 v22):=by
 intro n
 induction n with
 | zero=>intro v10 v11 v12 v13 v14 v15 v16 v17 v18 v19 v20 v21 v22 hi hn;exact absurd hn (gP _)
 | succ n ih =>
   intro v10 v11 v12 v13 v14 v15 v16 v17 v18 v19 v20 v21 v22 hi hn
   refine aH ?_
   have hpl:=rO (a0.1,a0.2)
   cases h0:(decide ((v13:Int) < (((bF (a0.1,a0.2)).1.length:Nat):Int))) with
   | true =>
    have q0:=bO h0
    let t1:List (St Tryz.prog):=[.d h0,.i v13 ((bF (a0.1,a0.2)).1.length),.L cW (bF (a0.1,a0.2)).1 v13 0 9,.c [] (C61 ((bF (a0.1,a0.2)).1.getD (toNat v13) default) ((v14,v15,v16),(v17,v18,v19),(v20,v21,v22)) a1)]
    cases h1:(((pU ((bF (a0.1,a0.2)).1.getD (toNat v13) default) ((v14,v15,v16),(v17,v18,v19),(v20,v21,v22)) a1).2:Int) != 0) with
    | true =>
     have q1:=bne_iff_ne.1 h1
     have e:=Eq.refl (eT a0 a1 (v10,v11,v12,v13,v14,v15,v16,v17,v18,v19,v20,v21,v22));conv at e=>rhs;simp only [eT,h0,h1,aI]
     rw [aC,e]
     exact rt (t1++[.d h1]) [.slot 6 1] [8] hcx (by kernel_rfl)
    | false =>
     have q1:=bne_eq_false_iff_eq.1 h1
     have e:=Eq.refl (eT a0 a1 (v10,v11,v12,v13,v14,v15,v16,v17,v18,v19,v20,v21,v22));conv at e=>rhs;simp only [eT,h0,h1,aI]
     rw [aA e]
     refine ba (t1++[.d h1,.p (show((flat cQ v11).length=v11.length*2/\v11.length+1<=2 ^ 40/\(v11.length+1)*16<=2 ^ 47) from gL cC (by omega) (by omega))]) [] [1,2,8,10,12,13,26,27,28,32,33,34] [2,3,4,9] hcx (m:=n) xZ (yA n0) (tY a0 a1 (flat fA v10) (v10.length) (flat cQ v11++(k2 (pU ((bF (a0.1,a0.2)).1.getD (toNat v13) default) ((v14,v15,v16),(v17,v18,v19),(v20,v21,v22)) a1).1)) (v11.length+1) v12 (W (v13+1)) v14 v15 v16 v17 v18 v19 v20 v21 v22) (by kernel_rfl) ?_
     have z0:(W (v13+1))=(v13+1):=aE (by omega) (by omega)
     have z1:(flat cQ v11++(k2 (pU ((bF (a0.1,a0.2)).1.getD (toNat v13) default) ((v14,v15,v16),(v17,v18,v19),(v20,v21,v22)) a1).1))=(flat cQ (v11++[(pU ((bF (a0.1,a0.2)).1.getD (toNat v13) default) ((v14,v15,v16),(v17,v18,v19),(v20,v21,v22)) a1).1])):=(bN (c:=cQ) (l:=v11) (m:=[(pU ((bF (a0.1,a0.2)).1.getD (toNat v13) default) ((v14,v15,v16),(v17,v18,v19),(v20,v21,v22)) a1).1])).symm
     have z2:(v11.length+1)=(v11++[(pU ((bF (a0.1,a0.2)).1.getD (toNat v13) default) ((v14,v15,v16),(v17,v18,v19),(v20,v21,v22)) a1).1]).length:=eH v11 [(pU ((bF (a0.1,a0.2)).1.getD (toNat v13) default) ((v14,v15,v16),(v17,v18,v19),(v20,v21,v22)) a1).1] rfl
     rw [z0,z1,z2]
     exact ih v10 (v11++[(pU ((bF (a0.1,a0.2)).1.getD (toNat v13) default) ((v14,v15,v16),(v17,v18,v19),(v20,v21,v22)) a1).1]) v12 (v13+1) v14 v15 v16 v17 v18 v19 v20 v21 v22 (by refine⟨?_,?_,?_,?_,?_,?_,?_,?_,?_,?_,?_⟩<;>(try simp only [Ls])<;>first | omega | assumption | exact hi.2.1 | exact hi.2.2.1 | exact hi.2.2.2.1 | exact hi.2.2.2.2.1 | exact hi.2.2.2.2.2.1 | exact hi.2.2.2.2.2.2.1 | exact hi.2.2.2.2.2.2.2.1 | exact hi.2.2.2.2.2.2.2.2.1 | exact hi.2.2.2.2.2.2.2.2.2.1 | exact hi.2.2.2.2.2.2.2.2.2.2.1 | simp) (by(try simp only [Ls]);omega)
   | false =>
    have q0:=cA h0
    have e:=Eq.refl (eT a0 a1 (v10,v11,v12,v13,v14,v15,v16,v17,v18,v19,v20,v21,v22));conv at e=>rhs;simp only [eT,h0,aI]
    rw [aC,e]
    refine ba [.d h0,.p (show((flat cQ v11)).length=v11.length*2 from by simp [aEw cC]),.p (show((flat fA v10).length=v10.length*1/\v10.length+1<=2 ^ 40/\(v10.length+1)*24<=2 ^ 47) from gL vW (by omega) (by omega))] [] [1,2,8,10,26,27,28] [2,7] hcx (m:=n0) rS (rT) (pE a0 a1 (flat fA v10++[(.d (flat cQ v11) v11.length 2)]) (v10.length+1) (W (v12+1))) (by kernel_rfl) ?_
    have z0:(W (v12+1))=(v12+1):=aE (by omega) (by omega)
    have z1:(flat fA v10++[(.d (flat cQ v11) v11.length 2)])=(flat fA (v10++[v11])):=(bN (c:=fA) (l:=v10) (m:=[v11])).symm
    have z2:(v10.length+1)=(v10++[v11]).length:=eH v10 [v11] rfl
    rw [z0,z1,z2]
    exact g0 (v10++[v11]) (v12+1) (by refine⟨?_,?_,?_⟩<;>(try simp only [Ls])<;>first | omega | assumption | simp) (by(try simp only [Ls]);omega)
theorem aO3 (a0:Zm)(a1:Int)(l0_1:a0.1.length<=9223372036854775807)(l0_2:a0.2.length<=9223372036854775807) {cx:Cx} (hcx:cx.base=2):∀(n:Nat)(v8:List (List (Int×Int)))(v9:Int),(0<=v9)/\(v8.length=toNat v9)/\(v9<=(bF (a0.1,a0.2)).1.length)->toNat ((((bF (a0.1,a0.2)).1.length:Nat):Int) - v9) < n->Aw.Good Tryz.prog none 9 (bodyPost Tryz.prog Tryz.f59 (RR cx (.t [(.s 2 0 (aB (dB a0 a1) n (v8,v9)).1.length 1),(iv (aB (dB a0 a1) n (v8,v9)).2)]) [(.live true true (flat fA (aB (dB a0 a1) n (v8,v9)).1))] [])) cx [] (.l rS n::rT) (pE a0 a1 (flat fA v8) v8.length v9):=by
 intro n
 induction n with
 | zero=>intro v8 v9 hi hn;exact absurd hn (gP _)
 | succ n ih =>
   intro v8 v9 hi hn
   refine aH ?_
   have hpl:=rO (a0.1,a0.2)
   cases h0:(decide ((v9:Int) < (((bF (a0.1,a0.2)).1.length:Nat):Int))) with
   | true =>
    have q0:=bO h0
    have e:=Eq.refl (dB a0 a1 (v8,v9));conv at e=>rhs;simp only [dB,h0,aI]
    rw [aC,e]
    refine en [.d h0,.i v9 ((bF (a0.1,a0.2)).1.length),.L cW (bF (a0.1,a0.2)).1 v9 0 9] [.slot 13 2] [1,2,8,10,12,13,26,27,28,32,33,34] [2,3,4,5] hcx xZ (yA n) (tY a0 a1 (flat fA v8) (v8.length) (flat cQ ([]:List (Int×Int))) 0 v9 0 (((bF (a0.1,a0.2)).1.getD (toNat v9) default).1.1) (((bF (a0.1,a0.2)).1.getD (toNat v9) default).1.2.1) (((bF (a0.1,a0.2)).1.getD (toNat v9) default).1.2.2) (((bF (a0.1,a0.2)).1.getD (toNat v9) default).2.1.1) (((bF (a0.1,a0.2)).1.getD (toNat v9) default).2.1.2.1) (((bF (a0.1,a0.2)).1.getD (toNat v9) default).2.1.2.2) (((bF (a0.1,a0.2)).1.getD (toNat v9) default).2.2.1) (((bF (a0.1,a0.2)).1.getD (toNat v9) default).2.2.2.1) (((bF (a0.1,a0.2)).1.getD (toNat v9) default).2.2.2.2)) (toNat ((((bF (a0.1,a0.2)).1.length:Nat):Int) - 0)+1) (by kernel_rfl) ?_
    exact aO2 a0 a1 l0_1 l0_2 hcx n ih (toNat ((((bF (a0.1,a0.2)).1.length:Nat):Int) - 0)+1) v8 ([]:List (Int×Int)) v9 0 (((bF (a0.1,a0.2)).1.getD (toNat v9) default).1.1) (((bF (a0.1,a0.2)).1.getD (toNat v9) default).1.2.1) (((bF (a0.1,a0.2)).1.getD (toNat v9) default).1.2.2) (((bF (a0.1,a0.2)).1.getD (toNat v9) default).2.1.1) (((bF (a0.1,a0.2)).1.getD (toNat v9) default).2.1.2.1) (((bF (a0.1,a0.2)).1.getD (toNat v9) default).2.1.2.2) (((bF (a0.1,a0.2)).1.getD (toNat v9) default).2.2.1) (((bF (a0.1,a0.2)).1.getD (toNat v9) default).2.2.2.1) (((bF (a0.1,a0.2)).1.getD (toNat v9) default).2.2.2.2) (by refine⟨?_,?_,?_,?_,?_,?_,?_,?_,?_,?_,?_⟩<;>(try simp only [Ls])<;>first | omega | assumption | exact hi.2.1 | exact hi.2.2.1 | exact hi.2.2.2.1 | exact hi.2.2.2.2.1 | exact hi.2.2.2.2.2.1 | exact hi.2.2.2.2.2.2.1 | exact hi.2.2.2.2.2.2.2.1 | exact hi.2.2.2.2.2.2.2.2.1 | exact hi.2.2.2.2.2.2.2.2.2.1 | exact hi.2.2.2.2.2.2.2.2.2.2.1 | simp) (by(try simp only [Ls]);omega)
   | false =>
    have q0:=cA h0
    have e:=Eq.refl (dB a0 a1 (v8,v9));conv at e=>rhs;simp only [dB,h0,aI]
    rw [aC,e]
    exact rt [.d h0] [] [3] hcx (by kernel_rfl)
def cD (a0:Zm)(a1:Int):(List (List (Int×Int)))×Int :=
 (bif (((bF (a0.1,a0.2)).2:Int) != 0) then
  (([]:List (List (Int×Int))),(bF (a0.1,a0.2)).2)
 else
  (aB (dB a0 a1) (toNat ((((bF (a0.1,a0.2)).1.length:Nat):Int) - 0)+1) (([]:List (List (Int×Int))),0)))
theorem aVp (a0:Zm)(a1:Int)(l0_1:a0.1.length<=9223372036854775807)(l0_2:a0.2.length<=9223372036854775807):Con Tryz.prog 59 [(.a [(.s 0 0 a0.1.length 3),(.s 1 0 a0.2.length 3)]),(iv a1),(.v (.func (.func 61) #[] #[]))] [(.live false true (flat dL a0.1)),(.live false true (flat dW a0.2))] (.t [(.s 2 0 (cD a0 a1).1.length 1),(iv (cD a0 a1).2)]) [(.live true true (flat fA (cD a0 a1).1))]:=by
 refine aJ Tryz.func59 (by kernel_rfl) fun cx hcx=>?_
 have hpl:=rO (a0.1,a0.2)
 let t0:List (St Tryz.prog):=[.c [0,1] (C90 (a0.1,a0.2) (by(try simp only [Lt]);omega) (by(try simp only [Lt]);omega))]
 cases h0:(((bF (a0.1,a0.2)).2:Int) != 0) with
 | true =>
  have q0:=bne_iff_ne.1 h0
  have e:=Eq.refl (cD a0 a1);conv at e=>rhs;simp only [cD,h0,aI]
  rw [e]
  exact rt (t0++[.d h0]) [.slot 6 1] [4] hcx (by kernel_rfl)
 | false =>
  have q0:=bne_eq_false_iff_eq.1 h0
  have e:=Eq.refl (cD a0 a1);conv at e=>rhs;simp only [cD,h0,aI]
  rw [e]
  refine en (t0++[.d h0]) [.slot 10 1] [1,2,8,10,26,27,28] [3,4] hcx rS (rT) (pE a0 a1 (flat fA ([]:List (List (Int×Int)))) 0 0) (toNat ((((bF (a0.1,a0.2)).1.length:Nat):Int) - 0)+1) (by kernel_rfl) ?_
  exact aO3 a0 a1 l0_1 l0_2 hcx (toNat ((((bF (a0.1,a0.2)).1.length:Nat):Int) - 0)+1) ([]:List (List (Int×Int))) 0 (by refine⟨?_,?_,?_⟩<;>(try simp only [Ls])<;>first | omega | assumption | simp) (by(try simp only [Ls]);omega)
noncomputable def yB:Code:=(aD [1,1,0,1] [] (aG Tryz.f63) []).1
noncomputable def yC:List K:=(aD [1,1,0,1] [] (aG Tryz.f63) []).2
def tZ (a0:List (List (Int×Int)))(a1:List (Int))(v2c:List SV)(v2n:Nat)(v3:Int):LS:=⟨iH 32 [(1,(.s 1 0 a1.length 1)),(6,(.s 2 0 v2n 2)),(11,(.s 0 0 a0.length 1)),(12,(iv (a0.length:Int))),(13,(iv v3))],[(.live false true (flat fA a0)),(.live false true (flat c3 a1)),(.live true true v2c)]⟩
def dS (a0:List (List (Int×Int)))(a1:List (Int)):(List (Int×Int))×Int->((List (Int×Int))×Int)⊕((List (Int×Int))×Int)
 | (v2,v3) =>
  (bif (decide ((v3:Int) < (a0.length:Int))) then
   (bif (((dC (a0.getD (toNat v3) default) a1).2:Int) != 0) then
    (.inr (([]:List (Int×Int)),(dC (a0.getD (toNat v3) default) a1).2))
   else
    (.inl ((v2++[(dC (a0.getD (toNat v3) default) a1).1]),(v3+1))))
  else
   (.inr (v2,0)))
theorem aO4 (a0:List (List (Int×Int)))(a1:List (Int))(l0:a0.length<=9223372036854775807)(l1:a1.length<=9223372036854775807)(hr:∀r∈a0,r.length<=a1.length)(hn:a0.length<=96)(hm:a1.length<=96) {cx:Cx} (hcx:cx.base=2):∀(n:Nat)(v2:List (Int×Int))(v3:Int),(0<=v3)/\(v2.length=toNat v3)/\(v3<=a0.length)->toNat ((a0.length:Int) - v3) < n->Aw.Good Tryz.prog none 9 (bodyPost Tryz.prog Tryz.f63 (RR cx (.t [(.s 2 0 (aB (dS a0 a1) n (v2,v3)).1.length 2),(iv (aB (dS a0 a1) n (v2,v3)).2)]) [(.live true true (flat cQ (aB (dS a0 a1) n (v2,v3)).1))] [])) cx [] (.l yB n::yC) (tZ a0 a1 (flat cQ v2) v2.length v3):=by
 intro n
 induction n with
 | zero=>intro v2 v3 hi hn;exact absurd hn (gP _)
 | succ n ih =>
   intro v2 v3 hi hn
   refine aH ?_
   have hrl:=aZq hr v3
   cases h0:(decide ((v3:Int) < (a0.length:Int))) with
   | true =>
    have q0:=bO h0
    let t1:List (St Tryz.prog):=[.d h0,.i v3 (a0.length),.L vW a0 v3 0 1,.p (aAf (c:=cQ) (fun _=>rfl) (a0.getD (toNat v3) default)),.c [3,1] (aNl (a0.getD (toNat v3) default) a1 (by(try simp only [Lt]);omega) (by omega) (by omega) (by omega))]
    cases h1:(((dC (a0.getD (toNat v3) default) a1).2:Int) != 0) with
    | true =>
     have q1:=bne_iff_ne.1 h1
     have e:=Eq.refl (dS a0 a1 (v2,v3));conv at e=>rhs;simp only [dS,h0,h1,aI]
     rw [aC,e]
     exact rt (t1++[.d h1]) [.slot 4 2] [5] hcx (by kernel_rfl)
    | false =>
     have q1:=bne_eq_false_iff_eq.1 h1
     have e:=Eq.refl (dS a0 a1 (v2,v3));conv at e=>rhs;simp only [dS,h0,h1,aI]
     rw [aA e]
     refine ba (t1++[.d h1,.p (show((flat cQ v2).length=v2.length*2/\v2.length+1<=2 ^ 40/\(v2.length+1)*16<=2 ^ 47) from gL cC (by omega) (by omega))]) [] [1,6,11,12,13] [6] hcx (m:=n) yB (yC) (tZ a0 a1 (flat cQ v2++(k2 (dC (a0.getD (toNat v3) default) a1).1)) (v2.length+1) (W (v3+1))) (by kernel_rfl) ?_
     have z0:(W (v3+1))=(v3+1):=aE (by omega) (by omega)
     have z1:(flat cQ v2++(k2 (dC (a0.getD (toNat v3) default) a1).1))=(flat cQ (v2++[(dC (a0.getD (toNat v3) default) a1).1])):=(bN (c:=cQ) (l:=v2) (m:=[(dC (a0.getD (toNat v3) default) a1).1])).symm
     have z2:(v2.length+1)=(v2++[(dC (a0.getD (toNat v3) default) a1).1]).length:=eH v2 [(dC (a0.getD (toNat v3) default) a1).1] rfl
     rw [z0,z1,z2]
     exact ih (v2++[(dC (a0.getD (toNat v3) default) a1).1]) (v3+1) (by refine⟨?_,?_,?_⟩<;>(try simp only [Ls])<;>first | omega | assumption | simp) (by(try simp only [Ls]);omega)
   | false =>
    have q0:=cA h0
    have e:=Eq.refl (dS a0 a1 (v2,v3));conv at e=>rhs;simp only [dS,h0,aI]
    rw [aC,e]
    exact rt [.d h0] [] [2] hcx (by kernel_rfl)
def bC (a0:List (List (Int×Int)))(a1:List (Int)):(List (Int×Int))×Int :=
 (aB (dS a0 a1) (toNat ((a0.length:Int) - 0)+1) (([]:List (Int×Int)),0))
theorem aVq (a0:List (List (Int×Int)))(a1:List (Int))(l0:a0.length<=9223372036854775807)(l1:a1.length<=9223372036854775807)(hr:∀r∈a0,r.length<=a1.length)(hn:a0.length<=96)(hm:a1.length<=96):Con Tryz.prog 63 [(.s 0 0 a0.length 1),(.s 1 0 a1.length 1)] [(.live false true (flat fA a0)),(.live false true (flat c3 a1))] (.t [(.s 2 0 (bC a0 a1).1.length 2),(iv (bC a0 a1).2)]) [(.live true true (flat cQ (bC a0 a1).1))]:=by
 refine aJ Tryz.func63 (by kernel_rfl) fun cx hcx=>?_
 have e:=Eq.refl (bC a0 a1);conv at e=>rhs;simp only [bC]
 rw [e]
 refine en [] [.slot 6 2] [1,6,11,12,13] [2] hcx yB (yC) (tZ a0 a1 (flat cQ ([]:List (Int×Int))) 0 0) (toNat ((a0.length:Int) - 0)+1) (by kernel_rfl) ?_
 exact aO4 a0 a1 l0 l1 hr hn hm hcx (toNat ((a0.length:Int) - 0)+1) ([]:List (Int×Int)) 0 (by refine⟨?_,?_,?_⟩<;>(try simp only [Ls])<;>first | omega | assumption | simp) (by(try simp only [Ls]);omega)
noncomputable def yD:Code:=(aD [1,1,1,0,1,0,1,1,0,1,1] [0] (aG Tryz.f65) []).1
noncomputable def yE (m0:Nat):List K:=(aD [1,1,1,0,1,0,1,1,0,1,1] [m0] (aG Tryz.f65) []).2
def uA (a0:List (List (Int×Int)))(a1:List (Int))(v14c:List SV)(v14n:Nat)(v15c:List SV)(v15n:Nat)(v16 v17 v18 v19:Int):LS:=⟨iH 49 [(0,(.s 0 0 a0.length 1)),(1,(.s 1 0 a1.length 1)),(4,(.p 2 0)),(6,(.s 3 0 v14n 2)),(7,(.s 4 0 v15n 1)),(8,(iv v16)),(9,(iv v17)),(12,(.s 1 0 a1.length 1)),(13,(iv (a1.length:Int))),(14,(iv v18)),(19,(.s 1 0 a1.length 1)),(20,(iv (a1.length:Int))),(21,(iv v19))],[(.live false true (flat fA a0)),(.live false true (flat c3 a1)),(.live true false [(iv 0),(iv 0)]),(.live true true v14c),(.live true true v15c)]⟩
def eU (a0:List (List (Int×Int)))(a1:List (Int)):(List (Int×Int))×List (Int)×Int×Zt->((List (Int×Int))×List (Int)×Int×Zt)⊕(((List (Int×Int))×List (Int)×Int)⊕((Int×Int)×Int))
 | (v14,v15,v16,v17,v18,v19) =>
  (bif (decide ((v19:Int) < (a1.length:Int))) then
   (.inl ((v14++[((a0.getD (toNat v19) default).getD (toNat v16) default)]),(v15++[(W (v17*(a1.getD (toNat v19) default)))]),v16,v17,v18,(v19+1)))
  else
   (.inr (.inl (v14,v15,(v18+1)))))
noncomputable def rU:Code:=(aD [1,1,1,0,1] [] (aG Tryz.f65) []).1
noncomputable def rV:List K:=(aD [1,1,1,0,1] [] (aG Tryz.f65) []).2
def pF (a0:List (List (Int×Int)))(a1:List (Int))(v11c:List SV)(v11n:Nat)(v12c:List SV)(v12n:Nat)(v13:Int):LS:=⟨iH 49 [(0,(.s 0 0 a0.length 1)),(1,(.s 1 0 a1.length 1)),(4,(.p 2 0)),(6,(.s 3 0 v11n 2)),(7,(.s 4 0 v12n 1)),(12,(.s 1 0 a1.length 1)),(13,(iv (a1.length:Int))),(14,(iv v13))],[(.live false true (flat fA a0)),(.live false true (flat c3 a1)),(.live true false [(iv 0),(iv 0)]),(.live true true v11c),(.live true true v12c)]⟩
def dJ (a0:List (List (Int×Int)))(a1:List (Int)):(List (Int×Int))×List (Int)×Int->((List (Int×Int))×List (Int)×Int)⊕((Int×Int)×Int)
 | (v11,v12,v13) =>
  (bif (decide ((v13:Int) < (a1.length:Int))) then
   (aB (eU a0 a1) (toNat ((a1.length:Int) - 0)+1) (v11,v12,v13,(a1.getD (toNat v13) default),v13,0))
  else
   (.inr ((dC v11 v12).1,(dC v11 v12).2)))
theorem aO5 (a0:List (List (Int×Int)))(a1:List (Int))(l0:a0.length<=9223372036854775807)(l1:a1.length<=9223372036854775807)(hl:a0.length=a1.length)(hr:∀r∈a0,r.length=a1.length)(hm:a1.length<=96) {cx:Cx} (hcx:cx.base=2)
   (n0:Nat) (g0:∀(v11:List (Int×Int)) (v12:List (Int)) (v13:Int),(0<=v13)/\(v11.length<=96*toNat v13)/\(v12.length=v11.length)/\(v13<=a1.length)->toNat ((a1.length:Int) - v13) < n0->Aw.Good Tryz.prog none 9 (bodyPost Tryz.prog Tryz.f65 (RR cx (.t [(.a (k2 (aB (dJ a0 a1) n0 (v11,v12,v13)).1)),(iv (aB (dJ a0 a1) n0 (v11,v12,v13)).2)]) [] [])) cx [] (.l rU n0::rV) (pF a0 a1 (flat cQ v11) v11.length (flat c3 v12) v12.length v13)):∀(n:Nat) (v14:List (Int×Int)) (v15:List (Int)) (v16 v17 v18 v19:Int),(0<=v19)/\(v14.length<=96*toNat v18+toNat v19)/\(v15.length=v14.length)/\(0<=v16)/\(v16 < a1.length)/\(0<=v18)/\(v18 < a1.length)/\(v19<=a1.length)/\((0<=v18))/\((v15.length=v14.length))/\((v18<=a1.length))/\(v18 < (a1.length:Int))/\(toNat ((a1.length:Int) - v18) < n0+1)->toNat ((a1.length:Int) - v19) < n->Aw.Good Tryz.prog none 9 (bodyPost Tryz.prog Tryz.f65 (RR cx (.t [(.a (k2 (jE (dJ a0 a1) n0 (aB (eU a0 a1) n (v14,v15,v16,v17,v18,v19))).1)),(iv (jE (dJ a0 a1) n0 (aB (eU a0 a1) n (v14,v15,v16,v17,v18,v19))).2)]) [] [])) cx [] (.l yD n::yE n0) (uA a0 a1 (flat cQ v14) v14.length (flat c3 v15) v15.length v16 v17 v18 v19):=by
 intro n
 induction n with
 | zero=>intro v14 v15 v16 v17 v18 v19 hi hn;exact absurd hn (gP _)
 | succ n ih =>
   intro v14 v15 v16 v17 v18 v19 hi hn
   refine aH ?_
   have hrl:=aZp hr v19
   cases h0:(decide ((v19:Int) < (a1.length:Int))) with
   | true =>
    have q0:=bO h0
    have e:=Eq.refl (eU a0 a1 (v14,v15,v16,v17,v18,v19));conv at e=>rhs;simp only [eU,h0,aI]
    rw [aA e]
    refine ba [.d h0,.i v19 (a1.length),.L fX a1 v19 0 1,.i v19 (a0.length),.L vW a0 v19 0 1,.p (aAf (c:=cQ) (fun _=>rfl) (a0.getD (toNat v19) default)),.i v16 ((a0.getD (toNat v19) default).length),.L cC (a0.getD (toNat v19) default) v16 0 2,.p (show((flat cQ v14).length=v14.length*2/\v14.length+1<=2 ^ 40/\(v14.length+1)*16<=2 ^ 47) from gL cC (by omega) (by omega)),.p (show((flat c3 v15).length=v15.length*1/\v15.length+1<=2 ^ 40/\(v15.length+1)*8<=2 ^ 47) from gL fX (by omega) (by omega))] [] [0,1,4,6,7,8,9,12,13,14,19,20,21] [2,7,9] hcx (m:=n) yD (yE n0) (uA a0 a1 (flat cQ v14++(k2 ((a0.getD (toNat v19) default).getD (toNat v16) default))) (v14.length+1) (flat c3 v15++[(iv (W (v17*(a1.getD (toNat v19) default))))]) (v15.length+1) v16 v17 v18 (W (v19+1))) (by kernel_rfl) ?_
    have z0:(W (v19+1))=(v19+1):=aE (by omega) (by omega)
    have z1:(flat cQ v14++(k2 ((a0.getD (toNat v19) default).getD (toNat v16) default)))=(flat cQ (v14++[((a0.getD (toNat v19) default).getD (toNat v16) default)])):=(bN (c:=cQ) (l:=v14) (m:=[((a0.getD (toNat v19) default).getD (toNat v16) default)])).symm
    have z2:(v14.length+1)=(v14++[((a0.getD (toNat v19) default).getD (toNat v16) default)]).length:=eH v14 [((a0.getD (toNat v19) default).getD (toNat v16) default)] rfl
    have z3:(flat c3 v15++[(iv (W (v17*(a1.getD (toNat v19) default))))])=(flat c3 (v15++[(W (v17*(a1.getD (toNat v19) default)))])):=(bN (c:=c3) (l:=v15) (m:=[(W (v17*(a1.getD (toNat v19) default)))])).symm
    have z4:(v15.length+1)=(v15++[(W (v17*(a1.getD (toNat v19) default)))]).length:=eH v15 [(W (v17*(a1.getD (toNat v19) default)))] rfl
    rw [z0,z1,z2,z3,z4]
    exact ih (v14++[((a0.getD (toNat v19) default).getD (toNat v16) default)]) (v15++[(W (v17*(a1.getD (toNat v19) default)))]) v16 v17 v18 (v19+1) (by refine⟨?_,?_,?_,?_,?_,?_,?_,?_,?_,?_,?_,?_,?_⟩<;>(try simp only [Ls])<;>first | omega | assumption | exact hi.2.1 | exact hi.2.2.1 | exact hi.2.2.2.1 | exact hi.2.2.2.2.1 | exact hi.2.2.2.2.2.1 | exact hi.2.2.2.2.2.2.1 | exact hi.2.2.2.2.2.2.2.1 | exact hi.2.2.2.2.2.2.2.2.1 | exact hi.2.2.2.2.2.2.2.2.2.1 | exact hi.2.2.2.2.2.2.2.2.2.2.1 | exact hi.2.2.2.2.2.2.2.2.2.2.2.1 | exact hi.2.2.2.2.2.2.2.2.2.2.2.2.1 | simp) (by(try simp only [Ls]);omega)
   | false =>
    have q0:=cA h0
    have e:=Eq.refl (eU a0 a1 (v14,v15,v16,v17,v18,v19));conv at e=>rhs;simp only [eU,h0,aI]
    rw [aC,e]
    refine ba [.d h0] [] [0,1,4,6,7,12,13,14] [2,3,4] hcx (m:=n0) rU (rV) (pF a0 a1 (flat cQ v14) (v14.length) (flat c3 v15) (v15.length) (W (v18+1))) (by kernel_rfl) ?_
    have z0:(W (v18+1))=(v18+1):=aE (by omega) (by omega)
    rw [z0]
    exact g0 v14 v15 (v18+1) (by refine⟨?_,?_,?_,?_⟩<;>(try simp only [Ls])<;>first | omega | assumption | simp) (by(try simp only [Ls]);omega)
theorem aO6 (a0:List (List (Int×Int)))(a1:List (Int))(l0:a0.length<=9223372036854775807)(l1:a1.length<=9223372036854775807)(hl:a0.length=a1.length)(hr:∀r∈a0,r.length=a1.length)(hm:a1.length<=96) {cx:Cx} (hcx:cx.base=2):∀(n:Nat)(v11:List (Int×Int))(v12:List (Int))(v13:Int),(0<=v13)/\(v11.length<=96*toNat v13)/\(v12.length=v11.length)/\(v13<=a1.length)->toNat ((a1.length:Int) - v13) < n->Aw.Good Tryz.prog none 9 (bodyPost Tryz.prog Tryz.f65 (RR cx (.t [(.a (k2 (aB (dJ a0 a1) n (v11,v12,v13)).1)),(iv (aB (dJ a0 a1) n (v11,v12,v13)).2)]) [] [])) cx [] (.l rU n::rV) (pF a0 a1 (flat cQ v11) v11.length (flat c3 v12) v12.length v13):=by
 intro n
 induction n with
 | zero=>intro v11 v12 v13 hi hn;exact absurd hn (gP _)
 | succ n ih =>
   intro v11 v12 v13 hi hn
   refine aH ?_
   cases h0:(decide ((v13:Int) < (a1.length:Int))) with
   | true =>
    have q0:=bO h0
    have e:=Eq.refl (dJ a0 a1 (v11,v12,v13));conv at e=>rhs;simp only [dJ,h0,aI]
    rw [aC,e]
    refine en [.d h0,.i v13 (a1.length),.L fX a1 v13 0 1] [] [0,1,4,6,7,8,9,12,13,14,19,20,21] [2,3,4] hcx yD (yE n) (uA a0 a1 (flat cQ v11) (v11.length) (flat c3 v12) (v12.length) v13 (a1.getD (toNat v13) default) v13 0) (toNat ((a1.length:Int) - 0)+1) (by kernel_rfl) ?_
    exact aO5 a0 a1 l0 l1 hl hr hm hcx n ih (toNat ((a1.length:Int) - 0)+1) v11 v12 v13 (a1.getD (toNat v13) default) v13 0 (by refine⟨?_,?_,?_,?_,?_,?_,?_,?_,?_,?_,?_,?_,?_⟩<;>(try simp only [Ls])<;>first | omega | assumption | exact hi.2.1 | exact hi.2.2.1 | exact hi.2.2.2.1 | exact hi.2.2.2.2.1 | exact hi.2.2.2.2.2.1 | exact hi.2.2.2.2.2.2.1 | exact hi.2.2.2.2.2.2.2.1 | exact hi.2.2.2.2.2.2.2.2.1 | exact hi.2.2.2.2.2.2.2.2.2.1 | exact hi.2.2.2.2.2.2.2.2.2.2.1 | exact hi.2.2.2.2.2.2.2.2.2.2.2.1 | exact hi.2.2.2.2.2.2.2.2.2.2.2.2.1 | simp) (by(try simp only [Ls]);omega)
   | false =>
    have q0:=cA h0
    have e:=Eq.refl (dJ a0 a1 (v11,v12,v13));conv at e=>rhs;simp only [dJ,h0,aI]
    rw [aC,e]
    exact rt [.d h0,.c [3,4] (aNl v11 v12 (by omega) (by omega) (by omega) (by omega))] [] [] hcx (by kernel_rfl)
def cU (a0:List (List (Int×Int)))(a1:List (Int)):(Int×Int)×Int :=
 (aB (dJ a0 a1) (toNat ((a1.length:Int) - 0)+1) (([]:List (Int×Int)),([]:List (Int)),0))
theorem aVr (a0:List (List (Int×Int)))(a1:List (Int))(l0:a0.length<=9223372036854775807)(l1:a1.length<=9223372036854775807)(hl:a0.length=a1.length)(hr:∀r∈a0,r.length=a1.length)(hm:a1.length<=96):Con Tryz.prog 65 [(.s 0 0 a0.length 1),(.s 1 0 a1.length 1)] [(.live false true (flat fA a0)),(.live false true (flat c3 a1))] (.t [(.a (k2 (cU a0 a1).1)),(iv (cU a0 a1).2)]) []:=by
 refine aJ Tryz.func65 (by kernel_rfl) fun cx hcx=>?_
 have e:=Eq.refl (cU a0 a1);conv at e=>rhs;simp only [cU]
 rw [e]
 refine en [] [.slot 6 2,.slot 7 1] [0,1,4,6,7,12,13,14] [2,3,4] hcx rU (rV) (pF a0 a1 (flat cQ ([]:List (Int×Int))) 0 (flat c3 ([]:List (Int))) 0 0) (toNat ((a1.length:Int) - 0)+1) (by kernel_rfl) ?_
 exact aO6 a0 a1 l0 l1 hl hr hm hcx (toNat ((a1.length:Int) - 0)+1) ([]:List (Int×Int)) ([]:List (Int)) 0 (by refine⟨?_,?_,?_,?_⟩<;>(try simp only [Ls])<;>first | omega | assumption | simp) (by(try simp only [Ls]);omega)
abbrev TB:=List (List (Int×Int))
theorem aNm {S1:TB×List (Int×Int)×Int×Int×Int×Int×Int×Int×Int×Int×Zt->(TB×List (Int×Int)×Int×Int×Int×Int×Int×Int×Int×Int×Zt)⊕((TB×Int)⊕(TB×Int))} {S0:TB×Int->(TB×Int)⊕(TB×Int)}
   (L:List PN) (of:PN->PN->(Int×Int)×Int) (hof:∀p∈L,∀q∈L,(of p q).2=0)
   (hS1:∀(out:TB) (row:List (Int×Int)) (i j:Int) (q:PN),S1 (out,row,i,j,q.1.1,q.1.2.1,q.1.2.2,q.2.1.1,q.2.1.2.1,q.2.1.2.2,q.2.2.1,q.2.2.2.1,q.2.2.2.2) =
     bif decide (j < (L.length:Int)) then(bif ((of (L.getD (toNat j) default) q).2 != 0) then .inr (.inr ([],(of (L.getD (toNat j) default) q).2)) else .inl (out,row++[(of (L.getD (toNat j) default) q).1],i,j+1,q.1.1,q.1.2.1,q.1.2.2,q.2.1.1,q.2.1.2.1,q.2.1.2.2,q.2.2.1,q.2.2.2.1,q.2.2.2.2)) else .inr (.inl (out++[row],i+1)))
   (hS0:∀(out:TB) (i:Int),S0 (out,i)=bif decide (i < (L.length:Int)) then aB S1 (toNat ((L.length:Int) - 0)+1) (out,[],i,0,(L.getD (toNat i) default).1.1,(L.getD (toNat i) default).1.2.1,(L.getD (toNat i) default).1.2.2,(L.getD (toNat i) default).2.1.1,(L.getD (toNat i) default).2.1.2.1,(L.getD (toNat i) default).2.1.2.2,(L.getD (toNat i) default).2.2.1,(L.getD (toNat i) default).2.2.2.1,(L.getD (toNat i) default).2.2.2.2) else .inr (out,0)) :
   aB S0 (toNat ((L.length:Int) - 0)+1) ([],0)=(L.map fun q=>L.map fun p=>(of p q).1,0):=by
 have snoc:∀{α β:Type} (g:α->β) (l:List α) (v:List β),l.foldl (fun v c=>v++[g c]) v=v++l.map g:=by
   intro α β g l
   induction l with
   | nil=>intro v;simp
   | cons c l ih=>intro v;rw [List.foldl_cons,ih];simp
 have inner:∀(out:TB) (i:Int) (q:PN),q∈L->aB S1 (toNat ((L.length:Int) - 0)+1) (out,[],i,0,q.1.1,q.1.2.1,q.1.2.2,q.2.1.1,q.2.1.2.1,q.2.1.2.2,q.2.2.1,q.2.2.2.1,q.2.2.2.2)=.inl (out++[L.map fun p=>(of p q).1],i+1):=by
   intro out i q hq
   rw [aZ (fun row j=>(out,row,i,j,q.1.1,q.1.2.1,q.1.2.2,q.2.1.1,q.2.1.2.1,q.2.1.2.2,q.2.2.1,q.2.2.2.1,q.2.2.2.2)) (fun row p=>.inl (row++[(of p q).1])) (fun row=>.inl (out++[row],i+1)) (L:=L) (fun _ _=>True) ?_ (fun _ _ _ _ _ _ _=>trivial) ?_ (by omega) trivial]
   · rw [bI,snoc];rfl
   · intro j c hc row _
     obtain⟨hlt,hce⟩:=List.getElem?_eq_some_iff.1 hc
     rw [hS1,bT (by omega),cond_true,bA hc,hof c (List.mem_of_getElem? hc) q hq]
     rfl
   · intro row _
     rw [hS1,cJ (by omega),cond_false]
 rw [aZ (fun out i=>(out,i)) (fun out q=>.inl (out++[L.map fun p=>(of p q).1])) (fun out=>(out,0)) (L:=L) (fun _ _=>True) ?_ (fun _ _ _ _ _ _ _=>trivial) ?_ (by omega) trivial]
 · rw [bI,snoc];rfl
 · intro i c hc out _
   obtain⟨hlt,hce⟩:=List.getElem?_eq_some_iff.1 hc
   rw [hS0,bT (by omega),cond_true,bA hc,inner out i c (List.mem_of_getElem? hc)]
   rfl
 · intro out _
   rw [hS0,cJ (by omega),cond_false]
abbrev aU (m:ME):List PN:=m.2.map (eO m)
theorem aW7 {m:ME} (h:fB m=0):bF m=(aU m,0):=by
 rw [aW6,h];rfl
theorem aI4 {m:ME} {d:Int} (h:fB m=0)(hd:0<=d/\d<=2):bU m d=((aU m).map fun q=>(aU m).map fun p=>(uK p q d).1,0):=by
 have hP:=aW7 h
 have g:=aNm (S1:=eS m d) (S0:=dA m d) (bF m).1 (fun p q=>uK p q d) (by
   rw [hP];exact fun p hp q hq=>(kN (mH h hd hp hq)).1) (fun out row i j q=>rfl) (fun out i=>rfl)
 unfold bU
 show(bif ((bF m).2 != 0) then _ else _)=_
 rw [show((bF m).2 != 0)=false from by rw [hP];rfl,cond_false]
 refine Eq.trans g ?_
 rw [hP]
theorem aI5 {m:ME} {d:Int} (h:fB m=0)(hd:0<=d/\d<=2):cD m d=((aU m).map fun q=>(aU m).map fun p=>(pU p q d).1,0):=by
 have hP:=aW7 h
 have g:=aNm (S1:=eT m d) (S0:=dB m d) (bF m).1 (fun p q=>pU p q d) (by
   rw [hP];exact fun p hp q hq=>(pC (mH h hd hp hq)).1) (fun out row i j q=>rfl) (fun out i=>rfl)
 unfold cD
 show(bif ((bF m).2 != 0) then _ else _)=_
 rw [show((bF m).2 != 0)=false from by rw [hP];rfl,cond_false]
 refine Eq.trans g ?_
 rw [hP]
def okC (q:List Int):Prop:=∀c∈q,0<=c/\c<=100
def aD3 (q:List Int)(v:Int):Int:=q.foldl (fun v c=>W (v+c)) v
theorem aAo:∀(q:List Int)(v:Int),okC q->0<=v->v+100*(q.length:Int)<=1000000->aD3 q v=v+q.sum/\v<=v+q.sum/\v+q.sum<=v+100*(q.length:Int)
 | [],v,_,_,_=>by simp [aD3]
 | c::q,v,h,h0,h1=>by
   have hc:=h c List.mem_cons_self
   simp only [List.length_cons] at h1
   have ih:=aAo q (v+c) (fun x hx=>h x (List.mem_cons_of_mem _ hx)) (by omega) (by omega)
   have e:aD3 (c::q) v=aD3 q (v+c):=by
     show aD3 q (W (v+c))=_
     rw [aE (by omega) (by omega)]
   rw [e]
   simp only [List.sum_cons,List.length_cons]
   omega
theorem yF:∀(q:List Int)(v:Int),(iZ (R:=Int) (fun v c=>bif (!pA c 0 100) then .inr 1 else .inl (W (v+c))) q v=.inr 1/\iZ (σ:=Unit) (R:=Int) (fun _ c=>bif (!pA c 0 100) then .inr 1 else .inl ()) q ()=.inr 1) \/
   (iZ (R:=Int) (fun v c=>bif (!pA c 0 100) then .inr 1 else .inl (W (v+c))) q v=.inl (aD3 q v)/\iZ (σ:=Unit) (R:=Int) (fun _ c=>bif (!pA c 0 100) then .inr 1 else .inl ()) q ()=.inl ()/\okC q)
 | [],v=>.inr ⟨rfl,rfl,fun c hc=>by simp at hc⟩
 | c::q,v=>by
   simp only [iZ]
   cases hc:(!pA c 0 100) with
   | true=>exact .inl ⟨rfl,rfl⟩
   | false =>
     simp only [cond_false]
     rcases yF q (W (v+c)) with h | ⟨h1,h2,h3⟩
     · exact .inl h
     · refine .inr ⟨h1,h2,fun x hx=>?_⟩
       rcases List.mem_cons.1 hx with rfl | hx
       · exact qQ hc
       · exact h3 x hx
theorem aSr (q:List Int):cF q=aD3 q 0:=by
 unfold cF
 rw [aZ (fun v i=>(v,i)) (fun v c=>.inl (W (v+c))) (fun v=>v) (L:=q) (fun _ _=>True) ?_ (fun _ _ _ _ _ _ _=>trivial) ?_ (by omega) trivial]
 · rw [bI];rfl
 · intro i c hc v _
   obtain⟨hlt,hce⟩:=List.getElem?_eq_some_iff.1 hc
   simp only [kM]
   rw [bT (by omega),cond_true,bA hc];rfl
 · intro v _
   simp only [kM]
   rw [cJ (by omega),cond_false]
theorem aW8 (q:List Int):cO q=W ((W (aD3 q 0*1048576))*1048576):=by
 unfold cO
 rw [aZ (fun v i=>(v,i)) (fun v c=>.inl (W (v+c))) (fun v=>W ((W (v*1048576))*1048576)) (L:=q) (fun _ _=>True) ?_ (fun _ _ _ _ _ _ _=>trivial) ?_ (by omega) trivial]
 · rw [bI];rfl
 · intro i c hc v _
   obtain⟨hlt,hce⟩:=List.getElem?_eq_some_iff.1 hc
   simp only [nA]
   rw [bT (by omega),cond_true,bA hc];rfl
 · intro v _
   simp only [nA]
   rw [cJ (by omega),cond_false]
noncomputable def chV (m:ME)(q:List Int):Int:=bif ((fB m:Int) != 0) then fB m else bif (((q.length:Int):Int) != (m.2.length:Int)) then 1 else
 aCk (fun v=>bif (v == 0) then 11 else 0) (iZ (R:=Int) (fun v c=>bif (!pA c 0 100) then .inr 1 else .inl (W (v+c))) q 0)
theorem bDi (m:ME)(q:List Int):oC m q=chV m q:=by
 unfold oC chV
 show(bif ((fB m:Int) != 0) then fB m else _)=_
 congr 1
 congr 1
 refine aZ (fun v i=>(v,i)) _ (fun v=>bif (v == 0) then 11 else 0) (L:=q) (fun _ _=>True) ?_ (fun _ _ _ _ _ _ _=>trivial) ?_ (by omega) trivial
 · intro i c hc v _
   obtain⟨hlt,hce⟩:=List.getElem?_eq_some_iff.1 hc
   simp only [hO]
   rw [bT (by omega),cond_true,bA hc]
   cases (!pA c 0 100)<;>rfl
 · intro v _
   simp only [hO]
   rw [cJ (by omega),cond_false]
   cases (v == 0)<;>rfl
theorem bDj (m:ME)(q:List Int):jU m q=chV m q:=by
 unfold jU chV
 show(bif ((vU m:Int) != 0) then vU m else _)=_
 rw [←aGn]
 congr 1
 congr 1
 refine Eq.trans (aZ (σ:=Unit) (fun _ i=>i) (fun _ c=>bif (!pA c 0 100) then .inr 1 else .inl ()) (fun _=>bif (cF q == 0) then 11 else 0) (L:=q) (v:=()) (fun _ _=>True) ?_ (fun _ _ _ _ _ _ _=>trivial) ?_ (by omega) trivial) ?_
 · intro i c hc v _
   obtain⟨hlt,hce⟩:=List.getElem?_eq_some_iff.1 hc
   simp only [fO]
   rw [bT (by omega),cond_true,bA hc,show F52 c 0 100=pA c 0 100 from rfl]
   cases (!pA c 0 100)<;>rfl
 · intro v _
   simp only [fO]
   rw [cJ (by omega),cond_false]
   cases (cF q == 0)<;>rfl
 · rcases yF q 0 with⟨h1,h2⟩ | ⟨h1,h2,_⟩
   · rw [h1,h2];rfl
   · rw [h1,h2,aSr];rfl
structure ChOK (m:ME) (q:List Int):Prop where
 v:fB m=0
 len:q.length=m.2.length
 ok:okC q
 pos:1<=q.sum
 le:q.sum<=9600
 n:1<=m.2.length/\m.2.length<=96
 tot:aD3 q 0=q.sum
theorem bDk {m:ME} {q:List Int} (h:chV m q=0):ChOK m q:=by
 unfold chV at h
 cases h1:((fB m:Int) != 0) with
 | true=>rw [h1,cond_true] at h;exact absurd h (bne_iff_ne.1 h1)
 | false =>
 rw [h1,cond_false] at h
 have hv:=bne_eq_false_iff_eq.1 h1
 obtain⟨_,n1,n2,_,_⟩:=iT hv
 cases h2:(((q.length:Int):Int) != (m.2.length:Int)) with
 | true=>rw [h2,cond_true] at h;exact absurd h (by decide)
 | false =>
 rw [h2,cond_false] at h
 have hl:=bne_eq_false_iff_eq.1 h2
 rcases yF q 0 with⟨g1,_⟩ | ⟨g1,_,g3⟩
 · rw [g1] at h;exact absurd h (by decide)
 · rw [g1] at h
   have ht:=aAo q 0 g3 (Int.le_refl 0) (by omega)
   simp only [aCk] at h
   have hne:aD3 q 0≠0:=by
     intro e
     rw [e] at h;exact absurd h (by decide)
   exact⟨hv,by omega,g3,by omega,by omega,⟨n1,n2⟩,by omega⟩
noncomputable def chD (m:ME)(q:List Int)(d:Int):Int:=bif (chV m q != 0) then chV m q else bif (!pA d 0 2) then 1 else 0
theorem zJ (m:ME)(q:List Int)(d:Int):gI m q d=chD m q d:=by
 unfold gI chD
 rw [show oC (m.1,m.2) q=chV m q from bDi m q]
theorem aSs (m:ME)(q:List Int)(d:Int):fQ m q d=chD m q d:=by
 unfold fQ chD
 rw [show jU (m.1,m.2) q=chV m q from bDj m q]
 rfl
theorem gO {m:ME} {q:List Int} {d:Int} (h:chD m q d=0):ChOK m q/\0<=d/\d<=2:=by
 unfold chD at h
 cases h1:(chV m q != 0) with
 | true=>rw [h1,cond_true] at h;exact absurd h (bne_iff_ne.1 h1)
 | false =>
 rw [h1,cond_false] at h
 cases h2:(!pA d 0 2) with
 | true=>rw [h2,cond_true] at h;exact absurd h (by decide)
 | false=>exact⟨bDk (bne_eq_false_iff_eq.1 h1),qQ h2⟩
theorem aNn {m:ME} {d:Int} {f:PN->PN->Int×Int} {T:TB} {n:Nat} (e:T=(aU m).map fun q=>(aU m).map fun p=>f p q)(hn:n=m.2.length):T.length=n/\∀r∈T,r.length=n:=by
 subst e hn
 refine⟨by simp,fun r hr=>?_⟩
 obtain⟨q,_,rfl⟩:=List.mem_map.1 hr
 simp
noncomputable def sK (c:(Int×Int)×Int):(Int×Int)×Int:=oA c.1 c.2
noncomputable def eA (l:List ((Int×Int)×Int)):(Int×Int)×Int:=pR aK3 (fun e=>((0,0),e)) (nL sK l [])
theorem aGw {a:Int×Int} (h:okP a):vs a:=by unfold okP at h;unfold vs;omega
theorem aVs {a:Int×Int} {n:Int} (ha:okP a)(hn:0<=n/\n<=10000)(h:(oA a n).2=0):n<=(oA a n).1.1/\(oA a n).1.1<=(oA a n).1.2:=by
 rw [aGf (aGw ha) (by omega)] at h ⊢
 unfold okP at ha
 have h1:=aCg ha.1 hn.1
 have h2:=aCg ha.2.1 hn.1
 have h3:mI 1 n=n:=by unfold mI;rw [Int.one_mul,if_neg (by omega),if_neg (by omega)]
 have e:scl a n=(mI a.1 n,mI a.2 n):=by unfold scl;rw [if_neg (by omega)]
 rw [e] at h ⊢
 rcases rL (mI a.1 n) (mI a.2 n) with⟨g,_⟩ | g
 · rw [g];simp only;omega
 · rw [g] at h;exact absurd h (by decide)
theorem aZr {c:(Int×Int)×Int} (h:(sK c).2=0):vs (sK c).1:=aI1 h
theorem aNo {l:List ((Int×Int)×Int)} {m:List (Int×Int)} (h:nL sK l []=.inl m)(hn:l.length<=9216):(∀a∈m,vs a)/\m.length<=10000:=by
 obtain⟨e,h0⟩:=lC h
 rw [List.nil_append] at e
 subst e
 exact⟨fun a ha=>by obtain⟨c,hc,rfl⟩:=List.mem_map.1 ha;exact aZr (h0 c hc),by rw [List.length_map];omega⟩
theorem aW9 {xs:List (Int×Int)} {q:List Int} (hl:xs.length<=q.length)(hn:xs.length<=9216):dC xs q=eA (xs.zip q):=by
 have hz:(xs.zip q).length=xs.length:=by rw [List.length_zip];omega
 unfold dC eA
 have key:=xN (g:=sK) (S:=dX xs q) (E:=fun e=>(((0,0):Int×Int),e)) (L:=xs.zip q) (G:=fun l=>((kQ l).1,(kQ l).2))
   (fun i c hi l=>?_) (fun l=>?_) (xs.zip q) 0 (toNat ((xs.length:Int) - 0)+1) [] rfl (Nat.zero_le _) (by omega)
 · refine Eq.trans key ?_
   cases hs:nL sK (xs.zip q) [] with
   | inr r=>rfl
   | inl m =>
     obtain⟨hv,hm⟩:=aNo hs (by omega)
     simp only [pR]
     rw [bCi hv hm]
 · obtain⟨h1,h2⟩:=List.getElem?_zip_eq_some.1 hi
   have hlt:=(List.getElem?_eq_some_iff.1 h1).1
   simp only [dX]
   rw [bT (by omega),cond_true,bA h1,bA h2]
   show _=bif ((oA c.1 c.2).2 != 0) then _ else _
   cases ((oA c.1 c.2).2 != 0)<;>rfl
 · simp only [dX]
   rw [cJ (by rw [hz];omega),cond_false]
theorem aNp {l:List ((Int×Int)×Int)} (hl:∀c∈l,okP c.1/\0<=c.2/\c.2<=10000)(h:(eA l).2=0):(l.map (·.2)).sum<=(eA l).1.1/\(eA l).1.1<=(eA l).1.2/\vs (eA l).1:=by
 unfold eA at h ⊢
 cases hs:nL sK l [] with
 | inr r=>rw [hs] at h;exact absurd h (rN hs)
 | inl m =>
   rw [hs] at h
   simp only [pR] at h ⊢
   obtain⟨e,hv⟩:=aRi h
   rw [e]
   obtain⟨e2,h0⟩:=lC hs
   rw [List.nil_append] at e2
   refine⟨?_,hv.2.1,hv⟩
   rw [rM,e2]
   simp only [Int.zero_add,List.map_map]
   clear hs h e hv e2
   induction l with
   | nil=>simp
   | cons c l ih =>
     have hc:=hl c List.mem_cons_self
     have:=aVs hc.1 hc.2 (h0 c List.mem_cons_self)
     have ih:=ih (fun x hx=>hl x (List.mem_cons_of_mem _ hx)) (fun x hx=>h0 x (List.mem_cons_of_mem _ hx))
     simp only [List.map_cons,List.sum_cons,Function.comp] at ih ⊢
     have e:(sK c).1.1=(oA c.1 c.2).1.1:=rfl
     omega
noncomputable def pS (T:TB)(q:List Int):List (Int×Int)×Int:=pR (fun l=>(l,0)) (fun e=>([],e)) (nL (fun r:List (Int×Int)=>eA (r.zip q)) T [])
theorem aNq {T:TB} {q:List Int} (hr:∀r∈T,r.length<=q.length)(hm:q.length<=96):bC T q=pS T q:=by
 unfold bC pS
 refine xN (g:=fun r:List (Int×Int)=>eA (r.zip q)) (S:=dS T q) (E:=fun e=>(([]:List (Int×Int)),e)) (L:=T) (G:=fun l=>(l,0))
   (fun i c hi l=>?_) (fun l=>?_) T 0 (toNat ((T.length:Int) - 0)+1) [] rfl (Nat.zero_le _) (by omega)
 · obtain⟨hlt,hce⟩:=List.getElem?_eq_some_iff.1 hi
   have hc:=hr c (List.mem_of_getElem? hi)
   simp only [dS]
   rw [bT (by omega),cond_true,bA hi,aW9 hc (by omega)]
   cases ((eA (c.zip q)).2 != 0)<;>rfl
 · simp only [dS]
   rw [cJ (by omega),cond_false]
theorem aGx {T:TB} {q:List Int} (hT:∀r∈T,r.length=q.length/\∀s∈r,okP s)(hq:okC q)(h:(pS T q).2=0) :
   (pS T q).1.length=T.length/\∀s∈(pS T q).1,q.sum<=s.1/\s.1<=s.2/\vs s:=by
 unfold pS at h ⊢
 cases hs:nL (fun r:List (Int×Int)=>eA (r.zip q)) T [] with
 | inr r=>rw [hs] at h;exact absurd h (rN hs)
 | inl m =>
   simp only [pR]
   obtain⟨e,h0⟩:=lC hs
   rw [List.nil_append] at e
   subst e
   refine⟨by rw [List.length_map],fun s hsm=>?_⟩
   obtain⟨r,hr,rfl⟩:=List.mem_map.1 hsm
   obtain⟨hl,hP⟩:=hT r hr
   have hp:=aNp (l:=r.zip q) (fun c hc=>⟨hP _ (List.of_mem_zip hc).1,by have:=hq _ (List.of_mem_zip hc).2;omega⟩) (h0 r hr)
   have:(r.zip q).map (·.2)=q:=List.map_snd_zip (by omega)
   rw [this] at hp
   exact hp
theorem aVt {m:ME} {q:List Int} {d:Int} (h:((gI m q d:Int) != 0)=false):(∀r∈(bU m d).1,r.length<=q.length)/\(bU m d).1.length<=96/\q.length<=96:=by
 rw [zJ] at h
 obtain⟨hc,hd⟩:=gO (bne_eq_false_iff_eq.1 h)
 obtain⟨h1,h2⟩:=aNn (d:=d) (T:=(bU m d).1) (by rw [aI4 hc.v hd]) hc.len.symm.symm
 have:=hc.n;have:=hc.len
 exact⟨fun r hr=>by rw [h2 r hr];omega,by omega,by omega⟩
theorem aZs {m:ME} {q:List Int} {d:Int} (h:((gI m q d:Int) != 0)=false):(cD m d).1.length=q.length/\(∀r∈(cD m d).1,r.length=q.length)/\q.length<=96:=by
 rw [zJ] at h
 obtain⟨hc,hd⟩:=gO (bne_eq_false_iff_eq.1 h)
 obtain⟨h1,h2⟩:=aNn (d:=d) (T:=(cD m d).1) (by rw [aI5 hc.v hd]) hc.len
 have:=hc.n;have:=hc.len
 exact⟨h1,h2,by omega⟩
theorem eK {m:ME} {q:List Int} {d:Int} (h:((fQ m q d:Int) != 0)=false):mF m m.2.length/\m.2.length<=96/\q.length=m.2.length:=by
 rw [aSs] at h
 obtain⟨hc,hd⟩:=gO (bne_eq_false_iff_eq.1 h)
 exact⟨(qP (by rw [hc.v];rfl)).1,hc.n.2,hc.len⟩
theorem aCx (m:ME):aN m=aU m:=by
 unfold aN
 rw [aZ (fun v i=>(v,i)) (fun v c=>.inl (v++[eO m c])) (fun v=>v) (L:=m.2) (fun _ _=>True) ?_ (fun _ _ _ _ _ _ _=>trivial) ?_ (by omega) trivial]
 · have snoc:∀(l:List P3) (v:List PN),l.foldl (fun v c=>v++[eO m c]) v=v++l.map (eO m):=by
     intro l
     induction l with
     | nil=>intro v;simp
     | cons c l ih=>intro v;rw [List.foldl_cons,ih];simp
   rw [bI,snoc];rfl
 · intro i c hc v _
   obtain⟨hlt,hce⟩:=List.getElem?_eq_some_iff.1 hc
   simp only [pB]
   rw [bT (by omega),cond_true,bA hc]
   rfl
 · intro v _
   simp only [pB]
   rw [cJ (by omega),cond_false]
theorem aSt (m:ME):(aN m).length=m.2.length:=by rw [aCx,List.length_map]
noncomputable def aCy:Code:=(aD [1,1,1,1,1,0,1,0,1,0,1,0,1] [0] (aG Tryz.f107) []).1
noncomputable def aCz (m0:Nat):List K:=(aD [1,1,1,1,1,0,1,0,1,0,1,0,1] [m0] (aG Tryz.f107) []).2
def yG (a0:Zm)(a1:List (Int))(a2:Int)(v10c:List SV)(v10n:Nat)(v11c:List SV)(v11n:Nat)(v12 v13:Int):LS:=⟨iH 84 [(1,(.s 2 0 a1.length 1)),(2,(iv a2)),(9,(.s 3 0 (aN (a0.1,a0.2)).length 9)),(10,(.s 4 0 v10n 2)),(11,(iv v12)),(12,(.s 5 0 v11n 2)),(13,(iv v13))],[(.live false true (flat dL a0.1)),(.live false true (flat dW a0.2)),(.live false true (flat c3 a1)),(.live true true (flat dM (aN (a0.1,a0.2)))),(.live true true v10c),(.live true true v11c)]⟩
def cX (a0:Zm)(a1:List (Int))(a2:Int):(List (Int×Int))×(List (Int×Int))×Int×Int->((List (Int×Int))×(List (Int×Int))×Int×Int)⊕(((List (Int×Int))×Int)⊕((List (Int×Int))×Int))
 | (v10,v11,v12,v13) =>
  (bif (decide ((v13:Int) < (((aN (a0.1,a0.2)).length:Nat):Int))) then
   (bif (((mD ((aN (a0.1,a0.2)).getD (toNat v13) default) ((aN (a0.1,a0.2)).getD (toNat v12) default) a2).2:Int) != 0) then
    (.inr (.inr (([]:List (Int×Int)),(mD ((aN (a0.1,a0.2)).getD (toNat v13) default) ((aN (a0.1,a0.2)).getD (toNat v12) default) a2).2)))
   else
    (bif (((fZ (mD ((aN (a0.1,a0.2)).getD (toNat v13) default) ((aN (a0.1,a0.2)).getD (toNat v12) default) a2).1 (a1.getD (toNat v13) default)).2:Int) != 0) then
     (.inr (.inr (([]:List (Int×Int)),(fZ (mD ((aN (a0.1,a0.2)).getD (toNat v13) default) ((aN (a0.1,a0.2)).getD (toNat v12) default) a2).1 (a1.getD (toNat v13) default)).2)))
    else
     (.inl (v10,(v11++[(fZ (mD ((aN (a0.1,a0.2)).getD (toNat v13) default) ((aN (a0.1,a0.2)).getD (toNat v12) default) a2).1 (a1.getD (toNat v13) default)).1]),v12,(v13+1)))))
  else
   (bif (((cZ v11).2:Int) != 0) then
    (.inr (.inr (([]:List (Int×Int)),(cZ v11).2)))
   else
    (.inr (.inl ((v10++[(cZ v11).1]),(v12+1))))))
noncomputable def vX:Code:=(aD [1,1,1,1,1,0,1] [] (aG Tryz.f107) []).1
noncomputable def vY:List K:=(aD [1,1,1,1,1,0,1] [] (aG Tryz.f107) []).2
def rW (a0:Zm)(a1:List (Int))(a2:Int)(v8c:List SV)(v8n:Nat)(v9:Int):LS:=⟨iH 84 [(1,(.s 2 0 a1.length 1)),(2,(iv a2)),(9,(.s 3 0 (aN (a0.1,a0.2)).length 9)),(10,(.s 4 0 v8n 2)),(11,(iv v9))],[(.live false true (flat dL a0.1)),(.live false true (flat dW a0.2)),(.live false true (flat c3 a1)),(.live true true (flat dM (aN (a0.1,a0.2)))),(.live true true v8c)]⟩
def dH (a0:Zm)(a1:List (Int))(a2:Int):(List (Int×Int))×Int->((List (Int×Int))×Int)⊕((List (Int×Int))×Int)
 | (v8,v9) =>
  (bif (decide ((v9:Int) < (((aN (a0.1,a0.2)).length:Nat):Int))) then
   (aB (cX a0 a1 a2) (toNat ((((aN (a0.1,a0.2)).length:Nat):Int) - 0)+1) (v8,([]:List (Int×Int)),v9,0))
  else
   (.inr (v8,0)))
theorem aSu (a0:Zm)(a1:List (Int))(a2:Int)(l0_1:a0.1.length<=9223372036854775807)(l0_2:a0.2.length<=9223372036854775807)(l1:a1.length<=9223372036854775807) {cx:Cx} (hcx:cx.base=3)
   (n0:Nat) (g0:∀(v8:List (Int×Int)) (v9:Int),(0<=v9)/\(v8.length=toNat v9)/\(v9<=(aN (a0.1,a0.2)).length)/\((aN (a0.1,a0.2)).length=a1.length)/\(a1.length<=96)->toNat ((((aN (a0.1,a0.2)).length:Nat):Int) - v9) < n0->Aw.Good Tryz.prog none 9 (bodyPost Tryz.prog Tryz.f107 (RR cx (.t [(.s 3 0 (aB (dH a0 a1 a2) n0 (v8,v9)).1.length 2),(iv (aB (dH a0 a1 a2) n0 (v8,v9)).2)]) [(.live true true (flat cQ (aB (dH a0 a1 a2) n0 (v8,v9)).1))] [])) cx [] (.l vX n0::vY) (rW a0 a1 a2 (flat cQ v8) v8.length v9)):∀(n:Nat) (v10:List (Int×Int)) (v11:List (Int×Int)) (v12 v13:Int),(0<=v13)/\(v11.length=toNat v13)/\(v13<=(aN (a0.1,a0.2)).length)/\(v10.length=toNat v12)/\(0<=v12)/\(v12 < (aN (a0.1,a0.2)).length)/\((aN (a0.1,a0.2)).length=a1.length)/\(a1.length<=96)/\((0<=v12))/\((v10.length=toNat v12))/\((v12<=(aN (a0.1,a0.2)).length))/\(((aN (a0.1,a0.2)).length=a1.length))/\((a1.length<=96))/\(v12 < (((aN (a0.1,a0.2)).length:Nat):Int))/\(toNat ((((aN (a0.1,a0.2)).length:Nat):Int) - v12) < n0+1)->toNat ((((aN (a0.1,a0.2)).length:Nat):Int) - v13) < n->Aw.Good Tryz.prog none 9 (bodyPost Tryz.prog Tryz.f107 (RR cx (.t [(.s 3 0 (jE (dH a0 a1 a2) n0 (aB (cX a0 a1 a2) n (v10,v11,v12,v13))).1.length 2),(iv (jE (dH a0 a1 a2) n0 (aB (cX a0 a1 a2) n (v10,v11,v12,v13))).2)]) [(.live true true (flat cQ (jE (dH a0 a1 a2) n0 (aB (cX a0 a1 a2) n (v10,v11,v12,v13))).1))] [])) cx [] (.l aCy n::aCz n0) (yG a0 a1 a2 (flat cQ v10) v10.length (flat cQ v11) v11.length v12 v13):=by
 intro n
 induction n with
 | zero=>intro v10 v11 v12 v13 hi hn;exact absurd hn (gP _)
 | succ n ih =>
   intro v10 v11 v12 v13 hi hn
   refine aH ?_
   cases h0:(decide ((v13:Int) < (((aN (a0.1,a0.2)).length:Nat):Int))) with
   | true =>
    have q0:=bO h0
    let t1:List (St Tryz.prog):=[.d h0,.i v13 ((aN (a0.1,a0.2)).length),.L cW (aN (a0.1,a0.2)) v13 0 9,.i v12 ((aN (a0.1,a0.2)).length),.L cW (aN (a0.1,a0.2)) v12 0 9,.c [] (bFk ((aN (a0.1,a0.2)).getD (toNat v13) default) ((aN (a0.1,a0.2)).getD (toNat v12) default) a2)]
    cases h1:(((mD ((aN (a0.1,a0.2)).getD (toNat v13) default) ((aN (a0.1,a0.2)).getD (toNat v12) default) a2).2:Int) != 0) with
    | true =>
     have q1:=bne_iff_ne.1 h1
     have e:=Eq.refl (cX a0 a1 a2 (v10,v11,v12,v13));conv at e=>rhs;simp only [cX,h0,h1,aI]
     rw [aC,e]
     exact rt (t1++[.d h1]) [.slot 6 2] [7] hcx (by kernel_rfl)
    | false =>
     have q1:=bne_eq_false_iff_eq.1 h1
     let t2:List (St Tryz.prog):=(t1++[.d h1,.i v13 (a1.length),.L fX a1 v13 0 1,.c [] (bCa (mD ((aN (a0.1,a0.2)).getD (toNat v13) default) ((aN (a0.1,a0.2)).getD (toNat v12) default) a2).1 (a1.getD (toNat v13) default))])
     cases h2:(((fZ (mD ((aN (a0.1,a0.2)).getD (toNat v13) default) ((aN (a0.1,a0.2)).getD (toNat v12) default) a2).1 (a1.getD (toNat v13) default)).2:Int) != 0) with
     | true =>
      have q2:=bne_iff_ne.1 h2
      have e:=Eq.refl (cX a0 a1 a2 (v10,v11,v12,v13));conv at e=>rhs;simp only [cX,h0,h1,h2,aI]
      rw [aC,e]
      exact rt (t2++[.d h2]) [.slot 6 2] [7] hcx (by kernel_rfl)
     | false =>
      have q2:=bne_eq_false_iff_eq.1 h2
      have e:=Eq.refl (cX a0 a1 a2 (v10,v11,v12,v13));conv at e=>rhs;simp only [cX,h0,h1,h2,aI]
      rw [aA e]
      refine ba (t2++[.d h2,.p (show((flat cQ v11).length=v11.length*2/\v11.length+1<=2 ^ 40/\(v11.length+1)*16<=2 ^ 47) from gL cC (by omega) (by omega))]) [] [1,2,9,10,11,12,13] [3,4,8] hcx (m:=n) aCy (aCz n0) (yG a0 a1 a2 (flat cQ v10) (v10.length) (flat cQ v11++(k2 (fZ (mD ((aN (a0.1,a0.2)).getD (toNat v13) default) ((aN (a0.1,a0.2)).getD (toNat v12) default) a2).1 (a1.getD (toNat v13) default)).1)) (v11.length+1) v12 (W (v13+1))) (by kernel_rfl) ?_
      have z0:(W (v13+1))=(v13+1):=aE (by omega) (by omega)
      have z1:(flat cQ v11++(k2 (fZ (mD ((aN (a0.1,a0.2)).getD (toNat v13) default) ((aN (a0.1,a0.2)).getD (toNat v12) default) a2).1 (a1.getD (toNat v13) default)).1))=(flat cQ (v11++[(fZ (mD ((aN (a0.1,a0.2)).getD (toNat v13) default) ((aN (a0.1,a0.2)).getD (toNat v12) default) a2).1 (a1.getD (toNat v13) default)).1])):=(bN (c:=cQ) (l:=v11) (m:=[(fZ (mD ((aN (a0.1,a0.2)).getD (toNat v13) default) ((aN (a0.1,a0.2)).getD (toNat v12) default) a2).1 (a1.getD (toNat v13) default)).1])).symm
      have z2:(v11.length+1)=(v11++[(fZ (mD ((aN (a0.1,a0.2)).getD (toNat v13) default) ((aN (a0.1,a0.2)).getD (toNat v12) default) a2).1 (a1.getD (toNat v13) default)).1]).length:=eH v11 [(fZ (mD ((aN (a0.1,a0.2)).getD (toNat v13) default) ((aN (a0.1,a0.2)).getD (toNat v12) default) a2).1 (a1.getD (toNat v13) default)).1] rfl
      rw [z0,z1,z2]
      exact ih v10 (v11++[(fZ (mD ((aN (a0.1,a0.2)).getD (toNat v13) default) ((aN (a0.1,a0.2)).getD (toNat v12) default) a2).1 (a1.getD (toNat v13) default)).1]) v12 (v13+1) (by refine⟨?_,?_,?_,?_,?_,?_,?_,?_,?_,?_,?_,?_,?_,?_,?_⟩<;>(try simp only [Ls])<;>first | omega | assumption | exact hi.2.1 | exact hi.2.2.1 | exact hi.2.2.2.1 | exact hi.2.2.2.2.1 | exact hi.2.2.2.2.2.1 | exact hi.2.2.2.2.2.2.1 | exact hi.2.2.2.2.2.2.2.1 | exact hi.2.2.2.2.2.2.2.2.1 | exact hi.2.2.2.2.2.2.2.2.2.1 | exact hi.2.2.2.2.2.2.2.2.2.2.1 | exact hi.2.2.2.2.2.2.2.2.2.2.2.1 | exact hi.2.2.2.2.2.2.2.2.2.2.2.2.1 | exact hi.2.2.2.2.2.2.2.2.2.2.2.2.2.1 | exact hi.2.2.2.2.2.2.2.2.2.2.2.2.2.2.1 | simp) (by(try simp only [Ls]);omega)
   | false =>
    have q0:=cA h0
    let t1:List (St Tryz.prog):=[.d h0,.c [5] (aQj v11 (by omega))]
    cases h1:(((cZ v11).2:Int) != 0) with
    | true =>
     have q1:=bne_iff_ne.1 h1
     have e:=Eq.refl (cX a0 a1 a2 (v10,v11,v12,v13));conv at e=>rhs;simp only [cX,h0,h1,aI]
     rw [aC,e]
     exact rt (t1++[.d h1]) [.slot 6 2] [7] hcx (by kernel_rfl)
    | false =>
     have q1:=bne_eq_false_iff_eq.1 h1
     have e:=Eq.refl (cX a0 a1 a2 (v10,v11,v12,v13));conv at e=>rhs;simp only [cX,h0,h1,aI]
     rw [aC,e]
     refine ba (t1++[.d h1,.p (show((flat cQ v10).length=v10.length*2/\v10.length+1<=2 ^ 40/\(v10.length+1)*16<=2 ^ 47) from gL cC (by omega) (by omega))]) [] [1,2,9,10,11] [3,8] hcx (m:=n0) vX (vY) (rW a0 a1 a2 (flat cQ v10++(k2 (cZ v11).1)) (v10.length+1) (W (v12+1))) (by kernel_rfl) ?_
     have z0:(W (v12+1))=(v12+1):=aE (by omega) (by omega)
     have z1:(flat cQ v10++(k2 (cZ v11).1))=(flat cQ (v10++[(cZ v11).1])):=(bN (c:=cQ) (l:=v10) (m:=[(cZ v11).1])).symm
     have z2:(v10.length+1)=(v10++[(cZ v11).1]).length:=eH v10 [(cZ v11).1] rfl
     rw [z0,z1,z2]
     exact g0 (v10++[(cZ v11).1]) (v12+1) (by refine⟨?_,?_,?_,?_,?_⟩<;>(try simp only [Ls])<;>first | omega | assumption | simp) (by(try simp only [Ls]);omega)
theorem aSv (a0:Zm)(a1:List (Int))(a2:Int)(l0_1:a0.1.length<=9223372036854775807)(l0_2:a0.2.length<=9223372036854775807)(l1:a1.length<=9223372036854775807) {cx:Cx} (hcx:cx.base=3):∀(n:Nat)(v8:List (Int×Int))(v9:Int),(0<=v9)/\(v8.length=toNat v9)/\(v9<=(aN (a0.1,a0.2)).length)/\((aN (a0.1,a0.2)).length=a1.length)/\(a1.length<=96)->toNat ((((aN (a0.1,a0.2)).length:Nat):Int) - v9) < n->Aw.Good Tryz.prog none 9 (bodyPost Tryz.prog Tryz.f107 (RR cx (.t [(.s 3 0 (aB (dH a0 a1 a2) n (v8,v9)).1.length 2),(iv (aB (dH a0 a1 a2) n (v8,v9)).2)]) [(.live true true (flat cQ (aB (dH a0 a1 a2) n (v8,v9)).1))] [])) cx [] (.l vX n::vY) (rW a0 a1 a2 (flat cQ v8) v8.length v9):=by
 intro n
 induction n with
 | zero=>intro v8 v9 hi hn;exact absurd hn (gP _)
 | succ n ih =>
   intro v8 v9 hi hn
   refine aH ?_
   cases h0:(decide ((v9:Int) < (((aN (a0.1,a0.2)).length:Nat):Int))) with
   | true =>
    have q0:=bO h0
    have e:=Eq.refl (dH a0 a1 a2 (v8,v9));conv at e=>rhs;simp only [dH,h0,aI]
    rw [aC,e]
    refine en [.d h0] [.slot 12 2] [1,2,9,10,11,12,13] [3,4,5] hcx aCy (aCz n) (yG a0 a1 a2 (flat cQ v8) (v8.length) (flat cQ ([]:List (Int×Int))) 0 v9 0) (toNat ((((aN (a0.1,a0.2)).length:Nat):Int) - 0)+1) (by kernel_rfl) ?_
    exact aSu a0 a1 a2 l0_1 l0_2 l1 hcx n ih (toNat ((((aN (a0.1,a0.2)).length:Nat):Int) - 0)+1) v8 ([]:List (Int×Int)) v9 0 (by refine⟨?_,?_,?_,?_,?_,?_,?_,?_,?_,?_,?_,?_,?_,?_,?_⟩<;>(try simp only [Ls])<;>first | omega | assumption | exact hi.2.1 | exact hi.2.2.1 | exact hi.2.2.2.1 | exact hi.2.2.2.2.1 | exact hi.2.2.2.2.2.1 | exact hi.2.2.2.2.2.2.1 | exact hi.2.2.2.2.2.2.2.1 | exact hi.2.2.2.2.2.2.2.2.1 | exact hi.2.2.2.2.2.2.2.2.2.1 | exact hi.2.2.2.2.2.2.2.2.2.2.1 | exact hi.2.2.2.2.2.2.2.2.2.2.2.1 | exact hi.2.2.2.2.2.2.2.2.2.2.2.2.1 | exact hi.2.2.2.2.2.2.2.2.2.2.2.2.2.1 | exact hi.2.2.2.2.2.2.2.2.2.2.2.2.2.2.1 | simp) (by(try simp only [Ls]);omega)
   | false =>
    have q0:=cA h0
    have e:=Eq.refl (dH a0 a1 a2 (v8,v9));conv at e=>rhs;simp only [dH,h0,aI]
    rw [aC,e]
    exact rt [.d h0] [] [4] hcx (by kernel_rfl)
def aS (a0:Zm)(a1:List (Int))(a2:Int):(List (Int×Int))×Int :=
 (bif (((fQ (a0.1,a0.2) a1 a2):Int) != 0) then
  (([]:List (Int×Int)),(fQ (a0.1,a0.2) a1 a2))
 else
  (aB (dH a0 a1 a2) (toNat ((((aN (a0.1,a0.2)).length:Nat):Int) - 0)+1) (([]:List (Int×Int)),0)))
theorem aSw (a0:Zm)(a1:List (Int))(a2:Int)(l0_1:a0.1.length<=9223372036854775807)(l0_2:a0.2.length<=9223372036854775807)(l1:a1.length<=9223372036854775807):Con Tryz.prog 107 [(.a [(.s 0 0 a0.1.length 3),(.s 1 0 a0.2.length 3)]),(.s 2 0 a1.length 1),(iv a2)] [(.live false true (flat dL a0.1)),(.live false true (flat dW a0.2)),(.live false true (flat c3 a1))] (.t [(.s 3 0 (aS a0 a1 a2).1.length 2),(iv (aS a0 a1 a2).2)]) [(.live true true (flat cQ (aS a0 a1 a2).1))]:=by
 refine aJ Tryz.func107 (by kernel_rfl) fun cx hcx=>?_
 try have hg1:a0.2.length<=96:=(eK h0).2.1
 try have hg2:a1.length=a0.2.length:=(eK h0).2.2
 have hg3:(aN (a0.1,a0.2)).length=a0.2.length:=aSt (a0.1,a0.2)
 let t0:List (St Tryz.prog):=[.c [0,1,2] (aSk (a0.1,a0.2) a1 a2 (by(try simp only [Lt]);omega) (by(try simp only [Lt]);omega) (by omega))]
 cases h0:(((fQ (a0.1,a0.2) a1 a2):Int) != 0) with
 | true =>
  have q0:=bne_iff_ne.1 h0
  try have hg1:a0.2.length<=96:=(eK h0).2.1
  try have hg2:a1.length=a0.2.length:=(eK h0).2.2
  have e:=Eq.refl (aS a0 a1 a2);conv at e=>rhs;simp only [aS,h0,aI]
  rw [e]
  exact rt (t0++[.d h0]) [.slot 6 2] [4] hcx (by kernel_rfl)
 | false =>
  have q0:=bne_eq_false_iff_eq.1 h0
  try have hg1:a0.2.length<=96:=(eK h0).2.1
  try have hg2:a1.length=a0.2.length:=(eK h0).2.2
  have e:=Eq.refl (aS a0 a1 a2);conv at e=>rhs;simp only [aS,h0,aI]
  rw [e]
  refine en (t0++[.d h0,.c [0,1] (bDe (a0.1,a0.2) (by(try simp only [Lt]);omega) (by(try simp only [Lt]);omega) (eK h0).1 (eK h0).2.1)]) [.slot 10 2] [1,2,9,10,11] [4,5] hcx vX (vY) (rW a0 a1 a2 (flat cQ ([]:List (Int×Int))) 0 0) (toNat ((((aN (a0.1,a0.2)).length:Nat):Int) - 0)+1) (by kernel_rfl) ?_
  exact aSv a0 a1 a2 l0_1 l0_2 l1 hcx (toNat ((((aN (a0.1,a0.2)).length:Nat):Int) - 0)+1) ([]:List (Int×Int)) 0 (by refine⟨?_,?_,?_,?_,?_⟩<;>(try simp only [Ls])<;>first | omega | assumption | simp) (by(try simp only [Ls]);omega)
noncomputable def aC0:Code:=(aD [1,1,1,1,1,0,1,0,1,0,1] [0] (aG Tryz.f110) []).1
noncomputable def aC1 (m0:Nat):List K:=(aD [1,1,1,1,1,0,1,0,1,0,1] [m0] (aG Tryz.f110) []).2
def yH (a0:Zm)(a1:List (Int))(a2:Int)(v9c:List SV)(v9n:Nat)(v10 v11:Int):LS:=⟨iH 80 [(1,(.s 2 0 a1.length 1)),(2,(iv a2)),(6,(.p 3 0)),(9,(.s 4 0 (aN (a0.1,a0.2)).length 9)),(10,(.s 5 0 v9n 2)),(11,(iv v10)),(12,(iv v11))],[(.live false true (flat dL a0.1)),(.live false true (flat dW a0.2)),(.live false true (flat c3 a1)),(.live true false [(iv 0),(iv 0)]),(.live true true (flat dM (aN (a0.1,a0.2)))),(.live true true v9c)]⟩
def dU (a0:Zm)(a1:List (Int))(a2:Int):(List (Int×Int))×Int×Int->((List (Int×Int))×Int×Int)⊕(((List (Int×Int))×Int)⊕((Int×Int)×Int))
 | (v9,v10,v11) =>
  (bif (decide ((v11:Int) < (((aN (a0.1,a0.2)).length:Nat):Int))) then
   (bif (((lB ((aN (a0.1,a0.2)).getD (toNat v10) default) ((aN (a0.1,a0.2)).getD (toNat v11) default) a2).2:Int) != 0) then
    (.inr (.inr ((0,0),(lB ((aN (a0.1,a0.2)).getD (toNat v10) default) ((aN (a0.1,a0.2)).getD (toNat v11) default) a2).2)))
   else
    (bif (((fZ (lB ((aN (a0.1,a0.2)).getD (toNat v10) default) ((aN (a0.1,a0.2)).getD (toNat v11) default) a2).1 (W ((a1.getD (toNat v10) default)*(a1.getD (toNat v11) default)))).2:Int) != 0) then
     (.inr (.inr ((0,0),(fZ (lB ((aN (a0.1,a0.2)).getD (toNat v10) default) ((aN (a0.1,a0.2)).getD (toNat v11) default) a2).1 (W ((a1.getD (toNat v10) default)*(a1.getD (toNat v11) default)))).2)))
    else
     (.inl ((v9++[(fZ (lB ((aN (a0.1,a0.2)).getD (toNat v10) default) ((aN (a0.1,a0.2)).getD (toNat v11) default) a2).1 (W ((a1.getD (toNat v10) default)*(a1.getD (toNat v11) default)))).1]),v10,(v11+1)))))
  else
   (.inr (.inl (v9,(v10+1)))))
noncomputable def vZ:Code:=(aD [1,1,1,1,1,0,1] [] (aG Tryz.f110) []).1
noncomputable def wA:List K:=(aD [1,1,1,1,1,0,1] [] (aG Tryz.f110) []).2
def rX (a0:Zm)(a1:List (Int))(a2:Int)(v7c:List SV)(v7n:Nat)(v8:Int):LS:=⟨iH 80 [(1,(.s 2 0 a1.length 1)),(2,(iv a2)),(6,(.p 3 0)),(9,(.s 4 0 (aN (a0.1,a0.2)).length 9)),(10,(.s 5 0 v7n 2)),(11,(iv v8))],[(.live false true (flat dL a0.1)),(.live false true (flat dW a0.2)),(.live false true (flat c3 a1)),(.live true false [(iv 0),(iv 0)]),(.live true true (flat dM (aN (a0.1,a0.2)))),(.live true true v7c)]⟩
def eD (a0:Zm)(a1:List (Int))(a2:Int):(List (Int×Int))×Int->((List (Int×Int))×Int)⊕((Int×Int)×Int)
 | (v7,v8) =>
  (bif (decide ((v8:Int) < (((aN (a0.1,a0.2)).length:Nat):Int))) then
   (aB (dU a0 a1 a2) (toNat ((((aN (a0.1,a0.2)).length:Nat):Int) - 0)+1) (v7,v8,0))
  else
   (.inr ((cZ v7).1,(cZ v7).2)))
theorem aSx (a0:Zm)(a1:List (Int))(a2:Int)(l0_1:a0.1.length<=9223372036854775807)(l0_2:a0.2.length<=9223372036854775807)(l1:a1.length<=9223372036854775807) {cx:Cx} (hcx:cx.base=3)
   (n0:Nat) (g0:∀(v7:List (Int×Int)) (v8:Int),(0<=v8)/\(v7.length<=96*toNat v8)/\(v8<=(aN (a0.1,a0.2)).length)/\((aN (a0.1,a0.2)).length=a1.length)/\(a1.length<=96)->toNat ((((aN (a0.1,a0.2)).length:Nat):Int) - v8) < n0->Aw.Good Tryz.prog none 9 (bodyPost Tryz.prog Tryz.f110 (RR cx (.t [(.a (k2 (aB (eD a0 a1 a2) n0 (v7,v8)).1)),(iv (aB (eD a0 a1 a2) n0 (v7,v8)).2)]) [] [])) cx [] (.l vZ n0::wA) (rX a0 a1 a2 (flat cQ v7) v7.length v8)):∀(n:Nat) (v9:List (Int×Int)) (v10 v11:Int),(0<=v11)/\(v9.length<=96*toNat v10+toNat v11)/\(0<=v10)/\(v10 < (aN (a0.1,a0.2)).length)/\(v11<=(aN (a0.1,a0.2)).length)/\((aN (a0.1,a0.2)).length=a1.length)/\(a1.length<=96)/\((0<=v10))/\((v10<=(aN (a0.1,a0.2)).length))/\(((aN (a0.1,a0.2)).length=a1.length))/\((a1.length<=96))/\(v10 < (((aN (a0.1,a0.2)).length:Nat):Int))/\(toNat ((((aN (a0.1,a0.2)).length:Nat):Int) - v10) < n0+1)->toNat ((((aN (a0.1,a0.2)).length:Nat):Int) - v11) < n->Aw.Good Tryz.prog none 9 (bodyPost Tryz.prog Tryz.f110 (RR cx (.t [(.a (k2 (jE (eD a0 a1 a2) n0 (aB (dU a0 a1 a2) n (v9,v10,v11))).1)),(iv (jE (eD a0 a1 a2) n0 (aB (dU a0 a1 a2) n (v9,v10,v11))).2)]) [] [])) cx [] (.l aC0 n::aC1 n0) (yH a0 a1 a2 (flat cQ v9) v9.length v10 v11):=by
 intro n
 induction n with
 | zero=>intro v9 v10 v11 hi hn;exact absurd hn (gP _)
 | succ n ih =>
   intro v9 v10 v11 hi hn
   refine aH ?_
   cases h0:(decide ((v11:Int) < (((aN (a0.1,a0.2)).length:Nat):Int))) with
   | true =>
    have q0:=bO h0
    let t1:List (St Tryz.prog):=[.d h0,.i v10 ((aN (a0.1,a0.2)).length),.L cW (aN (a0.1,a0.2)) v10 0 9,.i v11 ((aN (a0.1,a0.2)).length),.L cW (aN (a0.1,a0.2)) v11 0 9,.c [] (bFp ((aN (a0.1,a0.2)).getD (toNat v10) default) ((aN (a0.1,a0.2)).getD (toNat v11) default) a2)]
    cases h1:(((lB ((aN (a0.1,a0.2)).getD (toNat v10) default) ((aN (a0.1,a0.2)).getD (toNat v11) default) a2).2:Int) != 0) with
    | true =>
     have q1:=bne_iff_ne.1 h1
     have e:=Eq.refl (dU a0 a1 a2 (v9,v10,v11));conv at e=>rhs;simp only [dU,h0,h1,aI]
     rw [aC,e]
     exact rt (t1++[.d h1]) [] [] hcx (by kernel_rfl)
    | false =>
     have q1:=bne_eq_false_iff_eq.1 h1
     let t2:List (St Tryz.prog):=(t1++[.d h1,.i v10 (a1.length),.L fX a1 v10 0 1,.i v11 (a1.length),.L fX a1 v11 0 1,.c [] (bCa (lB ((aN (a0.1,a0.2)).getD (toNat v10) default) ((aN (a0.1,a0.2)).getD (toNat v11) default) a2).1 (W ((a1.getD (toNat v10) default)*(a1.getD (toNat v11) default))))])
     cases h2:(((fZ (lB ((aN (a0.1,a0.2)).getD (toNat v10) default) ((aN (a0.1,a0.2)).getD (toNat v11) default) a2).1 (W ((a1.getD (toNat v10) default)*(a1.getD (toNat v11) default)))).2:Int) != 0) with
     | true =>
      have q2:=bne_iff_ne.1 h2
      have e:=Eq.refl (dU a0 a1 a2 (v9,v10,v11));conv at e=>rhs;simp only [dU,h0,h1,h2,aI]
      rw [aC,e]
      exact rt (t2++[.d h2]) [] [] hcx (by kernel_rfl)
     | false =>
      have q2:=bne_eq_false_iff_eq.1 h2
      have e:=Eq.refl (dU a0 a1 a2 (v9,v10,v11));conv at e=>rhs;simp only [dU,h0,h1,h2,aI]
      rw [aA e]
      refine ba (t2++[.d h2,.p (show((flat cQ v9).length=v9.length*2/\v9.length+1<=2 ^ 40/\(v9.length+1)*16<=2 ^ 47) from gL cC (by omega) (by omega))]) [] [1,2,6,9,10,11,12] [3,4,8] hcx (m:=n) aC0 (aC1 n0) (yH a0 a1 a2 (flat cQ v9++(k2 (fZ (lB ((aN (a0.1,a0.2)).getD (toNat v10) default) ((aN (a0.1,a0.2)).getD (toNat v11) default) a2).1 (W ((a1.getD (toNat v10) default)*(a1.getD (toNat v11) default)))).1)) (v9.length+1) v10 (W (v11+1))) (by kernel_rfl) ?_
      have z0:(W (v11+1))=(v11+1):=aE (by omega) (by omega)
      have z1:(flat cQ v9++(k2 (fZ (lB ((aN (a0.1,a0.2)).getD (toNat v10) default) ((aN (a0.1,a0.2)).getD (toNat v11) default) a2).1 (W ((a1.getD (toNat v10) default)*(a1.getD (toNat v11) default)))).1))=(flat cQ (v9++[(fZ (lB ((aN (a0.1,a0.2)).getD (toNat v10) default) ((aN (a0.1,a0.2)).getD (toNat v11) default) a2).1 (W ((a1.getD (toNat v10) default)*(a1.getD (toNat v11) default)))).1])):=(bN (c:=cQ) (l:=v9) (m:=[(fZ (lB ((aN (a0.1,a0.2)).getD (toNat v10) default) ((aN (a0.1,a0.2)).getD (toNat v11) default) a2).1 (W ((a1.getD (toNat v10) default)*(a1.getD (toNat v11) default)))).1])).symm
      have z2:(v9.length+1)=(v9++[(fZ (lB ((aN (a0.1,a0.2)).getD (toNat v10) default) ((aN (a0.1,a0.2)).getD (toNat v11) default) a2).1 (W ((a1.getD (toNat v10) default)*(a1.getD (toNat v11) default)))).1]).length:=eH v9 [(fZ (lB ((aN (a0.1,a0.2)).getD (toNat v10) default) ((aN (a0.1,a0.2)).getD (toNat v11) default) a2).1 (W ((a1.getD (toNat v10) default)*(a1.getD (toNat v11) default)))).1] rfl
      rw [z0,z1,z2]
      exact ih (v9++[(fZ (lB ((aN (a0.1,a0.2)).getD (toNat v10) default) ((aN (a0.1,a0.2)).getD (toNat v11) default) a2).1 (W ((a1.getD (toNat v10) default)*(a1.getD (toNat v11) default)))).1]) v10 (v11+1) (by refine⟨?_,?_,?_,?_,?_,?_,?_,?_,?_,?_,?_,?_,?_⟩<;>(try simp only [Ls])<;>first | omega | assumption | exact hi.2.1 | exact hi.2.2.1 | exact hi.2.2.2.1 | exact hi.2.2.2.2.1 | exact hi.2.2.2.2.2.1 | exact hi.2.2.2.2.2.2.1 | exact hi.2.2.2.2.2.2.2.1 | exact hi.2.2.2.2.2.2.2.2.1 | exact hi.2.2.2.2.2.2.2.2.2.1 | exact hi.2.2.2.2.2.2.2.2.2.2.1 | exact hi.2.2.2.2.2.2.2.2.2.2.2.1 | exact hi.2.2.2.2.2.2.2.2.2.2.2.2.1 | simp) (by(try simp only [Ls]);omega)
   | false =>
    have q0:=cA h0
    have e:=Eq.refl (dU a0 a1 a2 (v9,v10,v11));conv at e=>rhs;simp only [dU,h0,aI]
    rw [aC,e]
    refine ba [.d h0] [] [1,2,6,9,10,11] [3,4,5] hcx (m:=n0) vZ (wA) (rX a0 a1 a2 (flat cQ v9) (v9.length) (W (v10+1))) (by kernel_rfl) ?_
    have z0:(W (v10+1))=(v10+1):=aE (by omega) (by omega)
    rw [z0]
    exact g0 v9 (v10+1) (by refine⟨?_,?_,?_,?_,?_⟩<;>(try simp only [Ls])<;>first | omega | assumption | simp) (by(try simp only [Ls]);omega)
theorem aSy (a0:Zm)(a1:List (Int))(a2:Int)(l0_1:a0.1.length<=9223372036854775807)(l0_2:a0.2.length<=9223372036854775807)(l1:a1.length<=9223372036854775807) {cx:Cx} (hcx:cx.base=3):∀(n:Nat)(v7:List (Int×Int))(v8:Int),(0<=v8)/\(v7.length<=96*toNat v8)/\(v8<=(aN (a0.1,a0.2)).length)/\((aN (a0.1,a0.2)).length=a1.length)/\(a1.length<=96)->toNat ((((aN (a0.1,a0.2)).length:Nat):Int) - v8) < n->Aw.Good Tryz.prog none 9 (bodyPost Tryz.prog Tryz.f110 (RR cx (.t [(.a (k2 (aB (eD a0 a1 a2) n (v7,v8)).1)),(iv (aB (eD a0 a1 a2) n (v7,v8)).2)]) [] [])) cx [] (.l vZ n::wA) (rX a0 a1 a2 (flat cQ v7) v7.length v8):=by
 intro n
 induction n with
 | zero=>intro v7 v8 hi hn;exact absurd hn (gP _)
 | succ n ih =>
   intro v7 v8 hi hn
   refine aH ?_
   cases h0:(decide ((v8:Int) < (((aN (a0.1,a0.2)).length:Nat):Int))) with
   | true =>
    have q0:=bO h0
    have e:=Eq.refl (eD a0 a1 a2 (v7,v8));conv at e=>rhs;simp only [eD,h0,aI]
    rw [aC,e]
    refine en [.d h0] [] [1,2,6,9,10,11,12] [3,4,5] hcx aC0 (aC1 n) (yH a0 a1 a2 (flat cQ v7) (v7.length) v8 0) (toNat ((((aN (a0.1,a0.2)).length:Nat):Int) - 0)+1) (by kernel_rfl) ?_
    exact aSx a0 a1 a2 l0_1 l0_2 l1 hcx n ih (toNat ((((aN (a0.1,a0.2)).length:Nat):Int) - 0)+1) v7 v8 0 (by refine⟨?_,?_,?_,?_,?_,?_,?_,?_,?_,?_,?_,?_,?_⟩<;>(try simp only [Ls])<;>first | omega | assumption | exact hi.2.1 | exact hi.2.2.1 | exact hi.2.2.2.1 | exact hi.2.2.2.2.1 | exact hi.2.2.2.2.2.1 | exact hi.2.2.2.2.2.2.1 | exact hi.2.2.2.2.2.2.2.1 | exact hi.2.2.2.2.2.2.2.2.1 | exact hi.2.2.2.2.2.2.2.2.2.1 | exact hi.2.2.2.2.2.2.2.2.2.2.1 | exact hi.2.2.2.2.2.2.2.2.2.2.2.1 | exact hi.2.2.2.2.2.2.2.2.2.2.2.2.1 | simp) (by(try simp only [Ls]);omega)
   | false =>
    have q0:=cA h0
    have e:=Eq.refl (eD a0 a1 a2 (v7,v8));conv at e=>rhs;simp only [eD,h0,aI]
    rw [aC,e]
    exact rt [.d h0,.c [5] (aQj v7 (by omega))] [] [] hcx (by kernel_rfl)
def gA (a0:Zm)(a1:List (Int))(a2:Int):(Int×Int)×Int :=
 (bif (((fQ (a0.1,a0.2) a1 a2):Int) != 0) then
  ((0,0),(fQ (a0.1,a0.2) a1 a2))
 else
  (aB (eD a0 a1 a2) (toNat ((((aN (a0.1,a0.2)).length:Nat):Int) - 0)+1) (([]:List (Int×Int)),0)))
theorem aZt (a0:Zm)(a1:List (Int))(a2:Int)(l0_1:a0.1.length<=9223372036854775807)(l0_2:a0.2.length<=9223372036854775807)(l1:a1.length<=9223372036854775807):Con Tryz.prog 110 [(.a [(.s 0 0 a0.1.length 3),(.s 1 0 a0.2.length 3)]),(.s 2 0 a1.length 1),(iv a2)] [(.live false true (flat dL a0.1)),(.live false true (flat dW a0.2)),(.live false true (flat c3 a1))] (.t [(.a (k2 (gA a0 a1 a2).1)),(iv (gA a0 a1 a2).2)]) []:=by
 refine aJ Tryz.func110 (by kernel_rfl) fun cx hcx=>?_
 try have hg1:a0.2.length<=96:=(eK h0).2.1
 try have hg2:a1.length=a0.2.length:=(eK h0).2.2
 have hg3:(aN (a0.1,a0.2)).length=a0.2.length:=aSt (a0.1,a0.2)
 let t0:List (St Tryz.prog):=[.c [0,1,2] (aSk (a0.1,a0.2) a1 a2 (by(try simp only [Lt]);omega) (by(try simp only [Lt]);omega) (by omega))]
 cases h0:(((fQ (a0.1,a0.2) a1 a2):Int) != 0) with
 | true =>
  have q0:=bne_iff_ne.1 h0
  try have hg1:a0.2.length<=96:=(eK h0).2.1
  try have hg2:a1.length=a0.2.length:=(eK h0).2.2
  have e:=Eq.refl (gA a0 a1 a2);conv at e=>rhs;simp only [gA,h0,aI]
  rw [e]
  exact rt (t0++[.d h0]) [] [] hcx (by kernel_rfl)
 | false =>
  have q0:=bne_eq_false_iff_eq.1 h0
  try have hg1:a0.2.length<=96:=(eK h0).2.1
  try have hg2:a1.length=a0.2.length:=(eK h0).2.2
  have e:=Eq.refl (gA a0 a1 a2);conv at e=>rhs;simp only [gA,h0,aI]
  rw [e]
  refine en (t0++[.d h0,.c [0,1] (bDe (a0.1,a0.2) (by(try simp only [Lt]);omega) (by(try simp only [Lt]);omega) (eK h0).1 (eK h0).2.1)]) [.slot 10 2] [1,2,6,9,10,11] [4,5,6] hcx vZ (wA) (rX a0 a1 a2 (flat cQ ([]:List (Int×Int))) 0 0) (toNat ((((aN (a0.1,a0.2)).length:Nat):Int) - 0)+1) (by kernel_rfl) ?_
  exact aSy a0 a1 a2 l0_1 l0_2 l1 hcx (toNat ((((aN (a0.1,a0.2)).length:Nat):Int) - 0)+1) ([]:List (Int×Int)) 0 (by refine⟨?_,?_,?_,?_,?_⟩<;>(try simp only [Ls])<;>first | omega | assumption | simp) (by(try simp only [Ls]);omega)
theorem rY {α β R:Type} {g:α->β×Int} {E:Int->R}:∀(l:List α)(t:List β),iZ (fun t c=>bif ((g c).2 != 0) then .inr (E (g c).2) else .inl (t++[(g c).1])) l t=(match nL g l t with | .inl m=>.inl m | .inr e=>.inr (E e))
 | [],t=>rfl
 | c::l,t=>by
   unfold nL
   simp only [iZ]
   by_cases h:(g c).2=0
   · rw [if_pos h,h]
     exact rY l (t++[(g c).1])
   · rw [if_neg h,bne_iff_ne.2 h];rfl
theorem wB {α β γ:Type} {g:α->β×Int} {g':γ->β×Int} {f:γ->α}:∀{k:List γ} {m:List β},(∀c∈k,g (f c)=g' c)->nL g (k.map f) m=nL g' k m
 | [],_,_=>rfl
 | c::k,m,h=>by
   simp only [List.map_cons,nL]
   rw [h c List.mem_cons_self,wB (k:=k) (fun x hx=>h x (List.mem_cons_of_mem _ hx))]
noncomputable def gB (m:ME)(d:Int)(pj:PN):List (Int×Int):=(aU m).map fun p=>(uK p pj d).1
theorem aNr {α β γ:Type} (f:α->γ):∀(l:List α)(k:List β),(l.map f).zip k=(l.zip k).map (fun c=>(f c.1,c.2))
 | [],_=>by simp
 | _::_,[]=>by simp
 | a::l,b::k=>by simp [aNr f l k]
theorem aI6 {a:Int×Int} {n:Int} (ha:okP a)(hn:0<=n/\n<=10000):fZ a n=oA a n:=by
 rw [aGf (aGw ha) (by omega),aU9 (aGw ha) (by omega)]
theorem aZu {m:ME} {q:List Int} {d:Int} (hc:ChOK m q)(hd:0<=d/\d<=2)(out:List (Int×Int))(j:Nat) {pj:PN} (hj:(aU m)[j]? = some pj) :
   aB (cX m q d) (toNat ((((aU m).length:Nat):Int) - 0)+1) (out,[],(j:Int),0) =
     bif ((eA ((gB m d pj).zip q)).2 != 0) then .inr ([],(eA ((gB m d pj).zip q)).2) else .inl (out++[(eA ((gB m d pj).zip q)).1],(j:Int)+1):=by
 have hR:aN (m.1,m.2)=aU m:=aCx m
 have hpl:(aU m).length=m.2.length:=List.length_map _
 have hlen:=hc.len
 have hz:((aU m).zip q).length=(aU m).length:=by rw [List.length_zip];omega
 have hpj:=List.mem_of_getElem? hj
 have hn:=hc.n
 let g:PN×Int->(Int×Int)×Int:=fun c=>oA (uK c.1 pj d).1 c.2
 have key:=aZ (S:=cX m q d) (fun terms i=>(out,terms,(j:Int),i)) (fun t c=>bif ((g c).2 != 0) then .inr (.inr ([],(g c).2)) else .inl (t++[(g c).1]))
   (fun terms=>bif ((cZ terms).2 != 0) then .inr ([],(cZ terms).2) else .inl (out++[(cZ terms).1],(j:Int)+1)) (L:=(aU m).zip q) (v:=[]) (n:=toNat ((((aU m).length:Nat):Int) - 0)+1) (fun _ _=>True) ?_ (fun _ _ _ _ _ _ _=>trivial) ?_ (by omega) trivial
 · refine Eq.trans key ?_
   rw [rY (g:=g) (E:=fun e=>(Sum.inr (([]:List (Int×Int)),e):(List (Int×Int)×Int)⊕(List (Int×Int)×Int))) ((aU m).zip q) []]
   have e:eA ((gB m d pj).zip q)=pR aK3 (fun e=>((0,0),e)) (nL g ((aU m).zip q) []):=by
     unfold eA gB
     rw [aNr,wB (g:=sK) (g':=g) (f:=fun c:PN×Int=>((uK c.1 pj d).1,c.2)) (fun c _=>rfl)]
   rw [e]
   cases hs:nL g ((aU m).zip q) [] with
   | inr r =>
     have:=rN hs
     simp only [aCk,pR]
     rw [bne_iff_ne.2 this];rfl
   | inl t =>
     simp only [aCk,pR]
     obtain⟨e2,h0⟩:=lC hs
     rw [List.nil_append] at e2
     have hS:=aW5 (l:=t) (fun a ha=>by
       rw [e2] at ha
       obtain⟨c,hcm,rfl⟩:=List.mem_map.1 ha
       exact aI1 (h0 c hcm)) (by rw [e2,List.length_map];omega)
     rw [hS]
 · intro i c hi terms _
   obtain⟨h1,h2⟩:=List.getElem?_zip_eq_some.1 hi
   have hlt:=(List.getElem?_eq_some_iff.1 h1).1
   have hcp:=List.mem_of_getElem? h1
   have hcq:=hc.ok _ (List.mem_of_getElem? h2)
   obtain⟨b0,bP⟩:=kN (mH hc.v hd hcp hpj)
   simp only [cX]
   rw [hR,bT (by omega),cond_true,bA h1,bA h2,bA hj,←aKy,b0,aI6 bP (by omega)]
   show(bif ((g c).2 != 0) then _ else _)=_
   cases ((g c).2 != 0)<;>rfl
 · intro terms _
   simp only [cX]
   rw [hR,cJ (by omega),cond_false]
   cases ((cZ terms).2 != 0)<;>rfl
noncomputable def jD (m:ME)(q:List Int)(d:Int):List (Int×Int)×Int:=bif (chD m q d != 0) then([],chD m q d) else pS ((aU m).map (gB m d)) q
theorem sX (m:ME)(q:List Int)(d:Int):aS m q d=jD m q d:=by
 unfold aS jD
 rw [show fQ (m.1,m.2) q d=chD m q d from aSs m q d]
 cases h:(chD m q d != 0) with
 | true=>rfl
 | false =>
   obtain⟨hc,hd⟩:=gO (bne_eq_false_iff_eq.1 h)
   have hR:aN (m.1,m.2)=aU m:=aCx m
   rw [hR,cond_false,cond_false]
   have key:=aZ (S:=dH m q d) (fun out j=>(out,j)) (fun out pj=>bif ((eA ((gB m d pj).zip q)).2 != 0) then .inr ([],(eA ((gB m d pj).zip q)).2) else .inl (out++[(eA ((gB m d pj).zip q)).1])) (fun out=>(out,0)) (L:=aU m) (v:=[]) (n:=toNat ((((aU m).length:Nat):Int) - 0)+1) (fun _ _=>True) ?_ (fun _ _ _ _ _ _ _=>trivial) ?_ (by omega) trivial
   · refine Eq.trans key ?_
     rw [rY (g:=fun pj=>eA ((gB m d pj).zip q)) (E:=fun e=>([],e)) (aU m) []]
     unfold pS
     rw [wB (g:=fun r:List (Int×Int)=>eA (r.zip q)) (g':=fun pj=>eA ((gB m d pj).zip q)) (fun c _=>rfl)]
     cases nL (fun pj=>eA ((gB m d pj).zip q)) (aU m) []<;>rfl
   · intro j pj hj out _
     obtain⟨hlt,hce⟩:=List.getElem?_eq_some_iff.1 hj
     simp only [dH]
     rw [hR,bT (by omega),cond_true,aZu hc hd out j hj]
     cases ((eA ((gB m d pj).zip q)).2 != 0)<;>rfl
   · intro out _
     simp only [dH]
     rw [hR,cJ (by omega),cond_false]
theorem aNs {α β:Type} {g:α->β×Int}:∀{k k':List α} {m:List β},nL g (k++k') m=(match nL g k m with | .inl m'=>nL g k' m' | .inr e=>.inr e)
 | [],_,_=>rfl
 | c::k,k',m=>by
   simp only [List.cons_append,nL]
   by_cases h:(g c).2=0
   · rw [if_pos h,if_pos h];exact aNs
   · rw [if_neg h,if_neg h]
def mapE {γ R:Type} (E:Int->R):List γ⊕Int->List γ⊕R
 | .inl m=>.inl m
 | .inr e=>.inr (E e)
theorem aC2 {α β γ R:Type} {g:β->γ×Int} {cs:α->List β} {E:Int->R}:∀(L:List α)(t:List γ),iZ (fun t c=>mapE E (nL g (cs c) t)) L t=mapE E (nL g (L.flatMap cs) t)
 | [],_=>rfl
 | c::L,t=>by
   rw [List.flatMap_cons,aNs]
   simp only [iZ]
   cases nL g (cs c) t with
   | inl m=>exact aC2 L m
   | inr e=>rfl
theorem aEy {α β γ:Type} (fx:α->List β)(fy:α->List γ)(hl:∀c,(fx c).length=(fy c).length):∀(L:List α)(v:List β×List γ),v.1.length=v.2.length ->
   (L.foldl (fun v c=>(v.1++fx c,v.2++fy c)) v).1.length=(L.foldl (fun v c=>(v.1++fx c,v.2++fy c)) v).2.length /\
   (L.foldl (fun v c=>(v.1++fx c,v.2++fy c)) v).1.zip (L.foldl (fun v c=>(v.1++fx c,v.2++fy c)) v).2=v.1.zip v.2++L.flatMap (fun c=>(fx c).zip (fy c))
 | [],v,h=>⟨h,by simp⟩
 | c::L,v,h=>by
   have ih:=aEy fx fy hl L (v.1++fx c,v.2++fy c) (by simp only [List.length_append];rw [h,hl c])
   rw [List.foldl_cons]
   refine⟨ih.1,ih.2.trans ?_⟩
   simp only [List.flatMap_cons]
   rw [List.zip_append h,List.append_assoc]
theorem aEz {α β γ:Type} (fx:α->List β)(fy:α->List γ)(n:Nat)(hn:∀c,(fx c).length<=n):∀(L:List α)(v:List β×List γ),(L.foldl (fun v c=>(v.1++fx c,v.2++fy c)) v).1.length<=v.1.length+n*L.length
 | [],v=>by simp
 | c::L,v=>by
   have ih:=aEz fx fy n hn L (v.1++fx c,v.2++fy c)
   have:=hn c
   rw [List.foldl_cons,List.length_cons,Nat.mul_succ]
   simp only [List.length_append] at ih
   omega
noncomputable def eC (m:ME)(q:List Int)(d:Int)(c:PN×Int):List ((Int×Int)×Int):=((aU m).zip q).map fun e=>((pU c.1 e.1 d).1,W (c.2*e.2))
noncomputable def eX (m:ME)(q:List Int)(d:Int)(c:PN×Int):List (Int×Int):=((aU m).zip q).map fun e=>(pU c.1 e.1 d).1
noncomputable def eY (m:ME)(q:List Int)(c:PN×Int):List Int:=((aU m).zip q).map fun e=>W (c.2*e.2)
theorem eXY (m:ME)(q:List Int)(d:Int)(c:PN×Int):(eX m q d c).zip (eY m q c)=eC m q d c:=by
 unfold eX eY eC
 generalize (aU m).zip q=L
 induction L with
 | nil=>rfl
 | cons e L ih=>simp only [List.map_cons,List.zip_cons_cons,ih]
theorem aZv {α β γ:Type} (g:α->β)(h:α->γ)(l:List α)(v:List β×List γ):l.foldl (fun v c=>(v.1++[g c],v.2++[h c])) v=(v.1++l.map g,v.2++l.map h):=by
 induction l generalizing v with
 | nil=>simp
 | cons c l ih=>rw [List.foldl_cons,ih];simp
noncomputable def MT (m:ME)(d:Int):TB:=(aU m).map fun q=>(aU m).map fun p=>(pU p q d).1
noncomputable def EnV (m:ME)(q:List Int)(d:Int):(Int×Int)×Int:=bif (chD m q d != 0) then((0,0),chD m q d) else eA (((aU m).zip q).flatMap (eC m q d))
theorem aZw {m:ME} {d:Int} {i j:Nat} {p r:PN} (hi:(aU m)[i]? = some p)(hj:(aU m)[j]? = some r):((MT m d).getD (toNat (j:Int)) default).getD (toNat (i:Int)) default=(pU p r d).1:=by
 have e1:(MT m d)[j]? = some ((aU m).map fun p=>(pU p r d).1):=by unfold MT;rw [List.getElem?_map,hj];rfl
 rw [bA e1]
 have e2:((aU m).map fun p=>(pU p r d).1)[i]? = some (pU p r d).1:=by rw [List.getElem?_map,hi];rfl
 rw [bA e2]
theorem aZx {m:ME} {q:List Int} {d:Int} (hl:(aU m).length=q.length)(xs:List (Int×Int))(ys:List Int)(i:Nat) {c:PN×Int} (hi:((aU m).zip q)[i]? = some c) :
   aB (eU (MT m d) q) (toNat ((q.length:Int) - 0)+1) (xs,ys,(i:Int),c.2,(i:Int),0)=.inl (xs++eX m q d c,ys++eY m q c,(i:Int)+1):=by
 obtain⟨hi1,hi2⟩:=List.getElem?_zip_eq_some.1 hi
 have hz:((aU m).zip q).length=q.length:=by rw [List.length_zip];omega
 have key:=aZ (S:=eU (MT m d) q) (fun(v:List (Int×Int)×List Int) j=>(v.1,v.2,(i:Int),c.2,(i:Int),j)) (fun v e=>.inl (v.1++[(pU c.1 e.1 d).1],v.2++[W (c.2*e.2)])) (fun v=>.inl (v.1,v.2,(i:Int)+1)) (L:=(aU m).zip q) (v:=(xs,ys)) (n:=toNat ((q.length:Int) - 0)+1) (fun _ _=>True) ?_ (fun _ _ _ _ _ _ _=>trivial) ?_ (by omega) trivial
 · refine Eq.trans key ?_
   rw [bI,aZv];rfl
 · intro j e hj v _
   obtain⟨h1,h2⟩:=List.getElem?_zip_eq_some.1 hj
   have hlt:=(List.getElem?_eq_some_iff.1 h2).1
   simp only [eU]
   rw [bT (by omega),cond_true,aZw hi1 h1,bA h2]
   rfl
 · intro v _
   simp only [eU]
   rw [cJ (by omega),cond_false]
theorem aZy {m:ME} {q:List Int} {d:Int} (hl:(aU m).length=q.length)(hm:q.length<=96):cU (MT m d) q=eA (((aU m).zip q).flatMap (eC m q d)):=by
 have hz:((aU m).zip q).length=q.length:=by rw [List.length_zip];omega
 unfold cU
 have key:=aZ (S:=dJ (MT m d) q) (fun(v:List (Int×Int)×List Int) i=>(v.1,v.2,i)) (fun v c=>.inl (v.1++eX m q d c,v.2++eY m q c)) (fun v=>((dC v.1 v.2).1,(dC v.1 v.2).2)) (L:=(aU m).zip q) (v:=([],[])) (n:=toNat ((q.length:Int) - 0)+1) (fun _ _=>True) ?_ (fun _ _ _ _ _ _ _=>trivial) ?_ (by omega) trivial
 · refine Eq.trans key ?_
   rw [bI]
   obtain⟨h1,h2⟩:=aEy (eX m q d) (eY m q) (fun c=>by unfold eX eY;rw [List.length_map,List.length_map]) ((aU m).zip q) ([],[]) rfl
   have h3:=aEz (eX m q d) (eY m q) 96 (fun c=>by unfold eX;rw [List.length_map];omega) ((aU m).zip q) ([],[])
   simp only [List.length_nil] at h3
   simp only [aCk]
   rw [aW9 (by omega) (by omega),h2]
   simp only [eXY,List.zip_nil_left,List.nil_append]
 · intro i c hi v _
   obtain⟨h1,h2⟩:=List.getElem?_zip_eq_some.1 hi
   have hlt:=(List.getElem?_eq_some_iff.1 h2).1
   simp only [dJ]
   rw [bT (by omega),cond_true,bA h2,aZx hl v.1 v.2 i hi]
   rfl
 · intro v _
   simp only [dJ]
   rw [cJ (by omega),cond_false]
theorem bDl {m:ME} {q:List Int} {d:Int} (hc:ChOK m q)(hd:0<=d/\d<=2)(i:Nat) {c:PN×Int} (hi:((aU m).zip q)[i]? = some c)(t:List (Int×Int)) :
   aB (dU m q d) (toNat ((((aU m).length:Nat):Int) - 0)+1) (t,(i:Int),0) =
     (match nL sK (eC m q d c) t with | .inl t'=>.inl (t',(i:Int)+1) | .inr e=>.inr ((0,0),e)):=by
 have hR:aN (m.1,m.2)=aU m:=aCx m
 have hpl:(aU m).length=m.2.length:=List.length_map _
 have hlen:=hc.len
 have hz:((aU m).zip q).length=(aU m).length:=by rw [List.length_zip];omega
 obtain⟨hi1,hi2⟩:=List.getElem?_zip_eq_some.1 hi
 have hip:=List.mem_of_getElem? hi1
 have hiq:=hc.ok _ (List.mem_of_getElem? hi2)
 let g:PN×Int->(Int×Int)×Int:=fun e=>oA (pU c.1 e.1 d).1 (W (c.2*e.2))
 have key:=aZ (S:=dU m q d) (fun t j=>(t,(i:Int),j)) (fun t e=>bif ((g e).2 != 0) then .inr (.inr ((0,0),(g e).2)) else .inl (t++[(g e).1]))
   (fun t=>.inl (t,(i:Int)+1)) (L:=(aU m).zip q) (v:=t) (n:=toNat ((((aU m).length:Nat):Int) - 0)+1) (fun _ _=>True) ?_ (fun _ _ _ _ _ _ _=>trivial) ?_ (by omega) trivial
 · refine Eq.trans key ?_
   rw [rY (g:=g) (E:=fun e=>(Sum.inr ((0,0),e):(List (Int×Int)×Int)⊕((Int×Int)×Int))) ((aU m).zip q) t]
   have e:nL sK (eC m q d c) t=nL g ((aU m).zip q) t:=by
     unfold eC
     rw [wB (g:=sK) (g':=g) (f:=fun e:PN×Int=>((pU c.1 e.1 d).1,W (c.2*e.2))) (fun c _=>rfl)]
   rw [e]
   cases nL g ((aU m).zip q) t<;>rfl
 · intro j e hj t _
   obtain⟨h1,h2⟩:=List.getElem?_zip_eq_some.1 hj
   have hlt:=(List.getElem?_eq_some_iff.1 h1).1
   have hcp:=List.mem_of_getElem? h1
   have hcq:=hc.ok _ (List.mem_of_getElem? h2)
   obtain⟨b0,bP⟩:=pC (mH hc.v hd hip hcp)
   have hM:lB c.1 e.1 d=pU c.1 e.1 d:=by rw [aCi,aRf]
   have p0:0<=c.2*e.2:=Int.mul_nonneg hiq.1 hcq.1
   have p1:c.2*e.2<=100*100:=Int.mul_le_mul hiq.2 hcq.2 hcq.1 (by omega)
   have hW:W (c.2*e.2)=c.2*e.2:=aE (by omega) (by omega)
   simp only [dU]
   rw [hR,bT (by omega),cond_true,bA h1,bA h2,bA hi1,bA hi2,hM,b0,aI6 bP (by omega)]
   show(bif ((g e).2 != 0) then _ else _)=_
   cases ((g e).2 != 0)<;>rfl
 · intro t _
   simp only [dU]
   rw [hR,cJ (by omega),cond_false]
theorem bDm (m:ME)(q:List Int)(d:Int):gA m q d=EnV m q d:=by
 unfold gA EnV
 rw [show fQ (m.1,m.2) q d=chD m q d from aSs m q d]
 cases h:(chD m q d != 0) with
 | true=>rfl
 | false =>
   obtain⟨hc,hd⟩:=gO (bne_eq_false_iff_eq.1 h)
   have hn:=hc.n;have hlen:=hc.len
   have hR:aN (m.1,m.2)=aU m:=aCx m
   have hpl:(aU m).length=m.2.length:=List.length_map _
   have hz:((aU m).zip q).length=(aU m).length:=by rw [List.length_zip];omega
   rw [hR,cond_false,cond_false]
   have key:=aZ (S:=eD m q d) (fun t i=>(t,i)) (fun t c=>mapE (fun e=>(((0,0):Int×Int),e)) (nL sK (eC m q d c) t)) (fun t=>((cZ t).1,(cZ t).2)) (L:=(aU m).zip q) (v:=[]) (n:=toNat ((((aU m).length:Nat):Int) - 0)+1) (fun _ _=>True) ?_ (fun _ _ _ _ _ _ _=>trivial) ?_ (by omega) trivial
   · refine Eq.trans key ?_
     rw [aC2]
     unfold eA
     have hfl:(((aU m).zip q).flatMap (eC m q d)).length<=9216:=by
       have:∀L:List (PN×Int),(L.flatMap (eC m q d)).length<=96*L.length:=by
         intro L
         induction L with
         | nil=>simp
         | cons c L ih =>
           have:(eC m q d c).length<=96:=by unfold eC;rw [List.length_map];omega
           rw [List.flatMap_cons,List.length_append,List.length_cons];omega
       have:=this ((aU m).zip q)
       omega
     cases hs:nL sK (((aU m).zip q).flatMap (eC m q d)) [] with
     | inr r=>rfl
     | inl t =>
       obtain⟨hv,hm⟩:=aNo hs hfl
       simp only [mapE,aCk,pR]
       rw [aW5 hv hm]
   · intro i c hi t _
     obtain⟨h1,h2⟩:=List.getElem?_zip_eq_some.1 hi
     have hlt:=(List.getElem?_eq_some_iff.1 h1).1
     simp only [eD]
     rw [hR,bT (by omega),cond_true,bDl hc hd i hi t]
     cases nL sK (eC m q d c) t<;>rfl
   · intro t _
     simp only [eD]
     rw [hR,cJ (by omega),cond_false]
theorem aLs {l:List (Int×Int)} (h:∀s∈l,1<=s.2)(j:Int):(0<=j/\j < (l.length:Int))->1<=(l.getD (toNat j) default).2:=fun g=>by
 have hlt:toNat j < l.length:=by omega
 rw [eZ,List.getElem?_eq_getElem hlt,Option.getD_some]
 exact h _ (List.getElem_mem hlt)
theorem aLt {l:List (Int×Int)} (h:∀s∈l,1<=s.1)(j:Int):(0<=j/\j < (l.length:Int))->1<=(l.getD (toNat j) default).1:=fun g=>by
 have hlt:toNat j < l.length:=by omega
 rw [eZ,List.getElem?_eq_getElem hlt,Option.getD_some]
 exact h _ (List.getElem_mem hlt)
theorem aVu {l:List (Int×Int)} (h:∀s∈l,1<=s.2)(hl:1<=l.length):1<=(l.getD 0 default).2:=aLs h 0 (by omega)
theorem pG {l:List (Int×Int)} (h:∀s∈l,1<=s.1)(hl:1<=l.length):1<=(l.getD 0 default).1:=aLt h 0 (by omega)
theorem pH (a b:Int):a<=iI a b/\b<=iI a b/\(iI a b=a\/iI a b=b):=by unfold iI;split<;>omega
theorem uB (a b:Int):nU a b<=a/\nU a b<=b/\(nU a b=a\/nU a b=b):=by unfold nU;split<;>omega
def F99 (a0:Int)(a1:Int):Int :=
 (W (Int.tdiv (W ((W (a0+a1)) - 1)) a1))
theorem C99 (a0:Int)(a1:Int)(hd:a1≠0):Con Tryz.prog 99 [(iv a0),(iv a1)] [] (iv (F99 a0 a1)) []:=by
 refine aJ Tryz.func99 (by kernel_rfl) fun cx hcx=>?_
 have e:=Eq.refl (F99 a0 a1);conv at e=>rhs;simp only [F99]
 rw [e]
 exact rt [.p (show(a1:Int)≠0 from by first | omega | (rw [aE]<;>omega) | exact eE _)] [] [] hcx (by kernel_rfl)
noncomputable def yI:Code:=(aD [1,1,0,1] [] (aG Tryz.f64) []).1
noncomputable def yJ:List K:=(aD [1,1,0,1] [] (aG Tryz.f64) []).2
def uC (a0:List (Int×Int))(a1:List (Int))(v1 v2:Int):LS:=⟨iH 31 [(1,(.s 1 0 a1.length 1)),(6,(iv v1)),(13,(.s 0 0 a0.length 2)),(14,(iv (a0.length:Int))),(15,(iv v2))],[(.live false true (flat cQ a0)),(.live false true (flat c3 a1))]⟩
def gE (a0:List (Int×Int))(a1:List (Int)):Int×Int->(Int×Int)⊕(Int×Int)
 | (v1,v2) =>
  (bif (decide ((v2:Int) < (a0.length:Int))) then
   (.inl ((iI v1 (a0.getD (toNat v2) default).2),(v2+1)))
  else
   (.inr ((F97 (W (Int.tdiv (cO a1) v1))).1,(F97 (W (Int.tdiv (cO a1) v1))).2)))
theorem aO7 (a0:List (Int×Int))(a1:List (Int))(l0:a0.length<=9223372036854775807)(l1:a1.length<=9223372036854775807)(hl:1<=a0.length)(hp:∀s∈a0,1<=s.2) {cx:Cx} (hcx:cx.base=2):∀(n:Nat)(v1 v2:Int),(0<=v2)/\(1<=v1)->toNat ((a0.length:Int) - v2) < n->Aw.Good Tryz.prog none 9 (bodyPost Tryz.prog Tryz.f64 (RR cx (.t (k2 (aB (gE a0 a1) n (v1,v2)))) [] [])) cx [] (.l yI n::yJ) (uC a0 a1 v1 v2):=by
 intro n
 induction n with
 | zero=>intro v1 v2 hi hn;exact absurd hn (gP _)
 | succ n ih =>
   intro v1 v2 hi hn
   refine aH ?_
   have hps:=aLs hp v2
   have hmx:=pH v1 (a0.getD (toNat v2) default).2
   cases h0:(decide ((v2:Int) < (a0.length:Int))) with
   | true =>
    have q0:=bO h0
    have e:=Eq.refl (gE a0 a1 (v1,v2));conv at e=>rhs;simp only [gE,h0,aI]
    rw [aA e]
    refine ba [.d h0,.i v2 (a0.length),.L cC a0 v2 0 2] [] [1,6,13,14,15] [] hcx (m:=n) yI (yJ) (uC a0 a1 (iI v1 (a0.getD (toNat v2) default).2) (W (v2+1))) (by kernel_rfl) ?_
    have z0:(W (v2+1))=(v2+1):=aE (by omega) (by omega)
    rw [z0]
    exact ih (iI v1 (a0.getD (toNat v2) default).2) (v2+1) (by refine⟨?_,?_⟩<;>(try simp only [Ls])<;>first | omega | assumption | simp) (by(try simp only [Ls]);omega)
   | false =>
    have q0:=cA h0
    have e:=Eq.refl (gE a0 a1 (v1,v2));conv at e=>rhs;simp only [gE,h0,aI]
    rw [aC,e]
    exact rt [.d h0,.c [1] (aSb a1 (by omega)),.p (show(v1:Int)≠0 from by first | omega | (rw [aE]<;>omega) | exact eE _),.c [] (C97 (W (Int.tdiv (cO a1) v1)))] [] [] hcx (by kernel_rfl)
def iA (a0:List (Int×Int))(a1:List (Int)):Int×Int :=
 (aB (gE a0 a1) (toNat ((a0.length:Int) - 0)+1) ((a0.getD (toNat 0) default).2,0))
theorem aVv (a0:List (Int×Int))(a1:List (Int))(l0:a0.length<=9223372036854775807)(l1:a1.length<=9223372036854775807)(hl:1<=a0.length)(hp:∀s∈a0,1<=s.2):Con Tryz.prog 64 [(.s 0 0 a0.length 2),(.s 1 0 a1.length 1)] [(.live false true (flat cQ a0)),(.live false true (flat c3 a1))] (.t (k2 (iA a0 a1))) []:=by
 refine aJ Tryz.func64 (by kernel_rfl) fun cx hcx=>?_
 have hp0:=aVu hp hl
 have e:=Eq.refl (iA a0 a1);conv at e=>rhs;simp only [iA]
 rw [e]
 refine en [.i 0 (a0.length),.L cC a0 0 1 1] [] [1,6,13,14,15] [] hcx yI (yJ) (uC a0 a1 ((a0.getD (toNat 0) default).2) 0) (toNat ((a0.length:Int) - 0)+1) (by kernel_rfl) ?_
 exact aO7 a0 a1 l0 l1 hl hp hcx (toNat ((a0.length:Int) - 0)+1) ((a0.getD (toNat 0) default).2) 0 (by refine⟨?_,?_⟩<;>(try simp only [Ls])<;>first | omega | assumption | simp) (by(try simp only [Ls]);omega)
noncomputable def yK:Code:=(aD [1,1,0,1] [] (aG Tryz.f67) []).1
noncomputable def yL:List K:=(aD [1,1,0,1] [] (aG Tryz.f67) []).2
def uD (a0:List (Int×Int))(a1:List (Int))(v1 v2:Int):LS:=⟨iH 31 [(1,(.s 1 0 a1.length 1)),(6,(iv v1)),(13,(.s 0 0 a0.length 2)),(14,(iv (a0.length:Int))),(15,(iv v2))],[(.live false true (flat cQ a0)),(.live false true (flat c3 a1))]⟩
def gF (a0:List (Int×Int))(a1:List (Int)):Int×Int->(Int×Int)⊕(Int×Int)
 | (v1,v2) =>
  (bif (decide ((v2:Int) < (a0.length:Int))) then
   (.inl ((nU v1 (a0.getD (toNat v2) default).1),(v2+1)))
  else
   (.inr ((F97 (F99 (cO a1) v1)).1,(F97 (F99 (cO a1) v1)).2)))
theorem aO8 (a0:List (Int×Int))(a1:List (Int))(l0:a0.length<=9223372036854775807)(l1:a1.length<=9223372036854775807)(hl:1<=a0.length)(hp:∀s∈a0,1<=s.1) {cx:Cx} (hcx:cx.base=2):∀(n:Nat)(v1 v2:Int),(0<=v2)/\(1<=v1)->toNat ((a0.length:Int) - v2) < n->Aw.Good Tryz.prog none 9 (bodyPost Tryz.prog Tryz.f67 (RR cx (.t (k2 (aB (gF a0 a1) n (v1,v2)))) [] [])) cx [] (.l yK n::yL) (uD a0 a1 v1 v2):=by
 intro n
 induction n with
 | zero=>intro v1 v2 hi hn;exact absurd hn (gP _)
 | succ n ih =>
   intro v1 v2 hi hn
   refine aH ?_
   have hps:=aLt hp v2
   have hmx:=uB v1 (a0.getD (toNat v2) default).1
   cases h0:(decide ((v2:Int) < (a0.length:Int))) with
   | true =>
    have q0:=bO h0
    have e:=Eq.refl (gF a0 a1 (v1,v2));conv at e=>rhs;simp only [gF,h0,aI]
    rw [aA e]
    refine ba [.d h0,.i v2 (a0.length),.L cC a0 v2 0 2] [] [1,6,13,14,15] [] hcx (m:=n) yK (yL) (uD a0 a1 (nU v1 (a0.getD (toNat v2) default).1) (W (v2+1))) (by kernel_rfl) ?_
    have z0:(W (v2+1))=(v2+1):=aE (by omega) (by omega)
    rw [z0]
    exact ih (nU v1 (a0.getD (toNat v2) default).1) (v2+1) (by refine⟨?_,?_⟩<;>(try simp only [Ls])<;>first | omega | assumption | simp) (by(try simp only [Ls]);omega)
   | false =>
    have q0:=cA h0
    have e:=Eq.refl (gF a0 a1 (v1,v2));conv at e=>rhs;simp only [gF,h0,aI]
    rw [aC,e]
    exact rt [.d h0,.c [1] (aSb a1 (by omega)),.c [] (C99 (cO a1) v1  (by omega)),.c [] (C97 (F99 (cO a1) v1))] [] [] hcx (by kernel_rfl)
def iF (a0:List (Int×Int))(a1:List (Int)):Int×Int :=
 (aB (gF a0 a1) (toNat ((a0.length:Int) - 0)+1) ((a0.getD (toNat 0) default).1,0))
theorem aVw (a0:List (Int×Int))(a1:List (Int))(l0:a0.length<=9223372036854775807)(l1:a1.length<=9223372036854775807)(hl:1<=a0.length)(hp:∀s∈a0,1<=s.1):Con Tryz.prog 67 [(.s 0 0 a0.length 2),(.s 1 0 a1.length 1)] [(.live false true (flat cQ a0)),(.live false true (flat c3 a1))] (.t (k2 (iF a0 a1))) []:=by
 refine aJ Tryz.func67 (by kernel_rfl) fun cx hcx=>?_
 have hp0:=pG hp hl
 have e:=Eq.refl (iF a0 a1);conv at e=>rhs;simp only [iF]
 rw [e]
 refine en [.i 0 (a0.length),.L cC a0 0 0 1] [] [1,6,13,14,15] [] hcx yK (yL) (uD a0 a1 ((a0.getD (toNat 0) default).1) 0) (toNat ((a0.length:Int) - 0)+1) (by kernel_rfl) ?_
 exact aO8 a0 a1 l0 l1 hl hp hcx (toNat ((a0.length:Int) - 0)+1) ((a0.getD (toNat 0) default).1) 0 (by refine⟨?_,?_⟩<;>(try simp only [Ls])<;>first | omega | assumption | simp) (by(try simp only [Ls]);omega)
def pN (a0:Int×Int)(a1:List (Int)):Int×Int :=
 ((F97 (W (Int.tdiv (cO a1) (F99 a0.2 (W (Int.tdiv (W (Int.tdiv (cO a1) 1048576)) 1048576)))))).1,(F97 (W (Int.tdiv (cO a1) (F99 a0.2 (W (Int.tdiv (W (Int.tdiv (cO a1) 1048576)) 1048576)))))).2)
theorem bDn (a0:Int×Int)(a1:List (Int))(l1:a1.length<=9223372036854775807)(hq:W (Int.tdiv (W (Int.tdiv (cO a1) 1048576)) 1048576)≠0)(hw:F99 a0.2 (W (Int.tdiv (W (Int.tdiv (cO a1) 1048576)) 1048576))≠0):Con Tryz.prog 66 [(.a [(iv a0.1),(iv a0.2)]),(.s 0 0 a1.length 1)] [(.live false true (flat c3 a1))] (.t (k2 (pN a0 a1))) []:=by
 refine aJ Tryz.func66 (by kernel_rfl) fun cx hcx=>?_
 have e:=Eq.refl (pN a0 a1);conv at e=>rhs;simp only [pN]
 rw [e]
 exact rt [.c [0] (aSb a1 (by omega)),.p (show(1048576:Int)≠0 from by decide),.p (show(1048576:Int)≠0 from by decide),.c [] (C99 a0.2 (W (Int.tdiv (W (Int.tdiv (cO a1) 1048576)) 1048576))  hq),.p (show((F99 a0.2 (W (Int.tdiv (W (Int.tdiv (cO a1) 1048576)) 1048576))):Int)≠0 from by first | omega | (rw [aE]<;>omega) | exact eE _),.c [] (C97 (W (Int.tdiv (cO a1) (F99 a0.2 (W (Int.tdiv (W (Int.tdiv (cO a1) 1048576)) 1048576))))))] [] [] hcx (by kernel_rfl)
theorem aE0 {m:ME} {q:List Int} {d:Int} (h:(((jD m q d).2:Int) != 0)=false):1<=(jD m q d).1.length/\(∀s∈(jD m q d).1,1<=s.1)/\(∀s∈(jD m q d).1,1<=s.2):=by
 unfold jD at h ⊢
 cases hc:(chD m q d != 0) with
 | true=>rw [hc,cond_true] at h;rw [hc] at h;exact absurd h (by decide)
 | false =>
   rw [hc,cond_false] at h
   rw [cond_false]
   obtain⟨hC,hd⟩:=gO (bne_eq_false_iff_eq.1 hc)
   have hn:=hC.n;have hl:=hC.len;have hs:=hC.pos
   have hpl:(aU m).length=m.2.length:=List.length_map _
   have hp:=aGx (T:=(aU m).map (gB m d)) (q:=q) (fun r hr=>by
     obtain⟨p,hp,rfl⟩:=List.mem_map.1 hr
     unfold gB
     refine⟨by rw [List.length_map];omega,fun s hsm=>?_⟩
     obtain⟨p',hp',rfl⟩:=List.mem_map.1 hsm
     exact(kN (mH hC.v hd hp' hp)).2) hC.ok (bne_eq_false_iff_eq.1 h)
   refine⟨by rw [hp.1,List.length_map];omega,fun s hs'=>?_,fun s hs'=>?_⟩
   · have:=hp.2 s hs';omega
   · have:=hp.2 s hs';omega
theorem aSz {a:Int} (ha:0<=a/\a<=100):∀L:List (PN×Int),(∀e∈L,0<=e.2/\e.2<=100)->(L.map fun e=>W (a*e.2)).sum=a*(L.map (·.2)).sum
 | [],_=>by simp
 | e::L,h=>by
   have he:=h e List.mem_cons_self
   have ih:=aSz ha L (fun x hx=>h x (List.mem_cons_of_mem _ hx))
   have p0:0<=a*e.2:=Int.mul_nonneg ha.1 he.1
   have p1:a*e.2<=100*100:=Int.mul_le_mul ha.2 he.2 he.1 (by omega)
   simp only [List.map_cons,List.sum_cons]
   rw [ih,aE (by omega) (by omega),Int.mul_add]
theorem aS0 {m:ME} {q:List Int} {d:Int} (hq:∀e∈(aU m).zip q,0<=e.2/\e.2<=100):∀L:List (PN×Int),(∀e∈L,0<=e.2/\e.2<=100)->((L.flatMap (eC m q d)).map (·.2)).sum=(L.map (·.2)).sum*(((aU m).zip q).map (·.2)).sum
 | [],_=>by simp
 | c::L,h=>by
   have ih:=aS0 (d:=d) hq L (fun x hx=>h x (List.mem_cons_of_mem _ hx))
   have e:((eC m q d c).map (·.2)).sum=c.2*(((aU m).zip q).map (·.2)).sum:=by
     rw [←aSz (h c List.mem_cons_self) _ hq]
     unfold eC
     rw [List.map_map];rfl
   rw [List.flatMap_cons,List.map_append,List.sum_append,ih,e]
   simp only [List.map_cons,List.sum_cons]
   rw [Int.add_mul]
theorem aLu {m:ME} {q:List Int} {d:Int} (hC:ChOK m q)(hd:0<=d/\d<=2)(h:(eA (((aU m).zip q).flatMap (eC m q d))).2=0):1<=(eA (((aU m).zip q).flatMap (eC m q d))).1.2/\vs (eA (((aU m).zip q).flatMap (eC m q d))).1:=by
 have hn:=hC.n;have hl:=hC.len;have hs:=hC.pos
 have hpl:(aU m).length=m.2.length:=List.length_map _
 have hz:∀e∈(aU m).zip q,0<=e.2/\e.2<=100:=fun e he=>hC.ok _ (List.of_mem_zip he).2
 have hm:((aU m).zip q).map (·.2)=q:=List.map_snd_zip (by omega)
 have hp:=aNp (l:=((aU m).zip q).flatMap (eC m q d)) (fun c hc=>by
   obtain⟨b,hb,hcb⟩:=List.mem_flatMap.1 hc
   unfold eC at hcb
   obtain⟨e,he,rfl⟩:=List.mem_map.1 hcb
   have h1:=hz b hb;have h2:=hz e he
   have p0:0<=b.2*e.2:=Int.mul_nonneg h1.1 h2.1
   have p1:b.2*e.2<=100*100:=Int.mul_le_mul h1.2 h2.2 h2.1 (by omega)
   refine⟨(pC (mH hC.v hd (List.of_mem_zip hb).1 (List.of_mem_zip he).1)).2,?_⟩
   simp only
   rw [aE (by omega) (by omega)];omega) h
 rw [aS0 hz _ hz,hm] at hp
 have:1*1<=q.sum*q.sum:=Int.mul_le_mul hs hs (by omega) (by omega)
 exact⟨by omega,hp.2.2⟩
theorem aS1 {q:List Int} (hq:okC q)(h1:1<=q.sum)(hl:q.length<=96):cO q=q.sum*1099511627776/\q.sum<=9600:=by
 obtain⟨e,h2,h3⟩:=aAo q 0 hq (by omega) (by omega)
 rw [aW8,e]
 refine⟨?_,by omega⟩
 rw [aE (by rw [aE (by omega) (by omega)];omega) (by rw [aE (by omega) (by omega)];omega),aE (by omega) (by omega)]
 omega
theorem aC3 {q:List Int} (hq:okC q)(h1:1<=q.sum)(hl:q.length<=96):W (Int.tdiv (W (Int.tdiv (cO q) 1048576)) 1048576)=q.sum:=by
 obtain⟨e,h2⟩:=aS1 hq h1 hl
 have e1:Int.tdiv (q.sum*1099511627776) 1048576=q.sum*1048576:=by
   rw [show q.sum*1099511627776=(q.sum*1048576)*1048576 from by omega,Int.mul_tdiv_cancel _ (by decide)]
 rw [e,e1,aE (n:=q.sum*1048576) (by omega) (by omega),Int.mul_tdiv_cancel _ (by decide),aE (by omega) (by omega)]
theorem aGy {a n:Int} (ha:1<=a/\a<=2305843009213693951)(hn:1<=n/\n<=2305843009213693951):1<=F99 a n/\F99 a n=(a+n - 1).tdiv n:=by
 unfold F99
 rw [aE (n:=a+n) (by omega) (by omega),aE (n:=a+n - 1) (by omega) (by omega)]
 have h0:0<=a+n - 1:=by omega
 have e:(a+n - 1).tdiv n=(a+n - 1) / n:=Int.tdiv_eq_ediv_of_nonneg h0
 have h1:1<=(a+n - 1) / n:=by
   refine(Int.le_ediv_iff_mul_le (by omega)).2 ?_
   omega
 have h2:(a+n - 1) / n<=a+n - 1:=Int.ediv_le_self _ h0
 rw [e,aE (by omega) (by omega)]
 exact⟨h1,rfl⟩
theorem aS2 {m:ME} {q:List Int} {d:Int} (h:(((EnV m q d).2:Int) != 0)=false):W (Int.tdiv (W (Int.tdiv (cO q) 1048576)) 1048576)≠0/\F99 (EnV m q d).1.2 (W (Int.tdiv (W (Int.tdiv (cO q) 1048576)) 1048576))≠0:=by
 unfold EnV at h ⊢
 cases hc:(chD m q d != 0) with
 | true=>rw [hc,cond_true] at h;rw [hc] at h;exact absurd h (by decide)
 | false =>
   rw [hc,cond_false] at h
   rw [cond_false]
   obtain⟨hC,hd⟩:=gO (bne_eq_false_iff_eq.1 hc)
   have hn:=hC.n;have hl:=hC.len;have hs:=hC.pos;have hle:=hC.le
   obtain⟨hp,hv⟩:=aLu hC hd (bne_eq_false_iff_eq.1 h)
   rw [aC3 hC.ok hC.pos (by omega)]
   unfold vs at hv
   have:=(aGy (a:=(eA (((aU m).zip q).flatMap (eC m q d))).1.2) (n:=q.sum) (by omega) (by omega)).1
   exact⟨by omega,by omega⟩
theorem aVx (m:ME)(q:List Int)(d:Int):(jD m q d).1.length<=96:=by
 unfold jD
 cases hc:(chD m q d != 0) with
 | true=>simp
 | false =>
   rw [cond_false]
   obtain⟨hC,hd⟩:=gO (bne_eq_false_iff_eq.1 hc)
   have hn:=hC.n
   have hpl:(aU m).length=m.2.length:=List.length_map _
   unfold pS
   cases hs:nL (fun r:List (Int×Int)=>eA (r.zip q)) ((aU m).map (gB m d)) [] with
   | inr r=>simp [pR]
   | inl l =>
     obtain⟨e,_⟩:=lC hs
     simp only [pR]
     rw [e,List.nil_append,List.length_map,List.length_map];omega
end Go.Proofs.YtaeagjnpobdglaaGreat
