/-
  Parts of the proofs of the laws: the executor, what functions of the program compute, and that it is what the statements ask. No premise.
-/
import Derived.Test.YtcmdknehplnpfaaGreatVPhi5
import Derived.Recover
set_option linter.unusedVariables false
set_option linter.unusedSimpArgs false
set_option maxHeartbeats 4000000
open Int renaming toNat → tN
open Inhabited renaming default → dF
namespace Go.Proofs.YtcmdknehplnpfaaGreat
open Go.Proofs Go.Aw Go.RowKit
set_option maxRecDepth 100000
theorem aIq {l:List (Int×Int)} (h:∀s∈l,1<=s.2)(j:Int):(0<=j/\j < (l.length:Int))->1<=(l.getD (tN j) dF).2:=fun g=>by
 have hlt:tN j < l.length:=by omega
 rw [eU,List.getElem?_eq_getElem hlt,Option.getD_some]
 exact h _ (List.getElem_mem hlt)
theorem aIr {l:List (Int×Int)} (h:∀s∈l,1<=s.1)(j:Int):(0<=j/\j < (l.length:Int))->1<=(l.getD (tN j) dF).1:=fun g=>by
 have hlt:tN j < l.length:=by omega
 rw [eU,List.getElem?_eq_getElem hlt,Option.getD_some]
 exact h _ (List.getElem_mem hlt)
theorem aRe {l:List (Int×Int)} (h:∀s∈l,1<=s.2)(hl:1<=l.length):1<=(l.getD 0 dF).2:=aIq h 0 (by omega)
theorem nN {l:List (Int×Int)} (h:∀s∈l,1<=s.1)(hl:1<=l.length):1<=(l.getD 0 dF).1:=aIr h 0 (by omega)
theorem nO (a b:Int):a<=fV a b/\b<=fV a b/\(fV a b=a\/fV a b=b):=by unfold fV;split<;>omega
theorem vY (a b:Int):nS a b<=a/\nS a b<=b/\(nS a b=a\/nS a b=b):=by unfold nS;split<;>omega
def kX (a0:Int)(a1:Int):Int :=
 (W (Int.tdiv (W ((W (a0+a1)) - 1)) a1))
theorem aX7 (a0:Int)(a1:Int)(hd:a1≠0):Con Tryz.prog 110 [(iv a0),(iv a1)] [] (iv (kX a0 a1)) []:=by
 refine aK Tryz.func110 (by kernel_rfl) fun cx hcx=>?_
 have e:=Eq.refl (kX a0 a1);conv at e=>rhs;simp only [kX]
 rw [e]
 exact rt [.p (show(a1:Int)≠0 from by first | omega | (rw [aF]<;>omega) | exact dM _)] [] [] hcx (by kernel_rfl)
noncomputable def vZ:Code:=(aC [1,1,0,1] [] (aG Tryz.f69) []).1
noncomputable def wA:List K:=(aC [1,1,0,1] [] (aG Tryz.f69) []).2
def sD (a0:List (Int×Int))(a1:List Int)(v1 v2:Int):LS:=⟨fU 31 [(1,(.s 1 0 a1.length 1)),(6,(iv v1)),(13,(.s 0 0 a0.length 2)),(14,(iv (a0.length:Int))),(15,(iv v2))],[(.live false true (flat cM a0)),(.live false true (flat c3 a1))]⟩
def fR (a0:List (Int×Int))(a1:List Int):Int×Int->(Int×Int)⊕(Int×Int)
 | (v1,v2) =>
  (bif (decide ((v2:Int) < (a0.length:Int))) then
   (.inl ((fV v1 (a0.getD (tN v2) dF).2),(v2+1)))
  else
   (.inr ((pA (W (Int.tdiv (bO a1) v1))).1,(pA (W (Int.tdiv (bO a1) v1))).2)))
theorem aLj (a0:List (Int×Int))(a1:List Int)(l0:a0.length<=2^63-1)(l1:a1.length<=2^63-1)(hl:1<=a0.length)(hp:∀s∈a0,1<=s.2) {cx:Cx} (hcx:cx.base=2):∀(n:Nat) (v1 v2:Int),(0<=v2)/\(1<=v1)->tN ((a0.length:Int) - v2) < n->Aw.Good Tryz.prog none 9 (bodyPost Tryz.prog Tryz.f69 (RR cx (.t (k2 (aB (fR a0 a1) n (v1,v2)))) [] [])) cx [] (.l vZ n::wA) (sD a0 a1 v1 v2):=by
 intro n
 induction n with
 | zero=>intro v1 v2 hi hn;exact absurd hn (fZ _)
 | succ n ih =>
  intro v1 v2 hi hn
  refine aH ?_
  have hps:=aIq hp v2
  have hmx:=nO v1 (a0.getD (tN v2) dF).2
  cases h0:(decide ((v2:Int) < (a0.length:Int))) with
  | true =>
   have q0:=bS h0
   have e:=Eq.refl (fR a0 a1 (v1,v2));conv at e=>rhs;simp only [fR,h0,aJ]
   rw [aA e]
   refine ba [.d h0,.i v2 (a0.length),.L bW a0 v2 0 2] [] [1,6,13,14,15] [] hcx (m:=n) vZ (wA) (sD a0 a1 (fV v1 (a0.getD (tN v2) dF).2) (W (v2+1))) (by kernel_rfl) ?_
   have z0:(W (v2+1))=(v2+1):=aF (by omega) (by omega)
   rw [z0]
   exact ih (fV v1 (a0.getD (tN v2) dF).2) (v2+1) (by refine⟨?_,?_⟩<;>(try simp only [Ls])<;>first | omega | assumption | simp) (by(try simp only [Ls]);omega)
  | false =>
   have q0:=cE h0
   have e:=Eq.refl (fR a0 a1 (v1,v2));conv at e=>rhs;simp only [fR,h0,aJ]
   rw [aD,e]
   exact rt [.d h0,.c [1] (aIf a1 (by omega)),.p (show(v1:Int)≠0 from by first | omega | (rw [aF]<;>omega) | exact dM _),.c [] (aUp (W (Int.tdiv (bO a1) v1)))] [] [] hcx (by kernel_rfl)
def iA (a0:List (Int×Int))(a1:List Int):Int×Int :=
 (aB (fR a0 a1) (tN ((a0.length:Int) - 0)+1) ((a0.getD (tN 0) dF).2,0))
theorem aRf (a0:List (Int×Int))(a1:List Int)(l0:a0.length<=2^63-1)(l1:a1.length<=2^63-1)(hl:1<=a0.length)(hp:∀s∈a0,1<=s.2):Con Tryz.prog 69 [(.s 0 0 a0.length 2),(.s 1 0 a1.length 1)] [(.live false true (flat cM a0)),(.live false true (flat c3 a1))] (.t (k2 (iA a0 a1))) []:=by
 refine aK Tryz.func69 (by kernel_rfl) fun cx hcx=>?_
 have hp0:=aRe hp hl
 have e:=Eq.refl (iA a0 a1);conv at e=>rhs;simp only [iA]
 rw [e]
 refine en [.i 0 (a0.length),.L bW a0 0 1 1] [] [1,6,13,14,15] [] hcx vZ (wA) (sD a0 a1 ((a0.getD (tN 0) dF).2) 0) (tN ((a0.length:Int) - 0)+1) (by kernel_rfl) ?_
 exact aLj a0 a1 l0 l1 hl hp hcx (tN ((a0.length:Int) - 0)+1) ((a0.getD (tN 0) dF).2) 0 (by refine⟨?_,?_⟩<;>(try simp only [Ls])<;>first | omega | assumption | simp) (by(try simp only [Ls]);omega)
noncomputable def wB:Code:=(aC [1,1,0,1] [] (aG Tryz.f72) []).1
noncomputable def wC:List K:=(aC [1,1,0,1] [] (aG Tryz.f72) []).2
def sE (a0:List (Int×Int))(a1:List Int)(v1 v2:Int):LS:=⟨fU 31 [(1,(.s 1 0 a1.length 1)),(6,(iv v1)),(13,(.s 0 0 a0.length 2)),(14,(iv (a0.length:Int))),(15,(iv v2))],[(.live false true (flat cM a0)),(.live false true (flat c3 a1))]⟩
def fS (a0:List (Int×Int))(a1:List Int):Int×Int->(Int×Int)⊕(Int×Int)
 | (v1,v2) =>
  (bif (decide ((v2:Int) < (a0.length:Int))) then
   (.inl ((nS v1 (a0.getD (tN v2) dF).1),(v2+1)))
  else
   (.inr ((pA (kX (bO a1) v1)).1,(pA (kX (bO a1) v1)).2)))
theorem aLk (a0:List (Int×Int))(a1:List Int)(l0:a0.length<=2^63-1)(l1:a1.length<=2^63-1)(hl:1<=a0.length)(hp:∀s∈a0,1<=s.1) {cx:Cx} (hcx:cx.base=2):∀(n:Nat) (v1 v2:Int),(0<=v2)/\(1<=v1)->tN ((a0.length:Int) - v2) < n->Aw.Good Tryz.prog none 9 (bodyPost Tryz.prog Tryz.f72 (RR cx (.t (k2 (aB (fS a0 a1) n (v1,v2)))) [] [])) cx [] (.l wB n::wC) (sE a0 a1 v1 v2):=by
 intro n
 induction n with
 | zero=>intro v1 v2 hi hn;exact absurd hn (fZ _)
 | succ n ih =>
  intro v1 v2 hi hn
  refine aH ?_
  have hps:=aIr hp v2
  have hmx:=vY v1 (a0.getD (tN v2) dF).1
  cases h0:(decide ((v2:Int) < (a0.length:Int))) with
  | true =>
   have q0:=bS h0
   have e:=Eq.refl (fS a0 a1 (v1,v2));conv at e=>rhs;simp only [fS,h0,aJ]
   rw [aA e]
   refine ba [.d h0,.i v2 (a0.length),.L bW a0 v2 0 2] [] [1,6,13,14,15] [] hcx (m:=n) wB (wC) (sE a0 a1 (nS v1 (a0.getD (tN v2) dF).1) (W (v2+1))) (by kernel_rfl) ?_
   have z0:(W (v2+1))=(v2+1):=aF (by omega) (by omega)
   rw [z0]
   exact ih (nS v1 (a0.getD (tN v2) dF).1) (v2+1) (by refine⟨?_,?_⟩<;>(try simp only [Ls])<;>first | omega | assumption | simp) (by(try simp only [Ls]);omega)
  | false =>
   have q0:=cE h0
   have e:=Eq.refl (fS a0 a1 (v1,v2));conv at e=>rhs;simp only [fS,h0,aJ]
   rw [aD,e]
   exact rt [.d h0,.c [1] (aIf a1 (by omega)),.c [] (aX7 (bO a1) v1  (by omega)),.c [] (aUp (kX (bO a1) v1))] [] [] hcx (by kernel_rfl)
def iB (a0:List (Int×Int))(a1:List Int):Int×Int :=
 (aB (fS a0 a1) (tN ((a0.length:Int) - 0)+1) ((a0.getD (tN 0) dF).1,0))
theorem aRg (a0:List (Int×Int))(a1:List Int)(l0:a0.length<=2^63-1)(l1:a1.length<=2^63-1)(hl:1<=a0.length)(hp:∀s∈a0,1<=s.1):Con Tryz.prog 72 [(.s 0 0 a0.length 2),(.s 1 0 a1.length 1)] [(.live false true (flat cM a0)),(.live false true (flat c3 a1))] (.t (k2 (iB a0 a1))) []:=by
 refine aK Tryz.func72 (by kernel_rfl) fun cx hcx=>?_
 have hp0:=nN hp hl
 have e:=Eq.refl (iB a0 a1);conv at e=>rhs;simp only [iB]
 rw [e]
 refine en [.i 0 (a0.length),.L bW a0 0 0 1] [] [1,6,13,14,15] [] hcx wB (wC) (sE a0 a1 ((a0.getD (tN 0) dF).1) 0) (tN ((a0.length:Int) - 0)+1) (by kernel_rfl) ?_
 exact aLk a0 a1 l0 l1 hl hp hcx (tN ((a0.length:Int) - 0)+1) ((a0.getD (tN 0) dF).1) 0 (by refine⟨?_,?_⟩<;>(try simp only [Ls])<;>first | omega | assumption | simp) (by(try simp only [Ls]);omega)
end Go.Proofs.YtcmdknehplnpfaaGreat
namespace Go.Proofs.YtcmdknehplnpfaaGreat
open Go.Proofs Go.Aw Go.RowKit
set_option maxRecDepth 100000
def qY (a0:Int×Int)(a1:List Int):Int×Int :=
 ((pA (W (Int.tdiv (bO a1) (kX a0.2 (W (Int.tdiv (W (Int.tdiv (bO a1) 1048576)) 1048576)))))).1,(pA (W (Int.tdiv (bO a1) (kX a0.2 (W (Int.tdiv (W (Int.tdiv (bO a1) 1048576)) 1048576)))))).2)
theorem aX8 (a0:Int×Int)(a1:List Int)(l1:a1.length<=2^63-1)(hq:W (Int.tdiv (W (Int.tdiv (bO a1) 1048576)) 1048576)≠0)(hw:kX a0.2 (W (Int.tdiv (W (Int.tdiv (bO a1) 1048576)) 1048576))≠0):Con Tryz.prog 71 [(.a [(iv a0.1),(iv a0.2)]),(.s 0 0 a1.length 1)] [(.live false true (flat c3 a1))] (.t (k2 (qY a0 a1))) []:=by
 refine aK Tryz.func71 (by kernel_rfl) fun cx hcx=>?_
 have e:=Eq.refl (qY a0 a1);conv at e=>rhs;simp only [qY]
 rw [e]
 exact rt [.c [0] (aIf a1 (by omega)),.p (show(1048576:Int)≠0 from by decide),.p (show(1048576:Int)≠0 from by decide),.c [] (aX7 a0.2 (W (Int.tdiv (W (Int.tdiv (bO a1) 1048576)) 1048576))  hq),.p (show((kX a0.2 (W (Int.tdiv (W (Int.tdiv (bO a1) 1048576)) 1048576))):Int)≠0 from by first | omega | (rw [aF]<;>omega) | exact dM _),.c [] (aUp (W (Int.tdiv (bO a1) (kX a0.2 (W (Int.tdiv (W (Int.tdiv (bO a1) 1048576)) 1048576))))))] [] [] hcx (by kernel_rfl)
theorem aCz {m:ME} {q:List Int} {d:Int} (h:(((iF m q d).2:Int) != 0)=false):1<=(iF m q d).1.length/\(∀s∈(iF m q d).1,1<=s.1)/\(∀s∈(iF m q d).1,1<=s.2):=by
 unfold iF at h ⊢
 cases hc:(chD m q d != 0) with
 | true=>rw [hc,cond_true] at h;rw [hc] at h;exact absurd h (by decide)
 | false =>
  rw [hc,cond_false] at h
  rw [cond_false]
  obtain⟨hC,hd⟩:=gO (bne_eq_false_iff_eq.1 hc)
  have hn:=hC.n;have hl:=hC.len;have hs:=hC.pos
  have hpl:(aZ m).length=m.2.length:=List.length_map _
  have hp:=aKb (T:=(aZ m).map (kT m d)) (q:=q) (fun r hr=>by
   obtain⟨p,hp,rfl⟩:=List.mem_map.1 hr
   unfold kT
   refine⟨by rw [List.length_map];omega,fun s hsm=>?_⟩
   obtain⟨p',hp',rfl⟩:=List.mem_map.1 hsm
   exact(lG (rV hC.v hd hp' hp)).2) hC.ok (bne_eq_false_iff_eq.1 h)
  refine⟨by rw [hp.1,List.length_map];omega,fun s hs'=>?_,fun s hs'=>?_⟩
  ·have:=hp.2 s hs';omega
  ·have:=hp.2 s hs';omega
theorem aPc {a:Int} (ha:0<=a/\a<=100):∀L:List (PN×Int),(∀e∈L,0<=e.2/\e.2<=100)->(L.map fun e=>W (a*e.2)).sum=a*(L.map (·.2)).sum
 | [],_=>by simp
 | e::L,h=>by
  have he:=h e List.mem_cons_self
  have ih:=aPc ha L (fun x hx=>h x (List.mem_cons_of_mem _ hx))
  have p0:0<=a*e.2:=Int.mul_nonneg ha.1 he.1
  have p1:a*e.2<=100*100:=Int.mul_le_mul ha.2 he.2 he.1 (by omega)
  simp only [List.map_cons,List.sum_cons]
  rw [ih,aF (by omega) (by omega),Int.mul_add]
theorem aPd {m:ME} {q:List Int} {d:Int} (hq:∀e∈(aZ m).zip q,0<=e.2/\e.2<=100):∀L:List (PN×Int),(∀e∈L,0<=e.2/\e.2<=100)->((L.flatMap (eC m q d)).map (·.2)).sum=(L.map (·.2)).sum*(((aZ m).zip q).map (·.2)).sum
 | [],_=>by simp
 | c::L,h=>by
  have ih:=aPd (d:=d) hq L (fun x hx=>h x (List.mem_cons_of_mem _ hx))
  have e:((eC m q d c).map (·.2)).sum=c.2*(((aZ m).zip q).map (·.2)).sum:=by
   rw [←aPc (h c List.mem_cons_self) _ hq]
   unfold eC
   rw [List.map_map];rfl
  rw [List.flatMap_cons,List.map_append,List.sum_append,ih,e]
  simp only [List.map_cons,List.sum_cons]
  rw [Int.add_mul]
theorem aPe {m:ME} {q:List Int} {d:Int} (hC:ChOK m q)(hd:0<=d/\d<=2)(h:(fJ (((aZ m).zip q).flatMap (eC m q d))).2=0):1<=(fJ (((aZ m).zip q).flatMap (eC m q d))).1.2/\vs (fJ (((aZ m).zip q).flatMap (eC m q d))).1:=by
 have hn:=hC.n;have hl:=hC.len;have hs:=hC.pos
 have hpl:(aZ m).length=m.2.length:=List.length_map _
 have hz:∀e∈(aZ m).zip q,0<=e.2/\e.2<=100:=fun e he=>hC.ok _ (List.of_mem_zip he).2
 have hm:((aZ m).zip q).map (·.2)=q:=List.map_snd_zip (by omega)
 have hp:=aKa (l:=((aZ m).zip q).flatMap (eC m q d)) (fun c hc=>by
  obtain⟨b,hb,hcb⟩:=List.mem_flatMap.1 hc
  unfold eC at hcb
  obtain⟨e,he,rfl⟩:=List.mem_map.1 hcb
  have h1:=hz b hb;have h2:=hz e he
  have p0:0<=b.2*e.2:=Int.mul_nonneg h1.1 h2.1
  have p1:b.2*e.2<=100*100:=Int.mul_le_mul h1.2 h2.2 h2.1 (by omega)
  refine⟨(rU (rV hC.v hd (List.of_mem_zip hb).1 (List.of_mem_zip he).1)).2,?_⟩
  simp only
  rw [aF (by omega) (by omega)];omega) h
 rw [aPd hz _ hz,hm] at hp
 have:1*1<=q.sum*q.sum:=Int.mul_le_mul hs hs (by omega) (by omega)
 exact⟨by omega,hp.2.2⟩
theorem aU3 {q:List Int} (hq:okC q)(h1:1<=q.sum)(hl:q.length<=96):bO q=q.sum*1099511627776/\q.sum<=9600:=by
 obtain⟨e,h2,h3⟩:=tU q 0 hq (by omega) (by omega)
 rw [aSm,e]
 refine⟨?_,by omega⟩
 rw [aF (by rw [aF (by omega) (by omega)];omega) (by rw [aF (by omega) (by omega)];omega),aF (by omega) (by omega)]
 omega
theorem aEw {q:List Int} (hq:okC q)(h1:1<=q.sum)(hl:q.length<=96):W (Int.tdiv (W (Int.tdiv (bO q) 1048576)) 1048576)=q.sum:=by
 obtain⟨e,h2⟩:=aU3 hq h1 hl
 have e1:Int.tdiv (q.sum*1099511627776) 1048576=q.sum*1048576:=by
  rw [show q.sum*1099511627776=(q.sum*1048576)*1048576 from by omega,Int.mul_tdiv_cancel _ (by decide)]
 rw [e,e1,aF (n:=q.sum*1048576) (by omega) (by omega),Int.mul_tdiv_cancel _ (by decide),aF (by omega) (by omega)]
theorem aPf {a n:Int} (ha:1<=a/\a<=2305843009213693951)(hn:1<=n/\n<=2305843009213693951):1<=kX a n/\kX a n=(a+n - 1).tdiv n:=by
 unfold kX
 rw [aF (n:=a+n) (by omega) (by omega),aF (n:=a+n - 1) (by omega) (by omega)]
 have h0:0<=a+n - 1:=by omega
 have e:(a+n - 1).tdiv n=(a+n - 1) / n:=Int.tdiv_eq_ediv_of_nonneg h0
 have h1:1<=(a+n - 1) / n:=by
  refine(Int.le_ediv_iff_mul_le (by omega)).2 ?_
  omega
 have h2:(a+n - 1) / n<=a+n - 1:=Int.ediv_le_self _ h0
 rw [e,aF (by omega) (by omega)]
 exact⟨h1,rfl⟩
theorem aPg {m:ME} {q:List Int} {d:Int} (h:(((EnV m q d).2:Int) != 0)=false):W (Int.tdiv (W (Int.tdiv (bO q) 1048576)) 1048576)≠0/\kX (EnV m q d).1.2 (W (Int.tdiv (W (Int.tdiv (bO q) 1048576)) 1048576))≠0:=by
 unfold EnV at h ⊢
 cases hc:(chD m q d != 0) with
 | true=>rw [hc,cond_true] at h;rw [hc] at h;exact absurd h (by decide)
 | false =>
  rw [hc,cond_false] at h
  rw [cond_false]
  obtain⟨hC,hd⟩:=gO (bne_eq_false_iff_eq.1 hc)
  have hn:=hC.n;have hl:=hC.len;have hs:=hC.pos;have hle:=hC.le
  obtain⟨hp,hv⟩:=aPe hC hd (bne_eq_false_iff_eq.1 h)
  rw [aEw hC.ok hC.pos (by omega)]
  unfold vs at hv
  have:=(aPf (a:=(fJ (((aZ m).zip q).flatMap (eC m q d))).1.2) (n:=q.sum) (by omega) (by omega)).1
  exact⟨by omega,by omega⟩
theorem aRh (m:ME)(q:List Int)(d:Int):(iF m q d).1.length<=96:=by
 unfold iF
 cases hc:(chD m q d != 0) with
 | true=>simp
 | false =>
  rw [cond_false]
  obtain⟨hC,hd⟩:=gO (bne_eq_false_iff_eq.1 hc)
  have hn:=hC.n
  have hpl:(aZ m).length=m.2.length:=List.length_map _
  unfold aA4
  cases hs:mU (fun r:List (Int×Int)=>fJ (r.zip q)) ((aZ m).map (kT m d)) [] with
  | inr r=>simp [qM]
  | inl l =>
   obtain⟨e,_⟩:=nG hs
   simp only [qM]
   rw [e,List.nil_append,List.length_map,List.length_map];omega
theorem aW {m:ME} {q:List Int} {d:Int} (h:(((bD m q d).2:Int) != 0)=false):1<=(bD m q d).1.length/\(∀s∈(bD m q d).1,1<=s.1)/\(∀s∈(bD m q d).1,1<=s.2):=by
 rw [qX] at h ⊢
 exact aCz h
theorem tY (m:ME)(q:List Int)(d:Int):(bD m q d).1.length<=96:=by
 rw [qX];exact aRh m q d
theorem aKd {q:List Int} (hq:okC q)(hl:q.length<=96):dP q=q.sum:=by
 obtain⟨e,h2,h3⟩:=tU q 0 hq (by omega) (by omega)
 rw [aO8,e];omega
theorem kE {m:ME} {q:List Int} {d:Int} (h:(((jD m q d).2:Int) != 0)=false):dP q≠0/\W (Int.tdiv (W ((W ((jD m q d).1.2+(dP q))) - 1)) (dP q))≠0:=by
 rw [aX6] at h ⊢
 have h':=h
 unfold EnV at h'
 cases hc:(chD m q d != 0) with
 | true=>rw [hc,cond_true] at h';rw [hc] at h';exact absurd h' (by decide)
 | false =>
  obtain⟨hC,hd⟩:=gO (bne_eq_false_iff_eq.1 hc)
  have hn:=hC.n;have hl:=hC.len;have hs:=hC.pos
  have hf:=aPg h
  rw [aEw hC.ok hC.pos (by omega)] at hf
  rw [aKd hC.ok (by omega)]
  exact hf
theorem aC0 (m:ME)(q:List Int)(d:Int):(∀s∈(bD m q d).1,1<=s.1)/\(∀s∈(bD m q d).1,1<=s.2):=by
 cases h:(((bD m q d).2:Int) != 0) with
 | false=>exact(aW h).2
 | true =>
  rw [qX] at h ⊢
  unfold iF at h ⊢
  cases hc:(chD m q d != 0) with
  | true=>simp
  | false =>
   rw [hc,cond_false] at h
   rw [cond_false]
   unfold aA4 at h ⊢
   cases hs:mU (fun r:List (Int×Int)=>fJ (r.zip q)) ((aZ m).map (kT m d)) [] with
   | inr r=>simp [qM]
   | inl l=>rw [hs] at h;simp [qM] at h
noncomputable def aEx:Code:=(aC [1,1,1,1,0,1] [] (aG Tryz.f21) []).1
noncomputable def aEy:List K:=(aC [1,1,1,1,0,1] [] (aG Tryz.f21) []).2
def aA9 (a0:Zm)(a1:List Int)(a2:Int)(v1 v2:Int):LS:=⟨fU 44 [(1,(.s 2 0 a1.length 1)),(8,(.s 3 0 (bD (a0.1,a0.2) a1 a2).1.length 2)),(10,(iv v1)),(11,(iv v2))],[(.live false true (flat dQ a0.1)),(.live false true (flat eE a0.2)),(.live false true (flat c3 a1)),(.live true true (flat cM (bD (a0.1,a0.2) a1 a2).1))]⟩
def jW (a0:Zm)(a1:List Int)(a2:Int):Int×Int->(Int×Int)⊕(Int×Int)
 | (v1,v2) =>
  (bif (decide ((v2:Int) < (((bD (a0.1,a0.2) a1 a2).1.length:Nat):Int))) then
   (.inl ((fV v1 ((bD (a0.1,a0.2) a1 a2).1.getD (tN v2) dF).2),(v2+1)))
  else
   (.inr ((F46 (W (Int.tdiv (W ((W ((dP a1)*1048576))*1048576)) v1))).1,(F46 (W (Int.tdiv (W ((W ((dP a1)*1048576))*1048576)) v1))).2)))
theorem aRi (a0:Zm)(a1:List Int)(a2:Int)(l0_1:a0.1.length<=2^63-1)(l0_2:a0.2.length<=2^63-1)(l1:a1.length<=2^63-1) {cx:Cx} (hcx:cx.base=3):∀(n:Nat) (v1 v2:Int),(0<=v2)/\(0<=v1)/\(v2=0\/1<=v1)/\(1<=(bD (a0.1,a0.2) a1 a2).1.length)->tN ((((bD (a0.1,a0.2) a1 a2).1.length:Nat):Int) - v2) < n->Aw.Good Tryz.prog none 9 (bodyPost Tryz.prog Tryz.f21 (RR cx (.t (k2 (aB (jW a0 a1 a2) n (v1,v2)))) [] [])) cx [] (.l aEx n::aEy) (aA9 a0 a1 a2 v1 v2):=by
 intro n
 induction n with
 | zero=>intro v1 v2 hi hn;exact absurd hn (fZ _)
 | succ n ih =>
  intro v1 v2 hi hn
  refine aH ?_
  have hx1:=tY (a0.1,a0.2) a1 a2
  have hps:=aIq (aC0 (a0.1,a0.2) a1 a2).2 v2
  have hmx:=nO v1 ((bD (a0.1,a0.2) a1 a2).1.getD (tN v2) dF).2
  cases h0:(decide ((v2:Int) < (((bD (a0.1,a0.2) a1 a2).1.length:Nat):Int))) with
  | true =>
   have q0:=bS h0
   have e:=Eq.refl (jW a0 a1 a2 (v1,v2));conv at e=>rhs;simp only [jW,h0,aJ]
   rw [aA e]
   refine ba [.d h0,.i v2 ((bD (a0.1,a0.2) a1 a2).1.length),.L bW (bD (a0.1,a0.2) a1 a2).1 v2 1 1] [] [1,8,10,11] [3] hcx (m:=n) aEx (aEy) (aA9 a0 a1 a2 (fV v1 ((bD (a0.1,a0.2) a1 a2).1.getD (tN v2) dF).2) (W (v2+1))) (by kernel_rfl) ?_
   have z0:(W (v2+1))=(v2+1):=aF (by omega) (by omega)
   rw [z0]
   exact ih (fV v1 ((bD (a0.1,a0.2) a1 a2).1.getD (tN v2) dF).2) (v2+1) (by refine⟨?_,?_,?_,?_⟩<;>(try simp only [Ls])<;>first | omega | assumption | simp) (by(try simp only [Ls]);omega)
  | false =>
   have q0:=cE h0
   have e:=Eq.refl (jW a0 a1 a2 (v1,v2));conv at e=>rhs;simp only [jW,h0,aJ]
   rw [aD,e]
   exact rt [.d h0,.c [2] (aJ1 a1 (by omega)),.p (show(v1:Int)≠0 from by first | omega | (rw [aF]<;>omega) | exact dM _),.c [] (C46 (W (Int.tdiv (W ((W ((dP a1)*1048576))*1048576)) v1)))] [] [] hcx (by kernel_rfl)
def mL (a0:Zm)(a1:List Int)(a2:Int):Int×Int :=
 (bif (((bD (a0.1,a0.2) a1 a2).2:Int) != 0) then
  (0,(bD (a0.1,a0.2) a1 a2).2)
 else
  (aB (jW a0 a1 a2) (tN ((((bD (a0.1,a0.2) a1 a2).1.length:Nat):Int) - 0)+1) (0,0)))
theorem aX9 (a0:Zm)(a1:List Int)(a2:Int)(l0_1:a0.1.length<=2^63-1)(l0_2:a0.2.length<=2^63-1)(l1:a1.length<=2^63-1):Con Tryz.prog 21 [(.a [(.s 0 0 a0.1.length 3),(.s 1 0 a0.2.length 3)]),(.s 2 0 a1.length 1),(iv a2)] [(.live false true (flat dQ a0.1)),(.live false true (flat eE a0.2)),(.live false true (flat c3 a1))] (.t (k2 (mL a0 a1 a2))) []:=by
 refine aK Tryz.func21 (by kernel_rfl) fun cx hcx=>?_
 have hx1:=tY (a0.1,a0.2) a1 a2
 try have hx2:=aW h0
 try have hx3:=nN (aW h0).2.1 (aW h0).1
 try have hx4:=(aW h0).1
 let t0:List (St Tryz.prog):=[.c [0,1,2] (aSo (a0.1,a0.2) a1 a2 (by(try simp only [Lt]);omega) (by(try simp only [Lt]);omega) (by omega))]
 cases h0:(((bD (a0.1,a0.2) a1 a2).2:Int) != 0) with
 | true =>
  have q0:=bne_iff_ne.1 h0
  try have hx2:=aW h0
  try have hx3:=nN (aW h0).2.1 (aW h0).1
  try have hx4:=(aW h0).1
  have e:=Eq.refl (mL a0 a1 a2);conv at e=>rhs;simp only [mL,h0,aJ]
  rw [e]
  exact rt (t0++[.d h0]) [] [] hcx (by kernel_rfl)
 | false =>
  have q0:=bne_eq_false_iff_eq.1 h0
  try have hx2:=aW h0
  try have hx3:=nN (aW h0).2.1 (aW h0).1
  try have hx4:=(aW h0).1
  have e:=Eq.refl (mL a0 a1 a2);conv at e=>rhs;simp only [mL,h0,aJ]
  rw [e]
  refine en (t0++[.d h0]) [] [1,8,10,11] [4] hcx aEx (aEy) (aA9 a0 a1 a2 0 0) (tN ((((bD (a0.1,a0.2) a1 a2).1.length:Nat):Int) - 0)+1) (by kernel_rfl) ?_
  exact aRi a0 a1 a2 l0_1 l0_2 l1 hcx (tN ((((bD (a0.1,a0.2) a1 a2).1.length:Nat):Int) - 0)+1) 0 0 (by refine⟨?_,?_,?_,?_⟩<;>(try simp only [Ls])<;>first | omega | assumption | simp) (by(try simp only [Ls]);omega)
noncomputable def aEz:Code:=(aC [1,1,1,1,0,1] [] (aG Tryz.f23) []).1
noncomputable def aE0:List K:=(aC [1,1,1,1,0,1] [] (aG Tryz.f23) []).2
def aBa (a0:Zm)(a1:List Int)(a2:Int)(v1 v2:Int):LS:=⟨fU 51 [(1,(.s 2 0 a1.length 1)),(8,(.s 3 0 (bD (a0.1,a0.2) a1 a2).1.length 2)),(10,(iv v1)),(11,(iv v2))],[(.live false true (flat dQ a0.1)),(.live false true (flat eE a0.2)),(.live false true (flat c3 a1)),(.live true true (flat cM (bD (a0.1,a0.2) a1 a2).1))]⟩
def jX (a0:Zm)(a1:List Int)(a2:Int):Int×Int->(Int×Int)⊕(Int×Int)
 | (v1,v2) =>
  (bif (decide ((v2:Int) < (((bD (a0.1,a0.2) a1 a2).1.length:Nat):Int))) then
   (.inl ((nS v1 ((bD (a0.1,a0.2) a1 a2).1.getD (tN v2) dF).1),(v2+1)))
  else
   (.inr ((F46 (W (Int.tdiv (W ((W ((W ((W ((dP a1)*1048576))*1048576))+v1)) - 1)) v1))).1,(F46 (W (Int.tdiv (W ((W ((W ((W ((dP a1)*1048576))*1048576))+v1)) - 1)) v1))).2)))
theorem aRj (a0:Zm)(a1:List Int)(a2:Int)(l0_1:a0.1.length<=2^63-1)(l0_2:a0.2.length<=2^63-1)(l1:a1.length<=2^63-1) {cx:Cx} (hcx:cx.base=3):∀(n:Nat) (v1 v2:Int),(0<=v2)/\(1<=v1)->tN ((((bD (a0.1,a0.2) a1 a2).1.length:Nat):Int) - v2) < n->Aw.Good Tryz.prog none 9 (bodyPost Tryz.prog Tryz.f23 (RR cx (.t (k2 (aB (jX a0 a1 a2) n (v1,v2)))) [] [])) cx [] (.l aEz n::aE0) (aBa a0 a1 a2 v1 v2):=by
 intro n
 induction n with
 | zero=>intro v1 v2 hi hn;exact absurd hn (fZ _)
 | succ n ih =>
  intro v1 v2 hi hn
  refine aH ?_
  have hx1:=tY (a0.1,a0.2) a1 a2
  have hps:=aIr (aC0 (a0.1,a0.2) a1 a2).1 v2
  have hmx:=vY v1 ((bD (a0.1,a0.2) a1 a2).1.getD (tN v2) dF).1
  cases h0:(decide ((v2:Int) < (((bD (a0.1,a0.2) a1 a2).1.length:Nat):Int))) with
  | true =>
   have q0:=bS h0
   have e:=Eq.refl (jX a0 a1 a2 (v1,v2));conv at e=>rhs;simp only [jX,h0,aJ]
   rw [aA e]
   refine ba [.d h0,.i v2 ((bD (a0.1,a0.2) a1 a2).1.length),.L bW (bD (a0.1,a0.2) a1 a2).1 v2 0 1] [] [1,8,10,11] [3] hcx (m:=n) aEz (aE0) (aBa a0 a1 a2 (nS v1 ((bD (a0.1,a0.2) a1 a2).1.getD (tN v2) dF).1) (W (v2+1))) (by kernel_rfl) ?_
   have z0:(W (v2+1))=(v2+1):=aF (by omega) (by omega)
   rw [z0]
   exact ih (nS v1 ((bD (a0.1,a0.2) a1 a2).1.getD (tN v2) dF).1) (v2+1) (by refine⟨?_,?_⟩<;>(try simp only [Ls])<;>first | omega | assumption | simp) (by(try simp only [Ls]);omega)
  | false =>
   have q0:=cE h0
   have e:=Eq.refl (jX a0 a1 a2 (v1,v2));conv at e=>rhs;simp only [jX,h0,aJ]
   rw [aD,e]
   exact rt [.d h0,.c [2] (aJ1 a1 (by omega)),.p (show(v1:Int)≠0 from by first | omega | (rw [aF]<;>omega) | exact dM _),.c [] (C46 (W (Int.tdiv (W ((W ((W ((W ((dP a1)*1048576))*1048576))+v1)) - 1)) v1)))] [] [] hcx (by kernel_rfl)
def pD (a0:Zm)(a1:List Int)(a2:Int):Int×Int :=
 (bif (((bD (a0.1,a0.2) a1 a2).2:Int) != 0) then
  (0,(bD (a0.1,a0.2) a1 a2).2)
 else
  (aB (jX a0 a1 a2) (tN ((((bD (a0.1,a0.2) a1 a2).1.length:Nat):Int) - 0)+1) (((bD (a0.1,a0.2) a1 a2).1.getD (tN 0) dF).1,0)))
theorem aYa (a0:Zm)(a1:List Int)(a2:Int)(l0_1:a0.1.length<=2^63-1)(l0_2:a0.2.length<=2^63-1)(l1:a1.length<=2^63-1):Con Tryz.prog 23 [(.a [(.s 0 0 a0.1.length 3),(.s 1 0 a0.2.length 3)]),(.s 2 0 a1.length 1),(iv a2)] [(.live false true (flat dQ a0.1)),(.live false true (flat eE a0.2)),(.live false true (flat c3 a1))] (.t (k2 (pD a0 a1 a2))) []:=by
 refine aK Tryz.func23 (by kernel_rfl) fun cx hcx=>?_
 have hx1:=tY (a0.1,a0.2) a1 a2
 try have hx2:=aW h0
 try have hx3:=nN (aW h0).2.1 (aW h0).1
 try have hx4:=(aW h0).1
 let t0:List (St Tryz.prog):=[.c [0,1,2] (aSo (a0.1,a0.2) a1 a2 (by(try simp only [Lt]);omega) (by(try simp only [Lt]);omega) (by omega))]
 cases h0:(((bD (a0.1,a0.2) a1 a2).2:Int) != 0) with
 | true =>
  have q0:=bne_iff_ne.1 h0
  try have hx2:=aW h0
  try have hx3:=nN (aW h0).2.1 (aW h0).1
  try have hx4:=(aW h0).1
  have e:=Eq.refl (pD a0 a1 a2);conv at e=>rhs;simp only [pD,h0,aJ]
  rw [e]
  exact rt (t0++[.d h0]) [] [] hcx (by kernel_rfl)
 | false =>
  have q0:=bne_eq_false_iff_eq.1 h0
  try have hx2:=aW h0
  try have hx3:=nN (aW h0).2.1 (aW h0).1
  try have hx4:=(aW h0).1
  have e:=Eq.refl (pD a0 a1 a2);conv at e=>rhs;simp only [pD,h0,aJ]
  rw [e]
  refine en (t0++[.d h0,.i 0 ((bD (a0.1,a0.2) a1 a2).1.length),.L bW (bD (a0.1,a0.2) a1 a2).1 0 0 1]) [] [1,8,10,11] [4] hcx aEz (aE0) (aBa a0 a1 a2 (((bD (a0.1,a0.2) a1 a2).1.getD (tN 0) dF).1) 0) (tN ((((bD (a0.1,a0.2) a1 a2).1.length:Nat):Int) - 0)+1) (by kernel_rfl) ?_
  exact aRj a0 a1 a2 l0_1 l0_2 l1 hcx (tN ((((bD (a0.1,a0.2) a1 a2).1.length:Nat):Int) - 0)+1) (((bD (a0.1,a0.2) a1 a2).1.getD (tN 0) dF).1) 0 (by refine⟨?_,?_⟩<;>(try simp only [Ls])<;>first | omega | assumption | simp) (by(try simp only [Ls]);omega)
def pE (a0:Zm)(a1:List Int)(a2:Int):Int×Int :=
 (bif (((jD (a0.1,a0.2) a1 a2).2:Int) != 0) then
  (0,(jD (a0.1,a0.2) a1 a2).2)
 else
  ((F46 (W (Int.tdiv (W ((W ((dP a1)*1048576))*1048576)) (W (Int.tdiv (W ((W ((jD (a0.1,a0.2) a1 a2).1.2+(dP a1))) - 1)) (dP a1)))))).1,(F46 (W (Int.tdiv (W ((W ((dP a1)*1048576))*1048576)) (W (Int.tdiv (W ((W ((jD (a0.1,a0.2) a1 a2).1.2+(dP a1))) - 1)) (dP a1)))))).2))
theorem aYb (a0:Zm)(a1:List Int)(a2:Int)(l0_1:a0.1.length<=2^63-1)(l0_2:a0.2.length<=2^63-1)(l1:a1.length<=2^63-1):Con Tryz.prog 22 [(.a [(.s 0 0 a0.1.length 3),(.s 1 0 a0.2.length 3)]),(.s 2 0 a1.length 1),(iv a2)] [(.live false true (flat dQ a0.1)),(.live false true (flat eE a0.2)),(.live false true (flat c3 a1))] (.t (k2 (pE a0 a1 a2))) []:=by
 refine aK Tryz.func22 (by kernel_rfl) fun cx hcx=>?_
 try have hx1:=(kE h0).1
 try have hx2:=(kE h0).2
 let t0:List (St Tryz.prog):=[.c [0,1,2] (aX2 (a0.1,a0.2) a1 a2 (by(try simp only [Lt]);omega) (by(try simp only [Lt]);omega) (by omega))]
 cases h0:(((jD (a0.1,a0.2) a1 a2).2:Int) != 0) with
 | true =>
  have q0:=bne_iff_ne.1 h0
  try have hx1:=(kE h0).1
  try have hx2:=(kE h0).2
  have e:=Eq.refl (pE a0 a1 a2);conv at e=>rhs;simp only [pE,h0,aJ]
  rw [e]
  exact rt (t0++[.d h0]) [] [] hcx (by kernel_rfl)
 | false =>
  have q0:=bne_eq_false_iff_eq.1 h0
  try have hx1:=(kE h0).1
  try have hx2:=(kE h0).2
  have e:=Eq.refl (pE a0 a1 a2);conv at e=>rhs;simp only [pE,h0,aJ]
  rw [e]
  exact rt (t0++[.d h0,.c [2] (aJ1 a1 (by omega)),.p (show((dP a1):Int)≠0 from by first | omega | (rw [aF]<;>omega) | exact dM _),.p (show((W (Int.tdiv (W ((W ((jD (a0.1,a0.2) a1 a2).1.2+(dP a1))) - 1)) (dP a1))):Int)≠0 from by first | omega | (rw [aF]<;>omega) | exact dM _),.c [] (C46 (W (Int.tdiv (W ((W ((dP a1)*1048576))*1048576)) (W (Int.tdiv (W ((W ((jD (a0.1,a0.2) a1 a2).1.2+(dP a1))) - 1)) (dP a1))))))]) [] [] hcx (by kernel_rfl)
theorem aE1 {m:ME} {q:List Int} {d:Int} (h:(((mL m q d).2:Int) != 0)=false):1<=m.1.length:=by
 cases hp:(((bD (m.1,m.2) q d).2:Int) != 0) with
 | true =>
  unfold mL at h
  rw [hp,cond_true] at h
  rw [hp] at h
  exact absurd h (by decide)
 | false =>
  rw [qX] at hp
  unfold iF at hp
  cases hc:(chD (m.1,m.2) q d != 0) with
  | true=>rw [hc,cond_true] at hp;rw [hc] at hp;exact absurd hp (by decide)
  | false =>
   obtain⟨hC,hd⟩:=gO (bne_eq_false_iff_eq.1 hc)
   exact(nJ (m:=m) (by rw [show fW m=0 from hC.v];rfl)).1
def kY (a0:Zm)(a1:List Int)(a2:Int):(Int×Int)×Int :=
 (bif (((mL (a0.1,a0.2) a1 a2).2:Int) != 0) then
  ((0,0),(mL (a0.1,a0.2) a1 a2).2)
 else
  (bif (((pE (a0.1,a0.2) a1 a2).2:Int) != 0) then
   ((0,0),(pE (a0.1,a0.2) a1 a2).2)
  else
   (bif (((pD (a0.1,a0.2) a1 a2).2:Int) != 0) then
    ((0,0),(pD (a0.1,a0.2) a1 a2).2)
   else
    (bif (((F24 (a0.1,a0.2) (F25 (a0.1,a0.2))).2:Int) != 0) then
     ((0,0),(F24 (a0.1,a0.2) (F25 (a0.1,a0.2))).2)
    else
     (((fV (mL (a0.1,a0.2) a1 a2).1 (pE (a0.1,a0.2) a1 a2).1),(nS (pD (a0.1,a0.2) a1 a2).1 (F24 (a0.1,a0.2) (F25 (a0.1,a0.2))).1)),0)))))
theorem aYc (a0:Zm)(a1:List Int)(a2:Int)(l0_1:a0.1.length<=2^63-1)(l0_2:a0.2.length<=2^63-1)(l1:a1.length<=2^63-1):Con Tryz.prog 8 [(.a [(.s 0 0 a0.1.length 3),(.s 1 0 a0.2.length 3)]),(.s 2 0 a1.length 1),(iv a2)] [(.live false true (flat dQ a0.1)),(.live false true (flat eE a0.2)),(.live false true (flat c3 a1))] (.t [(.a (k2 (kY a0 a1 a2).1)),(iv (kY a0 a1 a2).2)]) []:=by
 refine aK Tryz.func8 (by kernel_rfl) fun cx hcx=>?_
 let t0:List (St Tryz.prog):=[.c [0,1,2] (aX9 (a0.1,a0.2) a1 a2 (by(try simp only [Lt]);omega) (by(try simp only [Lt]);omega) (by omega))]
 cases h0:(((mL (a0.1,a0.2) a1 a2).2:Int) != 0) with
 | true =>
  have q0:=bne_iff_ne.1 h0
  have e:=Eq.refl (kY a0 a1 a2);conv at e=>rhs;simp only [kY,h0,aJ]
  rw [e]
  exact rt (t0++[.d h0]) [] [] hcx (by kernel_rfl)
 | false =>
  have q0:=bne_eq_false_iff_eq.1 h0
  let t1:List (St Tryz.prog):=(t0++[.d h0,.c [0,1,2] (aYb (a0.1,a0.2) a1 a2 (by(try simp only [Lt]);omega) (by(try simp only [Lt]);omega) (by omega))])
  cases h1:(((pE (a0.1,a0.2) a1 a2).2:Int) != 0) with
  | true =>
   have q1:=bne_iff_ne.1 h1
   have e:=Eq.refl (kY a0 a1 a2);conv at e=>rhs;simp only [kY,h0,h1,aJ]
   rw [e]
   exact rt (t1++[.d h1]) [] [] hcx (by kernel_rfl)
  | false =>
   have q1:=bne_eq_false_iff_eq.1 h1
   let t2:List (St Tryz.prog):=(t1++[.d h1,.c [0,1,2] (aYa (a0.1,a0.2) a1 a2 (by(try simp only [Lt]);omega) (by(try simp only [Lt]);omega) (by omega))])
   cases h2:(((pD (a0.1,a0.2) a1 a2).2:Int) != 0) with
   | true =>
    have q2:=bne_iff_ne.1 h2
    have e:=Eq.refl (kY a0 a1 a2);conv at e=>rhs;simp only [kY,h0,h1,h2,aJ]
    rw [e]
    exact rt (t2++[.d h2]) [] [] hcx (by kernel_rfl)
   | false =>
    have q2:=bne_eq_false_iff_eq.1 h2
    let t3:List (St Tryz.prog):=(t2++[.d h2,.c [0,1] (C25 (a0.1,a0.2) (by(try simp only [Lt]);omega) (by(try simp only [Lt]);omega) (aE1 h0)),.c [0,1] (C24 (a0.1,a0.2) (F25 (a0.1,a0.2)) (by(try simp only [Lt]);omega) (by(try simp only [Lt]);omega))])
    cases h3:(((F24 (a0.1,a0.2) (F25 (a0.1,a0.2))).2:Int) != 0) with
    | true =>
     have q3:=bne_iff_ne.1 h3
     have e:=Eq.refl (kY a0 a1 a2);conv at e=>rhs;simp only [kY,h0,h1,h2,h3,aJ]
     rw [e]
     exact rt (t3++[.d h3]) [] [] hcx (by kernel_rfl)
    | false =>
     have q3:=bne_eq_false_iff_eq.1 h3
     have e:=Eq.refl (kY a0 a1 a2);conv at e=>rhs;simp only [kY,h0,h1,h2,h3,aJ]
     rw [e]
     exact rt (t3++[.d h3]) [] [] hcx (by kernel_rfl)
theorem aPh (m:ME):F20 m=m.2.map fun _=>1:=by
 unfold F20
 rw [aX (fun v i=>(v,i)) (fun v _=>.inl (v++[1])) (fun v=>v) (L:=m.2) (fun _ _=>True) ?_ (fun _ _ _ _ _ _ _=>trivial) ?_ (by omega) trivial]
 ·rw [bM,aX3 (fun _=>1)];rfl
 ·intro i c hc v _
  obtain⟨hlt,hce⟩:=List.getElem?_eq_some_iff.1 hc
  simp only [tT]
  rw [cA (by omega),cond_true]
  rfl
 ·intro v _
  simp only [tT]
  rw [cT (by omega),cond_false]
theorem aIs (m:ME):(F20 m).length=m.2.length:=by rw [aPh,List.length_map]
def F7 (a0:Zm)(a1:Int):(Int×Int)×Int :=
 (bif (((wW (a0.1,a0.2)):Int) != 0) then
  ((0,0),(wW (a0.1,a0.2)))
 else
  ((kY (a0.1,a0.2) (F20 (a0.1,a0.2)) a1).1,(kY (a0.1,a0.2) (F20 (a0.1,a0.2)) a1).2))
theorem C7 (a0:Zm)(a1:Int)(l0_1:a0.1.length<=2^63-1)(l0_2:a0.2.length<=2^63-1):Con Tryz.prog 7 [(.a [(.s 0 0 a0.1.length 3),(.s 1 0 a0.2.length 3)]),(iv a1)] [(.live false true (flat dQ a0.1)),(.live false true (flat eE a0.2))] (.t [(.a (k2 (F7 a0 a1).1)),(iv (F7 a0 a1).2)]) []:=by
 refine aK Tryz.func7 (by kernel_rfl) fun cx hcx=>?_
 try have hg:=(aEm h0).2
 have ho:=aIs (a0.1,a0.2)
 let t0:List (St Tryz.prog):=[.c [0,1] (C19 (a0.1,a0.2) (by(try simp only [Lt]);omega) (by(try simp only [Lt]);omega))]
 cases h0:(((wW (a0.1,a0.2)):Int) != 0) with
 | true =>
  have q0:=bne_iff_ne.1 h0
  try have hg:=(aEm h0).2
  have e:=Eq.refl (F7 a0 a1);conv at e=>rhs;simp only [F7,h0,aJ]
  rw [e]
  exact rt (t0++[.d h0]) [] [] hcx (by kernel_rfl)
 | false =>
  have q0:=bne_eq_false_iff_eq.1 h0
  try have hg:=(aEm h0).2
  have e:=Eq.refl (F7 a0 a1);conv at e=>rhs;simp only [F7,h0,aJ]
  rw [e]
  exact rt (t0++[.d h0,.c [0,1] (C20 (a0.1,a0.2) (by(try simp only [Lt]);omega) (by(try simp only [Lt]);omega) (by(try simp only [Lt]);omega)),.c [0,1,4] (aYc (a0.1,a0.2) (F20 (a0.1,a0.2)) a1 (by(try simp only [Lt]);omega) (by(try simp only [Lt]);omega) (by(try simp only [Lt]);omega))]) [] [] hcx (by kernel_rfl)
theorem aKe {T:TB} {q:List Int} (hr:∀r∈T,r.length<=q.length)(hm:q.length<=96):(aI T q).1.length<=T.length:=by
 rw [aPa hr hm]
 unfold aA4
 cases hs:mU (fun r:List (Int×Int)=>fJ (r.zip q)) T [] with
 | inr r=>simp [qM]
 | inl l =>
  obtain⟨e,_⟩:=nG hs
  simp only [qM]
  rw [e,List.nil_append,List.length_map];exact Nat.le_refl _
def bA (a0:(Zm)×(List (List (Int×Int)))×(List (List (Int×Int)))×Int)(a1:List Int):(Int×Int)×Int :=
 (bif (((aI a0.2.1 a1).2:Int) != 0) then
  ((0,0),(aI a0.2.1 a1).2)
 else
  (bif (((iA (aI a0.2.1 a1).1 a1).2:Int) != 0) then
   ((0,0),(iA (aI a0.2.1 a1).1 a1).2)
  else
   (bif (((cV a0.2.2.1 a1).2:Int) != 0) then
    ((0,0),(cV a0.2.2.1 a1).2)
   else
    (bif (((qY (cV a0.2.2.1 a1).1 a1).2:Int) != 0) then
     ((0,0),(qY (cV a0.2.2.1 a1).1 a1).2)
    else
     (bif (((iB (aI a0.2.1 a1).1 a1).2:Int) != 0) then
      ((0,0),(iB (aI a0.2.1 a1).1 a1).2)
     else
      (((fV (iA (aI a0.2.1 a1).1 a1).1 (qY (cV a0.2.2.1 a1).1 a1).1),(nS (iB (aI a0.2.1 a1).1 a1).1 a0.2.2.2)),0))))))
theorem aPi (a0:(Zm)×(List (List (Int×Int)))×(List (List (Int×Int)))×Int)(a1:List Int)(l0_1_1:a0.1.1.length<=2^63-1)(l0_1_2:a0.1.2.length<=2^63-1)(l0_2_1:a0.2.1.length<=2^63-1)(l0_2_2_1:a0.2.2.1.length<=2^63-1)(l1:a1.length<=2^63-1)(hr:∀r∈a0.2.1,r.length<=a1.length)(hn:a0.2.1.length<=96)(hm:a1.length<=96)(hl:a0.2.2.1.length=a1.length)(hs:∀r∈a0.2.2.1,r.length=a1.length)(hp:(((aI a0.2.1 a1).2:Int) != 0)=false->1<=(aI a0.2.1 a1).1.length/\(∀s∈(aI a0.2.1 a1).1,1<=s.1)/\(∀s∈(aI a0.2.1 a1).1,1<=s.2))(he:(((cV a0.2.2.1 a1).2:Int) != 0)=false->W (Int.tdiv (W (Int.tdiv (bO a1) 1048576)) 1048576)≠0/\kX (cV a0.2.2.1 a1).1.2 (W (Int.tdiv (W (Int.tdiv (bO a1) 1048576)) 1048576))≠0):Con Tryz.prog 35 [(.a [(.s 0 0 a0.1.1.length 3),(.s 1 0 a0.1.2.length 3),(.s 2 0 a0.2.1.length 1),(.s 3 0 a0.2.2.1.length 1),(iv a0.2.2.2)]),(.s 4 0 a1.length 1)] [(.live false true (flat dQ a0.1.1)),(.live false true (flat eE a0.1.2)),(.live false true (flat iH a0.2.1)),(.live false true (flat iH a0.2.2.1)),(.live false true (flat c3 a1))] (.t [(.a (k2 (bA a0 a1).1)),(iv (bA a0 a1).2)]) []:=by
 refine aK Tryz.func35 (by kernel_rfl) fun cx hcx=>?_
 have hx1:=aKe hr hm
 let t0:List (St Tryz.prog):=[.c [2,4] (aJ5 a0.2.1 a1 (by omega) (by omega) hr hn hm)]
 cases h0:(((aI a0.2.1 a1).2:Int) != 0) with
 | true =>
  have q0:=bne_iff_ne.1 h0
  have e:=Eq.refl (bA a0 a1);conv at e=>rhs;simp only [bA,h0,aJ]
  rw [e]
  exact rt (t0++[.d h0]) [] [] hcx (by kernel_rfl)
 | false =>
  have q0:=bne_eq_false_iff_eq.1 h0
  let t1:List (St Tryz.prog):=(t0++[.d h0,.c [7,4] (aRf (aI a0.2.1 a1).1 a1 (by(try simp only [Lt]);omega) (by omega) (hp h0).1 (hp h0).2.2)])
  cases h1:(((iA (aI a0.2.1 a1).1 a1).2:Int) != 0) with
  | true =>
   have q1:=bne_iff_ne.1 h1
   have e:=Eq.refl (bA a0 a1);conv at e=>rhs;simp only [bA,h0,h1,aJ]
   rw [e]
   exact rt (t1++[.d h1]) [] [] hcx (by kernel_rfl)
  | false =>
   have q1:=bne_eq_false_iff_eq.1 h1
   let t2:List (St Tryz.prog):=(t1++[.d h1,.c [3,4] (aQ7 a0.2.2.1 a1 (by omega) (by omega) hl hs hm)])
   cases h2:(((cV a0.2.2.1 a1).2:Int) != 0) with
   | true =>
    have q2:=bne_iff_ne.1 h2
    have e:=Eq.refl (bA a0 a1);conv at e=>rhs;simp only [bA,h0,h1,h2,aJ]
    rw [e]
    exact rt (t2++[.d h2]) [] [] hcx (by kernel_rfl)
   | false =>
    have q2:=bne_eq_false_iff_eq.1 h2
    let t3:List (St Tryz.prog):=(t2++[.d h2,.c [4] (aX8 (cV a0.2.2.1 a1).1 a1 (by omega) (he h2).1 (he h2).2)])
    cases h3:(((qY (cV a0.2.2.1 a1).1 a1).2:Int) != 0) with
    | true =>
     have q3:=bne_iff_ne.1 h3
     have e:=Eq.refl (bA a0 a1);conv at e=>rhs;simp only [bA,h0,h1,h2,h3,aJ]
     rw [e]
     exact rt (t3++[.d h3]) [] [] hcx (by kernel_rfl)
    | false =>
     have q3:=bne_eq_false_iff_eq.1 h3
     let t4:List (St Tryz.prog):=(t3++[.d h3,.c [7,4] (aRg (aI a0.2.1 a1).1 a1 (by(try simp only [Lt]);omega) (by omega) (hp h0).1 (hp h0).2.1)])
     cases h4:(((iB (aI a0.2.1 a1).1 a1).2:Int) != 0) with
     | true =>
      have q4:=bne_iff_ne.1 h4
      have e:=Eq.refl (bA a0 a1);conv at e=>rhs;simp only [bA,h0,h1,h2,h3,h4,aJ]
      rw [e]
      exact rt (t4++[.d h4]) [] [] hcx (by kernel_rfl)
     | false =>
      have q4:=bne_eq_false_iff_eq.1 h4
      have e:=Eq.refl (bA a0 a1);conv at e=>rhs;simp only [bA,h0,h1,h2,h3,h4,aJ]
      rw [e]
      exact rt (t4++[.d h4]) [] [] hcx (by kernel_rfl)
theorem aYd:W (0 - 256)=-256:=rfl
theorem aE2 {n:Int} (h:F83 n<=256)(h2:n≥-256):-256<=n/\n<=256:=by
 unfold F83 at h
 split at h<;>omega
theorem aE3 {n:Int} (h:-256<=n/\n<=256):F83 n<=256:=by
 unfold F83
 rw [aF (by omega) (by omega)]
 split<;>omega
theorem aBb (x:P3):F49 x 256=true↔bd 256 x:=by
 unfold F49 bd
 rw [aYd]
 constructor
 ·intro h
  by_cases h1:F83 x.1<=256<;>by_cases h2:F83 x.2.1<=256<;>by_cases h3:F83 x.2.2<=256<;>simp [h1,h2,h3] at h
  exact⟨aE2 h1 h.1,aE2 h2 h.2.1,aE2 h3 h.2.2⟩
 ·intro h
  have h1:=aE3 h.1;have h2:=aE3 h.2.1;have h3:=aE3 h.2.2
  simp [h1,h2,h3,h.1.1,h.2.1.1,h.2.2.1]
theorem aC1 (n:Int):nZ n (-256) 256=decide (-256<=n/\n<=256):=by
 unfold nZ
 by_cases h1:-256<=n<;>by_cases h2:n<=256<;>simp [h1,h2]
noncomputable def dsW (p x:P3):Int:=W ((W ((W ((W (p.1 - x.1))*(W (p.1 - x.1))))+(W ((W (p.2.1 - x.2.1))*(W (p.2.1 - x.2.1))))))+(W ((W (p.2.2 - x.2.2))*(W (p.2.2 - x.2.2)))))
theorem aU4 {p x:P3} (hp:bd 64 p)(hx:bd 256 x):0<=dsW p x/\dsW p x<=400000:=by
 unfold bd at hp hx
 have e1:W (p.1 - x.1)=p.1 - x.1:=aF (by omega) (by omega)
 have e2:W (p.2.1 - x.2.1)=p.2.1 - x.2.1:=aF (by omega) (by omega)
 have e3:W (p.2.2 - x.2.2)=p.2.2 - x.2.2:=aF (by omega) (by omega)
 have b1:=bR (a:=320) (b:=320) (x:=p.1 - x.1) (y:=p.1 - x.1) (by omega) (by omega)
 have b2:=bR (a:=320) (b:=320) (x:=p.2.1 - x.2.1) (y:=p.2.1 - x.2.1) (by omega) (by omega)
 have b3:=bR (a:=320) (b:=320) (x:=p.2.2 - x.2.2) (y:=p.2.2 - x.2.2) (by omega) (by omega)
 have n1:0<=(p.1 - x.1)*(p.1 - x.1):=by rcases Int.le_total 0 (p.1 - x.1) with h | h;exact Int.mul_nonneg h h;exact Int.mul_nonneg_of_nonpos_of_nonpos h h
 have n2:0<=(p.2.1 - x.2.1)*(p.2.1 - x.2.1):=by rcases Int.le_total 0 (p.2.1 - x.2.1) with h | h;exact Int.mul_nonneg h h;exact Int.mul_nonneg_of_nonpos_of_nonpos h h
 have n3:0<=(p.2.2 - x.2.2)*(p.2.2 - x.2.2):=by rcases Int.le_total 0 (p.2.2 - x.2.2) with h | h;exact Int.mul_nonneg h h;exact Int.mul_nonneg_of_nonpos_of_nonpos h h
 unfold dsW
 simp only [e1,e2,e3]
 generalize (p.1 - x.1)*(p.1 - x.1)=a at *
 generalize (p.2.1 - x.2.1)*(p.2.1 - x.2.1)=b at *
 generalize (p.2.2 - x.2.2)*(p.2.2 - x.2.2)=c at *
 rw [aF (n:=a) (by omega) (by omega),aF (n:=b) (by omega) (by omega),aF (n:=c) (by omega) (by omega),aF (n:=a+b) (by omega) (by omega),aF (n:=a+b+c) (by omega) (by omega)]
 omega
noncomputable def aC2 (m:ME)(x:P3):Int:=m.1.foldl (fun v p=>fV v (dsW p x)) 0
theorem aBc {x:P3} (hx:bd 256 x):∀(l:List P3) (v:Int),(∀p∈l,bd 64 p)->0<=v/\v<=400000->0<=l.foldl (fun v p=>fV v (dsW p x)) v/\l.foldl (fun v p=>fV v (dsW p x)) v<=400000
 | [],v,_,h=>h
 | p::l,v,hp,h=>by
  rw [List.foldl_cons]
  have:=aU4 (hp p List.mem_cons_self) hx
  have:=nO v (dsW p x)
  exact aBc hx l _ (fun y hy=>hp y (List.mem_cons_of_mem _ hy)) (by omega)
theorem aKf (m:ME)(x:P3):aB (pB m x) (tN ((m.1.length:Int) - 0)+1) (0,0)=((F29 (aC2 m x)).1.2,(F29 (aC2 m x)).2):=by
 have key:=aX (S:=pB m x) (fun v i=>(v,i)) (fun v p=>.inl (fV v (dsW p x))) (fun v=>((F29 v).1.2,(F29 v).2)) (L:=m.1) (v:=0) (n:=tN ((m.1.length:Int) - 0)+1) (fun _ _=>True) ?_ (fun _ _ _ _ _ _ _=>trivial) ?_ (by omega) trivial
 ·refine Eq.trans key ?_
  rw [bM];rfl
 ·intro i c hc v _
  obtain⟨hlt,hce⟩:=List.getElem?_eq_some_iff.1 hc
  simp only [pB]
  rw [cA (by omega),cond_true,bE hc];rfl
 ·intro v _
  simp only [pB]
  rw [cT (by omega),cond_false]
theorem aRk (m:ME)(x:P3):aB (qW m x) (tN ((m.1.length:Int) - 0)+1) (0,0)=((F52 (aC2 m x)).1.2,(F52 (aC2 m x)).2):=by
 have key:=aX (S:=qW m x) (fun v i=>(v,i)) (fun v p=>.inl (fV v (dsW p x))) (fun v=>((F52 v).1.2,(F52 v).2)) (L:=m.1) (v:=0) (n:=tN ((m.1.length:Int) - 0)+1) (fun _ _=>True) ?_ (fun _ _ _ _ _ _ _=>trivial) ?_ (by omega) trivial
 ·refine Eq.trans key ?_
  rw [bM];rfl
 ·intro i c hc v _
  obtain⟨hlt,hce⟩:=List.getElem?_eq_some_iff.1 hc
  simp only [qW]
  rw [cA (by omega),cond_true,bE hc];rfl
 ·intro v _
  simp only [qW]
  rw [cT (by omega),cond_false]
theorem aRl (m:ME)(x:P3):F10 m x=F24 m x:=by
 unfold F10 F24
 rw [show wW (m.1,m.2)=fW (m.1,m.2) from(aEl m).symm,aC1,aC1,aC1]
 cases h:(((fW (m.1,m.2)):Int) != 0) with
 | true=>rfl
 | false =>
  rw [cond_false,cond_false]
  by_cases hb:bd 256 x
  ·rw [(aBb x).2 hb,cA hb.1,cA hb.2.1,cA hb.2.2]
   simp only [Bool.not_true,cond_false]
   have hv:fW m=0:=bne_eq_false_iff_eq.1 h
   obtain⟨_,_,_,hpt,_⟩:=eL hv
   unfold F54 at hpt
   have hpb:=aIo m _ 0 _ (by omega) hpt
   have hall:∀p∈m.1,bd 64 p:=fun p hp=>by
    obtain⟨j,hj,e⟩:=List.getElem_of_mem hp
    have:=hpb j (Nat.zero_le _) hj
    rw [eU,List.getElem?_eq_getElem hj,Option.getD_some,e] at this
    exact this
   have hB:0<=aC2 m x/\aC2 m x<=400000:=aBc hb m.1 0 hall (by omega)
   rw [aKf,aRk,aUo hB]
  ·have hs:F49 x 256=false:=by
    cases hq:F49 x 256 with
    | true=>exact absurd ((aBb x).1 hq) hb
    | false=>rfl
   rw [hs]
   simp only [Bool.not_false,cond_true]
   unfold bd at hb
   by_cases h1:-256<=x.1/\x.1<=256
   ·rw [cA h1]
    by_cases h2:-256<=x.2.1/\x.2.1<=256
    ·rw [cA h2]
     by_cases h3:-256<=x.2.2/\x.2.2<=256
     ·exact absurd ⟨h1,h2,h3⟩ hb
     ·rw [cT h3];rfl
    ·rw [cT h2];rfl
   ·rw [cT h1];rfl
noncomputable def mxF (l:List (Int×Int))(v:Int):Int:=l.foldl (fun v s=>fV v s.2) v
noncomputable def mnF (l:List (Int×Int))(v:Int):Int:=l.foldl (fun v s=>nS v s.1) v
theorem aE4 (q:List Int):W ((W (dP q*1048576))*1048576)=bO q:=by rw [aSm,aO8]
theorem aPj {l:List (Int×Int)} (hl:1<=l.length)(hp:∀s∈l,1<=s.2):mxF l (l.getD (tN 0) dF).2=mxF l 0:=by
 cases l with
 | nil=>simp at hl
 | cons s t =>
  have hs:=hp s List.mem_cons_self
  show t.foldl (fun v s=>fV v s.2) (fV s.2 s.2)=t.foldl (fun v s=>fV v s.2) (fV 0 s.2)
  rw [show fV s.2 s.2=s.2 from by unfold fV;split<;>rfl,show fV 0 s.2=s.2 from by unfold fV;rw [if_pos (by omega)]]
theorem aRm (l:List (Int×Int))(q:List Int):iA l q=pA (W (Int.tdiv (bO q) (mxF l (l.getD (tN 0) dF).2))):=by
 unfold iA
 have key:=aX (S:=fR l q) (fun v i=>(v,i)) (fun v s=>.inl (fV v s.2)) (fun v=>pA (W (Int.tdiv (bO q) v))) (L:=l) (v:=(l.getD (tN 0) dF).2) (n:=tN ((l.length:Int) - 0)+1) (fun _ _=>True) ?_ (fun _ _ _ _ _ _ _=>trivial) ?_ (by omega) trivial
 ·refine Eq.trans key ?_
  rw [bM];rfl
 ·intro i c hc v _
  obtain⟨hlt,hce⟩:=List.getElem?_eq_some_iff.1 hc
  simp only [fR]
  rw [cA (by omega),cond_true,bE hc];rfl
 ·intro v _
  simp only [fR]
  rw [cT (by omega),cond_false]
theorem aRn (l:List (Int×Int))(q:List Int):iB l q=pA (kX (bO q) (mnF l (l.getD (tN 0) dF).1)):=by
 unfold iB
 have key:=aX (S:=fS l q) (fun v i=>(v,i)) (fun v s=>.inl (nS v s.1)) (fun v=>pA (kX (bO q) v)) (L:=l) (v:=(l.getD (tN 0) dF).1) (n:=tN ((l.length:Int) - 0)+1) (fun _ _=>True) ?_ (fun _ _ _ _ _ _ _=>trivial) ?_ (by omega) trivial
 ·refine Eq.trans key ?_
  rw [bM];rfl
 ·intro i c hc v _
  obtain⟨hlt,hce⟩:=List.getElem?_eq_some_iff.1 hc
  simp only [fS]
  rw [cA (by omega),cond_true,bE hc];rfl
 ·intro v _
  simp only [fS]
  rw [cT (by omega),cond_false]
theorem aGp {α:Type}:∀(L:List α) (j:Nat),(L.foldl (fun(p:List Int×Nat) _=>(p.1.set p.2 1,p.2+1)) (List.replicate j 1++List.replicate L.length 0,j)).1=List.replicate (j+L.length) 1
 | [],j=>by simp
 | c::L,j=>by
  rw [List.foldl_cons]
  have e:(List.replicate j (1:Int)++List.replicate (L.length+1) 0).set j 1=List.replicate (j+1) 1++List.replicate L.length 0:=by
   rw [List.set_append_right (h:=by rw [List.length_replicate];exact Nat.le_refl _),List.length_replicate,Nat.sub_self,List.replicate_succ,List.set_cons_zero,List.replicate_succ' (n:=j),List.append_assoc];rfl
  simp only [List.length_cons]
  rw [e,aGp L (j+1)]
  congr 1;omega
theorem aE5 (m:ME):jV m=m.2.map fun _=>1:=by
 unfold jV
 have key:=aX (S:=qV m) (fun(v:List Int×Nat) i=>(v.1,i)) (fun v _=>.inl (v.1.set v.2 1,v.2+1)) (fun v=>v.1) (L:=m.2) (v:=(List.replicate (tN (m.2.length:Int)) 0,0)) (n:=tN ((((tN (m.2.length:Int)):Nat):Int) - 0)+1) (fun i v=>v.2=i) ?_ (fun i c hc v v' hv h=>by simp only [Sum.inl.injEq] at h;subst h;show v.2+1=i+1;omega) ?_ (by omega) rfl
 ·refine Eq.trans key ?_
  rw [bM]
  simp only [xH]
  have:=aGp m.2 0
  simp only [List.replicate_zero,List.nil_append,Nat.zero_add] at this
  rw [sJ,this,List.map_const']
 ·intro i c hc v hv
  obtain⟨hlt,hce⟩:=List.getElem?_eq_some_iff.1 hc
  simp only [qV]
  rw [cA (by omega),cond_true,sJ,hv];rfl
 ·intro v _
  simp only [qV]
  rw [cT (by omega),cond_false]
theorem aRo (m:ME):jV m=F20 m:=by rw [aE5,aPh]
noncomputable def bxS (v:P3×P3)(p:P3):P3×P3:=((nS v.1.1 p.1,nS v.1.2.1 p.2.1,nS v.1.2.2 p.2.2),(fV v.2.1 p.1,fV v.2.2.1 p.2.1,fV v.2.2.2 p.2.2))
noncomputable def bxV (m:ME):P3×P3:=(m.1.drop 1).foldl bxS (m.1.getD (tN 0) dF,m.1.getD (tN 0) dF)
noncomputable def aLl (n:Int):Int:=Int.fdiv n (2 ^ (min (tN 1) 64))
noncomputable def aE6 (v:P3×P3):P3:=(aLl (W (v.1.1+v.2.1)),aLl (W (v.1.2.1+v.2.2.1)),aLl (W (v.1.2.2+v.2.2.2)))
theorem aPk {m:ME} (h:1<=m.1.length):F25 m=aE6 (bxV m):=by
 unfold F25
 have key:=aAs (S:=tS m) (fun(v:P3×P3) i=>(i,v.1.1,v.1.2.1,v.1.2.2,v.2.1,v.2.2.1,v.2.2.2)) (fun v p=>.inl (bxS v p)) (fun v=>aE6 v) (L:=m.1) (fun _ _=>True) ?_ (fun _ _ _ _ _ _ _=>trivial) ?_ (m.1.drop 1) 1 (tN ((m.1.length:Int) - 1)+1) (m.1.getD (tN 0) dF,m.1.getD (tN 0) dF) rfl h (by rw [List.length_drop];omega) trivial
 ·refine Eq.trans key ?_
  rw [bM];rfl
 ·intro i c hc v _
  obtain⟨hlt,hce⟩:=List.getElem?_eq_some_iff.1 hc
  simp only [tS]
  rw [cA (by omega),cond_true,bE hc];rfl
 ·intro v _
  simp only [tS]
  rw [cT (by omega),cond_false];rfl
theorem aSq {m:ME} (h:fW m=0):qU m=((bxV m).1,(bxV m).2,0):=by
 have hp:=(nJ (m:=m) (by rw [h];rfl)).1
 unfold qU
 rw [show fW (m.1,m.2)=0 from h,show(((0:Int)) != 0)=false from rfl,cond_false]
 have key:=aX (S:=pC m) (fun(v:P3×P3) i=>(i,v.1.1,v.1.2.1,v.1.2.2,v.2.1,v.2.2.1,v.2.2.2)) (fun v p=>.inl (bxS v p)) (fun v=>(v.1,v.2,0)) (L:=m.1) (v:=(m.1.getD (tN 0) dF,m.1.getD (tN 0) dF)) (n:=tN ((m.1.length:Int) - 0)+1) (fun _ _=>True) ?_ (fun _ _ _ _ _ _ _=>trivial) ?_ (by omega) trivial
 ·refine Eq.trans key ?_
  rw [bM]
  have e:m.1.foldl bxS (m.1.getD (tN 0) dF,m.1.getD (tN 0) dF)=bxV m:=by
   unfold bxV
   generalize m.1=l at hp ⊢
   cases l with
   | nil=>simp at hp
   | cons p t =>
    show t.foldl bxS (bxS (p,p) p)=t.foldl bxS (p,p)
    have n1:∀a:Int,nS a a=a:=fun a=>by unfold nS;split<;>rfl
    have n2:∀a:Int,fV a a=a:=fun a=>by unfold fV;split<;>rfl
    rw [show bxS (p,p) p=(p,p) from by unfold bxS;simp only [n1,n2]]
  rw [e];rfl
 ·intro i c hc v _
  obtain⟨hlt,hce⟩:=List.getElem?_eq_some_iff.1 hc
  simp only [pC]
  rw [cA (by omega),cond_true,bE hc];rfl
 ·intro v _
  simp only [pC]
  rw [cT (by omega),cond_false]
theorem aYe {n:Int} (h:0<=n/\n<=400000):(F29 n).2=0:=by
 obtain⟨r,hr,e⟩:=aSj h
 obtain⟨h0,h1,h2⟩:=hr
 rw [e]
 unfold yF
 have hb:r<=1073741824:=by
  by_cases hc:r<=1073741824
  ·exact hc
  ·have:=Int.mul_le_mul (show(1073741824:Int)<=r by omega) (show(1073741824:Int)<=r by omega) (by omega) (by omega)
   omega
 have hx:(if r*r=n*1099511627776 then r else r+1)=r\/(if r*r=n*1099511627776 then r else r+1)=r+1:=by split<;>simp
 generalize (if r*r=n*1099511627776 then r else r+1)=s at hx ⊢
 rw [aCq (by omega) (by omega) (by omega)]
theorem aE7 {n:Int} (h:-128<=n/\n<=128):-64<=aLl n/\aLl n<=64:=by
 unfold aLl
 rw [show((2:Int) ^ (min (tN 1) 64))=2 from by decide,Int.fdiv_eq_ediv_of_nonneg _ (by decide)]
 omega
theorem aPl:∀(l:List P3) (v:P3×P3),(∀p∈l,bd 64 p)->bd 64 v.1->bd 64 v.2->bd 64 (l.foldl bxS v).1/\bd 64 (l.foldl bxS v).2
 | [],v,_,h1,h2=>⟨h1,h2⟩
 | p::l,v,hp,h1,h2=>by
  rw [List.foldl_cons]
  have hb:=hp p List.mem_cons_self
  unfold bd at h1 h2 hb
  refine aPl l _ (fun y hy=>hp y (List.mem_cons_of_mem _ hy)) ?_ ?_
  ·have a:=vY v.1.1 p.1;have b:=vY v.1.2.1 p.2.1;have c:=vY v.1.2.2 p.2.2
   unfold bd bxS;simp only;omega
  ·have a:=nO v.2.1 p.1;have b:=nO v.2.2.1 p.2.1;have c:=nO v.2.2.2 p.2.2
   unfold bd bxS;simp only;omega
theorem aKg {m:ME} (hv:fW m=0):∀p∈m.1,bd 64 p:=fun p hp=>by
 obtain⟨_,_,_,hpt,_⟩:=eL hv
 unfold F54 at hpt
 have hpb:=aIo m _ 0 _ (by omega) hpt
 obtain⟨j,hj,e⟩:=List.getElem_of_mem hp
 have:=hpb j (Nat.zero_le _) hj
 rw [eU,List.getElem?_eq_getElem hj,Option.getD_some,e] at this
 exact this
theorem aU5 {m:ME} (hv:fW m=0):bd 64 (aE6 (bxV m)):=by
 have hall:=aKg hv
 have hp:=(nJ (m:=m) (by rw [hv];rfl)).1
 have h0:bd 64 (m.1.getD (tN 0) dF):=by
  rw [eU,List.getElem?_eq_getElem (show tN 0 < m.1.length from hp),Option.getD_some]
  exact hall _ (List.getElem_mem _)
 obtain⟨a,b⟩:=aPl (m.1.drop 1) (m.1.getD (tN 0) dF,m.1.getD (tN 0) dF) (fun p hp=>hall p (List.mem_of_mem_drop hp)) h0 h0
 change bd 64 (bxV m).1 at a
 change bd 64 (bxV m).2 at b
 unfold bd at a b
 unfold bd aE6
 rw [aF (n:=(bxV m).1.1+(bxV m).2.1) (by omega) (by omega),aF (n:=(bxV m).1.2.1+(bxV m).2.2.1) (by omega) (by omega),aF (n:=(bxV m).1.2.2+(bxV m).2.2.2) (by omega) (by omega)]
 exact⟨aE7 (by omega),aE7 (by omega),aE7 (by omega)⟩
theorem aE8 {m:ME} {d:Int} (h:fW m=0)(hd:0<=d/\d<=2):¬(((cC (m.1,m.2) d).2:Int) != 0)=true:=by
 rw [show cC (m.1,m.2) d=_ from aGn h hd];show ¬((0:Int) != 0)=true;decide
theorem aE9 {m:ME} {d:Int} (h:fW m=0)(hd:0<=d/\d<=2):¬(((cJ (m.1,m.2) d).2:Int) != 0)=true:=by
 rw [show cJ (m.1,m.2) d=_ from aJ7 h hd];show ¬((0:Int) != 0)=true;decide
theorem aFa {m:ME} (h:fW m=0):¬(((qU (m.1,m.2)).2.2:Int) != 0)=true:=by
 rw [show qU (m.1,m.2)=_ from aSq h];show ¬((0:Int) != 0)=true;decide
def lT (a0:Zm)(a1:Int):((Zm)×(List (List (Int×Int)))×(List (List (Int×Int)))×Int)×Int :=
 (bif (((cC (a0.1,a0.2) a1).2:Int) != 0) then
  dF
 else
  (bif (((cJ (a0.1,a0.2) a1).2:Int) != 0) then
   dF
  else
   (bif (((qU (a0.1,a0.2)).2.2:Int) != 0) then
    dF
   else
    (((a0.1,a0.2),(cC (a0.1,a0.2) a1).1,(cJ (a0.1,a0.2) a1).1,(F10 (a0.1,a0.2) ((Int.fdiv (W ((qU (a0.1,a0.2)).1.1+(qU (a0.1,a0.2)).2.1.1)) (2 ^ (min (tN 1) 64))),(Int.fdiv (W ((qU (a0.1,a0.2)).1.2.1+(qU (a0.1,a0.2)).2.1.2.1)) (2 ^ (min (tN 1) 64))),(Int.fdiv (W ((qU (a0.1,a0.2)).1.2.2+(qU (a0.1,a0.2)).2.1.2.2)) (2 ^ (min (tN 1) 64))))).1),(F10 (a0.1,a0.2) ((Int.fdiv (W ((qU (a0.1,a0.2)).1.1+(qU (a0.1,a0.2)).2.1.1)) (2 ^ (min (tN 1) 64))),(Int.fdiv (W ((qU (a0.1,a0.2)).1.2.1+(qU (a0.1,a0.2)).2.1.2.1)) (2 ^ (min (tN 1) 64))),(Int.fdiv (W ((qU (a0.1,a0.2)).1.2.2+(qU (a0.1,a0.2)).2.1.2.2)) (2 ^ (min (tN 1) 64))))).2))))
theorem C14 (a0:Zm)(a1:Int)(l0_1:a0.1.length<=2^63-1)(l0_2:a0.2.length<=2^63-1)(hv:fW a0=0)(hd:0<=a1/\a1<=2):Con Tryz.prog 14 [(.a [(.s 0 0 a0.1.length 3),(.s 1 0 a0.2.length 3)]),(iv a1)] [(.live false true (flat dQ a0.1)),(.live false true (flat eE a0.2))] (.t [(.a [(.s 0 0 a0.1.length 3),(.s 1 0 a0.2.length 3),(.s 2 0 (lT a0 a1).1.2.1.length 1),(.s 3 0 (lT a0 a1).1.2.2.1.length 1),(iv (lT a0 a1).1.2.2.2)]),(iv (lT a0 a1).2)]) [(.live true true (flat iH (lT a0 a1).1.2.1)),(.live true true (flat iH (lT a0 a1).1.2.2.1))]:=by
 refine aK Tryz.func14 (by kernel_rfl) fun cx hcx=>?_
 let t0:List (St Tryz.prog):=[.c [0,1] (aQ5 (a0.1,a0.2) a1 (by(try simp only [Lt]);omega) (by(try simp only [Lt]);omega))]
 cases h0:(((cC (a0.1,a0.2) a1).2:Int) != 0) with
 | true =>
  have q0:=bne_iff_ne.1 h0
  first | exact absurd h0 (aE8 hv hd) | exact absurd h1 (aE9 hv hd) | exact absurd h2 (aFa hv)
 | false =>
  have q0:=bne_eq_false_iff_eq.1 h0
  let t1:List (St Tryz.prog):=(t0++[.d h0,.c [0,1] (aQ6 (a0.1,a0.2) a1 (by(try simp only [Lt]);omega) (by(try simp only [Lt]);omega))])
  cases h1:(((cJ (a0.1,a0.2) a1).2:Int) != 0) with
  | true =>
   have q1:=bne_iff_ne.1 h1
   first | exact absurd h0 (aE8 hv hd) | exact absurd h1 (aE9 hv hd) | exact absurd h2 (aFa hv)
  | false =>
   have q1:=bne_eq_false_iff_eq.1 h1
   let t2:List (St Tryz.prog):=(t1++[.d h1,.c [0,1] (C34 (a0.1,a0.2) (by(try simp only [Lt]);omega) (by(try simp only [Lt]);omega))])
   cases h2:(((qU (a0.1,a0.2)).2.2:Int) != 0) with
   | true =>
    have q2:=bne_iff_ne.1 h2
    first | exact absurd h0 (aE8 hv hd) | exact absurd h1 (aE9 hv hd) | exact absurd h2 (aFa hv)
   | false =>
    have q2:=bne_eq_false_iff_eq.1 h2
    have e:=Eq.refl (lT a0 a1);conv at e=>rhs;simp only [lT,h0,h1,h2,aJ]
    try rw [e]
    exact rt (t2++[.d h2,.p (show 0<=(1:Int) from by decide),.p (show 0<=(1:Int) from by decide),.p (show 0<=(1:Int) from by decide),.c [0,1] (C10 (a0.1,a0.2) ((Int.fdiv (W ((qU (a0.1,a0.2)).1.1+(qU (a0.1,a0.2)).2.1.1)) (2 ^ (min (tN 1) 64))),(Int.fdiv (W ((qU (a0.1,a0.2)).1.2.1+(qU (a0.1,a0.2)).2.1.2.1)) (2 ^ (min (tN 1) 64))),(Int.fdiv (W ((qU (a0.1,a0.2)).1.2.2+(qU (a0.1,a0.2)).2.1.2.2)) (2 ^ (min (tN 1) 64)))) (by(try simp only [Lt]);omega) (by(try simp only [Lt]);omega))]) [] [4,5] hcx (by kernel_rfl)
theorem aPm {m:ME} (hv:fW m=0):(F10 m (aE6 (bxV m))).2=0:=by
 have hb:=aU5 hv
 have hb2:bd 256 (aE6 (bxV m)):=by unfold bd at hb ⊢;omega
 unfold F10
 rw [show fW (m.1,m.2)=0 from hv,aC1,aC1,aC1,cA hb2.1,cA hb2.2.1,cA hb2.2.2]
 show(aB (pB m (aE6 (bxV m))) (tN ((m.1.length:Int) - 0)+1) (0,0)).2=0
 rw [aKf]
 exact aYe (aBc hb2 m.1 0 (aKg hv) (by omega))
theorem aBd {m:ME} {d:Int} (h:fW m=0)(hd:0<=d/\d<=2):lT m d =
 (((m.1,m.2),(cC m d).1,(cJ m d).1,(F10 m (aE6 (bxV m))).1),0):=by
 have h1:=Bool.eq_false_iff.2 (aE8 h hd)
 have h2:=Bool.eq_false_iff.2 (aE9 h hd)
 have h3:=Bool.eq_false_iff.2 (aFa h)
 have hB:=aPm h
 have e:qU (m.1,m.2)=((bxV m).1,(bxV m).2,0):=aSq h
 unfold lT
 rw [h1,cond_false,h2,cond_false,h3,cond_false]
 rw [←hB,e]
 rfl
theorem aC3 {m:ME} {q:List Int} {d:Int} (h:((eQ m q d:Int) != 0)=false):fW m=0/\0<=d/\d<=2:=by
 rw [wX] at h
 obtain⟨hc,hd⟩:=gO (bne_eq_false_iff_eq.1 h)
 exact⟨hc.v,hd⟩
abbrev TBL:=ME×TB×TB×Int
structure BndPre (T:TBL) (q:List Int):Prop where
 hr:∀r∈T.2.1,r.length<=q.length
 hn:T.2.1.length<=96
 hm:q.length<=96
 hl:T.2.2.1.length=q.length
 hs:∀r∈T.2.2.1,r.length=q.length
 hp:(((aI T.2.1 q).2:Int) != 0)=false->1<=(aI T.2.1 q).1.length/\(∀s∈(aI T.2.1 q).1,1<=s.1)/\(∀s∈(aI T.2.1 q).1,1<=s.2)
 he:(((cV T.2.2.1 q).2:Int) != 0)=false->W (Int.tdiv (W (Int.tdiv (bO q) 1048576)) 1048576)≠0/\kX (cV T.2.2.1 q).1.2 (W (Int.tdiv (W (Int.tdiv (bO q) 1048576)) 1048576))≠0
theorem aLm {m:ME} {q:List Int} {d:Int} (hC:ChOK m q)(hd:0<=d/\d<=2)(h:(((aI (cC m d).1 q).2:Int) != 0)=false) :
 1<=(aI (cC m d).1 q).1.length/\(∀s∈(aI (cC m d).1 q).1,1<=s.1)/\(∀s∈(aI (cC m d).1 q).1,1<=s.2):=by
 have e:(cC m d).1=(aZ m).map (kT m d):=by rw [aGn hC.v hd];rfl
 have hn:=hC.n;have hl:=hC.len;have hs:=hC.pos
 have hpl:(aZ m).length=m.2.length:=List.length_map _
 have hrow:∀r∈(aZ m).map (kT m d),r.length=q.length/\∀s∈r,okP s:=fun r hr=>by
  obtain⟨p,hp,rfl⟩:=List.mem_map.1 hr
  unfold kT
  refine⟨by rw [List.length_map];omega,fun s hsm=>?_⟩
  obtain⟨p',hp',rfl⟩:=List.mem_map.1 hsm
  exact(lG (rV hC.v hd hp' hp)).2
 rw [e,aPa (fun r hr=>by rw [(hrow r hr).1];exact Nat.le_refl _) (by omega)] at h ⊢
 have hp:=aKb hrow hC.ok (bne_eq_false_iff_eq.1 h)
 refine⟨by rw [hp.1,List.length_map];omega,fun s hs'=>?_,fun s hs'=>?_⟩
 ·have:=hp.2 s hs';omega
 ·have:=hp.2 s hs';omega
theorem aPn {m:ME} {q:List Int} {d:Int} (hC:ChOK m q)(hd:0<=d/\d<=2)(h:(((cV (cJ m d).1 q).2:Int) != 0)=false) :
 W (Int.tdiv (W (Int.tdiv (bO q) 1048576)) 1048576)≠0/\kX (cV (cJ m d).1 q).1.2 (W (Int.tdiv (W (Int.tdiv (bO q) 1048576)) 1048576))≠0:=by
 have e:(cJ m d).1=MT m d:=by rw [aJ7 hC.v hd];rfl
 have hn:=hC.n;have hl:=hC.len;have hs:=hC.pos;have hle:=hC.le
 have hpl:(aZ m).length=m.2.length:=List.length_map _
 rw [e,aX4 (by omega) (by omega)] at h ⊢
 obtain⟨hp,hv⟩:=aPe hC hd (bne_eq_false_iff_eq.1 h)
 rw [aEw hC.ok hC.pos (by omega)]
 unfold vs at hv
 have:=(aPf (a:=(fJ (((aZ m).zip q).flatMap (eC m q d))).1.2) (n:=q.sum) (by omega) (by omega)).1
 exact⟨by omega,by omega⟩
theorem cS {m:ME} {q:List Int} {d:Int} (h:((eQ m q d:Int) != 0)=false):BndPre (lT m d).1 q:=by
 obtain⟨hv,hd⟩:=aC3 h
 have p1:=aQ9 h
 have p2:=aUy h
 have hC:ChOK m q:=by rw [wX] at h;exact(gO (bne_eq_false_iff_eq.1 h)).1
 rw [aBd hv hd]
 exact⟨p1.1,p1.2.1,p1.2.2,p2.1,p2.2.1,fun h0=>aLm hC hd h0,fun h0=>aPn hC hd h0⟩
theorem kU (m:ME):(jV m).length=m.2.length:=by rw [aE5,List.length_map]
def iC (a0:Zm)(a1:List Int)(a2:Int):(Int×Int)×Int :=
 (bif (((eQ (a0.1,a0.2) a1 a2):Int) != 0) then
  ((0,0),(eQ (a0.1,a0.2) a1 a2))
 else
  (bif (((lT (a0.1,a0.2) a2).2:Int) != 0) then
   ((0,0),(lT (a0.1,a0.2) a2).2)
  else
   ((bA ((a0.1,a0.2),(lT (a0.1,a0.2) a2).1.2.1,(lT (a0.1,a0.2) a2).1.2.2.1,(lT (a0.1,a0.2) a2).1.2.2.2) a1).1,(bA ((a0.1,a0.2),(lT (a0.1,a0.2) a2).1.2.1,(lT (a0.1,a0.2) a2).1.2.2.1,(lT (a0.1,a0.2) a2).1.2.2.2) a1).2)))
theorem aYf (a0:Zm)(a1:List Int)(a2:Int)(l0_1:a0.1.length<=2^63-1)(l0_2:a0.2.length<=2^63-1)(l1:a1.length<=2^63-1):Con Tryz.prog 30 [(.a [(.s 0 0 a0.1.length 3),(.s 1 0 a0.2.length 3)]),(.s 2 0 a1.length 1),(iv a2)] [(.live false true (flat dQ a0.1)),(.live false true (flat eE a0.2)),(.live false true (flat c3 a1))] (.t [(.a (k2 (iC a0 a1 a2).1)),(iv (iC a0 a1 a2).2)]) []:=by
 refine aK Tryz.func30 (by kernel_rfl) fun cx hcx=>?_
 try have hx1:=(cS h0).hn
 try have hx2:=(cS h0).hm
 try have hx3:=(cS h0).hl
 let t0:List (St Tryz.prog):=[.c [0,1,2] (aXr (a0.1,a0.2) a1 a2 (by(try simp only [Lt]);omega) (by(try simp only [Lt]);omega) (by omega))]
 cases h0:(((eQ (a0.1,a0.2) a1 a2):Int) != 0) with
 | true =>
  have q0:=bne_iff_ne.1 h0
  try have hx1:=(cS h0).hn
  try have hx2:=(cS h0).hm
  try have hx3:=(cS h0).hl
  have e:=Eq.refl (iC a0 a1 a2);conv at e=>rhs;simp only [iC,h0,aJ]
  rw [e]
  exact rt (t0++[.d h0]) [] [] hcx (by kernel_rfl)
 | false =>
  have q0:=bne_eq_false_iff_eq.1 h0
  try have hx1:=(cS h0).hn
  try have hx2:=(cS h0).hm
  try have hx3:=(cS h0).hl
  let t1:List (St Tryz.prog):=(t0++[.d h0,.c [0,1] (C14 (a0.1,a0.2) a2 (by(try simp only [Lt]);omega) (by(try simp only [Lt]);omega) (aC3 h0).1 (aC3 h0).2)])
  cases h1:(((lT (a0.1,a0.2) a2).2:Int) != 0) with
  | true =>
   have q1:=bne_iff_ne.1 h1
   try have hx1:=(cS h0).hn
   try have hx2:=(cS h0).hm
   try have hx3:=(cS h0).hl
   have e:=Eq.refl (iC a0 a1 a2);conv at e=>rhs;simp only [iC,h0,h1,aJ]
   rw [e]
   exact rt (t1++[.d h1]) [] [] hcx (by kernel_rfl)
  | false =>
   have q1:=bne_eq_false_iff_eq.1 h1
   try have hx1:=(cS h0).hn
   try have hx2:=(cS h0).hm
   try have hx3:=(cS h0).hl
   have e:=Eq.refl (iC a0 a1 a2);conv at e=>rhs;simp only [iC,h0,h1,aJ]
   rw [e]
   exact rt (t1++[.d h1,.c [0,1,5,6,2] (aPi ((a0.1,a0.2),(lT (a0.1,a0.2) a2).1.2.1,(lT (a0.1,a0.2) a2).1.2.2.1,(lT (a0.1,a0.2) a2).1.2.2.2) a1 (by(try simp only [Lt]);omega) (by(try simp only [Lt]);omega) (by(try simp only [Lt]);omega) (by(try simp only [Lt]);omega) (by(try simp only [Lt]);omega) (cS h0).hr (cS h0).hn (cS h0).hm (cS h0).hl (cS h0).hs (cS h0).hp (cS h0).he)]) [] [] hcx (by kernel_rfl)
def sI (a0:Zm)(a1:Int):(Int×Int)×Int :=
 (bif (((fW (a0.1,a0.2)):Int) != 0) then
  ((0,0),(fW (a0.1,a0.2)))
 else
  ((iC (a0.1,a0.2) (jV (a0.1,a0.2)) a1).1,(iC (a0.1,a0.2) (jV (a0.1,a0.2)) a1).2))
theorem C13 (a0:Zm)(a1:Int)(l0_1:a0.1.length<=2^63-1)(l0_2:a0.2.length<=2^63-1):Con Tryz.prog 13 [(.a [(.s 0 0 a0.1.length 3),(.s 1 0 a0.2.length 3)]),(iv a1)] [(.live false true (flat dQ a0.1)),(.live false true (flat eE a0.2))] (.t [(.a (k2 (sI a0 a1).1)),(iv (sI a0 a1).2)]) []:=by
 refine aK Tryz.func13 (by kernel_rfl) fun cx hcx=>?_
 try have hg:=(nI h0).2
 have ho:=kU (a0.1,a0.2)
 let t0:List (St Tryz.prog):=[.c [0,1] (C27 (a0.1,a0.2) (by(try simp only [Lt]);omega) (by(try simp only [Lt]);omega))]
 cases h0:(((fW (a0.1,a0.2)):Int) != 0) with
 | true =>
  have q0:=bne_iff_ne.1 h0
  try have hg:=(nI h0).2
  have e:=Eq.refl (sI a0 a1);conv at e=>rhs;simp only [sI,h0,aJ]
  rw [e]
  exact rt (t0++[.d h0]) [] [] hcx (by kernel_rfl)
 | false =>
  have q0:=bne_eq_false_iff_eq.1 h0
  try have hg:=(nI h0).2
  have e:=Eq.refl (sI a0 a1);conv at e=>rhs;simp only [sI,h0,aJ]
  rw [e]
  exact rt (t0++[.d h0,.c [0,1] (C18 (a0.1,a0.2) (by(try simp only [Lt]);omega) (by(try simp only [Lt]);omega) (by(try simp only [Lt]);omega)),.c [0,1,4] (aYf (a0.1,a0.2) (jV (a0.1,a0.2)) a1 (by(try simp only [Lt]);omega) (by(try simp only [Lt]);omega) (by(try simp only [Lt]);omega))]) [] [] hcx (by kernel_rfl)
end Go.Proofs.YtcmdknehplnpfaaGreat
namespace Go.Aw
open Go.RowKit
section
variable {P : Program} {T : Nat → Option TI} {cx : Cx} {N : Nat} {D : List Deferred} {ρ : Env} {s : FS} {a : Act} {W : World} {r : Option Nat} {n : Nat} {Q : Exit → Act → World → Prop}
theorem Rep.back (h:Rep cx N D ρ s a W) {base:Nat} (hbase:cx.base<=base) {N':Nat} {D':List Deferred} {ρ':Env} {s':FS} {a':Act} {W':World}
 (hr:Rep (Cx.only base W ρ (nE ρ s)) N' D' ρ' s' a' W') (hro:∀k sym cells,s'.bk k=.live false sym cells->s.bk k=.live false sym cells/\k < base):Rep cx N' D' ρ' s' a' W':=by
 have hρ:∀i,i < base->ρ' i=ρ i:=fun i hi=>(hr.old i hi).1
 have hSm:∀b,nE ρ s b->cx.mine b:=fun b hb=>(h.owns hb).2
 have hle:ρ.le ρ':=hr.fzo
 refine { defs:=hr.defs,size:=hr.size,sl:=hr.sl,bk:=fun k=>?_,apart:=hr.apart,wf1:=hr.wf1,wf2:=hr.wf2,
          kept:=h.kept.trans hr.kept (fun b hb hlt=>?_),pl:=hr.pl,old:=fun i hi=>⟨(hρ i (Nat.lt_of_lt_of_le hi hbase)).trans (h.old i hi).1,(hr.old i (Nat.lt_of_lt_of_le hi hbase)).2⟩,fzn:=fun b o ho=>⟨(hr.fzn b o ho).1,(hr.fzn b o ho).2.1,?_⟩,fzo:=fun b o ho=>hle b o (h.fzo b o ho) }
 ·have hb:=hr.bk k
  cases hx:s'.bk k with
  | un=>trivial
  | dead=>trivial
  | live own sym cells =>
   rw [hx] at hb
   cases own with
   | true =>
    rcases hb with hb | ⟨b,vs,rest,ty,h1,h2,h3,h4⟩
    ·exact .inl hb
    ·refine .inr ⟨b,vs,rest,ty,h1,?_,h3,h4⟩
     rcases h2 with h2 | h2
     ·exact .inl (Nat.le_trans h.kept.size h2)
     ·exact hSm b h2
   | false =>
    rcases hb with hb | ⟨b,o,n,vs,h1,h2,h3,h4⟩
    ·exact .inl hb
    ·refine .inr ⟨b,o,n,vs,h1,⟨h2.1,fun hne hM=>?_⟩,h3,h4⟩
     obtain⟨e1,e2⟩:=hro k sym cells hx
     have h0:=h.bk k
     rw [e1] at h0
     rcases h0 with⟨q1,q2⟩ | ⟨b0,o0,n0,vs0,q1,q2,q3,q4⟩
     ·rw [hρ k e2,q1] at h1;cases h1
     ·rw [hρ k e2,q1] at h1;cases h1
      have hl:vs0.length=vs.length:=by rw [←q3.length,h3.length]
      obtain⟨ob,hob⟩:=q2.2 (fun e=>hne (by subst e;exact List.eq_nil_of_length_eq_zero hl.symm)) hM
      exact⟨ob,hle _ _ hob⟩
  | map es =>
   rw [hx] at hb
   obtain⟨b,n,arr,q1,h2,q3,q4⟩:=hb
   refine⟨b,n,arr,q1,?_,q3,q4⟩
   rcases h2 with h2 | h2
   ·exact .inl (Nat.le_trans h.kept.size h2)
   ·exact hSm b h2
 ·rcases hSm b hb with h' | h'
  ·exact absurd h' (Nat.not_le_of_lt hlt)
  ·exact h'
 ·rcases (hr.fzn b o ho).2.2 with g | g | g
  ·exact(h.fzn b o g).2.2
  ·exact .inr (.inl (Nat.le_trans h.kept.size g))
  ·exact .inr (hSm b g)
abbrev Row:=Nat×Nat×List SV
def aZn (nn:Nat)(r:Row):Value:=.slice (some ⟨r.1,0,none⟩) nn r.2.1
structure RowOK (cx:Cx) (ρ:Env) (s:FS) (W:World) (nn es:Nat) (r:Row):Prop where
 pl:Plain r.2.2
 len:r.2.2.length=nn*es
 cap:nn<=r.2.1
 mine:cx.mine r.1
 own:¬nE ρ s r.1
 fz:ρ.fz r.1=none
 at':∃(vs rest:List Value) (ty:TypeId),Rels ρ r.2.2 vs/\W.heap[r.1]? = some (.cells (vs++rest).toArray ty (0,0))/\r.2.1*es<=(vs++rest).length
structure TabOK (cx:Cx) (ρ:Env) (s:FS) (W:World) (nn es:Nat) (rows:List (Option Row)):Prop where
 row:∀(i:Nat) (r:Row),rows[i]? = some (some r)->RowOK cx ρ s W nn es r
 ne:∀(i j:Nat) (r q:Row),i≠j->rows[i]? = some (some r)->rows[j]? = some (some q)->r.1≠q.1
def aZq (P:Program)(r:Option Nat)(n:Nat)(Q:Exit->Act->World->Prop)(cx:Cx)(D:List Deferred)(nn es:Nat)(rows:List (Option Row))(k:List K)(s:LS):Prop :=
 ∀(ρ:Env) (a:Act) (W:World),Rep cx s.sl.length D ρ s.fs a W->TabOK cx ρ s.fs W nn es rows->dJ r n P Q k .normal a W
def BK.ro:BK->Option (Bool×List SV)
 | .live false sy c=>some (sy,c)
 | _=>none
def roE (b:Nat)(l m:List BK):Prop:=(l.take b).map BK.ro=(m.take b).map BK.ro/\((l.drop b).all fun x=>x.ro.isNone)=true
theorem aRp {l m:List BK} {b:Nat} (h:roE b l m) {k:Nat} {sy:Bool} {c:List SV} (hk:l[k]? = some (.live false sy c)):m[k]? = some (.live false sy c)/\k < b:=by
 rcases Nat.lt_or_ge k b with hlt | hge
 ·have h1:((l.take b).map BK.ro)[k]? = some (some (sy,c)):=by
   rw [List.getElem?_map,List.getElem?_take,if_pos hlt,hk];rfl
  rw [h.1,List.getElem?_map,List.getElem?_take,if_pos hlt] at h1
  cases hm:m[k]? with
  | none=>rw [hm] at h1;cases h1
  | some y =>
   rw [hm] at h1
   simp only [Option.map_some,aP] at h1
   cases y with
   | live o s2 c2=>cases o with
    | true=>simp [BK.ro] at h1
    | false=>simp only [BK.ro,aP,cI] at h1;obtain⟨rfl,rfl⟩:=h1;exact⟨rfl,hlt⟩
   | un=>simp [BK.ro] at h1
   | dead=>simp [BK.ro] at h1
   | map es=>simp [BK.ro] at h1
 ·have h2:BK.live false sy c∈l.drop b:=List.mem_of_getElem? (i:=k - b) (by rw [List.getElem?_drop,show b+(k - b)=k by omega];exact hk)
  have:=List.all_eq_true.1 h.2 _ h2
  simp [BK.ro] at this
theorem aPo {s s':LS} {b:Nat} (h:roE b s'.bk s.bk):∀k sym cells,s'.fs.bk k=.live false sym cells->s.fs.bk k=.live false sym cells/\k < b:=fun k sy c hk=>by
 have:=aRp h (zK hk)
 exact⟨aMc this.1,this.2⟩
theorem Rep.sub' (h:Rep cx N D ρ s a W) {base:Nat} (hb:∀i,i < base->s.bk i≠.un):Rep (Cx.only base W ρ (nE ρ s)) N D ρ s a W :=
 h.only (B:=0) (Turn.of_below ⟨rfl,rfl,rfl,Nat.le_refl _,fun _ _=>rfl⟩ (Nat.le_refl _)) base hb
theorem aGq {ops:Array Oper} {m:Nat} (hlow:∀i o,ops[i]? = some o->∀e∈o.after,Region.binds .any e=true->e.on < i)
 (hsuf:∀(D:Nat->Bool) i o,m<=i->ops[i]? = some o->(∀j o,ops[j]? = some o->D j=true->∀e∈o.after,Region.binds .any e=true->D e.on=true)->(∀e∈o.after,Region.binds .any e=true->D e.on=true)->∀k,k < i->D k=true) :
 ∀(fuel i:Nat) (listed:Array Bool),listed.size=ops.size->m<=i->i<=ops.size->ops.size - i<=fuel->(∀j,listed.getD j false=decide (j < i))->∀a W,wpOpsIn (Fw r) n P ops Q (List.range' i (ops.size - i)) a W->wpAnyIn (Fw r) n P .any ops Q fuel listed a W:=by
 have hun:∀(listed:Array Bool) (x:Nat),x < listed.size->(listed.getD x true=false↔listed.getD x false=false):=fun listed x hx=>by
  simp only [Array.getD_eq_getD_getElem?,Array.getElem?_eq_getElem hx,Option.getD_some]
 have hsz:∀(i:Nat) (listed:Array Bool),listed.size=ops.size->m<=i->(∀j,listed.getD j false=decide (j < i))->∀x∈Region.ready .any ops listed,x=i/\i < ops.size:=fun i listed hs hmi hl x hx=>by
  obtain⟨h1,o,ho,hall⟩:=mem_ready.1 hx
  have hxs:=(Array.getElem?_eq_some_iff.1 ho).1
  have h1':listed.getD x false=false:=by
   have hxl:x < listed.size:=by omega
   simp only [Array.getD_eq_getD_getElem?,Array.getElem?_eq_getElem hxl,Option.getD_some] at h1 ⊢
   exact h1
  rw [hl] at h1'
  have hge:i<=x:=by simpa using h1'
  rcases Nat.lt_or_ge i x with hlt | hle
  ·have:=hsuf (fun j=>decide (j < i)) x o (by omega) ho (fun j o' ho' hj e he hb=>by
    have:=hlow j o' ho' e he hb
    simp only [decide_eq_true_eq] at hj ⊢;omega) (fun e he hb=>by have:=hall e he hb;rw [hl] at this;exact this) i hlt
   simp at this
  ·obtain rfl:x=i:=by omega
   exact⟨rfl,hxs⟩
 intro fuel
 induction fuel with
 | zero =>
  intro i listed hs hmi his hf hl a W h
  obtain rfl:i=ops.size:=by omega
  simp only [Nat.sub_self,List.range'_zero,wpOpsIn] at h
  simp only [wpAnyIn]
  refine⟨?_,h⟩
  rw [List.eq_nil_iff_forall_not_mem]
  intro x hx
  have:=(hsz _ listed hs hmi hl x hx).2
  omega
 | succ fuel ih =>
  intro i listed hs hmi his hf hl a W h
  rcases Nat.lt_or_ge i ops.size with hlt | hge
  ·have hmem:i∈Region.ready .any ops listed:=by
    refine mem_ready.2 ⟨?_,ops[i],by simp [hlt],fun e he hb=>?_⟩
    ·have:=hl i
     have hil:i < listed.size:=by omega
     simp only [Array.getD_eq_getD_getElem?,Array.getElem?_eq_getElem hil,Option.getD_some] at this ⊢
     simpa using this
    ·rw [hl];simpa using hlow i ops[i] (by simp [hlt]) e he hb
   refine⟨fun hnil=>(by rw [hnil] at hmem;cases hmem),fun x hx=>?_⟩
   obtain⟨rfl,_⟩:=hsz i listed hs hmi hl x hx
   rw [show ops.size - x=(ops.size - (x+1))+1 by omega,List.range'_succ,wpOpsIn_cons] at h
   refine wpOpIn_mono (fun a' w' h'=>ih (x+1) _ (by simp [hs]) (by omega) hlt (by omega) (fun j=>?_) a' w' h') h
   by_cases hj:j=x
   ·subst hj;have hil:j < listed.size:=by omega
    simp [hil]
   ·rw [getD_set_ne false (Ne.symm hj),hl]
    simp only [decide_eq_decide];omega
  ·obtain rfl:i=ops.size:=by omega
   simp only [Nat.sub_self,List.range'_zero,wpOpsIn] at h
   refine⟨fun _=>h,fun x hx=>?_⟩
   have:=(hsz _ listed hs hmi hl x hx).2
   omega
theorem aC4 {m size:Nat} (h:m<=size) {p:Nat->Bool} (hp:∀j,m<=j->j < size->p j=true):size - m<=((List.range size).filter p).length:=by
 have:List.range size=List.range' 0 m++List.range' (0+m) (size - m):=by
  rw [List.range_eq_range',List.range'_append_1];congr 1;omega
 rw [this,List.filter_append,List.length_append]
 have h2:(List.range' (0+m) (size - m)).filter p=List.range' (0+m) (size - m):=by
  rw [List.filter_eq_self]
  intro j hj
  rw [List.mem_range'_1] at hj
  exact hp j (by omega) (by omega)
 rw [h2];simp
theorem aIt {ops:Array Oper} {evs:List Ev} {m:Nat} (hlen:evs.length=m)(hms:m<=ops.size) {s0:FS} (hm:P.follows .mixedOrders=true)
 {wr rd ard:Nat->Nat⊕Nat->Prop} {alt:Nat->Nat⊕Nat->SV⊕BK->Prop} {dep:Nat->Nat->Prop} (c:Conf m (bG ops evs) wr rd ard alt dep)
 (hrs:∀i v t,evs[i]? = some v->t∈v.rs->rd i (.inl t)) (hrb:∀i v k,evs[i]? = some v->k∈v.rb->rd i (.inr k)\/(ard i (.inr k)/\∀y,alt i (.inr k) y->∃b,y=.inr b/\(k,b)∈v.alt))
 (hlow:∀i o,ops[i]? = some o->∀e∈o.after,Region.binds .any e=true->e.on < i)
 (hdep:∀(D:Nat->Bool) i o,i < m->ops[i]? = some o->(∀j o,ops[j]? = some o->D j=true->∀e∈o.after,Region.binds .any e=true->D e.on=true)->(∀e∈o.after,Region.binds .any e=true->D e.on=true)->∀k,dep i k->D k=true)
 (hsuf:∀(D:Nat->Bool) i o,m<=i->ops[i]? = some o->(∀j o,ops[j]? = some o->D j=true->∀e∈o.after,Region.binds .any e=true->D e.on=true)->(∀e∈o.after,Region.binds .any e=true->D e.on=true)->∀k,k < i->D k=true)
 (hloc:∀i v,evs[i]? = some v->mX P r n cx N D ops i (SD (bG ops evs) (fun _=>true) s0 i) v)
 (hrep:Rep cx N D ρ s0 a W)
 (hK:∀ρ' a' W',Rep cx N D ρ' (SD (bG ops evs) (fun _=>true) s0 m) a' W'->wpOpsIn (Fw r) n P ops Q (List.range' m (ops.size - m)) a' W') {id:Nat} :
 (Code.region id ops true).wpIn (Fw r) n P Q a W:=by
 refine wpIn_region_any hm ?_
 have hrep':Rep cx N D ρ s0 a { W with drawn:=W.drawn+1 }:=hrep.grow ⟨rfl,rfl,rfl,Nat.le_refl _,fun _ _=>rfl⟩ (Nat.le_succ _)
 have key:∀fuel (listed:Array Bool),listed.size=ops.size->((List.range ops.size).filter fun j=>!listed.getD j false).length<=fuel ->
  (∀j o,ops[j]? = some o->listed.getD j false=true->∀e∈o.after,Region.binds .any e=true->listed.getD e.on false=true) ->
  (∀j,m<=j->listed.getD j false=false) ->
  ∀ρ a W,Rep cx N D ρ (SD (bG ops evs) (fun j=>listed.getD j false) s0 m) a W->wpAnyIn (Fw r) n P .any ops Q fuel listed a W:=by
  intro fuel
  induction fuel with
  | zero =>
   intro listed hsz hfew hcl hoff ρ a W h
   have hge:=aC4 hms (p:=fun j=>!listed.getD j false) (fun j hj _=>by rw [hoff j hj];rfl)
   have hall:∀j,j < m->listed.getD j false=true:=fun j hj=>by
    have h0:(List.range ops.size).filter (fun j=>!listed.getD j false)=[]:=List.length_eq_zero_iff.1 (by omega)
    have:=(List.filter_eq_nil_iff.1 h0) j (by simp;omega)
    simpa using this
   have hS:∀q,q<=m->SD (bG ops evs) (fun j=>listed.getD j false) s0 q=SD (bG ops evs) (fun _=>true) s0 q:=by
    intro q
    induction q with
    | zero=>intro _;rfl
    | succ q ihm=>intro hm';simp only [SD,ihm (by omega),hall q (by omega)]
   refine aGq hlow hsuf 0 m listed hsz (Nat.le_refl _) hms (by omega) (fun j=>?_) a W (hK ρ a W (hS m (Nat.le_refl _)▸h))
   rcases Nat.lt_or_ge j m with hj | hj
   ·rw [hall j hj];simp [hj]
   ·rw [hoff j hj];simp;omega
  | succ fuel ih =>
   intro listed hsz hfew hcl hoff ρ a W h
   by_cases hdone:∀j,j < m->listed.getD j false=true
   ·have hS:∀q,q<=m->SD (bG ops evs) (fun j=>listed.getD j false) s0 q=SD (bG ops evs) (fun _=>true) s0 q:=by
     intro q
     induction q with
     | zero=>intro _;rfl
     | succ q ihm=>intro hm';simp only [SD,ihm (by omega),hdone q (by omega)]
    have hge:=aC4 hms (p:=fun j=>!listed.getD j false) (fun j hj _=>by rw [hoff j hj];rfl)
    refine aGq hlow hsuf (fuel+1) m listed hsz (Nat.le_refl _) hms (by omega) (fun j=>?_) a W (hK ρ a W (hS m (Nat.le_refl _)▸h))
    rcases Nat.lt_or_ge j m with hj | hj
    ·rw [hdone j hj];simp [hj]
    ·rw [hoff j hj];simp;omega
   ·refine⟨fun hnil=>?_,fun i hi=>?_⟩
    ·exfalso
     refine hdone fun j=>?_
     induction j using Nat.strongRecOn with
     | ind j ihj =>
      intro hj
      cases hlj:listed.getD j false with
      | true=>rfl
      | false =>
       exfalso
       have hjs:j < ops.size:=by omega
       have ho:ops[j]? = some ops[j]:=by simp [hjs]
       have:j∈Region.ready .any ops listed:=by
        refine mem_ready.2 ⟨?_,ops[j],ho,fun e he hb=>ihj e.on (hlow j _ ho e he hb) (by have:=hlow j _ ho e he hb;omega)⟩
        have hjl:j < listed.size:=by omega
        simp only [Array.getD_eq_getD_getElem?,Array.getElem?_eq_getElem hjl,Option.getD_some] at hlj ⊢
        exact hlj
       rw [hnil] at this;cases this
    ·obtain⟨h1,o,ho,hall⟩:=mem_ready.1 hi
     have his:=(Array.getElem?_eq_some_iff.1 ho).1
     have hil:i < listed.size:=by omega
     have hDi:listed.getD i false=false:=by
      simp only [Array.getD_eq_getD_getElem?,Array.getElem?_eq_getElem hil,Option.getD_some] at h1 ⊢
      exact h1
     have him:i < m:=by
      rcases Nat.lt_or_ge i m with h' | h'
      ·exact h'
      ·exact(hdone fun j hj=>hsuf (fun j=>listed.getD j false) i o h' ho hcl hall j (by omega)).elim
     have hie:i < evs.length:=by omega
     have hev:evs[i]? = some evs[i]:=by simp [hie]
     have hD':∀j,(listed.setIfInBounds i true).getD j false=(listed.getD j false || decide (j=i)):=fun j=>by
      by_cases hj:j=i
      ·subst hj;simp [hil]
      ·rw [getD_set_ne false (Ne.symm hj)];simp [hj]
     have hclo:∀j k,j < m->listed.getD j false=true->dep j k->listed.getD k false=true:=fun j k hj hDj hd =>
      hdep (fun j=>listed.getD j false) j (ops[j]'(by omega)) hj (by simp) hcl (hcl j (ops[j]'(by omega)) (by simp) hDj) k hd
     have hcond:∀k,dep i k->listed.getD k false=true:=fun k hk=>hdep (fun j=>listed.getD j false) i o him ho hcl hall k hk
     have hlo:∀j,listed.getD j false=true->j < m:=fun j hj=>by
      rcases Nat.lt_or_ge j m with h' | h'
      ·exact h'
      ·rw [hoff j h'] at hj;cases hj
     refine hloc i evs[i] hev (SD (bG ops evs) (fun j=>listed.getD j false) s0 m) (fun t ht=>?_) (fun k hk=>?_) ρ a W Q _ h (fun ρ' a' W' h'=>?_)
     ·have:=c.reads (s0:=s0) him hDi hclo hcond (hrs i _ t hev ht)
      simpa [FS.at'] using this
     ·rcases hrb i _ k hev hk with h5 | ⟨h5,h6⟩
      ·have:=c.reads (s0:=s0) him hDi hclo hcond h5
       exact .inl (by simpa [FS.at'] using this)
      ·rcases c.areads (s0:=s0) him hDi hclo hcond h5 with h7 | h7
       ·exact .inl (by simpa [FS.at'] using h7)
       ·obtain⟨b,e,hb⟩:=h6 _ h7
        have e':(SD (bG ops evs) (fun j=>listed.getD j false) s0 m).bk k=b:=by simpa [FS.at'] using e
        exact .inr (by rw [e'];exact hb)
     ·refine ih (listed.setIfInBounds i true) (by simp [hsz]) ?_ (fun j o' ho' hj e he hb=>?_) (fun j hj=>?_) ρ' a' W' ?_
      ·have:=uM (p:=fun j=>!listed.getD j false) (q:=fun j=>!(listed.setIfInBounds i true).getD j false) (i:=i) (fun j hj=>by
        rw [hD'] at hj;simp at hj ⊢;exact hj.1) (by simp only [hDi];rfl) (by rw [hD'];simp) (List.range ops.size) (by simp [his])
       omega
      ·rw [hD'] at hj ⊢
       by_cases hji:j=i
       ·subst hji
        rw [ho] at ho';cases ho'
        simp [hall e he hb]
       ·simp only [hji,decide_false,Bool.or_false] at hj
        simp [hcl j o' ho' hj e he hb]
      ·rw [hD',hoff j hj];simp;omega
      ·have hadd:=c.add (s0:=s0) him hDi hD' hclo hlo
       rw [hadd]
       simp only [bG,hev]
       exact h'
 have h0:∀j,(Array.replicate ops.size false).getD j false=false:=fun j=>by
  rcases Nat.lt_or_ge j ops.size with h' | h'
  ·simp [h']
  ·simp [Array.getElem?_eq_none (xs:=Array.replicate ops.size false) (by simpa using h')]
 refine key ops.size (Array.replicate ops.size false) (by simp) (Nat.le_trans (List.length_filter_le _ _) (by simp)) (fun j o _ hj=>by rw [h0] at hj;cases hj) (fun j _=>h0 j) ρ a _ ?_
 have:SD (bG ops evs) (fun j=>(Array.replicate ops.size false).getD j false) s0 m=s0:=by
  have:∀m,SD (bG ops evs) (fun j=>(Array.replicate ops.size false).getD j false) s0 m=s0:=by
   intro m
   induction m with
   | zero=>rfl
   | succ m ihm=>have hm0:=h0 m;simp only [SD];exact(if_neg (by rw [hm0];simp)).trans ihm
  exact this _
 rw [this];exact hrep'
theorem aC5 {ops:Array Oper} (hT:iE P T) {all:List Ev} {s0:FS}:∀(l:List Oper) (i:Nat) (s:LS) (orc:List Or) (evs:List Ev) (s':LS) (obs:List Ob) (orc':List Or),iW T ops l i s orc=some (evs,s',obs,orc')->Obs P obs ->
 (∀j o,l[j]? = some o->ops[i+j]? = some o)->(∀j,evs[j]? = all[i+j]?)->s.fs=SD (bG ops all) (fun _=>true) s0 i ->
 evs.length=l.length/\s'.fs=SD (bG ops all) (fun _=>true) s0 (i+l.length)/\s'.sl.length=s.sl.length /\
  ∀j v,evs[j]? = some v->mX P r n cx s.sl.length D ops (i+j) (SD (bG ops all) (fun _=>true) s0 (i+j)) v
 | [],i,s,orc,evs,s',obs,orc',h,_,_,_,hs=>by
  simp only [iW,aP,cI] at h
  obtain⟨rfl,rfl,_,_⟩:=h
  exact⟨rfl,hs,rfl,fun j v hv=>by simp at hv⟩
 | o::l,i,s,orc,evs,s',obs,orc',h,hob,hl,he,hs=>by
  simp only [iW] at h
  split at h
  ·cases h
  ·rename_i v obs1 orc1 hv
   split at h
   ·cases h
   ·rename_i s1 happ
    split at h
    ·cases h
    ·rename_i vs s2 obs2 orc2 hrest
     simp only [aP,cI] at h
     obtain⟨rfl,rfl,rfl,rfl⟩:=h
     obtain⟨ho1,ho2⟩:=Obs.append hob
     have hi:ops[i]? = some o:=by have:=hl 0 o (by simp);simpa using this
     have hall:all[i]? = some v:=by have:=he 0;simpa using this.symm
     obtain⟨hfs,hd,hlen⟩:=yV happ
     have hs1:s1.fs=SD (bG ops all) (fun _=>true) s0 (i+1):=by
      simp only [SD,if_true,bG,hall,←hs]
      rw [hfs];simp [eV,hi]
     obtain⟨h1,h2,h3,h4⟩:=aC5 hT l (i+1) s1 orc1 vs s2 obs2 orc2 hrest ho2 (fun j o' hj=>by have:=hl (j+1) o' (by simpa using hj);simpa [Nat.add_assoc,Nat.add_comm 1 j] using this)
      (fun j=>by have:=he (j+1);simpa [Nat.add_assoc,Nat.add_comm 1 j] using this) hs1
     refine⟨by simp [h1],by rw [h2];congr 1;simp;omega,h3.trans hlen,fun j w hw=>?_⟩
     cases j with
     | zero =>
      simp at hw;subst hw
      have:=aDm (r:=r) (n:=n) (w0:=cx) (D:=D) hT hv ho1 hi hd
      rw [Nat.add_zero,←hs];exact this
     | succ j =>
      have:=h4 j w (by simpa using hw)
      rw [hlen] at this
      rw [show i+(j+1)=i+1+j by omega];exact this
def aSr (ops:Array Oper)(m:Nat):Bool:=(List.range ops.size).all fun i =>
 ((ops.toList[i]?).map fun o=>(gZ o).all fun e=>decide (e < i)).getD true&&(decide (i < m) || (List.range i).all fun j=>((rG ops.toList []).getD i 0).testBit j)
def aB0 (T:Nat->Option TI)(ops:Array Oper)(draw:Bool)(m:Nat)(s:LS)(orc:List Or):Option (LS×List Ob) :=
 match iW T ops (ops.toList.take m) 0 s orc with
 | some (evs,s',obs,[])=>if(!draw || (zB (ops.toList.take m).toArray evs&&aSr ops m))=true then some (s',obs++(if draw=true then rH (ops.toList.take m).toArray evs else [])) else none
 | _=>none
theorem jY (hT:iE P T)(hm:P.follows .mixedOrders=true) {ops:Array Oper} {draw:Bool} {m:Nat} (hms:m<=ops.size) {s s':LS} {orc:List Or} {obs:List Ob} {id:Nat}
 (h:aB0 T ops draw m s orc=some (s',obs)) (hob:Obs P obs) (hrep:Rep cx s.sl.length D ρ s.fs a W)
 (hK:∀ρ' a' W',Rep cx s'.sl.length D ρ' s'.fs a' W'->s'.sl.length=s.sl.length->wpOpsIn (Fw r) n P ops Q (List.range' m (ops.size - m)) a' W'):(Code.region id ops draw).wpIn (Fw r) n P Q a W:=by
 unfold aB0 at h
 split at h
 ·rename_i evs s1 obs1 hev
  split at h
  ·rename_i hch
   simp only [aP,cI] at h
   obtain⟨rfl,rfl⟩:=h
   obtain⟨hob1,hob2⟩:=Obs.append hob
   have hget:∀j o,(ops.toList.take m)[j]? = some o->ops[0+j]? = some o:=fun j o hj=>by
    have hjl:=(List.getElem?_eq_some_iff.1 hj).1
    rw [List.length_take] at hjl
    rw [List.getElem?_take,if_pos (by omega)] at hj
    simpa using hj
   have hlt:(ops.toList.take m).length=m:=by simp [hms]
   cases draw with
   | false =>
    refine wpIn_region ?_
    have hsz:List.range ops.size=List.range' 0 (ops.toList.take m).length++List.range' m (ops.size - m):=by
     rw [hlt,List.range_eq_range']
     have:=List.range'_append_1 (s:=0) (m:=m) (n:=ops.size - m)
     rw [Nat.zero_add] at this
     rw [this];congr 1;omega
    rw [hsz]
    exact pK hT _ 0 s _ orc [] evs obs1 hev hob1 hget ρ a W hrep (fun ρ' a' W' h' e'=>hK ρ' a' W' (by rw [e'];exact h') e')
   | true =>
    simp only [Bool.not_true,Bool.false_or,Bool.and_eq_true] at hch
    obtain⟨hrace,hsufc⟩:=hch
    obtain⟨h1,h2,h3,h4⟩:=aC5 (ops:=ops) (r:=r) (n:=n) (cx:=cx) (D:=D) (all:=evs) (s0:=s.fs) hT _ 0 s orc evs _ obs1 [] hev hob1 hget (fun j=>by simp) rfl
    have hlen:evs.length=m:=by rw [h1,hlt]
    have hlenA:evs.length=(ops.toList.take m).toArray.size:=by rw [h1];simp
    obtain⟨c,hlowA⟩:=sS hlenA hrace hob2
    have hdst:∀i,i < m->eV (ops.toList.take m).toArray i=eV ops i:=fun i hi=>by
     simp only [eV,List.getElem?_toArray,List.getElem?_take,hi,if_true,Array.getElem?_toList]
    have hstep:bG (ops.toList.take m).toArray evs=bG ops evs:=by
     funext i s
     unfold bG
     cases hv:evs[i]? with
     | none=>rfl
     | some v =>
      have:=(List.getElem?_eq_some_iff.1 hv).1
      simp only []
      rw [hdst i (by omega)]
    rw [hstep,←hlenA,hlen] at c
    have hA:∀i o,i < m->ops[i]? = some o->(ops.toList.take m).toArray[i]? = some o:=fun i o hi ho=>by
     simp only [List.getElem?_toArray,List.getElem?_take,hi,if_true,Array.getElem?_toList];exact ho
    have hB:∀i o,(ops.toList.take m).toArray[i]? = some o->ops[i]? = some o:=fun i o ho=>by
     have:=hget i o (by rw [←List.getElem?_toArray];exact ho);simpa using this
    unfold aSr at hsufc
    simp only [List.all_eq_true,List.mem_range,Bool.and_eq_true] at hsufc
    have hlow:∀i o,ops[i]? = some o->∀e∈o.after,Region.binds .any e=true->e.on < i:=fun i o ho e he hb=>by
     have:=(hsufc i (Array.getElem?_eq_some_iff.1 ho).1).1
     have ho':ops.toList[i]? = some o:=by simpa using ho
     rw [ho'] at this
     simp only [Option.map_some,Option.getD_some,List.all_eq_true,decide_eq_true_eq] at this
     exact this e.on (mZ.2 ⟨e,he,hb,rfl⟩)
    refine aIt hlen hms hm c (fun i v t hv ht=>⟨v,hv,?_⟩) (fun i v k hv hk=>?_) hlow (fun D i o hi ho hcl hd k hk=>?_) (fun D i o hi ho hcl hd k hk=>?_) (fun i v hv=>by have:=h4 i v hv;simpa using this) hrep (fun ρ' a' W' h'=>hK ρ' a' W' (by rw [h3,h2,hlt,Nat.zero_add];exact h') h3)
    ·simp only [rdC,eD];exact List.mem_append_left _ (List.mem_map.2 ⟨t,ht,rfl⟩)
    ·by_cases hal:k∈v.alt.map (·.1)
     ·obtain⟨q,hq,rfl⟩:=List.mem_map.1 hal
      refine .inr ⟨⟨v,hv,by simp only [aDk,eD];exact List.mem_map.2 ⟨q,hq,rfl⟩⟩,fun y hy=>?_⟩
      obtain⟨v',k',b,hv',hk',hb,rfl⟩:=hy
      rw [hv] at hv';cases hv'
      cases hk'
      exact⟨b,rfl,hb⟩
     ·refine .inl ⟨v,hv,?_⟩
      simp only [rdC,eD]
      exact List.mem_append_right _ (List.mem_map.2 ⟨k,List.mem_filter.2 ⟨hk,by simpa using hal⟩,rfl⟩)
    ·exact rI (ops:=(ops.toList.take m).toArray) (fun j o' hj=>hcl j o' (hB j o' hj)) hlowA i o (hA i o hi ho) hd k hk.2
    ·have hall:=(hsufc i (Array.getElem?_eq_some_iff.1 ho).1).2
     rw [show decide (i < m)=false by simpa using hi,Bool.false_or,List.all_eq_true] at hall
     exact rI hcl hlow i o ho hd k (hall k (by simpa using hk))
  ·cases h
 ·cases h
end
end Go.Aw
namespace Go.Aw
open Go.RowKit
section
variable {P : Program} {T : Nat → Option TI} {cx : Cx} {N : Nat} {D : List Deferred} {ρ : Env} {s : LS} {a : Act} {W : World} {r : Option Nat} {n : Nat} {Q : Exit → Act → World → Prop}
theorem aU6 {l:List SV} {t:Nat} (ht:t < l.length) {x:SV} {u:Nat}:(l.set t x).getD u .u=if u=t then x else l.getD u .u:=by
 simp only [eU,List.getElem?_set]
 by_cases hu:t=u
 ·subst hu;simp [ht]
 ·rw [if_neg hu,if_neg (fun e=>hu e.symm)]
theorem aPp (hT:iE P T) {ops:Array Oper} {m:Nat} (hms:m<=ops.size) {s s':LS} {orc:List Or} {obs:List Ob} (h:evS T ops (ops.toList.drop m) m s orc=some (s',obs))(hob:Obs P obs)(hrep:Rep cx s.sl.length D ρ s.fs a W)
 (hK:∀ρ' a' W',Rep cx s'.sl.length D ρ' s'.fs a' W'->s'.sl.length=s.sl.length->Q .normal a' W'):wpOpsIn (Fw r) n P ops Q (List.range' m (ops.size - m)) a W:=by
 obtain⟨evs,hev⟩:=oN h
 have hlen:(ops.toList.drop m).length=ops.size - m:=by simp
 have:=pK (r:=r) (n:=n) (cx:=cx) (D:=D) (P:=P) (Q:=Q) (rest:=[]) hT (ops.toList.drop m) m s s' orc [] evs obs hev hob (fun j o hj=>by rw [List.getElem?_drop] at hj;simpa using hj) ρ a W hrep
  (fun ρ' a' W' h' e'=>by simp only [wpOpsIn];exact hK ρ' a' W' (by rw [e'];exact h') e')
 rw [List.append_nil,hlen] at this
 exact this
def BK.kn:BK->Bool
 | .un=>false
 | _=>true
def cR (nn:Nat)(x:Row):List SV:=[.v (aZn nn x)]
def cD (nn es:Nat)(x:Row):List SV:=[.d x.2.2 nn es]
def gP (T:Nat->Option TI)(ops:Array Oper)(draw:Bool)(m:Nat)(s:LS)(orc:List Or):LS:=((aB0 T ops draw m s orc).map (·.1)).getD s
theorem qI {ops:Array Oper} {draw:Bool} {m:Nat} {s:LS} {orc:List Or} {obs:List Ob} (h:(aB0 T ops draw m s orc).map (·.2)=some obs):aB0 T ops draw m s orc=some (gP T ops draw m s orc,obs):=by
 unfold gP
 cases hp:aB0 T ops draw m s orc with
 | none=>rw [hp] at h;cases h
 | some x=>rw [hp] at h;simp only [Option.map_some,aP] at h;subst h;rfl
def evL (T:Nat->Option TI)(ops:Array Oper)(m:Nat)(s:LS)(orc:List Or):LS:=((evS T ops (ops.toList.drop m) m s orc).map (·.1)).getD s
theorem aPq {ops:Array Oper} {m:Nat} {s:LS} {orc:List Or} {obs:List Ob} (h:(evS T ops (ops.toList.drop m) m s orc).map (·.2)=some obs):evS T ops (ops.toList.drop m) m s orc=some (evL T ops m s orc,obs):=by
 unfold evL
 cases hp:evS T ops (ops.toList.drop m) m s orc with
 | none=>rw [hp] at h;cases h
 | some x=>rw [hp] at h;simp only [Option.map_some,aP] at h;subst h;rfl
def aRq (ads:List Adj)(s:LS):LS:=(oI ads s).getD s
theorem aLn {ads:List Adj} {s:LS} (h:(oI ads s).isSome=true):oI ads s=some (aRq ads s):=by
 unfold aRq
 cases hp:oI ads s with
 | none=>rw [hp] at h;cases h
 | some x=>rfl
def aM:Code->Nat×Array Oper×Bool
 | .region i o d=>(i,o,d)
 | _=>(0,#[],false)
section tab
variable {α : Type} {c : α → List SV} {nn : Nat}
def aZo (c:α->List SV)(nn:Nat):List (Option Row)->List (List α)->Prop
 | [],[]=>True
 | o::v,l::m=>(match o with
  | none=>l=[]
  | some x=>l.length=nn/\x.2.2=flat c l)/\aZo c nn v m
 | _,_=>False
end tab
end
end Go.Aw
namespace Go.Aw
open Go.RowKit
def PP (cx:Cx)(t:Nat)(res:SV)(nb mb:List BK)(e:Ending)(W':World):Prop :=
 ∃v,e=.panicked [{ v:=.iface t v,recovered:=false }]/\RR cx res nb mb (.returned v) W'
def Pan (P:Program)(f:Nat)(args:List SV)(bs:List BK)(t:Nat)(res:SV)(nb mb:List BK):Prop:=kH P f /\
 ∀(ρ:Env) (W:World) (vs:List Value),Rels ρ args vs->(∀i,BRep ρ (dC ρ W bs).mine W i (bs.getD i .un))->(∀i,(bs.getD i .un).pl) ->
   (∀i j b n b' n',i≠j->(bs.getD i .un).own->(bs.getD j .un).own->ρ i=some (b,0,n)->ρ j=some (b',0,n')->b≠b') ->
   (∀b o,ρ.fz b=some o->W.heap[b]? = some o.obj/\∀i n,(bs.getD i .un).own->ρ i≠some (b,0,n)) ->
   Calls P f vs.toArray W (PP (dC ρ W bs) t res nb mb)
section
variable {P : Program} {T : Nat → Option TI} {cx : Cx} {D : List Deferred} {r : Option Nat} {n : Nat} {Q : Exit → Act → World → Prop}
theorem aYg {f:Nat} {fn:Func} {args:List SV} {bs:List BK} {t:Nat} {res:SV} {nb mb:List BK} (hf:P.funcs[f]? = some fn)
 (hc : (fn.body.isSome && !(fn.name == "runtime.NumGoroutine") && decide (args.length ≤ fn.ntmps) && bs.all oE && belowL bs.length args && bs.all (oF bs.length)) = true)
 (h:∀cx:Cx,cx.base=bs.length->Good P none 9 (bodyPost P fn (PP cx t res nb mb)) cx [] [.c (aG fn)] (jJ fn.ntmps args bs)):Pan P f args bs t res nb mb:=by
 simp only [Bool.and_eq_true,Bool.not_eq_true',decide_eq_true_eq] at hc
 obtain⟨⟨⟨⟨⟨h1,h2⟩,h3⟩,h4⟩,h5⟩,h6⟩:=hc
 obtain⟨c,hb⟩:=Option.isSome_iff_exists.1 h1
 have e:aG fn=c:=by unfold aG;rw [hb];rfl
 refine⟨ent hf h2 hb,fun ρ W vs hargs hbs hpl hap hfz=>?_⟩
 refine(calls_of_wp (R:=PP (dC ρ W bs) t res nb mb) hf hb ?_)
 have hrep:=mC h3 (by rw [h4,h5,h6];rfl) hargs hbs hpl hap hfz
 have:=h (dC ρ W bs) rfl ρ _ W hrep
 simp only [dJ] at this
 rw [e] at this
 exact(wpIn_wide (n:=9)).1 this
theorem aU7 {f:Nat} {fn:Func} {args:List SV} {bs:List BK} {res:SV} {nb mb:List BK} (hf:P.funcs[f]? = some fn)
 (hc : (fn.body.isSome && !(fn.name == "runtime.NumGoroutine") && decide (args.length ≤ fn.ntmps) && bs.all oE && belowL bs.length args && bs.all (oF bs.length)) = true)
 (h:∀cx:Cx,cx.base=bs.length->Good P none 9 (bodyPostD P fn (RR cx res nb mb)) cx [] [.c (aG fn)] (jJ fn.ntmps args bs)):Con P f args bs res nb mb:=by
 simp only [Bool.and_eq_true,Bool.not_eq_true',decide_eq_true_eq] at hc
 obtain⟨⟨⟨⟨⟨h1,h2⟩,h3⟩,h4⟩,h5⟩,h6⟩:=hc
 obtain⟨c,hb⟩:=Option.isSome_iff_exists.1 h1
 have e:aG fn=c:=by unfold aG;rw [hb];rfl
 refine⟨ent hf h2 hb,fun ρ W vs hargs hbs hpl hap hfz=>?_⟩
 refine(calls_of_wp_defers (R:=RR (dC ρ W bs) res nb mb) hf hb ?_)
 have hrep:=mC h3 (by rw [h4,h5,h6];rfl) hargs hbs hpl hap hfz
 have:=h (dC ρ W bs) rfl ρ _ W hrep
 simp only [dJ] at this
 rw [e] at this
 exact(wpIn_wide (n:=9)).1 this
theorem aRr (hT:iE P T)(hm:P.follows .mixedOrders=true) {fn:Func} {f:Nat} {k:List K} {s:LS} (sts:List (St P))(ads:List Adj)(ms ks:List Nat) {base:Nat} (hb:cx.base=base) {res:SV} {nb mb:List BK}
 (h:oG T fn.results.toList base ms ks (lL ads (run T f k s (mQ sts)))=some (res,nb,mb,stB sts)):Good P none n (bodyPostD P fn (RR cx res nb mb)) cx [] k s:=by
 subst hb
 unfold oG at h
 split at h
 ·rename_i s' obs' hrun
  split at h
  ·rename_i res' nb' mb' hf
   simp only [aP,cI] at h
   obtain⟨rfl,rfl,rfl,rfl⟩:=h
   obtain⟨o',hr,hg⟩:=jP (P:=P) (r:=none) (n:=n) (Q:=bodyPostD P fn (RR cx res' nb' mb')) (cx:=cx) (D:=[]) hrun
   refine dK hT hm f k s _ _ _ _ hr (zL sts) (hg (fun ρ a W hrep=>?_))
   obtain⟨hd,v,hv,hR⟩:=rJ (P:=P) (fn:=fn) hT hf ρ a W hrep
   show Leaves P fn a.tmps _ a.defers .returning W
   rw [hd]
   exact⟨v,hv,hR⟩
  ·cases h
 ·cases h
theorem aRs (hT:iE P T) {x:Nat} {ms ks:List Nat} {s:LS} {res:SV} {nb mb:List BK} (h:fin T [.tmp x] cx.base ms ks s=some (res,nb,mb)) {ρ:Env} {a:Act} {W:World} (hrep:Rep cx s.sl.length D ρ s.fs a W) :
 RR cx res nb mb (.returned (a.tmps.getD x undef)) W:=by
 let fn:Func:={ (dF:Func) with results:=#[.tmp x] }
 have hrep':Rep cx s.sl.length [] ρ s.fs { a with defers:=[] } W:={ hrep with defs:=rfl }
 obtain⟨_,v,hv,hR⟩:=rJ (P:=P) (fn:=fn) hT h ρ _ W hrep'
 have:v=a.tmps.getD x undef:=by
  rw [kN] at hv
  simp only [fn,List.mapM_toArray,List.mapM_cons,List.mapM_nil,wL,Sem.run_bind,Sem.run_pure,pure_bind,bind_pure_comp,Result.andThen_ok] at hv
  simpa using hv.symm
 rw [this] at hR
 exact hR
theorem aIu (hT:iE P T)(hm:P.follows .mixedOrders=true) {fn:Func} {B:Code} (hB:B=.region (aM B).1 (aM B).2.1 (aM B).2.2)(m t x y:Nat) {k:List K} {s:LS} (sts:List (St P))(ads:List Adj)(ms ks:List Nat) {base:Nat} (hb:cx.base=base) {res:SV} {nb mb:List BK}
 (hms:(aM B).2.1.size=m+2)
 (h1:(aB0 T (aM B).2.1 (aM B).2.2 m s (mQ sts)).map (·.2)=some (stB sts))
 (ha:(oI ads (gP T (aM B).2.1 (aM B).2.2 m s (mQ sts))).isSome=true)
 (hf:fin T [.tmp x] base ms ks (aRq ads (gP T (aM B).2.1 (aM B).2.2 m s (mQ sts)))=some (res,nb,mb))
 (hq1:((aM B).2.1[m]?.map fun o=>(o.op,o.guard,o.dst))=some (.makeInterface t (.tmp x),none,some y))
 (hq2:((aM B).2.1[m+1]?.map fun o=>(o.op,o.guard))=some (.panic (.tmp y),none))
 (hy:Nat.ble (y+1) s.sl.length=true) (hi:((T t).map fun i=>match i.kind with | .st _=>true | _=>false)=some true) :
 Good P r n (bodyPost P fn (PP cx t res nb mb)) cx [] (.c B::k) s:=by
 obtain⟨o1,ho1,e1⟩:=Option.map_eq_some_iff.1 hq1
 obtain⟨o2,ho2,e2⟩:=Option.map_eq_some_iff.1 hq2
 simp only [cI] at e1 e2
 obtain⟨hp1,hg1,hd1⟩:=e1
 obtain⟨hp2,hg2⟩:=e2
 obtain⟨i,hi,hk0⟩:=Option.map_eq_some_iff.1 hi
 obtain⟨fs,hk⟩:∃fs,i.kind=.st fs:=by
  cases h:i.kind<;>rw [h] at hk0<;>first | exact⟨_,rfl⟩ | simp at hk0
 subst hb
 rw [hB]
 intro ρ a W hrep
 simp only [dJ]
 refine jY hT hm (by omega) (qI h1) (zL sts) hrep (fun ρ' a' W' hr' hl'=>?_)
 have hy':y < a'.tmps.size:=by
  have:=Nat.le_of_ble_eq_true hy
  rw [hr'.size,hl'];omega
 obtain⟨ρ2,hr2,hl2⟩:=xM ads (aLn ha) hr'
 have hR:=aRs (D:=[]) hT hf (by rw [hl2];exact hr2)
 rw [show(aM B).2.1.size - m=0+1+1 by omega,List.range'_succ,List.range'_succ,wpOpsIn_cons]
 unfold wpOpIn
 rw [ho1]
 have hw1:Region.wanted o1 (yielded (aM B).2.1 a'.tmps)=true:=by unfold Region.wanted;rw [hg1]
 simp only [hw1,if_true]
 have hnd1:∀c,o1.op≠.defer c:=fun c hc=>by rw [hp1] at hc;cases hc
 have hnd2:∀c,o2.op≠.defer c:=fun c hc=>by rw [hp2] at hc;cases hc
 obtain⟨nf,d,z,g1,g2,g3,gi⟩:=aN (hT t i hi)
 have hrun1:(execOp a'.eval o1).run P W'=.ok (.value (.iface t (a'.tmps.getD x undef))) W':=by
  rw [gi] at hk
  cases d with
  | struct fields =>
   simp only [execOp,hp1,Instr.makeInterface,Sem.run_bind,aL g2,Result.andThen_ok,Sem.run_pure]
   rfl
  | _=>simp [bF] at hk
 refine⟨fun f hf=>by simp [Fw],?_⟩
 rw [Oper.semAt_eq _ _ _ hnd1,hrun1]
 rw [Oper.uponIn_value,hd1,wpOpsIn_cons]
 unfold wpOpIn
 rw [ho2]
 have hw2:∀ys,Region.wanted o2 ys=true:=fun ys=>by unfold Region.wanted;rw [hg2]
 simp only [hw2,if_true]
 have hev:(a'.put (some y) (.iface t (a'.tmps.getD x undef))).eval (.tmp y)=.iface t (a'.tmps.getD x undef):=by
  simp [Act.put,Act.eval,hy']
 have hrun2:(execOp (a'.put (some y) (.iface t (a'.tmps.getD x undef))).eval o2).run P W'=.halt (.panic (.iface t (a'.tmps.getD x undef))) W':=by
  simp only [execOp,hp2,hev,Instr.panic,goPanic]
  rfl
 refine⟨fun f hf=>by simp [Fw],?_⟩
 rw [Oper.semAt_eq _ _ _ hnd2,hrun2,Oper.uponIn_panic]
 rw [nB (by simp) (by simp) (by simp)]
 exact⟨hr'.defs,_,rfl,hR⟩
end
end Go.Aw
namespace Go.Proofs.YtcmdknehplnpfaaGreat
open Go.Proofs Go.Aw Go.RowKit
set_option maxRecDepth 100000
theorem pn {cx:Cx} {k:List K} {s:LS} {base:Nat} {fn:Func} {B:Code} (m t x y:Nat)(sts:List (St Tryz.prog))(ads:List Adj)(ms ks:List Nat)(hb:cx.base=base) {res:SV} {nb mb:List BK}
 (hB:B=.region (aM B).1 (aM B).2.1 (aM B).2.2) (hms:(aM B).2.1.size=m+2)
 (h1:(aB0 T0 (aM B).2.1 (aM B).2.2 m s (mQ sts)).map (·.2)=some (stB sts))
 (ha:(oI ads (gP T0 (aM B).2.1 (aM B).2.2 m s (mQ sts))).isSome=true)
 (hf:fin T0 [.tmp x] base ms ks (aRq ads (gP T0 (aM B).2.1 (aM B).2.2 m s (mQ sts)))=some (res,nb,mb))
 (hq1:((aM B).2.1[m]?.map fun o=>(o.op,o.guard,o.dst))=some (.makeInterface t (.tmp x),none,some y))
 (hq2:((aM B).2.1[m+1]?.map fun o=>(o.op,o.guard))=some (.panic (.tmp y),none))
 (hy:Nat.ble (y+1) s.sl.length=true) (hi:((T0 t).map fun i=>match i.kind with | .st _=>true | _=>false)=some true):Aw.Good Tryz.prog none 9 (bodyPost Tryz.prog fn (PP cx t res nb mb)) cx [] (.c B::k) s :=
 aIu hT hm hB m t x y sts ads ms ks hb hms h1 ha hf hq1 hq2 hy hi
structure QOK (n:Nat) (q:List Int):Prop where
 len:q.length=n
 ok:∀x∈q,0<=x/\x<=100
 pos:∃x∈q,0 < x
theorem aFb {q:List Int} (h:∀x∈q,0<=x/\x<=100) {i:Nat} (y:Int):∀x∈q.set i (fV 0 (nS 100 y)),0<=x/\x<=100:=fun x hx=>by
 rcases List.mem_or_eq_of_mem_set hx with h' | rfl
 ·exact h x h'
 ·have:=nO 0 (nS 100 y);have:=vY 100 y;omega
theorem aFc (n:Nat):∀x∈List.replicate n (0:Int),0<=x/\x<=100:=fun x hx=>by
 rw [(List.mem_replicate.1 hx).2];omega
noncomputable def aFd:Code:=(aC [1,1,1,0,1] [] (aG Tryz.f38) []).1
noncomputable def aFe:List K:=(aC [1,1,1,0,1] [] (aG Tryz.f38) []).2
def aBe (a0:List Int)(v1 v2:Int):LS:=⟨fU 25 [(0,(.s 0 0 a0.length 1)),(3,(iv v1)),(4,(iv v2))],[(.live false true (flat c3 a0))]⟩
def lH (a0:List Int):Int×Int->(Int×Int)⊕(Int)
 | (v1,v2) =>
  (bif (decide ((v2:Int) < (a0.length:Int))) then
   (.inl ((fV v1 (a0.getD (tN v2) dF)),(v2+1)))
  else
   (.inr v1))
theorem aRt (a0:List Int)(l0:a0.length<=2^63-1)(hne:1<=a0.length) {cx:Cx} (hcx:cx.base=1):∀(n:Nat) (v1 v2:Int),0<=v2->tN ((a0.length:Int) - v2) < n->Aw.Good Tryz.prog none 9 (bodyPost Tryz.prog Tryz.f38 (RR cx (iv (aB (lH a0) n (v1,v2))) [] [])) cx [] (.l aFd n::aFe) (aBe a0 v1 v2):=by
 intro n
 induction n with
 | zero=>intro v1 v2 hi hn;exact absurd hn (fZ _)
 | succ n ih =>
  intro v1 v2 hi hn
  refine aH ?_
  cases h0:(decide ((v2:Int) < (a0.length:Int))) with
  | true =>
   have q0:=bS h0
   have e:=Eq.refl (lH a0 (v1,v2));conv at e=>rhs;simp only [lH,h0,aJ]
   rw [aA e]
   refine ba [.d h0,.i v2 (a0.length),.L dH a0 v2 0 1] [] [0,3,4] [] hcx (m:=n) aFd (aFe) (aBe a0 (fV v1 (a0.getD (tN v2) dF)) (W (v2+1))) (by kernel_rfl) ?_
   have z0:(W (v2+1))=(v2+1):=aF (by omega) (by omega)
   rw [z0]
   exact ih (fV v1 (a0.getD (tN v2) dF)) (v2+1) (by(try simp only [Ls]);omega) (by(try simp only [Ls]);omega)
  | false =>
   have q0:=cE h0
   have e:=Eq.refl (lH a0 (v1,v2));conv at e=>rhs;simp only [lH,h0,aJ]
   rw [aD,e]
   exact rt [.d h0] [] [] hcx (by kernel_rfl)
def tZ (a0:List Int):Int :=
 (bif (decide (((a0.length:Int):Int) < 1)) then
  dF
 else
  (aB (lH a0) (tN ((a0.length:Int) - 1)+1) ((a0.getD (tN 0) dF),1)))
theorem aYh (a0:List Int)(l0:a0.length<=2^63-1)(hne:1<=a0.length):Con Tryz.prog 38 [(.s 0 0 a0.length 1)] [(.live false true (flat c3 a0))] (iv (tZ a0)) []:=by
 refine aK Tryz.func38 (by kernel_rfl) fun cx hcx=>?_
 cases h0:(decide (((a0.length:Int):Int) < 1)) with
 | true =>
  have q0:=bS h0
  exact absurd (bS h0) (by omega)
 | false =>
  have q0:=cE h0
  have e:=Eq.refl (tZ a0);conv at e=>rhs;simp only [tZ,h0,aJ]
  rw [e]
  refine en [.d h0,.i 0 (a0.length),.L dH a0 0 0 1] [] [0,3,4] [] hcx aFd (aFe) (aBe a0 (a0.getD (tN 0) dF) 1) (tN ((a0.length:Int) - 1)+1) (by kernel_rfl) ?_
  exact aRt a0 l0 hne hcx (tN ((a0.length:Int) - 1)+1) (a0.getD (tN 0) dF) 1 (by(try simp only [Ls]);omega) (by(try simp only [Ls]);omega)
theorem mM {T R:Type} [Inhabited R] {S:T->T⊕R} (μ:T->Nat)(Pr:T->Prop)(Qr:R->Prop)(h:∀x,Pr x->(∃a,S x=.inl a/\Pr a/\μ a < μ x)\/(∃r,S x=.inr r/\Qr r)) :
 ∀(n:Nat) (x:T),Pr x->μ x < n->Qr (aB S n x)
 | 0,_,_,hn=>absurd hn (fZ _)
 | n+1,x,hx,hn=>by
  rcases h x hx with⟨a,e1,e2,e3⟩ | ⟨r,e1,e2⟩
  ·rw [aA e1];exact mM μ Pr Qr h n a e2 (by omega)
  ·rw [aO e1];exact e2
theorem aKh {q:List Int} {i:Nat} (h:i < q.length):q.getD i dF∈q:=by
 rw [eU,List.getElem?_eq_getElem h];exact List.getElem_mem h
theorem aU8 {q:List Int} (hm:(tZ q) > 0):∃x∈q,0 < x:=by
 unfold tZ at hm
 cases h0:(decide (((q.length:Int):Int) < 1)) with
 | true=>rw [h0,cond_true] at hm;exact absurd hm (by decide)
 | false =>
  rw [h0,cond_false] at hm
  have hl:=cE h0
  refine mM (fun v:Int×Int=>tN ((q.length:Int) - v.2)) (fun v:Int×Int=>0<=v.2/\(v.1 > 0->∃x∈q,0 < x)) (fun r:Int=>r > 0->∃x∈q,0 < x) (fun v hv=>?_) _ _ ⟨by show(0:Int)<=1;omega,fun h=>⟨_,aKh (i:=tN 0) (by show 0 < q.length;omega),h⟩⟩ (by show tN ((q.length:Int) - 1) < _;omega) hm
  obtain⟨v1,v2⟩:=v
  simp only at hv
  cases h1:(decide ((v2:Int) < (q.length:Int))) with
  | true =>
   have hl2:=bS h1
   refine .inl ⟨(fV v1 (q.getD (tN v2) dF),v2+1),by simp only [lH,h1,cond_true],⟨by show 0<=v2+1;omega,fun h=>?_⟩,by show tN ((q.length:Int) - (v2+1)) < tN ((q.length:Int) - v2);omega⟩
   have h':fV v1 (q.getD (tN v2) dF) > 0:=h
   rcases (nO v1 (q.getD (tN v2) dF)).2.2 with e | e
   ·exact hv.2 (by rw [e] at h';exact h')
   ·exact⟨_,aKh (i:=tN v2) (by omega),by rw [e] at h';exact h'⟩
  | false=>exact .inr ⟨v1,by simp only [lH,h1,cond_false],hv.2⟩
theorem aPr {n:Nat} {q:List Int} (hl:q.length=n)(h:∀x∈q,0<=x/\x<=100)(hm:(tZ q) > 0):QOK n q:=⟨hl,h,aU8 hm⟩
def fB (a0:List Int)(a1:(Zm)×(List (List (Int×Int)))×(List (List (Int×Int)))×Int)(a2:Int×Int)(a3:List Int):(Int×Int)×List Int :=
 (bif (((bA ((a1.1.1,a1.1.2),a1.2.1,a1.2.2.1,a1.2.2.2) a0).2:Int) == 0) then
  (bif (decide (((W ((bA ((a1.1.1,a1.1.2),a1.2.1,a1.2.2.1,a1.2.2.2) a0).1.2 - (bA ((a1.1.1,a1.1.2),a1.2.1,a1.2.2.1,a1.2.2.2) a0).1.1)):Int) < (W (a2.2 - a2.1)))) then
   ((bA ((a1.1.1,a1.1.2),a1.2.1,a1.2.2.1,a1.2.2.2) a0).1,a0)
  else
   (a2,a3))
 else
  (a2,a3))
theorem aYi (a0:List Int)(a1:(Zm)×(List (List (Int×Int)))×(List (List (Int×Int)))×Int)(a2:Int×Int)(a3:List Int)(l0:a0.length<=2^63-1)(l1_1_1:a1.1.1.length<=2^63-1)(l1_1_2:a1.1.2.length<=2^63-1)(l1_2_1:a1.2.1.length<=2^63-1)(l1_2_2_1:a1.2.2.1.length<=2^63-1)(l3:a3.length<=2^63-1)(hb:BndPre a1 a0):Con Tryz.prog 36 [(.s 0 0 a0.length 1),(.p 1 0),(.p 6 0),(.p 7 0)] [(.live true true (flat c3 a0)),(.live false false [(.s 2 0 a1.1.1.length 3),(.s 3 0 a1.1.2.length 3),(.s 4 0 a1.2.1.length 1),(.s 5 0 a1.2.2.1.length 1),(iv a1.2.2.2)]),(.live false true (flat dQ a1.1.1)),(.live false true (flat eE a1.1.2)),(.live false true (flat iH a1.2.1)),(.live false true (flat iH a1.2.2.1)),(.live true false [(iv a2.1),(iv a2.2)]),(.live true false [(.s 8 0 a3.length 1)]),(.live true true (flat c3 a3))] (.t []) [(.live true true (flat c3 (fB a0 a1 a2 a3).2))] [.dead,.un,.un,.un,.un,.un,(.live true false (k2 (fB a0 a1 a2 a3).1)),(.live true false [(.s 9 0 (fB a0 a1 a2 a3).2.length 1)]),.dead]:=by
 refine aK Tryz.func36 (by kernel_rfl) fun cx hcx=>?_
 have hx1:=hb.hn
 have hx2:=hb.hm
 have hx3:=hb.hl
 let t0:List (St Tryz.prog):=[.c [2,3,4,5,0] (aPi ((a1.1.1,a1.1.2),a1.2.1,a1.2.2.1,a1.2.2.2) a0 (by(try simp only [Lt]);omega) (by(try simp only [Lt]);omega) (by(try simp only [Lt]);omega) (by(try simp only [Lt]);omega) (by(try simp only [Lt]);omega) hb.hr hb.hn hb.hm hb.hl hb.hs hb.hp hb.he)]
 cases h0:(((bA ((a1.1.1,a1.1.2),a1.2.1,a1.2.2.1,a1.2.2.2) a0).2:Int) == 0) with
 | true =>
  have q0:=eq_of_beq h0
  let t1:List (St Tryz.prog):=(t0++[.d h0])
  cases h1:(decide (((W ((bA ((a1.1.1,a1.1.2),a1.2.1,a1.2.2.1,a1.2.2.2) a0).1.2 - (bA ((a1.1.1,a1.1.2),a1.2.1,a1.2.2.1,a1.2.2.2) a0).1.1)):Int) < (W (a2.2 - a2.1)))) with
  | true =>
   have q1:=bS h1
   have e:=Eq.refl (fB a0 a1 a2 a3);conv at e=>rhs;simp only [fB,h0,h1,aJ]
   rw [e]
   try dsimp only [fG]
   try dsimp only
   exact rtn (t1++[.d h1]) [.mv 7 0,.kill 8] [0,6,7,8] [10] hcx (by kernel_rfl)
  | false =>
   have q1:=cE h1
   have e:=Eq.refl (fB a0 a1 a2 a3);conv at e=>rhs;simp only [fB,h0,h1,aJ]
   rw [e]
   try dsimp only [fG]
   try dsimp only
   exact rtn (t1++[.d h1]) [.mv 7 0,.kill 0] [0,6,7,8] [10] hcx (by kernel_rfl)
 | false =>
  have q0:=ne_of_beq_false h0
  have e:=Eq.refl (fB a0 a1 a2 a3);conv at e=>rhs;simp only [fB,h0,aJ]
  rw [e]
  try dsimp only [fG]
  try dsimp only
  exact rtn (t0++[.d h0]) [.mv 7 0,.kill 0] [0,6,7,8] [10] hcx (by kernel_rfl)
theorem aRu (q:List Int)(T:TBL)(b:Int×Int)(c:List Int):(fB q T b c).2.length=q.length\/(fB q T b c).2.length=c.length:=by
 unfold fB
 cases ((bA ((T.1.1,T.1.2),T.2.1,T.2.2.1,T.2.2.2) q).2:Int) == 0 with
 | false=>exact .inr rfl
 | true =>
  rw [cond_true]
  cases (decide ((W ((bA ((T.1.1,T.1.2),T.2.1,T.2.2.1,T.2.2.2) q).1.2 - (bA ((T.1.1,T.1.2),T.2.1,T.2.2.1,T.2.2.2) q).1.1):Int) < W (b.2 - b.1))) with
  | true=>exact .inl rfl
  | false=>exact .inr rfl
noncomputable def aFf:Code:=(aC [1,1,1,1,1,1,1,1,1,0,1,0,1,1,0,1,1,0,1] [0] (aG Tryz.f17) []).1
noncomputable def aFg (m0:Nat):List K:=(aC [1,1,1,1,1,1,1,1,1,0,1,0,1,1,0,1,1,0,1] [m0] (aG Tryz.f17) []).2
def aBf (a0:(Zm)×(List (List (Int×Int)))×(List (List (Int×Int)))×Int)(a1:List Int)(v19c:List SV)(v19n:Nat)(v20c:List SV)(v20n:Nat)(v21c:List SV)(v21n:Nat)(v22 v23 v24 v25 v26 v27:Int):LS:=⟨fU 105 [(1,(.s 4 0 a1.length 1)),(6,(.p 5 0)),(7,(.f 36 [(.p 6 0),(.p 7 0),(.p 5 0)])),(8,(.s 8 0 (aI a0.2.1 a1).1.length 2)),(10,(iv v22)),(14,(iv v23)),(15,(.s 9 0 v19n 1)),(57,(.s 10 0 v20n 1)),(58,(iv 2)),(59,(iv v24)),(66,(.s 8 0 (aI a0.2.1 a1).1.length 2)),(67,(iv (((aI a0.2.1 a1).1.length:Nat):Int))),(68,(iv v25))],[(.live false true (flat dQ a0.1.1)),(.live false true (flat eE a0.1.2)),(.live false true (flat iH a0.2.1)),(.live false true (flat iH a0.2.2.1)),.dead,(.live true false [(.s 11 0 v21n 1)]),(.live true false [(.s 0 0 a0.1.1.length 3),(.s 1 0 a0.1.2.length 3),(.s 2 0 a0.2.1.length 1),(.s 3 0 a0.2.2.1.length 1),(iv a0.2.2.2)]),(.live true false [(iv v26),(iv v27)]),(.live true true (flat cM (aI a0.2.1 a1).1)),(.live true true v19c),(.live true true v20c),(.live true true v21c)]⟩
def fT (a0:(Zm)×(List (List (Int×Int)))×(List (List (Int×Int)))×Int)(a1:List Int):List Int×List Int×List Int×Int×Int×Int×Zt->(List Int×List Int×List Int×Int×Int×Int×Zt)⊕((List Int×List Int×Int×Zt)⊕(List Int))
 | (v19,v20,v21,v22,v23,v24,v25,v26,v27) =>
  (bif (decide ((v25:Int) < (((aI a0.2.1 a1).1.length:Nat):Int))) then
   (.inl ((v19.set (tN v25) (fV 0 (nS 100 (W (v23+(W ((W (Int.tdiv (W (v23*(W (v22 - (W (Int.tdiv (W (((aI a0.2.1 a1).1.getD (tN v25) dF).1+((aI a0.2.1 a1).1.getD (tN v25) dF).2)) 2)))))) (fV v22 1)))*2))))))),v20,v21,v22,v23,v24,(v25+1),v26,v27))
  else
   (bif (decide (((tZ v19):Int) > 0)) then
    (.inr (.inl (v20,(fB v19 ((a0.1.1,a0.1.2),a0.2.1,a0.2.2.1,a0.2.2.2) (v26,v27) v21).2,v22,(v24+1),(fB v19 ((a0.1.1,a0.1.2),a0.2.1,a0.2.2.1,a0.2.2.2) (v26,v27) v21).1.1,(fB v19 ((a0.1.1,a0.1.2),a0.2.1,a0.2.2.1,a0.2.2.2) (v26,v27) v21).1.2)))
   else
    (.inr (.inl (v20,v21,v22,(v24+1),v26,v27)))))
noncomputable def aC6:Code:=(dL [1,1,1,1,1,1,1,1,1,1] [] (aG Tryz.f17)).1
noncomputable def aC7:List K:=(dL [1,1,1,1,1,1,1,1,1,1] [] (aG Tryz.f17)).2
def aBg (a0:(Zm)×(List (List (Int×Int)))×(List (List (Int×Int)))×Int)(a1:List Int)(v28c:List SV)(v28n:Nat):LS:=⟨fU 105 [(6,(.p 5 0))],[(.live false true (flat dQ a0.1.1)),(.live false true (flat eE a0.1.2)),(.live false true (flat iH a0.2.1)),(.live false true (flat iH a0.2.2.1)),.dead,(.live true false [(.s 6 0 v28n 1)]),(.live true true v28c)]⟩
def mN (a0:(Zm)×(List (List (Int×Int)))×(List (List (Int×Int)))×Int)(a1:List Int):List Int->List Int
 | v28 =>
  v28
noncomputable def uA:Code:=(aC [1,1,1,1,1,1,1,1,1,0,1] [] (aG Tryz.f17) []).1
noncomputable def uB:List K:=(aC [1,1,1,1,1,1,1,1,1,0,1] [] (aG Tryz.f17) []).2
def pF (a0:(Zm)×(List (List (Int×Int)))×(List (List (Int×Int)))×Int)(a1:List Int)(v13c:List SV)(v13n:Nat)(v14c:List SV)(v14n:Nat)(v15 v16 v17 v18:Int):LS:=⟨fU 105 [(1,(.s 4 0 a1.length 1)),(6,(.p 5 0)),(7,(.f 36 [(.p 6 0),(.p 7 0),(.p 5 0)])),(8,(.s 8 0 (aI a0.2.1 a1).1.length 2)),(10,(iv v15)),(57,(.s 9 0 v13n 1)),(58,(iv 2)),(59,(iv v16))],[(.live false true (flat dQ a0.1.1)),(.live false true (flat eE a0.1.2)),(.live false true (flat iH a0.2.1)),(.live false true (flat iH a0.2.2.1)),.dead,(.live true false [(.s 10 0 v14n 1)]),(.live true false [(.s 0 0 a0.1.1.length 3),(.s 1 0 a0.1.2.length 3),(.s 2 0 a0.2.1.length 1),(.s 3 0 a0.2.2.1.length 1),(iv a0.2.2.2)]),(.live true false [(iv v17),(iv v18)]),(.live true true (flat cM (aI a0.2.1 a1).1)),(.live true true v13c),(.live true true v14c)]⟩
def fI (a0:(Zm)×(List (List (Int×Int)))×(List (List (Int×Int)))×Int)(a1:List Int):List Int×List Int×Int×Zt->(List Int×List Int×Int×Zt)⊕(List Int)
 | (v13,v14,v15,v16,v17,v18) =>
  (bif (decide ((v16:Int) < 2)) then
   (aB (fT a0 a1) (tN ((((aI a0.2.1 a1).1.length:Nat):Int) - 0)+1) ((List.replicate (tN (a1.length:Int)) 0),v13,v14,v15,(v13.getD (tN v16) dF),v16,0,v17,v18))
  else
   (.inr (mN a0 a1 v14)))
noncomputable def aFh:Code:=(aC [1,1,1,1,1,1,1,0,1] [] (aG Tryz.f17) []).1
noncomputable def aFi:List K:=(aC [1,1,1,1,1,1,1,0,1] [] (aG Tryz.f17) []).2
def aBh (a0:(Zm)×(List (List (Int×Int)))×(List (List (Int×Int)))×Int)(a1:List Int)(v1 v2:Int):LS:=⟨fU 105 [(1,(.s 4 0 a1.length 1)),(6,(.p 5 0)),(7,(.f 36 [(.p 6 0),(.p 7 0),(.p 5 0)])),(8,(.s 8 0 (aI a0.2.1 a1).1.length 2)),(10,(iv v1)),(38,(.s 8 0 (aI a0.2.1 a1).1.length 2)),(39,(iv (((aI a0.2.1 a1).1.length:Nat):Int))),(40,(iv v2))],[(.live false true (flat dQ a0.1.1)),(.live false true (flat eE a0.1.2)),(.live false true (flat iH a0.2.1)),(.live false true (flat iH a0.2.2.1)),.dead,(.live true false [(.s 9 0 a1.length 1)]),(.live true false [(.s 0 0 a0.1.1.length 3),(.s 1 0 a0.1.2.length 3),(.s 2 0 a0.2.1.length 1),(.s 3 0 a0.2.2.1.length 1),(iv a0.2.2.2)]),(.live true false (k2 (bA ((a0.1.1,a0.1.2),a0.2.1,a0.2.2.1,a0.2.2.2) a1).1)),(.live true true (flat cM (aI a0.2.1 a1).1)),(.live true true (flat c3 a1))]⟩
def jZ (a0:(Zm)×(List (List (Int×Int)))×(List (List (Int×Int)))×Int)(a1:List Int):Int×Int->(Int×Int)⊕(List Int)
 | (v1,v2) =>
  (bif (decide ((v2:Int) < (((aI a0.2.1 a1).1.length:Nat):Int))) then
   (.inl ((W (v1+(W (Int.tdiv (W (((aI a0.2.1 a1).1.getD (tN v2) dF).1+((aI a0.2.1 a1).1.getD (tN v2) dF).2)) 2)))),(v2+1)))
  else
   (.inr (aB (fI a0 a1) (tN (2 - 0)+1) (([4,8]:List Int),a1,(W (Int.tdiv v1 (((aI a0.2.1 a1).1.length:Nat):Int))),0,(bA ((a0.1.1,a0.1.2),a0.2.1,a0.2.2.1,a0.2.2.2) a1).1.1,(bA ((a0.1.1,a0.1.2),a0.2.1,a0.2.2.1,a0.2.2.2) a1).1.2))))
theorem aRv (a0:(Zm)×(List (List (Int×Int)))×(List (List (Int×Int)))×Int)(a1:List Int)(l0_1_1:a0.1.1.length<=2^63-1)(l0_1_2:a0.1.2.length<=2^63-1)(l0_2_1:a0.2.1.length<=2^63-1)(l0_2_2_1:a0.2.2.1.length<=2^63-1)(l1:a1.length<=2^63-1)(hv1:BndPre a0 a1)(hv2:∀q:List Int,QOK a1.length q->BndPre a0 q)(hv3:(aI a0.2.1 a1).1.length<=a1.length/\1<=(aI a0.2.1 a1).1.length)(hb0:(bA a0 a1).2=0) {cx:Cx} (hcx:cx.base=5)
 (n0:Nat) (g0:∀(v13:List Int) (v14:List Int) (v15 v16 v17 v18:Int),(0<=v16)/\(v13.length=2)/\(v14.length=a1.length)->tN (2 - v16) < n0->Aw.Good Tryz.prog none 9 (bodyPost Tryz.prog Tryz.f17 (PP cx 49 (.a [(.s 5 0 (aB (fI a0 a1) n0 (v13,v14,v15,v16,v17,v18)).length 1)]) [(.live true true (flat c3 (aB (fI a0 a1) n0 (v13,v14,v15,v16,v17,v18))))] [.un,.un,.un,.un,.dead])) cx [] (.l uA n0::uB) (pF a0 a1 (flat c3 v13) v13.length (flat c3 v14) v14.length v15 v16 v17 v18)):∀(n:Nat) (v19:List Int) (v20:List Int) (v21:List Int) (v22 v23 v24 v25 v26 v27:Int),(0<=v25)/\(v19.length=a1.length)/\((∀x∈v19,0<=x/\x<=100))/\((0<=v24))/\((v20.length=2))/\((v21.length=a1.length))/\(v24 < 2)/\(tN (2 - v24) < n0+1)->tN ((((aI a0.2.1 a1).1.length:Nat):Int) - v25) < n->Aw.Good Tryz.prog none 9 (bodyPost Tryz.prog Tryz.f17 (PP cx 49 (.a [(.s 5 0 (fG (fI a0 a1) n0 (aB (fT a0 a1) n (v19,v20,v21,v22,v23,v24,v25,v26,v27))).length 1)]) [(.live true true (flat c3 (fG (fI a0 a1) n0 (aB (fT a0 a1) n (v19,v20,v21,v22,v23,v24,v25,v26,v27)))))] [.un,.un,.un,.un,.dead])) cx [] (.l aFf n::aFg n0) (aBf a0 a1 (flat c3 v19) v19.length (flat c3 v20) v20.length (flat c3 v21) v21.length v22 v23 v24 v25 v26 v27):=by
 intro n
 induction n with
 | zero=>intro v19 v20 v21 v22 v23 v24 v25 v26 v27 hi hn;exact absurd hn (fZ _)
 | succ n ih =>
  intro v19 v20 v21 v22 v23 v24 v25 v26 v27 hi hn
  refine aH ?_
  have hx1:=hv1.hn
  have hx2:=hv1.hm
  have hx3:=hv1.hl
  have hmx:=nO v22 1
  have htl:=aRu v19 ((a0.1.1,a0.1.2),a0.2.1,a0.2.2.1,a0.2.2.2) (v26,v27) v21
  cases h0:(decide ((v25:Int) < (((aI a0.2.1 a1).1.length:Nat):Int))) with
  | true =>
   have q0:=bS h0
   have e:=Eq.refl (fT a0 a1 (v19,v20,v21,v22,v23,v24,v25,v26,v27));conv at e=>rhs;simp only [fT,h0,aJ]
   rw [aA e]
   refine ba [.d h0,.i v25 ((aI a0.2.1 a1).1.length),.L bW (aI a0.2.1 a1).1 v25 0 2,.p (show(2:Int)≠0 from by decide),.p (show((fV v22 1):Int)≠0 from by first | omega | (rw [aF]<;>omega) | exact dM _),.i v25 (v19.length),.p (show((0+tN v25*1)+1<=(flat c3 v19).length) from(gT dH (by first | omega | (simp only [Lt];omega)) (o:=0) (Nb rfl)))] [] [1,6,7,8,10,14,15,57,58,59,66,67,68] [5,6,7,8,9,10,11] hcx (m:=n) aFf (aFg n0) (aBf a0 a1 (splice (flat c3 v19) (0+tN v25*1) [(iv (fV 0 (nS 100 (W (v23+(W ((W (Int.tdiv (W (v23*(W (v22 - (W (Int.tdiv (W (((aI a0.2.1 a1).1.getD (tN v25) dF).1+((aI a0.2.1 a1).1.getD (tN v25) dF).2)) 2)))))) (fV v22 1)))*2)))))))]) (v19.length) (flat c3 v20) (v20.length) (flat c3 v21) (v21.length) v22 v23 v24 (W (v25+1)) v26 v27) (by kernel_rfl) ?_
   have z0:(W (v25+1))=(v25+1):=aF (by omega) (by omega)
   have z1:(splice (flat c3 v19) (0+tN v25*1) [(iv (fV 0 (nS 100 (W (v23+(W ((W (Int.tdiv (W (v23*(W (v22 - (W (Int.tdiv (W (((aI a0.2.1 a1).1.getD (tN v25) dF).1+((aI a0.2.1 a1).1.getD (tN v25) dF).2)) 2)))))) (fV v22 1)))*2)))))))])=flat c3 (v19.set (tN v25) (fV 0 (nS 100 (W (v23+(W ((W (Int.tdiv (W (v23*(W (v22 - (W (Int.tdiv (W (((aI a0.2.1 a1).1.getD (tN v25) dF).1+((aI a0.2.1 a1).1.getD (tN v25) dF).2)) 2)))))) (fV v22 1)))*2))))))):=(dX dH (by first | omega | (simp only [Lt];omega)) (o:=0) (d:=dF) (Nb rfl) rfl)
   have z2:v19.length=(v19.set (tN v25) (fV 0 (nS 100 (W (v23+(W ((W (Int.tdiv (W (v23*(W (v22 - (W (Int.tdiv (W (((aI a0.2.1 a1).1.getD (tN v25) dF).1+((aI a0.2.1 a1).1.getD (tN v25) dF).2)) 2)))))) (fV v22 1)))*2))))))).length:=by simp
   rw [z0,z1,z2]
   exact ih (v19.set (tN v25) (fV 0 (nS 100 (W (v23+(W ((W (Int.tdiv (W (v23*(W (v22 - (W (Int.tdiv (W (((aI a0.2.1 a1).1.getD (tN v25) dF).1+((aI a0.2.1 a1).1.getD (tN v25) dF).2)) 2)))))) (fV v22 1)))*2))))))) v20 v21 v22 v23 v24 (v25+1) v26 v27 (by refine⟨?_,?_,?_,?_,?_,?_,?_,?_⟩<;>(try simp only [List.length_set,List.length_replicate])<;>first | omega | exact aFb hi.2.2.1 _ | exact aFc _) (by(try simp only [Ls]);omega)
  | false =>
   have q0:=cE h0
   let t1:List (St Tryz.prog):=[.d h0,.c [9] (aYh v19 (by omega) (by omega))]
   cases h1:(decide (((tZ v19):Int) > 0)) with
   | true =>
    have q1:=bS h1
    have e:=Eq.refl (fT a0 a1 (v19,v20,v21,v22,v23,v24,v25,v26,v27));conv at e=>rhs;simp only [fT,h0,h1,aJ]
    rw [aD,e]
    refine ba (t1++[.d h1,.c [9,6,0,1,2,3,7,5,11] (aYi v19 ((a0.1.1,a0.1.2),a0.2.1,a0.2.2.1,a0.2.2.2) (v26,v27) v21 (by(try simp only [Lt]);omega) (by(try simp only [Lt]);omega) (by(try simp only [Lt]);omega) (by(try simp only [Lt]);omega) (by(try simp only [Lt]);omega) (by(try simp only [Lt]);omega) (hv2 _ (aPr (by omega) hi.2.2.1 q1)))]) [] [1,6,7,8,10,57,58,59] [5,6,7,8,10,12] hcx (m:=n0) uA (uB) (pF a0 a1 (flat c3 v20) (v20.length) (flat c3 (fB v19 ((a0.1.1,a0.1.2),a0.2.1,a0.2.2.1,a0.2.2.2) (v26,v27) v21).2) ((fB v19 ((a0.1.1,a0.1.2),a0.2.1,a0.2.2.1,a0.2.2.2) (v26,v27) v21).2.length) v22 (W (v24+1)) ((fB v19 ((a0.1.1,a0.1.2),a0.2.1,a0.2.2.1,a0.2.2.2) (v26,v27) v21).1.1) ((fB v19 ((a0.1.1,a0.1.2),a0.2.1,a0.2.2.1,a0.2.2.2) (v26,v27) v21).1.2)) (by kernel_rfl) ?_
    have z0:(W (v24+1))=(v24+1):=aF (by omega) (by omega)
    rw [z0]
    exact g0 v20 ((fB v19 ((a0.1.1,a0.1.2),a0.2.1,a0.2.2.1,a0.2.2.2) (v26,v27) v21).2) v22 (v24+1) ((fB v19 ((a0.1.1,a0.1.2),a0.2.1,a0.2.2.1,a0.2.2.2) (v26,v27) v21).1.1) ((fB v19 ((a0.1.1,a0.1.2),a0.2.1,a0.2.2.1,a0.2.2.2) (v26,v27) v21).1.2) (by refine⟨?_,?_,?_⟩<;>(try simp only [Ls])<;>first | omega | assumption | simp) (by(try simp only [Ls]);omega)
   | false =>
    have q1:=cE h1
    have e:=Eq.refl (fT a0 a1 (v19,v20,v21,v22,v23,v24,v25,v26,v27));conv at e=>rhs;simp only [fT,h0,h1,aJ]
    rw [aD,e]
    refine ba (t1++[.d h1]) [] [1,6,7,8,10,57,58,59] [5,6,7,8,10,11] hcx (m:=n0) uA (uB) (pF a0 a1 (flat c3 v20) (v20.length) (flat c3 v21) (v21.length) v22 (W (v24+1)) v26 v27) (by kernel_rfl) ?_
    have z0:(W (v24+1))=(v24+1):=aF (by omega) (by omega)
    rw [z0]
    exact g0 v20 v21 v22 (v24+1) v26 v27 (by refine⟨?_,?_,?_⟩<;>(try simp only [Ls])<;>first | omega | assumption | simp) (by(try simp only [Ls]);omega)
theorem aLo (a0:(Zm)×(List (List (Int×Int)))×(List (List (Int×Int)))×Int)(a1:List Int)(l0_1_1:a0.1.1.length<=2^63-1)(l0_1_2:a0.1.2.length<=2^63-1)(l0_2_1:a0.2.1.length<=2^63-1)(l0_2_2_1:a0.2.2.1.length<=2^63-1)(l1:a1.length<=2^63-1)(hv1:BndPre a0 a1)(hv2:∀q:List Int,QOK a1.length q->BndPre a0 q)(hv3:(aI a0.2.1 a1).1.length<=a1.length/\1<=(aI a0.2.1 a1).1.length)(hb0:(bA a0 a1).2=0) {cx:Cx} (hcx:cx.base=5)(v28:List Int):True->Aw.Good Tryz.prog none 9 (bodyPost Tryz.prog Tryz.f17 (PP cx 49 (.a [(.s 5 0 (mN a0 a1 v28).length 1)]) [(.live true true (flat c3 (mN a0 a1 v28)))] [.un,.un,.un,.un,.dead])) cx [] (.c aC6::aC7) (aBg a0 a1 (flat c3 v28) v28.length):=by
 intro hi
 have hx1:=hv1.hn
 have hx2:=hv1.hm
 have hx3:=hv1.hl
 have e:=Eq.refl (mN a0 a1 v28);conv at e=>rhs;simp only [mN]
 rw [e]
 try dsimp only [fG]
 try dsimp only
 exact pn 2 49 103 104 [] [] [4] [6] hcx (by kernel_rfl) (by kernel_rfl) (by kernel_rfl) (by kernel_rfl) (by kernel_rfl) (by kernel_rfl) (by kernel_rfl) (by kernel_rfl) (by kernel_rfl)
theorem aRw (a0:(Zm)×(List (List (Int×Int)))×(List (List (Int×Int)))×Int)(a1:List Int)(l0_1_1:a0.1.1.length<=2^63-1)(l0_1_2:a0.1.2.length<=2^63-1)(l0_2_1:a0.2.1.length<=2^63-1)(l0_2_2_1:a0.2.2.1.length<=2^63-1)(l1:a1.length<=2^63-1)(hv1:BndPre a0 a1)(hv2:∀q:List Int,QOK a1.length q->BndPre a0 q)(hv3:(aI a0.2.1 a1).1.length<=a1.length/\1<=(aI a0.2.1 a1).1.length)(hb0:(bA a0 a1).2=0) {cx:Cx} (hcx:cx.base=5):∀(n:Nat) (v13:List Int) (v14:List Int) (v15 v16 v17 v18:Int),(0<=v16)/\(v13.length=2)/\(v14.length=a1.length)->tN (2 - v16) < n->Aw.Good Tryz.prog none 9 (bodyPost Tryz.prog Tryz.f17 (PP cx 49 (.a [(.s 5 0 (aB (fI a0 a1) n (v13,v14,v15,v16,v17,v18)).length 1)]) [(.live true true (flat c3 (aB (fI a0 a1) n (v13,v14,v15,v16,v17,v18))))] [.un,.un,.un,.un,.dead])) cx [] (.l uA n::uB) (pF a0 a1 (flat c3 v13) v13.length (flat c3 v14) v14.length v15 v16 v17 v18):=by
 intro n
 induction n with
 | zero=>intro v13 v14 v15 v16 v17 v18 hi hn;exact absurd hn (fZ _)
 | succ n ih =>
  intro v13 v14 v15 v16 v17 v18 hi hn
  refine aH ?_
  have hx1:=hv1.hn
  have hx2:=hv1.hm
  have hx3:=hv1.hl
  cases h0:(decide ((v16:Int) < 2)) with
  | true =>
   have q0:=bS h0
   have e:=Eq.refl (fI a0 a1 (v13,v14,v15,v16,v17,v18));conv at e=>rhs;simp only [fI,h0,aJ]
   rw [aD,e]
   refine en [.d h0,.i v16 (v13.length),.L dH v13 v16 0 1,.Z c3 0 [(iv 0)] (a1.length:Int) 8] [] [1,6,7,8,10,14,15,57,58,59,66,67,68] [5,6,7,8,11,9,10] hcx aFf (aFg n) (aBf a0 a1 (flat c3 (List.replicate (tN (a1.length:Int)) 0)) (tN (a1.length:Int)) (flat c3 v13) (v13.length) (flat c3 v14) (v14.length) v15 (v13.getD (tN v16) dF) v16 0 v17 v18) (tN ((((aI a0.2.1 a1).1.length:Nat):Int) - 0)+1) (by kernel_rfl) ?_
   have q:=aRv a0 a1 l0_1_1 l0_1_2 l0_2_1 l0_2_2_1 l1 hv1 hv2 hv3 hb0 hcx n ih (tN ((((aI a0.2.1 a1).1.length:Nat):Int) - 0)+1) (List.replicate (tN (a1.length:Int)) 0) v13 v14 v15 (v13.getD (tN v16) dF) v16 0 v17 v18 (by refine⟨?_,?_,?_,?_,?_,?_,?_,?_⟩<;>(try simp only [List.length_set,List.length_replicate])<;>first | omega | exact aFb hi.2.2.1 _ | exact aFc _) (by(try simp only [Ls]);omega)
   simp only [List.length_replicate] at q
   exact q
  | false =>
   have q0:=cE h0
   have e:=Eq.refl (fI a0 a1 (v13,v14,v15,v16,v17,v18));conv at e=>rhs;simp only [fI,h0,aJ]
   rw [aD,e]
   refine ga [.d h0,.z 26] [] [6] [5,10] hcx aC6 (aC7) (aBg a0 a1 (flat c3 v14) (v14.length)) (by kernel_rfl) ?_
   exact aLo a0 a1 l0_1_1 l0_1_2 l0_2_1 l0_2_2_1 l1 hv1 hv2 hv3 hb0 hcx v14 trivial
theorem aRx (a0:(Zm)×(List (List (Int×Int)))×(List (List (Int×Int)))×Int)(a1:List Int)(l0_1_1:a0.1.1.length<=2^63-1)(l0_1_2:a0.1.2.length<=2^63-1)(l0_2_1:a0.2.1.length<=2^63-1)(l0_2_2_1:a0.2.2.1.length<=2^63-1)(l1:a1.length<=2^63-1)(hv1:BndPre a0 a1)(hv2:∀q:List Int,QOK a1.length q->BndPre a0 q)(hv3:(aI a0.2.1 a1).1.length<=a1.length/\1<=(aI a0.2.1 a1).1.length)(hb0:(bA a0 a1).2=0) {cx:Cx} (hcx:cx.base=5):∀(n:Nat) (v1 v2:Int),0<=v2->tN ((((aI a0.2.1 a1).1.length:Nat):Int) - v2) < n->Aw.Good Tryz.prog none 9 (bodyPost Tryz.prog Tryz.f17 (PP cx 49 (.a [(.s 5 0 (aB (jZ a0 a1) n (v1,v2)).length 1)]) [(.live true true (flat c3 (aB (jZ a0 a1) n (v1,v2))))] [.un,.un,.un,.un,.dead])) cx [] (.l aFh n::aFi) (aBh a0 a1 v1 v2):=by
 intro n
 induction n with
 | zero=>intro v1 v2 hi hn;exact absurd hn (fZ _)
 | succ n ih =>
  intro v1 v2 hi hn
  refine aH ?_
  have hx1:=hv1.hn
  have hx2:=hv1.hm
  have hx3:=hv1.hl
  cases h0:(decide ((v2:Int) < (((aI a0.2.1 a1).1.length:Nat):Int))) with
  | true =>
   have q0:=bS h0
   have e:=Eq.refl (jZ a0 a1 (v1,v2));conv at e=>rhs;simp only [jZ,h0,aJ]
   rw [aA e]
   refine ba [.d h0,.i v2 ((aI a0.2.1 a1).1.length),.L bW (aI a0.2.1 a1).1 v2 0 2,.p (show(2:Int)≠0 from by decide)] [] [1,6,7,8,10,38,39,40] [5,6,7,8,9] hcx (m:=n) aFh (aFi) (aBh a0 a1 (W (v1+(W (Int.tdiv (W (((aI a0.2.1 a1).1.getD (tN v2) dF).1+((aI a0.2.1 a1).1.getD (tN v2) dF).2)) 2)))) (W (v2+1))) (by kernel_rfl) ?_
   have z0:(W (v2+1))=(v2+1):=aF (by omega) (by omega)
   rw [z0]
   exact ih (W (v1+(W (Int.tdiv (W (((aI a0.2.1 a1).1.getD (tN v2) dF).1+((aI a0.2.1 a1).1.getD (tN v2) dF).2)) 2)))) (v2+1) (by(try simp only [Ls]);omega) (by(try simp only [Ls]);omega)
  | false =>
   have q0:=cE h0
   have e:=Eq.refl (jZ a0 a1 (v1,v2));conv at e=>rhs;simp only [jZ,h0,aJ]
   rw [aD,e]
   refine en [.d h0,.p (show((((aI a0.2.1 a1).1.length:Nat):Int):Int)≠0 from by first | omega | (rw [aF]<;>omega) | exact dM _)] [.sym 10 true] [1,6,7,8,10,57,58,59] [5,6,7,8,10,9] hcx uA (uB) (pF a0 a1 (flat c3 ([4,8]:List Int)) 2 (flat c3 a1) (a1.length) (W (Int.tdiv v1 (((aI a0.2.1 a1).1.length:Nat):Int))) 0 ((bA ((a0.1.1,a0.1.2),a0.2.1,a0.2.2.1,a0.2.2.2) a1).1.1) ((bA ((a0.1.1,a0.1.2),a0.2.1,a0.2.2.1,a0.2.2.2) a1).1.2)) (tN (2 - 0)+1) (by kernel_rfl) ?_
   exact aRw a0 a1 l0_1_1 l0_1_2 l0_2_1 l0_2_2_1 l1 hv1 hv2 hv3 hb0 hcx (tN (2 - 0)+1) ([4,8]:List Int) a1 (W (Int.tdiv v1 (((aI a0.2.1 a1).1.length:Nat):Int))) 0 ((bA ((a0.1.1,a0.1.2),a0.2.1,a0.2.2.1,a0.2.2.2) a1).1.1) ((bA ((a0.1.1,a0.1.2),a0.2.1,a0.2.2.1,a0.2.2.2) a1).1.2) (by refine⟨?_,?_,?_⟩<;>(try simp only [Ls])<;>first | omega | assumption | simp) (by(try simp only [Ls]);omega)
def iD (a0:(Zm)×(List (List (Int×Int)))×(List (List (Int×Int)))×Int)(a1:List Int):List Int :=
 (bif (((bA ((a0.1.1,a0.1.2),a0.2.1,a0.2.2.1,a0.2.2.2) a1).2:Int) != 0) then
  dF
 else
  (aB (jZ a0 a1) (tN ((((aI a0.2.1 a1).1.length:Nat):Int) - 0)+1) (0,0)))
theorem aYj (a0:(Zm)×(List (List (Int×Int)))×(List (List (Int×Int)))×Int)(a1:List Int)(l0_1_1:a0.1.1.length<=2^63-1)(l0_1_2:a0.1.2.length<=2^63-1)(l0_2_1:a0.2.1.length<=2^63-1)(l0_2_2_1:a0.2.2.1.length<=2^63-1)(l1:a1.length<=2^63-1)(hv1:BndPre a0 a1)(hv2:∀q:List Int,QOK a1.length q->BndPre a0 q)(hv3:(aI a0.2.1 a1).1.length<=a1.length/\1<=(aI a0.2.1 a1).1.length)(hb0:(bA a0 a1).2=0):Pan Tryz.prog 17 [(.a [(.s 0 0 a0.1.1.length 3),(.s 1 0 a0.1.2.length 3),(.s 2 0 a0.2.1.length 1),(.s 3 0 a0.2.2.1.length 1),(iv a0.2.2.2)]),(.s 4 0 a1.length 1)] [(.live false true (flat dQ a0.1.1)),(.live false true (flat eE a0.1.2)),(.live false true (flat iH a0.2.1)),(.live false true (flat iH a0.2.2.1)),(.live true true (flat c3 a1))] 49 (.a [(.s 5 0 (iD a0 a1).length 1)]) [(.live true true (flat c3 (iD a0 a1)))] [.un,.un,.un,.un,.dead]:=by
 refine aYg Tryz.func17 (by kernel_rfl) fun cx hcx=>?_
 have hx1:=hv1.hn
 have hx2:=hv1.hm
 have hx3:=hv1.hl
 let t0:List (St Tryz.prog):=[.c [0,1,2,3,4] (aPi ((a0.1.1,a0.1.2),a0.2.1,a0.2.2.1,a0.2.2.2) a1 (by(try simp only [Lt]);omega) (by(try simp only [Lt]);omega) (by(try simp only [Lt]);omega) (by(try simp only [Lt]);omega) (by(try simp only [Lt]);omega) hv1.hr hv1.hn hv1.hm hv1.hl hv1.hs hv1.hp hv1.he)]
 cases h0:(((bA ((a0.1.1,a0.1.2),a0.2.1,a0.2.2.1,a0.2.2.2) a1).2:Int) != 0) with
 | true =>
  have q0:=bne_iff_ne.1 h0
  exact absurd hb0 (bne_iff_ne.1 h0)
 | false =>
  have q0:=bne_eq_false_iff_eq.1 h0
  have e:=Eq.refl (iD a0 a1);conv at e=>rhs;simp only [iD,h0,aJ]
  rw [e]
  refine en (t0++[.d h0,.c [2,4] (aJ5 a0.2.1 a1 (by omega) (by omega) hv1.hr hv1.hn hv1.hm)]) [.mv 7 0] [1,6,7,8,10,38,39,40] [7,5,6,8,9] hcx aFh (aFi) (aBh a0 a1 0 0) (tN ((((aI a0.2.1 a1).1.length:Nat):Int) - 0)+1) (by kernel_rfl) ?_
  exact aRx a0 a1 l0_1_1 l0_1_2 l0_2_1 l0_2_2_1 l1 hv1 hv2 hv3 hb0 hcx (tN ((((aI a0.2.1 a1).1.length:Nat):Int) - 0)+1) 0 0 (by(try simp only [Ls]);omega) (by(try simp only [Ls]);omega)
end Go.Proofs.YtcmdknehplnpfaaGreat
namespace Go.Aw
open Go.RowKit
section
variable {P : Program} {T : Nat → Option TI} {w0 : Cx} {N : Nat} {D : List Deferred} {ρ : Env} {s : FS} {a : Act} {W : World}
theorem aPs {r:Option Nat} {n:Nat} {o:Oper} {f:Operand} {args:Array Operand} {ts:Array TypeId} (hop:o.op=.call { callee:=.value f,args:=args,argTypes:=ts })
 {fr:Nat} {orc orc':List Or} {e:Eff} {ks:List Nat} {t g0:Nat} {args0:List SV} {bs0:List BK} {res0:SV} {nb0 mb0:List BK} (h:jN (o.op.operands.toList.map (ev s.sl)) s.bk fr orc=some (e,[.call g0 args0 bs0 res0 nb0 mb0],orc',ks)) (hpan:Pan P g0 args0 bs0 t res0 nb0 mb0)
 (hrep:Rep w0 N D ρ s a W) (hfr:∀u∈e.ups,fr<=u.1->s.bk u.1=.un) (hd:∀d,o.dst=some d->d < N) {Q:Exit->Act->World->Prop} {K:Act->World->Prop}
 (hK:∀ρ' v W',Rep w0 N D ρ' (s.app o.dst e) (a.put o.dst v) W'->Q (.panic [{ v:=.iface t v,recovered:=false }]) a W'):o.wpIn (Fw r) n P a W K Q:=by
 have hops:o.op.operands.toList=f::args.toList:=by rw [hop];simp [Op.operands,Call.operands]
 rw [hops,List.map_cons] at h
 unfold jN at h
 split at h
 ·rename_i fv as0 ks' res nb mb orc2 hcons
  simp only [List.cons.injEq] at hcons
  obtain⟨hfv,has⟩:=hcons
  split at h
  ·rename_i g fst caps hg
   split at h
   ·rename_i args' bs res' upm upn h1 h2 h3 h4m h4
    split at h
    case isFalse=>cases h
    rename_i hnd
    simp only [aP,cI,List.cons.injEq,Ob.call.injEq,and_true] at h
    obtain⟨rfl,⟨rfl,rfl,rfl,rfl,rfl,rfl⟩,rfl,rfl⟩:=h
    have hfr':=aV hrep f
    rw [hfv] at hfr'
    obtain⟨us,vs,hfval,hfst,hcaps⟩:=wJ hg hfr'
    have hargs:=gY hrep args.toList
    rw [has] at hargs
    have hall:Rels ρ (fst++as0++caps) (us++args.toList.map a.eval++vs):=Rels.append (Rels.append hfst hargs) hcaps
    have hren:=renL_rel (ks:=ks') _ _ _ h1 hall
    obtain⟨hbl,hbs⟩:=mY ks' mb bs h2
    have hks:∀k∈ks',s.bk k≠.un:=fun k hk hun=>by
     obtain⟨i,hi⟩:=List.getElem?_of_mem hk
     obtain⟨y,_,hy⟩:=hbs i k hi
     rw [hun] at hy;simp [kL] at hy
    -- which of the blocks handed over may be written
    have hownb:∀i,(bs.getD i .un).own->∃k,ks'[i]? = some k/\mb.getD i .un≠.un/\(s.bk k).own:=fun i hi=>by
     cases hk:ks'[i]? with
     | none =>
      have:bs[i]? = none:=by rw [List.getElem?_eq_none_iff] at hk ⊢;omega
      rw [eU,this] at hi;exact hi.elim
     | some k =>
      obtain⟨y,hy1,hy2⟩:=hbs i k hk
      rw [show bs.getD i .un=y by simp [hy1]] at hi
      have hm:=(mA hy2).1.1 hi
      exact⟨k,rfl,fun e=>by rw [e] at hm;simp [uO] at hm,(mA hy2).2 hm⟩
    have hownOf:∀b,aFk (eP ρ ks') bs b->∃i k n,ks'[i]? = some k/\mb.getD i .un≠.un/\(s.bk k).own/\ρ k=some (b,0,n):=fun b ⟨i,n,hi,hr⟩=>by
     obtain⟨k,e1,e2,e3⟩:=hownb i hi
     refine⟨i,k,n,e1,e2,e3,?_⟩
     rw [aY e1] at hr;exact hr
    have hMown:∀k b n,(s.bk k).own->ρ k=some (b,0,n)->w0.mine b/\b < W.heap.size:=fun k b n hk hr=>by
     have:=hrep.bk k
     cases hx:s.bk k with
     | un=>rw [hx] at hk;exact hk.elim
     | dead=>rw [hx] at hk;exact hk.elim
     | live own sy cs =>
      rw [hx] at this hk
      cases own with
      | false=>exact hk.elim
      | true =>
       rcases this with⟨q,_⟩ | ⟨b₁,vs,rest,ty,q1,q2,_,q4⟩
       ·rw [hr] at q;cases q
       ·rw [hr] at q1;cases q1;exact⟨q2,bB q4⟩
     | map es =>
      rw [hx] at this
      obtain⟨b₁,n₁,arr,q1,q2,_,q4⟩:=this
      rw [hr] at q1;cases q1;exact⟨q2,bB q4⟩
    obtain⟨hE,hob⟩:=hpan
    have hcall:=hob (eP ρ ks') W (us++args.toList.map a.eval++vs) hren (fun i=>by
     cases hi:ks'[i]? with
     | none =>
      have:bs[i]? = none:=by rw [List.getElem?_eq_none_iff] at hi ⊢;omega
      simp [this,BRep]
     | some k =>
      obtain⟨y,hy1,hy2⟩:=hbs i k hi
      rw [show bs.getD i .un=y by simp [hy1]]
      refine(oD hi hy2 (hrep.pl k) (hrep.bk k) (fun ho hm b n hr=>.inr ⟨i,n,by rw [show bs.getD i .un=y by simp [hy1]];exact(mA hy2).1.2 hm,by rw [aY hi];exact hr⟩) (fun hm b hlt hMb hM'=>?_)).1
      ·rcases hM' with hM' | hM'
       ·simp only [dC] at hM';omega
       ·obtain⟨i',k',n',g1,g2,g3,g4⟩:=hownOf b hM'
        rcases hMb (hMown k' b n' g3 g4).1 with⟨n2,q1,q2⟩ | ⟨ob,hob⟩
        rotate_left
        ·exact(hrep.fzn b ob hob).2.1 k' n' g3 g4
        by_cases hkk:k=k'
        ·subst hkk
         have:=fM hnd i i' k hi g1
         subst this
         simp only [Bool.not_eq_false'] at hm
         exact g2 (yY.1 hm)
        ·exact hrep.apart k k' b n2 b n' hkk q2 g3 q1 g4 rfl) (fun i=>by
     cases hi:ks'[i]? with
     | none =>
      have:bs[i]? = none:=by rw [List.getElem?_eq_none_iff] at hi ⊢;omega
      simp [this,BK.pl]
     | some k =>
      obtain⟨y,hy1,hy2⟩:=hbs i k hi
      rw [show bs.getD i .un=y by simp [hy1]]
      exact aDj hy2 (hrep.pl k)) (fun i j b n b' n' hij hi hj e1 e2=>by
     obtain⟨k1,q1,_,q3⟩:=hownb i hi
     obtain⟨k2,p1,_,p3⟩:=hownb j hj
     rw [aY q1] at e1;rw [aY p1] at e2
     refine hrep.apart k1 k2 b n b' n' (fun e=>hij ?_) q3 p3 e1 e2
     subst e
     exact fM hnd i j k1 q1 p1) (fun b o ho=>⟨(hrep.fzn b o ho).1,fun i n hi e1=>by
     obtain⟨k1,q1,_,q3⟩:=hownb i hi
     rw [aY q1] at e1
     exact(hrep.fzn b o ho).2.1 k1 n q3 e1⟩)
    have hnd':∀c,o.op≠.defer c:=fun c hc=>by rw [hop] at hc;cases hc
    have hrun:(execOp a.eval o).run P W=.ok (.enter g (us++args.toList.map a.eval++vs).toArray) W:=by
     have e1:us.toArray++(args.map a.eval)++vs.toArray=(us++args.toList.map a.eval++vs).toArray:=by apply Array.ext';simp
     simp only [execOp,hop,resolve,hfval,Deferred.ofValue,Sem.run_bind,Sem.run_pure,Result.andThen_ok,invoke]
     rw [hE,e1]
    refine⟨fun _ _=>trivial,?_⟩
    rw [Oper.semAt_eq _ _ _ hnd',hrun]
    simp only [Oper.uponIn]
    refine⟨fun h=>by simp [Fw] at h,kJ.2 (hcall.mono fun e w' hR=>?_)⟩
    obtain⟨v,rfl,ρ',v',hv',hold,hres,hkept,hnew,hplp,hap,hle,hfz⟩:=hR
    simp only [Ending.returned.injEq] at hv'
    subst hv'
    simp only [dC] at hold hkept hnew hplp hap hle hfz
    rw [hbl] at hnew hplp hap hfz
    have hold':∀i k,ks'[i]? = some k->ρ' i=ρ k:=fun i k hi=>by
     have hlt:i < bs.length:=by rw [hbl];exact(List.getElem?_eq_some_iff.1 hi).1
     rw [hold i hlt,aY hi]
    obtain⟨hul,hus⟩:=lB nb fr upn h4
    have hfr:∀k,fr<=k->k < fr+nb.length->s.bk k=.un:=fun k h1 h2=>by
     obtain⟨y',_,e3⟩:=hus (k - fr) (nb[k - fr]'(by omega)) (by simp)
     rw [Nat.add_sub_cancel' h1] at e3
     exact hfr _ (List.mem_append_right _ (List.mem_of_getElem? e3)) h1
    obtain⟨hrep2,hmem⟩:=hrep.called hkept hnd hfr hks h4m h4 hownOf hold' hle hfz hnew hplp hap
    refine hK ⟨fun k=>if fr<=k/\k < fr+nb.length then ρ' (ks'.length+(k - fr)) else ρ k,ρ'.fz⟩ v _ ?_
    rw [dE]
    refine hrep2.put o.dst hd ?_ (fun k hk=>hmem k (yX res res' h3 hk))
    have hL:ρ'.le ⟨fun k=>if fr<=k/\k < fr+nb.length then ρ' (ks'.length+(k - fr)) else ρ k,ρ'.fz⟩:=fun _ _ h=>h
    refine yW hL (fun i k hi=>?_) (fun j hj=>?_) res res' v h3 hres
    ·have hk':s.bk k≠.un:=hks k (List.mem_of_getElem? hi)
     simp only [Env.mk_loc]
     rw [if_neg (fun h'=>hk' (hfr k h'.1 h'.2))];exact(hold' i k hi).symm
    ·simp only [Env.mk_loc]
     rw [if_pos (by omega),Nat.add_sub_cancel_left]
   ·cases h
  ·cases h
 ·cases h
theorem Rep.setSlot {s:LS} (h:Rep w0 N D ρ s.fs a W) {t:Nat} (ht:t < s.sl.length) {x:SV} (hx:Rel ρ x (a.tmps.getD t undef))(hw:∀k,x.has k->s.fs.bk k≠.un):Rep w0 N D ρ (⟨s.sl.set t x,s.bk⟩:LS).fs a W:=by
 have e1:∀u,(⟨s.sl.set t x,s.bk⟩:LS).fs.sl u=if u=t then x else s.fs.sl u:=fun u=>aU6 ht
 exact { h with
  sl:=fun u=>by
   rw [e1];split
   ·rename_i hu;subst hu;exact hx
   ·exact h.sl u
  wf1:=fun u k hk=>by
   rw [e1] at hk;split at hk
   ·exact hw k hk
   ·exact h.wf1 u k hk }
theorem Rep.reslot {s:LS} (h:Rep w0 N D ρ s.fs a W)(sl:List SV)(a':Act)(hsz:a'.tmps.size=sl.length)(hsl:∀t,Rel ρ (sl.getD t .u) (a'.tmps.getD t undef))(hw:∀t k,(sl.getD t .u).has k->s.fs.bk k≠.un) :
 Rep w0 sl.length a'.defers ρ (⟨sl,s.bk⟩:LS).fs a' W :=
 {defs:=rfl,size:=hsz,sl:=hsl,bk:=h.bk,apart:=h.apart,wf1:=hw,wf2:=h.wf2,kept:=h.kept,pl:=h.pl,old:=h.old,fzn:=h.fzn,fzo:=h.fzo }
variable {r : Option Nat} {n : Nat} {Q : Exit → Act → World → Prop}
theorem aFj (hT:iE P T)(hm:P.follows .mixedOrders=true) {B:Code} (hB:B=.region (aM B).1 (aM B).2.1 (aM B).2.2)(m:Nat)(hms:(aM B).2.1.size=m+1) {s:LS} (sts:List (St P))
 (h1:(aB0 T (aM B).2.1 (aM B).2.2 m s (mQ sts)).map (·.2)=some (stB sts)) {x g:Nat} {caps:List SV}
 (hq:((aM B).2.1[m]?.map fun o=>(o.op,o.guard,o.dst))=some (.defer { callee:=.value (.tmp x),args:=#[],argTypes:=#[] },none,none))
 (hx:(gP T (aM B).2.1 (aM B).2.2 m s (mQ sts)).sl[x]? = some (.f g caps)) (hg:Nat.ble (g+1) 1000000=true)
 (hrep:Rep w0 s.sl.length [] ρ s.fs a W)
 (hK:∀ρ' a' W' vs,Rep w0 (gP T (aM B).2.1 (aM B).2.2 m s (mQ sts)).sl.length [({ target:=.fn (.func g) (List.toArray vs),args:=#[] }:Deferred)] ρ' (gP T (aM B).2.1 (aM B).2.2 m s (mQ sts)).fs a' W'->Rels ρ' caps vs->Q .normal a' W') :
 B.wpIn (Fw none) n P Q a W:=by
 obtain⟨o,ho,e⟩:=Option.map_eq_some_iff.1 hq
 simp only [cI] at e
 obtain⟨hp,hgd,hd⟩:=e
 rw [hB]
 refine jY hT hm (by omega) (qI h1) (zL sts) hrep (fun ρ' a' W' hr' hl'=>?_)
 rw [show(aM B).2.1.size - m=0+1 by omega,List.range'_succ,wpOpsIn_cons]
 unfold wpOpIn
 rw [ho]
 have hw:Region.wanted o (yielded (aM B).2.1 a'.tmps)=true:=by unfold Region.wanted;rw [hgd]
 simp only [hw,if_true]
 have hs:=hr'.sl x
 rw [show(gP T (aM B).2.1 (aM B).2.2 m s (mQ sts)).fs.sl x=.f g caps by simp [LS.fs,eU,hx]] at hs
 simp only [Rel] at hs
 obtain⟨vs,hv,hrel⟩:=hs
 rw [aC8 (by have:=Nat.le_of_ble_eq_true hg;omega)] at hv
 have hrun:(Oper.semAt (Fw none).round a'.eval o).run P W'=.ok (.defer { target:=.fn (.func g) (List.toArray vs),args:=#[] }) W':=by
  show(execOp a'.eval o).run P W'=_
  simp only [execOp,hp,resolve,show a'.eval (.tmp x)=_ from hv,Deferred.ofValue,Sem.run_bind,Sem.run_pure,Result.andThen_ok,Array.map_empty,Array.append_empty]
 refine⟨fun f hf=>by simp [Fw],?_⟩
 rw [hrun,Oper.uponIn_defer,hd]
 simp only [List.range'_zero,wpOpsIn]
 have hdf:=hr'.defs
 refine hK ρ' _ W' vs { hr' with defs:=?_ } hrel
 simp only [Act.put]
 rw [hdf]
theorem aIv (hT:iE P T)(hm:P.follows .mixedOrders=true) {B:Code} (hB:B=.region (aM B).1 (aM B).2.1 (aM B).2.2)(m:Nat)(hms:(aM B).2.1.size=m+1) {s:LS} (sts:List (St P))
 (h1:(aB0 T (aM B).2.1 (aM B).2.2 m s (mQ sts)).map (·.2)=some (stB sts)) {f:Operand} {args:Array Operand} {ts:Array TypeId} {dst:Nat}
 (hq:((aM B).2.1[m]?.map fun o=>(o.op,o.guard,o.dst))=some (.call { callee:=.value f,args:=args,argTypes:=ts },none,some dst))
 {t g0:Nat} {args0:List SV} {bs0:List BK} {res0:SV} {nb0 mb0:List BK} {e:Eff} (ks:List Nat)
 (hc:jN ((Op.call { callee:=.value f,args:=args,argTypes:=ts }).operands.toList.map (ev (gP T (aM B).2.1 (aM B).2.2 m s (mQ sts)).fs.sl)) (gP T (aM B).2.1 (aM B).2.2 m s (mQ sts)).fs.bk (gP T (aM B).2.1 (aM B).2.2 m s (mQ sts)).bk.length [.call ks res0 nb0 mb0]=some (e,[.call g0 args0 bs0 res0 nb0 mb0],[],ks))
 (hpan:Pan P g0 args0 bs0 t res0 nb0 mb0) {s4:LS} (happ:(gP T (aM B).2.1 (aM B).2.2 m s (mQ sts)).app (some dst) e=some s4)
 (hrep:Rep w0 s.sl.length D ρ s.fs a W)
 (hK:∀ρ' a' v W',Rep w0 s4.sl.length D ρ' s4.fs (a'.put (some dst) v) W'->Q (.panic [{ v:=.iface t v,recovered:=false }]) a' W'):B.wpIn (Fw r) n P Q a W:=by
 obtain⟨o,ho,e0⟩:=Option.map_eq_some_iff.1 hq
 simp only [cI] at e0
 obtain⟨hp,hgd,hd⟩:=e0
 rw [hB]
 refine jY hT hm (by omega) (qI h1) (zL sts) hrep (fun ρ' a' W' hr' hl'=>?_)
 rw [show(aM B).2.1.size - m=0+1 by omega,List.range'_succ,wpOpsIn_cons]
 unfold wpOpIn
 rw [ho]
 have hw:Region.wanted o (yielded (aM B).2.1 a'.tmps)=true:=by unfold Region.wanted;rw [hgd]
 simp only [hw,if_true]
 obtain⟨hfs,hdl,hlen⟩:=yV happ
 refine aPs hp (by rw [hp];exact hc) hpan hr' (fun u _ hu=>sQ hu) (fun d h'=>by rw [hd] at h';exact hdl d h') (fun ρ2 v W2 hr2=>?_)
 refine hK ρ2 a' v W2 ?_
 rw [hlen,hfs]
 rw [hd] at hr2
 exact hr2
theorem aGr {B:Code} (hB:B=.region (aM B).1 (aM B).2.1 false) {x y z t t':Nat} (hms:(aM B).2.1.size=2)
 (hq1:((aM B).2.1[0]?.map fun o=>(o.op,o.guard,o.dst))=some (.move (.tmp x),none,some y))
 (hq2:((aM B).2.1[1]?.map fun o=>(o.op,o.guard,o.dst))=some (.binOp .neq t (.tmp y) (.const .nilIface) t',none,some z))
 (hu:((P.underlying t).map fun d=>match d with | .interface _=>true | _=>false)=some true) {ti:Nat} {v:Value} (hy:y < a.tmps.size) (hv:a.tmps.getD x undef=.iface ti v)
 (hK:Q .normal ((a.put (some y) (.iface ti v)).put (some z) (.bool true)) W):B.wpIn (Fw none) n P Q a W:=by
 obtain⟨o1,ho1,e1⟩:=Option.map_eq_some_iff.1 hq1
 obtain⟨o2,ho2,e2⟩:=Option.map_eq_some_iff.1 hq2
 obtain⟨d,hd,hd'⟩:=Option.map_eq_some_iff.1 hu
 simp only [cI] at e1 e2
 obtain⟨hp1,hg1,hd1⟩:=e1
 obtain⟨hp2,hg2,hd2⟩:=e2
 rw [hB]
 refine wpIn_region ?_
 rw [hms,show List.range 2=[0,1] from rfl,wpOpsIn_cons]
 unfold wpOpIn
 rw [ho1]
 have hw1:∀ys,Region.wanted o1 ys=true:=fun ys=>by unfold Region.wanted;rw [hg1]
 have hw2:∀ys,Region.wanted o2 ys=true:=fun ys=>by unfold Region.wanted;rw [hg2]
 simp only [hw1,if_true]
 refine⟨fun f hf=>by simp [Fw],?_⟩
 have hr1:(Oper.semAt (Fw none).round a.eval o1).run P W=.ok (.value (.iface ti v)) W:=by
  show(execOp a.eval o1).run P W=_
  simp only [execOp,hp1,Sem.run_pure,show a.eval (.tmp x)=_ from hv]
 rw [hr1,Oper.uponIn_value,hd1,wpOpsIn_cons]
 unfold wpOpIn
 rw [ho2]
 simp only [hw2,if_true]
 refine⟨fun f hf=>by simp [Fw],?_⟩
 have hr2:(Oper.semAt (Fw none).round (a.put (some y) (.iface ti v)).eval o2).run P W=.ok (.value (.bool true)) W:=by
  show(execOp (a.put (some y) (.iface ti v)).eval o2).run P W=_
  have e:(a.put (some y) (.iface ti v)).eval (.tmp y)=.iface ti v:=by simp [Act.put,Act.eval,hy]
  have e':(a.put (some y) (.iface ti v)).eval (.const .nilIface)=.nilIface:=rfl
  cases d with
  | interface ms =>
   have h0:(Op.equal t (.iface ti v) .nilIface).run P W=.ok false W:=by
    show(Op.equalIn (9999+1) t (.iface ti v) .nilIface).run P W=_
    unfold Op.equalIn
    simp only [Sem.run_bind,aL hd,Result.andThen_ok,Sem.run_pure]
   have hg0:(eqGuard .neq t (.tmp y) (.const .nilIface) (.iface ti v) .nilIface).run P W=.ok () W:=rfl
   have hb0:(binOp .neq t (.iface ti v) .nilIface).run P W=.ok (.bool true) W:=by
    have:binOp .neq t (.iface ti v) .nilIface=(do pure (.bool (!(←Op.equal t (.iface ti v) .nilIface)))):=by unfold binOp;rfl
    rw [this]
    simp only [Sem.run_bind,h0,Result.andThen_ok,Sem.run_pure]
    rfl
   simp only [execOp,hp2,e,e',Sem.run_bind,hg0,hb0,Result.andThen_ok,Sem.run_pure]
  | _=>simp at hd'
 rw [hr2,Oper.uponIn_value,hd2]
 simp only [wpOpsIn]
 exact hK
end
section
variable {P : Program}
theorem aBi {f:FuncId} {fn:Func} {c:Code} {B rest:Code} (hf:P.funcs[f]? = some fn)(hb:fn.body=some c)(hc:c=.seq B rest)(hB:B=.region (aM B).1 (aM B).2.1 false) {args:Array Value} {x y:Nat} {pv:Value} {w:World} {R:Ending->FrameMode->World->Prop}
 (hms:(aM B).2.1.size=2) (hq1:((aM B).2.1[0]?.map fun o=>(o.op,o.guard,o.dst))=some (.call { callee:=.builtin .recover,args:=#[],argTypes:=#[] },none,some x))
 (hq2:((aM B).2.1[1]?.map fun o=>(o.op,o.guard,o.dst))=some (.assign (.tmp x),none,some y)) (hx:x < (args++Array.replicate (fn.ntmps - args.size) undef).size)
 (h:rest.wp P (fun e a' w'=>(e=.normal\/e=.ret)/\a'.defers=[]/\∃v,(results fn a'.tmps).run P w'=.ok v w'/\R (.returned v) (.panicking [{ v:=pv,recovered:=true }]) w')
  ((({ tmps:=args++Array.replicate (fn.ntmps - args.size) undef,defers:=[] }:Act).put (some x) pv).put (some y) pv) w) :
 CallsD P f args (.panicking [{ v:=pv,recovered:=false }]) w R:=by
 obtain⟨o1,ho1,e1⟩:=Option.map_eq_some_iff.1 hq1
 obtain⟨o2,ho2,e2⟩:=Option.map_eq_some_iff.1 hq2
 simp only [cI] at e1 e2
 obtain⟨hp1,hg1,hd1⟩:=e1
 obtain⟨hp2,hg2,hd2⟩:=e2
 subst hc
 refine callsD_of_wpS hf hb (fun c₀ cs hu=>wpS_seq ?_)
 rw [hB]
 refine wpS_region ?_
 rw [hms,show List.range 2=[0,1] from rfl]
 have hw1:∀ys,Region.wanted o1 ys=true:=fun ys=>by unfold Region.wanted;rw [hg1]
 have hw2:∀ys,Region.wanted o2 ys=true:=fun ys=>by unfold Region.wanted;rw [hg2]
 have hr1:∀a:Act,(execOp a.eval o1).run P w=.ok .recover w:=fun a=>by
  simp only [execOp,hp1,resolve,Sem.run_bind,Sem.run_pure,Result.andThen_ok,invoke,builtin]
 have hrc:recoverD (c₀::cs)=some (pv,{ c₀ with mode:=.panicking [{ v:=pv,recovered:=true }] }::cs):=by
  simp only [recoverD,hu]
 have hr2:∀a:Act,a.eval (.tmp x)=pv->(execOp a.eval o2).run P w=.ok (.value pv) w:=fun a ha=>by
  simp only [execOp,hp2,Sem.run_pure,ha]
 simp only [wpOpsS,ho1,ho2,hw1,hw2,if_true,hr1,hrc,hd1,hd2]
 rw [hr2 _ (by simp only [Act.put,Act.eval];rw [Array.getD_eq_getD_getElem?,Array.getElem?_setIfInBounds_self_of_lt hx];rfl)]
 show(rest.wpS P _ _ _ w)
 rw [hd2]
 refine wpS_of_wp ?_
 refine Code.wp_mono (fun e a' w' hq=>?_) h
 obtain⟨he,hdf,v,hv,hR⟩:=hq
 rcases he with rfl | rfl
 ·exact⟨hdf,_,rfl,v,hv,hR⟩
 ·exact⟨hdf,_,rfl,v,hv,hR⟩
end
end Go.Aw
namespace Go.Proofs.YtcmdknehplnpfaaGreat
open Go.Proofs Go.Aw Go.RowKit
set_option maxRecDepth 100000
def mO (a0:List Int):List Int :=
 (([]:List Int)++a0)
theorem aSs (a0:List Int)(l0:a0.length<=2^63-1)(hne:a0.length≠0)(h40:a0.length<=1048576):Con Tryz.prog 16 [(.s 0 0 a0.length 1)] [(.live false true (flat c3 a0))] (.s 1 0 (mO a0).length 1) [(.live true true (flat c3 (mO a0)))]:=by
 refine aK Tryz.func16 (by kernel_rfl) fun cx hcx=>?_
 have e:=Eq.refl (mO a0);conv at e=>rhs;simp only [mO]
 rw [e]
 rw [show flat c3 (([]:List Int)++a0)=(([]:List SV)++(flat c3 a0)) from Eq.symm (by simp [flat])]
 rw [show(([]:List Int)++a0).length=(0+a0.length) from by simp]
 exact rt [.p (show(a0.length:Nat)≠0 from by first | omega | (rw [aF]<;>omega) | exact dM _),.F,.p (show(([]:List SV).length=0*1/\(flat c3 a0).length=a0.length*1/\(flat c3 a0).all SV.one=true/\0+a0.length<=2 ^ 40/\(0+a0.length)*8<=2 ^ 47) from by refine⟨?_,?_,?_,?_,?_⟩<;>first | omega | exact aNv (fun _=>rfl) | (simp [pX dH];done) | (simp [pX dH];omega))] [] [2] hcx (by kernel_rfl)
theorem rtD {cx:Cx} {k:List K} {s:LS} {base:Nat} {fn:Func} (sts:List (St Tryz.prog))(ads:List Adj)(ks:List Nat)(hb:cx.base=base) {res:SV} {nb:List BK}
 (h:oG T0 fn.results.toList base [] ks (lL ads (run T0 5000 k s (mQ sts)))=some (res,nb,[],stB sts)):Aw.Good Tryz.prog none 9 (bodyPostD Tryz.prog fn (RR cx res nb [])) cx [] k s:=aRr hT hm sts ads [] ks hb h
def fK (m:ME)(d:Int):TBL:=((m.1,m.2),(lT (m.1,m.2) d).1.2.1,(lT (m.1,m.2) d).1.2.2.1,(lT (m.1,m.2) d).1.2.2.2)
theorem aSt (n a b:Int):nZ n a b=decide (a<=n/\n<=b):=by
 unfold nZ
 by_cases h1:a<=n<;>by_cases h2:n<=b<;>simp [h1,h2]
theorem aSu:∀{q:List Int},okC q->(∃x∈q,0 < x)->0 < q.sum
 | [],_,h=>by obtain⟨x,hx,_⟩:=h;simp at hx
 | c::q,ho,h=>by
  have hc:=ho c List.mem_cons_self
  have ho2:okC q:=fun x hx=>ho x (List.mem_cons_of_mem _ hx)
  have h0:∀q:List Int,okC q->0<=q.sum:=fun q=>by
   induction q with
   | nil=>intro _;simp
   | cons c q ih=>intro ho;have:=ih (fun x hx=>ho x (List.mem_cons_of_mem _ hx));have:=ho c List.mem_cons_self;simp only [List.sum_cons];omega
  simp only [List.sum_cons]
  have hn:=h0 q ho2
  obtain⟨x,hx,hp⟩:=h
  rcases List.mem_cons.1 hx with rfl | hx
  ·omega
  ·have:=aSu ho2 ⟨x,hx,hp⟩;omega
theorem aPt {m:ME} {q:List Int} {d:Int} (hv:fW m=0)(hd:0<=d/\d<=2)(hl:q.length=m.2.length)(ho:okC q)(hp:∃x∈q,0 < x):eQ m q d=0:=by
 obtain⟨_,n1,n2,_,_⟩:=eL hv
 have hV:chV m q=0:=by
  unfold chV
  rw [hv,show((0:Int) != 0)=false from rfl,cond_false,bne_eq_false_iff_eq.2 (by omega),cond_false]
  rcases qG q 0 with⟨g1,g2⟩ | ⟨g1,_,g3⟩
  ·exfalso
   have:∀q:List Int,okC q->gG (σ:=Unit) (R:=Int) (fun _ c=>bif (!nZ c 0 100) then .inr 1 else .inl ()) q ()=.inl ():=fun q=>by
    induction q with
    | nil=>intro _;rfl
    | cons c q ih =>
     intro ho
     have hc:=ho c List.mem_cons_self
     simp only [gG]
     rw [aSt,cA hc,Bool.not_true,cond_false]
     exact ih (fun x hx=>ho x (List.mem_cons_of_mem _ hx))
   rw [this q ho] at g2;cases g2
  ·rw [g1]
   have ht:=tU q 0 g3 (Int.le_refl 0) (by omega)
   have hs:=aSu ho hp
   simp only [xH]
   rw [show(aA3 q 0 == 0)=false from beq_eq_false_iff_ne.2 (by omega)];rfl
 rw [wX]
 unfold chD
 rw [hV,show((0:Int) != 0)=false from rfl,cond_false,aSt,cA hd];rfl
theorem aRy (m:ME):okC (jV m):=fun x hx=>by
 rw [aE5] at hx
 obtain⟨_,_,rfl⟩:=List.mem_map.1 hx
 omega
structure ImpPre (m:ME) (d:Int):Prop where
 v:fW m=0
 hd:0<=d/\d<=2
 p:(lT m d).2=0
 b1:BndPre (fK m d) (jV (m.1,m.2))
 b2:∀q:List Int,QOK (jV (m.1,m.2)).length q->BndPre (fK m d) q
 l:(aI (fK m d).2.1 (jV (m.1,m.2))).1.length<=(jV (m.1,m.2)).length/\1<=(aI (fK m d).2.1 (jV (m.1,m.2))).1.length
 o:(bA (fK m d) (jV (m.1,m.2))).2=0
 e:sI m d=bA (fK m d) (jV (m.1,m.2))
theorem aPu {m:ME} {q:List Int} {d:Int} (hc:(eQ m q d != 0)=false):BndPre (fK m d) q/\iC m q d=bA (fK m d) q:=by
 obtain⟨m1,m2⟩:=m
 obtain⟨hv,hd⟩:=aC3 hc
 have hb:=cS hc
 have e:=aBd hv hd
 refine⟨?_,?_⟩
 ·unfold fK
  rw [e] at hb ⊢;exact hb
 ·unfold iC
  rw [show(eQ ((m1,m2).1,(m1,m2).2) q d != 0)=false from hc,cond_false,show((lT ((m1,m2).1,(m1,m2).2) d).2 != 0)=false by rw [show lT ((m1,m2).1,(m1,m2).2) d=_ from e];rfl,cond_false]
  rfl
theorem nP {m:ME} {d:Int} (h:((sI m d).2 != 0)=false):ImpPre m d:=by
 obtain⟨m1,m2⟩:=m
 have hE:sI (m1,m2) d=iC (m1,m2) (jV (m1,m2)) d:=by
  unfold sI at h ⊢
  cases hv:((fW ((m1,m2).1,(m1,m2).2):Int) != 0) with
  | true=>rw [hv,cond_true] at h;exact absurd (h.symm.trans hv) (by decide)
  | false=>rfl
 rw [hE] at h
 have hc:(eQ (m1,m2) (jV (m1,m2)) d != 0)=false:=by
  unfold iC at h
  cases hc:((eQ ((m1,m2).1,(m1,m2).2) (jV (m1,m2)) d:Int) != 0) with
  | true=>rw [hc,cond_true] at h;exact absurd (h.symm.trans hc) (by decide)
  | false=>rfl
 obtain⟨hv,hd⟩:=aC3 hc
 obtain⟨hb,eB⟩:=aPu hc
 rw [eB] at h
 have ho:=kU (m1,m2)
 have h0:((bA (fK (m1,m2) d) (jV (m1,m2))).2:Int)=0:=bne_eq_false_iff_eq.1 h
 refine⟨hv,hd,by rw [aBd hv hd],hb,fun q hq=>(aPu (bne_eq_false_iff_eq.2 (aPt hv hd (hq.len.trans ho) hq.ok hq.pos))).1,⟨?_,?_⟩,h0,hE.trans eB⟩
 ·have hl:=aKe hb.hr hb.hm
  have:(fK (m1,m2) d).2.1.length=m2.length:=by
   unfold fK
   rw [aBd hv hd,aGn hv hd]
   show((aZ (m1,m2)).map _).length=_
   rw [List.length_map];exact List.length_map _
  have ho':(jV (m1,m2)).length=m2.length:=ho
  show _<=(jV (m1,m2)).length
  rw [ho',←this];exact hl
 ·refine(hb.hp ?_).1
  cases hP:((aI (fK (m1,m2) d).2.1 (jV (m1,m2))).2 != 0) with
  | false=>rfl
  | true =>
   unfold bA at h
   rw [hP,cond_true] at h
   exact absurd (h.symm.trans hP) (by decide)
structure SInv (T:TBL) (q c:List Int) (b:Int×Int):Prop where
 hc:c=q\/QOK q.length c
 ho:(bA T c).2=0
 hb:b=(bA T c).1
 hw:W (b.2 - b.1)<=W ((bA T q).1.2 - (bA T q).1.1)
theorem aRz {T:TBL} {q c l:List Int} {b:Int×Int} (h:SInv T q c b)(hl:QOK q.length l):SInv T q (fB l T b c).2 (fB l T b c).1:=by
 obtain⟨⟨m1,m2⟩,tb,tm,w⟩:=T
 have e:fB l ((m1,m2),tb,tm,w) b c=bif ((bA ((m1,m2),tb,tm,w) l).2 == 0) then(bif (decide (W ((bA ((m1,m2),tb,tm,w) l).1.2 - (bA ((m1,m2),tb,tm,w) l).1.1) < W (b.2 - b.1))) then((bA ((m1,m2),tb,tm,w) l).1,l) else(b,c)) else(b,c):=rfl
 rw [e]
 cases h0:(((bA ((m1,m2),tb,tm,w) l).2:Int) == 0) with
 | false=>rw [cond_false];exact h
 | true =>
  rw [cond_true]
  cases h1:(decide (W ((bA ((m1,m2),tb,tm,w) l).1.2 - (bA ((m1,m2),tb,tm,w) l).1.1) < W (b.2 - b.1))) with
  | true =>
   rw [cond_true]
   have hlt:=bS h1
   have hw:=h.hw
   exact⟨.inr hl,eq_of_beq h0,rfl,Int.le_trans (Int.le_of_lt hlt) hw⟩
  | false=>rw [cond_false];exact h
theorem aYk {T:TBL} {q:List Int} (n:Nat)(i0:Int)(hi0:0<=i0) {v19 v20 v21:List Int} {v22 v23 v25 v26 v27:Int} (h0:0<=v25)(hl:v19.length=q.length)(hr:∀x∈v19,0<=x/\x<=100)(hI:SInv T q v21 (v26,v27))
 (hn:tN ((((aI T.2.1 q).1.length:Nat):Int) - v25) < n):∃(l c:List Int) (e:Int) (b1 b2:Int),aB (fT T q) n (v19,v20,v21,v22,v23,i0,v25,v26,v27)=.inl (l,c,e,i0+1,b1,b2)/\SInv T q c (b1,b2):=by
 refine mM (fun v:List Int×List Int×List Int×Int×Int×Int×Zt=>tN ((((aI T.2.1 q).1.length:Nat):Int) - v.2.2.2.2.2.2.1)) (fun v=>0<=v.2.2.2.2.2.2.1/\v.1.length=q.length/\(∀x∈v.1,0<=x/\x<=100)/\v.2.2.2.2.2.1=i0/\SInv T q v.2.2.1 (v.2.2.2.2.2.2.2.1,v.2.2.2.2.2.2.2.2)) (fun r:(List Int×List Int×Int×Zt)⊕List Int=>∃(l c:List Int) (e:Int) (b1 b2:Int),r=.inl (l,c,e,i0+1,b1,b2)/\SInv T q c (b1,b2)) (fun v hv=>?_) n (v19,v20,v21,v22,v23,i0,v25,v26,v27) ⟨h0,hl,hr,rfl,hI⟩ hn
 obtain⟨w19,w20,w21,w22,w23,w24,w25,w26,w27⟩:=v
 obtain⟨g0,gl,gr,ge,gI⟩:=hv
 dsimp only at g0 gl gr ge gI
 subst ge
 cases h1:(decide ((w25:Int) < (((aI T.2.1 q).1.length:Nat):Int))) with
 | true =>
  have hlt:=bS h1
  refine .inl ⟨_,by simp only [fT,h1,cond_true];rfl,⟨?_,?_,?_,rfl,gI⟩,?_⟩
  ·show 0<=w25+1;omega
  ·show(List.set _ _ _).length=_;rw [List.length_set];exact gl
  ·exact aFb gr _
  ·show tN (_ - (w25+1)) < tN (_ - w25);omega
 | false =>
  cases h3:(decide (((tZ w19):Int) > 0)) with
  | true =>
   have hQ:=aPr gl gr (bS h3)
   have:=aRz gI hQ
   exact .inr ⟨_,by simp only [fT,h1,h3,aJ];rfl,_,_,_,_,_,rfl,this⟩
  | false=>exact .inr ⟨_,by simp only [fT,h1,h3,cond_false];rfl,_,_,_,_,_,rfl,gI⟩
theorem aYl {T:TBL} {q:List Int} (n:Nat) {v13 v14:List Int} {v15 v16 v17 v18:Int} (h0:0<=v16)(hI:SInv T q v14 (v17,v18))(hn:tN (2 - v16) < n):∃b,SInv T q (aB (fI T q) n (v13,v14,v15,v16,v17,v18)) b:=by
 refine mM (fun v:List Int×List Int×Int×Zt=>tN (2 - v.2.2.2.1)) (fun v=>0<=v.2.2.2.1/\SInv T q v.2.1 (v.2.2.2.2.1,v.2.2.2.2.2)) (fun r=>∃b,SInv T q r b) (fun v hv=>?_) n _ ⟨h0,hI⟩ hn
 obtain⟨w13,w14,w15,w16,w17,w18⟩:=v
 obtain⟨g0,gI⟩:=hv
 dsimp only at g0 gI
 cases h1:(decide ((w16:Int) < 2)) with
 | true =>
  have hlt:=bS h1
  obtain⟨l,c,e,b1,b2,h3,h4⟩:=aYk (T:=T) (q:=q) (tN ((((aI T.2.1 q).1.length:Nat):Int) - 0)+1) w16 g0 (v19:=List.replicate (tN (q.length:Int)) 0) (v20:=w13) (v22:=w15) (v23:=w13.getD (tN w16) dF) (v25:=0) (Int.le_refl 0) (by rw [List.length_replicate];omega) (aFc _) gI (by omega)
  exact .inl ⟨_,by simp only [fI,h1,cond_true];exact h3,⟨by show 0<=w16+1;omega,h4⟩,by show tN (2 - (w16+1)) < tN (2 - w16);omega⟩
 | false=>exact .inr ⟨_,by simp only [fI,h1,cond_false];rfl,(w17,w18),gI⟩
theorem aPv {T:TBL} {q:List Int} (hb0:(bA T q).2=0):∃b,SInv T q (iD T q) b:=by
 obtain⟨⟨m1,m2⟩,tb,tm,w⟩:=T
 have hI:SInv ((m1,m2),tb,tm,w) q q (bA ((m1,m2),tb,tm,w) q).1:=⟨.inl rfl,hb0,rfl,Int.le_refl _⟩
 unfold iD
 rw [show(((bA ((m1,m2),tb,tm,w) q).2:Int) != 0)=false from bne_eq_false_iff_eq.2 hb0,cond_false]
 refine mM (fun v:Int×Int=>tN ((((aI tb q).1.length:Nat):Int) - v.2)) (fun v=>0<=v.2) (fun r=>∃b,SInv ((m1,m2),tb,tm,w) q r b) (fun v hv=>?_) _ _ (Int.le_refl 0) (lss _)
 obtain⟨w1,w2⟩:=v
 dsimp only at hv
 cases h1:(decide ((w2:Int) < (((aI tb q).1.length:Nat):Int))) with
 | true =>
  have hlt:=bS h1
  exact .inl ⟨_,by simp only [jZ,h1,cond_true];rfl,by show 0<=w2+1;omega,by show tN (_ - (w2+1)) < tN (_ - w2);omega⟩
 | false =>
  exact .inr ⟨_,by simp only [jZ,h1,cond_false];rfl,aYl _ (Int.le_refl 0) hI (by decide)⟩
theorem aKi {T:TBL} {q:List Int} (hb0:(bA T q).2=0):(iD T q).length=q.length:=by
 obtain⟨b,h⟩:=aPv hb0
 rcases h.hc with e | e
 ·rw [e]
 ·exact e.len
noncomputable def eR:Code:=(dL [1,1,1,1,0] [] (aG Tryz.f6)).1
noncomputable def aKj:List K:=(dL [1,1,1,1,0] [] (aG Tryz.f6)).2
def cB (a0:Zm)(a1:Int):LS:=⟨fU 34 [(2,(.p 2 0)),(4,(.p 3 0)),(5,(.p 4 0)),(8,(.p 5 0))],[(.live false true (flat dQ a0.1)),(.live false true (flat eE a0.2)),(.live true false [(.s 0 0 a0.1.length 3),(.s 1 0 a0.2.length 3)]),(.live true false [(.v (.slice none 0 0))]),(.live true false [(iv (lT (a0.1,a0.2) a1).2)]),(.live true false [(.s 0 0 a0.1.length 3),(.s 1 0 a0.2.length 3),(.s 6 0 (lT (a0.1,a0.2) a1).1.2.1.length 1),(.s 7 0 (lT (a0.1,a0.2) a1).1.2.2.1.length 1),(iv (lT (a0.1,a0.2) a1).1.2.2.2)]),(.live true true (flat iH (lT (a0.1,a0.2) a1).1.2.1)),(.live true true (flat iH (lT (a0.1,a0.2) a1).1.2.2.1))]⟩
def aBj (a0:Zm)(a1:Int):Unit->List Int×Int
 | () =>
  (mO (iD (fK a0 a1) (jV (a0.1,a0.2))),0)
noncomputable def aYm:Code:=(dL [1,1,1,1,1,0] [] (aG Tryz.f6)).1
noncomputable def aZp:List K:=(dL [1,1,1,1,1,0] [] (aG Tryz.f6)).2
def aU9:Code->Code
 | .seq x _=>x
 | _=>.skip
def uC:Code->Code
 | .seq _ y=>y
 | _=>.skip
def aYn:Code->Code
 | .cond _ x _=>x
 | _=>.skip
def bkI (T:TBL)(e:Int)(L:List Int):List BK:=[(.live false true (flat dQ T.1.1)),(.live false true (flat eE T.1.2)),(.live true false [(.s 0 0 T.1.1.length 3),(.s 1 0 T.1.2.length 3)]),(.live true false [(.v (.slice none 0 0))]),(.live true false [(iv e)]),(.live true false [(.s 0 0 T.1.1.length 3),(.s 1 0 T.1.2.length 3),(.s 6 0 T.2.1.length 1),(.s 7 0 T.2.2.1.length 1),(iv T.2.2.2)]),(.live true true (flat iH T.2.1)),(.live true true (flat iH T.2.2.1)),.dead,(.live true true (flat c3 L))]
def slI (T:TBL)(k n:Nat):List SV:=fU 34 [(2,(.p 2 0)),(4,(.p 3 0)),(5,(.p 4 0)),(8,(.p 5 0)),(28,(.a [(.s 0 0 T.1.1.length 3),(.s 1 0 T.1.2.length 3),(.s 6 0 T.2.1.length 1),(.s 7 0 T.2.2.1.length 1),(iv T.2.2.2)])),(29,(.a [(.s 0 0 T.1.1.length 3),(.s 1 0 T.1.2.length 3)])),(30,(.s 8 0 k 1)),(31,(.a [(.s 9 0 n 1)]))]
def aLp (y:Value):List SV:=[(.p 3 0),(.p 4 0),(.v (.iface 49 (.agg #[y])))]++List.replicate 16 .u
def sl6:List SV:=[.u,.u,.u,.u,(.p 3 0),(.p 4 0)]++List.replicate 28 .u
noncomputable def b15:Code:=aG Tryz.f15
noncomputable def x15:Code:=aYn (uC (uC b15))
noncomputable def r15:Code:=uC (uC x15)
def aIw (T:TBL)(e:Int)(L:List Int)(y:Value):LS:=⟨fU 19 [(0,(.p 3 0)),(1,(.p 4 0)),(3,(.p 10 0))],bkI T e L++[(.live true false [(.v y)])]⟩
theorem aR0 (L:List Int):mO L=L:=by
 unfold mO
 first | rfl | simp
theorem aKk (n t:Nat):(List.replicate n SV.u).getD t .u=.u:=by
 rw [eU]
 cases h:(List.replicate n SV.u)[t]? with
 | none=>rfl
 | some x=>exact List.eq_of_mem_replicate (List.mem_of_getElem? h)
theorem aVa {cx:Cx} (hcx:cx.base=2) {T:TBL} {e:Int} {L:List Int} (hL0:L.length≠0)(hLn:L.length<=1048576) {sl9:List SV} {D:List Deferred} {ρ:Env} {a:Act} {W:World} {N:Nat}
 (hr:Rep cx N D ρ (⟨sl9,bkI T e L⟩:LS).fs a W) {tmps:Array Value} (hsz:tmps.size=34) (h4:Rel ρ (.p 3 0) (tmps.getD 4 undef)) (h5:Rel ρ (.p 4 0) (tmps.getD 5 undef)) {v0 v1:Value} {yp:Option Addr} {yn yc:Nat} (hv0:Rel ρ (.p 3 0) v0) (hv1:Rel ρ (.p 4 0) v1) (hy:Rel ρ (.s 9 0 L.length 1) (.slice yp yn yc))
 {res:SV} {nb:List BK} (hres:res=.t [(.s 2 0 (mO L).length 1),(iv 0)]) (hnb:nb=[(.live true true (flat c3 (mO L)))]) :
 CallsD Tryz.prog 15 (#[]++[v0,v1].toArray) (.panicking [{ v:=.iface 49 (.agg #[.slice yp yn yc]),recovered:=false }]) W (fun
  | .returned _,u',w'=>Leaves Tryz.prog Tryz.f6 tmps (RR cx res nb []) [] (settle u') w'
  | .panicked chain,u',w'=>Leaves Tryz.prog Tryz.f6 tmps (RR cx res nb []) [] (raised u' chain) w'
  | .outgrown,_,w'=>RR cx res nb [] .outgrown w'):=by
 have hnt:Tryz.f15.ntmps=19:=by kernel_rfl
 refine aBi (c:=b15) (B:=aU9 b15) (rest:=uC b15) Tryz.func15 (by kernel_rfl) (by kernel_rfl) (by kernel_rfl) (x:=5) (y:=2) (by kernel_rfl) (by kernel_rfl) (by kernel_rfl) (by rw [hnt];exact Nat.lt_of_lt_of_eq (show 5 < 19 by omega) (by kernel_rfl)) ?_
 refine(wpIn_wide (n:=9)).1 ?_
 show Code.wpIn (Fw none) 9 Tryz.prog _ _ _ _
 rw [hnt]
 rw [show((({ tmps:=#[]++[v0,v1].toArray++Array.replicate (19 - ((#[]:Array Value)++[v0,v1].toArray).size) undef,defers:=[] }:Act).put (some 5) (.iface 49 (.agg #[.slice yp yn yc]))).put (some 2) (.iface 49 (.agg #[.slice yp yn yc])))=⟨#[v0,v1,.iface 49 (.agg #[.slice yp yn yc]),undef,undef,.iface 49 (.agg #[.slice yp yn yc]),undef,undef,undef,undef,undef,undef,undef,undef,undef,undef,undef,undef,undef],[]⟩ from by kernel_rfl]
 rw [show uC b15=.seq (aU9 (uC b15)) (uC (uC b15)) from by kernel_rfl]
 refine wpIn_seq (aGr (B:=aU9 (uC b15)) (by kernel_rfl) (x:=2) (y:=6) (z:=7) (t:=20) (t':=20) (by kernel_rfl) (by kernel_rfl) (by kernel_rfl) (by kernel_rfl) (ti:=49) (v:=.agg #[.slice yp yn yc]) (show 6 < 19 by omega) rfl ?_)
 show Code.wpIn (Fw none) 9 Tryz.prog (uC (uC b15)) _ _ _
 rw [show uC (uC b15)=.cond (.tmp 7) x15 .skip from by kernel_rfl]
 refine wpIn_cond (t:=true) rfl ?_
 rw [if_pos rfl]
 generalize hact:Act.put (Act.put _ _ _) _ _=a15
 have hd15:a15.defers=[]:=by rw [←hact];rfl
 have ht15:a15.tmps=#[v0,v1,.iface 49 (.agg #[.slice yp yn yc]),undef,undef,.iface 49 (.agg #[.slice yp yn yc]),.iface 49 (.agg #[.slice yp yn yc]),.bool true,undef,undef,undef,undef,undef,undef,undef,undef,undef,undef,undef]:=by rw [←hact];rfl
 have hrC:=hr.reslot (aLp (.slice yp yn yc)) a15 (by rw [ht15];rfl) (fun t=>by
  rw [ht15]
  match t with
  | 0=>exact hv0
  | 1=>exact hv1
  | 2 =>
   show Rel ρ (.v _) _
   simp only [Rel]
   rfl
  | t+3 =>
   have:(aLp (.slice yp yn yc)).getD (t+3) .u=.u:=aKk 16 t
   rw [this];simp only [Rel]) (fun t k hk=>by
  match t with
  | 0 =>
   have:3=k:=hk
   subst this
   show(bkI T e L).getD 3 .un≠.un
   simp [bkI]
  | 1 =>
   have:4=k:=hk
   subst this
   show(bkI T e L).getD 4 .un≠.un
   simp [bkI]
  | 2=>exact(show False from hk).elim
  | t+3 =>
   have:(aLp (.slice yp yn yc)).getD (t+3) .u=.u:=aKk 16 t
   rw [this] at hk;exact(show False from hk).elim)
 rw [hd15] at hrC
 have hr15:=hrC.sub' (base:=10) (fun i hi=>by
  show(bkI T e L).getD i .un≠.un
  match i,hi with
  | 0,_ | 1,_ | 2,_ | 3,_ | 4,_ | 5,_ | 6,_ | 7,_ | 8,_ | 9,_=>simp [bkI])
 refine(?_:Aw.Good Tryz.prog none 9 _ (Cx.only 10 W ρ (nE ρ (⟨aLp (.slice yp yn yc),bkI T e L⟩:LS).fs)) [] [.c x15] ⟨aLp (.slice yp yn yc),bkI T e L⟩) ρ a15 W hr15
 refine aS3 hT hm (f:=5000) [.z 5] [] [0,1,3] [10] (base:=10) rfl r15 [] (aIw T e L (.slice yp yn yc)) (by kernel_rfl) ?_
 intro ρ4 a4 W4 hr4
 simp only [dJ]
 rw [show r15=.region (aM r15).1 (aM r15).2.1 (aM r15).2.2 from by kernel_rfl]
 refine jY hT hm (m:=2) (show 2<=(aM r15).2.1.size from by rw [show(aM r15).2.1.size=5 from by kernel_rfl];omega) (qI (orc:=[]) (obs:=[]) (by kernel_rfl)) trivial hr4 (fun ρ5 a5 W5 hr5 hl5=>?_)
 have e17:(gP T0 (aM r15).2.1 (aM r15).2.2 2 (aIw T e L (.slice yp yn yc)) []).fs.sl 17=.v (.slice yp yn yc):=by kernel_rfl
 have hsl:=hr5.sl 17
 rw [e17] at hsl
 simp only [Rel] at hsl
 have h9:Rel ρ5 (.s 9 0 L.length 1) (a5.tmps.getD 17 undef):=by
  rw [hsl]
  exact Rel.congr hr5.fzo _ _ (fun k hk=>by
   have:9=k:=hk
   subst this
   exact(hr5.old 9 (by show 9 < 10;omega)).1) hy
 have hr5':=hr5.setSlot (t:=17) (x:=.s 9 0 L.length 1) (by rw [hl5];show 17 < 19;omega) h9 (fun k hk=>by
  have:9=k:=hk
  subst this
  rw [show(gP T0 (aM r15).2.1 (aM r15).2.2 2 (aIw T e L (.slice yp yn yc)) []).fs.bk 9=.live true true (flat c3 L) from by kernel_rfl];simp)
 have hszr:(aM r15).2.1.size=5:=by kernel_rfl
 refine aPp hT (by rw [hszr];omega) (aPq (s:=⟨(gP T0 (aM r15).2.1 (aM r15).2.2 2 (aIw T e L (.slice yp yn yc)) []).sl.set 17 (.s 9 0 L.length 1),(gP T0 (aM r15).2.1 (aM r15).2.2 2 (aIw T e L (.slice yp yn yc)) []).bk⟩) (orc:=mQ [.c [9] (aSs L (by omega) hL0 hLn)]) (obs:=stB [.c [9] (aSs L (by omega) hL0 hLn)]) (by kernel_rfl)) (zL _) (by rw [show((gP T0 (aM r15).2.1 (aM r15).2.2 2 (aIw T e L (.slice yp yn yc)) []).sl.set 17 (.s 9 0 L.length 1)).length=(gP T0 (aM r15).2.1 (aM r15).2.2 2 (aIw T e L (.slice yp yn yc)) []).sl.length from List.length_set,hl5];exact hr5') (fun ρ6 a6 W6 hr6 hl6=>?_)
 refine⟨.inl rfl,hr6.defs,.tuple #[],?_,?_⟩
 ·rw [kN,show Tryz.f15.results=#[] from by kernel_rfl]
  simp
 show Leaves Tryz.prog Tryz.f6 tmps (RR cx res nb []) [] .returning W6
 have hB6:=hrC.back (base:=10) (by rw [hcx];omega) hr6 (aPo (s:=⟨aLp (.slice yp yn yc),bkI T e L⟩) ⟨by kernel_rfl,by kernel_rfl⟩)
 have hcg:∀{k:Nat} {v:Value},k < 10->Rel ρ (.p k 0) v->Rel ρ6 (.p k 0) v:=fun {k v} hk h=>Rel.congr hr6.fzo _ _ (fun j hj=>by
  have:k=j:=hj
  subst this
  exact(hr6.old k hk).1) h
 have hr7:=hB6.reslot sl6 { tmps:=tmps,defers:=[] } (by rw [hsz];rfl) (fun t=>by
  match t with
  | 0=>exact trivial
  | 1=>exact trivial
  | 2=>exact trivial
  | 3=>exact trivial
  | 4=>exact hcg (by omega) h4
  | 5=>exact hcg (by omega) h5
  | t+6 =>
   have:sl6.getD (t+6) .u=.u:=aKk 28 t
   rw [this];simp only [Rel]) (fun t k hk=>by
  match t with
  | 0=>exact(show False from hk).elim
  | 1=>exact(show False from hk).elim
  | 2=>exact(show False from hk).elim
  | 3=>exact(show False from hk).elim
  | 4 =>
   have:3=k:=hk
   subst this
   exact(hr6.old 3 (by show 3 < 10;omega)).2
  | 5 =>
   have:4=k:=hk
   subst this
   exact(hr6.old 4 (by show 4 < 10;omega)).2
  | t+6 =>
   have:sl6.getD (t+6) .u=.u:=aKk 28 t
   rw [this] at hk;exact(show False from hk).elim)
 subst hres hnb
 generalize hs6:evL T0 (aM r15).2.1 2 _ _=s6 at hr7
 have hfin:fin T0 Tryz.f6.results.toList cx.base [] [11] ⟨sl6,s6.bk⟩=some (.t [(.s 2 0 (mO L).length 1),(iv 0)],[(.live true true (flat c3 (mO L)))],[]):=by
  rw [hcx,←hs6]
  kernel_rfl
 obtain⟨_,v,hv,hR⟩:=rJ (P:=Tryz.prog) (fn:=Tryz.f6) hT hfin ρ6 { tmps:=tmps,defers:=[] } W6 hr7
 exact⟨v,hv,hR⟩
theorem aPw (a0:ME)(a1:Int)(l1:a0.1.length<=2^63-1)(l2:a0.2.length<=2^63-1)(hi:(((sI (a0.1,a0.2) a1).2:Int) != 0)=false) {cx:Cx} (hcx:cx.base=2) :
 Aw.Good Tryz.prog none 9 (bodyPostD Tryz.prog Tryz.f6 (RR cx (.t [(.s 2 0 (mO (iD (fK a0 a1) (jV (a0.1,a0.2)))).length 1),(iv 0)]) [(.live true true (flat c3 (mO (iD (fK a0 a1) (jV (a0.1,a0.2))))))] [])) cx [] (.c eR::aKj) (cB a0 a1):=by
 have hP:=nP hi
 have hho:(jV (a0.1,a0.2)).length=a0.2.length:=kU (a0.1,a0.2)
 obtain⟨_,n1,n2,_,_⟩:=eL hP.v
 have t1:=hP.b1.hn
 have t2:=hP.b1.hl
 have t3:=hP.b1.hm
 have hpan:=aYj (fK a0 a1) (jV (a0.1,a0.2)) l1 l2 (Nat.le_trans t1 (by omega)) (by rw [show(fK a0 a1).2.2.1.length=_ from t2];omega) (by omega) hP.b1 hP.b2 hP.l hP.o
 have hlen:(iD (fK a0 a1) (jV (a0.1,a0.2))).length=(jV (a0.1,a0.2)).length:=aKi hP.o
 dsimp only at n1 n2
 generalize iD (fK a0 a1) (jV (a0.1,a0.2))=L at hpan hlen ⊢
 intro ρ a W hrep
 simp only [dJ]
 refine aFj hT hm (B:=eR) (by kernel_rfl) 1 (by kernel_rfl) (s:=cB a0 a1) [] (by kernel_rfl) (x:=27) (g:=15) (caps:=[.p 3 0,.p 4 0]) (by kernel_rfl) (by kernel_rfl) (by kernel_rfl) hrep (fun ρ1 a1' W1 vs hr1 hvs=>?_)
 obtain⟨v0,v1,rfl,hv0,hv1⟩:∃v0 v1,vs=[v0,v1]/\Rel ρ1 (.p 3 0) v0/\Rel ρ1 (.p 4 0) v1:=by
  match vs,hvs with
  | [v0,v1],h=>exact⟨v0,v1,rfl,by simp only [Rels] at h;exact h.1,by simp only [Rels] at h;exact h.2.1⟩
  | [],h=>exact(by simp [Rels] at h)
  | [_],h=>exact(by simp [Rels] at h)
  | _::_::_::_,h=>exact(by simp [Rels] at h)
 have hr1':=hr1.sub' (base:=8) (fun i hi=>by
  match i,hi with
  | 0,_=>rw [show(gP T0 (aM eR).2.1 (aM eR).2.2 1 (cB a0 a1) (mQ [])).fs.bk 0=(cB a0 a1).bk.getD 0 .un from by kernel_rfl];simp [cB]
  | 1,_=>rw [show(gP T0 (aM eR).2.1 (aM eR).2.2 1 (cB a0 a1) (mQ [])).fs.bk 1=(cB a0 a1).bk.getD 1 .un from by kernel_rfl];simp [cB]
  | 2,_=>rw [show(gP T0 (aM eR).2.1 (aM eR).2.2 1 (cB a0 a1) (mQ [])).fs.bk 2=(cB a0 a1).bk.getD 2 .un from by kernel_rfl];simp [cB]
  | 3,_=>rw [show(gP T0 (aM eR).2.1 (aM eR).2.2 1 (cB a0 a1) (mQ [])).fs.bk 3=(cB a0 a1).bk.getD 3 .un from by kernel_rfl];simp [cB]
  | 4,_=>rw [show(gP T0 (aM eR).2.1 (aM eR).2.2 1 (cB a0 a1) (mQ [])).fs.bk 4=(cB a0 a1).bk.getD 4 .un from by kernel_rfl];simp [cB]
  | 5,_=>rw [show(gP T0 (aM eR).2.1 (aM eR).2.2 1 (cB a0 a1) (mQ [])).fs.bk 5=(cB a0 a1).bk.getD 5 .un from by kernel_rfl];simp [cB]
  | 6,_=>rw [show(gP T0 (aM eR).2.1 (aM eR).2.2 1 (cB a0 a1) (mQ [])).fs.bk 6=(cB a0 a1).bk.getD 6 .un from by kernel_rfl];simp [cB]
  | 7,_=>rw [show(gP T0 (aM eR).2.1 (aM eR).2.2 1 (cB a0 a1) (mQ [])).fs.bk 7=(cB a0 a1).bk.getD 7 .un from by kernel_rfl];simp [cB])
 refine(?_:Aw.Good Tryz.prog none 9 _ (Cx.only 8 W1 ρ1 (nE ρ1 (gP T0 (aM eR).2.1 (aM eR).2.2 1 (cB a0 a1) (mQ [])).fs)) [_] aKj (gP T0 (aM eR).2.1 (aM eR).2.2 1 (cB a0 a1) (mQ []))) ρ1 a1' W1 hr1'
 refine aS3 hT hm (f:=5000) [.z 8] [] [2,4,5,8] [] (base:=8) rfl aYm aZp (cB a0 a1) (by kernel_rfl) ?_
 intro ρ2 a2 W2 hr2
 simp only [dJ]
 refine aIv hT hm (B:=aYm) (by kernel_rfl) 3 (by kernel_rfl) (s:=cB a0 a1) [.c [0,1] (C18 (a0.1,a0.2) l1 l2 n2)] (by kernel_rfl) (f:=.func 17) (args:=#[.tmp 28,.tmp 30]) (ts:=#[45,28]) (dst:=31) (by kernel_rfl) [0,1,6,7,8] (e:=⟨.a [.s 9 0 L.length 1],[(8,.dead),(9,.live true true (flat c3 L))]⟩) (by kernel_rfl) hpan (s4:=⟨slI (fK a0 a1) (jV (a0.1,a0.2)).length L.length,bkI (fK a0 a1) (lT (a0.1,a0.2) a1).2 L⟩) (by kernel_rfl) hr2 (fun ρ3 a3 v W3 hr3=>?_)
 rw [nB (by simp) (by simp) (by simp)]
 have hd:a3.defers=_:=hr3.defs
 show Leaves Tryz.prog Tryz.f6 a3.tmps _ a3.defers (.panicking _) W3
 rw [hd]
 have hsz3:(a3.put (some 31) v).tmps.size=34:=hr3.size
 have hsz:a3.tmps.size=34:=by simpa [Act.put] using hsz3
 have h31:=hr3.sl 31
 rw [show(⟨slI (fK a0 a1) (jV (a0.1,a0.2)).length L.length,bkI (fK a0 a1) (lT (a0.1,a0.2) a1).2 L⟩:LS).fs.sl 31=.a [.s 9 0 L.length 1] from by kernel_rfl,show(a3.put (some 31) v).tmps.getD 31 undef=v by simp [Act.put,hsz]] at h31
 simp only [Rel] at h31
 obtain⟨ys,rfl,hys⟩:=h31
 obtain⟨y,rfl,hy⟩:∃y,ys=[y]/\Rel ρ3 (.s 9 0 L.length 1) y:=by
  match ys,hys with
  | [y],h=>exact⟨y,rfl,by simp only [Rels] at h;exact h.1⟩
  | [],h=>exact(by simp [Rels] at h)
  | _::_::_,h=>exact(by simp [Rels] at h)
 obtain⟨yp,yn,yc,rfl⟩:∃yp yn yc,y=.slice yp yn yc:=by
  have h:=hy
  simp only [Rel] at h
  rcases h with⟨_,_,h⟩ | ⟨_,_,_,_,_,_,_,h,_⟩
  ·exact⟨_,_,_,h⟩
  ·exact⟨_,_,_,h⟩
 have hcg:∀{k:Nat} {v:Value},k < 8->Rel ρ1 (.p k 0) v->Rel ρ3 (.p k 0) v:=fun {k v} hk h=>Rel.congr hr3.fzo _ _ (fun j hj=>by
  have:k=j:=hj
  subst this
  exact(hr3.old k hk).1) h
 have hg:∀t,t≠31->(a3.put (some 31) (.agg [Value.slice yp yn yc].toArray)).tmps.getD t undef=a3.tmps.getD t undef:=fun t ht=>by
  show(a3.tmps.setIfInBounds 31 _).getD t undef=_
  simp [Array.getElem?_setIfInBounds_ne (Ne.symm ht)]
 have h4:=hr3.sl 4
 rw [show(⟨slI (fK a0 a1) (jV (a0.1,a0.2)).length L.length,bkI (fK a0 a1) (lT (a0.1,a0.2) a1).2 L⟩:LS).fs.sl 4=.p 3 0 from by kernel_rfl,hg 4 (by omega)] at h4
 have h5:=hr3.sl 5
 rw [show(⟨slI (fK a0 a1) (jV (a0.1,a0.2)).length L.length,bkI (fK a0 a1) (lT (a0.1,a0.2) a1).2 L⟩:LS).fs.sl 5=.p 4 0 from by kernel_rfl,hg 5 (by omega)] at h5
 have hB:=hr1.back (base:=8) (by rw [hcx];omega) hr3 (aPo (s:=gP T0 (aM eR).2.1 (aM eR).2.2 1 (cB a0 a1) (mQ [])) ⟨by kernel_rfl,by kernel_rfl⟩)
 have hE:kH Tryz.prog 15:=ent Tryz.func15 (by kernel_rfl) (show Tryz.f15.body=some b15 from by kernel_rfl)
 refine leaves_cons (by simp) (show(callFunc 15 (#[]++[v0,v1].toArray)).run Tryz.prog W3=_ from hE _ _) ?_
 exact aVa hcx (by omega) (by omega) hB hsz h4 h5 (hcg (by omega) hv0) (hcg (by omega) hv1) hy rfl rfl
theorem aYo (a0:Zm)(a1:Int)(l0_1:a0.1.length<=2^63-1)(l0_2:a0.2.length<=2^63-1) {cx:Cx} (hcx:cx.base=2):(((sI (a0.1,a0.2) a1).2:Int) != 0)=false->Aw.Good Tryz.prog none 9 (bodyPostD Tryz.prog Tryz.f6 (RR cx (.t [(.s 2 0 (aBj a0 a1 ()).1.length 1),(iv (aBj a0 a1 ()).2)]) [(.live true true (flat c3 (aBj a0 a1 ()).1))] [])) cx [] (.c eR::aKj) (cB a0 a1):=by
 intro hi
 have e:=Eq.refl (aBj a0 a1 ());conv at e=>rhs;simp only [aBj]
 rw [e]
 exact aPw a0 a1 l0_1 l0_2 hi hcx
def F6 (a0:Zm)(a1:Int):List Int×Int :=
 (bif (((sI (a0.1,a0.2) a1).2:Int) != 0) then
  (([]:List Int),(sI (a0.1,a0.2) a1).2)
 else
  (bif (((lT (a0.1,a0.2) a1).2:Int) != 0) then
   dF
  else
   (aBj a0 a1 ())))
theorem C6 (a0:Zm)(a1:Int)(l0_1:a0.1.length<=2^63-1)(l0_2:a0.2.length<=2^63-1):Con Tryz.prog 6 [(.a [(.s 0 0 a0.1.length 3),(.s 1 0 a0.2.length 3)]),(iv a1)] [(.live false true (flat dQ a0.1)),(.live false true (flat eE a0.2))] (.t [(.s 2 0 (F6 a0 a1).1.length 1),(iv (F6 a0 a1).2)]) [(.live true true (flat c3 (F6 a0 a1).1))]:=by
 refine aU7 Tryz.func6 (by kernel_rfl) fun cx hcx=>?_
 let t0:List (St Tryz.prog):=[.c [0,1] (C13 (a0.1,a0.2) a1 (by(try simp only [Lt]);omega) (by(try simp only [Lt]);omega))]
 cases h0:(((sI (a0.1,a0.2) a1).2:Int) != 0) with
 | true =>
  have q0:=bne_iff_ne.1 h0
  have e:=Eq.refl (F6 a0 a1);conv at e=>rhs;simp only [F6,h0,aJ]
  rw [e]
  exact rtD (t0++[.d h0]) [.cell 3 0 1] [6] hcx (by kernel_rfl)
 | false =>
  have q0:=bne_eq_false_iff_eq.1 h0
  let t1:List (St Tryz.prog):=(t0++[.d h0,.c [0,1] (C14 (a0.1,a0.2) a1 (by(try simp only [Lt]);omega) (by(try simp only [Lt]);omega) (nP h0).v (nP h0).hd)])
  cases h1:(((lT (a0.1,a0.2) a1).2:Int) != 0) with
  | true =>
   have q1:=bne_iff_ne.1 h1
   exact absurd (nP h0).p (bne_iff_ne.1 h1)
  | false =>
   have q1:=bne_eq_false_iff_eq.1 h1
   have e:=Eq.refl (F6 a0 a1);conv at e=>rhs;simp only [F6,h0,h1,aJ]
   rw [e]
   refine ga (t1++[.d h1,.z 7]) [] [2,4,5,8] [2,3,4,8,6,7] hcx eR (aKj) (cB a0 a1) (by kernel_rfl) ?_
   exact aYo a0 a1 l0_1 l0_2 hcx h0
end Go.Proofs.YtcmdknehplnpfaaGreat
namespace Go.Proofs.YtcmdknehplnpfaaGreat
open Go.Proofs Go.Aw Go.RowKit
set_option maxRecDepth 100000
theorem aR1 (m:ME)(q:List Int)(d:Int):mL m q d=bif (((iF m q d).2:Int) != 0) then(0,(iF m q d).2) else iA (iF m q d).1 q:=by
 obtain⟨m1,m2⟩:=m
 unfold mL
 dsimp only
 rw [qX]
 cases h:(((iF (m1,m2) q d).2:Int) != 0) with
 | true=>rfl
 | false =>
  obtain⟨h1,h2,h3⟩:=aCz h
  rw [cond_false,cond_false,aRm,aPj h1 h3]
  have key:=aX (S:=jW (m1,m2) q d) (fun v i=>(v,i)) (fun v s=>.inl (fV v s.2)) (fun v=>pA (W (Int.tdiv (bO q) v))) (L:=(iF (m1,m2) q d).1) (v:=0) (n:=tN ((((iF (m1,m2) q d).1.length:Nat):Int) - 0)+1) (fun _ _=>True) ?_ (fun _ _ _ _ _ _ _=>trivial) ?_ (by omega) trivial
  ·refine(Eq.trans key ?_)
   rw [bM];rfl
  ·intro i c hc v _
   obtain⟨hlt,hce⟩:=List.getElem?_eq_some_iff.1 hc
   simp only [jW]
   rw [qX,cA (by omega),cond_true,bE hc];rfl
  ·intro v _
   simp only [jW]
   rw [qX,cT (by omega),cond_false,aE4];rfl
theorem aR2 (m:ME)(q:List Int)(d:Int):pD m q d=bif (((iF m q d).2:Int) != 0) then(0,(iF m q d).2) else iB (iF m q d).1 q:=by
 obtain⟨m1,m2⟩:=m
 unfold pD
 dsimp only
 rw [qX]
 cases h:(((iF (m1,m2) q d).2:Int) != 0) with
 | true=>rfl
 | false =>
  rw [cond_false,cond_false,aRn]
  have key:=aX (S:=jX (m1,m2) q d) (fun v i=>(v,i)) (fun v s=>.inl (nS v s.1)) (fun v=>pA (kX (bO q) v)) (L:=(iF (m1,m2) q d).1) (v:=((iF (m1,m2) q d).1.getD (tN 0) dF).1) (n:=tN ((((iF (m1,m2) q d).1.length:Nat):Int) - 0)+1) (fun _ _=>True) ?_ (fun _ _ _ _ _ _ _=>trivial) ?_ (by omega) trivial
  ·refine(Eq.trans key ?_)
   rw [bM];rfl
  ·intro i c hc v _
   obtain⟨hlt,hce⟩:=List.getElem?_eq_some_iff.1 hc
   simp only [jX]
   rw [qX,cA (by omega),cond_true,bE hc];rfl
  ·intro v _
   simp only [jX]
   rw [qX,cT (by omega),cond_false,aE4];rfl
theorem aLq (m:ME)(q:List Int)(d:Int):pE m q d=bif (((EnV m q d).2:Int) != 0) then(0,(EnV m q d).2) else qY (EnV m q d).1 q:=by
 obtain⟨m1,m2⟩:=m
 unfold pE
 dsimp only
 rw [aX6]
 cases h:(((EnV (m1,m2) q d).2:Int) != 0) with
 | true=>rfl
 | false =>
  rw [cond_false,cond_false]
  have h':=h
  unfold EnV at h'
  cases hc:(chD (m1,m2) q d != 0) with
  | true=>rw [hc,cond_true] at h';rw [hc] at h';exact absurd h' (by decide)
  | false =>
   obtain⟨hC,hd⟩:=gO (bne_eq_false_iff_eq.1 hc)
   have hn:=hC.n;have hl:=hC.len
   unfold qY kX
   rw [aEw hC.ok hC.pos (by omega),aE4,aKd hC.ok (by omega)]
   rfl
theorem aVb {m:ME} {q:List Int} {d:Int} (h:((eQ m q d:Int) != 0)=false):iF m q d=aI (cC m d).1 q:=by
 rw [wX] at h
 obtain⟨hc,hd⟩:=gO (bne_eq_false_iff_eq.1 h)
 have hn:=hc.n;have hl:=hc.len
 unfold iF
 rw [h,cond_false,show(cC m d).1=(aZ m).map (kT m d) from by rw [aGn hc.v hd];rfl]
 exact(aPa (T:=(aZ m).map (kT m d)) (q:=q) (fun r hr=>by
  obtain⟨p,_,rfl⟩:=List.mem_map.1 hr
  have hpl:(aZ m).length=m.2.length:=List.length_map _
  unfold kT;rw [List.length_map];omega) (by omega)).symm
theorem aYp {m:ME} {q:List Int} {d:Int} (h:((eQ m q d:Int) != 0)=false):EnV m q d=cV (cJ m d).1 q:=by
 rw [wX] at h
 obtain⟨hc,hd⟩:=gO (bne_eq_false_iff_eq.1 h)
 have hn:=hc.n;have hl:=hc.len
 have hpl:(aZ m).length=m.2.length:=List.length_map _
 unfold EnV
 rw [h,cond_false,show(cJ m d).1=MT m d from by rw [aJ7 hc.v hd];rfl,aX4 (by omega) (by omega)]
theorem aSv (m:ME)(q:List Int)(d:Int):iC m q d=kY m q d:=by
 obtain⟨m1,m2⟩:=m
 unfold iC kY
 dsimp only
 rw [aR1,aLq,aR2,←aRl]
 cases hc:((eQ (m1,m2) q d:Int) != 0) with
 | true =>
  have e:iF (m1,m2) q d=([],eQ (m1,m2) q d):=by
   unfold iF
   rw [←wX,hc,cond_true]
  rw [e]
  simp only [hc,cond_true]
 | false =>
  obtain⟨hv,hd⟩:=aC3 hc
  have hp1:=(nJ (m:=(m1,m2)) (by rw [hv];rfl)).1
  rw [aBd hv hd,aVb hc,aYp hc,aPk hp1]
  have hB:=aPm hv
  unfold bA
  simp only [cond_false]
  generalize aI (cC (m1,m2) d).1 q=P
  generalize cV (cJ (m1,m2) d).1 q=E
  generalize iA P.1 q=b
  generalize iB P.1 q=a
  generalize qY E.1 q=t
  generalize F10 (m1,m2) (aE6 (bxV (m1,m2)))=B at hB
  rw [hB]
  have h0:(((0:Int)) != 0)=false:=rfl
  cases hP:((P.2:Int) != 0) with
  | true=>simp only [hP,h0,aJ]
  | false =>
   cases hb:((b.2:Int) != 0) with
   | true=>simp only [hP,hb,h0,aJ]
   | false =>
    cases hE:((E.2:Int) != 0) with
    | true=>simp only [hP,hb,hE,h0,aJ]
    | false =>
     cases ht:((t.2:Int) != 0) with
     | true=>simp only [hP,hb,hE,ht,h0,aJ]
     | false =>
      cases ha:((a.2:Int) != 0) with
      | true=>simp only [hP,hb,hE,ht,ha,h0,aJ]
      | false=>simp only [hP,hb,hE,ht,ha,h0,aJ]
def F5:Bool :=
 (bif (((F10 (mV.1,mV.2) (0,0,0)).2:Int) == 0) then
  (bif (((F10 (mV.1,mV.2) (0,0,0)).1:Int) == 1048576) then
   (bif (((F12 (mV.1,mV.2) 1).2:Int) == 0) then
    (bif (((F12 (mV.1,mV.2) 1).1:Int) == 1280) then
     (bif (((sI (mV.1,mV.2) 0).2:Int) == 0) then
      (bif (decide (((sI (mV.1,mV.2) 0).1.1:Int) > 0)) then
       (decide (((sI (mV.1,mV.2) 0).1.2:Int)<=1048576))
      else
       false)
     else
      false)
    else
     false)
   else
    false)
  else
   false)
 else
  false)
theorem C5:Con Tryz.prog 5 [] [] (.v (.bool F5)) []:=by
 refine aK Tryz.func5 (by kernel_rfl) fun cx hcx=>?_
 have ho1:mV.1.length=6:=by kernel_rfl
 have ho2:mV.2.length=8:=by kernel_rfl
 let t0:List (St Tryz.prog):=[.c [] (C11),.c [0,1] (C10 (mV.1,mV.2) (0,0,0) (by(try simp only [Lt]);omega) (by(try simp only [Lt]);omega)),.c [] (C11),.c [2,3] (C12 (mV.1,mV.2) 1 (by(try simp only [Lt]);omega) (by(try simp only [Lt]);omega)),.c [] (C11),.c [4,5] (C13 (mV.1,mV.2) 0 (by(try simp only [Lt]);omega) (by(try simp only [Lt]);omega))]
 cases h0:(((F10 (mV.1,mV.2) (0,0,0)).2:Int) == 0) with
 | true =>
  have q0:=eq_of_beq h0
  let t1:List (St Tryz.prog):=(t0++[.d h0])
  cases h1:(((F10 (mV.1,mV.2) (0,0,0)).1:Int) == 1048576) with
  | true =>
   have q1:=eq_of_beq h1
   let t2:List (St Tryz.prog):=(t1++[.d h1])
   cases h2:(((F12 (mV.1,mV.2) 1).2:Int) == 0) with
   | true =>
    have q2:=eq_of_beq h2
    let t3:List (St Tryz.prog):=(t2++[.d h2])
    cases h3:(((F12 (mV.1,mV.2) 1).1:Int) == 1280) with
    | true =>
     have q3:=eq_of_beq h3
     let t4:List (St Tryz.prog):=(t3++[.d h3])
     cases h4:(((sI (mV.1,mV.2) 0).2:Int) == 0) with
     | true =>
      have q4:=eq_of_beq h4
      let t5:List (St Tryz.prog):=(t4++[.d h4])
      cases h5:(decide (((sI (mV.1,mV.2) 0).1.1:Int) > 0)) with
      | true =>
       have q5:=bS h5
       have e:=Eq.refl F5;conv at e=>rhs;simp only [F5,h0,h1,h2,h3,h4,h5,aJ]
       rw [e]
       exact rt (t5++[.d h5]) [] [] hcx (by kernel_rfl)
      | false =>
       have q5:=cE h5
       have e:=Eq.refl F5;conv at e=>rhs;simp only [F5,h0,h1,h2,h3,h4,h5,aJ]
       rw [e]
       exact rt (t5++[.d h5]) [] [] hcx (by kernel_rfl)
     | false =>
      have q4:=ne_of_beq_false h4
      have e:=Eq.refl F5;conv at e=>rhs;simp only [F5,h0,h1,h2,h3,h4,aJ]
      rw [e]
      exact rt (t4++[.d h4]) [] [] hcx (by kernel_rfl)
    | false =>
     have q3:=ne_of_beq_false h3
     have e:=Eq.refl F5;conv at e=>rhs;simp only [F5,h0,h1,h2,h3,aJ]
     rw [e]
     exact rt (t3++[.d h3]) [] [] hcx (by kernel_rfl)
   | false =>
    have q2:=ne_of_beq_false h2
    have e:=Eq.refl F5;conv at e=>rhs;simp only [F5,h0,h1,h2,aJ]
    rw [e]
    exact rt (t2++[.d h2]) [] [] hcx (by kernel_rfl)
  | false =>
   have q1:=ne_of_beq_false h1
   have e:=Eq.refl F5;conv at e=>rhs;simp only [F5,h0,h1,aJ]
   rw [e]
   exact rt (t1++[.d h1]) [] [] hcx (by kernel_rfl)
 | false =>
  have q0:=ne_of_beq_false h0
  have e:=Eq.refl F5;conv at e=>rhs;simp only [F5,h0,aJ]
  rw [e]
  exact rt (t0++[.d h0]) [] [] hcx (by kernel_rfl)
theorem aVc:F5=true:=by kernel_rfl
theorem aKl (m:ME)(d:Int):F6 m d=bif ((sI m d).2 != 0) then([],(sI m d).2) else(iD (fK m d) (jV m),0):=by
 obtain⟨m1,m2⟩:=m
 unfold F6
 cases h:((sI (m1,m2) d).2 != 0) with
 | true=>rfl
 | false =>
  rw [cond_false,cond_false,show((lT ((m1,m2).1,(m1,m2).2) d).2 != 0)=false from bne_eq_false_iff_eq.2 (nP h).p,cond_false]
  unfold aBj
  rw [aR0]
theorem aR3 (m:ME)(d:Int):(F6 m d).1.length<=96:=by
 rw [aKl]
 cases h:((sI m d).2 != 0) with
 | true=>rw [cond_true];exact Nat.zero_le _
 | false =>
  rw [cond_false]
  have hP:=nP h
  have:=aKi hP.o
  have ho:=kU m
  have hn:=(eL hP.v).2.2.1
  show(iD (fK m d) (jV m)).length<=96
  rw [show(iD (fK m d) (jV m)).length=(jV m).length from this,ho]
  exact hn
def F3 (a0:Zm)(a1:Int):Bool :=
 (bif (decide (((a0.2.length:Int):Int) > 14)) then
  F5
 else
  (bif (F4 (a0.1,a0.2) a1) then
   F5
  else
   (bif (((F6 (a0.1,a0.2) a1).2:Int) != (F7 (a0.1,a0.2) a1).2) then
    false
   else
    (bif (((F6 (a0.1,a0.2) a1).2:Int) != 0) then
     (bif (((((F6 (a0.1,a0.2) a1).1.length:Nat):Int):Int) == 0) then
      F5
     else
      false)
    else
     (bif (((kY (a0.1,a0.2) (F6 (a0.1,a0.2) a1).1 a1).2:Int) == 0) then
      (bif (decide (((W ((kY (a0.1,a0.2) (F6 (a0.1,a0.2) a1).1 a1).1.2 - (kY (a0.1,a0.2) (F6 (a0.1,a0.2) a1).1 a1).1.1)):Int)<=(W ((F7 (a0.1,a0.2) a1).1.2 - (F7 (a0.1,a0.2) a1).1.1)))) then
       F5
      else
       false)
     else
      false)))))
theorem C3 (a0:Zm)(a1:Int)(l0_1:a0.1.length<=2^63-1)(l0_2:a0.2.length<=2^63-1):Con Tryz.prog 3 [(.a [(.s 0 0 a0.1.length 3),(.s 1 0 a0.2.length 3)]),(iv a1)] [(.live false true (flat dQ a0.1)),(.live false true (flat eE a0.2))] (.v (.bool (F3 a0 a1))) []:=by
 refine aK Tryz.func3 (by kernel_rfl) fun cx hcx=>?_
 have hx2:=aR3 (a0.1,a0.2) a1
 cases h0:(decide (((a0.2.length:Int):Int) > 14)) with
 | true =>
  have q0:=bS h0
  have e:=Eq.refl (F3 a0 a1);conv at e=>rhs;simp only [F3,h0,aJ]
  rw [e]
  exact rt [.d h0,.c [] (C5)] [] [] hcx (by kernel_rfl)
 | false =>
  have q0:=cE h0
  let t1:List (St Tryz.prog):=[.d h0,.c [0,1] (C4 (a0.1,a0.2) a1 (by(try simp only [Lt]);omega) (by(try simp only [Lt]);omega))]
  cases h1:(F4 (a0.1,a0.2) a1) with
  | true =>
   have e:=Eq.refl (F3 a0 a1);conv at e=>rhs;simp only [F3,h0,h1,aJ]
   rw [e]
   exact rt (t1++[.d h1,.c [] (C5)]) [] [] hcx (by kernel_rfl)
  | false =>
   let t2:List (St Tryz.prog):=(t1++[.d h1,.c [0,1] (C6 (a0.1,a0.2) a1 (by(try simp only [Lt]);omega) (by(try simp only [Lt]);omega)),.c [0,1] (C7 (a0.1,a0.2) a1 (by(try simp only [Lt]);omega) (by(try simp only [Lt]);omega))])
   cases h2:(((F6 (a0.1,a0.2) a1).2:Int) != (F7 (a0.1,a0.2) a1).2) with
   | true =>
    have q2:=bne_iff_ne.1 h2
    have e:=Eq.refl (F3 a0 a1);conv at e=>rhs;simp only [F3,h0,h1,h2,aJ]
    rw [e]
    exact rt (t2++[.d h2]) [] [] hcx (by kernel_rfl)
   | false =>
    have q2:=bne_eq_false_iff_eq.1 h2
    let t3:List (St Tryz.prog):=(t2++[.d h2])
    cases h3:(((F6 (a0.1,a0.2) a1).2:Int) != 0) with
    | true =>
     have q3:=bne_iff_ne.1 h3
     let t4:List (St Tryz.prog):=(t3++[.d h3])
     cases h4:(((((F6 (a0.1,a0.2) a1).1.length:Nat):Int):Int) == 0) with
     | true =>
      have q4:=eq_of_beq h4
      have e:=Eq.refl (F3 a0 a1);conv at e=>rhs;simp only [F3,h0,h1,h2,h3,h4,aJ]
      rw [e]
      exact rt (t4++[.d h4,.c [] (C5)]) [] [] hcx (by kernel_rfl)
     | false =>
      have q4:=ne_of_beq_false h4
      have e:=Eq.refl (F3 a0 a1);conv at e=>rhs;simp only [F3,h0,h1,h2,h3,h4,aJ]
      rw [e]
      exact rt (t4++[.d h4]) [] [] hcx (by kernel_rfl)
    | false =>
     have q3:=bne_eq_false_iff_eq.1 h3
     let t4:List (St Tryz.prog):=(t3++[.d h3,.c [0,1,3] (aYc (a0.1,a0.2) (F6 (a0.1,a0.2) a1).1 a1 (by(try simp only [Lt]);omega) (by(try simp only [Lt]);omega) (by(try simp only [Lt]);omega))])
     cases h4:(((kY (a0.1,a0.2) (F6 (a0.1,a0.2) a1).1 a1).2:Int) == 0) with
     | true =>
      have q4:=eq_of_beq h4
      let t5:List (St Tryz.prog):=(t4++[.d h4])
      cases h5:(decide (((W ((kY (a0.1,a0.2) (F6 (a0.1,a0.2) a1).1 a1).1.2 - (kY (a0.1,a0.2) (F6 (a0.1,a0.2) a1).1 a1).1.1)):Int)<=(W ((F7 (a0.1,a0.2) a1).1.2 - (F7 (a0.1,a0.2) a1).1.1)))) with
      | true =>
       have q5:=bS h5
       have e:=Eq.refl (F3 a0 a1);conv at e=>rhs;simp only [F3,h0,h1,h2,h3,h4,h5,aJ]
       rw [e]
       exact rt (t5++[.d h5,.c [] (C5)]) [] [] hcx (by kernel_rfl)
      | false =>
       have q5:=cE h5
       have e:=Eq.refl (F3 a0 a1);conv at e=>rhs;simp only [F3,h0,h1,h2,h3,h4,h5,aJ]
       rw [e]
       exact rt (t5++[.d h5]) [] [] hcx (by kernel_rfl)
     | false =>
      have q4:=ne_of_beq_false h4
      have e:=Eq.refl (F3 a0 a1);conv at e=>rhs;simp only [F3,h0,h1,h2,h3,h4,aJ]
      rw [e]
      exact rt (t4++[.d h4]) [] [] hcx (by kernel_rfl)
theorem aYq (m:ME)(d:Int):sI m d=F7 m d:=by
 unfold sI F7
 rw [show wW (m.1,m.2)=fW (m.1,m.2) from(aEl m).symm,aRo,aSv]
theorem aR4 {m:ME} {d:Int} (h:((sI m d).2 != 0)=false):(iC m (iD (fK m d) (jV m)) d).2=0 /\
 W ((iC m (iD (fK m d) (jV m)) d).1.2 - (iC m (iD (fK m d) (jV m)) d).1.1)<=W ((sI m d).1.2 - (sI m d).1.1):=by
 obtain⟨m1,m2⟩:=m
 have hP:=nP h
 obtain⟨b,hS⟩:=aPv (T:=fK (m1,m2) d) (q:=jV (m1,m2)) hP.o
 have ho:=kU (m1,m2)
 have hn:=(eL hP.v).2.1
 have hQ:∀c,(c=jV (m1,m2)\/QOK (jV (m1,m2)).length c)->(eQ (m1,m2) c d != 0)=false:=fun c hc=>by
  rcases hc with rfl | hc
  ·refine bne_eq_false_iff_eq.2 (aPt hP.v hP.hd ho (aRy _) ?_)
   rw [aE5]
   obtain⟨x,hx⟩:∃x,x∈m2:=List.exists_mem_of_length_pos (by dsimp only at hn;omega)
   exact⟨1,List.mem_map.2 ⟨x,hx,rfl⟩,by decide⟩
  ·exact bne_eq_false_iff_eq.2 (aPt hP.v hP.hd (hc.len.trans ho) hc.ok hc.pos)
 generalize iD (fK (m1,m2) d) (jV (m1,m2))=L at hS ⊢
 have hB:=(aPu (hQ L hS.hc)).2
 rw [hB,hP.e]
 refine⟨hS.ho,?_⟩
 have hw:=hS.hw
 rw [hS.hb] at hw
 exact hw
theorem aPx (m:ME)(d:Int):F3 m d=true:=by
 obtain⟨m1,m2⟩:=m
 have hs:=aVc
 have hE:=aYq (m1,m2) d
 have hv:=aKl (m1,m2) d
 unfold F3
 dsimp only
 rw [hs,←hE,←aSv,hv]
 cases (decide (((m2.length:Int):Int) > 14)) with
 | true=>rfl
 | false =>
 cases (F4 (m1,m2) d) with
 | true=>rfl
 | false =>
 cases h:((sI (m1,m2) d).2 != 0) with
 | true =>
  simp only [cond_true,cond_false,bne_self_eq_false,h]
  rfl
 | false =>
  have h0:=bne_eq_false_iff_eq.1 h
  obtain⟨h1,h2⟩:=aR4 h
  simp only [cond_false,h0,bne_self_eq_false,h1,beq_self_eq_true,cond_true,cA h2]
end Go.Proofs.YtcmdknehplnpfaaGreat
