/-
  Parts of the proofs of the laws: the executor, what functions of the program compute, and that it is what the statements ask. No premise.
-/
import Derived.Test.YtaeagjnpobdglaaVPca4
set_option linter.unusedVariables false
set_option linter.unusedSimpArgs false
set_option maxHeartbeats 4000000
open Int (toNat)
namespace Go.Proofs.Ytaeagjnpobdglaa
open Go.Proofs Go.Aw Go.RowKit
set_option maxRecDepth 100000
namespace CapT
theorem jQ {a b:Rat} (h:a=b):a≤b:=by rw [h];exact Rat.le_refl
def sm:Nat→(Nat→Rat)→Rat
 | 0,_=>0
 | n+1,f=>sm n f+f n
theorem bL {n:Nat} {f g:Nat→Rat} (h:∀i,i < n→f i=g i):sm n f=sm n g:=by
 induction n with
 | zero=>rfl
 | succ n ih=>rw [sm,sm,ih (fun i hi=>h i (by omega)),h n (by omega)]
theorem lT {n:Nat} {f g:Nat→Rat} (h:∀i,i < n→f i≤g i):sm n f≤sm n g:=by
 induction n with
 | zero=>exact Rat.le_refl
 | succ n ih =>
   have h1:=ih (fun i hi=>h i (by omega))
   have h2:=h n (by omega)
   rw [sm,sm];grind
theorem lA (n:Nat)(f g:Nat→Rat):sm n (fun i=>f i+g i)=sm n f+sm n g:=by
 induction n with
 | zero=>grind [sm]
 | succ n ih=>rw [sm,sm,sm,ih];grind
theorem cW (n:Nat)(c:Rat)(f:Nat→Rat):sm n (fun i=>c*f i)=c*sm n f:=by
 induction n with
 | zero=>grind [sm]
 | succ n ih=>rw [sm,sm,ih];grind
theorem xV (n:Nat):sm n (fun _=>0)=0:=by
 induction n with
 | zero=>rfl
 | succ n ih=>rw [sm,ih];grind
theorem pQ {n:Nat} {f:Nat→Rat} (h:∀i,i < n→0≤f i):0≤sm n f:=by
 have:=lT (f:=fun _=>0) h
 rwa [xV] at this
theorem aEd (n m:Nat)(f:Nat→Nat→Rat):sm n (fun i=>sm m (fun j=>f i j))=sm m (fun j=>sm n (fun i=>f i j)):=by
 induction n with
 | zero=>simp only [sm,xV]
 | succ n ih=>simp only [sm];rw [ih,lA]
theorem aOm (a b:Nat)(f:Nat→Rat):sm (a+b) f=sm a f+sm b (fun i=>f (a+i)):=by
 induction b with
 | zero=>simp only [sm,Nat.add_zero];grind
 | succ b ih=>rw [←Nat.add_assoc,sm,ih,sm];grind
theorem aAs (n:Nat)(c:Rat):sm n (fun _=>c)=n*c:=by
 induction n with
 | zero=>simp only [sm];grind
 | succ n ih=>rw [sm,ih];grind
theorem aAt (n:Nat)(f:Nat→Rat):sm (n+1) f=f 0+sm n (fun i=>f (i+1)):=by
 induction n with
 | zero=>simp only [sm];grind
 | succ n ih=>rw [sm,ih,sm];grind
theorem aU4 {n m a:Nat} {f:Nat→Rat} (h:∀i,i < n→0≤f i)(hn:a+m≤n):sm m (fun i=>f (a+i))≤sm n f:=by
 have e:n=a+m+(n - a - m):=by omega
 rw [e,aOm,aOm]
 have h1:=pQ (n:=a) (f:=f) (fun i hi=>h i (by omega))
 have h2:=pQ (n:=n - a - m) (f:=fun i=>f (a+m+i)) (fun i hi=>h _ (by omega))
 grind
def ln (L:Nat)(f:Int→Rat):Rat:=sm (2*L+1) (fun i=>f ((i:Int) - L))
theorem dZ {L:Nat} {f g:Int→Rat} (h:∀x:Int,-L≤x→x≤L→f x=g x):ln L f=ln L g:=bL (fun i hi=>h _ (by omega) (by omega))
theorem tV {L:Nat} {f g:Int→Rat} (h:∀x:Int,-L≤x→x≤L→f x≤g x):ln L f≤ln L g:=lT (fun i hi=>h _ (by omega) (by omega))
theorem jR {L:Nat} {f:Int→Rat} (h:∀x:Int,-L≤x→x≤L→0≤f x):0≤ln L f:=pQ (fun i hi=>h _ (by omega) (by omega))
theorem vT (L:Nat)(f g:Int→Rat):ln L (fun x=>f x+g x)=ln L f+ln L g:=lA _ _ _
theorem aIb (L:Nat)(c:Rat)(f:Int→Rat):ln L (fun x=>c*f x)=c*ln L f:=cW _ _ _
theorem aRu (L:Nat):ln L (fun _=>0)=0:=xV _
theorem aEe (L M:Nat)(f:Int→Int→Rat):ln L (fun x=>ln M (fun y=>f x y))=ln M (fun y=>ln L (fun x=>f x y)):=aEd _ _ _
theorem tW (L:Nat)(c:Rat):ln L (fun _=>c)=(2*L+1)*c:=by
 rw [ln,aAs];grind
theorem aOn (L:Nat)(f:Int→Rat):ln L (fun x=>f (x+1))+f (-L)=ln L f+f (L+1):=by
 have h1:=aAt (2*L+1) (fun i=>f ((i:Int) - L))
 rw [sm] at h1
 have e:sm (2*L+1) (fun i=>f (((i+1:Nat):Int) - L))=ln L (fun x=>f (x+1)):=bL (fun i hi=>by rw [show((i+1:Nat):Int) - L=(i:Int) - L+1 by omega])
 rw [e,show(((0:Nat):Int) - (L:Int))=-L by omega,show(((2*L+1:Nat):Int) - (L:Int))=L+1 by omega] at h1
 have e2:ln L f=sm (2*L+1) (fun i=>f ((i:Int) - L)):=rfl
 rw [e2];grind
theorem aLh {L:Nat} {f:Int→Rat} (h1:f (-L)=0)(h2:f (L+1)=0):ln L (fun x=>f (x+1))=ln L f:=by
 have:=aOn L f
 rw [h1,h2] at this;grind
theorem aIc {L M:Nat} {a:Int} {f:Int→Rat} (h:∀x:Int,-L≤x→x≤L→0≤f x)(h1:-L≤a - M)(h2:a+M≤L):ln M (fun y=>f (a+y))≤ln L f:=by
 have:=aU4 (n:=2*L+1) (m:=2*M+1) (a:=toNat (L+a - M)) (f:=fun i=>f ((i:Int) - L)) (fun i hi=>h _ (by omega) (by omega)) (by omega)
 refine Rat.le_trans (jQ (bL (fun i hi=>?_))) this
 show f _=f _
 rw [show((toNat (L+a - M)+i:Nat):Int) - L=a+((i:Int) - M) by omega]
theorem aEf (L:Nat)(f:Int→Rat):ln (L+1) f=ln L f+f (L+1)+f (-L - 1):=by
 have e:2*(L+1)+1=(2*L+1+1)+1:=by omega
 rw [ln,e,sm,aAt]
 have e2:sm (2*L+1) (fun i=>f (((i+1:Nat):Int) - ((L+1:Nat):Int)))=ln L f:=bL (fun i hi=>by rw [show(((i+1:Nat):Int) - ((L+1:Nat):Int))=(i:Int) - L by omega])
 rw [e2,show(((0:Nat):Int) - ((L+1:Nat):Int))=-L - 1 by omega,show(((2*L+1+1:Nat):Int) - ((L+1:Nat):Int))=L+1 by omega]
 grind
abbrev V3:=Zt
def va (p q:V3):V3:=(p.1+q.1,p.2.1+q.2.1,p.2.2+q.2.2)
def vs (p q:V3):V3:=(p.1 - q.1,p.2.1 - q.2.1,p.2.2 - q.2.2)
def inb (L:Int)(p:V3):Prop:=-L≤p.1∧p.1≤L∧-L≤p.2.1∧p.2.1≤L∧-L≤p.2.2∧p.2.2≤L
def bx (L:Nat)(f:V3→Rat):Rat:=ln L (fun x=>ln L (fun y=>ln L (fun z=>f (x,y,z))))
theorem oR {L:Nat} {f g:V3→Rat} (h:∀p,inb L p→f p=g p):bx L f=bx L g :=
 dZ (fun x a b=>dZ (fun y c d=>dZ (fun z e k=>h (x,y,z) ⟨a,b,c,d,e,k⟩)))
theorem tX {L:Nat} {f g:V3→Rat} (h:∀p,inb L p→f p≤g p):bx L f≤bx L g :=
 tV (fun x a b=>tV (fun y c d=>tV (fun z e k=>h (x,y,z) ⟨a,b,c,d,e,k⟩)))
theorem aLi {L:Nat} {f:V3→Rat} (h:∀p,inb L p→0≤f p):0≤bx L f :=
 jR (fun x a b=>jR (fun y c d=>jR (fun z e k=>h (x,y,z) ⟨a,b,c,d,e,k⟩)))
theorem aAu (L:Nat)(f g:V3→Rat):bx L (fun p=>f p+g p)=bx L f+bx L g:=by
 simp only [bx,vT]
theorem lB (L:Nat)(c:Rat)(f:V3→Rat):bx L (fun p=>c*f p)=c*bx L f:=by
 simp only [bx,aIb]
theorem aJ1 (L:Nat):bx L (fun _=>0)=0:=by
 simp only [bx,aRu]
theorem aRv (L:Nat)(f g:V3→Rat):bx L (fun p=>f p - g p)=bx L f - bx L g:=by
 have:=aAu L f (fun p=>(-1)*g p)
 rw [lB] at this
 have e:bx L (fun p=>f p - g p)=bx L (fun p=>f p+(-1)*g p):=oR (fun p _=>by grind)
 rw [e,this];grind
theorem rZ {L M:Nat} {a:V3} {f:V3→Rat} (h:∀p,inb L p→0≤f p)(h1:∀p,inb M p→inb L (va a p)):bx M (fun p=>f (va a p))≤bx L f:=by
 obtain⟨a1,a2,a3,a4,a5,a6⟩:=h1 (-(M:Int),-(M:Int),-(M:Int)) ⟨by simp only;omega,by simp only;omega,by simp only;omega,by simp only;omega,by simp only;omega,by simp only;omega⟩
 obtain⟨b1,b2,b3,b4,b5,b6⟩:=h1 ((M:Int),(M:Int),(M:Int)) ⟨by simp only;omega,by simp only;omega,by simp only;omega,by simp only;omega,by simp only;omega,by simp only;omega⟩
 simp only [va] at *
 have s1:bx M (fun p=>f (va a p))≤ln M (fun x=>ln L (fun y=>ln L (fun z=>f (a.1+x,y,z)))):=by
   refine tV (fun x hx1 hx2=>?_)
   have s2:ln M (fun y=>ln M (fun z=>f (a.1+x,a.2.1+y,a.2.2+z)))≤ln M (fun y=>ln L (fun z=>f (a.1+x,a.2.1+y,z))):=by
     refine tV (fun y hy1 hy2=>?_)
     exact aIc (f:=fun z=>f (a.1+x,a.2.1+y,z)) (fun z hz1 hz2=>h _ ⟨by simp only;omega,by simp only;omega,by simp only;omega,by simp only;omega,hz1,hz2⟩) (by omega) (by omega)
   refine Rat.le_trans s2 ?_
   exact aIc (f:=fun y=>ln L (fun z=>f (a.1+x,y,z))) (fun y hy1 hy2=>jR (fun z hz1 hz2=>h _ ⟨by simp only;omega,by simp only;omega,hy1,hy2,hz1,hz2⟩)) (by omega) (by omega)
 refine Rat.le_trans s1 ?_
 exact aIc (f:=fun x=>ln L (fun y=>ln L (fun z=>f (x,y,z)))) (fun x hx1 hx2=>jR (fun y hy1 hy2=>jR (fun z hz1 hz2=>h _ ⟨hx1,hx2,hy1,hy2,hz1,hz2⟩))) (by omega) (by omega)
def ls {α:Type}:List α→(α→Rat)→Rat
 | [],_=>0
 | a::l,f=>f a+ls l f
theorem ls_congr {α:Type} {l:List α} {f g:α→Rat} (h:∀a,a∈l→f a=g a):ls l f=ls l g:=by
 induction l with
 | nil=>rfl
 | cons a l ih=>rw [ls,ls,h a (List.mem_cons_self ..),ih (fun b hb=>h b (List.mem_cons_of_mem _ hb))]
theorem qU {α:Type} {l:List α} {f g:α→Rat} (h:∀a,a∈l→f a≤g a):ls l f≤ls l g:=by
 induction l with
 | nil=>exact Rat.le_refl
 | cons a l ih =>
   have h1:=h a (List.mem_cons_self ..)
   have h2:=ih (fun b hb=>h b (List.mem_cons_of_mem _ hb))
   rw [ls,ls];grind
theorem aEg {α:Type} (l:List α)(f g:α→Rat):ls l (fun a=>f a+g a)=ls l f+ls l g:=by
 induction l with
 | nil=>grind [ls]
 | cons a l ih=>rw [ls,ls,ls,ih];grind
theorem ls_mul {α:Type} (l:List α)(c:Rat)(f:α→Rat):ls l (fun a=>c*f a)=c*ls l f:=by
 induction l with
 | nil=>grind [ls]
 | cons a l ih=>rw [ls,ls,ih];grind
theorem aRw {α:Type} (l:List α):ls l (fun _=>0)=0:=by
 induction l with
 | nil=>rfl
 | cons a l ih=>rw [ls,ih];grind
theorem hO {α:Type} {l:List α} {f:α→Rat} (h:∀a,a∈l→0≤f a):0≤ls l f:=by
 have:=qU (f:=fun _=>0) h
 rwa [aRw] at this
theorem aOo {α:Type} (l m:List α)(f:α→Rat):ls (l++m) f=ls l f+ls m f:=by
 induction l with
 | nil=>show ls m f=0+ls m f;grind
 | cons a l ih=>rw [List.cons_append,ls,ls,ih];grind
theorem ls_flat {α β:Type} (l:List α)(g:α→List β)(f:β→Rat):ls (l.flatMap g) f=ls l (fun a=>ls (g a) f):=by
 induction l with
 | nil=>rfl
 | cons a l ih=>rw [List.flatMap_cons,aOo,ih,ls]
theorem ls_map {α β:Type} (l:List α)(g:α→β)(f:β→Rat):ls (l.map g) f=ls l (fun a=>f (g a)):=by
 induction l with
 | nil=>rfl
 | cons a l ih=>rw [List.map_cons,ls,ls,ih]
theorem aJ2 {α:Type} (l:List α)(L:Nat)(f:α→V3→Rat):bx L (fun p=>ls l (fun a=>f a p))=ls l (fun a=>bx L (fun p=>f a p)):=by
 induction l with
 | nil=>simp only [ls,aJ1]
 | cons a l ih=>simp only [ls];rw [aAu,ih]
def px (p:V3):V3:=(p.1+1,p.2.1,p.2.2)
def py (p:V3):V3:=(p.1,p.2.1+1,p.2.2)
def pz (p:V3):V3:=(p.1,p.2.1,p.2.2+1)
def mx (p:V3):V3:=(p.1 - 1,p.2.1,p.2.2)
def my (p:V3):V3:=(p.1,p.2.1 - 1,p.2.2)
def mz (p:V3):V3:=(p.1,p.2.1,p.2.2 - 1)
def cB (f:V3→Rat)(p:V3):Rat:=6*f p - (f (px p)+f (mx p)+(f (py p)+f (my p))+(f (pz p)+f (mz p)))
def ed (L:Nat)(F:V3→V3→Rat):Rat:=bx L (fun p=>F p (px p))+bx L (fun p=>F p (py p))+bx L (fun p=>F p (pz p))
theorem aOp {L:Nat} {F G:V3→V3→Rat} (h:∀p q,inb (L+1) p→inb (L+1) q→F p q≤G p q):ed L F≤ed L G:=by
 have k:∀p,inb L p→inb (L+1) p∧inb (L+1) (px p)∧inb (L+1) (py p)∧inb (L+1) (pz p):=by
   intro p hp;simp only [inb,px,py,pz] at *;omega
 have h1:=tX (L:=L) (f:=fun p=>F p (px p)) (g:=fun p=>G p (px p)) (fun p hp=>h _ _ (k p hp).1 (k p hp).2.1)
 have h2:=tX (L:=L) (f:=fun p=>F p (py p)) (g:=fun p=>G p (py p)) (fun p hp=>h _ _ (k p hp).1 (k p hp).2.2.1)
 have h3:=tX (L:=L) (f:=fun p=>F p (pz p)) (g:=fun p=>G p (pz p)) (fun p hp=>h _ _ (k p hp).1 (k p hp).2.2.2)
 unfold ed;grind
theorem aU5 {L:Nat} {F G:V3→V3→Rat} (h:∀p q,inb (L+1) p→inb (L+1) q→(q=px p∨q=py p∨q=pz p)→F p q≤G p q):ed L F≤ed L G:=by
 have k:∀p,inb L p→inb (L+1) p∧inb (L+1) (px p)∧inb (L+1) (py p)∧inb (L+1) (pz p):=by
   intro p hp;simp only [inb,px,py,pz] at *;omega
 have h1:=tX (L:=L) (f:=fun p=>F p (px p)) (g:=fun p=>G p (px p)) (fun p hp=>h _ _ (k p hp).1 (k p hp).2.1 (.inl rfl))
 have h2:=tX (L:=L) (f:=fun p=>F p (py p)) (g:=fun p=>G p (py p)) (fun p hp=>h _ _ (k p hp).1 (k p hp).2.2.1 (.inr (.inl rfl)))
 have h3:=tX (L:=L) (f:=fun p=>F p (pz p)) (g:=fun p=>G p (pz p)) (fun p hp=>h _ _ (k p hp).1 (k p hp).2.2.2 (.inr (.inr rfl)))
 unfold ed;grind
theorem aOq (L:Nat)(F G:V3→V3→Rat):ed L (fun p q=>F p q+G p q)=ed L F+ed L G:=by
 simp only [ed,aAu];grind
theorem aId (L:Nat)(c:Rat)(F:V3→V3→Rat):ed L (fun p q=>c*F p q)=c*ed L F:=by
 simp only [ed,lB];grind
theorem aOr {L:Nat} {F G:V3→V3→Rat} (h:∀p q,F p q=G p q):ed L F=ed L G:=by
 have:F=G:=funext fun p=>funext fun q=>h p q
 rw [this]
theorem aAv {L:Nat} {f g:Int→Rat} (h1:g (-L)=0)(h2:g (L+1)=0):ln L (fun x=>(f (x+1) - f x)*(g (x+1) - g x))=ln L (fun x=>g x*(2*f x - f (x+1) - f (x - 1))):=by
 have h:=aLh (L:=L) (f:=fun x=>g x*(f x - f (x - 1))) (by rw [h1];grind) (by rw [h2];grind)
 have e1:ln L (fun x=>(f (x+1) - f x)*(g (x+1) - g x))=ln L (fun x=>(fun x=>g x*(f x - f (x - 1))) (x+1)+(-1)*(g x*(f (x+1) - f x))):=by
   refine dZ (fun x _ _=>?_)
   simp only []
   rw [show x+1 - 1=x by omega];grind
 rw [e1,vT,aIb,h,←aIb,←vT]
 refine dZ (fun x _ _=>?_)
 grind
theorem aX3 (L:Nat)(f:V3→Rat):bx L f=ln L (fun y=>ln L (fun z=>ln L (fun x=>f (x,y,z)))):=by
 unfold bx
 rw [aEe]
 refine dZ (fun y _ _=>?_)
 rw [aEe]
theorem aX4 (L:Nat)(f:V3→Rat):bx L f=ln L (fun x=>ln L (fun z=>ln L (fun y=>f (x,y,z)))):=by
 unfold bx
 refine dZ (fun x _ _=>?_)
 rw [aEe]
theorem aAw {L:Nat} {f g:V3→Rat} (h:∀p,inb (L+1) p→¬inb ((L:Int) - 1) p→g p=0):ed L (fun p q=>(f q - f p)*(g q - g p))=bx L (fun p=>g p*cB f p):=by
 have k1:bx L (fun p=>(f (px p) - f p)*(g (px p) - g p))=bx L (fun p=>g p*(2*f p - f (px p) - f (mx p))):=by
   rw [aX3,aX3]
   refine dZ (fun y hy1 hy2=>dZ (fun z hz1 hz2=>?_))
   exact aAv (f:=fun x=>f (x,y,z)) (g:=fun x=>g (x,y,z)) (h _ (by simp only [inb];omega) (by simp only [inb];omega)) (h _ (by simp only [inb];omega) (by simp only [inb];omega))
 have k2:bx L (fun p=>(f (py p) - f p)*(g (py p) - g p))=bx L (fun p=>g p*(2*f p - f (py p) - f (my p))):=by
   rw [aX4,aX4]
   refine dZ (fun y hy1 hy2=>dZ (fun z hz1 hz2=>?_))
   exact aAv (f:=fun x=>f (y,x,z)) (g:=fun x=>g (y,x,z)) (h _ (by simp only [inb];omega) (by simp only [inb];omega)) (h _ (by simp only [inb];omega) (by simp only [inb];omega))
 have k3:bx L (fun p=>(f (pz p) - f p)*(g (pz p) - g p))=bx L (fun p=>g p*(2*f p - f (pz p) - f (mz p))):=by
   unfold bx
   refine dZ (fun y hy1 hy2=>dZ (fun z hz1 hz2=>?_))
   exact aAv (f:=fun x=>f (y,z,x)) (g:=fun x=>g (y,z,x)) (h _ (by simp only [inb];omega) (by simp only [inb];omega)) (h _ (by simp only [inb];omega) (by simp only [inb];omega))
 unfold ed
 rw [k1,k2,k3,←aAu,←aAu]
 refine oR (fun p _=>?_)
 unfold cB;grind
def fI (lam v a:Rat):Rat:=if a≤lam then 0 else if a≤v then a - lam else v - lam
def gP (lam a:Rat):Rat:=if a≤lam then 0 else a - lam
theorem rmul_le {a b c:Rat} (h:a≤b)(hc:0≤c):a*c≤b*c:=Rat.mul_le_mul_of_nonneg_right h hc
theorem rmul_le' {a b c:Rat} (h:a≤b)(hc:0≤c):c*a≤c*b:=Rat.mul_le_mul_of_nonneg_left h hc
theorem aOs {x y:Rat} (h:(0≤x∧x≤y)∨(x≤0∧y≤x)):x*x≤y*x:=by
 rcases h with⟨h1,h2⟩ | ⟨h1,h2⟩
 · exact rmul_le h2 h1
 · have:=rmul_le' (a:=-x) (b:=-y) (c:=-x) (by grind) (by grind)
   grind
theorem aU6 {lam v a b:Rat} (hv:lam≤v):(fI lam v b - fI lam v a)*(fI lam v b - fI lam v a)≤(b - a)*(fI lam v b - fI lam v a):=by
 refine aOs ?_
 unfold fI
 grind
theorem aU7 {lam a b:Rat}:(gP lam b - gP lam a)*(gP lam b - gP lam a)≤(b - a)*(gP lam b - gP lam a):=by
 refine aOs ?_
 unfold gP
 grind
theorem aOt {lam v a:Rat} (hv:lam≤v):0≤fI lam v a∧fI lam v a≤v - lam:=by
 unfold fI;grind
theorem aRx {lam v a:Rat} (hv:lam≤v)(h:v≤a):fI lam v a=v - lam:=by
 unfold fI;grind
theorem aU8 {lam a:Rat} (hl:0≤lam)(ha:0≤a):0≤gP lam a∧gP lam a≤a:=by
 unfold gP;grind
theorem sq_nonneg (x:Rat):0≤x*x:=by
 rcases Rat.le_total (a:=0) (b:=x) with h | h
 · exact Rat.mul_nonneg h h
 · have:=Rat.mul_nonneg (a:=-x) (b:=-x) (by grind) (by grind)
   grind
theorem aZ0 {L:Nat} {W U:V3→Rat} {lam lam' v A Y Z:Rat}
   (h1:∀p,inb (L+1) p→¬inb ((L:Int) - 1) p→U p≤lam∧W p≤lam')
   (h2:∀p q,inb (L+1) p→inb (L+1) q→(q=px p∨q=py p∨q=pz p)→(lam < U p∨lam < U q)→lam'≤W p∧lam'≤W q)
   (hv:lam≤v) (hA:bx L (fun p=>gP lam' (W p)*cB W p)≤A) (hY:bx L (fun p=>fI lam v (U p)*cB U p)≤Y)
   (hZ:Z≤bx L (fun p=>fI lam v (U p)*cB W p)) (hZ0:0≤Z) (hY0:0 < Y):Z*Z≤A*Y:=by
 have su:∀p,inb (L+1) p→¬inb ((L:Int) - 1) p→fI lam v (U p)=0:=fun p a b=>by
   have:=(h1 p a b).1;unfold fI;rw [if_pos this]
 have sw:∀p,inb (L+1) p→¬inb ((L:Int) - 1) p→gP lam' (W p)=0:=fun p a b=>by
   have:=(h1 p a b).2;unfold gP;rw [if_pos this]
 rw [←aAw (f:=W) (g:=fun p=>gP lam' (W p)) sw] at hA
 rw [←aAw (f:=U) (g:=fun p=>fI lam v (U p)) su] at hY
 rw [←aAw (f:=W) (g:=fun p=>fI lam v (U p)) su] at hZ
 have a1:ed L (fun p q=>(gP lam' (W q) - gP lam' (W p))*(gP lam' (W q) - gP lam' (W p)))≤A :=
   Rat.le_trans (aOp (fun p q _ _=>aU7)) hA
 have a2:ed L (fun p q=>(fI lam v (U q) - fI lam v (U p))*(fI lam v (U q) - fI lam v (U p)))≤Y :=
   Rat.le_trans (aOp (fun p q _ _=>aU6 hv)) hY
 have a3:Z≤ed L (fun p q=>(gP lam' (W q) - gP lam' (W p))*(fI lam v (U q) - fI lam v (U p))):=by
   refine Rat.le_trans hZ (aU5 (fun p q hp hq hpq=>?_))
   by_cases c:lam < U p∨lam < U q
   · have:=h2 p q hp hq hpq c
     have e1:gP lam' (W p)=W p - lam':=by unfold gP;grind
     have e2:gP lam' (W q)=W q - lam':=by unfold gP;grind
     rw [e1,e2];grind
   · have e1:fI lam v (U p)=0:=by unfold fI;grind
     have e2:fI lam v (U q)=0:=by unfold fI;grind
     rw [e1,e2];grind
 have n0:0≤ed L (fun p q=>(Y*(gP lam' (W q) - gP lam' (W p)) - Z*(fI lam v (U q) - fI lam v (U p)))*(Y*(gP lam' (W q) - gP lam' (W p)) - Z*(fI lam v (U q) - fI lam v (U p)))):=by
   have:=aOp (L:=L) (F:=fun _ _=>0) (G:=fun p q=>(Y*(gP lam' (W q) - gP lam' (W p)) - Z*(fI lam v (U q) - fI lam v (U p)))*(Y*(gP lam' (W q) - gP lam' (W p)) - Z*(fI lam v (U q) - fI lam v (U p)))) (fun p q _ _=>sq_nonneg _)
   have e:ed L (fun _ _=>0)=0:=by simp only [ed,aJ1];grind
   rwa [e] at this
 have ex:ed L (fun p q=>(Y*(gP lam' (W q) - gP lam' (W p)) - Z*(fI lam v (U q) - fI lam v (U p)))*(Y*(gP lam' (W q) - gP lam' (W p)) - Z*(fI lam v (U q) - fI lam v (U p))))
     = (Y*Y)*ed L (fun p q=>(gP lam' (W q) - gP lam' (W p))*(gP lam' (W q) - gP lam' (W p)))+((-2*Y*Z)*ed L (fun p q=>(gP lam' (W q) - gP lam' (W p))*(fI lam v (U q) - fI lam v (U p)))+(Z*Z)*ed L (fun p q=>(fI lam v (U q) - fI lam v (U p))*(fI lam v (U q) - fI lam v (U p)))):=by
   rw [←aId,←aId,←aId,←aOq,←aOq]
   exact aOr (fun p q=>by grind)
 rw [ex] at n0
 generalize ed L (fun p q=>(gP lam' (W q) - gP lam' (W p))*(gP lam' (W q) - gP lam' (W p)))=P at *
 generalize ed L (fun p q=>(gP lam' (W q) - gP lam' (W p))*(fI lam v (U q) - fI lam v (U p)))=R at *
 generalize ed L (fun p q=>(fI lam v (U q) - fI lam v (U p))*(fI lam v (U q) - fI lam v (U p)))=S at *
 have b1:(Y*Y)*P≤(Y*Y)*A:=rmul_le' a1 (sq_nonneg Y)
 have b2:(Y*Z)*Z≤(Y*Z)*R:=rmul_le' a3 (Rat.mul_nonneg (Rat.le_of_lt hY0) hZ0)
 have b3:(Z*Z)*S≤(Z*Z)*Y:=rmul_le' a2 (sq_nonneg Z)
 have b4:0≤Y*(A*Y - Z*Z):=by grind
 by_cases c:Z*Z≤A*Y
 · exact c
 · have:0 < Y*(Z*Z - A*Y):=Rat.mul_pos hY0 (by grind)
   grind
abbrev WP:=Rat×V3
def cX (X:List WP):Rat:=ls X (fun a=>a.1)
def eH (K:V3→Rat)(X:List WP)(z:V3):Rat:=ls X (fun a=>a.1*K (vs z a.2))
def nsq (p:V3):Int:=p.1*p.1+p.2.1*p.2.1+p.2.2*p.2.2
theorem aEh (K:V3→Rat)(X:List WP)(z:V3):cB (eH K X) z=ls X (fun a=>a.1*cB K (vs z a.2)):=by
 have e:∀a:V3,vs (px z) a=px (vs z a)∧vs (mx z) a=mx (vs z a)∧vs (py z) a=py (vs z a)∧vs (my z) a=my (vs z a)∧vs (pz z) a=pz (vs z a)∧vs (mz z) a=mz (vs z a):=by
   intro a
   simp only [vs,px,py,pz,mx,my,mz,Prod.mk.injEq,true_and,and_true]
   omega
 induction X with
 | nil=>simp only [cB,eH,ls];grind
 | cons a X ih =>
   obtain⟨e1,e2,e3,e4,e5,e6⟩:=e a.2
   have:cB (eH K (a::X)) z=a.1*cB K (vs z a.2)+cB (eH K X) z:=by
     simp only [cB,eH,ls,e1,e2,e3,e4,e5,e6];grind
   rw [this,ih,ls]
theorem sB {K:V3→Rat} {X:List WP} (hK:∀p,0≤K p)(hX:∀a,a∈X→0≤a.1)(z:V3):0≤eH K X z :=
 hO (fun a ha=>Rat.mul_nonneg (hX a ha) (hK _))
theorem aEi {K:V3→Rat} {X:List WP} {c:Rat} (hX:∀a,a∈X→0≤a.1) {z:V3} (h:∀a,a∈X→K (vs z a.2)≤c):eH K X z≤cX X*c:=by
 have:=qU (l:=X) (f:=fun a=>a.1*K (vs z a.2)) (g:=fun a=>c*a.1) (fun a ha=>by have:=rmul_le' (h a ha) (hX a ha);grind)
 rw [ls_mul] at this
 unfold eH cX;grind
theorem aU9 {K:V3→Rat} {X:List WP} {c:Rat} (hX:∀a,a∈X→0≤a.1) {z:V3} (h:∀a,a∈X→c≤K (vs z a.2)):cX X*c≤eH K X z:=by
 have:=qU (l:=X) (g:=fun a=>a.1*K (vs z a.2)) (f:=fun a=>c*a.1) (fun a ha=>by have:=rmul_le' (h a ha) (hX a ha);grind)
 rw [ls_mul] at this
 unfold eH cX;grind
theorem aGc {X:List WP} (hX:∀a,a∈X→0≤a.1):0≤cX X:=hO hX
theorem iZ {a b:Int} (h:0≤a)(h2:a≤b):a*a≤b*b:=Int.mul_le_mul h2 h2 h (by omega)
theorem sq_int_nonneg (a:Int):0≤a*a:=by
 rcases Int.le_total 0 a with h | h
 · exact Int.mul_nonneg h h
 · have:=Int.mul_nonneg (a:=-a) (b:=-a) (by omega) (by omega)
   grind
theorem aAx {a b:Int} (h0:0≤b)(h:b≤a∨a≤-b):b*b≤a*a:=by
 rcases h with h | h
 · exact iZ h0 h
 · have:=iZ (a:=b) (b:=-a) h0 (by omega)
   grind
theorem aIe {a b:Int} (h:-b≤a)(h2:a≤b):a*a≤b*b:=by
 rcases Int.le_total 0 a with h0 | h0
 · exact iZ h0 h2
 · have:=iZ (a:=-a) (b:=b) (by omega) (by omega)
   grind
theorem aJ3 {D:Int} {p:V3} (hD:0≤D)(h:¬inb (D - 1) p):D*D≤nsq p:=by
 have h1:=sq_int_nonneg p.1
 have h2:=sq_int_nonneg p.2.1
 have h3:=sq_int_nonneg p.2.2
 have:(D≤p.1∨p.1≤-D)∨(D≤p.2.1∨p.2.1≤-D)∨(D≤p.2.2∨p.2.2≤-D):=by
   unfold inb at h;omega
 unfold nsq
 rcases this with h | h | h
 · have:=aAx hD h;omega
 · have:=aAx hD h;omega
 · have:=aAx hD h;omega
theorem aEj {D:Int} {p:V3} (h:inb D p):nsq p≤3*(D*D):=by
 obtain⟨a,b,c,d,e,f⟩:=h
 have h1:=aIe a b
 have h2:=aIe c d
 have h3:=aIe e f
 unfold nsq;omega
theorem nsq_nonneg (p:V3):0≤nsq p:=by
 have h1:=sq_int_nonneg p.1
 have h2:=sq_int_nonneg p.2.1
 have h3:=sq_int_nonneg p.2.2
 unfold nsq;omega
theorem cO {x y:Rat} (hy:0≤y)(h:x*x≤y*y):x≤y:=by
 by_cases c:x≤y
 · exact c
 · have h1:y*y≤y*x:=rmul_le' (by grind) hy
   have h2:0 < (x - y)*x:=Rat.mul_pos (by grind) (by grind)
   grind
theorem inv_nn {a:Rat} (h:0≤a):0≤1 / a:=by
 rcases Rat.le_iff_lt_or_eq.mp h with h1 | h1
 · have:=Rat.inv_pos.mpr h1
   rw [Rat.div_def];grind
 · rw [←h1,Rat.div_def,Rat.inv_zero];grind
theorem rcast_pos {a:Int} (h:0 < a):(0:Rat) < (a:Rat):=by
 have:=Rat.intCast_lt_intCast.mpr h
 exact this
theorem rcast_le {a b:Int} (h:a≤b):(a:Rat)≤(b:Rat):=Rat.intCast_le_intCast.mpr h
theorem rcast_mul (a b:Int):((a*b:Int):Rat)=(a:Rat)*(b:Rat):=Rat.intCast_mul a b
theorem rcast_add (a b:Int):((a+b:Int):Rat)=(a:Rat)+(b:Rat):=Rat.intCast_add a b
structure Kn (K:V3→Rat) (N:Int):Prop where
 pos:∀p,0≤K p
 quart:∀p,K p≤1 / 4
 up:∀p,K p*K p*((nsq p+16:Int):Rat)≤1
 lo:∀p,inb N p→1≤4*(K p*K p*((nsq p+16:Int):Rat))
 rho:∀p,inb N p→0≤cB K p
theorem aIf {K:V3→Rat} {N:Int} (hk:Kn K N) {D:Int} (hD:0 < D) {p:V3} (h:¬inb (D - 1) p):K p≤1 / (D:Rat):=by
 have h1:=aJ3 (by omega) h
 have hd:(0:Rat) < (D:Rat):=rcast_pos hD
 have h2:((D*D:Int):Rat)≤((nsq p+16:Int):Rat):=rcast_le (by omega)
 have h3:=rmul_le' h2 (sq_nonneg (K p))
 have h4:=hk.up p
 rw [rcast_mul] at h3
 have h5:K p*(D:Rat)≤1:=cO (by decide) (by grind)
 have h6:=rmul_le h5 (c:=1 / (D:Rat)) (inv_nn (Rat.le_of_lt hd))
 have e:K p*(D:Rat)*(1 / (D:Rat))=K p:=by grind
 rw [e] at h6;grind
theorem aRy {K:V3→Rat} {N:Int} (hk:Kn K N) {D:Int} (hD:4≤D)(hN:D≤N) {p:V3} (h:inb D p):1 / (4*(D:Rat))≤K p:=by
 have h1:=aEj h
 have hd:(0:Rat) < (D:Rat):=rcast_pos (by omega)
 have hD2:16≤D*D:=by have:=iZ (a:=4) (b:=D) (by omega) hD;omega
 have h2:((nsq p+16:Int):Rat)≤((4*(D*D):Int):Rat):=rcast_le (by omega)
 have h3:=rmul_le' h2 (sq_nonneg (K p))
 have h4:=hk.lo p (by unfold inb at *;omega)
 rw [rcast_mul,rcast_mul] at h3
 have h5:1≤K p*(4*(D:Rat)):=cO (Rat.mul_nonneg (hk.pos p) (by grind)) (by grind)
 have h6:=rmul_le h5 (c:=1 / (4*(D:Rat))) (inv_nn (by grind))
 have e:K p*(4*(D:Rat))*(1 / (4*(D:Rat)))=K p:=by grind
 rw [e] at h6;grind
theorem aX5 (a p:V3):vs (va a p) a=p:=by
 obtain⟨a1,a2,a3⟩:=a
 obtain⟨p1,p2,p3⟩:=p
 simp only [vs,va,Prod.mk.injEq];omega
theorem aX6 (a p:V3):va a (vs p a)=p:=by
 obtain⟨a1,a2,a3⟩:=a
 obtain⟨p1,p2,p3⟩:=p
 simp only [vs,va,Prod.mk.injEq];omega
def vn (a:V3):V3:=(-a.1,-a.2.1,-a.2.2)
theorem aS9 (z a:V3):vs z a=va (vn a) z:=by
 obtain⟨a1,a2,a3⟩:=a
 obtain⟨p1,p2,p3⟩:=z
 simp only [vs,va,vn,Prod.mk.injEq];omega
theorem aZ1 {K:V3→Rat} {X Y:List WP} {R s L1 L n:Nat} {v En:Rat}
   (hL:L=4*(L1+1+R)+R) (hn:n=L+1+R) (hR:4≤R) (h1:R≤L1) (hs:s+R≤L)
   (hk:Kn K n) (hX:∀a,a∈X→0≤a.1∧inb R a.2) (hY:∀b,b∈Y→0≤b.1∧inb R b.2)
   (hU:∀a,a∈X→∀z,inb s z→v≤eH K Y (va a.2 z)) (hE:∀z,inb s z→ls X (fun a=>a.1*eH K X (va a.2 z))≤En)
   (hv:cX Y / ((L1+1 - R:Int):Rat) < v) (hm:0 < bx n (cB K)) (hq:0 < cX Y) :
   (cX X*bx s (cB K))*(cX X*bx s (cB K))*(v - cX Y / ((L1+1 - R:Int):Rat))≤(bx n (cB K)*En+cX X*cX X*(1 / 4)*(bx n (cB K) - bx s (cB K)))*(cX Y*bx n (cB K)):=by
 generalize hlam:cX Y / ((L1+1 - R:Int):Rat)=lam at *
 have hX0:∀a,a∈X→0≤a.1:=fun a ha=>(hX a ha).1
 have hY0:∀a,a∈Y→0≤a.1:=fun a ha=>(hY a ha).1
 have hQ:0≤cX X:=aGc hX0
 have hvl:lam≤v:=Rat.le_of_lt hv
 have hd1:(0:Rat) < ((L1+1 - R:Int):Rat):=rcast_pos (by omega)
 -- far away
 have farY:∀p,¬inb (L1:Int) p→eH K Y p≤lam:=by
   intro p hp
   rw [←hlam]
   have:=aEi (K:=K) (z:=p) (c:=1 / ((L1+1 - R:Int):Rat)) hY0 (fun b hb=>aIf hk (by omega) (by have:=(hY b hb).2;simp only [inb,vs] at *;omega))
   have e:cX Y*(1 / ((L1+1 - R:Int):Rat))=cX Y / ((L1+1 - R:Int):Rat):=by grind
   rwa [e] at this
 have farX:∀p,¬inb ((L:Int) - 1) p→eH K X p≤cX X*(1 / (4*((L1+1+R:Int):Rat))):=by
   intro p hp
   have e:(4*((L1+1+R:Int):Rat))=((4*(L1+1+R):Int):Rat):=by rw [rcast_mul];rfl
   rw [e]
   exact aEi (K:=K) (z:=p) hX0 (fun b hb=>aIf hk (by omega) (by have:=(hX b hb).2;simp only [inb,vs] at *;omega))
 have nearX:∀p,inb ((L1:Int)+1) p→cX X*(1 / (4*((L1+1+R:Int):Rat)))≤eH K X p:=by
   intro p hp
   exact aU9 (K:=K) (z:=p) hX0 (fun b hb=>aRy hk (by omega) (by omega) (by have:=(hX b hb).2;simp only [inb,vs] at *;omega))
 have c1:∀p,inb ((L:Int)+1) p→¬inb ((L:Int) - 1) p→eH K Y p≤lam∧eH K X p≤cX X*(1 / (4*((L1+1+R:Int):Rat))):=by
   intro p _ hp
   exact⟨farY p (by unfold inb at *;omega),farX p hp⟩
 have c2:∀p q,inb ((L:Int)+1) p→inb ((L:Int)+1) q→(q=px p∨q=py p∨q=pz p)→(lam < eH K Y p∨lam < eH K Y q)→cX X*(1 / (4*((L1+1+R:Int):Rat)))≤eH K X p∧cX X*(1 / (4*((L1+1+R:Int):Rat)))≤eH K X q:=by
   intro p q _ _ hpq hc
   have hh:inb (L1:Int) p∨inb (L1:Int) q:=by
     rcases hc with hc | hc
     · by_cases d:inb (L1:Int) p
       · exact .inl d
       · have:=farY p d;exact absurd hc (Rat.not_lt.mpr this)
     · by_cases d:inb (L1:Int) q
       · exact .inr d
       · have:=farY q d;exact absurd hc (Rat.not_lt.mpr this)
   have hpq':inb ((L1:Int)+1) p∧inb ((L1:Int)+1) q:=by
     rcases hpq with rfl | rfl | rfl<;>simp only [inb,px,py,pz] at *<;>omega
   exact⟨nearX p hpq'.1,nearX q hpq'.2⟩
 -- the three kF
 have rn:∀p,inb (n:Int) p→0≤cB K p:=hk.rho
 have hA:bx L (fun p=>gP (cX X*(1 / (4*((L1+1+R:Int):Rat)))) (eH K X p)*cB (eH K X) p)≤bx n (cB K)*En+cX X*cX X*(1 / 4)*(bx n (cB K) - bx s (cB K)):=by
   have lam0:0≤cX X*(1 / (4*((L1+1+R:Int):Rat))):=by
     have h4:(0:Rat) < ((L1+1+R:Int):Rat):=rcast_pos (by omega)
     refine Rat.mul_nonneg hQ ?_
     exact inv_nn (by grind)
   generalize cX X*(1 / (4*((L1+1+R:Int):Rat)))=lam' at *
   have e1:bx L (fun p=>gP lam' (eH K X p)*cB (eH K X) p)=ls X (fun a=>a.1*bx L (fun p=>gP lam' (eH K X p)*cB K (vs p a.2))):=by
     rw [show(fun p=>gP lam' (eH K X p)*cB (eH K X) p)=(fun p=>ls X (fun a=>a.1*(gP lam' (eH K X p)*cB K (vs p a.2)))) from funext fun p=>by
       rw [aEh,←ls_mul];exact ls_congr (fun a _=>by grind)]
     rw [aJ2]
     exact ls_congr (fun a _=>lB _ _ _)
   rw [e1]
   have b1:ls X (fun a=>a.1*bx L (fun p=>gP lam' (eH K X p)*cB K (vs p a.2)))≤ls X (fun a=>a.1*bx s (fun z=>eH K X (va a.2 z)*cB K z)+cX X*(1 / 4)*(bx n (cB K) - bx s (cB K))*a.1):=by
     refine qU (fun a ha=>?_)
     have t1:bx L (fun p=>gP lam' (eH K X p)*cB K (vs p a.2))≤bx n (fun z=>eH K X (va a.2 z)*cB K z):=by
       have t2:bx L (fun p=>gP lam' (eH K X p)*cB K (vs p a.2))≤bx L (fun p=>(fun z=>eH K X (va a.2 z)*cB K z) (va (vn a.2) p)):=by
         refine tX (fun p hp=>?_)
         simp only []
         rw [←aS9,aX6]
         refine rmul_le (aU8 lam0 (sB hk.pos hX0 p)).2 (rn _ ?_)
         have:=(hX a ha).2;simp only [inb,vs] at *;omega
       refine Rat.le_trans t2 (rZ (f:=fun z=>eH K X (va a.2 z)*cB K z) (fun p hp=>Rat.mul_nonneg (sB hk.pos hX0 _) (rn p hp)) (fun p hp=>?_))
       have:=(hX a ha).2;simp only [inb,va,vn] at *;omega
     have t3:bx s (fun z=>(cX X*(1 / 4) - eH K X (va a.2 z))*cB K z)≤bx n (fun z=>(cX X*(1 / 4) - eH K X (va a.2 z))*cB K z):=by
       have:=rZ (L:=n) (M:=s) (a:=(0,0,0)) (f:=fun z=>(cX X*(1 / 4) - eH K X (va a.2 z))*cB K z) (fun p hp=>Rat.mul_nonneg (by
         have:=aEi (K:=K) (z:=va a.2 p) (c:=1 / 4) hX0 (fun b _=>hk.quart _);grind) (rn p hp)) (fun p hp=>by simp only [inb,va] at *;omega)
       have e:∀z:V3,va (0,0,0) z=z:=fun z=>by obtain⟨a,b,c⟩:=z;simp only [va,Prod.mk.injEq];omega
       simp only [e] at this
       exact this
     have e3:∀k:Nat,bx k (fun z=>(cX X*(1 / 4) - eH K X (va a.2 z))*cB K z)=cX X*(1 / 4)*bx k (cB K) - bx k (fun z=>eH K X (va a.2 z)*cB K z):=by
       intro k
       rw [←lB,←aRv]
       exact oR (fun p _=>by grind)
     rw [e3,e3] at t3
     have t4:=rmul_le' (Rat.le_trans t1 (show bx n (fun z=>eH K X (va a.2 z)*cB K z)≤bx s (fun z=>eH K X (va a.2 z)*cB K z)+cX X*(1 / 4)*(bx n (cB K) - bx s (cB K)) by grind)) (hX0 a ha)
     grind
   refine Rat.le_trans b1 ?_
   rw [aEg,ls_mul]
   have e4:ls X (fun a=>a.1*bx s (fun z=>eH K X (va a.2 z)*cB K z))=bx s (fun z=>cB K z*ls X (fun a=>a.1*eH K X (va a.2 z))):=by
     have:=aJ2 X s (fun a z=>a.1*(eH K X (va a.2 z)*cB K z))
     rw [show(fun a:WP=>a.1*bx s (fun z=>eH K X (va a.2 z)*cB K z))=(fun a=>bx s (fun z=>a.1*(eH K X (va a.2 z)*cB K z))) from funext fun a=>(lB _ _ _).symm,←this]
     refine oR (fun z _=>?_)
     rw [←ls_mul];exact ls_congr (fun a _=>by grind)
   rw [e4]
   have hsn:∀p:V3,inb (s:Int) p→inb (n:Int) p:=fun p hp=>by unfold inb at *;omega
   have b2:bx s (fun z=>cB K z*ls X (fun a=>a.1*eH K X (va a.2 z)))≤En*bx s (cB K):=by
     rw [←lB]
     refine tX (fun z hz=>?_)
     have:=rmul_le' (hE z hz) (rn z (hsn z hz))
     grind
   have b3:bx s (cB K)≤bx n (cB K):=by
     have:=rZ (L:=n) (M:=s) (a:=(0,0,0)) (f:=cB K) rn (fun p hp=>by simp only [inb,va] at *;omega)
     have e:∀z:V3,va (0,0,0) z=z:=fun z=>by obtain⟨a,b,c⟩:=z;simp only [va,Prod.mk.injEq];omega
     simp only [e] at this
     exact this
   have hEn:0≤En:=Rat.le_trans (hO (fun a ha=>Rat.mul_nonneg (hX0 a ha) (sB hk.pos hX0 _))) (hE (0,0,0) ⟨by simp only;omega,by simp only;omega,by simp only;omega,by simp only;omega,by simp only;omega,by simp only;omega⟩)
   have b4:=rmul_le' b3 hEn
   have:ls X (fun a=>a.1)=cX X:=rfl
   rw [this]
   grind
 have hYy:bx L (fun p=>fI lam v (eH K Y p)*cB (eH K Y) p)≤cX Y*bx n (cB K)*(v - lam):=by
   have e1:bx L (fun p=>fI lam v (eH K Y p)*cB (eH K Y) p)=ls Y (fun a=>a.1*bx L (fun p=>fI lam v (eH K Y p)*cB K (vs p a.2))):=by
     rw [show(fun p=>fI lam v (eH K Y p)*cB (eH K Y) p)=(fun p=>ls Y (fun a=>a.1*(fI lam v (eH K Y p)*cB K (vs p a.2)))) from funext fun p=>by
       rw [aEh,←ls_mul];exact ls_congr (fun a _=>by grind)]
     rw [aJ2]
     exact ls_congr (fun a _=>lB _ _ _)
   rw [e1]
   have b1:ls Y (fun a=>a.1*bx L (fun p=>fI lam v (eH K Y p)*cB K (vs p a.2)))≤ls Y (fun a=>(bx n (cB K)*(v - lam))*a.1):=by
     refine qU (fun a ha=>?_)
     have t1:bx L (fun p=>fI lam v (eH K Y p)*cB K (vs p a.2))≤(v - lam)*bx L (fun p=>cB K (va (vn a.2) p)):=by
       rw [←lB]
       refine tX (fun p hp=>?_)
       rw [←aS9]
       refine rmul_le (aOt hvl).2 (rn _ ?_)
       have:=(hY a ha).2;simp only [inb,vs] at *;omega
     have t2:bx L (fun p=>cB K (va (vn a.2) p))≤bx n (cB K):=rZ rn (fun p hp=>by have:=(hY a ha).2;simp only [inb,va,vn] at *;omega)
     have t3:=rmul_le' t2 (show 0≤v - lam by grind)
     have t4:=rmul_le' (Rat.le_trans t1 t3) (hY0 a ha)
     grind
   refine Rat.le_trans b1 ?_
   rw [ls_mul]
   have:ls Y (fun a=>a.1)=cX Y:=rfl
   rw [this];grind
 have hZ:cX X*bx s (cB K)*(v - lam)≤bx L (fun p=>fI lam v (eH K Y p)*cB (eH K X) p):=by
   have e1:bx L (fun p=>fI lam v (eH K Y p)*cB (eH K X) p)=ls X (fun a=>a.1*bx L (fun p=>fI lam v (eH K Y p)*cB K (vs p a.2))):=by
     rw [show(fun p=>fI lam v (eH K Y p)*cB (eH K X) p)=(fun p=>ls X (fun a=>a.1*(fI lam v (eH K Y p)*cB K (vs p a.2)))) from funext fun p=>by
       rw [aEh,←ls_mul];exact ls_congr (fun a _=>by grind)]
     rw [aJ2]
     exact ls_congr (fun a _=>lB _ _ _)
   rw [e1]
   have b1:ls X (fun a=>(bx s (cB K)*(v - lam))*a.1)≤ls X (fun a=>a.1*bx L (fun p=>fI lam v (eH K Y p)*cB K (vs p a.2))):=by
     refine qU (fun a ha=>?_)
     have t1:bx s (fun z=>fI lam v (eH K Y (va a.2 z))*cB K z)≤bx L (fun p=>fI lam v (eH K Y p)*cB K (vs p a.2)):=by
       have:=rZ (L:=L) (M:=s) (a:=a.2) (f:=fun p=>fI lam v (eH K Y p)*cB K (vs p a.2)) (fun p hp=>Rat.mul_nonneg (aOt hvl).1 (rn _ (by have:=(hX a ha).2;simp only [inb,vs] at *;omega))) (fun p hp=>by have:=(hX a ha).2;simp only [inb,va] at *;omega)
       simp only [aX5] at this
       exact this
     have t2:bx s (fun z=>fI lam v (eH K Y (va a.2 z))*cB K z)=(v - lam)*bx s (cB K):=by
       rw [←lB]
       exact oR (fun z hz=>by rw [aRx hvl (hU a ha z hz)])
     rw [t2] at t1
     have t4:=rmul_le' t1 (hX0 a ha)
     grind
   rw [ls_mul] at b1
   have:ls X (fun a=>a.1)=cX X:=rfl
   rw [this] at b1
   refine Rat.le_trans (jQ ?_) b1
   grind
 have hms:0≤bx s (cB K):=aLi (fun p hp=>rn p (by unfold inb at *;omega))
 have hvp:0 < v - lam:=by grind
 have hY1:0 < cX Y*bx n (cB K)*(v - lam):=Rat.mul_pos (Rat.mul_pos hq hm) hvp
 have fin:=aZ0 c1 c2 hvl hA hYy hZ (Rat.mul_nonneg (Rat.mul_nonneg hQ hms) (Rat.le_of_lt hvp)) hY1
 generalize bx n (cB K)*En+cX X*cX X*(1 / 4)*(bx n (cB K) - bx s (cB K))=A at *
 generalize cX X*bx s (cB K)=P at *
 generalize cX Y*bx n (cB K)=T at *
 by_cases c:P*P*(v - lam)≤A*T
 · exact c
 · have:=Rat.mul_pos (a:=v - lam) (b:=P*P*(v - lam) - A*T) hvp (by grind)
   grind
def Pu (u:Rat):Rat:=1 - u / 2+3 / 8*(u*u) - 5 / 16*(u*u*u)+2 / 5*(u*u*(u*u))
def Pl (u:Rat):Rat:=1 - u / 2+3 / 8*(u*u) - 5 / 16*(u*u*u)
theorem ub (u:Rat)(h1:-(3 / 10)≤u)(h2:u≤3 / 10):u*u≤9 / 100∧-(27 / 1000)≤u*u*u∧u*u*u≤27 / 1000∧u*u*(u*u)≤81 / 10000∧-(243 / 100000)≤u*u*(u*u)*u:=by
 have a1:0≤(3 / 10 - u)*(u+3 / 10):=Rat.mul_nonneg (by grind) (by grind)
 have s:=sq_nonneg u
 have a2:u*u≤9 / 100:=by grind
 have a3:0≤(9 / 100 - u*u)*(u+3 / 10):=Rat.mul_nonneg (by grind) (by grind)
 have a4:0≤(9 / 100 - u*u)*(3 / 10 - u):=Rat.mul_nonneg (by grind) (by grind)
 have a5:0≤(u*u)*(3 / 10 - u):=Rat.mul_nonneg s (by grind)
 have a6:0≤(u*u)*(u+3 / 10):=Rat.mul_nonneg s (by grind)
 have a7:u*u*(u*u)≤81 / 10000:=by
   have:=rmul_le a2 s
   grind
 have a8:0≤(u*u*(u*u))*(u+3 / 10):=Rat.mul_nonneg (Rat.mul_nonneg s s) (by grind)
 refine⟨a2,by grind,by grind,a7,by grind⟩
theorem aX7 (u:Rat)(h1:-(3 / 10)≤u)(h2:u≤3 / 10):0≤Pu u:=by
 obtain⟨a,b,c,d,e⟩:=ub u h1 h2
 have s:=sq_nonneg u
 have s2:=Rat.mul_nonneg s s
 unfold Pu;grind
theorem aX8 (u:Rat)(h1:-(3 / 10)≤u)(h2:u≤3 / 10):1≤Pu u*Pu u*(1+u):=by
 obtain⟨a,b,c,d,e⟩:=ub u h1 h2
 have s:=sq_nonneg u
 have s2:=Rat.mul_nonneg s s
 have q:0≤81 / 320+99 / 160*u - 303 / 1280*(u*u)+189 / 1280*(u*u*u) - 9 / 100*(u*u*(u*u))+4 / 25*(u*u*(u*u)*u):=by grind
 have qk2:=Rat.mul_nonneg s2 q
 have id:Pu u*Pu u*(1+u)=1+(u*u*(u*u))*(81 / 320+99 / 160*u - 303 / 1280*(u*u)+189 / 1280*(u*u*u) - 9 / 100*(u*u*(u*u))+4 / 25*(u*u*(u*u)*u)):=by
   unfold Pu;grind
 rw [id];grind
theorem aX9 (u:Rat)(h1:-(3 / 10)≤u)(h2:u≤3 / 10):Pl u*Pl u*(1+u)≤1:=by
 obtain⟨a,b,c,d,e⟩:=ub u h1 h2
 have s:=sq_nonneg u
 have s2:=Rat.mul_nonneg s s
 have q:0≤35 / 64 - 7 / 32*u+35 / 256*(u*u) - 25 / 256*(u*u*u):=by grind
 have qk2:=Rat.mul_nonneg s2 q
 have id:Pl u*Pl u*(1+u)=1 - (u*u*(u*u))*(35 / 64 - 7 / 32*u+35 / 256*(u*u) - 25 / 256*(u*u*u)):=by
   unfold Pl;grind
 rw [id];grind
theorem aYa {x y z i:Rat} (h:(x*x+y*y+z*z+16)*i=1)(hi:0≤i)(h16:16*i≤1) :
   Pu ((1+2*x)*i)+Pu ((1 - 2*x)*i)+(Pu ((1+2*y)*i)+Pu ((1 - 2*y)*i))+(Pu ((1+2*z)*i)+Pu ((1 - 2*z)*i))≤6 - 30*(i*i):=by
 have e1:∀w:Rat,Pu ((1+2*w)*i)+Pu ((1 - 2*w)*i)=2 - i+3 / 8*((2+8*(w*w))*(i*i)) - 5 / 16*((2+24*(w*w))*(i*i*i))+2 / 5*((2+48*(w*w)+32*(w*w*(w*w)))*(i*i*(i*i))):=by
   intro w;unfold Pu;grind
 rw [e1,e1,e1]
 have hS:(x*x+y*y+z*z)*i=1 - 16*i:=by grind
 have s2:(x*x+y*y+z*z)*(i*i)=i - 16*(i*i):=by
   have:(x*x+y*y+z*z)*(i*i)=((x*x+y*y+z*z)*i)*i:=by grind
   rw [this,hS];grind
 have s3:(x*x+y*y+z*z)*(i*i*i)=i*i - 16*(i*i*i):=by
   have:(x*x+y*y+z*z)*(i*i*i)=((x*x+y*y+z*z)*i)*(i*i):=by grind
   rw [this,hS];grind
 have s4:(x*x+y*y+z*z)*(i*i*(i*i))=i*i*i - 16*(i*i*(i*i)):=by
   have:(x*x+y*y+z*z)*(i*i*(i*i))=((x*x+y*y+z*z)*i)*(i*i*i):=by grind
   rw [this,hS];grind
 have qk4:(x*x*(x*x)+y*y*(y*y)+z*z*(z*z))*(i*i*(i*i))≤(1 - 16*i)*(1 - 16*i)*(i*i):=by
   have a1:=Rat.mul_nonneg (sq_nonneg x) (sq_nonneg y)
   have a2:=Rat.mul_nonneg (sq_nonneg x) (sq_nonneg z)
   have a3:=Rat.mul_nonneg (sq_nonneg y) (sq_nonneg z)
   have a4:x*x*(x*x)+y*y*(y*y)+z*z*(z*z)≤(x*x+y*y+z*z)*(x*x+y*y+z*z):=by grind
   have a5:=rmul_le a4 (Rat.mul_nonneg (sq_nonneg i) (sq_nonneg i))
   refine Rat.le_trans a5 (jQ ?_)
   have:(x*x+y*y+z*z)*(x*x+y*y+z*z)*(i*i*(i*i))=((x*x+y*y+z*z)*i)*((x*x+y*y+z*z)*i)*(i*i):=by grind
   rw [this,hS]
 have i2:=sq_nonneg i
 have i3:0≤i*i*i:=Rat.mul_nonneg i2 hi
 have i4:i*i*(i*i)≤1 / 16*(i*i*i):=by
   have:=rmul_le' (show i≤1 / 16 by grind) i3
   grind
 generalize hX:x*x=X at *
 generalize hY:y*y=Y at *
 generalize hZ:z*z=Z at *
 grind
theorem aYb {x y z i:Rat} (h:(x*x+y*y+z*z+16)*i=1)(hi:0≤i)(h16:16*i≤1) :
   6 - 54*(i*i)≤Pl ((1+2*x)*i)+Pl ((1 - 2*x)*i)+(Pl ((1+2*y)*i)+Pl ((1 - 2*y)*i))+(Pl ((1+2*z)*i)+Pl ((1 - 2*z)*i)):=by
 have e1:∀w:Rat,Pl ((1+2*w)*i)+Pl ((1 - 2*w)*i)=2 - i+3 / 8*((2+8*(w*w))*(i*i)) - 5 / 16*((2+24*(w*w))*(i*i*i)):=by
   intro w;unfold Pl;grind
 rw [e1,e1,e1]
 have hS:(x*x+y*y+z*z)*i=1 - 16*i:=by grind
 have s2:(x*x+y*y+z*z)*(i*i)=i - 16*(i*i):=by
   have:(x*x+y*y+z*z)*(i*i)=((x*x+y*y+z*z)*i)*i:=by grind
   rw [this,hS];grind
 have s3:(x*x+y*y+z*z)*(i*i*i)=i*i - 16*(i*i*i):=by
   have:(x*x+y*y+z*z)*(i*i*i)=((x*x+y*y+z*z)*i)*(i*i):=by grind
   rw [this,hS];grind
 have i2:=sq_nonneg i
 have i3:0≤i*i*i:=Rat.mul_nonneg i2 hi
 generalize hX:x*x=X at *
 generalize hY:y*y=Y at *
 generalize hZ:z*z=Z at *
 grind
structure KB (K:V3→Rat) (e:Rat):Prop where
 pos:∀p,0≤K p
 up:∀p,K p*K p*((nsq p+16:Int):Rat)≤1
 lo:∀p,1≤(K p+e)*(K p+e)*((nsq p+16:Int):Rat)
theorem isq (b:Nat)(t:Nat)(ht:0 < t):∃k:Nat,k*k*t≤b∧b < (k+1)*(k+1)*t:=by
 have:∀n:Nat,∃k:Nat,k*k*t≤b∧(b < (k+1)*(k+1)*t∨n≤k):=by
   intro n
   induction n with
   | zero=>exact⟨0,by simp,.inr (Nat.le_refl _)⟩
   | succ n ih =>
     obtain⟨k,h1,h2⟩:=ih
     by_cases c:b < (k+1)*(k+1)*t
     · exact⟨k,h1,.inl c⟩
     · rcases h2 with h2 | h2
       · exact absurd h2 c
       · exact⟨k+1,by omega,.inr (by omega)⟩
 obtain⟨k,h1,h2⟩:=this (b+1)
 rcases h2 with h2 | h2
 · exact⟨k,h1,h2⟩
 · exfalso
   have h3:k*k≤k*k*t:=Nat.le_mul_of_pos_right _ ht
   have h4:k*1≤k*k:=Nat.mul_le_mul_left _ (by omega)
   omega
theorem aYc (B:Nat)(hB:0 < B):∃K:V3→Rat,KB K (1 / (B:Rat)):=by
 have hp:∀p:V3,∃k:Nat,k*k*toNat (nsq p+16)≤B*B∧B*B < (k+1)*(k+1)*toNat (nsq p+16):=fun p=>isq _ _ (by have:=nsq_nonneg p;omega)
 have hb:(0:Rat) < (B:Rat):=by
   have:=rcast_pos (a:=(B:Int)) (by omega)
   exact this
 refine⟨fun p=>((Classical.choose (hp p):Nat):Rat) / (B:Rat),fun p=>?_,fun p=>?_,fun p=>?_⟩
 · have:=inv_nn (Rat.le_of_lt hb)
   have k0:(0:Rat)≤((Classical.choose (hp p):Nat):Rat):=rcast_le (a:=0) (b:=((Classical.choose (hp p):Nat):Int)) (by omega)
   have:=Rat.mul_nonneg k0 this
   have e:((Classical.choose (hp p):Nat):Rat) / (B:Rat)=((Classical.choose (hp p):Nat):Rat)*(1 / (B:Rat)):=by grind
   rw [e];exact this
 · have h:=(Classical.choose_spec (hp p)).1
   have h0:=nsq_nonneg p
   generalize Classical.choose (hp p)=k at *
   have h2:((k:Int)*(k:Int)*(nsq p+16))≤(B:Int)*(B:Int):=by
     have:=Int.ofNat_le.mpr h
     rw [Int.natCast_mul,Int.natCast_mul,Int.natCast_mul,Int.toNat_of_nonneg (by omega)] at this
     exact this
   have h3:=rcast_le h2
   rw [rcast_mul,rcast_mul,rcast_mul] at h3
   have h4:=rmul_le h3 (c:=(1 / (B:Rat))*(1 / (B:Rat))) (sq_nonneg _)
   have e1:(((B:Int):Rat)*((B:Int):Rat))*((1 / (B:Rat))*(1 / (B:Rat)))=1:=by
     have:((B:Int):Rat)=(B:Rat):=rfl
     rw [this];grind
   rw [e1] at h4
   have:((k:Int):Rat)=(k:Rat):=rfl
   rw [this] at h4
   grind
 · have h:=(Classical.choose_spec (hp p)).2
   have h0:=nsq_nonneg p
   generalize Classical.choose (hp p)=k at *
   have h2:(B:Int)*(B:Int)≤(((k:Int)+1)*((k:Int)+1)*(nsq p+16)):=by
     have:=Int.ofNat_lt.mpr h
     rw [Int.natCast_mul,Int.natCast_mul,Int.natCast_mul,Int.toNat_of_nonneg (by omega)] at this
     have e:((k+1:Nat):Int)=(k:Int)+1:=by omega
     rw [e] at this
     exact Int.le_of_lt this
   have h3:=rcast_le h2
   rw [rcast_mul,rcast_mul,rcast_mul,rcast_add] at h3
   have h4:=rmul_le h3 (c:=(1 / (B:Rat))*(1 / (B:Rat))) (sq_nonneg _)
   have e1:(((B:Int):Rat)*((B:Int):Rat))*((1 / (B:Rat))*(1 / (B:Rat)))=1:=by
     have:((B:Int):Rat)=(B:Rat):=rfl
     rw [this];grind
   rw [e1] at h4
   have:((k:Int):Rat)=(k:Rat):=rfl
   rw [this,show((1:Int):Rat)=1 from rfl] at h4
   have e2:((k:Rat) / (B:Rat)+1 / (B:Rat))=((k:Rat)+1)*(1 / (B:Rat)):=by grind
   rw [e2];grind
theorem aOu {a b T:Rat} (hT:0 < T)(hb:0≤b)(h1:a*a*T≤1)(h2:1≤b*b*T):a≤b:=by
 refine cO hb ?_
 by_cases c:a*a≤b*b
 · exact c
 · have:=Rat.mul_pos (a:=a*a - b*b) (b:=T) (by grind) hT
   grind
theorem aOv {t:Rat} (h:0 < t):∃i:Rat,0 < i∧t*i=1:=by
 refine⟨t⁻¹,Rat.inv_pos.mpr h,?_⟩
 exact Rat.mul_inv_cancel _ (by grind)
theorem aCp {K:V3→Rat} {e:Rat} (hk:KB K e)(he:0≤e) {p q:V3} {d i:Rat} (hi:0 < i)(h1:((nsq p+16:Int):Rat)*i=1)(hq:((nsq q+16:Int):Rat)=((nsq p+16:Int):Rat)+d)
   (hd1:-(3 / 10)≤d*i) (hd2:d*i≤3 / 10):K q≤Pu (d*i)*(K p+e)∧Pl (d*i)*K p - e≤K q:=by
 have hT:(0:Rat) < ((nsq q+16:Int):Rat):=rcast_pos (by have:=nsq_nonneg q;omega)
 have hf:((nsq q+16:Int):Rat)=((nsq p+16:Int):Rat)*(1+d*i):=by
   rw [hq]
   have:((nsq p+16:Int):Rat)*(1+d*i)=((nsq p+16:Int):Rat)+d*(((nsq p+16:Int):Rat)*i):=by grind
   rw [this,h1];grind
 have hu:=hk.up p
 have hl:=hk.lo p
 have hu2:=hk.up q
 have hl2:=hk.lo q
 have kp:=hk.pos p
 have kq:=hk.pos q
 generalize hS:((nsq p+16:Int):Rat)=S at *
 constructor
 · refine aOu hT (Rat.mul_nonneg (aX7 _ hd1 hd2) (by grind)) hu2 ?_
   rw [hf]
   have a1:=aX8 _ hd1 hd2
   have a2:=rmul_le a1 (c:=(K p+e)*(K p+e)*S) (by grind)
   have:Pu (d*i)*(K p+e)*(Pu (d*i)*(K p+e))*(S*(1+d*i))=Pu (d*i)*Pu (d*i)*(1+d*i)*((K p+e)*(K p+e)*S):=by grind
   rw [this];grind
 · have a0:Pl (d*i)*K p≤K q+e:=by
     refine aOu hT (by grind) ?_ hl2
     rw [hf]
     have a1:=aX9 _ hd1 hd2
     have s0:0≤K p*K p*S:=Rat.mul_nonneg (sq_nonneg _) (by
       rw [←hS];exact Rat.le_of_lt (rcast_pos (by have:=nsq_nonneg p;omega)))
     have a2:=rmul_le a1 s0
     have:Pl (d*i)*K p*(Pl (d*i)*K p)*(S*(1+d*i))=Pl (d*i)*Pl (d*i)*(1+d*i)*(K p*K p*S):=by grind
     rw [this];grind
   grind
theorem aLj {t x i:Rat} (hi:0≤i)(h:t*i=1)(h1:10*(1+2*x)≤3*t)(h2:-(3*t)≤10*(1+2*x)):-(3 / 10)≤(1+2*x)*i∧(1+2*x)*i≤3 / 10:=by
 have a:=rmul_le h1 hi
 have b:=rmul_le h2 hi
 constructor
 · grind
 · grind
theorem aVa {K:V3→Rat} {e:Rat} (hk:KB K e)(he:0≤e) {p:V3} {i:Rat} (hi:0 < i)(h1:((nsq p+16:Int):Rat)*i=1)(hs:e≤i*i*i):0≤cB K p∧cB K p≤84*(i*i)*K p∧i / 2≤K p∧e≤K p:=by
 have ht16:(16:Rat)≤((nsq p+16:Int):Rat):=rcast_le (a:=16) (by have:=nsq_nonneg p;omega)
 have h16:16*i≤1:=by
   have:=rmul_le ht16 (Rat.le_of_lt hi)
   grind
 have hi0:=Rat.le_of_lt hi
 have i2:=sq_nonneg i
 have sm1:e≤i / 16:=by
   have:=rmul_le' (show i≤1 / 16 by grind) hi0
   have:=rmul_le (show i*i≤1 / 16*(1 / 16) by grind) hi0
   grind
 have kp:i / 2≤K p:=by
   have hl:=hk.lo p
   have k0:=hk.pos p
   have:1≤(K p+e)*((nsq p+16:Int):Rat):=by
     refine cO (Rat.mul_nonneg (by grind) (by grind)) ?_
     have:=rmul_le' hl (c:=((nsq p+16:Int):Rat)) (by grind)
     grind
   have a:=rmul_le this hi0
   have:(K p+e)*((nsq p+16:Int):Rat)*i=K p+e:=by
     have:(K p+e)*((nsq p+16:Int):Rat)*i=(K p+e)*(((nsq p+16:Int):Rat)*i):=by grind
     rw [this,h1];grind
   rw [this] at a
   grind
 have key:6*e≤30*(i*i)*K p:=by
   have:=rmul_le' kp (c:=30*(i*i)) (by grind)
   have a:=rmul_le i2 hi0
   grind
 obtain⟨x,y,z⟩:=p
 have hx:∀a:Int,10*(1+2*a)≤3*(a*a+16)∧-(3*(a*a+16))≤10*(1+2*a):=by
   intro a
   have b1:=sq_int_nonneg (3*a - 10)
   have b2:=sq_int_nonneg (3*a+10)
   constructor<;>grind
 have hn:∀a:Int,a*a≤nsq (x,y,z)→(10*(1+2*(a:Rat))≤3*((nsq (x,y,z)+16:Int):Rat)∧-(3*((nsq (x,y,z)+16:Int):Rat))≤10*(1+2*(a:Rat)))∧(10*(1+2*(-(a:Rat)))≤3*((nsq (x,y,z)+16:Int):Rat)∧-(3*((nsq (x,y,z)+16:Int):Rat))≤10*(1+2*(-(a:Rat)))):=by
   intro a ha
   have b1:=hx a
   have b2:=hx (-a)
   have b3:(-a)*(-a)=a*a:=by grind
   rw [b3] at b2
   have c1:=rcast_le (show 10*(1+2*a)≤3*(nsq (x,y,z)+16) by omega)
   have c2:=rcast_le (show -(3*(nsq (x,y,z)+16))≤10*(1+2*a) by omega)
   have c3:=rcast_le (show 10*(1+2*(-a))≤3*(nsq (x,y,z)+16) by omega)
   have c4:=rcast_le (show -(3*(nsq (x,y,z)+16))≤10*(1+2*(-a)) by omega)
   simp only [Rat.intCast_mul,Rat.intCast_add,Rat.intCast_neg] at c1 c2 c3 c4 ⊢
   refine⟨⟨?_,?_⟩,?_,?_⟩<;>grind
 have hsq:x*x≤nsq (x,y,z)∧y*y≤nsq (x,y,z)∧z*z≤nsq (x,y,z):=by
   have:=sq_int_nonneg x
   have:=sq_int_nonneg y
   have:=sq_int_nonneg z
   unfold nsq;simp only;omega
 have n1:((nsq (px (x,y,z))+16:Int):Rat)=((nsq (x,y,z)+16:Int):Rat)+(1+2*(x:Rat)):=by
   have:nsq (px (x,y,z))+16=nsq (x,y,z)+16+(1+2*x):=by simp only [nsq,px];grind
   rw [this];simp only [Rat.intCast_mul,Rat.intCast_add];rfl
 have n2:((nsq (mx (x,y,z))+16:Int):Rat)=((nsq (x,y,z)+16:Int):Rat)+(1+2*(-(x:Rat))):=by
   have:nsq (mx (x,y,z))+16=nsq (x,y,z)+16+(1+2*(-x)):=by simp only [nsq,mx];grind
   rw [this];simp only [Rat.intCast_mul,Rat.intCast_add,Rat.intCast_neg];rfl
 have n3:((nsq (py (x,y,z))+16:Int):Rat)=((nsq (x,y,z)+16:Int):Rat)+(1+2*(y:Rat)):=by
   have:nsq (py (x,y,z))+16=nsq (x,y,z)+16+(1+2*y):=by simp only [nsq,py];grind
   rw [this];simp only [Rat.intCast_mul,Rat.intCast_add];rfl
 have n4:((nsq (my (x,y,z))+16:Int):Rat)=((nsq (x,y,z)+16:Int):Rat)+(1+2*(-(y:Rat))):=by
   have:nsq (my (x,y,z))+16=nsq (x,y,z)+16+(1+2*(-y)):=by simp only [nsq,my];grind
   rw [this];simp only [Rat.intCast_mul,Rat.intCast_add,Rat.intCast_neg];rfl
 have n5:((nsq (pz (x,y,z))+16:Int):Rat)=((nsq (x,y,z)+16:Int):Rat)+(1+2*(z:Rat)):=by
   have:nsq (pz (x,y,z))+16=nsq (x,y,z)+16+(1+2*z):=by simp only [nsq,pz];grind
   rw [this];simp only [Rat.intCast_mul,Rat.intCast_add];rfl
 have n6:((nsq (mz (x,y,z))+16:Int):Rat)=((nsq (x,y,z)+16:Int):Rat)+(1+2*(-(z:Rat))):=by
   have:nsq (mz (x,y,z))+16=nsq (x,y,z)+16+(1+2*(-z)):=by simp only [nsq,mz];grind
   rw [this];simp only [Rat.intCast_mul,Rat.intCast_add,Rat.intCast_neg];rfl
 have hX:=hn x hsq.1
 have hY:=hn y hsq.2.1
 have hZ:=hn z hsq.2.2
 have tx:=aLj hi0 h1 hX.1.1 hX.1.2
 have tx':=aLj hi0 h1 hX.2.1 hX.2.2
 have ty:=aLj hi0 h1 hY.1.1 hY.1.2
 have ty':=aLj hi0 h1 hY.2.1 hY.2.2
 have tz:=aLj hi0 h1 hZ.1.1 hZ.1.2
 have tz':=aLj hi0 h1 hZ.2.1 hZ.2.2
 have b1:=aCp hk he hi h1 n1 tx.1 tx.2
 have b2:=aCp hk he hi h1 n2 tx'.1 tx'.2
 have b3:=aCp hk he hi h1 n3 ty.1 ty.2
 have b4:=aCp hk he hi h1 n4 ty'.1 ty'.2
 have b5:=aCp hk he hi h1 n5 tz.1 tz.2
 have b6:=aCp hk he hi h1 n6 tz'.1 tz'.2
 have hns:((x:Rat)*x+(y:Rat)*y+(z:Rat)*z+16)*i=1:=by
   rw [←h1]
   simp only [nsq,Rat.intCast_mul,Rat.intCast_add];rfl
 have su:=aYa hns hi0 h16
 have sl:=aYb hns hi0 h16
 have eqm:∀a:Rat,(1+2*(-a))=1 - 2*a:=fun a=>by grind
 rw [eqm] at b2 b4 b6
 have kk:=hk.pos (x,y,z)
 have m1:=rmul_le su (c:=K (x,y,z)+e) (by grind)
 have m2:=rmul_le sl kk
 refine⟨?_,?_,kp,by grind⟩
 · unfold cB
   have g:0≤30*(i*i)*e:=Rat.mul_nonneg (by grind) he
   generalize Pu ((1+2*(x:Rat))*i)=p1 at *
   generalize Pu ((1 - 2*(x:Rat))*i)=p2 at *
   generalize Pu ((1+2*(y:Rat))*i)=p3 at *
   generalize Pu ((1 - 2*(y:Rat))*i)=p4 at *
   generalize Pu ((1+2*(z:Rat))*i)=p5 at *
   generalize Pu ((1 - 2*(z:Rat))*i)=p6 at *
   clear su sl m2 hns
   have b1:=b1.1
   have b2:=b2.1
   have b3:=b3.1
   have b4:=b4.1
   have b5:=b5.1
   have b6:=b6.1
   have:(p1+p2+(p3+p4)+(p5+p6))*(K (x,y,z)+e)=p1*(K (x,y,z)+e)+p2*(K (x,y,z)+e)+(p3*(K (x,y,z)+e)+p4*(K (x,y,z)+e))+(p5*(K (x,y,z)+e)+p6*(K (x,y,z)+e)):=by grind
   rw [this] at m1
   have:(6 - 30*(i*i))*(K (x,y,z)+e)=6*K (x,y,z)+6*e - 30*(i*i)*K (x,y,z) - 30*(i*i)*e:=by grind
   rw [this] at m1
   generalize 30*(i*i)*K (x,y,z)=A at *
   generalize 30*(i*i)*e=B at *
   grind
 · unfold cB
   generalize Pl ((1+2*(x:Rat))*i)=p1 at *
   generalize Pl ((1 - 2*(x:Rat))*i)=p2 at *
   generalize Pl ((1+2*(y:Rat))*i)=p3 at *
   generalize Pl ((1 - 2*(y:Rat))*i)=p4 at *
   generalize Pl ((1+2*(z:Rat))*i)=p5 at *
   generalize Pl ((1 - 2*(z:Rat))*i)=p6 at *
   clear su sl m1 hns
   have b1:=b1.2
   have b2:=b2.2
   have b3:=b3.2
   have b4:=b4.2
   have b5:=b5.2
   have b6:=b6.2
   have:(p1+p2+(p3+p4)+(p5+p6))*K (x,y,z)=p1*K (x,y,z)+p2*K (x,y,z)+(p3*K (x,y,z)+p4*K (x,y,z))+(p5*K (x,y,z)+p6*K (x,y,z)):=by grind
   rw [this] at m2
   have:(6 - 54*(i*i))*K (x,y,z)=6*K (x,y,z) - 54 / 30*(30*(i*i)*K (x,y,z)):=by grind
   rw [this] at m2
   have:84*(i*i)*K (x,y,z)=84 / 30*(30*(i*i)*K (x,y,z)):=by grind
   rw [this]
   generalize 30*(i*i)*K (x,y,z)=A at *
   grind
theorem xA {L:Nat} {f:Int→Rat} {c:Rat} (h:∀x:Int,-L≤x→x≤L→f x≤c):ln L f≤(2*L+1)*c:=by
 have:=tV (L:=L) (f:=f) (g:=fun _=>c) h
 rwa [tW] at this
theorem aOw {n:Nat} {f:V3→Rat} {c:Rat} (hc:0≤c)(h:∀p,inb ((n:Int)+1) p→¬inb (n:Int) p→f p≤c):bx (n+1) f≤bx n f+6*((2*n+3)*(2*n+3))*c:=by
 have n0:(0:Rat)≤(n:Rat):=rcast_le (a:=0) (b:=(n:Int)) (by omega)
 have cst:(((n+1:Nat):Nat):Rat)=(n:Rat)+1:=by
   have:=rcast_add (n:Int) 1
   exact this
 have zl:∀x y:Int,-(n+1:Nat)≤x→x≤(n+1:Nat)→-(n+1:Nat)≤y→y≤(n+1:Nat)→(x=n+1∨x=-(n:Int) - 1∨y=n+1∨y=-(n:Int) - 1)→ln (n+1) (fun z=>f (x,y,z))≤(2*n+3)*c:=by
   intro x y a1 a2 a3 a4 a5
   have:=xA (L:=n+1) (f:=fun z=>f (x,y,z)) (c:=c) (fun z b1 b2=>h _ (by simp only [inb];omega) (by simp only [inb];omega))
   rw [cst] at this
   grind
 have yl:∀x:Int,(x=n+1∨x=-(n:Int) - 1)→ln (n+1) (fun y=>ln (n+1) (fun z=>f (x,y,z)))≤(2*n+3)*((2*n+3)*c):=by
   intro x hx
   have:=xA (L:=n+1) (f:=fun y=>ln (n+1) (fun z=>f (x,y,z))) (c:=(2*n+3)*c) (fun y b1 b2=>zl x y (by omega) (by omega) b1 b2 (by omega))
   rw [cst] at this
   grind
 have e1:bx (n+1) f≤ln n (fun x=>ln (n+1) (fun y=>ln (n+1) (fun z=>f (x,y,z))))+2*((2*n+3)*((2*n+3)*c)):=by
   unfold bx
   rw [aEf]
   have a1:=yl (n+1) (.inl rfl)
   have a2:=yl (-(n:Int) - 1) (.inr rfl)
   grind
 have e2:ln n (fun x=>ln (n+1) (fun y=>ln (n+1) (fun z=>f (x,y,z))))≤ln n (fun x=>ln n (fun y=>ln (n+1) (fun z=>f (x,y,z))))+(2*n+1)*(2*((2*n+3)*c)):=by
   rw [←tW,←vT]
   refine tV (fun x a1 a2=>?_)
   rw [aEf]
   have b1:=zl x (n+1) (by omega) (by omega) (by omega) (by omega) (.inr (.inr (.inl rfl)))
   have b2:=zl x (-(n:Int) - 1) (by omega) (by omega) (by omega) (by omega) (.inr (.inr (.inr rfl)))
   grind
 have e3:ln n (fun x=>ln n (fun y=>ln (n+1) (fun z=>f (x,y,z))))≤bx n f+(2*n+1)*((2*n+1)*(2*c)):=by
   unfold bx
   rw [←tW,←vT]
   refine tV (fun x a1 a2=>?_)
   rw [←tW,←vT]
   refine tV (fun y b1 b2=>?_)
   rw [aEf]
   have d1:=h (x,y,(n:Int)+1) (by simp only [inb];omega) (by simp only [inb];omega)
   have d2:=h (x,y,-(n:Int) - 1) (by simp only [inb];omega) (by simp only [inb];omega)
   grind
 have nc:0≤(n:Rat)*c:=Rat.mul_nonneg n0 hc
 grind
theorem odm {r:Rat} (h:0 < r):1 / r*r=1:=by
 rw [Rat.div_def]
 have:=Rat.inv_mul_cancel r (by grind)
 grind
theorem aZ2 (N:Nat)(hN:1≤N):∃K:V3→Rat,∃e:Rat,0 < e∧e*((3*(N*N:Nat)+16:Nat):Rat)≤1∧KB K e∧Kn K N∧(∀n:Nat,n≤N→1 / 25≤bx n (cB K)) ∧
   ∀s n:Nat,1≤s→s≤n→n≤N→(bx n (cB K) - bx s (cB K))*((s:Rat)*(s:Rat))≤2268:=by
 generalize hT:3*(N*N)+16=T
 have hT0:0 < T*T*T:=Nat.mul_pos (Nat.mul_pos (by omega) (by omega)) (by omega)
 obtain⟨K,hK⟩:=aYc (T*T*T) hT0
 have tr:(16:Rat)≤(T:Rat):=rcast_le (a:=16) (b:=(T:Int)) (by omega)
 have hb:(0:Rat) < ((T*T*T:Nat):Rat):=by
   have:=rcast_pos (a:=((T*T*T:Nat):Int)) (by omega)
   exact this
 have hbe:((T*T*T:Nat):Rat)=(T:Rat)*(T:Rat)*(T:Rat):=by
   have:(((T*T*T:Nat):Int):Rat)=(((T:Int)*(T:Int)*(T:Int):Int):Rat):=by
     rw [Int.natCast_mul,Int.natCast_mul]
   rw [rcast_mul,rcast_mul] at this
   exact this
 obtain⟨e,he,hee⟩:=aOv hb
 have e1:1 / ((T*T*T:Nat):Rat)=e:=by
   have:1 / ((T*T*T:Nat):Rat)*((T*T*T:Nat):Rat)=1:=by grind
   grind
 rw [e1] at hK
 have heT:e*(T:Rat)≤1:=by
   rw [hbe] at hee
   have a1:0≤e*(T:Rat):=Rat.mul_nonneg (Rat.le_of_lt he) (by grind)
   have a2:0≤e*(T:Rat)*((T:Rat)*(T:Rat) - 1):=Rat.mul_nonneg a1 (by
     have:=rmul_le' tr (c:=(T:Rat)) (by grind)
     grind)
   grind
 have small:∀p,inb (N:Int) p→∃i:Rat,0 < i∧((nsq p+16:Int):Rat)*i=1∧e≤i*i*i:=by
   intro p hp
   have h1:=aEj hp
   have h2:((nsq p+16:Int):Rat)≤(T:Rat):=by
     have e3:(T:Int)=3*((N:Int)*(N:Int))+16:=by rw [←hT];simp
     have:nsq p+16≤(T:Int):=by rw [e3];omega
     exact rcast_le this
   have hp0:(0:Rat) < ((nsq p+16:Int):Rat):=rcast_pos (by have:=nsq_nonneg p;omega)
   obtain⟨i,hi,hi1⟩:=aOv hp0
   refine⟨i,hi,hi1,?_⟩
   have a1:1≤(T:Rat)*i:=by
     have:=rmul_le h2 (Rat.le_of_lt hi)
     grind
   have a0:=Rat.le_of_lt hi
   have ti:0≤(T:Rat)*i:=by grind
   have a2:1≤(T:Rat)*i*((T:Rat)*i):=by
     have:=rmul_le a1 ti
     grind
   have a3:1≤(T:Rat)*i*((T:Rat)*i)*((T:Rat)*i):=by
     have:=rmul_le a2 ti
     grind
   have a4:=rmul_le a3 (Rat.le_of_lt he)
   rw [hbe] at hee
   have:(T:Rat)*i*((T:Rat)*i)*((T:Rat)*i)*e=i*i*i*((T:Rat)*(T:Rat)*(T:Rat)*e):=by grind
   rw [this,hee] at a4
   grind
 have lb:∀p,inb (N:Int) p→∃i:Rat,0 < i∧((nsq p+16:Int):Rat)*i=1∧0≤cB K p∧cB K p≤84*(i*i)*K p∧e≤K p:=by
   intro p hp
   obtain⟨i,hi,hi1,hs⟩:=small p hp
   have:=aVa hK (Rat.le_of_lt he) hi hi1 hs
   exact⟨i,hi,hi1,this.1,this.2.1,this.2.2.2⟩
 have kn:Kn K N:=by
   refine⟨hK.pos,fun p=>?_,hK.up,fun p hp=>?_,fun p hp=>?_⟩
   · have h1:=hK.up p
     have h2:(16:Rat)≤((nsq p+16:Int):Rat):=rcast_le (a:=16) (by have:=nsq_nonneg p;omega)
     have h3:=rmul_le' h2 (sq_nonneg (K p))
     have:4*K p≤1:=cO (by decide) (by grind)
     grind
   · obtain⟨i,hi,hi1,_,_,h3⟩:=lb p hp
     have h1:=hK.lo p
     have k0:=hK.pos p
     have s0:(0:Rat)≤((nsq p+16:Int):Rat):=Rat.le_of_lt (rcast_pos (by have:=nsq_nonneg p;omega))
     have h4:(K p+e)*(K p+e)≤(2*K p)*(2*K p):=by
       have a1:=rmul_le (show K p+e≤2*K p by grind) (show 0≤K p+e by grind)
       have a2:=rmul_le' (show K p+e≤2*K p by grind) (show 0≤2*K p by grind)
       grind
     have h5:=rmul_le h4 s0
     grind
   · obtain⟨i,hi,hi1,h3,_⟩:=lb p hp
     exact h3
 have step:∀n:Nat,n+1≤N→bx (n+1) (cB K)≤bx n (cB K)+6*((2*n+3)*(2*n+3))*(84*((1 / ((n:Rat)+1))*(1 / ((n:Rat)+1))*(1 / ((n:Rat)+1))*(1 / ((n:Rat)+1))*(1 / ((n:Rat)+1)))):=by
   intro n hn
   have n0:(0:Rat)≤(n:Rat):=rcast_le (a:=0) (b:=(n:Int)) (by omega)
   have j0:0≤1 / ((n:Rat)+1):=inv_nn (by grind)
   refine aOw ?_ (fun p h1 h2=>?_)
   · exact Rat.mul_nonneg (by decide) (Rat.mul_nonneg (Rat.mul_nonneg (Rat.mul_nonneg (Rat.mul_nonneg j0 j0) j0) j0) j0)
   · obtain⟨i,hi,hi1,_,h4,_⟩:=lb p (by unfold inb at *;omega)
     have k1:=aIf kn (D:=(n:Int)+1) (by omega) (p:=p) (by unfold inb at *;omega)
     have ec:(((n:Int)+1:Int):Rat)=(n:Rat)+1:=rcast_add (n:Int) 1
     rw [ec] at k1
     have k2:=aJ3 (D:=(n:Int)+1) (p:=p) (by omega) (by unfold inb at *;omega)
     have k3:(((n:Int)+1:Int):Rat)*(((n:Int)+1:Int):Rat)≤((nsq p+16:Int):Rat):=by
       rw [←rcast_mul];exact rcast_le (by omega)
     rw [ec] at k3
     have jn:(1 / ((n:Rat)+1))*((n:Rat)+1)=1:=odm (by grind)
     generalize 1 / ((n:Rat)+1)=j at *
     generalize hr:(n:Rat)+1=r at *
     have i1:i≤j*j:=by
       have a1:=rmul_le k3 (Rat.le_of_lt hi)
       have a2:=rmul_le' a1 (c:=j*j) (Rat.mul_nonneg j0 j0)
       have:j*j*(r*r*i)=(j*r)*(j*r)*i:=by grind
       rw [this,jn,hi1] at a2
       grind
     have i2:i*i≤j*j*(j*j):=by
       have a1:=rmul_le i1 (Rat.le_of_lt hi)
       have a2:=rmul_le' i1 (c:=j*j) (Rat.mul_nonneg j0 j0)
       grind
     have i3:i*i*K p≤j*j*(j*j)*j:=by
       have a1:=rmul_le i2 (hK.pos p)
       have a2:=rmul_le' k1 (c:=j*j*(j*j)) (Rat.mul_nonneg (Rat.mul_nonneg j0 j0) (Rat.mul_nonneg j0 j0))
       grind
     grind
 refine⟨K,e,he,heT,hK,kn,fun n hn=>?_,fun s n hs hsn hn=>?_⟩
 · -- the middle
   have l0:1 / 25≤cB K (0,0,0):=by
     have t0:nsq (0,0,0)=0:=rfl
     have h0:=hK.lo (0,0,0)
     have hup:∀q,nsq q=1→K q≤2426 / 10000:=by
       intro q hq
       have h1:=hK.up q
       rw [hq] at h1
       have h17:((1+16:Int):Rat)=17:=rfl
       rw [h17] at h1
       refine cO (by grind) ?_
       have:(17:Rat)*(2426 / 10000*(2426 / 10000))≥1:=by decide +kernel
       grind
     have a1:=hup (px (0,0,0)) rfl
     have a2:=hup (mx (0,0,0)) rfl
     have a3:=hup (py (0,0,0)) rfl
     have a4:=hup (my (0,0,0)) rfl
     have a5:=hup (pz (0,0,0)) rfl
     have a6:=hup (mz (0,0,0)) rfl
     rw [t0] at h0
     have h16:((0+16:Int):Rat)=16:=rfl
     rw [h16] at h0
     have k0:=hK.pos (0,0,0)
     have b1:1≤4*(K (0,0,0)+e):=cO (by grind) (by grind)
     have e16:e≤1 / 4000:=by
       rw [hbe] at hee
       have g1:(16:Rat)*16≤(T:Rat)*(T:Rat):=by
         have a1:=rmul_le tr (show(0:Rat)≤16 by decide)
         have a2:=rmul_le' tr (show(0:Rat)≤(T:Rat) by grind)
         grind
       have g2:(16:Rat)*16*16≤(T:Rat)*(T:Rat)*(T:Rat):=by
         have a1:=rmul_le g1 (show(0:Rat)≤16 by decide)
         have a2:=rmul_le' tr (show(0:Rat)≤(T:Rat)*(T:Rat) by grind)
         grind
       have g3:=rmul_le g2 (Rat.le_of_lt he)
       rw [hee] at g3
       grind
     unfold cB
     grind
   have:bx 0 (cB K)≤bx n (cB K):=by
     have:=rZ (L:=n) (M:=0) (a:=(0,0,0)) (f:=cB K) (fun p hp=>kn.rho p (by unfold inb at *;omega)) (fun p hp=>by simp only [inb,va] at *;omega)
     have ez:∀z:V3,va (0,0,0) z=z:=fun z=>by obtain⟨a,b,c⟩:=z;simp only [va,Prod.mk.injEq];omega
     simp only [ez] at this
     exact this
   have b0:bx 0 (cB K)=cB K (0,0,0):=by
     simp only [bx,ln,sm]
     grind
   rw [b0] at this
   exact Rat.le_trans l0 this
 · have main:∀d:Nat,s+d≤N→bx (s+d) (cB K)+2268*(1 / ((s+d:Nat):Rat))*(1 / (((s+d:Nat):Rat)+1))≤bx s (cB K)+2268*(1 / (s:Rat))*(1 / ((s:Rat)+1)):=by
     intro d
     induction d with
     | zero=>intro _;exact Rat.le_refl
     | succ d ih =>
       intro hd
       have ih:=ih (by omega)
       have st:=step (s+d) (by omega)
       have cn:((s+(d+1):Nat):Rat)=((s+d:Nat):Rat)+1:=by
         have:=rcast_add ((s+d:Nat):Int) 1
         exact this
       have r1:(1:Rat)≤((s+d:Nat):Rat):=rcast_le (a:=1) (b:=((s+d:Nat):Int)) (by omega)
       rw [cn]
       have eq2:s+(d+1)=s+d+1:=by omega
       rw [eq2]
       refine Rat.le_trans ?_ ih
       generalize ((s+d:Nat):Rat)=r at *
       have k0:0≤1 / r:=inv_nn (by grind)
       have kj:0≤1 / (r+1):=inv_nn (by grind)
       have kl:0≤1 / (r+1+1):=inv_nn (by grind)
       have m1:1 / r*r=1:=odm (by grind)
       have m2:1 / (r+1)*(r+1)=1:=odm (by grind)
       have m3:1 / (r+1+1)*(r+1+1)=1:=odm (by grind)
       generalize 1 / r=k at *
       generalize 1 / (r+1)=j at *
       generalize 1 / (r+1+1)=l at *
       have f1:k - l=2*(k*l):=by
         have:(k - l)=(k*r)*0+k*(l*(r+1+1)) - l*(k*r):=by rw [m1,m3];grind
         rw [this];grind
       have f2:j*j≤k*l:=by
         have g1:k*l=k*l*((j*(r+1))*(j*(r+1))):=by rw [m2];grind
         have g2:k*l*((j*(r+1))*(j*(r+1)))=j*j*((k*r)*(l*(r+1+1)))+k*l*(j*j):=by grind
         rw [g1,g2,m1,m3]
         have:0≤k*l*(j*j):=Rat.mul_nonneg (Rat.mul_nonneg k0 kl) (Rat.mul_nonneg kj kj)
         grind
       have f3:6*((2*r+3)*(2*r+3))*(84*(j*j*j*j*j))≤4536*(j*j*j):=by
         have g1:(2*r+3)*(2*r+3)≤9*((r+1)*(r+1)):=by
           have:0≤r*r:=sq_nonneg r
           have:0≤(r - 1)*r:=Rat.mul_nonneg (by grind) (by grind)
           grind
         have g2:=rmul_le g1 (c:=504*(j*j*j*j*j)) (Rat.mul_nonneg (by decide) (Rat.mul_nonneg (Rat.mul_nonneg (Rat.mul_nonneg (Rat.mul_nonneg kj kj) kj) kj) kj))
         have g3:9*((r+1)*(r+1))*(504*(j*j*j*j*j))=4536*(j*j*j)*((j*(r+1))*(j*(r+1))):=by grind
         rw [g3,m2] at g2
         grind
       have f4:4536*(j*j*j)≤2268*j*(k - l):=by
         rw [f1]
         have:=rmul_le' f2 (c:=4536*j) (by grind)
         grind
       grind
   have h1:=main (n - s) (by omega)
   rw [show s+(n - s)=n by omega] at h1
   have n1:(1:Rat)≤(n:Rat):=rcast_le (a:=1) (b:=(n:Int)) (by omega)
   have s1:(1:Rat)≤(s:Rat):=rcast_le (a:=1) (b:=(s:Int)) (by omega)
   have p1:0≤2268*(1 / (n:Rat))*(1 / ((n:Rat)+1)):=Rat.mul_nonneg (Rat.mul_nonneg (by decide) (inv_nn (by grind))) (inv_nn (by grind))
   have h2:bx n (cB K) - bx s (cB K)≤2268*(1 / (s:Rat))*(1 / ((s:Rat)+1)):=by grind
   have h3:=rmul_le h2 (c:=(s:Rat)*(s:Rat)) (by
     have:=sq_nonneg (s:Rat);exact this)
   refine Rat.le_trans h3 ?_
   have k0:0≤1 / ((s:Rat)+1):=inv_nn (by grind)
   have m1:1 / (s:Rat)*(s:Rat)=1:=odm (by grind)
   have m2:1 / ((s:Rat)+1)*((s:Rat)+1)=1:=odm (by grind)
   generalize 1 / (s:Rat)=k at *
   generalize 1 / ((s:Rat)+1)=j at *
   have:2268*k*j*((s:Rat)*(s:Rat))=2268*(k*(s:Rat))*(j*(s:Rat)):=by grind
   rw [this,m1]
   grind
def qb (n k:Nat):Rat:=(2*k*n:Int) / ((n*n+k*k:Int):Rat)
def qs (n k:Nat):Rat:=((2*(2*k+1)*(2*n):Int):Rat) / ((2*n*(2*n)+(2*k+1)*(2*k+1):Int):Rat)
def qc (n k:Nat):Rat:=((2*n*(2*n) - (2*k+1)*(2*k+1):Int):Rat) / ((2*n*(2*n)+(2*k+1)*(2*k+1):Int):Rat)
def cl (a b y:Rat):Rat:=if y≤a then a else if y≤b then y else b
theorem aJ4 {a b x y:Rat} (hab:a≤b)(h:x≤y):cl a b x≤cl a b y:=by
 unfold cl;grind
theorem aEk {a b y:Rat} (hab:a≤b):a≤cl a b y∧cl a b y≤b:=by
 unfold cl;grind
def ar (s c u v:Rat):Rat:=(v - u)*((1 - s*u) / c+(1 - s*v) / c) / 2
theorem aYd {s c u v g y:Rat} (hc:0 < c)(hs:0≤s)(hsc:s*s+c*c=1)(hu:u≤v)(hv:v≤y)(hv0:0≤v)(hg:0≤g)(hgy:g*g+y*y≤1):(v - u)*g≤ar s c u v:=by
 have t1:s*y+c*g≤1:=by
   refine cO (by decide) ?_
   have a1:=sq_nonneg (s*g - c*y)
   have a2:(s*y+c*g)*(s*y+c*g)+(s*g - c*y)*(s*g - c*y)=(s*s+c*c)*(g*g+y*y):=by grind
   rw [hsc] at a2
   grind
 have ic:c*(1 / c)=1:=by have:=odm hc;grind
 have ic0:=inv_nn (Rat.le_of_lt hc)
 have t2:c*g≤1 - s*v:=by
   have:=rmul_le' hv hs
   grind
 have t3:g≤(1 - s*v) / c:=by
   have:=rmul_le t2 ic0
   have e1:c*g*(1 / c)=g:=by
     have:c*g*(1 / c)=(c*(1 / c))*g:=by grind
     rw [this,ic];grind
   have e2:(1 - s*v)*(1 / c)=(1 - s*v) / c:=by
     rw [Rat.div_def,Rat.div_def];grind
   rw [e1,e2] at this
   exact this
 have t4:(1 - s*v) / c≤(1 - s*u) / c:=by
   have:=rmul_le (show 1 - s*v≤1 - s*u by have:=rmul_le' hu hs;grind) ic0
   rw [Rat.div_def,Rat.div_def]
   rw [Rat.div_def] at this
   grind
 have t5:=rmul_le' (show g≤((1 - s*u) / c+(1 - s*v) / c) / 2 by grind) (show 0≤v - u by grind)
 unfold ar
 grind
def Ph (n:Nat)(y:Rat):Rat:=sm n (fun k=>ar (qs n k) (qc n k) (qb n k) (cl (qb n k) (qb n (k+1)) y))
structure Seg (n k:Nat):Prop where
 c0:0 < qc n k
 s0:0≤qs n k
 sc:qs n k*qs n k+qc n k*qc n k=1
 b0:0≤qb n k
 bb:qb n k≤qb n (k+1)
theorem aVb {s c u v w:Rat}:ar s c u w - ar s c u v=ar s c v w:=by
 unfold ar
 have e:∀x:Rat,x / c=x*c⁻¹:=fun x=>Rat.div_def ..
 rw [e,e,e];grind
theorem aOx (n:Nat)(h:∀k,k < n→Seg n k)(y:Rat):∀m,m≤n→sm m (fun k=>cl (qb n k) (qb n (k+1)) y - qb n k)=(if y≤qb n 0 then 0 else if y≤qb n m then y - qb n 0 else qb n m - qb n 0):=by
 intro m
 induction m with
 | zero=>intro _;simp only [sm];grind
 | succ m ih =>
   intro hm
   rw [sm,ih (by omega)]
   have hb:=(h m (by omega)).bb
   have mono:qb n 0≤qb n m:=by
     have:∀j,j≤m→qb n 0≤qb n j:=by
       intro j
       induction j with
       | zero=>intro _;exact Rat.le_refl
       | succ j ih =>
         intro hj
         exact Rat.le_trans (ih (by omega)) (h j (by omega)).bb
     exact this m (Nat.le_refl _)
   unfold cl;grind
theorem aOy {n:Nat} (h:∀k,k < n→Seg n k)(h0:qb n 0=0)(h1:qb n n=1) {x y g:Rat} (hx:0≤x)(hxy:x≤y)(hy:y≤1)(hg:0≤g)(hgy:g*g+y*y≤1):(y - x)*g≤Ph n y - Ph n x:=by
 have e1:Ph n y - Ph n x=sm n (fun k=>ar (qs n k) (qc n k) (cl (qb n k) (qb n (k+1)) x) (cl (qb n k) (qb n (k+1)) y)):=by
   unfold Ph
   have:=lA n (fun k=>ar (qs n k) (qc n k) (qb n k) (cl (qb n k) (qb n (k+1)) x)) (fun k=>ar (qs n k) (qc n k) (cl (qb n k) (qb n (k+1)) x) (cl (qb n k) (qb n (k+1)) y))
   have e2:sm n (fun k=>ar (qs n k) (qc n k) (qb n k) (cl (qb n k) (qb n (k+1)) y))=sm n (fun k=>ar (qs n k) (qc n k) (qb n k) (cl (qb n k) (qb n (k+1)) x)+ar (qs n k) (qc n k) (cl (qb n k) (qb n (k+1)) x) (cl (qb n k) (qb n (k+1)) y)):=by
     refine bL (fun k _=>?_)
     have:=aVb (s:=qs n k) (c:=qc n k) (u:=qb n k) (v:=cl (qb n k) (qb n (k+1)) x) (w:=cl (qb n k) (qb n (k+1)) y)
     rw [←this];grind
   rw [e2,this];grind
 have e3:sm n (fun k=>cl (qb n k) (qb n (k+1)) y - cl (qb n k) (qb n (k+1)) x)=y - x:=by
   have a1:=aOx n h y n (Nat.le_refl _)
   have a2:=aOx n h x n (Nat.le_refl _)
   rw [h0,h1] at a1 a2
   have:=lA n (fun k=>cl (qb n k) (qb n (k+1)) y - qb n k) (fun k=>(-1)*(cl (qb n k) (qb n (k+1)) x - qb n k))
   rw [cW,a1,a2] at this
   have e4:sm n (fun k=>cl (qb n k) (qb n (k+1)) y - cl (qb n k) (qb n (k+1)) x)=sm n (fun k=>cl (qb n k) (qb n (k+1)) y - qb n k+(-1)*(cl (qb n k) (qb n (k+1)) x - qb n k)):=bL (fun k _=>by grind)
   rw [e4,this];grind
 rw [e1,←e3]
 have:sm n (fun k=>cl (qb n k) (qb n (k+1)) y - cl (qb n k) (qb n (k+1)) x)*g=sm n (fun k=>g*(cl (qb n k) (qb n (k+1)) y - cl (qb n k) (qb n (k+1)) x)):=by
   rw [cW];grind
 rw [this]
 refine lT (fun k hk=>?_)
 have hs:=h k hk
 have m1:=aJ4 (a:=qb n k) (b:=qb n (k+1)) hs.bb hxy
 have m2:=aEk (a:=qb n k) (b:=qb n (k+1)) (y:=y) hs.bb
 have m3:=aEk (a:=qb n k) (b:=qb n (k+1)) (y:=x) hs.bb
 by_cases c:y≤qb n k
 · have c1:cl (qb n k) (qb n (k+1)) y=qb n k:=by unfold cl;grind
   have c2:cl (qb n k) (qb n (k+1)) x=qb n k:=by unfold cl;grind
   rw [c1,c2]
   unfold ar;grind
 · have c1:cl (qb n k) (qb n (k+1)) y≤y:=by unfold cl;grind
   have:=aYd (u:=cl (qb n k) (qb n (k+1)) x) (v:=cl (qb n k) (qb n (k+1)) y) hs.c0 hs.s0 hs.sc m1 c1 (Rat.le_trans hs.b0 m2.1) hg hgy
   grind
theorem qJ (a c:Rat):a / c=a*(1 / c):=by rw [Rat.div_def,Rat.div_def];grind
theorem aYe (n:Nat):((n:Int):Rat)=(n:Rat):=rfl
theorem vU {n k:Nat} (hk:k < n):Seg n k:=by
 have hn0:(0:Int) < n:=by omega
 have sqk:=sq_int_nonneg (k:Int)
 have sqn:0 < (n:Int)*n:=Int.mul_pos hn0 hn0
 have D0:(0:Int) < 2*n*(2*n)+(2*k+1)*(2*k+1):=by
   have:=sq_int_nonneg (2*(k:Int)+1)
   have:(2*(n:Int)*(2*n))=4*((n:Int)*n):=by grind
   omega
 have C0:(0:Int) < 2*n*(2*n) - (2*k+1)*(2*k+1):=by
   have:=Int.mul_self_lt_mul_self (a:=2*(k:Int)+1) (b:=2*(n:Int)) (by omega) (by omega)
   omega
 have E0:(0:Int) < (n:Int)*n+k*k:=by omega
 have E1:(0:Int) < (n:Int)*n+(k+1:Nat)*(k+1:Nat):=by
   have:=sq_int_nonneg ((k+1:Nat):Int);omega
 have rD:=rcast_pos D0
 have rC:=rcast_pos C0
 have rE0:=rcast_pos E0
 have rE1:=rcast_pos E1
 have kk:(0:Rat)≤((k:Int):Rat):=rcast_le (a:=0) (by omega)
 have nn:(0:Rat)≤((n:Int):Rat):=rcast_le (a:=0) (by omega)
 have iD:=odm rD
 have iE0:=odm rE0
 have iE1:=odm rE1
 have iD0:=inv_nn (Rat.le_of_lt rD)
 have iE00:=inv_nn (Rat.le_of_lt rE0)
 have iE10:=inv_nn (Rat.le_of_lt rE1)
 refine⟨?_,?_,?_,?_,?_⟩
 · unfold qc
   rw [qJ]
   refine Rat.mul_pos rC ?_
   rw [Rat.div_def]
   have:=Rat.inv_pos.mpr rD
   grind
 · unfold qs
   rw [qJ]
   refine Rat.mul_nonneg (rcast_le (a:=0) ?_) iD0
   have:=Int.mul_nonneg (a:=2*(2*(k:Int)+1)) (b:=2*(n:Int)) (by omega) (by omega)
   exact this
 · unfold qs qc
   rw [qJ,qJ (((2*n*(2*n) - (2*k+1)*(2*k+1):Int):Rat))]
   have e:(((2*(2*k+1)*(2*n):Int):Rat)*((2*(2*k+1)*(2*n):Int):Rat)+((2*n*(2*n) - (2*k+1)*(2*k+1):Int):Rat)*((2*n*(2*n) - (2*k+1)*(2*k+1):Int):Rat))=((2*n*(2*n)+(2*k+1)*(2*k+1):Int):Rat)*((2*n*(2*n)+(2*k+1)*(2*k+1):Int):Rat):=by
     rw [←rcast_mul,←rcast_mul,←rcast_add,←rcast_mul]
     congr 1
     grind
   generalize ((2*n*(2*n)+(2*k+1)*(2*k+1):Int):Rat)=Dr at *
   generalize ((2*(2*k+1)*(2*n):Int):Rat)=Sr at *
   generalize ((2*n*(2*n) - (2*k+1)*(2*k+1):Int):Rat)=Cr at *
   generalize 1 / Dr=j at *
   have:Sr*j*(Sr*j)+Cr*j*(Cr*j)=(Sr*Sr+Cr*Cr)*(j*j):=by grind
   rw [this,e]
   have:Dr*Dr*(j*j)=(j*Dr)*(j*Dr):=by grind
   rw [this,iD];grind
 · unfold qb
   rw [qJ]
   refine Rat.mul_nonneg (rcast_le (a:=0) ?_) iE00
   have:=Int.mul_nonneg (a:=2*(k:Int)) (b:=(n:Int)) (by omega) (by omega)
   exact this
 · unfold qb
   rw [qJ,qJ (((2*(k+1:Nat)*n:Int):Rat))]
   have key:(2*(k:Int)*n)*((n:Int)*n+(k+1:Nat)*(k+1:Nat))≤(2*((k+1:Nat):Int)*n)*((n:Int)*n+k*k):=by
     have h1:(k:Int)*(k+1)≤(n:Int)*n:=by
       have:=Int.mul_le_mul (a:=(k:Int)) (b:=(k:Int)+1) (c:=(n:Int)) (d:=(n:Int)) (by omega) (by omega) (by omega) (by omega)
       exact this
     have h2:=Int.mul_nonneg (a:=(n:Int)) (b:=(n:Int)*n - k*(k+1)) (by omega) (by omega)
     have e:((k+1:Nat):Int)=(k:Int)+1:=by omega
     rw [e]
     grind
   have rk:=rcast_le key
   rw [rcast_mul,rcast_mul (2*((k+1:Nat):Int)*n)] at rk
   generalize ((2*(k:Int)*n:Int):Rat)=b0 at *
   generalize ((2*((k+1:Nat):Int)*n:Int):Rat)=b1 at *
   generalize (((n:Int)*n+(k+1:Nat)*(k+1:Nat):Int):Rat)=e1 at *
   generalize (((n:Int)*n+k*k:Int):Rat)=e0 at *
   generalize 1 / e0=j0 at *
   generalize 1 / e1=j1 at *
   have h3:=rmul_le rk (c:=j0*j1) (Rat.mul_nonneg iE00 iE10)
   have a1:b0*e1*(j0*j1)=b0*j0*(j1*e1):=by grind
   have a2:b1*e0*(j0*j1)=b1*j1*(j0*e0):=by grind
   rw [a1,a2,iE0,iE1] at h3
   grind
theorem aVc {n:Nat}:qb n 0=0:=by
 unfold qb
 rw [qJ]
 have:((2*((0:Nat):Int)*n:Int):Rat)=0:=by
   have:(2*((0:Nat):Int)*(n:Int))=0:=by simp
   rw [this];rfl
 rw [this];grind
theorem aRz {n:Nat} (h:0 < n):qb n n=1:=by
 unfold qb
 have e:(2*(n:Int)*n)=(n:Int)*n+n*n:=by grind
 rw [e,qJ]
 have hn0:(0:Int) < n:=by omega
 have sqn:0 < (n:Int)*n:=Int.mul_pos hn0 hn0
 have:=odm (rcast_pos (a:=(n:Int)*n+n*n) (by omega))
 grind
def zn (k:Nat):Int :=
 let n:Int:=400
 let B0:=2*(k:Int)*n
 let E0:=n*n+k*k
 let B1:=2*((k:Int)+1)*n
 let E1:=n*n+((k:Int)+1)*((k:Int)+1)
 let S:=2*(2*(k:Int)+1)*(2*n)
 let D:=2*n*(2*n)+(2*(k:Int)+1)*(2*(k:Int)+1)
 (B1*E0 - B0*E1)*((D*E0 - S*B0)*E1+(D*E1 - S*B1)*E0)
def zd (k:Nat):Int :=
 let n:Int:=400
 let E0:=n*n+k*k
 let E1:=n*n+((k:Int)+1)*((k:Int)+1)
 let C:=2*n*(2*n) - (2*(k:Int)+1)*(2*(k:Int)+1)
 2*(E0*E1*(E0*E1))*C
def zk (k:Nat):Int:=zn k*1000000000000 / zd k+1
def aLk:Nat→Int
 | 0=>0
 | n+1=>aLk n+zk n
theorem aR0:aLk 400≤785399400000:=by decide +kernel
theorem aR1 {B0 E0 B1 E1 S C D i0 i1 iD iC:Rat} (h0:i0*E0=1)(h1:i1*E1=1)(hD:iD*D=1)(hC:iC*C=1) :
   (B1*i1 - B0*i0)*((1 - S*iD*(B0*i0))*(D*iC)+(1 - S*iD*(B1*i1))*(D*iC)) / 2=((B1*E0 - B0*E1)*((D*E0 - S*B0)*E1+(D*E1 - S*B1)*E0))*(i0*i1*(i0*i1)*iC / 2):=by
 have a1:(B1*E0 - B0*E1)*(i0*i1)=B1*i1 - B0*i0:=by
   have:(B1*E0 - B0*E1)*(i0*i1)=B1*i1*(i0*E0) - B0*i0*(i1*E1):=by grind
   rw [this,h0,h1];grind
 have a2:((D*E0 - S*B0)*E1+(D*E1 - S*B1)*E0)*(i0*i1)=(D - S*B0*i0)+(D - S*B1*i1):=by
   have:((D*E0 - S*B0)*E1+(D*E1 - S*B1)*E0)*(i0*i1)=(D*(i0*E0) - S*B0*i0)*(i1*E1)+(D*(i1*E1) - S*B1*i1)*(i0*E0):=by grind
   rw [this,h0,h1];grind
 have a3:(1 - S*iD*(B0*i0))*(D*iC)=(D - S*B0*i0)*iC:=by
   have:(1 - S*iD*(B0*i0))*(D*iC)=(D - S*(iD*D)*(B0*i0))*iC:=by grind
   rw [this,hD];grind
 have a4:(1 - S*iD*(B1*i1))*(D*iC)=(D - S*B1*i1)*iC:=by
   have:(1 - S*iD*(B1*i1))*(D*iC)=(D - S*(iD*D)*(B1*i1))*iC:=by grind
   rw [this,hD];grind
 have a5:((B1*E0 - B0*E1)*((D*E0 - S*B0)*E1+(D*E1 - S*B1)*E0))*(i0*i1*(i0*i1)*iC / 2)=((B1*E0 - B0*E1)*(i0*i1))*(((D*E0 - S*B0)*E1+(D*E1 - S*B1)*E0)*(i0*i1))*iC / 2:=by grind
 rw [a5,a1,a2,a3,a4]
 grind
theorem aAy {a b:Rat} (h:0 < a)(hb:b*a=1):1 / a=b:=by
 have h1:=odm h
 have:(1 / a)*a*b=b*a*(1 / a):=by grind
 rw [h1,hb] at this
 grind
theorem aYf {x c d:Rat} (hc:0 < c)(hd:0 < d):x / (c / d)=x*(d*(1 / c)):=by
 have h1:=odm hc
 have h2:=odm hd
 have i1:0 < 1 / d:=by rw [Rat.div_def];have:=Rat.inv_pos.mpr hd;grind
 have h3:0 < c*(1 / d):=Rat.mul_pos hc i1
 rw [qJ x,qJ c,aAy h3 (b:=d*(1 / c)) (by
   have:d*(1 / c)*(c*(1 / d))=(1 / c*c)*(1 / d*d):=by grind
   rw [this,h1,h2];grind)]
theorem aYg {p q c:Rat} (hp:0 < p)(hq:0 < q)(hc:0 < c):1 / p*(1 / q)*(1 / p*(1 / q))*(1 / c) / 2=1 / (2*(p*q*(p*q))*c):=by
 have h1:=odm hp
 have h2:=odm hq
 have h3:=odm hc
 have h4:0 < 2*(p*q*(p*q))*c:=Rat.mul_pos (Rat.mul_pos (by decide) (Rat.mul_pos (Rat.mul_pos hp hq) (Rat.mul_pos hp hq))) hc
 refine(aAy h4 ?_).symm
 have:1 / p*(1 / q)*(1 / p*(1 / q))*(1 / c) / 2*(2*(p*q*(p*q))*c)=(1 / p*p)*(1 / q*q)*((1 / p*p)*(1 / q*q))*(1 / c*c):=by grind
 rw [this,h1,h2,h3];grind
theorem aZ3 {k:Nat} (hk:k < 400):ar (qs 400 k) (qc 400 k) (qb 400 k) (qb 400 (k+1))≤((zk k:Int):Rat)*(1 / 1000000000000):=by
 have sqk:=sq_int_nonneg (k:Int)
 have sqk1:=sq_int_nonneg ((k:Int)+1)
 have hC:(0:Int) < 2*400*(2*400) - (2*(k:Int)+1)*(2*(k:Int)+1):=by
   have:=Int.mul_self_lt_mul_self (a:=2*(k:Int)+1) (b:=800) (by omega) (by omega)
   omega
 have hD:(0:Int) < 2*400*(2*400)+(2*(k:Int)+1)*(2*(k:Int)+1):=by
   have:=sq_int_nonneg (2*(k:Int)+1);omega
 have hE0:(0:Int) < 400*400+(k:Int)*k:=by omega
 have hE1:(0:Int) < 400*400+((k:Int)+1)*((k:Int)+1):=by omega
 have hE1':((400:Nat):Int)*(400:Nat)+((k+1:Nat):Int)*(k+1:Nat)=400*400+((k:Int)+1)*((k:Int)+1):=by
   have:((k+1:Nat):Int)=(k:Int)+1:=by omega
   rw [this];rfl
 have hB1':2*((k+1:Nat):Int)*(400:Nat)=2*((k:Int)+1)*400:=by
   have:((k+1:Nat):Int)=(k:Int)+1:=by omega
   rw [this];rfl
 have zdp:0 < zd k:=by
   unfold zd
   exact Int.mul_pos (Int.mul_pos (by decide) (Int.mul_pos (Int.mul_pos hE0 hE1) (Int.mul_pos hE0 hE1))) hC
 have e1:ar (qs 400 k) (qc 400 k) (qb 400 k) (qb 400 (k+1))=((zn k:Int):Rat)*(1 / ((zd k:Int):Rat)):=by
   unfold ar qs qc qb
   have f:=aR1 (B0:=((2*(k:Int)*400:Int):Rat)) (B1:=((2*((k:Int)+1)*400:Int):Rat)) (S:=((2*(2*(k:Int)+1)*(2*400):Int):Rat)) (odm (rcast_pos hE0)) (odm (rcast_pos hE1)) (odm (rcast_pos hD)) (odm (rcast_pos hC))
   have g0:((2*(k:Int)*((400:Nat):Int):Int):Rat) / ((((400:Nat):Int)*((400:Nat):Int)+(k:Int)*(k:Int):Int):Rat)=((2*(k:Int)*400:Int):Rat)*(1 / ((400*400+(k:Int)*k:Int):Rat)):=qJ _ _
   have g1:((2*((k+1:Nat):Int)*((400:Nat):Int):Int):Rat) / ((((400:Nat):Int)*((400:Nat):Int)+((k+1:Nat):Int)*((k+1:Nat):Int):Int):Rat)=((2*((k:Int)+1)*400:Int):Rat)*(1 / ((400*400+((k:Int)+1)*((k:Int)+1):Int):Rat)):=by
     rw [hE1',hB1'];exact qJ _ _
   have g2:((2*(2*(k:Int)+1)*(2*((400:Nat):Int)):Int):Rat) / ((2*((400:Nat):Int)*(2*((400:Nat):Int))+(2*(k:Int)+1)*(2*(k:Int)+1):Int):Rat)=((2*(2*(k:Int)+1)*(2*400):Int):Rat)*(1 / ((2*400*(2*400)+(2*(k:Int)+1)*(2*(k:Int)+1):Int):Rat)):=qJ _ _
   have g3:∀x:Rat,x / (((2*((400:Nat):Int)*(2*((400:Nat):Int)) - (2*(k:Int)+1)*(2*(k:Int)+1):Int):Rat) / ((2*((400:Nat):Int)*(2*((400:Nat):Int))+(2*(k:Int)+1)*(2*(k:Int)+1):Int):Rat))=x*(((2*400*(2*400)+(2*(k:Int)+1)*(2*(k:Int)+1):Int):Rat)*(1 / ((2*400*(2*400) - (2*(k:Int)+1)*(2*(k:Int)+1):Int):Rat))):=by
     intro x
     have n1:=rcast_pos hC
     have n2:=rcast_pos hD
     have e4:((400:Nat):Int)=400:=rfl
     rw [e4]
     generalize ((2*400*(2*400) - (2*(k:Int)+1)*(2*(k:Int)+1):Int):Rat)=c at *
     generalize ((2*400*(2*400)+(2*(k:Int)+1)*(2*(k:Int)+1):Int):Rat)=d at *
     exact aYf n1 n2
   rw [g0,g1,g2,g3,g3,f]
   have zk1:((zn k:Int):Rat)=((((2*((k:Int)+1)*400:Int):Rat)*((400*400+(k:Int)*k:Int):Rat) - ((2*(k:Int)*400:Int):Rat)*((400*400+((k:Int)+1)*((k:Int)+1):Int):Rat))*((((2*400*(2*400)+(2*(k:Int)+1)*(2*(k:Int)+1):Int):Rat)*((400*400+(k:Int)*k:Int):Rat) - ((2*(2*(k:Int)+1)*(2*400):Int):Rat)*((2*(k:Int)*400:Int):Rat))*((400*400+((k:Int)+1)*((k:Int)+1):Int):Rat)+(((2*400*(2*400)+(2*(k:Int)+1)*(2*(k:Int)+1):Int):Rat)*((400*400+((k:Int)+1)*((k:Int)+1):Int):Rat) - ((2*(2*(k:Int)+1)*(2*400):Int):Rat)*((2*((k:Int)+1)*400:Int):Rat))*((400*400+(k:Int)*k:Int):Rat))):=by
     unfold zn
     simp only [Rat.intCast_mul,Rat.intCast_add,Rat.intCast_sub]
   have zk2:((zd k:Int):Rat)=2*(((400*400+(k:Int)*k:Int):Rat)*((400*400+((k:Int)+1)*((k:Int)+1):Int):Rat)*(((400*400+(k:Int)*k:Int):Rat)*((400*400+((k:Int)+1)*((k:Int)+1):Int):Rat)))*((2*400*(2*400) - (2*(k:Int)+1)*(2*(k:Int)+1):Int):Rat):=by
     unfold zd
     simp only [Rat.intCast_mul,Rat.intCast_add,Rat.intCast_sub]
     rfl
   rw [zk1,zk2]
   have n1:=rcast_pos hC
   have n3:=rcast_pos hE0
   have n4:=rcast_pos hE1
   clear f g0 g1 g2 g3 zk1 zk2
   generalize ((2*400*(2*400) - (2*(k:Int)+1)*(2*(k:Int)+1):Int):Rat)=c at *
   generalize ((400*400+(k:Int)*k:Int):Rat)=p at *
   generalize ((400*400+((k:Int)+1)*((k:Int)+1):Int):Rat)=q at *
   have:1 / p*(1 / q)*(1 / p*(1 / q))*(1 / c) / 2=1 / (2*(p*q*(p*q))*c):=aYg n3 n4 n1
   rw [this]
 have e2:zn k*1000000000000≤zk k*zd k:=by
   unfold zk
   have:=Int.lt_mul_ediv_self_add (x:=zn k*1000000000000) zdp
   rw [Int.add_mul]
   have e:zn k*1000000000000 / zd k*zd k=zd k*(zn k*1000000000000 / zd k):=Int.mul_comm ..
   rw [e];omega
 have e3:=rcast_le e2
 rw [rcast_mul,rcast_mul] at e3
 have zr:=rcast_pos zdp
 have iz:=odm zr
 have iz0:=inv_nn (Rat.le_of_lt zr)
 rw [e1]
 generalize 1 / ((zd k:Int):Rat)=j at *
 have e4:=rmul_le e3 iz0
 have e5:((zk k:Int):Rat)*((zd k:Int):Rat)*j=((zk k:Int):Rat)*(j*((zd k:Int):Rat)):=by grind
 rw [e5,iz] at e4
 have e6:((1000000000000:Int):Rat)=1000000000000:=rfl
 rw [e6] at e4
 have e7:(1000000000000:Rat)*(1 / 1000000000000)=1:=by decide +kernel
 have e8:=rmul_le e4 (c:=1 / 1000000000000) (by decide +kernel)
 have e9:((zn k:Int):Rat)*1000000000000*j*(1 / 1000000000000)=((zn k:Int):Rat)*j*(1000000000000*(1 / 1000000000000)):=by grind
 rw [e9,e7] at e8
 grind
theorem aVd:Ph 400 1 - Ph 400 0≤7853994 / 10000000:=by
 have h0:Ph 400 0=0:=by
   unfold Ph
   have:sm 400 (fun k=>ar (qs 400 k) (qc 400 k) (qb 400 k) (cl (qb 400 k) (qb 400 (k+1)) 0))=sm 400 (fun _=>0):=by
     refine bL (fun k hk=>?_)
     have:=(vU (n:=400) (k:=k) hk).b0
     have c:cl (qb 400 k) (qb 400 (k+1)) 0=qb 400 k:=by unfold cl;grind
     rw [c];unfold ar;grind
   rw [this,xV]
 have h1:Ph 400 1≤((aLk 400:Int):Rat)*(1 / 1000000000000):=by
   unfold Ph
   have:∀n,n≤400→sm n (fun k=>ar (qs 400 k) (qc 400 k) (qb 400 k) (cl (qb 400 k) (qb 400 (k+1)) 1))≤((aLk n:Int):Rat)*(1 / 1000000000000):=by
     intro n
     induction n with
     | zero=>intro _;simp only [sm,aLk];decide +kernel
     | succ n ih =>
       intro hn
       rw [sm,aLk,rcast_add]
       have a1:=ih (by omega)
       have b1:∀m,m≤400→qb 400 m≤1:=by
         intro m hm
         have:∀d,m+d≤400→qb 400 m≤qb 400 (m+d):=by
           intro d
           induction d with
           | zero=>intro _;exact Rat.le_refl
           | succ d ih=>intro hd;exact Rat.le_trans (ih (by omega)) (vU (by omega)).bb
         have:=this (400 - m) (by omega)
         rw [show m+(400 - m)=400 by omega,aRz (by decide)] at this
         exact this
       have b2:=b1 (n+1) (by omega)
       have b3:=(vU (n:=400) (k:=n) (by omega)).bb
       have c:cl (qb 400 n) (qb 400 (n+1)) 1=qb 400 (n+1):=by unfold cl;grind
       rw [c]
       have a2:=aZ3 (k:=n) (by omega)
       grind
   exact this 400 (Nat.le_refl _)
 have h2:=rmul_le (rcast_le aR0) (c:=1 / 1000000000000) (by decide +kernel)
 have h3:((785399400000:Int):Rat)*(1 / 1000000000000)=7853994 / 10000000:=by decide +kernel
 rw [h3] at h2
 rw [h0];grind
open Classical in
noncomputable def ind (p:Prop):Rat:=if p then 1 else 0
theorem aEl (p:Prop):0≤ind p:=by unfold ind;split<;>decide
theorem aAz {p:Prop} (h:p):ind p=1:=by unfold ind;rw [if_pos h]
theorem aGd {p:Prop} (h:¬p):ind p=0:=by unfold ind;rw [if_neg h]
theorem aEm (P:Nat→Prop):∀m:Nat,(sm m (fun i=>ind (P i))=0∧∀i,i < m→¬P i)∨∃a b:Nat,a≤b∧b < m∧P a∧P b∧sm m (fun i=>ind (P i))≤((b:Int):Rat) - ((a:Int):Rat)+1
 | 0=>.inl ⟨rfl,fun i hi=>absurd hi (nM _)⟩
 | m+1=>by
   rcases aEm P m with⟨h1,h2⟩ | ⟨a,b,h1,h2,h3,h4,h5⟩
   · by_cases c:P m
     · right
       refine⟨m,m,Nat.le_refl _,by omega,c,c,?_⟩
       rw [sm,h1,aAz c];grind
     · left
       refine⟨by rw [sm,h1,aGd c];grind,fun i hi=>?_⟩
       by_cases e:i=m
       · rw [e];exact c
       · exact h2 i (by omega)
   · right
     by_cases c:P m
     · refine⟨a,m,by omega,by omega,h3,c,?_⟩
       rw [sm,aAz c]
       have:((b:Int):Rat)+1≤((m:Int):Rat):=by
         have:=rcast_le (show(b:Int)+1≤(m:Int) by omega)
         rw [rcast_add] at this
         exact this
       grind
     · refine⟨a,b,h1,by omega,h3,h4,?_⟩
       rw [sm,aGd c];grind
theorem aGe (x0 R:Rat)(hR:0≤R)(M:Nat):sm M (fun j=>ind (((j:Int):Rat) - x0≤R∧-R≤((j:Int):Rat) - x0))≤2*R+1:=by
 rcases aEm (fun j=>((j:Int):Rat) - x0≤R∧-R≤((j:Int):Rat) - x0) M with⟨h,_⟩ | ⟨a,b,_,_,h3,h4,h5⟩
 · rw [h];grind
 · grind
def Pc (y:Rat):Rat:=Ph 400 (cl 0 1 y)
theorem pR {x y:Rat} (h:x≤y):Pc x≤Pc y:=by
 have m1:=aEk (a:=0) (b:=1) (y:=x) (by decide)
 have m2:=aEk (a:=0) (b:=1) (y:=y) (by decide)
 have m3:=aJ4 (a:=0) (b:=1) (by decide) h
 have:=aOy (n:=400) (fun k hk=>vU hk) aVc (aRz (by decide)) (g:=0) m1.1 m3 m2.2 (by decide) (by
   have:cl 0 1 y*cl 0 1 y≤1*1:=by
     have a1:=rmul_le m2.2 m2.1
     have a2:=rmul_le' m2.2 (show(0:Rat)≤1 by decide)
     grind
   grind)
 unfold Pc;grind
def aJ5 (a b:Rat):Rat:=if a≤b then b else a
def aJ6 (a b:Rat):Rat:=if a≤b then a else b
theorem aOz (x y:Rat):Pc x - Pc y≤7853994 / 10000000:=by
 have h1:Pc x≤Ph 400 1:=by
   have:=pR (x:=x) (y:=aJ5 x 1) (by unfold aJ5;grind)
   have e:Pc (aJ5 x 1)=Ph 400 1:=by unfold Pc cl aJ5;grind
   rwa [e] at this
 have h2:Ph 400 0≤Pc y:=by
   have:=pR (x:=aJ6 y 0) (y:=y) (by unfold aJ6;grind)
   have e:Pc (aJ6 y 0)=Ph 400 0:=by unfold Pc cl aJ6;grind
   rwa [e] at this
 have:=aVd
 grind
theorem aO0 (f:Int→Rat):∀M:Nat,sm M (fun j=>f (j:Int) - f ((j:Int) - 1))=f ((M:Int) - 1) - f (-1)
 | 0=>by simp only [sm];rw [show((0:Nat):Int) - 1=-1 by omega];grind
 | M+1=>by
   rw [sm,aO0 f M,show((M+1:Nat):Int) - 1=(M:Int) by omega];grind
theorem aJ7 (f:Int→Rat):∀M:Nat,sm M (fun j=>f (j:Int) - f ((j:Int)+1))=f 0 - f (M:Int)
 | 0=>by simp only [sm];rw [show((0:Nat):Int)=0 by omega];grind
 | M+1=>by
   rw [sm,aJ7 f M,show((M+1:Nat):Int)=(M:Int)+1 by omega];grind
theorem aYh {d y g:Rat} (hd:0 < d)(hg:0≤g)(hgy:g*g+y*y≤1):d*g≤(Pc y - Pc (y - d))+(Pc (-y) - Pc (-y - d))+d*ind (y≤d∧-d≤y):=by
 have g1:g≤1:=cO (by decide) (by have:=sq_nonneg y;grind)
 have y1:y≤1:=cO (by decide) (by have:=sq_nonneg g;grind)
 have y2:-y≤1:=cO (by decide) (by have:=sq_nonneg g;grind)
 have p1:=pR (x:=y - d) (y:=y) (by grind)
 have p2:=pR (x:=-y - d) (y:=-y) (by grind)
 by_cases c:y≤d∧-d≤y
 · rw [aAz c]
   have:=rmul_le' g1 (Rat.le_of_lt hd)
   grind
 · rw [aGd c]
   by_cases c1:d < y
   · have:=aOy (n:=400) (fun k hk=>vU hk) aVc (aRz (by decide)) (x:=y - d) (y:=y) (g:=g) (by grind) (by grind) y1 hg hgy
     have e1:Pc y=Ph 400 y:=by unfold Pc cl;grind
     have e2:Pc (y - d)=Ph 400 (y - d):=by unfold Pc cl;grind
     rw [e1,e2]
     grind
   · have c2:d < -y:=by grind
     have hgy2:g*g+(-y)*(-y)≤1:=by grind
     have:=aOy (n:=400) (fun k hk=>vU hk) aVc (aRz (by decide)) (x:=-y - d) (y:=-y) (g:=g) (by grind) (by grind) y2 hg hgy2
     have e1:Pc (-y)=Ph 400 (-y):=by unfold Pc cl;grind
     have e2:Pc (-y - d)=Ph 400 (-y - d):=by unfold Pc cl;grind
     rw [e1,e2]
     grind
theorem aO1 {d x0 k:Rat} (hd:0 < d)(hk:0≤k) {M:Nat} {cnt:Nat→Rat}
   (h:∀j,j < M→cnt j≤0∨∃g,0≤g∧cnt j≤1+k*g∧g*g+(d*(((j:Int):Rat) - x0))*(d*(((j:Int):Rat) - x0))≤1) :
   sm M cnt≤(2*(1 / d)+1)+k*((1 / d)*(2*(7853994 / 10000000))+3):=by
 have id1:=odm hd
 have id0:=inv_nn (Rat.le_of_lt hd)
 have pt:∀j,j < M→cnt j≤ind (((j:Int):Rat) - x0≤1 / d∧-(1 / d)≤((j:Int):Rat) - x0)+(k*(1 / d))*(((fun z:Int=>Pc (d*((z:Rat) - x0))) (j:Int) - (fun z:Int=>Pc (d*((z:Rat) - x0))) ((j:Int) - 1))+((fun z:Int=>Pc (-(d*((z:Rat) - x0)))) (j:Int) - (fun z:Int=>Pc (-(d*((z:Rat) - x0)))) ((j:Int)+1)))+k*ind (((j:Int):Rat) - x0≤1∧-1≤((j:Int):Rat) - x0):=by
   intro j hj
   have e1:d*((((j:Int) - 1:Int):Rat) - x0)=d*(((j:Int):Rat) - x0) - d:=by
     have:(((j:Int) - 1:Int):Rat)=((j:Int):Rat) - 1:=Rat.intCast_sub _ _
     rw [this];grind
   have e2:-(d*((((j:Int)+1:Int):Rat) - x0))=-(d*(((j:Int):Rat) - x0)) - d:=by
     have:(((j:Int)+1:Int):Rat)=((j:Int):Rat)+1:=Rat.intCast_add _ _
     rw [this];grind
   simp only [e1,e2]
   have p1:=pR (x:=d*(((j:Int):Rat) - x0) - d) (y:=d*(((j:Int):Rat) - x0)) (by grind)
   have p2:=pR (x:=-(d*(((j:Int):Rat) - x0)) - d) (y:=-(d*(((j:Int):Rat) - x0))) (by grind)
   have i1:=aEl (((j:Int):Rat) - x0≤1 / d∧-(1 / d)≤((j:Int):Rat) - x0)
   have i2:=aEl (((j:Int):Rat) - x0≤1∧-1≤((j:Int):Rat) - x0)
   rcases h j hj with h0 | ⟨g,h1,h2,h3⟩
   · have qk1:=Rat.mul_nonneg (Rat.mul_nonneg hk id0) (show 0≤(Pc (d*(((j:Int):Rat) - x0)) - Pc (d*(((j:Int):Rat) - x0) - d))+(Pc (-(d*(((j:Int):Rat) - x0))) - Pc (-(d*(((j:Int):Rat) - x0)) - d)) by grind)
     have qk2:=Rat.mul_nonneg hk i2
     grind
   · have rg:=aYh hd h1 h3
     have y1:d*(((j:Int):Rat) - x0)≤1:=cO (by decide) (by have:=sq_nonneg g;grind)
     have y2:-(d*(((j:Int):Rat) - x0))≤1:=cO (by decide) (by have:=sq_nonneg g;grind)
     generalize hz:((j:Int):Rat) - x0=z at *
     have c1:z≤1 / d∧-(1 / d)≤z:=by
       have a1:=rmul_le y1 id0
       have a2:=rmul_le y2 id0
       have b1:d*z*(1 / d)=z:=by
         have:d*z*(1 / d)=(1 / d*d)*z:=by grind
         rw [this,id1];grind
       have b2:-(d*z)*(1 / d)=-z:=by
         have:-(d*z)*(1 / d)=-((1 / d*d)*z):=by grind
         rw [this,id1];grind
       rw [b1] at a1
       rw [b2] at a2
       grind
     rw [aAz c1]
     have e3:ind (d*z≤d∧-d≤d*z)≤ind (z≤1∧-1≤z):=by
       by_cases c2:d*z≤d∧-d≤d*z
       · have c3:z≤1∧-1≤z:=by
           have a1:=rmul_le c2.1 id0
           have a2:=rmul_le c2.2 id0
           have b1:d*z*(1 / d)=z:=by
             have:d*z*(1 / d)=(1 / d*d)*z:=by grind
             rw [this,id1];grind
           rw [b1] at a1 a2
           grind
         rw [aAz c2,aAz c3];exact Rat.le_refl
       · rw [aGd c2];exact aEl _
     have a1:=rmul_le' rg (Rat.mul_nonneg hk id0)
     have b1:k*(1 / d)*(d*g)=k*g:=by
       have:k*(1 / d)*(d*g)=k*(1 / d*d)*g:=by grind
       rw [this,id1];grind
     rw [b1] at a1
     have a2:=rmul_le' e3 hk
     have b2:k*(1 / d)*(d*ind (d*z≤d∧-d≤d*z))=k*ind (d*z≤d∧-d≤d*z):=by
       have:k*(1 / d)*(d*ind (d*z≤d∧-d≤d*z))=k*(1 / d*d)*ind (d*z≤d∧-d≤d*z):=by grind
       rw [this,id1];grind
     have b3:k*(1 / d)*(Pc (d*z) - Pc (d*z - d)+(Pc (-(d*z)) - Pc (-(d*z) - d))+d*ind (d*z≤d∧-d≤d*z))=k*(1 / d)*(Pc (d*z) - Pc (d*z - d)+(Pc (-(d*z)) - Pc (-(d*z) - d)))+k*(1 / d)*(d*ind (d*z≤d∧-d≤d*z)):=by grind
     rw [b3,b2] at a1
     grind
 refine Rat.le_trans (lT pt) ?_
 rw [lA,lA,cW,cW,lA]
 have t1:sm M (fun j=>(fun z:Int=>Pc (d*((z:Rat) - x0))) (j:Int) - (fun z:Int=>Pc (d*((z:Rat) - x0))) ((j:Int) - 1))=_:=aO0 (fun z:Int=>Pc (d*((z:Rat) - x0))) M
 have t2:sm M (fun j=>(fun z:Int=>Pc (-(d*((z:Rat) - x0)))) (j:Int) - (fun z:Int=>Pc (-(d*((z:Rat) - x0)))) ((j:Int)+1))=_:=aJ7 (fun z:Int=>Pc (-(d*((z:Rat) - x0)))) M
 rw [t1,t2]
 have n1:=aGe x0 (1 / d) id0 M
 have n2:=aGe x0 1 (by decide) M
 have r1:=aOz (d*((((M:Int) - 1:Int):Rat) - x0)) (d*((((-1:Int):Int):Rat) - x0))
 have r2:=aOz (-(d*((((0:Int):Int):Rat) - x0))) (-(d*((((M:Int):Int):Rat) - x0)))
 have m1:=rmul_le' (show(Pc (d*((((M:Int) - 1:Int):Rat) - x0)) - Pc (d*((((-1:Int):Int):Rat) - x0)))+(Pc (-(d*((((0:Int):Int):Rat) - x0))) - Pc (-(d*((((M:Int):Int):Rat) - x0))))≤2*(7853994 / 10000000) by grind) (Rat.mul_nonneg hk id0)
 have m2:=rmul_le' n2 hk
 have e:k*(1 / d*(2*(7853994 / 10000000))+3)=k*(1 / d)*(2*(7853994 / 10000000))+k*(2*1+1):=by grind
 rw [e]
 grind
def dt (p q:V3):Int:=p.1*q.1+p.2.1*q.2.1+p.2.2*q.2.2
def cr (p q:V3):V3:=(p.2.1*q.2.2 - p.2.2*q.2.1,p.2.2*q.1 - p.1*q.2.2,p.1*q.2.1 - p.2.1*q.1)
def pt (A u w:V3)(M:Nat)(i j:Nat):V3:=(M*A.1+i*u.1+j*w.1,M*A.2.1+i*u.2.1+j*w.2.1,M*A.2.2+i*u.2.2+j*w.2.2)
theorem fl (x:Rat)(h:0≤x):∃s:Nat,(s:Rat)≤x∧x < (s:Rat)+1:=by
 have h1:=Rat.floor_le x
 have h2:=Rat.lt_floor_add_one x
 have h3:0≤x.floor:=Rat.le_floor_iff.mpr h
 refine⟨toNat x.floor,?_,?_⟩
 · have e:((toNat x.floor:Nat):Rat)=((x.floor:Int):Rat):=by
     rw [←aYe,Int.toNat_of_nonneg h3]
   rw [e];exact h1
 · have e:((toNat x.floor:Nat):Rat)=((x.floor:Int):Rat):=by
     rw [←aYe,Int.toNat_of_nonneg h3]
   rw [e]
   rw [rcast_add] at h2
   exact h2
theorem aR2 (E:Int)(hE:0 < E):∃e:Rat,0 < e∧(E:Rat)≤e*e∧e*e≤(E:Rat)*(1+1 / 1000000):=by
 obtain⟨k,h1,h2⟩:=isq (toNat E*100000000000000) 1 (by decide)
 have hk:(k:Int)*k≤E*100000000000000:=by
   have:=Int.ofNat_le.mpr h1
   rw [Int.natCast_mul,Int.natCast_mul,Int.natCast_mul,Int.toNat_of_nonneg (by omega)] at this
   have e1:((1:Nat):Int)=1:=rfl
   have e2:((100000000000000:Nat):Int)=100000000000000:=rfl
   rw [e1,e2] at this
   omega
 have hk2:E*100000000000000≤((k:Int)+1)*((k:Int)+1):=by
   have:=Int.ofNat_lt.mpr h2
   rw [Int.natCast_mul,Int.natCast_mul,Int.natCast_mul,Int.toNat_of_nonneg (by omega)] at this
   have e1:((1:Nat):Int)=1:=rfl
   have e2:((100000000000000:Nat):Int)=100000000000000:=rfl
   have e3:((k+1:Nat):Int)=(k:Int)+1:=by omega
   rw [e1,e2,e3] at this
   omega
 have hkE:(k:Int)≤10000000*E:=by
   rcases Int.le_total (k:Int) (10000000*E) with c | c
   · exact c
   · rcases Int.lt_or_le (10000000*E) (k:Int) with d | d
     · have a1:=Int.mul_self_lt_mul_self (a:=10000000*E) (b:=(k:Int)) (by omega) d
       have a2:10000000*E*(10000000*E)=100000000000000*(E*E):=by grind
       have a3:E*1≤E*E:=Int.mul_le_mul_of_nonneg_left (by omega) (by omega)
       omega
     · exact d
 have r1:=rcast_le hk
 have r2:=rcast_le hk2
 have r3:=rcast_le hkE
 have rE:=rcast_le (show 1≤E by omega)
 simp only [Rat.intCast_mul,Rat.intCast_add] at r1 r2 r3
 have c1:((100000000000000:Int):Rat)=100000000000000:=rfl
 have c2:((10000000:Int):Rat)=10000000:=rfl
 have c3:((1:Int):Rat)=1:=rfl
 rw [c1] at r1
 rw [c1,c3] at r2
 rw [c2] at r3
 rw [c3] at rE
 have k0:(0:Rat)≤((k:Int):Rat):=rcast_le (a:=0) (by omega)
 generalize ((k:Int):Rat)=x at *
 generalize ((E:Int):Rat)=y at *
 refine⟨(x+1) / 10000000,by grind,?_,?_⟩
 · have:(x+1) / 10000000*((x+1) / 10000000)=(x+1)*(x+1) / 100000000000000:=by grind
   rw [this];grind
 · have:(x+1) / 10000000*((x+1) / 10000000)=(x*x+2*x+1) / 100000000000000:=by grind
   rw [this];grind
theorem lagrC (v u:V3):nsq u*nsq v=dt v u*dt v u+nsq (cr v u):=by
 simp only [nsq,dt,cr];grind
theorem lagr' (v u:V3):dt v u*dt v u≤nsq u*nsq v:=by
 have:=lagrC v u
 have:=nsq_nonneg (cr v u)
 omega
theorem aO2 {A u w x:V3} {r M k:Nat} (hr:(r:Int)*r≤nsq (cr u w))(hr0:0 < r):∃c0 x0:Rat,∀i j:Nat,nsq (vs x (pt A u w M i j))≤(k:Int)*k →
   (((nsq u:Int):Rat)*((i:Int):Rat)+((dt u w:Int):Rat)*((j:Int):Rat) - c0)*(((nsq u:Int):Rat)*((i:Int):Rat)+((dt u w:Int):Rat)*((j:Int):Rat) - c0)+((r:Int):Rat)*(((j:Int):Rat) - x0)*(((r:Int):Rat)*(((j:Int):Rat) - x0))≤((nsq u:Int):Rat)*(((k:Int):Rat)*((k:Int):Rat)):=by
 generalize hb:vs x (pt A u w M 0 0)=b
 have al0:0 < nsq (cr u w):=by
   have:(0:Int) < (r:Int)*r:=Int.mul_pos (by omega) (by omega)
   omega
 have hE0:=nsq_nonneg u
 refine⟨((dt b u:Int):Rat),-((dt (cr b u) (cr u w):Int):Rat) / ((nsq (cr u w):Int):Rat),fun i j hv=>?_⟩
 have ev:vs x (pt A u w M i j)=(b.1 - i*u.1 - j*w.1,b.2.1 - i*u.2.1 - j*w.2.1,b.2.2 - i*u.2.2 - j*w.2.2):=by
   rw [←hb]
   simp only [vs,pt,Prod.mk.injEq]
   refine⟨?_,?_,?_⟩<;>grind
 generalize hvv:vs x (pt A u w M i j)=v at *
 have d1:dt v u=dt b u - nsq u*i - dt u w*j:=by
   rw [ev];simp only [dt,nsq];grind
 have d2:dt (cr v u) (cr u w)=dt (cr b u) (cr u w)+j*nsq (cr u w):=by
   rw [ev];simp only [dt,nsq,cr];grind
 have l1:=lagrC v u
 have l2:=lagr' (cr v u) (cr u w)
 have al:=rcast_pos al0
 -- everything as rational numbers
 have R1:((nsq u:Int):Rat)*((nsq v:Int):Rat)=((dt v u:Int):Rat)*((dt v u:Int):Rat)+((nsq (cr v u):Int):Rat):=by
   rw [←rcast_mul,←rcast_mul,←rcast_add,l1]
 have R2:((dt (cr v u) (cr u w):Int):Rat)*((dt (cr v u) (cr u w):Int):Rat)≤((nsq (cr u w):Int):Rat)*((nsq (cr v u):Int):Rat):=by
   rw [←rcast_mul,←rcast_mul];exact rcast_le l2
 have R3:((dt v u:Int):Rat)=((dt b u:Int):Rat) - ((nsq u:Int):Rat)*((i:Int):Rat) - ((dt u w:Int):Rat)*((j:Int):Rat):=by
   rw [d1];simp only [Rat.intCast_sub,Rat.intCast_mul]
 have R4:((dt (cr v u) (cr u w):Int):Rat)=((dt (cr b u) (cr u w):Int):Rat)+((j:Int):Rat)*((nsq (cr u w):Int):Rat):=by
   rw [d2];simp only [Rat.intCast_add,Rat.intCast_mul]
 have R5:((r:Int):Rat)*((r:Int):Rat)≤((nsq (cr u w):Int):Rat):=by
   rw [←rcast_mul];exact rcast_le hr
 have R6:((nsq v:Int):Rat)≤((k:Int):Rat)*((k:Int):Rat):=by
   rw [←rcast_mul];exact rcast_le hv
 have R7:(0:Rat)≤((nsq u:Int):Rat):=rcast_le (a:=0) hE0
 clear hv hr al0 hE0 d1 d2 l1 l2 ev hb hvv
 generalize ((nsq u:Int):Rat)=e at *
 generalize ((nsq v:Int):Rat)=nv at *
 generalize ((dt v u:Int):Rat)=dv at *
 generalize ((nsq (cr v u):Int):Rat)=nc at *
 generalize ((dt (cr v u) (cr u w):Int):Rat)=dc at *
 generalize ((nsq (cr u w):Int):Rat)=a at *
 generalize ((dt b u:Int):Rat)=db at *
 generalize ((dt (cr b u) (cr u w):Int):Rat)=dbc at *
 generalize ((dt u w:Int):Rat)=duw at *
 generalize ((i:Int):Rat)=I at *
 generalize ((j:Int):Rat)=J at *
 generalize ((r:Int):Rat)=R at *
 generalize ((k:Int):Rat)=k at *
 have ia:=odm al
 have ia0:=inv_nn (Rat.le_of_lt al)
 rw [qJ (-dbc) a]
 generalize 1 / a=t at *
 have s1:J - -dbc*t=dc*t:=by
   rw [R4]
   have:(dbc+J*a)*t=dbc*t+J*(t*a):=by grind
   rw [this,ia];grind
 rw [s1]
 have s2:R*(dc*t)*(R*(dc*t))≤nc:=by
   have a1:R*(dc*t)*(R*(dc*t))=(R*R)*((dc*t)*(dc*t)):=by grind
   have a2:=rmul_le R5 (sq_nonneg (dc*t))
   have a3:a*((dc*t)*(dc*t))=(dc*dc)*(t*(t*a)):=by grind
   rw [ia] at a3
   have a4:=rmul_le R2 ia0
   have a5:a*nc*t=nc*(t*a):=by grind
   rw [ia] at a5
   grind
 have s3:(e*I+duw*J - db)*(e*I+duw*J - db)=dv*dv:=by rw [R3];grind
 rw [s3]
 have:=rmul_le' R6 R7
 grind
theorem aO3 {A u w:V3} {r:Nat} (hu:0 < nsq u)(hr:(r:Int)*r≤nsq (cr u w))(hr0:0 < r):∃C:Rat,0≤C∧∀(x:V3)(M k:Nat),0 < k →
   sm M (fun j=>sm (M - j) (fun i=>ind (nsq (vs x (pt A u w M i j))≤(k:Int)*k)))≤3217 / 1024*(1 / ((r:Int):Rat))*(((k:Int):Rat)*((k:Int):Rat))+C*((k:Int):Rat):=by
 obtain⟨e,he,he1,he2⟩:=aR2 (nsq u) hu
 have hR:=rcast_pos (a:=(r:Int)) (by omega)
 have hE:=rcast_pos hu
 have iR:=odm hR
 have iR0:=inv_nn (Rat.le_of_lt hR)
 have iE:=odm hE
 have iE0:=inv_nn (Rat.le_of_lt hE)
 refine⟨2*e*(1 / ((r:Int):Rat))+6*e*(1 / ((nsq u:Int):Rat))+1,?_,fun x M k hk=>?_⟩
 · have a1:=Rat.mul_nonneg (show 0≤2*e by grind) iR0
   have a2:=Rat.mul_nonneg (show 0≤6*e by grind) iE0
   grind
 obtain⟨c0,x0,hc⟩:=aO2 (A:=A) (u:=u) (w:=w) (x:=x) (r:=r) (M:=M) (k:=k) hr hr0
 have hk1:(1:Rat)≤((k:Int):Rat):=rcast_le (a:=1) (by omega)
 generalize hE':((nsq u:Int):Rat)=E at *
 generalize hR':((r:Int):Rat)=R at *
 generalize hK':((k:Int):Rat)=q at *
 have hek:0 < e*q:=Rat.mul_pos he (by grind)
 have iq:=odm hek
 have iq0:=inv_nn (Rat.le_of_lt hek)
 have hd:0 < R*(1 / (e*q)):=Rat.mul_pos hR (by rw [Rat.div_def];have:=Rat.inv_pos.mpr hek;grind)
 have main:=aO1 (d:=R*(1 / (e*q))) (x0:=x0) (k:=2*(e*q)*(1 / E)) hd (Rat.mul_nonneg (by grind) iE0) (M:=M) (cnt:=fun j=>sm (M - j) (fun i=>ind (nsq (vs x (pt A u w M i j))≤(k:Int)*k))) (fun j hj=>by
   rcases aEm (fun i=>nsq (vs x (pt A u w M i j))≤(k:Int)*k) (M - j) with⟨h0,_⟩ | ⟨a,b,h1,h2,h3,h4,h5⟩
   · left;rw [h0];exact Rat.le_refl
   · right
     have ca:=hc a j h3
     have cb:=hc b j h4
     have hab:((a:Int):Rat)≤((b:Int):Rat):=rcast_le (by omega)
     refine⟨E*(((b:Int):Rat) - ((a:Int):Rat)) / 2*(1 / (e*q)),?_,?_,?_⟩
     · have:=Rat.mul_nonneg (Rat.mul_nonneg (Rat.le_of_lt hE) (show 0≤((b:Int):Rat) - ((a:Int):Rat) by grind)) iq0
       grind
     · refine Rat.le_trans h5 (jQ ?_)
       have:2*(e*q)*(1 / E)*(E*(((b:Int):Rat) - ((a:Int):Rat)) / 2*(1 / (e*q)))=(1 / E*E)*(1 / (e*q)*(e*q))*(((b:Int):Rat) - ((a:Int):Rat)):=by grind
       rw [this,iE,iq];grind
     · generalize ((a:Int):Rat)=a at *
       generalize ((b:Int):Rat)=b at *
       generalize ((j:Int):Rat)=J at *
       generalize ((dt u w:Int):Rat)=F at *
       have s0:=sq_nonneg ((E*a+F*J - c0)+(E*b+F*J - c0))
       have s1:(E*(b - a) / 2)*(E*(b - a) / 2)+(R*(J - x0))*(R*(J - x0))≤(e*q)*(e*q):=by
         have t1:(E*(b - a))*(E*(b - a))≤2*((E*a+F*J - c0)*(E*a+F*J - c0))+2*((E*b+F*J - c0)*(E*b+F*J - c0)):=by grind
         have t2:E*(q*q)≤(e*q)*(e*q):=by
           have:=rmul_le he1 (sq_nonneg q)
           grind
         generalize (E*a+F*J - c0)*(E*a+F*J - c0)=X at *
         generalize (E*b+F*J - c0)*(E*b+F*J - c0)=Y at *
         grind
       have s2:=rmul_le s1 (c:=(1 / (e*q))*(1 / (e*q))) (sq_nonneg _)
       have s3:(e*q)*(e*q)*((1 / (e*q))*(1 / (e*q)))=(1 / (e*q)*(e*q))*(1 / (e*q)*(e*q)):=by grind
       rw [s3,iq] at s2
       grind)
 refine Rat.le_trans main ?_
 have id:1 / (R*(1 / (e*q)))=(e*q)*(1 / R):=aAy hd (by
   have:e*q*(1 / R)*(R*(1 / (e*q)))=(1 / R*R)*(1 / (e*q)*(e*q)):=by grind
   rw [this,iR,iq];grind)
 rw [id]
 have key:2*(e*q)*(1 / E)*((e*q)*(1 / R)*(2*(7853994 / 10000000)))≤3217 / 1024*(1 / R)*(q*q):=by
   have a1:e*e*(1 / E)≤1+1 / 1000000:=by
     have:=rmul_le he2 iE0
     have a2:E*(1+1 / 1000000)*(1 / E)=(1 / E*E)*(1+1 / 1000000):=by grind
     rw [a2,iE] at this
     grind
   have a2:=rmul_le a1 (c:=4*(7853994 / 10000000)*((1 / R)*(q*q))) (Rat.mul_nonneg (by decide +kernel) (Rat.mul_nonneg iR0 (sq_nonneg q)))
   have a3:(4:Rat)*(7853994 / 10000000)*(1+1 / 1000000)≤3217 / 1024:=by decide +kernel
   have a4:=rmul_le a3 (c:=(1 / R)*(q*q)) (Rat.mul_nonneg iR0 (sq_nonneg q))
   generalize 1 / R=t at *
   generalize 1 / E=s at *
   grind
 have k2:q≤q*q:=by
   have:=rmul_le' hk1 (show 0≤q by grind)
   grind
 generalize 1 / R=t at *
 generalize 1 / E=s at *
 grind
theorem iH (n:Nat):((n+1:Nat):Rat)=(n:Rat)+1:=rcast_add (n:Int) 1
theorem sC (n:Nat):(0:Rat)≤(n:Rat):=rcast_le (a:=0) (b:=(n:Int)) (by omega)
theorem aTa {K:V3→Rat} {e:Rat} (h1:∀p,K p≤1 / 4)(h2:∀p,K p*K p*((nsq p+16:Int):Rat)≤1)(p:V3):∀s:Nat,K p≤1 / ((s:Rat)+1)+sm s (fun l=>1 / ((l:Rat)+1)*(1 / ((l:Rat)+1+1))*ind (nsq p≤((l+2:Nat):Int)*(l+2:Nat)))
 | 0=>by
   simp only [sm]
   have:=h1 p
   have e:1 / (((0:Nat):Rat)+1)=1:=by decide +kernel
   rw [e];grind
 | s+1=>by
   rw [sm]
   have ih:=aTa h1 h2 p s (e:=e)
   have s0:=sC s
   have i1:=odm (r:=(s:Rat)+1) (by grind)
   have i2:=odm (r:=(s:Rat)+1+1) (by grind)
   have j1:=inv_nn (a:=(s:Rat)+1) (by grind)
   have j2:=inv_nn (a:=(s:Rat)+1+1) (by grind)
   have cs:((s+1:Nat):Rat)=(s:Rat)+1:=iH s
   rw [cs]
   have split:1 / ((s:Rat)+1)=1 / ((s:Rat)+1+1)+1 / ((s:Rat)+1)*(1 / ((s:Rat)+1+1)):=by
     generalize 1 / ((s:Rat)+1)=a at *
     generalize 1 / ((s:Rat)+1+1)=b at *
     have:a=a*(b*((s:Rat)+1+1)):=by rw [i2];grind
     have t2:a*(b*((s:Rat)+1+1))=b*(a*((s:Rat)+1))+a*b:=by grind
     rw [this,t2,i1];grind
   have snn:0≤sm s (fun l=>1 / ((l:Rat)+1)*(1 / ((l:Rat)+1+1))*ind (nsq p≤((l+2:Nat):Int)*(l+2:Nat))):=pQ (fun l _=>by
     have l0:=sC l
     exact Rat.mul_nonneg (Rat.mul_nonneg (inv_nn (by grind)) (inv_nn (by grind))) (aEl _))
   by_cases c:nsq p≤((s+2:Nat):Int)*(s+2:Nat)
   · rw [aAz c]
     grind
   · rw [aGd c]
     have k1:K p≤1 / ((s:Rat)+1+1):=by
       have a1:=h2 p
       have a2:((s:Rat)+1+1)*((s:Rat)+1+1)≤((nsq p+16:Int):Rat):=by
         have b1:=rcast_le (show((s+2:Nat):Int)*(s+2:Nat)≤nsq p+16 by omega)
         rw [rcast_mul] at b1
         have b2:(((s+2:Nat):Int):Rat)=(s:Rat)+1+1:=by
           have:=iH (s+1)
           rw [cs] at this
           exact this
         rw [b2] at b1
         exact b1
       have a3:=rmul_le' a2 (sq_nonneg (K p))
       have a4:K p*((s:Rat)+1+1)≤1:=cO (by decide) (by grind)
       have a5:=rmul_le a4 j2
       have a6:K p*((s:Rat)+1+1)*(1 / ((s:Rat)+1+1))=K p*(1 / ((s:Rat)+1+1)*((s:Rat)+1+1)):=by grind
       rw [a6,i2] at a5
       grind
     have:=Rat.mul_nonneg j1 j2
     grind
theorem aZ4 (a:Nat)(ha:0 < a):∀s:Nat,sm s (fun l=>1 / ((l:Rat)+1))≤(a:Rat)+(s:Rat)*(1 / (a:Rat)):=by
 have a1:(1:Rat)≤(a:Rat):=rcast_le (a:=1) (b:=(a:Int)) (by omega)
 have ja:=inv_nn (a:=(a:Rat)) (by grind)
 have key:∀s:Nat,sm s (fun l=>1 / ((l:Rat)+1))≤(if s≤a then(s:Rat) else(a:Rat))+(s:Rat)*(1 / (a:Rat)):=by
   intro s
   induction s with
   | zero =>
     simp only [sm]
     have e:((0:Nat):Rat)=0:=rfl
     rw [if_pos (Nat.zero_le _),e];grind
   | succ s ih =>
     rw [sm]
     have s0:=sC s
     have t0:=inv_nn (a:=(s:Rat)+1) (by grind)
     have t1:=odm (r:=(s:Rat)+1) (by grind)
     by_cases c:s+1≤a
     · rw [if_pos c,iH]
       rw [if_pos (by omega)] at ih
       have t2:1 / ((s:Rat)+1)≤1:=by
         have:=rmul_le' (show(1:Rat)≤(s:Rat)+1 by grind) t0
         rw [t1] at this;grind
       grind
     · rw [if_neg c,iH]
       have t3:(a:Rat)≤(s:Rat):=rcast_le (a:=(a:Int)) (b:=(s:Int)) (by omega)
       have t2:1 / ((s:Rat)+1)≤1 / (a:Rat):=by
         have u1:=odm (r:=(a:Rat)) (by grind)
         have u2:=rmul_le' (show(a:Rat)≤(s:Rat)+1 by grind) (Rat.mul_nonneg ja t0)
         have u3:1 / (a:Rat)*(1 / ((s:Rat)+1))*(a:Rat)=(1 / (a:Rat)*(a:Rat))*(1 / ((s:Rat)+1)):=by grind
         have u4:1 / (a:Rat)*(1 / ((s:Rat)+1))*((s:Rat)+1)=(1 / ((s:Rat)+1)*((s:Rat)+1))*(1 / (a:Rat)):=by grind
         rw [u3,u4,u1,t1] at u2
         grind
       by_cases d:s≤a
       · rw [if_pos d] at ih
         have:s=a:=by omega
         subst this
         grind
       · rw [if_neg d] at ih
         grind
 intro s
 refine Rat.le_trans (key s) ?_
 split
 · have:(s:Rat)≤(a:Rat):=rcast_le (a:=(s:Int)) (b:=(a:Int)) (by omega)
   grind
 · exact Rat.le_refl
def ns (M:Nat):Rat:=sm M (fun j=>sm (M - j) (fun _=>1))
theorem aO4 (M:Nat):2*ns M=(M:Rat)*((M:Rat)+1):=by
 have key:∀M:Nat,sm M (fun j=>(M:Rat) - (j:Rat))*2=(M:Rat)*((M:Rat)+1):=by
   intro M
   induction M with
   | zero=>simp only [sm];decide +kernel
   | succ M ih =>
     rw [aAt]
     have e:sm M (fun i=>((M+1:Nat):Rat) - ((i+1:Nat):Rat))=sm M (fun j=>(M:Rat) - (j:Rat)):=bL (fun i _=>by rw [iH,iH];grind)
     rw [e,iH]
     have z:((0:Nat):Rat)=0:=rfl
     rw [z];grind
 have:ns M=sm M (fun j=>(M:Rat) - (j:Rat)):=by
   unfold ns
   refine bL (fun j hj=>?_)
   rw [aAs]
   have:((M - j:Nat):Rat)=(M:Rat) - (j:Rat):=by
     have h:=Rat.intCast_sub (M:Int) (j:Int)
     have e:((M - j:Nat):Int)=(M:Int) - (j:Int):=by omega
     rw [←e] at h
     exact h
   rw [this];grind
 rw [this,←key M];grind
def gQ (K:V3→Rat)(x A u w:V3)(M:Nat):Rat:=sm M (fun j=>sm (M - j) (fun i=>K (vs x (pt A u w M i j))))
theorem rim {A u w:V3} {r:Nat} {h:Rat} (hu:0 < nsq u)(hr:(r:Int)*r≤nsq (cr u w))(hr0:0 < r)(hh:0 < h)(hhr:3217≤128*((r:Int):Rat)*(h*h)) :
   ∃C:Rat,0≤C∧∀(K:V3→Rat),(∀p,K p≤1 / 4)→(∀p,K p*K p*((nsq p+16:Int):Rat)≤1)→∀(x:V3) (n:Nat),0 < n →
     gQ K x A u w (n*n*n*n)*(((n*n*n*n:Nat):Rat))≤ns (n*n*n*n)*(h+C*(1 / (n:Rat))):=by
 obtain⟨C,hC,hcnt⟩:=aO3 (A:=A) hu hr hr0
 have hR:=rcast_pos (a:=(r:Int)) (by omega)
 have iR:=odm hR
 have iR0:=inv_nn (Rat.le_of_lt hR)
 have ih:=odm hh
 have ih0:=inv_nn (Rat.le_of_lt hh)
 generalize hP:3217 / 1024*(1 / ((r:Int):Rat))=P at *
 have hP0:0 < P:=by
   rw [←hP]
   refine Rat.mul_pos (by decide +kernel) ?_
   rw [Rat.div_def];have:=Rat.inv_pos.mpr hR;grind
 have h8:8*P≤h*h:=by
   have a1:=rmul_le hhr iR0
   have a2:128*((r:Int):Rat)*(h*h)*(1 / ((r:Int):Rat))=128*(1 / ((r:Int):Rat)*((r:Int):Rat))*(h*h):=by grind
   rw [a2,iR] at a1
   rw [←hP];grind
 have iP:=odm hP0
 have iP0:=inv_nn (Rat.le_of_lt hP0)
 -- sigma = h / (4 P)
 have hsig:0 < h*(1 / P) / 4:=by
   have:0 < h*(1 / P):=Rat.mul_pos hh (by rw [Rat.div_def];have:=Rat.inv_pos.mpr hP0;grind)
   grind
 generalize hs:h*(1 / P) / 4=sg at *
 have hPs:4*(P*sg)=h:=by
   rw [←hs]
   have:4*(P*(h*(1 / P) / 4))=(1 / P*P)*h:=by grind
   rw [this,iP];grind
 refine⟨2*(P+C)*(1+sg),?_,fun K k1 k2 x n hn=>?_⟩
 · have:=Rat.mul_nonneg (show 0≤2*(P+C) by grind) (show 0≤1+sg by grind)
   exact this
 generalize hM:n*n*n*n=M
 have n1:(1:Rat)≤(n:Rat):=rcast_le (a:=1) (b:=(n:Int)) (by omega)
 have inn:=odm (r:=(n:Rat)) (by grind)
 have inn0:=inv_nn (a:=(n:Rat)) (by grind)
 have hMr:(M:Rat)=(n:Rat)*(n:Rat)*(n:Rat)*(n:Rat):=by
   rw [←hM]
   have:((n*n*n*n:Nat):Int)=(n:Int)*n*n*n:=by simp
   have h2:(((n*n*n*n:Nat):Int):Rat)=((n:Int):Rat)*((n:Int):Rat)*((n:Int):Rat)*((n:Int):Rat):=by
     rw [this,rcast_mul,rcast_mul,rcast_mul]
   exact h2
 have n3:1≤(n:Rat)*(n:Rat)*(n:Rat):=by
   have a1:=rmul_le n1 (show(0:Rat)≤(n:Rat) by grind)
   have a2:=rmul_le (show 1≤(n:Rat)*(n:Rat) by grind) (show(0:Rat)≤(n:Rat) by grind)
   grind
 have M1:1≤(M:Rat):=by
   rw [hMr]
   have:=rmul_le n3 (show(0:Rat)≤(n:Rat) by grind)
   grind
 have hMs:0≤(M:Rat)*sg:=Rat.mul_nonneg (by grind) (Rat.le_of_lt hsig)
 obtain⟨s,hs1,hs2⟩:=fl ((M:Rat)*sg) hMs
 have s0:=sC s
 -- the layers
 have b1:gQ K x A u w M≤ns M*(1 / ((s:Rat)+1))+sm s (fun l=>1 / ((l:Rat)+1)*(1 / ((l:Rat)+1+1))*sm M (fun j=>sm (M - j) (fun i=>ind (nsq (vs x (pt A u w M i j))≤((l+2:Nat):Int)*(l+2:Nat))))):=by
   have e1:ns M*(1 / ((s:Rat)+1))=sm M (fun j=>sm (M - j) (fun _=>1 / ((s:Rat)+1))):=by
     unfold ns
     have:ns M*(1 / ((s:Rat)+1))=(1 / ((s:Rat)+1))*ns M:=by grind
     unfold ns at this
     rw [this,←cW]
     refine bL (fun j _=>?_)
     rw [←cW]
     exact bL (fun i _=>by grind)
   have e2:sm s (fun l=>1 / ((l:Rat)+1)*(1 / ((l:Rat)+1+1))*sm M (fun j=>sm (M - j) (fun i=>ind (nsq (vs x (pt A u w M i j))≤((l+2:Nat):Int)*(l+2:Nat)))))=sm M (fun j=>sm (M - j) (fun i=>sm s (fun l=>1 / ((l:Rat)+1)*(1 / ((l:Rat)+1+1))*ind (nsq (vs x (pt A u w M i j))≤((l+2:Nat):Int)*(l+2:Nat))))):=by
     have:∀l:Nat,1 / ((l:Rat)+1)*(1 / ((l:Rat)+1+1))*sm M (fun j=>sm (M - j) (fun i=>ind (nsq (vs x (pt A u w M i j))≤((l+2:Nat):Int)*(l+2:Nat))))=sm M (fun j=>sm (M - j) (fun i=>1 / ((l:Rat)+1)*(1 / ((l:Rat)+1+1))*ind (nsq (vs x (pt A u w M i j))≤((l+2:Nat):Int)*(l+2:Nat)))):=by
       intro l
       rw [←cW]
       refine bL (fun j _=>?_)
       rw [←cW]
     rw [bL (fun l _=>this l),aEd]
     refine bL (fun j _=>?_)
     rw [aEd]
   rw [e1,e2,←lA]
   unfold gQ
   refine lT (fun j _=>?_)
   rw [←lA]
   exact lT (fun i _=>aTa (e:=0) k1 k2 _ s)
 have b2:sm s (fun l=>1 / ((l:Rat)+1)*(1 / ((l:Rat)+1+1))*sm M (fun j=>sm (M - j) (fun i=>ind (nsq (vs x (pt A u w M i j))≤((l+2:Nat):Int)*(l+2:Nat)))))≤sm s (fun l=>P+(P+C)*(1 / ((l:Rat)+1))):=by
   refine lT (fun l _=>?_)
   have l0:=sC l
   have c1:=hcnt x M (l+2) (by omega)
   have cl:(((l+2:Nat):Int):Rat)=(l:Rat)+1+1:=by
     have h1:=iH (l+1)
     have h2:=iH l
     rw [h2] at h1
     exact h1
   rw [cl] at c1
   have i1:=odm (r:=(l:Rat)+1) (by grind)
   have i2:=odm (r:=(l:Rat)+1+1) (by grind)
   have j1:=inv_nn (a:=(l:Rat)+1) (by grind)
   have j2:=inv_nn (a:=(l:Rat)+1+1) (by grind)
   have c2:=rmul_le' c1 (Rat.mul_nonneg j1 j2)
   refine Rat.le_trans c2 (jQ ?_)
   generalize 1 / ((l:Rat)+1)=a at *
   generalize 1 / ((l:Rat)+1+1)=b at *
   have e1:a*b*(P*(((l:Rat)+1+1)*((l:Rat)+1+1))+C*((l:Rat)+1+1))=(b*((l:Rat)+1+1))*(P*(a*((l:Rat)+1)+a)+C*a):=by grind
   rw [e1,i2,i1];grind
 have b3:sm s (fun l=>P+(P+C)*(1 / ((l:Rat)+1)))=P*(s:Rat)+(P+C)*sm s (fun l=>1 / ((l:Rat)+1)):=by
   rw [lA,aAs,cW];grind
 have b4:=aZ4 n hn s
 have b5:=rmul_le' b4 (show 0≤P+C by grind)
 have N2:=aO4 M
 have iS:1 / ((s:Rat)+1)*((M:Rat)*sg)≤1:=by
   have i1:=odm (r:=(s:Rat)+1) (by grind)
   have j1:=inv_nn (a:=(s:Rat)+1) (by grind)
   have:=rmul_le' (Rat.le_of_lt hs2) j1
   rw [i1] at this
   exact this
 have N0:0≤ns M:=by
   have:=Rat.mul_nonneg (show(0:Rat)≤(M:Rat) by grind) (show(0:Rat)≤(M:Rat)+1 by grind)
   grind
 have S0:=inv_nn (a:=(s:Rat)+1) (by grind)
 -- everything times M
 have all:gQ K x A u w M≤ns M*(1 / ((s:Rat)+1))+(P*(s:Rat)+(P+C)*((n:Rat)+(s:Rat)*(1 / (n:Rat)))):=by
   rw [b3] at b2
   generalize sm s (fun l=>1 / ((l:Rat)+1))=H at *
   grind
 have t1:ns M*(1 / ((s:Rat)+1))*(M:Rat)≤ns M*(h / 2):=by
   -- (1/(s+1)) M sg <= 1 and 1/sg = 4P/h <= h/2
   have u1:1 / ((s:Rat)+1)*(M:Rat)≤h / 2:=by
     have v1:8*(P*sg)*1≤h*h*sg:=by
       have:=rmul_le h8 (Rat.le_of_lt hsig)
       grind
     have v2:2*h≤h*h*sg:=by rw [←hPs] at v1 ⊢;grind
     have v3:2≤h*sg:=by
       have:=rmul_le v2 ih0
       have e1:2*h*(1 / h)=2*(1 / h*h):=by grind
       have e2:h*h*sg*(1 / h)=(1 / h*h)*(h*sg):=by grind
       rw [e1,e2,ih] at this
       grind
     have v4:=rmul_le' iS (Rat.le_of_lt hh)
     have v5:=rmul_le' v3 (Rat.mul_nonneg S0 (show(0:Rat)≤(M:Rat) by grind))
     grind
   have:=rmul_le' u1 N0
   grind
 have t2:P*(s:Rat)*(M:Rat)≤ns M*(h / 2):=by
   have u1:=rmul_le' hs1 (Rat.le_of_lt hP0)
   have u2:=rmul_le u1 (show(0:Rat)≤(M:Rat) by grind)
   have u3:P*((M:Rat)*sg)*(M:Rat)=h / 4*((M:Rat)*(M:Rat)):=by rw [←hPs];grind
   have u4:(M:Rat)*(M:Rat)≤2*ns M:=by rw [N2];grind
   have u5:=rmul_le' u4 (show 0≤h / 4 by grind)
   grind
 have t3:(P+C)*((n:Rat)+(s:Rat)*(1 / (n:Rat)))*(M:Rat)≤ns M*(2*(P+C)*(1+sg)*(1 / (n:Rat))):=by
   have u1:(s:Rat)*(1 / (n:Rat))≤(n:Rat)*(n:Rat)*(n:Rat)*sg:=by
     have:=rmul_le hs1 inn0
     have e1:(M:Rat)*sg*(1 / (n:Rat))=(n:Rat)*(n:Rat)*(n:Rat)*sg*(1 / (n:Rat)*(n:Rat)):=by rw [hMr];grind
     rw [e1,inn] at this
     grind
   have u2:(n:Rat)+(s:Rat)*(1 / (n:Rat))≤(n:Rat)*(n:Rat)*(n:Rat)*(1+sg):=by
     have a1:(n:Rat)≤(n:Rat)*(n:Rat)*(n:Rat):=by
       have a2:=rmul_le' n1 (show(0:Rat)≤(n:Rat) by grind)
       have a3:=rmul_le' n1 (show(0:Rat)≤(n:Rat)*(n:Rat) by grind)
       grind
     grind
   have u3:=rmul_le' u2 (show 0≤P+C by grind)
   have u4:=rmul_le u3 (show(0:Rat)≤(M:Rat) by grind)
   have u5:(n:Rat)*(n:Rat)*(n:Rat)=(M:Rat)*(1 / (n:Rat)):=by
     have:(M:Rat)*(1 / (n:Rat))=(n:Rat)*(n:Rat)*(n:Rat)*(1 / (n:Rat)*(n:Rat)):=by rw [hMr];grind
     rw [this,inn];grind
   rw [u5] at u4
   have u6:(M:Rat)*(M:Rat)≤2*ns M:=by rw [N2];grind
   have u7:=rmul_le' u6 (c:=(P+C)*(1+sg)*(1 / (n:Rat))) (Rat.mul_nonneg (Rat.mul_nonneg (by grind) (by grind)) inn0)
   grind
 have fin:=rmul_le all (show(0:Rat)≤(M:Rat) by grind)
 grind
structure Tri where
 A:V3
 B:V3
 C:V3
 q:Rat
 o:(V3×V3×V3)×Int
def tpt (t:Tri)(M i j:Nat):V3:=pt t.A (vs t.B t.A) (vs t.C t.A) M i j
def smp (M:Nat)(t:Tri):List WP:=(List.range M).flatMap fun j=>(List.range (M - j)).map fun i=>(t.q,tpt t M i j)
theorem aGf (n:Nat)(f:Nat→Rat):ls (List.range n) f=sm n f:=by
 induction n with
 | zero=>rfl
 | succ n ih=>rw [List.range_succ,aOo,ih,sm];simp only [ls];grind
theorem aIg (M:Nat)(t:Tri)(f:WP→Rat):ls (smp M t) f=sm M (fun j=>sm (M - j) (fun i=>f (t.q,tpt t M i j))):=by
 unfold smp
 rw [ls_flat,aGf]
 refine bL (fun j _=>?_)
 rw [ls_map,aGf]
def lU (M:Nat)(X:List Tri):List WP:=X.flatMap (smp M)
def tot (X:List Tri):Rat:=ls X (fun t=>t.q)
theorem aCq (M:Nat)(X:List Tri):cX (lU M X)=tot X*ns M:=by
 unfold cX lU tot
 rw [ls_flat]
 have:ls X (fun t=>ls (smp M t) (fun a=>a.1))=ls X (fun t=>ns M*t.q):=by
   refine ls_congr (fun t _=>?_)
   rw [aIg]
   unfold ns
   have:t.q*sm M (fun j=>sm (M - j) (fun _=>1))=sm M (fun j=>sm (M - j) (fun _=>1))*t.q:=by grind
   rw [←this,←cW]
   refine bL (fun j _=>?_)
   rw [←cW]
   exact bL (fun i _=>by grind)
 rw [this,ls_mul];grind
theorem aGg (K:V3→Rat)(M:Nat)(X:List Tri)(z:V3):eH K (lU M X) z=ls X (fun t=>t.q*gQ K z t.A (vs t.B t.A) (vs t.C t.A) M):=by
 unfold eH lU
 rw [ls_flat]
 refine ls_congr (fun t _=>?_)
 rw [aIg]
 unfold gQ
 rw [←cW]
 refine bL (fun j _=>?_)
 rw [←cW]
 rfl
theorem aA0 {M:Nat} {X:List Tri} {a:WP} (h:a∈lU M X):∃t,t∈X∧∃i j:Nat,i+j < M∧a=(t.q,tpt t M i j):=by
 obtain⟨t,ht,h⟩:=List.mem_flatMap.1 h
 obtain⟨j,hj,h⟩:=List.mem_flatMap.1 h
 obtain⟨i,hi,rfl⟩:=List.mem_map.1 h
 have:=List.mem_range.1 hj
 have:=List.mem_range.1 hi
 exact⟨t,ht,i,j,by omega,rfl⟩
theorem tpt_eq (t:Tri) {M i j:Nat} (h:i+j < M):tpt t M i j=(((M - i - j:Nat):Int)*t.A.1+i*t.B.1+j*t.C.1,((M - i - j:Nat):Int)*t.A.2.1+i*t.B.2.1+j*t.C.2.1,((M - i - j:Nat):Int)*t.A.2.2+i*t.B.2.2+j*t.C.2.2):=by
 have e:((M - i - j:Nat):Int)=(M:Int) - i - j:=by omega
 rw [e]
 simp only [tpt,pt,vs,Prod.mk.injEq]
 refine⟨?_,?_,?_⟩<;>grind
theorem aA1 {a b c x y z G:Int} (ha:0≤a)(hb:0≤b)(hc:0≤c)(hx:x≤G)(hy:y≤G)(hz:z≤G):a*x+b*y+c*z≤(a+b+c)*G:=by
 have h1:=Int.mul_le_mul_of_nonneg_left hx ha
 have h2:=Int.mul_le_mul_of_nonneg_left hy hb
 have h3:=Int.mul_le_mul_of_nonneg_left hz hc
 grind
theorem aGh {a b c x y z G:Int} (ha:0≤a)(hb:0≤b)(hc:0≤c)(hx:G≤x)(hy:G≤y)(hz:G≤z):(a+b+c)*G≤a*x+b*y+c*z:=by
 have h1:=Int.mul_le_mul_of_nonneg_left hx ha
 have h2:=Int.mul_le_mul_of_nonneg_left hy hb
 have h3:=Int.mul_le_mul_of_nonneg_left hz hc
 grind
def tin (G:Int)(t:Tri):Prop:=inb G t.A∧inb G t.B∧inb G t.C
theorem aO5 {t:Tri} {G M i j:Nat} (h:i+j < M)(ht:tin G t):inb (M*G:Nat) (tpt t M i j):=by
 rw [tpt_eq t h]
 obtain⟨⟨a1,a2,a3,a4,a5,a6⟩,⟨b1,b2,b3,b4,b5,b6⟩,⟨c1,c2,c3,c4,c5,c6⟩⟩:=ht
 have e:((M - i - j:Nat):Int)+(i:Int)+(j:Int)=(M:Int):=by omega
 have em:((M*G:Nat):Int)=(M:Int)*(G:Int):=Int.natCast_mul M G
 have p:∀x y z:Int,x≤G→y≤G→z≤G→((M - i - j:Nat):Int)*x+i*y+j*z≤(M:Int)*G:=by
   intro x y z hx hy hz
   have:=aA1 (a:=((M - i - j:Nat):Int)) (b:=(i:Int)) (c:=(j:Int)) (by omega) (by omega) (by omega) hx hy hz
   rwa [e] at this
 have m:∀x y z:Int,-(G:Int)≤x→-(G:Int)≤y→-(G:Int)≤z→-((M:Int)*G)≤((M - i - j:Nat):Int)*x+i*y+j*z:=by
   intro x y z hx hy hz
   have:=aGh (a:=((M - i - j:Nat):Int)) (b:=(i:Int)) (c:=(j:Int)) (by omega) (by omega) (by omega) hx hy hz
   rw [e] at this
   have e2:(M:Int)*-(G:Int)=-((M:Int)*G):=by grind
   rwa [e2] at this
 rw [em]
 exact⟨m _ _ _ a1 b1 c1,p _ _ _ a2 b2 c2,m _ _ _ a3 b3 c3,p _ _ _ a4 b4 c4,m _ _ _ a5 b5 c5,p _ _ _ a6 b6 c6⟩
theorem aVe (a b c:Int)(ha:0≤a)(hb:0≤b)(hc:0≤c)(x y z:Int):(a*x+b*y+c*z)*(a*x+b*y+c*z)≤(a+b+c)*(a*(x*x)+b*(y*y)+c*(z*z)):=by
 have h1:=Int.mul_nonneg (Int.mul_nonneg ha hb) (sq_int_nonneg (x - y))
 have h2:=Int.mul_nonneg (Int.mul_nonneg hb hc) (sq_int_nonneg (y - z))
 have h3:=Int.mul_nonneg (Int.mul_nonneg ha hc) (sq_int_nonneg (x - z))
 grind
theorem aTb (a b c:Int)(ha:0≤a)(hb:0≤b)(hc:0≤c)(p q r:V3) {f:Int} (hp:nsq p≤f)(hq:nsq q≤f)(hr:nsq r≤f) :
   nsq (a*p.1+b*q.1+c*r.1,a*p.2.1+b*q.2.1+c*r.2.1,a*p.2.2+b*q.2.2+c*r.2.2)≤(a+b+c)*((a+b+c)*f):=by
 have h1:=aVe a b c ha hb hc p.1 q.1 r.1
 have h2:=aVe a b c ha hb hc p.2.1 q.2.1 r.2.1
 have h3:=aVe a b c ha hb hc p.2.2 q.2.2 r.2.2
 have h4:=aA1 ha hb hc hp hq hr
 have h5:=Int.mul_le_mul_of_nonneg_left h4 (show 0≤a+b+c by omega)
 unfold nsq at *
 simp only
 grind
def aYi (t s:Tri)(f:Int):Prop:=∀p,p∈[t.A,t.B,t.C]→∀q,q∈[s.A,s.B,s.C]→nsq (vs p q)≤f
theorem aVf {t s:Tri} {f:Int} (h:aYi t s f) {M i j i' j':Nat} (h1:i+j < M)(h2:i'+j' < M):nsq (vs (tpt t M i j) (tpt s M i' j'))≤(M:Int)*(M*f):=by
 have e:((M - i - j:Nat):Int)+(i:Int)+(j:Int)=(M:Int):=by omega
 have e':((M - i' - j':Nat):Int)+(i':Int)+(j':Int)=(M:Int):=by omega
 have hM:(0:Int) < (M:Int):=by omega
 have one:∀q,q∈[s.A,s.B,s.C]→nsq (vs (tpt t M i j) (M*q.1,M*q.2.1,M*q.2.2))≤(M:Int)*(M*f):=by
   intro q hq
   have:=aTb ((M - i - j:Nat):Int) (i:Int) (j:Int) (by omega) (by omega) (by omega) (vs t.A q) (vs t.B q) (vs t.C q) (h _ (by simp) q hq) (h _ (by simp) q hq) (h _ (by simp) q hq)
   rw [e] at this
   rw [tpt_eq t h1]
   have e2:vs (((M - i - j:Nat):Int)*t.A.1+i*t.B.1+j*t.C.1,((M - i - j:Nat):Int)*t.A.2.1+i*t.B.2.1+j*t.C.2.1,((M - i - j:Nat):Int)*t.A.2.2+i*t.B.2.2+j*t.C.2.2) (M*q.1,M*q.2.1,M*q.2.2)=(((M - i - j:Nat):Int)*(vs t.A q).1+i*(vs t.B q).1+j*(vs t.C q).1,((M - i - j:Nat):Int)*(vs t.A q).2.1+i*(vs t.B q).2.1+j*(vs t.C q).2.1,((M - i - j:Nat):Int)*(vs t.A q).2.2+i*(vs t.B q).2.2+j*(vs t.C q).2.2):=by
     simp only [vs,Prod.mk.injEq]
     rw [←e]
     refine⟨?_,?_,?_⟩<;>grind
   rw [e2];exact this
 have all:=aTb ((M - i' - j':Nat):Int) (i':Int) (j':Int) (by omega) (by omega) (by omega) _ _ _ (one s.A (by simp)) (one s.B (by simp)) (one s.C (by simp))
 rw [e'] at all
 have e3:(((M - i' - j':Nat):Int)*(vs (tpt t M i j) (M*s.A.1,M*s.A.2.1,M*s.A.2.2)).1+i'*(vs (tpt t M i j) (M*s.B.1,M*s.B.2.1,M*s.B.2.2)).1+j'*(vs (tpt t M i j) (M*s.C.1,M*s.C.2.1,M*s.C.2.2)).1,((M - i' - j':Nat):Int)*(vs (tpt t M i j) (M*s.A.1,M*s.A.2.1,M*s.A.2.2)).2.1+i'*(vs (tpt t M i j) (M*s.B.1,M*s.B.2.1,M*s.B.2.2)).2.1+j'*(vs (tpt t M i j) (M*s.C.1,M*s.C.2.1,M*s.C.2.2)).2.1,((M - i' - j':Nat):Int)*(vs (tpt t M i j) (M*s.A.1,M*s.A.2.1,M*s.A.2.2)).2.2+i'*(vs (tpt t M i j) (M*s.B.1,M*s.B.2.1,M*s.B.2.2)).2.2+j'*(vs (tpt t M i j) (M*s.C.1,M*s.C.2.1,M*s.C.2.2)).2.2)=(M*(vs (tpt t M i j) (tpt s M i' j')).1,M*(vs (tpt t M i j) (tpt s M i' j')).2.1,M*(vs (tpt t M i j) (tpt s M i' j')).2.2):=by
   rw [tpt_eq s h2]
   generalize tpt t M i j=p
   simp only [vs,Prod.mk.injEq]
   rw [←e']
   refine⟨?_,?_,?_⟩<;>grind
 rw [e3] at all
 generalize vs (tpt t M i j) (tpt s M i' j')=v at *
 have e4:nsq (M*v.1,M*v.2.1,M*v.2.2)=(M:Int)*(M*nsq v):=by simp only [nsq];grind
 rw [e4] at all
 have l1:=Int.le_of_mul_le_mul_left all hM
 exact Int.le_of_mul_le_mul_left l1 hM
def gapc (a b c x y z g:Int):Prop:=g=0∨(∀p,p∈[a,b,c]→∀q,q∈[x,y,z]→p+g≤q)∨(∀p,p∈[a,b,c]→∀q,q∈[x,y,z]→q+g≤p)
def nearT (t s:Tri)(n:Int):Prop:=∃g:V3,0≤g.1∧0≤g.2.1∧0≤g.2.2∧n≤nsq g∧gapc t.A.1 t.B.1 t.C.1 s.A.1 s.B.1 s.C.1 g.1∧gapc t.A.2.1 t.B.2.1 t.C.2.1 s.A.2.1 s.B.2.1 s.C.2.1 g.2.1∧gapc t.A.2.2 t.B.2.2 t.C.2.2 s.A.2.2 s.B.2.2 s.C.2.2 g.2.2
def aIh (a b c:Int):Int:=if a≤b then(if b≤c then c else b) else(if a≤c then c else a)
def aIi (a b c:Int):Int:=if a≤b then(if c≤a then c else a) else(if c≤b then c else b)
theorem aO6 {a b c i j k x y z l m n M g:Int} (ha:0≤a)(hb:0≤b)(hc:0≤c)(hl:0≤l)(hm:0≤m)(hn:0≤n)(h1:a+b+c=M)(h2:l+m+n=M)(h:∀p,p∈[i,j,k]→∀q,q∈[x,y,z]→p+g≤q) :
   M*g≤(l*x+m*y+n*z) - (a*i+b*j+c*k):=by
 -- the greatest of the first and the least of the others
 have hx:=aGh (G:=aIi x y z) (x:=x) (y:=y) (z:=z) hl hm hn (by unfold aIi;grind) (by unfold aIi;grind) (by unfold aIi;grind)
 have hi:=aA1 (G:=aIh i j k) (x:=i) (y:=j) (z:=k) ha hb hc (by unfold aIh;grind) (by unfold aIh;grind) (by unfold aIh;grind)
 have hg:aIh i j k+g≤aIi x y z:=by
   have e1:aIh i j k∈[i,j,k]:=by unfold aIh;grind
   have e2:aIi x y z∈[x,y,z]:=by unfold aIi;grind
   exact h _ e1 _ e2
 rw [h1] at hi
 rw [h2] at hx
 have h3:=Int.mul_le_mul_of_nonneg_left hg (show 0≤M by omega)
 rw [Int.mul_add] at h3
 omega
theorem aIj {a b c i j k x y z l m n M g:Int} (ha:0≤a)(hb:0≤b)(hc:0≤c)(hl:0≤l)(hm:0≤m)(hn:0≤n)(h1:a+b+c=M)(h2:l+m+n=M)(hg:0≤g)(h:gapc i j k x y z g) :
   M*(M*(g*g))≤((a*i+b*j+c*k) - (l*x+m*y+n*z))*((a*i+b*j+c*k) - (l*x+m*y+n*z)):=by
 have hM:0≤M:=by omega
 have e:M*(M*(g*g))=(M*g)*(M*g):=by grind
 rw [e]
 have hMg:=Int.mul_nonneg hM hg
 rcases h with h | h | h
 · rw [h]
   have:=sq_int_nonneg ((a*i+b*j+c*k) - (l*x+m*y+n*z))
   grind
 · have:=aO6 ha hb hc hl hm hn h1 h2 h
   exact aAx hMg (.inr (by omega))
 · have:=aO6 (i:=x) (j:=y) (k:=z) (x:=i) (y:=j) (z:=k) hl hm hn ha hb hc h2 h1 (fun p hp q hq=>h q hq p hp)
   exact aAx hMg (.inl (by omega))
theorem aR3 {t s:Tri} {f:Int} (h:nearT t s f) {M i j i' j':Nat} (h1:i+j < M)(h2:i'+j' < M):(M:Int)*(M*f)≤nsq (vs (tpt t M i j) (tpt s M i' j')):=by
 obtain⟨g,g1,g2,g3,hf,c1,c2,c3⟩:=h
 have e:((M - i - j:Nat):Int)+(i:Int)+(j:Int)=(M:Int):=by omega
 have e':((M - i' - j':Nat):Int)+(i':Int)+(j':Int)=(M:Int):=by omega
 have k1:=aIj (a:=((M - i - j:Nat):Int)) (b:=(i:Int)) (c:=(j:Int)) (l:=((M - i' - j':Nat):Int)) (m:=(i':Int)) (n:=(j':Int)) (by omega) (by omega) (by omega) (by omega) (by omega) (by omega) e e' g1 c1
 have k2:=aIj (a:=((M - i - j:Nat):Int)) (b:=(i:Int)) (c:=(j:Int)) (l:=((M - i' - j':Nat):Int)) (m:=(i':Int)) (n:=(j':Int)) (by omega) (by omega) (by omega) (by omega) (by omega) (by omega) e e' g2 c2
 have k3:=aIj (a:=((M - i - j:Nat):Int)) (b:=(i:Int)) (c:=(j:Int)) (l:=((M - i' - j':Nat):Int)) (m:=(i':Int)) (n:=(j':Int)) (by omega) (by omega) (by omega) (by omega) (by omega) (by omega) e e' g3 c3
 have k4:=Int.mul_le_mul_of_nonneg_left (Int.mul_le_mul_of_nonneg_left hf (show 0≤(M:Int) by omega)) (show 0≤(M:Int) by omega)
 rw [tpt_eq t h1,tpt_eq s h2]
 unfold nsq at *
 simp only [vs]
 have e3:(M:Int)*((M:Int)*(g.1*g.1+g.2.1*g.2.1+g.2.2*g.2.2))=(M:Int)*((M:Int)*(g.1*g.1))+(M:Int)*((M:Int)*(g.2.1*g.2.1))+(M:Int)*((M:Int)*(g.2.2*g.2.2)):=by grind
 omega
theorem aGi (D z v:V3)(n:Int)(hn:0≤n)(h:v=va D z):n*nsq D≤(n+1)*nsq v+n*(n+1)*nsq z∧n*nsq v≤(n+1)*nsq D+n*(n+1)*nsq z:=by
 subst h
 have a1:=sq_int_nonneg (D.1+z.1+n*z.1)
 have a2:=sq_int_nonneg (D.2.1+z.2.1+n*z.2.1)
 have a3:=sq_int_nonneg (D.2.2+z.2.2+n*z.2.2)
 have b1:=sq_int_nonneg (D.1 - n*z.1)
 have b2:=sq_int_nonneg (D.2.1 - n*z.2.1)
 have b3:=sq_int_nonneg (D.2.2 - n*z.2.2)
 unfold nsq va
 simp only
 constructor<;>grind
theorem pw {n:Nat}:((n*n*n*n:Nat):Int)=(n:Int)*n*n*n:=by simp
theorem aVg {K:V3→Rat} (kp:∀p,0≤K p)(k2:∀p,K p*K p*((nsq p+16:Int):Rat)≤1) {n:Nat} (hn:8≤n) {f:Int} {h:Rat} (hh:0 < h)(hf:1≤f)(hfh:1≤h*h*(f:Rat))
   {D z:V3} (hD:((n*n*n*n:Nat):Int)*(((n*n*n*n:Nat):Int)*f)≤nsq D) (hz:inb ((n*n*n:Nat):Int) z):K (va D z)*((n*n*n*n:Nat):Rat)≤h*(1+8*(1 / (n:Rat))):=by
 have hz2:=aEj hz
 have sh:=(aGi D z (va D z) n (by omega) rfl).1
 have kv:=k2 (va D z)
 have kv0:=kp (va D z)
 have hv0:=nsq_nonneg (va D z)
 generalize va D z=v at *
 -- integers to rationals
 have R1:=rcast_le sh
 have R2:=rcast_le hD
 have R3:=rcast_le hz2
 have Rf:=rcast_le hf
 have n8:(8:Rat)≤(n:Rat):=rcast_le (a:=8) (b:=(n:Int)) (by omega)
 have e3:(((n*n*n:Nat):Int):Rat)=(n:Rat)*(n:Rat)*(n:Rat):=by
   have:((n*n*n:Nat):Int)=(n:Int)*n*n:=by simp
   rw [this,rcast_mul,rcast_mul];rfl
 have e4:(((n*n*n*n:Nat):Int):Rat)=(n:Rat)*(n:Rat)*(n:Rat)*(n:Rat):=by
   rw [pw,rcast_mul,rcast_mul,rcast_mul];rfl
 have eM:((n*n*n*n:Nat):Rat)=(n:Rat)*(n:Rat)*(n:Rat)*(n:Rat):=e4
 simp only [Rat.intCast_mul,Rat.intCast_add,e3,e4] at R1 R2 R3
 have en:((n:Int):Rat)=(n:Rat):=rfl
 have c1:((1:Int):Rat)=1:=rfl
 have c3:((3:Int):Rat)=3:=rfl
 rw [en,c1] at R1
 rw [c3] at R3
 rw [c1] at Rf
 have kv':K v*K v*((nsq v:Int):Rat)≤1:=by
   have:=rmul_le' (rcast_le (show nsq v≤nsq v+16 by omega)) (sq_nonneg (K v))
   grind
 rw [eM]
 have inn:=odm (r:=(n:Rat)) (by grind)
 have inn0:=inv_nn (a:=(n:Rat)) (by grind)
 generalize ((nsq v:Int):Rat)=V at *
 generalize ((nsq D:Int):Rat)=DD at *
 generalize ((nsq z:Int):Rat)=Z at *
 generalize ((f:Int):Rat)=F at *
 generalize K v=k at *
 clear hD hz hz2 sh kv hv0 hf e3 e4 eM c1 c3 en
 have hfF:0 < F:=by grind
 generalize hM:(n:Rat)*(n:Rat)*(n:Rat)*(n:Rat)=M at *
 generalize hS:(n:Rat)*(n:Rat)*(n:Rat)=S at *
 generalize (n:Rat)=r at *
 generalize 1 / r=j at *
 have j8:j≤1 / 8:=by
   have:=rmul_le' n8 inn0
   rw [inn] at this
   grind
 have hMS:M=S*r:=by rw [←hM,←hS]
 have hS0:0≤S:=by
   rw [←hS];exact Rat.mul_nonneg (Rat.mul_nonneg (by grind) (by grind)) (by grind)
 have hM0:0≤M:=by rw [hMS];exact Rat.mul_nonneg hS0 (by grind)
 -- V >= M M F (1 - 4 j)
 have hV:M*(M*F)*(1 - 4*j)≤V:=by
   have a1:r*DD≤(r+1)*V+r*(r+1)*Z:=R1
   have a2:=rmul_le' R2 (show 0≤r by grind)
   have a3:=rmul_le' R3 (show 0≤r*(r+1) from Rat.mul_nonneg (by grind) (by grind))
   -- S = M j
   have hSj:S=M*j:=by rw [hMS];grind
   have a4:r*(r+1)*(3*(S*S))=3*(1+j)*(M*M):=by
     have:r*(r+1)*(3*(S*S))=3*((j*r)*(j*r)+j*(j*r))*(M*M):=by rw [hSj];grind
     rw [this,inn];grind
   rw [a4] at a3
   have a5:M*M≤M*(M*F):=by
     have:=rmul_le' Rf (Rat.mul_nonneg hM0 hM0)
     grind
   have a6:3*(1+j)*(M*M)≤3*(1+j)*(M*(M*F)):=rmul_le' a5 (by grind)
   generalize M*(M*F)=Q at *
   have hQ:0≤Q:=Rat.le_trans (Rat.mul_nonneg hM0 hM0) a5
   have a7:r*Q≤(r+1)*V+3*(1+j)*Q:=by grind
   -- times j:  Q <= (1 + j) V + 3 j (1 + j) Q
   have a8:=rmul_le' a7 inn0
   have b1:j*(r*Q)=(j*r)*Q:=by grind
   have b2:j*((r+1)*V+3*(1+j)*Q)=(j*r+j)*V+3*j*(1+j)*Q:=by grind
   rw [b1,b2,inn] at a8
   -- (1 - 4 j)(1 + j) <= 1 - 3 j (1 + j)
   by_cases c:Q*(1 - 4*j)≤V
   · exact c
   · have d1:(1+j)*V < (1+j)*(Q*(1 - 4*j)):=by
       have:=Rat.mul_pos (a:=1+j) (b:=Q*(1 - 4*j) - V) (by grind) (by grind)
       grind
     have d2:0≤Q*(j*j):=Rat.mul_nonneg hQ (Rat.mul_nonneg inn0 inn0)
     grind
 -- k M <= h (1 + 8 j)
 have s1:1≤(1 - 4*j)*((1+8*j)*(1+8*j)):=by
   have:0≤j*(12 - 256*(j*j)):=Rat.mul_nonneg inn0 (by
     have:=rmul_le' j8 inn0
     grind)
   grind
 have hk1:=rmul_le' hV (sq_nonneg k)
 have s2:k*k*(M*(M*F)*(1 - 4*j))≤1:=Rat.le_trans hk1 kv'
 refine cO (Rat.mul_nonneg (Rat.le_of_lt hh) (by grind)) ?_
 -- (k M)^2 F (1 - 4 j) <= 1 <= h h F (1 - 4 j)(1 + 8 j)^2
 have s3:=rmul_le' s1 (c:=h*h*F) (by grind)
 have s4:(k*M)*(k*M)*(F*(1 - 4*j))≤(h*(1+8*j))*(h*(1+8*j))*(F*(1 - 4*j)):=by grind
 by_cases c:k*M*(k*M)≤h*(1+8*j)*(h*(1+8*j))
 · exact c
 · have:=Rat.mul_pos (a:=k*M*(k*M) - h*(1+8*j)*(h*(1+8*j))) (b:=F*(1 - 4*j)) (by grind) (Rat.mul_pos hfF (by grind))
   grind
theorem aYj {K:V3→Rat} {e:Rat} (kp:∀p,0≤K p)(k3:∀p,1≤(K p+e)*(K p+e)*((nsq p+16:Int):Rat))(he:0≤e) {n:Nat} (hn:8≤n)(heM:e*((n*n*n*n:Nat):Rat)≤1 / (n:Rat)) {f:Int} {lo:Rat} (hl:0≤lo)(hf:1≤f)(hfl:lo*lo*(f:Rat)≤1)
   {D z:V3} (hD:nsq D≤((n*n*n*n:Nat):Int)*(((n*n*n*n:Nat):Int)*f)) (hz:inb ((n*n*n:Nat):Int) z):lo*(1 - 8*(1 / (n:Rat))) - 1 / (n:Rat)≤K (va D z)*((n*n*n*n:Nat):Rat):=by
 have hz2:=aEj hz
 have sh:=(aGi D z (va D z) n (by omega) rfl).2
 have kv:=k3 (va D z)
 have kv0:=kp (va D z)
 have hv0:=nsq_nonneg (va D z)
 generalize va D z=v at *
 have R1:=rcast_le sh
 have R2:=rcast_le hD
 have R3:=rcast_le hz2
 have Rf:=rcast_le hf
 have n8:(8:Rat)≤(n:Rat):=rcast_le (a:=8) (b:=(n:Int)) (by omega)
 have e3:(((n*n*n:Nat):Int):Rat)=(n:Rat)*(n:Rat)*(n:Rat):=by
   have:((n*n*n:Nat):Int)=(n:Int)*n*n:=by simp
   rw [this,rcast_mul,rcast_mul];rfl
 have e4:(((n*n*n*n:Nat):Int):Rat)=(n:Rat)*(n:Rat)*(n:Rat)*(n:Rat):=by
   rw [pw,rcast_mul,rcast_mul,rcast_mul];rfl
 have eM:((n*n*n*n:Nat):Rat)=(n:Rat)*(n:Rat)*(n:Rat)*(n:Rat):=e4
 simp only [Rat.intCast_mul,Rat.intCast_add,e3,e4] at R1 R2 R3
 have en:((n:Int):Rat)=(n:Rat):=rfl
 have c1:((1:Int):Rat)=1:=rfl
 have c3:((3:Int):Rat)=3:=rfl
 have c16:((16:Int):Rat)=16:=rfl
 rw [en,c1] at R1
 rw [c3] at R3
 rw [c1] at Rf
 rw [rcast_add,c16] at kv
 rw [eM] at heM ⊢
 have inn:=odm (r:=(n:Rat)) (by grind)
 have inn0:=inv_nn (a:=(n:Rat)) (by grind)
 generalize ((nsq v:Int):Rat)=V at *
 generalize ((nsq D:Int):Rat)=DD at *
 generalize ((nsq z:Int):Rat)=Z at *
 generalize ((f:Int):Rat)=F at *
 generalize K v=k at *
 clear hD hz hz2 sh hv0 hf e3 e4 eM c1 c3 c16 en
 have hn3:1≤(n:Rat)*(n:Rat)*(n:Rat):=by
   have a1:=rmul_le n8 (show(0:Rat)≤(n:Rat) by grind)
   have a2:=rmul_le (show 1≤(n:Rat)*(n:Rat) by grind) (show(0:Rat)≤(n:Rat) by grind)
   grind
 generalize hM:(n:Rat)*(n:Rat)*(n:Rat)*(n:Rat)=M at *
 generalize hS:(n:Rat)*(n:Rat)*(n:Rat)=S at *
 generalize (n:Rat)=r at *
 generalize 1 / r=j at *
 have j8:j≤1 / 8:=by
   have:=rmul_le' n8 inn0
   rw [inn] at this
   grind
 have hMS:M=S*r:=by rw [←hM,←hS]
 have hM8:8≤M:=by
   rw [hMS]
   have:=rmul_le hn3 (show 0≤r by grind)
   grind
 have hSj:S=M*j:=by rw [hMS];grind
 -- V + 16 <= M M F (1 + 8 j)
 have hV:V+16≤M*(M*F)*(1+8*j):=by
   have a2:=rmul_le' R2 (show 0≤r+1 by grind)
   have a3:=rmul_le' R3 (show 0≤r*(r+1) from Rat.mul_nonneg (by grind) (by grind))
   have a4:r*(r+1)*(3*(S*S))=3*(1+j)*(M*M):=by
     have:r*(r+1)*(3*(S*S))=3*((j*r)*(j*r)+j*(j*r))*(M*M):=by rw [hSj];grind
     rw [this,inn];grind
   rw [a4] at a3
   have a5:M*M≤M*(M*F):=by
     have:=rmul_le' Rf (Rat.mul_nonneg (show 0≤M by grind) (show 0≤M by grind))
     grind
   have a6:3*(1+j)*(M*M)≤3*(1+j)*(M*(M*F)):=rmul_le' a5 (by grind)
   have a9:16≤2*j*(M*(M*F)):=by
     -- M j = S >= 1, M >= 8
     have b1:M*j*M≤j*(M*(M*F)):=by
       have:=rmul_le' a5 inn0
       grind
     have b2:8≤M*j*M:=by
       rw [←hSj]
       have:=rmul_le hn3 (show 0≤M by grind)
       grind
     grind
   generalize M*(M*F)=Q at *
   have a7:r*V≤(r+1)*Q+3*(1+j)*Q:=by grind
   have a8:=rmul_le' a7 inn0
   have b1:j*(r*V)=(j*r)*V:=by grind
   have b2:j*((r+1)*Q+3*(1+j)*Q)=(j*r+j)*Q+3*j*(1+j)*Q:=by grind
   rw [b1,b2,inn] at a8
   have hQ:0≤j*Q:=by grind
   have d2:3*j*(j*Q)≤3 / 8*(j*Q):=by
     have:=rmul_le j8 hQ
     grind
   grind
 have s1:=rmul_le' hV (sq_nonneg (k+e))
 have s2:lo≤(k+e)*M*(1+8*j):=by
   refine cO (Rat.mul_nonneg (Rat.mul_nonneg (by grind) (by grind)) (by grind)) ?_
   have t1:1≤((k+e)*M)*((k+e)*M)*(F*(1+8*j)):=by grind
   have t2:lo*lo*F≤((k+e)*M)*((k+e)*M)*(1+8*j)*F:=by grind
   have t3:lo*lo≤((k+e)*M)*((k+e)*M)*(1+8*j):=by
     by_cases c:lo*lo≤((k+e)*M)*((k+e)*M)*(1+8*j)
     · exact c
     · have:=Rat.mul_pos (a:=lo*lo - ((k+e)*M)*((k+e)*M)*(1+8*j)) (b:=F) (by grind) (by grind)
       grind
   have t4:0≤((k+e)*M)*((k+e)*M)*(1+8*j)*(8*j):=Rat.mul_nonneg (Rat.mul_nonneg (sq_nonneg _) (by grind)) (by grind)
   grind
 have s3:=rmul_le s2 (c:=1 - 8*j) (by grind)
 have s4:0≤(k+e)*M*(64*(j*j)):=Rat.mul_nonneg (Rat.mul_nonneg (by grind) (by grind)) (by have:=sq_nonneg j;grind)
 grind
theorem aYk (c d:Rat)(hd:0 < d):∃n0:Nat,0 < n0∧∀n:Nat,n0≤n→c*(1 / (n:Rat)) < d:=by
 have hd1:=odm hd
 have hd0:=inv_nn (Rat.le_of_lt hd)
 have hx:0≤(if 0≤c then c else 0)*(1 / d):=Rat.mul_nonneg (by split<;>grind) hd0
 obtain⟨s,h1,h2⟩:=fl _ hx
 refine⟨s+1,by omega,fun n hn=>?_⟩
 have hn1:(s:Rat)+1≤(n:Rat):=by
   have:=rcast_le (a:=((s+1:Nat):Int)) (b:=(n:Int)) (by omega)
   have e:(((s+1:Nat):Int):Rat)=(s:Rat)+1:=iH s
   rw [e] at this
   exact this
 have s0:=sC s
 have i1:=odm (r:=(n:Rat)) (by grind)
 have i0:=inv_nn (a:=(n:Rat)) (by grind)
 have cd:c < d*(n:Rat):=by
   have a1:(if 0≤c then c else 0)*(1 / d) < (n:Rat):=by grind
   have a2:c≤(if 0≤c then c else 0):=by grind
   have a3:=Rat.mul_pos (a:=(n:Rat) - (if 0≤c then c else 0)*(1 / d)) (b:=d) (by grind) hd
   have a4:((n:Rat) - (if 0≤c then c else 0)*(1 / d))*d=(n:Rat)*d - (if 0≤c then c else 0)*(1 / d*d):=by grind
   rw [a4,hd1] at a3
   grind
 have ip:0 < 1 / (n:Rat):=by
   rw [Rat.div_def];have:=Rat.inv_pos.mpr (show(0:Rat) < (n:Rat) by grind);grind
 have:=Rat.mul_pos (a:=d*(n:Rat) - c) (b:=1 / (n:Rat)) (by grind) ip
 have e:(d*(n:Rat) - c)*(1 / (n:Rat))=d*(1 / (n:Rat)*(n:Rat)) - c*(1 / (n:Rat)):=by grind
 rw [e,i1] at this
 grind
theorem aYl {x y c:Rat} {n0:Nat} (h:∀n:Nat,n0≤n→x≤y+c*(1 / (n:Rat))):x≤y:=by
 by_cases d:x≤y
 · exact d
 · obtain⟨n1,_,h1⟩:=aYk c (x - y) (by grind)
   have a:=h (n0+n1) (by omega)
   have b:=h1 (n0+n1) (by omega)
   grind
theorem aGj {α:Type} {X:List α} {P:α→Rat→Prop} (h:∀t,t∈X→∃C:Rat,0≤C∧∀C',C≤C'→P t C'):∃C:Rat,0≤C∧∀t,t∈X→∀C',C≤C'→P t C':=by
 induction X with
 | nil=>exact⟨0,Rat.le_refl,fun t ht=>by cases ht⟩
 | cons a X ih =>
   obtain⟨C1,h1,h2⟩:=h a List.mem_cons_self
   obtain⟨C2,h3,h4⟩:=ih (fun t ht=>h t (List.mem_cons_of_mem _ ht))
   refine⟨C1+C2,by grind,fun t ht C' hC=>?_⟩
   rcases List.mem_cons.1 ht with rfl | ht
   · exact h2 C' (by grind)
   · exact h4 t ht C' (by grind)
def rimT (t:Tri)(h:Rat):Prop:=∃r:Nat,0 < r∧(r:Int)*r≤nsq (cr (vs t.B t.A) (vs t.C t.A))∧0 < nsq (vs t.B t.A)∧3217≤128*((r:Int):Rat)*(h*h)
theorem aTc (x y z:V3):vs (va x z) y=va (vs x y) z:=by
 simp only [vs,va,Prod.mk.injEq];omega
theorem aVh {t t':Tri} {h:Rat} (hh:0 < h)(hn:(∃f:Int,1≤f∧1≤h*h*(f:Rat)∧nearT t' t f)∨rimT t h) :
   ∃C:Rat,0≤C∧∀C',C≤C'→∀(K:V3→Rat),(∀p,0≤K p)→(∀p,K p≤1 / 4)→(∀p,K p*K p*((nsq p+16:Int):Rat)≤1)→∀(n:Nat),8≤n→∀(i j:Nat) (z:V3),i+j < n*n*n*n→inb ((n*n*n:Nat):Int) z →
     gQ K (va (tpt t' (n*n*n*n) i j) z) t.A (vs t.B t.A) (vs t.C t.A) (n*n*n*n)*((n*n*n*n:Nat):Rat)≤ns (n*n*n*n)*(h+C'*(1 / (n:Rat))):=by
 rcases hn with⟨f,hf,hfh,hg⟩ | ⟨r,hr0,hr,hu,hrh⟩
 · refine⟨8*h,by grind,fun C' hC K k0 k1 k2 n hn i j z hij hz=>?_⟩
   have n8:(8:Rat)≤(n:Rat):=rcast_le (a:=8) (b:=(n:Int)) (by omega)
   have inn0:=inv_nn (a:=(n:Rat)) (by grind)
   unfold gQ ns
   have e1:sm (n*n*n*n) (fun j'=>sm (n*n*n*n - j') (fun i'=>K (vs (va (tpt t' (n*n*n*n) i j) z) (pt t.A (vs t.B t.A) (vs t.C t.A) (n*n*n*n) i' j'))))*((n*n*n*n:Nat):Rat)=sm (n*n*n*n) (fun j'=>sm (n*n*n*n - j') (fun i'=>((n*n*n*n:Nat):Rat)*K (vs (va (tpt t' (n*n*n*n) i j) z) (pt t.A (vs t.B t.A) (vs t.C t.A) (n*n*n*n) i' j')))):=by
     have:∀S:Rat,S*((n*n*n*n:Nat):Rat)=((n*n*n*n:Nat):Rat)*S:=fun S=>by grind
     rw [this,←cW]
     exact bL (fun j' _=>by rw [←cW])
   have e2:sm (n*n*n*n) (fun j'=>sm (n*n*n*n - j') (fun _=>1))*(h+C'*(1 / (n:Rat)))=sm (n*n*n*n) (fun j'=>sm (n*n*n*n - j') (fun _=>(h+C'*(1 / (n:Rat)))*1)):=by
     have:∀S:Rat,S*(h+C'*(1 / (n:Rat)))=(h+C'*(1 / (n:Rat)))*S:=fun S=>by grind
     rw [this,←cW]
     exact bL (fun j' _=>by rw [←cW])
   rw [e1,e2]
   refine lT (fun j' hj'=>lT (fun i' hi'=>?_))
   have hp:pt t.A (vs t.B t.A) (vs t.C t.A) (n*n*n*n) i' j'=tpt t (n*n*n*n) i' j':=rfl
   rw [hp,aTc]
   have:=aVg k0 k2 hn hh hf hfh (aR3 hg hij (show i'+j' < n*n*n*n by omega)) hz
   have c1:=rmul_le hC inn0
   grind
 · obtain⟨C,hC0,hC⟩:=rim (A:=t.A) hu hr hr0 hh hrh
   refine⟨C,hC0,fun C' hCC K k0 k1 k2 n hn i j z hij hz=>?_⟩
   have n8:(8:Rat)≤(n:Rat):=rcast_le (a:=8) (b:=(n:Int)) (by omega)
   have inn0:=inv_nn (a:=(n:Rat)) (by grind)
   refine Rat.le_trans (hC K k1 k2 _ n (by omega)) ?_
   have N0:0≤ns (n*n*n*n):=by
     have:=aO4 (n*n*n*n)
     have m0:=sC (n*n*n*n)
     have:=Rat.mul_nonneg m0 (show(0:Rat)≤((n*n*n*n:Nat):Rat)+1 by grind)
     grind
   refine rmul_le' ?_ N0
   have:=rmul_le hCC inn0
   grind
def potAt (Y:List Tri)(V:Rat)(t:Tri)(M i j:Nat):Prop:=∃lo:Tri→Rat,(∀s,s∈Y→0≤lo s∧∃f:Int,1≤f∧lo s*lo s*(f:Rat)≤1∧∀i' j':Nat,i'+j' < M→nsq (vs (tpt t M i j) (tpt s M i' j'))≤(M:Int)*(M*f))∧V≤ls Y (fun s=>s.q*lo s)
theorem cap {X Y:List Tri} {G:Nat} {h:Tri→Tri→Rat} {V E:Rat}
   (hX:∀t,t∈X→0≤t.q∧tin G t) (hY:∀s,s∈Y→0≤s.q∧tin G s)
   (hpot:∀t,t∈X→∀M i j:Nat,i+j < M→potAt Y V t M i j)
   (hnear:∀t,t∈X→∀t',t'∈X→0 < h t t'∧((∃f:Int,1≤f∧1≤h t t'*h t t'*(f:Rat)∧nearT t' t f)∨rimT t (h t t')))
   (hE:ls X (fun t'=>t'.q*ls X (fun t=>t.q*h t t'))≤E):tot X*tot X*V≤tot Y*E:=by
 have hX0:0≤tot X:=hO (fun t ht=>(hX t ht).1)
 have hY0:0≤tot Y:=hO (fun t ht=>(hY t ht).1)
 have hE0:0≤E:=Rat.le_trans (hO (fun t' ht'=>Rat.mul_nonneg (hX t' ht').1 (hO (fun t ht=>Rat.mul_nonneg (hX t ht).1 (Rat.le_of_lt (hnear t ht t' ht').1))))) hE
 have r0:=Rat.mul_nonneg hY0 hE0
 by_cases hVp:0 < V
 case neg =>
   have:=Rat.mul_nonneg (Rat.mul_nonneg hX0 hX0) (show 0≤-V by grind)
   grind
 by_cases hXe:tot X=0
 · rw [hXe];grind
 have hXp:0 < tot X:=by grind
 have hYV:V≤tot Y:=by
   match X,hXe with
   | [],hXe=>exact absurd rfl hXe
   | t::_,_ =>
     obtain⟨lo,hlo,hV⟩:=hpot t List.mem_cons_self 1 0 0 (by omega)
     refine Rat.le_trans hV (qU (fun s hs=>?_))
     obtain⟨l0,f,f1,f2,_⟩:=hlo s hs
     have f1':=rcast_le f1
     have c1:((1:Int):Rat)=1:=rfl
     rw [c1] at f1'
     have l1:lo s≤1:=cO (by decide) (by
       have:=rmul_le' f1' (sq_nonneg (lo s))
       grind)
     have:=rmul_le' l1 (hY s hs).1
     grind
 have hYp:0 < tot Y:=by grind
 -- one constant for all pairs
 have hC:∃C:Rat,0≤C∧∀t,t∈X→∀C',C≤C'→∀t',t'∈X→∀(K:V3→Rat),(∀p,0≤K p)→(∀p,K p≤1 / 4)→(∀p,K p*K p*((nsq p+16:Int):Rat)≤1)→∀(n:Nat),8≤n→∀(i j:Nat) (z:V3),i+j < n*n*n*n→inb ((n*n*n:Nat):Int) z →
     gQ K (va (tpt t' (n*n*n*n) i j) z) t.A (vs t.B t.A) (vs t.C t.A) (n*n*n*n)*((n*n*n*n:Nat):Rat)≤ns (n*n*n*n)*(h t t'+C'*(1 / (n:Rat))):=by
   refine aGj (fun t ht=>?_)
   have:=aGj (X:=X) (P:=fun t' C'=>∀(K:V3→Rat),(∀p,0≤K p)→(∀p,K p≤1 / 4)→(∀p,K p*K p*((nsq p+16:Int):Rat)≤1)→∀(n:Nat),8≤n→∀(i j:Nat) (z:V3),i+j < n*n*n*n→inb ((n*n*n:Nat):Int) z →
     gQ K (va (tpt t' (n*n*n*n) i j) z) t.A (vs t.B t.A) (vs t.C t.A) (n*n*n*n)*((n*n*n*n:Nat):Rat)≤ns (n*n*n*n)*(h t t'+C'*(1 / (n:Rat)))) (fun t' ht'=>aVh (hnear t ht t' ht').1 (hnear t ht t' ht').2)
   obtain⟨C,c0,c1⟩:=this
   exact⟨C,c0,fun C' hC' t' ht'=>c1 t' ht' C' hC'⟩
 obtain⟨C,hC0,hC⟩:=hC
 -- n large
 obtain⟨n0,hn0p,hn0⟩:=aYk (8*V+3*tot Y) V hVp
 refine aYl (n0:=n0+56708) (c:=tot X*tot X*(113408*V+3*tot Y)+tot Y*(tot X*tot X*(C+14175))) (fun n hn=>?_)
 have hn8:8≤n:=by omega
 have hsmall:=hn0 n (by omega)
 have n8:(56700:Rat)≤(n:Rat):=rcast_le (a:=56700) (b:=(n:Int)) (by omega)
 have inn:=odm (r:=(n:Rat)) (by grind)
 have inn0:=inv_nn (a:=(n:Rat)) (by grind)
 generalize hM:n*n*n*n=M at *
 have hMr:(M:Rat)=(n:Rat)*(n:Rat)*(n:Rat)*(n:Rat):=by
   rw [←hM]
   have h2:(((n*n*n*n:Nat):Int):Rat)=((n:Int):Rat)*((n:Int):Rat)*((n:Int):Rat)*((n:Int):Rat):=by
     rw [pw,rcast_mul,rcast_mul,rcast_mul]
   exact h2
 have n2p:1≤(n:Rat)*(n:Rat):=by
   have a1:=rmul_le n8 (show(0:Rat)≤(n:Rat) by grind)
   grind
 have n3p:1≤(n:Rat)*(n:Rat)*(n:Rat):=by
   have a2:=rmul_le n2p (show(0:Rat)≤(n:Rat) by grind)
   grind
 have M1:1≤(M:Rat):=by
   rw [hMr]
   have:=rmul_le n3p (show(0:Rat)≤(n:Rat) by grind)
   grind
 have iM:=odm (r:=(M:Rat)) (by grind)
 have iM0:=inv_nn (a:=(M:Rat)) (by grind)
 have hMn:1≤M:=by
   have:(0:Rat) < (M:Rat):=by grind
   rcases Nat.eq_zero_or_pos M with c | c
   · rw [c] at this;exact absurd this (by decide)
   · exact c
 have hn3M:n*n*n≤M:=by rw [←hM];exact Nat.le_mul_of_pos_right _ (by omega)
 -- the boxes
 generalize hR:M*(G+1)+4=R
 have hRM:M≤R:=by rw [←hR];have:=Nat.le_mul_of_pos_right M (show 0 < G+1 by omega);omega
 have hRG:M*G≤R:=by rw [←hR];have:=Nat.mul_le_mul_left M (show G≤G+1 by omega);omega
 generalize hL1:n*R=L1
 have hL1R:R≤L1:=by rw [←hL1];exact Nat.le_mul_of_pos_left _ (by omega)
 generalize hL:4*(L1+1+R)+R=L
 generalize hnn:L+1+R=nn
 have hnnM:n*M≤nn:=by
   have:n*M≤n*R:=Nat.mul_le_mul_left _ hRM
   omega
 obtain⟨K,e,he,heN,hkb,hkn,hm1,hm2⟩:=aZ2 nn (by omega)
 have heM:e*(M:Rat)≤1 / (n:Rat):=by
   -- e (3 nn^2 + 16) <= 1 and n M <= nn <= nn nn
   have a1:(n:Rat)*(M:Rat)≤((3*(nn*nn:Nat)+16:Nat):Rat):=by
     have:((n*M:Nat):Int)≤((3*(nn*nn)+16:Nat):Int):=by
       have b1:nn*1≤nn*nn:=Nat.mul_le_mul_left _ (by omega)
       omega
     have b2:=rcast_le this
     have b3:(((n*M:Nat):Int):Rat)=(n:Rat)*(M:Rat):=by
       rw [Int.natCast_mul,rcast_mul];rfl
     rw [b3] at b2
     exact b2
   have a2:=rmul_le' a1 (Rat.le_of_lt he)
   have a3:e*((n:Rat)*(M:Rat))≤1:=Rat.le_trans a2 heN
   have a4:=rmul_le a3 inn0
   have a5:e*((n:Rat)*(M:Rat))*(1 / (n:Rat))=e*(M:Rat)*(1 / (n:Rat)*(n:Rat)):=by grind
   rw [a5,inn] at a4
   grind
 have N2:=aO4 M
 have N0:0 < ns M:=by
   have:=Rat.mul_pos (show(0:Rat) < (M:Rat) by grind) (show(0:Rat) < (M:Rat)+1 by grind)
   grind
 have N0':=Rat.le_of_lt N0
 have mX:cX (lU M X)=tot X*ns M:=aCq M X
 have mY:cX (lU M Y)=tot Y*ns M:=aCq M Y
 have inX:∀a,a∈lU M X→0≤a.1∧inb (R:Int) a.2:=by
   intro a ha
   obtain⟨t,ht,i,j,hij,rfl⟩:=aA0 ha
   refine⟨(hX t ht).1,?_⟩
   have:=aO5 hij (hX t ht).2
   simp only;unfold inb at *;omega
 have inY:∀a,a∈lU M Y→0≤a.1∧inb (R:Int) a.2:=by
   intro a ha
   obtain⟨t,ht,i,j,hij,rfl⟩:=aA0 ha
   refine⟨(hY t ht).1,?_⟩
   have:=aO5 hij (hY t ht).2
   simp only;unfold inb at *;omega
 have hU:∀a,a∈lU M X→∀z,inb ((n*n*n:Nat):Int) z→ns M*((1 - 8*(1 / (n:Rat)))*V - 1 / (n:Rat)*tot Y)*(1 / (M:Rat))≤eH K (lU M Y) (va a.2 z):=by
   intro a ha z hz
   obtain⟨t,ht,i,j,hij,rfl⟩:=aA0 ha
   obtain⟨lo,hlo,hV⟩:=hpot t ht M i j hij
   rw [aGg]
   have b1:ls Y (fun s=>ns M*((1 - 8*(1 / (n:Rat)))*(1 / (M:Rat)))*(s.q*lo s)+(-(ns M*(1 / (n:Rat))*(1 / (M:Rat))))*s.q)≤ls Y (fun s=>s.q*gQ K (va (tpt t M i j) z) s.A (vs s.B s.A) (vs s.C s.A) M):=by
     refine qU (fun s hs=>?_)
     obtain⟨l0,f,f1,f2,f3⟩:=hlo s hs
     have b2:ns M*(lo s*(1 - 8*(1 / (n:Rat))) - 1 / (n:Rat))≤gQ K (va (tpt t M i j) z) s.A (vs s.B s.A) (vs s.C s.A) M*(M:Rat):=by
       unfold gQ ns
       have e1:sm M (fun j'=>sm (M - j') (fun i'=>K (vs (va (tpt t M i j) z) (pt s.A (vs s.B s.A) (vs s.C s.A) M i' j'))))*(M:Rat)=sm M (fun j'=>sm (M - j') (fun i'=>(M:Rat)*K (vs (va (tpt t M i j) z) (pt s.A (vs s.B s.A) (vs s.C s.A) M i' j')))):=by
         have:∀S:Rat,S*(M:Rat)=(M:Rat)*S:=fun S=>by grind
         rw [this,←cW]
         exact bL (fun j' _=>by rw [←cW])
       have e2:sm M (fun j'=>sm (M - j') (fun _=>1))*(lo s*(1 - 8*(1 / (n:Rat))) - 1 / (n:Rat))=sm M (fun j'=>sm (M - j') (fun _=>(lo s*(1 - 8*(1 / (n:Rat))) - 1 / (n:Rat))*1)):=by
         have:∀S:Rat,S*(lo s*(1 - 8*(1 / (n:Rat))) - 1 / (n:Rat))=(lo s*(1 - 8*(1 / (n:Rat))) - 1 / (n:Rat))*S:=fun S=>by grind
         rw [this,←cW]
         exact bL (fun j' _=>by rw [←cW])
       rw [e1,e2]
       refine lT (fun j' hj'=>lT (fun i' hi'=>?_))
       have hp:pt s.A (vs s.B s.A) (vs s.C s.A) M i' j'=tpt s M i' j':=rfl
       rw [hp,aTc]
       have fp:=f3 i' j' (show i'+j' < M by omega)
       have:=aYj (e:=e) hkb.pos hkb.lo (Rat.le_of_lt he) hn8 (by rw [hM];exact heM) l0 f1 f2 (by rw [hM];exact fp) hz
       rw [hM] at this
       grind
     have b3:=rmul_le b2 iM0
     have b4:gQ K (va (tpt t M i j) z) s.A (vs s.B s.A) (vs s.C s.A) M*(M:Rat)*(1 / (M:Rat))=gQ K (va (tpt t M i j) z) s.A (vs s.B s.A) (vs s.C s.A) M*(1 / (M:Rat)*(M:Rat)):=by grind
     rw [b4,iM] at b3
     have b5:=rmul_le' b3 (hY s hs).1
     grind
   refine Rat.le_trans ?_ b1
   rw [aEg,ls_mul,ls_mul]
   have c1:=hV
   have c2:(0:Rat)≤1 - 8*(1 / (n:Rat)):=by
     have:=rmul_le' n8 inn0
     rw [inn] at this
     grind
   have c3:=rmul_le' c1 (Rat.mul_nonneg N0' (Rat.mul_nonneg c2 iM0))
   have:ls Y (fun a=>a.q)=tot Y:=rfl
   rw [this]
   grind
 have hEn:∀z,inb ((n*n*n:Nat):Int) z→ls (lU M X) (fun a=>a.1*eH K (lU M X) (va a.2 z))≤ns M*ns M*(E+tot X*tot X*C*(1 / (n:Rat)))*(1 / (M:Rat)):=by
   intro z hz
   unfold lU
   rw [ls_flat]
   have b0:ls X (fun t'=>ls (smp M t') (fun a=>a.1*eH K (lU M X) (va a.2 z)))≤ls X (fun t'=>ns M*ns M*(1 / (M:Rat))*(t'.q*ls X (fun t=>t.q*h t t'))+ns M*ns M*(1 / (M:Rat))*(C*(1 / (n:Rat)))*tot X*t'.q):=by
     refine qU (fun t' ht'=>?_)
     rw [aIg]
     have b1:∀i j:Nat,i+j < M→eH K (lU M X) (va (tpt t' M i j) z)≤ns M*(1 / (M:Rat))*(ls X (fun t=>t.q*h t t')+C*(1 / (n:Rat))*tot X):=by
       intro i j hij
       rw [aGg]
       have b2:ls X (fun t=>t.q*gQ K (va (tpt t' M i j) z) t.A (vs t.B t.A) (vs t.C t.A) M)≤ls X (fun t=>ns M*(1 / (M:Rat))*(t.q*h t t')+ns M*(1 / (M:Rat))*(C*(1 / (n:Rat)))*t.q):=by
         refine qU (fun t ht=>?_)
         have b3:=hC t ht C Rat.le_refl t' ht' K hkb.pos hkn.quart hkb.up n hn8 i j z (by rw [hM];exact hij) hz
         rw [hM] at b3
         have b4:=rmul_le b3 iM0
         have b5:gQ K (va (tpt t' M i j) z) t.A (vs t.B t.A) (vs t.C t.A) M*(M:Rat)*(1 / (M:Rat))=gQ K (va (tpt t' M i j) z) t.A (vs t.B t.A) (vs t.C t.A) M*(1 / (M:Rat)*(M:Rat)):=by grind
         rw [b5,iM] at b4
         have b6:=rmul_le' b4 (hX t ht).1
         grind
       refine Rat.le_trans b2 ?_
       rw [aEg,ls_mul,ls_mul]
       have:ls X (fun a=>a.q)=tot X:=rfl
       rw [this]
       grind
     have b7:sm M (fun j=>sm (M - j) (fun i=>t'.q*eH K (lU M X) (va (tpt t' M i j) z)))≤sm M (fun j=>sm (M - j) (fun _=>t'.q*(ns M*(1 / (M:Rat))*(ls X (fun t=>t.q*h t t')+C*(1 / (n:Rat))*tot X))*1)):=by
       refine lT (fun j hj=>lT (fun i hi=>?_))
       have:=rmul_le' (b1 i j (by omega)) (hX t' ht').1
       grind
     refine Rat.le_trans b7 (jQ ?_)
     have b8:sm M (fun j=>sm (M - j) (fun _=>t'.q*(ns M*(1 / (M:Rat))*(ls X (fun t=>t.q*h t t')+C*(1 / (n:Rat))*tot X))*1))=t'.q*(ns M*(1 / (M:Rat))*(ls X (fun t=>t.q*h t t')+C*(1 / (n:Rat))*tot X))*ns M:=by
       unfold ns
       rw [←cW]
       exact bL (fun j _=>by rw [←cW])
     rw [b8];grind
   refine Rat.le_trans b0 ?_
   rw [aEg,ls_mul,ls_mul]
   have:ls X (fun a=>a.q)=tot X:=rfl
   rw [this]
   have c1:=rmul_le' hE (Rat.mul_nonneg (Rat.mul_nonneg N0' N0') iM0)
   grind
 -- lambda
 have d1:(n:Rat)*(M:Rat)≤2*((L1+1 - R:Int):Rat):=by
   have:(((n*M:Nat):Int))≤2*((L1:Int)+1 - R):=by
     have b1:n*M≤n*R:=Nat.mul_le_mul_left _ hRM
     have b2:2*R≤n*R:=Nat.mul_le_mul_right _ (by omega)
     rw [hL1] at b1 b2
     omega
   have b2:=rcast_le this
   rw [rcast_mul] at b2
   have b3:(((n*M:Nat):Int):Rat)=(n:Rat)*(M:Rat):=by
     rw [Int.natCast_mul,rcast_mul];rfl
   rw [b3] at b2
   exact b2
 have dpos:(0:Rat) < ((L1+1 - R:Int):Rat):=rcast_pos (by omega)
 have hlam:tot Y*ns M / ((L1+1 - R:Int):Rat)≤ns M*(2*(1 / (n:Rat))*tot Y)*(1 / (M:Rat)):=by
   have id:=odm dpos
   have id0:=inv_nn (Rat.le_of_lt dpos)
   rw [qJ]
   -- 1/d <= 2 j / M
   have b1:1 / ((L1+1 - R:Int):Rat)≤2*(1 / (n:Rat))*(1 / (M:Rat)):=by
     have b2:=rmul_le d1 (Rat.mul_nonneg id0 (Rat.mul_nonneg inn0 iM0))
     have e1:(n:Rat)*(M:Rat)*(1 / ((L1+1 - R:Int):Rat)*(1 / (n:Rat)*(1 / (M:Rat))))=(1 / (n:Rat)*(n:Rat))*(1 / (M:Rat)*(M:Rat))*(1 / ((L1+1 - R:Int):Rat)):=by grind
     have e2:2*((L1+1 - R:Int):Rat)*(1 / ((L1+1 - R:Int):Rat)*(1 / (n:Rat)*(1 / (M:Rat))))=(1 / ((L1+1 - R:Int):Rat)*((L1+1 - R:Int):Rat))*(2*(1 / (n:Rat))*(1 / (M:Rat))):=by grind
     rw [e1,e2,inn,iM,id] at b2
     grind
   have:=rmul_le' b1 (Rat.mul_nonneg hY0 N0')
   grind
 have hvl:cX (lU M Y) / ((L1+1 - R:Int):Rat) < ns M*((1 - 8*(1 / (n:Rat)))*V - 1 / (n:Rat)*tot Y)*(1 / (M:Rat)):=by
   rw [mY]
   have b1:0 < ns M*(1 / (M:Rat)):=Rat.mul_pos N0 (by rw [Rat.div_def];have:=Rat.inv_pos.mpr (show(0:Rat) < (M:Rat) by grind);grind)
   have b2:=Rat.mul_pos (a:=ns M*(1 / (M:Rat))) (b:=V - (8*V+3*tot Y)*(1 / (n:Rat))) b1 (by grind)
   grind
 have hmm:=hm1 nn (Nat.le_refl _)
 have fin:=aZ1 (K:=K) (X:=lU M X) (Y:=lU M Y) (R:=R) (s:=n*n*n) (L1:=L1) (L:=L) (n:=nn) hL.symm hnn.symm (by omega) hL1R (by omega) hkn inX inY hU hEn hvl (by grind) (by rw [mY];exact Rat.mul_pos hYp N0)
 have ht:=hm2 (n*n*n) nn (by
   have:(1:Rat)≤((n*n*n:Nat):Rat):=by
     have e3:((n*n*n:Nat):Rat)=(n:Rat)*(n:Rat)*(n:Rat):=by
       have:((n*n*n:Nat):Int)=(n:Int)*n*n:=by simp
       have h2:(((n*n*n:Nat):Int):Rat)=((n:Int):Rat)*((n:Int):Rat)*((n:Int):Rat):=by rw [this,rcast_mul,rcast_mul]
       exact h2
     rw [e3];exact n3p
   rcases Nat.eq_zero_or_pos (n*n*n) with c | c
   · rw [c] at this;exact absurd this (by decide)
   · exact c) (by omega) (Nat.le_refl _)
 have e3:((n*n*n:Nat):Rat)=(n:Rat)*(n:Rat)*(n:Rat):=by
   have:((n*n*n:Nat):Int)=(n:Int)*n*n:=by simp
   have h2:(((n*n*n:Nat):Int):Rat)=((n:Int):Rat)*((n:Int):Rat)*((n:Int):Rat):=by rw [this,rcast_mul,rcast_mul]
   exact h2
 rw [e3] at ht
 rw [mX,mY] at fin
 have hms0:bx (n*n*n) (cB K)≤bx nn (cB K):=by
   have:=rZ (L:=nn) (M:=n*n*n) (a:=(0,0,0)) (f:=cB K) (fun p hp=>hkn.rho p hp) (fun p hp=>by simp only [inb,va] at *;omega)
   have e:∀z:V3,va (0,0,0) z=z:=fun z=>by obtain⟨a,b,c⟩:=z;simp only [va,Prod.mk.injEq];omega
   simp only [e] at this
   exact this
 have hms1:=hm1 (n*n*n) (by omega)
 -- plain algebra from here
 clear hU hEn hkb hkn hm1 hm2 hC hpot hnear hE inX inY hX hY mX mY heN heM he hn0 hnnM dpos
 generalize bx nn (cB K)=m at *
 generalize bx (n*n*n) (cB K)=ms at *
 generalize tot X=a at *
 generalize tot Y=b at *
 generalize ns M=N at *
 generalize b*N / ((L1+1 - R:Int):Rat)=lam at *
 generalize hMq:(M:Rat)=Mr at *
 generalize (n:Rat)=r at *
 generalize 1 / r=j at *
 generalize 1 / Mr=i at *
 have j1:56700*j≤1:=by
   have:=rmul_le' n8 inn0
   rw [inn] at this
   grind
 have j2:j*j≤j:=by
   have:=rmul_le' (show j≤1 by grind) inn0
   grind
 -- the tail
 have ht2:m - ms≤2268*(j*j*j*(j*j*j)):=by
   have:=rmul_le ht (c:=j*j*j*(j*j*j)) (sq_nonneg _)
   have e1:(m - ms)*(r*r*r*(r*r*r))*(j*j*j*(j*j*j))=(m - ms)*((j*r)*(j*r)*(j*r)*((j*r)*(j*r)*(j*r))):=by grind
   rw [e1,inn] at this
   grind
 have mp:0 < m:=by grind
 have ht3:Mr*(m - ms)≤56700*j*m:=by
   have b1:=rmul_le' ht2 (show 0≤Mr by grind)
   have b2:Mr*(2268*(j*j*j*(j*j*j)))=2268*(j*j)*((j*r)*(j*r)*(j*r)*(j*r)):=by rw [hMr];grind
   rw [b2,inn] at b1
   have b3:=rmul_le' hmm inn0
   grind
 have ht4:m*(1 - 56700*j)≤ms:=by
   have b1:m - ms≤Mr*(m - ms):=by
     have:=rmul_le M1 (show 0≤m - ms by grind)
     grind
   grind
 have hW:0 < V - (8*V+3*b)*j:=by grind
 have ms2:m*m*(1 - 113400*j)≤ms*ms:=by
   have c0:0≤m*(1 - 56700*j):=Rat.mul_nonneg (Rat.le_of_lt mp) (by grind)
   have c1:=rmul_le ht4 c0
   have c2:=rmul_le' ht4 (show 0≤ms by grind)
   have c3:0≤m*m*(56700*j*(56700*j)):=Rat.mul_nonneg (sq_nonneg m) (sq_nonneg _)
   grind
 have hvl2:N*i*(V - (8*V+3*b)*j)≤N*((1 - 8*j)*V - j*b)*i - lam:=by grind
 -- fin divided by N^3 i
 have qk1:=rmul_le' hvl2 (show 0≤a*N*ms*(a*N*ms) from sq_nonneg _)
 have qk2:a*N*ms*(a*N*ms)*(N*i*(V - (8*V+3*b)*j))≤(m*(N*N*(E+a*a*C*j)*i)+a*N*(a*N)*(1 / 4)*(m - ms))*(b*N*m):=Rat.le_trans qk1 fin
 have qk3:a*a*(ms*ms)*(V - (8*V+3*b)*j)≤(m*(E+a*a*C*j)+a*a*(1 / 4)*(Mr*(m - ms)))*(b*m):=by
   have ip:0 < N*N*N*i:=by
     have:0 < i:=by
       by_cases c:i=0
       · rw [c] at iM;grind
       · grind
     exact Rat.mul_pos (Rat.mul_pos (Rat.mul_pos N0 N0) N0) this
   have e1:a*N*ms*(a*N*ms)*(N*i*(V - (8*V+3*b)*j))=(a*a*(ms*ms)*(V - (8*V+3*b)*j))*(N*N*N*i):=by grind
   have e2:(m*(N*N*(E+a*a*C*j)*i)+a*N*(a*N)*(1 / 4)*(m - ms))*(b*N*m)=((m*(E+a*a*C*j)+a*a*(1 / 4)*(Mr*(m - ms)))*(b*m))*(N*N*N*i):=by
     have:a*N*(a*N)*(1 / 4)*(m - ms)=a*N*(a*N)*(1 / 4)*(m - ms)*(i*Mr):=by rw [iM];grind
     rw [this];grind
   rw [e1,e2] at qk2
   generalize a*a*(ms*ms)*(V - (8*V+3*b)*j)=Lh at *
   generalize (m*(E+a*a*C*j)+a*a*(1 / 4)*(Mr*(m - ms)))*(b*m)=Rh at *
   by_cases c:Lh≤Rh
   · exact c
   · have:=Rat.mul_pos (a:=Lh - Rh) (b:=N*N*N*i) (by grind) ip
     grind
 have aa0:=sq_nonneg a
 have qk4:a*a*(m*m*(1 - 113400*j))*(V - (8*V+3*b)*j)≤a*a*(ms*ms)*(V - (8*V+3*b)*j):=rmul_le (rmul_le' ms2 aa0) (Rat.le_of_lt hW)
 have qk5:(m*(E+a*a*C*j)+a*a*(1 / 4)*(Mr*(m - ms)))*(b*m)≤(m*(E+a*a*C*j)+a*a*(1 / 4)*(56700*j*m))*(b*m):=by
   have:=rmul_le' ht3 (show 0≤a*a*(1 / 4) by grind)
   exact rmul_le (by grind) (Rat.mul_nonneg hY0 (Rat.le_of_lt mp))
 have qk6:a*a*((1 - 113400*j)*(V - (8*V+3*b)*j))≤b*(E+a*a*(C+14175)*j):=by
   have e1:a*a*(m*m*(1 - 113400*j))*(V - (8*V+3*b)*j)=(a*a*((1 - 113400*j)*(V - (8*V+3*b)*j)))*(m*m):=by grind
   have e2:(m*(E+a*a*C*j)+a*a*(1 / 4)*(56700*j*m))*(b*m)=(b*(E+a*a*(C+14175)*j))*(m*m):=by grind
   have qk7:=Rat.le_trans qk4 (Rat.le_trans qk3 qk5)
   rw [e1,e2] at qk7
   have mm:=Rat.mul_pos mp mp
   generalize a*a*((1 - 113400*j)*(V - (8*V+3*b)*j))=Lh at *
   generalize b*(E+a*a*(C+14175)*j)=Rh at *
   by_cases c:Lh≤Rh
   · exact c
   · have:=Rat.mul_pos (a:=Lh - Rh) (b:=m*m) (by grind) mm
     grind
 have qk8:V - (113408*V+3*b)*j≤(1 - 113400*j)*(V - (8*V+3*b)*j):=by
   have:0≤113400*j*((8*V+3*b)*j):=Rat.mul_nonneg (by grind) (Rat.mul_nonneg (by grind) inn0)
   grind
 have qk9:=rmul_le' qk8 aa0
 grind
theorem potAt_of {Y:List Tri} {V:Rat} {t:Tri} (lo:Tri→Rat)(hlo:∀s,s∈Y→0≤lo s∧∃f:Int,1≤f∧lo s*lo s*(f:Rat)≤1∧aYi t s f)(hV:V≤ls Y (fun s=>s.q*lo s)) {M i j:Nat} (hij:i+j < M):potAt Y V t M i j :=
 ⟨lo,fun s hs=>by
   obtain⟨l0,f,f1,f2,f3⟩:=hlo s hs
   exact⟨l0,f,f1,f2,fun i' j' h=>aVf f3 hij h⟩,hV⟩
end CapT
end Go.Proofs.Ytaeagjnpobdglaa
namespace Go.Proofs.Ytaeagjnpobdglaa
open Go.Proofs Go.Aw Go.RowKit
set_option maxRecDepth 100000
def fY (w:Int)(q:PN)(X:P3):Prop:=∃i j k:Int,0≤i∧0≤j∧0≤k∧i+j+k=w∧X.1=i*q.1.1+j*q.2.1.1+k*q.2.2.1∧X.2.1=i*q.1.2.1+j*q.2.1.2.1+k*q.2.2.2.1∧X.2.2=i*q.1.2.2+j*q.2.1.2.2+k*q.2.2.2.2
theorem aEn {w v:Int} {q:PN} {X Y:P3} (h:fY w q X)(h':fY v q Y):fY (w+v) q (ad X Y):=by
 obtain⟨i,j,k,a1,a2,a3,a4,a5,a6,a7⟩:=h
 obtain⟨i',j',k',b1,b2,b3,b4,b5,b6,b7⟩:=h'
 refine⟨i+i',j+j',k+k',by omega,by omega,by omega,by omega,?_,?_,?_⟩
 · simp only [ad];rw [a5,b5];grind
 · simp only [ad];rw [a6,b6];grind
 · simp only [ad];rw [a7,b7];grind
theorem aGk:∀(d:Nat) {m:Int} {q b:PN},bdP m q→m*2 ^ d≤100000→0≤m→b∈aO d q→fY (2 ^ d) q b.1∧fY (2 ^ d) q b.2.1∧fY (2 ^ d) q b.2.2
 | 0,m,q,b,h,_,_,hx=>by
   simp only [aO,List.mem_singleton] at hx
   subst hx
   exact⟨⟨1,0,0,by simp,by simp,by simp,by simp,by simp,by simp,by simp⟩,⟨0,1,0,by simp,by simp,by simp,by simp,by simp,by simp,by simp⟩,⟨0,0,1,by simp,by simp,by simp,by simp,by simp,by simp,by simp⟩⟩
 | d+1,m,q,b,h,hm,h0,hx=>by
   rw [gB,List.mem_flatMap] at hx
   obtain⟨y,hy,hx⟩:=hx
   have hp:(0:Int) < 2 ^ d:=Int.pow_pos (by omega)
   have hle:m*2 ^ d≤m*2 ^ (d+1):=Int.mul_le_mul_of_nonneg_left (by rw [Int.pow_succ];omega) h0
   have hb:=xS d h (by omega) h0 hy
   obtain⟨i1,i2,i3⟩:=aGk d h (by omega) h0 hy
   obtain⟨a1,b1,a2,b2,a3,b3,h1,k1,h2,k2,h3,k3,rfl⟩:=aQ4 (hb.mono (by omega)) hx
   have key:∀a:P3,(a=y.1∨a=y.2.1∨a=y.2.2)→fY (2 ^ d) q a:=fun a ha=>by rcases ha with rfl | rfl | rfl<;>assumption
   have e:(2:Int) ^ (d+1)=2 ^ d+2 ^ d:=by rw [Int.pow_succ];omega
   rw [e]
   exact⟨aEn (key _ h1) (key _ k1),aEn (key _ h2) (key _ k2),aEn (key _ h3) (key _ k3)⟩
theorem aJ8 {q b:PN} {d:Int} (hq:bdP 64 q)(hd:0≤d∧d≤3)(hb:b∈aO d.toNat q):fY (sc d) q b.1∧fY (sc d) q b.2.1∧fY (sc d) q b.2.2:=by
 rcases d4 hd with rfl | rfl | rfl | rfl<;>exact aGk (m:=64) _ hq (by decide) (by decide) hb
theorem cau (i j k u v t:Int)(hi:0≤i)(hj:0≤j)(hk:0≤k):(i*u+j*v+k*t)*(i*u+j*v+k*t)≤(i+j+k)*(i*(u*u)+j*(v*v)+k*(t*t)):=by
 have h1:=Int.mul_nonneg (Int.mul_nonneg hi hj) (kB (u - v))
 have h2:=Int.mul_nonneg (Int.mul_nonneg hi hk) (kB (u - t))
 have h3:=Int.mul_nonneg (Int.mul_nonneg hj hk) (kB (v - t))
 have e:(i+j+k)*(i*(u*u)+j*(v*v)+k*(t*t)) - (i*u+j*v+k*t)*(i*u+j*v+k*t)=i*j*((u - v)*(u - v))+i*k*((u - t)*(u - t))+j*k*((v - t)*(v - t)):=by grind
 omega
theorem tY {w M:Int} {q:PN} {X Z:P3} (hw:1≤w)(h:fY w q X)(h1:ds (tm w q.1) Z≤M)(h2:ds (tm w q.2.1) Z≤M)(h3:ds (tm w q.2.2) Z≤M):ds X Z≤M:=by
 obtain⟨i,j,k,a1,a2,a3,a4,a5,a6,a7⟩:=h
 have c1:=cau i j k (w*q.1.1 - Z.1) (w*q.2.1.1 - Z.1) (w*q.2.2.1 - Z.1) a1 a2 a3
 have c2:=cau i j k (w*q.1.2.1 - Z.2.1) (w*q.2.1.2.1 - Z.2.1) (w*q.2.2.2.1 - Z.2.1) a1 a2 a3
 have c3:=cau i j k (w*q.1.2.2 - Z.2.2) (w*q.2.1.2.2 - Z.2.2) (w*q.2.2.2.2 - Z.2.2) a1 a2 a3
 rw [a4] at c1 c2 c3
 have f1:i*(w*q.1.1 - Z.1)+j*(w*q.2.1.1 - Z.1)+k*(w*q.2.2.1 - Z.1)=w*(X.1 - Z.1):=by rw [a5];subst a4;grind
 have f2:i*(w*q.1.2.1 - Z.2.1)+j*(w*q.2.1.2.1 - Z.2.1)+k*(w*q.2.2.2.1 - Z.2.1)=w*(X.2.1 - Z.2.1):=by rw [a6];subst a4;grind
 have f3:i*(w*q.1.2.2 - Z.2.2)+j*(w*q.2.1.2.2 - Z.2.2)+k*(w*q.2.2.2.2 - Z.2.2)=w*(X.2.2 - Z.2.2):=by rw [a7];subst a4;grind
 rw [f1] at c1;rw [f2] at c2;rw [f3] at c3
 have g1:=Int.mul_le_mul_of_nonneg_left h1 a1;have g2:=Int.mul_le_mul_of_nonneg_left h2 a2;have g3:=Int.mul_le_mul_of_nonneg_left h3 a3
 have e:w*w*ds X Z≤w*w*M:=by
   have e1:w*w*ds X Z=w*(X.1 - Z.1)*(w*(X.1 - Z.1))+w*(X.2.1 - Z.2.1)*(w*(X.2.1 - Z.2.1))+w*(X.2.2 - Z.2.2)*(w*(X.2.2 - Z.2.2)):=by unfold ds dt sb;grind
   have e2:w*(i*ds (tm w q.1) Z+j*ds (tm w q.2.1) Z+k*ds (tm w q.2.2) Z)=w*(i*((w*q.1.1 - Z.1)*(w*q.1.1 - Z.1))+j*((w*q.2.1.1 - Z.1)*(w*q.2.1.1 - Z.1))+k*((w*q.2.2.1 - Z.1)*(w*q.2.2.1 - Z.1)))+w*(i*((w*q.1.2.1 - Z.2.1)*(w*q.1.2.1 - Z.2.1))+j*((w*q.2.1.2.1 - Z.2.1)*(w*q.2.1.2.1 - Z.2.1))+k*((w*q.2.2.2.1 - Z.2.1)*(w*q.2.2.2.1 - Z.2.1)))+w*(i*((w*q.1.2.2 - Z.2.2)*(w*q.1.2.2 - Z.2.2))+j*((w*q.2.1.2.2 - Z.2.2)*(w*q.2.1.2.2 - Z.2.2))+k*((w*q.2.2.2.2 - Z.2.2)*(w*q.2.2.2.2 - Z.2.2))):=by unfold ds dt sb tm;grind
   have e3:w*(i*ds (tm w q.1) Z+j*ds (tm w q.2.1) Z+k*ds (tm w q.2.2) Z)≤w*(i*M+j*M+k*M):=Int.mul_le_mul_of_nonneg_left (by omega) (by omega)
   have e4:w*(i*M+j*M+k*M)=w*w*M:=by
     rw [show i*M+j*M+k*M=(i+j+k)*M by grind,a4];grind
   omega
 exact Int.le_of_mul_le_mul_left e (Int.mul_pos (by omega) (by omega))
theorem aIk {w M lo:Int} {A B C i j k:Int} (hi:0≤i)(hj:0≤j)(hk:0≤k)(hw:i+j+k=w)(hw1:1≤w)(h1:w*A≤M∧lo≤w*A)(h2:w*B≤M∧lo≤w*B)(h3:w*C≤M∧lo≤w*C):lo≤i*A+j*B+k*C∧i*A+j*B+k*C≤M:=by
 have e:w*(i*A+j*B+k*C)=i*(w*A)+j*(w*B)+k*(w*C):=by grind
 have l1:=Int.mul_le_mul_of_nonneg_left h1.1 hi;have l2:=Int.mul_le_mul_of_nonneg_left h2.1 hj;have l3:=Int.mul_le_mul_of_nonneg_left h3.1 hk
 have m1:=Int.mul_le_mul_of_nonneg_left h1.2 hi;have m2:=Int.mul_le_mul_of_nonneg_left h2.2 hj;have m3:=Int.mul_le_mul_of_nonneg_left h3.2 hk
 have e1:i*M+j*M+k*M=w*M:=by rw [←hw];grind
 have e2:i*lo+j*lo+k*lo=w*lo:=by rw [←hw];grind
 exact⟨Int.le_of_mul_le_mul_left (a:=w) (by omega) (by omega),Int.le_of_mul_le_mul_left (a:=w) (by omega) (by omega)⟩
theorem aA2 {w:Int} {q:PN} {X:P3} (hw:1≤w)(h:fY w q X):((uD (dE w q)).1≤X.1∧X.1≤(uE (dE w q)).1)∧((uD (dE w q)).2.1≤X.2.1∧X.2.1≤(uE (dE w q)).2.1)∧((uD (dE w q)).2.2≤X.2.2∧X.2.2≤(uE (dE w q)).2.2):=by
 obtain⟨i,j,k,a1,a2,a3,a4,a5,a6,a7⟩:=h
 have i1:=in3 (c:=dE w q) (a:=tm w q.1) (Or.inl rfl);have i2:=in3 (c:=dE w q) (a:=tm w q.2.1) (Or.inr (Or.inl rfl));have i3:=in3 (c:=dE w q) (a:=tm w q.2.2) (Or.inr (Or.inr rfl))
 simp only [tm] at i1 i2 i3
 rw [a5,a6,a7]
 exact⟨aIk a1 a2 a3 a4 hw ⟨i1.2.1,i1.1⟩ ⟨i2.2.1,i2.1⟩ ⟨i3.2.1,i3.1⟩,aIk a1 a2 a3 a4 hw ⟨i1.2.2.2.1,i1.2.2.1⟩ ⟨i2.2.2.2.1,i2.2.2.1⟩ ⟨i3.2.2.2.1,i3.2.2.1⟩,aIk a1 a2 a3 a4 hw ⟨i1.2.2.2.2.2,i1.2.2.2.2.1⟩ ⟨i2.2.2.2.2.2,i2.2.2.2.2.1⟩ ⟨i3.2.2.2.2.2,i3.2.2.2.2.1⟩⟩
theorem aEo (c q:PN) {a b:P3} (ha:a=c.1∨a=c.2.1∨a=c.2.2)(hb:b=q.1∨b=q.2.1∨b=q.2.2):ds a b≤lN c q:=by
 unfold lN
 have t1:=fun m (h:ds a b≤m) (n:Int)=>Int.le_trans h (bK m n)
 rcases ha with rfl | rfl | rfl<;>rcases hb with rfl | rfl | rfl<;>first | exact jB _ _ | (refine Int.le_trans ?_ (bK _ _);first | exact jB _ _ | (refine Int.le_trans ?_ (bK _ _);first | exact jB _ _ | (refine Int.le_trans ?_ (bK _ _);first | exact jB _ _ | (refine Int.le_trans ?_ (bK _ _);first | exact jB _ _ | (refine Int.le_trans ?_ (bK _ _);first | exact jB _ _ | (refine Int.le_trans ?_ (bK _ _);first | exact jB _ _ | (refine Int.le_trans ?_ (bK _ _);first | exact jB _ _ | (refine Int.le_trans ?_ (bK _ _);exact jB _ _))))))))
section
variable {q a b : PN} {d : Int}
theorem aO7 (hq:bdP 64 q)(hd:0≤d∧d≤3)(hb:b∈aO d.toNat q):mU a (dE (sc d) q)≤mU a b:=by
 obtain⟨h1,h2,h3⟩:=aJ8 hq hd hb
 have hw:=(aMy d).1
 have x1:=aA2 hw h1;have x2:=aA2 hw h2;have x3:=aA2 hw h3
 have key:∀u v w m:Int,m≤u→m≤v→m≤w→m≤nQ u v w:=fun u v w m e1 e2 e3=>by rcases aDp u v w with e | e | e<;>rw [e]<;>assumption
 have key2:∀u v w m:Int,u≤m→v≤m→w≤m→nR u v w≤m:=fun u v w m e1 e2 e3=>by rcases aDq u v w with e | e | e<;>rw [e]<;>assumption
 have gm:∀e f l h l' h':Int,l≤l'→h'≤h→gp e f l h*gp e f l h≤gp e f l' h'*gp e f l' h':=by
   intro e f l h l' h' e1 e2
   have:gp e f l h≤gp e f l' h':=by unfold gp mx;(repeat' split)<;>omega
   exact Int.mul_le_mul this this (aAa _ _ _ _) (aAa _ _ _ _)
 have g1:=gm (uD a).1 (uE a).1 _ _ _ _ (key _ _ _ _ x1.1.1 x2.1.1 x3.1.1) (key2 _ _ _ _ x1.1.2 x2.1.2 x3.1.2)
 have g2:=gm (uD a).2.1 (uE a).2.1 _ _ _ _ (key _ _ _ _ x1.2.1.1 x2.2.1.1 x3.2.1.1) (key2 _ _ _ _ x1.2.1.2 x2.2.1.2 x3.2.1.2)
 have g3:=gm (uD a).2.2 (uE a).2.2 _ _ _ _ (key _ _ _ _ x1.2.2.1 x2.2.2.1 x3.2.2.1) (key2 _ _ _ _ x1.2.2.2 x2.2.2.2 x3.2.2.2)
 exact Int.add_le_add (Int.add_le_add g1 g2) g3
end
def cQ (d:Int):Int:=sc (2 - d)
theorem aA3 {d:Int} (h:0≤d∧d≤2):cQ d*sc d=4∧1≤cQ d∧cQ d≤4:=by
 have:d=0∨d=1∨d=2:=by omega
 rcases this with rfl | rfl | rfl<;>decide
noncomputable def nD (d R:Int)(w:Rat)(c:PN):CapT.Tri:=⟨tm (cQ d) c.1,tm (cQ d) c.2.1,tm (cQ d) c.2.2,w,(c,R)⟩
noncomputable def vV (d:Int)(L:List (PN×Int)):List CapT.Tri:=L.flatMap fun e=>(aO d.toNat e.1).map (nD d (eJ e.1 d) ((e.2:Int):Rat))
def uu:Rat:=1 / 4194304
theorem aO8:uu*uu*17592186044416=1:=by unfold uu;decide +kernel
theorem nE:0 < uu:=by unfold uu;decide +kernel
theorem oS {α:Type} (g:α→Int):∀l:List α,CapT.ls l (fun a=>((g a:Int):Rat))=(((l.map g).sum:Int):Rat)
 | []=>rfl
 | a::l=>by rw [CapT.ls,oS g l,List.map_cons,List.sum_cons,CapT.rcast_add]
theorem fS {d:Int} {L:List (PN×Int)} {t:CapT.Tri} (h:t∈vV d L):∃e,e∈L∧∃c,c∈aO d.toNat e.1∧t=nD d (eJ e.1 d) ((e.2:Int):Rat) c:=by
 obtain⟨e,he,h⟩:=List.mem_flatMap.1 h
 obtain⟨c,hc,rfl⟩:=List.mem_map.1 h
 exact⟨e,he,c,hc,rfl⟩
theorem aEp {d:Int} {L:List (PN×Int)} (f:CapT.Tri→Rat):CapT.ls (vV d L) f=CapT.ls L (fun e=>CapT.ls (aO d.toNat e.1) (fun c=>f (nD d (eJ e.1 d) ((e.2:Int):Rat) c))):=by
 unfold vV
 rw [CapT.ls_flat]
 refine CapT.ls_congr (fun e _=>?_)
 rw [CapT.ls_map]
def gN (L:List (PN×Int)):Int:=(L.map (·.2)).sum
theorem pS {d:Int} (hd:0≤d∧d≤2)(L:List (PN×Int)):CapT.tot (vV d L)=((sc d*sc d*gN L:Int):Rat):=by
 unfold CapT.tot
 rw [aEp]
 have h1:CapT.ls L (fun e=>CapT.ls (aO d.toNat e.1) (fun c=>(nD d (eJ e.1 d) ((e.2:Int):Rat) c).q))=CapT.ls L (fun e=>((sc d*sc d:Int):Rat)*((e.2:Int):Rat)):=by
   refine CapT.ls_congr (fun e _=>?_)
   have hl:=mQ (d:=d) (by omega) e.1
   show CapT.ls (aO d.toNat e.1) (fun _=>((e.2:Int):Rat))=_
   rw [←hl]
   clear hl
   generalize aO d.toNat e.1=l
   induction l with
   | nil=>show(0:Rat)=_;rw [show(((([]:List PN).length:Nat):Int):Rat)=0 from rfl];grind
   | cons c l ih =>
     rw [CapT.ls,ih,List.length_cons,show((l.length+1:Nat):Int)=(l.length:Int)+1 by omega,CapT.rcast_add]
     rw [show((1:Int):Rat)=1 from rfl]
     grind
 rw [h1,CapT.ls_mul,oS (fun e:PN×Int=>e.2),←CapT.rcast_mul]
 rfl
noncomputable def vW (d:Int)(L:List (PN×Int)):Int:=(L.map fun e'=>((aO d.toNat e'.1).map fun b=>e'.2*(L.map fun e=>((aO d.toNat e.1).map fun c=>e.2*kR (eJ e.1 d) d b c).sum).sum).sum).sum
noncomputable def PLs (d:Int)(L:List (PN×Int))(p:PN):Int:=(L.map fun e=>((aO d.toNat e.1).map fun c=>e.2*mA d (dE (sc d) p) c).sum).sum
noncomputable def hcap (d:Int)(t t':CapT.Tri):Rat:=((kR t.o.2 d t'.o.1 t.o.1:Int):Rat)*uu
theorem aVi (d:Int)(L:List (PN×Int)):CapT.ls (vV d L) (fun t'=>t'.q*CapT.ls (vV d L) (fun t=>t.q*hcap d t t'))=((vW d L:Int):Rat)*uu:=by
 have inner:∀t':CapT.Tri,CapT.ls (vV d L) (fun t=>t.q*hcap d t t')=uu*(((L.map fun e=>((aO d.toNat e.1).map fun c=>e.2*kR (eJ e.1 d) d t'.o.1 c).sum).sum:Int):Rat):=by
   intro t'
   rw [aEp,←oS,←CapT.ls_mul]
   refine CapT.ls_congr (fun e _=>?_)
   rw [←oS,←CapT.ls_mul]
   refine CapT.ls_congr (fun c _=>?_)
   rw [CapT.rcast_mul]
   show((e.2:Int):Rat)*(((kR (eJ e.1 d) d t'.o.1 c:Int):Rat)*uu)=_
   grind
 rw [aEp]
 unfold vW
 have e2:∀x:Rat,x*uu=uu*x:=fun x=>by grind
 rw [e2,←oS,←CapT.ls_mul]
 refine CapT.ls_congr (fun e' _=>?_)
 rw [←oS,←CapT.ls_mul]
 refine CapT.ls_congr (fun b _=>?_)
 rw [inner,CapT.rcast_mul]
 have hx:∀x y:Rat,x*(uu*y)=uu*(x*y):=fun x y=>by grind
 exact hx _ _
theorem aYm (d:Int)(L:List (PN×Int))(p:PN):CapT.ls (vV d L) (fun s=>s.q*(((mA d (dE (sc d) p) s.o.1:Int):Rat)*uu))=((PLs d L p:Int):Rat)*uu:=by
 rw [aEp]
 unfold PLs
 have e2:∀x:Rat,x*uu=uu*x:=fun x=>by grind
 rw [e2,←oS,←CapT.ls_mul]
 refine CapT.ls_congr (fun e _=>?_)
 rw [←oS,←CapT.ls_mul]
 refine CapT.ls_congr (fun c _=>?_)
 rw [CapT.rcast_mul]
 show((e.2:Int):Rat)*(((mA d (dE (sc d) p) c:Int):Rat)*uu)=_
 grind
theorem aEq {d R:Int} (hd:0≤d∧d≤2) {w:Rat} {p c:PN} (hp:vp p=0)(hc:c∈aO d.toNat p):CapT.tin (2048:Nat) (nD d R w c):=by
 have h1:=tI (dN hp).1 (by omega) hc
 have h2:=aA3 hd
 have key:∀x:P3,bd 512 x→CapT.inb ((2048:Nat):Int) (tm (cQ d) x):=by
   intro x hx
   have a1:=aU (a:=4) (b:=512) (x:=cQ d) (y:=x.1) (by omega) hx.1
   have a2:=aU (a:=4) (b:=512) (x:=cQ d) (y:=x.2.1) (by omega) hx.2.1
   have a3:=aU (a:=4) (b:=512) (x:=cQ d) (y:=x.2.2) (by omega) hx.2.2
   unfold CapT.inb tm
   simp only
   omega
 exact⟨key _ h1.1,key _ h1.2.1,key _ h1.2.2⟩
theorem aYn {H F:Int} (h:17592186044416≤H*H*F):1≤((H:Int):Rat)*uu*(((H:Int):Rat)*uu)*((F:Int):Rat):=by
 have h1:=CapT.rcast_le h
 rw [CapT.rcast_mul,CapT.rcast_mul] at h1
 have h2:=CapT.rmul_le' h1 (CapT.sq_nonneg uu)
 have h3:uu*uu*((17592186044416:Int):Rat)=1:=aO8
 rw [h3] at h2
 grind
theorem aO9 {H F:Int} (h:H*H*F≤17592186044416):((H:Int):Rat)*uu*(((H:Int):Rat)*uu)*((F:Int):Rat)≤1:=by
 have h1:=CapT.rcast_le h
 rw [CapT.rcast_mul,CapT.rcast_mul] at h1
 have h2:=CapT.rmul_le' h1 (CapT.sq_nonneg uu)
 have h3:uu*uu*((17592186044416:Int):Rat)=1:=aO8
 rw [h3] at h2
 grind
theorem aPa {d:Int} (hd:0≤d∧d≤2):NN (sc d)*(cQ d*cQ d)=17592186044416:=by
 have:d=0∨d=1∨d=2:=by omega
 rcases this with rfl | rfl | rfl<;>decide
theorem aPb (g a b c x y z:Int)(hg:0≤g):CapT.gapc (g*x) (g*y) (g*z) (g*a) (g*b) (g*c) (g*gp (nQ a b c) (nR a b c) (nQ x y z) (nR x y z)):=by
 have l1:=kD a b c;have l2:=kD x y z
 have h1:=kE a b c;have h2:=kE x y z
 have hm:∀u v w:Int,u+w≤v→g*u+g*w≤g*v:=by
   intro u v w h
   have:=Int.mul_le_mul_of_nonneg_left h hg
   rw [Int.mul_add] at this
   exact this
 have hc:gp (nQ a b c) (nR a b c) (nQ x y z) (nR x y z)=0∨gp (nQ a b c) (nR a b c) (nQ x y z) (nR x y z)=nQ x y z - nR a b c∨gp (nQ a b c) (nR a b c) (nQ x y z) (nR x y z)=nQ a b c - nR x y z:=by
   unfold gp mx;repeat' split
   all_goals omega
 generalize gp (nQ a b c) (nR a b c) (nQ x y z) (nR x y z)=G at *
 unfold CapT.gapc
 rcases hc with hc | hc | hc
 · left;rw [hc,Int.mul_zero]
 · right;right
   intro p hp q hq
   simp only [List.mem_cons,List.not_mem_nil,or_false] at hp hq
   rcases hp with rfl | rfl | rfl<;>rcases hq with rfl | rfl | rfl<;>exact hm _ _ _ (by omega)
 · right;left
   intro p hp q hq
   simp only [List.mem_cons,List.not_mem_nil,or_false] at hp hq
   rcases hp with rfl | rfl | rfl<;>rcases hq with rfl | rfl | rfl<;>exact hm _ _ _ (by omega)
theorem aR4 {p:PN} {d:Int} (hp:vp p=0)(hd:0≤d∧d≤3):∃r,1≤r∧r*r≤dt (eQ p) (eQ p)∧xT d≤eJ p d*eJ p d*(128*r)∧1≤eJ p d:=by
 obtain⟨r,hr,r1,r2,hu,hb⟩:=aAe hp hd
 have ht:=aM0 d
 obtain⟨c1,_⟩:=aAd (t:=xT d) (b:=128*r) (by omega)
 have c2:=Int.mul_le_mul_of_nonneg_right hu.2.1 (show 0≤128*r by omega)
 refine⟨r,r1,hr.2.1,Int.le_trans c1 c2,?_⟩
 rcases Int.lt_or_le 0 (eJ p d) with h | h
 · exact h
 · have h0:eJ p d=0:=Int.le_antisymm h hu.1
   rw [h0] at c2
   omega
theorem aVj {d:Int} (hd:0≤d∧d≤2):xT d*(cQ d*cQ d)=3217*17592186044416:=by
 have:d=0∨d=1∨d=2:=by omega
 rcases this with rfl | rfl | rfl<;>decide
theorem aA4 {d:Int} (hd:0≤d∧d≤2) {L:List (PN×Int)} (hL:∀e∈L,vp e.1=0∧0≤e.2):∀t,t∈vV d L→∀t',t'∈vV d L→0 < hcap d t t'∧((∃f:Int,1≤f∧1≤hcap d t t'*hcap d t t'*(f:Rat)∧CapT.nearT t' t f)∨CapT.rimT t (hcap d t t')):=by
 intro t ht t' ht'
 obtain⟨e,he,c,hc,rfl⟩:=fS ht
 obtain⟨e',he',b,hb,rfl⟩:=fS ht'
 have hp:=(hL e he).1
 have hg:=aA3 hd
 obtain⟨r,r1,r2,r3,R1⟩:=aR4 hp (d:=d) (by omega)
 have hb1:=aPa hd
 show 0 < ((kR (eJ e.1 d) d b c:Int):Rat)*uu∧((∃f:Int,1≤f∧1≤((kR (eJ e.1 d) d b c:Int):Rat)*uu*(((kR (eJ e.1 d) d b c:Int):Rat)*uu)*(f:Rat)∧CapT.nearT _ _ f)∨CapT.rimT _ (((kR (eJ e.1 d) d b c:Int):Rat)*uu))
 have rimcase:CapT.rimT (nD d (eJ e.1 d) ((e.2:Int):Rat) c) (((eJ e.1 d:Int):Rat)*uu):=by
   have hn:=aHr (dN hp).1 (d:=d) (by omega) hc
   have hrr:1≤r*(cQ d*cQ d):=by
     have:=Int.mul_le_mul (a:=1) (b:=1) (c:=r) (d:=cQ d*cQ d) r1 (by have:=Int.mul_le_mul (a:=1) (b:=1) (c:=cQ d) (d:=cQ d) hg.2.1 hg.2.1 (by omega) (by omega);omega) (by omega) (by omega)
     omega
   refine⟨toNat (r*(cQ d*cQ d)),by omega,?_,?_,?_⟩
   · rw [Int.toNat_of_nonneg (by omega)]
     have e1:CapT.nsq (CapT.cr (CapT.vs (tm (cQ d) c.2.1) (tm (cQ d) c.1)) (CapT.vs (tm (cQ d) c.2.2) (tm (cQ d) c.1)))=(cQ d*cQ d)*(cQ d*cQ d)*dt (eQ c) (eQ c):=by
       simp only [CapT.nsq,CapT.cr,CapT.vs,tm,dt,eQ,cr,sb]
       grind
     show _≤CapT.nsq (CapT.cr (CapT.vs (tm (cQ d) c.2.1) (tm (cQ d) c.1)) (CapT.vs (tm (cQ d) c.2.2) (tm (cQ d) c.1)))
     rw [e1,hn]
     have:=Int.mul_le_mul_of_nonneg_left r2 (show 0≤(cQ d*cQ d)*(cQ d*cQ d) from CapT.sq_int_nonneg _)
     grind
   · show 0 < CapT.nsq (CapT.vs (tm (cQ d) c.2.1) (tm (cQ d) c.1))
     have h0:=CapT.nsq_nonneg (CapT.vs (tm (cQ d) c.2.1) (tm (cQ d) c.1))
     have e1:CapT.nsq (CapT.vs (tm (cQ d) c.2.1) (tm (cQ d) c.1))=(cQ d*cQ d)*dt (sb c.2.1 c.1) (sb c.2.1 c.1):=by
       simp only [CapT.nsq,CapT.vs,tm,dt,sb]
       grind
     have l1:=CapT.lagr' (sb c.2.1 c.1) (sb c.2.2 c.1)
     have l2:=CapT.lagrC (sb c.2.2 c.1) (sb c.2.1 c.1)
     have n1:1≤dt (eQ c) (eQ c):=by rw [hn];exact(dN hp).2
     have e2:CapT.nsq (CapT.cr (sb c.2.2 c.1) (sb c.2.1 c.1))=dt (eQ c) (eQ c):=by
       simp only [CapT.nsq,CapT.cr,dt,eQ,cr]
       grind
     have e3:CapT.nsq (sb c.2.1 c.1)=dt (sb c.2.1 c.1) (sb c.2.1 c.1):=rfl
     rw [e2,e3] at l2
     have s0:=CapT.sq_int_nonneg (CapT.dt (sb c.2.2 c.1) (sb c.2.1 c.1))
     have p1:1≤dt (sb c.2.1 c.1) (sb c.2.1 c.1):=by
       rcases Int.lt_or_le 0 (dt (sb c.2.1 c.1) (sb c.2.1 c.1)) with h | h
       · exact h
       · have hz:dt (sb c.2.1 c.1) (sb c.2.1 c.1)=0:=Int.le_antisymm h (by rw [←e3];exact CapT.nsq_nonneg _)
         rw [hz] at l2
         omega
     rw [e1]
     exact Int.mul_pos (Int.mul_pos (by omega) (by omega)) (by omega)
   · rw [Int.toNat_of_nonneg (by omega)]
     have t1:=aVj hd
     have t2:=Int.mul_le_mul_of_nonneg_right r3 (show 0≤cQ d*cQ d from CapT.sq_int_nonneg _)
     rw [t1] at t2
     have t3:3217*17592186044416≤eJ e.1 d*eJ e.1 d*(128*(r*(cQ d*cQ d))):=by grind
     have t4:=CapT.rcast_le t3
     rw [CapT.rcast_mul,CapT.rcast_mul (eJ e.1 d*eJ e.1 d),CapT.rcast_mul,CapT.rcast_mul 128] at t4
     have c1:((3217:Int):Rat)=3217:=rfl
     have c2:((17592186044416:Int):Rat)=17592186044416:=rfl
     have c3:((128:Int):Rat)=128:=rfl
     rw [c1,c2,c3] at t4
     have t5:=CapT.rmul_le' t4 (CapT.sq_nonneg uu)
     have t6:uu*uu*(3217*17592186044416)=3217*(uu*uu*17592186044416):=by grind
     rw [t6,aO8] at t5
     grind
 have pos:∀H:Int,1≤H→0 < ((H:Int):Rat)*uu:=fun H h=>Rat.mul_pos (CapT.rcast_pos (by omega)) nE
 unfold kR
 by_cases hz:0 < mU c b
 · rw [if_pos hz]
   have hi:=aHs (N:=NN (sc d)) (n:=mU c b) (by
     have:d=0∨d=1∨d=2:=by omega
     rcases this with rfl | rfl | rfl<;>decide) (by omega)
   have ho:uZ (sc d) (mU c b)=inv (NN (sc d)) (mU c b):=by unfold uZ;rw [if_neg (by omega)]
   by_cases hR:(uZ (sc d) (mU c b)).2 < eJ e.1 d
   · rw [if_pos hR]
     rw [ho]
     refine⟨pos _ hi.1,.inl ⟨mU c b*(cQ d*cQ d),?_,?_,?_⟩⟩
     · have:=Int.mul_le_mul (a:=1) (b:=1) (c:=mU c b) (d:=cQ d*cQ d) (by omega) (by have:=Int.mul_le_mul (a:=1) (b:=1) (c:=cQ d) (d:=cQ d) hg.2.1 hg.2.1 (by omega) (by omega);omega) (by omega) (by omega)
       omega
     · refine aYn ?_
       have:=Int.mul_le_mul_of_nonneg_right hi.2.1 (show 0≤cQ d*cQ d from CapT.sq_int_nonneg _)
       rw [hb1] at this
       grind
     · refine⟨(cQ d*gp (uD c).1 (uE c).1 (uD b).1 (uE b).1,cQ d*gp (uD c).2.1 (uE c).2.1 (uD b).2.1 (uE b).2.1,cQ d*gp (uD c).2.2 (uE c).2.2 (uD b).2.2 (uE b).2.2),Int.mul_nonneg (by omega) (aAa ..),Int.mul_nonneg (by omega) (aAa ..),Int.mul_nonneg (by omega) (aAa ..),?_,aPb _ _ _ _ _ _ _ (by omega),aPb _ _ _ _ _ _ _ (by omega),aPb _ _ _ _ _ _ _ (by omega)⟩
       unfold mU nr CapT.nsq
       simp only
       exact Int.le_of_eq (by grind)
   · rw [if_neg hR]
     exact⟨pos _ R1,.inr rimcase⟩
 · rw [if_neg hz]
   exact⟨pos _ R1,.inr rimcase⟩
theorem aEr {w g:Int} {q:PN} {X:P3} (hg:0≤g)(h:fY w q X):fY (g*w) q (tm g X):=by
 obtain⟨i,j,k,hi,hj,hk,hw,h1,h2,h3⟩:=h
 refine⟨g*i,g*j,g*k,Int.mul_nonneg hg hi,Int.mul_nonneg hg hj,Int.mul_nonneg hg hk,?_,?_,?_,?_⟩
 · rw [←hw];grind
 · simp only [tm];rw [h1];grind
 · simp only [tm];rw [h2];grind
 · simp only [tm];rw [h3];grind
theorem tZ {d R:Int} (hd:0≤d∧d≤2) {w:Rat} {p c:PN} (hp:vp p=0)(hc:c∈aO d.toNat p):∀P,P∈[(nD d R w c).A,(nD d R w c).B,(nD d R w c).C]→fY 4 p P:=by
 obtain⟨h1,h2,h3⟩:=aJ8 (dN hp).1 (d:=d) (by omega) hc
 have hg:=aA3 hd
 intro P hP
 simp only [List.mem_cons,List.not_mem_nil,or_false] at hP
 rw [←hg.1]
 rcases hP with rfl | rfl | rfl
 · exact aEr (by omega) h1
 · exact aEr (by omega) h2
 · exact aEr (by omega) h3
theorem aR5 {d d':Int} (hd:0≤d∧d≤2)(hd':0≤d'∧d'≤2) {L L':List (PN×Int)} (hL:∀e∈L,vp e.1=0∧0≤e.2)(hL':∀e∈L',vp e.1=0∧0≤e.2) {V0:Int} (hV:∀e∈L,V0≤PLs d' L' e.1) :
   ∀t,t∈vV d L→∀M i j:Nat,i+j < M→CapT.potAt (vV d' L') (((V0:Int):Rat)*uu) t M i j:=by
 intro t ht M i j hij
 obtain⟨e,he,b,hb,rfl⟩:=fS ht
 have hp:=(hL e he).1
 refine CapT.potAt_of (fun s=>((mA d' (dE (sc d') e.1) s.o.1:Int):Rat)*uu) (fun s hs=>?_) ?_ hij
 · obtain⟨e',he',c,hc,rfl⟩:=fS hs
   have hp':=(hL' e' he').1
   have hg:=aA3 hd'
   have hb1:=aPa hd'
   have hfp:=aD4 (q:=dE (sc d') e.1) hp' (d:=d') (by omega) hc
   have hN:0≤NN (sc d')∧NN (sc d')≤288230376151711744:=aAb (qR d')
   obtain⟨k,k1,k2,k3,k4,k5,k6,k7,k8⟩:=jN hN hfp
   have hbl:mA d' (dE (sc d') e.1) c=k:=by
     unfold mA uZ
     rw [if_neg (by omega)]
     unfold inv
     exact k1
   refine⟨?_,lN c (dE (sc d') e.1)*(cQ d'*cQ d'),?_,?_,?_⟩
   · show 0≤((mA d' (dE (sc d') e.1) c:Int):Rat)*uu
     rw [hbl]
     exact Rat.mul_nonneg (CapT.rcast_le (a:=0) k3) (Rat.le_of_lt nE)
   · have:=Int.mul_le_mul (a:=1) (b:=1) (c:=lN c (dE (sc d') e.1)) (d:=cQ d'*cQ d') hfp (by have:=Int.mul_le_mul (a:=1) (b:=1) (c:=cQ d') (d:=cQ d') hg.2.1 hg.2.1 (by omega) (by omega);omega) (by omega) (by omega)
     omega
   · show((mA d' (dE (sc d') e.1) c:Int):Rat)*uu*(((mA d' (dE (sc d') e.1) c:Int):Rat)*uu)*_≤1
     rw [hbl]
     refine aO9 ?_
     have:=Int.mul_le_mul_of_nonneg_right k8 (show 0≤cQ d'*cQ d' from CapT.sq_int_nonneg _)
     rw [hb1] at this
     grind
   · intro P hP Q hQ
     have hh:=tZ hd hp hb P hP
     have hQ':∃a,(a=c.1∨a=c.2.1∨a=c.2.2)∧Q=tm (cQ d') a:=by
       simp only [List.mem_cons,List.not_mem_nil,or_false] at hQ
       rcases hQ with rfl | rfl | rfl
       · exact⟨_,.inl rfl,rfl⟩
       · exact⟨_,.inr (.inl rfl),rfl⟩
       · exact⟨_,.inr (.inr rfl),rfl⟩
     obtain⟨a,ha,rfl⟩:=hQ'
     have one:∀x:P3,(tm (sc d') x=(dE (sc d') e.1).1∨tm (sc d') x=(dE (sc d') e.1).2.1∨tm (sc d') x=(dE (sc d') e.1).2.2)→ds (tm 4 x) (tm (cQ d') a)≤lN c (dE (sc d') e.1)*(cQ d'*cQ d'):=by
       intro x hx
       have h1:=aEo c (dE (sc d') e.1) ha hx
       have h2:=Int.mul_le_mul_of_nonneg_right h1 (show 0≤cQ d'*cQ d' from CapT.sq_int_nonneg _)
       have e1:ds (tm 4 x) (tm (cQ d') a)=ds a (tm (sc d') x)*(cQ d'*cQ d'):=by
         rw [←hg.1]
         simp only [ds,dt,sb,tm]
         grind
       rw [e1];exact h2
     have:=tY (w:=4) (Z:=tm (cQ d') a) (by decide) hh (one e.1.1 (.inl rfl)) (one e.1.2.1 (.inr (.inl rfl))) (one e.1.2.2 (.inr (.inr rfl)))
     exact this
 · rw [aYm]
   exact CapT.rmul_le (CapT.rcast_le (hV e he)) (Rat.le_of_lt nE)
theorem aYo {d d':Int} (hd:0≤d∧d≤2)(hd':0≤d'∧d'≤2) {L L':List (PN×Int)} (hL:∀e∈L,vp e.1=0∧0≤e.2)(hL':∀e∈L',vp e.1=0∧0≤e.2) {V0 E0:Int} (hV:∀e∈L,V0≤PLs d' L' e.1)(hE:vW d L≤E0) :
   (sc d*sc d*gN L)*(sc d*sc d*gN L)*V0≤(sc d'*sc d'*gN L')*E0:=by
 have key:=CapT.cap (X:=vV d L) (Y:=vV d' L') (G:=2048) (h:=hcap d) (V:=((V0:Int):Rat)*uu) (E:=((E0:Int):Rat)*uu)
   (fun t ht=>by
     obtain⟨e,he,c,hc,rfl⟩:=fS ht
     exact⟨CapT.rcast_le (a:=0) (hL e he).2,aEq hd (hL e he).1 hc⟩)
   (fun t ht=>by
     obtain⟨e,he,c,hc,rfl⟩:=fS ht
     exact⟨CapT.rcast_le (a:=0) (hL' e he).2,aEq hd' (hL' e he).1 hc⟩)
   (aR5 hd hd' hL hL' hV) (aA4 hd hL) (by
     rw [aVi]
     exact CapT.rmul_le (CapT.rcast_le hE) (Rat.le_of_lt nE))
 rw [pS hd,pS hd'] at key
 have h1:(((sc d*sc d*gN L)*(sc d*sc d*gN L)*V0:Int):Rat)*uu≤(((sc d'*sc d'*gN L')*E0:Int):Rat)*uu:=by
   rw [CapT.rcast_mul,CapT.rcast_mul (sc d*sc d*gN L),CapT.rcast_mul (sc d'*sc d'*gN L')]
   grind
 have h2:(((sc d*sc d*gN L)*(sc d*sc d*gN L)*V0:Int):Rat)≤(((sc d'*sc d'*gN L')*E0:Int):Rat):=by
   rcases Rat.le_total (a:=(((sc d*sc d*gN L)*(sc d*sc d*gN L)*V0:Int):Rat)) (b:=(((sc d'*sc d'*gN L')*E0:Int):Rat)) with h | h
   · exact h
   · have hu:uu*4194304=1:=by unfold uu;decide +kernel
     have h3:=CapT.rmul_le h1 (show(0:Rat)≤4194304 by decide +kernel)
     have hx:∀x:Rat,x*uu*4194304=x*(uu*4194304):=fun x=>by grind
     rw [hx,hx,hu] at h3
     grind
 exact Rat.intCast_le_intCast.mp h2
theorem aYp {d:Int} (hd:0≤d∧d≤2) {L:List (PN×Int)} (hL:∀e∈L,vp e.1=0∧0≤e.2) {c:P3} {m B E0:Int} (hc:bd 256 c)(hm:∀e∈L,ds e.1.1 c≤m∧ds e.1.2.1 c≤m∧ds e.1.2.2 c≤m)(hm1:1≤m)(hB:m*1099511627776≤B*B)(hB0:1≤B)(hE:vW d L≤E0) :
   (sc d*sc d*gN L)*(sc d*sc d*gN L)*1099511627776≤B*E0:=by
 have hBr:=CapT.rcast_pos (a:=B) (by omega)
 have iB:=CapT.odm hBr
 have iB0:=CapT.inv_nn (Rat.le_of_lt hBr)
 have key:=CapT.cap (X:=vV d L) (Y:=[⟨tm 4 c,tm 4 c,tm 4 c,1,((c,c,c),0)⟩]) (G:=2048) (h:=hcap d) (V:=262144*(1 / ((B:Int):Rat))) (E:=((E0:Int):Rat)*uu)
   (fun t ht=>by
     obtain⟨e,he,c,hc,rfl⟩:=fS ht
     exact⟨CapT.rcast_le (a:=0) (hL e he).2,aEq hd (hL e he).1 hc⟩)
   (fun t ht=>by
     obtain rfl:=List.mem_singleton.1 ht
     have:CapT.inb ((2048:Nat):Int) (tm 4 c):=by
       unfold CapT.inb tm bd at *
       simp only
       omega
     exact⟨show(0:Rat)≤1 by decide +kernel,this,this,this⟩)
   (fun t ht M i j hij=>by
     obtain⟨e,he,b,hb,rfl⟩:=fS ht
     have hp:=(hL e he).1
     refine CapT.potAt_of (fun _=>262144*(1 / ((B:Int):Rat))) (fun s hs=>?_) ?_ hij
     · obtain rfl:=List.mem_singleton.1 hs
       refine⟨Rat.mul_nonneg (by decide +kernel) iB0,16*m,by omega,?_,?_⟩
       · have h1:=CapT.rcast_le hB
         rw [CapT.rcast_mul,CapT.rcast_mul] at h1
         have h2:=CapT.rmul_le' h1 (CapT.sq_nonneg (1 / ((B:Int):Rat)))
         have e1:(1 / ((B:Int):Rat))*(1 / ((B:Int):Rat))*(((B:Int):Rat)*((B:Int):Rat))=(1 / ((B:Int):Rat)*((B:Int):Rat))*(1 / ((B:Int):Rat)*((B:Int):Rat)):=by grind
         rw [e1,iB] at h2
         have c1:((1099511627776:Int):Rat)=1099511627776:=rfl
         rw [c1] at h2
         rw [CapT.rcast_mul,show((16:Int):Rat)=16 from rfl]
         grind
       · intro P hP Q hQ
         have hh:=tZ hd hp hb P hP
         have hQ':Q=tm 4 c:=by
           simp only [List.mem_cons,List.not_mem_nil,or_false,or_self] at hQ
           exact hQ
         subst hQ'
         have e4:∀x:P3,ds (tm 4 x) (tm 4 c)=16*ds x c:=by
           intro x;simp only [ds,dt,sb,tm];grind
         have h3:=hm e he
         exact tY (w:=4) (Z:=tm 4 c) (by decide) hh (by rw [e4];omega) (by rw [e4];omega) (by rw [e4];omega)
     · simp only [CapT.ls];grind)
   (aA4 hd hL) (by
     rw [aVi]
     exact CapT.rmul_le (CapT.rcast_le hE) (Rat.le_of_lt nE))
 rw [pS hd] at key
 have t1:CapT.tot [⟨tm 4 c,tm 4 c,tm 4 c,1,((c,c,c),0)⟩]=1:=by simp only [CapT.tot,CapT.ls];grind
 rw [t1] at key
 have h1:=CapT.rmul_le key (Rat.le_of_lt hBr)
 have hu:uu*4194304=1:=by unfold uu;decide +kernel
 have h2:=CapT.rmul_le h1 (show(0:Rat)≤4194304 by decide +kernel)
 have e2:∀x:Rat,x*(262144*(1 / ((B:Int):Rat)))*((B:Int):Rat)*4194304=x*1099511627776*(1 / ((B:Int):Rat)*((B:Int):Rat)):=fun x=>by grind
 have e3:1*(((E0:Int):Rat)*uu)*((B:Int):Rat)*4194304=((B:Int):Rat)*((E0:Int):Rat)*(uu*4194304):=by grind
 rw [e2,e3,iB,hu] at h2
 refine Rat.intCast_le_intCast.mp ?_
 rw [CapT.rcast_mul,CapT.rcast_mul (sc d*sc d*gN L),CapT.rcast_mul B]
 have c1:((1099511627776:Int):Rat)=1099511627776:=rfl
 rw [c1]
 grind
end Go.Proofs.Ytaeagjnpobdglaa
namespace Go.Proofs.Ytaeagjnpobdglaa
open Go.Proofs Go.Aw Go.RowKit
set_option maxRecDepth 100000
theorem iI {α:Type} {f g:α→Int}:∀{l:List α},(∀c∈l,f c≤g c)→(l.map f).sum≤(l.map g).sum
 | [],_=>Int.le_refl _
 | c::l,h=>by
   have h1:=h c List.mem_cons_self
   have h2:=iI (l:=l) (fun x hx=>h x (List.mem_cons_of_mem _ hx))
   simp only [List.map_cons,List.sum_cons];omega
theorem eA {α:Type} (a:Int)(f:α→Int):∀l:List α,(l.map fun c=>a*f c).sum=a*(l.map f).sum
 | []=>by simp
 | c::l=>by simp only [List.map_cons,List.sum_cons];rw [eA a f l,Int.mul_add]
theorem nF {α:Type} (a:Int):∀l:List α,(l.map fun _=>a).sum=(l.length:Int)*a
 | []=>by simp
 | c::l=>by simp only [List.map_cons,List.sum_cons,List.length_cons];rw [nF a l,show((l.length+1:Nat):Int)=(l.length:Int)+1 by omega,Int.add_mul];omega
theorem aVk {v:Int×Int} {n:Int} (hn:1≤n):n*(avg v n).1≤v.1:=Int.mul_ediv_self_le (by omega)
theorem aPc {v:Int×Int} {n:Int} (hn:1≤n):v.2≤n*(avg v n).2:=by
 have:=Int.mul_ediv_self_le (x:=-v.2) (k:=n) (by omega)
 show v.2≤n*-(-v.2 / n)
 rw [Int.mul_neg];omega
theorem dT (d:Int):1≤sc d*sc d:=by
 rcases qR d with h | h | h | h<;>rw [h]<;>decide
theorem aVl (p q:PN)(d:Int):sc d*sc d*(dK p q d).1≤((aO d.toNat p).map (mA d q)).sum:=by
 unfold dK
 refine Int.le_trans (aVk (dT d)) ?_
 rw [jI];simp only [Int.zero_add];exact Int.le_refl _
theorem aPd (p q:PN)(d:Int):((aO d.toNat p).map (kR (eJ p d) d q)).sum≤sc d*sc d*(dK p q d).2:=by
 unfold dK
 refine Int.le_trans ?_ (aPc (dT d))
 rw [jI];simp only [Int.zero_add];exact Int.le_refl _
theorem aTd {d:Int} {L:List (PN×Int)} (hL:∀e∈L,vp e.1=0∧0≤e.2)(p:PN):sc d*sc d*(L.map fun e=>e.2*(dK e.1 (dE (sc d) p) d).1).sum≤PLs d L p:=by
 unfold PLs
 rw [←eA]
 refine iI (fun e he=>?_)
 rw [eA]
 have:=Int.mul_le_mul_of_nonneg_left (aVl e.1 (dE (sc d) p) d) (hL e he).2
 have e1:sc d*sc d*(e.2*(dK e.1 (dE (sc d) p) d).1)=e.2*(sc d*sc d*(dK e.1 (dE (sc d) p) d).1):=by grind
 rw [e1];exact this
theorem aPe {p q b:PN} {d:Int} {c:PN} (hp:vp p=0)(hq:vp q=0)(hd:0≤d∧d≤2)(hc:c∈aO d.toNat p)(hb:b∈aO d.toNat q):kR (eJ p d) d b c≤kR (eJ p d) d (dE (sc d) q) c:=by
 have hn:=aO7 (a:=c) (dN hq).1 (d:=d) (by omega) hb
 have hN:1≤NN (sc d)∧NN (sc d)≤288230376151711744:=by
   have:d=0∨d=1∨d=2:=by omega
   rcases this with rfl | rfl | rfl<;>decide
 unfold kR
 by_cases h1:0 < mU c (dE (sc d) q)
 · rw [if_pos h1,if_pos (show 0 < mU c b by omega)]
   have hm:(uZ (sc d) (mU c b)).2≤(uZ (sc d) (mU c (dE (sc d) q))).2:=by
     unfold uZ
     rw [if_neg (by omega),if_neg (by omega)]
     exact aF6 hN (by omega) hn
   split<;>split<;>omega
 · rw [if_neg h1]
   split
   · split<;>omega
   · omega
theorem aVm {d:Int} (hd:0≤d∧d≤2) {L:List (PN×Int)} (hL:∀e∈L,vp e.1=0∧0≤e.2):vW d L≤(sc d*sc d)*(sc d*sc d)*(L.map fun e'=>e'.2*(L.map fun e=>e.2*(dK e.1 (dE (sc d) e'.1) d).2).sum).sum:=by
 unfold vW
 rw [←eA]
 refine iI (fun e' he'=>?_)
 have key:∀b∈aO d.toNat e'.1,e'.2*(L.map fun e=>((aO d.toNat e.1).map fun c=>e.2*kR (eJ e.1 d) d b c).sum).sum≤e'.2*(sc d*sc d*(L.map fun e=>e.2*(dK e.1 (dE (sc d) e'.1) d).2).sum):=by
   intro b hb
   refine Int.mul_le_mul_of_nonneg_left ?_ (hL e' he').2
   rw [←eA]
   refine iI (fun e he=>?_)
   rw [eA]
   have h1:=iI (l:=aO d.toNat e.1) (f:=kR (eJ e.1 d) d b) (g:=kR (eJ e.1 d) d (dE (sc d) e'.1)) (fun c hc=>aPe (hL e he).1 (hL e' he').1 hd hc hb)
   have h2:=Int.le_trans h1 (aPd e.1 (dE (sc d) e'.1) d)
   have h3:=Int.mul_le_mul_of_nonneg_left h2 (hL e he).2
   have e1:sc d*sc d*(e.2*(dK e.1 (dE (sc d) e'.1) d).2)=e.2*(sc d*sc d*(dK e.1 (dE (sc d) e'.1) d).2):=by grind
   rw [e1];exact h3
 refine Int.le_trans (iI key) ?_
 rw [nF,mQ (by omega) e'.1]
 exact Int.le_of_eq (by grind)
theorem aVn {d:Int} (hd:0≤d∧d≤2) {L:List (PN×Int)} (hL:∀e∈L,vp e.1=0∧0≤e.2):vW d L≤(sc d*sc d)*(sc d*sc d)*(L.map fun e'=>(L.map fun e=>e.2*e'.2*(aDv e.1 e'.1 d).1.2).sum).sum:=by
 unfold vW
 rw [←eA]
 refine iI (fun e' he'=>?_)
 -- exchange the kF over b and e
 have ex:((aO d.toNat e'.1).map fun b=>e'.2*(L.map fun e=>((aO d.toNat e.1).map fun c=>e.2*kR (eJ e.1 d) d b c).sum).sum).sum=(L.map fun e=>((aO d.toNat e'.1).map fun b=>e'.2*((aO d.toNat e.1).map fun c=>e.2*kR (eJ e.1 d) d b c).sum).sum).sum:=by
   have sw:∀(A:List PN) (B:List (PN×Int)) (f:PN→PN×Int→Int),(A.map fun a=>(B.map fun b=>f a b).sum).sum=(B.map fun b=>(A.map fun a=>f a b).sum).sum:=by
     intro A B f
     induction A with
     | nil=>simp only [List.map_nil,List.sum_nil];rw [nF];omega
     | cons a A ih =>
       simp only [List.map_cons,List.sum_cons,ih]
       clear ih
       induction B with
       | nil=>simp
       | cons b B ih2=>simp only [List.map_cons,List.sum_cons];omega
   have e2:((aO d.toNat e'.1).map fun b=>e'.2*(L.map fun e=>((aO d.toNat e.1).map fun c=>e.2*kR (eJ e.1 d) d b c).sum).sum)=((aO d.toNat e'.1).map fun b=>(L.map fun e=>e'.2*((aO d.toNat e.1).map fun c=>e.2*kR (eJ e.1 d) d b c).sum).sum):=by
     refine List.map_congr_left (fun b _=>?_)
     rw [eA]
   rw [e2];exact sw _ _ _
 rw [ex,←eA]
 refine iI (fun e he=>?_)
 have hpk:pk e.1 e'.1 d=0:=by unfold pk;rw [if_pos (hL e he).1,if_pos (hL e' he').1,if_pos hd]
 have hm:(aDv e.1 e'.1 d).1.2=(avg (kF (mV e.1 e'.1 d) (0,0)) (sc d*sc d)).2:=by unfold aDv;rw [if_pos hpk]
 have h1:((aO d.toNat e'.1).map fun b=>e'.2*((aO d.toNat e.1).map fun c=>e.2*kR (eJ e.1 d) d b c).sum).sum≤e.2*e'.2*(sc d*sc d*((aO d.toNat e'.1).map fun b=>(dK e.1 b d).2).sum):=by
   rw [←eA,←eA]
   refine iI (fun b hb=>?_)
   rw [eA]
   have h2:=aPd e.1 b d
   have h3:=Int.mul_le_mul_of_nonneg_left h2 (Int.mul_nonneg (hL e he).2 (hL e' he').2)
   have e1:e'.2*(e.2*((aO d.toNat e.1).map fun c=>kR (eJ e.1 d) d b c).sum)=e.2*e'.2*((aO d.toNat e.1).map (kR (eJ e.1 d) d b)).sum:=by grind
   rw [e1];exact h3
 refine Int.le_trans h1 ?_
 have h4:=aPc (v:=kF (mV e.1 e'.1 d) (0,0)) (dT d)
 rw [kS] at h4
 have e3:(((0:Int),(0:Int)).2+((mV e.1 e'.1 d).map (·.2)).sum)=((aO d.toNat e'.1).map fun b=>(dK e.1 b d).2).sum:=by
   unfold mV
   rw [List.map_map]
   simp only [Int.zero_add]
   rfl
 simp only at h4 e3
 rw [e3] at h4
 rw [hm,kS]
 have h5:=Int.mul_le_mul_of_nonneg_left h4 (show 0≤sc d*sc d by have:=dT d;omega)
 have h6:=Int.mul_le_mul_of_nonneg_left h5 (Int.mul_nonneg (hL e he).2 (hL e' he').2)
 exact Int.le_trans h6 (Int.le_of_eq (by grind))
structure Sys (L:List (PN×Int)) (d Q mx E mn:Int):Prop where
 hd:0≤d∧d≤2
 hL:∀e∈L,vp e.1=0∧0≤e.2
 hQ:gN L=Q
 Q1:1≤Q
 E1:1≤E
 mx1:1≤mx
 mn1:1≤mn
 hmx:∀e∈L,(L.map fun e'=>e'.2*(dK e'.1 (dE (sc d) e.1) d).2).sum≤mx
 hmn:∀e∈L,mn≤(L.map fun e'=>e'.2*(dK e'.1 (dE (sc d) e.1) d).1).sum
 hE:(L.map fun e'=>(L.map fun e=>e.2*e'.2*(aDv e.1 e'.1 d).1.2).sum).sum≤E
theorem xW {L:List (PN×Int)} {d Q mx E mn:Int} (S:Sys L d Q mx E mn):vW d L≤(sc d*sc d)*(sc d*sc d)*(Q*mx):=by
 refine Int.le_trans (aVm S.hd S.hL) (Int.mul_le_mul_of_nonneg_left ?_ (Int.mul_nonneg (by have:=dT d;omega) (by have:=dT d;omega)))
 have h1:=iI (l:=L) (f:=fun e'=>e'.2*(L.map fun e=>e.2*(dK e.1 (dE (sc d) e'.1) d).2).sum) (g:=fun e'=>mx*e'.2) (fun e' he'=>by
   have:=Int.mul_le_mul_of_nonneg_left (S.hmx e' he') (S.hL e' he').2
   exact Int.le_trans this (Int.le_of_eq (Int.mul_comm _ _)))
 rw [eA] at h1
 have:(L.map (·.2)).sum=Q:=S.hQ
 rw [this] at h1
 exact Int.le_trans h1 (Int.le_of_eq (Int.mul_comm _ _))
theorem xX {L:List (PN×Int)} {d Q mx E mn:Int} (S:Sys L d Q mx E mn):vW d L≤(sc d*sc d)*(sc d*sc d)*E :=
 Int.le_trans (aVn S.hd S.hL) (Int.mul_le_mul_of_nonneg_left S.hE (Int.mul_nonneg (by have:=dT d;omega) (by have:=dT d;omega)))
theorem bO {a b k:Int} (hk:1≤k)(h:k*a≤k*b):a≤b:=Int.le_of_mul_le_mul_left h (by omega)
theorem aPf {L L':List (PN×Int)} {d Q mx E mn d' Q' mx' E' mn':Int} (S:Sys L d Q mx E mn)(S':Sys L' d' Q' mx' E' mn')
   (hV:∀e∈L,mn'≤(L'.map fun e'=>e'.2*(dK e'.1 (dE (sc d') e.1) d').1).sum):Q*Q*mn'≤Q'*E∧Q*mn'≤Q'*mx:=by
 have hV0:∀e∈L,sc d'*sc d'*mn'≤PLs d' L' e.1:=fun e he =>
   Int.le_trans (Int.mul_le_mul_of_nonneg_left (hV e he) (by have:=dT d';omega)) (aTd S'.hL e.1)
 have a:=aYo S.hd S'.hd S.hL S'.hL hV0 (xX S)
 have b:=aYo S.hd S'.hd S.hL S'.hL hV0 (xW S)
 rw [S.hQ,S'.hQ] at a b
 have n1:=dT d;have n2:=dT d'
 generalize sc d*sc d=n at *
 generalize sc d'*sc d'=n' at *
 have nn:1≤n*n:=by have:=Int.mul_le_mul (a:=1) (b:=1) (c:=n) (d:=n) n1 n1 (by omega) (by omega);omega
 have nnn:1≤n*n*n':=by have:=Int.mul_le_mul (a:=1) (b:=1) (c:=n*n) (d:=n') nn n2 (by omega) (by omega);omega
 refine⟨bO nnn ?_,bO S.Q1 (bO nnn ?_)⟩
 · have e1:n*n*n'*(Q*Q*mn')=n*Q*(n*Q)*(n'*mn'):=by grind
   have e2:n*n*n'*(Q'*E)=n'*Q'*(n*n*E):=by grind
   rw [e1,e2];exact a
 · have e1:n*n*n'*(Q*(Q*mn'))=n*Q*(n*Q)*(n'*mn'):=by grind
   have e2:n*n*n'*(Q*(Q'*mx))=n'*Q'*(n*n*(Q*mx)):=by grind
   rw [e1,e2];exact b
theorem aPg {L:List (PN×Int)} {d Q mx E mn:Int} (S:Sys L d Q mx E mn) {c:P3} {m B:Int} (hc:bd 256 c)(hm:∀e∈L,ds e.1.1 c≤m∧ds e.1.2.1 c≤m∧ds e.1.2.2 c≤m)(hm1:1≤m)(hB:m*1099511627776≤B*B)(hB0:1≤B):Q*Q*1099511627776≤B*E∧Q*1099511627776≤B*mx:=by
 have a:=aYp S.hd S.hL hc hm hm1 hB hB0 (xX S)
 have b:=aYp S.hd S.hL hc hm hm1 hB hB0 (xW S)
 rw [S.hQ] at a b
 have n1:=dT d
 generalize sc d*sc d=n at *
 have nn:1≤n*n:=by have:=Int.mul_le_mul (a:=1) (b:=1) (c:=n) (d:=n) n1 n1 (by omega) (by omega);omega
 refine⟨bO nn ?_,bO S.Q1 (bO nn ?_)⟩
 · have e1:n*n*(Q*Q*1099511627776)=n*Q*(n*Q)*1099511627776:=by grind
   have e2:n*n*(B*E)=B*(n*n*E):=by grind
   rw [e1,e2];exact a
 · have e1:n*n*(Q*(Q*1099511627776))=n*Q*(n*Q)*1099511627776:=by grind
   have e2:n*n*(Q*(B*mx))=B*(n*n*(Q*mx)):=by grind
   rw [e1,e2];exact b
theorem aPh {x n:Int} (h1:-1099511627776≤kK x n)(h2:kK x n≤1099511627776):kK x n=x*n:=by
 unfold kK at *
 split at h1<;>rename_i a
 · rw [if_pos a] at h2;omega
 · rw [if_neg a] at h2 ⊢
   split at h1<;>rename_i b
   · omega
   · rw [if_neg b]
theorem aJ9 {a:Int×Int} {n:Int} (ha:okP a)(hn:0≤n∧n≤10000)(h:(iU a n).2=0):(iU a n).1=(a.1*n,a.2*n):=by
 rw [aDu (aOa ha) (by omega)] at h ⊢
 rcases pF (scl a n).1 (scl a n).2 with⟨e,v⟩ | e
 · rw [e]
   have hs:scl a n=(kK a.1 n,kK a.2 n):=by unfold scl;rw [if_neg (by omega)]
   rw [hs] at v ⊢
   unfold vs at v
   simp only at v ⊢
   rw [aPh v.1 (by omega),aPh (x:=a.2) (by omega) v.2.2]
 · rw [e] at h;exact absurd h (by decide)
theorem aKa {l:List ((Int×Int)×Int)} (hl:∀c∈l,okP c.1∧0≤c.2∧c.2≤10000)(h:(iY l).2=0):(iY l).1=((l.map fun c=>c.1.1*c.2).sum,(l.map fun c=>c.1.2*c.2).sum):=by
 unfold iY at h ⊢
 cases hs:shs aD7 l [] with
 | inr r=>rw [hs] at h;exact absurd h (tL hs)
 | inl m =>
   rw [hs] at h
   simp only [aBq] at h ⊢
   obtain⟨e,hv⟩:=aNb h
   rw [e]
   obtain⟨e2,h0⟩:=mW hs
   rw [List.nil_append] at e2
   rw [kS,e2]
   simp only [Int.zero_add,List.map_map]
   refine Prod.ext ?_ ?_
   · refine congrArg List.sum (List.map_congr_left fun c hc=>?_)
     show(iU c.1 c.2).1.1=_
     rw [aJ9 (hl c hc).1 (hl c hc).2 (h0 c hc)]
   · refine congrArg List.sum (List.map_congr_left fun c hc=>?_)
     show(iU c.1 c.2).1.2=_
     rw [aJ9 (hl c hc).1 (hl c hc).2 (h0 c hc)]
theorem aR6 {T:TB} {q:List Int} (hT:∀r∈T,r.length=q.length∧∀s∈r,okP s)(hq:okC q)(h:(tQ T q).2=0) :
   (tQ T q).1=T.map fun r=>(((r.zip q).map fun c=>c.1.1*c.2).sum,((r.zip q).map fun c=>c.1.2*c.2).sum):=by
 unfold tQ at h ⊢
 cases hs:shs (fun r:List (Int×Int)=>iY (r.zip q)) T [] with
 | inr r=>rw [hs] at h;exact absurd h (tL hs)
 | inl m =>
   simp only [aBq]
   obtain⟨e,h0⟩:=mW hs
   rw [List.nil_append] at e
   subst e
   refine List.map_congr_left fun r hr=>?_
   obtain⟨hl,hP⟩:=hT r hr
   exact aKa (l:=r.zip q) (fun c hc=>⟨hP _ (List.of_mem_zip hc).1,by have:=hq _ (List.of_mem_zip hc).2;omega⟩) (h0 r hr)
theorem aPi:∀(l:List (Int×Int))(v:Int),v≤mxF l v∧∀s∈l,s.2≤mxF l v
 | [],v=>⟨Int.le_refl _,fun s hs=>by cases hs⟩
 | a::l,v=>by
   have ih:=aPi l (qD v a.2)
   have hb:v≤qD v a.2∧a.2≤qD v a.2:=by unfold qD;split<;>omega
   refine⟨Int.le_trans hb.1 ih.1,fun s hs=>?_⟩
   rcases List.mem_cons.1 hs with rfl | hs
   · exact Int.le_trans hb.2 ih.1
   · exact ih.2 s hs
theorem aPj:∀(l:List (Int×Int))(v:Int),mnF l v≤v∧∀s∈l,mnF l v≤s.1
 | [],v=>⟨Int.le_refl _,fun s hs=>by cases hs⟩
 | a::l,v=>by
   have ih:=aPj l (zK v a.1)
   have hb:zK v a.1≤v∧zK v a.1≤a.1:=by unfold zK;split<;>omega
   refine⟨Int.le_trans ih.1 hb.1,fun s hs=>?_⟩
   rcases List.mem_cons.1 hs with rfl | hs
   · exact Int.le_trans ih.1 hb.2
   · exact ih.2 s hs
theorem aKb:∀(l:List (Int×Int))(v:Int),1≤v→(∀s∈l,1≤s.1)→1≤mnF l v
 | [],v,h,_=>h
 | a::l,v,h,h2=>aKb l (zK v a.1) (by have:=h2 a List.mem_cons_self;unfold zK;split<;>omega) (fun s hs=>h2 s (List.mem_cons_of_mem _ hs))
theorem aPk:∀(l:List (Int×Int))(v B:Int),v≤B→(∀s∈l,s.2≤B)→mxF l v≤B
 | [],v,B,h,_=>h
 | a::l,v,B,h,h2=>aPk l (qD v a.2) B (by have:=h2 a List.mem_cons_self;unfold qD;split<;>omega) (fun s hs=>h2 s (List.mem_cons_of_mem _ hs))
theorem aPl {n:Int} (h:(F86 n).2=0):(F86 n).1=n∧n≤1099511627776:=by
 unfold F86 at h ⊢
 by_cases c:n > 1099511627776
 · rw [cV c] at h;exact absurd h (show ¬((4:Int)=0) by decide)
 · rw [dL c];exact⟨rfl,by omega⟩
abbrev chg (m:ME)(q:List Int):List (PN×Int):=(aT m).zip q
theorem aR7 {m:ME} {q:List Int} (hC:ChOK m q):gN (chg m q)=q.sum:=by
 unfold gN chg
 have hpl:(aT m).length=m.2.length:=List.length_map _
 rw [List.map_snd_zip (by have:=hC.len;omega)]
theorem aVo {m:ME} {q:List Int} (hC:ChOK m q):∀e∈chg m q,vp e.1=0∧0≤e.2:=by
 intro e he
 have h1:=List.of_mem_zip he
 refine⟨?_,(hC.ok _ h1.2).1⟩
 obtain⟨c,hc,e1⟩:=List.mem_map.1 h1.1
 rw [←e1]
 exact kV hC.v c hc
structure BV (x:Int×Int) (Q mx E mn B:Int):Prop where
 lo:∃b t,x.1=qD b t∧0≤b∧0≤t∧b*mx≤Q*1099511627776∧t*E≤Q*Q*1099511627776
 hi:∃a,x.2=zK a B∧Q*1099511627776≤a*mn∧a≤1099511627776
theorem eD {m:ME} {q:List Int} {d:Int} (h:(aM m q d).2=0):ChOK m q∧∃Q mx E mn,Sys (chg m q) d Q mx E mn∧BV (aM m q d).1 Q mx E mn (F9 m (hH (mB m))).1:=by
 unfold aM at h ⊢
 cases hc:((eV (m.1,m.2) q d:Int) != 0) with
 | true=>simp only [hc,cond_true] at h;rw [h] at hc;cases hc
 | false =>
   obtain⟨hv,hd⟩:=aCo (m:=m) hc
   have hC:ChOK m q:=by have hc2:((eV m q d:Int) != 0)=false:=hc;rw [aCl] at hc2;exact(aAq (bne_eq_false_iff_eq.1 hc2)).1
   refine⟨hC,?_⟩
   have hpf:=aIa (m:=m) hv hd
   simp only [hc,cond_false] at h ⊢
   have hpf':xJ (m.1,m.2) d=_:=hpf
   rw [hpf'] at h ⊢
   rw [show((((((m.1,m.2),(bP m d).1,(bW m d).1,(F9 m (hH (mB m))).1),0):TBL×Int).2:Int) != 0)=false from rfl,cond_false] at h ⊢
   have eB:(bP m d).1=(aT m).map (kZ m d):=by rw [aGa hv hd];rfl
   have eM:(bW m d).1=MT m d:=by rw [aGb hv hd];rfl
   simp only [eB,eM] at h ⊢
   have hn:=hC.n;have hl:=hC.len;have hs1:=hC.pos;have hle:=hC.le
   have hpl:(aT m).length=m.2.length:=List.length_map _
   have hrow:∀r∈(aT m).map (kZ m d),r.length=q.length∧∀s∈r,okP s:=fun r hr=>by
     obtain⟨p,hp,rfl⟩:=List.mem_map.1 hr
     unfold kZ
     refine⟨by rw [List.length_map];omega,fun s hsm=>?_⟩
     obtain⟨p',hp',rfl⟩:=List.mem_map.1 hsm
     exact(oO (oP hC.v hd hp' hp)).2
   have ep:=aOb (T:=(aT m).map (kZ m d)) (q:=q) (fun r hr=>by rw [(hrow r hr).1];exact Nat.le_refl _) (by omega)
   have ee:=aXz (m:=m) (q:=q) (d:=d) (by omega) (by omega)
   unfold fD at h ⊢
   simp only [ep,ee] at h ⊢
   generalize hB:(F9 m (hH (mB m))).1=B at *
   cases hP:((((tQ ((aT m).map (kZ m d)) q).2:Int)) != 0) with
   | true=>simp only [hP,cond_true] at h;rw [h] at hP;cases hP
   | false =>
     simp only [hP,cond_false] at h ⊢
     have hP0:=bne_eq_false_iff_eq.1 hP
     have pv:=aR6 hrow hC.ok hP0
     have pp:=aJz hrow hC.ok hP0
     cases hb:(((gL (tQ ((aT m).map (kZ m d)) q).1 q).2:Int) != 0) with
     | true=>simp only [hb,cond_true] at h;rw [h] at hb;cases hb
     | false =>
       simp only [hb,cond_false] at h ⊢
       cases hE:(((iY (((aT m).zip q).flatMap (eC m q d))).2:Int) != 0) with
       | true=>simp only [hE,cond_true] at h;rw [h] at hE;cases hE
       | false =>
         simp only [hE,cond_false] at h ⊢
         have hE0:=bne_eq_false_iff_eq.1 hE
         have hzq:∀e∈(aT m).zip q,0≤e.2∧e.2≤100:=fun e he=>hC.ok _ (List.of_mem_zip he).2
         have hWq:∀c∈(aT m).zip q,∀e∈(aT m).zip q,W (c.2*e.2)=c.2*e.2∧0≤c.2*e.2∧c.2*e.2≤10000:=fun c hc e he=>by
           have a:=hzq c hc;have b:=hzq e he
           have c1:=Int.mul_nonneg a.1 b.1
           have c2:=Int.mul_le_mul (a:=c.2) (b:=e.2) (c:=100) (d:=100) a.2 b.2 b.1 (by omega)
           exact⟨aD (by omega) (by omega),c1,by omega⟩
         have hel:∀c∈((aT m).zip q).flatMap (eC m q d),okP c.1∧0≤c.2∧c.2≤10000:=fun c hc=>by
           obtain⟨e,he,hc⟩:=List.mem_flatMap.1 hc
           obtain⟨e',he',rfl⟩:=List.mem_map.1 hc
           have:=hWq e he e' he'
           exact⟨(rQ (oP hC.v hd (List.of_mem_zip he).1 (List.of_mem_zip he').1)).2,by simp only;rw [this.1];exact this.2.1,by simp only;rw [this.1];exact this.2.2⟩
         have ev:=aKa hel hE0
         have epos:=aOh hC hd hE0
         cases ht:(((qT (iY (((aT m).zip q).flatMap (eC m q d))).1 q).2:Int) != 0) with
         | true=>simp only [ht,cond_true] at h;rw [h] at ht;cases ht
         | false =>
           simp only [ht,cond_false] at h ⊢
           cases ha:(((gM (tQ ((aT m).map (kZ m d)) q).1 q).2:Int) != 0) with
           | true=>simp only [ha,cond_true] at h;rw [h] at ha;cases ha
           | false =>
             simp only [cond_false]
             have tq:=aOi hC.ok hC.pos (by omega)
             have o1:=aOj hC.ok hC.pos (by omega)
             have hb0:=bne_eq_false_iff_eq.1 hb
             have ht0:=bne_eq_false_iff_eq.1 ht
             have ha0:=bne_eq_false_iff_eq.1 ha
             rw [aRs] at hb0 ⊢
             rw [aRt] at ha0 ⊢
             unfold qT at ht0 ⊢
             rw [tq.1] at hb0 ha0 ht0 ⊢
             rw [tq.1] at o1
             rw [o1] at ht0 ⊢
             simp only at ht0 ⊢
             generalize hl2:(tQ ((aT m).map (kZ m d)) q).1=l at *
             have l1:1≤l.length:=by rw [pp.1,List.length_map];omega
             have lv:∀s∈l,1≤s.1∧s.1≤s.2∧s.2≤1099511627776:=fun s hs=>by
               have:=pp.2 s hs
               unfold vs at this;omega
             have l0m:l.getD (toNat 0) default∈l:=by
               rw [show toNat 0=0 from rfl,eW,List.getElem?_eq_getElem (show 0 < l.length by omega)]
               exact List.getElem_mem (show 0 < l.length by omega)
             have hmx:=aPi l (l.getD (toNat 0) default).2
             have hmn:=aPj l (l.getD (toNat 0) default).1
             have mn1:=aKb l (l.getD (toNat 0) default).1 (lv _ l0m).1 (fun s hs=>(lv s hs).1)
             have mxb:=aPk l (l.getD (toNat 0) default).2 1099511627776 (lv _ l0m).2.2 (fun s hs=>(lv s hs).2.2)
             have mx1:1≤mxF l (l.getD (toNat 0) default).2:=by have:=lv _ l0m;omega
             have mnb:mnF l (l.getD (toNat 0) default).1≤1099511627776:=by have:=lv _ l0m;omega
             generalize mxF l (l.getD (toNat 0) default).2=mx at *
             generalize mnF l (l.getD (toNat 0) default).1=mn at *
             have hEE:(iY (((aT m).zip q).flatMap (eC m q d))).1.2=((((aT m).zip q).flatMap (eC m q d)).map fun c=>c.1.2*c.2).sum:=by rw [ev]
             generalize hEg:(iY (((aT m).zip q).flatMap (eC m q d))).1.2=E at *
             have hvE:E≤1099511627776:=by have:=epos.2;unfold vs at this;omega
             refine⟨q.sum,mx,E,mn,⟨hd,aVo hC,aR7 hC,hC.pos,epos.1,mx1,mn1,?_,?_,?_⟩,⟨?_,?_⟩⟩
             · intro e he
               have hx2:=hmx.2
               rw [pv] at hx2
               have hm:=hx2 _ (List.mem_map.2 ⟨kZ m d e.1,List.mem_map.2 ⟨e.1,(List.of_mem_zip he).1,rfl⟩,rfl⟩)
               refine Int.le_trans (Int.le_of_eq ?_) hm
               simp only
               unfold kZ
               rw [aOc,List.map_map]
               refine congrArg List.sum (List.map_congr_left fun e' he'=>?_)
               have:=gZ (oP hC.v hd (List.of_mem_zip he').1 (List.of_mem_zip he).1)
               simp only [Function.comp]
               rw [this];exact Int.mul_comm _ _
             · intro e he
               have hx2:=hmn.2
               rw [pv] at hx2
               have hm:=hx2 _ (List.mem_map.2 ⟨kZ m d e.1,List.mem_map.2 ⟨e.1,(List.of_mem_zip he).1,rfl⟩,rfl⟩)
               refine Int.le_trans hm (Int.le_of_eq ?_)
               simp only
               unfold kZ
               rw [aOc,List.map_map]
               refine congrArg List.sum (List.map_congr_left fun e' he'=>?_)
               have:=gZ (oP hC.v hd (List.of_mem_zip he').1 (List.of_mem_zip he).1)
               simp only [Function.comp]
               rw [this];exact Int.mul_comm _ _
             · rw [hEE]
               refine Int.le_of_eq ?_
               -- sum over e' of sum over e against sum over c of sum over e
               have fl:∀(A:List (PN×Int)) (g:PN×Int→List ((Int×Int)×Int)),((A.flatMap g).map fun c=>c.1.2*c.2).sum=(A.map fun a=>((g a).map fun c=>c.1.2*c.2).sum).sum:=by
                 intro A g
                 induction A with
                 | nil=>rfl
                 | cons a A ih=>rw [List.flatMap_cons,List.map_append,List.sum_append,ih,List.map_cons,List.sum_cons]
               have sw:∀(A B:List (PN×Int)) (f:PN×Int→PN×Int→Int),(A.map fun a=>(B.map fun b=>f a b).sum).sum=(B.map fun b=>(A.map fun a=>f a b).sum).sum:=by
                 intro A B f
                 induction A with
                 | nil=>simp only [List.map_nil,List.sum_nil];rw [nF];omega
                 | cons a A ih =>
                   simp only [List.map_cons,List.sum_cons,ih]
                   clear ih
                   induction B with
                   | nil=>simp
                   | cons b B ih2=>simp only [List.map_cons,List.sum_cons];omega
               rw [fl,sw]
               refine congrArg List.sum (List.map_congr_left fun c hc=>?_)
               unfold eC
               rw [List.map_map]
               refine congrArg List.sum (List.map_congr_left fun e he=>?_)
               simp only [Function.comp]
               rw [(hWq c hc e he).1,lO,Int.mul_comm (c.2*e.2)]
             · have ub:=aH9 (a:=E) (n:=q.sum) (by omega) (by omega)
               have w0:1≤(E+q.sum - 1).tdiv q.sum:=by rw [←ub.2];exact ub.1
               have ed:(E+q.sum - 1).tdiv q.sum=(E+q.sum - 1) / q.sum:=Int.tdiv_eq_ediv_of_nonneg (by omega)
               have w1:E≤(E+q.sum - 1) / q.sum*q.sum:=by
                 have a1:=Int.lt_mul_ediv_self_add (x:=E+q.sum - 1) (k:=q.sum) (by omega)
                 rw [Int.mul_comm] at a1;omega
               rw [ub.2] at ht0 ⊢
               have b1:=aPl hb0
               have t1:=aPl ht0
               rw [b1.1,t1.1]
               have bd1:(q.sum*1099511627776).tdiv mx=q.sum*1099511627776 / mx:=Int.tdiv_eq_ediv_of_nonneg (by omega)
               have td1:(q.sum*1099511627776).tdiv ((E+q.sum - 1).tdiv q.sum)=q.sum*1099511627776 / ((E+q.sum - 1).tdiv q.sum):=Int.tdiv_eq_ediv_of_nonneg (by omega)
               have bq:=Int.ediv_mul_le (q.sum*1099511627776) (b:=mx) (by omega)
               have tq2:=Int.ediv_mul_le (q.sum*1099511627776) (b:=(E+q.sum - 1).tdiv q.sum) (by omega)
               have bn:0≤q.sum*1099511627776 / mx:=Int.ediv_nonneg (by omega) (by omega)
               have tn:0≤q.sum*1099511627776 / ((E+q.sum - 1).tdiv q.sum):=Int.ediv_nonneg (by omega) (by omega)
               have bl:q.sum*1099511627776 / mx≤q.sum*1099511627776:=Int.ediv_le_self _ (by omega)
               have tl:q.sum*1099511627776 / ((E+q.sum - 1).tdiv q.sum)≤q.sum*1099511627776:=Int.ediv_le_self _ (by omega)
               rw [bd1,td1,aD (by omega) (by omega),aD (by omega) (by omega)]
               refine⟨_,_,rfl,bn,tn,bq,?_⟩
               generalize q.sum*1099511627776 / ((E+q.sum - 1).tdiv q.sum)=t at *
               rw [ed] at tq2
               have a1:=Int.mul_le_mul_of_nonneg_left w1 tn
               have a2:=Int.mul_le_mul_of_nonneg_right tq2 (show 0≤q.sum by omega)
               have a3:t*((E+q.sum - 1) / q.sum*q.sum)=t*((E+q.sum - 1) / q.sum)*q.sum:=by grind
               have a4:q.sum*1099511627776*q.sum=q.sum*q.sum*1099511627776:=by grind
               rw [a3] at a1
               rw [a4] at a2
               exact Int.le_trans a1 a2
             · have a1:=aPl ha0
               rw [a1.1]
               have ua:=aH9 (a:=q.sum*1099511627776) (n:=mn) (by omega) (by omega)
               have ed:(q.sum*1099511627776+mn - 1).tdiv mn=(q.sum*1099511627776+mn - 1) / mn:=Int.tdiv_eq_ediv_of_nonneg (by omega)
               have a2:=Int.lt_mul_ediv_self_add (x:=q.sum*1099511627776+mn - 1) (k:=mn) (by omega)
               rw [Int.mul_comm mn] at a2
               refine⟨_,rfl,?_,a1.2⟩
               rw [ua.2,ed]
               omega
theorem aPm {x x':Int×Int} {Q mx E mn B Q' mx' E' mn' B' f g:Int} (h:BV x Q mx E mn B)(h':BV x' Q' mx' E' mn' B')(hf:0≤f)(hg:0≤g)(m1:1≤mx)(e1:1≤E)(n1:1≤mn')
   (p:f*(Q*Q*mn')≤g*(Q'*E)∧f*(Q*mn')≤g*(Q'*mx)) (b:f*(Q*Q*1099511627776)≤g*(B'*E)∧f*(Q*1099511627776)≤g*(B'*mx)):f*x.1≤g*x'.2:=by
 obtain⟨u,t,ex,u0,t0,hu,ht⟩:=h.lo
 obtain⟨a,ey,ha,_⟩:=h'.hi
 have c1:f*u≤g*a:=by
   have s1:=Int.mul_le_mul_of_nonneg_left hu (show 0≤f*mn' from Int.mul_nonneg hf (by omega))
   have s2:=Int.mul_le_mul_of_nonneg_left p.2 (show(0:Int)≤1099511627776 by omega)
   have s3:=Int.mul_le_mul_of_nonneg_left ha (show 0≤g*mx from Int.mul_nonneg hg (by omega))
   have k1:1≤mx*mn':=by have:=Int.mul_le_mul (a:=1) (b:=1) (c:=mx) (d:=mn') m1 n1 (by omega) (by omega);omega
   refine bO k1 ?_
   grind
 have c2:f*t≤g*a:=by
   have s1:=Int.mul_le_mul_of_nonneg_left ht (show 0≤f*mn' from Int.mul_nonneg hf (by omega))
   have s2:=Int.mul_le_mul_of_nonneg_left p.1 (show(0:Int)≤1099511627776 by omega)
   have s3:=Int.mul_le_mul_of_nonneg_left ha (show 0≤g*E from Int.mul_nonneg hg (by omega))
   have k1:1≤E*mn':=by have:=Int.mul_le_mul (a:=1) (b:=1) (c:=E) (d:=mn') e1 n1 (by omega) (by omega);omega
   refine bO k1 ?_
   grind
 have c3:f*u≤g*B':=by
   have s1:=Int.mul_le_mul_of_nonneg_left hu hf
   refine bO m1 ?_
   grind
 have c4:f*t≤g*B':=by
   have s1:=Int.mul_le_mul_of_nonneg_left ht hf
   refine bO e1 ?_
   grind
 rw [ex,ey]
 have i1:=oQ u t
 have i2:=rW a B'
 rcases i1.2.2 with k | k<;>rcases i2.2.2 with l | l<;>rw [k,l]<;>assumption
theorem aYq {x:Int×Int} {Q mx E mn B:Int} (h:BV x Q mx E mn B):0≤x.1∧x.2≤1099511627776:=by
 obtain⟨u,t,ex,u0,t0,_⟩:=h.lo
 obtain⟨a,ey,_,ha⟩:=h.hi
 have:=oQ u t;have:=rW a B
 omega
theorem aTe {n:Int} (h:0≤n∧n≤400000):(rO n).2=0∧0≤(rO n).1.2∧n*1099511627776≤(rO n).1.2*(rO n).1.2:=by
 obtain⟨r,hr,e⟩:=aN4 h
 obtain⟨h0,h1,h2⟩:=hr
 rw [e]
 unfold aBe
 have hb:r≤1073741824:=by
   by_cases hc:r≤1073741824
   · exact hc
   · have:=Int.mul_le_mul (show(1073741824:Int)≤r by omega) (show(1073741824:Int)≤r by omega) (by omega) (by omega)
     omega
 have hx:((if r*r=n*1099511627776 then r else r+1)=r∧r*r=n*1099511627776)∨(if r*r=n*1099511627776 then r else r+1)=r+1:=by
   split
   · rename_i c;exact .inl ⟨rfl,c⟩
   · exact .inr rfl
 generalize (if r*r=n*1099511627776 then r else r+1)=s at hx ⊢
 rw [tG (by omega) (by omega) (by omega)]
 refine⟨rfl,?_,?_⟩
 · show 0≤s;omega
 · show n*1099511627776≤s*s
   rcases hx with⟨e1,e2⟩ | e1<;>rw [e1]<;>omega
theorem aPn {p x:P3} (hp:bd 64 p)(hx:bd 256 x):dsW p x=ds p x:=by
 unfold bd at hp hx
 have e1:W (p.1 - x.1)=p.1 - x.1:=aD (by omega) (by omega)
 have e2:W (p.2.1 - x.2.1)=p.2.1 - x.2.1:=aD (by omega) (by omega)
 have e3:W (p.2.2 - x.2.2)=p.2.2 - x.2.2:=aD (by omega) (by omega)
 have b1:=aU (a:=320) (b:=320) (x:=p.1 - x.1) (y:=p.1 - x.1) (by omega) (by omega)
 have b2:=aU (a:=320) (b:=320) (x:=p.2.1 - x.2.1) (y:=p.2.1 - x.2.1) (by omega) (by omega)
 have b3:=aU (a:=320) (b:=320) (x:=p.2.2 - x.2.2) (y:=p.2.2 - x.2.2) (by omega) (by omega)
 unfold dsW ds dt sb
 simp only [e1,e2,e3]
 generalize (p.1 - x.1)*(p.1 - x.1)=a at *
 generalize (p.2.1 - x.2.1)*(p.2.1 - x.2.1)=b at *
 generalize (p.2.2 - x.2.2)*(p.2.2 - x.2.2)=c at *
 rw [aD (n:=a) (by omega) (by omega),aD (n:=b) (by omega) (by omega),aD (n:=c) (by omega) (by omega),aD (n:=a+b) (by omega) (by omega),aD (n:=a+b+c) (by omega) (by omega)]
theorem aA5 (x:P3):∀(l:List P3)(v:Int),v≤l.foldl (fun v p=>qD v (dsW p x)) v∧∀p∈l,dsW p x≤l.foldl (fun v p=>qD v (dsW p x)) v
 | [],v=>⟨Int.le_refl _,fun s hs=>by cases hs⟩
 | a::l,v=>by
   rw [List.foldl_cons]
   have ih:=aA5 x l (qD v (dsW a x))
   have hb:=oQ v (dsW a x)
   refine⟨Int.le_trans hb.1 ih.1,fun s hs=>?_⟩
   rcases List.mem_cons.1 hs with rfl | hs
   · exact Int.le_trans hb.2.1 ih.1
   · exact ih.2 s hs
theorem aKc {m:ME} (h:bN m=0):∀p∈aT m,p.1∈m.1∧p.2.1∈m.1∧p.2.2∈m.1:=by
 intro p hp
 obtain⟨c,hc,rfl⟩:=List.mem_map.1 hp
 obtain⟨i,hi⟩:=List.getElem?_of_mem hc
 obtain⟨hlt,_⟩:=List.getElem?_eq_some_iff.1 hi
 obtain⟨h64,_,_,_,hf⟩:=bI h
 have hfc:=hf (i:Int) (by omega) (by omega)
 rw [bF hi] at hfc
 have hin:inF m.1.length c:=iG (m:=m) (by rw [hfc];rfl) h64
 have mm:∀j:Int,0≤j∧j < (m.1.length:Int)→m.1.getD (toNat j) default∈m.1:=fun j hj=>by
   have hl:toNat j < m.1.length:=by omega
   rw [eW,List.getElem?_eq_getElem hl]
   exact List.getElem_mem hl
 exact⟨mm _ hin.1,mm _ hin.2.1,mm _ hin.2.2⟩
theorem aYr {a b c:Int} (h:a*a+b*b+c*c≤0):a=0∧b=0∧c=0:=by
 have sq:∀x:Int,0≤x*x:=fun x=>by
   rcases Int.le_total 0 x with k | k
   · exact Int.mul_nonneg k k
   · exact Int.mul_nonneg_of_nonpos_of_nonpos k k
 have:=sq a;have:=sq b;have:=sq c
 have z:∀x:Int,x*x≤0→x=0:=fun x hx=>by
   rcases Int.lt_trichotomy x 0 with k | k | k
   · have:=Int.mul_le_mul (a:=1) (b:=1) (c:=-x) (d:=-x) (by omega) (by omega) (by omega) (by omega)
     rw [Int.neg_mul_neg] at this;omega
   · exact k
   · have:=Int.mul_le_mul (a:=1) (b:=1) (c:=x) (d:=x) (by omega) (by omega) (by omega) (by omega)
     omega
 exact⟨z a (by omega),z b (by omega),z c (by omega)⟩
theorem aLl {p c:P3} (h:ds p c≤0):p=c:=by
 unfold ds dt sb at h
 obtain⟨h1,h2,h3⟩:=aYr h
 simp only at h1 h2 h3
 exact Prod.ext (by omega) (Prod.ext (by omega) (by omega))
theorem aPo {m:ME} {q:List Int} {c:P3} {d Q mx E mn:Int} (hC:ChOK m q)(S:Sys (chg m q) d Q mx E mn)(hc:bd 256 c) :
   (F9 m c).2=0∧Q*Q*1099511627776≤(F9 m c).1*E∧Q*1099511627776≤(F9 m c).1*mx:=by
 have hv:=hC.v
 have hpt:=nC hv
 have hW:=tU hc m.1 0 hpt (by omega)
 have eB:F9 m c=((rO (cC m c)).1.2,(rO (cC m c)).2):=by
   unfold F9
   rw [show bN (m.1,m.2)=0 from hv,tT,tT,tT,cV hc.1,cV hc.2.1,cV hc.2.2]
   show(aB (vE m c) (toNat ((m.1.length:Int) - 0)+1) (0,0))=_
   rw [aD8]
 have L:=aTe (n:=cC m c) hW
 rw [eB]
 refine⟨L.1,?_⟩
 have hd:=(aA5 c m.1 0).2
 have hm:∀e∈chg m q,ds e.1.1 c≤cC m c∧ds e.1.2.1 c≤cC m c∧ds e.1.2.2 c≤cC m c:=by
   intro e he
   have hp:=aKc hv e.1 (List.of_mem_zip he).1
   have one:∀p∈m.1,ds p c≤cC m c:=fun p hp=>by rw [←aPn (hpt p hp) hc];exact hd p hp
   exact⟨one _ hp.1,one _ hp.2.1,one _ hp.2.2⟩
 have h1:1≤cC m c:=by
   rcases Int.lt_or_le 0 (cC m c) with k | k
   · omega
   · exfalso
     have hne:∃e,e∈chg m q:=by
       cases hl:chg m q with
       | nil=>have a:=S.hQ;rw [hl] at a;have b:=S.Q1;exact absurd (show(0:Int)=Q from a) (by omega)
       | cons a l=>exact⟨a,List.mem_cons_self⟩
     obtain⟨e,he⟩:=hne
     have h3:=hm e he
     have hv:=(dN (S.hL e he).1).2
     have e1:=aLl (Int.le_trans h3.1 k);have e2:=aLl (Int.le_trans h3.2.1 k);have e3:=aLl (Int.le_trans h3.2.2 k)
     have hz:eQ e.1=(0,0,0):=by
       have s0:sb c c=(0,0,0):=Prod.ext (Int.sub_self _) (Prod.ext (Int.sub_self _) (Int.sub_self _))
       unfold eQ;rw [e1,e2,e3,s0];decide
     rw [hz] at hv
     exact absurd hv (by decide)
 have B1:1≤(rO (cC m c)).1.2:=by
   rcases Int.lt_or_le 0 (rO (cC m c)).1.2 with k | k
   · omega
   · exfalso
     have e0:(rO (cC m c)).1.2=0:=by have:=L.2.1;omega
     have:=L.2.2
     rw [e0] at this;omega
 exact aPg S hc hm h1 L.2.2 B1
theorem aR8 {m:ME} {q q':List Int} {d' Q' mx' E' mn':Int} (hC:ChOK m q)(hC':ChOK m q')(S':Sys (chg m q') d' Q' mx' E' mn'):∀e∈chg m q,mn'≤((chg m q').map fun e'=>e'.2*(dK e'.1 (dE (sc d') e.1) d').1).sum:=by
 intro e he
 have hp:=(List.of_mem_zip he).1
 have:∃e'∈chg m q',e'.1=e.1:=by
   obtain⟨i,hi⟩:=List.getElem?_of_mem hp
   obtain⟨hlt,hge⟩:=List.getElem?_eq_some_iff.1 hi
   have hpl:(aT m).length=m.2.length:=List.length_map _
   have hl:i < (chg m q').length:=by
     unfold chg
     rw [List.length_zip];have:=hC'.len;omega
   refine⟨(chg m q')[i],List.getElem_mem hl,?_⟩
   unfold chg
   rw [List.getElem_zip];exact hge
 obtain⟨e',he',eq⟩:=this
 have:=S'.hmn e' he'
 rw [eq] at this
 exact this
theorem oT {m:ME} {q q':List Int} {d d':Int} (h:(aM m q d).2=0)(h':(aM m q' d').2=0):(aM m q d).1.1≤(aM m q' d').1.2:=by
 obtain⟨hC,Q,mx,E,mn,S,V⟩:=eD h
 obtain⟨hC',Q',mx',E',mn',S',V'⟩:=eD h'
 have p:=aPf S S' (aR8 hC hC' S')
 have hb:=aAr hC.v
 have b:=(aPo hC S (c:=hH (mB m)) (by unfold bd at hb ⊢;omega)).2
 have:=aPm (f:=1) (g:=1) V V' (by omega) (by omega) S.mx1 S.E1 S'.mn1 (by omega) (by omega)
 omega
theorem xY {m:ME} {q:List Int} {d:Int} (h:(aM m q d).2=0):0≤(aM m q d).1.1∧(aM m q d).1.1≤(aM m q d).1.2∧(aM m q d).1.2≤1099511627776:=by
 obtain⟨hC,Q,mx,E,mn,S,V⟩:=eD h
 have:=aYq V
 exact⟨this.1,oT h h,this.2⟩
theorem aCr {a b:Int} (h:(a:Rat)*uu≤(b:Rat)*uu):a≤b:=by
 have h2:(a:Rat)≤(b:Rat):=by
   have hu:uu*4194304=1:=by unfold uu;decide +kernel
   have h3:=CapT.rmul_le h (show(0:Rat)≤4194304 by decide +kernel)
   have hx:∀x:Rat,x*uu*4194304=x*(uu*4194304):=fun x=>by grind
   rw [hx,hx,hu] at h3
   grind
 exact Rat.intCast_le_intCast.mp h2
def sT (k:Int)(t:CapT.Tri):CapT.Tri:=⟨tm k t.A,tm k t.B,tm k t.C,t.q,t.o⟩
theorem aTf (k:Int)(t:CapT.Tri)(M i j:Nat):CapT.tpt (sT k t) M i j=tm k (CapT.tpt t M i j):=by
 simp only [sT,CapT.tpt,CapT.pt,CapT.vs,tm,Prod.mk.injEq]
 refine⟨?_,?_,?_⟩<;>grind
theorem aYs {k:Int} {t:CapT.Tri} {G K:Nat} (hk:0≤k)(hK:k≤K)(h:CapT.tin G t):CapT.tin ((K*G:Nat):Int) (sT k t):=by
 have one:∀x:P3,CapT.inb (G:Int) x→CapT.inb ((K*G:Nat):Int) (tm k x):=by
   intro x hx
   obtain⟨a1,a2,a3,a4,a5,a6⟩:=hx
   have e:((K*G:Nat):Int)=(K:Int)*(G:Int):=Int.natCast_mul K G
   have up:∀y:Int,y≤G→k*y≤(K:Int)*G:=fun y hy=>by
     have h1:=Int.mul_le_mul_of_nonneg_left hy hk
     have h2:=Int.mul_le_mul_of_nonneg_right hK (show(0:Int)≤(G:Int) by omega)
     omega
   have lo:∀y:Int,-(G:Int)≤y→-((K:Int)*G)≤k*y:=fun y hy=>by
     have h1:=up (-y) (by omega)
     rw [Int.mul_neg] at h1;omega
   unfold CapT.inb tm
   rw [e]
   exact⟨lo _ a1,up _ a2,lo _ a3,up _ a4,lo _ a5,up _ a6⟩
 exact⟨one _ h.1,one _ h.2.1,one _ h.2.2⟩
theorem aEs {k a b c x y z g:Int} (hk:0≤k)(h:CapT.gapc a b c x y z g):CapT.gapc (k*a) (k*b) (k*c) (k*x) (k*y) (k*z) (k*g):=by
 have mem:∀(u v w p:Int),p∈[k*u,k*v,k*w]→∃p',p'∈[u,v,w]∧p=k*p':=by
   intro u v w p hp
   simp only [List.mem_cons,List.not_mem_nil,or_false] at hp
   rcases hp with rfl | rfl | rfl
   · exact⟨u,by simp,rfl⟩
   · exact⟨v,by simp,rfl⟩
   · exact⟨w,by simp,rfl⟩
 rcases h with h | h | h
 · exact .inl (by rw [h];exact Int.mul_zero k)
 · refine .inr (.inl fun p hp q hq=>?_)
   obtain⟨p',hp',rfl⟩:=mem a b c p hp
   obtain⟨q',hq',rfl⟩:=mem x y z q hq
   have:=Int.mul_le_mul_of_nonneg_left (h p' hp' q' hq') hk
   rw [Int.mul_add] at this;exact this
 · refine .inr (.inr fun p hp q hq=>?_)
   obtain⟨p',hp',rfl⟩:=mem a b c p hp
   obtain⟨q',hq',rfl⟩:=mem x y z q hq
   have:=Int.mul_le_mul_of_nonneg_left (h p' hp' q' hq') hk
   rw [Int.mul_add] at this;exact this
theorem aR9 {k:Int} {t s:CapT.Tri} {n:Int} (hk:0≤k)(h:CapT.nearT t s n):CapT.nearT (sT k t) (sT k s) (k*k*n):=by
 obtain⟨g,g1,g2,g3,hn,a,b,c⟩:=h
 refine⟨tm k g,Int.mul_nonneg hk g1,Int.mul_nonneg hk g2,Int.mul_nonneg hk g3,?_,aEs hk a,aEs hk b,aEs hk c⟩
 have:=Int.mul_le_mul_of_nonneg_left hn (show 0≤k*k from CapT.sq_int_nonneg k)
 have e:CapT.nsq (tm k g)=k*k*CapT.nsq g:=by simp only [CapT.nsq,tm];grind
 rw [e];exact this
theorem aIl {k:Int} (hk:1≤k)(h:Rat):(h*(1 / (k:Rat)))*(h*(1 / (k:Rat)))*((k*k:Int):Rat)=h*h:=by
 have:=CapT.odm (CapT.rcast_pos (a:=k) (by omega))
 rw [CapT.rcast_mul]
 have e:(h*(1 / (k:Rat)))*(h*(1 / (k:Rat)))*((k:Rat)*(k:Rat))=h*h*((1 / (k:Rat)*(k:Rat))*(1 / (k:Rat)*(k:Rat))):=by grind
 rw [e,this];grind
theorem aVp {k:Int} {t:CapT.Tri} {h:Rat} (hk:1≤k)(hr:CapT.rimT t h):CapT.rimT (sT k t) (h*(1 / (k:Rat))):=by
 obtain⟨r,r0,r1,r2,r3⟩:=hr
 have kk:1≤k*k:=by have:=Int.mul_le_mul (a:=1) (b:=1) (c:=k) (d:=k) hk hk (by omega) (by omega);omega
 have er:((toNat (k*k)*r:Nat):Int)=k*k*(r:Int):=by rw [Int.natCast_mul,Int.toNat_of_nonneg (by omega)]
 refine⟨toNat (k*k)*r,Nat.mul_pos (by omega) r0,?_,?_,?_⟩
 · rw [er]
   have e:CapT.nsq (CapT.cr (CapT.vs (sT k t).B (sT k t).A) (CapT.vs (sT k t).C (sT k t).A))=k*k*(k*k)*CapT.nsq (CapT.cr (CapT.vs t.B t.A) (CapT.vs t.C t.A)):=by
     simp only [sT,CapT.nsq,CapT.cr,CapT.vs,tm];grind
   rw [e]
   have:=Int.mul_le_mul_of_nonneg_left r1 (show 0≤k*k*(k*k) from CapT.sq_int_nonneg _)
   have e2:k*k*(r:Int)*(k*k*(r:Int))=k*k*(k*k)*((r:Int)*(r:Int)):=by grind
   rw [e2];exact this
 · have e:CapT.nsq (CapT.vs (sT k t).B (sT k t).A)=k*k*CapT.nsq (CapT.vs t.B t.A):=by
     simp only [sT,CapT.nsq,CapT.vs,tm];grind
   rw [e]
   exact Int.mul_pos (by omega) r2
 · rw [er,CapT.rcast_mul (k*k)]
   have:=aIl hk h
   have e:128*(((k*k:Int):Rat)*((r:Int):Rat))*(h*(1 / (k:Rat))*(h*(1 / (k:Rat))))=128*((r:Int):Rat)*((h*(1 / (k:Rat)))*(h*(1 / (k:Rat)))*((k*k:Int):Rat)):=by grind
   rw [e,this];exact r3
theorem aIm (k:Int)(X:List CapT.Tri):CapT.tot (X.map (sT k))=CapT.tot X:=by unfold CapT.tot;rw [CapT.ls_map];rfl
theorem aGl {w:Int} {q:PN} {t:CapT.Tri} (hA:fY w q t.A)(hB:fY w q t.B)(hC:fY w q t.C) {M i j:Nat} (h:i+j < M):fY ((M:Int)*w) q (CapT.tpt t M i j):=by
 obtain⟨a1,a2,a3,p1,p2,p3,pw,x1,x2,x3⟩:=hA
 obtain⟨b1,b2,b3,q1',q2',q3',qw,y1,y2,y3⟩:=hB
 obtain⟨c1,c2,c3,s1,s2,s3,sw,u1,u2,u3⟩:=hC
 rw [CapT.tpt_eq t h]
 have e:((M - i - j:Nat):Int)+(i:Int)+(j:Int)=(M:Int):=by omega
 have l0:(0:Int)≤((M - i - j:Nat):Int):=by omega
 generalize ((M - i - j:Nat):Int)=l at *
 have i0:(0:Int)≤(i:Int):=by omega
 have j0:(0:Int)≤(j:Int):=by omega
 generalize (i:Int)=i at *
 generalize (j:Int)=j at *
 refine⟨l*a1+i*b1+j*c1,l*a2+i*b2+j*c2,l*a3+i*b3+j*c3,?_,?_,?_,?_,?_,?_,?_⟩
 · have:=Int.mul_nonneg l0 p1;have:=Int.mul_nonneg i0 q1';have:=Int.mul_nonneg j0 s1;omega
 · have:=Int.mul_nonneg l0 p2;have:=Int.mul_nonneg i0 q2';have:=Int.mul_nonneg j0 s2;omega
 · have:=Int.mul_nonneg l0 p3;have:=Int.mul_nonneg i0 q3';have:=Int.mul_nonneg j0 s3;omega
 · rw [←e]
   have e1:l*w=l*a1+l*a2+l*a3:=by rw [←pw];grind
   have e2:i*w=i*b1+i*b2+i*b3:=by rw [←qw];grind
   have e3:j*w=j*c1+j*c2+j*c3:=by rw [←sw];grind
   rw [Int.add_mul,Int.add_mul,e1,e2,e3];omega
 · simp only;rw [x1,y1,u1];grind
 · simp only;rw [x2,y2,u2];grind
 · simp only;rw [x3,y3,u3];grind
theorem aKd (k:Int)(p q:P3):ds (tm k p) (tm k q)=k*k*ds p q:=by simp only [ds,dt,sb,tm];grind
theorem aPp (p q:P3):ds p q=ds q p:=by simp only [ds,dt,sb];grind
theorem aPq (a b:Int)(p:P3):tm a (tm b p)=tm (a*b) p:=by simp only [tm,Prod.mk.injEq];refine⟨?_,?_,?_⟩<;>grind
theorem aVq {d' k':Int} (hd':0≤d'∧d'≤2)(hk:1≤k') {L':List (PN×Int)} (hL':∀e∈L',vp e.1=0∧0≤e.2) {p:PN} {P:P3} {M:Nat} (hM:0 < M)(hP:fY ((M:Int)*4) (dE k' p) P) :
   ∀s,s∈vV d' L'→0≤((mA d' (dE (sc d') p) s.o.1:Int):Rat)*uu*(1 / (k':Rat))∧∃f:Int,1≤f∧((mA d' (dE (sc d') p) s.o.1:Int):Rat)*uu*(1 / (k':Rat))*(((mA d' (dE (sc d') p) s.o.1:Int):Rat)*uu*(1 / (k':Rat)))*(f:Rat)≤1∧∀i' j':Nat,i'+j' < M→CapT.nsq (CapT.vs P (CapT.tpt (sT k' s) M i' j'))≤(M:Int)*(M*f):=by
 intro s hs
 obtain⟨e',he',c,hc,rfl⟩:=fS hs
 have hp':=(hL' e' he').1
 have hg:=aA3 hd'
 have hb1:=aPa hd'
 have hfp:=aD4 (q:=dE (sc d') p) hp' (d:=d') (by omega) hc
 have hN:0≤NN (sc d')∧NN (sc d')≤288230376151711744:=aAb (qR d')
 obtain⟨k,k1,k2,k3,k4,k5,k6,k7,k8⟩:=jN hN hfp
 have kk:1≤k'*k':=by have:=Int.mul_le_mul (a:=1) (b:=1) (c:=k') (d:=k') hk hk (by omega) (by omega);omega
 have ik:=CapT.inv_nn (Rat.le_of_lt (CapT.rcast_pos (a:=k') (by omega)))
 have hbl:mA d' (dE (sc d') p) c=k:=by
   unfold mA uZ
   rw [if_neg (by omega)]
   unfold inv
   exact k1
 have f0:1≤lN c (dE (sc d') p)*(cQ d'*cQ d'):=by
   have:=Int.mul_le_mul (a:=1) (b:=1) (c:=lN c (dE (sc d') p)) (d:=cQ d'*cQ d') hfp (by have:=Int.mul_le_mul (a:=1) (b:=1) (c:=cQ d') (d:=cQ d') hg.2.1 hg.2.1 (by omega) (by omega);omega) (by omega) (by omega)
   omega
 have one:∀x:P3,(tm (sc d') x=(dE (sc d') p).1∨tm (sc d') x=(dE (sc d') p).2.1∨tm (sc d') x=(dE (sc d') p).2.2)→∀a,(a=c.1∨a=c.2.1∨a=c.2.2)→ds (tm 4 x) (tm (cQ d') a)≤lN c (dE (sc d') p)*(cQ d'*cQ d'):=by
   intro x hx a ha
   have h1:=aEo c (dE (sc d') p) ha hx
   have h2:=Int.mul_le_mul_of_nonneg_right h1 (show 0≤cQ d'*cQ d' from CapT.sq_int_nonneg _)
   have e1:ds (tm 4 x) (tm (cQ d') a)=ds a (tm (sc d') x)*(cQ d'*cQ d'):=by
     rw [←hg.1]
     simp only [ds,dt,sb,tm]
     grind
   rw [e1];exact h2
 refine⟨?_,k'*k'*(lN c (dE (sc d') p)*(cQ d'*cQ d')),?_,?_,?_⟩
 · show 0≤((mA d' (dE (sc d') p) c:Int):Rat)*uu*(1 / (k':Rat))
   rw [hbl]
   exact Rat.mul_nonneg (Rat.mul_nonneg (CapT.rcast_le (a:=0) k3) (Rat.le_of_lt nE)) ik
 · have:=Int.mul_le_mul (a:=1) (b:=1) kk f0 (by omega) (by omega)
   omega
 · show((mA d' (dE (sc d') p) c:Int):Rat)*uu*(1 / (k':Rat))*(((mA d' (dE (sc d') p) c:Int):Rat)*uu*(1 / (k':Rat)))*_≤1
   rw [hbl,CapT.rcast_mul (k'*k')]
   have h1:=aIl hk (((k:Int):Rat)*uu)
   have h2:((k:Int):Rat)*uu*(((k:Int):Rat)*uu)*((lN c (dE (sc d') p)*(cQ d'*cQ d'):Int):Rat)≤1:=by
     refine aO9 ?_
     have:=Int.mul_le_mul_of_nonneg_right k8 (show 0≤cQ d'*cQ d' from CapT.sq_int_nonneg _)
     rw [hb1] at this
     grind
   rw [←Rat.mul_assoc,h1];exact h2
 · intro i' j' hij
   generalize lN c (dE (sc d') p)*(cQ d'*cQ d')=F at *
   rw [aTf]
   generalize hR:CapT.tpt (nD d' (eJ e'.1 d') ((e'.2:Int):Rat) c) M i' j'=R
   -- R lies in the fY of the part's corners
   have hRh:fY ((M:Int)*1) (tm (cQ d') c.1,tm (cQ d') c.2.1,tm (cQ d') c.2.2) R:=by
     rw [←hR]
     refine aGl ?_ ?_ ?_ hij
     · exact⟨1,0,0,by decide,by decide,by decide,by decide,by simp only [nD];omega,by simp only [nD];omega,by simp only [nD];omega⟩
     · exact⟨0,1,0,by decide,by decide,by decide,by decide,by simp only [nD];omega,by simp only [nD];omega,by simp only [nD];omega⟩
     · exact⟨0,0,1,by decide,by decide,by decide,by decide,by simp only [nD];omega,by simp only [nD];omega,by simp only [nD];omega⟩
   have two:∀x:P3,(tm (sc d') x=(dE (sc d') p).1∨tm (sc d') x=(dE (sc d') p).2.1∨tm (sc d') x=(dE (sc d') p).2.2)→ds (tm ((M:Int)*4) (tm k' x)) (tm k' R)≤(M:Int)*(M*(k'*k'*F)):=by
     intro x hx
     have e1:tm ((M:Int)*4) (tm k' x)=tm k' (tm M (tm 4 x)):=by rw [aPq,aPq,aPq];congr 1;grind
     rw [e1,aKd,aPp]
     have cor:∀a,(a=c.1∨a=c.2.1∨a=c.2.2)→ds (tm ((M:Int)*1) (tm (cQ d') a)) (tm M (tm 4 x))≤(M:Int)*M*F:=by
       intro a ha
       rw [Int.mul_one,aKd,aPp]
       exact Int.mul_le_mul_of_nonneg_left (one x hx a ha) (CapT.sq_int_nonneg _)
     have:=tY (w:=(M:Int)*1) (Z:=tm M (tm 4 x)) (by omega) hRh (cor _ (.inl rfl)) (cor _ (.inr (.inl rfl))) (cor _ (.inr (.inr rfl)))
     have h3:=Int.mul_le_mul_of_nonneg_left this (show 0≤k'*k' by omega)
     have e2:(M:Int)*(M*(k'*k'*F))=k'*k'*((M:Int)*M*F):=by grind
     rw [e2];exact h3
   exact tY (w:=(M:Int)*4) (Z:=tm k' R) (by omega) hP (two p.1 (.inl rfl)) (two p.2.1 (.inr (.inl rfl))) (two p.2.2 (.inr (.inr rfl)))
theorem aKe {w g:Int} {q:PN} {X:P3} (h:fY w q X):fY w (dE g q) (tm g X):=by
 obtain⟨i,j,k,hi,hj,hk,hw,h1,h2,h3⟩:=h
 refine⟨i,j,k,hi,hj,hk,hw,?_,?_,?_⟩
 · simp only [tm,dE];rw [h1];grind
 · simp only [tm,dE];rw [h2];grind
 · simp only [tm,dE];rw [h3];grind
theorem aPr {d k:Int} (hd:0≤d∧d≤2)(hk:1≤k) {L:List (PN×Int)} (hL:∀e∈L,vp e.1=0∧0≤e.2):∀t,t∈(vV d L).map (sT k)→∀t',t'∈(vV d L).map (sT k)→0 < hcap d t t'*(1 / (k:Rat))∧((∃f:Int,1≤f∧1≤hcap d t t'*(1 / (k:Rat))*(hcap d t t'*(1 / (k:Rat)))*(f:Rat)∧CapT.nearT t' t f)∨CapT.rimT t (hcap d t t'*(1 / (k:Rat)))):=by
 intro t ht t' ht'
 obtain⟨s,hs,rfl⟩:=List.mem_map.1 ht
 obtain⟨s',hs',rfl⟩:=List.mem_map.1 ht'
 have e:hcap d (sT k s) (sT k s')=hcap d s s':=rfl
 rw [e]
 have kp:=CapT.rcast_pos (a:=k) (by omega)
 have kk:1≤k*k:=by have:=Int.mul_le_mul (a:=1) (b:=1) (c:=k) (d:=k) hk hk (by omega) (by omega);omega
 obtain⟨h0,h1⟩:=aA4 hd hL s hs s' hs'
 refine⟨Rat.mul_pos h0 ?_,?_⟩
 · have h2:=CapT.odm kp
   have h3:=CapT.inv_nn (Rat.le_of_lt kp)
   refine Rat.not_le.1 (fun h4=>?_)
   have:1 / (k:Rat)=0:=Rat.le_antisymm h4 h3
   rw [this] at h2;grind
 · rcases h1 with⟨f,f1,f2,f3⟩ | h1
   · refine .inl ⟨k*k*f,?_,?_,aR9 (by omega) f3⟩
     · have:=Int.mul_le_mul (a:=1) (b:=1) kk f1 (by omega) (by omega)
       omega
     · rw [CapT.rcast_mul (k*k),←Rat.mul_assoc,aIl hk];exact f2
   · exact .inr (aVp hk h1)
theorem aTg (d:Int)(k:Rat)(n:Int)(L:List (PN×Int)):CapT.ls ((vV d L).map (sT n)) (fun t'=>t'.q*CapT.ls ((vV d L).map (sT n)) (fun t=>t.q*(hcap d t t'*k)))=((vW d L:Int):Rat)*uu*k:=by
 rw [CapT.ls_map,←aVi,Rat.mul_comm _ k,←CapT.ls_mul]
 refine CapT.ls_congr (fun t' _=>?_)
 rw [CapT.ls_map]
 have:CapT.ls (vV d L) (fun a=>(sT n a).q*(hcap d (sT n a) (sT n t')*k))=k*CapT.ls (vV d L) (fun t=>t.q*hcap d t t'):=by
   rw [←CapT.ls_mul]
   refine CapT.ls_congr (fun t _=>?_)
   show t.q*(hcap d t t'*k)=k*(t.q*hcap d t t')
   grind
 rw [this]
 show t'.q*(k*_)=k*(t'.q*_)
 grind
theorem aPs {d k:Int} (hd:0≤d∧d≤2)(hk:1≤k∧k≤128) {L:List (PN×Int)} (hL:∀e∈L,vp e.1=0∧0≤e.2):∀t,t∈(vV d L).map (sT k)→0≤t.q∧CapT.tin ((128*2048:Nat):Int) t:=by
 intro t ht
 obtain⟨s,hs,rfl⟩:=List.mem_map.1 ht
 obtain⟨e,he,c,hc,rfl⟩:=fS hs
 exact⟨CapT.rcast_le (a:=0) (hL e he).2,aYs (by omega) (by omega) (aEq hd (hL e he).1 hc)⟩
theorem aYt {d d' k k':Int} (hd:0≤d∧d≤2)(hd':0≤d'∧d'≤2)(hk:1≤k∧k≤128)(hk':1≤k'∧k'≤128) {L L':List (PN×Int)} (hL:∀e∈L,vp e.1=0∧0≤e.2)(hL':∀e∈L',vp e.1=0∧0≤e.2) {V0 E0:Int}
   (hV:∀e∈L,∀(w:Int) (P:P3),1≤w→fY w e.1 P→∃p,fY w (dE k' p) (tm k P)∧V0≤PLs d' L' p) (hE:vW d L≤E0) :
   k*((sc d*sc d*gN L)*(sc d*sc d*gN L)*V0)≤k'*((sc d'*sc d'*gN L')*E0):=by
 have kp:=CapT.rcast_pos (a:=k) (by omega)
 have kp':=CapT.rcast_pos (a:=k') (by omega)
 have ik:=CapT.inv_nn (Rat.le_of_lt kp)
 have ik':=CapT.inv_nn (Rat.le_of_lt kp')
 have ok:=CapT.odm kp
 have ok':=CapT.odm kp'
 have key:=CapT.cap (X:=(vV d L).map (sT k)) (Y:=(vV d' L').map (sT k')) (G:=128*2048) (h:=fun t t'=>hcap d t t'*(1 / (k:Rat))) (V:=((V0:Int):Rat)*uu*(1 / (k':Rat))) (E:=((E0:Int):Rat)*uu*(1 / (k:Rat)))
   (aPs hd hk hL) (aPs hd' hk' hL')
   (fun t ht M i j hij=>by
     obtain⟨s,hs,rfl⟩:=List.mem_map.1 ht
     obtain⟨e,he,c,hc,rfl⟩:=fS hs
     have hh:=tZ (R:=eJ e.1 d) (w:=((e.2:Int):Rat)) hd (hL e he).1 hc
     have hm:=aGl (hh _ List.mem_cons_self) (hh _ (List.mem_cons_of_mem _ List.mem_cons_self)) (hh _ (List.mem_cons_of_mem _ (List.mem_cons_of_mem _ List.mem_cons_self))) hij
     obtain⟨p,hp,hv⟩:=hV e he _ _ (by omega) hm
     refine⟨fun s=>((mA d' (dE (sc d') p) s.o.1:Int):Rat)*uu*(1 / (k':Rat)),fun s hs=>?_,?_⟩
     · obtain⟨s0,hs0,rfl⟩:=List.mem_map.1 hs
       rw [aTf]
       exact aVq hd' hk'.1 hL' (M:=M) (by omega) hp s0 hs0
     · rw [CapT.ls_map]
       have e1:CapT.ls (vV d' L') (fun a=>(sT k' a).q*(((mA d' (dE (sc d') p) (sT k' a).o.1:Int):Rat)*uu*(1 / (k':Rat))))=(1 / (k':Rat))*(((PLs d' L' p:Int):Rat)*uu):=by
         rw [←aYm,←CapT.ls_mul]
         refine CapT.ls_congr (fun a _=>?_)
         show a.q*(((mA d' (dE (sc d') p) a.o.1:Int):Rat)*uu*(1 / (k':Rat)))=_
         grind
       rw [e1,Rat.mul_comm (1 / (k':Rat))]
       exact CapT.rmul_le (CapT.rmul_le (CapT.rcast_le hv) (Rat.le_of_lt nE)) ik')
   (aPr hd hk.1 hL) (by
     rw [aTg]
     exact CapT.rmul_le (CapT.rmul_le (CapT.rcast_le hE) (Rat.le_of_lt nE)) ik)
 rw [aIm,aIm,pS hd,pS hd'] at key
 generalize sc d*sc d*gN L=a at *
 generalize sc d'*sc d'*gN L'=b at *
 have h0:=CapT.rmul_le (CapT.rmul_le key (Rat.le_of_lt kp)) (Rat.le_of_lt kp')
 have h1:((k*(a*a*V0):Int):Rat)*uu≤((k'*(b*E0):Int):Rat)*uu:=by
   rw [CapT.rcast_mul,CapT.rcast_mul (a*a),CapT.rcast_mul a,CapT.rcast_mul k',CapT.rcast_mul b]
   have e1:(a:Rat)*(a:Rat)*((V0:Rat)*uu*(1 / (k':Rat)))*(k:Rat)*(k':Rat)=(k:Rat)*((a:Rat)*(a:Rat)*(V0:Rat))*uu*(1 / (k':Rat)*(k':Rat)):=by grind
   have e2:(b:Rat)*((E0:Rat)*uu*(1 / (k:Rat)))*(k:Rat)*(k':Rat)=(k':Rat)*((b:Rat)*(E0:Rat))*uu*(1 / (k:Rat)*(k:Rat)):=by grind
   rw [e1,e2,ok,ok'] at h0
   grind
 exact aCr h1
theorem aTh {L L':List (PN×Int)} {d Q mx E mn d' Q' mx' E' mn' k k':Int} (S:Sys L d Q mx E mn)(S':Sys L' d' Q' mx' E' mn')(hk:1≤k∧k≤128)(hk':1≤k'∧k'≤128)
   (hV:∀e∈L,∀(w:Int) (P:P3),1≤w→fY w e.1 P→∃p,fY w (dE k' p) (tm k P)∧mn'≤(L'.map fun e'=>e'.2*(dK e'.1 (dE (sc d') p) d').1).sum) :
   k*(Q*Q*mn')≤k'*(Q'*E)∧k*(Q*mn')≤k'*(Q'*mx):=by
 have hV0:∀e∈L,∀(w:Int) (P:P3),1≤w→fY w e.1 P→∃p,fY w (dE k' p) (tm k P)∧sc d'*sc d'*mn'≤PLs d' L' p:=fun e he w P hw hP=>by
   obtain⟨p,h1,h2⟩:=hV e he w P hw hP
   exact⟨p,h1,Int.le_trans (Int.mul_le_mul_of_nonneg_left h2 (by have:=dT d';omega)) (aTd S'.hL p)⟩
 have a:=aYt S.hd S'.hd hk hk' S.hL S'.hL hV0 (xX S)
 have b:=aYt S.hd S'.hd hk hk' S.hL S'.hL hV0 (xW S)
 rw [S.hQ,S'.hQ] at a b
 have n1:=dT d;have n2:=dT d'
 generalize sc d*sc d=n at *
 generalize sc d'*sc d'=n' at *
 have nn:1≤n*n:=by have:=Int.mul_le_mul (a:=1) (b:=1) (c:=n) (d:=n) n1 n1 (by omega) (by omega);omega
 have nnn:1≤n*n*n':=by have:=Int.mul_le_mul (a:=1) (b:=1) (c:=n*n) (d:=n') nn n2 (by omega) (by omega);omega
 refine⟨bO nnn ?_,bO S.Q1 (bO nnn ?_)⟩
 · have e1:n*n*n'*(k*(Q*Q*mn'))=k*(n*Q*(n*Q)*(n'*mn')):=by grind
   have e2:n*n*n'*(k'*(Q'*E))=k'*(n'*Q'*(n*n*E)):=by grind
   rw [e1,e2];exact a
 · have e1:n*n*n'*(Q*(k*(Q*mn')))=k*(n*Q*(n*Q)*(n'*mn')):=by grind
   have e2:n*n*n'*(Q*(k'*(Q'*mx)))=k'*(n'*Q'*(n*n*(Q*mx))):=by grind
   rw [e1,e2];exact b
theorem aTi {d k:Int} (hd:0≤d∧d≤2)(hk:1≤k∧k≤128) {L:List (PN×Int)} (hL:∀e∈L,vp e.1=0∧0≤e.2) {c:P3} {m B E0:Int} (hc:bd 16384 c)(hm:∀e∈L,ds (tm k e.1.1) c≤m∧ds (tm k e.1.2.1) c≤m∧ds (tm k e.1.2.2) c≤m)(hm1:1≤m)(hB:m*1099511627776≤B*B)(hB0:1≤B)(hE:vW d L≤E0) :
   k*((sc d*sc d*gN L)*(sc d*sc d*gN L)*1099511627776)≤B*E0:=by
 have hBr:=CapT.rcast_pos (a:=B) (by omega)
 have iB:=CapT.odm hBr
 have iB0:=CapT.inv_nn (Rat.le_of_lt hBr)
 have kp:=CapT.rcast_pos (a:=k) (by omega)
 have ik:=CapT.inv_nn (Rat.le_of_lt kp)
 have ok:=CapT.odm kp
 have key:=CapT.cap (X:=(vV d L).map (sT k)) (Y:=[⟨tm 4 c,tm 4 c,tm 4 c,1,((c,c,c),0)⟩]) (G:=128*2048) (h:=fun t t'=>hcap d t t'*(1 / (k:Rat))) (V:=262144*(1 / ((B:Int):Rat))) (E:=((E0:Int):Rat)*uu*(1 / (k:Rat)))
   (aPs hd hk hL)
   (fun t ht=>by
     obtain rfl:=List.mem_singleton.1 ht
     have:CapT.inb ((128*2048:Nat):Int) (tm 4 c):=by
       unfold CapT.inb tm bd at *
       simp only
       omega
     exact⟨show(0:Rat)≤1 by decide +kernel,this,this,this⟩)
   (fun t ht M i j hij=>by
     obtain⟨s0,hs0,rfl⟩:=List.mem_map.1 ht
     obtain⟨e,he,b,hb,rfl⟩:=fS hs0
     have hp:=(hL e he).1
     refine CapT.potAt_of (fun _=>262144*(1 / ((B:Int):Rat))) (fun s hs=>?_) ?_ hij
     · obtain rfl:=List.mem_singleton.1 hs
       refine⟨Rat.mul_nonneg (by decide +kernel) iB0,16*m,by omega,?_,?_⟩
       · have h1:=CapT.rcast_le hB
         rw [CapT.rcast_mul,CapT.rcast_mul] at h1
         have h2:=CapT.rmul_le' h1 (CapT.sq_nonneg (1 / ((B:Int):Rat)))
         have e1:(1 / ((B:Int):Rat))*(1 / ((B:Int):Rat))*(((B:Int):Rat)*((B:Int):Rat))=(1 / ((B:Int):Rat)*((B:Int):Rat))*(1 / ((B:Int):Rat)*((B:Int):Rat)):=by grind
         rw [e1,iB] at h2
         have c1:((1099511627776:Int):Rat)=1099511627776:=rfl
         rw [c1] at h2
         rw [CapT.rcast_mul,show((16:Int):Rat)=16 from rfl]
         grind
       · intro P hP Q hQ
         have hP':∃P0,fY 4 e.1 P0∧P=tm k P0:=by
           have hh:=tZ (R:=eJ e.1 d) (w:=((e.2:Int):Rat)) hd hp hb
           simp only [List.mem_cons,List.not_mem_nil,or_false] at hP
           rcases hP with rfl | rfl | rfl
           · exact⟨_,hh _ List.mem_cons_self,rfl⟩
           · exact⟨_,hh _ (List.mem_cons_of_mem _ List.mem_cons_self),rfl⟩
           · exact⟨_,hh _ (List.mem_cons_of_mem _ (List.mem_cons_of_mem _ List.mem_cons_self)),rfl⟩
         obtain⟨P0,hh,rfl⟩:=hP'
         have hQ':Q=tm 4 c:=by
           simp only [List.mem_cons,List.not_mem_nil,or_false,or_self] at hQ
           exact hQ
         subst hQ'
         have e4:∀x:P3,ds (tm 4 x) (tm 4 c)=16*ds x c:=by
           intro x;simp only [ds,dt,sb,tm];grind
         have h3:=hm e he
         exact tY (w:=4) (Z:=tm 4 c) (by decide) (aKe hh) (by rw [e4];exact Int.mul_le_mul_of_nonneg_left h3.1 (by decide)) (by rw [e4];exact Int.mul_le_mul_of_nonneg_left h3.2.1 (by decide)) (by rw [e4];exact Int.mul_le_mul_of_nonneg_left h3.2.2 (by decide))
     · simp only [CapT.ls];grind)
   (aPr hd hk.1 hL) (by
     rw [aTg]
     exact CapT.rmul_le (CapT.rmul_le (CapT.rcast_le hE) (Rat.le_of_lt nE)) ik)
 rw [aIm,pS hd] at key
 have t1:CapT.tot [⟨tm 4 c,tm 4 c,tm 4 c,1,((c,c,c),0)⟩]=1:=by simp only [CapT.tot,CapT.ls];grind
 rw [t1] at key
 generalize sc d*sc d*gN L=a at *
 have h0:=CapT.rmul_le (CapT.rmul_le key (Rat.le_of_lt hBr)) (Rat.le_of_lt kp)
 have hu:uu*4194304=1:=by unfold uu;decide +kernel
 have h1:((k*(a*a*1099511627776):Int):Rat)*uu≤((B*E0:Int):Rat)*uu:=by
   rw [CapT.rcast_mul,CapT.rcast_mul (a*a),CapT.rcast_mul a,CapT.rcast_mul B,show((1099511627776:Int):Rat)=1099511627776 from rfl]
   have e1:(a:Rat)*(a:Rat)*(262144*(1 / (B:Rat)))*(B:Rat)*(k:Rat)=(a:Rat)*(a:Rat)*(k:Rat)*262144*(1 / (B:Rat)*(B:Rat)):=by grind
   have e2:1*((E0:Rat)*uu*(1 / (k:Rat)))*(B:Rat)*(k:Rat)=(E0:Rat)*(B:Rat)*uu*(1 / (k:Rat)*(k:Rat)):=by grind
   rw [e1,e2,iB,ok] at h0
   have e3:(k:Rat)*((a:Rat)*(a:Rat)*1099511627776)*uu=(a:Rat)*(a:Rat)*(k:Rat)*262144*(uu*4194304):=by grind
   rw [e3,hu]
   grind
 exact aCr h1
theorem aCs {L:List (PN×Int)} {d Q mx E mn k:Int} (S:Sys L d Q mx E mn)(hk:1≤k∧k≤128) {c:P3} {m B:Int} (hc:bd 16384 c)(hm:∀e∈L,ds (tm k e.1.1) c≤m∧ds (tm k e.1.2.1) c≤m∧ds (tm k e.1.2.2) c≤m)(hm1:1≤m)(hB:m*1099511627776≤B*B)(hB0:1≤B):k*(Q*Q*1099511627776)≤B*E∧k*(Q*1099511627776)≤B*mx:=by
 have a:=aTi S.hd hk S.hL hc hm hm1 hB hB0 (xX S)
 have b:=aTi S.hd hk S.hL hc hm hm1 hB hB0 (xW S)
 rw [S.hQ] at a b
 have n1:=dT d
 generalize sc d*sc d=n at *
 have nn:1≤n*n:=by have:=Int.mul_le_mul (a:=1) (b:=1) (c:=n) (d:=n) n1 n1 (by omega) (by omega);omega
 refine⟨bO nn ?_,bO S.Q1 (bO nn ?_)⟩
 · have e1:n*n*(k*(Q*Q*1099511627776))=k*(n*Q*(n*Q)*1099511627776):=by grind
   have e2:n*n*(B*E)=B*(n*n*E):=by grind
   rw [e1,e2];exact a
 · have e1:n*n*(Q*(k*(Q*1099511627776)))=k*(n*Q*(n*Q)*1099511627776):=by grind
   have e2:n*n*(Q*(B*mx))=B*(n*n*(Q*mx)):=by grind
   rw [e1,e2];exact b
end Go.Proofs.Ytaeagjnpobdglaa
