import Derived.Test.YtkcjphhjmlienaaGreatDoorXQp2
import Derived.Test.YtkcjphhjmlienaaGreatDoorAi2
import Derived.Test.YtkcjphhjmlienaaGreatDoorXQp1
import Derived.Shelf.Strings.Cut
import Derived.WalkSmall
import Derived.Shelf.Strings.OnBuilder
import Derived.Shelf.LaysM
import Derived.Shelf.Strconv.Itoa3
import Derived.Shelf.Strings.Repeat
import Derived.Test.YtkcjphhjmlienaaGreatDoorProg
import Derived.Laws.Externs
import Derived.Lib.AppendIntMem
/- Functions of the program as plain functions, and what they come to; part 3. -/
namespace Go.Proofs.YtkcjphhjmlienaaGreatDoor
set_option linter.unusedVariables false
set_option linter.unusedSimpArgs false
set_option linter.defProp false
open Go Ai Go.Proofs
namespace Qp
def cAd (b:Bool):(bif b then b else !b)=true:=by cases b <;> rfl
def tBr {N:Nat} {H h:Heap} {V W:Nat->Prop} {s1 s2:SL} {xs:List Bs} (c:Chg [] H h) (f:Sl H V s1 (xs.map D.s)) (p:Sl H W s2 (xs.map D.s)) (r:xs.length<=2000000) (j:xs.length<N):∃ h',f106 N s1 s2 h=some (true,h')/\Chg [] h h':=
 ⟨h,kB0 (f.chg c) (p.chg c) r j,Chg.refl _ _⟩
section
variable {N:Nat} {h:Heap} {V W:Nat->Prop}
def iB6 {k n:Int} {p f:LfV} (O:∀ H,Chg [] h H->∃ y,f164 N (p.1,p.2.1,()) (f.1,f.2.1,()) H=some (true,y)/\Chg [] H y):∃ h',f166 N (k,n,p.1,p.2.1,()) (k,n,f.1,f.2.1,()) h=some (true,h')/\Chg [] h h':=by
 unfold f166;dsimp only;have o1:=wA h [(yI0 k),(yI0 n),(.str p.1),(yL p.2.1)];have c1:=uA h (.row [(yI0 k),(yI0 n),(.str p.1),(yL p.2.1)] .own);generalize h.push (.row [(yI0 k),(yI0 n),(.str p.1),(yL p.2.1)] .own)=w at *;have o2:=wA w [(yI0 k),(yI0 n),(.str f.1),(yL f.2.1)];have B:=uA w (.row [(yI0 k),(yI0 n),(.str f.1),(yL f.2.1)] .own);have o1:=o1.chg B;generalize w.push (.row [(yI0 k),(yI0 n),(.str f.1),(yL f.2.1)] .own)=r at *;have M:=c1.trans B
 clear c1 B
 have A:r.cell (h.next,0)=some (yI0 k):=o1.cell 0;have K:r.cell (w.next,0)=some (yI0 k):=o2.cell 0;have F:r.cell (h.next,1)=some (yI0 n):=o1.cell 1;have L:r.cell (w.next,1)=some (yI0 n):=o2.cell 1;have J:r.cells (h.next,2) 2=some (.agg (lfc p)):=o1.cells (j:=2) (m:=2) (show 4<=4 by decide);have I:r.cells (w.next,2) 2=some (.agg (lfc f)):=o2.cells (j:=2) (m:=2) (show 4<=4 by decide);simp only [xC,A,K,qB,uH,xA,F,L,dA];rw [J,eA1,I,eA1];obtain ⟨Q,C,u⟩:∃ y,f164 N (p.1,p.2.1,()) (f.1,f.2.1,()) r=some (true,y)/\Chg [] r y:=O r M;rw [C,aA];have o1:=o1.chg u;have o2:=o2.chg u;have c1:=M.trans u;exact ⟨_,rfl,c1⟩
def jB6 {k o:Int} {w p r u:OpV} {A y:LfV} {nm:Bs} {F I K J:SL} (ha:∀ H,Chg [] h H->∃ f,f166 N w p H=some (true,f)/\Chg [] H f) (hb:∀ H,Chg [] h H->∃ f,f166 N r u H=some (true,f)/\Chg [] H f) (hp:∀ H,Chg [] h H->∃ f,f164 N (A.1,A.2.1,()) (y.1,y.2.1,()) H=some (true,f)/\Chg [] H f)
  (hn:∀ H,Chg [] h H->∃ f,f106 N F I H=some (true,f)/\Chg [] H f) (hg:∀ H,Chg [] h H->∃ f,pO N K J () H=some (true,f)/\Chg [] H f):∃ h',f165 N (k,w.1,w.2.1,w.2.2.1,w.2.2.2.1,r.1,r.2.1,r.2.2.1,r.2.2.2.1,o,A.1,A.2.1,nm,F,K,()) (k,p.1,p.2.1,p.2.2.1,p.2.2.2.1,u.1,u.2.1,u.2.2.1,u.2.2.2.1,o,y.1,y.2.1,nm,I,J,()) h=some (true,h')/\Chg [] h h':=by
 unfold f165;dsimp only;have o1:=wA h [(yI0 k),(yI0 w.1),(yI0 w.2.1),(.str w.2.2.1),(yL w.2.2.2.1),(yI0 r.1),(yI0 r.2.1),(.str r.2.2.1),(yL r.2.2.2.1),(yI0 o),(.str A.1),(yL A.2.1),(.str nm),(yL F),(yL K)];have c1:=uA h (.row [(yI0 k),(yI0 w.1),(yI0 w.2.1),(.str w.2.2.1),(yL w.2.2.2.1),(yI0 r.1),(yI0 r.2.1),(.str r.2.2.1),(yL r.2.2.2.1),(yI0 o),(.str A.1),(yL A.2.1),(.str nm),(yL F),(yL K)] .own);generalize h.push (.row [(yI0 k),(yI0 w.1),(yI0 w.2.1),(.str w.2.2.1),(yL w.2.2.2.1),(yI0 r.1),(yI0 r.2.1),(.str r.2.2.1),(yL r.2.2.2.1),(yI0 o),(.str A.1),(yL A.2.1),(.str nm),(yL F),(yL K)] .own)=B at *;have o2:=wA B [(yI0 k),(yI0 p.1),(yI0 p.2.1),(.str p.2.2.1),(yL p.2.2.2.1),(yI0 u.1),(yI0 u.2.1),(.str u.2.2.1),(yL u.2.2.2.1),(yI0 o),(.str y.1),(yL y.2.1),(.str nm),(yL I),(yL J)];have X:=uA B (.row [(yI0 k),(yI0 p.1),(yI0 p.2.1),(.str p.2.2.1),(yL p.2.2.2.1),(yI0 u.1),(yI0 u.2.1),(.str u.2.2.1),(yL u.2.2.2.1),(yI0 o),(.str y.1),(yL y.2.1),(.str nm),(yL I),(yL J)] .own);have o1:=o1.chg X;generalize B.push (.row [(yI0 k),(yI0 p.1),(yI0 p.2.1),(.str p.2.2.1),(yL p.2.2.2.1),(yI0 u.1),(yI0 u.2.1),(.str u.2.2.1),(yL u.2.2.2.1),(yI0 o),(.str y.1),(yL y.2.1),(.str nm),(yL I),(yL J)] .own)=L at *;have c0:=c1.trans X
 clear c1 X
 have a9:L.cell (h.next,0)=some (yI0 k):=o1.cell 0;have b7:L.cell (B.next,0)=some (yI0 k):=o2.cell 0;have b5:L.cells (h.next,1) 4=some (.agg (opc w)):=o1.cells (j:=1) (m:=4) (show 5<=15 by decide);have c6:L.cells (B.next,1) 4=some (.agg (opc p)):=o2.cells (j:=1) (m:=4) (show 5<=15 by decide);simp only [xC,a9,b7,qB,uH,xA,dA];rw [b5,kY,c6,kY];obtain ⟨H1,b3,R⟩:∃ f,f166 N w p L=some (true,f)/\Chg [] L f:=ha L c0;rw [b3,aA];have o1:=o1.chg R;have o2:=o2.chg R;have c1:=c0.trans R;have c8:H1.cells (h.next,5) 4=some (.agg (opc r)):=o1.cells (j:=5) (m:=4) (show 9<=15 by decide);have b9:H1.cells (B.next,5) 4=some (.agg (opc u)):=o2.cells (j:=5) (m:=4) (show 9<=15 by decide);simp only [xA];rw [c8,kY,b9,kY];obtain ⟨H2,b8,O⟩:∃ f,f166 N r u H1=some (true,f)/\Chg [] H1 f:=hb H1 c1;rw [b8,aA];have o1:=o1.chg O;have o2:=o2.chg O;have X:=c1.trans O;have b0:H2.cell (h.next,9)=some (yI0 o):=o1.cell 9;have a8:H2.cell (B.next,9)=some (yI0 o):=o2.cell 9;have a3:H2.cells (h.next,10) 2=some (.agg (lfc A)):=o1.cells (j:=10) (m:=2) (show 12<=15 by decide);have a5:H2.cells (B.next,10) 2=some (.agg (lfc y)):=o2.cells (j:=10) (m:=2) (show 12<=15 by decide);simp only [b0,a8,qB,uH,xA,dA];rw [a3,eA1,a5,eA1];obtain ⟨C,c7,M⟩:∃ f,f164 N (A.1,A.2.1,()) (y.1,y.2.1,()) H2=some (true,f)/\Chg [] H2 f:=hp H2 X;rw [c7,aA];have o1:=o1.chg M;have o2:=o2.chg M;have c3:=X.trans M;have Y:C.cell (h.next,12)=some (.str nm):=o1.cell 12;have a4:C.cell (B.next,12)=some (.str nm):=o2.cell 12;have Z:C.cell (h.next,13)=some (yL F):=o1.cell 13;have a6:C.cell (B.next,13)=some (yL I):=o2.cell 13;simp only [Y,a4,yA,eqB.2,xA,Z,a6,qA,dA];obtain ⟨U,b4,Q⟩:∃ f,f106 N F I  C=some (true,f)/\Chg [] C f:=hn C c3;show ∃ h',(jA (f106 N F I  C) _)=_/\_;rw [b4,aA];have o1:=o1.chg Q;have o2:=o2.chg Q;have c4:=c3.trans Q;have a0:U.cell (h.next,14)=some (yL K):=o1.cell 14;have a7:U.cell (B.next,14)=some (yL J):=o2.cell 14;simp only [a0,a7,qA,xA,dA];obtain ⟨H5,b6,S⟩:∃ f,pO N K J () U=some (true,f)/\Chg [] U f:=hg U c4;show ∃ h',(jA (pO N K J () U) _)=_/\_;rw [b6,aA];have o1:=o1.chg S;have o2:=o2.chg S;have c5:=c4.trans S;exact ⟨_,rfl,c5⟩
def kB6 {rec112 f rec193c112} {k:Int} {x:Bs} {u w r y:SL} (Z:∀ H,Chg [] h H->∃ j,f106 N u w H=some (true,j)/\Chg [] H j) (he:∀ H,Chg [] h H->∃ j,f r y () H=some (true,j)/\Chg [] H j):∃ h',pAq N rec112 f rec193c112 (k,x,u,r,()) (k,x,w,y,()) h=some (true,h')/\Chg [] h h':=by
 unfold pAq;dsimp only;have o1:=wA h [(yI0 k),(.str x),(yL u),(yL r)];have c1:=uA h (.row [(yI0 k),(.str x),(yL u),(yL r)] .own);generalize h.push (.row [(yI0 k),(.str x),(yL u),(yL r)] .own)=B at *;have o2:=wA B [(yI0 k),(.str x),(yL w),(yL y)];have I:=uA B (.row [(yI0 k),(.str x),(yL w),(yL y)] .own);have o1:=o1.chg I;generalize B.push (.row [(yI0 k),(.str x),(yL w),(yL y)] .own)=p at *;have Y:=c1.trans I
 clear c1 I
 have J:p.cell (h.next,0)=some (yI0 k):=o1.cell 0;have R:p.cell (B.next,0)=some (yI0 k):=o2.cell 0;have M:p.cell (h.next,1)=some (.str x):=o1.cell 1;have U:p.cell (B.next,1)=some (.str x):=o2.cell 1;have Q:p.cell (h.next,2)=some (yL u):=o1.cell 2;have O:p.cell (B.next,2)=some (yL w):=o2.cell 2;simp only [xC,J,R,qB,uH,xA,M,U,yA,eqB.2,Q,O,qA,dA];obtain ⟨F,K,C⟩:∃ j,f106 N u w  p=some (true,j)/\Chg [] p j:=Z p Y;show ∃ h',(jA (f106 N u w  p) _)=_/\_;rw [K,aA];have o1:=o1.chg C;have o2:=o2.chg C;have c1:=Y.trans C;have L:F.cell (h.next,3)=some (yL r):=o1.cell 3;have X:F.cell (B.next,3)=some (yL y):=o2.cell 3;simp only [L,X,qA,xA,dA];obtain ⟨H2,S,A⟩:∃ j,f r y () F=some (true,j)/\Chg [] F j:=he F c1;show ∃ h',(jA (f r y () F) _)=_/\_;rw [S,aA];have o1:=o1.chg A;have o2:=o2.chg A;have I:=c1.trans A;exact ⟨_,rfl,I⟩
def lB6 {m:Bool} {nm:Bs} {p f:TyV} (O:∀ H,Chg [] h H->∃ y,f112 N N p f H=some (true,y)/\Chg [] H y):∃ h',f108 N (m,nm,p.1,p.2.1,p.2.2.1,p.2.2.2.1,()) (m,nm,f.1,f.2.1,f.2.2.1,f.2.2.2.1,()) h=some (true,h')/\Chg [] h h':=by
 unfold f108;dsimp only;have o1:=wA h [(.bool m),(.str nm),(yI0 p.1),(.str p.2.1),(yL p.2.2.1),(yL p.2.2.2.1)];have c1:=uA h (.row [(.bool m),(.str nm),(yI0 p.1),(.str p.2.1),(yL p.2.2.1),(yL p.2.2.2.1)] .own);generalize h.push (.row [(.bool m),(.str nm),(yI0 p.1),(.str p.2.1),(yL p.2.2.1),(yL p.2.2.2.1)] .own)=w at *;have o2:=wA w [(.bool m),(.str nm),(yI0 f.1),(.str f.2.1),(yL f.2.2.1),(yL f.2.2.2.1)];have B:=uA w (.row [(.bool m),(.str nm),(yI0 f.1),(.str f.2.1),(yL f.2.2.1),(yL f.2.2.2.1)] .own);have o1:=o1.chg B;generalize w.push (.row [(.bool m),(.str nm),(yI0 f.1),(.str f.2.1),(yL f.2.2.1),(yL f.2.2.2.1)] .own)=r at *;have M:=c1.trans B
 clear c1 B
 have A:r.cell (h.next,0)=some (.bool m):=o1.cell 0;have K:r.cell (w.next,0)=some (.bool m):=o2.cell 0;have F:r.cell (h.next,1)=some (.str nm):=o1.cell 1;have L:r.cell (w.next,1)=some (.str nm):=o2.cell 1;have J:r.cells (h.next,2) 4=some (.agg (tyc p)):=o1.cells (j:=2) (m:=4) (show 6<=6 by decide);have I:r.cells (w.next,2) 4=some (.agg (tyc f)):=o2.cells (j:=2) (m:=4) (show 6<=6 by decide);simp only [xC,A,K,aC,cAd,xA,F,L,yA,eqB.2,dA];rw [J,vZ,I,vZ];obtain ⟨Q,C,u⟩:∃ y,f112 N N p f r=some (true,y)/\Chg [] r y:=O r M;rw [C,aA];have o1:=o1.chg u;have o2:=o2.chg u;have c1:=M.trans u;exact ⟨_,rfl,c1⟩
def lBe {m:Bool} {nm:Bs} {a:Int} {r w y p:SL} (hl:∀ H,Chg [] h H->∃ j,f106 N r w H=some (true,j)/\Chg [] H j) (hg:∀ H,Chg [] h H->∃ j,nI N y p () H=some (true,j)/\Chg [] H j):∃ h',f73 N (m,nm,r,y,a,()) (m,nm,w,p,a,()) h=some (true,h')/\Chg [] h h':=by
 unfold f73;dsimp only;have o1:=wA h [(.bool m),(.str nm),(yL r),(yL y),(yI0 a)];have c1:=uA h (.row [(.bool m),(.str nm),(yL r),(yL y),(yI0 a)] .own);generalize h.push (.row [(.bool m),(.str nm),(yL r),(yL y),(yI0 a)] .own)=u at *;have o2:=wA u [(.bool m),(.str nm),(yL w),(yL p),(yI0 a)];have F:=uA u (.row [(.bool m),(.str nm),(yL w),(yL p),(yI0 a)] .own);have o1:=o1.chg F;generalize u.push (.row [(.bool m),(.str nm),(yL w),(yL p),(yI0 a)] .own)=f at *;have Z:=c1.trans F
 clear c1 F
 have I:f.cell (h.next,0)=some (.bool m):=o1.cell 0;have S:f.cell (u.next,0)=some (.bool m):=o2.cell 0;have O:f.cell (h.next,1)=some (.str nm):=o1.cell 1;have X:f.cell (u.next,1)=some (.str nm):=o2.cell 1;have K:f.cell (h.next,4)=some (yI0 a):=o1.cell 4;have J:f.cell (u.next,4)=some (yI0 a):=o2.cell 4;have Q:f.cell (h.next,2)=some (yL r):=o1.cell 2;have R:f.cell (u.next,2)=some (yL w):=o2.cell 2;simp only [xC,I,S,aC,cAd,xA,O,X,yA,eqB.2,K,J,qB,uH,Q,R,qA,dA];obtain ⟨C,L,B⟩:∃ j,f106 N r w  f=some (true,j)/\Chg [] f j:=hl f Z;show ∃ h',(jA (f106 N r w  f) _)=_/\_;rw [L,aA];have o1:=o1.chg B;have o2:=o2.chg B;have c1:=Z.trans B;have M:C.cell (h.next,3)=some (yL y):=o1.cell 3;have Y:C.cell (u.next,3)=some (yL p):=o2.cell 3;simp only [M,Y,qA,xA,dA];obtain ⟨H2,U,A⟩:∃ j,nI N y p () C=some (true,j)/\Chg [] C j:=hg C c1;show ∃ h',(jA (nI N y p () C) _)=_/\_;rw [U,aA];have o1:=o1.chg A;have o2:=o2.chg A;have F:=c1.trans A;exact ⟨_,rfl,F⟩
def mB6 {nm:Bs} {j p:SL} (K:∀ H,Chg [] h H->∃ w,f106 N j p H=some (true,w)/\Chg [] H w):∃ h',f111 N (nm,j,()) (nm,p,()) h=some (true,h')/\Chg [] h h':=by
 unfold f111;dsimp only;have o1:=wA h [(.str nm),(yL j)];have c1:=uA h (.row [(.str nm),(yL j)] .own);generalize h.push (.row [(.str nm),(yL j)] .own)=u at *;have o2:=wA u [(.str nm),(yL p)];have A:=uA u (.row [(.str nm),(yL p)] .own);have o1:=o1.chg A;generalize u.push (.row [(.str nm),(yL p)] .own)=f at *;have J:=c1.trans A
 clear c1 A
 have y:f.cell (h.next,0)=some (.str nm):=o1.cell 0;have F:f.cell (u.next,0)=some (.str nm):=o2.cell 0;have C:f.cell (h.next,1)=some (yL j):=o1.cell 1;have I:f.cell (u.next,1)=some (yL p):=o2.cell 1;simp only [xC,y,F,yA,eqB.2,xA,C,I,qA,dA];obtain ⟨L,B,r⟩:∃ w,f106 N j p  f=some (true,w)/\Chg [] f w:=K f J;show ∃ h',(jA (f106 N j p  f) _)=_/\_;rw [B,aA];have o1:=o1.chg r;have o2:=o2.chg r;have c1:=J.trans r;exact ⟨_,rfl,c1⟩
def mBe {m:Bool} {nm:Bs} {a:Int} {B I F y A C:SL} {r p:TyV} (hl:∀ H,Chg [] h H->∃ f,mO N B I () H=some (true,f)/\Chg [] H f) (hp:∀ H,Chg [] h H->∃ f,nI N F y () H=some (true,f)/\Chg [] H f) (ht:∀ H,Chg [] h H->∃ f,f112 N N r p H=some (true,f)/\Chg [] H f) (hb:∀ H,Chg [] h H->∃ f,qH N N A C () H=some (true,f)/\Chg [] H f):∃ h',f75 N (m,nm,B,F,r.1,r.2.1,r.2.2.1,r.2.2.2.1,A,a,()) (m,nm,I,y,p.1,p.2.1,p.2.2.1,p.2.2.2.1,C,a,()) h=some (true,h')/\Chg [] h h':=by
 unfold f75;dsimp only;have o1:=wA h [(.bool m),(.str nm),(yL B),(yL F),(yI0 r.1),(.str r.2.1),(yL r.2.2.1),(yL r.2.2.2.1),(yL A),(yI0 a)];have c1:=uA h (.row [(.bool m),(.str nm),(yL B),(yL F),(yI0 r.1),(.str r.2.1),(yL r.2.2.1),(yL r.2.2.2.1),(yL A),(yI0 a)] .own);generalize h.push (.row [(.bool m),(.str nm),(yL B),(yL F),(yI0 r.1),(.str r.2.1),(yL r.2.2.1),(yL r.2.2.2.1),(yL A),(yI0 a)] .own)=w at *;have o2:=wA w [(.bool m),(.str nm),(yL I),(yL y),(yI0 p.1),(.str p.2.1),(yL p.2.2.1),(yL p.2.2.2.1),(yL C),(yI0 a)];have Q:=uA w (.row [(.bool m),(.str nm),(yL I),(yL y),(yI0 p.1),(.str p.2.1),(yL p.2.2.1),(yL p.2.2.2.1),(yL C),(yI0 a)] .own);have o1:=o1.chg Q;generalize w.push (.row [(.bool m),(.str nm),(yL I),(yL y),(yI0 p.1),(.str p.2.1),(yL p.2.2.1),(yL p.2.2.2.1),(yL C),(yI0 a)] .own)=u at *;have c0:=c1.trans Q
 clear c1 Q
 have X:u.cell (h.next,0)=some (.bool m):=o1.cell 0;have a7:u.cell (w.next,0)=some (.bool m):=o2.cell 0;have a4:u.cell (h.next,1)=some (.str nm):=o1.cell 1;have a9:u.cell (w.next,1)=some (.str nm):=o2.cell 1;have Z:u.cell (h.next,9)=some (yI0 a):=o1.cell 9;have S:u.cell (w.next,9)=some (yI0 a):=o2.cell 9;have a6:u.cell (h.next,2)=some (yL B):=o1.cell 2;have a5:u.cell (w.next,2)=some (yL I):=o2.cell 2;simp only [xC,X,a7,aC,cAd,xA,a4,a9,yA,eqB.2,Z,S,qB,uH,a6,a5,qA,dA];obtain ⟨R,a1,M⟩:∃ f,mO N B I () u=some (true,f)/\Chg [] u f:=hl u c0;show ∃ h',(jA (mO N B I () u) _)=_/\_;rw [a1,aA];have o1:=o1.chg M;have o2:=o2.chg M;have c1:=c0.trans M;have a3:R.cell (h.next,3)=some (yL F):=o1.cell 3;have b3:R.cell (w.next,3)=some (yL y):=o2.cell 3;simp only [a3,b3,qA,xA,dA];obtain ⟨H2,a8,K⟩:∃ f,nI N F y () R=some (true,f)/\Chg [] R f:=hp R c1;show ∃ h',(jA (nI N F y () R) _)=_/\_;rw [a8,aA];have o1:=o1.chg K;have o2:=o2.chg K;have Q:=c1.trans K;have a0:H2.cells (h.next,4) 4=some (.agg (tyc r)):=o1.cells (j:=4) (m:=4) (show 8<=10 by decide);have Y:H2.cells (w.next,4) 4=some (.agg (tyc p)):=o2.cells (j:=4) (m:=4) (show 8<=10 by decide);simp only [xA];rw [a0,vZ,Y,vZ];obtain ⟨O,b0,J⟩:∃ f,f112 N N r p H2=some (true,f)/\Chg [] H2 f:=ht H2 Q;rw [b0,aA];have o1:=o1.chg J;have o2:=o2.chg J;have c3:=Q.trans J;have U:O.cell (h.next,8)=some (yL A):=o1.cell 8;have b4:O.cell (w.next,8)=some (yL C):=o2.cell 8;simp only [U,b4,qA,xA,dA];obtain ⟨H4,a2,L⟩:∃ f,qH N N A C () O=some (true,f)/\Chg [] O f:=hb O c3;show ∃ h',(jA (qH N N A C () O) _)=_/\_;rw [a2,aA];have o1:=o1.chg L;have o2:=o2.chg L;have c4:=c3.trans L;exact ⟨_,rfl,c4⟩
def rAq {f rec114 rec163c114} {k a:Int} {m O:Bool} {nm:Bs} {A y:TyV} {M L:LfV} {p v2:VaV} {o1 o2:OpV} {C B I F:SL} (ht:∀ H,Chg [] h H->∃ r,f112 N N A y H=some (true,r)/\Chg [] H r) (hp:∀ H,Chg [] h H->∃ r,f164 N (M.1,M.2.1,()) (L.1,L.2.1,()) H=some (true,r)/\Chg [] H r) (hv:∀ H,Chg [] h H->∃ r,f165 N p v2 H=some (true,r)/\Chg [] H r) (ho:∀ H,Chg [] h H->∃ r,f166 N o1 o2 H=some (true,r)/\Chg [] H r)
  (a8:∀ H,Chg [] h H->∃ r,f C B () H=some (true,r)/\Chg [] H r) (b7:∀ H,Chg [] h H->∃ r,f I F () H=some (true,r)/\Chg [] H r):∃ h',qAq N f rec114 rec163c114 (k,a,m,nm,A.1,A.2.1,A.2.2.1,A.2.2.2.1,O,M.1,M.2.1,p.1,p.2.1,p.2.2.1,p.2.2.2.1,p.2.2.2.2.1,p.2.2.2.2.2.1,p.2.2.2.2.2.2.1,p.2.2.2.2.2.2.2.1,p.2.2.2.2.2.2.2.2.1,p.2.2.2.2.2.2.2.2.2.1,p.2.2.2.2.2.2.2.2.2.2.1,p.2.2.2.2.2.2.2.2.2.2.2.1,p.2.2.2.2.2.2.2.2.2.2.2.2.1,p.2.2.2.2.2.2.2.2.2.2.2.2.2.1,p.2.2.2.2.2.2.2.2.2.2.2.2.2.2.1,o1.1,o1.2.1,o1.2.2.1,o1.2.2.2.1,C,I,()) (k,a,m,nm,y.1,y.2.1,y.2.2.1,y.2.2.2.1,O,L.1,L.2.1,v2.1,v2.2.1,v2.2.2.1,v2.2.2.2.1,v2.2.2.2.2.1,v2.2.2.2.2.2.1,v2.2.2.2.2.2.2.1,v2.2.2.2.2.2.2.2.1,v2.2.2.2.2.2.2.2.2.1,v2.2.2.2.2.2.2.2.2.2.1,v2.2.2.2.2.2.2.2.2.2.2.1,v2.2.2.2.2.2.2.2.2.2.2.2.1,v2.2.2.2.2.2.2.2.2.2.2.2.2.1,v2.2.2.2.2.2.2.2.2.2.2.2.2.2.1,v2.2.2.2.2.2.2.2.2.2.2.2.2.2.2.1,o2.1,o2.2.1,o2.2.2.1,o2.2.2.2.1,B,F,()) h=some (true,h')/\Chg [] h h':=by
 unfold qAq;dsimp only;have u:=wA h [(yI0 k),(yI0 a),(.bool m),(.str nm),(yI0 A.1),(.str A.2.1),(yL A.2.2.1),(yL A.2.2.2.1),(.bool O),(.str M.1),(yL M.2.1),(yI0 p.1),(yI0 p.2.1),(yI0 p.2.2.1),(.str p.2.2.2.1),(yL p.2.2.2.2.1),(yI0 p.2.2.2.2.2.1),(yI0 p.2.2.2.2.2.2.1),(.str p.2.2.2.2.2.2.2.1),(yL p.2.2.2.2.2.2.2.2.1),(yI0 p.2.2.2.2.2.2.2.2.2.1),(.str p.2.2.2.2.2.2.2.2.2.2.1),(yL p.2.2.2.2.2.2.2.2.2.2.2.1),(.str p.2.2.2.2.2.2.2.2.2.2.2.2.1),(yL p.2.2.2.2.2.2.2.2.2.2.2.2.2.1),(yL p.2.2.2.2.2.2.2.2.2.2.2.2.2.2.1),(yI0 o1.1),(yI0 o1.2.1),(.str o1.2.2.1),(yL o1.2.2.2.1),(yL C),(yL I)];have c1:=uA h (.row [(yI0 k),(yI0 a),(.bool m),(.str nm),(yI0 A.1),(.str A.2.1),(yL A.2.2.1),(yL A.2.2.2.1),(.bool O),(.str M.1),(yL M.2.1),(yI0 p.1),(yI0 p.2.1),(yI0 p.2.2.1),(.str p.2.2.2.1),(yL p.2.2.2.2.1),(yI0 p.2.2.2.2.2.1),(yI0 p.2.2.2.2.2.2.1),(.str p.2.2.2.2.2.2.2.1),(yL p.2.2.2.2.2.2.2.2.1),(yI0 p.2.2.2.2.2.2.2.2.2.1),(.str p.2.2.2.2.2.2.2.2.2.2.1),(yL p.2.2.2.2.2.2.2.2.2.2.2.1),(.str p.2.2.2.2.2.2.2.2.2.2.2.2.1),(yL p.2.2.2.2.2.2.2.2.2.2.2.2.2.1),(yL p.2.2.2.2.2.2.2.2.2.2.2.2.2.2.1),(yI0 o1.1),(yI0 o1.2.1),(.str o1.2.2.1),(yL o1.2.2.2.1),(yL C),(yL I)] .own);generalize h.push (.row [(yI0 k),(yI0 a),(.bool m),(.str nm),(yI0 A.1),(.str A.2.1),(yL A.2.2.1),(yL A.2.2.2.1),(.bool O),(.str M.1),(yL M.2.1),(yI0 p.1),(yI0 p.2.1),(yI0 p.2.2.1),(.str p.2.2.2.1),(yL p.2.2.2.2.1),(yI0 p.2.2.2.2.2.1),(yI0 p.2.2.2.2.2.2.1),(.str p.2.2.2.2.2.2.2.1),(yL p.2.2.2.2.2.2.2.2.1),(yI0 p.2.2.2.2.2.2.2.2.2.1),(.str p.2.2.2.2.2.2.2.2.2.2.1),(yL p.2.2.2.2.2.2.2.2.2.2.2.1),(.str p.2.2.2.2.2.2.2.2.2.2.2.2.1),(yL p.2.2.2.2.2.2.2.2.2.2.2.2.2.1),(yL p.2.2.2.2.2.2.2.2.2.2.2.2.2.2.1),(yI0 o1.1),(yI0 o1.2.1),(.str o1.2.2.1),(yL o1.2.2.2.1),(yL C),(yL I)] .own)=K at *;have w:=wA K [(yI0 k),(yI0 a),(.bool m),(.str nm),(yI0 y.1),(.str y.2.1),(yL y.2.2.1),(yL y.2.2.2.1),(.bool O),(.str L.1),(yL L.2.1),(yI0 v2.1),(yI0 v2.2.1),(yI0 v2.2.2.1),(.str v2.2.2.2.1),(yL v2.2.2.2.2.1),(yI0 v2.2.2.2.2.2.1),(yI0 v2.2.2.2.2.2.2.1),(.str v2.2.2.2.2.2.2.2.1),(yL v2.2.2.2.2.2.2.2.2.1),(yI0 v2.2.2.2.2.2.2.2.2.2.1),(.str v2.2.2.2.2.2.2.2.2.2.2.1),(yL v2.2.2.2.2.2.2.2.2.2.2.2.1),(.str v2.2.2.2.2.2.2.2.2.2.2.2.2.1),(yL v2.2.2.2.2.2.2.2.2.2.2.2.2.2.1),(yL v2.2.2.2.2.2.2.2.2.2.2.2.2.2.2.1),(yI0 o2.1),(yI0 o2.2.1),(.str o2.2.2.1),(yL o2.2.2.2.1),(yL B),(yL F)];have c2:=uA K (.row [(yI0 k),(yI0 a),(.bool m),(.str nm),(yI0 y.1),(.str y.2.1),(yL y.2.2.1),(yL y.2.2.2.1),(.bool O),(.str L.1),(yL L.2.1),(yI0 v2.1),(yI0 v2.2.1),(yI0 v2.2.2.1),(.str v2.2.2.2.1),(yL v2.2.2.2.2.1),(yI0 v2.2.2.2.2.2.1),(yI0 v2.2.2.2.2.2.2.1),(.str v2.2.2.2.2.2.2.2.1),(yL v2.2.2.2.2.2.2.2.2.1),(yI0 v2.2.2.2.2.2.2.2.2.2.1),(.str v2.2.2.2.2.2.2.2.2.2.2.1),(yL v2.2.2.2.2.2.2.2.2.2.2.2.1),(.str v2.2.2.2.2.2.2.2.2.2.2.2.2.1),(yL v2.2.2.2.2.2.2.2.2.2.2.2.2.2.1),(yL v2.2.2.2.2.2.2.2.2.2.2.2.2.2.2.1),(yI0 o2.1),(yI0 o2.2.1),(.str o2.2.2.1),(yL o2.2.2.2.1),(yL B),(yL F)] .own);have u:=u.chg c2;generalize K.push (.row [(yI0 k),(yI0 a),(.bool m),(.str nm),(yI0 y.1),(.str y.2.1),(yL y.2.2.1),(yL y.2.2.2.1),(.bool O),(.str L.1),(yL L.2.1),(yI0 v2.1),(yI0 v2.2.1),(yI0 v2.2.2.1),(.str v2.2.2.2.1),(yL v2.2.2.2.2.1),(yI0 v2.2.2.2.2.2.1),(yI0 v2.2.2.2.2.2.2.1),(.str v2.2.2.2.2.2.2.2.1),(yL v2.2.2.2.2.2.2.2.2.1),(yI0 v2.2.2.2.2.2.2.2.2.2.1),(.str v2.2.2.2.2.2.2.2.2.2.2.1),(yL v2.2.2.2.2.2.2.2.2.2.2.2.1),(.str v2.2.2.2.2.2.2.2.2.2.2.2.2.1),(yL v2.2.2.2.2.2.2.2.2.2.2.2.2.2.1),(yL v2.2.2.2.2.2.2.2.2.2.2.2.2.2.2.1),(yI0 o2.1),(yI0 o2.2.1),(.str o2.2.2.1),(yL o2.2.2.2.1),(yL B),(yL F)] .own)=J at *;have c0:=c1.trans c2
 clear c1 c2
 have b9:J.cell (h.next,0)=some (yI0 k):=u.cell 0;have d3:J.cell (K.next,0)=some (yI0 k):=w.cell 0;have b6:J.cell (h.next,1)=some (yI0 a):=u.cell 1;have b2:J.cell (K.next,1)=some (yI0 a):=w.cell 1;have d0:J.cell (h.next,2)=some (.bool m):=u.cell 2;have c9:J.cell (K.next,2)=some (.bool m):=w.cell 2;have b0:J.cell (h.next,3)=some (.str nm):=u.cell 3;have d8:J.cell (K.next,3)=some (.str nm):=w.cell 3;have b4:J.cell (h.next,8)=some (.bool O):=u.cell 8;have b3:J.cell (K.next,8)=some (.bool O):=w.cell 8;have c7:J.cells (h.next,4) 4=some (.agg (tyc A)):=u.cells (j:=4) (m:=4) (show 8<=32 by decide);have b5:J.cells (K.next,4) 4=some (.agg (tyc y)):=w.cells (j:=4) (m:=4) (show 8<=32 by decide);simp only [xC,b9,d3,qB,uH,xA,b6,b2,d0,c9,aC,cAd,b0,d8,yA,eqB.2,b4,b3,dA];rw [c7,vZ,b5,vZ];obtain ⟨H1,c8,X⟩:∃ r,f112 N N A y J=some (true,r)/\Chg [] J r:=ht J c0;rw [c8,aA];have u:=u.chg X;have w:=w.chg X;have c1:=c0.trans X;have d4:H1.cells (h.next,9) 2=some (.agg (lfc M)):=u.cells (j:=9) (m:=2) (show 11<=32 by decide);have a9:H1.cells (K.next,9) 2=some (.agg (lfc L)):=w.cells (j:=9) (m:=2) (show 11<=32 by decide);simp only [xA];rw [d4,eA1,a9,eA1];obtain ⟨H2,b1,Q⟩:∃ r,f164 N (M.1,M.2.1,()) (L.1,L.2.1,()) H1=some (true,r)/\Chg [] H1 r:=hp H1 c1;rw [b1,aA];have u:=u.chg Q;have w:=w.chg Q;have c2:=c1.trans Q;have a0:H2.cells (h.next,11) 15=some (.agg (vac p)):=u.cells (j:=11) (m:=15) (show 26<=32 by decide);have a6:H2.cells (K.next,11) 15=some (.agg (vac v2)):=w.cells (j:=11) (m:=15) (show 26<=32 by decide);simp only [xA];rw [a0,fAf,a6,fAf];obtain ⟨H3,d7,U⟩:∃ r,f165 N p v2 H2=some (true,r)/\Chg [] H2 r:=hv H2 c2;rw [d7,aA];have u:=u.chg U;have w:=w.chg U;have c3:=c2.trans U;have a7:H3.cells (h.next,26) 4=some (.agg (opc o1)):=u.cells (j:=26) (m:=4) (show 30<=32 by decide);have a4:H3.cells (K.next,26) 4=some (.agg (opc o2)):=w.cells (j:=26) (m:=4) (show 30<=32 by decide);simp only [xA];rw [a7,kY,a4,kY];obtain ⟨Z,d5,R⟩:∃ r,f166 N o1 o2 H3=some (true,r)/\Chg [] H3 r:=ho H3 c3;rw [d5,aA];have u:=u.chg R;have w:=w.chg R;have c4:=c3.trans R;have a2:Z.cell (h.next,30)=some (yL C):=u.cell 30;have a1:Z.cell (K.next,30)=some (yL B):=w.cell 30;simp only [a2,a1,qA,xA,dA];obtain ⟨H5,d6,Y⟩:∃ r,f C B () Z=some (true,r)/\Chg [] Z r:=a8 Z c4;show ∃ h',(jA (f C B () Z) _)=_/\_;rw [d6,aA];have u:=u.chg Y;have w:=w.chg Y;have c5:=c4.trans Y;have a3:H5.cell (h.next,31)=some (yL I):=u.cell 31;have a5:H5.cell (K.next,31)=some (yL F):=w.cell 31;simp only [a3,a5,qA,xA,dA];obtain ⟨H6,b8,S⟩:∃ r,f I F () H5=some (true,r)/\Chg [] H5 r:=b7 H5 c5;show ∃ h',(jA (f I F () H5) _)=_/\_;rw [b8,aA];have u:=u.chg S;have w:=w.chg S;have c6:=c5.trans S;exact ⟨_,rfl,c6⟩
def nBe {j p u r:SL} (R:∀ H,Chg [] h H->∃ f,cA6 N j p () H=some (true,f)/\Chg [] H f) (S:∀ H,Chg [] h H->∃ f,fA6 N u r () H=some (true,f)/\Chg [] H f):∃ h',f30 N (j,u,()) (p,r,()) h=some (true,h')/\Chg [] h h':=by
 unfold f30;dsimp only;have o1:=wA h [(yL j),(yL u)];have c1:=uA h (.row [(yL j),(yL u)] .own);generalize h.push (.row [(yL j),(yL u)] .own)=F at *;have o2:=wA F [(yL p),(yL r)];have C:=uA F (.row [(yL p),(yL r)] .own);have o1:=o1.chg C;generalize F.push (.row [(yL p),(yL r)] .own)=A at *;have Q:=c1.trans C
 clear c1 C
 have I:A.cell (h.next,0)=some (yL j):=o1.cell 0;have L:A.cell (F.next,0)=some (yL p):=o2.cell 0;simp only [xC,I,L,qA,dA];obtain ⟨B,J,y⟩:∃ f,cA6 N j p () A=some (true,f)/\Chg [] A f:=R A Q;show ∃ h',(jA (cA6 N j p () A) _)=_/\_;rw [J,aA];have o1:=o1.chg y;have o2:=o2.chg y;have c1:=Q.trans y;have K:B.cell (h.next,1)=some (yL u):=o1.cell 1;have O:B.cell (F.next,1)=some (yL r):=o2.cell 1;simp only [K,O,qA,xA,dA];obtain ⟨H2,M,w⟩:∃ f,fA6 N u r () B=some (true,f)/\Chg [] B f:=S B c1;show ∃ h',(jA (fA6 N u r () B) _)=_/\_;rw [M,aA];have o1:=o1.chg w;have o2:=o2.chg w;have C:=c1.trans w;exact ⟨_,rfl,C⟩
end
end Qp
namespace Qp
def isFd (d:D):Prop:=∃ m nm ty,d=fdD m nm ty/\isTy 65 ty
def isSt (d:D):Prop:=∃ pub nm lv h a,d=bV pub nm lv h a/\lv.length<=1000/\h.length<=1000/\∀ f∈h,isFd f
def isLf (d:D):Prop:=∃ (nm:Bs) (xs:List Bs),d=eF nm (xs.map D.s)/\xs.length<=1000
def isOp (d:D):Prop:=∃ k n pl,d=opD k n pl/\isLf pl
def isVa (d:D):Prop:=∃ k a b op pl nm,∃ (ns:List Bs) (ag:List D),d=vaD k a b op pl nm (ns.map D.s) ag/\isOp a/\isOp b/\isLf pl/\ns.length<=1000/\ag.length<=1000/\∀ o∈ag,isOp o
def smT (k a:Int) (m:Bool) (nm:Bs) (ty:D) (f:Bool) (pl va co:D) (th el:List D):D:=.t [.i k,.i a,.b m,.s nm,ty,.b f,pl,va,co,.l th,.l el]
def gA0:Nat->D->Prop
 | 0,_=>False
 | n+1,d=>∃ k a m nm ty f pl va co th el,d=smT k a m nm ty f pl va co th el/\isTy 65 ty/\isLf pl/\isVa va/\isOp co/\th.length<=3000/\el.length<=3000/\(∀ s∈th,gA0 n s)/\∀ s∈el,gA0 n s
def fuT (pub:Bool) (nm:Bs) (lv ps:List D) (ty:D) (bd:List D) (a:Int):D:=.t [.b pub,.s nm,.l lv,.l ps,ty,.l bd,.i a]
def isFu (d:D):Prop:=∃ pub nm lv ps ty bd a,d=fuT pub nm lv ps ty bd a/\lv.length<=1000/\(∀ l∈lv,isLf l)/\ps.length<=1000/\(∀ p∈ps,isFd p)/\isTy 65 ty/\bd.length<=3000/\∀ s∈bd,gA0 65 s
section
variable {h:Heap} {V W:Nat->Prop} {cs:List AV}
def aB4 {xs:List D} (x:∃ (s:SL) (vs:List AV),cs=[s.av]/\s.len=xs.length/\s.len<=s.cap/\(∀ A,s.blk=some A->V A)/\Sees h s vs/\De h V s.sz xs vs):∃ s:SL,cs=[s.av]/\Sl h V s xs:=by
 have:Dt h V (.l xs) cs:=by simp only [Dt];exact x
 exact iBv.1 this
def tAq {n:Nat} {d:D} (t:isTy n d) (x:Dt h V d cs):∃ r:TyV,cs=tyc r:=by
 cases n with
 | zero=>cases t
 | succ n=>
  obtain ⟨k,y,lv,el,rfl,_⟩:=t
  grind [yJ]
theorem pM {nm:Bs} {l:List D} (x:Dt h V (eF nm l) cs):∃ s:SL,cs=lfc (nm,s,())/\Sl h V s l:=by
 simp only [eF,Dt,Dp] at x;obtain ⟨_,_,rfl,f,_,_,rfl,p,rfl⟩:=x;subst f;obtain ⟨s,rfl,j⟩:=aB4 p;exact ⟨s,rfl,j⟩
def dAd {d:D} (t:isLf d) (x:Dt h V d cs):∃ r:LfV,cs=lfc r:=by
 obtain ⟨nm,xs,rfl,_⟩:=t
 grind [pM]
theorem dAa {m:Bool} {nm:Bs} {ty:D} {n:Nat} (t:isTy n ty) (x:Dt h V (fdD m nm ty) cs):∃ r:TyV,cs=fdc (iU m nm r)/\Dt h V ty (tyc r):=by
 simp only [fdD,Dt,Dp] at x;obtain ⟨_,_,rfl,j,_,_,rfl,p,_,_,rfl,f,rfl⟩:=x;subst j p;obtain ⟨r,rfl⟩:=tAq t f;exact ⟨r,rfl,f⟩
theorem iA0 {pub:Bool} {nm:Bs} {lv:List Bs} {j:List D} {a:Int} (x:Dt h V (bV pub nm lv j a) cs):∃ s1 s2:SL,cs=stc (pub,nm,s1,s2,a,())/\Sl h V s1 (lv.map D.s)/\Sl h V s2 j:=by
 have f:=x;unfold bV at f;simp only [Dt,Dp] at f;obtain ⟨_,_,rfl,p,_,_,rfl,y,_,_,rfl,w,_,_,rfl,B,_,_,rfl,r,rfl⟩:=f;subst p y r;obtain ⟨s1,rfl,A⟩:=aB4 w;obtain ⟨s2,rfl,u⟩:=aB4 B;exact ⟨s1,s2,rfl,A,u⟩
theorem jA0 {k n:Int} {pl:D} (t:isLf pl) (x:Dt h V (opD k n pl) cs):∃ p:LfV,cs=opc (k,n,p.1,p.2.1,())/\Dt h V pl (lfc p):=by
 simp only [opD,Dt,Dp] at x;obtain ⟨_,_,rfl,j,_,_,rfl,u,_,_,rfl,f,rfl⟩:=x;subst j u;obtain ⟨r,rfl⟩:=dAd t f;exact ⟨r,rfl,f⟩
def eAd {d:D} (t:isOp d) (x:Dt h V d cs):∃ r:OpV,cs=opc r:=by
 obtain ⟨k,n,pl,rfl,f⟩:=t
 grind [jA0]
theorem gP {k op:Int} {a b pl:D} {nm:Bs} {ns ag:List D} (y:isOp a) (A:isOp b) (H:isLf pl) (x:Dt h V (vaD k a b op pl nm ns ag) cs):∃ (ra j:OpV) (f:LfV) (s1 s2:SL),cs=vac (nE k ra j op f nm s1 s2)/\Dt h V a (opc ra)/\Dt h V b (opc j)/\Dt h V pl (lfc f)/\Sl h V s1 ns/\Sl h V s2 ag:=by
 simp only [vaD,Dt,Dp] at x;obtain ⟨_,_,rfl,B,_,_,rfl,r,_,_,rfl,u,_,_,rfl,I,_,_,rfl,p,_,_,rfl,K,_,_,rfl,C,_,_,rfl,w,rfl⟩:=x;subst B I K;obtain ⟨ra,rfl⟩:=eAd y r;obtain ⟨j,rfl⟩:=eAd A u;obtain ⟨f,rfl⟩:=dAd H p;obtain ⟨s1,rfl,F⟩:=aB4 C;obtain ⟨s2,rfl,J⟩:=aB4 w;exact ⟨ra,j,f,s1,s2,rfl,r,u,p,F,J⟩
def mB0 {d:D} (t:isVa d) (x:Dt h V d cs):∃ r:VaV,cs=vac r:=by
 obtain ⟨k,a,b,op,pl,nm,ns,ag,rfl,j,f,p,_⟩:=t
 grind [gP]
def fX {k a:Int} {m A:Bool} {nm:Bs} {ty pl va co:D} {th el:List D} (O:isTy 65 ty) (I:isLf pl) (C:isVa va) (Q:isOp co) (x:Dt h V (smT k a m nm ty A pl va co th el) cs):∃ (r:TyV) (p:LfV) (v:VaV) (o:OpV) (s1 s2:SL),cs=smc ⟨k,a,m,nm,r,A,p,v,o,s1,s2⟩/\Dt h V ty (tyc r)/\Dt h V pl (lfc p)/\Dt h V va (vac v)/\Dt h V co (opc o)/\Sl h V s1 th/\Sl h V s2 el:=by
 simp only [smT,Dt,Dp] at x;obtain ⟨_,_,rfl,F,_,_,rfl,R,_,_,rfl,J,_,_,rfl,K,_,_,rfl,w,_,_,rfl,M,_,_,rfl,B,_,_,rfl,y,_,_,rfl,u,_,_,rfl,j,_,_,rfl,f,rfl⟩:=x;subst F R J K M;obtain ⟨r,rfl⟩:=tAq O w;obtain ⟨p,rfl⟩:=dAd I B;obtain ⟨v,rfl⟩:=mB0 C y;obtain ⟨o,rfl⟩:=eAd Q u;obtain ⟨s1,rfl,H⟩:=aB4 j;obtain ⟨s2,rfl,L⟩:=aB4 f;exact ⟨r,p,v,o,s1,s2,rfl,w,B,y,u,H,L⟩
def eAa {pub:Bool} {nm:Bs} {lv ps bd:List D} {ty:D} {a:Int} (B:isTy 65 ty) (x:Dt h V (fuT pub nm lv ps ty bd a) cs):∃ (s1 s2 f:SL) (r:TyV),cs=fuc ⟨pub,nm,s1,s2,r,f,a⟩/\Sl h V s1 lv/\Sl h V s2 ps/\Dt h V ty (tyc r)/\Sl h V f bd:=by
 simp only [fuT,Dt,Dp] at x;obtain ⟨_,_,rfl,u,_,_,rfl,H,_,_,rfl,w,_,_,rfl,I,_,_,rfl,j,_,_,rfl,p,_,_,rfl,F,rfl⟩:=x;subst u H F;obtain ⟨r,rfl⟩:=tAq B j;obtain ⟨s1,rfl,y⟩:=aB4 w;obtain ⟨s2,rfl,A⟩:=aB4 I;obtain ⟨f,rfl,C⟩:=aB4 p;exact ⟨s1,s2,f,r,rfl,y,A,j,C⟩
end
def wQ (n:Nat):Rec [(.int .i64),.str,.slice,.slice] 4 tyc (isTy n):=⟨fun _=>rfl,fun r K=>vZ r K,fun t x=>tAq t x⟩
def iA1:Rec [.bool,.str,(.int .i64),.str,.slice,.slice] 6 fdc isFd:=⟨fun _=>rfl,fun r K=>aBm r K,fun t x=>by
 obtain ⟨m,nm,ty,rfl,f⟩:=t
 grind [dAa]⟩
def pS:Rec [.bool,.str,.slice,.slice,(.int .i64)] 5 stc isSt:=⟨fun _=>rfl,fun r K=>bBm r K,fun t x=>by
 obtain ⟨pub,nm,lv,f,a,rfl,_⟩:=t
 grind [iA0]⟩
def qM:Rec [.str,.slice] 2 lfc isLf:=⟨fun _=>rfl,fun r K=>eA1 r K,fun t x=>dAd t x⟩
def qS:Rec [(.int .i64),(.int .i64),.str,.slice] 4 opc isOp:=⟨fun _=>rfl,fun r K=>kY r K,fun t x=>eAd t x⟩
def rM (n:Nat):Rec [(.int .i64),(.int .i64),.bool,.str,(.int .i64),.str,.slice,.slice,.bool,.str,.slice,(.int .i64),(.int .i64),(.int .i64),.str,.slice,(.int .i64),(.int .i64),.str,.slice,(.int .i64),.str,.slice,.str,.slice,.slice,(.int .i64),(.int .i64),.str,.slice,.slice,.slice] 32 smx (gA0 n):=⟨fun _=>rfl,fun r K=>kL r K,fun t x=>by
 cases n with
 | zero=>cases t
 | succ n=>
  obtain ⟨k,a,m,nm,ty,y,pl,va,co,th,el,rfl,j,f,h,u,_⟩:=t;have ⟨r,p,v,o,s1,s2,w,_⟩:=fX j f h u x;exact ⟨_,w⟩⟩
def oU:Rec [.bool,.str,.slice,.slice,(.int .i64),.str,.slice,.slice,.slice,(.int .i64)] 10 fux isFu:=⟨fun _=>rfl,fun r K=>gBm r K,fun t x=>by
 obtain ⟨pub,nm,lv,ps,ty,bd,a,rfl,_,_,_,_,h,_⟩:=t;have ⟨s1,s2,j,r,f,_⟩:=eAa h x;exact ⟨_,f⟩⟩
theorem Rec.inj {f:List CTy} {n:Nat} {c:tP f->List AV} {P:D->Prop} (R:Rec f n c P) {r r':tP f} (h:c r=c r'):r=r':=by
 have j:=R.agg r (fun x=>some x);rw [h,R.agg] at j
 grind
section
variable {N:Nat} {tys:List CTy} {n:Nat} {c:tP tys->List AV} {z:List AV} {P:D->Prop}
def kA0 (R:Rec tys n c P) (X:z.length=n) {F:tP tys->tP tys->Heap->yO0 Bool} {L:Nat->SL->Unit->Bool->SL->Int->Int->Heap->Option (Out×zI1×Heap)} (O:∀ M J A f j p h,L (M+1) J () A f j p h=jB0 tys n c z F (L M) J A f j p h)
  {xs:List D} (hP:∀ x∈xs,P x) (S:∀ x∈xs,∀ C K H V W,Dt H V x (c C)->Dt H W x (c K)->∃ I,F C K H=some (true,I)/\Chg [] H I) (U:xs.length<=2000000) (Z:xs.length<N) {G:yO0 Bool} {h:Heap} {V W:Nat->Prop} {s1 s2:SL} (u:Sl h V s1 xs) (B:Sl h W s2 xs)
  (Y:G=(bif !pA (Int.ofNat s1.len) (Int.ofNat s2.len) then some (false,h) else rD (L N s2 () false s1 (Int.ofNat s1.len) 0 h) fun w (y:zI1) r=>bif vD w (.exit 0) then some (true,r) else some (y.1,r))):∃ h',G=some (true,h')/\Chg [] h h':=by
 have ⟨h',e,Q⟩:=kBe R X O hP S U N 0 h V W s1 s2 (xc _) (by omega) u B;rw [show ((0:Nat):Int)=0 from rfl] at e;refine ⟨h',?_,Q⟩;rw [Y,fB9 u B,xV,xB,u.len,show Int.ofNat xs.length=(xs.length:Int) from rfl,e];rfl
end
section
variable {N:Nat} {h:Heap} {V W:Nat->Prop}
def fAd {d:D} (t:isLf d) {p j:LfV} (w:Dt h V d (lfc p)) (A:Dt h W d (lfc j)) (J:3001<=N) {H:Heap} (c:Chg [] h H):∃ u,f164 N (p.1,p.2.1,()) (j.1,j.2.1,()) H=some (true,u)/\Chg [] H u:=by
 obtain ⟨nm,xs,rfl,I⟩:=t;have ⟨s1,f,C⟩:=pM w;have ⟨s2,r,B⟩:=pM A;have y:=qM.inj f;have F:=qM.inj r;subst y F;exact lB0 (C.chg c) (B.chg c) (by omega) (by omega)
def gA6 {d:D} (t:isOp d) {u w:OpV} (y:Dt h V d (opc u)) (B:Dt h W d (opc w)) (I:3001<=N) {H:Heap} (c:Chg [] h H):∃ p,f166 N u w H=some (true,p)/\Chg [] H p:=by
 obtain ⟨k,n,pl,rfl,j⟩:=t;have ⟨M,f,J⟩:=jA0 j y;have ⟨L,r,F⟩:=jA0 j B;have A:=qS.inj f;have K:=qS.inj r;subst A K;exact iB6 fun p C=>fAd j J F I (c.trans C)
def oBe {ag:List D} (t:∀ o∈ag,isOp o) (C:ag.length<=3000) {s1 s2:SL} (j:Sl h V s1 ag) (r:Sl h W s2 ag) (y:3001<=N) {H:Heap} (c:Chg [] h H):∃ f,pO N s1 s2 () H=some (true,f)/\Chg [] H f:=by
 unfold pO;have ⟨f,e,u⟩:=kA0 (N:=N) qS (z:=opc (0,0,[],sl0,())) rfl (L:=eA6 N) (F:=fun a b h=>f166 N a b h) (fun _ _ _ _ _ _ _=>rfl) t (fun x p B I H V W A w=>gA6 (t x p) A w y (Chg.refl _ _)) (by omega) (by omega) (j.chg c) (r.chg c) (G:=aAd N s1 s2 () H) rfl;rw [e];exact ⟨f,rfl,u⟩
def wAm {d:D} (t:isVa d) {F v2:VaV} (I:Dt h V d (vac F)) (S:Dt h W d (vac v2)) (u:3001<=N) {H:Heap} (c:Chg [] h H):∃ p,f165 N F v2 H=some (true,p)/\Chg [] H p:=by
 obtain ⟨k,a,b,op,pl,nm,ns,ag,rfl,y,A,B,hn,hg,tg⟩:=t;have ⟨K,M,Z,n1,g1,w,a1,U,p1,y1,z1⟩:=gP y A B I;have ⟨X,a0,L,n2,g2,C,Q,Y,O,y2,J⟩:=gP y A B S;have j:∀ {r r':VaV},vac r=vac r'->r=r':=fun {r r'} h=>by
  have h1:=fAf r (fun x=>some x)
  grind [fAf,Option.some.inj]
 have R:=j w;have e2:=j C;subst R e2;exact jB6 (fun p f=>gA6 y a1 Q u (c.trans f)) (fun p f=>gA6 A U Y u (c.trans f)) (fun p f=>fAd B p1 O u (c.trans f))
  (fun p f=>tBr (c.trans f) y1 y2 (by omega) (by omega)) (fun p f=>oBe tg (by omega) z1 J u (c.trans f))
def pBe (hN:3001<=N):∀ (n M:Nat) (d:D) (f j:TyV) (h:Heap) (V W:Nat->Prop),3 * n<=M->isTy n d->Dt h V d (tyc f)->Dt h W d (tyc j)->∃ r,f112 N M f j h=some (true,r)/\Chg [] h r:=by
 intro n
 induction n with
 | zero=>intro M d f j h V W _ t;cases t
 | succ n X=>
  intro M d f j h V W hM t B K;obtain ⟨M,rfl⟩:∃ m,M=m+3:=⟨M-3,by omega⟩;obtain ⟨k,x,lv,el,rfl,Q,U,p⟩:=t;have ⟨l1,Z,u,A,R⟩:=yJ.1 B;have ⟨l2,O,w,y,C⟩:=yJ.1 K;have J:=(wQ 1).inj u;have Y:=(wQ 1).inj w;subst J Y;rw [cB0];refine kB6 (fun H c=>tBr c A y (by omega) (by omega)) (fun H c=>?_)
  rw [qAc];unfold mY;have ⟨r,e,S⟩:=kA0 (N:=N) (wQ n) (z:=tyc (0,[],sl0,sl0,())) rfl (L:=yA5 N (f112 N M) (bX N M) (cX N M)) (F:=fun a b h=>f112 N M a b h) (fun _ _ _ _ _ _ _=>rfl) p (fun x I f j H V W A y=>X M x f j H V W (by omega) (p x I) A y) (by omega) (by omega) (R.chg c) (C.chg c) (G:=cX N (M+1) Z O () H) rfl;rw [e];exact ⟨r,rfl,S⟩
def mA2 {n:Nat} {d:D} (t:isTy n d) (y:n<=100) {j f:TyV} (r:Dt h V d (tyc j)) (w:Dt h W d (tyc f)) (u:3001<=N) {H:Heap} (c:Chg [] h H):∃ p,f112 N N j f H=some (true,p)/\Chg [] H p:=
 pBe u n N d j f H V W (by omega) t (Dt.chg c (by simp) r) (Dt.chg c (by simp) w)
def qBe {d:D} (t:isFd d) {r w:FdV} (y:Dt h V d (fdc r)) (B:Dt h W d (fdc w)) (F:3001<=N):∃ u,f108 N r w h=some (true,u)/\Chg [] h u:=by
 obtain ⟨m,nm,ty,rfl,j⟩:=t;have ⟨K,f,I⟩:=dAa j y;have ⟨L,p,C⟩:=dAa j B;have A:=iA1.inj f;have J:=iA1.inj p;subst A J;exact lB6 fun H c=>mA2 j (by omega) I C F c
def nB0 {j:List D} (t:∀ o∈j,isFd o) (I:j.length<=3000) {s1 s2:SL} (p:Sl h V s1 j) (u:Sl h W s2 j) (A:3001<=N) {H:Heap} (c:Chg [] h H):∃ f,nI N s1 s2 () H=some (true,f)/\Chg [] H f:=by
 unfold nI;have ⟨f,e,w⟩:=kA0 (N:=N) iA1 (z:=fdc fd0) rfl (L:=aA6 N) (F:=fun a b h=>f108 N a b h) (fun _ _ _ _ _ _ _=>rfl) t (fun x r C J H V W B y=>qBe (t x r) B y A) (by omega) (by omega) (p.chg c) (u.chg c) (G:=tAc N s1 s2 () H) rfl;rw [e];exact ⟨f,rfl,w⟩
def rBe {d:D} (t:isSt d) {p u:StV} (w:Dt h V d (stc p)) (B:Dt h W d (stc u)) (I:3001<=N):∃ r,f73 N p u h=some (true,r)/\Chg [] h r:=by
 obtain ⟨pub,nm,lv,U,a,rfl,R,S,L⟩:=t;have ⟨O,X,f,J,C⟩:=iA0 w;have ⟨Q,M,j,F,y⟩:=iA0 B;have A:=pS.inj f;have K:=pS.inj j;subst A K;exact lBe (fun H c=>tBr c J F (by omega) (by omega)) (fun H c=>nB0 L (by omega) C y I c)
def tBe {xs:List D} (t:∀ o∈xs,isSt o) (C:xs.length<=3000) {s1 s2:SL} (j:Sl h V s1 xs) (r:Sl h W s2 xs) (y:3001<=N) {H:Heap} (c:Chg [] h H):∃ f,cA6 N s1 s2 () H=some (true,f)/\Chg [] H f:=by
 unfold cA6;have ⟨f,e,u⟩:=kA0 (N:=N) pS (z:=stc st0) rfl (L:=bAa N) (F:=fun a b h=>f73 N a b h) (fun _ _ _ _ _ _ _=>rfl) t (fun x p B I H V W A w=>rBe (t x p) A w y) (by omega) (by omega) (j.chg c) (r.chg c) (G:=mAm N s1 s2 () H) rfl;rw [e];exact ⟨f,rfl,u⟩
def oB0 {d:D} (t:isLf d) {p u:LfV} (w:Dt h V d (lfc p)) (A:Dt h W d (lfc u)) (J:3001<=N):∃ r,f111 N p u h=some (true,r)/\Chg [] h r:=by
 obtain ⟨nm,xs,rfl,I⟩:=t;have ⟨s1,f,C⟩:=pM w;have ⟨s2,j,B⟩:=pM A;have y:=qM.inj f;have F:=qM.inj j;subst y F;exact mB6 fun H c=>tBr c C B (by omega) (by omega)
def pB0 {xs:List D} (t:∀ o∈xs,isLf o) (C:xs.length<=3000) {s1 s2:SL} (j:Sl h V s1 xs) (r:Sl h W s2 xs) (y:3001<=N) {H:Heap} (c:Chg [] h H):∃ f,mO N s1 s2 () H=some (true,f)/\Chg [] H f:=by
 unfold mO;have ⟨f,e,u⟩:=kA0 (N:=N) qM (z:=lfc lf0) rfl (L:=dA6 N) (F:=fun a b h=>f111 N a b h) (fun _ _ _ _ _ _ _=>rfl) t (fun x p B I H V W A w=>oB0 (t x p) A w y) (by omega) (by omega) (j.chg c) (r.chg c) (G:=vAc N s1 s2 () H) rfl;rw [e];exact ⟨f,rfl,u⟩
def yAm (j:3001<=N):∀ (n M:Nat) (xs:List D) (s1 s2:SL) (h:Heap) (V W:Nat->Prop),3 * n+3<=M->(∀ s∈xs,gA0 n s)->xs.length<=3000->Sl h V s1 xs->Sl h W s2 xs->∃ f,qH N M s1 s2 () h=some (true,f)/\Chg [] h f:=by
 intro n
 induction n with
 | zero=>
  intro M xs s1 s2 h V W hM t hl A u;obtain ⟨M,rfl⟩:∃ m,M=m+2:=⟨M-2,by omega⟩;rw [eX];unfold fS;have ⟨f,e,w⟩:=kA0 (N:=N) (rM 0) (z:=smx (smv (aF 0))) rfl (L:=mU N (qH N M) (f114 N M) (qO N M)) (F:=fun a b h=>f114 N M a b h) (fun _ _ _ _ _ _ _=>rfl) t (fun x C r1 r2 H V W y1 y2=>by cases t x C) (by omega) (by omega) A u (G:=qO N (M+1) s1 s2 () h) rfl;rw [e];exact ⟨f,rfl,w⟩
 | succ n ih=>
  intro M xs s1 s2 h V W hM t hl A u;obtain ⟨M,rfl⟩:∃ m,M=m+3:=⟨M-3,by omega⟩;rw [eX];unfold fS;have ⟨f,e,w⟩:=kA0 (N:=N) (rM (n+1)) (z:=smx (smv (aF 0))) rfl (L:=mU N (qH N (M+1)) (f114 N (M+1)) (qO N (M+1))) (F:=fun a b h=>f114 N (M+1) a b h) (fun _ _ _ _ _ _ _=>rfl) t (fun x C r1 r2 H V W y1 y2=>by
   obtain ⟨k,a,m,nm,ty,hs,pl,va,co,th,el,rfl,X,O,U,K,h1,h2,t5,t6⟩:=t x C;have ⟨q1,p1,v1,o1,I,S,B,z1,a0,R,Y,u1,w1⟩:=fX X O U K y1;have ⟨q2,p2,v2,o2,r,J,Z,z2,p,y,Q,u2,w2⟩:=fX X O U K y2;have e1:=(rM 1).inj B;have e2:=(rM 1).inj Z;subst e1 e2;show ∃ f,f114 N (M+1) _ _ H=_/\_;rw [gAi];exact rAq (fun f c=>mA2 X (by omega) z1 z2 j c) (fun f c=>fAd O a0 p j c) (fun f c=>wAm U R y j c) (fun f c=>gA6 K Y Q j c)
    (fun f c=>ih M th I r f V W (by omega) t5 h1 (u1.chg c) (u2.chg c)) (fun f c=>ih M el S J f V W (by omega) t6 h2 (w1.chg c) (w2.chg c))) (by omega) (by omega) A u (G:=qO N (M+2) s1 s2 () h) rfl
  rw [e];exact ⟨f,rfl,w⟩
def uBe {d:D} (t:isFu d) {u y:FuV} (A:Dt h V d (fux u)) (K:Dt h W d (fux y)) (f:3001<=N):∃ w,f75 N u y h=some (true,w)/\Chg [] h w:=by
 obtain ⟨pub,nm,lv,ps,ty,bd,a,rfl,h1,U,h2,O,p,h3,I⟩:=t;have ⟨l1,p1,L,q1,j,S,Q,B,Y⟩:=eAa p A;have ⟨l2,p2,M,q2,r,R,C,F,X⟩:=eAa p K;have J:=oU.inj j;have Z:=oU.inj r;subst J Z;exact mBe (fun H c=>pB0 U (by omega) S R f c) (fun H c=>nB0 O (by omega) Q C f c) (fun H c=>mA2 p (by omega) B F f c)
  (fun H c=>yAm f 65 N bd L M H V W (by omega) I (by omega) (Y.chg c) (X.chg c))
def vBe {xs:List D} (t:∀ o∈xs,isFu o) (C:xs.length<=3000) {s1 s2:SL} (j:Sl h V s1 xs) (r:Sl h W s2 xs) (y:3001<=N) {H:Heap} (c:Chg [] h H):∃ f,fA6 N s1 s2 () H=some (true,f)/\Chg [] H f:=by
 unfold fA6;have ⟨f,e,u⟩:=kA0 (N:=N) oU (z:=fux (fuv (vI false [] 0))) rfl (L:=cAa N) (F:=fun a b h=>f75 N a b h) (fun _ _ _ _ _ _ _=>rfl) t (fun x p B I H V W A w=>uBe (t x p) A w y) (by omega) (by omega) (j.chg c) (r.chg c) (G:=uAm N s1 s2 () H) rfl;rw [e];exact ⟨f,rfl,u⟩
def mBn {xs ys:List D} (C:∀ o∈xs,isSt o) (ty:∀ o∈ys,isFu o) (w:xs.length<=3000) (F:ys.length<=3000) {f j u p:SL} (I:Sl h V f xs) (y:Sl h W j xs) (A:Sl h V u ys) (B:Sl h W p ys) (r:3001<=N):∃ h',f30 N (f,u,()) (j,p,()) h=some (true,h')/\Chg [] h h':=
 nBe (fun H c=>tBe C w I y r c) (fun H c=>vBe ty F A B r c)
end
end Qp
namespace Ai
def OwC (h:Heap) (s:SL) (n:Nat) (vs:List AV):Prop:=
 (s.a=none/\s.len=0/\s.cap=0/\vs=[])\/
 ∃ A cs st,s.a=some (A,0)/\s.sz=n/\A<h.next/\h.g A=some (.row cs st)/\vs.length=s.len * n/\cs.take vs.length=vs/\s.len<=s.cap/\(st=.grown\/(st=.own/\s.cap * n=cs.length))
section
variable {E:Env} {h h':Heap} {s:SL} {n:Nat} {vs:List AV} {M:List Nat}
theorem OwC.nil (h:Heap) (z n:Nat):OwC h ⟨none,0,0,z⟩ n []:=.inl ⟨rfl,rfl,rfl,rfl⟩
def OwC.len (x:OwC h s n vs):vs.length=s.len * n:=by
 rcases x with ⟨_,f,_,rfl⟩ | ⟨A,cs,st,_,_,_,_,f,_⟩
 ·simp [f]
 ·exact f
def OwC.lt (x:OwC h s n vs):∀ A,s.blk=some A->A<h.next:=by
 intro A j;rcases x with ⟨f,_⟩ | ⟨p,cs,st,f,_,r,_⟩
 ·simp [SL.blk,f] at j
 grind [SL.blk]
theorem OwC.chg (x:OwC h s n vs) (c:Chg M h h') (u:∀ A,s.blk=some A->A ∉ M:=by simp):OwC h' s n vs:=by
 rcases x with f | ⟨A,cs,st,f,r,j,p,w⟩
 ·exact .inl f
 ·exact .inr ⟨A,cs,st,f,r,xW j c.next,by rw [c.g A j (u A (by simp [SL.blk,f]))];exact p,w⟩
def OwC.sees (x:OwC h s n vs):Sees h s vs:=by
 rcases x with ⟨p,j,r,rfl⟩ | ⟨A,cs,st,p,j,r,u,w,F,B,y⟩
 ·exact ⟨by simp [j],fun _=>j,fun A off f=>by rw [p] at f;cases f⟩
 ·refine ⟨by rw [w,j],fun f=>(by rw [p] at f;cases f),fun C off f=>?_⟩
  rw [p] at f;simp only [xF,xI] at f;obtain ⟨rfl,rfl⟩:=f;refine ⟨r,cs,?_,by grind⟩;rw [u];rcases y with rfl | ⟨rfl,_⟩ <;> rfl
def OwC.cap (x:OwC h s n vs):s.len<=s.cap:=by
 rcases x with ⟨_,f,p,_⟩ | ⟨A,cs,st,w,f,p,r,y,u,j,B⟩
 ·omega
 ·exact j
def fAa {x:SL} {f:List AV} (r:Sees h x f) (j:x.len * n=f.length):yD h n x.len (.slice x.a x.len x.cap x.sz)=some f:=by
 have ⟨w,u,y⟩:=r
 cases p:x.a with
 | none=>
  have h0:=u p;rw [h0,Nat.zero_mul] at j
  have:f=[]:=List.length_eq_zero_iff.1 j.symm
  subst this;rfl
 | some q=>
  grind [List.length_take,yD,Heap.read,pAk,iI]
def gAd {st e:TypeId} {W:Nat} (ha:AppN E st e n W) {x:SL} {f:List AV} (Y:Sees h x f) (hz:x.len * n=f.length) (hv:∀ w∈f,AV.single w=true) (ho:OwC h s n vs) (hl:(s.len+x.len) * W<=1073741824) :
  ∃ I h',nB E st st (.slice s.a s.len s.cap s.sz) (.slice x.a x.len x.cap x.sz) h=some (.slice I.a I.len I.cap I.sz,h')/\OwC h' I n (vs++f)/\I.len=s.len+x.len/\Chg s.blk.toList h h'/\(∀ A,I.blk=some A->s.blk=some A\/h.next<=A):=by
 have ⟨hu,⟨i,hi,L,a7⟩,⟨z,R,a5⟩⟩:=ha;have j:=fAa Y hz
 by_cases hn:x.len=0
 ·have a0:f=[]:=List.length_eq_zero_iff.1 (by grind)
  subst a0;refine ⟨s,h,?_,by grind,by omega,(Chg.refl [] h).mono (by simp),fun A hA=>.inl hA⟩;rw [hn] at j;simp only [nB,hu,wS,bZ,xB,hi,R,iM,L,hn,j,show Nat.beq 0 0=true from rfl,xA]
 have a6:Nat.beq x.len 0=false:=by
  grind [Nat.beq,absurd,xK]
 have X:Nat.ble ((s.len+x.len) * (i.bytes+i.size+1)) bA3=true:=by
  have y:(s.len+x.len) * (i.bytes+i.size+1)<=(s.len+x.len) * W:=Nat.mul_le_mul (xD _) (by omega);simp only [bA3,Nat.ble_eq];omega
 have a2:(Nat.beq s.sz i.size||s.a.isNone)=true:=by
  rcases ho with ⟨y,_⟩ | ⟨A,cs,Q,y,V,_⟩
  ·simp [y]
  ·simp [L,V]
 have key:nB E st st (.slice s.a s.len s.cap s.sz) (.slice x.a x.len x.cap x.sz) h=jM h s.a s.len s.cap n x.len f:=by
  have a1:List.all f AV.single=true:=by grind
  have a4:Nat.beq z.cells.length i.size=true:=by simp_all
  have a3:Nat.beq f.length (x.len * i.size)=true:=by simp_all
  simp only [nB,hu,wS,bZ,xB,hi,R,iM]
  grind
 rw [key];rcases ho with ⟨y,V,h3,rfl⟩ | ⟨A,r,Q,y,V,h4,h5,h6,h7,h9,F⟩
 ·have c0:Chg [] h (h.push (.row f .grown)):=(Chg.refl [] h).push _
  refine ⟨⟨some (h.next,0),x.len,x.len,n⟩,_,by simp only [jM,y,V,xC],.inr ⟨h.next,f,.grown,rfl,rfl,by simp,iG _ rfl,by simp [hz],by simp,xD _,.inl rfl⟩,by show x.len=_;omega,c0.mono (by simp),fun A hA=>.inr (by simp [SL.blk] at hA;omega)⟩
 ·have u:s.blk=some A:=by simp [SL.blk,y]
  have a8:vs.length<=r.length:=by
   grind
  have hg:h.t.get A=some (.row r Q):=by unfold Heap.g at h5;exact h5
  have O:takeN (s.len * n) r=some vs:=by grind [iI]
  have p:(vs++f).length=(s.len+x.len) * n:=by grind
  have fresh:∀ H:Heap,H.next=h.next->OwC (H.push (.row (vs++f) .grown)) ⟨some (h.next,0),s.len+x.len,s.len+x.len,n⟩ n (vs++f):=fun H hH=>
   .inr ⟨h.next,vs++f,.grown,rfl,rfl,by simp [hH],iG _ hH.symm,p,List.take_of_length_le (xD _),xD _,.inl rfl⟩
  rcases F with rfl | ⟨rfl,F⟩
  ·have S:Chg [A] h (h.put A (.row r .dead)):=(Chg.refl [A] h).put (.inl (by simp)) _
   refine ⟨⟨some (h.next,0),s.len+x.len,s.len+x.len,n⟩,(h.put A (.row r .dead)).push (.row (vs++f) .grown),?_,fresh _ rfl,rfl,(S.push _).mono (by simp [u]),fun C K=>.inr (by simp [SL.blk] at K;omega)⟩
   grind [jM]
  ·by_cases U:s.len+x.len<=s.cap
   ·have J:Nat.ble (s.len+x.len) s.cap=true:=by simpa using U
    have B:s.len * n+f.length<=r.length:=by
     rw [<- hz,<- Nat.add_mul,<- F];exact Nat.mul_le_mul_right _ U
    have Z:=lA4 r f (s.len * n) B;have S:Chg [A] h (h.put A (.row (r.take (s.len * n)++f++r.drop (s.len * n+f.length)) .own)):=(Chg.refl [A] h).put (.inl (by simp)) _;have e1:r.take (s.len * n)=vs:=by rw [<- h6,h7]
    refine ⟨⟨some (A,0),s.len+x.len,s.cap,n⟩,_,?_,.inr ⟨A,_,.own,rfl,rfl,by simp;omega,jN _ rfl,p,?_,U,.inr ⟨rfl,?_⟩⟩,rfl,S.mono (by simp [u]),fun C K=>.inl (by simp [SL.blk] at K;rw [u,K])⟩
    ·simp only [jM,y,hg,List.drop_zero,O,J,xA,xC,Z]
    ·grind
    grind
   ·have J:Nat.ble (s.len+x.len) s.cap=false:=by
     cases Y:Nat.ble (s.len+x.len) s.cap
     ·rfl
     ·exact absurd (by simpa using Y) U
    have S:Chg [A] h h:=Chg.refl [A] h;refine ⟨⟨some (h.next,0),s.len+x.len,s.len+x.len,n⟩,h.push (.row (vs++f) .grown),?_,fresh _ rfl,rfl,(S.push _).mono (by simp [u]),fun C K=>.inr (by simp [SL.blk] at K;omega)⟩;simp only [jM,y,hg,List.drop_zero,O,J,xB]
end
end Ai
namespace Qp
def pU {h:Heap} {A:Nat} {cs:List AV} (x:h.own A cs) {j:Nat} {vs:List AV} (p:j+vs.length<=cs.length) {ds:List AV} (hd:cs.take j++vs++cs.drop (j+vs.length)=ds):h.store (A,j) vs=some (h.put A (.row ds .own)):=by
 have f:h.t.get A=some (.row cs .own):=x.1
 grind [Heap.store,Heap.rowW,lA4]
abbrev Fr0 (h:Heap) (C:Nat):Prop:=h.next<=C
section
variable {h h0:Heap} {V W:Nat->Prop}
def iAd:∀ {xs:List Bs} {vs:List AV} {n:Nat},De h V n (xs.map D.s) vs->vs=xs.map AV.str
 | [],vs,n,x=>by grind [De]
 | y::r,vs,n,x=>by
  simp only [List.map_cons,De,Dt] at x;obtain ⟨a,b,rfl,_,rfl,f⟩:=x;rw [iAd f];rfl
theorem nY (h:Heap) (V:Nat->Prop):∀ (xs:List Bs),De h V 1 (xs.map D.s) (xs.map AV.str)
 | []=>by simp [De]
 | y::r=>by
  simp only [List.map_cons,De,Dt];exact ⟨[.str y],r.map AV.str,rfl,rfl,rfl,nY h V r⟩
def iA6 {N:Nat} {s:SL} {xs:List Bs} (x:Sl h V s (xs.map D.s)) (I:xs.length<=3000):∃ v h',f115 N s h=some (v,h')/\Chg [] h h'/\Sl h' (Fr0 h) v (xs.map D.s):=by
 unfold f115;have ⟨p,r,C⟩:=x.els;have j:=iAd C;have f:=x.len;rw [xS] at f;have ⟨v,h',e,o,F,c,H⟩:=gAd (E:=E) iAh (h:=h) (s:=sl0) (vs:=[]) r (by grind) (by rw [j];intro w u;obtain ⟨y,_,rfl⟩:=List.mem_map.1 u;rfl) (OwC.nil h 0 1) (by grind);have e:nB E 38 38 yS0 (yL s) h=some (.slice v.a v.len v.cap v.sz,h'):=e;rw [e];have c:Chg [] h h':=c;refine ⟨v,h',rfl,c,?_,o.cap,fun A K=>?_,p,o.sees,?_⟩
 ·grind
 ·grind [SL.blk]
 ·rw [j]
  by_cases J:xs=[]
  ·grind [De]
  ·have:v.sz=1:=by
    rcases o with ⟨_,B,_⟩ | ⟨A,cs,st,_,B,_⟩
    ·grind
    omega
   grind [nY]
def qU {α:Type} {n k:Nat} {xs:List D} {L:Nat->SL->Int->Heap->Option (Out×α×Heap)} {fin:SL->α}
  (j:∀ (M i:Nat) (hi:i<xs.length) (out:SL) (h:Heap),OwV (Fr0 h0) h out n (xs.take i)->Chg [] h0 h->∃ f h',L (M+1) out (i:Int) h=L M f ((i+1:Nat):Int) h'/\OwV (Fr0 h0) h' f n (xs.take (i+1))/\Chg [] h0 h')
  (p:∀ M out h,L (M+1) out (xs.length:Int) h=some (.exit k,fin out,h)):∀ (M i:Nat) (out:SL) (h:Heap),i<=xs.length->xs.length-i<M->OwV (Fr0 h0) h out n (xs.take i)->Chg [] h0 h->∃ f h',L M out (i:Int) h=some (.exit k,fin f,h')/\OwV (Fr0 h0) h' f n xs/\Chg [] h0 h':=by
 intro M
 induction M with
 | zero=>omega
 | succ M A=>
  intro i out h hi B r u
  by_cases q:i<xs.length
  ·have ⟨f,h',e,y,w⟩:=j M i q out h r u
   grind
  grind
def jAi {st e:TypeId} {n B:Nat} (F:AppN E st e n B) (M:0<n) {out:SL} {xs:List D} {i:Nat} (hi:i<xs.length) (p:OwV (Fr0 h0) h out n (xs.take i)) (w:Chg [] h0 h) {H:Heap} (u:Chg [] h H) {cs:List AV} (hd:Dt H (Fr0 h) xs[i] cs) (j:cs.length=n) (O:(i+1) * B<=1073741824) :
  ∃ f h',(∀ {β:Type} (K:SL->Heap->Option β),tD (.val zJ3) (nB E st st (yL out) (.slice (some (H.next,0)) 1 1 n) (H.push (.row cs .own))) K=K f h')/\OwV (Fr0 h0) h' f n (xs.take (i+1))/\Chg [] h0 h':=by
 have I:=w.next;have y:=u.next;have o1:=p.chg u;have ⟨f,h',e,Q,J,_⟩:=eJ F M o1 (d:=xs[i]) (cs:=cs) (Dt.weak (fun C S O=>⟨by omega,fun r=>by have:=(p.ge C r).2;omega⟩) hd) j (fun A R=>by omega) (by grind);refine ⟨f,h',fun K=>by rw [e];rfl,by rw [List.take_succ_eq_append_getElem hi];exact Q,(w.trans u).step J fun A R L=>?_⟩;have r:out.blk=some A:=by grind
 have:=(p.ge A r).1
 omega
end
def oBt:AppN E 39 41 4 1000:=AppN.of (by kernel_rfl)
section
variable {N:Nat}
def aAn (hN:3001<=N):∀ (n M:Nat) (d:D) (r:TyV) (h:Heap) (V:Nat->Prop),n<=M->isTy n d->Dt h V d (tyc r)->∃ r' h',f117 N M r h=some (r',h')/\Chg [] h h'/\Dt h' (Fr0 h) d (tyc r'):=by
 intro n
 induction n with
 | zero=>intro M d r h V _ t;cases t
 | succ n ih=>
  intro M d r h V hM t x;obtain ⟨M,rfl⟩:∃ m,M=m+1:=⟨M-1,by omega⟩;obtain ⟨k,y,lv,el,rfl,a7,a9,I⟩:=t;have ⟨B,f,a3,y1,z1⟩:=yJ.1 x;have e1:=(wQ 1).inj a3;subst e1;rw [yAz];unfold wAz;dsimp only;have o1:=wA h (tyc (k,y,B,f,()));have c1:=uA h (.row (tyc (k,y,B,f,())) .own);have n1:(h.push (.row (tyc (k,y,B,f,())) .own)).next=h.next+1:=rfl;have e1:h.push (.row [(yI0 k),(.str y),(yL B),(yL f)] .own)=h.push (.row (tyc (k,y,B,f,())) .own):=rfl;rw [e1];generalize h.push (.row (tyc (k,y,B,f,())) .own)=j at *;have o2:=wA j zt;have c2:=uA j (.row zt .own);have n2:(j.push (.row zt .own)).next=j.next+1:=rfl;have e2:j.push (.row yZG .own)=j.push (.row zt .own):=rfl;rw [e2];have o1:=o1.chg c2;have Y:=c1.trans c2;generalize j.push (.row zt .own)=h2 at *;have k2:h2.cell (h.next,2)=some (SL.av B):=o1.cell 2;simp only [xC,k2,SL.av,dA,qA];have ⟨v,F,e5,c5,O⟩:=iA6 (N:=N) (y1.chg Y) (by omega);rw [e5,aA];have o1:=o1.chg c5;have o2:=o2.chg c5;have n5:=c5.next;have w:F.store (h.next,2) [(yL v)]=some (F.put h.next (.row (tyc (k,y,v,f,())) .own)):=pU o1 (show 2+1<=4 by decide) rfl;rw [w,fA];have c6:=o1.put (tyc (k,y,v,f,()));have U:Chg [] h (F.put h.next (.row (tyc (k,y,v,f,())) .own)):=(Y.trans c5).put (.inr (xD _)) _;have o2:=o2.chg c6 (by grind);have o1:=kB o1 (tyc (k,y,v,f,()));have O:=(O.weak (W:=fun C=>h.next+1<C) (fun C R _=>by omega)).chg c6 (by grind);have n6:(F.put h.next (.row (tyc (k,y,v,f,())) .own)).next=F.next:=rfl;generalize F.put h.next (.row (tyc (k,y,v,f,())) .own)=h6 at *;have k6:h6.cell (h.next,3)=some (SL.av f):=o1.cell 3;simp only [k6,SL.av,dA,qA];have z6:=z1.chg U;have ⟨out,u,J,a4,p⟩:=qU (h0:=h6) (n:=4) (k:=0) (xs:=el) (L:=fun Q out i H=>mA5 N (f117 N M) Q (some (h.next,0)) (some (j.next,0)) out f (el.length:Int) i H) (fin:=fun out=>(some (h.next,0),some (j.next,0),out,()))
   (fun Q i hi out H ho hc=>by
    have a2:ltInt (i:Int) (el.length:Int)=true:=by grind [qC,decide_eq_true]
    rw [dA0];unfold uW;rw [a2];dsimp only;rw [xA];have zH:=z6.chg hc;have ⟨q,g,d⟩:=(wQ n).elt zH hi (I _ (xR hi));rw [zH.ix hi 4,g,vZ];have ⟨Ha,pa,ca,oa⟩:=(wQ n).park (z:=zt) rfl H q;have a6:∀ {β:Type} (K:Heap->Option β),vA ((H.push (.row yZG .own)).store (H.next,0) (yRE q)) K=K Ha:=pa;rw [a6,kA9 oa];have ⟨q',Hb,eb,cb,db⟩:=ih M _ q Ha V (by omega) (I _ (xR hi)) (Dt.chg ca (by simp) d);have a1:f117 N M q Ha=some (q',Hb):=eb;rw [a1,aA];have ⟨s',h',ea,b1,b0⟩:=jAi oBt (by decide) hi ho hc (ca.trans cb) (cs:=tyc q') (Dt.weak (fun C R _=>by have:Ha.next<=C:=R;have:=ca.next;omega) db) rfl (by omega);have a5:∀ {β:Type} (K:SL->Heap->Option β),tD (.val zJ3) (nB E 39 39 (yL out) (.slice (some (Hb.next,0)) 1 1 4) (Hb.push (.row (yRE q') .own))) K=K s' h':=ea;rw [a5,iB (by omega)]
    grind)
   (fun Q out H=>by
    grind [dA0,uW,qC,decide_eq_false]) N 0 sl0 h6 (xc _) (by omega) (OwV.nil _ _ _ _) (Chg.refl _ _)
  rw [show ((0:Nat):Int)=0 from rfl] at J;show ∃ r' h',(rD (mA5 N (f117 N M) N (some (h.next,0)) (some (j.next,0)) sl0 f (Int.ofNat f.len) 0 h6) _)=_/\_;rw [show Int.ofNat f.len=(el.length:Int) by rw [z6.len];rfl,J,mB];simp only [fA,xC];have o1:=o1.chg p;have o2:=o2.chg p;have a8:=p.next;have w:u.store (h.next,3) [(yL out)]=some (u.put h.next (.row (tyc (k,y,v,out,())) .own)):=pU o1 (show 3+1<=4 by decide) rfl;rw [w,fA];have A:=o1.put (tyc (k,y,v,out,()));have a0:Chg [] h (u.put h.next (.row (tyc (k,y,v,out,())) .own)):=(U.trans p).put (.inr (xD _)) _;have o2:=o2.chg A (by grind);have o1:=kB o1 (tyc (k,y,v,out,()));have O:=(O.chg p).chg A (by grind);have so:=(a4.sl.weak (W:=fun C=>h.next+1<C) (fun C R _=>by omega)).chg A (by grind);generalize u.put h.next (.row (tyc (k,y,v,out,())) .own)=S at *;rw [kA9 o1];have Z:S.store (j.next,0) [(yI0 k),(.str y),(yL v),(yL out)]=some (S.put j.next (.row (tyc (k,y,v,out,())) .own)):=o2.store rfl;rw [Z,fA,kA9 (kB o2 (tyc (k,y,v,out,())))];have X:=o2.put (tyc (k,y,v,out,()));refine ⟨_,_,rfl,a0.put (.inr (by omega)) _,yJ.2 ⟨v,out,rfl,?_,?_⟩⟩
  ·exact (O.chg X (by grind)).weak fun C R _=>by omega
  ·exact (so.chg X (by grind)).weak fun C R _=>by omega
end
end Qp
namespace Qp
abbrev Hi (h:Heap) (C:Nat):Prop:=h.next+1<C
structure WR (h0 H:Heap) (cs1 cs2:List AV):Prop where
 o1:H.own h0.next cs1
 o2:H.own (h0.next+1) cs2
 c:Chg [] h0 H
 nx:h0.next+2<=H.next
section
variable {h0 H H':Heap} {cs1 cs2:List AV}
def WR.start (h:Heap) (cs1 cs2:List AV):WR h ((h.push (.row cs1 .own)).push (.row cs2 .own)) cs1 cs2:=
 ⟨(wA h cs1).chg (uA _ _),wA (h.push (.row cs1 .own)) cs2,(uA h _).trans (uA _ _),xD _⟩
def qB0 (h:Heap) (cs1 cs2:List AV):∃ f,(h.push (.row cs1 .own)).push (.row cs2 .own)=f/\(h.push (.row cs1 .own)).next=h.next+1/\WR h f cs1 cs2:=⟨_,rfl,rfl,WR.start h cs1 cs2⟩
def WR.call (w:WR h0 H cs1 cs2) (c:Chg [] H H'):WR h0 H' cs1 cs2:=⟨w.o1.chg c,w.o2.chg c,w.c.trans c,xT w.nx c.next⟩
def WR.set (w:WR h0 H cs1 cs2) {j:Nat} {vs ds:List AV} (h:j+vs.length<=cs1.length) (hd:cs1.take j++vs++cs1.drop (j+vs.length)=ds):∃ H',(∀ {β:Type} (K:Heap->Option β),vA (H.store (h0.next,j) vs) K=K H')/\WR h0 H' ds cs2/\Chg [h0.next] H H':=by
 have f:=w.o1.put ds;exact ⟨_,fun K=>by rw [pU w.o1 h hd,fA],⟨kB w.o1 ds,w.o2.chg f,w.c.put (.inr (xD _)) _,w.nx⟩,f⟩
def WR.hi (w:WR h0 H cs1 cs2) {d:D} {cs:List AV} (x:Dt H' (Fr0 H) d cs):Dt H' (Hi h0) d cs:=Dt.weak (fun C f _=>by have:H.next<=C:=f;have:=w.nx;omega) x
def WR.hiS (w:WR h0 H cs1 cs2) {s:SL} {xs:List D} (x:Sl H' (Fr0 H) s xs):Sl H' (Hi h0) s xs:=x.weak (fun C f _=>by have:H.next<=C:=f;have:=w.nx;omega)
def rJ {d:D} {cs:List AV} (c:Chg [h0.next] H H') (x:Dt H (Hi h0) d cs):Dt H' (Hi h0) d cs:=Dt.chg c (by grind) x
def rU {s:SL} {xs:List D} (c:Chg [h0.next] H H') (x:Sl H (Hi h0) s xs):Sl H' (Hi h0) s xs:=x.chg c (by grind)
def uAq {d:D} {cs:List AV} (c:Chg [h0.next+1] H H') (x:Dt H (Hi h0) d cs):Dt H' (Fr0 h0) d cs:=Dt.weak (fun C f _=>by omega) (Dt.chg c (by grind) x)
def jA6 {s:SL} {xs:List D} (c:Chg [h0.next+1] H H') (x:Sl H (Hi h0) s xs):Sl H' (Fr0 h0) s xs:=(x.chg c (by grind)).weak (fun C f _=>by omega)
def WR.fin {f:List CTy} {n:Nat} {c:tP f->List AV} {P:D->Prop} (R:Rec f n c P) {r r0:tP f} (w:WR h0 H (c r) (c r0)):∃ H',(∀ {β:Type} (K:tP f->Heap->Option β),(iA (.val (.agg f)) (H.cells (h0.next,0) n) fun x=>vA (H.store (h0.next+1,0) (c x)) fun h'=>iA (.val (.agg f)) (h'.cells (h0.next+1,0) n) fun y=>K y h')=K r H')/\Chg [h0.next+1] H H'/\Chg [] h0 H':=by
 have h:H.store (h0.next+1,0) (c r)=some (H.put (h0.next+1) (.row (c r) .own)):=w.o2.store (by rw [R.len,R.len]);refine ⟨_,fun K=>?_,w.o2.put (c r),w.c.put (.inr (Nat.le_succ _)) _⟩;rw [R.cells w.o1,h,fA,R.cells (kB w.o2 (c r))]
end
section
variable {N:Nat} {h:Heap} {V:Nat->Prop}
def bAn {d:D} (t:isLf d) {p:LfV} (x:Dt h V d (lfc p)):∃ u h',f167 N p h=some (u,h')/\Chg [] h h'/\Dt h' (Fr0 h) d (lfc u):=by
 obtain ⟨nm,xs,rfl,U⟩:=t;have ⟨s,J,y⟩:=pM x;have e:=qM.inj J;subst e;unfold f167;have ⟨r,O,H,w⟩:=qB0 h [(.str nm),(yL s)] yZI;have w:WR h r (lfc (nm,s,())) (lfc lf0):=w;dsimp only;rw [O,H];have F:r.cell (h.next,1)=some (SL.av s):=w.o1.cell 1;simp only [xC,F,SL.av,dA,qA];have ⟨v,S,B,L,A⟩:=iA6 (N:=N) (y.chg w.c) (by omega);show ∃ u h',(jA (f115 N s r) _)=_/\_;rw [B,aA];have A:=w.hiS A;have ⟨W,M,C,Q⟩:=(w.call L).set (j:=1) (vs:=[(yL v)]) (show 1+1<=2 by decide) (ds:=lfc (nm,v,())) rfl;rw [M];have ⟨I,K,R,f⟩:=WR.fin qM (r0:=lf0) C;exact ⟨(nm,v,()),I,K (fun y h'=>some (y,h')),f,qQ (jA6 R (rU Q A))⟩
def jAd {d:D} (t:isOp d) {r:OpV} (x:Dt h V d (opc r)):∃ r' h',f169 N r h=some (r',h')/\Chg [] h h'/\Dt h' (Fr0 h) d (opc r'):=by
 obtain ⟨k,n,pl,rfl,F⟩:=t;have ⟨p,O,y⟩:=jA0 F x;have e:=qS.inj O;subst e;unfold f169;have ⟨C,U,K,w⟩:=qB0 h [(yI0 k),(yI0 n),(.str p.1),(yL p.2.1)] yZH;have w:WR h C (opc (k,n,p.1,p.2.1,())) (opc fE):=w;dsimp only;rw [U,K];have J:C.cells (h.next,2) 2=some (.agg (lfc p)):=w.o1.cells (j:=2) (m:=2) (show 2+2<=4 by decide)
 try simp only [xC]
 rw [J,eA1];have ⟨f,L,H,R,A⟩:=bAn (N:=N) F (Dt.chg w.c (by simp) y);have u:f167 N (p.1,p.2.1,()) C=some (f,L):=H;rw [u,aA];have A:=w.hi A;have ⟨Y,S,I,W⟩:=(w.call R).set (j:=2) (vs:=(yRH f)) (show 2+2<=4 by decide) (ds:=opc (k,n,f.1,f.2.1,())) rfl;rw [S];have ⟨M,Q,X,B⟩:=WR.fin qS (r0:=fE) I;exact ⟨_,M,Q (fun y h'=>some (y,h')),B,uAt (uAq X (rJ W A))⟩
def rB0 (hN:3001<=N) {p:List D} (t:∀ f∈p,isFd f) (hl:p.length<=3000) {s:SL} (x:Sl h V s p):∃ v h',f116 N s h=some (v,h')/\Chg [] h h'/\Sl h' (Fr0 h) v p:=by
 unfold f116;have ⟨out,a0,w,J,S⟩:=qU (h0:=h) (n:=6) (k:=0) (xs:=p) (L:=fun Q out i H=>mAc N Q out s (p.length:Int) i H) (fin:=fun out=>(out,()))
  (fun Q i hi out H ho hc=>by
   have R:ltInt (i:Int) (p.length:Int)=true:=by grind [qC,decide_eq_true]
   rw [eA0];unfold vW;rw [R];dsimp only;rw [xA];have Z:=x.chg hc;have tm:=t _ (xR hi);have ⟨q,g,d⟩:=iA1.elt Z hi tm;rw [Z.ix hi 6,g,aBm];have ⟨m,nm,ty,hf,ht⟩:=tm;rw [hf] at d;have ⟨r,I,dr⟩:=dAa ht d;have e:=iA1.inj I;subst e;have ⟨u,pa,W,F⟩:=iA1.park (z:=fdc fd0) rfl H (iU m nm r);have X:∀ {β:Type} (K:Heap->Option β),vA ((H.push (.row yZD .own)).store (H.next,0) [(.bool m),(.str nm),(yI0 r.1),(.str r.2.1),(yL r.2.2.1),(yL r.2.2.2.1)]) K=K u:=pa;dsimp only [iU];rw [X];have k2:u.cells (H.next,0+2) 4=some (.agg (tyc r)):=F.cells (j:=2) (m:=4) (show 2+4<=6 by decide);rw [k2,vZ];have ⟨r',y,eb,cb,M⟩:=aAn hN 65 N ty r u V (by omega) ht (Dt.chg W (by simp) dr);have B:f117 N N r u=some (r',y):=eb;rw [B,aA];have U:=F.chg cb;have O:y.store (H.next,0+2) (yRE r')=some (y.put H.next (.row (fdc (iU m nm r')) .own)):=pU U (show 2+4<=6 by decide) rfl;rw [O,fA];have cp:=U.put (fdc (iU m nm r'));have M:=Dt.chg cp (by intro A hA;simp;have:u.next<=A:=hA;have:=F.2;omega) M;have cc:Chg [] H (y.put H.next (.row (fdc (iU m nm r')) .own)):=(W.trans cb).put (.inr (xD _)) _;have oc:=kB U (fdc (iU m nm r'));generalize y.put H.next (.row (fdc (iU m nm r')) .own)=Hc at *;rw [bAq oc];have ⟨s',h',ea,a2,a1⟩:=jAi bBd (by decide) hi ho hc cc (cs:=fdc (iU m nm r')) (by rw [hf];exact aBd (Dt.weak (fun C hC _=>by have:u.next<=C:=hC;have:=W.next;omega) M)) rfl (by omega);have Y:∀ {β:Type} (K:SL->Heap->Option β),tD (.val zJ3) (nB E 37 37 (yL out) (.slice (some (Hc.next,0)) 1 1 6) (Hc.push (.row [(.bool m),(.str nm),(yI0 r'.1),(.str r'.2.1),(yL r'.2.2.1),(yL r'.2.2.2.1)] .own))) K=K s' h':=ea;dsimp only [iU];rw [Y,iB (by omega)]
   grind)
  (fun Q out H=>by
   grind [eA0,vW,qC,decide_eq_false]) N 0 sl0 h (xc _) (by omega) (OwV.nil _ _ _ _) (Chg.refl _ _)
 rw [show ((0:Nat):Int)=0 from rfl] at w;rw [show Int.ofNat s.len=(p.length:Int) by rw [x.len];rfl,w,mB];exact ⟨_,_,rfl,S,J.sl⟩
def nBn (hN:3001<=N) {d:D} (t:isSt d) {r:StV} (x:Dt h V d (stc r)):∃ r' h',f76 N r h=some (r',h')/\Chg [] h h'/\Dt h' (Fr0 h) d (stc r'):=by
 obtain ⟨pub,nm,lv,fs,a,rfl,hl,hf,tf⟩:=t;have ⟨H,B,Y,y,z⟩:=iA0 x;have e:=pS.inj Y;subst e;unfold f76;have ⟨L,e2,W,w⟩:=qB0 h [(.bool pub),(.str nm),(yL H),(yL B),(yI0 a)] yZF;have w:WR h L (stc (pub,nm,H,B,a,())) (stc st0):=w;dsimp only;rw [e2,W];have U:L.cell (h.next,2)=some (SL.av H):=w.o1.cell 2;simp only [xC,U,SL.av,dA,qA];have ⟨v,h5,S,c5,C⟩:=iA6 (N:=N) (y.chg w.c) (by omega);show ∃ p' h',(jA (f115 N H L) _)=_/\_;rw [S,aA];have C:=w.hiS C;have ⟨R,p6,F,c6⟩:=(w.call c5).set (j:=2) (vs:=[(yL v)]) (show 2+1<=5 by decide) (ds:=stc (pub,nm,v,B,a,())) rfl;rw [p6];have C:=rU c6 C;have k6:R.cell (h.next,3)=some (SL.av B):=F.o1.cell 3;simp only [k6,SL.av,dA,qA];have ⟨u,h9,X,Q,M⟩:=rB0 hN tf (by omega) (z.chg F.c);show ∃ p' h',(jA (f116 N B R) _)=_/\_;rw [X,aA];have M:=F.hiS M;have ⟨Z,J,K,p⟩:=(F.call Q).set (j:=3) (vs:=[(yL u)]) (show 3+1<=5 by decide) (ds:=stc (pub,nm,v,u,a,())) rfl;rw [J];have ⟨I,O,A,f⟩:=WR.fin pS (r0:=st0) K;exact ⟨_,I,O (fun y h'=>some (y,h')),f,iAc (jA6 A (rU p (C.chg Q))) (jA6 A (rU p M))⟩
end
end Qp
namespace Qp
abbrev MP:=Heap->(Nat->Prop)->SL->List D->Prop
structure MeP (M:MP) (h:Heap) (S:Nat->Prop) (r:SmR) (ty pl va co:D) (th el:List D) (S0 S1 S2:Nat->Prop):Prop where
 ty:Dt h S0 ty (tyc r.ty)
 pl:Dt h S0 pl (lfc r.pl)
 va:Dt h S0 va (vac r.va)
 co:Dt h S0 co (opc r.co)
 th:M h S1 r.th th
 el:M h S2 r.el el
 i0:∀ C,S0 C->S C
 i1:∀ C,S1 C->S C
 i2:∀ C,S2 C->S C
 d01:∀ C,S0 C->¬ S1 C
 d02:∀ C,S0 C->¬ S2 C
 d12:∀ C,S1 C->¬ S2 C
def Me (M:MP) (h:Heap) (S:Nat->Prop) (c:List AV) (x:D):Prop:=
 ∃ (r:SmR) (ty pl va co:D) (th el:List D) (f j p:Nat->Prop),x=smT r.k r.at_ r.m r.nm ty r.has pl va co th el/\c=smc r/\MeP M h S r ty pl va co th el f j p
def Ml (M:MP) (h:Heap):(Nat->Prop)->List AV->List D->Prop
 | _,vs,[]=>vs=[]
 | S,vs,x::r=>∃ c rest f j,vs=c++rest/\Me M h f c x/\Ml M h j rest r/\(∀ C,f C->S C)/\(∀ C,j C->S C)/\∀ C,f C->¬ j C
def Mt:Nat->MP
 | 0=>fun _ _ s xs=>xs=[]/\s.a=none/\s.len=0/\s.cap=0
 | n+1=>fun h S s xs=>∃ vs,OwC h s 32 vs/\(∀ A,s.blk=some A->S A)/\Ml (Mt n) h (fun C=>S C/\s.blk≠some C) vs xs
section
variable {M:MP} {h h':Heap} {S W:Nat->Prop} {c vs:List AV} {x:D} {xs:List D} {L:List Nat}
def wBe (M:MP):Prop:=∀ (h h':Heap) (S:Nat->Prop) (s:SL) (xs:List D) (L:List Nat),Chg L h h'->(∀ A,S A->A ∉ L)->M h S s xs->M h' S s xs
def nB6 (M:MP):Prop:=∀ (h:Heap) (S W:Nat->Prop) (s:SL) (xs:List D),(∀ C,S C->C<h.next->W C)->M h S s xs->M h W s xs
theorem Me.chg (k:wBe M) (f:Chg L h h') (hd:∀ A,S A->A ∉ L) (e:Me M h S c x):Me M h' S c x:=by
 have ⟨r,ty,pl,va,co,th,el,w,F,y,B,C,p⟩:=e;have u:∀ A,w A->A ∉ L:=fun A j=>hd A (p.i0 A j);exact ⟨r,ty,pl,va,co,th,el,w,F,y,B,C,⟨Dt.chg f u p.ty,Dt.chg f u p.pl,Dt.chg f u p.va,Dt.chg f u p.co,k _ _ _ _ _ _ f (fun A j=>hd A (p.i1 A j)) p.th,k _ _ _ _ _ _ f (fun A j=>hd A (p.i2 A j)) p.el,p.i0,p.i1,p.i2,p.d01,p.d02,p.d12⟩⟩
theorem Me.weak (k:nB6 M) (y:∀ C,S C->C<h.next->W C) (e:Me M h S c x):Me M h W c x:=by
 have ⟨r,ty,pl,va,co,th,el,w,J,B,F,H,p⟩:=e;have u:∀ A,w A->A<h.next->(w A/\A<h.next):=fun A I j=>⟨I,j⟩;exact ⟨r,ty,pl,va,co,th,el,fun C=>w C/\C<h.next,fun C=>J C/\C<h.next,fun C=>B C/\C<h.next,F,H,⟨Dt.weak u p.ty,Dt.weak u p.pl,Dt.weak u p.va,Dt.weak u p.co,k _ _ _ _ _ (fun C f j=>⟨f,j⟩) p.th,k _ _ _ _ _ (fun C f j=>⟨f,j⟩) p.el,
  fun C f=>y C (p.i0 C f.1) f.2,fun C f=>y C (p.i1 C f.1) f.2,fun C f=>y C (p.i2 C f.1) f.2,fun C a b=>p.d01 C a.1 b.1,fun C a b=>p.d02 C a.1 b.1,fun C a b=>p.d12 C a.1 b.1⟩⟩
theorem Ml.chg (k:wBe M) (u:Chg L h h'):∀ {xs:List D} {vs:List AV} {S:Nat->Prop},(∀ A,S A->A ∉ L)->Ml M h S vs xs->Ml M h' S vs xs
 | [],vs,S,hd,e=>e
 | x::r,vs,S,hd,⟨c,rest,F,w,y,B,C,j,p,H⟩=>⟨c,rest,F,w,y,B.chg k u (fun A f=>hd A (j A f)),Ml.chg k u (fun A f=>hd A (p A f)) C,j,p,H⟩
theorem Ml.weak (k:nB6 M):∀ {xs:List D} {vs:List AV} {S W:Nat->Prop},(∀ C,S C->C<h.next->W C)->Ml M h S vs xs->Ml M h W vs xs
 | [],vs,S,W,hd,e=>e
 | x::r,vs,S,W,p,⟨c,rest,H,u,y,B,F,w,A,I⟩=>⟨c,rest,fun C=>H C/\C<h.next,fun C=>u C/\C<h.next,y,B.weak k (fun C f j=>⟨f,j⟩),Ml.weak k (fun C f j=>⟨f,j⟩) F,fun C f=>p C (w C f.1) f.2,fun C f=>p C (A C f.1) f.2,fun C a b=>I C a.1 b.1⟩
def Ml.len:∀ {xs:List D} {vs:List AV} {S:Nat->Prop},Ml M h S vs xs->vs.length=xs.length * 32
 | [],vs,S,e=>by rw [show vs=[] from e];rfl
 | x::r,vs,S,⟨c,rest,w,y,p,j,u,_⟩=>by
  have ⟨r',_,_,_,_,_,_,_,_,_,_,f,_⟩:=j
  have:=Ml.len u
  rw [p,xN,this,f,xJ];show 32+_=_;omega
def Ml.snoc (k:nB6 M) {T:Nat->Prop}:∀ {xs:List D} {vs:List AV} {S:Nat->Prop},Ml M h S vs xs->Me M h T c x->(∀ C,S C->¬ T C)->Ml M h (fun C=>S C\/T C) (vs++c) (xs++[x])
 | [],vs,S,e,m,hd=>by
  rw [show vs=[] from e];exact ⟨c,[],T,fun _=>False,by simp,m,rfl,fun C f=>.inr f,fun C f=>f.elim,fun C _ B=>B⟩
 | y::r,vs,S,⟨c1,rest,H,u,J,w,A,j,p,I⟩,m,hd=>by
  have F:=Ml.snoc k A m (fun C f=>hd C (p C f));refine ⟨c1,rest++c,H,fun C=>u C\/T C,by grind,w,F,fun C f=>.inl (j C f),fun C f=>f.elim (fun q=>.inl (p C q)) .inr,fun C a b=>b.elim (I C a) (hd C (j C a))⟩
end
theorem Mt.chg:∀ n,wBe (Mt n)
 | 0=>fun _ _ _ _ _ _ j hd e=>e
 | n+1=>by
  intro h h' S s xs L j hd e;have ⟨vs,o,p,m⟩:=e;exact ⟨vs,o.chg j (fun A f=>hd A (p A f)),p,m.chg (Mt.chg n) j (fun A f=>hd A f.1)⟩
theorem Mt.weak:∀ n,nB6 (Mt n)
 | 0=>fun _ _ _ _ _ f e=>e
 | n+1=>by
  intro h S W s xs f e;have ⟨vs,o,r,m⟩:=e;exact ⟨vs,o,fun A j=>f A (r A j) (o.lt A j),m.weak (Mt.weak n) (fun C p u=>⟨f C p.1 u,p.2⟩)⟩
def tJ {h:Heap} {V:Nat->Prop} {r:SmR} {ty pl va co:D} {th el:List D} (f:Dt h V ty (tyc r.ty)) (p:Dt h V pl (lfc r.pl)) (u:Dt h V va (vac r.va)) (y:Dt h V co (opc r.co)) (w:Sl h V r.th th) (j:Sl h V r.el el):Dt h V (smT r.k r.at_ r.m r.nm ty r.has pl va co th el) (smc r):=
 yB3 ⟨[yI0 r.k],_,rfl,tAt _ _ _,[yI0 r.at_],_,rfl,tAt _ _ _,[.bool r.m],_,rfl,aB9 _ _ _,[.str r.nm],_,rfl,tK _ _ _,tyc r.ty,_,rfl,f,[.bool r.has],_,rfl,aB9 _ _ _,lfc r.pl,_,rfl,p,vac r.va,_,rfl,u,opc r.co,_,rfl,y,[SL.av r.th],_,rfl,kN.2 w,[SL.av r.el],[],rfl,kN.2 j,rfl⟩
def Mt.sl:∀ (n:Nat) {h:Heap} {S:Nat->Prop} {s:SL} {xs:List D},Mt n h S s xs->Sl h S s xs
 | 0,h,S,s,xs,⟨H,B,F,w⟩=>by
  subst H;exact ⟨F,by omega,fun A hA=>by grind [SL.blk],[],⟨by grind,fun _=>F,fun A off U=>by grind⟩,by simp [De]⟩
 | n+1,h,S,s,xs,⟨vs,o,M,m⟩=>by
  have Z:=m.len;have Y:=o.len;have hz:xs≠[]->s.sz=32:=fun I=>by
   rcases o with ⟨_,B,_,rfl⟩ | ⟨A,cs,st,_,B,_⟩
   ·grind
   omega
  have O:∀ {ys:List D} {j:List AV} {T:Nat->Prop},(∀ C,T C->S C)->Ml (Mt n) h T j ys->De h S 32 ys j:=by
   intro ys
   induction ys with
   | nil=>intro j T _ e;rw [show j=[] from e];simp [De]
   | cons y r Q=>
    intro j T u ⟨c,rest,S1,W,H,B,F,w,L,h6⟩;have ⟨q,ty,pl,va,co,th,el,R,V,X,K,J,p⟩:=B;have i0:∀ C,R C->C<h.next->S C:=fun C f _=>u C (w C (p.i0 C f));simp only [De];refine ⟨c,rest,H,by rw [J];rfl,?_,Q (fun C f=>u C (L C f)) F⟩;rw [K,J];exact tJ (Dt.weak i0 p.ty) (Dt.weak i0 p.pl) (Dt.weak i0 p.va) (Dt.weak i0 p.co) ((Mt.sl n p.th).weak fun C f _=>u C (w C (p.i1 C f))) ((Mt.sl n p.el).weak fun C f _=>u C (w C (p.i2 C f)))
  have d:=O (fun C f=>f.1) m;refine ⟨by omega,o.cap,M,vs,o.sees,?_⟩
  by_cases I:xs=[]
  ·grind [De]
  grind
def eH:Nat->D->D
 | n+1,.t [k,_,m,nm,ty,f,pl,va,co,.l th,.l el]=>.t [k,.i 0,m,nm,ty,f,pl,va,co,.l (th.map (eH n)),.l (el.map (eH n))]
 | _,d=>d
theorem kA6 (n:Nat) (k a:Int) (m:Bool) (nm:Bs) (ty:D) (f:Bool) (pl va co:D) (th el:List D):eH (n+1) (smT k a m nm ty f pl va co th el)=smT k 0 m nm ty f pl va co (th.map (eH n)) (el.map (eH n)):=rfl
def OwC.set {h:Heap} {s:SL} {n:Nat} {vs:List AV} (o:OwC h s n vs) {A off:Nat} (p:s.a=some (A,off)) {j:Nat} (M:j<vs.length) (v:AV):∃ h',h.store (A,off+j) [v]=some h'/\OwC h' s n (vs.set j v)/\Chg [A] h h'/\h'.next=h.next:=by
 rcases o with ⟨r,_⟩ | ⟨f,cs,st,r,y,F,K,L,I,C,w⟩
 ·grind
 ·rw [r] at p
  simp only [xF,xI] at p;obtain ⟨rfl,rfl⟩:=p;have J:vs.length<=cs.length:=by
   grind
  have H:h.t.get f=some (.row cs st):=by grind [Heap.g]
  have u:over j cs [v]=some (cs.set j v):=by
   rw [lA4 cs [v] j (by grind)];simp only [xJ,xZ,xF];rw [List.set_eq_take_append_cons_drop,if_pos (by omega)];simp
  have B:Chg [f] h (h.put f (.row (cs.set j v) st)):=(Chg.refl [f] h).put (.inl (by simp)) _;refine ⟨h.put f (.row (cs.set j v) st),?_,.inr ⟨f,cs.set j v,st,r,y,F,jN _ rfl,by grind,?_,C,?_⟩,B,rfl⟩
  ·rcases w with rfl | ⟨rfl,_⟩ <;> simp only [Heap.store,Heap.rowW,H,xC,u]
  ·rw [List.length_set,List.take_set,I]
  grind
theorem OwC.cell {h:Heap} {s:SL} {n:Nat} {vs:List AV} (o:OwC h s n vs) {A off:Nat} (f:s.a=some (A,off)) {j:Nat} (H:j<vs.length):h.cell (A,off+j)=vs[j]?:=by
 rcases o with ⟨p,_⟩ | ⟨r,cs,st,p,B,F,u,y,I,C,w⟩
 ·grind
 ·rw [p] at f
  simp only [xF,xI] at f;obtain ⟨rfl,rfl⟩:=f;have e:h.cell (r,0+j)=cs[j]?:=by
   rw [xC,Heap.cell_g,jA4,u];rcases w with rfl | ⟨rfl,_⟩ <;> rfl
  grind
end Qp
namespace Qp
def nA2 {α:Type} {k len:Nat} {L:Nat->SL->Int->Heap->Option (Out×α×Heap)} {fin:SL->α} {Inv:Nat->SL->Heap->Prop}
  (j:∀ (M i:Nat) (hi:i<len) (out:SL) (h:Heap),Inv i out h->∃ f h',L (M+1) out (i:Int) h=L M f ((i+1:Nat):Int) h'/\Inv (i+1) f h')
  (p:∀ M out h,L (M+1) out (len:Int) h=some (.exit k,fin out,h)):∀ (M i:Nat) (out:SL) (h:Heap),i<=len->len-i<M->Inv i out h->∃ f h',L M out (i:Int) h=some (.exit k,fin f,h')/\Inv len f h':=by
 intro M
 induction M with
 | zero=>omega
 | succ M w=>
  intro i out h hi y r
  by_cases q:i<len
  ·have ⟨f,h',e,u⟩:=j M i q out h r
   grind
  grind
def oBn:Rec [(.int .i64),(.int .i64),(.int .i64),.str,.slice,(.int .i64),(.int .i64),.str,.slice,(.int .i64),.str,.slice,.str,.slice,.slice] 15 vac isVa:=⟨fun _=>rfl,fun r K=>fAf r K,fun t x=>mB0 t x⟩
def eG (cs:List AV):jB (some (.agg cs)) (.agg cs)=true:=jC _
section
variable {N:Nat} {h:Heap} {V:Nat->Prop}
def yBe (hN:3001<=N) {d:D} (t:isVa d) {q:VaV} (x:Dt h V d (vac q)):∃ r' h',f168 N q h=some (r',h')/\Chg [] h h'/\Dt h' (Fr0 h) d (vac r'):=by
 obtain ⟨k,a,b,op,pl,nm,ns,ag,rfl,ta,tb,tp,hn,hg,tg⟩:=t;have ⟨ra,J,A,s1,s2,hc,xa,xb,xp,y,z⟩:=gP ta tb tp x;have e:=oBn.inj hc;subst e;unfold f168;have ⟨h2,e2,n2,w⟩:=qB0 h [(yI0 k),(yI0 ra.1),(yI0 ra.2.1),(.str ra.2.2.1),(yL ra.2.2.2.1),(yI0 J.1),(yI0 J.2.1),(.str J.2.2.1),(yL J.2.2.2.1),(yI0 op),(.str A.1),(yL A.2.1),(.str nm),(yL s1),(yL s2)] yZB;have w:WR h h2 (vac (nE k ra J op A nm s1 s2)) (vac va0):=w;dsimp only [nE];rw [e2,n2];have k1:h2.cells (h.next,1) 4=some (.agg (opc ra)):=w.o1.cells (j:=1) (m:=4) (show 1+4<=15 by decide)
 try simp only [xC]
 rw [k1,kY];have ⟨f,h5,e5,c5,r⟩:=jAd (N:=N) ta (Dt.chg w.c (by simp) xa);have c0:f169 N ra h2=some (f,h5):=e5;rw [c0,aA];have w5:=w.call c5;have r:=w.hi r;have k2:h2.cells (h.next,5) 4=some (.agg (opc J)):=w.o1.cells (j:=5) (m:=4) (show 5+4<=15 by decide);have k5:h5.cells (h.next,5) 4=some (.agg (opc J)):=w5.o1.cells (j:=5) (m:=4) (show 5+4<=15 by decide);rw [k5,kY];have ⟨p,h8,e8,c8,u⟩:=jAd (N:=N) tb (Dt.chg w5.c (by simp) xb);have c2:f169 N J h5=some (p,h8):=e8;rw [c2,aA];have w8:=w5.call c8;have u:=w5.hi u;have r:=Dt.chg c8 (by simp) r;have g2:h2.cells (h.next,10) 2=some (.agg (lfc A)):=w.o1.cells (j:=10) (m:=2) (show 10+2<=15 by decide);have g5:h5.cells (h.next,10) 2=some (.agg (lfc A)):=w5.o1.cells (j:=10) (m:=2) (show 10+2<=15 by decide);have g8:h8.cells (h.next,10) 2=some (.agg (lfc A)):=w8.o1.cells (j:=10) (m:=2) (show 10+2<=15 by decide);rw [g8,eA1];have ⟨F,c4,d0,a1,W⟩:=bAn (N:=N) tp (Dt.chg w8.c (by simp) xp);have a3:f167 N (A.1,A.2.1,()) h8=some (F,c4):=d0;rw [a3,aA];have b2:=w8.call a1;have W:=w8.hi W;have r:=Dt.chg a1 (by simp) r;have u:=Dt.chg a1 (by simp) u;have ⟨d7,d6,b4,a2⟩:=b2.set (j:=1) (vs:=(yRD f)) (show 1+4<=15 by decide) (ds:=vac (nE k f J op A nm s1 s2)) rfl;rw [d6];have ⟨d9,b1,c7,a0⟩:=b4.set (j:=5) (vs:=(yRD p)) (show 5+4<=15 by decide) (ds:=vac (nE k f p op A nm s1 s2)) rfl;rw [b1];have ⟨a5,c9,R,Y⟩:=c7.set (j:=10) (vs:=(yRH F)) (show 10+2<=15 by decide) (ds:=vac (nE k f p op F nm s1 s2)) rfl;rw [c9];have r:=rJ Y (rJ a0 (rJ a2 r));have u:=rJ Y (rJ a0 (rJ a2 u));have W:=rJ Y (rJ a0 (rJ a2 W));have q1:jB (some (.agg (lfc A))) (.agg (yRH A))=true:=eG _;have q2:jB (some (.agg (opc J))) (.agg (yRD J))=true:=eG _;have q3:jB (some (.agg (opc ra))) (.agg (yRD ra))=true:=eG _;simp only [g2,g5,k2,q1,q2,q3,xA,yB];have c3:a5.cell (h.next,13)=some (SL.av s1):=R.o1.cell 13;simp only [c3,SL.av,dA,qA];have ⟨v,e6,b6,X,Z⟩:=iA6 (N:=N) (y.chg R.c) (by omega);show ∃ p' h',(jA (f115 N s1 a5) _)=_/\_;rw [b6,aA];have b5:=R.call X;have Z:=R.hiS Z;have ⟨U,a8,S,O⟩:=b5.set (j:=13) (vs:=[(yL v)]) (show 13+1<=15 by decide) (ds:=vac (nE k f p op F nm v s2)) rfl;rw [a8];have r:=rJ O (Dt.chg X (by simp) r);have u:=rJ O (Dt.chg X (by simp) u);have W:=rJ O (Dt.chg X (by simp) W);have Z:=rU O Z;have d4:U.cell (h.next,14)=some (SL.av s2):=S.o1.cell 14;simp only [d4,SL.av,dA,qA];have a7:=z.chg S.c;have ⟨out,e1,a6,b8,B⟩:=qU (h0:=U) (n:=4) (k:=0) (xs:=ag) (L:=fun Q out i H=>pA5 N Q (some (h.next,0)) (some (h.next+1,0)) out s2 (ag.length:Int) i H) (fin:=fun out=>(some (h.next,0),some (h.next+1,0),out,()))
  (fun Q i hi out H ho hc=>by
   have b3:ltInt (i:Int) (ag.length:Int)=true:=by grind [qC,decide_eq_true]
   rw [fA0];unfold wW;rw [b3];dsimp only;rw [xA];have zH:=a7.chg hc;have ⟨q,g,d⟩:=qS.elt zH hi (tg _ (xR hi));rw [zH.ix hi 4,g,kY];have ⟨Ha,pa,ca,oa⟩:=qS.park (z:=opc fE) rfl H q;have d5:∀ {β:Type} (K:Heap->Option β),vA ((H.push (.row yZH .own)).store (H.next,0) (yRD q)) K=K Ha:=pa;rw [d5,bB9 oa];have ⟨q',Hb,eb,cb,u⟩:=jAd (N:=N) (tg _ (xR hi)) (Dt.chg ca (by simp) d);have a9:f169 N q Ha=some (q',Hb):=eb;rw [a9,aA];have ⟨s',h',ea,e3,e4⟩:=jAi kAz (by decide) hi ho hc (ca.trans cb) (cs:=opc q') (Dt.weak (fun C hC _=>by have:Ha.next<=C:=hC;have:=ca.next;omega) u) rfl (by omega);have c6:∀ {β:Type} (K:SL->Heap->Option β),tD (.val zJ3) (nB E 102 102 (yL out) (.slice (some (Hb.next,0)) 1 1 4) (Hb.push (.row (yRD q') .own))) K=K s' h':=ea;rw [c6,iB (by omega)]
   grind)
  (fun Q out H=>by
   grind [fA0,wW,qC,decide_eq_false]) N 0 sl0 U (xc _) (by omega) (OwV.nil _ _ _ _) (Chg.refl _ _)
 rw [show ((0:Nat):Int)=0 from rfl] at a6;show ∃ r' h',(rD (pA5 N N (some (h.next,0)) (some (h.next+1,0)) sl0 s2 (Int.ofNat s2.len) 0 U) _)=_/\_;rw [show Int.ofNat s2.len=(ag.length:Int) by rw [a7.len];rfl,a6,mB];simp only [fA,xC];have so:=S.hiS b8.sl;have r:=Dt.chg B (by simp) r;have u:=Dt.chg B (by simp) u;have W:=Dt.chg B (by simp) W;have Z:=Z.chg B;have ⟨d8,b0,d3,I⟩:=(S.call B).set (j:=14) (vs:=[(yL out)]) (show 14+1<=15 by decide) (ds:=vac (nE k f p op F nm v out)) rfl;rw [b0];have ⟨b7,b9,M,a4⟩:=WR.fin oBn (r0:=va0) d3;exact ⟨_,b7,b9 (fun y h'=>some (y,h')),a4,jP (uAq M (rJ I r)) (uAq M (rJ I u)) (uAq M (rJ I W)) (jA6 M (rU I Z)) (jA6 M (rU I so))⟩
end
end Qp
namespace Qp
structure W1 (h0 H:Heap) (cs:List AV):Prop where
 o:H.own h0.next cs
 c:Chg [] h0 H
 nx:h0.next+1<=H.next
section
variable {h0 H H':Heap} {cs:List AV}
def W1.call (w:W1 h0 H cs) (c:Chg [] H H'):W1 h0 H' cs:=⟨w.o.chg c,w.c.trans c,xT w.nx c.next⟩
def W1.set (w:W1 h0 H cs) {j:Nat} {vs ds:List AV} (f:j+vs.length<=cs.length) (hd:cs.take j++vs++cs.drop (j+vs.length)=ds):∃ H',(∀ {β:Type} (K:Heap->Option β),vA (H.store (h0.next,j) vs) K=K H')/\W1 h0 H' ds/\Chg [h0.next] H H'/\H'.next=H.next:=
 ⟨_,fun K=>by rw [pU w.o f hd,fA],⟨kB w.o ds,w.c.put (.inr (xD _)) _,w.nx⟩,w.o.put ds,rfl⟩
end
def tB0 (h:Heap) (cs:List AV) (n:Nat) (j:cs.length=n):Sees (h.push (.row cs .own)) ⟨some (h.next,0),1,1,n⟩ cs:=
 ⟨by grind,fun f=>(by cases f),fun A off f=>by
  simp only [xF,xI] at f;obtain ⟨rfl,rfl⟩:=f;exact ⟨xP _,cs,by rw [iG _ rfl];rfl,by grind⟩⟩
def StInv (n:Nat) (h0:Heap) (xs:List D) (i:Nat) (out:SL) (H:Heap):Prop:=Chg [] h0 H/\∃ vs,OwC H out 32 vs/\out.len=i/\(∀ A,out.blk=some A->h0.next<=A)/\Ml (Mt n) H (fun C=>h0.next<=C/\C<H.next/\out.blk≠some C) vs (xs.take i)
def StInv.app {n:Nat} {h0 H h:Heap} {xs:List D} {i:Nat} {out:SL} (inv:StInv n h0 xs i out H) (hi:i<xs.length) (J:xs.length<=3000) (L:Chg [] H h) {c:List AV} (U:c.length=32) (R:∀ w∈c,AV.single w=true) (m:Me (Mt n) h (fun C=>H.next<=C/\C<h.next) c xs[i]) :
  ∃ f h',(∀ {β:Type} (K:SL->Heap->Option β),tD (.val zJ3) (nB E 42 42 (yL out) (.slice (some (h.next,0)) 1 1 32) (h.push (.row c .own))) K=K f h')/\StInv n h0 xs (i+1) f h':=by
 have ⟨F,vs,o,B,hb,W⟩:=inv;have a0:=F.next;have O:=L.next;have I:=uA h (.row c .own);have np:(h.push (.row c .own)).next=h.next+1:=rfl;have p:=L.trans I;have ⟨f,h',e,o',M,r,y⟩:=gAd eBm (tB0 h c 32 U) (by grind) R (o.chg p (by simp)) (by grind);have Y:=r.next;refine ⟨f,h',fun K=>by rw [e];rfl,(F.trans p).step r (fun A u X=>?_),vs++c,o',by grind,fun A u=>?_,?_⟩
 ·grind
 ·grind
 ·have Z:Ml (Mt n) h' (fun C=>h0.next<=C/\C<H.next/\out.blk≠some C) vs (xs.take i):=(W.chg (Mt.chg n) p (by simp)).chg (Mt.chg n) r (fun A u hm=>u.2.2 (by grind))
  have V:Me (Mt n) h' (fun C=>H.next<=C/\C<h.next) c xs[i]:=(m.chg (Mt.chg n) I (by simp)).chg (Mt.chg n) r (fun A u hm=>by
   have j:out.blk=some A:=by grind
   have:=o.lt A j;omega)
  have m3:=Z.snoc (Mt.weak n) V (fun C a b=>by omega);rw [List.take_succ_eq_append_getElem hi];refine m3.weak (Mt.weak n) (fun C S J=>?_)
  rcases S with ⟨a1,Q,a3⟩ | ⟨a1,Q⟩
  ·grind
  ·exact ⟨by omega,J,fun j=>by rcases y C j with q | q;(have:=o.lt C q;omega);omega⟩
section
variable {N:Nat}
def aBf (hN:3001<=N):∀ (n M:Nat) (xs:List D) (s:SL) (h:Heap) (V:Nat->Prop),n+1<=M->(∀ x∈xs,gA0 n x)->xs.length<=3000->Sl h V s xs->∃ v h',f118 N M s h=some (v,h')/\Chg [] h h'/\Mt n h' (Fr0 h) v xs:=by
 intro n
 induction n with
 | zero=>
  intro M xs s h V hM t hl x;obtain ⟨M,rfl⟩:∃ m,M=m+1:=⟨M-1,by omega⟩;have hx:xs=[]:=by
   cases xs with
   | nil=>rfl
   | cons y r=>cases t y (by simp)
  subst hx;rw [dAi];unfold mAq;obtain ⟨N,rfl⟩:∃ m,N=m+1:=⟨N-1,by omega⟩;have hz:Int.ofNat s.len=0:=by rw [x.len];rfl
  rw [hz,vQ];unfold uQ;have a3:ltInt 0 0=false:=rfl;rw [a3];exact ⟨sl0,h,rfl,Chg.refl _ _,rfl,rfl,rfl,rfl⟩
 | succ n ih=>
  intro M xs s h V hM t hl x;obtain ⟨M,rfl⟩:∃ m,M=m+1:=⟨M-1,by omega⟩;rw [dAi];unfold mAq;have ⟨out,f8,b3,d0,vs,d6,h5,g3,b4⟩:=nA2 (k:=0) (len:=xs.length) (L:=fun Q out i H=>nAc N (f118 N M) Q out s (xs.length:Int) i H) (fin:=fun out=>(out,())) (Inv:=StInv n h xs)
   (fun Q i hi out H inv=>by
    have a3:ltInt (i:Int) (xs.length:Int)=true:=by grind [qC,decide_eq_true]
    rw [vQ];unfold uQ;rw [a3];dsimp only;rw [xA];have zH:=x.chg inv.1;have tm:=t _ (xR hi);have ⟨q,g,d⟩:=(rM (n+1)).elt zH hi tm;rw [zH.ix hi 32,g,kL];have ⟨k,a,m,nm,ty,B,pl,va,co,th,el,hx,t1,t2,t3,t4,c2,e5,t5,t6⟩:=tm;rw [hx] at d;have ⟨r,p,v,o,s1,s2,d7,dr,dp,dv,dO,dth,del⟩:=fX t1 t2 t3 t4 d;have e:=(rM 1).inj d7;subst e;have ⟨Y,pa,ca,oa⟩:=(rM 1).park (z:=smx (smv (aF 0))) rfl H (smv ⟨k,a,m,nm,r,B,p,v,o,s1,s2⟩);have g5:∀ {β:Type} (K:Heap->Option β),vA ((H.push (.row yZA .own)).store (H.next,0) [(yI0 k),(yI0 a),(.bool m),(.str nm),(yI0 r.1),(.str r.2.1),(yL r.2.2.1),(yL r.2.2.2.1),(.bool B),(.str p.1),(yL p.2.1),(yI0 v.1),(yI0 v.2.1),(yI0 v.2.2.1),(.str v.2.2.2.1),(yL v.2.2.2.2.1),(yI0 v.2.2.2.2.2.1),(yI0 v.2.2.2.2.2.2.1),(.str v.2.2.2.2.2.2.2.1),(yL v.2.2.2.2.2.2.2.2.1),(yI0 v.2.2.2.2.2.2.2.2.2.1),(.str v.2.2.2.2.2.2.2.2.2.2.1),(yL v.2.2.2.2.2.2.2.2.2.2.2.1),(.str v.2.2.2.2.2.2.2.2.2.2.2.2.1),(yL v.2.2.2.2.2.2.2.2.2.2.2.2.2.1),(yL v.2.2.2.2.2.2.2.2.2.2.2.2.2.2.1),(yI0 o.1),(yI0 o.2.1),(.str o.2.2.1),(yL o.2.2.2.1),(yL s1),(yL s2)]) K=K Y:=pa;dsimp only [smv];rw [g5];have w:W1 H Y (smc ⟨k,a,m,nm,r,B,p,v,o,s1,s2⟩):=⟨oa,ca,oa.2⟩
    try simp only [xC]
    have a4:Y.cells (H.next,4) 4=some (.agg (tyc r)):=w.o.cells (j:=4) (m:=4) (show 4+4<=32 by decide);rw [a4,vZ];have ⟨r',Hb,eb,cb,db⟩:=aAn hN 65 N ty r Y V (by omega) t1 (Dt.chg ca (by simp) dr);have c4:f117 N N r Y=some (r',Hb):=eb;rw [c4,aA];have wb:=w.call cb;have b9:Hb.cells (H.next,9) 2=some (.agg (lfc p)):=wb.o.cells (j:=9) (m:=2) (show 9+2<=32 by decide);have a9:Y.cells (H.next,9) 2=some (.agg (lfc p)):=w.o.cells (j:=9) (m:=2) (show 9+2<=32 by decide);rw [b9,eA1];have ⟨O,Hc,ec,cc,dc⟩:=bAn (N:=N) t2 (Dt.chg wb.c (by simp) dp);have c8:f167 N (p.1,p.2.1,()) Hb=some (O,Hc):=ec;rw [c8,aA];have wc:=wb.call cc;have e6:Y.cells (H.next,11) 15=some (.agg (vac v)):=w.o.cells (j:=11) (m:=15) (show 11+15<=32 by decide);have e4:Hb.cells (H.next,11) 15=some (.agg (vac v)):=wb.o.cells (j:=11) (m:=15) (show 11+15<=32 by decide);have e8:Hc.cells (H.next,11) 15=some (.agg (vac v)):=wc.o.cells (j:=11) (m:=15) (show 11+15<=32 by decide);rw [e8,fAf];have ⟨f,Hd,ed,cd,dd⟩:=yBe hN t3 (Dt.chg wc.c (by simp) dv);have c5:f168 N v Hc=some (f,Hd):=ed;rw [c5,aA];have wd:=wc.call cd;have e1:Y.cells (H.next,26) 4=some (.agg (opc o)):=w.o.cells (j:=26) (m:=4) (show 26+4<=32 by decide);have f9:Hb.cells (H.next,26) 4=some (.agg (opc o)):=wb.o.cells (j:=26) (m:=4) (show 26+4<=32 by decide);have f3:Hc.cells (H.next,26) 4=some (.agg (opc o)):=wc.o.cells (j:=26) (m:=4) (show 26+4<=32 by decide);have c6:Hd.cells (H.next,26) 4=some (.agg (opc o)):=wd.o.cells (j:=26) (m:=4) (show 26+4<=32 by decide);rw [c6,kY];have ⟨J,He,ee,ce,de⟩:=jAd (N:=N) t4 (Dt.chg wd.c (by simp) dO);have e9:f169 N o Hd=some (J,He):=ee;rw [e9,aA];have we:=wd.call ce;have ⟨i6,c3,f2,d9,i5⟩:=we.set (j:=4) (vs:=(yRE r')) (show 4+4<=32 by decide) (ds:=smc ⟨k,a,m,nm,r',B,p,v,o,s1,s2⟩) rfl;rw [c3];have ⟨h4,c7,f4,g2,h7⟩:=f2.set (j:=9) (vs:=(yRH O)) (show 9+2<=32 by decide) (ds:=smc ⟨k,a,m,nm,r',B,O,v,o,s1,s2⟩) rfl;rw [c7];have ⟨i3,d5,d8,e2,h9⟩:=f4.set (j:=11) (vs:=(yRB f)) (show 11+15<=32 by decide) (ds:=smc ⟨k,a,m,nm,r',B,O,f,o,s1,s2⟩) rfl;rw [d5];have ⟨F,g4,Z,c9,h6⟩:=d8.set (j:=26) (vs:=(yRD J)) (show 26+4<=32 by decide) (ds:=smc ⟨k,a,m,nm,r',B,O,f,J,s1,s2⟩) rfl;rw [g4];have q1:jB (some (.agg (tyc r))) (.agg (yRE r))=true:=eG _;have q2:jB (some (.agg (lfc p))) (.agg (yRH p))=true:=eG _;have q3:jB (some (.agg (vac v))) (.agg (yRB v))=true:=eG _;have q4:jB (some (.agg (opc o))) (.agg (yRD o))=true:=eG _;simp only [a9,e6,e4,e1,f9,f3,q1,q2,q3,q4,xA,yB];have c0:F.cell (H.next,30)=some (SL.av s1):=Z.o.cell 30;have b5:F.cell (H.next,31)=some (SL.av s2):=Z.o.cell 31;simp only [c0,SL.av,dA,qA];have ⟨R,I,e7,a6,f0⟩:=ih M th s1 F V (by omega) t5 c2 (dth.chg Z.c);have b7:f118 N M s1 F=some (R,I):=e7;rw [b7,aA];have a7:=Z.call a6;have a2:I.cell (H.next,31)=some (SL.av s2):=a7.o.cell 31;simp only [a2,SL.av,dA,qA];have ⟨W,a8,d4,a0,g6⟩:=ih M el s2 I V (by omega) t6 e5 (del.chg a7.c);have b6:f118 N M s2 I=some (W,a8):=d4;rw [b6,aA];have f7:=a7.call a0;have ⟨h8,g0,d3,b8,g8⟩:=f7.set (j:=30) (vs:=[(yL R)]) (show 30+1<=32 by decide) (ds:=smc ⟨k,a,m,nm,r',B,O,f,J,R,s2⟩) rfl;rw [g0];have ⟨u,e3,b2,b0,g9⟩:=d3.set (j:=31) (vs:=[(yL W)]) (show 31+1<=32 by decide) (ds:=smc ⟨k,a,m,nm,r',B,O,f,J,R,W⟩) rfl;rw [e3];have q5:jB (some (SL.av s2)) (SL.av s2)=true:=jC _;have q6:jB (some (SL.av s1)) (SL.av s1)=true:=jC _;have q7:(bif (jB (I.cell (H.next,31)) (yL s2)) then (bif (jB (F.cell (H.next,31)) (yL s2)) then (bif (jB (F.cell (H.next,30)) (yL s1)) then true else false) else false) else false)=true:=by
     grind [jB,SL.av]
    simp only [SL.av] at q7 b5 c0 a2
    first | rw [q7,yB] | simp only [b5,jC,xA,yB]
    have f1:u.own H.next (smx (smv ⟨k,a,m,nm,r',B,O,f,J,R,W⟩)):=b2.o;rw [qAz f1];have nb:=cb.next;have nc:=cc.next;have nd:=cd.next;have ne:=ce.next;have na:=w.nx;have i4:=a6.next;have i7:=a0.next;have g1:Chg [H.next] He u:=(((((d9.trans g2).trans e2).trans c9).trans ((a6.trans a0).mono (by simp))).trans b8).trans b0;have f5:=(cc.trans cd).trans ce;have a1:∀ {X:Heap} {d:D} {cs:List AV} {L:Heap},Dt X (Fr0 L) d cs->Y.next<=L.next->X.next<=He.next->Chg [] X He->Dt u (fun C=>Y.next<=C/\C<He.next) d cs:=fun {X d cs L} y h1 h2 h3=>
     Dt.chg g1 (by grind) (Dt.chg h3 (by simp) (Dt.weak (fun C S hl=>⟨xT h1 S,xW hl h2⟩) y))
    have yr:=a1 db (xD _) (by omega) f5;have yp:=a1 dc (by omega) (by omega) (cd.trans ce);have yv:=a1 dd (by omega) (by omega) ce;have yo:=a1 de (by omega) (by omega) (Chg.refl _ _);have U:Chg [H.next] a8 u:=b8.trans b0;have y1:Mt n u (fun C=>F.next<=C/\C<I.next) R th:=Mt.chg n _ _ _ _ _ _ U (by grind) (Mt.chg n _ _ _ _ _ _ a0 (by simp) (Mt.weak n _ _ _ _ _ (fun C S hl=>⟨S,hl⟩) f0));have y2:Mt n u (fun C=>I.next<=C/\C<a8.next) W el:=Mt.chg n _ _ _ _ _ _ U (by grind) (Mt.weak n _ _ _ _ _ (fun C S hl=>⟨S,hl⟩) g6);have me:Me (Mt n) u (fun C=>H.next<=C/\C<u.next) (smc ⟨k,a,m,nm,r',B,O,f,J,R,W⟩) xs[i]:=by
     rw [hx];exact ⟨⟨k,a,m,nm,r',B,O,f,J,R,W⟩,ty,pl,va,co,th,el,_,_,_,rfl,rfl,⟨yr,yp,yv,yo,y1,y2,fun C S=>by omega,fun C S=>by omega,fun C S=>by omega,fun C a b=>by omega,fun C a b=>by omega,fun C a b=>by omega⟩⟩
    have a5:∀ w∈smc ⟨k,a,m,nm,r',B,O,f,J,R,W⟩,AV.single w=true:=by
     have ds:Dt u (fun _=>True) (smT k a m nm ty B pl va co th el) (smc ⟨k,a,m,nm,r',B,O,f,J,R,W⟩):=tJ (Dt.weak (fun _ _ _=>trivial) yr) (Dt.weak (fun _ _ _=>trivial) yp) (Dt.weak (fun _ _ _=>trivial) yv) (Dt.weak (fun _ _ _=>trivial) yo) ((Mt.sl n y1).weak fun _ _ _=>trivial) ((Mt.sl n y2).weak fun _ _ _=>trivial);exact ds.single
    have ⟨b1,h',ea,g7⟩:=inv.app hi hl b2.c rfl a5 me;have f6:∀ {β:Type} (K:SL->Heap->Option β),tD (.val zJ3) (nB E 42 42 (yL out) (.slice (some (u.next,0)) 1 1 32) (u.push (.row [(yI0 k),(yI0 a),(.bool m),(.str nm),(yI0 r'.1),(.str r'.2.1),(yL r'.2.2.1),(yL r'.2.2.2.1),(.bool B),(.str O.1),(yL O.2.1),(yI0 f.1),(yI0 f.2.1),(yI0 f.2.2.1),(.str f.2.2.2.1),(yL f.2.2.2.2.1),(yI0 f.2.2.2.2.2.1),(yI0 f.2.2.2.2.2.2.1),(.str f.2.2.2.2.2.2.2.1),(yL f.2.2.2.2.2.2.2.2.1),(yI0 f.2.2.2.2.2.2.2.2.2.1),(.str f.2.2.2.2.2.2.2.2.2.2.1),(yL f.2.2.2.2.2.2.2.2.2.2.2.1),(.str f.2.2.2.2.2.2.2.2.2.2.2.2.1),(yL f.2.2.2.2.2.2.2.2.2.2.2.2.2.1),(yL f.2.2.2.2.2.2.2.2.2.2.2.2.2.2.1),(yI0 J.1),(yI0 J.2.1),(.str J.2.2.1),(yL J.2.2.2.1),(yL R),(yL W)] .own))) K=K b1 h':=ea;dsimp only [smv];rw [f6,iB (by omega)]
    grind)
   (fun Q out H=>by
    rw [vQ];unfold uQ
    grind [qC,decide_eq_false]) N 0 sl0 h (xc _) (by omega) ⟨Chg.refl _ _,[],OwC.nil _ _ _,rfl,fun A hA=>by grind [SL.blk],rfl⟩
  rw [show ((0:Nat):Int)=0 from rfl] at b3;rw [show Int.ofNat s.len=(xs.length:Int) by rw [x.len];rfl,b3,mB];rw [List.take_length] at b4;exact ⟨out,f8,rfl,d0,vs,d6,g3,b4.weak (Mt.weak n) (fun C S _=>⟨S.1,S.2.2⟩)⟩
end
end Qp
namespace Qp
section
variable {N:Nat}
def bBf {s:SL} {A off i n:Nat} (f:s.a=some (A,off)):s.at i n=(A,off+i * n):=by simp [SL.at,f]
def uB0 {α:Type} {pre c rest:List α} {i j:Nat} (f:pre.length=i) (h:j<c.length):(pre++(c++rest))[i+j]? = c[j]?:=by
 grind
def cBf {α:Type} {pre c rest:List α} {i j:Nat} (f:pre.length=i) (h:j<c.length) (v:α):(pre++(c++rest)).set (i+j) v=pre++(c.set j v++rest):=by
 grind
def ZI (n:Nat) (h:Heap) (S:Nat->Prop) (s:SL) (xs:List D) (i:Nat) (_:SL) (H:Heap):Prop:=
 ∃ p,Chg p h H/\(∀ A∈p,S A)/\H.next=h.next/\∃ pre rest j f,OwC H s 32 (pre++rest)/\pre.length=i * 32/\Ml (Mt n) H j pre ((xs.take i).map (eH (n+1)))/\Ml (Mt n) H f rest (xs.drop i)/\(∀ C,j C->S C/\s.blk≠some C)/\(∀ C,f C->S C/\s.blk≠some C)/\∀ C,j C->¬ f C
def pBn (hN:3001<=N):∀ (n M:Nat) (xs:List D) (s:SL) (h:Heap) (S:Nat->Prop),n+1<=M->(∀ x∈xs,gA0 n x)->xs.length<=3000->Mt n h S s xs->∃ L h',f78 N M s h=some ((),h')/\Chg L h h'/\(∀ A∈L,S A)/\h'.next=h.next/\Mt n h' S s (xs.map (eH n)):=by
 intro n
 induction n with
 | zero=>
  intro M xs s h S hM t hl m;obtain ⟨M,rfl⟩:∃ m,M=m+1:=⟨M-1,by omega⟩;obtain ⟨hx,h2,V,h4⟩:=m;subst hx;rw [oAq];unfold eB6;obtain ⟨N,rfl⟩:∃ m,N=m+1:=⟨N-1,by omega⟩;rw [show Int.ofNat s.len=0 by grind,lU];unfold yW;have J:ltInt 0 0=false:=rfl;rw [J];exact ⟨[],h,rfl,Chg.refl _ _,by simp,rfl,rfl,h2,V,h4⟩
 | succ n ih=>
  intro M xs s h S hM t hl m;obtain ⟨M,rfl⟩:∃ m,M=m+1:=⟨M-1,by omega⟩;obtain ⟨vs,o,hb,ml⟩:=m;have d7:=ml.len;have c6:=o.len;have e1:s.len=xs.length:=by omega
  rw [oAq];unfold eB6;obtain ⟨out,b2,a0,Lb,cL,bL,b1,pre,rest,Sd,Sr,Z,pl,md,U,i1,i2,dj⟩:=nA2 (k:=0) (len:=xs.length) (L:=fun Q _ i H=>nAq N (f78 N M) Q s (xs.length:Int) i H) (fin:=fun _=>()) (Inv:=ZI n h S s xs)
   (fun Q i hi out H inv=>by
    obtain ⟨Lb,cL,bL,nL,pre,rest,Sd,Sr,Z,pl,md,U,i1,i2,dj⟩:=inv;have J:ltInt (i:Int) (xs.length:Int)=true:=by grind [qC,decide_eq_true]
    rw [lU];unfold yW;rw [J];dsimp only;rw [xA];rw [List.drop_eq_getElem_cons hi] at U;obtain ⟨c,w,S1,S2,hc,me,U,j1,j2,b4⟩:=U;subst hc;obtain ⟨r,ty,a6,va,co,th,el,T0,T1,T2,hx,a5,p⟩:=me;subst a5;have tm:=t _ (xR hi);rw [hx] at tm;obtain ⟨k',a',m',c2,c9,c8,c4,d5,c5,d6,d4,b5,t1,t2,t3,t4,a1,a8,t5,t6⟩:=tm;have ex:=b5;simp only [smT,D.t.injEq,List.cons.injEq,D.l.injEq,and_true] at ex;obtain ⟨_,_,_,_,_,_,_,_,_,b3,c0⟩:=ex;subst b3 c0;obtain ⟨A,I⟩:∃ A,s.a=some (A,0):=by
     rcases Z with ⟨q1,q2,_⟩ | ⟨A,cs,st,q1,_⟩
     ·omega
     grind
    have a9:s.blk=some A:=by simp [SL.blk,I]
    have hA:S A:=hb A a9;have y:s.a.isSome=true:=by grind
    have R:i<s.len:=by omega
    have d0:(smc r).length=32:=rfl;have nA:∀ C,Sd C\/S1 C\/S2 C->C≠A:=fun C f e=>by
     grind
    rw [iA4 y R,bBf I];obtain ⟨V,e3,o3,c3,n3⟩:=OwC.set (h:=H) (s:=s) (n:=32) (vs:=pre++(smc r++w)) Z I (j:=i * 32+1) (by grind) (.int .i64 0);have b6:H.store (A,0+i * 32+1) [(.int .i64 0)]=some V:=by omega
    rw [b6,fA,iA4 y R,bBf I];rw [cBf pl (by omega)] at o3;have b9:(smc r).set 1 (.int .i64 0)=smc { r with at_:=0 }:=rfl;rw [b9] at o3;have hk:∀ {X:Heap},OwC X s 32 (pre++(smc { r with at_:=0 }++w))->X.cell (A,0+i * 32+30)=some (SL.av r.th)/\X.cell (A,0+i * 32+31)=some (SL.av r.el):=fun {X} oX=>by
     constructor
     ·rw [Nat.add_assoc,OwC.cell oX I (by grind),uB0 pl (show 30<32 by decide)];rfl
     ·rw [Nat.add_assoc,OwC.cell oX I (by grind),uB0 pl (show 31<32 by decide)];rfl
    simp only [(hk o3).1,SL.av,dA,qA];have m3:Mt n V T1 r.th th:=Mt.chg n _ _ _ _ _ _ c3 (fun C f=>by simp;exact nA C (.inr (.inl (p.i1 C f)))) p.th;obtain ⟨L1,h7,e7,c7,b7,n7,m7⟩:=ih M th r.th V T1 (by omega) t5 a1 m3;have a2:f78 N M r.th V=some ((),h7):=e7;rw [a2,aA];have e4:∀ C∈L1,S1 C:=fun C f=>p.i1 C (b7 C f);have o7:=o3.chg c7 (fun C f F=>by grind);rw [iA4 y R,bBf I];simp only [(hk o7).2,SL.av,dA,qA];have a7:Mt n h7 T2 r.el el:=Mt.chg n _ _ _ _ _ _ c7 (fun C f F=>p.d12 C (b7 C F) f) (Mt.chg n _ _ _ _ _ _ c3 (fun C f=>by simp;exact nA C (.inr (.inl (p.i2 C f)))) p.el);obtain ⟨W,B,b8,O,K,d8,a4⟩:=ih M el r.el h7 T2 (by omega) t6 a8 a7;have Y:f78 N M r.el h7=some ((),B):=b8;rw [Y,aA,iB (by omega)];have d9:∀ C∈W,S1 C:=fun C f=>p.i2 C (K C f);have e5:=o7.chg O (fun C f F=>by grind);have u:Chg (A::(L1++W)) H B:=((c3.mono (by simp)).trans (c7.mono (by grind))).trans (O.mono (by grind));have off:∀ C,(Sd C\/S2 C\/T0 C)->C ∉ A::(L1++W):=fun C f F=>by
     simp only [List.mem_cons,List.mem_append] at F;have e2:C≠A:=nA C (f.elim .inl fun q=>q.elim (fun q=>.inr (.inr q)) fun q=>.inr (.inl (p.i0 C q)));rcases F with q | q | q
     ·omega
     ·rcases f with z | z | z
      ·grind
      ·grind
      ·exact p.d01 C z (b7 C q)
     ·rcases f with z | z | z
      ·grind
      ·grind
      ·exact p.d02 C z (K C q)
    have q0:∀ C,T0 C->C ∉ A::(L1++W):=fun C f=>off C (.inr (.inr f));have a3:Me (Mt n) B S1 (smc { r with at_:=0 }) (eH (n+1) xs[i]):=by
     rw [hx,kA6];exact ⟨{ r with at_:=0 },ty,a6,va,co,th.map (eH n),el.map (eH n),T0,T1,T2,rfl,rfl,⟨Dt.chg u q0 p.ty,Dt.chg u q0 p.pl,Dt.chg u q0 p.va,Dt.chg u q0 p.co,Mt.chg n _ _ _ _ _ _ O (fun C f F=>p.d12 C f (K C F)) m7,a4,p.i0,p.i1,p.i2,p.d01,p.d02,p.d12⟩⟩
    have d3:=(md.chg (Mt.chg n) u (fun C f=>off C (.inl f))).snoc (Mt.weak n) a3 (fun C a b=>dj C a (j1 C b));have b0:=U.chg (Mt.chg n) u (fun C f=>off C (.inr (.inl f)));refine ⟨out,B,rfl,Lb++(A::(L1++W)),(cL.mono (by grind)).trans (u.mono (fun C f=>xg _ f)),fun C f=>?_,by omega,pre++smc { r with at_:=0 },w,fun C=>Sd C\/S1 C,S2,by grind,by grind,?_,b0,fun C f=>f.elim (i1 C) (fun q=>i2 C (j1 C q)),fun C f=>i2 C (j2 C f),fun C a b=>a.elim (fun q=>dj C q (j2 C b)) (fun q=>b4 C q b)⟩
    ·grind
    grind [List.take_succ_eq_append_getElem])
   (fun Q out H=>by
    grind [lU,yW,qC,decide_eq_false]) N 0 sl0 h (xc _) (by omega) ⟨[],Chg.refl _ _,by simp,rfl,[],vs,fun _=>False,fun C=>S C/\s.blk≠some C,o,by simp,rfl,ml,fun C f=>f.elim,fun C f=>f,fun C f=>f.elim⟩
  rw [show ((0:Nat):Int)=0 from rfl] at a0;rw [show Int.ofNat s.len=(xs.length:Int) by grind,a0,mB];rw [List.drop_length] at U;rw [show rest=[] from U,List.append_nil] at Z;rw [List.take_length] at md;exact ⟨Lb,b2,rfl,cL,bL,b1,pre,Z,hb,md.weak (Mt.weak n) (fun C f _=>i1 C f)⟩
end
end Qp
namespace Qp
section
variable {N:Nat} {h:Heap} {V:Nat->Prop}
def WR.btw {h0 H f:Heap} {j p:List AV} (w:WR h0 H j p) {d:D} {cs:List AV} (x:Dt f (Fr0 H) d cs):Dt f (fun C=>h0.next+1<C/\C<f.next) d cs:=Dt.weak (fun C u r=>⟨by have:H.next<=C:=u;have:=w.nx;omega,r⟩) x
def WR.btwS {h0 H f:Heap} {j p:List AV} (w:WR h0 H j p) {s:SL} {xs:List D} (x:Sl f (Fr0 H) s xs):Sl f (fun C=>h0.next+1<C/\C<f.next) s xs:=x.weak (fun C u r=>⟨by have:H.next<=C:=u;have:=w.nx;omega,r⟩)
def vB0 (hN:3001<=N) {lv:List D} (t:∀ l∈lv,isLf l) (hl:lv.length<=3000) {s:SL} (x:Sl h V s lv) (j v2:zH3):∃ v h',vA9 N N j v2 sl0 s (lv.length:Int) 0 h=some (.exit 0,(j,v2,v,()),h')/\Chg [] h h'/\Sl h' (Fr0 h) v lv:=by
 have ⟨out,B,F,A,J⟩:=qU (h0:=h) (n:=2) (k:=0) (xs:=lv) (L:=fun Q out i H=>vA9 N Q j v2 out s (lv.length:Int) i H) (fin:=fun out=>(j,v2,out,()))
  (fun Q i hi out H ho W=>by
   have I:ltInt (i:Int) (lv.length:Int)=true:=by grind [qC,decide_eq_true]
   rw [rA5];unfold jA2;rw [I]
   try dsimp only
   rw [xA];have S:=x.chg W;have Z:=t _ (xR hi);have ⟨q,g,d⟩:=qM.elt S hi Z;rw [S.ix hi 2,g,eA1];have ⟨nm,xs,Y,hx⟩:=Z;rw [Y] at d;have ⟨s1,w,y⟩:=pM d;have e:=qM.inj w;subst e;have ⟨f,pa,M,u⟩:=qM.park (z:=lfc lf0) rfl H (nm,s1,());have O:∀ {β:Type} (K:Heap->Option β),vA ((H.push (.row yZI .own)).store (H.next,0) [(.str nm),(yL s1)]) K=K f:=pa
   try dsimp only
   rw [O];have k0:f.cell (H.next,0)=some (.str nm):=u.cell 0;have k1:f.cell (H.next,1)=some (SL.av s1):=u.cell 1;simp only [xC,k0,k1,SL.av,dA,qA,yA];have ⟨v,p,eb,U,sv⟩:=iA6 (N:=N) (y.chg M) (by omega);have r:f115 N s1 f=some (v,p):=eb;rw [r,aA];have ob:=u.chg U;have k2:p.cell (H.next,0)=some (.str nm):=ob.cell 0;have ⟨s',h',ea,a1,a0⟩:=jAi cBm (by decide) hi ho W (M.trans U) (cs:=lfc (nm,v,())) (by rw [Y];exact qQ (sv.weak (fun C hC _=>by have:f.next<=C:=hC;have:=M.next;omega))) rfl (by omega);have R:∀ {β:Type} (K:SL->Heap->Option β),tD (.val zJ3) (nB E 36 36 (yL out) (.slice (some (p.next,0)) 1 1 2) (p.push (.row [(.str nm),(yL v)] .own))) K=K s' h':=ea;rw [R,iB (by omega)];have X:jB (some (SL.av s1)) (SL.av s1)=true:=jC _;simp only [SL.av] at X;simp only [k2,jC,X,xA,yB]
   grind)
  (fun Q out H=>by
   grind [rA5,jA2,qC,decide_eq_false]) N 0 sl0 h (xc _) (by omega) (OwV.nil _ _ _ _) (Chg.refl _ _)
 exact ⟨out,B,F,J,A.sl⟩
def qBn (hN:3001<=N) {pub:Bool} {nm:Bs} {lv ps bd:List D} {ty:D} {a:Int} (tl:∀ l∈lv,isLf l) (h1:lv.length<=1000) (tp:∀ p∈ps,isFd p) (c7:ps.length<=1000) (tt:isTy 65 ty) (tb:∀ s∈bd,gA0 65 s) (h3:bd.length<=3000) {s1 s2 J:SL} {r:TyV}
  (y1:Sl h V s1 lv) (y2:Sl h V s2 ps) (yt:Dt h V ty (tyc r)) (y3:Sl h V J bd):∃ X s2' r' S B h',f77 N (fuv ⟨pub,nm,s1,s2,r,J,a⟩) h=some (fuv ⟨pub,nm,X,s2',r',S,a⟩,h')/\Chg [] h h'/\h.next<=B/\Sl h' (fun C=>h.next<=C/\C<B) X lv/\Sl h' (fun C=>h.next<=C/\C<B) s2' ps/\Dt h' (fun C=>h.next<=C/\C<B) ty (tyc r')/\Mt 65 h' (fun C=>B<=C/\C<h'.next) S bd:=by
 unfold f77;have ⟨h2,e2,n2,w⟩:=qB0 h [(.bool pub),(.str nm),(yL s1),(yL s2),(yI0 r.1),(.str r.2.1),(yL r.2.2.1),(yL r.2.2.2.1),(yL J),(yI0 a)] yZC;have w:WR h h2 (fuc ⟨pub,nm,s1,s2,r,J,a⟩) (fux (fuv (vI false [] 0))):=w;dsimp only [fuv];rw [e2,n2];have k2:h2.cell (h.next,2)=some (SL.av s1):=w.o1.cell 2;simp only [xC,k2,SL.av,dA,qA];have z1:=y1.chg w.c;have ⟨u1,c3,b1,a0,x1⟩:=vB0 hN tl (by omega) z1 (some (h.next,0)) (some (h.next+1,0));show ∃ X s2' r' S B h',(rD (vA9 N N (some (h.next,0)) (some (h.next+1,0)) sl0 s1 (Int.ofNat s1.len) 0 h2) _)=_/\_;rw [show Int.ofNat s1.len=(lv.length:Int) by rw [z1.len];rfl,b1,mB];simp only [fA,xC];have x1:=w.btwS x1;have ⟨a2,c0,K,a6⟩:=(w.call a0).set (j:=2) (vs:=[(yL u1)]) (show 2+1<=10 by decide) (ds:=fuc ⟨pub,nm,u1,s2,r,J,a⟩) rfl;rw [c0];have k3:a2.cell (h.next,3)=some (SL.av s2):=K.o1.cell 3;simp only [k3,SL.av,dA,qA];have ⟨u2,b7,b9,Z,x2⟩:=rB0 hN tp (by omega) (y2.chg K.c);have a8:f116 N s2 a2=some (u2,b7):=b9;rw [a8,aA];have x2:=K.btwS x2;have ⟨Y,b3,Q,U⟩:=(K.call Z).set (j:=3) (vs:=[(yL u2)]) (show 3+1<=10 by decide) (ds:=fuc ⟨pub,nm,u1,u2,r,J,a⟩) rfl;rw [b3];have k4:Y.cells (h.next,4) 4=some (.agg (tyc r)):=Q.o1.cells (j:=4) (m:=4) (show 4+4<=10 by decide);rw [k4,vZ];have ⟨r',a9,b8,L,xt⟩:=aAn hN 65 N ty r Y V (by omega) tt (Dt.chg Q.c (by simp) yt);have a1:f117 N N r Y=some (r',a9):=b8;rw [a1,aA];have xt:=Q.btw xt;have ⟨u,b6,O,M⟩:=(Q.call L).set (j:=4) (vs:=(yRE r')) (show 4+4<=10 by decide) (ds:=fuc ⟨pub,nm,u1,u2,r',J,a⟩) rfl;rw [b6];have k8:u.cell (h.next,8)=some (SL.av J):=O.o1.cell 8;simp only [k8,SL.av,dA,qA];have ⟨u3,a7,b2,F,x3⟩:=aBf hN 65 N bd J u V (by omega) tb h3 (y3.chg O.c);have a4:f118 N N J u=some (u3,a7):=b2;rw [a4,aA];have ⟨c6,b4,b5,I⟩:=(O.call F).set (j:=8) (vs:=[(yL u3)]) (show 8+1<=10 by decide) (ds:=fux (fuv ⟨pub,nm,u1,u2,r',u3,a⟩)) rfl;rw [b4];have ⟨a5,b0,H,a3⟩:=WR.fin oU (r0:=fuv (vI false [] 0)) b5;have c5:=a0.next;have c4:=a6.next;have c9:=Z.next;have d4:=U.next;have c8:=L.next;have c2:=M.next;have d5:=F.next;have d3:=I.next;have d0:=H.next;have nx:=O.nx;have z:∀ A,h.next+1<A->A ∉ [h.next]/\A ∉ [h.next+1]:=fun A f=>by grind
 have sub:∀ C,h.next+1<C/\C<u.next->h.next<=C/\C<u.next:=fun C R=>⟨by omega,R.2⟩;have x1:=((((((((x1.chg a6 (fun A f=>(z A f.1).1)).chg Z).chg U (fun A f=>(z A f.1).1)).chg L).chg M (fun A f=>(z A f.1).1)).chg F).chg I (fun A f=>(z A f.1).1)).chg H (fun A f=>(z A f.1).2)).weak (W:=fun C=>h.next<=C/\C<u.next) (fun C R _=>by omega);have x2:=((((((x2.chg U (fun A f=>(z A f.1).1)).chg L).chg M (fun A f=>(z A f.1).1)).chg F).chg I (fun A f=>(z A f.1).1)).chg H (fun A f=>(z A f.1).2)).weak (W:=fun C=>h.next<=C/\C<u.next) (fun C R _=>by omega);have xt:=Dt.weak (W:=fun C=>h.next<=C/\C<u.next) (fun C R _=>by omega) (Dt.chg H (fun A f=>(z A f.1).2) (Dt.chg I (fun A f=>(z A f.1).1) (Dt.chg F (by simp) (Dt.chg M (fun A f=>(z A f.1).1) xt))));have x3:Mt 65 a5 (fun C=>u.next<=C/\C<a7.next) u3 bd:=Mt.chg 65 _ _ _ _ _ _ H (fun A f=>(z A (by omega)).2) (Mt.chg 65 _ _ _ _ _ _ I (fun A f=>(z A (by omega)).1) (Mt.weak 65 _ _ _ _ _ (fun C R hl=>⟨R,hl⟩) x3));exact ⟨u1,u2,r',u3,u.next,a5,b0 (fun y h'=>some (y,h')),a3,by omega,x1,x2,xt,Mt.weak 65 _ _ _ _ _ (fun C R hl=>⟨R.1,hl⟩) x3⟩
end
end Qp
namespace Qp
def yQ:D->D
 | .t [p,n,l,f,_]=>.t [p,n,l,f,.i 0]
 | d=>d
def bareFu:D->D
 | .t [p,n,l,ps,ty,.l bd,_]=>.t [p,n,l,ps,ty,.l (bd.map (eH 65)),.i 0]
 | d=>d
theorem oB6 (pub:Bool) (nm:Bs) (lv ps:List D) (ty:D) (bd:List D) (a:Int):bareFu (fuT pub nm lv ps ty bd a)=fuT pub nm lv ps ty (bd.map (eH 65)) 0:=rfl
def gB9 {h:Heap} {V:Nat->Prop} {pub:Bool} {nm:Bs} {lv ps bd:List D} {ty:D} {a:Int} {s1 s2 f:SL} {r:TyV} (p:Sl h V s1 lv) (j:Sl h V s2 ps) (u:Dt h V ty (tyc r)) (w:Sl h V f bd):Dt h V (fuT pub nm lv ps ty bd a) (fuc ⟨pub,nm,s1,s2,r,f,a⟩):=
 yB3 ⟨[.bool pub],_,rfl,aB9 _ _ _,[.str nm],_,rfl,tK _ _ _,[SL.av s1],_,rfl,kN.2 p,[SL.av s2],_,rfl,kN.2 j,tyc r,_,rfl,u,[SL.av f],_,rfl,kN.2 w,[yI0 a],[],rfl,tAt _ _ _,rfl⟩
section
variable {N:Nat} {h3:Heap} {V:Nat->Prop} {R:Nat}
def kAi (hN:3001<=N) {xs:List D} (t:∀ x∈xs,isSt x) (hl:xs.length<=3000) {s:SL} (x:Sl h3 V s xs) (hV:∀ A,V A->A≠R) (hR:R<h3.next) (o0:h3.own R [SL.av sl0,SL.av sl0]) (W v2:zH3) :
  ∃ out h',aAa N N W v2 (some (R,0)) s (xs.length:Int) 0 h3=some (.exit 0,(W,v2,some (R,0),()),h')/\Chg [R] h3 h'/\h'.own R [SL.av out,SL.av sl0]/\OwV (Fr0 h3) h' out 5 (xs.map yQ):=by
 have ⟨_,h',e,out,c,o,w⟩:=nA2 (k:=0) (len:=xs.length) (L:=fun Q _ i H=>aAa N Q W v2 (some (R,0)) s (xs.length:Int) i H) (fin:=fun _=>(W,v2,some (R,0),())) (Inv:=fun i _ H=>∃ out,Chg [R] h3 H/\H.own R [SL.av out,SL.av sl0]/\OwV (Fr0 h3) H out 5 ((xs.take i).map yQ))
  (fun Q i hi y H inv=>by
   have ⟨out,c0,oR,ow⟩:=inv;have O:ltInt (i:Int) (xs.length:Int)=true:=by grind [qC,decide_eq_true]
   rw [uA5];unfold lA2;rw [O]
   try dsimp only
   rw [xA];have zH:=x.chg c0 (fun A J=>by grind);have tm:=t _ (xR hi);have ⟨q,g,d⟩:=pS.elt zH hi tm;rw [zH.ix hi 5,g,bBm];have a5:=tm;have ⟨pub,nm,lv,fs,a,hx,a8,b0,tf⟩:=tm;have d0:=d;rw [hx] at d;have ⟨Y,X,a1,_⟩:=iA0 d;have e:=pS.inj a1;subst e;have ⟨u,pa,ca,Z⟩:=pS.park (z:=stc st0) rfl H (pub,nm,Y,X,a,());have a7:∀ {β:Type} (K:Heap->Option β),vA ((H.push (.row yZF .own)).store (H.next,0) [(.bool pub),(.str nm),(yL Y),(yL X),(yI0 a)]) K=K u:=pa
   try dsimp only
   rw [a7,qAh Z];have ⟨r',Hb,eb,cb,db⟩:=nBn hN a5 (Dt.chg ca (by simp) d0);rw [hx] at db;have ⟨B,F,a6,y1,y2⟩:=iA0 db;have e:=pS.inj a6;subst e;have a0:f76 N (pub,nm,Y,X,a,()) u=some ((pub,nm,B,F,a,()),Hb):=eb
   try dsimp only
   rw [a0,aA];have w:W1 H Hb (stc (pub,nm,Y,X,a,())):=(⟨Z,ca,Z.2⟩:W1 H u _).call cb;have ⟨Hc,pc,wc,cc,nc⟩:=w.set (j:=0) (vs:=[(.bool pub),(.str nm),(yL B),(yL F),(yI0 a)]) (show 0+5<=5 by decide) (ds:=stc (pub,nm,B,F,a,())) rfl
   try dsimp only
   rw [pc];have ⟨I,pd,S,cd,nd⟩:=wc.set (j:=4) (vs:=[(yI0 0)]) (show 4+1<=5 by decide) (ds:=stc (pub,nm,B,F,0,())) rfl
   try simp only [xC]
   rw [pd];have b2:R≠H.next:=by have:=oR.2;omega
   have M:=oR.chg S.c;have kR:I.cell (R,0)=some (SL.av out):=M.cell 0;simp only [fA,xX,kR,SL.av,dA,qA];rw [qAh S.o];have a9:=ca.next;have dd:Dt I (fun C=>Fr0 h3 C/\out.blk≠some C) (bV pub nm lv fs 0) (stc (pub,nm,B,F,0,())):=by
    have z:∀ A,Fr0 u A->A ∉ [H.next]:=fun A J=>by have:u.next<=A:=J;have:=Z.2;grind
    have z2:∀ C,Fr0 u C->C<I.next->Fr0 h3 C/\out.blk≠some C:=fun C hC _=>⟨by have:u.next<=C:=hC;have:=c0.next;omega,fun hb=>by have:=(ow.ge C hb).2;omega⟩;exact iAc (((y1.chg cc z).chg cd z).weak z2) (((y2.chg cc z).chg cd z).weak z2)
   have ⟨f,p,ea,a4,U,b1⟩:=eJ iBm (by decide) (ow.chg S.c) dd rfl (fun A J=>by have:I.next<=A:=J;have:=c0.next;have:=S.c.next;omega) (by grind);have a3:nB E 22 22 (yL out) (.slice (some (I.next,0)) 1 1 5) (I.push (.row [(.bool pub),(.str nm),(yL B),(yL F),(yI0 0)] .own))=some (.slice f.a f.len f.cap f.sz,p):=ea;rw [a3];have h:=M.chg U (fun hm=>by
    have r:out.blk=some R:=by grind
    have:h3.next<=R:=(ow.ge R r).1
    omega)
   have a2:p.store (R,0) [(yL f)]=some (p.put R (.row [SL.av f,SL.av sl0] .own)):=pU h (show 0+1<=2 by decide) rfl;dsimp only [tD,Ty.cast,VTy.cast,CTy.cast];rw [a2,fA,iB (by omega)];have cp:=h.put [SL.av f,SL.av sl0];refine ⟨y,_,rfl,f,((c0.trans (S.c.mono (by simp))).step U (fun A J O=>?_)).trans cp,kB h _,?_⟩
   ·have r:out.blk=some A:=by grind
    have:h3.next<=A:=(ow.ge A r).1
    omega
   ·rw [List.take_succ_eq_append_getElem hi,List.map_append,hx]
    exact a4.chg cp (fun A J _=>by grind))
  (fun Q out H=>by
   grind [uA5,lA2,qC,decide_eq_false]) N 0 sl0 h3 (xc _) (by omega) ⟨sl0,Chg.refl _ _,o0,OwV.nil _ _ _ _⟩
 grind
def wAu (hN:3001<=N) {xs:List D} (t:∀ x∈xs,isFu x) (hl:xs.length<=3000) {s:SL} (x:Sl h3 V s xs) (hV:∀ A,V A->A≠R) (hR:R<h3.next) {sx:SL} (o0:h3.own R [SL.av sx,SL.av sl0]) (v2:zH3) :
  ∃ out h',yA9 N N v2 (some (R,0)) s (xs.length:Int) 0 h3=some (.exit 2,(v2,some (R,0),()),h')/\Chg [R] h3 h'/\h'.own R [SL.av sx,SL.av out]/\OwV (Fr0 h3) h' out 10 (xs.map bareFu):=by
 have ⟨_,h',e,out,c,o,w⟩:=nA2 (k:=2) (len:=xs.length) (L:=fun Q _ i H=>yA9 N Q v2 (some (R,0)) s (xs.length:Int) i H) (fin:=fun _=>(v2,some (R,0),())) (Inv:=fun i _ H=>∃ out,Chg [R] h3 H/\H.own R [SL.av sx,SL.av out]/\OwV (Fr0 h3) H out 10 ((xs.take i).map bareFu))
  (fun Q i hi Z H inv=>by
   have ⟨out,c0,oR,ow⟩:=inv;have U:ltInt (i:Int) (xs.length:Int)=true:=by grind [qC,decide_eq_true]
   rw [tA5];unfold kA2;rw [U]
   try dsimp only
   rw [xA];have zH:=x.chg c0 (fun A h=>by grind);have tm:=t _ (xR hi);have ⟨q,g,d⟩:=oU.elt zH hi tm;rw [zH.ix hi 10,g,gBm];have ⟨pub,nm,lv,ps,ty,bd,a,hx,a4,tl,b0,tp,tt,a1,tb⟩:=tm;rw [hx] at d;have ⟨s1,s2,s3,r,a5,y1,y2,yt,y3⟩:=eAa tt d;have e:=oU.inj a5;subst e;have ⟨M,pa,ca,oa⟩:=oU.park (z:=fux (fuv (vI false [] 0))) rfl H (fuv ⟨pub,nm,s1,s2,r,s3,a⟩);have b1:∀ {β:Type} (K:Heap->Option β),vA ((H.push (.row yZC .own)).store (H.next,0) [(.bool pub),(.str nm),(yL s1),(yL s2),(yI0 r.1),(.str r.2.1),(yL r.2.2.1),(yL r.2.2.2.1),(yL s3),(yI0 a)]) K=K M:=pa;dsimp only [fuv];rw [b1,fAq oa];have p:∀ A,V A->A ∉ ([]:List Nat):=by simp
   have ⟨O,S,r',F,B,Hb,eb,cb,hB,x1,x2,xt,x3⟩:=qBn hN tl a4 tp b0 tt tb a1 (y1.chg ca p) (y2.chg ca p) (Dt.chg ca p yt) (y3.chg ca p) (pub:=pub) (nm:=nm) (a:=a);have a3:f77 N (pub,nm,s1,s2,r.1,r.2.1,r.2.2.1,r.2.2.2.1,s3,a,()) M=some (fuv ⟨pub,nm,O,S,r',F,a⟩,Hb):=eb;dsimp only [fuv];rw [a3,aA];have w:W1 H Hb (fuc ⟨pub,nm,s1,s2,r,s3,a⟩):=(⟨oa,ca,oa.2⟩:W1 H M _).call cb;have ⟨Hc,pc,wc,cc,nc⟩:=w.set (j:=0) (vs:=[(.bool pub),(.str nm),(yL O),(yL S),(yI0 r'.1),(.str r'.2.1),(yL r'.2.2.1),(yL r'.2.2.2.1),(yL F),(yI0 a)]) (show 0+10<=10 by decide) (ds:=fuc ⟨pub,nm,O,S,r',F,a⟩) rfl;dsimp only [fuv];rw [pc];have ⟨Hd,pd,wd,cd,nd⟩:=wc.set (j:=9) (vs:=[(yI0 0)]) (show 9+1<=10 by decide) (ds:=fuc ⟨pub,nm,O,S,r',F,0⟩) rfl
   try simp only [xC]
   rw [pd];have k8:Hd.cell (H.next,8)=some (SL.av F):=wd.o.cell 8;simp only [k8,SL.av,dA,qA];have na:=oa.2;have b3:=ca.next;have z:∀ A,M.next<=A->A ∉ [H.next]:=fun A h=>by grind
   have x3:=Mt.chg 65 _ _ _ _ _ _ cd (fun A h=>z A (by omega)) (Mt.chg 65 _ _ _ _ _ _ cc (fun A h=>z A (by omega)) x3);have ⟨L,I,ee,ce,bL,ne,x3⟩:=pBn hN 65 N bd F Hd _ (by omega) tb a1 x3;have a7:f78 N N F Hd=some ((),I):=ee;rw [a7,aA];have J:Chg L H I:=(wd.c.mono (by simp)).trans ce;have nR:=oR.2;have y:∀ A,A<M.next->A ∉ L:=fun A h hm=>by grind
   have a0:=oR.chg J (y R (by omega));have oP:I.own H.next (fux (fuv ⟨pub,nm,O,S,r',F,0⟩)):=wd.o.chg ce (y _ (by omega));have kR:I.cell (R,1)=some (SL.av out):=a0.cell 1;simp only [fA,xC,kR,SL.av,dA,qA];rw [fAq oP];have dd:Dt I (fun C=>Fr0 h3 C/\out.blk≠some C) (fuT pub nm lv ps ty (bd.map (eH 65)) 0) (fuc ⟨pub,nm,O,S,r',F,0⟩):=by
    have q1:∀ C,M.next<=C->Fr0 h3 C/\out.blk≠some C:=fun C W=>⟨by have:=c0.next;omega,fun hb=>by have:=(ow.ge C hb).2;omega⟩;have q2:∀ A,M.next<=A/\A<B->A ∉ L:=fun A h hm=>by grind
    have p:∀ A,M.next<=A/\A<B->A ∉ [H.next]:=fun A h=>z A h.1;exact gB9 (((x1.chg cc p).chg cd p).chg ce q2 |>.weak fun C W _=>q1 C W.1) (((x2.chg cc p).chg cd p).chg ce q2 |>.weak fun C W _=>q1 C W.1) (Dt.weak (fun C W _=>q1 C W.1) (Dt.chg ce q2 (Dt.chg cd p (Dt.chg cc p xt)))) ((Mt.sl 65 x3).weak fun C W _=>q1 C (by omega))
   have b2:=J.next;have ⟨f,X,ea,a9,a2,b4⟩:=eJ jBm (by decide) (ow.chg J (fun A _ h=>y A (by omega))) dd rfl (fun A h=>by have:I.next<=A:=h;have:=c0.next;omega) (by grind);have a8:nB E 23 23 (yL out) (.slice (some (I.next,0)) 1 1 10) (I.push (.row [(.bool pub),(.str nm),(yL O),(yL S),(yI0 r'.1),(.str r'.2.1),(yL r'.2.2.1),(yL r'.2.2.2.1),(yL F),(yI0 0)] .own))=some (.slice f.a f.len f.cap f.sz,X):=ea;dsimp only [fuv];rw [a8];have u:=a0.chg a2 (fun hm=>by
    have Y:out.blk=some R:=by grind
    have:h3.next<=R:=(ow.ge R Y).1
    omega)
   have a6:X.store (R,1) [(yL f)]=some (X.put R (.row [SL.av sx,SL.av f] .own)):=pU u (show 1+1<=2 by decide) rfl;dsimp only [tD,Ty.cast,VTy.cast,CTy.cast];rw [a6,fA,iB (by omega)];have cp:=u.put [SL.av sx,SL.av f];have c1:Chg [R] h3 I:=c0.step J (fun A h U=>by have:=bL A h;have:=c0.next;omega);refine ⟨Z,_,rfl,f,(c1.step a2 (fun A h U=>?_)).trans cp,kB u _,?_⟩
   ·have Y:out.blk=some A:=by grind
    have:h3.next<=A:=(ow.ge A Y).1
    omega
   ·rw [List.take_succ_eq_append_getElem hi,List.map_append,hx]
    exact a9.chg cp (fun A h _=>by grind))
  (fun Q out H=>by
   grind [tA5,kA2,qC,decide_eq_false]) N 0 sl0 h3 (xc _) (by omega) ⟨sl0,Chg.refl _ _,o0,OwV.nil _ _ _ _⟩
 grind
end
def iB9 {N:Nat} (hN:3001<=N) {h:Heap} {V:Nat->Prop} {xs ys:List D} (tx:∀ o∈xs,isSt o) (ty:∀ o∈ys,isFu o) (lx:xs.length<=3000) (ly:ys.length<=3000) {x y:SL} (sx:Sl h V x xs) (sy:Sl h V y ys) :
  ∃ L K h',f31 N (x,y,()) h=some ((L,K,()),h')/\Chg [] h h'/\Sl h' (Fr0 h) L (xs.map yQ)/\Sl h' (Fr0 h) K (ys.map bareFu):=by
 unfold f31
 try dsimp only
 have B:=wA h [SL.av x,SL.av y];have c0:=uA h (.row [SL.av x,SL.av y] .own);have n0:(h.push (.row [SL.av x,SL.av y] .own)).next=h.next+1:=rfl;have e0:h.push (.row [(yL x),(yL y)] .own)=h.push (.row [SL.av x,SL.av y] .own):=rfl;rw [e0];generalize h.push (.row [SL.av x,SL.av y] .own)=f at *;have o1:=wA f [SL.av sl0,SL.av sl0];have c1:=uA f (.row [SL.av sl0,SL.av sl0] .own);have n1:(f.push (.row [SL.av sl0,SL.av sl0] .own)).next=f.next+1:=rfl;have e1:f.push (.row yZJ .own)=f.push (.row [SL.av sl0,SL.av sl0] .own):=rfl;rw [e1];have B:=B.chg c1;have Z:=c0.trans c1;generalize f.push (.row [SL.av sl0,SL.av sl0] .own)=j at *;have o2:=wA j [SL.av sl0,SL.av sl0];have M:=uA j (.row [SL.av sl0,SL.av sl0] .own);have n2:(j.push (.row [SL.av sl0,SL.av sl0] .own)).next=j.next+1:=rfl;have e2:j.push (.row yZJ .own)=j.push (.row [SL.av sl0,SL.av sl0] .own):=rfl;rw [e2];have B:=B.chg M;have o1:=o1.chg M;have w:=Z.trans M;generalize j.push (.row [SL.av sl0,SL.av sl0] .own)=h3 at *;have k0:h3.cell (h.next,0)=some (SL.av x):=B.cell 0;simp only [xC,k0,SL.av,dA,qA];have a0:=(sx.weak (W:=fun A=>A<h.next) (fun A _ r=>r)).chg w;have a3:=(sy.weak (W:=fun A=>A<h.next) (fun A _ r=>r)).chg w;have ⟨u,H,O,p,S,Y⟩:=kAi (R:=j.next) hN tx lx a0 (fun A r=>by omega) (by omega) o2 (some (h.next,0)) (some (f.next,0));show ∃ L K h',(rD (aAa N N (some (h.next,0)) (some (f.next,0)) (some (j.next,0)) x (Int.ofNat x.len) 0 h3) _)=_/\_;rw [show Int.ofNat x.len=(xs.length:Int) by rw [sx.len];rfl,O,mB];have B:=B.chg p (by grind);have o1:=o1.chg p (by grind);have k1:H.cell (h.next,1)=some (SL.av y):=B.cell 1;simp only [fA,xC,k1,SL.av,dA,qA];have J:=a3.chg p (fun A r=>by grind);have a4:=p.next;have ⟨v,I,a1,F,a2,X⟩:=wAu (R:=j.next) hN ty ly J (fun A r=>by omega) (by omega) S (some (f.next,0));show ∃ L K h',(rD (yA9 N N (some (f.next,0)) (some (j.next,0)) y (Int.ofNat y.len) 0 H) _)=_/\_;rw [show Int.ofNat y.len=(ys.length:Int) by rw [sy.len];rfl,a1,mB];simp only [fA];rw [rW a2];have o1:=o1.chg F (by grind);have Q:I.store (f.next,0) [(yL u),(yL v)]=some (I.put f.next (.row [SL.av u,SL.av v] .own)):=o1.store rfl;have cp:=o1.put [SL.av u,SL.av v]
 try dsimp only
 rw [Q,fA,rW (kB o1 _)];have n3:=w.next;have wu:=(Y.sl.chg F (fun A r=>by grind)).chg cp (fun A r=>by grind);have wv:=X.sl.chg cp (fun A r=>by grind);refine ⟨u,v,_,rfl,((w.step p (fun A r U=>?_)).step F (fun A r U=>?_)).put (.inr (by omega)) _,wu.weak (fun C hC _=>by omega),wv.weak (fun C hC _=>by omega)⟩
 ·grind
 grind
end Qp
namespace Qp
section
variable {σ α β γ:Type} {R:σ->σ->Prop} {Q:α->α->Prop} {Q2:β->β->Prop}
end
section
variable {U V:List Tok} {d:Nat} {α:Type}
def Qs (n:Nat) (x y:D):Prop:=eH n x=eH n y
end
end Qp
namespace Qp
def vA7 (T:List Tok) (pub:Bool) (j:Nat):ItS:=
 let a:Int:=((tk T j).2.2:Int)
 if isS T [115,116,114,117,99,116] j=true then ⟨some (true,(dG T pub a (j+1,none)).1),(dG T pub a (j+1,none)).2.1,inS a (dG T pub a (j+1,none)).2.2,0⟩
 else if isS T [102,110] j=true then ⟨some (false,(oJ T pub a (j+1,none)).1),(oJ T pub a (j+1,none)).2.1.1,inS a (oJ T pub a (j+1,none)).2.1.2,(oJ T pub a (j+1,none)).2.2⟩
 else ⟨none,j,some (21,a,none),0⟩
def wB0 (T:List Tok) (i:Nat):jJ T (i,none)=if isS T [112,117,98] i=true then vA7 T true (i+1) else vA7 T false i:=by
 have h:∀ (pub:Bool) (j:Nat),(let at_:Int:=((tk T j).2.2:Int)
   let b:=uB T [115,116,114,117,99,116] (j,none)
   if b.1=true then (⟨some (true,(dG T pub at_ b.2).1),(dG T pub at_ b.2).2.1,inS at_ (dG T pub at_ b.2).2.2,0⟩:ItS) else
   let f:=uB T [102,110] b.2
   if f.1=true then ⟨some (false,(oJ T pub at_ f.2).1),(oJ T pub at_ f.2).2.1.1,inS at_ (oJ T pub at_ f.2).2.1.2,(oJ T pub at_ f.2).2.2⟩
   else ⟨none,(oG T 21 f.2).1,aAu (oG T 21 f.2).2,0⟩)=vA7 T pub j:=by
  intro pub j;unfold vA7
  by_cases p:isS T [115,116,114,117,99,116] j=true
  ·simp only [uB,p,xM]
  ·by_cases r:isS T [102,110] j=true
   ·simp only [uB,p,xE,xL,r,xM]
   ·simp only [uB,p,xE,xL,r,oG,aAu]
 unfold jJ
 by_cases p:isS T [112,117,98] i=true
 ·have e:uB T [112,117,98] (i,none)=(true,(i+1,none)):=by simp only [uB,p,xM]
  rw [if_pos p,<- h true (i+1),e]
 ·have e:uB T [112,117,98] (i,none)=(false,(i,none)):=by simp only [uB,p,xE,xL]
  rw [if_neg p,<- h false i,e]
section
variable {T' T:List Tok} {E:Nat} {Bd:Int×Int->Prop}
def yB0 {T:List Tok} {pub:Bool} {j:Nat} (h:(vA7 T pub j).e=none):(vA7 T pub j).d.isSome=true:=by
 unfold vA7 at h ⊢;dsimp only at h ⊢
 split
 ·rfl
 ·rename_i p
  split
  ·rfl
  ·rename_i f
   rw [if_neg p,if_neg f] at h;cases h
theorem rBn {T:List Tok} {i:Nat} (h:(jJ T (i,none)).e=none):(jJ T (i,none)).d.isSome=true:=by
 rw [wB0] at h ⊢
 split
 ·rename_i f;rw [if_pos f] at h;exact yB0 h
 ·rename_i f;rw [if_neg f] at h;exact yB0 h
theorem dBf {d:Option (Bool×D)} (h:d.isSome=true):(vAh d []).length+(wAh d []).length=1:=by
 obtain ⟨⟨b,x⟩,rfl⟩:=Option.isSome_iff_exists.1 h;cases b <;> rfl
end
end Qp
namespace Qp
section
variable {U V:List Tok} {d n:Nat} {α β:Type}
end
end Qp
namespace Qp
section
variable {T:List Tok}
theorem kJ:isLf pl0:=⟨[],[],rfl,by simp⟩
theorem rH:isOp op0:=⟨0,0,_,rfl,kJ⟩
theorem oY:isTy 65 ty0D:=⟨0,[],[],[],rfl,by simp,by simp,by simp⟩
def pBt {k op:Int} {a b pl:D} {nm:Bs} (h:isOp a) (f:isOp b) (j:isLf pl):isVa (vaD k a b op pl nm [] []):=⟨k,a,b,op,pl,nm,[],[],rfl,h,f,j,by simp,by simp,by simp⟩
theorem lA6:isVa va00:=pBt rH rH kJ
end
end Qp
namespace Qp
def eBf (c d:UInt8):Bool:=!uC c&&!mD c&&!decide (c.toNat=39)&&gAv c fB5&&!bAh [c,d] two
def aB1 {c d:UInt8} (r:Bs) (h:eBf c d=true):iD (c::d::r)=some (5,[c],1):=by
 simp only [eBf,xG,Bool.not_eq_true',xd] at h;have ⟨⟨⟨⟨B,A⟩,C⟩,w⟩,f⟩:=h;have e:∀ p:Bs,p.length=2->lA7 p (c::d::r)=bB [c,d] p:=by
  intro p y;simp [lA7,y]
 have F:gQ (c::d::r) two=none:=by
  simp only [two,bAh] at f;simp only [two,gQ,e [58,58] rfl,e [45,62] rfl,e [61,61] rfl]
  cases j:bB [c,d] [58,58] with
  | true=>rw [j] at f;cases f
  | false=>
   cases u:bB [c,d] [45,62] with
   | true=>rw [j,u] at f;cases f
   | false=>
    cases H:bB [c,d] [61,61] with
    | true=>rw [j,u,H] at f;cases f
    | false=>rfl
 rw [iD,B,A,if_neg (by simp),if_neg (by simp),if_neg C];simp only [jI,F,w,xM]
section
variable {r x:Bs} {a m:Nat} {l:List Tok} {c d:UInt8}
end
end Qp
namespace Qp
section
variable {T r:List Tok} {i a c:Nat}
end
end Qp
namespace Qp
section
variable {N:Nat}
end
end Qp
namespace Qp
def pB6 {N:Nat} {s:Bs} {T:List Tok} (h:iAv N s=.inl T):∃ l,dAh N (s.drop (jD false s)) (jD false s)=.inl l/\T=l++[(0,[],s.length)]:=by
 unfold iAv at h
 split at h
 ·rename_i l f
  simp only [Sum.inl.injEq] at h;exact ⟨l,f,h.symm⟩
 ·cases h
def bB1 {T:List Tok} (h:(kA5 T).2=none):(pE T 256 0).2=none/\(kA5 T).1=(pE T 256 0).1:=by
 unfold kA5 at h ⊢;dsimp only at h ⊢
 split at h
 ·cases h
 ·rename_i f;rw [f];exact ⟨rfl,rfl⟩
end Qp
namespace Qp
end Qp
namespace Qp
def qB6 (g:Nat) (l:List Bs):Prop:=l.length<=g/\∀ x∈l,yG x=true
def uO (g:Nat) (P:D->Prop) (l:List D):Prop:=l.length<=g/\∀ x∈l,P x
def lL (g:Nat) (d:D):Prop:=∃ p:PT,d=p.D/\p.ok g
def vO (f:Bool) (d:D):Prop:=∃ m nm ty,d=fdD m nm ty/\(m=true->f=true)/\jE nm=true/\lL 64 ty
def rS (d:D):Prop:=∃ (nm:Bs) (xs:List Bs),d=eF nm (xs.map D.s)/\yG nm=true/\qB6 64 xs
def kAd {P:Bs->Prop}:∀ {l:List D},(∀ x∈l,∃ b:Bs,x=D.s b/\P b)->∃ xs:List Bs,l=xs.map D.s/\∀ x∈xs,P x
 | [],_=>⟨[],rfl,by simp⟩
 | x::r,h=>by
  have ⟨b,j,u⟩:=h x (by simp);have ⟨xs,p,w⟩:=kAd (l:=r) (fun y f=>h y (by simp [f]));exact ⟨b::xs,by rw [j,p];rfl,fun y f=>by
   grind⟩
def rB6 (x:Bs):Prop:=x=[42]\/jE x=true
def lAi (g:Nat) (l:List Bs):Prop:=l.length<=g/\∀ x∈l,rB6 x
def gX (d:D):Prop:=∃ (nm:Bs) (xs:List Bs),d=eF nm (xs.map D.s)/\jE nm=true/\lAi 64 xs
def bG (d:D):Prop:=(∃ n:Nat,d=opD 1 (n:Int) pl0/\n<=2147483647)\/(∃ n:Int,(n=0\/n=1)/\d=opD 2 n pl0)\/∃ p,d=opD 3 0 p/\gX p
def mAi (T:List Tok):fA1 T=bnd (iE T [40]) fun _=>lI T [41] (qI []) (bnd (qD T (gF T) [44]) fun l=>nG (fun _=>l) (iE T [41])):=by
 funext σ
 rfl
def fBf (d:D):Prop:=∃ a o,d=D.t [.s a,o]/\jE a=true/\bG o
inductive mayVa:D->Prop
 | op {o:D} (h:bG o):mayVa (vaD 1 o op0 0 pl0 [] [] [])
 | ref {k:Int} {p:D} (hk:k=2\/k=3) (h:gX p):mayVa (vaD k op0 op0 0 p [] [] [])
 | no {o:D} (h:bG o):mayVa (vaD 4 o op0 0 pl0 [] [] [])
 | bin {a b:D} {k:Int} (ha:bG a) (hb:bG b) (hk:k=1\/k=2\/k=3\/k=4):mayVa (vaD 5 a b k pl0 [] [] [])
 | call {nm:Bs} {ag:List D} (hn:uA7 nm) (h:uO 64 bG ag):mayVa (vaD 6 op0 op0 0 pl0 nm [] ag)
 | make {nm:Bs} {ns:List Bs} {ag:List D} (hn:uA7 nm) (hl:ns.length=ag.length) (hs:∀ x∈ns,jE x=true) (h:uO 64 bG ag):mayVa (vaD 7 op0 op0 0 pl0 nm (ns.map D.s) ag)
def jB9 (f:Bool) (va:D):Prop:=(f=true/\mayVa va)\/(f=false/\va=va00)
def thD:D->List D
 | .t [_,_,_,_,_,_,_,_,_,.l th,_]=>th
 | _=>[]
def elD:D->List D
 | .t [_,_,_,_,_,_,_,_,_,_,.l el]=>el
 | _=>[]
def yH:Nat->List D->Nat
 | 0,_=>0
 | n+1,l=>l.length+(l.map fun d=>yH n (thD d)+yH n (elD d)).sum
theorem aL (n:Nat):yH n []=0:=by cases n <;> simp [yH]
end Qp
namespace Qp
inductive SmN (n:Nat):Int->Bool->Bs->D->Bool->D->D->D->List D->List D->Prop
 | let_ {m nm ty hs va} (hn:jE nm=true) (ht:lL 64 ty) (hv:jB9 hs va):SmN n 1 m nm ty hs pl0 va op0 [] []
 | set {nm:Bs} {xs:List Bs} {va} (hn:jE nm=true) (hx:lAi 64 xs) (hv:mayVa va):SmN n 2 false [] ty0D false (eF nm (xs.map D.s)) va op0 [] []
 | call {nm:Bs} {ag:List D} (hn:uA7 nm) (h:uO 64 bG ag):SmN n 3 false [] ty0D false pl0 (vaD 6 op0 op0 0 pl0 nm [] ag) op0 [] []
 | if_ {hs co th el} (h0:0<n) (hc:bG co) (he:hs=false->el=[]):SmN n 4 false [] ty0D hs pl0 va00 co th el
 | while_ {co th} (h0:0<n) (hc:bG co):SmN n 5 false [] ty0D false pl0 va00 co th []
 | loop {th} (h0:0<n):SmN n 6 false [] ty0D false pl0 va00 op0 th []
 | block {th} (h0:0<n):SmN n 7 false [] ty0D false pl0 va00 op0 th []
 | break_:SmN n 8 false [] ty0D false pl0 va00 op0 [] []
 | cont:SmN n 9 false [] ty0D false pl0 va00 op0 [] []
 | ret {hs va} (hv:jB9 hs va):SmN n 10 false [] ty0D hs pl0 va op0 [] []
 | drop {pl} (hp:gX pl):SmN n 11 false [] ty0D false pl va00 op0 [] []
def mayN:Nat->D->Prop
 | 0,_=>False
 | n+1,d=>∃ (k:Int) (a:Int) (m:Bool) (nm:Bs) (ty:D) (f:Bool) (pl va co:D) (th el:List D),d=smT k a m nm ty f pl va co th el/\(∀ x∈th,mayN n x)/\(∀ x∈el,mayN n x)/\SmN n k m nm ty f pl va co th el
def jA1 (d:D):Prop:=∃ (pub:Bool) (nm:Bs) (lv:List Bs) (f:List D) (a:Int),d=bV pub nm lv f a/\jE nm=true/\qB6 64 lv/\uO 64 (vO false) f
def pY (d:D):Prop:=∃ (pub:Bool) (nm:Bs) (lv ps:List D) (ty:D) (bd:List D) (a:Int),d=fuT pub nm lv ps ty bd a/\jE nm=true/\uO 64 rS lv/\uO 64 (vO true) ps/\(ty=ty0D\/lL 64 ty)/\(∀ x∈bd,mayN 64 x)/\yH 64 bd<=2000
end Qp
set_option maxRecDepth 100000
open Go.RowKit (Below)
namespace Qk
open Qa
def rho:Go.Shelf.Ren:=⟨fun n=>bif Nat.beq n 145 then 196 else bif Nat.beq n 217 then 187 else bif Nat.beq n 219 then 227 else bif Nat.beq n 220 then 215 else bif Nat.beq n 224 then 237 else bif Nat.beq n 225 then 236 else bif Nat.beq n 266 then 206 else bif Nat.beq n 267 then 238 else 250,
 fun n=>bif Nat.beq n 3 then 3 else bif Nat.beq n 4 then 4 else bif Nat.beq n 5 then 5 else bif Nat.beq n 9 then 9 else bif Nat.beq n 46 then 191 else bif Nat.beq n 51 then 205 else bif Nat.beq n 59 then 201 else 206,fun _=>0⟩
def lays:Lays.n145 Tryz.prog rho where
 mixed:=by kernel_rfl
 f145:=by kernel_rfl
 f217:=by kernel_rfl
 f219:=by kernel_rfl
 f220:=by kernel_rfl
 f224:=by kernel_rfl
 f225:=by kernel_rfl
 f266:=by kernel_rfl
 f267:=by kernel_rfl
 f314:=by kernel_rfl
 t3:=by kernel_rfl
 a3:=fun _=>by kernel_rfl
 z3:=fun _=>by kernel_rfl
 v3:=fun _=>by kernel_rfl
 t4:=by kernel_rfl
 a4:=fun _=>by kernel_rfl
 z4:=fun _=>by kernel_rfl
 v4:=fun _=>by kernel_rfl
 t5:=by kernel_rfl
 a5:=fun _=>by kernel_rfl
 z5:=fun _=>by kernel_rfl
 v5:=fun _=>by kernel_rfl
 t9:=by kernel_rfl
 a9:=fun _=>by kernel_rfl
 z9:=fun _=>by kernel_rfl
 v9:=fun _=>by kernel_rfl
 t46:=by kernel_rfl
 a46:=fun _=>by kernel_rfl
 z46:=fun _=>by kernel_rfl
 v46:=fun _=>by kernel_rfl
 t51:=by kernel_rfl
 a51:=fun _=>by kernel_rfl
 z51:=fun _=>by kernel_rfl
 v51:=fun _=>by kernel_rfl
 t59:=by kernel_rfl
 a59:=fun _=>by kernel_rfl
 z59:=fun _=>by kernel_rfl
 v59:=fun _=>by kernel_rfl
 t146:=by kernel_rfl
 a146:=fun _=>by kernel_rfl
 z146:=fun _=>by kernel_rfl
 v146:=fun _=>by kernel_rfl
 g1:=by kernel_rfl
def aBi:Ai.Loc:=⟨0,0,1,false⟩
def cB1:Option Blk->Bool
 | some (.row [.int .i64 _] .ro)=>true
 | _=>false
def pinned (h:Heap):Bool:=pA4 4 aBi h.pins&&cB1 (h.t.get 4)
def dB1 {b:Option Blk} (h:cB1 b=true):∃ m,b=some (.row [yI0 m] .ro):=by
 unfold cB1 at h
 split at h
 ·exact ⟨_,rfl⟩
 ·cases h
def tBn (s sep:List UInt8) (h:Heap):yO0 (List UInt8×List UInt8×Bool×Unit):=bif pinned h&&Nat.blt s.length 4294967281 then some (((Lib.cut s sep).1,(Lib.cut s sep).2.1,(Lib.cut s sep).2.2,()),h) else none
def cAn (_N:Nat):pC Tryz.prog 196 [(.one .str),(.one .str)] (.tup [(.one .str),(.one .str),(.one .bool)]) (fun x h=>tBn x.1 x.2.1 h):=by
 intro xs h r h' J μ w args' B S;have ⟨s,sep,_⟩:=xs;have f:tBn s sep h=some (r,h'):=J;unfold tBn at f
 cases j:(pinned h&&Nat.blt s.length 4294967281) with
 | false=>rw [j] at f;cases f
 | true=>
  rw [j] at f;simp only [xA,xF,xI] at f;obtain ⟨rfl,rfl⟩:=f;simp only [xG,pinned] at j;have ⟨⟨I,C⟩,Q⟩:=j;have ⟨m,C⟩:=dB1 C;have u:VRs μ [.str s,.str sep] args'.toList:=S;simp only [VRs,VR] at u;obtain ⟨X,H,L,rfl,W,V,U,rfl,O⟩:=u;subst U O;have R:args' = #[.string ⟨s.toArray⟩,.string ⟨sep.toArray⟩]:=by rw [<- Array.toList_inj,L]
  subst R;have A:=B.pin _ (dQ I);have p:RowR μ w aBi [yI0 m]:=B.blk 4 aBi _ A C;have ⟨y,M,F⟩:=p.cell 0 _ rfl;simp only [VR] at F;subst F;have K:(⟨s.toArray⟩:ByteArray).size<4294967281:=by
   have:s.length<4294967281:=by simpa [Nat.blt_eq] using Q
   exact this
  refine ⟨uR uBh (fn:=Tryz.f196) (by kernel_rfl) (by kernel_rfl) _ _,(Any.strings_Cut lays ⟨s.toArray⟩ ⟨sep.toArray⟩ m w K M).mono ?_⟩;rintro ev w' ⟨rfl,n,rfl⟩;have j:Below w.heap.size w (w.drewN n):=below_drewN (Below.refl _ _) n;refine ⟨_,rfl,μ,?_,B.below j,Ext.of_below j⟩;show VR μ (.tuple [.str _,.str _,.bool _]) _;simp only [VR,VRs];exact ⟨_,rfl,_,_,rfl,rfl,_,_,rfl,rfl,_,_,rfl,rfl,rfl⟩
end Qk
open Go Go.Proofs
namespace Tw
open Go.Shelf
def Tryz.lays156_ren:Go.Shelf.Ren:=⟨fun | 156=>50 | 165=>89 | 166=>81 | 169=>44 | 240=>127 | 241=>139 | 276=>175 | 277=>185 | n=>n,fun | 31=>38 | 9=>9 | 3=>3 | 4=>4 | 0=>0 | 20=>20 | 72=>83 | 76=>141 | 70=>80 | 37=>81 | 75=>29 | 127=>144 | 164=>189 | 5=>5 | 80=>92 | n=>n,fun | n=>n⟩
def Tryz.lays156:Go.Proofs.Lays.n156 Tryz.prog Tryz.lays156_ren:={
 mixed:=by kernel_rfl
 f156:=Tryz.func50.trans (congrArg some (by kernel_rfl))
 f165:=Tryz.func89.trans (congrArg some (by kernel_rfl))
 f166:=Tryz.func81.trans (congrArg some (by kernel_rfl))
 f169:=Tryz.func44.trans (congrArg some (by kernel_rfl))
 f240:=Tryz.func127.trans (congrArg some (by kernel_rfl))
 f241:=Tryz.func139.trans (congrArg some (by kernel_rfl))
 f276:=Tryz.func175.trans (congrArg some (by kernel_rfl))
 f277:=Tryz.func185.trans (congrArg some (by kernel_rfl))
 t0:=Tryz.underlying0
 a0:=Tryz.isAgg0
 z0:=Tryz.sizeOf0
 v0:=Tryz.zeroValue0
 t3:=Tryz.underlying3
 a3:=Tryz.isAgg3
 z3:=Tryz.sizeOf3
 v3:=Tryz.zeroValue3
 t4:=Tryz.underlying4
 a4:=Tryz.isAgg4
 z4:=Tryz.sizeOf4
 v4:=Tryz.zeroValue4
 t9:=Tryz.underlying9
 a9:=Tryz.isAgg9
 z9:=Tryz.sizeOf9
 v9:=Tryz.zeroValue9
 t20:=Tryz.underlying20
 a20:=Tryz.isAgg20
 z20:=Tryz.sizeOf20
 v20:=Tryz.zeroValue20
 t31:=Tryz.underlying38
 a31:=Tryz.isAgg38
 z31:=Tryz.sizeOf38
 v31:=Tryz.zeroValue38
 t37:=Tryz.underlying81
 a37:=Tryz.isAgg81
 z37:=Tryz.sizeOf81
 v37:=Tryz.zeroValue81
 t70:=Tryz.underlying80
 a70:=Tryz.isAgg80
 z70:=Tryz.sizeOf80
 v70:=Tryz.zeroValue80
 t72:=Tryz.underlying83
 a72:=Tryz.isAgg83
 z72:=Tryz.sizeOf83
 v72:=Tryz.zeroValue83
 t75:=Tryz.underlying29
 a75:=Tryz.isAgg29
 z75:=Tryz.sizeOf29
 v75:=Tryz.zeroValue29
 t76:=Tryz.underlying141
 a76:=Tryz.isAgg141
 z76:=Tryz.sizeOf141
 v76:=Tryz.zeroValue141
 t127:=Tryz.underlying144
 a127:=Tryz.isAgg144
 z127:=Tryz.sizeOf144
 v127:=Tryz.zeroValue144
 t164:=Tryz.underlying189
 a164:=Tryz.isAgg189
 z164:=Tryz.sizeOf189
 v164:=Tryz.zeroValue189 }
def Tryz.Builder_Extra_156:Builder.Extra Tryz.prog Tryz.lays156_ren:={
 sizeBuilder:=by kernel_rfl
 liesBuilder:=by kernel_rfl
 t5:=Tryz.underlying5
 a5:=Tryz.isAgg5
 z5:=Tryz.sizeOf5
 v5:=Tryz.zeroValue5
 infoByte:=by kernel_rfl
 cellsByte:=by kernel_rfl
 sizeByte:=by kernel_rfl
 neB5:=by decide }
open Go.RowKit in
def Tryz.strings_Join_none (a:Option Addr) (c:Nat) (sep:ByteArray) (w:World) :
  Calls Tryz.prog 50 #[.slice a 0 c,.string sep] w fun e w'=>e=.returned (.string ⟨#[]⟩)/\w'=w:=Any.strings_Join_none Tryz.lays156 Tryz.Builder_Extra_156 a c sep w
open Go.RowKit in
def Tryz.strings_Join (r o c:Nat) (xs:List ByteArray) (sep:ByteArray) (w:World) (f:∀ (j:Nat) x,xs[j]? = some x->w.cell? ⟨r,o+j,none⟩=some (.string x)) (u:r<w.heap.size) (y:xs.length<=140737488355328) (h:xs.length<=c) (p:(Lib.join (xs.map (·.data.toList)) sep.data.toList).length<=140737488355328) :
  Calls Tryz.prog 50 #[.slice (some ⟨r,o,none⟩) xs.length c,.string sep] w fun e w'=>e=.returned (.string ⟨(Lib.join (xs.map (·.data.toList)) sep.data.toList).toArray⟩)/\Below w.heap.size w w':=Any.strings_Join Tryz.lays156 Tryz.Builder_Extra_156 r o c xs sep w f u y h p
def Tryz.laysM171_ren:Go.Shelf.Ren:=⟨fun | 171=>204 | 243=>217 | 246=>230 | 283=>240 | 284=>241 | 285=>242 | 286=>243 | 129=>252 | 317=>251 | 318=>253 | 319=>254 | 320=>255 | 337=>260 | 338=>261 | n=>n,fun | 3=>3 | 9=>9 | 2=>2 | 4=>4 | 171=>251 | 0=>0 | 53=>208 | 37=>81 | 5=>5 | 173=>254 | 212=>264 | 51=>205 | 20=>20 | 213=>265 | 46=>191 | 232=>278 | 233=>279 | n=>n,fun | 17=>2 | 18=>5 | 19=>6 | n=>n⟩
def Tryz.laysM171:Go.Proofs.LaysM.n171 Tryz.prog Tryz.laysM171_ren:={
 mixed:=by kernel_rfl
 f129:=Tryz.func252.trans (congrArg some (by kernel_rfl))
 f171:=Tryz.func204.trans (congrArg some (by kernel_rfl))
 f243:=Tryz.func217.trans (congrArg some (by kernel_rfl))
 f246:=Tryz.func230.trans (congrArg some (by kernel_rfl))
 f283:=Tryz.func240.trans (congrArg some (by kernel_rfl))
 f284:=Tryz.func241.trans (congrArg some (by kernel_rfl))
 f285:=Tryz.func242.trans (congrArg some (by kernel_rfl))
 f286:=Tryz.func243.trans (congrArg some (by kernel_rfl))
 f317:=Tryz.func251.trans (congrArg some (by kernel_rfl))
 f318:=Tryz.func253.trans (congrArg some (by kernel_rfl))
 f319:=Tryz.func254.trans (congrArg some (by kernel_rfl))
 f320:=Tryz.func255.trans (congrArg some (by kernel_rfl))
 f337:=Tryz.func260.trans (congrArg some (by kernel_rfl))
 f338:=Tryz.func261.trans (congrArg some (by kernel_rfl))
 t0:=Tryz.underlying0
 a0:=Tryz.isAgg0
 z0:=Tryz.sizeOf0
 v0:=Tryz.zeroValue0
 t2:=Tryz.underlying2
 a2:=Tryz.isAgg2
 z2:=Tryz.sizeOf2
 v2:=Tryz.zeroValue2
 t3:=Tryz.underlying3
 a3:=Tryz.isAgg3
 z3:=Tryz.sizeOf3
 v3:=Tryz.zeroValue3
 t4:=Tryz.underlying4
 a4:=Tryz.isAgg4
 z4:=Tryz.sizeOf4
 v4:=Tryz.zeroValue4
 t5:=Tryz.underlying5
 a5:=Tryz.isAgg5
 z5:=Tryz.sizeOf5
 v5:=Tryz.zeroValue5
 t9:=Tryz.underlying9
 a9:=Tryz.isAgg9
 z9:=Tryz.sizeOf9
 v9:=Tryz.zeroValue9
 t20:=Tryz.underlying20
 a20:=Tryz.isAgg20
 z20:=Tryz.sizeOf20
 v20:=Tryz.zeroValue20
 t37:=Tryz.underlying81
 a37:=Tryz.isAgg81
 z37:=Tryz.sizeOf81
 v37:=Tryz.zeroValue81
 t46:=Tryz.underlying191
 a46:=Tryz.isAgg191
 z46:=Tryz.sizeOf191
 v46:=Tryz.zeroValue191
 t51:=Tryz.underlying205
 a51:=Tryz.isAgg205
 z51:=Tryz.sizeOf205
 v51:=Tryz.zeroValue205
 t53:=Tryz.underlying208
 a53:=Tryz.isAgg208
 z53:=Tryz.sizeOf208
 v53:=Tryz.zeroValue208
 t171:=Tryz.underlying251
 a171:=Tryz.isAgg251
 z171:=Tryz.sizeOf251
 v171:=Tryz.zeroValue251
 t173:=Tryz.underlying254
 a173:=Tryz.isAgg254
 z173:=Tryz.sizeOf254
 v173:=Tryz.zeroValue254
 t212:=Tryz.underlying264
 a212:=Tryz.isAgg264
 z212:=Tryz.sizeOf264
 v212:=Tryz.zeroValue264
 t213:=Tryz.underlying265
 a213:=Tryz.isAgg265
 z213:=Tryz.sizeOf265
 t232:=Tryz.underlying278
 a232:=Tryz.isAgg278
 z232:=Tryz.sizeOf278
 v232:=Tryz.zeroValue278
 t233:=Tryz.underlying279
 a233:=Tryz.isAgg279
 z233:=Tryz.sizeOf279
 v233:=Tryz.zeroValue279
 g17:=by kernel_rfl
 g18:=by kernel_rfl
 g19:=by kernel_rfl
 i0:=by kernel_rfl
 i2:=by kernel_rfl
 i3:=by kernel_rfl
 i4:=by kernel_rfl
 i5:=by kernel_rfl
 i9:=by kernel_rfl
 i20:=by kernel_rfl
 i37:=by kernel_rfl
 i46:=by kernel_rfl
 i51:=by kernel_rfl
 i53:=by kernel_rfl
 i171:=by kernel_rfl
 i173:=by kernel_rfl
 i212:=by kernel_rfl
 i232:=by kernel_rfl
 i233:=by kernel_rfl
 m17:=by kernel_rfl
 m18:=by kernel_rfl
 m19:=by kernel_rfl }
open Go.RowKit Go.Sort Go.Lib in
def Tryz.strconv_Itoa (n:Int) (h0:-9223372036854775808<=n) (h1:n<=9223372036854775807) (w:World) (htab:Lib.TabIs Tryz.prog w "internal/strconv.uint64pow10" .u64 Lib.pow10Tab) :
  Calls Tryz.prog 204 #[.int .i64 n] w fun e w'=>e=.returned (.string ⟨(Lib.itoa n).toArray⟩)/\∃ k os,w'=grow (w.drewN k) os:=Any.strconv_Itoa Tryz.laysM171 n h0 h1 w htab
def Tryz.lays105_ren:Go.Shelf.Ren:=⟨fun | 105=>128 | 212=>176 | 99=>140 | 165=>89 | 166=>81 | 170=>43 | 169=>44 | 263=>202 | 264=>203 | 206=>186 | 240=>127 | 241=>139 | 276=>175 | 277=>185 | n=>n,fun | 9=>9 | 3=>3 | 4=>4 | 20=>20 | 0=>0 | 46=>191 | 109=>192 | 5=>5 | 72=>83 | 76=>141 | 51=>205 | 146=>206 | 53=>208 | 148=>209 | 70=>80 | 37=>81 | 75=>29 | 127=>144 | 164=>189 | 80=>92 | n=>n,fun | n=>n⟩
def Tryz.lays105:Go.Proofs.Lays.n105 Tryz.prog Tryz.lays105_ren:={
 mixed:=by kernel_rfl
 f99:=Tryz.func140.trans (congrArg some (by kernel_rfl))
 f105:=Tryz.func128.trans (congrArg some (by kernel_rfl))
 f165:=Tryz.func89.trans (congrArg some (by kernel_rfl))
 f166:=Tryz.func81.trans (congrArg some (by kernel_rfl))
 f169:=Tryz.func44.trans (congrArg some (by kernel_rfl))
 f170:=Tryz.func43.trans (congrArg some (by kernel_rfl))
 f206:=Tryz.func186.trans (congrArg some (by kernel_rfl))
 f212:=Tryz.func176.trans (congrArg some (by kernel_rfl))
 f240:=Tryz.func127.trans (congrArg some (by kernel_rfl))
 f241:=Tryz.func139.trans (congrArg some (by kernel_rfl))
 f263:=Tryz.func202.trans (congrArg some (by kernel_rfl))
 f264:=Tryz.func203.trans (congrArg some (by kernel_rfl))
 f276:=Tryz.func175.trans (congrArg some (by kernel_rfl))
 f277:=Tryz.func185.trans (congrArg some (by kernel_rfl))
 t0:=Tryz.underlying0
 a0:=Tryz.isAgg0
 z0:=Tryz.sizeOf0
 v0:=Tryz.zeroValue0
 t3:=Tryz.underlying3
 a3:=Tryz.isAgg3
 z3:=Tryz.sizeOf3
 v3:=Tryz.zeroValue3
 t4:=Tryz.underlying4
 a4:=Tryz.isAgg4
 z4:=Tryz.sizeOf4
 v4:=Tryz.zeroValue4
 t5:=Tryz.underlying5
 a5:=Tryz.isAgg5
 z5:=Tryz.sizeOf5
 v5:=Tryz.zeroValue5
 t9:=Tryz.underlying9
 a9:=Tryz.isAgg9
 z9:=Tryz.sizeOf9
 v9:=Tryz.zeroValue9
 t20:=Tryz.underlying20
 a20:=Tryz.isAgg20
 z20:=Tryz.sizeOf20
 v20:=Tryz.zeroValue20
 t37:=Tryz.underlying81
 a37:=Tryz.isAgg81
 z37:=Tryz.sizeOf81
 v37:=Tryz.zeroValue81
 t46:=Tryz.underlying191
 a46:=Tryz.isAgg191
 z46:=Tryz.sizeOf191
 v46:=Tryz.zeroValue191
 t51:=Tryz.underlying205
 a51:=Tryz.isAgg205
 z51:=Tryz.sizeOf205
 v51:=Tryz.zeroValue205
 t53:=Tryz.underlying208
 a53:=Tryz.isAgg208
 z53:=Tryz.sizeOf208
 v53:=Tryz.zeroValue208
 t70:=Tryz.underlying80
 a70:=Tryz.isAgg80
 z70:=Tryz.sizeOf80
 v70:=Tryz.zeroValue80
 t72:=Tryz.underlying83
 a72:=Tryz.isAgg83
 z72:=Tryz.sizeOf83
 v72:=Tryz.zeroValue83
 t75:=Tryz.underlying29
 a75:=Tryz.isAgg29
 z75:=Tryz.sizeOf29
 v75:=Tryz.zeroValue29
 t76:=Tryz.underlying141
 a76:=Tryz.isAgg141
 z76:=Tryz.sizeOf141
 v76:=Tryz.zeroValue141
 t109:=Tryz.underlying192
 a109:=Tryz.isAgg192
 z109:=Tryz.sizeOf192
 v109:=Tryz.zeroValue192
 t127:=Tryz.underlying144
 a127:=Tryz.isAgg144
 z127:=Tryz.sizeOf144
 v127:=Tryz.zeroValue144
 t146:=Tryz.underlying206
 a146:=Tryz.isAgg206
 z146:=Tryz.sizeOf206
 v146:=Tryz.zeroValue206
 t148:=Tryz.underlying209
 a148:=Tryz.isAgg209
 z148:=Tryz.sizeOf209
 v148:=Tryz.zeroValue209
 t164:=Tryz.underlying189
 a164:=Tryz.isAgg189
 z164:=Tryz.sizeOf189
 v164:=Tryz.zeroValue189 }
def Tryz.Builder_Extra_105:Builder.Extra Tryz.prog Tryz.lays105_ren:={
 sizeBuilder:=by kernel_rfl
 liesBuilder:=by kernel_rfl
 t5:=Tryz.underlying5
 a5:=Tryz.isAgg5
 z5:=Tryz.sizeOf5
 v5:=Tryz.zeroValue5
 infoByte:=by kernel_rfl
 cellsByte:=by kernel_rfl
 sizeByte:=by kernel_rfl
 neB5:=by decide }
open Go.RowKit Go.Lib in
def Tryz.strings_Repeat (s:ByteArray) (c:Nat) (w:World) (h:c<=9223372036854775807) (f:s.size * c<=140737488355328) :
  Calls Tryz.prog 128 #[.string s,.int .i64 c] w fun e w'=>e=.returned (.string ⟨(Lib.repeatL s.data.toList c).toArray⟩)/\Below w.heap.size w w':=Any.strings_Repeat Tryz.lays105 Tryz.Builder_Extra_105 s c w h f
end Tw
open Go.ChangeShapes Go.WideShapes
namespace Qb
open Tw
def strsOf:List AV->Option (List (List UInt8))
 | []=>some []
 | .str s::r=>match strsOf r with
  | some l=>some (s::l)
  | none=>none
 | _::_=>none
def joinL:List (List UInt8)->List UInt8->List UInt8
 | [],_=>[]
 | [x],_=>x
 | x::y::r,sep=>x++(sep++joinL (y::r) sep)
theorem lAd:∀ (l:List (List UInt8)) (sep:List UInt8),joinL l sep=Lib.join l sep
 | [],sep=>rfl
 | [x],sep=>(Lib.join_one x sep).symm
 | x::y::r,sep=>by
  rw [Lib.join_cons];show x++(sep++joinL (y::r) sep)=_;rw [lAd (y::r) sep,Lib.join_cons];simp [Lib.joinTail]
def joinF (s:SL) (sep:List UInt8) (h:Heap):yO0 (List UInt8):=
 bif Nat.beq s.len 0 then some ([],h) else
 match s.a with
 | some (A,off)=>bif Nat.ble s.len s.cap then
   match h.read A off s.len with
   | some vs=>match strsOf vs with
    | some xs=>bif Nat.ble xs.length 140737488355328&&Nat.ble (joinL xs sep).length 140737488355328 then some (joinL xs sep,h) else none
    | none=>none
   | none=>none
  else none
 | none=>none
def gAa {μ:Mu}:∀ {vs:List AV} {xs:List (List UInt8)} {ys:List Value},strsOf vs=some xs->VRs μ vs ys->ys=xs.map fun s=>.string ⟨s.toArray⟩
 | [],xs,ys,h,j=>by grind [strsOf,VRs]
 | v::r,xs,ys,h,j=>by
  cases v with
  | str s=>
   simp only [strsOf] at h
   cases f:strsOf r with
   | none=>simp [f] at h
   | some l=>
    simp only [f,xF] at h;subst h;simp only [VRs,VR] at j;obtain ⟨y,p,rfl,rfl,u⟩:=j;rw [gAa f u];rfl
  | _=>simp [strsOf] at h
def gBf {s:SL} {sep r:List UInt8} {h h':Heap} (f:joinF s sep h=some (r,h')) {μ:Mu} {w:World} {args':Array Value} (L:HR μ h w) (U:VRs μ [.slice s.a s.len s.cap s.sz,.str sep] args'.toList) :
  (callFunc 50 args').run Tryz.prog w=.ok (.enter 50 args') w/\Calls Tryz.prog 50 args' w fun e w'=>∃ u,e=.returned u/\iB8 μ h w (.str r) h' u w':=by
 refine ⟨uR Qa.uBh (fn:=Tryz.f50) (by kernel_rfl) (by kernel_rfl) _ _,?_⟩;simp only [VRs] at U;have ⟨y,ys,e1,Q,y2,a1,e2,H,X⟩:=U;subst e2 X;simp only [VR] at H;subst H;have Y:args' = #[y,.string ⟨sep.toArray⟩]:=by grind
 subst Y;unfold joinF at f
 cases J:Nat.beq s.len 0 with
 | true=>
  simp only [J,xA,xF,xI] at f;obtain ⟨rfl,rfl⟩:=f;have hl:s.len=0:=xK J
  have:∃ a c,y=.slice a 0 c:=by
   cases K:s.a with
   | none=>grind [VR]
   | some q=>
    grind [VR]
  obtain ⟨a,c,rfl⟩:=this;refine (Tryz.strings_Join_none a c ⟨sep.toArray⟩ w).mono ?_;rintro e w' ⟨rfl,rfl⟩;exact ⟨_,rfl,μ,by simp [VR],L,Ext.refl μ h w'⟩
 | false=>
  simp only [J,xB] at f
  cases K:s.a with
  | none=>simp [K] at f
  | some q=>
   have ⟨A,off⟩:=q;simp only [K] at f
   cases O:Nat.ble s.len s.cap with
   | false=>simp [O] at f
   | true=>
    simp only [O,xA] at f
    cases B:h.read A off s.len with
    | none=>simp [B] at f
    | some vs=>
     simp only [B] at f
     cases F:strsOf vs with
     | none=>simp [F] at f
     | some xs=>
      simp only [F] at f
      cases C:Nat.ble xs.length 140737488355328&&Nat.ble (joinL xs sep).length 140737488355328 with
      | false=>simp [C] at f
      | true=>
       simp only [C,xA,xF,xI] at f;obtain ⟨rfl,rfl⟩:=f;simp only [xG,Nat.ble_eq] at C O;rw [K] at Q;simp only [VR] at Q;obtain ⟨l,a',cap',V,rfl,h3,S⟩:=Q;have R:0<s.len:=by
        rcases Nat.eq_zero_or_pos s.len with h0 | h0
        ·rw [h0] at J;cases J
        ·exact h0
       rcases S with ⟨S,_⟩ | ⟨rfl,h5,h6,h7⟩
       ·omega
       ·have ⟨ys,_,h8,W,a0⟩:=L.read (P:=Tryz.prog) V B
        have Z:=gAa F W;have M:xs.length=s.len:=by grind
        have I:(xs.map (fun s=>(⟨s.toArray⟩:ByteArray))).map (·.data.toList)=xs:=by
         rw [List.map_map];simp [Function.comp_def]
        have:=Tryz.strings_Join l.b (l.sh+off) cap' (xs.map fun s=>⟨s.toArray⟩) ⟨sep.toArray⟩ w (fun j x hj=>by
          grind)
         (L.dom A l V).2 (by grind) (by grind) (by grind [lAd])
        rw [xS,M,I] at this;refine this.mono ?_;rintro e w' ⟨rfl,p⟩;refine ⟨_,rfl,μ,?_,L.below p,Ext.of_below p⟩
        grind [VR,lAd]
def f50_ok (N:Nat):pC Tryz.prog 50 [(.one .slice),(.one .str)] (.val (.one .str)) (fun x h=>joinF x.1 x.2.1 h):=by
 intro xs h r h' p μ w args' f j;exact gBf p f j
def escF (v:AV) (h:Heap):yO0 AV:=match v with
 | .ptr a=>some (.ptr a,h)
 | _=>none
def f175_ok (N:Nat):fAx Tryz.prog 175 [(.one .any)] (.val (.one .any)) (fun x h=>escF x.1 h):=by
 intro xs h r h' y μ w args' C H;have ⟨v,_⟩:=xs;have f:escF v h=some (r,h'):=y;unfold escF at f
 split at f
 ·rename_i a
  simp only [xF,xI] at f;obtain ⟨rfl,rfl⟩:=f;have j:VRs μ [.ptr a] args'.toList:=H;simp only [VRs] at j;obtain ⟨p,u,I,F,rfl⟩:=j;have B:args' = #[p]:=by grind
  subst B;refine ⟨p,w,?_,μ,F,C,Ext.refl μ _ w⟩;have A:=@run_callFunc_extern Tryz.prog 175 _ Extern.AbiNoEscape.same Tryz.func175 (by kernel_rfl) (by kernel_rfl) (by kernel_rfl) (by kernel_rfl) #[p] w;rw [A];rfl
 ·cases f
def repF (s:List UInt8) (c:Int) (h:Heap):yO0 (List UInt8):=match c with
 | .ofNat n=>bif Nat.ble n 9223372036854775807&&Nat.ble (s.length * n) 140737488355328 then some (Lib.repeatL s n,h) else none
 | .negSucc _=>none
def f128_ok (N:Nat):pC Tryz.prog 128 [(.one .str),(.one (.int .i64))] (.val (.one .str)) (fun x h=>repF x.1 x.2.1 h):=by
 intro xs h r h' A μ w args' F H;obtain ⟨s,c,_⟩:=xs;have f:repF s c h=some (r,h'):=A;unfold repF at f
 split at f
 ·rename_i n
  cases u:(Nat.ble n 9223372036854775807&&Nat.ble (s.length * n) 140737488355328) with
  | false=>simp [u] at f
  | true=>
   simp only [u,xA,xF,xI] at f;obtain ⟨rfl,rfl⟩:=f;simp only [xG,Nat.ble_eq] at u;have p:VRs μ [.str s,.int .i64 (n:Int)] args'.toList:=H;simp only [VRs,VR] at p;obtain ⟨M,y,K,rfl,L,J,I,rfl,B⟩:=p;subst I B;have C:args' = #[.string ⟨s.toArray⟩,.int .i64 (n:Int)]:=by grind
   subst C;refine ⟨uR Qa.uBh (fn:=Tryz.f128) (by kernel_rfl) (by kernel_rfl) _ _,(Tryz.strings_Repeat ⟨s.toArray⟩ n w u.1 u.2).mono ?_⟩;rintro e w' ⟨rfl,j⟩;exact ⟨_,rfl,μ,by simp [Ty.to,VTy.to,CTy.to,VR],F.below j,Ext.of_below j⟩
 ·cases f
def tab:List AV:=Lib.pow10Tab.map (AV.int .u64)
def gTab:Nat:=2
def gTab_is:Tryz.prog.globalNamed "internal/strconv.uint64pow10" = some gTab:=by kernel_rfl
def tabLoc:Ai.Loc:=⟨gTab,0,20,false⟩
theorem tab_len:tab.length=20:=by grind [tab,xS,Lib.pow10Tab_length]
def tB6 {μ:Mu} {h:Heap} {w:World} (hr:HR μ h w) (hp:(5,tabLoc)∈h.pins) (hg:h.t.get 5=some (.row tab .ro)):Lib.TabIs Tryz.prog w "internal/strconv.uint64pow10" .u64 Lib.pow10Tab:=by
 have hμ:=hr.pin _ hp;have hb:RowR μ w tabLoc tab:=hr.blk 5 tabLoc _ hμ hg;unfold Lib.TabIs World.var?;rw [gTab_is];have ⟨e,hs⟩:=hb.shape;have hs':w.shape? gTab=some (e,20):=hs;unfold World.shape? at hs';have hc:∀ (i:Nat) (x:AV),tab[i]? = some x->∃ y,w.cell? ⟨gTab,0+i,none⟩=some y/\VR μ x y:=hb.cell;simp only [World.cell?] at hc;show (match w.heap[gTab]? with | some (.cells cs _ _)=>some cs | _=>none)=_
 cases hq:w.heap[gTab]? with
 | none=>grind
 | some o=>
  rw [hq] at hs' hc
  cases o with
  | cells cs t fz=>
   simp only [xF,xI] at hs';simp only [Option.isSome_none,xE,xL,xC] at hc;simp only [xF]
   apply Array.ext'
   apply List.ext_getElem?
   intro i;rw [Array.getElem?_toList];have hl:=Lib.pow10Tab_length
   by_cases hi:i<20
   ·have ⟨y,h1,h2⟩:=hc i (AV.int .u64 (Lib.pow10Tab[i]'(by omega))) (by grind [tab,List.getElem?_eq_getElem])
    grind [VR,List.getElem?_eq_getElem]
   grind
  | _=>cases hs'
open Classical in
noncomputable def itoaF (i:Int) (h:Heap):yO0 (List UInt8):=
 if (5,tabLoc)∈h.pins/\h.t.get 5=some (.row tab .ro)∧-9223372036854775808<=i/\i<=9223372036854775807 then some (Lib.itoa i,h) else none
def f204_ok (N:Nat):pC Tryz.prog 204 [.one (.int .i64)] (.val (.one .str)) (fun x h=>itoaF x.1 h):=by
 rintro ⟨i,_⟩ h r h' j μ w args' u K;have j:itoaF i h=some (r,h'):=j;unfold itoaF at j
 split at j
 ·rename_i F
  have ⟨B,H,J,A⟩:=F;simp only [xF,xI] at j;obtain ⟨rfl,rfl⟩:=j;have C:=tB6 u B H;refine ⟨uR Qa.uBh (fn:=Tryz.f204) (by kernel_rfl) (by kernel_rfl) _ _,?_⟩;have p:VRs μ [.int .i64 i] args'.toList:=K;simp only [VRs,VR] at p;obtain ⟨y,ys,L,rfl,rfl⟩:=p;have I:args' = #[.int .i64 i]:=by grind
  subst I;refine (Tryz.strconv_Itoa i J A w C).mono ?_;rintro e w' ⟨rfl,k,os,rfl⟩;have f:=Lib.below_grow w.heap.size w (xD _) k os;exact ⟨_,rfl,μ,by simp [Ty.to,VTy.to,CTy.to,VR],u.below f,Ext.of_below f⟩
 ·cases j
end Qb
namespace Qp
end Qp
namespace Qp
noncomputable section
def f119 (N:Nat) (f:zO3) (h:Heap):yO0 Bool:=let w:=!bB f [];(bif w then let B:Bool:=cD (Int.ofNat f.length) 32;(bif B then(iL f 0 fun C=>(jA (f170 N C h) fun H u=>(bif H then(jA (f171 N f 0 u) fun A r=>let F:=pA A (Int.ofNat f.length);(bif F then(jA (f172 N f r) fun y j=>let p:=!y;some (p,j))else some (false,r)))else some (false,u))))else some (false,h))else some (false,h))
def uBn:Ann:=.n
def aR (N:Nat):pC Tryz.prog 119 [zK3] (.val zL3) (fun x h=>f119 N x.1 h):=kD (bA (bAl N) (bA (rAb N) (bA (aAl N) kA))) N uBn Tryz.f119
def f122 (N:Nat) (f:zO3) (h:Heap):yO0 Bool:=(jA (f119 N f h) fun p j=>(bif p then some (true,j)else(jA (f172 N f j) fun u r=>some (u,r))))
def vBn:Ann:=.n
def eB1 (N:Nat):pC Tryz.prog 122 [zK3] (.val zL3) (fun x h=>f122 N x.1 h):=kD (bA (bAl N) (bA (aR N) kA)) N vBn Tryz.f122
def mA6 (N:Nat) (F:SL->Bool->SL->Int->Int->Heap->Option (Out×zH2×Heap)) (j:SL) (v2:Bool) (v5:SL) (r f:Int) (h:Heap):Option (Out×zH2×Heap):=let u:=ltInt f r;(bif u then(ixK v5.a v5.len f 1 fun y=>(iA (.val zK3) (h.cell y) fun A=>(jA (f122 N A h) fun C p=>let w:=!C;(bif w then some (Out.ret,(j,false,()),p)else let B:=fB .i64 (f+1);F j v2 v5 r B p))))else some ((Out.exit 0),(j,v2,()),h))
def mAd (N M:Nat) (j:SL) (v2:Bool) (v5:SL) (p f:Int) (h:Heap):Option (Out×zH2×Heap):=iter (fun r s h=>mA6 N (fun j v2 v5 p f h=>r (j,v2,v5,p,f,()) h) s.1 s.2.1 s.2.2.1 s.2.2.2.1 s.2.2.2.2.1 h) M (j,v2,v5,p,f,()) h
def nAi (N M v0 v2 v5 v6 v7 h):mAd N (M+1) v0 v2 v5 v6 v7 h=mA6 N (mAd N M) v0 v2 v5 v6 v7 h:=rfl
def f120 (N:Nat) (j:SL) (h:Heap):yO0 Bool:=(rD (mAd N N j false j (Int.ofNat j.len) 0 h) fun u (r:zH2) f=>(bif vD u (.exit 0) then let p:Bool:=cD (Int.ofNat r.1.len) 64;some (p,f)else some (r.2.1,f)))
def wBn:Ann:=(.two .n (.two (.two .n (.two (.loop [(0,zJ3),(2,zL3),(5,zJ3),(6,zM3),(7,zM3)] [(.exit 0),.ret] [(0,zJ3),(2,zL3)] .n) .n)) .n))
def dAn (N:Nat):pC Tryz.prog 120 [zJ3] (.val zL3) (fun x h=>f120 N x.1 h):=kD (bA (eB1 N) kA) N wBn Tryz.f120
noncomputable def f196 (N:Nat) (j f:zO3) (h:Heap):yO0 zY2:=Qk.tBn j f h
def cAn (N:Nat):pC Tryz.prog 196 [zK3,zK3] (.tup [zK3,zK3,zL3]) (fun x h=>f196 N x.1 x.2.1 h):=Qk.cAn N
def f173 (N:Nat) (p:zO3) (h:Heap):yO0 Bool:=(jA (f196 N p [58,58] h) fun f r=>(jA (f119 N f.1 r) fun y j=>(bif y then let A:=!f.2.2.1;(bif A then some (true,j)else(jA (f119 N f.2.1 j) fun u w=>some (u,w)))else some (false,j))))
def yBn:Ann:=.n
def fB1 (N:Nat):pC Tryz.prog 173 [zK3] (.val zL3) (fun x h=>f173 N x.1 h):=kD (bA (cAn N) (bA (aR N) kA)) N yBn Tryz.f173
noncomputable def f123 (N:Nat) (j:zX) (h:Heap):yO0 Bool:=let f:=h.push (.row (yRE j) .own);(iA (.val zK3) (f.cell (h.next,1)) fun r=>let u:=bB r [];(bif u then(iA (.val zJ3) (f.cell (h.next,2)) fun A=>let w:=pA (Int.ofNat A.len) 0;(bif w then(iA (.val zJ3) (f.cell (h.next,3)) fun p=>let y:=pA (Int.ofNat p.len) 0;some (y,f))else some (false,f)))else some (false,f)))
def aBo:Ann:=.n
def gB1 (N:Nat):pC Tryz.prog 123 [zD] (.val zL3) (fun x h=>f123 N x.1 h):=kD kA N aBo Tryz.f123
def iB1 (N:Nat) (r:zX->Int->Heap->yO0 Bool) (a0:zX) (a1:Int) (h:Heap):yO0 Bool:=let y:=h.push (.row (yRE a0) .own);let x2:=ltInt 64 a1;(bif x2 then some (false,y)else(iA (.val zM3) (y.cell (h.next,0)) fun F=>let x4:=pA F 3;(bif x4 then(iA (.val zK3) (y.cell (h.next,1)) fun x5=>(jA (f173 N x5 y) fun x6 h7=>(bif x6 then(iA (.val zJ3) (h7.cell (h.next,2)) fun x8=>(jA (f120 N x8 h7) fun x9 w=>(bif x9 then(iA (.val zJ3) (w.cell (h.next,3)) fun S=>let a8:=pA (Int.ofNat S.len) 0;some (a8,w))else some (false,w))))else some (false,h7))))else(jA (α:=zK2) ( let K:=pA F 4;(bif K then some ((a1,(some (h.next,0)),F,K,()),y)else let O:=pA F 5;some ((a1,(some (h.next,0)),F,O,()),y))) fun (f:zK2) j=>(bif f.2.2.2.1 then(vA f.2.1 fun A=>(iA (.val zK3) (j.cell (A.1,A.2+1)) fun a3=>let U:=bB a3 [];(bif U then(vA f.2.1 fun J=>(iA (.val zJ3) (j.cell (J.1,J.2+2)) fun a9=>let a2:Bool:=cD (Int.ofNat a9.len) 1;(bif a2 then(vA f.2.1 fun I=>(iA (.val zJ3) (j.cell (I.1,I.2+2)) fun a5=>(jA (f120 N a5 j) fun Q p=>(bif Q then(vA f.2.1 fun B=>(iA (.val zJ3) (p.cell (B.1,B.2+3)) fun W=>let X:=pA (Int.ofNat W.len) 1;(bif X then(vA f.2.1 fun M=>(iA (.val zJ3) (p.cell (M.1,M.2+3)) fun H=>
 (ixK H.a H.len 0 4 fun Y=>(iA (.val zD) (p.cells Y 4) fun a4=>let b0:=fB .i64 (f.1+1);(jA (r a4 b0 p) fun a7 V=>some (a7,V))))))else some (false,p))))else some (false,p)))))else some (false,j))))else some (false,j))))else(jA (α:=zL1) ( let C:=pA f.2.2.1 1;(bif C then some ((f.2.1,C,()),j)else let b1:=pA f.2.2.1 2;some ((f.2.1,b1,()),j))) fun (L:zL1) u=>(bif L.2.1 then(vA L.1 fun b2=>(iA (.val zD) (u.cells b2 4) fun a6=>(jA (f123 N a6 u) fun R Z=>some (R,Z))))else some (false,u))))))))
def bBo:Ann:=(.two .n (.two .n (.two (.two .n (.two (.two .n (.two .n (.two (.join [(1,zM3),(2,zI3),(8,zM3),(25,zL3)] .n) (.two .n (.two (.join [(2,zI3),(57,zL3)] .n) .n))))) .n)) .n)))
def iBf (N M:Nat):((zX->Int->Heap->yO0 Bool)×Unit):=Nat.rec (fun _ _ _=>none,()) (fun _ r=>(iB1 N r.1,())) M
def f124 (N M:Nat):zX->Int->Heap->yO0 Bool:=(iBf N M).1
def jB1 (N M a0 a1 h):f124 N (M+1) a0 a1 h=iB1 N (f124 N M) a0 a1 h:=rfl
def nA6 (N:Nat):∀ M:Nat,(pC Tryz.prog 124 [zD,zM3] (.val zL3) (fun x h=>f124 N M x.1 x.2.1 h))/\True
 | 0=>⟨(fun xs h r h' f=>by cases f),trivial⟩
 | M+1=>⟨kD (bA (fB1 N) (bA (nA6 N M).1 (bA (gB1 N) (bA (dAn N) kA)))) N bBo Tryz.f124,trivial⟩
def eAn (N:Nat):pC Tryz.prog 124 [zD,zM3] (.val zL3) (fun x h=>f124 N N x.1 x.2.1 h):=(nA6 N N).1
def oA6 (N:Nat) (V:SL->Bool->Bool->SL->Int->Int->Heap->Option (Out×zH2×Heap)) (f:SL) (M v4:Bool) (A:SL) (C y:Int) (h:Heap):Option (Out×zH2×Heap):=let W:=ltInt y C;(bif W then(ixK A.a A.len y 6 fun q2=>(iA (.val zP) (h.cells q2 6) fun x3=>let h4:=h.push (.row yZD .own);(vA (h4.store (h.next,0) (yRF x3)) fun r=>(iA (.val zL3) (r.cell (h.next,0)) fun Y=>(bif Y then let x7:=!M;(bif x7 then some (Out.ret,(f,false,()),r)else(iA (.val zK3) (r.cell (h.next,1)) fun Z=>(jA (f119 N Z r) fun X j=>let F:=!X;(bif F then some (Out.ret,(f,false,()),j)else(iA (.val zD) (j.cells (h.next,2) 4) fun R=>(jA (f124 N N R 1 j) fun Q w=>let H:=!Q;(bif H then some (Out.ret,(f,false,()),w)else let U:=fB .i64 (y+1);V f M v4 A C U w)))))))else(iA (.val zK3) (r.cell (h.next,1)) fun L=>(jA (f119 N L r) fun K p=>let I:=!K;(bif I then some (Out.ret,(f,false,()),p)else(iA (.val zD) (p.cells (h.next,2) 4) fun S=>(jA (f124 N N S 1 p) fun J u=>let O:=!J;(bif O then some (Out.ret,(f,false,()),u)else let B:=fB .i64 (y+1);V f M v4 A C B u)))))))))))else some ((Out.exit 0),(f,v4,()),h))
def nAd (N M:Nat) (j:SL) (r v4:Bool) (f:SL) (u p:Int) (h:Heap):Option (Out×zH2×Heap):=iter (fun w s h=>oA6 N (fun j r v4 f u p h=>w (j,r,v4,f,u,p,()) h) s.1 s.2.1 s.2.2.1 s.2.2.2.1 s.2.2.2.2.1 s.2.2.2.2.2.1 h) M (j,r,v4,f,u,p,()) h
def oAi (N M v0 v1 v4 v7 v8 v9 h):nAd N (M+1) v0 v1 v4 v7 v8 v9 h=oA6 N (nAd N M) v0 v1 v4 v7 v8 v9 h:=rfl
def f121 (N:Nat) (p:SL) (w:Bool) (h:Heap):yO0 Bool:=(rD (nAd N N p w false p (Int.ofNat p.len) 0 h) fun u (f:zH2) j=>(bif vD u (.exit 0) then let r:Bool:=cD (Int.ofNat f.1.len) 64;some (r,j)else some (f.2.1,j)))
def cBo:Ann:=(.two .n (.two (.two .n (.two (.loop [(0,zJ3),(1,zL3),(4,zL3),(7,zJ3),(8,zM3),(9,zM3)] [(.exit 0),.ret] [(0,zJ3),(4,zL3)] .n) .n)) .n))
def kB1 (N:Nat):pC Tryz.prog 121 [zJ3,zL3] (.val zL3) (fun x h=>f121 N x.1 x.2.1 h):=kD (bA (eAn N) (bA (aR N) kA)) N cBo Tryz.f121
def f79 (N:Nat) (w:zF1) (h:Heap):yO0 Bool:=let r:=h.push (.row (yRG w) .own);(iA (.val zK3) (r.cell (h.next,1)) fun A=>(jA (f119 N A r) fun B f=>(bif B then(iA (.val zJ3) (f.cell (h.next,2)) fun C=>(jA (f120 N C f) fun y p=>(bif y then(iA (.val zJ3) (p.cell (h.next,3)) fun F=>(jA (f121 N F false p) fun u j=>some (u,j)))else some (false,p))))else some (false,f))))
def qBt:Ann:=.n
def dBo (N:Nat):pC Tryz.prog 79 [zJ] (.val zL3) (fun x h=>f79 N x.1 h):=kD (bA (kB1 N) (bA (dAn N) (bA (aR N) kA))) N qBt Tryz.f79
def pA6 (N:Nat) (B:zH3->Bool->SL->Int->Int->Heap->Option (Out×zL1×Heap)) (f:zH3) (v2:Bool) (p:SL) (r j:Int) (h:Heap):Option (Out×zL1×Heap):=let I:=ltInt j r;(bif I then(ixK p.a p.len j 1 fun J=>(iA (.val zK3) (h.cell J) fun y=>let F:=!bB y [42];(bif F then(jA (f119 N y h) fun H A=>let C:=!H;(bif C then some (Out.ret,(f,false,()),A)else let u:=fB .i64 (j+1);B f v2 p r u A))else let w:=fB .i64 (j+1);B f v2 p r w h)))else some ((Out.exit 0),(f,v2,()),h))
def qA6 (N M:Nat) (j:zH3) (v2:Bool) (r:SL) (f p:Int) (h:Heap):Option (Out×zL1×Heap):=iter (fun u s h=>pA6 N (fun j v2 r f p h=>u (j,v2,r,f,p,()) h) s.1 s.2.1 s.2.2.1 s.2.2.2.1 s.2.2.2.2.1 h) M (j,v2,r,f,p,()) h
def pAi (N M v1 v2 v6 v7 v8 h):qA6 N (M+1) v1 v2 v6 v7 v8 h=pA6 N (qA6 N M) v1 v2 v6 v7 v8 h:=rfl
def f198 (N:Nat) (I:zD1) (h:Heap):yO0 Bool:=let H:=h.push (.row (yRH I) .own);(iA (.val zJ3) (H.cell (h.next,1)) fun F=>(rD (qA6 N N (some (h.next,0)) false F (Int.ofNat F.len) 0 H) fun C (p:zL1) j=>(bif vD C (.exit 0) then(vA p.1 fun u=>(iA (.val zK3) (j.cell (u.1,u.2+0)) fun w=>(jA (f119 N w j) fun B f=>(bif B then(vA p.1 fun r=>(iA (.val zJ3) (f.cell (r.1,r.2+1)) fun y=>let A:Bool:=cD (Int.ofNat y.len) 64;some (A,f)))else some (false,f)))))else some (p.2.1,j))))
def eBo:Ann:=(.two .n (.two (.two .n (.two (.loop [(1,zI3),(2,zL3),(6,zJ3),(7,zM3),(8,zM3)] [(.exit 0),.ret] [(1,zI3),(2,zL3)] .n) .n)) .n))
def fAn (N:Nat):pC Tryz.prog 198 [zM] (.val zL3) (fun x h=>f198 N x.1 h):=kD (bA (aR N) kA) N eBo Tryz.f198
def f200 (N:Nat) (U:zZ) (h:Heap):yO0 Bool:=let L:=h.push (.row (yRD U) .own);(iA (.val zM) (L.cells (h.next,2) 2) fun R=>(jA (f164 N R ([],⟨none,0,0,0⟩,()) L) fun K f=>(iA (.val zM3) (f.cell (h.next,0)) fun p=>let O:=pA p 1;(bif O then(bif K then(iA (.val zM3) (f.cell (h.next,1)) fun S=>let Q:Bool:=cD 0 S;(bif Q then(iA (.val zM3) (f.cell (h.next,1)) fun M=>let B:Bool:=cD M 2147483647;some (B,f))else some (false,f)))else some (false,f))else let r:=pA p 2;(bif r then(bif K then(iA (.val zM3) (f.cell (h.next,1)) fun I=>let H:=pA I 0;(bif H then some (true,f)else(iA (.val zM3) (f.cell (h.next,1)) fun j=>let y:=pA j 1;some (y,f))))else some (false,f))else let J:=pA p 3;(bif J then(iA (.val zM3) (f.cell (h.next,1)) fun F=>let C:=pA F 0;(bif C then(iA (.val zM) (f.cells (h.next,2) 2) fun u=>(jA (f198 N u f) fun A w=>some (A,w)))else some (false,f)))else some (false,f)))))))
def fBo:Ann:=.n
def gAn (N:Nat):pC Tryz.prog 200 [zG] (.val zL3) (fun x h=>f200 N x.1 h):=kD (bA (fAn N) (bA (wAc N) kA)) N fBo Tryz.f200
def f229 (N:Nat) (p:zZ) (h:Heap):yO0 Bool:=let f:=h.push (.row (yRD p) .own);(iA (.val zG) (f.cells (h.next,0) 4) fun r=>(jA (f200 N r f) fun u j=>let w:=!u;some (w,j)))
def gBo:Ann:=.n
def jBf (N:Nat):pC Tryz.prog 229 [zG] (.val zL3) (fun x h=>f229 N x.1 h):=kD (bA (gAn N) kA) N gBo Tryz.f229
def wO (N:Nat) (C:SL->(Unit)->Int->Int->Int->Heap->Option (Out×zB2×Heap)) (j:SL) (F:(Unit)) (v4 p f:Int) (h:Heap):Option (Out×zB2×Heap):=let u:=ltInt f p;(bif u then(ixK j.a j.len f 4 fun A=>(iA (.val zG) (h.cells A 4) fun y=>(jA (f229 N y h) fun B r=>(bif B then some (Out.ret,(f,()),r)else let w:=fB .i64 (f+1);C j (()) v4 p w r))))else some ((Out.exit 0),(v4,()),h))
def yO (N M:Nat) (j:SL) (p:(Unit)) (v4 f r:Int) (h:Heap):Option (Out×zB2×Heap):=iter (fun u s h=>wO N (fun j p v4 f r h=>u (j,p,v4,f,r,()) h) s.1 s.2.1 s.2.2.1 s.2.2.2.1 s.2.2.2.2.1 h) M (j,p,v4,f,r,()) h
def kA1 (N M v0 v1 v4 v7 v8 h):yO N (M+1) v0 v1 v4 v7 v8 h=wO N (yO N M) v0 v1 v4 v7 v8 h:=rfl
def oAd (N:Nat) (f:SL) (u:(Unit)) (h:Heap):yO0 Int:=(rD (yO N N f (()) 0 (Int.ofNat f.len) 0 h) fun r (p:zB2) j=>(bif vD r (.exit 0) then some ((-1),j)else some (p.1,j)))
def yAu:Ann:=(.two .n (.two (.two .n (.two (.loop [(0,zJ3),(1,(.clo 229 [])),(4,zM3),(7,zM3),(8,zM3)] [(.exit 0),.ret] [(4,zM3)] .n) .n)) .n))
def iAn (N:Nat):pC Tryz.prog 239 [zJ3,(.clo 229 [])] (.val zM3) (fun x h=>oAd N x.1 x.2.1 h):=kD (bA (jBf N) kA) N yAu Tryz.f239
def pAd (N:Nat) (j:SL) (u:(Unit)) (h:Heap):yO0 Bool:=(jA (oAd N j (()) h) fun f p=>let r:Bool:=cD 0 f;some (r,p))
def aAv:Ann:=.n
def jAn (N:Nat):pC Tryz.prog 228 [zJ3,(.clo 229 [])] (.val zL3) (fun x h=>pAd N x.1 x.2.1 h):=kD (iC (sel:=fun a=>mJ 1 229 a) (iAn N) kA) N aAv Tryz.f228
def f216 (N:Nat) (f:SL) (h:Heap):yO0 Bool:=let j:Bool:=cD (Int.ofNat f.len) 64;(bif j then(jA (pAd N f (()) h) fun p r=>let u:=!p;some (u,r))else some (false,h))
def iBo:Ann:=.n
def kBf (N:Nat):pC Tryz.prog 216 [zJ3] (.val zL3) (fun x h=>f216 N x.1 h):=kD (iC (sel:=fun a=>mJ 1 229 a) (jAn N) kA) N iBo Tryz.f216
def rA6 (N:Nat) (I:zH3->Bool->zH3->SL->Int->Int->Heap->Option (Out×zY×Heap)) (C:zH3) (v3:Bool) (v4:zH3) (p:SL) (r j:Int) (h:Heap):Option (Out×zY×Heap):=let A:=ltInt j r;(bif A then(jA (α:=zI2) ((ixK p.a p.len j 1 fun y=>(iA (.val zK3) (h.cell y) fun u=>(bif v3 then(jA (f119 N u h) fun F B=>some ((C,F,v4,p,r,j,()),B))else some ((C,false,v4,p,r,j,()),h))))) fun (f:zI2) w=>let H:=fB .i64 (f.2.2.2.2.2.1+1);I f.1 f.2.1 f.2.2.1 f.2.2.2.1 f.2.2.2.2.1 H w)else some ((Out.exit 7),(C,v3,v4,()),h))
def tA6 (N M:Nat) (r:zH3) (v3:Bool) (v4:zH3) (p:SL) (f j:Int) (h:Heap):Option (Out×zY×Heap):=iter (fun u s h=>rA6 N (fun r v3 v4 p f j h=>u (r,v3,v4,p,f,j,()) h) s.1 s.2.1 s.2.2.1 s.2.2.2.1 s.2.2.2.2.1 s.2.2.2.2.2.1 h) M (r,v3,v4,p,f,j,()) h
def qAi (N M v1 v3 v4 v28 v29 v30 h):tA6 N (M+1) v1 v3 v4 v28 v29 v30 h=rA6 N (tA6 N M) v1 v3 v4 v28 v29 v30 h:=rfl
def f199 (N:Nat) (a0:zW) (h:Heap):yO0 Bool:=let Y:=h.push (.row (yRB a0) .own);(iA (.val zC) (Y.cells (h.next,0) 15) fun x2=>let h3:=Y.push (.row yZB .own);(vA (h3.store (Y.next,0) (yRB x2)) fun h4=>(vA (α:=Sum (zN1×Heap) (Sum (zI1×Heap) (Empty))) ((iA (.val zM3) (h4.cell (h.next,0)) fun x5=>(vA (α:=Sum (zY×Heap) (Sum (zN1×Heap) (Sum ((Unit)×Heap) (Empty)))) ((vA (α:=Sum (zU×Heap) (Sum (zN1×Heap) (Sum (zY×Heap) (Sum ((Unit)×Heap) (Empty))))) ((vA (α:=Sum (zY×Heap) (Sum (zN1×Heap) (Sum (zU×Heap) (Sum (zY×Heap) (Sum ((Unit)×Heap) (Empty)))))) ((vA (α:=Sum (zY×Heap) (Sum (zN1×Heap) (Sum (zY×Heap) (Sum (zU×Heap) (Sum (zY×Heap) (Sum ((Unit)×Heap) (Empty))))))) ((vA (α:=Sum (zU×Heap) (Sum (zY×Heap) (Sum (zY×Heap) (Sum (zU×Heap) (Sum (zY×Heap) (Sum ((Unit)×Heap) (Empty))))))) ((vA (α:=Sum (zY1×Heap) (Sum (zU×Heap) (Empty))) ( let x6:=pA x5 2;(bif x6 then(bif x6 then some (Sum.inr (Sum.inl (((some (h.next,0)),(some (Y.next,0)),()),h4)))else some (Sum.inl (((some (h.next,0)),true,(some (Y.next,0)),x5,()),h4)))else let x7:=pA x5 3;(bif x7 then some (Sum.inr (Sum.inl (((some (h.next,0)),(some (Y.next,0)),()),h4)))else some (Sum.inl (((some (h.next,0)),true,(some (Y.next,0)),x5,()),h4))))) fun j8=>(mC j8 (fun (p:zY1) u=>let k1:=pA p.2.2.2.1 7;(bif k1 then some (Sum.inr (Sum.inl ((p.1,p.2.1,p.2.2.1,()),u)))else let i8:=pA p.2.2.2.1 6;(bif i8 then some (Sum.inr (Sum.inr (Sum.inl ((p.1,p.2.1,p.2.2.1,()),u))))
 else let m1:=pA p.2.2.2.1 5;(bif m1 then some (Sum.inr (Sum.inr (Sum.inr (Sum.inl ((p.1,p.2.2.1,()),u)))))else let g5:=pA p.2.2.2.1 1;(bif g5 then(bif g5 then some (Sum.inr (Sum.inr (Sum.inr (Sum.inr (Sum.inl ((p.1,p.2.1,p.2.2.1,()),u))))))else some (Sum.inr (Sum.inr (Sum.inr (Sum.inr (Sum.inr (Sum.inl ((()),u))))))))else let n3:=pA p.2.2.2.1 4;(bif n3 then some (Sum.inr (Sum.inr (Sum.inr (Sum.inr (Sum.inl ((p.1,p.2.1,p.2.2.1,()),u))))))else some (Sum.inr (Sum.inr (Sum.inr (Sum.inr (Sum.inr (Sum.inl ((()),u))))))))))))) fun i9=>(mC i9 (fun (j1:zU) m6=>some (Sum.inl (j1,m6))) fun _=>none)))) fun l8=>(mC l8 (fun (a2:zU) b0=>(vA a2.1 fun b6=>(iA (.val zM) (b0.cells (b6.1,b6.2+10) 2) fun m2=>(jA (f198 N m2 b0) fun k7 n1=>(vA a2.2.1 fun b5=>(vA (n1.store (b5.1,b5.2+10) yZI) fun i3=>some (Sum.inr (Sum.inl ((k7,a2.2.1,()),i3))))))))) fun m7=>(mC m7 (fun (k5:zY) i4=>some (Sum.inl (k5,i4))) fun l4=>(mC l4 (fun (m5:zY) k8=>some (Sum.inr (Sum.inr (Sum.inl (m5,k8))))) fun l6=>(mC l6 (fun (j6:zU) m0=>some (Sum.inr (Sum.inr (Sum.inr (Sum.inl (j6,m0)))))) fun k2=>(mC k2 (fun (n2:zY) i6=>some (Sum.inr (Sum.inr (Sum.inr (Sum.inr (Sum.inl (n2,i6))))))) fun j5=>(mC j5 (fun (n8:(Unit)) h7=>some (Sum.inr (Sum.inr (Sum.inr (Sum.inr (Sum.inr (Sum.inl ((()),h7)))))))) fun _=>
 none)))))))) fun n0=>(mC n0 (fun (H:zY) c4=>(vA H.1 fun d8=>(iA (.val zJ3) (c4.cell (d8.1,d8.2+13)) fun f1=>(rD (tA6 N N H.1 H.2.1 H.2.2.1 f1 (Int.ofNat f1.len) 0 c4) fun _ (r:zY) I=>(jA (α:=zY) ((bif r.2.1 then(vA r.1 fun d0=>(iA (.val zJ3) (I.cell (d0.1,d0.2+13)) fun m4=>(vA r.1 fun a8=>(iA (.val zJ3) (I.cell (a8.1,a8.2+14)) fun j7=>let j4:=pA (Int.ofNat m4.len) (Int.ofNat j7.len);some ((r.1,j4,r.2.2.1,()),I)))))else some ((r.1,false,r.2.2.1,()),I))) fun (c9:zY) k0=>(vA c9.2.2.1 fun c6=>(vA (k0.store (c6.1,c6.2+13) yZL) fun l7=>some (Sum.inl (c9,l7))))))))) fun h5=>(mC h5 (fun (j3:zN1) i7=>some (Sum.inr (Sum.inl (j3,i7)))) fun h8=>(mC h8 (fun (k4:zY) i5=>some (Sum.inl (k4,i5))) fun l2=>(mC l2 (fun (j2:zU) l0=>some (Sum.inr (Sum.inr (Sum.inl (j2,l0))))) fun k6=>(mC k6 (fun (l9:zY) l1=>some (Sum.inr (Sum.inr (Sum.inr (Sum.inl (l9,l1)))))) fun j0=>(mC j0 (fun (n7:(Unit)) m8=>some (Sum.inr (Sum.inr (Sum.inr (Sum.inr (Sum.inl ((()),m8))))))) fun _=>none)))))))) fun h6=>(mC h6 (fun (y:zY) X=>(jA (α:=zN1) ((bif y.2.1 then(vA y.1 fun c5=>(iA (.val zK3) (X.cell (c5.1,c5.2+12)) fun h9=>(jA (f173 N h9 X) fun l3 a1=>(bif l3 then(vA y.1 fun b4=>(iA (.val zJ3) (a1.cell (b4.1,b4.2+14)) fun k3=>
 (jA (f216 N k3 a1) fun k9 m3=>some ((k9,y.2.2.1,()),m3))))else some ((false,y.2.2.1,()),a1)))))else some ((false,y.2.2.1,()),X))) fun (Z:zN1) l5=>(vA Z.2.1 fun Q=>(vA (l5.store (Q.1,Q.2+12) [(.str [])]) fun a5=>(vA Z.2.1 fun M=>(vA (a5.store (M.1,M.2+14) yZL) fun e5=>some (Sum.inr (Sum.inl (Z,e5))))))))) fun m9=>(mC m9 (fun (e4:zN1) d9=>some (Sum.inr (Sum.inl (e4,d9)))) fun d5=>(mC d5 (fun (e7:zU) g1=>some (Sum.inl (e7,g1))) fun c3=>(mC c3 (fun (e9:zY) b9=>some (Sum.inr (Sum.inr (Sum.inl (e9,b9))))) fun f0=>(mC f0 (fun (n6:(Unit)) b1=>some (Sum.inr (Sum.inr (Sum.inr (Sum.inl ((()),b1)))))) fun _=>none))))))) fun a7=>(mC a7 (fun (f:zU) j=>(jA (α:=zY) ((vA f.1 fun J=>(iA (.val zM3) (j.cell (J.1,J.2+9)) fun f6=>let g7:Bool:=cD 1 f6;(bif g7 then(vA f.1 fun O=>(iA (.val zM3) (j.cell (O.1,O.2+9)) fun f5=>let h2:Bool:=cD f5 4;(bif h2 then(vA f.1 fun L=>(iA (.val zG) (j.cells (L.1,L.2+5) 4) fun e6=>(jA (f200 N e6 j) fun d3 g8=>some ((f.1,d3,f.2.1,()),g8))))else some ((f.1,false,f.2.1,()),j))))else some ((f.1,false,f.2.1,()),j))))) fun (F:zY) d4=>(vA F.2.2.1 fun V=>(vA (d4.store (V.1,V.2+9) yZK) fun e2=>
 (vA F.2.2.1 fun U=>(vA (e2.store (U.1,U.2+5) yZH) fun b8=>some (Sum.inl (F,b8)))))))) fun f3=>(mC f3 (fun (e8:zN1) g9=>some (Sum.inr (Sum.inl (e8,g9)))) fun b2=>(mC b2 (fun (f8:zY) a3=>some (Sum.inl (f8,a3))) fun g0=>(mC g0 (fun (n4:(Unit)) b7=>some (Sum.inr (Sum.inr (Sum.inl ((()),b7))))) fun _=>none)))))) fun g6=>(mC g6 (fun (w:zY) A=>(jA (α:=zN1) ((bif w.2.1 then(vA w.1 fun S=>(iA (.val zG) (A.cells (S.1,S.2+1) 4) fun c8=>(jA (f200 N c8 A) fun g4 d6=>some ((g4,w.2.2.1,()),d6))))else some ((false,w.2.2.1,()),A))) fun (W:zN1) f9=>(vA W.2.1 fun K=>(vA (f9.store (K.1,K.2+1) yZH) fun b3=>some (Sum.inl (W,b3)))))) fun a9=>(mC a9 (fun (f4:zN1) f2=>some (Sum.inl (f4,f2))) fun c0=>(mC c0 (fun (n5:(Unit)) g3=>some (Sum.inr (Sum.inl ((false,()),g3)))) fun _=>none)))))) fun a4=>(mC a4 (fun (B:zN1) a6=>(vA B.2.1 fun R=>(vA (a6.store (R.1,R.2+0) yZK) fun C=>(bif B.1 then(vA B.2.1 fun d7=>(iA (.val zC) (C.cells d7 15) fun f7=>(jA (f165 N f7 (0,0,0,[],⟨none,0,0,0⟩,0,0,[],⟨none,0,0,0⟩,0,[],⟨none,0,0,0⟩,[],⟨none,0,0,0⟩,⟨none,0,0,0⟩,()) C) fun e3 c7=>
 some (e3,c7))))else some (false,C))))) fun e1=>(mC e1 (fun (c2:zI1) g2=>some (c2.1,g2)) fun _=>none)))))
def jBo:Ann:=(.two .n (.two .n (.two .n (.two (.joinO [(.norm,[(3,zL3),(4,zI3)]),(.ret,[(2,zL3)])] (.two .n (.two (.two (.two (.two (.joinO [(.norm,[(1,zI3),(3,zL3),(4,zI3)]),((.exit 0),[(3,zL3),(4,zI3)]),((.exit 6),[])] (.two (.two (.joinO [(.norm,[(1,zI3),(4,zI3)]),((.exit 0),[(3,zL3),(4,zI3)]),((.exit 5),[(1,zI3),(3,zL3),(4,zI3)]),((.exit 6),[])] (.two (.two (.joinO [(.norm,[(1,zI3),(3,zL3),(4,zI3)]),((.exit 0),[(3,zL3),(4,zI3)]),((.exit 4),[(1,zI3),(4,zI3)]),((.exit 5),[(1,zI3),(3,zL3),(4,zI3)]),((.exit 6),[])] (.two (.two (.joinO [(.norm,[(1,zI3),(3,zL3),(4,zI3)]),((.exit 0),[(3,zL3),(4,zI3)]),((.exit 3),[(1,zI3),(3,zL3),(4,zI3)]),((.exit 4),[(1,zI3),(4,zI3)]),((.exit 5),[(1,zI3),(3,zL3),(4,zI3)]),((.exit 6),[])] (.two (.two (.joinO [(.norm,[(1,zI3),(4,zI3)]),((.exit 2),[(1,zI3),(3,zL3),(4,zI3)]),((.exit 3),[(1,zI3),(3,zL3),(4,zI3)]),((.exit 4),[(1,zI3),(4,zI3)]),((.exit 5),[(1,zI3),(3,zL3),(4,zI3)]),((.exit 6),[])] (.two (.two (.two (.joinO [(.norm,[(1,zI3),(3,zL3),(4,zI3),(9,zM3)]),((.exit 1),[(1,zI3),(4,zI3)])] .n) .n) .n) .n)) .n) .n)) (.two (.two .n (.two (.loop [(1,zI3),(3,zL3),(4,zI3),(28,zJ3),(29,zM3),(30,zM3)] [(.exit 7)] [(1,zI3),(3,zL3),(4,zI3)] (.two .n (.two .n (.two (.join [(1,zI3),(3,zL3),(4,zI3),(28,zJ3),(29,zM3),(30,zM3)] .n) .n)))) .n)) (.two (.join [(1,zI3),(3,zL3),(4,zI3)] .n) .n))) .n)) (.two (.two (.join [(3,zL3),(4,zI3)] .n) .n) .n)) .n)) (.two (.join [(1,zI3),(3,zL3),(4,zI3)] .n) .n)) .n)) (.two (.two (.join [(3,zL3),(4,zI3)] .n) .n) .n)) .n) .n) .n))) .n))))
def lB1 (N:Nat):pC Tryz.prog 199 [zC] (.val zL3) (fun x h=>f199 N x.1 h):=kD (bA (kBf N) (bA (gAn N) (bA (fAn N) (bA (fB1 N) (bA (fB0 N) (bA (aR N) kA)))))) N jBo Tryz.f199
def f197 (N:Nat) (r:zR) (h:Heap):yO0 Bool:=let f:=h.push (.row (yRA r) .own);(iA (.val zL3) (f.cell (h.next,8)) fun w=>(bif w then(iA (.val zC) (f.cells (h.next,11) 15) fun y=>(jA (f199 N y f) fun C j=>(bif C then some (true,j)else(iA (.val zL3) (j.cell (h.next,8)) fun u=>let B:=!u;some (B,j)))))else(iA (.val zL3) (f.cell (h.next,8)) fun A=>let p:=!A;some (p,f))))
def kBo:Ann:=.n
def lBf (N:Nat):pC Tryz.prog 197 [zA] (.val zL3) (fun x h=>f197 N x.1 h):=kD (bA (lB1 N) kA) N kBo Tryz.f197
noncomputable def f201 (N:Nat) (a0 a1:zR) (h:Heap):yO0 zR:=let J:=h.push (.row (yRA a0) .own);let A:=J.push (.row (yRA a1) .own);let r:=A.push (.row yZA .own);(iA (.val zL3) (r.cell (h.next,8)) fun x4=>let x5:=!x4;(bif x5 then(iA (.val zA) (r.cells (J.next,0) 32) fun Z=>(vA (r.store (A.next,0) (yRA Z)) fun Y=>(iA (.val zA) (Y.cells (A.next,0) 32) fun x8=>some (x8,Y))))
 else(jA (α:=zU) ((iA (.val zM3) (r.cell (h.next,0)) fun I=>(jA (α:=zN2) ( let B:=pA I 1;(bif B then some (((some (J.next,0)),(some (A.next,0)),I,B,()),r)else let L:=pA I 10;some (((some (J.next,0)),(some (A.next,0)),I,L,()),r))) fun (f:zN2) p=>(bif f.2.2.2.1 then(vA f.1 fun F=>(vA (p.store (F.1,F.2+8) [(.bool false)]) fun O=>(vA f.1 fun w=>(vA (O.store (w.1,w.2+11) yZB) fun W=>some ((f.1,f.2.1,()),W)))))else let R:=pA f.2.2.1 4;(bif R then(vA f.1 fun u=>(vA (p.store (u.1,u.2+8) [(.bool false)]) fun S=>(vA f.1 fun y=>(vA (S.store (y.1,y.2+31) yZL) fun Q=>some ((f.1,f.2.1,()),Q)))))else some ((f.1,f.2.1,()),p)))))) fun (j:zU) C=>(vA j.1 fun X=>(iA (.val zA) (C.cells X 32) fun K=>(vA j.2.1 fun V=>(vA (C.store V (yRA K)) fun H=>(vA j.2.1 fun U=>(iA (.val zA) (H.cells U 32) fun M=>some (M,H))))))))))
def lBo:Ann:=(.two .n (.two .n (.two (.join [(3,zI3),(4,zI3)] (.two .n (.two (.two (.join [(3,zI3),(4,zI3),(10,zM3),(11,zL3)] .n) .n) .n))) .n)))
def mBf (N:Nat):pC Tryz.prog 201 [zA,zA] (.val zA) (fun x h=>f201 N x.1 x.2.1 h):=kD kA N lBo Tryz.f201
noncomputable def uA6 (N:Nat) (rec125:SL->Int->Heap->yO0 Bool) (rec174:zR->Int->Heap->yO0 Bool) (F:Int->Bool->SL->Int->Int->Heap->Option (Out×zI1×Heap)) (y:Int) (v4:Bool) (p:SL) (j f:Int) (h:Heap):Option (Out×zI1×Heap):=let H:=ltInt f j;(bif H then(ixK p.a p.len f 32 fun B=>(iA (.val zA) (h.cells B 32) fun K=>let J:=h.push (.row yZA .own);(vA (J.store (h.next,0) (yRA K)) fun A=>(iA (.val zA) (A.cells (h.next,0) 32) fun I=>(jA (rec174 I y A) fun C w=>
 let u:=!C;(bif u then some (Out.ret,(false,()),w)else let r:=fB .i64 (f+1);F y v4 p j r w))))))else some ((Out.exit 0),(v4,()),h))
def qAd (N:Nat) (rec125:SL->Int->Heap->yO0 Bool) (rec174:zR->Int->Heap->yO0 Bool) (M:Nat) (r:Int) (v4:Bool) (p:SL) (j f:Int) (h:Heap):Option (Out×zI1×Heap):=iter (fun u s h=>uA6 N rec125 rec174 (fun r v4 p j f h=>u (r,v4,p,j,f,()) h) s.1 s.2.1 s.2.2.1 s.2.2.2.1 s.2.2.2.2.1 h) M (r,v4,p,j,f,()) h
def rAi (N rec125 rec174 M v1 v4 v9 v10 v11 h):qAd N rec125 rec174 (M+1) v1 v4 v9 v10 v11 h=uA6 N rec125 rec174 (qAd N rec125 rec174 M) v1 v4 v9 v10 v11 h:=rfl
def mB1 (N:Nat) (rec125:SL->Int->Heap->yO0 Bool) (rec174:zR->Int->Heap->yO0 Bool) (r:SL) (u:Int) (h:Heap):yO0 Bool:=let w:=ltInt 64 u;(bif w then some (false,h)else(rD (qAd N rec125 rec174 N u false r (Int.ofNat r.len) 0 h) fun p (j:zI1) f=>(bif vD p (.exit 0) then some (true,f)else some (j.1,f))))
def mBo:Ann:=(.two .n (.two .n (.two (.two .n (.two (.loop [(1,zM3),(4,zL3),(9,zJ3),(10,zM3),(11,zM3)] [(.exit 0),.ret] [(4,zL3)] .n) .n)) .n)))
def vAq (N:Nat) (rec125:SL->Int->Heap->yO0 Bool) (rec174:zR->Int->Heap->yO0 Bool) (a0:zR) (Z:Int) (h:Heap):yO0 Bool:=let p:=h.push (.row (yRA a0) .own);(iA (.val zA) (p.cells (h.next,0) 32) fun x2=>let h3:=p.push (.row yZA .own);(vA (h3.store (p.next,0) (yRA x2)) fun j=>(vA (α:=Sum (zY×Heap) (Sum (zI1×Heap) (Empty))) ((iA (.val zM3) (j.cell (h.next,0)) fun H=>(vA (α:=Sum (zU×Heap) (Sum (zY×Heap) (Sum ((Unit)×Heap) (Sum (zY×Heap) (Empty))))) ((vA (α:=Sum (zU×Heap) (Sum (zY×Heap) (Sum ((Unit)×Heap) (Sum (zU×Heap) (Sum (zY×Heap) (Empty)))))) ((vA (α:=Sum (zK1×Heap) (Sum (zY×Heap) (Sum ((Unit)×Heap) (Sum (zU×Heap) (Sum (zU×Heap) (Sum (zY×Heap) (Empty))))))) ((vA (α:=Sum (zK1×Heap) (Sum (zY×Heap) (Sum ((Unit)×Heap) (Sum (zK1×Heap) (Sum (zU×Heap) (Sum (zU×Heap) (Sum (zY×Heap) (Empty)))))))) ( let x6:=pA H 1;(bif x6 then(jA (α:=zY) ((iA (.val zK3) (j.cell (h.next,3)) fun x7=>(jA (f119 N x7 j) fun x8 h9=>(bif x8 then(iA (.val zD) (h9.cells (h.next,4) 4) fun j9=>(jA (f124 N N j9 1 h9) fun l1 V=>(bif l1 then(iA (.val zA) (V.cells (h.next,0) 32) fun k1=>(jA (f197 N k1 V) fun o5 n6=>
 some (((some (h.next,0)),o5,(some (p.next,0)),()),n6)))else some (((some (h.next,0)),false,(some (p.next,0)),()),V))))else some (((some (h.next,0)),false,(some (p.next,0)),()),h9))))) fun (I:zY) p7=>(vA I.2.2.1 fun d4=>(vA (p7.store (d4.1,d4.2+2) [(.bool false)]) fun k3=>(vA I.2.2.1 fun i3=>(vA (k3.store (i3.1,i3.2+3) [(.str [])]) fun l5=>(vA I.2.2.1 fun f5=>(vA (l5.store (f5.1,f5.2+4) yZG) fun n2=>some (Sum.inr (Sum.inl (I,n2))))))))))else let k0:=pA H 2;(bif k0 then(jA (α:=zY) ((iA (.val zM) (j.cells (h.next,9) 2) fun o6=>(jA (f198 N o6 j) fun m5 Y=>(bif m5 then(iA (.val zC) (Y.cells (h.next,11) 15) fun j6=>(jA (f199 N j6 Y) fun j7 n3=>some (((some (h.next,0)),j7,(some (p.next,0)),()),n3)))else some (((some (h.next,0)),false,(some (p.next,0)),()),Y))))) fun (W:zY) k7=>(vA W.2.2.1 fun c3=>(vA (k7.store (c3.1,c3.2+9) yZI) fun m7=>(vA W.2.2.1 fun f8=>(vA (m7.store (f8.1,f8.2+11) yZB) fun j2=>some (Sum.inr (Sum.inl (W,j2))))))))else let l6:=pA H 3
 (bif l6 then(jA (α:=zY) ((iA (.val zM3) (j.cell (h.next,11)) fun k8=>let m2:=pA k8 6;(bif m2 then(iA (.val zC) (j.cells (h.next,11) 15) fun n5=>(jA (f199 N n5 j) fun p5 m3=>some (((some (h.next,0)),p5,(some (p.next,0)),()),m3)))else some (((some (h.next,0)),false,(some (p.next,0)),()),j)))) fun (a6:zY) o9=>(vA a6.2.2.1 fun d5=>(vA (o9.store (d5.1,d5.2+11) yZB) fun j5=>some (Sum.inr (Sum.inl (a6,j5))))))else let p6:=pA H 4;(bif p6 then(iA (.val zL3) (j.cell (h.next,8)) fun k6=>let m4:=!k6;(bif m4 then some (Sum.inl ((Z,(some (h.next,0)),true,(some (p.next,0)),()),j))else(iA (.val zJ3) (j.cell (h.next,31)) fun n7=>let m1:=fB .i64 (Z+1);(jA (rec125 n7 m1 j) fun n8 j4=>some (Sum.inl ((Z,(some (h.next,0)),n8,(some (p.next,0)),()),j4))))))else let l9:=pA H 5;(bif l9 then some (Sum.inl ((Z,(some (h.next,0)),true,(some (p.next,0)),()),j))else(vA (α:=Sum (zY1×Heap) (Sum (zK1×Heap) (Empty))) ( let b1:=pA H 6;(bif b1 then
 (bif b1 then some (Sum.inr (Sum.inl ((Z,(some (h.next,0)),true,(some (p.next,0)),()),j)))else some (Sum.inl (((some (h.next,0)),true,(some (p.next,0)),H,()),j)))else let p2:=pA H 7;(bif p2 then some (Sum.inr (Sum.inl ((Z,(some (h.next,0)),true,(some (p.next,0)),()),j)))else some (Sum.inl (((some (h.next,0)),true,(some (p.next,0)),H,()),j))))) fun l8=>(mC l8 (fun (f:zY1) B=>let j1:=pA f.2.2.2.1 10;(bif j1 then some (Sum.inr (Sum.inr (Sum.inr (Sum.inr (Sum.inl ((f.1,f.2.2.1,()),B))))))else let l4:=pA f.2.2.2.1 11;(bif l4 then some (Sum.inr (Sum.inr (Sum.inr (Sum.inr (Sum.inr (Sum.inl ((f.1,f.2.2.1,()),B)))))))else let h2:=pA f.2.2.2.1 8;(bif h2 then(bif h2 then some (Sum.inr (Sum.inr (Sum.inr (Sum.inr (Sum.inr (Sum.inr (Sum.inl ((f.1,f.2.1,f.2.2.1,()),B))))))))else some (Sum.inr (Sum.inr (Sum.inl ((()),B)))))else let o3:=pA f.2.2.2.1 9;(bif o3 then some (Sum.inr (Sum.inr (Sum.inr (Sum.inr (Sum.inr (Sum.inr (Sum.inl ((f.1,f.2.1,f.2.2.1,()),B))))))))else some (Sum.inr (Sum.inr (Sum.inl ((()),B))))))))) fun i9=>(mC i9 (fun (m9:zK1) p0=>some (Sum.inr (Sum.inr (Sum.inr (Sum.inl (m9,p0)))))) fun _=>none))))))))) fun k4=>(mC k4 (fun (r:zK1) X=>(jA (α:=zK1) ((bif r.2.2.1 then(vA r.2.1 fun c5=>(iA (.val zG) (X.cells (c5.1,c5.2+26) 4) fun p3=>(jA (f200 N p3 X) fun o4 j3=>some ((r.1,r.2.1,o4,r.2.2.2.1,()),j3))))
 else some ((r.1,r.2.1,false,r.2.2.2.1,()),X))) fun (e9:zK1) j8=>(vA e9.2.2.2.1 fun f1=>(vA (j8.store (f1.1,f1.2+26) yZH) fun m6=>some (Sum.inl (e9,m6)))))) fun l7=>(mC l7 (fun (n9:zY) n0=>some (Sum.inr (Sum.inl (n9,n0)))) fun l2=>(mC l2 (fun (q1:(Unit)) o8=>some (Sum.inr (Sum.inr (Sum.inl ((()),o8))))) fun m8=>(mC m8 (fun (j0:zK1) n4=>some (Sum.inl (j0,n4))) fun m0=>(mC m0 (fun (p1:zU) k2=>some (Sum.inr (Sum.inr (Sum.inr (Sum.inl (p1,k2)))))) fun l3=>(mC l3 (fun (k5:zU) n1=>some (Sum.inr (Sum.inr (Sum.inr (Sum.inr (Sum.inl (k5,n1))))))) fun l0=>(mC l0 (fun (o0:zY) o7=>some (Sum.inr (Sum.inr (Sum.inr (Sum.inr (Sum.inr (Sum.inl (o0,o7)))))))) fun _=>none))))))))) fun k9=>(mC k9 (fun (w:zK1) F=>(jA (α:=zY) ((bif w.2.2.1 then(vA w.2.1 fun K=>(iA (.val zJ3) (F.cell (K.1,K.2+30)) fun f0=>let g3:=fB .i64 (w.1+1);(jA (rec125 f0 g3 F) fun i6 g0=>some ((w.2.1,i6,w.2.2.2.1,()),g0))))else some ((w.2.1,false,w.2.2.2.1,()),F))) fun (R:zY) g8=>(vA R.2.2.1 fun S=>(vA (g8.store (S.1,S.2+30) yZL) fun h7=>some (Sum.inr (Sum.inl (R,h7))))))) fun a2=>(mC a2 (fun (i7:zY) e6=>some (Sum.inr (Sum.inl (i7,e6)))) fun d6=>
 (mC d6 (fun (p9:(Unit)) c7=>some (Sum.inr (Sum.inr (Sum.inl ((()),c7))))) fun b2=>(mC b2 (fun (d7:zU) b3=>some (Sum.inl (d7,b3))) fun g2=>(mC g2 (fun (g4:zU) i8=>some (Sum.inr (Sum.inr (Sum.inr (Sum.inl (g4,i8)))))) fun e2=>(mC e2 (fun (h5:zY) e1=>some (Sum.inr (Sum.inr (Sum.inr (Sum.inr (Sum.inl (h5,e1))))))) fun _=>none)))))))) fun a8=>(mC a8 (fun (C:zU) Q=>(vA C.1 fun d3=>(iA (.val zA) (Q.cells d3 32) fun i5=>(jA (f197 N i5 Q) fun f6 e3=>
 some (Sum.inr (Sum.inl ((C.1,f6,C.2.1,()),e3))))))) fun c6=>(mC c6 (fun (g7:zY) b9=>some (Sum.inr (Sum.inl (g7,b9)))) fun f2=>(mC f2 (fun (q0:(Unit)) f9=>some (Sum.inr (Sum.inr (Sum.inl ((()),f9))))) fun g6=>(mC g6 (fun (a7:zU) c0=>some (Sum.inl (a7,c0))) fun c4=>(mC c4 (fun (c9:zY) i4=>some (Sum.inr (Sum.inr (Sum.inr (Sum.inl (c9,i4)))))) fun _=>none))))))) fun b0=>(mC b0 (fun (y:zU) M=>(vA y.1 fun J=>(iA (.val zM) (M.cells (J.1,J.2+9) 2) fun h6=>(jA (f198 N h6 M) fun a5 c8=>(vA y.2.1 fun O=>(vA (c8.store (O.1,O.2+9) yZI) fun d8=>some (Sum.inl ((y.1,a5,y.2.1,()),d8)))))))) fun h8=>(mC h8 (fun (a4:zY) b6=>some (Sum.inl (a4,b6))) fun c2=>(mC c2 (fun (p8:(Unit)) a3=>some (Sum.inr (Sum.inl ((false,()),a3)))) fun f7=>(mC f7 (fun (b8:zY) e4=>some (Sum.inl (b8,e4))) fun _=>none))))))) fun f4=>(mC f4 (fun (u:zY) g9=>(vA u.2.2.1 fun L=>(vA (g9.store (L.1,L.2+0) yZK) fun b5=>(vA u.2.2.1 fun U=>(vA (b5.store (U.1,U.2+1) yZK) fun A=>(bif u.2.1 then(vA u.1 fun a9=>(iA (.val zA) (A.cells a9 32) fun f3=>(vA u.2.2.1 fun e7=>(iA (.val zA) (A.cells e7 32) fun g5=>
 (jA (f201 N f3 g5 A) fun b4 d0=>
 (jA (f114 N N b4 (0,0,false,[],0,[],⟨none,0,0,0⟩,⟨none,0,0,0⟩,false,[],⟨none,0,0,0⟩,0,0,0,[],⟨none,0,0,0⟩,0,0,[],⟨none,0,0,0⟩,0,[],⟨none,0,0,0⟩,[],⟨none,0,0,0⟩,⟨none,0,0,0⟩,0,0,[],⟨none,0,0,0⟩,⟨none,0,0,0⟩,⟨none,0,0,0⟩,()) d0) fun e8 d9=>some (e8,d9)))))))else some (false,A))))))) fun b7=>
 (mC b7 (fun (e5:zI1) g1=>some (e5.1,g1)) fun _=>none)))))
def nBo:Ann:=(.two .n (.two .n (.two .n (.two (.joinO [(.norm,[(2,zI3),(5,zL3),(6,zI3)]),(.ret,[(4,zL3)])] (.two .n (.two (.two (.two (.two (.two (.two (.joinO [(.norm,[(2,zI3),(6,zI3)]),((.exit 0),[(2,zI3),(5,zL3),(6,zI3)]),((.exit 10),[]),((.exit 9),[(2,zI3),(5,zL3),(6,zI3)])] (.two (.two (.joinO [(.norm,[(2,zI3),(6,zI3)]),((.exit 0),[(2,zI3),(5,zL3),(6,zI3)]),((.exit 10),[]),((.exit 8),[(2,zI3),(6,zI3)]),((.exit 9),[(2,zI3),(5,zL3),(6,zI3)])] (.two (.two (.joinO [(.norm,[(1,zM3),(2,zI3),(5,zL3),(6,zI3)]),((.exit 0),[(2,zI3),(5,zL3),(6,zI3)]),((.exit 10),[]),((.exit 7),[(2,zI3),(6,zI3)]),((.exit 8),[(2,zI3),(6,zI3)]),((.exit 9),[(2,zI3),(5,zL3),(6,zI3)])] (.two (.two (.joinO [(.norm,[(1,zM3),(2,zI3),(5,zL3),(6,zI3)]),((.exit 0),[(2,zI3),(5,zL3),(6,zI3)]),((.exit 10),[]),((.exit 6),[(1,zM3),(2,zI3),(5,zL3),(6,zI3)]),((.exit 7),[(2,zI3),(6,zI3)]),((.exit 8),[(2,zI3),(6,zI3)]),((.exit 9),[(2,zI3),(5,zL3),(6,zI3)])] (.two (.two (.two (.two (.two (.two (.two (.two (.two (.two (.two .n (.two .n (.two .n (.two .n (.two .n (.two (.joinO [(.norm,[(2,zI3),(5,zL3),(6,zI3),(9,zM3)]),((.exit 6),[(1,zM3),(2,zI3),(5,zL3),(6,zI3)])] .n) .n)))))) .n) .n) (.two (.two (.join [(2,zI3),(5,zL3),(6,zI3)] .n) .n) .n)) .n) (.two (.two (.join [(2,zI3),(5,zL3),(6,zI3)] .n) .n) .n)) .n) (.two (.two (.join [(2,zI3),(5,zL3),(6,zI3)] .n) .n) .n)) .n) .n) .n)) (.two (.join [(1,zM3),(2,zI3),(5,zL3),(6,zI3)] .n) .n)) .n)) (.two (.two (.join [(2,zI3),(5,zL3),(6,zI3)] .n) .n) .n)) .n)) .n) .n)) .n) .n) .n) .n) .n) .n))) .n))))
def nB1 (N M:Nat):((SL->Int->Heap->yO0 Bool)×(zR->Int->Heap->yO0 Bool)×Unit):=Nat.rec (fun _ _ _=>none,fun _ _ _=>none,()) (fun _ r=>(mB1 N r.1 r.2.1,vAq N r.1 r.2.1,())) M
def f125 (N M:Nat):SL->Int->Heap->yO0 Bool:=(nB1 N M).1
def f174 (N M:Nat):zR->Int->Heap->yO0 Bool:=(nB1 N M).2.1
def oB1 (N M a0 a1 h):f125 N (M+1) a0 a1 h=mB1 N (f125 N M) (f174 N M) a0 a1 h:=rfl
def pB1 (N M a0 a1 h):f174 N (M+1) a0 a1 h=vAq N (f125 N M) (f174 N M) a0 a1 h:=rfl
def tU (N:Nat):∀ M:Nat,(pC Tryz.prog 125 [zJ3,zM3] (.val zL3) (fun x h=>f125 N M x.1 x.2.1 h))/\(pC Tryz.prog 174 [zA,zM3] (.val zL3) (fun x h=>f174 N M x.1 x.2.1 h))/\True
 | 0=>⟨(fun xs h r h' f=>by cases f),(fun xs h r h' f=>by cases f),trivial⟩
 | M+1=>⟨kD (bA (tU N M).2.1 kA) N mBo Tryz.f125,kD (bA (mBf N) (bA (gAn N) (bA (lB1 N) (bA (fAn N) (bA (lBf N) (bA (tU N M).1 (bA (eAn N) (bA (aR N) (bA (jBe N) kA))))))))) N nBo Tryz.f174,trivial⟩
def nBf (N:Nat):pC Tryz.prog 125 [zJ3,zM3] (.val zL3) (fun x h=>f125 N N x.1 x.2.1 h):=(tU N N).1
noncomputable def vA6 (N:Nat) (rec126:SL->Heap->yO0 Int) (J:Int->SL->Int->Int->Heap->Option (Out×zB2×Heap)) (v3:Int) (w:SL) (F f:Int) (h:Heap):Option (Out×zB2×Heap):=let H:=ltInt f F;(bif H then(ixK w.a w.len f 32 fun O=>(iA (.val zA) (h.cells O 32) fun L=>let K:=h.push (.row yZA .own);(vA (K.store (h.next,0) (yRA L)) fun p=>(iA (.val zJ3) (p.cell (h.next,30)) fun C=>(jA (rec126 C p) fun M A=>let I:=fB .i64 (v3+M);(iA (.val zJ3) (A.cell (h.next,31)) fun j=>(jA (rec126 j A) fun y u=>let B:=fB .i64 (I+y);(pD (bif (jB (A.cell (h.next,31)) (yL j)) then (bif (jB (p.cell (h.next,31)) (yL j)) then (bif (jB (p.cell (h.next,30)) (yL C)) then true else false) else false) else false) ( let r:=fB .i64 (f+1);J B w F r u)))))))))else some ((Out.exit 0),(v3,()),h))
def rAd (N:Nat) (rec126:SL->Heap->yO0 Int) (M:Nat) (v3:Int) (p:SL) (j f:Int) (h:Heap):Option (Out×zB2×Heap):=iter (fun r s h=>vA6 N rec126 (fun v3 p j f h=>r (v3,p,j,f,()) h) s.1 s.2.1 s.2.2.1 s.2.2.2.1 h) M (v3,p,j,f,()) h
def tAi (N rec126 M v3 v8 v9 v10 h):rAd N rec126 (M+1) v3 v8 v9 v10 h=vA6 N rec126 (rAd N rec126 M) v3 v8 v9 v10 h:=rfl
def wAq (N:Nat) (rec126:SL->Heap->yO0 Int) (j:SL) (h:Heap):yO0 Int:=(rD (rAd N rec126 N (Int.ofNat j.len) j (Int.ofNat j.len) 0 h) fun _ (f:zB2) p=>some (f.1,p))
def oBo:Ann:=(.two .n (.two .n (.two (.two .n (.two (.loop [(3,zM3),(8,zJ3),(9,zM3),(10,zM3)] [(.exit 0)] [(3,zM3)] .n) .n)) .n)))
def oBf (N M:Nat):((SL->Heap->yO0 Int)×Unit):=Nat.rec (fun _ _=>none,()) (fun _ r=>(wAq N r.1,())) M
def f126 (N M:Nat):SL->Heap->yO0 Int:=(oBf N M).1
def uAi (N M a0 h):f126 N (M+1) a0 h=wAq N (f126 N M) a0 h:=rfl
def wA6 (N:Nat):∀ M:Nat,(pC Tryz.prog 126 [zJ3] (.val zM3) (fun x h=>f126 N M x.1 h))/\True
 | 0=>⟨(fun xs h r h' f=>by cases f),trivial⟩
 | M+1=>⟨kD (bA (wA6 N M).1 kA) N oBo Tryz.f126,trivial⟩
def pBf (N:Nat):pC Tryz.prog 126 [zJ3] (.val zM3) (fun x h=>f126 N N x.1 h):=(wA6 N N).1
def tAd (N:Nat) (L:zH3->Bool->SL->Int->Int->Heap->Option (Out×zL1×Heap)) (p:zH3) (v2:Bool) (B:SL) (F r:Int) (h:Heap):Option (Out×zL1×Heap):=let M:=ltInt r F;(bif M then(ixK B.a B.len r 2 fun Q=>(iA (.val zM) (h.cells Q 2) fun J=>let O:=h.push (.row yZI .own);(vA (O.store (h.next,0) (yRH J)) fun H=>(iA (.val zK3) (H.cell (h.next,0)) fun K=>(jA (f122 N K H) fun I f=>let u:=!I;(bif u then some (Out.ret,(p,false,()),f)else(iA (.val zJ3) (f.cell (h.next,1)) fun A=>(jA (f120 N A f) fun y j=>let w:=!y;(bif w then some (Out.ret,(p,false,()),j)else let C:=fB .i64 (r+1);L p v2 B F C j)))))))))else some ((Out.exit 0),(p,v2,()),h))
def vAi (N M:Nat) (p:zH3) (v2:Bool) (f:SL) (r j:Int) (h:Heap):Option (Out×zL1×Heap):=iter (fun u s h=>tAd N (fun p v2 f r j h=>u (p,v2,f,r,j,()) h) s.1 s.2.1 s.2.2.1 s.2.2.2.1 s.2.2.2.2.1 h) M (p,v2,f,r,j,()) h
def kAn (N M v1 v2 v7 v8 v9 h):vAi N (M+1) v1 v2 v7 v8 v9 h=tAd N (vAi N M) v1 v2 v7 v8 v9 h:=rfl
def f80 (N:Nat) (a0:zA1) (h:Heap):yO0 Bool:=let h1:=h.push (.row (yRC a0) .own);(iA (.val zJ3) (h1.cell (h.next,2)) fun x2=>(rD (vAi N N (some (h.next,0)) false x2 (Int.ofNat x2.len) 0 h1) fun S (f:zL1) p=>(bif vD S (.exit 0) then(jA (α:=zL1) ((vA f.1 fun w=>(iA (.val zM3) (p.cell ((w.1,w.2+4).1,(w.1,w.2+4).2+0)) fun b0=>let a2:=pA b0 0;(bif a2 then(vA f.1 fun I=>(iA (.val zD) (p.cells (I.1,I.2+4) 4) fun a7=>(jA (f123 N a7 p) fun Q A=>(bif Q then some ((f.1,true,()),A)else(vA f.1 fun B=>(iA (.val zD) (A.cells (B.1,B.2+4) 4) fun X=>(jA (f124 N N X 1 A) fun Y U=>some ((f.1,Y,()),U))))))))else(vA f.1 fun J=>(iA (.val zD) (p.cells (J.1,J.2+4) 4) fun a1=>(jA (f124 N N a1 1 p) fun a6 O=>some ((f.1,a6,()),O)))))))) fun (j:zL1) F=>(vA j.1 fun K=>(iA (.val zK3) (F.cell (K.1,K.2+1)) fun b1=>(jA (f119 N b1 F) fun a3 r=>(bif a3 then(vA j.1 fun L=>(iA (.val zJ3) (r.cell (L.1,L.2+2)) fun a8=>let R:Bool:=cD (Int.ofNat a8.len) 64;(bif R then(vA j.1 fun M=>(iA (.val zJ3) (r.cell (M.1,M.2+3)) fun b2=>(jA (f121 N b2 true r) fun b3 u=>(bif b3 then(bif j.2.1 then
 (vA j.1 fun C=>(iA (.val zJ3) (u.cell (C.1,C.2+8)) fun a9=>(jA (f125 N N a9 1 u) fun a4 y=>(bif a4 then(vA j.1 fun H=>(iA (.val zJ3) (y.cell (H.1,H.2+8)) fun Z=>(jA (f126 N N Z y) fun W V=>let a5:Bool:=cD W 2000;some (a5,V))))else some (false,y)))))else some (false,u))else some (false,u)))))else some (false,r))))else some (false,r))))))else some (f.2.1,p))))
def rBt:Ann:=(.two .n (.two (.two .n (.two (.loop [(1,zI3),(2,zL3),(7,zJ3),(8,zM3),(9,zM3)] [(.exit 0),.ret] [(1,zI3),(2,zL3)] .n) .n)) (.two (.join [(1,zI3),(5,zL3)] .n) .n)))
def pBo (N:Nat):pC Tryz.prog 80 [zE] (.val zL3) (fun x h=>f80 N x.1 h):=kD (bA (pBf N) (bA (nBf N) (bA (eAn N) (bA (gB1 N) (bA (eB1 N) (bA (kB1 N) (bA (dAn N) (bA (aR N) kA)))))))) N rBt Tryz.f80
def uAd (N:Nat) (J:Bool->SL->Int->Int->Heap->Option (Out×zI1×Heap)) (v2:Bool) (j:SL) (p f:Int) (h:Heap):Option (Out×zI1×Heap):=let A:=ltInt f p;(bif A then(ixK j.a j.len f 10 fun B=>(iA (.val zE) (h.cells B 10) fun I=>let C:=h.push (.row yZC .own);(vA (C.store (h.next,0) (yRC I)) fun u=>(iA (.val zE) (u.cells (h.next,0) 10) fun H=>(jA (f80 N H u) fun w r=>let F:=!w;(bif F then some (Out.ret,(false,()),r)else let y:=fB .i64 (f+1);J v2 j p y r))))))else some ((Out.exit 2),(v2,()),h))
def wAi (N M:Nat) (v2:Bool) (p:SL) (j f:Int) (h:Heap):Option (Out×zI1×Heap):=iter (fun r s h=>uAd N (fun v2 p j f h=>r (v2,p,j,f,()) h) s.1 s.2.1 s.2.2.1 s.2.2.2.1 h) M (v2,p,j,f,()) h
def lAn (N M v2 v27 v28 v29 h):wAi N (M+1) v2 v27 v28 v29 h=uAd N (wAi N M) v2 v27 v28 v29 h:=rfl
def vAd (N:Nat) (K:zH3->Bool->SL->Int->Int->Heap->Option (Out×zL1×Heap)) (A:zH3) (v2:Bool) (j:SL) (u f:Int) (h:Heap):Option (Out×zL1×Heap):=let J:=ltInt f u;(bif J then(ixK j.a j.len f 5 fun I=>(iA (.val zJ) (h.cells I 5) fun H=>let y:=h.push (.row yZF .own);(vA (y.store (h.next,0) (yRG H)) fun p=>(iA (.val zJ) (p.cells (h.next,0) 5) fun w=>(jA (f79 N w p) fun F r=>let B:=!F;(bif B then some (Out.ret,(A,false,()),r)else let C:=fB .i64 (f+1);K A v2 j u C r))))))else some ((Out.exit 0),(A,v2,()),h))
def yAi (N M:Nat) (r:zH3) (v2:Bool) (j:SL) (p f:Int) (h:Heap):Option (Out×zL1×Heap):=iter (fun u s h=>vAd N (fun r v2 j p f h=>u (r,v2,j,p,f,()) h) s.1 s.2.1 s.2.2.1 s.2.2.2.1 s.2.2.2.2.1 h) M (r,v2,j,p,f,()) h
def mAn (N M v1 v2 v16 v17 v18 h):yAi N (M+1) v1 v2 v16 v17 v18 h=vAd N (yAi N M) v1 v2 v16 v17 v18 h:=rfl
def f33 (N:Nat) (F:zR1) (h:Heap):yO0 Bool:=let u:=h.push (.row (yRJ F) .own);(iA (.val zJ3) (u.cell (h.next,0)) fun H=>(iA (.val zJ3) (u.cell (h.next,1)) fun I=>let K:=fB .i64 ((Int.ofNat H.len)+(Int.ofNat I.len));let J:=ltInt 256 K;(bif J then some (false,u)else(iA (.val zJ3) (u.cell (h.next,0)) fun C=>(rD (yAi N N (some (h.next,0)) false C (Int.ofNat C.len) 0 u) fun A (j:zL1) f=>(bif vD A (.exit 0) then(vA j.1 fun w=>(iA (.val zJ3) (f.cell (w.1,w.2+1)) fun r=>(rD (wAi N N j.2.1 r (Int.ofNat r.len) 0 f) fun B (y:zI1) p=>(bif vD B (.exit 2) then some (true,p)else some (y.1,p)))))else some (j.2.1,f)))))))
def tBt:Ann:=(.two .n (.two .n (.two (.two .n (.two (.loop [(1,zI3),(2,zL3),(16,zJ3),(17,zM3),(18,zM3)] [(.exit 0),.ret] [(1,zI3),(2,zL3)] .n) .n)) (.two (.two .n (.two (.loop [(2,zL3),(27,zJ3),(28,zM3),(29,zM3)] [(.exit 2),.ret] [(2,zL3)] .n) .n)) .n))))
def qBo (N:Nat):pC Tryz.prog 33 [zQ] (.val zL3) (fun x h=>f33 N x.1 h):=kD (bA (pBo N) (bA (dBo N) kA)) N tBt Tryz.f33
end
end Qp
namespace Qp
def PK (h:Heap):Prop:=Qk.pinned h=true/\6<=h.next/\(5,Qb.tabLoc)∈h.pins/\h.t.get 5=some (.row Qb.tab .ro)
def PK.chgM {h h':Heap} {M:List Nat} (x:PK h) (c:Chg M h h') (r:∀ A∈M,6<=A):PK h':=by
 have ⟨f,p,u,w⟩:=x;have low:∀ A,A<6->h'.t.get A=h.t.get A:=fun A y=>c.g A (by omega) (fun j=>by have:=r A j;omega);refine ⟨?_,xT p c.next,by rw [c.pins];exact u,by grind⟩;unfold Qk.pinned at f ⊢;rw [c.pins,low 4 (by omega)];exact f
theorem PK.chg {h h':Heap} (x:PK h) (c:Chg [] h h'):PK h':=x.chgM c (by simp)
theorem dL {N:Nat} (A:40<=N) (s:Bs) (h:Heap):f119 N s h=some (jE s,h):=by
 unfold f119
 cases s with
 | nil=>rfl
 | cons c r=>
  have e0:bB (c::r) []=false:=rfl;have j:cD (Int.ofNat (c::r).length) 32=decide ((c::r).length<=32):=by
   grind [leI,decide,decide_eq_true,decide_eq_false]
  have w:decide (1<=(c::r).length)=true:=by simp
  simp only [e0,Bool.not_false,xA,j,jE,yG,w,Bool.true_and]
  by_cases q:(c::r).length<=32
  ·rw [decide_eq_true q,xA,Bool.true_and]
   have y:∀ {β:Type} (K:Int->Option β),iL (c::r) 0 K=K (c.toNat:Int):=fun K=>dJ (s:=c::r) (i:=0) (by simp) K;rw [y,eAl,aA];show (bif uC c then _ else _)=some (uC c&&_&&_,h)
   cases uC c with
   | false=>rfl
   | true=>
    have f:=yAb (N:=N) (s:=c::r) (by omega) (by omega) (i:=0) (xc _) h;rw [show ((0:Nat):Int)=0 from rfl,List.drop_zero,xC] at f;rw [xA,f,aA,Bool.true_and];have p:pA ((runN (c::r):Nat):Int) (Int.ofNat (c::r).length)=decide (runN (c::r)=(c::r).length):=by
     grind [eqI,decide,runN,decide_eq_true,decide_eq_false]
    simp only [p]
    by_cases u:runN (c::r)=(c::r).length
    ·rw [decide_eq_true u,xA,fAl,aA,Bool.true_and]
    grind
  grind
def qB1 {N:Nat} (f:40<=N) {s:Bs} (j:yG s=true) (h:Heap):f122 N s h=some (true,h):=by
 unfold f122;rw [dL f,aA];unfold jE;rw [j,Bool.true_and,fAl];cases isWord s <;> rfl
section
variable {N:Nat} {h:Heap} {V:Nat->Prop}
def rBo {n:Nat} (h:n<=64):cD (Int.ofNat n) 64=true:=by rw [leI,xU];grind
def wAd (f:40<=N) {s:SL} {xs:List Bs} (x:Sl h V s (xs.map D.s)) (p:∀ y∈xs,yG y=true) (w:xs.length<=100):∀ (M i:Nat),i<=xs.length->xs.length-i<M->mAd N M s false s (xs.length:Int) (i:Int) h=some (.exit 0,(s,false,()),h):=by
 intro M
 induction M with
 | zero=>intro i _ h;omega
 | succ M r=>
  intro i hi u;rw [nAi];unfold mA6;simp only [qC]
  by_cases q:i<xs.length
  ·simp only [q,xO,xA]
   have j:i<(xs.map D.s).length:=by grind
   rw [x.ix j 1,dA5 x q];simp only [dA,yA];rw [qB1 f (p _ (xR q)),aA];simp only [xV,xB]
   grind [iB]
  grind
def yAd (r:200<=N) {s:SL} {xs:List Bs} (x:Sl h V s (xs.map D.s)) (f:qB6 64 xs):f120 N s h=some (true,h):=by
 unfold f120;have j:s.len=xs.length:=by rw [x.len,xS]
 have p:=f.1
 have:=wAd (N:=N) (by omega) x f.2 (by omega) N 0 (xc _) (by omega)
 rw [show ((0:Nat):Int)=0 from rfl] at this;rw [j,show Int.ofNat xs.length=(xs.length:Int) from rfl,this];simp only [mB,vF,xO,xA,j,rBo f.1]
end
def aAj {x:Bs} (h:jE x=true):∀ c∈x,c≠58:=fun c j e=>by
 simp only [jE,xG] at h;have ⟨_,_,_,_,f,_⟩:=yK h.1
 have:=f c j
 rw [e] at this;cases this
theorem yAq {x r:Bs} (h:∀ c∈x,c≠58) {j:Nat} (f:j<x.length):Lib.occAt (x++r) [58,58] j=false:=by
 grind [Lib.occAt,List.drop_eq_getElem_cons,xR,List.isPrefixOf]
def uB6 {x:Bs} (h:∀ c∈x,c≠58):Lib.cut x [58,58]=(x,[],false):=by
 have e:Lib.index x [58,58] = -1:=Lib.index_none fun j f=>by
  by_cases q:j<x.length
  ·have:=yAq (r:=[]) h q
   grind
  grind [Lib.occAt]
 unfold Lib.cut;rw [e];rfl
def qBf {a b:Bs} (h:∀ c∈a,c≠58):Lib.cut (a++[58,58]++b) [58,58]=(a,b,true):=by
 have e:Lib.index (a++[58,58]++b) [58,58]=(a.length:Int):=Lib.index_first (i:=a.length) (by simp) (by simp [Lib.occAt,List.isPrefixOf]) (fun j u=>by
  grind [xY,yAq])
 unfold Lib.cut;rw [e,if_pos (by omega)];have f:((a.length:Int)).toNat=a.length:=rfl;rw [f];have p:(a++[58,58]++b).take a.length=a:=by rw [xY];exact List.take_left' rfl
 have r:(a++[58,58]++b).drop (a.length + [58,58].length)=b:=List.drop_left' (by simp);rw [p];exact Prod.ext rfl (Prod.ext r rfl)
section
variable {N:Nat} {h:Heap} {V:Nat->Prop}
def rB1 (j:40<=N) {x:Bs} (f:uA7 x) (w:PK h):f173 N x h=some (true,h):=by
 have u:(Qk.pinned h&&Nat.blt x.length 4294967281)=true:=by
  rw [w.1,Bool.true_and,Nat.blt_eq]
  have:=wK f;omega
 unfold f173 f196 Qk.tBn;rw [u,xA,aA];rcases f with f | ⟨a,b,rfl,p,r⟩
 ·rw [uB6 (aAj f)]
  simp only [dL j,aA,f,xA,Bool.not_false]
 ·rw [qBf (aAj p)]
  simp only [dL j,aA,p,r,xA,xV,xB]
def nAn {k:Int} {s1 s2:SL} (w:s1.len=0) (f:s2.len=0):∃ h',f123 N (k,[],s1,s2,()) h=some (true,h')/\Chg [] h h':=by
 unfold f123;have o:=wA h (tyc (k,[],s1,s2,()));have c:=uA h (.row (tyc (k,[],s1,s2,())) .own);have j:h.push (.row [(yI0 k),(.str []),(yL s1),(yL s2)] .own)=h.push (.row (tyc (k,[],s1,s2,())) .own):=rfl;dsimp only;rw [j];generalize h.push (.row (tyc (k,[],s1,s2,())) .own)=H at *;have p:H.cell (h.next,1)=some (.str []):=o.cell 1;have r:H.cell (h.next,2)=some (yL s1):=o.cell 2;have u:H.cell (h.next,3)=some (yL s2):=o.cell 3;simp only [xC,p,dA,yA,eqB.2,xA,r,qA,w,u,f];exact ⟨H,rfl,c⟩
def rBf (hN:200<=N):∀ (g M:Nat) (h:Heap) (r:TyV) (p:PT) (V:Nat->Prop),g<=M->g<=64->p.ok g->PK h->Dt h V p.D (tyc r)->∃ h',f124 N M r ((65-g:Nat):Int) h=some (true,h')/\Chg [] h h':=by
 intro g
 induction g with
 | zero=>intro M h r p V _ _ u;exact u.elim
 | succ g ih=>
  intro M h r p V hM hg u pk x;obtain ⟨M,rfl⟩:∃ m,M=m+1:=⟨M-1,by omega⟩;have ⟨k,y,s1,s2,⟨⟩⟩:=r;rw [jB1];unfold iB1;have o:=wA h (tyc (k,y,s1,s2,()));have c:=uA h (.row (tyc (k,y,s1,s2,())) .own);have e1:h.push (.row [(yI0 k),(.str y),(yL s1),(yL s2)] .own)=h.push (.row (tyc (k,y,s1,s2,())) .own):=rfl;dsimp only;rw [e1];have L:=pk.chg c;have O:=Dt.chg c (by simp) x;generalize h.push (.row (tyc (k,y,s1,s2,())) .own)=H at *;have z:ltInt 64 ((65-(g+1):Nat):Int)=false:=by grind [ltI,xd]
  have a0:H.cell (h.next,0)=some (yI0 k):=o.cell 0;have a1:H.cell (h.next,1)=some (.str y):=o.cell 1;have Y:H.cell (h.next,2)=some (yL s1):=o.cell 2;have a3:H.cell (h.next,3)=some (yL s2):=o.cell 3;have aa:H.cells (h.next,0) 4=some (.agg (tyc (k,y,s1,s2,()))):=o.cells (j:=0) (m:=4) (xD _);simp only [z,xB,xC,a0,dA,qB]
  cases p with
  | int=>
   have ⟨R,Q,F,B,A⟩:=yJ.1 (show Dt H V (tyD 1 [] [] []) _ from O);have f:=(wQ 1).inj F;simp only [xI,and_true] at f;obtain ⟨rfl,rfl,rfl,rfl⟩:=f;have C:pA 1 3=false:=rfl;have X:pA 1 4=false:=rfl;have S:pA 1 5=false:=rfl;have I:pA 1 1=true:=rfl;simp only [C,X,S,I,xB,xA,aA,fA];rw [aa,vZ];have ⟨h',e,J⟩:=nAn (N:=N) (h:=H) (k:=1) B.len A.len;rw [e,aA];exact ⟨h',rfl,c.trans J⟩
  | bool=>
   have ⟨R,Q,F,B,A⟩:=yJ.1 (show Dt H V (tyD 2 [] [] []) _ from O);have f:=(wQ 1).inj F;simp only [xI,and_true] at f;obtain ⟨rfl,rfl,rfl,rfl⟩:=f;have C:pA 2 3=false:=rfl;have X:pA 2 4=false:=rfl;have S:pA 2 5=false:=rfl;have I:pA 2 1=false:=rfl;have b2:pA 2 2=true:=rfl;simp only [C,X,S,I,b2,xB,xA,aA,fA];rw [aa,vZ];have ⟨h',e,J⟩:=nAn (N:=N) (h:=H) (k:=2) B.len A.len;rw [e,aA];exact ⟨h',rfl,c.trans J⟩
  | st nm lv=>
   have ⟨R,Q,F,B,A⟩:=yJ.1 (show Dt H V (tyD 3 nm lv []) _ from O);have f:=(wQ 1).inj F;simp only [xI,and_true] at f;obtain ⟨rfl,rfl,rfl,rfl⟩:=f;have C:pA 3 3=true:=rfl;simp only [C,xA,a1,dA,yA];rw [rB1 (by omega) u.1 L,aA,xA];simp only [Y,dA,qA];rw [yAd hN B ⟨u.2.1,u.2.2⟩,aA,xA];have l0:s2.len=0:=A.len;simp only [a3,dA,qA,l0];exact ⟨H,rfl,c⟩
  | ref w lv t=>
   have ⟨R,Q,F,B,A⟩:=yJ.1 (show Dt H V (tyD (if w=true then 5 else 4) [] lv [t.D]) _ from O);have f:=(wQ 1).inj F;simp only [xI,and_true] at f;obtain ⟨rfl,rfl,rfl,rfl⟩:=f;have C:pA (if w=true then 5 else 4) 3=false:=by cases w <;> rfl
   have bj:∀ {β:Type} (K:zK2->Heap->Option β),(jA (bif pA (if w=true then 5 else 4) 4 then some ((((65-(g+1):Nat):Int),some (h.next,0),(if w=true then (5:Int) else 4),pA (if w=true then 5 else 4) 4,()),H) else some ((((65-(g+1):Nat):Int),some (h.next,0),(if w=true then (5:Int) else 4),pA (if w=true then 5 else 4) 5,()),H)) K)=K (((65-(g+1):Nat):Int),some (h.next,0),(if w=true then 5 else 4),true,()) H:=by
    intro β K;cases w <;> rfl
   simp only [C,xB];rw [bj];have l1:cD (Int.ofNat s1.len) 1=true:=by
    rw [leI,xU];show (s1.len:Int)<=1
    have:=u.1
    have e:=B.len
    grind
   have l2:s2.len=1:=A.len;have I:pA (Int.ofNat 1) 1=true:=rfl;simp only [xA,fA,xC,a1,dA,yA,eqB.2,Y,qA,l1];rw [yAd hN B ⟨xT u.1 (by decide),u.2.1⟩,aA,xA];simp only [a3,dA,qA,l2,I,xA];have hi:0 < [t.D].length:=by simp
   have W:∀ {β:Type} (K:Nat×Nat->Option β),ixK s2.a 1 ((0:Nat):Int) 4 K=K (s2.at 0 4):=fun K=>by
    have:=A.ix hi 4 K
    rwa [l2] at this
   rw [show (0:Int)=((0:Nat):Int) from rfl,W];have ⟨Z,U,d1⟩:=(wQ g).elt A hi (uBd u.2.2);rw [U,vZ];have ew:fB .i64 (((65-(g+1):Nat):Int)+1)=((65-g:Nat):Int):=by
    grind [iB]
   rw [ew];have ⟨h',e,J⟩:=ih M H Z t V (by omega) (by omega) u.2.2 L d1;have e':f124 N M Z ((65-g:Nat):Int) H=some (true,h'):=e;rw [e',aA];exact ⟨h',rfl,c.trans J⟩
def aAe (j:200<=N) {r:TyV} {d:D} (f:lL 64 d) (u:PK h) (x:Dt h V d (tyc r)):∃ h',f124 N N r 1 h=some (true,h')/\Chg [] h h':=by
 obtain ⟨p,rfl,f⟩:=f;have ⟨h',e,c⟩:=rBf j 64 N h r p V (by omega) (xD _) f u x;exact ⟨h',e,c⟩
theorem iX {g:Nat} {d:D} (h:lL g d):isTy (g+1) d:=by
 obtain ⟨p,rfl,f⟩:=h;exact (uBd f).up (Nat.le_succ _)
def pA2 {f:Bool} {d:D} (h:vO f d):isFd d:=by
 obtain ⟨m,nm,ty,rfl,_,_,j⟩:=h;exact ⟨m,nm,ty,rfl,iX j⟩
def wA7 (Z:200<=N) {S:Bool} {xs:List D} (X:∀ x∈xs,vO S x) (hl:xs.length<=100) {s:SL}:∀ (M i:Nat) (h:Heap),i<=xs.length->xs.length-i<M->PK h->Sl h V s xs->∃ h',nAd N M s S false s (xs.length:Int) (i:Int) h=some (.exit 0,(s,false,()),h')/\Chg [] h h':=by
 intro M
 induction M with
 | zero=>intro i h _ h;omega
 | succ M ih=>
  intro i h hi hM F x;rw [oAi];unfold oA6;simp only [qC]
  by_cases q:i<xs.length
  ·simp only [q,xO,xA]
   have R:=X _ (xR q);have ⟨r,g,d⟩:=iA1.elt x q (pA2 R);rw [x.ix q 6,g,aBm];have ⟨p,W,B,C⟩:=iA1.park (z:=fdc fd0) rfl h r;have A:∀ {β:Type} (K:Heap->Option β),vA ((h.push (.row yZD .own)).store (h.next,0) (yRF r)) K=K p:=W;rw [A];have Q:=Dt.chg B (by simp) d;have y:=F.chg B;have ⟨m,nm,ty,hd,w,L,H⟩:=R;rw [hd] at Q;have ⟨Y,u,y1⟩:=dAa (iX H) Q;obtain rfl:=iA1.inj u;have a0:p.cell (h.next,0)=some (.bool m):=C.cell 0;have U:p.cell (h.next,1)=some (.str nm):=C.cell 1;have I:p.cells (h.next,2) 4=some (.agg (tyc Y)):=C.cells (j:=2) (m:=4) (xD _);have ⟨h6,O,c6⟩:=aAe Z H y y1;have f:=B.trans c6;have ⟨h',e',J⟩:=ih (i+1) h6 q (by omega) (F.chg f) (x.chg f);simp only [xC,a0,dA,aC]
   cases m with
   | true=>
    rw [w rfl] at e' ⊢;simp only [xA,xV,xB,U,dA,yA];rw [dL (by omega),aA,L];simp only [xV,xB];rw [I,vZ,O,aA];simp only [xV,xB];rw [iB (by omega)];exact ⟨h',e',f.trans J⟩
   | false=>
    simp only [xB,U,dA,yA];rw [dL (by omega),aA,L];simp only [xV,xB];rw [I,vZ,O,aA];simp only [xV,xB];rw [iB (by omega)];exact ⟨h',e',f.trans J⟩
  ·simp only [q,xQ,xB]
   exact ⟨h,rfl,Chg.refl _ _⟩
def tB1 (r:200<=N) {j:Bool} {xs:List D} (f:uO 64 (vO j) xs) {s:SL} (u:PK h) (x:Sl h V s xs):∃ h',f121 N s j h=some (true,h')/\Chg [] h h':=by
 unfold f121;have p:s.len=xs.length:=x.len;have w:=f.1;have ⟨h',e,c⟩:=wA7 r f.2 (by omega) N 0 h (xc _) (by omega) u x;rw [show ((0:Nat):Int)=0 from rfl] at e;rw [p,show Int.ofNat xs.length=(xs.length:Int) from rfl,e];simp only [mB,vF,xO,xA,p,rBo f.1];exact ⟨h',rfl,c⟩
def tBo (y:200<=N) {d:D} (hd:jA1 d) {r:StV} (A:PK h) (x:Dt h V d (stc r)):∃ h',f79 N r h=some (true,h')/\Chg [] h h':=by
 obtain ⟨pub,nm,lv,M,a,rfl,J,j,f⟩:=hd;have ⟨s1,s2,F,u,p⟩:=iA0 x;obtain rfl:=pS.inj F;unfold f79;have o:=wA h (stc (pub,nm,s1,s2,(a:Int),()));have c:=uA h (.row (stc (pub,nm,s1,s2,(a:Int),())) .own);have C:h.push (.row [(.bool pub),(.str nm),(yL s1),(yL s2),(yI0 (a:Int))] .own)=h.push (.row (stc (pub,nm,s1,s2,(a:Int),())) .own):=rfl;dsimp only;rw [C];have w:=A.chg c;have u:=u.chg c;have p:=p.chg c;generalize h.push (.row (stc (pub,nm,s1,s2,(a:Int),())) .own)=H at *;have K:H.cell (h.next,1)=some (.str nm):=o.cell 1;have B:H.cell (h.next,2)=some (yL s1):=o.cell 2;have L:H.cell (h.next,3)=some (yL s2):=o.cell 3;simp only [xC,K,dA,yA];rw [dL (by omega),aA,J,xA];simp only [B,dA,qA];rw [yAd y u j,aA,xA];simp only [L,dA,qA];have ⟨h',e,I⟩:=tB1 y f w p;rw [e,aA];exact ⟨h',rfl,c.trans I⟩
end
end Qp
namespace Qp
abbrev tV (v:VaV):VaV:=v
abbrev oV:VaV:=(0,0,0,[],⟨none,0,0,0⟩,0,0,[],⟨none,0,0,0⟩,0,[],⟨none,0,0,0⟩,[],⟨none,0,0,0⟩,⟨none,0,0,0⟩,())
abbrev yV:VTy:=.agg [(.int .i64),(.int .i64),(.int .i64),.str,.slice,(.int .i64),(.int .i64),.str,.slice,(.int .i64),.str,.slice,.str,.slice,.slice]
section
variable {N:Nat} {h:Heap} {V:Nat->Prop}
def bAj (w:40<=N) {R:zH3} {s:SL} {xs:List Bs} (x:Sl h V s (xs.map D.s)) (p:∀ y∈xs,rB6 y) (A:xs.length<=100):∀ (M i:Nat),i<=xs.length->xs.length-i<M->qA6 N M R false s (xs.length:Int) (i:Int) h=some (.exit 0,(R,false,()),h):=by
 intro M
 induction M with
 | zero=>intro i _ h;omega
 | succ M B=>
  intro i hi C;rw [pAi];unfold pA6;simp only [qC]
  by_cases q:i<xs.length
  ·simp only [q,xO,xA]
   have r:i<(xs.map D.s).length:=by grind
   rw [x.ix r 1,dA5 x q];simp only [dA,yA];have f:=p _ (xR q)
   cases j:bB xs[i] [42] with
   | true=>
    simp only [xV,xB]
    grind [iB]
   | false=>
    have u:jE xs[i]=true:=by
     rcases f with f | f
     ·rw [f] at j;cases j
     ·exact f
    simp only [Bool.not_false,xA];rw [dL w,aA,u];simp only [xV,xB]
    grind [iB]
  grind
def bAe (J:200<=N) {d:D} (hd:gX d) {r:LfV} (x:Dt h V d (lfc r)):∃ h',f198 N (r.1,r.2.1,()) h=some (true,h')/\Chg [] h h':=by
 obtain ⟨nm,xs,rfl,F,j⟩:=hd;have ⟨s,C,y⟩:=pM x;obtain rfl:=qM.inj C;unfold f198;have o:=wA h (lfc (nm,s,()));have c:=uA h (.row (lfc (nm,s,())) .own);have B:h.push (.row [(.str nm),(yL s)] .own)=h.push (.row (lfc (nm,s,())) .own):=rfl;dsimp only;rw [B];have y:=y.chg c;generalize h.push (.row (lfc (nm,s,())) .own)=H at *;have I:H.cell (h.next,0)=some (.str nm):=o.cell 0;have w:H.cell (h.next,1)=some (yL s):=o.cell 1;have p:s.len=xs.length:=by rw [y.len,xS]
 have A:=j.1;have u:=bAj (N:=N) (by omega) (R:=some (h.next,0)) y j.2 (by omega) N 0 (xc _) (by omega);rw [show ((0:Nat):Int)=0 from rfl,show (xs.length:Int)=Int.ofNat s.len by rw [p];rfl] at u;have f:qA6 N N (some (h.next,0)) false s (Int.ofNat s.len) 0 H=some (.exit 0,(some (h.next,0),false,()),H):=u;simp only [xC,w,dA,qA];rw [f];simp only [mB,vF,xO,xA,fA,I,xC,dA,yA];rw [dL (by omega),aA,F];simp only [xA,w,dA,qA];rw [p,rBo j.1];exact ⟨H,rfl,c⟩
def tBf {nm:Bs} (w:nm≠[]) {s1 s2:SL}:∃ h',f164 N (nm,s1,()) ([],s2,()) h=some (false,h')/\Chg [] h h':=by
 unfold f164;have o1:=wA h [(.str nm),(yL s1)];have c1:=uA h (.row [(.str nm),(yL s1)] .own);dsimp only;generalize h.push (.row [(.str nm),(yL s1)] .own)=f at *;have o2:=wA f [(.str []),(yL s2)];have p:=uA f (.row [(.str []),(yL s2)] .own);have o1:=o1.chg p;generalize f.push (.row [(.str []),(yL s2)] .own)=j at *;have y:j.cell (h.next,0)=some (.str nm):=o1.cell 0;have u:j.cell (f.next,0)=some (.str []):=o2.cell 0;have e:bB nm []=false:=by
  cases nm with
  | nil=>exact absurd rfl w
  | cons c r=>rfl
 simp only [xC,y,u,dA,yA,e,xB];exact ⟨j,rfl,c1.trans p⟩
theorem wL {d:D} (h:gX d):isLf d:=by
 obtain ⟨nm,xs,rfl,_,f⟩:=h;exact ⟨nm,xs,rfl,xT f.1 (by decide)⟩
theorem tE {d:D} (h:bG d):isOp d:=by
 rcases h with ⟨n,rfl,_⟩ | ⟨n,_,rfl⟩ | ⟨p,rfl,f⟩
 ·exact ⟨_,_,_,rfl,kJ⟩
 ·exact ⟨_,_,_,rfl,kJ⟩
 ·exact ⟨_,_,_,rfl,wL f⟩
def vB6 {x:Bs} (h:jE x=true):x≠[]:=fun e=>by rw [e] at h;cases h
def oAn (hN:3001<=N) {d:D} (hd:bG d) {r:OpV} (x:Dt h V d (opc r)):∃ h',f200 N r h=some (true,h')/\Chg [] h h':=by
 have hi:=tE hd;obtain ⟨k,n,pl,rfl,tp⟩:=hi;have ⟨p,K,y⟩:=jA0 tp x;obtain rfl:=qS.inj K;unfold f200;have o:=wA h (opc (k,n,p.1,p.2.1,()));have c:=uA h (.row (opc (k,n,p.1,p.2.1,())) .own);have e1:h.push (.row [(yI0 k),(yI0 n),(.str p.1),(yL p.2.1)] .own)=h.push (.row (opc (k,n,p.1,p.2.1,())) .own):=rfl;dsimp only;rw [e1];have y:=Dt.chg c (by simp) y;generalize h.push (.row (opc (k,n,p.1,p.2.1,())) .own)=H at *;have aa:H.cells (h.next,2) 2=some (.agg (lfc p)):=o.cells (j:=2) (m:=2) (xD _)
 try simp only [xC]
 rw [aa,eA1];have A:∀ (M:pl=pl0),∃ f,f164 N (p.1,p.2.1,()) ([],⟨none,0,0,0⟩,()) H=some (true,f)/\Chg [] H f:=fun M=>by
  subst M;have ⟨s,K,z⟩:=pM y;obtain rfl:=qM.inj K;exact lB0 (xs:=[]) z (Sl.nil H V 0) (by simp) (by simp;omega)
 have R:∀ {f:Heap},Chg [] H f->f.cell (h.next,0)=some (yI0 k)/\f.cell (h.next,1)=some (yI0 n)/\f.cells (h.next,2) 2=some (.agg (lfc p)):=fun u=>by
  have U:=o.chg u;exact ⟨U.cell 0,U.cell 1,U.cells (j:=2) (m:=2) (xD _)⟩
 have w:∀ {Z X:Int} {L:D},opD k n pl=opD Z X L->k=Z/\n=X/\pl=L:=fun e=>by
  simp only [opD,D.t.injEq,List.cons.injEq,D.i.injEq,and_true] at e;exact e
 rcases hd with ⟨m,O,hm⟩ | ⟨m,hm,O⟩ | ⟨q,O,Y⟩
 ·obtain ⟨rfl,rfl,rfl⟩:=w O
  have ⟨f,e,u⟩:=A rfl;have ⟨I,J,Q⟩:=R u;have e':f164 N (p.1,p.2.1,()) ([],⟨none,0,0,0⟩,()) H=some (true,f):=e;rw [e',aA];have F:pA 1 1=true:=rfl;have C:cD 0 (m:Int)=true:=by rw [leI,xU];omega
  have B:cD (m:Int) 2147483647=true:=by rw [leI,xU];omega
  simp only [I,J,dA,qB,F,C,B,xA];exact ⟨f,rfl,c.trans u⟩
 ·obtain ⟨rfl,rfl,rfl⟩:=w O
  have ⟨f,e,u⟩:=A rfl;have ⟨I,J,Q⟩:=R u;have e':f164 N (p.1,p.2.1,()) ([],⟨none,0,0,0⟩,()) H=some (true,f):=e;rw [e',aA];have F:pA 2 1=false:=rfl;have C:pA 2 2=true:=rfl;rcases hm with rfl | rfl
  ·have B:pA 0 0=true:=rfl
   simp only [I,J,dA,qB,F,C,B,xA,xB];exact ⟨f,rfl,c.trans u⟩
  ·have B:pA 1 0=false:=rfl
   have S:pA 1 1=true:=rfl;simp only [I,J,dA,qB,F,C,B,S,xA,xB];exact ⟨f,rfl,c.trans u⟩
 ·obtain ⟨rfl,rfl,rfl⟩:=w O
  have W:p.1≠[]:=by
   obtain ⟨nm,xs,rfl,hn,_⟩:=Y;have ⟨s,K,z⟩:=pM y;obtain rfl:=qM.inj K;exact vB6 hn
  have ⟨f,e,u⟩:=tBf (N:=N) (h:=H) W (s1:=p.2.1) (s2:=⟨none,0,0,0⟩);have ⟨I,J,Q⟩:=R u;rw [e,aA];have F:pA 3 1=false:=rfl;have C:pA 3 2=false:=rfl;have B:pA 3 3=true:=rfl;have S:pA 0 0=true:=rfl;simp only [I,J,dA,qB,F,C,B,S,xA,xB];rw [Q,eA1];have ⟨H2,e2,c2⟩:=bAe (N:=N) (by omega) Y (Dt.chg u (by simp) y);rw [e2,aA];exact ⟨H2,rfl,(c.trans u).trans c2⟩
def uBf (p:3001<=N) {d:D} (hd:bG d) {r:OpV} (x:Dt h V d (opc r)):∃ h',f229 N r h=some (false,h')/\Chg [] h h':=by
 unfold f229;have o:=wA h (opc r);have c:=uA h (.row (opc r) .own);have w:h.push (.row (yRD r) .own)=h.push (.row (opc r) .own):=rfl;dsimp only;rw [w];have x:=Dt.chg c (by simp) x;generalize h.push (.row (opc r) .own)=H at *;have f:H.cells (h.next,0) 4=some (.agg (opc r)):=o.cells (j:=0) (m:=4) (xD _);rw [f,kY];have ⟨y,e,u⟩:=oAn p hd x;rw [e,aA];exact ⟨y,rfl,c.trans u⟩
def cAe (y:3001<=N) {xs:List D} (p:∀ x∈xs,bG x) (C:xs.length<=100) {s:SL}:∀ (M i:Nat) (h:Heap),i<=xs.length->xs.length-i<M->Sl h V s xs->∃ h',yO N M s () 0 (xs.length:Int) (i:Int) h=some (.exit 0,(0,()),h')/\Chg [] h h':=by
 intro M
 induction M with
 | zero=>intro i h _ h;omega
 | succ M A=>
  intro i h hi F x;rw [kA1];unfold wO;simp only [qC]
  by_cases q:i<xs.length
  ·simp only [q,xO,xA]
   have f:=p _ (xR q);have ⟨r,g,d⟩:=qS.elt x q (tE f);rw [x.ix q 4,g,kY];have ⟨B,w,j⟩:=uBf y f d;rw [w,aA];simp only [xB];rw [iB (by omega)];have ⟨h',e',u⟩:=A (i+1) B q (by omega) (x.chg j);exact ⟨h',e',j.trans u⟩
  ·simp only [q,xQ,xB]
   exact ⟨h,rfl,Chg.refl _ _⟩
def vBf (j:3001<=N) {xs:List D} (f:uO 64 bG xs) {s:SL} (x:Sl h V s xs):∃ h',f216 N s h=some (true,h')/\Chg [] h h':=by
 unfold f216 pAd oAd;have r:s.len=xs.length:=x.len;have p:=f.1;have ⟨h',e,c⟩:=cAe j f.2 (by omega) N 0 h (xc _) (by omega) x;rw [show ((0:Nat):Int)=0 from rfl] at e;simp only [r,rBo f.1,xA];rw [show Int.ofNat xs.length=(xs.length:Int) from rfl,e];simp only [mB,aA,vF,xO,xA];exact ⟨h',rfl,c⟩
def lA0 {r r':VaV} (h:vac r=vac r'):r=r':=by
 have f:=fAf r (fun x=>some x)
 grind [fAf,Option.some.inj]
def wBf (f:3001<=N) {z:VaV} (x:Dt h V va00 (vac z)):∃ h',f165 N z va0 h=some (true,h')/\Chg [] h h':=wAm lA6 x (jA5 h V) f (Chg.refl _ _)
def dAe (r:40<=N) {P Q:zH3} {s:SL} {xs:List Bs} (x:Sl h V s (xs.map D.s)) (j:∀ y∈xs,jE y=true) (p:xs.length<=100):∀ (M i:Nat),i<=xs.length->xs.length-i<M->tA6 N M P true Q s (xs.length:Int) (i:Int) h=some (.exit 7,(P,true,Q,()),h):=by
 intro M
 induction M with
 | zero=>intro i _ h;omega
 | succ M u=>
  intro i hi w;rw [qAi];unfold rA6;simp only [qC]
  by_cases q:i<xs.length
  ·simp only [q,xO,xA]
   have f:i<(xs.map D.s).length:=by grind
   rw [x.ix f 1,dA5 x q]
   grind [dA,yA,dL,aA,xR,iB]
  grind
def pAn (hN:3001<=N) {d:D} (hd:mayVa d) {r:VaV} (pk:PK h) (x:Dt h V d (vac r)):∃ h',f199 N (tV r) h=some (true,h')/\Chg [] h h':=by
 unfold f199;have x:=Dt.weak (W:=fun A=>A<h.next) (fun A _ hl=>hl) x;have b6:=pk;have o:=wA h (vac r);have c:=uA h (.row (vac r) .own);have e1:h.push (.row (yRB r) .own)=h.push (.row (vac r) .own):=rfl;dsimp only;rw [e1];have x:=Dt.chg c (by simp) x;have pk:=pk.chg c;generalize h.push (.row (vac r) .own)=f at *;have aa:f.cells (h.next,0) 15=some (.agg (vac r)):=o.cells (j:=0) (m:=15) (xD _);rw [aa,fAf];have oz:=wA f (vac va0);have cz:=uA f (.row (vac va0) .own);have nz:(f.push (.row (vac va0) .own)).next=f.next+1:=rfl;have a3:(f.push (.row (vac va0) .own)).store (f.next,0) (vac r)=some ((f.push (.row (vac va0) .own)).put f.next (.row (vac r) .own)):=oz.store rfl;obtain ⟨H2,a4⟩:∃ H2,H2=(f.push (.row (vac va0) .own)).put f.next (.row (vac r) .own):=⟨_,rfl⟩;have w:W1 f H2 (vac r):=by rw [a4];exact ⟨kB oz _,cz.put (.inr (xD _)) _,xD _⟩
 rw [<- a4] at a3;have hz:∀ {β:Type} (K:Heap->Option β),vA ((f.push (.row yZB .own)).store (f.next,0) (yRB r)) K=K H2:=fun K=>by
  show vA ((f.push (.row (vac va0) .own)).store (f.next,0) (vac r)) K=_;rw [a3,fA]
 rw [hz]
 clear hz a3 a4 cz nz oz
 have b8:h.next<f.next:=o.2;have o:=o.chg w.c;have x:=Dt.chg w.c (by simp) x;have pk:=pk.chg w.c;have hV:∀ A,A<h.next->A ∉ [f.next]:=fun A hA=>by simp;omega
 have fin:∀ {H:Heap} {z:VaV},W1 f H (vac z)->Dt H (fun A=>A<h.next) va00 (vac (0,z.2))->∃ h',(vA (H.store (f.next,0) [(yI0 0)]) fun a1=>iA (.val (yV)) (a1.cells (f.next,0) 15) fun a8=>jA (f165 N (tV a8) (oV) a1) fun a6 a5=>some (a6,a5))=some (true,h')/\Chg [] h h':=by
  intro H z wz hx;have ⟨H',p',w',c',n'⟩:=wz.set (j:=0) (vs:=[(yI0 0)]) (by show 0+1<=15;omega) (ds:=vac (0,z.2)) rfl;rw [p'];have aa:H'.cells (f.next,0) 15=some (.agg (vac (0,z.2))):=w'.o.cells (j:=0) (m:=15) (xD _);rw [aa,fAf];have ⟨h',e,c2⟩:=wBf hN (Dt.chg c' hV hx);have e':f165 N (tV ((0,z.2):VaV)) (oV) H'=some (true,h'):=e;rw [e',aA];exact ⟨h',rfl,(c.trans w'.c).trans c2⟩
 have a0:H2.cell (h.next,0)=some (yI0 r.1):=o.cell 0;have one:∀ {H:Heap} {cs ds:List AV} {ra:OpV} {a:D} (k:Nat),k+4<=15->W1 f H cs->Chg [f.next] H2 H->bG a->Dt H2 (fun A=>A<h.next) a (opc ra)->((vac r).drop k).take 4=opc ra->cs.length=15->cs.take k++yZH++cs.drop (k+4)=ds->
   ∃ J I,H.cells (h.next,k) 4=some (.agg (opc ra))/\f200 N ra H=some (true,J)/\(∀ {β:Type} (K:Heap->Option β),vA (J.store (f.next,k) yZH) K=K I)/\W1 f J cs/\Chg [f.next] H2 J/\W1 f I ds/\Chg [f.next] H2 I:=by
  intro H cs ds ra a k hk wz cz ha R b2 hl b3;have aa:H.cells (h.next,k) 4=some (.agg (opc ra)):=by
   rw [<- b2];exact (o.chg cz (by simp;omega)).cells (j:=k) (m:=4) hk
  have ⟨J,M,X⟩:=oAn hN ha (Dt.chg cz hV R);have ⟨I,p4,w4,c4,n4⟩:=(wz.call X).set (j:=k) (vs:=yZH) (by rw [hl];exact hk) (ds:=ds) b3;exact ⟨J,I,aa,M,p4,wz.call X,cz.trans (X.mono (by simp)),w4,(cz.trans (X.mono (by simp))).trans c4⟩
 have u:∀ {H':Heap} {b:D} {cs:List AV},Chg [f.next] H2 H'->Dt H2 (fun A=>A<h.next) b cs->Dt H' (fun A=>A<h.next) b cs:=fun c' y=>Dt.chg c' hV y;have B:∀ {H':Heap} {b:List D} {s:SL},Chg [f.next] H2 H'->Sl H2 (fun A=>A<h.next) s b->Sl H' (fun A=>A<h.next) s b:=fun c' y=>y.chg c' hV;have named:∀ {H:Heap} {k:Int} {ra L:OpV} {F:LfV} {s1 s2:SL} {nm:Bs} {ag:List D},W1 f H (vac (nE k ra L 0 F nm s1 s2))->Chg [f.next] H2 H->uA7 nm->uO 64 bG ag->Sl H2 (fun A=>A<h.next) s2 ag->PK H->
   ∃ J I H5,f173 N nm H=some (true,H)/\f216 N s2 H=some (true,J)/\(∀ {β:Type} (K:Heap->Option β),vA (J.store (f.next,12) [(.str [])]) K=K I)/\(∀ {β:Type} (K:Heap->Option β),vA (I.store (f.next,14) [yS0]) K=K H5)/\W1 f H5 (vac (nE k ra L 0 F [] s1 sl0))/\Chg [f.next] H2 H5:=by
  intro H k ra L F s1 s2 nm ag wz cz hn hg O pk;have ⟨J,M,X⟩:=vBf hN hg (B cz O);have ⟨I,p4,w4,c4,n4⟩:=(wz.call X).set (j:=12) (vs:=[(.str [])]) (show 12+1<=15 by decide) (ds:=vac (nE k ra L 0 F [] s1 s2)) rfl;have ⟨H5,p5,w5,c5,n5⟩:=w4.set (j:=14) (vs:=[yS0]) (show 14+1<=15 by decide) (ds:=vac (nE k ra L 0 F [] s1 sl0)) rfl;exact ⟨J,I,H5,rB1 (by omega) hn pk,M,p4,p5,w5,((cz.trans (X.mono (by simp))).trans c4).trans c5⟩
 cases hd with
 | @op a ha=>
  have ⟨ra,L,F,s1,s2,hc,R,xb,xp,S,O⟩:=gP (tE ha) rH kJ x;obtain rfl:=lA0 hc;have U:pA 1 2=false:=rfl;have M:pA 1 3=false:=rfl;have e7:pA 1 7=false:=rfl;have e6:pA 1 6=false:=rfl;have e5:pA 1 5=false:=rfl;have e1:pA 1 1=true:=rfl;simp only [nE,xC,a0,dA,qB,e1,U,M,e5,e6,e7,xA,xB,fA,dB,rB];have ⟨J,I,Y,Z,g3,_,_,g4,C⟩:=one (ds:=vac (nE 1 fE L 0 F [] s1 s2)) 1 (by decide) w (Chg.refl _ _) ha R rfl rfl rfl;rw [Y,kY,Z];simp only [aA,fA,xC];rw [g3];simp only [fA,dB,xA,xC];exact fin g4 (jP (k:=0) (op:=0) (nm:=[]) (kG _ _) (u C xb) (u C xp) (B C S) (B C O))
 | @no a ha=>
  have ⟨ra,L,F,s1,s2,hc,R,xb,xp,S,O⟩:=gP (tE ha) rH kJ x;obtain rfl:=lA0 hc;have U:pA 4 2=false:=rfl;have M:pA 4 3=false:=rfl;have e7:pA 4 7=false:=rfl;have e6:pA 4 6=false:=rfl;have e5:pA 4 5=false:=rfl;have e1:pA 4 1=false:=rfl;have e4:pA 4 4=true:=rfl;simp only [nE,xC,a0,dA,qB,e1,U,M,e4,e5,e6,e7,xA,xB,fA,dB,rB];have ⟨J,I,Y,Z,g3,_,_,g4,C⟩:=one (ds:=vac (nE 4 fE L 0 F [] s1 s2)) 1 (by decide) w (Chg.refl _ _) ha R rfl rfl rfl;rw [Y,kY,Z];simp only [aA,fA,xC];rw [g3];simp only [fA,dB,xA,xC];exact fin g4 (jP (k:=0) (op:=0) (nm:=[]) (kG _ _) (u C xb) (u C xp) (B C S) (B C O))
 | @ref k p hk hp=>
  have ⟨ra,L,F,s1,s2,hc,R,xb,xp,S,O⟩:=gP rH rH (wL hp) x;obtain rfl:=lA0 hc;have ⟨J,Z,X⟩:=bAe (N:=N) (by omega) hp xp;have Y:H2.cells (h.next,10) 2=some (.agg (lfc F)):=o.cells (j:=10) (m:=2) (show 10+2<=15 by decide);have ⟨I,g3,g4,c4,n4⟩:=(w.call X).set (j:=10) (vs:=yZI) (show 10+2<=15 by decide) (ds:=vac (nE k ra L 0 lf0 [] s1 s2)) rfl;have C:Chg [f.next] H2 I:=(X.mono (by simp)).trans c4;rcases hk with rfl | rfl
  ·have U:pA 2 2=true:=rfl
   simp only [nE,xC,a0,dA,qB,U,xA,fA,dB,rB];rw [Y,eA1,Z];simp only [aA];rw [g3];simp only [fA,dB,rB,xA,xC];exact fin g4 (jP (k:=0) (op:=0) (nm:=[]) (u C R) (u C xb) (uI _ _) (B C S) (B C O))
  ·have U:pA 3 2=false:=rfl
   have M:pA 3 3=true:=rfl;simp only [nE,xC,a0,dA,qB,U,M,xA,xB,fA,dB,rB];rw [Y,eA1,Z];simp only [aA];rw [g3];simp only [fA,dB,rB,xA,xC];exact fin g4 (jP (k:=0) (op:=0) (nm:=[]) (u C R) (u C xb) (uI _ _) (B C S) (B C O))
 | @bin a b k ha hb hk=>
  have ⟨ra,L,F,s1,s2,hc,R,xb,xp,S,O⟩:=gP (tE ha) (tE hb) kJ x;obtain rfl:=lA0 hc;have U:pA 5 2=false:=rfl;have M:pA 5 3=false:=rfl;have e7:pA 5 7=false:=rfl;have e6:pA 5 6=false:=rfl;have e5:pA 5 5=true:=rfl;have a9:H2.cell (h.next,9)=some (yI0 k):=o.cell 9;have l1:cD 1 k=true:=by rw [leI,xU];omega
  have l4:cD k 4=true:=by rw [leI,xU];omega
  simp only [nE,xC,a0,dA,qB,U,M,e5,e6,e7,a9,l1,l4,xA,xB,fA,dB,rB];have ⟨J,_,Y,Z,_,w3,X,_,_⟩:=one (ds:=vac (nE 5 ra fE k F [] s1 s2)) 5 (by decide) w (Chg.refl _ _) hb xb rfl rfl rfl;rw [Y,kY,Z];simp only [aA,fA,xC];have ⟨I,p4,w4,c4,n4⟩:=w3.set (j:=9) (vs:=[(yI0 0)]) (show 9+1<=15 by decide) (ds:=vac (nE 5 ra L 0 F [] s1 s2)) rfl;rw [p4];have ⟨H5,p5,w5,c5,n5⟩:=w4.set (j:=5) (vs:=yZH) (show 5+4<=15 by decide) (ds:=vac (nE 5 ra fE 0 F [] s1 s2)) rfl;rw [p5];simp only [fA,dB,xA,xC];have ⟨H6,H7,q1,q2,q3,_,_,q4,q5⟩:=one (ds:=vac (nE 5 fE fE 0 F [] s1 s2)) 1 (by decide) w5 ((X.trans c4).trans c5) ha R rfl rfl rfl;rw [q1,kY,q2];simp only [aA,fA,xC];rw [q3];simp only [fA,dB,xA,xC];exact fin q4 (jP (k:=0) (op:=0) (nm:=[]) (kG _ _) (kG _ _) (u q5 xp) (B q5 S) (B q5 O))
 | @call nm ag hn hg=>
  have ⟨ra,L,F,s1,s2,hc,R,xb,xp,S,O⟩:=gP rH rH kJ x;obtain rfl:=lA0 hc;have U:pA 6 2=false:=rfl;have M:pA 6 3=false:=rfl;have e7:pA 6 7=false:=rfl;have e6:pA 6 6=true:=rfl;have b0:H2.cell (h.next,12)=some (.str nm):=o.cell 12;have a2:H2.cell (h.next,14)=some (yL s2):=o.cell 14;simp only [nE,xC,a0,dA,qB,U,M,e6,e7,b0,yA,xA,xB,fA,dB,rB];have ⟨J,I,H5,Y,Z,g3,g4,C,g6⟩:=named w (Chg.refl _ _) hn hg O pk;rw [Y];simp only [aA,xA,a2,dA,qA];rw [Z];simp only [aA,fA,xC];rw [g3,g4];simp only [fA,dB,rB,xA,xC];exact fin C (jP (k:=0) (op:=0) (nm:=[]) (u g6 R) (u g6 xb) (u g6 xp) (B g6 S) (Sl.nil _ _ _))
 | @make nm ns ag hn hl hs hg=>
  have ⟨ra,L,F,s1,s2,hc,R,xb,xp,S,O⟩:=gP rH rH kJ x;obtain rfl:=lA0 hc;have U:pA 7 2=false:=rfl;have M:pA 7 3=false:=rfl;have e7:pA 7 7=true:=rfl;have b0:H2.cell (h.next,12)=some (.str nm):=o.cell 12;have a7:H2.cell (h.next,13)=some (yL s1):=o.cell 13;have a2:H2.cell (h.next,14)=some (yL s2):=o.cell 14;have l1:s1.len=ns.length:=by rw [S.len,xS]
  have l2:s2.len=ag.length:=O.len;have b9:=hg.1;have lp:=dAe (N:=N) (by omega) (P:=some (h.next,0)) (Q:=some (f.next,0)) S hs (by omega) N 0 (xc _) (by omega);rw [show ((0:Nat):Int)=0 from rfl,show (ns.length:Int)=Int.ofNat s1.len by rw [l1];rfl] at lp;have b5:tA6 N N (some (h.next,0)) true (some (f.next,0)) s1 (Int.ofNat s1.len) 0 H2=some (.exit 7,(some (h.next,0),true,some (f.next,0),()),H2):=lp;have ll:pA (Int.ofNat s1.len) (Int.ofNat s2.len)=true:=by rw [eqI,l1,l2,hl];grind
  simp only [nE,xC,a0,dA,qB,U,M,e7,a7,qA,xA,xB,fA,dB,rB];rw [b5];simp only [mB,aA,fA,xC,xA,a7,a2,dA,qA,ll];have ⟨H6,p6,w6,c6,n6⟩:=w.set (j:=13) (vs:=[yS0]) (show 13+1<=15 by decide) (ds:=vac (nE 7 ra L 0 F nm sl0 s2)) rfl;rw [p6];have o6:=o.chg c6 (by simp;omega);have b7:H6.cell (h.next,12)=some (.str nm):=o6.cell 12;have b4:H6.cell (h.next,14)=some (yL s2):=o6.cell 14;simp only [fA,dB,xA,xC,b7,dA,yA];have b1:PK H6:=pk.chgM c6 (by have:=(PK.chg b6 c).2.1;simp;omega);have ⟨J,I,H5,Y,Z,g3,g4,C,g6⟩:=named w6 c6 hn hg O b1;rw [Y];simp only [aA,xA,b4,dA,qA];rw [Z];simp only [aA,fA,xC];rw [g3,g4];simp only [fA,dB,rB,xA,xC];exact fin C (jP (k:=0) (op:=0) (nm:=[]) (u g6 R) (u g6 xb) (u g6 xp) (Sl.nil _ _ _) (Sl.nil _ _ _))
end
end Qp
namespace Qp
abbrev tS (v:SmV):SmV:=v
abbrev oS:SmV:=(0,0,false,[],0,[],⟨none,0,0,0⟩,⟨none,0,0,0⟩,false,[],⟨none,0,0,0⟩,0,0,0,[],⟨none,0,0,0⟩,0,0,[],⟨none,0,0,0⟩,0,[],⟨none,0,0,0⟩,[],⟨none,0,0,0⟩,⟨none,0,0,0⟩,0,0,[],⟨none,0,0,0⟩,⟨none,0,0,0⟩,⟨none,0,0,0⟩,())
abbrev yS:VTy:=.agg [(.int .i64),(.int .i64),.bool,.str,(.int .i64),.str,.slice,.slice,.bool,.str,.slice,(.int .i64),(.int .i64),(.int .i64),.str,.slice,(.int .i64),(.int .i64),.str,.slice,(.int .i64),.str,.slice,.str,.slice,.slice,(.int .i64),(.int .i64),.str,.slice,.slice,.slice]
section
variable {N:Nat} {h:Heap} {V:Nat->Prop}
def uB1 (C:3001<=N) {va:D} (f:SmR) (p:jB9 f.has va) (r:PK h) (x:Dt h V va (vac f.va)):∃ h',f197 N (smv f) h=some (true,h')/\Chg [] h h':=by
 unfold f197;have o:=wA h (smc f);have c:=uA h (.row (smc f) .own);have w:h.push (.row (yRA (smv f)) .own)=h.push (.row (smc f) .own):=rfl;dsimp only;rw [w];have x:=Dt.chg c (by simp) x;have r:=r.chg c;generalize h.push (.row (smc f) .own)=H at *;have y:H.cell (h.next,8)=some (.bool f.has):=o.cell 8;simp only [xC,y,dA,aC];rcases p with ⟨u,p⟩ | ⟨u,p⟩
 ·rw [u]
  simp only [xA];have A:H.cells (h.next,11) 15=some (.agg (vac f.va)):=o.cells (j:=11) (m:=15) (show 11+15<=32 by decide);rw [A,fAf];have ⟨h',e,B⟩:=pAn C p r x;have e':f199 N (tV f.va) H=some (true,h'):=e;rw [e',aA];exact ⟨h',rfl,c.trans B⟩
 grind
def iS (s z:SmR):SmR:=bif s.has then (bif pA s.k 1||pA s.k 10 then { z with has:=false,va:=va0 } else bif pA s.k 4 then { z with has:=false,el:=sl0 } else z) else z
set_option maxHeartbeats 4000000 in
def yBf (rs f:SmR):∃ h',f201 N (smv rs) (smv f) h=some (smv (iS rs f),h')/\Chg [] h h':=by
 unfold f201;have o:=wA h (smc rs);have c:=uA h (.row (smc rs) .own);have e1:h.push (.row (yRA (smv rs)) .own)=h.push (.row (smc rs) .own):=rfl;dsimp only;rw [e1];generalize h.push (.row (smc rs) .own)=r at *;have Z:=wA r (smc f);have X:=uA r (.row (smc f) .own);have nz:(r.push (.row (smc f) .own)).next=r.next+1:=rfl;have e2:r.push (.row (yRA (smv f)) .own)=r.push (.row (smc f) .own):=rfl;rw [e2];have a5:h.next<r.next:=o.2;have o:=o.chg X;generalize r.push (.row (smc f) .own)=p at *;have C:=wA p (smc (aF 0));have M:=uA p (.row (smc (aF 0)) .own);have e3:p.push (.row yZA .own)=p.push (.row (smc (aF 0)) .own):=rfl;rw [e3];have o:=o.chg M;have Z:=Z.chg M;have L:W1 r (p.push (.row (smc (aF 0)) .own)) (smc f):=⟨Z,X.trans M,xT (Nat.le_of_eq nz.symm) M.next⟩;have a4:r.next<p.next:=by omega
 have a3:p.next<(p.push (.row (smc (aF 0)) .own)).next:=C.2;generalize p.push (.row (smc (aF 0)) .own)=H at *;have c0:=(c.trans X).trans M;have fin:∀ {J:Heap} {z:SmR},W1 r J (smc z)->J.own p.next (smc (aF 0))->∃ I,J.cells (r.next,0) 32=some (.agg (smx (smv z)))/\J.store (p.next,0) (yRA (smv z))=some I/\I.cells (p.next,0) 32=some (.agg (smx (smv z)))/\Chg [] h I:=by
  intro J z w C;have a1:J.store (p.next,0) (smc z)=some (J.put p.next (.row (smc z) .own)):=C.store rfl;exact ⟨_,w.o.cells (j:=0) (m:=32) (xD _),a1,(kB C _).cells (j:=0) (m:=32) (xD _),(c.trans w.c).put (.inr (by omega)) _⟩
 have a8:H.cell (h.next,8)=some (.bool rs.has):=o.cell 8;have a0:H.cell (h.next,0)=some (yI0 rs.k):=o.cell 0;simp only [xC,a8,dA,aC]
 cases Y:rs.has with
 | false=>
  have u:iS rs f=f:=by unfold iS;rw [Y];rfl
  rw [u];simp only [Bool.not_false,xA];have ⟨W,F,A,y,B⟩:=fin L C;rw [F,kL,A,fA,y,kL];exact ⟨_,rfl,B⟩
 | true=>
  simp only [xV,xB,a0,dA,qB]
  cases S:pA rs.k 1 with
  | true=>
   have u:iS rs f = { f with has:=false,va:=va0 }:=by unfold iS;rw [Y,S];rfl
   rw [u];simp only [xA,aA,fA,xC];have ⟨H3,K,O,R,n3⟩:=L.set (j:=8) (vs:=[(.bool false)]) (show 8+1<=32 by decide) (ds:=smc { f with has:=false }) (by simp only [smc,smx,smv];rfl);have ⟨H4,p4,U,Q,n4⟩:=O.set (j:=11) (vs:=yZB) (show 11+15<=32 by decide) (ds:=smc { f with has:=false,va:=va0 }) (by simp only [smc,smx,smv];rfl);rw [K,p4];simp only [aA,fA];have ⟨W,F,A,y,B⟩:=fin U ((C.chg R (by simp;omega)).chg Q (by simp;omega));rw [F,kL,A,fA,y,kL];exact ⟨_,rfl,B⟩
  | false=>
   cases a2:pA rs.k 10 with
   | true=>
    have u:iS rs f = { f with has:=false,va:=va0 }:=by unfold iS;rw [Y,S,a2];rfl
    rw [u];simp only [xA,xB,aA,fA,xC];have ⟨H3,K,O,R,n3⟩:=L.set (j:=8) (vs:=[(.bool false)]) (show 8+1<=32 by decide) (ds:=smc { f with has:=false }) (by simp only [smc,smx,smv];rfl);have ⟨H4,p4,U,Q,n4⟩:=O.set (j:=11) (vs:=yZB) (show 11+15<=32 by decide) (ds:=smc { f with has:=false,va:=va0 }) (by simp only [smc,smx,smv];rfl);rw [K,p4];simp only [aA,fA];have ⟨W,F,A,y,B⟩:=fin U ((C.chg R (by simp;omega)).chg Q (by simp;omega));rw [F,kL,A,fA,y,kL];exact ⟨_,rfl,B⟩
   | false=>
    cases h4:pA rs.k 4 with
    | true=>
     have u:iS rs f = { f with has:=false,el:=sl0 }:=by unfold iS;grind
     rw [u];simp only [h4,xA,xB,aA,fA,xC];have ⟨H3,K,O,R,n3⟩:=L.set (j:=8) (vs:=[(.bool false)]) (show 8+1<=32 by decide) (ds:=smc { f with has:=false }) (by simp only [smc,smx,smv];rfl);have ⟨H4,p4,U,Q,n4⟩:=O.set (j:=31) (vs:=[yS0]) (show 31+1<=32 by decide) (ds:=smc { f with has:=false,el:=sl0 }) (by simp only [smc,smx,smv];rfl);rw [K,p4];simp only [aA,fA];have ⟨W,F,A,y,B⟩:=fin U ((C.chg R (by simp;omega)).chg Q (by simp;omega));rw [F,kL,A,fA,y,kL];exact ⟨_,rfl,B⟩
    | false=>
     have u:iS rs f=f:=by unfold iS;grind
     rw [u];simp only [h4,xB,aA,fA];have ⟨W,F,A,y,B⟩:=fin L C;rw [F,kL,A,fA,y,kL];exact ⟨_,rfl,B⟩
def qY:D:=smT 0 0 false [] ty0D false pl0 va00 op0 [] []
def aBg (f:3001<=N) {j:SmR} (x:Dt h V qY (smc j)):∃ h',f114 N N (smv j) (smv (aF 0)) h=some (true,h')/\Chg [] h h':=by
 have ⟨r,p,v,o,s1,s2,C,u,A,B,I,y,w⟩:=fX oY kJ lA6 rH x;have F:=(rM 1).inj C;obtain ⟨M,rfl⟩:∃ m,N=m+1:=⟨N-1,by omega⟩;rw [F,gAi];exact rAq (fun H c=>mA2 oY (by omega) u (gW h V 0 []) f c) (fun H c=>fAd kJ A (uI h V) f c) (fun H c=>wAm lA6 B (jA5 h V) f c) (fun H c=>gA6 rH I (kG h V) f c)
  (fun H c=>yAm f 0 M [] s1 sl0 H V V (by omega) (by simp) (by simp) (y.chg c) (Sl.nil _ _ _)) (fun H c=>yAm f 0 M [] s2 sl0 H V V (by omega) (by simp) (by simp) (w.chg c) (Sl.nil _ _ _))
def eAe {m:Nat} {k a:Int} {C:Bool} {nm:Bs} {ty:D} {u:Bool} {pl va co:D} {th el:List D} (t:gA0 (m+1) (smT k a C nm ty u pl va co th el)):isTy 65 ty/\isLf pl/\isVa va/\isOp co/\th.length<=3000/\el.length<=3000/\(∀ s∈th,gA0 m s)/\∀ s∈el,gA0 m s:=by
 have ⟨Q,S,F,f,B,A,y,r,j,w,p,e,I,L,O,H,J,R,M,K⟩:=t;simp only [smT,D.t.injEq,List.cons.injEq,D.i.injEq,D.b.injEq,D.s.injEq,D.l.injEq,and_true] at e
 grind
set_option maxHeartbeats 2000000 in
def bBg (hN:3001<=N) {rec125 rec174} {n m:Nat} {d:D} (hd:mayN (n+1) d) (ti:gA0 (m+1) d) {r:SmV} (pk:PK h) (x:Dt h V d (smx r)) {deep:Int}
  (hb:∀ (l:List D) (s1:SL) (H:Heap),(l=thD d\/l=elD d)->0<n->PK H->Sl H (fun A=>A<h.next) s1 l->∃ B,rec125 s1 (fB .i64 (deep+1)) H=some (true,B)/\Chg [] H B):∃ h',vAq N rec125 rec174 r deep h=some (true,h')/\Chg [] h h':=by
 obtain ⟨k,a,mu,nm,ty,hs,pl,va,co,th,el,rfl,f0,f9,hk⟩:=hd;have ⟨t1,t2,t3,t4,_⟩:=eAe ti;have ⟨rt,rp,rv,ro,s1,s2,hc,x1,x2,x3,x4,x5,x6⟩:=fX t1 t2 t3 t4 x;obtain ⟨f,O⟩:∃ f:SmR,f=⟨k,a,mu,nm,rt,hs,rp,rv,ro,s1,s2⟩:=⟨_,rfl⟩;rw [<- O] at hc;have hr:r=smv f:=(rM 1).inj hc;subst hr;unfold vAq;have x:=Dt.weak (W:=fun A=>A<h.next) (fun A _ hl=>hl) x;have x1:=Dt.weak (W:=fun A=>A<h.next) (fun A _ hl=>hl) x1;have x2:=Dt.weak (W:=fun A=>A<h.next) (fun A _ hl=>hl) x2;have x3:=Dt.weak (W:=fun A=>A<h.next) (fun A _ hl=>hl) x3;have x4:=Dt.weak (W:=fun A=>A<h.next) (fun A _ hl=>hl) x4;have x5:=x5.weak (W:=fun A=>A<h.next) (fun A _ hl=>hl);have x6:=x6.weak (W:=fun A=>A<h.next) (fun A _ hl=>hl);have d7:=pk;have o:=wA h (smc f);have c:=uA h (.row (smc f) .own);have Q:h.push (.row (yRA (smv f)) .own)=h.push (.row (smc f) .own):=rfl;dsimp only;rw [Q];have pk:=pk.chg c;generalize h.push (.row (smc f) .own)=u at *;have aa:u.cells (h.next,0) 32=some (.agg (smx (smv f))):=o.cells (j:=0) (m:=32) (xD _);rw [aa,kL];have oz:=wA u (smc (aF 0));have cz:=uA u (.row (smc (aF 0)) .own);have nz:(u.push (.row (smc (aF 0)) .own)).next=u.next+1:=rfl;have b4:(u.push (.row (smc (aF 0)) .own)).store (u.next,0) (smc f)=some ((u.push (.row (smc (aF 0)) .own)).put u.next (.row (smc f) .own)):=oz.store rfl;obtain ⟨H2,b5⟩:∃ H2,H2=(u.push (.row (smc (aF 0)) .own)).put u.next (.row (smc f) .own):=⟨_,rfl⟩;have w:W1 u H2 (smc f):=by rw [b5];exact ⟨kB oz _,cz.put (.inr (xD _)) _,xD _⟩
 rw [<- b5] at b4;have hz:∀ {β:Type} (K:Heap->Option β),vA ((u.push (.row yZA .own)).store (u.next,0) (yRA (smv f))) K=K H2:=fun K=>by
  show vA ((u.push (.row (smc (aF 0)) .own)).store (u.next,0) (smc f)) K=_;rw [b4,fA]
 rw [hz]
 clear hz b4 b5 cz nz oz
 have f8:h.next<u.next:=o.2;have o:=o.chg w.c;have a5:=c.trans w.c;have x1:=Dt.chg a5 (by simp) x1;have x2:=Dt.chg a5 (by simp) x2;have x3:=Dt.chg a5 (by simp) x3;have x4:=Dt.chg a5 (by simp) x4;have x5:=x5.chg a5;have x6:=x6.chg a5;have pk:=pk.chg w.c;have hV:∀ A,A<h.next->A ∉ [u.next]:=fun A hA=>by simp;omega
 have c9:∀ A∈[u.next],6<=A:=fun A hA=>by
  rw [List.mem_singleton] at hA
  have:=d7.2;omega
 have oX:∀ {H:Heap},Chg [u.next] H2 H->H.own h.next (smc f):=fun p=>o.chg p (by simp;omega);have pX:∀ {H:Heap},Chg [u.next] H2 H->PK H:=fun p=>pk.chgM p c9;have C:∀ {B:Heap} {b:D} {cs:List AV},Chg [u.next] H2 B->Dt H2 (fun A=>A<h.next) b cs->Dt B (fun A=>A<h.next) b cs:=fun c' y=>Dt.chg c' hV y;have X:∀ {B:Heap} {b:List D} {s:SL},Chg [u.next] H2 B->Sl H2 (fun A=>A<h.next) s b->Sl B (fun A=>A<h.next) s b:=fun c' y=>y.chg c' hV;have aX:∀ {H:Heap},Chg [u.next] H2 H->H.cells (h.next,0) 32=some (.agg (smx (smv f))):=fun p=>(oX p).cells (j:=0) (m:=32) (xD _);have fin:∀ {H:Heap} {rz:SmR},W1 u H (smc rz)->Chg [u.next] H2 H->(∀ {B:Heap},Chg [u.next] H2 B->Dt B (fun A=>A<h.next) qY (smc (iS f { rz with k:=0,at_:=0 })))->∃ M I H5 h',(∀ {β:Type} (K:Heap->Option β),vA (H.store (u.next,0) [(yI0 0)]) K=K M)/\(∀ {β:Type} (K:Heap->Option β),vA (M.store (u.next,1) [(yI0 0)]) K=K I)/\I.cells (h.next,0) 32=some (.agg (smx (smv f)))/\I.cells (u.next,0) 32=some (.agg (smx (smv { rz with k:=0,at_:=0 })))/\
   f201 N (tS (smv f)) (tS (smv { rz with k:=0,at_:=0 })) I=some (smv (iS f { rz with k:=0,at_:=0 }),H5)/\f114 N N (tS (smv (iS f { rz with k:=0,at_:=0 }))) (oS) H5=some (true,h')/\Chg [] h h':=by
  intro H rz wz p L;have ⟨M,p3,w3,c3,n3⟩:=wz.set (j:=0) (vs:=[(yI0 0)]) (show 0+1<=32 by decide) (ds:=smc { rz with k:=0 }) (by simp only [smc,smx,smv];rfl);have ⟨I,p4,w4,c4,n4⟩:=w3.set (j:=1) (vs:=[(yI0 0)]) (show 1+1<=32 by decide) (ds:=smc { rz with k:=0,at_:=0 }) (by simp only [smc,smx,smv];rfl);have b7:=(p.trans c3).trans c4;have ab:I.cells (u.next,0) 32=some (.agg (smx (smv { rz with k:=0,at_:=0 }))):=w4.o.cells (j:=0) (m:=32) (xD _);have ⟨H5,e5,c5⟩:=yBf (N:=N) (h:=I) f { rz with k:=0,at_:=0 };have ⟨h',e6,c6⟩:=aBg hN (L (b7.trans (c5.mono (by simp))));exact ⟨M,I,H5,h',p3,p4,aX b7,ab,e5,e6,((c.trans w4.c).trans c5).trans c6⟩
 have one:∀ {H:Heap} {cs ds:List AV} {a:D},W1 u H cs->Chg [u.next] H2 H->bG a->Dt H2 (fun A=>A<h.next) a (opc f.co)->cs.length=32->cs.take 26++yZH++cs.drop 30=ds->
   ∃ M I,H.cells (h.next,26) 4=some (.agg (opc f.co))/\f200 N (f.co.1,f.co.2.1,f.co.2.2.1,f.co.2.2.2.1,()) H=some (true,M)/\(∀ {β:Type} (K:Heap->Option β),vA (M.store (u.next,26) yZH) K=K I)/\W1 u I ds/\Chg [u.next] H2 I:=by
  intro H cs ds a wz cz ha xa hl b2;have aa:H.cells (h.next,26) 4=some (.agg (opc f.co)):=(oX cz).cells (j:=26) (m:=4) (show 26+4<=32 by decide);have ⟨M,e3,c3⟩:=oAn hN ha (C cz xa);have ⟨I,p4,w4,c4,n4⟩:=(wz.call c3).set (j:=26) (vs:=yZH) (by grind) (ds:=ds) b2;exact ⟨M,I,aa,e3,p4,w4,(cz.trans (c3.mono (by simp))).trans c4⟩
 have a6:∀ {H:Heap} {cs ds:List AV},0<n->W1 u H cs->Chg [u.next] H2 H->Sl H2 (fun A=>A<h.next) f.th th->cs.length=32->cs.take 30++[yS0]++cs.drop 31=ds->
   ∃ M I,H.cell (h.next,30)=some (yL f.th)/\rec125 f.th (fB .i64 (deep+1)) H=some (true,M)/\(∀ {β:Type} (K:Heap->Option β),vA (M.store (u.next,30) [yS0]) K=K I)/\W1 u I ds/\Chg [u.next] H2 I:=by
  intro H cs ds h0 wz cz xs hl b2;have ⟨M,e3,c3⟩:=hb th f.th H (.inl rfl) h0 (pX cz) (X cz xs);have ⟨I,p4,w4,c4,n4⟩:=(wz.call c3).set (j:=30) (vs:=[yS0]) (by grind) (ds:=ds) b2;exact ⟨M,I,(oX cz).cell 30,e3,p4,w4,(cz.trans (c3.mono (by simp))).trans c4⟩
 have x1:Dt H2 (fun A=>A<h.next) ty (tyc f.ty):=by rw [O];exact x1
 have x2:Dt H2 (fun A=>A<h.next) pl (lfc f.pl):=by rw [O];exact x2
 have x3:Dt H2 (fun A=>A<h.next) va (vac f.va):=by rw [O];exact x3
 have x4:Dt H2 (fun A=>A<h.next) co (opc f.co):=by rw [O];exact x4
 have x5:Sl H2 (fun A=>A<h.next) f.th th:=by rw [O];exact x5
 have x6:Sl H2 (fun A=>A<h.next) f.el el:=by rw [O];exact x6
 have q0:f.k=k:=by rw [O]
 have q2:f.m=mu:=by rw [O]
 have q3:f.nm=nm:=by rw [O]
 have J:f.has=hs:=by rw [O]
 have a0:H2.cell (h.next,0)=some (yI0 k):=by rw [<- q0];exact o.cell 0
 have a3:H2.cell (h.next,3)=some (.str nm):=by rw [<- q3];exact o.cell 3
 have a8:H2.cell (h.next,8)=some (.bool hs):=by rw [<- J];exact o.cell 8
 have a9:H2.cells (h.next,9) 2=some (.agg (lfc f.pl)):=o.cells (j:=9) (m:=2) (show 9+2<=32 by decide);have c2:H2.cell (h.next,11)=some (yI0 f.va.1):=o.cell 11;have F:∀ {z:SmR},f.has=false->iS f z=z:=fun {z} h=>by unfold iS;rw [h];rfl
 cases hk with
 | let_ hn ht hv=>
  have Q:pA 1 1=true:=rfl;simp only [xC,dA,qB,yA,a0,Q,a3,xA];rw [dL (by omega),aA,hn];have g1:H2.cells (h.next,4) 4=some (.agg (tyc f.ty)):=o.cells (j:=4) (m:=4) (show 4+4<=32 by decide);simp only [xA];rw [g1,vZ];have ⟨M,g2,c3⟩:=aAe (N:=N) (by omega) ht pk x1;rw [g2,aA];have a1:Chg [u.next] H2 M:=c3.mono (by simp);simp only [xA];rw [aX a1,kL];have ⟨I,e4,c4⟩:=uB1 hN f (by rw [J];exact hv) (pX a1) (C a1 x3);have a2:f197 N (tS (smv f)) M=some (true,I):=e4;rw [a2,aA,aA]
  try simp only [fA,xC]
  have ⟨H5,p5,w5,c5,n5⟩:=((w.call c3).call c4).set (j:=2) (vs:=[(.bool false)]) (show 2+1<=32 by decide) (ds:=smc { f with m:=false }) (by simp only [smc,smx,smv];rfl);have ⟨H6,p6,w6,c6,n6⟩:=w5.set (j:=3) (vs:=[(.str [])]) (show 3+1<=32 by decide) (ds:=smc { f with m:=false,nm:=[] }) (by simp only [smc,smx,smv];rfl);have ⟨H7,p7,w7,c7,n7⟩:=w6.set (j:=4) (vs:=yZG) (show 4+4<=32 by decide) (ds:=smc { f with m:=false,nm:=[],ty:=jAv }) (by simp only [smc,smx,smv];rfl);rw [p5,p6,p7];have d9:Chg [u.next] H2 H7:=(((a1.trans (c4.mono (by simp))).trans c5).trans c6).trans c7
  try simp only [fA,dB,rB,xA,xC]
  have L:∀ {B:Heap},Chg [u.next] H2 B->Dt B (fun A=>A<h.next) qY (smc (iS f { { f with m:=false,nm:=[],ty:=jAv } with k:=0,at_:=0 })):=by
   intro B p;have ek:pA f.k 1=true:=by rw [q0];rfl
   rcases hv with ⟨h1,_⟩ | ⟨h1,h2⟩
   ·have ez:∀ z:SmR,iS f z = { z with has:=false,va:=va0 }:=fun z=>by unfold iS;rw [J,h1,ek];rfl
    rw [ez];exact tJ (r:={ f with m:=false,nm:=[],ty:=jAv,k:=0,at_:=0,has:=false,va:=va0 }) (gW _ _ _ _) (C p x2) (jA5 _ _) (C p x4) (X p x5) (X p x6)
   ·rw [F (by rw [J,h1])]
    have y:=tJ (r:={ f with m:=false,nm:=[],ty:=jAv,k:=0,at_:=0 }) (gW _ _ _ _) (C p x2) (C p x3) (C p x4) (X p x5) (X p x6);rw [h2] at y;have y':Dt _ (fun A=>A<h.next) (smT 0 0 false [] ty0D f.has pl0 va00 op0 [] []) (smc { f with m:=false,nm:=[],ty:=jAv,k:=0,at_:=0 }):=y;have e:smT 0 0 false [] ty0D f.has pl0 va00 op0 [] []=qY:=by rw [J,h1];rfl
    rw [e] at y';exact y'
  have ⟨F3,F4,F5,R,Y,U,Z,f4,f5,S,f7⟩:=fin w7 d9 L;rw [Y,U,Z,kL,f4,kL,f5,aA,S,aA];exact ⟨R,rfl,f7⟩
 | set hn L hv=>
  have Q:pA 2 1=false:=rfl;have e2:pA 2 2=true:=rfl;simp only [xC,dA,qB,a0,Q,e2,xA,xB];rw [a9,eA1];have ⟨M,g2,c3⟩:=bAe (N:=N) (by omega) ⟨_,_,rfl,hn,L⟩ x2;rw [g2,aA];have a1:Chg [u.next] H2 M:=c3.mono (by simp);simp only [xA];have g3:M.cells (h.next,11) 15=some (.agg (vac f.va)):=(oX a1).cells (j:=11) (m:=15) (show 11+15<=32 by decide);rw [g3,fAf];have ⟨I,e4,c4⟩:=pAn hN hv (pX a1) (C a1 x3);have a2:f199 N (tV f.va) M=some (true,I):=e4;rw [a2,aA,aA]
  try simp only [fA,xC]
  have ⟨H5,p5,w5,c5,n5⟩:=((w.call c3).call c4).set (j:=9) (vs:=yZI) (show 9+2<=32 by decide) (ds:=smc { f with pl:=lf0 }) (by simp only [smc,smx,smv];rfl);have ⟨H6,p6,w6,c6,n6⟩:=w5.set (j:=11) (vs:=yZB) (show 11+15<=32 by decide) (ds:=smc { f with pl:=lf0,va:=va0 }) (by simp only [smc,smx,smv];rfl);rw [p5,p6];have b1:Chg [u.next] H2 H6:=((a1.trans (c4.mono (by simp))).trans c5).trans c6
  try simp only [fA,dB,rB,xA,xC]
  have L:∀ {B:Heap},Chg [u.next] H2 B->Dt B (fun A=>A<h.next) qY (smc (iS f { { f with pl:=lf0,va:=va0 } with k:=0,at_:=0 })):=by
   intro B p;rw [F (by rw [J])];have y:=tJ (r:={ { f with pl:=lf0,va:=va0 } with k:=0,at_:=0 }) (C p x1) (uI _ _) (jA5 _ _) (C p x4) (X p x5) (X p x6);have y':Dt _ (fun A=>A<h.next) (smT 0 0 f.m f.nm ty0D f.has pl0 va00 op0 [] []) (smc { { f with pl:=lf0,va:=va0 } with k:=0,at_:=0 }):=y;have e:smT 0 0 f.m f.nm ty0D f.has pl0 va00 op0 [] []=qY:=by rw [q2,q3,J];rfl
   rw [e] at y';exact y'
  have ⟨F3,F4,F5,R,Y,U,Z,f4,f5,S,f7⟩:=fin w6 b1 L;rw [Y,U,Z,kL,f4,kL,f5,aA,S,aA];exact ⟨R,rfl,f7⟩
 | call hn d5=>
  have Q:pA 3 1=false:=rfl;have e2:pA 3 2=false:=rfl;have e3:pA 3 3=true:=rfl;simp only [xC,dA,qB,a0,Q,e2,e3,xA,xB];have b8:mayVa (vaD 6 op0 op0 0 pl0 _ [] _):=mayVa.call hn d5;have ⟨ra,rb,g0,u1,u2,d6,_⟩:=gP rH rH kJ x3;have c8:f.va.1=6:=by rw [lA0 d6];rfl
  have d8:pA f.va.1 6=true:=by rw [c8];rfl
  simp only [c2,dA,qB,d8,xA];have g3:H2.cells (h.next,11) 15=some (.agg (vac f.va)):=o.cells (j:=11) (m:=15) (show 11+15<=32 by decide);rw [g3,fAf];have ⟨I,e4,c4⟩:=pAn hN b8 pk x3;have a2:f199 N (tV f.va) H2=some (true,I):=e4;rw [a2,aA,aA]
  try simp only [fA,xC]
  have ⟨H6,p6,w6,c6,n6⟩:=(w.call c4).set (j:=11) (vs:=yZB) (show 11+15<=32 by decide) (ds:=smc { f with va:=va0 }) (by simp only [smc,smx,smv];rfl);rw [p6];have b1:Chg [u.next] H2 H6:=Chg.trans (c4.mono (by simp)) c6
  try simp only [fA,dB,rB,xA,xC]
  have L:∀ {B:Heap},Chg [u.next] H2 B->Dt B (fun A=>A<h.next) qY (smc (iS f { { f with va:=va0 } with k:=0,at_:=0 })):=by
   intro B p;rw [F (by rw [J])];have y:=tJ (r:={ { f with va:=va0 } with k:=0,at_:=0 }) (C p x1) (C p x2) (jA5 _ _) (C p x4) (X p x5) (X p x6);have y':Dt _ (fun A=>A<h.next) (smT 0 0 f.m f.nm ty0D f.has pl0 va00 op0 [] []) (smc { { f with va:=va0 } with k:=0,at_:=0 }):=y;have e:smT 0 0 f.m f.nm ty0D f.has pl0 va00 op0 [] []=qY:=by rw [q2,q3,J];rfl
   rw [e] at y';exact y'
  have ⟨F3,F4,F5,R,Y,U,Z,f4,f5,S,f7⟩:=fin w6 b1 L;rw [Y,U,Z,kL,f4,kL,f5,aA,S,aA];exact ⟨R,rfl,f7⟩
 | if_ h0 b0 he=>
  have Q:pA 4 1=false:=rfl;have e2:pA 4 2=false:=rfl;have e3:pA 4 3=false:=rfl;have e4:pA 4 4=true:=rfl;simp only [xC,dA,qB,a0,Q,e2,e3,e4,xA,xB]
  cases hs with
  | false=>
   simp only [a8,dA,aC,Bool.not_false,xA,fA,dB,xC];obtain rfl:=he rfl;have ⟨M,I,g1,g2,g3,g4,g5⟩:=one (ds:=smc { f with co:=fE }) w (Chg.refl _ _) b0 x4 rfl (by simp only [smc,smx,smv];rfl);rw [g1,kY,g2];simp only [aA,fA,xC];rw [g3];simp only [fA,dB,xA,xC];have ⟨H5,H6,k1,k2,k3,k4,k5⟩:=a6 (ds:=smc { f with co:=fE,th:=sl0 }) h0 g4 g5 x5 rfl (by simp only [smc,smx,smv];rfl);simp only [k1,dA,qA];rw [k2,aA,aA]
   try simp only [fA,xC]
   rw [k3]
   try simp only [fA,dB,rB,xA,xC]
   have L:∀ {B:Heap},Chg [u.next] H2 B->Dt B (fun A=>A<h.next) qY (smc (iS f { { f with co:=fE,th:=sl0 } with k:=0,at_:=0 })):=by
    intro B p;rw [F (by rw [J])];have y:=tJ (r:={ { f with co:=fE,th:=sl0 } with k:=0,at_:=0 }) (C p x1) (C p x2) (C p x3) (kG _ _) (Sl.nil _ _ _) (X p x6);have y':Dt _ (fun A=>A<h.next) (smT 0 0 f.m f.nm ty0D f.has pl0 va00 op0 [] []) (smc { { f with co:=fE,th:=sl0 } with k:=0,at_:=0 }):=y;have e:smT 0 0 f.m f.nm ty0D f.has pl0 va00 op0 [] []=qY:=by rw [q2,q3,J];rfl
    grind
   have ⟨F3,F4,F5,R,Y,U,Z,f4,f5,S,f7⟩:=fin k4 k5 L;rw [Y,U,Z,kL,f4,kL,f5,aA,S,aA];exact ⟨R,rfl,f7⟩
  | true=>
   have d4:H2.cell (h.next,31)=some (yL f.el):=o.cell 31;have ⟨H0,e0,c0⟩:=hb el f.el H2 (.inr rfl) h0 pk x6;simp only [a8,dA,aC,xV,xB,d4,qA];rw [e0];simp only [fA,dB,aA,xC,xA];have ⟨M,I,g1,g2,g3,g4,g5⟩:=one (ds:=smc { f with co:=fE }) (w.call c0) (c0.mono (by simp)) b0 x4 rfl (by simp only [smc,smx,smv];rfl);rw [g1,kY,g2];simp only [aA,fA,xC];rw [g3];simp only [fA,dB,xA,xC];have ⟨H5,H6,k1,k2,k3,k4,k5⟩:=a6 (ds:=smc { f with co:=fE,th:=sl0 }) h0 g4 g5 x5 rfl (by simp only [smc,smx,smv];rfl);simp only [k1,dA,qA];rw [k2,aA,aA]
   try simp only [fA,xC]
   rw [k3]
   try simp only [fA,dB,rB,xA,xC]
   have L:∀ {B:Heap},Chg [u.next] H2 B->Dt B (fun A=>A<h.next) qY (smc (iS f { { f with co:=fE,th:=sl0 } with k:=0,at_:=0 })):=by
    intro B p;have b3:pA f.k 1=false:=by rw [q0];rfl
    have b6:pA f.k 10=false:=by rw [q0];rfl
    have d0:pA f.k 4=true:=by rw [q0];rfl
    have ez:∀ z:SmR,iS f z = { z with has:=false,el:=sl0 }:=fun z=>by unfold iS;rw [J,b3,b6,d0];rfl
    rw [ez];have y:=tJ (r:={ f with co:=fE,th:=sl0,k:=0,at_:=0,has:=false,el:=sl0 }) (C p x1) (C p x2) (C p x3) (kG _ _) (Sl.nil _ _ _) (Sl.nil _ _ _);have y':Dt _ (fun A=>A<h.next) (smT 0 0 f.m f.nm ty0D false pl0 va00 op0 [] []) (smc { f with co:=fE,th:=sl0,k:=0,at_:=0,has:=false,el:=sl0 }):=y;have e:smT 0 0 f.m f.nm ty0D false pl0 va00 op0 [] []=qY:=by rw [q2,q3];rfl
    grind
   have ⟨F3,F4,F5,R,Y,U,Z,f4,f5,S,f7⟩:=fin k4 k5 L;rw [Y,U,Z,kL,f4,kL,f5,aA,S,aA];exact ⟨R,rfl,f7⟩
 | while_ h0 b0=>
  have Q:pA 5 1=false:=rfl;have e2:pA 5 2=false:=rfl;have e3:pA 5 3=false:=rfl;have e4:pA 5 4=false:=rfl;have e5:pA 5 5=true:=rfl;simp only [xC,dA,qB,a0,Q,e2,e3,e4,e5,xA,xB,fA,dB];have ⟨M,I,g1,g2,g3,g4,g5⟩:=one (ds:=smc { f with co:=fE }) w (Chg.refl _ _) b0 x4 rfl (by simp only [smc,smx,smv];rfl);rw [g1,kY,g2];simp only [aA,fA,xC];rw [g3];simp only [fA,dB,xA,xC];have ⟨H5,H6,k1,k2,k3,k4,k5⟩:=a6 (ds:=smc { f with co:=fE,th:=sl0 }) h0 g4 g5 x5 rfl (by simp only [smc,smx,smv];rfl);simp only [k1,dA,qA];rw [k2,aA,aA]
  try simp only [fA,xC]
  rw [k3]
  try simp only [fA,dB,rB,xA,xC]
  have L:∀ {B:Heap},Chg [u.next] H2 B->Dt B (fun A=>A<h.next) qY (smc (iS f { { f with co:=fE,th:=sl0 } with k:=0,at_:=0 })):=by
   intro B p;rw [F (by rw [J])];have y:=tJ (r:={ { f with co:=fE,th:=sl0 } with k:=0,at_:=0 }) (C p x1) (C p x2) (C p x3) (kG _ _) (Sl.nil _ _ _) (X p x6);have y':Dt _ (fun A=>A<h.next) (smT 0 0 f.m f.nm ty0D f.has pl0 va00 op0 [] []) (smc { { f with co:=fE,th:=sl0 } with k:=0,at_:=0 }):=y;have e:smT 0 0 f.m f.nm ty0D f.has pl0 va00 op0 [] []=qY:=by rw [q2,q3,J];rfl
   grind
  have ⟨F3,F4,F5,R,Y,U,Z,f4,f5,S,f7⟩:=fin k4 k5 L;rw [Y,U,Z,kL,f4,kL,f5,aA,S,aA];exact ⟨R,rfl,f7⟩
 | loop h0=>
  have Q:pA 6 1=false:=rfl;have e2:pA 6 2=false:=rfl;have e3:pA 6 3=false:=rfl;have e4:pA 6 4=false:=rfl;have e5:pA 6 5=false:=rfl;have e6:pA 6 6=true:=rfl;simp only [xC,dA,qB,a0,Q,e2,e3,e4,e5,e6,xA,xB,fA,dB,rB];have ⟨H5,H6,k1,k2,k3,k4,k5⟩:=a6 (ds:=smc { f with th:=sl0 }) h0 w (Chg.refl _ _) x5 rfl (by simp only [smc,smx,smv];rfl);simp only [k1,dA,qA];rw [k2,aA,aA]
  try simp only [fA,xC]
  rw [k3]
  try simp only [fA,dB,rB,xA,xC]
  have L:∀ {B:Heap},Chg [u.next] H2 B->Dt B (fun A=>A<h.next) qY (smc (iS f { { f with th:=sl0 } with k:=0,at_:=0 })):=by
   intro B p;rw [F (by rw [J])];have y:=tJ (r:={ { f with th:=sl0 } with k:=0,at_:=0 }) (C p x1) (C p x2) (C p x3) (C p x4) (Sl.nil _ _ _) (X p x6);have y':Dt _ (fun A=>A<h.next) (smT 0 0 f.m f.nm ty0D f.has pl0 va00 op0 [] []) (smc { { f with th:=sl0 } with k:=0,at_:=0 }):=y;have e:smT 0 0 f.m f.nm ty0D f.has pl0 va00 op0 [] []=qY:=by rw [q2,q3,J];rfl
   grind
  have ⟨F3,F4,F5,R,Y,U,Z,f4,f5,S,f7⟩:=fin k4 k5 L;rw [Y,U,Z,kL,f4,kL,f5,aA,S,aA];exact ⟨R,rfl,f7⟩
 | block h0=>
  have Q:pA 7 1=false:=rfl;have e2:pA 7 2=false:=rfl;have e3:pA 7 3=false:=rfl;have e4:pA 7 4=false:=rfl;have e5:pA 7 5=false:=rfl;have e6:pA 7 6=false:=rfl;have e7:pA 7 7=true:=rfl;simp only [xC,dA,qB,a0,Q,e2,e3,e4,e5,e6,e7,xA,xB,fA,dB,rB];have ⟨H5,H6,k1,k2,k3,k4,k5⟩:=a6 (ds:=smc { f with th:=sl0 }) h0 w (Chg.refl _ _) x5 rfl (by simp only [smc,smx,smv];rfl);simp only [k1,dA,qA];rw [k2,aA,aA]
  try simp only [fA,xC]
  rw [k3]
  try simp only [fA,dB,rB,xA,xC]
  have L:∀ {B:Heap},Chg [u.next] H2 B->Dt B (fun A=>A<h.next) qY (smc (iS f { { f with th:=sl0 } with k:=0,at_:=0 })):=by
   intro B p;rw [F (by rw [J])];have y:=tJ (r:={ { f with th:=sl0 } with k:=0,at_:=0 }) (C p x1) (C p x2) (C p x3) (C p x4) (Sl.nil _ _ _) (X p x6);have y':Dt _ (fun A=>A<h.next) (smT 0 0 f.m f.nm ty0D f.has pl0 va00 op0 [] []) (smc { { f with th:=sl0 } with k:=0,at_:=0 }):=y;have e:smT 0 0 f.m f.nm ty0D f.has pl0 va00 op0 [] []=qY:=by rw [q2,q3,J];rfl
   grind
  have ⟨F3,F4,F5,R,Y,U,Z,f4,f5,S,f7⟩:=fin k4 k5 L;rw [Y,U,Z,kL,f4,kL,f5,aA,S,aA];exact ⟨R,rfl,f7⟩
 | break_=>
  have Q:pA 8 1=false:=rfl;have e2:pA 8 2=false:=rfl;have e3:pA 8 3=false:=rfl;have e4:pA 8 4=false:=rfl;have e5:pA 8 5=false:=rfl;have e6:pA 8 6=false:=rfl;have e7:pA 8 7=false:=rfl;have a4:pA 8 10=false:=rfl;have a7:pA 8 11=false:=rfl;have e8:pA 8 8=true:=rfl;simp only [xC,dA,qB,a0,Q,e2,e3,e4,e5,e6,e7,a4,a7,e8,xA,xB,fA,dB,rB];have L:∀ {B:Heap},Chg [u.next] H2 B->Dt B (fun A=>A<h.next) qY (smc (iS f { f with k:=0,at_:=0 })):=by
   intro B p;rw [F (by rw [J])];have y:=tJ (r:={ f with k:=0,at_:=0 }) (C p x1) (C p x2) (C p x3) (C p x4) (X p x5) (X p x6);have y':Dt _ (fun A=>A<h.next) (smT 0 0 f.m f.nm ty0D f.has pl0 va00 op0 [] []) (smc { f with k:=0,at_:=0 }):=y;have e:smT 0 0 f.m f.nm ty0D f.has pl0 va00 op0 [] []=qY:=by rw [q2,q3,J];rfl
   grind
  have ⟨F3,F4,F5,R,Y,U,Z,f4,f5,S,f7⟩:=fin w (Chg.refl _ _) L;rw [Y,U,Z,kL,f4,kL,f5,aA,S,aA];exact ⟨R,rfl,f7⟩
 | cont=>
  have Q:pA 9 1=false:=rfl;have e2:pA 9 2=false:=rfl;have e3:pA 9 3=false:=rfl;have e4:pA 9 4=false:=rfl;have e5:pA 9 5=false:=rfl;have e6:pA 9 6=false:=rfl;have e7:pA 9 7=false:=rfl;have a4:pA 9 10=false:=rfl;have a7:pA 9 11=false:=rfl;have e8:pA 9 8=false:=rfl;have e9:pA 9 9=true:=rfl;simp only [xC,dA,qB,a0,Q,e2,e3,e4,e5,e6,e7,a4,a7,e8,e9,xA,xB,fA,dB,rB];have L:∀ {B:Heap},Chg [u.next] H2 B->Dt B (fun A=>A<h.next) qY (smc (iS f { f with k:=0,at_:=0 })):=by
   intro B p;rw [F (by rw [J])];have y:=tJ (r:={ f with k:=0,at_:=0 }) (C p x1) (C p x2) (C p x3) (C p x4) (X p x5) (X p x6);have y':Dt _ (fun A=>A<h.next) (smT 0 0 f.m f.nm ty0D f.has pl0 va00 op0 [] []) (smc { f with k:=0,at_:=0 }):=y;have e:smT 0 0 f.m f.nm ty0D f.has pl0 va00 op0 [] []=qY:=by rw [q2,q3,J];rfl
   grind
  have ⟨F3,F4,F5,R,Y,U,Z,f4,f5,S,f7⟩:=fin w (Chg.refl _ _) L;rw [Y,U,Z,kL,f4,kL,f5,aA,S,aA];exact ⟨R,rfl,f7⟩
 | ret hv=>
  have Q:pA 10 1=false:=rfl;have e2:pA 10 2=false:=rfl;have e3:pA 10 3=false:=rfl;have e4:pA 10 4=false:=rfl;have e5:pA 10 5=false:=rfl;have e6:pA 10 6=false:=rfl;have e7:pA 10 7=false:=rfl;have a4:pA 10 10=true:=rfl;simp only [xC,dA,qB,a0,Q,e2,e3,e4,e5,e6,e7,a4,xA,xB,fA,dB,rB];have b9:Chg [u.next] H2 H2:=Chg.refl _ _;rw [aX b9,kL];have ⟨I,e4,c4⟩:=uB1 hN f (by rw [J];exact hv) pk x3;have a2:f197 N (tS (smv f)) H2=some (true,I):=e4;rw [a2,aA]
  try simp only [fA,dB,rB,xA,xC]
  have L:∀ {B:Heap},Chg [u.next] H2 B->Dt B (fun A=>A<h.next) qY (smc (iS f { f with k:=0,at_:=0 })):=by
   intro B p;have b3:pA f.k 1=false:=by rw [q0];rfl
   have b6:pA f.k 10=true:=by rw [q0];rfl
   rcases hv with ⟨h1,_⟩ | ⟨h1,h2⟩
   ·have ez:∀ z:SmR,iS f z = { z with has:=false,va:=va0 }:=fun z=>by unfold iS;rw [J,h1,b3,b6];rfl
    rw [ez];have y:=tJ (r:={ f with k:=0,at_:=0,has:=false,va:=va0 }) (C p x1) (C p x2) (jA5 _ _) (C p x4) (X p x5) (X p x6);have y':Dt _ (fun A=>A<h.next) (smT 0 0 f.m f.nm ty0D false pl0 va00 op0 [] []) (smc { f with k:=0,at_:=0,has:=false,va:=va0 }):=y;have e:smT 0 0 f.m f.nm ty0D false pl0 va00 op0 [] []=qY:=by rw [q2,q3];rfl
    rw [e] at y';exact y'
   ·rw [F (by rw [J,h1])]
    have y:=tJ (r:={ f with k:=0,at_:=0 }) (C p x1) (C p x2) (C p x3) (C p x4) (X p x5) (X p x6);rw [h2] at y;have y':Dt _ (fun A=>A<h.next) (smT 0 0 f.m f.nm ty0D f.has pl0 va00 op0 [] []) (smc { f with k:=0,at_:=0 }):=y;have e:smT 0 0 f.m f.nm ty0D f.has pl0 va00 op0 [] []=qY:=by rw [q2,q3,J,h1];rfl
    rw [e] at y';exact y'
  have ⟨F3,F4,F5,R,Y,U,Z,f4,f5,S,f7⟩:=fin (w.call c4) (c4.mono (by simp)) L;rw [Y,U,Z,kL,f4,kL,f5,aA,S,aA];exact ⟨R,rfl,f7⟩
 | drop hp=>
  have Q:pA 11 1=false:=rfl;have e2:pA 11 2=false:=rfl;have e3:pA 11 3=false:=rfl;have e4:pA 11 4=false:=rfl;have e5:pA 11 5=false:=rfl;have e6:pA 11 6=false:=rfl;have e7:pA 11 7=false:=rfl;have a4:pA 11 10=false:=rfl;have a7:pA 11 11=true:=rfl;simp only [xC,dA,qB,a0,Q,e2,e3,e4,e5,e6,e7,a4,a7,xA,xB,fA,dB,rB];rw [a9,eA1];have ⟨M,g2,c3⟩:=bAe (N:=N) (by omega) hp x2;rw [g2,aA]
  try simp only [fA,xC]
  have ⟨H5,p5,w5,c5,n5⟩:=(w.call c3).set (j:=9) (vs:=yZI) (show 9+2<=32 by decide) (ds:=smc { f with pl:=lf0 }) (by simp only [smc,smx,smv];rfl);rw [p5];have d3:Chg [u.next] H2 H5:=Chg.trans (c3.mono (by simp)) c5
  try simp only [fA,dB,xA,xC]
  have L:∀ {B:Heap},Chg [u.next] H2 B->Dt B (fun A=>A<h.next) qY (smc (iS f { { f with pl:=lf0 } with k:=0,at_:=0 })):=by
   intro B p;rw [F (by rw [J])];have y:=tJ (r:={ { f with pl:=lf0 } with k:=0,at_:=0 }) (C p x1) (uI _ _) (C p x3) (C p x4) (X p x5) (X p x6);have y':Dt _ (fun A=>A<h.next) (smT 0 0 f.m f.nm ty0D f.has pl0 va00 op0 [] []) (smc { { f with pl:=lf0 } with k:=0,at_:=0 }):=y;have e:smT 0 0 f.m f.nm ty0D f.has pl0 va00 op0 [] []=qY:=by rw [q2,q3,J];rfl
   grind
  have ⟨F3,F4,F5,R,Y,U,Z,f4,f5,S,f7⟩:=fin w5 d3 L;rw [Y,U,Z,kL,f4,kL,f5,aA,S,aA];exact ⟨R,rfl,f7⟩
end
end Qp
end Go.Proofs.YtkcjphhjmlienaaGreatDoor
