import Derived.Test.YtkcjphhjmlienaaGreatDoorXQp3
import Derived.Test.YtkcjphhjmlienaaGreatDoorProg
import Derived.Test.YtkcjphhjmlienaaGreatDoorXQp2
import Derived.Lib.ItoaLen
/- Functions of the program as plain functions, and what they come to; part 4. -/
namespace Go.Proofs.YtkcjphhjmlienaaGreatDoor
set_option linter.unusedVariables false
set_option linter.unusedSimpArgs false
set_option linter.defProp false
open Go Ai Go.Proofs
namespace Qp
abbrev tF (v:FuV):FuV:=v
section
variable {N:Nat} {h:Heap} {V:Nat->Prop}
def fAe {rec125 rec174} {m:Nat} {deep:Int} {xs:List D} (Q:∀ x∈xs,gA0 m x) (R:∀ x∈xs,∀ (r:SmV) (H:Heap),PK H->Dt H V x (smx r)->∃ C,rec174 r deep H=some (true,C)/\Chg [] H C) (W:xs.length<=3000) {s:SL}:∀ (M i:Nat) (h:Heap),i<=xs.length->xs.length-i<M->PK h->Sl h V s xs->∃ h',qAd N rec125 rec174 M deep false s (xs.length:Int) (i:Int) h=some (.exit 0,(false,()),h')/\Chg [] h h':=by
 intro M
 induction M with
 | zero=>intro i h _ h;omega
 | succ M F=>
  intro i h hi U A x;rw [rAi];unfold uA6;simp only [qC]
  by_cases q:i<xs.length
  ·simp only [q,xO,xA]
   have y:=xR q;have ⟨r,g,d⟩:=(rM m).elt x q (Q _ y);rw [x.ix q 32,g,kL];have ⟨u,S,w,I⟩:=(rM m).park (z:=smx (smv (aF 0))) rfl h r;have j:∀ {β:Type} (K:Heap->Option β),vA ((h.push (.row yZA .own)).store (h.next,0) (yRA r)) K=K u:=S;rw [j,(rM m).cells I];have ⟨B,O,J⟩:=R _ y r u (A.chg w) (Dt.chg w (by simp) d);have p:rec174 (tS r) deep u=some (true,B):=O;rw [p,aA];simp only [xV,xB];rw [iB (by omega)];have f:=w.trans J;have ⟨h',e',L⟩:=F (i+1) B q (by omega) (A.chg f) (x.chg f);exact ⟨h',e',f.trans L⟩
  ·simp only [q,xQ,xB]
   exact ⟨h,rfl,Chg.refl _ _⟩
theorem qAn {k m:Nat} {d:D} (hd:mayN (k+1) d) (j:gA0 (m+1) d) {l:List D} (p:l=thD d\/l=elD d):(∀ x∈l,mayN k x)/\(∀ x∈l,gA0 m x)/\l.length<=3000:=by
 obtain ⟨A,a,B,nm,ty,C,pl,va,co,th,el,rfl,f,u,w⟩:=hd;have ⟨_,_,_,_,r,y,i1,i2⟩:=eAe j;rcases p with rfl | rfl
 ·exact ⟨f,i1,r⟩
 grind
def cBg (w:3001<=N):∀ (n M:Nat) (xs:List D) (s1:SL) (h:Heap) (V:Nat->Prop),2 * n<=M->n<=64->0<n->(∀ x∈xs,mayN n x)->(∀ x∈xs,gA0 (n+1) x)->xs.length<=3000->PK h->Sl h V s1 xs->∃ h',f125 N M s1 ((65-n:Nat):Int) h=some (true,h')/\Chg [] h h':=by
 intro n
 induction n with
 | zero=>grind
 | succ k I=>
  intro M xs s1 h V F K _ B p u y x;obtain ⟨M,rfl⟩:∃ m,M=m+2:=⟨M-2,by omega⟩;rw [oB1];unfold mB1;have z:ltInt 64 ((65-(k+1):Nat):Int)=false:=by grind [ltI,xd]
  simp only [z,xB];have ⟨h',e,c⟩:=fAe (N:=N) (rec125:=f125 N (M+1)) (rec174:=f174 N (M+1)) (deep:=((65-(k+1):Nat):Int)) (m:=k+2) p (fun x j r H f d=>by
   show ∃ J,f174 N (M+1) r _ H=_/\_;rw [pB1];refine bBg w (B x j) (p x j) f d fun l s2 H2 u h0 C sl=>?_
   grind [qAn,fB,iB]) u N 0 h (xc _) (by omega) y x
  rw [show ((0:Nat):Int)=0 from rfl] at e;have A:s1.len=xs.length:=x.len;rw [A,show Int.ofNat xs.length=(xs.length:Int) from rfl,e];exact ⟨h',rfl,c⟩
def vB1 (n:Nat) (d:D):Nat:=yH n (thD d)+yH n (elD d)
def aAr (n:Nat) (l:List D):yH (n+1) l=l.length+(l.map (vB1 n)).sum:=rfl
def wB6 {l:List D} {f:D->Nat} {i:Nat} (hi:i<l.length):((l.drop i).map f).sum=f l[i]+((l.drop (i+1)).map f).sum:=by
 rw [List.drop_eq_getElem_cons hi,List.map_cons,List.sum_cons]
def iAa {rec126} {m n:Nat} {xs:List D} (U:∀ x∈xs,gA0 (m+1) x) (hF:∀ x∈xs,∀ (l:List D) (s2:SL) (H:Heap),(l=thD x\/l=elD x)->yH n l<=2000->Sl H V s2 l->∃ S,rec126 s2 H=some (((yH n l:Nat):Int),S)/\Chg [] H S) (hl:xs.length<=3000) {s:SL}:∀ (M i v:Nat) (h:Heap),i<=xs.length->xs.length-i<M->v+((xs.drop i).map (vB1 n)).sum<=2000->Sl h V s xs->∃ h',rAd N rec126 M (v:Int) s (xs.length:Int) (i:Int) h=some (.exit 0,(((v+((xs.drop i).map (vB1 n)).sum:Nat):Int),()),h')/\Chg [] h h':=by
 intro M
 induction M with
 | zero=>intro i v h _ h;omega
 | succ M ih=>
  intro i v h hi hM W x;rw [tAi];unfold vA6;simp only [qC]
  by_cases q:i<xs.length
  ·simp only [q,xO,xA]
   have A:=xR q;have ⟨r,g,d⟩:=(rM (m+1)).elt x q (U _ A);rw [x.ix q 32,g,kL];have ⟨j,Y,Q,C⟩:=(rM (m+1)).park (z:=smx (smv (aF 0))) rfl h r;have R:∀ {β:Type} (K:Heap->Option β),vA ((h.push (.row yZA .own)).store (h.next,0) (yRA r)) K=K j:=Y;rw [R];rw [wB6 q] at W ⊢;have L:=U _ A;have f:=hF _ A;have ⟨kk,a,mu,nm,ty,hs,pl,va,co,th,el,hd,t1,t2,t3,t4,_⟩:=L;rw [hd] at d f;have w:vB1 n xs[i]=yH n th+yH n el:=by rw [hd];rfl
   rw [w] at W ⊢;have ⟨rt,rp,rv,ro,s1,s2,hc,_,_,_,_,x5,x6⟩:=fX t1 t2 t3 t4 d;have Z:=(rM (m+1)).inj (r':=smv ⟨kk,a,mu,nm,rt,hs,rp,rv,ro,s1,s2⟩) hc;subst Z;have F:j.cell (h.next,30)=some (yL s1):=C.cell 30;have O:j.cell (h.next,31)=some (yL s2):=C.cell 31;simp only [xC,F,dA,qA];have ⟨u,e6,J⟩:=f th s1 j (.inl rfl) (by omega) (x5.chg Q);have I:rec126 s1 j=some (((yH n th:Nat):Int),u):=e6;rw [I,aA];have y:u.cell (h.next,31)=some (yL s2):=(C.chg J).cell 31;simp only [y,dA,qA];have ⟨X,e7,c7⟩:=f el s2 u (.inr rfl) (by omega) (x6.chg (Q.trans J));have B:rec126 s2 u=some (((yH n el:Nat):Int),X):=e7;rw [B,aA];simp only [O,jC,xA,yB];have w1:fB .i64 (fB .i64 ((v:Int)+((yH n th:Nat):Int))+((yH n el:Nat):Int))=((v+(yH n th+yH n el):Nat):Int):=by
    grind [wG]
   rw [w1,iB (by omega)];have p:=(Q.trans J).trans c7;have ⟨h',e',c'⟩:=ih (i+1) (v+(yH n th+yH n el)) X q (by omega) (by omega) (x.chg p);exact ⟨h',by grind,p.trans c'⟩
  ·simp only [q,xQ,xB]
   have:i=xs.length:=by omega
   subst this;exact ⟨h,by simp,Chg.refl _ _⟩
def dBg (I:3001<=N):∀ (n M:Nat) (xs:List D) (s1:SL) (h:Heap) (V:Nat->Prop),n+1<=M->(∀ x∈xs,mayN n x)->(∀ x∈xs,gA0 (n+1) x)->xs.length<=3000->yH n xs<=2000->Sl h V s1 xs->∃ h',f126 N M s1 h=some (((yH n xs:Nat):Int),h')/\Chg [] h h':=by
 intro n
 induction n with
 | zero=>
  intro M xs s1 h V B A u f w x;obtain ⟨M,rfl⟩:∃ m,M=m+1:=⟨M-1,by omega⟩;have p:xs=[]:=by
   cases xs with
   | nil=>rfl
   | cons y r=>exact (A y (by simp)).elim
  subst p;rw [uAi];unfold wAq;have j:s1.len=0:=x.len;have ⟨h',e,c⟩:=iAa (N:=N) (V:=V) (rec126:=f126 N M) (m:=0) (n:=0) (xs:=[]) (by simp) (by simp) (by simp) N 0 0 h (xc _) (by simp;omega) (by simp) x;rw [j];rw [show ((0:Nat):Int)=0 from rfl,show (([]:List D).length:Int)=0 from rfl] at e;rw [show Int.ofNat 0=(0:Int) from rfl,e];exact ⟨h',rfl,c⟩
 | succ k J=>
  intro M xs s1 h V B A u f w x;obtain ⟨M,rfl⟩:∃ m,M=m+1:=⟨M-1,by omega⟩;rw [uAi];unfold wAq;have j:s1.len=xs.length:=x.len;rw [aAr] at w ⊢;have ⟨h',e,c⟩:=iAa (N:=N) (V:=V) (rec126:=f126 N M) (m:=k+1) (n:=k) u (fun x F l s2 H f C sl=>by
   grind [qAn]) f N 0 xs.length h (xc _) (by omega) (by grind) x
  rw [show ((0:Nat):Int)=0 from rfl,List.drop_zero] at e;rw [j,show Int.ofNat xs.length=(xs.length:Int) from rfl,e];exact ⟨h',rfl,c⟩
def gAe {d:D} (h:rS d):isLf d:=by
 obtain ⟨nm,xs,rfl,_,f⟩:=h;exact ⟨nm,xs,rfl,xT f.1 (by decide)⟩
def iAe (B:200<=N) {R:zH3} {xs:List D} (Q:∀ x∈xs,rS x) (W:xs.length<=100) {s:SL}:∀ (M i:Nat) (h:Heap),i<=xs.length->xs.length-i<M->Sl h V s xs->∃ h',vAi N M R false s (xs.length:Int) (i:Int) h=some (.exit 0,(R,false,()),h')/\Chg [] h h':=by
 intro M
 induction M with
 | zero=>intro i h _ h;omega
 | succ M C=>
  intro i h hi U x;rw [kAn];unfold tAd;simp only [qC]
  by_cases q:i<xs.length
  ·simp only [q,xO,xA]
   have u:=Q _ (xR q);have ⟨r,g,d⟩:=qM.elt x q (gAe u);rw [x.ix q 2,g,eA1];have ⟨f,L,p,w⟩:=qM.park (z:=lfc lf0) rfl h r;have j:∀ {β:Type} (K:Heap->Option β),vA ((h.push (.row yZI .own)).store (h.next,0) (yRH r)) K=K f:=L;rw [j];have A:=Dt.chg p (by simp) d;have ⟨nm,ys,hd,I,S⟩:=u;rw [hd] at A;have ⟨s2,O,y⟩:=pM A;obtain rfl:=qM.inj O;have H:f.cell (h.next,0)=some (.str nm):=w.cell 0;have J:f.cell (h.next,1)=some (yL s2):=w.cell 1;simp only [xC,H,dA,yA];rw [qB1 (by omega) I,aA];simp only [xV,xB,J,dA,qA];rw [yAd B y S,aA];simp only [xV,xB];rw [iB (by omega)];have ⟨h',e',F⟩:=C (i+1) f q (by omega) (x.chg p);exact ⟨h',e',p.trans F⟩
  ·simp only [q,xQ,xB]
   exact ⟨h,rfl,Chg.refl _ _⟩
def bAr {g:Nat} {d:D} {r:TyV} (y:lL g d) (x:Dt h V d (tyc r)):pA r.1 0=false:=by
 obtain ⟨p,rfl,y⟩:=y
 cases p with
 | int=>
  have ⟨u,j,f,_⟩:=yJ.1 (show Dt h V (tyD 1 [] [] []) _ from x);rw [(wQ 1).inj f];rfl
 | bool=>
  have ⟨u,j,f,_⟩:=yJ.1 (show Dt h V (tyD 2 [] [] []) _ from x);rw [(wQ 1).inj f];rfl
 | st nm lv=>
  have ⟨u,j,f,_⟩:=yJ.1 (show Dt h V (tyD 3 nm lv []) _ from x);rw [(wQ 1).inj f];rfl
 | ref w lv t=>
  have ⟨u,j,f,_⟩:=yJ.1 (show Dt h V (tyD (if w=true then 5 else 4) [] lv [t.D]) _ from x);rw [(wQ 1).inj f];cases w <;> rfl
def uBo (hN:3001<=N) {d:D} (hd:pY d) (ti:isFu d) {r:FuV} (L:PK h) (x:Dt h V d (fux r)):∃ h',f80 N r h=some (true,h')/\Chg [] h h':=by
 obtain ⟨pub,nm,lv,ps,ty,bd,a,rfl,hn,C,b8,a7,Y,a0⟩:=hd;have tt:isTy 65 ty/\bd.length<=3000/\∀ s∈bd,gA0 65 s:=by
  have ⟨c6,c7,d4,d3,c9,d0,a',e,_,_,_,_,h1,h2,h3⟩:=ti;simp only [fuT,D.t.injEq,List.cons.injEq,D.i.injEq,D.b.injEq,D.s.injEq,D.l.injEq,and_true] at e
  grind
 have ⟨t1,t2,t3⟩:=tt;have ⟨s1,s2,I,rt,hc,y1,y2,O,y3⟩:=eAa t1 x;obtain ⟨u,X⟩:∃ u:FuR,u=⟨pub,nm,s1,s2,rt,I,(a:Int)⟩:=⟨_,rfl⟩;rw [<- X] at hc;have hr:r=fuv u:=oU.inj hc;subst hr;unfold f80;have o:=wA h (fuc u);have c:=uA h (.row (fuc u) .own);have e1:h.push (.row (yRC (fuv u)) .own)=h.push (.row (fuc u) .own):=rfl;dsimp only;rw [e1];have L:=L.chg c;have y1:=y1.chg c;have y2:=y2.chg c;have O:=Dt.chg c (by simp) O;have y3:=y3.chg c;generalize h.push (.row (fuc u) .own)=H at *;have S:∀ {y:Heap},Chg [] H y->y.cell (h.next,1)=some (.str nm)/\y.cell (h.next,2)=some (yL s1)/\y.cell (h.next,3)=some (yL s2)/\y.cell (h.next,4)=some (yI0 rt.1)/\y.cells (h.next,4) 4=some (.agg (tyc rt))/\y.cell (h.next,8)=some (yL I):=fun c'=>by
  have A:=o.chg c';rw [X] at A;exact ⟨A.cell 1,A.cell 2,A.cell 3,A.cell 4,A.cells (j:=4) (m:=4) (show 4+4<=10 by decide),A.cell 8⟩
 have ⟨_,a2,_,_,_,_⟩:=S (Chg.refl _ _);simp only [xC,a2,dA,qA];have l1:s1.len=lv.length:=y1.len;have c8:=C.1;have ⟨w,e,c1⟩:=iAe (N:=N) (by omega) (R:=some (h.next,0)) C.2 (by omega) N 0 H (xc _) (by omega) y1;rw [show ((0:Nat):Int)=0 from rfl,show (lv.length:Int)=Int.ofNat s1.len by rw [l1];rfl] at e;have e':vAi N N (some (h.next,0)) false s1 (Int.ofNat s1.len) 0 H=some (.exit 0,(some (h.next,0),false,()),w):=e;rw [e'];have ⟨a1,a2,a3,a4,b7,U⟩:=S c1;simp only [mB,vF,xO,xA,fA,xC,a4,dA,qB];have W:∃ H2,(bif pA rt.1 0 then (iA (.val zD) (w.cells (h.next,4) 4) fun b0=>jA (f123 N b0 w) fun b4 B=>bif b4 then some (((some (h.next,0),true,()):zH3×Bool×Unit),B) else (iA (.val zD) (B.cells (h.next,4) 4) fun b2=>jA (f124 N N b2 1 B) fun c0 b6=>some ((some (h.next,0),c0,()),b6))) else (iA (.val zD) (w.cells (h.next,4) 4) fun b3=>jA (f124 N N b3 1 w) fun a9 b5=>some ((some (h.next,0),a9,()),b5)))=some ((some (h.next,0),true,()),H2)/\Chg [] w H2:=by
  rw [b7];rcases a7 with h0 | M
  ·subst h0
   have ⟨K,J,hc,z1,z2⟩:=yJ.1 (show Dt H V (tyD 0 [] [] []) _ from O);have er:=(wQ 1).inj hc;rw [er,vZ];have e0:pA ((0,[],K,J,()):TyV).1 0=true:=rfl;have ⟨H2,Q,Z⟩:=nAn (N:=N) (h:=w) (k:=0) (s1:=K) (s2:=J) z1.len z2.len;have b1:f123 N (((0,[],K,J,()):TyV).1,((0,[],K,J,()):TyV).2.1,((0,[],K,J,()):TyV).2.2.1,((0,[],K,J,()):TyV).2.2.2.1,()) w=some (true,H2):=Q;rw [e0,xA,b1,aA];exact ⟨H2,rfl,Z⟩
  ·rw [bAr M O,xB,vZ]
   have ⟨H2,Q,Z⟩:=aAe (N:=N) (by omega) M (L.chg c1) (Dt.chg c1 (by simp) O);rw [Q,aA];exact ⟨H2,rfl,Z⟩
 have ⟨H2,Q,Z⟩:=W;rw [Q,aA];have p:=c1.trans Z;have ⟨a1,a2,a3,_,_,U⟩:=S p;simp only [fA,xC,a1,dA,yA];rw [dL (by omega),aA,hn];simp only [xA,a2,dA,qA,l1,rBo C.1,a3];have ⟨H3,e3,c3⟩:=tB1 (N:=N) (by omega) b8 (L.chg p) (y2.chg p);have a6:f121 N s2 true H2=some (true,H3):=e3;rw [a6,aA];have f:=p.trans c3;have ⟨_,_,_,_,_,U⟩:=S f;simp only [xA,U,dA,qA];have ⟨H4,e4,c4⟩:=cBg hN 64 N bd I H3 V (by omega) (xD _) (by decide) Y t3 t2 (L.chg f) (y3.chg f);have b9:f125 N N I 1 H3=some (true,H4):=e4;rw [b9,aA];have F:=f.trans c4;have ⟨_,_,_,_,_,U⟩:=S F;simp only [xA,U,dA,qA];have ⟨H5,e5,c5⟩:=dBg hN 64 N bd I H4 V (by omega) Y t3 t2 a0 (y3.chg F);have a5:f126 N N I H4=some (((yH 64 bd:Nat):Int),H5):=e5;rw [a5,aA];have l2:cD ((yH 64 bd:Nat):Int) 2000=true:=by rw [leI,xU];omega
 rw [l2];exact ⟨H5,rfl,(c.trans F).trans c5⟩
def yA6 (S:3001<=N) {R:zH3} {xs:List D} (Q:∀ x∈xs,jA1 x) (C:∀ x∈xs,isSt x) (W:xs.length<=300) {s:SL}:∀ (M i:Nat) (h:Heap),i<=xs.length->xs.length-i<M->PK h->Sl h V s xs->∃ h',yAi N M R false s (xs.length:Int) (i:Int) h=some (.exit 0,(R,false,()),h')/\Chg [] h h':=by
 intro M
 induction M with
 | zero=>intro i h _ h;omega
 | succ M F=>
  intro i h hi U y x;rw [mAn];unfold vAd;simp only [qC]
  by_cases q:i<xs.length
  ·simp only [q,xO,xA]
   have w:=xR q;have ⟨r,g,d⟩:=pS.elt x q (C _ w);rw [x.ix q 5,g,bBm];have ⟨B,O,u,H⟩:=pS.park (z:=stc st0) rfl h r;have j:∀ {β:Type} (K:Heap->Option β),vA ((h.push (.row yZF .own)).store (h.next,0) (yRG r)) K=K B:=O;rw [j,pS.cells H];have ⟨A,L,I⟩:=tBo (N:=N) (by omega) (Q _ w) (y.chg u) (Dt.chg u (by simp) d);have p:f79 N r B=some (true,A):=L;rw [p,aA];simp only [xV,xB];rw [iB (by omega)];have f:=u.trans I;have ⟨h',e',J⟩:=F (i+1) A q (by omega) (y.chg f) (x.chg f);exact ⟨h',e',f.trans J⟩
  ·simp only [q,xQ,xB]
   exact ⟨h,rfl,Chg.refl _ _⟩
def jAe (F:3001<=N) {xs:List D} (R:∀ x∈xs,pY x) (y:∀ x∈xs,isFu x) (U:xs.length<=300) {s:SL}:∀ (M i:Nat) (h:Heap),i<=xs.length->xs.length-i<M->PK h->Sl h V s xs->∃ h',wAi N M false s (xs.length:Int) (i:Int) h=some (.exit 2,(false,()),h')/\Chg [] h h':=by
 intro M
 induction M with
 | zero=>intro i h _ h;omega
 | succ M H=>
  intro i h hi S A x;rw [lAn];unfold uAd;simp only [qC]
  by_cases q:i<xs.length
  ·simp only [q,xO,xA]
   have p:=xR q;have ⟨r,g,d⟩:=oU.elt x q (y _ p);rw [x.ix q 10,g,gBm];have ⟨C,Q,w,I⟩:=oU.park (z:=fux (fuv (vI false [] 0))) rfl h r;have j:∀ {β:Type} (K:Heap->Option β),vA ((h.push (.row yZC .own)).store (h.next,0) (yRC r)) K=K C:=Q;rw [j,oU.cells I];have ⟨B,O,J⟩:=uBo F (R _ p) (y _ p) (A.chg w) (Dt.chg w (by simp) d);have u:f80 N (tF r) C=some (true,B):=O;rw [u,aA];simp only [xV,xB];rw [iB (by omega)];have f:=w.trans J;have ⟨h',e',L⟩:=H (i+1) B q (by omega) (A.chg f) (x.chg f);exact ⟨h',e',f.trans L⟩
  ·simp only [q,xQ,xB]
   exact ⟨h,rfl,Chg.refl _ _⟩
def vBo (w:3001<=N) {xs ys:List D} (L:∀ x∈xs,jA1 x) (O:∀ y∈ys,pY y) (M:∀ x∈xs,isSt x) (ty:∀ y∈ys,isFu y) (S:xs.length+ys.length<=256) (j:PK h) {s1 s2:SL} (r:Sl h V s1 xs) (p:Sl h V s2 ys):∃ h',f33 N (s1,s2,()) h=some (true,h')/\Chg [] h h':=by
 unfold f33;have o:=wA h [SL.av s1,SL.av s2];have c:=uA h (.row [SL.av s1,SL.av s2] .own);have B:h.push (.row [(yL s1),(yL s2)] .own)=h.push (.row [SL.av s1,SL.av s2] .own):=rfl;dsimp only;rw [B];have j:=j.chg c;have r:=r.chg c;have p:=p.chg c;generalize h.push (.row [SL.av s1,SL.av s2] .own)=H at *;have F:H.cell (h.next,0)=some (yL s1):=o.cell 0;have K:H.cell (h.next,1)=some (yL s2):=o.cell 1;have J:s1.len=xs.length:=r.len;have C:s2.len=ys.length:=p.len;have z:ltInt 256 (fB .i64 (Int.ofNat s1.len+Int.ofNat s2.len))=false:=by
  grind [ltInt,fB,wG,ltI,xd]
 simp only [xC,F,K,dA,qA,z,xB];have ⟨f,e,c1⟩:=yA6 w (R:=some (h.next,0)) L M (by omega) N 0 H (xc _) (by omega) j r;rw [show ((0:Nat):Int)=0 from rfl,show (xs.length:Int)=Int.ofNat s1.len by rw [J];rfl] at e;have e':yAi N N (some (h.next,0)) false s1 (Int.ofNat s1.len) 0 H=some (.exit 0,(some (h.next,0),false,()),f):=e;rw [e'];have I:f.cell (h.next,1)=some (yL s2):=(o.chg c1).cell 1;simp only [mB,vF,xO,xA,fA,xC,I,dA,qA];have ⟨H2,A,Q⟩:=jAe w O ty (by omega) N 0 f (xc _) (by omega) (j.chg c1) (p.chg c1);rw [show ((0:Nat):Int)=0 from rfl,show (ys.length:Int)=Int.ofNat s2.len by rw [C];rfl] at A;have u:wAi N N false s2 (Int.ofNat s2.len) 0 f=some (.exit 2,(false,()),H2):=A;rw [u];simp only [mB,vF,xO,xA];exact ⟨H2,rfl,(c.trans c1).trans Q⟩
end
end Qp
set_option maxRecDepth 100000
namespace Qp
noncomputable section
noncomputable def f50 (N:Nat) (j:SL) (f:zO3) (h:Heap):yO0 zO3:=Qb.joinF j f h
def f50_ok (N:Nat):pC Tryz.prog 50 [zJ3,zK3] (.val zK3) (fun x h=>f50 N x.1 x.2.1 h):=Qb.f50_ok N
def f41 (N:Nat) (f:SL) (h:Heap):yO0 zO3:=let p:=pA (Int.ofNat f.len) 0;(bif p then some ([],h)else(jA (f50 N f [44,32,39] h) fun w r=>(iA (.val zK3) (fC .add [60,39] w) fun u=>(iA (.val zK3) (fC .add u [62]) fun j=>some (j,r)))))
def uBt:Ann:=.n
def kB9 (N:Nat):pC Tryz.prog 41 [zJ3] (.val zK3) (fun x h=>f41 N x.1 h):=kD (bA (f50_ok N) kA) N uBt Tryz.f41
def eBg (N:Nat) (y:zX->Heap->yO0 zO3) (a0:zX) (h:Heap):yO0 zO3:=let p:=h.push (.row (yRE a0) .own);(iA (.val zM3) (p.cell (h.next,0)) fun A=>let x3:=pA A 1;(bif x3 then some ([105,110,116],p)else let x4:=pA A 2;(bif x4 then some ([98,111,111,108],p)else let x5:=pA A 3;(bif x5 then(iA (.val zK3) (p.cell (h.next,1)) fun x6=>(iA (.val zJ3) (p.cell (h.next,2)) fun x7=>(jA (f41 N x7 p) fun x8 h9=>(iA (.val zK3) (fC .add x6 x8) fun R=>(pD (bif (jB (p.cell (h.next,2)) (yL x7)) then (bif (jB (h9.cell (h.next,1)) (.str x6)) then (bif (jB (p.cell (h.next,1)) (.str x6)) then true else false) else false) else false) ( some (R,h9)))))))else(jA (α:=zC2) ( let C:=pA A 4;(bif C then some (((some (h.next,0)),[38],C,()),p)else let O:=pA A 5;some (((some (h.next,0)),[38],O,()),p))) fun (j:zC2) f=>(bif j.2.2.1 then(vA j.1 fun H=>(iA (.val zJ3) (f.cell (H.1,H.2+3)) fun a4=>let a9:=pA (Int.ofNat a4.len) 0;(bif a9 then some ([],f)else(jA (α:=zP1) ((vA j.1 fun M=>(iA (.val zJ3) (f.cell (M.1,M.2+2)) fun a5=>let U:=ltInt 0 (Int.ofNat a5.len);(bif U then(iA (.val zK3) (fC .add j.2.1 [39]) fun a3=>(vA j.1 fun B=>(iA (.val zJ3) (f.cell (B.1,B.2+2)) fun J=>
 (ixK J.a J.len 0 1 fun S=>(iA (.val zK3) (f.cell S) fun Y=>(iA (.val zK3) (fC .add a3 Y) fun a8=>(iA (.val zK3) (fC .add a8 [32]) fun a7=>some ((j.1,a7,()),f))))))))else some ((j.1,j.2.1,()),f))))) fun (r:zP1) u=>(jA (α:=zP1) ((vA r.1 fun I=>(iA (.val zM3) (u.cell (I.1,I.2+0)) fun X=>let V:=pA X 5;(bif V then(iA (.val zK3) (fC .add r.2.1 [109,117,116,32]) fun a6=>some ((r.1,a6,()),u))else some (r,u))))) fun (L:zP1) w=>(vA L.1 fun K=>(iA (.val zJ3) (w.cell (K.1,K.2+3)) fun F=>(ixK F.a F.len 0 4 fun W=>(iA (.val zD) (w.cells W 4) fun Q=>(jA (y Q w) fun a1 Z=>(iA (.val zK3) (fC .add L.2.1 a1) fun a2=>some (a2,Z))))))))))))else some ([],f)))))))
def vBt:Ann:=(.two .n (.two .n (.two (.two .n (.two (.two .n (.two .n (.two .n (.two .n (.two .n (.two .n (.two (.join [(1,zI3),(3,zK3),(18,zL3)] .n) .n))))))) .n)) (.two (.join [(1,zI3),(3,zK3)] .n) (.two (.join [(1,zI3),(3,zK3)] .n) .n)))))
def wBo (N M:Nat):((zX->Heap->yO0 zO3)×Unit):=Nat.rec (fun _ _=>none,()) (fun _ r=>(eBg N r.1,())) M
def f36 (N M:Nat):zX->Heap->yO0 zO3:=(wBo N M).1
def yB6 (N M a0 h):f36 N (M+1) a0 h=eBg N (f36 N M) a0 h:=rfl
def jAa (N:Nat):∀ M:Nat,(pC Tryz.prog 36 [zD] (.val zK3) (fun x h=>f36 N M x.1 h))/\True
 | 0=>⟨(fun xs h r h' f=>by cases f),trivial⟩
 | M+1=>⟨kD (bA (kB9 N) (bA (jAa N M).1 kA)) N vBt Tryz.f36,trivial⟩
def cAr (N:Nat):pC Tryz.prog 36 [zD] (.val zK3) (fun x h=>f36 N N x.1 h):=(jAa N N).1
def qA2 (N:Nat) (Q:SL->SL->Int->Int->Heap->Option (Out×zJ2×Heap)) (v3 r:SL) (y u:Int) (h:Heap):Option (Out×zJ2×Heap):=let V:=ltInt u y;(bif V then(ixK r.a r.len u 6 fun U=>(iA (.val zP) (h.cells U 6) fun W=>let X:=h.push (.row yZD .own);(vA (X.store (h.next,0) (yRF W)) fun p=>(iA (.val zK3) (p.cell (h.next,1)) fun C=>(iA (.val zK3) (fC .add C [58,32]) fun R=>(iA (.val zD) (p.cells (h.next,2) 4) fun O=>(jA (f36 N N O p) fun S f=>(iA (.val zK3) (fC .add R S) fun j=>(pD (bif (jB (p.cells (h.next,2) 4) (.agg (yRE O))) then (bif (jB (f.cell (h.next,1)) (.str C)) then (bif (jB (p.cell (h.next,1)) (.str C)) then true else false) else false) else false) ((iA (.val zL3) (f.cell (h.next,0)) fun w=>(bif w then(iA (.val zK3) (fC .add [109,117,116,32] j) fun L=>let B:=f.push (.row [(.str L)] .own);(tD (.val zJ3) (nB E 38 38 (yL v3) (.slice (some (f.next,0)) 1 1 1) B) fun K A=>let M:=fB .i64 (u+1);Q K r y M A))else let H:=f.push (.row [(.str j)] .own);(tD (.val zJ3) (nB E 38 38 (yL v3) (.slice (some (f.next,0)) 1 1 1) H) fun J F=>let I:=fB .i64 (u+1);Q J r y I F)))))))))))))
 else some ((Out.exit 0),(v3,()),h))
def mA0 (N M:Nat) (v3 j:SL) (f p:Int) (h:Heap):Option (Out×zJ2×Heap):=iter (fun r s h=>qA2 N (fun v3 j f p h=>r (v3,j,f,p,()) h) s.1 s.2.1 s.2.2.1 s.2.2.2.1 h) M (v3,j,f,p,()) h
def aA7 (N M v3 v7 v8 v9 h):mA0 N (M+1) v3 v7 v8 v9 h=qA2 N (mA0 N M) v3 v7 v8 v9 h:=rfl
def f38 (N:Nat) (u:SL) (h:Heap):yO0 zO3:=(rD (mA0 N N ⟨none,0,0,0⟩ u (Int.ofNat u.len) 0 h) fun _ (j:zJ2) f=>(jA (f50 N j.1 [44,32] f) fun p r=>some (p,r)))
def wBt:Ann:=(.two .n (.two .n (.two (.two .n (.two (.loop [(3,zJ3),(7,zJ3),(8,zM3),(9,zM3)] [(.exit 0)] [(3,zJ3)] .n) .n)) .n)))
def lB9 (N:Nat):pC Tryz.prog 38 [zJ3] (.val zK3) (fun x h=>f38 N x.1 h):=kD (bA (f50_ok N) (bA (cAr N) kA)) N wBt Tryz.f38
noncomputable def f40 (N:Nat) (f:Bool) (h:Heap):yO0 zO3:=(bif f then some ([112,117,98,32],h)else some ([],h))
def yBt:Ann:=.n
def mB9 (N:Nat):pC Tryz.prog 40 [zL3] (.val zK3) (fun x h=>f40 N x.1 h):=kD kA N yBt Tryz.f40
noncomputable def f43 (N:Nat) (j:zH3) (h:Heap):yO0 Int:=(vA j fun f=>(iA (.val zJ3) (h.cell (f.1,f.2+1)) fun p=>some ((Int.ofNat p.len),h)))
def aBu:Ann:=.n
def wB1 (N:Nat):pC Tryz.prog 43 [zI3] (.val zM3) (fun x h=>f43 N x.1 h):=kD kA N aBu Tryz.f43
noncomputable def f175 (N:Nat) (f:AV) (h:Heap):yO0 AV:=Qb.escF f h
def f175_ok (N:Nat):fAx Tryz.prog 175 [zN3] (.val zN3) (fun x h=>f175 N x.1 h):=Qb.f175_ok N
def f127 (N:Nat) (f:zH3) (h:Heap):yO0 (Unit):=(vA f fun w=>(iA (.val zI3) (h.cell (w.1,w.2+0)) fun I=>(bif I.isNone then(tD (.val zN3) (lX E 80 189 (.ptr f) h) fun H J=>(jA (f175 N H J) fun A B=>(tD (.val zI3) (lX E 189 80 A B) fun C F=>(vA f fun y=>(vA (F.store (y.1,y.2+0) [(.ptr C)]) fun u=>some ((()),u))))))else(vA f fun j=>(iA (.val zI3) (h.cell (j.1,j.2+0)) fun p=>(iA (.val zL3) (tM E .neq 80 (.tmp 17) (.tmp 18) (.ptr p) (.ptr f)) fun r=>(bif r then none else some ((()),h))))))))
def yBo:Ann:=.n
def fBg (N:Nat):pC Tryz.prog 127 [zI3] (.tup []) (fun x h=>f127 N x.1 h):=kD (kA4 (f175_ok N) kA) N yBo Tryz.f127
def f81 (N:Nat) (f:zH3) (j:zO3) (h:Heap):yO0 zU1:=(jA (f127 N f h) fun C p=>(vA f fun u=>(iA (.val zJ3) (p.cell (u.1,u.2+1)) fun B=>(tD (.val zJ3) (nB E 81 9 (yL B) (.str j) p) fun w y=>(vA f fun r=>(vA (y.store (r.1,r.2+1) [(yL w)]) fun A=>some (((Int.ofNat j.length),AV.nilIface,()),A)))))))
def bBu:Ann:=.n
def aBp (N:Nat):pC Tryz.prog 81 [zI3,zK3] (.tup [zM3,zN3]) (fun x h=>f81 N x.1 x.2.1 h):=kD (bA (fBg N) kA) N bBu Tryz.f81
def kAe (N:Nat) (F:zH3->SL->Int->Int->Heap->Option (Out×(Unit)×Heap)) (p:zH3) (j:SL) (w f:Int) (h:Heap):Option (Out×(Unit)×Heap):=let J:=ltInt f w;(bif J then(ixK j.a j.len f 1 fun I=>(iA (.val zK3) (h.cell I) fun L=>(vA p fun B=>(jA (f43 N (some (B.1,B.2+0)) h) fun K A=>let H:Bool:=cD K 1048576;(bif H then(vA p fun C=>(jA (f81 N (some (C.1,C.2+0)) L A) fun M u=>let y:=fB .i64 (f+1);F p j w y u))else let r:=fB .i64 (f+1);F p j w r A)))))else some ((Out.exit 0),(()),h))
def cAj (N M:Nat) (p:zH3) (r:SL) (j f:Int) (h:Heap):Option (Out×(Unit)×Heap):=iter (fun u s h=>kAe N (fun p r j f h=>u (p,r,j,f,()) h) s.1 s.2.1 s.2.2.1 s.2.2.2.1 h) M (p,r,j,f,()) h
def rAn (N M v0 v6 v7 v8 h):cAj N (M+1) v0 v6 v7 v8 h=kAe N (cAj N M) v0 v6 v7 v8 h:=rfl
def f39 (N:Nat) (r:zH3) (j:SL) (h:Heap):yO0 (Unit):=(rD (cAj N N r j (Int.ofNat j.len) 0 h) fun _ (p:(Unit)) f=>some ((()),f))
def cBu:Ann:=(.two .n (.two (.loop [(0,zI3),(6,zJ3),(7,zM3),(8,zM3)] [(.exit 0)] [] .n) .n))
def dAj (N:Nat):pC Tryz.prog 39 [zI3,zJ3] (.tup []) (fun x h=>f39 N x.1 x.2.1 h):=kD (bA (aBp N) (bA (wB1 N) kA)) N cBu Tryz.f39
def rA2 (N:Nat) (U:zH3->SL->SL->Int->Int->Heap->Option (Out×zX1×Heap)) (M:zH3) (v3 u:SL) (j f:Int) (h:Heap):Option (Out×zX1×Heap):=let Z:=ltInt f j;(bif Z then(ixK u.a u.len f 2 fun X=>(iA (.val zM) (h.cells X 2) fun Y=>let V:=h.push (.row yZI .own);(vA (V.store (h.next,0) (yRH Y)) fun p=>(iA (.val zK3) (p.cell (h.next,0)) fun W=>(iA (.val zK3) (fC .add [39] W) fun S=>(iA (.val zJ3) (p.cell (h.next,1)) fun y=>let F:=ltInt 0 (Int.ofNat y.len);(bif F then(iA (.val zK3) (fC .add S [58,32,39]) fun w=>(iA (.val zJ3) (p.cell (h.next,1)) fun O=>(jA (f50 N O [32,43,32,39] p) fun C r=>(iA (.val zK3) (fC .add w C) fun J=>let K:=r.push (.row [(.str J)] .own);(tD (.val zJ3) (nB E 38 38 (yL v3) (.slice (some (r.next,0)) 1 1 1) K) fun A H=>let B:=fB .i64 (f+1);U M A u j B H)))))else let I:=p.push (.row [(.str S)] .own);(tD (.val zJ3) (nB E 38 38 (yL v3) (.slice (some (p.next,0)) 1 1 1) I) fun R L=>let Q:=fB .i64 (f+1);U M R u j Q L))))))))else some ((Out.exit 0),(M,v3,()),h))
def nA0 (N M:Nat) (p:zH3) (v3 r:SL) (j f:Int) (h:Heap):Option (Out×zX1×Heap):=iter (fun u s h=>rA2 N (fun p v3 r j f h=>u (p,v3,r,j,f,()) h) s.1 s.2.1 s.2.2.1 s.2.2.2.1 s.2.2.2.2.1 h) M (p,v3,r,j,f,()) h
def bA7 (N M v1 v3 v9 v10 v11 h):nA0 N (M+1) v1 v3 v9 v10 v11 h=rA2 N (nA0 N M) v1 v3 v9 v10 v11 h:=rfl
def f20 (N:Nat) (a0:zA1) (h:Heap):yO0 zO3:=let h1:=h.push (.row (yRC a0) .own);(iA (.val zJ3) (h1.cell (h.next,2)) fun x2=>(rD (nA0 N N (some (h.next,0)) ⟨none,0,0,0⟩ x2 (Int.ofNat x2.len) 0 h1) fun _ (f:zX1) u=>(vA f.1 fun w=>(iA (.val zL3) (u.cell (w.1,w.2+0)) fun J=>(jA (f40 N J u) fun b1 p=>(iA (.val zK3) (fC .add b1 [102,110,32]) fun Z=>(vA f.1 fun j=>(iA (.val zK3) (p.cell (j.1,j.2+1)) fun C=>(iA (.val zK3) (fC .add Z C) fun I=>(pD (bif (jB (p.cell (j.1,j.2+1)) (.str C)) then (bif (jB (u.cell (j.1,j.2+1)) (.str C)) then (bif (jB (u.cell (w.1,w.2+0)) (.bool J)) then true else false) else false) else false) ( let a2:=ltInt 0 (Int.ofNat f.2.1.len);(bif a2 then(iA (.val zK3) (fC .add I [60]) fun a8=>(jA (f50 N f.2.1 [44,32] p) fun W K=>(iA (.val zK3) (fC .add a8 W) fun b2=>(iA (.val zK3) (fC .add b2 [62]) fun X=>(iA (.val zK3) (fC .add X [40]) fun b3=>(vA f.1 fun O=>(iA (.val zJ3) (K.cell (O.1,O.2+3)) fun a1=>(jA (f38 N a1 K) fun S A=>(iA (.val zK3) (fC .add b3 S) fun c0=>(iA (.val zK3) (fC .add c0 [41]) fun F=>(vA f.1 fun B=>(iA (.val zM3) (A.cell ((B.1,B.2+4).1,(B.1,B.2+4).2+0)) fun a3=>let b4:=!pA a3 0;(bif b4 then
 (iA (.val zK3) (fC .add F [32,45,62,32]) fun a7=>(vA f.1 fun Q=>(iA (.val zD) (A.cells (Q.1,Q.2+4) 4) fun b0=>(jA (f36 N N b0 A) fun b9 b5=>(iA (.val zK3) (fC .add a7 b9) fun Y=>some (Y,b5))))))else some (F,A))))))))))))))else(iA (.val zK3) (fC .add I [40]) fun a6=>(vA f.1 fun L=>(iA (.val zJ3) (p.cell (L.1,L.2+3)) fun c2=>(jA (f38 N c2 p) fun b7 y=>(iA (.val zK3) (fC .add a6 b7) fun a5=>(iA (.val zK3) (fC .add a5 [41]) fun H=>(vA f.1 fun r=>(iA (.val zM3) (y.cell ((r.1,r.2+4).1,(r.1,r.2+4).2+0)) fun a4=>let a9:=!pA a4 0;(bif a9 then(iA (.val zK3) (fC .add H [32,45,62,32]) fun b8=>(vA f.1 fun M=>(iA (.val zD) (y.cells (M.1,M.2+4) 4) fun U=>(jA (f36 N N U y) fun b6 V=>(iA (.val zK3) (fC .add b8 b6) fun R=>some (R,V))))))else some (H,y))))))))))))))))))))))
def dBu:Ann:=(.two .n (.two .n (.two (.two .n (.two (.loop [(1,zI3),(3,zJ3),(9,zJ3),(10,zM3),(11,zM3)] [(.exit 0)] [(1,zI3),(3,zJ3)] .n) .n)) .n)))
def nB9 (N:Nat):pC Tryz.prog 20 [zE] (.val zK3) (fun x h=>f20 N x.1 h):=kD (bA (f50_ok N) (bA (mB9 N) (bA (lB9 N) (bA (cAr N) kA)))) N dBu Tryz.f20
noncomputable def f128 (N:Nat) (j:zO3) (f:Int) (h:Heap):yO0 zO3:=Qb.repF j f h
def f128_ok (N:Nat):pC Tryz.prog 128 [zK3,zM3] (.val zK3) (fun x h=>f128 N x.1 x.2.1 h):=Qb.f128_ok N
def f82 (N:Nat) (u:zH3) (j:Int) (h:Heap):yO0 (Unit):=(jA (f128 N [9] j h) fun w f=>let p:=f.push (.row [(.str w)] .own);(jA (f39 N u ⟨(some (f.next,0)),1,1,1⟩ p) fun y r=>some ((()),r)))
def eBu:Ann:=.n
def bBp (N:Nat):pC Tryz.prog 82 [zI3,zM3] (.tup []) (fun x h=>f82 N x.1 x.2.1 h):=kD (bA (dAj N) (bA (f128_ok N) kA)) N eBu Tryz.f82
noncomputable def f204 (N:Nat) (f:Int) (h:Heap):yO0 zO3:=Qb.itoaF f h
def f204_ok (N:Nat):pC Tryz.prog 204 [zM3] (.val zK3) (fun x h=>f204 N x.1 h):=Qb.f204_ok N
noncomputable def f218 (N:Nat) (f:Bool) (h:Heap):yO0 zO3:=(bif f then some ([116,114,117,101],h)else some ([102,97,108,115,101],h))
def cBp:Ann:=.n
def gBg (N:Nat):pC Tryz.prog 218 [zL3] (.val zK3) (fun x h=>f218 N x.1 h):=kD kA N cBp Tryz.f218
def f205 (N:Nat) (j:Bool) (h:Heap):yO0 zO3:=(jA (f218 N j h) fun p f=>some (p,f))
def dBp:Ann:=.n
def iBg (N:Nat):pC Tryz.prog 205 [zL3] (.val zK3) (fun x h=>f205 N x.1 h):=kD (bA (gBg N) kA) N dBp Tryz.f205
def f130 (N:Nat) (w:zD1) (h:Heap):yO0 zO3:=let f:=h.push (.row (yRH w) .own);(iA (.val zK3) (f.cell (h.next,0)) fun B=>let j:=f.push (.row [(.str B)] .own);(iA (.val zJ3) (j.cell (h.next,1)) fun A=>(tD (.val zJ3) (nB E 38 38 (.slice (some (f.next,0)) 1 1 1) (yL A) j) fun p r=>(jA (f50 N p [46] r) fun u y=>some (u,y)))))
def eBp:Ann:=.n
def tAn (N:Nat):pC Tryz.prog 130 [zM] (.val zK3) (fun x h=>f130 N x.1 h):=kD (bA (f50_ok N) kA) N eBp Tryz.f130
def f177 (N:Nat) (I:zZ) (h:Heap):yO0 zO3:=let f:=h.push (.row (yRD I) .own);(iA (.val zM3) (f.cell (h.next,0)) fun y=>let J:=pA y 1;(bif J then(iA (.val zM3) (f.cell (h.next,1)) fun K=>(jA (f204 N K f) fun A C=>some (A,C)))else let F:=pA y 2;(bif F then(iA (.val zM3) (f.cell (h.next,1)) fun H=>let B:=pA H 1;(jA (f205 N B f) fun u w=>some (u,w)))else(iA (.val zM) (f.cells (h.next,2) 2) fun j=>(jA (f130 N j f) fun r p=>some (r,p))))))
def fBp:Ann:=.n
def yB1 (N:Nat):pC Tryz.prog 177 [zG] (.val zK3) (fun x h=>f177 N x.1 h):=kD (bA (iBg N) (bA (f204_ok N) (bA (tAn N) kA))) N fBp Tryz.f177
def jX (N:Nat) (X:zH3->SL->SL->Int->Int->Heap->Option (Out×zX1×Heap)) (y:zH3) (v3 A:SL) (p j:Int) (h:Heap):Option (Out×zX1×Heap):=let x3:=ltInt j p;(bif x3 then(ixK A.a A.len j 4 fun q4=>(iA (.val zG) (h.cells q4 4) fun x5=>let Y:=h.push (.row yZH .own);(vA (Y.store (h.next,0) (yRD x5)) fun V=>(iA (.val zG) (V.cells (h.next,0) 4) fun Z=>(jA (f177 N Z V) fun W f=>(vA y fun r=>(iA (.val zJ3) (f.cell (r.1,r.2+13)) fun B=>let S:=ltInt j (Int.ofNat B.len);(bif S then(vA y fun u=>(iA (.val zJ3) (f.cell (u.1,u.2+13)) fun w=>(ixK w.a w.len j 1 fun C=>(iA (.val zK3) (f.cell C) fun U=>(iA (.val zK3) (fC .add U [58,32]) fun F=>(iA (.val zK3) (fC .add F W) fun O=>let L:=f.push (.row [(.str O)] .own);(tD (.val zJ3) (nB E 38 38 (yL v3) (.slice (some (f.next,0)) 1 1 1) L) fun M J=>let Q:=fB .i64 (j+1);X y M A p Q J)))))))else let K:=f.push (.row [(.str W)] .own);(tD (.val zJ3) (nB E 38 38 (yL v3) (.slice (some (f.next,0)) 1 1 1) K) fun I H=>let R:=fB .i64 (j+1);X y I A p R H)))))))))else some ((Out.exit 0),(y,v3,()),h))
def bR (N M:Nat) (p:zH3) (v3 r:SL) (j f:Int) (h:Heap):Option (Out×zX1×Heap):=iter (fun u s h=>jX N (fun p v3 r j f h=>u (p,v3,r,j,f,()) h) s.1 s.2.1 s.2.2.1 s.2.2.2.1 s.2.2.2.2.1 h) M (p,v3,r,j,f,()) h
def pA0 (N M v1 v3 v9 v10 v11 h):bR N (M+1) v1 v3 v9 v10 v11 h=jX N (bR N M) v1 v3 v9 v10 v11 h:=rfl
def f131 (N:Nat) (a0:zW) (h:Heap):yO0 zO3:=let h1:=h.push (.row (yRB a0) .own);(iA (.val zJ3) (h1.cell (h.next,14)) fun x2=>(rD (bR N N (some (h.next,0)) ⟨none,0,0,0⟩ x2 (Int.ofNat x2.len) 0 h1) fun _ (j:zX1) d3=>(jA (f50 N j.2.1 [44,32] d3) fun H f=>(vA j.1 fun L=>(iA (.val zM3) (f.cell (L.1,L.2+0)) fun A=>let b6:=pA A 2;(bif b6 then(vA j.1 fun S=>(iA (.val zM) (f.cells (S.1,S.2+10) 2) fun b9=>(jA (f130 N b9 f) fun a1 c2=>(iA (.val zK3) (fC .add [38] a1) fun c4=>some (c4,c2)))))else let a7:=pA A 3;(bif a7 then(vA j.1 fun O=>(iA (.val zM) (f.cells (O.1,O.2+10) 2) fun a3=>(jA (f130 N a3 f) fun b1 c8=>(iA (.val zK3) (fC .add [38,109,117,116,32] b1) fun c5=>some (c5,c8)))))else let d6:=pA A 4;(bif d6 then(vA j.1 fun M=>(iA (.val zG) (f.cells (M.1,M.2+1) 4) fun b3=>(jA (f177 N b3 f) fun b5 d0=>(iA (.val zK3) (fC .add [33] b5) fun b7=>some (b7,d0)))))else let a6:=pA A 5;(bif a6 then let y:=f.push (.row [(.str [32,43,32]),(.str [32,45,32]),(.str [32,60,32]),(.str [32,61,61,32])] .own);(vA j.1 fun r=>(iA (.val zG) (y.cells (r.1,r.2+1) 4) fun I=>(jA (f177 N I y) fun a8 p=>(vA j.1 fun w=>
 (iA (.val zM3) (p.cell (w.1,w.2+9)) fun K=>let c6:=fB .i64 (K-1);(ixK (some (f.next,0)) 4 c6 1 fun J=>(iA (.val zK3) (p.cell J) fun F=>(iA (.val zK3) (fC .add a8 F) fun b4=>(vA j.1 fun u=>(iA (.val zG) (p.cells (u.1,u.2+5) 4) fun C=>(jA (f177 N C p) fun c0 B=>(iA (.val zK3) (fC .add b4 c0) fun a2=>(pD (bif (jB (B.cells (u.1,u.2+5) 4) (.agg (yRD C))) then (bif (jB (p.cells (u.1,u.2+5) 4) (.agg (yRD C))) then (bif (jB (y.cells (u.1,u.2+5) 4) (.agg (yRD C))) then (bif (jB (B.cell J) (.str F)) then (bif (jB (p.cell J) (.str F)) then (bif (jB (y.cell J) (.str F)) then (bif (jB (B.cell (w.1,w.2+9)) (yI0 K)) then (bif (jB (p.cell (w.1,w.2+9)) (yI0 K)) then (bif (jB (y.cell (w.1,w.2+9)) (yI0 K)) then (bif (jB (B.cells (r.1,r.2+1) 4) (.agg (yRD I))) then (bif (jB (p.cells (r.1,r.2+1) 4) (.agg (yRD I))) then (bif (jB (y.cells (r.1,r.2+1) 4) (.agg (yRD I))) then true else false) else false) else false) else false) else false) else false) else false) else false) else false) else false) else false) else false) ((pD (((rX (B.t.get f.next) (p.t.get f.next))&&true)&&(((rX (p.t.get f.next) (y.t.get f.next))&&true)&&true)) ( some (a2,B)))))))))))))))))else let Z:=pA A 6
 (bif Z then(vA j.1 fun Q=>(iA (.val zK3) (f.cell (Q.1,Q.2+12)) fun d5=>(iA (.val zK3) (fC .add d5 [40]) fun W=>(iA (.val zK3) (fC .add W H) fun a9=>(iA (.val zK3) (fC .add a9 [41]) fun d8=>some (d8,f))))))else let b2:=pA A 7;(bif b2 then let b8:=!bB H [];(bif b8 then(iA (.val zK3) (fC .add H [32]) fun Y=>(vA j.1 fun V=>(iA (.val zK3) (f.cell (V.1,V.2+12)) fun a4=>(iA (.val zK3) (fC .add a4 [32,123,32]) fun d7=>(iA (.val zK3) (fC .add d7 Y) fun a5=>(iA (.val zK3) (fC .add a5 [125]) fun b0=>some (b0,f)))))))else(vA j.1 fun R=>(iA (.val zK3) (f.cell (R.1,R.2+12)) fun c3=>(iA (.val zK3) (fC .add c3 [32,123,32]) fun d9=>(iA (.val zK3) (fC .add d9 H) fun X=>(iA (.val zK3) (fC .add X [125]) fun e1=>some (e1,f)))))))else(vA j.1 fun U=>(iA (.val zG) (f.cells (U.1,U.2+1) 4) fun c9=>(jA (f177 N c9 f) fun d4 c7=>some (d4,c7)))))))))))))))
def gBp:Ann:=(.two .n (.two .n (.two (.two .n (.two (.loop [(1,zI3),(3,zJ3),(9,zJ3),(10,zM3),(11,zM3)] [(.exit 0)] [(1,zI3),(3,zJ3)] .n) .n)) .n)))
def aB2 (N:Nat):pC Tryz.prog 131 [zC] (.val zK3) (fun x h=>f131 N x.1 h):=kD (bA (f50_ok N) (bA (yB1 N) (bA (tAn N) kA))) N gBp Tryz.f131
def f129 (N:Nat) (X:zR) (h:Heap):yO0 zO3:=let C:=h.push (.row (yRA X) .own);(jA (α:=zP1) ((iA (.val zL3) (C.cell (h.next,2)) fun V=>(bif V then some (((some (h.next,0)),[108,101,116,32,109,117,116,32],()),C)else some (((some (h.next,0)),[108,101,116,32],()),C)))) fun (u:zP1) A=>(vA u.1 fun j=>(iA (.val zK3) (A.cell (j.1,j.2+3)) fun H=>(iA (.val zK3) (fC .add u.2.1 H) fun U=>(iA (.val zK3) (fC .add U [58,32]) fun W=>(vA u.1 fun B=>(iA (.val zD) (A.cells (B.1,B.2+4) 4) fun r=>(jA (f36 N N r A) fun I f=>(iA (.val zK3) (fC .add W I) fun y=>(pD (bif (jB (A.cells (B.1,B.2+4) 4) (.agg (yRE r))) then (bif (jB (f.cell (j.1,j.2+3)) (.str H)) then (bif (jB (A.cell (j.1,j.2+3)) (.str H)) then true else false) else false) else false) ((jA (α:=zX2) ((vA u.1 fun w=>(iA (.val zL3) (f.cell (w.1,w.2+8)) fun O=>(bif O then(iA (.val zK3) (fC .add y [32,61,32]) fun L=>(vA u.1 fun p=>(iA (.val zC) (f.cells (p.1,p.2+11) 15) fun F=>(jA (f131 N F f) fun M J=>
 (iA (.val zK3) (fC .add L M) fun K=>some ((K,()),J))))))else some ((y,()),f))))) fun (S:zX2) Q=>(iA (.val zK3) (fC .add S.1 [59]) fun R=>some (R,Q))))))))))))))
def iBp:Ann:=(.two .n (.two .n (.two (.join [(1,zI3),(3,zK3)] .n) (.two .n (.two (.join [(3,zK3)] .n) .n)))))
def jBg (N:Nat):pC Tryz.prog 129 [zA] (.val zK3) (fun x h=>f129 N x.1 h):=kD (bA (cAr N) (bA (aB2 N) kA)) N iBp Tryz.f129
def dAr (N:Nat) (rec132:zH3->zR->Int->Heap->yO0 (Unit)) (rec42:zH3->SL->Int->Heap->yO0 (Unit)) (rec83:zH3->zR->Int->Heap->yO0 (Unit)) (f:zH3) (a1:zR) (y:Int) (h:Heap):yO0 (Unit):=let w:=h.push (.row (yRA a1) .own);(iA (.val zM3) (w.cell (h.next,0)) fun V=>let x3:=pA V 4;(bif x3 then(iA (.val zG) (w.cells (h.next,26) 4) fun x4=>(jA (f177 N x4 w) fun x5 h6=>let h7:=h6.push (.row [(.str [105,102,32]),(.str x5),(.str [32])] .own);(jA (f39 N f ⟨(some (h6.next,0)),3,3,1⟩ h7) fun x8 h9=>(iA (.val zJ3) (h9.cell (h.next,30)) fun Q=>(jA (rec42 f Q y h9) fun d4 u=>(iA (.val zM3) (u.cell (h.next,0)) fun c3=>let a9:=pA c3 4;(bif a9 then(iA (.val zL3) (u.cell (h.next,8)) fun b9=>(bif b9 then let a8:=u.push (.row [(.str [32,101,108,115,101,32])] .own);(jA (f39 N f ⟨(some (u.next,0)),1,1,1⟩ a8) fun e1 F=>(iA (.val zJ3) (F.cell (h.next,31)) fun b8=>(jA (rec42 f b8 y F) fun c8 b2=>some ((()),b2))))else some ((()),u)))else some ((()),u))))))))else let c5:=pA V 5;(bif c5 then(iA (.val zG) (w.cells (h.next,26) 4) fun c0=>(jA (f177 N c0 w) fun c4 J=>let a3:=J.push (.row [(.str [119,104,105,108,101,32]),(.str c4),(.str [32])] .own)
 (jA (f39 N f ⟨(some (J.next,0)),3,3,1⟩ a3) fun d9 I=>(iA (.val zJ3) (I.cell (h.next,30)) fun b1=>(jA (rec42 f b1 y I) fun d6 r=>(iA (.val zM3) (r.cell (h.next,0)) fun W=>let b7:=pA W 4;(bif b7 then(iA (.val zL3) (r.cell (h.next,8)) fun O=>(bif O then let b0:=r.push (.row [(.str [32,101,108,115,101,32])] .own);(jA (f39 N f ⟨(some (r.next,0)),1,1,1⟩ b0) fun e2 H=>(iA (.val zJ3) (H.cell (h.next,31)) fun R=>(jA (rec42 f R y H) fun c6 a4=>some ((()),a4))))else some ((()),r)))else some ((()),r))))))))else let U:=pA V 6;(bif U then let K:=w.push (.row [(.str [108,111,111,112,32])] .own);(jA (f39 N f ⟨(some (w.next,0)),1,1,1⟩ K) fun c7 A=>(iA (.val zJ3) (A.cell (h.next,30)) fun L=>(jA (rec42 f L y A) fun d7 j=>(iA (.val zM3) (j.cell (h.next,0)) fun S=>let b4:=pA S 4;(bif b4 then(iA (.val zL3) (j.cell (h.next,8)) fun a5=>(bif a5 then let c2:=j.push (.row [(.str [32,101,108,115,101,32])] .own);(jA (f39 N f ⟨(some (j.next,0)),1,1,1⟩ c2) fun d3 B=>(iA (.val zJ3) (B.cell (h.next,31)) fun b3=>(jA (rec42 f b3 y B) fun d8 b5=>some ((()),b5))))else some ((()),j)))
 else some ((()),j))))))else(iA (.val zJ3) (w.cell (h.next,30)) fun X=>(jA (rec42 f X y w) fun d0 p=>(iA (.val zM3) (p.cell (h.next,0)) fun Y=>let b6:=pA Y 4;(bif b6 then(iA (.val zL3) (p.cell (h.next,8)) fun Z=>(bif Z then let M:=p.push (.row [(.str [32,101,108,115,101,32])] .own);(jA (f39 N f ⟨(some (p.next,0)),1,1,1⟩ M) fun c9 C=>(iA (.val zJ3) (C.cell (h.next,31)) fun a6=>(jA (rec42 f a6 y C) fun d5 a7=>some ((()),a7))))else some ((()),p)))else some ((()),p)))))))))
def jBp:Ann:=.n
def lAe (N:Nat) (rec132:zH3->zR->Int->Heap->yO0 (Unit)) (rec42:zH3->SL->Int->Heap->yO0 (Unit)) (rec83:zH3->zR->Int->Heap->yO0 (Unit)) (W:zH3->Int->SL->Int->Int->Heap->Option (Out×zT1×Heap)) (p:zH3) (v2:Int) (f:SL) (w j:Int) (h:Heap):Option (Out×zT1×Heap):=let Q:=ltInt j w;(bif Q then(ixK f.a f.len j 32 fun X=>(iA (.val zA) (h.cells X 32) fun U=>let M:=h.push (.row yZA .own);(vA (M.store (h.next,0) (yRA U)) fun O=>(vA p fun L=>(jA (f43 N (some (L.1,L.2+0)) O) fun B y=>let A:=ltInt 1048576 B;(bif A then some (Out.ret,(p,v2,()),y)else let J:=fB .i64 (v2+1);(jA (f82 N p J y) fun S r=>(iA (.val zA) (r.cells (h.next,0) 32) fun H=>let K:=fB .i64 (v2+1);(jA (rec83 p H K r) fun R u=>
 let F:=u.push (.row [(.str [10])] .own);(jA (f39 N p ⟨(some (u.next,0)),1,1,1⟩ F) fun V C=>let I:=fB .i64 (j+1);W p v2 f w I C))))))))))else some ((Out.exit 0),(p,v2,()),h))
def kAa (N:Nat) (rec132:zH3->zR->Int->Heap->yO0 (Unit)) (rec42:zH3->SL->Int->Heap->yO0 (Unit)) (rec83:zH3->zR->Int->Heap->yO0 (Unit)) (M:Nat) (r:zH3) (v2:Int) (j:SL) (f p:Int) (h:Heap):Option (Out×zT1×Heap):=iter (fun u s h=>lAe N rec132 rec42 rec83 (fun r v2 j f p h=>u (r,v2,j,f,p,()) h) s.1 s.2.1 s.2.2.1 s.2.2.2.1 s.2.2.2.2.1 h) M (r,v2,j,f,p,()) h
def uAn (N rec132 rec42 rec83 M v0 v2 v11 v12 v13 h):kAa N rec132 rec42 rec83 (M+1) v0 v2 v11 v12 v13 h=lAe N rec132 rec42 rec83 (kAa N rec132 rec42 rec83 M) v0 v2 v11 v12 v13 h:=rfl
def aB7 (N:Nat) (rec132:zH3->zR->Int->Heap->yO0 (Unit)) (rec42:zH3->SL->Int->Heap->yO0 (Unit)) (rec83:zH3->zR->Int->Heap->yO0 (Unit)) (y:zH3) (A:SL) (C:Int) (h:Heap):yO0 (Unit):=let B:=h.push (.row [(.str [123,10])] .own);(jA (f39 N y ⟨(some (h.next,0)),1,1,1⟩ B) fun J F=>(rD (kAa N rec132 rec42 rec83 N y C A (Int.ofNat A.len) 0 F) fun w (f:zT1) j=>(bif vD w (.exit 0) then(jA (f82 N f.1 f.2.1 j) fun I p=>let r:=p.push (.row [(.str [125])] .own);(jA (f39 N f.1 ⟨(some (p.next,0)),1,1,1⟩ r) fun H u=>some ((()),u)))else some ((()),j))))
def fBu:Ann:=(.two .n (.two (.two .n (.two (.loop [(0,zI3),(2,zM3),(11,zJ3),(12,zM3),(13,zM3)] [(.exit 0),.ret] [(0,zI3),(2,zM3)] .n) .n)) .n))
def bB7 (N:Nat) (rec132:zH3->zR->Int->Heap->yO0 (Unit)) (rec42:zH3->SL->Int->Heap->yO0 (Unit)) (rec83:zH3->zR->Int->Heap->yO0 (Unit)) (j:zH3) (a1:zR) (a2:Int) (h:Heap):yO0 (Unit):=let f:=h.push (.row (yRA a1) .own);(iA (.val zM3) (f.cell (h.next,0)) fun r=>let x3:=pA r 1;(bif x3 then(iA (.val zA) (f.cells (h.next,0) 32) fun x4=>(jA (f129 N x4 f) fun x5 h6=>
 let h7:=h6.push (.row [(.str x5)] .own);(jA (f39 N j ⟨(some (h6.next,0)),1,1,1⟩ h7) fun x8 h9=>some ((()),h9))))else let K:=pA r 2;(bif K then(iA (.val zM) (f.cells (h.next,9) 2) fun B=>(jA (f130 N B f) fun F p=>(iA (.val zC) (p.cells (h.next,11) 15) fun u=>(jA (f131 N u p) fun b2 w=>let a9:=w.push (.row [(.str F),(.str [32,61,32]),(.str b2),(.str [59])] .own);(jA (f39 N j ⟨(some (w.next,0)),4,4,1⟩ a9) fun b8 a3=>(pD (bif (jB (p.cells (h.next,11) 15) (.agg (yRB u))) then (bif (jB (f.cells (h.next,11) 15) (.agg (yRB u))) then (bif (jB (f.cells (h.next,9) 2) (.agg (yRH B))) then true else false) else false) else false) ( some ((()),a3))))))))else let S:=pA r 3;(bif S then(iA (.val zC) (f.cells (h.next,11) 15) fun a8=>(jA (f131 N a8 f) fun b4 C=>
 let a7:=C.push (.row [(.str b4),(.str [59])] .own);(jA (f39 N j ⟨(some (C.next,0)),2,2,1⟩ a7) fun b9 U=>some ((()),U))))else let b3:=pA r 10;(bif b3 then(iA (.val zL3) (f.cell (h.next,8)) fun b5=>(bif b5 then(iA (.val zC) (f.cells (h.next,11) 15) fun Z=>(jA (f131 N Z f) fun a5 y=>let M:=y.push (.row [(.str [114,101,116,117,114,110,32]),(.str a5),(.str [59])] .own);(jA (f39 N j ⟨(some (y.next,0)),3,3,1⟩ M) fun c3 b0=>some ((()),b0))))else let X:=f.push (.row [(.str [114,101,116,117,114,110,59])] .own);(jA (f39 N j ⟨(some (f.next,0)),1,1,1⟩ X) fun c5 b1=>some ((()),b1))))else let O:=pA r 11;(bif O then(iA (.val zM) (f.cells (h.next,9) 2) fun J=>(jA (f130 N J f) fun a6 A=>let H:=A.push (.row [(.str [100,114,111,112,32]),(.str a6),(.str [59])] .own);(jA (f39 N j ⟨(some (A.next,0)),3,3,1⟩ H) fun b7 R=>some ((()),R))))else let I:=pA r 8;(bif I then let b6:=f.push (.row [(.str [98,114,101,97,107,59])] .own);(jA (f39 N j ⟨(some (f.next,0)),1,1,1⟩ b6) fun c4 L=>
 some ((()),L))else let V:=pA r 9;(bif V then let W:=f.push (.row [(.str [99,111,110,116,105,110,117,101,59])] .own);(jA (f39 N j ⟨(some (f.next,0)),1,1,1⟩ W) fun c2 a4=>some ((()),a4))else(iA (.val zA) (f.cells (h.next,0) 32) fun Q=>(jA (rec132 j Q a2 f) fun c0 Y=>
 some ((()),Y)))))))))))
def gBu:Ann:=.n
def vAn (N M:Nat):((zH3->zR->Int->Heap->yO0 (Unit))×(zH3->SL->Int->Heap->yO0 (Unit))×(zH3->zR->Int->Heap->yO0 (Unit))×Unit):=Nat.rec (fun _ _ _ _=>none,fun _ _ _ _=>none,fun _ _ _ _=>none,()) (fun _ r=>(dAr N r.1 r.2.1 r.2.2.1,aB7 N r.1 r.2.1 r.2.2.1,bB7 N r.1 r.2.1 r.2.2.1,())) M
def f132 (N M:Nat):zH3->zR->Int->Heap->yO0 (Unit):=(vAn N M).1
def f42 (N M:Nat):zH3->SL->Int->Heap->yO0 (Unit):=(vAn N M).2.1
def f83 (N M:Nat):zH3->zR->Int->Heap->yO0 (Unit):=(vAn N M).2.2.1
def bB2 (N M a0 a1 a2 h):f132 N (M+1) a0 a1 a2 h=dAr N (f132 N M) (f42 N M) (f83 N M) a0 a1 a2 h:=rfl
def eAr (N M a0 a1 a2 h):f42 N (M+1) a0 a1 a2 h=aB7 N (f132 N M) (f42 N M) (f83 N M) a0 a1 a2 h:=rfl
theorem cB7 (N M a0 a1 a2 h):f83 N (M+1) a0 a1 a2 h=bB7 N (f132 N M) (f42 N M) (f83 N M) a0 a1 a2 h:=rfl
def aP (N:Nat):∀ M:Nat,(pC Tryz.prog 132 [zI3,zA,zM3] (.tup []) (fun x h=>f132 N M x.1 x.2.1 x.2.2.1 h))/\(pC Tryz.prog 42 [zI3,zJ3,zM3] (.tup []) (fun x h=>f42 N M x.1 x.2.1 x.2.2.1 h))/\(pC Tryz.prog 83 [zI3,zA,zM3] (.tup []) (fun x h=>f83 N M x.1 x.2.1 x.2.2.1 h))/\True
 | 0=>⟨(fun xs h r h' f=>by cases f),(fun xs h r h' f=>by cases f),(fun xs h r h' f=>by cases f),trivial⟩
 | M+1=>⟨kD (bA (aP N M).2.1 (bA (dAj N) (bA (yB1 N) kA))) N jBp Tryz.f132,kD (bA (aP N M).2.2.1 (bA (bBp N) (bA (wB1 N) (bA (dAj N) kA)))) N fBu Tryz.f42,kD (bA (dAj N) (bA (aP N M).1 (bA (aB2 N) (bA (tAn N) (bA (jBg N) kA))))) N gBu Tryz.f83,trivial⟩
def kBp (N:Nat):pC Tryz.prog 42 [zI3,zJ3,zM3] (.tup []) (fun x h=>f42 N N x.1 x.2.1 x.2.2.1 h):=(aP N N).2.1
def f44 (N:Nat) (u:zH3) (h:Heap):yO0 zO3:=(vA u fun j=>(iA (.val zJ3) (h.cell (j.1,j.2+1)) fun w=>(tD (.val zI3) (oF E .unsafeSliceData [81] [(yL w)] h) fun B r=>(vA u fun f=>(iA (.val zJ3) (r.cell (f.1,f.2+1)) fun p=>(tD (.val zK3) (oF E .unsafeString [144,3] [(.ptr B),(yI0 (Int.ofNat p.len))] r) fun y A=>(pD (bif (jB (r.cell (f.1,f.2+1)) (yL p)) then (bif (jB (h.cell (f.1,f.2+1)) (yL p)) then (bif (jB (h.cell (j.1,j.2+1)) (yL w)) then true else false) else false) else false) ( some (y,A)))))))))
def iBu:Ann:=.n
def lBp (N:Nat):pC Tryz.prog 44 [zI3] (.val zK3) (fun x h=>f44 N x.1 h):=kD kA N iBu Tryz.f44
def mAe (N:Nat) (U:zH3->SL->Int->Int->Heap->Option (Out×zE2×Heap)) (v4:zH3) (j:SL) (p f:Int) (h:Heap):Option (Out×zE2×Heap):=let O:=ltInt f p;(bif O then(ixK j.a j.len f 10 fun F=>(iA (.val zE) (h.cells F 10) fun H=>let J:=h.push (.row yZC .own);(vA (J.store (h.next,0) (yRC H)) fun w=>(iA (.val zE) (w.cells (h.next,0) 10) fun L=>(jA (f20 N L w) fun C r=>let M:=r.push (.row [(.str C),(.str [32])] .own);(jA (f39 N v4 ⟨(some (r.next,0)),2,2,1⟩ M) fun S u=>(iA (.val zJ3) (u.cell (h.next,8)) fun K=>(jA (f42 N N v4 K 0 u) fun R y=>let B:=y.push (.row [(.str [10])] .own);(jA (f39 N v4 ⟨(some (y.next,0)),1,1,1⟩ B) fun Q A=>let I:=fB .i64 (f+1);U v4 j p I A)))))))))else some ((Out.exit 2),(v4,()),h))
def eAj (N M:Nat) (v4:zH3) (p:SL) (f j:Int) (h:Heap):Option (Out×zE2×Heap):=iter (fun r s h=>mAe N (fun v4 p f j h=>r (v4,p,f,j,()) h) s.1 s.2.1 s.2.2.1 s.2.2.2.1 h) M (v4,p,f,j,()) h
def wAn (N M v4 v44 v45 v46 h):eAj N (M+1) v4 v44 v45 v46 h=mAe N (eAj N M) v4 v44 v45 v46 h:=rfl
def nAe (N:Nat) (go:zH3->zH3->SL->Int->Int->Heap->Option (Out×zU×Heap)) (v1 v4:zH3) (u:SL) (A y:Int) (h:Heap):Option (Out×zU×Heap):=let Q:=ltInt y A;(bif Q then(ixK u.a u.len y 5 fun Y=>(iA (.val zJ) (h.cells Y 5) fun M=>let O:=h.push (.row yZF .own);(vA (O.store (h.next,0) (yRG M)) fun K=>(iA (.val zJ3) (K.cell (h.next,3)) fun a2=>(jA (f38 N a2 K) fun F f=>let R:=!bB F [];(bif R then(iA (.val zK3) (fC .add F [32]) fun a1=>(iA (.val zL3) (f.cell (h.next,0)) fun J=>(jA (f40 N J f) fun a0 p=>(iA (.val zK3) (p.cell (h.next,1)) fun w=>(iA (.val zJ3) (p.cell (h.next,2)) fun I=>(jA (f41 N I p) fun X B=>let a3:=B.push (.row [(.str a0),(.str [115,116,114,117,99,116,32]),(.str w),(.str X),(.str [32,123,32]),(.str a1),(.str [125,10])] .own);(jA (f39 N v4 ⟨(some (B.next,0)),7,7,1⟩ a3) fun a7 V=>(pD (bif (jB (p.cell (h.next,2)) (yL I)) then (bif (jB (f.cell (h.next,2)) (yL I)) then (bif (jB (B.cell (h.next,1)) (.str w)) then (bif (jB (p.cell (h.next,1)) (.str w)) then (bif (jB (f.cell (h.next,1)) (.str w)) then (bif (jB (f.cell (h.next,0)) (.bool J)) then true else false) else false) else false) else false) else false) else false) (
 let Z:=fB .i64 (y+1);go v1 v4 u A Z V)))))))))else(iA (.val zL3) (f.cell (h.next,0)) fun L=>(jA (f40 N L f) fun U j=>(iA (.val zK3) (j.cell (h.next,1)) fun r=>(iA (.val zJ3) (j.cell (h.next,2)) fun C=>(jA (f41 N C j) fun a4 H=>let a5:=H.push (.row [(.str U),(.str [115,116,114,117,99,116,32]),(.str r),(.str a4),(.str [32,123,32]),(.str F),(.str [125,10])] .own);(jA (f39 N v4 ⟨(some (H.next,0)),7,7,1⟩ a5) fun a6 W=>(pD (bif (jB (j.cell (h.next,2)) (yL C)) then (bif (jB (f.cell (h.next,2)) (yL C)) then (bif (jB (H.cell (h.next,1)) (.str r)) then (bif (jB (j.cell (h.next,1)) (.str r)) then (bif (jB (f.cell (h.next,1)) (.str r)) then (bif (jB (f.cell (h.next,0)) (.bool L)) then true else false) else false) else false) else false) else false) else false) ( let S:=fB .i64 (y+1);go v1 v4 u A S W))))))))))))))else some ((Out.exit 0),(v1,v4,()),h))
def lAa (N M:Nat) (r v4:zH3) (j:SL) (f p:Int) (h:Heap):Option (Out×zU×Heap):=iter (fun u s h=>nAe N (fun r v4 j f p h=>u (r,v4,j,f,p,()) h) s.1 s.2.1 s.2.2.1 s.2.2.2.1 s.2.2.2.2.1 h) M (r,v4,j,f,p,()) h
def yAn (N M v1 v4 v17 v18 v19 h):lAa N (M+1) v1 v4 v17 v18 v19 h=nAe N (lAa N M) v1 v4 v17 v18 v19 h:=rfl
def f16 (N:Nat) (U:zR1) (h:Heap):yO0 zD3:=let M:=h.push (.row (yRJ U) .own);(iA (.val zQ) (M.cells (h.next,0) 2) fun S=>(jA (f33 N S M) fun X L=>let W:=!X;(bif W then(jA (f37 N 1 0 L) fun V R=>some (([],V,()),R))else let O:=L.push (.row [(.ptr none),yS0] (.ty 85));(iA (.val zJ3) (O.cell (h.next,0)) fun Q=>(rD (lAa N N (some (h.next,0)) (some (L.next,0)) Q (Int.ofNat Q.len) 0 O) fun _ (j:zU) p=>(vA j.1 fun w=>(iA (.val zJ3) (p.cell (w.1,w.2+1)) fun u=>(rD (eAj N N j.2.1 u (Int.ofNat u.len) 0 p) fun _ (A:zE2) K=>(vA A.1 fun f=>(jA (f43 N (some (f.1,f.2+0)) K) fun B r=>let H:=ltInt 1048576 B;(bif H then(jA (f37 N 5 0 r) fun I J=>some (([],I,()),J))else(vA A.1 fun y=>(jA (f44 N (some (y.1,y.2+0)) r) fun C F=>some ((C,AV.nilIface,()),F))))))))))))))
def jBu:Ann:=(.two .n (.two .n (.two .n (.two (.two .n (.two (.loop [(1,zI3),(4,zI3),(17,zJ3),(18,zM3),(19,zM3)] [(.exit 0)] [(1,zI3),(4,zI3)] .n) .n)) (.two (.two .n (.two (.loop [(4,zI3),(44,zJ3),(45,zM3),(46,zM3)] [(.exit 2)] [(4,zI3)] .n) .n)) .n)))))
def oB9 (N:Nat):pC Tryz.prog 16 [zQ] (.tup [zK3,zN3]) (fun x h=>f16 N x.1 h):=kD (bA (lBp N) (bA (wB1 N) (bA (kBp N) (bA (kB9 N) (bA (mB9 N) (bA (dAj N) (bA (lB9 N) (bA (nAx N) (bA (qBo N) (bA (nB9 N) kA)))))))))) N jBu Tryz.f16
def f15 (N:Nat)  (h:Heap):yO0 Bool:=let H:=h.push (.row [(.bool false),(.str [102]),yS0,yS0,(yI0 0),(.str []),yS0,yS0,yS0,(yI0 0)] .own);(jA (f16 N (⟨none,0,0,0⟩,⟨(some (h.next,0)),1,1,10⟩,()) H) fun C j=>(iA (.val zL3) (tM E .eql 29 (.tmp 10) (.const .nilIface) C.2.1 AV.nilIface) fun K=>(bif K then let F:=bB C.1 [102,110,32,102,40,41,32,123,10,125,10];(bif F then let B:=j.push (.row [(.str [97])] .own);let I:=B.push (.row [(yI0 1),(.str []),yS0,yS0] .own);(jA (f36 N N (5,[],⟨(some (j.next,0)),1,1,1⟩,⟨(some (B.next,0)),1,1,4⟩,()) I) fun J p=>let w:=bB J [38,39,97,32,109,117,116,32,105,110,116];(bif w then let f:=p.push (.row [(.str [98])] .own);let y:=f.push (.row [(.str [97]),(.slice (some (p.next,0)) 1 1 1),(.str [98]),yS0] .own);(jA (f20 N (true,[102],⟨(some (f.next,0)),2,2,2⟩,⟨none,0,0,0⟩,0,[],⟨none,0,0,0⟩,⟨none,0,0,0⟩,⟨none,0,0,0⟩,0,()) y) fun r u=>let A:=bB r [112,117,98,32,102,110,32,102,60,39,97,58,32,39,98,44,32,39,98,62,40,41];some (A,u))else some (false,p)))else some (false,j))else some (false,j))))
def kBu:Ann:=.n
def mBp (N:Nat):pC Tryz.prog 15 [] (.val zL3) (fun x h=>f15 N  h):=kD (bA (cAr N) (bA (nB9 N) (bA (oB9 N) kA))) N kBu Tryz.f15
end
end Qp
namespace Qp
def unS:D->Bs
 | .s x=>x
 | _=>[]
def txS (l:List D):List Bs:=l.map unS
theorem fH (xs:List Bs):txS (xs.map D.s)=xs:=by
 unfold txS;rw [List.map_map];show xs.map (fun x=>unS (D.s x))=xs;exact List.map_id xs
def tyX:Nat->D->Bs
 | g+1,.t [.i k,.s nm,.l lv,.l el]=>if k=1 then [105,110,116] else if k=2 then [98,111,111,108] else if k=3 then nm++dF (txS lv) else
   [38]++(match txS lv with | []=>[] | x::_=>[39]++x++[32])++(if k=5 then [109,117,116,32] else [])++(match el with | t::_=>tyX g t | []=>[])
 | _,_=>[]
theorem qA0:∀ {g:Nat} {p:PT},p.ok g->tyX g p.D=p.txt
 | 0,p,h=>by cases p <;> cases h
 | g+1,.int,_=>rfl
 | g+1,.bool,_=>rfl
 | g+1,.st nm lv,_=>by grind [PT.D,tyD,tyX,fH,PT.txt]
 | g+1,.ref r lv t,⟨_,_,j⟩=>by
  have f:=qA0 j;cases r
  ·have e:tyX (g+1) (PT.ref false lv t).D=[38]++(match txS (lv.map D.s) with | []=>[] | x::_=>[39]++x++[32])++[]++tyX g t.D:=rfl
   rw [e,fH,f];rfl
  ·have e:tyX (g+1) (PT.ref true lv t).D=[38]++(match txS (lv.map D.s) with | []=>[] | x::_=>[39]++x++[32])++[109,117,116,32]++tyX g t.D:=rfl
   rw [e,fH,f];rfl
theorem rY {d:D} (h:lL 64 d):(tyX 64 d).length<=6000:=by
 obtain ⟨p,rfl,f⟩:=h;rw [qA0 f]
 have:=eAm f
 omega
def fdX:D->Bs
 | .t [.b m,.s nm,ty]=>(if m=true then [109,117,116,32] else [])++(nm++[58,32]++tyX 64 ty)
 | _=>[]
def uM (l:List D):Bs:=Qb.joinL (l.map fdX) [44,32]
def plX:D->Bs
 | .t [.s nm,.l pa]=>Qb.joinL (nm::txS pa) [46]
 | _=>[]
def opX:D->Bs
 | .t [.i k,.i n,pl]=>if k=1 then Lib.itoa n else if k=2 then (if n=1 then [116,114,117,101] else [102,97,108,115,101]) else plX pl
 | _=>[]
def cA7 (k:Int):Bs:=if k=1 then [32,43,32] else if k=2 then [32,45,32] else if k=3 then [32,60,32] else [32,61,61,32]
def cG:List Bs->List D->List Bs
 | n::ns,o::r=>(n++[58,32]++opX o)::cG ns r
 | [],o::r=>opX o::cG [] r
 | _,[]=>[]
def vaX:D->Bs
 | .t [.i k,a,b,.i op,pl,.s nm,.l ns,.l ag]=>
  if k=2 then [38]++plX pl else if k=3 then [38,109,117,116,32]++plX pl else if k=4 then [33]++opX a else if k=5 then opX a++cA7 op++opX b
  else if k=6 then nm++[40]++Qb.joinL (cG (txS ns) ag) [44,32]++[41]
  else if k=7 then nm++[32,123,32]++(if Qb.joinL (cG (txS ns) ag) [44,32]=[] then [] else Qb.joinL (cG (txS ns) ag) [44,32]++[32])++[125] else opX a
 | _=>[]
def aM {B:Nat}:∀ {l:List Bs} {sep:Bs},(∀ x∈l,x.length<=B)->(Qb.joinL l sep).length<=l.length * (B+sep.length)
 | [],sep,_=>by simp [Qb.joinL]
 | [x],sep,h=>by
  grind [Qb.joinL,xJ,xZ]
 | x::y::r,sep,h=>by
  have j:=h x (by simp);have p:=aM (l:=y::r) (sep:=sep) fun z f=>h z (xe _ f);have e:Qb.joinL (x::y::r) sep=x++(sep++Qb.joinL (y::r) sep):=rfl
  grind [xN,xJ,Nat.add_mul]
theorem oI {x:Bs} (h:jE x=true):x.length<=32:=by
 simp only [jE,xG] at h;exact (kE h.1).2
section
variable {N:Nat} {h:Heap} {V:Nat->Prop}
def mAa:∀ (xs:List Bs),Qb.strsOf (xs.map AV.str)=some xs
 | []=>rfl
 | x::r=>by simp only [List.map_cons,Qb.strsOf,mAa r]
theorem nAa {s:SL} {xs:List Bs} {sep:Bs} (x:Sl h V s (xs.map D.s)) (I:xs.length<=1000000) (K:(Qb.joinL xs sep).length<=1000000000):f50 N s sep h=some (Qb.joinL xs sep,h):=by
 unfold f50 Qb.joinF;have f:=x.len;rw [xS] at f
 cases xs with
 | nil=>
  have:s.len=0:=f
  rw [this];rfl
 | cons y r=>
  have u:Nat.beq s.len 0=false:=by
   rw [f];rfl
  have ⟨vs,C,dv⟩:=x.els;have j:=iAd dv;have J:s.sz=1:=by
   have H:=dv.length;rw [List.map_cons] at dv;simp only [De,Dt] at dv
   grind
  have w:=Ai.fAa (n:=1) C (by grind);rw [u,xB]
  cases B:s.a with
  | none=>have:=C.2.1 B;grind
  | some q=>
   have ⟨A,off⟩:=q;rw [B] at w;have F:Nat.ble s.len s.cap=true:=by simpa using x.cap
   simp only [yD,Nat.mul_one] at w;simp only [F,xA,w,j,mAa];have p:(Nat.ble (y::r).length 140737488355328&&Nat.ble (Qb.joinL (y::r) sep).length 140737488355328)=true:=by
    rw [xG,Nat.ble_eq,Nat.ble_eq]
    grind
   rw [p,xA]
theorem add_eq {a b:Bs} (h:a.length+b.length<=1000000000) {β:Type} (K:Bs->Option β):iA (.val zK3) (fC .add a b) K=K (a++b):=by
 rw [yC (by omega)];rfl
theorem oAa:∀ (x:Bs) (r:List Bs),[60,39]++Qb.joinL (x::r) [44,32,39]++[62]=dF (x::r)
 | x,r=>by
  have:∀ (x:Bs) (r:List Bs),Qb.joinL (x::r) [44,32,39]=x++vL r:=by
   intro x r
   induction r generalizing x with
   | nil=>simp [Qb.joinL,vL]
   | cons y r f=>
    have e:Qb.joinL (x::y::r) [44,32,39]=x++([44,32,39]++Qb.joinL (y::r) [44,32,39]):=rfl;rw [e,f];simp [vL]
  rw [this];simp [dF]
def pB9 {s:SL} {lv:List Bs} (x:Sl h V s (lv.map D.s)) (p:lv.length<=64) (j:∀ y∈lv,yG y=true):f41 N s h=some (dF lv,h):=by
 unfold f41;have f:=x.len;rw [xS] at f
 cases lv with
 | nil=>
  have:s.len=0:=f
  have z:pA (Int.ofNat s.len) 0=true:=by rw [this];rfl
  simp only [z,xA];rfl
 | cons y r=>
  have z:pA (Int.ofNat s.len) 0=false:=by rw [f];rfl
  have A:(Qb.joinL (y::r) [44,32,39]).length<=64 * 35:=xT (aM (B:=32) fun w u=>(kE (j w u)).2) (Nat.mul_le_mul p (by decide));simp only [z,xB]
  grind [nAa,aA,add_eq,oAa]
end
end Qp
namespace Qp
section
variable {N:Nat} {h:Heap} {V:Nat->Prop}
def nBp (hN:100<=N):∀ (g M:Nat) (h:Heap) (r:TyV) (p:PT) (V:Nat->Prop),g<=M->g<=64->p.ok g->Dt h V p.D (tyc r)->∃ h',f36 N M r h=some (p.txt,h')/\Chg [] h h':=by
 intro g
 induction g with
 | zero=>intro M h r p V _ _ W;cases p <;> cases W
 | succ g ih=>
  intro M h r p V hM hg W hd;obtain ⟨M,rfl⟩:∃ m,M=m+1:=⟨M-1,by omega⟩;rw [yB6];unfold eBg;obtain ⟨k,nm,lv,el,j⟩:∃ k nm lv el,p.D=tyD k nm lv el:=by cases p <;> exact ⟨_,_,_,_,rfl⟩
  rw [j] at hd;have ⟨s1,s2,hc,l1,t1⟩:=yJ.1 hd;have er:=tBd hc;subst er;have o1:=wA h (tyc (k,nm,s1,s2,()));have c1:=uA h (.row (tyc (k,nm,s1,s2,())) .own);have g1:h.push (.row [(yI0 (k,nm,s1,s2,()).1),(.str (k,nm,s1,s2,()).2.1),(.slice (k,nm,s1,s2,()).2.2.1.a (k,nm,s1,s2,()).2.2.1.len (k,nm,s1,s2,()).2.2.1.cap (k,nm,s1,s2,()).2.2.1.sz),(.slice (k,nm,s1,s2,()).2.2.2.1.a (k,nm,s1,s2,()).2.2.2.1.len (k,nm,s1,s2,()).2.2.2.1.cap (k,nm,s1,s2,()).2.2.2.1.sz)] .own)=h.push (.row (tyc (k,nm,s1,s2,())) .own):=rfl;rw [g1];generalize h.push (.row (tyc (k,nm,s1,s2,())) .own)=f at *;dsimp only;have a0:f.cell (h.next,0)=some (yI0 k):=o1.cell 0;have a1:f.cell (h.next,1)=some (.str nm):=o1.cell 1;have a2:f.cell (h.next,2)=some (SL.av s1):=o1.cell 2;have Y:f.cell (h.next,3)=some (SL.av s2):=o1.cell 3;simp only [SL.av] at a2 Y;have A:=l1.chg c1;have Q:=t1.chg c1;have H:s1.len=lv.length:=by rw [l1.len,xS]
  simp only [xX,xC,a0,dA,qB]
  cases p with
  | int=>
   simp only [PT.D,tyD,D.t.injEq,List.cons.injEq,D.i.injEq] at j;rw [<- j.1];exact ⟨_,rfl,c1⟩
  | bool=>
   simp only [PT.D,tyD,D.t.injEq,List.cons.injEq,D.i.injEq] at j;rw [<- j.1];exact ⟨_,rfl,c1⟩
  | st F u=>
   have U:k=3/\nm=F/\lv=u:=by
    simp only [PT.D,tyD,D.t.injEq,List.cons.injEq,D.i.injEq,D.s.injEq,D.l.injEq,and_true] at j
    grind [List.map_inj_right]
   obtain ⟨rfl,rfl,rfl⟩:=U;have ⟨p1,p2,X⟩:=W;rw [show pA 3 1=false from rfl,show pA 3 2=false from rfl,show pA 3 3=true from rfl];simp only [xB,xA,a1,a2,dA,yA,qA];have O:f41 N s1 f=some (dF lv,f):=pB9 (N:=N) A p2 X;rw [O,aA,yC (by grind [wK,rA9])];simp only [dA,yA,a1,jC,xA,yB];exact ⟨_,rfl,c1⟩
  | ref y u t=>
   have U:k=(if y=true then 5 else 4)/\lv=u/\el=[t.D]:=by
    simp only [PT.D,tyD,D.t.injEq,List.cons.injEq,D.i.injEq,D.s.injEq,D.l.injEq,and_true] at j
    grind [List.map_inj_right]
   obtain ⟨U,rfl,rfl⟩:=U;have ⟨p1,p2,X⟩:=W;have ht:=eAm X;have R:(k=4/\y=false)\/(k=5/\y=true):=by grind
   have z1:pA k 1=false:=by rcases R with ⟨rfl,_⟩ | ⟨rfl,_⟩ <;> rfl
   have z2:pA k 2=false:=by rcases R with ⟨rfl,_⟩ | ⟨rfl,_⟩ <;> rfl
   have z3:pA k 3=false:=by rcases R with ⟨rfl,_⟩ | ⟨rfl,_⟩ <;> rfl
   have z5:pA k 5=y:=by rcases R with ⟨rfl,rfl⟩ | ⟨rfl,rfl⟩ <;> rfl
   simp only [z1,z2,z3,xB];have base:(jA (α:=zC2) (bif pA k 4 then some (((some (h.next,0)),[38],pA k 4,()),f) else some (((some (h.next,0)),[38],pA k 5,()),f))=jA (α:=zC2) (β:=Bs×Heap) (some (((some (h.next,0)),[38],true,()),f))):=by
    rcases R with ⟨rfl,rfl⟩ | ⟨rfl,rfl⟩ <;> rfl
   rw [base];have ze:pA (Int.ofNat s2.len) 0=false:=by rw [t1.len];rfl
   simp only [aA,xA,fA,a2,Y,dA,qA,ze,xB];have a5:∃ k nm lv el,t.D=tyD k nm lv el:=by cases t <;> exact ⟨_,_,_,_,rfl⟩
   have B:∃ r':TyV,f.cells (s2.at 0 4) 4=some (.agg (tyc r'))/\Dt f V t.D (tyc r'):=by
    have ⟨cs,ee⟩:=Q.elt (i:=0) (by simp);have ⟨k',F,u,b4,a8⟩:=a5;have w:=ee.dt;simp only [List.getElem_cons_zero] at w;rw [a8] at w;have ⟨u1,u2,a4,_⟩:=yJ.1 w;have hz:s2.sz=4:=by rw [<- ee.len,a4];rfl
    have b3:=ee.whole
    grind
   have ⟨r',I,a9⟩:=B;have C:∀ {β:Type} (K:Nat×Nat->Option β),ixK s2.a s2.len 0 4 K=K (s2.at 0 4):=fun K=>Q.ix (i:=0) (by simp) 4 K;have ⟨h',e',c'⟩:=ih M f r' t V (by omega) (by omega) X a9;have ahead:(jA (α:=zP1) (β:=Bs×Heap) (bif ltInt 0 (Int.ofNat s1.len) then
     (iA (.val zK3) (fC .add [38] [39]) fun (a6:zO3)=>
     (ixK s1.a s1.len 0 1 fun Z=>
     (iA (.val zK3) (f.cell Z) fun (a7:zO3)=>
     (iA (.val zK3) (fC .add a6 a7) fun (b1:zO3)=>
     (iA (.val zK3) (fC .add b1 [32]) fun (b0:zO3)=>
     some ((some (h.next,0),b0,()),f))))))
    else
     some ((some (h.next,0),[38],()),f))=jA (α:=zP1) (some ((some (h.next,0),[38]++(match lv with | []=>[] | x::_=>[39]++x++[32]),()),f))):=by
    cases lv with
    | nil=>
     have:ltInt 0 (Int.ofNat s1.len)=false:=by rw [H];rfl
     rw [this];rfl
    | cons x rr=>
     have:ltInt 0 (Int.ofNat s1.len)=true:=by rw [H,ltI,xU];grind
     rw [this];have hx:=kE (p2 x (by simp));have L:∀ {β:Type} (K:Nat×Nat->Option β),ixK s1.a s1.len 0 1 K=K (s1.at 0 1):=fun K=>A.ix (i:=0) (by simp) 1 K;have J:=dA5 A (i:=0) (by simp);simp only [List.getElem_cons_zero] at J;simp only [xA];rw [yC (by simp)];simp only [dA,yA];rw [L,J];simp only [dA,yA];rw [yC (by grind)];simp only [dA,yA];rw [yC (by grind)];simp only [dA,yA];rw [<- xY,<- xY]
   rw [ahead];have b2:([38]++(match lv with | []=>[] | x::_=>[39]++x++[32]):Bs).length<=40:=by
    grind [kE,xN,xJ,xZ]
   generalize ha:([38]++(match lv with | []=>[] | x::_=>[39]++x++[32]):Bs)=pre at *;simp only [aA,fA,a0,dA,qB,z5];have S:(PT.ref y lv t).txt=pre++(if y=true then [109,117,116,32] else [])++t.txt:=by rw [<- ha];rfl
   rw [S]
   cases y
   ·simp only [xB,aA,fA,Y,dA,qA,xE,xL,List.append_nil];rw [C,I,vZ];show ∃ h',(jA (f36 N M r' f) _)=_/\_;rw [e',aA,yC (by omega)];simp only [dA,yA];exact ⟨_,rfl,c1.trans c'⟩
   ·simp only [xA,xM];rw [yC (by grind)];simp only [dA,yA,aA,fA,Y,qA];rw [C,I,vZ];show ∃ h',(jA (f36 N M r' f) _)=_/\_;rw [e',aA,yC (by grind)];simp only [dA,yA];exact ⟨_,rfl,c1.trans c'⟩
def tY {h0 h H:Heap} {out:SL} {ys:List Bs} {i:Nat} (hi:i<ys.length) (u:OwV (Fr0 h0) h out 1 ((ys.map D.s).take i)) (r:Chg [] h0 h) (j:Chg [] h H) (w:ys.length<=100000) {y:Bs} (p:y=ys[i]) :
  ∃ f h',(∀ {β:Type} (K:SL->Heap->Option β),tD (.val zJ3) (nB E 38 38 (yL out) (.slice (some (H.next,0)) 1 1 1) (H.push (.row [.str y] .own))) K=K f h')/\OwV (Fr0 h0) h' f 1 ((ys.map D.s).take (i+1))/\Chg [] h0 h':=by
 subst p;exact jAi iAh (by decide) (xs:=ys.map D.s) (by grind) u r j (cs:=[.str ys[i]]) (by rw [List.getElem_map];simp only [Dt]) rfl (by omega)
def oAe {h':Heap} {d:D} (h:lL 64 d) {r:TyV} (u:100<=N) (x:Dt h' V d (tyc r)):∃ f,f36 N N r h'=some (tyX 64 d,f)/\Chg [] h' f:=by
 obtain ⟨p,rfl,j⟩:=h;rw [qA0 j];exact nBp u 64 N h' r p V (by omega) (xD _) j x
def cB2 {p:Bool} {d:D} (h:vO p d):(fdX d).length<=6040:=by
 obtain ⟨m,nm,ty,rfl,_,j,f⟩:=h;have r:=oI j;have u:=rY f;have e:fdX (fdD m nm ty)=(if m=true then [109,117,116,32] else [])++(nm++[58,32]++tyX 64 ty):=rfl
 grind
def tA2 {f:Bool} {l:List D} (h:uO 64 (vO f) l):(uM l).length<=400000:=by
 have:=aM (B:=6040) (l:=l.map fdX) (sep:=[44,32]) fun x j=>by obtain ⟨d,hd,rfl⟩:=List.mem_map.1 j;exact cB2 (h.2 d hd)
 have p:=h.1;rw [xS] at this;unfold uM
 grind
def aAo (hN:100<=N) {h0:Heap} {mu:Bool} {l:List D} (A:uO 64 (vO mu) l) {s:SL} (x:Sl h0 V s l):∀ (M i:Nat) (out:SL) (h:Heap),i<=l.length->l.length-i<M->OwV (Fr0 h0) h out 1 (((l.map fdX).map D.s).take i)->Chg [] h0 h->∃ f h',mA0 N M out s (l.length:Int) (i:Int) h=some (.exit 0,(f,()),h')/\OwV (Fr0 h0) h' f 1 ((l.map fdX).map D.s)/\Chg [] h0 h':=by
 have p:((l.map fdX).map D.s).length=l.length:=by simp
 have key:=qU (h0:=h0) (n:=1) (k:=0) (xs:=(l.map fdX).map D.s) (L:=fun M out i h=>mA0 N M out s (l.length:Int) i h) (fin:=fun out=>(out,())) ?_ ?_
 ·grind
 ·intro M i hi out h W U
  rw [p] at hi;show ∃ f h',mA0 N (M+1) out s (l.length:Int) (i:Int) h=mA0 N M f s (l.length:Int) ((i+1:Nat):Int) h'/\_;rw [aA7];unfold qA2;simp only [qC,hi,xO,xA];have O:=A.2 _ (xR hi);have x:=x.chg U;have ⟨r,g,d⟩:=iA1.elt x hi (pA2 O);rw [x.ix hi 6,g,aBm];have ⟨B,p5,c5,H⟩:=iA1.park (z:=fdc fd0) rfl h r;have J:∀ {β:Type} (K:Heap->Option β),vA ((h.push (.row yZD .own)).store (h.next,0) (yRF r)) K=K B:=p5;rw [J];have d5:=Dt.chg c5 (by simp) d;have R:=cB2 O;have u:fdX l[i]=(l.map fdX)[i]'(by simpa using hi):=by rw [List.getElem_map]
  have ⟨m,nm,ty,hd,a2,hn,S⟩:=O;rw [hd] at d5 R u;have ⟨I,Q,y1⟩:=dAa (iX S) d5;obtain rfl:=iA1.inj Q;have a0:B.cell (h.next,0)=some (.bool m):=H.cell 0;have a1:B.cell (h.next,1)=some (.str nm):=H.cell 1;have aa:B.cells (h.next,2) 4=some (.agg (tyc I)):=H.cells (j:=2) (m:=4) (xD _);have h1:=oI hn;have h2:=rY S;have ⟨Y,e6,X⟩:=oAe S hN y1;have Z:=H.chg X;have b0:Y.cell (h.next,0)=some (.bool m):=Z.cell 0;have b1:Y.cell (h.next,1)=some (.str nm):=Z.cell 1;have w:=c5.trans X;simp only [xX,xC,a1,dA,yA];rw [yC (by simp;omega)];simp only [dA,yA];rw [aa,vZ];show ∃ f h',(jA (f36 N N I B) _)=_/\_;rw [e6,aA,yC (by simp;omega)];have sm:jB (some (.agg (tyc I))) (.agg (yRE I))=true:=eG _;simp only [dA,yA,sm,b1,jC,xA,yB,b0,aC];have F:fdX (fdD m nm ty)=(if m=true then [109,117,116,32] else [])++(nm++[58,32]++tyX 64 ty):=rfl;have C:i<(l.map fdX).length:=by simpa using hi
  cases m with
  | true=>
   simp only [xA];rw [yC (by simp;omega)];simp only [dA,yA];have ⟨s',h',e',o',c'⟩:=tY C W U w (by rw [xS];have:=A.1;omega) (y:=[109,117,116,32]++(nm++[58,32]++tyX 64 ty)) (by rw [<- u,F];rfl);rw [e',iB (by have:=A.1;omega)]
   grind
  | false=>
   simp only [xB];have ⟨s',h',e',o',c'⟩:=tY C W U w (by rw [xS];have:=A.1;omega) (y:=nm++[58,32]++tyX 64 ty) (by rw [<- u,F];rfl);rw [e',iB (by have:=A.1;omega)]
   grind
 ·intro M out h
  rw [p];show mA0 N (M+1) out s (l.length:Int) (l.length:Int) h=_;rw [aA7];unfold qA2;simp only [qC,Nat.lt_irrefl,xQ,xB]
def qB9 (r:200<=N) {j:Bool} {l:List D} (f:uO 64 (vO j) l) {s:SL} (x:Sl h V s l):∃ h',f38 N s h=some (uM l,h')/\Chg [] h h':=by
 unfold f38;have ⟨out,h',e,o,c⟩:=aAo (N:=N) (by omega) f x N 0 ⟨none,0,0,0⟩ h (xc _) (by have:=f.1;omega) (OwV.nil _ _ _ _) (Chg.refl _ _);have e0:Int.ofNat s.len=((l.length:Nat):Int):=by rw [x.len];rfl
 have p:((0:Nat):Int)=0:=rfl;rw [p] at e;rw [e0,e,mB];dsimp only;rw [nAa o.sl (by rw [xS];have:=f.1;omega) (xT (tA2 f) (by decide)),aA];exact ⟨h',rfl,c⟩
end
end Qp
namespace Qp
section
variable {N:Nat} {h:Heap} {V:Nat->Prop}
def dB2 {s:SL} {xs:List Bs} (o:OwC h s 1 (xs.map AV.str)):Sl h (fun _=>True) s (xs.map D.s):=by
 have p:=o.len;rw [xS,Nat.mul_one] at p;refine ⟨by grind,o.cap,fun _ _=>trivial,_,o.sees,?_⟩
 by_cases j:xs=[]
 ·subst j;simp [De]
 ·have r:0<xs.length:=List.length_pos_iff.2 j
  have:s.sz=1:=by
   rcases o with ⟨_,f,_⟩ | ⟨A,cs,st,_,f,_⟩
   ·omega
   ·exact f
  rw [this];exact nY _ _ _
def uU {d:D} (h:gX d):(plX d).length<=3000:=by
 obtain ⟨nm,xs,rfl,r,u,j⟩:=h;have e:plX (eF nm (xs.map D.s))=Qb.joinL (nm::xs) [46]:=by
  show Qb.joinL (nm::txS (xs.map D.s)) [46]=_;rw [fH]
 rw [e]
 have:=aM (B:=32) (l:=nm::xs) (sep:=[46]) fun x f=>by
  rcases List.mem_cons.1 f with rfl | f
  ·exact oI r
  ·rcases j x f with rfl | p
   ·decide
   ·exact oI p
 grind
def dA7 {d:D} (hd:gX d) {r:LfV} (x:Dt h V d (lfc r)):∃ h',f130 N (r.1,r.2.1,()) h=some (plX d,h')/\Chg [] h h':=by
 have p:=uU hd;obtain ⟨nm,xs,rfl,hn,O,W⟩:=hd;have ⟨s,hc,y⟩:=pM x;obtain rfl:=qM.inj (r':=(nm,s,())) hc;have e:plX (eF nm (xs.map D.s))=Qb.joinL (nm::xs) [46]:=by
  show Qb.joinL (nm::txS (xs.map D.s)) [46]=_;rw [fH]
 rw [e] at p ⊢;unfold f130;have o1:=wA h (lfc (nm,s,()));have c1:=uA h (.row (lfc (nm,s,())) .own);have J:h.push (.row [(.str (nm,s,()).1),(.slice (nm,s,()).2.1.a (nm,s,()).2.1.len (nm,s,()).2.1.cap (nm,s,()).2.1.sz)] .own)=h.push (.row (lfc (nm,s,())) .own):=rfl;dsimp only at J ⊢;rw [J];have y:=y.chg c1;generalize h.push (.row (lfc (nm,s,())) .own)=j at *;have U:j.cell (h.next,0)=some (.str nm):=o1.cell 0;simp only [xX,xC,U,dA,yA];have K:=wA j [.str nm];have F:=uA j (.row [.str nm] .own);have y:=y.chg F;generalize j.push (.row [.str nm] .own)=B at *;have C:=o1.chg F;have X:B.cell (h.next,1)=some (yL s):=C.cell 1;simp only [X,dA,qA];have ⟨ws,hs,Y⟩:=y.els;have u:=iAd Y;have H:=y.len;rw [xS] at H;have ow:OwC B ⟨some (j.next,0),1,1,1⟩ 1 [.str nm]:=.inr ⟨j.next,[.str nm],.own,rfl,rfl,K.2,K.1,rfl,rfl,xD _,.inr ⟨rfl,rfl⟩⟩;have ⟨v,h',R,o,vl,c,hb⟩:=gAd (E:=E) iAh hs (by grind) (by rw [u];intro w Q;obtain ⟨y,_,rfl⟩:=List.mem_map.1 Q;rfl) ow (by grind);have I:nB E 38 38 (.slice (some (j.next,0)) 1 1 1) (yL s) B=some (.slice v.a v.len v.cap v.sz,h'):=R;rw [I];simp only [rF,qA];have M:OwC h' v 1 ((nm::xs).map AV.str):=by
  rw [u] at o;exact o
 have S:Chg [j.next] B h':=c;have L:Chg [] h h':=(c1.trans F).step S (fun A hA hl=>by simp at hA;have:=c1.next;omega);have f:=nAa (N:=N) (sep:=[46]) (dB2 M) (by simp;omega) (by omega);have Z:f50 N v [46] h'=some (Qb.joinL (nm::xs) [46],h'):=f;rw [Z,aA];exact ⟨h',rfl,L⟩
def PK.itoa (f:PK h) {i:Int} (h0:-9223372036854775808<=i) (j:i<=9223372036854775807):f204 N i h=some (Lib.itoa i,h):=by
 unfold f204 Qb.itoaF;rw [if_pos ⟨f.2.2.1,f.2.2.2,h0,j⟩]
theorem eL {d:D} (h:bG d):(opX d).length<=3000:=by
 rcases h with ⟨n,rfl,f⟩ | ⟨n,f,rfl⟩ | ⟨p,rfl,j⟩
 ·have:=Lib.itoa_length_le (n:Int) (by omega) (by omega)
  show (Lib.itoa (n:Int)).length<=_;omega
 ·rcases f with rfl | rfl <;> decide
 ·exact uU j
def vU {d:D} (hd:bG d) (C:PK h) {r:OpV} (x:Dt h V d (opc r)):∃ h',f177 N r h=some (opX d,h')/\Chg [] h h':=by
 unfold f177;have hi:=tE hd;have o1:=wA h (opc r);have c1:=uA h (.row (opc r) .own);have J:h.push (.row (yRD r) .own)=h.push (.row (opc r) .own):=rfl;dsimp only;rw [J];have x:=Dt.chg c1 (by simp) x;have C:=C.chg c1;generalize h.push (.row (opc r) .own)=f at *;rcases hd with ⟨n,rfl,H⟩ | ⟨n,H,rfl⟩ | ⟨p,rfl,A⟩
 ·have ⟨q,w,_⟩:=jA0 ⟨[],[],rfl,by simp⟩ x
  obtain rfl:=qS.inj w;have u:f.cell (h.next,0)=some (yI0 1):=o1.cell 0;have F:f.cell (h.next,1)=some (yI0 (n:Int)):=o1.cell 1;simp only [xX,xC,u,F,dA,qB,show pA 1 1=true from rfl,xA];rw [C.itoa (by omega) (by omega),aA];exact ⟨f,rfl,c1⟩
 ·have ⟨q,w,_⟩:=jA0 ⟨[],[],rfl,by simp⟩ x
  obtain rfl:=qS.inj w;have u:f.cell (h.next,0)=some (yI0 2):=o1.cell 0;have F:f.cell (h.next,1)=some (yI0 n):=o1.cell 1;simp only [xX,xC,u,F,dA,qB,show pA 2 1=false from rfl,show pA 2 2=true from rfl,xA,xB];unfold f205 f218;rcases H with rfl | rfl
  ·exact ⟨f,rfl,c1⟩
  ·exact ⟨f,rfl,c1⟩
 ·have ⟨nm,xs,B,I,K,L⟩:=A
  have A:gX p:=⟨nm,xs,B,I,K,L⟩;have ⟨q,w,y⟩:=jA0 (wL A) x;obtain rfl:=qS.inj w;have u:f.cell (h.next,0)=some (yI0 3):=o1.cell 0;have M:f.cells (h.next,2) 2=some (.agg (lfc q)):=o1.cells (j:=2) (m:=2) (xD _);simp only [xX,xC,u,dA,qB,show pA 3 1=false from rfl,show pA 3 2=false from rfl,xB];have ⟨h',e,c⟩:=dA7 (N:=N) A y;rw [M,eA1,e,aA];exact ⟨h',rfl,c1.trans c⟩
end
end Qp
namespace Qp
def aI:∀ (ns:List Bs) (ag:List D),(cG ns ag).length=ag.length
 | _::ns,_::r=>by simp [cG,aI ns r]
 | [],_::r=>by simp [cG,aI [] r]
 | _::_,[]=>rfl
 | [],[]=>rfl
def kX:∀ (ns:List Bs) (ag:List D) (i:Nat) (hi:i<(cG ns ag).length) (f:i<ag.length),(cG ns ag)[i]=if h:i<ns.length then ns[i]++[58,32]++opX ag[i] else opX ag[i]
 | n::ns,o::r,0,_,_=>by simp [cG]
 | [],o::r,0,_,_=>by simp [cG]
 | n::ns,o::r,i+1,hi,f=>by
  simp only [cG,List.getElem_cons_succ,xJ,Nat.add_lt_add_iff_right];exact kX ns r i _ _
 | [],o::r,i+1,hi,f=>by
  simp only [cG,List.getElem_cons_succ,xZ,Nat.not_lt_zero,dite_false]
  have:=kX [] r i (by simpa [cG] using hi) (by simpa using f)
  simpa using this
 | _::_,[],_,_,f=>by simp at f
 | [],[],_,_,f=>by simp at f
def eB2 {ns:List Bs} {ag:List D} (r:∀ x∈ns,jE x=true) (j:uO 64 bG ag):∀ x∈cG ns ag,x.length<=3100:=by
 intro x h;obtain ⟨i,hi,rfl⟩:=List.mem_iff_getElem.1 h;have f:i<ag.length:=by rw [<- aI ns ag];exact hi
 rw [kX ns ag i hi f];have p:=eL (j.2 _ (xR f))
 grind [oI,xR]
def eA7 {ns:List Bs} {ag:List D} (h:∀ x∈ns,jE x=true) (f:uO 64 bG ag):(Qb.joinL (cG ns ag) [44,32]).length<=200000:=by
 have:=aM (sep:=[44,32]) (eB2 h f)
 rw [aI] at this;exact xT this (xT (Nat.mul_le_mul f.1 (xD _)) (by decide))
theorem yA7 (k:Int) (a b:D) (op:Int) (pl:D) (nm:Bs) (ns:List Bs) (ag:List D):vaX (vaD k a b op pl nm (ns.map D.s) ag)=if k=2 then [38]++plX pl else if k=3 then [38,109,117,116,32]++plX pl else if k=4 then [33]++opX a else if k=5 then opX a++cA7 op++opX b
  else if k=6 then nm++[40]++Qb.joinL (cG ns ag) [44,32]++[41]
  else if k=7 then nm++[32,123,32]++(if Qb.joinL (cG ns ag) [44,32]=[] then [] else Qb.joinL (cG ns ag) [44,32]++[32])++[125] else opX a:=by
 show (if k=2 then [38]++plX pl else if k=3 then [38,109,117,116,32]++plX pl else if k=4 then [33]++opX a else if k=5 then opX a++cA7 op++opX b
  else if k=6 then nm++[40]++Qb.joinL (cG (txS (ns.map D.s)) ag) [44,32]++[41]
  else if k=7 then nm++[32,123,32]++(if Qb.joinL (cG (txS (ns.map D.s)) ag) [44,32]=[] then [] else Qb.joinL (cG (txS (ns.map D.s)) ag) [44,32]++[32])++[125] else opX a)=_
 rw [fH]
section
variable {N:Nat} {h:Heap} {V:Nat->Prop}
def dB7 {h0:Heap} {P:Nat} {ns:List Bs} {ag:List D} (hn:∀ x∈ns,jE x=true) (S:uO 64 bG ag) {row:List AV} (oP:h0.own P row) {s1 s2:SL} (H:row[13]? = some (SL.av s1)) (X:Sl h0 V s1 (ns.map D.s)) (Y:Sl h0 V s2 ag) (pk:PK h0) :
  ∀ (M i:Nat) (out:SL) (h:Heap),i<=ag.length->ag.length-i<M->OwV (Fr0 h0) h out 1 (((cG ns ag).map D.s).take i)->Chg [] h0 h->∃ f h',bR N M (some (P,0)) out s2 (ag.length:Int) (i:Int) h=some (.exit 0,(some (P,0),f,()),h')/\OwV (Fr0 h0) h' f 1 ((cG ns ag).map D.s)/\Chg [] h0 h':=by
 have u:((cG ns ag).map D.s).length=ag.length:=by rw [xS,aI]
 have U:=S.1;have key:=qU (h0:=h0) (n:=1) (k:=0) (xs:=(cG ns ag).map D.s) (L:=fun M out i h=>bR N M (some (P,0)) out s2 (ag.length:Int) i h) (fin:=fun out=>(some (P,0),out,())) ?_ ?_
 ·grind
 ·intro M i hi out h R y
  rw [u] at hi;show ∃ f h',bR N (M+1) (some (P,0)) out s2 (ag.length:Int) (i:Int) h=bR N M (some (P,0)) f s2 (ag.length:Int) ((i+1:Nat):Int) h'/\_;rw [pA0];unfold jX;simp only [qC,hi,xO,xA];have C:=S.2 _ (xR hi);have x:=Y.chg y;have ⟨r,g,d⟩:=qS.elt x hi (tE C);rw [x.ix hi 4,g,qS.agg];have ⟨W,p5,Q,Z⟩:=qS.park (z:=opc (0,0,[],sl0,())) rfl h r;have B:∀ {β:Type} (K:Heap->Option β),vA ((h.push (.row yZH .own)).store (h.next,0) (yRD r)) K=K W:=p5;rw [B,qS.cells Z];have d5:=Dt.chg Q (by simp) d;have ⟨h6,e6,c6⟩:=vU (N:=N) C (pk.chg (y.trans Q)) d5;have p:=Q.trans c6;have a0:=eL C;show ∃ f h',(jA (f177 N r W) _)=_/\_;rw [e6,aA];have O:=oP.chg (y.trans p);have I:h6.cell (P,13)=some (yL s1):=by rw [O.cell 13,H];rfl
  have A:=X.chg (y.trans p);have l1:s1.len=ns.length:=by rw [X.len,xS]
  simp only [fA,xC,I,dA,qA];have w:i<(cG ns ag).length:=by grind
  have j:=kX ns ag i w hi;have J:ltInt (i:Int) (Int.ofNat s1.len)=decide (i<ns.length):=by rw [l1];exact qC i ns.length
  rw [J]
  by_cases q:i<ns.length
  ·rw [dif_pos q] at j
   have a1:=oI (hn _ (xR q));simp only [q,xO,xA];have F:∀ {β:Type} (K:Nat×Nat->Option β),ixK s1.a s1.len (i:Int) 1 K=K (s1.at i 1):=fun K=>A.ix (i:=i) (by grind) 1 K;rw [F,dA5 A q];simp only [dA,yA];rw [yC (by simp;omega)];simp only [dA,yA];rw [yC (by simp;omega)];simp only [dA,yA];have ⟨s',h',e',o',c'⟩:=tY w R y p (by grind) j.symm;rw [e',iB (by omega)]
   grind
  ·rw [dif_neg q] at j
   simp only [q,xQ,xB];have ⟨s',h',e',o',c'⟩:=tY w R y p (by grind) j.symm;rw [e',iB (by omega)]
   grind
 ·intro M out h
  rw [u];show bR N (M+1) (some (P,0)) out s2 (ag.length:Int) (ag.length:Int) h=_;rw [pA0];unfold jX;simp only [qC,Nat.lt_irrefl,xQ,xB]
def uY {d:D} (h:mayVa d):(vaX d).length<=300000:=by
 cases h with
 | op h=>rw [show ([]:List D)=([]:List Bs).map D.s from rfl,yA7];grind [xT,eL]
 | ref j h=>
  have:=uU h
  rw [show ([]:List D)=([]:List Bs).map D.s from rfl,yA7];rcases j with rfl | rfl <;> simp <;> omega
 | no h=>
  have:=eL h
  rw [show ([]:List D)=([]:List Bs).map D.s from rfl,yA7];simp;omega
 | bin u y j=>
  have:=eL u
  have:=eL y
  rw [show ([]:List D)=([]:List Bs).map D.s from rfl,yA7];rcases j with rfl | rfl | rfl | rfl <;> simp [cA7] <;> omega
 | call f h=>
  have p:=wK f;have r:=eA7 (ns:=[]) (by simp) h;rw [show ([]:List D)=([]:List Bs).map D.s from rfl,yA7];simp;omega
 | make f A w h=>
  have p:=wK f;have r:=eA7 w h;rw [yA7]
  grind
def fAr {H f:Heap} {A:Nat} {cs:List AV} (o:H.own A cs) (j:f.own A cs):rX (H.t.get A) (f.t.get A)=true:=by
 have r:H.t.get A=some (.row cs .own):=o.1;have p:f.t.get A=some (.row cs .own):=j.1;rw [r,p];show (eqV (.agg cs) (.agg cs)&&fBi .own .own)=true;rw [pL];rfl
def fB2 {d:D} (h:mayVa d):∃ (k:Int) (a b:D) (op:Int) (pl:D) (nm:Bs) (ns:List Bs) (ag:List D),d=vaD k a b op pl nm (ns.map D.s) ag/\isOp a/\isOp b/\isLf pl/\(∀ x∈ns,jE x=true)/\uO 64 bG ag/\nm.length<=66/\
  ((k=1/\bG a)\/(k=2/\gX pl)\/(k=3/\gX pl)\/(k=4/\bG a)\/(k=5/\bG a/\bG b/\(op=1\/op=2\/op=3\/op=4))\/k=6\/k=7):=by
 have f:isOp op0:=⟨0,0,pl0,rfl,[],[],rfl,by simp⟩;have j:isLf pl0:=⟨[],[],rfl,by simp⟩
 cases h with
 | op h=>exact ⟨1,_,_,_,_,_,[],[],rfl,tE h,f,j,by simp,⟨by simp,by simp⟩,by simp,.inl ⟨rfl,h⟩⟩
 | ref p h=>
  rcases p with rfl | rfl
  ·exact ⟨2,_,_,_,_,_,[],[],rfl,f,f,wL h,by simp,⟨by simp,by simp⟩,by simp,.inr (.inl ⟨rfl,h⟩)⟩
  ·exact ⟨3,_,_,_,_,_,[],[],rfl,f,f,wL h,by simp,⟨by simp,by simp⟩,by simp,.inr (.inr (.inl ⟨rfl,h⟩))⟩
 | no h=>exact ⟨4,_,_,_,_,_,[],[],rfl,tE h,f,j,by simp,⟨by simp,by simp⟩,by simp,.inr (.inr (.inr (.inl ⟨rfl,h⟩)))⟩
 | bin u w p=>exact ⟨5,_,_,_,_,_,[],[],rfl,tE u,tE w,j,by simp,⟨by simp,by simp⟩,by simp,.inr (.inr (.inr (.inr (.inl ⟨rfl,u,w,p⟩))))⟩
 | call r h=>exact ⟨6,_,_,_,_,_,[],_,rfl,f,f,j,by simp,h,wK r,.inr (.inr (.inr (.inr (.inr (.inl rfl)))))⟩
 | make r A y h=>exact ⟨7,_,_,_,_,_,_,_,rfl,f,f,j,y,h,wK r,.inr (.inr (.inr (.inr (.inr (.inr rfl)))))⟩
def pAe (hN:200<=N) {d:D} (hd:mayVa d) (pk:PK h) {r:VaV} (x:Dt h V d (vac r)):∃ h',f131 N r h=some (vaX d,h')/\Chg [] h h':=by
 have a4:=uY hd;obtain ⟨k,a,b,op,pl,nm,ns,ag,rfl,ta,tb,tp,Y,A,a6,hk⟩:=fB2 hd;unfold f131;have o1:=wA h (vac r);have c1:=uA h (.row (vac r) .own);have e1:h.push (.row (yRB r) .own)=h.push (.row (vac r) .own):=rfl;dsimp only;rw [e1];have x:=Dt.chg c1 (by simp) x;have pk:=pk.chg c1;generalize h.push (.row (vac r) .own)=h1 at *;have ⟨ra,f,O,s1,s2,hc,Z,xb,xp,x1,x2⟩:=gP ta tb tp x;have hr:r=nE k ra f op O nm s1 s2:=lA0 hc;subst hr;have a3:h1.cell (h.next,14)=some (yL s2):=o1.cell 14;simp only [xX,xC,a3,dA,qA];have ⟨out,H,e,ow,c⟩:=dB7 (N:=N) Y A o1 (s1:=s1) (s2:=s2) rfl x1 x2 pk N 0 ⟨none,0,0,0⟩ h1 (xc _) (by have:=A.1;omega) (OwV.nil _ _ _ _) (Chg.refl _ _);have e0:Int.ofNat s2.len=((ag.length:Nat):Int):=by rw [x2.len];rfl
 rw [show ((0:Nat):Int)=0 from rfl] at e;have es:(s2:SL)=s2:=rfl;rw [es,e0,e,mB];dsimp only;have hJ:=eA7 Y A;rw [nAa ow.sl (by rw [aI];have:=A.1;omega) (xT hJ (by decide)),aA];rw [yA7] at a4 ⊢;generalize Qb.joinL (cG ns ag) [44,32]=J at *;have I:=o1.chg c;have B:=pk.chg c;have Z:=Dt.chg c (by simp) Z;have xb:=Dt.chg c (by simp) xb;have xp:=Dt.chg c (by simp) xp;have M:=c1.trans c;have a2:∀ {G:Heap},G.own h.next (vac (nE k ra f op O nm s1 s2))->G.cell (h.next,0)=some (yI0 k):=fun o=>o.cell 0;have U:∀ {G:Heap},G.own h.next (vac (nE k ra f op O nm s1 s2))->G.cell (h.next,9)=some (yI0 op):=fun o=>o.cell 9;have p:∀ {G:Heap},G.own h.next (vac (nE k ra f op O nm s1 s2))->G.cell (h.next,12)=some (.str nm):=fun o=>o.cell 12;have u:∀ {G:Heap},G.own h.next (vac (nE k ra f op O nm s1 s2))->G.cells (h.next,1) 4=some (.agg (opc ra)):=fun o=>o.cells (j:=1) (m:=4) (show 1+4<=15 by decide);have R:∀ {G:Heap},G.own h.next (vac (nE k ra f op O nm s1 s2))->G.cells (h.next,5) 4=some (.agg (opc f)):=fun o=>o.cells (j:=5) (m:=4) (show 5+4<=15 by decide);have L:∀ {G:Heap},G.own h.next (vac (nE k ra f op O nm s1 s2))->G.cells (h.next,10) 2=some (.agg (lfc O)):=fun o=>o.cells (j:=10) (m:=2) (show 10+2<=15 by decide);simp only [fA,xC,a2 I,dA,qB];rcases hk with ⟨rfl,Q⟩ | ⟨rfl,hp⟩ | ⟨rfl,hp⟩ | ⟨rfl,Q⟩ | ⟨rfl,Q,hb,a5⟩ | rfl | rfl
 ·simp only [show pA 1 2=false from rfl,show pA 1 3=false from rfl,show pA 1 4=false from rfl,show pA 1 5=false from rfl,show pA 1 6=false from rfl,show pA 1 7=false from rfl,xB]
  have ⟨h',e',W⟩:=vU (N:=N) Q B Z;rw [u I,kY];show ∃ h',(jA (f177 N ra H) _)=_/\_;rw [e',aA];exact ⟨h',rfl,M.trans W⟩
 ·simp only [show pA 2 2=true from rfl,xA,xM]
  have ⟨h',e',W⟩:=dA7 (N:=N) hp xp
  have:=uU hp
  rw [L I,eA1,e',aA,yC (by simp;omega)];exact ⟨h',rfl,M.trans W⟩
 ·simp only [show pA 3 2=false from rfl,show pA 3 3=true from rfl,xB,xA,show ¬ (3:Int)=2 from by decide,xL,xM]
  have ⟨h',e',W⟩:=dA7 (N:=N) hp xp
  have:=uU hp
  rw [L I,eA1,e',aA,yC (by simp;omega)];exact ⟨h',rfl,M.trans W⟩
 ·simp only [show pA 4 2=false from rfl,show pA 4 3=false from rfl,show pA 4 4=true from rfl,xB,xA,show ¬ (4:Int)=2 from by decide,show ¬ (4:Int)=3 from by decide,xL,xM]
  have ⟨h',e',W⟩:=vU (N:=N) Q B Z
  have:=eL Q
  rw [u I,kY];show ∃ h',(jA (f177 N ra H) _)=_/\_;rw [e',aA,yC (by simp;omega)];exact ⟨h',rfl,M.trans W⟩
 ·simp only [show pA 5 2=false from rfl,show pA 5 3=false from rfl,show pA 5 4=false from rfl,show pA 5 5=true from rfl,xB,xA,show ¬ (5:Int)=2 from by decide,show ¬ (5:Int)=3 from by decide,show ¬ (5:Int)=4 from by decide,xL,xM]
  have la:=eL Q;have lb:=eL hb;have o4:=wA H [.str [32,43,32],.str [32,45,32],.str [32,60,32],.str [32,61,61,32]];have X:=uA H (.row [.str [32,43,32],.str [32,45,32],.str [32,60,32],.str [32,61,61,32]] .own);generalize H.push (.row [.str [32,43,32],.str [32,45,32],.str [32,60,32],.str [32,61,61,32]] .own)=H4 at *;have C:=I.chg X;have ⟨H5,e5,c5⟩:=vU (N:=N) Q (B.chg X) (Dt.chg X (by simp) Z);rw [u C,kY];show ∃ h',(jA (f177 N ra H4) _)=_/\_;rw [e5,aA];have w:=C.chg c5;have F:=o4.chg c5;rw [U w];simp only [dA,qB];obtain ⟨j,sx,hj,hs,hw⟩:∃ (j:Nat) (sx:Bs),j<4/\[AV.str [32,43,32],.str [32,45,32],.str [32,60,32],.str [32,61,61,32]][j]? = some (.str sx)/\fB .i64 (op-1)=(j:Int)/\sx=cA7 op:=by
   rcases a5 with rfl | rfl | rfl | rfl
   ·exact ⟨0,_,by decide,rfl,by decide,rfl⟩
   ·exact ⟨1,_,by decide,rfl,by decide,rfl⟩
   ·exact ⟨2,_,by decide,rfl,by decide,rfl⟩
   ·exact ⟨3,_,by decide,rfl,by decide,rfl⟩
  obtain ⟨hw,rfl⟩:=hw;have a7:(cA7 op).length<=4:=by
   grind
  rw [hw];have a1:∀ {β:Type} (K:Nat×Nat->Option β),ixK (some (H.next,0)) 4 (j:Int) 1 K=K (H.next,j):=fun K=>by
   show (bif Nat.blt j 4 then vA (some (H.next,0)) fun q=>K (q.1,q.2+j * 1) else none)=_;rw [show Nat.blt j 4=true from by rw [Nat.blt_eq];exact hj,xA,fA];simp
  have r5:∀ {G:Heap},G.own H.next [AV.str [32,43,32],.str [32,45,32],.str [32,60,32],.str [32,61,61,32]]->G.cell (H.next,j)=some (.str (cA7 op)):=fun o=>by rw [o.cell j];exact hs
  rw [a1,r5 F];simp only [dA,yA];rw [yC (by omega)];simp only [dA,yA];have ⟨H6,e6,c6⟩:=vU (N:=N) hb ((B.chg X).chg c5) (Dt.chg c5 (by simp) (Dt.chg X (by simp) xb));rw [R w,kY];show ∃ h',(jA (f177 N f H5) _)=_/\_;rw [e6,aA,yC (by simp;omega)];have S:=w.chg c6;have a0:=F.chg c6;have sa:jB (some (.agg (opc ra))) (.agg (yRD ra))=true:=eG _;have sb:jB (some (.agg (opc f))) (.agg (yRD f))=true:=eG _;simp only [dA,yA,R C,R S,u w,u S,U C,U S,r5 o4,r5 a0,sa,sb,jC,xA,yB,fAr a0 F,fAr F o4,Bool.and_self];exact ⟨H6,rfl,M.trans (X.trans (c5.trans c6))⟩
 ·simp only [show pA 6 2=false from rfl,show pA 6 3=false from rfl,show pA 6 4=false from rfl,show pA 6 5=false from rfl,show pA 6 6=true from rfl,xB,xA,show ¬ (6:Int)=2 from by decide,show ¬ (6:Int)=3 from by decide,show ¬ (6:Int)=4 from by decide,show ¬ (6:Int)=5 from by decide,xL,xM,p I,dA,yA]
  rw [yC (by simp;omega)];simp only [dA,yA];rw [yC (by simp;omega)];simp only [dA,yA];rw [yC (by simp;omega)];exact ⟨H,rfl,M⟩
 ·simp only [show pA 7 2=false from rfl,show pA 7 3=false from rfl,show pA 7 4=false from rfl,show pA 7 5=false from rfl,show pA 7 6=false from rfl,show pA 7 7=true from rfl,xB,xA,show ¬ (7:Int)=2 from by decide,show ¬ (7:Int)=3 from by decide,show ¬ (7:Int)=4 from by decide,show ¬ (7:Int)=5 from by decide,show ¬ (7:Int)=6 from by decide,xL,xM]
  cases J with
  | nil=>
   simp only [show (!bB [] [])=false from rfl,xB,p I,dA,yA,xM];rw [yC (by simp;omega)];simp only [dA,yA];rw [yC (by simp;omega)];simp only [dA,yA];rw [yC (by simp;omega)];exact ⟨H,rfl,M⟩
  | cons y t=>
   simp only [show (!bB (y::t) [])=true from rfl,xA,reduceCtorEq,xL];rw [yC (by simp at hJ ⊢;omega)];simp only [dA,yA,p I];rw [yC (by simp;omega)];simp only [dA,yA];rw [yC (by simp at hJ ⊢;omega)];simp only [dA,yA];rw [yC (by simp at hJ ⊢;omega)];exact ⟨H,rfl,M⟩
end
end Qp
namespace Qp
def kBg:E.und 80=some (.pointer 83):=by kernel_rfl
def rB9:E.und 189=some .unsafePointer:=by kernel_rfl
def oBp:E.und 144=some (.pointer 5):=by kernel_rfl
def pBp:E.und 9=some .string:=by kernel_rfl
def gB2:E.size 83=some 2:=by kernel_rfl
def qBp:E.size 85=some 2:=by kernel_rfl
def lBu:E.size 5=some 1:=by kernel_rfl
def rBp:E.lies 85 0 83=true:=by kernel_rfl
def mBu:AppN E 81 5 1 10:=AppN.of (by kernel_rfl)
structure PrB (h:Heap) (A:Nat) (b:Bs) (s:SL):Prop where
 row:∃ q,h.t.get A=some (.row [.ptr q,SL.av s] (.ty 85))/\(q=none\/q=some (A,0))
 lt:A<h.next
 buf:(s=⟨none,0,0,0⟩/\b=[])\/∃ B,s=⟨some (B,0),b.length,b.length,1⟩/\B<h.next/\B≠A/\h.t.get B=some (.row (ofBytes b) (.bytes 5))/\0<b.length
section
variable {N:Nat} {h h':Heap} {A:Nat} {b x:Bs} {s:SL}
theorem PrB.chg {M:List Nat} (p:PrB h A b s) (c:Chg M h h') (y:A ∉ M) (C:∀ B,s.blk=some B->B ∉ M:=by simp):PrB h' A b s:=by
 refine ⟨?_,xW p.lt c.next,?_⟩
 ·have ⟨q,f,j⟩:=p.row
  exact ⟨q,(c.g A p.lt y).trans f,j⟩
 ·rcases p.buf with f | ⟨B,f,j,r,w,u⟩
  ·exact .inl f
  ·exact .inr ⟨B,f,xW j c.next,r,(c.g B j (C B (by rw [f];rfl))).trans w,u⟩
def PrB.len (p:PrB h A b s):s.len=b.length:=by
 rcases p.buf with ⟨rfl,rfl⟩ | ⟨B,rfl,_⟩ <;> rfl
theorem PrB.cell (p:PrB h A b s):h.cell (A,1)=some (yL s):=by
 have ⟨q,f,_⟩:=p.row;simp only [Heap.cell,Heap.row,f];rfl
def iB2 (p:PrB h A b s):f43 N (some (A,0)) h=some ((b.length:Int),h):=by
 unfold f43;simp only [fA,xC,p.cell,dA,qA,p.len];rfl
def jB2 (q:zH3) {β:Type} (K:zH3->Option β):iA (.val zI3) (some (.ptr q)) K=K q:=rfl
def fAj (q:zH3) (h:Heap) {β:Type} (K:zH3->Heap->Option β):tD (.val zI3) (some (.ptr q,h)) K=K q h:=rfl
def kB2 (v:AV) (h:Heap) {β:Type} (K:AV->Heap->Option β):tD (.val zN3) (some (v,h)) K=K v h:=rfl
def eB7 (b:Bool) {β:Type} (K:Bool->Option β):iA (.val zL3) (some (.bool b)) K=K b:=rfl
def fB7 {cs:List AV} (j:h.row A=some cs) (f:0<cs.length):lX E 80 189 (.ptr (some (A,0))) h=some (.ptr (some (A,0)),h):=by
 have p:Nat.blt 0 cs.length=true:=by rw [Nat.blt_eq];exact f
 unfold lX;simp only [kBg,rB9,j,gB2,p,xA]
def lBg {cs:List AV} (j:h.t.get A=some (.row cs (.ty 85))) (f:cs.length=2):lX E 189 80 (.ptr (some (A,0))) h=some (.ptr (some (A,0)),h):=by
 have p:Nat.beq cs.length (1+1)=true:=by rw [f];rfl
 unfold lX;simp only [kBg,rB9,j,gB2,qBp,p,rBp,Bool.and_self,xA]
def mBg (p:PrB h A b s):∃ h',f127 N (some (A,0)) h=some ((),h')/\PrB h' A b s/\Chg [A] h h'/\h'.next=h.next:=by
 have ⟨q,r,H⟩:=p.row;have f:h.row A=some [.ptr q,SL.av s]:=by simp only [Heap.row,r]
 have K:h.cell (A,0)=some (.ptr q):=by simp only [Heap.cell,f];rfl
 unfold f127;simp only [fA,xX,K,jB2];rcases H with rfl | rfl
 ·simp only [Option.isNone_none,xA]
  rw [fB7 f (by simp),kB2,show f175 N (.ptr (some (A,0))) h=some (.ptr (some (A,0)),h) from rfl,aA,lBg r rfl,fAj];have u:h.store (A,0) [.ptr (some (A,0))]=some (h.put A (.row [.ptr (some (A,0)),SL.av s] (.ty 85))):=by
   simp only [Heap.store,Heap.rowW,r];rfl
  rw [u,fA];have c:Chg [A] h (h.put A (.row [.ptr (some (A,0)),SL.av s] (.ty 85))):=(Chg.refl [A] h).put (.inl (by simp)) _;refine ⟨_,rfl,⟨⟨some (A,0),jN _ rfl,.inr rfl⟩,p.lt,?_⟩,c,rfl⟩;rcases p.buf with j | ⟨B,j,w,y,L,F⟩
  ·exact .inl j
  ·exact .inr ⟨B,j,w,y,(c.g B w (by simpa using y)).trans L,F⟩
 ·simp only [Option.isNone_some,xB]
  have J:tM E .neq 80 (.tmp 17) (.tmp 18) (.ptr (some (A,0))) (.ptr (some (A,0)))=some (.bool false):=by
   have C:eqA E 9 80 (.ptr (some (A,0))) (.ptr (some (A,0)))=some true:=by
    unfold eqA;simp only [kBg,gB2];simp [dAs]
   show bBi E .neq 80 (.tmp 17) (.tmp 18) (.ptr (some (A,0))) (.ptr (some (A,0)))=_;have I:rB3 E 80 (.tmp 17) (.tmp 18) (.ptr (some (A,0))) (.ptr (some (A,0)))=some true:=by simp only [rB3,pAv,xA,C]
   simp only [bBi,I,xV]
  rw [J,eB7];exact ⟨h,rfl,p,Chg.refl _ _,rfl⟩
def fA7:∀ (a c:Bs),ofBytes (a++c)=ofBytes a++ofBytes c
 | [],c=>rfl
 | x::r,c=>by simp only [List.cons_append,ofBytes,fA7 r c]
def oT:∀ (a:Bs),(ofBytes a).all AV.single=true
 | []=>rfl
 | x::r=>by simp only [ofBytes,List.all_cons,oT r,Bool.and_true];rfl
def lB2 (p:PrB h A b s) (hx:b.length+x.length<=100000000):∃ (r:SL) (u:Heap),nB E 81 9 (yL s) (.str x) h=some (.slice r.a r.len r.cap r.sz,u)/\u.t.get A=h.t.get A/\A<u.next/\
  ((r=⟨none,0,0,0⟩/\b++x=[])\/∃ B,r=⟨some (B,0),(b++x).length,(b++x).length,1⟩/\B<u.next/\B≠A/\u.t.get B=some (.row (ofBytes (b++x)) (.bytes 5))/\0<(b++x).length)/\Chg s.blk.toList h u/\(∀ B,r.blk=some B->s.blk=some B\/h.next<=B):=by
 have ⟨S,⟨i,hi,w,a0⟩,⟨z,W,R⟩⟩:=mBu;have O:=p.lt;have f:yD h 1 x.length (.str x)=some (ofBytes x):=by grind [yD,List.take_length]
 by_cases V:x=[]
 ·subst V
  refine ⟨s,h,?_,rfl,O,?_,(Chg.refl [] h).mono (by simp),fun B C=>.inl C⟩
  ·have K:yD h 1 0 (.str [])=some []:=rfl
   simp only [nB,pBp,S,wS,bZ,xB,hi,W,iM,xZ,w,K,show Nat.beq 0 0=true from rfl,xA]
  ·rw [List.append_nil]
   rcases p.buf with F | ⟨B,F,Z,U,Y,h5⟩
   ·exact .inl F
   grind
 have y:0<x.length:=List.length_pos_iff.2 V;have I:Nat.beq x.length 0=false:=by
  grind [Nat.beq,xK]
 have X:=p.len;have j:Nat.ble ((s.len+x.length) * (i.bytes+1+1)) bA3=true:=by
  have F:(s.len+x.length) * (i.bytes+1+1)<=(s.len+x.length) * 10:=Nat.mul_le_mul (xD _) (by omega);simp only [bA3,Nat.ble_eq];omega
 have H:Nat.beq z.cells.length 1=true:=by rw [R];rfl
 have L:Nat.beq (ofBytes x).length (x.length * 1)=true:=by rw [lH,Nat.mul_one];exact Nat.beq_refl _
 have M:(Nat.beq s.sz 1||s.a.isNone)=true:=by
  rcases p.buf with ⟨rfl,_⟩ | ⟨B,rfl,_⟩ <;> rfl
 have key:nB E 81 9 (yL s) (.str x) h=growB 5 h s.a s.len s.cap 1 x.length (ofBytes x):=by
  simp only [nB,pBp,S,wS,bZ,xB,hi,W,iM];simp only [w,f,I,xB,j,M,H,L,oT,Bool.and_self,xA]
 rw [key];rcases p.buf with ⟨rfl,rfl⟩ | ⟨B,rfl,Z,U,Y,h5⟩
 ·refine ⟨⟨some (h.next,0),([]++x).length,([]++x).length,1⟩,h.push (.row (ofBytes x) (.bytes 5)),?_,aQ (A:=A) _ (by omega),Nat.lt_succ_of_lt O,.inr ⟨h.next,rfl,xP _,by omega,iG _ rfl,by simpa using y⟩,((Chg.refl [] h).push _).mono (by simp),fun B C=>.inr ?_⟩
  ·simp only [growB,xC,List.nil_append]
  ·have J:some h.next=some B:=C
   grind
 ·have Q:takeN (b.length * 1) ((ofBytes b).drop 0)=some (ofBytes b):=by
   rw [List.drop_zero,Nat.mul_one,iI _ _ (by rw [lH];exact xD _),List.take_of_length_le (by rw [lH];exact xD _)]
  have c1:Chg [B] h (h.put B (.row (ofBytes b) .dead)):=(Chg.refl [B] h).put (.inl (by simp)) _;refine ⟨⟨some (h.next,0),(b++x).length,(b++x).length,1⟩,(h.put B (.row (ofBytes b) .dead)).push (.row (ofBytes (b++x)) (.bytes 5)),?_,?_,Nat.lt_succ_of_lt O,.inr ⟨h.next,rfl,xP _,by omega,iG (h:=h.put B (.row (ofBytes b) .dead)) _ rfl,by grind⟩,c1.push _,fun B' C=>.inr ?_⟩
  ·have hb:(Nat.beq 5 5&&Nat.beq 0 0)=true:=rfl
   simp only [growB,Y,hb,xA,Q,fA7,xN]
  ·have e1:((h.put B (.row (ofBytes b) .dead)).push (.row (ofBytes (b++x)) (.bytes 5))).g A=(h.put B (.row (ofBytes b) .dead)).g A:=aQ _ (by show A≠h.next;omega)
   exact e1.trans (gAp _ (fun e=>U e.symm))
  ·have J:some h.next=some B':=C
   grind
def tBp (p:PrB h A b s) (S:b.length+x.length<=100000000):∃ j h' r,f81 N (some (A,0)) x h=some (r,h')/\PrB h' A (b++x) j/\Chg (A::s.blk.toList) h h'/\(∀ B,j.blk=some B->s.blk=some B\/h.next<=B):=by
 unfold f81;have ⟨F,V,w,W,Y⟩:=mBg (N:=N) p;have ⟨j,f,M,X,O,bf,L,nb⟩:=lB2 w S;rw [V,aA];simp only [fA,xC,w.cell,dA,qA];rw [M];simp only [rF,qA];have ⟨q,U,R⟩:=w.row;have y:f.store (A,1) [(yL j)]=some (f.put A (.row [.ptr q,SL.av j] (.ty 85))):=by
  simp only [Heap.store,Heap.rowW,X,U];rfl
 rw [y,fA];have I:Chg [A] f (f.put A (.row [.ptr q,SL.av j] (.ty 85))):=(Chg.refl [A] f).put (.inl (by simp)) _;refine ⟨j,_,_,rfl,⟨⟨q,jN _ rfl,R⟩,O,?_⟩,?_,fun B C=>(nb B C).imp id fun h=>by omega⟩
 ·rcases bf with u | ⟨B,u,H,J,Q,K⟩
  ·exact .inl u
  ·exact .inr ⟨B,u,H,J,(I.g B H (by simpa using J)).trans Q,K⟩
 ·have a:Chg (A::s.blk.toList) h F:=W.mono (by simp)
  have b:Chg (A::s.blk.toList) F f:=L.mono (fun B C=>xe _ C);have d:Chg (A::s.blk.toList) f (f.put A (.row [.ptr q,SL.av j] (.ty 85))):=I.mono (by simp);exact (a.trans b).trans d
end
def Lim (b t:Bs):Prop:=b.length<=2000000/\((t.length<=1048576/\b=t)\/(1048576<t.length/\1048576<b.length))
def PQ (h0 h:Heap) (A:Nat) (t:Bs) (s:SL):Prop:=∃ b,PrB h A b s/\(∀ B,s.blk=some B->h0.next<=B)/\h0.next<=A/\Chg [] h0 h/\Lim b t
def Put (h0 h:Heap) (A:Nat) (s:SL) (h':Heap) (j:Bs):Prop:=∃ f,PQ h0 h' A j f/\Chg (A::s.blk.toList) h h'/\∀ B,f.blk=some B->s.blk=some B\/h.next<=B
def nBg {s:SL} {B:Nat} (h:B∈s.blk.toList):s.blk=some B:=by
 grind
section
variable {N:Nat} {h0 h h1 h2:Heap} {A:Nat} {t t1 t2:Bs} {s s1:SL}
theorem PQ.chg (p:PQ h0 h A t s) (c:Chg [] h h1):PQ h0 h1 A t s:=by
 have ⟨b,p,f,r,j,l⟩:=p;exact ⟨b,p.chg c (by simp),f,r,j.trans c,l⟩
def PQ.base (p:PQ h0 h A t s):Chg [] h0 h:=by have ⟨b,p,j,r,f,l⟩:=p;exact f
def PQ.lt (p:PQ h0 h A t s):A<h.next/\∀ B,s.blk=some B->B<h.next:=by
 have ⟨b,p,r,w,u,l⟩:=p;refine ⟨p.lt,fun B f=>?_⟩;rcases p.buf with ⟨rfl,_⟩ | ⟨j,rfl,h2,_⟩
 ·cases f
 ·have:some j=some B:=f
  grind
def PQ.out (p:PQ h0 h A t s) {P:Nat} (hP:h.next<=P):P ∉ A::s.blk.toList:=fun f=>by
 have:=p.lt
 grind
def PQ.same (p:PQ h0 h A t s):Put h0 h A s h t:=⟨s,p,(Chg.refl [] h).mono (by simp),fun B f=>.inl f⟩
def Put.pre (c:Chg [] h h1) (x:Put h0 h1 A s h2 t2):Put h0 h A s h2 t2:=by
 have ⟨j,p,f,r⟩:=x;exact ⟨j,p,(c.mono (by simp)).trans f,fun B u=>(r B u).imp id fun h=>xT c.next h⟩
def Put.trans' {j:SL} (p:PQ h0 h1 A t1 j) (r:Chg (A::s.blk.toList) h h1) (F:∀ B,j.blk=some B->s.blk=some B\/h.next<=B) (y:Put h0 h1 A j h2 t2):Put h0 h A s h2 t2:=by
 have ⟨s2,w,u,f⟩:=y;refine ⟨s2,w,r.step u fun X I C=>?_,fun B H=>?_⟩
 ·grind
 ·rcases f B H with h1 | h1
  ·exact F B h1
  ·exact .inr (xT r.next h1)
def Lim.over {b t:Bs} (l:Lim b t) (h:1048576<b.length) (x:Bs):Lim b (t++x):=by
 have ⟨f,j⟩:=l;refine ⟨f,.inr ⟨?_,h⟩⟩
 grind
def gB7 {L:Nat} {xs:List Bs} (I:∀ x∈xs,x.length<=900000) (hl:xs.length<=100):∀ (M i:Nat) (h:Heap) (t b:Bs) (s:SL),i<=xs.length->xs.length-i<M->PrB h A b s->(∀ B,s.blk=some B->h0.next<=B/\B≠L)->h0.next<=A->A≠L->h.own L (xs.map AV.str)->Chg [] h0 h->Lim b t->
  ∃ h',cAj N M (some (A,0)) ⟨some (L,0),xs.length,xs.length,1⟩ (xs.length:Int) (i:Int) h=some (.exit 0,(),h')/\Put h0 h A s h' (t++(xs.drop i).flatten):=by
 intro M
 induction M with
 | zero=>grind
 | succ M S=>
  intro i h t b s hi hM p J F R o c l;rw [rAn];unfold kAe;simp only [qC]
  by_cases q:i<xs.length
  ·simp only [q,xO,xA]
   have H:∀ {β:Type} (K:Nat×Nat->Option β),ixK (some (L,0)) xs.length (i:Int) 1 K=K (L,i):=fun K=>by
    show (bif Nat.blt i xs.length then vA (some (L,0)) fun q=>K (q.1,q.2+i * 1) else none)=_;rw [show Nat.blt i xs.length=true from by rw [Nat.blt_eq];exact q,xA,fA];simp
   have hc:h.cell (L,i)=some (.str xs[i]):=by rw [o.cell i,List.getElem?_map,List.getElem?_eq_getElem q];rfl
   rw [H,hc];simp only [dA,yA,fA,xX];rw [iB2 p,aA];have Q:cD (b.length:Int) 1048576=decide (b.length<=1048576):=by
    grind [leI,decide_eq_true,decide_eq_false]
   rw [Q];have j:(xs.drop i).flatten=xs[i]++(xs.drop (i+1)).flatten:=by rw [List.drop_eq_getElem_cons q,List.flatten_cons]
   have hw:=I _ (xR q);rw [j,<- xY]
   by_cases W:b.length<=1048576
   ·have w:t.length<=1048576/\b=t:=by
     rcases l.2 with h1 | ⟨_,h1⟩
     ·exact h1
     ·omega
    obtain ⟨w,rfl⟩:=w;have ⟨X,h2,r,e2,V,O,nb⟩:=tBp (N:=N) (x:=xs[i]) p (by omega);simp only [W,xO,xA];rw [e2,aA,iB (by omega)];have Y:∀ B,B∈A::s.blk.toList->h0.next<=B/\B≠L:=fun B f=>by
     grind
    have oL:=o.2;have C:∀ B,X.blk=some B->h0.next<=B/\B≠L:=fun B f=>by
     rcases nb B f with h1 | h1
     ·exact J B h1
     ·exact ⟨xT c.next h1,by omega⟩
    have u:Chg [] h0 h2:=c.step O fun B f a0=>by grind
    have U:Lim (b++xs[i]) (b++xs[i]):=⟨by grind,by
     grind⟩
    have ⟨h',e',y⟩:=S (i+1) h2 (b++xs[i]) (b++xs[i]) X q (by omega) V C F R (o.chg O fun f=>(Y L f).2 rfl) u U;exact ⟨h',e',Put.trans' ⟨_,V,fun B f=>(C B f).1,F,u,U⟩ O nb y⟩
   ·simp only [W,xQ,xB]
    rw [iB (by omega)];exact S (i+1) h (t++xs[i]) b s q (by omega) p J F R o c (l.over (by omega) _)
  ·simp only [q,xQ,xB]
   have:xs.drop i=[]:=List.drop_eq_nil_of_le (by omega)
   rw [this];have Z:PQ h0 h A (t++([]:List Bs).flatten) s:=⟨b,p,fun B f=>(J B f).1,F,c,by grind⟩;exact ⟨h,rfl,Z.same⟩
def pI (H:200<=N) (p:PQ h0 h A t s) {xs:List Bs} (f:∀ x∈xs,x.length<=900000) (r:xs.length<=100) {n:Nat} (j:n=xs.length) {row:List AV} (w:row=xs.map AV.str) :
  ∃ h',f39 N (some (A,0)) ⟨some (h.next,0),n,n,1⟩ (h.push (.row row .own))=some ((),h')/\Put h0 h A s h' (t++xs.flatten):=by
 subst j w;have C:=p.lt;have ⟨b,p,y,u,c,l⟩:=p;have o:=wA h (xs.map AV.str);have c1:=uA h (.row (xs.map AV.str) .own);have ⟨h',e,q⟩:=gB7 (N:=N) (h0:=h0) f r N 0 (h.push (.row (xs.map AV.str) .own)) t b s (xc _) (by omega) (p.chg c1 (by simp)) (fun B F=>⟨y B F,by grind⟩) u (by omega) o (c.trans c1) l;rw [List.drop_zero] at q;rw [show ((0:Nat):Int)=0 from rfl] at e;unfold f39;have e':cAj N N (some (A,0)) ⟨some (h.next,0),xs.length,xs.length,1⟩ (Int.ofNat xs.length) 0 (h.push (.row (xs.map AV.str) .own))=some (.exit 0,(),h'):=e;dsimp only;rw [e'];exact ⟨h',rfl,q.pre c1⟩
def mB2 (f:200<=N) (p:PQ h0 h A t s) {k:Nat} (r:k<=1000):∃ h',f82 N (some (A,0)) (k:Int) h=some ((),h')/\Put h0 h A s h' (t++Lib.repeatL [9] k):=by
 unfold f82;have j:f128 N [9] (k:Int) h=some (Lib.repeatL [9] k,h):=by
  unfold f128 Qb.repF;have u:(Nat.ble k 9223372036854775807&&Nat.ble (([9]:Bs).length * k) 140737488355328)=true:=by
   rw [xG,Nat.ble_eq,Nat.ble_eq];simp;omega
  grind
 rw [j,aA];have ⟨h',e,q⟩:=pI f p (xs:=[Lib.repeatL [9] k]) (fun x w=>by grind [List.mem_singleton,Lib.repeatL_length]) (by simp) (n:=1) rfl (row:=[.str (Lib.repeatL [9] k)]) rfl;dsimp only;rw [e,aA];refine ⟨h',rfl,?_⟩;simpa using q
end
end Qp
namespace Qp
def qAj (m:Bool) (nm:Bs) (ty:D) (f:Bool) (va:D):Bs:=(if m=true then [108,101,116,32,109,117,116,32] else [108,101,116,32])++nm++[58,32]++tyX 64 ty++(if f=true then [32,61,32]++vaX va else [])++[59]
section
variable {N:Nat} {h:Heap} {V:Nat->Prop}
def gAr {j:Bool} {va:D} (f:jB9 j va):(if j=true then [32,61,32]++vaX va else []).length<=300003:=by
 rcases f with ⟨rfl,f⟩ | ⟨rfl,rfl⟩
 ·have:=uY f;simp;omega
 ·simp
def iB7 {m:Bool} {nm:Bs} {ty:D} {f:Bool} {va:D} (r:jE nm=true) (p:lL 64 ty) (j:jB9 f va):(qAj m nm ty f va).length<=400000:=by
 have u:=oI r;have w:=rY p;have y:=gAr j;unfold qAj;cases m <;> simp only [xN,xJ,xZ,xM,xL,xE] <;> omega
def oBg (J:200<=N) (f:SmR) {ty va:D} (O:jE f.nm=true) (I:lL 64 ty) (p:jB9 f.has va) (y:PK h) (B:Dt h V ty (tyc f.ty)) (C:Dt h V va (vac f.va)):∃ h',f129 N (smv f) h=some (qAj f.m f.nm ty f.has va,h')/\Chg [] h h':=by
 have l1:=oI O;have l2:=rY I;have l3:=gAr p;unfold f129;have o:=wA h (smc f);have c:=uA h (.row (smc f) .own);have L:h.push (.row (yRA (smv f)) .own)=h.push (.row (smc f) .own):=rfl;dsimp only;rw [L];have y:=y.chg c;have B:=Dt.chg c (by simp) B;have C:=Dt.chg c (by simp) C;generalize h.push (.row (smc f) .own)=H at *;have K:H.cell (h.next,2)=some (.bool f.m):=o.cell 2;have M:H.cell (h.next,3)=some (.str f.nm):=o.cell 3;have S:H.cells (h.next,4) 4=some (.agg (tyc f.ty)):=o.cells (j:=4) (m:=4) (show 4+4<=32 by decide);have ⟨H2,X,u⟩:=oAe I (by omega:100<=N) B;have o2:=o.chg u;have R:H2.cell (h.next,3)=some (.str f.nm):=o2.cell 3;have U:H2.cell (h.next,8)=some (.bool f.has):=o2.cell 8;have w:H2.cells (h.next,11) 15=some (.agg (vac f.va)):=o2.cells (j:=11) (m:=15) (show 11+15<=32 by decide);have pre:(jA (α:=zP1) (β:=Bs×Heap) (bif f.m then some ((some (h.next,0),[108,101,116,32,109,117,116,32],()),H) else some ((some (h.next,0),[108,101,116,32],()),H)))=jA (α:=zP1) (some ((some (h.next,0),(if f.m=true then [108,101,116,32,109,117,116,32] else [108,101,116,32]),()),H)):=by
  cases f.m <;> rfl
 simp only [xC,K,dA,aC];rw [pre];have lp:(if f.m=true then [108,101,116,32,109,117,116,32] else [108,101,116,32]:Bs).length<=8:=by cases f.m <;> simp
 have Z:qAj f.m f.nm ty f.has va=(if f.m=true then [108,101,116,32,109,117,116,32] else [108,101,116,32])++f.nm++[58,32]++tyX 64 ty++(if f.has=true then [32,61,32]++vaX va else [])++[59]:=rfl;rw [Z];generalize (if f.m=true then [108,101,116,32,109,117,116,32] else [108,101,116,32]:Bs)=P at *;simp only [aA,fA,M,dA,yA];rw [yC (by omega)];simp only [dA,yA];rw [yC (by simp;omega)];simp only [dA,yA];rw [S,vZ];show ∃ h',(jA (f36 N N f.ty H) _)=_/\_;rw [X,aA,yC (by simp;omega)];have Y:jB (some (.agg (tyc f.ty))) (.agg (yRE f.ty))=true:=eG _;simp only [dA,yA,Y,R,jC,xA,yB,U,aC]
 cases W:f.has with
 | false=>
  simp only [xB,aA,xE,xL,List.append_nil];rw [yC (by simp;omega)];exact ⟨H2,rfl,c.trans u⟩
 | true=>
  rw [W] at p;have r:mayVa va:=by
   rcases p with ⟨_,p⟩ | ⟨p,_⟩
   ·exact p
   ·cases p
  have l4:=uY r;simp only [xA,xM];rw [yC (by simp;omega)];simp only [dA,yA];rw [w,fAf];have ⟨F,e3,Q⟩:=pAe J r (y.chg u) (Dt.chg u (by simp) C);have A:f131 N (tV f.va) H2=some (vaX va,F):=e3;rw [A,aA,yC (by simp;omega)];simp only [dA,yA,aA];rw [yC (by simp;omega)];simp only [dA,yA];refine ⟨F,?_,(c.trans u).trans Q⟩;simp
end
def lfX:D->Bs
 | .t [.s nm,.l f]=>[39]++nm++(match f with | []=>[] | _::_=>[58,32,39]++Qb.joinL (txS f) [32,43,32,39])
 | _=>[]
def gAf (lv:List D):Bs:=match lv with
 | []=>[]
 | _::_=>[60]++Qb.joinL (lv.map lfX) [44,32]++[62]
def bI:D->Int
 | .t (.i k::_)=>k
 | _=>0
def vY (pub:Bool) (nm:Bs) (lv ps:List D) (ty:D):Bs:=(if pub=true then [112,117,98,32] else [])++[102,110,32]++nm++gAf lv++[40]++uM ps++[41]++(if bI ty=0 then [] else [32,45,62,32]++tyX 64 ty)
section
variable {N:Nat} {h:Heap} {V:Nat->Prop}
def gAj {xs:List Bs} (h:qB6 64 xs):(Qb.joinL xs [32,43,32,39]).length<=2400:=by
 have:=aM (B:=32) (l:=xs) (sep:=[32,43,32,39]) fun x f=>(kE (h.2 x f)).2
 exact xT this (xT (Nat.mul_le_mul h.1 (xD _)) (by decide))
def pBg {d:D} (h:rS d):(lfX d).length<=2500:=by
 obtain ⟨nm,xs,rfl,j,p⟩:=h;have u:=(kE j).2;have f:=gAj p
 cases xs with
 | nil=>
  have e:lfX (eF nm (([]:List Bs).map D.s))=[39]++nm++[]:=rfl;rw [e];simp;omega
 | cons y r=>
  have e:lfX (eF nm ((y::r).map D.s))=[39]++nm++([58,32,39]++Qb.joinL (txS ((y::r).map D.s)) [32,43,32,39]):=rfl;rw [e,fH];simp at f ⊢;omega
def iAr {lv:List D} (h:uO 64 rS lv):(Qb.joinL (lv.map lfX) [44,32]).length<=170000:=by
 have:=aM (B:=2500) (l:=lv.map lfX) (sep:=[44,32]) fun x f=>by obtain ⟨d,hd,rfl⟩:=List.mem_map.1 f;exact pBg (h.2 d hd)
 rw [xS] at this;exact xT this (xT (Nat.mul_le_mul h.1 (xD _)) (by decide))
def jAr {lv:List D} (h:uO 64 rS lv):(gAf lv).length<=170002:=by
 have:=iAr h
 cases lv with
 | nil=>simp [gAf]
 | cons y r=>grind [gAf,xN,xJ,xZ]
def nB2 {pub:Bool} {nm:Bs} {lv ps:List D} {ty:D} (r:jE nm=true) (p:uO 64 rS lv) (j:uO 64 (vO true) ps) (f:ty=ty0D\/lL 64 ty):(vY pub nm lv ps ty).length<=700000:=by
 have u:=oI r;have w:=jAr p;have y:=tA2 j;have B:(if bI ty=0 then [] else [32,45,62,32]++tyX 64 ty:Bs).length<=7000:=by
  rcases f with rfl | A
  ·decide
  grind [rY]
 unfold vY;cases pub <;> simp only [xN,xJ,xZ,xM,xL,xE] <;> omega
def bAv {h0:Heap} {P:Nat} {lv:List D} (w:uO 64 rS lv) {s:SL} (x:Sl h0 V s lv):∀ (M i:Nat) (out:SL) (h:Heap),i<=lv.length->lv.length-i<M->OwV (Fr0 h0) h out 1 (((lv.map lfX).map D.s).take i)->Chg [] h0 h->∃ j h',nA0 N M (some (P,0)) out s (lv.length:Int) (i:Int) h=some (.exit 0,(some (P,0),j,()),h')/\OwV (Fr0 h0) h' j 1 ((lv.map lfX).map D.s)/\Chg [] h0 h':=by
 have p:((lv.map lfX).map D.s).length=lv.length:=by simp
 have U:=w.1;have key:=qU (h0:=h0) (n:=1) (k:=0) (xs:=(lv.map lfX).map D.s) (L:=fun M out i h=>nA0 N M (some (P,0)) out s (lv.length:Int) i h) (fin:=fun out=>(some (P,0),out,())) ?_ ?_
 ·grind
 ·intro M i hi out h R J
  rw [p] at hi;show ∃ j h',nA0 N (M+1) (some (P,0)) out s (lv.length:Int) (i:Int) h=nA0 N M (some (P,0)) j s (lv.length:Int) ((i+1:Nat):Int) h'/\_;rw [bA7];unfold rA2;simp only [qC,hi,xO,xA];have Q:=w.2 _ (xR hi);have x:=x.chg J;have ⟨r,g,d⟩:=qM.elt x hi (gAe Q);rw [x.ix hi 2,g,eA1];have ⟨A,p5,O,S⟩:=qM.park (z:=lfc lf0) rfl h r;have H:∀ {β:Type} (K:Heap->Option β),vA ((h.push (.row yZI .own)).store (h.next,0) (yRH r)) K=K A:=p5;rw [H];have W:=Dt.chg O (by simp) d;have u:lfX lv[i]=(lv.map lfX)[i]'(by simpa using hi):=by rw [List.getElem_map]
  have B:i<(lv.map lfX).length:=by simpa using hi
  have ⟨nm,xs,hd,hn,F⟩:=Q;rw [hd] at W u;have ⟨sl,I,X⟩:=pM W;obtain rfl:=qM.inj (r':=(nm,sl,())) I;have Z:A.cell (h.next,0)=some (.str nm):=S.cell 0;have a1:A.cell (h.next,1)=some (yL sl):=S.cell 1;have h1:=(kE hn).2;have h2:=gAj F;have C:sl.len=xs.length:=by rw [X.len,xS]
  simp only [xX,xC,Z,dA,yA];rw [yC (by simp;omega)];simp only [dA,yA,a1,qA]
  cases xs with
  | nil=>
   have z:ltInt 0 (Int.ofNat sl.len)=false:=by rw [C];rfl
   simp only [z,xB];have ⟨s',h',e',o',Y⟩:=tY B R J O (by grind) (y:=[39]++nm) (by rw [<- u];show _=[39]++nm++[];rw [List.append_nil]);rw [e',iB (by omega)]
   grind
  | cons y r=>
   have z:ltInt 0 (Int.ofNat sl.len)=true:=by rw [C,ltI,xU];grind
   simp only [z,xA];rw [yC (by simp;omega)];simp only [dA,yA];have f:f50 N sl [32,43,32,39] A=some (Qb.joinL (y::r) [32,43,32,39],A):=nAa X (by have:=F.1;omega) (by omega);rw [f,aA,yC (by simp;omega)];simp only [dA,yA];have ⟨s',h',e',o',Y⟩:=tY B R J O (by grind) (y:=[39]++nm++[58,32,39]++Qb.joinL (y::r) [32,43,32,39]) (by
    rw [<- u];show _=[39]++nm++([58,32,39]++Qb.joinL (txS ((y::r).map D.s)) [32,43,32,39]);rw [fH,xY])
   rw [e',iB (by omega)]
   grind
 ·intro M out h
  rw [p];show nA0 N (M+1) (some (P,0)) out s (lv.length:Int) (lv.length:Int) h=_;rw [bA7];unfold rA2;simp only [qC,Nat.lt_irrefl,xQ,xB]
def qBg {ty:D} (f:ty=ty0D\/lL 64 ty) {r:TyV} (x:Dt h V ty (tyc r)):(ty=ty0D/\pA r.1 0=true/\bI ty=0)\/(lL 64 ty/\pA r.1 0=false/\bI ty≠0):=by
 rcases f with rfl | j
 ·have ⟨s1,s2,u,_⟩:=yJ.1 (show Dt h V (tyD 0 [] [] []) _ from x)
  rw [(wQ 1).inj u];exact .inl ⟨rfl,rfl,rfl⟩
 ·refine .inr ⟨j,bAr j x,?_⟩
  obtain ⟨p,rfl,y⟩:=j
  cases p with
  | int=>show (1:Int)≠0;decide
  | bool=>show (2:Int)≠0;decide
  | st=>show (3:Int)≠0;decide
  | ref w lv t=>
   cases w
   ·show (4:Int)≠0;decide
   ·show (5:Int)≠0;decide
def tB9 (b:Bool) (h:Heap):f40 N b h=some (if b=true then [112,117,98,32] else [],h):=by cases b <;> rfl
def uB9 (hN:200<=N) (f:FuR) {lv ps:List D} {ty:D} (hn:jE f.nm=true) (p:uO 64 rS lv) (A:uO 64 (vO true) ps) (W:ty=ty0D\/lL 64 ty) (F:Sl h V f.lv lv) (M:Sl h V f.ps ps) (U:Dt h V ty (tyc f.ty)):∃ h',f20 N (fuv f) h=some (vY f.pub f.nm lv ps ty,h')/\Chg [] h h':=by
 have l1:=oI hn;have l2:=jAr p;have a0:=iAr p;have l3:=tA2 A;unfold f20;have o:=wA h (fuc f);have c:=uA h (.row (fuc f) .own);have e1:h.push (.row (yRC (fuv f)) .own)=h.push (.row (fuc f) .own):=rfl;dsimp only;rw [e1];have F:=F.chg c;have M:=M.chg c;have U:=Dt.chg c (by simp) U;generalize h.push (.row (fuc f) .own)=H at *;have a2:H.cell (h.next,2)=some (yL f.lv):=o.cell 2;have ⟨out,H2,e2,ow,I⟩:=bAv (N:=N) (P:=h.next) p F N 0 ⟨none,0,0,0⟩ H (xc _) (by have:=p.1;omega) (OwV.nil _ _ _ _) (Chg.refl _ _);have e0:Int.ofNat f.lv.len=((lv.length:Nat):Int):=by rw [F.len];rfl
 rw [show ((0:Nat):Int)=0 from rfl] at e2;have es:(f.lv:SL)=f.lv:=rfl;simp only [xX,xC,a2,dA,qA];rw [es,e0,e2,mB];dsimp only;have o2:=o.chg I;have b0:H2.cell (h.next,0)=some (.bool f.pub):=o2.cell 0;have b1:H2.cell (h.next,1)=some (.str f.nm):=o2.cell 1;have b3:H2.cell (h.next,3)=some (yL f.ps):=o2.cell 3;have lp:(if f.pub=true then [112,117,98,32] else []:Bs).length<=4:=by cases f.pub <;> simp
 have hX:vY f.pub f.nm lv ps ty=(if f.pub=true then [112,117,98,32] else [])++[102,110,32]++f.nm++gAf lv++[40]++uM ps++[41]++(if bI ty=0 then [] else [32,45,62,32]++tyX 64 ty):=rfl;rw [hX];simp only [fA,xC,b0,dA,aC];rw [tB9,aA];generalize (if f.pub=true then [112,117,98,32] else []:Bs)=P at *;rw [yC (by simp;omega)];simp only [dA,yA,b1];rw [yC (by simp;omega)];simp only [dA,yA,jC,xA,yB];have ⟨w,e3,R⟩:=qB9 (N:=N) hN A (M.chg I);have o3:=o2.chg R;have C:=Dt.chg R (by simp) (Dt.chg I (by simp) U);have d4:w.cell (h.next,4)=some (yI0 f.ty.1):=o3.cell 4;have K:w.cells (h.next,4) 4=some (.agg (tyc f.ty)):=o3.cells (j:=4) (m:=4) (show 4+4<=10 by decide);have B:f38 N f.ps H2=some (uM ps,w):=e3;have cc:=(c.trans I).trans R;have u:out.len=lv.length:=by rw [ow.sl.len];simp
 have fin:∀ (Q:Bs),Q.length<=600000->∃ h',(bif !pA f.ty.1 0 then
   (iA (.val zK3) (fC .add Q [32,45,62,32]) fun (O:zO3)=>
   (iA (.val zD) (w.cells (h.next,4) 4) fun (S:zX)=>
   (jA (f36 N N S w) fun (Y:zO3) X=>
   (iA (.val zK3) (fC .add O Y) fun (L:zO3)=>
   some (L,X))))) else some (Q,w))=some (Q++(if bI ty=0 then [] else [32,45,62,32]++tyX 64 ty),h')/\Chg [] h h':=by
  intro Q hQ;rcases qBg W C with ⟨_,z,zk⟩ | ⟨ht,z,zk⟩
  ·grind
  ·have ⟨H4,e4,c4⟩:=oAe ht (by omega:100<=N) C
   have l4:=rY ht;rw [z,if_neg zk];simp only [Bool.not_false,xA];rw [yC (by simp;omega)];simp only [dA,yA];rw [K,vZ];show ∃ h',(jA (f36 N N f.ty w) _)=_/\_;rw [e4,aA,yC (by simp;omega)];simp only [dA,yA];exact ⟨H4,by rw [xY],cc.trans c4⟩
 cases lv with
 | nil=>
  have z:ltInt 0 (Int.ofNat out.len)=false:=by rw [u];rfl
  have Z:gAf []=[]:=rfl;simp only [z,xB,Z,List.append_nil];rw [yC (by simp;omega)];simp only [dA,yA,b3,qA];rw [B,aA,yC (by simp;omega)];simp only [dA,yA];rw [yC (by simp;omega)];simp only [dA,yA,d4,qB];exact fin _ (by simp;omega)
 | cons y r=>
  have z:ltInt 0 (Int.ofNat out.len)=true:=by rw [u,ltI,xU];grind
  have Z:gAf (y::r)=[60]++Qb.joinL ((y::r).map lfX) [44,32]++[62]:=rfl;have hj:f50 N out [44,32] H2=some (Qb.joinL ((y::r).map lfX) [44,32],H2):=nAa ow.sl (by rw [xS];have:=p.1;omega) (by omega);rw [Z];generalize Qb.joinL ((y::r).map lfX) [44,32]=J at *;simp only [z,xA];rw [yC (by simp;omega)];simp only [dA,yA];rw [hj,aA,yC (by simp;omega)];simp only [dA,yA];rw [yC (by simp;omega)];simp only [dA,yA];rw [yC (by simp;omega)];simp only [dA,yA,b3,qA];rw [B,aA,yC (by simp;omega)];simp only [dA,yA];rw [yC (by simp;omega)];simp only [dA,yA,d4,qB]
  have:=fin (P++[102,110,32]++f.nm++[60]++J++[62]++[40]++uM ps++[41]) (by simp;omega)
  have ea:P++[102,110,32]++f.nm++([60]++J++[62])++[40]++uM ps++[41]=P++[102,110,32]++f.nm++[60]++J++[62]++[40]++uM ps++[41]:=by simp only [xY]
  rw [ea];exact this
end
end Qp
namespace Qp
def smX (bl:Nat->List D->Bs) (o:Nat):D->Bs
 | .t [.i k,_,.b m,.s nm,ty,.b f,pl,va,co,.l th,.l el]=>
  if k=1 then qAj m nm ty f va else if k=2 then plX pl++[32,61,32]++vaX va++[59] else if k=3 then vaX va++[59]
  else if k=10 then (if f=true then [114,101,116,117,114,110,32]++vaX va++[59] else [114,101,116,117,114,110,59])
  else if k=11 then [100,114,111,112,32]++plX pl++[59] else if k=8 then [98,114,101,97,107,59] else if k=9 then [99,111,110,116,105,110,117,101,59]
  else (if k=4 then [105,102,32]++opX co++[32] else if k=5 then [119,104,105,108,101,32]++opX co++[32] else if k=6 then [108,111,111,112,32] else [])++bl o th ++
   (if k=4/\f=true then [32,101,108,115,101,32]++bl o el else [])
 | _=>[]
def blX:Nat->Nat->List D->Bs
 | 0,_,_=>[]
 | n+1,o,l=>[123,10]++(l.map fun d=>Lib.repeatL [9] (o+1)++smX (blX n) (o+1) d++[10]).flatten++Lib.repeatL [9] o++[125]
section
variable {N:Nat} {h0 h h1 h2:Heap} {A:Nat} {t:Bs} {s:SL} {V:Nat->Prop}
def wY {q:Nat×Nat} {n:Nat} (c:Chg [] h0 h) (f:q.1<h0.next):h.cells q n=h0.cells q n:=by
 have e:h.t.get q.1=h0.t.get q.1:=c.g q.1 f (by simp)
 grind [Heap.cells,Heap.read,Heap.row]
def qAe {x:SL} {xs:List D} (y:Sl h0 V x xs) {i n:Nat} (hi:i<xs.length):(x.at i n).1<h0.next:=by
 have h1:=y.isSome (by omega)
 cases f:x.a with
 | none=>rw [f] at h1;cases h1
 | some q=>
  have:=y.lt q.1 (by simp [SL.blk,f])
  simp only [SL.at,f];exact this
def uBp (p:PQ h0 h A t s):∃ b:Bs,f43 N (some (A,0)) h=some ((b.length:Int),h)/\Lim b t/\(1048576<b.length->∀ x,PQ h0 h A (t++x) s):=by
 have ⟨b,p,f,j,c,l⟩:=p;exact ⟨b,iB2 p,l,fun r x=>⟨b,p,f,j,c,l.over r x⟩⟩
def kAr (hN:200<=N) {rec132 rec42 rec83} {m o:Nat} {l:List D} {T:D->Bs} (ho:o<=900) (hl:l.length<=3000) (ht:∀ x∈l,gA0 m x) {s1:SL} (x:Sl h0 V s1 l)
  (hF:∀ d∈l,∀ (r:SmV) (h:Heap) (t:Bs) (s:SL),Dt h0 V d (smx r)->PQ h0 h A t s->∃ h',rec83 (some (A,0)) r ((o+1:Nat):Int) h=some ((),h')/\Put h0 h A s h' (t++T d)) :
  ∀ (M i:Nat) (h:Heap) (t:Bs) (s:SL),i<=l.length->l.length-i<M->PQ h0 h A t s->∃ out h',kAa N rec132 rec42 rec83 M (some (A,0)) (o:Int) s1 (l.length:Int) (i:Int) h=some (out,(some (A,0),(o:Int),()),h')/\
   ((out=.exit 0/\Put h0 h A s h' (t++((l.drop i).map fun d=>Lib.repeatL [9] (o+1)++T d++[10]).flatten))\/(out=.ret/\∀ y,Put h0 h A s h' (t++((l.drop i).map fun d=>Lib.repeatL [9] (o+1)++T d++[10]).flatten++y))):=by
 intro M
 induction M with
 | zero=>grind
 | succ M ih=>
  intro i h t s hi hM p;rw [uAn];unfold lAe;simp only [qC]
  by_cases q:i<l.length
  ·simp only [q,xO,xA]
   have ⟨r,g,d⟩:=(rM m).elt x q (ht _ (xR q));rw [x.ix q 32,wY p.base (qAe x q),g,kL];have ⟨h5,p5,c5,o5⟩:=(rM m).park (z:=smx (smv (aF 0))) rfl h r;have J:∀ {β:Type} (K:Heap->Option β),vA ((h.push (.row yZA .own)).store (h.next,0) (yRA r)) K=K h5:=p5;rw [J];have I:=p.chg c5;have ⟨b,eb,lb,R⟩:=uBp (N:=N) I;simp only [fA,xX];rw [eb,aA];have a0:ltInt 1048576 (b.length:Int)=decide (1048576<b.length):=by
    grind [ltI,decide_eq_true,decide_eq_false]
   rw [a0]
   by_cases Z:1048576<b.length
   ·simp only [Z,xO,xA]
    exact ⟨_,h5,rfl,.inr ⟨rfl,fun y=>by rw [xY];exact (R Z _).same.pre c5⟩⟩
   ·simp only [Z,xQ,xB]
    rw [iB (by omega)];have ⟨u,L,Q,C,f,Y⟩:=mB2 hN I (k:=o+1) (by omega);rw [L,aA];have U:=o5.chg f (p.out (xD _));rw [(rM m).cells U];have ⟨S,a2,a4,H,O,a1⟩:=hF _ (xR q) r u _ Q d C;have j:rec83 (some (A,0)) (tS r) ((o+1:Nat):Int) u=some ((),S):=a2;rw [j,aA];have ⟨B,W,w,F,X,a3⟩:=pI hN H (xs:=[[10]]) (by simp) (by simp) (n:=1) rfl (row:=[.str [10]]) rfl;rw [W,aA,iB (by omega)];have ⟨out,h',e',y⟩:=ih (i+1) B _ w q (by omega) F;refine ⟨out,h',e',?_⟩;have up:∀ {t2:Bs},Put h0 B A w h' t2->Put h0 h A s h' t2:=fun y=>Put.pre c5 (Put.trans' C f Y (Put.trans' H O a1 (Put.trans' F X a3 y)));have hd:(l.drop i)=l[i]::l.drop (i+1):=List.drop_eq_getElem_cons q;rcases y with ⟨ye,y⟩ | ⟨ye,y⟩
    ·grind
    grind
  ·simp only [q,xQ,xB]
   have:l.drop i=[]:=List.drop_eq_nil_of_le (by omega)
   rw [this];exact ⟨_,h,rfl,.inl ⟨rfl,by simpa using p.same⟩⟩
def rBg (hN:200<=N) {rec132 rec42 rec83} {o:Nat} {k a:Int} {mu S:Bool} {nm:Bs} {ty pl va co:D} {th el:List D} (ti:isTy 65 ty/\isLf pl/\isVa va/\isOp co) {r:SmV} (pk:PK h0) (x:Dt h0 V (smT k a mu nm ty S pl va co th el) (smx r))
  (hk:(k=4/\bG co)\/(k=5/\bG co)\/k=6\/k=7) {bl:List D->Bs}
  (hb:∀ (l:List D) (s1:SL) (h:Heap) (t:Bs) (s:SL),(l=th\/l=el)->Sl h0 V s1 l->PQ h0 h A t s->∃ h',rec42 (some (A,0)) s1 (o:Int) h=some ((),h')/\Put h0 h A s h' (t++bl l)) (p:PQ h0 h A t s) :
  ∃ h',dAr N rec132 rec42 rec83 (some (A,0)) r (o:Int) h=some ((),h')/\Put h0 h A s h' (t++((if k=4 then [105,102,32]++opX co++[32] else if k=5 then [119,104,105,108,101,32]++opX co++[32] else if k=6 then [108,111,111,112,32] else [])++bl th ++
   (if k=4/\S=true then [32,101,108,115,101,32]++bl el else []))):=by
 have ⟨t1,X,t3,t4⟩:=ti;have ⟨rt,rp,rv,ro,s1,s2,hc,x1,x2,x3,x4,x5,x6⟩:=fX t1 X t3 t4 x;obtain ⟨u,F⟩:∃ u:SmR,u=⟨k,a,mu,nm,rt,S,rp,rv,ro,s1,s2⟩:=⟨_,rfl⟩;rw [<- F] at hc;have hr:r=smv u:=(rM 1).inj hc;subst hr;have o1:=wA h (smc u);have c1:=uA h (.row (smc u) .own);have e1:h.push (.row (yRA (smv u)) .own)=h.push (.row (smc u) .own):=rfl;have a7:u.k=k:=by rw [F]
 have a2:u.has=S:=by rw [F]
 have a3:u.th=s1:=by rw [F]
 have a8:u.el=s2:=by rw [F]
 have b2:u.co=ro:=by rw [F]
 unfold dAr;dsimp only;rw [e1];have R:=p.chg c1;have out:h.next ∉ A::s.blk.toList:=p.out (xD _);generalize h.push (.row (smc u) .own)=H at *;have Y:∀ {G:Heap},G.own h.next (smc u)->G.cell (h.next,0)=some (yI0 k):=fun o=>by rw [<- a7];exact o.cell 0
 have a9:∀ {G:Heap},G.own h.next (smc u)->G.cell (h.next,8)=some (.bool S):=fun o=>by rw [<- a2];exact o.cell 8
 have C:∀ {G:Heap},G.own h.next (smc u)->G.cell (h.next,30)=some (yL s1):=fun o=>by rw [<- a3];exact o.cell 30
 have a0:∀ {G:Heap},G.own h.next (smc u)->G.cell (h.next,31)=some (yL s2):=fun o=>by rw [<- a8];exact o.cell 31
 have Q:∀ {G:Heap},G.own h.next (smc u)->G.cells (h.next,26) 4=some (.agg (opc ro)):=fun o=>by rw [<- b2];exact o.cells (j:=26) (m:=4) (show 26+4<=32 by decide)
 simp only [xX,xC,Y o1,dA,qB];have tail:∀ (H2:Heap) (X:Bs) (s2':SL),H2.own h.next (smc u)->PQ h0 H2 A X s2'->Chg (A::s.blk.toList) h H2->(∀ B,s2'.blk=some B->s.blk=some B\/h.next<=B)->(∀ B,s2'.blk=some B->B≠h.next)->∃ h',(jA (rec42 (some (A,0)) s1 (o:Int) H2) fun (b6:Unit) I=>
   (iA (.val zM3) (I.cell (h.next,0)) fun (b1:Int)=>
   (bif pA b1 4 then
    (iA (.val zL3) (I.cell (h.next,8)) fun (b0:Bool)=>
    (bif b0 then
    (jA (f39 N (some (A,0)) ⟨(some (I.next,0)),1,1,1⟩ (I.push (.row [(.str [32,101,108,115,101,32])] .own))) fun (b8:Unit) a1=>
    (iA (.val zJ3) (a1.cell (h.next,31)) fun (a6:SL)=>
    (jA (rec42 (some (A,0)) a6 (o:Int) a1) fun (b9:Unit) a5=>
    some ((),a5))))
    else
    some ((),I)))
   else
    some ((),I))))=some ((),h')/\Put h0 h A s h' (X++(bl th++(if k=4/\S=true then [32,101,108,115,101,32]++bl el else []))):=by
  intro H2 X s2' oH K w M c0;have ⟨H3,e3,s3,p3,c3,n3⟩:=hb th s1 H2 X s2' (.inl rfl) x5 K;rw [e3,aA];have o3:=oH.chg c3 (fun hm=>by
   grind)
  have b3:h.next<H2.next:=oH.2;have b7:∀ B,s3.blk=some B->B≠h.next:=fun B L=>by
   grind
  rw [Y o3];simp only [dA,qB]
  by_cases k4:k=4
  ·subst k4
   simp only [show pA 4 4=true from rfl,xA,a9 o3,dA,aC]
   cases S with
   | false=>
    simp only [xB,xE,and_false,xL,List.append_nil];exact ⟨H3,rfl,Put.trans' K w M ⟨s3,p3,c3,n3⟩⟩
   | true=>
    have ⟨H4,e4,s4,p4,c4,n4⟩:=pI hN p3 (xs:=[[32,101,108,115,101,32]]) (by simp) (by simp) (n:=1) rfl (row:=[.str [32,101,108,115,101,32]]) rfl;simp only [xA,and_self,xM];rw [e4,aA];have o4:=o3.chg c4 (fun hm=>by
     grind)
    rw [a0 o4];simp only [dA,qA];have ⟨H5,e5,y5⟩:=hb el s2 H4 _ s4 (.inr rfl) x6 p4;have a4:rec42 (some (A,0)) s2 (o:Int) H4=some ((),H5):=e5;rw [a4,aA];refine ⟨H5,rfl,Put.trans' K w M (Put.trans' p3 c3 n3 (Put.trans' p4 c4 n4 ?_))⟩;simpa using y5
  ·have z:pA k 4=false:=by rw [eqI];grind
   rw [z,xB,if_neg (fun hq=>k4 hq.1),List.append_nil];exact ⟨H3,rfl,Put.trans' K w M ⟨s3,p3,c3,n3⟩⟩
 have b5:∀ B,s.blk=some B->B≠h.next:=fun B L=>by grind
 have nS:∀ {H2:Heap} {s2':SL},H.next<=H2.next->(∀ B,s2'.blk=some B->s.blk=some B\/H.next<=B)->(∀ B,s2'.blk=some B->s.blk=some B\/h.next<=B)/\∀ B,s2'.blk=some B->B≠h.next:=fun b4 n=>⟨fun B L=>(n B L).imp id fun h1=>xT c1.next h1,fun B L=>by
  have:=o1.2
  grind⟩
 rcases hk with ⟨rfl,J⟩ | ⟨rfl,J⟩ | rfl | rfl
 ·have lo:=eL J
  have ⟨H1,e1,f⟩:=vU (N:=N) J (pk.chg R.base) (Dt.chg R.base (by simp) x4);simp only [show pA 4 4=true from rfl,xA];rw [Q o1,kY];show ∃ h',(jA (f177 N ro H) _)=_/\_;rw [e1,aA];have ⟨H2,Z,O,K,w,M⟩:=pI hN (R.chg f) (xs:=[[105,102,32],opX co,[32]]) (by grind) (by simp) (n:=3) rfl (row:=[.str [105,102,32],.str (opX co),.str [32]]) rfl;rw [Z,aA];have o2:=(o1.chg f).chg w out;rw [C o2];simp only [dA,qA];have ⟨W,U⟩:=nS (H2:=H2) (s2':=O) (xT f.next w.next) fun B L=>(M B L).imp id fun h1=>xT f.next h1;have ⟨h',e',y⟩:=tail H2 _ O o2 K (((c1.trans f).mono (by simp)).trans w) W U;refine ⟨h',e',?_⟩;simpa using y
 ·have lo:=eL J
  have ⟨H1,e1,f⟩:=vU (N:=N) J (pk.chg R.base) (Dt.chg R.base (by simp) x4);simp only [show pA 5 4=false from rfl,show pA 5 5=true from rfl,xA,xB];rw [Q o1,kY];show ∃ h',(jA (f177 N ro H) _)=_/\_;rw [e1,aA];have ⟨H2,Z,O,K,w,M⟩:=pI hN (R.chg f) (xs:=[[119,104,105,108,101,32],opX co,[32]]) (by grind) (by simp) (n:=3) rfl (row:=[.str [119,104,105,108,101,32],.str (opX co),.str [32]]) rfl;rw [Z,aA];have o2:=(o1.chg f).chg w out;rw [C o2];simp only [dA,qA];have ⟨W,U⟩:=nS (H2:=H2) (s2':=O) (xT f.next w.next) fun B L=>(M B L).imp id fun h1=>xT f.next h1;have ⟨h',e',y⟩:=tail H2 _ O o2 K (((c1.trans f).mono (by simp)).trans w) W U;refine ⟨h',e',?_⟩;simpa using y
 ·simp only [show pA 6 4=false from rfl,show pA 6 5=false from rfl,show pA 6 6=true from rfl,xA,xB]
  have ⟨H2,Z,O,K,w,M⟩:=pI hN R (xs:=[[108,111,111,112,32]]) (by simp) (by simp) (n:=1) rfl (row:=[.str [108,111,111,112,32]]) rfl;rw [Z,aA];have o2:=o1.chg w out;rw [C o2];simp only [dA,qA];have ⟨W,U⟩:=nS (H2:=H2) (s2':=O) w.next M;have ⟨h',e',y⟩:=tail H2 _ O o2 K ((c1.mono (by simp)).trans w) W U;refine ⟨h',e',?_⟩;simpa using y
 ·simp only [show pA 7 4=false from rfl,show pA 7 5=false from rfl,show pA 7 6=false from rfl,xB]
  rw [C o1];simp only [dA,qA];have ⟨W,U⟩:=nS (H2:=H) (s2':=s) (xD _) fun B L=>.inl L;have ⟨h',e',y⟩:=tail H t s o1 R (c1.mono (by simp)) W U;refine ⟨h',e',?_⟩;simpa using y
end
end Qp
namespace Qp
section
variable {N:Nat} {h0 h h1 h2:Heap} {A:Nat} {t:Bs} {s:SL} {V:Nat->Prop}
def vBp (O:200<=N) {rec132 rec42 rec83} {n m o:Nat} {d:D} (hd:mayN (n+1) d) (ti:gA0 (m+1) d) {r:SmV} (pk:PK h0) (x:Dt h0 V d (smx r)) {bl:Nat->List D->Bs}
  (hb:∀ (h:Heap) (t:Bs) (s:SL),(bI d=4\/bI d=5\/bI d=6\/bI d=7)->PQ h0 h A t s->∃ h',rec132 (some (A,0)) r (o:Int) h=some ((),h')/\Put h0 h A s h' (t++smX bl o d)) (p:PQ h0 h A t s) :
  ∃ h',bB7 N rec132 rec42 rec83 (some (A,0)) r (o:Int) h=some ((),h')/\Put h0 h A s h' (t++smX bl o d):=by
 obtain ⟨k,a,F,nm,ty,C,pl,va,co,th,el,rfl,a9,b1,hk⟩:=hd;have ⟨t1,t2,t3,t4,_⟩:=eAe ti;have ⟨rt,rp,U,ro,s1,s2,hc,x1,x2,x3,x4,x5,x6⟩:=fX t1 t2 t3 t4 x;obtain ⟨B,u⟩:∃ B:SmR,B=⟨k,a,F,nm,rt,C,rp,U,ro,s1,s2⟩:=⟨_,rfl⟩;rw [<- u] at hc;have hr:r=smv B:=(rM 1).inj hc;subst hr;unfold bB7;have o1:=wA h (smc B);have c1:=uA h (.row (smc B) .own);have e1:h.push (.row (yRA (smv B)) .own)=h.push (.row (smc B) .own):=rfl;dsimp only;rw [e1];have K:=p.chg c1;generalize h.push (.row (smc B) .own)=H at *;have R:=pk.chg K.base;have y1:=Dt.chg K.base (by simp) x1;have y2:=Dt.chg K.base (by simp) x2;have y3:=Dt.chg K.base (by simp) x3;have a3:H.cell (h.next,0)=some (yI0 k):=by rw [show k=B.k by rw [u]];exact o1.cell 0
 have a6:H.cell (h.next,8)=some (.bool C):=by rw [show C=B.has by rw [u]];exact o1.cell 8
 have a1:H.cells (h.next,0) 32=some (.agg (smx (smv B))):=o1.cells (j:=0) (m:=32) (xD _);have a0:H.cells (h.next,9) 2=some (.agg (lfc rp)):=by rw [show rp=B.pl by rw [u]];exact o1.cells (j:=9) (m:=2) (show 9+2<=32 by decide)
 have Q:∀ {G:Heap},G.own h.next (smc B)->G.cells (h.next,11) 15=some (.agg (vac U)):=fun o=>by rw [show U=B.va by rw [u]];exact o.cells (j:=11) (m:=15) (show 11+15<=32 by decide)
 simp only [xX,xC,a3,dA,qB];have one:∀ (w:Bs),w.length<=900000->∃ h',(jA (f39 N (some (A,0)) ⟨(some (H.next,0)),1,1,1⟩ (H.push (.row [.str w] .own))) fun (x2:Unit) h3=>some ((),h3))=some ((),h')/\Put h0 h A s h' (t++w):=fun w hw=>by
  have ⟨H2,M,y⟩:=pI O K (xs:=[w]) (by grind) (by simp) (n:=1) rfl (row:=[.str w]) rfl;rw [M,aA];refine ⟨H2,rfl,Put.pre c1 ?_⟩
  grind
 have big:(bI (smT k a F nm ty C pl va co th el)=4\/bI (smT k a F nm ty C pl va co th el)=5\/bI (smT k a F nm ty C pl va co th el)=6\/bI (smT k a F nm ty C pl va co th el)=7)->
   ∃ h',(iA (.val yS) (H.cells (h.next,0) 32) fun (a5:SmV)=>(jA (rec132 (some (A,0)) (tS a5) (o:Int) H) fun (b0:Unit) a2=>some ((),a2)))=some ((),h')/\Put h0 h A s h' (t++smX bl o (smT k a F nm ty C pl va co th el)):=fun a7=>by
  have ⟨H2,M,y⟩:=hb H t s a7 K;rw [a1,kL];have X:rec132 (some (A,0)) (tS (smv B)) (o:Int) H=some ((),H2):=M;rw [X,aA];exact ⟨H2,rfl,Put.pre c1 y⟩
 cases hk with
 | let_ hn ht I=>
  have hX:smX bl o (smT 1 a F nm ty C pl0 va op0 [] [])=qAj F nm ty C va:=rfl;have lx:=iB7 (m:=F) hn ht I;have ⟨H2,M,L⟩:=oBg O B (ty:=ty) (va:=va) (by rw [u];exact hn) ht (by rw [u];exact I) R (by rw [u];exact y1) (by rw [u];exact y3);rw [show qAj B.m B.nm ty B.has va=qAj F nm ty C va by rw [u]] at M;simp only [show pA 1 1=true from rfl,xA];rw [a1,kL];have X:f129 N (tS (smv B)) H=some (qAj F nm ty C va,H2):=M;rw [X,aA];have ⟨H3,e3,y⟩:=pI O (K.chg L) (xs:=[qAj F nm ty C va]) (by grind) (by simp) (n:=1) rfl (row:=[.str (qAj F nm ty C va)]) rfl;rw [e3,aA,hX];refine ⟨H3,rfl,Put.pre c1 (Put.pre L ?_)⟩
  grind
 | @set f xs va hn hx I=>
  have hp:gX (eF f (xs.map D.s)):=⟨f,xs,rfl,hn,hx⟩;have hX:smX bl o (smT 2 a false [] ty0D false (eF f (xs.map D.s)) va op0 [] [])=plX (eF f (xs.map D.s))++[32,61,32]++vaX va++[59]:=rfl;have l1:=uU hp;have l2:=uY I;have ⟨H2,M,L⟩:=dA7 (N:=N) hp y2;have ⟨H3,e3,S⟩:=pAe O I (R.chg L) (Dt.chg L (by simp) y3);simp only [show pA 2 1=false from rfl,show pA 2 2=true from rfl,xA,xB];have o2:=o1.chg L;rw [a0,eA1,M,aA,Q o2,fAf];have J:f131 N (tV U) H2=some (vaX va,H3):=e3;rw [J,aA];have ⟨Y,Z,y⟩:=pI O ((K.chg L).chg S) (xs:=[plX (eF f (xs.map D.s)),[32,61,32],vaX va,[59]]) (by grind) (by simp) (n:=4) rfl (row:=[.str (plX (eF f (xs.map D.s))),.str [32,61,32],.str (vaX va),.str [59]]) rfl;rw [Z,aA];have sv:jB (some (.agg (vac U))) (.agg (yRB U))=true:=eG _;have sp:jB (some (.agg (lfc rp))) (.agg (yRH rp))=true:=eG _;simp only [Q o1,sv,sp,xA,yB];refine ⟨Y,rfl,Put.pre c1 (Put.pre L (Put.pre S ?_))⟩
  grind
 | @call f ag hn a4=>
  have I:mayVa (vaD 6 op0 op0 0 pl0 f [] ag):=mayVa.call hn a4;have hX:smX bl o (smT 3 a false [] ty0D false pl0 (vaD 6 op0 op0 0 pl0 f [] ag) op0 [] [])=vaX (vaD 6 op0 op0 0 pl0 f [] ag)++[59]:=rfl;have l2:=uY I;have ⟨H3,e3,S⟩:=pAe O I R y3;simp only [show pA 3 1=false from rfl,show pA 3 2=false from rfl,show pA 3 3=true from rfl,xA,xB];rw [Q o1,fAf];have J:f131 N (tV U) H=some (vaX (vaD 6 op0 op0 0 pl0 f [] ag),H3):=e3;rw [J,aA];have ⟨Y,Z,y⟩:=pI O (K.chg S) (xs:=[vaX (vaD 6 op0 op0 0 pl0 f [] ag),[59]]) (by grind) (by simp) (n:=2) rfl (row:=[.str (vaX (vaD 6 op0 op0 0 pl0 f [] ag)),.str [59]]) rfl;rw [Z,aA];refine ⟨Y,rfl,Put.pre c1 (Put.pre S ?_)⟩
  grind
 | if_ W a8 he=>
  simp only [show pA 4 1=false from rfl,show pA 4 2=false from rfl,show pA 4 3=false from rfl,show pA 4 10=false from rfl,show pA 4 11=false from rfl,show pA 4 8=false from rfl,show pA 4 9=false from rfl,xB];exact big (.inl rfl)
 | while_ W a8=>
  simp only [show pA 5 1=false from rfl,show pA 5 2=false from rfl,show pA 5 3=false from rfl,show pA 5 10=false from rfl,show pA 5 11=false from rfl,show pA 5 8=false from rfl,show pA 5 9=false from rfl,xB];exact big (.inr (.inl rfl))
 | loop W=>
  simp only [show pA 6 1=false from rfl,show pA 6 2=false from rfl,show pA 6 3=false from rfl,show pA 6 10=false from rfl,show pA 6 11=false from rfl,show pA 6 8=false from rfl,show pA 6 9=false from rfl,xB];exact big (.inr (.inr (.inl rfl)))
 | block W=>
  simp only [show pA 7 1=false from rfl,show pA 7 2=false from rfl,show pA 7 3=false from rfl,show pA 7 10=false from rfl,show pA 7 11=false from rfl,show pA 7 8=false from rfl,show pA 7 9=false from rfl,xB];exact big (.inr (.inr (.inr rfl)))
 | break_=>
  simp only [show pA 8 1=false from rfl,show pA 8 2=false from rfl,show pA 8 3=false from rfl,show pA 8 10=false from rfl,show pA 8 11=false from rfl,show pA 8 8=true from rfl,xB,xA];exact one [98,114,101,97,107,59] (by decide)
 | cont=>
  simp only [show pA 9 1=false from rfl,show pA 9 2=false from rfl,show pA 9 3=false from rfl,show pA 9 10=false from rfl,show pA 9 11=false from rfl,show pA 9 8=false from rfl,show pA 9 9=true from rfl,xB,xA];exact one [99,111,110,116,105,110,117,101,59] (by decide)
 | ret I=>
  simp only [show pA 10 1=false from rfl,show pA 10 2=false from rfl,show pA 10 3=false from rfl,show pA 10 10=true from rfl,xB,xA,a6,dA,aC];rcases I with ⟨rfl,I⟩ | ⟨rfl,rfl⟩
  ·have hX:smX bl o (smT 10 a false [] ty0D true pl0 va op0 [] [])=[114,101,116,117,114,110,32]++vaX va++[59]:=rfl
   have l2:=uY I;have ⟨H3,e3,S⟩:=pAe O I R y3;simp only [xA];rw [Q o1,fAf];have J:f131 N (tV U) H=some (vaX va,H3):=e3;rw [J,aA];have ⟨Y,Z,y⟩:=pI O (K.chg S) (xs:=[[114,101,116,117,114,110,32],vaX va,[59]]) (by grind) (by simp) (n:=3) rfl (row:=[.str [114,101,116,117,114,110,32],.str (vaX va),.str [59]]) rfl;rw [Z,aA];refine ⟨Y,rfl,Put.pre c1 (Put.pre S ?_)⟩
   grind
  ·simp only [xB]
   exact one [114,101,116,117,114,110,59] (by decide)
 | drop hp=>
  have hX:smX bl o (smT 11 a false [] ty0D false pl va00 op0 [] [])=[100,114,111,112,32]++plX pl++[59]:=rfl;have l1:=uU hp;have ⟨H2,M,L⟩:=dA7 (N:=N) hp y2;simp only [show pA 11 1=false from rfl,show pA 11 2=false from rfl,show pA 11 3=false from rfl,show pA 11 10=false from rfl,show pA 11 11=true from rfl,xA,xB];rw [a0,eA1,M,aA];have ⟨Y,Z,y⟩:=pI O (K.chg L) (xs:=[[100,114,111,112,32],plX pl,[59]]) (by grind) (by simp) (n:=3) rfl (row:=[.str [100,114,111,112,32],.str (plX pl),.str [59]]) rfl;rw [Z,aA];refine ⟨Y,rfl,Put.pre c1 (Put.pre L ?_)⟩
  grind
end
end Qp
namespace Qp
def tBg {n:Nat} {d:D} (hd:mayN (n+1) d) (p:bI d=4\/bI d=5\/bI d=6\/bI d=7):∃ (k a:Int) (f:Bool) (nm:Bs) (ty:D) (j:Bool) (pl va co:D) (th el:List D),d=smT k a f nm ty j pl va co th el/\thD d=th/\elD d=el/\((k=4/\bG co)\/(k=5/\bG co)\/k=6\/k=7):=by
 obtain ⟨k,a,f,nm,ty,j,pl,va,co,th,el,rfl,_,_,h⟩:=hd;refine ⟨k,a,f,nm,ty,j,pl,va,co,th,el,rfl,rfl,rfl,?_⟩;have r:k=4\/k=5\/k=6\/k=7:=p
 cases h with
 | if_ _ u _=>grind
 | while_ _ u=>grind
 | loop _=>grind
 | block _=>grind
 | _=>omega
theorem uBg {bl:Nat->List D->Bs} {o:Nat} {k a:Int} {j:Bool} {nm:Bs} {ty:D} {f:Bool} {pl va co:D} {th el:List D} (h:k=4\/k=5\/k=6\/k=7):smX bl o (smT k a j nm ty f pl va co th el)=(if k=4 then [105,102,32]++opX co++[32] else if k=5 then [119,104,105,108,101,32]++opX co++[32] else if k=6 then [108,111,111,112,32] else [])++bl o th++(if k=4/\f=true then [32,101,108,115,101,32]++bl o el else []):=by
 rcases h with rfl | rfl | rfl | rfl <;> rfl
section
variable {N:Nat} {h0 h h1 h2:Heap} {A:Nat} {t:Bs} {s:SL} {V:Nat->Prop}
def wBp (hN:3001<=N) (pk:PK h0):∀ (j M o:Nat) (l:List D) (s1:SL) (h:Heap) (t:Bs) (s:SL),3 * j+1<=M->j+o<=500->(∀ x∈l,mayN j x)->(∀ x∈l,gA0 (j+1) x)->l.length<=3000->Sl h0 V s1 l->PQ h0 h A t s->
  ∃ h',f42 N M (some (A,0)) s1 (o:Int) h=some ((),h')/\Put h0 h A s h' (t++blX (j+1) o l):=by
 intro j
 induction j with
 | zero=>
  intro M o l s1 h t s hM ho hm ti hl x p;obtain ⟨M,rfl⟩:∃ m,M=m+1:=⟨M-1,by omega⟩;have H:l=[]:=by
   cases l with
   | nil=>rfl
   | cons y r=>grind [absurd,List.mem_cons_self,mayN]
  subst H;rw [eAr];unfold aB7;have ⟨J,S,sa,B,c1,I⟩:=pI (N:=N) (by omega) p (xs:=[[123,10]]) (by simp) (by simp) (n:=1) rfl (row:=[.str [123,10]]) rfl;dsimp only;rw [S,aA];have f:Int.ofNat s1.len=0:=by rw [x.len];rfl
  have ⟨out,H2,Q,y⟩:=kAr (N:=N) (rec132:=f132 N M) (rec42:=f42 N M) (rec83:=f83 N M) (by omega) (o:=o) (T:=fun _=>[]) (by omega) hl (m:=1) (fun z hz=>by cases hz) x (fun d hd=>by cases hd) N 0 J _ sa (xD _) (by simp;omega) B;have u:kAa N (f132 N M) (f42 N M) (f83 N M) N (some (A,0)) (o:Int) s1 (Int.ofNat s1.len) 0 J=some (out,(some (A,0),(o:Int),()),H2):=by rw [f];exact Q
  rw [u,mB];dsimp only;rcases y with ⟨rfl,sb,C,c2,W⟩ | ⟨rfl,y⟩
  ·simp only [show vD (.exit 0) (.exit 0)=true from rfl,xA]
   have ⟨H3,e3,sc,K,L,Z⟩:=mB2 (N:=N) (by omega) C (k:=o) (by omega);rw [e3,aA];have ⟨R,X,y4⟩:=pI (N:=N) (by omega) K (xs:=[[125]]) (by simp) (by simp) (n:=1) rfl (row:=[.str [125]]) rfl;rw [X,aA];refine ⟨R,rfl,Put.trans' B c1 I (Put.trans' C c2 W (Put.trans' K L Z ?_))⟩;simpa [blX] using y4
  ·simp only [show vD .ret (.exit 0)=false from rfl,xB]
   refine ⟨H2,rfl,Put.trans' B c1 I ?_⟩
   grind [Lib.repeatL,blX]
 | succ j ih=>
  intro M o l s1 h t s hM ho hm ti hl x p;obtain ⟨M,rfl⟩:∃ m,M=m+1+1+1:=⟨M-3,by omega⟩;rw [eAr];unfold aB7;have ⟨J,S,sa,B,c1,I⟩:=pI (N:=N) (by omega) p (xs:=[[123,10]]) (by simp) (by simp) (n:=1) rfl (row:=[.str [123,10]]) rfl;dsimp only;rw [S,aA];have f:Int.ofNat s1.len=((l.length:Nat):Int):=by rw [x.len];rfl
  have ⟨out,H2,Q,y⟩:=kAr (N:=N) (rec132:=f132 N (M+1+1)) (rec42:=f42 N (M+1+1)) (rec83:=f83 N (M+1+1)) (by omega) (o:=o) (T:=smX (blX (j+1)) (o+1)) (by omega) hl ti x (fun d hd r h t s dd O=>by
   have w:=hm d hd;have tid:=ti d hd;have ⟨h',e',y'⟩:=vBp (N:=N) (rec132:=f132 N (M+1)) (rec42:=f42 N (M+1)) (rec83:=f83 N (M+1)) (o:=o+1) (by omega) w tid pk dd (bl:=blX (j+1)) (fun h t s hk O=>by
    have ⟨k,a,mu,nm,ty,hs,pl,va,co,th,el,F,a0,a2,Y⟩:=tBg w hk;have t4:isTy 65 ty/\isLf pl/\isVa va/\isOp co:=by
     rw [F] at tid;have ⟨q1,q2,q3,q4,_⟩:=eAe tid
     grind
    have a3:k=4\/k=5\/k=6\/k=7:=by
     grind
    rw [bB2];have key:=rBg (N:=N) (rec132:=f132 N M) (rec42:=f42 N M) (rec83:=f83 N M) (o:=o+1) (by omega) t4 pk (by rw [<- F];exact dd) Y (bl:=blX (j+1) (o+1)) (fun l2 s2 h t s a1 x2 C=>by
     have U:l2=thD d\/l2=elD d:=by grind
     have ⟨q1,q2,q3⟩:=qAn w tid U;exact ih M (o+1) l2 s2 h t s (by omega) (by omega) q1 q2 q3 x2 C) O
    grind [uBg]) O
   grind [cB7]) N 0 J _ sa (xc _) (by omega) B
  have u:kAa N (f132 N (M+1+1)) (f42 N (M+1+1)) (f83 N (M+1+1)) N (some (A,0)) (o:Int) s1 (Int.ofNat s1.len) 0 J=some (out,(some (A,0),(o:Int),()),H2):=by rw [f];exact Q
  rw [u,mB];dsimp only;rw [List.drop_zero] at y;have hX:blX (j+1+1) o l=[123,10]++(l.map fun d=>Lib.repeatL [9] (o+1)++smX (blX (j+1)) (o+1) d++[10]).flatten++Lib.repeatL [9] o++[125]:=rfl;rcases y with ⟨rfl,sb,C,c2,W⟩ | ⟨rfl,y⟩
  ·simp only [show vD (.exit 0) (.exit 0)=true from rfl,xA]
   have ⟨H3,e3,sc,K,L,Z⟩:=mB2 (N:=N) (by omega) C (k:=o) (by omega);rw [e3,aA];have ⟨R,X,y4⟩:=pI (N:=N) (by omega) K (xs:=[[125]]) (by simp) (by simp) (n:=1) rfl (row:=[.str [125]]) rfl;rw [X,aA];refine ⟨R,rfl,Put.trans' B c1 I (Put.trans' C c2 W (Put.trans' K L Z ?_))⟩
   grind
  ·simp only [show vD .ret (.exit 0)=false from rfl,xB]
   refine ⟨H2,rfl,Put.trans' B c1 I ?_⟩
   grind
end
end Qp
namespace Qp
def pAa:∀ (b:Bs),bM (ofBytes b)=some b
 | []=>rfl
 | x::r=>by
  have:x.toNat<256:=by have:=x.toBitVec.isLt;exact this
  simp only [ofBytes,bM,pAa r,Int.toNat_natCast];simp
section
variable {N:Nat} {h0 h h1 h2:Heap} {A:Nat} {b t:Bs} {s:SL} {V:Nat->Prop}
def yBp (p:PrB h A b s) (I:b.length<=1000000000):∃ h',f44 N (some (A,0)) h=some (b,h')/\Chg s.blk.toList h h':=by
 unfold f44;have f:=p.cell;rcases p.buf with ⟨rfl,rfl⟩ | ⟨B,rfl,h2,C,y,F⟩
 ·simp only [fA,xC,f,dA,qA]
  exact ⟨h,by simp [oF,f];rfl,(Chg.refl [] h).mono (by simp)⟩
 ·simp only [fA,xC,f,dA,qA]
  obtain ⟨k,r⟩:∃ k,b.length=k+1:=⟨b.length-1,by omega⟩;have w:oF E .unsafeSliceData [81] [(.slice (some (B,0)) b.length b.length 1)] h=some (.ptr (some (B,0)),h):=by rw [r];rfl
  have H:(ofBytes b).length=k+1:=by rw [lH,r]
  have u:oF E .unsafeString [144,3] [(.ptr (some (B,0))),(yI0 (Int.ofNat b.length))] h=some (.str b,h.put B (.row (ofBytes b) .ro)):=by
   rw [r];show kM E 144 B (.ofNat (k+1)) h=_;unfold kM;have j:(Nat.ble (k+1) 1073741824&&nAo (ofBytes b) (ofBytes b))=true:=by
    rw [xG,Nat.ble_eq];exact ⟨by omega,nM _⟩
   rw [oBp,y];simp only [show Nat.beq 5 5=true from rfl,xA,lBu];rw [iI _ _ (by grind),List.take_of_length_le (by grind)];simp only [pAa,j,xA]
  rw [w,fAj];simp only [f,dA,qA];rw [u];have c:Chg [B] h (h.put B (.row (ofBytes b) .ro)):=(Chg.refl [B] h).put (.inl (by simp)) _;refine ⟨_,?_,c⟩;simp only [rF,yA,jC,xA,yB]
end
def stX:D->Bs
 | .t [.b pub,.s nm,.l lv,.l f,_]=>(if pub=true then [112,117,98,32] else [])++[115,116,114,117,99,116,32]++nm++dF (txS lv)++[32,123,32]++(if uM f=[] then [] else uM f++[32])++[125,10]
 | _=>[]
def hdX:D->Bs
 | .t [.b pub,.s nm,.l lv,.l ps,ty,.l _,_]=>vY pub nm lv ps ty
 | _=>[]
def bdX:D->Bs
 | .t [_,_,_,_,_,.l bd,_]=>blX 65 0 bd
 | _=>[]
def fuX (d:D):Bs:=hdX d++[32]++bdX d++[10]
def crX (xs ys:List D):Bs:=(xs.map stX).flatten++(ys.map fuX).flatten
section
variable {N:Nat} {h0 h h1 h2:Heap} {A:Nat} {t:Bs} {s:SL} {V:Nat->Prop}
def oB2 {lv:List Bs} (h:qB6 64 lv):(dF lv).length<=2400:=by
 cases lv with
 | nil=>simp [dF]
 | cons y r=>
  have:=aM (B:=32) (l:=y::r) (sep:=[44,32,39]) fun w f=>(kE (h.2 w f)).2
  have:=xT this (xT (Nat.mul_le_mul h.1 (xD _)) (show 64 * (32+([44,32,39]:Bs).length)<=2300 by decide))
  rw [<- oAa];simp;omega
def iAj (hN:3001<=N) {P:zH3} {xs:List D} (hx:∀ x∈xs,jA1 x) (ti:∀ x∈xs,isSt x) (hl:xs.length<=300) {s1:SL} (x:Sl h0 V s1 xs) :
  ∀ (M i:Nat) (h:Heap) (t:Bs) (s:SL),i<=xs.length->xs.length-i<M->PQ h0 h A t s->∃ h',lAa N M P (some (A,0)) s1 (xs.length:Int) (i:Int) h=some (.exit 0,(P,some (A,0),()),h')/\Put h0 h A s h' (t++((xs.drop i).map stX).flatten):=by
 intro M
 induction M with
 | zero=>grind
 | succ M ih=>
  intro i h t s hi hM p;rw [yAn];unfold nAe;simp only [qC]
  by_cases q:i<xs.length
  ·simp only [q,xO,xA]
   have hm:=xR q;have ⟨r,g,d⟩:=pS.elt x q (ti _ hm);rw [x.ix q 5,wY p.base (qAe x q),g,bBm];have ⟨Z,p5,c5,o5⟩:=pS.park (z:=stc st0) rfl h r;have a5:∀ {β:Type} (K:Heap->Option β),vA ((h.push (.row yZF .own)).store (h.next,0) (yRG r)) K=K Z:=p5;rw [a5];have hd:(xs.drop i)=xs[i]::xs.drop (i+1):=List.drop_eq_getElem_cons q;have Y:=hx _ hm;generalize xs[i]=y at *;obtain ⟨pub,nm,lv,u,a,rfl,hn,B,Q⟩:=Y;have j:=p.base.trans c5;have ⟨R,s2',hc,L,X⟩:=iA0 d;obtain rfl:=pS.inj hc;have L:=L.chg j;have X:=X.chg j;have a6:=p.chg c5;have o3:Z.cell (h.next,3)=some (yL s2'):=o5.cell 3;simp only [xC,xX,o3,dA,qA];have ⟨f,e7,U⟩:=qB9 (N:=N) (by omega) Q X;have a3:f38 N s2' Z=some (uM u,f):=e7;rw [a3,aA];have o7:=o5.chg U;have a0:f.cell (h.next,0)=some (.bool pub):=o7.cell 0;have S:f.cell (h.next,1)=some (.str nm):=o7.cell 1;have a2:f.cell (h.next,2)=some (yL R):=o7.cell 2;have a4:=a6.chg U;have L:=L.chg U;have O:f41 N R f=some (dF lv,f):=pB9 L B.1 B.2;have l1:=tA2 Q;have l2:=oB2 B;have l3:=oI hn;have l4:(if pub=true then [112,117,98,32] else []:Bs).length<=4:=by cases pub <;> simp
   have hX:stX (bV pub nm lv u a)=(if pub=true then [112,117,98,32] else [])++[115,116,114,117,99,116,32]++nm++dF lv++[32,123,32]++(if uM u=[] then [] else uM u++[32])++[125,10]:=by
    show _++_++nm++dF (txS (lv.map D.s))++_++_++_=_;rw [fH]
   rw [hd,List.map_cons,List.flatten_cons,hX];have I:f40 N pub f=some ((if pub=true then [112,117,98,32] else []:Bs),f):=tB9 pub f;generalize (if pub=true then [112,117,98,32] else []:Bs)=W at *;generalize dF lv=Mk at *;have fin:∀ (F:Bs),F.length<=500000->∃ C h',f39 N (some (A,0)) ⟨some (f.next,0),7,7,1⟩ (f.push (.row [(.str W),(.str [115,116,114,117,99,116,32]),(.str nm),(.str Mk),(.str [32,123,32]),(.str F),(.str [125,10])] .own))=some ((),C)/\
     lAa N M P (some (A,0)) s1 (xs.length:Int) ((i+1:Nat):Int) C=some (.exit 0,(P,some (A,0),()),h')/\Put h0 h A s h' (t++(W++[115,116,114,117,99,116,32]++nm++Mk++[32,123,32]++F++[125,10]++((xs.drop (i+1)).map stX).flatten)):=by
    intro F hF;have ⟨C,H,s8,p8,c8,n8⟩:=pI (N:=N) (by omega) a4 (xs:=[W,[115,116,114,117,99,116,32],nm,Mk,[32,123,32],F,[125,10]]) (by
     intro w hw;simp only [List.mem_cons,List.not_mem_nil,or_false] at hw;rcases hw with rfl | rfl | rfl | rfl | rfl | rfl | rfl <;> first | omega | simp) (by simp) (n:=7) rfl (row:=[(.str W),(.str [115,116,114,117,99,116,32]),(.str nm),(.str Mk),(.str [32,123,32]),(.str F),(.str [125,10])]) rfl
    have ⟨h',e',y⟩:=ih (i+1) C _ s8 q (by omega) p8;refine ⟨C,h',H,e',Put.pre (c5.trans U) (Put.trans' p8 c8 n8 ?_)⟩;simpa using y
   by_cases J:uM u=[]
   ·have z:bB (uM u) []=true:=by rw [J];rfl
    simp only [z,xV,xB,a0,dA,aC];rw [I,aA];simp only [S,a2,dA,yA,qA];rw [O,aA,if_pos J];have ⟨C,h',H,e',y⟩:=fin (uM u) (by omega);rw [J] at H y ⊢;rw [H,aA];simp only [S,jC,xA,yB]
    grind [iB]
   ·have z:bB (uM u) []=false:=by
     cases hq:uM u with
     | nil=>exact absurd hq J
     | cons _ _=>rfl
    simp only [z,Bool.not_false,xA];rw [yC (by simp;omega)];simp only [a0,dA,aC,yA];rw [I,aA];simp only [S,a2,dA,yA,qA];rw [O,aA,if_neg J];have ⟨C,h',H,e',y⟩:=fin (uM u++[32]) (by simp;omega);rw [H,aA];simp only [S,jC,xA,yB]
    grind [iB]
  ·simp only [q,xQ,xB]
   have:xs.drop i=[]:=List.drop_eq_nil_of_le (by omega)
   rw [this];exact ⟨h,rfl,by simpa using p.same⟩
def cAv (hN:3001<=N) (pk:PK h0) {xs:List D} (hx:∀ x∈xs,pY x) (ti:∀ x∈xs,isFu x) (hl:xs.length<=300) {s1:SL} (x:Sl h0 V s1 xs) :
  ∀ (M i:Nat) (h:Heap) (t:Bs) (s:SL),i<=xs.length->xs.length-i<M->PQ h0 h A t s->∃ h',eAj N M (some (A,0)) s1 (xs.length:Int) (i:Int) h=some (.exit 2,(some (A,0),()),h')/\Put h0 h A s h' (t++((xs.drop i).map fuX).flatten):=by
 intro M
 induction M with
 | zero=>grind
 | succ M ih=>
  intro i h t s hi hM p;rw [wAn];unfold mAe;simp only [qC]
  by_cases q:i<xs.length
  ·simp only [q,xO,xA]
   have L:=xR q;obtain ⟨r,g,d⟩:=oU.elt x q (ti _ L);rw [x.ix q 10,wY p.base (qAe x q),g,gBm];obtain ⟨h5,p5,Y,o5⟩:=oU.park (z:=fux (fuv (vI false [] 0))) rfl h r;have a0:∀ {β:Type} (K:Heap->Option β),vA ((h.push (.row yZC .own)).store (h.next,0) (yRC r)) K=K h5:=p5;rw [a0,oU.cells o5];have hd:(xs.drop i)=xs[i]::xs.drop (i+1):=List.drop_eq_getElem_cons q;have J:=hx _ L;have a2:=ti _ L;generalize xs[i]=y at *;obtain ⟨pub,nm,lv,ps,ty,bd,a,rfl,hn,C,H,B,W,a7⟩:=J;have tt:isTy 65 ty/\bd.length<=3000/\∀ s∈bd,gA0 65 s:=by
    obtain ⟨a6,a9,b3,b2,b0,b1,a',e,_,_,_,_,h1,h2,h3⟩:=a2;simp only [fuT,D.t.injEq,List.cons.injEq,D.i.injEq,D.b.injEq,D.s.injEq,D.l.injEq,and_true] at e
    grind
   obtain ⟨t1,t2,t3⟩:=tt;obtain ⟨a4,s2',w,rt,hc,y1,y2,yt,y3⟩:=eAa t1 d;obtain ⟨f,j⟩:∃ f:FuR,f=⟨pub,nm,a4,s2',rt,w,(a:Int)⟩:=⟨_,rfl⟩;rw [<- j] at hc;have hr:r=fuv f:=oU.inj hc;subst hr;have u:=p.base.trans Y;have a5:=p.chg Y;obtain ⟨h7,e7,S⟩:=uB9 (N:=N) (by omega) f (lv:=lv) (ps:=ps) (ty:=ty) (by rw [j];exact hn) C H B (by rw [j];exact y1.chg u) (by rw [j];exact y2.chg u) (by grind [Dt.chg]);have U:vY f.pub f.nm lv ps ty=hdX (fuT pub nm lv ps ty bd a):=by rw [j];rfl
   have l1:=nB2 (pub:=f.pub) (nm:=f.nm) (by rw [j];exact hn) C H B;rw [U] at e7 l1;have O:f20 N ((fuv f).1,(fuv f).2.1,(fuv f).2.2.1,(fuv f).2.2.2.1,(fuv f).2.2.2.2.1,(fuv f).2.2.2.2.2.1,(fuv f).2.2.2.2.2.2.1,(fuv f).2.2.2.2.2.2.2.1,(fuv f).2.2.2.2.2.2.2.2.1,(fuv f).2.2.2.2.2.2.2.2.2.1,()) h5=some (hdX (fuT pub nm lv ps ty bd a),h7):=e7;rw [O,aA];have X:=a5.chg S;have o7:=o5.chg S;obtain ⟨h8,e8,s8,p8,c8,n8⟩:=pI (N:=N) (by omega) X (xs:=[hdX (fuT pub nm lv ps ty bd a),[32]]) (by
     grind) (by simp) (n:=2) rfl (row:=[(.str (hdX (fuT pub nm lv ps ty bd a))),(.str [32])]) rfl
   rw [e8,aA];have o8:=o7.chg c8 (p.out (xD _));have a8:h8.cell (h.next,8)=some (yL w):=by
    have:(fuc f)[8]? = some (yL w):=by rw [j];rfl
    rw [<- this];exact o8.cell 8
   simp only [xC,a8,dA,qA];obtain ⟨h9,e9,s9,p9,c9,n9⟩:=wBp (N:=N) hN pk 64 N 0 bd w h8 _ s8 (by omega) (by omega) W t3 t2 y3 p8;have I:f42 N N (some (A,0)) w 0 h8=some ((),h9):=e9;rw [I,aA];obtain ⟨Q,R,Z,F,a3,a1⟩:=pI (N:=N) (by omega) p9 (xs:=[[10]]) (by simp) (by simp) (n:=1) rfl (row:=[.str [10]]) rfl;rw [R,aA,iB (by omega)];obtain ⟨h',e',yy⟩:=ih (i+1) Q _ Z q (by omega) F;refine ⟨h',e',Put.pre (Y.trans S) (Put.trans' p8 c8 n8 (Put.trans' p9 c9 n9 (Put.trans' F a3 a1 ?_)))⟩;rw [hd,List.map_cons,List.flatten_cons];have hX:fuX (fuT pub nm lv ps ty bd a)=hdX (fuT pub nm lv ps ty bd a)++[32]++blX (64+1) 0 bd++[10]:=rfl;rw [hX];simpa using yy
  ·simp only [q,xQ,xB]
   have:xs.drop i=[]:=List.drop_eq_nil_of_le (by omega)
   rw [this];exact ⟨h,rfl,by simpa using p.same⟩
def aBq (h:Heap):PQ h (h.push (.row [(.ptr none),yS0] (.ty 85))) h.next [] ⟨none,0,0,0⟩:=by
 refine ⟨[],⟨⟨none,iG _ rfl,.inl rfl⟩,xP _,.inl ⟨rfl,rfl⟩⟩,(fun B f=>by cases f),xD _,uA h _,⟨by simp,.inl ⟨by simp,rfl⟩⟩⟩
def PrA (h:Heap) (r:Bs×AV×Unit) (x:Bs):Prop:=(x.length<=1048576/\r=(x,AV.nilIface,()))\/(1048576<x.length/\r.1=[]/\aA5 h r.2.1 5 0)
def vB9 (W:3001<=N) {xs ys:List D} (hx:∀ x∈xs,jA1 x) (hy:∀ y∈ys,pY y) (tx:∀ x∈xs,isSt x) (ty:∀ y∈ys,isFu y) (hl:xs.length+ys.length<=256) (F:PK h) {s1 s2:SL} (C:Sl h V s1 xs) (u:Sl h V s2 ys):∃ r h',f16 N (s1,s2,()) h=some (r,h')/\Chg [] h h'/\PrA h' r (crX xs ys):=by
 unfold f16;have o:=wA h [SL.av s1,SL.av s2];have c:=uA h (.row [SL.av s1,SL.av s2] .own);have e1:h.push (.row [(yL s1),(yL s2)] .own)=h.push (.row [SL.av s1,SL.av s2] .own):=rfl;dsimp only;rw [e1];have F:=F.chg c;have C:=C.chg c;have u:=u.chg c;generalize h.push (.row [SL.av s1,SL.av s2] .own)=H at *;rw [show H.cells (h.next,0) 2=some (.agg [SL.av s1,SL.av s2]) from o.cells (j:=0) (m:=2) (by simp)];have e2:∀ {β:Type} (K:zR1->Option β),iA (.val zQ) (some (.agg [SL.av s1,SL.av s2])) K=K (s1,s2,()):=fun K=>by simp [SL.av]
 rw [e2];have ⟨p,e3,c1⟩:=vBo (N:=N) W hx hy tx ty hl F C u;have Q:f33 N ((s1,s2,()).1,(s1,s2,()).2.1,()) H=some (true,p):=e3;rw [Q,aA];simp only [xV,xB];have o1:=o.chg c1;have F:=F.chg c1;have C:=C.chg c1;have u:=u.chg c1;have p8:=aBq p;have c8:=uA p (.row [(.ptr none),yS0] (.ty 85));generalize p.push (.row [(.ptr none),yS0] (.ty 85))=S at *;have o8:=o1.chg c8;have a0:S.cell (h.next,0)=some (yL s1):=o8.cell 0;have l1:s1.len=xs.length:=C.len;have l2:s2.len=ys.length:=u.len;simp only [xX,a0,dA,qA];have ⟨L,e9,s9,p9,c9,n9⟩:=iAj (N:=N) (h0:=p) (A:=p.next) (P:=some (h.next,0)) W hx tx (by omega) C N 0 S [] _ (xc _) (by omega) p8;have O:lAa N N (some (h.next,0)) (some (p.next,0)) s1 (Int.ofNat s1.len) 0 S=some (.exit 0,(some (h.next,0),some (p.next,0),()),L):=by
  rw [show Int.ofNat s1.len=(xs.length:Int) from congrArg Int.ofNat l1];exact e9
 rw [O,mB];have U:Chg [] p L:=p9.base;have o9:=o1.chg U;have a1:L.cell (h.next,1)=some (yL s2):=o9.cell 1;simp only [fA,xC,a1,dA,qA];have ⟨w,R,a2,M,a4,a3⟩:=cAv (N:=N) (h0:=p) (A:=p.next) W F hy ty (by omega) u N 0 L _ s9 (xc _) (by omega) p9;have J:eAj N N (some (p.next,0)) s2 (Int.ofNat s2.len) 0 L=some (.exit 2,(some (p.next,0),()),w):=by
  rw [show Int.ofNat s2.len=(ys.length:Int) from congrArg Int.ofNat l2];exact R
 rw [J,mB];have Z:[]++((xs.drop 0).map stX).flatten++((ys.drop 0).map fuX).flatten=crX xs ys:=by simp [crX]
 rw [Z] at M;generalize crX xs ys=X at *;have ⟨b,pb,hs,hA,cb,lb⟩:=M;simp only [fA,iB2 pb,aA];have I:ltInt 1048576 (b.length:Int)=decide (1048576<b.length):=by
  grind [ltI,decide_eq_true,decide_eq_false]
 rw [I];have cc:Chg [] h w:=(c.trans c1).trans cb
 by_cases hb:1048576<b.length
 ·simp only [hb,xO,xA]
  have ⟨v,h',e,Y,f⟩:=eAy N (c:=5) (by decide) 0 w;rw [e,aA];refine ⟨_,h',rfl,cc.trans Y,.inr ⟨?_,rfl,f⟩⟩;rcases lb.2 with ⟨l,e⟩ | ⟨l,_⟩
  ·subst e;omega
  ·exact l
 ·simp only [hb,xQ,xB]
  have ⟨h',e,Y⟩:=yBp (N:=N) pb (by omega);rw [e,aA];refine ⟨_,h',rfl,?_,.inl ?_⟩
  ·exact cc.step Y fun B hB I=>by
    have h1:=hs B (nBg hB);have h2:=c.next;have h3:=c1.next;omega
  ·rcases lb.2 with ⟨l,e⟩ | ⟨_,l⟩
   ·grind
   ·omega
end
end Qp
namespace Qp
abbrev Rn (k:Nat) (s t:St):Prop:=k+40 * s.1<=40 * t.1
def Ok {σ α:Type} (st:σ->St) (F:σ->α×σ) (Q:σ->α->σ->Prop):Prop:=∀ s,(st (F s).2).2=none->(st s).2=none/\Q s (F s).1 (F s).2
section
variable {σ α β:Type} {st:σ->St} {P:σ->α->σ->Prop} {Q R:σ->β->σ->Prop}
theorem Ok.bnd {f:σ->α×σ} {g:α->σ->β×σ} (B:Ok st f P) (p:∀ x,Ok st (g x) (fun s y t=>∀ j,P j x s->Q j y t)):Ok st (Qp.bnd f g) Q:=fun s h=>by
 have ⟨r,u⟩:=p _ _ h;have ⟨w,A⟩:=B s r;exact ⟨w,u _ A⟩
def Ok.map {f:σ->α×σ} {h:α->β} (u:Ok st f P) (r:∀ s x t,P s x t->Q s (h x) t):Ok st (nG h f) Q:=fun s q=>by
 have ⟨j,p⟩:=u s q;exact ⟨j,r _ _ _ p⟩
def Ok.imp {F:σ->β×σ} (f:Ok st F R) (p:∀ s x t,R s x t->Q s x t):Ok st F Q:=fun s q=>by
 have ⟨h,j⟩:=f s q
 grind
def Ok.ret {x:β} (f:∀ s,Q s x s):Ok st (qI x) Q:=fun s h=>⟨h,f s⟩
def Ok.ite {c:σ->Bool} {Y X:σ->β×σ} (p:Ok st Y Q) (j:Ok st X Q):Ok st (fun s=>if c s=true then Y s else X s) Q:=fun s h=>by
 by_cases f:c s=true
 ·simp only [if_pos f] at h ⊢;exact p s h
 ·simp only [if_neg f] at h ⊢;exact j s h
end
section
variable {T:List Tok} {α:Type} {Q:St->α->St->Prop}
theorem Ok.of {F:St->α×St} (f:∀ i,(F (i,none)).2.2=none->Q (i,none) (F (i,none)).1 (F (i,none)).2) (j:∀ i e,(F (i,some e)).2.2.isSome=true):Ok id F Q:=fun s h=>by
 have ⟨i,o⟩:=s
 cases o with
 | none=>grind
 | some e=>
  grind
def rAe {w:Bs} {σ:St} (h:¬ (uB T w σ).1=true):(uB T w σ).2=σ:=by
 have ⟨i,o⟩:=σ;cases o <;> grind [uB]
def lAr (w:Bs):Ok id (uB T w) (fun s b t=>Rn (if b=true then 40 else 0) s t):=fun s h=>by
 by_cases f:(uB T w s).1=true
 ·grind [yF]
 ·have h:(uB T w s).2.2=none:=h
  rw [rAe f] at h ⊢
  grind
theorem tAe (c:Int) (x:α):Ok id (uAz T c x) Q:=Ok.of (fun _ h=>by cases h) fun _ _=>rfl
def bAo (k:Int):Ok id (kC T k) (fun s x t=>(∃ i,(tk T i).1=k/\x=(tk T i).2.1)/\Rn 40 s t):=Ok.of (fun i h=>by
 by_cases f:(tk T i).1=k
 ·simp only [kC,if_pos f]
  grind
 ·simp only [kC,if_neg f,oG] at h
  cases h) fun _ _=>rfl
def nBu {i:Nat} (h:(tk T i).1≠0):i<T.length:=by
 grind [tk,List.getElem?_eq_none,Nat.le_of_not_lt]
def wB9 {w:Bs} {i:Nat} (h:isS T w i=true):i<T.length:=nBu (by
 simp only [isS,xG,xU] at h;omega)
theorem yB9 {w:Bs} {s:St} (h:(uB T w s).1=true):s.1<T.length:=by
 have ⟨i,o⟩:=s
 cases o with
 | some e=>cases h
 | none=>
  by_cases q:isS T w i=true
  ·exact wB9 q
  ·simp only [uB,if_neg q] at h;cases h
def fG (w:Bs):Ok id (iE T w) (fun s _ t=>Rn 40 s t/\t.1<=T.length):=fun s h=>by
 by_cases f:(uB T w s).1=true
 ·have ⟨j,p⟩:=yF f
  simp only [iE,eD,if_pos f,j];exact ⟨p,by omega,yB9 f⟩
 ·exfalso
  have ⟨i,o⟩:=s;have h:(eD T w (i,o)).2=none:=h;rw [eD,if_neg f,rAe f] at h;cases o <;> cases h
def oE (w:Bs) {Y X:St->α×St} (r:Ok id Y (fun s y t=>∀ j,Rn 40 j s/\s.1<=T.length->Q j y t)) (p:Ok id X Q):Ok id (lI T w Y X) Q:=fun s h=>by
 unfold lI at h ⊢
 by_cases f:(uB T w s).1=true
 ·simp only [if_pos f] at h ⊢
  have ⟨u,A⟩:=r _ h
  grind [yF,yB9]
 ·simp only [if_neg f,rAe f] at h ⊢
  exact p _ h
def pB2 (f:Toks T) {i:Nat} (h:(tk T i).1≠0):TokOK (tk T i)/\i<T.length:=by
 by_cases q:i<T.length
 ·rw [jB5 q];exact ⟨f.ok _ (xR q),q⟩
 grind [absurd,tk,List.getElem?_eq_none,Nat.le_of_not_lt]
def fJ (j:Toks T):Ok id (kC T 1) (fun s x t=>jE x=true/\Rn (x.length+6) s t):=(bAo 1).imp fun s x t ⟨⟨i,f,h⟩,p⟩=>by
 have r:jE x=true:=by rw [h];exact (pB2 j (by omega)).1.name f
 grind [kE,tA9]
def uA2 (p:Toks T):Ok id (kC T 3) (fun s x t=>yG x=true/\Rn 40 s t):=(bAo 3).imp fun s x t ⟨⟨i,f,h⟩,j⟩=>by
 exact ⟨by rw [h];exact (pB2 p (by omega)).1.life f,j⟩
def vBg (j:Toks T):Ok id (kC T 4) (fun s x t=>mS x 0<=2147483647/\Rn 40 s t):=(bAo 4).imp fun s x t ⟨⟨i,f,h⟩,p⟩=>by
 rw [h]
 have:=((pB2 j (by omega)).1.num f).1
 simp only [fY,xG,Nat.ble_eq] at this;omega
def cAo (j:Toks T):Ok id (rK T) (fun s x t=>uA7 x/\Rn (x.length+6) s t):=by
 have h:∀ T,rK T=bnd (kC T 1) fun a=>lI T [58,58] (nG (fun c=>a++[58,58]++c) (kC T 1)) (qI a):=fun T=>rfl;rw [h];exact (fJ j).bnd fun a=>oE _ ((fJ j).map fun s c t p s1 u r f=>⟨.inr ⟨a,c,rfl,f.1,p.1⟩,by grind⟩) (Ok.ret fun s r f=>⟨.inl f.1,f.2⟩)
def jB7 (w:Toks T):∀ g,Ok id (pJ T g) (fun s l t=>qB6 g l/\Rn (40 * l.length) s t):=fun g=>by
 induction g with
 | zero=>
  have h0:∀ T,pJ T 0=uAz T 5 ([]:List Bs):=fun T=>rfl
  grind [tAe]
 | succ g u=>
  have h:∀ T g,pJ T (g+1)=bnd (kC T 3) fun a=>lI T [44] (nG (a::·) (pJ T g)) (qI [a]):=fun T g=>rfl;rw [h];exact (uA2 w).bnd fun a=>oE _ (u.map fun s l t p s1 h r j=>⟨⟨by have:=p.1.1;grind,fun x f=>by
   rcases List.mem_cons.1 f with rfl | f
   ·grind
   ·exact p.1.2 x f⟩,by grind⟩) (Ok.ret fun s r j=>⟨⟨by simp,fun x f=>by grind⟩,j.2⟩)
def kB7:∀ {lv:List Bs},(∀ x∈lv,yG x=true)->(dF lv).length<=40 * lv.length
 | [],_=>xD _
 | x::r,h=>by
  grind [kE,lY,dF]
def mAr (j:Toks T):Ok id (tI T) (fun s l t=>qB6 64 l/\Rn (dF l).length s t):=by
 have h:∀ T,tI T=lI T [60] (bnd (pJ T 64) fun l=>nG (fun _=>l) (iE T [62])) (qI []):=fun T=>rfl;rw [h];exact oE _ ((jB7 j 64).bnd fun l=>(fG _).map fun s _ t r s1 f p h0=>⟨f.1,by have:=f.2;have:=kB7 f.1.2;omega⟩) (Ok.ret fun s=>⟨⟨by simp,by simp⟩,by simp [dF]⟩)
def wBg {P:D->Prop} {X:D->Bs} {sp:Bs} (B:sp.length<=6) {one:St->D×St} (u:Ok id one (fun s d t=>P d/\Rn ((X d).length+6) s t)) (sep:Bs):∀ g,Ok id (oW T one sep g) (fun s l t=>uO g P l/\Rn ((Qb.joinL (l.map X) sp).length+6) s t):=fun g=>by
 induction g with
 | zero=>
  have h0:∀ T one,oW T one sep 0=uAz T 5 ([]:List D):=fun T one=>rfl
  grind [tAe]
 | succ g A=>
  have j:∀ T one g,oW T one sep (g+1)=bnd one fun a=>lI T sep (nG (a::·) (oW T one sep g)) (qI [a]):=fun T one g=>rfl;rw [j];exact u.bnd fun a=>oE _ (A.map fun s l t h s1 j w p=>⟨⟨by have:=h.1.1;grind,fun x f=>by
   rcases List.mem_cons.1 f with rfl | f
   ·grind
   ·exact h.1.2 x f⟩,by
    have:=h.2;have:=p.2
    cases l with
    | nil=>grind [Qb.joinL]
    | cons y r=>
     grind [Qb.joinL,xN]⟩) (Ok.ret fun s w p=>⟨⟨by simp,fun x f=>by grind⟩,by grind [Qb.joinL]⟩)
def jS {P:D->Prop} {X:D->Bs} {sp:Bs} (f:sp.length<=6) {one:St->D×St} (j:Ok id one (fun s d t=>P d/\Rn ((X d).length+6) s t)) (sep:Bs):Ok id (qD T one sep) (fun s l t=>uO 64 P l/\Rn ((Qb.joinL (l.map X) sp).length+6) s t):=Ok.of (fun i h=>(wBg f j sep 64 (i,none) h).2) fun _ _=>rfl
def bBq (f:Toks T):Ok id (jY T) (fun s l t=>qB6 1 l/\Rn (40 * l.length) s t):=by
 have h:∀ T,jY T=fun σ=>if (fun σ:St=>decide ((tk T σ.1).1=3)) σ=true then nG (fun x=>[x]) (kC T 3) σ else qI [] σ:=fun T=>by
  funext σ
  simp only [jY,nG,qI,xU]
 rw [h];exact Ok.ite ((uA2 f).map fun s x t j=>⟨⟨by simp,fun y p=>by grind⟩,j.2⟩) (Ok.ret fun s=>⟨⟨by simp,by simp⟩,by simp⟩)
def nAr (j:Toks T):∀ g,Ok id (nJ T g) (fun s d t=>lL g d/\Rn ((tyX g d).length+6) s t):=fun g=>by
 induction g with
 | zero=>
  have h0:∀ T,nJ T 0=uAz T 6 (tyD 0 [] [] []):=fun T=>rfl
  grind [tAe]
 | succ g C=>
  have K:Ok id (lI T [105,110,116] (qI (tyD 1 [] [] [])) (lI T [98,111,111,108] (qI (tyD 2 [] [] []))
   (lI T [38] (bnd (jY T) fun d=>bnd (uB T [109,117,116]) fun m=>nG (fun t=>tyD (if m=true then 5 else 4) [] d [t]) (nJ T g))
    (bnd (rK T) fun n=>nG (fun l=>tyD 3 n l []) (tI T))))) (fun s d t=>∃ p:PT,d=p.D/\p.ok (g+1)/\Rn (p.txt.length+6) s t):=
   oE _ (Ok.ret fun s B h0=>⟨.int,rfl,trivial,by grind [PT.txt]⟩) (oE _ (Ok.ret fun s B h0=>⟨.bool,rfl,trivial,by grind [PT.txt]⟩) (oE _
    ((bBq j).bnd fun d=>(lAr _).bnd fun m=>C.map fun s t u J s1 L s2 hd M F=>by
     obtain ⟨⟨p,rfl,y⟩,f⟩:=J;rw [qA0 y] at f;refine ⟨.ref m d p,by cases m <;> rfl,⟨hd.1.1,hd.1.2,y⟩,?_⟩;have w:=hd.2
     cases d with
     | nil=>grind [PT.txt]
     | cons x r=>
      have:=(kE (hd.1.2 x (by simp))).2
      grind [PT.txt])
    ((cAo j).bnd fun n=>(mAr j).map fun s l t f s1 H=>⟨.st n l,rfl,⟨H.1,f.1.1,f.1.2⟩,by grind [PT.txt]⟩)))
  refine Ok.of (fun i h=>?_) fun i e=>by rw [qB5];rfl
  have I:nJ T (g+1) (i,none)=(lI T [105,110,116] (qI (tyD 1 [] [] [])) (lI T [98,111,111,108] (qI (tyD 2 [] [] []))
   (lI T [38] (bnd (jY T) fun d=>bnd (uB T [109,117,116]) fun m=>nG (fun t=>tyD (if m=true then 5 else 4) [] d [t]) (nJ T g))
    (bnd (rK T) fun n=>nG (fun l=>tyD 3 n l []) (tI T))))) (i,none):=by
   grind [nJ,lI,bnd,nG,qI]
  rw [I] at h ⊢;have ⟨p,A,w,F⟩:=(K _ h).2;exact ⟨⟨p,A,w⟩,by grind [qA0]⟩
theorem qB2 {m:Bool} {nm:Bs} {ty:D}:(fdX (fdD m nm ty)).length=(if m=true then 4 else 0)+(nm.length+2+(tyX 64 ty).length):=by
 grind [fdX,fdD]
def lB7 (f:Toks T):Ok id (tG T) (fun s d t=>vO false d/\Rn ((fdX d).length+6) s t):=by
 have h:∀ T,tG T=bnd (kC T 1) fun a=>bnd (iE T [58]) fun _=>nG (fun r=>fdD false a r) (nJ T 64):=fun T=>rfl;rw [h];exact (fJ f).bnd fun a=>(fG _).bnd fun _=>(nAr f 64).map fun s t u j s1 y w p=>⟨⟨false,a,t,rfl,(fun h=>by cases h),p.1,j.1⟩,by grind [qB2]⟩
def mB7 (f:Toks T):Ok id (jG T) (fun s d t=>vO true d/\Rn ((fdX d).length+6) s t):=by
 have h:∀ T,jG T=bnd (uB T [109,117,116]) fun m=>bnd (kC T 1) fun a=>bnd (iE T [58]) fun _=>nG (fun r=>fdD m a r) (nJ T 64):=fun T=>rfl;rw [h];exact (lAr _).bnd fun m=>(fJ f).bnd fun a=>(fG _).bnd fun _=>(nAr f 64).map fun s t u p s1 A s2 j y w=>⟨⟨m,a,t,rfl,fun _=>rfl,j.1,p.1⟩,by grind [qB2]⟩
end
end Qp
namespace Qp
section
variable {T:List Tok}
def cBq (u:Toks T):Ok id (pW T) (fun s d t=>rS d/\Rn ((lfX d).length+6) s t):=by
 have h:∀ T,pW T=bnd (kC T 3) fun a=>lI T [58] (nG (fun l=>eF a l) (qD T (rA7 T 3) [43])) (qI (eF a [])):=fun T=>rfl;rw [h];exact (uA2 u).bnd fun a=>oE _ ((jS (P:=fun x=>∃ b:Bs,x=D.s b/\yG b=true) (X:=unS) (sp:=[32,43,32,39]) (by decide) ((uA2 u).map fun s b t p=>⟨⟨b,rfl,p.1⟩,by have:=(kE p.1).2;have:=p.2;show (b.length+6)+_<=_;omega⟩) _).map fun s l t j s1 B y f=>by
  obtain ⟨xs,rfl,A⟩:=kAd j.1.2;refine ⟨⟨a,xs,rfl,f.1,by have:=j.1.1;grind,A⟩,?_⟩;have w:=j.2;have C:=f.2;have H:=(kE f.1).2;have e:(xs.map D.s).map unS=xs:=fH xs;have F:txS (xs.map D.s)=xs:=fH xs;rw [e] at w
  cases xs with
  | nil=>simp [lfX,eF];omega
  | cons x r=>
   grind [lfX,eF,xN,xJ,xZ]) (Ok.ret fun s y f=>⟨⟨a,[],rfl,f.1,by simp,by simp⟩,by grind [kE,lfX,eF]⟩)
def yBg (y:Toks T):∀ g,Ok id (jL T g) (fun s l t=>lAi g l/\∀ nm:Bs,(Qb.joinL (nm::l) [46]).length+40 * s.1<=nm.length+40 * t.1):=fun g=>by
 have cons:∀ {g:Nat} {l:List Bs} {a:Bs} {s s1 s2 t:St},(lAi g l/\∀ nm:Bs,(Qb.joinL (nm::l) [46]).length+40 * s1.1<=nm.length+40 * t.1)->rB6 a->Rn 40 s s2->Rn a.length s2 s1->lAi (g+1) (a::l)/\∀ nm:Bs,(Qb.joinL (nm::a::l) [46]).length+40 * s.1<=nm.length+40 * t.1:=fun {g l a s s1 s2 t} f w j A=>⟨⟨by have:=f.1.1;grind,fun x p=>by
  rcases List.mem_cons.1 p with rfl | p
  ·exact w
  ·exact f.1.2 x p⟩,fun nm=>by
   grind [Qb.joinL,xN,xJ,xZ]⟩
 induction g with
 | zero=>
  have h:∀ T,jL T 0=lI T [46] (uAz T 5 ([]:List Bs)) (qI []):=fun T=>rfl;rw [h];exact oE _ (tAe 5 _) (Ok.ret fun s=>⟨⟨by simp,by simp⟩,fun nm=>by simp [Qb.joinL]⟩)
 | succ g r=>
  have h:∀ T,jL T (g+1)=lI T [46] (lI T [42] (nG ([42]::·) (jL T g)) (bnd (kC T 1) fun x=>nG (x::·) (jL T g))) (qI []):=fun T=>rfl;rw [h];exact oE _ (oE _ (r.map fun s l t f s1 j u h0=>cons f (.inl rfl) h0.1 (by grind)) ((fJ y).bnd fun x=>r.map fun s l t f s1 j u h0=>cons f (.inr j.1) h0.1 (by omega))) (Ok.ret fun s=>⟨⟨by simp,by simp⟩,fun nm=>by simp [Qb.joinL]⟩)
def vA2 (f:Toks T):Ok id (kI T) (fun s d t=>gX d/\Rn ((plX d).length+6) s t):=by
 have h:kI T=bnd (kC T 1) fun a=>nG (fun p=>eF a (p.map D.s)) (jL T 64):=rfl;rw [h];exact (fJ f).bnd fun a=>(yBg f 64).map fun s p t j u r=>⟨⟨a,p,rfl,r.1,j.1⟩,by
  grind [plX,eF,fH]⟩
def wU (f:Toks T):Ok id (gF T) (fun s d t=>bG d/\Rn ((opX d).length+6) s t):=by
 have h:∀ T,gF T=lI T [116,114,117,101] (qI (opD 2 1 pl0)) (lI T [102,97,108,115,101] (qI (opD 2 0 pl0)) (fun σ=>if (fun σ:St=>decide ((tk T σ.1).1=4)) σ=true then nG (fun x=>opD 1 ((mS x 0:Nat):Int) pl0) (kC T 4) σ else nG (fun p=>opD 3 0 p) (kI T) σ)):=fun T=>by
  funext σ
  simp only [gF,lI,nG,qI,xU]
 rw [h];exact oE _ (Ok.ret fun s u h0=>⟨.inr (.inl ⟨1,.inr rfl,rfl⟩),by grind [opX,opD]⟩) (oE _ (Ok.ret fun s u h0=>⟨.inr (.inl ⟨0,.inl rfl,rfl⟩),by grind [opX,opD]⟩) (Ok.ite ((vBg f).map fun s x t j=>⟨.inl ⟨_,rfl,j.1⟩,by
  have:=Lib.itoa_length_le ((mS x 0:Nat):Int) (by omega) (by omega)
  have:=j.2
  simp only [opX,opD,xM];omega⟩) ((vA2 f).map fun s p t r=>⟨.inr (.inr ⟨p,rfl,r.1⟩),by grind [opX,opD]⟩)))
def rB2 (f:Toks T):Ok id (fA1 T) (fun s l t=>uO 64 bG l/\Rn ((Qb.joinL (l.map opX) [44,32]).length+6) s t):=by
 rw [mAi];exact (fG _).bnd fun _=>oE _ (Ok.ret fun s s1 p h h0=>⟨⟨by simp,by simp⟩,by grind [Qb.joinL]⟩) ((jS (sp:=[44,32]) (by decide) (wU f) [44]).bnd fun l=>(fG _).map fun s _ t r s1 j h h0=>⟨j.1,by omega⟩)
def prX:D->Bs
 | .t [.s n,o]=>n++[58,32]++opX o
 | _=>[]
def aBh (f:Toks T):Ok id (kU T) (fun s d t=>fBf d/\Rn ((prX d).length+6) s t):=by
 have h:∀ T,kU T=bnd (kC T 1) fun a=>bnd (iE T [58]) fun _=>nG (fun o=>D.t [.s a,o]) (gF T):=fun T=>by
  funext σ
  rfl
 rw [h];exact (fJ f).bnd fun a=>(fG _).bnd fun _=>(wU f).map fun s o t j s1 u r p=>⟨⟨a,o,rfl,p.1,j.1⟩,by grind [prX]⟩
def bBh (f:Toks T):Ok id (tA7 T) (fun s l t=>uO 64 fBf l/\Rn ((Qb.joinL (l.map prX) [44,32]).length+6) s t):=by
 have h:∀ T,tA7 T=bnd (iE T [123]) fun _=>lI T [125] (qI []) (bnd (qD T (kU T) [44]) fun l=>nG (fun _=>l) (iE T [125])):=fun T=>by
  funext σ
  rfl
 rw [h];exact (fG _).bnd fun _=>oE _ (Ok.ret fun s s1 r j h0=>⟨⟨by simp,by simp⟩,by grind [Qb.joinL]⟩) ((jS (sp:=[44,32]) (by decide) (aBh f) [44]).bnd fun l=>(fG _).map fun s _ t u s1 p j h0=>⟨p.1,by omega⟩)
theorem fR:∀ ag:List D,cG [] ag=ag.map opX
 | []=>rfl
 | o::r=>by rw [cG,fR r];rfl
def qAa:∀ {l:List D},(∀ d∈l,fBf d)->cG (txS (l.map d1)) (l.map d2)=l.map prX
 | [],_=>rfl
 | d::r,h=>by
  obtain ⟨a,o,rfl,_,_⟩:=h d (by simp);have f:=qAa (l:=r) fun x j=>h x (by grind);simp only [List.map_cons,txS,d1,d2,unS] at f ⊢;rw [cG,f];rfl
def nB7 (p:Toks T):Ok id (qW T) (fun s d t=>mayVa d/\Rn (vaX d).length s t):=by
 have h:∀ T,qW T=bnd (rK T) fun a=>fun σ=>if (fun σ=>(uB T [123] σ).1) σ=true then nG (fun l:List D=>vaD 7 op0 op0 0 pl0 a (l.map d1) (l.map d2)) (tA7 T) σ else nG (fun l=>vaD 6 op0 op0 0 pl0 a [] l) (fA1 T) σ:=fun T=>by
  funext σ
  rfl
 rw [h];refine (cAo p).bnd fun a=>Ok.ite ((bBh p).map fun s l t f A j=>?_) ((rB2 p).map fun s l t f A j=>⟨mayVa.call j.1 f.1,by
  grind [cG,txS,opX,fR,vaX,vaD]⟩)
 have I:=f.2;have K:=j.2;have e:=qAa f.1.2;have ⟨xs,u,B⟩:=kAd (P:=fun b=>jE b=true) (l:=l.map d1) (fun y H=>by
  obtain ⟨z,r,rfl⟩:=List.mem_map.1 H;obtain ⟨b,o,rfl,C,_⟩:=f.1.2 z r;exact ⟨b,rfl,C⟩)
 rw [u] at e ⊢;refine ⟨mayVa.make j.1 (by have:=congrArg List.length u;grind) B ⟨by rw [xS];exact f.1.1,fun o w=>?_⟩,?_⟩
 ·obtain ⟨z,r,rfl⟩:=List.mem_map.1 w
  obtain ⟨b,o,rfl,_,h⟩:=f.1.2 z r;exact h
 ·have F:∀ J:Bs,(if J=[] then [] else J++[32]).length<=J.length+1:=fun J=>by grind
  have:=F (Qb.joinL (l.map prX) [44,32])
  show (a++[32,123,32]++(if Qb.joinL (cG (txS (xs.map D.s)) (l.map d2)) [44,32]=[] then [] else Qb.joinL (cG (txS (xs.map D.s)) (l.map d2)) [44,32]++[32])++[125]).length+_<=_;rw [e]
  grind
def gBw (k:Int) (n:Nat) (s:St) (x:Option (Int×D)) (t:St):Prop:=(x=none/\Rn 0 s t)\/∃ q o,x=some (q,o)/\k<=q/\q<k+n/\bG o/\Rn ((opX o).length+6) s t
def dBq (j:Toks T):∀ (l:List Bs) (k:Int),Ok id (opS T l k) (gBw k l.length)
 | [],k=>Ok.ret fun s=>.inl ⟨rfl,by omega⟩
 | s::r,k=>by
  have h:∀ T,opS T (s::r) k=lI T s (nG (fun o=>some (k,o)) (gF T)) (opS T r (k+1)):=fun T=>rfl;rw [h];refine oE _ ((wU j).map fun s o t u A h0=>.inr ⟨k,o,rfl,Int.le_refl _,by grind,u.1,by omega⟩) ((dBq j r (k+1)).imp fun s x t f=>?_)
  rcases f with f | ⟨q,o,p,y,B,w⟩
  ·exact .inl f
  ·exact .inr ⟨q,o,p,by omega,by grind,w⟩
def oB7 (k:Int):(cA7 k).length<=4:=by
 grind [cA7]
def uAe (j:Toks T):Ok id (kH T) (fun s d t=>mayVa d/\Rn (vaX d).length s t):=by
 have h:∀ T,kH T=lI T [38] (bnd (uB T [109,117,116]) fun m=>nG (fun p=>vaD (if m=true then 3 else 2) op0 op0 0 p [] [] []) (kI T))
   (lI T [33] (nG (fun o=>vaD 4 o op0 0 pl0 [] [] []) (gF T)) (fun σ=>if (fun σ=>jH T σ||uE T [123] σ) σ=true then qW T σ else (bnd (gF T) fun o=>nG (fun s=>opV o s) (opS T iJ 1)) σ)):=fun T=>by
  funext σ
  rfl
 rw [h];refine oE _ ((lAr _).bnd fun m=>(vA2 j).map fun s p t y s1 B u h0=>⟨mayVa.ref (by omega) y.1,by have:=y.2;cases m <;> simp [vaX,vaD] at * <;> omega⟩) (oE _ ((wU j).map fun s o t f u h0=>⟨mayVa.no f.1,by grind [vaX,vaD]⟩) (Ok.ite (nB7 j) ((wU j).bnd fun o=>(dBq j iJ 1).map fun s x t w u f=>?_)));rcases w with ⟨rfl,w⟩ | ⟨q,b,rfl,C,r,A,F⟩
 ·exact ⟨mayVa.op f.1,by grind [vaX,vaD,opV]⟩
 ·have r:q<1+4:=r
  have:=f.2;have:=oB7 q
  exact ⟨mayVa.bin f.1 A (by omega),by grind [vaX,vaD,opV]⟩
end
end Qp
namespace Qp
section
variable {T:List Tok}
def mayN.leaf {n:Nat} {k a:Int} {m:Bool} {nm:Bs} {ty:D} {f:Bool} {pl va co:D} (h:SmN n k m nm ty f pl va co [] []):mayN (n+1) (smT k a m nm ty f pl va co [] []):=⟨k,a,m,nm,ty,f,pl,va,co,[],[],rfl,by simp,by simp,h⟩
abbrev Rz (k:Nat) (s t:St):Prop:=k+67+140 * s.1<=140 * t.1
def LQ (n:Nat) (s:St) (d:D) (t:St):Prop:=mayN (n+1) d/\(thD d=[]/\elD d=[])/\∀ bl o,Rz (smX bl o d).length s t
def eBq (p:Toks T) {n:Nat} (a:Int):Ok id (kAv T a) (LQ n):=by
 have h:∀ T (a:Int),kAv T a=bnd (uB T [109,117,116]) fun m=>bnd (kC T 1) fun n=>bnd (iE T [58]) fun _=>bnd (nJ T 64) fun t=>lI T [61] (bnd (kH T) fun v=>nG (fun _=>smD { aF a with k:=1,m:=m,nm:=n,has:=true } { bK with ty:=t,va:=v }) (iE T [59])) (nG (fun _=>smD { aF a with k:=1,m:=m,nm:=n } { bK with ty:=t }) (iE T [59])):=fun T a=>by
  funext σ
  rfl
 rw [h];exact (lAr _).bnd fun m=>(fJ p).bnd fun x=>(fG _).bnd fun _=>(nAr p 64).bnd fun ty=>oE _ ((uAe p).bnd fun v=>(fG _).map fun s _ t y s1 r s2 H A f w C F j B u=>⟨mayN.leaf (.let_ j.1 f.1 (.inl ⟨rfl,r.1⟩)),⟨rfl,rfl⟩,fun bl o=>by
   have:=r.2;have:=f.2;have:=j.2
   cases m <;> simp [smX,smD,aF,bK,qAj] at * <;> omega⟩) ((fG _).map fun s _ t y A f w C F j B u=>⟨mayN.leaf (.let_ j.1 f.1 (.inr ⟨rfl,rfl⟩)),⟨rfl,rfl⟩,fun bl o=>by
   have:=f.2;have:=j.2
   cases m <;> simp [smX,smD,aF,bK,qAj] at * <;> omega⟩)
def pB7 (h:Toks T) {n:Nat} (a:Int):Ok id (uG T a) (LQ n):=by
 have e:∀ T (a:Int),uG T a=lI T [98,114,101,97,107] (qI (smD { aF a with k:=8 } bK)) (lI T [99,111,110,116,105,110,117,101] (qI (smD { aF a with k:=9 } bK))
   (lI T [114,101,116,117,114,110] (fun σ=>if (fun σ=>(uB T [59] σ).1) σ=true then qI (smD { aF a with k:=10 } bK) σ else nG (fun v=>smD { aF a with k:=10,has:=true } { bK with va:=v }) (kH T) σ)
   (lI T [100,114,111,112] (nG (fun p=>smD { aF a with k:=11 } { bK with pl:=p }) (kI T)) (fun σ=>if (fun σ=>jH T σ) σ=true then (bnd (rK T) fun n=>nG (fun l=>smD { aF a with k:=3 } { bK with va:=vaD 6 op0 op0 0 pl0 n [] l }) (fA1 T)) σ
    else (bnd (kI T) fun p=>bnd (iE T [61]) fun _=>nG (fun v=>smD { aF a with k:=2 } { bK with pl:=p,va:=v }) (kH T)) σ)))):=fun T a=>by
  funext σ
  rfl
 rw [e];refine oE _ (Ok.ret fun s f h0=>⟨mayN.leaf .break_,⟨rfl,rfl⟩,fun bl o=>by simp [smX,smD,aF,bK];omega⟩) (oE _ (Ok.ret fun s f h0=>⟨mayN.leaf .cont,⟨rfl,rfl⟩,fun bl o=>by simp [smX,smD,aF,bK];omega⟩)
  (oE _ (Ok.ite (Ok.ret fun s f h0=>⟨mayN.leaf (.ret (.inr ⟨rfl,rfl⟩)),⟨rfl,rfl⟩,fun bl o=>by simp [smX,smD,aF,bK];omega⟩) ((uAe h).map fun s v t r f h0=>⟨mayN.leaf (.ret (.inl ⟨rfl,r.1⟩)),⟨rfl,rfl⟩,fun bl o=>by have:=r.2;simp [smX,smD,aF,bK];omega⟩))
  (oE _ ((vA2 h).map fun s p t u f h0=>⟨mayN.leaf (.drop u.1),⟨rfl,rfl⟩,fun bl o=>by grind [smX,smD,aF,bK]⟩) (Ok.ite ((cAo h).bnd fun x=>(rB2 h).map fun s l t w f j=>⟨mayN.leaf (.call j.1 w.1),⟨rfl,rfl⟩,fun bl o=>by
   have:=j.2;have:=w.2
   have e:cG (txS []) l=l.map opX:=fR l
   grind [smX,smD,aF,bK,vaX,vaD]⟩)
   ((vA2 h).bnd fun p=>(fG _).bnd fun _=>(uAe h).map fun s v t r s1 B f u=>?_)))))
 obtain ⟨⟨nm,xs,rfl,y,j⟩,A⟩:=u;exact ⟨mayN.leaf (.set y j r.1),⟨rfl,rfl⟩,fun bl o=>by grind [smX,smD,aF,bK]⟩
def Ok.lift {α:Type} {F:St->α×St} {R:St->α->St->Prop} (p:Ok id F R):Ok Prod.fst (fAu F) (fun s x t=>R s.1 x t.1/\t.2=s.2):=fun s h=>by
 have ⟨f,j⟩:=p s.1 h;exact ⟨f,j,rfl⟩
def gA7 {β:Type} {Q:SC->β->SC->Prop} (w:Bs) {Y X:SC->β×SC} (r:Ok Prod.fst Y (fun s y t=>∀ j:SC,s.2=j.2/\Rn 40 j.1 s.1->Q j y t)) (p:Ok Prod.fst X Q):Ok Prod.fst (eB9 T w Y X) Q:=fun s h=>by
 unfold eB9 at h ⊢
 by_cases f:(uB T w s.1).1=true
 ·simp only [if_pos f] at h ⊢
  have ⟨u,A⟩:=r _ h;have ⟨B,C⟩:=yF f
  grind
 ·simp only [if_neg f,rAe f] at h ⊢
  exact p _ h
def BQ (n:Nat) (s:SC) (l:List D) (t:SC):Prop:=0<n/\(∀ x∈l,mayN n x)/\t.2=s.2+yH n l/\∀ o,o+n<=64->Rz (blX (n+1) o l).length s.1 t.1
def SQ (n:Nat) (s:SC) (d:D) (t:SC):Prop:=mayN (n+1) d/\t.2=s.2+(yH n (thD d)+yH n (elD d))/\∀ o,o+n<=64->Rz (smX (blX (n+1)) o d).length s.1 t.1
def LQ.up {n:Nat} {s t:SC} {d:D} (h:LQ n s.1 d t.1) (e:t.2=s.2):SQ n s d t:=⟨h.1,by rw [h.2.1.1,h.2.1.2,aL];omega,fun o _=>h.2.2 _ o⟩
def qB7 (F:Toks T) {n:Nat} {blk:SC->List D×SC} (B:Ok Prod.fst blk (BQ n)) (a:Int):Ok Prod.fst (aBe T blk a) (SQ n):=by
 have H:Ok Prod.fst (ifF T blk) (fun s x t=>0<n/\(∀ d∈x.1,mayN n d)/\(∀ d∈x.2.getD [],mayN n d)/\t.2=s.2+(yH n x.1+yH n (x.2.getD []))/\∀ o,o+n<=64->Rz ((blX (n+1) o x.1).length+(match x.2 with | none=>0 | some f=>(blX (n+1) o f).length+6)) s.1 t.1):=
  B.bnd fun t=>gA7 _ (B.map fun s f u I s1 U A w=>⟨w.1,w.2.1,I.2.1,by have:=I.2.2.1;have:=w.2.2.1;grind,fun o r=>by have:=I.2.2.2 o r;have:=w.2.2.2 o r;grind⟩) (Ok.ret fun s A w=>⟨w.1,w.2.1,by simp,by have:=w.2.2.1;grind [aL],fun o r=>by have:=w.2.2.2 o r;omega⟩)
 refine gA7 _ ((Ok.lift (eBq (n:=n) F a)).imp fun s d t hd A h0=>?_) (gA7 _ ((Ok.lift (wU F)).bnd fun o=>H.map fun s x t j s1 r A h0=>?_)
  (gA7 _ ((Ok.lift (wU F)).bnd fun o=>B.map fun s x t j s1 r A h0=>?_) (gA7 _ (B.map fun s x t j A h0=>?_) ?_)))
 ·have:=LQ.up (n:=n) hd.1 hd.2
  exact ⟨this.1,by rw [this.2.1,h0.1],fun o r=>by have:=this.2.2 o r;omega⟩
 ·have ⟨⟨r,O⟩,C⟩:=r
  have ⟨L,f⟩:=x;have ⟨J,K,S,M,R⟩:=j
  cases f with
  | none=>exact ⟨⟨4,_,false,[],ty0D,false,pl0,va00,o,L,[],rfl,K,by simp,.if_ J r (fun _=>rfl)⟩,by rw [M,C,h0.1];rfl,fun p y=>by
    grind [smX,ifV,smD,aF,bK]⟩
  | some f=>exact ⟨⟨4,_,false,[],ty0D,true,pl0,va00,o,L,f,rfl,K,S,.if_ J r (fun h=>by cases h)⟩,by rw [M,C,h0.1];rfl,fun p y=>by
    have:=R p y;have:=h0.2
    simp [smX,ifV,smD,aF,bK] at *;omega⟩
 ·have ⟨⟨r,O⟩,C⟩:=r
  exact ⟨⟨5,_,false,[],ty0D,false,pl0,va00,o,x,[],rfl,j.2.1,by simp,.while_ j.1 r⟩,by rw [j.2.2.1,C,h0.1];show _=_+(yH n x+yH n []);grind [aL],fun p y=>by
   have:=j.2.2.2 p y;have:=h0.2
   simp [smX,smD,aF,bK] at *;omega⟩
 ·exact ⟨⟨6,_,false,[],ty0D,false,pl0,va00,op0,x,[],rfl,j.2.1,by simp,.loop j.1⟩,by rw [j.2.2.1,h0.1];show _=_+(yH n x+yH n []);grind [aL],fun p y=>by
   have:=j.2.2.2 p y;grind [smX,smD,aF,bK]⟩
 ·refine Ok.ite (c:=fun s=>(uB T [123] s.1).1) (B.map fun s x t j=>⟨⟨7,a,false,[],ty0D,false,pl0,va00,op0,x,[],rfl,j.2.1,by simp,.block j.1⟩,by rw [j.2.2.1];show _=_+(yH n x+yH n []);grind [aL],fun p y=>by
   have:=j.2.2.2 p y
   grind [smX,smT]⟩) ((Ok.lift ((pB7 F a).bnd (Q:=LQ n) fun x=>(fG _).map fun s _ t V A j=>⟨j.1,j.2.1,fun bl o=>by have:=j.2.2 bl o;omega⟩)).imp fun s d t hd=>LQ.up hd.1 hd.2)
def tB2 (f:Toks T) {n:Nat} {blk:SC->List D×SC} (j:Ok Prod.fst blk (BQ n)):Ok Prod.fst (vK T blk) (SQ n):=fun s h=>by
 rw [bBe] at h ⊢;exact qB7 f j _ s h
theorem rB7 (n:Nat) (x:D) (r:List D):yH (n+1) (x::r)=1+(yH n (thD x)+yH n (elD x))+yH (n+1) r:=by
 grind [yH,xJ]
def oAr {n:Nat} {one:SC->D×SC} (r:Ok Prod.fst one (SQ n)):∀ f,Ok Prod.fst (bF T one f) (fun s x t=>x.2=false/\(∀ d∈x.1,mayN (n+1) d)/\t.2=s.2+yH (n+1) x.1/\∀ o,o+n<=64->((x.1.map fun d=>Lib.repeatL [9] o++smX (blX (n+1)) o d++[10]).flatten).length+140 * s.1.1<=140 * t.1.1):=fun f=>by
 induction f with
 | zero=>intro q h;exact ⟨h,rfl,by simp [bF],by simp [bF,yH],fun o _=>by simp [bF]⟩
 | succ f u=>
  intro q h;have ⟨⟨i,o⟩,c⟩:=q
  cases o with
  | some e=>grind [cAi]
  | none=>
   refine ⟨rfl,?_⟩;rw [iAq] at h ⊢
   by_cases j:isS T [125] i=true
   ·rw [if_pos j];exact ⟨rfl,by simp,by simp [yH],fun o _=>by grind⟩
   rw [if_neg j] at h ⊢
   by_cases p:c=2000/\(tk T i).1≠0
   ·rw [if_pos p] at h;cases h
   ·rw [if_neg p] at h ⊢
    have ⟨y,w,J,A,F⟩:=u _ h;have ⟨_,B,I,C⟩:=r ((i,none),c+1) y;refine ⟨w,fun x H=>?_,?_,fun o K=>?_⟩
    ·grind
    ·grind [rB7]
    grind [List.flatten_cons,xN,Lib.repeatL_length,xJ,xZ]
def pAr (w:Toks T):∀ g,Ok Prod.fst (aG T g) (BQ g):=fun g=>by
 induction g with
 | zero=>
  intro q h;have ⟨⟨i,o⟩,c⟩:=q;cases o <;> cases h
 | succ g A=>
  intro q h;rw [kAq T g q _ rfl] at h ⊢;have ⟨u,B,p,j,y⟩:=oAr (T:=T) (tB2 w A) 2001 _ h;have ⟨r,f⟩:=(fG (T:=T) [123]) q.1 u;refine ⟨r,Nat.succ_pos g,?_⟩;rw [jAq,B,if_neg (by decide)];refine ⟨p,j,fun o C=>?_⟩
  have:=y (o+1) (by omega)
  have f:Rn 40 q.1 (eD T [123] q.1):=f.1
  grind [blX,xN,Lib.repeatL_length,xJ,xZ]
end
end Qp
namespace Qp
section
variable {T:List Tok}
theorem uB2 {one:SC->D×SC}:∀ (f:Nat) (q:SC),(bF T one f q).2.1.2=none->(bF T one f q).1.1.length<f->(bF T one f q).2.1.1<=T.length:=fun f=>by
 induction f with
 | zero=>omega
 | succ f u=>
  intro q h p;have ⟨⟨i,o⟩,c⟩:=q
  cases o with
  | some e=>grind [cAi]
  | none=>
   rw [iAq] at h p ⊢
   by_cases j:isS T [125] i=true
   ·rw [if_pos j];exact wB9 j
   rw [if_neg j] at h p ⊢
   by_cases r:c=2000/\(tk T i).1≠0
   ·rw [if_pos r] at h;cases h
   grind
def oBu (J:Bs):(if J=[] then [] else J++[32]).length<=J.length+1:=by grind
def vB2 (r:Toks T) (pub:Bool) (a:Int):Ok id (dG T pub a) (fun s d t=>jA1 d/\Rn (stX d).length s t/\t.1<=T.length):=by
 have h:∀ T (a:Int),dG T pub a=bnd (kC T 1) fun n=>bnd (tI T) fun l=>bnd (iE T [123]) fun _=>lI T [125] (qI (bV pub n l [] a)) (bnd (qD T (tG T) [44]) fun f=>nG (fun _=>bV pub n l f a) (iE T [125])):=fun T a=>rfl;rw [h];have len:∀ n (l:List Bs) f,(stX (bV pub n l f a)).length<=n.length+(dF l).length+(uM f).length+17:=fun n l f=>by
  have:=oBu (uM f)
  simp only [stX,bV,fH,xN,xJ,xZ]
  grind
 exact (fJ r).bnd fun x=>(mAr r).bnd fun l=>(fG _).bnd fun _=>oE _ (Ok.ret fun s y h0 s1 A s2 j B p=>⟨⟨pub,x,l,[],a,rfl,p.1,j.1,⟨by simp,by simp⟩⟩,by
  grind [uM,Qb.joinL],h0.2⟩) ((jS (sp:=[44,32]) (by decide) (lB7 r) [44]).bnd fun f=>(fG [125]).map fun s _ t u y w s1 A s2 j B p=>⟨⟨pub,x,l,f,a,rfl,p.1,j.1,w.1⟩,by
  have:=len x l f;have:=p.2;have:=j.2;have C:=w.2
  rw [show Qb.joinL (f.map fdX) [44,32]=uM f from rfl] at C;omega,u.2⟩)
def headP (s:St) (x:HdR) (t:St):Prop:=jE x.1=true/\uO 64 rS x.2.1/\uO 64 (vO true) x.2.2.1/\(x.2.2.2=ty0D\/lL 64 x.2.2.2)/\∀ pub,Rn ((vY pub x.1 x.2.1 x.2.2.1 x.2.2.2).length) s t
theorem cBh (lv:List D):(gAf lv).length<=(Qb.joinL (lv.map lfX) [44,32]).length+2:=by
 cases lv <;> simp [gAf]
def dBh (j:Toks T):Ok id (kO T) headP:=
 (fJ j).bnd fun x=>Ok.bnd (P:=fun s l t=>uO 64 rS l/\Rn (gAf l).length s t) (oE _ ((jS (sp:=[44,32]) (by decide) (cBq j) _).bnd fun l=>(fG _).map fun s _ t y s1 r h h0=>⟨r.1,by grind [cBh]⟩) (Ok.ret fun s=>⟨⟨by simp,by simp⟩,by simp [gAf]⟩)) fun l=>(fG _).bnd fun _=>Ok.bnd (P:=fun s p t=>uO 64 (vO true) p/\Rn (uM p).length s t) (oE _ (Ok.ret fun s h h0=>⟨⟨by simp,by simp⟩,by grind [uM,Qb.joinL]⟩) ((jS (sp:=[44,32]) (by decide) (mB7 j) _).bnd fun p=>(fG _).map fun s _ t y h f=>⟨f.1,by
   have B:=f.2;rw [show Qb.joinL (p.map fdX) [44,32]=uM p from rfl] at B;omega⟩)) fun p=>Ok.bnd (P:=fun s t u=>(t=ty0D\/lL 64 t)/\Rn ((if bI t=0 then [] else [32,45,62,32]++tyX 64 t).length) s u) (oE _ ((nAr j 64).imp fun s t u w h h0=>⟨.inr w.1,by grind⟩) (Ok.ret fun s=>⟨.inl rfl,by rw [if_pos (show bI ty0D=0 from rfl)];simp⟩)) fun t=>Ok.ret fun s h w s1 f s2 y F r C A=>⟨A.1,r.1,f.1,w.1,fun pub=>by
  have:=w.2;have:=f.2;have:=r.2;have:=A.2
  cases pub <;> simp [vY] at * <;> omega⟩
def eBh (f:Toks T) (pub:Bool) (a:Int) (σ:St) (h:(oJ T pub a σ).2.1.2=none):pY (oJ T pub a σ).1/\(fuX (oJ T pub a σ).1).length+140 * σ.1<=140 * (oJ T pub a σ).2.1.1/\(oJ T pub a σ).2.1.1<=T.length:=by
 rw [lAq] at h ⊢;dsimp only at h ⊢;have ⟨r,_,u,I,F⟩:=pAr f 64 ((kO T σ).2,0) h;have ⟨_,H,C,A,w,y⟩:=dBh f σ r;have j:=(gA2 (T:=T) 64 ((kO T σ).2,0) (.inl (xc _))).1;have p:yH 64 (aG T 64 ((kO T σ).2,0)).1<=2000:=by
  rcases j with j | j
  ·omega
  grind
 refine ⟨⟨pub,_,_,_,_,_,a,rfl,H,C,A,w,u,p⟩,?_,?_⟩
 ·have J:(blX 65 0 (aG T 64 ((kO T σ).2,0)).1).length+67+140 * (kO T σ).2.1<=140 * (aG T 64 ((kO T σ).2,0)).2.1.1:=F 0 (by decide)
  have:=y pub
  show (vY pub (kO T σ).1.1 (kO T σ).1.2.1 (kO T σ).1.2.2.1 (kO T σ).1.2.2.2++[32]++blX 65 0 (aG T 64 ((kO T σ).2,0)).1++[10]).length+_<=_
  grind
 ·have e:=kAq T 63 ((kO T σ).2,0) _ rfl
  rw [show (63:Nat)+1=64 from rfl] at e;rw [e] at h p ⊢;have B:=(oAr (T:=T) (tB2 f (pAr f 63)) 2001 _ h).2.1;rw [jAq,B,if_neg (by decide)] at p
  grind [uB2,yH,Nat.lt_of_le_of_lt,xT]
end
end Qp
namespace Qp
section
variable {T:List Tok}
theorem fBh (a b xs ys:List D):(crX (a++xs) (b++ys)).length=(crX a b).length+(crX xs ys).length:=by
 grind [crX]
def ItQ (i:Nat) (z:ItS):Prop:=z.i<=T.length/\(∀ x∈vAh z.d [],jA1 x)/\(∀ y∈wAh z.d [],pY y)/\(crX (vAh z.d []) (wAh z.d [])).length+140 * i<=140 * z.i
def gBh (u:Toks T) (i:Nat) (h:(jJ T (i,none)).e=none):ItQ (T:=T) i (jJ T (i,none)):=by
 have key:∀ pub j,i<=j->(vA7 T pub j).e=none->ItQ (T:=T) i (vA7 T pub j):=fun pub j F h=>by
  have f:∀ {a:Int} {e:Er},inS a e=none->e=none:=fun {a e} A=>by cases e with
   | none=>rfl
   | some e=>cases A
  unfold vA7 at h ⊢;dsimp only at h ⊢
  by_cases r:isS T [115,116,114,117,99,116] j=true
  ·rw [if_pos r] at h ⊢
   have ⟨_,B,y,p⟩:=vB2 u pub ((tk T j).2.2:Int) _ (f h);refine ⟨p,fun x C=>?_,by simp [wAh],?_⟩
   ·grind [vAh]
   grind [vAh,wAh,crX]
  ·rw [if_neg r] at h ⊢
   by_cases w:isS T [102,110] j=true
   ·rw [if_pos w] at h ⊢
    have ⟨B,y,p⟩:=eBh u pub ((tk T j).2.2:Int) _ (f h);refine ⟨p,by simp [vAh],fun x C=>?_,?_⟩
    ·grind [wAh]
    grind [vAh,wAh,crX]
   grind
 rw [wB0] at h ⊢
 grind
def tB7 (p:Toks T):∀ (f i:Nat),i<=T.length->(pE T f i).2=none->(∀ x∈(pE T f i).1.1,jA1 x)/\(∀ y∈(pE T f i).1.2,pY y)/\(pE T f i).1.1.length+(pE T f i).1.2.length<=f/\(crX (pE T f i).1.1 (pE T f i).1.2).length+140 * i<=140 * T.length:=fun f=>by
 induction f with
 | zero=>
  intro i hi h
  by_cases q:(tk T i).1=0
  ·simp only [pE,q,xM];grind [crX]
  ·simp only [pE,q,xL,oG,aAu] at h;cases h
 | succ f u=>
  intro i hi h
  by_cases q:(tk T i).1=0
  ·simp only [pE,q,xM];grind [crX]
  ·cases j:(jJ T (i,none)).e with
   | some x=>simp only [pE,q,xL,j] at h;cases h
   | none=>
    have C:pE T (f+1) i=((vAh (jJ T (i,none)).d []++(pE T f (jJ T (i,none)).i).1.1,wAh (jJ T (i,none)).d []++(pE T f (jJ T (i,none)).i).1.2),(pE T f (jJ T (i,none)).i).2):=by
     simp only [pE,q,xL,j]
    have ⟨A,w,B,r⟩:=gBh p i j
    grind [dBf,rBn,xN,fBh]
def qAr:∀ (M:Nat) (t:Bs) (a:Nat) (l:List Tok),dAh M t a=.inl l->l.length<=t.length
 | 0,t,a,l,h=>by cases h
 | M+1,t,a,l,h=>by
  cases t with
  | nil=>
   grind [dAh,Sum.inl.injEq]
  | cons c r=>
   simp only [dAh] at h
   split at h
   ·cases h
   ·rename_i k x n j
    split at h
    ·rename_i w f
     simp only [Sum.inl.injEq] at h;subst h;have p:=qAr M _ _ _ f;have u:=iQ j
     grind
    grind
def jAj {N:Nat} {s:Bs} (H:s.length<=1000000) (h:(bH N s).2=none):(∀ x∈(bH N s).1.1,jA1 x)/\(∀ y∈(bH N s).1.2,pY y)/\(bH N s).1.1.length+(bH N s).1.2.length<=256/\(crX (bH N s).1.1 (bH N s).1.2).length<=140 * (s.length+1):=by
 cases f:iAv N s with
 | inr a=>grind [bH]
 | inl T=>
  have w:bH N s=kA5 T:=by grind [bH]
  rw [w] at h ⊢;have ⟨p,r⟩:=bB1 h;rw [r];have j:T.length<=s.length+1:=by
   obtain ⟨l,u,rfl⟩:=pB6 f
   have:=qAr _ _ _ _ u
   grind
  have ⟨C,B,F,A⟩:=tB7 (lAh (by omega) f (by omega)).1 256 0 (xc _) p
  grind
end
end Qp
namespace Qp
def Mk (T:List Tok) (i:Nat) (ks:List KT):Prop:=∀ j k,ks[j]? = some k->kt (tk T (i+j))=k
section
variable {T:List Tok}
theorem Mk.cons {i:Nat} {k:KT} {r:List KT} (h:Mk T i (k::r)):kt (tk T i)=k/\Mk T (i+1) r:=
 ⟨h 0 k rfl,fun j q f=>by have:=h (j+1) q (by grind);grind⟩
def Mk.app {i:Nat} {a b:List KT} (h:Mk T i (a++b)):Mk T i a/\Mk T (i+a.length) b:=
 ⟨fun j k f=>h j k (by grind),
  fun j k f=>by
  have:=h (a.length+j) k (by grind)
  grind⟩
theorem rAr {i:Nat} {k:Int} {x:Bs} (h:kt (tk T i)=(k,x)) (w:Bs):isS T w i=(decide (k=2\/k=5)&&bB x w):=by
 have f:(tk T i).1=k:=congrArg Prod.fst h;have j:(tk T i).2.1=x:=congrArg Prod.snd h
 grind [isS]
def fL {i:Nat} {k:Int} {x:Bs} (h:kt (tk T i)=(k,x)) (f:k=2\/k=5):uB T x (i,none)=(true,(i+1,none)):=by
 simp only [uB,rAr h,eqB.2,Bool.and_true,xU,if_pos f]
def noM {i:Nat} {k:Int} {x w:Bs} (h:kt (tk T i)=(k,x)) (f:(decide (k=2\/k=5)&&bB x w)=false):uB T w (i,none)=(false,(i,none)):=by
 have:isS T w i=false:=by grind [rAr]
 simp only [uB,this,xE,xL]
def pBv {i:Nat} {w:Bs} (h:isS T w i=false):uB T w (i,none)=(false,(i,none)):=by
 simp only [uB,h,xE,xL]
def yY {i:Nat} {k:Int} {x:Bs} (h:kt (tk T i)=(k,x)):kC T k (i,none)=(x,(i+1,none)):=by
 have f:(tk T i).1=k:=congrArg Prod.fst h;have j:(tk T i).2.1=x:=congrArg Prod.snd h;simp only [kC,f,j,xM]
def tAr:∀ (l:List Bs) (x:Bs) (G i:Nat),l.length<G->Mk T i ((3,x)::(jO l++[(5,[62])]))->pJ T G (i,none)=(x::l,(i+1+2 * l.length,none))/\kt (tk T (i+1+2 * l.length))=(5,[62])
 | [],x,G,i,A,h=>by
  obtain ⟨G,rfl⟩:∃ m,G=m+1:=⟨G-1,by omega⟩;have ⟨p,f⟩:=h.cons;have ⟨j,_⟩:=f.cons;refine ⟨?_,j⟩;simp only [pJ,yY p,noM j (w:=[44]) (by decide),xE,xL];rfl
 | y::l,x,G,i,A,h=>by
  obtain ⟨G,rfl⟩:∃ m,G=m+1:=⟨G-1,by omega⟩;have ⟨p,f⟩:=h.cons;have f:Mk T (i+1) ((5,[44])::((3,y)::(jO l++[(5,[62])]))):=f;have ⟨j,B⟩:=f.cons;have ⟨u,r⟩:=tAr l y G (i+1+1) (by grind) B;rw [show i+1+2 * (y::l).length=i+1+1+1+2 * l.length by grind];refine ⟨?_,r⟩;simp only [pJ,yY p,fL j (.inr rfl),xM,u]
def stop (T:List Tok) (j:Nat):Prop:=isS T [58,58] j=false/\isS T [60] j=false
theorem iA7:∀ l:List Bs,(jO l).length=2 * l.length
 | []=>rfl
 | x::l=>by simp only [jO,xJ,iA7 l];omega
def uAr {lv:List Bs} {i:Nat} (A:lv.length<=64) (h:Mk T i (fP lv)) (j:stop T (i+(fP lv).length)):tI T (i,none)=(lv,(i+(fP lv).length,none))/\isS T [58,58] i=false:=by
 cases lv with
 | nil=>
  refine ⟨?_,j.1⟩;simp only [tI,pBv (T:=T) (i:=i) (w:=[60]) j.2,xE,xL];rfl
 | cons x l=>
  have h:Mk T i ((5,[60])::((3,x)::(jO l++[(5,[62])]))):=h;have ⟨f,r⟩:=h.cons;have ⟨y,u⟩:=tAr l x 64 (i+1) (by grind) r;refine ⟨?_,by rw [rAr f];rfl⟩;have p:(fP (x::l)).length=2 * l.length+3:=by grind [fP,xJ,xN,iA7,xZ]
  simp only [tI,fL f (.inr rfl),xM,y,eD,fL u (.inr rfl)]
  grind
def wB2 {nm:Bs} {ns:List KT} {i:Nat} (w:bB6 nm ns) (h:Mk T i ns) (r:isS T [58,58] (i+ns.length)=false):rK T (i,none)=(nm,(i+ns.length,none)):=by
 rcases w with ⟨_,rfl⟩ | ⟨a,b,rfl,_,_,rfl⟩
 ·have ⟨f,_⟩:=h.cons
  simp only [rK,yY f]
  have:isS T [58,58] (i+1)=false:=r
  simp only [pBv this,xE,xL];rfl
 ·have ⟨f,j⟩:=h.cons
  have ⟨p,y⟩:=j.cons;have ⟨u,_⟩:=y.cons;simp only [rK,yY f,fL p (.inr rfl),xM,yY u];rfl
def jA7 {nm:Bs} {ns r:List KT} {i:Nat} (f:bB6 nm ns) (h:Mk T i (ns++r)):∃ x,kt (tk T i)=(1,x):=by
 rcases f with ⟨_,rfl⟩ | ⟨a,b,rfl,_,_,rfl⟩
 ·exact ⟨_,h.cons.1⟩
 ·exact ⟨_,h.cons.1⟩
def aBa:∀ (g:Nat) (p:PT) (ks:List KT) (i G:Nat),p.ok g->g<=G->ptK p ks->Mk T i ks->stop T (i+ks.length)->nJ T G (i,none)=(p.D,(i+ks.length,none))
 | 0,p,ks,i,G,hp,_,_,_,_=>by cases p <;> cases hp
 | g+1,.int,ks,i,G,_,Q,j,h,A=>by
  obtain ⟨G,rfl⟩:∃ m,G=m+1:=⟨G-1,by omega⟩;have j:ks=[(2,[105,110,116])]:=j;subst j;have ⟨f,_⟩:=h.cons;simp only [nJ,fL f (.inl rfl),xM];rfl
 | g+1,.bool,ks,i,G,_,Q,j,h,A=>by
  obtain ⟨G,rfl⟩:∃ m,G=m+1:=⟨G-1,by omega⟩;have j:ks=[(2,[98,111,111,108])]:=j;subst j;have ⟨f,_⟩:=h.cons;simp only [nJ,noM f (w:=[105,110,116]) (by decide),xE,xL,fL f (.inl rfl),xM];rfl
 | g+1,.st nm lv,ks,i,G,⟨V,U,R⟩,Q,j,h,A=>by
  obtain ⟨G,rfl⟩:∃ m,G=m+1:=⟨G-1,by omega⟩;obtain ⟨ns,I,rfl⟩:=j;have ⟨x,f⟩:=jA7 I h;have ⟨J,C⟩:=h.app;rw [xN,<- Nat.add_assoc] at A ⊢;have ⟨X,e2⟩:=uAr U C A;have e3:=wB2 I J e2;simp only [nJ,noM f (w:=[105,110,116]) rfl,noM f (w:=[98,111,111,108]) rfl,noM f (w:=[38]) rfl,xE,xL,e3,X];rfl
 | g+1,.ref u lv t,ks,i,G,⟨V,U,R⟩,Q,j,h,A=>by
  obtain ⟨G,rfl⟩:∃ m,G=m+1:=⟨G-1,by omega⟩;obtain ⟨qs,r,rfl⟩:=j;have ⟨f,J⟩:=h.cons;have ⟨C,h4⟩:=J.app;have ⟨S,B⟩:=h4.app;have hq:∃ k x,kt (tk T (i+1+(gA1 lv).length+(uA9 u).length))=(k,x)/\k≠3/\(decide (k=2\/k=5)&&bB x [109,117,116])=false:=by
   cases t with
   | int=>have r:qs=_:=r;subst r;exact ⟨_,_,B.cons.1,by decide,by decide⟩
   | bool=>have r:qs=_:=r;subst r;exact ⟨_,_,B.cons.1,by decide,by decide⟩
   | st nm Z=>
    obtain ⟨ns,I,rfl⟩:=r;have ⟨x,hx⟩:=jA7 I B
    grind
   | ref m2 Z t2=>
    obtain ⟨a0,_,rfl⟩:=r;exact ⟨_,_,B.cons.1,by decide,by decide⟩
  have ⟨k,x,H,a1,K⟩:=hq;have em:uB T [109,117,116] (i+1+(gA1 lv).length,none)=(u,(i+1+(gA1 lv).length+(uA9 u).length,none)):=by
   cases u
   ·exact noM H K
   ·exact fL (S.cons.1) (.inl rfl)
  have L:(tk T (i+1+(gA1 lv).length)).1≠3:=by
   cases u
   ·have:(tk T (i+1+(gA1 lv).length)).1=k:=congrArg Prod.fst H;omega
   ·have:(tk T (i+1+(gA1 lv).length)).1=2:=congrArg Prod.fst (S.cons.1);omega
  have el:jY T (i+1,none)=(lv,(i+1+(gA1 lv).length,none)):=by
   cases lv with
   | nil=>
    have M:¬ (tk T (i+1,(none:Er)).1).1=3:=L;unfold jY;rw [if_neg M];rfl
   | cons y l=>
    have O:l=[]:=by
     have:=V
     simp only [xJ] at this;exact List.length_eq_zero_iff.1 (by omega)
    subst O;have C:Mk T (i+1) [(3,y)]:=C;have W:=C.cons.1;unfold jY
    have:(tk T (i+1,(none:Er)).1).1=3:=congrArg Prod.fst W
    rw [if_pos this,yY W];rfl
  have F:i+((5,[38])::(gA1 lv++(uA9 u++qs))).length=i+1+(gA1 lv).length+(uA9 u).length+qs.length:=by
   grind
  rw [F] at A ⊢;have Y:=aBa g t qs _ G R (by omega) r B A;simp only [nJ,noM f (w:=[105,110,116]) (by decide),noM f (w:=[98,111,111,108]) (by decide),xE,xL,fL f (.inr rfl),xM,el,em,Y];rfl
end
def fBq {T:List Tok} {ks:List KT} (h:T.map kt=ks) {j:Nat} {k:KT} (f:ks[j]? = some k):kt (tk T j)=k:=by
 grind [xF,tk]
end Qp
namespace Qp
def aT (_:Bs):Prop:=True
def aK (_:KT):Prop:=True
def Lt (B:Bs->Prop) (t:Bs) (ks:List KT):Prop:=∀ r f,B r->LxB r f->LxB (t++r) (ks++f)
section
variable {B C:Bs->Prop} {t u x:Bs} {ks qs:List KT} {c:UInt8}
def Lt.app (p:Lt C t ks) (q:Lt B u qs) (h:∀ r,B r->C (u++r)):Lt B (t++u) (ks++qs):=fun r j f w=>by
 rw [xY,xY];exact p _ _ (h r f) (q r j f w)
def Lt.then (p:Lt aT t ks) (q:Lt B u qs):Lt B (t++u) (ks++qs):=p.app q fun _ _=>trivial
theorem Lt.nil:Lt B [] []:=fun r f _ h=>h
def Lt.bl (h:wH c=true):Lt aT [c] []:=fun r f _ j=>by
 grind [LxB,jD]
def sgL:Bs:=[40,41,123,125,60,62,44,59,46,42,38,43,33]
set_option maxRecDepth 100000 in
def yB2 (h:gAv c sgL=true) (r:Bs):iD (c::r)=some (5,[c],1)/\noB (c::r):=by
 have f:c=40\/c=41\/c=123\/c=125\/c=60\/c=62\/c=44\/c=59\/c=46\/c=42\/c=38\/c=43\/c=33:=by
  have e:∀ n:Fin 256,gAv (UInt8.ofNat n.1) sgL=true->UInt8.ofNat n.1=40\/UInt8.ofNat n.1=41\/UInt8.ofNat n.1=123\/UInt8.ofNat n.1=125\/UInt8.ofNat n.1=60\/UInt8.ofNat n.1=62\/UInt8.ofNat n.1=44\/UInt8.ofNat n.1=59\/UInt8.ofNat n.1=46\/UInt8.ofNat n.1=42\/UInt8.ofNat n.1=38\/UInt8.ofNat n.1=43\/UInt8.ofNat n.1=33:=by decide
  have f:UInt8.ofNat c.toNat=c:=by simp
  have:=e ⟨c.toNat,c.toNat_lt⟩
  grind
 constructor
 ·rcases f with rfl | rfl | rfl | rfl | rfl | rfl | rfl | rfl | rfl | rfl | rfl | rfl | rfl <;>
  ·rw [iD,if_neg (by decide),if_neg (by decide),if_neg (by decide)]
   simp only [jI,two,gQ,lA7,xJ,xZ];cases r <;> simp [bB,gAv,fB5] <;> rfl
 ·rcases f with rfl | rfl | rfl | rfl | rfl | rfl | rfl | rfl | rfl | rfl | rfl | rfl | rfl <;> exact iO (by rfl) (by decide)
def Lt.sg (h:gAv c sgL=true):Lt aT [c] [(5,[c])]:=fun r j _ f=>Lx.b (yB2 h r).2 (Lx.cons (yB2 h r).1 f)
def Lt.pre (h:iD (c::32::[])=some (5,[c],1)) (p:eBf c 32=true) (f:wH c=false/\c.toNat≠47):Lt aT [c,32] [(5,[c])]:=fun r w _ j=>Lx.b (iO f.1 f.2) (Lx.cons (aB1 r p) (LxB.sp j))
def Lt.dbl {d:UInt8} (h:∀ r,iD (c::d::r)=some (5,[c,d],2)) (f:wH c=false/\c.toNat≠47):Lt aT [c,d] [(5,[c,d])]:=fun r p _ j=>Lx.b (iO f.1 f.2) (Lx.cons (h r) j)
def Lt.colon:Lt aT [58,32] [(5,[58])]:=.pre (by rfl) (by rfl) (by decide)
def Lt.equ:Lt aT [61,32] [(5,[61])]:=.pre (by rfl) (by rfl) (by decide)
def Lt.minus:Lt aT [45,32] [(5,[45])]:=.pre (by rfl) (by rfl) (by decide)
def Lt.arrow:Lt aT [45,62] [(5,[45,62])]:=.dbl (fun r=>by
 rw [iD,if_neg (by decide),if_neg (by decide),if_neg (by decide)];simp [jI,two,gQ,lA7,bB];rfl) (by decide)
def Lt.same:Lt aT [61,61] [(5,[61,61])]:=.dbl (fun r=>by
 rw [iD,if_neg (by decide),if_neg (by decide),if_neg (by decide)];simp [jI,two,gQ,lA7,bB];rfl) (by decide)
def Lt.colons:Lt aT [58,58] [(5,[58,58])]:=.dbl fAm (by decide)
def Lt.name (h:jE x=true):Lt brk x [(1,x)]:=fun r p f j=>Lx.b (gAq (tA9 h)) (LxB.name h f j)
def Lt.word (h:yG x=true) (j:isWord x=true):Lt brk x [(2,x)]:=fun r w p f=>Lx.b (gAq h) (LxB.word h j p f)
theorem Lt.life (h:yG x=true):Lt brk (39::x) [(3,x)]:=fun r p f j=>Lx.b (vBd _) (LxB.life h f j)
def Lt.wordS (h:yG x=true) (f:isWord x=true):Lt aT (x++[32]) [(2,x)]:=by
 have:=(Lt.word h f).app (Lt.bl (c:=32) rfl) (fun r _=>(uD (c:=32) rfl:brk (32::r)))
 grind
def Lt.marks {lv:List Bs} (h:∀ y∈lv,yG y=true):Lt brk (dF lv) (fP lv):=fun r p j f=>(cB6 h j f).1
def aB3 {lv:List Bs} {r:Bs} (h:∀ y∈lv,yG y=true) (f:brk r):brk (dF lv++r):=by
 cases lv with
 | nil=>exact f
 | cons x l=>exact uD (c:=60) rfl
def Lt.long {nm:Bs} (h:uA7 nm):∃ ns,bB6 nm ns/\Lt brk nm ns:=by
 rcases h with h | ⟨a,b,rfl,f,j⟩
 ·exact ⟨_,.inl ⟨h,rfl⟩,.name h⟩
 ·refine ⟨_,.inr ⟨a,b,rfl,f,j,rfl⟩,?_⟩
  have:=((Lt.name f).app Lt.colons (fun r _=>(uD (c:=58) rfl:brk (58::_)))).app (Lt.name j) (fun _ _=>trivial)
  grind
def Lt.pt:∀ {g:Nat} {p:PT},p.ok g->∃ ps,ptK p ps/\Lt brk p.txt ps
 | 0,p,L=>by cases p <;> cases L
 | g+1,.int,_=>⟨_,rfl,.word (x:=[105,110,116]) (by decide) (by decide)⟩
 | g+1,.bool,_=>⟨_,rfl,.word (x:=[98,111,111,108]) (by decide) (by decide)⟩
 | g+1,.st nm lv,⟨j,w,h⟩=>by
  have ⟨ns,H,F⟩:=Lt.long j;exact ⟨_,⟨ns,H,rfl⟩,F.app (.marks h) fun r J=>aB3 h J⟩
 | g+1,.ref f lv t,⟨j,w,h⟩=>by
  have ⟨ps,K,A⟩:=Lt.pt h;refine ⟨_,⟨ps,K,rfl⟩,?_⟩;have y:Lt brk (rBr f++t.txt) (uA9 f++ps):=by
   cases f
   ·exact A
   ·exact (Lt.wordS (x:=[109,117,116]) (by decide) (by decide)).then A
  have I:Lt brk (dB6 lv++(rBr f++t.txt)) (gA1 lv++(uA9 f++ps)):=by
   cases lv with
   | nil=>exact y
   | cons x q=>
    have:=((Lt.life (w x (by simp))).app (Lt.bl (c:=32) rfl) (fun r _=>(uD (c:=32) rfl:brk (32::r)))).then y
    grind [dB6,gA1]
  rw [yBd];exact (Lt.sg (c:=38) rfl).then I
end
def Rp {α:Type} (F:List Tok->St->α×St) (ks:List KT) (G:KT->Prop) (v:α):Prop:=∀ T i k,Mk T i (ks++[k])->G k->F T (i,none)=(v,(i+ks.length,none))
def noS (w:Bs) (k:KT):Prop:=(decide (k.1=2\/k.1=5)&&bB k.2 w)=false
def hdK (ks:List KT) (k:KT):KT:=(ks++[k]).headD k
section
variable {α β:Type} {F:List Tok->St->α×St} {ks qs:List KT} {C G:KT->Prop} {v:α} {w:Bs} {T:List Tok} {i:Nat} {k:KT}
def Mk.split (h:Mk T i ((ks++qs)++[k])):Mk T i (ks++[hdK qs k])/\Mk T (i+ks.length) (qs++[k]):=by
 rw [xY] at h;refine ⟨?_,h.app.2⟩
 cases qs with
 | nil=>exact h
 | cons q r=>
  have e:ks++(q::r++[k])=(ks++[q])++(r++[k]):=by simp
  rw [e] at h;exact h.app.1
theorem Rp.bnd {f:List Tok->α->St->β×St} {u:β} (x:Rp F ks C v) (y:Rp (fun T=>f T v) qs G u) (h:∀ k,G k->C (hdK qs k)):Rp (fun T=>bnd (F T) (f T)) (ks++qs) G u:=fun T i k m g=>by
 have ⟨p,j⟩:=m.split;show f T (F T (i,none)).1 (F T (i,none)).2=_;rw [x T i _ p (h k g),xN,<- Nat.add_assoc];exact y T _ k j g
def Rp.next {f:List Tok->α->St->β×St} {u:β} (x:Rp F ks aK v) (y:Rp (fun T=>f T v) qs G u):Rp (fun T=>Qp.bnd (F T) (f T)) (ks++qs) G u:=x.bnd y fun _ _=>trivial
def Rp.map {f:α->β} (x:Rp F ks G v):Rp (fun T=>nG f (F T)) ks G (f v):=fun T i k m g=>by
 show (f (F T (i,none)).1,(F T (i,none)).2)=_;rw [x T i k m g]
def Rp.ret:Rp (fun _=>qI v) [] G v:=fun T i k m g=>rfl
theorem Rp.weak (x:Rp F ks C v) (h:∀ k,G k->C k):Rp F ks G v:=fun T i k m g=>x T i k m (h k g)
def Rp.text {c:Int}:Rp (fun T=>kC T c) [(c,w)] aK w:=fun T i k m g=>yY m.cons.1
def Rp.opt_y {c:Int} (f:c=2\/c=5):Rp (fun T=>uB T w) [(c,w)] aK true:=fun T i k m g=>fL m.cons.1 f
def Rp.opt_n:Rp (fun T=>uB T w) [] (noS w) false:=fun T i k m g=>noM (m.cons.1) g
def Rp.want {c:Int} (f:c=2\/c=5):Rp (fun T=>iE T w) [(c,w)] aK ():=fun T i k m g=>by
 show ((),eD T w (i,none))=_;simp only [eD,fL m.cons.1 f,xM];rfl
def Rp.yes {c:Int} (h:c=2\/c=5) {X:List Tok->St->α×St} (x:Rp F ks G v):Rp (fun T=>lI T w (F T) (X T)) ((c,w)::ks) G v:=fun T i k m g=>by
 have ⟨j,f⟩:=Mk.cons (k:=(c,w)) (r:=ks++[k]) m;show (if (uB T w (i,none)).1=true then _ else _)=_;simp only [fL j h,xM];rw [x T (i+1) k f g,xJ,show i+(ks.length+1)=i+1+ks.length by omega]
theorem Mk.hd (h:Mk T i (ks++[k])):kt (tk T i)=hdK ks k:=by
 cases ks with
 | nil=>exact h.cons.1
 | cons q r=>exact (Mk.cons (k:=q) (r:=r++[k]) h).1
def Rp.no {Y:List Tok->St->α×St} (x:Rp F ks G v) (h:∀ k,G k->noS w (hdK ks k)):Rp (fun T=>lI T w (Y T) (F T)) ks G v:=fun T i k m g=>by
 have f:=m.hd;have e:=noM (T:=T) (i:=i) (k:=(hdK ks k).1) (x:=(hdK ks k).2) (w:=w) f (h k g);show (if (uB T w (i,none)).1=true then _ else _)=_;simp only [e,xE,xL];exact x T i k m g
def Rp.cong {F':List Tok->St->α×St} (x:Rp F ks G v) (h:∀ T,F' T=F T):Rp F' ks G v:=fun T i k m g=>by rw [h];exact x T i k m g
def uS (sep:Bs):List (List KT)->List KT
 | []=>[]
 | [x]=>x
 | x::y::r=>x++((5,sep)::uS sep (y::r))
theorem bB3 {one:List Tok->St->D×St} {sep:Bs} (y:C (5,sep)) (u:∀ k,G k->C k/\noS sep k):∀ (L:List (D×List KT)) (g:Nat),L≠[]->L.length<=g->(∀ p∈L,Rp one p.2 C p.1)->Rp (fun T=>oW T (one T) sep g) (uS sep (L.map (·.2))) G (L.map (·.1))
 | [],_,h,_,_=>absurd rfl h
 | [p],g,_,K,j=>fun T i k m f=>by
  obtain ⟨g,rfl⟩:∃ n,g=n+1:=⟨g-1,by grind⟩;have e:=j p (by simp) T i k m (u k f).1;have Q:kt (tk T (i+p.2.length))=k:=(Mk.cons (Mk.app m).2).1;simp only [oW,e];have R:=noM (T:=T) (i:=i+p.2.length) (k:=k.1) (x:=k.2) (w:=sep) Q (u k f).2;simp only [R,xE,xL];rfl
 | p::q::r,g,_,K,j=>fun T i k m f=>by
  obtain ⟨g,rfl⟩:∃ n,g=n+1:=⟨g-1,by grind⟩;have H:=bB3 y u (q::r) g (by simp) (by grind) (fun x S=>j x (by grind));have O:Mk T i ((p.2++((5,sep)::uS sep ((q::r).map (·.2))))++[k]):=m;have ⟨J,B⟩:=O.split;have e:=j p (by simp) T i _ J y;have ⟨I,A⟩:=Mk.cons (k:=(5,sep)) (r:=uS sep ((q::r).map (·.2))++[k]) B;have M:=H T _ k A f;simp only [oW,e,fL I (.inr rfl),xM,M]
  grind [uS,xN,xJ]
def vAe {one:List Tok->St->D×St} {sep:Bs} (j:C (5,sep)) (f:∀ k,G k->C k/\noS sep k) {L:List (D×List KT)} (h:L≠[]) (r:L.length<=64) (y:∀ p∈L,Rp one p.2 C p.1):Rp (fun T=>qD T (one T) sep) (uS sep (L.map (·.2))) G (L.map (·.1)):=fun T i k m u=>
 bB3 j f L 64 h r y T i k m u
def wAe {B C:Bs->Prop} {X:D->Bs} {sep sp:Bs} (u:Lt aT sp [(5,sep)]) (y:∀ r,C (sp++r)) (j:∀ r,B r->C r):∀ (L:List (D×List KT)),L≠[]->(∀ p∈L,Lt C (X p.1) p.2)->Lt B (Qb.joinL (L.map fun p=>X p.1) sp) (uS sep (L.map (·.2)))
 | [],h,_=>absurd rfl h
 | [p],_,f=>fun r H I J=>f p (by simp) r H (j r I) J
 | p::q::r,_,f=>by
  have A:=wAe (B:=B) u y j (q::r) (by simp) (fun x K=>f x (by grind))
  have:=(f p (by simp)).app (u.then A) (fun r _=>by grind)
  exact this
end
end Qp
namespace Qp
def gT (k:KT):Prop:=noS [58,58] k/\noS [60] k
def gD (k:KT):Prop:=noS [46] k
def kAj {T:List Tok} {i:Nat} {k:KT} {w:Bs} (h:kt (tk T i)=k) (g:noS w k):isS T w i=false:=(rAr (T:=T) (i:=i) (k:=k.1) (x:=k.2) h w).trans g
def vAr {g:Nat} {p:PT} {ps:List KT} (h:p.ok g) (j:g<=64) (r:ptK p ps):Rp (fun T=>nJ T 64) ps gT p.D:=fun T i k m f=>by
 have e:kt (tk T (i+ps.length))=k:=(Mk.cons (Mk.app m).2).1;exact aBa g p ps i 64 h j r (Mk.app m).1 ⟨kAj e f.1,kAj e f.2⟩
def FdP (d:D) (ks:List KT):Prop:=Lt brk (fdX d) ks/\Rp jG ks gT d/\((∃ nm ty,d=fdD false nm ty)->Rp tG ks gT d)/\∀ k,noS [41] (hdK ks k)/\noS [125] (hdK ks k)
def iBw {H:Bool} {d:D} (h:vO H d):∃ ks,FdP d ks:=by
 obtain ⟨m,nm,ty,rfl,_,A,p,rfl,f⟩:=h;have ⟨ps,y,F⟩:=Lt.pt f;have B:Lt brk (nm++[58,32]++tyX 64 p.D) ([(1,nm)]++[(5,[58])]++ps):=by
  rw [qA0 f];exact ((Lt.name A).app Lt.colon (fun r _=>(uD (c:=58) rfl:brk (58::_)))).then F
 have C:Rp (fun T=>bnd (kC T 1) fun a=>bnd (iE T [58]) fun _=>nG (fun r=>fdD false a r) (nJ T 64)) ([(1,nm)]++([(5,[58])]++ps)) gT (fdD false nm p.D):=
  Rp.text.next ((Rp.want (.inr rfl)).next (vAr f (xD _) y).map)
 have u:∀ b:Bool,Rp (fun T=>bnd (kC T 1) fun a=>bnd (iE T [58]) fun _=>nG (fun r=>fdD b a r) (nJ T 64)) ([(1,nm)]++([(5,[58])]++ps)) gT (fdD b nm p.D):=fun b=>
  Rp.text.next ((Rp.want (.inr rfl)).next (vAr f (xD _) y).map)
 have j:∀ T,jG T=bnd (uB T [109,117,116]) fun m=>bnd (kC T 1) fun a=>bnd (iE T [58]) fun _=>nG (fun r=>fdD m a r) (nJ T 64):=fun T=>rfl
 cases m with
 | false=>
  refine ⟨[(1,nm)]++([(5,[58])]++ps),?_,?_,fun _=>C.cong fun T=>rfl,fun k=>⟨rfl,rfl⟩⟩
  ·grind [fdX,fdD]
  ·exact ((Rp.opt_n (w:=[109,117,116])).bnd (u false) (fun k _=>by exact rfl)).cong j
 | true=>
  refine ⟨(2,[109,117,116])::([(1,nm)]++([(5,[58])]++ps)),?_,?_,fun ⟨_,_,e⟩=>by grind [fdD],fun k=>⟨rfl,rfl⟩⟩
  ·have:=(Lt.wordS (x:=[109,117,116]) (by decide) (by decide)).then B
   grind [fdX,fdD]
  ·exact ((Rp.opt_y (w:=[109,117,116]) (.inl rfl)).next (u true)).cong j
def lAj (x:Bs):KT:=if x=[42] then (5,[42]) else (1,x)
def vS:List Bs->List KT
 | []=>[]
 | x::r=>(5,[46])::lAj x::vS r
def cB3:∀ {g:Nat} {xs:List Bs},lAi g xs->Rp (fun T=>jL T g) (vS xs) gD xs
 | 0,xs,h=>by
  obtain rfl:xs=[]:=List.eq_nil_of_length_eq_zero (by have:=h.1;omega);exact fun T i k m g=>by
   have e:=noM (T:=T) (i:=i) (k:=k.1) (x:=k.2) (w:=[46]) m.cons.1 g;simp only [jL,e,xE,xL];rfl
 | g+1,[],h=>fun T i k m j=>by
  have e:=noM (T:=T) (i:=i) (k:=k.1) (x:=k.2) (w:=[46]) m.cons.1 j;simp only [jL,e,xE,xL];rfl
 | g+1,x::r,h=>fun T i k m j=>by
  have m:Mk T i ((5,[46])::(lAj x::(vS r++[k]))):=m;have ⟨F,B⟩:=m.cons;have ⟨f,A⟩:=B.cons;have p:=cB3 (g:=g) (xs:=r) ⟨by have:=h.1;grind,fun y H=>h.2 y (by grind)⟩ T _ k A j;have C:(vS (x::r)).length=(vS r).length+2:=rfl;rw [C,show i+((vS r).length+2)=i+1+1+(vS r).length by omega];simp only [jL,fL F (.inr rfl),xM]
  by_cases u:x=[42]
  ·subst u
   have f:kt (tk T (i+1))=(5,[42]):=f;simp only [fL f (.inr rfl),xM,p]
  ·have f:kt (tk T (i+1))=(1,x):=by rw [f,lAj,if_neg u]
   simp only [noM f (w:=[42]) rfl,xE,xL,yY f,p]
def rAa (nm:Bs):∀ xs:List Bs,Qb.joinL (nm::xs) [46]=nm++(xs.map (46::·)).flatten
 | []=>by simp [Qb.joinL]
 | x::r=>by
  rw [Qb.joinL,rAa x r];simp
def wAr {xs:List Bs} {r:Bs} (h:brk r):brk ((xs.map (46::·)).flatten++r):=by
 cases xs with
 | nil=>exact h
 | cons x l=>exact uD (c:=46) rfl
def dB3:∀ {xs:List Bs},(∀ x∈xs,rB6 x)->Lt brk (xs.map (46::·)).flatten (vS xs)
 | [],_=>Lt.nil
 | x::r,h=>by
  have j:=dB3 (xs:=r) (fun y A=>h y (by grind));have p:Lt brk (x++(r.map (46::·)).flatten) ([lAj x]++vS r):=by
   rcases h x (by simp) with rfl | f
   ·exact (Lt.sg (c:=42) rfl).then j
   ·have u:x≠[42]:=fun e=>by subst e;exact absurd f (by decide)
    rw [show lAj x=(1,x) from if_neg u];exact (Lt.name f).app j fun r w=>wAr w
  have:=(Lt.sg (c:=46) rfl).then p
  grind [vS]
def plK (nm:Bs) (xs:List Bs):List KT:=(1,nm)::vS xs
def wA2 {nm:Bs} {xs:List Bs} (h:lAi 64 xs):Rp kI (plK nm xs) gD (eF nm (xs.map D.s)):=by
 have f:Rp (fun T=>bnd (kC T 1) fun a=>nG (fun p=>eF a (p.map D.s)) (jL T 64)) ([(1,nm)]++vS xs) gD (eF nm (xs.map D.s)):=Rp.text.next (cB3 h).map;exact f.cong fun T=>rfl
def yA2 {nm:Bs} {xs:List Bs} (f:jE nm=true) (h:lAi 64 xs):Lt brk (plX (eF nm (xs.map D.s))) (plK nm xs):=by
 have e:plX (eF nm (xs.map D.s))=nm++(xs.map (46::·)).flatten:=by
  show Qb.joinL (nm::txS (xs.map D.s)) [46]=_;rw [fH,rAa]
 rw [e];exact (Lt.name f).app (dB3 h.2) fun r j=>wAr j
theorem yAr:∀ (u:Nat),(∀ c∈Lib.decDigits u,mD c=true)/\mS (Lib.decDigits u) 0=u/\∃ c q,Lib.decDigits u=c::q/\(c.toNat=48->q=[]):=fun u=>by
 induction u using Nat.strongRecOn with
 | ind u j=>
  have B:∀ n:Nat,n<10->(UInt8.ofNat (48+n)).toNat=48+n:=fun n f=>by simp [Nat.mod_eq_of_lt (show 48+n<256 by omega)]
  have hd:∀ n:Nat,n<10->mD (UInt8.ofNat (48+n))=true:=fun n f=>by grind [mD,decide_eq_true]
  by_cases h:u<10
  ·rw [Lib.decDigits,dif_pos h]
   refine ⟨fun c A=>by grind,?_,_,[],rfl,fun _=>rfl⟩
   grind [mS]
  ·have ⟨p,r,c,q,w,y⟩:=j (u / 10) (by omega)
   rw [Lib.decDigits,dif_neg h]
   grind [UInt8.ofNat,List.mem_singleton,pAh,mS]
theorem aAs (n:Nat):Lib.itoa (n:Int)=Lib.decDigits n:=by
 unfold Lib.itoa
 grind
def tAa {c:UInt8} (h:mD c=true):wJ c=true/\uC c=false/\wH c=false/\c.toNat≠47:=by
 have f:wJ c=true:=by simp [wJ,h]
 simp only [mD,xG,xU] at h
 grind [uC,Bool.or_eq_false_iff,xd,wH]
def gBq {n:Nat} (B:n<=2147483647):Lt brk (Lib.itoa (n:Int)) [(4,Lib.itoa (n:Int))]:=fun r I F K=>by
 rw [aAs];have ⟨u,w,c,q,A,M⟩:=yAr n;have h:fY (Lib.decDigits n)=true:=by
  simp only [fY,w,Nat.ble_eq_true_of_le B,Bool.and_true,xG,List.all_eq_true,Bool.not_eq_true',Bool.and_eq_false_iff,xd]
  grind [oN]
 have j:=u c (by grind);have ⟨J,C,L,H⟩:=tAa j;have f:runN (Lib.decDigits n++r)=(Lib.decDigits n).length:=tW (fun c j=>(tAa (u c j)).1) F;have p:(Lib.decDigits n++r).take (Lib.decDigits n).length=Lib.decDigits n:=List.take_left' rfl;have y:iD (Lib.decDigits n++r)=some (4,Lib.decDigits n,(Lib.decDigits n).length):=by
  rw [A] at f p h ⊢;simp only [List.cons_append] at f p ⊢;simp only [iD,C,j,xE,xL,xM,eA9,f,p,h]
 grind [noB,Lib.decDigits,iO,Lx.b,Lx.cons,iA2]
abbrev hOp (k:KT):Prop:=k.1=1\/k.1=4\/k=(2,[116,114,117,101])\/k=(2,[102,97,108,115,101])
def hOp.no {k:KT} (h:hOp k) {w:Bs} (f:bB [116,114,117,101] w=false) (j:bB [102,97,108,115,101] w=false):noS w k:=by
 grind [noS]
def nb (w:Bs) (k:KT):Prop:=(decide (k.1=5)&&bB k.2 w)=false
def dAo {T:List Tok} {i:Nat} {c:Int} {x w:Bs} (h:kt (tk T i)=(c,x)) (f:c≠1):uE T w (i,none)=false:=by
 have:(tk T i).1=c:=congrArg Prod.fst h
 grind [uE]
def yAe {T:List Tok} {i:Nat} {k:KT} {w:Bs} (h:kt (tk T (i+1))=k) (f:nb w k):uE T w (i,none)=false:=by
 have j:(tk T (i+1)).1=k.1:=congrArg Prod.fst h;have p:(tk T (i+1)).2.1=k.2:=congrArg Prod.snd h;unfold nb at f;simp only [uE,j,p,f,Bool.and_false]
def eB3 {T:List Tok} {i:Nat} {x w:Bs} (h:kt (tk T i)=(1,x)) (h':kt (tk T (i+1))=(5,w)):uE T w (i,none)=true:=by
 have f:(tk T i).1=1:=congrArg Prod.fst h;have j:(tk T (i+1)).1=5:=congrArg Prod.fst h';have p:(tk T (i+1)).2.1=w:=congrArg Prod.snd h'
 grind [uE,tH]
def OpP (d:D) (ks:List KT):Prop:=Lt brk (opX d) ks/\Rp gF ks gD d/\(∀ T i k w,Mk T i (ks++[k])->bB [46] w=false->nb w k->uE T w (i,none)=false)/\∀ k,gD k->hOp (hdK ks k)
def bBa {d:D} (h:bG d):∃ ks,OpP d ks/\ks≠[]:=by
 rcases h with ⟨n,rfl,u⟩ | ⟨n,u,rfl⟩ | ⟨p,rfl,nm,xs,rfl,u,A⟩
 ·refine ⟨[(4,Lib.itoa (n:Int))],⟨?_,fun T i k m g=>?_,fun T i k w m _ _=>dAo m.cons.1 (by decide),fun k _=>.inr (.inl rfl)⟩,by simp⟩
  ·exact gBq u
  ·have f:=m.cons.1
   have y:(tk T i).1=4:=congrArg Prod.fst f;have F:mS (Lib.itoa (n:Int)) 0=n:=by grind [aAs,yAr]
   simp only [gF,noM f (w:=[116,114,117,101]) rfl,noM f (w:=[102,97,108,115,101]) rfl,xE,xL,y,xM,yY f,F];rfl
 ·rcases u with rfl | rfl
  ·refine ⟨[(2,[102,97,108,115,101])],⟨.word (x:=[102,97,108,115,101]) (by decide) (by decide),fun T i k m g=>?_,fun T i k w m _ _=>dAo m.cons.1 (by decide),fun k _=>.inr (.inr (.inr rfl))⟩,by simp⟩
   have f:=m.cons.1;simp only [gF,noM f (w:=[116,114,117,101]) rfl,fL f (.inl rfl),xE,xL,xM];rfl
  ·refine ⟨[(2,[116,114,117,101])],⟨.word (x:=[116,114,117,101]) (by decide) (by decide),fun T i k m g=>?_,fun T i k w m _ _=>dAo m.cons.1 (by decide),fun k _=>.inr (.inr (.inl rfl))⟩,by simp⟩
   have f:=m.cons.1;simp only [gF,fL f (.inl rfl),xM];rfl
 ·refine ⟨plK nm xs,⟨yA2 u A,fun T i k m g=>?_,fun T i k w m C B=>?_,fun k _=>.inl rfl⟩,by simp [plK]⟩
  rotate_left
  ·have m:Mk T i ((1,nm)::(vS xs++[k])):=m
   cases xs with
   | nil=>exact yAe m.cons.2.cons.1 B
   | cons x r=>
    have j:Mk T (i+1) ((5,[46])::(lAj x::(vS r++[k]))):=m.cons.2;exact yAe j.cons.1 C
  have e:=wA2 (nm:=nm) A T i k m g;have f:=m.hd;have j:kt (tk T i)=(1,nm):=f;have y:¬ (tk T i).1=4:=by rw [show (tk T i).1=1 from congrArg Prod.fst j];decide
  simp only [gF,noM j (w:=[116,114,117,101]) rfl,noM j (w:=[102,97,108,115,101]) rfl,xE,xL,y,e]
end Qp
namespace Qp
def gR (a b:List KT) (k:KT):hdK (a++b) k=hdK a (hdK b k):=by
 cases a <;> cases b <;> rfl
def iBh (sep:Bs) (a:List KT) (r:List (List KT)) (k:KT):∃ x,hdK (uS sep (a::r)) k=hdK a x/\(x=k\/x=(5,sep)):=by
 cases r with
 | nil=>exact ⟨k,rfl,.inl rfl⟩
 | cons b r=>exact ⟨(5,sep),by rw [uS,gR];rfl,.inr rfl⟩
def pick {P:D->List KT->Prop}:∀ (l:List D),(∀ d∈l,∃ ks,P d ks)->∃ L:List (D×List KT),L.map (·.1)=l/\∀ p∈L,P p.1 p.2
 | [],_=>⟨[],rfl,by simp⟩
 | d::r,h=>by
  have ⟨ks,w⟩:=h d (by simp);have ⟨L,f,j⟩:=pick r fun x y=>h x (by grind);exact ⟨(d,ks)::L,by grind,fun p u=>by
   grind⟩
def eAo {one:List Tok->St->D×St} {X:D->Bs} {l:List D} {a b:Bs} {H C:KT->Prop} (O:l≠[]) (U:l.length<=64) (I:∀ k,H k->noS b k) (Q:noS [44] (5,b)) (A:C (5,[44])) (y:C (5,b)) (u:∀ d∈l,∃ ks,Lt brk (X d) ks/\Rp one ks C d/\∀ k,C k->H (hdK ks k)) :
  ∃ ks,Lt brk (Qb.joinL (l.map X) [44,32]) ks/\Rp (fun T=>bnd (iE T a) fun _=>lI T b (qI []) (bnd (qD T (one T) [44]) fun l=>nG (fun _=>l) (iE T b))) ((5,a)::(ks++[(5,b)])) aK l:=by
 have ⟨L,J,w⟩:=pick (P:=fun d ks=>Lt brk (X d) ks/\Rp one ks C d/\∀ k,C k->H (hdK ks k)) l u;have F:L≠[]:=fun e=>O (by grind);refine ⟨uS [44] (L.map (·.2)),?_,?_⟩
 ·have:=wAe (B:=brk) (C:=brk) (X:=X) (sep:=[44]) (sp:=[44,32]) ((Lt.sg (c:=44) rfl).then (Lt.bl (c:=32) rfl)) (fun r=>uD (c:=44) rfl) (fun r h=>h) L F (fun p u=>(w p u).1)
  rw [<- J,List.map_map];exact this
 ·have j:Rp (fun T=>qD T (one T) [44]) (uS [44] (L.map (·.2))) (fun k=>k=(5,b)) l:=by
   have:=vAe (one:=one) (C:=C) (G:=fun k=>k=(5,b)) (sep:=[44]) A (fun k e=>by grind) F (by grind) (fun p u=>(w p u).2.1)
   grind
  have M:Rp (fun T=>bnd (qD T (one T) [44]) fun l=>nG (fun _=>l) (iE T b)) (uS [44] (L.map (·.2))++[(5,b)]) aK l:=j.bnd (f:=fun T l=>nG (fun _=>l) (iE T b)) (Rp.want (.inr rfl)).map (fun k _=>rfl);have S:Rp (fun T=>lI T b (qI []) (bnd (qD T (one T) [44]) fun l=>nG (fun _=>l) (iE T b))) (uS [44] (L.map (·.2))++[(5,b)]) aK l:=Rp.no (Y:=fun T=>qI []) M fun k _=>by
   rw [gR]
   cases L with
   | nil=>grind
   | cons p r=>
    have ⟨x,K,R⟩:=iBh [44] p.2 (r.map (·.2)) (hdK [(5,b)] k);rw [List.map_cons,K];refine I _ ((w p (by simp)).2.2 x ?_)
    rcases R with rfl | rfl
    ·exact y
    omega
  exact (Rp.want (.inr rfl)).next S
def cBa {ag:List D} (h:uO 64 bG ag):∃ ks,Lt aT ([40]++Qb.joinL (ag.map opX) [44,32]++[41]) ((5,[40])::ks)/\Rp fA1 ((5,[40])::ks) aK ag:=by
 have f:∀ T,fA1 T=bnd (iE T [40]) fun _=>lI T [41] (qI []) (bnd (qD T (gF T) [44]) fun l=>nG (fun _=>l) (iE T [41])):=mAi
 cases ag with
 | nil=>
  refine ⟨[(5,[41])],(Lt.sg (c:=40) rfl).then (Lt.sg (c:=41) rfl),?_⟩
  have:Rp (fun T=>bnd (iE T [40]) fun _=>lI T [41] (qI []) (bnd (qD T (gF T) [44]) fun l=>nG (fun _=>l) (iE T [41]))) ([(5,[40])]++[(5,[41])]) aK ([]:List D):=(Rp.want (.inr rfl)).next (Rp.yes (.inr rfl) Rp.ret)
  exact this.cong f
 | cons d r=>
  have ⟨ks,j,w⟩:=eAo (one:=gF) (X:=opX) (l:=d::r) (a:=[40]) (b:=[41]) (H:=hOp) (C:=gD) (by simp) h.1 (fun k p=>p.no rfl rfl) rfl rfl rfl fun o u=>by
   have ⟨ks,⟨A,y,_,B⟩,_⟩:=bBa (h.2 o u)
   grind
  refine ⟨ks++[(5,[41])],?_,w.cong f⟩
  have:=((Lt.sg (c:=40) rfl).then j).app (Lt.sg (c:=41) rfl) (fun r _=>(uD (c:=41) rfl:brk (41::r)))
  grind
def jBw {n:Bs} {o:D} (p:jE n=true) (j:bG o):∃ ks,Lt brk (prX (.t [.s n,o])) ks/\Rp kU ks gD (.t [.s n,o])/\∀ k,gD k->(hdK ks k).1=1:=by
 have ⟨ks,⟨h,f,_,u⟩,_⟩:=bBa j;refine ⟨[(1,n)]++([(5,[58])]++ks),?_,?_,fun k _=>rfl⟩
 ·have:=(Lt.name p).app (Lt.colon.then h) (fun r _=>(uD (c:=58) rfl:brk (58::_)))
  grind [prX]
 ·have:Rp (fun T=>bnd (kC T 1) fun a=>bnd (iE T [58]) fun _=>nG (fun o=>(.t [.s a,o]:D)) (gF T)) ([(1,n)]++([(5,[58])]++ks)) gD (.t [.s n,o]):=Rp.text.next ((Rp.want (.inr rfl)).next f.map)
  exact this.cong fun T=>rfl
def aAf:∀ {ns:List Bs} {ag:List D},ns.length=ag.length->cG ns ag=(List.zipWith (fun n o=>(.t [.s n,o]:D)) ns ag).map prX/\(List.zipWith (fun n o=>(.t [.s n,o]:D)) ns ag).map d1=ns.map D.s/\(List.zipWith (fun n o=>(.t [.s n,o]:D)) ns ag).map d2=ag
 | [],[],_=>⟨rfl,rfl,rfl⟩
 | n::ns,o::ag,h=>by
  have ⟨f,j,p⟩:=aAf (ns:=ns) (ag:=ag) (by grind);simp only [cG,List.zipWith_cons_cons,List.map_cons,f,j,p];exact ⟨rfl,rfl,rfl⟩
 | [],_::_,h=>by grind
 | _::_,[],h=>by grind
def fAo:∀ {ns:List Bs} {ag:List D} {d:D},d∈List.zipWith (fun n o=>(.t [.s n,o]:D)) ns ag->∃ n∈ns,∃ o∈ag,d=.t [.s n,o]
 | [],_,d,h=>by simp at h
 | _::_,[],d,h=>by simp at h
 | n::ns,o::ag,d,h=>by
  rw [List.zipWith_cons_cons] at h;rcases List.mem_cons.1 h with rfl | h
  ·grind
  ·have ⟨u,j,f,p,r⟩:=fAo h
   grind
def uB7 {x:Bs} (h:x≠[]) (r:List Bs) (sep:Bs):Qb.joinL (x::r) sep≠[]:=by
 cases r with
 | nil=>exact h
 | cons y r=>grind [Qb.joinL,List.append_eq_nil_iff]
def mkX (ns:List Bs) (ag:List D):Bs:=[32,123,32]++(if Qb.joinL (cG ns ag) [44,32]=[] then [] else Qb.joinL (cG ns ag) [44,32]++[32])++[125]
def iBq {ns:List Bs} {ag:List D} (L:ns.length=ag.length) (K:∀ x∈ns,jE x=true) (h:uO 64 bG ag):∃ ks,Lt aT (mkX ns ag) ((5,[123])::ks)/\Rp tA7 ((5,[123])::ks) aK (List.zipWith (fun n o=>(.t [.s n,o]:D)) ns ag):=by
 have y:∀ T,tA7 T=bnd (iE T [123]) fun _=>lI T [125] (qI []) (bnd (qD T (kU T) [44]) fun l=>nG (fun _=>l) (iE T [125])):=fun T=>by
  funext σ
  rfl
 have ⟨B,O,M⟩:=aAf L;unfold mkX;rw [B];have A:∀ d∈List.zipWith (fun n o=>(.t [.s n,o]:D)) ns ag,∃ ks,Lt brk (prX d) ks/\Rp kU ks gD d/\∀ k,gD k->(hdK ks k).1=1:=fun d hd=>by
  obtain ⟨n,u,o,w,rfl⟩:=fAo hd;exact jBw (K n u) (h.2 o w)
 have j:∀ d∈List.zipWith (fun n o=>(.t [.s n,o]:D)) ns ag,prX d≠[]:=fun d hd=>by
  obtain ⟨n,u,o,w,rfl⟩:=fAo hd;simp [prX]
 have f:(List.zipWith (fun n o=>(.t [.s n,o]:D)) ns ag).length<=64:=by
  rw [List.length_zipWith];have:=h.1;omega
 generalize List.zipWith (fun n o=>(.t [.s n,o]:D)) ns ag=l at *
 cases l with
 | nil=>
  refine ⟨[(5,[125])],?_,?_⟩
  ·have:=((Lt.bl (c:=32) rfl).then ((Lt.sg (c:=123) rfl).then (Lt.bl (c:=32) rfl))).then (Lt.sg (c:=125) rfl)
   grind [Qb.joinL]
  ·have:Rp (fun T=>bnd (iE T [123]) fun _=>lI T [125] (qI []) (bnd (qD T (kU T) [44]) fun l=>nG (fun _=>l) (iE T [125]))) ([(5,[123])]++[(5,[125])]) aK ([]:List D):=(Rp.want (.inr rfl)).next (Rp.yes (.inr rfl) Rp.ret)
   exact this.cong y
 | cons d r=>
  have ⟨ks,I,J⟩:=eAo (one:=kU) (X:=prX) (l:=d::r) (a:=[123]) (b:=[125]) (H:=fun k=>k.1=1) (C:=gD) (by simp) f (fun k F=>by have ⟨c,x⟩:=k;have:c=1:=F;subst this;rfl) rfl rfl rfl A;refine ⟨ks++[(5,[125])],?_,J.cong y⟩;have p:Qb.joinL ((d::r).map prX) [44,32]≠[]:=uB7 (j d (by simp)) _ _;rw [if_neg p]
  have:=(((Lt.bl (c:=32) rfl).then ((Lt.sg (c:=123) rfl).then (Lt.bl (c:=32) rfl))).then I).app ((Lt.bl (c:=32) rfl).then (Lt.sg (c:=125) rfl)) (fun r _=>(uD (c:=32) rfl:brk (32::_)))
  grind
end Qp
namespace Qp
def gE (k:KT):Prop:=k=(5,[59])
def fB3 {nm:Bs} (h:uA7 nm):∃ ns,Lt brk nm ns/\Rp rK ns (noS [58,58]) nm/\(∀ k,(hdK ns k).1=1)/\(∀ T i c,Mk T i (ns++[(5,c)])->(uE T [58,58] (i,none)||uE T c (i,none))=true)/\∀ T i k,Mk T i (ns++[k])->Mk T i ns:=by
 have ⟨ns,f,j⟩:=Lt.long h;refine ⟨ns,j,fun T i k m g=>?_,fun k=>?_,fun T i c m=>?_,fun T i k m=>m.app.1⟩
 ·have e:kt (tk T (i+ns.length))=k:=(Mk.cons (Mk.app m).2).1
  exact wB2 f (Mk.app m).1 (kAj e g)
 ·rcases f with ⟨_,rfl⟩ | ⟨a,b,_,_,_,rfl⟩ <;> rfl
 ·rcases f with ⟨_,rfl⟩ | ⟨a,b,_,_,_,rfl⟩
  ·have m:Mk T i ((1,nm)::[(5,c)]):=m
   rw [eB3 m.cons.1 m.cons.2.cons.1,Bool.or_true]
  ·have m:Mk T i ((1,a)::(5,[58,58])::([(1,b)]++[(5,c)])):=m
   rw [eB3 m.cons.1 m.cons.2.cons.1,Bool.true_or]
def pBu {va:D} (h:mayVa va):∃ ks,Lt brk (vaX va) ks/\Rp kH ks gE va/\∀ k,gE k->noS [59] (hdK ks k):=by
 have K:∀ k,gE k->gD k:=fun k e=>by subst e;rfl
 have R:∀ (k:Int) (a b:D) (op:Int) (pl:D) (nm:Bs) (ag:List D),vaX (vaD k a b op pl nm [] ag)=_:=fun k a b op pl nm ag=>yA7 k a b op pl nm [] ag
 cases h with
 | op h=>
  rename_i o;have ⟨ks,⟨q1,q2,q3,q4⟩,_⟩:=bBa h;refine ⟨ks,?_,fun T i k m g=>?_,fun k g=>(q4 k (K k g)).no rfl rfl⟩
  ·grind
  ·have A:=m.hd
   have O:=q4 k (K k g);have e:=q2 T i k m (K k g);subst g;have I:kt (tk T (i+ks.length))=(5,[59]):=(Mk.cons (Mk.app m).2).1;have W:=q3 T i _ [58,58] m rfl rfl;have b2:=q3 T i _ [40] m rfl rfl;have b3:=q3 T i _ [123] m rfl rfl;simp only [kH,noM (k:=(hdK ks (5,[59])).1) (x:=(hdK ks (5,[59])).2) A (O.no rfl rfl:noS [38] _),noM (k:=(hdK ks (5,[59])).1) (x:=(hdK ks (5,[59])).2) A (O.no rfl rfl:noS [33] _),xE,xL,jH,W,b2,b3,Bool.or_self,e,iJ,opS,noM I (w:=[43]) rfl,noM I (w:=[45]) rfl,noM I (w:=[60]) rfl,noM I (w:=[61,61]) rfl];rfl
 | ref S h=>
  rename_i c p;obtain ⟨nm,xs,rfl,M,hx⟩:=h;have l1:=yA2 M hx;have r1:=wA2 (nm:=nm) hx;rcases S with rfl | rfl
  ·refine ⟨(5,[38])::plK nm xs,?_,fun T i k m g=>?_,fun k _=>rfl⟩
   ·rw [R];exact (Lt.sg (c:=38) rfl).then l1
   ·have m:Mk T i ((5,[38])::(plK nm xs++[k])):=m
    have ⟨f,u⟩:=m.cons;have H:kt (tk T (i+1))=(1,nm):=u.hd;simp only [kH,fL f (.inr rfl),xM,noM H (w:=[109,117,116]) rfl,xE,xL,r1 T (i+1) k u (K k g)]
    grind
  ·refine ⟨(5,[38])::(2,[109,117,116])::plK nm xs,?_,fun T i k m g=>?_,fun k _=>rfl⟩
   ·rw [R]
    have:=(Lt.sg (c:=38) rfl).then ((Lt.wordS (x:=[109,117,116]) (by decide) (by decide)).then l1)
    grind
   ·have m:Mk T i ((5,[38])::((2,[109,117,116])::(plK nm xs++[k]))):=m
    have ⟨f,u⟩:=m.cons;have ⟨H,I⟩:=u.cons;simp only [kH,fL f (.inr rfl),xM,fL H (.inl rfl),r1 T (i+1+1) k I (K k g)]
    grind
 | no h=>
  rename_i o;have ⟨ks,⟨q1,q2,_,q4⟩,_⟩:=bBa h;refine ⟨(5,[33])::ks,?_,fun T i k m g=>?_,fun k _=>rfl⟩
  ·rw [R];exact (Lt.sg (c:=33) rfl).then q1
  ·have m:Mk T i ((5,[33])::(ks++[k])):=m
   have ⟨f,u⟩:=m.cons;simp only [kH,noM f (w:=[38]) rfl,xE,xL,fL f (.inr rfl),xM,q2 T (i+1) k u (K k g)]
   grind
 | bin ha L S=>
  rename_i a b c;have ⟨J,⟨a1,a2,a3,a4⟩,_⟩:=bBa ha;have ⟨F,⟨W,b2,_,_⟩,_⟩:=bBa L;have sg:∃ w,Lt aT (cA7 c) [(5,w)]/\(∀ r,brk (cA7 c++r))/\gD (5,w)/\nb [58,58] (5,w)/\nb [40] (5,w)/\nb [123] (5,w)/\∀ T j,kt (tk T j)=(5,w)->opS T iJ 1 (j,none)=(some (c,(gF T (j+1,none)).1),(gF T (j+1,none)).2):=by
   rcases S with rfl | rfl | rfl | rfl
   ·refine ⟨[43],?_,fun r=>uD (c:=32) rfl,rfl,rfl,rfl,rfl,fun T j m=>?_⟩
    ·exact (Lt.bl (c:=32) rfl).then ((Lt.sg (c:=43) rfl).then (Lt.bl (c:=32) rfl))
    ·simp only [iJ,opS,fL m (.inr rfl),xM]
   ·refine ⟨[45],?_,fun r=>uD (c:=32) rfl,rfl,rfl,rfl,rfl,fun T j m=>?_⟩
    ·exact (Lt.bl (c:=32) rfl).then Lt.minus
    ·simp only [iJ,opS,noM m (w:=[43]) rfl,xE,xL,fL m (.inr rfl),xM]
     rfl
   ·refine ⟨[60],?_,fun r=>uD (c:=32) rfl,rfl,rfl,rfl,rfl,fun T j m=>?_⟩
    ·exact (Lt.bl (c:=32) rfl).then ((Lt.sg (c:=60) rfl).then (Lt.bl (c:=32) rfl))
    ·simp only [iJ,opS,noM m (w:=[43]) rfl,noM m (w:=[45]) rfl,xE,xL,fL m (.inr rfl),xM]
     rfl
   ·refine ⟨[61,61],?_,fun r=>uD (c:=32) rfl,rfl,rfl,rfl,rfl,fun T j m=>?_⟩
    ·exact (Lt.bl (c:=32) rfl).then (Lt.same.then (Lt.bl (c:=32) rfl))
    ·simp only [iJ,opS,noM m (w:=[43]) rfl,noM m (w:=[45]) rfl,noM m (w:=[60]) rfl,xE,xL,fL m (.inr rfl),xM]
     rfl
  have ⟨w,s1,s2,s3,s4,s5,s6,s7⟩:=sg;refine ⟨J++((5,w)::F),?_,fun T i k m g=>?_,fun k g=>?_⟩
  ·rw [R]
   have:=(a1.app (s1.then W) (fun r _=>by grind))
   grind
  ·have ⟨f,u⟩:=m.split
   have A:=f.hd;have H:Mk T (i+J.length) ((5,w)::(F++[k])):=u;have ⟨I,m5⟩:=H.cons;have O:=a4 _ (show gD (hdK ((5,w)::F) k) from s3);have e:=a2 T i _ f s3;have e2:=b2 T _ k m5 (K k g);have c1:=a3 T i _ [58,58] f rfl s4;have c2:=a3 T i _ [40] f rfl s5;have c3:=a3 T i _ [123] f rfl s6;simp only [kH,noM (k:=(hdK J (hdK ((5,w)::F) k)).1) (x:=(hdK J (hdK ((5,w)::F) k)).2) A (O.no rfl rfl:noS [38] _),noM (k:=(hdK J (hdK ((5,w)::F) k)).1) (x:=(hdK J (hdK ((5,w)::F) k)).2) A (O.no rfl rfl:noS [33] _),xE,xL,jH,c1,c2,c3,Bool.or_self,e,s7 T _ I,e2];rw [xN,xJ,show i+(J.length+(F.length+1))=i+J.length+1+F.length by omega];rfl
  ·rw [gR]
   exact (a4 _ (show gD (hdK ((5,w)::F) k) from s3)).no rfl rfl
 | call M h=>
  rename_i nm ag;have ⟨ns,n1,V,Q,X,n5⟩:=fB3 M;have ⟨ks,k1,Z⟩:=cBa h;refine ⟨ns++((5,[40])::ks),?_,fun T i k m g=>?_,fun k g=>?_⟩
  ·rw [R]
   have:=n1.app (B:=brk) (fun r Y L U=>k1 r Y trivial U) (fun r _=>(uD (c:=40) rfl:brk (40::_)))
   grind [fR]
  ·have ⟨f,u⟩:=m.split
   have f:Mk T i (ns++[(5,[40])]):=f;have A:=f.hd;have C:=Q (5,[40]);have H:kt (tk T (i+ns.length))=(5,[40]):=(Mk.cons (k:=(5,[40])) (r:=ks++[k]) u).1;have L:=X T i _ f;have y:∀ w,noS w (hdK ns (5,[40])):=fun w=>by
    generalize hdK ns (5,[40])=q at C;have ⟨c,x⟩:=q
    have:c=1:=C
    subst this;rfl
   have hc:(jH T (i,none)||uE T [123] (i,none))=true:=by unfold jH;grind
   simp only [kH,noM (k:=(hdK ns (5,[40])).1) (x:=(hdK ns (5,[40])).2) A (y [38]),noM (k:=(hdK ns (5,[40])).1) (x:=(hdK ns (5,[40])).2) A (y [33]),xE,xL,hc,xM,qW,V T i _ f rfl,noM H (w:=[123]) rfl,Z T _ k u trivial]
   grind
  ·rw [gR]
   have C:=Q (hdK ((5,[40])::ks) k);generalize hdK ns (hdK ((5,[40])::ks) k)=q at C;have ⟨c,x⟩:=q
   have:c=1:=C
   subst this;rfl
 | make M hl hs h=>
  rename_i nm xs ag;have ⟨ns,n1,V,Q,X,n5⟩:=fB3 M;have ⟨ks,k1,Z⟩:=iBq hl hs h;have ⟨z1,z2,z3⟩:=aAf hl;refine ⟨ns++((5,[123])::ks),?_,fun T i k m g=>?_,fun k g=>?_⟩
  ·have e:vaX (vaD 7 op0 op0 0 pl0 nm (xs.map D.s) ag)=nm++mkX xs ag:=by
    grind [yA7,mkX]
   rw [e];exact n1.app (B:=brk) (fun r Y L U=>k1 r Y trivial U) (fun r _=>by unfold mkX;exact (uD (c:=32) rfl:brk (32::_)))
  ·have ⟨f,u⟩:=m.split
   have f:Mk T i (ns++[(5,[123])]):=f;have A:=f.hd;have C:=Q (5,[123]);have H:kt (tk T (i+ns.length))=(5,[123]):=(Mk.cons (k:=(5,[123])) (r:=ks++[k]) u).1;have L:=X T i _ f;have y:∀ w,noS w (hdK ns (5,[123])):=fun w=>by
    generalize hdK ns (5,[123])=q at C;have ⟨c,x⟩:=q
    have:c=1:=C
    subst this;rfl
   have hc:(jH T (i,none)||uE T [123] (i,none))=true:=by
    unfold jH
    grind
   simp only [kH,noM (k:=(hdK ns (5,[123])).1) (x:=(hdK ns (5,[123])).2) A (y [38]),noM (k:=(hdK ns (5,[123])).1) (x:=(hdK ns (5,[123])).2) A (y [33]),xE,xL,hc,xM,qW,V T i _ f rfl,fL H (.inr rfl),Z T _ k u trivial,z2,z3];rw [xN,<- Nat.add_assoc]
  ·rw [gR]
   have C:=Q (hdK ((5,[123])::ks) k);generalize hdK ns (hdK ((5,[123])::ks) k)=q at C;have ⟨c,x⟩:=q
   have:c=1:=C
   subst this;rfl
end Qp
namespace Qp
def dAv {T:List Tok} {i:Nat} {c:Int} {x:Bs} (h:kt (tk T i)=(c,x)) (f:c=2\/c=5):eD T x (i,none)=(i+1,none):=by
 simp only [eD,fL h f,xM]
def qBu {m:Bool} {nm:Bs} {ty:D} {I:Bool} {va:D} (U:jE nm=true) (W:lL 64 ty) (J:jB9 I va):∃ ks,Lt aT (qAj m nm ty I va) ((2,[108,101,116])::ks)/\∀ a,Rp (fun T=>kAv T a) ks aK (smT 1 a m nm ty I pl0 va op0 [] []):=by
 obtain ⟨p,rfl,L⟩:=W;have ⟨ps,Y,V⟩:=Lt.pt L;have X:=vAr L (xD _) Y;have M:Lt brk ((if m=true then [108,101,116,32,109,117,116,32] else [108,101,116,32])++(nm++([58,32]++tyX 64 p.D))) ((2,[108,101,116])::(uA9 m++((1,nm)::(5,[58])::ps))):=by
  have O:Lt brk (nm++([58,32]++tyX 64 p.D)) ([(1,nm)]++([(5,[58])]++ps)):=by
   rw [qA0 L];exact (Lt.name U).app (Lt.colon.then V) (fun r _=>(uD (c:=58) rfl:brk (58::_)))
  cases m with
  | false=>exact (Lt.wordS (x:=[108,101,116]) (by decide) (by decide)).then O
  | true=>
   have:=(Lt.wordS (x:=[108,101,116]) (by decide) (by decide)).then ((Lt.wordS (x:=[109,117,116]) (by decide) (by decide)).then O)
   exact this
 have Q:∀ (T:List Tok) (i:Nat) (q:KT) (r:List KT),Mk T i (uA9 m++((1,nm)::(5,[58])::(ps++(q::r))))->gT q->∃ j,j=i+(uA9 m).length+2+ps.length/\uB T [109,117,116] (i,none)=(m,(i+(uA9 m).length,none))/\kC T 1 (i+(uA9 m).length,none)=(nm,(i+(uA9 m).length+1,none))/\nJ T 64 (eD T [58] (i+(uA9 m).length+1,none))=(p.D,(j,none))/\Mk T j (q::r):=fun T i q r F g=>by
  have ⟨u,f⟩:=F.app;have ⟨h,A⟩:=f.cons;have ⟨C,S⟩:=A.cons;have R:Mk T (i+(uA9 m).length+1+1) ((ps++[q])++r):=by grind
  refine ⟨_,rfl,?_,yY h,?_,by have:=S.app.2;omega⟩
  ·cases m
   ·exact noM (T:=T) (i:=i) h rfl
   ·exact fL (u.cons.1) (.inl rfl)
  ·have e:nJ T 64 (i+(uA9 m).length+1+1,none)=_:=X T _ q R.app.1 g
   rw [dAv C (.inr rfl),e]
 rcases J with ⟨rfl,J⟩ | ⟨rfl,rfl⟩
 ·have ⟨y,Z,v2,v3⟩:=pBu J
  refine ⟨uA9 m++((1,nm)::(5,[58])::(ps++((5,[61])::(y++[(5,[59])])))),?_,fun a T i k F _=>?_⟩
  ·have:=M.app (((Lt.bl (c:=32) rfl).then (Lt.equ.then Z)).app (Lt.sg (c:=59) rfl) (fun r _=>(uD (c:=59) rfl:brk (59::r)))) (fun r _=>(uD (c:=32) rfl:brk (32::_)))
   grind [qAj]
  ·have mk':Mk T i (uA9 m++((1,nm)::(5,[58])::(ps++((5,[61])::(y++((5,[59])::[k])))))):=by grind
   have ⟨j,hj,B,H,K,u⟩:=Q T i _ _ mk' ⟨rfl,rfl⟩;have ⟨f,h⟩:=u.cons;have A:Mk T (j+1) ((y++[(5,[59])])++[k]):=by grind
   have ev:=v2 T (j+1) _ A.app.1 rfl;have C:kt (tk T (j+1+y.length))=(5,[59]):=(Mk.cons (Mk.app h).2).1;simp only [kAv,B,H,K,fL f (.inr rfl),xM,ev,dAv C (.inr rfl)];refine Prod.ext rfl ?_
   grind
 ·refine ⟨uA9 m++((1,nm)::(5,[58])::(ps++[(5,[59])])),?_,fun a T i k F _=>?_⟩
  ·have:=M.app (Lt.sg (c:=59) rfl) (fun r _=>(uD (c:=59) rfl:brk (59::r)))
   grind [qAj]
  ·have mk':Mk T i (uA9 m++((1,nm)::(5,[58])::(ps++((5,[59])::[k])))):=by grind
   have ⟨j,hj,B,H,K,u⟩:=Q T i _ _ mk' ⟨rfl,rfl⟩;have ⟨f,h⟩:=u.cons;simp only [kAv,B,H,K,noM f (w:=[61]) rfl,xE,xL,dAv f (.inr rfl)];refine Prod.ext rfl ?_
   grind
def wB:Bs:=[98,114,101,97,107]
def wC:Bs:=[99,111,110,116,105,110,117,101]
def wR:Bs:=[114,101,116,117,114,110]
def wD:Bs:=[100,114,111,112]
def hP (k:KT):Prop:=k.1=1\/k=(2,wB)\/k=(2,wC)\/k=(2,wR)\/k=(2,wD)
def jBh {n:Nat} {k:Int} {m:Bool} {nm:Bs} {ty:D} {K:Bool} {pl va co:D} {th el:List D} (h:SmN n k m nm ty K pl va co th el) (hk:k=2\/k=3\/k=8\/k=9\/k=10\/k=11) :
  ∃ ks,(∀ bl o,Lt aT (smX bl o (smT k 0 m nm ty K pl va co th el)) (ks++[(5,[59])]))/\(∀ a,Rp (fun T=>uG T a) ks gE (smT k a m nm ty K pl va co th el))/\(∀ q,gE q->hP (hdK ks q))/\th=[]/\el=[]:=by
 have j:∀ {t:Bs} {ks:List KT},Lt brk t ks->Lt aT (t++[59]) (ks++[(5,[59])]):=fun h=>h.app (Lt.sg (c:=59) rfl) (fun r _=>(uD (c:=59) rfl:brk (59::r)));have W:∀ k,gE k->gD k:=fun k e=>by subst e;rfl
 cases h with
 | let_=>omega
 | if_=>omega
 | while_=>omega
 | loop=>omega
 | block=>omega
 | set C F H=>
  rename_i nm xs;have ⟨A,L,v2,v3⟩:=pBu H;refine ⟨plK nm xs++((5,[61])::A),fun bl o=>?_,fun a T i q p g=>?_,fun q _=>.inl rfl,rfl,rfl⟩
  ·have:=j ((yA2 C F).app ((Lt.bl (c:=32) rfl).then (Lt.equ.then L)) (fun r _=>(uD (c:=32) rfl:brk (32::_))))
   grind [smX,smT]
  ·have ⟨f,y⟩:=p.split
   have f:Mk T i (plK nm xs++[(5,[61])]):=f;have u:kt (tk T i)=(1,nm):=f.hd;have B:Mk T (i+(plK nm xs).length) ((5,[61])::(A++[q])):=y;have ⟨Z,m5⟩:=B.cons;have Y:=wA2 (nm:=nm) F T i _ f rfl;have ev:=v2 T _ q m5 g;have M:∀ w,bB [46] w=false->bB [61] w=false->uE T w (i,none)=false:=fun w I U=>by
    cases xs with
    | nil=>exact yAe (k:=(5,[61])) (Mk.cons (k:=(1,nm)) (r:=[(5,[61])]) f).2.cons.1 U
    | cons x r=>exact yAe (k:=(5,[46])) (Mk.cons (k:=(5,[46])) (r:=lAj x::(vS r++[(5,[61])])) (Mk.cons (k:=(1,nm)) (r:=(5,[46])::lAj x::(vS r++[(5,[61])])) f).2).1 I
   simp only [uG,noM u (w:=[98,114,101,97,107]) rfl,noM u (w:=[99,111,110,116,105,110,117,101]) rfl,noM u (w:=[114,101,116,117,114,110]) rfl,noM u (w:=[100,114,111,112]) rfl,xE,xL,jH,M [58,58] rfl rfl,M [40] rfl rfl,Bool.or_self,Y,dAv Z (.inr rfl),ev];refine Prod.ext rfl ?_
   grind
 | call C h=>
  rename_i nm ag;have ⟨ns,X,R,O,S,n5⟩:=fB3 C;have ⟨ks,k1,V⟩:=cBa h;refine ⟨ns++((5,[40])::ks),fun bl o=>?_,fun a T i q p g=>?_,fun q g=>?_,rfl,rfl⟩
  ·have e:vaX (vaD 6 op0 op0 0 pl0 nm [] ag)=nm++([40]++Qb.joinL (ag.map opX) [44,32]++[41]):=by
    have:=yA7 6 op0 op0 0 pl0 nm [] ag
    grind [fR]
   have:=(X.app k1 (fun r _=>(uD (c:=40) rfl:brk (40::_)))).then (Lt.sg (c:=59) rfl)
   rw [<- e] at this;exact this
  ·have ⟨f,y⟩:=p.split
   have f:Mk T i (ns++[(5,[40])]):=f;have u:=f.hd;have I:=O (5,[40]);have J:∀ w,noS w (hdK ns (5,[40])):=fun w=>by
    generalize hdK ns (5,[40])=q at I;have ⟨c,x⟩:=q
    have:c=1:=I
    subst this;rfl
   have no:∀ w,uB T w (i,none)=(false,(i,none)):=fun w=>noM (k:=(hdK ns (5,[40])).1) (x:=(hdK ns (5,[40])).2) u (J w);have hc:jH T (i,none)=true:=S T i _ f;simp only [uG,no,xE,xL,hc,xM,R T i _ f rfl,V T _ q y trivial];refine Prod.ext rfl ?_
   grind
  ·rw [gR]
   exact .inl (O _)
 | break_=>
  refine ⟨[(2,wB)],fun bl o=>(j (Lt.word (x:=wB) (by decide) (by decide))),fun a T i q p g=>?_,fun q _=>.inr (.inl rfl),rfl,rfl⟩;have u:kt (tk T i)=(2,wB):=p.cons.1;simp only [uG,fL (x:=[98,114,101,97,107]) u (.inl rfl),xM];rfl
 | cont=>
  refine ⟨[(2,wC)],fun bl o=>(j (Lt.word (x:=wC) (by decide) (by decide))),fun a T i q p g=>?_,fun q _=>.inr (.inr (.inl rfl)),rfl,rfl⟩;have u:kt (tk T i)=(2,wC):=p.cons.1;simp only [uG,noM u (w:=[98,114,101,97,107]) rfl,xE,xL,fL (x:=[99,111,110,116,105,110,117,101]) u (.inl rfl),xM];rfl
 | ret H=>
  rcases H with ⟨rfl,H⟩ | ⟨rfl,rfl⟩
  ·have ⟨A,L,v2,v3⟩:=pBu H
   refine ⟨(2,wR)::A,fun bl o=>?_,fun a T i q p g=>?_,fun q _=>.inr (.inr (.inr (.inl rfl))),rfl,rfl⟩
   ·have:=j ((Lt.wordS (x:=wR) (by decide) (by decide)).then L)
    simpa [smX,smT,wR] using this
   ·have p:Mk T i ((2,wR)::(A++[q])):=p
    have ⟨f,y⟩:=p.cons;have B:=y.hd;simp only [uG,noM f (w:=[98,114,101,97,107]) rfl,noM f (w:=[99,111,110,116,105,110,117,101]) rfl,xE,xL,fL (x:=[114,101,116,117,114,110]) f (.inl rfl),xM,noM (k:=(hdK A q).1) (x:=(hdK A q).2) B (v3 q g),v2 T _ q y g];refine Prod.ext rfl ?_
    grind
  ·refine ⟨[(2,wR)],fun bl o=>(j (Lt.word (x:=wR) (by decide) (by decide))),fun a T i q p g=>?_,fun q _=>.inr (.inr (.inr (.inl rfl))),rfl,rfl⟩
   have ⟨f,y⟩:=Mk.cons (k:=(2,wR)) (r:=[q]) p;subst g;have B:=y.cons.1;simp only [uG,noM f (w:=[98,114,101,97,107]) rfl,noM f (w:=[99,111,110,116,105,110,117,101]) rfl,xE,xL,fL (x:=[114,101,116,117,114,110]) f (.inl rfl),xM,fL B (.inr rfl)];rfl
 | drop Q=>
  obtain ⟨nm,xs,rfl,C,F⟩:=Q;refine ⟨(2,wD)::plK nm xs,fun bl o=>?_,fun a T i q p g=>?_,fun q _=>.inr (.inr (.inr (.inr rfl))),rfl,rfl⟩
  ·have:=j ((Lt.wordS (x:=wD) (by decide) (by decide)).then (yA2 C F))
   grind [smX,smT,wD]
  ·have p:Mk T i ((2,wD)::(plK nm xs++[q])):=p
   have ⟨f,y⟩:=p.cons;simp only [uG,noM f (w:=[98,114,101,97,107]) rfl,noM f (w:=[99,111,110,116,105,110,117,101]) rfl,noM f (w:=[114,101,116,117,114,110]) rfl,xE,xL,fL (x:=[100,114,111,112]) f (.inl rfl),xM,wA2 (nm:=nm) F T _ q y (W q g)];refine Prod.ext rfl ?_
   grind
end Qp
namespace Qp
def wE:Bs:=[101,108,115,101]
def hSt (k:KT):Prop:=noS wE k/\noS [125] k
def StP (n:Nat) (d:D) (ks:List KT):Prop:=(∀ o,Lt aT (smX (blX (n+1)) o d) ks)/\(∀ q,hSt (hdK ks q))/\∀ T i k c,Mk T i (ks++[k])->noS wE k->c+vB1 n d<=2000->
 ∃ f,vK T (aG T n) ((i,none),c)=(f,((i+ks.length,none),c+vB1 n d))/\∀ m,n+1<=m->eH m f=eH m d
def BkP (n:Nat) (l:List D) (ks:List KT):Prop:=(∀ o,Lt aT (blX (n+1) o l) ((5,[123])::ks))/\∀ T i k c,Mk T i ((5,[123])::(ks++[k]))->c+yH n l<=2000->
 ∃ f,aG T n ((i,none),c)=(f,((i+(ks.length+1),none),c+yH n l))/\∀ m,n<=m->f.map (eH m)=l.map (eH m)
def yU {n m:Nat} {k a r:Int} {j:Bool} {nm:Bs} {ty:D} {p:Bool} {pl va co:D} {th h el f:List D} (w:∀ m,n<=m->h.map (eH m)=th.map (eH m)) (y:∀ m,n<=m->f.map (eH m)=el.map (eH m)) (u:n+1<=m):eH m (smT k r j nm ty p pl va co h f)=eH m (smT k a j nm ty p pl va co th el):=by
 obtain ⟨m,rfl⟩:∃ q,m=q+1:=⟨m-1,by omega⟩
 grind [kA6]
def jBq {n:Nat} (R:0<n->∀ l,(∀ x∈l,mayN n x)->∃ ks,BkP n l ks) {d:D} (h:mayN (n+1) d):∃ ks,StP n d ks:=by
 obtain ⟨k,a,L,nm,ty,K,pl,va,co,th,el,rfl,U,he,hS⟩:=h;have y:vB1 n (smT k a L nm ty K pl va co th el)=yH n th+yH n el:=rfl;have txt:∀ bl o,smX bl o (smT k a L nm ty K pl va co th el)=smX bl o (smT k 0 L nm ty K pl va co th el):=fun _ _=>rfl
 by_cases hk:k=2\/k=3\/k=8\/k=9\/k=10\/k=11
 ·obtain ⟨ks,p1,p2,p3,rfl,rfl⟩:=jBh hS hk
  have hh:=p3 (5,[59]) rfl;have hw:∀ w,bB wB w=false->bB wC w=false->bB wR w=false->bB wD w=false->noS w (hdK ks (5,[59])):=fun w H F e3 e4=>by
   generalize hdK ks (5,[59])=q at hh;have ⟨c,x⟩:=q;rcases hh with h | h | h | h | h
   ·have:c=1:=h;subst this;rfl
   ·grind [noS]
   ·grind [noS]
   ·grind [noS]
   grind [noS]
  refine ⟨ks++[(5,[59])],fun o=>by grind,fun q=>?_,fun T i q c A _ _=>?_⟩
  ·rw [gR];exact ⟨hw _ (by decide) (by decide) (by decide) (by decide),hw _ (by decide) (by decide) (by decide) (by decide)⟩
  ·have ⟨p,O⟩:=A.split
   have p:Mk T i (ks++[(5,[59])]):=p;have m0:=p.hd;have no:∀ w,bB wB w=false->bB wC w=false->bB wR w=false->bB wD w=false->uB T w (i,none)=(false,(i,none)):=fun w H F e3 e4=>noM (k:=(hdK ks (5,[59])).1) (x:=(hdK ks (5,[59])).2) m0 (hw w H F e3 e4);have ep:=p2 ((tk T i).2.2:Int) T i _ p rfl;have I:kt (tk T (i+ks.length))=(5,[59]):=(Mk.cons (k:=(5,[59])) (r:=[q]) O).1;refine ⟨smT k ((tk T i).2.2:Int) L nm ty K pl va co [] [],?_,fun m C=>yU (fun _ _=>rfl) (fun _ _=>rfl) C⟩;simp only [vK,no [108,101,116] rfl rfl rfl rfl,no [105,102] rfl rfl rfl rfl,no [119,104,105,108,101] rfl rfl rfl rfl,no [108,111,111,112] rfl rfl rfl rfl,no [123] rfl rfl rfl rfl,xE,xL,ep,dAv I (.inr rfl)]
   grind [aL,xN]
 ·cases hS with
  | set=>omega
  | call=>omega
  | break_=>omega
  | cont=>omega
  | ret=>omega
  | drop=>omega
  | let_ hn X hv=>
   have ⟨ks,l1,l2⟩:=qBu (m:=L) hn X hv;refine ⟨(2,[108,101,116])::ks,fun o=>l1,fun q=>⟨rfl,rfl⟩,fun T i q c A _ _=>?_⟩;have A:Mk T i ((2,[108,101,116])::(ks++[q])):=A;have ⟨p,O⟩:=A.cons;refine ⟨smT 1 ((tk T i).2.2:Int) L nm ty K pl0 va op0 [] [],?_,fun m C=>yU (fun _ _=>rfl) (fun _ _=>rfl) C⟩;simp only [vK,fL p (.inl rfl),xM,l2 _ T _ q O trivial]
   grind [aL,xJ]
  | if_ h0 S a0=>
   have ⟨u,⟨o1,o2,_,o4⟩,_⟩:=bBa S;have ⟨f,M,J⟩:=R h0 th U;have a9:∀ q,gD q->noS [123] (hdK u q):=fun q g=>(o4 q g).no rfl rfl;have l0:∀ o,Lt aT ([105,102,32]++opX co++[32]++blX (n+1) o th) ((2,[105,102])::(u++((5,[123])::f))):=fun o=>by
    have:=(Lt.wordS (x:=[105,102]) (by decide) (by decide)).then (o1.app ((Lt.bl (c:=32) rfl).then (M o)) (fun r _=>(uD (c:=32) rfl:brk (32::_))))
    grind
   have run:∀ T i (r:List KT) c,Mk T i ((2,[105,102])::(u++((5,[123])::(f++r))))->r≠[]->c+yH n th<=2000->∃ B,uB T [108,101,116] (i,none)=(false,(i,none))/\uB T [105,102] (i,none)=(true,(i+1,none))/\gF T (i+1,none)=(co,(i+1+u.length,none))/\aG T n ((i+1+u.length,none),c)=(B,((i+1+u.length+(f.length+1),none),c+yH n th))/\(∀ m,n<=m->B.map (eH m)=th.map (eH m))/\Mk T (i+1+u.length+(f.length+1)) r:=fun T i r c A hr S=>by
    have ⟨p,O⟩:=A.cons;obtain ⟨q,r',rfl⟩:∃ q r',r=q::r':=by cases r with | nil=>grind | cons q r'=>grind
    have I:Mk T (i+1) ((u++[(5,[123])])++(f++(q::r'))):=by grind
    have m4:=O.app.2;have m5:Mk T (i+1+u.length) (((5,[123])::(f++[q]))++r'):=by grind
    have ⟨B,H,F⟩:=J T _ q c m5.app.1 S;have m6:Mk T (i+1+u.length) (((5,[123])::f)++(q::r')):=m4;exact ⟨B,noM p rfl,fL p (.inl rfl),o2 T _ _ I.app.1 rfl,H,F,m6.app.2⟩
   cases K with
   | false=>
    obtain rfl:=a0 rfl;refine ⟨(2,[105,102])::(u++((5,[123])::f)),fun o=>?_,fun q=>⟨rfl,rfl⟩,fun T i q c A Q j=>?_⟩
    ·grind [smX,smT]
    ·rw [y,aL,xX] at j ⊢
     have ⟨B,W,a2,a3,a4,V,Y⟩:=run T i [q] c (by grind) (by simp) j;refine ⟨smT 4 ((tk T i).2.2:Int) false [] ty0D false pl0 va00 co B [],?_,fun m C=>yU V (fun _ _=>rfl) C⟩;have Z:uB T [101,108,115,101] (i+1+u.length+(f.length+1),none)=(false,_):=noM (k:=q.1) (x:=q.2) (Y.cons.1) Q;simp only [vK,W,a2,a3,a4,Z,xE,xL,xM];rw [xJ,xN,xJ,show i+(u.length+(f.length+1)+1)=i+1+u.length+(f.length+1) by omega];rfl
   | true=>
    have ⟨ke,s1,s2⟩:=R h0 el he;refine ⟨(2,[105,102])::(u++((5,[123])::f))++((2,wE)::((5,[123])::ke)),fun o=>?_,fun q=>⟨rfl,rfl⟩,fun T i q c A Q j=>?_⟩
    ·have:=(l0 o).then ((Lt.bl (c:=32) rfl).then ((Lt.wordS (x:=wE) (by decide) (by decide)).then (s1 o)))
     simpa [smX,smT,wE] using this
    ·rw [y] at j ⊢
     have ⟨B,W,a2,a3,a4,V,Y⟩:=run T i ((2,wE)::((5,[123])::(ke++[q]))) c (by grind) (by simp) (by omega);have ⟨Z,a8⟩:=Y.cons;have ⟨f',b1,b2⟩:=s2 T _ q (c+yH n th) a8 (by omega);refine ⟨smT 4 ((tk T i).2.2:Int) false [] ty0D true pl0 va00 co B f',?_,fun m C=>yU V b2 C⟩;simp only [vK,W,a2,a3,a4,fL (x:=[101,108,115,101]) Z (.inl rfl),b1,xE,xL,xM];refine Prod.ext rfl ?_
     grind
  | while_ h0 S=>
   have ⟨u,⟨o1,o2,_,o4⟩,_⟩:=bBa S;have ⟨f,M,J⟩:=R h0 th U;refine ⟨(2,[119,104,105,108,101])::(u++((5,[123])::f)),fun o=>?_,fun q=>⟨rfl,rfl⟩,fun T i q c A Q j=>?_⟩
   ·have:=(Lt.wordS (x:=[119,104,105,108,101]) (by decide) (by decide)).then (o1.app ((Lt.bl (c:=32) rfl).then (M o)) (fun r _=>(uD (c:=32) rfl:brk (32::_))))
    simpa [smX,smT] using this
   ·rw [y,aL,xX] at j ⊢
    have mk':Mk T i ((2,[119,104,105,108,101])::((u++[(5,[123])])++(f++[q]))):=by grind
    have ⟨p,I⟩:=mk'.cons;have m4:Mk T (i+1) (u++((5,[123])::(f++[q]))):=by grind
    have ⟨B,H,F⟩:=J T _ q c m4.app.2 j;refine ⟨smT 5 ((tk T i).2.2:Int) false [] ty0D false pl0 va00 co B [],?_,fun m C=>yU F (fun _ _=>rfl) C⟩;simp only [vK,noM p (w:=[108,101,116]) rfl,noM p (w:=[105,102]) rfl,fL p (.inl rfl),o2 T _ _ I.app.1 rfl,H,xE,xL,xM];rw [xJ,xN,xJ,show i+(u.length+(f.length+1)+1)=i+1+u.length+(f.length+1) by omega];rfl
  | loop h0=>
   have ⟨f,M,J⟩:=R h0 th U;refine ⟨(2,[108,111,111,112])::((5,[123])::f),fun o=>?_,fun q=>⟨rfl,rfl⟩,fun T i q c A Q j=>?_⟩
   ·have:=(Lt.wordS (x:=[108,111,111,112]) (by decide) (by decide)).then (M o)
    grind [smX,smT]
   ·rw [y,aL,xX] at j ⊢
    have mk':Mk T i ((2,[108,111,111,112])::((5,[123])::(f++[q]))):=A;have ⟨p,I⟩:=mk'.cons;have ⟨B,H,F⟩:=J T _ q c I j;refine ⟨smT 6 ((tk T i).2.2:Int) false [] ty0D false pl0 va00 op0 B [],?_,fun m C=>yU F (fun _ _=>rfl) C⟩;simp only [vK,noM p (w:=[108,101,116]) rfl,noM p (w:=[105,102]) rfl,noM p (w:=[119,104,105,108,101]) rfl,fL p (.inl rfl),H,xE,xL,xM];rw [xJ,xJ,show i+(f.length+1+1)=i+1+(f.length+1) by omega];rfl
  | block h0=>
   have ⟨f,M,J⟩:=R h0 th U;refine ⟨(5,[123])::f,fun o=>?_,fun q=>⟨rfl,rfl⟩,fun T i q c A Q j=>?_⟩
   ·grind [smX,smT]
   ·rw [y,aL,xX] at j ⊢
    have mk':Mk T i ((5,[123])::(f++[q])):=A;have p:=mk'.cons.1;have ⟨B,H,F⟩:=J T _ q c mk' j;refine ⟨smT 7 ((tk T i).2.2:Int) false [] ty0D false pl0 va00 op0 B [],?_,fun m C=>yU F (fun _ _=>rfl) C⟩;simp only [vK,noM p (w:=[108,101,116]) rfl,noM p (w:=[105,102]) rfl,noM p (w:=[119,104,105,108,101]) rfl,noM p (w:=[108,111,111,112]) rfl,fL p (.inr rfl),H,xE,xL,xM];rfl
def gB3 {n:Nat} {T:List Tok}:∀ (L:List (D×List KT)) (i c f:Nat),(∀ p∈L,StP n p.1 p.2)->Mk T i ((L.map (·.2)).flatten++[(5,[125])])->L.length<f->c+(L.length+(L.map fun p=>vB1 n p.1).sum)<=2000->
  ∃ u,bF T (vK T (aG T n)) f ((i,none),c)=((u,false),((i+(L.map (·.2)).flatten.length+1,none),c+(L.length+(L.map fun p=>vB1 n p.1).sum)))/\∀ m,n+1<=m->u.map (eH m)=(L.map (·.1)).map (eH m)
 | [],i,c,f,_,j,y,_=>by
  obtain ⟨f,rfl⟩:∃ q,f=q+1:=⟨f-1,by omega⟩;have h:=j.cons.1;refine ⟨[],?_,fun _ _=>rfl⟩;simp only [bF,Option.isSome_none,xE,xL,fL h (.inr rfl),xM];rfl
 | p::r,i,c,f,w,j,y,M=>by
  obtain ⟨f,rfl⟩:∃ q,f=q+1:=⟨f-1,by omega⟩;simp only [List.map_cons,List.flatten_cons,xJ,List.sum_cons] at j y M ⊢;have ⟨U,J,B⟩:=w p (by simp);have ⟨h,A⟩:=j.split;have H:noS wE (hdK (r.map (·.2)).flatten (5,[125])):=by
   cases r with
   | nil=>rfl
   | cons q s=>
    rw [List.map_cons,List.flatten_cons,gR];exact ((w q (by simp)).2.1 _).1
  have ⟨I,C,V⟩:=B T i _ (c+1) h H (by omega);have ⟨u,F,R⟩:=gB3 r (i+p.2.length) (c+1+vB1 n p.1) f (fun x S=>w x (by grind)) A (by omega) (by omega);have O:=h.hd;have no:uB T [125] (i,none)=(false,(i,none)):=noM O (J _).2;refine ⟨I::u,?_,fun m Q=>by grind⟩;have K:¬ (c=2000/\(tk T i).1≠0):=by omega
  simp only [bF,Option.isSome_none,xE,xL,no,K,C,F]
  grind
def gAo:∀ o,Lt aT (Lib.repeatL [9] o) []
 | 0=>Lt.nil
 | o+1=>by
  have:=(Lt.bl (c:=9) rfl).then (gAo o)
  grind [Lib.repeatL]
def iB3 {n o:Nat}:∀ (L:List (D×List KT)),(∀ p∈L,StP n p.1 p.2)->Lt aT ((L.map (·.1)).map fun d=>Lib.repeatL [9] (o+1)++smX (blX (n+1)) (o+1) d++[10]).flatten (L.map (·.2)).flatten
 | [],_=>Lt.nil
 | p::r,f=>by
  have h:=iB3 (o:=o) r fun x j=>f x (by grind)
  have:=(((gAo (o+1)).then ((f p (by simp)).1 (o+1))).then (Lt.bl (c:=10) rfl)).then h
  grind
def dBa {n:Nat} (F:∀ d,mayN (n+1) d->∃ ks,StP n d ks) {l:List D} (h:∀ x∈l,mayN (n+1) x):∃ ks,BkP (n+1) l ks:=by
 have ⟨L,r,j⟩:=pick (P:=StP n) l fun d hd=>F d (h d hd);have A:L.length=l.length:=by grind
 have H:yH (n+1) l=L.length+(L.map fun p=>vB1 n p.1).sum:=by
  rw [aAr,A,<- r,List.map_map];rfl
 refine ⟨(L.map (·.2)).flatten++[(5,[125])],fun o=>?_,fun T i k c C f=>?_⟩
 ·have:=((((Lt.sg (c:=123) rfl).then (Lt.bl (c:=10) rfl)).then (iB3 (o:=o) L j)).then (gAo o)).then (Lt.sg (c:=125) rfl)
  grind [blX]
 ·have ⟨B,u⟩:=C.cons
  have y:=u.app.1;rw [H] at f ⊢;have ⟨I,w,K⟩:=gB3 (T:=T) L (i+1) c 2001 j y (by omega) f;refine ⟨I,?_,fun m J=>by grind⟩;simp only [aG,dAv B (.inr rfl),w,xE,xL,xN,xJ,xZ]
  grind
def bAs:∀ n,∀ d,mayN (n+1) d->∃ ks,StP n d ks
 | 0,d,h=>jBq (fun h=>absurd h (by omega)) h
 | n+1,d,h=>jBq (fun _ l f=>dBa (bAs n) f) h
end Qp
namespace Qp
def gL (k:KT):Prop:=noS [58] k/\noS [43] k
def kA7:∀ (x:Bs) (r:List Bs),[39]++Qb.joinL (x::r) [32,43,32,39]=Qb.joinL ((x::r).map (39::·)) [32,43,32]
 | x,[]=>rfl
 | x,y::r=>by
  have f:=kA7 y r
  grind [Qb.joinL]
def kBq {d:D} (h:rS d):∃ ks,Lt brk (lfX d) ks/\Rp pW ks gL d/\∀ k,(hdK ks k).1=3:=by
 obtain ⟨nm,xs,rfl,S,O⟩:=h
 cases xs with
 | nil=>
  refine ⟨[(3,nm)],?_,fun T i k u g=>?_,fun k=>rfl⟩
  ·grind [Lt.life,lfX,eF]
  ·obtain ⟨j,F⟩:=Mk.cons (k:=(3,nm)) (r:=[k]) u
   simp only [pW,yY j,noM (k:=k.1) (x:=k.2) F.cons.1 g.1,xE,xL];rfl
 | cons y r=>
  obtain ⟨L,A,J⟩:=pick (P:=fun d ks=>∃ x:Bs,d=D.s x/\yG x=true/\ks=[(3,x)]) ((y::r).map D.s) fun d hd=>by
   obtain ⟨x,H,rfl⟩:=List.mem_map.1 hd;exact ⟨_,x,rfl,O.2 x H,rfl⟩
  have K:L≠[]:=fun e=>by grind
  have w:L.length<=64:=by rw [<- xS (f:=(·.1)),A,xS];exact O.1
  refine ⟨[(3,nm)]++([(5,[58])]++uS [43] (L.map (·.2))),?_,fun T i k u g=>?_,fun k=>rfl⟩
  ·have e:lfX (eF nm ((y::r).map D.s))=(39::nm)++([58,32]++Qb.joinL ((y::r).map (39::·)) [32,43,32]):=by
    rw [<- kA7];show [39]++nm++(match (y::r).map D.s with | []=>[] | _::_=>[58,32,39]++Qb.joinL (txS ((y::r).map D.s)) [32,43,32,39])=_;rw [fH];simp
   have V:(y::r).map (39::·)=L.map fun p=>(fun d=>39::unS d) p.1:=by
    have:(L.map (·.1)).map (fun d=>(39:UInt8)::unS d)=((y::r).map D.s).map (fun d=>39::unS d):=by rw [A]
    rw [List.map_map,List.map_map] at this;exact this.symm
   rw [e,V];have U:=wAe (B:=brk) (C:=brk) (X:=fun d=>39::unS d) (sep:=[43]) (sp:=[32,43,32]) ((Lt.bl (c:=32) rfl).then ((Lt.sg (c:=43) rfl).then (Lt.bl (c:=32) rfl))) (fun r=>uD (c:=32) rfl) (fun r h=>h) L K (fun p I=>by
    obtain ⟨x,a,b,c⟩:=J p I;rw [a,c];exact Lt.life b)
   exact (Lt.life S).app (Lt.colon.then U) (fun r _=>(uD (c:=58) rfl:brk (58::_)))
  ·have M:=vAe (one:=fun T=>rA7 T 3) (C:=aK) (G:=noS [43]) (sep:=[43]) trivial (fun k e=>⟨trivial,e⟩) K w (fun p I=>by
    obtain ⟨x,a,b,c⟩:=J p I;rw [a,c];exact fun T i k u _=>by
     have j:=Mk.cons (k:=(3,x)) (r:=[k]) u;simp only [rA7,yY j.1];rfl)
   rw [A] at M;obtain ⟨j,F⟩:=Mk.cons (k:=(3,nm)) (r:=(5,[58])::(uS [43] (L.map (·.2))++[k])) (by simpa using u);obtain ⟨R,Q⟩:=F.cons;have e:=M T _ k Q g.2;simp only [pW,yY j,fL R (.inr rfl),xM,e]
   grind
def rBu {lv:List D} (h:uO 64 rS lv):∃ ks,Lt brk (gAf lv) ks/\(∀ r,brk r->brk (gAf lv++r))/\Rp (fun T=>lI T [60] (bnd (qD T (pW T) [44]) fun l=>nG (fun _=>l) (iE T [62])) (qI [])) ks (noS [60]) lv:=by
 cases lv with
 | nil=>exact ⟨[],Lt.nil,fun r h=>h,Rp.no (Y:=fun T=>bnd (qD T (pW T) [44]) fun l=>nG (fun _=>l) (iE T [62])) Rp.ret fun k g=>g⟩
 | cons d r=>
  have ⟨L,u,y⟩:=pick (P:=fun d ks=>Lt brk (lfX d) ks/\Rp pW ks gL d) (d::r) fun o H=>by
   have ⟨ks,a,b,_⟩:=kBq (h.2 o H)
   grind
  have A:L≠[]:=fun e=>by grind
  have j:L.length<=64:=by rw [<- xS (f:=(·.1)),u];exact h.1
  refine ⟨(5,[60])::(uS [44] (L.map (·.2))++[(5,[62])]),?_,fun r _=>uD (c:=60) rfl,Rp.yes (.inr rfl) ?_⟩
  ·have I:=wAe (B:=brk) (C:=brk) (X:=lfX) (sep:=[44]) (sp:=[44,32]) ((Lt.sg (c:=44) rfl).then (Lt.bl (c:=32) rfl)) (fun r=>uD (c:=44) rfl) (fun r h=>h) L A (fun p w=>(y p w).1)
   have e:gAf (d::r)=[60]++(Qb.joinL (L.map fun p=>lfX p.1) [44,32]++[62]):=by
    have:L.map (fun p=>lfX p.1)=(d::r).map lfX:=by rw [<- u,List.map_map];rfl
    grind [gAf]
   rw [e]
   have:=(Lt.sg (c:=60) rfl).then (I.app (Lt.sg (c:=62) rfl) (fun r _=>(uD (c:=62) rfl:brk (62::r))))
   exact fun r J M K=>this r J trivial K
  ·have F:=vAe (one:=pW) (C:=gL) (G:=fun k=>k=(5,[62])) (sep:=[44]) ⟨rfl,rfl⟩ (fun k e=>by subst e;exact ⟨⟨rfl,rfl⟩,rfl⟩) A j (fun p w=>(y p w).2)
   rw [u] at F;exact (F.bnd (f:=fun T l=>nG (fun _=>l) (iE T [62])) (Rp.want (.inr rfl)).map (fun k _=>rfl)).weak fun _ _=>trivial
def kBh {g:Nat} {p:PT} (h:p.ok g):bI p.D≠0:=by
 cases g with
 | zero=>cases p <;> cases h
 | succ g=>
  cases p with
  | ref f lv t=>grind [PT.D,tyD,bI]
  | _=>simp [PT.D,tyD,bI]
def kBw {ty:D} (h:ty=ty0D\/lL 64 ty):∃ ks,Lt brk (if bI ty=0 then [] else [32,45,62,32]++tyX 64 ty) ks/\(∀ r,brk r->brk ((if bI ty=0 then [] else [32,45,62,32]++tyX 64 ty)++r))/\Rp (fun T=>lI T [45,62] (nJ T 64) (qI ty0D)) ks (fun k=>k=(5,[123])) ty:=by
 rcases h with rfl | ⟨p,rfl,f⟩
 ·refine ⟨[],?_,fun r h=>?_,Rp.no (Y:=fun T=>nJ T 64) Rp.ret fun k g=>by subst g;rfl⟩
  ·rw [if_pos (show bI ty0D=0 from rfl)];exact Lt.nil
  ·rw [if_pos (show bI ty0D=0 from rfl)];exact h
 ·have ⟨ps,j,u⟩:=Lt.pt f
  rw [if_neg (kBh f),qA0 f];refine ⟨(5,[45,62])::ps,?_,fun r _=>uD (c:=32) rfl,Rp.yes (.inr rfl) ((vAr f (xD _) j).weak fun k g=>by subst g;exact ⟨rfl,rfl⟩)⟩;exact (Lt.bl (c:=32) rfl).then (Lt.arrow.then ((Lt.bl (c:=32) rfl).then u))
def lBq {w:Bool} {one:List Tok->St->D×St} {l:List D} {a b:Bs} (h:uO 64 (vO w) l) (j:b=[41]\/b=[125]) (u:∀ d ks,d∈l->FdP d ks->Rp one ks gT d) :
  ∃ ks,Lt brk (uM l) ks/\Rp (fun T=>bnd (iE T a) fun _=>lI T b (qI []) (bnd (qD T (one T) [44]) fun l=>nG (fun _=>l) (iE T b))) ((5,a)::(ks++[(5,b)])) aK l:=by
 cases l with
 | nil=>exact ⟨[],Lt.nil,(Rp.want (.inr rfl)).next (Rp.yes (.inr rfl) Rp.ret)⟩
 | cons d r=>
  exact eAo (one:=one) (X:=fdX) (a:=a) (b:=b) (H:=fun k=>noS [41] k/\noS [125] k) (C:=gT) (by simp) h.1 (fun k y=>j.elim (fun e=>by grind) (fun e=>by grind)) (by rcases j with rfl | rfl <;> rfl) ⟨rfl,rfl⟩ (by rcases j with rfl | rfl <;> exact ⟨rfl,rfl⟩) fun o p=>by
   have ⟨ks,f⟩:=iBw (h.2 o p);exact ⟨ks,f.1,u o ks p f,fun k _=>f.2.2.2 k⟩
def mBq {nm:Bs} {lv ps:List D} {ty:D} (A:jE nm=true) (B:uO 64 rS lv) (O:uO 64 (vO true) ps) (K:ty=ty0D\/lL 64 ty) :
  ∃ ks,Lt brk (nm++(gAf lv++([40]++(uM ps++([41]++(if bI ty=0 then [] else [32,45,62,32]++tyX 64 ty)))))) ks/\Rp kO ks (fun k=>k=(5,[123])) (nm,lv,ps,ty):=by
 have ⟨S,H,j,y⟩:=rBu B;have ⟨U,C,L⟩:=lBq (one:=jG) (a:=[40]) (b:=[41]) O (.inl rfl) fun d ks _ f=>f.2.1;have ⟨R,c1,V,F⟩:=kBw K;have u:=C.app ((Lt.sg (c:=41) rfl).then c1) (fun r _=>(uD (c:=41) rfl:brk (41::_)));have M:=H.app ((Lt.sg (c:=40) rfl).then u) (fun r _=>(uD (c:=40) rfl:brk (40::_)));have Q:=(Lt.name A).app M (fun r _=>by rw [xY];exact j _ (uD (c:=40) rfl:brk (40::_)));refine ⟨_,Q,?_⟩;have h:Rp (fun T=>bnd (lI T [45,62] (nJ T 64) (qI ty0D)) fun t=>qI (nm,lv,ps,t)) (R++[]) (fun k=>k=(5,[123])) (nm,lv,ps,ty):=F.bnd (f:=fun T t=>qI (nm,lv,ps,t)) Rp.ret fun k g=>g;rw [List.append_nil] at h;have J:=(L.next (f:=fun T p=>bnd (lI T [45,62] (nJ T 64) (qI ty0D)) fun t=>qI (nm,lv,p,t)) h);have I:=y.bnd (f:=fun T l=>bnd (bnd (iE T [40]) fun _=>lI T [41] (qI []) (bnd (qD T (jG T) [44]) fun l=>nG (fun _=>l) (iE T [41]))) fun p=>bnd (lI T [45,62] (nJ T 64) (qI ty0D)) fun t=>qI (nm,l,p,t)) J (fun k _=>rfl);have r0:=(Rp.text (c:=1) (w:=nm)).next (f:=fun T n=>bnd (lI T [60] (bnd (qD T (pW T) [44]) fun l=>nG (fun _=>l) (iE T [62])) (qI [])) fun l=>bnd (bnd (iE T [40]) fun _=>lI T [41] (qI []) (bnd (qD T (jG T) [44]) fun l=>nG (fun _=>l) (iE T [41]))) fun p=>bnd (lI T [45,62] (nJ T 64) (qI ty0D)) fun t=>qI (n,l,p,t)) I
 have:=r0.cong (F':=kO) fun T=>rfl
 grind
end Qp
namespace Qp
def wP:Bs:=[112,117,98]
def wSt:Bs:=[115,116,114,117,99,116]
def wF:Bs:=[102,110]
def ItP (b:Bool) (x:Bs) (f:D->D) (d:D) (ks:List KT):Prop:=Lt aT x ks/\(∀ k,(hdK ks k).1≠0)/\∀ T i k,Mk T i (ks++[k])->∃ h,(jJ T (i,none)).d=some (b,h)/\(jJ T (i,none)).i=i+ks.length/\(jJ T (i,none)).e=none/\f h=f d
def vB7 {α β:Type} {T:List Tok} {w:Bs} {f:α->β} {Y X:St->α×St}:nG f (lI T w Y X)=lI T w (nG f Y) (nG f X):=by
 grind [nG,lI]
def tBu {nm:Bs} {lv:List Bs} {j:List D} (F:jE nm=true) (y:qB6 64 lv) (A:uO 64 (vO false) j) :
  ∃ ks,Lt aT (nm++(dF lv++([32,123,32]++((if uM j=[] then [] else uM j++[32])++[125])))) ks/\∀ pub a,Rp (fun T=>dG T pub a) ks aK (bV pub nm lv j a):=by
 have ⟨C,p,K⟩:=lBq (one:=tG) (a:=[123]) (b:=[125]) A (.inr rfl) fun d ks hd f=>f.2.2.1 (by
  have ⟨m,nm,ty,e,Q,_⟩:=A.2 d hd
  grind)
 have B:Lt aT ((if uM j=[] then [] else uM j++[32])++[125]) (C++[(5,[125])]):=by
  by_cases h:uM j=[]
  ·rw [if_pos h];rw [h] at p
   exact p.app (Lt.sg (c:=125) rfl) (fun r _=>(uD (c:=125) rfl:brk (125::_)))
  ·rw [if_neg h,xY]
   exact p.app ((Lt.bl (c:=32) rfl).then (Lt.sg (c:=125) rfl)) (fun r _=>(uD (c:=32) rfl:brk (32::_)))
 have M:=((((Lt.bl (c:=32) rfl).then (Lt.sg (c:=123) rfl)).then (Lt.bl (c:=32) rfl))).then B;have u:∀ r,brk r->brk (dF lv++r):=fun r L=>by
  cases lv with
  | nil=>exact L
  | cons x l=>exact (uD (c:=60) rfl:brk (60::_))
 have O:=(Lt.name F).app ((Lt.marks y.2).app M (fun r _=>(uD (c:=32) rfl:brk (32::_)))) (fun r _=>by rw [xY];exact u _ (uD (c:=32) rfl:brk (32::_)));refine ⟨_,O,fun pub a=>?_⟩;have I:Rp (fun T=>tI T) (fP lv) gT lv:=fun T i k m g=>by
  have e:kt (tk T (i+(fP lv).length))=k:=(Mk.cons (Mk.app m).2).1;exact (uAr y.1 (Mk.app m).1 ⟨kAj e g.1,kAj e g.2⟩).1
 have H:Rp (fun T=>bnd (iE T [123]) fun _=>lI T [125] (qI (bV pub nm lv [] a)) (bnd (qD T (tG T) [44]) fun j=>nG (fun _=>bV pub nm lv j a) (iE T [125]))) _ aK (bV pub nm lv j a):=(K.map (f:=fun j=>bV pub nm lv j a)).cong fun T=>by
  funext σ
  exact (congrFun (vB7 (f:=fun j=>bV pub nm lv j a) (Y:=qI []) (X:=bnd (qD T (tG T) [44]) fun l=>nG (fun _=>l) (iE T [125]))) (eD T [123] σ)).symm
 have J:=(Rp.text (c:=1) (w:=nm)).next (f:=fun T n=>bnd (tI T) fun l=>bnd (iE T [123]) fun _=>lI T [125] (qI (bV pub n l [] a)) (bnd (qD T (tG T) [44]) fun j=>nG (fun _=>bV pub n l j a) (iE T [125]))) (I.bnd (f:=fun T l=>bnd (iE T [123]) fun _=>lI T [125] (qI (bV pub nm l [] a)) (bnd (qD T (tG T) [44]) fun j=>nG (fun _=>bV pub nm l j a) (iE T [125]))) H (fun k _=>⟨rfl,rfl⟩))
 have:=J.cong (F':=fun T=>dG T pub a) fun T=>rfl
 grind
def uBu {d:D} (h:jA1 d):∃ ks,ItP true (stX d) yQ d ks:=by
 obtain ⟨pub,nm,lv,f,a,rfl,B,F,I⟩:=h;have ⟨j,H,J⟩:=tBu B F I;have A:=(Lt.wordS (x:=wSt) (by rfl) (by rfl)).then (H.then (Lt.bl (c:=10) rfl));have p:∀ pub,∀ T i k (at_:Int),Mk T i ((2,wSt)::(j++[k]))->∃ σ,uB T [115,116,114,117,99,116] (i,none)=(true,σ)/\dG T pub at_ σ=(bV pub nm lv f at_,(i+(j.length+1),none)):=fun pub T i k at_ m=>by
  have ⟨C,y⟩:=m.cons;refine ⟨_,fL C (.inl rfl),?_⟩;rw [show dG T pub at_ (i+1,none)=_ from J pub at_ T (i+1) k y trivial,show i+1+j.length=i+(j.length+1) by omega]
 cases pub with
 | false=>
  refine ⟨(2,wSt)::j,?_,fun k=>by simp [hdK],fun T i k m=>?_⟩
  ·have e:stX (bV false nm lv f a)=wSt++[32]++(nm++(dF lv++([32,123,32]++((if uM f=[] then [] else uM f++[32])++[125])))++[10]):=by
    have:=fH lv
    simp only [stX,bV,this,wSt];simp
   grind
  ·have r:uB T [112,117,98] (i,none)=(false,(i,none)):=noM m.cons.1 rfl
   have ⟨σ,w,u⟩:=p false T i k ((tk T i).2.2:Int) m;refine ⟨bV false nm lv f ((tk T i).2.2:Int),?_⟩;unfold jJ;rw [r];dsimp only;rw [w];dsimp only;rw [u,if_pos rfl];exact ⟨rfl,rfl,rfl,rfl⟩
 | true=>
  refine ⟨(2,wP)::(2,wSt)::j,?_,fun k=>by simp [hdK],fun T i k m=>?_⟩
  ·have e:stX (bV true nm lv f a)=wP++[32]++(wSt++[32]++(nm++(dF lv++([32,123,32]++((if uM f=[] then [] else uM f++[32])++[125])))++[10])):=by
    have:=fH lv
    simp only [stX,bV,this,wSt,wP];simp
   rw [e];simpa using (Lt.wordS (x:=wP) (by rfl) (by rfl)).then A
  ·have r:uB T [112,117,98] (i,none)=(true,(i+1,none)):=fL m.cons.1 (.inl rfl)
   have ⟨σ,w,u⟩:=p true T (i+1) k ((tk T (i+1)).2.2:Int) m.cons.2;refine ⟨bV true nm lv f ((tk T (i+1)).2.2:Int),?_⟩;unfold jJ;rw [r];dsimp only;rw [w];dsimp only;rw [u,if_pos rfl];refine ⟨rfl,?_,rfl,rfl⟩
   grind
end Qp
namespace Qp
def vBu {d:D} (h:pY d):∃ ks,ItP false (fuX d) bareFu d ks:=by
 obtain ⟨pub,nm,lv,ps,ty,bd,a,rfl,R,S,hp,X,Z,hc⟩:=h;have ⟨u,V,W⟩:=mBq R S hp X;have ⟨w,U,Y⟩:=dBa (bAs 63) Z;have Q:=(Lt.wordS (x:=wF) (by rfl) (by rfl)).then (V.app ((Lt.bl (c:=32) rfl).then ((U 0).then (Lt.bl (c:=10) rfl))) (fun r _=>(uD (c:=32) rfl:brk (32::_))));have y:∀ pub,∀ T i k (at_:Int),Mk T i ((2,wF)::(u++((5,[123])::w)++[k]))->uB T wSt (i,none)=(false,(i,none))/\∃ σ f,uB T [102,110] (i,none)=(true,σ)/\oJ T pub at_ σ=(fuT pub nm lv ps ty f at_,((i+(u++((5,[123])::w)).length+1,none),yH 64 bd))/\f.map (eH 65)=bd.map (eH 65):=fun pub T i k at_ m=>by
  have ⟨J,L⟩:=m.cons;have ⟨O,K⟩:=Mk.split L;have M:=W T (i+1) (5,[123]) O rfl;have ⟨f,e2,e3⟩:=Y T (i+1+u.length) k 0 K (by grind);refine ⟨noM J rfl,_,f,fL J (.inl rfl),?_,e3 65 (by decide)⟩;rw [lAq,M];dsimp only;rw [e2];simp only [fnD,xC,xN,xJ];rw [show i+1+u.length+(w.length+1)=i+(u.length+(w.length+1))+1 by omega];rfl
 have j:∀ (p:Bool) (f:List D) (I:Int),f.map (eH 65)=bd.map (eH 65)->bareFu (fuT p nm lv ps ty f I)=bareFu (fuT p nm lv ps ty bd a):=fun p f I e=>by
  grind [oB6]
 cases pub with
 | false=>
  refine ⟨(2,wF)::(u++((5,[123])::w)),?_,fun k=>by simp [hdK],fun T i k m=>?_⟩
  ·have e:fuX (fuT false nm lv ps ty bd a)=wF++[32]++((nm++(gAf lv++([40]++(uM ps++([41]++(if bI ty=0 then [] else [32,45,62,32]++tyX 64 ty))))))++([32]++(blX 65 0 bd++[10]))):=by
    simp [fuX,hdX,bdX,fuT,vY,wF]
   grind
  ·have B:uB T [112,117,98] (i,none)=(false,(i,none)):=noM m.cons.1 rfl
   have ⟨H,σ,f,F,C,A⟩:=y false T i k ((tk T i).2.2:Int) m;refine ⟨fuT false nm lv ps ty f ((tk T i).2.2:Int),?_⟩;unfold jJ;rw [B];dsimp only;rw [show uB T [115,116,114,117,99,116] (i,none)=(false,(i,none)) from H];dsimp only;rw [F];dsimp only;rw [C,if_neg (by decide),if_pos rfl];exact ⟨rfl,by grind,rfl,j _ _ _ A⟩
 | true=>
  refine ⟨(2,wP)::(2,wF)::(u++((5,[123])::w)),?_,fun k=>by simp [hdK],fun T i k m=>?_⟩
  ·have e:fuX (fuT true nm lv ps ty bd a)=wP++[32]++(wF++[32]++((nm++(gAf lv++([40]++(uM ps++([41]++(if bI ty=0 then [] else [32,45,62,32]++tyX 64 ty))))))++([32]++(blX 65 0 bd++[10])))):=by
    simp [fuX,hdX,bdX,fuT,vY,wF,wP]
   rw [e];simpa using (Lt.wordS (x:=wP) (by rfl) (by rfl)).then Q
  ·have B:uB T [112,117,98] (i,none)=(true,(i+1,none)):=fL m.cons.1 (.inl rfl)
   have ⟨H,σ,f,F,C,A⟩:=y true T (i+1) k ((tk T (i+1)).2.2:Int) m.cons.2;refine ⟨fuT true nm lv ps ty f ((tk T (i+1)).2.2:Int),?_⟩;unfold jJ;rw [B];dsimp only;rw [show uB T [115,116,114,117,99,116] (i+1,none)=(false,(i+1,none)) from H];dsimp only;rw [F];dsimp only;rw [C,if_neg (by decide),if_pos rfl];exact ⟨rfl,by grind,rfl,j _ _ _ A⟩
def uAa {b:Bool} {x:Bs} {f:D->D} {d:D} {ks qs:List KT} (h:ItP b x f d ks) {T:List Tok} {i F:Nat} (m:Mk T i (ks++qs++[(0,[])])):∃ j,f j=f d/\pE T (F+1) i=((vAh (some (b,j)) []++(pE T F (i+ks.length)).1.1,wAh (some (b,j)) []++(pE T F (i+ks.length)).1.2),(pE T F (i+ks.length)).2)/\Mk T (i+ks.length) (qs++[(0,[])]):=by
 have ⟨w,p⟩:=Mk.split m;have ⟨j,u,A,B,y⟩:=h.2.2 T i _ w;refine ⟨j,y,?_,p⟩;have r:(tk T i).1≠0:=by
  have C:=h.2.1 (hdK qs (0,[]))
  grind [kt,tk,Mk.hd]
 simp only [pE,if_neg r,u,A,B]
def jB3 {T:List Tok}:∀ (L:List (D×List KT)) (i F:Nat),L.length<=F->(∀ p∈L,ItP false (fuX p.1) bareFu p.1 p.2)->Mk T i ((L.map (·.2)).flatten++[(0,[])])->∃ ys,pE T F i=(([],ys),none)/\ys.map bareFu=(L.map (·.1)).map bareFu
 | [],i,F,w,h,m=>by
  have j:(tk T i).1=0:=congrArg Prod.fst m.cons.1;refine ⟨[],?_,rfl⟩;cases F <;> simp only [pE,if_pos j]
 | p::r,i,F,w,h,m=>by
  obtain ⟨F,rfl⟩:∃ q,F=q+1:=⟨F-1,by grind⟩;obtain ⟨u,A,y,f⟩:=uAa (F:=F) (h p (by simp)) (qs:=(r.map (·.2)).flatten) (by simpa using m);obtain ⟨ys,i1,i2⟩:=jB3 r (i+p.2.length) F (by grind) (fun x B=>h x (by grind)) f;refine ⟨u::ys,by rw [y,i1];rfl,?_⟩
  grind
def kB3 {T:List Tok} {M:List (D×List KT)} (f:∀ p∈M,ItP false (fuX p.1) bareFu p.1 p.2):∀ (L:List (D×List KT)) (i F:Nat),L.length+M.length<=F->(∀ p∈L,ItP true (stX p.1) yQ p.1 p.2)->Mk T i ((L.map (·.2)).flatten++(M.map (·.2)).flatten++[(0,[])])->∃ xs ys,pE T F i=((xs,ys),none)/\xs.map yQ=(L.map (·.1)).map yQ/\ys.map bareFu=(M.map (·.1)).map bareFu
 | [],i,F,A,h,m=>by
  obtain ⟨ys,w,j⟩:=jB3 M i F (by omega) f (by simpa using m)
  grind
 | p::r,i,F,A,h,m=>by
  obtain ⟨F,rfl⟩:∃ q,F=q+1:=⟨F-1,by grind⟩;obtain ⟨y,w,j,u⟩:=uAa (F:=F) (h p (by simp)) (qs:=(r.map (·.2)).flatten++(M.map (·.2)).flatten) (by simpa using m);obtain ⟨xs,ys,i1,i2,B⟩:=kB3 f r (i+p.2.length) F (by grind) (fun x C=>h x (by grind)) u;refine ⟨y::xs,ys,by rw [j,i1];rfl,?_,B⟩
  grind
def bAf {b:Bool} {f g:D->D} {X:D->Bs}:∀ (L:List (D×List KT)),(∀ p∈L,ItP b (X p.1) f p.1 p.2)->Lt aT ((L.map fun p=>X p.1).flatten) ((L.map (·.2)).flatten)
 | [],_=>Lt.nil
 | p::r,h=>by
  simpa using (h p (by simp)).1.then (bAf (g:=g) r fun x j=>h x (by grind))
def eAv {N:Nat} {xs ys:List D} (J:∀ x∈xs,jA1 x) (K:∀ y∈ys,pY y) (U:xs.length+ys.length<=256) (Q:(crX xs ys).length<N):∃ f h,bH N (crX xs ys)=((f,h),none)/\f.map yQ=xs.map yQ/\h.map bareFu=ys.map bareFu:=by
 have ⟨L,H,u⟩:=pick (P:=fun d ks=>ItP true (stX d) yQ d ks) xs fun d hd=>uBu (J d hd);have ⟨M,C,w⟩:=pick (P:=fun d ks=>ItP false (fuX d) bareFu d ks) ys fun d hd=>vBu (K d hd);have e:crX xs ys=(L.map fun p=>stX p.1).flatten++(M.map fun p=>fuX p.1).flatten:=by
  rw [crX,<- H,<- C,List.map_map,List.map_map];rfl
 have lt:=(bAf (g:=id) L u).then (bAf (g:=id) M w);rw [<- e] at lt;have A:=lt [] [] trivial (by grind [LxB,Lx.nil]);rw [List.append_nil,List.append_nil] at A;have ⟨l,F,B⟩:=A N (jD false (crX xs ys)) (by grind);have S:iAv N (crX xs ys)=.inl (l++[(0,[],(crX xs ys).length)]):=by rw [iAv,F]
 have I:Mk (l++[(0,[],(crX xs ys).length)]) 0 ((L.map (·.2)).flatten++(M.map (·.2)).flatten++[(0,[])]):=fun j k O=>by
  rw [xC];exact fBq (ks:=(L.map (·.2)).flatten++(M.map (·.2)).flatten++[(0,[])]) (by rw [List.map_append,B];rfl) O
 have r:L.length+M.length<=256:=by grind
 have ⟨f,h,R,V,W⟩:=kB3 w L 0 256 r u I
 grind [bH,kA5]
end Qp
end Go.Proofs.YtkcjphhjmlienaaGreatDoor
