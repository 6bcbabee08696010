import Derived.Test.YtkcjphhjmlienaaGreatDoorXQp1
import Derived.Test.YtkcjphhjmlienaaGreatDoorAi2
import Derived.Test.YtkcjphhjmlienaaGreatDoorRows
import Derived.Test.YtkcjphhjmlienaaGreatDoorProg
/- Functions of the program as plain functions, and what they come to; part 2. -/
namespace Go.Proofs.YtkcjphhjmlienaaGreatDoor
set_option linter.unusedVariables false
set_option linter.unusedSimpArgs false
set_option linter.defProp false
open Go Ai Go.Proofs
namespace Qp
abbrev LfV:=zO3×SL×Unit
def lfc (x:LfV):List AV:=[.str x.1,SL.av x.2.1]
abbrev lf0:LfV:=([],sl0,())
def eA1 {β:Type} (r:LfV) (K:LfV->Option β):iA (.val zM) (some (.agg (lfc r))) K=K r:=by
 have ⟨n,s,_⟩:=r;simp [lfc,SL.av]
theorem cAq {H:Heap} {A:Nat} {r:LfV} (o:H.own A (lfc r)) {β:Type} (K:LfV->Option β):iA (.val zM) (H.cells (A,0) 2) K=K r:=by
 have:H.cells (A,0) 2=some (.agg (lfc r)):=o.cells (j:=0) (m:=2) (xD _)
 rw [this,eA1]
def eBt {H:Heap} {A:Nat} {r0:LfV} (o:H.own A (lfc r0)) (r:LfV) {β:Type} (K:LfV->Heap->Option β) :
  (vA (H.store (A,0) (yRH r)) fun f=>iA (.val zM) (f.cells (A,0) 2) fun h=>K h f)=K r (H.put A (.row (lfc r) .own)):=by
 have:H.store (A,0) (yRH r)=some (H.put A (.row (lfc r) .own)):=o.store rfl
 grind [fA,cAq,kB]
def eF (nm:Bs) (l:List D):D:=.t [.s nm,.l l]
def qQ {h:Heap} {V:Nat->Prop} {nm:Bs} {l:List D} {s:SL} (x:Sl h V s l):Dt h V (eF nm l) (lfc (nm,s,())):=
 yB3 (rC (a:=[_]) (tK h V nm) (rC (a:=[_]) (b:=[]) (kN.2 x) (aA0 h V)))
def rA7 (T:List Tok) (k:Int) (σ:St):D×St:=(.s (kC T k σ).1,(kC T k σ).2)
def pW (T:List Tok) (σ:St):D×St:=
 let a:=kC T 3 σ
 let b:=uB T [58] a.2
 if b.1=true then (eF a.1 (qD T (rA7 T 3) [43] b.2).1,(qD T (rA7 T 3) [43] b.2).2) else (eF a.1 [],b.2)
def jG (T:List Tok) (σ:St):D×St:=
 let m:=uB T [109,117,116] σ
 let a:=kC T 1 m.2
 let r:=nJ T 64 (eD T [58] a.2)
 (fdD m.1 a.1 r.1,r.2)
def cBm:AppN E 36 76 2 1000:=AppN.of (by kernel_rfl)
section
variable {N:Nat} {T:List Tok} {P:Nat} {X:List Nat} {st:Int} {h:Heap} {σ:St}
def jT (P:zH3) (sep:Bs) (O Q:zH3):∀ (M:Nat) (n:Int) (h:Heap),tN N M P sep (O,Q,()) n h=iP N P sep (fun h=>f189 N O Q h) M n h
 | 0,n,h=>rfl
 | M+1,n,h=>by
  rw [wA0];unfold rN;simp only [iP];simp only [jT P sep O Q M]
def kT (P:zH3) (sep:Bs) (O Q:zH3):∀ (M:Nat) (n:Int) (h:Heap),vN N M P sep (O,Q,()) n h=iP N P sep (fun h=>f155 N O Q h) M n h
 | 0,n,h=>rfl
 | M+1,n,h=>by
  rw [yA0];unfold uN;simp only [iP];simp only [kT P sep O Q M]
def lT (P:zH3) (sep:Bs) (O Q:zH3):∀ (M:Nat) (n:Int) (h:Heap),yN N M P sep (Q,O,()) n h=iP N P sep (fun h=>f157 N Q O h) M n h
 | 0,n,h=>rfl
 | M+1,n,h=>by
  rw [aA1];unfold wN;simp only [iP];simp only [lT P sep O Q M]
def eBd (K:Toks T) {h0:Heap} {O Q:Nat} {row:SL->List AV} (f:CF P X h0 O Q 1 1 row) {xs:List D} {i:Nat} (x:CI T P X st h0 O Q 1 row h xs (i,none)) (w:xs.length<=64):∃ h',f189 N (some (O,0)) (some (Q,0)) h=some ((),h')/\CI T P X st h0 O Q 1 row h' (xs++[(rA7 T 3 (i,none)).1]) (rA7 T 3 (i,none)).2:=by
 unfold f189;have ⟨v,o1,C,y,H,j⟩:=x.open f;have ⟨r,I,B,J⟩:=nW (N:=N) K y (k:=3) (by decide);have ⟨u,F,ci,p,A⟩:=x.close f o1 C iAh (by decide) (by decide) w B J (tK r _ (kC T 3 (i,none)).1) rfl;simp only [fA,xC,H,j,dA,qA,dC];rw [I,aA];simp only [mF,j,A,p,jC,xA,yB];exact ⟨u,F _,ci⟩
def fAz (j:Toks T) (p:100<=N) {h0:Heap} {O Q:Nat} {row:SL->List AV} (f:CF P X h0 O Q 1 1 row) (x:CI T P X st h0 O Q 1 row h0 [] σ):∃ h',dA2 N (some (P,0)) [43] ((some (O,0)),(some (Q,0)),()) h0=some ((),h')/\CI T P X st h0 O Q 1 row h' (qD T (rA7 T 3) [43] σ).1 (qD T (rA7 T 3) [43] σ).2:=by
 unfold dA2;have ⟨o,h',e,y⟩:=bS (N:=N) j p (F:=fun h=>f189 N (some (O,0)) (some (Q,0)) h) (one:=rA7 T 3) (Inv:=CI T P X st h0 O Q 1 row) (fun h xs σ c=>c.pc) (fun h h' xs σ r c d z=>c.step f d z) (fun h xs i c u=>eBd j f c u) (sep:=[43]) (by decide) x;simp only [jT];rw [e];simp only [mB];cases vD o (.exit 0) <;> exact ⟨h',rfl,y⟩
def fBd (hT:Toks T) (hN:100<=N) (x:PC T P X h σ st):∃ r h',f156 N (some (P,0)) h=some (r,h')/\PC T P X h' (pW T σ).2 st/\Chg [P] h h'/\Dt h' (fun C=>h.next<=C) (pW T σ).1 (lfc r):=by
 unfold f156;have hP:=x.P_lt;have oQ:=wA h [AV.ptr (some (P,0))];have cQ:=uA h (.row [AV.ptr (some (P,0))] .own);have nQ:(h.push (.row [AV.ptr (some (P,0))] .own)).next=h.next+1:=rfl;dsimp only;generalize h.push (.row [AV.ptr (some (P,0))] .own)=y at *;have oR:=wA y (lfc lf0);have cR:=uA y (.row (lfc lf0) .own);have eR:y.push (.row yZI .own)=y.push (.row (lfc lf0) .own):=rfl;have nR:(y.push (.row (lfc lf0) .own)).next=y.next+1:=rfl;have x2:=(x.chg cQ).add cR (A:=y.next) (xD _) (xP _);rw [eR];generalize y.push (.row (lfc lf0) .own)=h2 at *;have U:=oQ.chg cR;have Y:=cQ.trans cR;have r2:h2.cell (h.next,0)=some (.ptr (some (P,0))):=U.cell 0;simp only [r2,dA,dC];have ⟨j,e5,V,x5⟩:=nW (N:=N) hT x2 (k:=3) (by decide);rw [e5,aA];have a9:=U.chg V (by grind);have a0:=oR.chg V (by grind);have b2:=V.next;generalize a2:(kC T 3 σ).1=nm at *;have R:=wA j (lfc lf0);have a7:=uA j (.row (lfc lf0) .own);have eO:j.push (.row yZI .own)=j.push (.row (lfc lf0) .own):=rfl;have S:(j.push (.row (lfc lf0) .own)).store (j.next,0) [(.str nm),yS0]=some ((j.push (.row (lfc lf0) .own)).put j.next (.row (lfc (nm,sl0,())) .own)):=R.store rfl;rw [eO,S,fA];have oO:=kB R (lfc (nm,sl0,()));have W:Chg [] j ((j.push (.row (lfc lf0) .own)).put j.next (.row (lfc (nm,sl0,())) .own)):=a7.put (.inr (xD _)) _;have nO:((j.push (.row (lfc lf0) .own)).put j.next (.row (lfc (nm,sl0,())) .own)).next=j.next+1:=rfl;have x7:=x5.add W (A:=j.next) (xD _) (xP _);have L:=a9.chg W;have a6:=a0.chg W;generalize (j.push (.row (lfc lf0) .own)).put j.next (.row (lfc (nm,sl0,())) .own)=h7 at *;have a3:Chg [P] h h7:=((Y.mono (by simp)).trans V).trans (W.mono (by simp));have r7:h7.cell (h.next,0)=some (.ptr (some (P,0))):=L.cell 0;simp only [r7,dA,dC];have ⟨M,a5,u,O⟩:=qJ (N:=N) hT x7 (w:=[58]) (by decide);rw [a5,aA];have F:=L.chg u (by grind);have B:=oO.chg u (by grind);have p:=a6.chg u (by grind);have b0:=u.next;have I:=a3.trans u;simp only [pW,a2]
 cases hb:(uB T [58] (kC T 3 σ).2).1 with
 | false=>
  simp only [xB,xE,xL];rw [cAq B];have J:=p.put (lfc (nm,sl0,()));exact ⟨(nm,sl0,()),_,eBt p (nm,sl0,()) (fun x h=>some (x,h)),(O.chg1 J (by simp)).sub (by grind),I.step J (fun A hA hl=>by grind),qQ (Sl.nil _ _ _)⟩
 | true=>
  simp only [xA,xM];have a1:M.cell (h.next,0)=some (.ptr (some (P,0))):=F.cell 0;simp only [a1,dA,dC];have f:CF P (j.next::y.next::X) M j.next h.next 1 1 (fun v=>lfc (nm,v,())):=⟨by omega,by omega,by simp,fun v=>rfl,fun v v'=>rfl⟩;have ⟨Z,a8,ci⟩:=fAz (N:=N) hT hN f ⟨O,Chg.refl _ _,F,sl0,B,Ow.nil _ _ _ _⟩;rw [a8,aA];have ⟨v,K,a4⟩:=ci.ex;have b1:=ci.chg.next;have H:=p.chg ci.chg (by grind);rw [cAq K];have J:=H.put (lfc (nm,v,()));have Q:Chg [P] h Z:=I.step ci.chg (fun A hA hl=>by
   grind)
  refine ⟨(nm,v,()),_,eBt H (nm,v,()) (fun x h=>some (x,h)),(ci.pc.chg1 J (by simp)).sub (by grind),Q.step J (fun A hA hl=>by grind),qQ ?_⟩;exact (a4.sl.chg J (fun C hC=>by grind)).weak (fun C hC _=>by omega)
def gBd (S:Toks T) (w:100<=N) {h0:Heap} {O Q:Nat} {row:SL->List AV} (f:CF P X h0 O Q 2 2 row) {xs:List D} {i:Nat} (x:CI T P X st h0 O Q 2 row h xs (i,none)) (C:xs.length<=64):∃ h',f155 N (some (O,0)) (some (Q,0)) h=some ((),h')/\CI T P X st h0 O Q 2 row h' (xs++[(pW T (i,none)).1]) (pW T (i,none)).2:=by
 unfold f155;have ⟨v,o1,I,y,L,p⟩:=x.open f;have ⟨r,A,M,R,H,K⟩:=fBd (N:=N) S w y;have ⟨B,J,ci,u,F⟩:=x.close f o1 I cBm (by decide) (by decide) C H R K rfl;simp only [fA,xC,L,p,dA,qA,dC];rw [M,aA];have j:(A.push (.row (yRH r) .own)).cell (O,2)=some (yL v):=F;simp only [mF,p,j,u,jC,xA,yB];exact ⟨B,J _,ci⟩
def gAz (p:Toks T) (j:100<=N) {h0:Heap} {O Q:Nat} {row:SL->List AV} (f:CF P X h0 O Q 2 2 row) (x:CI T P X st h0 O Q 2 row h0 [] σ):∃ h',iW N (some (P,0)) [44] ((some (O,0)),(some (Q,0)),()) h0=some ((),h')/\CI T P X st h0 O Q 2 row h' (qD T (pW T) [44] σ).1 (qD T (pW T) [44] σ).2:=by
 unfold iW;have ⟨o,h',e,y⟩:=bS (N:=N) p j (F:=fun h=>f155 N (some (O,0)) (some (Q,0)) h) (one:=pW T) (Inv:=CI T P X st h0 O Q 2 row) (fun h xs σ c=>c.pc) (fun h h' xs σ r c d z=>c.step f d z) (fun h xs i c u=>gBd p j f c u) (sep:=[44]) (by decide) x;simp only [kT];rw [e];simp only [mB];cases vD o (.exit 0) <;> exact ⟨h',rfl,y⟩
def iBd (M:Toks T) (W:100<=N) {h0:Heap} {O Q:Nat} {row:SL->List AV} (f:CF P X h0 O Q 6 3 row) {xs:List D} {i:Nat} (x:CI T P X st h0 O Q 6 row h xs (i,none)) (hl:xs.length<=64):∃ h',f157 N (some (Q,0)) (some (O,0)) h=some ((),h')/\CI T P X st h0 O Q 6 row h' (xs++[(jG T (i,none)).1]) (jG T (i,none)).2:=by
 unfold f157;have hO:=f.o;have hQ:=f.q;have ⟨v,o1,w1,y,r1,r2⟩:=x.open f;simp only [fA,r2,dA,dC];have ⟨U,e4,K,x4⟩:=gJ (N:=N) M y (w:=[109,117,116]) (by decide);rw [e4,aA];have r4:U.cell (Q,0)=some (.ptr (some (P,0))):=(x.q.chg K (by grind)).cell 0;simp only [r4,dA,dC];have ⟨r,p,e8,x8,R,d8,nm,t,hr,S,dt⟩:=vAl (N:=N) M W x4;rw [e8,aA];have a3:=x.chg.next;have a1:=K.next;have a2:=R.next;have a0:nm=(kC T 1 (uB T [109,117,116] (i,none)).2).1:=by
  simp only [tG,fdD,D.t.injEq,List.cons.injEq,D.s.injEq,true_and,and_true] at S
  grind
 have B:=wA p (fdc fd0);have H:=uA p (.row (fdc fd0) .own);have eA:p.push (.row yZD .own)=p.push (.row (fdc fd0) .own):=rfl;rw [eA,eAz B r,fA];have u:=kB B (fdc r);have cA1:Chg [] p ((p.push (.row (fdc fd0) .own)).put p.next (.row (fdc r) .own)):=H.put (.inr (xD _)) _;generalize hm:(uB T [109,117,116] (i,none)).1=m at *;have F:((p.push (.row (fdc fd0) .own)).put p.next (.row (fdc r) .own)).store (p.next,0) [.bool m]=some (((p.push (.row (fdc fd0) .own)).put p.next (.row (fdc r) .own)).put p.next (.row (fdc (iU m nm t)) .own)):=by
  rw [hr] at u ⊢;exact u.store1 (j:=0) (by show 0<6;omega) _
 rw [F,fA];have J:=kB u (fdc (iU m nm t));have cA2:Chg [] p (((p.push (.row (fdc fd0) .own)).put p.next (.row (fdc r) .own)).put p.next (.row (fdc (iU m nm t)) .own)):=cA1.put (.inr (xD _)) _;generalize ((p.push (.row (fdc fd0) .own)).put p.next (.row (fdc r) .own)).put p.next (.row (fdc (iU m nm t)) .own)=A at *;have I:=x8.chg cA2;have L:Chg [P] h A:=(K.trans R).trans (cA2.mono (by simp));have Z:Dt A (fun C=>h.next<=C) (fdD m nm (nJ T 64 (eD T [58] (kC T 1 (uB T [109,117,116] (i,none)).2).2)).1) (fdc (iU m nm t)):=aBd ((dt.chg cA2 (by simp)).weak (fun C hC _=>by omega));have ⟨Y,eK,ci,V,g2⟩:=x.close f o1 w1 bBd (by decide) (by decide) hl L I Z rfl;simp only [xC,V,dA,qA];rw [bAq J];have hp:(jG T (i,none))=(fdD m nm (nJ T 64 (eD T [58] (kC T 1 (uB T [109,117,116] (i,none)).2).2)).1,(tG T (uB T [109,117,116] (i,none)).2).2):=by
  grind [jG,tG]
 rw [hp];exact ⟨Y,eK _,ci⟩
def yAl (p:Toks T) (j:100<=N) {h0:Heap} {O Q:Nat} {row:SL->List AV} (f:CF P X h0 O Q 6 3 row) (x:CI T P X st h0 O Q 6 row h0 [] σ):∃ h',jW N (some (P,0)) [44] ((some (Q,0)),(some (O,0)),()) h0=some ((),h')/\CI T P X st h0 O Q 6 row h' (qD T (jG T) [44] σ).1 (qD T (jG T) [44] σ).2:=by
 unfold jW;have ⟨o,h',e,y⟩:=bS (N:=N) p j (F:=fun h=>f157 N (some (Q,0)) (some (O,0)) h) (one:=jG T) (Inv:=CI T P X st h0 O Q 6 row) (fun h xs σ c=>c.pc) (fun h h' xs σ r c d z=>c.step f d z) (fun h xs i c u=>iBd p j f c u) (sep:=[44]) (by decide) x;simp only [lT];rw [e];simp only [mB];cases vD o (.exit 0) <;> exact ⟨h',rfl,y⟩
end
end Qp
namespace Qp
def jL (T:List Tok):Nat->St->List Bs×St
 | 0,σ=>let b:=uB T [46] σ;if b.1=true then ([],oG T 5 b.2) else ([],b.2)
 | g+1,σ=>
  let b:=uB T [46] σ
  if b.1=true then
   let c:=uB T [42] b.2
   if c.1=true then ([42]::(jL T g c.2).1,(jL T g c.2).2)
   else let x:=kC T 1 c.2;(x.1::(jL T g x.2).1,(jL T g x.2).2)
  else ([],b.2)
def kI (T:List Tok) (σ:St):D×St:=
 let a:=kC T 1 σ
 let p:=jL T 64 a.2
 (eF a.1 (p.1.map D.s),p.2)
def pl0:D:=eF [] []
def opD (k n:Int) (pl:D):D:=.t [.i k,.i n,pl]
def op0:D:=opD 0 0 pl0
def gF (T:List Tok) (σ:St):D×St:=
 let a:=uB T [116,114,117,101] σ
 if a.1=true then (opD 2 1 pl0,a.2) else
 let b:=uB T [102,97,108,115,101] a.2
 if b.1=true then (opD 2 0 pl0,b.2) else
 if (tk T b.2.1).1=4 then (opD 1 ((mS (kC T 4 b.2).1 0:Nat):Int) pl0,(kC T 4 b.2).2)
 else (opD 3 0 (kI T b.2).1,(kI T b.2).2)
def uE (T:List Tok) (w:Bs) (σ:St):Bool:=σ.2.isNone&&(decide ((tk T σ.1).1=1)&&(decide ((tk T (σ.1+1)).1=5)&&bB (tk T (σ.1+1)).2.1 w))
section
variable {N:Nat} {T:List Tok} {P:Nat} {X:List Nat} {st:Int} {h:Heap} {σ:St}
def iAz (hT:Toks T) {h0:Heap} {O:Nat} {R:zH3} {nm:Bs} (hO:P<O/\O<h0.next) (hX:O∈X):∀ (g M:Nat) (h:Heap) (σ:St) (v:SL) (xs:List Bs),g<M->g<=64->xs.length=64-g->PC T P X h σ st->Chg [P,O] h0 h->h.own O (lfc (nm,v,()))->Ow h0.next h v 1 (xs.map D.s)->
  ∃ F h',dAc N M (some (P,0)) R (some (O,0)) h=some (.exit 0,(R,some (O,0),()),h')/\PC T P X h' (jL T g σ).2 st/\Chg [P,O] h0 h'/\h'.own O (lfc (nm,F,()))/\Ow h0.next h' F 1 ((xs++(jL T g σ).1).map D.s):=by
 intro g
 induction g with
 | zero=>
  intro M h σ v xs hM hg hx x c oO w;obtain ⟨M,rfl⟩:∃ m,M=m+1:=⟨M-1,by omega⟩;rw [wZ];unfold kW;have ⟨h7,e7,L,x7⟩:=qJ (N:=N) hT x (w:=[46]) (by decide);rw [e7,aA];have o7:=oO.chg L (by grind);have w7:=w.chg L (by grind);have Q:=c.trans (L.mono (N:=[P,O]) (by simp));simp only [jL]
  cases hb:(uB T [46] σ).1 with
  | false=>
   grind
  | true=>
   simp only [xA,xM];have r7:h7.cell (O,1)=some (yL v):=o7.cell 1;have hv:v.len=64:=by rw [w7.len,xS,hx]
   simp only [fA,xC,r7,dA,qA];have hs:=(yF hb).1;rw [hs] at x7 ⊢;have ⟨a2,W,B,r⟩:=gA5 (N:=N) x7 v.len;rw [show Int.ofNat v.len=(v.len:Int) from rfl,W,aA];rw [hv] at r ⊢;simp only [xD,xM,oG,Option.isNone_some,xB] at r ⊢;exact ⟨v,a2,rfl,r,Q.trans (B.mono (by simp)),o7.chg B (by grind),by rw [List.append_nil];exact w7.chg B (by grind)⟩
 | succ g ih=>
  intro M h σ v xs hM hg hx x c oO w;obtain ⟨M,rfl⟩:∃ m,M=m+1:=⟨M-1,by omega⟩;rw [wZ];unfold kW;have ⟨h7,e7,L,x7⟩:=qJ (N:=N) hT x (w:=[46]) (by decide);rw [e7,aA];have o7:=oO.chg L (by grind);have w7:=w.chg L (by grind);have Q:=c.trans (L.mono (N:=[P,O]) (by simp));simp only [jL]
  cases hb:(uB T [46] σ).1 with
  | false=>
   grind
  | true=>
   simp only [xA,xM];have r7:h7.cell (O,1)=some (yL v):=o7.cell 1;have hv:v.len=64-(g+1):=by rw [w7.len,xS,hx]
   simp only [fA,xC,r7,dA,qA];have hs:=(yF hb).1;rw [hs] at x7 ⊢;have ⟨a2,W,B,r⟩:=gA5 (N:=N) x7 v.len;rw [show Int.ofNat v.len=(v.len:Int) from rfl,W,aA];have z:¬ 64<=v.len:=by omega
   simp only [z,xL,Option.isNone_none,xA] at r ⊢;have ⟨J,a9,a4,p⟩:=qJ (N:=N) hT r (w:=[42]) (by decide);rw [a9,aA];have u:=B.trans a4;have K:=o7.chg u (by grind);have I:=w7.chg u (by grind);have y:=Q.trans (u.mono (N:=[P,O]) (by simp));have b3:∀ A,v.blk=some A->h0.next<=A/\A<J.next:=I.ge;have a1:J.cell (O,1)=some (yL v):=K.cell 1;have b2:(xs.length+1) * 100<=1073741824:=by omega
   cases a0:(uB T [42] (σ.1+1,none)).1 with
   | true=>
    simp only [xA,xM,a1,dA,qA];have a6:=(yF a0).1;rw [a6] at p ⊢;have xf:=p.free (X':=v.blk.toList++X) fun A f=>by
     rcases List.mem_append.1 f with f | f
     ·grind
     ·exact p.pa.xl A f
    have ⟨F,V,eK,o',w',c'⟩:=dAz iAh (by decide) y K (j:=1) rfl I hO.2 (tK J _ ([42]:Bs)) rfl (by grind);have S:∀ A∈O::v.blk.toList,A∈v.blk.toList++X:=fun A f=>by
     grind
    have xH:=(xf.chgM c' S).sub (X':=X) fun A f=>xg _ f;have cH:Chg [P,O] h0 V:=y.step c' fun A f hl=>by
     grind
    rw [eK];have Z:Ow h0.next V F 1 ((xs++[[42]]).map D.s):=by grind
    have:=ih M V _ F (xs++[[42]]) (by omega) (by omega) (by grind) xH cH o' Z
    simpa only [xY,List.singleton_append] using this
   | false=>
    simp only [xB,xE,xL,a1,dA,qA];rw [lE a0] at p ⊢;have xf:=p.free (X':=v.blk.toList++X) fun A f=>by
     rcases List.mem_append.1 f with f | f
     ·grind
     ·exact p.pa.xl A f
    have ⟨C,a3,U,a7⟩:=nW (N:=N) hT xf (k:=1) (by decide);rw [a3,aA];have Y:=K.chg U (by grind);have a8:=I.chg U (by grind);have H:=y.trans (U.mono (N:=[P,O]) (by simp));generalize b1:(kC T 1 (σ.1+1,none)).1=xx at *;have ⟨F,V,eK,o',w',c'⟩:=dAz iAh (by decide) H Y (j:=1) rfl a8 hO.2 (tK C _ xx) rfl (by grind);have S:∀ A∈O::v.blk.toList,A∈v.blk.toList++X:=fun A f=>by
     grind
    have xH:=(a7.chgM c' S).sub (X':=X) fun A f=>xg _ f;have cH:Chg [P,O] h0 V:=H.step c' fun A f hl=>by
     grind
    have b0:C.cell (O,1)=some (yL v):=Y.cell 1;have a5:(C.push (.row [(.str xx)] .own)).cell (O,1)=some (yL v):=(Y.chg (uA C _)).cell 1;simp only [a5,b0,jC,xA,yB];rw [eK];have Z:Ow h0.next V F 1 ((xs++[xx]).map D.s):=by grind
    have:=ih M V _ F (xs++[xx]) (by omega) (by omega) (by grind) xH cH o' Z
    simpa only [xY,List.singleton_append] using this
def iA5 (hT:Toks T) (hN:100<=N) (x:PC T P X h σ st):∃ r h',f221 N (some (P,0)) h=some (r,h')/\PC T P X h' (kI T σ).2 st/\Chg [P] h h'/\Dt h' (fun C=>h.next<=C) (kI T σ).1 (lfc r):=by
 unfold f221;have hP:=x.P_lt;have oR:=wA h (lfc lf0);have Z:=uA h (.row (lfc lf0) .own);have eR:h.push (.row yZI .own)=h.push (.row (lfc lf0) .own):=rfl;have nR:(h.push (.row (lfc lf0) .own)).next=h.next+1:=rfl;have x1:=x.add Z (A:=h.next) (xD _) (xP _);rw [eR];generalize h.push (.row (lfc lf0) .own)=h1 at *;dsimp only;have ⟨f,e3,Q,x3⟩:=nW (N:=N) hT x1 (k:=1) (by decide);rw [e3,aA];have V:=oR.chg Q (by grind);have a0:=Q.next;generalize I:(kC T 1 σ).1=nm at *;have y:=wA f (lfc lf0);have S:=uA f (.row (lfc lf0) .own);have eO:f.push (.row yZI .own)=f.push (.row (lfc lf0) .own):=rfl;have B:(f.push (.row (lfc lf0) .own)).store (f.next,0) [(.str nm),yS0]=some ((f.push (.row (lfc lf0) .own)).put f.next (.row (lfc (nm,sl0,())) .own)):=y.store rfl;rw [eO,B,fA];have oO:=kB y (lfc (nm,sl0,()));have J:Chg [] f ((f.push (.row (lfc lf0) .own)).put f.next (.row (lfc (nm,sl0,())) .own)):=S.put (.inr (xD _)) _;have nO:((f.push (.row (lfc lf0) .own)).put f.next (.row (lfc (nm,sl0,())) .own)).next=f.next+1:=rfl;have x5:=x3.add J (A:=f.next) (xD _) (xP _);have H:=V.chg J;generalize (f.push (.row (lfc lf0) .own)).put f.next (.row (lfc (nm,sl0,())) .own)=Y at *;have ⟨v,K,L,M,p,F,u⟩:=iAz (N:=N) hT (h0:=Y) (O:=f.next) (R:=some (h.next,0)) (by omega) (by simp) 64 N Y _ sl0 [] (by omega) (xD _) rfl x5 (Chg.refl _ _) oO (Ow.nil _ _ _ _);rw [L];simp only [mB,fA];have W:=p.next;rw [cAq F];have j:=H.chg p (by grind);have U:=j.put (lfc (nm,v,()));have w:Chg [P] h K:=(((Z.mono (by simp)).trans Q).trans (J.mono (by simp))).step p (fun A hA hl=>by
  grind)
 simp only [kI,I];rw [List.nil_append] at u;refine ⟨(nm,v,()),_,eBt j (nm,v,()) (fun x h=>some (x,h)),(M.chg1 U (by simp)).sub (by grind),w.step U (fun A hA hl=>by grind),qQ ?_⟩;exact (u.sl.chg U (fun C hC=>by grind)).weak (fun C hC _=>by omega)
abbrev OpV:=Int×Int×zO3×SL×Unit
def opc (x:OpV):List AV:=[yI0 x.1,yI0 x.2.1,.str x.2.2.1,SL.av x.2.2.2.1]
def kY {β:Type} (r:OpV) (K:OpV->Option β):iA (.val zG) (some (.agg (opc r))) K=K r:=by
 have ⟨k,n,x,s,_⟩:=r;simp [opc,SL.av]
theorem bB9 {H:Heap} {A:Nat} {r:OpV} (o:H.own A (opc r)) {β:Type} (K:OpV->Option β):iA (.val zG) (H.cells (A,0) 4) K=K r:=by
 have:H.cells (A,0) 4=some (.agg (opc r)):=o.cells (j:=0) (m:=4) (xD _)
 rw [this,kY]
def pBr {H:Heap} {A:Nat} {r0:OpV} (o:H.own A (opc r0)) (r:OpV) {β:Type} (K:OpV->Heap->Option β) :
  (vA (H.store (A,0) (yRD r)) fun f=>iA (.val zG) (f.cells (A,0) 4) fun j=>K j f)=K r (H.put A (.row (opc r) .own)):=by
 have:H.store (A,0) (yRD r)=some (H.put A (.row (opc r) .own)):=o.store rfl
 grind [fA,bB9,kB]
def uAt {h:Heap} {V:Nat->Prop} {k n:Int} {pl:D} {p:LfV} (x:Dt h V pl (lfc p)):Dt h V (opD k n pl) (opc (k,n,p.1,p.2.1,())):=
 yB3 (rC (a:=[_]) (tAt h V k) (rC (a:=[_]) (tAt h V n) (rC (a:=lfc p) (b:=[]) x (aA0 h V))))
def uI (h:Heap) (V:Nat->Prop):Dt h V pl0 (lfc lf0):=qQ (Sl.nil _ _ _)
def jU (Z:Toks T) (hN:100<=N) (x:PC T P X h σ st):∃ r h',f208 N (some (P,0)) h=some (r,h')/\PC T P X h' (gF T σ).2 st/\Chg [P] h h'/\Dt h' (fun C=>h.next<=C) (gF T σ).1 (opc r):=by
 unfold f208;have hP:=x.P_lt;have oR:=wA h (opc (0,0,[],sl0,()));have cR:=uA h (.row (opc (0,0,[],sl0,())) .own);have eR:h.push (.row yZH .own)=h.push (.row (opc (0,0,[],sl0,())) .own):=rfl;have nR:(h.push (.row (opc (0,0,[],sl0,())) .own)).next=h.next+1:=rfl;have x1:=x.add cR (A:=h.next) (xD _) (xP _);rw [eR];generalize h.push (.row (opc (0,0,[],sl0,())) .own)=h1 at *;dsimp only;have fin:∀ {h':Heap} {U:St} (c:Chg [P] h1 h') (y:PC T P (h.next::X) h' U st) (o:h'.own h.next (opc (0,0,[],sl0,()))) (r:OpV) {d:D} (_:Dt h' (fun C=>h.next+1<=C) d (opc r)),PC T P X (h'.put h.next (.row (opc r) .own)) U st/\Chg [P] h (h'.put h.next (.row (opc r) .own))/\Dt (h'.put h.next (.row (opc r) .own)) (fun C=>h.next<=C) d (opc r):=fun c y o r d hd=>
  ⟨(y.chg1 (o.put (opc r)) (by simp)).sub (by grind),((cR.mono (by simp)).trans c).put (.inr (xD _)) _,(hd.chg (o.put (opc r)) (fun C hC=>by grind)).weak (fun C hC _=>by omega)⟩
 have ⟨h3,e3,c3,x3⟩:=gJ (N:=N) Z x1 (w:=[116,114,117,101]) (by decide);rw [e3,aA];have o3:=oR.chg c3 (by grind);simp only [gF]
 cases hb:(uB T [116,114,117,101] σ).1 with
 | true=>
  simp only [xA,xM];have ⟨I,J,K⟩:=fin c3 x3 o3 (2,1,[],sl0,()) (uAt (uI h3 _));exact ⟨(2,1,[],sl0,()),_,pBr o3 (2,1,[],sl0,()) (fun x h=>some (x,h)),I,J,K⟩
 | false=>
  simp only [xB,xE,xL];have ⟨h7,e7,c7,x7⟩:=gJ (N:=N) Z x3 (w:=[102,97,108,115,101]) (by decide);rw [e7,aA];have a0:=c3.trans c7;have o7:=o3.chg c7 (by grind)
  cases b0:(uB T [102,97,108,115,101] (uB T [116,114,117,101] σ).2).1 with
  | true=>
   simp only [xA,xM];have ⟨I,J,K⟩:=fin a0 x7 o7 (2,0,[],sl0,()) (uAt (uI h7 _));exact ⟨(2,0,[],sl0,()),_,pBr o7 (2,0,[],sl0,()) (fun x h=>some (x,h)),I,J,K⟩
  | false=>
   simp only [xB,xE,xL];generalize (uB T [102,97,108,115,101] (uB T [116,114,117,101] σ).2).2=F at *;have ⟨b2,a7,L⟩:=jQ (N:=N) x7.pa;rw [a7,aA];have V:=x7.chg L;have M:=o7.chg L;have f:=a0.trans (L.mono (N:=[P]) (by simp));simp only [fAt,eqI]
   by_cases q:(tk T F.1).1=4
   ·simp only [q,xO,xA,xM]
    have ⟨B,a2,Q,Y⟩:=nW (N:=N) Z V (k:=4) (by decide);rw [a2,aA];have a6:=M.chg Q (by grind);have O:∃ u j,f220 N (kC T 4 F).1 B=some ((((mS (kC T 4 F).1 0:Nat):Int),u,()),j)/\Chg [] B j:=by
     have ⟨i,e⟩:=F
     cases e with
     | none=>
      have ok:=jBk Z x7.lt;have hk:=ok.num q;have et:(kC T 4 (i,none)).1=(tk T i).2.1:=by simp only [kC];grind
      rw [et];have ⟨h',e',c'⟩:=nB5 (N:=N) (h:=B) (by omega) hk.1 hk.2
      grind
     | some p=>
      have et:(kC T 4 (i,some p)).1=[]:=rfl;rw [et];have ⟨u,h',e',c'⟩:=rAt (N:=N) Y.pin;exact ⟨u,h',e',c'⟩
    have ⟨u,j,a1,H⟩:=O;rw [a1,aA];have a5:=Y.chg H;have R:=a6.chg H;have ⟨I,J,K⟩:=fin ((f.trans Q).trans (H.mono (by simp))) a5 R (1,((mS (kC T 4 F).1 0:Nat):Int),[],sl0,()) (uAt (uI j _));exact ⟨(1,((mS (kC T 4 F).1 0:Nat):Int),[],sl0,()),_,pBr R (1,((mS (kC T 4 F).1 0:Nat):Int),[],sl0,()) (fun x h=>some (x,h)),I,J,K⟩
   ·simp only [q,xQ,xB,xL]
    have ⟨r,b1,a3,a8,S,a4⟩:=iA5 (N:=N) Z hN V;rw [a3,aA];have W:=M.chg S (by grind);have a9:=f.next;have ⟨I,J,K⟩:=fin (f.trans S) a8 W (3,0,r.1,r.2.1,()) (uAt (a4.weak fun C hC _=>by omega));exact ⟨(3,0,r.1,r.2.1,()),_,pBr W (3,0,r.1,r.2.1,()) (fun x h=>some (x,h)),I,J,K⟩
def aAm (K:Toks T) (x:PC T P X h σ st) (w:Bs):∃ h',f231 N (some (P,0)) w h=some (uE T w σ,h')/\Chg [] h h':=by
 unfold f231;have ⟨v,W,Z⟩:=x.pa.readE;simp only [fA,xC,W,dA,pF,Z.ne 9,aC,uE]
 cases hn:σ.2 with
 | some q=>simp only [Option.isSome_some,xA,Option.isNone_some,Bool.false_and];exact ⟨_,rfl,Chg.refl _ _⟩
 | none=>
  simp only [Option.isSome_none,xB,Option.isNone_none,Bool.true_and];have ⟨f,M,u⟩:=jQ (N:=N) x.pa;rw [M,aA];simp only [fAt,eqI]
  by_cases q:(tk T σ.1).1=1
  ·simp only [q,xO,xV,xB,Bool.true_and]
   have j:=iAy K x.lt (by omega);have Y:=x.pa.chg u;have ⟨⟨s,v',r,C,A,g4⟩,g5,g6⟩:=Y;have S:f.cell (P,0)=some (yL s):=r.cell 0;have V:f.cell (P,1)=some (yI0 (σ.1:Int)):=r.cell 1;have ⟨d1,d2,U⟩:=bAc C A j;simp only [S,V,dA,qA,qB];rw [tBb K x.lt,iA4 d2 U,d1,kBv];have ⟨y,H,I,B⟩:=rAp f (tk T (σ.1+1));have L:=uA f (.row yZE .own);have p:=r.chg L;have t0:(f.push (.row yZE .own)).cell (P,0)=some (yL s):=p.cell 0;have R:(f.push (.row yZE .own)).cell (P,1)=some (yI0 (σ.1:Int)):=p.cell 1;have F:=(bAc (C.chg L) A j).1;simp only [fAt] at H;rw [H];simp only [fA,tkc] at F d1 ⊢;simp only [t0,R,F,jC,xA,yB];have O:y.cell (f.next,0)=some (yI0 (tk T (σ.1+1)).1):=B.cell 0;have Q:y.cell (f.next,1)=some (.str (tk T (σ.1+1)).2.1):=B.cell 1;simp only [O,Q,dA,qB,yA]
   by_cases J:(tk T (σ.1+1)).1=5
   ·simp only [J,xO,xA,Bool.true_and];exact ⟨_,rfl,u.trans I⟩
   ·simp only [J,xQ,xB,Bool.false_and];exact ⟨_,rfl,u.trans I⟩
  grind
def jH (T:List Tok) (σ:St):Bool:=uE T [58,58] σ||uE T [40] σ
def jAz (j:Toks T) (x:PC T P X h σ st):∃ h',f222 N (some (P,0)) h=some (jH T σ,h')/\Chg [] h h':=by
 unfold f222 jH;have ⟨A,p,f⟩:=aAm (N:=N) j x [58,58];rw [p,aA]
 cases w:uE T [58,58] σ with
 | true=>grind
 | false=>
  simp only [xB,Bool.false_or];have ⟨y,u,r⟩:=aAm (N:=N) j (x.chg f) [40];rw [u,aA];exact ⟨_,rfl,f.trans r⟩
end
end Qp
namespace Ai
def OwV (V:Nat->Prop) (h:Heap) (s:SL) (n:Nat) (xs:List D):Prop:=
 (s.a=none/\s.len=0/\s.cap=0/\xs=[])\/
 ∃ A cs st vs,s.a=some (A,0)/\s.sz=n/\V A/\A<h.next/\h.g A=some (.row cs st)/\s.len=xs.length/\cs.take vs.length=vs/\De h (fun C=>V C/\C≠A) n xs vs/\s.len<=s.cap/\(st=.grown\/(st=.own/\s.cap * n=cs.length))
section
variable {E:Env} {V:Nat->Prop} {h h':Heap} {s:SL} {n:Nat} {xs:List D} {M:List Nat}
theorem OwV.weak {W:Nat->Prop} (x:OwV V h s n xs) (r:∀ C,V C->C<h.next->W C):OwV W h s n xs:=by
 rcases x with f | ⟨A,cs,st,vs,f,J,w,j,I,B,F,u,y⟩
 ·exact .inl f
 ·exact .inr ⟨A,cs,st,vs,f,J,r A w j,j,I,B,F,De.weak (fun C p H=>⟨r C p.1 H,p.2⟩) u,y⟩
theorem OwV.nil (V:Nat->Prop) (h:Heap) (z n:Nat):OwV V h ⟨none,0,0,z⟩ n []:=.inl ⟨rfl,rfl,rfl,rfl⟩
def OwV.len (x:OwV V h s n xs):s.len=xs.length:=by
 rcases x with ⟨_,f,_,rfl⟩ | ⟨A,cs,st,vs,_,_,_,_,_,f,_⟩
 ·exact f
 ·exact f
def OwV.ge (x:OwV V h s n xs):∀ A,s.blk=some A->V A/\A<h.next:=by
 intro A j;rcases x with ⟨f,_⟩ | ⟨u,cs,st,vs,f,_,r,p,_⟩
 ·simp [SL.blk,f] at j
 grind [SL.blk]
def OwV.sl (x:OwV V h s n xs):Sl h V s xs:=by
 rcases x with ⟨j,p,B,rfl⟩ | ⟨A,cs,st,vs,j,p,B,w,H,u,K,y,F,r⟩
 ·exact ⟨p,by omega,fun A I=>by simp [SL.blk,j] at I,[],⟨by simp [p],fun _=>p,fun A off f=>by rw [j] at f;cases f⟩,by simp [De]⟩
 ·refine ⟨u,F,fun C L=>?_,vs,⟨?_,fun f=>(by rw [j] at f;cases f),fun J off f=>?_⟩,?_⟩
  ·grind [SL.blk]
  ·rw [y.length,u,p]
  ·rw [j] at f
   simp only [xF,xI] at f;obtain ⟨rfl,rfl⟩:=f;refine ⟨w,cs,?_,by grind⟩;rw [H];rcases r with rfl | ⟨rfl,_⟩ <;> rfl
  grind [De.weak]
theorem OwV.chg (x:OwV V h s n xs) (c:Chg M h h') (w:∀ A,V A->A<h.next->A ∉ M:=by simp):OwV V h' s n xs:=by
 rcases x with p | ⟨A,cs,st,vs,p,K,u,j,J,F,H,y,B⟩
 ·exact .inl p
 ·refine .inr ⟨A,cs,st,vs,p,K,u,xW j c.next,by rw [c.g A j (w A u j)];exact J,F,H,?_,B⟩
  have r:De h (fun C=>(V C/\C≠A)/\C<h.next) n xs vs:=De.weak (fun C f I=>⟨f,I⟩) y;exact De.weak (fun C f _=>f.1) (De.chg c (fun C f=>w C f.1.1 f.2) r)
def eJ {st e:TypeId} {W:Nat} (ha:AppN E st e n W) (hn:0<n) (x:OwV V h s n xs) {d:D} {cs:List AV} (hd:Dt h (fun C=>V C/\s.blk≠some C) d cs) (I:cs.length=n) (hB:∀ A,h.next<=A->V A) (O:(xs.length+1) * W<=1073741824) :
  ∃ Q h',nB E st st (.slice s.a s.len s.cap s.sz) (.slice (some (h.next,0)) 1 1 n) (h.push (.row cs .own))=some (.slice Q.a Q.len Q.cap Q.sz,h')/\OwV V h' Q n (xs++[d])/\Chg (s.blk.toList) h h'/\(∀ A,Q.blk=some A->s.blk=some A\/h.next<=A):=by
 have ⟨hu,⟨i,hi,S,a8⟩,⟨z,hz,a6⟩⟩:=ha;have hr:(h.push (.row cs .own)).read h.next 0 (1 * n)=some cs:=by
  have:(h.push (.row cs .own)).row h.next=some cs:=(Heap.is_push h cs).row
  simp only [Heap.read,this,List.drop_zero,Nat.one_mul]
  grind [iI,List.take_of_length_le]
 have a5:=x.len;have p:Nat.ble ((s.len+1) * (i.bytes+i.size+1)) bA3=true:=by
  have u:(s.len+1) * (i.bytes+i.size+1)<=(xs.length+1) * W:=Nat.mul_le_mul (by omega) (by omega);simp only [bA3,Nat.ble_eq];omega
 have X:(Nat.beq s.sz i.size||s.a.isNone)=true:=by
  rcases x with ⟨u,_⟩ | ⟨A,cs,Y,vs,u,h2,_⟩
  ·simp [u]
  ·simp [S,h2]
 have R:cs.all AV.single=true:=by rw [List.all_eq_true];exact hd.single
 have key:∀ K,jM (h.push (.row cs .own)) s.a s.len s.cap n 1 cs=K->nB E st st (.slice s.a s.len s.cap s.sz) (.slice (some (h.next,0)) 1 1 n) (h.push (.row cs .own))=K:=by
  intro K hK;have U:Nat.beq z.cells.length i.size=true:=by simp_all
  have Z:Nat.beq cs.length (1 * i.size)=true:=by grind
  simp only [nB,hu,wS,bZ,xB,hi,hz,iM,yD];rw [S] at p X U Z ⊢;simp only [hr,show Nat.beq 1 0=false from rfl,xB,p,X,U,Z,R,Bool.and_self,xA];exact hK
 have a0:Dt h (fun C=>(V C/\s.blk≠some C)/\C<h.next) d cs:=hd.weak fun C f O=>⟨f,O⟩;rcases x with ⟨u,h2,h3,rfl⟩ | ⟨A,y,Y,vs,u,h2,h3,h4,h5,h6,h7,h8,h9,L⟩
 ·have c0:Chg [] h ((h.push (.row cs .own)).push (.row cs .grown)):=((Chg.refl [] h).push _).push _
  refine ⟨⟨some (h.next+1,0),1,1,n⟩,(h.push (.row cs .own)).push (.row cs .grown),key _ (by simp only [jM,u,h2];rfl),.inr ⟨h.next+1,cs,.grown,cs,rfl,rfl,hB _ (by omega),by simp,iG _ rfl,rfl,by simp,?_,xD _,.inl rfl⟩,c0.mono (by simp),fun A hA=>.inr (by simp [SL.blk] at hA;omega)⟩;simp only [List.nil_append,De];exact ⟨cs,[],by simp,I,Dt.weak (fun C f _=>⟨f.1.1,by omega⟩) (Dt.chg c0 (by simp) a0),rfl⟩
 ·have a1:=h8.length
  have j:s.blk=some A:=by simp [SL.blk,u]
  have a7:vs.length<=y.length:=by
   grind
  have hg:(h.push (.row cs .own)).t.get A=some (.row y Y):=by
   have:=aQ (h:=h) (A:=A) (.row cs .own) (by omega)
   grind [Heap.g]
  have a3:De h (fun C=>(V C/\C≠A)/\C<h.next) n xs vs:=De.weak (fun C f O=>⟨f,O⟩) h8;have a2:Dt h (fun C=>(V C/\C≠A)/\C<h.next) d cs:=Dt.weak (fun C f O=>⟨⟨f.1,fun e=>f.2 (by rw [j,e])⟩,O⟩) hd;have r:=a3.snoc a2 I;have J:takeN (s.len * n) y=some vs:=by grind [iI]
  have fresh:∀ H:Heap,H.next=h.next+1->Chg [A] h H->OwV V (H.push (.row (vs++cs) .grown)) ⟨some (h.next+1,0),s.len+1,s.len+1,n⟩ n (xs++[d]):=by
   intro H hH w;refine .inr ⟨h.next+1,vs++cs,.grown,vs++cs,rfl,rfl,hB _ (by omega),by simp [hH],iG _ hH.symm,by simp [h6],List.take_of_length_le (xD _),?_,xD _,.inl rfl⟩;exact De.weak (fun C f _=>⟨f.1.1,by omega⟩) (De.chg (w.push _) (fun C f=>by simp;exact f.1.2) r)
  rcases L with rfl | ⟨rfl,L⟩
  ·have w:Chg [A] h ((h.push (.row cs .own)).put A (.row y .dead)):=((Chg.refl [A] h).push _).put (.inl (by simp)) _
   refine ⟨⟨some (h.next+1,0),s.len+1,s.len+1,n⟩,((h.push (.row cs .own)).put A (.row y .dead)).push (.row (vs++cs) .grown),key _ ?_,fresh _ rfl w,(w.push _).mono (by simp [j]),fun C f=>.inr (by simp [SL.blk] at f;omega)⟩;simp only [jM,u,hg,List.drop_zero,J];rfl
  ·by_cases hc:s.len+1<=s.cap
   ·have F:Nat.ble (s.len+1) s.cap=true:=by simpa using hc
    have B:s.len * n+cs.length<=y.length:=by
     rw [I,<- Nat.succ_mul,<- L];exact Nat.mul_le_mul_right _ hc
    have a4:=lA4 y cs (s.len * n) B;have w:Chg [A] h ((h.push (.row cs .own)).put A (.row (y.take (s.len * n)++cs++y.drop (s.len * n+cs.length)) .own)):=((Chg.refl [A] h).push _).put (.inl (by simp)) _;have e1:y.take (s.len * n)=vs:=by rw [h6,<- a1,h7]
    refine ⟨⟨some (A,0),s.len+1,s.cap,n⟩,_,key _ ?_,.inr ⟨A,_,.own,vs++cs,rfl,rfl,h3,by simp;omega,jN _ rfl,by simp [h6],?_,?_,hc,.inr ⟨rfl,?_⟩⟩,w.mono (by simp [j]),fun C f=>.inl (by simp [SL.blk] at f;rw [j,f])⟩
    ·simp only [jM,u,hg,List.drop_zero,J,F,xA,xC,a4]
    ·grind
    ·exact De.weak (fun C f _=>f.1) (De.chg w (fun C f=>by simp;exact f.1.2) r)
    grind
   ·have F:Nat.ble (s.len+1) s.cap=false:=by
     cases hx:Nat.ble (s.len+1) s.cap
     ·rfl
     ·exact absurd (by simpa using hx) hc
    have w:Chg [A] h (h.push (.row cs .own)):=(Chg.refl [A] h).push _;refine ⟨⟨some (h.next+1,0),s.len+1,s.len+1,n⟩,(h.push (.row cs .own)).push (.row (vs++cs) .grown),key _ ?_,fresh _ rfl w,(w.push _).mono (by simp [j]),fun C f=>.inr (by simp [SL.blk] at f;omega)⟩;simp only [jM,u,hg,List.drop_zero,J,F,xB];rfl
end
end Ai
namespace Qp
section
variable {T:List Tok} {P:Nat} {X:List Nat} {st:Int} {h0 h h' h6:Heap} {O Q n j:Nat} {row:SL->List AV} {xs:List D} {σ σ':St}
def CI.close2 {i:Nat} (f:CF P X h0 O Q n j row) (x:CI T P X st h0 O Q n row h xs (i,none)) {v:SL} (o1:h.own O (row v)) (w1:Ow h0.next h v n xs) {t e:TypeId} {W:Nat} (ha:AppN E t e n W) (hn:0<n) (hW:W<=10000000) (hl:xs.length<=64) (c:Chg [P] h h6) (y:PC T P (v.blk.toList++X) h6 σ' st) {d:D} {cs:List AV} (hd:Dt h6 (fun C=>h.next<=C) d cs) (V:cs.length=n) :
  ∃ r p,(∀ {β:Type} (K:SL->Heap->Option β),tD (.val zJ3) (nB E t t (yL v) (.slice (some (h6.next,0)) 1 1 n) (h6.push (.row cs .own))) K=K r p)/\p.store (O,j) [.slice r.a r.len r.cap r.sz]=some (p.put O (.row (row r) .own))/\CI T P X st h0 O Q n row (p.put O (.row (row r) .own)) (xs++[d]) σ'/\h6.cell (O,j)=some (yL v)/\(h6.push (.row cs .own)).cell (O,j)=some (yL v)/\Chg v.blk.toList h6 p/\(∀ A∈v.blk.toList,h0.next<=A):=by
 have hO:=f.o;have hQ:=f.q;have S:∀ A,v.blk=some A->h0.next<=A/\A<h.next:=w1.ge;have F:Chg [P,O] h0 h6:=x.chg.trans (c.mono (by simp));have Y:h6.own O (row v):=o1.chg c (by grind);have w6:Ow h0.next h6 v n xs:=w1.chg c (by grind);have a1:=x.chg.next;have Z:Dt h6 (fun C=>h0.next<=C/\v.blk≠some C) d cs:=hd.weak fun C hC _=>⟨by omega,fun e=>by grind⟩;have L:(xs.length+1) * W<=1073741824:=by
  have:(xs.length+1) * W<=65 * 10000000:=Nat.mul_le_mul (by omega) hW
  omega
 have ⟨r,p,e',w',H,hb⟩:=cAz ha hn F w6 Z V L;have M:∀ A∈v.blk.toList,h0.next<=A/\A<h.next:=fun A w=>S A (by grind);have u:p.own O (row v):=Y.chg H (fun hm=>by grind);have R:j<(row v).length:=(List.getElem?_eq_some_iff.1 (f.rj v)).1;have B:p.store (O,j) [SL.av r]=some (p.put O (.row ((row v).set j (SL.av r)) .own)):=u.store1 R _;rw [f.rs] at B;have J:=u.put (row r);have U:=y.chgM H (fun A w=>List.mem_append_left _ w);have y':=U.chg1 J (xg _ f.x);have I:Chg [P,O] h0 p:=F.step H (fun A w a0=>by grind);refine ⟨r,p,fun K=>e' K,B,⟨y'.sub fun A w=>xg _ w,I.trans (J.mono (by simp)),((x.q.chg c (by grind)).chg H fun hm=>?_).chg J (by grind),r,kB u _,w'.chg J (by grind)⟩,by rw [Y.cell j,f.rj v];rfl,by rw [(Y.chg (uA h6 _)).cell j,f.rj v];rfl,H,fun A w=>(M A w).1⟩
 grind
end
def fA1 (T:List Tok) (σ:St):List D×St:=
 let b:=uB T [41] (eD T [40] σ)
 if b.1=true then ([],b.2) else let l:=qD T (gF T) [44] b.2;(l.1,eD T [41] l.2)
def kU (T:List Tok) (σ:St):D×St:=
 let a:=kC T 1 σ
 let o:=gF T (eD T [58] a.2)
 (.t [.s a.1,o.1],o.2)
def tA7 (T:List Tok) (σ:St):List D×St:=
 let b:=uB T [125] (eD T [123] σ)
 if b.1=true then ([],b.2) else let l:=qD T (kU T) [44] b.2;(l.1,eD T [125] l.2)
def d1:D->D | .t (a::_)=>a | _=>.i 0
def d2:D->D | .t (_::b::_)=>b | _=>.i 0
def kAz:AppN E 102 101 4 1000:=AppN.of (by kernel_rfl)
structure CVI (T:List Tok) (P:Nat) (X:List Nat) (st:Int) (h0:Heap) (O Q V off n:Nat) (row:SL->List AV) (h:Heap) (xs:List D) (σ:St):Prop where
 ci:CI T P X st h0 O Q n row h xs σ
 v:h.own V [.ptr (some (O,off))]
section
variable {N:Nat} {T:List Tok} {P:Nat} {X:List Nat} {st:Int} {h:Heap} {σ:St}
def mT (P:zH3) (sep:Bs) (V Q:zH3):∀ (M:Nat) (n:Int) (h:Heap),gO N M P sep (V,Q,()) n h=iP N P sep (fun h=>f235 N V Q h) M n h
 | 0,n,h=>rfl
 | M+1,n,h=>by
  rw [dA1];unfold fO;simp only [iP];simp only [mT P sep V Q M]
def nT (P:zH3) (sep:Bs) (V Q:zH3):∀ (M:Nat) (n:Int) (h:Heap),bO N M P sep (V,Q,()) n h=iP N P sep (fun h=>f256 N V Q h) M n h
 | 0,n,h=>rfl
 | M+1,n,h=>by
  rw [bA1];unfold aO;simp only [iP];simp only [nT P sep V Q M]
def jBd (hT:Toks T) (U:100<=N) {h0:Heap} {O Q V off:Nat} {row:SL->List AV} (f:CF P X h0 O Q 4 (off+14) row) (hV:V≠P/\V≠O/\V<h0.next) {xs:List D} {i:Nat} (x:CVI T P X st h0 O Q V off 4 row h xs (i,none)) (Z:xs.length<=64):∃ h',f235 N (some (V,0)) (some (Q,0)) h=some ((),h')/\CVI T P X st h0 O Q V off 4 row h' (xs++[(gF T (i,none)).1]) (gF T (i,none)).2:=by
 unfold f235;have ⟨v,o1,w1,y,r1,I⟩:=x.ci.open f;have ⟨r,w,e6,x6,J,d6⟩:=jU (N:=N) hT U y;have ⟨R,p,eA,M,ci,S,g2,cB,Y⟩:=x.ci.close2 f o1 w1 kAz (by decide) (by decide) Z J x6 d6 rfl;have u:=x.v.chg J (by grind);have A:=u.chg (uA w (.row (opc r) .own)) (by simp);have j:=u.chg cB (fun hm=>by grind);have L:h.cell (V,0)=some (.ptr (some (O,off))):=x.v.cell 0;have k6:w.cell (V,0)=some (.ptr (some (O,off))):=u.cell 0;have C:(w.push (.row (yRD r) .own)).cell (V,0)=some (.ptr (some (O,off))):=A.cell 0;have F:p.cell (V,0)=some (.ptr (some (O,off))):=j.cell 0;have H:(w.push (.row (yRD r) .own)).cell (O,off+14)=some (yL v):=g2;have B:∀ {β:Type} (K:SL->Heap->Option β),tD (.val zJ3) (nB E 102 102 (yL v) (.slice (some (w.next,0)) 1 1 4) (w.push (.row (yRD r) .own))) K=K R p:=eA;simp only [fA,L,r1,I,dA,qA,dC];rw [e6,aA];rw [B,M,fA];simp only [mF,I,H,S,L,k6,C,F,jC,xA,yB];exact ⟨_,rfl,ci,j.chg (by
  have ⟨_,W,_⟩:=ci.ex;exact (Chg.refl [O] p).put (.inl (by simp)) _) (by grind)⟩
def lAz (p:Toks T) (j:100<=N) {h0:Heap} {O Q V off:Nat} {row:SL->List AV} (f:CF P X h0 O Q 4 (off+14) row) (r:V≠P/\V≠O/\V<h0.next) (x:CVI T P X st h0 O Q V off 4 row h0 [] σ):∃ h',fA2 N (some (P,0)) [44] ((some (V,0)),(some (Q,0)),()) h0=some ((),h')/\CVI T P X st h0 O Q V off 4 row h' (qD T (gF T) [44] σ).1 (qD T (gF T) [44] σ).2:=by
 unfold fA2;have ⟨o,h',e,y⟩:=bS (N:=N) p j (F:=fun h=>f235 N (some (V,0)) (some (Q,0)) h) (one:=gF T) (Inv:=CVI T P X st h0 O Q V off 4 row) (fun h xs σ c=>c.ci.pc) (fun h h' xs σ u c d z=>⟨c.ci.step f d z,c.v.chg d (by grind)⟩) (fun h xs i c w=>jBd p j f r c w) (sep:=[44]) (by decide) x;simp only [mT];rw [e];simp only [mB];cases vD o (.exit 0) <;> exact ⟨h',rfl,y⟩
def mAz (K:Toks T) (hN:100<=N) (x:PC T P X h σ st) {O off:Nat} {row:SL->List AV} (hO:P<O) (hX:O∈X) (rj:∀ v,(row v)[off+14]? = some (SL.av v)) (rs:∀ v v',(row v).set (off+14) (SL.av v')=row v') (oO:h.own O (row sl0)):∃ v h',f223 N (some (P,0)) (some (O,off)) h=some ((),h')/\PC T P X h' (fA1 T σ).2 st/\Chg [P,O] h h'/\h'.own O (row v)/\Sl h' (fun C=>h.next<=C) v (fA1 T σ).1:=by
 unfold f223;have hP:=x.P_lt;have a3:=oO.2;have oQ:=wA h [AV.ptr (some (P,0))];have cQ:=uA h (.row [AV.ptr (some (P,0))] .own);have nQ:(h.push (.row [AV.ptr (some (P,0))] .own)).next=h.next+1:=rfl;dsimp only;generalize h.push (.row [AV.ptr (some (P,0))] .own)=r at *;have oV:=wA r [AV.ptr (some (O,off))];have J:=uA r (.row [AV.ptr (some (O,off))] .own);have nV:(r.push (.row [AV.ptr (some (O,off))] .own)).next=r.next+1:=rfl;have x2:=x.chg (cQ.trans J);have y:=oQ.chg J;have Y:=oO.chg (cQ.trans J);have Q:=cQ.trans J;generalize r.push (.row [AV.ptr (some (O,off))] .own)=h2 at *;have r2:h2.cell (h.next,0)=some (.ptr (some (P,0))):=y.cell 0;simp only [r2,dA,dC];have ⟨h5,e5,c5,x5⟩:=aH (N:=N) K x2 (w:=[40]) (by decide);rw [e5,aA];have A:=y.chg c5 (by grind);have r5:h5.cell (h.next,0)=some (.ptr (some (P,0))):=A.cell 0;simp only [r5,dA,dC];have ⟨I,e8,c8,x8⟩:=qJ (N:=N) K x5 (w:=[41]) (by decide);rw [e8,aA];have j:=c5.trans c8;have F:=A.chg c8 (by grind);have Z:=oV.chg j (by grind);have B:=Y.chg j (by grind);have a4:=j.next;have H:Chg [P] h I:=(Q.mono (by simp)).trans j;simp only [fA1]
 cases hb:(uB T [41] (eD T [40] σ)).1 with
 | true=>
  simp only [xV,xB,xM];exact ⟨sl0,I,rfl,x8,H.mono (by simp),B,Sl.nil _ _ _⟩
 | false=>
  simp only [Bool.not_false,xA,xE,xL];have r8:I.cell (h.next,0)=some (.ptr (some (P,0))):=F.cell 0;simp only [r8,dA,dC];have f:CF P X I O h.next 4 (off+14) row:=⟨by omega,by omega,hX,rj,rs⟩;have ⟨a1,R,L⟩:=lAz (N:=N) K hN (V:=r.next) (off:=off) f (by omega) ⟨⟨x8,Chg.refl _ _,F,sl0,B,Ow.nil _ _ _ _⟩,Z⟩;rw [R,aA];have ⟨v,u,W⟩:=L.ci.ex;have M:a1.cell (h.next,0)=some (.ptr (some (P,0))):=L.ci.q.cell 0;simp only [M,dA,dC];have ⟨U,a0,p,S⟩:=aH (N:=N) K L.ci.pc (w:=[41]) (by decide);rw [a0,aA];have a2:=W.chg p (by grind);exact ⟨v,U,rfl,S,((H.mono (N:=[P,O]) (by simp)).trans L.ci.chg).trans (p.mono (by simp)),u.chg p (by grind),a2.sl.weak (fun C hC _=>by omega)⟩
end
end Qp
namespace Qp
structure MF (P:Nat) (X:List Nat) (h0:Heap) (O Q V off:Nat) (row:SL->SL->List AV):Prop where
 o:P<O/\O<h0.next
 q:Q≠P/\Q≠O/\Q<h0.next
 v:V≠P/\V≠O/\V<h0.next
 x:O∈X
 rj:∀ v w,(row v w)[off+13]? = some (SL.av v)
 rk:∀ v w,(row v w)[off+14]? = some (SL.av w)
 rs:∀ v w v',(row v w).set (off+13) (SL.av v')=row v' w
 rt:∀ v w w',(row v w).set (off+14) (SL.av w')=row v w'
structure MI (T:List Tok) (P:Nat) (X:List Nat) (st:Int) (h0:Heap) (O Q V off:Nat) (row:SL->SL->List AV) (h:Heap) (zs:List D) (σ:St):Prop where
 pc:PC T P X h σ st
 chg:Chg [P,O] h0 h
 q:h.own Q [.ptr (some (P,0))]
 v:h.own V [.ptr (some (O,off))]
 ex:∃ v w,h.own O (row v w)/\OwV (fun C=>h0.next<=C/\w.blk≠some C) h v 1 (zs.map d1)/\OwV (fun C=>h0.next<=C/\v.blk≠some C) h w 4 (zs.map d2)
section
variable {N:Nat} {T:List Tok} {P:Nat} {X:List Nat} {st:Int} {h0 h h':Heap} {O Q V off:Nat} {row:SL->SL->List AV} {zs:List D} {σ σ':St}
def MI.step (f:MF P X h0 O Q V off row) (x:MI T P X st h0 O Q V off row h zs σ) (c:Chg [P] h h') (y:PC T P X h' σ' st):MI T P X st h0 O Q V off row h' zs σ':=by
 have ⟨v,w,o1,p,j⟩:=x.ex
 have:=f.o;have:=f.q;have:=f.v
 exact ⟨y,x.chg.trans (c.mono (by simp)),x.q.chg c (by grind),x.v.chg c (by grind),v,w,o1.chg c (by grind),p.chg c (by grind),j.chg c (by grind)⟩
theorem kBd (hT:Toks T) (hN:100<=N) (f:MF P X h0 O Q V off row) {i:Nat} (x:MI T P X st h0 O Q V off row h zs (i,none)) (hl:zs.length<=64):∃ h',f256 N (some (V,0)) (some (Q,0)) h=some ((),h')/\MI T P X st h0 O Q V off row h' (zs++[(kU T (i,none)).1]) (kU T (i,none)).2:=by
 unfold f256;have hO:=f.o;have hQ:=f.q;have hV:=f.v;have ⟨v,w,o1,w1,w2⟩:=x.ex;have hv:∀ A∈v.blk.toList,h0.next<=A/\A<h.next/\w.blk≠some A:=fun A p=>by
  have:=w1.ge A (by grind);grind
 have hw:∀ A∈w.blk.toList,h0.next<=A/\A<h.next/\v.blk≠some A:=fun A p=>by
  have:=w2.ge A (by grind);grind
 have y:PC T P (v.blk.toList++(w.blk.toList++X)) h (i,none) st:=x.pc.free fun A p=>by
  rcases List.mem_append.1 p with p | p
  ·grind
  ·rcases List.mem_append.1 p with p | p
   ·grind
   ·exact x.pc.pa.xl A p
 have i6:=x.chg.next;have kV:h.cell (V,0)=some (.ptr (some (O,off))):=x.v.cell 0;have kQ:h.cell (Q,0)=some (.ptr (some (P,0))):=x.q.cell 0;have kv:h.cell (O,off+13)=some (yL v):=by rw [o1.cell,f.rj];rfl
 simp only [fA,kV,kQ,kv,dA,qA,dC];have ⟨F,f6,K,f4⟩:=nW (N:=N) hT y (k:=1) (by decide);rw [f6,aA];generalize f1:(kC T 1 (i,none)).1=nm at *;generalize g7:(kC T 1 (i,none)).2=τ at *;have b4:=o1.chg K (by grind);have a3:=w1.chg K (by grind);have W:=w2.chg K (by grind);have h5:=x.q.chg K (by grind);have Z:=x.v.chg K (by grind);have h7:=K.next;have g8:((zs.map d1).length+1) * 100<=1073741824:=by grind
 have ⟨j,B,eA,b6,I,i5⟩:=eJ (cs:=[AV.str nm]) iAh (by decide) a3 (tK F _ nm) rfl (fun A p=>⟨by omega,fun e=>by grind⟩) g8;have i4:=I.next;have e6:=uA F (.row [AV.str nm] .own);have e8:=b4.chg e6;have f8:=Z.chg e6;have a4:=b4.chg I (fun hm=>by grind);have h2:=h5.chg I (fun hm=>by grind);have d4:=Z.chg I (fun hm=>by grind);have a5:OwV (fun C=>h0.next<=C/\j.blk≠some C) B w 4 (zs.map d2):=by
  have a1:OwV (fun C=>(h0.next<=C/\v.blk≠some C)/\C<F.next) F w 4 (zs.map d2):=W.weak fun C U hl=>⟨U,hl⟩;have a2:=a1.chg I (by grind);exact a2.weak fun C U _=>⟨U.1.1,fun e=>by grind⟩
 rw [eA,rF,qA];have f9:off+13<(row v w).length:=(List.getElem?_eq_some_iff.1 (f.rj v w)).1;have g4:B.store (O,off+13) [.slice j.a j.len j.cap j.sz]=some (B.put O (.row (row j w) .own)):=by
  have:=a4.store1 f9 (SL.av j)
  rw [f.rs] at this;exact this
 simp only [fA,g4];have cp:=a4.put (row j w);have f0:=kB a4 (row j w);have e9:=f4.chgM I (fun A p=>List.mem_append_left _ p);have g1:=e9.chg1 cp (xg _ (xg _ f.x));have c2:=h2.chg cp (by grind);have e7:=d4.chg cp (by grind);have S:=b6.chg cp (by grind);have a6:=a5.chg cp (by grind);have i8:(B.put O (.row (row j w) .own)).next=B.next:=rfl;have e3:Chg [P,O] h0 (B.put O (.row (row j w) .own)):=((x.chg.trans (K.mono (by simp))).step I (fun A p hl=>by grind)).trans (cp.mono (by simp));generalize B.put O (.row (row j w) .own)=b9 at *;have c0:F.cell (V,0)=some (.ptr (some (O,off))):=Z.cell 0;have d7:(F.push (.row [AV.str nm] .own)).cell (V,0)=some (.ptr (some (O,off))):=f8.cell 0;have d9:B.cell (V,0)=some (.ptr (some (O,off))):=d4.cell 0;have e1:F.cell (O,off+13)=some (yL v):=by rw [b4.cell,f.rj];rfl
 have c4:(F.push (.row [AV.str nm] .own)).cell (O,off+13)=some (yL v):=by rw [e8.cell,f.rj];rfl
 have d5:b9.cell (Q,0)=some (.ptr (some (P,0))):=c2.cell 0;simp only [mF,kQ,kV,c0,d7,d9,e1,c4,jC,xA,yB,d5,dA,dC];have ⟨Y,h1,H,h4⟩:=aH (N:=N) hT g1 (w:=[58]) (by decide);rw [h1,aA];have d3:=f0.chg H (by grind);have e2:=c2.chg H (by grind);have c5:=e7.chg H (by grind);have b0:=S.chg H (by grind);have a7:=a6.chg H (by grind);have h9:=H.next;have c9:Y.cell (V,0)=some (.ptr (some (O,off))):=c5.cell 0;have b8:Y.cell (Q,0)=some (.ptr (some (P,0))):=e2.cell 0;have c6:Y.cell (O,off+14)=some (yL w):=by rw [d3.cell,f.rk];rfl
 simp only [fA,c9,b8,c6,dA,qA,dC];have ⟨r,u,f2,g3,J,g0⟩:=jU (N:=N) hT hN h4;rw [f2,aA];have b1:=d3.chg J (by grind);have f5:=e2.chg J (by grind);have b2:=c5.chg J (by grind);have b3:=b0.chg J (by grind);have b5:=a7.chg J (by grind);have i3:=J.next;have i7:∀ A∈j.blk.toList,A<b9.next:=fun A p=>(S.ge A (by grind)).2;have h3:((zs.map d2).length+1) * 1000<=1073741824:=by grind
 have ⟨w',R,eB,a0,L,h8⟩:=eJ (cs:=opc r) kAz (by decide) b5 (g0.weak fun C U _=>⟨⟨by omega,fun e=>by grind⟩,fun e=>by grind⟩) rfl (fun A p=>⟨by omega,fun e=>by grind⟩) h3;have f7:nB E 102 102 (yL w) (.slice (some (u.next,0)) 1 1 4) (u.push (.row (yRD r) .own))=some (.slice w'.a w'.len w'.cap w'.sz,R):=eB;rw [f7,rF,qA];have d8:=uA u (.row (opc r) .own);have g9:=b1.chg d8;have g5:=b2.chg d8;have a9:=b1.chg L (fun hm=>by grind);have f3:=f5.chg L (fun hm=>by grind);have e4:=b2.chg L (fun hm=>by grind);have a8:OwV (fun C=>h0.next<=C/\w'.blk≠some C) R j 1 (zs.map d1++[.s nm]):=by
  have a1:OwV (fun C=>(h0.next<=C/\w.blk≠some C)/\C<u.next) u j 1 (zs.map d1++[.s nm]):=b3.weak fun C U hl=>⟨U,hl⟩;have a2:=a1.chg L (by grind);exact a2.weak fun C U _=>⟨U.1.1,fun e=>by grind⟩
 have h6:off+14<(row j w).length:=(List.getElem?_eq_some_iff.1 (f.rk j w)).1;have c7:R.store (O,off+14) [.slice w'.a w'.len w'.cap w'.sz]=some (R.put O (.row (row j w') .own)):=by
  have:=a9.store1 h6 (SL.av w')
  rw [f.rt] at this;exact this
 simp only [c7,fA];have b7:u.cell (V,0)=some (.ptr (some (O,off))):=b2.cell 0;have d6:(u.push (.row (yRD r) .own)).cell (V,0)=some (.ptr (some (O,off))):=g5.cell 0;have e5:R.cell (V,0)=some (.ptr (some (O,off))):=e4.cell 0;have d0:u.cell (O,off+14)=some (yL w):=by rw [b1.cell,f.rk];rfl
 have c8:(u.push (.row (yRD r) .own)).cell (O,off+14)=some (yL w):=by
  have:=g9.cell (off+14)
  rw [f.rk] at this;exact this
 simp only [b7,d6,e5,d0,c8,jC,xA,yB];have M:=a9.put (row j w');have g2:=g3.chgM L (fun A p=>xg _ (List.mem_append_left _ p));have g6:=g2.chg1 M (xg _ (xg _ f.x));have c3:Chg [P,O] h0 (R.put O (.row (row j w') .own)):=((e3.trans ((H.trans J).mono (by simp))).step L (fun A p hl=>by grind)).trans (M.mono (by simp));simp only [kU,f1,g7];refine ⟨_,rfl,g6.sub (fun A p=>xg _ (xg _ p)),c3,f3.chg M (by grind),e4.chg M (by grind),j,w',kB a9 _,?_,?_⟩
 ·rw [List.map_append]
  exact a8.chg M (by grind)
 ·rw [List.map_append]
  exact a0.chg M (by grind)
def nAz (p:Toks T) (j:100<=N) (f:MF P X h0 O Q V off row) (x:MI T P X st h0 O Q V off row h0 [] σ):∃ h',eA2 N (some (P,0)) [44] ((some (V,0)),(some (Q,0)),()) h0=some ((),h')/\MI T P X st h0 O Q V off row h' (qD T (kU T) [44] σ).1 (qD T (kU T) [44] σ).2:=by
 unfold eA2;obtain ⟨o,h',e,y⟩:=bS (N:=N) p j (F:=fun h=>f256 N (some (V,0)) (some (Q,0)) h) (one:=kU T) (Inv:=MI T P X st h0 O Q V off row) (fun h xs σ c=>c.pc) (fun h h' xs σ σ' c d z=>c.step f d z) (fun h xs i c r=>kBd p j f c r) (sep:=[44]) (by decide) x;simp only [nT];rw [e];simp only [mB];cases vD o (.exit 0) <;> exact ⟨h',rfl,y⟩
def lBd (U:Toks T) (hN:100<=N) (x:PC T P X h σ st) (hO:P<O) (hX:O∈X) (rj:∀ v w,(row v w)[off+13]? = some (SL.av v)) (rk:∀ v w,(row v w)[off+14]? = some (SL.av w)) (rs:∀ v w v',(row v w).set (off+13) (SL.av v')=row v' w) (rt:∀ v w w',(row v w).set (off+14) (SL.av w')=row v w') (oO:h.own O (row sl0 sl0)):∃ v w h',f244 N (some (P,0)) (some (O,off)) h=some ((),h')/\PC T P X h' (tA7 T σ).2 st/\Chg [P,O] h h'/\h'.own O (row v w)/\Sl h' (fun C=>h.next<=C) v ((tA7 T σ).1.map d1)/\Sl h' (fun C=>h.next<=C) w ((tA7 T σ).1.map d2):=by
 unfold f244;have hP:=x.P_lt;have a6:=oO.2;have oQ:=wA h [AV.ptr (some (P,0))];have cQ:=uA h (.row [AV.ptr (some (P,0))] .own);have nQ:(h.push (.row [AV.ptr (some (P,0))] .own)).next=h.next+1:=rfl;dsimp only;generalize h.push (.row [AV.ptr (some (P,0))] .own)=B at *;have oV:=wA B [AV.ptr (some (O,off))];have R:=uA B (.row [AV.ptr (some (O,off))] .own);have nV:(B.push (.row [AV.ptr (some (O,off))] .own)).next=B.next+1:=rfl;have x2:=x.chg (cQ.trans R);have H:=oQ.chg R;have a2:=oO.chg (cQ.trans R);have Y:=cQ.trans R;generalize B.push (.row [AV.ptr (some (O,off))] .own)=h2 at *;have r2:h2.cell (h.next,0)=some (.ptr (some (P,0))):=H.cell 0;simp only [r2,dA,dC];have ⟨h5,e5,c5,x5⟩:=aH (N:=N) U x2 (w:=[123]) (by decide);rw [e5,aA];have I:=H.chg c5 (by grind);have r5:h5.cell (h.next,0)=some (.ptr (some (P,0))):=I.cell 0;simp only [r5,dA,dC];have ⟨M,e8,c8,x8⟩:=qJ (N:=N) U x5 (w:=[125]) (by decide);rw [e8,aA];have p:=c5.trans c8;have K:=I.chg c8 (by grind);have a3:=oV.chg p (by grind);have J:=a2.chg p (by grind);have a7:=p.next;have L:Chg [P] h M:=(Y.mono (by simp)).trans p;simp only [tA7]
 cases hb:(uB T [125] (eD T [123] σ)).1 with
 | true=>
  simp only [xV,xB,xM];exact ⟨sl0,sl0,M,rfl,x8,L.mono (by simp),J,Sl.nil _ _ _,Sl.nil _ _ _⟩
 | false=>
  simp only [Bool.not_false,xA,xE,xL];have r8:M.cell (h.next,0)=some (.ptr (some (P,0))):=K.cell 0;simp only [r8,dA,dC];have f:MF P X M O h.next B.next off row:=⟨by omega,by omega,by omega,hX,rj,rk,rs,rt⟩;have ⟨a5,Z,S⟩:=nAz (N:=N) U hN f ⟨x8,Chg.refl _ _,K,a3,sl0,sl0,J,OwV.nil _ _ _ _,OwV.nil _ _ _ _⟩;rw [Z,aA];have ⟨v,w,F,u,r⟩:=S.ex;have W:a5.cell (h.next,0)=some (.ptr (some (P,0))):=S.q.cell 0;simp only [W,dA,dC];have ⟨a1,a4,j,a0⟩:=aH (N:=N) U S.pc (w:=[125]) (by decide);rw [a4,aA];have A:=u.chg j (by grind);have y:=r.chg j (by grind);exact ⟨v,w,a1,rfl,a0,((L.mono (N:=[P,O]) (by simp)).trans S.chg).trans (j.mono (by simp)),F.chg j (by grind),A.sl.weak (fun C hC _=>by omega),y.sl.weak (fun C hC _=>by omega)⟩
end
end Qp
namespace Qp
abbrev VaV:=Int×Int×Int×zO3×SL×Int×Int×zO3×SL×Int×zO3×SL×zO3×SL×SL×Unit
def vac (x:VaV):List AV:=[yI0 x.1,yI0 x.2.1,yI0 x.2.2.1,.str x.2.2.2.1,.slice x.2.2.2.2.1.a x.2.2.2.2.1.len x.2.2.2.2.1.cap x.2.2.2.2.1.sz,yI0 x.2.2.2.2.2.1,yI0 x.2.2.2.2.2.2.1,.str x.2.2.2.2.2.2.2.1,.slice x.2.2.2.2.2.2.2.2.1.a x.2.2.2.2.2.2.2.2.1.len x.2.2.2.2.2.2.2.2.1.cap x.2.2.2.2.2.2.2.2.1.sz,yI0 x.2.2.2.2.2.2.2.2.2.1,.str x.2.2.2.2.2.2.2.2.2.2.1,.slice x.2.2.2.2.2.2.2.2.2.2.2.1.a x.2.2.2.2.2.2.2.2.2.2.2.1.len x.2.2.2.2.2.2.2.2.2.2.2.1.cap x.2.2.2.2.2.2.2.2.2.2.2.1.sz,.str x.2.2.2.2.2.2.2.2.2.2.2.2.1,.slice x.2.2.2.2.2.2.2.2.2.2.2.2.2.1.a x.2.2.2.2.2.2.2.2.2.2.2.2.2.1.len x.2.2.2.2.2.2.2.2.2.2.2.2.2.1.cap x.2.2.2.2.2.2.2.2.2.2.2.2.2.1.sz,.slice x.2.2.2.2.2.2.2.2.2.2.2.2.2.2.1.a x.2.2.2.2.2.2.2.2.2.2.2.2.2.2.1.len x.2.2.2.2.2.2.2.2.2.2.2.2.2.2.1.cap x.2.2.2.2.2.2.2.2.2.2.2.2.2.2.1.sz]
abbrev fE:OpV:=(0,0,[],sl0,())
def nE (k:Int) (a b:OpV) (op:Int) (pl:LfV) (nm:Bs) (ns ag:SL):VaV:=(k,a.1,a.2.1,a.2.2.1,a.2.2.2.1,b.1,b.2.1,b.2.2.1,b.2.2.2.1,op,pl.1,pl.2.1,nm,ns,ag,())
abbrev va0:VaV:=nE 0 fE fE 0 lf0 [] sl0 sl0
def vaD (k:Int) (a b:D) (op:Int) (pl:D) (nm:Bs) (ns ag:List D):D:=.t [.i k,a,b,.i op,pl,.s nm,.l ns,.l ag]
theorem fAf {β:Type} (r:VaV) (K:VaV->Option β):iA (.val zC) (some (.agg (vac r))) K=K r:=by
 have ⟨y,A,L,B,J,C,H,I,F,u,j,w,f,p,h,_⟩:=r;simp [vac]
theorem bA0 {H:Heap} {A:Nat} {r:VaV} (o:H.own A (vac r)) {β:Type} (K:VaV->Option β):iA (.val zC) (H.cells (A,0) 15) K=K r:=by
 have:H.cells (A,0) 15=some (.agg (vac r)):=o.cells (j:=0) (m:=15) (xD _)
 rw [this,fAf]
def cB9 {H:Heap} {A:Nat} {r0:VaV} (o:H.own A (vac r0)) (r:VaV):H.store (A,0) (yRB r)=some (H.put A (.row (vac r) .own)):=o.store rfl
def qBr {H:Heap} {A:Nat} {r0:VaV} (o:H.own A (vac r0)) (r:VaV) {β:Type} (K:VaV->Heap->Option β) :
  (vA (H.store (A,0) (yRB r)) fun f=>iA (.val zC) (f.cells (A,0) 15) fun h=>K h f)=K r (H.put A (.row (vac r) .own)):=by
 rw [cB9 o,fA,bA0 (kB o _)]
def jP {h:Heap} {V:Nat->Prop} {k op:Int} {a b pl:D} {nm:Bs} {ns ag:List D} {ra j:OpV} {f:LfV} {s1 s2:SL} (y:Dt h V a (opc ra)) (r:Dt h V b (opc j)) (u:Dt h V pl (lfc f)) (p:Sl h V s1 ns) (w:Sl h V s2 ag):Dt h V (vaD k a b op pl nm ns ag) (vac (nE k ra j op f nm s1 s2)):=
 yB3 (rC (a:=[_]) (tAt h V k) (rC (a:=opc ra) y (rC (a:=opc j) r (rC (a:=[_]) (tAt h V op) (rC (a:=lfc f) u (rC (a:=[_]) (tK h V nm) (rC (a:=[_]) (kN.2 p) (rC (a:=[_]) (b:=[]) (kN.2 w) (aA0 h V)))))))))
def kG (h:Heap) (V:Nat->Prop):Dt h V op0 (opc fE):=uAt (uI h V)
section
variable {k op:Int} {a b:OpV} {pl:LfV} {nm:Bs}
def wBv (v w:SL):(vac (nE k a b op pl nm v w))[0+13]? = some (SL.av v):=by simp [vac,nE,SL.av]
def mBv (v w:SL):(vac (nE k a b op pl nm v w))[0+14]? = some (SL.av w):=by simp [vac,nE,SL.av]
def yBv (v w f:SL):(vac (nE k a b op pl nm v w)).set (0+13) (SL.av f)=vac (nE k a b op pl nm f w):=by simp [vac,nE,SL.av]
def nBv (v w w':SL):(vac (nE k a b op pl nm v w)).set (0+14) (SL.av w')=vac (nE k a b op pl nm v w'):=by simp [vac,nE,SL.av]
end
def qW (T:List Tok) (σ:St):D×St:=
 let a:=rK T σ
 if (uB T [123] a.2).1=true then
  let l:=tA7 T a.2
  (vaD 7 op0 op0 0 pl0 a.1 (l.1.map d1) (l.1.map d2),l.2)
 else
  let l:=fA1 T a.2
  (vaD 6 op0 op0 0 pl0 a.1 [] l.1,l.2)
def opS (T:List Tok):List Bs->Int->St->Option (Int×D)×St
 | [],_,σ=>(none,σ)
 | s::r,k,σ=>let b:=uB T s σ;if b.1=true then (some (k,(gF T b.2).1),(gF T b.2).2) else opS T r (k+1) b.2
def iJ:List Bs:=[[43],[45],[60],[61,61]]
def opV (o:D):Option (Int×D)->D
 | none=>vaD 1 o op0 0 pl0 [] [] []
 | some (k,b)=>vaD 5 o b k pl0 [] [] []
def kH (T:List Tok) (σ:St):D×St:=
 let a:=uB T [38] σ
 if a.1=true then
  let m:=uB T [109,117,116] a.2
  let p:=kI T m.2
  (vaD (if m.1=true then 3 else 2) op0 op0 0 p.1 [] [] [],p.2)
 else
  let b:=uB T [33] a.2
  if b.1=true then (vaD 4 (gF T b.2).1 op0 0 pl0 [] [] [],(gF T b.2).2)
  else if (jH T b.2||uE T [123] b.2)=true then qW T b.2
  else
   let o:=gF T b.2
   let s:=opS T iJ 1 o.2
   (opV o.1 s.1,s.2)
section
variable {N:Nat} {T:List Tok} {P:Nat} {X:List Nat} {st:Int} {h:Heap} {σ:St}
def bAm (p:Toks T) (x:PC T P X h σ st) {w:Bs} (j:isWord w=false):∃ h',f146 N (some (P,0)) 5 w h=some ((uB T w σ).1,h')/\Chg [] h h':=by
 have ⟨h',e,c⟩:=jAl (N:=N) x.pa 5 w;refine ⟨h',?_,c⟩;rw [e];have ⟨i,f⟩:=σ
 cases f with
 | some q=>rfl
 | none=>
  have:=qAp (T:=T) (i:=i) (jBk p x.lt) j
  simp only [uB,Option.isNone_none,Bool.true_and,<- this]
  grind
def mBd (Z:Toks T) (hN:100<=N) (x:PC T P X h σ st):∃ r h',f232 N (some (P,0)) h=some (r,h')/\PC T P X h' (qW T σ).2 st/\Chg [P] h h'/\Dt h' (fun C=>h.next<=C) (qW T σ).1 (vac r):=by
 unfold f232;have hP:=x.P_lt;have oR:=wA h (vac va0);have cR:=uA h (.row (vac va0) .own);have eR:h.push (.row yZB .own)=h.push (.row (vac va0) .own):=rfl;have nR:(h.push (.row (vac va0) .own)).next=h.next+1:=rfl;have x1:=x.add cR (A:=h.next) (xD _) (xP _);rw [eR];generalize h.push (.row (vac va0) .own)=h1 at *;dsimp only;have ⟨f,e3,c3,x3⟩:=wB8 (N:=N) Z x1;rw [e3,aA];have b2:=oR.chg c3 (by grind);have b5:=c3.next;simp only [qW];generalize (rK T σ).1=nm at *;generalize (rK T σ).2=τ at *;have U:=wA f (vac va0);have b0:=uA f (.row (vac va0) .own);have eO:f.push (.row yZB .own)=f.push (.row (vac va0) .own):=rfl;have Q:(f.push (.row (vac va0) .own)).store (f.next,0) [(yI0 6),(yI0 0),(yI0 0),(.str []),yS0,(yI0 0),(yI0 0),(.str []),yS0,(yI0 0),(.str []),yS0,(.str nm),yS0,yS0]=some ((f.push (.row (vac va0) .own)).put f.next (.row (vac (nE 6 fE fE 0 lf0 nm sl0 sl0)) .own)):=U.store rfl;rw [eO,Q,fA];have oO:=kB U (vac (nE 6 fE fE 0 lf0 nm sl0 sl0));have cO:Chg [] f ((f.push (.row (vac va0) .own)).put f.next (.row (vac (nE 6 fE fE 0 lf0 nm sl0 sl0)) .own)):=b0.put (.inr (xD _)) _;have nO:((f.push (.row (vac va0) .own)).put f.next (.row (vac (nE 6 fE fE 0 lf0 nm sl0 sl0)) .own)).next=f.next+1:=rfl;have x5:=x3.add cO (A:=f.next) (xD _) (xP _);have a9:=b2.chg cO;generalize (f.push (.row (vac va0) .own)).put f.next (.row (vac (nE 6 fE fE 0 lf0 nm sl0 sl0)) .own)=h5 at *;have ⟨F,e7,L⟩:=bAm (N:=N) Z x5 (w:=[123]) (by decide);rw [e7,aA];have x7:=x5.chg L;have j:=oO.chg L;have K:=a9.chg L;have b6:=L.next;have M:Chg [P] h F:=(((cR.mono (by simp)).trans c3).trans (cO.mono (by simp))).trans (L.mono (by simp))
 cases hb:(uB T [123] τ).1 with
 | true=>
  simp only [xA,xM,xX];have a7:F.store (f.next,0) [yI0 7]=some (F.put f.next (.row (vac (nE 7 fE fE 0 lf0 nm sl0 sl0)) .own)):=oD j rfl;rw [a7,fA];have cp:=j.put (vac (nE 7 fE fE 0 lf0 nm sl0 sl0));have a2:=kB j (vac (nE 7 fE fE 0 lf0 nm sl0 sl0));have a8:=K.chg cp (by grind);have x8:=x7.chg1 cp (by simp);have n8:(F.put f.next (.row (vac (nE 7 fE fE 0 lf0 nm sl0 sl0)) .own)).next=F.next:=rfl;have a6:Chg [P] h (F.put f.next (.row (vac (nE 7 fE fE 0 lf0 nm sl0 sl0)) .own)):=M.step cp (fun A Y W=>by grind);generalize F.put f.next (.row (vac (nE 7 fE fE 0 lf0 nm sl0 sl0)) .own)=h8 at *;have ⟨v,w,b1,a3,a1,H,V,sv,sw⟩:=lBd (N:=N) (off:=0) (row:=fun v w=>vac (nE 7 fE fE 0 lf0 nm v w)) Z hN x8 (O:=f.next) (by omega) (by simp) (fun v w=>wBv v w) (fun v w=>mBv v w) (fun v w v'=>yBv v w v') (fun v w w'=>nBv v w w') a2;rw [a3,aA];have b3:=H.next;have p:=a8.chg H (by grind);rw [bA0 V];have y:=p.put (vac (nE 7 fE fE 0 lf0 nm v w));have I:Chg [P] h b1:=a6.step H (fun A Y W=>by
   grind)
  refine ⟨nE 7 fE fE 0 lf0 nm v w,_,qBr p (nE 7 fE fE 0 lf0 nm v w) (fun x h=>some (x,h)),(a1.chg1 y (by simp)).sub (by grind),I.step y (fun A Y W=>by grind),jP (kG _ _) (kG _ _) (uI _ _) ?_ ?_⟩
  ·exact (sv.chg y (fun C J=>by grind)).weak (fun C J _=>by omega)
  ·exact (sw.chg y (fun C J=>by grind)).weak (fun C J _=>by omega)
 | false=>
  simp only [xB,xE,xL];have ⟨v,a0,a5,a4,B,R,sv⟩:=mAz (N:=N) (off:=0) (row:=fun v=>vac (nE 6 fE fE 0 lf0 nm sl0 v)) Z hN x7 (O:=f.next) (by omega) (by simp) (fun v=>mBv sl0 v) (fun v v'=>nBv sl0 v v') j;rw [a5,aA];have b4:=B.next;have u:=K.chg B (by grind);rw [bA0 R];have y:=u.put (vac (nE 6 fE fE 0 lf0 nm sl0 v));have S:Chg [P] h a0:=M.step B (fun A Y W=>by
   grind)
  refine ⟨nE 6 fE fE 0 lf0 nm sl0 v,_,qBr u (nE 6 fE fE 0 lf0 nm sl0 v) (fun x h=>some (x,h)),(a4.chg1 y (by simp)).sub (by grind),S.step y (fun A Y W=>by grind),jP (kG _ _) (kG _ _) (uI _ _) (Sl.nil _ _ _) ?_⟩;exact (sv.chg y (fun C J=>by grind)).weak (fun C J _=>by omega)
def pB5 (hT:Toks T) (hN:100<=N) {h0:Heap} {O S:Nat} {R:zH3} {ra:OpV} (hO:P<O/\O<h0.next) (hX:O∈X) (hS:S≠P/\S≠O/\S<h0.next):∀ (l:List Bs) (p M:Nat) (h:Heap) (σ:St),l.length<M->p+l.length=4->iJ.drop p=l->PC T P X h σ st->Chg [P,O] h0 h->h.own O (vac (nE 1 ra fE 0 lf0 [] sl0 sl0))->h.own S [.str [43],.str [45],.str [60],.str [61,61]]->
  ∃ h' k Y op,gAc N M (some (P,0)) R (some (O,0)) ⟨some (S,0),4,4,1⟩ (Int.ofNat 4) (p:Int) h=some (.exit 1,(R,some (O,0),()),h')/\PC T P X h' (opS T l ((p:Int)+1) σ).2 st/\Chg [P,O] h0 h'/\h'.own O (vac (nE k ra Y op lf0 [] sl0 sl0))/\
   (((opS T l ((p:Int)+1) σ).1=none/\k=1/\Y=fE/\op=0)\/(∃ b,(opS T l ((p:Int)+1) σ).1=some (op,b)/\k=5/\Dt h' (fun C=>h0.next<=C) b (opc Y))):=by
 intro l
 induction l with
 | nil=>
  intro p M h σ hM hp hd x c oO oS;obtain ⟨M,rfl⟩:∃ m,M=m+1:=⟨M-1,by omega⟩;rw [yZ];unfold lW;have y:p=4:=by omega
  subst y;simp only [show ltInt ((4:Nat):Int) (Int.ofNat 4)=false from rfl,xB,opS]
  grind
 | cons s l ih=>
  intro p M h σ hM hp hd x c oO oS;simp only [xJ] at hM hp;obtain ⟨M,rfl⟩:∃ m,M=m+1:=⟨M-1,by omega⟩;rw [yZ];unfold lW;have a7:=c.next;have y:p<4:=by omega
  have a3:ltInt (p:Int) (Int.ofNat 4)=true:=by grind [ltI,decide_eq_true]
  have H:iJ[p]? = some s:=by grind [List.head?_drop]
  have Z:iJ.drop (p+1)=l:=by rw [<- List.drop_drop,hd];rfl
  have A:h.cell (SL.at ⟨some (S,0),4,4,1⟩ p 1)=some (.str s):=by
   show h.cell (S,0+p * 1)=_;rw [xC,Nat.mul_one,oS.cell p,show ([.str [43],.str [45],.str [60],.str [61,61]]:List AV)=iJ.map AV.str from rfl,List.getElem?_map,H];rfl
  have W:isWord s=false:=by
   have:s∈iJ:=List.mem_of_getElem? H
   simp only [iJ,List.mem_cons,List.not_mem_nil,or_false] at this;rcases this with rfl | rfl | rfl | rfl <;> decide
  rw [a3];simp only [xA];rw [iA4 (s:=⟨some (S,0),4,4,1⟩) rfl y,A];simp only [dA,yA];have ⟨K,L,u,F⟩:=qJ (N:=N) hT x (w:=s) W;rw [L,aA];have I:=oO.chg u (by grind);have Q:=oS.chg u (by grind);have j:=c.trans (u.mono (N:=[P,O]) (by simp));simp only [opS]
  cases hb:(uB T s σ).1 with
  | true=>
   simp only [xA,xM];have ⟨r,f,U,a4,J,V⟩:=jU (N:=N) hT hN F;rw [U,aA];have B:=I.chg J (by grind);have a6:=j.next;simp only [fA,xC,xX];have a0:fB .i64 (1+(p:Int))=(p:Int)+1:=by grind [wG]
   rw [a0];have a5:f.store (O,0) [yI0 5]=some (f.put O (.row (vac (nE 5 ra fE 0 lf0 [] sl0 sl0)) .own)):=oD B rfl;rw [a5,fA];have p1:=kB B (vac (nE 5 ra fE 0 lf0 [] sl0 sl0));have a1:(f.put O (.row (vac (nE 5 ra fE 0 lf0 [] sl0 sl0)) .own)).store (O,9) [yI0 ((p:Int)+1)]=some ((f.put O (.row (vac (nE 5 ra fE 0 lf0 [] sl0 sl0)) .own)).put O (.row (vac (nE 5 ra fE ((p:Int)+1) lf0 [] sl0 sl0)) .own)):=oD p1 rfl;rw [a1,fA];have p2:=kB p1 (vac (nE 5 ra fE ((p:Int)+1) lf0 [] sl0 sl0));have a2:((f.put O (.row (vac (nE 5 ra fE 0 lf0 [] sl0 sl0)) .own)).put O (.row (vac (nE 5 ra fE ((p:Int)+1) lf0 [] sl0 sl0)) .own)).store (O,5) (yRD r)=some (((f.put O (.row (vac (nE 5 ra fE 0 lf0 [] sl0 sl0)) .own)).put O (.row (vac (nE 5 ra fE ((p:Int)+1) lf0 [] sl0 sl0)) .own)).put O (.row (vac (nE 5 ra r ((p:Int)+1) lf0 [] sl0 sl0)) .own)):=oD p2 rfl;rw [a2,fA];have p3:=kB p2 (vac (nE 5 ra r ((p:Int)+1) lf0 [] sl0 sl0));have cp:Chg [O] f (((f.put O (.row (vac (nE 5 ra fE 0 lf0 [] sl0 sl0)) .own)).put O (.row (vac (nE 5 ra fE ((p:Int)+1) lf0 [] sl0 sl0)) .own)).put O (.row (vac (nE 5 ra r ((p:Int)+1) lf0 [] sl0 sl0)) .own)):=((B.put _).trans (p1.put _)).trans (p2.put _);refine ⟨_,5,r,(p:Int)+1,rfl,a4.chg1 cp hX,(j.trans (J.mono (by simp))).trans (cp.mono (by simp)),p3,.inr ⟨_,rfl,rfl,(V.chg cp (fun C hC=>by grind)).weak fun C hC _=>by omega⟩⟩
  | false=>
   simp only [xB,xE,xL];rw [iB (by omega)]
   have:=ih (p+1) M K _ (by omega) (by omega) Z F j I Q
   rw [show (((p+1:Nat):Int))=(p:Int)+1 from by omega] at this;exact this
def cAm (I:Toks T) (hN:100<=N) (x:PC T P X h σ st):∃ r h',f219 N (some (P,0)) h=some (r,h')/\PC T P X h' (kH T σ).2 st/\Chg [P] h h'/\Dt h' (fun C=>h.next<=C) (kH T σ).1 (vac r):=by
 unfold f219;have hP:=x.P_lt;have oR:=wA h (vac va0);have cR:=uA h (.row (vac va0) .own);have eR:h.push (.row yZB .own)=h.push (.row (vac va0) .own):=rfl;have nR:(h.push (.row (vac va0) .own)).next=h.next+1:=rfl;have x1:=x.add cR (A:=h.next) (xD _) (xP _);rw [eR];generalize h.push (.row (vac va0) .own)=h1 at *;dsimp only;have ⟨h3,e3,c3,x3⟩:=qJ (N:=N) I x1 (w:=[38]) (by decide);rw [e3,aA];have e7:=oR.chg c3 (by grind);have d5:Chg [P] h h3:=(cR.mono (by simp)).trans c3;have j1:=c3.next;have fin:∀ {h':Heap} {d4:St} (c:Chg [P] h h') (y:PC T P (h.next::X) h' d4 st) (o:h'.own h.next (vac va0)) (hn:h.next+1<=h'.next) (r:VaV) {d:D} (_:Dt h' (fun C=>h.next+1<=C) d (vac r)),PC T P X (h'.put h.next (.row (vac r) .own)) d4 st/\Chg [P] h (h'.put h.next (.row (vac r) .own))/\Dt (h'.put h.next (.row (vac r) .own)) (fun C=>h.next<=C) d (vac r)/\(h'.put h.next (.row (vac r) .own)).own h.next (vac r):=fun c y o hn r d hd=>
  ⟨(y.chg1 (o.put (vac r)) (by simp)).sub (by grind),c.put (.inr (xD _)) _,(hd.chg (o.put (vac r)) (fun C U=>by grind)).weak (fun C U _=>by omega),kB o _⟩
 simp only [kH]
 cases hb:(uB T [38] σ).1 with
 | true=>
  simp only [xA,xM];have ⟨h5,e5,c5,x5⟩:=gJ (N:=N) I x3 (w:=[109,117,116]) (by decide);rw [e5,aA];have e4:=e7.chg c5 (by grind);have b5:=d5.trans c5;have j3:=c5.next
  cases hm:(uB T [109,117,116] (uB T [38] σ).2).1 with
  | true=>
   simp only [xA,xM,aA];have ⟨H,h9,e9,x9,c9,d9⟩:=iA5 (N:=N) I hN x5;rw [e9,aA];have u:=e4.chg c9 (by grind);have h4:=c9.next;have ⟨J,K,L,f4⟩:=fin (b5.trans c9) x9 u (by omega) (nE 3 fE fE 0 H [] sl0 sl0) (jP (kG _ _) (kG _ _) (d9.weak fun C U _=>by omega) (Sl.nil _ _ _) (Sl.nil _ _ _));have F:h9.store (h.next,0) [(yI0 3),(yI0 0),(yI0 0),(.str []),yS0,(yI0 0),(yI0 0),(.str []),yS0,(yI0 0),(.str H.1),(yL H.2.1),(.str []),yS0,yS0]=some (h9.put h.next (.row (vac (nE 3 fE fE 0 H [] sl0 sl0)) .own)):=u.store rfl;simp only [fA,F,rB,dB];exact ⟨nE 3 fE fE 0 H [] sl0 sl0,_,bA0 f4 (fun x=>some (x,_)),J,K,L⟩
  | false=>
   simp only [xB,xE,xL,aA];have ⟨H,h9,e9,x9,c9,d9⟩:=iA5 (N:=N) I hN x5;rw [e9,aA];have u:=e4.chg c9 (by grind);have h4:=c9.next;have ⟨J,K,L,f4⟩:=fin (b5.trans c9) x9 u (by omega) (nE 2 fE fE 0 H [] sl0 sl0) (jP (kG _ _) (kG _ _) (d9.weak fun C U _=>by omega) (Sl.nil _ _ _) (Sl.nil _ _ _));have F:h9.store (h.next,0) [(yI0 2),(yI0 0),(yI0 0),(.str []),yS0,(yI0 0),(yI0 0),(.str []),yS0,(yI0 0),(.str H.1),(yL H.2.1),(.str []),yS0,yS0]=some (h9.put h.next (.row (vac (nE 2 fE fE 0 H [] sl0 sl0)) .own)):=u.store rfl;simp only [fA,F,rB,dB];exact ⟨nE 2 fE fE 0 H [] sl0 sl0,_,bA0 f4 (fun x=>some (x,_)),J,K,L⟩
 | false=>
  simp only [xB,xE,xL];have ⟨b8,h7,a8,M⟩:=qJ (N:=N) I x3 (w:=[33]) (by decide);rw [h7,aA];have a5:=e7.chg a8 (by grind);have a4:=d5.trans a8;have i9:=a8.next
  cases j0:(uB T [33] (uB T [38] σ).2).1 with
  | true=>
   simp only [xA,xM];have ⟨ra,b9,g1,f8,b2,f6⟩:=jU (N:=N) I hN M;rw [g1,aA];have a1:=a5.chg b2 (by grind);have i8:=b2.next;have ⟨J,K,L,f4⟩:=fin (a4.trans b2) f8 a1 (by omega) (nE 4 ra fE 0 lf0 [] sl0 sl0) (jP (f6.weak fun C U _=>by omega) (kG _ _) (uI _ _) (Sl.nil _ _ _) (Sl.nil _ _ _));have F:b9.store (h.next,0) [(yI0 4),(yI0 ra.1),(yI0 ra.2.1),(.str ra.2.2.1),(yL ra.2.2.2.1),(yI0 0),(yI0 0),(.str []),yS0,(yI0 0),(.str []),yS0,(.str []),yS0,yS0]=some (b9.put h.next (.row (vac (nE 4 ra fE 0 lf0 [] sl0 sl0)) .own)):=a1.store rfl;simp only [fA,F,rB,dB];exact ⟨nE 4 ra fE 0 lf0 [] sl0 sl0,_,bA0 f4 (fun x=>some (x,_)),J,K,L⟩
  | false=>
   simp only [xB,xE,xL];generalize (uB T [33] (uB T [38] σ).2).2=τ at *;have b1:∃ Y,(jA (f222 N (some (P,0)) b8) fun (g9:Bool) a7=>
     (bif g9 then
      some ((some (P,0),(some (h.next,0)),true,()),a7)
     else
      (jA (f231 N (some (P,0)) [123] a7) fun (h2:Bool) c6=>
      some ((some (P,0),(some (h.next,0)),h2,()),c6))))=some ((some (P,0),some (h.next,0),(jH T τ||uE T [123] τ),()),Y)/\Chg [] b8 Y:=by
    have ⟨a7,i3,b6⟩:=jAz (N:=N) I M;rw [i3,aA]
    cases hc:jH T τ with
    | true=>grind
    | false=>
     simp only [xB,Bool.false_or];have ⟨c6,g6,g2⟩:=aAm (N:=N) I (M.chg b6) [123];rw [g6,aA];exact ⟨_,rfl,b6.trans g2⟩
   have ⟨Y,g5,V⟩:=b1;rw [g5,aA];have d7:=M.chg V;have a3:=a5.chg V (by simp);have a2:=a4.trans (V.mono (N:=[P]) (by simp));have i6:=V.next;dsimp only
   cases hc:(jH T τ||uE T [123] τ) with
   | true=>
    simp only [xA,xM];have ⟨rv,j2,e8,g3,b3,g7⟩:=mBd (N:=N) I hN d7;rw [e8,aA];have a0:=a3.chg b3 (by grind);have i4:=b3.next;have ⟨J,K,L,f4⟩:=fin (a2.trans b3) g3 a0 (by omega) rv (g7.weak fun C U _=>by omega);simp only [fA,cB9 a0,rB,dB]
    grind [bA0]
   | false=>
    simp only [xB,xE,xL,fA,dB];have ⟨ra,f,h6,g0,a9,b0⟩:=jU (N:=N) I hN d7;rw [h6,aA];have c2:=a3.chg a9 (by grind);have b0:=b0.weak (W:=fun C=>Y.next<=C/\C<f.next) (fun C U hl=>⟨U,hl⟩);have b7:=a2.trans a9;have i7:=a9.next;have e6:=wA f (vac va0);have h8:=uA f (.row (vac va0) .own);have eO:f.push (.row yZB .own)=f.push (.row (vac va0) .own):=rfl;have d6:(f.push (.row (vac va0) .own)).store (f.next,0) [(yI0 1),(yI0 ra.1),(yI0 ra.2.1),(.str ra.2.2.1),(yL ra.2.2.2.1),(yI0 0),(yI0 0),(.str []),yS0,(yI0 0),(.str []),yS0,(.str []),yS0,yS0]=some ((f.push (.row (vac va0) .own)).put f.next (.row (vac (nE 1 ra fE 0 lf0 [] sl0 sl0)) .own)):=e6.store rfl;rw [eO,d6,fA];have oO:=kB e6 (vac (nE 1 ra fE 0 lf0 [] sl0 sl0));have cO:Chg [] f ((f.push (.row (vac va0) .own)).put f.next (.row (vac (nE 1 ra fE 0 lf0 [] sl0 sl0)) .own)):=h8.put (.inr (xD _)) _;have nO:((f.push (.row (vac va0) .own)).put f.next (.row (vac (nE 1 ra fE 0 lf0 [] sl0 sl0)) .own)).next=f.next+1:=rfl;have g8:=g0.add cO (A:=f.next) (xD _) (xP _);have c4:=c2.chg cO (by simp);have f0:=b0.chg cO (by simp);have c7:=b7.trans (cO.mono (N:=[P]) (by simp));generalize (f.push (.row (vac va0) .own)).put f.next (.row (vac (nE 1 ra fE 0 lf0 [] sl0 sl0)) .own)=p at *;have oS:=wA p [.str [43],.str [45],.str [60],.str [61,61]];have cS:=uA p (.row [.str [43],.str [45],.str [60],.str [61,61]] .own);have nS:(p.push (.row [.str [43],.str [45],.str [60],.str [61,61]] .own)).next=p.next+1:=rfl;have f7:=g8.chg cS;have e2:=c4.chg cS (by simp);have d0:=oO.chg cS (by simp);have f5:=f0.chg cS (by simp);have d8:=c7.trans (cS.mono (N:=[P]) (by simp));generalize p.push (.row [.str [43],.str [45],.str [60],.str [61,61]] .own)=d3 at *;have ⟨g4,k,rb,op,c0,b4,Q,f9,B⟩:=pB5 (N:=N) I hN (h0:=d3) (O:=f.next) (S:=p.next) (R:=some (h.next,0)) (ra:=ra) (by omega) (by simp) (by omega) iJ 0 N d3 _ (by grind [iJ]) rfl rfl f7 (Chg.refl _ _) d0 oS;rw [show ((0:Nat):Int)=0 from rfl] at c0 b4 B;rw [Int.zero_add] at b4 B;rw [c0];simp only [mB,fA];have i5:=Q.next;rw [bA0 f9];have j:=e2.chg Q (by grind);have a6:Chg [P] h g4:=d8.step Q (fun A hA hl=>by
     grind)
    have cZ:=j.put (vac (nE k ra rb op lf0 [] sl0 sl0));have Z:=b4.sub (X':=h.next::X) (by grind);have c8:=(f5.chg Q (by grind)).weak (W:=fun C=>h.next+1<=C) (fun C U _=>by omega);rcases B with ⟨e1,rfl,rfl,rfl⟩ | ⟨b,e1,rfl,db⟩
    ·have ⟨J,K,L,f4⟩:=fin a6 Z j (by omega) (nE 1 ra fE 0 lf0 [] sl0 sl0) (jP c8 (kG _ _) (uI _ _) (Sl.nil _ _ _) (Sl.nil _ _ _))
     rw [e1];exact ⟨nE 1 ra fE 0 lf0 [] sl0 sl0,_,qBr j (nE 1 ra fE 0 lf0 [] sl0 sl0) (fun x h=>some (x,h)),J,K,L⟩
    ·have ⟨J,K,L,f4⟩:=fin a6 Z j (by omega) (nE 5 ra rb op lf0 [] sl0 sl0) (jP c8 (db.weak fun C U _=>by omega) (uI _ _) (Sl.nil _ _ _) (Sl.nil _ _ _))
     rw [e1];exact ⟨nE 5 ra rb op lf0 [] sl0 sl0,_,qBr j (nE 5 ra rb op lf0 [] sl0 sl0) (fun x h=>some (x,h)),J,K,L⟩
end
end Qp
namespace Qp
structure SmR where
 k:Int
 at_:Int
 m:Bool
 nm:Bs
 ty:TyV
 has:Bool
 pl:LfV
 va:VaV
 co:OpV
 th:SL
 el:SL
structure SmT where
 ty:D
 pl:D
 va:D
 co:D
 th:List D
 el:List D
abbrev SmV:=Int×Int×Bool×zO3×Int×zO3×SL×SL×Bool×zO3×SL×Int×Int×Int×zO3×SL×Int×Int×zO3×SL×Int×zO3×SL×zO3×SL×SL×Int×Int×zO3×SL×SL×SL×Unit
def smx (x:SmV):List AV:=[yI0 x.1,yI0 x.2.1,.bool x.2.2.1,.str x.2.2.2.1,yI0 x.2.2.2.2.1,.str x.2.2.2.2.2.1,.slice x.2.2.2.2.2.2.1.a x.2.2.2.2.2.2.1.len x.2.2.2.2.2.2.1.cap x.2.2.2.2.2.2.1.sz,.slice x.2.2.2.2.2.2.2.1.a x.2.2.2.2.2.2.2.1.len x.2.2.2.2.2.2.2.1.cap x.2.2.2.2.2.2.2.1.sz,.bool x.2.2.2.2.2.2.2.2.1,.str x.2.2.2.2.2.2.2.2.2.1,.slice x.2.2.2.2.2.2.2.2.2.2.1.a x.2.2.2.2.2.2.2.2.2.2.1.len x.2.2.2.2.2.2.2.2.2.2.1.cap x.2.2.2.2.2.2.2.2.2.2.1.sz,yI0 x.2.2.2.2.2.2.2.2.2.2.2.1,yI0 x.2.2.2.2.2.2.2.2.2.2.2.2.1,yI0 x.2.2.2.2.2.2.2.2.2.2.2.2.2.1,.str x.2.2.2.2.2.2.2.2.2.2.2.2.2.2.1,.slice x.2.2.2.2.2.2.2.2.2.2.2.2.2.2.2.1.a x.2.2.2.2.2.2.2.2.2.2.2.2.2.2.2.1.len x.2.2.2.2.2.2.2.2.2.2.2.2.2.2.2.1.cap x.2.2.2.2.2.2.2.2.2.2.2.2.2.2.2.1.sz,yI0 x.2.2.2.2.2.2.2.2.2.2.2.2.2.2.2.2.1,yI0 x.2.2.2.2.2.2.2.2.2.2.2.2.2.2.2.2.2.1,.str x.2.2.2.2.2.2.2.2.2.2.2.2.2.2.2.2.2.2.1,.slice x.2.2.2.2.2.2.2.2.2.2.2.2.2.2.2.2.2.2.2.1.a x.2.2.2.2.2.2.2.2.2.2.2.2.2.2.2.2.2.2.2.1.len x.2.2.2.2.2.2.2.2.2.2.2.2.2.2.2.2.2.2.2.1.cap x.2.2.2.2.2.2.2.2.2.2.2.2.2.2.2.2.2.2.2.1.sz,yI0 x.2.2.2.2.2.2.2.2.2.2.2.2.2.2.2.2.2.2.2.2.1,.str x.2.2.2.2.2.2.2.2.2.2.2.2.2.2.2.2.2.2.2.2.2.1,.slice x.2.2.2.2.2.2.2.2.2.2.2.2.2.2.2.2.2.2.2.2.2.2.1.a x.2.2.2.2.2.2.2.2.2.2.2.2.2.2.2.2.2.2.2.2.2.2.1.len x.2.2.2.2.2.2.2.2.2.2.2.2.2.2.2.2.2.2.2.2.2.2.1.cap x.2.2.2.2.2.2.2.2.2.2.2.2.2.2.2.2.2.2.2.2.2.2.1.sz,.str x.2.2.2.2.2.2.2.2.2.2.2.2.2.2.2.2.2.2.2.2.2.2.2.1,.slice x.2.2.2.2.2.2.2.2.2.2.2.2.2.2.2.2.2.2.2.2.2.2.2.2.1.a x.2.2.2.2.2.2.2.2.2.2.2.2.2.2.2.2.2.2.2.2.2.2.2.2.1.len x.2.2.2.2.2.2.2.2.2.2.2.2.2.2.2.2.2.2.2.2.2.2.2.2.1.cap x.2.2.2.2.2.2.2.2.2.2.2.2.2.2.2.2.2.2.2.2.2.2.2.2.1.sz,.slice x.2.2.2.2.2.2.2.2.2.2.2.2.2.2.2.2.2.2.2.2.2.2.2.2.2.1.a x.2.2.2.2.2.2.2.2.2.2.2.2.2.2.2.2.2.2.2.2.2.2.2.2.2.1.len x.2.2.2.2.2.2.2.2.2.2.2.2.2.2.2.2.2.2.2.2.2.2.2.2.2.1.cap x.2.2.2.2.2.2.2.2.2.2.2.2.2.2.2.2.2.2.2.2.2.2.2.2.2.1.sz,yI0 x.2.2.2.2.2.2.2.2.2.2.2.2.2.2.2.2.2.2.2.2.2.2.2.2.2.2.1,yI0 x.2.2.2.2.2.2.2.2.2.2.2.2.2.2.2.2.2.2.2.2.2.2.2.2.2.2.2.1,.str x.2.2.2.2.2.2.2.2.2.2.2.2.2.2.2.2.2.2.2.2.2.2.2.2.2.2.2.2.1,.slice x.2.2.2.2.2.2.2.2.2.2.2.2.2.2.2.2.2.2.2.2.2.2.2.2.2.2.2.2.2.1.a x.2.2.2.2.2.2.2.2.2.2.2.2.2.2.2.2.2.2.2.2.2.2.2.2.2.2.2.2.2.1.len x.2.2.2.2.2.2.2.2.2.2.2.2.2.2.2.2.2.2.2.2.2.2.2.2.2.2.2.2.2.1.cap x.2.2.2.2.2.2.2.2.2.2.2.2.2.2.2.2.2.2.2.2.2.2.2.2.2.2.2.2.2.1.sz,.slice x.2.2.2.2.2.2.2.2.2.2.2.2.2.2.2.2.2.2.2.2.2.2.2.2.2.2.2.2.2.2.1.a x.2.2.2.2.2.2.2.2.2.2.2.2.2.2.2.2.2.2.2.2.2.2.2.2.2.2.2.2.2.2.1.len x.2.2.2.2.2.2.2.2.2.2.2.2.2.2.2.2.2.2.2.2.2.2.2.2.2.2.2.2.2.2.1.cap x.2.2.2.2.2.2.2.2.2.2.2.2.2.2.2.2.2.2.2.2.2.2.2.2.2.2.2.2.2.2.1.sz,.slice x.2.2.2.2.2.2.2.2.2.2.2.2.2.2.2.2.2.2.2.2.2.2.2.2.2.2.2.2.2.2.2.1.a x.2.2.2.2.2.2.2.2.2.2.2.2.2.2.2.2.2.2.2.2.2.2.2.2.2.2.2.2.2.2.2.1.len x.2.2.2.2.2.2.2.2.2.2.2.2.2.2.2.2.2.2.2.2.2.2.2.2.2.2.2.2.2.2.2.1.cap x.2.2.2.2.2.2.2.2.2.2.2.2.2.2.2.2.2.2.2.2.2.2.2.2.2.2.2.2.2.2.2.1.sz]
def smv (r:SmR):SmV:=(r.k,r.at_,r.m,r.nm,r.ty.1,r.ty.2.1,r.ty.2.2.1,r.ty.2.2.2.1,r.has,r.pl.1,r.pl.2.1,r.va.1,r.va.2.1,r.va.2.2.1,r.va.2.2.2.1,r.va.2.2.2.2.1,r.va.2.2.2.2.2.1,r.va.2.2.2.2.2.2.1,r.va.2.2.2.2.2.2.2.1,r.va.2.2.2.2.2.2.2.2.1,r.va.2.2.2.2.2.2.2.2.2.1,r.va.2.2.2.2.2.2.2.2.2.2.1,r.va.2.2.2.2.2.2.2.2.2.2.2.1,r.va.2.2.2.2.2.2.2.2.2.2.2.2.1,r.va.2.2.2.2.2.2.2.2.2.2.2.2.2.1,r.va.2.2.2.2.2.2.2.2.2.2.2.2.2.2.1,r.co.1,r.co.2.1,r.co.2.2.1,r.co.2.2.2.1,r.th,r.el,())
def smc (r:SmR):List AV:=smx (smv r)
def smD (r:SmR) (d:SmT):D:=.t [.i r.k,.i r.at_,.b r.m,.s r.nm,d.ty,.b r.has,d.pl,d.va,d.co,.l d.th,.l d.el]
abbrev jAv:TyV:=(0,[],sl0,sl0,())
def aF (at_:Int):SmR:=⟨0,at_,false,[],jAv,false,lf0,va0,fE,sl0,sl0⟩
def va00:D:=vaD 0 op0 op0 0 pl0 [] [] []
def ty0D:D:=tyD 0 [] [] []
def bK:SmT:=⟨ty0D,pl0,va00,op0,[],[]⟩
def jA5 (h:Heap) (V:Nat->Prop):Dt h V va00 (vac va0):=jP (kG _ _) (kG _ _) (uI _ _) (Sl.nil _ _ _) (Sl.nil _ _ _)
structure SI (T:List Tok) (P:Nat) (X:List Nat) (hb:Heap) (R O:Nat) (r:SmR) (d:SmT) (h:Heap) (σ:St) (st:Int):Prop where
 pc:PC T P (O::R::X) h σ st
 chg:Chg [P] hb h
 oR:h.own R (smc (aF 0))
 oO:h.own O (smc r)
 le:hb.next<=R/\R<O/\P<hb.next
 dty:Dt h (fun C=>O<C) d.ty (tyc r.ty)
 dpl:Dt h (fun C=>O<C) d.pl (lfc r.pl)
 dva:Dt h (fun C=>O<C) d.va (vac r.va)
 dco:Dt h (fun C=>O<C) d.co (opc r.co)
 dth:Sl h (fun C=>O<C) r.th d.th
 del:Sl h (fun C=>O<C) r.el d.el
section
variable {T:List Tok} {P:Nat} {X:List Nat} {st st':Int} {hb h h':Heap} {R O:Nat} {r r':SmR} {d d':SmT} {σ σ':St}
def SI.dt (x:SI T P X hb R O r d h σ st):Dt h (fun C=>O<C) (smD r d) (smc r):=
 yB3 (rC (a:=[_]) (tAt h _ r.k) (rC (a:=[_]) (tAt h _ r.at_) (rC (a:=[_]) (aB9 h _ r.m) (rC (a:=[_]) (tK h _ r.nm) (rC (a:=tyc r.ty) x.dty (rC (a:=[_]) (aB9 h _ r.has) (rC (a:=lfc r.pl) x.dpl (rC (a:=vac r.va) x.dva (rC (a:=opc r.co) x.dco (rC (a:=[_]) (kN.2 x.dth) (rC (a:=[_]) (b:=[]) (kN.2 x.del) (aA0 h _))))))))))))
def SI.step2 (x:SI T P X hb R O r d h σ st) (c:Chg [P,O] h h') (y:PC T P (O::R::X) h' σ' st') (o:h'.own O (smc r')) (e:r'.ty=r.ty/\r'.pl=r.pl/\r'.va=r.va/\r'.co=r.co/\r'.th=r.th/\r'.el=r.el):SI T P X hb R O r' d h' σ' st':=by
 have ⟨V,B,U,Z,M,I,K,L,J,p,j⟩:=x;have ⟨S,w,F,Q,u,H⟩:=e;have f:∀ A,O<A->A ∉ [P,O]:=fun C hC=>by simp;omega
 exact ⟨y,B.step c (fun A Y W=>by grind),U.chg c (by simp;omega),o,M,by rw [S];exact I.chg c f,by rw [w];exact K.chg c f,by rw [F];exact L.chg c f,by rw [Q];exact J.chg c f,by rw [u];exact p.chg c f,by rw [H];exact j.chg c f⟩
def SI.step (x:SI T P X hb R O r d h σ st) (c:Chg [P] h h') (y:PC T P (O::R::X) h' σ' st'):SI T P X hb R O r d h' σ' st':=
 x.step2 (c.mono (by simp)) y (x.oO.chg c (by have:=x.le;simp;omega)) ⟨rfl,rfl,rfl,rfl,rfl,rfl⟩
def SI.step0 (x:SI T P X hb R O r d h σ st) (c:Chg [] h h'):SI T P X hb R O r d h' σ st:=x.step (c.mono (by simp)) (x.pc.chg c)
def SI.lt (x:SI T P X hb R O r d h σ st):O<h.next:=x.oO.2
def SI.put' (x:SI T P X hb R O r d h σ st) (r':SmR):Chg [O] h (h.put O (.row (smc r') .own))/\PC T P (O::R::X) (h.put O (.row (smc r') .own)) σ st/\Chg [P] hb (h.put O (.row (smc r') .own))/\(h.put O (.row (smc r') .own)).own R (smc (aF 0))/\(h.put O (.row (smc r') .own)).own O (smc r'):=by
 have c:=x.oO.put (smc r')
 have:=x.le
 exact ⟨c,x.pc.chg1 c (by simp),x.chg.step c (fun A f j=>by grind),x.oR.chg c (by simp;omega),kB x.oO _⟩
def SI.setK (f:SI T P X hb R O r d h σ st) (v:Int):∃ h',h.store (O,0) [yI0 v]=some h'/\SI T P X hb R O { r with k:=v } d h' σ st/\Chg [O] h h':=by
 have ⟨c,y,p,oR,oO⟩:=f.put' { r with k:=v };have j:∀ A,O<A->A ∉ [O]:=fun C u=>by simp;omega
 exact ⟨_,oD f.oO (by simp only [smc,smx,smv,lF,rG,Option.map_some]),⟨y,p,oR,oO,f.le,f.dty.chg c j,f.dpl.chg c j,f.dva.chg c j,f.dco.chg c j,f.dth.chg c j,f.del.chg c j⟩,c⟩
def SI.setM (f:SI T P X hb R O r d h σ st) (v:Bool):∃ h',h.store (O,2) [.bool v]=some h'/\SI T P X hb R O { r with m:=v } d h' σ st/\Chg [O] h h':=by
 have ⟨c,y,p,oR,oO⟩:=f.put' { r with m:=v };have j:∀ A,O<A->A ∉ [O]:=fun C u=>by simp;omega
 exact ⟨_,oD f.oO (by simp only [smc,smx,smv,uF,lF,rG,Option.map_some]),⟨y,p,oR,oO,f.le,f.dty.chg c j,f.dpl.chg c j,f.dva.chg c j,f.dco.chg c j,f.dth.chg c j,f.del.chg c j⟩,c⟩
theorem SI.setN (f:SI T P X hb R O r d h σ st) (v:Bs):∃ h',h.store (O,3) [.str v]=some h'/\SI T P X hb R O { r with nm:=v } d h' σ st/\Chg [O] h h':=by
 have ⟨c,y,p,oR,oO⟩:=f.put' { r with nm:=v };have j:∀ A,O<A->A ∉ [O]:=fun C u=>by simp;omega
 exact ⟨_,oD f.oO (by simp only [smc,smx,smv,uF,lF,rG,Option.map_some]),⟨y,p,oR,oO,f.le,f.dty.chg c j,f.dpl.chg c j,f.dva.chg c j,f.dco.chg c j,f.dth.chg c j,f.del.chg c j⟩,c⟩
def SI.setT (f:SI T P X hb R O r d h σ st) (v:TyV) {x:D} (hd:Dt h (fun C=>O<C) x (tyc v)):∃ h',h.store (O,4) (yRE v)=some h'/\SI T P X hb R O { r with ty:=v } { d with ty:=x } h' σ st/\Chg [O] h h':=by
 have ⟨c,y,p,oR,oO⟩:=f.put' { r with ty:=v };have j:∀ A,O<A->A ∉ [O]:=fun C u=>by simp;omega
 exact ⟨_,oD f.oO (by simp only [smc,smx,smv,uF,lF,rG,Option.map_some]),⟨y,p,oR,oO,f.le,hd.chg c j,f.dpl.chg c j,f.dva.chg c j,f.dco.chg c j,f.dth.chg c j,f.del.chg c j⟩,c⟩
def SI.setH (f:SI T P X hb R O r d h σ st) (v:Bool):∃ h',h.store (O,8) [.bool v]=some h'/\SI T P X hb R O { r with has:=v } d h' σ st/\Chg [O] h h':=by
 have ⟨c,y,p,oR,oO⟩:=f.put' { r with has:=v };have j:∀ A,O<A->A ∉ [O]:=fun C u=>by simp;omega
 exact ⟨_,oD f.oO (by simp only [smc,smx,smv,uF,lF,rG,Option.map_some]),⟨y,p,oR,oO,f.le,f.dty.chg c j,f.dpl.chg c j,f.dva.chg c j,f.dco.chg c j,f.dth.chg c j,f.del.chg c j⟩,c⟩
def SI.setP (f:SI T P X hb R O r d h σ st) (v:LfV) {x:D} (hd:Dt h (fun C=>O<C) x (lfc v)):∃ h',h.store (O,9) (yRH v)=some h'/\SI T P X hb R O { r with pl:=v } { d with pl:=x } h' σ st/\Chg [O] h h':=by
 have ⟨c,y,p,oR,oO⟩:=f.put' { r with pl:=v };have j:∀ A,O<A->A ∉ [O]:=fun C u=>by simp;omega
 exact ⟨_,oD f.oO (by simp only [smc,smx,smv,uF,lF,rG,Option.map_some]),⟨y,p,oR,oO,f.le,f.dty.chg c j,hd.chg c j,f.dva.chg c j,f.dco.chg c j,f.dth.chg c j,f.del.chg c j⟩,c⟩
def SI.setV (f:SI T P X hb R O r d h σ st) (v:VaV) {x:D} (hd:Dt h (fun C=>O<C) x (vac v)):∃ h',h.store (O,11) (yRB v)=some h'/\SI T P X hb R O { r with va:=v } { d with va:=x } h' σ st/\Chg [O] h h':=by
 have ⟨c,y,p,oR,oO⟩:=f.put' { r with va:=v };have j:∀ A,O<A->A ∉ [O]:=fun C u=>by simp;omega
 exact ⟨_,oD f.oO (by simp only [smc,smx,smv,uF,lF,rG,Option.map_some]),⟨y,p,oR,oO,f.le,f.dty.chg c j,f.dpl.chg c j,hd.chg c j,f.dco.chg c j,f.dth.chg c j,f.del.chg c j⟩,c⟩
def SI.setC (f:SI T P X hb R O r d h σ st) (v:OpV) {x:D} (hd:Dt h (fun C=>O<C) x (opc v)):∃ h',h.store (O,26) (yRD v)=some h'/\SI T P X hb R O { r with co:=v } { d with co:=x } h' σ st/\Chg [O] h h':=by
 have ⟨c,y,p,oR,oO⟩:=f.put' { r with co:=v };have j:∀ A,O<A->A ∉ [O]:=fun C u=>by simp;omega
 exact ⟨_,oD f.oO (by simp only [smc,smx,smv,uF,lF,rG,Option.map_some]),⟨y,p,oR,oO,f.le,f.dty.chg c j,f.dpl.chg c j,f.dva.chg c j,hd.chg c j,f.dth.chg c j,f.del.chg c j⟩,c⟩
def SI.setTh (f:SI T P X hb R O r d h σ st) (v:SL) {x:List D} (hd:Sl h (fun C=>O<C) v x):∃ h',h.store (O,30) [.slice v.a v.len v.cap v.sz]=some h'/\SI T P X hb R O { r with th:=v } { d with th:=x } h' σ st/\Chg [O] h h':=by
 have ⟨c,y,p,oR,oO⟩:=f.put' { r with th:=v };have j:∀ A,O<A->A ∉ [O]:=fun C u=>by simp;omega
 exact ⟨_,oD f.oO (by simp only [smc,smx,smv,uF,lF,rG,Option.map_some]),⟨y,p,oR,oO,f.le,f.dty.chg c j,f.dpl.chg c j,f.dva.chg c j,f.dco.chg c j,hd.chg c j,f.del.chg c j⟩,c⟩
def SI.setEl (f:SI T P X hb R O r d h σ st) (v:SL) {x:List D} (hd:Sl h (fun C=>O<C) v x):∃ h',h.store (O,31) [.slice v.a v.len v.cap v.sz]=some h'/\SI T P X hb R O { r with el:=v } { d with el:=x } h' σ st/\Chg [O] h h':=by
 have ⟨c,y,p,oR,oO⟩:=f.put' { r with el:=v };have j:∀ A,O<A->A ∉ [O]:=fun C u=>by simp;omega
 exact ⟨_,oD f.oO (by simp only [smc,smx,smv,uF,lF,rG,Option.map_some]),⟨y,p,oR,oO,f.le,f.dty.chg c j,f.dpl.chg c j,f.dva.chg c j,f.dco.chg c j,f.dth.chg c j,hd.chg c j⟩,c⟩
end
def kAv (T:List Tok) (at_:Int) (σ:St):D×St:=
 let m:=uB T [109,117,116] σ
 let n:=kC T 1 m.2
 let t:=nJ T 64 (eD T [58] n.2)
 let b:=uB T [61] t.2
 if b.1=true then
  let v:=kH T b.2
  (smD { aF at_ with k:=1,m:=m.1,nm:=n.1,has:=true } { bK with ty:=t.1,va:=v.1 },eD T [59] v.2)
 else (smD { aF at_ with k:=1,m:=m.1,nm:=n.1 } { bK with ty:=t.1 },eD T [59] b.2)
section
variable {N:Nat} {T:List Tok} {P:Nat} {X:List Nat} {st:Int} {hb h:Heap} {R O:Nat} {σ:St}
def fBt (T:List Tok) (P:Nat) (X:List Nat) (hb:Heap) (R O:Nat) (st:Int) (h:Heap) (x:D×St):Prop:=∃ r d,SI T P X hb R O r d h x.2 st/\x.1=smD r d
def tL {r r':SmR} {d:SmT} (e:r.k=r'.k/\r.at_=r'.at_/\r.m=r'.m/\r.nm=r'.nm/\r.has=r'.has):smD r d=smD r' d:=by
 grind [smD]
def nBd (J:Toks T) (hN:100<=N) {at_:Int} (x:SI T P X hb R O (aF at_) bK h σ st):∃ h',f207 N (some (P,0)) (some (O,0)) h=some ((),h')/\fBt T P X hb R O st h' (kAv T at_ σ):=by
 unfold f207;have hO:=x.le;have ⟨h2,e2,c2,y2⟩:=gJ (N:=N) J x.pc (w:=[109,117,116]) (by decide);rw [e2,aA];have x2:=x.step c2 y2;simp only [kAv];generalize (uB T [109,117,116] σ).1=m at *;generalize (uB T [109,117,116] σ).2=K at *;simp only [fA,xC];have ⟨h4,e4,x4,c4⟩:=x2.setK 1;rw [e4,fA];have ⟨h6,e6,x6,c6⟩:=x4.setM m;rw [e6,fA];have ⟨f,p,e8,y8,c8,d8,nm,t,hf,L,dt⟩:=vAl (N:=N) J hN x6.pc;have a5:nm=(kC T 1 K).1:=by
  simp only [tG,fdD,D.t.injEq,List.cons.injEq,D.s.injEq,true_and,and_true] at L;exact L.symm
 rw [e8,aA];have x8:=x6.step c8 y8;have c7:=x6.lt;have e1:=c8.next;have M:=wA p (fdc fd0);have a4:=uA p (.row (fdc fd0) .own);have eA:p.push (.row yZD .own)=p.push (.row (fdc fd0) .own):=rfl;rw [eA,eAz M f,fA];have u:=kB M (fdc f);have cA1:Chg [] p ((p.push (.row (fdc fd0) .own)).put p.next (.row (fdc f) .own)):=a4.put (.inr (xD _)) _;have n1:((p.push (.row (fdc fd0) .own)).put p.next (.row (fdc f) .own)).next=p.next+1:=rfl;generalize (p.push (.row (fdc fd0) .own)).put p.next (.row (fdc f) .own)=I at *;have a6:=x8.step0 cA1;have Z:Dt I (fun C=>O<C) (nJ T 64 (eD T [58] (kC T 1 K).2)).1 (tyc t):=(dt.chg cA1 (by simp)).weak fun C hC _=>by omega
 subst hf;have k1:∀ {H:Heap},H.own p.next (fdc (iU false nm t))->H.cell (p.next,0+1)=some (.str nm):=fun o=>o.cell 1;have k2:∀ {H:Heap},H.own p.next (fdc (iU false nm t))->H.cells (p.next,0+2) 4=some (.agg (tyc t)):=fun o=>o.cells (j:=2) (m:=4) (by show 2+4<=6;omega);rw [k1 u,dA,yA,k2 u,vZ];have S:tyc t=(yRE t):=rfl;have ⟨a1,b4,b7,Q⟩:=a6.setN nm
 try simp only [xC]
 rw [b4,fA];have U:=Z.chg Q (fun C hC=>by simp;omega);have ⟨d7,b0,F,d9⟩:=b7.setT t U;rw [b0,fA];have b1:p.next ∉ [O]:=by simp;omega
 have V:=u.chg Q b1;have q1:I.cell (p.next,1)=some (.str nm):=u.cell 1;have q2:I.cells (p.next,2) 4=some (.agg (yRE t)):=k2 u;have q3:a1.cells (p.next,2) 4=some (.agg (yRE t)):=k2 V;simp only [q3,S,jC,xA,yB];have a7:(tG T K).2=(nJ T 64 (eD T [58] (kC T 1 K).2)).2:=rfl;rw [a7] at F;subst a5;generalize (nJ T 64 (eD T [58] (kC T 1 K).2))=tt at *;have ⟨c9,c5,a2,a9⟩:=qJ (N:=N) J F.pc (w:=[61]) (by decide);rw [c5,aA];have c3:=F.step a2 a9;have ⟨a8,b5,r,d6⟩:=c3.setH (uB T [61] tt.2).1;rw [b5,fA];have a0:a8.cell (O,8)=some (.bool (uB T [61] tt.2).1):=r.oO.cell 8;simp only [a0,dA,aC]
 cases W:(uB T [61] tt.2).1 with
 | true=>
  simp only [xA,xM];have ⟨v,d4,a3,c0,b9,b8⟩:=cAm (N:=N) J hN r.pc;rw [a3,aA];have b3:=r.step b9 c0;have d5:=r.lt;have ⟨d0,b2,Y,d3⟩:=b3.setV v (b8.weak fun C hC _=>by omega);rw [b2,fA];have ⟨b6,y,B,A⟩:=aH (N:=N) J Y.pc (w:=[59]) (by decide);rw [y,aA];exact ⟨_,rfl,_,_,Y.step B A,tL ⟨rfl,rfl,rfl,rfl,by simp only [W]⟩⟩
 | false=>
  simp only [xB,xE,xL];have ⟨b6,y,B,A⟩:=aH (N:=N) J r.pc (w:=[59]) (by decide);rw [y,aA];exact ⟨_,rfl,_,_,r.step B A,tL ⟨rfl,rfl,rfl,rfl,by simp only [W];rfl⟩⟩
end
end Qp
namespace Qp
def uG (T:List Tok) (at_:Int) (σ:St):D×St:=
 let a:=uB T [98,114,101,97,107] σ
 if a.1=true then (smD { aF at_ with k:=8 } bK,a.2) else
 let b:=uB T [99,111,110,116,105,110,117,101] a.2
 if b.1=true then (smD { aF at_ with k:=9 } bK,b.2) else
 let c:=uB T [114,101,116,117,114,110] b.2
 if c.1=true then
  if (uB T [59] c.2).1=true then (smD { aF at_ with k:=10 } bK,c.2)
  else (smD { aF at_ with k:=10,has:=true } { bK with va:=(kH T c.2).1 },(kH T c.2).2)
 else
 let d:=uB T [100,114,111,112] c.2
 if d.1=true then (smD { aF at_ with k:=11 } { bK with pl:=(kI T d.2).1 },(kI T d.2).2) else
 if jH T d.2=true then
  let n:=rK T d.2
  let l:=fA1 T n.2
  (smD { aF at_ with k:=3 } { bK with va:=vaD 6 op0 op0 0 pl0 n.1 [] l.1 },l.2)
 else
  let p:=kI T d.2
  let v:=kH T (eD T [61] p.2)
  (smD { aF at_ with k:=2 } { bK with pl:=p.1,va:=v.1 },v.2)
section
variable {T:List Tok} {P:Nat} {X:List Nat} {st st':Int} {hb h h':Heap} {R O:Nat} {r r':SmR} {d d':SmT} {σ σ':St}
def SI.stepV (x:SI T P X hb R O r d h σ st) (c:Chg [P,O] h h') (y:PC T P (O::R::X) h' σ' st') {v:VaV} (o:h'.own O (smc { r with va:=v })) {w:D} (hd:Dt h' (fun C=>O<C) w (vac v)):SI T P X hb R O { r with va:=v } { d with va:=w } h' σ' st':=by
 have ⟨K,u,J,Q,I,B,H,S,F,p,j⟩:=x;have f:∀ A,O<A->A ∉ [P,O]:=fun C U=>by grind
 exact ⟨y,u.step c (fun A M L=>by grind),J.chg c (by grind),o,I,B.chg c f,H.chg c f,hd,F.chg c f,p.chg c f,j.chg c f⟩
end
def aBw (r:SmR) (k op:Int) (a b:OpV) (pl:LfV) (nm:Bs) (v w:SL):(smc { r with va:=nE k a b op pl nm v w })[11+14]? = some (SL.av w):=by simp [smc,smx,smv,nE,SL.av]
def bBw (r:SmR) (k op:Int) (a b:OpV) (pl:LfV) (nm:Bs) (v w w':SL):(smc { r with va:=nE k a b op pl nm v w }).set (11+14) (SL.av w')=smc { r with va:=nE k a b op pl nm v w' }:=by simp [smc,smx,smv,nE,SL.av]
section
variable {N:Nat} {T:List Tok} {P:Nat} {X:List Nat} {st:Int} {hb h:Heap} {R O:Nat} {σ:St}
def oBd (j:Toks T) (Q:100<=N) {at_:Int} (x:SI T P X hb R O (aF at_) bK h σ st):∃ h',f209 N (some (P,0)) (some (O,0)) h=some ((),h')/\fBt T P X hb R O st h' (uG T at_ σ):=by
 unfold f209;have hO:=x.le;have ⟨h2,e2,c2,y2⟩:=gJ (N:=N) j x.pc (w:=[98,114,101,97,107]) (by decide);rw [e2,aA];have x2:=x.step c2 y2;simp only [uG]
 cases k6:(uB T [98,114,101,97,107] σ).1 with
 | true=>
  simp only [xA,xM,fA,xC];have ⟨h4,e4,x4,c4⟩:=x2.setK 8;rw [e4,fA];exact ⟨_,rfl,_,_,x4,tL ⟨rfl,rfl,rfl,rfl,rfl⟩⟩
 | false=>
 simp only [xB,xE,xL];generalize (uB T [98,114,101,97,107] σ).2=U at *;have ⟨h6,e6,c6,y6⟩:=gJ (N:=N) j x2.pc (w:=[99,111,110,116,105,110,117,101]) (by decide);rw [e6,aA];have x6:=x2.step c6 y6
 cases i8:(uB T [99,111,110,116,105,110,117,101] U).1 with
 | true=>
  simp only [xA,xM,fA,xC];have ⟨h8,e8,x8,c8⟩:=x6.setK 9;rw [e8,fA];exact ⟨_,rfl,_,_,x8,tL ⟨rfl,rfl,rfl,rfl,rfl⟩⟩
 | false=>
 simp only [xB,xE,xL];generalize (uB T [99,111,110,116,105,110,117,101] U).2=K at *;have ⟨l3,b9,g7,f4⟩:=gJ (N:=N) j x6.pc (w:=[114,101,116,117,114,110]) (by decide);rw [b9,aA];have B:=x6.step g7 f4
 cases i7:(uB T [114,101,116,117,114,110] K).1 with
 | true=>
  simp only [xA,xM,fA,xC];have ⟨k1,g8,V,j5⟩:=B.setK 10;rw [g8,fA];have ⟨i6,e5,b7⟩:=bAm (N:=N) j V.pc (w:=[59]) (by decide);rw [e5,aA];have f5:=V.step0 b7;generalize (uB T [114,101,116,117,114,110] K).2=r at *;have ⟨e7,d0,f,k9⟩:=f5.setH (!(uB T [59] r).1);rw [d0,fA];have c5:e7.cell (O,8)=some (.bool (!(uB T [59] r).1)):=f.oO.cell 8;simp only [c5,dA,aC]
  cases F:(uB T [59] r).1 with
  | true=>
   rw [F] at f;simp only [xV,xB,xM];exact ⟨_,rfl,_,_,f,tL ⟨rfl,rfl,rfl,rfl,rfl⟩⟩
  | false=>
   rw [F] at f;simp only [Bool.not_false,xA,xE,xL];have ⟨v,j6,a4,g2,f9,f7⟩:=cAm (N:=N) j Q f.pc;rw [a4,aA];have e1:=f.step f9 g2;have H:=f.lt;have ⟨j3,d7,h5,j4⟩:=e1.setV v (f7.weak fun C L _=>by omega);rw [d7,fA];exact ⟨_,rfl,_,_,h5,tL ⟨rfl,rfl,rfl,rfl,rfl⟩⟩
 | false=>
 simp only [xB,xE,xL];generalize (uB T [114,101,116,117,114,110] K).2=r at *;have ⟨i5,a5,c7,g9⟩:=gJ (N:=N) j B.pc (w:=[100,114,111,112]) (by decide);rw [a5,aA];have u:=B.step c7 g9
 cases F:(uB T [100,114,111,112] r).1 with
 | true=>
  simp only [xA,xM,fA,xC];have ⟨p,j8,d3,b8,g3,a2⟩:=iA5 (N:=N) j Q u.pc;rw [d3,aA];have g4:=u.step g3 b8;have H:=u.lt;have ⟨k0,a7,d4,f6⟩:=g4.setK 11;rw [a7,fA];have ⟨l2,b3,d5,j2⟩:=d4.setP p ((a2.weak (W:=fun C=>O<C) fun C L _=>by omega).chg f6 (fun C L=>by grind));rw [b3,fA];exact ⟨_,rfl,_,_,d5,tL ⟨rfl,rfl,rfl,rfl,rfl⟩⟩
 | false=>
 simp only [xB,xE,xL];generalize (uB T [100,114,111,112] r).2=J at *;have ⟨j0,Z,b1⟩:=jAz (N:=N) j u.pc;rw [Z,aA];have y:=u.step0 b1
 cases k7:jH T J with
 | true=>
  simp only [xA,xM,fA,xC];have ⟨k4,b4,c9,d8⟩:=wB8 (N:=N) j y.pc;rw [b4,aA];have c0:=y.step c9 d8;have ⟨Y,i3,f8,j7⟩:=c0.setK 3;rw [i3,fA];generalize (rK T J).1=nm at *;generalize (rK T J).2=a8 at *;have ⟨g1,a0,A,k5⟩:=f8.setV (nE 6 fE fE 0 lf0 nm sl0 sl0) (jP (kG _ _) (kG _ _) (uI _ _) (Sl.nil _ _ _) (Sl.nil _ _ _):Dt Y _ (vaD 6 op0 op0 0 pl0 nm [] []) _);have S:Y.store (O,11) [(yI0 6),(yI0 0),(yI0 0),(.str []),yS0,(yI0 0),(yI0 0),(.str []),yS0,(yI0 0),(.str []),yS0,(.str nm),yS0,yS0]=some g1:=a0;rw [S,fA];have ⟨v,l0,b5,h1,g0,b2,a6⟩:=mAz (N:=N) (off:=11) (row:=fun v=>smc { aF at_ with k:=3,va:=nE 6 fE fE 0 lf0 nm sl0 v }) j Q A.pc (O:=O) (by omega) (by simp) (fun v=>aBw { aF at_ with k:=3 } 6 0 fE fE lf0 nm sl0 v) (fun v v'=>bBw { aF at_ with k:=3 } 6 0 fE fE lf0 nm sl0 v v') A.oO;rw [b5,aA];have H:=A.lt;exact ⟨_,rfl,_,_,A.stepV g0 h1 (v:=nE 6 fE fE 0 lf0 nm sl0 v) b2 (w:=vaD 6 op0 op0 0 pl0 nm [] (fA1 T a8).1) (jP (kG _ _) (kG _ _) (uI _ _) (Sl.nil _ _ _) (a6.weak fun C L _=>by omega)),tL ⟨rfl,rfl,rfl,rfl,rfl⟩⟩
 | false=>
  simp only [xB,xE,xL,fA,xC];have ⟨p,l4,g5,h9,b0,h7⟩:=iA5 (N:=N) j Q y.pc;rw [g5,aA];have d9:=y.step b0 h9;have H:=y.lt;have ⟨j1,a1,f3,d6⟩:=d9.setK 2;rw [a1,fA];have ⟨j9,g6,M,i9⟩:=f3.setP p ((h7.weak (W:=fun C=>O<C) fun C L _=>by omega).chg d6 (fun C L=>by grind));rw [g6,fA];have ⟨k3,c3,f1,b6⟩:=aH (N:=N) j M.pc (w:=[61]) (by decide);rw [c3,aA];have I:=M.step f1 b6;have ⟨v,k8,f0,h3,e3,f2⟩:=cAm (N:=N) j Q I.pc;rw [f0,aA];have a9:=I.step e3 h3;have i4:=I.lt;have ⟨l1,a3,e9,k2⟩:=a9.setV v (f2.weak fun C L _=>by omega);rw [a3,fA];exact ⟨_,rfl,_,_,e9,tL ⟨rfl,rfl,rfl,rfl,rfl⟩⟩
end
end Qp
namespace Qp
section
variable (T:List Tok) (i:Nat) (e:Int×Int)
theorem uL (w:Bs):uB T w (i,some e)=(false,(i,some e)):=by simp [uB]
def rAh (k:Int):kC T k (i,some e)=([],(i,some e)):=rfl
theorem tAh (k:Int):oG T k (i,some e)=(i,some e):=rfl
theorem uK (w:Bs):eD T w (i,some e)=(i,some e):=by simp [eD,uL,tAh]
def qB5 (g:Nat):nJ T g (i,some e)=(ty0D,(i,some e)):=by cases g <;> rfl
def uAh (g:Nat):jL T g (i,some e)=([],(i,some e)):=by cases g <;> simp [jL,uL]
def mA9:kI T (i,some e)=(pl0,(i,some e)):=by simp [kI,rAh,uAh,pl0]
def oAz:(gF T (i,some e)).2=(i,some e):=by
 simp only [gF,uL,xE,xL]
 by_cases h:(tk T i).1=4
 ·rw [if_pos h];simp [rAh]
 ·rw [if_neg h];simp [mA9]
def pAz:∀ (l:List Bs) (k:Int),opS T l k (i,some e)=(none,(i,some e))
 | [],_=>rfl
 | s::r,k=>by simp only [opS,uL,xE,xL];exact pAz r _
def nA9:jH T (i,some e)=false:=by simp [jH,uE]
def dAm (w:Bs):uE T w (i,some e)=false:=by simp [uE]
def pA9:(kH T (i,some e)).2=(i,some e):=by
 simp only [kH,uL,xE,xL,nA9,dAm,Bool.or_false,oAz,pAz]
theorem qA9 (a:Int):(uG T a (i,some e)).2=(i,some e):=by
 simp only [uG,uL,xE,xL,nA9,mA9,uK,pA9]
end
def dS {σ:St} (h:σ.2.isSome=true):∃ i e,σ=(i,some e):=by
 have ⟨i,e⟩:=σ
 cases e with
 | none=>cases h
 | some q=>grind
theorem dAq {T:List Tok} {i:Nat} (h:(tk T i).1=0) (w:Bs):uB T w (i,none)=(false,(i,none)):=by
 grind [isS,uB]
abbrev SC:=St×Nat
def KS (s:SC):Prop:=s.2<=2000\/s.1.2.isSome=true
def KE (T:List Tok) (s:SC):Prop:=KS s\/(s.2<=2001/\(tk T s.1.1).1=0)
theorem KS.err {σ:St} {c:Nat} (h:KS (σ,c)) {f:St} (j:∀ i e,σ=(i,some e)->f=(i,some e)):KS (f,c):=by
 rcases h with h | h
 ·exact .inl h
 ·obtain ⟨i,e,rfl⟩:=dS h
  rw [j i e rfl];exact .inr rfl
def vK (T:List Tok) (blk:SC->List D×SC) (s:SC):D×SC:=
 let at_:Int:=((tk T s.1.1).2.2:Int)
 let a:=uB T [108,101,116] s.1
 if a.1=true then ((kAv T at_ a.2).1,((kAv T at_ a.2).2,s.2)) else
 let b:=uB T [105,102] a.2
 if b.1=true then
  let o:=gF T b.2
  let t:=blk (o.2,s.2)
  let e:=uB T [101,108,115,101] t.2.1
  if e.1=true then
   let f:=blk (e.2,t.2.2)
   (smD { aF at_ with k:=4,has:=true } { bK with co:=o.1,th:=t.1,el:=f.1 },f.2)
  else (smD { aF at_ with k:=4 } { bK with co:=o.1,th:=t.1 },(e.2,t.2.2))
 else
 let c:=uB T [119,104,105,108,101] b.2
 if c.1=true then
  let o:=gF T c.2
  let t:=blk (o.2,s.2)
  (smD { aF at_ with k:=5 } { bK with co:=o.1,th:=t.1 },t.2)
 else
 let d:=uB T [108,111,111,112] c.2
 if d.1=true then
  let t:=blk (d.2,s.2)
  (smD { aF at_ with k:=6 } { bK with th:=t.1 },t.2)
 else
 if (uB T [123] d.2).1=true then
  let t:=blk (d.2,s.2)
  (smD { aF at_ with k:=7 } { bK with th:=t.1 },t.2)
 else
  let x:=uG T at_ d.2
  (x.1,(eD T [59] x.2,s.2))
def dBm (N:Nat) (T:List Tok) (P:Nat) (F:zH3->Int->Heap->yO0 SL) (blk:SC->List D×SC) (deep:Int):Prop:=∀ (X:List Nat) (h:Heap) (σ:St) (c:Nat),PC T P X h σ (c:Int)->KS (σ,c)->∃ v h',F (some (P,0)) deep h=some (v,h')/\PC T P X h' (blk (σ,c)).2.1 ((blk (σ,c)).2.2:Int)/\Chg [P] h h'/\Sl h' (fun C=>h.next<=C) v (blk (σ,c)).1
def kL {β:Type} (r:SmV) (K:SmV->Option β):iA (.val zA) (some (.agg (smx r))) K=K r:=by
 have ⟨X,Y,x3,Z,x5,x6,x7,x8,x9,Q,F,R,h,J,C,j,p,w,B,S,W,H,A,f,V,L,u,U,M,y,O,I,_⟩:=r;simp [smx]
theorem qAz {H:Heap} {A:Nat} {r:SmV} (o:H.own A (smx r)) {β:Type} (K:SmV->Option β):iA (.val zA) (H.cells (A,0) 32) K=K r:=by
 have:H.cells (A,0) 32=some (.agg (smx r)):=o.cells (j:=0) (m:=32) (xD _)
 rw [this,kL]
def cBw {H:Heap} {A:Nat} {r0:SmV} (o:H.own A (smx r0)) (r:SmV) {β:Type} (K:SmV->Heap->Option β) :
  (vA (H.store (A,0) (yRA r)) fun f=>iA (.val zA) (f.cells (A,0) 32) fun h=>K h f)=K r (H.put A (.row (smx r) .own)):=by
 have:H.store (A,0) (yRA r)=some (H.put A (.row (smx r) .own)):=o.store rfl
 grind [fA,qAz,kB]
section
variable {N:Nat} {T:List Tok} {P:Nat} {X:List Nat} {h:Heap} {σ:St}
def KE.opt {c:Nat} (f:KE T (σ,c)) {w:Bs} (h:(uB T w σ).1=true):c<=2000:=by
 have j:=(yF h).2;rcases f with (f | f) | ⟨_,f⟩
 ·exact f
 ·grind
 grind [dAq]
def KS.le {s:SC} (h:s.2<=2000):KS s:=.inl h
def pBd (L:Toks T) (hN:100<=N) {F:zH3->Int->Heap->yO0 SL} {G} {blk:SC->List D×SC} {deep:Nat} (hd:deep<=100) (hB:dBm N T P F blk ((deep+1:Nat):Int)) (hK:∀ s,KS s->KS (blk s).2) {c:Nat} (x:PC T P X h σ (c:Int)) (hk:KE T (σ,c)) :
  ∃ r h',wAp N F G (some (P,0)) (deep:Int) h=some (r,h')/\PC T P X h' (vK T blk (σ,c)).2.1 ((vK T blk (σ,c)).2.2:Int)/\Chg [P] h h'/\Dt h' (fun C=>h.next<=C) (vK T blk (σ,c)).1 (smx r):=by
 unfold wAp;have hP:=x.P_lt;have oR:=wA h (smc (aF 0));have cR:=uA h (.row (smc (aF 0)) .own);have eR:h.push (.row yZA .own)=h.push (.row (smc (aF 0)) .own):=rfl;have nR:(h.push (.row (smc (aF 0)) .own)).next=h.next+1:=rfl;have x1:=x.add cR (A:=h.next) (xD _) (xP _);rw [eR];generalize h.push (.row (smc (aF 0)) .own)=h1 at *;dsimp only;have ⟨h3,e3,c3⟩:=jQ (N:=N) x1.pa;rw [e3,aA];have ⟨f,e5,c5,o5⟩:=rAp h3 (tk T σ.1);rw [e5,fA];have k5:f.cell (h3.next,0+2)=some (yI0 ((tk T σ.1).2.2:Int)):=o5.cell 2;rw [k5];simp only [dA,qB];have Q:=c3.trans c5;have x5:=x1.chg Q;have k0:=oR.chg Q;have n4:=Q.next;simp only [vK];generalize ((tk T σ.1).2.2:Int)=at_ at *;have b6:=wA f (smc (aF 0));have l1:=uA f (.row (smc (aF 0)) .own);have eO:f.push (.row yZA .own)=f.push (.row (smc (aF 0)) .own):=rfl;have b5:(f.push (.row (smc (aF 0)) .own)).store (f.next,0) (smc (aF at_))=some ((f.push (.row (smc (aF 0)) .own)).put f.next (.row (smc (aF at_)) .own)):=b6.store rfl;have I:(f.push (.row (smc (aF 0)) .own)).store (f.next,0) (yI0 0::yI0 at_::([yI0 0,yI0 0,.bool false,.str [],yI0 0,.str [],yS0,yS0,.bool false,.str [],yS0,yI0 0,yI0 0,yI0 0,.str [],yS0,yI0 0,yI0 0,.str [],yS0,yI0 0,.str [],yS0,.str [],yS0,yS0,yI0 0,yI0 0,.str [],yS0,yS0,yS0]).drop 2)=some ((f.push (.row (smc (aF 0)) .own)).put f.next (.row (smc (aF at_)) .own)):=b5;simp only [List.drop_succ_cons,List.drop_zero] at I;rw [eO,I,fA];have oO:=kB b6 (smc (aF at_));have cO:Chg [] f ((f.push (.row (smc (aF 0)) .own)).put f.next (.row (smc (aF at_)) .own)):=l1.put (.inr (xD _)) _;have nO:((f.push (.row (smc (aF 0)) .own)).put f.next (.row (smc (aF at_)) .own)).next=f.next+1:=rfl;have x8:=x5.add cO (A:=f.next) (xD _) (xP _);have g9:=k0.chg cO;have g2:Chg [P] h ((f.push (.row (smc (aF 0)) .own)).put f.next (.row (smc (aF at_)) .own)):=((cR.mono (by simp)).trans (Q.mono (by simp))).trans (cO.mono (by simp));generalize (f.push (.row (smc (aF 0)) .own)).put f.next (.row (smc (aF at_)) .own)=h8 at *;have s8:SI T P X h h.next f.next (aF at_) bK h8 σ (c:Int):=⟨x8,g2,g9,oO,⟨xD _,by omega,hP⟩,gW _ _ _ _,uI _ _,jA5 _ _,kG _ _,Sl.nil _ _ _,Sl.nil _ _ _⟩;have hR:h.next<f.next:=by omega
 generalize f.next=O at *;generalize h.next=R at *;have fin:∀ {J:Heap} {z:D×SC},fBt T P X h R O ((z.2.2:Int)) J (z.1,z.2.1)->∃ r h',
   (iA (.val zA) (J.cells (O,0) 32) fun d3=>vA (J.store (R,0) (yRA d3)) fun b4=>iA (.val zA) (b4.cells (R,0) 32) fun c8=>some (c8,b4))=some (r,h')/\PC T P X h' z.2.1 (z.2.2:Int)/\Chg [P] h h'/\Dt h' (fun C=>R<=C) z.1 (smx r):=by
  rintro J z ⟨r,d,s,e⟩;have n6:=s.le;refine ⟨smv r,J.put R (.row (smx (smv r)) .own),?_,?_,?_,?_⟩
  ·rw [qAz (r:=smv r) s.oO]
   exact cBw s.oR (smv r) (fun x h=>some (x,h))
  ·exact (s.pc.chg1 (s.oR.put _) (by simp)).sub (by grind)
  ·exact s.chg.step (s.oR.put _) (fun A hA hl=>by grind)
  ·show Dt _ _ z.1 _
   rw [show z.1=smD r d from e];exact (s.dt.chg (s.oR.put _) (fun C B=>by grind)).weak fun C B _=>by omega
 have ⟨o3,e6,k2,i5⟩:=gJ (N:=N) L s8.pc (w:=[108,101,116]) (by decide);rw [e6,aA];have S:=s8.step k2 i5
 cases i6:(uB T [108,101,116] σ).1 with
 | true=>
  simp only [xA,xM];have ⟨m8,k7,sm⟩:=nBd (N:=N) L hN S;rw [k7,aA];simp only [aA,fA];exact fin (z:=((kAv T at_ (uB T [108,101,116] σ).2).1,((kAv T at_ (uB T [108,101,116] σ).2).2,c))) sm
 | false=>
 rw [lE i6] at S ⊢;simp only [xB,xE,xL];have ⟨l7,g6,e1,h7⟩:=gJ (N:=N) L S.pc (w:=[105,102]) (by decide);rw [g6,aA];have y:=S.step e1 h7
 cases b1:(uB T [105,102] σ).1 with
 | true=>
  have U:=hk.opt b1;simp only [xA,xM];have ⟨co,m9,e8,f3,g7,c9⟩:=jU (N:=N) L hN y.pc;rw [e8,aA];have h9:=y.step g7 f3;have g0:=y.lt;generalize (gF T (uB T [105,102] σ).2)=o at *
  try simp only [xC]
  have ⟨n2,f5,e9,j2⟩:=h9.setK 4;rw [f5,fA];have ⟨d5,l4,a5,l8⟩:=e9.setC co ((c9.weak (W:=fun C=>O<C) fun C B _=>by omega).chg j2 (fun C B=>by grind));rw [l4,fA,iB (by omega)];have ⟨v,l9,g1,l0,i4,j3⟩:=hB _ d5 _ c a5.pc (KS.le U);rw [g1,aA];have j7:=a5.step i4 l0;have K:=a5.lt;have k4:=hK (o.2,c) (KS.le U);generalize blk (o.2,c)=t at *;have ⟨m5,g4,b3,m3⟩:=j7.setTh v (j3.weak fun C B _=>by omega);rw [g4,fA];have ⟨m4,b9,j4,j8⟩:=gJ (N:=N) L b3.pc (w:=[101,108,115,101]) (by decide);rw [b9,aA];have g3:=b3.step j4 j8;have ⟨a9,c2,j,m6⟩:=g3.setH (uB T [101,108,115,101] t.2.1).1;rw [c2,fA];have e7:a9.cell (O,8)=some (.bool (uB T [101,108,115,101] t.2.1).1):=j.oO.cell 8;simp only [e7,dA,aC]
  cases H:(uB T [101,108,115,101] t.2.1).1 with
  | true=>
   rw [H] at j;simp only [xA,xM];have g8:KS ((uB T [101,108,115,101] t.2.1).2,t.2.2):=KS.err (σ:=t.2.1) k4 (fun i e h=>by rw [h];rfl);have ⟨v2,m7,c4,l2,j1,f2⟩:=hB _ a9 _ t.2.2 j.pc g8;rw [c4,aA];have i7:=j.step j1 l2;have l6:=j.lt;have ⟨m2,k6,l5,n5⟩:=i7.setEl v2 (f2.weak fun C B _=>by omega);rw [k6,fA];simp only [aA,fA];exact fin (z:=(smD { aF at_ with k:=4,has:=true } { bK with co:=o.1,th:=t.1,el:=(blk ((uB T [101,108,115,101] t.2.1).2,t.2.2)).1 },(blk ((uB T [101,108,115,101] t.2.1).2,t.2.2)).2)) ⟨_,_,l5,tL ⟨rfl,rfl,rfl,rfl,rfl⟩⟩
  | false=>
   rw [H] at j;simp only [xB,xE,xL];simp only [aA,fA];exact fin (z:=(smD { aF at_ with k:=4 } { bK with co:=o.1,th:=t.1 },((uB T [101,108,115,101] t.2.1).2,t.2.2))) ⟨_,_,j,tL ⟨rfl,rfl,rfl,rfl,rfl⟩⟩
 | false=>
 rw [lE b1] at y ⊢;simp only [xB,xE,xL];have ⟨o0,k8,f1,k3⟩:=gJ (N:=N) L y.pc (w:=[119,104,105,108,101]) (by decide);rw [k8,aA];have u:=y.step f1 k3
 cases H:(uB T [119,104,105,108,101] σ).1 with
 | true=>
  have U:=hk.opt H;simp only [xA,xM];have ⟨co,n7,d6,f6,l3,d0⟩:=jU (N:=N) L hN u.pc;rw [d6,aA];have i9:=u.step l3 f6;have g0:=u.lt;generalize (gF T (uB T [119,104,105,108,101] σ).2)=o at *
  try simp only [xC]
  have ⟨n3,d7,f9,f4⟩:=i9.setK 5;rw [d7,fA];have ⟨c0,j9,a7,n0⟩:=f9.setC co ((d0.weak (W:=fun C=>O<C) fun C B _=>by omega).chg f4 (fun C B=>by grind));rw [j9,fA,iB (by omega)];have ⟨v,n8,b7,f8,i3,h6⟩:=hB _ c0 _ c a7.pc (KS.le U);rw [b7,aA];have d4:=a7.step i3 f8;have K:=a7.lt;have ⟨n1,e2,e4,n9⟩:=d4.setTh v (h6.weak fun C B _=>by omega);rw [e2,fA];simp only [aA,fA];exact fin (z:=(smD { aF at_ with k:=5 } { bK with co:=o.1,th:=(blk (o.2,c)).1 },(blk (o.2,c)).2)) ⟨_,_,e4,tL ⟨rfl,rfl,rfl,rfl,rfl⟩⟩
 | false=>
 rw [lE H] at u ⊢;simp only [xB,xE,xL];have ⟨k1,d8,j5,k9⟩:=gJ (N:=N) L u.pc (w:=[108,111,111,112]) (by decide);rw [d8,aA];have p:=u.step j5 k9
 cases b2:(uB T [108,111,111,112] σ).1 with
 | true=>
  have U:=hk.opt b2;simp only [xA,xM,xC];rw [iB (by omega)];have ⟨v,f7,Z,a8,a3,a2⟩:=hB _ k1 _ c p.pc (KS.le U);rw [Z,aA];have a6:=p.step a3 a8;have K:=p.lt;have ⟨d9,V,Y,a4⟩:=a6.setK 6;rw [V,fA];have ⟨b8,a0,a1,h4⟩:=Y.setTh v ((a2.weak (W:=fun C=>O<C) fun C B _=>by omega).chg a4 (fun C B=>by grind));rw [a0,fA];simp only [aA,fA];exact fin (z:=(smD { aF at_ with k:=6 } { bK with th:=(blk ((uB T [108,111,111,112] σ).2,c)).1 },(blk ((uB T [108,111,111,112] σ).2,c)).2)) ⟨_,_,a1,tL ⟨rfl,rfl,rfl,rfl,rfl⟩⟩
 | false=>
 rw [lE b2] at p ⊢;simp only [xB,xE,xL];have ⟨f0,h2,j6⟩:=bAm (N:=N) L p.pc (w:=[123]) (by decide);rw [h2,aA];have M:=p.step0 j6
 cases j0:(uB T [123] σ).1 with
 | true=>
  have U:=hk.opt j0;simp only [xA,xM,xC];rw [iB (by omega)];have ⟨v,f7,Z,a8,a3,a2⟩:=hB _ f0 _ c M.pc (KS.le U);rw [Z,aA];have a6:=M.step a3 a8;have K:=M.lt;have ⟨d9,V,Y,a4⟩:=a6.setK 7;rw [V,fA];have ⟨b8,a0,a1,h4⟩:=Y.setTh v ((a2.weak (W:=fun C=>O<C) fun C B _=>by omega).chg a4 (fun C B=>by grind));rw [a0,fA];simp only [aA,fA];exact fin (z:=(smD { aF at_ with k:=7 } { bK with th:=(blk (σ,c)).1 },(blk (σ,c)).2)) ⟨_,_,a1,tL ⟨rfl,rfl,rfl,rfl,rfl⟩⟩
 | false=>
  simp only [xB,xE,xL];have ⟨m1,c7,r,d,b0,hs⟩:=oBd (N:=N) L hN M;rw [c7,aA];have ⟨m0,g5,c6,i8⟩:=aH (N:=N) L b0.pc (w:=[59]) (by decide);rw [g5,aA];simp only [aA,fA];exact fin (z:=((uG T at_ σ).1,(eD T [59] (uG T at_ σ).2,c))) ⟨r,d,b0.step c6 i8,hs⟩
end
end Qp
namespace Qp
def bF (T:List Tok) (one:SC->D×SC):Nat->SC->(List D×Bool)×SC
 | 0,s=>(([],false),s)
 | f+1,s=>
  if s.1.2.isSome=true then (([],false),s) else
  let b:=uB T [125] s.1
  if b.1=true then (([],false),(b.2,s.2)) else
  if s.2=2000/\(tk T s.1.1).1≠0 then (([],true),(oG T 5 s.1,s.2)) else
  let x:=one (s.1,s.2+1)
  ((x.1::(bF T one f x.2).1.1,(bF T one f x.2).1.2),(bF T one f x.2).2)
def aG (T:List Tok):Nat->SC->List D×SC
 | 0,s=>([],(oG T 6 s.1,s.2))
 | g+1,s=>
  let r:=bF T (vK T (aG T g)) 2001 (eD T [123] s.1,s.2)
  (if r.1.2=true then [] else r.1.1,r.2)
section
variable {T:List Tok}
def vAt {i:Nat} (h:(tk T i).1=0) (a:Int):(uG T a (i,none)).2.2.isSome=true:=by
 have f:jH T (i,none)=false:=by simp [jH,uE,h]
 have j:kC T 1 (i,none)=([],(i,some (21,((tk T i).2.2:Int)))):=by simp [kC,oG,h]
 simp only [uG,dAq h,xE,xL,f,kI,j,uAh,uK,pA9,Option.isSome_some]
theorem wAt {σ f:St} (h:σ.2.isSome=true) (j:∀ i e,σ=(i,some e)->f=(i,some e)):f.2.isSome=true:=by
 obtain ⟨i,e,rfl⟩:=dS h
 grind
def rAz {blk:SC->List D×SC} (r:∀ s,KS s->KS (blk s).2/\s.2<=(blk s).2.2) {σ:St} {c:Nat} (f:KE T (σ,c)):KS (vK T blk (σ,c)).2/\c<=(vK T blk (σ,c)).2.2:=by
 simp only [vK]
 cases u:(uB T [108,101,116] σ).1 with
 | true=>
  simp only [xM];exact ⟨.inl (f.opt u),xD _⟩
 | false=>
 rw [lE u];simp only [xE,xL]
 cases p:(uB T [105,102] σ).1 with
 | true=>
  have A:=f.opt p;simp only [xM];have C:=r ((gF T (uB T [105,102] σ).2).2,c) (.inl A);generalize blk ((gF T (uB T [105,102] σ).2).2,c)=t at *
  cases j:(uB T [101,108,115,101] t.2.1).1 with
  | true=>
   simp only [xM];have F:=r ((uB T [101,108,115,101] t.2.1).2,t.2.2) (KS.err (σ:=t.2.1) C.1 (fun i e h=>by rw [h,uL]))
   grind
  | false=>
   simp only [xE,xL]
   grind [KS.err,uL]
 | false=>
 rw [lE p];simp only [xE,xL]
 cases j:(uB T [119,104,105,108,101] σ).1 with
 | true=>
  simp only [xM];exact r _ (.inl (f.opt j))
 | false=>
 rw [lE j];simp only [xE,xL]
 cases w:(uB T [108,111,111,112] σ).1 with
 | true=>
  simp only [xM];exact r _ (.inl (f.opt w))
 | false=>
 rw [lE w];simp only [xE,xL]
 cases y:(uB T [123] σ).1 with
 | true=>
  simp only [xM];exact r _ (.inl (f.opt y))
 | false=>
  simp only [xE,xL];refine ⟨?_,xD _⟩;rcases f with (f | f) | ⟨f,B⟩
  ·exact .inl f
  ·obtain ⟨i,e,rfl⟩:=dS f
   refine .inr ?_
   grind [eD,uG,qA9,uK]
  ·have ⟨i,e⟩:=σ
   refine .inr ?_;show (eD T [59] (uG T _ (i,e)).2).2.isSome=true
   have:(uG T ((tk T i).2.2:Int) (i,e)).2.2.isSome=true:=by
    cases e with
    | some e=>rw [qA9];rfl
    | none=>exact vAt B _
   grind [wAt,eD,uG,tk,uK]
def eAq {one:SC->D×SC} (p:∀ s,KE T s->KS (one s).2/\s.2<=(one s).2.2):∀ (f:Nat) (s:SC),KS s->KS (bF T one f s).2/\s.2<=(bF T one f s).2.2
 | 0,s,h=>⟨h,xD _⟩
 | f+1,(σ,c),h=>by
  simp only [bF]
  cases u:σ.2.isSome with
  | true=>grind
  | false=>
  simp only [xE,xL];have j:c<=2000:=by
   rcases h with h | h
   ·exact h
   grind
  cases w:(uB T [125] σ).1 with
  | true=>simp only [xM];exact ⟨.inl j,xD _⟩
  | false=>
  simp only [xE,xL]
  by_cases q:c=2000/\(tk T σ.1).1≠0
  ·rw [if_pos q];exact ⟨.inl j,xD _⟩
  ·rw [if_neg q]
   have r:=p (σ,c+1) (by
    by_cases y:c=2000
    ·refine .inr ⟨by omega,?_⟩
     grind
    ·exact .inl (.inl (by omega)))
   have A:=eAq p f (one (σ,c+1)).2 r.1
   grind
def gA2:∀ (g:Nat) (s:SC),KS s->KS (aG T g s).2/\s.2<=(aG T g s).2.2
 | 0,(σ,c),f=>⟨KS.err f (fun i e h=>by
   grind [oG,tAh]),xD _⟩
 | g+1,(σ,c),f=>by
  simp only [aG]
  have:=eAq (T:=T) (one:=vK T (aG T g)) (fun s j=>rAz (gA2 g) (σ:=s.1) (c:=s.2) j) 2001 (eD T [123] σ,c) (KS.err f (fun i e h=>by rw [h,uK]))
  omega
end
def eBm:AppN E 42 106 32 10000:=AppN.of (by kernel_rfl)
section
variable {N:Nat} {T:List Tok} {P:Nat} {X:List Nat} {h:Heap} {σ:St} {st:Int}
def PC.setSt (x:PC T P X h σ st) (f:Int):∃ h',h.store (P,2) [yI0 f]=some h'/\Chg [P] h h'/\PC T P X h' σ f:=by
 have ⟨⟨⟨s,v,p,F,y,w⟩,C,u⟩,B,p4⟩:=x;have c:=p.put [SL.av s,yI0 (σ.1:Int),yI0 f,v];have H:=p.2;refine ⟨_,p.store1 (j:=2) (by grind) _,c,⟨⟨s,v,kB p _,F.chg c (fun A r=>by grind),y,w.chg c (fun A r=>.inl (by grind))⟩,C,fun A r=>u A r⟩,pQ c (by grind) (by omega) B,p4⟩
def PC.readSt (x:PC T P X h σ st):h.cell (P,2)=some (yI0 st):=by
 obtain ⟨⟨⟨s,v,f,_⟩,_⟩,_⟩:=x;exact f.cell 2
def fBm (T:List Tok) (P:Nat) (G:zH3->Int->Heap->yO0 SmV) (one:SC->D×SC) (deep:Int):Prop:=∀ (X:List Nat) (h:Heap) (σ:St) (c:Nat),PC T P X h σ (c:Int)->KE T (σ,c)->∃ r h',G (some (P,0)) deep h=some (r,h')/\PC T P X h' (one (σ,c)).2.1 ((one (σ,c)).2.2:Int)/\Chg [P] h h'/\Dt h' (fun C=>h.next<=C) (one (σ,c)).1 (smx r)
def yAt (hT:Toks T) {F} {G:zH3->Int->Heap->yO0 SmV} {one:SC->D×SC} {deep:Int} (hG:fBm T P G one deep) (hO:∀ s,KE T s->KS (one s).2/\s.2<=(one s).2.2) {h0:Heap} {v4:SL} (d5:P<h0.next):∀ (f M:Nat) (h:Heap) (σ:St) (c:Nat) (v:SL) (xs:List D),f<M->2001<=c+f->xs.length<=c->KS (σ,c)->PC T P X h σ (c:Int)->Chg [P] h0 h->Ow h0.next h v 32 xs->
  ∃ o r h',fA5 N F G M (some (P,0)) deep ⟨none,0,0,0⟩ v h=some (o,r,h')/\PC T P X h' (bF T one f (σ,c)).2.1 ((bF T one f (σ,c)).2.2:Int)/\Chg [P] h0 h'/\
   (((bF T one f (σ,c)).1.2=false/\o=.exit 0/\Ow h0.next h' r.2.1 32 (xs++(bF T one f (σ,c)).1.1))\/((bF T one f (σ,c)).1.2=true/\o=.ret/\r.1=⟨none,0,0,0⟩)):=by
 intro f
 induction f with
 | zero=>
  intro M h σ c v xs hM hc hx H x ch w;obtain ⟨M,rfl⟩:∃ m,M=m+1:=⟨M-1,by omega⟩;rw [mQ];unfold lQ;have ⟨e,k3,hv⟩:=x.pa.readE;have hs:σ.2.isSome=true:=by
   rcases H with H | H
   ·omega
   omega
  have c7:σ.2.isNone=false:=by cases hh:σ.2 <;> simp_all
  simp only [fA,xC,k3,dA,pF,hv.eq 15,aC,c7,xB,bF]
  grind
 | succ f ih=>
  intro M h σ c v xs hM hc hx H x ch w;obtain ⟨M,rfl⟩:∃ m,M=m+1:=⟨M-1,by omega⟩;rw [mQ];unfold lQ;have ⟨e,k3,hv⟩:=x.pa.readE;simp only [fA,xC,k3,dA,pF,hv.eq 15,aC,bF]
  cases hn:σ.2 with
  | some q=>
   simp only [Option.isNone_some,xB,Option.isSome_some,xM]
   grind
  | none=>
  simp only [Option.isNone_none,xA,Option.isSome_none,xE,xL];have d4:c<=2000:=by
   rcases H with H | H
   ·exact H
   grind
  have ⟨p,c4,U,u⟩:=qJ (N:=N) hT x (w:=[125]) (by decide);rw [c4,aA];have b1:=w.chg U (by grind);have a4:=ch.trans U
  cases hb:(uB T [125] σ).1 with
  | true=>
   simp only [xV,xB,xM]
   grind
  | false=>
  rw [lE hb] at u;simp only [Bool.not_false,xA,xE,xL,u.readSt,dA,qB,eqI];have K:∃ J,(bif decide ((c:Int)=2000) then
    (jA (f56 N (some (P,0)) p) fun (b9:zB1) L=>
    let c3:Bool:=!decide (b9.1=0)
    some ((some (P,0),deep,(⟨none,0,0,0⟩:SL),v,c3,()),L))
    else
    some ((some (P,0),deep,(⟨none,0,0,0⟩:SL),v,false,()),p))=some ((some (P,0),deep,(⟨none,0,0,0⟩:SL),v,decide (c=2000/\(tk T σ.1).1≠0),()),J)/\Chg [] p J:=by
   by_cases q:c=2000
   ·have ⟨L,c8,a5⟩:=jQ (N:=N) u.pa
    have q':((c:Int)=2000):=by omega
    simp only [q',xO,xA];rw [c8,aA];refine ⟨L,?_,a5⟩;simp only [fAt,q,true_and]
    by_cases q2:(tk T σ.1).1=0
    ·grind
    grind
   ·have q':¬ ((c:Int)=2000):=by omega
    simp only [q',xQ,xB,q,false_and];exact ⟨p,rfl,Chg.refl _ _⟩
  have ⟨J,b2,O⟩:=K;rw [b2,aA];have Q:=u.chg O;have b5:=b1.chg O;have B:=a4.trans (O.mono (N:=[P]) (by simp))
  by_cases q:c=2000/\(tk T σ.1).1≠0
  ·simp only [q,xO,xA,xM,ne_eq,not_false_eq_true,and_self]
   have ⟨b3,b6,a7,c0⟩:=aAq (N:=N) Q (c:=5) (by decide);rw [b6,aA];have q1:=q.1;subst q1;exact ⟨_,_,b3,rfl,c0,B.trans a7,.inr ⟨trivial,rfl,rfl⟩⟩
  ·rw [if_neg q]
   simp only [q,xQ,xB,fA,xC,Q.readSt,dA,qB];rw [iB (by omega)];have ⟨Z,a6,a1,a2⟩:=Q.setSt ((c+1:Nat):Int);rw [a6,fA];have V:=b5.chg a1 (by grind);have I:=B.trans a1;have b7:∀ A∈v.blk.toList,h0.next<=A/\A<Z.next:=fun A j=>V.ge A (by grind);have ⟨i,er⟩:=σ;simp only at hn;subst hn;have S:KE T ((i,none),c+1):=by
    by_cases q1:c=2000
    ·refine .inr ⟨by omega,?_⟩
     grind
    ·exact .inl (.inl (by omega))
   have ⟨r,d3,c2,b4,a0,b8⟩:=hG (v.blk.toList++X) Z (i,none) (c+1) (a2.free fun A j=>by
    rcases List.mem_append.1 j with j | j
    ·grind
    ·exact a2.pa.xl A j) S
   rw [c2,aA];have a9:=hO ((i,none),c+1) S;have b0:=V.chg a0 (by grind);have y:=I.trans a0;have c9:=I.next;have ⟨v',a8,eK,c5,R,d0⟩:=cAz eBm (by decide) y b0 (b8.weak (W:=fun C=>h0.next<=C/\v.blk≠some C) fun C hC _=>⟨by omega,fun e=>by have:=b7 C (by grind);omega⟩) rfl (by
    omega)
   have c6:=(b4.chgM R (fun A j=>List.mem_append_left _ j)).sub (X':=X) (fun A j=>xg _ j);have a3:=y.step R (fun A j hl=>by grind);generalize one ((i,none),c+1)=z at *
   have:=ih M a8 z.2.1 z.2.2 v' (xs++[z.1]) (by omega) (by omega) (by grind) a9.1 c6 a3 c5
   rw [xY] at this;have ⟨o,rr,h',e',x',c',Y⟩:=this;exact ⟨o,rr,h',(eK _).trans e',x',c',Y⟩
end
end Qp
namespace Qp
def tQ (T:List Tok) (k:Int) (σ:St):(oG T k σ).2.isSome=true:=by
 have ⟨i,e⟩:=σ;cases e <;> rfl
def rB5 {T:List Tok} {w:Bs} {σ:St} (h:σ.2.isSome=true):eD T w σ=σ:=by
 obtain ⟨i,e,rfl⟩:=dS h
 grind [uK]
section
variable {N:Nat} {T:List Tok} {P:Nat} {X:List Nat} {h:Heap} {σ:St} {st:Int}
def tB5 (I:Toks T) (hN:3000<=N):∀ (g M:Nat),g<=64->2 * g+1<=M->dBm N T P (f158 N M) (aG T g) ((65-g:Nat):Int):=by
 intro g
 induction g with
 | zero=>
  intro M hg hM X h σ c x H;obtain ⟨M,rfl⟩:∃ m,M=m+1:=⟨M-1,by omega⟩;rw [oAh];unfold vAp;simp only [show ltInt 64 ((65-0:Nat):Int)=true from rfl,xA];have ⟨h3,e3,c3,x3⟩:=aAq (N:=N) x (c:=6) (by decide);rw [e3,aA,aA];dsimp only;have ⟨f,K,B,j⟩:=aH (N:=N) I x3 (w:=[123]) (by decide);rw [K,aA];have y:=tQ T 6 σ;rw [rB5 y] at j;obtain ⟨n,W⟩:∃ n,N=n+1:=⟨N-1,by omega⟩;have V:∀ (F G) (M:Nat),fA5 N F G (M+1) (some (P,0)) ((65-0:Nat):Int) ⟨none,0,0,0⟩ ⟨none,0,0,0⟩ f=some (.exit 0,(⟨none,0,0,0⟩,⟨none,0,0,0⟩,()),f):=by
   intro F G M;rw [mQ];unfold lQ;have ⟨e,Z,hv⟩:=j.pa.readE;have Q:(oG T 6 σ).2.isNone=false:=by cases hh:(oG T 6 σ).2 <;> simp_all
   simp only [fA,xC,Z,dA,pF,hv.eq 15,aC,Q,xB]
  have u:=V (f158 N M) (f190 N M) n;rw [<- W] at u;rw [u];simp only [mB];exact ⟨sl0,f,rfl,j,c3.trans B,Sl.nil _ _ _⟩
 | succ g Y=>
  intro M hg hM X h σ c x H;obtain ⟨M,rfl⟩:∃ m,M=m+2:=⟨M-2,by omega⟩;rw [oAh];unfold vAp;have L:ltInt 64 ((65-(g+1):Nat):Int)=false:=by grind [ltI,decide_eq_false]
  simp only [L,xB,aA];have ⟨f,K,B,j⟩:=aH (N:=N) I x (w:=[123]) (by decide);rw [K,aA];have U:=Y M (by omega) (by omega);have hd:65-g=(65-(g+1))+1:=by omega
  rw [hd] at U;have A:fBm T P (f190 N (M+1)) (vK T (aG T g)) ((65-(g+1):Nat):Int):=by
   intro X h σ c x H;rw [aAz];exact pBd I (by omega) (by omega) U (fun s y=>(gA2 g s y).1) x H
  have J:KS (eD T [123] σ,c):=H.err (fun i e h=>by rw [h,uK]);have ⟨o,r,h',e',S,R,p⟩:=yAt (N:=N) I (F:=f158 N (M+1)) A (fun s y=>rAz (gA2 g) (σ:=s.1) (c:=s.2) y) (h0:=f) (v4:=sl0) j.P_lt 2001 N f _ c sl0 [] (by omega) (by omega) (by simp) J j (Chg.refl _ _) (Ow.nil _ _ _ _);rw [e'];simp only [mB,aG];have a0:=B.next;rcases p with ⟨O,rfl,w⟩ | ⟨O,rfl,e2⟩
  ·rw [O]
   rw [List.nil_append] at w;exact ⟨_,h',rfl,S,B.trans R,w.sl.weak fun C hC _=>by omega⟩
  ·rw [O]
   exact ⟨_,h',rfl,S,B.trans R,by grind [Sl.nil]⟩
end
structure FuR where
 pub:Bool
 nm:Bs
 lv:SL
 ps:SL
 ty:TyV
 bd:SL
 at_:Int
structure FuT where
 lv:List D
 ps:List D
 ty:D
 bd:List D
abbrev FuV:=Bool×zO3×SL×SL×Int×zO3×SL×SL×SL×Int×Unit
def fux (x:FuV):List AV:=[.bool x.1,.str x.2.1,.slice x.2.2.1.a x.2.2.1.len x.2.2.1.cap x.2.2.1.sz,.slice x.2.2.2.1.a x.2.2.2.1.len x.2.2.2.1.cap x.2.2.2.1.sz,yI0 x.2.2.2.2.1,.str x.2.2.2.2.2.1,.slice x.2.2.2.2.2.2.1.a x.2.2.2.2.2.2.1.len x.2.2.2.2.2.2.1.cap x.2.2.2.2.2.2.1.sz,.slice x.2.2.2.2.2.2.2.1.a x.2.2.2.2.2.2.2.1.len x.2.2.2.2.2.2.2.1.cap x.2.2.2.2.2.2.2.1.sz,.slice x.2.2.2.2.2.2.2.2.1.a x.2.2.2.2.2.2.2.2.1.len x.2.2.2.2.2.2.2.2.1.cap x.2.2.2.2.2.2.2.2.1.sz,yI0 x.2.2.2.2.2.2.2.2.2.1]
def fuv (r:FuR):FuV:=(r.pub,r.nm,r.lv,r.ps,r.ty.1,r.ty.2.1,r.ty.2.2.1,r.ty.2.2.2.1,r.bd,r.at_,())
def fuc (r:FuR):List AV:=fux (fuv r)
def fuD (r:FuR) (d:FuT):D:=.t [.b r.pub,.s r.nm,.l d.lv,.l d.ps,d.ty,.l d.bd,.i r.at_]
def vI (pub:Bool) (nm:Bs) (at_:Int):FuR:=⟨pub,nm,sl0,sl0,jAv,sl0,at_⟩
def yBh:FuT:=⟨[],[],ty0D,[]⟩
def gBm {β:Type} (r:FuV) (K:FuV->Option β):iA (.val zE) (some (.agg (fux r))) K=K r:=by
 have ⟨p,w,C,B,y,h,u,A,j,f,_⟩:=r;simp [fux]
theorem fAq {H:Heap} {A:Nat} {r:FuV} (o:H.own A (fux r)) {β:Type} (K:FuV->Option β):iA (.val zE) (H.cells (A,0) 10) K=K r:=by
 have:H.cells (A,0) 10=some (.agg (fux r)):=o.cells (j:=0) (m:=10) (xD _)
 rw [this,gBm]
def dBw {H:Heap} {A:Nat} {r0:FuV} (o:H.own A (fux r0)) (x:FuV) {β:Type} (K:FuV->Heap->Option β) :
  (vA (H.store (A,0) (yRC x)) fun f=>iA (.val zE) (f.cells (A,0) 10) fun h=>K h f)=K x (H.put A (.row (fux x) .own)):=by
 have:H.store (A,0) (fux x)=some (H.put A (.row (fux x) .own)):=o.store rfl
 grind [vA,fux,fA,fAq,kB]
structure FI (T:List Tok) (P:Nat) (X:List Nat) (hb:Heap) (Q R O:Nat) (r:FuR) (d:FuT) (h:Heap) (σ:St) (st:Int):Prop where
 pc:PC T P (O::R::X) h σ st
 chg:Chg [P] hb h
 oQ:h.own Q [.ptr (some (P,0))]
 oR:h.own R (fuc (vI false [] 0))
 oO:h.own O (fuc r)
 le:hb.next<=Q/\Q<R/\R<O/\P<hb.next
 dlv:Sl h (fun C=>O<C) r.lv d.lv
 dps:Sl h (fun C=>O<C) r.ps d.ps
 dty:Dt h (fun C=>O<C) d.ty (tyc r.ty)
 dbd:Sl h (fun C=>O<C) r.bd d.bd
section
variable {T:List Tok} {P:Nat} {X:List Nat} {st st':Int} {hb h h':Heap} {Q R O:Nat} {r r':FuR} {d d':FuT} {σ σ':St}
def FI.dt (x:FI T P X hb Q R O r d h σ st):Dt h (fun C=>O<C) (fuD r d) (fuc r):=
 yB3 (rC (a:=[_]) (aB9 h _ r.pub) (rC (a:=[_]) (tK h _ r.nm) (rC (a:=[_]) (kN.2 x.dlv) (rC (a:=[_]) (kN.2 x.dps) (rC (a:=tyc r.ty) x.dty (rC (a:=[_]) (kN.2 x.dbd) (rC (a:=[_]) (b:=[]) (tAt h _ r.at_) (aA0 h _))))))))
theorem FI.old (x:FI T P X hb Q R O r d h σ st) (c:Chg [P,O] h h'):Chg [P] hb h'/\h'.own Q [.ptr (some (P,0))]/\h'.own R (fuc (vI false [] 0))/\Sl h' (fun C=>O<C) r.lv d.lv/\Sl h' (fun C=>O<C) r.ps d.ps/\Dt h' (fun C=>O<C) d.ty (tyc r.ty)/\Sl h' (fun C=>O<C) r.bd d.bd:=by
 have ⟨J,y,F,B,K,I,u,w,p,j⟩:=x;have f:∀ A,O<A->A ∉ [P,O]:=fun C M=>by grind
 exact ⟨y.step c (fun A H L=>by grind),F.chg c (by grind),B.chg c (by grind),u.chg c f,w.chg c f,p.chg c f,j.chg c f⟩
def FI.step (x:FI T P X hb Q R O r d h σ st) (c:Chg [P] h h') (y:PC T P (O::R::X) h' σ' st'):FI T P X hb Q R O r d h' σ' st':=by
 have u:=x.le;obtain ⟨A,B,C,f,p,j,w⟩:=x.old (c.mono (by simp));exact ⟨y,A,B,C,x.oO.chg c (by grind),x.le,f,p,j,w⟩
def FI.lt (x:FI T P X hb Q R O r d h σ st):O<h.next:=x.oO.2
end
def oJ (T:List Tok) (pub:Bool) (at_:Int) (σ:St):D×SC:=
 let n:=kC T 1 σ
 let a:=uB T [60] n.2
 let l:=if a.1=true then ((qD T (pW T) [44] a.2).1,eD T [62] (qD T (pW T) [44] a.2).2) else ([],a.2)
 let b:=uB T [41] (eD T [40] l.2)
 let p:=if b.1=true then ([],b.2) else ((qD T (jG T) [44] b.2).1,eD T [41] (qD T (jG T) [44] b.2).2)
 let c:=uB T [45,62] p.2
 let t:=if c.1=true then nJ T 64 c.2 else (ty0D,c.2)
 let k:=aG T 64 (t.2,0)
 (fuD (vI pub n.1 at_) ⟨l.1,p.1,t.1,k.1⟩,k.2)
def fu2 (r:FuR) (v:SL):(fuc { r with lv:=v })[2]? = some (SL.av v):=by simp [fuc,fux,fuv,SL.av]
def fs2 (r:FuR) (v f:SL):(fuc { r with lv:=v }).set 2 (SL.av f)=fuc { r with lv:=f }:=by simp [fuc,fux,fuv,SL.av]
def fu3 (r:FuR) (v:SL):(fuc { r with ps:=v })[3]? = some (SL.av v):=by simp [fuc,fux,fuv,SL.av]
def fs3 (r:FuR) (v f:SL):(fuc { r with ps:=v }).set 3 (SL.av f)=fuc { r with ps:=f }:=by simp [fuc,fux,fuv,SL.av]
end Qp
namespace Qp
section
variable {N:Nat} {T:List Tok} {P:Nat} {X:List Nat} {h:Heap} {σ:St} {st:Int}
def qBd (W:Toks T) (hN:3000<=N) (x:PC T P X h σ st) (pub:Bool) (at_:Int):∃ r h',f103 N (some (P,0)) pub at_ h=some (r,h')/\PC T P X h' (oJ T pub at_ σ).2.1 ((oJ T pub at_ σ).2.2:Int)/\Chg [P] h h'/\Dt h' (fun C=>h.next<=C) (oJ T pub at_ σ).1 (fux r):=by
 unfold f103;have b1:100<=N:=by omega
 have hP:=x.P_lt;have oQ:=wA h [AV.ptr (some (P,0))];have cQ:=uA h (.row [AV.ptr (some (P,0))] .own);have nQ:(h.push (.row [AV.ptr (some (P,0))] .own)).next=h.next+1:=rfl;dsimp only;generalize h.push (.row [AV.ptr (some (P,0))] .own)=h1 at *;have oR:=wA h1 (fuc (vI false [] 0));have cR:=uA h1 (.row (fuc (vI false [] 0)) .own);have eR:h1.push (.row [(.bool false),(.str []),(.slice none 0 0 0),(.slice none 0 0 0),(.int .i64 0),(.str []),(.slice none 0 0 0),(.slice none 0 0 0),(.slice none 0 0 0),(.int .i64 0)] .own)=h1.push (.row (fuc (vI false [] 0)) .own):=rfl;have nR:(h1.push (.row (fuc (vI false [] 0)) .own)).next=h1.next+1:=rfl;have x2:=(x.chg cQ).add cR (A:=h1.next) (xD _) (xP _);rw [eR];generalize h1.push (.row (fuc (vI false [] 0)) .own)=h2 at *;have b7:=oQ.chg cR (by simp);have h7:=cQ.trans cR;have r2:h2.cell (h.next,0)=some (.ptr (some (P,0))):=b7.cell 0;simp only [r2,dA,dC,fA,xC];obtain ⟨h5,e5,c5,x5⟩:=x2.setSt 0;rw [e5,fA];have c4:=b7.chg c5 (by grind);have r5:h5.cell (h.next,0)=some (.ptr (some (P,0))):=c4.cell 0;simp only [r5,dA,dC];obtain ⟨p,e8,c8,x8⟩:=nW (N:=N) W x5 (k:=1) (by decide);rw [e8,aA];have b3:=c5.trans c8;have k6:=c4.chg c8 (by grind);have h4:=oR.chg b3 (by grind);have l4:=b3.next;simp only [oJ];generalize (kC T 1 σ).1=nm at *;generalize (kC T 1 σ).2=j at *;have d3:=wA p (fuc (vI false [] 0));have k4:=uA p (.row (fuc (vI false [] 0)) .own);have eO:p.push (.row [(.bool false),(.str []),(.slice none 0 0 0),(.slice none 0 0 0),(.int .i64 0),(.str []),(.slice none 0 0 0),(.slice none 0 0 0),(.slice none 0 0 0),(.int .i64 0)] .own)=p.push (.row (fuc (vI false [] 0)) .own):=rfl;have c7:(p.push (.row (fuc (vI false [] 0)) .own)).store (p.next,0) [(.bool pub),(.str nm),(.slice none 0 0 0),(.slice none 0 0 0),(.int .i64 0),(.str []),(.slice none 0 0 0),(.slice none 0 0 0),(.slice none 0 0 0),(.int .i64 at_)]=some ((p.push (.row (fuc (vI false [] 0)) .own)).put p.next (.row (fuc (vI pub nm at_)) .own)):=d3.store rfl;rw [eO,c7,fA];have oO:=kB d3 (fuc (vI pub nm at_));have cO:Chg [] p ((p.push (.row (fuc (vI false [] 0)) .own)).put p.next (.row (fuc (vI pub nm at_)) .own)):=k4.put (.inr (xD _)) _;have nO:((p.push (.row (fuc (vI false [] 0)) .own)).put p.next (.row (fuc (vI pub nm at_)) .own)).next=p.next+1:=rfl;have e9:=x8.add cO (A:=p.next) (xD _) (xP _);have c6:=k6.chg cO (by simp);have b8:=h4.chg cO (by simp);have b5:Chg [P] h ((p.push (.row (fuc (vI false [] 0)) .own)).put p.next (.row (fuc (vI pub nm at_)) .own)):=((h7.mono (by simp)).trans b3).trans (cO.mono (by simp));generalize (p.push (.row (fuc (vI false [] 0)) .own)).put p.next (.row (fuc (vI pub nm at_)) .own)=d4 at *;have b4:FI T P X h h.next h1.next p.next (vI pub nm at_) yBh d4 j 0:=⟨e9,b5,c6,b8,oO,⟨xD _,by omega,by omega,hP⟩,Sl.nil _ _ _,Sl.nil _ _ _,gW _ _ _ _,Sl.nil _ _ _⟩;generalize k9:h.next=Q at *;generalize h1.next=R at *;generalize p.next=O at *;have k0:d4.cell (Q,0)=some (.ptr (some (P,0))):=b4.oQ.cell 0;simp only [k0,dA,dC];obtain ⟨H,k1,f2,k3⟩:=qJ (N:=N) W b4.pc (w:=[60]) (by decide);rw [k1,aA];have y:=b4.step f2 k3;have j9:H.cell (Q,0)=some (.ptr (some (P,0))):=y.oQ.cell 0;have c2:∃ v a0,(bif (uB T [60] j).1 then
    (iA (.val zI3) (H.cell (Q,0)) fun (i9:zH3)=>
    (jA (iW N i9 [44] ((some (O,0)),(some (Q,0)),()) H) fun (l0:(Unit)) S=>
    (iA (.val zI3) (S.cell (Q,0)) fun (j4:zH3)=>
    (jA (f149 N j4 [62] S) fun (l3:(Unit)) a6=>
    some (((some (Q,0)),(some (R,0)),(some (O,0)),()),a6)))))
    else
    some (((some (Q,0)),(some (R,0)),(some (O,0)),()),H))=some (((some (Q,0)),(some (R,0)),(some (O,0)),()),a0)/\
   FI T P X h Q R O { vI pub nm at_ with lv:=v } { yBh with lv:=(if (uB T [60] j).1=true then ((qD T (pW T) [44] (uB T [60] j).2).1,eD T [62] (qD T (pW T) [44] (uB T [60] j).2).2) else ([],(uB T [60] j).2)).1 } a0 (if (uB T [60] j).1=true then ((qD T (pW T) [44] (uB T [60] j).2).1,eD T [62] (qD T (pW T) [44] (uB T [60] j).2).2) else ([],(uB T [60] j).2)).2 0:=by
  have b0:=y.le
  cases hb:(uB T [60] j).1 with
  | false=>exact ⟨sl0,H,rfl,y⟩
  | true=>
   simp only [xA,xM,j9,dA,dC];have hl:=y.lt;have f:CF P (O::R::X) H O Q 2 2 (fun v=>fuc { vI pub nm at_ with lv:=v }):=⟨by omega,by omega,by simp,fun v=>fu2 _ v,fun v v'=>fs2 _ v v'⟩;obtain ⟨S,f4,ci⟩:=gAz (N:=N) W b1 f ⟨y.pc,Chg.refl _ _,y.oQ,sl0,y.oO,Ow.nil _ _ _ _⟩;rw [f4,aA];obtain ⟨v,c9,j0⟩:=ci.ex;have h9:S.cell (Q,0)=some (.ptr (some (P,0))):=ci.q.cell 0;simp only [h9,dA,dC];obtain ⟨g1,g2,g3,g4,g5,g6,g7⟩:=y.old ci.chg;have c0:FI T P X h Q R O { vI pub nm at_ with lv:=v } { yBh with lv:=(qD T (pW T) [44] (uB T [60] j).2).1 } S (qD T (pW T) [44] (uB T [60] j).2).2 0:=⟨ci.pc,g1,g2,g3,c9,y.le,j0.sl.weak (fun C hC _=>by omega),g5,g6,g7⟩;obtain ⟨a6,j8,d9,i6⟩:=aH (N:=N) W c0.pc (w:=[62]) (by decide);rw [j8,aA];exact ⟨v,a6,rfl,c0.step d9 i6⟩
 obtain ⟨lv,a0,h3,a7⟩:=c2;rw [h3,aA];generalize (if (uB T [60] j).1=true then ((qD T (pW T) [44] (uB T [60] j).2).1,eD T [62] (qD T (pW T) [44] (uB T [60] j).2).2) else ([],(uB T [60] j).2))=u at *;have f6:a0.cell (Q,0)=some (.ptr (some (P,0))):=a7.oQ.cell 0;simp only [fA,f6,dA,dC];obtain ⟨d6,e1,g0,k2⟩:=aH (N:=N) W a7.pc (w:=[40]) (by decide);rw [e1,aA];have a5:=a7.step g0 k2;have f9:d6.cell (Q,0)=some (.ptr (some (P,0))):=a5.oQ.cell 0;simp only [f9,dA,dC];obtain ⟨J,e4,j1,k5⟩:=qJ (N:=N) W a5.pc (w:=[41]) (by decide);rw [e4,aA];have B:=a5.step j1 k5;have f1:J.cell (Q,0)=some (.ptr (some (P,0))):=B.oQ.cell 0;have d0:∃ v a3,(bif !(uB T [41] (eD T [40] u.2)).1 then
    (iA (.val zI3) (J.cell (Q,0)) fun (g8:zH3)=>
    (jA (jW N g8 [44] ((some (Q,0)),(some (O,0)),()) J) fun (l5:(Unit)) U=>
    (iA (.val zI3) (U.cell (Q,0)) fun (g9:zH3)=>
    (jA (f149 N g9 [41] U) fun (l2:(Unit)) b2=>
    some (((some (Q,0)),(some (R,0)),(some (O,0)),()),b2)))))
    else
    some (((some (Q,0)),(some (R,0)),(some (O,0)),()),J))=some (((some (Q,0)),(some (R,0)),(some (O,0)),()),a3)/\
   FI T P X h Q R O { vI pub nm at_ with lv:=lv,ps:=v } { yBh with lv:=u.1,ps:=(if (uB T [41] (eD T [40] u.2)).1=true then ([],(uB T [41] (eD T [40] u.2)).2) else ((qD T (jG T) [44] (uB T [41] (eD T [40] u.2)).2).1,eD T [41] (qD T (jG T) [44] (uB T [41] (eD T [40] u.2)).2).2)).1 } a3 (if (uB T [41] (eD T [40] u.2)).1=true then ([],(uB T [41] (eD T [40] u.2)).2) else ((qD T (jG T) [44] (uB T [41] (eD T [40] u.2)).2).1,eD T [41] (qD T (jG T) [44] (uB T [41] (eD T [40] u.2)).2).2)).2 0:=by
  have b0:=B.le
  cases hb:(uB T [41] (eD T [40] u.2)).1 with
  | true=>exact ⟨sl0,J,rfl,B⟩
  | false=>
   simp only [Bool.not_false,xA,xE,xL,f1,dA,dC];have hl:=B.lt;have f:CF P (O::R::X) J O Q 6 3 (fun v=>fuc { vI pub nm at_ with lv:=lv,ps:=v }):=⟨by omega,by omega,by simp,fun v=>fu3 { vI pub nm at_ with lv:=lv } v,fun v v'=>fs3 { vI pub nm at_ with lv:=lv } v v'⟩;obtain ⟨U,f0,ci⟩:=yAl (N:=N) W b1 f ⟨B.pc,Chg.refl _ _,B.oQ,sl0,B.oO,Ow.nil _ _ _ _⟩;rw [f0,aA];obtain ⟨v,c3,f5⟩:=ci.ex;have i5:U.cell (Q,0)=some (.ptr (some (P,0))):=ci.q.cell 0;simp only [i5,dA,dC];obtain ⟨g1,g2,g3,g4,g5,g6,g7⟩:=B.old ci.chg;have d5:FI T P X h Q R O { vI pub nm at_ with lv:=lv,ps:=v } { yBh with lv:=u.1,ps:=(qD T (jG T) [44] (uB T [41] (eD T [40] u.2)).2).1 } U (qD T (jG T) [44] (uB T [41] (eD T [40] u.2)).2).2 0:=⟨ci.pc,g1,g2,g3,c3,B.le,g4,f5.sl.weak (fun C hC _=>by omega),g6,g7⟩;obtain ⟨b2,f8,i4,d8⟩:=aH (N:=N) W d5.pc (w:=[41]) (by decide);rw [f8,aA];exact ⟨v,b2,rfl,d5.step i4 d8⟩
 obtain ⟨ps,a3,f3,a9⟩:=d0;rw [f3,aA];generalize (if (uB T [41] (eD T [40] u.2)).1=true then ([],(uB T [41] (eD T [40] u.2)).2) else ((qD T (jG T) [44] (uB T [41] (eD T [40] u.2)).2).1,eD T [41] (qD T (jG T) [44] (uB T [41] (eD T [40] u.2)).2).2))=L at *;have e7:a3.cell (Q,0)=some (.ptr (some (P,0))):=a9.oQ.cell 0;simp only [fA,e7,dA,dC];obtain ⟨Z,j6,e6,k7⟩:=qJ (N:=N) W a9.pc (w:=[45,62]) (by decide);rw [j6,aA];have M:=a9.step e6 k7;have f7:Z.cell (Q,0)=some (.ptr (some (P,0))):=M.oQ.cell 0;have b9:∃ v V,(bif (uB T [45,62] L.2).1 then
    (iA (.val zI3) (Z.cell (Q,0)) fun (i8:zH3)=>
    (jA (f55 N N i8 1 Z) fun (a4:zX) a2=>
    (vA (a2.store (O,4) [(.int .i64 a4.1),(.str a4.2.1),(yL a4.2.2.1),(yL a4.2.2.2.1)]) fun h6=>
    some (((some (Q,0)),(some (R,0)),(some (O,0)),()),h6))))
    else
    some (((some (Q,0)),(some (R,0)),(some (O,0)),()),Z))=some (((some (Q,0)),(some (R,0)),(some (O,0)),()),V)/\
   FI T P X h Q R O { vI pub nm at_ with lv:=lv,ps:=ps,ty:=v } { yBh with lv:=u.1,ps:=L.1,ty:=(if (uB T [45,62] L.2).1=true then nJ T 64 (uB T [45,62] L.2).2 else (ty0D,(uB T [45,62] L.2).2)).1 } V (if (uB T [45,62] L.2).1=true then nJ T 64 (uB T [45,62] L.2).2 else (ty0D,(uB T [45,62] L.2).2)).2 0:=by
  have b0:=M.le
  cases hb:(uB T [45,62] L.2).1 with
  | false=>exact ⟨jAv,Z,rfl,M⟩
  | true=>
   simp only [xA,xM,f7,dA,dC];have hl:=M.lt;obtain ⟨t,a2,j7,j5,e2,j2⟩:=yB8 (N:=N) W b1 M.pc;rw [j7,aA];have I:=M.step e2 j5;have a8:a2.store (O,4) [(.int .i64 t.1),(.str t.2.1),(yL t.2.2.1),(yL t.2.2.2.1)]=some (a2.put O (.row (fuc { vI pub nm at_ with lv:=lv,ps:=ps,ty:=t }) .own)):=oD I.oO (by simp only [fuc,fux,fuv,uF,lF,rG,Option.map_some]);rw [a8,fA];have cp:=I.oO.put (fuc { vI pub nm at_ with lv:=lv,ps:=ps,ty:=t });obtain ⟨g1,g2,g3,g4,g5,g6,g7⟩:=I.old (cp.mono (N:=[P,O]) (by simp));exact ⟨t,_,rfl,I.pc.chg1 cp (by simp),g1,g2,g3,kB I.oO _,I.le,g4,g5,(j2.chg cp (fun C hC=>by grind)).weak (fun C hC _=>by omega),g7⟩
 obtain ⟨t,V,i3,Y⟩:=b9;rw [i3,aA];generalize (if (uB T [45,62] L.2).1=true then nJ T 64 (uB T [45,62] L.2).2 else (ty0D,(uB T [45,62] L.2).2))=zt at *;have i7:V.cell (Q,0)=some (.ptr (some (P,0))):=Y.oQ.cell 0;simp only [fA,i7,dA,dC];have l1:=Y.lt;have b0:=Y.le;obtain ⟨v,a1,b6,j3,e3,d7⟩:=tB5 (N:=N) (P:=P) W hN 64 N (xD _) (by omega) (O::R::X) V zt.2 0 Y.pc (.inl (by omega));rw [show ((65-64:Nat):Int)=1 from rfl] at b6;rw [b6,aA];have K:=Y.step e3 j3;have a8:a1.store (O,8) [.slice v.a v.len v.cap v.sz]=some (a1.put O (.row (fuc { vI pub nm at_ with lv:=lv,ps:=ps,ty:=t,bd:=v }) .own)):=oD K.oO (by simp only [fuc,fux,fuv,uF,lF,rG,Option.map_some])
 try simp only [xC]
 rw [a8,fA];have cp:=K.oO.put (fuc { vI pub nm at_ with lv:=lv,ps:=ps,ty:=t,bd:=v });obtain ⟨g1,g2,g3,g4,g5,g6,g7⟩:=K.old (cp.mono (N:=[P,O]) (by simp));have F:FI T P X h Q R O { vI pub nm at_ with lv:=lv,ps:=ps,ty:=t,bd:=v } ⟨u.1,L.1,zt.1,(aG T 64 (zt.2,0)).1⟩ (a1.put O (.row (fuc { vI pub nm at_ with lv:=lv,ps:=ps,ty:=t,bd:=v }) .own)) (aG T 64 (zt.2,0)).2.1 ((aG T 64 (zt.2,0)).2.2:Int):=⟨K.pc.chg1 cp (by simp),g1,g2,g3,kB K.oO _,K.le,g4,g5,g6,(d7.chg cp (fun C hC=>by grind)).weak (fun C hC _=>by omega)⟩;generalize a1.put O (.row (fuc { vI pub nm at_ with lv:=lv,ps:=ps,ty:=t,bd:=v }) .own)=k8 at *;rw [fAq (r:=fuv { vI pub nm at_ with lv:=lv,ps:=ps,ty:=t,bd:=v }) F.oO];refine ⟨fuv { vI pub nm at_ with lv:=lv,ps:=ps,ty:=t,bd:=v },_,dBw F.oR (fuv { vI pub nm at_ with lv:=lv,ps:=ps,ty:=t,bd:=v }) (fun x h=>some (x,h)),?_,?_,?_⟩
 ·exact (F.pc.chg1 (F.oR.put _) (by simp)).sub (by grind)
 ·exact F.chg.step (F.oR.put _) (fun A hA hl=>by grind)
 ·exact (F.dt.chg (F.oR.put _) (fun C hC=>by grind)).weak fun C hC _=>by omega
end
end Qp
namespace Qp
abbrev Er3:=Option (Int×Int×Option Int)
def ErrW (h:Heap) (v:AV):Er3->Prop
 | none=>v=AV.nilIface
 | some (c,a,none)=>aA5 h v c a
 | some (c,a,some b)=>∃ A B,v=AV.iface 127 (.ptr (some (A,0)))/\h.own A [yI0 c,yI0 a,AV.iface 127 (.ptr (some (B,0)))]/\h.own B [yI0 c,yI0 b,AV.iface 78 (yI0 c)]
def inS (at_:Int):Er->Er3
 | none=>none
 | some (c,a)=>some (c,at_,some a)
def aAu:Er->Er3
 | none=>none
 | some (c,a)=>some (c,a,none)
def tAz {h:Heap} {A:Nat} {p:Nat×Nat} {v:AV} (f:Qw.pinned h=true) (o:h.own A [v]):Qz.asF (AV.iface 127 (.ptr (some p))) (AV.iface 214 (.ptr (some (A,0)))) h=some (true,h.put A (.row [.ptr (some p)] .own)):=by
 simp only [Qw.pinned,Qx.pinned,xG] at f;have ⟨⟨⟨⟨j,u⟩,w⟩,_⟩,_⟩:=f;have r:Qa.mAx h A=some ([v],.own):=by
  have:=o.1
  grind [Qa.mAx,Heap.g]
 simp [Qz.asF,Qa.asN,j,u,w,r,over]
section
variable {N:Nat} {T:List Tok} {P:Nat} {X:List Nat} {h:Heap} {σ:St} {st:Int}
def bAu {B:Nat} {c:Int} {w:List AV} (r:Qw.pinned h=true) (p:4<=h.next) (o:h.own B (yI0 c::w)):∃ h',f159 N (AV.iface 127 (.ptr (some (B,0)))) h=some (c,h')/\Chg [] h h':=by
 unfold f159 f191;simp only [aA2,dA,aC,xB,fW,xA];have o1:=wA h [AV.ptr none];have c1:=uA h (.row [AV.ptr none] .own);have y:=pQ c1 (by simp) p r;have j:f192 N (AV.iface 127 (.ptr (some (B,0)))) (AV.iface 214 (.ptr (some (h.next,0)))) (h.push (.row [AV.ptr none] .own))=_:=tAz y o1;rw [j,aA];have o2:=kB o1 [AV.ptr (some (B,0))];have f:Chg [] h ((h.push (.row [AV.ptr none] .own)).put h.next (.row [AV.ptr (some (B,0))] .own)):=c1.put (.inr (xD _)) _;have u:((h.push (.row [AV.ptr none] .own)).put h.next (.row [AV.ptr (some (B,0))] .own)).cell (h.next,0)=some (.ptr (some (B,0))):=o2.cell 0;have A:((h.push (.row [AV.ptr none] .own)).put h.next (.row [AV.ptr (some (B,0))] .own)).cell (B,0)=some (yI0 c):=(o.chg f).cell 0;simp only [xA,u,dA,dC,aA,Option.isNone_some,Bool.not_false,fA,xC,A,qB];exact ⟨_,rfl,f⟩
def rBd (y:Qw.pinned h=true) (w:4<=h.next) {e:Er} {v:AV} (f:ErrV h P X v e) (at_:Int):∃ p h',f104 N v at_ h=some (p,h')/\Chg [] h h'/\ErrW h' p (inS at_ e)/\AV.single p=true:=by
 cases e with
 | none=>
  have f:v=AV.nilIface:=f;subst f;exact ⟨AV.nilIface,h,mB5 N at_ h,Chg.refl _ _,rfl,rfl⟩
 | some q=>
  have ⟨c,a⟩:=q;obtain ⟨B,rfl,_,o⟩:=f;have ⟨j,A,r⟩:=bAu (N:=N) y w o;rw [kAt,A,aA];have u:=uA j (.row [(yI0 c),(yI0 at_),(AV.iface 127 (.ptr (some (B,0))))] .own);exact ⟨_,_,rfl,r.trans u,⟨j.next,B,rfl,wA j _,(o.chg r).chg u⟩,rfl⟩
theorem ErrW.chg {h h':Heap} {v:AV} {e:Er3} {M:List Nat} (x:ErrW h v e) (c:Chg M h h') (u:∀ A∈M,∃ cs w,h.own A (cs::w)/\∀ n,cs≠yI0 n):ErrW h' v e:=by
 have key:∀ {A:Nat} {n:Int} {w:List AV},h.own A (yI0 n::w)->h'.own A (yI0 n::w):=fun {A n w} o=>o.chg c fun y=>by
  have ⟨cs,w',r,C⟩:=u A y
  have:=o.1.symm.trans r.1
  grind
 match e with
 | none=>exact x
 | some (c,a,none)=>
  have ⟨F,f,j⟩:=x;exact ⟨F,f,key j⟩
 | some (c,a,some b)=>
  have ⟨A,B,f,j,p⟩:=x;exact ⟨A,B,f,key j,key p⟩
def PC.chgC {h':Heap} {C:Nat} {a b:SL} (x:PC T P X h σ st) (o:h.own C [SL.av a,SL.av b]) (hC:C<P/\4<=C) (c:Chg [C] h h'):PC T P X h' σ st:=by
 have ⟨⟨⟨s,v,U,p,S,u⟩,Y,J⟩,Z,p4⟩:=x;have hs:∀ A,s.blk=some A->A≠C:=by
  intro A f e;subst e;have ⟨vs,j,H⟩:=p.els
  cases M:s.a with
  | none=>grind [SL.blk]
  | some q=>
   have ⟨V,off⟩:=q;simp [SL.blk,M] at f;subst f;have ⟨_,cs,w,K⟩:=j.2.2 V off M;rw [o.1] at w;have F:cs=[SL.av a,SL.av b]:=by
    have:(some [SL.av a,SL.av b]:Option (List AV))=some cs:=w
    grind
   subst F
   cases T with
   | nil=>grind
   | cons t r=>
    grind [De,iAl,SL.av,tkc,List.mem_of_mem_drop,List.mem_of_mem_take]
 have B:Sl h (fun A=>A<P/\A≠C) s (T.map pAj):=by
  refine ⟨p.len,p.cap,fun A f=>⟨p.blk A f,hs A f⟩,?_⟩;have ⟨vs,j,H⟩:=p.els;refine ⟨vs,j,?_⟩;have a0:∀ (l:List Tok) (vs:List AV),De h (fun C=>C<P) s.sz (l.map pAj) vs->De h (fun A=>A<P/\A≠C) s.sz (l.map pAj) vs:=by
   intro l
   induction l with
   | nil=>intro vs hd;exact hd
   | cons t r ih=>
    intro vs hd;rw [List.map_cons] at hd ⊢;simp only [De] at hd ⊢;have ⟨R,W,e1,Q,e3,e4⟩:=hd;refine ⟨R,W,e1,Q,?_,ih _ e4⟩
    have:=iAl e3
    subst this;exact yB3 (rC (a:=[_]) (tAt h _ _) (rC (a:=[_]) (tK h _ _) (rC (a:=[_]) (b:=[]) (tAt h _ _) (aA0 h _))))
  grind
 have y:ErrV h' P X v σ.2:=by
  cases L:σ.2 with
  | none=>rw [L] at u;exact u
  | some q=>
   rw [L] at u;have ⟨A,w,K,I⟩:=u;refine ⟨A,w,K,I.chg c fun O=>?_⟩;rw [List.mem_singleton] at O;subst O
   have:=I.1.symm.trans o.1
   grind
 exact ⟨⟨⟨s,v,U.chg c (by grind),(B.chg c (fun A f=>by grind)).weak fun A f _=>f.1,S,y⟩,Y,fun A f=>⟨(J A f).1,xW (J A f).2 c.next⟩⟩,pQ c (by grind) (by have:=o.2;omega) Z,p4⟩
end
end Qp
namespace Qp
structure ItS where
 d:Option (Bool×D)
 i:Nat
 e:Er3
 n:Nat
def jJ (T:List Tok) (σ:St):ItS:=
 let p:=uB T [112,117,98] σ
 let at_:Int:=((tk T p.2.1).2.2:Int)
 let b:=uB T [115,116,114,117,99,116] p.2
 if b.1=true then ⟨some (true,(dG T p.1 at_ b.2).1),(dG T p.1 at_ b.2).2.1,inS at_ (dG T p.1 at_ b.2).2.2,0⟩ else
 let f:=uB T [102,110] b.2
 if f.1=true then ⟨some (false,(oJ T p.1 at_ f.2).1),(oJ T p.1 at_ f.2).2.1.1,inS at_ (oJ T p.1 at_ f.2).2.1.2,(oJ T p.1 at_ f.2).2.2⟩
 else ⟨none,(oG T 21 f.2).1,aAu (oG T 21 f.2).2,0⟩
def iBm:AppN E 22 72 5 1000:=AppN.of (by kernel_rfl)
def jBm:AppN E 23 44 10 1000:=AppN.of (by kernel_rfl)
def cAu (h0 h:Heap) (C:Nat) (xs ys:List D):Prop:=∃ v w,h.own C [SL.av v,SL.av w]/\OwV (fun A=>h0.next<=A/\w.blk≠some A) h v 5 xs/\OwV (fun A=>h0.next<=A/\v.blk≠some A) h w 10 ys
def vAh (d:Option (Bool×D)) (xs:List D):List D:=match d with | some (true,x)=>xs++[x] | _=>xs
def wAh (d:Option (Bool×D)) (ys:List D):List D:=match d with | some (false,y)=>ys++[y] | _=>ys
def PE (T:List Tok) (P:Nat) (h:Heap) (i:Nat) (e:Er3):Prop:=(∃ v,h.cell (P,3)=some v/\ErrW h v e)/\(e=none->∃ st,PC T P [] h (i,none) st)
section
variable {N:Nat} {T:List Tok} {P:Nat} {X:List Nat} {h:Heap} {σ:St} {st:Int}
def yAh (x:PC T P X h σ st) (at_:Int):∃ h',(vA (some (P,0)) fun u=>
   (iA (.val zN3) (h.cell (u.1,u.2+3)) fun (J:AV)=>
   (jA (f104 N J at_ h) fun (y:AV) f=>
   (vA (some (P,0)) fun w=>
   (pD (AV.single y)
   (vA (f.store (w.1,w.2+3) [y]) fun K=>
   some ((()),K)))))))=some ((),h')/\Chg [P] h h'/\PE T P h' σ.1 (inS at_ σ.2):=by
 have ⟨v,W,Y⟩:=x.pa.readE;have hP:=x.P_lt;have ⟨p,f,L,B,C,I⟩:=rBd (N:=N) x.pin (by have:=x.p4;omega) Y at_;simp only [fA,xC,W,dA,pF];rw [L,aA,I,yB];have M:=x.chg B;have ⟨⟨⟨s,v0,r,Z,Q,h4⟩,R,h6⟩,V,p4⟩:=M;have H:f.store (P,3) [p]=some (f.put P (.row [SL.av s,yI0 (σ.1:Int),yI0 st,p] .own)):=r.store1 (j:=3) (by grind) _;rw [H,fA];have F:=r.put [SL.av s,yI0 (σ.1:Int),yI0 st,p];have hl:=r.2;refine ⟨_,rfl,(B.mono (by simp)).trans F,⟨p,(kB r _).cell 3,C.chg F fun A U=>by
  grind [List.mem_singleton,SL.av]⟩,fun S=>?_⟩
 have ⟨i,e⟩:=σ
 cases e with
 | some q=>have ⟨c,a⟩:=q;cases S
 | none=>
  have O:p=AV.nilIface:=C;subst O;exact ⟨st,⟨⟨⟨s,AV.nilIface,kB r _,Z.chg F (fun A U=>by grind),Q,rfl⟩,R,by simp⟩,pQ F (by grind) (by omega) V,p4⟩⟩
def kBm (hT:Toks T) (hN:3000<=N) {h0:Heap} {C:Nat} {xs ys:List D} {i:Nat} (x:PC T P [] h (i,none) st) (hC:C<P/\4<=C) (d8:P<h0.next) (ch:Chg [P,C] h0 h) (cr:cAu h0 h C xs ys) (hx:xs.length<=1000) (hy:ys.length<=1000) :
  ∃ h',f63 N (some (P,0)) (some (C,0)) h=some ((),h')/\Chg [P,C] h0 h'/\PE T P h' (jJ T (i,none)).i (jJ T (i,none)).e/\cAu h0 h' C (vAh (jJ T (i,none)).d xs) (wAh (jJ T (i,none)).d ys):=by
 unfold f63;have ⟨h2,e2,c2,x2⟩:=gJ (N:=N) hT x (w:=[112,117,98]) (by decide);rw [e2,aA];simp only [jJ];have ⟨h4,e4,c4⟩:=jQ (N:=N) x2.pa;rw [e4,aA];have x4:=x2.chg c4;have ⟨h6,e6,c6,x6⟩:=gJ (N:=N) hT x4 (w:=[115,116,114,117,99,116]) (by decide);rw [e6,aA];have c3:Chg [P] h h6:=(c2.trans (c4.mono (by simp))).trans c6;have a8:=ch.trans (c3.mono (N:=[P,C]) (by simp));have I:∀ {h1 h2:Heap},Chg [P] h1 h2->cAu h0 h1 C xs ys->cAu h0 h2 C xs ys:=by
  rintro h1 h2 c ⟨v,w,o,w1,w2⟩;exact ⟨v,w,o.chg c (by grind),w1.chg c (by grind),w2.chg c (by grind)⟩
 have c9:=I c3 cr;have d6:=a8.next;generalize (uB T [112,117,98] (i,none)).1=pub at *;generalize (uB T [112,117,98] (i,none)).2=B at *;simp only [fAt];generalize ((tk T B.1).2.2:Int)=at_ at *
 cases hb:(uB T [115,116,114,117,99,116] B).1 with
 | true=>
  have ⟨v,w,o6,w1,w2⟩:=c9;have hs:=(yF hb).1;rw [hs] at x6;rw [hs];simp only [xA,xM,fA,xC];have r6:h6.cell (C,0)=some (yL v):=o6.cell 0;simp only [r6,dA,qA];have hv:∀ A∈v.blk.toList,h0.next<=A/\A<h6.next/\w.blk≠some A:=fun A u=>by
   have:=w1.ge A (by grind);grind
  have y6:PC T P v.blk.toList h6 (B.1+1,none) st:=x6.free fun A u=>by grind
  have ⟨r,f,b0,a9,y,b2⟩:=dBd (N:=N) hT (by omega) y6 pub at_;rw [b0,aA];have Q:=o6.chg y (by grind);have M:=w1.chg y (by grind);have L:=w2.chg y (by grind);have c0:=y.next;have hw:∀ A∈w.blk.toList,h0.next<=A/\A<h6.next:=fun A u=>by have:=w2.ge A (by grind);omega
  have ⟨S,p,eA,R,F,c8⟩:=eJ (cs:=stc r) iBm (by decide) M (b2.weak fun A u _=>⟨⟨by omega,fun e=>by grind⟩,fun e=>by grind⟩) rfl (fun A u=>⟨by omega,fun e=>by grind⟩) (by omega);have b4:nB E 22 22 (yL v) (.slice (some (f.next,0)) 1 1 5) (f.push (.row (yRG r) .own))=some (.slice S.a S.len S.cap S.sz,p):=eA;rw [b4,rF,qA];have H:=Q.chg F (fun hm=>by grind);have a5:=Q.chg (uA f (.row (stc r) .own)) (by simp);have b5:(f.push (.row (yRG r) .own)).cell (C,0)=some (yL v):=a5.cell 0;have b7:f.cell (C,0)=some (yL v):=Q.cell 0;have b3:p.store (C,0) [.slice S.a S.len S.cap S.sz]=some (p.put C (.row [SL.av S,SL.av w] .own)):=H.store1 (j:=0) (by grind) _;rw [b3,fA];simp only [b5,b7,jC,xA,yB];have Z:=H.put [SL.av S,SL.av w];have a6:=(a9.chgM F (fun A u=>u)).sub (X':=[]) (by simp);have b1:=a6.chgC H hC Z;have K:Chg [P,C] h0 p:=(a8.trans (y.mono (by simp))).step F (fun A u hl=>by grind);have W:=K.trans (Z.mono (N:=[P,C]) (by simp));have O:OwV (fun A=>h0.next<=A/\S.blk≠some A) p w 10 ys:=by
   have a1:OwV (fun A=>(h0.next<=A/\v.blk≠some A)/\A<f.next) f w 10 ys:=L.weak fun A u hl=>⟨u,hl⟩;have a2:=a1.chg F (by grind);exact a2.weak fun A u _=>⟨u.1.1,fun e=>by grind⟩
  have c7:=K.next;have U:cAu h0 (p.put C (.row [SL.av S,SL.av w] .own)) C (xs++[(dG T pub at_ (B.1+1,none)).1]) ys:=⟨S,w,kB H _,R.chg Z (by grind),O.chg Z (by grind)⟩;have ⟨a7,V,J,pe⟩:=yAh (N:=N) b1 at_;simp only [fA,xC] at V;refine ⟨a7,V,W.trans (J.mono (by simp)),pe,?_⟩;have ⟨v1,b6,o1,z1,z2⟩:=U;exact ⟨v1,b6,o1.chg J (by grind),z1.chg J (by grind),z2.chg J (by grind)⟩
 | false=>
 rw [lE hb] at x6 ⊢;simp only [xB,xE,xL];have ⟨a0,d4,b9,a3⟩:=gJ (N:=N) hT x6 (w:=[102,110]) (by decide);rw [d4,aA];have a4:=I b9 c9;have Y:=a8.trans (b9.mono (N:=[P,C]) (by simp));have d7:=Y.next
 cases b8:(uB T [102,110] B).1 with
 | true=>
  have ⟨v,w,o6,w1,w2⟩:=a4;have hs:=(yF b8).1;rw [hs] at a3;rw [hs];simp only [xA,xM,fA,xC];have r6:a0.cell (C,1)=some (yL w):=o6.cell 1;simp only [r6,dA,qA];have hv:∀ A∈v.blk.toList,h0.next<=A/\A<a0.next:=fun A u=>by have:=w1.ge A (by grind);omega
  have hw:∀ A∈w.blk.toList,h0.next<=A/\A<a0.next/\v.blk≠some A:=fun A u=>by
   have:=w2.ge A (by grind);grind
  have y6:PC T P w.blk.toList a0 (B.1+1,none) st:=a3.free fun A u=>by grind
  have ⟨r,f,b0,a9,y,b2⟩:=qBd (N:=N) hT hN y6 pub at_;rw [b0,aA];have Q:=o6.chg y (by grind);have M:=w1.chg y (by grind);have L:=w2.chg y (by grind);have c0:=y.next;have ⟨w',p,eA,O,F,c8⟩:=eJ (cs:=fux r) jBm (by decide) L (b2.weak fun A u _=>⟨⟨by omega,fun e=>by grind⟩,fun e=>by grind⟩) rfl (fun A u=>⟨by omega,fun e=>by grind⟩) (by omega);have b4:nB E 23 23 (yL w) (.slice (some (f.next,0)) 1 1 10) (f.push (.row (yRC r) .own))=some (.slice w'.a w'.len w'.cap w'.sz,p):=eA;rw [b4,rF,qA];have H:=Q.chg F (fun hm=>by grind);have a5:=Q.chg (uA f (.row (fux r) .own)) (by simp);have b5:(f.push (.row (yRC r) .own)).cell (C,1)=some (yL w):=a5.cell 1;have b7:f.cell (C,1)=some (yL w):=Q.cell 1;have b3:p.store (C,1) [.slice w'.a w'.len w'.cap w'.sz]=some (p.put C (.row [SL.av v,SL.av w'] .own)):=H.store1 (j:=1) (by grind) _;rw [b3,fA];simp only [b5,b7,jC,xA,yB];have Z:=H.put [SL.av v,SL.av w'];have a6:=(a9.chgM F (fun A u=>u)).sub (X':=[]) (by simp);have b1:=a6.chgC H hC Z;have K:Chg [P,C] h0 p:=(Y.trans (y.mono (by simp))).step F (fun A u hl=>by grind);have W:=K.trans (Z.mono (N:=[P,C]) (by simp));have R:OwV (fun A=>h0.next<=A/\w'.blk≠some A) p v 5 xs:=by
   have a1:OwV (fun A=>(h0.next<=A/\w.blk≠some A)/\A<f.next) f v 5 xs:=M.weak fun A u hl=>⟨u,hl⟩;have a2:=a1.chg F (by grind);exact a2.weak fun A u _=>⟨u.1.1,fun e=>by grind⟩
  have c7:=K.next;have U:cAu h0 (p.put C (.row [SL.av v,SL.av w'] .own)) C xs (ys++[(oJ T pub at_ (B.1+1,none)).1]):=⟨v,w',kB H _,R.chg Z (by grind),O.chg Z (by grind)⟩;have ⟨a7,V,J,pe⟩:=yAh (N:=N) b1 at_;simp only [fA,xC] at V;refine ⟨a7,V,W.trans (J.mono (by simp)),pe,?_⟩;have ⟨v1,b6,o1,z1,z2⟩:=U;exact ⟨v1,b6,o1.chg J (by grind),z1.chg J (by grind),z2.chg J (by grind)⟩
 | false=>
  rw [lE b8] at a3 ⊢;simp only [xB,xE,xL];have ⟨d3,d0,c5,d5⟩:=aAq (N:=N) a3 (c:=21) (by decide);rw [d0,aA];have ⟨v,k3,hv⟩:=d5.pa.readE;refine ⟨d3,rfl,Y.trans (c5.mono (by simp)),⟨⟨v,k3,?_⟩,fun he=>?_⟩,I c5 a4⟩
  ·cases hh:(oG T 21 B).2 with
   | none=>rw [hh] at hv;exact hv
   | some q=>
    rw [hh] at hv;have ⟨A,g1,_,g3⟩:=hv;exact ⟨A,g1,g3⟩
  ·have:=tQ T 21 B
   cases hh:(oG T 21 B).2 with
   | none=>grind
   | some q=>rw [hh] at he;cases he
end
end Qp
namespace Qp
def pE (T:List Tok):Nat->Nat->(List D×List D)×Er3
 | 0,i=>if (tk T i).1=0 then (([],[]),none) else (([],[]),aAu (oG T 5 (i,none)).2)
 | f+1,i=>if (tk T i).1=0 then (([],[]),none) else
  let z:=jJ T (i,none)
  match z.e with
  | some q=>(([],[]),some q)
  | none=>let r:=pE T f z.i;((vAh z.d []++r.1.1,wAh z.d []++r.1.2),r.2)
def kA5 (T:List Tok):(List D×List D)×Er3:=
 let r:=pE T 256 0
 match r.2 with
 | some q=>(([],[]),some q)
 | none=>(r.1,none)
def bH (N:Nat) (s:Bs):(List D×List D)×Er3:=match iAv N s with
 | .inr a=>(([],[]),some (20,(a:Int),none))
 | .inl T=>kA5 T
theorem uB5 (d:Option (Bool×D)) (xs:List D):vAh d xs=xs++vAh d []:=by
 unfold vAh;grind
theorem vB5 (d:Option (Bool×D)) (ys:List D):wAh d ys=ys++wAh d []:=by
 unfold wAh;grind
def wB5 (d:Option (Bool×D)) (xs:List D):(vAh d xs).length<=xs.length+1:=by
 unfold vAh;grind
def yB5 (d:Option (Bool×D)) (ys:List D):(wAh d ys).length<=ys.length+1:=by
 unfold wAh;grind
section
variable {N:Nat} {T:List Tok} {P:Nat} {X:List Nat} {h:Heap} {σ:St} {st:Int}
def ErrW.eq {h:Heap} {v:AV} {e:Er3} (x:ErrW h v e) (k:Nat):tM E .eql 29 (.tmp k) (.const .nilIface) v AV.nilIface=some (.bool e.isNone):=by
 match e with
 | none=>rw [show v=AV.nilIface from x];exact eq_nil k
 | some (c,a,none)=>have ⟨A,f,_⟩:=x;grind [aA2]
 | some (c,a,some b)=>have ⟨A,B,f,_⟩:=x;grind [aA2]
def ErrW.ne {h:Heap} {v:AV} {e:Er3} (x:ErrW h v e) (k:Nat):tM E .neq 29 (.tmp k) (.const .nilIface) v AV.nilIface=some (.bool e.isSome):=by
 match e with
 | none=>rw [show v=AV.nilIface from x];exact ne_nil k
 | some (c,a,none)=>have ⟨A,f,_⟩:=x;grind [fW]
 | some (c,a,some b)=>have ⟨A,B,f,_⟩:=x;grind [fW]
theorem PE.of (x:PC T P X h σ st) (y:σ.2.isSome=true):PE T P h σ.1 (aAu σ.2):=by
 have ⟨v,u,j⟩:=x.pa.readE;refine ⟨⟨v,u,?_⟩,fun p=>?_⟩
 ·cases f:σ.2 with
  | none=>grind
  | some q=>
   rw [f] at j;have ⟨A,r,_,w⟩:=j;exact ⟨A,r,w⟩
 ·cases f:σ.2 with
  | none=>grind
  | some q=>rw [f] at p;cases p
def dAu (hT:Toks T) (hN:3000<=N) {h0:Heap} {C:Nat} {R:zH3} (hC:C<P/\4<=C) (a8:P<h0.next):∀ (f M:Nat) (h:Heap) (i:Nat) (st:Int) (xs ys:List D),f+1<M->f<=256->xs.length+f<=256->ys.length+f<=256->PC T P [] h (i,none) st->Chg [P,C] h0 h->cAu h0 h C xs ys->
  ∃ h' H F,yAp N M R (some (C,0)) (some (P,0)) ((256-f:Nat):Int) h=some (.exit 0,(R,some (C,0),some (P,0),()),h')/\Chg [P,C] h0 h'/\cAu h0 h' C H F/\(∃ v,h'.cell (P,3)=some v/\ErrW h' v (pE T f i).2)/\((pE T f i).2=none->H=xs++(pE T f i).1.1/\F=ys++(pE T f i).1.2):=by
 intro f
 induction f with
 | zero=>
  intro M h i st xs ys hM hf hx hy x V cr;obtain ⟨M,rfl⟩:∃ m,M=m+1:=⟨M-1,by omega⟩;rw [gU];unfold mW;have ⟨v,B,u⟩:=x.pa.readE;have u:v=AV.nilIface:=u;subst u;simp only [fA,xC,B,dA,pF,eq_nil,aC,xA];have ⟨J,K,r⟩:=jQ (N:=N) x.pa;rw [K,aA];have y:=x.chg r;have j:=V.trans (r.mono (N:=[P,C]) (by simp));have A:∀ {I L:Heap},Chg [P] I L->cAu h0 I C xs ys->cAu h0 L C xs ys:=by
   rintro I L c ⟨v,w,o,w1,w2⟩;exact ⟨v,w,o.chg c (by grind),w1.chg c (by grind),w2.chg c (by grind)⟩
  have p:=A (r.mono (by simp)) cr;simp only [fAt,eqI,pE]
  by_cases q:(tk T i).1=0
  ·simp only [q,xO,xV,xB,xM]
   have ⟨v,B,u⟩:=y.pa.readE;exact ⟨J,xs,ys,rfl,j,p,⟨v,B,u⟩,fun _=>⟨by simp,by simp⟩⟩
  ·simp only [q,xQ,Bool.not_false,xA,xL,show decide (((256-0:Nat):Int)=256)=true from rfl]
   have ⟨W,a4,Q,Y⟩:=aAq (N:=N) y (c:=5) (by decide);rw [a4,aA];have U:=PE.of Y (tQ T 5 (i,none));exact ⟨W,xs,ys,rfl,j.trans (Q.mono (by simp)),A Q p,U.1,fun h=>by cases h⟩
 | succ f ih=>
  intro M h i st xs ys hM hf hx hy x V cr;obtain ⟨M,rfl⟩:∃ m,M=m+1:=⟨M-1,by omega⟩;rw [gU];unfold mW;have ⟨v,B,u⟩:=x.pa.readE;have u:v=AV.nilIface:=u;subst u;simp only [fA,xC,B,dA,pF,eq_nil,aC,xA];have ⟨J,K,r⟩:=jQ (N:=N) x.pa;rw [K,aA];have y:=x.chg r;have j:=V.trans (r.mono (N:=[P,C]) (by simp));have A:∀ {I L:Heap},Chg [P] I L->cAu h0 I C xs ys->cAu h0 L C xs ys:=by
   rintro I L c ⟨v,w,o,w1,w2⟩;exact ⟨v,w,o.chg c (by grind),w1.chg c (by grind),w2.chg c (by grind)⟩
  have p:=A (r.mono (by simp)) cr;simp only [fAt,eqI,pE]
  by_cases q:(tk T i).1=0
  ·simp only [q,xO,xV,xB,xM]
   have ⟨v,B,u⟩:=y.pa.readE;exact ⟨J,xs,ys,rfl,j,p,⟨v,B,u⟩,fun _=>⟨by simp,by simp⟩⟩
  ·have Z:decide (((256-(f+1):Nat):Int)=256)=false:=decide_eq_false (by omega)
   simp only [q,xQ,Bool.not_false,xA,xL,Z,xB];have ⟨a0,a2,S,U,O⟩:=kBm (N:=N) hT hN y hC a8 j p (by omega) (by omega);rw [a2,aA];rw [iB (by omega),show 256-(f+1)+1=256-f by omega];generalize jJ T (i,none)=z at *
   cases he:z.e with
   | some q=>
    rw [he] at U;have ⟨⟨v,B,u⟩,_⟩:=U;obtain ⟨M,rfl⟩:∃ m,M=m+1:=⟨M-1,by omega⟩;rw [gU];unfold mW;simp only [fA,xC,B,dA,pF,u.eq 24,aC,Option.isNone_some,xB]
    grind
   | none=>
    have ⟨a1,a3⟩:=U.2 he;have l1:=wB5 z.d xs;have l2:=yB5 z.d ys;have ⟨h',H,F,e',a6,a7,a5,a9⟩:=ih M a0 z.i a1 (vAh z.d xs) (wAh z.d ys) (by omega) (by omega) (by omega) (by omega) a3 S O;refine ⟨h',H,F,e',a6,a7,a5,fun h=>?_⟩
    grind [uB5,vB5,xY]
abbrev CrV:=SL×SL×Unit
def eBw {β:Type} (r:CrV) (K:CrV->Option β):iA (.val zQ) (some (.agg [SL.av r.1,SL.av r.2.1])) K=K r:=by
 have ⟨f,j,_⟩:=r;simp [SL.av]
def rW {H:Heap} {A:Nat} {v w:SL} (o:H.own A [SL.av v,SL.av w]) {β:Type} (K:CrV->Option β):iA (.val zQ) (H.cells (A,0) 2) K=K (v,w,()):=by
 have:H.cells (A,0) 2=some (.agg [SL.av v,SL.av w]):=o.cells (j:=0) (m:=2) (xD _)
 rw [this,eBw (v,w,())]
def dB9 {s:Bs} (hs:s.length<=1000000) (hN:s.length<N) (a7:3000<=N) (hp:Qw.pinned h=true) (h4:4<=h.next) :
  ∃ v w e h',f27 N s h=some (((v,w,()),e,()),h')/\Chg [] h h'/\Sl h' (fun A=>h.next<=A) v (bH N s).1.1/\Sl h' (fun A=>h.next<=A) w (bH N s).1.2/\ErrW h' e (bH N s).2:=by
 unfold f27 bH;have o1:=wA h [SL.av sl0,SL.av sl0];have c1:=uA h (.row [SL.av sl0,SL.av sl0] .own);have e1:h.push (.row yZJ .own)=h.push (.row [SL.av sl0,SL.av sl0] .own):=rfl;have n1:(h.push (.row [SL.av sl0,SL.av sl0] .own)).next=h.next+1:=rfl;rw [e1];generalize h.push (.row [SL.av sl0,SL.av sl0] .own)=h1 at *;dsimp only;have ⟨B,u,e3,c3,p3⟩:=gBk (by omega) hN (by omega) h1;rw [e3,aA];have U:=o1.chg c3;have S:=c1.trans c3;have b1:=c3.next
 cases hl:iAv N s with
 | inr a=>
  rw [hl] at p3;have ⟨F,f1,f2⟩:=p3;rw [f1,fW];simp only [dA,aC,xA];have b2:=lBk U f2 (by grind);have J:=U.put [SL.av sl0,SL.av sl0];have y:u.store (h.next,0) yZJ=some (u.put h.next (.row [SL.av sl0,SL.av sl0] .own)):=U.store rfl;rw [y,fA,rW (kB U _)];exact ⟨sl0,sl0,_,_,rfl,S.put (.inr (xD _)) _,Sl.nil _ _ _,Sl.nil _ _ _,F,rfl,f2.chg J (by grind)⟩
 | inl T=>
  rw [hl] at p3;have ⟨pe,po,pl⟩:=p3;have ⟨hT,b0⟩:=lAh (by omega) hl (by omega);rw [pe,ne_nil];simp only [dA,aC,xB];have a1:=po.sl;have hz:B.1.sz=3:=by
   rcases po with ⟨_,_,_,h4⟩ | ⟨A,cs,b4,vs,_,h2,_⟩
   ·have:T.length=0:=by rw [<- xS (f:=pAj),h4];rfl
    omega
   omega
  have oC:=wA u [SL.av sl0,SL.av sl0];have cC:=uA u (.row [SL.av sl0,SL.av sl0] .own);have eC:u.push (.row yZJ .own)=u.push (.row [SL.av sl0,SL.av sl0] .own):=rfl;have nC:(u.push (.row [SL.av sl0,SL.av sl0] .own)).next=u.next+1:=rfl;rw [eC];have o7:=U.chg cC;have a4:=(a1.weak (W:=fun A=>A<u.next) (fun C _ a5=>a5)).chg cC;generalize u.push (.row [SL.av sl0,SL.av sl0] .own)=r at *;have oP:=wA r [SL.av B.1,yI0 0,yI0 0,AV.nilIface];have cP:=uA r (.row [SL.av B.1,yI0 0,yI0 0,AV.nilIface] .own);have eP:r.push (.row [(yL B.1),(yI0 0),(yI0 0),AV.nilIface] .own)=r.push (.row [SL.av B.1,yI0 0,yI0 0,AV.nilIface] .own):=rfl;have nP:(r.push (.row [SL.av B.1,yI0 0,yI0 0,AV.nilIface] .own)).next=r.next+1:=rfl;rw [eP];have a2:=oC.chg cP;have o8:=o7.chg cP;have Q:=(S.trans cC).trans cP;have p8:=pQ Q (by simp) h4 hp;have a8:=(a4.weak (W:=fun A=>A<r.next) (fun A K _=>by omega)).chg cP;generalize r.push (.row [SL.av B.1,yI0 0,yI0 0,AV.nilIface] .own)=h8 at *;have x8:PC T r.next [] h8 (0,none) 0:=⟨⟨⟨B.1,AV.nilIface,oP,a8,hz,rfl⟩,b0,by simp⟩,p8,by omega⟩;have a3:cAu h8 h8 u.next [] []:=⟨sl0,sl0,a2,OwV.nil _ _ _ _,OwV.nil _ _ _ _⟩;have ⟨p,b6,b3,Y,I,⟨v,w,a6,w1,w2⟩,⟨er,V,Z⟩,M⟩:=dAu (N:=N) hT a7 (R:=some (h.next,0)) (C:=u.next) (P:=r.next) (by omega) (by omega) 256 N h8 0 0 [] [] (by omega) (xD _) (by simp) (by simp) x8 (Chg.refl _ _) a3;rw [show ((256-256:Nat):Int)=0 from rfl] at Y;rw [Y];simp only [mB,fA,xC,V,dA,pF,Z.ne 43,aC,kA5];have j:=o8.chg I (by grind);have H:Chg [] h p:=Q.step I (fun A K hl=>by grind);have b5:=I.next;have O:∀ {hh:Heap} {vs:List AV},Chg [h.next] p hh->ErrW hh er (pE T 256 0).2:=fun c=>Z.chg c fun A K=>by
   grind [List.mem_singleton,SL.av]
  cases he:(pE T 256 0).2 with
  | some q=>
   simp only [Option.isSome_some,xA];have y:p.store (h.next,0) yZJ=some (p.put h.next (.row [SL.av sl0,SL.av sl0] .own)):=j.store rfl;rw [y,fA];have J:=j.put [SL.av sl0,SL.av sl0];have a9:∀ x,p.cell (r.next,3)=some x->(p.put h.next (.row [SL.av sl0,SL.av sl0] .own)).cell (r.next,3)=some x:=by
    intro x hx;rw [Heap.cell_g,J.g r.next (by omega) (by grind),<- Heap.cell_g];exact hx
   rw [a9 _ V];simp only [jC,xA,yB];rw [rW (kB j _)];exact ⟨sl0,sl0,er,_,rfl,H.put (.inr (xD _)) _,Sl.nil _ _ _,Sl.nil _ _ _,by rw [<- he];exact O (vs:=[]) J⟩
  | none=>
   have ⟨L,a0⟩:=M he;rw [List.nil_append] at L a0;subst L;subst a0;simp only [Option.isSome_none,xB];rw [rW a6];have y:p.store (h.next,0) [(yL v),(yL w)]=some (p.put h.next (.row [SL.av v,SL.av w] .own)):=j.store rfl;rw [y,fA,rW (kB j _)];have J:=j.put [SL.av v,SL.av w];refine ⟨v,w,AV.nilIface,_,rfl,H.put (.inr (xD _)) _,?_,?_,rfl⟩
   ·exact (w1.sl.chg J (fun A K=>by grind)).weak fun A K _=>by omega
   ·exact (w2.sl.chg J (fun A K=>by grind)).weak fun A K _=>by omega
end
end Qp
namespace Qp
structure Cut (T' T:List Tok) (E:Nat) (Bd:Int×Int->Prop):Prop where
 k:(tk T' E).1=0
 lt:∀ i,i<E->tk T' i=tk T i
 bad:Bd (21,((tk T' E).2.2:Int))
def bnd {σ α β:Type} (f:σ->α×σ) (g:α->σ->β×σ):σ->β×σ:=fun s=>g (f s).1 (f s).2
def nG {σ α β:Type} (h:α->β) (f:σ->α×σ):σ->β×σ:=fun s=>(h (f s).1,(f s).2)
def qI {σ α:Type} (x:α):σ->α×σ:=fun s=>(x,s)
section
variable {α β γ:Type} {σ:Type} (st:σ->St) (inv:σ->Prop) (E:Nat) (Bd:Int×Int->Prop)
def oBv (s:σ):Prop:=∃ j e,st s=(j,some e)/\Bd e
def fBw (F:σ->α×σ):Prop:=∀ s,(st (F s).2).2.isSome=true
def AtE (s:σ):Prop:=st s=(E,none)/\inv s
def RA (F' F:σ->α×σ) (s:σ):Prop:=F' s=F s/\(st (F s).2).2=none/\(st (F s).2).1<=E/\inv (F s).2
def RB (F' F:σ->α×σ) (s:σ):Prop:=∃ j e,st (F' s).2=(j,some e)/\((st (F s).2).2.isSome=true\/Bd e)
structure GD (F' F:σ->α×σ):Prop where
 e':∀ s,(st s).2.isSome=true->st (F' s).2=st s
 e:∀ s,(st s).2.isSome=true->st (F s).2=st s
 c:∀ s,AtE st inv E s->AtE st inv E (F' s).2\/oBv st Bd (F' s).2\/((st (F' s).2).2.isSome=true/\fBw st F)
 a:∀ s,(st s).2=none->(st s).1<E->inv s->RA st inv E F' F s\/RB st Bd F' F s\/AtE st inv E (F' s).2
structure G (F' F:σ->α×σ):Prop extends GD st inv E Bd F' F where
 c1:∀ s,AtE st inv E s->AtE st inv E (F' s).2\/oBv st Bd (F' s).2
end
section
variable {α β γ:Type} {σ:Type} {st:σ->St} {inv:σ->Prop} {E:Nat} {Bd:Int×Int->Prop}
end
section
variable {T' T:List Tok} {E:Nat} {Bd:Int×Int->Prop} {α:Type}
def iE (T:List Tok) (w:Bs):St->Unit×St:=fun σ=>((),eD T w σ)
def uAz (T:List Tok) (c:Int) (x:α):St->α×St:=fun σ=>(x,oG T c σ)
def lI (T:List Tok) (w:Bs) (Y X:St->α×St):St->α×St:=fun σ=>if (uB T w σ).1=true then Y (uB T w σ).2 else X (uB T w σ).2
end
end Qp
namespace Qp
section
variable {T' T:List Tok} {E:Nat} {Bd:Int×Int->Prop}
end
end Qp
set_option maxRecDepth 100000
namespace Qp
open Go.ChangeShapes Go.WideShapes
open Go.Proofs.YtkcjphhjmlienaaGreatDoor
section
variable {H:Type} {P:Program} {h:Heap} {S:List TypeId}
end
end Qp
namespace Qp
inductive PT where
 | int | bool | st (nm:Bs) (lv:List Bs) | ref (mu:Bool) (lv:List Bs) (t:PT)
def PT.D:PT->D
 | .int=>tyD 1 [] [] []
 | .bool=>tyD 2 [] [] []
 | .st nm lv=>tyD 3 nm lv []
 | .ref f lv t=>tyD (if f=true then 5 else 4) [] lv [t.D]
def uA7 (s:Bs):Prop:=jE s=true\/∃ a b,s=a++[58,58]++b/\jE a=true/\jE b=true
def PT.ok:Nat->PT->Prop
 | 0,_=>False
 | _+1,.int=>True
 | _+1,.bool=>True
 | _+1,.st nm lv=>uA7 nm/\lv.length<=64/\∀ x∈lv,yG x=true
 | g+1,.ref _ lv t=>lv.length<=1/\(∀ x∈lv,yG x=true)/\t.ok g
end Qp
namespace Qp
def tBd {r:TyV} {k:Int} {x:Bs} {s1 s2:SL} (f:tyc r=tyc (k,x,s1,s2,())):r=(k,x,s1,s2,()):=by
 have ⟨u,w,p,s2',_⟩:=r;simp only [tyc,List.cons.injEq,AV.int.injEq,AV.str.injEq,true_and,and_true] at f;obtain ⟨rfl,rfl,j,h⟩:=f;rw [SL.av_inj j,SL.av_inj h]
end Qp
namespace Qp
def vL:List Bs->Bs
 | []=>[]
 | x::r=>[44,32,39]++x++vL r
def dF:List Bs->Bs
 | []=>[]
 | x::r=>[60,39]++x++vL r++[62]
def PT.txt:PT->Bs
 | .int=>[105,110,116]
 | .bool=>[98,111,111,108]
 | .st nm lv=>nm++dF lv
 | .ref f lv t=>[38]++(match lv with | []=>[] | x::_=>[39]++x++[32])++(if f=true then [109,117,116,32] else [])++t.txt
theorem kE {x:Bs} (h:yG x=true):1<=x.length/\x.length<=32:=by
 simp only [yG,xG,xU] at h
 grind
theorem lY:∀ {lv:List Bs},(∀ x∈lv,yG x=true)->(vL lv).length<=lv.length * 35
 | [],_=>by simp [vL]
 | x::r,h=>by
  have j:=kE (h x (by simp));have p:=lY (lv:=r) fun y f=>h y (by simp [f])
  grind [vL,xN,xJ,xZ]
section
variable {N:Nat} {h:Heap} {V:Nat->Prop}
theorem aAi {x:Bs} (h:jE x=true):1<=x.length/\x.length<=32:=by
 simp only [jE,xG] at h;exact kE h.1
theorem wK {x:Bs} (h:uA7 x):x.length<=66:=by
 rcases h with h | ⟨a,b,rfl,j,f⟩
 ·have:=aAi h;omega
 grind [aAi,xN,xJ,xZ]
theorem rA9 {lv:List Bs} (j:lv.length<=64) (f:∀ y∈lv,yG y=true):(dF lv).length<=2400:=by
 cases lv with
 | nil=>simp [dF]
 | cons x r=>
  grind [kE,lY,xJ,dF,xN,xZ]
def eAm:∀ {g:Nat} {p:PT},p.ok g->p.txt.length<=2500+g * 40
 | 0,p,h=>by cases p <;> cases h
 | g+1,.int,_=>by grind [PT.txt,xJ,xZ]
 | g+1,.bool,_=>by grind [PT.txt,xJ,xZ]
 | g+1,.st nm lv,⟨w,f,j⟩=>by
  grind [wK,rA9,PT.txt,xN]
 | g+1,.ref u lv t,⟨w,f,j⟩=>by
  have y:=eAm j
  cases lv with
  | nil=>cases u <;> simp only [PT.txt,xN,xJ,xZ,xM,xL,xE] <;> omega
  | cons x r=>
   have:=kE (f x (by simp))
   cases u <;> simp only [PT.txt,xN,xJ,xZ,xM,xL,xE] <;> omega
def uBd:∀ {g:Nat} {p:PT},p.ok g->isTy g p.D
 | 0,p,h=>by cases p <;> cases h
 | g+1,.int,_=>⟨1,[],[],[],rfl,by simp,by simp,by simp⟩
 | g+1,.bool,_=>⟨2,[],[],[],rfl,by simp,by simp,by simp⟩
 | g+1,.st nm lv,⟨u,r,f⟩=>⟨3,nm,lv,[],rfl,by omega,by simp,by simp⟩
 | g+1,.ref w lv t,⟨u,r,f⟩=>⟨_,[],lv,[t.D],rfl,by omega,by simp,fun e j=>by
   rw [List.mem_singleton] at j;subst j;exact uBd f⟩
end
end Qp
namespace Qp
abbrev KT:=Int×Bs
def kt (q:Tok):KT:=(q.1,q.2.1)
def Lx (t:Bs) (ks:List KT):Prop:=∀ (M a:Nat),t.length<M->∃ l,dAh M t a=.inl l/\l.map kt=ks
def LxB (t:Bs) (ks:List KT):Prop:=Lx (t.drop (jD false t)) ks
theorem Lx.nil:Lx [] []:=fun M a f=>by
 obtain ⟨M,rfl⟩:∃ m,M=m+1:=⟨M-1,by omega⟩;exact ⟨[],rfl,rfl⟩
theorem Lx.cons {t x:Bs} {k:Int} {n:Nat} {ks:List KT} (h:iD t=some (k,x,n)) (r:LxB (t.drop n) ks):Lx t ((k,x)::ks):=fun M a u=>by
 obtain ⟨M,rfl⟩:∃ m,M=m+1:=⟨M-1,by omega⟩
 cases t with
 | nil=>cases h
 | cons c q=>
  have p:=iQ h;have ⟨l,f,j⟩:=r M (a+(n+jD false ((c::q).drop n))) (by rw [List.length_drop,List.length_drop];omega);rw [List.drop_drop] at f;refine ⟨(k,x,a)::l,?_,by simp [kt,j]⟩;simp only [dAh,h,f]
def noB (t:Bs):Prop:=jD false t=0
theorem Lx.b {t:Bs} {ks:List KT} (h:noB t) (x:Lx t ks):LxB t ks:=by
 unfold LxB;rw [show jD false t=0 from h,List.drop_zero];exact x
def LxB.sp {t:Bs} {ks:List KT} (x:LxB t ks):LxB (32::t) ks:=by
 unfold LxB at x ⊢
 have:jD false (32::t)=jD false t+1:=by simp [jD,wH]
 rw [this,List.drop_succ_cons];exact x
theorem iO {c:UInt8} {r:Bs} (f:wH c=false) (h:c.toNat≠47):noB (c::r):=by
 have:lA7 [47,47] (c::r)=false:=by
  cases e:lA7 [47,47] (c::r)
  ·rfl
  ·exact absurd (uAx e).1 h
 simp [noB,jD,f,this]
def brk (t:Bs):Prop:=oN wJ t=false
def tW:∀ {x r:Bs},(∀ c∈x,wJ c=true)->brk r->runN (x++r)=x.length
 | [],r,_,h=>by
  cases r with
  | nil=>rfl
  | cons c q=>have:wJ c=false:=h;simp [runN,this]
 | c::x,r,f,h=>by
  have j:=tW (x:=x) (r:=r) (fun d hd=>f d (by simp [hd])) h;simp [runN,f c (by simp),j]
def vAz:∀ {x:Bs},runN x=x.length->∀ c∈x,wJ c=true
 | [],_,c,f=>by cases f
 | d::x,h,c,f=>by
  simp only [runN] at h
  split at h
  ·rename_i hd
   rcases List.mem_cons.1 f with rfl | f
   ·exact hd
   ·exact vAz (by simpa using h) c f
  ·simp at h
def yK {x:Bs} (h:yG x=true):∃ c q,x=c::q/\uC c=true/\(∀ c∈x,wJ c=true)/\x.length<=32:=by
 simp only [yG,xG,xU] at h;have ⟨⟨⟨p,r⟩,j⟩,f⟩:=h
 cases x with
 | nil=>simp at p
 | cons c q=>exact ⟨c,q,rfl,j,vAz f,r⟩
def eAu {c:UInt8} (h:uC c=true):wH c=false/\c.toNat≠47/\c.toNat≠39/\wJ c=true:=by
 have f:wJ c=true:=by simp [wJ,h]
 simp only [uC,Bool.or_eq_true,xU] at h;refine ⟨?_,by omega,by omega,f⟩;simp only [wH,Bool.or_eq_false_iff,xd];omega
def jAc {x r:Bs} (p:yG x=true) (w:isWord x=true) (j:brk r):iD (x++r)=some (2,x,x.length):=by
 obtain ⟨c,q,rfl,u,y,A⟩:=yK p;have h:=tW y j;have f:((c::q)++r).take (c::q).length=c::q:=List.take_left' rfl;simp only [List.cons_append] at h f ⊢;simp only [iD,u,xM,eU,h,f,w]
def kAc {x r:Bs} (f:jE x=true) (p:brk r):iD (x++r)=some (1,x,x.length):=by
 simp only [jE,xG,Bool.not_eq_true'] at f;have ⟨w,A⟩:=f;obtain ⟨c,q,rfl,y,B,u⟩:=yK w;have j:=tW B p;have h:((c::q)++r).take (c::q).length=c::q:=List.take_left' rfl;simp only [List.cons_append] at j h ⊢;simp only [iD,y,xM,eU,j,h,A,xE,xL,u]
def lAc {x r:Bs} (y:yG x=true) (p:brk r):iD (39::(x++r))=some (3,x,x.length+1):=by
 obtain ⟨c,q,rfl,B,C,u⟩:=yK y;have A:=tW C p;have w:((c::q)++r).take (c::q).length=c::q:=List.take_left' rfl;have F:oN uC ((c::q)++r)=true:=B;have j:uC 39=false:=rfl;have h:mD 39=false:=rfl;have f:(39:UInt8).toNat=39:=rfl;simp only [iD,j,h,f,xE,xL,xM,iY,A,w,F,u]
def aB6 {c:UInt8} (r:Bs) (f:c=38\/c=60\/c=62\/c=44):iD (c::r)=some (5,[c],1):=by
 rcases f with rfl | rfl | rfl | rfl <;>
 ·rw [iD,if_neg (by decide),if_neg (by decide),if_neg (by decide)]
  simp only [jI,two,gQ,lA7,xJ,xZ];cases r <;> simp [bB,gAv,fB5] <;> rfl
def fAm (r:Bs):iD (58::58::r)=some (5,[58,58],2):=by
 rw [iD,if_neg (by decide),if_neg (by decide),if_neg (by decide)];simp [jI,two,gQ,lA7,bB]
def bB6 (nm:Bs):List KT->Prop:=fun ks=>(jE nm=true/\ks=[(1,nm)])\/∃ a b,nm=a++[58,58]++b/\jE a=true/\jE b=true/\ks=[(1,a),(5,[58,58]),(1,b)]
def jO:List Bs->List KT
 | []=>[]
 | x::r=>(5,[44])::(3,x)::jO r
def fP:List Bs->List KT
 | []=>[]
 | x::r=>(5,[60])::(3,x)::(jO r++[(5,[62])])
def uD {c:UInt8} {r:Bs} (h:wJ c=false):brk (c::r):=h
def LxB.one {c:UInt8} {r:Bs} {ks:List KT} (f:c=38\/c=60\/c=62\/c=44) (x:LxB r ks):Lx (c::r) ((5,[c])::ks):=Lx.cons (aB6 r f) x
theorem iA2 (x r:Bs):(x++r).drop x.length=r:=List.drop_left' rfl
theorem LxB.life {x r:Bs} {ks:List KT} (h:yG x=true) (f:brk r) (q:LxB r ks):Lx (39::(x++r)) ((3,x)::ks):=by
 refine Lx.cons (lAc h f) ?_;rw [List.drop_succ_cons,iA2];exact q
def LxB.name {x r:Bs} {ks:List KT} (h:jE x=true) (f:brk r) (q:LxB r ks):Lx (x++r) ((1,x)::ks):=by
 refine Lx.cons (kAc h f) ?_;rw [iA2];exact q
def LxB.word {x r:Bs} {ks:List KT} (h:yG x=true) (j:isWord x=true) (f:brk r) (q:LxB r ks):Lx (x++r) ((2,x)::ks):=by
 refine Lx.cons (jAc h j f) ?_;rw [iA2];exact q
def vBd (r:Bs):noB (39::r):=iO (by rfl) (by decide)
def wBd {c:UInt8} (r:Bs) (f:c=38\/c=60\/c=62\/c=44):noB (c::r):=by
 rcases f with rfl | rfl | rfl | rfl <;> exact iO (by rfl) (by decide)
def gAq {x r:Bs} (h:yG x=true):noB (x++r):=by
 obtain ⟨c,q,rfl,f,_⟩:=yK h;have ⟨j,p,_⟩:=eAu f;exact iO j p
def bAi:∀ {lv:List Bs} {r:Bs} {ks:List KT},(∀ y∈lv,yG y=true)->brk r->LxB r ks->LxB (vL lv++r) (jO lv++ks)/\brk (vL lv++r)
 | [],r,ks,_,f,h=>⟨h,f⟩
 | x::l,r,ks,p,f,h=>by
  have ⟨u,j⟩:=bAi (lv:=l) (fun y w=>p y (by simp [w])) f h;have e:vL (x::l)++r=44::32::39::(x++(vL l++r)):=by simp [vL]
  rw [e];refine ⟨Lx.b (wBd _ (by simp)) (LxB.one (by simp) (LxB.sp (Lx.b (vBd _) (LxB.life (p x (by simp)) j u)))),rfl⟩
def cB6 {lv:List Bs} {r:Bs} {ks:List KT} (f:∀ y∈lv,yG y=true) (j:brk r) (h:LxB r ks):LxB (dF lv++r) (fP lv++ks)/\brk (dF lv++r):=by
 cases lv with
 | nil=>exact ⟨h,j⟩
 | cons x l=>
  have A:LxB (62::r) ((5,[62])::ks):=Lx.b (wBd _ (by simp)) (LxB.one (by simp) h);have ⟨B,u⟩:=bAi (lv:=l) (r:=62::r) (fun y w=>f y (by simp [w])) rfl A;have e:dF (x::l)++r=60::39::(x++(vL l++(62::r))):=by simp [dF]
  have p:fP (x::l)++ks=(5,[60])::(3,x)::(jO l++((5,[62])::ks)):=by simp [fP]
  rw [e,p];exact ⟨Lx.b (wBd _ (by simp)) (LxB.one (by simp) (Lx.b (vBd _) (LxB.life (f x (by simp)) u B))),rfl⟩
theorem tA9 {x:Bs} (h:jE x=true):yG x=true:=by
 simp only [jE,xG] at h;exact h.1
def dB6:List Bs->Bs
 | []=>[]
 | x::_=>39::(x++[32])
def gA1:List Bs->List KT
 | []=>[]
 | x::_=>[(3,x)]
def rBr (f:Bool):Bs:=if f=true then [109,117,116,32] else []
def uA9 (f:Bool):List KT:=if f=true then [(2,[109,117,116])] else []
def yBd (f:Bool) (lv:List Bs) (t:PT):(PT.ref f lv t).txt=38::(dB6 lv++(rBr f++t.txt)):=by
 cases lv <;> simp [PT.txt,dB6,rBr]
def ptK:PT->List KT->Prop
 | .int,ks=>ks=[(2,[105,110,116])]
 | .bool,ks=>ks=[(2,[98,111,111,108])]
 | .st nm lv,ks=>∃ ns,bB6 nm ns/\ks=ns++fP lv
 | .ref f lv t,ks=>∃ qs,ptK t qs/\ks=(5,[38])::(gA1 lv++(uA9 f++qs))
end Qp
namespace Qp
section
variable {N:Nat} {h:Heap}
end
section
variable {T l r:List Tok} {i:Nat} {k:Int} {x w:Bs} {a:Nat}
end
end Qp
namespace Qp
section
variable {T r:List Tok} {i a c:Nat}
theorem cAi (one:SC->D×SC) (f:Nat) (e:Int×Int):bF T one f ((i,some e),c)=(([],false),((i,some e),c)):=by
 cases f <;> simp [bF]
end
end Qp
namespace Qp
section
variable {T' T:List Tok} {E:Nat} {Bd:Int×Int->Prop} {α β γ:Type}
def fAu (F:St->α×St):SC->α×SC:=fun s=>((F s.1).1,((F s.1).2,s.2))
def eB9 (T:List Tok) (w:Bs) (Y X:SC->α×SC):SC->α×SC:=fun s=>if (uB T w s.1).1=true then Y ((uB T w s.1).2,s.2) else X ((uB T w s.1).2,s.2)
def isJ (T:List Tok) (w:Bs) (Y X:SC->α×SC):SC->α×SC:=fun s=>if (uB T w s.1).1=true then Y s else X s
def ifF (T:List Tok) (blk:SC->List D×SC):SC->(List D×Option (List D))×SC:=bnd blk fun t=>eB9 T [101,108,115,101] (nG (fun f=>(t,some f)) blk) (qI (t,none))
def ifV (a:Int) (o:D):List D×Option (List D)->D
 | (t,some f)=>smD { aF a with k:=4,has:=true } { bK with co:=o,th:=t,el:=f }
 | (t,none)=>smD { aF a with k:=4 } { bK with co:=o,th:=t }
def aBe (T:List Tok) (blk:SC->List D×SC) (a:Int):SC->D×SC:=
 eB9 T [108,101,116] (fAu (kAv T a)) (eB9 T [105,102] (bnd (fAu (gF T)) fun o=>nG (ifV a o) (ifF T blk))
  (eB9 T [119,104,105,108,101] (bnd (fAu (gF T)) fun o=>nG (fun t=>smD { aF a with k:=5 } { bK with co:=o,th:=t }) blk)
   (eB9 T [108,111,111,112] (nG (fun t=>smD { aF a with k:=6 } { bK with th:=t }) blk)
    (isJ T [123] (nG (fun t=>smD { aF a with k:=7 } { bK with th:=t }) blk) (fAu (bnd (uG T a) fun x=>nG (fun _=>x) (iE T [59])))))))
def bBe (T:List Tok) (blk:SC->List D×SC) (s:SC):vK T blk s=aBe T blk ((tk T s.1.1).2.2:Int) s:=by
 simp only [vK,aBe,eB9,isJ,fAu,bnd,nG,iE,ifF,qI]
 split
 ·rfl
 ·split
  ·split
   ·rename_i h;simp only [h,xM];rfl
   ·rename_i h;simp only [h,xE,xL];rfl
  ·split
   ·rfl
   ·split
    ·rfl
    ·split
     ·rename_i f j
      rfl
     ·rfl
def iAq {one:SC->D×SC} {f i c:Nat}:bF T one (f+1) ((i,none),c)=if isS T [125] i=true then (([],false),((i+1,none),c)) else if c=2000/\(tk T i).1≠0 then (([],true),(oG T 5 (i,none),c)) else (((one ((i,none),c+1)).1::(bF T one f (one ((i,none),c+1)).2).1.1,(bF T one f (one ((i,none),c+1)).2).1.2),(bF T one f (one ((i,none),c+1)).2).2):=by
 by_cases h:isS T [125] i=true <;> simp [bF,uB,h]
def jAq (r:List D×Bool):List D:=if r.2=true then [] else r.1
def kAq (T:List Tok) (g:Nat) (s:SC) (x:(List D×Bool)×SC) (h:bF T (vK T (aG T g)) 2001 (eD T [123] s.1,s.2)=x):aG T (g+1) s=(jAq x.1,x.2):=by
 simp only [aG,h,jAq]
abbrev HdR:=Bs×List D×List D×D
def kO (T:List Tok):St->HdR×St:=
 bnd (kC T 1) fun n=>bnd (lI T [60] (bnd (qD T (pW T) [44]) fun l=>nG (fun _=>l) (iE T [62])) (qI [])) fun l=>bnd (iE T [40]) fun _=>bnd (lI T [41] (qI []) (bnd (qD T (jG T) [44]) fun p=>nG (fun _=>p) (iE T [41]))) fun p=>bnd (lI T [45,62] (nJ T 64) (qI ty0D)) fun t=>qI (n,l,p,t)
def fnD (pub:Bool) (a:Int) (x:HdR) (b:List D):D:=fuD (vI pub x.1 a) ⟨x.2.1,x.2.2.1,x.2.2.2,b⟩
def lAq (T:List Tok) (pub:Bool) (a:Int) (σ:St):oJ T pub a σ=(fnD pub a (kO T σ).1 (aG T 64 ((kO T σ).2,0)).1,(aG T 64 ((kO T σ).2,0)).2):=by
 simp only [oJ,kO,bnd,nG,qI,iE,lI,fnD]
 split <;> split <;> split <;> rfl
end
end Qp
namespace Qp
noncomputable section
def f115 (N:Nat) (j:SL) (h:Heap):yO0 SL:=(tD (.val zJ3) (nB E 38 38 yS0 (yL j) h) fun f p=>some (f,p))
def lBm:Ann:=.n
def lA5 (N:Nat):pC Tryz.prog 115 [zJ3] (.val zJ3) (fun x h=>f115 N x.1 h):=kD kA N lBm Tryz.f115
def uW (N:Nat) (f:zX->Heap->yO0 zX) (O:zH3->zH3->SL->SL->Int->Int->Heap->Option (Out×zJ1×Heap)) (K v2:zH3) (v3 p:SL) (w j:Int) (h:Heap):Option (Out×zJ1×Heap):=let M:=ltInt j w;(bif M then(ixK p.a p.len j 4 fun L=>(iA (.val zD) (h.cells L 4) fun F=>let I:=h.push (.row yZG .own);(vA (I.store (h.next,0) (yRE F)) fun u=>(iA (.val zD) (u.cells (h.next,0) 4) fun y=>(jA (f y u) fun C r=>let J:=r.push (.row (yRE C) .own);(tD (.val zJ3) (nB E 39 39 (yL v3) (.slice (some (r.next,0)) 1 1 4) J) fun A H=>let B:=fB .i64 (j+1);O K v2 A p w B H))))))else some ((Out.exit 0),(K,v2,v3,()),h))
def mA5 (N:Nat) (f:zX->Heap->yO0 zX) (M:Nat) (u v2:zH3) (v3 j:SL) (p r:Int) (h:Heap):Option (Out×zJ1×Heap):=iter (fun w s h=>uW N f (fun u v2 v3 j p r h=>w (u,v2,v3,j,p,r,()) h) s.1 s.2.1 s.2.2.1 s.2.2.2.1 s.2.2.2.2.1 s.2.2.2.2.2.1 h) M (u,v2,v3,j,p,r,()) h
theorem dA0 (N rec117 M v1 v2 v3 v11 v12 v13 h):mA5 N rec117 (M+1) v1 v2 v3 v11 v12 v13 h=uW N rec117 (mA5 N rec117 M) v1 v2 v3 v11 v12 v13 h:=rfl
def wAz (N:Nat) (j:zX->Heap->yO0 zX) (L:zX) (h:Heap):yO0 zX:=let H:=h.push (.row (yRE L) .own);let K:=H.push (.row yZG .own);(iA (.val zJ3) (K.cell (h.next,2)) fun Q=>(jA (f115 N Q K) fun O M=>(vA (M.store (h.next,2) [(yL O)]) fun I=>(iA (.val zJ3) (I.cell (h.next,3)) fun J=>(rD (mA5 N j N (some (h.next,0)) (some (H.next,0)) ⟨none,0,0,0⟩ J (Int.ofNat J.len) 0 I) fun _ (f:zJ1) B=>(vA f.1 fun r=>(vA (B.store (r.1,r.2+3) [(yL f.2.2.1)]) fun p=>(vA f.1 fun A=>(iA (.val zD) (p.cells A 4) fun C=>(vA f.2.1 fun w=>(vA (p.store w (yRE C)) fun u=>(vA f.2.1 fun F=>(iA (.val zD) (u.cells F 4) fun y=>some (y,u))))))))))))))
def mBm:Ann:=(.two .n (.two .n (.two .n (.two (.two .n (.two (.loop [(1,zI3),(2,zI3),(3,zJ3),(11,zJ3),(12,zM3),(13,zM3)] [(.exit 0)] [(1,zI3),(2,zI3),(3,zJ3)] .n) .n)) .n))))
def cBe (N M:Nat):((zX->Heap->yO0 zX)×Unit):=Nat.rec (fun _ _=>none,()) (fun _ r=>(wAz N r.1,())) M
def f117 (N M:Nat):zX->Heap->yO0 zX:=(cBe N M).1
def yAz (N M a0 h):f117 N (M+1) a0 h=wAz N (f117 N M) a0 h:=rfl
def nA5 (N:Nat):∀ M:Nat,(pC Tryz.prog 117 [zD] (.val zD) (fun x h=>f117 N M x.1 h))/\True
 | 0=>⟨(fun xs h r h' f=>by cases f),trivial⟩
 | M+1=>⟨kD (bA (nA5 N M).1 (bA (lA5 N) kA)) N mBm Tryz.f117,trivial⟩
def gAm (N:Nat):pC Tryz.prog 117 [zD] (.val zD) (fun x h=>f117 N N x.1 h):=(nA5 N N).1
def vW (N:Nat) (M:SL->SL->Int->Int->Heap->Option (Out×zJ2×Heap)) (v3 j:SL) (C r:Int) (h:Heap):Option (Out×zJ2×Heap):=let F:=ltInt r C;(bif F then(ixK j.a j.len r 6 fun J=>(iA (.val zP) (h.cells J 6) fun O=>let H:=h.push (.row yZD .own);(vA (H.store (h.next,0) (yRF O)) fun B=>(iA (.val zD) (B.cells (h.next,2) 4) fun K=>(jA (f117 N N K B) fun L I=>(vA (I.store (h.next,2) (yRE L)) fun f=>(iA (.val zP) (f.cells (h.next,0) 6) fun w=>let A:=f.push (.row (yRF w) .own);(tD (.val zJ3) (nB E 37 37 (yL v3) (.slice (some (f.next,0)) 1 1 6) A) fun y p=>let u:=fB .i64 (r+1);M y j C u p))))))))else some ((Out.exit 0),(v3,()),h))
def mAc (N M:Nat) (v3 j:SL) (p f:Int) (h:Heap):Option (Out×zJ2×Heap):=iter (fun r s h=>vW N (fun v3 j p f h=>r (v3,j,p,f,()) h) s.1 s.2.1 s.2.2.1 s.2.2.2.1 h) M (v3,j,p,f,()) h
theorem eA0 (N M v3 v6 v7 v8 h):mAc N (M+1) v3 v6 v7 v8 h=vW N (mAc N M) v3 v6 v7 v8 h:=rfl
def f116 (N:Nat) (p:SL) (h:Heap):yO0 SL:=(rD (mAc N N ⟨none,0,0,0⟩ p (Int.ofNat p.len) 0 h) fun _ (f:zJ2) j=>some (f.1,j))
def nBm:Ann:=(.two .n (.two .n (.two (.two .n (.two (.loop [(3,zJ3),(6,zJ3),(7,zM3),(8,zM3)] [(.exit 0)] [(3,zJ3)] .n) .n)) .n)))
def aB0 (N:Nat):pC Tryz.prog 116 [zJ3] (.val zJ3) (fun x h=>f116 N x.1 h):=kD (bA (gAm N) kA) N nBm Tryz.f116
def f76 (N:Nat) (F:zF1) (h:Heap):yO0 zF1:=let p:=h.push (.row (yRG F) .own);let y:=p.push (.row yZF .own);(iA (.val zJ3) (y.cell (h.next,2)) fun J=>(jA (f115 N J y) fun I A=>(vA (A.store (h.next,2) [(yL I)]) fun w=>(iA (.val zJ3) (w.cell (h.next,3)) fun B=>(jA (f116 N B w) fun C H=>(vA (H.store (h.next,3) [(yL C)]) fun j=>(iA (.val zJ) (j.cells (h.next,0) 5) fun r=>(vA (j.store (p.next,0) (yRG r)) fun f=>(iA (.val zJ) (f.cells (p.next,0) 5) fun u=>some (u,f))))))))))
def gBt:Ann:=.n
def oBm (N:Nat):pC Tryz.prog 76 [zJ] (.val zJ) (fun x h=>f76 N x.1 h):=kD (bA (aB0 N) (bA (lA5 N) kA)) N gBt Tryz.f76
def f167 (N:Nat) (A:zD1) (h:Heap):yO0 zD1:=let f:=h.push (.row (yRH A) .own);let r:=f.push (.row yZI .own);(iA (.val zJ3) (r.cell (h.next,1)) fun C=>(jA (f115 N C r) fun B u=>(vA (u.store (h.next,1) [(yL B)]) fun j=>(iA (.val zM) (j.cells (h.next,0) 2) fun y=>(vA (j.store (f.next,0) (yRH y)) fun p=>(iA (.val zM) (p.cells (f.next,0) 2) fun w=>some (w,p)))))))
def pBm:Ann:=.n
def iAm (N:Nat):pC Tryz.prog 167 [zM] (.val zM) (fun x h=>f167 N x.1 h):=kD (bA (lA5 N) kA) N pBm Tryz.f167
def f169 (N:Nat) (A:zZ) (h:Heap):yO0 zZ:=let f:=h.push (.row (yRD A) .own);let r:=f.push (.row yZH .own);(iA (.val zM) (r.cells (h.next,2) 2) fun C=>(jA (f167 N C r) fun B u=>(vA (u.store (h.next,2) (yRH B)) fun j=>(iA (.val zG) (j.cells (h.next,0) 4) fun y=>(vA (j.store (f.next,0) (yRD y)) fun p=>(iA (.val zG) (p.cells (f.next,0) 4) fun w=>some (w,p)))))))
def qBm:Ann:=.n
def bB0 (N:Nat):pC Tryz.prog 169 [zG] (.val zG) (fun x h=>f169 N x.1 h):=kD (bA (iAm N) kA) N qBm Tryz.f169
def wW (N:Nat) (M:zH3->zH3->SL->SL->Int->Int->Heap->Option (Out×zJ1×Heap)) (L v2:zH3) (v3 f:SL) (p j:Int) (h:Heap):Option (Out×zJ1×Heap):=let I:=ltInt j p;(bif I then(ixK f.a f.len j 4 fun w=>(iA (.val zG) (h.cells w 4) fun B=>let K:=h.push (.row yZH .own);(vA (K.store (h.next,0) (yRD B)) fun r=>(iA (.val zG) (r.cells (h.next,0) 4) fun J=>(jA (f169 N J r) fun C u=>let y:=u.push (.row (yRD C) .own);(tD (.val zJ3) (nB E 102 102 (yL v3) (.slice (some (u.next,0)) 1 1 4) y) fun F A=>let H:=fB .i64 (j+1);M L v2 F f p H A))))))else some ((Out.exit 0),(L,v2,v3,()),h))
def pA5 (N M:Nat) (r v2:zH3) (v3 p:SL) (f j:Int) (h:Heap):Option (Out×zJ1×Heap):=iter (fun u s h=>wW N (fun r v2 v3 p f j h=>u (r,v2,v3,p,f,j,()) h) s.1 s.2.1 s.2.2.1 s.2.2.2.1 s.2.2.2.2.1 s.2.2.2.2.2.1 h) M (r,v2,v3,p,f,j,()) h
theorem fA0 (N M v1 v2 v3 v23 v24 v25 h):pA5 N (M+1) v1 v2 v3 v23 v24 v25 h=wW N (pA5 N M) v1 v2 v3 v23 v24 v25 h:=rfl
def f168 (N:Nat) (a0:zW) (h:Heap):yO0 zW:=let Y:=h.push (.row (yRB a0) .own);let A:=Y.push (.row yZB .own);(iA (.val zG) (A.cells (h.next,1) 4) fun Z=>(jA (f169 N Z A) fun x4 B=>(iA (.val zG) (B.cells (h.next,5) 4) fun R=>(jA (f169 N R B) fun x7 F=>(iA (.val zM) (F.cells (h.next,10) 2) fun C=>(jA (f167 N C F) fun S W=>(vA (W.store (h.next,1) (yRD x4)) fun Q=>(vA (Q.store (h.next,5) (yRD x7)) fun J=>(vA (J.store (h.next,10) (yRH S)) fun p=>(pD (bif (jB (F.cells (h.next,10) 2) (.agg (yRH C))) then (bif (jB (B.cells (h.next,10) 2) (.agg (yRH C))) then (bif (jB (A.cells (h.next,10) 2) (.agg (yRH C))) then (bif (jB (B.cells (h.next,5) 4) (.agg (yRD R))) then (bif (jB (A.cells (h.next,5) 4) (.agg (yRD R))) then (bif (jB (A.cells (h.next,1) 4) (.agg (yRD Z))) then true else false) else false) else false) else false) else false) else false) ((iA (.val zJ3) (p.cell (h.next,13)) fun K=>(jA (f115 N K p) fun I H=>(vA (H.store (h.next,13) [(yL I)]) fun w=>
 (iA (.val zJ3) (w.cell (h.next,14)) fun u=>(rD (pA5 N N (some (h.next,0)) (some (Y.next,0)) ⟨none,0,0,0⟩ u (Int.ofNat u.len) 0 w) fun _ (f:zJ1) U=>(vA f.1 fun y=>(vA (U.store (y.1,y.2+14) [(yL f.2.2.1)]) fun r=>(vA f.1 fun L=>(iA (.val zC) (r.cells L 15) fun V=>(vA f.2.1 fun O=>(vA (r.store O (yRB V)) fun j=>(vA f.2.1 fun M=>(iA (.val zC) (j.cells M 15) fun X=>some (X,j)))))))))))))))))))))))))
def rBm:Ann:=(.two .n (.two .n (.two .n (.two .n (.two (.two .n (.two (.loop [(1,zI3),(2,zI3),(3,zJ3),(23,zJ3),(24,zM3),(25,zM3)] [(.exit 0)] [(1,zI3),(2,zI3),(3,zJ3)] .n) .n)) .n)))))
def dBe (N:Nat):pC Tryz.prog 168 [zC] (.val zC) (fun x h=>f168 N x.1 h):=kD (bA (bB0 N) (bA (iAm N) (bA (lA5 N) kA))) N rBm Tryz.f168
def uQ (N:Nat) (f:SL->Heap->yO0 SL) (go:SL->SL->Int->Int->Heap->Option (Out×zJ2×Heap)) (v3 R:SL) (v7 U:Int) (h:Heap):Option (Out×zJ2×Heap):=let x1:=ltInt U v7;(bif x1 then(ixK R.a R.len U 32 fun q2=>(iA (.val zA) (h.cells q2 32) fun x3=>let h4:=h.push (.row yZA .own);(vA (h4.store (h.next,0) (yRA x3)) fun C=>(iA (.val zD) (C.cells (h.next,4) 4) fun x6=>(jA (f117 N N x6 C) fun x7 F=>(iA (.val zM) (F.cells (h.next,9) 2) fun Z=>(jA (f167 N Z F) fun a0 u=>(iA (.val zC) (u.cells (h.next,11) 15) fun r=>(jA (f168 N r u) fun K w=>(iA (.val zG) (w.cells (h.next,26) 4) fun j=>(jA (f169 N j w) fun L J=>(vA (J.store (h.next,4) (yRE x7)) fun a1=>(vA (a1.store (h.next,9) (yRH a0)) fun M=>(vA (M.store (h.next,11) (yRB K)) fun a3=>(vA (a3.store (h.next,26) (yRD L)) fun p=>(pD (bif (jB (w.cells (h.next,26) 4) (.agg (yRD j))) then (bif (jB (u.cells (h.next,26) 4) (.agg (yRD j))) then (bif (jB (F.cells (h.next,26) 4) (.agg (yRD j))) then (bif (jB (C.cells (h.next,26) 4) (.agg (yRD j))) then (bif (jB (u.cells (h.next,11) 15) (.agg (yRB r))) then (bif (jB (F.cells (h.next,11) 15) (.agg (yRB r))) then (bif (jB (C.cells (h.next,11) 15) (.agg (yRB r))) then (bif (jB (F.cells (h.next,9) 2) (.agg (yRH Z))) then (bif (jB (C.cells (h.next,9) 2) (.agg (yRH Z))) then (bif (jB (C.cells (h.next,4) 4) (.agg (yRE x6))) then true else false) else false) else false) else false) else false) else false) else false) else false) else false) else false) (
 (iA (.val zJ3) (p.cell (h.next,30)) fun H=>(jA (f H p) fun S y=>(iA (.val zJ3) (y.cell (h.next,31)) fun B=>(jA (f B y) fun Y V=>(vA (V.store (h.next,30) [(yL S)]) fun Q=>(vA (Q.store (h.next,31) [(yL Y)]) fun A=>(pD (bif (jB (y.cell (h.next,31)) (yL B)) then (bif (jB (p.cell (h.next,31)) (yL B)) then (bif (jB (p.cell (h.next,30)) (yL H)) then true else false) else false) else false) ((iA (.val zA) (A.cells (h.next,0) 32) fun O=>let X:=A.push (.row (yRA O) .own);(tD (.val zJ3) (nB E 42 42 (yL v3) (.slice (some (A.next,0)) 1 1 32) X) fun W a2=>let I:=fB .i64 (U+1);go W R v7 I a2)))))))))))))))))))))))))))else some ((Out.exit 0),(v3,()),h))
def nAc (N:Nat) (f:SL->Heap->yO0 SL) (M:Nat) (v3 p:SL) (r j:Int) (h:Heap):Option (Out×zJ2×Heap):=iter (fun u s h=>uQ N f (fun v3 p r j h=>u (v3,p,r,j,()) h) s.1 s.2.1 s.2.2.1 s.2.2.2.1 h) M (v3,p,r,j,()) h
def vQ (N rec118 M v3 v6 v7 v8 h):nAc N rec118 (M+1) v3 v6 v7 v8 h=uQ N rec118 (nAc N rec118 M) v3 v6 v7 v8 h:=rfl
def mAq (N:Nat) (f:SL->Heap->yO0 SL) (r:SL) (h:Heap):yO0 SL:=(rD (nAc N f N ⟨none,0,0,0⟩ r (Int.ofNat r.len) 0 h) fun _ (j:zJ2) p=>some (j.1,p))
def tBm:Ann:=(.two .n (.two .n (.two (.two .n (.two (.loop [(3,zJ3),(6,zJ3),(7,zM3),(8,zM3)] [(.exit 0)] [(3,zJ3)] .n) .n)) .n)))
def eBe (N M:Nat):((SL->Heap->yO0 SL)×Unit):=Nat.rec (fun _ _=>none,()) (fun _ r=>(mAq N r.1,())) M
def f118 (N M:Nat):SL->Heap->yO0 SL:=(eBe N M).1
def dAi (N M a0 h):f118 N (M+1) a0 h=mAq N (f118 N M) a0 h:=rfl
def qA5 (N:Nat):∀ M:Nat,(pC Tryz.prog 118 [zJ3] (.val zJ3) (fun x h=>f118 N M x.1 h))/\True
 | 0=>⟨(fun xs h r h' f=>by cases f),trivial⟩
 | M+1=>⟨kD (bA (bB0 N) (bA (dBe N) (bA (iAm N) (bA (qA5 N M).1 (bA (gAm N) kA))))) N tBm Tryz.f118,trivial⟩
def fBe (N:Nat):pC Tryz.prog 118 [zJ3] (.val zJ3) (fun x h=>f118 N N x.1 h):=(qA5 N N).1
def jA2 (N:Nat) (M:zH3->zH3->SL->SL->Int->Int->Heap->Option (Out×zJ1×Heap)) (H v2:zH3) (v3 w:SL) (I r:Int) (h:Heap):Option (Out×zJ1×Heap):=let K:=ltInt r I;(bif K then(ixK w.a w.len r 2 fun O=>(iA (.val zM) (h.cells O 2) fun L=>let J:=h.push (.row yZI .own);(vA (J.store (h.next,0) (yRH L)) fun j=>(iA (.val zK3) (j.cell (h.next,0)) fun F=>(iA (.val zJ3) (j.cell (h.next,1)) fun p=>(jA (f115 N p j) fun B f=>let y:=f.push (.row [(.str F),(yL B)] .own);(tD (.val zJ3) (nB E 36 36 (yL v3) (.slice (some (f.next,0)) 1 1 2) y) fun C A=>(pD (bif (jB (j.cell (h.next,1)) (yL p)) then (bif (jB (f.cell (h.next,0)) (.str F)) then (bif (jB (j.cell (h.next,0)) (.str F)) then true else false) else false) else false) ( let u:=fB .i64 (r+1);M H v2 C w I u A)))))))))else some ((Out.exit 0),(H,v2,v3,()),h))
def vA9 (N M:Nat) (j v2:zH3) (v3 r:SL) (f p:Int) (h:Heap):Option (Out×zJ1×Heap):=iter (fun u s h=>jA2 N (fun j v2 v3 r f p h=>u (j,v2,v3,r,f,p,()) h) s.1 s.2.1 s.2.2.1 s.2.2.2.1 s.2.2.2.2.1 s.2.2.2.2.2.1 h) M (j,v2,v3,r,f,p,()) h
theorem rA5 (N M v1 v2 v3 v7 v8 v9 h):vA9 N (M+1) v1 v2 v3 v7 v8 v9 h=jA2 N (vA9 N M) v1 v2 v3 v7 v8 v9 h:=rfl
def f77 (N:Nat) (a0:zA1) (h:Heap):yO0 zA1:=let h1:=h.push (.row (yRC a0) .own);let h2:=h1.push (.row yZC .own);(iA (.val zJ3) (h2.cell (h.next,2)) fun x3=>(rD (vA9 N N (some (h.next,0)) (some (h1.next,0)) ⟨none,0,0,0⟩ x3 (Int.ofNat x3.len) 0 h2) fun _ (f:zJ1) Q=>(vA f.1 fun y=>(vA (Q.store (y.1,y.2+2) [(yL f.2.2.1)]) fun w=>(vA f.1 fun F=>(iA (.val zJ3) (w.cell (F.1,F.2+3)) fun V=>(jA (f116 N V w) fun K J=>(vA f.1 fun u=>(vA (J.store (u.1,u.2+3) [(yL K)]) fun C=>(vA f.1 fun r=>(iA (.val zD) (C.cells (r.1,r.2+4) 4) fun Y=>(jA (f117 N N Y C) fun S W=>(vA f.1 fun H=>(vA (W.store (H.1,H.2+4) (yRE S)) fun I=>(vA f.1 fun B=>(iA (.val zJ3) (I.cell (B.1,B.2+8)) fun M=>(jA (f118 N N M I) fun X L=>(vA f.1 fun j=>(vA (L.store (j.1,j.2+8) [(yL X)]) fun p=>(vA f.1 fun Z=>(iA (.val zE) (p.cells Z 10) fun O=>(vA f.2.1 fun a1=>(vA (p.store a1 (yRC O)) fun A=>(vA f.2.1 fun R=>(iA (.val zE) (A.cells R 10) fun U=>some (U,A))))))))))))))))))))))))))
def iBt:Ann:=(.two .n (.two .n (.two (.two .n (.two (.loop [(1,zI3),(2,zI3),(3,zJ3),(7,zJ3),(8,zM3),(9,zM3)] [(.exit 0)] [(1,zI3),(2,zI3),(3,zJ3)] .n) .n)) .n)))
def uBm (N:Nat):pC Tryz.prog 77 [zE] (.val zE) (fun x h=>f77 N x.1 h):=kD (bA (fBe N) (bA (gAm N) (bA (aB0 N) (bA (lA5 N) kA)))) N iBt Tryz.f77
noncomputable def yW (N:Nat) (f:SL->Heap->yO0 (Unit)) (J:SL->Int->Int->Heap->Option (Out×(Unit)×Heap)) (j:SL) (v4 v5:Int) (h:Heap):Option (Out×(Unit)×Heap):=let C:=ltInt v5 v4;(bif C then(ixK j.a j.len v5 32 fun y=>(vA (h.store (y.1,y.2+1) yZK) fun u=>(ixK j.a j.len v5 32 fun B=>(iA (.val zJ3) (u.cell (B.1,B.2+30)) fun I=>(jA (f I u) fun K w=>(ixK j.a j.len v5 32 fun A=>(iA (.val zJ3) (w.cell (A.1,A.2+31)) fun F=>(jA (f F w) fun H r=>let p:=fB .i64 (v5+1);J j v4 p r))))))))else some ((Out.exit 0),(()),h))
def nAq (N:Nat) (f:SL->Heap->yO0 (Unit)) (M:Nat) (j:SL) (v4 v5:Int) (h:Heap):Option (Out×(Unit)×Heap):=iter (fun p s h=>yW N f (fun j v4 v5 h=>p (j,v4,v5,()) h) s.1 s.2.1 s.2.2.1 h) M (j,v4,v5,()) h
theorem lU (N rec78 M v0 v4 v5 h):nAq N rec78 (M+1) v0 v4 v5 h=yW N rec78 (nAq N rec78 M) v0 v4 v5 h:=rfl
def eB6 (N:Nat) (f:SL->Heap->yO0 (Unit)) (p:SL) (h:Heap):yO0 (Unit):=(rD (nAq N f N p (Int.ofNat p.len) 0 h) fun _ (r:(Unit)) j=>some ((()),j))
def jBt:Ann:=(.two .n (.two (.loop [(0,zJ3),(4,zM3),(5,zM3)] [(.exit 0)] [] .n) .n))
def vBm (N M:Nat):((SL->Heap->yO0 (Unit))×Unit):=Nat.rec (fun _ _=>none,()) (fun _ r=>(eB6 N r.1,())) M
def f78 (N M:Nat):SL->Heap->yO0 (Unit):=(vBm N M).1
def oAq (N M a0 h):f78 N (M+1) a0 h=eB6 N (f78 N M) a0 h:=rfl
def wA9 (N:Nat):∀ M:Nat,(pC Tryz.prog 78 [zJ3] (.tup []) (fun x h=>f78 N M x.1 h))/\True
 | 0=>⟨(fun xs h r h' f=>by cases f),trivial⟩
 | M+1=>⟨kD (bA (wA9 N M).1 kA) N jBt Tryz.f78,trivial⟩
def wBm (N:Nat):pC Tryz.prog 78 [zJ3] (.tup []) (fun x h=>f78 N N x.1 h):=(wA9 N N).1
def kA2 (N:Nat) (Y:zH3->zH3->SL->Int->Int->Heap->Option (Out×zU×Heap)) (v2 v3:zH3) (p:SL) (w j:Int) (h:Heap):Option (Out×zU×Heap):=let V:=ltInt j w;(bif V then(ixK p.a p.len j 10 fun C=>(iA (.val zE) (h.cells C 10) fun W=>let Q:=h.push (.row yZC .own);(vA (Q.store (h.next,0) (yRC W)) fun y=>(iA (.val zE) (y.cells (h.next,0) 10) fun H=>(jA (f77 N H y) fun K M=>(vA (M.store (h.next,0) (yRC K)) fun I=>(vA (I.store (h.next,9) yZK) fun u=>(iA (.val zJ3) (u.cell (h.next,8)) fun B=>(jA (f78 N N B u) fun X f=>(vA v3 fun A=>(iA (.val zJ3) (f.cell (A.1,A.2+1)) fun U=>(iA (.val zE) (f.cells (h.next,0) 10) fun F=>let R:=f.push (.row (yRC F) .own);(tD (.val zJ3) (nB E 23 23 (yL U) (.slice (some (f.next,0)) 1 1 10) R) fun S J=>(vA v3 fun r=>(vA (J.store (r.1,r.2+1) [(yL S)]) fun O=>let L:=fB .i64 (j+1);Y v2 v3 p w L O)))))))))))))))else some ((Out.exit 2),(v2,v3,()),h))
def yA9 (N M:Nat) (v2 v3:zH3) (p:SL) (f j:Int) (h:Heap):Option (Out×zU×Heap):=iter (fun r s h=>kA2 N (fun v2 v3 p f j h=>r (v2,v3,p,f,j,()) h) s.1 s.2.1 s.2.2.1 s.2.2.2.1 s.2.2.2.2.1 h) M (v2,v3,p,f,j,()) h
theorem tA5 (N M v2 v3 v26 v27 v28 h):yA9 N (M+1) v2 v3 v26 v27 v28 h=kA2 N (yA9 N M) v2 v3 v26 v27 v28 h:=rfl
def lA2 (N:Nat) (W:zH3->zH3->zH3->SL->Int->Int->Heap->Option (Out×zE1×Heap)) (O v2 v3:zH3) (w:SL) (u j:Int) (h:Heap):Option (Out×zE1×Heap):=let V:=ltInt j u;(bif V then(ixK w.a w.len j 5 fun S=>(iA (.val zJ) (h.cells S 5) fun U=>let R:=h.push (.row yZF .own);(vA (R.store (h.next,0) (yRG U)) fun Q=>(iA (.val zJ) (Q.cells (h.next,0) 5) fun K=>(jA (f76 N K Q) fun I J=>(vA (J.store (h.next,0) (yRG I)) fun C=>(vA (C.store (h.next,4) yZK) fun f=>(vA v3 fun p=>(iA (.val zJ3) (f.cell (p.1,p.2+0)) fun y=>(iA (.val zJ) (f.cells (h.next,0) 5) fun A=>let L:=f.push (.row (yRG A) .own);(tD (.val zJ3) (nB E 22 22 (yL y) (.slice (some (f.next,0)) 1 1 5) L) fun F M=>(vA v3 fun r=>(vA (M.store (r.1,r.2+0) [(yL F)]) fun H=>let B:=fB .i64 (j+1);W O v2 v3 w u B H)))))))))))))else some ((Out.exit 0),(O,v2,v3,()),h))
def aAa (N M:Nat) (p v2 v3:zH3) (r:SL) (j f:Int) (h:Heap):Option (Out×zE1×Heap):=iter (fun u s h=>lA2 N (fun p v2 v3 r j f h=>u (p,v2,v3,r,j,f,()) h) s.1 s.2.1 s.2.2.1 s.2.2.2.1 s.2.2.2.2.1 s.2.2.2.2.2.1 h) M (p,v2,v3,r,j,f,()) h
theorem uA5 (N M v1 v2 v3 v9 v10 v11 h):aAa N (M+1) v1 v2 v3 v9 v10 v11 h=lA2 N (aAa N M) v1 v2 v3 v9 v10 v11 h:=rfl
def f31 (N:Nat) (M:zR1) (h:Heap):yO0 zR1:=let J:=h.push (.row (yRJ M) .own);let L:=J.push (.row yZJ .own);let I:=L.push (.row yZJ .own);(iA (.val zJ3) (I.cell (h.next,0)) fun K=>(rD (aAa N N (some (h.next,0)) (some (J.next,0)) (some (L.next,0)) K (Int.ofNat K.len) 0 I) fun _ (f:zE1) p=>(vA f.1 fun y=>(iA (.val zJ3) (p.cell (y.1,y.2+1)) fun w=>(rD (yA9 N N f.2.1 f.2.2.1 w (Int.ofNat w.len) 0 p) fun _ (j:zU) r=>(vA j.2.1 fun A=>(iA (.val zQ) (r.cells A 2) fun F=>(vA j.1 fun H=>(vA (r.store H (yRJ F)) fun u=>(vA j.1 fun C=>(iA (.val zQ) (u.cells C 2) fun B=>some (B,u))))))))))))
def kBt:Ann:=(.two .n (.two .n (.two (.two .n (.two (.loop [(1,zI3),(2,zI3),(3,zI3),(9,zJ3),(10,zM3),(11,zM3)] [(.exit 0)] [(1,zI3),(2,zI3),(3,zI3)] .n) .n)) (.two (.two .n (.two (.loop [(2,zI3),(3,zI3),(26,zJ3),(27,zM3),(28,zM3)] [(.exit 2)] [(2,zI3),(3,zI3)] .n) .n)) .n))))
def yBm (N:Nat):pC Tryz.prog 31 [zQ] (.val zQ) (fun x h=>f31 N x.1 h):=kD (bA (wBm N) (bA (uBm N) (bA (oBm N) kA))) N kBt Tryz.f31
noncomputable def vA5 (N:Nat) (F:SL->SL->Bool->Int->Int->Heap->Option (Out×zI1×Heap)) (r p:SL) (v4:Bool) (j f:Int) (h:Heap):Option (Out×zI1×Heap):=let B:=ltInt f j;(bif B then(ixK r.a r.len f 1 fun C=>(iA (.val zK3) (h.cell C) fun H=>(ixK p.a p.len f 1 fun y=>(iA (.val zK3) (h.cell y) fun u=>let w:=!bB H u;(bif w then some (Out.ret,(false,()),h)else let A:=fB .i64 (f+1);F r p v4 j A h)))))else some ((Out.exit 0),(v4,()),h))
def oAc (N M:Nat) (r p:SL) (v4:Bool) (f j:Int) (h:Heap):Option (Out×zI1×Heap):=iter (fun u s h=>vA5 N (fun r p v4 f j h=>u (r,p,v4,f,j,()) h) s.1 s.2.1 s.2.2.1 s.2.2.2.1 s.2.2.2.2.1 h) M (r,p,v4,f,j,()) h
def eAi (N M v0 v1 v4 v12 v13 h):oAc N (M+1) v0 v1 v4 v12 v13 h=vA5 N (oAc N M) v0 v1 v4 v12 v13 h:=rfl
def f106 (N:Nat) (j r:SL) (h:Heap):yO0 Bool:=let u:=!pA (Int.ofNat j.len) (Int.ofNat r.len);(bif u then some (false,h)else(rD (oAc N N j r false (Int.ofNat j.len) 0 h) fun w (p:zI1) f=>(bif vD w (.exit 0) then some (true,f)else some (p.1,f))))
def aBn:Ann:=(.two .n (.two .n (.two (.two .n (.two (.loop [(0,zJ3),(1,zJ3),(4,zL3),(12,zM3),(13,zM3)] [(.exit 0),.ret] [(4,zL3)] .n) .n)) .n)))
def wA5 (N:Nat):pC Tryz.prog 106 [zJ3,zJ3] (.val zL3) (fun x h=>f106 N x.1 x.2.1 h):=kD kA N aBn Tryz.f106
def pAq (N:Nat) (w:zX->zX->Heap->yO0 Bool) (f r:SL->SL->(Unit)->Heap->yO0 Bool) (I R:zX) (h:Heap):yO0 Bool:=let u:=h.push (.row (yRE I) .own);let p:=u.push (.row (yRE R) .own);(iA (.val zM3) (p.cell (h.next,0)) fun S=>(iA (.val zM3) (p.cell (u.next,0)) fun J=>let Q:=pA S J;(bif Q then(iA (.val zK3) (p.cell (h.next,1)) fun K=>(iA (.val zK3) (p.cell (u.next,1)) fun M=>let O:=bB K M;(bif O then(iA (.val zJ3) (p.cell (h.next,2)) fun L=>(iA (.val zJ3) (p.cell (u.next,2)) fun F=>(jA (f106 N L F p) fun B j=>(bif B then(iA (.val zJ3) (j.cell (h.next,3)) fun y=>(iA (.val zJ3) (j.cell (u.next,3)) fun C=>(jA (f y C (()) j) fun A H=>some (A,H))))else some (false,j)))))else some (false,p))))else some (false,p))))
def bBn:Ann:=.n
noncomputable def mY (N:Nat) (p:zX->zX->Heap->yO0 Bool) (j f:SL->SL->(Unit)->Heap->yO0 Bool) (u w:SL) (A:(Unit)) (h:Heap):yO0 Bool:=(jA (f u w (()) h) fun r y=>some (r,y))
def gAu:Ann:=.n
noncomputable def pAc (N:Nat) (j:zX->zX->Heap->yO0 Bool) (r p:SL->SL->(Unit)->Heap->yO0 Bool) (V:SL->(Unit)->Bool->SL->Int->Int->Heap->Option (Out×zI1×Heap)) (C:SL) (v2:(Unit)) (L:Bool) (u:SL) (A f:Int) (h:Heap):Option (Out×zI1×Heap):=let O:=ltInt f A;(bif O then(ixK u.a u.len f 4 fun Q=>(iA (.val zD) (h.cells Q 4) fun S=>let R:=h.push (.row yZG .own);(vA (R.store (h.next,0) (yRE S)) fun B=>(ixK C.a C.len f 4 fun W=>(iA (.val zD) (B.cells W 4) fun U=>let M:=B.push (.row yZG .own);(vA (M.store (B.next,0) (yRE U)) fun w=>(iA (.val zD) (w.cells (h.next,0) 4) fun J=>(iA (.val zD) (w.cells (B.next,0) 4) fun K=>(jA (j J K w) fun F y=>let I:=!F;(bif I then some (Out.ret,(false,()),y)else let H:=fB .i64 (f+1);V C (()) L u A H y))))))))))else some ((Out.exit 0),(L,()),h))
def yA5 (N:Nat) (p:zX->zX->Heap->yO0 Bool) (j f:SL->SL->(Unit)->Heap->yO0 Bool) (M:Nat) (y:SL) (v2:(Unit)) (A:Bool) (r:SL) (w u:Int) (h:Heap):Option (Out×zI1×Heap):=iter (fun B s h=>pAc N p j f (fun y v2 A r w u h=>B (y,v2,A,r,w,u,()) h) s.1 s.2.1 s.2.2.1 s.2.2.2.1 s.2.2.2.2.1 s.2.2.2.2.2.1 h) M (y,v2,A,r,w,u,()) h
def iAu (N:Nat) (p:zX->zX->Heap->yO0 Bool) (j f:SL->SL->(Unit)->Heap->yO0 Bool) (y A:SL) (C:(Unit)) (h:Heap):yO0 Bool:=let B:=!pA (Int.ofNat y.len) (Int.ofNat A.len);(bif B then some (false,h)else(rD (yA5 N p j f N A (()) false y (Int.ofNat y.len) 0 h) fun w (u:zI1) r=>(bif vD w (.exit 0) then some (true,r)else some (u.1,r))))
def jAu:Ann:=(.two .n (.two .n (.two (.two .n (.two (.loop [(1,zJ3),(2,(.clo 112 [])),(6,zL3),(15,zJ3),(16,zM3),(17,zM3)] [(.exit 0),.ret] [(6,zL3)] .n) .n)) .n)))
def jAm (N M:Nat):((zX->zX->Heap->yO0 Bool)×(SL->SL->(Unit)->Heap->yO0 Bool)×(SL->SL->(Unit)->Heap->yO0 Bool)×Unit):=Nat.rec (fun _ _ _=>none,fun _ _ _ _=>none,fun _ _ _ _=>none,()) (fun _ r=>(pAq N r.1 r.2.1 r.2.2.1,mY N r.1 r.2.1 r.2.2.1,iAu N r.1 r.2.1 r.2.2.1,())) M
def f112 (N M:Nat):zX->zX->Heap->yO0 Bool:=(jAm N M).1
def bX (N M:Nat):SL->SL->(Unit)->Heap->yO0 Bool:=(jAm N M).2.1
def cX (N M:Nat):SL->SL->(Unit)->Heap->yO0 Bool:=(jAm N M).2.2.1
def cB0 (N M a0 a1 h):f112 N (M+1) a0 a1 h=pAq N (f112 N M) (bX N M) (cX N M) a0 a1 h:=rfl
def qAc (N M a0 a1 a2 h):bX N (M+1) a0 a1 a2 h=mY N (f112 N M) (bX N M) (cX N M) a0 a1 a2 h:=rfl
def lO (N:Nat):∀ M:Nat,(pC Tryz.prog 112 [zD,zD] (.val zL3) (fun x h=>f112 N M x.1 x.2.1 h))/\(pC Tryz.prog 162 [zJ3,zJ3,(.clo 112 [])] (.val zL3) (fun x h=>bX N M x.1 x.2.1 x.2.2.1 h))/\(pC Tryz.prog 193 [zJ3,zJ3,(.clo 112 [])] (.val zL3) (fun x h=>cX N M x.1 x.2.1 x.2.2.1 h))/\True
 | 0=>⟨(fun xs h r h' f=>by cases f),(fun xs h r h' f=>by cases f),(fun xs h r h' f=>by cases f),trivial⟩
 | M+1=>⟨kD (iC (sel:=fun a=>mJ 2 112 a) (lO N M).2.1 (bA (wA5 N) kA)) N bBn Tryz.f112,kD (iC (sel:=fun a=>mJ 2 112 a) (lO N M).2.2.1 kA) N gAu Tryz.f162,kD (bA (lO N M).1 kA) N jAu Tryz.f193,trivial⟩
def kAm (N:Nat):pC Tryz.prog 112 [zD,zD] (.val zL3) (fun x h=>f112 N N x.1 x.2.1 h):=(lO N N).1
def f108 (N:Nat) (H I:zG1) (h:Heap):yO0 Bool:=let j:=h.push (.row (yRF H) .own);let f:=j.push (.row (yRF I) .own);(iA (.val zL3) (f.cell (h.next,0)) fun J=>(iA (.val zL3) (f.cell (j.next,0)) fun w=>let F:Bool:=(bif J then w else !w);(bif F then(iA (.val zK3) (f.cell (h.next,1)) fun y=>(iA (.val zK3) (f.cell (j.next,1)) fun B=>let C:=bB y B;(bif C then(iA (.val zD) (f.cells (h.next,2) 4) fun A=>(iA (.val zD) (f.cells (j.next,2) 4) fun r=>(jA (f112 N N A r f) fun u p=>some (u,p))))else some (false,f))))else some (false,f))))
def cBn:Ann:=.n
def gBe (N:Nat):pC Tryz.prog 108 [zP,zP] (.val zL3) (fun x h=>f108 N x.1 x.2.1 h):=kD (bA (kAm N) kA) N cBn Tryz.f108
def rAc (N:Nat) (R:SL->(Unit)->Bool->SL->Int->Int->Heap->Option (Out×zI1×Heap)) (y:SL) (v2:(Unit)) (I:Bool) (j:SL) (u f:Int) (h:Heap):Option (Out×zI1×Heap):=let K:=ltInt f u;(bif K then(ixK j.a j.len f 6 fun L=>(iA (.val zP) (h.cells L 6) fun O=>let M:=h.push (.row yZD .own);(vA (M.store (h.next,0) (yRF O)) fun w=>(ixK y.a y.len f 6 fun S=>(iA (.val zP) (w.cells S 6) fun Q=>let J:=w.push (.row yZD .own);(vA (J.store (w.next,0) (yRF Q)) fun p=>(iA (.val zP) (p.cells (h.next,0) 6) fun F=>(iA (.val zP) (p.cells (w.next,0) 6) fun H=>(jA (f108 N F H p) fun A r=>let C:=!A;(bif C then some (Out.ret,(false,()),r)else let B:=fB .i64 (f+1);R y (()) I j u B r))))))))))else some ((Out.exit 0),(I,()),h))
def aA6 (N M:Nat) (r:SL) (v2:(Unit)) (u:Bool) (f:SL) (p j:Int) (h:Heap):Option (Out×zI1×Heap):=iter (fun w s h=>rAc N (fun r v2 u f p j h=>w (r,v2,u,f,p,j,()) h) s.1 s.2.1 s.2.2.1 s.2.2.2.1 s.2.2.2.2.1 s.2.2.2.2.2.1 h) M (r,v2,u,f,p,j,()) h
def tAc (N:Nat) (r u:SL) (y:(Unit)) (h:Heap):yO0 Bool:=let w:=!pA (Int.ofNat r.len) (Int.ofNat u.len);(bif w then some (false,h)else(rD (aA6 N N u (()) false r (Int.ofNat r.len) 0 h) fun p (j:zI1) f=>(bif vD p (.exit 0) then some (true,f)else some (j.1,f))))
def kAu:Ann:=(.two .n (.two .n (.two (.two .n (.two (.loop [(1,zJ3),(2,(.clo 108 [])),(6,zL3),(15,zJ3),(16,zM3),(17,zM3)] [(.exit 0),.ret] [(6,zL3)] .n) .n)) .n)))
def lAm (N:Nat):pC Tryz.prog 160 [zJ3,zJ3,(.clo 108 [])] (.val zL3) (fun x h=>tAc N x.1 x.2.1 x.2.2.1 h):=kD (bA (gBe N) kA) N kAu Tryz.f160
def nI (N:Nat) (j p:SL) (u:(Unit)) (h:Heap):yO0 Bool:=(jA (tAc N j p (()) h) fun f r=>some (f,r))
def lAu:Ann:=.n
def bA6 (N:Nat):pC Tryz.prog 107 [zJ3,zJ3,(.clo 108 [])] (.val zL3) (fun x h=>nI N x.1 x.2.1 x.2.2.1 h):=kD (iC (sel:=fun a=>mJ 2 108 a) (lAm N) kA) N lAu Tryz.f107
def f73 (N:Nat) (J R:zF1) (h:Heap):yO0 Bool:=let p:=h.push (.row (yRG J) .own);let f:=p.push (.row (yRG R) .own);(iA (.val zL3) (f.cell (h.next,0)) fun S=>(iA (.val zL3) (f.cell (p.next,0)) fun I=>let Q:Bool:=(bif S then I else !I);(bif Q then(iA (.val zK3) (f.cell (h.next,1)) fun K=>(iA (.val zK3) (f.cell (p.next,1)) fun M=>let O:=bB K M;(bif O then(iA (.val zM3) (f.cell (h.next,4)) fun L=>(iA (.val zM3) (f.cell (p.next,4)) fun F=>let B:=pA L F;(bif B then(iA (.val zJ3) (f.cell (h.next,2)) fun H=>(iA (.val zJ3) (f.cell (p.next,2)) fun r=>(jA (f106 N H r f) fun C j=>(bif C then(iA (.val zJ3) (j.cell (h.next,3)) fun u=>(iA (.val zJ3) (j.cell (p.next,3)) fun w=>(jA (nI N u w (()) j) fun A y=>some (A,y))))else some (false,j)))))else some (false,f))))else some (false,f))))else some (false,f))))
def lBt:Ann:=.n
def dBn (N:Nat):pC Tryz.prog 73 [zJ,zJ] (.val zL3) (fun x h=>f73 N x.1 x.2.1 h):=kD (iC (sel:=fun a=>mJ 2 108 a) (bA6 N) (bA (wA5 N) kA)) N lBt Tryz.f73
def fAi (N:Nat) (R:SL->(Unit)->Bool->SL->Int->Int->Heap->Option (Out×zI1×Heap)) (y:SL) (v2:(Unit)) (I:Bool) (j:SL) (u f:Int) (h:Heap):Option (Out×zI1×Heap):=let K:=ltInt f u;(bif K then(ixK j.a j.len f 5 fun L=>(iA (.val zJ) (h.cells L 5) fun O=>let M:=h.push (.row yZF .own);(vA (M.store (h.next,0) (yRG O)) fun w=>(ixK y.a y.len f 5 fun S=>(iA (.val zJ) (w.cells S 5) fun Q=>let J:=w.push (.row yZF .own);(vA (J.store (w.next,0) (yRG Q)) fun p=>(iA (.val zJ) (p.cells (h.next,0) 5) fun F=>(iA (.val zJ) (p.cells (w.next,0) 5) fun H=>(jA (f73 N F H p) fun A r=>let C:=!A;(bif C then some (Out.ret,(false,()),r)else let B:=fB .i64 (f+1);R y (()) I j u B r))))))))))else some ((Out.exit 0),(I,()),h))
def bAa (N M:Nat) (r:SL) (v2:(Unit)) (u:Bool) (f:SL) (p j:Int) (h:Heap):Option (Out×zI1×Heap):=iter (fun w s h=>fAi N (fun r v2 u f p j h=>w (r,v2,u,f,p,j,()) h) s.1 s.2.1 s.2.2.1 s.2.2.2.1 s.2.2.2.2.1 s.2.2.2.2.2.1 h) M (r,v2,u,f,p,j,()) h
def mAm (N:Nat) (r u:SL) (y:(Unit)) (h:Heap):yO0 Bool:=let w:=!pA (Int.ofNat r.len) (Int.ofNat u.len);(bif w then some (false,h)else(rD (bAa N N u (()) false r (Int.ofNat r.len) 0 h) fun p (j:zI1) f=>(bif vD p (.exit 0) then some (true,f)else some (j.1,f))))
def dB0:Ann:=(.two .n (.two .n (.two (.two .n (.two (.loop [(1,zJ3),(2,(.clo 73 [])),(6,zL3),(15,zJ3),(16,zM3),(17,zM3)] [(.exit 0),.ret] [(6,zL3)] .n) .n)) .n)))
def mAu (N:Nat):pC Tryz.prog 105 [zJ3,zJ3,(.clo 73 [])] (.val zL3) (fun x h=>mAm N x.1 x.2.1 x.2.2.1 h):=kD (bA (dBn N) kA) N dB0 Tryz.f105
def cA6 (N:Nat) (j p:SL) (u:(Unit)) (h:Heap):yO0 Bool:=(jA (mAm N j p (()) h) fun f r=>some (f,r))
def fB6:Ann:=.n
def eB0 (N:Nat):pC Tryz.prog 72 [zJ3,zJ3,(.clo 73 [])] (.val zL3) (fun x h=>cA6 N x.1 x.2.1 x.2.2.1 h):=kD (iC (sel:=fun a=>mJ 2 73 a) (mAu N) kA) N fB6 Tryz.f72
def f111 (N:Nat) (y A:zD1) (h:Heap):yO0 Bool:=let j:=h.push (.row (yRH y) .own);let f:=j.push (.row (yRH A) .own);(iA (.val zK3) (f.cell (h.next,0)) fun F=>(iA (.val zK3) (f.cell (j.next,0)) fun C=>let w:=bB F C;(bif w then(iA (.val zJ3) (f.cell (h.next,1)) fun p=>(iA (.val zJ3) (f.cell (j.next,1)) fun r=>(jA (f106 N p r f) fun u B=>some (u,B))))else some (false,f))))
def eBn:Ann:=.n
def iBe (N:Nat):pC Tryz.prog 111 [zM,zM] (.val zL3) (fun x h=>f111 N x.1 x.2.1 h):=kD (bA (wA5 N) kA) N eBn Tryz.f111
def uAc (N:Nat) (R:SL->(Unit)->Bool->SL->Int->Int->Heap->Option (Out×zI1×Heap)) (y:SL) (v2:(Unit)) (I:Bool) (j:SL) (u f:Int) (h:Heap):Option (Out×zI1×Heap):=let K:=ltInt f u;(bif K then(ixK j.a j.len f 2 fun L=>(iA (.val zM) (h.cells L 2) fun O=>let M:=h.push (.row yZI .own);(vA (M.store (h.next,0) (yRH O)) fun w=>(ixK y.a y.len f 2 fun S=>(iA (.val zM) (w.cells S 2) fun Q=>let J:=w.push (.row yZI .own);(vA (J.store (w.next,0) (yRH Q)) fun p=>(iA (.val zM) (p.cells (h.next,0) 2) fun F=>(iA (.val zM) (p.cells (w.next,0) 2) fun H=>(jA (f111 N F H p) fun A r=>let C:=!A;(bif C then some (Out.ret,(false,()),r)else let B:=fB .i64 (f+1);R y (()) I j u B r))))))))))else some ((Out.exit 0),(I,()),h))
def dA6 (N M:Nat) (r:SL) (v2:(Unit)) (u:Bool) (f:SL) (p j:Int) (h:Heap):Option (Out×zI1×Heap):=iter (fun w s h=>uAc N (fun r v2 u f p j h=>w (r,v2,u,f,p,j,()) h) s.1 s.2.1 s.2.2.1 s.2.2.2.1 s.2.2.2.2.1 s.2.2.2.2.2.1 h) M (r,v2,u,f,p,j,()) h
def vAc (N:Nat) (r u:SL) (y:(Unit)) (h:Heap):yO0 Bool:=let w:=!pA (Int.ofNat r.len) (Int.ofNat u.len);(bif w then some (false,h)else(rD (dA6 N N u (()) false r (Int.ofNat r.len) 0 h) fun p (j:zI1) f=>(bif vD p (.exit 0) then some (true,f)else some (j.1,f))))
def nAu:Ann:=(.two .n (.two .n (.two (.two .n (.two (.loop [(1,zJ3),(2,(.clo 111 [])),(6,zL3),(15,zJ3),(16,zM3),(17,zM3)] [(.exit 0),.ret] [(6,zL3)] .n) .n)) .n)))
def nAm (N:Nat):pC Tryz.prog 161 [zJ3,zJ3,(.clo 111 [])] (.val zL3) (fun x h=>vAc N x.1 x.2.1 x.2.2.1 h):=kD (bA (iBe N) kA) N nAu Tryz.f161
def mO (N:Nat) (j p:SL) (u:(Unit)) (h:Heap):yO0 Bool:=(jA (vAc N j p (()) h) fun f r=>some (f,r))
def oAu:Ann:=.n
def oAm (N:Nat):pC Tryz.prog 110 [zJ3,zJ3,(.clo 111 [])] (.val zL3) (fun x h=>mO N x.1 x.2.1 x.2.2.1 h):=kD (iC (sel:=fun a=>mJ 2 111 a) (nAm N) kA) N oAu Tryz.f110
def f164 (N:Nat) (y A:zD1) (h:Heap):yO0 Bool:=let j:=h.push (.row (yRH y) .own);let f:=j.push (.row (yRH A) .own);(iA (.val zK3) (f.cell (h.next,0)) fun F=>(iA (.val zK3) (f.cell (j.next,0)) fun C=>let w:=bB F C;(bif w then(iA (.val zJ3) (f.cell (h.next,1)) fun p=>(iA (.val zJ3) (f.cell (j.next,1)) fun r=>(jA (f106 N p r f) fun u B=>some (u,B))))else some (false,f))))
def fBn:Ann:=.n
def wAc (N:Nat):pC Tryz.prog 164 [zM,zM] (.val zL3) (fun x h=>f164 N x.1 x.2.1 h):=kD (bA (wA5 N) kA) N fBn Tryz.f164
def f166 (N:Nat) (F H:zZ) (h:Heap):yO0 Bool:=let j:=h.push (.row (yRD F) .own);let f:=j.push (.row (yRD H) .own);(iA (.val zM3) (f.cell (h.next,0)) fun J=>(iA (.val zM3) (f.cell (j.next,0)) fun I=>let C:=pA J I;(bif C then(iA (.val zM3) (f.cell (h.next,1)) fun w=>(iA (.val zM3) (f.cell (j.next,1)) fun A=>let B:=pA w A;(bif B then(iA (.val zM) (f.cells (h.next,2) 2) fun y=>(iA (.val zM) (f.cells (j.next,2) 2) fun r=>(jA (f164 N y r f) fun u p=>some (u,p))))else some (false,f))))else some (false,f))))
def gBn:Ann:=.n
def pAm (N:Nat):pC Tryz.prog 166 [zG,zG] (.val zL3) (fun x h=>f166 N x.1 x.2.1 h):=kD (bA (wAc N) kA) N gBn Tryz.f166
def yAc (N:Nat) (R:SL->(Unit)->Bool->SL->Int->Int->Heap->Option (Out×zI1×Heap)) (y:SL) (v2:(Unit)) (I:Bool) (j:SL) (u f:Int) (h:Heap):Option (Out×zI1×Heap):=let K:=ltInt f u;(bif K then(ixK j.a j.len f 4 fun L=>(iA (.val zG) (h.cells L 4) fun O=>let M:=h.push (.row yZH .own);(vA (M.store (h.next,0) (yRD O)) fun w=>(ixK y.a y.len f 4 fun S=>(iA (.val zG) (w.cells S 4) fun Q=>let J:=w.push (.row yZH .own);(vA (J.store (w.next,0) (yRD Q)) fun p=>(iA (.val zG) (p.cells (h.next,0) 4) fun F=>(iA (.val zG) (p.cells (w.next,0) 4) fun H=>(jA (f166 N F H p) fun A r=>let C:=!A;(bif C then some (Out.ret,(false,()),r)else let B:=fB .i64 (f+1);R y (()) I j u B r))))))))))else some ((Out.exit 0),(I,()),h))
def eA6 (N M:Nat) (r:SL) (v2:(Unit)) (u:Bool) (f:SL) (p j:Int) (h:Heap):Option (Out×zI1×Heap):=iter (fun w s h=>yAc N (fun r v2 u f p j h=>w (r,v2,u,f,p,j,()) h) s.1 s.2.1 s.2.2.1 s.2.2.2.1 s.2.2.2.2.1 s.2.2.2.2.2.1 h) M (r,v2,u,f,p,j,()) h
def aAd (N:Nat) (r u:SL) (y:(Unit)) (h:Heap):yO0 Bool:=let w:=!pA (Int.ofNat r.len) (Int.ofNat u.len);(bif w then some (false,h)else(rD (eA6 N N u (()) false r (Int.ofNat r.len) 0 h) fun p (j:zI1) f=>(bif vD p (.exit 0) then some (true,f)else some (j.1,f))))
def pAu:Ann:=(.two .n (.two .n (.two (.two .n (.two (.loop [(1,zJ3),(2,(.clo 166 [])),(6,zL3),(15,zJ3),(16,zM3),(17,zM3)] [(.exit 0),.ret] [(6,zL3)] .n) .n)) .n)))
def qAm (N:Nat):pC Tryz.prog 214 [zJ3,zJ3,(.clo 166 [])] (.val zL3) (fun x h=>aAd N x.1 x.2.1 x.2.2.1 h):=kD (bA (pAm N) kA) N pAu Tryz.f214
def pO (N:Nat) (j p:SL) (u:(Unit)) (h:Heap):yO0 Bool:=(jA (aAd N j p (()) h) fun f r=>some (f,r))
def qAu:Ann:=.n
def rAm (N:Nat):pC Tryz.prog 194 [zJ3,zJ3,(.clo 166 [])] (.val zL3) (fun x h=>pO N x.1 x.2.1 x.2.2.1 h):=kD (iC (sel:=fun a=>mJ 2 166 a) (qAm N) kA) N qAu Tryz.f194
def f165 (N:Nat) (Y a1:zW) (h:Heap):yO0 Bool:=let p:=h.push (.row (yRB Y) .own);let u:=p.push (.row (yRB a1) .own);(iA (.val zM3) (u.cell (h.next,0)) fun x3=>(iA (.val zM3) (u.cell (p.next,0)) fun Z=>let x5:=pA x3 Z;(bif x5 then(iA (.val zG) (u.cells (h.next,1) 4) fun x6=>(iA (.val zG) (u.cells (p.next,1) 4) fun x7=>(jA (f166 N x6 x7 u) fun x8 w=>(bif x8 then(iA (.val zG) (w.cells (h.next,5) 4) fun U=>(iA (.val zG) (w.cells (p.next,5) 4) fun L=>(jA (f166 N U L w) fun V f=>(bif V then(iA (.val zM3) (f.cell (h.next,9)) fun Q=>(iA (.val zM3) (f.cell (p.next,9)) fun K=>let B:=pA Q K;(bif B then(iA (.val zM) (f.cells (h.next,10) 2) fun A=>(iA (.val zM) (f.cells (p.next,10) 2) fun C=>(jA (f164 N A C f) fun J j=>(bif J then(iA (.val zK3) (j.cell (h.next,12)) fun I=>(iA (.val zK3) (j.cell (p.next,12)) fun M=>let H:=bB I M;(bif H then(iA (.val zJ3) (j.cell (h.next,13)) fun y=>
 (iA (.val zJ3) (j.cell (p.next,13)) fun X=>(jA (f106 N y X j) fun R r=>(bif R then(iA (.val zJ3) (r.cell (h.next,14)) fun W=>(iA (.val zJ3) (r.cell (p.next,14)) fun S=>(jA (pO N W S (()) r) fun F O=>some (F,O))))else some (false,r)))))else some (false,j))))else some (false,j)))))else some (false,f))))else some (false,f)))))else some (false,w)))))else some (false,u))))
def iBn:Ann:=.n
def fB0 (N:Nat):pC Tryz.prog 165 [zC,zC] (.val zL3) (fun x h=>f165 N x.1 x.2.1 h):=kD (iC (sel:=fun a=>mJ 2 166 a) (rAm N) (bA (pAm N) (bA (wAc N) (bA (wA5 N) kA)))) N iBn Tryz.f165
noncomputable def fS (N:Nat) (j:SL->SL->(Unit)->Heap->yO0 Bool) (p:zR->zR->Heap->yO0 Bool) (f:SL->SL->(Unit)->Heap->yO0 Bool) (w y:SL) (A:(Unit)) (h:Heap):yO0 Bool:=(jA (f w y (()) h) fun u r=>some (u,r))
def rAu:Ann:=.n
def qAq (N:Nat) (f:SL->SL->(Unit)->Heap->yO0 Bool) (H:zR->zR->Heap->yO0 Bool) (B:SL->SL->(Unit)->Heap->yO0 Bool) (a0 a1:zR) (h:Heap):yO0 Bool:=let p:=h.push (.row (yRA a0) .own);let j:=p.push (.row (yRA a1) .own);(iA (.val zM3) (j.cell (h.next,0)) fun x3=>(iA (.val zM3) (j.cell (p.next,0)) fun x4=>let x5:=pA x3 x4;(bif x5 then(iA (.val zM3) (j.cell (h.next,1)) fun x6=>(iA (.val zM3) (j.cell (p.next,1)) fun x7=>let x8:=pA x6 x7;(bif x8 then(iA (.val zL3) (j.cell (h.next,2)) fun x9=>(iA (.val zL3) (j.cell (p.next,2)) fun F=>let Z:Bool:=(bif x9 then F else !F);(bif Z then(iA (.val zK3) (j.cell (h.next,3)) fun a8=>(iA (.val zK3) (j.cell (p.next,3)) fun L=>let a5:=bB a8 L;(bif a5 then(iA (.val zL3) (j.cell (h.next,8)) fun X=>(iA (.val zL3) (j.cell (p.next,8)) fun C=>let Q:Bool:=(bif X then C else !C);(bif Q then(iA (.val zD) (j.cells (h.next,4) 4) fun S=>(iA (.val zD) (j.cells (p.next,4) 4) fun W=>(jA (f112 N N S W j) fun b0 w=>(bif b0 then
 (iA (.val zM) (w.cells (h.next,9) 2) fun a2=>(iA (.val zM) (w.cells (p.next,9) 2) fun V=>(jA (f164 N a2 V w) fun J r=>(bif J then(iA (.val zC) (r.cells (h.next,11) 15) fun a6=>(iA (.val zC) (r.cells (p.next,11) 15) fun O=>(jA (f165 N a6 O r) fun a9 y=>(bif a9 then(iA (.val zG) (y.cells (h.next,26) 4) fun U=>(iA (.val zG) (y.cells (p.next,26) 4) fun a7=>(jA (f166 N U a7 y) fun a3 A=>(bif a3 then(iA (.val zJ3) (A.cell (h.next,30)) fun K=>(iA (.val zJ3) (A.cell (p.next,30)) fun M=>
 (jA (f K M (()) A) fun a4 u=>(bif a4 then(iA (.val zJ3) (u.cell (h.next,31)) fun b1=>(iA (.val zJ3) (u.cell (p.next,31)) fun I=>(jA (f b1 I (()) u) fun R Y=>some (R,Y))))else some (false,u)))))else some (false,A)))))else some (false,y)))))else some (false,r)))))else some (false,w)))))else some (false,j))))else some (false,j))))else some (false,j))))else some (false,j))))else some (false,j))))
def jBn:Ann:=.n
noncomputable def bAd (N:Nat) (r:SL->SL->(Unit)->Heap->yO0 Bool) (f:zR->zR->Heap->yO0 Bool) (p:SL->SL->(Unit)->Heap->yO0 Bool) (V:SL->(Unit)->Bool->SL->Int->Int->Heap->Option (Out×zI1×Heap)) (C:SL) (v2:(Unit)) (L:Bool) (u:SL) (A j:Int) (h:Heap):Option (Out×zI1×Heap):=let O:=ltInt j A;(bif O then(ixK u.a u.len j 32 fun Q=>(iA (.val zA) (h.cells Q 32) fun S=>let R:=h.push (.row yZA .own);(vA (R.store (h.next,0) (yRA S)) fun B=>(ixK C.a C.len j 32 fun W=>(iA (.val zA) (B.cells W 32) fun U=>let M:=B.push (.row yZA .own);(vA (M.store (B.next,0) (yRA U)) fun w=>(iA (.val zA) (w.cells (h.next,0) 32) fun J=>(iA (.val zA) (w.cells (B.next,0) 32) fun K=>(jA (f J K w) fun F y=>
 let I:=!F;(bif I then some (Out.ret,(false,()),y)else let H:=fB .i64 (j+1);V C (()) L u A H y))))))))))else some ((Out.exit 0),(L,()),h))
def mU (N:Nat) (j:SL->SL->(Unit)->Heap->yO0 Bool) (p:zR->zR->Heap->yO0 Bool) (f:SL->SL->(Unit)->Heap->yO0 Bool) (M:Nat) (y:SL) (v2:(Unit)) (A:Bool) (r:SL) (w u:Int) (h:Heap):Option (Out×zI1×Heap):=iter (fun B s h=>bAd N j p f (fun y v2 A r w u h=>B (y,v2,A,r,w,u,()) h) s.1 s.2.1 s.2.2.1 s.2.2.2.1 s.2.2.2.2.1 s.2.2.2.2.2.1 h) M (y,v2,A,r,w,u,()) h
def tAu (N:Nat) (j:SL->SL->(Unit)->Heap->yO0 Bool) (p:zR->zR->Heap->yO0 Bool) (f:SL->SL->(Unit)->Heap->yO0 Bool) (y A:SL) (C:(Unit)) (h:Heap):yO0 Bool:=let B:=!pA (Int.ofNat y.len) (Int.ofNat A.len);(bif B then some (false,h)else(rD (mU N j p f N A (()) false y (Int.ofNat y.len) 0 h) fun w (u:zI1) r=>(bif vD w (.exit 0) then some (true,r)else some (u.1,r))))
def uAu:Ann:=(.two .n (.two .n (.two (.two .n (.two (.loop [(1,zJ3),(2,(.clo 114 [])),(6,zL3),(15,zJ3),(16,zM3),(17,zM3)] [(.exit 0),.ret] [(6,zL3)] .n) .n)) .n)))
def nU (N M:Nat):((SL->SL->(Unit)->Heap->yO0 Bool)×(zR->zR->Heap->yO0 Bool)×(SL->SL->(Unit)->Heap->yO0 Bool)×Unit):=Nat.rec (fun _ _ _ _=>none,fun _ _ _=>none,fun _ _ _ _=>none,()) (fun _ r=>(fS N r.1 r.2.1 r.2.2.1,qAq N r.1 r.2.1 r.2.2.1,tAu N r.1 r.2.1 r.2.2.1,())) M
def qH (N M:Nat):SL->SL->(Unit)->Heap->yO0 Bool:=(nU N M).1
def f114 (N M:Nat):zR->zR->Heap->yO0 Bool:=(nU N M).2.1
def qO (N M:Nat):SL->SL->(Unit)->Heap->yO0 Bool:=(nU N M).2.2.1
def eX (N M a0 a1 a2 h):qH N (M+1) a0 a1 a2 h=fS N (qH N M) (f114 N M) (qO N M) a0 a1 a2 h:=rfl
def gAi (N M a0 a1 h):f114 N (M+1) a0 a1 h=qAq N (qH N M) (f114 N M) (qO N M) a0 a1 h:=rfl
def dH (N:Nat):∀ M:Nat,(pC Tryz.prog 113 [zJ3,zJ3,(.clo 114 [])] (.val zL3) (fun x h=>qH N M x.1 x.2.1 x.2.2.1 h))/\(pC Tryz.prog 114 [zA,zA] (.val zL3) (fun x h=>f114 N M x.1 x.2.1 h))/\(pC Tryz.prog 163 [zJ3,zJ3,(.clo 114 [])] (.val zL3) (fun x h=>qO N M x.1 x.2.1 x.2.2.1 h))/\True
 | 0=>⟨(fun xs h r h' f=>by cases f),(fun xs h r h' f=>by cases f),(fun xs h r h' f=>by cases f),trivial⟩
 | M+1=>⟨kD (iC (sel:=fun a=>mJ 2 114 a) (dH N M).2.2.1 kA) N rAu Tryz.f113,kD (bA (pAm N) (bA (fB0 N) (bA (wAc N) (iC (sel:=fun a=>mJ 2 114 a) (dH N M).1 (bA (kAm N) kA))))) N jBn Tryz.f114,kD (bA (dH N M).2.1 kA) N uAu Tryz.f163,trivial⟩
def tAm (N:Nat):pC Tryz.prog 113 [zJ3,zJ3,(.clo 114 [])] (.val zL3) (fun x h=>qH N N x.1 x.2.1 x.2.2.1 h):=(dH N N).1
def jBe (N:Nat):pC Tryz.prog 114 [zA,zA] (.val zL3) (fun x h=>f114 N N x.1 x.2.1 h):=(dH N N).2.1
def f75 (N:Nat) (U a1:zA1) (h:Heap):yO0 Bool:=let u:=h.push (.row (yRC U) .own);let f:=u.push (.row (yRC a1) .own);(iA (.val zL3) (f.cell (h.next,0)) fun x3=>(iA (.val zL3) (f.cell (u.next,0)) fun S=>let Z:Bool:=(bif x3 then S else !S);(bif Z then(iA (.val zK3) (f.cell (h.next,1)) fun V=>(iA (.val zK3) (f.cell (u.next,1)) fun X=>let Y:=bB V X;(bif Y then(iA (.val zM3) (f.cell (h.next,9)) fun W=>(iA (.val zM3) (f.cell (u.next,9)) fun M=>let I:=pA W M;(bif I then(iA (.val zJ3) (f.cell (h.next,2)) fun O=>(iA (.val zJ3) (f.cell (u.next,2)) fun y=>(jA (mO N O y (()) f) fun K p=>(bif K then(iA (.val zJ3) (p.cell (h.next,3)) fun A=>(iA (.val zJ3) (p.cell (u.next,3)) fun B=>(jA (nI N A B (()) p) fun C j=>(bif C then(iA (.val zD) (j.cells (h.next,4) 4) fun Q=>(iA (.val zD) (j.cells (u.next,4) 4) fun F=>(jA (f112 N N Q F j) fun J r=>(bif J then(iA (.val zJ3) (r.cell (h.next,8)) fun w=>(iA (.val zJ3) (r.cell (u.next,8)) fun R=>
 (jA (qH N N w R (()) r) fun L H=>some (L,H))))else some (false,r)))))else some (false,j)))))else some (false,p)))))else some (false,f))))else some (false,f))))else some (false,f))))
def mBt:Ann:=.n
def kBn (N:Nat):pC Tryz.prog 75 [zE,zE] (.val zL3) (fun x h=>f75 N x.1 x.2.1 h):=kD (iC (sel:=fun a=>mJ 2 114 a) (tAm N) (bA (kAm N) (iC (sel:=fun a=>mJ 2 111 a) (oAm N) (iC (sel:=fun a=>mJ 2 108 a) (bA6 N) kA)))) N mBt Tryz.f75
def iAi (N:Nat) (R:SL->(Unit)->Bool->SL->Int->Int->Heap->Option (Out×zI1×Heap)) (y:SL) (v2:(Unit)) (I:Bool) (j:SL) (u f:Int) (h:Heap):Option (Out×zI1×Heap):=let K:=ltInt f u;(bif K then(ixK j.a j.len f 10 fun L=>(iA (.val zE) (h.cells L 10) fun O=>let M:=h.push (.row yZC .own);(vA (M.store (h.next,0) (yRC O)) fun w=>(ixK y.a y.len f 10 fun S=>(iA (.val zE) (w.cells S 10) fun Q=>let J:=w.push (.row yZC .own);(vA (J.store (w.next,0) (yRC Q)) fun p=>(iA (.val zE) (p.cells (h.next,0) 10) fun F=>(iA (.val zE) (p.cells (w.next,0) 10) fun H=>(jA (f75 N F H p) fun A r=>let C:=!A;(bif C then some (Out.ret,(false,()),r)else let B:=fB .i64 (f+1);R y (()) I j u B r))))))))))else some ((Out.exit 0),(I,()),h))
def cAa (N M:Nat) (r:SL) (v2:(Unit)) (u:Bool) (f:SL) (p j:Int) (h:Heap):Option (Out×zI1×Heap):=iter (fun w s h=>iAi N (fun r v2 u f p j h=>w (r,v2,u,f,p,j,()) h) s.1 s.2.1 s.2.2.1 s.2.2.2.1 s.2.2.2.2.1 s.2.2.2.2.2.1 h) M (r,v2,u,f,p,j,()) h
def uAm (N:Nat) (r u:SL) (y:(Unit)) (h:Heap):yO0 Bool:=let w:=!pA (Int.ofNat r.len) (Int.ofNat u.len);(bif w then some (false,h)else(rD (cAa N N u (()) false r (Int.ofNat r.len) 0 h) fun p (j:zI1) f=>(bif vD p (.exit 0) then some (true,f)else some (j.1,f))))
def gB0:Ann:=(.two .n (.two .n (.two (.two .n (.two (.loop [(1,zJ3),(2,(.clo 75 [])),(6,zL3),(15,zJ3),(16,zM3),(17,zM3)] [(.exit 0),.ret] [(6,zL3)] .n) .n)) .n)))
def vAu (N:Nat):pC Tryz.prog 109 [zJ3,zJ3,(.clo 75 [])] (.val zL3) (fun x h=>uAm N x.1 x.2.1 x.2.2.1 h):=kD (bA (kBn N) kA) N gB0 Tryz.f109
def fA6 (N:Nat) (j p:SL) (u:(Unit)) (h:Heap):yO0 Bool:=(jA (uAm N j p (()) h) fun f r=>some (f,r))
def gB6:Ann:=.n
def iB0 (N:Nat):pC Tryz.prog 74 [zJ3,zJ3,(.clo 75 [])] (.val zL3) (fun x h=>fA6 N x.1 x.2.1 x.2.2.1 h):=kD (iC (sel:=fun a=>mJ 2 75 a) (vAu N) kA) N gB6 Tryz.f74
def f30 (N:Nat) (B C:zR1) (h:Heap):yO0 Bool:=let j:=h.push (.row (yRJ B) .own);let p:=j.push (.row (yRJ C) .own);(iA (.val zJ3) (p.cell (h.next,0)) fun H=>(iA (.val zJ3) (p.cell (j.next,0)) fun F=>(jA (cA6 N H F (()) p) fun A f=>(bif A then(iA (.val zJ3) (f.cell (h.next,1)) fun w=>(iA (.val zJ3) (f.cell (j.next,1)) fun y=>(jA (fA6 N w y (()) f) fun u r=>some (u,r))))else some (false,f)))))
def nBt:Ann:=.n
def lBn (N:Nat):pC Tryz.prog 30 [zQ,zQ] (.val zL3) (fun x h=>f30 N x.1 x.2.1 h):=kD (iC (sel:=fun a=>mJ 2 75 a) (iB0 N) (iC (sel:=fun a=>mJ 2 73 a) (eB0 N) kA)) N nBt Tryz.f30
end
end Qp
namespace Qp
def jB0 (f:List CTy) (n:Nat) (c:tP f->List AV) (z:List AV) (F:tP f->tP f->Heap->yO0 Bool) (M:SL->Unit->Bool->SL->Int->Int->Heap->Option (Out×zI1×Heap)) (A:SL) (I:Bool) (p:SL) (w j:Int) (h:Heap):Option (Out×zI1×Heap):=
 bif ltInt j w then
  (ixK p.a p.len j n fun J=>
  (iA (.val (.agg f)) (h.cells J n) fun K=>
  (vA ((h.push (.row z .own)).store (h.next,0) (c K)) fun y=>
  (ixK A.a A.len j n fun O=>
  (iA (.val (.agg f)) (y.cells O n) fun L=>
  (vA ((y.push (.row z .own)).store (y.next,0) (c L)) fun r=>
  (iA (.val (.agg f)) (r.cells (h.next,0) n) fun C=>
  (iA (.val (.agg f)) (r.cells (y.next,0) n) fun H=>
  (jA (F C H r) fun B u=>
  (bif !B then some (Out.ret,(false,()),u) else M A () I p w (fB .i64 (j+1)) u))))))))))
 else some ((Out.exit 0),(I,()),h)
structure Rec (tys:List CTy) (n:Nat) (c:tP tys->List AV) (P:D->Prop):Prop where
 len:∀ r,(c r).length=n
 agg:∀ {β:Type} (r:tP tys) (K:tP tys->Option β),iA (.val (.agg tys)) (some (.agg (c r))) K=K r
 inv:∀ {h:Heap} {V:Nat->Prop} {x:D} {cs:List AV},P x->Dt h V x cs->∃ r,cs=c r
section
variable {tys:List CTy} {n:Nat} {c:tP tys->List AV} {z:List AV} {P:D->Prop}
def Rec.elt (R:Rec tys n c P) {h:Heap} {V:Nat->Prop} {s:SL} {xs:List D} (x:Sl h V s xs) {i:Nat} (hi:i<xs.length) (hP:P xs[i]):∃ r,h.cells (s.at i n) n=some (.agg (c r))/\Dt h V xs[i] (c r):=by
 have ⟨cs,e⟩:=x.elt hi;obtain ⟨r,rfl⟩:=R.inv hP e.dt;have j:s.sz=n:=by rw [<- e.len,R.len]
 have f:=e.whole;rw [j] at f;exact ⟨r,f,e.dt⟩
theorem Rec.cells (R:Rec tys n c P) {H:Heap} {A:Nat} {r:tP tys} (o:H.own A (c r)) {β:Type} (K:tP tys->Option β):iA (.val (.agg tys)) (H.cells (A,0) n) K=K r:=by
 have:H.cells (A,0) n=some (.agg (c r)):=by
  rw [o.cells (j:=0) (m:=n) (by rw [R.len];omega),List.drop_zero,List.take_of_length_le (by rw [R.len];exact xD _)]
 rw [this,R.agg]
def Rec.park (R:Rec tys n c P) (p:z.length=n) (h:Heap) (r:tP tys):∃ h',(∀ {β:Type} (K:Heap->Option β),vA ((h.push (.row z .own)).store (h.next,0) (c r)) K=K h')/\Chg [] h h'/\h'.own h.next (c r):=by
 have o:=wA h z;have j:=uA h (.row z .own);have f:(h.push (.row z .own)).store (h.next,0) (c r)=some ((h.push (.row z .own)).put h.next (.row (c r) .own)):=o.store (by rw [R.len,p]);exact ⟨_,fun K=>by rw [f,fA],j.put (.inr (xD _)) _,kB o _⟩
def kBe (R:Rec tys n c P) (hz:z.length=n) {F:tP tys->tP tys->Heap->yO0 Bool} {L:Nat->SL->Unit->Bool->SL->Int->Int->Heap->Option (Out×zI1×Heap)} (hs:∀ M X v6 j u y h,L (M+1) X () v6 j u y h=jB0 tys n c z F (L M) X v6 j u y h)
  {xs:List D} (hP:∀ x∈xs,P x) (hF:∀ x∈xs,∀ w r H V W,Dt H V x (c w)->Dt H W x (c r)->∃ Y,F w r H=some (true,Y)/\Chg [] H Y) (hl:xs.length<=2000000) :
  ∀ (M i:Nat) (h:Heap) (V W:Nat->Prop) (s1 s2:SL),i<=xs.length->xs.length-i<M->Sl h V s1 xs->Sl h W s2 xs->∃ h',L M s2 () false s1 (xs.length:Int) (i:Int) h=some (.exit 0,(false,()),h')/\Chg [] h h':=by
 intro M
 induction M with
 | zero=>grind
 | succ M ih=>
  intro i h V W s1 s2 hi hM A Z;rw [hs];unfold jB0;rw [qC]
  by_cases q:i<xs.length
  ·rw [decide_eq_true q,xA]
   have S:=xR q;have ⟨w,g1,d1⟩:=R.elt A q (hP _ S);rw [A.ix q n,g1,R.agg];have ⟨h6,p6,J,o6⟩:=R.park hz h w;rw [p6];have p:=Z.chg J;have ⟨r,g2,d2⟩:=R.elt p q (hP _ S);rw [p.ix q n,g2,R.agg];have ⟨Q,O,f,K⟩:=R.park hz h6 r;rw [O,R.cells (o6.chg f),R.cells K];have ⟨B,C,U⟩:=hF _ S w r Q V W (Dt.chg (J.trans f) (by simp) d1) (Dt.chg f (by simp) d2);rw [C,aA];simp only [xV,xB];have I:=(J.trans f).trans U;rw [iB (by omega)];have ⟨h',e',c'⟩:=ih (i+1) B V W s1 s2 q (by omega) (A.chg I) (Z.chg I);exact ⟨h',e',I.trans c'⟩
  ·rw [decide_eq_false q,xB]
   exact ⟨h,rfl,Chg.refl _ _⟩
def fB9 {h:Heap} {V W:Nat->Prop} {s1 s2:SL} {xs:List D} (f:Sl h V s1 xs) (j:Sl h W s2 xs):pA (Int.ofNat s1.len) (Int.ofNat s2.len)=true:=by
 rw [f.len,j.len,eqI];simp
end
section
variable {N:Nat} {h:Heap} {V W:Nat->Prop}
def vAm {s1 s2:SL} {xs:List Bs} (f:Sl h V s1 (xs.map D.s)) (j:Sl h W s2 (xs.map D.s)) (u:xs.length<=2000000):∀ (M i:Nat),i<=xs.length->xs.length-i<M->oAc N M s1 s2 false (xs.length:Int) (i:Int) h=some (.exit 0,(false,()),h):=by
 intro M
 induction M with
 | zero=>intro i _ h;omega
 | succ M r=>
  intro i hi w;rw [eAi];unfold vA5;simp only [qC]
  by_cases q:i<xs.length
  ·simp only [q,xO,xA]
   have p:i<(xs.map D.s).length:=by grind
   rw [f.ix p 1,dA5 f q];simp only [dA,yA];rw [j.ix p 1,dA5 j q];simp only [dA,yA,eqB.2,xV,xB]
   grind [iB]
  grind
def kB0 {s1 s2:SL} {xs:List Bs} (f:Sl h V s1 (xs.map D.s)) (j:Sl h W s2 (xs.map D.s)) (p:xs.length<=2000000) (u:xs.length<N):f106 N s1 s2 h=some (true,h):=by
 unfold f106;simp only [fB9 f j,xV,xB]
 have:=vAm (N:=N) f j p N 0 (xc _) (by omega)
 have r:s1.len=xs.length:=by rw [f.len,xS]
 rw [r];rw [show ((0:Nat):Int)=0 from rfl] at this;rw [show Int.ofNat xs.length=(xs.length:Int) from rfl,this];rfl
def lB0 {nm:Bs} {s1 s2:SL} {xs:List Bs} (w:Sl h V s1 (xs.map D.s)) (A:Sl h W s2 (xs.map D.s)) (C:xs.length<=2000000) (y:xs.length<N):∃ h',f164 N (nm,s1,()) (nm,s2,()) h=some (true,h')/\Chg [] h h':=by
 unfold f164;have o1:=wA h (lfc (nm,s1,()));have c1:=uA h (.row (lfc (nm,s1,())) .own);have I:h.push (.row [(.str nm),(yL s1)] .own)=h.push (.row (lfc (nm,s1,())) .own):=rfl;dsimp only;rw [I];generalize h.push (.row (lfc (nm,s1,())) .own)=f at *;have o2:=wA f (lfc (nm,s2,()));have r:=uA f (.row (lfc (nm,s2,())) .own);have u:f.push (.row [(.str nm),(yL s2)] .own)=f.push (.row (lfc (nm,s2,())) .own):=rfl;rw [u];have o1:=o1.chg r;generalize f.push (.row (lfc (nm,s2,())) .own)=p at *;have j:=c1.trans r;have B:p.cell (h.next,0)=some (.str nm):=o1.cell 0;have J:p.cell (h.next,1)=some (SL.av s1):=o1.cell 1;have H:p.cell (f.next,0)=some (.str nm):=o2.cell 0;have F:p.cell (f.next,1)=some (SL.av s2):=o2.cell 1;simp only [xC,B,J,H,F,dA,yA,eqB.2,xA,SL.av,qA];rw [kB0 (w.chg j) (A.chg j) C y,aA];exact ⟨_,rfl,j⟩
end
end Qp
end Go.Proofs.YtkcjphhjmlienaaGreatDoor
