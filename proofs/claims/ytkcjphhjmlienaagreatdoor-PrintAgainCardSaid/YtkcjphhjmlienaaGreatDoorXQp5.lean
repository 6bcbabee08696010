import Derived.Test.YtkcjphhjmlienaaGreatDoorXQp4
import Derived.Test.YtkcjphhjmlienaaGreatDoorProg
import Derived.Test.YtkcjphhjmlienaaGreatDoorXQp3
import Derived.Test.YtkcjphhjmlienaaGreatDoorXQp2
import Derived.Test.YtkcjphhjmlienaaGreatDoorXQp1
import Derived.Test.YtkcjphhjmlienaaGreatDoorAi2
import Derived.Test.YtkcjphhjmlienaaGreatDoorRows
import Derived.LaidMore
import Derived.LaidHandle
import Derived.Stop.LaidErr
import Derived.Lib.LaidTab
/- Functions of the program as plain functions, and what they come to; part 5. -/
namespace Go.Proofs.YtkcjphhjmlienaaGreatDoor
set_option linter.unusedVariables false
set_option linter.unusedSimpArgs false
set_option linter.defProp false
set_option maxRecDepth 100000
open Go Ai Go.Proofs
namespace Qp
noncomputable def f13 (N:Nat) (W:zO3) (h:Heap):yO0 Bool:=
 let x1:Bool:=ltInt 4000 (Int.ofNat W.length)
 (bif x1 then
  (jA (f15 N  h) fun x2 Y=>
  some (x2,Y))
 else
  (jA (f27 N W h) fun V w=>
  let Z:Heap:=w.push (.row yZJ .own)
  (vA (Z.store (w.next,0) (yRJ V.1)) fun O=>
  (iA (.val zL3) (tM E .neq 29 (.tmp 18) (.const .nilIface) V.2.1 AV.nilIface) fun x8=>
  (bif x8 then
  (jA (f15 N  O) fun X H=>
  some (X,H))
  else
  (iA (.val zQ) (O.cells (w.next,0) 2) fun F=>
  (jA (f16 N (F.1,F.2.1,()) O) fun B K=>
  (jA (f27 N B.1 K) fun y j=>
  let U:Heap:=j.push (.row yZJ .own)
  (vA (U.store (j.next,0) (yRJ y.1)) fun I=>
  (jA (f15 N  I) fun L f=>
  (bif L then
   (iA (.val zL3) (tM E .eql 29 (.tmp 33) (.const .nilIface) B.2.1 AV.nilIface) fun J=>
   (bif J then
   (iA (.val zL3) (tM E .eql 29 (.tmp 37) (.const .nilIface) y.2.1 AV.nilIface) fun Q=>
   (bif Q then
    (iA (.val zQ) (f.cells (j.next,0) 2) fun r=>
    (jA (f31 N (r.1,r.2.1,()) f) fun C u=>
    (iA (.val zQ) (u.cells (w.next,0) 2) fun p=>
    (jA (f31 N (p.1,p.2.1,()) u) fun A S=>
    (jA (f30 N (C.1,C.2.1,()) (A.1,A.2.1,()) S) fun M R=>
    (pD (bif (jB (u.cells (w.next,0) 2) (.agg (yRJ p))) then (bif (jB (f.cells (w.next,0) 2) (.agg (yRJ p))) then (bif (jB (f.cells (j.next,0) 2) (.agg (yRJ r))) then true else false) else false) else false) (
    some (M,R))))))))
   else
    (pD true (
    some (false,f)))))
   else
   (pD true (
   some (false,f)))))
  else
   (pD true (
   some (false,f))))))))))))))
noncomputable def wBu:Ann:=.n
def f13_ok (N:Nat):pC Tryz.prog 13 [zK3] (.val zL3) (fun x h=>f13 N x.1 h):=
 oAk fBb mBr (bA (yBm N) (bA (lBn N) (bA (wBl N) (bA (oB9 N) (bA (mBp N) kA))))) (N:=N) (x:=wBu) (fn:=Tryz.f13) (c:=Tryz.f13.body.getD .skip) (by kernel_rfl) (by kernel_rfl) (by kernel_rfl) (by kernel_rfl) (fun _ _=>by kernel_rfl)
end Qp
set_option maxRecDepth 20000
namespace Qp
abbrev zs:SL:=⟨none,0,0,0⟩
def zI (k:Int):Bool:=pA k 0
def zN (s:SL):Bool:=pA (Int.ofNat s.len) 0
def zB (x:Bs):Bool:=bB x []
def zLf (r:LfV):Bool:=zB r.1&&zN r.2.1
def zOp (r:OpV):Bool:=zI r.1&&(zI r.2.1&&zLf (r.2.2.1,r.2.2.2.1,()))
def zTy (r:TyV):Bool:=zI r.1&&(zB r.2.1&&(zN r.2.2.1&&zN r.2.2.2.1))
section
variable {N:Nat} {h:Heap} {V:Nat->Prop}
end
end Qp
namespace Qp
def vaA (r:VaV):OpV:=(r.2.1,r.2.2.1,r.2.2.2.1,r.2.2.2.2.1,())
def vaB (r:VaV):OpV:=(r.2.2.2.2.2.1,r.2.2.2.2.2.2.1,r.2.2.2.2.2.2.2.1,r.2.2.2.2.2.2.2.2.1,())
def vaO (r:VaV):Int:=r.2.2.2.2.2.2.2.2.2.1
def vaP (r:VaV):LfV:=(r.2.2.2.2.2.2.2.2.2.2.1,r.2.2.2.2.2.2.2.2.2.2.2.1,())
def vaN (r:VaV):Bs:=r.2.2.2.2.2.2.2.2.2.2.2.2.1
def vaS (r:VaV):SL:=r.2.2.2.2.2.2.2.2.2.2.2.2.2.1
def vaG (r:VaV):SL:=r.2.2.2.2.2.2.2.2.2.2.2.2.2.2.1
def zVa (r:VaV):Bool:=zI r.1&&(zI (vaO r)&&(zB (vaN r)&&(zOp (vaA r)&&(zOp (vaB r)&&(zLf (vaP r)&&(zN (vaS r)&&zN (vaG r)))))))
section
variable {N:Nat} {h:Heap} {V:Nat->Prop}
end
end Qp
namespace Qp
section
variable {h:Heap} {V W:Nat->Prop} {cs:List AV}
end
end Qp
namespace Qp
section
variable {N:Nat} {h:Heap} {V:Nat->Prop}
end
end Qp
namespace Qp
section
variable {N:Nat} {h:Heap} {V:Nat->Prop}
end
end Qp
namespace Qp
section
variable {N:Nat} {h:Heap} {V:Nat->Prop}
end
end Qp
namespace Qp
section
variable {N:Nat} {h:Heap} {V:Nat->Prop}
end
end Qp
namespace Qp
def zSm (z:SmR):Bool:=zI z.k&&(zI z.at_&&(!z.m&&(zB z.nm&&(!z.has&&(zTy z.ty&&(zLf z.pl&&(zVa z.va&&zOp z.co)))))))
section
variable {N:Nat} {h:Heap} {V:Nat->Prop}
end
end Qp
namespace Qp
end Qp
namespace Qp
structure RdS (G:Heap) (A:Nat) (rr:SmR):Prop where
 k:G.cell (A,0)=some (.int .i64 rr.k)
 nm:G.cell (A,3)=some (.str rr.nm)
 ty:G.cells (A,4) 4=some (.agg (tyc rr.ty))
 has:G.cell (A,8)=some (.bool rr.has)
 pl:G.cells (A,9) 2=some (.agg (lfc rr.pl))
 va:G.cells (A,11) 15=some (.agg (vac rr.va))
 vk:G.cell (A,11)=some (.int .i64 rr.va.1)
 co:G.cells (A,26) 4=some (.agg (opc rr.co))
 th:G.cell (A,30)=some (yL rr.th)
 el:G.cell (A,31)=some (yL rr.el)
def z0R (f:SmR):SmR:={ f with k:=0,at_:=0,th:=sl0,el:=sl0 }
inductive SwR (rr:SmR) (ty pl va co:D):Bool->Bool->Bool->SmR->Prop
 | let_ {ok} (hk:rr.k=1) (h:ok=true↔jE rr.nm=true/\lL 64 ty):SwR rr ty pl va co ok false false { z0R rr with m:=false,nm:=[],ty:=jAv }
 | set {ok} (hk:rr.k=2) (h:ok=true↔gX pl/\mayVa va):SwR rr ty pl va co ok false false { z0R rr with pl:=lf0,va:=va0 }
 | call {ok} (hk:rr.k=3) (h:ok=true↔mayVa va/\rr.va.1=6):SwR rr ty pl va co ok false false { z0R rr with va:=va0 }
 | if_ {ok} (hk:rr.k=4) (h:ok=true↔bG co):SwR rr ty pl va co ok true rr.has { z0R rr with co:=fE,has:=false }
 | while_ {ok} (hk:rr.k=5) (h:ok=true↔bG co):SwR rr ty pl va co ok true false { z0R rr with co:=fE }
 | loop {ok} (hk:rr.k=6\/rr.k=7) (h:ok=true):SwR rr ty pl va co ok true false (z0R rr)
 | break_ {ok} (hk:rr.k=8\/rr.k=9\/rr.k=10) (h:ok=true):SwR rr ty pl va co ok false false (z0R rr)
 | drop {ok} (hk:rr.k=11) (h:ok=true↔gX pl):SwR rr ty pl va co ok false false { z0R rr with pl:=lf0 }
section
variable {N:Nat} {h:Heap} {V:Nat->Prop}
end
end Qp
namespace Qp
section
variable {N:Nat} {h:Heap} {V:Nat->Prop}
end
end Qp
namespace Qp
structure TlR (HA H':Heap) (rr z:SmR) (ok th el:Bool) (Pt Pe:Prop):Prop where
 c:Chg [] HA H'
 ok:ok=true
 z:zSm z=true
 t0:th=false->rr.th.len=0
 e0:el=false->rr.el.len=0
 t:th=true->Pt
 e:el=true->Pe
inductive TlN (rr z:SmR):Bool->Bool->Bool->Prop->Prop->Prop
 | ok {th el Pt Pe}:TlN rr z false th el Pt Pe
 | z {ok th el Pt Pe} (h:zSm z=false):TlN rr z ok th el Pt Pe
 | t0 {ok el Pt Pe} (h:0<rr.th.len):TlN rr z ok false el Pt Pe
 | e0 {ok th Pt Pe} (h:0<rr.el.len):TlN rr z ok th false Pt Pe
 | t {ok el Pt Pe} (h:¬ Pt):TlN rr z ok true el Pt Pe
 | e {ok th Pt Pe} (h:¬ Pe):TlN rr z ok th true Pt Pe
section
variable {N:Nat} {h:Heap} {V:Nat->Prop}
end
end Qp
namespace Qp
section
variable {N:Nat} {h:Heap} {V:Nat->Prop}
end
end Qp
namespace Qp
section
variable {N:Nat} {h:Heap} {V:Nat->Prop}
end
end Qp
namespace Qp
section
variable {N:Nat} {h:Heap} {V:Nat->Prop}
end
end Qp
namespace Qp
section
variable {N:Nat} {h:Heap} {V:Nat->Prop}
end
end Qp
namespace Qp
def cAf {d:D} (h:mayVa d):isVa d:=by
 cases h with
 | op h=>exact ⟨_,_,_,_,_,_,[],[],rfl,tE h,rH,kJ,by simp,by simp,by simp⟩
 | ref u h=>exact ⟨_,_,_,_,_,_,[],[],rfl,rH,rH,wL h,by simp,by simp,by simp⟩
 | no h=>exact ⟨_,_,_,_,_,_,[],[],rfl,tE h,rH,kJ,by simp,by simp,by simp⟩
 | bin r p u=>exact ⟨_,_,_,_,_,_,[],[],rfl,tE r,tE p,kJ,by simp,by simp,by simp⟩
 | @call nm ag j h=>exact ⟨_,_,_,_,_,_,[],ag,rfl,rH,rH,kJ,by simp,by have:=h.1;omega,fun o f=>tE (h.2 o f)⟩
 | @make nm ns ag j w y h=>exact ⟨_,_,_,_,_,_,ns,ag,rfl,rH,rH,kJ,by have:=h.1;omega,by have:=h.1;omega,fun o f=>tE (h.2 o f)⟩
theorem lB3 {f:Bool} {va:D} (h:jB9 f va):isVa va:=by
 rcases h with ⟨_,h⟩ | ⟨_,rfl⟩
 ·exact cAf h
 ·exact lA6
def nBq {n:Nat} {k:Int} {m r:Bool} {nm:Bs} {ty pl va co:D} {th el:List D} (h:SmN n k m nm ty r pl va co th el):isTy 65 ty/\isLf pl/\isVa va/\isOp co:=by
 cases h with
 | let_ f y j=>grind [iX,kJ,lB3,rH]
 | @set nm xs va f p j=>exact ⟨oY,wL ⟨nm,xs,rfl,f,p⟩,cAf j,rH⟩
 | call f h=>exact ⟨oY,kJ,cAf (.call f h),rH⟩
 | if_ h0 u A=>grind [oY,kJ,lA6,tE]
 | while_ h0 u=>grind [oY,kJ,lA6,tE]
 | loop h0=>exact ⟨oY,kJ,lA6,rH⟩
 | block h0=>exact ⟨oY,kJ,lA6,rH⟩
 | break_=>exact ⟨oY,kJ,lA6,rH⟩
 | cont=>exact ⟨oY,kJ,lA6,rH⟩
 | ret j=>grind [oY,kJ,lB3,rH]
 | drop w=>grind [oY,wL,lA6,rH]
def lBh {n:Nat} {l:List D} {x:D} (h:x∈l):yH n (thD x)+yH n (elD x)<=(l.map fun d=>yH n (thD d)+yH n (elD d)).sum:=by
 induction l with
 | nil=>cases h
 | cons y r f=>
  grind
def iAo {n:Nat} {l:List D} (f:∀ x∈l,mayN n x):l.length<=yH n l:=by
 cases n with
 | zero=>
  cases l with
  | nil=>exact xD _
  | cons y r=>exact (f y (by simp)).elim
 | succ n=>simp only [yH];omega
def mBh:∀ (n:Nat) (l:List D),(∀ x∈l,mayN n x)->yH n l<=2000->∀ x∈l,gA0 (n+1) x
 | 0,l,j,_,x,f=>(j x f).elim
 | n+1,l,j,I,x,f=>by
  have h:=lBh (n:=n) f;simp only [yH] at I;obtain ⟨k,a,m,nm,ty,p,pl,va,co,th,el,rfl,r,u,B⟩:=j x f;have H:thD (smT k a m nm ty p pl va co th el)=th:=rfl;have F:elD (smT k a m nm ty p pl va co th el)=el:=rfl;rw [H,F] at h;have J:=iAo r;have K:=iAo u;have ⟨C,w,y,A⟩:=nBq B;exact ⟨k,a,m,nm,ty,p,pl,va,co,th,el,rfl,C,w,y,A,by omega,by omega,mBh n th r (by omega),mBh n el u (by omega)⟩
def cAs {d:D} (h:jA1 d):isSt d:=by
 obtain ⟨pub,nm,lv,r,a,rfl,w,u,p⟩:=h
 have:=u.1
 have:=p.1
 exact ⟨pub,nm,lv,r,a,rfl,by omega,by omega,fun f j=>pA2 (p.2 f j)⟩
theorem dAf {d:D} (h:pY d):isFu d:=by
 obtain ⟨pub,nm,lv,ps,ty,bd,a,rfl,B,y,u,r,w,A⟩:=h
 have:=y.1
 have:=u.1
 have:=iAo w
 refine ⟨pub,nm,lv,ps,ty,bd,a,rfl,by omega,fun l f=>gAe (y.2 l f),by omega,fun p j=>pA2 (u.2 p j),?_,by omega,mBh 64 bd w A⟩;rcases r with rfl | r
 ·exact oY
 ·exact iX r
section
variable {N:Nat} {h:Heap} {V:Nat->Prop}
end
end Qp
namespace Qp
section
variable {N:Nat} {h:Heap} {V:Nat->Prop}
end
end Qp
namespace Qp
section
variable {N:Nat} {h:Heap} {V:Nat->Prop}
def mAj {A n:Nat} {cs:List AV} {xs:List D} (o:h.own A cs) (d:De h V n xs cs) (r:V A) (p:cs.length=xs.length * n):Sl h V ⟨some (A,0),xs.length,xs.length,n⟩ xs:=
 ⟨rfl,xD _,fun B j=>by
  have:some A=some B:=j
  grind,cs,⟨p,fun f=>(by cases f),fun B off f=>by
  simp only [xF,xI] at f;obtain ⟨rfl,rfl⟩:=f;exact ⟨o.2,cs,by rw [o.1];rfl,by grind⟩⟩,d⟩
def fnE:D:=fuT false [102] [] [] ty0D [] 0
theorem mB3:pY fnE:=⟨false,[102],[],[],ty0D,[],0,rfl,by decide,⟨by simp,by simp⟩,⟨by simp,by simp⟩,.inl rfl,by simp,by decide⟩
def nBh:crX [] [fnE]=[102,110,32,102,40,41,32,123,10,125,10]:=by
 unfold crX fuX fnE hdX bdX vY
 decide
def rfE:PT:=.ref true [[97]] .int
def oBh:tyX 64 rfE.D=[38,39,97,32,109,117,116,32,105,110,116]:=by decide
def nB3 (hN:3001<=N) (pk:PK h):∃ h',f15 N h=some (true,h')/\Chg [] h h':=by
 unfold f15;have o1:=wA h (fuc (vI false [102] 0));have c1:=uA h (.row (fuc (vI false [102] 0)) .own);have e1:h.push (.row [(.bool false),(.str [102]),yS0,yS0,(yI0 0),(.str []),yS0,yS0,yS0,(yI0 0)] .own)=h.push (.row (fuc (vI false [102] 0)) .own):=rfl;dsimp only;rw [e1];have Q:=pk.chg c1;generalize h.push (.row (fuc (vI false [102] 0)) .own)=F at *;have M:Dt F (fun _=>True) ty0D (tyc jAv):=yJ.2 ⟨_,_,rfl,Sl.nil _ _ _,Sl.nil _ _ _⟩;have R:Dt F (fun _=>True) fnE (fuc (vI false [102] 0)):=gB9 (Sl.nil _ _ _) (Sl.nil _ _ _) M (Sl.nil _ _ _);have dE:De F (fun _=>True) 10 [fnE] (fuc (vI false [102] 0)):=by
  have:=R
  simp only [De];exact ⟨_,[],(List.append_nil _).symm,rfl,R,rfl⟩
 have y2:Sl F (fun _=>True) ⟨some (h.next,0),1,1,10⟩ [fnE]:=mAj o1 dE trivial rfl;have ⟨r,B,e3,c3,C⟩:=vB9 (N:=N) hN (xs:=[]) (ys:=[fnE]) (by simp) (fun y hy=>by grind [List.mem_singleton,mB3]) (by simp) (fun y hy=>by grind [List.mem_singleton,dAf,mB3]) (by simp) Q (Sl.nil _ _ 0) y2;rw [e3,aA];rw [nBh] at C;have hr:r=([102,110,32,102,40,41,32,123,10,125,10],AV.nilIface,()):=by
  rcases C with ⟨_,C⟩ | ⟨hl,_⟩
  ·exact C
  ·exact absurd hl (by decide)
 subst hr;dsimp only;rw [eq_nil];simp only [dA,aC,xA];rw [show bB [102,110,32,102,40,41,32,123,10,125,10] [102,110,32,102,40,41,32,123,10,125,10]=true from rfl];simp only [xA];have o6:=wA B [.str [97]];have c6:=uA B (.row [.str [97]] .own);generalize B.push (.row [(.str [97])] .own)=j at *;have o7:=wA j (tyc (1,[],zs,zs,()));have S:=uA j (.row (tyc (1,[],zs,zs,())) .own);have e7:j.push (.row [(yI0 1),(.str []),yS0,yS0] .own)=j.push (.row (tyc (1,[],zs,zs,())) .own):=rfl;rw [e7];have O:=o6.chg S;generalize j.push (.row (tyc (1,[],zs,zs,())) .own)=u at *;have Z:Dt u (fun _=>True) PT.int.D (tyc (1,[],zs,zs,())):=yJ.2 ⟨_,_,rfl,Sl.nil _ _ _,Sl.nil _ _ _⟩;have s1:Sl u (fun _=>True) ⟨some (B.next,0),1,1,1⟩ (([[97]]:List Bs).map D.s):=mAj (xs:=([[97]]:List Bs).map D.s) O (by
  show De u (fun _=>True) 1 [D.s [97]] [.str [97]];simp only [De,Dt]
  grind) trivial rfl
 have K:De u (fun _=>True) 4 [PT.int.D] (tyc (1,[],zs,zs,())):=by
  simp only [De];exact ⟨_,[],(List.append_nil _).symm,rfl,Z,rfl⟩
 have s2:Sl u (fun _=>True) ⟨some (j.next,0),1,1,4⟩ [PT.int.D]:=mAj o7 K trivial rfl;have dR:Dt u (fun _=>True) rfE.D (tyc (5,[],⟨some (B.next,0),1,1,1⟩,⟨some (j.next,0),1,1,4⟩,())):=yJ.2 ⟨_,_,rfl,s1,s2⟩;have hm:lL 64 rfE.D:=⟨rfE,rfl,by simp [PT.ok,rfE];decide⟩;have ⟨f,U,c9⟩:=oAe hm (by omega:100<=N) dR;rw [oBh] at U;rw [U,aA];rw [show bB [38,39,97,32,109,117,116,32,105,110,116] [38,39,97,32,109,117,116,32,105,110,116]=true from rfl];simp only [xA];have X:=wA f [.str [98]];have cB:=uA f (.row [.str [98]] .own);generalize f.push (.row [(.str [98])] .own)=w at *;have oC:=wA w [.str [97],.slice (some (f.next,0)) 1 1 1,.str [98],yS0];have cC:=uA w (.row [.str [97],.slice (some (f.next,0)) 1 1 1,.str [98],yS0] .own);have J:=X.chg cC;generalize w.push (.row [(.str [97]),(.slice (some (f.next,0)) 1 1 1),(.str [98]),yS0] .own)=p at *;have t1:Sl p (fun _=>True) ⟨some (f.next,0),1,1,1⟩ (([[98]]:List Bs).map D.s):=mAj (xs:=([[98]]:List Bs).map D.s) J (by
  show De p (fun _=>True) 1 [D.s [98]] [.str [98]];simp only [De,Dt]
  grind) trivial rfl
 have d1:Dt p (fun _=>True) (eF [97] (([[98]]:List Bs).map D.s)) (lfc ([97],⟨some (f.next,0),1,1,1⟩,())):=qQ t1;have d2:Dt p (fun _=>True) (eF [98] (([]:List Bs).map D.s)) (lfc ([98],zs,())):=qQ (Sl.nil _ _ _);have Y:Sl p (fun _=>True) ⟨some (w.next,0),2,2,2⟩ [eF [97] (([[98]]:List Bs).map D.s),eF [98] (([]:List Bs).map D.s)]:=mAj (xs:=[eF [97] (([[98]]:List Bs).map D.s),eF [98] (([]:List Bs).map D.s)]) oC (by
  simp only [De];exact ⟨lfc ([97],⟨some (f.next,0),1,1,1⟩,()),lfc ([98],zs,()),rfl,rfl,d1,_,[],rfl,rfl,d2,rfl⟩) trivial rfl
 have L:uO 64 rS [eF [97] (([[98]]:List Bs).map D.s),eF [98] (([]:List Bs).map D.s)]:=⟨by simp,fun x H=>by
  simp only [List.mem_cons,List.not_mem_nil,or_false] at H;rcases H with rfl | rfl
  ·exact ⟨[97],[[98]],rfl,by decide,by simp,by simp;decide⟩
  ·exact ⟨[98],[],rfl,by decide,by simp,by simp⟩⟩
 have A:Dt p (fun _=>True) ty0D (tyc jAv):=yJ.2 ⟨_,_,rfl,Sl.nil _ _ _,Sl.nil _ _ _⟩;have ⟨W,eE,cE⟩:=uB9 (N:=N) (by omega) (⟨true,[102],⟨some (w.next,0),2,2,2⟩,zs,jAv,zs,0⟩:FuR) (lv:=[eF [97] (([[98]]:List Bs).map D.s),eF [98] (([]:List Bs).map D.s)]) (ps:=[]) (ty:=ty0D) (show jE [102]=true by decide) L ⟨by simp,by simp⟩ (.inl rfl) Y (Sl.nil _ _ _) A;have H:vY true [102] [eF [97] (([[98]]:List Bs).map D.s),eF [98] (([]:List Bs).map D.s)] [] ty0D=[112,117,98,32,102,110,32,102,60,39,97,58,32,39,98,44,32,39,98,62,40,41]:=by decide
 have I:f20 N (true,[102],⟨(some (w.next,0)),2,2,2⟩,⟨none,0,0,0⟩,0,[],⟨none,0,0,0⟩,⟨none,0,0,0⟩,⟨none,0,0,0⟩,0,()) p=some ([112,117,98,32,102,110,32,102,60,39,97,58,32,39,98,44,32,39,98,62,40,41],W):=by rw [<- H];exact eE
 rw [I,aA];refine ⟨W,?_,?_⟩
 ·rfl
 ·exact ((((((c1.trans c3).trans c6).trans S).trans c9).trans cB).trans cC).trans cE
end
end Qp
namespace Qp
end Qp
open Go.RowKit (Below)
namespace Qy
open Qa
def h0:Heap:={ t:=Tr.set (Tr.set .nil 0 (.row [hdl] .ro)) 2 (.row [Qw.sen] .ro),next:=4,pins:=[(0,lAx),(1,loc1),(2,Qw.wBh)] }
def mu0 (l:Ai.Loc):Mu:=fun A=>if A=0 then some lAx else if A=1 then some loc1 else if A=2 then some Qw.wBh else if A=3 then some l else none
def mu0_inv {l:Ai.Loc} {A:Nat} {m:Ai.Loc} (h:mu0 l A=some m):(A=0/\m=lAx)\/(A=1/\m=loc1)\/(A=2/\m=Qw.wBh)\/(A=3/\m=l):=by
 unfold mu0 at h
 split at h
 ·cases h;exact .inl ⟨by assumption,rfl⟩
 ·split at h
  ·cases h;exact .inr (.inl ⟨by assumption,rfl⟩)
  ·split at h
   ·cases h;exact .inr (.inr (.inl ⟨by assumption,rfl⟩))
   ·split at h
    ·cases h;exact .inr (.inr (.inr ⟨by assumption,rfl⟩))
    ·cases h
def h0_inv {A:Nat} {b:Blk} (h:h0.t.get A=some b):(A=0/\b=.row [hdl] .ro)\/(A=2/\b=.row [Qw.sen] .ro):=by
 rcases Tr.get_set h with h | ⟨_,h⟩
 ·exact .inr h
 ·rcases Tr.get_set h with h | ⟨_,h⟩
  ·exact .inl h
  ·simp [Tr.get_nil] at h
def h0_rof:Rof h0:=by
 refine ⟨fun A b f=>?_,fun A f=>?_⟩
 ·rcases h0_inv f with ⟨_,rfl⟩ | ⟨_,rfl⟩ <;> exact ⟨_,rfl⟩
 ·cases j:h0.t.get A with
  | none=>rfl
  | some b=>
   have p:(4:Nat)<=A:=f;rcases h0_inv j with ⟨h,_⟩ | ⟨h,_⟩ <;> omega
def mB8 {w:World} {l:Ai.Loc} (J:7<w.heap.size) {e e':TypeId} (r:w.shape? 1=some (e,1)) (K:w.cell? ⟨1,0,none⟩=some (.iface 232 (.agg #[.pointer (some ⟨7,29,none⟩)])))
  (p:w.shape? 3=some (e',1)) (u:w.cell? ⟨3,0,none⟩=some (.iface 275 (.pointer (some ⟨l.b,l.sh,none⟩)))) (I:l.b<w.heap.size):HR (mu0 l) h0 w:=by
 refine ⟨fun A m j=>?_,fun A B L O R Q j M H F _ _ C y=>?_,fun A m b j y=>?_,fun x f=>?_⟩
 ·rcases mu0_inv j with ⟨rfl,rfl⟩ | ⟨rfl,rfl⟩ | ⟨rfl,rfl⟩ | ⟨rfl,rfl⟩
  ·exact ⟨by show 0<4;omega,by show 1<w.heap.size;omega⟩
  ·exact ⟨by show 1<4;omega,J⟩
  ·exact ⟨by show 2<4;omega,by show 3<w.heap.size;omega⟩
  ·exact ⟨by show 3<4;omega,I⟩
 ·rcases h0_inv H with ⟨_,rfl⟩ | ⟨_,rfl⟩ <;> rcases h0_inv F with ⟨_,rfl⟩ | ⟨_,rfl⟩ <;> exact ⟨rfl,rfl⟩
 ·rcases h0_inv y with ⟨rfl,rfl⟩ | ⟨rfl,rfl⟩
  ·rcases mu0_inv j with ⟨_,rfl⟩ | ⟨h,_⟩ | ⟨h,_⟩ | ⟨h,_⟩
   ·refine ⟨⟨e,r⟩,xD _,fun i x f=>?_⟩
    cases i with
    | zero=>
     have:x=hdl:=by simpa using f.symm
     subst this;refine ⟨_,K,?_⟩;simp only [hdl,VR,VRs];exact ⟨_,rfl,_,rfl,_,[],rfl,⟨loc1,rfl,rfl⟩,rfl⟩
    | succ i=>simp at f
   ·cases h
   ·cases h
   ·cases h
  ·rcases mu0_inv j with ⟨h,_⟩ | ⟨h,_⟩ | ⟨_,rfl⟩ | ⟨h,_⟩
   ·cases h
   ·cases h
   ·refine ⟨⟨e',p⟩,xD _,fun i x f=>?_⟩
    cases i with
    | zero=>
     have:x=Qw.sen:=by simpa using f.symm
     subst this;refine ⟨_,u,?_⟩;simp only [Qw.sen,VR];exact ⟨_,rfl,l,rfl,rfl⟩
    | succ i=>simp at f
   ·cases h
 ·simp only [h0,List.mem_cons,List.not_mem_nil,or_false] at f
  rcases f with rfl | rfl | rfl <;> rfl
def oB3:Qw.pinned h0=true:=by kernel_rfl
def pB3 {h:Heap} (f:HLe h0 h):Qw.pinned h=true/\4<=h.next:=by
 refine ⟨?_,f.next⟩;have r:=oB3;have p:h0.t.get 0=some (.row [hdl] .ro):=by kernel_rfl
 have j:h0.t.get 2=some (.row [Qw.sen] .ro):=by kernel_rfl
 have e0:h.t.get 0=h0.t.get 0:=(f.get 0 _ p).trans p.symm;have u:h.t.get 2=h0.t.get 2:=(f.get 2 _ j).trans j.symm;unfold Qw.pinned Qx.pinned at r ⊢;rw [f.pins,e0,u];exact r
end Qy
namespace Qp
section
variable {N:Nat} {h:Heap} {b:Bool} {n:Nat}
end
def oBq (h:Heap) (a b:SL):∃ h',(∀ {β:Type} (K:Heap->Option β),vA ((h.push (.row yZJ .own)).store (h.next,0) [(yL a),(yL b)]) K=K h')/\Chg [] h h'/\h'.own h.next [SL.av a,SL.av b]:=by
 have o:=wA h [SL.av sl0,SL.av sl0];have c:=uA h (.row [SL.av sl0,SL.av sl0] .own);have f:(h.push (.row [SL.av sl0,SL.av sl0] .own)).store (h.next,0) [SL.av a,SL.av b]=some ((h.push (.row [SL.av sl0,SL.av sl0] .own)).put h.next (.row [SL.av a,SL.av b] .own)):=o.store rfl;refine ⟨_,fun K=>?_,c.put (.inr (xD _)) _,kB o _⟩;have e:h.push (.row yZJ .own)=h.push (.row [SL.av sl0,SL.av sl0] .own):=rfl;have j:[(AV.slice a.a a.len a.cap a.sz),(yL b)]=[SL.av a,SL.av b]:=rfl;rw [e,j,f,fA]
theorem ErrW.keep {h h':Heap} {v:AV} {e:Er3} (x:ErrW h v e) (c:Chg [] h h'):ErrW h' v e:=x.chg c (by simp)
section
variable {h:Heap}
end
end Qp
namespace Qp
section
variable {h:Heap}
end
end Qp
namespace Qp
end Qp
namespace Qp
section
variable {N:Nat} {h:Heap}
end
end Qp
namespace Qp
abbrev tA:Bs:=[102,110,32,102,40,120,58,32,105,110,116,41,32,45,62,32,105,110,116,32,123,32,114,101,116,117,114,110,32,120,32,43,32,49,59,32,125]
abbrev tB:Bs:=[32,102,110,32,102,40,32,123]
abbrev tC:Bs:=[38,39,97,32,109,117,116,32,83,60,39,98,62]
def lBw:D->List D
 | .t [_,_,_,_,_,.l bd,_]=>bd
 | _=>[]
def mBw:D->Int
 | .t (_::.i a::_)=>a
 | _=>0
def cA1:(bH 20000 tA).2=none:=by kernel_rfl
def cA2:(bH 20000 tA).1.2.map (fun d=>(lBw d).map mBw)=[[22]]:=by kernel_rfl
def cB:(bH 20000 tB).2=some (21,1,some 7):=by kernel_rfl
def cC:aBt 20000 tC=(tyD 5 [] [[97]] [tyD 3 [83] [[98]] []],none):=by kernel_rfl
end Qp
namespace Qp
section
variable {N:Nat} {s:Bs} {v1 v5:SL} {ns:List Int} {l:List Tok}
end
def jAo:∀ {n:Nat} {d:D},gA0 n d->gA0 n (eH n d)
 | 0,d,h=>h.elim
 | n+1,d,⟨k,a,m,nm,ty,f,pl,va,co,th,el,h0,p,A,w,r,u,C,B,F⟩=>by
  subst h0;rw [kA6];refine ⟨k,0,m,nm,ty,f,pl,va,co,_,_,rfl,p,A,w,r,by rw [xS];exact u,by rw [xS];exact C,fun s f=>?_,fun s f=>?_⟩
  ·obtain ⟨y,j,rfl⟩:=List.mem_map.1 f
   exact jAo (B y j)
  ·obtain ⟨y,j,rfl⟩:=List.mem_map.1 f
   exact jAo (F y j)
theorem wB7 {d:D} (h:isSt d):isSt (yQ d):=by
 obtain ⟨pub,nm,lv,p,a,rfl,j,r,f⟩:=h;exact ⟨pub,nm,lv,p,0,rfl,j,r,f⟩
theorem yB7 {d:D} (h:isFu d):isFu (bareFu d):=by
 obtain ⟨pub,nm,lv,ps,ty,bd,a,rfl,f,w,u,j,r,B,A⟩:=h;exact ⟨pub,nm,lv,ps,ty,bd.map (eH 65),0,rfl,f,w,u,j,r,by rw [xS];exact B,fun s C=>by
  obtain ⟨y,p,rfl⟩:=List.mem_map.1 C;exact jAo (A y p)⟩
section
variable {h:Heap}
end
end Qp
namespace Qp
def aZ (b:Bool) {β:Type} (K:Bool->Option β):iA (.val zL3) (some (.bool b)) K=K b:=rfl
def pBq {h:Heap} (hp:Qw.pinned h=true) (pk:PK h) (s:Bs):∃ h',f13 3000000 s h=some (true,h'):=by
 unfold f13;have h4:4<=h.next:=xT (by decide) pk.2.1;have z1:ltInt 4000 (Int.ofNat s.length)=decide (4000<s.length):=wA4 4000 _;simp only [z1]
 by_cases q:4000<s.length
 ·have ⟨w0,e0,_⟩:=nB3 (N:=3000000) (by decide) pk
  simp only [q,xO,xA,e0,aA];exact ⟨_,rfl⟩
 simp only [q,xQ,xB];have ⟨va,S,ea,h8,ra,ca,c0,c3,xa⟩:=dB9 (σ:=(0,none)) (N:=3000000) (s:=s) (by omega) (by omega) (by omega) hp h4;rw [ra,aA]
 try dsimp only
 have ⟨d5,d0,A,oa⟩:=oBq h8 va S;rw [d0];have f:=ca.trans A;have a0:=pQ f (by simp) h4 hp;have u:=pk.chg f;have a5:=xa.keep A
 try dsimp only
 rw [a5.ne,aZ]
 cases d4:(bH 3000000 s).2 with
 | some x=>
  have ⟨w0,e0,_⟩:=nB3 (N:=3000000) (by decide) u;simp only [Option.isSome,xA,e0,aA];exact ⟨_,rfl⟩
 | none=>
 simp only [Option.isSome,xB];rw [rW oa];have ⟨mx,my,ml,mt⟩:=jAj (N:=3000000) (s:=s) (by omega) d4;have ⟨d9,c9,b1,b2,b3⟩:=eAv (N:=3000000) mx my ml (by omega);generalize (bH 3000000 s).1.1=xs at *;generalize (bH 3000000 s).1.2=ys at *;have ix:∀ x∈xs,isSt x:=fun x hx=>cAs (mx x hx);have iy:∀ y∈ys,isFu y:=fun y Z=>dAf (my y Z);have L:=c0.chg A;have F:=c3.chg A;have ⟨r,c8,d7,B,pr⟩:=vB9 (N:=3000000) (by decide) mx my ix iy ml u L F;have Y:f16 3000000 (va,S,()) d5=some (r,c8):=d7
 try dsimp only
 rw [Y,aA];rcases pr with ⟨_,rfl⟩ | ⟨e3,_⟩
 rotate_left
 ·omega
 try dsimp only
 have ht:(crX xs ys).length<=1000000:=by omega
 generalize crX xs ys=t at *;have V:=pQ B (by simp) (xT h4 f.next) a0;have a4:=xT (xT h4 f.next) B.next;have ⟨X,wz,ez,a8,rz,cz,a3,b0,xz⟩:=dB9 (σ:=(0,none)) (N:=3000000) (s:=t) (by omega) (by omega) (by omega) V a4;rw [rz,aA]
 try dsimp only
 have ⟨e6,c5,w,oz⟩:=oBq a8 X wz;rw [c5];have I:=cz.trans w
 try dsimp only
 have ⟨U,e1,p⟩:=nB3 (N:=3000000) (by decide) ((u.chg B).chg I);rw [e1,aA,xA];have en:tM E .eql 29 (.tmp 33) (.const .nilIface) AV.nilIface AV.nilIface=some (.bool true):=ErrW.eq (h:=h) (e:=none) rfl 33;rw [en,aZ,xA];have H:=xz.keep (w.trans p);rw [b1] at a3 b0 H;rw [H.eq,aZ];simp only [Option.isNone,xA];have e2:(bH 3000000 t).2=none:=by rw [b1]
 have ⟨a1,b6,a9,_⟩:=jAj (N:=3000000) (s:=t) ht e2;rw [b1] at a1 b6 a9;have M:=oz.chg p;have cA:=B.trans (I.trans p);have C:=oa.chg cA;rw [rW M];have d3:∀ x∈d9,isSt x:=fun x hx=>cAs (a1 x hx);have d6:∀ y∈c9,isFu y:=fun y Z=>dAf (b6 y Z);dsimp only at a9;have ⟨b8,c4,R,b7,Q,K,O⟩:=iB9 (N:=3000000) (by decide) d3 d6 (by omega) (by omega) (a3.chg (w.trans p)) (b0.chg (w.trans p));have b4:f31 3000000 (X,wz,()) U=some ((b8,c4,()),R):=b7
 try dsimp only
 rw [b4,aA];have J:=C.chg Q
 try dsimp only
 rw [rW J];have ⟨c6,d8,b9,c2,b5,a6,a2⟩:=iB9 (N:=3000000) (by decide) ix iy (by omega) (by omega) (L.chg (cA.trans Q)) (F.chg (cA.trans Q));have a7:f31 3000000 (va,S,()) R=some ((c6,d8,()),b9):=c2
 try dsimp only
 rw [a7,aA];rw [b2] at K;rw [b3] at O;have ⟨e5,c7,e4⟩:=mBn (N:=3000000) (fun o ho=>by obtain ⟨y,Z,rfl⟩:=List.mem_map.1 ho;grind [wB7]) (fun o ho=>by obtain ⟨y,Z,rfl⟩:=List.mem_map.1 ho;grind [yB7]) (by grind) (by grind)
  ((K.weak (W:=fun _=>True) (fun _ _ _=>trivial)).chg b5) (a6.weak (W:=fun _=>True) (fun _ _ _=>trivial)) ((O.weak (W:=fun _=>True) (fun _ _ _=>trivial)).chg b5) (a2.weak (W:=fun _=>True) (fun _ _ _=>trivial)) (by decide)
 try dsimp only
 rw [c7,aA];have v1:R.cells (h8.next,0) 2=some (.agg [SL.av va,SL.av S]):=J.cells (j:=0) (m:=2) (xD _);have v2:U.cells (h8.next,0) 2=some (.agg [SL.av va,SL.av S]):=C.cells (j:=0) (m:=2) (xD _);have v3:U.cells (a8.next,0) 2=some (.agg [SL.av X,SL.av wz]):=M.cells (j:=0) (m:=2) (xD _);have s1:jB (some (.agg [SL.av va,SL.av S])) (.agg [(yL va),(yL S)])=true:=eG _;have s2:jB (some (.agg [SL.av X,SL.av wz])) (.agg [(yL X),(yL wz)])=true:=eG _;simp only [v1,v2,v3,s1,s2,xA,yB]
 grind
def againlaw_true {H:Type} (h:Heap) (w:Qw.pinned h=true) (j:PK h) (vs:List AV) (ds:List (DataW H)) (f:RdArgs Tryz.prog h [9] vs ds):∃ xs h',VTy.tos [.one .str] xs=vs/\(fun (x:gI [.one .str]) h=>f13 3000000 x.1 h) xs h=some (true,h'):=by
 obtain ⟨A,d1,u,y,rfl,rfl,r,f⟩:=f.cons_inv;obtain ⟨rfl,rfl⟩:=f.nil_inv;obtain ⟨s,rfl,rfl,_⟩:=r.str_inv Tryz.underlying9;have ⟨h',e⟩:=pBq w j s;refine ⟨(s,()),h',?_,e⟩;have p:∀ v,qA7 Tryz.prog 9 [v]=v:=by intro v;kernel_rfl
 rw [p];rfl
end Qp
open Go.ChangeShapes Go.WideShapes
namespace Qp
open Go.Proofs.YtkcjphhjmlienaaGreatDoor
def et:Tryz.prog.globalNamed "errors.errorType" = some 1:=by kernel_rfl
def gS:Tryz.prog.globalNamed "strconv.ErrSyntax" = some 3:=by kernel_rfl
def gSt:(Tryz.prog.globals[3]?).map (·.type)=some 29:=by kernel_rfl
def rt:(Tryz.prog.cutTypes.find? (·.1 == "internal/reflectlite.rtype")).map (·.2)=some 232:=by kernel_rfl
def qBq:((List.range 306).filter fun t=>Tryz.prog.rowNamed t [101,114,114,111,114])=[29]:=by kernel_rfl
def yBu:Tryz.prog.types.size=306:=by kernel_rfl
def hand:typeHandle Tryz.prog 29=.pointer (some ⟨7,29,none⟩):=by kernel_rfl
def star : "*" ++ "errors.errorString" = "*errors.errorString":=by decide
def rBq (u:TypeId) (h:Tryz.prog.typeName? 3 u=some "*errors.errorString"):u=275:=
 typeName_ptr_named (nm:= "errors.errorString") (by rw [star];kernel_rfl) (by kernel_rfl) (by decide) u (by rw [star];exact h)
def aBv:∃ f,Tryz.prog.underlying 29=some (.interface f):=by
 have:(match Tryz.prog.underlying 29 with | some (.interface _)=>true | _=>false)=true:=by kernel_rfl
 split at this
 ·exact ⟨_,by assumption⟩
 ·cases this
def tBq:Tryz.prog.underlying 275=some (.pointer 277):=by kernel_rfl
def uBq:∃ f:Field,Tryz.prog.underlying 277=some (.struct #[f])/\f.type=9/\f.offset=0:=by
 have:(match Tryz.prog.underlying 277 with | some (.struct h)=>(match h.toList with | [f]=>Nat.beq f.type 9&&Nat.beq f.offset 0 | _=>false) | _=>false)=true:=by kernel_rfl
 split at this
 ·rename_i h j
  split at this
  ·rename_i f p
   simp only [xG] at this
   have:h = #[f]:=by rw [<- Array.toList_inj,p]
   subst this;exact ⟨f,j,xK (by simp_all),xK (by simp_all)⟩
  ·cases this
 ·cases this
def bBv:Tryz.prog.underlying 9=some .string:=by kernel_rfl
def nBw:Tryz.prog.cellsOf 277=1:=by kernel_rfl
def cS9:Tryz.prog.cellsOf 9=1:=by kernel_rfl
def vBq {W:World} (h:laidMetH Tryz.prog Rows.parseDeepRow.laid W):W.var? Tryz.prog "errors.errorType" = some #[.iface 232 (.agg #[.pointer (some ⟨7,29,none⟩)])]:=by
 have h':laidMet Tryz.prog (Rows.parseDeepRow.laid.filter fun x=>x.2.handleName?.isNone) W/\handlesMet Tryz.prog [("errors.errorType",Rows.laid_errors_errorType)] W:=h;have h2:=h'.2 _ (List.mem_singleton.2 rfl);have ⟨name,u,ty,e1,e2,e3,e4,e5⟩:=h2;have en:name=[101,114,114,111,114]:=(Option.some.inj e1).symm;subst en;obtain rfl:=Option.some.inj (rt.symm.trans e2);have hm:ty∈(List.range 306).filter fun t=>Tryz.prog.rowNamed t [101,114,114,111,114]:=List.mem_filter.2 ⟨List.mem_range.2 (by rw [<- yBu];exact e3),e4⟩;rw [qBq] at hm;obtain rfl:=List.mem_singleton.1 hm;rw [hand] at e5;exact e5
def wBq {W:World} (h:laidMetH Tryz.prog Rows.parseDeepRow.laid W):∃ (a:Addr) (s:ByteArray),W.var? Tryz.prog "strconv.ErrSyntax" = some #[.iface 275 (.pointer (some a))]/\W.cell? a=some (.string s):=by
 have h':laidMet Tryz.prog [("math/bits.deBruijn32tab",Rows.laid_math_bits_deBruijn32tab),("math/bits.deBruijn64tab",Rows.laid_math_bits_deBruijn64tab),("internal/strconv.uint64pow10",Rows.laid_internal_strconv_uint64pow10),("strconv.ErrRange",Rows.laid_strconv_ErrRange),("strconv.ErrSyntax",Rows.laid_strconv_ErrSyntax)] W/\handlesMet Tryz.prog [("errors.errorType",Rows.laid_errors_errorType)] W:=h;have ⟨ms,hms⟩:=aBv;have ⟨f,hf,hft,hfo⟩:=uBq;have ⟨a,s,h1,h2,_⟩:=laid_sentinel h'.1.tail.tail.tail.tail gS gSt hms rBq tBq hf hft hfo bBv nBw cS9;exact ⟨a,s,h1,h2⟩
def big:7<(begin Tryz.prog (fun _ _=>0) default).world.heap.size:=by
 have:Nat.blt 7 (begin Tryz.prog (fun _ _=>0) default).world.heap.size=true:=by kernel_rfl
 simpa [Nat.blt_eq] using this
def cBv:Tryz.prog.globals.size=7:=by kernel_rfl
def nAj {W:World} {n:String} {g:Nat} {v:Value} (j:Tryz.prog.globalNamed n=some g) (f:W.var? Tryz.prog n=some #[v]):∃ e,W.shape? g=some (e,1):=by
 unfold World.var? at f;rw [j] at f;have f:(match W.heap[g]? with | some (Obj.cells cs _ _)=>some cs | _=>(Option.none:Option (Array Value)))=some #[v]:=f
 cases h:W.heap[g]? with
 | none=>rw [h] at f;cases f
 | some o=>
  rw [h] at f
  cases o with
  | cells cs e p=>
   simp only [xF] at f;subst f;exact ⟨e,by simp only [World.shape?,h];rfl⟩
  | _=>cases f
def aB8 (W:World):Ai.Loc:=match W.cell? ⟨3,0,none⟩ with
 | some (.iface _ (.pointer (some a)))=>⟨a.block,a.off,0,false⟩
 | _=>⟨0,0,0,false⟩
def start_hr {W:World} (h:laidMetH Tryz.prog Rows.parseDeepRow.laid W) (F:W.ShapedOpen Tryz.prog):HR (Qy.mu0 (aB8 W)) Qy.h0 W:=by
 have w:=vBq h;have H:W.cell? ⟨1,0,none⟩=some (.iface 232 (.agg #[.pointer (some ⟨7,29,none⟩)])):=by simpa using World.var?_cell et w 0
 have ⟨o,_,B,_⟩:=F.2 7 (by rw [cBv];omega) big;have A:7<W.heap.size:=(Array.getElem?_eq_some_iff.1 B).1;have ⟨L,s1⟩:=nAj et w;have ⟨a,s,p,f⟩:=wBq h;have j:W.cell? ⟨3,0,none⟩=some (.iface 275 (.pointer (some a))):=by simpa using World.var?_cell gS p 0
 have ⟨K,y⟩:=nAj gS p;have C:aB8 W=⟨a.block,a.off,0,false⟩:=by unfold aB8;rw [j]
 have u:a=⟨a.block,a.off,none⟩/\a.block<W.heap.size:=by
  unfold World.cell? at f
  cases r:W.heap[a.block]? with
  | none=>rw [r] at f;cases f
  | some o=>
   rw [r] at f
   cases o with
   | cells cs e I=>
    have ⟨J,M,sp⟩:=a
    cases sp with
    | some x=>simp at f
    | none=>exact ⟨rfl,(Array.getElem?_eq_some_iff.1 r).1⟩
   | _=>cases f
 rw [C];exact Qy.mB8 A s1 H y (by rw [j];simp only;rw [<- u.1]) u.2
def start_pinned {h:Heap} (f:HLe Qy.h0 h):Qw.pinned h=true/\4<=h.next:=Qy.pB3 f
end Qp
namespace Qp
section
variable {N:Nat} {h:Heap} {V:Nat->Prop}
end
end Qp
namespace Qv
def h0 (m:Int):Heap:={ t:=Tr.set (Tr.set .nil 4 (.row [yI0 m] .ro)) 5 (.row Qb.tab .ro),next:=6,pins:=[(4,Qk.aBi),(5,Qb.tabLoc)] }
def mu0:Mu:=fun A=>if A=4 then some Qk.aBi else if A=5 then some Qb.tabLoc else none
def mu0_inv {A:Nat} {q:Ai.Loc} (h:mu0 A=some q):(A=4/\q=Qk.aBi)\/(A=5/\q=Qb.tabLoc):=by
 unfold mu0 at h
 grind
def h0_inv {m:Int} {A:Nat} {b:Blk} (h:(h0 m).t.get A=some b):(A=4/\b=.row [yI0 m] .ro)\/(A=5/\b=.row Qb.tab .ro):=by
 rcases Tr.get_set h with h | ⟨_,h⟩
 ·exact .inr h
 ·rcases Tr.get_set h with h | ⟨_,h⟩
  ·exact .inl h
  ·simp [Tr.get_nil] at h
def h0_ro {m:Int} {A:Nat} {b:Blk} (h:(h0 m).t.get A=some b):∃ cs,b=.row cs .ro:=by
 rcases h0_inv h with ⟨_,rfl⟩ | ⟨_,rfl⟩ <;> exact ⟨_,rfl⟩
def h0_rof {m:Int}:Rof (h0 m):=by
 refine ⟨fun A b f=>h0_ro f,fun A f=>?_⟩
 cases j:(h0 m).t.get A with
 | none=>rfl
 | some b=>
  have p:(6:Nat)<=A:=f;rcases h0_inv j with ⟨h,_⟩ | ⟨h,_⟩ <;> omega
def hr_of {w:World} (ht:Lib.TabIs Tryz.prog w "internal/strconv.uint64pow10" .u64 Lib.pow10Tab) {m:Int} {e0:TypeId} (hsh:w.shape? 0=some (e0,1)) (hc:w.cell? ⟨0,0,none⟩=some (.int .i64 m)):HR mu0 (h0 m) w:=by
 unfold Lib.TabIs World.var? at ht;rw [Qb.gTab_is] at ht;have ht:(match w.heap[Qb.gTab]? with | some (.cells cs _ _)=>some cs | _=>none)=some ((Lib.pow10Tab.map fun z=>Value.int .u64 z).toArray):=ht
 cases hq:w.heap[Qb.gTab]? with
 | none=>rw [hq] at ht;cases ht
 | some o=>
  rw [hq] at ht
  cases o with
  | cells cs e fz=>
   simp only [xF] at ht;subst ht;have hl:=Lib.pow10Tab_length;refine ⟨?_,?_,?_,?_⟩
   ·intro A l hA
    rcases mu0_inv hA with ⟨rfl,rfl⟩ | ⟨rfl,rfl⟩
    ·refine ⟨by show 4<6;omega,?_⟩
     unfold World.shape? at hsh
     cases hq0:w.heap[0]? with
     | none=>grind
     | some o=>exact (Array.getElem?_eq_some_iff.1 hq0).1
    ·exact ⟨by show 5<6;omega,(Array.getElem?_eq_some_iff.1 hq).1⟩
   ·intro A B la lb ba bb hA hB gA gB _ _ hne hb
    have ro:∀ {C:Nat} {c:Blk},(h0 m).t.get C=some c->c.isRo=true:=fun g=>by
     obtain ⟨cs,rfl⟩:=h0_ro g;rfl
    grind
   ·intro A l b hA hb
    rcases mu0_inv hA with ⟨rfl,rfl⟩ | ⟨rfl,rfl⟩
    ·rcases h0_inv hb with ⟨_,rfl⟩ | ⟨h,_⟩
     ·refine ⟨⟨e0,hsh⟩,xD _,fun i x hx=>?_⟩
      cases i with
      | zero=>
       have:x=.int .i64 m:=by simpa using hx.symm
       subst this;exact ⟨_,hc,by simp only [VR]⟩
      | succ i=>simp at hx
     ·cases h
    ·rcases h0_inv hb with ⟨h,_⟩ | ⟨_,rfl⟩
     ·cases h
     ·refine ⟨⟨e,?_⟩,?_,?_⟩
      ·grind [Qb.gTab,World.shape?,Qb.tabLoc]
      ·show 0+Qb.tab.length<=20
       rw [Qb.tab_len];omega
      ·intro i x hx
       refine ⟨.int .u64 (Lib.pow10Tab.getD i 0),?_,?_⟩
       ·show w.cell? ⟨Qb.gTab,0+i,none⟩=_
        have hi:i<20:=by grind [List.getElem?_eq_some_iff,Qb.tab_len]
        simp only [World.cell?,hq,Option.isSome_none,xE,xL,xC];simp [hl,hi]
       ·unfold Qb.tab at hx
        grind [Lib.pow10Tab,xF,VR]
   ·intro x hx
    simp only [h0,List.mem_cons,List.not_mem_nil,or_false] at hx;rcases hx with rfl | rfl <;> rfl
  | _=>cases ht
end Qv
namespace Qp
open Go.Proofs.YtkcjphhjmlienaaGreatDoor
def yBq:(Tryz.prog.globals[Qb.gTab]?).map (·.type)=some 264:=by kernel_rfl
def aBr:∃ e,Tryz.prog.underlying 264=some (.array 20 e)/\Tryz.prog.underlying e=some (.int .u64)/\Tryz.prog.cellsOf e=1:=by
 have:(match Tryz.prog.underlying 264 with | some (.array n e)=>Nat.beq n 20&&(match Tryz.prog.underlying e with | some (.int .u64)=>Nat.beq (Tryz.prog.cellsOf e) 1 | _=>false) | _=>false)=true:=by kernel_rfl
 split at this
 ·rename_i n e p
  simp only [xG] at this;have ⟨r,f⟩:=this;have h:n=20:=xK r;subst h
  split at f
  ·rename_i j
   exact ⟨e,p,j,xK f⟩
  ·cases f
 ·cases this
def bB8:Tryz.prog.cellsOf 264=20:=by kernel_rfl
def bBr:Tryz.prog.globals.size=7:=by kernel_rfl
def eAf {P:Program} {w:World} {g:Nat} {t:TypeId} {zero:Array Value} {k:IntKind} (h:w.ShapedOpen P) (H:g<P.globals.size)
  (h0:((begin P (fun _ _=>0) default).world.heap[g]?).bind Obj.row? = some (zero,t)) (J:zero.size=1)
  (F:P.buildable t=true) (I:P.cellTypes P.depth t=some [t]) (L:P.underlying t=some (.int k)):(∃ n,w.cell? ⟨g,0,none⟩=some (.int k n))/\∃ e,w.shape? g=some (e,1):=by
 have ⟨cs,B,K,C⟩:=h.1 g zero t H h0;have ⟨M,p,_,j⟩:=C F;rw [I] at p;cases p;have A:0<cs.size:=by omega
 have ⟨u,y,r⟩:=j 0 cs[0] (by simp [A])
 have:u=t:=by simpa using y.symm
 subst this;have f:w.cell? ⟨g,0,none⟩=some cs[0]:=by simp [World.cell?,B,A]
 refine ⟨?_,u,?_⟩
 ·rw [f]
  unfold Cell.ok at r
  grind
 grind [World.shape?]
def dBv (W:World):Int:=match W.cell? ⟨0,0,none⟩ with
 | some (.int _ m)=>m
 | _=>0
end Qp
namespace Qg
def h0 (m:Int):Heap:={ t:=Tr.set (Tr.set (Tr.set (Tr.set .nil 0 (.row [Qa.hdl] .ro)) 2 (.row [Qw.sen] .ro)) 4 (.row [yI0 m] .ro)) 5 (.row Qb.tab .ro),next:=6,pins:=Qy.h0.pins++(Qv.h0 m).pins }
def mu0 (l:Ai.Loc):Mu:=fun A=>if A<4 then Qy.mu0 l A else Qv.mu0 A
def qB3 {m:Int} {A:Nat} {b:Blk} (h:(h0 m).t.get A=some b):(A<4/\Qy.h0.t.get A=some b)\/(4<=A/\(Qv.h0 m).t.get A=some b):=by
 rcases Tr.get_set h with ⟨rfl,rfl⟩ | ⟨_,h⟩
 ·exact .inr ⟨by omega,rfl⟩
 ·rcases Tr.get_set h with ⟨rfl,rfl⟩ | ⟨_,h⟩
  ·exact .inr ⟨by omega,rfl⟩
  ·rcases Tr.get_set h with ⟨rfl,rfl⟩ | ⟨_,h⟩
   ·exact .inl ⟨by omega,rfl⟩
   ·rcases Tr.get_set h with ⟨rfl,rfl⟩ | ⟨_,h⟩
    ·exact .inl ⟨by omega,rfl⟩
    ·simp [Tr.get_nil] at h
def h0_ro {m:Int} {A:Nat} {b:Blk} (h:(h0 m).t.get A=some b):∃ cs,b=.row cs .ro:=by
 rcases qB3 h with ⟨_,h⟩ | ⟨_,h⟩
 ·rcases Qy.h0_inv h with ⟨_,rfl⟩ | ⟨_,rfl⟩ <;> exact ⟨_,rfl⟩
 ·exact Qv.h0_ro h
def h0_rof {m:Int}:Rof (h0 m):=by
 refine ⟨fun A b f=>h0_ro f,fun A f=>?_⟩
 cases j:(h0 m).t.get A with
 | none=>rfl
 | some b=>
  have p:(6:Nat)<=A:=f;rcases qB3 j with ⟨h,_⟩ | ⟨_,h⟩
  ·omega
  ·rcases Qv.h0_inv h with ⟨h,_⟩ | ⟨h,_⟩ <;> omega
def hr_of {w:World} {l:Ai.Loc} {m:Int} (a:HR (Qy.mu0 l) Qy.h0 w) (b:HR Qv.mu0 (Qv.h0 m) w):HR (mu0 l) (h0 m) w:=by
 have inv:∀ {A q},mu0 l A=some q->(A<4/\Qy.mu0 l A=some q)\/(4<=A/\Qv.mu0 A=some q):=fun {A q} h=>by
  unfold mu0 at h
  by_cases c:A<4
  ·rw [if_pos c] at h;exact .inl ⟨c,h⟩
  ·rw [if_neg c] at h;exact .inr ⟨by omega,h⟩
 have j:(Qy.mu0 l).le (mu0 l):=fun A q h=>by
  have:A<4:=(a.dom A q h).1
  unfold mu0;rw [if_pos this];exact h
 have p:Qv.mu0.le (mu0 l):=fun A q h=>by
  have:¬ A<4:=by rcases Qv.mu0_inv h with ⟨rfl,_⟩ | ⟨rfl,_⟩ <;> decide
  unfold mu0;rw [if_neg this];exact h
 refine ⟨fun A q h=>?_,fun A B _ _ C y _ _ u r _ _ _ _=>?_,fun A q x h g=>?_,fun x f=>?_⟩
 ·rcases inv h with ⟨c,h⟩ | ⟨c,h⟩
  ·exact ⟨xW c (by show 4<=6;decide),(a.dom A q h).2⟩
  ·exact b.dom A q h
 ·obtain ⟨_,rfl⟩:=h0_ro u
  obtain ⟨_,rfl⟩:=h0_ro r;exact ⟨rfl,rfl⟩
 ·rcases inv h with ⟨c,h⟩ | ⟨c,h⟩ <;> rcases qB3 g with ⟨d,g⟩ | ⟨d,g⟩
  ·exact (a.blk A q x h g).mono j
  ·omega
  ·omega
  ·exact (b.blk A q x h g).mono p
 ·rcases List.mem_append.1 f with f | f
  ·exact j _ _ (a.pin x f)
  ·exact p _ _ (b.pin x f)
end Qg
namespace Qp
open Go.Proofs.YtkcjphhjmlienaaGreatDoor
def cBr {W:World} (h:laidMetH Tryz.prog Rows.printAgainRow.laid W):Lib.TabIs Tryz.prog W "internal/strconv.uint64pow10" .u64 Lib.pow10Tab:=by
 have h':laidMet Tryz.prog [("math/bits.deBruijn32tab",Rows.laid_math_bits_deBruijn32tab),("math/bits.deBruijn64tab",Rows.laid_math_bits_deBruijn64tab),("internal/strconv.uint64pow10",Rows.laid_internal_strconv_uint64pow10),("strconv.ErrRange",Rows.laid_strconv_ErrRange),("strconv.ErrSyntax",Rows.laid_strconv_ErrSyntax)] W/\handlesMet Tryz.prog [("errors.errorType",Rows.laid_errors_errorType)] W:=h;have ⟨ps,⟨_,_,_,_,_,_,_,_,_,_,⟨_,_,_,_,_,_,_,_,_,_,⟨g',t',cs,fuel,p,q,hg',ht',hvar,hd,_,_⟩,_⟩,_⟩,_⟩:=h'.1;obtain rfl:=Option.some.inj (Qb.gTab_is.symm.trans hg');obtain rfl:=Option.some.inj (yBq.symm.trans ht');have ⟨e,hu,he,hce⟩:=aBr;unfold Lib.TabIs;rw [hvar]
 have:=Lib.cells_of_tab (k:=.u64) (zs:=Lib.pow10Tab) hu he hce bB8 hd
 rw [<- this]
def start_hr8 {W:World} (h:laidMetH Tryz.prog Rows.printAgainRow.laid W) (j:W.ShapedOpen Tryz.prog):HR (Qg.mu0 (aB8 W)) (Qg.h0 (dBv W)) W:=by
 have ⟨⟨m,f⟩,e,r⟩:=eAf (P:=Tryz.prog) (g:=0) (t:=3) (k:=.i64) (zero:=#[.int .i64 0]) j (by rw [bBr];omega) (by kernel_rfl) rfl (by kernel_rfl) (by kernel_rfl) Tryz.underlying3;have p:dBv W=m:=by unfold dBv;rw [f]
 rw [p];exact Qg.hr_of (start_hr (show laidMetH Tryz.prog Rows.parseDeepRow.laid W from h) j) (Qv.hr_of (cBr h) r f)
def start_pinned8 {m:Int} {h:Heap} (f:HLe (Qg.h0 m) h):Qw.pinned h=true/\PK h:=by
 have u:h.t.get 0=some (.row [Qa.hdl] .ro):=f.get 0 _ rfl;have j:h.t.get 2=some (.row [Qw.sen] .ro):=f.get 2 _ rfl;have p:h.t.get 4=some (.row [yI0 m] .ro):=f.get 4 _ rfl;have r:h.t.get 5=some (.row Qb.tab .ro):=f.get 5 _ rfl;refine ⟨?_,?_,f.next,by rw [f.pins];exact xg _ (xe _ (List.mem_singleton.2 rfl)),r⟩
 ·unfold Qw.pinned Qx.pinned
  rw [f.pins,u,j];kernel_rfl
 ·unfold Qk.pinned
  rw [f.pins,p];rfl
end Qp
end Go.Proofs.YtkcjphhjmlienaaGreatDoor
