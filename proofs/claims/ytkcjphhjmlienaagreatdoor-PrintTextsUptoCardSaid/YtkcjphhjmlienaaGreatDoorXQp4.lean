import Derived.Test.YtkcjphhjmlienaaGreatDoorXQp3
import Derived.Test.YtkcjphhjmlienaaGreatDoorXQp2
import Derived.Test.YtkcjphhjmlienaaGreatDoorProg
import Derived.Test.YtkcjphhjmlienaaGreatDoorXQp1
import Derived.Test.YtkcjphhjmlienaaGreatDoorAi2
import Derived.Test.YtkcjphhjmlienaaGreatDoorRows
import Derived.LaidMore
import Derived.Lib.LaidTab
/- Functions of the program as plain functions, and what they come to; part 4. -/
namespace Go.Proofs.YtkcjphhjmlienaaGreatDoor
set_option linter.unusedVariables false
set_option linter.unusedSimpArgs false
set_option maxRecDepth 20000
open Go Ai Go.Proofs
namespace Qp
section
variable {N:Nat} {h:Heap} {V:Nat->Prop}
theorem pAd (hN:100<=N) {P:Nat} {rr:FuR} {lv:List D} (hl:lv.length<=64) (ht:∀ x∈lv,rLf x) (hw:wtL lv<=2000000):∀ (M i:Nat) (h:Heap),i<=lv.length->lv.length-i<M->h.own P (fuc rr)->Sl h V rr.lv lv->(∀ j,(hj:j<lv.length)->j<i->yJ lv[j])->
  ∃ o b h',iAg N M (some (P,0)) false (i:Int) h=some (o,(some (P,0),b,()),h')/\Chg [] h h'/\((o=.exit 0/\∀ x∈lv,yJ x)\/(o=.ret/\b=false/\¬ ∀ x∈lv,yJ x)):=by
 intro M
 induction M with
 | zero=>intro i h _ h;omega
 | succ M ih=>
  intro i h hi hM o x hp;rw [vAc];unfold jA4;have rd:∀ {G:Heap},G.own P (fuc rr)->G.cell (P,2)=some (yL rr.lv):=fun o=>o.cell 2;have hv:rr.lv.len=lv.length:=x.len;simp only [fA,Nat.zero_add,rd o,bA,jA,fF,hv]
  by_cases q:i<lv.length
  ·simp only [q,decide_true,cond_true]
   have hm:=List.getElem_mem q;have hix:∀ {β:Type} (K:Nat×Nat->Option β),ixK rr.lv.a lv.length (i:Int) 2 K=K (rr.lv.at i 2):=fun K=>by rw [<- hv];exact x.ix q 2 K
   have rdL:∀ {G:Heap},Sl G V rr.lv lv->∃ (nm:Bs) (xs:List Bs) (sl:SL),lv[i]=gD nm (xs.map D.s)/\G.cell ((rr.lv.at i 2).1,(rr.lv.at i 2).2+0)=some (.str nm)/\G.cell ((rr.lv.at i 2).1,(rr.lv.at i 2).2+1)=some (yL sl)/\Sl G V sl (xs.map D.s):=by
    intro G x;obtain ⟨cs,e⟩:=x.elt q;obtain ⟨nm,xs,h1⟩:=ht _ hm;have hd:=e.dt;rw [h1] at hd;obtain ⟨sl,hc,hd⟩:=iG hd;have hz:rr.lv.sz=2:=by rw [<- e.len,hc];rfl
    have e0:=e.cell 0 (by rw [hz];decide);have e1:=e.cell 1 (by rw [hz];decide);rw [hz,hc] at e0 e1;exact ⟨nm,xs,sl,h1,e0,e1,hd⟩
   obtain ⟨nm,xs,sl,h1,a0,a1,y⟩:=rdL x;have inv:(∀ x∈lv,yJ x)->oD nm=true/\lAr 64 xs:=fun ha=>by
    obtain ⟨nm',xs',e,g1,g2⟩:=ha _ hm;rw [h1] at e;obtain ⟨rfl,rfl⟩:=mAg e;exact ⟨g1,g2⟩
   rw [hix,a0];simp only [bA,kA];rw [uA2 (by omega),aA]
   cases hn:oD nm with
   | false=>
    simp only [Bool.not_false,cond_true];exact ⟨_,_,h,rfl,Chg.refl _ _,.inr ⟨rfl,rfl,fun ha=>by
     grind⟩⟩
   | true=>
    simp only [Bool.not_true,cond_false,rd o,bA,jA,hv];rw [hix,a1];simp only [bA,jA];have hxl:xs.length<=2000000:=by
     have h2:=lI hm
     grind [nC,gD,wtD,wtL,List.length_map]
    obtain ⟨b,e,hb⟩:=yAn (N:=N) y hN (by omega);have e':f47 N sl h=some (b,h):=e;rw [e',aA]
    cases b with
    | false=>
     simp only [Bool.not_false,cond_true];exact ⟨_,_,h,rfl,Chg.refl _ _,.inr ⟨rfl,rfl,fun ha=>by
      grind⟩⟩
    | true=>
     simp only [Bool.not_true,cond_false];rw [aB (by omega)];exact ih (i+1) h q (by omega) o x fun j hj hji=>by
      by_cases e:j=i
      ·subst e
       rw [h1];exact ⟨nm,xs,rfl,hn,hb.1 rfl⟩
      grind
  ·simp only [q,decide_false,cond_false]
   refine ⟨_,_,h,rfl,Chg.refl _ _,.inl ⟨rfl,fun y hy=>?_⟩⟩;obtain ⟨j,hj,rfl⟩:=List.getElem_of_mem hy
   grind
theorem kAz (hN:3001<=N) {d:D} (hd:rFu d) (hw:wtD d<N) (hwl:wtD d<=2000000) {r:FuV} (x:Dt h V d (fux r)):∃ b h',f49 N r h=some (b,h')/\Chg [] h h'/\(b=true↔nI d):=by
 obtain ⟨pub,nm,lv,ps,ty,bd,a,rfl,t1,t2,t3,t4,t5⟩:=hd;have hwt:wtL lv<=wtD (fuT pub nm lv ps ty bd a)/\wtL ps<=wtD (fuT pub nm lv ps ty bd a)/\wtD ty<=wtD (fuT pub nm lv ps ty bd a)/\wtL bd<=wtD (fuT pub nm lv ps ty bd a):=by simp only [fuT,wtD,wtL];omega
 obtain ⟨w1,w2,w3,w4⟩:=hwt;obtain ⟨s1,s2,s3,rt,hc,y1,y2,yt,y3⟩:=lAg t1 x;obtain ⟨rr,hrr⟩:∃ rr:FuR,rr=⟨pub,nm,s1,s2,rt,s3,(a:Int)⟩:=⟨_,rfl⟩;rw [<- hrr] at hc;have hr:r=fuv rr:=yAi.inj hc;subst hr;have inv:nI (fuT pub nm lv ps ty bd a)->eC nm=true/\mJ 64 yJ lv/\mJ 64 (wE true) ps/\(ty=ty0D\/dG 64 ty)/\(∀ x∈bd,bG 64 x)/\qG 64 bd<=2000:=fun hm=>by
  obtain ⟨pub',nm',lv',ps',ty',bd',a',e,h1⟩:=hm;simp only [fuT,D.t.injEq,List.cons.injEq,D.i.injEq,D.b.injEq,D.s.injEq,D.l.injEq,and_true] at e
  grind
 unfold f49;have o:=wA h (fuc rr);have c:=tA h (.row (fuc rr) .own);have e1:h.push (.row (yRD (fuv rr)) .own)=h.push (.row (fuc rr) .own):=rfl;dsimp only;rw [e1];have y1:=y1.chg c (by simp);have y2:=y2.chg c (by simp);have yt:=Dt.chg c (by simp) yt;have y3:=y3.chg c (by simp);generalize h.push (.row (fuc rr) .own)=H at *;have rd:∀ {H':Heap},Chg [] H H'->H'.cell (h.next,1)=some (.str nm)/\H'.cell (h.next,2)=some (yL s1)/\H'.cell (h.next,3)=some (yL s2)/\H'.cells (h.next,4) 4=some (.agg (tyc rt))/\H'.cell (h.next,8)=some (yL s3):=fun c'=>by
  have o':=o.chg c' (by simp);rw [hrr] at o';exact ⟨o'.cell 1,o'.cell 2,o'.cell 3,o'.cells (j:=4) (m:=4) (show 4+4<=10 by decide),o'.cell 8⟩
 obtain ⟨a1,a2,_,_,_⟩:=rd (Chg.refl _ _);simp only [Nat.zero_add,a1,bA,kA];obtain ⟨H1,e1,c1⟩:=pG (N:=N) (by omega) nm H;rw [e1,aA]
 cases hn:eC nm with
 | false=>exact ⟨_,H1,rfl,c.trans c1,(fun h=>by cases h),fun h=>by
  grind⟩
 | true=>
 obtain ⟨_,a2,a3,_,_⟩:=rd c1;simp only [Bool.not_true,cond_false,a2,a3,bA,jA];have z:ltInt 64 (Int.ofNat s1.len)=decide (64<lv.length):=by rw [y1.len];exact rB 64 _
 rw [z]
 by_cases q:64<lv.length
 ·simp only [q,decide_true,cond_true]
  exact ⟨_,H1,rfl,c.trans c1,(fun h=>by cases h),fun h=>absurd (inv h).2.1.1 (by omega)⟩
 simp only [q,decide_false,cond_false];obtain ⟨b2,H2,e2,c2,hb2⟩:=cAo (N:=N) (by omega) (mu:=true) t4 (by omega) (by omega) (y2.chg c1 (by simp));have e2':f48 N s2 true H1=some (b2,H2):=e2;rw [e2',aA];have c02:=c1.trans c2
 cases b2 with
 | false=>exact ⟨_,H2,rfl,c.trans c02,(fun h=>by cases h),fun h=>by grind⟩
 | true=>
 simp only [Bool.not_true,cond_false];obtain ⟨o3,b3,H3,e3,c3,hh⟩:=pAd (N:=N) (by omega) (P:=h.next) (rr:=rr) (lv:=lv) (by omega) t3 (by omega) N 0 H2 (Nat.zero_le _) (by omega) (o.chg c02 (by simp)) (by rw [hrr];exact y1.chg c02 (by simp)) fun j _ h=>by omega
 rw [show ((0:Nat):Int)=0 from rfl] at e3;rw [e3,kB];have c03:=c02.trans c3;rcases hh with ⟨rfl,hlv⟩ | ⟨rfl,rfl,hno⟩
 rotate_left
 ·simp only [oF,cond_false]
  exact ⟨_,H3,rfl,c.trans c03,(fun h=>by cases h),fun h=>absurd (inv h).2.1.2 hno⟩
 obtain ⟨_,_,_,a4,a8⟩:=rd c03;simp only [bC,decide_true,cond_true,fA,Nat.zero_add];rw [a4,vJ];obtain ⟨H4,e4,c4⟩:=lB5 (N:=N) (by omega) (M:=N) (by omega) rt H3;have e4':f25 N N rt (0,[],⟨none,0,0,0⟩,⟨none,0,0,0⟩,()) H3=some (zTy rt,H4):=e4;rw [e4',aA];have c04:=c03.trans c4;have body:∀ (G:Heap),Chg [] H G->∃ b h',(dA (.val zL2) (G.cell (h.next,8)) fun (x38:SL)=>(mA (f88 N N x38 1 G) fun (x39:Bool) h40=>(bif x39 then (dA (.val zL2) (h40.cell (h.next,8)) fun (x42:SL)=>(mA (f35 N N x42 h40) fun (x43:Int) h44=>some (wB x43 2000,h44))) else some (false,h40))))=some (b,h')/\Chg [] h h'/\(b=true↔(∀ x∈bd,bG 64 x)/\qG 64 bd<=2000):=by
  intro G cG;simp only [(rd cG).2.2.2.2,bA,jA];obtain ⟨b5,H5,e5,c5,hb5⟩:=vAy (N:=N) (by omega) 64 N bd s3 G (Nat.le_refl _) (by omega) (by omega) (by omega) t5 (y3.chg cG (by simp));have e5':f88 N N s3 1 G=some (b5,H5):=e5;rw [e5',aA];have cG5:=cG.trans c5
  cases b5 with
  | false=>exact ⟨_,H5,rfl,c.trans cG5,(fun h=>by cases h),fun h=>by grind⟩
  | true=>
   simp only [cond_true,(rd cG5).2.2.2.2,bA,jA];obtain ⟨n,H6,e6,c6,hn6,_⟩:=pAo (N:=N) (wtL bd) N bd s3 H5 (Nat.le_refl _) (by omega) (by omega) (by omega) t5 (y3.chg cG5 (by simp));have e6':f35 N N s3 H5=some ((n:Int),H6):=e6;rw [e6',aA];refine ⟨_,H6,rfl,(c.trans cG5).trans c6,fun hz=>⟨(hb5.1 rfl).2,?_⟩,fun h=>?_⟩
   ·rw [leI,decide_eq_true_eq] at hz
    have:=hn6.1 64
    omega
   ·have:=hn6.2 64 h.1
    rw [leI,decide_eq_true_eq];omega
 have fin:(ty=ty0D\/dG 64 ty)->(∀ x∈bd,bG 64 x)/\qG 64 bd<=2000->nI (fuT pub nm lv ps ty bd a):=fun h1 h2=>⟨pub,nm,lv,ps,ty,bd,a,rfl,hn,⟨by omega,hlv⟩,hb2.1 rfl,h1,h2.1,h2.2⟩
 cases hz:zTy rt with
 | true=>
  simp only [cond_true]
  grind [jM]
 | false=>
  simp only [cond_false];rw [(rd c04).2.2.2.1,vJ];obtain ⟨b5,H5,e5,c5,hb5⟩:=cAd (N:=N) (by omega) (by omega) t2 (Dt.chg c04 (by simp) yt);have e5':f21 N N rt 1 H4=some (b5,H5):=e5;rw [e5',aA]
  cases b5 with
  | false=>exact ⟨_,H5,rfl,(c.trans c04).trans c5,(fun h=>by cases h),fun h=>by
   rcases (inv h).2.2.2.1 with rfl | h
   ·rw [tT yt] at hz;cases hz
   ·cases hb5.2 h⟩
  | true=>
   simp only [cond_true];obtain ⟨b,h',e,c',hb⟩:=body H5 (c04.trans c5)
   grind
end
end Qp
namespace Qp
theorem eA5 {d:D} (h:mayVa d):lAj d:=by
 cases h with
 | op h=>exact ⟨_,_,_,_,_,_,[],[],rfl,iC h,wD,eF,by simp,by simp,by simp⟩
 | ref hk h=>exact ⟨_,_,_,_,_,_,[],[],rfl,wD,wD,vG h,by simp,by simp,by simp⟩
 | no h=>exact ⟨_,_,_,_,_,_,[],[],rfl,iC h,wD,eF,by simp,by simp,by simp⟩
 | bin ha hb hk=>exact ⟨_,_,_,_,_,_,[],[],rfl,iC ha,iC hb,eF,by simp,by simp,by simp⟩
 | @call nm ag hn h=>exact ⟨_,_,_,_,_,_,[],ag,rfl,wD,wD,eF,by simp,by have:=h.1;omega,fun o ho=>iC (h.2 o ho)⟩
 | @make nm ns ag hn hl hs h=>exact ⟨_,_,_,_,_,_,ns,ag,rfl,wD,wD,eF,by have:=h.1;omega,by have:=h.1;omega,fun o ho=>iC (h.2 o ho)⟩
theorem qAo {hs:Bool} {va:D} (h:nAr hs va):lAj va:=by
 rcases h with ⟨_,h⟩ | ⟨_,rfl⟩
 ·exact eA5 h
 ·exact kX
theorem mB6 {n:Nat} {k:Int} {m hs:Bool} {nm:Bs} {ty pl va co:D} {th el:List D} (h:SmN n k m nm ty hs pl va co th el):isTy 65 ty/\isLf pl/\lAj va/\isOp co:=by
 cases h with
 | let_ hn ht hv=>grind [jN,eF,qAo,wD]
 | @set nm xs va hn hx hv=>exact ⟨uR,vG ⟨nm,xs,rfl,hn,hx⟩,eA5 hv,wD⟩
 | call hn h=>exact ⟨uR,eF,eA5 (.call hn h),wD⟩
 | if_ h0 hc he=>grind [uR,eF,kX,iC]
 | while_ h0 hc=>grind [uR,eF,kX,iC]
 | loop h0=>exact ⟨uR,eF,kX,wD⟩
 | block h0=>exact ⟨uR,eF,kX,wD⟩
 | break_=>exact ⟨uR,eF,kX,wD⟩
 | cont=>exact ⟨uR,eF,kX,wD⟩
 | ret hv=>grind [uR,eF,qAo,wD]
 | drop hp=>grind [uR,vG,kX,wD]
theorem rAo {n:Nat} {l:List D} {x:D} (h:x∈l):qG n (thD x)+qG n (elD x)<=(l.map fun d=>qG n (thD d)+qG n (elD d)).sum:=by
 induction l with
 | nil=>cases h
 | cons y r ih=>
  grind
theorem qAd {n:Nat} {l:List D} (hm:∀ x∈l,bG n x):l.length<=qG n l:=by
 cases n with
 | zero=>
  cases l with
  | nil=>exact Nat.le_refl _
  | cons y r=>exact (hm y (by simp)).elim
 | succ n=>simp only [qG];omega
theorem lAz:∀ (n:Nat) (l:List D),(∀ x∈l,bG n x)->qG n l<=2000->∀ x∈l,vS (n+1) x
 | 0,l,hm,_,x,hx=>(hm x hx).elim
 | n+1,l,hm,hc,x,hx=>by
  have hcm:=rAo (n:=n) hx;simp only [qG] at hc;obtain ⟨k,a,m,nm,ty,hs,pl,va,co,th,el,rfl,h1,h2,h3⟩:=hm x hx;have e1:thD (smT k a m nm ty hs pl va co th el)=th:=rfl;have e2:elD (smT k a m nm ty hs pl va co th el)=el:=rfl;rw [e1,e2] at hcm;have l1:=qAd h1;have l2:=qAd h2;obtain ⟨t1,t2,t3,t4⟩:=mB6 h3;exact ⟨k,a,m,nm,ty,hs,pl,va,co,th,el,rfl,t1,t2,t3,t4,by omega,by omega,lAz n th h1 (by omega),lAz n el h2 (by omega)⟩
theorem cAh {d:D} (h:mH d):isSt d:=by
 obtain ⟨pub,nm,lv,fs,a,rfl,hn,hl,hf⟩:=h
 have:=hl.1
 have:=hf.1
 exact ⟨pub,nm,lv,fs,a,rfl,by omega,by omega,fun f hf'=>uQ (hf.2 f hf')⟩
theorem fA5 {d:D} (h:nI d):isFu d:=by
 obtain ⟨pub,nm,lv,ps,ty,bd,a,rfl,hn,hl,hp,ht,hb,hc⟩:=h
 have:=hl.1
 have:=hp.1
 have:=qAd hb
 refine ⟨pub,nm,lv,ps,ty,bd,a,rfl,by omega,fun l hl'=>qA3 (hl.2 l hl'),by omega,fun p hp'=>uQ (hp.2 p hp'),?_,by omega,lAz 64 bd hb hc⟩;rcases ht with rfl | ht
 ·exact uR
 ·exact jN ht
section
variable {N:Nat} {h:Heap} {V:Nat->Prop}
theorem gA5 (hN:3001<=N) {P:Nat} {s1 s2:SL} {xs:List D} (ht:∀ x∈xs,rSt x) (hw:wtL xs<=2000000) (hwN:wtL xs<N):∀ (M i:Nat) (h:Heap),i<=xs.length->xs.length-i<M->h.own P [SL.av s1,SL.av s2]->Sl h V s1 xs->(∀ j,(hj:j<xs.length)->j<i->mH xs[j])->
  ∃ o b h',rA8 N M (some (P,0)) false (i:Int) h=some (o,(some (P,0),b,()),h')/\Chg [] h h'/\((o=.exit 0/\b=false/\∀ x∈xs,mH x)\/(o=.ret/\b=false/\¬ ∀ x∈xs,mH x)):=by
 intro M
 induction M with
 | zero=>intro i h _ h;omega
 | succ M ih=>
  intro i h hi hM o x hp;rw [yAc];unfold lA4;have rd:∀ {G:Heap},G.own P [SL.av s1,SL.av s2]->G.cell (P,0)=some (yL s1):=fun o=>o.cell 0;have hv:s1.len=xs.length:=x.len;have hll:=nC xs;simp only [fA,Nat.zero_add,Nat.add_zero,rd o,bA,jA,fF,hv]
  by_cases q:i<xs.length
  ·simp only [q,decide_true,cond_true]
   have hm:=List.getElem_mem q;have hix:∀ {β:Type} (K:Nat×Nat->Option β),ixK s1.a xs.length (i:Int) 5 K=K (s1.at i 5):=fun K=>by rw [<- hv];exact x.ix q 5 K
   obtain ⟨r,g,d⟩:=vAi.elt x q (ht _ hm);rw [hix,g,pAw];obtain ⟨h5,p5,c5,o5⟩:=vAi.park (z:=stc st0) rfl h r;have p5':∀ {β:Type} (K:Heap->Option β),bB ((h.push (.row [(.bool false),(.str []),(.slice none 0 0 0),(.slice none 0 0 0),(.int .i64 0)] .own)).store (h.next,0) [(.bool r.1),(.str r.2.1),(yL r.2.2.1),(yL r.2.2.2.1),(.int .i64 r.2.2.2.2.1)]) K=K h5:=p5;rw [p5'];have nxt:∀ (G:Heap),Chg [] h G->mH xs[i]->∃ o b h',rA8 N M (some (P,0)) false (jB .i64 ((i:Int)+1)) G=some (o,(some (P,0),b,()),h')/\Chg [] h h'/\((o=.exit 0/\b=false/\∀ x∈xs,mH x)\/(o=.ret/\b=false/\¬ ∀ x∈xs,mH x)):=by
    intro G cG hmy;rw [aB (by omega)];obtain ⟨o',b,h',e,c',hh⟩:=ih (i+1) G q (by omega) (o.chg cG (by simp)) (x.chg cG (by simp)) fun j hj hji=>by
     grind
    exact ⟨o',b,h',e,cG.trans c',hh⟩
   have hr:=ht _ hm;have hwd:=lI hm;have all:(∀ x∈xs,mH x)->mH xs[i]:=fun ha=>ha _ hm;generalize xs[i]=y at *;obtain ⟨pub,nm,lv,fs,a,rfl,hfd⟩:=hr;have hwf:wtL fs<=wtD (dAb pub nm lv fs a)/\wtL (lv.map D.s)<=wtD (dAb pub nm lv fs a):=by simp only [dAb,wtD,wtL];omega
   have hlv:=nC (lv.map D.s);rw [List.length_map] at hlv;obtain ⟨u1,u2,hc,y1,y2⟩:=fX d;obtain rfl:=vAi.inj (r':=(pub,nm,u1,u2,a,())) hc;have inv:(∀ x∈xs,mH x)->eC nm=true/\lAr 64 lv/\mJ 64 (wE false) fs:=fun ha=>by
    obtain ⟨pub',nm',lv',fs',a',e,h1⟩:=all ha;simp only [dAb,D.t.injEq,List.cons.injEq,D.i.injEq,D.b.injEq,D.s.injEq,D.l.injEq,and_true] at e;obtain ⟨rfl,rfl,h2,rfl,rfl⟩:=e;obtain rfl:=gAs h2;exact h1
   have y1:=y1.chg c5 (by simp);have y2:=y2.chg c5 (by simp);have a1:h5.cell (h.next,1)=some (.str nm):=o5.cell 1;simp only [a1,bA,kA];obtain ⟨h6,e6,c6⟩:=pG (N:=N) (by omega) nm h5;rw [e6,aA];have c06:=c5.trans c6
   cases hn:eC nm with
   | false=>
    simp only [Bool.not_false,cond_true]
    grind
   | true=>
    have o6:=o5.chg c6 (by simp);have a2:h6.cell (h.next,2)=some (yL u1):=o6.cell 2;have a3:h6.cell (h.next,3)=some (yL u2):=o6.cell 3;simp only [Bool.not_true,cond_false,a2,bA,jA];obtain ⟨b,e,hb⟩:=yAn (N:=N) (y1.chg c6 (by simp)) (by omega) (by omega);have e':f47 N u1 h6=some (b,h6):=e;rw [e',aA]
    cases b with
    | false=>
     simp only [Bool.not_false,cond_true]
     grind
    | true=>
     simp only [Bool.not_true,cond_false,a3,bA,jA];obtain ⟨b2,h7,e7,c7,hb2⟩:=cAo (N:=N) (by omega) (mu:=false) hfd (by omega) (by omega) (y2.chg c6 (by simp));have e7':f48 N u2 false h6=some (b2,h7):=e7;rw [e7',aA];have c07:=c06.trans c7
     cases b2 with
     | false=>
      simp only [Bool.not_false,cond_true]
      grind
     | true=>
      simp only [Bool.not_true,cond_false];exact nxt h7 c07 ⟨pub,nm,lv,fs,a,rfl,hn,hb.1 rfl,hb2.1 rfl⟩
  ·simp only [q,decide_false,cond_false]
   refine ⟨_,_,h,rfl,Chg.refl _ _,.inl ⟨rfl,rfl,fun y hy=>?_⟩⟩;obtain ⟨j,hj,rfl⟩:=List.getElem_of_mem hy
   grind
theorem rAd (hN:3001<=N) {P:Nat} {s1 s2:SL} {ys:List D} (ht:∀ x∈ys,rFu x) (hw:wtL ys<=2000000) (hwN:wtL ys<N):∀ (M i:Nat) (h:Heap),i<=ys.length->ys.length-i<M->h.own P [SL.av s1,SL.av s2]->Sl h V s2 ys->(∀ j,(hj:j<ys.length)->j<i->nI ys[j])->
  ∃ o b h',jAg N M (some (P,0)) false (i:Int) h=some (o,(b,()),h')/\Chg [] h h'/\((o=.exit 2/\∀ x∈ys,nI x)\/(o=.ret/\b=false/\¬ ∀ x∈ys,nI x)):=by
 intro M
 induction M with
 | zero=>intro i h _ h;omega
 | succ M ih=>
  intro i h hi hM o x hp;rw [wAc];unfold kA4;have rd:∀ {G:Heap},G.own P [SL.av s1,SL.av s2]->G.cell (P,1)=some (yL s2):=fun o=>o.cell 1;have hv:s2.len=ys.length:=x.len;have hll:=nC ys;simp only [fA,Nat.zero_add,rd o,bA,jA,fF,hv]
  by_cases q:i<ys.length
  ·simp only [q,decide_true,cond_true]
   have hm:=List.getElem_mem q;have hix:∀ {β:Type} (K:Nat×Nat->Option β),ixK s2.a ys.length (i:Int) 10 K=K (s2.at i 10):=fun K=>by rw [<- hv];exact x.ix q 10 K
   obtain ⟨r,g,d⟩:=yAi.elt x q (ht _ hm);have hwd:=lI hm;rw [hix,g,qAw];obtain ⟨b,h6,e6,c6,hb⟩:=kAz (N:=N) hN (ht _ hm) (by omega) (by omega) d;have e6':f49 N (tF r) h=some (b,h6):=e6;rw [e6',aA]
   cases b with
   | false=>
    simp only [Bool.not_false,cond_true]
    grind
   | true=>
    simp only [Bool.not_true,cond_false];rw [aB (by omega)];obtain ⟨o',b,h',e,c',hh⟩:=ih (i+1) h6 q (by omega) (o.chg c6 (by simp)) (x.chg c6 (by simp)) fun j hj hji=>by
     grind
    exact ⟨o',b,h',e,c6.trans c',hh⟩
  ·simp only [q,decide_false,cond_false]
   refine ⟨_,_,h,rfl,Chg.refl _ _,.inl ⟨rfl,fun y hy=>?_⟩⟩;obtain ⟨j,hj,rfl⟩:=List.getElem_of_mem hy
   grind
theorem mAz (hN:3001<=N) {xs ys:List D} (hx:∀ x∈xs,rSt x) (hy:∀ y∈ys,rFu y) (hw:wtL xs+wtL ys<=2000000) (hwN:wtL xs+wtL ys<N) {s1 s2:SL} (y1:Sl h V s1 xs) (y2:Sl h V s2 ys):∃ b h',f19 N (s1,s2,()) h=some (b,h')/\Chg [] h h'/\(b=true↔xs.length+ys.length<=256/\(∀ x∈xs,mH x)/\∀ y∈ys,nI y):=by
 unfold f19;have o:=wA h [SL.av s1,SL.av s2];have c:=tA h (.row [SL.av s1,SL.av s2] .own);have e1:h.push (.row [(yL s1),(yL s2)] .own)=h.push (.row [SL.av s1,SL.av s2] .own):=rfl;dsimp only;rw [e1];have y1:=y1.chg c (by simp);have y2:=y2.chg c (by simp);generalize h.push (.row [SL.av s1,SL.av s2] .own)=H at *;have a0:H.cell (h.next,0)=some (yL s1):=o.cell 0;have a1:H.cell (h.next,1)=some (yL s2):=o.cell 1;have l1:s1.len=xs.length:=y1.len;have l2:s2.len=ys.length:=y2.len;have hl1:=nC xs;have hl2:=nC ys;simp only [Nat.zero_add,a0,a1,bA,jA];have z:ltInt 256 (Int.ofNat s1.len)=decide (256<xs.length):=by rw [l1];exact rB 256 _
 rw [z]
 by_cases q:256<xs.length
 ·simp only [q,decide_true,cond_true]
  grind
 simp only [q,decide_false,cond_false];have z2:ltInt (jB .i64 (256-Int.ofNat s1.len)) (Int.ofNat s2.len)=decide (256<xs.length+ys.length):=by
  grind [ltInt,jB,fD,ltI,decide_eq_true,decide_eq_false]
 rw [z2]
 by_cases q2:256<xs.length+ys.length
 ·simp only [q2,decide_true,cond_true]
  grind
 simp only [q2,decide_false,cond_false];obtain ⟨o3,b3,H3,e3,c3,hh⟩:=gA5 (N:=N) hN (P:=h.next) (s1:=s1) (s2:=s2) hx (by omega) (by omega) N 0 H (Nat.zero_le _) (by omega) o y1 fun j _ h=>by omega
 rw [show ((0:Nat):Int)=0 from rfl] at e3;rw [e3,kB];rcases hh with ⟨rfl,rfl,hxs⟩ | ⟨rfl,rfl,hno⟩
 ·simp only [bC,decide_true,cond_true]
  obtain ⟨o4,b4,H4,e4,c4,hh⟩:=rAd (N:=N) hN (P:=h.next) (s1:=s1) (s2:=s2) hy (by omega) (by omega) N 0 H3 (Nat.zero_le _) (by omega) (o.chg c3 (by simp)) (y2.chg c3 (by simp)) fun j _ h=>by omega
  rw [show ((0:Nat):Int)=0 from rfl] at e4;rw [e4,kB];rcases hh with ⟨rfl,hys⟩ | ⟨rfl,rfl,hno⟩
  ·simp only [bC,decide_true,cond_true]
   exact ⟨_,H4,rfl,(c.trans c3).trans c4,(fun _=>⟨by omega,hxs,hys⟩),fun _=>rfl⟩
  ·simp only [oF,cond_false]
   exact ⟨_,H4,rfl,(c.trans c3).trans c4,(fun h=>by cases h),fun h=>absurd h.2.2 hno⟩
 ·simp only [oF,cond_false]
  exact ⟨_,H3,rfl,c.trans c3,(fun h=>by cases h),fun h=>absurd h.2.1 hno⟩
end
end Qp
namespace Qp
section
variable {N:Nat} {h:Heap} {V:Nat->Prop}
theorem tAd (hN:3001<=N) {P:Nat} {s1 s2:SL} {ys:List D} (ht:∀ x∈ys,rFu x) (hw:wtL ys<=2000000) (hwN:wtL ys<N):∀ (M i:Nat) (h:Heap),i<=ys.length->ys.length-i<M->h.own P [SL.av s1,SL.av s2]->Sl h V s2 ys->
  ∃ o b h',bAg N M (some (P,0)) false (i:Int) h=some (o,(b,()),h')/\Chg [] h h':=by
 intro M
 induction M with
 | zero=>intro i h _ h;omega
 | succ M ih=>
  intro i h hi hM o x;rw [iAc];unfold wA3;have rd:∀ {G:Heap},Chg [] h G->G.cell (P,1)=some (yL s2):=fun c=>(o.chg c (by simp)).cell 1;have hv:s2.len=ys.length:=x.len;have hll:=nC ys;simp only [fA,Nat.zero_add,rd (Chg.refl _ _),bA,jA,fF,hv]
  by_cases q:i<ys.length
  ·simp only [q,decide_true,cond_true]
   have hm:=List.getElem_mem q;have hix:∀ {β:Type} (K:Nat×Nat->Option β),ixK s2.a ys.length (i:Int) 10 K=K (s2.at i 10):=fun K=>by rw [<- hv];exact x.ix q 10 K
   obtain ⟨pub,nm,lv,ps,ty,bd,a,hd,t1,t2,t3,t4,t5⟩:=ht _ hm;have hwd:=lI hm;have hwb:wtL bd<=wtD ys[i]:=by rw [hd];simp only [fuT,wtD,wtL];omega
   obtain ⟨cs,e⟩:=x.elt q;have hdt:=e.dt;rw [hd] at hdt;obtain ⟨u1,u2,u3,rt,hc,z1,z2,zt,z3⟩:=lAg t1 hdt;have hz:s2.sz=10:=by rw [<- e.len,hc];rfl
   have e8:=e.cell 8 (by rw [hz];decide);rw [hz,hc] at e8;have e8':∀ {G:Heap},Chg [] h G->G.cell ((s2.at i 10).1,(s2.at i 10).2+8)=some (yL u3):=@fun G c=>by
    have eq:G.t.get (s2.at i 10).1=h.t.get (s2.at i 10).1:=c.g _ (qH x q) (by simp)
    have:G.cell ((s2.at i 10).1,(s2.at i 10).2+8)=h.cell ((s2.at i 10).1,(s2.at i 10).2+8):=by simp only [Heap.cell,Heap.row,eq]
    rw [this];exact e8
   rw [hix,e8' (Chg.refl _ _)];simp only [bA,jA];obtain ⟨n1,h1,e1,c1⟩:=fAz (N:=N) (wtL bd) N bd u3 70 h (Nat.le_refl _) (by omega) (by omega) (by omega) t5 z3;have e1':f34 N N u3 70 h=some (n1,h1):=e1;rw [e1',aA]
   cases ltInt 68 n1 with
   | true=>
    grind
   | false=>
    simp only [cond_false,rd c1,bA,jA,hv];rw [hix,e8' c1];simp only [bA,jA]
    cases ltInt 2100 (Int.ofNat u3.len) with
    | true=>
     grind
    | false=>
     simp only [cond_false];rw [hix,e8' c1];simp only [bA,jA];obtain ⟨n2,h2,e2,c2,_⟩:=pAo (N:=N) (wtL bd) N bd u3 h1 (Nat.le_refl _) (by omega) (by omega) (by omega) t5 (z3.chg c1 (by simp));have e2':f35 N N u3 h1=some ((n2:Int),h2):=e2;rw [e2',aA];have c02:=c1.trans c2
     cases ltInt 2100 (n2:Int) with
     | true=>
      grind
     | false=>
      simp only [cond_false];rw [aB (by omega)];obtain ⟨o',b,h',e',c'⟩:=ih (i+1) h2 q (by omega) (o.chg c02 (by simp)) (x.chg c02 (by simp));exact ⟨o',b,h',e',c02.trans c'⟩
  ·simp only [q,decide_false,cond_false]
   exact ⟨_,_,h,rfl,Chg.refl _ _⟩
theorem nAz (hN:3001<=N) {xs ys:List D} (hy:∀ y∈ys,rFu y) (hw:wtL xs+wtL ys<=2000000) (hwN:wtL xs+wtL ys<N) {s1 s2:SL} (y1:Sl h V s1 xs) (y2:Sl h V s2 ys):∃ b h',f14 N (s1,s2,()) h=some (b,h')/\Chg [] h h':=by
 unfold f14;have o:=wA h [SL.av s1,SL.av s2];have c:=tA h (.row [SL.av s1,SL.av s2] .own);have e1:h.push (.row [(yL s1),(yL s2)] .own)=h.push (.row [SL.av s1,SL.av s2] .own):=rfl;dsimp only;rw [e1];have y1:=y1.chg c (by simp);have y2:=y2.chg c (by simp);generalize h.push (.row [SL.av s1,SL.av s2] .own)=H at *;have a0:H.cell (h.next,0)=some (yL s1):=o.cell 0;have a1:H.cell (h.next,1)=some (yL s2):=o.cell 1;have hl2:=nC ys;simp only [Nat.zero_add,a0,a1,bA,jA]
 cases ltInt 300 (Int.ofNat s1.len) with
 | true=>
  grind
 | false=>
  simp only [cond_false]
  cases ltInt 300 (Int.ofNat s2.len) with
  | true=>
   grind
  | false=>
   simp only [cond_false];obtain ⟨o3,b3,H3,e3,c3⟩:=tAd (N:=N) hN (P:=h.next) (s1:=s1) (s2:=s2) hy (by omega) (by omega) N 0 H (Nat.zero_le _) (by omega) o y2;rw [show ((0:Nat):Int)=0 from rfl] at e3;rw [e3,kB]
   cases jD o3 (.exit 0) with
   | true=>exact ⟨_,H3,rfl,c.trans c3⟩
   | false=>exact ⟨_,H3,rfl,c.trans c3⟩
end
end Qp
namespace Qp
section
variable {N:Nat} {h:Heap} {V:Nat->Prop}
theorem dA9 {A n:Nat} {cs:List AV} {xs:List D} (o:h.own A cs) (d:De h V n xs cs) (hV:V A) (hl:cs.length=xs.length * n):Sl h V ⟨some (A,0),xs.length,xs.length,n⟩ xs:=
 ⟨rfl,Nat.le_refl _,fun B hB=>by
  have:some A=some B:=hB
  grind,cs,⟨hl,fun ha=>(by cases ha),fun B off ha=>by
  simp only [Option.some.injEq,Prod.mk.injEq] at ha;obtain ⟨rfl,rfl⟩:=ha;exact ⟨o.2,cs,by rw [o.1];rfl,by grind⟩⟩,d⟩
def fnE:D:=fuT false [102] [] [] ty0D [] 0
theorem tAo:nI fnE:=⟨false,[102],[],[],ty0D,[],0,rfl,by decide,⟨by simp,by simp⟩,⟨by simp,by simp⟩,.inl rfl,by simp,by decide⟩
theorem oAz:crX [] [fnE]=[102,110,32,102,40,41,32,123,10,125,10]:=by
 unfold crX fuX fnE hdX bdX uT
 decide
def rfE:PT:=.ref true [[97]] .int
theorem pAz:tyX 64 rfE.D=[38,39,97,32,109,117,116,32,105,110,116]:=by decide
theorem yAu (hN:3001<=N) (pk:PK h):∃ h',f15 N h=some (true,h')/\Chg [] h h':=by
 unfold f15;have o1:=wA h (fuc (nAp false [102] 0));have c1:=tA h (.row (fuc (nAp false [102] 0)) .own);have e1:h.push (.row [(.bool false),(.str [102]),(.slice none 0 0 0),(.slice none 0 0 0),(.int .i64 0),(.str []),(.slice none 0 0 0),(.slice none 0 0 0),(.slice none 0 0 0),(.int .i64 0)] .own)=h.push (.row (fuc (nAp false [102] 0)) .own):=rfl;dsimp only;rw [e1];have pk1:=pk.chg c1;generalize h.push (.row (fuc (nAp false [102] 0)) .own)=H1 at *;have ty0:Dt H1 (fun _=>True) ty0D (tyc yW):=qF.2 ⟨_,_,rfl,Sl.nil _ _ _,Sl.nil _ _ _⟩;have df:Dt H1 (fun _=>True) fnE (fuc (nAp false [102] 0)):=yB2 (Sl.nil _ _ _) (Sl.nil _ _ _) ty0 (Sl.nil _ _ _);have dE:De H1 (fun _=>True) 10 [fnE] (fuc (nAp false [102] 0)):=by
  have:=df
  simp only [De];exact ⟨_,[],(List.append_nil _).symm,rfl,df,rfl⟩
 have y2:Sl H1 (fun _=>True) ⟨some (h.next,0),1,1,10⟩ [fnE]:=dA9 o1 dE trivial rfl;obtain ⟨r,H3,e3,c3,pr⟩:=wAu (N:=N) hN (xs:=[]) (ys:=[fnE]) (by simp) (fun y hy=>by grind [List.mem_singleton,tAo]) (by simp) (fun y hy=>by grind [List.mem_singleton,fA5,tAo]) (by simp) pk1 (Sl.nil _ _ 0) y2;rw [e3,aA];rw [oAz] at pr;have hr:r=([102,110,32,102,40,41,32,123,10,125,10],AV.nilIface,()):=by
  rcases pr with ⟨_,pr⟩ | ⟨hl,_⟩
  ·exact pr
  ·exact absurd hl (by decide)
 subst hr;dsimp only;rw [eq_nil];simp only [bA,uB,cond_true];rw [show fB [102,110,32,102,40,41,32,123,10,125,10] [102,110,32,102,40,41,32,123,10,125,10]=true from rfl];simp only [cond_true];have o6:=wA H3 [.str [97]];have c6:=tA H3 (.row [.str [97]] .own);generalize H3.push (.row [(.str [97])] .own)=H6 at *;have o7:=wA H6 (tyc (1,[],zs,zs,()));have c7:=tA H6 (.row (tyc (1,[],zs,zs,())) .own);have e7:H6.push (.row [(.int .i64 1),(.str []),(.slice none 0 0 0),(.slice none 0 0 0)] .own)=H6.push (.row (tyc (1,[],zs,zs,())) .own):=rfl;rw [e7];have o67:=o6.chg c7 (by simp);generalize H6.push (.row (tyc (1,[],zs,zs,())) .own)=H7 at *;have dI:Dt H7 (fun _=>True) PT.int.D (tyc (1,[],zs,zs,())):=qF.2 ⟨_,_,rfl,Sl.nil _ _ _,Sl.nil _ _ _⟩;have s1:Sl H7 (fun _=>True) ⟨some (H3.next,0),1,1,1⟩ (([[97]]:List Bs).map D.s):=dA9 (xs:=([[97]]:List Bs).map D.s) o67 (by
  show De H7 (fun _=>True) 1 [D.s [97]] [.str [97]];simp only [De,Dt]
  grind) trivial rfl
 have dE2:De H7 (fun _=>True) 4 [PT.int.D] (tyc (1,[],zs,zs,())):=by
  simp only [De];exact ⟨_,[],(List.append_nil _).symm,rfl,dI,rfl⟩
 have s2:Sl H7 (fun _=>True) ⟨some (H6.next,0),1,1,4⟩ [PT.int.D]:=dA9 o7 dE2 trivial rfl;have dR:Dt H7 (fun _=>True) rfE.D (tyc (5,[],⟨some (H3.next,0),1,1,1⟩,⟨some (H6.next,0),1,1,4⟩,())):=qF.2 ⟨_,_,rfl,s1,s2⟩;have hm:dG 64 rfE.D:=⟨rfE,rfl,by simp [PT.ok,rfE];decide⟩;obtain ⟨H9,e9,c9⟩:=uA4 hm (by omega:100<=N) dR;rw [pAz] at e9;rw [e9,aA];rw [show fB [38,39,97,32,109,117,116,32,105,110,116] [38,39,97,32,109,117,116,32,105,110,116]=true from rfl];simp only [cond_true];have oB:=wA H9 [.str [98]];have cB:=tA H9 (.row [.str [98]] .own);generalize H9.push (.row [(.str [98])] .own)=HB at *;have oC:=wA HB [.str [97],.slice (some (H9.next,0)) 1 1 1,.str [98],.slice none 0 0 0];have cC:=tA HB (.row [.str [97],.slice (some (H9.next,0)) 1 1 1,.str [98],.slice none 0 0 0] .own);have oBC:=oB.chg cC (by simp);generalize HB.push (.row [(.str [97]),(.slice (some (H9.next,0)) 1 1 1),(.str [98]),(.slice none 0 0 0)] .own)=HC at *;have t1:Sl HC (fun _=>True) ⟨some (H9.next,0),1,1,1⟩ (([[98]]:List Bs).map D.s):=dA9 (xs:=([[98]]:List Bs).map D.s) oBC (by
  show De HC (fun _=>True) 1 [D.s [98]] [.str [98]];simp only [De,Dt]
  grind) trivial rfl
 have d1:Dt HC (fun _=>True) (gD [97] (([[98]]:List Bs).map D.s)) (lfc ([97],⟨some (H9.next,0),1,1,1⟩,())):=eAb t1;have d2:Dt HC (fun _=>True) (gD [98] (([]:List Bs).map D.s)) (lfc ([98],zs,())):=eAb (Sl.nil _ _ _);have t2:Sl HC (fun _=>True) ⟨some (HB.next,0),2,2,2⟩ [gD [97] (([[98]]:List Bs).map D.s),gD [98] (([]:List Bs).map D.s)]:=dA9 (xs:=[gD [97] (([[98]]:List Bs).map D.s),gD [98] (([]:List Bs).map D.s)]) oC (by
  simp only [De];exact ⟨lfc ([97],⟨some (H9.next,0),1,1,1⟩,()),lfc ([98],zs,()),rfl,rfl,d1,_,[],rfl,rfl,d2,rfl⟩) trivial rfl
 have hlf:mJ 64 yJ [gD [97] (([[98]]:List Bs).map D.s),gD [98] (([]:List Bs).map D.s)]:=⟨by simp,fun x hx=>by
  simp only [List.mem_cons,List.not_mem_nil,or_false] at hx;rcases hx with rfl | rfl
  ·exact ⟨[97],[[98]],rfl,by decide,by simp,by simp;decide⟩
  ·exact ⟨[98],[],rfl,by decide,by simp,by simp⟩⟩
 have ty0':Dt HC (fun _=>True) ty0D (tyc yW):=qF.2 ⟨_,_,rfl,Sl.nil _ _ _,Sl.nil _ _ _⟩;obtain ⟨HE,eE,cE⟩:=vAu (N:=N) (by omega) (⟨true,[102],⟨some (HB.next,0),2,2,2⟩,zs,yW,zs,0⟩:FuR) (lv:=[gD [97] (([[98]]:List Bs).map D.s),gD [98] (([]:List Bs).map D.s)]) (ps:=[]) (ty:=ty0D) (show eC [102]=true by decide) hlf ⟨by simp,by simp⟩ (.inl rfl) t2 (Sl.nil _ _ _) ty0';have hx:uT true [102] [gD [97] (([[98]]:List Bs).map D.s),gD [98] (([]:List Bs).map D.s)] [] ty0D=[112,117,98,32,102,110,32,102,60,39,97,58,32,39,98,44,32,39,98,62,40,41]:=by decide
 have eE':f20 N (true,[102],⟨(some (HB.next,0)),2,2,2⟩,⟨none,0,0,0⟩,0,[],⟨none,0,0,0⟩,⟨none,0,0,0⟩,⟨none,0,0,0⟩,0,()) HC=some ([112,117,98,32,102,110,32,102,60,39,97,58,32,39,98,44,32,39,98,62,40,41],HE):=by rw [<- hx];exact eE
 rw [eE',aA];refine ⟨HE,?_,?_⟩
 ·rfl
 ·exact ((((((c1.trans c3).trans c6).trans c7).trans c9).trans cB).trans cC).trans cE
end
end Qp
namespace Qp
section
variable {N:Nat} {h:Heap} {V:Nat->Prop}
end
end Qp
set_option maxRecDepth 100000
namespace Qp
noncomputable def iA5 (N:Nat) (go:SL->zQ2->Int->Heap->Option (Out×zH1×Heap)) (v0:SL) (v3:zQ2) (v4:Int) (h:Heap):Option (Out×zH1×Heap):=let x1:=ltInt v4 (Int.ofNat v0.len);(bif x1 then(mA (α:=zX1) ((mA (α:=zX1) ( let x2:=ltInt 0 v4;(bif x2 then(dA (.val zM2) (rA .add v3 [44,32]) fun (x3:zQ2)=>some ((v0,x3,v4,()),h))else some ((v0,v3,v4,()),h))) fun (j4:zX1) h5=>(mA (α:=zX1) ((ixK j4.1.a j4.1.len j4.2.2.1 6 fun q6=>(dA (.val zN2) (h5.cell (q6.1,q6.2+0)) fun (x7:Bool)=>(bif x7 then(dA (.val zM2) (rA .add j4.2.1 [109,117,116,32]) fun (x8:zQ2)=>some ((j4.1,x8,j4.2.2.1,()),h5))else some (j4,h5))))) fun (j9:zX1) h10=>(ixK j9.1.a j9.1.len j9.2.2.1 6 fun q11=>(dA (.val zM2) (h10.cell (q11.1,q11.2+1)) fun (x12:zQ2)=>(dA (.val zM2) (rA .add j9.2.1 x12) fun (x13:zQ2)=>(dA (.val zM2) (rA .add x13 [58,32]) fun (x14:zQ2)=>(ixK j9.1.a j9.1.len j9.2.2.1 6 fun q15=>(dA (.val zE) (h10.cells (q15.1,q15.2+2) 4) fun (x16:zR)=>(mA (f24 N N x16 h10) fun (x17:zQ2) h18=>(dA (.val zM2) (rA .add x14 x17) fun (x19:zQ2)=>(rC (bif (mB (h10.cells (q15.1,q15.2+2) 4) (.agg (yRE x16))) then (bif (mB (h18.cell (q11.1,q11.2+1)) (.str x12)) then (bif (mB (h10.cell (q11.1,q11.2+1)) (.str x12)) then true else false) else false) else false) ( some ((j9.1,x19,j9.2.2.1,()),h18)))))))))))))) fun (j20:zX1) h21=>let x22:=jB .i64 (j20.2.2.1+1);go j20.1 j20.2.1 x22 h21)else some ((Out.exit 0),(v3,()),h))
noncomputable def dAh (N M:Nat) (v0:SL) (v3:zQ2) (v4:Int) (h:Heap):Option (Out×zH1×Heap):=iter (fun go s h=>iA5 N (fun v0 v3 v4 h=>go (v0,v3,v4,()) h) s.1 s.2.1 s.2.2.1 h) M (v0,v3,v4,()) h
theorem uAd (N M v0 v3 v4 h):dAh N (M+1) v0 v3 v4 h=iA5 N (dAh N M) v0 v3 v4 h:=rfl
noncomputable def f84 (N:Nat) (a0:SL) (h:Heap):Option (zQ2×Heap):=(pC (dAh N N a0 [] 0 h) fun _ (j24:zH1) h25=>some (j24.1,h25))
noncomputable def yBb:Ann:=(.two .n (.two .n (.two (.two .n (.two (.loop [(0,zL2),(3,zM2),(4,zO2)] [(.exit 0)] [(3,zM2)] (.two .n (.two (.join [(0,zL2),(3,zM2),(4,zO2)] (.two (.two (.join [(0,zL2),(3,zM2),(4,zO2)] .n) (.two (.join [(0,zL2),(3,zM2),(4,zO2)] .n) .n)) .n)) .n))) .n)) .n)))
theorem aAv (N:Nat):jC Tryz.prog 84 [zL2] (.val zM2) (fun x h=>f84 N x.1 h):=cD (iA (yAl N) nA) N yBb Tryz.f84
noncomputable def f85 (N:Nat) (a0:Bool) (h:Heap):Option (zQ2×Heap):=(bif a0 then some ([112,117,98,32],h)else some ([],h))
noncomputable def aBc:Ann:=.n
theorem bAv (N:Nat):jC Tryz.prog 85 [zN2] (.val zM2) (fun x h=>f85 N x.1 h):=cD nA N aBc Tryz.f85
noncomputable def jA5 (N:Nat) (go:zJ2->zQ2->Int->Int->Heap->Option (Out×zL1×Heap)) (v1:zJ2) (v3:zQ2) (v4 v5:Int) (h:Heap):Option (Out×zL1×Heap):=(bB v1 fun q15=>(dA (.val zL2) (h.cell (q15.1,q15.2+2)) fun (x16:SL)=>(ixK x16.a x16.len v4 2 fun q17=>(dA (.val zL2) (h.cell (q17.1,q17.2+1)) fun (x18:SL)=>let x19:=ltInt v5 (Int.ofNat x18.len);(bif x19 then(mA (α:=zU1) ((mA (α:=zU1) ( let x20:=eA v5 0;(bif x20 then(dA (.val zM2) (rA .add v3 [58,32]) fun (x21:zQ2)=>some ((v1,x21,v4,v5,()),h))else(dA (.val zM2) (rA .add v3 [32,43,32]) fun (x22:zQ2)=>some ((v1,x22,v4,v5,()),h)))) fun (j23:zU1) h24=>(dA (.val zM2) (rA .add j23.2.1 [39]) fun (x25:zQ2)=>(bB j23.1 fun q26=>(dA (.val zL2) (h24.cell (q26.1,q26.2+2)) fun (x27:SL)=>(ixK x27.a x27.len j23.2.2.1 2 fun q28=>(dA (.val zL2) (h24.cell (q28.1,q28.2+1)) fun (x29:SL)=>(ixK x29.a x29.len j23.2.2.2.1 1 fun q30=>(dA (.val zM2) (h24.cell q30) fun (x31:zQ2)=>(dA (.val zM2) (rA .add x25 x31) fun (x32:zQ2)=>some ((j23.1,x32,j23.2.2.1,j23.2.2.2.1,()),h24))))))))))) fun (j33:zU1) h34=>let x35:=jB .i64 (j33.2.2.2.1+1);go j33.1 j33.2.1 j33.2.2.1 x35 h34)else some ((Out.exit 2),(v1,v3,v4,()),h))))))
noncomputable def eAh (N M:Nat) (v1:zJ2) (v3:zQ2) (v4 v5:Int) (h:Heap):Option (Out×zL1×Heap):=iter (fun go s h=>jA5 N (fun v1 v3 v4 v5 h=>go (v1,v3,v4,v5,()) h) s.1 s.2.1 s.2.2.1 s.2.2.2.1 h) M (v1,v3,v4,v5,()) h
theorem vAd (N M v1 v3 v4 v5 h):eAh N (M+1) v1 v3 v4 v5 h=jA5 N (eAh N M) v1 v3 v4 v5 h:=rfl
noncomputable def kA5 (N:Nat) (go:zJ2->zQ2->Int->Heap->Option (Out×zA1×Heap)) (v1:zJ2) (v3:zQ2) (v4:Int) (h:Heap):Option (Out×zA1×Heap):=(bB v1 fun q2=>(dA (.val zL2) (h.cell (q2.1,q2.2+2)) fun (x3:SL)=>let x4:=ltInt v4 (Int.ofNat x3.len);(bif x4 then(mA (α:=zL1) ((mA (α:=zL1) ( let x5:=ltInt 0 v4;(bif x5 then(dA (.val zM2) (rA .add v3 [44,32]) fun (x6:zQ2)=>some ((v1,x6,v4,()),h))else some ((v1,v3,v4,()),h))) fun (j7:zL1) h8=>(dA (.val zM2) (rA .add j7.2.1 [39]) fun (x9:zQ2)=>(bB j7.1 fun q10=>(dA (.val zL2) (h8.cell (q10.1,q10.2+2)) fun (x11:SL)=>(ixK x11.a x11.len j7.2.2.1 2 fun q12=>(dA (.val zM2) (h8.cell (q12.1,q12.2+0)) fun (x13:zQ2)=>(dA (.val zM2) (rA .add x9 x13) fun (x14:zQ2)=>(pC (eAh N N j7.1 x14 j7.2.2.1 0 h8) fun _ (j37:zL1) h38=>some (j37,h38)))))))))) fun (j39:zL1) h40=>let x41:=jB .i64 (j39.2.2.1+1);go j39.1 j39.2.1 x41 h40)else some ((Out.exit 0),(v1,v3,()),h))))
noncomputable def fAh (N M:Nat) (v1:zJ2) (v3:zQ2) (v4:Int) (h:Heap):Option (Out×zA1×Heap):=iter (fun go s h=>kA5 N (fun v1 v3 v4 h=>go (v1,v3,v4,()) h) s.1 s.2.1 s.2.2.1 h) M (v1,v3,v4,()) h
theorem wAd (N M v1 v3 v4 h):fAh N (M+1) v1 v3 v4 h=kA5 N (fAh N M) v1 v3 v4 h:=rfl
noncomputable def f86 (N:Nat) (a0:zE1) (h:Heap):Option (zQ2×Heap):=let h1:=h.push (.row (yRD a0) .own);(pC (fAh N N (some (h.next,0)) [] 0 h1) fun _ (j43:zA1) h44=>(mA (α:=zA1) ( let x45:=!fB j43.2.1 [];(bif x45 then(dA (.val zM2) (rA .add [60] j43.2.1) fun (x46:zQ2)=>(dA (.val zM2) (rA .add x46 [62]) fun (x47:zQ2)=>some ((j43.1,x47,()),h44)))else some (j43,h44))) fun (j48:zA1) h49=>(bB j48.1 fun q50=>(dA (.val zN2) (h49.cell (q50.1,q50.2+0)) fun (x51:Bool)=>(mA (f85 N x51 h49) fun (x52:zQ2) h53=>(dA (.val zM2) (rA .add x52 [102,110,32]) fun (x54:zQ2)=>(bB j48.1 fun q55=>(dA (.val zM2) (h53.cell (q55.1,q55.2+1)) fun (x56:zQ2)=>(dA (.val zM2) (rA .add x54 x56) fun (x57:zQ2)=>(dA (.val zM2) (rA .add x57 j48.2.1) fun (x58:zQ2)=>(dA (.val zM2) (rA .add x58 [40]) fun (x59:zQ2)=>(bB j48.1 fun q60=>(dA (.val zL2) (h53.cell (q60.1,q60.2+3)) fun (x61:SL)=>(mA (f84 N x61 h53) fun (x62:zQ2) h63=>(dA (.val zM2) (rA .add x59 x62) fun (x64:zQ2)=>(dA (.val zM2) (rA .add x64 [41]) fun (x65:zQ2)=>(rC (bif (mB (h53.cell (q60.1,q60.2+3)) (yL x61)) then (bif (mB (h49.cell (q60.1,q60.2+3)) (yL x61)) then (bif (mB (h63.cell (q55.1,q55.2+1)) (.str x56)) then (bif (mB (h53.cell (q55.1,q55.2+1)) (.str x56)) then (bif (mB (h49.cell (q55.1,q55.2+1)) (.str x56)) then (bif (mB (h49.cell (q50.1,q50.2+0)) (.bool x51)) then true else false) else false) else false) else false) else false) else false) (
 (mA (α:=zH1) ((bB j48.1 fun q66=>(dA (.val zO2) (h63.cell ((q66.1,q66.2+4).1,(q66.1,q66.2+4).2+0)) fun (x67:Int)=>let x68:=!eA x67 0;(bif x68 then(dA (.val zM2) (rA .add x65 [32,45,62,32]) fun (x69:zQ2)=>(bB j48.1 fun q70=>(dA (.val zE) (h63.cells (q70.1,q70.2+4) 4) fun (x71:zR)=>(mA (f24 N N x71 h63) fun (x72:zQ2) h73=>(dA (.val zM2) (rA .add x69 x72) fun (x74:zQ2)=>some ((x74,()),h73))))))else some ((x65,()),h63))))) fun (j75:zH1) h76=>some (j75.1,h76))))))))))))))))))))
noncomputable def bBc:Ann:=(.two .n (.two .n (.two (.two .n (.two (.loop [(1,zK2),(3,zM2),(4,zO2)] [(.exit 0)] [(1,zK2),(3,zM2)] (.two .n (.two (.join [(1,zK2),(3,zM2),(4,zO2)] (.two (.two (.join [(1,zK2),(3,zM2),(4,zO2)] .n) (.two .n (.two .n (.two (.loop [(1,zK2),(3,zM2),(4,zO2),(5,zO2)] [(.exit 2)] [(1,zK2),(3,zM2),(4,zO2)] (.two .n (.two (.join [(1,zK2),(3,zM2),(4,zO2),(5,zO2)] (.two (.two (.join [(1,zK2),(3,zM2),(4,zO2),(5,zO2)] .n) .n) .n)) .n))) .n)))) .n)) .n))) .n)) (.two (.join [(1,zK2),(3,zM2)] .n) (.two .n (.two (.join [(3,zM2)] .n) .n))))))
theorem nB6 (N:Nat):jC Tryz.prog 86 [zH] (.val zM2) (fun x h=>f86 N x.1 h):=cD (iA (bAv N) (iA (aAv N) (iA (yAl N) nA))) N bBc Tryz.f86
noncomputable def aZ (N:Nat) (go:Int->zQ2->Int->Heap->Option (Out×zH1×Heap)) (v0:Int) (v3:zQ2) (v4:Int) (h:Heap):Option (Out×zH1×Heap):=let x1:=ltInt v4 v0;(bif x1 then(dA (.val zM2) (rA .add v3 [9]) fun (x2:zQ2)=>let x3:=jB .i64 (v4+1);go v0 x2 x3 h)else some ((Out.exit 0),(v3,()),h))
noncomputable def lA5 (N M:Nat) (v0:Int) (v3:zQ2) (v4:Int) (h:Heap):Option (Out×zH1×Heap):=iter (fun go s h=>aZ N (fun v0 v3 v4 h=>go (v0,v3,v4,()) h) s.1 s.2.1 s.2.2.1 h) M (v0,v3,v4,()) h
theorem eA9 (N M v0 v3 v4 h):lA5 N (M+1) v0 v3 v4 h=aZ N (lA5 N M) v0 v3 v4 h:=rfl
noncomputable def f133 (N:Nat) (a0:Int) (h:Heap):Option (zQ2×Heap):=(pC (lA5 N N a0 [] 0 h) fun _ (j5:zH1) h6=>some (j5.1,h6))
noncomputable def oB6:Ann:=(.two .n (.two .n (.two (.two .n (.two (.loop [(0,zO2),(3,zM2),(4,zO2)] [(.exit 0)] [(3,zM2)] .n) .n)) .n)))
theorem qAz (N:Nat):jC Tryz.prog 133 [zO2] (.val zM2) (fun x h=>f133 N x.1 h):=cD nA N oB6 Tryz.f133
noncomputable def bZ (N:Nat) (go:zJ2->zQ2->Int->Heap->Option (Out×zH1×Heap)) (v1:zJ2) (v3:zQ2) (v4:Int) (h:Heap):Option (Out×zH1×Heap):=(bB v1 fun q3=>(dA (.val zL2) (h.cell (q3.1,q3.2+1)) fun (x4:SL)=>let x5:=ltInt v4 (Int.ofNat x4.len);(bif x5 then(dA (.val zM2) (rA .add v3 [46]) fun (x6:zQ2)=>(bB v1 fun q7=>(dA (.val zL2) (h.cell (q7.1,q7.2+1)) fun (x8:SL)=>(ixK x8.a x8.len v4 1 fun q9=>(dA (.val zM2) (h.cell q9) fun (x10:zQ2)=>(dA (.val zM2) (rA .add x6 x10) fun (x11:zQ2)=>let x12:=jB .i64 (v4+1);go v1 x11 x12 h))))))else some ((Out.exit 0),(v3,()),h))))
noncomputable def mA5 (N M:Nat) (v1:zJ2) (v3:zQ2) (v4:Int) (h:Heap):Option (Out×zH1×Heap):=iter (fun go s h=>bZ N (fun v1 v3 v4 h=>go (v1,v3,v4,()) h) s.1 s.2.1 s.2.2.1 h) M (v1,v3,v4,()) h
theorem fA9 (N M v1 v3 v4 h):mA5 N (M+1) v1 v3 v4 h=bZ N (mA5 N M) v1 v3 v4 h:=rfl
noncomputable def f179 (N:Nat) (a0:zB1) (h:Heap):Option (zQ2×Heap):=let h1:=h.push (.row (yRF a0) .own);(dA (.val zM2) (h1.cell (h.next,0)) fun (x2:zQ2)=>(pC (mA5 N N (some (h.next,0)) x2 0 h1) fun _ (j14:zH1) h15=>some (j14.1,h15)))
noncomputable def pB6:Ann:=(.two .n (.two .n (.two (.two .n (.two (.loop [(1,zK2),(3,zM2),(4,zO2)] [(.exit 0)] [(3,zM2)] .n) .n)) .n)))
theorem yAd (N:Nat):jC Tryz.prog 179 [zG] (.val zM2) (fun x h=>f179 N x.1 h):=cD nA N pB6 Tryz.f179
noncomputable def f180 (N:Nat) (a0:zX) (h:Heap):Option (zQ2×Heap):=let h1:=h.push (.row (yRC a0) .own);(dA (.val zO2) (h1.cell (h.next,0)) fun (x2:Int)=>let x3:=eA x2 1;(bif x3 then(dA (.val zO2) (h1.cell (h.next,1)) fun (x4:Int)=>(mA (f204 N x4 h1) fun (x5:zQ2) h6=>some (x5,h6)))else let x7:=eA x2 2;(bif x7 then let h8:=h1.push (.row [(.str [102,97,108,115,101]),(.str [116,114,117,101])] .own);(dA (.val zO2) (h8.cell (h.next,1)) fun (x9:Int)=>(dA (.val zO2) (qA9 .and .i64 x9 1) fun (x10:Int)=>(ixK (some (h1.next,0)) 2 x10 1 fun q11=>(dA (.val zM2) (h8.cell q11) fun (x12:zQ2)=>some (x12,h8)))))else(dA (.val zG) (h1.cells (h.next,2) 2) fun (x13:zB1)=>(mA (f179 N x13 h1) fun (x14:zQ2) h15=>some (x14,h15))))))
noncomputable def qB6:Ann:=.n
theorem uAo (N:Nat):jC Tryz.prog 180 [zD] (.val zM2) (fun x h=>f180 N x.1 h):=cD (iA (f204_ok N) (iA (yAd N) nA)) N qB6 Tryz.f180
noncomputable def cZ (N:Nat) (go:zJ2->zQ2->Int->Heap->Option (Out×zA1×Heap)) (v1:zJ2) (v3:zQ2) (v5:Int) (h:Heap):Option (Out×zA1×Heap):=(bB v1 fun q68=>(dA (.val zL2) (h.cell (q68.1,q68.2+14)) fun (x69:SL)=>let x70:=ltInt v5 (Int.ofNat x69.len);(bif x70 then let x71:=ltInt 0 v5;(bif x71 then(dA (.val zM2) (rA .add v3 [44,32]) fun (x72:zQ2)=>(bB v1 fun q73=>(dA (.val zL2) (h.cell (q73.1,q73.2+13)) fun (x74:SL)=>(ixK x74.a x74.len v5 1 fun q75=>(dA (.val zM2) (h.cell q75) fun (x76:zQ2)=>(dA (.val zM2) (rA .add x72 x76) fun (x77:zQ2)=>(dA (.val zM2) (rA .add x77 [58,32]) fun (x78:zQ2)=>(bB v1 fun q79=>(dA (.val zL2) (h.cell (q79.1,q79.2+14)) fun (x80:SL)=>(ixK x80.a x80.len v5 4 fun q81=>(dA (.val zD) (h.cells q81 4) fun (x82:zX)=>(mA (f180 N x82 h) fun (x83:zQ2) h84=>(dA (.val zM2) (rA .add x78 x83) fun (x85:zQ2)=>(rC (bif (mB (h.cells q81 4) (.agg (yRC x82))) then (bif (mB (h.cell (q79.1,q79.2+14)) (yL x80)) then (bif (mB (h84.cell q75) (.str x76)) then (bif (mB (h.cell q75) (.str x76)) then (bif (mB (h84.cell (q73.1,q73.2+13)) (yL x74)) then (bif (mB (h.cell (q73.1,q73.2+13)) (yL x74)) then true else false) else false) else false) else false) else false) else false) ( let x86:=jB .i64 (v5+1);go v1 x85 x86 h84)))))))))))))))else(bB v1 fun q87=>(dA (.val zL2) (h.cell (q87.1,q87.2+13)) fun (x88:SL)=>
 (ixK x88.a x88.len v5 1 fun q89=>(dA (.val zM2) (h.cell q89) fun (x90:zQ2)=>(dA (.val zM2) (rA .add v3 x90) fun (x91:zQ2)=>(dA (.val zM2) (rA .add x91 [58,32]) fun (x92:zQ2)=>(bB v1 fun q93=>(dA (.val zL2) (h.cell (q93.1,q93.2+14)) fun (x94:SL)=>(ixK x94.a x94.len v5 4 fun q95=>(dA (.val zD) (h.cells q95 4) fun (x96:zX)=>(mA (f180 N x96 h) fun (x97:zQ2) h98=>(dA (.val zM2) (rA .add x92 x97) fun (x99:zQ2)=>(rC (bif (mB (h.cells q95 4) (.agg (yRC x96))) then (bif (mB (h.cell (q93.1,q93.2+14)) (yL x94)) then (bif (mB (h98.cell q89) (.str x90)) then (bif (mB (h.cell q89) (.str x90)) then (bif (mB (h98.cell (q87.1,q87.2+13)) (yL x88)) then (bif (mB (h.cell (q87.1,q87.2+13)) (yL x88)) then true else false) else false) else false) else false) else false) else false) ( let x100:=jB .i64 (v5+1);go v1 x99 x100 h98)))))))))))))))else some ((Out.exit 3),(v1,v3,()),h))))
noncomputable def nA5 (N M:Nat) (v1:zJ2) (v3:zQ2) (v5:Int) (h:Heap):Option (Out×zA1×Heap):=iter (fun go s h=>cZ N (fun v1 v3 v5 h=>go (v1,v3,v5,()) h) s.1 s.2.1 s.2.2.1 h) M (v1,v3,v5,()) h
theorem gA9 (N M v1 v3 v5 h):nA5 N (M+1) v1 v3 v5 h=cZ N (nA5 N M) v1 v3 v5 h:=rfl
noncomputable def dZ (N:Nat) (go:zJ2->zQ2->Int->Heap->Option (Out×zA1×Heap)) (v1:zJ2) (v3:zQ2) (v4:Int) (h:Heap):Option (Out×zA1×Heap):=(bB v1 fun q39=>(dA (.val zL2) (h.cell (q39.1,q39.2+14)) fun (x40:SL)=>let x41:=ltInt v4 (Int.ofNat x40.len);(bif x41 then let x42:=ltInt 0 v4;(bif x42 then(dA (.val zM2) (rA .add v3 [44,32]) fun (x43:zQ2)=>(bB v1 fun q44=>(dA (.val zL2) (h.cell (q44.1,q44.2+14)) fun (x45:SL)=>(ixK x45.a x45.len v4 4 fun q46=>(dA (.val zD) (h.cells q46 4) fun (x47:zX)=>(mA (f180 N x47 h) fun (x48:zQ2) h49=>(dA (.val zM2) (rA .add x43 x48) fun (x50:zQ2)=>let x51:=jB .i64 (v4+1);go v1 x50 x51 h49)))))))else(bB v1 fun q52=>(dA (.val zL2) (h.cell (q52.1,q52.2+14)) fun (x53:SL)=>(ixK x53.a x53.len v4 4 fun q54=>(dA (.val zD) (h.cells q54 4) fun (x55:zX)=>(mA (f180 N x55 h) fun (x56:zQ2) h57=>(dA (.val zM2) (rA .add v3 x56) fun (x58:zQ2)=>let x59:=jB .i64 (v4+1);go v1 x58 x59 h57)))))))else some ((Out.exit 1),(v1,v3,()),h))))
noncomputable def oA5 (N M:Nat) (v1:zJ2) (v3:zQ2) (v4:Int) (h:Heap):Option (Out×zA1×Heap):=iter (fun go s h=>dZ N (fun v1 v3 v4 h=>go (v1,v3,v4,()) h) s.1 s.2.1 s.2.2.1 h) M (v1,v3,v4,()) h
theorem iA9 (N M v1 v3 v4 h):oA5 N (M+1) v1 v3 v4 h=dZ N (oA5 N M) v1 v3 v4 h:=rfl
noncomputable def f178 (N:Nat) (a0:zQ) (h:Heap):Option (zQ2×Heap):=let h1:=h.push (.row (yRB a0) .own);(dA (.val zO2) (h1.cell (h.next,0)) fun (x2:Int)=>let x3:=eA x2 1;(bif x3 then(dA (.val zD) (h1.cells (h.next,1) 4) fun (x4:zX)=>(mA (f180 N x4 h1) fun (x5:zQ2) h6=>some (x5,h6)))else let x7:=eA x2 2;(bif x7 then(dA (.val zG) (h1.cells (h.next,10) 2) fun (x8:zB1)=>(mA (f179 N x8 h1) fun (x9:zQ2) h10=>(dA (.val zM2) (rA .add [38] x9) fun (x11:zQ2)=>some (x11,h10))))else let x12:=eA x2 3;(bif x12 then(dA (.val zG) (h1.cells (h.next,10) 2) fun (x13:zB1)=>(mA (f179 N x13 h1) fun (x14:zQ2) h15=>(dA (.val zM2) (rA .add [38,109,117,116,32] x14) fun (x16:zQ2)=>some (x16,h15))))else let x17:=eA x2 4;(bif x17 then(dA (.val zD) (h1.cells (h.next,1) 4) fun (x18:zX)=>(mA (f180 N x18 h1) fun (x19:zQ2) h20=>(dA (.val zM2) (rA .add [33] x19) fun (x21:zQ2)=>some (x21,h20))))else let x22:=eA x2 5;(bif x22 then let h23:=h1.push (.row [(.str []),(.str [43]),(.str [45]),(.str [60]),(.str [61,61])] .own);(dA (.val zD) (h23.cells (h.next,1) 4) fun (x24:zX)=>(mA (f180 N x24 h23) fun (x25:zQ2) h26=>(dA (.val zM2) (rA .add x25 [32]) fun (x27:zQ2)=>(dA (.val zO2) (h26.cell (h.next,9)) fun (x28:Int)=>
 (dA (.val zO2) (aA6 .rem .i64 x28 5) fun (x29:Int)=>(ixK (some (h1.next,0)) 5 x29 1 fun q30=>(dA (.val zM2) (h26.cell q30) fun (x31:zQ2)=>(dA (.val zM2) (rA .add x27 x31) fun (x32:zQ2)=>(dA (.val zM2) (rA .add x32 [32]) fun (x33:zQ2)=>(dA (.val zD) (h26.cells (h.next,5) 4) fun (x34:zX)=>(mA (f180 N x34 h26) fun (x35:zQ2) h36=>(dA (.val zM2) (rA .add x33 x35) fun (x37:zQ2)=>(rC (bif (mB (h36.cells (h.next,5) 4) (.agg (yRC x34))) then (bif (mB (h26.cells (h.next,5) 4) (.agg (yRC x34))) then (bif (mB (h23.cells (h.next,5) 4) (.agg (yRC x34))) then (bif (mB (h36.cell q30) (.str x31)) then (bif (mB (h26.cell q30) (.str x31)) then (bif (mB (h23.cell q30) (.str x31)) then (bif (mB (h36.cell (h.next,9)) (.int .i64 x28)) then (bif (mB (h26.cell (h.next,9)) (.int .i64 x28)) then (bif (mB (h23.cell (h.next,9)) (.int .i64 x28)) then (bif (mB (h36.cells (h.next,1) 4) (.agg (yRC x24))) then (bif (mB (h26.cells (h.next,1) 4) (.agg (yRC x24))) then (bif (mB (h23.cells (h.next,1) 4) (.agg (yRC x24))) then true else false) else false) else false) else false) else false) else false) else false) else false) else false) else false) else false) else false) ((rC (((gO (h36.t.get h1.next) (h26.t.get h1.next))&&true)&&(((gO (h26.t.get h1.next) (h23.t.get h1.next))&&true)&&true)) (
 some (x37,h36)))))))))))))))))else let x38:=eA x2 6;(bif x38 then(pC (oA5 N N (some (h.next,0)) [] 0 h1) fun _ (j61:zA1) h62=>(bB j61.1 fun q63=>(dA (.val zM2) (h62.cell (q63.1,q63.2+12)) fun (x64:zQ2)=>(dA (.val zM2) (rA .add x64 [40]) fun (x65:zQ2)=>(dA (.val zM2) (rA .add x65 j61.2.1) fun (x66:zQ2)=>(dA (.val zM2) (rA .add x66 [41]) fun (x67:zQ2)=>some (x67,h62)))))))else(pC (nA5 N N (some (h.next,0)) [] 0 h1) fun _ (j102:zA1) h103=>let x104:=fB j102.2.1 [];(bif x104 then(bB j102.1 fun q105=>(dA (.val zM2) (h103.cell (q105.1,q105.2+12)) fun (x106:zQ2)=>(dA (.val zM2) (rA .add x106 [32,123,32,125]) fun (x107:zQ2)=>some (x107,h103))))else(bB j102.1 fun q108=>(dA (.val zM2) (h103.cell (q108.1,q108.2+12)) fun (x109:zQ2)=>(dA (.val zM2) (rA .add x109 [32,123,32]) fun (x110:zQ2)=>(dA (.val zM2) (rA .add x110 j102.2.1) fun (x111:zQ2)=>(dA (.val zM2) (rA .add x111 [32,125]) fun (x112:zQ2)=>some (x112,h103)))))))))))))))
noncomputable def rB6:Ann:=(.two .n (.two .n (.two (.two .n (.two (.two .n (.two .n (.two .n (.two .n (.two .n (.two .n (.two .n (.two .n (.two .n (.two .n (.two .n (.two (.two (.two .n (.two (.loop [(1,zK2),(3,zM2),(4,zO2)] [(.exit 1)] [(1,zK2),(3,zM2)] .n) .n)) .n) .n)))))))))))) .n)) (.two (.two .n (.two (.loop [(1,zK2),(3,zM2),(5,zO2)] [(.exit 3)] [(1,zK2),(3,zM2)] .n) .n)) .n))))
theorem rAz (N:Nat):jC Tryz.prog 178 [zC] (.val zM2) (fun x h=>f178 N x.1 h):=cD (iA (uAo N) (iA (yAd N) nA)) N rB6 Tryz.f178
noncomputable def gAh (N:Nat) (rec134:zP->Int->Heap->Option (zQ2×Heap)) (rec87:SL->Int->Heap->Option (zQ2×Heap)) (a0:zP) (a1:Int) (h:Heap):Option (zQ2×Heap):=let h1:=h.push (.row (yRA a0) .own);(dA (.val zO2) (h1.cell (h.next,0)) fun (x2:Int)=>let x3:=eA x2 1;(bif x3 then(dA (.val zN2) (h1.cell (h.next,2)) fun (x4:Bool)=>(bif x4 then(dA (.val zM2) (rA .add [108,101,116,32] [109,117,116,32]) fun (x5:zQ2)=>(dA (.val zM2) (h1.cell (h.next,3)) fun (x6:zQ2)=>(dA (.val zM2) (rA .add x5 x6) fun (x7:zQ2)=>(dA (.val zM2) (rA .add x7 [58,32]) fun (x8:zQ2)=>(dA (.val zE) (h1.cells (h.next,4) 4) fun (x9:zR)=>(mA (f24 N N x9 h1) fun (x10:zQ2) h11=>(dA (.val zM2) (rA .add x8 x10) fun (x12:zQ2)=>(rC (bif (mB (h1.cells (h.next,4) 4) (.agg (yRE x9))) then (bif (mB (h11.cell (h.next,3)) (.str x6)) then (bif (mB (h1.cell (h.next,3)) (.str x6)) then true else false) else false) else false) ((dA (.val zN2) (h11.cell (h.next,8)) fun (x13:Bool)=>(bif x13 then(dA (.val zM2) (rA .add x12 [32,61,32]) fun (x14:zQ2)=>(dA (.val zC) (h11.cells (h.next,11) 15) fun (x15:zQ)=>(mA (f178 N x15 h11) fun (x16:zQ2) h17=>
 (dA (.val zM2) (rA .add x14 x16) fun (x18:zQ2)=>(dA (.val zM2) (rA .add x18 [59]) fun (x19:zQ2)=>some (x19,h17))))))else(dA (.val zM2) (rA .add x12 [59]) fun (x20:zQ2)=>some (x20,h11)))))))))))))else(dA (.val zM2) (h1.cell (h.next,3)) fun (x21:zQ2)=>(dA (.val zM2) (rA .add [108,101,116,32] x21) fun (x22:zQ2)=>(dA (.val zM2) (rA .add x22 [58,32]) fun (x23:zQ2)=>(dA (.val zE) (h1.cells (h.next,4) 4) fun (x24:zR)=>(mA (f24 N N x24 h1) fun (x25:zQ2) h26=>(dA (.val zM2) (rA .add x23 x25) fun (x27:zQ2)=>(rC (bif (mB (h1.cells (h.next,4) 4) (.agg (yRE x24))) then (bif (mB (h26.cell (h.next,3)) (.str x21)) then (bif (mB (h1.cell (h.next,3)) (.str x21)) then true else false) else false) else false) ((dA (.val zN2) (h26.cell (h.next,8)) fun (x28:Bool)=>(bif x28 then(dA (.val zM2) (rA .add x27 [32,61,32]) fun (x29:zQ2)=>(dA (.val zC) (h26.cells (h.next,11) 15) fun (x30:zQ)=>(mA (f178 N x30 h26) fun (x31:zQ2) h32=>(dA (.val zM2) (rA .add x29 x31) fun (x33:zQ2)=>
 (dA (.val zM2) (rA .add x33 [59]) fun (x34:zQ2)=>some (x34,h32))))))else(dA (.val zM2) (rA .add x27 [59]) fun (x35:zQ2)=>some (x35,h26))))))))))))))else let x36:=eA x2 2;(bif x36 then(dA (.val zG) (h1.cells (h.next,9) 2) fun (x37:zB1)=>(mA (f179 N x37 h1) fun (x38:zQ2) h39=>(dA (.val zM2) (rA .add x38 [32,61,32]) fun (x40:zQ2)=>(dA (.val zC) (h39.cells (h.next,11) 15) fun (x41:zQ)=>(mA (f178 N x41 h39) fun (x42:zQ2) h43=>(dA (.val zM2) (rA .add x40 x42) fun (x44:zQ2)=>(dA (.val zM2) (rA .add x44 [59]) fun (x45:zQ2)=>(rC (bif (mB (h39.cells (h.next,11) 15) (.agg (yRB x41))) then (bif (mB (h1.cells (h.next,11) 15) (.agg (yRB x41))) then (bif (mB (h1.cells (h.next,9) 2) (.agg (yRF x37))) then true else false) else false) else false) ( some (x45,h43))))))))))else let x46:=eA x2 3;(bif x46 then(dA (.val zC) (h1.cells (h.next,11) 15) fun (x47:zQ)=>(mA (f178 N x47 h1) fun (x48:zQ2) h49=>
 (dA (.val zM2) (rA .add x48 [59]) fun (x50:zQ2)=>some (x50,h49))))else let x51:=eA x2 4;(bif x51 then(dA (.val zD) (h1.cells (h.next,26) 4) fun (x52:zX)=>(mA (f180 N x52 h1) fun (x53:zQ2) h54=>(dA (.val zM2) (rA .add [105,102,32] x53) fun (x55:zQ2)=>(dA (.val zM2) (rA .add x55 [32]) fun (x56:zQ2)=>(dA (.val zL2) (h54.cell (h.next,30)) fun (x57:SL)=>(mA (rec87 x57 a1 h54) fun (x58:zQ2) h59=>(dA (.val zM2) (rA .add x56 x58) fun (x60:zQ2)=>(rC (bif (mB (h54.cell (h.next,30)) (yL x57)) then (bif (mB (h1.cell (h.next,30)) (yL x57)) then (bif (mB (h1.cells (h.next,26) 4) (.agg (yRC x52))) then true else false) else false) else false) ((dA (.val zN2) (h59.cell (h.next,8)) fun (x61:Bool)=>(bif x61 then(dA (.val zM2) (rA .add x60 [32,101,108,115,101,32]) fun (x62:zQ2)=>(dA (.val zL2) (h59.cell (h.next,31)) fun (x63:SL)=>(mA (rec87 x63 a1 h59) fun (x64:zQ2) h65=>(dA (.val zM2) (rA .add x62 x64) fun (x66:zQ2)=>some (x66,h65)))))else some (x60,h59))))))))))))else let x67:=eA x2 5;(bif x67 then(dA (.val zD) (h1.cells (h.next,26) 4) fun (x68:zX)=>(mA (f180 N x68 h1) fun (x69:zQ2) h70=>(dA (.val zM2) (rA .add [119,104,105,108,101,32] x69) fun (x71:zQ2)=>
 (dA (.val zM2) (rA .add x71 [32]) fun (x72:zQ2)=>(dA (.val zL2) (h70.cell (h.next,30)) fun (x73:SL)=>(mA (rec87 x73 a1 h70) fun (x74:zQ2) h75=>(dA (.val zM2) (rA .add x72 x74) fun (x76:zQ2)=>(rC (bif (mB (h70.cell (h.next,30)) (yL x73)) then (bif (mB (h1.cell (h.next,30)) (yL x73)) then (bif (mB (h1.cells (h.next,26) 4) (.agg (yRC x68))) then true else false) else false) else false) ( some (x76,h75))))))))))else let x77:=eA x2 6;(bif x77 then(dA (.val zL2) (h1.cell (h.next,30)) fun (x78:SL)=>(mA (rec87 x78 a1 h1) fun (x79:zQ2) h80=>(dA (.val zM2) (rA .add [108,111,111,112,32] x79) fun (x81:zQ2)=>some (x81,h80))))else let x82:=eA x2 7;(bif x82 then(dA (.val zL2) (h1.cell (h.next,30)) fun (x83:SL)=>(mA (rec87 x83 a1 h1) fun (x84:zQ2) h85=>some (x84,h85)))else let x86:=eA x2 8;(bif x86 then some ([98,114,101,97,107,59],h1)else let x87:=eA x2 9;(bif x87 then some ([99,111,110,116,105,110,117,101,59],h1)else let x88:=eA x2 10;(bif x88 then(dA (.val zN2) (h1.cell (h.next,8)) fun (x89:Bool)=>(bif x89 then(dA (.val zC) (h1.cells (h.next,11) 15) fun (x90:zQ)=>(mA (f178 N x90 h1) fun (x91:zQ2) h92=>
 (dA (.val zM2) (rA .add [114,101,116,117,114,110,32] x91) fun (x93:zQ2)=>(dA (.val zM2) (rA .add x93 [59]) fun (x94:zQ2)=>some (x94,h92)))))else some ([114,101,116,117,114,110,59],h1)))else(dA (.val zG) (h1.cells (h.next,9) 2) fun (x95:zB1)=>(mA (f179 N x95 h1) fun (x96:zQ2) h97=>(dA (.val zM2) (rA .add [100,114,111,112,32] x96) fun (x98:zQ2)=>(dA (.val zM2) (rA .add x98 [59]) fun (x99:zQ2)=>some (x99,h97))))))))))))))))
noncomputable def tB6:Ann:=.n
noncomputable def pA5 (N:Nat) (rec134:zP->Int->Heap->Option (zQ2×Heap)) (rec87:SL->Int->Heap->Option (zQ2×Heap)) (go:SL->Int->zQ2->Int->Heap->Option (Out×zH2×Heap)) (v0:SL) (v1:Int) (v5:zQ2) (v6:Int) (h:Heap):Option (Out×zH2×Heap):=let x1:=ltInt v6 (Int.ofNat v0.len);(bif x1 then let x2:=jB .i64 (v1+1);(mA (f133 N x2 h) fun (x3:zQ2) h4=>(dA (.val zM2) (rA .add v5 x3) fun (x5:zQ2)=>(ixK v0.a v0.len v6 32 fun q6=>(dA (.val zA) (h4.cells q6 32) fun (x7:zP)=>let x8:=jB .i64 (v1+1);(mA (rec134 x7 x8 h4) fun (x9:zQ2) h10=>
 (dA (.val zM2) (rA .add x5 x9) fun (x11:zQ2)=>(dA (.val zM2) (rA .add x11 [10]) fun (x12:zQ2)=>(rC (bif (mB (h4.cells q6 32) (.agg (yRA x7))) then (bif (mB (h.cells q6 32) (.agg (yRA x7))) then true else false) else false) ( let x13:=jB .i64 (v6+1);go v0 v1 x12 x13 h10)))))))))else some ((Out.exit 0),(v1,v5,()),h))
noncomputable def jA9 (N:Nat) (rec134:zP->Int->Heap->Option (zQ2×Heap)) (rec87:SL->Int->Heap->Option (zQ2×Heap)) (M:Nat) (v0:SL) (v1:Int) (v5:zQ2) (v6:Int) (h:Heap):Option (Out×zH2×Heap):=iter (fun go s h=>pA5 N rec134 rec87 (fun v0 v1 v5 v6 h=>go (v0,v1,v5,v6,()) h) s.1 s.2.1 s.2.2.1 s.2.2.2.1 h) M (v0,v1,v5,v6,()) h
theorem aAe (N rec134 rec87 M v0 v1 v5 v6 h):jA9 N rec134 rec87 (M+1) v0 v1 v5 v6 h=pA5 N rec134 rec87 (jA9 N rec134 rec87 M) v0 v1 v5 v6 h:=rfl
noncomputable def yAs (N:Nat) (rec134:zP->Int->Heap->Option (zQ2×Heap)) (rec87:SL->Int->Heap->Option (zQ2×Heap)) (a0:SL) (a1:Int) (h:Heap):Option (zQ2×Heap):=(pC (jA9 N rec134 rec87 N a0 a1 [123,10] 0 h) fun _ (j15:zH2) h16=>(mA (f133 N j15.1 h16) fun (x17:zQ2) h18=>(dA (.val zM2) (rA .add j15.2.1 x17) fun (x19:zQ2)=>(dA (.val zM2) (rA .add x19 [125]) fun (x20:zQ2)=>some (x20,h18)))))
noncomputable def cBc:Ann:=(.two .n (.two .n (.two (.two .n (.two (.loop [(0,zL2),(1,zO2),(5,zM2),(6,zO2)] [(.exit 0)] [(1,zO2),(5,zM2)] .n) .n)) .n)))
noncomputable def vAo (N M:Nat):((zP->Int->Heap->Option (zQ2×Heap))×(SL->Int->Heap->Option (zQ2×Heap))×Unit):=Nat.rec (fun _ _ _=>none,fun _ _ _=>none,()) (fun _ r=>(gAh N r.1 r.2.1,yAs N r.1 r.2.1,())) M
noncomputable def f134 (N M:Nat):zP->Int->Heap->Option (zQ2×Heap):=(vAo N M).1
noncomputable def f87 (N M:Nat):SL->Int->Heap->Option (zQ2×Heap):=(vAo N M).2.1
theorem wAo (N M a0 a1 h):f134 N (M+1) a0 a1 h=gAh N (f134 N M) (f87 N M) a0 a1 h:=rfl
theorem iAh (N M a0 a1 h):f87 N (M+1) a0 a1 h=yAs N (f134 N M) (f87 N M) a0 a1 h:=rfl
theorem wO (N:Nat):∀ M:Nat,(jC Tryz.prog 134 [zA,zO2] (.val zM2) (fun x h=>f134 N M x.1 x.2.1 h))/\(jC Tryz.prog 87 [zL2,zO2] (.val zM2) (fun x h=>f87 N M x.1 x.2.1 h))/\True
 | 0=>⟨(fun xs h r h' hx=>by cases hx),(fun xs h r h' hx=>by cases hx),trivial⟩
 | M+1=>⟨cD (iA (wO N M).2.1 (iA (yAl N) (iA (uAo N) (iA (yAd N) (iA (rAz N) nA))))) N tB6 Tryz.f134,cD (iA (wO N M).1 (iA (qAz N) nA)) N cBc Tryz.f87,trivial⟩
theorem uB6 (N:Nat):jC Tryz.prog 87 [zL2,zO2] (.val zM2) (fun x h=>f87 N N x.1 x.2.1 h):=(wO N N).2.1
noncomputable def qA5 (N:Nat) (go:zJ2->zQ2->Int->Heap->Option (Out×zH1×Heap)) (v1:zJ2) (v3:zQ2) (v7:Int) (h:Heap):Option (Out×zH1×Heap):=(bB v1 fun q49=>(dA (.val zL2) (h.cell (q49.1,q49.2+1)) fun (x50:SL)=>let x51:=ltInt v7 (Int.ofNat x50.len);(bif x51 then(bB v1 fun q52=>(dA (.val zL2) (h.cell (q52.1,q52.2+1)) fun (x53:SL)=>(ixK x53.a x53.len v7 10 fun q54=>(dA (.val zH) (h.cells q54 10) fun (x55:zE1)=>(mA (f86 N x55 h) fun (x56:zQ2) h57=>(dA (.val zM2) (rA .add v3 x56) fun (x58:zQ2)=>(dA (.val zM2) (rA .add x58 [32]) fun (x59:zQ2)=>(bB v1 fun q60=>(dA (.val zL2) (h57.cell (q60.1,q60.2+1)) fun (x61:SL)=>(ixK x61.a x61.len v7 10 fun q62=>(dA (.val zL2) (h57.cell (q62.1,q62.2+8)) fun (x63:SL)=>(mA (f87 N N x63 0 h57) fun (x64:zQ2) h65=>(dA (.val zM2) (rA .add x59 x64) fun (x66:zQ2)=>(dA (.val zM2) (rA .add x66 [10]) fun (x67:zQ2)=>(rC (bif (mB (h57.cell (q62.1,q62.2+8)) (yL x63)) then (bif (mB (h.cell (q62.1,q62.2+8)) (yL x63)) then (bif (mB (h57.cell (q60.1,q60.2+1)) (yL x61)) then (bif (mB (h.cell (q60.1,q60.2+1)) (yL x61)) then (bif (mB (h.cells q54 10) (.agg (yRD x55))) then (bif (mB (h.cell (q52.1,q52.2+1)) (yL x53)) then true else false) else false) else false) else false) else false) else false) (
 let x68:=jB .i64 (v7+1);go v1 x67 x68 h65))))))))))))))))else some ((Out.exit 2),(v3,()),h))))
noncomputable def jAh (N M:Nat) (v1:zJ2) (v3:zQ2) (v7:Int) (h:Heap):Option (Out×zH1×Heap):=iter (fun go s h=>qA5 N (fun v1 v3 v7 h=>go (v1,v3,v7,()) h) s.1 s.2.1 s.2.2.1 h) M (v1,v3,v7,()) h
theorem bAe (N M v1 v3 v7 h):jAh N (M+1) v1 v3 v7 h=qA5 N (jAh N M) v1 v3 v7 h:=rfl
noncomputable def rA5 (N:Nat) (go:zJ2->zQ2->Int->Heap->Option (Out×zA1×Heap)) (v1:zJ2) (v3:zQ2) (v4:Int) (h:Heap):Option (Out×zA1×Heap):=(bB v1 fun q2=>(dA (.val zL2) (h.cell (q2.1,q2.2+0)) fun (x3:SL)=>let x4:=ltInt v4 (Int.ofNat x3.len);(bif x4 then(bB v1 fun q5=>(dA (.val zL2) (h.cell (q5.1,q5.2+0)) fun (x6:SL)=>(ixK x6.a x6.len v4 5 fun q7=>(dA (.val zK) (h.cells q7 5) fun (x8:zT1)=>let h9:=h.push (.row yZE .own);(bB (h9.store (h.next,0) (yRG x8)) fun h10=>(dA (.val zL2) (h10.cell (h.next,3)) fun (x11:SL)=>(mA (f84 N x11 h10) fun (x12:zQ2) h13=>let x14:=!fB x12 [];(bif x14 then(dA (.val zM2) (rA .add x12 [32]) fun (x15:zQ2)=>(dA (.val zN2) (h13.cell (h.next,0)) fun (x16:Bool)=>(mA (f85 N x16 h13) fun (x17:zQ2) h18=>(dA (.val zM2) (rA .add v3 x17) fun (x19:zQ2)=>(dA (.val zM2) (rA .add x19 [115,116,114,117,99,116,32]) fun (x20:zQ2)=>(dA (.val zM2) (h18.cell (h.next,1)) fun (x21:zQ2)=>(dA (.val zM2) (rA .add x20 x21) fun (x22:zQ2)=>(dA (.val zL2) (h18.cell (h.next,2)) fun (x23:SL)=>(mA (f58 N x23 h18) fun (x24:zQ2) h25=>(dA (.val zM2) (rA .add x22 x24) fun (x26:zQ2)=>(dA (.val zM2) (rA .add x26 [32,123,32]) fun (x27:zQ2)=>(dA (.val zM2) (rA .add x27 x15) fun (x28:zQ2)=>(dA (.val zM2) (rA .add x28 [125,10]) fun (x29:zQ2)=>(rC (bif (mB (h18.cell (h.next,2)) (yL x23)) then (bif (mB (h13.cell (h.next,2)) (yL x23)) then (bif (mB (h25.cell (h.next,1)) (.str x21)) then (bif (mB (h18.cell (h.next,1)) (.str x21)) then (bif (mB (h13.cell (h.next,1)) (.str x21)) then (bif (mB (h13.cell (h.next,0)) (.bool x16)) then true else false) else false) else false) else false) else false) else false) (
 let x30:=jB .i64 (v4+1);go v1 x29 x30 h25)))))))))))))))else(dA (.val zN2) (h13.cell (h.next,0)) fun (x31:Bool)=>(mA (f85 N x31 h13) fun (x32:zQ2) h33=>(dA (.val zM2) (rA .add v3 x32) fun (x34:zQ2)=>(dA (.val zM2) (rA .add x34 [115,116,114,117,99,116,32]) fun (x35:zQ2)=>(dA (.val zM2) (h33.cell (h.next,1)) fun (x36:zQ2)=>(dA (.val zM2) (rA .add x35 x36) fun (x37:zQ2)=>(dA (.val zL2) (h33.cell (h.next,2)) fun (x38:SL)=>(mA (f58 N x38 h33) fun (x39:zQ2) h40=>(dA (.val zM2) (rA .add x37 x39) fun (x41:zQ2)=>(dA (.val zM2) (rA .add x41 [32,123,32]) fun (x42:zQ2)=>(dA (.val zM2) (rA .add x42 x12) fun (x43:zQ2)=>(dA (.val zM2) (rA .add x43 [125,10]) fun (x44:zQ2)=>(rC (bif (mB (h33.cell (h.next,2)) (yL x38)) then (bif (mB (h13.cell (h.next,2)) (yL x38)) then (bif (mB (h40.cell (h.next,1)) (.str x36)) then (bif (mB (h33.cell (h.next,1)) (.str x36)) then (bif (mB (h13.cell (h.next,1)) (.str x36)) then (bif (mB (h13.cell (h.next,0)) (.bool x31)) then true else false) else false) else false) else false) else false) else false) ( let x45:=jB .i64 (v4+1);go v1 x44 x45 h40))))))))))))))))))))))else some ((Out.exit 0),(v1,v3,()),h))))
noncomputable def kA9 (N M:Nat) (v1:zJ2) (v3:zQ2) (v4:Int) (h:Heap):Option (Out×zA1×Heap):=iter (fun go s h=>rA5 N (fun v1 v3 v4 h=>go (v1,v3,v4,()) h) s.1 s.2.1 s.2.2.1 h) M (v1,v3,v4,()) h
theorem cAe (N M v1 v3 v4 h):kA9 N (M+1) v1 v3 v4 h=rA5 N (kA9 N M) v1 v3 v4 h:=rfl
noncomputable def f45 (N:Nat) (a0:zO1) (h:Heap):Option (zQ2×Heap):=let h1:=h.push (.row (yRH a0) .own);(pC (kA9 N N (some (h.next,0)) [] 0 h1) fun _ (j47:zA1) h48=>(pC (jAh N N j47.1 j47.2.1 0 h48) fun _ (j70:zH1) h71=>some (j70.1,h71)))
noncomputable def dBc:Ann:=(.two .n (.two .n (.two (.two .n (.two (.loop [(1,zK2),(3,zM2),(4,zO2)] [(.exit 0)] [(1,zK2),(3,zM2)] .n) .n)) (.two (.two .n (.two (.loop [(1,zK2),(3,zM2),(7,zO2)] [(.exit 2)] [(3,zM2)] .n) .n)) .n))))
theorem vB6 (N:Nat):jC Tryz.prog 45 [zJ] (.val zM2) (fun x h=>f45 N x.1 h):=cD (iA (uB6 N) (iA (nB6 N) (iA (bAv N) (iA (aAv N) (iA (pAt N) nA))))) N dBc Tryz.f45
noncomputable def f17 (N:Nat) (a0:zO1) (h:Heap):Option ((zQ2×Int×Unit)×Heap):=let h1:=h.push (.row (yRH a0) .own);(dA (.val zJ) (h1.cells (h.next,0) 2) fun (x2:zO1)=>(mA (f19 N x2 h1) fun (x3:Bool) h4=>let x5:=!x3;(bif x5 then some (([],1,()),h4)else(dA (.val zJ) (h4.cells (h.next,0) 2) fun (x6:zO1)=>(mA (f45 N x6 h4) fun (x7:zQ2) h8=>let x9:=ltInt 1048576 (Int.ofNat x7.length);(bif x9 then some (([],5,()),h8)else some ((x7,0,()),h8)))))))
noncomputable def eBc:Ann:=.n
theorem wB6 (N:Nat):jC Tryz.prog 17 [zJ] (.tup [zM2,zO2]) (fun x h=>f17 N x.1 h):=cD (iA (vB6 N) (iA (fAu N) nA)) N eBc Tryz.f17
noncomputable def f3 (N:Nat) (a0:zO1) (h:Heap):Option (Bool×Heap):=let h1:=h.push (.row (yRH a0) .own);(dA (.val zJ) (h1.cells (h.next,0) 2) fun (x2:zO1)=>(mA (f14 N x2 h1) fun (x3:Bool) h4=>(bif x3 then(mA (f15 N  h4) fun (x5:Bool) h6=>some (x5,h6))else(dA (.val zJ) (h4.cells (h.next,0) 2) fun (x7:zO1)=>(mA (f16 N x7 h4) fun (x8:zZ1) h9=>(dA (.val zJ) (h9.cells (h.next,0) 2) fun (x10:zO1)=>(mA (f17 N x10 h9) fun (x11:(zQ2×Int×Unit)) h12=>(mA (f15 N  h12) fun (x13:Bool) h14=>(bif x13 then let x15:=fB x8.1 x11.1;(bif x15 then(mA (f18 N x8.2.1 x11.2.1 0 h14) fun (x16:Bool) h17=>some (x16,h17))else some (false,h14))else some (false,h14))))))))))
noncomputable def qBe:Ann:=.n
theorem f3_ok (N:Nat):jC Tryz.prog 3 [zJ] (.val zN2) (fun x h=>f3 N x.1 h):=cD (iA (nAt N) (iA (wB6 N) (iA (nAn N) (iA (dAu N) (iA (yAt N) nA))))) N qBe Tryz.f3
end Qp
namespace Qp
theorem lA9 (sep:Bs):∀ (l:List Bs) (x:Bs),Qb.joinL (l++[x]) sep=(if l=[] then [] else Qb.joinL l sep++sep)++x
 | [],x=>rfl
 | [a],x=>by simp [Qb.joinL]
 | a::b::r,x=>by
  have ih:=lA9 sep (b::r) x
  grind [Qb.joinL]
theorem nM (sep:Bs) {l:List Bs} {i:Nat} (h:i<l.length):Qb.joinL (l.take (i+1)) sep=(if 0<i then Qb.joinL (l.take i) sep++sep else Qb.joinL (l.take i) sep)++l[i]:=by
 rw [List.take_succ_eq_append_getElem h,lA9]
 by_cases h0:0<i
 ·have:l.take i≠[]:=fun e=>by
   have:=congrArg List.length e
   grind
  grind
 grind [Qb.joinL]
theorem aG {B:Nat} {l:List Bs} {sep:Bs} (h:∀ x∈l,x.length<=B) (i:Nat) (hl:l.length<=64):(Qb.joinL (l.take i) sep).length<=64 * (B+sep.length):=by
 have:=wG (B:=B) (l:=l.take i) (sep:=sep) fun x hx=>h x (List.mem_of_mem_take hx)
 refine Nat.le_trans this (Nat.mul_le_mul ?_ (Nat.le_refl _))
 grind
section
variable {N:Nat} {h:Heap} {V:Nat->Prop}
theorem yAo {k:Nat} (hk:k<=1000):∀ (M i:Nat),i<=k->k-i<M->lA5 N M (k:Int) (Lib.repeatL [9] i) (i:Int) h=some (.exit 0,(Lib.repeatL [9] k,()),h):=by
 intro M
 induction M with
 | zero=>intro i _ h;omega
 | succ M ih=>
  intro i hi hM;rw [eA9];unfold aZ;simp only [rB]
  by_cases q:i<k
  ·simp only [q,decide_true,cond_true]
   have hl:=Lib.repeatL_length [9] i;simp only [List.length_cons,List.length_nil] at hl;rw [yA (by simp;omega)]
   grind [bA,kA,aB,Lib.repeatL,Lib.repeatL_add,Lib.repeatL_one]
  grind
theorem aAp {k:Nat} (hk:k<=1000) (hN:1001<=N) (h:Heap):f133 N (k:Int) h=some (Lib.repeatL [9] k,h):=by
 unfold f133
 have:=yAo (N:=N) (h:=h) hk N 0 (Nat.zero_le _) (by omega)
 rw [show ((0:Nat):Int)=0 from rfl,show Lib.repeatL [9] 0=[] from rfl] at this;rw [this];rfl
theorem dAe {d:D} (hd:dG 64 d) {r:TyV} (hN:100<=N) (x:Dt h V d (tyc r)):∃ h2,f24 N N r h=some (tyX 64 d,h2)/\Chg [] h h2:=by
 obtain ⟨p,rfl,hp⟩:=hd;rw [wAg hp];exact oB2 hN 64 N h r p V (by omega) (Nat.le_refl _) hp x
def plT (nm:Bs) (xs:List Bs):Bs:=nm++(xs.map fun x=>[46]++x).flatten
theorem tA5:∀ (xs:List Bs) (nm:Bs),Qb.joinL (nm::xs) [46]=plT nm xs
 | [],nm=>by simp [Qb.joinL,plT]
 | x::r,nm=>by
  show nm++([46]++Qb.joinL (x::r) [46])=_;rw [tA5 r x];simp [plT]
theorem eAe {P:Nat} {nm:Bs} {s:SL} {xs:List Bs} (o:h.own P (lfc (nm,s,()))) (x:Sl h V s (xs.map D.s)) (hn:nm.length<=32) (hx:∀ y∈xs,y.length<=32) (hl:xs.length<=64):∀ (M i:Nat),i<=xs.length->xs.length-i<M->mA5 N M (some (P,0)) (plT nm (xs.take i)) (i:Int) h=some (.exit 0,(plT nm xs,()),h):=by
 intro M
 induction M with
 | zero=>intro i _ h;omega
 | succ M ih=>
  intro i hi hM;rw [fA9];unfold bZ;have a1:h.cell (P,1)=some (yL s):=o.cell 1;have hv:s.len=xs.length:=by rw [x.len,List.length_map]
  have z:ltInt (i:Int) (Int.ofNat s.len)=decide (i<xs.length):=by rw [hv];exact rB i _
  simp only [fA,Nat.zero_add,a1,bA,jA,z]
  by_cases q:i<xs.length
  ·simp only [q,decide_true,cond_true]
   have hlen:(plT nm (xs.take i)).length<=3000:=by
    rw [<- tA5]
    have:=wG (B:=32) (l:=nm::xs.take i) (sep:=[46]) fun y hy=>by
     grind
    grind
   have hxi:=hx _ (List.getElem_mem q);rw [yA (by simp;omega)];simp only [bA,kA];rw [x.ix (by grind) 1,vE x q];simp only [bA,kA];rw [yA (by simp;omega)];simp only [bA,kA];rw [aB (by omega)];have e:plT nm (xs.take i)++[46]++xs[i]=plT nm (xs.take (i+1)):=by
    grind [plT,List.take_succ_eq_append_getElem,List.flatten_append]
   grind
  grind
theorem bAp {x:Bs} (h:jQ x):x.length<=32:=by
 rcases h with rfl | h
 ·decide
 ·exact iD h
theorem uA5 (hN:100<=N) {d:D} (hd:lH d) {r:LfV} (x:Dt h V d (lfc r)):∃ h',f179 N r h=some (plX d,h')/\Chg [] h h':=by
 obtain ⟨nm,xs,rfl,hn,hl,hp⟩:=hd;obtain ⟨s,hc,y⟩:=iG x;obtain rfl:=aAd.inj (r':=(nm,s,())) hc;unfold f179;have o:=wA h (lfc (nm,s,()));have c:=tA h (.row (lfc (nm,s,())) .own);have e1:h.push (.row [(.str nm),(yL s)] .own)=h.push (.row (lfc (nm,s,())) .own):=rfl
 try dsimp only
 rw [e1];have y:=y.chg c (by simp);generalize h.push (.row (lfc (nm,s,())) .own)=H at *;have a0:H.cell (h.next,0)=some (.str nm):=o.cell 0;simp only [Nat.add_zero,a0,bA,kA];have e:=eAe (N:=N) o y (iD hn) (fun z hz=>bAp (hp z hz)) hl N 0 (Nat.zero_le _) (by omega);rw [show ((0:Nat):Int)=0 from rfl,show plT nm (xs.take 0)=nm from by simp [plT]] at e;rw [e,kB];refine ⟨H,?_,c⟩;have hX:plX (gD nm (xs.map D.s))=Qb.joinL (nm::txS (xs.map D.s)) [46]:=rfl;rw [hX,rG,tA5]
theorem oM (hN:100<=N) {d:D} (hd:qC d) (pk:PK h) {r:OpV} (x:Dt h V d (opc r)):∃ h',f180 N r h=some (opX d,h')/\Chg [] h h':=by
 unfold f180;have hi:=iC hd;have o1:=wA h (opc r);have c1:=tA h (.row (opc r) .own);have e1:h.push (.row [(.int .i64 r.1),(.int .i64 r.2.1),(.str r.2.2.1),(yL r.2.2.2.1)] .own)=h.push (.row (opc r) .own):=rfl
 try dsimp only
 rw [e1];have x:=Dt.chg c1 (by simp) x;have pk:=pk.chg c1;generalize h.push (.row (opc r) .own)=h1 at *;rcases hd with ⟨n,rfl,hn⟩ | ⟨n,hn,rfl⟩ | ⟨p,rfl,hp⟩
 ·obtain ⟨q,hc,_⟩:=aO ⟨[],[],rfl,by simp⟩ x
  obtain rfl:=lJ.inj hc;have a0:h1.cell (h.next,0)=some (.int .i64 1):=o1.cell 0;have a1:h1.cell (h.next,1)=some (.int .i64 (n:Int)):=o1.cell 1;simp only [Nat.add_zero,Nat.zero_add,a0,a1,bA,vA,show eA 1 1=true from rfl,cond_true];rw [pk.itoa (by omega) (by omega),aA];exact ⟨h1,rfl,c1⟩
 ·obtain ⟨q,hc,_⟩:=aO ⟨[],[],rfl,by simp⟩ x
  obtain rfl:=lJ.inj hc;have a0:h1.cell (h.next,0)=some (.int .i64 2):=o1.cell 0;simp only [Nat.add_zero,Nat.zero_add,a0,bA,vA,show eA 2 1=false from rfl,show eA 2 2=true from rfl,cond_true,cond_false];have o2:=wA h1 [.str [102,97,108,115,101],.str [116,114,117,101]];have c2:=tA h1 (.row [.str [102,97,108,115,101],.str [116,114,117,101]] .own);have o12:=o1.chg c2 (by simp);generalize h1.push (.row [(.str [102,97,108,115,101]),(.str [116,114,117,101])] .own)=h8 at *;have a1:h8.cell (h.next,1)=some (.int .i64 n):=o12.cell 1;simp only [a1,bA,vA];rcases hn with rfl | rfl
  ·rw [show qA9 .and .i64 0 1=some (.int .i64 0) from by rfl]
   simp only [bA,vA]
   have:h8.cell (h1.next,0)=some (.str [102,97,108,115,101]):=o2.cell 0
   show ∃ h',(dA (.val zM2) (h8.cell (h1.next,0)) _)=_/\_;rw [this];exact ⟨h8,rfl,c1.trans c2⟩
  ·rw [show qA9 .and .i64 1 1=some (.int .i64 1) from by rfl]
   simp only [bA,vA]
   have:h8.cell (h1.next,1)=some (.str [116,114,117,101]):=o2.cell 1
   show ∃ h',(dA (.val zM2) (h8.cell (h1.next,1)) _)=_/\_;rw [this];exact ⟨h8,rfl,c1.trans c2⟩
 ·obtain ⟨nm,xs,hpl,h2,h3,h4⟩:=hp
  have hp:lH p:=⟨nm,xs,hpl,h2,h3,h4⟩;obtain ⟨q,hc,y⟩:=aO (vG hp) x;obtain rfl:=lJ.inj hc;have a0:h1.cell (h.next,0)=some (.int .i64 3):=o1.cell 0;have aa:h1.cells (h.next,2) 2=some (.agg (lfc q)):=o1.cells (j:=2) (m:=2) (Nat.le_refl _);simp only [Nat.add_zero,Nat.zero_add,a0,bA,vA,show eA 3 1=false from rfl,show eA 3 2=false from rfl,cond_false];obtain ⟨h',e,c⟩:=uA5 (N:=N) hN hp y;have e':f179 N (q.1,q.2.1,()) h1=some (plX p,h'):=e;rw [aa,jH,e',aA];exact ⟨h',rfl,c1.trans c⟩
theorem mA9 (hN:200<=N) {mu:Bool} {l:List D} (hl:mJ 64 (wE mu) l) {s:SL}:∀ (M i:Nat) (h:Heap),i<=l.length->l.length-i<M->Sl h V s l->∃ h',dAh N M s (Qb.joinL ((l.map fdX).take i) [44,32]) (i:Int) h=some (.exit 0,(lM l,()),h')/\Chg [] h h':=by
 intro M
 induction M with
 | zero=>intro i h _ h;omega
 | succ M ih=>
  intro i h hi hM x;rw [uAd];unfold iA5;have hv:s.len=l.length:=x.len;have hll:=hl.1;have hlm:(l.map fdX).length=l.length:=by rw [List.length_map]
  have z:ltInt (i:Int) (Int.ofNat s.len)=decide (i<l.length):=by rw [hv];exact rB i _
  simp only [z]
  by_cases q:i<l.length
  ·simp only [q,decide_true,cond_true]
   have hm:=List.getElem_mem q;have hj:(Qb.joinL ((l.map fdX).take i) [44,32]).length<=400000:=by
    refine Nat.le_trans (aG (B:=6040) (fun y hy=>?_) i (by omega)) (by decide);obtain ⟨d,hd,rfl⟩:=List.mem_map.1 hy;exact vA4 (hl.2 d hd)
   have hnx:=nM [44,32] (l:=l.map fdX) (i:=i) (by rw [hlm];exact q);have hfl:=vA4 (hl.2 _ hm);rw [List.getElem_map] at hnx;have z0:ltInt 0 (i:Int)=decide (0<i):=rB 0 i;obtain ⟨J,hJ⟩:∃ J,J=Qb.joinL ((l.map fdX).take i) [44,32]:=⟨_,rfl⟩;rw [<- hJ] at hj hnx ⊢;obtain ⟨P1,hP⟩:∃ P,P=(if 0<i then J++[44,32] else J):=⟨_,rfl⟩;rw [<- hP] at hnx;have lP:P1.length<=400002:=by
    grind
   have e0:(bif ltInt 0 (i:Int) then (dA (.val zM2) (rA .add J [44,32]) fun (x3:Bs)=>some (((s,x3,(i:Int),()):SL×zQ2×Int×Unit),h)) else some ((s,J,(i:Int),()),h))=some ((s,P1,(i:Int),()),h):=by
    rw [z0,hP]
    by_cases h0:0<i
    ·simp only [h0,decide_true,cond_true,if_true]
     rw [yA (by simp;omega)];rfl
    grind
   rw [e0,aA]
   clear e0
   have hz:s.sz=6:=by
    obtain ⟨cs,e⟩:=x.elt q;obtain ⟨r,hc⟩:=nAb.inv (uQ (hl.2 _ hm)) e.dt;rw [<- e.len,hc];rfl
   obtain ⟨cs,e⟩:=x.elt q;obtain ⟨m,nm,ty,hd,hmu,hn,ht⟩:=hl.2 _ hm;rw [hd] at e hnx hfl;obtain ⟨r,hc,hdt⟩:=pAf (jN ht) e.dt;have e0:=e.cell 0 (by rw [hz];decide);have e1:=e.cell 1 (by rw [hz];decide);have e2:=e.cells 2 4 (by rw [hz];decide);rw [hz,hc] at e0 e1 e2;have a0:h.cell ((s.at i 6).1,(s.at i 6).2+0)=some (.bool m):=e0;have a1:h.cell ((s.at i 6).1,(s.at i 6).2+1)=some (.str nm):=e1;have a2:h.cells ((s.at i 6).1,(s.at i 6).2+2) 4=some (.agg (tyc r)):=e2;have hfe:fdX (fdD m nm ty)=(if m=true then [109,117,116,32] else [])++(nm++[58,32]++tyX 64 ty):=rfl;have ln:=iD hn;have lt:=fL ht;have hix:∀ {β:Type} (K:Nat×Nat->Option β),ixK s.a s.len (i:Int) 6 K=K (s.at i 6):=fun K=>x.ix q 6 K;simp only [hix];rw [a0];simp only [bA,uB];obtain ⟨P2,hP2⟩:∃ P,P=P1++(if m=true then [109,117,116,32] else []):=⟨_,rfl⟩;have lP2:P2.length<=400006:=by
    grind
   have e3:(bif m then (dA (.val zM2) (rA .add P1 [109,117,116,32]) fun (x8:Bs)=>some (((s,x8,(i:Int),()):SL×zQ2×Int×Unit),h)) else some ((s,P1,(i:Int),()),h))=some ((s,P2,(i:Int),()),h):=by
    rw [hP2]
    cases m with
    | false=>simp
    | true=>
     simp only [cond_true,if_true];rw [yA (by simp;omega)];rfl
   rw [e3,aA]
   try dsimp only
   simp only [hix];rw [a1];simp only [bA,kA];rw [yA (by omega)];simp only [bA,kA];rw [yA (by simp;omega)];simp only [bA,kA];rw [a2,vJ];obtain ⟨h2,e5,c5⟩:=dAe ht (by omega:100<=N) hdt;have e5':f24 N N r h=some (tyX 64 ty,h2):=e5;rw [e5',aA,yA (by simp;omega)];simp only [bA,kA];have kp:∀ (p:Nat×Nat),p.1=(s.at i 6).1->h2.cell p=h.cell p/\∀ n,h2.cells p n=h.cells p n:=fun p hp=>by
    have eq:h2.t.get p.1=h.t.get p.1:=c5.g _ (by rw [hp];exact qH x q) (by simp)
    grind [Heap.cell,Heap.row,Heap.cells,Heap.read]
   have sT:mB (some (.agg (tyc r))) (.agg [(.int .i64 r.1),(.str r.2.1),(yL r.2.2.1),(yL r.2.2.2.1)])=true:=nB _;have k1:h2.cell ((s.at i 6).1,(s.at i 6).2+1)=some (.str nm):=(kp ((s.at i 6).1,(s.at i 6).2+1) rfl).1.trans a1;simp only [k1,sT,nB,cond_true,qB,aA];rw [aB (by omega)];obtain ⟨h',e',c'⟩:=ih (i+1) h2 q (by omega) (x.chg c5 (by simp));have eJ:P2++nm++[58,32]++tyX 64 ty=Qb.joinL ((l.map fdX).take (i+1)) [44,32]:=by
    grind
   rw [eJ];exact ⟨h',e',c5.trans c'⟩
  ·simp only [q,decide_false,cond_false]
   rw [List.take_of_length_le (by omega)];exact ⟨h,rfl,Chg.refl _ _⟩
theorem cAv (hN:200<=N) {mu:Bool} {l:List D} (hl:mJ 64 (wE mu) l) {s:SL} (x:Sl h V s l):∃ h',f84 N s h=some (lM l,h')/\Chg [] h h':=by
 unfold f84;obtain ⟨h',e,c⟩:=mA9 (N:=N) hN hl N 0 h (Nat.zero_le _) (by have:=hl.1;omega) x;rw [show ((0:Nat):Int)=0 from rfl,show Qb.joinL ((l.map fdX).take 0) [44,32]=[] from rfl] at e;rw [e];exact ⟨h',rfl,c⟩
end
end Qp
namespace Qp
section
variable {N:Nat} {h:Heap} {V:Nat->Prop}
theorem fAj (hN:100<=N) {P:Nat} {r:VaV} {ag:List D} (ha:mJ 64 qC ag):∀ (M i:Nat) (h:Heap),i<=ag.length->ag.length-i<M->PK h->h.own P (vac r)->Sl h V (vaG r) ag->∃ h',oA5 N M (some (P,0)) (Qb.joinL ((pD [] ag).take i) [44,32]) (i:Int) h=some (.exit 1,(some (P,0),Qb.joinL (pD [] ag) [44,32],()),h')/\Chg [] h h':=by
 intro M
 induction M with
 | zero=>intro i h _ h;omega
 | succ M ih=>
  intro i h hi hM pk o x;rw [iA9];unfold dZ;have a14:h.cell (P,14)=some (.slice (vaG r).a (vaG r).len (vaG r).cap (vaG r).sz):=o.cell 14;have hv:(vaG r).len=ag.length:=x.len;have hll:=ha.1;have hal:(pD [] ag).length=ag.length:=vD [] ag;have z:ltInt (i:Int) (Int.ofNat (vaG r).len)=decide (i<ag.length):=by rw [hv];exact rB i _
  have z0:ltInt 0 (i:Int)=decide (0<i):=rB 0 i;simp only [fA,Nat.zero_add,a14,bA,jA,z]
  by_cases q:i<ag.length
  ·simp only [q,decide_true,cond_true]
   have hm:=ha.2 _ (List.getElem_mem q);have hj:(Qb.joinL ((pD [] ag).take i) [44,32]).length<=400000:=Nat.le_trans (aG (B:=3100) (tY (by simp) ha) i (by omega)) (by decide);have hnx:=nM [44,32] (l:=pD [] ag) (i:=i) (by omega);have hg:=eK [] ag i (by omega) q;rw [hg] at hnx;simp only [List.length_nil,Nat.not_lt_zero,dite_false] at hnx;have hol:=uD hm;obtain ⟨ro,g,d⟩:=lJ.elt x q (iC hm);obtain ⟨h2,e2,c2⟩:=oM (N:=N) hN hm pk d;have e2':f180 N ro h=some (opX ag[i],h2):=e2;have hix:∀ {β:Type} (K:Nat×Nat->Option β),ixK (vaG r).a (vaG r).len (i:Int) 4 K=K ((vaG r).at i 4):=fun K=>x.ix q 4 K;obtain ⟨h',e',c'⟩:=ih (i+1) h2 q (by omega) (pk.chg c2) (o.chg c2 (by simp)) (x.chg c2 (by simp));rw [hnx] at e';refine ⟨h',?_,c2.trans c'⟩;rw [z0]
   by_cases h0:0<i
   ·rw [if_pos h0] at e'
    simp only [h0,decide_true,cond_true];rw [yA (by simp;omega)];simp only [bA,kA];rw [hix,g,lJ.agg,e2',aA,yA (by simp;omega)]
    grind [bA,kA,aB]
   ·rw [if_neg h0] at e'
    simp only [h0,decide_false,cond_false];rw [hix,g,lJ.agg,e2',aA,yA (by omega)]
    grind [bA,kA,aB]
  ·simp only [q,decide_false,cond_false]
   rw [List.take_of_length_le (by omega)];exact ⟨h,rfl,Chg.refl _ _⟩
theorem gAj (hN:100<=N) {P:Nat} {r:VaV} {ns:List Bs} {ag:List D} (hnl:ns.length=ag.length) (hns:∀ x∈ns,eC x=true) (ha:mJ 64 qC ag):∀ (M i:Nat) (h:Heap),i<=ag.length->ag.length-i<M->PK h->h.own P (vac r)->Sl h V (vaS r) (ns.map D.s)->Sl h V (vaG r) ag->∃ h',nA5 N M (some (P,0)) (Qb.joinL ((pD ns ag).take i) [44,32]) (i:Int) h=some (.exit 3,(some (P,0),Qb.joinL (pD ns ag) [44,32],()),h')/\Chg [] h h':=by
 intro M
 induction M with
 | zero=>intro i h _ h;omega
 | succ M ih=>
  intro i h hi hM pk o x1 x;rw [gA9];unfold cZ;have rd14:∀ {G:Heap},Chg [] h G->G.cell (P,14)=some (.slice (vaG r).a (vaG r).len (vaG r).cap (vaG r).sz):=fun c=>(o.chg c (by simp)).cell 14;have rd13:∀ {G:Heap},Chg [] h G->G.cell (P,13)=some (.slice (vaS r).a (vaS r).len (vaS r).cap (vaS r).sz):=fun c=>(o.chg c (by simp)).cell 13;have a14:=rd14 (Chg.refl [] h);have a13:=rd13 (Chg.refl [] h);have hv:(vaG r).len=ag.length:=x.len;have hll:=ha.1;have hal:(pD ns ag).length=ag.length:=vD ns ag;have z:ltInt (i:Int) (Int.ofNat (vaG r).len)=decide (i<ag.length):=by rw [hv];exact rB i _
  have z0:ltInt 0 (i:Int)=decide (0<i):=rB 0 i;simp only [fA,Nat.zero_add,a14,bA,jA,z]
  by_cases q:i<ag.length
  ·simp only [q,decide_true,cond_true]
   have q':i<ns.length:=by omega
   have hm:=ha.2 _ (List.getElem_mem q);have hj:(Qb.joinL ((pD ns ag).take i) [44,32]).length<=400000:=Nat.le_trans (aG (B:=3100) (tY hns ha) i (by omega)) (by decide);have hnx:=nM [44,32] (l:=pD ns ag) (i:=i) (by omega);have hg:=eK ns ag i (by omega) q;rw [dif_pos q'] at hg;rw [hg] at hnx;have hol:=uD hm;have hnn:=iD (hns _ (List.getElem_mem q'));obtain ⟨ro,g,d⟩:=lJ.elt x q (iC hm);obtain ⟨h2,e2,c2⟩:=oM (N:=N) hN hm pk d;have e2':f180 N ro h=some (opX ag[i],h2):=e2;have hix:∀ {β:Type} (K:Nat×Nat->Option β),ixK (vaG r).a (vaG r).len (i:Int) 4 K=K ((vaG r).at i 4):=fun K=>x.ix q 4 K;have hix1:∀ {β:Type} (K:Nat×Nat->Option β),ixK (vaS r).a (vaS r).len (i:Int) 1 K=K ((vaS r).at i 1):=fun K=>x1.ix (by grind) 1 K;obtain ⟨h',e',c'⟩:=ih (i+1) h2 q (by omega) (pk.chg c2) (o.chg c2 (by simp)) (x1.chg c2 (by simp)) (x.chg c2 (by simp));rw [hnx] at e';refine ⟨h',?_,c2.trans c'⟩;have g2:h2.cells ((vaG r).at i 4) 4=some (.agg (opc ro)):=by grind [mN,qH]
   have s1:=vE x1 q';have s2:=vE (x1.chg c2 (by simp)) q';have sO:mB (some (.agg (opc ro))) (.agg [(.int .i64 ro.1),(.int .i64 ro.2.1),(.str ro.2.2.1),(yL ro.2.2.2.1)])=true:=nB _;rw [z0]
   by_cases h0:0<i
   ·rw [if_pos h0] at e'
    simp only [h0,decide_true,cond_true];rw [yA (by simp;omega)];simp only [bA,kA,a13,jA];rw [hix1,s1];simp only [bA,kA];rw [yA (by simp;omega)];simp only [bA,kA];rw [yA (by simp;omega)];simp only [bA,kA];rw [hix,g,lJ.agg,e2',aA,yA (by simp;omega)];simp only [bA,kA,s2,sO,rd13 c2,nB,cond_true,qB]
    grind [aB,Qb.joinL,pD,opX]
   ·rw [if_neg h0] at e'
    simp only [h0,decide_false,cond_false,a13,bA,jA];rw [hix1,s1];simp only [bA,kA];rw [yA (by omega)];simp only [bA,kA];rw [yA (by simp;omega)];simp only [bA,kA];rw [hix,g,lJ.agg,e2',aA,yA (by simp;omega)];simp only [bA,kA,s2,sO,rd13 c2,nB,cond_true,qB]
    grind [aB,Qb.joinL,pD,opX]
  ·simp only [q,decide_false,cond_false]
   rw [List.take_of_length_le (by omega)];exact ⟨h,rfl,Chg.refl _ _⟩
theorem tAz (hN:100<=N) {d:D} (hd:mayVa d) (pk:PK h) {r:VaV} (x:Dt h V d (vac r)):∃ h',f178 N r h=some (vaX d,h')/\Chg [] h h':=by
 unfold f178;have o:=wA h (vac r);have c:=tA h (.row (vac r) .own);have e1:h.push (.row (yRB r) .own)=h.push (.row (vac r) .own):=rfl
 try dsimp only
 rw [e1];have x:=Dt.chg c (by simp) x;have pk:=pk.chg c;generalize h.push (.row (vac r) .own)=H at *;have a0:H.cell (h.next,0)=some (.int .i64 r.1):=o.cell 0;have rd12:∀ {G:Heap},Chg [] H G->G.cell (h.next,12)=some (.str (vaN r)):=fun c=>(o.chg c (by simp)).cell 12;have a1:∀ {G:Heap},Chg [] H G->G.cells (h.next,1) 4=some (.agg (opc (vaA r))):=fun c=>(o.chg c (by simp)).cells (j:=1) (m:=4) (show 1+4<=15 by decide);have a5:∀ {G:Heap},Chg [] H G->G.cells (h.next,5) 4=some (.agg (opc (vaB r))):=fun c=>(o.chg c (by simp)).cells (j:=5) (m:=4) (show 5+4<=15 by decide);have a9:∀ {G:Heap},Chg [] H G->G.cell (h.next,9)=some (.int .i64 (vaO r)):=fun c=>(o.chg c (by simp)).cell 9;have a10:H.cells (h.next,10) 2=some (.agg (lfc (vaP r))):=o.cells (j:=10) (m:=2) (show 10+2<=15 by decide);simp only [Nat.zero_add,Nat.add_zero,a0,bA,vA]
 cases hd with
 | @op a ha=>
  obtain ⟨ra,rb,rp,s1,s2,hc,xa,xb,xp,y1,y2⟩:=bH (iC ha) wD eF x;obtain rfl:=gF hc;simp only [kE,show eA 1 1=true from rfl,cond_true];rw [a1 (Chg.refl _ _),dH];obtain ⟨H2,e2,c2⟩:=oM (N:=N) hN ha pk xa;have e2':f180 N ra H=some (opX a,H2):=e2;show ∃ h',(mA (f180 N ra H) _)=_/\_;rw [e2',aA];exact ⟨H2,rfl,c.trans c2⟩
 | @ref k p hk hp=>
  obtain ⟨ra,rb,rp,s1,s2,hc,xa,xb,xp,y1,y2⟩:=bH wD wD (vG hp) x;obtain rfl:=gF hc;obtain ⟨H2,e2,c2⟩:=uA5 (N:=N) hN hp xp;have e2':f179 N (rp.1,rp.2.1,()) H=some (plX p,H2):=e2;have lp:=fH hp;rcases hk with rfl | rfl
  ·simp only [kE,show eA 2 1=false from rfl,show eA 2 2=true from rfl,cond_true,cond_false]
   rw [a10,jH];show ∃ h',(mA (f179 N (rp.1,rp.2.1,()) H) _)=_/\_;rw [e2',aA,yA (by simp;omega)];exact ⟨H2,rfl,c.trans c2⟩
  ·simp only [kE,show eA 3 1=false from rfl,show eA 3 2=false from rfl,show eA 3 3=true from rfl,cond_true,cond_false]
   rw [a10,jH];show ∃ h',(mA (f179 N (rp.1,rp.2.1,()) H) _)=_/\_;rw [e2',aA,yA (by simp;omega)];exact ⟨H2,rfl,c.trans c2⟩
 | @no a ha=>
  obtain ⟨ra,rb,rp,s1,s2,hc,xa,xb,xp,y1,y2⟩:=bH (iC ha) wD eF x;obtain rfl:=gF hc;simp only [kE,show eA 4 1=false from rfl,show eA 4 2=false from rfl,show eA 4 3=false from rfl,show eA 4 4=true from rfl,cond_true,cond_false];rw [a1 (Chg.refl _ _),dH];obtain ⟨H2,e2,c2⟩:=oM (N:=N) hN ha pk xa;have e2':f180 N ra H=some (opX a,H2):=e2;have la:=uD ha;show ∃ h',(mA (f180 N ra H) _)=_/\_;rw [e2',aA,yA (by simp;omega)];exact ⟨H2,rfl,c.trans c2⟩
 | @bin a b op ha hb hop=>
  obtain ⟨ra,rb,rp,s1,s2,hc,xa,xb,xp,y1,y2⟩:=bH (iC ha) (iC hb) eF x;obtain rfl:=gF hc;simp only [kE,show eA 5 1=false from rfl,show eA 5 2=false from rfl,show eA 5 3=false from rfl,show eA 5 4=false from rfl,show eA 5 5=true from rfl,cond_true,cond_false];have la:=uD ha;have lb:=uD hb;have o4:=wA H [.str [],.str [43],.str [45],.str [60],.str [61,61]];have c4:=tA H (.row [.str [],.str [43],.str [45],.str [60],.str [61,61]] .own);generalize H.push (.row [.str [],.str [43],.str [45],.str [60],.str [61,61]] .own)=H4 at *;obtain ⟨H5,e5,c5⟩:=oM (N:=N) hN ha (pk.chg c4) (Dt.chg c4 (by simp) xa);have e5':f180 N ra H4=some (opX a,H5):=e5;rw [a1 c4,dH];show ∃ h',(mA (f180 N ra H4) _)=_/\_;rw [e5',aA,yA (by simp;omega)];have c45:=c4.trans c5;have o45:=o4.chg c5 (by simp);simp only [bA,kA,a9 c45,vA];obtain ⟨j,sx,hj,hs,hw,hsx⟩:∃ (j:Nat) (sx:Bs),j<5/\[AV.str [],.str [43],.str [45],.str [60],.str [61,61]][j]? = some (.str sx)/\aA6 .rem .i64 op 5=some (.int .i64 (j:Int))/\[32]++sx++[32]=tA4 op:=by
   rcases hop with rfl | rfl | rfl | rfl
   ·exact ⟨1,_,by decide,rfl,rfl,rfl⟩
   ·exact ⟨2,_,by decide,rfl,rfl,rfl⟩
   ·exact ⟨3,_,by decide,rfl,rfl,rfl⟩
   ·exact ⟨4,_,by decide,rfl,rfl,rfl⟩
  have lsx:sx.length<=4:=by
   grind
  rw [show vaO (kE 5 ra rb op rp [] s1 s2)=op from rfl,hw];simp only [bA,vA];have hix:∀ {β:Type} (K:Nat×Nat->Option β),ixK (some (H.next,0)) 5 (j:Int) 1 K=K (H.next,j):=fun K=>by
   show (bif Nat.blt j 5 then bB (some (H.next,0)) fun q=>K (q.1,q.2+j * 1) else none)=_;rw [show Nat.blt j 5=true from by rw [Nat.blt_eq];exact hj,cond_true,fA];simp
  have r5:∀ {G:Heap},G.own H.next [AV.str [],.str [43],.str [45],.str [60],.str [61,61]]->G.cell (H.next,j)=some (.str sx):=fun o=>by rw [o.cell j];exact hs
  rw [hix,r5 o45];simp only [bA,kA];rw [yA (by simp;omega)];simp only [bA,kA];rw [yA (by simp;omega)];simp only [bA,kA];rw [a5 c45,dH];obtain ⟨H6,e6,c6⟩:=oM (N:=N) hN hb ((pk.chg c4).chg c5) (Dt.chg c5 (by simp) (Dt.chg c4 (by simp) xb));have e6':f180 N rb H5=some (opX b,H6):=e6;show ∃ h',(mA (f180 N rb H5) _)=_/\_;rw [e6',aA,yA (by simp;omega)];have c46:=c45.trans c6;have o46:=o45.chg c6 (by simp);have sa:mB (some (.agg (opc ra))) (.agg [(.int .i64 ra.1),(.int .i64 ra.2.1),(.str ra.2.2.1),(yL ra.2.2.2.1)])=true:=wI _;have sb:mB (some (.agg (opc rb))) (.agg [(.int .i64 rb.1),(.int .i64 rb.2.1),(.str rb.2.2.1),(yL rb.2.2.2.1)])=true:=wI _;have b5:∀ {G:Heap},Chg [] H G->G.cells (h.next,5) 4=some (.agg (opc rb)):=a5;have b1:∀ {G:Heap},Chg [] H G->G.cells (h.next,1) 4=some (.agg (opc ra)):=a1;have b9:∀ {G:Heap},Chg [] H G->G.cell (h.next,9)=some (.int .i64 op):=a9;have hvo:vaO (kE 5 ra rb op rp [] s1 s2)=op:=rfl;have hva:vaA (kE 5 ra rb op rp [] s1 s2)=ra:=rfl;have hvb:vaB (kE 5 ra rb op rp [] s1 s2)=rb:=rfl;simp only [hva,hvb,bA,kA,b5 c4,b5 c46,b1 c45,b1 c46,b9 c4,b9 c46,r5 o4,r5 o46,sa,sb,nB,cond_true,qB,bV o46 o45,bV o45 o4,Bool.and_self];refine ⟨H6,?_,c.trans c46⟩;show some (opX a++[32]++sx++[32]++opX b,H6)=some (opX a++tA4 op++opX b,H6);rw [<- hsx];simp
 | @call nm ag hn ha=>
  obtain ⟨ra,rb,rp,s1,s2,hc,xa,xb,xp,y1,y2⟩:=bH wD wD eF x;obtain rfl:=gF hc;have ln:=qE hn;have lj:=mM (ns:=[]) (by simp) ha;obtain ⟨H2,e2,c2⟩:=fAj (N:=N) hN (P:=h.next) ha N 0 H (Nat.zero_le _) (by have:=ha.1;omega) pk o y2;rw [show ((0:Nat):Int)=0 from rfl,show Qb.joinL ((pD [] ag).take 0) [44,32]=[] from rfl] at e2;have a12:H2.cell (h.next,12)=some (.str nm):=rd12 c2;simp only [kE,show eA 6 1=false from rfl,show eA 6 2=false from rfl,show eA 6 3=false from rfl,show eA 6 4=false from rfl,show eA 6 5=false from rfl,show eA 6 6=true from rfl,cond_true,cond_false];rw [e2,kB];simp only [fA,Nat.zero_add,a12,bA,kA];rw [yA (by simp;omega)];simp only [bA,kA];rw [yA (by simp;omega)];simp only [bA,kA];rw [yA (by simp;omega)];refine ⟨H2,?_,c.trans c2⟩
  have:=wA4 6 op0 op0 0 pl0 nm [] ag
  rw [show vaD 6 op0 op0 0 pl0 nm [] ag=vaD 6 op0 op0 0 pl0 nm (([]:List Bs).map D.s) ag from rfl,this];rfl
 | @make nm ns ag hn hl hs ha=>
  obtain ⟨ra,rb,rp,s1,s2,hc,xa,xb,xp,y1,y2⟩:=bH wD wD eF x;obtain rfl:=gF hc;have ln:=qE hn;have lj:=mM hs ha;obtain ⟨H2,e2,c2⟩:=gAj (N:=N) hN (P:=h.next) hl hs ha N 0 H (Nat.zero_le _) (by have:=ha.1;omega) pk o y1 y2;rw [show ((0:Nat):Int)=0 from rfl,show Qb.joinL ((pD ns ag).take 0) [44,32]=[] from rfl] at e2;have a12:H2.cell (h.next,12)=some (.str nm):=rd12 c2;simp only [kE,show eA 7 1=false from rfl,show eA 7 2=false from rfl,show eA 7 3=false from rfl,show eA 7 4=false from rfl,show eA 7 5=false from rfl,show eA 7 6=false from rfl,cond_false];rw [e2,kB,wA4];simp only [fA,Nat.zero_add,a12,bA,kA];generalize Qb.joinL (pD ns ag) [44,32]=J at *
  cases J with
  | nil=>
   simp only [show fB [] []=true from rfl,cond_true];rw [yA (by simp;omega)];refine ⟨H2,?_,c.trans c2⟩;simp
  | cons y t=>
   simp only [show fB (y::t) []=false from rfl,cond_false];rw [yA (by simp;omega)];simp only [bA,kA];rw [yA (by simp at lj ⊢;omega)];simp only [bA,kA];rw [yA (by simp at lj ⊢;omega)];refine ⟨H2,?_,c.trans c2⟩;simp
end
end Qp
namespace Qp
def ovT (xs:List Bs):Bs:=match xs with
 | []=>[]
 | _::_=>[58,32,39]++Qb.joinL xs [32,43,32,39]
theorem aAt {xs:List Bs} {i:Nat} (h:i<xs.length):ovT (xs.take (i+1))=(if i=0 then [58,32] else ovT (xs.take i)++[32,43,32])++[39]++xs[i]:=by
 have hn:=nM [32,43,32,39] h;have h1:∃ y r,xs.take (i+1)=y::r:=by
  cases hq:xs.take (i+1) with
  | nil=>
   have:=congrArg List.length hq
   grind
  | cons y r=>exact ⟨y,r,rfl⟩
 obtain ⟨y,r,h1⟩:=h1;have e1:ovT (xs.take (i+1))=[58,32,39]++Qb.joinL (xs.take (i+1)) [32,43,32,39]:=by rw [h1];rfl
 rw [e1,hn]
 by_cases h0:i=0
 ·subst h0
  simp [Qb.joinL]
 ·rw [if_pos (by omega),if_neg h0]
  have h2:∃ y r,xs.take i=y::r:=by
   cases hq:xs.take i with
   | nil=>
    have:=congrArg List.length hq
    rw [List.length_take,List.length_nil] at this;omega
   | cons y r=>exact ⟨y,r,rfl⟩
  grind [ovT,Qb.joinL]
theorem uAz {xs:List Bs} (h:∀ x∈xs,x.length<=32) (hl:xs.length<=64) (i:Nat):(ovT (xs.take i)).length<=3000:=by
 have:=aG (sep:=[32,43,32,39]) h i hl
 simp only [List.length_cons,List.length_nil] at this;unfold ovT
 grind
theorem dAv (nm:Bs) (xs:List Bs):lfX (gD nm (xs.map D.s))=[39]++nm++ovT xs:=by
 cases xs with
 | nil=>rfl
 | cons y r=>
  show [39]++nm++([58,32,39]++Qb.joinL (txS ((y::r).map D.s)) [32,43,32,39])=_;rw [rG];rfl
section
variable {N:Nat} {h:Heap} {V:Nat->Prop}
theorem cAp {G:Heap} {s:SL} {lv:List D} (x:Sl G V s lv) {i:Nat} (q:i<lv.length) {nm:Bs} {xs:List Bs} (hd:lv[i]=gD nm (xs.map D.s)):∃ sl:SL,G.cell ((s.at i 2).1,(s.at i 2).2+0)=some (.str nm)/\G.cell ((s.at i 2).1,(s.at i 2).2+1)=some (yL sl)/\Sl G V sl (xs.map D.s):=by
 obtain ⟨cs,e⟩:=x.elt q;have hdt:=e.dt;rw [hd] at hdt;obtain ⟨sl,hc,hdt⟩:=iG hdt;have hz:s.sz=2:=by rw [<- e.len,hc];rfl
 have e0:=e.cell 0 (by rw [hz];decide);have e1:=e.cell 1 (by rw [hz];decide);rw [hz,hc] at e0 e1;exact ⟨sl,e0,e1,hdt⟩
theorem iAj {P:Nat} {rr:FuR} {lv:List D} (o:h.own P (fuc rr)) (x:Sl h V rr.lv lv) {i:Nat} (hi:i<lv.length) {nm:Bs} {xs:List Bs} (hd:lv[i]=gD nm (xs.map D.s)) (hx:∀ y∈xs,y.length<=32) (hl:xs.length<=64) {b:Bs} (hb:b.length<=500000):∀ (M k:Nat),k<=xs.length->xs.length-k<M->eAh N M (some (P,0)) (b++ovT (xs.take k)) (i:Int) (k:Int) h=some (.exit 2,(some (P,0),b++ovT xs,(i:Int),()),h):=by
 intro M
 induction M with
 | zero=>intro k _ h;omega
 | succ M ih=>
  intro k hk hM;rw [vAd];unfold jA5;have a2:h.cell (P,2)=some (yL rr.lv):=o.cell 2;obtain ⟨sl,b0,b1,y⟩:=cAp x hi hd;have hv:sl.len=xs.length:=by rw [y.len,List.length_map]
  have z:ltInt (k:Int) (Int.ofNat sl.len)=decide (k<xs.length):=by rw [hv];exact rB k _
  have hix:∀ {β:Type} (K:Nat×Nat->Option β),ixK rr.lv.a rr.lv.len (i:Int) 2 K=K (rr.lv.at i 2):=fun K=>x.ix hi 2 K;simp only [fA,Nat.zero_add,a2,bA,jA,hix];rw [b1];simp only [bA,jA,z]
  by_cases q:k<xs.length
  ·simp only [q,decide_true,cond_true]
   have lo:=uAz hx hl k;have hxk:=hx _ (List.getElem_mem q);have hnx:=aAt q;have hz:eA (k:Int) 0=decide (k=0):=by
    rw [eqI]
    by_cases h0:k=0
    ·rw [decide_eq_true h0,decide_eq_true];omega
    ·rw [decide_eq_false h0,decide_eq_false];omega
   have hix1:∀ {β:Type} (K:Nat×Nat->Option β),ixK sl.a sl.len (k:Int) 1 K=K (sl.at k 1):=fun K=>y.ix (by grind) 1 K;rw [hz];have ih':=ih (k+1) q (by omega)
   by_cases h0:k=0
   ·rw [if_pos h0] at hnx
    have e0:ovT (xs.take k)=[]:=by rw [h0];rfl
    simp only [h0,decide_true,cond_true];subst h0;rw [show b++ovT (List.take 0 xs)=b by simp [ovT],yA (by simp;omega)];simp only [bA,kA,aA];rw [yA (by simp;omega)];simp only [bA,kA,fA,Nat.zero_add,a2,jA,hix];rw [b1];simp only [bA,jA];rw [hix1,vE y q];simp only [bA,kA];rw [yA (by simp;omega)];simp only [bA,kA,aA];rw [aB (by omega)]
    grind
   ·rw [if_neg h0] at hnx
    simp only [h0,decide_false,cond_false];rw [yA (by simp;omega)];simp only [bA,kA,aA];rw [yA (by simp;omega)];simp only [bA,kA,fA,Nat.zero_add,a2,jA,hix];rw [b1];simp only [bA,jA];rw [hix1,vE y q];simp only [bA,kA];rw [yA (by simp;omega)];simp only [bA,kA,aA]
    grind [aB]
  grind
theorem fAe (hN:100<=N) {P:Nat} {rr:FuR} {lv:List D} (hlv:mJ 64 yJ lv) (o:h.own P (fuc rr)) (x:Sl h V rr.lv lv):∀ (M i:Nat),i<=lv.length->lv.length-i<M->fAh N M (some (P,0)) (Qb.joinL ((lv.map lfX).take i) [44,32]) (i:Int) h=some (.exit 0,(some (P,0),Qb.joinL (lv.map lfX) [44,32],()),h):=by
 intro M
 induction M with
 | zero=>intro i _ h;omega
 | succ M ih=>
  intro i hi hM;rw [wAd];unfold kA5;have a2:h.cell (P,2)=some (yL rr.lv):=o.cell 2;have hv:rr.lv.len=lv.length:=x.len;have hll:=hlv.1;have hlm:(lv.map lfX).length=lv.length:=by rw [List.length_map]
  have z:ltInt (i:Int) (Int.ofNat rr.lv.len)=decide (i<lv.length):=by rw [hv];exact rB i _
  have z0:ltInt 0 (i:Int)=decide (0<i):=rB 0 i;simp only [fA,Nat.zero_add,a2,bA,jA,z]
  by_cases q:i<lv.length
  ·simp only [q,decide_true,cond_true]
   have hm:=hlv.2 _ (List.getElem_mem q);have hj:(Qb.joinL ((lv.map lfX).take i) [44,32]).length<=200000:=by
    refine Nat.le_trans (aG (B:=2500) (fun y hy=>?_) i (by omega)) (by decide);obtain ⟨d,hd,rfl⟩:=List.mem_map.1 hy;exact nAo (hlv.2 d hd)
   have hnx:=nM [44,32] (l:=lv.map lfX) (i:=i) (by rw [hlm];exact q);rw [List.getElem_map] at hnx;obtain ⟨nm,xs,hd,hn,hxs⟩:=hm;have hln:=(uC hn).2;rw [hd,dAv] at hnx;obtain ⟨J,hJ⟩:∃ J,J=Qb.joinL ((lv.map lfX).take i) [44,32]:=⟨_,rfl⟩;rw [<- hJ] at hj hnx ⊢;obtain ⟨P1,hP⟩:∃ P,P=(if 0<i then J++[44,32] else J):=⟨_,rfl⟩;rw [<- hP] at hnx;have lP:P1.length<=200002:=by
    rw [hP]
    by_cases h0:0<i
    ·grind
    grind
   have e0:(bif ltInt 0 (i:Int) then (dA (.val zM2) (rA .add J [44,32]) fun (x6:Bs)=>some (((some (P,0),x6,(i:Int),()):zJ2×zQ2×Int×Unit),h)) else some ((some (P,0),J,(i:Int),()),h))=some ((some (P,0),P1,(i:Int),()),h):=by
    rw [z0,hP]
    by_cases h0:0<i
    ·simp only [h0,decide_true,cond_true,if_true]
     rw [yA (by simp;omega)];rfl
    grind
   rw [e0,aA,yA (by simp;omega)];have hix:∀ {β:Type} (K:Nat×Nat->Option β),ixK rr.lv.a rr.lv.len (i:Int) 2 K=K (rr.lv.at i 2):=fun K=>x.ix q 2 K;obtain ⟨sl,b0,b1,y⟩:=cAp x q hd;simp only [bA,kA,fA,Nat.zero_add,a2,jA,hix];rw [b0];simp only [bA,kA];rw [yA (by simp;omega)];simp only [bA,kA];have lo:=iAj (N:=N) o x q hd (fun y hy=>(uC (hxs.2 y hy)).2) hxs.1 (b:=P1++[39]++nm) (by simp;omega) N 0 (Nat.zero_le _) (by have:=hxs.1;omega);rw [show ((0:Nat):Int)=0 from rfl,show ovT (List.take 0 xs)=[] from rfl,List.append_nil] at lo
   grind [kB,aA,aB,ovT]
  grind
theorem yB6 {lv:List D} (hlv:mJ 64 yJ lv):fB (Qb.joinL (lv.map lfX) [44,32]) []=decide (lv=[]):=by
 cases lv with
 | nil=>rfl
 | cons d r=>
  obtain ⟨nm,xs,hd,_,_⟩:=hlv.2 d (by simp);have h1:lfX d=39::(nm++ovT xs):=by rw [hd,dAv];simp
  have:∃ t,Qb.joinL ((d::r).map lfX) [44,32]=39::t:=by
   rw [List.map_cons,h1]
   cases r with
   | nil=>exact ⟨_,rfl⟩
   | cons e q=>grind [ovT,Qb.joinL,lfX]
  obtain ⟨t,ht⟩:=this;rw [ht];rfl
theorem eAv (b:Bool) (h:Heap):f85 N b h=some (if b=true then [112,117,98,32] else [],h):=by cases b <;> rfl
set_option maxHeartbeats 1000000 in
theorem aB7 (hN:200<=N) (rr:FuR) {lv ps:List D} {ty:D} (hn:eC rr.nm=true) (hlv:mJ 64 yJ lv) (hps:mJ 64 (wE true) ps) (hty:ty=ty0D\/dG 64 ty) (x1:Sl h V rr.lv lv) (x2:Sl h V rr.ps ps) (xt:Dt h V ty (tyc rr.ty)):∃ h',f86 N (fuv rr) h=some (uT rr.pub rr.nm lv ps ty,h')/\Chg [] h h':=by
 have l1:=iD hn;have l2:=cA5 hlv;have l2':=bA5 hlv;have l3:=gL hps;unfold f86;have o:=wA h (fuc rr);have c:=tA h (.row (fuc rr) .own);have e1:h.push (.row (yRD (fuv rr)) .own)=h.push (.row (fuc rr) .own):=rfl
 try dsimp only
 rw [e1];have x1:=x1.chg c (by simp);have x2:=x2.chg c (by simp);have xt:=Dt.chg c (by simp) xt;generalize h.push (.row (fuc rr) .own)=H at *;have e2:=fAe (N:=N) (by omega) (P:=h.next) hlv o x1 N 0 (Nat.zero_le _) (by have:=hlv.1;omega);rw [show ((0:Nat):Int)=0 from rfl,show Qb.joinL ((lv.map lfX).take 0) [44,32]=[] from rfl] at e2;rw [e2,kB];have hX:uT rr.pub rr.nm lv ps ty=(if rr.pub=true then [112,117,98,32] else [])++[102,110,32]++rr.nm++oAp lv++[40]++lM ps++[41]++(if mI ty=0 then [] else [32,45,62,32]++tyX 64 ty):=rfl;have hl:(bif !fB (Qb.joinL (lv.map lfX) [44,32]) [] then (dA (.val zM2) (rA .add [60] (Qb.joinL (lv.map lfX) [44,32])) fun (x46:Bs)=>(dA (.val zM2) (rA .add x46 [62]) fun (x47:Bs)=>some (((some (h.next,0),x47,()):zJ2×zQ2×Unit),H))) else some ((some (h.next,0),Qb.joinL (lv.map lfX) [44,32],()),H))=some ((some (h.next,0),oAp lv,()),H):=by
  rw [yB6 hlv]
  cases lv with
  | nil=>rfl
  | cons d r=>
   simp only [reduceCtorEq,decide_false,Bool.not_false,cond_true];rw [yA (by simp at l2' ⊢;omega)];simp only [bA,kA];rw [yA (by simp at l2' ⊢;omega)];rfl
 rw [hX]
 try dsimp only
 rw [hl,aA];have rd0:∀ {G:Heap},Chg [] H G->G.cell (h.next,0)=some (.bool rr.pub):=fun c=>(o.chg c (by simp)).cell 0;have rd1:∀ {G:Heap},Chg [] H G->G.cell (h.next,1)=some (.str rr.nm):=fun c=>(o.chg c (by simp)).cell 1;have rd3:∀ {G:Heap},Chg [] H G->G.cell (h.next,3)=some (yL rr.ps):=fun c=>(o.chg c (by simp)).cell 3;have rd4:∀ {G:Heap},Chg [] H G->G.cell (h.next,4)=some (.int .i64 rr.ty.1):=fun c=>(o.chg c (by simp)).cell 4;have rd44:∀ {G:Heap},Chg [] H G->G.cells (h.next,4) 4=some (.agg (tyc rr.ty)):=fun c=>(o.chg c (by simp)).cells (j:=4) (m:=4) (show 4+4<=10 by decide);have c0:=Chg.refl [] H;have lp:(if rr.pub=true then [112,117,98,32] else []:Bs).length<=4:=by cases rr.pub <;> simp
 have e85:f85 N rr.pub H=some ((if rr.pub=true then [112,117,98,32] else []:Bs),H):=eAv rr.pub H;generalize (if rr.pub=true then [112,117,98,32] else []:Bs)=W at *;generalize oAp lv=L at *;simp only [fA,Nat.zero_add,Nat.add_zero,rd0 c0,bA,uB];rw [e85,aA,yA (by simp;omega)];simp only [bA,kA,rd1 c0];rw [yA (by simp;omega)];simp only [bA,kA];rw [yA (by simp;omega)];simp only [bA,kA];rw [yA (by simp;omega)];simp only [bA,kA,rd3 c0,jA];obtain ⟨H3,e3,c3⟩:=cAv (N:=N) hN hps x2;have e3':f84 N rr.ps H=some (lM ps,H3):=e3;rw [e3',aA,yA (by simp;omega)];simp only [bA,kA];rw [yA (by simp;omega)];simp only [bA,kA,rd1 c3,rd4 c3,nB,cond_true,qB,vA];have xt3:=Dt.chg c3 (by simp) xt;rcases oAo hty xt3 with ⟨_,z,zk⟩ | ⟨ht,z,zk⟩
 ·rw [z,if_pos zk,List.append_nil]
  exact ⟨H3,rfl,c.trans c3⟩
 ·obtain ⟨H4,e4,c4⟩:=dAe ht (by omega:100<=N) xt3
  have l4:=fL ht;rw [z,if_neg zk];simp only [Bool.not_false,cond_true];rw [yA (by simp;omega)];simp only [bA,kA];rw [rd44 c3,vJ];have e4':f24 N N (rr.ty.1,rr.ty.2.1,rr.ty.2.2.1,rr.ty.2.2.2.1,()) H3=some (tyX 64 ty,H4):=e4;rw [e4',aA,yA (by simp;omega)];refine ⟨H4,?_,(c.trans c3).trans c4⟩;simp
end
end Qp
namespace Qp
section
variable {N:Nat} {h:Heap} {V:Nat->Prop}
set_option maxHeartbeats 2000000 in
theorem vAz (hN:200<=N) {rec134 rec87} {n m o:Nat} {d:D} (hd:bG (n+1) d) (ti:vS (m+1) d) {r:SmV} (pk:PK h) (x:Dt h V d (smx r)) {bl:Nat->List D->Bs}
  (hb:∀ (l:List D) (s:SL) (H:Heap),(l=thD d\/l=elD d)->(mI d=4\/mI d=5\/mI d=6\/mI d=7)->0<n->PK H->Sl H V s l->(bl o l).length<=100000000000/\∃ H',rec87 s (o:Int) H=some (bl o l,H')/\Chg [] H H') :
  ∃ h',gAh N rec134 rec87 r (o:Int) h=some (smX bl o d,h')/\Chg [] h h':=by
 obtain ⟨k,a,mu,nm,ty,hs,pl,va,co,th,el,rfl,hth,hel,hk⟩:=hd;obtain ⟨t1,t2,t3,t4,_⟩:=dY ti;obtain ⟨rt,rp,rv,ro,s1,s2,hc,x1,x2,x3,x4,x5,x6⟩:=iQ t1 t2 t3 t4 x;obtain ⟨rr,hrr⟩:∃ rr:SmR,rr=⟨k,a,mu,nm,rt,hs,rp,rv,ro,s1,s2⟩:=⟨_,rfl⟩;rw [<- hrr] at hc;have hr:r=smv rr:=(cL 1).inj hc;subst hr;unfold gAh;have o1:=wA h (smc rr);have c1:=tA h (.row (smc rr) .own);have e1:h.push (.row (yRA (smv rr)) .own)=h.push (.row (smc rr) .own):=rfl
 try dsimp only
 rw [e1];have x1:=Dt.chg c1 (by simp) x1;have x2:=Dt.chg c1 (by simp) x2;have x3:=Dt.chg c1 (by simp) x3;have x4:=Dt.chg c1 (by simp) x4;have x5:=x5.chg c1 (by simp);have x6:=x6.chg c1 (by simp);have pk:=pk.chg c1;generalize h.push (.row (smc rr) .own)=H at *;have rd:∀ {G:Heap},Chg [] H G->RdS G h.next rr:=fun c=>RdS.of (o1.chg c (by simp));have c0:=Chg.refl [] H;have r0:=rd c0;have k0:H.cell (h.next,0)=some (.int .i64 k):=by have:=r0.k;grind
 have rm:H.cell (h.next,2)=some (.bool mu):=by have:H.cell (h.next,2)=some (.bool rr.m):=o1.cell 2;grind
 have rnm:H.cell (h.next,3)=some (.str nm):=by have:=r0.nm;grind
 have rty:∀ {G:Heap},Chg [] H G->G.cells (h.next,4) 4=some (.agg (tyc rt)):=fun c=>by have:=(rd c).ty;grind
 have rhs:∀ {G:Heap},Chg [] H G->G.cell (h.next,8)=some (.bool hs):=fun c=>by have:=(rd c).has;grind
 have rpl:H.cells (h.next,9) 2=some (.agg (lfc rp)):=by have:=r0.pl;grind
 have rva:∀ {G:Heap},Chg [] H G->G.cells (h.next,11) 15=some (.agg (vac rv)):=fun c=>by have:=(rd c).va;grind
 have rco:∀ {G:Heap},Chg [] H G->G.cells (h.next,26) 4=some (.agg (opc ro)):=fun c=>by have:=(rd c).co;grind
 have rth:∀ {G:Heap},Chg [] H G->G.cell (h.next,30)=some (yL s1):=fun c=>by have:=(rd c).th;grind
 have rel:∀ {G:Heap},Chg [] H G->G.cell (h.next,31)=some (yL s2):=fun c=>by have:=(rd c).el;grind
 clear hrr
 simp only [Nat.add_zero,Nat.zero_add,k0,bA,vA];have sT:mB (some (.agg (tyc rt))) (.agg [(.int .i64 rt.1),(.str rt.2.1),(yL rt.2.2.1),(yL rt.2.2.2.1)])=true:=nB _;have sV:mB (some (.agg (vac rv))) (.agg (yRB rv))=true:=nB _;have sO:mB (some (.agg (opc ro))) (.agg [(.int .i64 ro.1),(.int .i64 ro.2.1),(.str ro.2.2.1),(yL ro.2.2.2.1)])=true:=nB _;have val:∀ {G:Heap},mayVa va->Chg [] H G->∃ H',f178 N (tV rv) G=some (vaX va,H')/\Chg [] G H':=fun hv c=>tAz (N:=N) (by omega) hv (pk.chg c) (Dt.chg c (by simp) x3)
 cases hk with
 | let_ hn ht hv=>
  have ln:=iD hn;have lt:=fL ht;have lv:=aA5 hv;simp only [show eA 1 1=true from rfl,cond_true,rm,bA,uB];obtain ⟨H2,e2,c2⟩:=dAe ht (by omega:100<=N) x1;have e2':f24 N N rt H=some (tyX 64 ty,H2):=e2;have tail:∀ (P:Bs),P.length<=10000->∃ h',(dA (.val zN2) (H2.cell (h.next,8)) fun (x13:Bool)=>(bif x13 then (dA (.val zM2) (rA .add P [32,61,32]) fun (x14:Bs)=>(dA (.val yV) (H2.cells (h.next,11) 15) fun (x15:VaV)=>(mA (f178 N (tV x15) H2) fun (x16:Bs) h17=>(dA (.val zM2) (rA .add x14 x16) fun (x18:Bs)=>(dA (.val zM2) (rA .add x18 [59]) fun (x19:Bs)=>some (x19,h17)))))) else (dA (.val zM2) (rA .add P [59]) fun (x20:Bs)=>some (x20,H2))))=some (P++(if hs=true then [32,61,32]++vaX va else [])++[59],h')/\Chg [] h h':=by
   intro P hP;simp only [rhs c2,bA,uB];rcases hv with ⟨rfl,hv⟩ | ⟨rfl,rfl⟩
   ·have lva:=tG hv
    simp only [cond_true,if_true];rw [yA (by simp;omega)];simp only [bA,kA];rw [rva c2,pN];obtain ⟨H3,e3,c3⟩:=val hv c2;rw [e3,aA,yA (by simp;omega)];simp only [bA,kA];rw [yA (by simp;omega)];refine ⟨H3,?_,(c1.trans c2).trans c3⟩;simp
   ·simp only [cond_false,Bool.false_eq_true,if_false,List.append_nil]
    rw [yA (by simp;omega)];exact ⟨H2,rfl,c1.trans c2⟩
  have hX:smX bl o (smT 1 a mu nm ty hs pl0 va op0 [] [])=kAd mu nm ty hs va:=rfl;rw [hX]
  cases mu with
  | true=>
   simp only [cond_true];rw [yA (by simp)];simp only [bA,kA,rnm];rw [yA (by simp;omega)];simp only [bA,kA];rw [yA (by simp;omega)];simp only [bA,kA];rw [rty c0,vJ,e2',aA,yA (by simp;omega)];simp only [bA,kA,sT,nB,cond_true];have n2:H2.cell (h.next,3)=some (.str nm):=(o1.chg c2 (by simp)).cell 3 |>.trans (o1.cell 3).symm |>.trans rnm;simp only [n2,nB,cond_true,qB];obtain ⟨h',e,c⟩:=tail ([108,101,116,32]++[109,117,116,32]++nm++[58,32]++tyX 64 ty) (by simp;omega);refine ⟨h',?_,c⟩;refine Eq.trans (b:=_) (by exact e) ?_;unfold kAd;simp
  | false=>
   simp only [cond_false,rnm,bA,kA];rw [yA (by simp;omega)];simp only [bA,kA];rw [yA (by simp;omega)];simp only [bA,kA];rw [rty c0,vJ,e2',aA,yA (by simp;omega)];have n2:H2.cell (h.next,3)=some (.str nm):=(o1.chg c2 (by simp)).cell 3 |>.trans (o1.cell 3).symm |>.trans rnm;simp only [bA,kA,n2,sT,nB,cond_true,qB];obtain ⟨h',e,c⟩:=tail ([108,101,116,32]++nm++[58,32]++tyX 64 ty) (by simp;omega);refine ⟨h',?_,c⟩;refine Eq.trans (b:=_) (by exact e) ?_;unfold kAd;simp
 | @set pn xs va hn hx hv=>
  have hp:lH (gD pn (xs.map D.s)):=⟨pn,xs,rfl,hn,hx⟩;have lp:=fH hp;have lva:=tG hv;have hX:smX bl o (smT 2 a false [] ty0D false (gD pn (xs.map D.s)) va op0 [] [])=plX (gD pn (xs.map D.s))++[32,61,32]++vaX va++[59]:=rfl;rw [hX];simp only [show eA 2 1=false from rfl,show eA 2 2=true from rfl,cond_true,cond_false];rw [rpl,jH];obtain ⟨H2,e2,c2⟩:=uA5 (N:=N) (by omega) hp x2;have e2':f179 N (rp.1,rp.2.1,()) H=some (plX (gD pn (xs.map D.s)),H2):=e2;rw [e2',aA,yA (by simp;omega)];simp only [bA,kA];rw [rva c2,pN];obtain ⟨H3,e3,c3⟩:=val hv c2;show ∃ h',(mA (f178 N (tV rv) H2) _)=_/\_;rw [e3,aA,yA (by simp;omega)];simp only [bA,kA];rw [yA (by simp;omega)];have c23:=c2.trans c3;have g1:=rva c0;have g2:=rva c2;have g3:=rva c23;have sP:mB (some (.agg (lfc rp))) (.agg [(.str rp.1),(yL rp.2.1)])=true:=nB _;simp only [bA,kA,g1,sV,sP,cond_true,qB];exact ⟨H3,rfl,c1.trans c23⟩
 | @call cn ag hn ha=>
  have hv:mayVa (vaD 6 op0 op0 0 pl0 cn [] ag):=.call hn ha;have lva:=tG hv;have hX:smX bl o (smT 3 a false [] ty0D false pl0 (vaD 6 op0 op0 0 pl0 cn [] ag) op0 [] [])=vaX (vaD 6 op0 op0 0 pl0 cn [] ag)++[59]:=rfl;rw [hX];simp only [show eA 3 1=false from rfl,show eA 3 2=false from rfl,show eA 3 3=true from rfl,cond_true,cond_false];rw [rva c0,pN];obtain ⟨H3,e3,c3⟩:=val hv c0;show ∃ h',(mA (f178 N (tV rv) H) _)=_/\_;rw [e3,aA,yA (by simp;omega)];exact ⟨H3,rfl,c1.trans c3⟩
 | if_ h0 hc he=>
  have lo:=uD hc;obtain ⟨l1,_⟩:=hb th s1 H (.inl rfl) (.inl rfl) h0 pk x5;obtain ⟨l2,_⟩:=hb el s2 H (.inr rfl) (.inl rfl) h0 pk x6;rw [iL (.inl rfl),if_pos rfl];simp only [show eA 4 1=false from rfl,show eA 4 2=false from rfl,show eA 4 3=false from rfl,show eA 4 4=true from rfl,cond_true,cond_false];rw [rco c0,dH];obtain ⟨H2,e2,c2⟩:=oM (N:=N) (by omega) hc pk x4;have e2':f180 N ro H=some (opX co,H2):=e2;rw [e2',aA,yA (by simp;omega)];simp only [bA,kA];rw [yA (by simp;omega)];simp only [bA,kA,rth c2,jA];obtain ⟨_,H4,e4,c4⟩:=hb th s1 H2 (.inl rfl) (.inl rfl) h0 (pk.chg c2) (x5.chg c2 (by simp));have e4':rec87 s1 (o:Int) H2=some (bl o th,H4):=e4;rw [e4',aA,yA (by simp;omega)];have c24:=c2.trans c4;simp only [bA,kA,rth c0,sO,nB,cond_true,qB,rhs c24,uB]
  cases hs with
  | false=>
   simp only [cond_false,Bool.false_eq_true,and_false,if_false,List.append_nil];exact ⟨H4,rfl,c1.trans c24⟩
  | true=>
   simp only [cond_true,and_self,if_true];rw [yA (by simp;omega)];simp only [bA,kA,rel c24,jA];obtain ⟨_,H5,e5,c5⟩:=hb el s2 H4 (.inr rfl) (.inl rfl) h0 (pk.chg c24) (x6.chg c24 (by simp));have e5':rec87 s2 (o:Int) H4=some (bl o el,H5):=e5;rw [e5',aA,yA (by simp;omega)];refine ⟨H5,?_,(c1.trans c24).trans c5⟩;simp
 | while_ h0 hc=>
  have lo:=uD hc;rw [iL (.inr (.inl rfl)),if_neg (by decide),if_pos rfl,if_neg (by simp),List.append_nil];simp only [show eA 5 1=false from rfl,show eA 5 2=false from rfl,show eA 5 3=false from rfl,show eA 5 4=false from rfl,show eA 5 5=true from rfl,cond_true,cond_false];rw [rco c0,dH];obtain ⟨H2,e2,c2⟩:=oM (N:=N) (by omega) hc pk x4;have e2':f180 N ro H=some (opX co,H2):=e2;rw [e2',aA,yA (by simp;omega)];simp only [bA,kA];rw [yA (by simp;omega)];simp only [bA,kA,rth c2,jA];obtain ⟨l1,H4,e4,c4⟩:=hb th s1 H2 (.inl rfl) (.inr (.inl rfl)) h0 (pk.chg c2) (x5.chg c2 (by simp));have e4':rec87 s1 (o:Int) H2=some (bl o th,H4):=e4;rw [e4',aA,yA (by simp;omega)];have c24:=c2.trans c4;simp only [bA,kA,rth c0,sO,nB,cond_true,qB];exact ⟨H4,rfl,c1.trans c24⟩
 | loop h0=>
  rw [iL (.inr (.inr (.inl rfl))),if_neg (by decide),if_neg (by decide),if_pos rfl,if_neg (by simp),List.append_nil];simp only [show eA 6 1=false from rfl,show eA 6 2=false from rfl,show eA 6 3=false from rfl,show eA 6 4=false from rfl,show eA 6 5=false from rfl,show eA 6 6=true from rfl,cond_true,cond_false,rth c0,bA,jA];obtain ⟨l1,H4,e4,c4⟩:=hb th s1 H (.inl rfl) (.inr (.inr (.inl rfl))) h0 pk x5;have e4':rec87 s1 (o:Int) H=some (bl o th,H4):=e4;rw [e4',aA,yA (by simp;omega)];exact ⟨H4,rfl,c1.trans c4⟩
 | block h0=>
  rw [iL (.inr (.inr (.inr rfl))),if_neg (by decide),if_neg (by decide),if_neg (by decide),if_neg (by simp),List.append_nil,List.nil_append];simp only [show eA 7 1=false from rfl,show eA 7 2=false from rfl,show eA 7 3=false from rfl,show eA 7 4=false from rfl,show eA 7 5=false from rfl,show eA 7 6=false from rfl,show eA 7 7=true from rfl,cond_true,cond_false,rth c0,bA,jA];obtain ⟨l1,H4,e4,c4⟩:=hb th s1 H (.inl rfl) (.inr (.inr (.inr rfl))) h0 pk x5;have e4':rec87 s1 (o:Int) H=some (bl o th,H4):=e4;rw [e4',aA];exact ⟨H4,rfl,c1.trans c4⟩
 | break_=>
  simp only [show eA 8 1=false from rfl,show eA 8 2=false from rfl,show eA 8 3=false from rfl,show eA 8 4=false from rfl,show eA 8 5=false from rfl,show eA 8 6=false from rfl,show eA 8 7=false from rfl,show eA 8 8=true from rfl,cond_true,cond_false];exact ⟨H,rfl,c1⟩
 | cont=>
  simp only [show eA 9 1=false from rfl,show eA 9 2=false from rfl,show eA 9 3=false from rfl,show eA 9 4=false from rfl,show eA 9 5=false from rfl,show eA 9 6=false from rfl,show eA 9 7=false from rfl,show eA 9 8=false from rfl,show eA 9 9=true from rfl,cond_true,cond_false];exact ⟨H,rfl,c1⟩
 | ret hv=>
  simp only [show eA 10 1=false from rfl,show eA 10 2=false from rfl,show eA 10 3=false from rfl,show eA 10 4=false from rfl,show eA 10 5=false from rfl,show eA 10 6=false from rfl,show eA 10 7=false from rfl,show eA 10 8=false from rfl,show eA 10 9=false from rfl,show eA 10 10=true from rfl,cond_true,cond_false,rhs c0,bA,uB];rcases hv with ⟨rfl,hv⟩ | ⟨rfl,rfl⟩
  ·have lva:=tG hv
   simp only [cond_true];rw [rva c0,pN];obtain ⟨H3,e3,c3⟩:=val hv c0;show ∃ h',(mA (f178 N (tV rv) H) _)=_/\_;rw [e3,aA,yA (by simp;omega)];simp only [bA,kA];rw [yA (by simp;omega)];exact ⟨H3,rfl,c1.trans c3⟩
  ·exact ⟨H,rfl,c1⟩
 | drop hp=>
  have lp:=fH hp;simp only [show eA 11 1=false from rfl,show eA 11 2=false from rfl,show eA 11 3=false from rfl,show eA 11 4=false from rfl,show eA 11 5=false from rfl,show eA 11 6=false from rfl,show eA 11 7=false from rfl,show eA 11 8=false from rfl,show eA 11 9=false from rfl,show eA 11 10=false from rfl,cond_false];rw [rpl,jH];obtain ⟨H2,e2,c2⟩:=uA5 (N:=N) (by omega) hp x2;have e2':f179 N (rp.1,rp.2.1,()) H=some (plX pl,H2):=e2;rw [e2',aA,yA (by simp;omega)];simp only [bA,kA];rw [yA (by simp;omega)];exact ⟨H2,rfl,c1.trans c2⟩
end
end Qp
namespace Qp
theorem kAh {C:Nat} {F:D->Bs} {g:D->Nat}:∀ (l:List D),(∀ x∈l,(F x).length<=C * (1+g x))->(l.map F).flatten.length<=C * (l.length+(l.map g).sum)
 | [],_=>by simp
 | x::r,h=>by
  have h1:=h x (by simp);have h2:=kAh r fun y hy=>h y (List.mem_cons_of_mem _ hy)
  grind [List.flatten_cons,List.length_append,List.length_cons,Nat.mul_add]
theorem wAz {n o:Nat} {d:D} (hd:bG (n+1) d) {bl:Nat->List D->Bs} {B:List D->Nat} (hb:∀ l,(l=thD d\/l=elD d)->(bl o l).length<=B l):(smX bl o d).length<=420000+B (thD d)+B (elD d):=by
 obtain ⟨k,a,mu,nm,ty,hs,pl,va,co,th,el,rfl,hth,hel,hk⟩:=hd;have b1:(bl o th).length<=B th:=hb th (.inl rfl);have b2:(bl o el).length<=B el:=hb el (.inr rfl);show (smX bl o (smT k a mu nm ty hs pl va co th el)).length<=420000+B th+B el
 cases hk with
 | let_ hn ht hv=>
  have:=yAg (m:=mu) hn ht hv
  have e:smX bl o (smT 1 a mu nm ty hs pl0 va op0 [] [])=kAd mu nm ty hs va:=rfl;rw [e];omega
 | @set pn xs va hn hx hv=>
  have l1:=fH (d:=gD pn (xs.map D.s)) ⟨pn,xs,rfl,hn,hx⟩;have l2:=tG hv;have e:smX bl o (smT 2 a false [] ty0D false (gD pn (xs.map D.s)) va op0 [] [])=plX (gD pn (xs.map D.s))++[32,61,32]++vaX va++[59]:=rfl
  grind
 | @call cn ag hn ha=>
  have l2:=tG (.call hn ha);have e:smX bl o (smT 3 a false [] ty0D false pl0 (vaD 6 op0 op0 0 pl0 cn [] ag) op0 [] [])=vaX (vaD 6 op0 op0 0 pl0 cn [] ag)++[59]:=rfl
  grind
 | if_ h0 hc he=>
  have lo:=uD hc;rw [iL (.inl rfl),if_pos rfl]
  cases hs with
  | false=>grind
  | true=>simp only [List.length_append,List.length_cons,List.length_nil,and_self,if_true];omega
 | while_ h0 hc=>
  have lo:=uD hc;rw [iL (.inr (.inl rfl)),if_neg (by decide),if_pos rfl,if_neg (by simp)]
  grind [List.length_append,List.length_cons,List.length_nil]
 | loop h0=>
  rw [iL (.inr (.inr (.inl rfl))),if_neg (by decide),if_neg (by decide),if_pos rfl,if_neg (by simp)]
  grind [List.length_append,List.length_cons,List.length_nil]
 | block h0=>
  rw [iL (.inr (.inr (.inr rfl))),if_neg (by decide),if_neg (by decide),if_neg (by decide),if_neg (by simp)]
  grind
 | break_=>
  have e:smX bl o (smT 8 a false [] ty0D false pl0 va00 op0 [] [])=[98,114,101,97,107,59]:=rfl
  grind [List.length_cons,List.length_nil]
 | cont=>
  have e:smX bl o (smT 9 a false [] ty0D false pl0 va00 op0 [] [])=[99,111,110,116,105,110,117,101,59]:=rfl
  grind [List.length_cons,List.length_nil]
 | ret hv=>
  have e:smX bl o (smT 10 a false [] ty0D hs pl0 va op0 [] [])=(if hs=true then [114,101,116,117,114,110,32]++vaX va++[59] else [114,101,116,117,114,110,59]):=rfl;rw [e];rcases hv with ⟨rfl,hv⟩ | ⟨rfl,rfl⟩
  ·have l2:=tG hv
   simp only [List.length_append,List.length_cons,List.length_nil,if_true];omega
  ·simp
   omega
 | drop hp=>
  have l1:=fH hp;have e:smX bl o (smT 11 a false [] ty0D false pl va00 op0 [] [])=[100,114,111,112,32]++plX pl++[59]:=rfl
  grind [List.length_append,List.length_cons,List.length_nil]
theorem vA5:∀ (j:Nat) (l:List D) (o:Nat),(∀ x∈l,bG j x)->o+j<=300->(blX (j+1) o l).length<=500000 * qG j l+700
 | 0,l,o,hm,ho=>by
  have:l=[]:=by
   cases l with
   | nil=>rfl
   | cons y r=>exact (hm y (by simp)).elim
  subst this
  have:=Lib.repeatL_length [9] o
  grind [blX,List.flatten_nil,List.length_append,List.length_cons,List.length_nil]
 | j+1,l,o,hm,ho=>by
  have hX:blX (j+1+1) o l=[123,10]++(l.map fun d=>Lib.repeatL [9] (o+1)++smX (blX (j+1)) (o+1) d++[10]).flatten++Lib.repeatL [9] o++[125]:=rfl;have hf:=kAh (C:=500000) (F:=fun d=>Lib.repeatL [9] (o+1)++smX (blX (j+1)) (o+1) d++[10]) (g:=fun d=>qG j (thD d)+qG j (elD d)) l fun x hx=>by
   have hmx:=hm x hx;have ht:∀ k,(k=thD x\/k=elD x)->∀ y∈k,bG j y:=by
    obtain ⟨k',a,mu,nm,ty,hs,pl,va,co,th,el,rfl,h1,h2,_⟩:=hmx;rintro k (rfl | rfl)
    ·exact h1
    ·exact h2
   have hs:=wAz (o:=o+1) hmx (bl:=blX (j+1)) (B:=fun k=>500000 * qG j k+700) fun k hk=>vA5 j k (o+1) (ht k hk) (by omega)
   grind [Lib.repeatL_length,List.length_append,List.length_cons,List.length_nil]
  have hr:=Lib.repeatL_length [9] o;have hc:qG (j+1) l=l.length+(l.map fun d=>qG j (thD d)+qG j (elD d)).sum:=rfl
  grind
section
variable {N:Nat} {h:Heap} {V:Nat->Prop}
theorem nA9 {F:D->Bs} (l:List D) (i:Nat):((l.take i).map F).flatten.length<=(l.map F).flatten.length:=by
 grind [List.flatten_append,List.take_append_drop,List.length_append]
theorem dAp (hN:1001<=N) {rec134 rec87} {m o:Nat} {l:List D} {T:D->Bs} (ho:o<=400) (hl:l.length<=3000) (ht:∀ x∈l,vS m x) (hT:(l.map fun d=>Lib.repeatL [9] (o+1)++T d++[10]).flatten.length<=100000000000) {s:SL}
  (hF:∀ d∈l,∀ (r:SmV) (h:Heap),PK h->Dt h V d (smx r)->∃ h',rec134 r ((o+1:Nat):Int) h=some (T d,h')/\Chg [] h h') :
  ∀ (M i:Nat) (h:Heap),i<=l.length->l.length-i<M->PK h->Sl h V s l->∃ h',jA9 N rec134 rec87 M s (o:Int) ([123,10]++((l.take i).map fun d=>Lib.repeatL [9] (o+1)++T d++[10]).flatten) (i:Int) h=some (.exit 0,((o:Int),[123,10]++(l.map fun d=>Lib.repeatL [9] (o+1)++T d++[10]).flatten,()),h')/\Chg [] h h':=by
 intro M
 induction M with
 | zero=>intro i h _ hM;omega
 | succ M ih=>
  intro i h hi hM pk x;rw [aAe];unfold pA5;have hv:s.len=l.length:=x.len;have z:ltInt (i:Int) (Int.ofNat s.len)=decide (i<l.length):=by rw [hv];exact rB i _
  simp only [z]
  by_cases q:i<l.length
  ·simp only [q,decide_true,cond_true]
   have hle:=nA9 (F:=fun d=>Lib.repeatL [9] (o+1)++T d++[10]) l (i+1);have hnx:((l.take (i+1)).map fun d=>Lib.repeatL [9] (o+1)++T d++[10]).flatten=((l.take i).map fun d=>Lib.repeatL [9] (o+1)++T d++[10]).flatten++(Lib.repeatL [9] (o+1)++T l[i]++[10]):=by
    grind [List.take_succ_eq_append_getElem,List.flatten_append]
   have hwo:jB .i64 ((o:Int)+1)=((o+1:Nat):Int):=aB (by omega);have hm:=List.getElem_mem q;obtain ⟨r,g,d⟩:=(cL m).elt x q (ht _ hm);obtain ⟨h2,e2,c2⟩:=hF _ hm r h pk d;obtain ⟨h',e',c'⟩:=ih (i+1) h2 q (by omega) (pk.chg c2) (x.chg c2 (by simp));rw [hnx] at e' hle;generalize ((l.take i).map fun d=>Lib.repeatL [9] (o+1)++T d++[10]).flatten=F0 at *;simp only [List.length_append,List.length_cons,List.length_nil] at hle;have hr:=Lib.repeatL_length [9] (o+1);simp only [List.length_cons,List.length_nil] at hr;rw [hwo,aAp (by omega) hN,aA,yA (by grind)];simp only [bA,kA];rw [x.ix q 32,g,gG];have e2':rec134 (tS r) ((o+1:Nat):Int) h=some (T l[i],h2):=e2;show ∃ h',(mA (rec134 (tS r) ((o+1:Nat):Int) h) _)=_/\_;rw [e2',aA,yA (by grind)];simp only [bA,kA];rw [yA (by grind)];have sS:mB (h.cells (s.at i 32) 32) (.agg (yRA r))=true:=by rw [g];exact nB _
   have sZ:mB (some (AV.agg (smx r))) (.agg (yRA r))=true:=nB _;simp only [bA,kA,sZ,cond_true,qB];rw [aB (by omega)];refine ⟨h',?_,c2.trans c'⟩
   grind
  ·simp only [q,decide_false,cond_false]
   rw [List.take_of_length_le (by omega)];exact ⟨h,rfl,Chg.refl _ _⟩
theorem bB7 (hN:3001<=N):∀ (j M o:Nat) (l:List D) (s:SL) (h:Heap),2 * j+1<=M->j+o<=300->(∀ x∈l,bG j x)->(∀ x∈l,vS (j+1) x)->l.length<=3000->qG j l<=100000->PK h->Sl h V s l->∃ h',f87 N M s (o:Int) h=some (blX (j+1) o l,h')/\Chg [] h h':=by
 intro j;have fin:∀ {M o:Nat} {l:List D} {s:SL} {h:Heap} {T:D->Bs} {rec134 rec87} {m:Nat},o<=400->l.length<=3000->(∀ x∈l,vS m x)->((l.map fun d=>Lib.repeatL [9] (o+1)++T d++[10]).flatten.length<=100000000000)->(∀ d∈l,∀ (r:SmV) (h:Heap),PK h->Dt h V d (smx r)->∃ h',rec134 r ((o+1:Nat):Int) h=some (T d,h')/\Chg [] h h')->PK h->Sl h V s l->
   ∃ h',yAs N rec134 rec87 s (o:Int) h=some ([123,10]++(l.map fun d=>Lib.repeatL [9] (o+1)++T d++[10]).flatten++Lib.repeatL [9] o++[125],h')/\Chg [] h h':=by
  intro M o l s h T rec134 rec87 m ho hl ht hT hF pk x;unfold yAs;obtain ⟨h',e,c⟩:=dAp (N:=N) (by omega) (rec134:=rec134) (rec87:=rec87) ho hl ht hT hF N 0 h (Nat.zero_le _) (by omega) pk x;rw [show ((0:Nat):Int)=0 from rfl,show ((l.take 0).map fun d=>Lib.repeatL [9] (o+1)++T d++[10]).flatten=[] from rfl] at e;have e':jA9 N rec134 rec87 N s (o:Int) [123,10] 0 h=_:=e;rw [e',kB]
  try dsimp only
  have hr:=Lib.repeatL_length [9] o;simp only [List.length_cons,List.length_nil] at hr;rw [aAp (by omega) (by omega),aA,yA (by grind)];simp only [bA,kA];rw [yA (by grind)];exact ⟨h',rfl,c⟩
 induction j with
 | zero=>
  intro M o l s h hM ho hm ti hl hc pk x;obtain ⟨M,rfl⟩:∃ m,M=m+1:=⟨M-1,by omega⟩;rw [iAh]
  have:l=[]:=by
   cases l with
   | nil=>rfl
   | cons y r=>exact (hm y (by simp)).elim
  subst this;exact fin (M:=M) (T:=fun _=>[]) (m:=1) (by omega) (by simp) (by simp) (by simp) (by simp) pk x
 | succ j ih=>
  intro M o l s h hM ho hm ti hl hc pk x;obtain ⟨M,rfl⟩:∃ m,M=m+1+1:=⟨M-2,by omega⟩;rw [iAh];have hX:blX (j+1+1) o l=[123,10]++(l.map fun d=>Lib.repeatL [9] (o+1)++smX (blX (j+1)) (o+1) d++[10]).flatten++Lib.repeatL [9] o++[125]:=rfl;have hlen:=vA5 (j+1) l o hm (by omega);rw [hX] at hlen ⊢;refine fin (M:=M) (T:=smX (blX (j+1)) (o+1)) (by omega) hl ti ?_ (fun d hd r h pk dd=>?_) pk x
  ·grind
  ·rw [wAo]
   have hmd:=hm d hd;have tid:=ti d hd;refine vAz (N:=N) (o:=o+1) (by omega) hmd tid pk dd (bl:=blX (j+1)) fun k s2 H hk hkd h0 pk2 x2=>?_;have hcm:=rAo (n:=j) hd;have hcl:qG (j+1) l=l.length+(l.map fun d=>qG j (thD d)+qG j (elD d)).sum:=rfl;obtain ⟨q1,q2,q3⟩:=pA3 hmd tid hk;have hck:qG j k<=100000:=by grind
   refine ⟨?_,ih M (o+1) k s2 H (by omega) (by omega) q1 q2 q3 hck pk2 x2⟩
   grind [vA5]
end
end Qp
namespace Qp
theorem eAp {d:D} (h:mH d):(stX d).length<=410000:=by
 obtain ⟨pub,nm,lv,fs,a,rfl,hn,hlv,hfs⟩:=h;have l1:=gL hfs;have l2:=wY hlv;have l3:=iD hn;have hX:stX (dAb pub nm lv fs a)=(if pub=true then [112,117,98,32] else [])++[115,116,114,117,99,116,32]++nm++aE lv++[32,123,32]++(if lM fs=[] then [] else lM fs++[32])++[125,10]:=by
  show _++_++nm++aE (txS (lv.map D.s))++_++_++_=_;rw [rG]
 rw [hX];have l4:(if pub=true then [112,117,98,32] else []:Bs).length<=4:=by cases pub <;> simp
 have l5:(if lM fs=[] then [] else lM fs++[32]:Bs).length<=400001:=by
  grind
 grind [List.length_append,List.length_cons,List.length_nil]
theorem fAp {d:D} (h:nI d):(fuX d).length<=1001000000:=by
 obtain ⟨pub,nm,lv,ps,ty,bd,a,rfl,hn,hlv,hps,hty,hbd,hct⟩:=h;have l1:=vY (pub:=pub) hn hlv hps hty;have l2:=vA5 64 bd 0 hbd (by omega);have e:fuX (fuT pub nm lv ps ty bd a)=uT pub nm lv ps ty++[32]++blX (64+1) 0 bd++[10]:=rfl
 grind
theorem aJ {F:D->Bs} {B:Nat}:∀ (l:List D),(∀ x∈l,(F x).length<=B)->(l.map F).flatten.length<=l.length * B
 | [],_=>by simp
 | x::r,h=>by
  have h1:=h x (by simp);have h2:=aJ r fun y hy=>h y (List.mem_cons_of_mem _ hy)
  grind [List.flatten_cons,List.length_append,List.length_cons,Nat.succ_mul]
section
variable {N:Nat} {h:Heap} {V:Nat->Prop}
theorem wA5 (hN:3001<=N) {P:Nat} {s1 s2:SL} {xs:List D} (hx:∀ x∈xs,mH x) (hl:xs.length<=256):∀ (M i:Nat) (h:Heap),i<=xs.length->xs.length-i<M->h.own P [SL.av s1,SL.av s2]->Sl h V s1 xs->
  ∃ h',kA9 N M (some (P,0)) ((xs.take i).map stX).flatten (i:Int) h=some (.exit 0,(some (P,0),(xs.map stX).flatten,()),h')/\Chg [] h h':=by
 intro M
 induction M with
 | zero=>intro i h _ h;omega
 | succ M ih=>
  intro i h hi hM o x;rw [cAe];unfold rA5;have rd:h.cell (P,0)=some (yL s1):=o.cell 0;have hv:s1.len=xs.length:=x.len;have z:ltInt (i:Int) (Int.ofNat s1.len)=decide (i<xs.length):=by rw [hv];exact rB i _
  simp only [fA,Nat.zero_add,Nat.add_zero,rd,bA,jA,z]
  by_cases q:i<xs.length
  ·simp only [q,decide_true,cond_true]
   have hm:=List.getElem_mem q;have hix:∀ {β:Type} (K:Nat×Nat->Option β),ixK s1.a s1.len (i:Int) 5 K=K (s1.at i 5):=fun K=>x.ix q 5 K;obtain ⟨r,g,d⟩:=gX.elt x q (cAh (hx _ hm));rw [hix,g,pAw];obtain ⟨h5,p5,c5,o5⟩:=gX.park (z:=stc st0) rfl h r;have p5':∀ {β:Type} (K:Heap->Option β),bB ((h.push (.row [(.bool false),(.str []),(.slice none 0 0 0),(.slice none 0 0 0),(.int .i64 0)] .own)).store (h.next,0) [(.bool r.1),(.str r.2.1),(yL r.2.2.1),(yL r.2.2.2.1),(.int .i64 r.2.2.2.2.1)]) K=K h5:=p5;rw [p5'];have lF:((xs.take i).map stX).flatten.length<=200000000:=by
    have:=aJ (F:=stX) (B:=410000) (xs.take i) fun y hy=>eAp (hx y (List.mem_of_mem_take hy))
    grind
   have hnx:((xs.take (i+1)).map stX).flatten=((xs.take i).map stX).flatten++stX xs[i]:=by
    grind [List.take_succ_eq_append_getElem,List.flatten_append]
   have hsx:=hx _ hm;have nxt:∀ (G:Heap),Chg [] h G->∃ h',kA9 N M (some (P,0)) (((xs.take i).map stX).flatten++stX xs[i]) ((i+1:Nat):Int) G=some (.exit 0,(some (P,0),(xs.map stX).flatten,()),h')/\Chg [] h h':=by
    intro G cG;obtain ⟨h',e',c'⟩:=ih (i+1) G q (by omega) (o.chg cG (by simp)) (x.chg cG (by simp));rw [hnx] at e';exact ⟨h',e',cG.trans c'⟩
   clear hnx
   generalize ((xs.take i).map stX).flatten=F0 at *;generalize xs[i]=y at *;obtain ⟨pub,nm,lv,fs,a,rfl,hn,hlv,hfs⟩:=hsx;obtain ⟨u1,u2,hc,y1,y2⟩:=fX d;obtain rfl:=gX.inj hc;have y1:=y1.chg c5 (by simp);have y2:=y2.chg c5 (by simp);have o3:h5.cell (h.next,3)=some (yL u2):=o5.cell 3;simp only [o3,bA,jA];obtain ⟨h7,e7,c7⟩:=cAv (N:=N) (by omega) hfs y2;have e7':f84 N u2 h5=some (lM fs,h7):=e7;rw [e7',aA];have o7:=o5.chg c7 (by simp);have a0:h7.cell (h.next,0)=some (.bool pub):=o7.cell 0;have a1:h7.cell (h.next,1)=some (.str nm):=o7.cell 1;have a2:h7.cell (h.next,2)=some (yL u1):=o7.cell 2;have e58:f58 N u1 h7=some (aE lv,h7):=uAt (y1.chg c7 (by simp)) hlv.1 hlv.2 (by omega);have l1:=gL hfs;have l2:=wY hlv;have l3:=iD hn;have l4:(if pub=true then [112,117,98,32] else []:Bs).length<=4:=by cases pub <;> simp
   have hX:stX (dAb pub nm lv fs a)=(if pub=true then [112,117,98,32] else [])++[115,116,114,117,99,116,32]++nm++aE lv++[32,123,32]++(if lM fs=[] then [] else lM fs++[32])++[125,10]:=by
    show _++_++nm++aE (txS (lv.map D.s))++_++_++_=_;rw [rG]
   obtain ⟨h',e',c'⟩:=nxt h7 (c5.trans c7);rw [hX] at e';have e85:f85 N pub h7=some ((if pub=true then [112,117,98,32] else []:Bs),h7):=eAv pub h7;generalize (if pub=true then [112,117,98,32] else []:Bs)=W at *;generalize aE lv=Mk at *;refine ⟨h',?_,c'⟩
   by_cases hf:lM fs=[]
   ·have zf:fB (lM fs) []=true:=by rw [hf];rfl
    rw [if_pos hf] at e';simp only [zf,Bool.not_true,cond_false,a0,bA,uB];rw [e85,aA,yA (by omega)];simp only [bA,kA];rw [yA (by simp;omega)];simp only [bA,kA,a1];rw [yA (by simp;omega)];simp only [bA,kA,a2,jA];rw [e58,aA,yA (by simp;omega)];simp only [bA,kA];rw [yA (by simp;omega)];simp only [bA,kA];rw [yA (by simp;omega)];simp only [bA,kA];rw [yA (by simp;omega)];simp only [bA,kA,a1,nB,cond_true,qB]
    grind [aB]
   ·have zf:fB (lM fs) []=false:=by
     cases hq:lM fs with
     | nil=>exact absurd hq hf
     | cons _ _=>rfl
    rw [if_neg hf] at e';simp only [zf,Bool.not_false,cond_true];rw [yA (by simp;omega)];simp only [bA,kA,a0,uB];rw [e85,aA,yA (by omega)];simp only [bA,kA];rw [yA (by simp;omega)];simp only [bA,kA,a1];rw [yA (by simp;omega)];simp only [bA,kA,a2,jA];rw [e58,aA,yA (by simp;omega)];simp only [bA,kA];rw [yA (by simp;omega)];simp only [bA,kA];rw [yA (by simp;omega)];simp only [bA,kA];rw [yA (by simp;omega)];simp only [bA,kA,a1,nB,cond_true,qB]
    grind [aB]
  ·simp only [q,decide_false,cond_false]
   rw [List.take_of_length_le (by omega)];exact ⟨h,rfl,Chg.refl _ _⟩
set_option maxHeartbeats 1000000 in
theorem gAe (hN:3001<=N) {P:Nat} {s1 s2:SL} {ys:List D} (hy:∀ y∈ys,nI y) (hl:ys.length<=256) {S:Bs} (hS:S.length<=200000000):∀ (M i:Nat) (h:Heap),i<=ys.length->ys.length-i<M->PK h->h.own P [SL.av s1,SL.av s2]->Sl h V s2 ys->
  ∃ h',jAh N M (some (P,0)) (S++((ys.take i).map fuX).flatten) (i:Int) h=some (.exit 2,(S++(ys.map fuX).flatten,()),h')/\Chg [] h h':=by
 intro M
 induction M with
 | zero=>intro i h _ h;omega
 | succ M ih=>
  intro i h hi hM pk o x;rw [bAe];unfold qA5;have rd:∀ {G:Heap},Chg [] h G->G.cell (P,1)=some (yL s2):=fun c=>(o.chg c (by simp)).cell 1;have c0:=Chg.refl [] h;have hv:s2.len=ys.length:=x.len;have z:ltInt (i:Int) (Int.ofNat s2.len)=decide (i<ys.length):=by rw [hv];exact rB i _
  simp only [fA,Nat.zero_add,rd c0,bA,jA,z]
  by_cases q:i<ys.length
  ·simp only [q,decide_true,cond_true]
   have hm:=List.getElem_mem q;have his:=fA5 (hy _ hm);have hix:∀ {β:Type} (K:Nat×Nat->Option β),ixK s2.a s2.len (i:Int) 10 K=K (s2.at i 10):=fun K=>x.ix q 10 K;obtain ⟨rv,g,d⟩:=iX.elt x q his;rw [hix,g,qAw];have lF:((ys.take i).map fuX).flatten.length<=257000000000:=by
    have:=aJ (F:=fuX) (B:=1001000000) (ys.take i) fun y hy'=>fAp (hy y (List.mem_of_mem_take hy'))
    grind
   have lfu:=fAp (hy _ hm);have hnx:((ys.take (i+1)).map fuX).flatten=((ys.take i).map fuX).flatten++fuX ys[i]:=by
    grind [List.take_succ_eq_append_getElem,List.flatten_append]
   have hmy:=hy _ hm;have hsz:s2.sz=10:=by
    obtain ⟨cs,e⟩:=x.elt q;obtain ⟨r,hc⟩:=iX.inv his e.dt;rw [<- e.len,hc];rfl
   have parts:∃ u3:SL,h.cell ((s2.at i 10).1,(s2.at i 10).2+8)=some (yL u3)/\(∃ h2,f86 N (tF rv) h=some (hdX ys[i],h2)/\Chg [] h h2/\(hdX ys[i]).length<=700000)/\(∀ G,Chg [] h G->∃ G',f87 N N u3 0 G=some (bdX ys[i],G')/\Chg [] G G'):=by
    obtain ⟨cs,e⟩:=x.elt q;have e8:=e.cell 8 (by rw [hsz];decide);rw [hsz] at e8;have ed:=e.dt;generalize ys[i]=y at *;obtain ⟨pub,nm,lv,ps,ty,bd,a,rfl,hn,hlv,hps,hty,hbd,hct⟩:=hmy;have tt:isTy 65 ty/\bd.length<=3000/\∀ s∈bd,vS 65 s:=by
     obtain ⟨pub',nm',lv',ps',ty',bd',a',e,_,_,_,_,h1,h2,h3⟩:=his;simp only [fuT,D.t.injEq,List.cons.injEq,D.i.injEq,D.b.injEq,D.s.injEq,D.l.injEq,and_true] at e
     grind
    obtain ⟨t1,t2,t3⟩:=tt;obtain ⟨w1,w2,w3,wt,hcw,_,_,_,z3⟩:=cA8 t1 ed;rw [hcw] at e8;refine ⟨w3,e8,?_,fun G cG=>?_⟩
    ·obtain ⟨u1,u2,u3,rt,hc,y1,y2,yt,y3⟩:=cA8 t1 d
     obtain ⟨rr,hrr⟩:∃ rr:FuR,rr=⟨pub,nm,u1,u2,rt,u3,(a:Int)⟩:=⟨_,rfl⟩;rw [<- hrr] at hc;have hr:rv=fuv rr:=iX.inj hc;subst hr;obtain ⟨h2,e2,c2⟩:=aB7 (N:=N) (by omega) rr (lv:=lv) (ps:=ps) (ty:=ty) (by rw [hrr];exact hn) hlv hps hty (by rw [hrr];exact y1) (by rw [hrr];exact y2) (by rw [hrr];exact yt)
     grind [uT,hdX,fuT,vY]
    ·exact bB7 (N:=N) hN 64 N 0 bd w3 G (by omega) (by omega) hbd t3 t2 (by omega) (pk.chg cG) (z3.chg cG (by simp))
   obtain ⟨u3,a8,⟨h2,e2,c2,lhd⟩,hb⟩:=parts;have hfx:fuX ys[i]=hdX ys[i]++[32]++bdX ys[i]++[10]:=rfl;have e2':f86 N rv h=some (hdX ys[i],h2):=e2;have lbd:(bdX ys[i]).length<=1001000000:=by
    grind
   rw [e2',aA,yA (by grind)];simp only [bA,kA];rw [yA (by grind)];simp only [bA,kA,rd c2,jA];have a82:h2.cell ((s2.at i 10).1,(s2.at i 10).2+8)=some (yL u3):=by
    have eq:h2.t.get (s2.at i 10).1=h.t.get (s2.at i 10).1:=c2.g _ (qH x q) (by simp)
    grind [Heap.cell,Heap.row]
   rw [hix,a82];simp only [bA,jA];obtain ⟨h3,e3,c3⟩:=hb h2 c2;have e3':f87 N N u3 0 h2=some (bdX ys[i],h3):=e3;rw [e3',aA,yA (by grind)];simp only [bA,kA];rw [yA (by grind)];have sF:mB (some (AV.agg (fux rv))) (.agg (yRD rv))=true:=nB _;simp only [bA,kA,a8,sF,nB,cond_true,qB];rw [aB (by omega)];have c03:=c2.trans c3;obtain ⟨h',e',c'⟩:=ih (i+1) h3 q (by omega) (pk.chg c03) (o.chg c03 (by simp)) (x.chg c03 (by simp));refine ⟨h',?_,c03.trans c'⟩
   grind
  grind
theorem cB7 (hN:3001<=N) {xs ys:List D} (hx:∀ x∈xs,mH x) (hy:∀ y∈ys,nI y) (hl:xs.length+ys.length<=256) (pk:PK h) {s1 s2:SL} (y1:Sl h V s1 xs) (y2:Sl h V s2 ys):∃ h',f45 N (s1,s2,()) h=some (crX xs ys,h')/\Chg [] h h':=by
 unfold f45;have o:=wA h [SL.av s1,SL.av s2];have c:=tA h (.row [SL.av s1,SL.av s2] .own);have e1:h.push (.row [(yL s1),(yL s2)] .own)=h.push (.row [SL.av s1,SL.av s2] .own):=rfl
 try dsimp only
 rw [e1];have y1:=y1.chg c (by simp);have y2:=y2.chg c (by simp);have pk:=pk.chg c;generalize h.push (.row [SL.av s1,SL.av s2] .own)=H at *;obtain ⟨H1,e2,c1⟩:=wA5 (N:=N) hN (P:=h.next) (s1:=s1) (s2:=s2) hx (by omega) N 0 H (Nat.zero_le _) (by omega) o y1;rw [show ((0:Nat):Int)=0 from rfl,show ((xs.take 0).map stX).flatten=[] from rfl] at e2;rw [e2,kB];have lS:(xs.map stX).flatten.length<=200000000:=by
  have:=aJ (F:=stX) (B:=410000) xs fun y hy=>eAp (hx y hy)
  grind
 obtain ⟨H2,e3,c2⟩:=gAe (N:=N) hN (P:=h.next) (s1:=s1) (s2:=s2) hy (by omega) lS N 0 H1 (Nat.zero_le _) (by omega) (pk.chg c1) (o.chg c1 (by simp)) (y2.chg c1 (by simp));rw [show ((0:Nat):Int)=0 from rfl,show ((ys.take 0).map fuX).flatten=[] from rfl,List.append_nil] at e3
 try dsimp only
 rw [e3,kB];exact ⟨H2,rfl,(c.trans c1).trans c2⟩
end
end Qp
namespace Qp
section
variable {N:Nat} {h:Heap} {V:Nat->Prop}
def jB0 (xs ys:List D):Prop:=xs.length+ys.length<=256/\(∀ x∈xs,mH x)/\∀ y∈ys,nI y
theorem jAj (s1 s2:SL) {β:Type} (K:zO1->Option β):dA (.val zJ) (some (.agg [SL.av s1,SL.av s2])) K=K (s1,s2,()):=by simp [SL.av]
theorem dB7 (hN:3001<=N) {xs ys:List D} (hx:∀ x∈xs,rSt x) (hy:∀ y∈ys,rFu y) (hw:wtL xs+wtL ys<=2000000) (hwN:wtL xs+wtL ys<N) (hno:¬ jB0 xs ys) (pk:PK h) {s1 s2:SL} (y1:Sl h V s1 xs) (y2:Sl h V s2 ys):∃ v h',f16 N (s1,s2,()) h=some (([],v,()),h')/\Chg [] h h'/\FaultAt h' v 1 0:=by
 unfold f16;have o:=wA h [SL.av s1,SL.av s2];have c:=tA h (.row [SL.av s1,SL.av s2] .own);have e1:h.push (.row [(yL s1),(yL s2)] .own)=h.push (.row [SL.av s1,SL.av s2] .own):=rfl;dsimp only;rw [e1];have pk:=pk.chg c;have y1:=y1.chg c (by simp);have y2:=y2.chg c (by simp);generalize h.push (.row [SL.av s1,SL.av s2] .own)=H at *;rw [show H.cells (h.next,0) 2=some (.agg [SL.av s1,SL.av s2]) from o.cells (j:=0) (m:=2) (by simp),jAj];obtain ⟨b,H1,e3,c1,hb⟩:=jAz (N:=N) hN hx hy hw hwN pk y1 y2;have e3':f33 N ((s1,s2,()).1,(s1,s2,()).2.1,()) H=some (b,H1):=e3;rw [e3',aA]
 cases b with
 | true=>exact absurd (hb rfl) hno
 | false=>
  simp only [Bool.not_false,cond_true];obtain ⟨v,h',e,c',f⟩:=cAm N (c:=1) (by decide) 0 H1;rw [e,aA];exact ⟨v,h',rfl,(c.trans c1).trans c',f⟩
theorem yAz (hN:3001<=N) {xs ys:List D} (hx:∀ x∈xs,rSt x) (hy:∀ y∈ys,rFu y) (hw:wtL xs+wtL ys<=2000000) (hwN:wtL xs+wtL ys<N) (pk:PK h) {s1 s2:SL} (y1:Sl h V s1 xs) (y2:Sl h V s2 ys):∃ r h',f17 N (s1,s2,()) h=some (r,h')/\Chg [] h h'/\((¬ jB0 xs ys/\r=([],1,()))\/(jB0 xs ys/\((1048576<(crX xs ys).length/\r=([],5,()))\/((crX xs ys).length<=1048576/\r=(crX xs ys,0,()))))):=by
 unfold f17;have o:=wA h [SL.av s1,SL.av s2];have c:=tA h (.row [SL.av s1,SL.av s2] .own);have e1:h.push (.row [(yL s1),(yL s2)] .own)=h.push (.row [SL.av s1,SL.av s2] .own):=rfl;dsimp only;rw [e1];have pk:=pk.chg c;have y1:=y1.chg c (by simp);have y2:=y2.chg c (by simp);generalize h.push (.row [SL.av s1,SL.av s2] .own)=H at *;rw [show H.cells (h.next,0) 2=some (.agg [SL.av s1,SL.av s2]) from o.cells (j:=0) (m:=2) (by simp),jAj];obtain ⟨b,H1,e3,c1,hb⟩:=mAz (N:=N) hN hx hy hw hwN y1 y2;have e3':f19 N ((s1,s2,()).1,(s1,s2,()).2.1,()) H=some (b,H1):=e3;rw [e3',aA]
 cases b with
 | false=>
  simp only [Bool.not_false,cond_true];exact ⟨_,H1,rfl,c.trans c1,.inl ⟨fun hm=>Bool.noConfusion (hb.2 hm),rfl⟩⟩
 | true=>
  simp only [Bool.not_true,cond_false];have hm:=hb.1 rfl;rw [show H1.cells (h.next,0) 2=some (.agg [SL.av s1,SL.av s2]) from (o.chg c1 (by simp)).cells (j:=0) (m:=2) (by simp),jAj];obtain ⟨H2,e4,c2⟩:=cB7 (N:=N) hN hm.2.1 hm.2.2 hm.1 (pk.chg c1) (y1.chg c1 (by simp)) (y2.chg c1 (by simp));have e4':f45 N ((s1,s2,()).1,(s1,s2,()).2.1,()) H1=some (crX xs ys,H2):=e4;rw [e4',aA];have hlt:ltInt 1048576 (Int.ofNat (crX xs ys).length)=decide (1048576<(crX xs ys).length):=rB 1048576 _;rw [hlt]
  by_cases q:1048576<(crX xs ys).length
  ·rw [decide_eq_true q]
   exact ⟨_,H2,rfl,(c.trans c1).trans c2,.inr ⟨hm,.inl ⟨q,rfl⟩⟩⟩
  ·rw [decide_eq_false q]
   exact ⟨_,H2,rfl,(c.trans c1).trans c2,.inr ⟨hm,.inr ⟨by omega,rfl⟩⟩⟩
theorem aB0 (hN:3001<=N) {xs ys:List D} (hx:∀ x∈xs,rSt x) (hy:∀ y∈ys,rFu y) (hw:wtL xs+wtL ys<=2000000) (hwN:wtL xs+wtL ys<N) {s1 s2:SL} (pk:PK h) (y1:Sl h V s1 xs) (y2:Sl h V s2 ys):∃ h',f3 N (s1,s2,()) h=some (true,h'):=by
 unfold f3;have o:=wA h [SL.av s1,SL.av s2];have c:=tA h (.row [SL.av s1,SL.av s2] .own);have e1:h.push (.row [(yL s1),(yL s2)] .own)=h.push (.row [SL.av s1,SL.av s2] .own):=rfl;dsimp only;rw [e1];have y1:=y1.chg c (by simp);have y2:=y2.chg c (by simp);have pk:=pk.chg c;generalize h.push (.row [SL.av s1,SL.av s2] .own)=H at *;have rd:∀ {G:Heap},Chg [] H G->G.cells (h.next,0) 2=some (.agg [SL.av s1,SL.av s2]):=fun c=>(o.chg c (by simp)).cells (j:=0) (m:=2) (by simp);rw [rd (Chg.refl _ _),jAj];obtain ⟨b1,H1,e1,c1⟩:=nAz (N:=N) (xs:=xs) hN hy hw hwN y1 y2;have e1':f14 N ((s1,s2,()).1,(s1,s2,()).2.1,()) H=some (b1,H1):=e1;rw [e1',aA]
 cases b1 with
 | true=>
  simp only [cond_true];obtain ⟨h',e,_⟩:=yAu hN (pk.chg c1);exact ⟨h',by rw [e];rfl⟩
 | false=>
 simp only [cond_false];rw [rd c1,jAj];have key:∃ r H2,f16 N (s1,s2,()) H1=some (r,H2)/\Chg [] H1 H2/\((¬ jB0 xs ys/\r.1=[]/\FaultAt H2 r.2.1 1 0)\/(jB0 xs ys/\PrA H2 r (crX xs ys))):=by
  by_cases hm:jB0 xs ys
  ·obtain ⟨r,H2,e2,c2,p⟩:=wAu (N:=N) hN hm.2.1 hm.2.2 (fun x hx=>cAh (hm.2.1 x hx)) (fun y hy=>fA5 (hm.2.2 y hy)) hm.1 (pk.chg c1) (y1.chg c1 (by simp)) (y2.chg c1 (by simp))
   grind
  ·obtain ⟨v,H2,e2,c2,f⟩:=dB7 (N:=N) hN hx hy hw hwN hm (pk.chg c1) (y1.chg c1 (by simp)) (y2.chg c1 (by simp))
   grind
 obtain ⟨r,H2,e2,c2,hr⟩:=key;have e2':f16 N ((s1,s2,()).1,(s1,s2,()).2.1,()) H1=some (r,H2):=e2;rw [e2',aA];have c02:=c1.trans c2;rw [rd c02,jAj];obtain ⟨r2,H3,e3,c3,hr2⟩:=yAz (N:=N) hN hx hy hw hwN (pk.chg c02) (y1.chg c02 (by simp)) (y2.chg c02 (by simp));have e3':f17 N ((s1,s2,()).1,(s1,s2,()).2.1,()) H2=some (r2,H3):=e3;rw [e3',aA];obtain ⟨H4,e4,c4⟩:=yAu hN (pk.chg (c02.trans c3));rw [e4,aA];simp only [cond_true];have c24:=c3.trans c4;have same:r.1=r2.1/\f18 N r.2.1 r2.2.1 0 H4=some (true,H4):=by
  rcases hr with ⟨hm,h1,hf⟩ | ⟨hm,hp⟩
  ·rcases hr2 with ⟨_,rfl⟩ | ⟨hm2,_⟩
   ·exact ⟨h1,eAm (e:=some (1,0)) (show FaultAt H4 r.2.1 1 0 from hf.chg c24) (r:=(1,0,())) ⟨rfl,rfl⟩ (by omega)⟩
   ·exact absurd hm2 hm
  ·rcases hr2 with ⟨hm2,_⟩ | ⟨_,h2⟩
   ·exact absurd hm hm2
   ·rcases hp with ⟨pl,rfl⟩ | ⟨pl,pn,pf⟩
    ·rcases h2 with ⟨q,_⟩ | ⟨_,rfl⟩
     ·omega
     ·exact ⟨rfl,eAm (e:=none) (show AV.nilIface=AV.nilIface from rfl) (r:=(0,0,())) ⟨rfl,rfl⟩ (by omega)⟩
    ·rcases h2 with ⟨_,rfl⟩ | ⟨q,_⟩
     ·exact ⟨pn,eAm (e:=some (5,0)) (show FaultAt H4 r.2.1 5 0 from pf.chg c24) (r:=(5,0,())) ⟨rfl,rfl⟩ (by omega)⟩
     ·omega
 obtain ⟨h1,h2⟩:=same;rw [show fB r.1 r2.1=true from by rw [h1];exact eqB.2 rfl];simp only [cond_true];rw [h2,aA];exact ⟨H4,rfl⟩
end
end Qp
open Go.ChangeShapes Go.WideShapes
namespace Qv
def h0 (m:Int):Heap:={ t:=Tr.set (Tr.set .nil 4 (.row [.int .i64 m] .ro)) 5 (.row Qb.tab .ro),next:=6,pins:=[(4,Qk.gB0),(5,Qb.tabLoc)] }
def mu0:Mu:=fun A=>if A=4 then some Qk.gB0 else if A=5 then some Qb.tabLoc else none
theorem mu0_inv {A:Nat} {q:Ai.Loc} (h:mu0 A=some q):(A=4/\q=Qk.gB0)\/(A=5/\q=Qb.tabLoc):=by
 unfold mu0 at h
 grind
theorem oW {m:Int} {A:Nat} {b:Blk} (h:(h0 m).t.get A=some b):(A=4/\b=.row [.int .i64 m] .ro)\/(A=5/\b=.row Qb.tab .ro):=by
 rcases Tr.get_set h with h | ⟨_,h⟩
 ·exact .inr h
 ·rcases Tr.get_set h with h | ⟨_,h⟩
  ·exact .inl h
  ·simp [Tr.get_nil] at h
theorem eB7 {m:Int} {A:Nat} {b:Blk} (h:(h0 m).t.get A=some b):∃ cs,b=.row cs .ro:=by
 rcases oW h with ⟨_,rfl⟩ | ⟨_,rfl⟩ <;> exact ⟨_,rfl⟩
theorem h0_rof {m:Int}:Rof (h0 m):=by
 refine ⟨fun A b hA=>eB7 hA,fun A hA=>?_⟩
 cases hb:(h0 m).t.get A with
 | none=>rfl
 | some b=>
  have h1:(6:Nat)<=A:=hA;rcases oW hb with ⟨h,_⟩ | ⟨h,_⟩ <;> omega
theorem hr_of {w:World} (ht:Lib.TabIs Tryz.prog w "internal/strconv.uint64pow10" .u64 Lib.pow10Tab) {m:Int} {e0:TypeId} (hsh:w.shape? 0=some (e0,1)) (hc:w.cell? ⟨0,0,none⟩=some (.int .i64 m)):HR mu0 (h0 m) w:=by
 unfold Lib.TabIs World.var? at ht;rw [Qb.gTab_is] at ht;have ht:(match w.heap[Qb.gTab]? with | some (.cells cs _ _)=>some cs | _=>none)=some ((Lib.pow10Tab.map fun z=>Value.int .u64 z).toArray):=ht
 cases hq:w.heap[Qb.gTab]? with
 | none=>rw [hq] at ht;cases ht
 | some o=>
  rw [hq] at ht
  cases o with
  | cells cs e fz=>
   simp only [Option.some.injEq] at ht;subst ht;have hl:=Lib.pow10Tab_length;refine ⟨?_,?_,?_,?_⟩
   ·intro A l hA
    rcases mu0_inv hA with ⟨rfl,rfl⟩ | ⟨rfl,rfl⟩
    ·refine ⟨by show 4<6;omega,?_⟩
     unfold World.shape? at hsh
     cases hq0:w.heap[0]? with
     | none=>grind
     | some o=>exact (Array.getElem?_eq_some_iff.1 hq0).1
    ·exact ⟨by show 5<6;omega,(Array.getElem?_eq_some_iff.1 hq).1⟩
   ·intro A B la lb ba bb hA hB gA gB _ _ hne hb
    have ro:∀ {C:Nat} {c:Blk},(h0 m).t.get C=some c->c.isRo=true:=fun g=>by
     obtain ⟨cs,rfl⟩:=eB7 g;rfl
    grind
   ·intro A l b hA hb
    rcases mu0_inv hA with ⟨rfl,rfl⟩ | ⟨rfl,rfl⟩
    ·rcases oW hb with ⟨_,rfl⟩ | ⟨h,_⟩
     ·refine ⟨⟨e0,hsh⟩,Nat.le_refl _,fun i x hx=>?_⟩
      cases i with
      | zero=>
       have:x=.int .i64 m:=by simpa using hx.symm
       subst this;exact ⟨_,hc,by simp only [VR]⟩
      | succ i=>simp at hx
     ·cases h
    ·rcases oW hb with ⟨h,_⟩ | ⟨_,rfl⟩
     ·cases h
     ·refine ⟨⟨e,?_⟩,?_,?_⟩
      ·grind [Qb.gTab,World.shape?,Qb.tabLoc]
      ·show 0+Qb.tab.length<=20
       rw [Qb.tab_len];omega
      ·intro i x hx
       refine ⟨.int .u64 (Lib.pow10Tab.getD i 0),?_,?_⟩
       ·show w.cell? ⟨Qb.gTab,0+i,none⟩=_
        have hi:i<20:=by grind [List.getElem?_eq_some_iff,Qb.tab_len]
        simp only [World.cell?,hq,Option.isSome_none,Bool.false_eq_true,if_false,Nat.zero_add];simp [hl,hi]
       ·unfold Qb.tab at hx
        grind [Lib.pow10Tab,Option.some.injEq,VR]
   ·intro x hx
    simp only [h0,List.mem_cons,List.not_mem_nil,or_false] at hx;rcases hx with rfl | rfl <;> rfl
  | _=>cases ht
end Qv
namespace Qp
open Go.Proofs.YtkcjphhjmlienaaGreatDoor
theorem fB7:(Tryz.prog.globals[Qb.gTab]?).map (·.type)=some 264:=by kernel_rfl
theorem gB7:∃ e,Tryz.prog.underlying 264=some (.array 20 e)/\Tryz.prog.underlying e=some (.int .u64)/\Tryz.prog.cellsOf e=1:=by
 have:(match Tryz.prog.underlying 264 with | some (.array n e)=>Nat.beq n 20&&(match Tryz.prog.underlying e with | some (.int .u64)=>Nat.beq (Tryz.prog.cellsOf e) 1 | _=>false) | _=>false)=true:=by kernel_rfl
 split at this
 ·rename_i n e hu
  simp only [Bool.and_eq_true] at this;obtain ⟨h1,h2⟩:=this;have hn:n=20:=Nat.eq_of_beq_eq_true h1;subst hn
  split at h2
  ·rename_i he
   exact ⟨e,hu,he,Nat.eq_of_beq_eq_true h2⟩
  ·cases h2
 ·cases this
theorem bAt:Tryz.prog.cellsOf 264=20:=by kernel_rfl
theorem iB7:Tryz.prog.globals.size=7:=by kernel_rfl
theorem yA5 {P:Program} {w:World} {g:Nat} {t:TypeId} {zero:Array Value} {k:IntKind} (h:w.ShapedOpen P) (hg:g<P.globals.size)
  (h0:((begin P (fun _ _=>0) default).world.heap[g]?).bind Obj.row? = some (zero,t)) (hz:zero.size=1)
  (hb:P.buildable t=true) (hc:P.cellTypes P.depth t=some [t]) (hu:P.underlying t=some (.int k)):(∃ n,w.cell? ⟨g,0,none⟩=some (.int k n))/\∃ e,w.shape? g=some (e,1):=by
 obtain ⟨cs,hh,hs,hr⟩:=h.1 g zero t hg h0;obtain ⟨ts,hts,_,hall⟩:=hr hb;rw [hc] at hts;cases hts;have h1:0<cs.size:=by omega
 obtain ⟨u,hu',hok⟩:=hall 0 cs[0] (by simp [h1])
 have:u=t:=by simpa using hu'.symm
 subst this;have hcell:w.cell? ⟨g,0,none⟩=some cs[0]:=by simp [World.cell?,hh,h1]
 refine ⟨?_,u,?_⟩
 ·rw [hcell]
  unfold Cell.ok at hok
  grind
 grind [World.shape?]
def fBc (W:World):Int:=match W.cell? ⟨0,0,none⟩ with
 | some (.int _ m)=>m
 | _=>0
end Qp
namespace Qp
open Go.Proofs.YtkcjphhjmlienaaGreatDoor
theorem jB7 {W:World} (h:laidMetH Tryz.prog Rows.printTextsUptoRow.laid W):Lib.TabIs Tryz.prog W "internal/strconv.uint64pow10" .u64 Lib.pow10Tab:=by
 rw [MakeChecks.laidMetH_plain _ _ _ (by kernel_rfl)] at h;obtain ⟨ps,⟨_,_,_,_,_,_,_,_,_,_,⟨_,_,_,_,_,_,_,_,_,_,⟨g',t',cs,fuel,p,q,hg',ht',hvar,hd,_,_⟩,_⟩,_⟩,_⟩:=h;obtain rfl:=Option.some.inj (Qb.gTab_is.symm.trans hg');obtain rfl:=Option.some.inj (fB7.symm.trans ht');obtain ⟨e,hu,he,hce⟩:=gB7;unfold Lib.TabIs;rw [hvar]
 have:=Lib.cells_of_tab (k:=.u64) (zs:=Lib.pow10Tab) hu he hce bAt hd
 rw [<- this]
theorem start_hr7 {W:World} (h:laidMetH Tryz.prog Rows.printTextsUptoRow.laid W) (hs:W.ShapedOpen Tryz.prog):HR Qv.mu0 (Qv.h0 (fBc W)) W:=by
 obtain ⟨⟨m,hm⟩,e,he⟩:=yA5 (P:=Tryz.prog) (g:=0) (t:=3) (k:=.i64) (zero:=#[.int .i64 0]) hs (by rw [iB7];omega) (by kernel_rfl) rfl (by kernel_rfl) (by kernel_rfl) Tryz.underlying3;have em:fBc W=m:=by unfold fBc;rw [hm]
 rw [em];exact Qv.hr_of (jB7 h) he hm
theorem start_pinned7 {m:Int} {h:Heap} (hl:HLe (Qv.h0 m) h):Qk.pinned h=true/\(6<=h.next/\(5,Qb.tabLoc)∈h.pins/\h.t.get 5=some (.row Qb.tab .ro)):=by
 have g4:h.t.get 4=some (.row [.int .i64 m] .ro):=hl.get 4 _ rfl;have g5:h.t.get 5=some (.row Qb.tab .ro):=hl.get 5 _ rfl;refine ⟨?_,hl.next,by rw [hl.pins];exact List.mem_cons_of_mem _ (List.mem_singleton.2 rfl),g5⟩;unfold Qk.pinned;rw [hl.pins,g4];rfl
theorem textsprint_true {H:Type} (h:Heap) (hp:Qk.pinned h=true) (h2:6<=h.next/\(5,Qb.tabLoc)∈h.pins/\h.t.get 5=some (.row Qb.tab .ro)) (vs:List AV) (ds:List (DataW H)) (hb:Rows.uptoBulkAll ds<=1048576) (hr:RdArgs Tryz.prog h [25] vs ds):∃ xs h',VTy.tos [zJ] xs=vs/\(fun (x:nF [zJ]) h=>f3 3000000 x.1 h) xs h=some (true,h'):=by
 obtain ⟨cs1,d1,vs1,ds1,rfl,rfl,r1,hr⟩:=hr.cons_inv;obtain ⟨rfl,rfl⟩:=hr.nil_inv;simp only [Rows.uptoBulkAll] at hb;obtain ⟨y,y1,y2,y3,_⟩:=rB9 rBb r1 (by simp);obtain ⟨xs,ys,rfl,hx,hy⟩:=pBe y1;have hw:wtL xs+wtL ys<wtD (crD xs ys):=by simp only [crD,wtD,wtL];omega
 simp only [crD,Dt,Dp] at y2;obtain ⟨_,_,rfl,z1,_,_,rfl,z2,rfl⟩:=y2;obtain ⟨s1,rfl,x1⟩:=cA3 z1;obtain ⟨s2,rfl,x2⟩:=cA3 z2;obtain ⟨h',e⟩:=aB0 (N:=3000000) (by decide) hx hy (by omega) (by omega) ⟨hp,h2⟩ x1 x2;refine ⟨((s1,s2,()),()),h',?_,e⟩;rw [nA7 bBd];rfl
end Qp
end Go.Proofs.YtkcjphhjmlienaaGreatDoor
