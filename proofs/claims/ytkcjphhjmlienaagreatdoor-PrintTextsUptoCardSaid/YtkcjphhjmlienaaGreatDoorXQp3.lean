import Derived.Test.YtkcjphhjmlienaaGreatDoorXQp2
import Derived.Lib.IndexMore
import Derived.Test.YtkcjphhjmlienaaGreatDoorXQp1
import Derived.Lib.ItoaLen
/- Functions of the program as plain functions, and what they come to; part 3. -/
namespace Go.Proofs.YtkcjphhjmlienaaGreatDoor
set_option linter.unusedVariables false
set_option linter.unusedSimpArgs false
set_option maxRecDepth 20000
open Go Ai Go.Proofs
namespace Qp
theorem oAg {t:Bs}:∀ {l:List Bs},tA2 t l=true->t∈l
 | [],h=>by cases h
 | w::r,h=>by
  unfold tA2 at h
  cases e:fB t w with
  | true=>rw [uE] at e;grind
  | false=>rw [e] at h;exact List.mem_cons_of_mem _ (oAg h)
theorem dAo {s:Bs} (h:isWord s=true):oD s=true:=by
 have hm:=oAg h
 have:∀ w∈rA2,oD w=true:=by decide
 exact this s hm
section
variable {N:Nat} {h:Heap} {V:Nat->Prop}
theorem pAg (hN:40<=N) (s:Bs) (h:Heap):f122 N s h=some (oD s,h):=by
 cases hs:oD s with
 | true=>exact bAc hN hs h
 | false=>
  unfold f122;rw [tD hN,aA];unfold eC;rw [hs,Bool.false_and,cAb]
  cases hw:isWord s with
  | false=>rfl
  | true=>rw [dAo hw] at hs;cases hs
theorem eAd (hN:40<=N) {s:SL} {xs:List Bs} (x:Sl h V s (xs.map D.s)) (hl:xs.length<=2000000):∀ (M i:Nat),i<=xs.length->xs.length-i<M->(∀ j,(hj:j<xs.length)->j<i->oD xs[j]=true)->
  ∃ o b,lX N M s false s (xs.length:Int) (i:Int) h=some (o,(s,b,()),h)/\((o=.exit 0/\∀ y∈xs,oD y=true)\/(o=.ret/\b=false)):=by
 intro M
 induction M with
 | zero=>intro i _ h;omega
 | succ M ih=>
  intro i hi hM hp;rw [wS];unfold lQ;simp only [rB]
  by_cases q:i<xs.length
  ·simp only [q,decide_true,cond_true]
   have q':i<(xs.map D.s).length:=by grind
   have hl1:s.len=xs.length:=by rw [x.len,List.length_map]
   rw [x.ix q' 1,vE x q];simp only [bA,kA];rw [pAg hN,aA]
   cases hn:oD xs[i] with
   | false=>
    simp only [Bool.not_false,cond_true];exact ⟨_,_,rfl,.inr ⟨rfl,rfl⟩⟩
   | true=>
    simp only [Bool.not_true,cond_false]
    grind [aB]
  ·simp only [q,decide_false,cond_false]
   exact ⟨_,_,rfl,.inl ⟨rfl,fun y hy=>by
    obtain ⟨j,hj,rfl⟩:=List.getElem_of_mem hy
    grind⟩⟩
theorem vU (hN:200<=N) {s:SL} {xs:List Bs} (x:Sl h V s (xs.map D.s)) (hl:xs.length<=2000000) (hlN:xs.length<N):∃ b,f120 N s h=some (b,h)/\(b=true->lAr 64 xs):=by
 unfold f120;have l1:s.len=xs.length:=by rw [x.len,List.length_map]
 obtain ⟨o,b,e,hh⟩:=eAd (N:=N) (by omega) x hl N 0 (Nat.zero_le _) (by omega) fun j _ h=>by omega
 rw [show ((0:Nat):Int)=0 from rfl] at e;rw [l1,show Int.ofNat xs.length=(xs.length:Int) from rfl,e,kB];rcases hh with ⟨rfl,hh⟩ | ⟨rfl,rfl⟩
 ·simp only [bC,decide_true,cond_true]
  have z:wB (Int.ofNat s.len) 64=decide (xs.length<=64):=by rw [l1];exact lL _ 64
  rw [z];exact ⟨_,rfl,fun hd=>⟨of_decide_eq_true hd,hh⟩⟩
 ·exact ⟨_,rfl,fun h=>by cases h⟩
theorem qAg (hN:40<=N) {x:Bs} (hx:x.length<=2000000) (pk:PK h):∃ b,f173 N x h=some (b,h)/\(b=true->nL x):=by
 have hb:(Qk.pinned h&&Nat.blt x.length 4294967281)=true:=by
  rw [pk.1,Bool.true_and,Nat.blt_eq];omega
 unfold f173 f196 Qk.iB0;rw [hb,cond_true,aA];simp only [tD hN,aA]
 cases h1:eC (Lib.cut x [58,58]).1 with
 | false=>grind
 | true=>
  simp only [cond_true]
  cases h2:(Lib.cut x [58,58]).2.2 with
  | false=>
   refine ⟨_,rfl,fun _=>.inl ?_⟩;unfold Lib.cut at h1 h2
   grind
  | true=>
   refine ⟨_,rfl,fun h3=>?_⟩;rcases Lib.index_spec x [58,58] with ⟨e,_⟩ | ⟨i,e,hi,ho,_⟩
   ·grind [Lib.cut]
   ·have hc:Lib.cut x [58,58]=(x.take i,x.drop (i+2),true):=by
     unfold Lib.cut
     grind
    rw [hc] at h1 h3;refine .inr ⟨x.take i,x.drop (i+2),?_,h1,h3⟩;have hd:(x.drop i).take 2=[58,58]:=by
     unfold Lib.occAt at ho;obtain ⟨t,ht⟩:=List.isPrefixOf_iff_prefix.1 ho;rw [<- ht];rfl
    grind [List.append_assoc,List.drop_drop,List.take_append_drop]
theorem rAg (r:TyV) (h:Heap):∃ h',f123 N r h=some (zB r.2.1&&(zN r.2.2.1&&zN r.2.2.2.1),h')/\Chg [] h h':=by
 unfold f123;have o:=wA h (tyc r);have c:=tA h (.row (tyc r) .own);have e1:h.push (.row [(.int .i64 r.1),(.str r.2.1),(yL r.2.2.1),(yL r.2.2.2.1)] .own)=h.push (.row (tyc r) .own):=rfl;dsimp only;rw [e1];generalize h.push (.row (tyc r) .own)=H at *;have a1:H.cell (h.next,1)=some (.str r.2.1):=o.cell 1;have a2:H.cell (h.next,2)=some (yL r.2.2.1):=o.cell 2;have a3:H.cell (h.next,3)=some (yL r.2.2.2.1):=o.cell 3;simp only [Nat.zero_add,a1,a2,a3,bA,kA,jA]
 grind [zB,zN]
theorem iAs (hN:200<=N):∀ (g M:Nat) (h:Heap) (r:TyV) (x:D) (V:Nat->Prop),g<M->g<=64->wtD x<=2000000->wtD x<N->Wt Tryz.prog x 41->PK h->Dt h V x (tyc r)->∃ b h',f124 N M r ((65-g:Nat):Int) h=some (b,h')/\Chg [] h h'/\(b=true->dG g x):=by
 intro g
 induction g with
 | zero=>
  intro M h r x V hM hg hw hwN ht pk hd;obtain ⟨M,rfl⟩:∃ m,M=m+1:=⟨M-1,by omega⟩;rw [mX];unfold dA8;rw [show ltInt 64 ((65-0:Nat):Int)=true from rfl];exact ⟨_,_,rfl,tA _ _,fun h=>by cases h⟩
 | succ g ih=>
  intro M h r x V hM hg hw hwN ht pk hd;obtain ⟨M,rfl⟩:∃ m,M=m+1:=⟨M-1,by omega⟩;rw [mX];unfold dA8;obtain ⟨k,nm,lv,el,rfl,_,_,_,_,helt,_⟩:=kU ht;obtain ⟨s1,s2,hc,l1,t1⟩:=qF.1 hd;have er:=bX hc;subst er;have o1:=wA h (tyc (k,nm,s1,s2,()));have c1:=tA h (.row (tyc (k,nm,s1,s2,())) .own);have g1:h.push (.row [(.int .i64 (k,nm,s1,s2,()).1),(.str (k,nm,s1,s2,()).2.1),(.slice (k,nm,s1,s2,()).2.2.1.a (k,nm,s1,s2,()).2.2.1.len (k,nm,s1,s2,()).2.2.1.cap (k,nm,s1,s2,()).2.2.1.sz),(.slice (k,nm,s1,s2,()).2.2.2.1.a (k,nm,s1,s2,()).2.2.2.1.len (k,nm,s1,s2,()).2.2.2.1.cap (k,nm,s1,s2,()).2.2.2.1.sz)] .own)=h.push (.row (tyc (k,nm,s1,s2,())) .own):=rfl;rw [g1];have pk1:=pk.chg c1;generalize h.push (.row (tyc (k,nm,s1,s2,())) .own)=h1 at *;have z:ltInt 64 ((65-(g+1):Nat):Int)=false:=by
   rw [show (64:Int)=((64:Nat):Int) from rfl,rB,decide_eq_false_iff_not];omega
  dsimp only;rw [z];have a0:h1.cell (h.next,0)=some (.int .i64 k):=o1.cell 0;have a1:h1.cell (h.next,1)=some (.str nm):=o1.cell 1;have a2:h1.cell (h.next,2)=some (yL s1):=o1.cell 2;have a3:h1.cell (h.next,3)=some (yL s2):=o1.cell 3;have aa:h1.cells (h.next,0) 4=some (.agg (tyc (k,nm,s1,s2,()))):=o1.cells (j:=0) (m:=4) (Nat.le_refl _);have l1':=l1.chg c1 (by simp);have t1':=t1.chg c1 (by simp);have hl1:s1.len=lv.length:=by rw [l1.len,List.length_map]
  have hlv:lv.length<=wtD (tyD k nm lv el):=by
   grind [nC,List.length_map,tyD,wtD,wtL]
  obtain ⟨w1,w2⟩:=tAt k nm lv el;simp only [cond_false,Nat.add_zero,Nat.zero_add,a0,bA,vA,eqI]
  by_cases k3:k=3
  ·simp only [k3,decide_true,cond_true,a1,bA,kA]
   obtain ⟨b,e21,p21⟩:=qAg (N:=N) (h:=h1) (x:=nm) (by omega) (by omega) pk1;rw [e21,aA]
   cases b with
   | false=>grind
   | true=>
    simp only [cond_true,a2,bA,jA];obtain ⟨b,e47,p47⟩:=vU (N:=N) hN l1' (by omega) (by omega);have e47':f120 N s1 h1=some (b,h1):=e47;rw [e47',aA]
    cases b with
    | false=>grind
    | true=>
     simp only [cond_true,a3,bA,jA,<- eqI];refine ⟨_,_,rfl,c1,fun hb=>?_⟩;rw [yB7 t1.len hb];exact ⟨.st nm lv,rfl,p21 rfl,(p47 rfl).1,(p47 rfl).2⟩
  ·simp only [k3,decide_false,cond_false]
   by_cases k45:k=4\/k=5
   ·have base:(mA (α:=zJ1) (bif decide (k=4) then some ((((65-(g+1):Nat):Int),(some (h.next,0)),k,decide (k=4),()),h1) else some ((((65-(g+1):Nat):Int),(some (h.next,0)),k,decide (k=5),()),h1))=mA (α:=zJ1) (β:=Bool×Heap) (some ((((65-(g+1):Nat):Int),(some (h.next,0)),k,true,()),h1))):=by
     grind
    rw [base];simp only [aA,cond_true,fA,Nat.zero_add,a1,a2,bA,kA,jA]
    cases e1:fB nm [] with
    | false=>grind
    | true=>
     simp only [cond_true];have z1:wB (Int.ofNat s1.len) 1=decide (lv.length<=1):=by rw [hl1];exact lL _ 1
     rw [z1]
     by_cases q1:lv.length<=1
     ·simp only [q1,decide_true,cond_true]
      obtain ⟨b,e47,p47⟩:=vU (N:=N) hN l1' (by omega) (by omega);have e47':f120 N s1 h1=some (b,h1):=e47;rw [e47',aA]
      cases b with
      | false=>grind
      | true=>
       simp only [cond_true,a3,bA,jA];have z2:decide (Int.ofNat s2.len=1)=decide (el.length=1):=by
        rw [t1.len]
        grind
       rw [z2]
       by_cases q2:el.length=1
       ·simp only [q2,decide_true,cond_true]
        obtain ⟨e,rfl⟩:∃ e,el=[e]:=List.length_eq_one_iff.1 q2;have hte:=helt e (by simp);obtain ⟨r',er',dr'⟩:=nAy.elt t1' (i:=0) (by simp) (bB8 hte);have hix:∀ {β:Type} (K:Nat×Nat->Option β),ixK s2.a s2.len 0 4 K=K (s2.at 0 4):=fun K=>t1'.ix (i:=0) (by simp) 4 K;rw [hix,er',vJ,aB (by omega),show 65-(g+1)+1=65-g by omega];have hwe:wtD e<wtD (tyD k nm lv [e]):=by simp only [wtL] at w2;omega
        obtain ⟨b,h52,e52,c52,p52⟩:=ih M h1 r' e V (by omega) (by omega) (by omega) (by omega) hte pk1 dr';show ∃ b h',(mA (f124 N M r' ((65-g:Nat):Int) h1) _)=_/\_;rw [e52,aA];refine ⟨_,_,rfl,c1.trans c52,fun hb=>?_⟩;obtain ⟨p,hp1,hp2⟩:=p52 hb;rw [eqB.1 e1,hp1];rcases k45 with rfl | rfl
        ·exact ⟨.ref false lv p,rfl,q1,(p47 rfl).2,hp2⟩
        ·exact ⟨.ref true lv p,rfl,q1,(p47 rfl).2,hp2⟩
       grind
     grind
   ·have k4:¬ k=4:=fun e=>k45 (.inl e)
    have k5:¬ k=5:=fun e=>k45 (.inr e);simp only [k4,k5,decide_false,cond_false,aA]
    by_cases k12:k=1\/k=2
    ·have base:(mA (α:=zY) (bif decide (k=1) then some (((some (h.next,0)),decide (k=1),()),h1) else some (((some (h.next,0)),decide (k=2),()),h1))=mA (α:=zY) (β:=Bool×Heap) (some (((some (h.next,0)),true,()),h1))):=by
      grind
     rw [base];simp only [aA,cond_true,fA];rw [aa,vJ];obtain ⟨h2,e2,c2⟩:=rAg (N:=N) (k,nm,s1,s2,()) h1;have e2':f123 N ((k,nm,s1,s2,()):TyV) h1=some (zB nm&&(zN s1&&zN s2),h2):=e2;show ∃ b h',(mA (f123 N ((k,nm,s1,s2,()):TyV) h1) _)=_/\_;rw [e2',aA];refine ⟨_,_,rfl,c1.trans c2,fun hb=>?_⟩;simp only [Bool.and_eq_true] at hb;obtain ⟨b1,b2,b3⟩:=hb;have b2:=iF.1 b2;have b3:=iF.1 b3;rw [hl1] at b2;rw [t1.len] at b3;rw [tA8.1 b1,List.length_eq_zero_iff.1 b2,List.length_eq_zero_iff.1 b3];rcases k12 with rfl | rfl
     ·exact ⟨.int,rfl,trivial⟩
     ·exact ⟨.bool,rfl,trivial⟩
    ·have k1:¬ k=1:=fun e=>k12 (.inl e)
     have k2:¬ k=2:=fun e=>k12 (.inr e);simp only [k1,k2,decide_false,cond_false,aA];exact ⟨_,_,rfl,c1,fun h=>by cases h⟩
theorem wU (hN:200<=N) {r:TyV} {x:D} (hw:wtD x<=2000000) (hwN:wtD x<N) (ht:Wt Tryz.prog x 41) (pk:PK h) (hd:Dt h V x (tyc r)):∃ b h',f124 N N r 1 h=some (b,h')/\Chg [] h h'/\(b=true->dG 64 x):=iAs hN 64 N h r x V (by omega) (Nat.le_refl _) hw hwN ht pk hd
theorem yA8 (hN:200<=N) {mu:Bool} {xs:List D} (hx:∀ x∈xs,rFd x) (hw:wtL xs<=2000000) (hwN:wtL xs<N) {s:SL}:∀ (M i:Nat) (h:Heap),i<=xs.length->xs.length-i<M->PK h->Sl h V s xs->(∀ j,(hj:j<xs.length)->j<i->wE mu xs[j])->
  ∃ o b h',rO N M s mu false s (xs.length:Int) (i:Int) h=some (o,(s,b,()),h')/\Chg [] h h'/\((o=.exit 0/\∀ y∈xs,wE mu y)\/(o=.ret/\b=false)):=by
 intro M
 induction M with
 | zero=>intro i h _ h;omega
 | succ M ih=>
  intro i h hi hM pk x hp;rw [aT];unfold mQ;simp only [rB]
  by_cases q:i<xs.length
  ·simp only [q,decide_true,cond_true]
   have hm:=List.getElem_mem q;obtain ⟨r,g,d⟩:=oAy.elt x q (hx _ hm);rw [x.ix q 6,g,lB2];obtain ⟨h5,p5,c5,o5⟩:=oAy.park (z:=fdc fd0) rfl h r;have p5':∀ {β:Type} (K:Heap->Option β),bB ((h.push (.row [(.bool false),(.str []),(.int .i64 0),(.str []),(.slice none 0 0 0),(.slice none 0 0 0)] .own)).store (h.next,0) [(.bool r.1),(.str r.2.1),(.int .i64 r.2.2.1),(.str r.2.2.2.1),(yL r.2.2.2.2.1),(yL r.2.2.2.2.2.1)]) K=K h5:=p5;rw [p5'];have d5:=Dt.chg c5 (by simp) d;have pk5:=pk.chg c5;obtain ⟨m,nm,ty,hd,ht,hwt⟩:=hx _ hm;have wt:wtD ty<wtL xs:=by
    have h1:=lI hm
    grind [fdD,wtD,wtL]
   rw [hd] at d5;obtain ⟨q1,hc1,y1⟩:=uAn ht d5;obtain rfl:=oAy.inj hc1;have a0:h5.cell (h.next,0)=some (.bool m):=o5.cell 0;have a1:h5.cell (h.next,1)=some (.str nm):=o5.cell 1;have aa:h5.cells (h.next,2) 4=some (.agg (tyc q1)):=o5.cells (j:=2) (m:=4) (Nat.le_refl _);have l1:=nC xs;obtain ⟨bt,h6,e6,c6,hbt⟩:=wU (N:=N) hN (by omega) (by omega) hwt pk5 y1;have c06:=c5.trans c6;have nxt:wE mu xs[i]->∃ o b h',rO N M s mu false s (xs.length:Int) ((i+1:Nat):Int) h6=some (o,(s,b,()),h')/\Chg [] h h'/\((o=.exit 0/\∀ y∈xs,wE mu y)\/(o=.ret/\b=false)):=fun hm=>by
    obtain ⟨o,b,h',e,c',hh⟩:=ih (i+1) h6 q (by omega) (pk.chg c06) (x.chg c06 (by simp)) fun j hj hji=>by
     grind
    exact ⟨o,b,h',e,c06.trans c',hh⟩
   have rest:(m=true->mu=true)->∃ o b h',(mA (f119 N nm h5) fun (x18:Bool) h19=>(bif !x18 then some (Out.ret,(s,false,()),h19) else (dA (.val zE) (h19.cells (h.next,2) 4) fun (x21:TyV)=>(mA (f124 N N x21 1 h19) fun (x22:Bool) h23=>(bif !x22 then some (Out.ret,(s,false,()),h23) else rO N M s mu false s (xs.length:Int) (jB .i64 ((i:Int)+1)) h23)))))=some (o,(s,b,()),h')/\Chg [] h h'/\((o=.exit 0/\∀ y∈xs,wE mu y)\/(o=.ret/\b=false)):=by
    intro hmu;rw [tD (by omega),aA]
    cases hn:eC nm with
    | false=>
     simp only [Bool.not_false,cond_true]
     grind
    | true=>
     simp only [Bool.not_true,cond_false];rw [aa,vJ,e6,aA]
     cases bt with
     | false=>
      simp only [Bool.not_false,cond_true]
      grind
     | true=>
      simp only [Bool.not_true,cond_false];rw [aB (by omega)];exact nxt (by rw [hd];exact ⟨m,nm,ty,rfl,hmu,hn,hbt rfl⟩)
   simp only [Nat.zero_add,a0,bA,uB,a1,kA]
   cases m with
   | false=>grind
   | true=>
    cases mu with
    | false=>exact ⟨_,_,_,rfl,c5,.inr ⟨rfl,rfl⟩⟩
    | true=>grind
  ·simp only [q,decide_false,cond_false]
   exact ⟨_,_,h,rfl,Chg.refl _ _,.inl ⟨rfl,fun y hy=>by
    obtain ⟨j,hj,rfl⟩:=List.getElem_of_mem hy
    grind⟩⟩
theorem tAg (hN:200<=N) {mu:Bool} {xs:List D} (hx:∀ x∈xs,rFd x) (hw:wtL xs<=2000000) (hwN:wtL xs<N) {s:SL} (pk:PK h) (x:Sl h V s xs):∃ b h',f121 N s mu h=some (b,h')/\Chg [] h h'/\(b=true->mJ 64 (wE mu) xs):=by
 unfold f121;have l1:s.len=xs.length:=x.len;have hle:=nC xs;obtain ⟨o,b,h',e,c,hh⟩:=yA8 (N:=N) hN (mu:=mu) hx hw hwN N 0 h (Nat.zero_le _) (by omega) pk x fun j _ h=>by omega
 rw [show ((0:Nat):Int)=0 from rfl] at e;rw [l1,show Int.ofNat xs.length=(xs.length:Int) from rfl,e,kB];rcases hh with ⟨rfl,hh⟩ | ⟨rfl,rfl⟩
 ·simp only [bC,decide_true,cond_true]
  have z:wB (Int.ofNat s.len) 64=decide (xs.length<=64):=by rw [l1];exact lL _ 64
  rw [z];exact ⟨_,h',rfl,c,fun hd=>⟨of_decide_eq_true hd,hh⟩⟩
 ·exact ⟨_,h',rfl,c,fun h=>by cases h⟩
theorem tAy (hN:200<=N) {d:D} (hd:rSt d) (hw:wtD d<=2000000) (hwN:wtD d<N) {r:StV} (pk:PK h) (x:Dt h V d (stc r)):∃ b h',f79 N r h=some (b,h')/\Chg [] h h'/\(b=true->mH d):=by
 obtain ⟨pub,nm,lv,fs,a,rfl,hfs⟩:=hd;have wl:lv.length<=wtD (dAb pub nm lv fs a)/\wtL fs<=wtD (dAb pub nm lv fs a):=by
  grind [nC,List.length_map,dAb,wtD,wtL]
 obtain ⟨s1,s2,hc,y1,y2⟩:=fX x;obtain rfl:=gX.inj hc;unfold f79;have o:=wA h (stc (pub,nm,s1,s2,a,()));have c:=tA h (.row (stc (pub,nm,s1,s2,a,())) .own);have e1:h.push (.row [(.bool pub),(.str nm),(yL s1),(yL s2),(.int .i64 a)] .own)=h.push (.row (stc (pub,nm,s1,s2,a,())) .own):=rfl;dsimp only;rw [e1];have pk1:=pk.chg c;have y1:=y1.chg c (by simp);have y2:=y2.chg c (by simp);generalize h.push (.row (stc (pub,nm,s1,s2,a,())) .own)=H at *;have a1:H.cell (h.next,1)=some (.str nm):=o.cell 1;have a2:H.cell (h.next,2)=some (yL s1):=o.cell 2;have a3:H.cell (h.next,3)=some (yL s2):=o.cell 3;simp only [Nat.zero_add,a1,bA,kA];rw [tD (by omega),aA]
 cases hn:eC nm with
 | false=>grind
 | true=>
  simp only [cond_true,a2,bA,jA];obtain ⟨b,e,hb⟩:=vU (N:=N) hN y1 (by omega) (by omega);have e':f120 N s1 H=some (b,H):=e;rw [e',aA]
  cases b with
  | false=>grind
  | true=>
   simp only [cond_true,a3,bA,jA];obtain ⟨b2,H2,e2,c2,hb2⟩:=tAg (N:=N) hN (mu:=false) hfs (by omega) (by omega) pk1 y2;have e2':f121 N s2 false H=some (b2,H2):=e2;rw [e2',aA];exact ⟨_,H2,rfl,c.trans c2,fun h=>⟨pub,nm,lv,fs,a,rfl,hn,hb rfl,hb2 h⟩⟩
end
end Qp
namespace Qp
section
variable {N:Nat} {h:Heap} {V:Nat->Prop}
theorem cAj (hN:40<=N) {R:zJ2} {s:SL} {xs:List Bs} (x:Sl h V s (xs.map D.s)) (hl:xs.length<=2000000):∀ (M i:Nat),i<=xs.length->xs.length-i<M->(∀ j,(hj:j<xs.length)->j<i->jQ xs[j])->
  ∃ o b,eM N M R false s (xs.length:Int) (i:Int) h=some (o,(R,b,()),h)/\((o=.exit 0/\∀ y∈xs,jQ y)\/(o=.ret/\b=false)):=by
 intro M
 induction M with
 | zero=>intro i _ h;omega
 | succ M ih=>
  intro i hi hM hp;rw [bT];unfold nQ;simp only [rB]
  by_cases q:i<xs.length
  ·simp only [q,decide_true,cond_true]
   have q':i<(xs.map D.s).length:=by grind
   have hl1:s.len=xs.length:=by rw [x.len,List.length_map]
   rw [x.ix q' 1,vE x q];simp only [bA,kA];have nxt:jQ xs[i]->∃ o b,eM N M R false s (xs.length:Int) ((i+1:Nat):Int) h=some (o,(R,b,()),h)/\((o=.exit 0/\∀ y∈xs,jQ y)\/(o=.ret/\b=false)):=fun hs=>ih (i+1) q (by omega) fun j hj hji=>by
    grind
   cases he:fB xs[i] [42] with
   | true=>
    simp only [Bool.not_true,cond_false];rw [aB (by omega)];exact nxt (.inl (eqB.1 he))
   | false=>
    simp only [Bool.not_false,cond_true];rw [tD hN,aA]
    cases hn:eC xs[i] with
    | false=>
     simp only [Bool.not_false,cond_true];exact ⟨_,_,rfl,.inr ⟨rfl,rfl⟩⟩
    | true=>
     simp only [Bool.not_true,cond_false];rw [aB (by omega)];exact nxt (.inr hn)
  ·simp only [q,decide_false,cond_false]
   exact ⟨_,_,rfl,.inl ⟨rfl,fun y hy=>by
    obtain ⟨j,hj,rfl⟩:=List.getElem_of_mem hy
    grind⟩⟩
theorem lAu (nm:Bs) (xs:List Bs):xs.length<=wtD (gD nm (xs.map D.s)):=by
 grind [nC,List.length_map,gD,wtD,wtL]
theorem yU (hN:200<=N) {d:D} (hd:rLf d) (hw:wtD d<=2000000) (hwN:wtD d<N) {r:LfV} (x:Dt h V d (lfc r)):∃ b h',f198 N (r.1,r.2.1,()) h=some (b,h')/\Chg [] h h'/\(b=true->lH d):=by
 obtain ⟨nm,xs,rfl⟩:=hd;have wl:=lAu nm xs;obtain ⟨s,hc,y⟩:=iG x;obtain rfl:=tR.inj hc;unfold f198;have o:=wA h (lfc (nm,s,()));have c:=tA h (.row (lfc (nm,s,())) .own);have e1:h.push (.row [(.str nm),(yL s)] .own)=h.push (.row (lfc (nm,s,())) .own):=rfl;dsimp only;rw [e1];have y:=y.chg c (by simp);generalize h.push (.row (lfc (nm,s,())) .own)=H at *;have a0:H.cell (h.next,0)=some (.str nm):=o.cell 0;have a1:H.cell (h.next,1)=some (yL s):=o.cell 1;have l1:s.len=xs.length:=by rw [y.len,List.length_map]
 obtain ⟨o',b,lp,hh⟩:=cAj (N:=N) (by omega) (R:=some (h.next,0)) y (by omega) N 0 (Nat.zero_le _) (by omega) fun j _ h=>by omega
 rw [show ((0:Nat):Int)=0 from rfl,show (xs.length:Int)=Int.ofNat s.len by rw [l1];rfl] at lp;have lp':eM N N (some (h.next,0)) false s (Int.ofNat s.len) 0 H=some (o',(some (h.next,0),b,()),H):=lp;simp only [Nat.zero_add,a1,bA,jA];rw [lp',kB];rcases hh with ⟨rfl,hh⟩ | ⟨rfl,rfl⟩
 ·simp only [bC,decide_true,cond_true,fA,a0,Nat.zero_add,bA,kA]
  rw [tD (by omega),aA]
  cases hn:eC nm with
  | false=>grind
  | true=>
   simp only [cond_true,a1,bA,jA];have z:wB (Int.ofNat s.len) 64=decide (xs.length<=64):=by rw [l1];exact lL _ 64
   rw [z];exact ⟨_,H,rfl,c,fun h=>⟨nm,xs,rfl,hn,of_decide_eq_true h,hh⟩⟩
 ·exact ⟨_,H,rfl,c,fun h=>by cases h⟩
theorem aV (hN:3001<=N) {d:D} (hd:rOp d) (hw:wtD d<=2000000) (hwN:wtD d<N) {r:OpV} (x:Dt h V d (opc r)):∃ b h',f200 N r h=some (b,h')/\Chg [] h h'/\(b=true->qC d):=by
 obtain ⟨k,n,pl,rfl,hp⟩:=hd;have wp:wtD pl<wtD (opD k n pl):=by simp only [opD,wtD,wtL];omega
 obtain ⟨p,hc,y⟩:=uA8 hp x;obtain rfl:=wAi.inj (r':=(k,n,p.1,p.2.1,())) hc;unfold f200;have o:=wA h (opc (k,n,p.1,p.2.1,()));have c:=tA h (.row (opc (k,n,p.1,p.2.1,())) .own);have e1:h.push (.row [(.int .i64 k),(.int .i64 n),(.str p.1),(yL p.2.1)] .own)=h.push (.row (opc (k,n,p.1,p.2.1,())) .own):=rfl;dsimp only;rw [e1];have y:=Dt.chg c (by simp) y;generalize h.push (.row (opc (k,n,p.1,p.2.1,())) .own)=H at *;have aa:H.cells (h.next,2) 2=some (.agg (lfc p)):=o.cells (j:=2) (m:=2) (Nat.le_refl _)
 try simp only [Nat.zero_add]
 rw [aa,jH];obtain ⟨H',e,c'⟩:=nAg (N:=N) (by omega) p H;have e':f164 N (p.1,p.2.1,()) ([],⟨none,0,0,0⟩,()) H=some (zLf p,H'):=e;rw [e',aA];have o':=o.chg c' (by simp);have a0:H'.cell (h.next,0)=some (.int .i64 k):=o'.cell 0;have a1:H'.cell (h.next,1)=some (.int .i64 n):=o'.cell 1;have a2:H'.cells (h.next,2) 2=some (.agg (lfc p)):=o'.cells (j:=2) (m:=2) (Nat.le_refl _);have cc:=c.trans c';simp only [a0,a1,bA,vA]
 by_cases k1:k=1
 ·subst k1
  simp only [show eA 1 1=true from rfl,cond_true]
  cases hz:zLf p with
  | false=>grind
  | true=>
   obtain rfl:=lE hp y hz
   cases q1:wB 0 n with
   | false=>grind
   | true=>
    refine ⟨_,H',rfl,cc,fun q2=>?_⟩;rw [leI,decide_eq_true_eq] at q1 q2;refine .inl ⟨n.toNat,?_,by omega⟩
    grind
 have z1:eA k 1=false:=by rw [eqI];grind
 by_cases k2:k=2
 ·subst k2
  simp only [show eA 2 1=false from rfl,show eA 2 2=true from rfl,cond_true,cond_false]
  cases hz:zLf p with
  | false=>grind
  | true=>
   obtain rfl:=lE hp y hz
   cases q1:eA n 0 with
   | true=>
    refine ⟨_,H',rfl,cc,fun _=>?_⟩;rw [eqI,decide_eq_true_eq] at q1;exact .inr (.inl ⟨n,.inl q1,rfl⟩)
   | false=>
    refine ⟨_,H',rfl,cc,fun q2=>?_⟩;rw [eqI,decide_eq_true_eq] at q2;exact .inr (.inl ⟨n,.inr q2,rfl⟩)
 have z2:eA k 2=false:=by rw [eqI];grind
 by_cases k3:k=3
 ·subst k3
  simp only [show eA 3 1=false from rfl,show eA 3 2=false from rfl,show eA 3 3=true from rfl,cond_true,cond_false]
  cases q1:eA n 0 with
  | false=>grind
  | true=>
   rw [eqI,decide_eq_true_eq] at q1;simp only [cond_true];rw [a2,jH];obtain ⟨b,H6,e6,c6,hb⟩:=yU (N:=N) (by omega) hp (by omega) (by omega) (Dt.chg c' (by simp) y);rw [e6,aA];refine ⟨b,H6,rfl,cc.trans c6,fun hz=>?_⟩;rw [q1];exact .inr (.inr ⟨pl,rfl,hb hz⟩)
 have z3:eA k 3=false:=by rw [eqI];grind
 grind
theorem jAs (hN:3001<=N) {d:D} (hd:rOp d) (hw:wtD d<=2000000) (hwN:wtD d<N) {r:OpV} (x:Dt h V d (opc r)):∃ b h',f229 N r h=some (!b,h')/\Chg [] h h'/\(b=true->qC d):=by
 unfold f229;have o:=wA h (opc r);have c:=tA h (.row (opc r) .own);have e1:h.push (.row [(.int .i64 r.1),(.int .i64 r.2.1),(.str r.2.2.1),(yL r.2.2.2.1)] .own)=h.push (.row (opc r) .own):=rfl;dsimp only;rw [e1];have x:=Dt.chg c (by simp) x;generalize h.push (.row (opc r) .own)=H at *;have aa:H.cells (h.next,0) 4=some (.agg (opc r)):=o.cells (j:=0) (m:=4) (Nat.le_refl _);rw [aa,dH];obtain ⟨b,H',e,c',hb⟩:=aV hN hd hw hwN x;rw [e,aA];exact ⟨b,H',rfl,c.trans c',hb⟩
theorem fAd (hN:3001<=N) {xs:List D} (hx:∀ x∈xs,rOp x) (hw:wtL xs<=2000000) (hwN:wtL xs<N) (hl:xs.length<=64) {s:SL}:∀ (M i:Nat) (h:Heap),i<=xs.length->xs.length-i<M->Sl h V s xs->(∀ j,(hj:j<xs.length)->j<i->qC xs[j])->
  ∃ o z h',kI N M s () 0 (xs.length:Int) (i:Int) h=some (o,(z,()),h')/\Chg [] h h'/\((o=.exit 0/\∀ y∈xs,qC y)\/(o=.ret/\0<=z)):=by
 intro M
 induction M with
 | zero=>intro i h _ h;omega
 | succ M ih=>
  intro i h hi hM x hp;rw [mL];unfold nH;simp only [rB]
  by_cases q:i<xs.length
  ·simp only [q,decide_true,cond_true]
   have hm:=List.getElem_mem q;have hwm:=lI hm;obtain ⟨r,g,d⟩:=wAi.elt x q (hx _ hm);rw [x.ix q 4,g,dH];obtain ⟨b,h6,e6,c6,hb⟩:=jAs hN (hx _ hm) (by omega) (by omega) d;rw [e6,aA]
   cases b with
   | false=>
    grind
   | true=>
    simp only [Bool.not_true,cond_false];rw [aB (by omega)];obtain ⟨o,z,h',e',c',hh⟩:=ih (i+1) h6 q (by omega) (x.chg c6 (by simp)) fun j hj hji=>by
     grind
    exact ⟨o,z,h',e',c6.trans c',hh⟩
  ·simp only [q,decide_false,cond_false]
   exact ⟨_,_,h,rfl,Chg.refl _ _,.inl ⟨rfl,fun y hy=>by
    obtain ⟨j,hj,rfl⟩:=List.getElem_of_mem hy
    grind⟩⟩
theorem kAs (hN:3001<=N) {xs:List D} (hx:∀ x∈xs,rOp x) (hw:wtL xs<=2000000) (hwN:wtL xs<N) {s:SL} (x:Sl h V s xs):∃ b h',f216 N s h=some (b,h')/\Chg [] h h'/\(b=true->mJ 64 qC xs):=by
 unfold f216 nU mU;have l1:s.len=xs.length:=x.len;have z:wB (Int.ofNat s.len) 64=decide (xs.length<=64):=by rw [l1];exact lL _ 64
 simp only [z]
 by_cases q:xs.length<=64
 ·simp only [q,decide_true,cond_true]
  obtain ⟨o,i,h',e,c,hh⟩:=fAd hN hx hw hwN q N 0 h (Nat.zero_le _) (by omega) x fun j _ h=>by omega
  rw [show ((0:Nat):Int)=0 from rfl] at e;rw [l1,show Int.ofNat xs.length=(xs.length:Int) from rfl,e];simp only [kB];rcases hh with ⟨rfl,hh⟩ | ⟨rfl,hi⟩
  ·simp only [bC,decide_true,cond_true,aA]
   exact ⟨_,h',rfl,c,fun _=>⟨q,hh⟩⟩
  ·simp only [oF,cond_false,aA]
   have:wB 0 i=true:=by rw [leI,decide_eq_true_eq];exact hi
   grind
 ·simp only [q,decide_false,cond_false]
  exact ⟨_,h,rfl,Chg.refl _ _,fun h=>by cases h⟩
theorem gAd (hN:40<=N) {P Q:zJ2} {s:SL} {xs:List Bs} (x:Sl h V s (xs.map D.s)) (hl:xs.length<=2000000):∀ (M i:Nat) (v:Bool),i<=xs.length->xs.length-i<M->(v=true->∀ j,(hj:j<xs.length)->j<i->eC xs[j]=true)->
  ∃ b,tO N M P v Q s (xs.length:Int) (i:Int) h=some (.exit 7,(P,b,Q,()),h)/\(b=true->∀ y∈xs,eC y=true):=by
 intro M
 induction M with
 | zero=>intro i v _ h;omega
 | succ M ih=>
  intro i v hi hM hp;rw [eT];unfold pQ;simp only [rB]
  by_cases q:i<xs.length
  ·simp only [q,decide_true,cond_true]
   have q':i<(xs.map D.s).length:=by grind
   rw [x.ix q' 1,vE x q];simp only [bA,kA]
   cases v with
   | false=>
    simp only [cond_false,aA];rw [aB (by omega)];exact ih (i+1) false q (by omega) fun h=>by cases h
   | true=>
    simp only [cond_true];rw [tD hN,aA,aA];rw [aB (by omega)];exact ih (i+1) _ q (by omega) fun hn j hj hji=>by
     grind
  ·simp only [q,decide_false,cond_false]
   exact ⟨_,rfl,fun hv y hy=>by
    obtain ⟨j,hj,rfl⟩:=List.getElem_of_mem hy
    grind⟩
set_option maxHeartbeats 2000000 in
theorem qA4 (hN:3001<=N) {d:D} (hd:rVa d) (hw:wtD d<=2000000) (hwN:wtD d<N) {r:VaV} (pk:PK h) (x:Dt h V d (vac r)):∃ b h',f199 N (tV r) h=some (b,h')/\Chg [] h h'/\(b=true->mayVa d):=by
 obtain ⟨k,a,b,op,pl,nm,ns,ag,rfl,ta,tb,tp,tg⟩:=hd;have x:=Dt.weak (W:=fun A=>A<h.next) (fun A _ hl=>hl) x;obtain ⟨ra,rb,rp,s1,s2,hc,xa,xb,xp,y1,y2⟩:=oY ta tb tp x;obtain ⟨r',hr⟩:∃ r':VaV,r'=kE k ra rb op rp nm s1 s2:=⟨_,rfl⟩;obtain rfl:r=r':=by rw [hr];exact gF hc
 clear hc x
 unfold f199;have pk0:=pk;have o:=wA h (vac r);have c:=tA h (.row (vac r) .own);have e1:h.push (.row (yRB r) .own)=h.push (.row (vac r) .own):=rfl;dsimp only;rw [e1];have xa:=Dt.chg c (by simp) xa;have xb:=Dt.chg c (by simp) xb;have xp:=Dt.chg c (by simp) xp;have y1:=y1.chg c (by simp);have y2:=y2.chg c (by simp);have pk:=pk.chg c;generalize h.push (.row (vac r) .own)=H1 at *;have aa:H1.cells (h.next,0) 15=some (.agg (vac r)):=o.cells (j:=0) (m:=15) (Nat.le_refl _);rw [aa,pN];have oz:=wA H1 (vac va0);have cz:=tA H1 (.row (vac va0) .own);have nz:(H1.push (.row (vac va0) .own)).next=H1.next+1:=rfl;have hst:(H1.push (.row (vac va0) .own)).store (H1.next,0) (vac r)=some ((H1.push (.row (vac va0) .own)).put H1.next (.row (vac r) .own)):=oz.store rfl;obtain ⟨H2,hH2⟩:∃ H2,H2=(H1.push (.row (vac va0) .own)).put H1.next (.row (vac r) .own):=⟨_,rfl⟩;have w:W1 H1 H2 (vac r):=by rw [hH2];exact ⟨kJ oz _,cz.put (.inr (Nat.le_refl _)) _,Nat.le_refl _⟩
 rw [<- hH2] at hst;have hz:∀ {β:Type} (K:Heap->Option β),bB ((H1.push (.row yZB .own)).store (H1.next,0) (yRB r)) K=K H2:=fun K=>by
  show bB ((H1.push (.row (vac va0) .own)).store (H1.next,0) (vac r)) K=_;rw [hst,fA]
 rw [hz]
 clear hz hst hH2 cz nz oz
 have hlt:h.next<H1.next:=o.2;have o:=o.chg w.c (by simp);rw [hr] at w o;have oo:∀ {G:Heap},Chg [H1.next] H2 G->G.own h.next (vac (kE k ra rb op rp nm s1 s2)):=fun cG=>o.chg cG (by simp;omega);have rd1:∀ {G:Heap},Chg [H1.next] H2 G->G.cells (h.next,1) 4=some (.agg (opc ra)):=fun cG=>(oo cG).cells (j:=1) (m:=4) (show 1+4<=15 by decide);have rd5:∀ {G:Heap},Chg [H1.next] H2 G->G.cells (h.next,5) 4=some (.agg (opc rb)):=fun cG=>(oo cG).cells (j:=5) (m:=4) (show 5+4<=15 by decide);have rd9:∀ {G:Heap},Chg [H1.next] H2 G->G.cell (h.next,9)=some (.int .i64 op):=fun cG=>(oo cG).cell 9;have rd10:∀ {G:Heap},Chg [H1.next] H2 G->G.cells (h.next,10) 2=some (.agg (lfc rp)):=fun cG=>(oo cG).cells (j:=10) (m:=2) (show 10+2<=15 by decide);have rd12:∀ {G:Heap},Chg [H1.next] H2 G->G.cell (h.next,12)=some (.str nm):=fun cG=>(oo cG).cell 12;have rd13:∀ {G:Heap},Chg [H1.next] H2 G->G.cell (h.next,13)=some (yL s1):=fun cG=>(oo cG).cell 13;have rd14:∀ {G:Heap},Chg [H1.next] H2 G->G.cell (h.next,14)=some (yL s2):=fun cG=>(oo cG).cell 14;have up:∀ {G:Heap} {d:D} {ds:List AV},Chg [] H1 G->Dt H1 (fun A=>A<h.next) d ds->Dt G (fun A=>A<h.next) d ds:=fun cG y=>Dt.chg cG (by simp) y;have pkU:∀ {G:Heap},Chg [] H1 G->PK G:=fun cG=>pk.chg cG;have a0:H2.cell (h.next,0)=some (.int .i64 k):=o.cell 0;have hns:(s1.len=0)->ns=[]:=fun h0=>by
  have:=y1.len
  grind
 have hag:(s2.len=0)->ag=[]:=fun h0=>by
  have:=y2.len
  grind
 have ww:wtD a<wtD (vaD k a b op pl nm (ns.map D.s) ag)/\wtD b<wtD (vaD k a b op pl nm (ns.map D.s) ag)/\wtD pl<wtD (vaD k a b op pl nm (ns.map D.s) ag)/\nm.length<wtD (vaD k a b op pl nm (ns.map D.s) ag)/\ns.length<wtD (vaD k a b op pl nm (ns.map D.s) ag)/\wtL ag<wtD (vaD k a b op pl nm (ns.map D.s) ag):=by
  have:=nC (ns.map D.s)
  rw [List.length_map] at this;simp only [vaD,wtD,wtL];omega
 obtain ⟨wa,wb,wp,wn,wns,wg⟩:=ww;have fin:∀ {H:Heap} {z:VaV} (ok:Bool),W1 H1 H (vac z)->∃ b h',(bB (H.store (H1.next,0) [(.int .i64 0)]) fun h168=>bif ok then dA (.val yV) (h168.cells (H1.next,0) 15) fun x170=>mA (f165 N (tV x170) oV h168) fun x1 h2=>some (x1,h2) else some (false,h168))=some (b,h')/\Chg [] h h'/\(b=true->ok=true/\zVa (0,z.2)=true):=by
  intro H z ok wz;obtain ⟨H',p',w',c',n'⟩:=wz.set (j:=0) (vs:=[(.int .i64 0)]) (show 0+1<=15 by decide) (ds:=vac (0,z.2)) rfl;rw [p']
  cases ok with
  | false=>exact ⟨_,H',rfl,c.trans w'.c,fun h=>by cases h⟩
  | true=>
   have ab:H'.cells (H1.next,0) 15=some (.agg (vac (0,z.2))):=w'.o.cells (j:=0) (m:=15) (Nat.le_refl _);rw [cond_true,ab,pN];obtain ⟨h',e,c2⟩:=jAu (N:=N) (by omega) (0,z.2) H';have e':f165 N (tV ((0,z.2):VaV)) oV H'=some (zVb (0,z.2),h'):=e;rw [e',aA,iAu];exact ⟨_,h',rfl,(c.trans w'.c).trans c2,fun hz=>⟨rfl,hz⟩⟩
 have hV:∀ A,A<h.next->A ∉ [H1.next]:=fun A hA=>by simp;omega
 have xa:=Dt.chg w.c (by simp) xa;have xb:=Dt.chg w.c (by simp) xb;have xp:=Dt.chg w.c (by simp) xp;have y1:=y1.chg w.c (by simp);have y2:=y2.chg w.c (by simp);have pk:=pk.chg w.c;have pkU:∀ {G:Heap},Chg [H1.next] H2 G->PK G:=fun cG=>pk.chgM cG (by have:=(PK.chg pk0 c).2.1;simp;omega);have c0:=Chg.refl [H1.next] H2;have one:∀ {G:Heap} {cs ds:List AV} (ok:Bool),W1 H1 G cs->Chg [H1.next] H2 G->cs.length=15->cs.take 1++[(.int .i64 0),(.int .i64 0),(.str []),(.slice none 0 0 0)]++cs.drop 5=ds->
   ∃ q H3 H4,(bif ok then dA (.val zD) (G.cells (h.next,1) 4) fun (x150:OpV)=>mA (f200 N x150 G) fun (x151:Bool) h152=>some (((x151,some (H1.next,0),()):Bool×zJ2×Unit),h152) else some ((false,some (H1.next,0),()),G))=some ((q,some (H1.next,0),()),H3)/\(∀ {β:Type} (K:Heap->Option β),bB (H3.store (H1.next,1) [(.int .i64 0),(.int .i64 0),(.str []),(.slice none 0 0 0)]) K=K H4)/\W1 H1 H4 ds/\(q=true->ok=true/\qC a):=by
  intro G cs ds ok wz cz hl hds;have st:∀ {H3:Heap},W1 H1 H3 cs->∃ H4,(∀ {β:Type} (K:Heap->Option β),bB (H3.store (H1.next,1) [(.int .i64 0),(.int .i64 0),(.str []),(.slice none 0 0 0)]) K=K H4)/\W1 H1 H4 ds:=fun w3=>by
   obtain ⟨H4,p4,w4,c4,n4⟩:=w3.set (j:=1) (vs:=[(.int .i64 0),(.int .i64 0),(.str []),(.slice none 0 0 0)]) (by rw [hl];decide) (ds:=ds) hds;exact ⟨H4,p4,w4⟩
  cases ok with
  | false=>
   grind
  | true=>
   obtain ⟨q,H3,e3,c3,hq⟩:=aV hN ta (by omega) (by omega) (Dt.chg cz hV xa);obtain ⟨H4,p4,w4⟩:=st (wz.call c3);refine ⟨q,H3,H4,?_,p4,w4,fun h=>⟨rfl,hq h⟩⟩;rw [cond_true,rd1 cz,dH,e3,aA]
 by_cases k14:k=1\/k=4
 ·obtain ⟨q,H3,H4,e3,p4,w4,hq⟩:=one (ds:=vac (kE k dF rb op rp nm s1 s2)) true w c0 rfl rfl
  rw [cond_true] at e3;obtain ⟨b',h',e,c',hb⟩:=fin q w4;have res:b'=true->mayVa (vaD k a b op pl nm (ns.map D.s) ag):=fun ht=>by
   obtain ⟨h1,h2⟩:=hb ht;have h2:zVa (kE 0 dF rb op rp nm s1 s2)=true:=h2;obtain ⟨_,z1,z2,_,z4,z5,z6,z7⟩:=kM h2;obtain rfl:=bE tb xb z4;obtain rfl:=lE tp xp z5;obtain rfl:=hns z6;obtain rfl:=hag z7;subst z1 z2;rcases k14 with rfl | rfl
   ·exact mayVa.op (hq h1).2
   ·exact mayVa.no (hq h1).2
  refine ⟨b',h',?_,c',res⟩;rcases k14 with rfl | rfl
  ·simp only [Nat.zero_add,a0,bA,vA,show eA 1 2=false from rfl,show eA 1 3=false from rfl,show eA 1 7=false from rfl,show eA 1 6=false from rfl,show eA 1 5=false from rfl,show eA 1 1=true from rfl,cond_true,cond_false,fA,uA,iB]
   rw [e3]
   try simp only [aA,fA,Nat.zero_add]
   rw [p4]
   try simp only [fA,uA,Nat.zero_add]
   exact e
  ·simp only [Nat.zero_add,a0,bA,vA,show eA 4 2=false from rfl,show eA 4 3=false from rfl,show eA 4 7=false from rfl,show eA 4 6=false from rfl,show eA 4 5=false from rfl,show eA 4 1=false from rfl,show eA 4 4=true from rfl,cond_true,cond_false,fA,uA,iB]
   rw [e3]
   try simp only [aA,fA,Nat.zero_add]
   rw [p4]
   try simp only [fA,uA,Nat.zero_add]
   exact e
 have k1:¬ k=1:=fun e=>k14 (.inl e);have k4:¬ k=4:=fun e=>k14 (.inr e)
 by_cases k23:k=2\/k=3
 ·obtain ⟨q,H3,e3,c3,hq⟩:=yU (N:=N) (by omega) tp (by omega) (by omega) xp
  obtain ⟨H4,p4,w4,c4,n4⟩:=(w.call c3).set (j:=10) (vs:=[(.str []),(.slice none 0 0 0)]) (show 10+2<=15 by decide) (ds:=vac (kE k ra rb op lf0 nm s1 s2)) rfl;obtain ⟨b',h',e,c',hb⟩:=fin q w4;have res:b'=true->mayVa (vaD k a b op pl nm (ns.map D.s) ag):=fun ht=>by
   obtain ⟨h1,h2⟩:=hb ht;have h2:zVa (kE 0 ra rb op lf0 nm s1 s2)=true:=h2;obtain ⟨_,z1,z2,z3,z4,_,z6,z7⟩:=kM h2;obtain rfl:=bE ta xa z3;obtain rfl:=bE tb xb z4;obtain rfl:=hns z6;obtain rfl:=hag z7;subst z1 z2;exact mayVa.ref k23 (hq h1)
  refine ⟨b',h',?_,c',res⟩;rcases k23 with rfl | rfl
  ·simp only [Nat.zero_add,a0,bA,vA,show eA 2 2=true from rfl,cond_true,fA,uA,iB]
   rw [rd10 c0,jH,e3]
   try simp only [aA]
   rw [p4]
   try simp only [fA,uA,iB,Nat.zero_add]
   exact e
  ·simp only [Nat.zero_add,a0,bA,vA,show eA 3 2=false from rfl,show eA 3 3=true from rfl,cond_true,cond_false,fA,uA,iB]
   rw [rd10 c0,jH,e3]
   try simp only [aA]
   rw [p4]
   try simp only [fA,uA,iB,Nat.zero_add]
   exact e
 have k2:¬ k=2:=fun e=>k23 (.inl e);have k3:¬ k=3:=fun e=>k23 (.inr e)
 by_cases k5:k=5
 ·subst k5
  have two:∃ ok H3,(bif wB 1 op then bif wB op 4 then dA (.val zD) (H2.cells (h.next,5) 4) fun (x127:OpV)=>mA (f200 N x127 H2) fun (x128:Bool) h129=>some (((some (h.next,0),x128,some (H1.next,0),()):zJ2×Bool×zJ2×Unit),h129) else some ((some (h.next,0),false,some (H1.next,0),()),H2) else some ((some (h.next,0),false,some (H1.next,0),()),H2))=some ((some (h.next,0),ok,some (H1.next,0),()),H3)/\Chg [] H2 H3/\(ok=true->1<=op/\op<=4/\qC b):=by
   cases q1:wB 1 op with
   | false=>exact ⟨_,H2,rfl,Chg.refl _ _,fun h=>by cases h⟩
   | true=>
    cases q2:wB op 4 with
    | false=>exact ⟨_,H2,rfl,Chg.refl _ _,fun h=>by cases h⟩
    | true=>
     obtain ⟨q,H3,e3,c3,hq⟩:=aV hN tb (by omega) (by omega) xb;rw [leI,decide_eq_true_eq] at q1 q2;refine ⟨q,H3,?_,c3,fun h=>⟨q1,q2,hq h⟩⟩;rw [cond_true,cond_true,rd5 c0,dH,e3,aA]
  obtain ⟨ok,H3,e3,c3,hok⟩:=two;obtain ⟨H4,p4,w4,c4,n4⟩:=(w.call c3).set (j:=9) (vs:=[(.int .i64 0)]) (show 9+1<=15 by decide) (ds:=vac (kE 5 ra rb 0 rp nm s1 s2)) rfl;obtain ⟨H5,p5,w5,c5,n5⟩:=w4.set (j:=5) (vs:=[(.int .i64 0),(.int .i64 0),(.str []),(.slice none 0 0 0)]) (show 5+4<=15 by decide) (ds:=vac (kE 5 ra dF 0 rp nm s1 s2)) rfl;have c05:Chg [H1.next] H2 H5:=((c3.mono (by simp)).trans c4).trans c5;obtain ⟨q,H6,H7,e6,p7,w7,hq⟩:=one (ds:=vac (kE 5 dF dF 0 rp nm s1 s2)) ok w5 c05 rfl rfl;obtain ⟨b',h',e,c',hb⟩:=fin q w7;refine ⟨b',h',?_,c',fun ht=>?_⟩
  ·simp only [Nat.zero_add,a0,bA,vA,show eA 5 2=false from rfl,show eA 5 3=false from rfl,show eA 5 7=false from rfl,show eA 5 6=false from rfl,show eA 5 5=true from rfl,cond_true,cond_false,fA,uA,iB,rd9 c0]
   rw [e3]
   try simp only [aA,fA,Nat.zero_add]
   rw [p4]
   try simp only [aA,fA,uA,iB,cond_true,cond_false,Nat.zero_add]
   rw [p5]
   try simp only [fA,uA,Nat.zero_add]
   rw [e6]
   try simp only [aA,fA,Nat.zero_add]
   rw [p7]
   try simp only [fA,uA,Nat.zero_add]
   exact e
  ·obtain ⟨h1,h2⟩:=hb ht
   obtain ⟨g1,g2⟩:=hq h1;obtain ⟨g3,g4,g5⟩:=hok g1;have h2:zVa (kE 0 dF dF 0 rp nm s1 s2)=true:=h2;obtain ⟨_,_,z2,_,_,z5,z6,z7⟩:=kM h2;obtain rfl:=lE tp xp z5;obtain rfl:=hns z6;obtain rfl:=hag z7;subst z2;exact mayVa.bin g2 g5 (by omega)
 have named:∀ {G:Heap} {sN:SL} (ok:Bool),W1 H1 G (vac (kE k ra rb op rp nm sN s2))->Chg [H1.next] H2 G->∃ q H3 H4 H5,(bif ok then dA (.val zM2) (G.cell (h.next,12)) fun (x91:Bs)=>mA (f173 N x91 G) fun (x92:Bool) h93=>bif x92 then dA (.val zL2) (h93.cell (h.next,14)) fun (x95:SL)=>mA (f216 N x95 h93) fun (x96:Bool) h97=>some (((x96,some (H1.next,0),()):Bool×zJ2×Unit),h97) else some ((false,some (H1.next,0),()),h93) else some ((false,some (H1.next,0),()),G))=some ((q,some (H1.next,0),()),H3)/\(∀ {β:Type} (K:Heap->Option β),bB (H3.store (H1.next,12) [(.str [])]) K=K H4)/\(∀ {β:Type} (K:Heap->Option β),bB (H4.store (H1.next,14) [(.slice none 0 0 0)]) K=K H5)/\W1 H1 H5 (vac (kE k ra rb op rp [] sN sl0))/\(q=true->ok=true/\nL nm/\mJ 64 qC ag):=by
  intro G sN ok wz cz;have st:∀ {H3:Heap},W1 H1 H3 (vac (kE k ra rb op rp nm sN s2))->∃ H4 H5,(∀ {β:Type} (K:Heap->Option β),bB (H3.store (H1.next,12) [(.str [])]) K=K H4)/\(∀ {β:Type} (K:Heap->Option β),bB (H4.store (H1.next,14) [(.slice none 0 0 0)]) K=K H5)/\W1 H1 H5 (vac (kE k ra rb op rp [] sN sl0)):=fun w3=>by
   obtain ⟨H4,p4,w4,c4,n4⟩:=w3.set (j:=12) (vs:=[(.str [])]) (show 12+1<=15 by decide) (ds:=vac (kE k ra rb op rp [] sN s2)) rfl;obtain ⟨H5,p5,w5,c5,n5⟩:=w4.set (j:=14) (vs:=[(.slice none 0 0 0)]) (show 14+1<=15 by decide) (ds:=vac (kE k ra rb op rp [] sN sl0)) rfl;exact ⟨H4,H5,p4,p5,w5⟩
  cases ok with
  | false=>
   obtain ⟨H4,H5,p4,p5,w5⟩:=st wz;exact ⟨false,G,H4,H5,rfl,p4,p5,w5,fun h=>by cases h⟩
  | true=>
   obtain ⟨q1,e1,h1⟩:=qAg (N:=N) (h:=G) (x:=nm) (by omega) (by omega) (pkU cz)
   cases q1 with
   | false=>
    obtain ⟨H4,H5,p4,p5,w5⟩:=st wz;refine ⟨false,G,H4,H5,?_,p4,p5,w5,fun h=>by cases h⟩;simp only [cond_true,rd12 cz,bA,kA];rw [e1,aA];rfl
   | true=>
    obtain ⟨q,H3,e3,c3,hq⟩:=kAs hN tg (by omega) (by omega) (y2.chg cz hV);have e3':f216 N s2 G=some (q,H3):=e3;obtain ⟨H4,H5,p4,p5,w5⟩:=st (wz.call c3);refine ⟨q,H3,H4,H5,?_,p4,p5,w5,fun h=>⟨rfl,h1 rfl,hq h⟩⟩;simp only [cond_true,rd12 cz,bA,kA];rw [e1,aA];simp only [cond_true,rd14 cz,bA,jA];rw [e3',aA]
 by_cases k6:k=6
 ·subst k6
  obtain ⟨q,H3,H4,H5,e3,p4,p5,w5,hq⟩:=named true w c0;rw [cond_true] at e3;obtain ⟨b',h',e,c',hb⟩:=fin q w5;refine ⟨b',h',?_,c',fun ht=>?_⟩
  ·simp only [Nat.zero_add,a0,bA,vA,show eA 6 2=false from rfl,show eA 6 3=false from rfl,show eA 6 7=false from rfl,show eA 6 6=true from rfl,cond_true,cond_false,fA,uA,iB]
   rw [e3]
   try simp only [aA,fA,Nat.zero_add]
   rw [p4]
   try simp only [aA,fA,uA,iB,cond_true,cond_false,Nat.zero_add]
   rw [p5]
   try simp only [fA,uA,iB,Nat.zero_add]
   exact e
  ·obtain ⟨h1,h2⟩:=hb ht
   obtain ⟨_,g2,g3⟩:=hq h1;have h2:zVa (kE 0 ra rb op rp [] s1 sl0)=true:=h2;obtain ⟨_,z1,_,z3,z4,z5,z6,_⟩:=kM h2;obtain rfl:=bE ta xa z3;obtain rfl:=bE tb xb z4;obtain rfl:=lE tp xp z5;obtain rfl:=hns z6;subst z1;exact mayVa.call g2 g3
 by_cases k7:k=7
 ·subst k7
  have l1:s1.len=ns.length:=by rw [y1.len,List.length_map]
  have l2:s2.len=ag.length:=y2.len;obtain ⟨bn,lp,hn⟩:=gAd (N:=N) (by omega) (P:=some (h.next,0)) (Q:=some (H1.next,0)) y1 (by omega) N 0 true (Nat.zero_le _) (by omega) fun _ j _ h=>by omega
  rw [show ((0:Nat):Int)=0 from rfl,show (ns.length:Int)=Int.ofNat s1.len by rw [l1];rfl] at lp;have lp':tO N N (some (h.next,0)) true (some (H1.next,0)) s1 (Int.ofNat s1.len) 0 H2=some (.exit 7,(some (h.next,0),bn,some (H1.next,0),()),H2):=lp;have cnt:∃ ok,(bif bn then some (((some (h.next,0),eA (Int.ofNat s1.len) (Int.ofNat s2.len),some (H1.next,0),()):zJ2×Bool×zJ2×Unit),H2) else some ((some (h.next,0),false,some (H1.next,0),()),H2))=some ((some (h.next,0),ok,some (H1.next,0),()),H2)/\(ok=true->bn=true/\ns.length=ag.length):=by
   cases bn with
   | false=>grind
   | true=>
    refine ⟨_,rfl,fun hz=>⟨rfl,?_⟩⟩;rw [eqI,decide_eq_true_eq,l1,l2] at hz;exact Int.ofNat.inj hz
  obtain ⟨ok,ec,hc⟩:=cnt;obtain ⟨H3,p3,w3,c3,n3⟩:=w.set (j:=13) (vs:=[(.slice none 0 0 0)]) (show 13+1<=15 by decide) (ds:=vac (kE 7 ra rb op rp nm sl0 s2)) rfl;obtain ⟨q,H4,H5,H6,e4,p5,p6,w6,hq⟩:=named ok w3 c3;obtain ⟨b',h',e,c',hb⟩:=fin q w6;refine ⟨b',h',?_,c',fun ht=>?_⟩
  ·simp only [Nat.zero_add,a0,bA,vA,show eA 7 2=false from rfl,show eA 7 3=false from rfl,show eA 7 7=true from rfl,rd13 c0,jA,cond_true,cond_false,fA,uA,iB]
   rw [lp'];simp only [kB,fA,Nat.zero_add,rd13 c0,rd14 c0,bA,jA];rw [ec]
   try simp only [aA,fA,Nat.zero_add]
   rw [p3]
   try simp only [fA,uA,Nat.zero_add]
   rw [e4]
   try simp only [aA,fA,Nat.zero_add]
   rw [p5]
   try simp only [aA,fA,uA,iB,cond_true,cond_false,Nat.zero_add]
   rw [p6]
   try simp only [fA,uA,iB,Nat.zero_add]
   exact e
  ·obtain ⟨h1,h2⟩:=hb ht
   obtain ⟨g1,g2,g3⟩:=hq h1;obtain ⟨g4,g5⟩:=hc g1;have h2:zVa (kE 0 ra rb op rp [] sl0 sl0)=true:=h2;obtain ⟨_,z1,_,z3,z4,z5,_,_⟩:=kM h2;obtain rfl:=bE ta xa z3;obtain rfl:=bE tb xb z4;obtain rfl:=lE tp xp z5;subst z1;exact mayVa.make g2 g5 (hn g4) g3
 refine ⟨false,H2,?_,c.trans w.c,fun h=>by cases h⟩;have z1:eA k 1=false:=by rw [eqI];grind
 have z2:eA k 2=false:=by rw [eqI];grind
 have z3:eA k 3=false:=by rw [eqI];grind
 have z4:eA k 4=false:=by rw [eqI];grind
 have z5:eA k 5=false:=by rw [eqI];grind
 have z6:eA k 6=false:=by rw [eqI];grind
 have z7:eA k 7=false:=by rw [eqI];grind
 simp only [Nat.zero_add,a0,bA,vA,z1,z2,z3,z4,z5,z6,z7,cond_false,fA,uA,iB]
end
end Qp
namespace Qp
def zSm (z:SmR):Bool:=zI z.k&&(zI z.at_&&(!z.m&&(zB z.nm&&(!z.has&&(zTy z.ty&&(zLf z.pl&&(zVa z.va&&zOp z.co)))))))
section
variable {N:Nat} {h:Heap} {V:Nat->Prop}
theorem uAg (hN:1<=N) (M:Nat) (h:Heap):f138 N (M+1) zs zs h=some (true,h):=by
 obtain ⟨N,rfl⟩:∃ m,N=m+1:=⟨N-1,by omega⟩;rw [pA8];unfold fAg;dsimp only;rw [iM];unfold gM;rfl
set_option maxHeartbeats 2000000 in
theorem vB5 (hN:2<=N) {M:Nat} (hM:2<=M) {P Q:Nat} (z:SmR) (hth:z.th=sl0) (hel:z.el=sl0) {H:Heap} (oP:H.own P (smc z)) (oQ:H.own Q (smc (mE 0))):∃ h',f138 N M ⟨(some (P,0)),1,1,32⟩ ⟨(some (Q,0)),1,1,32⟩ H=some (zSm z,h')/\Chg [] H h':=by
 obtain ⟨M,rfl⟩:∃ m,M=m+1+1:=⟨M-2,by omega⟩;rw [pA8];unfold fAg;dsimp only;rw [show (!eA (Int.ofNat 1) (Int.ofNat 1))=false from rfl];simp only [cond_false];have key:∀ (L:Nat),∃ o b h',gA4 N (f138 N (M+1)) (L+1+1) ⟨(some (P,0)),1,1,32⟩ ⟨(some (Q,0)),1,1,32⟩ false 0 H=some (o,(b,()),h')/\Chg [] H h'/\((o=.exit 0/\zSm z=true)\/(o=.ret/\b=false/\zSm z=false)):=by
  intro L;rw [iM];unfold gM;have z0:ltInt 0 (Int.ofNat 1)=true:=rfl;have ixP:∀ (A:Nat) {β:Type} (K:Nat×Nat->Option β),ixK (some (A,0)) 1 0 32 K=K (A,0):=fun A β K=>rfl;have cP:H.cells (P,0) 32=some (.agg (smx (smv z))):=oP.cells (j:=0) (m:=32) (Nat.le_refl _);have cQ:H.cells (Q,0) 32=some (.agg (smx (smv (mE 0)))):=oQ.cells (j:=0) (m:=32) (Nat.le_refl _);dsimp only;rw [z0];simp only [cond_true,ixP];rw [cP,gG,cQ,gG];have o7:=wA H (smc (mE 0));have c7:=tA H (.row (smc (mE 0)) .own);have e7:H.push (.row yZA .own)=H.push (.row (smc (mE 0)) .own):=rfl;rw [e7];have n7:(H.push (.row (smc (mE 0)) .own)).next=H.next+1:=rfl;generalize H.push (.row (smc (mE 0)) .own)=H7 at *;have o8:=wA H7 (smc (mE 0));have c8:=tA H7 (.row (smc (mE 0)) .own);have e8:H7.push (.row yZA .own)=H7.push (.row (smc (mE 0)) .own):=rfl;rw [e8];have o78:=o7.chg c8 (by simp);generalize H7.push (.row (smc (mE 0)) .own)=H8 at *;have c08:=c7.trans c8;have ltP:P<H.next:=oP.2;have ltQ:Q<H.next:=oQ.2;have w8:W1 H H8 (smc (mE 0)):=⟨o78,c08,by have:=c8.next;omega⟩;obtain ⟨H9,p9,w9,c9,n9⟩:=w8.set (j:=0) (vs:=smc z) (show 0+32<=32 by decide) (ds:=smc z) (by simp only [smc,smx,smv];rfl);have p9':∀ {β:Type} (K:Heap->Option β),bB (H8.store (H.next,0) (yRA (smv z))) K=K H9:=p9;rw [p9'];have hlt7:H.next<H7.next:=o7.2;have o9:H9.own H7.next (smc (mE 0)):=o8.chg c9 (by simp;omega);have st9:H9.store (H7.next,0) (smc (mE 0))=some (H9.put H7.next (.row (smc (mE 0)) .own)):=o9.store rfl;have o10:=kJ o9 (smc (mE 0));have c10:Chg [H7.next] H9 (H9.put H7.next (.row (smc (mE 0)) .own)):=(Chg.refl [H7.next] H9).put (.inl (by simp)) _;have st9':∀ {β:Type} (K:Heap->Option β),bB (H9.store (H7.next,0) (yRA (smv (mE 0)))) K=K (H9.put H7.next (.row (smc (mE 0)) .own)):=fun K=>by
   show bB (H9.store (H7.next,0) (smc (mE 0))) K=_;rw [st9,fA]
  rw [st9'];generalize H9.put H7.next (.row (smc (mE 0)) .own)=H10 at *;have a10:H10.own H.next (smc z):=w9.o.chg c10 (by simp;omega);have c09:Chg [] H H9:=w9.c;have c010:Chg [] H H10:=c09.step c10 fun X hX hlt=>by simp at hX;omega
  have kP:∀ {G:Heap},Chg [] H G->G.cells (P,0) 32=some (.agg (smx (smv z))):=fun c=>(oP.chg c (by simp)).cells (j:=0) (m:=32) (Nat.le_refl _);have kQ:∀ {G:Heap},Chg [] H G->G.cells (Q,0) 32=some (.agg (smx (smv (mE 0)))):=fun c=>(oQ.chg c (by simp)).cells (j:=0) (m:=32) (Nat.le_refl _);have sP:∀ {G:Heap},Chg [] H G->mB (G.cells (P,0) 32) (.agg (yRA (smv z)))=true:=fun c=>by rw [kP c];exact nB _
  have sQ:∀ {G:Heap},Chg [] H G->mB (G.cells (Q,0) 32) (.agg (yRA (smv (mE 0))))=true:=fun c=>by rw [kQ c];exact nB _
  have sZ:∀ (r:SmV),mB (some (AV.agg (smx r))) (.agg (yRA r))=true:=fun r=>nB _;have rd:∀ {G:Heap},G.own H.next (smc z)->G.cell (H.next,0)=some (.int .i64 z.k)/\G.cell (H.next,1)=some (.int .i64 z.at_)/\G.cell (H.next,2)=some (.bool z.m)/\G.cell (H.next,3)=some (.str z.nm)/\G.cell (H.next,8)=some (.bool z.has)/\G.cells (H.next,4) 4=some (.agg (tyc z.ty))/\G.cells (H.next,9) 2=some (.agg (lfc z.pl))/\G.cells (H.next,11) 15=some (.agg (vac z.va))/\G.cells (H.next,26) 4=some (.agg (opc z.co))/\G.cell (H.next,30)=some (.slice none 0 0 0)/\G.cell (H.next,31)=some (.slice none 0 0 0):=fun o=>⟨o.cell 0,o.cell 1,o.cell 2,o.cell 3,o.cell 8,o.cells (j:=4) (m:=4) (show 4+4<=32 by decide),o.cells (j:=9) (m:=2) (show 9+2<=32 by decide),o.cells (j:=11) (m:=15) (show 11+15<=32 by decide),o.cells (j:=26) (m:=4) (show 26+4<=32 by decide),by
   have e:(smc z)[30]? = some (AV.slice none 0 0 0):=by
    show some (SL.av z.th)=_;rw [hth];rfl
   exact (o.cell 30).trans e,by
   have e:(smc z)[31]? = some (AV.slice none 0 0 0):=by
    show some (SL.av z.el)=_;rw [hel];rfl
   exact (o.cell 31).trans e⟩
  have rz:∀ {G:Heap},G.own H7.next (smc (mE 0))->G.cell (H7.next,0)=some (.int .i64 0)/\G.cell (H7.next,1)=some (.int .i64 0)/\G.cell (H7.next,2)=some (.bool false)/\G.cell (H7.next,3)=some (.str [])/\G.cell (H7.next,8)=some (.bool false)/\G.cells (H7.next,4) 4=some (.agg (tyc yW))/\G.cells (H7.next,9) 2=some (.agg (lfc lf0))/\G.cells (H7.next,11) 15=some (.agg (vac va0))/\G.cells (H7.next,26) 4=some (.agg (opc dF))/\G.cell (H7.next,30)=some (.slice none 0 0 0)/\G.cell (H7.next,31)=some (.slice none 0 0 0):=fun o=>⟨o.cell 0,o.cell 1,o.cell 2,o.cell 3,o.cell 8,o.cells (j:=4) (m:=4) (show 4+4<=32 by decide),o.cells (j:=9) (m:=2) (show 9+2<=32 by decide),o.cells (j:=11) (m:=15) (show 11+15<=32 by decide),o.cells (j:=26) (m:=4) (show 26+4<=32 by decide),o.cell 30,o.cell 31⟩;obtain ⟨a0,a1,a2,a3,a8,a4,_⟩:=rd a10;obtain ⟨b0,b1,b2,b3,b8,b4,_⟩:=rz o10;simp only [sZ,sP c010,sP c09,sP c08,sP c7,sQ c010,sQ c09,sQ c08,sQ c7,cond_true,qB,Nat.zero_add,Nat.add_zero,a0,a1,a2,a3,a8,b0,b1,b2,b3,b8,bA,vA,uB,kA];show ∃ o b h',(bif !zI z.k then some (Out.ret,(false,()),H10) else (bif !zI z.at_ then some (Out.ret,(false,()),H10) else (bif !(bif z.m then false else !false) then some (Out.ret,(false,()),H10) else (bif !zB z.nm then some (Out.ret,(false,()),H10) else (bif !(bif z.has then false else !false) then some (Out.ret,(false,()),H10) else _)))))=some (o,(b,()),h')/\_;unfold zSm;have no:∀ {G:Heap} {R:Bool},Chg [] H G->R=false->∃ o b h',(some (Out.ret,(false,()),G):Option (Out×zC1×Heap))=some (o,(b,()),h')/\Chg [] H h'/\((o=.exit 0/\R=true)\/(o=.ret/\b=false/\R=false)):=fun c hR=>⟨_,_,_,rfl,c,.inr ⟨rfl,rfl,hR⟩⟩
  cases zI z.k with
  | false=>exact no c010 rfl
  | true=>
  cases zI z.at_ with
  | false=>exact no c010 rfl
  | true=>
  cases z.m with
  | true=>exact no c010 rfl
  | false=>
  cases zB z.nm with
  | false=>exact no c010 rfl
  | true=>
  cases z.has with
  | true=>exact no c010 rfl
  | false=>
  simp only [Bool.not_true,Bool.not_false,cond_false,Bool.true_and];rw [a4,b4,vJ,vJ];obtain ⟨G1,e1,d1⟩:=lB5 (N:=N) (by omega) (M:=N) (by omega) z.ty H10;have e1':f25 N N (z.ty.1,z.ty.2.1,z.ty.2.2.1,z.ty.2.2.2.1,()) (0,[],zs,zs,()) H10=some (zTy z.ty,G1):=e1;rw [e1',aA];have g1:=c010.trans d1;have r1:=a10.chg d1 (by simp);have s1:=o10.chg d1 (by simp)
  cases zTy z.ty with
  | false=>exact no g1 rfl
  | true=>
  simp only [Bool.not_true,cond_false,Bool.true_and];rw [(rd r1).2.2.2.2.2.2.1,(rz s1).2.2.2.2.2.2.1,jH,jH];obtain ⟨G2,e2,d2⟩:=rAn (N:=N) (by omega) z.pl G1;have e2':f183 N (z.pl.1,z.pl.2.1,()) ([],zs,()) G1=some (zLf z.pl,G2):=e2;rw [e2',aA];have g2:=g1.trans d2;have r2:=r1.chg d2 (by simp);have s2:=s1.chg d2 (by simp)
  cases zLf z.pl with
  | false=>exact no g2 rfl
  | true=>
  simp only [Bool.not_true,cond_false,Bool.true_and];rw [(rd r2).2.2.2.2.2.2.2.1,(rz s2).2.2.2.2.2.2.2.1,pN,pN];obtain ⟨G3,e3,d3⟩:=gAu (N:=N) (by omega) z.va G2;have e3':f181 N (tV z.va) oV G2=some (zVa z.va,G3):=e3;show ∃ o b h',(mA (f181 N (tV z.va) oV G2) _)=some (o,(b,()),h')/\_;rw [e3',aA];have g3:=g2.trans d3;have r3:=r2.chg d3 (by simp);have s3:=s2.chg d3 (by simp)
  cases zVa z.va with
  | false=>exact no g3 rfl
  | true=>
  simp only [Bool.not_true,cond_false,Bool.true_and];rw [(rd r3).2.2.2.2.2.2.2.2.1,(rz s3).2.2.2.2.2.2.2.2.1,dH,dH];obtain ⟨G4,e4,d4⟩:=tAn (N:=N) (by omega) z.co G3;have e4':f184 N (z.co.1,z.co.2.1,z.co.2.2.1,z.co.2.2.2.1,()) (0,0,[],zs,()) G3=some (zOp z.co,G4):=e4;show ∃ o b h',(mA (f184 N (z.co.1,z.co.2.1,z.co.2.2.1,z.co.2.2.2.1,()) (0,0,[],zs,()) G3) _)=some (o,(b,()),h')/\_;rw [e4',aA];have g4:=g3.trans d4;have r4:=r3.chg d4 (by simp);have s4:=s3.chg d4 (by simp)
  cases zOp z.co with
  | false=>exact no g4 rfl
  | true=>
  obtain ⟨_,_,_,_,_,_,_,_,_,a30,a31⟩:=rd r4;obtain ⟨_,_,_,_,_,_,_,_,_,b30,b31⟩:=rz s4;simp only [Bool.not_true,cond_false,a30,b30,bA,jA];rw [uAg (by omega) M G4,aA];simp only [Bool.not_true,cond_false,a31,b31,bA,jA];rw [uAg (by omega) M G4,aA];simp only [Bool.not_true,cond_false];rw [iM];unfold gM;have zl:ltInt (jB .i64 (0+1)) (Int.ofNat 1)=false:=rfl;dsimp only;rw [zl];exact ⟨_,_,_,rfl,g4,.inl ⟨rfl,trivial⟩⟩
 obtain ⟨L,hL⟩:∃ L,N=L+1+1:=⟨N-2,by omega⟩;obtain ⟨o,b,h',e,c,hh⟩:=key L;rw [<- hL] at e;rw [e,kB];rcases hh with ⟨rfl,hz⟩ | ⟨rfl,rfl,hz⟩
 ·rw [hz];exact ⟨h',rfl,c⟩
 ·rw [hz];exact ⟨h',rfl,c⟩
end
end Qp
namespace Qp
abbrev J9:=zW
noncomputable def dB8 (N:Nat) (v0:SL) (v1:Int) (v4:Bool) (v5:Int) (A B:Nat) (h13:Heap):Option (Sum (zW×Heap) (Sum (zC1×Heap) Empty)):=
   (dA (.val zO2) (h13.cell ((A,0).1,(A,0).2+0)) fun (x14:Int)=>
   let x15:Bool:=eA x14 1
   (bif x15 then
   (mA (α:=zW) (
    (dA (.val zM2) (h13.cell ((A,0).1,(A,0).2+3)) fun (x16:zQ2)=>
    (mA (f46 N x16 h13) fun (x17:Bool) h18=>
    (bif x17 then
    (dA (.val zE) (h18.cells ((A,0).1,(A,0).2+4) 4) fun (x19:zR)=>
    (mA (f21 N N x19 1 h18) fun (x20:Bool) h21=>
    some ((v0,v1,v4,v5,(some (A,0)),(some (B,0)),x20,false,false,()),h21)))
    else
    some ((v0,v1,v4,v5,(some (A,0)),(some (B,0)),false,false,false,()),h18))))) fun (j22:zW) h23=>
   (bB j22.2.2.2.2.2.1 fun q24=>
   (bB (h23.store (q24.1,q24.2+2) [(.bool false)]) fun h25=>
   (bB j22.2.2.2.2.2.1 fun q26=>
   (bB (h25.store (q26.1,q26.2+3) [(.str [])]) fun h27=>
   (bB j22.2.2.2.2.2.1 fun q28=>
   (bB (h27.store (q28.1,q28.2+4) [(.int .i64 0),(.str []),(.slice none 0 0 0),(.slice none 0 0 0)]) fun h29=>
   some (Sum.inl ((j22.1,j22.2.1,j22.2.2.1,j22.2.2.2.1,j22.2.2.2.2.1,j22.2.2.2.2.2.1,j22.2.2.2.2.2.2.1,j22.2.2.2.2.2.2.2.1,j22.2.2.2.2.2.2.2.2.1,()),h29)))))))))
   else
   let x30:Bool:=eA x14 2
   (bif x30 then
    (mA (α:=zW) (
    (dA (.val zG) (h13.cells ((A,0).1,(A,0).2+9) 2) fun (x31:zB1)=>
    (mA (f135 N (x31.1,x31.2.1,()) h13) fun (x32:Bool) h33=>
    (bif x32 then
     (dA (.val zC) (h33.cells ((A,0).1,(A,0).2+11) 15) fun (x34:zQ)=>
     (mA (f136 N x34 h33) fun (x35:Bool) h36=>
     some ((v0,v1,v4,v5,(some (A,0)),(some (B,0)),x35,false,false,()),h36)))
    else
     some ((v0,v1,v4,v5,(some (A,0)),(some (B,0)),false,false,false,()),h33))))) fun (j37:zW) h38=>
    (bB j37.2.2.2.2.2.1 fun q39=>
    (bB (h38.store (q39.1,q39.2+9) [(.str []),(.slice none 0 0 0)]) fun h40=>
    (bB j37.2.2.2.2.2.1 fun q41=>
    (bB (h40.store (q41.1,q41.2+11) [(.int .i64 0),(.int .i64 0),(.int .i64 0),(.str []),(.slice none 0 0 0),(.int .i64 0),(.int .i64 0),(.str []),(.slice none 0 0 0),(.int .i64 0),(.str []),(.slice none 0 0 0),(.str []),(.slice none 0 0 0),(.slice none 0 0 0)]) fun h42=>
    some (Sum.inl ((j37.1,j37.2.1,j37.2.2.1,j37.2.2.2.1,j37.2.2.2.2.1,j37.2.2.2.2.2.1,j37.2.2.2.2.2.2.1,j37.2.2.2.2.2.2.2.1,j37.2.2.2.2.2.2.2.2.1,()),h42)))))))
   else
    let x43:Bool:=eA x14 3
    (bif x43 then
    (mA (α:=zW) (
     (dA (.val zC) (h13.cells ((A,0).1,(A,0).2+11) 15) fun (x44:zQ)=>
     (mA (f136 N x44 h13) fun (x45:Bool) h46=>
     (bif x45 then
     (dA (.val zO2) (h46.cell (((A,0).1,(A,0).2+11).1,((A,0).1,(A,0).2+11).2+0)) fun (x47:Int)=>
     let x48:Bool:=eA x47 6
     some ((v0,v1,v4,v5,(some (A,0)),(some (B,0)),x48,false,false,()),h46))
     else
     some ((v0,v1,v4,v5,(some (A,0)),(some (B,0)),false,false,false,()),h46))))) fun (j49:zW) h50=>
    (bB j49.2.2.2.2.2.1 fun q51=>
    (bB (h50.store (q51.1,q51.2+11) [(.int .i64 0),(.int .i64 0),(.int .i64 0),(.str []),(.slice none 0 0 0),(.int .i64 0),(.int .i64 0),(.str []),(.slice none 0 0 0),(.int .i64 0),(.str []),(.slice none 0 0 0),(.str []),(.slice none 0 0 0),(.slice none 0 0 0)]) fun h52=>
    some (Sum.inl ((j49.1,j49.2.1,j49.2.2.1,j49.2.2.2.1,j49.2.2.2.2.1,j49.2.2.2.2.2.1,j49.2.2.2.2.2.2.1,j49.2.2.2.2.2.2.2.1,j49.2.2.2.2.2.2.2.2.1,()),h52)))))
    else
    let x53:Bool:=eA x14 4
    (bif x53 then
     (dA (.val zD) (h13.cells ((A,0).1,(A,0).2+26) 4) fun (x54:zX)=>
     (mA (f137 N x54 h13) fun (x55:Bool) h56=>
     (dA (.val zN2) (h56.cell ((A,0).1,(A,0).2+8)) fun (x57:Bool)=>
     (rC (bif (mB (h56.cell ((A,0).1,(A,0).2+8)) (.bool x57)) then (bif (mB (h13.cell ((A,0).1,(A,0).2+8)) (.bool x57)) then (bif (mB (h13.cells ((A,0).1,(A,0).2+26) 4) (.agg [(.int .i64 x54.1),(.int .i64 x54.2.1),(.str x54.2.2.1),(yL x54.2.2.2.1)])) then true else false) else false) else false) (
     (bB (h56.store ((B,0).1,(B,0).2+26) [(.int .i64 0),(.int .i64 0),(.str []),(.slice none 0 0 0)]) fun h58=>
     (bB (h58.store ((B,0).1,(B,0).2+8) [(.bool false)]) fun h59=>
     some (Sum.inl ((v0,v1,v4,v5,(some (A,0)),(some (B,0)),x55,true,x57,()),h59)))))))))
    else
     let x60:Bool:=eA x14 5
     (bif x60 then
     (dA (.val zD) (h13.cells ((A,0).1,(A,0).2+26) 4) fun (x61:zX)=>
     (mA (f137 N x61 h13) fun (x62:Bool) h63=>
     (bB (h63.store ((B,0).1,(B,0).2+26) [(.int .i64 0),(.int .i64 0),(.str []),(.slice none 0 0 0)]) fun h64=>
     some (Sum.inl ((v0,v1,v4,v5,(some (A,0)),(some (B,0)),x62,true,false,()),h64)))))
     else
     (mA (α:=zD1) (
      let x65:Bool:=eA x14 6
      (bif x65 then
      some ((v0,v1,v4,v5,(some (A,0)),(some (B,0)),true,false,false,x14,x65,()),h13)
      else
      let x66:Bool:=eA x14 7
      some ((v0,v1,v4,v5,(some (A,0)),(some (B,0)),true,false,false,x14,x66,()),h13))) fun (j67:zD1) h68=>
     (bif j67.2.2.2.2.2.2.2.2.2.2.1 then
      some (Sum.inl ((j67.1,j67.2.1,j67.2.2.1,j67.2.2.2.1,j67.2.2.2.2.1,j67.2.2.2.2.2.1,j67.2.2.2.2.2.2.1,true,j67.2.2.2.2.2.2.2.2.1,()),h68))
     else
      (mA (α:=zD1) (
      let x69:Bool:=eA j67.2.2.2.2.2.2.2.2.2.1 8
      (bif x69 then
       some ((j67.1,j67.2.1,j67.2.2.1,j67.2.2.2.1,j67.2.2.2.2.1,j67.2.2.2.2.2.1,j67.2.2.2.2.2.2.1,j67.2.2.2.2.2.2.2.1,j67.2.2.2.2.2.2.2.2.1,j67.2.2.2.2.2.2.2.2.2.1,x69,()),h68)
      else
       let x70:Bool:=eA j67.2.2.2.2.2.2.2.2.2.1 9
       (bif x70 then
       some ((j67.1,j67.2.1,j67.2.2.1,j67.2.2.2.1,j67.2.2.2.2.1,j67.2.2.2.2.2.1,j67.2.2.2.2.2.2.1,j67.2.2.2.2.2.2.2.1,j67.2.2.2.2.2.2.2.2.1,j67.2.2.2.2.2.2.2.2.2.1,x70,()),h68)
       else
       let x71:Bool:=eA j67.2.2.2.2.2.2.2.2.2.1 10
       some ((j67.1,j67.2.1,j67.2.2.1,j67.2.2.2.1,j67.2.2.2.2.1,j67.2.2.2.2.2.1,j67.2.2.2.2.2.2.1,j67.2.2.2.2.2.2.2.1,j67.2.2.2.2.2.2.2.2.1,j67.2.2.2.2.2.2.2.2.2.1,x71,()),h68)))) fun (j72:zD1) h73=>
      (bif j72.2.2.2.2.2.2.2.2.2.2.1 then
      some (Sum.inl ((j72.1,j72.2.1,j72.2.2.1,j72.2.2.2.1,j72.2.2.2.2.1,j72.2.2.2.2.2.1,j72.2.2.2.2.2.2.1,j72.2.2.2.2.2.2.2.1,j72.2.2.2.2.2.2.2.2.1,()),h73))
      else
      let x74:Bool:=eA j72.2.2.2.2.2.2.2.2.2.1 11
      (bif x74 then
       (bB j72.2.2.2.2.1 fun q75=>
       (dA (.val zG) (h73.cells (q75.1,q75.2+9) 2) fun (x76:zB1)=>
       (mA (f135 N (x76.1,x76.2.1,()) h73) fun (x77:Bool) h78=>
       (bB j72.2.2.2.2.2.1 fun q79=>
       (bB (h78.store (q79.1,q79.2+9) [(.str []),(.slice none 0 0 0)]) fun h80=>
       some (Sum.inl ((j72.1,j72.2.1,j72.2.2.1,j72.2.2.2.1,j72.2.2.2.2.1,j72.2.2.2.2.2.1,x77,j72.2.2.2.2.2.2.2.1,j72.2.2.2.2.2.2.2.2.1,()),h80)))))))
      else
       some (Sum.inr (Sum.inl ((false,()),h73))))))))))))))
noncomputable def tBb (N:Nat) (j82:J9) (h83:Heap):Option (J9×Heap):=
   (mA (α:=zK1) (
    (bB j82.2.2.2.2.1 fun q85=>
    (dA (.val zO2) (h83.cell (q85.1,q85.2+0)) fun (x86:Int)=>
    let x87:Bool:=eA x86 1
    (bif x87 then
    (bB j82.2.2.2.2.1 fun q88=>
    (dA (.val zN2) (h83.cell (q88.1,q88.2+8)) fun (x89:Bool)=>
    some ((j82.1,j82.2.1,j82.2.2.1,j82.2.2.2.1,j82.2.2.2.2.1,j82.2.2.2.2.2.1,j82.2.2.2.2.2.2.1,j82.2.2.2.2.2.2.2.1,j82.2.2.2.2.2.2.2.2.1,x89,()),h83)))
    else
    (bB j82.2.2.2.2.1 fun q90=>
    (dA (.val zO2) (h83.cell (q90.1,q90.2+0)) fun (x91:Int)=>
    let x92:Bool:=eA x91 10
    (bif x92 then
     (bB j82.2.2.2.2.1 fun q93=>
     (dA (.val zN2) (h83.cell (q93.1,q93.2+8)) fun (x94:Bool)=>
     some ((j82.1,j82.2.1,j82.2.2.1,j82.2.2.2.1,j82.2.2.2.2.1,j82.2.2.2.2.2.1,j82.2.2.2.2.2.2.1,j82.2.2.2.2.2.2.2.1,j82.2.2.2.2.2.2.2.2.1,x94,()),h83)))
    else
     some ((j82.1,j82.2.1,j82.2.2.1,j82.2.2.2.1,j82.2.2.2.2.1,j82.2.2.2.2.2.1,j82.2.2.2.2.2.2.1,j82.2.2.2.2.2.2.2.1,j82.2.2.2.2.2.2.2.2.1,false,()),h83)))))))) fun (j95:zK1) h96=>
   (bif j95.2.2.2.2.2.2.2.2.2.1 then
    (mA (α:=zW) (
    (bif j95.2.2.2.2.2.2.1 then
     (bB j95.2.2.2.2.1 fun q97=>
     (dA (.val zC) (h96.cells (q97.1,q97.2+11) 15) fun (x98:zQ)=>
     (mA (f136 N x98 h96) fun (x99:Bool) h100=>
     some ((j95.1,j95.2.1,j95.2.2.1,j95.2.2.2.1,j95.2.2.2.2.1,j95.2.2.2.2.2.1,x99,j95.2.2.2.2.2.2.2.1,j95.2.2.2.2.2.2.2.2.1,()),h100))))
    else
     some ((j95.1,j95.2.1,j95.2.2.1,j95.2.2.2.1,j95.2.2.2.2.1,j95.2.2.2.2.2.1,false,j95.2.2.2.2.2.2.2.1,j95.2.2.2.2.2.2.2.2.1,()),h96))) fun (j101:zW) h102=>
    (bB j101.2.2.2.2.2.1 fun q103=>
    (bB (h102.store (q103.1,q103.2+11) [(.int .i64 0),(.int .i64 0),(.int .i64 0),(.str []),(.slice none 0 0 0),(.int .i64 0),(.int .i64 0),(.str []),(.slice none 0 0 0),(.int .i64 0),(.str []),(.slice none 0 0 0),(.str []),(.slice none 0 0 0),(.slice none 0 0 0)]) fun h104=>
    (bB j101.2.2.2.2.2.1 fun q105=>
    (bB (h104.store (q105.1,q105.2+8) [(.bool false)]) fun h106=>
    some ((j101.1,j101.2.1,j101.2.2.1,j101.2.2.2.1,j101.2.2.2.2.1,j101.2.2.2.2.2.1,j101.2.2.2.2.2.2.1,j101.2.2.2.2.2.2.2.1,j101.2.2.2.2.2.2.2.2.1,()),h106))))))
   else
    some ((j95.1,j95.2.1,j95.2.2.1,j95.2.2.2.1,j95.2.2.2.2.1,j95.2.2.2.2.2.1,j95.2.2.2.2.2.2.1,j95.2.2.2.2.2.2.2.1,j95.2.2.2.2.2.2.2.2.1,()),h96)))
noncomputable def eB8 (N:Nat) (rec88:SL->Int->Heap->Option (Bool×Heap)) (j107:J9) (h108:Heap):Option (Sum (zB2×Heap) (Sum (zC1×Heap) Empty)):=
   let x109:Bool:=!j107.2.2.2.2.2.2.1
   (bif x109 then
   some (Sum.inr (Sum.inl ((false,()),h108)))
   else
   (bB j107.2.2.2.2.2.1 fun q110=>
   (dA (.val zA) (h108.cells q110 32) fun (x111:zP)=>
   let h112:Heap:=h108.push (.row [(.int .i64 x111.1),(.int .i64 x111.2.1),(.bool x111.2.2.1),(.str x111.2.2.2.1),(.int .i64 x111.2.2.2.2.1),(.str x111.2.2.2.2.2.1),(yL x111.2.2.2.2.2.2.1),(yL x111.2.2.2.2.2.2.2.1),(.bool x111.2.2.2.2.2.2.2.2.1),(.str x111.2.2.2.2.2.2.2.2.2.1),(yL x111.2.2.2.2.2.2.2.2.2.2.1),(.int .i64 x111.2.2.2.2.2.2.2.2.2.2.2.1),(.int .i64 x111.2.2.2.2.2.2.2.2.2.2.2.2.1),(.int .i64 x111.2.2.2.2.2.2.2.2.2.2.2.2.2.1),(.str x111.2.2.2.2.2.2.2.2.2.2.2.2.2.2.1),(yL x111.2.2.2.2.2.2.2.2.2.2.2.2.2.2.2.1),(.int .i64 x111.2.2.2.2.2.2.2.2.2.2.2.2.2.2.2.2.1),(.int .i64 x111.2.2.2.2.2.2.2.2.2.2.2.2.2.2.2.2.2.1),(.str x111.2.2.2.2.2.2.2.2.2.2.2.2.2.2.2.2.2.2.1),(yL x111.2.2.2.2.2.2.2.2.2.2.2.2.2.2.2.2.2.2.2.1),(.int .i64 x111.2.2.2.2.2.2.2.2.2.2.2.2.2.2.2.2.2.2.2.2.1),(.str x111.2.2.2.2.2.2.2.2.2.2.2.2.2.2.2.2.2.2.2.2.2.1),(yL x111.2.2.2.2.2.2.2.2.2.2.2.2.2.2.2.2.2.2.2.2.2.2.1),(.str x111.2.2.2.2.2.2.2.2.2.2.2.2.2.2.2.2.2.2.2.2.2.2.2.1),(yL x111.2.2.2.2.2.2.2.2.2.2.2.2.2.2.2.2.2.2.2.2.2.2.2.2.1),(yL x111.2.2.2.2.2.2.2.2.2.2.2.2.2.2.2.2.2.2.2.2.2.2.2.2.2.1),(.int .i64 x111.2.2.2.2.2.2.2.2.2.2.2.2.2.2.2.2.2.2.2.2.2.2.2.2.2.2.1),(.int .i64 x111.2.2.2.2.2.2.2.2.2.2.2.2.2.2.2.2.2.2.2.2.2.2.2.2.2.2.2.1),(.str x111.2.2.2.2.2.2.2.2.2.2.2.2.2.2.2.2.2.2.2.2.2.2.2.2.2.2.2.2.1),(yL x111.2.2.2.2.2.2.2.2.2.2.2.2.2.2.2.2.2.2.2.2.2.2.2.2.2.2.2.2.2.1),(yL x111.2.2.2.2.2.2.2.2.2.2.2.2.2.2.2.2.2.2.2.2.2.2.2.2.2.2.2.2.2.2.1),(yL x111.2.2.2.2.2.2.2.2.2.2.2.2.2.2.2.2.2.2.2.2.2.2.2.2.2.2.2.2.2.2.2.1)] .own)
   let h113:Heap:=h112.push (.row [(.int .i64 0),(.int .i64 0),(.bool false),(.str []),(.int .i64 0),(.str []),(.slice none 0 0 0),(.slice none 0 0 0),(.bool false),(.str []),(.slice none 0 0 0),(.int .i64 0),(.int .i64 0),(.int .i64 0),(.str []),(.slice none 0 0 0),(.int .i64 0),(.int .i64 0),(.str []),(.slice none 0 0 0),(.int .i64 0),(.str []),(.slice none 0 0 0),(.str []),(.slice none 0 0 0),(.slice none 0 0 0),(.int .i64 0),(.int .i64 0),(.str []),(.slice none 0 0 0),(.slice none 0 0 0),(.slice none 0 0 0)] .own)
   (mA (f138 N N ⟨(some (h108.next,0)),1,1,32⟩ ⟨(some (h112.next,0)),1,1,32⟩ h113) fun (x114:Bool) h115=>
   let x116:Bool:=!x114
   (bif x116 then
    some (Sum.inr (Sum.inl ((false,()),h115)))
   else
    let x117:Bool:=!j107.2.2.2.2.2.2.2.1
    (bif x117 then
    (bB j107.2.2.2.2.1 fun q118=>
    (dA (.val zL2) (h115.cell (q118.1,q118.2+30)) fun (x119:SL)=>
    let x120:Bool:=ltInt 0 (Int.ofNat x119.len)
    (bif x120 then
     some (Sum.inr (Sum.inl ((false,()),h115)))
    else
     let x121:Bool:=!j107.2.2.2.2.2.2.2.2.1
     (bif x121 then
     (bB j107.2.2.2.2.1 fun q122=>
     (dA (.val zL2) (h115.cell (q122.1,q122.2+31)) fun (x123:SL)=>
     let x124:Bool:=ltInt 0 (Int.ofNat x123.len)
     (bif x124 then
      some (Sum.inr (Sum.inl ((false,()),h115)))
     else
      (bif j107.2.2.2.2.2.2.2.1 then
      (bB j107.2.2.2.2.1 fun q125=>
      (dA (.val zL2) (h115.cell (q125.1,q125.2+30)) fun (x126:SL)=>
      let x127:Int:=jB .i64 (j107.2.1+1)
      (mA (rec88 x126 x127 h115) fun (x128:Bool) h129=>
      let x130:Bool:=!x128
      (bif x130 then
       some (Sum.inr (Sum.inl ((false,()),h129)))
      else
       (bif j107.2.2.2.2.2.2.2.2.1 then
       (bB j107.2.2.2.2.1 fun q131=>
       (dA (.val zL2) (h129.cell (q131.1,q131.2+31)) fun (x132:SL)=>
       let x133:Int:=jB .i64 (j107.2.1+1)
       (mA (rec88 x132 x133 h129) fun (x134:Bool) h135=>
       let x136:Bool:=!x134
       (bif x136 then
        some (Sum.inr (Sum.inl ((false,()),h135)))
       else
        some (Sum.inl ((j107.1,j107.2.1,j107.2.2.1,j107.2.2.2.1,()),h135))))))
       else
       some (Sum.inl ((j107.1,j107.2.1,j107.2.2.1,j107.2.2.2.1,()),h129)))))))
      else
      (bif j107.2.2.2.2.2.2.2.2.1 then
       (bB j107.2.2.2.2.1 fun q137=>
       (dA (.val zL2) (h115.cell (q137.1,q137.2+31)) fun (x138:SL)=>
       let x139:Int:=jB .i64 (j107.2.1+1)
       (mA (rec88 x138 x139 h115) fun (x140:Bool) h141=>
       let x142:Bool:=!x140
       (bif x142 then
       some (Sum.inr (Sum.inl ((false,()),h141)))
       else
       some (Sum.inl ((j107.1,j107.2.1,j107.2.2.1,j107.2.2.2.1,()),h141))))))
      else
       some (Sum.inl ((j107.1,j107.2.1,j107.2.2.1,j107.2.2.2.1,()),h115)))))))
     else
     (bif j107.2.2.2.2.2.2.2.1 then
      (bB j107.2.2.2.2.1 fun q143=>
      (dA (.val zL2) (h115.cell (q143.1,q143.2+30)) fun (x144:SL)=>
      let x145:Int:=jB .i64 (j107.2.1+1)
      (mA (rec88 x144 x145 h115) fun (x146:Bool) h147=>
      let x148:Bool:=!x146
      (bif x148 then
      some (Sum.inr (Sum.inl ((false,()),h147)))
      else
      (bif j107.2.2.2.2.2.2.2.2.1 then
       (bB j107.2.2.2.2.1 fun q149=>
       (dA (.val zL2) (h147.cell (q149.1,q149.2+31)) fun (x150:SL)=>
       let x151:Int:=jB .i64 (j107.2.1+1)
       (mA (rec88 x150 x151 h147) fun (x152:Bool) h153=>
       let x154:Bool:=!x152
       (bif x154 then
       some (Sum.inr (Sum.inl ((false,()),h153)))
       else
       some (Sum.inl ((j107.1,j107.2.1,j107.2.2.1,j107.2.2.2.1,()),h153))))))
      else
       some (Sum.inl ((j107.1,j107.2.1,j107.2.2.1,j107.2.2.2.1,()),h147)))))))
     else
      (bif j107.2.2.2.2.2.2.2.2.1 then
      (bB j107.2.2.2.2.1 fun q155=>
      (dA (.val zL2) (h115.cell (q155.1,q155.2+31)) fun (x156:SL)=>
      let x157:Int:=jB .i64 (j107.2.1+1)
      (mA (rec88 x156 x157 h115) fun (x158:Bool) h159=>
      let x160:Bool:=!x158
      (bif x160 then
       some (Sum.inr (Sum.inl ((false,()),h159)))
      else
       some (Sum.inl ((j107.1,j107.2.1,j107.2.2.1,j107.2.2.2.1,()),h159))))))
      else
      some (Sum.inl ((j107.1,j107.2.1,j107.2.2.1,j107.2.2.2.1,()),h115))))))))
    else
    let x161:Bool:=!j107.2.2.2.2.2.2.2.2.1
    (bif x161 then
     (bB j107.2.2.2.2.1 fun q162=>
     (dA (.val zL2) (h115.cell (q162.1,q162.2+31)) fun (x163:SL)=>
     let x164:Bool:=ltInt 0 (Int.ofNat x163.len)
     (bif x164 then
     some (Sum.inr (Sum.inl ((false,()),h115)))
     else
     (bif j107.2.2.2.2.2.2.2.1 then
      (bB j107.2.2.2.2.1 fun q165=>
      (dA (.val zL2) (h115.cell (q165.1,q165.2+30)) fun (x166:SL)=>
      let x167:Int:=jB .i64 (j107.2.1+1)
      (mA (rec88 x166 x167 h115) fun (x168:Bool) h169=>
      let x170:Bool:=!x168
      (bif x170 then
      some (Sum.inr (Sum.inl ((false,()),h169)))
      else
      (bif j107.2.2.2.2.2.2.2.2.1 then
       (bB j107.2.2.2.2.1 fun q171=>
       (dA (.val zL2) (h169.cell (q171.1,q171.2+31)) fun (x172:SL)=>
       let x173:Int:=jB .i64 (j107.2.1+1)
       (mA (rec88 x172 x173 h169) fun (x174:Bool) h175=>
       let x176:Bool:=!x174
       (bif x176 then
       some (Sum.inr (Sum.inl ((false,()),h175)))
       else
       some (Sum.inl ((j107.1,j107.2.1,j107.2.2.1,j107.2.2.2.1,()),h175))))))
      else
       some (Sum.inl ((j107.1,j107.2.1,j107.2.2.1,j107.2.2.2.1,()),h169)))))))
     else
      (bif j107.2.2.2.2.2.2.2.2.1 then
      (bB j107.2.2.2.2.1 fun q177=>
      (dA (.val zL2) (h115.cell (q177.1,q177.2+31)) fun (x178:SL)=>
      let x179:Int:=jB .i64 (j107.2.1+1)
      (mA (rec88 x178 x179 h115) fun (x180:Bool) h181=>
      let x182:Bool:=!x180
      (bif x182 then
       some (Sum.inr (Sum.inl ((false,()),h181)))
      else
       some (Sum.inl ((j107.1,j107.2.1,j107.2.2.1,j107.2.2.2.1,()),h181))))))
      else
      some (Sum.inl ((j107.1,j107.2.1,j107.2.2.1,j107.2.2.2.1,()),h115)))))))
    else
     (bif j107.2.2.2.2.2.2.2.1 then
     (bB j107.2.2.2.2.1 fun q183=>
     (dA (.val zL2) (h115.cell (q183.1,q183.2+30)) fun (x184:SL)=>
     let x185:Int:=jB .i64 (j107.2.1+1)
     (mA (rec88 x184 x185 h115) fun (x186:Bool) h187=>
     let x188:Bool:=!x186
     (bif x188 then
      some (Sum.inr (Sum.inl ((false,()),h187)))
     else
      (bif j107.2.2.2.2.2.2.2.2.1 then
      (bB j107.2.2.2.2.1 fun q189=>
      (dA (.val zL2) (h187.cell (q189.1,q189.2+31)) fun (x190:SL)=>
      let x191:Int:=jB .i64 (j107.2.1+1)
      (mA (rec88 x190 x191 h187) fun (x192:Bool) h193=>
      let x194:Bool:=!x192
      (bif x194 then
       some (Sum.inr (Sum.inl ((false,()),h193)))
      else
       some (Sum.inl ((j107.1,j107.2.1,j107.2.2.1,j107.2.2.2.1,()),h193))))))
      else
      some (Sum.inl ((j107.1,j107.2.1,j107.2.2.1,j107.2.2.2.1,()),h187)))))))
     else
     (bif j107.2.2.2.2.2.2.2.2.1 then
      (bB j107.2.2.2.2.1 fun q195=>
      (dA (.val zL2) (h115.cell (q195.1,q195.2+31)) fun (x196:SL)=>
      let x197:Int:=jB .i64 (j107.2.1+1)
      (mA (rec88 x196 x197 h115) fun (x198:Bool) h199=>
      let x200:Bool:=!x198
      (bif x200 then
      some (Sum.inr (Sum.inl ((false,()),h199)))
      else
      some (Sum.inl ((j107.1,j107.2.1,j107.2.2.1,j107.2.2.2.1,()),h199))))))
     else
      some (Sum.inl ((j107.1,j107.2.1,j107.2.2.1,j107.2.2.2.1,()),h115)))))))))))
theorem uBb (N:Nat) (rec88:SL->Int->Heap->Option (Bool×Heap)) (go:SL->Int->Bool->Int->Heap->Option (Out×zC1×Heap)) (v0:SL) (v1:Int) (v4:Bool) (v5:Int) (h:Heap):iA4 N rec88 go v0 v1 v4 v5 h=(
 let x2:Bool:=ltInt v5 (Int.ofNat v0.len)
 (bif x2 then
  (bB (α:=Sum (zB2×Heap) (Sum (zC1×Heap) (Empty))) (
  (ixK v0.a v0.len v5 32 fun q3=>
  (dA (.val zA) (h.cells q3 32) fun (x4:zP)=>
  let h5:Heap:=h.push (.row [(.int .i64 0),(.int .i64 0),(.bool false),(.str []),(.int .i64 0),(.str []),(.slice none 0 0 0),(.slice none 0 0 0),(.bool false),(.str []),(.slice none 0 0 0),(.int .i64 0),(.int .i64 0),(.int .i64 0),(.str []),(.slice none 0 0 0),(.int .i64 0),(.int .i64 0),(.str []),(.slice none 0 0 0),(.int .i64 0),(.str []),(.slice none 0 0 0),(.str []),(.slice none 0 0 0),(.slice none 0 0 0),(.int .i64 0),(.int .i64 0),(.str []),(.slice none 0 0 0),(.slice none 0 0 0),(.slice none 0 0 0)] .own)
  (bB (h5.store (h.next,0) [(.int .i64 x4.1),(.int .i64 x4.2.1),(.bool x4.2.2.1),(.str x4.2.2.2.1),(.int .i64 x4.2.2.2.2.1),(.str x4.2.2.2.2.2.1),(yL x4.2.2.2.2.2.2.1),(yL x4.2.2.2.2.2.2.2.1),(.bool x4.2.2.2.2.2.2.2.2.1),(.str x4.2.2.2.2.2.2.2.2.2.1),(yL x4.2.2.2.2.2.2.2.2.2.2.1),(.int .i64 x4.2.2.2.2.2.2.2.2.2.2.2.1),(.int .i64 x4.2.2.2.2.2.2.2.2.2.2.2.2.1),(.int .i64 x4.2.2.2.2.2.2.2.2.2.2.2.2.2.1),(.str x4.2.2.2.2.2.2.2.2.2.2.2.2.2.2.1),(yL x4.2.2.2.2.2.2.2.2.2.2.2.2.2.2.2.1),(.int .i64 x4.2.2.2.2.2.2.2.2.2.2.2.2.2.2.2.2.1),(.int .i64 x4.2.2.2.2.2.2.2.2.2.2.2.2.2.2.2.2.2.1),(.str x4.2.2.2.2.2.2.2.2.2.2.2.2.2.2.2.2.2.2.1),(yL x4.2.2.2.2.2.2.2.2.2.2.2.2.2.2.2.2.2.2.2.1),(.int .i64 x4.2.2.2.2.2.2.2.2.2.2.2.2.2.2.2.2.2.2.2.2.1),(.str x4.2.2.2.2.2.2.2.2.2.2.2.2.2.2.2.2.2.2.2.2.2.1),(yL x4.2.2.2.2.2.2.2.2.2.2.2.2.2.2.2.2.2.2.2.2.2.2.1),(.str x4.2.2.2.2.2.2.2.2.2.2.2.2.2.2.2.2.2.2.2.2.2.2.2.1),(yL x4.2.2.2.2.2.2.2.2.2.2.2.2.2.2.2.2.2.2.2.2.2.2.2.2.1),(yL x4.2.2.2.2.2.2.2.2.2.2.2.2.2.2.2.2.2.2.2.2.2.2.2.2.2.1),(.int .i64 x4.2.2.2.2.2.2.2.2.2.2.2.2.2.2.2.2.2.2.2.2.2.2.2.2.2.2.1),(.int .i64 x4.2.2.2.2.2.2.2.2.2.2.2.2.2.2.2.2.2.2.2.2.2.2.2.2.2.2.2.1),(.str x4.2.2.2.2.2.2.2.2.2.2.2.2.2.2.2.2.2.2.2.2.2.2.2.2.2.2.2.2.1),(yL x4.2.2.2.2.2.2.2.2.2.2.2.2.2.2.2.2.2.2.2.2.2.2.2.2.2.2.2.2.2.1),(yL x4.2.2.2.2.2.2.2.2.2.2.2.2.2.2.2.2.2.2.2.2.2.2.2.2.2.2.2.2.2.2.1),(yL x4.2.2.2.2.2.2.2.2.2.2.2.2.2.2.2.2.2.2.2.2.2.2.2.2.2.2.2.2.2.2.2.1)]) fun h6=>
  (dA (.val zA) (h6.cells (h.next,0) 32) fun (x7:zP)=>
  let h8:Heap:=h6.push (.row [(.int .i64 0),(.int .i64 0),(.bool false),(.str []),(.int .i64 0),(.str []),(.slice none 0 0 0),(.slice none 0 0 0),(.bool false),(.str []),(.slice none 0 0 0),(.int .i64 0),(.int .i64 0),(.int .i64 0),(.str []),(.slice none 0 0 0),(.int .i64 0),(.int .i64 0),(.str []),(.slice none 0 0 0),(.int .i64 0),(.str []),(.slice none 0 0 0),(.str []),(.slice none 0 0 0),(.slice none 0 0 0),(.int .i64 0),(.int .i64 0),(.str []),(.slice none 0 0 0),(.slice none 0 0 0),(.slice none 0 0 0)] .own)
  (bB (h8.store (h6.next,0) [(.int .i64 x7.1),(.int .i64 x7.2.1),(.bool x7.2.2.1),(.str x7.2.2.2.1),(.int .i64 x7.2.2.2.2.1),(.str x7.2.2.2.2.2.1),(yL x7.2.2.2.2.2.2.1),(yL x7.2.2.2.2.2.2.2.1),(.bool x7.2.2.2.2.2.2.2.2.1),(.str x7.2.2.2.2.2.2.2.2.2.1),(yL x7.2.2.2.2.2.2.2.2.2.2.1),(.int .i64 x7.2.2.2.2.2.2.2.2.2.2.2.1),(.int .i64 x7.2.2.2.2.2.2.2.2.2.2.2.2.1),(.int .i64 x7.2.2.2.2.2.2.2.2.2.2.2.2.2.1),(.str x7.2.2.2.2.2.2.2.2.2.2.2.2.2.2.1),(yL x7.2.2.2.2.2.2.2.2.2.2.2.2.2.2.2.1),(.int .i64 x7.2.2.2.2.2.2.2.2.2.2.2.2.2.2.2.2.1),(.int .i64 x7.2.2.2.2.2.2.2.2.2.2.2.2.2.2.2.2.2.1),(.str x7.2.2.2.2.2.2.2.2.2.2.2.2.2.2.2.2.2.2.1),(yL x7.2.2.2.2.2.2.2.2.2.2.2.2.2.2.2.2.2.2.2.1),(.int .i64 x7.2.2.2.2.2.2.2.2.2.2.2.2.2.2.2.2.2.2.2.2.1),(.str x7.2.2.2.2.2.2.2.2.2.2.2.2.2.2.2.2.2.2.2.2.2.1),(yL x7.2.2.2.2.2.2.2.2.2.2.2.2.2.2.2.2.2.2.2.2.2.2.1),(.str x7.2.2.2.2.2.2.2.2.2.2.2.2.2.2.2.2.2.2.2.2.2.2.2.1),(yL x7.2.2.2.2.2.2.2.2.2.2.2.2.2.2.2.2.2.2.2.2.2.2.2.2.1),(yL x7.2.2.2.2.2.2.2.2.2.2.2.2.2.2.2.2.2.2.2.2.2.2.2.2.2.1),(.int .i64 x7.2.2.2.2.2.2.2.2.2.2.2.2.2.2.2.2.2.2.2.2.2.2.2.2.2.2.1),(.int .i64 x7.2.2.2.2.2.2.2.2.2.2.2.2.2.2.2.2.2.2.2.2.2.2.2.2.2.2.2.1),(.str x7.2.2.2.2.2.2.2.2.2.2.2.2.2.2.2.2.2.2.2.2.2.2.2.2.2.2.2.2.1),(yL x7.2.2.2.2.2.2.2.2.2.2.2.2.2.2.2.2.2.2.2.2.2.2.2.2.2.2.2.2.2.1),(yL x7.2.2.2.2.2.2.2.2.2.2.2.2.2.2.2.2.2.2.2.2.2.2.2.2.2.2.2.2.2.2.1),(yL x7.2.2.2.2.2.2.2.2.2.2.2.2.2.2.2.2.2.2.2.2.2.2.2.2.2.2.2.2.2.2.2.1)]) fun h9=>
  (bB (h9.store ((h6.next,0).1,(h6.next,0).2+0) [(.int .i64 0)]) fun h10=>
  (bB (h10.store ((h6.next,0).1,(h6.next,0).2+1) [(.int .i64 0)]) fun h11=>
  (bB (h11.store ((h6.next,0).1,(h6.next,0).2+30) [(.slice none 0 0 0)]) fun h12=>
  (bB (h12.store ((h6.next,0).1,(h6.next,0).2+31) [(.slice none 0 0 0)]) fun h13=>
  (bB (α:=Sum (zW×Heap) (Sum (zC1×Heap) (Empty))) (
 dB8 N v0 v1 v4 v5 h.next h6.next h13) fun j81=>
  (kC j81 (fun (j82:zW) h83=>
   (mA (α:=zW) (
 tBb N j82 h83) fun (j107:zW) h108=>
   eB8 N rec88 j107 h108)) fun j84=>
  (kC j84 (fun (j201:zC1) h202=>
   some (Sum.inr (Sum.inl ((j201.1,()),h202)))) fun _=>
  none))))))))))))) fun j204=>
  (kC j204 (fun (j205:zB2) h206=>
  let x208:Int:=jB .i64 (j205.2.2.2.1+1)
  go j205.1 j205.2.1 j205.2.2.1 x208 h206) fun j207=>
  (kC j207 (fun (j209:zC1) h210=>
  some (Out.ret,(j209.1,()),h210)) fun _=>
  none)))
 else
  some ((Out.exit 0),(v4,()),h))
 ):=rfl
end Qp
namespace Qp
structure RdS (G:Heap) (A:Nat) (rr:SmR):Prop where
 k:G.cell (A,0)=some (.int .i64 rr.k)
 nm:G.cell (A,3)=some (.str rr.nm)
 ty:G.cells (A,4) 4=some (.agg (tyc rr.ty))
 has:G.cell (A,8)=some (.bool rr.has)
 pl:G.cells (A,9) 2=some (.agg (lfc rr.pl))
 va:G.cells (A,11) 15=some (.agg (vac rr.va))
 vk:G.cell (A,11)=some (.int .i64 rr.va.1)
 co:G.cells (A,26) 4=some (.agg (opc rr.co))
 th:G.cell (A,30)=some (yL rr.th)
 el:G.cell (A,31)=some (yL rr.el)
theorem RdS.of {G:Heap} {A:Nat} {rr:SmR} (o:G.own A (smc rr)):RdS G A rr:=⟨o.cell 0,o.cell 3,o.cells (j:=4) (m:=4) (show 4+4<=32 by decide),o.cell 8,o.cells (j:=9) (m:=2) (show 9+2<=32 by decide),o.cells (j:=11) (m:=15) (show 11+15<=32 by decide),o.cell 11,o.cells (j:=26) (m:=4) (show 26+4<=32 by decide),o.cell 30,o.cell 31⟩
def z0R (rr:SmR):SmR:={ rr with k:=0,at_:=0,th:=sl0,el:=sl0 }
inductive SwR (rr:SmR) (ty pl va co:D):Bool->Bool->Bool->SmR->Prop
 | let_ {ok} (hk:rr.k=1) (h:ok=true↔eC rr.nm=true/\dG 64 ty):SwR rr ty pl va co ok false false { z0R rr with m:=false,nm:=[],ty:=yW }
 | set {ok} (hk:rr.k=2) (h:ok=true↔lH pl/\mayVa va):SwR rr ty pl va co ok false false { z0R rr with pl:=lf0,va:=va0 }
 | call {ok} (hk:rr.k=3) (h:ok=true↔mayVa va/\rr.va.1=6):SwR rr ty pl va co ok false false { z0R rr with va:=va0 }
 | if_ {ok} (hk:rr.k=4) (h:ok=true↔qC co):SwR rr ty pl va co ok true rr.has { z0R rr with co:=dF,has:=false }
 | while_ {ok} (hk:rr.k=5) (h:ok=true↔qC co):SwR rr ty pl va co ok true false { z0R rr with co:=dF }
 | loop {ok} (hk:rr.k=6\/rr.k=7) (h:ok=true):SwR rr ty pl va co ok true false (z0R rr)
 | break_ {ok} (hk:rr.k=8\/rr.k=9\/rr.k=10) (h:ok=true):SwR rr ty pl va co ok false false (z0R rr)
 | drop {ok} (hk:rr.k=11) (h:ok=true↔lH pl):SwR rr ty pl va co ok false false { z0R rr with pl:=lf0 }
section
variable {N:Nat} {h:Heap} {V:Nat->Prop}
theorem lAs (hN:200<=N) {HA H:Heap} {A:Nat} {rr z:SmR} {va:D} (hva:rVa va) (hw:wtD va<N) (hwl:wtD va<=9223372036854775807) (oA:HA.own A (smc rr)) (w:W1 HA H (smc z)) (xv:Dt HA V va (vac rr.va)) (v0:SL) (v1:Int) (v4:Bool) (v5:Int) (ok th el:Bool) :
  ∃ ok' z' H',tBb N (v0,v1,v4,v5,some (A,0),some (HA.next,0),ok,th,el,()) H=some ((v0,v1,v4,v5,some (A,0),some (HA.next,0),ok',th,el,()),H')/\W1 HA H' (smc z')/\
   (((rr.k=1\/rr.k=10)/\rr.has=true/\z' = { z with va:=va0,has:=false }/\(ok'=true↔ok=true/\mayVa va))\/(¬ ((rr.k=1\/rr.k=10)/\rr.has=true)/\z'=z/\ok'=ok)):=by
 unfold tBb;have r:=RdS.of (oA.chg w.c (by simp));have hA:A<HA.next:=oA.2;simp only [fA,Nat.zero_add,Nat.add_zero,r.k,r.has,bA,vA,uB];have yes:(rr.k=1\/rr.k=10)/\rr.has=true->∃ ok' z' H',(mA (α:=J9) (bif ok then (dA (.val zC) (H.cells (A,11) 15) fun (x98:VaV)=>(mA (f136 N (tV x98) H) fun (x99:Bool) h100=>some ((v0,v1,v4,v5,some (A,0),some (HA.next,0),x99,th,el,()),h100))) else some ((v0,v1,v4,v5,some (A,0),some (HA.next,0),false,th,el,()),H)) fun (j101:J9) h102=>
   (bB j101.2.2.2.2.2.1 fun q103=>(bB (h102.store (q103.1,q103.2+11) yZB) fun h104=>(bB j101.2.2.2.2.2.1 fun q105=>(bB (h104.store (q105.1,q105.2+8) [(.bool false)]) fun h106=>some ((j101.1,j101.2.1,j101.2.2.1,j101.2.2.2.1,j101.2.2.2.2.1,j101.2.2.2.2.2.1,j101.2.2.2.2.2.2.1,j101.2.2.2.2.2.2.2.1,j101.2.2.2.2.2.2.2.2.1,()),h106))))))=some ((v0,v1,v4,v5,some (A,0),some (HA.next,0),ok',th,el,()),H')/\W1 HA H' (smc z')/\
   (((rr.k=1\/rr.k=10)/\rr.has=true/\z' = { z with va:=va0,has:=false }/\(ok'=true↔ok=true/\mayVa va))\/(¬ ((rr.k=1\/rr.k=10)/\rr.has=true)/\z'=z/\ok'=ok)):=by
  intro hk;have fst:∃ ok' H1,(bif ok then (dA (.val zC) (H.cells (A,11) 15) fun (x98:VaV)=>(mA (f136 N (tV x98) H) fun (x99:Bool) h100=>some (((v0,v1,v4,v5,some (A,0),some (HA.next,0),x99,th,el,()):J9),h100))) else some ((v0,v1,v4,v5,some (A,0),some (HA.next,0),false,th,el,()),H))=some ((v0,v1,v4,v5,some (A,0),some (HA.next,0),ok',th,el,()),H1)/\Chg [] H H1/\(ok'=true↔ok=true/\mayVa va):=by
   cases ok with
   | false=>exact ⟨false,H,rfl,Chg.refl _ _,(fun h=>by cases h),fun h=>h.1⟩
   | true=>
    simp only [cond_true];rw [r.va,pN];obtain ⟨b,H1,e,c,hb⟩:=pA4 (N:=N) hN hva hw (Dt.chg w.c (by simp) xv) hwl;have e':f136 N (tV rr.va) H=some (b,H1):=e;rw [e',aA]
    grind
  obtain ⟨ok',H1,e1,c1,hok⟩:=fst;rw [e1,aA];obtain ⟨H2,p2,w2,c2,n2⟩:=(w.call c1).set (j:=11) (vs:=yZB) (show 11+15<=32 by decide) (ds:=smc { z with va:=va0 }) (by simp only [smc,smx,smv];rfl);obtain ⟨H3,p3,w3,c3,n3⟩:=w2.set (j:=8) (vs:=[(.bool false)]) (show 8+1<=32 by decide) (ds:=smc { z with va:=va0,has:=false }) (by simp only [smc,smx,smv];rfl);simp only [fA,Nat.zero_add]
  grind
 by_cases k1:rr.k=1
 ·have q:eA rr.k 1=true:=by rw [k1];rfl
  simp only [q,cond_true,aA]
  cases hh:rr.has with
  | false=>grind
  | true=>
   have:=yes ⟨.inl k1,hh⟩
   rw [hh] at this;exact this
 have q1:eA rr.k 1=false:=by rw [eqI];grind
 by_cases k10:rr.k=10
 ·have q:eA rr.k 10=true:=by rw [k10];rfl
  simp only [q1,q,cond_true,cond_false,aA]
  cases hh:rr.has with
  | false=>grind
  | true=>
   have:=yes ⟨.inr k10,hh⟩
   rw [hh] at this;exact this
 have q:eA rr.k 10=false:=by rw [eqI];grind
 simp only [q1,q,cond_false,aA]
 grind
end
end Qp
namespace Qp
section
variable {N:Nat} {h:Heap} {V:Nat->Prop}
theorem vF {k n:Int} (h:k≠n):eA k n=false:=by rw [eqI];exact decide_eq_false h
theorem wF {k n:Int} (h:k=n):eA k n=true:=by rw [eqI];exact decide_eq_true h
set_option maxHeartbeats 4000000 in
theorem mAs (hN:200<=N) {HA H:Heap} {A:Nat} {rr:SmR} {ty pl va co:D} (ht:rTy ty) (htw:Wt Tryz.prog ty 41) (hty:wtD ty<N) (hp:rLf pl) (hva:rVa va) (hco:rOp co) (hw:wtD va<N) (hwl:wtD va<=9223372036854775807) (oA:HA.own A (smc rr)) (w:W1 HA H (smc (z0R rr)))
  (xt:Dt HA V ty (tyc rr.ty)) (xp:Dt HA V pl (lfc rr.pl)) (xv:Dt HA V va (vac rr.va)) (xc:Dt HA V co (opc rr.co)) (v0:SL) (v1:Int) (v4:Bool) (v5:Int) :
  (∃ ok th el z H',dB8 N v0 v1 v4 v5 A HA.next H=some (Sum.inl ((v0,v1,v4,v5,some (A,0),some (HA.next,0),ok,th,el,()),H'))/\W1 HA H' (smc z)/\SwR rr ty pl va co ok th el z)\/∃ H',dB8 N v0 v1 v4 v5 A HA.next H=some (Sum.inr (Sum.inl ((false,()),H')))/\Chg [] HA H'/\¬ (1<=rr.k/\rr.k<=11):=by
 unfold dB8;have r:=RdS.of (oA.chg w.c (by simp));have rd:∀ {G:Heap},Chg [] HA G->RdS G A rr:=fun c=>RdS.of (oA.chg c (by simp));have hA:A<HA.next:=oA.2;have up:∀ {G:Heap} {cs:List AV} {d:D} {ds:List AV},W1 HA G cs->Dt HA V d ds->Dt G V d ds:=fun w y=>Dt.chg w.c (by simp) y;simp only [Nat.zero_add,Nat.add_zero,r.k,bA,vA]
 by_cases k1:rr.k=1
 ·left
  simp only [wF k1,cond_true,r.nm,bA,kA];obtain ⟨H1,e1,c1⟩:=pG (N:=N) (by omega) rr.nm H;have w1:=w.call c1;have fst:∃ ok H2,(mA (f46 N rr.nm H) fun (x17:Bool) h18=>(bif x17 then (dA (.val zE) (h18.cells (A,4) 4) fun (x19:TyV)=>(mA (f21 N N x19 1 h18) fun (x20:Bool) h21=>some (((v0,v1,v4,v5,some (A,0),some (HA.next,0),x20,false,false,()):J9),h21))) else some ((v0,v1,v4,v5,some (A,0),some (HA.next,0),false,false,false,()),h18)))=some ((v0,v1,v4,v5,some (A,0),some (HA.next,0),ok,false,false,()),H2)/\W1 HA H2 (smc (z0R rr))/\(ok=true↔eC rr.nm=true/\dG 64 ty):=by
   rw [e1,aA]
   cases hn:eC rr.nm with
   | false=>grind
   | true=>
    simp only [cond_true];rw [(rd w1.c).ty,vJ];obtain ⟨b,H2,e2,c2,hb⟩:=cAd (N:=N) hN hty htw (up w1 xt);have e2':f21 N N (rr.ty.1,rr.ty.2.1,rr.ty.2.2.1,rr.ty.2.2.2.1,()) 1 H1=some (b,H2):=e2;rw [e2',aA];exact ⟨b,H2,rfl,w1.call c2,(fun h=>⟨by trivial,hb.1 h⟩),fun h=>hb.2 h.2⟩
  obtain ⟨ok,H2,e2,w2,hok⟩:=fst;rw [e2,aA];obtain ⟨H3,p3,w3,c3,n3⟩:=w2.set (j:=2) (vs:=[(.bool false)]) (show 2+1<=32 by decide) (ds:=smc { z0R rr with m:=false }) (by simp only [smc,smx,smv];rfl);obtain ⟨H4,p4,w4,c4,n4⟩:=w3.set (j:=3) (vs:=[(.str [])]) (show 3+1<=32 by decide) (ds:=smc { z0R rr with m:=false,nm:=[] }) (by simp only [smc,smx,smv];rfl);obtain ⟨H5,p5,w5,c5,n5⟩:=w4.set (j:=4) (vs:=[(.int .i64 0),(.str []),(.slice none 0 0 0),(.slice none 0 0 0)]) (show 4+4<=32 by decide) (ds:=smc { z0R rr with m:=false,nm:=[],ty:=yW }) (by simp only [smc,smx,smv];rfl);simp only [fA,Nat.zero_add];rw [p3,p4,p5];exact ⟨ok,false,false,_,H5,rfl,w5,.let_ k1 hok⟩
 simp only [vF k1,cond_false]
 by_cases k2:rr.k=2
 ·left
  simp only [wF k2,cond_true];have fst:∃ ok H2,(dA (.val zG) (H.cells (A,9) 2) fun (x31:LfV)=>(mA (f135 N (x31.1,x31.2.1,()) H) fun (x32:Bool) h33=>(bif x32 then (dA (.val yV) (h33.cells (A,11) 15) fun (x34:VaV)=>(mA (f136 N (tV x34) h33) fun (x35:Bool) h36=>some (((v0,v1,v4,v5,some (A,0),some (HA.next,0),x35,false,false,()):J9),h36))) else some ((v0,v1,v4,v5,some (A,0),some (HA.next,0),false,false,false,()),h33))))=some ((v0,v1,v4,v5,some (A,0),some (HA.next,0),ok,false,false,()),H2)/\W1 HA H2 (smc (z0R rr))/\(ok=true↔lH pl/\mayVa va):=by
   rw [r.pl,jH];obtain ⟨b1,H1,e1,c1,hb1⟩:=uU (N:=N) hN hp (up w xp);have e1':f135 N (rr.pl.1,rr.pl.2.1,()) H=some (b1,H1):=e1;rw [e1',aA];have w1:=w.call c1
   cases b1 with
   | false=>grind
   | true=>
    simp only [cond_true];rw [(rd w1.c).va,pN];obtain ⟨b2,H2,e2,c2,hb2⟩:=pA4 (N:=N) hN hva hw (up w1 xv) hwl;have e2':f136 N (tV rr.va) H1=some (b2,H2):=e2;rw [e2',aA];exact ⟨b2,H2,rfl,w1.call c2,(fun h=>⟨hb1.1 rfl,hb2.1 h⟩),fun h=>hb2.2 h.2⟩
  obtain ⟨ok,H2,e2,w2,hok⟩:=fst;show ∃ ok th el z H',(mA (α:=J9) (dA (.val zG) (H.cells (A,9) 2) fun (x31:LfV)=>(mA (f135 N (x31.1,x31.2.1,()) H) fun (x32:Bool) h33=>(bif x32 then (dA (.val yV) (h33.cells (A,11) 15) fun (x34:VaV)=>(mA (f136 N (tV x34) h33) fun (x35:Bool) h36=>some (((v0,v1,v4,v5,some (A,0),some (HA.next,0),x35,false,false,()):J9),h36))) else some ((v0,v1,v4,v5,some (A,0),some (HA.next,0),false,false,false,()),h33)))) _)=_/\_;rw [e2,aA];obtain ⟨H3,p3,w3,c3,n3⟩:=w2.set (j:=9) (vs:=[(.str []),(.slice none 0 0 0)]) (show 9+2<=32 by decide) (ds:=smc { z0R rr with pl:=lf0 }) (by simp only [smc,smx,smv];rfl);obtain ⟨H4,p4,w4,c4,n4⟩:=w3.set (j:=11) (vs:=yZB) (show 11+15<=32 by decide) (ds:=smc { z0R rr with pl:=lf0,va:=va0 }) (by simp only [smc,smx,smv];rfl);simp only [fA,Nat.zero_add];rw [p3,p4];exact ⟨ok,false,false,_,H4,rfl,w4,.set k2 hok⟩
 simp only [vF k2,cond_false]
 by_cases k3:rr.k=3
 ·left
  simp only [wF k3,cond_true];have fst:∃ ok H2,(dA (.val yV) (H.cells (A,11) 15) fun (x34:VaV)=>(mA (f136 N (tV x34) H) fun (x35:Bool) h36=>(bif x35 then (dA (.val zO2) (h36.cell (A,11)) fun (x47:Int)=>some (((v0,v1,v4,v5,some (A,0),some (HA.next,0),eA x47 6,false,false,()):J9),h36)) else some ((v0,v1,v4,v5,some (A,0),some (HA.next,0),false,false,false,()),h36))))=some ((v0,v1,v4,v5,some (A,0),some (HA.next,0),ok,false,false,()),H2)/\W1 HA H2 (smc (z0R rr))/\(ok=true↔mayVa va/\rr.va.1=6):=by
   rw [r.va,pN];obtain ⟨b2,H2,e2,c2,hb2⟩:=pA4 (N:=N) hN hva hw (up w xv) hwl;have e2':f136 N (tV rr.va) H=some (b2,H2):=e2;rw [e2',aA];have w2:=w.call c2
   cases b2 with
   | false=>grind
   | true=>
    simp only [cond_true,(rd w2.c).vk,bA,vA];refine ⟨_,H2,rfl,w2,fun h=>⟨hb2.1 rfl,?_⟩,fun h=>by rw [eqI,decide_eq_true_eq];exact h.2⟩;rw [eqI,decide_eq_true_eq] at h;exact h
  obtain ⟨ok,H2,e2,w2,hok⟩:=fst;show ∃ ok th el z H',(mA (α:=J9) (dA (.val yV) (H.cells (A,11) 15) fun (x34:VaV)=>(mA (f136 N (tV x34) H) fun (x35:Bool) h36=>(bif x35 then (dA (.val zO2) (h36.cell (A,11)) fun (x47:Int)=>some (((v0,v1,v4,v5,some (A,0),some (HA.next,0),eA x47 6,false,false,()):J9),h36)) else some ((v0,v1,v4,v5,some (A,0),some (HA.next,0),false,false,false,()),h36)))) _)=_/\_;rw [e2,aA];obtain ⟨H4,p4,w4,c4,n4⟩:=w2.set (j:=11) (vs:=yZB) (show 11+15<=32 by decide) (ds:=smc { z0R rr with va:=va0 }) (by simp only [smc,smx,smv];rfl);simp only [fA,Nat.zero_add];rw [p4];exact ⟨ok,false,false,_,H4,rfl,w4,.call k3 hok⟩
 simp only [vF k3,cond_false]
 by_cases k4:rr.k=4
 ·left
  simp only [wF k4,cond_true];rw [r.co,dH];obtain ⟨b1,H1,e1,c1,hb1⟩:=kN (N:=N) hN hco (up w xc);have e1':f137 N (rr.co.1,rr.co.2.1,rr.co.2.2.1,rr.co.2.2.2.1,()) H=some (b1,H1):=e1;rw [e1',aA];have w1:=w.call c1;have r1:=rd w1.c;have sC:mB (some (.agg (opc rr.co))) (.agg [(.int .i64 rr.co.1),(.int .i64 rr.co.2.1),(.str rr.co.2.2.1),(yL rr.co.2.2.2.1)])=true:=nB _;simp only [r1.has,r.has,bA,uB,nB,sC,cond_true,qB];obtain ⟨H3,p3,w3,c3,n3⟩:=w1.set (j:=26) (vs:=[(.int .i64 0),(.int .i64 0),(.str []),(.slice none 0 0 0)]) (show 26+4<=32 by decide) (ds:=smc { z0R rr with co:=dF }) (by simp only [smc,smx,smv];rfl);obtain ⟨H4,p4,w4,c4,n4⟩:=w3.set (j:=8) (vs:=[(.bool false)]) (show 8+1<=32 by decide) (ds:=smc { z0R rr with co:=dF,has:=false }) (by simp only [smc,smx,smv];rfl);rw [p3,p4];exact ⟨b1,true,rr.has,_,H4,rfl,w4,.if_ k4 hb1⟩
 simp only [vF k4,cond_false]
 by_cases k5:rr.k=5
 ·left
  simp only [wF k5,cond_true];rw [r.co,dH];obtain ⟨b1,H1,e1,c1,hb1⟩:=kN (N:=N) hN hco (up w xc);have e1':f137 N (rr.co.1,rr.co.2.1,rr.co.2.2.1,rr.co.2.2.2.1,()) H=some (b1,H1):=e1;rw [e1',aA];have w1:=w.call c1;obtain ⟨H3,p3,w3,c3,n3⟩:=w1.set (j:=26) (vs:=[(.int .i64 0),(.int .i64 0),(.str []),(.slice none 0 0 0)]) (show 26+4<=32 by decide) (ds:=smc { z0R rr with co:=dF }) (by simp only [smc,smx,smv];rfl);rw [p3];exact ⟨b1,true,false,_,H3,rfl,w3,.while_ k5 hb1⟩
 simp only [vF k5,cond_false]
 by_cases k6:rr.k=6
 ·left
  simp only [wF k6,cond_true,aA];exact ⟨_,_,_,_,H,rfl,w,.loop (.inl k6) rfl⟩
 simp only [vF k6,cond_false]
 by_cases k7:rr.k=7
 ·left
  simp only [wF k7,cond_true,aA];exact ⟨_,_,_,_,H,rfl,w,.loop (.inr k7) rfl⟩
 simp only [vF k7,cond_false,aA]
 by_cases k8:rr.k=8
 ·left
  simp only [wF k8,cond_true,aA];exact ⟨_,_,_,_,H,rfl,w,.break_ (.inl k8) rfl⟩
 simp only [vF k8,cond_false]
 by_cases k9:rr.k=9
 ·left
  simp only [wF k9,cond_true,aA];exact ⟨_,_,_,_,H,rfl,w,.break_ (.inr (.inl k9)) rfl⟩
 simp only [vF k9,cond_false]
 by_cases k10:rr.k=10
 ·left
  simp only [wF k10,cond_true,aA];exact ⟨_,_,_,_,H,rfl,w,.break_ (.inr (.inr k10)) rfl⟩
 simp only [vF k10,cond_false,aA]
 by_cases k11:rr.k=11
 ·left
  simp only [wF k11,cond_true,fA,Nat.zero_add];rw [r.pl,jH];obtain ⟨b1,H1,e1,c1,hb1⟩:=uU (N:=N) hN hp (up w xp);have e1':f135 N (rr.pl.1,rr.pl.2.1,()) H=some (b1,H1):=e1;rw [e1',aA];have w1:=w.call c1;obtain ⟨H3,p3,w3,c3,n3⟩:=w1.set (j:=9) (vs:=[(.str []),(.slice none 0 0 0)]) (show 9+2<=32 by decide) (ds:=smc { z0R rr with pl:=lf0 }) (by simp only [smc,smx,smv];rfl);rw [p3];exact ⟨b1,false,false,_,H3,rfl,w3,.drop k11 hb1⟩
 simp only [vF k11,cond_false];exact .inr ⟨H,rfl,w.c,by omega⟩
end
end Qp
namespace Qp
structure TlR (HA H':Heap) (rr z:SmR) (ok th el:Bool) (Pt Pe:Prop):Prop where
 c:Chg [] HA H'
 ok:ok=true
 z:zSm z=true
 t0:th=false->rr.th.len=0
 e0:el=false->rr.el.len=0
 t:th=true->Pt
 e:el=true->Pe
inductive TlN (rr z:SmR):Bool->Bool->Bool->Prop->Prop->Prop
 | ok {th el Pt Pe}:TlN rr z false th el Pt Pe
 | z {ok th el Pt Pe} (h:zSm z=false):TlN rr z ok th el Pt Pe
 | t0 {ok el Pt Pe} (h:0<rr.th.len):TlN rr z ok false el Pt Pe
 | e0 {ok th Pt Pe} (h:0<rr.el.len):TlN rr z ok th false Pt Pe
 | t {ok el Pt Pe} (h:¬ Pt):TlN rr z ok true el Pt Pe
 | e {ok th Pt Pe} (h:¬ Pe):TlN rr z ok th true Pt Pe
section
variable {N:Nat} {h:Heap} {V:Nat->Prop}
theorem lt0 (n:Nat):ltInt 0 (Int.ofNat n)=decide (0<n):=by
 grind [ltI,decide_eq_true,Int.ofNat_lt,decide_eq_false]
theorem nAs (hN:200<=N) {rec88:SL->Int->Heap->Option (Bool×Heap)} {HA H:Heap} {A:Nat} {rr z:SmR} (hzt:z.th=sl0) (hze:z.el=sl0) (oA:HA.own A (smc rr)) (w:W1 HA H (smc z)) (v0:SL) (v1:Int) (v4:Bool) (v5:Int) (ok th el:Bool) {Pt Pe:Prop}
  (hrt:∀ G,Chg [] HA G->∃ b G',rec88 rr.th (jB .i64 (v1+1)) G=some (b,G')/\Chg [] G G'/\(b=true↔Pt)) (hre:∀ G,Chg [] HA G->∃ b G',rec88 rr.el (jB .i64 (v1+1)) G=some (b,G')/\Chg [] G G'/\(b=true↔Pe)) :
  (∃ H',eB8 N rec88 (v0,v1,v4,v5,some (A,0),some (HA.next,0),ok,th,el,()) H=some (Sum.inl ((v0,v1,v4,v5,()),H'))/\TlR HA H' rr z ok th el Pt Pe)\/
   ∃ H',eB8 N rec88 (v0,v1,v4,v5,some (A,0),some (HA.next,0),ok,th,el,()) H=some (Sum.inr (Sum.inl ((false,()),H')))/\Chg [] HA H'/\TlN rr z ok th el Pt Pe:=by
 unfold eB8
 cases ok with
 | false=>exact .inr ⟨H,rfl,w.c,.ok⟩
 | true=>
 simp only [Bool.not_true,cond_false,fA];have cB:H.cells (HA.next,0) 32=some (.agg (smx (smv z))):=w.o.cells (j:=0) (m:=32) (Nat.le_refl _);rw [cB,gG];have o1:=wA H (smc z);have c1:=tA H (.row (smc z) .own);have e1:H.push (.row (yRA (smv z)) .own)=H.push (.row (smc z) .own):=rfl;rw [e1];generalize H.push (.row (smc z) .own)=H1 at *;have o2:=wA H1 (smc (mE 0));have c2:=tA H1 (.row (smc (mE 0)) .own);have e2:H1.push (.row yZA .own)=H1.push (.row (smc (mE 0)) .own):=rfl;rw [e2];have o12:=o1.chg c2 (by simp);generalize H1.push (.row (smc (mE 0)) .own)=H2 at *;obtain ⟨H3,e3,c3⟩:=vB5 (N:=N) (by omega) (M:=N) (by omega) z hzt hze o12 o2;rw [e3,aA];have c03:Chg [] HA H3:=((w.c.trans c1).trans c2).trans c3;have rd:∀ {G:Heap},Chg [] HA G->RdS G A rr:=fun c=>RdS.of (oA.chg c (by simp));have r3:=rd c03
 cases hz:zSm z with
 | false=>exact .inr ⟨H3,rfl,c03,.z hz⟩
 | true=>
 simp only [Bool.not_true,cond_false]
 cases th with
 | false=>
  simp only [Bool.not_false,cond_true,cond_false,Nat.zero_add,r3.th,r3.el,bA,jA,lt0]
  by_cases q:0<rr.th.len
  ·simp only [q,decide_true,cond_true]
   exact .inr ⟨H3,rfl,c03,.t0 q⟩
  ·simp only [q,decide_false,cond_false]
   have q0:rr.th.len=0:=by omega
   cases el with
   | false=>
    simp only [Bool.not_false,cond_true,cond_false]
    by_cases p:0<rr.el.len
    ·simp only [p,decide_true,cond_true]
     exact .inr ⟨H3,rfl,c03,.e0 p⟩
    ·simp only [p,decide_false,cond_false]
     exact .inl ⟨H3,rfl,⟨c03,rfl,hz,fun _=>q0,(fun _=>by omega),(fun h=>by cases h),(fun h=>by cases h)⟩⟩
   | true=>
    simp only [Bool.not_true,cond_true,cond_false];obtain ⟨b,H4,e4,c4,hb⟩:=hre H3 c03;rw [e4,aA]
    cases b with
    | false=>exact .inr ⟨H4,rfl,c03.trans c4,.e fun h=>by cases hb.2 h⟩
    | true=>exact .inl ⟨H4,rfl,⟨c03.trans c4,rfl,hz,fun _=>q0,(fun h=>by cases h),(fun h=>by cases h),fun _=>hb.1 rfl⟩⟩
 | true=>
  simp only [Bool.not_true,cond_true,cond_false,Nat.zero_add,r3.th,r3.el,bA,jA,lt0];obtain ⟨b,H4,e4,c4,hb⟩:=hrt H3 c03;have c04:=c03.trans c4
  cases el with
  | false=>
   simp only [Bool.not_false,cond_true,cond_false]
   by_cases p:0<rr.el.len
   ·simp only [p,decide_true,cond_true]
    exact .inr ⟨H3,rfl,c03,.e0 p⟩
   ·simp only [p,decide_false,cond_false]
    rw [e4,aA]
    cases b with
    | false=>exact .inr ⟨H4,rfl,c04,.t fun h=>by cases hb.2 h⟩
    | true=>exact .inl ⟨H4,rfl,⟨c04,rfl,hz,(fun h=>by cases h),(fun _=>by omega),fun _=>hb.1 rfl,(fun h=>by cases h)⟩⟩
  | true=>
   simp only [Bool.not_true,cond_true,cond_false];rw [e4,aA]
   cases b with
   | false=>exact .inr ⟨H4,rfl,c04,.t fun h=>by cases hb.2 h⟩
   | true=>
    simp only [Bool.not_true,cond_false,(rd c04).el,bA,jA];obtain ⟨b',H5,e5,c5,hb'⟩:=hre H4 c04;rw [e5,aA]
    cases b' with
    | false=>exact .inr ⟨H5,rfl,c04.trans c5,.e fun h=>by cases hb'.2 h⟩
    | true=>exact .inl ⟨H5,rfl,⟨c04.trans c5,rfl,hz,(fun h=>by cases h),(fun h=>by cases h),fun _=>hb.1 rfl,fun _=>hb'.1 rfl⟩⟩
end
end Qp
namespace Qp
def kdD:D->Int
 | .t (.i k::_)=>k
 | _=>0
section
variable {N:Nat} {h:Heap} {V:Nat->Prop}
theorem qY {d:D} (hd:rVa d) {r:VaV} (x:Dt h V d (vac r)) (hz:zVa r=true):d=va00:=by
 obtain ⟨k,a,b,op,pl,nm,ns,ag,rfl,ta,tb,tp,tg⟩:=hd;obtain ⟨ra,rb,rp,s1,s2,hc,xa,xb,xp,y1,y2⟩:=oY ta tb tp x;obtain rfl:=gF hc;obtain ⟨z0,z1,z2,z3,z4,z5,z6,z7⟩:=kM hz;obtain rfl:=bE ta xa z3;obtain rfl:=bE tb xb z4;obtain rfl:=lE tp xp z5;rw [y1.len,List.length_map] at z6;rw [y2.len] at z7;obtain rfl:=List.length_eq_zero_iff.1 z6;obtain rfl:=List.length_eq_zero_iff.1 z7;subst z0 z1 z2;rfl
theorem mAu {d:D} (hd:rVa d) {r:VaV} (x:Dt h V d (vac r)):kdD d=r.1:=by
 obtain ⟨k,a,b,op,pl,nm,ns,ag,rfl,ta,tb,tp,tg⟩:=hd;obtain ⟨ra,rb,rp,s1,s2,hc,xa,xb,xp,y1,y2⟩:=oY ta tb tp x;obtain rfl:=gF hc;rfl
theorem wB5 {z:SmR} (hz:zSm z=true):z.m=false/\z.nm=[]/\z.has=false/\zTy z.ty=true/\zLf z.pl=true/\zVa z.va=true/\zOp z.co=true:=by
 unfold zSm at hz;simp only [Bool.and_eq_true] at hz
 grind [tA8]
theorem oAs {g:Nat} {k a:Int} {m hs:Bool} {nm:Bs} {ty pl va co:D} {th el:List D} {rr z z':SmR} {ok ok' ft fe:Bool} {HA H':Heap} {rt:TyV} {rp:LfV} {rv:VaV} {ro:OpV} {s1 s2:SL} (hrr:rr=⟨k,a,m,nm,rt,hs,rp,rv,ro,s1,s2⟩) (t1:rTy ty) (t2:rLf pl) (t3:rVa va) (t4:rOp co)
  (xt:Dt HA V ty (tyc rr.ty)) (xp:Dt HA V pl (lfc rr.pl)) (xv:Dt HA V va (vac rr.va)) (xc:Dt HA V co (opc rr.co)) (l1:s1.len=th.length) (l2:s2.len=el.length) (sw:SwR rr ty pl va co ok ft fe z)
  (ho:((rr.k=1\/rr.k=10)/\rr.has=true/\z' = { z with va:=va0,has:=false }/\(ok'=true↔ok=true/\mayVa va))\/(¬ ((rr.k=1\/rr.k=10)/\rr.has=true)/\z'=z/\ok'=ok))
  (tl:TlR HA H' rr z' ok' ft fe (0<g/\∀ x∈th,bG g x) (0<g/\∀ x∈el,bG g x)):bG (g+1) (smT k a m nm ty hs pl va co th el):=by
 obtain ⟨cT,okT,zT,t0,e0,tt,te⟩:=tl;obtain ⟨zm,zn,zh,zt,zp,zv,zc⟩:=wB5 zT;have nil:∀ {s:SL} {l:List D},s.len=l.length->s.len=0->l=[]:=fun h1 h2=>List.length_eq_zero_iff.1 (h1.symm.trans h2);have k0:rr.k=k:=by rw [hrr]
 have m0:rr.m=m:=by rw [hrr]
 have n0:rr.nm=nm:=by rw [hrr]
 have h0:rr.has=hs:=by rw [hrr]
 have th0:rr.th=s1:=by rw [hrr]
 have el0:rr.el=s2:=by rw [hrr]
 rw [th0] at t0;rw [el0] at e0;rw [k0,h0] at ho;have none:ft=false->fe=false->th=[]/\el=[]:=fun h1 h2=>⟨nil l1 (t0 h1),nil l2 (e0 h2)⟩;refine ⟨k,a,m,nm,ty,hs,pl,va,co,th,el,rfl,?_,?_,?_⟩
 ·grind
 ·grind
 clear hrr
 cases sw with
 | let_ hk hok=>
  rw [k0] at hk;obtain ⟨rfl,rfl⟩:=none rfl rfl;rcases ho with ⟨_,p2,rfl,p4⟩ | ⟨p1,rfl,rfl⟩
  ·obtain ⟨q1,q2⟩:=p4.1 okT
   obtain ⟨q3,q4⟩:=hok.1 q1;obtain rfl:=lE t2 xp zp;obtain rfl:=bE t4 xc zc;rw [n0] at q3;subst hk;exact .let_ q3 q4 (.inl ⟨p2,q2⟩)
  ·obtain ⟨q3,q4⟩:=hok.1 okT
   obtain rfl:=lE t2 xp zp;obtain rfl:=bE t4 xc zc;obtain rfl:=qY t3 xv zv;rw [n0] at q3;subst hk
   have:hs=false:=by
    grind
   exact .let_ q3 q4 (.inr ⟨this,rfl⟩)
 | set hk hok=>
  rw [k0] at hk;obtain ⟨rfl,rfl⟩:=none rfl rfl;rcases ho with ⟨p1,_⟩ | ⟨p1,rfl,rfl⟩
  ·omega
  ·obtain ⟨⟨pn,xs,rfl,q1,q2⟩,q4⟩:=hok.1 okT
   obtain rfl:=jM t1 xt zt;obtain rfl:=bE t4 xc zc;obtain rfl:m=false:=m0.symm.trans zm;obtain rfl:nm=[]:=n0.symm.trans zn;obtain rfl:hs=false:=h0.symm.trans zh;subst hk;exact .set q1 q2 q4
 | call hk hok=>
  rw [k0] at hk;obtain ⟨rfl,rfl⟩:=none rfl rfl;rcases ho with ⟨p1,_⟩ | ⟨p1,rfl,rfl⟩
  ·omega
  ·obtain ⟨q1,q2⟩:=hok.1 okT
   have q3:=(mAu t3 xv).trans q2;obtain rfl:=jM t1 xt zt;obtain rfl:=lE t2 xp zp;obtain rfl:=bE t4 xc zc;obtain rfl:m=false:=m0.symm.trans zm;obtain rfl:nm=[]:=n0.symm.trans zn;obtain rfl:hs=false:=h0.symm.trans zh;subst hk
   cases q1 with
   | op _=>exact absurd (show (1:Int)=6 from q3) (by decide)
   | @ref k' _ hk' _=>
    have:k'=6:=q3
    omega
   | no _=>exact absurd (show (4:Int)=6 from q3) (by decide)
   | bin _ _ _=>exact absurd (show (5:Int)=6 from q3) (by decide)
   | call hn hl=>exact .call hn hl
   | make _ _ _ _=>exact absurd (show (7:Int)=6 from q3) (by decide)
 | if_ hk hok=>
  rw [k0] at hk;rcases ho with ⟨p1,_⟩ | ⟨p1,rfl,rfl⟩
  ·omega
  ·have q1:=hok.1 okT
   obtain rfl:=jM t1 xt zt;obtain rfl:=lE t2 xp zp;obtain rfl:=qY t3 xv zv;obtain rfl:m=false:=m0.symm.trans zm;obtain rfl:nm=[]:=n0.symm.trans zn;subst hk;exact .if_ (tt rfl).1 q1 fun h=>nil l2 (e0 (h0.trans h))
 | while_ hk hok=>
  rw [k0] at hk;rcases ho with ⟨p1,_⟩ | ⟨p1,rfl,rfl⟩
  ·omega
  ·have q1:=hok.1 okT
   obtain rfl:=jM t1 xt zt;obtain rfl:=lE t2 xp zp;obtain rfl:=qY t3 xv zv;obtain rfl:m=false:=m0.symm.trans zm;obtain rfl:nm=[]:=n0.symm.trans zn;obtain rfl:hs=false:=h0.symm.trans zh;obtain rfl:=nil l2 (e0 rfl);subst hk;exact .while_ (tt rfl).1 q1
 | loop hk _=>
  rw [k0] at hk;rcases ho with ⟨p1,_⟩ | ⟨p1,rfl,rfl⟩
  ·omega
  ·obtain rfl:=jM t1 xt zt
   obtain rfl:=lE t2 xp zp;obtain rfl:=qY t3 xv zv;obtain rfl:=bE t4 xc zc;obtain rfl:m=false:=m0.symm.trans zm;obtain rfl:nm=[]:=n0.symm.trans zn;obtain rfl:hs=false:=h0.symm.trans zh;obtain rfl:=nil l2 (e0 rfl);rcases hk with rfl | rfl
   ·exact .loop (tt rfl).1
   ·exact .block (tt rfl).1
 | break_ hk _=>
  rw [k0] at hk;obtain ⟨rfl,rfl⟩:=none rfl rfl;rcases ho with ⟨p1,p2,rfl,p4⟩ | ⟨p1,rfl,rfl⟩
  ·obtain ⟨_,q2⟩:=p4.1 okT
   obtain rfl:k=10:=by omega
   obtain rfl:=jM t1 xt zt;obtain rfl:=lE t2 xp zp;obtain rfl:=bE t4 xc zc;obtain rfl:m=false:=m0.symm.trans zm;obtain rfl:nm=[]:=n0.symm.trans zn;exact .ret (.inl ⟨p2,q2⟩)
  ·obtain rfl:=jM t1 xt zt
   obtain rfl:=lE t2 xp zp;obtain rfl:=qY t3 xv zv;obtain rfl:=bE t4 xc zc;obtain rfl:m=false:=m0.symm.trans zm;obtain rfl:nm=[]:=n0.symm.trans zn;obtain rfl:hs=false:=h0.symm.trans zh;rcases hk with rfl | rfl | rfl
   ·exact .break_
   ·exact .cont
   ·exact .ret (.inr ⟨rfl,rfl⟩)
 | drop hk hok=>
  rw [k0] at hk;obtain ⟨rfl,rfl⟩:=none rfl rfl;rcases ho with ⟨p1,_⟩ | ⟨p1,rfl,rfl⟩
  ·omega
  ·have q1:=hok.1 okT
   obtain rfl:=jM t1 xt zt;obtain rfl:=qY t3 xv zv;obtain rfl:=bE t4 xc zc;obtain rfl:m=false:=m0.symm.trans zm;obtain rfl:nm=[]:=n0.symm.trans zn;obtain rfl:hs=false:=h0.symm.trans zh;subst hk;exact .drop q1
theorem rA4 {r:VaV} (x:Dt h V va00 (vac r)):zVa r=true:=by
 obtain ⟨ra,rb,rp,s1,s2,hc,xa,xb,xp,y1,y2⟩:=oY ⟨0,0,pl0,rfl,[],[],rfl⟩ ⟨0,0,pl0,rfl,[],[],rfl⟩ ⟨[],[],rfl⟩ x;obtain rfl:=gF hc;exact gA1 rfl rfl rfl (cK xa) (cK xb) (bK xp) y1.len y2.len
theorem dK {z:SmR} (h1:z.k=0) (h2:z.at_=0) (h3:z.m=false) (h4:z.nm=[]) (h5:z.has=false) (h6:zTy z.ty=true) (h7:zLf z.pl=true) (h8:zVa z.va=true) (h9:zOp z.co=true):zSm z=true:=by
 unfold zSm;simp only [Bool.and_eq_true]
 grind [mA4,tA8]
theorem nAu {k k' a a':Int} {m m' hs hs':Bool} {nm nm':Bs} {ty ty' pl pl' va va' co co':D} {th th' el el':List D} (h:smT k a m nm ty hs pl va co th el=smT k' a' m' nm' ty' hs' pl' va' co' th' el'):k=k'/\m=m'/\nm=nm'/\ty=ty'/\hs=hs'/\pl=pl'/\va=va'/\co=co'/\th=th'/\el=el':=by
 simp only [smT,D.t.injEq,List.cons.injEq,D.b.injEq,D.i.injEq,D.s.injEq,D.l.injEq,and_true] at h
 grind
theorem uAy {g:Nat} {k a:Int} {m hs:Bool} {nm:Bs} {ty pl va co:D} {th el:List D} {rr z z':SmR} {ok ok' ft fe:Bool} {HA:Heap} {rt:TyV} {rp:LfV} {rv:VaV} {ro:OpV} {s1 s2:SL} (hrr:rr=⟨k,a,m,nm,rt,hs,rp,rv,ro,s1,s2⟩) (t3:rVa va)
  (xt:Dt HA V ty (tyc rr.ty)) (xp:Dt HA V pl (lfc rr.pl)) (xv:Dt HA V va (vac rr.va)) (xc:Dt HA V co (opc rr.co)) (l1:s1.len=th.length) (l2:s2.len=el.length) (sw:SwR rr ty pl va co ok ft fe z)
  (ho:((rr.k=1\/rr.k=10)/\rr.has=true/\z' = { z with va:=va0,has:=false }/\(ok'=true↔ok=true/\mayVa va))\/(¬ ((rr.k=1\/rr.k=10)/\rr.has=true)/\z'=z/\ok'=ok))
  (hm:bG (g+1) (smT k a m nm ty hs pl va co th el)) (tn:TlN rr z' ok' ft fe (0<g/\∀ x∈th,bG g x) (0<g/\∀ x∈el,bG g x)):False:=by
 obtain ⟨k',a',m',nm',ty',hs',pl',va',co',th',el',e,i1,i2,sm⟩:=hm;obtain ⟨rfl,rfl,rfl,rfl,rfl,rfl,rfl,rfl,rfl,rfl⟩:=nAu e;have k0:rr.k=k:=by rw [hrr]
 have m0:rr.m=m:=by rw [hrr]
 have n0:rr.nm=nm:=by rw [hrr]
 have h0:rr.has=hs:=by rw [hrr]
 have th0:rr.th.len=th.length:=by rw [hrr];exact l1
 have el0:rr.el.len=el.length:=by rw [hrr];exact l2
 clear hrr
 have vk:=mAu t3 xv;have tr:ok'=true/\zSm z'=true/\(ft=false->th=[])/\(fe=false->el=[])/\(ft=true->0<g)/\(fe=true->0<g):=by
  have f2:(false:Bool)=true->0<g:=fun h=>by cases h
  cases sm with
  | let_ hn ht hv=>
   cases sw with
   | let_ hk hok=>
    have okT:ok=true:=hok.2 ⟨n0 ▸ hn,ht⟩;rcases ho with ⟨_,p2,rfl,p4⟩ | ⟨p1,rfl,rfl⟩
    ·rcases hv with ⟨_,v⟩ | ⟨v,_⟩
     ·exact ⟨p4.2 ⟨okT,v⟩,dK rfl rfl rfl rfl rfl rfl (bK xp) rfl (cK xc),fun _=>rfl,fun _=>rfl,f2,f2⟩
     grind
    ·rcases hv with ⟨v,_⟩ | ⟨v,rfl⟩
     ·grind
     ·exact ⟨okT,dK rfl rfl rfl rfl (h0.trans v) rfl (bK xp) (rA4 xv) (cK xc),fun _=>rfl,fun _=>rfl,f2,f2⟩
   | _=>omega
  | set hn hx hv=>
   rcases ho with ⟨p1,_⟩ | ⟨_,rfl,rfl⟩
   ·omega
   cases sw with
   | set hk hok=>exact ⟨hok.2 ⟨⟨_,_,rfl,hn,hx⟩,hv⟩,dK rfl rfl m0 n0 h0 (tT xt) rfl rfl (cK xc),fun _=>rfl,fun _=>rfl,f2,f2⟩
   | _=>omega
  | call hn hl=>
   rcases ho with ⟨p1,_⟩ | ⟨_,rfl,rfl⟩
   ·omega
   cases sw with
   | call hk hok=>exact ⟨hok.2 ⟨.call hn hl,vk.symm⟩,dK rfl rfl m0 n0 h0 (tT xt) (bK xp) rfl (cK xc),fun _=>rfl,fun _=>rfl,f2,f2⟩
   | _=>omega
  | if_ hg hc he=>
   rcases ho with ⟨p1,_⟩ | ⟨_,rfl,rfl⟩
   ·omega
   cases sw with
   | if_ hk hok=>exact ⟨hok.2 hc,dK rfl rfl m0 n0 rfl (tT xt) (bK xp) (rA4 xv) rfl,(fun h=>by cases h),fun h=>he (h0 ▸ h),fun _=>hg,fun _=>hg⟩
   | _=>omega
  | while_ hg hc=>
   rcases ho with ⟨p1,_⟩ | ⟨_,rfl,rfl⟩
   ·omega
   cases sw with
   | while_ hk hok=>exact ⟨hok.2 hc,dK rfl rfl m0 n0 h0 (tT xt) (bK xp) (rA4 xv) rfl,(fun h=>by cases h),fun _=>rfl,fun _=>hg,f2⟩
   | _=>omega
  | loop hg=>
   rcases ho with ⟨p1,_⟩ | ⟨_,rfl,rfl⟩
   ·omega
   cases sw with
   | loop hk hok=>exact ⟨hok,dK rfl rfl m0 n0 h0 (tT xt) (bK xp) (rA4 xv) (cK xc),(fun h=>by cases h),fun _=>rfl,fun _=>hg,f2⟩
   | _=>omega
  | block hg=>
   rcases ho with ⟨p1,_⟩ | ⟨_,rfl,rfl⟩
   ·omega
   cases sw with
   | loop hk hok=>exact ⟨hok,dK rfl rfl m0 n0 h0 (tT xt) (bK xp) (rA4 xv) (cK xc),(fun h=>by cases h),fun _=>rfl,fun _=>hg,f2⟩
   | _=>omega
  | break_=>
   rcases ho with ⟨p1,_⟩ | ⟨_,rfl,rfl⟩
   ·omega
   cases sw with
   | break_ hk hok=>exact ⟨hok,dK rfl rfl m0 n0 h0 (tT xt) (bK xp) (rA4 xv) (cK xc),fun _=>rfl,fun _=>rfl,f2,f2⟩
   | _=>omega
  | cont=>
   rcases ho with ⟨p1,_⟩ | ⟨_,rfl,rfl⟩
   ·omega
   cases sw with
   | break_ hk hok=>exact ⟨hok,dK rfl rfl m0 n0 h0 (tT xt) (bK xp) (rA4 xv) (cK xc),fun _=>rfl,fun _=>rfl,f2,f2⟩
   | _=>omega
  | ret hv=>
   cases sw with
   | break_ hk hok=>
    rcases ho with ⟨_,p2,rfl,p4⟩ | ⟨p1,rfl,rfl⟩
    ·rcases hv with ⟨_,v⟩ | ⟨v,_⟩
     ·exact ⟨p4.2 ⟨hok,v⟩,dK rfl rfl m0 n0 rfl (tT xt) (bK xp) rfl (cK xc),fun _=>rfl,fun _=>rfl,f2,f2⟩
     grind
    ·rcases hv with ⟨v,_⟩ | ⟨v,rfl⟩
     ·grind
     ·exact ⟨hok,dK rfl rfl m0 n0 (h0.trans v) (tT xt) (bK xp) (rA4 xv) (cK xc),fun _=>rfl,fun _=>rfl,f2,f2⟩
   | _=>omega
  | drop hp=>
   rcases ho with ⟨p1,_⟩ | ⟨_,rfl,rfl⟩
   ·omega
   cases sw with
   | drop hk hok=>exact ⟨hok.2 hp,dK rfl rfl m0 n0 h0 (tT xt) rfl (rA4 xv) (cK xc),fun _=>rfl,fun _=>rfl,f2,f2⟩
   | _=>omega
 obtain ⟨r1,r2,r3,r4,r5,r6⟩:=tr
 cases tn with
 | ok=>cases r1
 | z hz=>rw [hz] at r2;cases r2
 | t0 hz=>grind
 | e0 hz=>grind
 | t hz=>grind
 | e hz=>grind
end
end Qp
namespace Qp
theorem yI {r:SmR} (h:zSq r=true):r.k=0/\r.at_=0/\r.m=false/\r.nm=[]/\r.has=false/\zTy r.ty=true/\zLf r.pl=true/\zVa r.va=true/\zOp r.co=true/\r.th.len=0/\r.el.len=0:=by
 unfold zSq at h;simp only [Bool.and_eq_true,Bool.not_eq_true'] at h
 grind [iAu,mA4,tA8,iF]
theorem oAu {s z:SmR} (h1:s.k≠1) (h2:s.k≠10) (h3:s.k≠4):oI s z=z:=by
 grind [eA,eqI,decide_eq_false,oI]
theorem eBd {s z:SmR} (h:s.k=1\/s.k=10):oI s z=bif s.has then { z with has:=false,va:=va0 } else z:=by
 unfold oI;rcases h with h | h <;> rw [h] <;> rfl
theorem fBd {s z:SmR} (h:s.k=4):oI s z=bif s.has then { z with has:=false,el:=sl0 } else z:=by
 unfold oI;rw [h];rfl
section
variable {N:Nat} {h:Heap} {V:Nat->Prop}
theorem vAg (hN:3001<=N) {va:D} (rr:SmR) (hv:rVa va) (hw:wtD va<=2000000) (hwN:wtD va<N) (pk:PK h) (x:Dt h V va (vac rr.va)):∃ b h',f197 N (smv rr) h=some (b,h')/\Chg [] h h'/\(b=true->rr.has=true->mayVa va):=by
 unfold f197;have o:=wA h (smc rr);have c:=tA h (.row (smc rr) .own);have e1:h.push (.row (yRA (smv rr)) .own)=h.push (.row (smc rr) .own):=rfl;dsimp only;rw [e1];have x:=Dt.chg c (by simp) x;have pk:=pk.chg c;generalize h.push (.row (smc rr) .own)=H at *;have a8:H.cell (h.next,8)=some (.bool rr.has):=o.cell 8;simp only [Nat.zero_add,a8,bA,uB]
 cases hs:rr.has with
 | false=>grind
 | true=>
  simp only [cond_true];have aa:H.cells (h.next,11) 15=some (.agg (vac rr.va)):=o.cells (j:=11) (m:=15) (show 11+15<=32 by decide);rw [aa,pN];obtain ⟨b,h',e,c',hb⟩:=qA4 hN hv hw hwN pk x;have e':f199 N (tV rr.va) H=some (b,h'):=e;rw [e',aA]
  cases b with
  | true=>exact ⟨_,h',rfl,c.trans c',fun _ _=>hb rfl⟩
  | false=>
   have b8:h'.cell (h.next,8)=some (.bool rr.has):=(o.chg c' (by simp)).cell 8;simp only [cond_false,b8,bA,uB,hs];exact ⟨_,h',rfl,c.trans c',fun h=>by cases h⟩
set_option maxHeartbeats 4000000 in
theorem pAs (hN:3001<=N) {rec125 rec174} {n:Nat} {d:D} (hd:rSm d) (hw:wtD d<=2000000) (hwN:wtD d<N) {r:SmV} (pk:PK h) (x:Dt h V d (smx r)) {deep:Int}
  (hb:∀ (l:List D) (s1:SL) (H:Heap),(∀ s∈l,Wt Tryz.prog s 106)->wtL l<wtD d->PK H->Sl H (fun A=>A<h.next) s1 l->∃ b H',rec125 s1 (jB .i64 (deep+1)) H=some (b,H')/\Chg [] H H'/\(b=true->0<n/\∀ s∈l,bG n s)):∃ b h',uA0 N rec125 rec174 r deep h=some (b,h')/\Chg [] h h'/\(b=true->bG (n+1) d):=by
 obtain ⟨k,a,mu,nm,ty,hs,pl,va,co,th,el,rfl,t1,t2,t3,t4,t5,t6,t7⟩:=hd;have ww:wtD ty<wtD (smT k a mu nm ty hs pl va co th el)/\wtD pl<wtD (smT k a mu nm ty hs pl va co th el)/\wtD va<wtD (smT k a mu nm ty hs pl va co th el)/\wtD co<wtD (smT k a mu nm ty hs pl va co th el)/\wtL th<wtD (smT k a mu nm ty hs pl va co th el)/\wtL el<wtD (smT k a mu nm ty hs pl va co th el):=by
  simp only [smT,wtD,wtL];omega
 obtain ⟨w1,w2,w3,w4,w5,w6⟩:=ww;obtain ⟨rt,rp,rv,ro,s1,s2,hc,x1,x2,x3,x4,x5,x6⟩:=vA8 t1 t2 t3 t4 x;obtain ⟨rr,hrr⟩:∃ rr:SmR,rr=⟨k,a,mu,nm,rt,hs,rp,rv,ro,s1,s2⟩:=⟨_,rfl⟩;rw [<- hrr] at hc;have hr:r=smv rr:=pY.inj hc;subst hr
 clear hc x
 have q0:rr.k=k:=by rw [hrr]
 have q2:rr.m=mu:=by rw [hrr]
 have q3:rr.nm=nm:=by rw [hrr]
 have q8:rr.has=hs:=by rw [hrr]
 have x1:Dt h V ty (tyc rr.ty):=by rw [hrr];exact x1
 have x2:Dt h V pl (lfc rr.pl):=by rw [hrr];exact x2
 have x3:Dt h V va (vac rr.va):=by rw [hrr];exact x3
 have x4:Dt h V co (opc rr.co):=by rw [hrr];exact x4
 have x5:Sl h V rr.th th:=by rw [hrr];exact x5
 have x6:Sl h V rr.el el:=by rw [hrr];exact x6
 clear hrr
 unfold uA0;have x1:=Dt.weak (W:=fun A=>A<h.next) (fun A _ hl=>hl) x1;have x2:=Dt.weak (W:=fun A=>A<h.next) (fun A _ hl=>hl) x2;have x3:=Dt.weak (W:=fun A=>A<h.next) (fun A _ hl=>hl) x3;have x4:=Dt.weak (W:=fun A=>A<h.next) (fun A _ hl=>hl) x4;have x5:=x5.weak (W:=fun A=>A<h.next) (fun A _ hl=>hl);have x6:=x6.weak (W:=fun A=>A<h.next) (fun A _ hl=>hl);have pk0:=pk;have o:=wA h (smc rr);have c:=tA h (.row (smc rr) .own);have e1:h.push (.row (yRA (smv rr)) .own)=h.push (.row (smc rr) .own):=rfl;dsimp only;rw [e1];have pk:=pk.chg c;generalize h.push (.row (smc rr) .own)=H1 at *;have aa:H1.cells (h.next,0) 32=some (.agg (smx (smv rr))):=o.cells (j:=0) (m:=32) (Nat.le_refl _);rw [aa,gG];have oz:=wA H1 (smc (mE 0));have cz:=tA H1 (.row (smc (mE 0)) .own);have nz:(H1.push (.row (smc (mE 0)) .own)).next=H1.next+1:=rfl;have hst:(H1.push (.row (smc (mE 0)) .own)).store (H1.next,0) (smc rr)=some ((H1.push (.row (smc (mE 0)) .own)).put H1.next (.row (smc rr) .own)):=oz.store rfl;obtain ⟨H2,hH2⟩:∃ H2,H2=(H1.push (.row (smc (mE 0)) .own)).put H1.next (.row (smc rr) .own):=⟨_,rfl⟩;have w:W1 H1 H2 (smc rr):=by rw [hH2];exact ⟨kJ oz _,cz.put (.inr (Nat.le_refl _)) _,Nat.le_refl _⟩
 rw [<- hH2] at hst;have hz:∀ {β:Type} (K:Heap->Option β),bB ((H1.push (.row yZA .own)).store (H1.next,0) (yRA (smv rr))) K=K H2:=fun K=>by
  show bB ((H1.push (.row (smc (mE 0)) .own)).store (H1.next,0) (smc rr)) K=_;rw [hst,fA]
 rw [hz]
 clear hz hst hH2 cz nz oz
 have hlt:h.next<H1.next:=o.2;have o:=o.chg w.c (by simp);have c02:=c.trans w.c;have x1:=Dt.chg c02 (by simp) x1;have x2:=Dt.chg c02 (by simp) x2;have x3:=Dt.chg c02 (by simp) x3;have x4:=Dt.chg c02 (by simp) x4;have x5:=x5.chg c02 (by simp);have x6:=x6.chg c02 (by simp);have pk:=pk.chg w.c;have hV:∀ A,A<h.next->A ∉ [H1.next]:=fun A hA=>by simp;omega
 have hM5:∀ A∈[H1.next],6<=A:=fun A hA=>by
  rw [List.mem_singleton] at hA
  have:=pk0.2;omega
 have c0:=Chg.refl [H1.next] H2;have pX:∀ {H:Heap},Chg [H1.next] H2 H->PK H:=fun cc=>pk.chgM cc hM5;have dX:∀ {H':Heap} {b:D} {cs:List AV},Chg [H1.next] H2 H'->Dt H2 (fun A=>A<h.next) b cs->Dt H' (fun A=>A<h.next) b cs:=fun c' y=>Dt.chg c' hV y;have sX:∀ {H':Heap} {b:List D} {s:SL},Chg [H1.next] H2 H'->Sl H2 (fun A=>A<h.next) s b->Sl H' (fun A=>A<h.next) s b:=fun c' y=>y.chg c' hV;have rd:∀ {G:Heap},Chg [H1.next] H2 G->RdS G h.next rr:=fun cc=>RdS.of (o.chg cc (by simp;omega));have rdA:∀ {G:Heap},Chg [H1.next] H2 G->G.cells (h.next,0) 32=some (.agg (smx (smv rr))):=fun cc=>(o.chg cc (by simp;omega)).cells (j:=0) (m:=32) (Nat.le_refl _);have fin:∀ {H:Heap} {rz:SmR} (ok:Bool),W1 H1 H (smc rz)->Chg [H1.next] H2 H->∃ b h',(bB (H.store (H1.next,0) [(.int .i64 0)]) fun h170=>bB (h170.store (H1.next,1) [(.int .i64 0)]) fun h172=>bif ok then (dA (.val yS) (h172.cells (h.next,0) 32) fun x174=>dA (.val yS) (h172.cells (H1.next,0) 32) fun x176=>mA (f201 N (tS x174) (tS x176) h172) fun x177 h178=>mA (f114 N N (tS x177) oS h178) fun x179 h180=>some (x179,h180)) else some (false,h172))=some (b,h')/\Chg [] h h'/\(b=true->ok=true/\zSq (oI rr { rz with k:=0,at_:=0 })=true):=by
  intro H rz ok wz cc;obtain ⟨H3,p3,w3,c3,n3⟩:=wz.set (j:=0) (vs:=[(.int .i64 0)]) (show 0+1<=32 by decide) (ds:=smc { rz with k:=0 }) (by simp only [smc,smx,smv];rfl);obtain ⟨H4,p4,w4,c4,n4⟩:=w3.set (j:=1) (vs:=[(.int .i64 0)]) (show 1+1<=32 by decide) (ds:=smc { rz with k:=0,at_:=0 }) (by simp only [smc,smx,smv];rfl);rw [p3,p4];have cc4:=(cc.trans c3).trans c4
  cases ok with
  | false=>exact ⟨_,H4,rfl,c.trans w4.c,fun h=>by cases h⟩
  | true=>
   have ab:H4.cells (H1.next,0) 32=some (.agg (smx (smv { rz with k:=0,at_:=0 }))):=w4.o.cells (j:=0) (m:=32) (Nat.le_refl _);rw [cond_true,rdA cc4,gG,ab,gG];obtain ⟨H5,e5,c5⟩:=gAn (N:=N) (h:=H4) rr { rz with k:=0,at_:=0 };have e5':f201 N (tS (smv rr)) (tS (smv { rz with k:=0,at_:=0 })) H4=some (smv (oI rr { rz with k:=0,at_:=0 }),H5):=e5;rw [e5',aA];obtain ⟨h',e6,c6⟩:=uB5 (N:=N) (by omega) (oI rr { rz with k:=0,at_:=0 }) H5;have e6':f114 N N (tS (smv (oI rr { rz with k:=0,at_:=0 }))) oS H5=some (zSq (oI rr { rz with k:=0,at_:=0 }),h'):=e6;rw [e6',aA];exact ⟨_,h',rfl,((c.trans w4.c).trans c5).trans c6,fun hz=>⟨rfl,hz⟩⟩
 have nTy:∀ {z:TyV},z=rr.ty->zTy z=true->ty=ty0D:=fun e hz=>jM t1 x1 (by rw [<- e];exact hz);have nPl:zLf rr.pl=true->pl=pl0:=fun hz=>lE t2 x2 hz;have nVa:zVa rr.va=true->va=va00:=fun hz=>qY t3 x3 hz;have nCo:zOp rr.co=true->co=op0:=fun hz=>bE t4 x4 hz;have nTh:rr.th.len=0->th=[]:=fun hz=>by rw [x5.len] at hz;grind
 have nEl:rr.el.len=0->el=[]:=fun hz=>by rw [x6.len] at hz;grind
 have a0:H2.cell (h.next,0)=some (.int .i64 k):=by rw [<- q0];exact (rd c0).k
 have e3':H2.cell (h.next,3)=some (.str nm):=by rw [<- q3];exact (rd c0).nm
 have a8:H2.cell (h.next,8)=some (.bool hs):=by rw [<- q8];exact (rd c0).has
 have mk:∀ {X:Option (Bool×Heap)} {b':Bool} {h':Heap},X=some (b',h')->Chg [] h h'->(b'=true->bG (n+1) (smT k a mu nm ty hs pl va co th el))->∃ b h',X=some (b,h')/\Chg [] h h'/\(b=true->bG (n+1) (smT k a mu nm ty hs pl va co th el)):=fun hX hc hr=>⟨_,_,hX,hc,hr⟩;have may:(∀ x∈th,bG n x)->(∀ x∈el,bG n x)->SmN n k mu nm ty hs pl va co th el->bG (n+1) (smT k a mu nm ty hs pl va co th el):=fun h1 h2 h3=>⟨k,a,mu,nm,ty,hs,pl,va,co,th,el,rfl,h1,h2,h3⟩;have no:∀ {P:D->Prop},∀ x∈([]:List D),P x:=fun x hx=>by cases hx
 by_cases k1:k=1
 ·subst k1
  have X:∃ ok H3,(dA (.val zM2) (H2.cell (h.next,3)) fun (x7:Bs)=>mA (f119 N x7 H2) fun (x8:Bool) h9=>bif x8 then dA (.val zE) (h9.cells (h.next,4) 4) fun (x10:TyV)=>mA (f124 N N x10 1 h9) fun (x11:Bool) h12=>bif x11 then dA (.val yS) (h12.cells (h.next,0) 32) fun (x13:SmV)=>mA (f197 N (tS x13) h12) fun (x14:Bool) h15=>some (((some (h.next,0),x14,some (H1.next,0),()):zJ2×Bool×zJ2×Unit),h15) else some ((some (h.next,0),false,some (H1.next,0),()),h12) else some ((some (h.next,0),false,some (H1.next,0),()),h9))=some ((some (h.next,0),ok,some (H1.next,0),()),H3)/\Chg [] H2 H3/\(ok=true->eC nm=true/\dG 64 ty/\(hs=true->mayVa va)):=by
   rw [e3'];simp only [bA,kA];rw [tD (by omega),aA]
   cases hn:eC nm with
   | false=>exact ⟨_,H2,rfl,Chg.refl _ _,fun h=>by cases h⟩
   | true=>
    rw [cond_true,(rd c0).ty,vJ];obtain ⟨bt,H3,g3,c3,ht⟩:=wU (N:=N) (by omega) (by omega) (by omega) t5 pk x1;rw [g3,aA]
    cases bt with
    | false=>grind
    | true=>
     have cc3:Chg [H1.next] H2 H3:=c3.mono (by simp);rw [cond_true,rdA cc3,gG];obtain ⟨bv,H4,g4,c4,hv⟩:=vAg hN rr t3 (by omega) (by omega) (pX cc3) (dX cc3 x3);have g4':f197 N (tS (smv rr)) H3=some (bv,H4):=g4;rw [g4',aA];exact ⟨bv,H4,rfl,c3.trans c4,fun h=>⟨rfl,ht rfl,fun h8=>hv h (by rw [q8];exact h8)⟩⟩
  obtain ⟨ok,H3,eX,c3,hok⟩:=X;have cc3:Chg [H1.next] H2 H3:=c3.mono (by simp);obtain ⟨H5,p5,w5,c5,n5⟩:=(w.call c3).set (j:=2) (vs:=[(.bool false)]) (show 2+1<=32 by decide) (ds:=smc { rr with m:=false }) (by simp only [smc,smx,smv];rfl);obtain ⟨H6,p6,w6,c6,n6⟩:=w5.set (j:=3) (vs:=[(.str [])]) (show 3+1<=32 by decide) (ds:=smc { rr with m:=false,nm:=[] }) (by simp only [smc,smx,smv];rfl);obtain ⟨H7,p7,w7,c7,n7⟩:=w6.set (j:=4) (vs:=[(.int .i64 0),(.str []),(.slice none 0 0 0),(.slice none 0 0 0)]) (show 4+4<=32 by decide) (ds:=smc { rr with m:=false,nm:=[],ty:=yW }) (by simp only [smc,smx,smv];rfl);obtain ⟨b',h',e,c',hb'⟩:=fin ok w7 (((cc3.trans c5).trans c6).trans c7);refine mk (b':=b') (h':=h') ?_ c' fun ht=>?_
  ·simp only [Nat.zero_add,a0,bA,vA,show eA 1 1=true from rfl,cond_true]
   rw [eX]
   try simp only [aA,fA,Nat.zero_add]
   rw [p5]
   try simp only [aA,fA,uA,iB,cond_true,cond_false,Nat.zero_add]
   rw [p6]
   try simp only [aA,fA,uA,iB,cond_true,cond_false,Nat.zero_add]
   rw [p7]
   try simp only [fA,uA,iB,Nat.zero_add]
   exact e
  ·obtain ⟨h1,h2⟩:=hb' ht
   obtain ⟨g1,g2,g3⟩:=hok h1;rw [eBd (.inl q0),q8] at h2
   cases hs with
   | true=>
    obtain ⟨_,_,_,_,_,_,z5,_,z7,z8,z9⟩:=yI h2;obtain rfl:=nPl z5;obtain rfl:=nCo z7;obtain rfl:=nTh z8;obtain rfl:=nEl z9;exact may no no (.let_ g1 g2 (.inl ⟨rfl,g3 rfl⟩))
   | false=>
    obtain ⟨_,_,_,_,_,_,z5,z6,z7,z8,z9⟩:=yI h2;obtain rfl:=nPl z5;obtain rfl:=nVa z6;obtain rfl:=nCo z7;obtain rfl:=nTh z8;obtain rfl:=nEl z9;exact may no no (.let_ g1 g2 (.inr ⟨rfl,rfl⟩))
 by_cases k2:k=2
 ·subst k2
  have X:∃ ok H3,(dA (.val zG) (H2.cells (h.next,9) 2) fun (x25:LfV)=>mA (f198 N (x25.1,x25.2.1,()) H2) fun (x26:Bool) h27=>bif x26 then dA (.val yV) (h27.cells (h.next,11) 15) fun (x28:VaV)=>mA (f199 N (tV x28) h27) fun (x29:Bool) h30=>some (((some (h.next,0),x29,some (H1.next,0),()):zJ2×Bool×zJ2×Unit),h30) else some ((some (h.next,0),false,some (H1.next,0),()),h27))=some ((some (h.next,0),ok,some (H1.next,0),()),H3)/\Chg [] H2 H3/\(ok=true->lH pl/\mayVa va):=by
   rw [(rd c0).pl,jH];obtain ⟨bp,H3,g3,c3,hp⟩:=yU (N:=N) (by omega) t2 (by omega) (by omega) x2;rw [g3,aA]
   cases bp with
   | false=>grind
   | true=>
    have cc3:Chg [H1.next] H2 H3:=c3.mono (by simp);rw [cond_true,(rd cc3).va,pN];obtain ⟨bv,H4,g4,c4,hv⟩:=qA4 hN t3 (by omega) (by omega) (pX cc3) (dX cc3 x3);have g4':f199 N (tV rr.va) H3=some (bv,H4):=g4;rw [g4',aA];exact ⟨bv,H4,rfl,c3.trans c4,fun h=>⟨hp rfl,hv h⟩⟩
  obtain ⟨ok,H3,eX,c3,hok⟩:=X;have cc3:Chg [H1.next] H2 H3:=c3.mono (by simp);obtain ⟨H5,p5,w5,c5,n5⟩:=(w.call c3).set (j:=9) (vs:=[(.str []),(.slice none 0 0 0)]) (show 9+2<=32 by decide) (ds:=smc { rr with pl:=lf0 }) (by simp only [smc,smx,smv];rfl);obtain ⟨H6,p6,w6,c6,n6⟩:=w5.set (j:=11) (vs:=yZB) (show 11+15<=32 by decide) (ds:=smc { rr with pl:=lf0,va:=va0 }) (by simp only [smc,smx,smv];rfl);obtain ⟨b',h',e,c',hb'⟩:=fin ok w6 ((cc3.trans c5).trans c6);refine mk (b':=b') (h':=h') ?_ c' fun ht=>?_
  ·simp only [Nat.zero_add,a0,bA,vA,show eA 2 1=false from rfl,show eA 2 2=true from rfl,cond_true,cond_false]
   rw [eX]
   try simp only [aA,fA,Nat.zero_add]
   rw [p5]
   try simp only [aA,fA,uA,iB,cond_true,cond_false,Nat.zero_add]
   rw [p6]
   try simp only [fA,uA,iB,Nat.zero_add]
   exact e
  ·obtain ⟨h1,h2⟩:=hb' ht
   obtain ⟨⟨pn,px,hpl,g1,g2⟩,g3⟩:=hok h1;subst hpl;rw [oAu (by rw [q0];decide) (by rw [q0];decide) (by rw [q0];decide)] at h2;obtain ⟨_,_,z1,z2,z3,z4,_,_,z7,z8,z9⟩:=yI h2;have z1:rr.m=false:=z1;have z2:rr.nm=[]:=z2;have z3:rr.has=false:=z3;rw [q2] at z1;rw [q3] at z2;rw [q8] at z3;subst z1 z2 z3;obtain rfl:=nTy rfl z4;obtain rfl:=nCo z7;obtain rfl:=nTh z8;obtain rfl:=nEl z9;exact may no no (.set g1 g2 g3)
 by_cases k3:k=3
 ·subst k3
  have X:∃ ok H3,(dA (.val zO2) (H2.cell (h.next,11)) fun (x38:Int)=>bif eA x38 6 then dA (.val yV) (H2.cells (h.next,11) 15) fun (x40:VaV)=>mA (f199 N (tV x40) H2) fun (x41:Bool) h42=>some (((some (h.next,0),x41,some (H1.next,0),()):zJ2×Bool×zJ2×Unit),h42) else some ((some (h.next,0),false,some (H1.next,0),()),H2))=some ((some (h.next,0),ok,some (H1.next,0),()),H3)/\Chg [] H2 H3/\(ok=true->rr.va.1=6/\mayVa va):=by
   rw [(rd c0).vk];simp only [bA,vA]
   cases q6:eA rr.va.1 6 with
   | false=>exact ⟨_,H2,rfl,Chg.refl _ _,fun h=>by cases h⟩
   | true=>
    rw [cond_true,(rd c0).va,pN];obtain ⟨bv,H4,g4,c4,hv⟩:=qA4 hN t3 (by omega) (by omega) pk x3;have g4':f199 N (tV rr.va) H2=some (bv,H4):=g4;rw [g4',aA];rw [eqI,decide_eq_true_eq] at q6
    grind
  obtain ⟨ok,H3,eX,c3,hok⟩:=X;have cc3:Chg [H1.next] H2 H3:=c3.mono (by simp);obtain ⟨H6,p6,w6,c6,n6⟩:=(w.call c3).set (j:=11) (vs:=yZB) (show 11+15<=32 by decide) (ds:=smc { rr with va:=va0 }) (by simp only [smc,smx,smv];rfl);obtain ⟨b',h',e,c',hb'⟩:=fin ok w6 (cc3.trans c6);refine mk (b':=b') (h':=h') ?_ c' fun ht=>?_
  ·simp only [Nat.zero_add,a0,bA,vA,show eA 3 1=false from rfl,show eA 3 2=false from rfl,show eA 3 3=true from rfl,cond_true,cond_false]
   rw [eX]
   try simp only [aA,fA,Nat.zero_add]
   rw [p6]
   try simp only [fA,uA,iB,Nat.zero_add]
   exact e
  ·obtain ⟨h1,h2⟩:=hb' ht
   obtain ⟨g1,g2⟩:=hok h1;rw [oAu (by rw [q0];decide) (by rw [q0];decide) (by rw [q0];decide)] at h2;obtain ⟨_,_,z1,z2,z3,z4,z5,_,z7,z8,z9⟩:=yI h2;have z1:rr.m=false:=z1;have z2:rr.nm=[]:=z2;have z3:rr.has=false:=z3;rw [q2] at z1;rw [q3] at z2;rw [q8] at z3;subst z1 z2 z3;obtain rfl:=nTy rfl z4;obtain rfl:=nPl z5;obtain rfl:=nCo z7;obtain rfl:=nTh z8;obtain rfl:=nEl z9;obtain ⟨vk,va_,vb,vo,vp,vn,vns,vg,hva,ta,tb,tp,_⟩:=t3;subst hva;obtain ⟨ra,rb,rp',u1,u2,hcv,_⟩:=oY ta tb tp x3;have hk6:vk=6:=by rw [gF hcv] at g1;exact g1
   subst hk6;rcases eL g2 with ⟨m0,_⟩ | ⟨m0,_⟩ | ⟨m0,_⟩ | ⟨_,rfl,rfl,rfl,rfl,m1,rfl,m2⟩ | ⟨m0,_⟩
   ·omega
   ·omega
   ·omega
   ·exact may no no (.call m1 m2)
   ·omega
 have oper:∀ {G:Heap} {cs ds:List AV} (ok:Bool),W1 H1 G cs->Chg [H1.next] H2 G->cs.length=32->cs.take 26++[(.int .i64 0),(.int .i64 0),(.str []),(.slice none 0 0 0)]++cs.drop 30=ds->
   ∃ q H3 H4,(bif ok then dA (.val zD) (G.cells (h.next,26) 4) fun (x73:OpV)=>mA (f200 N x73 G) fun (x74:Bool) h75=>some (((deep,some (h.next,0),x74,some (H1.next,0),()):Int×zJ2×Bool×zJ2×Unit),h75) else some ((deep,some (h.next,0),false,some (H1.next,0),()),G))=some ((deep,some (h.next,0),q,some (H1.next,0),()),H3)/\(∀ {β:Type} (K:Heap->Option β),bB (H3.store (H1.next,26) [(.int .i64 0),(.int .i64 0),(.str []),(.slice none 0 0 0)]) K=K H4)/\W1 H1 H4 ds/\Chg [H1.next] H2 H4/\(q=true->ok=true/\qC co):=by
  intro G cs ds ok wz cz hl hds;have st:∀ {H3:Heap},W1 H1 H3 cs->Chg [H1.next] H2 H3->∃ H4,(∀ {β:Type} (K:Heap->Option β),bB (H3.store (H1.next,26) [(.int .i64 0),(.int .i64 0),(.str []),(.slice none 0 0 0)]) K=K H4)/\W1 H1 H4 ds/\Chg [H1.next] H2 H4:=fun w3 c3=>by
   obtain ⟨H4,p4,w4,c4,n4⟩:=w3.set (j:=26) (vs:=[(.int .i64 0),(.int .i64 0),(.str []),(.slice none 0 0 0)]) (by rw [hl];decide) (ds:=ds) hds;exact ⟨H4,p4,w4,c3.trans c4⟩
  cases ok with
  | false=>
   obtain ⟨H4,p4,w4,c4⟩:=st wz cz;exact ⟨false,G,H4,rfl,p4,w4,c4,fun h=>by cases h⟩
  | true=>
   obtain ⟨q,H3,e3,c3,hq⟩:=aV hN t4 (by omega) (by omega) (dX cz x4);obtain ⟨H4,p4,w4,c4⟩:=st (wz.call c3) (cz.trans (c3.mono (by simp)));refine ⟨q,H3,H4,?_,p4,w4,c4,fun h=>⟨rfl,hq h⟩⟩;rw [cond_true,(rd cz).co,dH,e3,aA]
 have blk:∀ {G:Heap} {cs ds:List AV} (ok:Bool),W1 H1 G cs->Chg [H1.next] H2 G->cs.length=32->cs.take 30++[(.slice none 0 0 0)]++cs.drop 31=ds->
   ∃ q H3 H4,(bif ok then dA (.val zL2) (G.cell (h.next,30)) fun (x103:SL)=>mA (rec125 x103 (jB .i64 (deep+1)) G) fun (x105:Bool) h106=>some (((some (h.next,0),x105,some (H1.next,0),()):zJ2×Bool×zJ2×Unit),h106) else some ((some (h.next,0),false,some (H1.next,0),()),G))=some ((some (h.next,0),q,some (H1.next,0),()),H3)/\(∀ {β:Type} (K:Heap->Option β),bB (H3.store (H1.next,30) [(.slice none 0 0 0)]) K=K H4)/\W1 H1 H4 ds/\Chg [H1.next] H2 H4/\(q=true->ok=true/\0<n/\∀ s∈th,bG n s):=by
  intro G cs ds ok wz cz hl hds;have st:∀ {H3:Heap},W1 H1 H3 cs->Chg [H1.next] H2 H3->∃ H4,(∀ {β:Type} (K:Heap->Option β),bB (H3.store (H1.next,30) [(.slice none 0 0 0)]) K=K H4)/\W1 H1 H4 ds/\Chg [H1.next] H2 H4:=fun w3 c3=>by
   obtain ⟨H4,p4,w4,c4,n4⟩:=w3.set (j:=30) (vs:=[(.slice none 0 0 0)]) (by rw [hl];decide) (ds:=ds) hds;exact ⟨H4,p4,w4,c3.trans c4⟩
  cases ok with
  | false=>
   obtain ⟨H4,p4,w4,c4⟩:=st wz cz;exact ⟨false,G,H4,rfl,p4,w4,c4,fun h=>by cases h⟩
  | true=>
   obtain ⟨q,H3,e3,c3,hq⟩:=hb th rr.th G t6 w5 (pX cz) (sX cz x5);have e3':rec125 rr.th (jB .i64 (deep+1)) G=some (q,H3):=e3;obtain ⟨H4,p4,w4,c4⟩:=st (wz.call c3) (cz.trans (c3.mono (by simp)));refine ⟨q,H3,H4,?_,p4,w4,c4,fun h=>⟨rfl,hq h⟩⟩;rw [cond_true,(rd cz).th];simp only [bA,jA];rw [e3',aA]
 by_cases k4:k=4
 ·subst k4
  cases hs with
  | false=>
   obtain ⟨q,H3,H4,e3,p4,w4,c4,hq⟩:=oper (ds:=smc { rr with co:=dF }) true w c0 rfl (by simp only [smc,smx,smv];rfl);rw [cond_true] at e3;obtain ⟨q9,H5,H6,e5,p6,w6,c6,hq2⟩:=blk (ds:=smc { rr with co:=dF,th:=sl0 }) q w4 c4 rfl (by simp only [smc,smx,smv];rfl);obtain ⟨b',h',e,c',hb'⟩:=fin q9 w6 c6;refine mk (b':=b') (h':=h') ?_ c' fun ht=>?_
   ·simp only [Nat.zero_add,a0,bA,vA,uB,show eA 4 1=false from rfl,show eA 4 2=false from rfl,show eA 4 3=false from rfl,show eA 4 4=true from rfl,cond_true,cond_false,fA,uA,Bool.not_false,a8]
    rw [e3]
    try simp only [aA,fA,Nat.zero_add]
    rw [p4]
    try simp only [fA,uA,Nat.zero_add]
    rw [e5]
    try simp only [aA,fA,Nat.zero_add]
    rw [p6]
    try simp only [fA,uA,iB,Nat.zero_add]
    exact e
   ·obtain ⟨h1,h2⟩:=hb' ht
    obtain ⟨g1,g2,g3⟩:=hq2 h1;rw [fBd q0,q8] at h2;obtain ⟨_,_,z1,z2,z3,z4,z5,z6,z7,z8,z9⟩:=yI h2;have z1:rr.m=false:=z1;have z2:rr.nm=[]:=z2;rw [q2] at z1;rw [q3] at z2;subst z1 z2;obtain rfl:=nTy rfl z4;obtain rfl:=nPl z5;obtain rfl:=nVa z6;obtain rfl:=nEl z9;exact may g3 no (.if_ g2 (hq g1).2 fun _=>rfl)
  | true=>
   obtain ⟨q1,HE,eE,cE,hE⟩:=hb el rr.el H2 t7 w6 pk x6;have eE':rec125 rr.el (jB .i64 (deep+1)) H2=some (q1,HE):=eE;obtain ⟨q,H3,H4,e3,p4,w4,c4,hq⟩:=oper (ds:=smc { rr with co:=dF }) q1 (w.call cE) (cE.mono (by simp)) rfl (by simp only [smc,smx,smv];rfl);obtain ⟨q9,H5,H6,e5,p6,w6,c6,hq2⟩:=blk (ds:=smc { rr with co:=dF,th:=sl0 }) q w4 c4 rfl (by simp only [smc,smx,smv];rfl);obtain ⟨b',h',e,c',hb'⟩:=fin q9 w6 c6;refine mk (b':=b') (h':=h') ?_ c' fun ht=>?_
   ·simp only [Nat.zero_add,a0,bA,vA,uB,show eA 4 1=false from rfl,show eA 4 2=false from rfl,show eA 4 3=false from rfl,show eA 4 4=true from rfl,cond_true,cond_false,Bool.not_true,a8,(rd c0).el,jA]
    rw [eE']
    try simp only [aA,fA,uA,Nat.zero_add]
    rw [e3]
    try simp only [aA,fA,Nat.zero_add]
    rw [p4]
    try simp only [fA,uA,Nat.zero_add]
    rw [e5]
    try simp only [aA,fA,Nat.zero_add]
    rw [p6]
    try simp only [fA,uA,iB,Nat.zero_add]
    exact e
   ·obtain ⟨h1,h2⟩:=hb' ht
    obtain ⟨g1,g2,g3⟩:=hq2 h1;obtain ⟨g4,g5⟩:=hq g1;rw [fBd q0,q8] at h2;obtain ⟨_,_,z1,z2,z3,z4,z5,z6,z7,z8,z9⟩:=yI h2;have z1:rr.m=false:=z1;have z2:rr.nm=[]:=z2;rw [q2] at z1;rw [q3] at z2;subst z1 z2;obtain rfl:=nTy rfl z4;obtain rfl:=nPl z5;obtain rfl:=nVa z6;exact may g3 (hE g4).2 (.if_ g2 g5 fun h=>by cases h)
 by_cases k5:k=5
 ·subst k5
  obtain ⟨q,H3,H4,e3,p4,w4,c4,hq⟩:=oper (ds:=smc { rr with co:=dF }) true w c0 rfl (by simp only [smc,smx,smv];rfl);rw [cond_true] at e3;obtain ⟨q9,H5,H6,e5,p6,w6,c6,hq2⟩:=blk (ds:=smc { rr with co:=dF,th:=sl0 }) q w4 c4 rfl (by simp only [smc,smx,smv];rfl);obtain ⟨b',h',e,c',hb'⟩:=fin q9 w6 c6;refine mk (b':=b') (h':=h') ?_ c' fun ht=>?_
  ·simp only [Nat.zero_add,a0,bA,vA,show eA 5 1=false from rfl,show eA 5 2=false from rfl,show eA 5 3=false from rfl,show eA 5 4=false from rfl,show eA 5 5=true from rfl,cond_true,cond_false,fA,uA]
   rw [e3]
   try simp only [aA,fA,Nat.zero_add]
   rw [p4]
   try simp only [fA,uA,Nat.zero_add]
   rw [e5]
   try simp only [aA,fA,Nat.zero_add]
   rw [p6]
   try simp only [fA,uA,iB,Nat.zero_add]
   exact e
  ·obtain ⟨h1,h2⟩:=hb' ht
   obtain ⟨g1,g2,g3⟩:=hq2 h1;rw [oAu (by rw [q0];decide) (by rw [q0];decide) (by rw [q0];decide)] at h2;obtain ⟨_,_,z1,z2,z3,z4,z5,z6,z7,z8,z9⟩:=yI h2;have z1:rr.m=false:=z1;have z2:rr.nm=[]:=z2;have z3:rr.has=false:=z3;rw [q2] at z1;rw [q3] at z2;rw [q8] at z3;subst z1 z2 z3;obtain rfl:=nTy rfl z4;obtain rfl:=nPl z5;obtain rfl:=nVa z6;obtain rfl:=nEl z9;exact may g3 no (.while_ g2 (hq g1).2)
 by_cases k6:k=6
 ·subst k6
  obtain ⟨q9,H5,H6,e5,p6,w6,c6,hq2⟩:=blk (ds:=smc { rr with th:=sl0 }) true w c0 rfl (by simp only [smc,smx,smv];rfl);rw [cond_true] at e5;obtain ⟨b',h',e,c',hb'⟩:=fin q9 w6 c6;refine mk (b':=b') (h':=h') ?_ c' fun ht=>?_
  ·simp only [Nat.zero_add,a0,bA,vA,show eA 6 1=false from rfl,show eA 6 2=false from rfl,show eA 6 3=false from rfl,show eA 6 4=false from rfl,show eA 6 5=false from rfl,show eA 6 6=true from rfl,cond_true,cond_false,fA,uA,iB]
   rw [e5]
   try simp only [aA,fA,Nat.zero_add]
   rw [p6]
   try simp only [fA,uA,iB,Nat.zero_add]
   exact e
  ·obtain ⟨h1,h2⟩:=hb' ht
   obtain ⟨g1,g2,g3⟩:=hq2 h1;rw [oAu (by rw [q0];decide) (by rw [q0];decide) (by rw [q0];decide)] at h2;obtain ⟨_,_,z1,z2,z3,z4,z5,z6,z7,z8,z9⟩:=yI h2;have z1:rr.m=false:=z1;have z2:rr.nm=[]:=z2;have z3:rr.has=false:=z3;rw [q2] at z1;rw [q3] at z2;rw [q8] at z3;subst z1 z2 z3;obtain rfl:=nTy rfl z4;obtain rfl:=nPl z5;obtain rfl:=nVa z6;obtain rfl:=nCo z7;obtain rfl:=nEl z9;exact may g3 no (.loop g2)
 by_cases k7:k=7
 ·subst k7
  obtain ⟨q9,H5,H6,e5,p6,w6,c6,hq2⟩:=blk (ds:=smc { rr with th:=sl0 }) true w c0 rfl (by simp only [smc,smx,smv];rfl);rw [cond_true] at e5;obtain ⟨b',h',e,c',hb'⟩:=fin q9 w6 c6;refine mk (b':=b') (h':=h') ?_ c' fun ht=>?_
  ·simp only [Nat.zero_add,a0,bA,vA,show eA 7 1=false from rfl,show eA 7 2=false from rfl,show eA 7 3=false from rfl,show eA 7 4=false from rfl,show eA 7 5=false from rfl,show eA 7 6=false from rfl,show eA 7 7=true from rfl,cond_true,cond_false,fA,uA,iB]
   rw [e5]
   try simp only [aA,fA,Nat.zero_add]
   rw [p6]
   try simp only [fA,uA,iB,Nat.zero_add]
   exact e
  ·obtain ⟨h1,h2⟩:=hb' ht
   obtain ⟨g1,g2,g3⟩:=hq2 h1;rw [oAu (by rw [q0];decide) (by rw [q0];decide) (by rw [q0];decide)] at h2;obtain ⟨_,_,z1,z2,z3,z4,z5,z6,z7,z8,z9⟩:=yI h2;have z1:rr.m=false:=z1;have z2:rr.nm=[]:=z2;have z3:rr.has=false:=z3;rw [q2] at z1;rw [q3] at z2;rw [q8] at z3;subst z1 z2 z3;obtain rfl:=nTy rfl z4;obtain rfl:=nPl z5;obtain rfl:=nVa z6;obtain rfl:=nCo z7;obtain rfl:=nEl z9;exact may g3 no (.block g2)
 by_cases k10:k=10
 ·subst k10
  obtain ⟨bv,H3,g3,c3,hv⟩:=vAg hN rr t3 (by omega) (by omega) pk x3;have g3':f197 N (tS (smv rr)) H2=some (bv,H3):=g3;obtain ⟨b',h',e,c',hb'⟩:=fin bv (w.call c3) (c3.mono (by simp));refine mk (b':=b') (h':=h') ?_ c' fun ht=>?_
  ·simp only [Nat.zero_add,a0,bA,vA,show eA 10 1=false from rfl,show eA 10 2=false from rfl,show eA 10 3=false from rfl,show eA 10 4=false from rfl,show eA 10 5=false from rfl,show eA 10 6=false from rfl,show eA 10 7=false from rfl,show eA 10 10=true from rfl,cond_true,cond_false,fA,uA,iB]
   rw [rdA c0,gG,g3']
   try simp only [aA,fA,uA,iB,Nat.zero_add]
   exact e
  ·obtain ⟨h1,h2⟩:=hb' ht
   rw [eBd (.inr q0),q8] at h2
   cases hs with
   | true=>
    obtain ⟨_,_,z1,z2,z3,z4,z5,z6,z7,z8,z9⟩:=yI h2;have z1:rr.m=false:=z1;have z2:rr.nm=[]:=z2;rw [q2] at z1;rw [q3] at z2;subst z1 z2;obtain rfl:=nTy rfl z4;obtain rfl:=nPl z5;obtain rfl:=nCo z7;obtain rfl:=nTh z8;obtain rfl:=nEl z9;exact may no no (.ret (.inl ⟨rfl,hv h1 q8⟩))
   | false=>
    obtain ⟨_,_,z1,z2,z3,z4,z5,z6,z7,z8,z9⟩:=yI h2;have z1:rr.m=false:=z1;have z2:rr.nm=[]:=z2;rw [q2] at z1;rw [q3] at z2;subst z1 z2;obtain rfl:=nTy rfl z4;obtain rfl:=nPl z5;obtain rfl:=nVa z6;obtain rfl:=nCo z7;obtain rfl:=nTh z8;obtain rfl:=nEl z9;exact may no no (.ret (.inr ⟨rfl,rfl⟩))
 by_cases k11:k=11
 ·subst k11
  obtain ⟨bp,H3,g3,c3,hp⟩:=yU (N:=N) (by omega) t2 (by omega) (by omega) x2;obtain ⟨H5,p5,w5',c5,n5⟩:=(w.call c3).set (j:=9) (vs:=[(.str []),(.slice none 0 0 0)]) (show 9+2<=32 by decide) (ds:=smc { rr with pl:=lf0 }) (by simp only [smc,smx,smv];rfl);obtain ⟨b',h',e,c',hb'⟩:=fin bp w5' (Chg.trans (c3.mono (by simp)) c5);refine mk (b':=b') (h':=h') ?_ c' fun ht=>?_
  ·simp only [Nat.zero_add,a0,bA,vA,show eA 11 1=false from rfl,show eA 11 2=false from rfl,show eA 11 3=false from rfl,show eA 11 4=false from rfl,show eA 11 5=false from rfl,show eA 11 6=false from rfl,show eA 11 7=false from rfl,show eA 11 10=false from rfl,show eA 11 11=true from rfl,cond_true,cond_false,fA,uA,iB]
   rw [(rd c0).pl,jH,g3]
   try simp only [aA]
   rw [p5]
   try simp only [fA,uA,Nat.zero_add]
   exact e
  ·obtain ⟨h1,h2⟩:=hb' ht
   have g1:=hp h1;rw [oAu (by rw [q0];decide) (by rw [q0];decide) (by rw [q0];decide)] at h2;obtain ⟨_,_,z1,z2,z3,z4,z5,z6,z7,z8,z9⟩:=yI h2;have z1:rr.m=false:=z1;have z2:rr.nm=[]:=z2;have z3:rr.has=false:=z3;rw [q2] at z1;rw [q3] at z2;rw [q8] at z3;subst z1 z2 z3;obtain rfl:=nTy rfl z4;obtain rfl:=nVa z6;obtain rfl:=nCo z7;obtain rfl:=nTh z8;obtain rfl:=nEl z9;exact may no no (.drop g1)
 by_cases k8:k=8
 ·subst k8
  obtain ⟨b',h',e,c',hb'⟩:=fin true w c0;refine mk (b':=b') (h':=h') ?_ c' fun ht=>?_
  ·simp only [Nat.zero_add,a0,bA,vA,show eA 8 1=false from rfl,show eA 8 2=false from rfl,show eA 8 3=false from rfl,show eA 8 4=false from rfl,show eA 8 5=false from rfl,show eA 8 6=false from rfl,show eA 8 7=false from rfl,show eA 8 10=false from rfl,show eA 8 11=false from rfl,show eA 8 8=true from rfl,cond_true,cond_false,fA,uA,iB]
   exact e
  ·obtain ⟨h1,h2⟩:=hb' ht
   rw [oAu (by rw [q0];decide) (by rw [q0];decide) (by rw [q0];decide)] at h2;obtain ⟨_,_,z1,z2,z3,z4,z5,z6,z7,z8,z9⟩:=yI h2;have z1:rr.m=false:=z1;have z2:rr.nm=[]:=z2;have z3:rr.has=false:=z3;rw [q2] at z1;rw [q3] at z2;rw [q8] at z3;subst z1 z2 z3;obtain rfl:=nTy rfl z4;obtain rfl:=nPl z5;obtain rfl:=nVa z6;obtain rfl:=nCo z7;obtain rfl:=nTh z8;obtain rfl:=nEl z9;exact may no no .break_
 by_cases k9:k=9
 ·subst k9
  obtain ⟨b',h',e,c',hb'⟩:=fin true w c0;refine mk (b':=b') (h':=h') ?_ c' fun ht=>?_
  ·simp only [Nat.zero_add,a0,bA,vA,show eA 9 1=false from rfl,show eA 9 2=false from rfl,show eA 9 3=false from rfl,show eA 9 4=false from rfl,show eA 9 5=false from rfl,show eA 9 6=false from rfl,show eA 9 7=false from rfl,show eA 9 10=false from rfl,show eA 9 11=false from rfl,show eA 9 8=false from rfl,show eA 9 9=true from rfl,cond_true,cond_false,fA,uA,iB]
   exact e
  ·obtain ⟨h1,h2⟩:=hb' ht
   rw [oAu (by rw [q0];decide) (by rw [q0];decide) (by rw [q0];decide)] at h2;obtain ⟨_,_,z1,z2,z3,z4,z5,z6,z7,z8,z9⟩:=yI h2;have z1:rr.m=false:=z1;have z2:rr.nm=[]:=z2;have z3:rr.has=false:=z3;rw [q2] at z1;rw [q3] at z2;rw [q8] at z3;subst z1 z2 z3;obtain rfl:=nTy rfl z4;obtain rfl:=nPl z5;obtain rfl:=nVa z6;obtain rfl:=nCo z7;obtain rfl:=nTh z8;obtain rfl:=nEl z9;exact may no no .cont
 refine mk (b':=false) (h':=H2) ?_ (c.trans w.c) fun h=>by cases h
 have z1:eA k 1=false:=by rw [eqI];exact decide_eq_false k1
 have z2:eA k 2=false:=by rw [eqI];exact decide_eq_false k2
 have z3:eA k 3=false:=by rw [eqI];exact decide_eq_false k3
 have z4:eA k 4=false:=by rw [eqI];exact decide_eq_false k4
 have z5:eA k 5=false:=by rw [eqI];exact decide_eq_false k5
 have z6:eA k 6=false:=by rw [eqI];exact decide_eq_false k6
 have z7:eA k 7=false:=by rw [eqI];exact decide_eq_false k7
 have z8:eA k 8=false:=by rw [eqI];exact decide_eq_false k8
 have z9:eA k 9=false:=by rw [eqI];exact decide_eq_false k9
 have z10:eA k 10=false:=by rw [eqI];exact decide_eq_false k10
 have z11:eA k 11=false:=by rw [eqI];exact decide_eq_false k11
 simp only [Nat.zero_add,a0,bA,vA,z1,z2,z3,z4,z5,z6,z7,z8,z9,z10,z11,cond_false,fA,uA,iB]
end
end Qp
namespace Qp
section
variable {N:Nat} {h:Heap} {V:Nat->Prop}
theorem pAu {k a:Int} {m hs:Bool} {nm:Bs} {ty pl va co:D} {th el:List D}:wtD ty<=wtD (smT k a m nm ty hs pl va co th el)/\wtD va<=wtD (smT k a m nm ty hs pl va co th el)/\wtL th<wtD (smT k a m nm ty hs pl va co th el)/\wtL el<wtD (smT k a m nm ty hs pl va co th el)/\wtL th+wtL el<wtD (smT k a m nm ty hs pl va co th el):=by
 simp only [smT,wtD,wtL];omega
theorem yB5 {g:Nat} {k a:Int} {m hs:Bool} {nm:Bs} {ty pl va co:D} {th el:List D} (h:bG (g+1) (smT k a m nm ty hs pl va co th el)):1<=k/\k<=11:=by
 obtain ⟨k',a',m',nm',ty',hs',pl',va',co',th',el',e,_,_,sm⟩:=h;obtain ⟨rfl,_⟩:=nAu e;cases sm <;> decide
set_option maxHeartbeats 4000000 in
theorem iAd (hN:200<=N) {g:Nat} {rec88:SL->Int->Heap->Option (Bool×Heap)} {v1:Int}
  (hrec:∀ (l:List D) (s:SL) (H:Heap),wtL l<N->wtL l<=2000000->(∀ x∈l,Wt Tryz.prog x 106)->Sl H V s l->∃ b H',rec88 s (jB .i64 (v1+1)) H=some (b,H')/\Chg [] H H'/\(b=true↔0<g/\∀ x∈l,bG g x))
  {l:List D} (hw:wtL l<N) (hwl:wtL l<=2000000) (ht:∀ x∈l,Wt Tryz.prog x 106) {s:SL}:∀ (M i:Nat) (h:Heap),i<=l.length->l.length-i<M->Sl h V s l->(∀ j,(hj:j<l.length)->j<i->bG (g+1) l[j])->
  ∃ o b h',qA8 N rec88 M s v1 false (i:Int) h=some (o,(b,()),h')/\Chg [] h h'/\((o=.exit 0/\∀ x∈l,bG (g+1) x)\/(o=.ret/\b=false/\¬ ∀ x∈l,bG (g+1) x)):=by
 intro M
 induction M with
 | zero=>intro i h _ h;omega
 | succ M ih=>
  intro i h hi hM x hp;rw [uAc,uBb];have hv:s.len=l.length:=x.len;have hll:l.length<=wtL l:=nC l;simp only [fF,hv]
  by_cases q:i<l.length
  ·simp only [q,decide_true,cond_true]
   have hm:=List.getElem_mem q;have hwt:=ht _ hm;have hwd:=lI hm;obtain ⟨r,g1,d⟩:=pY.elt x q (pAy hwt);have hix:∀ {β:Type} (K:Nat×Nat->Option β),ixK s.a l.length (i:Int) 32 K=K (s.at i 32):=fun K=>by rw [<- hv];exact x.ix q 32 K
   rw [hix,g1,gG];obtain ⟨HA,pA,cA,oA⟩:=pY.park (z:=smx (smv (mE 0))) rfl h r;have pA':∀ {β:Type} (K:Heap->Option β),bB ((h.push (.row yZA .own)).store (h.next,0) (yRA r)) K=K HA:=pA;rw [pA',pY.cells oA];obtain ⟨k,a,m,nm,ty,hs,pl,va,co,th,el,hd,t1,t2,t3,t4,t5,t6,t7⟩:=pAy hwt;obtain ⟨y,hy⟩:∃ y,y=l[i]:=⟨_,rfl⟩;have nxt:bG (g+1) l[i]->∀ (G:Heap),Chg [] h G->∃ o b h',qA8 N rec88 M s v1 false (jB .i64 ((i:Int)+1)) G=some (o,(b,()),h')/\Chg [] h h'/\((o=.exit 0/\∀ x∈l,bG (g+1) x)\/(o=.ret/\b=false/\¬ ∀ x∈l,bG (g+1) x)):=by
    intro hmay G cG;rw [aB (by omega)];obtain ⟨o,b,h',e,c',hh⟩:=ih (i+1) G q (by omega) (x.chg cG (by simp)) fun j hj hji=>by
     grind
    exact ⟨o,b,h',e,cG.trans c',hh⟩
   have all:(∀ x∈l,bG (g+1) x)->bG (g+1) l[i]:=fun ha=>ha _ (List.getElem_mem q);rw [<- hy] at hd d nxt hwd hwt all
   clear hy hm g1
   subst hd;obtain ⟨w1,w2,w3,w4,_⟩:=pAu (k:=k) (a:=a) (m:=m) (hs:=hs) (nm:=nm) (ty:=ty) (pl:=pl) (va:=va) (co:=co) (th:=th) (el:=el);obtain ⟨rt,rp,rv,ro,s1,s2,hc,x1,x2,x3,x4,x5,x6⟩:=vA8 t1 t2 t3 t4 (Dt.chg cA (by simp) d);obtain ⟨rr,hrr⟩:∃ rr:SmR,rr=⟨k,a,m,nm,rt,hs,rp,rv,ro,s1,s2⟩:=⟨_,rfl⟩;rw [<- hrr] at hc;have hr:r=smv rr:=pY.inj hc;subst hr;have x1:Dt HA V ty (tyc rr.ty):=by rw [hrr];exact x1
   have x2:Dt HA V pl (lfc rr.pl):=by rw [hrr];exact x2
   have x3:Dt HA V va (vac rr.va):=by rw [hrr];exact x3
   have x4:Dt HA V co (opc rr.co):=by rw [hrr];exact x4
   have x5:Sl HA V rr.th th:=by rw [hrr];exact x5
   have x6:Sl HA V rr.el el:=by rw [hrr];exact x6
   have oA:HA.own h.next (smc rr):=oA;have oz:=wA HA (smc (mE 0));have cz:=tA HA (.row (smc (mE 0)) .own);have nz:(HA.push (.row (smc (mE 0)) .own)).next=HA.next+1:=rfl;have hst:(HA.push (.row (smc (mE 0)) .own)).store (HA.next,0) (smc rr)=some ((HA.push (.row (smc (mE 0)) .own)).put HA.next (.row (smc rr) .own)):=oz.store rfl;obtain ⟨H2,hH2⟩:∃ H2,H2=(HA.push (.row (smc (mE 0)) .own)).put HA.next (.row (smc rr) .own):=⟨_,rfl⟩;have w0:W1 HA H2 (smc rr):=by rw [hH2];exact ⟨kJ oz _,cz.put (.inr (Nat.le_refl _)) _,Nat.le_refl _⟩
   rw [<- hH2] at hst;have hz:∀ {β:Type} (K:Heap->Option β),bB ((HA.push (.row yZA .own)).store (HA.next,0) (yRA (smv rr))) K=K H2:=fun K=>by
    show bB ((HA.push (.row (smc (mE 0)) .own)).store (HA.next,0) (smc rr)) K=_;rw [hst,fA]
   rw [hz]
   clear hz hst hH2 cz nz oz
   obtain ⟨H3,p3,v3,c3,n3⟩:=w0.set (j:=0) (vs:=[(.int .i64 0)]) (show 0+1<=32 by decide) (ds:=smc { rr with k:=0 }) (by simp only [smc,smx,smv];rfl);obtain ⟨H4,p4,v4,c4,n4⟩:=v3.set (j:=1) (vs:=[(.int .i64 0)]) (show 1+1<=32 by decide) (ds:=smc { rr with k:=0,at_:=0 }) (by simp only [smc,smx,smv];rfl);obtain ⟨H5,p5,v5,c5,n5⟩:=v4.set (j:=30) (vs:=[(.slice none 0 0 0)]) (show 30+1<=32 by decide) (ds:=smc { rr with k:=0,at_:=0,th:=sl0 }) (by simp only [smc,smx,smv];rfl);obtain ⟨H6,p6,v6,c6,n6⟩:=v5.set (j:=31) (vs:=[(.slice none 0 0 0)]) (show 31+1<=32 by decide) (ds:=smc (z0R rr)) (by simp only [smc,smx,smv,z0R];rfl);simp only [Nat.zero_add,Nat.add_zero];rw [p3,p4,p5,p6];have hsz:s.len=l.length:=hv;rcases mAs (N:=N) hN t1 t5 (by omega) t2 t3 t4 (by omega) (by omega) oA v6 x1 x2 x3 x4 s v1 false (i:Int) with ⟨ok,ft,fe,z,H7,e7,w7,sw⟩ | ⟨H7,e7,c7,k7⟩
   ·rw [e7]
    simp only [fA,uA];obtain ⟨ok',z',H8,e8,w8,ho⟩:=lAs (N:=N) hN t3 (by omega) (by omega) oA w7 x3 s v1 false (i:Int) ok ft fe;rw [e8,aA];have hzt:z'.th=sl0/\z'.el=sl0:=by
     have hz0:z.th=sl0/\z.el=sl0:=by cases sw <;> exact ⟨rfl,rfl⟩
     grind
    rcases nAs (N:=N) hN (rec88:=rec88) hzt.1 hzt.2 oA w8 s v1 false (i:Int) ok' ft fe (Pt:=0<g/\∀ x∈th,bG g x) (Pe:=0<g/\∀ x∈el,bG g x)
      (fun G cG=>hrec th rr.th G (by omega) (by omega) t6 (x5.chg cG (by simp))) (fun G cG=>hrec el rr.el G (by omega) (by omega) t7 (x6.chg cG (by simp))) with ⟨H9,e9,tr⟩ | ⟨H9,e9,c9,tn⟩
    ·rw [e9]
     simp only [fA,uA];refine nxt (oAs hrr t1 t2 t3 t4 x1 x2 x3 x4 (by have:=x5.len;grind) (by have:=x6.len;grind) sw ho tr) H9 (cA.trans tr.c)
    ·rw [e9]
     simp only [fA,uA,iB];exact ⟨_,_,H9,rfl,cA.trans c9,.inr ⟨rfl,rfl,fun ha=>uAy hrr t3 x1 x2 x3 x4 (by have:=x5.len;grind) (by have:=x6.len;grind) sw ho (all ha) tn⟩⟩
   ·rw [e7]
    simp only [fA,uA,iB];exact ⟨_,_,H7,rfl,cA.trans c7,.inr ⟨rfl,rfl,fun ha=>by
     have k0:rr.k=k:=by rw [hrr]
     have:=yB5 (all ha)
     omega⟩⟩
  ·simp only [q,decide_false,cond_false]
   refine ⟨_,_,h,rfl,Chg.refl _ _,.inl ⟨rfl,fun y hy=>?_⟩⟩;obtain ⟨j,hj,rfl⟩:=List.getElem_of_mem hy
   grind
theorem vAy (hN:200<=N):∀ (g M:Nat) (l:List D) (s:SL) (h:Heap),g<=64->g<M->wtL l<N->wtL l<=2000000->(∀ x∈l,Wt Tryz.prog x 106)->Sl h V s l->∃ b h',f88 N M s ((65-g:Nat):Int) h=some (b,h')/\Chg [] h h'/\(b=true↔0<g/\∀ x∈l,bG g x):=by
 intro g
 induction g with
 | zero=>
  intro M l s h hg hM hw hwl ht x;obtain ⟨M,rfl⟩:∃ m,M=m+1:=⟨M-1,by omega⟩;rw [gAg];unfold dAs;exact ⟨false,h,rfl,Chg.refl _ _,(fun h=>by cases h),fun h=>absurd h.1 (by omega)⟩
 | succ g ih=>
  intro M l s h hg hM hw hwl ht x;obtain ⟨M,rfl⟩:∃ m,M=m+1:=⟨M-1,by omega⟩;rw [gAg];unfold dAs;have z:ltInt 64 ((65-(g+1):Nat):Int)=false:=by
   rw [show (64:Int)=((64:Nat):Int) from rfl,rB,decide_eq_false_iff_not];omega
  dsimp only;rw [z];simp only [cond_false];have hll:l.length<=wtL l:=nC l;obtain ⟨o,b,h',e,c,hh⟩:=iAd (N:=N) hN (g:=g) (rec88:=f88 N M) (v1:=((65-(g+1):Nat):Int)) (V:=V) (fun l s H h1 h2 h3 h4=>by
   grind [aB]) hw hwl ht N 0 h (Nat.zero_le _) (by omega) x fun j _ h=>by omega
  rw [show ((0:Nat):Int)=0 from rfl] at e;rw [e,kB];rcases hh with ⟨rfl,hh⟩ | ⟨rfl,rfl,hno⟩
  ·exact ⟨true,h',rfl,c,(fun _=>⟨Nat.succ_pos _,hh⟩),fun _=>rfl⟩
  ·exact ⟨false,h',rfl,c,(fun h=>by cases h),fun h=>absurd h.2 hno⟩
end
end Qp
namespace Qp
def unS:D->Bs
 | .s x=>x
 | _=>[]
def txS (l:List D):List Bs:=l.map unS
theorem rG (xs:List Bs):txS (xs.map D.s)=xs:=by
 unfold txS;rw [List.map_map];show xs.map (fun x=>unS (D.s x))=xs;exact List.map_id xs
def tyX:Nat->D->Bs
 | g+1,.t [.i k,.s nm,.l lv,.l el]=>if k=1 then [105,110,116] else if k=2 then [98,111,111,108] else if k=3 then nm++aE (txS lv) else
   [38]++(match txS lv with | []=>[] | x::_=>[39]++x++[32])++(if k=5 then [109,117,116,32] else [])++(match el with | t::_=>tyX g t | []=>[])
 | _,_=>[]
theorem wAg:∀ {g:Nat} {p:PT},p.ok g->tyX g p.D=p.txt
 | 0,p,h=>by cases p <;> cases h
 | g+1,.int,_=>rfl
 | g+1,.bool,_=>rfl
 | g+1,.st nm lv,_=>by grind [PT.D,tyD,tyX,rG,PT.txt]
 | g+1,.ref mu lv t,⟨_,_,h3⟩=>by
  have ih:=wAg h3;cases mu
  ·have e:tyX (g+1) (PT.ref false lv t).D=[38]++(match txS (lv.map D.s) with | []=>[] | x::_=>[39]++x++[32])++[]++tyX g t.D:=rfl
   rw [e,rG,ih];rfl
  ·have e:tyX (g+1) (PT.ref true lv t).D=[38]++(match txS (lv.map D.s) with | []=>[] | x::_=>[39]++x++[32])++[109,117,116,32]++tyX g t.D:=rfl
   rw [e,rG,ih];rfl
theorem fL {d:D} (h:dG 64 d):(tyX 64 d).length<=6000:=by
 obtain ⟨p,rfl,hp⟩:=h;rw [wAg hp]
 have:=vA2 hp
 omega
def fdX:D->Bs
 | .t [.b m,.s nm,ty]=>(if m=true then [109,117,116,32] else [])++(nm++[58,32]++tyX 64 ty)
 | _=>[]
def lM (l:List D):Bs:=Qb.joinL (l.map fdX) [44,32]
def plX:D->Bs
 | .t [.s nm,.l pa]=>Qb.joinL (nm::txS pa) [46]
 | _=>[]
def opX:D->Bs
 | .t [.i k,.i n,pl]=>if k=1 then Lib.itoa n else if k=2 then (if n=1 then [116,114,117,101] else [102,97,108,115,101]) else plX pl
 | _=>[]
def tA4 (k:Int):Bs:=if k=1 then [32,43,32] else if k=2 then [32,45,32] else if k=3 then [32,60,32] else [32,61,61,32]
def pD:List Bs->List D->List Bs
 | n::ns,o::r=>(n++[58,32]++opX o)::pD ns r
 | [],o::r=>opX o::pD [] r
 | _,[]=>[]
def vaX:D->Bs
 | .t [.i k,a,b,.i op,pl,.s nm,.l ns,.l ag]=>
  if k=2 then [38]++plX pl else if k=3 then [38,109,117,116,32]++plX pl else if k=4 then [33]++opX a else if k=5 then opX a++tA4 op++opX b
  else if k=6 then nm++[40]++Qb.joinL (pD (txS ns) ag) [44,32]++[41]
  else if k=7 then nm++[32,123,32]++(if Qb.joinL (pD (txS ns) ag) [44,32]=[] then [] else Qb.joinL (pD (txS ns) ag) [44,32]++[32])++[125] else opX a
 | _=>[]
theorem wG {B:Nat}:∀ {l:List Bs} {sep:Bs},(∀ x∈l,x.length<=B)->(Qb.joinL l sep).length<=l.length * (B+sep.length)
 | [],sep,_=>by simp [Qb.joinL]
 | [x],sep,h=>by
  grind [Qb.joinL,List.length_cons,List.length_nil]
 | x::y::r,sep,h=>by
  have h1:=h x (by simp);have h2:=wG (l:=y::r) (sep:=sep) fun z hz=>h z (List.mem_cons_of_mem _ hz);have e:Qb.joinL (x::y::r) sep=x++(sep++Qb.joinL (y::r) sep):=rfl
  grind [List.length_append,List.length_cons,Nat.add_mul]
theorem iD {x:Bs} (h:eC x=true):x.length<=32:=by
 simp only [eC,Bool.and_eq_true] at h;exact (uC h.1).2
section
variable {N:Nat} {h:Heap} {V:Nat->Prop}
theorem iA1:∀ (xs:List Bs),Qb.strsOf (xs.map AV.str)=some xs
 | []=>rfl
 | x::r=>by simp only [List.map_cons,Qb.strsOf,iA1 r]
theorem jA1 {s:SL} {xs:List Bs} {sep:Bs} (x:Sl h V s (xs.map D.s)) (hl:xs.length<=1000000) (hb:(Qb.joinL xs sep).length<=1000000000):f50 N s sep h=some (Qb.joinL xs sep,h):=by
 unfold f50 Qb.joinF;have hlen:=x.len;rw [List.length_map] at hlen
 cases xs with
 | nil=>
  have:s.len=0:=hlen
  rw [this];rfl
 | cons y r=>
  have hne:Nat.beq s.len 0=false:=by
   rw [hlen];rfl
  obtain ⟨vs,sv,dv⟩:=x.els;have hvs:=pAb dv;have hz:s.sz=1:=by
   have h1:=dv.length;rw [List.map_cons] at dv;simp only [De,Dt] at dv
   grind
  have hf:=Ai.qA0 (n:=1) sv (by grind);rw [hne,cond_false]
  cases ha:s.a with
  | none=>have:=sv.2.1 ha;grind
  | some q=>
   obtain ⟨A,off⟩:=q;rw [ha] at hf;have hc:Nat.ble s.len s.cap=true:=by simpa using x.cap
   simp only [wC,Nat.mul_one] at hf;simp only [hc,cond_true,hf,hvs,iA1];have hb2:(Nat.ble (y::r).length 140737488355328&&Nat.ble (Qb.joinL (y::r) sep).length 140737488355328)=true:=by
    rw [Bool.and_eq_true,Nat.ble_eq,Nat.ble_eq]
    grind
   rw [hb2,cond_true]
theorem add_eq {a b:Bs} (h:a.length+b.length<=1000000000) {β:Type} (K:Bs->Option β):dA (.val zM2) (rA .add a b) K=K (a++b):=by
 rw [yA (by omega)];rfl
theorem kA1:∀ (x:Bs) (r:List Bs),[60,39]++Qb.joinL (x::r) [44,32,39]++[62]=aE (x::r)
 | x,r=>by
  have:∀ (x:Bs) (r:List Bs),Qb.joinL (x::r) [44,32,39]=x++iI r:=by
   intro x r
   induction r generalizing x with
   | nil=>simp [Qb.joinL,iI]
   | cons y r ih=>
    have e:Qb.joinL (x::y::r) [44,32,39]=x++([44,32,39]++Qb.joinL (y::r) [44,32,39]):=rfl;rw [e,ih];simp [iI]
  rw [this];simp [aE]
theorem qAu {s:SL} {lv:List Bs} (x:Sl h V s (lv.map D.s)) (hl:lv.length<=64) (hv:∀ y∈lv,oD y=true):f41 N s h=some (aE lv,h):=by
 unfold f41;have hlen:=x.len;rw [List.length_map] at hlen
 cases lv with
 | nil=>
  have:s.len=0:=hlen
  have z:eA (Int.ofNat s.len) 0=true:=by rw [this];rfl
  simp only [z,cond_true];rfl
 | cons y r=>
  have z:eA (Int.ofNat s.len) 0=false:=by rw [hlen];rfl
  have hb:(Qb.joinL (y::r) [44,32,39]).length<=64 * 35:=Nat.le_trans (wG (B:=32) fun w hw=>(uC (hv w hw)).2) (Nat.mul_le_mul hl (by decide));simp only [z,cond_false]
  grind [jA1,aA,add_eq,kA1]
end
end Qp
namespace Qp
section
variable {N:Nat} {h:Heap} {V:Nat->Prop}
theorem aB6 (hN:100<=N):∀ (g M:Nat) (h:Heap) (r:TyV) (p:PT) (V:Nat->Prop),g<=M->g<=64->p.ok g->Dt h V p.D (tyc r)->∃ h',f36 N M r h=some (p.txt,h')/\Chg [] h h':=by
 intro g
 induction g with
 | zero=>intro M h r p V _ _ hp;cases p <;> cases hp
 | succ g ih=>
  intro M h r p V hM hg hp hd;obtain ⟨M,rfl⟩:∃ m,M=m+1:=⟨M-1,by omega⟩;rw [yAr];unfold yAx;obtain ⟨k,nm,lv,el,hpD⟩:∃ k nm lv el,p.D=tyD k nm lv el:=by cases p <;> exact ⟨_,_,_,_,rfl⟩
  rw [hpD] at hd;obtain ⟨s1,s2,hc,l1,t1⟩:=qF.1 hd;have er:=bX hc;subst er;have o1:=wA h (tyc (k,nm,s1,s2,()));have c1:=tA h (.row (tyc (k,nm,s1,s2,())) .own);have g1:h.push (.row [(.int .i64 (k,nm,s1,s2,()).1),(.str (k,nm,s1,s2,()).2.1),(.slice (k,nm,s1,s2,()).2.2.1.a (k,nm,s1,s2,()).2.2.1.len (k,nm,s1,s2,()).2.2.1.cap (k,nm,s1,s2,()).2.2.1.sz),(.slice (k,nm,s1,s2,()).2.2.2.1.a (k,nm,s1,s2,()).2.2.2.1.len (k,nm,s1,s2,()).2.2.2.1.cap (k,nm,s1,s2,()).2.2.2.1.sz)] .own)=h.push (.row (tyc (k,nm,s1,s2,())) .own):=rfl;rw [g1];generalize h.push (.row (tyc (k,nm,s1,s2,())) .own)=h1 at *;dsimp only;have a0:h1.cell (h.next,0)=some (.int .i64 k):=o1.cell 0;have a1:h1.cell (h.next,1)=some (.str nm):=o1.cell 1;have a2:h1.cell (h.next,2)=some (SL.av s1):=o1.cell 2;have a3:h1.cell (h.next,3)=some (SL.av s2):=o1.cell 3;simp only [SL.av] at a2 a3;have l1':=l1.chg c1 (by simp);have t1':=t1.chg c1 (by simp);have hl1:s1.len=lv.length:=by rw [l1.len,List.length_map]
  simp only [Nat.add_zero,Nat.zero_add,a0,bA,vA]
  cases p with
  | int=>
   simp only [PT.D,tyD,D.t.injEq,List.cons.injEq,D.i.injEq] at hpD;rw [<- hpD.1];exact ⟨_,rfl,c1⟩
  | bool=>
   simp only [PT.D,tyD,D.t.injEq,List.cons.injEq,D.i.injEq] at hpD;rw [<- hpD.1];exact ⟨_,rfl,c1⟩
  | st nm' lv'=>
   have hk:k=3/\nm=nm'/\lv=lv':=by
    simp only [PT.D,tyD,D.t.injEq,List.cons.injEq,D.i.injEq,D.s.injEq,D.l.injEq,and_true] at hpD
    grind [List.map_inj_right]
   obtain ⟨rfl,rfl,rfl⟩:=hk;obtain ⟨p1,p2,p3⟩:=hp;rw [show eA 3 1=false from rfl,show eA 3 2=false from rfl,show eA 3 3=true from rfl];simp only [cond_false,cond_true,a1,a2,bA,kA,jA];have f58':f41 N s1 h1=some (aE lv,h1):=qAu (N:=N) l1' p2 p3;rw [f58',aA,yA (by grind [qE,pR])];simp only [bA,kA,a1,nB,cond_true,qB];exact ⟨_,rfl,c1⟩
  | ref mu lv' t=>
   have hk:k=(if mu=true then 5 else 4)/\lv=lv'/\el=[t.D]:=by
    simp only [PT.D,tyD,D.t.injEq,List.cons.injEq,D.i.injEq,D.s.injEq,D.l.injEq,and_true] at hpD
    grind [List.map_inj_right]
   obtain ⟨hk,rfl,rfl⟩:=hk;obtain ⟨p1,p2,p3⟩:=hp;have ht:=vA2 p3;have kk:(k=4/\mu=false)\/(k=5/\mu=true):=by grind
   have z1:eA k 1=false:=by rcases kk with ⟨rfl,_⟩ | ⟨rfl,_⟩ <;> rfl
   have z2:eA k 2=false:=by rcases kk with ⟨rfl,_⟩ | ⟨rfl,_⟩ <;> rfl
   have z3:eA k 3=false:=by rcases kk with ⟨rfl,_⟩ | ⟨rfl,_⟩ <;> rfl
   have z5:eA k 5=mu:=by rcases kk with ⟨rfl,rfl⟩ | ⟨rfl,rfl⟩ <;> rfl
   simp only [z1,z2,z3,cond_false];have base:(mA (α:=zV1) (bif eA k 4 then some (((some (h.next,0)),[38],eA k 4,()),h1) else some (((some (h.next,0)),[38],eA k 5,()),h1))=mA (α:=zV1) (β:=Bs×Heap) (some (((some (h.next,0)),[38],true,()),h1))):=by
    rcases kk with ⟨rfl,rfl⟩ | ⟨rfl,rfl⟩ <;> rfl
   rw [base];have ze:eA (Int.ofNat s2.len) 0=false:=by rw [t1.len];rfl
   simp only [aA,cond_true,fA,a2,a3,bA,jA,ze,cond_false];have hty:∃ k nm lv el,t.D=tyD k nm lv el:=by cases t <;> exact ⟨_,_,_,_,rfl⟩
   have ecell:∃ r':TyV,h1.cells (s2.at 0 4) 4=some (.agg (tyc r'))/\Dt h1 V t.D (tyc r'):=by
    obtain ⟨cs,ee⟩:=t1'.elt (i:=0) (by simp);obtain ⟨k',nm',lv',el',hk'⟩:=hty;have hde:=ee.dt;simp only [List.getElem_cons_zero] at hde;rw [hk'] at hde;obtain ⟨u1,u2,hcs,_⟩:=qF.1 hde;have hz:s2.sz=4:=by rw [<- ee.len,hcs];rfl
    have hwh:=ee.whole
    grind
   obtain ⟨r',er',dr'⟩:=ecell;have hix:∀ {β:Type} (K:Nat×Nat->Option β),ixK s2.a s2.len 0 4 K=K (s2.at 0 4):=fun K=>t1'.ix (i:=0) (by simp) 4 K;obtain ⟨h',e',c'⟩:=ih M h1 r' t V (by omega) (by omega) p3 dr';have ahead:(mA (α:=zA1) (β:=Bs×Heap) (bif ltInt 0 (Int.ofNat s1.len) then
     (dA (.val zM2) (rA .add [38] [39]) fun (x21:zQ2)=>
     (ixK s1.a s1.len 0 1 fun q24=>
     (dA (.val zM2) (h1.cell q24) fun (x25:zQ2)=>
     (dA (.val zM2) (rA .add x21 x25) fun (x26:zQ2)=>
     (dA (.val zM2) (rA .add x26 [32]) fun (x27:zQ2)=>
     some ((some (h.next,0),x27,()),h1))))))
    else
     some ((some (h.next,0),[38],()),h1))=mA (α:=zA1) (some ((some (h.next,0),[38]++(match lv with | []=>[] | x::_=>[39]++x++[32]),()),h1))):=by
    cases lv with
    | nil=>
     have:ltInt 0 (Int.ofNat s1.len)=false:=by rw [hl1];rfl
     rw [this];rfl
    | cons x rr=>
     have:ltInt 0 (Int.ofNat s1.len)=true:=by rw [hl1,ltI,decide_eq_true_eq];grind
     rw [this];have hx:=uC (p2 x (by simp));have hix1:∀ {β:Type} (K:Nat×Nat->Option β),ixK s1.a s1.len 0 1 K=K (s1.at 0 1):=fun K=>l1'.ix (i:=0) (by simp) 1 K;have hcl:=vE l1' (i:=0) (by simp);simp only [List.getElem_cons_zero] at hcl;simp only [cond_true];rw [yA (by simp)];simp only [bA,kA];rw [hix1,hcl];simp only [bA,kA];rw [yA (by grind)];simp only [bA,kA];rw [yA (by grind)];simp only [bA,kA];rw [<- List.append_assoc,<- List.append_assoc]
   rw [ahead];have hal:([38]++(match lv with | []=>[] | x::_=>[39]++x++[32]):Bs).length<=40:=by
    grind [uC,List.length_append,List.length_cons,List.length_nil]
   generalize ha:([38]++(match lv with | []=>[] | x::_=>[39]++x++[32]):Bs)=pre at *;simp only [aA,fA,a0,bA,vA,z5];have etxt:(PT.ref mu lv t).txt=pre++(if mu=true then [109,117,116,32] else [])++t.txt:=by rw [<- ha];rfl
   rw [etxt]
   cases mu with
   | false=>
    simp only [cond_false,aA,fA,a3,bA,jA,Bool.false_eq_true,if_false,List.append_nil];rw [hix,er',vJ];show ∃ h',(mA (f36 N M r' h1) _)=_/\_;rw [e',aA,yA (by omega)];simp only [bA,kA];exact ⟨_,rfl,c1.trans c'⟩
   | true=>
    simp only [cond_true,if_true];rw [yA (by grind)];simp only [bA,kA,aA,fA,a3,jA];rw [hix,er',vJ];show ∃ h',(mA (f36 N M r' h1) _)=_/\_;rw [e',aA,yA (by grind)];simp only [bA,kA];exact ⟨_,rfl,c1.trans c'⟩
theorem wR {h0 h H:Heap} {out:SL} {ys:List Bs} {i:Nat} (hi:i<ys.length) (ho:OwV (Fr0 h0) h out 1 ((ys.map D.s).take i)) (c0:Chg [] h0 h) (cH:Chg [] h H) (hl:ys.length<=100000) {y:Bs} (hy:y=ys[i]) :
  ∃ s' h',(∀ {β:Type} (K:SL->Heap->Option β),jJ (.val zL2) (dD E 38 38 (yL out) (.slice (some (H.next,0)) 1 1 1) (H.push (.row [.str y] .own))) K=K s' h')/\OwV (Fr0 h0) h' s' 1 ((ys.map D.s).take (i+1))/\Chg [] h0 h':=by
 subst hy;exact wB2 kB2 (by decide) (xs:=ys.map D.s) (by grind) ho c0 cH (cs:=[.str ys[i]]) (by rw [List.getElem_map];simp only [Dt]) rfl (by omega)
theorem uA4 {h':Heap} {d:D} (h:dG 64 d) {r:TyV} (hN:100<=N) (x:Dt h' V d (tyc r)):∃ h2,f36 N N r h'=some (tyX 64 d,h2)/\Chg [] h' h2:=by
 obtain ⟨p,rfl,hp⟩:=h;rw [wAg hp];exact aB6 hN 64 N h' r p V (by omega) (Nat.le_refl _) hp x
theorem vA4 {mu:Bool} {d:D} (h:wE mu d):(fdX d).length<=6040:=by
 obtain ⟨m,nm,ty,rfl,_,hn,ht⟩:=h;have h1:=iD hn;have h2:=fL ht;have e:fdX (fdD m nm ty)=(if m=true then [109,117,116,32] else [])++(nm++[58,32]++tyX 64 ty):=rfl
 grind
theorem gL {mu:Bool} {l:List D} (h:mJ 64 (wE mu) l):(lM l).length<=400000:=by
 have:=wG (B:=6040) (l:=l.map fdX) (sep:=[44,32]) fun x hx=>by obtain ⟨d,hd,rfl⟩:=List.mem_map.1 hx;exact vA4 (h.2 d hd)
 have h1:=h.1;rw [List.length_map] at this;unfold lM
 grind
theorem jAd (hN:100<=N) {h0:Heap} {mu:Bool} {l:List D} (hl:mJ 64 (wE mu) l) {s:SL} (x:Sl h0 V s l):∀ (M i:Nat) (out:SL) (h:Heap),i<=l.length->l.length-i<M->OwV (Fr0 h0) h out 1 (((l.map fdX).map D.s).take i)->Chg [] h0 h->∃ out' h',iT N M out s (l.length:Int) (i:Int) h=some (.exit 0,(out',()),h')/\OwV (Fr0 h0) h' out' 1 ((l.map fdX).map D.s)/\Chg [] h0 h':=by
 have hlen:((l.map fdX).map D.s).length=l.length:=by simp
 have key:=qAb (h0:=h0) (n:=1) (k:=0) (xs:=(l.map fdX).map D.s) (L:=fun M out i h=>iT N M out s (l.length:Int) i h) (fin:=fun out=>(out,())) ?_ ?_
 ·grind
 ·intro M i hi out h ho hc
  rw [hlen] at hi;show ∃ out' h',iT N (M+1) out s (l.length:Int) (i:Int) h=iT N M out' s (l.length:Int) ((i+1:Nat):Int) h'/\_;rw [fY];unfold rU;simp only [rB,hi,decide_true,cond_true];have hm:=hl.2 _ (List.getElem_mem hi);have x:=x.chg hc (by simp);obtain ⟨r,g,d⟩:=nAb.elt x hi (uQ hm);rw [x.ix hi 6,g,lB2];obtain ⟨h5,p5,c5,o5⟩:=nAb.park (z:=fdc fd0) rfl h r;have p5':∀ {β:Type} (K:Heap->Option β),bB ((h.push (.row [(.bool false),(.str []),(.int .i64 0),(.str []),(.slice none 0 0 0),(.slice none 0 0 0)] .own)).store (h.next,0) [(.bool r.1),(.str r.2.1),(.int .i64 r.2.2.1),(.str r.2.2.2.1),(yL r.2.2.2.2.1),(yL r.2.2.2.2.2.1)]) K=K h5:=p5;rw [p5'];have d5:=Dt.chg c5 (by simp) d;have hfl:=vA4 hm;have hfx:fdX l[i]=(l.map fdX)[i]'(by simpa using hi):=by rw [List.getElem_map]
  obtain ⟨m,nm,ty,hd,hmu,hn,ht⟩:=hm;rw [hd] at d5 hfl hfx;obtain ⟨q1,hc1,y1⟩:=pAf (jN ht) d5;obtain rfl:=nAb.inj hc1;have a0:h5.cell (h.next,0)=some (.bool m):=o5.cell 0;have a1:h5.cell (h.next,1)=some (.str nm):=o5.cell 1;have aa:h5.cells (h.next,2) 4=some (.agg (tyc q1)):=o5.cells (j:=2) (m:=4) (Nat.le_refl _);have h1:=iD hn;have h2:=fL ht;obtain ⟨h6,e6,c6⟩:=uA4 ht hN y1;have o6:=o5.chg c6 (by simp);have b0:h6.cell (h.next,0)=some (.bool m):=o6.cell 0;have b1:h6.cell (h.next,1)=some (.str nm):=o6.cell 1;have c06:=c5.trans c6;simp only [Nat.add_zero,Nat.zero_add,a1,bA,kA];rw [yA (by simp;omega)];simp only [bA,kA];rw [aa,vJ];show ∃ out' h',(mA (f36 N N q1 h5) _)=_/\_;rw [e6,aA,yA (by simp;omega)];have sm:mB (some (.agg (tyc q1))) (.agg [(.int .i64 q1.1),(.str q1.2.1),(yL q1.2.2.1),(yL q1.2.2.2.1)])=true:=wI _;simp only [bA,kA,sm,b1,nB,cond_true,qB,b0,uB];have hfe:fdX (fdD m nm ty)=(if m=true then [109,117,116,32] else [])++(nm++[58,32]++tyX 64 ty):=rfl;have ih':i<(l.map fdX).length:=by simpa using hi
  cases m with
  | true=>
   simp only [cond_true];rw [yA (by simp;omega)];simp only [bA,kA];obtain ⟨s',h',e',o',c'⟩:=wR ih' ho hc c06 (by rw [List.length_map];have:=hl.1;omega) (y:=[109,117,116,32]++(nm++[58,32]++tyX 64 ty)) (by rw [<- hfx,hfe];rfl);rw [e',aB (by have:=hl.1;omega)]
   grind
  | false=>
   simp only [cond_false];obtain ⟨s',h',e',o',c'⟩:=wR ih' ho hc c06 (by rw [List.length_map];have:=hl.1;omega) (y:=nm++[58,32]++tyX 64 ty) (by rw [<- hfx,hfe];rfl);rw [e',aB (by have:=hl.1;omega)]
   grind
 ·intro M out h
  rw [hlen];show iT N (M+1) out s (l.length:Int) (l.length:Int) h=_;rw [fY];unfold rU;simp only [rB,Nat.lt_irrefl,decide_false,cond_false]
theorem rAu (hN:200<=N) {mu:Bool} {l:List D} (hl:mJ 64 (wE mu) l) {s:SL} (x:Sl h V s l):∃ h',f38 N s h=some (lM l,h')/\Chg [] h h':=by
 unfold f38;obtain ⟨out,h',e,o,c⟩:=jAd (N:=N) (by omega) hl x N 0 ⟨none,0,0,0⟩ h (Nat.zero_le _) (by have:=hl.1;omega) (OwV.nil _ _ _ _) (Chg.refl _ _);have e0:Int.ofNat s.len=((l.length:Nat):Int):=by rw [x.len];rfl
 have e1:((0:Nat):Int)=0:=rfl;rw [e1] at e;rw [e0,e,kB];dsimp only;rw [jA1 o.sl (by rw [List.length_map];have:=hl.1;omega) (Nat.le_trans (gL hl) (by decide)),aA];exact ⟨h',rfl,c⟩
end
end Qp
namespace Qp
section
variable {N:Nat} {h:Heap} {V:Nat->Prop}
theorem eAo {s:SL} {xs:List Bs} (o:OwC h s 1 (xs.map AV.str)):Sl h (fun _=>True) s (xs.map D.s):=by
 have hl:=o.len;rw [List.length_map,Nat.mul_one] at hl;refine ⟨by grind,o.cap,fun _ _=>trivial,_,o.sees,?_⟩
 by_cases hz:xs=[]
 ·subst hz;simp [De]
 ·have hp:0<xs.length:=List.length_pos_iff.2 hz
  have:s.sz=1:=by
   rcases o with ⟨_,h2,_⟩ | ⟨A,cs,st,_,h2,_⟩
   ·omega
   ·exact h2
  rw [this];exact rA0 _ _ _
theorem fH {d:D} (h:lH d):(plX d).length<=3000:=by
 obtain ⟨nm,xs,rfl,hn,h1,h2⟩:=h;have e:plX (gD nm (xs.map D.s))=Qb.joinL (nm::xs) [46]:=by
  show Qb.joinL (nm::txS (xs.map D.s)) [46]=_;rw [rG]
 rw [e]
 have:=wG (B:=32) (l:=nm::xs) (sep:=[46]) fun x hx=>by
  rcases List.mem_cons.1 hx with rfl | hx
  ·exact iD hn
  ·rcases h2 x hx with rfl | h3
   ·decide
   ·exact iD h3
 grind
theorem rY {d:D} (hd:lH d) {r:LfV} (x:Dt h V d (lfc r)):∃ h',f130 N (r.1,r.2.1,()) h=some (plX d,h')/\Chg [] h h':=by
 have hlen:=fH hd;obtain ⟨nm,xs,rfl,hn,hx1,hx2⟩:=hd;obtain ⟨s,hc,y⟩:=iG x;obtain rfl:=tR.inj (r':=(nm,s,())) hc;have e:plX (gD nm (xs.map D.s))=Qb.joinL (nm::xs) [46]:=by
  show Qb.joinL (nm::txS (xs.map D.s)) [46]=_;rw [rG]
 rw [e] at hlen ⊢;unfold f130;have o1:=wA h (lfc (nm,s,()));have c1:=tA h (.row (lfc (nm,s,())) .own);have e1:h.push (.row [(.str (nm,s,()).1),(.slice (nm,s,()).2.1.a (nm,s,()).2.1.len (nm,s,()).2.1.cap (nm,s,()).2.1.sz)] .own)=h.push (.row (lfc (nm,s,())) .own):=rfl;dsimp only at e1 ⊢;rw [e1];have y:=y.chg c1 (by simp);generalize h.push (.row (lfc (nm,s,())) .own)=h1 at *;have a0:h1.cell (h.next,0)=some (.str nm):=o1.cell 0;simp only [Nat.add_zero,Nat.zero_add,a0,bA,kA];have o3:=wA h1 [.str nm];have c3:=tA h1 (.row [.str nm] .own);have y:=y.chg c3 (by simp);generalize h1.push (.row [.str nm] .own)=h3 at *;have o13:=o1.chg c3 (by simp);have a1:h3.cell (h.next,1)=some (yL s):=o13.cell 1;simp only [a1,bA,jA];obtain ⟨ws,hs,he⟩:=y.els;have hws:=pAb he;have hsl:=y.len;rw [List.length_map] at hsl;have ow:OwC h3 ⟨some (h1.next,0),1,1,1⟩ 1 [.str nm]:=.inr ⟨h1.next,[.str nm],.own,rfl,rfl,o3.2,o3.1,rfl,rfl,Nat.le_refl _,.inr ⟨rfl,rfl⟩⟩;obtain ⟨v,h',ea,o,vl,c,hb⟩:=jAr (E:=E) kB2 hs (by grind) (by rw [hws];intro w hw;obtain ⟨y,_,rfl⟩:=List.mem_map.1 hw;rfl) ow (by grind);have ea':dD E 38 38 (.slice (some (h1.next,0)) 1 1 1) (yL s) h3=some (.slice v.a v.len v.cap v.sz,h'):=ea;rw [ea'];simp only [mR,jA];have ho:OwC h' v 1 ((nm::xs).map AV.str):=by
  rw [hws] at o;exact o
 have c':Chg [h1.next] h3 h':=c;have cc:Chg [] h h':=(c1.trans c3).step c' (fun A hA hl=>by simp at hA;have:=c1.next;omega);have f:=jA1 (N:=N) (sep:=[46]) (eAo ho) (by simp;omega) (by omega);have f':f50 N v [46] h'=some (Qb.joinL (nm::xs) [46],h'):=f;rw [f',aA];exact ⟨h',rfl,cc⟩
theorem PK.itoa (pk:PK h) {i:Int} (h0:-9223372036854775808<=i) (h1:i<=9223372036854775807):f204 N i h=some (Lib.itoa i,h):=by
 unfold f204 Qb.itoaF;rw [if_pos ⟨pk.2.2.1,pk.2.2.2,h0,h1⟩]
theorem uD {d:D} (h:qC d):(opX d).length<=3000:=by
 rcases h with ⟨n,rfl,hn⟩ | ⟨n,hn,rfl⟩ | ⟨p,rfl,hp⟩
 ·have:=Lib.itoa_length_le (n:Int) (by omega) (by omega)
  show (Lib.itoa (n:Int)).length<=_;omega
 ·rcases hn with rfl | rfl <;> decide
 ·exact fH hp
theorem vO {d:D} (hd:qC d) (pk:PK h) {r:OpV} (x:Dt h V d (opc r)):∃ h',f177 N r h=some (opX d,h')/\Chg [] h h':=by
 unfold f177;have hi:=iC hd;have o1:=wA h (opc r);have c1:=tA h (.row (opc r) .own);have e1:h.push (.row [(.int .i64 r.1),(.int .i64 r.2.1),(.str r.2.2.1),(yL r.2.2.2.1)] .own)=h.push (.row (opc r) .own):=rfl;dsimp only;rw [e1];have x:=Dt.chg c1 (by simp) x;have pk:=pk.chg c1;generalize h.push (.row (opc r) .own)=h1 at *;rcases hd with ⟨n,rfl,hn⟩ | ⟨n,hn,rfl⟩ | ⟨p,rfl,hp⟩
 ·obtain ⟨q,hc,_⟩:=aO ⟨[],[],rfl,by simp⟩ x
  obtain rfl:=lJ.inj hc;have a0:h1.cell (h.next,0)=some (.int .i64 1):=o1.cell 0;have a1:h1.cell (h.next,1)=some (.int .i64 (n:Int)):=o1.cell 1;simp only [Nat.add_zero,Nat.zero_add,a0,a1,bA,vA,show eA 1 1=true from rfl,cond_true];rw [pk.itoa (by omega) (by omega),aA];exact ⟨h1,rfl,c1⟩
 ·obtain ⟨q,hc,_⟩:=aO ⟨[],[],rfl,by simp⟩ x
  obtain rfl:=lJ.inj hc;have a0:h1.cell (h.next,0)=some (.int .i64 2):=o1.cell 0;have a1:h1.cell (h.next,1)=some (.int .i64 n):=o1.cell 1;simp only [Nat.add_zero,Nat.zero_add,a0,a1,bA,vA,show eA 2 1=false from rfl,show eA 2 2=true from rfl,cond_true,cond_false];unfold f205 f218;rcases hn with rfl | rfl
  ·exact ⟨h1,rfl,c1⟩
  ·exact ⟨h1,rfl,c1⟩
 ·obtain ⟨nm,xs,hpl,h2,h3,h4⟩:=hp
  have hp:lH p:=⟨nm,xs,hpl,h2,h3,h4⟩;obtain ⟨q,hc,y⟩:=aO (vG hp) x;obtain rfl:=lJ.inj hc;have a0:h1.cell (h.next,0)=some (.int .i64 3):=o1.cell 0;have aa:h1.cells (h.next,2) 2=some (.agg (lfc q)):=o1.cells (j:=2) (m:=2) (Nat.le_refl _);simp only [Nat.add_zero,Nat.zero_add,a0,bA,vA,show eA 3 1=false from rfl,show eA 3 2=false from rfl,cond_false];obtain ⟨h',e,c⟩:=rY (N:=N) hp y;rw [aa,jH,e,aA];exact ⟨h',rfl,c1.trans c⟩
end
end Qp
namespace Qp
theorem vD:∀ (ns:List Bs) (ag:List D),(pD ns ag).length=ag.length
 | _::ns,_::r=>by simp [pD,vD ns r]
 | [],_::r=>by simp [pD,vD [] r]
 | _::_,[]=>rfl
 | [],[]=>rfl
theorem eK:∀ (ns:List Bs) (ag:List D) (i:Nat) (hi:i<(pD ns ag).length) (hj:i<ag.length),(pD ns ag)[i]=if h:i<ns.length then ns[i]++[58,32]++opX ag[i] else opX ag[i]
 | n::ns,o::r,0,_,_=>by simp [pD]
 | [],o::r,0,_,_=>by simp [pD]
 | n::ns,o::r,i+1,hi,hj=>by
  simp only [pD,List.getElem_cons_succ,List.length_cons,Nat.add_lt_add_iff_right];exact eK ns r i _ _
 | [],o::r,i+1,hi,hj=>by
  simp only [pD,List.getElem_cons_succ,List.length_nil,Nat.not_lt_zero,dite_false]
  have:=eK [] r i (by simpa [pD] using hi) (by simpa using hj)
  simpa using this
 | _::_,[],_,_,hj=>by simp at hj
 | [],[],_,_,hj=>by simp at hj
theorem tY {ns:List Bs} {ag:List D} (hn:∀ x∈ns,eC x=true) (ha:mJ 64 qC ag):∀ x∈pD ns ag,x.length<=3100:=by
 intro x hx;obtain ⟨i,hi,rfl⟩:=List.mem_iff_getElem.1 hx;have hj:i<ag.length:=by rw [<- vD ns ag];exact hi
 rw [eK ns ag i hi hj];have h1:=uD (ha.2 _ (List.getElem_mem hj))
 grind [iD,List.getElem_mem]
theorem mM {ns:List Bs} {ag:List D} (hn:∀ x∈ns,eC x=true) (ha:mJ 64 qC ag):(Qb.joinL (pD ns ag) [44,32]).length<=200000:=by
 have:=wG (sep:=[44,32]) (tY hn ha)
 rw [vD] at this;exact Nat.le_trans this (Nat.le_trans (Nat.mul_le_mul ha.1 (Nat.le_refl _)) (by decide))
theorem wA4 (k:Int) (a b:D) (op:Int) (pl:D) (nm:Bs) (ns:List Bs) (ag:List D):vaX (vaD k a b op pl nm (ns.map D.s) ag)=if k=2 then [38]++plX pl else if k=3 then [38,109,117,116,32]++plX pl else if k=4 then [33]++opX a else if k=5 then opX a++tA4 op++opX b
  else if k=6 then nm++[40]++Qb.joinL (pD ns ag) [44,32]++[41]
  else if k=7 then nm++[32,123,32]++(if Qb.joinL (pD ns ag) [44,32]=[] then [] else Qb.joinL (pD ns ag) [44,32]++[32])++[125] else opX a:=by
 show (if k=2 then [38]++plX pl else if k=3 then [38,109,117,116,32]++plX pl else if k=4 then [33]++opX a else if k=5 then opX a++tA4 op++opX b
  else if k=6 then nm++[40]++Qb.joinL (pD (txS (ns.map D.s)) ag) [44,32]++[41]
  else if k=7 then nm++[32,123,32]++(if Qb.joinL (pD (txS (ns.map D.s)) ag) [44,32]=[] then [] else Qb.joinL (pD (txS (ns.map D.s)) ag) [44,32]++[32])++[125] else opX a)=_
 rw [rG]
section
variable {N:Nat} {h:Heap} {V:Nat->Prop}
theorem qAs {h0:Heap} {P:Nat} {ns:List Bs} {ag:List D} (hn:∀ x∈ns,eC x=true) (ha:mJ 64 qC ag) {row:List AV} (oP:h0.own P row) {s1 s2:SL} (h13:row[13]? = some (SL.av s1)) (x1:Sl h0 V s1 (ns.map D.s)) (x2:Sl h0 V s2 ag) (pk:PK h0) :
  ∀ (M i:Nat) (out:SL) (h:Heap),i<=ag.length->ag.length-i<M->OwV (Fr0 h0) h out 1 (((pD ns ag).map D.s).take i)->Chg [] h0 h->∃ out' h',fM N M (some (P,0)) out s2 (ag.length:Int) (i:Int) h=some (.exit 0,(some (P,0),out',()),h')/\OwV (Fr0 h0) h' out' 1 ((pD ns ag).map D.s)/\Chg [] h0 h':=by
 have hlen:((pD ns ag).map D.s).length=ag.length:=by rw [List.length_map,vD]
 have hl64:=ha.1;have key:=qAb (h0:=h0) (n:=1) (k:=0) (xs:=(pD ns ag).map D.s) (L:=fun M out i h=>fM N M (some (P,0)) out s2 (ag.length:Int) i h) (fin:=fun out=>(some (P,0),out,())) ?_ ?_
 ·grind
 ·intro M i hi out h ho hc
  rw [hlen] at hi;show ∃ out' h',fM N (M+1) (some (P,0)) out s2 (ag.length:Int) (i:Int) h=fM N M (some (P,0)) out' s2 (ag.length:Int) ((i+1:Nat):Int) h'/\_;rw [kT];unfold vQ;simp only [rB,hi,decide_true,cond_true];have hm:=ha.2 _ (List.getElem_mem hi);have x:=x2.chg hc (by simp);obtain ⟨r,g,d⟩:=lJ.elt x hi (iC hm);rw [x.ix hi 4,g,lJ.agg];obtain ⟨h5,p5,c5,o5⟩:=lJ.park (z:=opc (0,0,[],sl0,())) rfl h r;have p5':∀ {β:Type} (K:Heap->Option β),bB ((h.push (.row [(.int .i64 0),(.int .i64 0),(.str []),(.slice none 0 0 0)] .own)).store (h.next,0) [(.int .i64 r.1),(.int .i64 r.2.1),(.str r.2.2.1),(yL r.2.2.2.1)]) K=K h5:=p5;rw [p5',lJ.cells o5];have d5:=Dt.chg c5 (by simp) d;obtain ⟨h6,e6,c6⟩:=vO (N:=N) hm (pk.chg (hc.trans c5)) d5;have c06:=c5.trans c6;have hol:=uD hm;show ∃ out' h',(mA (f177 N r h5) _)=_/\_;rw [e6,aA];have oP6:=oP.chg (hc.trans c06) (by simp);have b13:h6.cell (P,13)=some (yL s1):=by rw [oP6.cell 13,h13];rfl
  have x16:=x1.chg (hc.trans c06) (by simp);have l1:s1.len=ns.length:=by rw [x1.len,List.length_map]
  simp only [fA,Nat.zero_add,b13,bA,jA];have hi':i<(pD ns ag).length:=by grind
  have hget:=eK ns ag i hi' hi;have ltn:ltInt (i:Int) (Int.ofNat s1.len)=decide (i<ns.length):=by rw [l1];exact rB i ns.length
  rw [ltn]
  by_cases q:i<ns.length
  ·rw [dif_pos q] at hget
   have hnl:=iD (hn _ (List.getElem_mem q));simp only [q,decide_true,cond_true];have hix:∀ {β:Type} (K:Nat×Nat->Option β),ixK s1.a s1.len (i:Int) 1 K=K (s1.at i 1):=fun K=>x16.ix (i:=i) (by grind) 1 K;rw [hix,vE x16 q];simp only [bA,kA];rw [yA (by simp;omega)];simp only [bA,kA];rw [yA (by simp;omega)];simp only [bA,kA];obtain ⟨s',h',e',o',c'⟩:=wR hi' ho hc c06 (by grind) hget.symm;rw [e',aB (by omega)]
   grind
  ·rw [dif_neg q] at hget
   simp only [q,decide_false,cond_false];obtain ⟨s',h',e',o',c'⟩:=wR hi' ho hc c06 (by grind) hget.symm;rw [e',aB (by omega)]
   grind
 ·intro M out h
  rw [hlen];show fM N (M+1) (some (P,0)) out s2 (ag.length:Int) (ag.length:Int) h=_;rw [kT];unfold vQ;simp only [rB,Nat.lt_irrefl,decide_false,cond_false]
theorem tG {d:D} (h:mayVa d):(vaX d).length<=300000:=by
 cases h with
 | op h=>rw [show ([]:List D)=([]:List Bs).map D.s from rfl,wA4];grind [Nat.le_trans,uD]
 | ref hk h=>
  have:=fH h
  rw [show ([]:List D)=([]:List Bs).map D.s from rfl,wA4];rcases hk with rfl | rfl <;> simp <;> omega
 | no h=>
  have:=uD h
  rw [show ([]:List D)=([]:List Bs).map D.s from rfl,wA4];simp;omega
 | bin ha hb hk=>
  have:=uD ha
  have:=uD hb
  rw [show ([]:List D)=([]:List Bs).map D.s from rfl,wA4];rcases hk with rfl | rfl | rfl | rfl <;> simp [tA4] <;> omega
 | call hn h=>
  have h1:=qE hn;have h2:=mM (ns:=[]) (by simp) h;rw [show ([]:List D)=([]:List Bs).map D.s from rfl,wA4];simp;omega
 | make hn hl hs h=>
  have h1:=qE hn;have h2:=mM hs h;rw [wA4]
  grind
theorem bV {H H':Heap} {A:Nat} {cs:List AV} (o:H.own A cs) (o':H'.own A cs):gO (H.t.get A) (H'.t.get A)=true:=by
 have e1:H.t.get A=some (.row cs .own):=o.1;have e2:H'.t.get A=some (.row cs .own):=o'.1;rw [e1,e2];show (eqV (.agg cs) (.agg cs)&&oB0 .own .own)=true;rw [tI];rfl
theorem fAo {d:D} (h:mayVa d):∃ (k:Int) (a b:D) (op:Int) (pl:D) (nm:Bs) (ns:List Bs) (ag:List D),d=vaD k a b op pl nm (ns.map D.s) ag/\isOp a/\isOp b/\isLf pl/\(∀ x∈ns,eC x=true)/\mJ 64 qC ag/\nm.length<=66/\
  ((k=1/\qC a)\/(k=2/\lH pl)\/(k=3/\lH pl)\/(k=4/\qC a)\/(k=5/\qC a/\qC b/\(op=1\/op=2\/op=3\/op=4))\/k=6\/k=7):=by
 have o0:isOp op0:=⟨0,0,pl0,rfl,[],[],rfl,by simp⟩;have p0:isLf pl0:=⟨[],[],rfl,by simp⟩
 cases h with
 | op h=>exact ⟨1,_,_,_,_,_,[],[],rfl,iC h,o0,p0,by simp,⟨by simp,by simp⟩,by simp,.inl ⟨rfl,h⟩⟩
 | ref hk h=>
  rcases hk with rfl | rfl
  ·exact ⟨2,_,_,_,_,_,[],[],rfl,o0,o0,vG h,by simp,⟨by simp,by simp⟩,by simp,.inr (.inl ⟨rfl,h⟩)⟩
  ·exact ⟨3,_,_,_,_,_,[],[],rfl,o0,o0,vG h,by simp,⟨by simp,by simp⟩,by simp,.inr (.inr (.inl ⟨rfl,h⟩))⟩
 | no h=>exact ⟨4,_,_,_,_,_,[],[],rfl,iC h,o0,p0,by simp,⟨by simp,by simp⟩,by simp,.inr (.inr (.inr (.inl ⟨rfl,h⟩)))⟩
 | bin ha hb hk=>exact ⟨5,_,_,_,_,_,[],[],rfl,iC ha,iC hb,p0,by simp,⟨by simp,by simp⟩,by simp,.inr (.inr (.inr (.inr (.inl ⟨rfl,ha,hb,hk⟩))))⟩
 | call hn h=>exact ⟨6,_,_,_,_,_,[],_,rfl,o0,o0,p0,by simp,h,qE hn,.inr (.inr (.inr (.inr (.inr (.inl rfl)))))⟩
 | make hn hl hs h=>exact ⟨7,_,_,_,_,_,_,_,rfl,o0,o0,p0,hs,h,qE hn,.inr (.inr (.inr (.inr (.inr (.inr rfl)))))⟩
theorem yA4 (hN:200<=N) {d:D} (hd:mayVa d) (pk:PK h) {r:VaV} (x:Dt h V d (vac r)):∃ h',f131 N r h=some (vaX d,h')/\Chg [] h h':=by
 have hvl:=tG hd;obtain ⟨k,a,b,op,pl,nm,ns,ag,rfl,ta,tb,tp,hns,hag,hnm,hk⟩:=fAo hd;unfold f131;have o1:=wA h (vac r);have c1:=tA h (.row (vac r) .own);have e1:h.push (.row (yRB r) .own)=h.push (.row (vac r) .own):=rfl;dsimp only;rw [e1];have x:=Dt.chg c1 (by simp) x;have pk:=pk.chg c1;generalize h.push (.row (vac r) .own)=h1 at *;obtain ⟨ra,rb,rp,s1,s2,hc,xa,xb,xp,x1,x2⟩:=bH ta tb tp x;have hr:r=kE k ra rb op rp nm s1 s2:=gF hc;subst hr;have a14:h1.cell (h.next,14)=some (yL s2):=o1.cell 14;simp only [Nat.add_zero,Nat.zero_add,a14,bA,jA];obtain ⟨out,H,e,ow,c⟩:=qAs (N:=N) hns hag o1 (s1:=s1) (s2:=s2) rfl x1 x2 pk N 0 ⟨none,0,0,0⟩ h1 (Nat.zero_le _) (by have:=hag.1;omega) (OwV.nil _ _ _ _) (Chg.refl _ _);have e0:Int.ofNat s2.len=((ag.length:Nat):Int):=by rw [x2.len];rfl
 rw [show ((0:Nat):Int)=0 from rfl] at e;have es:(s2:SL)=s2:=rfl;rw [es,e0,e,kB];dsimp only;have hJ:=mM hns hag;rw [jA1 ow.sl (by rw [vD];have:=hag.1;omega) (Nat.le_trans hJ (by decide)),aA];rw [wA4] at hvl ⊢;generalize Qb.joinL (pD ns ag) [44,32]=J at *;have oH:=o1.chg c (by simp);have pkH:=pk.chg c;have xa:=Dt.chg c (by simp) xa;have xb:=Dt.chg c (by simp) xb;have xp:=Dt.chg c (by simp) xp;have cH:=c1.trans c;have rd0:∀ {G:Heap},G.own h.next (vac (kE k ra rb op rp nm s1 s2))->G.cell (h.next,0)=some (.int .i64 k):=fun o=>o.cell 0;have rd9:∀ {G:Heap},G.own h.next (vac (kE k ra rb op rp nm s1 s2))->G.cell (h.next,9)=some (.int .i64 op):=fun o=>o.cell 9;have rd12:∀ {G:Heap},G.own h.next (vac (kE k ra rb op rp nm s1 s2))->G.cell (h.next,12)=some (.str nm):=fun o=>o.cell 12;have rd1:∀ {G:Heap},G.own h.next (vac (kE k ra rb op rp nm s1 s2))->G.cells (h.next,1) 4=some (.agg (opc ra)):=fun o=>o.cells (j:=1) (m:=4) (show 1+4<=15 by decide);have rd5:∀ {G:Heap},G.own h.next (vac (kE k ra rb op rp nm s1 s2))->G.cells (h.next,5) 4=some (.agg (opc rb)):=fun o=>o.cells (j:=5) (m:=4) (show 5+4<=15 by decide);have rd10:∀ {G:Heap},G.own h.next (vac (kE k ra rb op rp nm s1 s2))->G.cells (h.next,10) 2=some (.agg (lfc rp)):=fun o=>o.cells (j:=10) (m:=2) (show 10+2<=15 by decide);simp only [fA,Nat.zero_add,rd0 oH,bA,vA];rcases hk with ⟨rfl,ha⟩ | ⟨rfl,hp⟩ | ⟨rfl,hp⟩ | ⟨rfl,ha⟩ | ⟨rfl,ha,hb,hop⟩ | rfl | rfl
 ·simp only [show eA 1 2=false from rfl,show eA 1 3=false from rfl,show eA 1 4=false from rfl,show eA 1 5=false from rfl,show eA 1 6=false from rfl,show eA 1 7=false from rfl,cond_false]
  obtain ⟨h',e',c'⟩:=vO (N:=N) ha pkH xa;rw [rd1 oH,dH];show ∃ h',(mA (f177 N ra H) _)=_/\_;rw [e',aA];exact ⟨h',rfl,cH.trans c'⟩
 ·simp only [show eA 2 2=true from rfl,cond_true,if_true]
  obtain ⟨h',e',c'⟩:=rY (N:=N) hp xp
  have:=fH hp
  rw [rd10 oH,jH,e',aA,yA (by simp;omega)];exact ⟨h',rfl,cH.trans c'⟩
 ·simp only [show eA 3 2=false from rfl,show eA 3 3=true from rfl,cond_false,cond_true,show ¬ (3:Int)=2 from by decide,if_false,if_true]
  obtain ⟨h',e',c'⟩:=rY (N:=N) hp xp
  have:=fH hp
  rw [rd10 oH,jH,e',aA,yA (by simp;omega)];exact ⟨h',rfl,cH.trans c'⟩
 ·simp only [show eA 4 2=false from rfl,show eA 4 3=false from rfl,show eA 4 4=true from rfl,cond_false,cond_true,show ¬ (4:Int)=2 from by decide,show ¬ (4:Int)=3 from by decide,if_false,if_true]
  obtain ⟨h',e',c'⟩:=vO (N:=N) ha pkH xa
  have:=uD ha
  rw [rd1 oH,dH];show ∃ h',(mA (f177 N ra H) _)=_/\_;rw [e',aA,yA (by simp;omega)];exact ⟨h',rfl,cH.trans c'⟩
 ·simp only [show eA 5 2=false from rfl,show eA 5 3=false from rfl,show eA 5 4=false from rfl,show eA 5 5=true from rfl,cond_false,cond_true,show ¬ (5:Int)=2 from by decide,show ¬ (5:Int)=3 from by decide,show ¬ (5:Int)=4 from by decide,if_false,if_true]
  have la:=uD ha;have lb:=uD hb;have o4:=wA H [.str [32,43,32],.str [32,45,32],.str [32,60,32],.str [32,61,61,32]];have c4:=tA H (.row [.str [32,43,32],.str [32,45,32],.str [32,60,32],.str [32,61,61,32]] .own);generalize H.push (.row [.str [32,43,32],.str [32,45,32],.str [32,60,32],.str [32,61,61,32]] .own)=H4 at *;have oH4:=oH.chg c4 (by simp);obtain ⟨H5,e5,c5⟩:=vO (N:=N) ha (pkH.chg c4) (Dt.chg c4 (by simp) xa);rw [rd1 oH4,dH];show ∃ h',(mA (f177 N ra H4) _)=_/\_;rw [e5,aA];have oH5:=oH4.chg c5 (by simp);have o45:=o4.chg c5 (by simp);rw [rd9 oH5];simp only [bA,vA];obtain ⟨j,sx,hj,hs,hw⟩:∃ (j:Nat) (sx:Bs),j<4/\[AV.str [32,43,32],.str [32,45,32],.str [32,60,32],.str [32,61,61,32]][j]? = some (.str sx)/\jB .i64 (op-1)=(j:Int)/\sx=tA4 op:=by
   rcases hop with rfl | rfl | rfl | rfl
   ·exact ⟨0,_,by decide,rfl,by decide,rfl⟩
   ·exact ⟨1,_,by decide,rfl,by decide,rfl⟩
   ·exact ⟨2,_,by decide,rfl,by decide,rfl⟩
   ·exact ⟨3,_,by decide,rfl,by decide,rfl⟩
  obtain ⟨hw,rfl⟩:=hw;have lsx:(tA4 op).length<=4:=by
   grind
  rw [hw];have hix:∀ {β:Type} (K:Nat×Nat->Option β),ixK (some (H.next,0)) 4 (j:Int) 1 K=K (H.next,j):=fun K=>by
   show (bif Nat.blt j 4 then bB (some (H.next,0)) fun q=>K (q.1,q.2+j * 1) else none)=_;rw [show Nat.blt j 4=true from by rw [Nat.blt_eq];exact hj,cond_true,fA];simp
  have r5:∀ {G:Heap},G.own H.next [AV.str [32,43,32],.str [32,45,32],.str [32,60,32],.str [32,61,61,32]]->G.cell (H.next,j)=some (.str (tA4 op)):=fun o=>by rw [o.cell j];exact hs
  rw [hix,r5 o45];simp only [bA,kA];rw [yA (by omega)];simp only [bA,kA];obtain ⟨H6,e6,c6⟩:=vO (N:=N) hb ((pkH.chg c4).chg c5) (Dt.chg c5 (by simp) (Dt.chg c4 (by simp) xb));rw [rd5 oH5,dH];show ∃ h',(mA (f177 N rb H5) _)=_/\_;rw [e6,aA,yA (by simp;omega)];have oH6:=oH5.chg c6 (by simp);have o46:=o45.chg c6 (by simp);have sa:mB (some (.agg (opc ra))) (.agg [(.int .i64 ra.1),(.int .i64 ra.2.1),(.str ra.2.2.1),(yL ra.2.2.2.1)])=true:=wI _;have sb:mB (some (.agg (opc rb))) (.agg [(.int .i64 rb.1),(.int .i64 rb.2.1),(.str rb.2.2.1),(yL rb.2.2.2.1)])=true:=wI _;simp only [bA,kA,rd5 oH4,rd5 oH6,rd1 oH5,rd1 oH6,rd9 oH4,rd9 oH6,r5 o4,r5 o46,sa,sb,nB,cond_true,qB,bV o46 o45,bV o45 o4,Bool.and_self];exact ⟨H6,rfl,cH.trans (c4.trans (c5.trans c6))⟩
 ·simp only [show eA 6 2=false from rfl,show eA 6 3=false from rfl,show eA 6 4=false from rfl,show eA 6 5=false from rfl,show eA 6 6=true from rfl,cond_false,cond_true,show ¬ (6:Int)=2 from by decide,show ¬ (6:Int)=3 from by decide,show ¬ (6:Int)=4 from by decide,show ¬ (6:Int)=5 from by decide,if_false,if_true,rd12 oH,bA,kA]
  rw [yA (by simp;omega)];simp only [bA,kA];rw [yA (by simp;omega)];simp only [bA,kA];rw [yA (by simp;omega)];exact ⟨H,rfl,cH⟩
 ·simp only [show eA 7 2=false from rfl,show eA 7 3=false from rfl,show eA 7 4=false from rfl,show eA 7 5=false from rfl,show eA 7 6=false from rfl,show eA 7 7=true from rfl,cond_false,cond_true,show ¬ (7:Int)=2 from by decide,show ¬ (7:Int)=3 from by decide,show ¬ (7:Int)=4 from by decide,show ¬ (7:Int)=5 from by decide,show ¬ (7:Int)=6 from by decide,if_false,if_true]
  cases J with
  | nil=>
   simp only [show (!fB [] [])=false from rfl,cond_false,rd12 oH,bA,kA,if_true];rw [yA (by simp;omega)];simp only [bA,kA];rw [yA (by simp;omega)];simp only [bA,kA];rw [yA (by simp;omega)];exact ⟨H,rfl,cH⟩
  | cons y t=>
   simp only [show (!fB (y::t) [])=true from rfl,cond_true,reduceCtorEq,if_false];rw [yA (by simp at hJ ⊢;omega)];simp only [bA,kA,rd12 oH];rw [yA (by simp;omega)];simp only [bA,kA];rw [yA (by simp at hJ ⊢;omega)];simp only [bA,kA];rw [yA (by simp at hJ ⊢;omega)];exact ⟨H,rfl,cH⟩
end
end Qp
namespace Qp
theorem wAy:E.und 80=some (.pointer 83):=by kernel_rfl
theorem tAu:E.und 189=some .unsafePointer:=by kernel_rfl
theorem bB6:E.und 144=some (.pointer 5):=by kernel_rfl
theorem cB6:E.und 9=some .string:=by kernel_rfl
theorem gAo:E.size 83=some 2:=by kernel_rfl
theorem dB6:E.size 85=some 2:=by kernel_rfl
theorem vBb:E.size 5=some 1:=by kernel_rfl
theorem eB6:E.lies 85 0 83=true:=by kernel_rfl
theorem wBb:AppN E 81 5 1 10:=AppN.of (by kernel_rfl)
structure PrB (h:Heap) (A:Nat) (b:Bs) (s:SL):Prop where
 row:∃ q,h.t.get A=some (.row [.ptr q,SL.av s] (.ty 85))/\(q=none\/q=some (A,0))
 lt:A<h.next
 buf:(s=⟨none,0,0,0⟩/\b=[])\/∃ B,s=⟨some (B,0),b.length,b.length,1⟩/\B<h.next/\B≠A/\h.t.get B=some (.row (ofBytes b) (.bytes 5))/\0<b.length
section
variable {N:Nat} {h h':Heap} {A:Nat} {b x:Bs} {s:SL}
theorem PrB.chg {M:List Nat} (p:PrB h A b s) (c:Chg M h h') (hA:A ∉ M) (hB:∀ B,s.blk=some B->B ∉ M):PrB h' A b s:=by
 refine ⟨?_,Nat.lt_of_lt_of_le p.lt c.next,?_⟩
 ·obtain ⟨q,h1,h2⟩:=p.row
  exact ⟨q,(c.g A p.lt hA).trans h1,h2⟩
 ·rcases p.buf with h1 | ⟨B,h1,h2,h3,h4,h5⟩
  ·exact .inl h1
  ·exact .inr ⟨B,h1,Nat.lt_of_lt_of_le h2 c.next,h3,(c.g B h2 (hB B (by rw [h1];rfl))).trans h4,h5⟩
theorem PrB.len (p:PrB h A b s):s.len=b.length:=by
 rcases p.buf with ⟨rfl,rfl⟩ | ⟨B,rfl,_⟩ <;> rfl
theorem PrB.cell (p:PrB h A b s):h.cell (A,1)=some (yL s):=by
 obtain ⟨q,h1,_⟩:=p.row;simp only [Heap.cell,Heap.row,h1];rfl
theorem iAo (p:PrB h A b s):f43 N (some (A,0)) h=some ((b.length:Int),h):=by
 unfold f43;simp only [fA,Nat.zero_add,p.cell,bA,jA,p.len];rfl
theorem jAo (q:zJ2) {β:Type} (K:zJ2->Option β):dA (.val zK2) (some (.ptr q)) K=K q:=rfl
theorem aA9 (q:zJ2) (h:Heap) {β:Type} (K:zJ2->Heap->Option β):jJ (.val zK2) (some (.ptr q,h)) K=K q h:=rfl
theorem kAo (v:AV) (h:Heap) {β:Type} (K:AV->Heap->Option β):jJ (.val zP2) (some (v,h)) K=K v h:=rfl
theorem rAs (b:Bool) {β:Type} (K:Bool->Option β):dA (.val zN2) (some (.bool b)) K=K b:=rfl
theorem tAs {cs:List AV} (hr:h.row A=some cs) (hl:0<cs.length):nA1 E 80 189 (.ptr (some (A,0))) h=some (.ptr (some (A,0)),h):=by
 have hb:Nat.blt 0 cs.length=true:=by rw [Nat.blt_eq];exact hl
 unfold nA1;simp only [wAy,tAu,hr,gAo,hb,cond_true]
theorem yAy {cs:List AV} (hr:h.t.get A=some (.row cs (.ty 85))) (hl:cs.length=2):nA1 E 189 80 (.ptr (some (A,0))) h=some (.ptr (some (A,0)),h):=by
 have hb:Nat.beq cs.length (1+1)=true:=by rw [hl];rfl
 unfold nA1;simp only [wAy,tAu,hr,gAo,dB6,hb,eB6,Bool.and_self,cond_true]
theorem aAz (p:PrB h A b s):∃ h',f127 N (some (A,0)) h=some ((),h')/\PrB h' A b s/\Chg [A] h h'/\h'.next=h.next:=by
 obtain ⟨q,hr,hq⟩:=p.row;have hrow:h.row A=some [.ptr q,SL.av s]:=by simp only [Heap.row,hr]
 have c0:h.cell (A,0)=some (.ptr q):=by simp only [Heap.cell,hrow];rfl
 unfold f127;simp only [fA,Nat.add_zero,c0,jAo];rcases hq with rfl | rfl
 ·simp only [Option.isNone_none,cond_true]
  rw [tAs hrow (by simp),kAo,show f175 N (.ptr (some (A,0))) h=some (.ptr (some (A,0)),h) from rfl,aA,yAy hr rfl,aA9];have hst:h.store (A,0) [.ptr (some (A,0))]=some (h.put A (.row [.ptr (some (A,0)),SL.av s] (.ty 85))):=by
   simp only [Heap.store,Heap.rowW,hr];rfl
  rw [hst,fA];have c:Chg [A] h (h.put A (.row [.ptr (some (A,0)),SL.av s] (.ty 85))):=(Chg.refl [A] h).put (.inl (by simp)) _;refine ⟨_,rfl,⟨⟨some (A,0),vP _ rfl,.inr rfl⟩,p.lt,?_⟩,c,rfl⟩;rcases p.buf with h1 | ⟨B,h1,h2,h3,h4,h5⟩
  ·exact .inl h1
  ·exact .inr ⟨B,h1,h2,h3,(c.g B h2 (by simpa using h3)).trans h4,h5⟩
 ·simp only [Option.isNone_some,cond_false]
  have hb:oA9 E .neq 80 (.tmp 17) (.tmp 18) (.ptr (some (A,0))) (.ptr (some (A,0)))=some (.bool false):=by
   have he:eqA E 9 80 (.ptr (some (A,0))) (.ptr (some (A,0)))=some true:=by
    unfold eqA;simp only [wAy,gAo];simp [mAh]
   show kB0 E .neq 80 (.tmp 17) (.tmp 18) (.ptr (some (A,0))) (.ptr (some (A,0)))=_;have hc:gAp E 80 (.tmp 17) (.tmp 18) (.ptr (some (A,0))) (.ptr (some (A,0)))=some true:=by simp only [gAp,pAj,cond_true,he]
   simp only [kB0,hc,Bool.not_true]
  rw [hb,rAs];exact ⟨h,rfl,p,Chg.refl _ _,rfl⟩
theorem uY:∀ (a c:Bs),ofBytes (a++c)=ofBytes a++ofBytes c
 | [],c=>rfl
 | x::r,c=>by simp only [List.cons_append,ofBytes,uY r c]
theorem bO:∀ (a:Bs),(ofBytes a).all AV.single=true
 | []=>rfl
 | x::r=>by simp only [ofBytes,List.all_cons,bO r,Bool.and_true];rfl
theorem lAo (p:PrB h A b s) (hx:b.length+x.length<=100000000):∃ (s':SL) (h6:Heap),dD E 81 9 (yL s) (.str x) h=some (.slice s'.a s'.len s'.cap s'.sz,h6)/\h6.t.get A=h.t.get A/\A<h6.next/\
  ((s'=⟨none,0,0,0⟩/\b++x=[])\/∃ B,s'=⟨some (B,0),(b++x).length,(b++x).length,1⟩/\B<h6.next/\B≠A/\h6.t.get B=some (.row (ofBytes (b++x)) (.bytes 5))/\0<(b++x).length)/\Chg s.blk.toList h h6/\(∀ B,s'.blk=some B->s.blk=some B\/h.next<=B):=by
 obtain ⟨hu,⟨i,hi,hi1,hi2⟩,⟨z,hz,hz1⟩⟩:=wBb;have hA:=p.lt;have hfirst:wC h 1 x.length (.str x)=some (ofBytes x):=by grind [wC,List.take_length]
 by_cases hn:x=[]
 ·subst hn
  refine ⟨s,h,?_,rfl,hA,?_,(Chg.refl [] h).mono (by simp),fun B hB=>.inl hB⟩
  ·have hf0:wC h 1 0 (.str [])=some []:=rfl
   simp only [dD,cB6,hu,yO,dV,cond_false,hi,hz,jL,List.length_nil,hi1,hf0,show Nat.beq 0 0=true from rfl,cond_true]
  ·rw [List.append_nil]
   rcases p.buf with h1 | ⟨B,h1,h2,h3,h4,h5⟩
   ·exact .inl h1
   grind
 have hpos:0<x.length:=List.length_pos_iff.2 hn;have hn0:Nat.beq x.length 0=false:=by
  grind [Nat.beq,Nat.eq_of_beq_eq_true]
 have hlen:=p.len;have hroom:Nat.ble ((s.len+x.length) * (i.bytes+1+1)) oA1=true:=by
  have h1:(s.len+x.length) * (i.bytes+1+1)<=(s.len+x.length) * 10:=Nat.mul_le_mul (Nat.le_refl _) (by omega);simp only [oA1,Nat.ble_eq];omega
 have hz2:Nat.beq z.cells.length 1=true:=by rw [hz1];rfl
 have hnl:Nat.beq (ofBytes x).length (x.length * 1)=true:=by rw [yE,Nat.mul_one];exact Nat.beq_refl _
 have hsz:(Nat.beq s.sz 1||s.a.isNone)=true:=by
  rcases p.buf with ⟨rfl,_⟩ | ⟨B,rfl,_⟩ <;> rfl
 have key:dD E 81 9 (yL s) (.str x) h=growB 5 h s.a s.len s.cap 1 x.length (ofBytes x):=by
  simp only [dD,cB6,hu,yO,dV,cond_false,hi,hz,jL];simp only [hi1,hfirst,hn0,cond_false,hroom,hsz,hz2,hnl,bO,Bool.and_self,cond_true]
 rw [key];rcases p.buf with ⟨rfl,rfl⟩ | ⟨B,rfl,h2,h3,h4,h5⟩
 ·refine ⟨⟨some (h.next,0),([]++x).length,([]++x).length,1⟩,h.push (.row (ofBytes x) (.bytes 5)),?_,uP (A:=A) _ (by omega),Nat.lt_succ_of_lt hA,.inr ⟨h.next,rfl,Nat.lt_succ_self _,by omega,aH _ rfl,by simpa using hpos⟩,((Chg.refl [] h).push _).mono (by simp),fun B hB=>.inr ?_⟩
  ·simp only [growB,Nat.zero_add,List.nil_append]
  ·have hB':some h.next=some B:=hB
   grind
 ·have htk:takeN (b.length * 1) ((ofBytes b).drop 0)=some (ofBytes b):=by
   rw [List.drop_zero,Nat.mul_one,iH _ _ (by rw [yE];exact Nat.le_refl _),List.take_of_length_le (by rw [yE];exact Nat.le_refl _)]
  have c1:Chg [B] h (h.put B (.row (ofBytes b) .dead)):=(Chg.refl [B] h).put (.inl (by simp)) _;refine ⟨⟨some (h.next,0),(b++x).length,(b++x).length,1⟩,(h.put B (.row (ofBytes b) .dead)).push (.row (ofBytes (b++x)) (.bytes 5)),?_,?_,Nat.lt_succ_of_lt hA,.inr ⟨h.next,rfl,Nat.lt_succ_self _,by omega,aH (h:=h.put B (.row (ofBytes b) .dead)) _ rfl,by grind⟩,c1.push _,fun B' hB=>.inr ?_⟩
  ·have hb:(Nat.beq 5 5&&Nat.beq 0 0)=true:=rfl
   simp only [growB,h4,hb,cond_true,htk,uY,List.length_append]
  ·have e1:((h.put B (.row (ofBytes b) .dead)).push (.row (ofBytes (b++x)) (.bytes 5))).g A=(h.put B (.row (ofBytes b) .dead)).g A:=uP _ (by show A≠h.next;omega)
   exact e1.trans (fAf _ (fun e=>h3 e.symm))
  ·have hB':some h.next=some B':=hB
   grind
theorem fB6 (p:PrB h A b s) (hx:b.length+x.length<=100000000):∃ s' h' r,f81 N (some (A,0)) x h=some (r,h')/\PrB h' A (b++x) s'/\Chg (A::s.blk.toList) h h'/\(∀ B,s'.blk=some B->s.blk=some B\/h.next<=B):=by
 unfold f81;obtain ⟨h2,e2,p2,c2,n2⟩:=aAz (N:=N) p;obtain ⟨s',h6,e6,gA,lA,bf,c6,nb⟩:=lAo p2 hx;rw [e2,aA];simp only [fA,Nat.zero_add,p2.cell,bA,jA];rw [e6];simp only [mR,jA];obtain ⟨q,hr,hq⟩:=p2.row;have hst:h6.store (A,1) [(yL s')]=some (h6.put A (.row [.ptr q,SL.av s'] (.ty 85))):=by
  simp only [Heap.store,Heap.rowW,gA,hr];rfl
 rw [hst,fA];have c8:Chg [A] h6 (h6.put A (.row [.ptr q,SL.av s'] (.ty 85))):=(Chg.refl [A] h6).put (.inl (by simp)) _;refine ⟨s',_,_,rfl,⟨⟨q,vP _ rfl,hq⟩,lA,?_⟩,?_,fun B hB=>(nb B hB).imp id fun h=>by omega⟩
 ·rcases bf with h1 | ⟨B,h1,h3,h4,h5,h7⟩
  ·exact .inl h1
  ·exact .inr ⟨B,h1,h3,h4,(c8.g B h3 (by simpa using h4)).trans h5,h7⟩
 ·have a:Chg (A::s.blk.toList) h h2:=c2.mono (by simp)
  have b:Chg (A::s.blk.toList) h2 h6:=c6.mono (fun B hB=>List.mem_cons_of_mem _ hB);have d:Chg (A::s.blk.toList) h6 (h6.put A (.row [.ptr q,SL.av s'] (.ty 85))):=c8.mono (by simp);exact (a.trans b).trans d
end
def Lim (b t:Bs):Prop:=b.length<=2000000/\((t.length<=1048576/\b=t)\/(1048576<t.length/\1048576<b.length))
def PQ (h0 h:Heap) (A:Nat) (t:Bs) (s:SL):Prop:=∃ b,PrB h A b s/\(∀ B,s.blk=some B->h0.next<=B)/\h0.next<=A/\Chg [] h0 h/\Lim b t
def Put (h0 h:Heap) (A:Nat) (s:SL) (h':Heap) (t':Bs):Prop:=∃ s',PQ h0 h' A t' s'/\Chg (A::s.blk.toList) h h'/\∀ B,s'.blk=some B->s.blk=some B\/h.next<=B
theorem bAz {s:SL} {B:Nat} (h:B∈s.blk.toList):s.blk=some B:=by
 grind
section
variable {N:Nat} {h0 h h1 h2:Heap} {A:Nat} {t t1 t2:Bs} {s s1:SL}
theorem PQ.chg (p:PQ h0 h A t s) (c:Chg [] h h1):PQ h0 h1 A t s:=by
 obtain ⟨b,p,hs,hA,c0,l⟩:=p;exact ⟨b,p.chg c (by simp) (by simp),hs,hA,c0.trans c,l⟩
theorem PQ.base (p:PQ h0 h A t s):Chg [] h0 h:=by obtain ⟨b,p,hs,hA,c0,l⟩:=p;exact c0
theorem PQ.lt (p:PQ h0 h A t s):A<h.next/\∀ B,s.blk=some B->B<h.next:=by
 obtain ⟨b,p,hs,hA,c0,l⟩:=p;refine ⟨p.lt,fun B hB=>?_⟩;rcases p.buf with ⟨rfl,_⟩ | ⟨B',rfl,h2,_⟩
 ·cases hB
 ·have:some B'=some B:=hB
  grind
theorem PQ.out (p:PQ h0 h A t s) {P:Nat} (hP:h.next<=P):P ∉ A::s.blk.toList:=fun hm=>by
 have:=p.lt
 grind
theorem PQ.same (p:PQ h0 h A t s):Put h0 h A s h t:=⟨s,p,(Chg.refl [] h).mono (by simp),fun B hB=>.inl hB⟩
theorem Put.pre (c:Chg [] h h1) (x:Put h0 h1 A s h2 t2):Put h0 h A s h2 t2:=by
 obtain ⟨s',p,c',hb⟩:=x;exact ⟨s',p,(c.mono (by simp)).trans c',fun B hB=>(hb B hB).imp id fun h=>Nat.le_trans c.next h⟩
theorem Put.trans' {s':SL} (p:PQ h0 h1 A t1 s') (c':Chg (A::s.blk.toList) h h1) (hb:∀ B,s'.blk=some B->s.blk=some B\/h.next<=B) (y:Put h0 h1 A s' h2 t2):Put h0 h A s h2 t2:=by
 obtain ⟨s2,p2,c2,hb2⟩:=y;refine ⟨s2,p2,c'.step c2 fun X hX hlt=>?_,fun B hB=>?_⟩
 ·grind
 ·rcases hb2 B hB with h1 | h1
  ·exact hb B h1
  ·exact .inr (Nat.le_trans c'.next h1)
theorem Lim.over {b t:Bs} (l:Lim b t) (h:1048576<b.length) (x:Bs):Lim b (t++x):=by
 obtain ⟨l1,l2⟩:=l;refine ⟨l1,.inr ⟨?_,h⟩⟩
 grind
theorem uAs {L:Nat} {xs:List Bs} (hxs:∀ x∈xs,x.length<=900000) (hl:xs.length<=100):∀ (M i:Nat) (h:Heap) (t b:Bs) (s:SL),i<=xs.length->xs.length-i<M->PrB h A b s->(∀ B,s.blk=some B->h0.next<=B/\B≠L)->h0.next<=A->A≠L->h.own L (xs.map AV.str)->Chg [] h0 h->Lim b t->
  ∃ h',iA8 N M (some (A,0)) ⟨some (L,0),xs.length,xs.length,1⟩ (xs.length:Int) (i:Int) h=some (.exit 0,(),h')/\Put h0 h A s h' (t++(xs.drop i).flatten):=by
 intro M
 induction M with
 | zero=>grind
 | succ M ih=>
  intro i h t b s hi hM p hs hA hL o c l;rw [jAc];unfold yA3;simp only [rB]
  by_cases q:i<xs.length
  ·simp only [q,decide_true,cond_true]
   have hix:∀ {β:Type} (K:Nat×Nat->Option β),ixK (some (L,0)) xs.length (i:Int) 1 K=K (L,i):=fun K=>by
    show (bif Nat.blt i xs.length then bB (some (L,0)) fun q=>K (q.1,q.2+i * 1) else none)=_;rw [show Nat.blt i xs.length=true from by rw [Nat.blt_eq];exact q,cond_true,fA];simp
   have hc:h.cell (L,i)=some (.str xs[i]):=by rw [o.cell i,List.getElem?_map,List.getElem?_eq_getElem q];rfl
   rw [hix,hc];simp only [bA,kA,fA,Nat.add_zero];rw [iAo p,aA];have hle:wB (b.length:Int) 1048576=decide (b.length<=1048576):=by
    grind [leI,decide_eq_true,decide_eq_false]
   rw [hle];have hdrop:(xs.drop i).flatten=xs[i]++(xs.drop (i+1)).flatten:=by rw [List.drop_eq_getElem_cons q,List.flatten_cons]
   have hw:=hxs _ (List.getElem_mem q);rw [hdrop,<- List.append_assoc]
   by_cases hb:b.length<=1048576
   ·have hbt:t.length<=1048576/\b=t:=by
     rcases l.2 with h1 | ⟨_,h1⟩
     ·exact h1
     ·omega
    obtain ⟨hbt,rfl⟩:=hbt;obtain ⟨s',h2,r,e2,p2,c2,nb⟩:=fB6 (N:=N) (x:=xs[i]) p (by omega);simp only [hb,decide_true,cond_true];rw [e2,aA,aB (by omega)];have hm:∀ B,B∈A::s.blk.toList->h0.next<=B/\B≠L:=fun B hB=>by
     grind
    have oL:=o.2;have hs2:∀ B,s'.blk=some B->h0.next<=B/\B≠L:=fun B hB=>by
     rcases nb B hB with h1 | h1
     ·exact hs B h1
     ·exact ⟨Nat.le_trans c.next h1,by omega⟩
    have c02:Chg [] h0 h2:=c.step c2 fun B hB hlt=>by grind
    have l2:Lim (b++xs[i]) (b++xs[i]):=⟨by grind,by
     grind⟩
    obtain ⟨h',e',y⟩:=ih (i+1) h2 (b++xs[i]) (b++xs[i]) s' q (by omega) p2 hs2 hA hL (o.chg c2 fun hB=>(hm L hB).2 rfl) c02 l2;exact ⟨h',e',Put.trans' ⟨_,p2,fun B hB=>(hs2 B hB).1,hA,c02,l2⟩ c2 nb y⟩
   ·simp only [hb,decide_false,cond_false]
    rw [aB (by omega)];exact ih (i+1) h (t++xs[i]) b s q (by omega) p hs hA hL o c (l.over (by omega) _)
  ·simp only [q,decide_false,cond_false]
   have:xs.drop i=[]:=List.drop_eq_nil_of_le (by omega)
   rw [this];have pq:PQ h0 h A (t++([]:List Bs).flatten) s:=⟨b,p,fun B hB=>(hs B hB).1,hA,c,by grind⟩;exact ⟨h,rfl,pq.same⟩
theorem yF (hN:200<=N) (p:PQ h0 h A t s) {xs:List Bs} (hxs:∀ x∈xs,x.length<=900000) (hl:xs.length<=100) {n:Nat} (hn:n=xs.length) {row:List AV} (hr:row=xs.map AV.str) :
  ∃ h',f39 N (some (A,0)) ⟨some (h.next,0),n,n,1⟩ (h.push (.row row .own))=some ((),h')/\Put h0 h A s h' (t++xs.flatten):=by
 subst hn hr;have hlt:=p.lt;obtain ⟨b,p,hs,hA,c,l⟩:=p;have o:=wA h (xs.map AV.str);have c1:=tA h (.row (xs.map AV.str) .own);obtain ⟨h',e,q⟩:=uAs (N:=N) (h0:=h0) hxs hl N 0 (h.push (.row (xs.map AV.str) .own)) t b s (Nat.zero_le _) (by omega) (p.chg c1 (by simp) (by simp)) (fun B hB=>⟨hs B hB,by grind⟩) hA (by omega) o (c.trans c1) l;rw [List.drop_zero] at q;rw [show ((0:Nat):Int)=0 from rfl] at e;unfold f39;have e':iA8 N N (some (A,0)) ⟨some (h.next,0),xs.length,xs.length,1⟩ (Int.ofNat xs.length) 0 (h.push (.row (xs.map AV.str) .own))=some (.exit 0,(),h'):=e;dsimp only;rw [e'];exact ⟨h',rfl,q.pre c1⟩
theorem mAo (hN:200<=N) (p:PQ h0 h A t s) {k:Nat} (hk:k<=1000):∃ h',f82 N (some (A,0)) (k:Int) h=some ((),h')/\Put h0 h A s h' (t++Lib.repeatL [9] k):=by
 unfold f82;have hr:f128 N [9] (k:Int) h=some (Lib.repeatL [9] k,h):=by
  unfold f128 Qb.repF;have hb:(Nat.ble k 9223372036854775807&&Nat.ble (([9]:Bs).length * k) 140737488355328)=true:=by
   rw [Bool.and_eq_true,Nat.ble_eq,Nat.ble_eq];simp;omega
  grind
 rw [hr,aA];obtain ⟨h',e,q⟩:=yF hN p (xs:=[Lib.repeatL [9] k]) (fun x hx=>by grind [List.mem_singleton,Lib.repeatL_length]) (by simp) (n:=1) rfl (row:=[.str (Lib.repeatL [9] k)]) rfl;dsimp only;rw [e,aA];refine ⟨h',rfl,?_⟩;simpa using q
end
end Qp
namespace Qp
def kAd (m:Bool) (nm:Bs) (ty:D) (hs:Bool) (va:D):Bs:=(if m=true then [108,101,116,32,109,117,116,32] else [108,101,116,32])++nm++[58,32]++tyX 64 ty++(if hs=true then [32,61,32]++vaX va else [])++[59]
section
variable {N:Nat} {h:Heap} {V:Nat->Prop}
theorem aA5 {hs:Bool} {va:D} (hv:nAr hs va):(if hs=true then [32,61,32]++vaX va else []).length<=300003:=by
 rcases hv with ⟨rfl,hv⟩ | ⟨rfl,rfl⟩
 ·have:=tG hv;simp;omega
 ·simp
theorem yAg {m:Bool} {nm:Bs} {ty:D} {hs:Bool} {va:D} (hn:eC nm=true) (ht:dG 64 ty) (hv:nAr hs va):(kAd m nm ty hs va).length<=400000:=by
 have h1:=iD hn;have h2:=fL ht;have h3:=aA5 hv;unfold kAd;cases m <;> simp only [List.length_append,List.length_cons,List.length_nil,if_true,if_false,Bool.false_eq_true] <;> omega
theorem cAz (hN:200<=N) (rr:SmR) {ty va:D} (hn:eC rr.nm=true) (ht:dG 64 ty) (hv:nAr rr.has va) (pk:PK h) (xt:Dt h V ty (tyc rr.ty)) (xv:Dt h V va (vac rr.va)):∃ h',f129 N (smv rr) h=some (kAd rr.m rr.nm ty rr.has va,h')/\Chg [] h h':=by
 have l1:=iD hn;have l2:=fL ht;have l3:=aA5 hv;unfold f129;have o:=wA h (smc rr);have c:=tA h (.row (smc rr) .own);have e1:h.push (.row (yRA (smv rr)) .own)=h.push (.row (smc rr) .own):=rfl;dsimp only;rw [e1];have pk:=pk.chg c;have xt:=Dt.chg c (by simp) xt;have xv:=Dt.chg c (by simp) xv;generalize h.push (.row (smc rr) .own)=H at *;have a2:H.cell (h.next,2)=some (.bool rr.m):=o.cell 2;have a3:H.cell (h.next,3)=some (.str rr.nm):=o.cell 3;have a4:H.cells (h.next,4) 4=some (.agg (tyc rr.ty)):=o.cells (j:=4) (m:=4) (show 4+4<=32 by decide);obtain ⟨H2,e2,c2⟩:=uA4 ht (by omega:100<=N) xt;have o2:=o.chg c2 (by simp);have b3:H2.cell (h.next,3)=some (.str rr.nm):=o2.cell 3;have b8:H2.cell (h.next,8)=some (.bool rr.has):=o2.cell 8;have b11:H2.cells (h.next,11) 15=some (.agg (vac rr.va)):=o2.cells (j:=11) (m:=15) (show 11+15<=32 by decide);have pre:(mA (α:=zA1) (β:=Bs×Heap) (bif rr.m then some ((some (h.next,0),[108,101,116,32,109,117,116,32],()),H) else some ((some (h.next,0),[108,101,116,32],()),H)))=mA (α:=zA1) (some ((some (h.next,0),(if rr.m=true then [108,101,116,32,109,117,116,32] else [108,101,116,32]),()),H)):=by
  cases rr.m <;> rfl
 simp only [Nat.zero_add,a2,bA,uB];rw [pre];have lp:(if rr.m=true then [108,101,116,32,109,117,116,32] else [108,101,116,32]:Bs).length<=8:=by cases rr.m <;> simp
 have hX:kAd rr.m rr.nm ty rr.has va=(if rr.m=true then [108,101,116,32,109,117,116,32] else [108,101,116,32])++rr.nm++[58,32]++tyX 64 ty++(if rr.has=true then [32,61,32]++vaX va else [])++[59]:=rfl;rw [hX];generalize (if rr.m=true then [108,101,116,32,109,117,116,32] else [108,101,116,32]:Bs)=P at *;simp only [aA,fA,a3,bA,kA];rw [yA (by omega)];simp only [bA,kA];rw [yA (by simp;omega)];simp only [bA,kA];rw [a4,vJ];show ∃ h',(mA (f36 N N rr.ty H) _)=_/\_;rw [e2,aA,yA (by simp;omega)];have sm:mB (some (.agg (tyc rr.ty))) (.agg [(.int .i64 rr.ty.1),(.str rr.ty.2.1),(yL rr.ty.2.2.1),(yL rr.ty.2.2.2.1)])=true:=wI _;simp only [bA,kA,sm,b3,nB,cond_true,qB,b8,uB]
 cases hh:rr.has with
 | false=>
  simp only [cond_false,aA,Bool.false_eq_true,if_false,List.append_nil];rw [yA (by simp;omega)];exact ⟨H2,rfl,c.trans c2⟩
 | true=>
  rw [hh] at hv;have hva:mayVa va:=by
   rcases hv with ⟨_,hv⟩ | ⟨hv,_⟩
   ·exact hv
   ·cases hv
  have l4:=tG hva;simp only [cond_true,if_true];rw [yA (by simp;omega)];simp only [bA,kA];rw [b11,pN];obtain ⟨H3,e3,c3⟩:=yA4 hN hva (pk.chg c2) (Dt.chg c2 (by simp) xv);have e3':f131 N (tV rr.va) H2=some (vaX va,H3):=e3;rw [e3',aA,yA (by simp;omega)];simp only [bA,kA,aA];rw [yA (by simp;omega)];simp only [bA,kA];refine ⟨H3,?_,(c.trans c2).trans c3⟩;simp
end
def lfX:D->Bs
 | .t [.s nm,.l ov]=>[39]++nm++(match ov with | []=>[] | _::_=>[58,32,39]++Qb.joinL (txS ov) [32,43,32,39])
 | _=>[]
def oAp (lv:List D):Bs:=match lv with
 | []=>[]
 | _::_=>[60]++Qb.joinL (lv.map lfX) [44,32]++[62]
def mI:D->Int
 | .t (.i k::_)=>k
 | _=>0
def uT (pub:Bool) (nm:Bs) (lv ps:List D) (ty:D):Bs:=(if pub=true then [112,117,98,32] else [])++[102,110,32]++nm++oAp lv++[40]++lM ps++[41]++(if mI ty=0 then [] else [32,45,62,32]++tyX 64 ty)
section
variable {N:Nat} {h:Heap} {V:Nat->Prop}
theorem bA9 {xs:List Bs} (h:lAr 64 xs):(Qb.joinL xs [32,43,32,39]).length<=2400:=by
 have:=wG (B:=32) (l:=xs) (sep:=[32,43,32,39]) fun x hx=>(uC (h.2 x hx)).2
 exact Nat.le_trans this (Nat.le_trans (Nat.mul_le_mul h.1 (Nat.le_refl _)) (by decide))
theorem nAo {d:D} (h:yJ d):(lfX d).length<=2500:=by
 obtain ⟨nm,xs,rfl,hn,hx⟩:=h;have h1:=(uC hn).2;have h2:=bA9 hx
 cases xs with
 | nil=>
  have e:lfX (gD nm (([]:List Bs).map D.s))=[39]++nm++[]:=rfl;rw [e];simp;omega
 | cons y r=>
  have e:lfX (gD nm ((y::r).map D.s))=[39]++nm++([58,32,39]++Qb.joinL (txS ((y::r).map D.s)) [32,43,32,39]):=rfl;rw [e,rG];simp at h2 ⊢;omega
theorem bA5 {lv:List D} (h:mJ 64 yJ lv):(Qb.joinL (lv.map lfX) [44,32]).length<=170000:=by
 have:=wG (B:=2500) (l:=lv.map lfX) (sep:=[44,32]) fun x hx=>by obtain ⟨d,hd,rfl⟩:=List.mem_map.1 hx;exact nAo (h.2 d hd)
 rw [List.length_map] at this;exact Nat.le_trans this (Nat.le_trans (Nat.mul_le_mul h.1 (Nat.le_refl _)) (by decide))
theorem cA5 {lv:List D} (h:mJ 64 yJ lv):(oAp lv).length<=170002:=by
 have:=bA5 h
 cases lv with
 | nil=>simp [oAp]
 | cons y r=>grind [oAp,List.length_append,List.length_cons,List.length_nil]
theorem vY {pub:Bool} {nm:Bs} {lv ps:List D} {ty:D} (hn:eC nm=true) (hlv:mJ 64 yJ lv) (hps:mJ 64 (wE true) ps) (hty:ty=ty0D\/dG 64 ty):(uT pub nm lv ps ty).length<=700000:=by
 have h1:=iD hn;have h2:=cA5 hlv;have h3:=gL hps;have h4:(if mI ty=0 then [] else [32,45,62,32]++tyX 64 ty:Bs).length<=7000:=by
  rcases hty with rfl | ht
  ·decide
  grind [fL]
 unfold uT;cases pub <;> simp only [List.length_append,List.length_cons,List.length_nil,if_true,if_false,Bool.false_eq_true] <;> omega
theorem dAj {h0:Heap} {P:Nat} {lv:List D} (hlv:mJ 64 yJ lv) {s:SL} (x:Sl h0 V s lv):∀ (M i:Nat) (out:SL) (h:Heap),i<=lv.length->lv.length-i<M->OwV (Fr0 h0) h out 1 (((lv.map lfX).map D.s).take i)->Chg [] h0 h->∃ out' h',jT N M (some (P,0)) out s (lv.length:Int) (i:Int) h=some (.exit 0,(some (P,0),out',()),h')/\OwV (Fr0 h0) h' out' 1 ((lv.map lfX).map D.s)/\Chg [] h0 h':=by
 have hlen:((lv.map lfX).map D.s).length=lv.length:=by simp
 have hl64:=hlv.1;have key:=qAb (h0:=h0) (n:=1) (k:=0) (xs:=(lv.map lfX).map D.s) (L:=fun M out i h=>jT N M (some (P,0)) out s (lv.length:Int) i h) (fin:=fun out=>(some (P,0),out,())) ?_ ?_
 ·grind
 ·intro M i hi out h ho hc
  rw [hlen] at hi;show ∃ out' h',jT N (M+1) (some (P,0)) out s (lv.length:Int) (i:Int) h=jT N M (some (P,0)) out' s (lv.length:Int) ((i+1:Nat):Int) h'/\_;rw [gY];unfold tU;simp only [rB,hi,decide_true,cond_true];have hm:=hlv.2 _ (List.getElem_mem hi);have x:=x.chg hc (by simp);obtain ⟨r,g,d⟩:=tR.elt x hi (qA3 hm);rw [x.ix hi 2,g,jH];obtain ⟨h5,p5,c5,o5⟩:=tR.park (z:=lfc lf0) rfl h r;have p5':∀ {β:Type} (K:Heap->Option β),bB ((h.push (.row [(.str []),(.slice none 0 0 0)] .own)).store (h.next,0) [(.str r.1),(yL r.2.1)]) K=K h5:=p5;rw [p5'];have d5:=Dt.chg c5 (by simp) d;have hfx:lfX lv[i]=(lv.map lfX)[i]'(by simpa using hi):=by rw [List.getElem_map]
  have ih':i<(lv.map lfX).length:=by simpa using hi
  obtain ⟨nm,xs,hd,hn,hxs⟩:=hm;rw [hd] at d5 hfx;obtain ⟨sl,hc1,y1⟩:=iG d5;obtain rfl:=tR.inj (r':=(nm,sl,())) hc1;have a0:h5.cell (h.next,0)=some (.str nm):=o5.cell 0;have a1:h5.cell (h.next,1)=some (yL sl):=o5.cell 1;have h1:=(uC hn).2;have h2:=bA9 hxs;have hsl:sl.len=xs.length:=by rw [y1.len,List.length_map]
  simp only [Nat.add_zero,Nat.zero_add,a0,bA,kA];rw [yA (by simp;omega)];simp only [bA,kA,a1,jA]
  cases xs with
  | nil=>
   have z:ltInt 0 (Int.ofNat sl.len)=false:=by rw [hsl];rfl
   simp only [z,cond_false];obtain ⟨s',h',e',o',c'⟩:=wR ih' ho hc c5 (by grind) (y:=[39]++nm) (by rw [<- hfx];show _=[39]++nm++[];rw [List.append_nil]);rw [e',aB (by omega)]
   grind
  | cons y r=>
   have z:ltInt 0 (Int.ofNat sl.len)=true:=by rw [hsl,ltI,decide_eq_true_eq];grind
   simp only [z,cond_true];rw [yA (by simp;omega)];simp only [bA,kA];have f:f50 N sl [32,43,32,39] h5=some (Qb.joinL (y::r) [32,43,32,39],h5):=jA1 y1 (by have:=hxs.1;omega) (by omega);rw [f,aA,yA (by simp;omega)];simp only [bA,kA];obtain ⟨s',h',e',o',c'⟩:=wR ih' ho hc c5 (by grind) (y:=[39]++nm++[58,32,39]++Qb.joinL (y::r) [32,43,32,39]) (by
    rw [<- hfx];show _=[39]++nm++([58,32,39]++Qb.joinL (txS ((y::r).map D.s)) [32,43,32,39]);rw [rG,List.append_assoc])
   rw [e',aB (by omega)]
   grind
 ·intro M out h
  rw [hlen];show jT N (M+1) (some (P,0)) out s (lv.length:Int) (lv.length:Int) h=_;rw [gY];unfold tU;simp only [rB,Nat.lt_irrefl,decide_false,cond_false]
theorem oAo {ty:D} (hty:ty=ty0D\/dG 64 ty) {r:TyV} (x:Dt h V ty (tyc r)):(ty=ty0D/\eA r.1 0=true/\mI ty=0)\/(dG 64 ty/\eA r.1 0=false/\mI ty≠0):=by
 rcases hty with rfl | ht
 ·obtain ⟨s1,s2,hc,_⟩:=qF.1 (show Dt h V (tyD 0 [] [] []) _ from x)
  rw [(qO 1).inj hc];exact .inl ⟨rfl,rfl,rfl⟩
 ·refine .inr ⟨ht,uAf ht x,?_⟩
  obtain ⟨p,rfl,hp⟩:=ht
  cases p with
  | int=>show (1:Int)≠0;decide
  | bool=>show (2:Int)≠0;decide
  | st=>show (3:Int)≠0;decide
  | ref mu lv t=>
   cases mu
   ·show (4:Int)≠0;decide
   ·show (5:Int)≠0;decide
theorem uAu (b:Bool) (h:Heap):f40 N b h=some (if b=true then [112,117,98,32] else [],h):=by cases b <;> rfl
theorem vAu (hN:200<=N) (rr:FuR) {lv ps:List D} {ty:D} (hn:eC rr.nm=true) (hlv:mJ 64 yJ lv) (hps:mJ 64 (wE true) ps) (hty:ty=ty0D\/dG 64 ty) (x1:Sl h V rr.lv lv) (x2:Sl h V rr.ps ps) (xt:Dt h V ty (tyc rr.ty)):∃ h',f20 N (fuv rr) h=some (uT rr.pub rr.nm lv ps ty,h')/\Chg [] h h':=by
 have l1:=iD hn;have l2:=cA5 hlv;have l2':=bA5 hlv;have l3:=gL hps;unfold f20;have o:=wA h (fuc rr);have c:=tA h (.row (fuc rr) .own);have e1:h.push (.row (yRD (fuv rr)) .own)=h.push (.row (fuc rr) .own):=rfl;dsimp only;rw [e1];have x1:=x1.chg c (by simp);have x2:=x2.chg c (by simp);have xt:=Dt.chg c (by simp) xt;generalize h.push (.row (fuc rr) .own)=H at *;have a2:H.cell (h.next,2)=some (yL rr.lv):=o.cell 2;obtain ⟨out,H2,e2,ow,c2⟩:=dAj (N:=N) (P:=h.next) hlv x1 N 0 ⟨none,0,0,0⟩ H (Nat.zero_le _) (by have:=hlv.1;omega) (OwV.nil _ _ _ _) (Chg.refl _ _);have e0:Int.ofNat rr.lv.len=((lv.length:Nat):Int):=by rw [x1.len];rfl
 rw [show ((0:Nat):Int)=0 from rfl] at e2;have es:(rr.lv:SL)=rr.lv:=rfl;simp only [Nat.add_zero,Nat.zero_add,a2,bA,jA];rw [es,e0,e2,kB];dsimp only;have o2:=o.chg c2 (by simp);have b0:H2.cell (h.next,0)=some (.bool rr.pub):=o2.cell 0;have b1:H2.cell (h.next,1)=some (.str rr.nm):=o2.cell 1;have b3:H2.cell (h.next,3)=some (yL rr.ps):=o2.cell 3;have lp:(if rr.pub=true then [112,117,98,32] else []:Bs).length<=4:=by cases rr.pub <;> simp
 have hX:uT rr.pub rr.nm lv ps ty=(if rr.pub=true then [112,117,98,32] else [])++[102,110,32]++rr.nm++oAp lv++[40]++lM ps++[41]++(if mI ty=0 then [] else [32,45,62,32]++tyX 64 ty):=rfl;rw [hX];simp only [fA,Nat.zero_add,b0,bA,uB];rw [uAu,aA];generalize (if rr.pub=true then [112,117,98,32] else []:Bs)=P at *;rw [yA (by simp;omega)];simp only [bA,kA,b1];rw [yA (by simp;omega)];simp only [bA,kA,nB,cond_true,qB];obtain ⟨H3,e3,c3⟩:=rAu (N:=N) hN hps (x2.chg c2 (by simp));have o3:=o2.chg c3 (by simp);have xt3:=Dt.chg c3 (by simp) (Dt.chg c2 (by simp) xt);have d4:H3.cell (h.next,4)=some (.int .i64 rr.ty.1):=o3.cell 4;have d44:H3.cells (h.next,4) 4=some (.agg (tyc rr.ty)):=o3.cells (j:=4) (m:=4) (show 4+4<=10 by decide);have e3':f38 N rr.ps H2=some (lM ps,H3):=e3;have cc:=(c.trans c2).trans c3;have lout:out.len=lv.length:=by rw [ow.sl.len];simp
 have fin:∀ (Q:Bs),Q.length<=600000->∃ h',(bif !eA rr.ty.1 0 then
   (dA (.val zM2) (rA .add Q [32,45,62,32]) fun (x52:zQ2)=>
   (dA (.val zE) (H3.cells (h.next,4) 4) fun (x54:zR)=>
   (mA (f36 N N x54 H3) fun (x55:zQ2) h56=>
   (dA (.val zM2) (rA .add x52 x55) fun (x57:zQ2)=>
   some (x57,h56))))) else some (Q,H3))=some (Q++(if mI ty=0 then [] else [32,45,62,32]++tyX 64 ty),h')/\Chg [] h h':=by
  intro Q hQ;rcases oAo hty xt3 with ⟨_,z,zk⟩ | ⟨ht,z,zk⟩
  ·grind
  ·obtain ⟨H4,e4,c4⟩:=uA4 ht (by omega:100<=N) xt3
   have l4:=fL ht;rw [z,if_neg zk];simp only [Bool.not_false,cond_true];rw [yA (by simp;omega)];simp only [bA,kA];rw [d44,vJ];show ∃ h',(mA (f36 N N rr.ty H3) _)=_/\_;rw [e4,aA,yA (by simp;omega)];simp only [bA,kA];exact ⟨H4,by rw [List.append_assoc],cc.trans c4⟩
 cases lv with
 | nil=>
  have z:ltInt 0 (Int.ofNat out.len)=false:=by rw [lout];rfl
  have lx:oAp []=[]:=rfl;simp only [z,cond_false,lx,List.append_nil];rw [yA (by simp;omega)];simp only [bA,kA,b3,jA];rw [e3',aA,yA (by simp;omega)];simp only [bA,kA];rw [yA (by simp;omega)];simp only [bA,kA,d4,vA];exact fin _ (by simp;omega)
 | cons y r=>
  have z:ltInt 0 (Int.ofNat out.len)=true:=by rw [lout,ltI,decide_eq_true_eq];grind
  have lx:oAp (y::r)=[60]++Qb.joinL ((y::r).map lfX) [44,32]++[62]:=rfl;have hj:f50 N out [44,32] H2=some (Qb.joinL ((y::r).map lfX) [44,32],H2):=jA1 ow.sl (by rw [List.length_map];have:=hlv.1;omega) (by omega);rw [lx];generalize Qb.joinL ((y::r).map lfX) [44,32]=J at *;simp only [z,cond_true];rw [yA (by simp;omega)];simp only [bA,kA];rw [hj,aA,yA (by simp;omega)];simp only [bA,kA];rw [yA (by simp;omega)];simp only [bA,kA];rw [yA (by simp;omega)];simp only [bA,kA,b3,jA];rw [e3',aA,yA (by simp;omega)];simp only [bA,kA];rw [yA (by simp;omega)];simp only [bA,kA,d4,vA]
  have:=fin (P++[102,110,32]++rr.nm++[60]++J++[62]++[40]++lM ps++[41]) (by simp;omega)
  have ea:P++[102,110,32]++rr.nm++([60]++J++[62])++[40]++lM ps++[41]=P++[102,110,32]++rr.nm++[60]++J++[62]++[40]++lM ps++[41]:=by simp only [List.append_assoc]
  rw [ea];exact this
end
end Qp
namespace Qp
def smX (bl:Nat->List D->Bs) (o:Nat):D->Bs
 | .t [.i k,_,.b m,.s nm,ty,.b hs,pl,va,co,.l th,.l el]=>
  if k=1 then kAd m nm ty hs va else if k=2 then plX pl++[32,61,32]++vaX va++[59] else if k=3 then vaX va++[59]
  else if k=10 then (if hs=true then [114,101,116,117,114,110,32]++vaX va++[59] else [114,101,116,117,114,110,59])
  else if k=11 then [100,114,111,112,32]++plX pl++[59] else if k=8 then [98,114,101,97,107,59] else if k=9 then [99,111,110,116,105,110,117,101,59]
  else (if k=4 then [105,102,32]++opX co++[32] else if k=5 then [119,104,105,108,101,32]++opX co++[32] else if k=6 then [108,111,111,112,32] else [])++bl o th ++
   (if k=4/\hs=true then [32,101,108,115,101,32]++bl o el else [])
 | _=>[]
def blX:Nat->Nat->List D->Bs
 | 0,_,_=>[]
 | n+1,o,l=>[123,10]++(l.map fun d=>Lib.repeatL [9] (o+1)++smX (blX n) (o+1) d++[10]).flatten++Lib.repeatL [9] o++[125]
section
variable {N:Nat} {h0 h h1 h2:Heap} {A:Nat} {t:Bs} {s:SL} {V:Nat->Prop}
theorem mN {q:Nat×Nat} {n:Nat} (c:Chg [] h0 h) (hq:q.1<h0.next):h.cells q n=h0.cells q n:=by
 have e:h.t.get q.1=h0.t.get q.1:=c.g q.1 hq (by simp)
 grind [Heap.cells,Heap.read,Heap.row]
theorem qH {x:SL} {xs:List D} (y:Sl h0 V x xs) {i n:Nat} (hi:i<xs.length):(x.at i n).1<h0.next:=by
 have h1:=y.isSome (by omega)
 cases ha:x.a with
 | none=>rw [ha] at h1;cases h1
 | some q=>
  have:=y.lt q.1 (by simp [SL.blk,ha])
  simp only [SL.at,ha];exact this
theorem gB6 (p:PQ h0 h A t s):∃ b:Bs,f43 N (some (A,0)) h=some ((b.length:Int),h)/\Lim b t/\(1048576<b.length->∀ x,PQ h0 h A (t++x) s):=by
 obtain ⟨b,p,hs,hA,c,l⟩:=p;exact ⟨b,iAo p,l,fun hb x=>⟨b,p,hs,hA,c,l.over hb x⟩⟩
theorem aAh (hN:200<=N) {rec132 rec42 rec83} {m o:Nat} {l:List D} {T:D->Bs} (ho:o<=900) (hl:l.length<=3000) (ht:∀ x∈l,vS m x) {s1:SL} (x:Sl h0 V s1 l)
  (hF:∀ d∈l,∀ (r:SmV) (h:Heap) (t:Bs) (s:SL),Dt h0 V d (smx r)->PQ h0 h A t s->∃ h',rec83 (some (A,0)) r ((o+1:Nat):Int) h=some ((),h')/\Put h0 h A s h' (t++T d)) :
  ∀ (M i:Nat) (h:Heap) (t:Bs) (s:SL),i<=l.length->l.length-i<M->PQ h0 h A t s->∃ out h',cA1 N rec132 rec42 rec83 M (some (A,0)) (o:Int) s1 (l.length:Int) (i:Int) h=some (out,(some (A,0),(o:Int),()),h')/\
   ((out=.exit 0/\Put h0 h A s h' (t++((l.drop i).map fun d=>Lib.repeatL [9] (o+1)++T d++[10]).flatten))\/(out=.ret/\∀ y,Put h0 h A s h' (t++((l.drop i).map fun d=>Lib.repeatL [9] (o+1)++T d++[10]).flatten++y))):=by
 intro M
 induction M with
 | zero=>grind
 | succ M ih=>
  intro i h t s hi hM p;rw [lAc];unfold aA4;simp only [rB]
  by_cases q:i<l.length
  ·simp only [q,decide_true,cond_true]
   obtain ⟨r,g,d⟩:=(cL m).elt x q (ht _ (List.getElem_mem q));rw [x.ix q 32,mN p.base (qH x q),g,gG];obtain ⟨h5,p5,c5,o5⟩:=(cL m).park (z:=smx (smv (mE 0))) rfl h r;have p5':∀ {β:Type} (K:Heap->Option β),bB ((h.push (.row yZA .own)).store (h.next,0) (yRA r)) K=K h5:=p5;rw [p5'];have pq5:=p.chg c5;obtain ⟨b,eb,lb,hov⟩:=gB6 (N:=N) pq5;simp only [fA,Nat.add_zero];rw [eb,aA];have hlt:ltInt 1048576 (b.length:Int)=decide (1048576<b.length):=by
    grind [ltI,decide_eq_true,decide_eq_false]
   rw [hlt]
   by_cases hb:1048576<b.length
   ·simp only [hb,decide_true,cond_true]
    exact ⟨_,h5,rfl,.inr ⟨rfl,fun y=>by rw [List.append_assoc];exact (hov hb _).same.pre c5⟩⟩
   ·simp only [hb,decide_false,cond_false]
    rw [aB (by omega)];obtain ⟨h15,e15,s15,p15,c15,n15⟩:=mAo hN pq5 (k:=o+1) (by omega);rw [e15,aA];have o15:=o5.chg c15 (p.out (Nat.le_refl _));rw [(cL m).cells o15];obtain ⟨h19,e19,s19,p19,c19,n19⟩:=hF _ (List.getElem_mem q) r h15 _ s15 d p15;have e19':rec83 (some (A,0)) (tS r) ((o+1:Nat):Int) h15=some ((),h19):=e19;rw [e19',aA];obtain ⟨h22,e22,s22,p22,c22,n22⟩:=yF hN p19 (xs:=[[10]]) (by simp) (by simp) (n:=1) rfl (row:=[.str [10]]) rfl;rw [e22,aA,aB (by omega)];obtain ⟨out,h',e',y⟩:=ih (i+1) h22 _ s22 q (by omega) p22;refine ⟨out,h',e',?_⟩;have up:∀ {t2:Bs},Put h0 h22 A s22 h' t2->Put h0 h A s h' t2:=fun y=>Put.pre c5 (Put.trans' p15 c15 n15 (Put.trans' p19 c19 n19 (Put.trans' p22 c22 n22 y)));have hd:(l.drop i)=l[i]::l.drop (i+1):=List.drop_eq_getElem_cons q;rcases y with ⟨ye,y⟩ | ⟨ye,y⟩
    ·grind
    grind
  ·simp only [q,decide_false,cond_false]
   have:l.drop i=[]:=List.drop_eq_nil_of_le (by omega)
   rw [this];exact ⟨_,h,rfl,.inl ⟨rfl,by simpa using p.same⟩⟩
theorem dAz (hN:200<=N) {rec132 rec42 rec83} {o:Nat} {k a:Int} {mu hs:Bool} {nm:Bs} {ty pl va co:D} {th el:List D} (ti:isTy 65 ty/\isLf pl/\lAj va/\isOp co) {r:SmV} (pk:PK h0) (x:Dt h0 V (smT k a mu nm ty hs pl va co th el) (smx r))
  (hk:(k=4/\qC co)\/(k=5/\qC co)\/k=6\/k=7) {bl:List D->Bs}
  (hb:∀ (l:List D) (s1:SL) (h:Heap) (t:Bs) (s:SL),(l=th\/l=el)->Sl h0 V s1 l->PQ h0 h A t s->∃ h',rec42 (some (A,0)) s1 (o:Int) h=some ((),h')/\Put h0 h A s h' (t++bl l)) (p:PQ h0 h A t s) :
  ∃ h',dAg N rec132 rec42 rec83 (some (A,0)) r (o:Int) h=some ((),h')/\Put h0 h A s h' (t++((if k=4 then [105,102,32]++opX co++[32] else if k=5 then [119,104,105,108,101,32]++opX co++[32] else if k=6 then [108,111,111,112,32] else [])++bl th ++
   (if k=4/\hs=true then [32,101,108,115,101,32]++bl el else []))):=by
 obtain ⟨t1,t2,t3,t4⟩:=ti;obtain ⟨rt,rp,rv,ro,s1,s2,hc,x1,x2,x3,x4,x5,x6⟩:=iQ t1 t2 t3 t4 x;obtain ⟨rr,hrr⟩:∃ rr:SmR,rr=⟨k,a,mu,nm,rt,hs,rp,rv,ro,s1,s2⟩:=⟨_,rfl⟩;rw [<- hrr] at hc;have hr:r=smv rr:=(cL 1).inj hc;subst hr;have o1:=wA h (smc rr);have c1:=tA h (.row (smc rr) .own);have e1:h.push (.row (yRA (smv rr)) .own)=h.push (.row (smc rr) .own):=rfl;have hk0:rr.k=k:=by rw [hrr]
 have hhs:rr.has=hs:=by rw [hrr]
 have hth:rr.th=s1:=by rw [hrr]
 have hel:rr.el=s2:=by rw [hrr]
 have hco:rr.co=ro:=by rw [hrr]
 unfold dAg;dsimp only;rw [e1];have p1:=p.chg c1;have out:h.next ∉ A::s.blk.toList:=p.out (Nat.le_refl _);generalize h.push (.row (smc rr) .own)=H at *;have rd0:∀ {G:Heap},G.own h.next (smc rr)->G.cell (h.next,0)=some (.int .i64 k):=fun o=>by rw [<- hk0];exact o.cell 0
 have rd8:∀ {G:Heap},G.own h.next (smc rr)->G.cell (h.next,8)=some (.bool hs):=fun o=>by rw [<- hhs];exact o.cell 8
 have rd30:∀ {G:Heap},G.own h.next (smc rr)->G.cell (h.next,30)=some (yL s1):=fun o=>by rw [<- hth];exact o.cell 30
 have rd31:∀ {G:Heap},G.own h.next (smc rr)->G.cell (h.next,31)=some (yL s2):=fun o=>by rw [<- hel];exact o.cell 31
 have rd26:∀ {G:Heap},G.own h.next (smc rr)->G.cells (h.next,26) 4=some (.agg (opc ro)):=fun o=>by rw [<- hco];exact o.cells (j:=26) (m:=4) (show 26+4<=32 by decide)
 simp only [Nat.add_zero,Nat.zero_add,rd0 o1,bA,vA];have tail:∀ (H2:Heap) (t2:Bs) (s2':SL),H2.own h.next (smc rr)->PQ h0 H2 A t2 s2'->Chg (A::s.blk.toList) h H2->(∀ B,s2'.blk=some B->s.blk=some B\/h.next<=B)->(∀ B,s2'.blk=some B->B≠h.next)->∃ h',(mA (rec42 (some (A,0)) s1 (o:Int) H2) fun (x11:Unit) h12=>
   (dA (.val zO2) (h12.cell (h.next,0)) fun (x13:Int)=>
   (bif eA x13 4 then
    (dA (.val zN2) (h12.cell (h.next,8)) fun (x15:Bool)=>
    (bif x15 then
    (mA (f39 N (some (A,0)) ⟨(some (h12.next,0)),1,1,1⟩ (h12.push (.row [(.str [32,101,108,115,101,32])] .own))) fun (x17:Unit) h18=>
    (dA (.val zL2) (h18.cell (h.next,31)) fun (x19:SL)=>
    (mA (rec42 (some (A,0)) x19 (o:Int) h18) fun (x20:Unit) h21=>
    some ((),h21))))
    else
    some ((),h12)))
   else
    some ((),h12))))=some ((),h')/\Put h0 h A s h' (t2++(bl th++(if k=4/\hs=true then [32,101,108,115,101,32]++bl el else []))):=by
  intro H2 t2 s2' oH p2 c2 n2 ne2;obtain ⟨H3,e3,s3,p3,c3,n3⟩:=hb th s1 H2 t2 s2' (.inl rfl) x5 p2;rw [e3,aA];have o3:=oH.chg c3 (fun hm=>by
   grind)
  have hlt2:h.next<H2.next:=oH.2;have ne3:∀ B,s3.blk=some B->B≠h.next:=fun B hB=>by
   grind
  rw [rd0 o3];simp only [bA,vA]
  by_cases k4:k=4
  ·subst k4
   simp only [show eA 4 4=true from rfl,cond_true,rd8 o3,bA,uB]
   cases hs with
   | false=>
    simp only [cond_false,Bool.false_eq_true,and_false,if_false,List.append_nil];exact ⟨H3,rfl,Put.trans' p2 c2 n2 ⟨s3,p3,c3,n3⟩⟩
   | true=>
    obtain ⟨H4,e4,s4,p4,c4,n4⟩:=yF hN p3 (xs:=[[32,101,108,115,101,32]]) (by simp) (by simp) (n:=1) rfl (row:=[.str [32,101,108,115,101,32]]) rfl;simp only [cond_true,and_self,if_true];rw [e4,aA];have o4:=o3.chg c4 (fun hm=>by
     grind)
    rw [rd31 o4];simp only [bA,jA];obtain ⟨H5,e5,y5⟩:=hb el s2 H4 _ s4 (.inr rfl) x6 p4;have e5':rec42 (some (A,0)) s2 (o:Int) H4=some ((),H5):=e5;rw [e5',aA];refine ⟨H5,rfl,Put.trans' p2 c2 n2 (Put.trans' p3 c3 n3 (Put.trans' p4 c4 n4 ?_))⟩;simpa using y5
  ·have z:eA k 4=false:=by rw [eqI];grind
   rw [z,cond_false,if_neg (fun hq=>k4 hq.1),List.append_nil];exact ⟨H3,rfl,Put.trans' p2 c2 n2 ⟨s3,p3,c3,n3⟩⟩
 have hbl:∀ B,s.blk=some B->B≠h.next:=fun B hB=>by grind
 have nS:∀ {H2:Heap} {s2':SL},H.next<=H2.next->(∀ B,s2'.blk=some B->s.blk=some B\/H.next<=B)->(∀ B,s2'.blk=some B->s.blk=some B\/h.next<=B)/\∀ B,s2'.blk=some B->B≠h.next:=fun hle n=>⟨fun B hB=>(n B hB).imp id fun h1=>Nat.le_trans c1.next h1,fun B hB=>by
  have:=o1.2
  grind⟩
 rcases hk with ⟨rfl,hop⟩ | ⟨rfl,hop⟩ | rfl | rfl
 ·have lo:=uD hop
  obtain ⟨H1,e1,c1'⟩:=vO (N:=N) hop (pk.chg p1.base) (Dt.chg p1.base (by simp) x4);simp only [show eA 4 4=true from rfl,cond_true];rw [rd26 o1,dH];show ∃ h',(mA (f177 N ro H) _)=_/\_;rw [e1,aA];obtain ⟨H2,e2,sA,p2,c2,n2⟩:=yF hN (p1.chg c1') (xs:=[[105,102,32],opX co,[32]]) (by grind) (by simp) (n:=3) rfl (row:=[.str [105,102,32],.str (opX co),.str [32]]) rfl;rw [e2,aA];have o2:=(o1.chg c1' (by simp)).chg c2 out;rw [rd30 o2];simp only [bA,jA];obtain ⟨q1,q2⟩:=nS (H2:=H2) (s2':=sA) (Nat.le_trans c1'.next c2.next) fun B hB=>(n2 B hB).imp id fun h1=>Nat.le_trans c1'.next h1;obtain ⟨h',e',y⟩:=tail H2 _ sA o2 p2 (((c1.trans c1').mono (by simp)).trans c2) q1 q2;refine ⟨h',e',?_⟩;simpa using y
 ·have lo:=uD hop
  obtain ⟨H1,e1,c1'⟩:=vO (N:=N) hop (pk.chg p1.base) (Dt.chg p1.base (by simp) x4);simp only [show eA 5 4=false from rfl,show eA 5 5=true from rfl,cond_true,cond_false];rw [rd26 o1,dH];show ∃ h',(mA (f177 N ro H) _)=_/\_;rw [e1,aA];obtain ⟨H2,e2,sA,p2,c2,n2⟩:=yF hN (p1.chg c1') (xs:=[[119,104,105,108,101,32],opX co,[32]]) (by grind) (by simp) (n:=3) rfl (row:=[.str [119,104,105,108,101,32],.str (opX co),.str [32]]) rfl;rw [e2,aA];have o2:=(o1.chg c1' (by simp)).chg c2 out;rw [rd30 o2];simp only [bA,jA];obtain ⟨q1,q2⟩:=nS (H2:=H2) (s2':=sA) (Nat.le_trans c1'.next c2.next) fun B hB=>(n2 B hB).imp id fun h1=>Nat.le_trans c1'.next h1;obtain ⟨h',e',y⟩:=tail H2 _ sA o2 p2 (((c1.trans c1').mono (by simp)).trans c2) q1 q2;refine ⟨h',e',?_⟩;simpa using y
 ·simp only [show eA 6 4=false from rfl,show eA 6 5=false from rfl,show eA 6 6=true from rfl,cond_true,cond_false]
  obtain ⟨H2,e2,sA,p2,c2,n2⟩:=yF hN p1 (xs:=[[108,111,111,112,32]]) (by simp) (by simp) (n:=1) rfl (row:=[.str [108,111,111,112,32]]) rfl;rw [e2,aA];have o2:=o1.chg c2 out;rw [rd30 o2];simp only [bA,jA];obtain ⟨q1,q2⟩:=nS (H2:=H2) (s2':=sA) c2.next n2;obtain ⟨h',e',y⟩:=tail H2 _ sA o2 p2 ((c1.mono (by simp)).trans c2) q1 q2;refine ⟨h',e',?_⟩;simpa using y
 ·simp only [show eA 7 4=false from rfl,show eA 7 5=false from rfl,show eA 7 6=false from rfl,cond_false]
  rw [rd30 o1];simp only [bA,jA];obtain ⟨q1,q2⟩:=nS (H2:=H) (s2':=s) (Nat.le_refl _) fun B hB=>.inl hB;obtain ⟨h',e',y⟩:=tail H t s o1 p1 (c1.mono (by simp)) q1 q2;refine ⟨h',e',?_⟩;simpa using y
end
end Qp
namespace Qp
section
variable {N:Nat} {h0 h h1 h2:Heap} {A:Nat} {t:Bs} {s:SL} {V:Nat->Prop}
theorem iB6 (hN:200<=N) {rec132 rec42 rec83} {n m o:Nat} {d:D} (hd:bG (n+1) d) (ti:vS (m+1) d) {r:SmV} (pk:PK h0) (x:Dt h0 V d (smx r)) {bl:Nat->List D->Bs}
  (hb:∀ (h:Heap) (t:Bs) (s:SL),(mI d=4\/mI d=5\/mI d=6\/mI d=7)->PQ h0 h A t s->∃ h',rec132 (some (A,0)) r (o:Int) h=some ((),h')/\Put h0 h A s h' (t++smX bl o d)) (p:PQ h0 h A t s) :
  ∃ h',bAs N rec132 rec42 rec83 (some (A,0)) r (o:Int) h=some ((),h')/\Put h0 h A s h' (t++smX bl o d):=by
 obtain ⟨k,a,mu,nm,ty,hs,pl,va,co,th,el,rfl,hth,hel,hk⟩:=hd;obtain ⟨t1,t2,t3,t4,_⟩:=dY ti;obtain ⟨rt,rp,rv,ro,s1,s2,hc,x1,x2,x3,x4,x5,x6⟩:=iQ t1 t2 t3 t4 x;obtain ⟨rr,hrr⟩:∃ rr:SmR,rr=⟨k,a,mu,nm,rt,hs,rp,rv,ro,s1,s2⟩:=⟨_,rfl⟩;rw [<- hrr] at hc;have hr:r=smv rr:=(cL 1).inj hc;subst hr;unfold bAs;have o1:=wA h (smc rr);have c1:=tA h (.row (smc rr) .own);have e1:h.push (.row (yRA (smv rr)) .own)=h.push (.row (smc rr) .own):=rfl;dsimp only;rw [e1];have p1:=p.chg c1;generalize h.push (.row (smc rr) .own)=H at *;have pkH:=pk.chg p1.base;have y1:=Dt.chg p1.base (by simp) x1;have y2:=Dt.chg p1.base (by simp) x2;have y3:=Dt.chg p1.base (by simp) x3;have rd0:H.cell (h.next,0)=some (.int .i64 k):=by rw [show k=rr.k by rw [hrr]];exact o1.cell 0
 have rd8:H.cell (h.next,8)=some (.bool hs):=by rw [show hs=rr.has by rw [hrr]];exact o1.cell 8
 have rdA:H.cells (h.next,0) 32=some (.agg (smx (smv rr))):=o1.cells (j:=0) (m:=32) (Nat.le_refl _);have rdP:H.cells (h.next,9) 2=some (.agg (lfc rp)):=by rw [show rp=rr.pl by rw [hrr]];exact o1.cells (j:=9) (m:=2) (show 9+2<=32 by decide)
 have rdV:∀ {G:Heap},G.own h.next (smc rr)->G.cells (h.next,11) 15=some (.agg (vac rv)):=fun o=>by rw [show rv=rr.va by rw [hrr]];exact o.cells (j:=11) (m:=15) (show 11+15<=32 by decide)
 simp only [Nat.add_zero,Nat.zero_add,rd0,bA,vA];have one:∀ (w:Bs),w.length<=900000->∃ h',(mA (f39 N (some (A,0)) ⟨(some (H.next,0)),1,1,1⟩ (H.push (.row [.str w] .own))) fun (x2:Unit) h3=>some ((),h3))=some ((),h')/\Put h0 h A s h' (t++w):=fun w hw=>by
  obtain ⟨H2,e2,y⟩:=yF hN p1 (xs:=[w]) (by grind) (by simp) (n:=1) rfl (row:=[.str w]) rfl;rw [e2,aA];refine ⟨H2,rfl,Put.pre c1 ?_⟩
  grind
 have big:(mI (smT k a mu nm ty hs pl va co th el)=4\/mI (smT k a mu nm ty hs pl va co th el)=5\/mI (smT k a mu nm ty hs pl va co th el)=6\/mI (smT k a mu nm ty hs pl va co th el)=7)->
   ∃ h',(dA (.val yS) (H.cells (h.next,0) 32) fun (x53:SmV)=>(mA (rec132 (some (A,0)) (tS x53) (o:Int) H) fun (x54:Unit) h55=>some ((),h55)))=some ((),h')/\Put h0 h A s h' (t++smX bl o (smT k a mu nm ty hs pl va co th el)):=fun hkk=>by
  obtain ⟨H2,e2,y⟩:=hb H t s hkk p1;rw [rdA,gG];have e2':rec132 (some (A,0)) (tS (smv rr)) (o:Int) H=some ((),H2):=e2;rw [e2',aA];exact ⟨H2,rfl,Put.pre c1 y⟩
 cases hk with
 | let_ hn ht hv=>
  have hX:smX bl o (smT 1 a mu nm ty hs pl0 va op0 [] [])=kAd mu nm ty hs va:=rfl;have lx:=yAg (m:=mu) hn ht hv;obtain ⟨H2,e2,c2⟩:=cAz hN rr (ty:=ty) (va:=va) (by rw [hrr];exact hn) ht (by rw [hrr];exact hv) pkH (by rw [hrr];exact y1) (by rw [hrr];exact y3);rw [show kAd rr.m rr.nm ty rr.has va=kAd mu nm ty hs va by rw [hrr]] at e2;simp only [show eA 1 1=true from rfl,cond_true];rw [rdA,gG];have e2':f129 N (tS (smv rr)) H=some (kAd mu nm ty hs va,H2):=e2;rw [e2',aA];obtain ⟨H3,e3,y⟩:=yF hN (p1.chg c2) (xs:=[kAd mu nm ty hs va]) (by grind) (by simp) (n:=1) rfl (row:=[.str (kAd mu nm ty hs va)]) rfl;rw [e3,aA,hX];refine ⟨H3,rfl,Put.pre c1 (Put.pre c2 ?_)⟩
  grind
 | @set nm' xs va hn hx hv=>
  have hp:lH (gD nm' (xs.map D.s)):=⟨nm',xs,rfl,hn,hx⟩;have hX:smX bl o (smT 2 a false [] ty0D false (gD nm' (xs.map D.s)) va op0 [] [])=plX (gD nm' (xs.map D.s))++[32,61,32]++vaX va++[59]:=rfl;have l1:=fH hp;have l2:=tG hv;obtain ⟨H2,e2,c2⟩:=rY (N:=N) hp y2;obtain ⟨H3,e3,c3⟩:=yA4 hN hv (pkH.chg c2) (Dt.chg c2 (by simp) y3);simp only [show eA 2 1=false from rfl,show eA 2 2=true from rfl,cond_true,cond_false];have o2:=o1.chg c2 (by simp);rw [rdP,jH,e2,aA,rdV o2,pN];have e3':f131 N (tV rv) H2=some (vaX va,H3):=e3;rw [e3',aA];obtain ⟨H4,e4,y⟩:=yF hN ((p1.chg c2).chg c3) (xs:=[plX (gD nm' (xs.map D.s)),[32,61,32],vaX va,[59]]) (by grind) (by simp) (n:=4) rfl (row:=[.str (plX (gD nm' (xs.map D.s))),.str [32,61,32],.str (vaX va),.str [59]]) rfl;rw [e4,aA];have sv:mB (some (.agg (vac rv))) (.agg (yRB rv))=true:=wI _;have sp:mB (some (.agg (lfc rp))) (.agg [(.str rp.1),(yL rp.2.1)])=true:=wI _;simp only [rdV o1,sv,sp,cond_true,qB];refine ⟨H4,rfl,Put.pre c1 (Put.pre c2 (Put.pre c3 ?_))⟩
  grind
 | @call nm' ag hn hag=>
  have hv:mayVa (vaD 6 op0 op0 0 pl0 nm' [] ag):=mayVa.call hn hag;have hX:smX bl o (smT 3 a false [] ty0D false pl0 (vaD 6 op0 op0 0 pl0 nm' [] ag) op0 [] [])=vaX (vaD 6 op0 op0 0 pl0 nm' [] ag)++[59]:=rfl;have l2:=tG hv;obtain ⟨H3,e3,c3⟩:=yA4 hN hv pkH y3;simp only [show eA 3 1=false from rfl,show eA 3 2=false from rfl,show eA 3 3=true from rfl,cond_true,cond_false];rw [rdV o1,pN];have e3':f131 N (tV rv) H=some (vaX (vaD 6 op0 op0 0 pl0 nm' [] ag),H3):=e3;rw [e3',aA];obtain ⟨H4,e4,y⟩:=yF hN (p1.chg c3) (xs:=[vaX (vaD 6 op0 op0 0 pl0 nm' [] ag),[59]]) (by grind) (by simp) (n:=2) rfl (row:=[.str (vaX (vaD 6 op0 op0 0 pl0 nm' [] ag)),.str [59]]) rfl;rw [e4,aA];refine ⟨H4,rfl,Put.pre c1 (Put.pre c3 ?_)⟩
  grind
 | if_ h0' hco he=>
  simp only [show eA 4 1=false from rfl,show eA 4 2=false from rfl,show eA 4 3=false from rfl,show eA 4 10=false from rfl,show eA 4 11=false from rfl,show eA 4 8=false from rfl,show eA 4 9=false from rfl,cond_false];exact big (.inl rfl)
 | while_ h0' hco=>
  simp only [show eA 5 1=false from rfl,show eA 5 2=false from rfl,show eA 5 3=false from rfl,show eA 5 10=false from rfl,show eA 5 11=false from rfl,show eA 5 8=false from rfl,show eA 5 9=false from rfl,cond_false];exact big (.inr (.inl rfl))
 | loop h0'=>
  simp only [show eA 6 1=false from rfl,show eA 6 2=false from rfl,show eA 6 3=false from rfl,show eA 6 10=false from rfl,show eA 6 11=false from rfl,show eA 6 8=false from rfl,show eA 6 9=false from rfl,cond_false];exact big (.inr (.inr (.inl rfl)))
 | block h0'=>
  simp only [show eA 7 1=false from rfl,show eA 7 2=false from rfl,show eA 7 3=false from rfl,show eA 7 10=false from rfl,show eA 7 11=false from rfl,show eA 7 8=false from rfl,show eA 7 9=false from rfl,cond_false];exact big (.inr (.inr (.inr rfl)))
 | break_=>
  simp only [show eA 8 1=false from rfl,show eA 8 2=false from rfl,show eA 8 3=false from rfl,show eA 8 10=false from rfl,show eA 8 11=false from rfl,show eA 8 8=true from rfl,cond_false,cond_true];exact one [98,114,101,97,107,59] (by decide)
 | cont=>
  simp only [show eA 9 1=false from rfl,show eA 9 2=false from rfl,show eA 9 3=false from rfl,show eA 9 10=false from rfl,show eA 9 11=false from rfl,show eA 9 8=false from rfl,show eA 9 9=true from rfl,cond_false,cond_true];exact one [99,111,110,116,105,110,117,101,59] (by decide)
 | ret hv=>
  simp only [show eA 10 1=false from rfl,show eA 10 2=false from rfl,show eA 10 3=false from rfl,show eA 10 10=true from rfl,cond_false,cond_true,rd8,bA,uB];rcases hv with ⟨rfl,hv⟩ | ⟨rfl,rfl⟩
  ·have hX:smX bl o (smT 10 a false [] ty0D true pl0 va op0 [] [])=[114,101,116,117,114,110,32]++vaX va++[59]:=rfl
   have l2:=tG hv;obtain ⟨H3,e3,c3⟩:=yA4 hN hv pkH y3;simp only [cond_true];rw [rdV o1,pN];have e3':f131 N (tV rv) H=some (vaX va,H3):=e3;rw [e3',aA];obtain ⟨H4,e4,y⟩:=yF hN (p1.chg c3) (xs:=[[114,101,116,117,114,110,32],vaX va,[59]]) (by grind) (by simp) (n:=3) rfl (row:=[.str [114,101,116,117,114,110,32],.str (vaX va),.str [59]]) rfl;rw [e4,aA];refine ⟨H4,rfl,Put.pre c1 (Put.pre c3 ?_)⟩
   grind
  ·simp only [cond_false]
   exact one [114,101,116,117,114,110,59] (by decide)
 | drop hp=>
  have hX:smX bl o (smT 11 a false [] ty0D false pl va00 op0 [] [])=[100,114,111,112,32]++plX pl++[59]:=rfl;have l1:=fH hp;obtain ⟨H2,e2,c2⟩:=rY (N:=N) hp y2;simp only [show eA 11 1=false from rfl,show eA 11 2=false from rfl,show eA 11 3=false from rfl,show eA 11 10=false from rfl,show eA 11 11=true from rfl,cond_true,cond_false];rw [rdP,jH,e2,aA];obtain ⟨H4,e4,y⟩:=yF hN (p1.chg c2) (xs:=[[100,114,111,112,32],plX pl,[59]]) (by grind) (by simp) (n:=3) rfl (row:=[.str [100,114,111,112,32],.str (plX pl),.str [59]]) rfl;rw [e4,aA];refine ⟨H4,rfl,Put.pre c1 (Put.pre c2 ?_)⟩
  grind
end
end Qp
namespace Qp
theorem eAz {n:Nat} {d:D} (hd:bG (n+1) d) (hk:mI d=4\/mI d=5\/mI d=6\/mI d=7):∃ (k a:Int) (mu:Bool) (nm:Bs) (ty:D) (hs:Bool) (pl va co:D) (th el:List D),d=smT k a mu nm ty hs pl va co th el/\thD d=th/\elD d=el/\((k=4/\qC co)\/(k=5/\qC co)\/k=6\/k=7):=by
 obtain ⟨k,a,mu,nm,ty,hs,pl,va,co,th,el,rfl,_,_,h⟩:=hd;refine ⟨k,a,mu,nm,ty,hs,pl,va,co,th,el,rfl,rfl,rfl,?_⟩;have hk':k=4\/k=5\/k=6\/k=7:=hk
 cases h with
 | if_ _ hc _=>grind
 | while_ _ hc=>grind
 | loop _=>grind
 | block _=>grind
 | _=>omega
theorem iL {bl:Nat->List D->Bs} {o:Nat} {k a:Int} {mu:Bool} {nm:Bs} {ty:D} {hs:Bool} {pl va co:D} {th el:List D} (hk:k=4\/k=5\/k=6\/k=7):smX bl o (smT k a mu nm ty hs pl va co th el)=(if k=4 then [105,102,32]++opX co++[32] else if k=5 then [119,104,105,108,101,32]++opX co++[32] else if k=6 then [108,111,111,112,32] else [])++bl o th++(if k=4/\hs=true then [32,101,108,115,101,32]++bl o el else []):=by
 rcases hk with rfl | rfl | rfl | rfl <;> rfl
section
variable {N:Nat} {h0 h h1 h2:Heap} {A:Nat} {t:Bs} {s:SL} {V:Nat->Prop}
theorem jB6 (hN:3001<=N) (pk:PK h0):∀ (j M o:Nat) (l:List D) (s1:SL) (h:Heap) (t:Bs) (s:SL),3 * j+1<=M->j+o<=500->(∀ x∈l,bG j x)->(∀ x∈l,vS (j+1) x)->l.length<=3000->Sl h0 V s1 l->PQ h0 h A t s->
  ∃ h',f42 N M (some (A,0)) s1 (o:Int) h=some ((),h')/\Put h0 h A s h' (t++blX (j+1) o l):=by
 intro j
 induction j with
 | zero=>
  intro M o l s1 h t s hM ho hm ti hl x p;obtain ⟨M,rfl⟩:∃ m,M=m+1:=⟨M-1,by omega⟩;have hnil:l=[]:=by
   cases l with
   | nil=>rfl
   | cons y r=>grind [absurd,List.mem_cons_self,bG]
  subst hnil;rw [eAg];unfold aAs;obtain ⟨H1,e1,sa,p1,c1,n1⟩:=yF (N:=N) (by omega) p (xs:=[[123,10]]) (by simp) (by simp) (n:=1) rfl (row:=[.str [123,10]]) rfl;dsimp only;rw [e1,aA];have hlen:Int.ofNat s1.len=0:=by rw [x.len];rfl
  obtain ⟨out,H2,e2,y⟩:=aAh (N:=N) (rec132:=f132 N M) (rec42:=f42 N M) (rec83:=f83 N M) (by omega) (o:=o) (T:=fun _=>[]) (by omega) hl (m:=1) (fun z hz=>by cases hz) x (fun d hd=>by cases hd) N 0 H1 _ sa (Nat.le_refl _) (by simp;omega) p1;have e2':cA1 N (f132 N M) (f42 N M) (f83 N M) N (some (A,0)) (o:Int) s1 (Int.ofNat s1.len) 0 H1=some (out,(some (A,0),(o:Int),()),H2):=by rw [hlen];exact e2
  rw [e2',kB];dsimp only;rcases y with ⟨rfl,sb,p2,c2,n2⟩ | ⟨rfl,y⟩
  ·simp only [show jD (.exit 0) (.exit 0)=true from rfl,cond_true]
   obtain ⟨H3,e3,sc,p3,c3,n3⟩:=mAo (N:=N) (by omega) p2 (k:=o) (by omega);rw [e3,aA];obtain ⟨H4,e4,y4⟩:=yF (N:=N) (by omega) p3 (xs:=[[125]]) (by simp) (by simp) (n:=1) rfl (row:=[.str [125]]) rfl;rw [e4,aA];refine ⟨H4,rfl,Put.trans' p1 c1 n1 (Put.trans' p2 c2 n2 (Put.trans' p3 c3 n3 ?_))⟩;simpa [blX] using y4
  ·simp only [show jD .ret (.exit 0)=false from rfl,cond_false]
   refine ⟨H2,rfl,Put.trans' p1 c1 n1 ?_⟩
   grind [Lib.repeatL,blX]
 | succ j ih=>
  intro M o l s1 h t s hM ho hm ti hl x p;obtain ⟨M,rfl⟩:∃ m,M=m+1+1+1:=⟨M-3,by omega⟩;rw [eAg];unfold aAs;obtain ⟨H1,e1,sa,p1,c1,n1⟩:=yF (N:=N) (by omega) p (xs:=[[123,10]]) (by simp) (by simp) (n:=1) rfl (row:=[.str [123,10]]) rfl;dsimp only;rw [e1,aA];have hlen:Int.ofNat s1.len=((l.length:Nat):Int):=by rw [x.len];rfl
  obtain ⟨out,H2,e2,y⟩:=aAh (N:=N) (rec132:=f132 N (M+1+1)) (rec42:=f42 N (M+1+1)) (rec83:=f83 N (M+1+1)) (by omega) (o:=o) (T:=smX (blX (j+1)) (o+1)) (by omega) hl ti x (fun d hd r h t s dd pp=>by
   have hmd:=hm d hd;have tid:=ti d hd;obtain ⟨h',e',y'⟩:=iB6 (N:=N) (rec132:=f132 N (M+1)) (rec42:=f42 N (M+1)) (rec83:=f83 N (M+1)) (o:=o+1) (by omega) hmd tid pk dd (bl:=blX (j+1)) (fun h t s hk pp=>by
    obtain ⟨k,a,mu,nm,ty,hs,pl,va,co,th,el,hdd,hth,hel,hkk⟩:=eAz hmd hk;have t4:isTy 65 ty/\isLf pl/\lAj va/\isOp co:=by
     rw [hdd] at tid;obtain ⟨q1,q2,q3,q4,_⟩:=dY tid
     grind
    have hk2:k=4\/k=5\/k=6\/k=7:=by
     grind
    rw [mAn];have key:=dAz (N:=N) (rec132:=f132 N M) (rec42:=f42 N M) (rec83:=f83 N M) (o:=o+1) (by omega) t4 pk (by rw [<- hdd];exact dd) hkk (bl:=blX (j+1) (o+1)) (fun l2 s2 h t s hl2 x2 p2=>by
     have hl3:l2=thD d\/l2=elD d:=by grind
     obtain ⟨q1,q2,q3⟩:=pA3 hmd tid hl3;exact ih M (o+1) l2 s2 h t s (by omega) (by omega) q1 q2 q3 x2 p2) pp
    grind [iL]) pp
   grind [cAs]) N 0 H1 _ sa (Nat.zero_le _) (by omega) p1
  have e2':cA1 N (f132 N (M+1+1)) (f42 N (M+1+1)) (f83 N (M+1+1)) N (some (A,0)) (o:Int) s1 (Int.ofNat s1.len) 0 H1=some (out,(some (A,0),(o:Int),()),H2):=by rw [hlen];exact e2
  rw [e2',kB];dsimp only;rw [List.drop_zero] at y;have hX:blX (j+1+1) o l=[123,10]++(l.map fun d=>Lib.repeatL [9] (o+1)++smX (blX (j+1)) (o+1) d++[10]).flatten++Lib.repeatL [9] o++[125]:=rfl;rcases y with ⟨rfl,sb,p2,c2,n2⟩ | ⟨rfl,y⟩
  ·simp only [show jD (.exit 0) (.exit 0)=true from rfl,cond_true]
   obtain ⟨H3,e3,sc,p3,c3,n3⟩:=mAo (N:=N) (by omega) p2 (k:=o) (by omega);rw [e3,aA];obtain ⟨H4,e4,y4⟩:=yF (N:=N) (by omega) p3 (xs:=[[125]]) (by simp) (by simp) (n:=1) rfl (row:=[.str [125]]) rfl;rw [e4,aA];refine ⟨H4,rfl,Put.trans' p1 c1 n1 (Put.trans' p2 c2 n2 (Put.trans' p3 c3 n3 ?_))⟩
   grind
  ·simp only [show jD .ret (.exit 0)=false from rfl,cond_false]
   refine ⟨H2,rfl,Put.trans' p1 c1 n1 ?_⟩
   grind
end
end Qp
namespace Qp
theorem lA1:∀ (b:Bs),bJ (ofBytes b)=some b
 | []=>rfl
 | x::r=>by
  have:x.toNat<256:=by have:=x.toBitVec.isLt;exact this
  simp only [ofBytes,bJ,lA1 r,Int.toNat_natCast];simp
section
variable {N:Nat} {h0 h h1 h2:Heap} {A:Nat} {b t:Bs} {s:SL} {V:Nat->Prop}
theorem kB6 (p:PrB h A b s) (hb:b.length<=1000000000):∃ h',f44 N (some (A,0)) h=some (b,h')/\Chg s.blk.toList h h':=by
 unfold f44;have c0:=p.cell;rcases p.buf with ⟨rfl,rfl⟩ | ⟨B,rfl,h2,h3,h4,h5⟩
 ·simp only [fA,Nat.zero_add,c0,bA,jA]
  exact ⟨h,by simp [qD,c0];rfl,(Chg.refl [] h).mono (by simp)⟩
 ·simp only [fA,Nat.zero_add,c0,bA,jA]
  obtain ⟨k,hk⟩:∃ k,b.length=k+1:=⟨b.length-1,by omega⟩;have e1:qD E .unsafeSliceData [81] [(.slice (some (B,0)) b.length b.length 1)] h=some (.ptr (some (B,0)),h):=by rw [hk];rfl
  have hl:(ofBytes b).length=k+1:=by rw [yE,hk]
  have e2:qD E .unsafeString [144,3] [(.ptr (some (B,0))),(.int .i64 (Int.ofNat b.length))] h=some (.str b,h.put B (.row (ofBytes b) .ro)):=by
   rw [hk];show qJ E 144 B (.ofNat (k+1)) h=_;unfold qJ;have hbb:(Nat.ble (k+1) 1073741824&&kAe (ofBytes b) (ofBytes b))=true:=by
    rw [Bool.and_eq_true,Nat.ble_eq];exact ⟨by omega,tJ _⟩
   rw [bB6,h4];simp only [show Nat.beq 5 5=true from rfl,cond_true,vBb];rw [iH _ _ (by grind),List.take_of_length_le (by grind)];simp only [lA1,hbb,cond_true]
  rw [e1,aA9];simp only [c0,bA,jA];rw [e2];have c:Chg [B] h (h.put B (.row (ofBytes b) .ro)):=(Chg.refl [B] h).put (.inl (by simp)) _;refine ⟨_,?_,c⟩;simp only [mR,kA,nB,cond_true,qB]
end
def stX:D->Bs
 | .t [.b pub,.s nm,.l lv,.l fs,_]=>(if pub=true then [112,117,98,32] else [])++[115,116,114,117,99,116,32]++nm++aE (txS lv)++[32,123,32]++(if lM fs=[] then [] else lM fs++[32])++[125,10]
 | _=>[]
def hdX:D->Bs
 | .t [.b pub,.s nm,.l lv,.l ps,ty,.l _,_]=>uT pub nm lv ps ty
 | _=>[]
def bdX:D->Bs
 | .t [_,_,_,_,_,.l bd,_]=>blX 65 0 bd
 | _=>[]
def fuX (d:D):Bs:=hdX d++[32]++bdX d++[10]
def crX (xs ys:List D):Bs:=(xs.map stX).flatten++(ys.map fuX).flatten
section
variable {N:Nat} {h0 h h1 h2:Heap} {A:Nat} {t:Bs} {s:SL} {V:Nat->Prop}
theorem wY {lv:List Bs} (h:lAr 64 lv):(aE lv).length<=2400:=by
 cases lv with
 | nil=>simp [aE]
 | cons y r=>
  have:=wG (B:=32) (l:=y::r) (sep:=[44,32,39]) fun w hw=>(uC (h.2 w hw)).2
  have:=Nat.le_trans this (Nat.le_trans (Nat.mul_le_mul h.1 (Nat.le_refl _)) (show 64 * (32+([44,32,39]:Bs).length)<=2300 by decide))
  rw [<- kA1];simp;omega
theorem cA9 (hN:3001<=N) {P:zJ2} {xs:List D} (hx:∀ x∈xs,mH x) (ti:∀ x∈xs,isSt x) (hl:xs.length<=300) {s1:SL} (x:Sl h0 V s1 xs) :
  ∀ (M i:Nat) (h:Heap) (t:Bs) (s:SL),i<=xs.length->xs.length-i<M->PQ h0 h A t s->∃ h',dA1 N M P (some (A,0)) s1 (xs.length:Int) (i:Int) h=some (.exit 0,(P,some (A,0),()),h')/\Put h0 h A s h' (t++((xs.drop i).map stX).flatten):=by
 intro M
 induction M with
 | zero=>grind
 | succ M ih=>
  intro i h t s hi hM p;rw [oAc];unfold cA4;simp only [rB]
  by_cases q:i<xs.length
  ·simp only [q,decide_true,cond_true]
   have hm:=List.getElem_mem q;obtain ⟨r,g,d⟩:=gX.elt x q (ti _ hm);rw [x.ix q 5,mN p.base (qH x q),g,pAw];obtain ⟨h5,p5,c5,o5⟩:=gX.park (z:=stc st0) rfl h r;have p5':∀ {β:Type} (K:Heap->Option β),bB ((h.push (.row [(.bool false),(.str []),(.slice none 0 0 0),(.slice none 0 0 0),(.int .i64 0)] .own)).store (h.next,0) [(.bool r.1),(.str r.2.1),(yL r.2.2.1),(yL r.2.2.2.1),(.int .i64 r.2.2.2.2.1)]) K=K h5:=p5;rw [p5'];have hd:(xs.drop i)=xs[i]::xs.drop (i+1):=List.drop_eq_getElem_cons q;have hsx:=hx _ hm;generalize xs[i]=y at *;obtain ⟨pub,nm,lv,fs,a,rfl,hn,hlv,hfs⟩:=hsx;have base5:=p.base.trans c5;obtain ⟨s1',s2',hc,y1,y2⟩:=fX d;obtain rfl:=gX.inj hc;have y1:=y1.chg base5 (by simp);have y2:=y2.chg base5 (by simp);have pq5:=p.chg c5;have o3:h5.cell (h.next,3)=some (yL s2'):=o5.cell 3;simp only [Nat.zero_add,Nat.add_zero,o3,bA,jA];obtain ⟨h7,e7,c7⟩:=rAu (N:=N) (by omega) hfs y2;have e7':f38 N s2' h5=some (lM fs,h7):=e7;rw [e7',aA];have o7:=o5.chg c7 (by simp);have a0:h7.cell (h.next,0)=some (.bool pub):=o7.cell 0;have a1:h7.cell (h.next,1)=some (.str nm):=o7.cell 1;have a2:h7.cell (h.next,2)=some (yL s1'):=o7.cell 2;have pq7:=pq5.chg c7;have y1:=y1.chg c7 (by simp);have e41:f41 N s1' h7=some (aE lv,h7):=qAu y1 hlv.1 hlv.2;have l1:=gL hfs;have l2:=wY hlv;have l3:=iD hn;have l4:(if pub=true then [112,117,98,32] else []:Bs).length<=4:=by cases pub <;> simp
   have hX:stX (dAb pub nm lv fs a)=(if pub=true then [112,117,98,32] else [])++[115,116,114,117,99,116,32]++nm++aE lv++[32,123,32]++(if lM fs=[] then [] else lM fs++[32])++[125,10]:=by
    show _++_++nm++aE (txS (lv.map D.s))++_++_++_=_;rw [rG]
   rw [hd,List.map_cons,List.flatten_cons,hX];have e40:f40 N pub h7=some ((if pub=true then [112,117,98,32] else []:Bs),h7):=uAu pub h7;generalize (if pub=true then [112,117,98,32] else []:Bs)=W at *;generalize aE lv=Mk at *;have fin:∀ (F:Bs),F.length<=500000->∃ h8 h',f39 N (some (A,0)) ⟨some (h7.next,0),7,7,1⟩ (h7.push (.row [(.str W),(.str [115,116,114,117,99,116,32]),(.str nm),(.str Mk),(.str [32,123,32]),(.str F),(.str [125,10])] .own))=some ((),h8)/\
     dA1 N M P (some (A,0)) s1 (xs.length:Int) ((i+1:Nat):Int) h8=some (.exit 0,(P,some (A,0),()),h')/\Put h0 h A s h' (t++(W++[115,116,114,117,99,116,32]++nm++Mk++[32,123,32]++F++[125,10]++((xs.drop (i+1)).map stX).flatten)):=by
    intro F hF;obtain ⟨h8,e8,s8,p8,c8,n8⟩:=yF (N:=N) (by omega) pq7 (xs:=[W,[115,116,114,117,99,116,32],nm,Mk,[32,123,32],F,[125,10]]) (by
     intro w hw;simp only [List.mem_cons,List.not_mem_nil,or_false] at hw;rcases hw with rfl | rfl | rfl | rfl | rfl | rfl | rfl <;> first | omega | simp) (by simp) (n:=7) rfl (row:=[(.str W),(.str [115,116,114,117,99,116,32]),(.str nm),(.str Mk),(.str [32,123,32]),(.str F),(.str [125,10])]) rfl
    obtain ⟨h',e',y⟩:=ih (i+1) h8 _ s8 q (by omega) p8;refine ⟨h8,h',e8,e',Put.pre (c5.trans c7) (Put.trans' p8 c8 n8 ?_)⟩;simpa using y
   by_cases hf:lM fs=[]
   ·have z:fB (lM fs) []=true:=by rw [hf];rfl
    simp only [z,Bool.not_true,cond_false,a0,bA,uB];rw [e40,aA];simp only [a1,a2,bA,kA,jA];rw [e41,aA,if_pos hf];obtain ⟨h8,h',e8,e',y⟩:=fin (lM fs) (by omega);rw [hf] at e8 y ⊢;rw [e8,aA];simp only [a1,nB,cond_true,qB]
    grind [aB]
   ·have z:fB (lM fs) []=false:=by
     cases hq:lM fs with
     | nil=>exact absurd hq hf
     | cons _ _=>rfl
    simp only [z,Bool.not_false,cond_true];rw [yA (by simp;omega)];simp only [a0,bA,uB,kA];rw [e40,aA];simp only [a1,a2,bA,kA,jA];rw [e41,aA,if_neg hf];obtain ⟨h8,h',e8,e',y⟩:=fin (lM fs++[32]) (by simp;omega);rw [e8,aA];simp only [a1,nB,cond_true,qB]
    grind [aB]
  ·simp only [q,decide_false,cond_false]
   have:xs.drop i=[]:=List.drop_eq_nil_of_le (by omega)
   rw [this];exact ⟨h,rfl,by simpa using p.same⟩
theorem eAj (hN:3001<=N) (pk:PK h0) {xs:List D} (hx:∀ x∈xs,nI x) (ti:∀ x∈xs,isFu x) (hl:xs.length<=300) {s1:SL} (x:Sl h0 V s1 xs) :
  ∀ (M i:Nat) (h:Heap) (t:Bs) (s:SL),i<=xs.length->xs.length-i<M->PQ h0 h A t s->∃ h',kA8 N M (some (A,0)) s1 (xs.length:Int) (i:Int) h=some (.exit 2,(some (A,0),()),h')/\Put h0 h A s h' (t++((xs.drop i).map fuX).flatten):=by
 intro M
 induction M with
 | zero=>grind
 | succ M ih=>
  intro i h t s hi hM p;rw [nAc];unfold bA4;simp only [rB]
  by_cases q:i<xs.length
  ·simp only [q,decide_true,cond_true]
   have hm:=List.getElem_mem q;obtain ⟨r,g,d⟩:=iX.elt x q (ti _ hm);rw [x.ix q 10,mN p.base (qH x q),g,qAw];obtain ⟨h5,p5,c5,o5⟩:=iX.park (z:=fux (fuv (nAp false [] 0))) rfl h r;have p5':∀ {β:Type} (K:Heap->Option β),bB ((h.push (.row yZD .own)).store (h.next,0) (yRD r)) K=K h5:=p5;rw [p5',iX.cells o5];have hd:(xs.drop i)=xs[i]::xs.drop (i+1):=List.drop_eq_getElem_cons q;have hsx:=hx _ hm;have tix:=ti _ hm;generalize xs[i]=y at *;obtain ⟨pub,nm,lv,ps,ty,bd,a,rfl,hn,hlv,hps,hty,hbd,hct⟩:=hsx;have tt:isTy 65 ty/\bd.length<=3000/\∀ s∈bd,vS 65 s:=by
    obtain ⟨pub',nm',lv',ps',ty',bd',a',e,_,_,_,_,h1,h2,h3⟩:=tix;simp only [fuT,D.t.injEq,List.cons.injEq,D.i.injEq,D.b.injEq,D.s.injEq,D.l.injEq,and_true] at e
    grind
   obtain ⟨t1,t2,t3⟩:=tt;obtain ⟨s1',s2',s3',rt,hc,y1,y2,yt,y3⟩:=cA8 t1 d;obtain ⟨rr,hrr⟩:∃ rr:FuR,rr=⟨pub,nm,s1',s2',rt,s3',(a:Int)⟩:=⟨_,rfl⟩;rw [<- hrr] at hc;have hr:r=fuv rr:=iX.inj hc;subst hr;have base5:=p.base.trans c5;have pq5:=p.chg c5;obtain ⟨h7,e7,c7⟩:=vAu (N:=N) (by omega) rr (lv:=lv) (ps:=ps) (ty:=ty) (by rw [hrr];exact hn) hlv hps hty (by rw [hrr];exact y1.chg base5 (by simp)) (by rw [hrr];exact y2.chg base5 (by simp)) (by grind [Dt.chg]);have hhd:uT rr.pub rr.nm lv ps ty=hdX (fuT pub nm lv ps ty bd a):=by rw [hrr];rfl
   have l1:=vY (pub:=rr.pub) (nm:=rr.nm) (by rw [hrr];exact hn) hlv hps hty;rw [hhd] at e7 l1;have e7':f20 N ((fuv rr).1,(fuv rr).2.1,(fuv rr).2.2.1,(fuv rr).2.2.2.1,(fuv rr).2.2.2.2.1,(fuv rr).2.2.2.2.2.1,(fuv rr).2.2.2.2.2.2.1,(fuv rr).2.2.2.2.2.2.2.1,(fuv rr).2.2.2.2.2.2.2.2.1,(fuv rr).2.2.2.2.2.2.2.2.2.1,()) h5=some (hdX (fuT pub nm lv ps ty bd a),h7):=e7;rw [e7',aA];have pq7:=pq5.chg c7;have o7:=o5.chg c7 (by simp);obtain ⟨h8,e8,s8,p8,c8,n8⟩:=yF (N:=N) (by omega) pq7 (xs:=[hdX (fuT pub nm lv ps ty bd a),[32]]) (by
     grind) (by simp) (n:=2) rfl (row:=[(.str (hdX (fuT pub nm lv ps ty bd a))),(.str [32])]) rfl
   rw [e8,aA];have o8:=o7.chg c8 (p.out (Nat.le_refl _));have a8:h8.cell (h.next,8)=some (yL s3'):=by
    have:(fuc rr)[8]? = some (yL s3'):=by rw [hrr];rfl
    rw [<- this];exact o8.cell 8
   simp only [Nat.zero_add,a8,bA,jA];obtain ⟨h9,e9,s9,p9,c9,n9⟩:=jB6 (N:=N) hN pk 64 N 0 bd s3' h8 _ s8 (by omega) (by omega) hbd t3 t2 y3 p8;have e9':f42 N N (some (A,0)) s3' 0 h8=some ((),h9):=e9;rw [e9',aA];obtain ⟨h10,e10,s10,p10,c10,n10⟩:=yF (N:=N) (by omega) p9 (xs:=[[10]]) (by simp) (by simp) (n:=1) rfl (row:=[.str [10]]) rfl;rw [e10,aA,aB (by omega)];obtain ⟨h',e',yy⟩:=ih (i+1) h10 _ s10 q (by omega) p10;refine ⟨h',e',Put.pre (c5.trans c7) (Put.trans' p8 c8 n8 (Put.trans' p9 c9 n9 (Put.trans' p10 c10 n10 ?_)))⟩;rw [hd,List.map_cons,List.flatten_cons];have hX:fuX (fuT pub nm lv ps ty bd a)=hdX (fuT pub nm lv ps ty bd a)++[32]++blX (64+1) 0 bd++[10]:=rfl;rw [hX];simpa using yy
  ·simp only [q,decide_false,cond_false]
   have:xs.drop i=[]:=List.drop_eq_nil_of_le (by omega)
   rw [this];exact ⟨h,rfl,by simpa using p.same⟩
theorem lB6 (h:Heap):PQ h (h.push (.row [(.ptr none),(.slice none 0 0 0)] (.ty 85))) h.next [] ⟨none,0,0,0⟩:=by
 refine ⟨[],⟨⟨none,aH _ rfl,.inl rfl⟩,Nat.lt_succ_self _,.inl ⟨rfl,rfl⟩⟩,(fun B hB=>by cases hB),Nat.le_refl _,tA h _,⟨by simp,.inl ⟨by simp,rfl⟩⟩⟩
def PrA (h:Heap) (r:Bs×AV×Unit) (x:Bs):Prop:=(x.length<=1048576/\r=(x,AV.nilIface,()))\/(1048576<x.length/\r.1=[]/\FaultAt h r.2.1 5 0)
theorem wAu (hN:3001<=N) {xs ys:List D} (hx:∀ x∈xs,mH x) (hy:∀ y∈ys,nI y) (tx:∀ x∈xs,isSt x) (ty:∀ y∈ys,isFu y) (hl:xs.length+ys.length<=256) (pk:PK h) {s1 s2:SL} (y1:Sl h V s1 xs) (y2:Sl h V s2 ys):∃ r h',f16 N (s1,s2,()) h=some (r,h')/\Chg [] h h'/\PrA h' r (crX xs ys):=by
 unfold f16;have o:=wA h [SL.av s1,SL.av s2];have c:=tA h (.row [SL.av s1,SL.av s2] .own);have e1:h.push (.row [(yL s1),(yL s2)] .own)=h.push (.row [SL.av s1,SL.av s2] .own):=rfl;dsimp only;rw [e1];have pk:=pk.chg c;have y1:=y1.chg c (by simp);have y2:=y2.chg c (by simp);generalize h.push (.row [SL.av s1,SL.av s2] .own)=H at *;rw [show H.cells (h.next,0) 2=some (.agg [SL.av s1,SL.av s2]) from o.cells (j:=0) (m:=2) (by simp)];have e2:∀ {β:Type} (K:zO1->Option β),dA (.val zJ) (some (.agg [SL.av s1,SL.av s2])) K=K (s1,s2,()):=fun K=>by simp [SL.av]
 rw [e2];obtain ⟨H1,e3,c1⟩:=dB4 (N:=N) hN hx hy tx ty hl pk y1 y2;have e3':f33 N ((s1,s2,()).1,(s1,s2,()).2.1,()) H=some (true,H1):=e3;rw [e3',aA];simp only [Bool.not_true,cond_false];have o1:=o.chg c1 (by simp);have pk:=pk.chg c1;have y1:=y1.chg c1 (by simp);have y2:=y2.chg c1 (by simp);have p8:=lB6 H1;have c8:=tA H1 (.row [(.ptr none),(.slice none 0 0 0)] (.ty 85));generalize H1.push (.row [(.ptr none),(.slice none 0 0 0)] (.ty 85))=H8 at *;have o8:=o1.chg c8 (by simp);have a0:H8.cell (h.next,0)=some (yL s1):=o8.cell 0;have l1:s1.len=xs.length:=y1.len;have l2:s2.len=ys.length:=y2.len;simp only [Nat.add_zero,a0,bA,jA];obtain ⟨H9,e9,s9,p9,c9,n9⟩:=cA9 (N:=N) (h0:=H1) (A:=H1.next) (P:=some (h.next,0)) hN hx tx (by omega) y1 N 0 H8 [] _ (Nat.zero_le _) (by omega) p8;have e9':dA1 N N (some (h.next,0)) (some (H1.next,0)) s1 (Int.ofNat s1.len) 0 H8=some (.exit 0,(some (h.next,0),some (H1.next,0),()),H9):=by
  rw [show Int.ofNat s1.len=(xs.length:Int) from congrArg Int.ofNat l1];exact e9
 rw [e9',kB];have c89:Chg [] H1 H9:=p9.base;have o9:=o1.chg c89 (by simp);have a1:H9.cell (h.next,1)=some (yL s2):=o9.cell 1;simp only [fA,Nat.zero_add,a1,bA,jA];obtain ⟨H10,e10,s10,p10,c10,n10⟩:=eAj (N:=N) (h0:=H1) (A:=H1.next) hN pk hy ty (by omega) y2 N 0 H9 _ s9 (Nat.zero_le _) (by omega) p9;have e10':kA8 N N (some (H1.next,0)) s2 (Int.ofNat s2.len) 0 H9=some (.exit 2,(some (H1.next,0),()),H10):=by
  rw [show Int.ofNat s2.len=(ys.length:Int) from congrArg Int.ofNat l2];exact e10
 rw [e10',kB];have hcr:[]++((xs.drop 0).map stX).flatten++((ys.drop 0).map fuX).flatten=crX xs ys:=by simp [crX]
 rw [hcr] at p10;generalize crX xs ys=X at *;obtain ⟨b,pb,hs,hA,cb,lb⟩:=p10;simp only [fA,iAo pb,aA];have hlt:ltInt 1048576 (b.length:Int)=decide (1048576<b.length):=by
  grind [ltI,decide_eq_true,decide_eq_false]
 rw [hlt];have cc:Chg [] h H10:=(c.trans c1).trans cb
 by_cases hb:1048576<b.length
 ·simp only [hb,decide_true,cond_true]
  obtain ⟨v,h',e,c',f⟩:=cAm N (c:=5) (by decide) 0 H10;rw [e,aA];refine ⟨_,h',rfl,cc.trans c',.inr ⟨?_,rfl,f⟩⟩;rcases lb.2 with ⟨l,e⟩ | ⟨l,_⟩
  ·subst e;omega
  ·exact l
 ·simp only [hb,decide_false,cond_false]
  obtain ⟨h',e,c'⟩:=kB6 (N:=N) pb (by omega);rw [e,aA];refine ⟨_,h',rfl,?_,.inl ?_⟩
  ·exact cc.step c' fun B hB hlt=>by
    have h1:=hs B (bAz hB);have h2:=c.next;have h3:=c1.next;omega
  ·rcases lb.2 with ⟨l,e⟩ | ⟨_,l⟩
   ·grind
   ·omega
end
end Qp
namespace Qp
section
variable {N:Nat} {h:Heap} {V:Nat->Prop}
theorem wQ {G:Heap} {s:SL} {l:List D} (x:Sl G V s l) {i:Nat} (q:i<l.length) (hwt:Wt Tryz.prog l[i] 106):∃ s1 s2:SL,G.cell ((s.at i 32).1,(s.at i 32).2+30)=some (yL s1)/\G.cell ((s.at i 32).1,(s.at i 32).2+31)=some (yL s2)/\Sl G V s1 (thD l[i])/\Sl G V s2 (elD l[i])/\
  (∀ y∈thD l[i],Wt Tryz.prog y 106)/\(∀ y∈elD l[i],Wt Tryz.prog y 106)/\wtL (thD l[i])+wtL (elD l[i])<wtD l[i]:=by
 obtain ⟨cs,e⟩:=x.elt q;obtain ⟨k,a,m,nm,ty,hs,pl,va,co,th,el,hd,t1,t2,t3,t4,t5,t6,t7⟩:=pAy hwt;rw [hd] at e ⊢;obtain ⟨rt,rp,rv,ro,s1,s2,hc,x1,x2,x3,x4,x5,x6⟩:=vA8 t1 t2 t3 t4 e.dt;have hz:s.sz=32:=by rw [<- e.len,hc];rfl
 have e30:=e.cell 30 (by rw [hz];decide);have e31:=e.cell 31 (by rw [hz];decide);rw [hz,hc] at e30 e31;exact ⟨s1,s2,e30,e31,x5,x6,t6,t7,pAu.2.2.2.2⟩
theorem mA1 {rec34:SL->Int->Heap->Option (Int×Heap)} {v1:Int} {l:List D} (hwl:l.length<=2000000) (ht:∀ x∈l,Wt Tryz.prog x 106) (hrec:∀ (k:List D) (s:SL) (H:Heap),wtL k<wtL l->(∀ x∈k,Wt Tryz.prog x 106)->Sl H V s k->∃ n H',rec34 s (jB .i64 (v1-1)) H=some (n,H')/\Chg [] H H') {s:SL} :
  ∀ (M i:Nat) (v:Int) (h:Heap),i<=l.length->l.length-i<M->Sl h V s l->∃ v' h',vAf N rec34 M s v1 v (i:Int) h=some (.exit 0,(v',()),h')/\Chg [] h h':=by
 intro M
 induction M with
 | zero=>intro i v h _ h;omega
 | succ M ih=>
  intro i v h hi hM x;rw [fAc];unfold uA3;have hv:s.len=l.length:=x.len;simp only [fF,hv]
  by_cases q:i<l.length
  ·simp only [q,decide_true,cond_true]
   cases hz:ltInt 0 v1 with
   | false=>
    simp only [cond_false];exact ⟨_,h,rfl,Chg.refl _ _⟩
   | true=>
    simp only [cond_true];have hm:=List.getElem_mem q;have hix:∀ {G:Heap} {β:Type} (K:Nat×Nat->Option β),ixK s.a l.length (i:Int) 32 K=K (s.at i 32):=fun K=>by rw [<- hv];exact x.ix q 32 K
    obtain ⟨s1,s2,a30,a31,y1,y2,t1,t2,hw⟩:=wQ x q (ht _ hm);have hwl2:=lI hm;rw [hix (G:=h),a30];simp only [bA,jA];obtain ⟨n1,H1,e1,c1⟩:=hrec _ s1 h (by omega) t1 y1;have e1':rec34 s1 (jB .i64 (v1-1)) h=some (n1,H1):=e1;rw [e1',aA];have x1:=x.chg c1 (by simp);obtain ⟨s1',s2',a30',a31',_,y2',_,_,_⟩:=wQ x1 q (ht _ hm);have hs2:s2'=s2:=by
     have e:h.t.get (s.at i 32).1=H1.t.get (s.at i 32).1:=((c1.g _ (qH x q) (by simp))).symm
     have:h.cell ((s.at i 32).1,(s.at i 32).2+31)=H1.cell ((s.at i 32).1,(s.at i 32).2+31):=by simp only [Heap.cell,Heap.row,e]
     rw [a31,a31'] at this;simp only [Option.some.injEq] at this;exact SL.av_inj this.symm
    subst hs2;rw [hix (G:=H1),a31'];simp only [bA,jA];obtain ⟨n2,H2,e2,c2⟩:=hrec _ s2' H1 (by omega) t2 y2';have e2':rec34 s2' (jB .i64 (v1-1)) H1=some (n2,H2):=e2;rw [e2',aA];simp only [a31,nB,cond_true,qB];rw [aB (by omega)];obtain ⟨v',h',e',c'⟩:=ih (i+1) _ H2 q (by omega) (x1.chg c2 (by simp));exact ⟨v',h',e',(c1.trans c2).trans c'⟩
  ·simp only [q,decide_false,cond_false]
   exact ⟨_,h,rfl,Chg.refl _ _⟩
theorem fAz:∀ (w M:Nat) (l:List D) (s:SL) (v1:Int) (h:Heap),wtL l<=w->w<M->wtL l<N->wtL l<=2000000->(∀ x∈l,Wt Tryz.prog x 106)->Sl h V s l->∃ n h',f34 N M s v1 h=some (n,h')/\Chg [] h h':=by
 intro w
 induction w with
 | zero=>
  intro M l s v1 h hw hM hN hwl ht x;obtain ⟨M,rfl⟩:∃ m,M=m+1:=⟨M-1,by omega⟩;rw [wAf];unfold vAr
  have:=nC l
  obtain ⟨v',h',e,c⟩:=mA1 (N:=N) (rec34:=f34 N M) (v1:=v1) (l:=l) (by omega) ht (fun k s H h1 _ _=>by omega) N 0 0 h (Nat.zero_le _) (by omega) x;rw [show ((0:Nat):Int)=0 from rfl] at e;rw [e];exact ⟨v',h',rfl,c⟩
 | succ w ih=>
  intro M l s v1 h hw hM hN hwl ht x;obtain ⟨M,rfl⟩:∃ m,M=m+1:=⟨M-1,by omega⟩;rw [wAf];unfold vAr
  have:=nC l
  obtain ⟨v',h',e,c⟩:=mA1 (N:=N) (rec34:=f34 N M) (v1:=v1) (l:=l) (by omega) ht (fun k s H h1 h2 h3=>ih M k s _ H (by omega) (by omega) (by omega) (by omega) h2 h3) N 0 0 h (Nat.zero_le _) (by omega) x;rw [show ((0:Nat):Int)=0 from rfl] at e;rw [e];exact ⟨v',h',rfl,c⟩
theorem bAh {l:List D} {i:Nat} (h:i<l.length):wtL (l.drop i)=wtD l[i]+wtL (l.drop (i+1)):=by
 rw [List.drop_eq_getElem_cons h,wtL]
def Cn (l:List D) (n:Nat):Prop:=(∀ j,qG j l<=n)/\∀ g,(∀ x∈l,bG g x)->n<=qG g l
theorem gAz {g:Nat} {d:D} (h:bG (g+1) d):(∀ x∈thD d,bG g x)/\∀ x∈elD d,bG g x:=by
 obtain ⟨k',a',m',nm',ty',hs',pl',va',co',th',el',rfl,h1,h2,_⟩:=h;exact ⟨h1,h2⟩
theorem lAd {rec35:SL->Heap->Option (Int×Heap)} {l:List D} (hwl:wtL l<=2000000) (ht:∀ x∈l,Wt Tryz.prog x 106) (hrec:∀ (k:List D) (s:SL) (H:Heap),wtL k<wtL l->(∀ x∈k,Wt Tryz.prog x 106)->Sl H V s k->∃ (n:Nat) (H':Heap),rec35 s H=some ((n:Int),H')/\Chg [] H H'/\Cn k n/\n<=wtL k) {s:SL} :
  ∀ (M i v:Nat) (h:Heap),i<=l.length->l.length-i<M->v+wtL (l.drop i)<=4000000->Sl h V s l->∃ (v':Nat) (h':Heap),yAf N rec35 M s (v:Int) (i:Int) h=some (.exit 0,((v':Int),()),h')/\Chg [] h h'/\((∀ j,v+((l.drop i).map fun d=>qG j (thD d)+qG j (elD d)).sum<=v')/\∀ g,(∀ x∈l,bG (g+1) x)->v'<=v+((l.drop i).map fun d=>qG g (thD d)+qG g (elD d)).sum)/\v'+(l.drop i).length<=v+wtL (l.drop i):=by
 intro M
 induction M with
 | zero=>intro i v h _ h;omega
 | succ M ih=>
  intro i v h hi hM hvb x;rw [gAc];unfold vA3;have hv:s.len=l.length:=x.len;have hll:=nC l;simp only [fF,hv]
  by_cases q:i<l.length
  ·simp only [q,decide_true,cond_true]
   have hm:=List.getElem_mem q;have hix:∀ {G:Heap} {β:Type} (K:Nat×Nat->Option β),ixK s.a l.length (i:Int) 32 K=K (s.at i 32):=fun K=>by rw [<- hv];exact x.ix q 32 K
   obtain ⟨s1,s2,a30,a31,y1,y2,t1,t2,hw⟩:=wQ x q (ht _ hm);have hwl2:=lI hm;have hwd:=bAh q;rw [hix (G:=h),a30];simp only [bA,jA];obtain ⟨n1,H1,e1,c1,m1,u1⟩:=hrec _ s1 h (by omega) t1 y1;have e1':rec35 s1 h=some ((n1:Int),H1):=e1;rw [e1',aA];have x1:=x.chg c1 (by simp);obtain ⟨s1',s2',a30',a31',_,y2',_,_,_⟩:=wQ x1 q (ht _ hm);have hs2:s2'=s2:=by
    have e:h.t.get (s.at i 32).1=H1.t.get (s.at i 32).1:=((c1.g _ (qH x q) (by simp))).symm
    have:h.cell ((s.at i 32).1,(s.at i 32).2+31)=H1.cell ((s.at i 32).1,(s.at i 32).2+31):=by simp only [Heap.cell,Heap.row,e]
    rw [a31,a31'] at this;simp only [Option.some.injEq] at this;exact SL.av_inj this.symm
   subst hs2;rw [hix (G:=H1),a31'];simp only [bA,jA];obtain ⟨n2,H2,e2,c2,m2,u2⟩:=hrec _ s2' H1 (by omega) t2 y2';have e2':rec35 s2' H1=some ((n2:Int),H2):=e2;rw [e2',aA];simp only [a31,nB,cond_true,qB];rw [aB (by omega)];have w1:jB .i64 ((v:Int)+(n1:Int))=((v+n1:Nat):Int):=by grind [fD]
   have w2:jB .i64 (((v+n1:Nat):Int)+(n2:Int))=((v+n1+n2:Nat):Int):=by grind [fD]
   rw [w1,w2];obtain ⟨v',h',e',c',m',u'⟩:=ih (i+1) (v+n1+n2) H2 q (by omega) (by omega) (x1.chg c2 (by simp));refine ⟨v',h',e',(c1.trans c2).trans c',⟨fun j=>?_,fun g ha=>?_⟩,?_⟩
   ·have h1:=m1.1 j
    have h2:=m2.1 j;have h3:=m'.1 j
    grind [List.drop_eq_getElem_cons]
   ·have h0:=gAz (ha _ hm)
    have h1:=m1.2 g h0.1;have h2:=m2.2 g h0.2;have h3:=m'.2 g ha
    grind [List.drop_eq_getElem_cons]
   grind
  ·simp only [q,decide_false,cond_false]
   have:l.drop i=[]:=List.drop_eq_nil_of_le (by omega)
   rw [this];exact ⟨v,h,rfl,Chg.refl _ _,⟨(fun j=>by simp),fun j _=>by simp⟩,by simp [wtL]⟩
theorem pAo:∀ (w M:Nat) (l:List D) (s:SL) (h:Heap),wtL l<=w->w<M->wtL l<N->wtL l<=2000000->(∀ x∈l,Wt Tryz.prog x 106)->Sl h V s l->∃ (n:Nat) (h':Heap),f35 N M s h=some ((n:Int),h')/\Chg [] h h'/\Cn l n/\n<=wtL l:=by
 intro w;have step:∀ (M:Nat) (l:List D) (s:SL) (h:Heap),wtL l<N->wtL l<=2000000->(∀ x∈l,Wt Tryz.prog x 106)->Sl h V s l->(∀ (k:List D) (s:SL) (H:Heap),wtL k<wtL l->(∀ x∈k,Wt Tryz.prog x 106)->Sl H V s k->∃ (n:Nat) (H':Heap),f35 N M s H=some ((n:Int),H')/\Chg [] H H'/\Cn k n/\n<=wtL k)->
   ∃ (n:Nat) (h':Heap),wAr N (f35 N M) s h=some ((n:Int),h')/\Chg [] h h'/\Cn l n/\n<=wtL l:=by
  intro M l s h hN hwl ht x hrec;unfold wAr;have hll:=nC l;obtain ⟨v',h',e,c,m,u⟩:=lAd (N:=N) hwl ht hrec N 0 l.length h (Nat.zero_le _) (by omega) (by grind) x;rw [show ((0:Nat):Int)=0 from rfl] at e;rw [show Int.ofNat s.len=((l.length:Nat):Int) from congrArg Int.ofNat x.len,e];rw [List.drop_zero] at m u;refine ⟨v',h',rfl,c,⟨fun j=>?_,fun j ha=>?_⟩,by omega⟩
  ·cases j with
   | zero=>exact Nat.zero_le _
   | succ j=>exact m.1 j
  ·cases j with
   | zero=>
    cases l with
    | nil=>have:=u;simp only [wtL,List.length_nil] at this;omega
    | cons y r=>exact (ha y (by simp)).elim
   | succ j=>exact m.2 j ha
 induction w with
 | zero=>
  intro M l s h hw hM hN hwl ht x;obtain ⟨M,rfl⟩:∃ m,M=m+1:=⟨M-1,by omega⟩;rw [aAg];exact step M l s h hN hwl ht x (fun k s H h1 _ _=>by omega)
 | succ w ih=>
  intro M l s h hw hM hN hwl ht x;obtain ⟨M,rfl⟩:∃ m,M=m+1:=⟨M-1,by omega⟩;rw [aAg];exact step M l s h hN hwl ht x (fun k s H h1 h2 h3=>ih M k s H (by omega) (by omega) (by omega) (by omega) h2 h3)
end
end Qp
namespace Qp
section
variable {N:Nat} {h:Heap} {V:Nat->Prop}
theorem mAd {rec125 rec174} {n:Nat} {deep:Int} {xs:List D} (hx:∀ x∈xs,Wt Tryz.prog x 106) (hl:xs.length<=2000000) (hF:∀ x∈xs,∀ (r:SmV) (H:Heap),PK H->Dt H V x (smx r)->∃ b H',rec174 r deep H=some (b,H')/\Chg [] H H'/\(b=true->bG n x)) {s:SL}:∀ (M i:Nat) (h:Heap),i<=xs.length->xs.length-i<M->PK h->Sl h V s xs->(∀ j,(hj:j<xs.length)->j<i->bG n xs[j])->
  ∃ o b h',qX N rec125 rec174 M deep false s (xs.length:Int) (i:Int) h=some (o,(b,()),h')/\Chg [] h h'/\((o=.exit 0/\∀ x∈xs,bG n x)\/(o=.ret/\b=false)):=by
 intro M
 induction M with
 | zero=>intro i h _ h;omega
 | succ M ih=>
  intro i h hi hM pk x hp;rw [fT];unfold qQ;simp only [rB]
  by_cases q:i<xs.length
  ·simp only [q,decide_true,cond_true]
   have hm:=List.getElem_mem q;obtain ⟨r,g,d⟩:=pY.elt x q (pAy (hx _ hm));rw [x.ix q 32,g,gG];obtain ⟨h5,p5,c5,o5⟩:=pY.park (z:=smx (smv (mE 0))) rfl h r;have p5':∀ {β:Type} (K:Heap->Option β),bB ((h.push (.row yZA .own)).store (h.next,0) (yRA r)) K=K h5:=p5;rw [p5',pY.cells o5];obtain ⟨b,h6,e6,c6,hb⟩:=hF _ hm r h5 (pk.chg c5) (Dt.chg c5 (by simp) d);have e6':rec174 (tS r) deep h5=some (b,h6):=e6;rw [e6',aA];have c06:=c5.trans c6
   cases b with
   | false=>
    simp only [Bool.not_false,cond_true]
    grind
   | true=>
    simp only [Bool.not_true,cond_false];rw [aB (by omega)];obtain ⟨o,b',h',e',c',hh⟩:=ih (i+1) h6 q (by omega) (pk.chg c06) (x.chg c06 (by simp)) fun j hj hji=>by
     grind
    exact ⟨o,b',h',e',c06.trans c',hh⟩
  ·simp only [q,decide_false,cond_false]
   exact ⟨_,_,h,rfl,Chg.refl _ _,.inl ⟨rfl,fun y hy=>by
    obtain ⟨j,hj,rfl⟩:=List.getElem_of_mem hy
    grind⟩⟩
theorem vAs (hN:3001<=N):∀ (n M:Nat) (xs:List D) (s1:SL) (h:Heap) (V:Nat->Prop),2 * n<M->n<=64->wtL xs<=2000000->wtL xs<N->(∀ x∈xs,Wt Tryz.prog x 106)->PK h->Sl h V s1 xs->∃ b h',f125 N M s1 ((65-n:Nat):Int) h=some (b,h')/\Chg [] h h'/\(b=true->0<n/\∀ x∈xs,bG n x):=by
 intro n
 induction n with
 | zero=>
  intro M xs s1 h V hM hn hw hwN hx pk x;obtain ⟨M,rfl⟩:∃ m,M=m+1:=⟨M-1,by omega⟩;rw [rX];unfold eA8;rw [show ltInt 64 ((65-0:Nat):Int)=true from rfl];exact ⟨_,h,rfl,Chg.refl _ _,fun h=>by cases h⟩
 | succ k ih=>
  intro M xs s1 h V hM hn hw hwN hx pk x;obtain ⟨M,rfl⟩:∃ m,M=m+2:=⟨M-2,by omega⟩;have hll:=nC xs;rw [rX];unfold eA8;have z:ltInt 64 ((65-(k+1):Nat):Int)=false:=by grind [ltI,decide_eq_false_iff_not]
  simp only [z,cond_false];obtain ⟨o,b,h',e,c,hh⟩:=mAd (N:=N) (rec125:=f125 N (M+1)) (rec174:=f174 N (M+1)) (deep:=((65-(k+1):Nat):Int)) (n:=k+1) hx (by omega) (fun x hm r H pkH d=>by
   show ∃ b H',f174 N (M+1) r _ H=_/\_;rw [fA8];have hwx:=lI hm;refine pAs hN (pAy (hx x hm)) (by omega) (by omega) pkH d fun l s2 H2 hlt hlw pk2 sl=>?_
   grind [jB,aB]) N 0 h (Nat.zero_le _) (by omega) pk x fun j _ h=>by omega
  rw [show ((0:Nat):Int)=0 from rfl] at e;have l1:s1.len=xs.length:=x.len;rw [l1,show Int.ofNat xs.length=(xs.length:Int) from rfl,e,kB];rcases hh with ⟨rfl,hh⟩ | ⟨rfl,rfl⟩
  ·grind
  ·exact ⟨_,h',rfl,c,fun h=>by cases h⟩
theorem yY {rec126:SL->Heap->Option (Int×Heap)} {l:List D} (hwl:wtL l<=2000000) (ht:∀ x∈l,Wt Tryz.prog x 106) (hrec:∀ (k:List D) (s:SL) (H:Heap),wtL k<wtL l->(∀ x∈k,Wt Tryz.prog x 106)->Sl H V s k->∃ (n:Nat) (H':Heap),rec126 s H=some ((n:Int),H')/\Chg [] H H'/\(∀ j,qG j k<=n)/\n<=wtL k) {s:SL} :
  ∀ (M i v:Nat) (h:Heap),i<=l.length->l.length-i<M->v+wtL (l.drop i)<=4000000->Sl h V s l->∃ (v':Nat) (h':Heap),tX N rec126 M (v:Int) s (l.length:Int) (i:Int) h=some (.exit 0,((v':Int),()),h')/\Chg [] h h'/\(∀ j,v+((l.drop i).map fun d=>qG j (thD d)+qG j (elD d)).sum<=v')/\v'+(l.drop i).length<=v+wtL (l.drop i):=by
 intro M
 induction M with
 | zero=>intro i v h _ h;omega
 | succ M ih=>
  intro i v h hi hM hvb x;rw [gT];unfold rQ;have hll:=nC l;simp only [rB]
  by_cases q:i<l.length
  ·simp only [q,decide_true,cond_true]
   have hm:=List.getElem_mem q;have hwt:=ht _ hm;obtain ⟨r,g,d⟩:=pY.elt x q (pAy hwt);rw [x.ix q 32,g,gG];obtain ⟨h5,p5,c5,o5⟩:=pY.park (z:=smx (smv (mE 0))) rfl h r;have p5':∀ {β:Type} (K:Heap->Option β),bB ((h.push (.row yZA .own)).store (h.next,0) (yRA r)) K=K h5:=p5;rw [p5'];have hwl2:=lI hm;have hwd:=bAh q;obtain ⟨kk,a,mu,nm,ty,hs,pl,va,co,th,el,hd,t1,t2,t3,t4,_,t6,t7⟩:=pAy hwt;rw [hd] at d;obtain ⟨rt,rp,rv,ro,s1,s2,hc,_,_,_,_,y1,y2⟩:=vA8 t1 t2 t3 t4 d;have hr:=pY.inj (r':=smv ⟨kk,a,mu,nm,rt,hs,rp,rv,ro,s1,s2⟩) hc;subst hr;have hth:thD l[i]=th:=by rw [hd];rfl
   have hel:elD l[i]=el:=by rw [hd];rfl
   have hw:wtL th+wtL el<wtD l[i]:=by rw [hd];simp only [smT,wtD,wtL];omega
   have a30:h5.cell (h.next,30)=some (yL s1):=o5.cell 30;have a31:h5.cell (h.next,31)=some (yL s2):=o5.cell 31;simp only [Nat.zero_add,a30,bA,jA];obtain ⟨n1,H1,e1,c1,m1,u1⟩:=hrec th s1 h5 (by omega) t6 (y1.chg c5 (by simp));have e1':rec126 s1 h5=some ((n1:Int),H1):=e1;rw [e1',aA];have b31:H1.cell (h.next,31)=some (yL s2):=(o5.chg c1 (by simp)).cell 31;simp only [b31,bA,jA];obtain ⟨n2,H2,e2,c2,m2,u2⟩:=hrec el s2 H1 (by omega) t7 (y2.chg (c5.trans c1) (by simp));have e2':rec126 s2 H1=some ((n2:Int),H2):=e2;rw [e2',aA];simp only [a31,nB,cond_true,qB];have w1:jB .i64 (jB .i64 ((v:Int)+(n1:Int))+(n2:Int))=((v+n1+n2:Nat):Int):=by
    grind [fD]
   rw [w1,aB (by omega)];obtain ⟨v',h',e',c',m',u'⟩:=ih (i+1) (v+n1+n2) H2 q (by omega) (by omega) (x.chg ((c5.trans c1).trans c2) (by simp));refine ⟨v',h',e',((c5.trans c1).trans c2).trans c',fun j=>?_,?_⟩
   ·have h1:=m1 j
    have h2:=m2 j;have h3:=m' j
    grind [List.drop_eq_getElem_cons]
   grind
  ·simp only [q,decide_false,cond_false]
   have:l.drop i=[]:=List.drop_eq_nil_of_le (by omega)
   rw [this];exact ⟨v,h,rfl,Chg.refl _ _,fun j=>by simp,by simp⟩
theorem wAs (w:Nat):∀ (M:Nat) (l:List D) (s:SL) (h:Heap),wtL l<=w->w<M->wtL l<N->wtL l<=2000000->(∀ x∈l,Wt Tryz.prog x 106)->Sl h V s l->∃ (n:Nat) (h':Heap),f126 N M s h=some ((n:Int),h')/\Chg [] h h'/\(∀ j,qG j l<=n)/\n<=wtL l:=by
 induction w with
 | zero=>
  intro M l s h hw hM hN hwl ht x;obtain ⟨M,rfl⟩:∃ m,M=m+1:=⟨M-1,by omega⟩;rw [tQ];unfold vA0;have hll:=nC l;have h0:l=[]:=List.length_eq_zero_iff.1 (by omega);subst h0;obtain ⟨v',h',e,c,m,u⟩:=yY (N:=N) (rec126:=f126 N M) (l:=[]) (V:=V) (by simp [wtL]) (by simp) (fun k s H h1=>by simp [wtL] at h1) N 0 0 h (Nat.zero_le _) (by simp;omega) (by simp [wtL]) x;have l1:s.len=0:=x.len;rw [l1];rw [show ((0:Nat):Int)=0 from rfl,show (([]:List D).length:Int)=0 from rfl] at e;rw [show Int.ofNat 0=(0:Int) from rfl,e];refine ⟨v',h',rfl,c,fun j=>?_,by simpa using u⟩
  cases j with
  | zero=>exact Nat.zero_le _
  | succ j=>exact m j
 | succ w ih=>
  intro M l s h hw hM hN hwl ht x;obtain ⟨M,rfl⟩:∃ m,M=m+1:=⟨M-1,by omega⟩;rw [tQ];unfold vA0;have hll:=nC l;obtain ⟨v',h',e,c,m,u⟩:=yY (N:=N) (rec126:=f126 N M) (l:=l) (V:=V) hwl ht (fun k s H h1 h2 h3=>ih M k s H (by omega) (by omega) (by omega) (by omega) h2 h3) N 0 l.length h (Nat.zero_le _) (by omega) (by rw [List.drop_zero];omega) x;have l1:s.len=l.length:=x.len;rw [l1];rw [show ((0:Nat):Int)=0 from rfl] at e;rw [show Int.ofNat l.length=(l.length:Int) from rfl,e];rw [List.drop_zero] at m u;refine ⟨v',h',rfl,c,fun j=>?_,by omega⟩
  cases j with
  | zero=>exact Nat.zero_le _
  | succ j=>exact m j
theorem nAd (hN:200<=N) {R:zJ2} {xs:List D} (hx:∀ x∈xs,rLf x) (hw:wtL xs<=2000000) (hwN:wtL xs<N) {s:SL}:∀ (M i:Nat) (h:Heap),i<=xs.length->xs.length-i<M->Sl h V s xs->(∀ j,(hj:j<xs.length)->j<i->yJ xs[j])->
  ∃ o b h',vX N M R false s (xs.length:Int) (i:Int) h=some (o,(R,b,()),h')/\Chg [] h h'/\((o=.exit 0/\∀ y∈xs,yJ y)\/(o=.ret/\b=false)):=by
 intro M
 induction M with
 | zero=>intro i h _ h;omega
 | succ M ih=>
  intro i h hi hM x hp;rw [wX];unfold oU;simp only [rB];have hll:=nC xs
  by_cases q:i<xs.length
  ·simp only [q,decide_true,cond_true]
   have hm:=List.getElem_mem q;obtain ⟨r,g,d⟩:=aAd.elt x q (hx _ hm);rw [x.ix q 2,g,jH];obtain ⟨h5,p5,c5,o5⟩:=aAd.park (z:=lfc lf0) rfl h r;have p5':∀ {β:Type} (K:Heap->Option β),bB ((h.push (.row [(.str []),(.slice none 0 0 0)] .own)).store (h.next,0) [(.str r.1),(yL r.2.1)]) K=K h5:=p5;rw [p5'];have d5:=Dt.chg c5 (by simp) d;obtain ⟨nm,ys,hd⟩:=hx _ hm;have wl:ys.length<=wtL xs:=by
    have h1:=lI hm;have h2:=lAu nm ys;rw [hd] at h1;omega
   rw [hd] at d5;obtain ⟨s2,hc,y⟩:=iG d5;obtain rfl:=aAd.inj (r':=(nm,s2,())) hc;have a0:h5.cell (h.next,0)=some (.str nm):=o5.cell 0;have a1:h5.cell (h.next,1)=some (yL s2):=o5.cell 1;simp only [Nat.zero_add,a0,bA,kA];rw [pAg (by omega),aA]
   cases hn:oD nm with
   | false=>
    simp only [Bool.not_false,cond_true];exact ⟨_,_,h5,rfl,c5,.inr ⟨rfl,rfl⟩⟩
   | true=>
    simp only [Bool.not_true,cond_false,a1,bA,jA];obtain ⟨b,e,hb⟩:=vU (N:=N) hN y (by omega) (by omega);have e':f120 N s2 h5=some (b,h5):=e;rw [e',aA]
    cases b with
    | false=>
     simp only [Bool.not_false,cond_true];exact ⟨_,_,h5,rfl,c5,.inr ⟨rfl,rfl⟩⟩
    | true=>
     simp only [Bool.not_true,cond_false];rw [aB (by omega)];obtain ⟨o,b',h',e',c',hh⟩:=ih (i+1) h5 q (by omega) (x.chg c5 (by simp)) fun j hj hji=>by
      by_cases e:j=i
      ·subst e;rw [hd];exact ⟨nm,ys,rfl,hn,hb rfl⟩
      ·exact hp j hj (by omega)
     exact ⟨o,b',h',e',c5.trans c',hh⟩
  ·simp only [q,decide_false,cond_false]
   exact ⟨_,_,h,rfl,Chg.refl _ _,.inl ⟨rfl,fun y hy=>by
    obtain ⟨j,hj,rfl⟩:=List.getElem_of_mem hy;exact hp j hj (by omega)⟩⟩
set_option maxHeartbeats 1000000 in
theorem iAz (hN:3001<=N) {d:D} (hd:rFu d) (hw:wtD d<=2000000) (hwN:wtD d<N) {r:FuV} (pk:PK h) (x:Dt h V d (fux r)):∃ b h',f80 N r h=some (b,h')/\Chg [] h h'/\(b=true->nI d):=by
 obtain ⟨pub,nm,lv,ps,ty,bd,a,rfl,t1,t2,t3,t4,t5⟩:=hd;have ww:wtL lv<wtD (fuT pub nm lv ps ty bd a)/\wtL ps<wtD (fuT pub nm lv ps ty bd a)/\wtD ty<wtD (fuT pub nm lv ps ty bd a)/\wtL bd<wtD (fuT pub nm lv ps ty bd a):=by
  simp only [fuT,wtD,wtL];omega
 obtain ⟨w1,w2,w3,w4⟩:=ww;obtain ⟨s1,s2,s3,rt,hc,y1,y2,yt,y3⟩:=lAg t1 x;obtain ⟨rr,hrr⟩:∃ rr:FuR,rr=⟨pub,nm,s1,s2,rt,s3,(a:Int)⟩:=⟨_,rfl⟩;rw [<- hrr] at hc;have hr:r=fuv rr:=yAi.inj hc;subst hr;unfold f80;have o:=wA h (fuc rr);have c:=tA h (.row (fuc rr) .own);have e1:h.push (.row (yRD (fuv rr)) .own)=h.push (.row (fuc rr) .own):=rfl;dsimp only;rw [e1];have pk:=pk.chg c;have y1:=y1.chg c (by simp);have y2:=y2.chg c (by simp);have yt:=Dt.chg c (by simp) yt;have y3:=y3.chg c (by simp);generalize h.push (.row (fuc rr) .own)=H at *;have rd:∀ {H':Heap},Chg [] H H'->H'.cell (h.next,1)=some (.str nm)/\H'.cell (h.next,2)=some (yL s1)/\H'.cell (h.next,3)=some (yL s2)/\H'.cell (h.next,4)=some (.int .i64 rt.1)/\H'.cells (h.next,4) 4=some (.agg (tyc rt))/\H'.cell (h.next,8)=some (yL s3):=fun c'=>by
  have o':=o.chg c' (by simp);rw [hrr] at o';exact ⟨o'.cell 1,o'.cell 2,o'.cell 3,o'.cell 4,o'.cells (j:=4) (m:=4) (show 4+4<=10 by decide),o'.cell 8⟩
 obtain ⟨_,a2,_,_,_,_⟩:=rd (Chg.refl _ _);simp only [Nat.zero_add,a2,bA,jA];have l1:s1.len=lv.length:=y1.len;have hle:=nC lv;obtain ⟨ol,bl,H1,e,c1,hl⟩:=nAd (N:=N) (by omega) (R:=some (h.next,0)) t3 (by omega) (by omega) N 0 H (Nat.zero_le _) (by omega) y1 fun j _ h=>by omega
 rw [show ((0:Nat):Int)=0 from rfl,show (lv.length:Int)=Int.ofNat s1.len by rw [l1];rfl] at e;have e':vX N N (some (h.next,0)) false s1 (Int.ofNat s1.len) 0 H=some (ol,(some (h.next,0),bl,()),H1):=e;rw [e',kB];rcases hl with ⟨rfl,hl⟩ | ⟨rfl,rfl⟩
 rotate_left
 ·exact ⟨_,H1,rfl,c.trans c1,fun h=>by cases h⟩
 obtain ⟨a1,a2,a3,a4,a44,a8⟩:=rd c1;simp only [bC,decide_true,cond_true,fA,Nat.zero_add,a4,bA,vA];have hres:∃ br H2,(bif eA rt.1 0 then (dA (.val zE) (H1.cells (h.next,4) 4) fun x24=>mA (f123 N x24 H1) fun x25 h26=>bif x25 then some (((some (h.next,0),true,()):zJ2×Bool×Unit),h26) else (dA (.val zE) (h26.cells (h.next,4) 4) fun x28=>mA (f124 N N x28 1 h26) fun x29 h30=>some ((some (h.next,0),x29,()),h30))) else (dA (.val zE) (H1.cells (h.next,4) 4) fun x32=>mA (f124 N N x32 1 H1) fun x33 h34=>some ((some (h.next,0),x33,()),h34)))=some ((some (h.next,0),br,()),H2)/\Chg [] H1 H2/\(br=true->ty=ty0D\/dG 64 ty):=by
  rw [a44,vJ];have yt1:=Dt.chg c1 (by simp) yt
  cases q0:eA rt.1 0 with
  | false=>
   rw [cond_false];obtain ⟨b,H2,e2,c2,hb⟩:=wU (N:=N) (by omega) (by omega) (by omega) t2 (pk.chg c1) yt1;rw [vJ,e2,aA];exact ⟨b,H2,rfl,c2,fun h=>.inr (hb h)⟩
  | true=>
   rw [cond_true];obtain ⟨H2,e2,c2⟩:=rAg (N:=N) rt H1;have e2':f123 N rt H1=some (zB rt.2.1&&(zN rt.2.2.1&&zN rt.2.2.2.1),H2):=e2;rw [e2',aA]
   cases qz:(zB rt.2.1&&(zN rt.2.2.1&&zN rt.2.2.2.1)) with
   | true=>
    refine ⟨_,H2,rfl,c2,fun _=>.inl (jM t1 yt1 ?_)⟩;unfold zTy zI;rw [q0,qz];rfl
   | false=>
    rw [cond_false];obtain ⟨_,_,_,_,b44,_⟩:=rd (c1.trans c2);obtain ⟨b,H3,e3,c3,hb⟩:=wU (N:=N) (by omega) (by omega) (by omega) t2 ((pk.chg c1).chg c2) (Dt.chg c2 (by simp) yt1);rw [b44,vJ,e3,aA];exact ⟨b,H3,rfl,c2.trans c3,fun h=>.inr (hb h)⟩
 obtain ⟨br,H2,e2,c2,hbr⟩:=hres;rw [e2,aA];have c12:=c1.trans c2;have cc:=c.trans c12;obtain ⟨a1,a2,a3,_,_,a8⟩:=rd c12;simp only [fA,Nat.zero_add,a1,bA,kA];rw [tD (by omega),aA]
 cases hn:eC nm with
 | false=>exact ⟨_,H2,rfl,cc,fun h=>by cases h⟩
 | true=>
 have z64:wB (Int.ofNat s1.len) 64=decide (lv.length<=64):=by rw [l1];exact lL _ 64
 simp only [cond_true,a2,bA,jA,z64]
 by_cases ql:lv.length<=64
 rotate_left
 ·simp only [ql,decide_false,cond_false]
  exact ⟨_,H2,rfl,cc,fun h=>by cases h⟩
 simp only [ql,decide_true,cond_true,a3,bA,jA];obtain ⟨bf,H3,e3,c3,hf⟩:=tAg (N:=N) (by omega) (mu:=true) t4 (by omega) (by omega) (pk.chg c12) (y2.chg c12 (by simp));have e3':f121 N s2 true H2=some (bf,H3):=e3;rw [e3',aA];have c13:=c12.trans c3
 cases bf with
 | false=>exact ⟨_,H3,rfl,c.trans c13,fun h=>by cases h⟩
 | true=>
 cases br with
 | false=>exact ⟨_,H3,rfl,c.trans c13,fun h=>by cases h⟩
 | true=>
 obtain ⟨_,_,_,_,_,a8⟩:=rd c13;simp only [cond_true,a8,bA,jA];obtain ⟨bb,H4,e4,c4,hbb⟩:=vAs hN 64 N bd s3 H3 V (by omega) (Nat.le_refl _) (by omega) (by omega) t5 (pk.chg c13) (y3.chg c13 (by simp));have e4':f125 N N s3 1 H3=some (bb,H4):=e4;rw [e4',aA];have c14:=c13.trans c4
 cases bb with
 | false=>exact ⟨_,H4,rfl,c.trans c14,fun h=>by cases h⟩
 | true=>
 obtain ⟨_,_,_,_,_,a8⟩:=rd c14;simp only [cond_true,a8,bA,jA];obtain ⟨nc,H5,e5,c5,hc5,_⟩:=wAs (N:=N) (V:=V) (wtL bd) N bd s3 H4 (Nat.le_refl _) (by omega) (by omega) (by omega) t5 (y3.chg c14 (by simp));have e5':f126 N N s3 H4=some ((nc:Int),H5):=e5;rw [e5',aA];have l2:wB (nc:Int) 2000=decide (nc<=2000):=lL nc 2000;rw [l2];refine ⟨_,H5,rfl,(c.trans c14).trans c5,fun hz=>⟨pub,nm,lv,ps,ty,bd,a,rfl,hn,⟨ql,hl⟩,hf rfl,hbr rfl,(hbb rfl).2,?_⟩⟩
 have:=hc5 64
 have:=of_decide_eq_true hz
 omega
theorem dA5 (hN:3001<=N) {R:zJ2} {xs:List D} (hx:∀ x∈xs,rSt x) (hw:wtL xs<=2000000) (hwN:wtL xs<N) {s:SL}:∀ (M i:Nat) (h:Heap),i<=xs.length->xs.length-i<M->PK h->Sl h V s xs->(∀ j,(hj:j<xs.length)->j<i->mH xs[j])->
  ∃ o b h',bY N M R false s (xs.length:Int) (i:Int) h=some (o,(R,b,()),h')/\Chg [] h h'/\((o=.exit 0/\b=false/\∀ y∈xs,mH y)\/(o=.ret/\b=false)):=by
 intro M
 induction M with
 | zero=>intro i h _ h;omega
 | succ M ih=>
  intro i h hi hM pk x hp;rw [cY];unfold qU;simp only [rB];have hll:=nC xs
  by_cases q:i<xs.length
  ·simp only [q,decide_true,cond_true]
   have hm:=List.getElem_mem q;have hwm:=lI hm;obtain ⟨r,g,d⟩:=vAi.elt x q (hx _ hm);rw [x.ix q 5,g,pAw];obtain ⟨h5,p5,c5,o5⟩:=vAi.park (z:=stc st0) rfl h r;have p5':∀ {β:Type} (K:Heap->Option β),bB ((h.push (.row [(.bool false),(.str []),(.slice none 0 0 0),(.slice none 0 0 0),(.int .i64 0)] .own)).store (h.next,0) [(.bool r.1),(.str r.2.1),(yL r.2.2.1),(yL r.2.2.2.1),(.int .i64 r.2.2.2.2.1)]) K=K h5:=p5;rw [p5',vAi.cells o5];obtain ⟨b,h6,e6,c6,hb⟩:=tAy (N:=N) (by omega) (hx _ hm) (by omega) (by omega) (pk.chg c5) (Dt.chg c5 (by simp) d);have e6':f79 N r h5=some (b,h6):=e6;rw [e6',aA];have c06:=c5.trans c6
   cases b with
   | false=>
    simp only [Bool.not_false,cond_true];exact ⟨_,_,h6,rfl,c06,.inr ⟨rfl,rfl⟩⟩
   | true=>
    simp only [Bool.not_true,cond_false];rw [aB (by omega)];obtain ⟨o,b',h',e',c',hh⟩:=ih (i+1) h6 q (by omega) (pk.chg c06) (x.chg c06 (by simp)) fun j hj hji=>by
     by_cases e:j=i
     ·subst e;exact hb rfl
     ·exact hp j hj (by omega)
    exact ⟨o,b',h',e',c06.trans c',hh⟩
  ·simp only [q,decide_false,cond_false]
   exact ⟨_,_,h,rfl,Chg.refl _ _,.inl ⟨rfl,rfl,fun y hy=>by
    obtain ⟨j,hj,rfl⟩:=List.getElem_of_mem hy;exact hp j hj (by omega)⟩⟩
theorem oAd (hN:3001<=N) {xs:List D} (hx:∀ x∈xs,rFu x) (hw:wtL xs<=2000000) (hwN:wtL xs<N) {s:SL}:∀ (M i:Nat) (h:Heap),i<=xs.length->xs.length-i<M->PK h->Sl h V s xs->(∀ j,(hj:j<xs.length)->j<i->nI xs[j])->
  ∃ o b h',yX N M false s (xs.length:Int) (i:Int) h=some (o,(b,()),h')/\Chg [] h h'/\((o=.exit 2/\∀ y∈xs,nI y)\/(o=.ret/\b=false)):=by
 intro M
 induction M with
 | zero=>intro i h _ h;omega
 | succ M ih=>
  intro i h hi hM pk x hp;rw [aY];unfold pU;simp only [rB];have hll:=nC xs
  by_cases q:i<xs.length
  ·simp only [q,decide_true,cond_true]
   have hm:=List.getElem_mem q;have hwm:=lI hm;obtain ⟨r,g,d⟩:=yAi.elt x q (hx _ hm);rw [x.ix q 10,g,qAw];obtain ⟨h5,p5,c5,o5⟩:=yAi.park (z:=fux (fuv (nAp false [] 0))) rfl h r;have p5':∀ {β:Type} (K:Heap->Option β),bB ((h.push (.row yZD .own)).store (h.next,0) (yRD r)) K=K h5:=p5;rw [p5',yAi.cells o5];obtain ⟨b,h6,e6,c6,hb⟩:=iAz hN (hx _ hm) (by omega) (by omega) (pk.chg c5) (Dt.chg c5 (by simp) d);have e6':f80 N (tF r) h5=some (b,h6):=e6;rw [e6',aA];have c06:=c5.trans c6
   cases b with
   | false=>
    simp only [Bool.not_false,cond_true];exact ⟨_,_,h6,rfl,c06,.inr ⟨rfl,rfl⟩⟩
   | true=>
    simp only [Bool.not_true,cond_false];rw [aB (by omega)];obtain ⟨o,b',h',e',c',hh⟩:=ih (i+1) h6 q (by omega) (pk.chg c06) (x.chg c06 (by simp)) fun j hj hji=>by
     by_cases e:j=i
     ·subst e;exact hb rfl
     ·exact hp j hj (by omega)
    exact ⟨o,b',h',e',c06.trans c',hh⟩
  ·simp only [q,decide_false,cond_false]
   exact ⟨_,_,h,rfl,Chg.refl _ _,.inl ⟨rfl,fun y hy=>by
    obtain ⟨j,hj,rfl⟩:=List.getElem_of_mem hy;exact hp j hj (by omega)⟩⟩
theorem jAz (hN:3001<=N) {xs ys:List D} (hx:∀ x∈xs,rSt x) (hy:∀ y∈ys,rFu y) (hw:wtL xs+wtL ys<=2000000) (hwN:wtL xs+wtL ys<N) (pk:PK h) {s1 s2:SL} (y1:Sl h V s1 xs) (y2:Sl h V s2 ys):∃ b h',f33 N (s1,s2,()) h=some (b,h')/\Chg [] h h'/\(b=true->xs.length+ys.length<=256/\(∀ x∈xs,mH x)/\∀ y∈ys,nI y):=by
 unfold f33;have o:=wA h [SL.av s1,SL.av s2];have c:=tA h (.row [SL.av s1,SL.av s2] .own);have e1:h.push (.row [(yL s1),(yL s2)] .own)=h.push (.row [SL.av s1,SL.av s2] .own):=rfl;dsimp only;rw [e1];have pk:=pk.chg c;have y1:=y1.chg c (by simp);have y2:=y2.chg c (by simp);generalize h.push (.row [SL.av s1,SL.av s2] .own)=H at *;have a0:H.cell (h.next,0)=some (yL s1):=o.cell 0;have a1:H.cell (h.next,1)=some (yL s2):=o.cell 1;have l1:s1.len=xs.length:=y1.len;have l2:s2.len=ys.length:=y2.len;have hl1:=nC xs;have hl2:=nC ys;have z:ltInt 256 (jB .i64 (Int.ofNat s1.len+Int.ofNat s2.len))=decide (256<xs.length+ys.length):=by
  rw [l1,l2];show ltInt 256 (jB .i64 ((xs.length:Int)+(ys.length:Int)))=_;rw [fD (by omega) (by omega)];exact rB 256 _
 simp only [Nat.zero_add,a0,a1,bA,jA,z]
 by_cases q:256<xs.length+ys.length
 ·simp only [q,decide_true,cond_true]
  exact ⟨_,H,rfl,c,fun h=>by cases h⟩
 simp only [q,decide_false,cond_false];obtain ⟨o1,b1,H1,e,c1,h1⟩:=dA5 hN (R:=some (h.next,0)) hx (by omega) (by omega) N 0 H (Nat.zero_le _) (by omega) pk y1 fun j _ h=>by omega
 rw [show ((0:Nat):Int)=0 from rfl,show (xs.length:Int)=Int.ofNat s1.len by rw [l1];rfl] at e;have e':bY N N (some (h.next,0)) false s1 (Int.ofNat s1.len) 0 H=some (o1,(some (h.next,0),b1,()),H1):=e;rw [e',kB];rcases h1 with ⟨rfl,rfl,h1⟩ | ⟨rfl,rfl⟩
 rotate_left
 ·exact ⟨_,H1,rfl,c.trans c1,fun h=>by cases h⟩
 have b1:H1.cell (h.next,1)=some (yL s2):=(o.chg c1 (by simp)).cell 1;simp only [bC,decide_true,cond_true,fA,Nat.zero_add,b1,bA,jA];obtain ⟨o2,b2,H2,e2,c2,h2⟩:=oAd hN hy (by omega) (by omega) N 0 H1 (Nat.zero_le _) (by omega) (pk.chg c1) (y2.chg c1 (by simp)) fun j _ h=>by omega
 rw [show ((0:Nat):Int)=0 from rfl,show (ys.length:Int)=Int.ofNat s2.len by rw [l2];rfl] at e2;have e2':yX N N false s2 (Int.ofNat s2.len) 0 H1=some (o2,(b2,()),H2):=e2;rw [e2',kB];rcases h2 with ⟨rfl,h2⟩ | ⟨rfl,rfl⟩
 ·exact ⟨_,H2,rfl,(c.trans c1).trans c2,fun _=>⟨by omega,h1,h2⟩⟩
 ·exact ⟨_,H2,rfl,(c.trans c1).trans c2,fun h=>by cases h⟩
end
end Qp
end Go.Proofs.YtkcjphhjmlienaaGreatDoor
