import Derived.Test.YtkcjphhjmlienaaGreatDoorXQp1
import Derived.Test.YtkcjphhjmlienaaGreatDoorProg
/- Functions of the program as plain functions, and what they come to; part 2. -/
namespace Go.Proofs.YtkcjphhjmlienaaGreatDoor
set_option linter.unusedVariables false
set_option linter.unusedSimpArgs false
open Go Ai Go.Proofs
namespace Qp
def PK (h:Heap):Prop:=Qk.pinned h=true/\6<=h.next/\(5,Qb.tabLoc)∈h.pins/\h.t.get 5=some (.row Qb.tab .ro)
theorem PK.chgM {h h':Heap} {M:List Nat} (x:PK h) (c:Chg M h h') (hM:∀ A∈M,6<=A):PK h':=by
 obtain ⟨h1,h2,h3,h4⟩:=x;have low:∀ A,A<6->h'.t.get A=h.t.get A:=fun A hA=>c.g A (by omega) (fun hm=>by have:=hM A hm;omega);refine ⟨?_,Nat.le_trans h2 c.next,by rw [c.pins];exact h3,by grind⟩;unfold Qk.pinned at h1 ⊢;rw [c.pins,low 4 (by omega)];exact h1
theorem PK.chg {h h':Heap} (x:PK h) (c:Chg [] h h'):PK h':=x.chgM c (by simp)
theorem tD {N:Nat} (hN:40<=N) (s:Bs) (h:Heap):f119 N s h=some (eC s,h):=by
 unfold f119
 cases s with
 | nil=>rfl
 | cons c r=>
  have e0:fB (c::r) []=false:=rfl;have e1:wB (Int.ofNat (c::r).length) 32=decide ((c::r).length<=32):=by
   grind [leI,decide,decide_eq_true,decide_eq_false]
  have e2:decide (1<=(c::r).length)=true:=by simp
  simp only [e0,Bool.not_false,cond_true,e1,eC,oD,e2,Bool.true_and]
  by_cases q:(c::r).length<=32
  ·rw [decide_eq_true q,cond_true,Bool.true_and]
   have sk:∀ {β:Type} (K:Int->Option β),iAp (c::r) 0 K=K (c.toNat:Int):=fun K=>uW (s:=c::r) (i:=0) (by simp) K;rw [sk,aAm,aA];show (bif pF c then _ else _)=some (pF c&&_&&_,h)
   cases pF c with
   | false=>rfl
   | true=>
    have f:=nAw (N:=N) (s:=c::r) (by omega) (by omega) (i:=0) (Nat.zero_le _) h;rw [show ((0:Nat):Int)=0 from rfl,List.drop_zero,Nat.zero_add] at f;rw [cond_true,f,aA,Bool.true_and];have e3:eA ((runN (c::r):Nat):Int) (Int.ofNat (c::r).length)=decide (runN (c::r)=(c::r).length):=by
     grind [eqI,decide,runN,decide_eq_true,decide_eq_false]
    simp only [e3]
    by_cases q2:runN (c::r)=(c::r).length
    ·rw [decide_eq_true q2,cond_true,cAb,aA,Bool.true_and]
    grind
  grind
theorem bAc {N:Nat} (hN:40<=N) {s:Bs} (hs:oD s=true) (h:Heap):f122 N s h=some (true,h):=by
 unfold f122;rw [tD hN,aA];unfold eC;rw [hs,Bool.true_and,cAb];cases isWord s <;> rfl
section
variable {N:Nat} {h:Heap} {V:Nat->Prop}
theorem aB4 {n:Nat} (h:n<=64):wB (Int.ofNat n) 64=true:=by rw [leI,decide_eq_true_eq];grind
theorem iA3 (hN:40<=N) {s:SL} {xs:List Bs} (x:Sl h V s (xs.map D.s)) (hx:∀ y∈xs,oD y=true) (hl:xs.length<=100):∀ (M i:Nat),i<=xs.length->xs.length-i<M->lX N M s false s (xs.length:Int) (i:Int) h=some (.exit 0,(s,false,()),h):=by
 intro M
 induction M with
 | zero=>intro i _ h;omega
 | succ M ih=>
  intro i hi hM;rw [wS];unfold lQ;simp only [rB]
  by_cases q:i<xs.length
  ·simp only [q,decide_true,cond_true]
   have q':i<(xs.map D.s).length:=by grind
   rw [x.ix q' 1,vE x q];simp only [bA,kA];rw [bAc hN (hx _ (List.getElem_mem q)),aA];simp only [Bool.not_true,cond_false]
   grind [aB]
  grind
theorem jA3 (hN:200<=N) {s:SL} {xs:List Bs} (x:Sl h V s (xs.map D.s)) (hx:lAr 64 xs):f120 N s h=some (true,h):=by
 unfold f120;have l1:s.len=xs.length:=by rw [x.len,List.length_map]
 have hle:=hx.1
 have:=iA3 (N:=N) (by omega) x hx.2 (by omega) N 0 (Nat.zero_le _) (by omega)
 rw [show ((0:Nat):Int)=0 from rfl] at this;rw [l1,show Int.ofNat xs.length=(xs.length:Int) from rfl,this];simp only [kB,bC,decide_true,cond_true,l1,aB4 hx.1]
end
theorem aK {x:Bs} (h:eC x=true):∀ c∈x,c≠58:=fun c hc e=>by
 simp only [eC,Bool.and_eq_true] at h;obtain ⟨_,_,_,_,hg,_⟩:=fAb h.1
 have:=hg c hc
 rw [e] at this;cases this
theorem tAf {x r:Bs} (h:∀ c∈x,c≠58) {j:Nat} (hj:j<x.length):Lib.occAt (x++r) [58,58] j=false:=by
 grind [Lib.occAt,List.drop_eq_getElem_cons,List.getElem_mem,List.isPrefixOf]
theorem qAr {x:Bs} (h:∀ c∈x,c≠58):Lib.cut x [58,58]=(x,[],false):=by
 have e:Lib.index x [58,58] = -1:=Lib.index_none fun j hj=>by
  by_cases q:j<x.length
  ·have:=tAf (r:=[]) h q
   grind
  grind [Lib.occAt]
 unfold Lib.cut;rw [e];rfl
theorem mAx {a b:Bs} (h:∀ c∈a,c≠58):Lib.cut (a++[58,58]++b) [58,58]=(a,b,true):=by
 have e:Lib.index (a++[58,58]++b) [58,58]=(a.length:Int):=Lib.index_first (i:=a.length) (by simp) (by simp [Lib.occAt,List.isPrefixOf]) (fun j hj=>by
  grind [List.append_assoc,tAf])
 unfold Lib.cut;rw [e,if_pos (by omega)];have e1:((a.length:Int)).toNat=a.length:=rfl;rw [e1];have e2:(a++[58,58]++b).take a.length=a:=by rw [List.append_assoc];exact List.take_left' rfl
 have e3:(a++[58,58]++b).drop (a.length + [58,58].length)=b:=List.drop_left' (by simp);rw [e2];exact Prod.ext rfl (Prod.ext e3 rfl)
section
variable {N:Nat} {h:Heap} {V:Nat->Prop}
theorem dAn (hN:40<=N) {x:Bs} (hx:nL x) (pk:PK h):f173 N x h=some (true,h):=by
 have hb:(Qk.pinned h&&Nat.blt x.length 4294967281)=true:=by
  rw [pk.1,Bool.true_and,Nat.blt_eq]
  have:=qE hx;omega
 unfold f173 f196 Qk.iB0;rw [hb,cond_true,aA];rcases hx with hx | ⟨a,b,rfl,h1,h2⟩
 ·rw [qAr (aK hx)]
  simp only [tD hN,aA,hx,cond_true,Bool.not_false]
 ·rw [mAx (aK h1)]
  simp only [tD hN,aA,h1,h2,cond_true,Bool.not_true,cond_false]
theorem cAc {k:Int} {s1 s2:SL} (h1:s1.len=0) (h2:s2.len=0):∃ h',f123 N (k,[],s1,s2,()) h=some (true,h')/\Chg [] h h':=by
 unfold f123;have o:=wA h (tyc (k,[],s1,s2,()));have c:=tA h (.row (tyc (k,[],s1,s2,())) .own);have e1:h.push (.row [(.int .i64 k),(.str []),(yL s1),(yL s2)] .own)=h.push (.row (tyc (k,[],s1,s2,())) .own):=rfl;dsimp only;rw [e1];generalize h.push (.row (tyc (k,[],s1,s2,())) .own)=H at *;have a1:H.cell (h.next,1)=some (.str []):=o.cell 1;have a2:H.cell (h.next,2)=some (yL s1):=o.cell 2;have a3:H.cell (h.next,3)=some (yL s2):=o.cell 3;simp only [Nat.zero_add,a1,bA,kA,eqB.2,cond_true,a2,jA,h1,a3,h2];exact ⟨H,rfl,c⟩
theorem nAx (hN:200<=N):∀ (g M:Nat) (h:Heap) (r:TyV) (p:PT) (V:Nat->Prop),g<=M->g<=64->p.ok g->PK h->Dt h V p.D (tyc r)->∃ h',f124 N M r ((65-g:Nat):Int) h=some (true,h')/\Chg [] h h':=by
 intro g
 induction g with
 | zero=>intro M h r p V _ _ hp;exact hp.elim
 | succ g ih=>
  intro M h r p V hM hg hp pk x;obtain ⟨M,rfl⟩:∃ m,M=m+1:=⟨M-1,by omega⟩;obtain ⟨k,y,s1,s2,⟨⟩⟩:=r;rw [mX];unfold dA8;have o:=wA h (tyc (k,y,s1,s2,()));have c:=tA h (.row (tyc (k,y,s1,s2,())) .own);have e1:h.push (.row [(.int .i64 k),(.str y),(yL s1),(yL s2)] .own)=h.push (.row (tyc (k,y,s1,s2,())) .own):=rfl;dsimp only;rw [e1];have pk1:=pk.chg c;have x1:=Dt.chg c (by simp) x;generalize h.push (.row (tyc (k,y,s1,s2,())) .own)=H at *;have z:ltInt 64 ((65-(g+1):Nat):Int)=false:=by grind [ltI,decide_eq_false_iff_not]
  have a0:H.cell (h.next,0)=some (.int .i64 k):=o.cell 0;have a1:H.cell (h.next,1)=some (.str y):=o.cell 1;have a2:H.cell (h.next,2)=some (yL s1):=o.cell 2;have a3:H.cell (h.next,3)=some (yL s2):=o.cell 3;have aa:H.cells (h.next,0) 4=some (.agg (tyc (k,y,s1,s2,()))):=o.cells (j:=0) (m:=4) (Nat.le_refl _);simp only [z,cond_false,Nat.zero_add,a0,bA,vA]
  cases p with
  | int=>
   obtain ⟨t1,t2,hc,y1,y2⟩:=qF.1 (show Dt H V (tyD 1 [] [] []) _ from x1);have er:=(qO 1).inj hc;simp only [Prod.mk.injEq,and_true] at er;obtain ⟨rfl,rfl,rfl,rfl⟩:=er;have b3:eA 1 3=false:=rfl;have b4:eA 1 4=false:=rfl;have b5:eA 1 5=false:=rfl;have b1:eA 1 1=true:=rfl;simp only [b3,b4,b5,b1,cond_false,cond_true,aA,fA];rw [aa,vJ];obtain ⟨h',e,c'⟩:=cAc (N:=N) (h:=H) (k:=1) y1.len y2.len;rw [e,aA];exact ⟨h',rfl,c.trans c'⟩
  | bool=>
   obtain ⟨t1,t2,hc,y1,y2⟩:=qF.1 (show Dt H V (tyD 2 [] [] []) _ from x1);have er:=(qO 1).inj hc;simp only [Prod.mk.injEq,and_true] at er;obtain ⟨rfl,rfl,rfl,rfl⟩:=er;have b3:eA 2 3=false:=rfl;have b4:eA 2 4=false:=rfl;have b5:eA 2 5=false:=rfl;have b1:eA 2 1=false:=rfl;have b2:eA 2 2=true:=rfl;simp only [b3,b4,b5,b1,b2,cond_false,cond_true,aA,fA];rw [aa,vJ];obtain ⟨h',e,c'⟩:=cAc (N:=N) (h:=H) (k:=2) y1.len y2.len;rw [e,aA];exact ⟨h',rfl,c.trans c'⟩
  | st nm lv=>
   obtain ⟨t1,t2,hc,y1,y2⟩:=qF.1 (show Dt H V (tyD 3 nm lv []) _ from x1);have er:=(qO 1).inj hc;simp only [Prod.mk.injEq,and_true] at er;obtain ⟨rfl,rfl,rfl,rfl⟩:=er;have b3:eA 3 3=true:=rfl;simp only [b3,cond_true,a1,bA,kA];rw [dAn (by omega) hp.1 pk1,aA,cond_true];simp only [a2,bA,jA];rw [jA3 hN y1 ⟨hp.2.1,hp.2.2⟩,aA,cond_true];have l0:s2.len=0:=y2.len;simp only [a3,bA,jA,l0];exact ⟨H,rfl,c⟩
  | ref mu lv t=>
   obtain ⟨t1,t2,hc,y1,y2⟩:=qF.1 (show Dt H V (tyD (if mu=true then 5 else 4) [] lv [t.D]) _ from x1);have er:=(qO 1).inj hc;simp only [Prod.mk.injEq,and_true] at er;obtain ⟨rfl,rfl,rfl,rfl⟩:=er;have b3:eA (if mu=true then 5 else 4) 3=false:=by cases mu <;> rfl
   have bj:∀ {β:Type} (K:zJ1->Heap->Option β),(mA (bif eA (if mu=true then 5 else 4) 4 then some ((((65-(g+1):Nat):Int),some (h.next,0),(if mu=true then (5:Int) else 4),eA (if mu=true then 5 else 4) 4,()),H) else some ((((65-(g+1):Nat):Int),some (h.next,0),(if mu=true then (5:Int) else 4),eA (if mu=true then 5 else 4) 5,()),H)) K)=K (((65-(g+1):Nat):Int),some (h.next,0),(if mu=true then 5 else 4),true,()) H:=by
    intro β K;cases mu <;> rfl
   simp only [b3,cond_false];rw [bj];have l1:wB (Int.ofNat s1.len) 1=true:=by
    rw [leI,decide_eq_true_eq];show (s1.len:Int)<=1
    have:=hp.1
    have e:=y1.len
    grind
   have l2:s2.len=1:=y2.len;have b1:eA (Int.ofNat 1) 1=true:=rfl;simp only [cond_true,fA,Nat.zero_add,a1,bA,kA,eqB.2,a2,jA,l1];rw [jA3 hN y1 ⟨Nat.le_trans hp.1 (by decide),hp.2.1⟩,aA,cond_true];simp only [a3,bA,jA,l2,b1,cond_true];have hi:0 < [t.D].length:=by simp
   have hix:∀ {β:Type} (K:Nat×Nat->Option β),ixK s2.a 1 ((0:Nat):Int) 4 K=K (s2.at 0 4):=fun K=>by
    have:=y2.ix hi 4 K
    rwa [l2] at this
   rw [show (0:Int)=((0:Nat):Int) from rfl,hix];obtain ⟨r1,hr1,d1⟩:=(qO g).elt y2 hi (eAr hp.2.2);rw [hr1,vJ];have ew:jB .i64 (((65-(g+1):Nat):Int)+1)=((65-g:Nat):Int):=by
    grind [aB]
   rw [ew];obtain ⟨h',e,c'⟩:=ih M H r1 t V (by omega) (by omega) hp.2.2 pk1 d1;have e':f124 N M r1 ((65-g:Nat):Int) H=some (true,h'):=e;rw [e',aA];exact ⟨h',rfl,c.trans c'⟩
theorem kA3 (hN:200<=N) {r:TyV} {d:D} (hp:dG 64 d) (pk:PK h) (x:Dt h V d (tyc r)):∃ h',f124 N N r 1 h=some (true,h')/\Chg [] h h':=by
 obtain ⟨p,rfl,hp⟩:=hp;obtain ⟨h',e,c⟩:=nAx hN 64 N h r p V (by omega) (Nat.le_refl _) hp pk x;exact ⟨h',e,c⟩
theorem jN {g:Nat} {d:D} (h:dG g d):isTy (g+1) d:=by
 obtain ⟨p,rfl,hp⟩:=h;exact (eAr hp).up (Nat.le_succ _)
theorem uQ {mu:Bool} {d:D} (h:wE mu d):isFd d:=by
 obtain ⟨m,nm,ty,rfl,_,_,ht⟩:=h;exact ⟨m,nm,ty,rfl,jN ht⟩
theorem jZ (hN:200<=N) {mu:Bool} {xs:List D} (hx:∀ x∈xs,wE mu x) (hl:xs.length<=100) {s:SL}:∀ (M i:Nat) (h:Heap),i<=xs.length->xs.length-i<M->PK h->Sl h V s xs->∃ h',rO N M s mu false s (xs.length:Int) (i:Int) h=some (.exit 0,(s,false,()),h')/\Chg [] h h':=by
 intro M
 induction M with
 | zero=>intro i h _ h;omega
 | succ M ih=>
  intro i h hi hM pk x;rw [aT];unfold mQ;simp only [rB]
  by_cases q:i<xs.length
  ·simp only [q,decide_true,cond_true]
   have hm:=hx _ (List.getElem_mem q);obtain ⟨r,g,d⟩:=nAb.elt x q (uQ hm);rw [x.ix q 6,g,lB2];obtain ⟨h5,p5,c5,o5⟩:=nAb.park (z:=fdc fd0) rfl h r;have p5':∀ {β:Type} (K:Heap->Option β),bB ((h.push (.row [(.bool false),(.str []),(.int .i64 0),(.str []),(.slice none 0 0 0),(.slice none 0 0 0)] .own)).store (h.next,0) [(.bool r.1),(.str r.2.1),(.int .i64 r.2.2.1),(.str r.2.2.2.1),(yL r.2.2.2.2.1),(yL r.2.2.2.2.2.1)]) K=K h5:=p5;rw [p5'];have d5:=Dt.chg c5 (by simp) d;have pk5:=pk.chg c5;obtain ⟨m,nm,ty,hd,hmu,hn,ht⟩:=hm;rw [hd] at d5;obtain ⟨q1,hc1,y1⟩:=pAf (jN ht) d5;obtain rfl:=nAb.inj hc1;have a0:h5.cell (h.next,0)=some (.bool m):=o5.cell 0;have a1:h5.cell (h.next,1)=some (.str nm):=o5.cell 1;have aa:h5.cells (h.next,2) 4=some (.agg (tyc q1)):=o5.cells (j:=2) (m:=4) (Nat.le_refl _);obtain ⟨h6,e6,c6⟩:=kA3 hN ht pk5 y1;have c06:=c5.trans c6;obtain ⟨h',e',c'⟩:=ih (i+1) h6 q (by omega) (pk.chg c06) (x.chg c06 (by simp));simp only [Nat.zero_add,a0,bA,uB]
   cases m with
   | true=>
    rw [hmu rfl] at e' ⊢;simp only [cond_true,Bool.not_true,cond_false,a1,bA,kA];rw [tD (by omega),aA,hn];simp only [Bool.not_true,cond_false];rw [aa,vJ,e6,aA];simp only [Bool.not_true,cond_false];rw [aB (by omega)];exact ⟨h',e',c06.trans c'⟩
   | false=>
    simp only [cond_false,a1,bA,kA];rw [tD (by omega),aA,hn];simp only [Bool.not_true,cond_false];rw [aa,vJ,e6,aA];simp only [Bool.not_true,cond_false];rw [aB (by omega)];exact ⟨h',e',c06.trans c'⟩
  ·simp only [q,decide_false,cond_false]
   exact ⟨h,rfl,Chg.refl _ _⟩
theorem eAn (hN:200<=N) {mu:Bool} {xs:List D} (hx:mJ 64 (wE mu) xs) {s:SL} (pk:PK h) (x:Sl h V s xs):∃ h',f121 N s mu h=some (true,h')/\Chg [] h h':=by
 unfold f121;have l1:s.len=xs.length:=x.len;have hle:=hx.1;obtain ⟨h',e,c⟩:=jZ hN hx.2 (by omega) N 0 h (Nat.zero_le _) (by omega) pk x;rw [show ((0:Nat):Int)=0 from rfl] at e;rw [l1,show Int.ofNat xs.length=(xs.length:Int) from rfl,e];simp only [kB,bC,decide_true,cond_true,l1,aB4 hx.1];exact ⟨h',rfl,c⟩
theorem bB4 (hN:200<=N) {d:D} (hd:mH d) {r:StV} (pk:PK h) (x:Dt h V d (stc r)):∃ h',f79 N r h=some (true,h')/\Chg [] h h':=by
 obtain ⟨pub,nm,lv,fs,a,rfl,hn,hlv,hfs⟩:=hd;obtain ⟨s1,s2,hc,y1,y2⟩:=fX x;obtain rfl:=gX.inj hc;unfold f79;have o:=wA h (stc (pub,nm,s1,s2,(a:Int),()));have c:=tA h (.row (stc (pub,nm,s1,s2,(a:Int),())) .own);have e1:h.push (.row [(.bool pub),(.str nm),(yL s1),(yL s2),(.int .i64 (a:Int))] .own)=h.push (.row (stc (pub,nm,s1,s2,(a:Int),())) .own):=rfl;dsimp only;rw [e1];have pk1:=pk.chg c;have y1:=y1.chg c (by simp);have y2:=y2.chg c (by simp);generalize h.push (.row (stc (pub,nm,s1,s2,(a:Int),())) .own)=H at *;have a1:H.cell (h.next,1)=some (.str nm):=o.cell 1;have a2:H.cell (h.next,2)=some (yL s1):=o.cell 2;have a3:H.cell (h.next,3)=some (yL s2):=o.cell 3;simp only [Nat.zero_add,a1,bA,kA];rw [tD (by omega),aA,hn,cond_true];simp only [a2,bA,jA];rw [jA3 hN y1 hlv,aA,cond_true];simp only [a3,bA,jA];obtain ⟨h',e,c'⟩:=eAn hN hfs pk1 y2;rw [e,aA];exact ⟨h',rfl,c.trans c'⟩
end
end Qp
namespace Qp
abbrev tV (v:VaV):VaV:=v
abbrev oV:VaV:=(0,0,0,[],⟨none,0,0,0⟩,0,0,[],⟨none,0,0,0⟩,0,[],⟨none,0,0,0⟩,[],⟨none,0,0,0⟩,⟨none,0,0,0⟩,())
abbrev yV:VTy:=.agg [(.int .i64),(.int .i64),(.int .i64),.str,.slice,(.int .i64),(.int .i64),.str,.slice,(.int .i64),.str,.slice,.str,.slice,.slice]
section
variable {N:Nat} {h:Heap} {V:Nat->Prop}
theorem gA8 (hN:40<=N) {R:zJ2} {s:SL} {xs:List Bs} (x:Sl h V s (xs.map D.s)) (hx:∀ y∈xs,jQ y) (hl:xs.length<=100):∀ (M i:Nat),i<=xs.length->xs.length-i<M->eM N M R false s (xs.length:Int) (i:Int) h=some (.exit 0,(R,false,()),h):=by
 intro M
 induction M with
 | zero=>intro i _ h;omega
 | succ M ih=>
  intro i hi hM;rw [bT];unfold nQ;simp only [rB]
  by_cases q:i<xs.length
  ·simp only [q,decide_true,cond_true]
   have q':i<(xs.map D.s).length:=by grind
   rw [x.ix q' 1,vE x q];simp only [bA,kA];have hs:=hx _ (List.getElem_mem q)
   cases he:fB xs[i] [42] with
   | true=>
    simp only [Bool.not_true,cond_false]
    grind [aB]
   | false=>
    have hn:eC xs[i]=true:=by
     rcases hs with hs | hs
     ·rw [hs] at he;cases he
     ·exact hs
    simp only [Bool.not_false,cond_true];rw [tD hN,aA,hn];simp only [Bool.not_true,cond_false]
    grind [aB]
  grind
theorem lA3 (hN:200<=N) {d:D} (hd:lH d) {r:LfV} (x:Dt h V d (lfc r)):∃ h',f198 N (r.1,r.2.1,()) h=some (true,h')/\Chg [] h h':=by
 obtain ⟨nm,xs,rfl,hn,hp⟩:=hd;obtain ⟨s,hc,y⟩:=iG x;obtain rfl:=tR.inj hc;unfold f198;have o:=wA h (lfc (nm,s,()));have c:=tA h (.row (lfc (nm,s,())) .own);have e1:h.push (.row [(.str nm),(yL s)] .own)=h.push (.row (lfc (nm,s,())) .own):=rfl;dsimp only;rw [e1];have y:=y.chg c (by simp);generalize h.push (.row (lfc (nm,s,())) .own)=H at *;have a0:H.cell (h.next,0)=some (.str nm):=o.cell 0;have a1:H.cell (h.next,1)=some (yL s):=o.cell 1;have l1:s.len=xs.length:=by rw [y.len,List.length_map]
 have hle:=hp.1;have lp:=gA8 (N:=N) (by omega) (R:=some (h.next,0)) y hp.2 (by omega) N 0 (Nat.zero_le _) (by omega);rw [show ((0:Nat):Int)=0 from rfl,show (xs.length:Int)=Int.ofNat s.len by rw [l1];rfl] at lp;have lp':eM N N (some (h.next,0)) false s (Int.ofNat s.len) 0 H=some (.exit 0,(some (h.next,0),false,()),H):=lp;simp only [Nat.zero_add,a1,bA,jA];rw [lp'];simp only [kB,bC,decide_true,cond_true,fA,a0,Nat.zero_add,bA,kA];rw [tD (by omega),aA,hn];simp only [cond_true,a1,bA,jA];rw [l1,aB4 hp.1];exact ⟨H,rfl,c⟩
theorem oAx {nm:Bs} (hn:nm≠[]) {s1 s2:SL}:∃ h',f164 N (nm,s1,()) ([],s2,()) h=some (false,h')/\Chg [] h h':=by
 unfold f164;have o1:=wA h [(.str nm),(yL s1)];have c1:=tA h (.row [(.str nm),(yL s1)] .own);dsimp only;generalize h.push (.row [(.str nm),(yL s1)] .own)=h1 at *;have o2:=wA h1 [(.str []),(yL s2)];have c2:=tA h1 (.row [(.str []),(yL s2)] .own);have o1:=o1.chg c2 (by simp);generalize h1.push (.row [(.str []),(yL s2)] .own)=h2 at *;have a0:h2.cell (h.next,0)=some (.str nm):=o1.cell 0;have b0:h2.cell (h1.next,0)=some (.str []):=o2.cell 0;have e:fB nm []=false:=by
  cases nm with
  | nil=>exact absurd rfl hn
  | cons c r=>rfl
 simp only [Nat.zero_add,a0,b0,bA,kA,e,cond_false];exact ⟨h2,rfl,c1.trans c2⟩
theorem vG {d:D} (h:lH d):isLf d:=by
 obtain ⟨nm,xs,rfl,_,hp⟩:=h;exact ⟨nm,xs,rfl,Nat.le_trans hp.1 (by decide)⟩
theorem iC {d:D} (h:qC d):isOp d:=by
 rcases h with ⟨n,rfl,_⟩ | ⟨n,_,rfl⟩ | ⟨p,rfl,hp⟩
 ·exact ⟨_,_,_,rfl,eF⟩
 ·exact ⟨_,_,_,rfl,eF⟩
 ·exact ⟨_,_,_,rfl,vG hp⟩
theorem rAr {x:Bs} (h:eC x=true):x≠[]:=fun e=>by rw [e] at h;cases h
theorem dAc (hN:3001<=N) {d:D} (hd:qC d) {r:OpV} (x:Dt h V d (opc r)):∃ h',f200 N r h=some (true,h')/\Chg [] h h':=by
 have hi:=iC hd;obtain ⟨k,n,pl,rfl,tp⟩:=hi;obtain ⟨p,hc,y⟩:=aO tp x;obtain rfl:=lJ.inj hc;unfold f200;have o:=wA h (opc (k,n,p.1,p.2.1,()));have c:=tA h (.row (opc (k,n,p.1,p.2.1,())) .own);have e1:h.push (.row [(.int .i64 k),(.int .i64 n),(.str p.1),(yL p.2.1)] .own)=h.push (.row (opc (k,n,p.1,p.2.1,())) .own):=rfl;dsimp only;rw [e1];have y:=Dt.chg c (by simp) y;generalize h.push (.row (opc (k,n,p.1,p.2.1,())) .own)=H at *;have aa:H.cells (h.next,2) 2=some (.agg (lfc p)):=o.cells (j:=2) (m:=2) (Nat.le_refl _)
 try simp only [Nat.zero_add]
 rw [aa,jH];have fin0:∀ (hpl:pl=pl0),∃ H',f164 N (p.1,p.2.1,()) ([],⟨none,0,0,0⟩,()) H=some (true,H')/\Chg [] H H':=fun hpl=>by
  subst hpl;obtain ⟨s,hc,z⟩:=iG y;obtain rfl:=tR.inj hc;exact pAm (xs:=[]) z (Sl.nil H V 0) (by simp) (by simp;omega)
 have rd:∀ {H':Heap},Chg [] H H'->H'.cell (h.next,0)=some (.int .i64 k)/\H'.cell (h.next,1)=some (.int .i64 n)/\H'.cells (h.next,2) 2=some (.agg (lfc p)):=fun c'=>by
  have o':=o.chg c' (by simp);exact ⟨o'.cell 0,o'.cell 1,o'.cells (j:=2) (m:=2) (Nat.le_refl _)⟩
 have dinj:∀ {k' n':Int} {pl':D},opD k n pl=opD k' n' pl'->k=k'/\n=n'/\pl=pl':=fun e=>by
  simp only [opD,D.t.injEq,List.cons.injEq,D.i.injEq,and_true] at e;exact e
 rcases hd with ⟨m,he,hm⟩ | ⟨m,hm,he⟩ | ⟨q,he,hq⟩
 ·obtain ⟨rfl,rfl,rfl⟩:=dinj he
  obtain ⟨H',e,c'⟩:=fin0 rfl;obtain ⟨a0,a1,a2⟩:=rd c';have e':f164 N (p.1,p.2.1,()) ([],⟨none,0,0,0⟩,()) H=some (true,H'):=e;rw [e',aA];have z1:eA 1 1=true:=rfl;have z2:wB 0 (m:Int)=true:=by rw [leI,decide_eq_true_eq];omega
  have z3:wB (m:Int) 2147483647=true:=by rw [leI,decide_eq_true_eq];omega
  simp only [a0,a1,bA,vA,z1,z2,z3,cond_true];exact ⟨H',rfl,c.trans c'⟩
 ·obtain ⟨rfl,rfl,rfl⟩:=dinj he
  obtain ⟨H',e,c'⟩:=fin0 rfl;obtain ⟨a0,a1,a2⟩:=rd c';have e':f164 N (p.1,p.2.1,()) ([],⟨none,0,0,0⟩,()) H=some (true,H'):=e;rw [e',aA];have z1:eA 2 1=false:=rfl;have z2:eA 2 2=true:=rfl;rcases hm with rfl | rfl
  ·have z3:eA 0 0=true:=rfl
   simp only [a0,a1,bA,vA,z1,z2,z3,cond_true,cond_false];exact ⟨H',rfl,c.trans c'⟩
  ·have z3:eA 1 0=false:=rfl
   have z4:eA 1 1=true:=rfl;simp only [a0,a1,bA,vA,z1,z2,z3,z4,cond_true,cond_false];exact ⟨H',rfl,c.trans c'⟩
 ·obtain ⟨rfl,rfl,rfl⟩:=dinj he
  have hne:p.1≠[]:=by
   obtain ⟨nm,xs,rfl,hn,_⟩:=hq;obtain ⟨s,hc,z⟩:=iG y;obtain rfl:=tR.inj hc;exact rAr hn
  obtain ⟨H',e,c'⟩:=oAx (N:=N) (h:=H) hne (s1:=p.2.1) (s2:=⟨none,0,0,0⟩);obtain ⟨a0,a1,a2⟩:=rd c';rw [e,aA];have z1:eA 3 1=false:=rfl;have z2:eA 3 2=false:=rfl;have z3:eA 3 3=true:=rfl;have z4:eA 0 0=true:=rfl;simp only [a0,a1,bA,vA,z1,z2,z3,z4,cond_true,cond_false];rw [a2,jH];obtain ⟨H2,e2,c2⟩:=lA3 (N:=N) (by omega) hq (Dt.chg c' (by simp) y);rw [e2,aA];exact ⟨H2,rfl,(c.trans c').trans c2⟩
theorem pAx (hN:3001<=N) {d:D} (hd:qC d) {r:OpV} (x:Dt h V d (opc r)):∃ h',f229 N r h=some (false,h')/\Chg [] h h':=by
 unfold f229;have o:=wA h (opc r);have c:=tA h (.row (opc r) .own);have e1:h.push (.row [(.int .i64 r.1),(.int .i64 r.2.1),(.str r.2.2.1),(yL r.2.2.2.1)] .own)=h.push (.row (opc r) .own):=rfl;dsimp only;rw [e1];have x:=Dt.chg c (by simp) x;generalize h.push (.row (opc r) .own)=H at *;have aa:H.cells (h.next,0) 4=some (.agg (opc r)):=o.cells (j:=0) (m:=4) (Nat.le_refl _);rw [aa,dH];obtain ⟨H',e,c'⟩:=dAc hN hd x;rw [e,aA];exact ⟨H',rfl,c.trans c'⟩
theorem mA3 (hN:3001<=N) {xs:List D} (hx:∀ x∈xs,qC x) (hl:xs.length<=100) {s:SL}:∀ (M i:Nat) (h:Heap),i<=xs.length->xs.length-i<M->Sl h V s xs->∃ h',kI N M s () 0 (xs.length:Int) (i:Int) h=some (.exit 0,(0,()),h')/\Chg [] h h':=by
 intro M
 induction M with
 | zero=>intro i h _ h;omega
 | succ M ih=>
  intro i h hi hM x;rw [mL];unfold nH;simp only [rB]
  by_cases q:i<xs.length
  ·simp only [q,decide_true,cond_true]
   have hm:=hx _ (List.getElem_mem q);obtain ⟨r,g,d⟩:=lJ.elt x q (iC hm);rw [x.ix q 4,g,dH];obtain ⟨h6,e6,c6⟩:=pAx hN hm d;rw [e6,aA];simp only [cond_false];rw [aB (by omega)];obtain ⟨h',e',c'⟩:=ih (i+1) h6 q (by omega) (x.chg c6 (by simp));exact ⟨h',e',c6.trans c'⟩
  ·simp only [q,decide_false,cond_false]
   exact ⟨h,rfl,Chg.refl _ _⟩
theorem qAx (hN:3001<=N) {xs:List D} (hx:mJ 64 qC xs) {s:SL} (x:Sl h V s xs):∃ h',f216 N s h=some (true,h')/\Chg [] h h':=by
 unfold f216 nU mU;have l1:s.len=xs.length:=x.len;have hle:=hx.1;obtain ⟨h',e,c⟩:=mA3 hN hx.2 (by omega) N 0 h (Nat.zero_le _) (by omega) x;rw [show ((0:Nat):Int)=0 from rfl] at e;simp only [l1,aB4 hx.1,cond_true];rw [show Int.ofNat xs.length=(xs.length:Int) from rfl,e];simp only [kB,aA,bC,decide_true,cond_true];exact ⟨h',rfl,c⟩
theorem gF {r r':VaV} (h:vac r=vac r'):r=r':=by
 have h1:=pN r (fun x=>some x)
 grind [pN,Option.some.inj]
theorem rAx (hN:3001<=N) {z:VaV} (x:Dt h V va00 (vac z)):∃ h',f165 N z va0 h=some (true,h')/\Chg [] h h':=oAb kX x (pA0 h V) hN (Chg.refl _ _)
theorem nA3 (hN:40<=N) {P Q:zJ2} {s:SL} {xs:List Bs} (x:Sl h V s (xs.map D.s)) (hx:∀ y∈xs,eC y=true) (hl:xs.length<=100):∀ (M i:Nat),i<=xs.length->xs.length-i<M->tO N M P true Q s (xs.length:Int) (i:Int) h=some (.exit 7,(P,true,Q,()),h):=by
 intro M
 induction M with
 | zero=>intro i _ h;omega
 | succ M ih=>
  intro i hi hM;rw [eT];unfold pQ;simp only [rB]
  by_cases q:i<xs.length
  ·simp only [q,decide_true,cond_true]
   have q':i<(xs.map D.s).length:=by grind
   rw [x.ix q' 1,vE x q]
   grind [bA,kA,tD,aA,List.getElem_mem,aB]
  grind
theorem eAc (hN:3001<=N) {d:D} (hd:mayVa d) {r:VaV} (pk:PK h) (x:Dt h V d (vac r)):∃ h',f199 N (tV r) h=some (true,h')/\Chg [] h h':=by
 unfold f199;have x:=Dt.weak (W:=fun A=>A<h.next) (fun A _ hl=>hl) x;have pk0:=pk;have o:=wA h (vac r);have c:=tA h (.row (vac r) .own);have e1:h.push (.row (yRB r) .own)=h.push (.row (vac r) .own):=rfl;dsimp only;rw [e1];have x:=Dt.chg c (by simp) x;have pk:=pk.chg c;generalize h.push (.row (vac r) .own)=H1 at *;have aa:H1.cells (h.next,0) 15=some (.agg (vac r)):=o.cells (j:=0) (m:=15) (Nat.le_refl _);rw [aa,pN];have oz:=wA H1 (vac va0);have cz:=tA H1 (.row (vac va0) .own);have nz:(H1.push (.row (vac va0) .own)).next=H1.next+1:=rfl;have hst:(H1.push (.row (vac va0) .own)).store (H1.next,0) (vac r)=some ((H1.push (.row (vac va0) .own)).put H1.next (.row (vac r) .own)):=oz.store rfl;obtain ⟨H2,hH2⟩:∃ H2,H2=(H1.push (.row (vac va0) .own)).put H1.next (.row (vac r) .own):=⟨_,rfl⟩;have w:W1 H1 H2 (vac r):=by rw [hH2];exact ⟨kJ oz _,cz.put (.inr (Nat.le_refl _)) _,Nat.le_refl _⟩
 rw [<- hH2] at hst;have hz:∀ {β:Type} (K:Heap->Option β),bB ((H1.push (.row yZB .own)).store (H1.next,0) (yRB r)) K=K H2:=fun K=>by
  show bB ((H1.push (.row (vac va0) .own)).store (H1.next,0) (vac r)) K=_;rw [hst,fA]
 rw [hz]
 clear hz hst hH2 cz nz oz
 have hlt:h.next<H1.next:=o.2;have o:=o.chg w.c (by simp);have x:=Dt.chg w.c (by simp) x;have pk:=pk.chg w.c;have hV:∀ A,A<h.next->A ∉ [H1.next]:=fun A hA=>by simp;omega
 have fin:∀ {H:Heap} {z:VaV},W1 H1 H (vac z)->Dt H (fun A=>A<h.next) va00 (vac (0,z.2))->∃ h',(bB (H.store (H1.next,0) [(.int .i64 0)]) fun h168=>dA (.val (yV)) (h168.cells (H1.next,0) 15) fun x170=>mA (f165 N (tV x170) (oV) h168) fun x171 h172=>some (x171,h172))=some (true,h')/\Chg [] h h':=by
  intro H z wz hx;obtain ⟨H',p',w',c',n'⟩:=wz.set (j:=0) (vs:=[(.int .i64 0)]) (by show 0+1<=15;omega) (ds:=vac (0,z.2)) rfl;rw [p'];have aa:H'.cells (H1.next,0) 15=some (.agg (vac (0,z.2))):=w'.o.cells (j:=0) (m:=15) (Nat.le_refl _);rw [aa,pN];obtain ⟨h',e,c2⟩:=rAx hN (Dt.chg c' hV hx);have e':f165 N (tV ((0,z.2):VaV)) (oV) H'=some (true,h'):=e;rw [e',aA];exact ⟨h',rfl,(c.trans w'.c).trans c2⟩
 have a0:H2.cell (h.next,0)=some (.int .i64 r.1):=o.cell 0;have one:∀ {H:Heap} {cs ds:List AV} {ra:OpV} {a:D} (k:Nat),k+4<=15->W1 H1 H cs->Chg [H1.next] H2 H->qC a->Dt H2 (fun A=>A<h.next) a (opc ra)->((vac r).drop k).take 4=opc ra->cs.length=15->cs.take k++[(.int .i64 0),(.int .i64 0),(.str []),(.slice none 0 0 0)]++cs.drop (k+4)=ds->
   ∃ H3 H4,H.cells (h.next,k) 4=some (.agg (opc ra))/\f200 N ra H=some (true,H3)/\(∀ {β:Type} (K:Heap->Option β),bB (H3.store (H1.next,k) [(.int .i64 0),(.int .i64 0),(.str []),(.slice none 0 0 0)]) K=K H4)/\W1 H1 H3 cs/\Chg [H1.next] H2 H3/\W1 H1 H4 ds/\Chg [H1.next] H2 H4:=by
  intro H cs ds ra a k hk wz cz ha xa hra hl hds;have aa:H.cells (h.next,k) 4=some (.agg (opc ra)):=by
   rw [<- hra];exact (o.chg cz (by simp;omega)).cells (j:=k) (m:=4) hk
  obtain ⟨H3,e3,c3⟩:=dAc hN ha (Dt.chg cz hV xa);obtain ⟨H4,p4,w4,c4,n4⟩:=(wz.call c3).set (j:=k) (vs:=[(.int .i64 0),(.int .i64 0),(.str []),(.slice none 0 0 0)]) (by rw [hl];exact hk) (ds:=ds) hds;exact ⟨H3,H4,aa,e3,p4,wz.call c3,cz.trans (c3.mono (by simp)),w4,(cz.trans (c3.mono (by simp))).trans c4⟩
 have hc2:∀ {H':Heap} {b:D} {cs:List AV},Chg [H1.next] H2 H'->Dt H2 (fun A=>A<h.next) b cs->Dt H' (fun A=>A<h.next) b cs:=fun c' y=>Dt.chg c' hV y;have hs2:∀ {H':Heap} {b:List D} {s:SL},Chg [H1.next] H2 H'->Sl H2 (fun A=>A<h.next) s b->Sl H' (fun A=>A<h.next) s b:=fun c' y=>y.chg c' hV;have named:∀ {H:Heap} {k:Int} {ra rb:OpV} {rp:LfV} {s1 s2:SL} {nm:Bs} {ag:List D},W1 H1 H (vac (kE k ra rb 0 rp nm s1 s2))->Chg [H1.next] H2 H->nL nm->mJ 64 qC ag->Sl H2 (fun A=>A<h.next) s2 ag->PK H->
   ∃ H3 H4 H5,f173 N nm H=some (true,H)/\f216 N s2 H=some (true,H3)/\(∀ {β:Type} (K:Heap->Option β),bB (H3.store (H1.next,12) [(.str [])]) K=K H4)/\(∀ {β:Type} (K:Heap->Option β),bB (H4.store (H1.next,14) [(.slice none 0 0 0)]) K=K H5)/\W1 H1 H5 (vac (kE k ra rb 0 rp [] s1 sl0))/\Chg [H1.next] H2 H5:=by
  intro H k ra rb rp s1 s2 nm ag wz cz hn hg y2 pk;obtain ⟨H3,e3,c3⟩:=qAx hN hg (hs2 cz y2);obtain ⟨H4,p4,w4,c4,n4⟩:=(wz.call c3).set (j:=12) (vs:=[(.str [])]) (show 12+1<=15 by decide) (ds:=vac (kE k ra rb 0 rp [] s1 s2)) rfl;obtain ⟨H5,p5,w5,c5,n5⟩:=w4.set (j:=14) (vs:=[(.slice none 0 0 0)]) (show 14+1<=15 by decide) (ds:=vac (kE k ra rb 0 rp [] s1 sl0)) rfl;exact ⟨H3,H4,H5,dAn (by omega) hn pk,e3,p4,p5,w5,((cz.trans (c3.mono (by simp))).trans c4).trans c5⟩
 cases hd with
 | @op a ha=>
  obtain ⟨ra,rb,rp,s1,s2,hc,xa,xb,xp,y1,y2⟩:=bH (iC ha) wD eF x;obtain rfl:=gF hc;have e2:eA 1 2=false:=rfl;have e3:eA 1 3=false:=rfl;have e7:eA 1 7=false:=rfl;have e6:eA 1 6=false:=rfl;have e5:eA 1 5=false:=rfl;have e1:eA 1 1=true:=rfl;simp only [kE,Nat.zero_add,a0,bA,vA,e1,e2,e3,e5,e6,e7,cond_true,cond_false,fA,uA,iB];obtain ⟨H3,H4,g1,g2,g3,_,_,g4,g5⟩:=one (ds:=vac (kE 1 dF rb 0 rp [] s1 s2)) 1 (by decide) w (Chg.refl _ _) ha xa rfl rfl rfl;rw [g1,dH,g2];simp only [aA,fA,Nat.zero_add];rw [g3];simp only [fA,uA,cond_true,Nat.zero_add];exact fin g4 (tA7 (k:=0) (op:=0) (nm:=[]) (yN _ _) (hc2 g5 xb) (hc2 g5 xp) (hs2 g5 y1) (hs2 g5 y2))
 | @no a ha=>
  obtain ⟨ra,rb,rp,s1,s2,hc,xa,xb,xp,y1,y2⟩:=bH (iC ha) wD eF x;obtain rfl:=gF hc;have e2:eA 4 2=false:=rfl;have e3:eA 4 3=false:=rfl;have e7:eA 4 7=false:=rfl;have e6:eA 4 6=false:=rfl;have e5:eA 4 5=false:=rfl;have e1:eA 4 1=false:=rfl;have e4:eA 4 4=true:=rfl;simp only [kE,Nat.zero_add,a0,bA,vA,e1,e2,e3,e4,e5,e6,e7,cond_true,cond_false,fA,uA,iB];obtain ⟨H3,H4,g1,g2,g3,_,_,g4,g5⟩:=one (ds:=vac (kE 4 dF rb 0 rp [] s1 s2)) 1 (by decide) w (Chg.refl _ _) ha xa rfl rfl rfl;rw [g1,dH,g2];simp only [aA,fA,Nat.zero_add];rw [g3];simp only [fA,uA,cond_true,Nat.zero_add];exact fin g4 (tA7 (k:=0) (op:=0) (nm:=[]) (yN _ _) (hc2 g5 xb) (hc2 g5 xp) (hs2 g5 y1) (hs2 g5 y2))
 | @ref k p hk hp=>
  obtain ⟨ra,rb,rp,s1,s2,hc,xa,xb,xp,y1,y2⟩:=bH wD wD (vG hp) x;obtain rfl:=gF hc;obtain ⟨H3,g2,c3⟩:=lA3 (N:=N) (by omega) hp xp;have g1:H2.cells (h.next,10) 2=some (.agg (lfc rp)):=o.cells (j:=10) (m:=2) (show 10+2<=15 by decide);obtain ⟨H4,g3,g4,c4,n4⟩:=(w.call c3).set (j:=10) (vs:=[(.str []),(.slice none 0 0 0)]) (show 10+2<=15 by decide) (ds:=vac (kE k ra rb 0 lf0 [] s1 s2)) rfl;have g5:Chg [H1.next] H2 H4:=(c3.mono (by simp)).trans c4;rcases hk with rfl | rfl
  ·have e2:eA 2 2=true:=rfl
   simp only [kE,Nat.zero_add,a0,bA,vA,e2,cond_true,fA,uA,iB];rw [g1,jH,g2];simp only [aA];rw [g3];simp only [fA,uA,iB,cond_true,Nat.zero_add];exact fin g4 (tA7 (k:=0) (op:=0) (nm:=[]) (hc2 g5 xa) (hc2 g5 xb) (wW _ _) (hs2 g5 y1) (hs2 g5 y2))
  ·have e2:eA 3 2=false:=rfl
   have e3:eA 3 3=true:=rfl;simp only [kE,Nat.zero_add,a0,bA,vA,e2,e3,cond_true,cond_false,fA,uA,iB];rw [g1,jH,g2];simp only [aA];rw [g3];simp only [fA,uA,iB,cond_true,Nat.zero_add];exact fin g4 (tA7 (k:=0) (op:=0) (nm:=[]) (hc2 g5 xa) (hc2 g5 xb) (wW _ _) (hs2 g5 y1) (hs2 g5 y2))
 | @bin a b k ha hb hk=>
  obtain ⟨ra,rb,rp,s1,s2,hc,xa,xb,xp,y1,y2⟩:=bH (iC ha) (iC hb) eF x;obtain rfl:=gF hc;have e2:eA 5 2=false:=rfl;have e3:eA 5 3=false:=rfl;have e7:eA 5 7=false:=rfl;have e6:eA 5 6=false:=rfl;have e5:eA 5 5=true:=rfl;have a9:H2.cell (h.next,9)=some (.int .i64 k):=o.cell 9;have l1:wB 1 k=true:=by rw [leI,decide_eq_true_eq];omega
  have l4:wB k 4=true:=by rw [leI,decide_eq_true_eq];omega
  simp only [kE,Nat.zero_add,a0,bA,vA,e2,e3,e5,e6,e7,a9,l1,l4,cond_true,cond_false,fA,uA,iB];obtain ⟨H3,_,g1,g2,_,w3,c3,_,_⟩:=one (ds:=vac (kE 5 ra dF k rp [] s1 s2)) 5 (by decide) w (Chg.refl _ _) hb xb rfl rfl rfl;rw [g1,dH,g2];simp only [aA,fA,Nat.zero_add];obtain ⟨H4,p4,w4,c4,n4⟩:=w3.set (j:=9) (vs:=[(.int .i64 0)]) (show 9+1<=15 by decide) (ds:=vac (kE 5 ra rb 0 rp [] s1 s2)) rfl;rw [p4];obtain ⟨H5,p5,w5,c5,n5⟩:=w4.set (j:=5) (vs:=[(.int .i64 0),(.int .i64 0),(.str []),(.slice none 0 0 0)]) (show 5+4<=15 by decide) (ds:=vac (kE 5 ra dF 0 rp [] s1 s2)) rfl;rw [p5];simp only [fA,uA,cond_true,Nat.zero_add];obtain ⟨H6,H7,q1,q2,q3,_,_,q4,q5⟩:=one (ds:=vac (kE 5 dF dF 0 rp [] s1 s2)) 1 (by decide) w5 ((c3.trans c4).trans c5) ha xa rfl rfl rfl;rw [q1,dH,q2];simp only [aA,fA,Nat.zero_add];rw [q3];simp only [fA,uA,cond_true,Nat.zero_add];exact fin q4 (tA7 (k:=0) (op:=0) (nm:=[]) (yN _ _) (yN _ _) (hc2 q5 xp) (hs2 q5 y1) (hs2 q5 y2))
 | @call nm ag hn hg=>
  obtain ⟨ra,rb,rp,s1,s2,hc,xa,xb,xp,y1,y2⟩:=bH wD wD eF x;obtain rfl:=gF hc;have e2:eA 6 2=false:=rfl;have e3:eA 6 3=false:=rfl;have e7:eA 6 7=false:=rfl;have e6:eA 6 6=true:=rfl;have a12:H2.cell (h.next,12)=some (.str nm):=o.cell 12;have a14:H2.cell (h.next,14)=some (yL s2):=o.cell 14;simp only [kE,Nat.zero_add,a0,bA,vA,e2,e3,e6,e7,a12,kA,cond_true,cond_false,fA,uA,iB];obtain ⟨H3,H4,H5,g1,g2,g3,g4,g5,g6⟩:=named w (Chg.refl _ _) hn hg y2 pk;rw [g1];simp only [aA,cond_true,a14,bA,jA];rw [g2];simp only [aA,fA,Nat.zero_add];rw [g3,g4];simp only [fA,uA,iB,cond_true,Nat.zero_add];exact fin g5 (tA7 (k:=0) (op:=0) (nm:=[]) (hc2 g6 xa) (hc2 g6 xb) (hc2 g6 xp) (hs2 g6 y1) (Sl.nil _ _ _))
 | @make nm ns ag hn hl hs hg=>
  obtain ⟨ra,rb,rp,s1,s2,hc,xa,xb,xp,y1,y2⟩:=bH wD wD eF x;obtain rfl:=gF hc;have e2:eA 7 2=false:=rfl;have e3:eA 7 3=false:=rfl;have e7:eA 7 7=true:=rfl;have a12:H2.cell (h.next,12)=some (.str nm):=o.cell 12;have a13:H2.cell (h.next,13)=some (yL s1):=o.cell 13;have a14:H2.cell (h.next,14)=some (yL s2):=o.cell 14;have l1:s1.len=ns.length:=by rw [y1.len,List.length_map]
  have l2:s2.len=ag.length:=y2.len;have hle:=hg.1;have lp:=nA3 (N:=N) (by omega) (P:=some (h.next,0)) (Q:=some (H1.next,0)) y1 hs (by omega) N 0 (Nat.zero_le _) (by omega);rw [show ((0:Nat):Int)=0 from rfl,show (ns.length:Int)=Int.ofNat s1.len by rw [l1];rfl] at lp;have lp':tO N N (some (h.next,0)) true (some (H1.next,0)) s1 (Int.ofNat s1.len) 0 H2=some (.exit 7,(some (h.next,0),true,some (H1.next,0),()),H2):=lp;have ll:eA (Int.ofNat s1.len) (Int.ofNat s2.len)=true:=by rw [eqI,l1,l2,hl];grind
  simp only [kE,Nat.zero_add,a0,bA,vA,e2,e3,e7,a13,jA,cond_true,cond_false,fA,uA,iB];rw [lp'];simp only [kB,aA,fA,Nat.zero_add,cond_true,a13,a14,bA,jA,ll];obtain ⟨H6,p6,w6,c6,n6⟩:=w.set (j:=13) (vs:=[(.slice none 0 0 0)]) (show 13+1<=15 by decide) (ds:=vac (kE 7 ra rb 0 rp nm sl0 s2)) rfl;rw [p6];have o6:=o.chg c6 (by simp;omega);have b12:H6.cell (h.next,12)=some (.str nm):=o6.cell 12;have b14:H6.cell (h.next,14)=some (yL s2):=o6.cell 14;simp only [fA,uA,cond_true,Nat.zero_add,b12,bA,kA];have pk6:PK H6:=pk.chgM c6 (by have:=(PK.chg pk0 c).2.1;simp;omega);obtain ⟨H3,H4,H5,g1,g2,g3,g4,g5,g6⟩:=named w6 c6 hn hg y2 pk6;rw [g1];simp only [aA,cond_true,b14,bA,jA];rw [g2];simp only [aA,fA,Nat.zero_add];rw [g3,g4];simp only [fA,uA,iB,cond_true,Nat.zero_add];exact fin g5 (tA7 (k:=0) (op:=0) (nm:=[]) (hc2 g6 xa) (hc2 g6 xb) (hc2 g6 xp) (Sl.nil _ _ _) (Sl.nil _ _ _))
end
end Qp
namespace Qp
abbrev tS (v:SmV):SmV:=v
abbrev oS:SmV:=(0,0,false,[],0,[],⟨none,0,0,0⟩,⟨none,0,0,0⟩,false,[],⟨none,0,0,0⟩,0,0,0,[],⟨none,0,0,0⟩,0,0,[],⟨none,0,0,0⟩,0,[],⟨none,0,0,0⟩,[],⟨none,0,0,0⟩,⟨none,0,0,0⟩,0,0,[],⟨none,0,0,0⟩,⟨none,0,0,0⟩,⟨none,0,0,0⟩,())
abbrev yS:VTy:=.agg [(.int .i64),(.int .i64),.bool,.str,(.int .i64),.str,.slice,.slice,.bool,.str,.slice,(.int .i64),(.int .i64),(.int .i64),.str,.slice,(.int .i64),(.int .i64),.str,.slice,(.int .i64),.str,.slice,.str,.slice,.slice,(.int .i64),(.int .i64),.str,.slice,.slice,.slice]
section
variable {N:Nat} {h:Heap} {V:Nat->Prop}
theorem fAn (hN:3001<=N) {va:D} (rr:SmR) (hv:nAr rr.has va) (pk:PK h) (x:Dt h V va (vac rr.va)):∃ h',f197 N (smv rr) h=some (true,h')/\Chg [] h h':=by
 unfold f197;have o:=wA h (smc rr);have c:=tA h (.row (smc rr) .own);have e1:h.push (.row (yRA (smv rr)) .own)=h.push (.row (smc rr) .own):=rfl;dsimp only;rw [e1];have x:=Dt.chg c (by simp) x;have pk:=pk.chg c;generalize h.push (.row (smc rr) .own)=H at *;have a8:H.cell (h.next,8)=some (.bool rr.has):=o.cell 8;simp only [Nat.zero_add,a8,bA,uB];rcases hv with ⟨hs,hv⟩ | ⟨hs,hv⟩
 ·rw [hs]
  simp only [cond_true];have aa:H.cells (h.next,11) 15=some (.agg (vac rr.va)):=o.cells (j:=11) (m:=15) (show 11+15<=32 by decide);rw [aa,pN];obtain ⟨h',e,c'⟩:=eAc hN hv pk x;have e':f199 N (tV rr.va) H=some (true,h'):=e;rw [e',aA];exact ⟨h',rfl,c.trans c'⟩
 grind
def oI (s z:SmR):SmR:=bif s.has then (bif eA s.k 1||eA s.k 10 then { z with has:=false,va:=va0 } else bif eA s.k 4 then { z with has:=false,el:=sl0 } else z) else z
theorem gAn (rs rz:SmR):∃ h',f201 N (smv rs) (smv rz) h=some (smv (oI rs rz),h')/\Chg [] h h':=by
 unfold f201;have o:=wA h (smc rs);have c:=tA h (.row (smc rs) .own);have e1:h.push (.row (yRA (smv rs)) .own)=h.push (.row (smc rs) .own):=rfl;dsimp only;rw [e1];generalize h.push (.row (smc rs) .own)=h1 at *;have oz:=wA h1 (smc rz);have cz:=tA h1 (.row (smc rz) .own);have nz:(h1.push (.row (smc rz) .own)).next=h1.next+1:=rfl;have e2:h1.push (.row (yRA (smv rz)) .own)=h1.push (.row (smc rz) .own):=rfl;rw [e2];have hlt:h.next<h1.next:=o.2;have o:=o.chg cz (by simp);generalize h1.push (.row (smc rz) .own)=h2 at *;have ow:=wA h2 (smc (mE 0));have cw:=tA h2 (.row (smc (mE 0)) .own);have e3:h2.push (.row yZA .own)=h2.push (.row (smc (mE 0)) .own):=rfl;rw [e3];have o:=o.chg cw (by simp);have oz:=oz.chg cw (by simp);have wz:W1 h1 (h2.push (.row (smc (mE 0)) .own)) (smc rz):=⟨oz,cz.trans cw,Nat.le_trans (Nat.le_of_eq nz.symm) cw.next⟩;have hlt2:h1.next<h2.next:=by omega
 have hlt3:h2.next<(h2.push (.row (smc (mE 0)) .own)).next:=ow.2;generalize h2.push (.row (smc (mE 0)) .own)=H at *;have c0:=(c.trans cz).trans cw;have fin:∀ {H':Heap} {z:SmR},W1 h1 H' (smc z)->H'.own h2.next (smc (mE 0))->∃ H'',H'.cells (h1.next,0) 32=some (.agg (smx (smv z)))/\H'.store (h2.next,0) (yRA (smv z))=some H''/\H''.cells (h2.next,0) 32=some (.agg (smx (smv z)))/\Chg [] h H'':=by
  intro H' z w ow;have hst:H'.store (h2.next,0) (smc z)=some (H'.put h2.next (.row (smc z) .own)):=ow.store rfl;exact ⟨_,w.o.cells (j:=0) (m:=32) (Nat.le_refl _),hst,(kJ ow _).cells (j:=0) (m:=32) (Nat.le_refl _),(c.trans w.c).put (.inr (by omega)) _⟩
 have a8:H.cell (h.next,8)=some (.bool rs.has):=o.cell 8;have a0:H.cell (h.next,0)=some (.int .i64 rs.k):=o.cell 0;simp only [Nat.zero_add,a8,bA,uB]
 cases hs:rs.has with
 | false=>
  have ez:oI rs rz=rz:=by unfold oI;rw [hs];rfl
  rw [ez];simp only [Bool.not_false,cond_true];obtain ⟨H9,g1,g2,g3,g4⟩:=fin wz ow;rw [g1,gG,g2,fA,g3,gG];exact ⟨_,rfl,g4⟩
 | true=>
  simp only [Bool.not_true,cond_false,a0,bA,vA]
  cases h1':eA rs.k 1 with
  | true=>
   have ez:oI rs rz = { rz with has:=false,va:=va0 }:=by unfold oI;rw [hs,h1'];rfl
   rw [ez];simp only [cond_true,aA,fA,Nat.zero_add];obtain ⟨H3,p3,w3,c3,n3⟩:=wz.set (j:=8) (vs:=[(.bool false)]) (show 8+1<=32 by decide) (ds:=smc { rz with has:=false }) (by simp only [smc,smx,smv];rfl);obtain ⟨H4,p4,w4,c4,n4⟩:=w3.set (j:=11) (vs:=yZB) (show 11+15<=32 by decide) (ds:=smc { rz with has:=false,va:=va0 }) (by simp only [smc,smx,smv];rfl);rw [p3,p4];simp only [aA,fA];obtain ⟨H9,g1,g2,g3,g4⟩:=fin w4 ((ow.chg c3 (by simp;omega)).chg c4 (by simp;omega));rw [g1,gG,g2,fA,g3,gG];exact ⟨_,rfl,g4⟩
  | false=>
   cases h10:eA rs.k 10 with
   | true=>
    have ez:oI rs rz = { rz with has:=false,va:=va0 }:=by unfold oI;rw [hs,h1',h10];rfl
    rw [ez];simp only [cond_true,cond_false,aA,fA,Nat.zero_add];obtain ⟨H3,p3,w3,c3,n3⟩:=wz.set (j:=8) (vs:=[(.bool false)]) (show 8+1<=32 by decide) (ds:=smc { rz with has:=false }) (by simp only [smc,smx,smv];rfl);obtain ⟨H4,p4,w4,c4,n4⟩:=w3.set (j:=11) (vs:=yZB) (show 11+15<=32 by decide) (ds:=smc { rz with has:=false,va:=va0 }) (by simp only [smc,smx,smv];rfl);rw [p3,p4];simp only [aA,fA];obtain ⟨H9,g1,g2,g3,g4⟩:=fin w4 ((ow.chg c3 (by simp;omega)).chg c4 (by simp;omega));rw [g1,gG,g2,fA,g3,gG];exact ⟨_,rfl,g4⟩
   | false=>
    cases h4:eA rs.k 4 with
    | true=>
     have ez:oI rs rz = { rz with has:=false,el:=sl0 }:=by unfold oI;grind
     rw [ez];simp only [h4,cond_true,cond_false,aA,fA,Nat.zero_add];obtain ⟨H3,p3,w3,c3,n3⟩:=wz.set (j:=8) (vs:=[(.bool false)]) (show 8+1<=32 by decide) (ds:=smc { rz with has:=false }) (by simp only [smc,smx,smv];rfl);obtain ⟨H4,p4,w4,c4,n4⟩:=w3.set (j:=31) (vs:=[(.slice none 0 0 0)]) (show 31+1<=32 by decide) (ds:=smc { rz with has:=false,el:=sl0 }) (by simp only [smc,smx,smv];rfl);rw [p3,p4];simp only [aA,fA];obtain ⟨H9,g1,g2,g3,g4⟩:=fin w4 ((ow.chg c3 (by simp;omega)).chg c4 (by simp;omega));rw [g1,gG,g2,fA,g3,gG];exact ⟨_,rfl,g4⟩
    | false=>
     have ez:oI rs rz=rz:=by unfold oI;grind
     rw [ez];simp only [h4,cond_false,aA,fA];obtain ⟨H9,g1,g2,g3,g4⟩:=fin wz ow;rw [g1,gG,g2,fA,g3,gG];exact ⟨_,rfl,g4⟩
def vR:D:=smT 0 0 false [] ty0D false pl0 va00 op0 [] []
theorem tAx (hN:3001<=N) {rz:SmR} (x:Dt h V vR (smc rz)):∃ h',f114 N N (smv rz) (smv (mE 0)) h=some (true,h')/\Chg [] h h':=by
 obtain ⟨r,p,v,o,s1,s2,hc,x1,x2,x3,x4,x5,x6⟩:=iQ uR eF kX wD x;have hr:=(cL 1).inj hc;obtain ⟨M,rfl⟩:∃ m,N=m+1:=⟨N-1,by omega⟩;rw [hr,cX];exact nAf (fun H c=>rAf uR (by omega) x1 (dAm h V 0 []) hN c) (fun H c=>fA3 eF x2 (wW h V) hN c) (fun H c=>oAb kX x3 (pA0 h V) hN c) (fun H c=>jX wD x4 (yN h V) hN c)
  (fun H c=>qAm hN 0 M [] s1 sl0 H V V (by omega) (by simp) (by simp) (x5.chg c (by simp)) (Sl.nil _ _ _)) (fun H c=>qAm hN 0 M [] s2 sl0 H V V (by omega) (by simp) (by simp) (x6.chg c (by simp)) (Sl.nil _ _ _))
theorem dY {m:Nat} {k a:Int} {mu:Bool} {nm:Bs} {ty:D} {hs:Bool} {pl va co:D} {th el:List D} (t:vS (m+1) (smT k a mu nm ty hs pl va co th el)):isTy 65 ty/\isLf pl/\lAj va/\isOp co/\th.length<=3000/\el.length<=3000/\(∀ s∈th,vS m s)/\∀ s∈el,vS m s:=by
 obtain ⟨k',a',mu',nm',ty',hs',pl',va',co',th',el',e,h1,h2,h3,h4,h5,h6,h7,h8⟩:=t;simp only [smT,D.t.injEq,List.cons.injEq,D.i.injEq,D.b.injEq,D.s.injEq,D.l.injEq,and_true] at e
 grind
set_option maxHeartbeats 2000000 in
theorem uAx (hN:3001<=N) {rec125 rec174} {n m:Nat} {d:D} (hd:bG (n+1) d) (ti:vS (m+1) d) {r:SmV} (pk:PK h) (x:Dt h V d (smx r)) {deep:Int}
  (hb:∀ (l:List D) (s1:SL) (H:Heap),(l=thD d\/l=elD d)->0<n->PK H->Sl H (fun A=>A<h.next) s1 l->∃ H',rec125 s1 (jB .i64 (deep+1)) H=some (true,H')/\Chg [] H H'):∃ h',uA0 N rec125 rec174 r deep h=some (true,h')/\Chg [] h h':=by
 obtain ⟨k,a,mu,nm,ty,hs,pl,va,co,th,el,rfl,hth,hel,hk⟩:=hd;obtain ⟨t1,t2,t3,t4,_⟩:=dY ti;obtain ⟨rt,rp,rv,ro,s1,s2,hc,x1,x2,x3,x4,x5,x6⟩:=iQ t1 t2 t3 t4 x;obtain ⟨rr,hrr⟩:∃ rr:SmR,rr=⟨k,a,mu,nm,rt,hs,rp,rv,ro,s1,s2⟩:=⟨_,rfl⟩;rw [<- hrr] at hc;have hr:r=smv rr:=(cL 1).inj hc;subst hr;unfold uA0;have x:=Dt.weak (W:=fun A=>A<h.next) (fun A _ hl=>hl) x;have x1:=Dt.weak (W:=fun A=>A<h.next) (fun A _ hl=>hl) x1;have x2:=Dt.weak (W:=fun A=>A<h.next) (fun A _ hl=>hl) x2;have x3:=Dt.weak (W:=fun A=>A<h.next) (fun A _ hl=>hl) x3;have x4:=Dt.weak (W:=fun A=>A<h.next) (fun A _ hl=>hl) x4;have x5:=x5.weak (W:=fun A=>A<h.next) (fun A _ hl=>hl);have x6:=x6.weak (W:=fun A=>A<h.next) (fun A _ hl=>hl);have pk0:=pk;have o:=wA h (smc rr);have c:=tA h (.row (smc rr) .own);have e1:h.push (.row (yRA (smv rr)) .own)=h.push (.row (smc rr) .own):=rfl;dsimp only;rw [e1];have pk:=pk.chg c;generalize h.push (.row (smc rr) .own)=H1 at *;have aa:H1.cells (h.next,0) 32=some (.agg (smx (smv rr))):=o.cells (j:=0) (m:=32) (Nat.le_refl _);rw [aa,gG];have oz:=wA H1 (smc (mE 0));have cz:=tA H1 (.row (smc (mE 0)) .own);have nz:(H1.push (.row (smc (mE 0)) .own)).next=H1.next+1:=rfl;have hst:(H1.push (.row (smc (mE 0)) .own)).store (H1.next,0) (smc rr)=some ((H1.push (.row (smc (mE 0)) .own)).put H1.next (.row (smc rr) .own)):=oz.store rfl;obtain ⟨H2,hH2⟩:∃ H2,H2=(H1.push (.row (smc (mE 0)) .own)).put H1.next (.row (smc rr) .own):=⟨_,rfl⟩;have w:W1 H1 H2 (smc rr):=by rw [hH2];exact ⟨kJ oz _,cz.put (.inr (Nat.le_refl _)) _,Nat.le_refl _⟩
 rw [<- hH2] at hst;have hz:∀ {β:Type} (K:Heap->Option β),bB ((H1.push (.row yZA .own)).store (H1.next,0) (yRA (smv rr))) K=K H2:=fun K=>by
  show bB ((H1.push (.row (smc (mE 0)) .own)).store (H1.next,0) (smc rr)) K=_;rw [hst,fA]
 rw [hz]
 clear hz hst hH2 cz nz oz
 have hlt:h.next<H1.next:=o.2;have o:=o.chg w.c (by simp);have c02:=c.trans w.c;have x1:=Dt.chg c02 (by simp) x1;have x2:=Dt.chg c02 (by simp) x2;have x3:=Dt.chg c02 (by simp) x3;have x4:=Dt.chg c02 (by simp) x4;have x5:=x5.chg c02 (by simp);have x6:=x6.chg c02 (by simp);have pk:=pk.chg w.c;have hV:∀ A,A<h.next->A ∉ [H1.next]:=fun A hA=>by simp;omega
 have hM5:∀ A∈[H1.next],6<=A:=fun A hA=>by
  rw [List.mem_singleton] at hA
  have:=pk0.2;omega
 have oX:∀ {H:Heap},Chg [H1.next] H2 H->H.own h.next (smc rr):=fun cc=>o.chg cc (by simp;omega);have pX:∀ {H:Heap},Chg [H1.next] H2 H->PK H:=fun cc=>pk.chgM cc hM5;have dX:∀ {H':Heap} {b:D} {cs:List AV},Chg [H1.next] H2 H'->Dt H2 (fun A=>A<h.next) b cs->Dt H' (fun A=>A<h.next) b cs:=fun c' y=>Dt.chg c' hV y;have sX:∀ {H':Heap} {b:List D} {s:SL},Chg [H1.next] H2 H'->Sl H2 (fun A=>A<h.next) s b->Sl H' (fun A=>A<h.next) s b:=fun c' y=>y.chg c' hV;have aX:∀ {H:Heap},Chg [H1.next] H2 H->H.cells (h.next,0) 32=some (.agg (smx (smv rr))):=fun cc=>(oX cc).cells (j:=0) (m:=32) (Nat.le_refl _);have fin:∀ {H:Heap} {rz:SmR},W1 H1 H (smc rz)->Chg [H1.next] H2 H->(∀ {H':Heap},Chg [H1.next] H2 H'->Dt H' (fun A=>A<h.next) vR (smc (oI rr { rz with k:=0,at_:=0 })))->∃ H3 H4 H5 h',(∀ {β:Type} (K:Heap->Option β),bB (H.store (H1.next,0) [(.int .i64 0)]) K=K H3)/\(∀ {β:Type} (K:Heap->Option β),bB (H3.store (H1.next,1) [(.int .i64 0)]) K=K H4)/\H4.cells (h.next,0) 32=some (.agg (smx (smv rr)))/\H4.cells (H1.next,0) 32=some (.agg (smx (smv { rz with k:=0,at_:=0 })))/\
   f201 N (tS (smv rr)) (tS (smv { rz with k:=0,at_:=0 })) H4=some (smv (oI rr { rz with k:=0,at_:=0 }),H5)/\f114 N N (tS (smv (oI rr { rz with k:=0,at_:=0 }))) (oS) H5=some (true,h')/\Chg [] h h':=by
  intro H rz wz cc hx;obtain ⟨H3,p3,w3,c3,n3⟩:=wz.set (j:=0) (vs:=[(.int .i64 0)]) (show 0+1<=32 by decide) (ds:=smc { rz with k:=0 }) (by simp only [smc,smx,smv];rfl);obtain ⟨H4,p4,w4,c4,n4⟩:=w3.set (j:=1) (vs:=[(.int .i64 0)]) (show 1+1<=32 by decide) (ds:=smc { rz with k:=0,at_:=0 }) (by simp only [smc,smx,smv];rfl);have cc4:=(cc.trans c3).trans c4;have ab:H4.cells (H1.next,0) 32=some (.agg (smx (smv { rz with k:=0,at_:=0 }))):=w4.o.cells (j:=0) (m:=32) (Nat.le_refl _);obtain ⟨H5,e5,c5⟩:=gAn (N:=N) (h:=H4) rr { rz with k:=0,at_:=0 };obtain ⟨h',e6,c6⟩:=tAx hN (hx (cc4.trans (c5.mono (by simp))));exact ⟨H3,H4,H5,h',p3,p4,aX cc4,ab,e5,e6,((c.trans w4.c).trans c5).trans c6⟩
 have one:∀ {H:Heap} {cs ds:List AV} {a:D},W1 H1 H cs->Chg [H1.next] H2 H->qC a->Dt H2 (fun A=>A<h.next) a (opc rr.co)->cs.length=32->cs.take 26++[(.int .i64 0),(.int .i64 0),(.str []),(.slice none 0 0 0)]++cs.drop 30=ds->
   ∃ H3 H4,H.cells (h.next,26) 4=some (.agg (opc rr.co))/\f200 N (rr.co.1,rr.co.2.1,rr.co.2.2.1,rr.co.2.2.2.1,()) H=some (true,H3)/\(∀ {β:Type} (K:Heap->Option β),bB (H3.store (H1.next,26) [(.int .i64 0),(.int .i64 0),(.str []),(.slice none 0 0 0)]) K=K H4)/\W1 H1 H4 ds/\Chg [H1.next] H2 H4:=by
  intro H cs ds a wz cz ha xa hl hds;have aa:H.cells (h.next,26) 4=some (.agg (opc rr.co)):=(oX cz).cells (j:=26) (m:=4) (show 26+4<=32 by decide);obtain ⟨H3,e3,c3⟩:=dAc hN ha (dX cz xa);obtain ⟨H4,p4,w4,c4,n4⟩:=(wz.call c3).set (j:=26) (vs:=[(.int .i64 0),(.int .i64 0),(.str []),(.slice none 0 0 0)]) (by grind) (ds:=ds) hds;exact ⟨H3,H4,aa,e3,p4,w4,(cz.trans (c3.mono (by simp))).trans c4⟩
 have inn:∀ {H:Heap} {cs ds:List AV},0<n->W1 H1 H cs->Chg [H1.next] H2 H->Sl H2 (fun A=>A<h.next) rr.th th->cs.length=32->cs.take 30++[(.slice none 0 0 0)]++cs.drop 31=ds->
   ∃ H3 H4,H.cell (h.next,30)=some (yL rr.th)/\rec125 rr.th (jB .i64 (deep+1)) H=some (true,H3)/\(∀ {β:Type} (K:Heap->Option β),bB (H3.store (H1.next,30) [(.slice none 0 0 0)]) K=K H4)/\W1 H1 H4 ds/\Chg [H1.next] H2 H4:=by
  intro H cs ds h0 wz cz xs hl hds;obtain ⟨H3,e3,c3⟩:=hb th rr.th H (.inl rfl) h0 (pX cz) (sX cz xs);obtain ⟨H4,p4,w4,c4,n4⟩:=(wz.call c3).set (j:=30) (vs:=[(.slice none 0 0 0)]) (by grind) (ds:=ds) hds;exact ⟨H3,H4,(oX cz).cell 30,e3,p4,w4,(cz.trans (c3.mono (by simp))).trans c4⟩
 have x1:Dt H2 (fun A=>A<h.next) ty (tyc rr.ty):=by rw [hrr];exact x1
 have x2:Dt H2 (fun A=>A<h.next) pl (lfc rr.pl):=by rw [hrr];exact x2
 have x3:Dt H2 (fun A=>A<h.next) va (vac rr.va):=by rw [hrr];exact x3
 have x4:Dt H2 (fun A=>A<h.next) co (opc rr.co):=by rw [hrr];exact x4
 have x5:Sl H2 (fun A=>A<h.next) rr.th th:=by rw [hrr];exact x5
 have x6:Sl H2 (fun A=>A<h.next) rr.el el:=by rw [hrr];exact x6
 have q0:rr.k=k:=by rw [hrr]
 have q2:rr.m=mu:=by rw [hrr]
 have q3:rr.nm=nm:=by rw [hrr]
 have q8:rr.has=hs:=by rw [hrr]
 have a0:H2.cell (h.next,0)=some (.int .i64 k):=by rw [<- q0];exact o.cell 0
 have a3:H2.cell (h.next,3)=some (.str nm):=by rw [<- q3];exact o.cell 3
 have a8:H2.cell (h.next,8)=some (.bool hs):=by rw [<- q8];exact o.cell 8
 have a9:H2.cells (h.next,9) 2=some (.agg (lfc rr.pl)):=o.cells (j:=9) (m:=2) (show 9+2<=32 by decide);have a11:H2.cell (h.next,11)=some (.int .i64 rr.va.1):=o.cell 11;have optN:∀ {z:SmR},rr.has=false->oI rr z=z:=fun {z} h=>by unfold oI;rw [h];rfl
 cases hk with
 | let_ hn ht hv=>
  have e1:eA 1 1=true:=rfl;simp only [Nat.zero_add,bA,vA,kA,a0,e1,a3,cond_true];rw [tD (by omega),aA,hn];have g1:H2.cells (h.next,4) 4=some (.agg (tyc rr.ty)):=o.cells (j:=4) (m:=4) (show 4+4<=32 by decide);simp only [cond_true];rw [g1,vJ];obtain ⟨H3,g2,c3⟩:=kA3 (N:=N) (by omega) ht pk x1;rw [g2,aA];have cc3:Chg [H1.next] H2 H3:=c3.mono (by simp);simp only [cond_true];rw [aX cc3,gG];obtain ⟨H4,e4,c4⟩:=fAn hN rr (by rw [q8];exact hv) (pX cc3) (dX cc3 x3);have e4':f197 N (tS (smv rr)) H3=some (true,H4):=e4;rw [e4',aA,aA]
  try simp only [fA,Nat.zero_add]
  obtain ⟨H5,p5,w5,c5,n5⟩:=((w.call c3).call c4).set (j:=2) (vs:=[(.bool false)]) (show 2+1<=32 by decide) (ds:=smc { rr with m:=false }) (by simp only [smc,smx,smv];rfl);obtain ⟨H6,p6,w6,c6,n6⟩:=w5.set (j:=3) (vs:=[(.str [])]) (show 3+1<=32 by decide) (ds:=smc { rr with m:=false,nm:=[] }) (by simp only [smc,smx,smv];rfl);obtain ⟨H7,p7,w7,c7,n7⟩:=w6.set (j:=4) (vs:=[(.int .i64 0),(.str []),(.slice none 0 0 0),(.slice none 0 0 0)]) (show 4+4<=32 by decide) (ds:=smc { rr with m:=false,nm:=[],ty:=yW }) (by simp only [smc,smx,smv];rfl);rw [p5,p6,p7];have cc7:Chg [H1.next] H2 H7:=(((cc3.trans (c4.mono (by simp))).trans c5).trans c6).trans c7
  try simp only [fA,uA,iB,cond_true,Nat.zero_add]
  have hx:∀ {H':Heap},Chg [H1.next] H2 H'->Dt H' (fun A=>A<h.next) vR (smc (oI rr { { rr with m:=false,nm:=[],ty:=yW } with k:=0,at_:=0 })):=by
   intro H' cc;have ek:eA rr.k 1=true:=by rw [q0];rfl
   rcases hv with ⟨h1,_⟩ | ⟨h1,h2⟩
   ·have ez:∀ z:SmR,oI rr z = { z with has:=false,va:=va0 }:=fun z=>by unfold oI;rw [q8,h1,ek];rfl
    rw [ez];exact vI (r:={ rr with m:=false,nm:=[],ty:=yW,k:=0,at_:=0,has:=false,va:=va0 }) (dAm _ _ _ _) (dX cc x2) (pA0 _ _) (dX cc x4) (sX cc x5) (sX cc x6)
   ·rw [optN (by rw [q8,h1])]
    have y:=vI (r:={ rr with m:=false,nm:=[],ty:=yW,k:=0,at_:=0 }) (dAm _ _ _ _) (dX cc x2) (dX cc x3) (dX cc x4) (sX cc x5) (sX cc x6);rw [h2] at y;have y':Dt _ (fun A=>A<h.next) (smT 0 0 false [] ty0D rr.has pl0 va00 op0 [] []) (smc { rr with m:=false,nm:=[],ty:=yW,k:=0,at_:=0 }):=y;have e:smT 0 0 false [] ty0D rr.has pl0 va00 op0 [] []=vR:=by rw [q8,h1];rfl
    rw [e] at y';exact y'
  obtain ⟨F3,F4,F5,Fh,f1,f2,f3,f4,f5,f6,f7⟩:=fin w7 cc7 hx;rw [f1,f2,f3,gG,f4,gG,f5,aA,f6,aA];exact ⟨Fh,rfl,f7⟩
 | set hn hx hv=>
  have e1:eA 2 1=false:=rfl;have e2:eA 2 2=true:=rfl;simp only [Nat.zero_add,bA,vA,a0,e1,e2,cond_true,cond_false];rw [a9,jH];obtain ⟨H3,g2,c3⟩:=lA3 (N:=N) (by omega) ⟨_,_,rfl,hn,hx⟩ x2;rw [g2,aA];have cc3:Chg [H1.next] H2 H3:=c3.mono (by simp);simp only [cond_true];have g3:H3.cells (h.next,11) 15=some (.agg (vac rr.va)):=(oX cc3).cells (j:=11) (m:=15) (show 11+15<=32 by decide);rw [g3,pN];obtain ⟨H4,e4,c4⟩:=eAc hN hv (pX cc3) (dX cc3 x3);have e4':f199 N (tV rr.va) H3=some (true,H4):=e4;rw [e4',aA,aA]
  try simp only [fA,Nat.zero_add]
  obtain ⟨H5,p5,w5,c5,n5⟩:=((w.call c3).call c4).set (j:=9) (vs:=[(.str []),(.slice none 0 0 0)]) (show 9+2<=32 by decide) (ds:=smc { rr with pl:=lf0 }) (by simp only [smc,smx,smv];rfl);obtain ⟨H6,p6,w6,c6,n6⟩:=w5.set (j:=11) (vs:=yZB) (show 11+15<=32 by decide) (ds:=smc { rr with pl:=lf0,va:=va0 }) (by simp only [smc,smx,smv];rfl);rw [p5,p6];have cc6:Chg [H1.next] H2 H6:=((cc3.trans (c4.mono (by simp))).trans c5).trans c6
  try simp only [fA,uA,iB,cond_true,Nat.zero_add]
  have hx:∀ {H':Heap},Chg [H1.next] H2 H'->Dt H' (fun A=>A<h.next) vR (smc (oI rr { { rr with pl:=lf0,va:=va0 } with k:=0,at_:=0 })):=by
   intro H' cc;rw [optN (by rw [q8])];have y:=vI (r:={ { rr with pl:=lf0,va:=va0 } with k:=0,at_:=0 }) (dX cc x1) (wW _ _) (pA0 _ _) (dX cc x4) (sX cc x5) (sX cc x6);have y':Dt _ (fun A=>A<h.next) (smT 0 0 rr.m rr.nm ty0D rr.has pl0 va00 op0 [] []) (smc { { rr with pl:=lf0,va:=va0 } with k:=0,at_:=0 }):=y;have e:smT 0 0 rr.m rr.nm ty0D rr.has pl0 va00 op0 [] []=vR:=by rw [q2,q3,q8];rfl
   rw [e] at y';exact y'
  obtain ⟨F3,F4,F5,Fh,f1,f2,f3,f4,f5,f6,f7⟩:=fin w6 cc6 hx;rw [f1,f2,f3,gG,f4,gG,f5,aA,f6,aA];exact ⟨Fh,rfl,f7⟩
 | call hn hag=>
  have e1:eA 3 1=false:=rfl;have e2:eA 3 2=false:=rfl;have e3:eA 3 3=true:=rfl;simp only [Nat.zero_add,bA,vA,a0,e1,e2,e3,cond_true,cond_false];have hva:mayVa (vaD 6 op0 op0 0 pl0 _ [] _):=mayVa.call hn hag;obtain ⟨ra,rb,rp',u1,u2,hcv,_⟩:=bH wD wD eF x3;have hv6:rr.va.1=6:=by rw [gF hcv];rfl
  have e66:eA rr.va.1 6=true:=by rw [hv6];rfl
  simp only [a11,bA,vA,e66,cond_true];have g3:H2.cells (h.next,11) 15=some (.agg (vac rr.va)):=o.cells (j:=11) (m:=15) (show 11+15<=32 by decide);rw [g3,pN];obtain ⟨H4,e4,c4⟩:=eAc hN hva pk x3;have e4':f199 N (tV rr.va) H2=some (true,H4):=e4;rw [e4',aA,aA]
  try simp only [fA,Nat.zero_add]
  obtain ⟨H6,p6,w6,c6,n6⟩:=(w.call c4).set (j:=11) (vs:=yZB) (show 11+15<=32 by decide) (ds:=smc { rr with va:=va0 }) (by simp only [smc,smx,smv];rfl);rw [p6];have cc6:Chg [H1.next] H2 H6:=Chg.trans (c4.mono (by simp)) c6
  try simp only [fA,uA,iB,cond_true,Nat.zero_add]
  have hx:∀ {H':Heap},Chg [H1.next] H2 H'->Dt H' (fun A=>A<h.next) vR (smc (oI rr { { rr with va:=va0 } with k:=0,at_:=0 })):=by
   intro H' cc;rw [optN (by rw [q8])];have y:=vI (r:={ { rr with va:=va0 } with k:=0,at_:=0 }) (dX cc x1) (dX cc x2) (pA0 _ _) (dX cc x4) (sX cc x5) (sX cc x6);have y':Dt _ (fun A=>A<h.next) (smT 0 0 rr.m rr.nm ty0D rr.has pl0 va00 op0 [] []) (smc { { rr with va:=va0 } with k:=0,at_:=0 }):=y;have e:smT 0 0 rr.m rr.nm ty0D rr.has pl0 va00 op0 [] []=vR:=by rw [q2,q3,q8];rfl
   rw [e] at y';exact y'
  obtain ⟨F3,F4,F5,Fh,f1,f2,f3,f4,f5,f6,f7⟩:=fin w6 cc6 hx;rw [f1,f2,f3,gG,f4,gG,f5,aA,f6,aA];exact ⟨Fh,rfl,f7⟩
 | if_ h0 hco he=>
  have e1:eA 4 1=false:=rfl;have e2:eA 4 2=false:=rfl;have e3:eA 4 3=false:=rfl;have e4:eA 4 4=true:=rfl;simp only [Nat.zero_add,bA,vA,a0,e1,e2,e3,e4,cond_true,cond_false]
  cases hs with
  | false=>
   simp only [a8,bA,uB,Bool.not_false,cond_true,fA,uA,Nat.zero_add];obtain rfl:=he rfl;obtain ⟨H3,H4,g1,g2,g3,g4,g5⟩:=one (ds:=smc { rr with co:=dF }) w (Chg.refl _ _) hco x4 rfl (by simp only [smc,smx,smv];rfl);rw [g1,dH,g2];simp only [aA,fA,Nat.zero_add];rw [g3];simp only [fA,uA,cond_true,Nat.zero_add];obtain ⟨H5,H6,k1,k2,k3,k4,k5⟩:=inn (ds:=smc { rr with co:=dF,th:=sl0 }) h0 g4 g5 x5 rfl (by simp only [smc,smx,smv];rfl);simp only [k1,bA,jA];rw [k2,aA,aA]
   try simp only [fA,Nat.zero_add]
   rw [k3]
   try simp only [fA,uA,iB,cond_true,Nat.zero_add]
   have hx:∀ {H':Heap},Chg [H1.next] H2 H'->Dt H' (fun A=>A<h.next) vR (smc (oI rr { { rr with co:=dF,th:=sl0 } with k:=0,at_:=0 })):=by
    intro H' cc;rw [optN (by rw [q8])];have y:=vI (r:={ { rr with co:=dF,th:=sl0 } with k:=0,at_:=0 }) (dX cc x1) (dX cc x2) (dX cc x3) (yN _ _) (Sl.nil _ _ _) (sX cc x6);have y':Dt _ (fun A=>A<h.next) (smT 0 0 rr.m rr.nm ty0D rr.has pl0 va00 op0 [] []) (smc { { rr with co:=dF,th:=sl0 } with k:=0,at_:=0 }):=y;have e:smT 0 0 rr.m rr.nm ty0D rr.has pl0 va00 op0 [] []=vR:=by rw [q2,q3,q8];rfl
    grind
   obtain ⟨F3,F4,F5,Fh,f1,f2,f3,f4,f5,f6,f7⟩:=fin k4 k5 hx;rw [f1,f2,f3,gG,f4,gG,f5,aA,f6,aA];exact ⟨Fh,rfl,f7⟩
  | true=>
   have a31:H2.cell (h.next,31)=some (yL rr.el):=o.cell 31;obtain ⟨H0,e0,c0⟩:=hb el rr.el H2 (.inr rfl) h0 pk x6;simp only [a8,bA,uB,Bool.not_true,cond_false,a31,jA];rw [e0];simp only [fA,uA,aA,Nat.zero_add,cond_true];obtain ⟨H3,H4,g1,g2,g3,g4,g5⟩:=one (ds:=smc { rr with co:=dF }) (w.call c0) (c0.mono (by simp)) hco x4 rfl (by simp only [smc,smx,smv];rfl);rw [g1,dH,g2];simp only [aA,fA,Nat.zero_add];rw [g3];simp only [fA,uA,cond_true,Nat.zero_add];obtain ⟨H5,H6,k1,k2,k3,k4,k5⟩:=inn (ds:=smc { rr with co:=dF,th:=sl0 }) h0 g4 g5 x5 rfl (by simp only [smc,smx,smv];rfl);simp only [k1,bA,jA];rw [k2,aA,aA]
   try simp only [fA,Nat.zero_add]
   rw [k3]
   try simp only [fA,uA,iB,cond_true,Nat.zero_add]
   have hx:∀ {H':Heap},Chg [H1.next] H2 H'->Dt H' (fun A=>A<h.next) vR (smc (oI rr { { rr with co:=dF,th:=sl0 } with k:=0,at_:=0 })):=by
    intro H' cc;have ek1:eA rr.k 1=false:=by rw [q0];rfl
    have ek2:eA rr.k 10=false:=by rw [q0];rfl
    have ek3:eA rr.k 4=true:=by rw [q0];rfl
    have ez:∀ z:SmR,oI rr z = { z with has:=false,el:=sl0 }:=fun z=>by unfold oI;rw [q8,ek1,ek2,ek3];rfl
    rw [ez];have y:=vI (r:={ rr with co:=dF,th:=sl0,k:=0,at_:=0,has:=false,el:=sl0 }) (dX cc x1) (dX cc x2) (dX cc x3) (yN _ _) (Sl.nil _ _ _) (Sl.nil _ _ _);have y':Dt _ (fun A=>A<h.next) (smT 0 0 rr.m rr.nm ty0D false pl0 va00 op0 [] []) (smc { rr with co:=dF,th:=sl0,k:=0,at_:=0,has:=false,el:=sl0 }):=y;have e:smT 0 0 rr.m rr.nm ty0D false pl0 va00 op0 [] []=vR:=by rw [q2,q3];rfl
    grind
   obtain ⟨F3,F4,F5,Fh,f1,f2,f3,f4,f5,f6,f7⟩:=fin k4 k5 hx;rw [f1,f2,f3,gG,f4,gG,f5,aA,f6,aA];exact ⟨Fh,rfl,f7⟩
 | while_ h0 hco=>
  have e1:eA 5 1=false:=rfl;have e2:eA 5 2=false:=rfl;have e3:eA 5 3=false:=rfl;have e4:eA 5 4=false:=rfl;have e5:eA 5 5=true:=rfl;simp only [Nat.zero_add,bA,vA,a0,e1,e2,e3,e4,e5,cond_true,cond_false,fA,uA];obtain ⟨H3,H4,g1,g2,g3,g4,g5⟩:=one (ds:=smc { rr with co:=dF }) w (Chg.refl _ _) hco x4 rfl (by simp only [smc,smx,smv];rfl);rw [g1,dH,g2];simp only [aA,fA,Nat.zero_add];rw [g3];simp only [fA,uA,cond_true,Nat.zero_add];obtain ⟨H5,H6,k1,k2,k3,k4,k5⟩:=inn (ds:=smc { rr with co:=dF,th:=sl0 }) h0 g4 g5 x5 rfl (by simp only [smc,smx,smv];rfl);simp only [k1,bA,jA];rw [k2,aA,aA]
  try simp only [fA,Nat.zero_add]
  rw [k3]
  try simp only [fA,uA,iB,cond_true,Nat.zero_add]
  have hx:∀ {H':Heap},Chg [H1.next] H2 H'->Dt H' (fun A=>A<h.next) vR (smc (oI rr { { rr with co:=dF,th:=sl0 } with k:=0,at_:=0 })):=by
   intro H' cc;rw [optN (by rw [q8])];have y:=vI (r:={ { rr with co:=dF,th:=sl0 } with k:=0,at_:=0 }) (dX cc x1) (dX cc x2) (dX cc x3) (yN _ _) (Sl.nil _ _ _) (sX cc x6);have y':Dt _ (fun A=>A<h.next) (smT 0 0 rr.m rr.nm ty0D rr.has pl0 va00 op0 [] []) (smc { { rr with co:=dF,th:=sl0 } with k:=0,at_:=0 }):=y;have e:smT 0 0 rr.m rr.nm ty0D rr.has pl0 va00 op0 [] []=vR:=by rw [q2,q3,q8];rfl
   grind
  obtain ⟨F3,F4,F5,Fh,f1,f2,f3,f4,f5,f6,f7⟩:=fin k4 k5 hx;rw [f1,f2,f3,gG,f4,gG,f5,aA,f6,aA];exact ⟨Fh,rfl,f7⟩
 | loop h0=>
  have e1:eA 6 1=false:=rfl;have e2:eA 6 2=false:=rfl;have e3:eA 6 3=false:=rfl;have e4:eA 6 4=false:=rfl;have e5:eA 6 5=false:=rfl;have e6:eA 6 6=true:=rfl;simp only [Nat.zero_add,bA,vA,a0,e1,e2,e3,e4,e5,e6,cond_true,cond_false,fA,uA,iB];obtain ⟨H5,H6,k1,k2,k3,k4,k5⟩:=inn (ds:=smc { rr with th:=sl0 }) h0 w (Chg.refl _ _) x5 rfl (by simp only [smc,smx,smv];rfl);simp only [k1,bA,jA];rw [k2,aA,aA]
  try simp only [fA,Nat.zero_add]
  rw [k3]
  try simp only [fA,uA,iB,cond_true,Nat.zero_add]
  have hx:∀ {H':Heap},Chg [H1.next] H2 H'->Dt H' (fun A=>A<h.next) vR (smc (oI rr { { rr with th:=sl0 } with k:=0,at_:=0 })):=by
   intro H' cc;rw [optN (by rw [q8])];have y:=vI (r:={ { rr with th:=sl0 } with k:=0,at_:=0 }) (dX cc x1) (dX cc x2) (dX cc x3) (dX cc x4) (Sl.nil _ _ _) (sX cc x6);have y':Dt _ (fun A=>A<h.next) (smT 0 0 rr.m rr.nm ty0D rr.has pl0 va00 op0 [] []) (smc { { rr with th:=sl0 } with k:=0,at_:=0 }):=y;have e:smT 0 0 rr.m rr.nm ty0D rr.has pl0 va00 op0 [] []=vR:=by rw [q2,q3,q8];rfl
   grind
  obtain ⟨F3,F4,F5,Fh,f1,f2,f3,f4,f5,f6,f7⟩:=fin k4 k5 hx;rw [f1,f2,f3,gG,f4,gG,f5,aA,f6,aA];exact ⟨Fh,rfl,f7⟩
 | block h0=>
  have e1:eA 7 1=false:=rfl;have e2:eA 7 2=false:=rfl;have e3:eA 7 3=false:=rfl;have e4:eA 7 4=false:=rfl;have e5:eA 7 5=false:=rfl;have e6:eA 7 6=false:=rfl;have e7:eA 7 7=true:=rfl;simp only [Nat.zero_add,bA,vA,a0,e1,e2,e3,e4,e5,e6,e7,cond_true,cond_false,fA,uA,iB];obtain ⟨H5,H6,k1,k2,k3,k4,k5⟩:=inn (ds:=smc { rr with th:=sl0 }) h0 w (Chg.refl _ _) x5 rfl (by simp only [smc,smx,smv];rfl);simp only [k1,bA,jA];rw [k2,aA,aA]
  try simp only [fA,Nat.zero_add]
  rw [k3]
  try simp only [fA,uA,iB,cond_true,Nat.zero_add]
  have hx:∀ {H':Heap},Chg [H1.next] H2 H'->Dt H' (fun A=>A<h.next) vR (smc (oI rr { { rr with th:=sl0 } with k:=0,at_:=0 })):=by
   intro H' cc;rw [optN (by rw [q8])];have y:=vI (r:={ { rr with th:=sl0 } with k:=0,at_:=0 }) (dX cc x1) (dX cc x2) (dX cc x3) (dX cc x4) (Sl.nil _ _ _) (sX cc x6);have y':Dt _ (fun A=>A<h.next) (smT 0 0 rr.m rr.nm ty0D rr.has pl0 va00 op0 [] []) (smc { { rr with th:=sl0 } with k:=0,at_:=0 }):=y;have e:smT 0 0 rr.m rr.nm ty0D rr.has pl0 va00 op0 [] []=vR:=by rw [q2,q3,q8];rfl
   grind
  obtain ⟨F3,F4,F5,Fh,f1,f2,f3,f4,f5,f6,f7⟩:=fin k4 k5 hx;rw [f1,f2,f3,gG,f4,gG,f5,aA,f6,aA];exact ⟨Fh,rfl,f7⟩
 | break_=>
  have e1:eA 8 1=false:=rfl;have e2:eA 8 2=false:=rfl;have e3:eA 8 3=false:=rfl;have e4:eA 8 4=false:=rfl;have e5:eA 8 5=false:=rfl;have e6:eA 8 6=false:=rfl;have e7:eA 8 7=false:=rfl;have e10:eA 8 10=false:=rfl;have e11:eA 8 11=false:=rfl;have e8:eA 8 8=true:=rfl;simp only [Nat.zero_add,bA,vA,a0,e1,e2,e3,e4,e5,e6,e7,e10,e11,e8,cond_true,cond_false,fA,uA,iB];have hx:∀ {H':Heap},Chg [H1.next] H2 H'->Dt H' (fun A=>A<h.next) vR (smc (oI rr { rr with k:=0,at_:=0 })):=by
   intro H' cc;rw [optN (by rw [q8])];have y:=vI (r:={ rr with k:=0,at_:=0 }) (dX cc x1) (dX cc x2) (dX cc x3) (dX cc x4) (sX cc x5) (sX cc x6);have y':Dt _ (fun A=>A<h.next) (smT 0 0 rr.m rr.nm ty0D rr.has pl0 va00 op0 [] []) (smc { rr with k:=0,at_:=0 }):=y;have e:smT 0 0 rr.m rr.nm ty0D rr.has pl0 va00 op0 [] []=vR:=by rw [q2,q3,q8];rfl
   grind
  obtain ⟨F3,F4,F5,Fh,f1,f2,f3,f4,f5,f6,f7⟩:=fin w (Chg.refl _ _) hx;rw [f1,f2,f3,gG,f4,gG,f5,aA,f6,aA];exact ⟨Fh,rfl,f7⟩
 | cont=>
  have e1:eA 9 1=false:=rfl;have e2:eA 9 2=false:=rfl;have e3:eA 9 3=false:=rfl;have e4:eA 9 4=false:=rfl;have e5:eA 9 5=false:=rfl;have e6:eA 9 6=false:=rfl;have e7:eA 9 7=false:=rfl;have e10:eA 9 10=false:=rfl;have e11:eA 9 11=false:=rfl;have e8:eA 9 8=false:=rfl;have e9:eA 9 9=true:=rfl;simp only [Nat.zero_add,bA,vA,a0,e1,e2,e3,e4,e5,e6,e7,e10,e11,e8,e9,cond_true,cond_false,fA,uA,iB];have hx:∀ {H':Heap},Chg [H1.next] H2 H'->Dt H' (fun A=>A<h.next) vR (smc (oI rr { rr with k:=0,at_:=0 })):=by
   intro H' cc;rw [optN (by rw [q8])];have y:=vI (r:={ rr with k:=0,at_:=0 }) (dX cc x1) (dX cc x2) (dX cc x3) (dX cc x4) (sX cc x5) (sX cc x6);have y':Dt _ (fun A=>A<h.next) (smT 0 0 rr.m rr.nm ty0D rr.has pl0 va00 op0 [] []) (smc { rr with k:=0,at_:=0 }):=y;have e:smT 0 0 rr.m rr.nm ty0D rr.has pl0 va00 op0 [] []=vR:=by rw [q2,q3,q8];rfl
   grind
  obtain ⟨F3,F4,F5,Fh,f1,f2,f3,f4,f5,f6,f7⟩:=fin w (Chg.refl _ _) hx;rw [f1,f2,f3,gG,f4,gG,f5,aA,f6,aA];exact ⟨Fh,rfl,f7⟩
 | ret hv=>
  have e1:eA 10 1=false:=rfl;have e2:eA 10 2=false:=rfl;have e3:eA 10 3=false:=rfl;have e4:eA 10 4=false:=rfl;have e5:eA 10 5=false:=rfl;have e6:eA 10 6=false:=rfl;have e7:eA 10 7=false:=rfl;have e10:eA 10 10=true:=rfl;simp only [Nat.zero_add,bA,vA,a0,e1,e2,e3,e4,e5,e6,e7,e10,cond_true,cond_false,fA,uA,iB];have cc0:Chg [H1.next] H2 H2:=Chg.refl _ _;rw [aX cc0,gG];obtain ⟨H4,e4,c4⟩:=fAn hN rr (by rw [q8];exact hv) pk x3;have e4':f197 N (tS (smv rr)) H2=some (true,H4):=e4;rw [e4',aA]
  try simp only [fA,uA,iB,cond_true,Nat.zero_add]
  have hx:∀ {H':Heap},Chg [H1.next] H2 H'->Dt H' (fun A=>A<h.next) vR (smc (oI rr { rr with k:=0,at_:=0 })):=by
   intro H' cc;have ek1:eA rr.k 1=false:=by rw [q0];rfl
   have ek2:eA rr.k 10=true:=by rw [q0];rfl
   rcases hv with ⟨h1,_⟩ | ⟨h1,h2⟩
   ·have ez:∀ z:SmR,oI rr z = { z with has:=false,va:=va0 }:=fun z=>by unfold oI;rw [q8,h1,ek1,ek2];rfl
    rw [ez];have y:=vI (r:={ rr with k:=0,at_:=0,has:=false,va:=va0 }) (dX cc x1) (dX cc x2) (pA0 _ _) (dX cc x4) (sX cc x5) (sX cc x6);have y':Dt _ (fun A=>A<h.next) (smT 0 0 rr.m rr.nm ty0D false pl0 va00 op0 [] []) (smc { rr with k:=0,at_:=0,has:=false,va:=va0 }):=y;have e:smT 0 0 rr.m rr.nm ty0D false pl0 va00 op0 [] []=vR:=by rw [q2,q3];rfl
    rw [e] at y';exact y'
   ·rw [optN (by rw [q8,h1])]
    have y:=vI (r:={ rr with k:=0,at_:=0 }) (dX cc x1) (dX cc x2) (dX cc x3) (dX cc x4) (sX cc x5) (sX cc x6);rw [h2] at y;have y':Dt _ (fun A=>A<h.next) (smT 0 0 rr.m rr.nm ty0D rr.has pl0 va00 op0 [] []) (smc { rr with k:=0,at_:=0 }):=y;have e:smT 0 0 rr.m rr.nm ty0D rr.has pl0 va00 op0 [] []=vR:=by rw [q2,q3,q8,h1];rfl
    rw [e] at y';exact y'
  obtain ⟨F3,F4,F5,Fh,f1,f2,f3,f4,f5,f6,f7⟩:=fin (w.call c4) (c4.mono (by simp)) hx;rw [f1,f2,f3,gG,f4,gG,f5,aA,f6,aA];exact ⟨Fh,rfl,f7⟩
 | drop hp=>
  have e1:eA 11 1=false:=rfl;have e2:eA 11 2=false:=rfl;have e3:eA 11 3=false:=rfl;have e4:eA 11 4=false:=rfl;have e5:eA 11 5=false:=rfl;have e6:eA 11 6=false:=rfl;have e7:eA 11 7=false:=rfl;have e10:eA 11 10=false:=rfl;have e11:eA 11 11=true:=rfl;simp only [Nat.zero_add,bA,vA,a0,e1,e2,e3,e4,e5,e6,e7,e10,e11,cond_true,cond_false,fA,uA,iB];rw [a9,jH];obtain ⟨H3,g2,c3⟩:=lA3 (N:=N) (by omega) hp x2;rw [g2,aA]
  try simp only [fA,Nat.zero_add]
  obtain ⟨H5,p5,w5,c5,n5⟩:=(w.call c3).set (j:=9) (vs:=[(.str []),(.slice none 0 0 0)]) (show 9+2<=32 by decide) (ds:=smc { rr with pl:=lf0 }) (by simp only [smc,smx,smv];rfl);rw [p5];have cc5:Chg [H1.next] H2 H5:=Chg.trans (c3.mono (by simp)) c5
  try simp only [fA,uA,cond_true,Nat.zero_add]
  have hx:∀ {H':Heap},Chg [H1.next] H2 H'->Dt H' (fun A=>A<h.next) vR (smc (oI rr { { rr with pl:=lf0 } with k:=0,at_:=0 })):=by
   intro H' cc;rw [optN (by rw [q8])];have y:=vI (r:={ { rr with pl:=lf0 } with k:=0,at_:=0 }) (dX cc x1) (wW _ _) (dX cc x3) (dX cc x4) (sX cc x5) (sX cc x6);have y':Dt _ (fun A=>A<h.next) (smT 0 0 rr.m rr.nm ty0D rr.has pl0 va00 op0 [] []) (smc { { rr with pl:=lf0 } with k:=0,at_:=0 }):=y;have e:smT 0 0 rr.m rr.nm ty0D rr.has pl0 va00 op0 [] []=vR:=by rw [q2,q3,q8];rfl
   grind
  obtain ⟨F3,F4,F5,Fh,f1,f2,f3,f4,f5,f6,f7⟩:=fin w5 cc5 hx;rw [f1,f2,f3,gG,f4,gG,f5,aA,f6,aA];exact ⟨Fh,rfl,f7⟩
end
end Qp
namespace Qp
abbrev tF (v:FuV):FuV:=v
section
variable {N:Nat} {h:Heap} {V:Nat->Prop}
theorem oA3 {rec125 rec174} {m:Nat} {deep:Int} {xs:List D} (ht:∀ x∈xs,vS m x) (hF:∀ x∈xs,∀ (r:SmV) (H:Heap),PK H->Dt H V x (smx r)->∃ H',rec174 r deep H=some (true,H')/\Chg [] H H') (hl:xs.length<=3000) {s:SL}:∀ (M i:Nat) (h:Heap),i<=xs.length->xs.length-i<M->PK h->Sl h V s xs->∃ h',qX N rec125 rec174 M deep false s (xs.length:Int) (i:Int) h=some (.exit 0,(false,()),h')/\Chg [] h h':=by
 intro M
 induction M with
 | zero=>intro i h _ h;omega
 | succ M ih=>
  intro i h hi hM pk x;rw [fT];unfold qQ;simp only [rB]
  by_cases q:i<xs.length
  ·simp only [q,decide_true,cond_true]
   have hm:=List.getElem_mem q;obtain ⟨r,g,d⟩:=(cL m).elt x q (ht _ hm);rw [x.ix q 32,g,gG];obtain ⟨h5,p5,c5,o5⟩:=(cL m).park (z:=smx (smv (mE 0))) rfl h r;have p5':∀ {β:Type} (K:Heap->Option β),bB ((h.push (.row yZA .own)).store (h.next,0) (yRA r)) K=K h5:=p5;rw [p5',(cL m).cells o5];obtain ⟨h6,e6,c6⟩:=hF _ hm r h5 (pk.chg c5) (Dt.chg c5 (by simp) d);have e6':rec174 (tS r) deep h5=some (true,h6):=e6;rw [e6',aA];simp only [Bool.not_true,cond_false];rw [aB (by omega)];have c06:=c5.trans c6;obtain ⟨h',e',c'⟩:=ih (i+1) h6 q (by omega) (pk.chg c06) (x.chg c06 (by simp));exact ⟨h',e',c06.trans c'⟩
  ·simp only [q,decide_false,cond_false]
   exact ⟨h,rfl,Chg.refl _ _⟩
theorem pA3 {k m:Nat} {d:D} (hd:bG (k+1) d) (ti:vS (m+1) d) {l:List D} (hl:l=thD d\/l=elD d):(∀ x∈l,bG k x)/\(∀ x∈l,vS m x)/\l.length<=3000:=by
 obtain ⟨kk,a,mu,nm,ty,hs,pl,va,co,th,el,rfl,hth,hel,hk⟩:=hd;obtain ⟨_,_,_,_,l1,l2,i1,i2⟩:=dY ti;rcases hl with rfl | rfl
 ·exact ⟨hth,i1,l1⟩
 grind
theorem vAx (hN:3001<=N):∀ (n M:Nat) (xs:List D) (s1:SL) (h:Heap) (V:Nat->Prop),2 * n<=M->n<=64->0<n->(∀ x∈xs,bG n x)->(∀ x∈xs,vS (n+1) x)->xs.length<=3000->PK h->Sl h V s1 xs->∃ h',f125 N M s1 ((65-n:Nat):Int) h=some (true,h')/\Chg [] h h':=by
 intro n
 induction n with
 | zero=>grind
 | succ k ih=>
  intro M xs s1 h V hM hn _ hx ti hl pk x;obtain ⟨M,rfl⟩:∃ m,M=m+2:=⟨M-2,by omega⟩;rw [rX];unfold eA8;have z:ltInt 64 ((65-(k+1):Nat):Int)=false:=by grind [ltI,decide_eq_false_iff_not]
  simp only [z,cond_false];obtain ⟨h',e,c⟩:=oA3 (N:=N) (rec125:=f125 N (M+1)) (rec174:=f174 N (M+1)) (deep:=((65-(k+1):Nat):Int)) (m:=k+2) ti (fun x hm r H pkH d=>by
   show ∃ H',f174 N (M+1) r _ H=_/\_;rw [fA8];refine uAx hN (hx x hm) (ti x hm) pkH d fun l s2 H2 hl h0 pk2 sl=>?_
   grind [pA3,jB,aB]) hl N 0 h (Nat.zero_le _) (by omega) pk x
  rw [show ((0:Nat):Int)=0 from rfl] at e;have l1:s1.len=xs.length:=x.len;rw [l1,show Int.ofNat xs.length=(xs.length:Int) from rfl,e];exact ⟨h',rfl,c⟩
def aB8 (n:Nat) (d:D):Nat:=qG n (thD d)+qG n (elD d)
theorem tAr (n:Nat) (l:List D):qG (n+1) l=l.length+(l.map (aB8 n)).sum:=rfl
theorem uAr {l:List D} {f:D->Nat} {i:Nat} (hi:i<l.length):((l.drop i).map f).sum=f l[i]+((l.drop (i+1)).map f).sum:=by
 rw [List.drop_eq_getElem_cons hi,List.map_cons,List.sum_cons]
theorem wA0 {rec126} {m n:Nat} {xs:List D} (ht:∀ x∈xs,vS (m+1) x) (hF:∀ x∈xs,∀ (l:List D) (s2:SL) (H:Heap),(l=thD x\/l=elD x)->qG n l<=2000->Sl H V s2 l->∃ H',rec126 s2 H=some (((qG n l:Nat):Int),H')/\Chg [] H H') (hl:xs.length<=3000) {s:SL}:∀ (M i v:Nat) (h:Heap),i<=xs.length->xs.length-i<M->v+((xs.drop i).map (aB8 n)).sum<=2000->Sl h V s xs->∃ h',tX N rec126 M (v:Int) s (xs.length:Int) (i:Int) h=some (.exit 0,(((v+((xs.drop i).map (aB8 n)).sum:Nat):Int),()),h')/\Chg [] h h':=by
 intro M
 induction M with
 | zero=>intro i v h _ h;omega
 | succ M ih=>
  intro i v h hi hM hv x;rw [gT];unfold rQ;simp only [rB]
  by_cases q:i<xs.length
  ·simp only [q,decide_true,cond_true]
   have hm:=List.getElem_mem q;obtain ⟨r,g,d⟩:=(cL (m+1)).elt x q (ht _ hm);rw [x.ix q 32,g,gG];obtain ⟨h5,p5,c5,o5⟩:=(cL (m+1)).park (z:=smx (smv (mE 0))) rfl h r;have p5':∀ {β:Type} (K:Heap->Option β),bB ((h.push (.row yZA .own)).store (h.next,0) (yRA r)) K=K h5:=p5;rw [p5'];rw [uAr q] at hv ⊢;have hti:=ht _ hm;have hFx:=hF _ hm;obtain ⟨kk,a,mu,nm,ty,hs,pl,va,co,th,el,hd,t1,t2,t3,t4,_⟩:=hti;rw [hd] at d hFx;have hcs:aB8 n xs[i]=qG n th+qG n el:=by rw [hd];rfl
   rw [hcs] at hv ⊢;obtain ⟨rt,rp,rv,ro,s1,s2,hc,_,_,_,_,x5,x6⟩:=iQ t1 t2 t3 t4 d;have hr:=(cL (m+1)).inj (r':=smv ⟨kk,a,mu,nm,rt,hs,rp,rv,ro,s1,s2⟩) hc;subst hr;have a30:h5.cell (h.next,30)=some (yL s1):=o5.cell 30;have a31:h5.cell (h.next,31)=some (yL s2):=o5.cell 31;simp only [Nat.zero_add,a30,bA,jA];obtain ⟨h6,e6,c6⟩:=hFx th s1 h5 (.inl rfl) (by omega) (x5.chg c5 (by simp));have e6':rec126 s1 h5=some (((qG n th:Nat):Int),h6):=e6;rw [e6',aA];have b31:h6.cell (h.next,31)=some (yL s2):=(o5.chg c6 (by simp)).cell 31;simp only [b31,bA,jA];obtain ⟨h7,e7,c7⟩:=hFx el s2 h6 (.inr rfl) (by omega) (x6.chg (c5.trans c6) (by simp));have e7':rec126 s2 h6=some (((qG n el:Nat):Int),h7):=e7;rw [e7',aA];simp only [a31,nB,cond_true,qB];have w1:jB .i64 (jB .i64 ((v:Int)+((qG n th:Nat):Int))+((qG n el:Nat):Int))=((v+(qG n th+qG n el):Nat):Int):=by
    grind [fD]
   rw [w1,aB (by omega)];have c07:=(c5.trans c6).trans c7;obtain ⟨h',e',c'⟩:=ih (i+1) (v+(qG n th+qG n el)) h7 q (by omega) (by omega) (x.chg c07 (by simp));exact ⟨h',by grind,c07.trans c'⟩
  ·simp only [q,decide_false,cond_false]
   have:i=xs.length:=by omega
   subst this;exact ⟨h,by simp,Chg.refl _ _⟩
theorem wAx (hN:3001<=N):∀ (n M:Nat) (xs:List D) (s1:SL) (h:Heap) (V:Nat->Prop),n+1<=M->(∀ x∈xs,bG n x)->(∀ x∈xs,vS (n+1) x)->xs.length<=3000->qG n xs<=2000->Sl h V s1 xs->∃ h',f126 N M s1 h=some (((qG n xs:Nat):Int),h')/\Chg [] h h':=by
 intro n
 induction n with
 | zero=>
  intro M xs s1 h V hM hx ti hl hc x;obtain ⟨M,rfl⟩:∃ m,M=m+1:=⟨M-1,by omega⟩;have hx0:xs=[]:=by
   cases xs with
   | nil=>rfl
   | cons y r=>exact (hx y (by simp)).elim
  subst hx0;rw [tQ];unfold vA0;have l1:s1.len=0:=x.len;obtain ⟨h',e,c⟩:=wA0 (N:=N) (V:=V) (rec126:=f126 N M) (m:=0) (n:=0) (xs:=[]) (by simp) (by simp) (by simp) N 0 0 h (Nat.zero_le _) (by simp;omega) (by simp) x;rw [l1];rw [show ((0:Nat):Int)=0 from rfl,show (([]:List D).length:Int)=0 from rfl] at e;rw [show Int.ofNat 0=(0:Int) from rfl,e];exact ⟨h',rfl,c⟩
 | succ k ih=>
  intro M xs s1 h V hM hx ti hl hc x;obtain ⟨M,rfl⟩:∃ m,M=m+1:=⟨M-1,by omega⟩;rw [tQ];unfold vA0;have l1:s1.len=xs.length:=x.len;rw [tAr] at hc ⊢;obtain ⟨h',e,c⟩:=wA0 (N:=N) (V:=V) (rec126:=f126 N M) (m:=k+1) (n:=k) ti (fun x hm l s2 H hl hcl sl=>by
   grind [pA3]) hl N 0 xs.length h (Nat.zero_le _) (by omega) (by grind) x
  rw [show ((0:Nat):Int)=0 from rfl,List.drop_zero] at e;rw [l1,show Int.ofNat xs.length=(xs.length:Int) from rfl,e];exact ⟨h',rfl,c⟩
theorem qA3 {d:D} (h:yJ d):isLf d:=by
 obtain ⟨nm,xs,rfl,_,hp⟩:=h;exact ⟨nm,xs,rfl,Nat.le_trans hp.1 (by decide)⟩
theorem rA3 (hN:200<=N) {R:zJ2} {xs:List D} (hx:∀ x∈xs,yJ x) (hl:xs.length<=100) {s:SL}:∀ (M i:Nat) (h:Heap),i<=xs.length->xs.length-i<M->Sl h V s xs->∃ h',vX N M R false s (xs.length:Int) (i:Int) h=some (.exit 0,(R,false,()),h')/\Chg [] h h':=by
 intro M
 induction M with
 | zero=>intro i h _ h;omega
 | succ M ih=>
  intro i h hi hM x;rw [wX];unfold oU;simp only [rB]
  by_cases q:i<xs.length
  ·simp only [q,decide_true,cond_true]
   have hm:=hx _ (List.getElem_mem q);obtain ⟨r,g,d⟩:=tR.elt x q (qA3 hm);rw [x.ix q 2,g,jH];obtain ⟨h5,p5,c5,o5⟩:=tR.park (z:=lfc lf0) rfl h r;have p5':∀ {β:Type} (K:Heap->Option β),bB ((h.push (.row [(.str []),(.slice none 0 0 0)] .own)).store (h.next,0) [(.str r.1),(yL r.2.1)]) K=K h5:=p5;rw [p5'];have d5:=Dt.chg c5 (by simp) d;obtain ⟨nm,ys,hd,hn,hy⟩:=hm;rw [hd] at d5;obtain ⟨s2,hc,y⟩:=iG d5;obtain rfl:=tR.inj hc;have a0:h5.cell (h.next,0)=some (.str nm):=o5.cell 0;have a1:h5.cell (h.next,1)=some (yL s2):=o5.cell 1;simp only [Nat.zero_add,a0,bA,kA];rw [bAc (by omega) hn,aA];simp only [Bool.not_true,cond_false,a1,bA,jA];rw [jA3 hN y hy,aA];simp only [Bool.not_true,cond_false];rw [aB (by omega)];obtain ⟨h',e',c'⟩:=ih (i+1) h5 q (by omega) (x.chg c5 (by simp));exact ⟨h',e',c5.trans c'⟩
  ·simp only [q,decide_false,cond_false]
   exact ⟨h,rfl,Chg.refl _ _⟩
theorem uAf {g:Nat} {d:D} {r:TyV} (hp:dG g d) (x:Dt h V d (tyc r)):eA r.1 0=false:=by
 obtain ⟨p,rfl,hp⟩:=hp
 cases p with
 | int=>
  obtain ⟨t1,t2,hc,_⟩:=qF.1 (show Dt h V (tyD 1 [] [] []) _ from x);rw [(qO 1).inj hc];rfl
 | bool=>
  obtain ⟨t1,t2,hc,_⟩:=qF.1 (show Dt h V (tyD 2 [] [] []) _ from x);rw [(qO 1).inj hc];rfl
 | st nm lv=>
  obtain ⟨t1,t2,hc,_⟩:=qF.1 (show Dt h V (tyD 3 nm lv []) _ from x);rw [(qO 1).inj hc];rfl
 | ref mu lv t=>
  obtain ⟨t1,t2,hc,_⟩:=qF.1 (show Dt h V (tyD (if mu=true then 5 else 4) [] lv [t.D]) _ from x);rw [(qO 1).inj hc];cases mu <;> rfl
theorem cB4 (hN:3001<=N) {d:D} (hd:nI d) (ti:isFu d) {r:FuV} (pk:PK h) (x:Dt h V d (fux r)):∃ h',f80 N r h=some (true,h')/\Chg [] h h':=by
 obtain ⟨pub,nm,lv,ps,ty,bd,a,rfl,hn,hlv,hps,hty,hbd,hct⟩:=hd;have tt:isTy 65 ty/\bd.length<=3000/\∀ s∈bd,vS 65 s:=by
  obtain ⟨pub',nm',lv',ps',ty',bd',a',e,_,_,_,_,h1,h2,h3⟩:=ti;simp only [fuT,D.t.injEq,List.cons.injEq,D.i.injEq,D.b.injEq,D.s.injEq,D.l.injEq,and_true] at e
  grind
 obtain ⟨t1,t2,t3⟩:=tt;obtain ⟨s1,s2,s3,rt,hc,y1,y2,yt,y3⟩:=cA8 t1 x;obtain ⟨rr,hrr⟩:∃ rr:FuR,rr=⟨pub,nm,s1,s2,rt,s3,(a:Int)⟩:=⟨_,rfl⟩;rw [<- hrr] at hc;have hr:r=fuv rr:=iX.inj hc;subst hr;unfold f80;have o:=wA h (fuc rr);have c:=tA h (.row (fuc rr) .own);have e1:h.push (.row (yRD (fuv rr)) .own)=h.push (.row (fuc rr) .own):=rfl;dsimp only;rw [e1];have pk:=pk.chg c;have y1:=y1.chg c (by simp);have y2:=y2.chg c (by simp);have yt:=Dt.chg c (by simp) yt;have y3:=y3.chg c (by simp);generalize h.push (.row (fuc rr) .own)=H at *;have rd:∀ {H':Heap},Chg [] H H'->H'.cell (h.next,1)=some (.str nm)/\H'.cell (h.next,2)=some (yL s1)/\H'.cell (h.next,3)=some (yL s2)/\H'.cell (h.next,4)=some (.int .i64 rt.1)/\H'.cells (h.next,4) 4=some (.agg (tyc rt))/\H'.cell (h.next,8)=some (yL s3):=fun c'=>by
  have o':=o.chg c' (by simp);rw [hrr] at o';exact ⟨o'.cell 1,o'.cell 2,o'.cell 3,o'.cell 4,o'.cells (j:=4) (m:=4) (show 4+4<=10 by decide),o'.cell 8⟩
 obtain ⟨_,a2,_,_,_,_⟩:=rd (Chg.refl _ _);simp only [Nat.zero_add,a2,bA,jA];have l1:s1.len=lv.length:=y1.len;have hle:=hlv.1;obtain ⟨H1,e,c1⟩:=rA3 (N:=N) (by omega) (R:=some (h.next,0)) hlv.2 (by omega) N 0 H (Nat.zero_le _) (by omega) y1;rw [show ((0:Nat):Int)=0 from rfl,show (lv.length:Int)=Int.ofNat s1.len by rw [l1];rfl] at e;have e':vX N N (some (h.next,0)) false s1 (Int.ofNat s1.len) 0 H=some (.exit 0,(some (h.next,0),false,()),H1):=e;rw [e'];obtain ⟨a1,a2,a3,a4,a44,a8⟩:=rd c1;simp only [kB,bC,decide_true,cond_true,fA,Nat.zero_add,a4,bA,vA];have hres:∃ H2,(bif eA rt.1 0 then (dA (.val zE) (H1.cells (h.next,4) 4) fun x24=>mA (f123 N x24 H1) fun x25 h26=>bif x25 then some (((some (h.next,0),true,()):zJ2×Bool×Unit),h26) else (dA (.val zE) (h26.cells (h.next,4) 4) fun x28=>mA (f124 N N x28 1 h26) fun x29 h30=>some ((some (h.next,0),x29,()),h30))) else (dA (.val zE) (H1.cells (h.next,4) 4) fun x32=>mA (f124 N N x32 1 H1) fun x33 h34=>some ((some (h.next,0),x33,()),h34)))=some ((some (h.next,0),true,()),H2)/\Chg [] H1 H2:=by
  rw [a44];rcases hty with h0 | hmt
  ·subst h0
   obtain ⟨u1,u2,hc,z1,z2⟩:=qF.1 (show Dt H V (tyD 0 [] [] []) _ from yt);have er:=(qO 1).inj hc;rw [er,vJ];have e0:eA ((0,[],u1,u2,()):TyV).1 0=true:=rfl;obtain ⟨H2,e2,c2⟩:=cAc (N:=N) (h:=H1) (k:=0) (s1:=u1) (s2:=u2) z1.len z2.len;have e2':f123 N (((0,[],u1,u2,()):TyV).1,((0,[],u1,u2,()):TyV).2.1,((0,[],u1,u2,()):TyV).2.2.1,((0,[],u1,u2,()):TyV).2.2.2.1,()) H1=some (true,H2):=e2;rw [e0,cond_true,e2',aA];exact ⟨H2,rfl,c2⟩
  ·rw [uAf hmt yt,cond_false,vJ]
   obtain ⟨H2,e2,c2⟩:=kA3 (N:=N) (by omega) hmt (pk.chg c1) (Dt.chg c1 (by simp) yt);rw [e2,aA];exact ⟨H2,rfl,c2⟩
 obtain ⟨H2,e2,c2⟩:=hres;rw [e2,aA];have c12:=c1.trans c2;obtain ⟨a1,a2,a3,_,_,a8⟩:=rd c12;simp only [fA,Nat.zero_add,a1,bA,kA];rw [tD (by omega),aA,hn];simp only [cond_true,a2,bA,jA,l1,aB4 hlv.1,a3];obtain ⟨H3,e3,c3⟩:=eAn (N:=N) (by omega) hps (pk.chg c12) (y2.chg c12 (by simp));have e3':f121 N s2 true H2=some (true,H3):=e3;rw [e3',aA];have c13:=c12.trans c3;obtain ⟨_,_,_,_,_,a8⟩:=rd c13;simp only [cond_true,a8,bA,jA];obtain ⟨H4,e4,c4⟩:=vAx hN 64 N bd s3 H3 V (by omega) (Nat.le_refl _) (by decide) hbd t3 t2 (pk.chg c13) (y3.chg c13 (by simp));have e4':f125 N N s3 1 H3=some (true,H4):=e4;rw [e4',aA];have c14:=c13.trans c4;obtain ⟨_,_,_,_,_,a8⟩:=rd c14;simp only [cond_true,a8,bA,jA];obtain ⟨H5,e5,c5⟩:=wAx hN 64 N bd s3 H4 V (by omega) hbd t3 t2 hct (y3.chg c14 (by simp));have e5':f126 N N s3 H4=some (((qG 64 bd:Nat):Int),H5):=e5;rw [e5',aA];have l2:wB ((qG 64 bd:Nat):Int) 2000=true:=by rw [leI,decide_eq_true_eq];omega
 rw [l2];exact ⟨H5,rfl,(c.trans c14).trans c5⟩
theorem eY (hN:3001<=N) {R:zJ2} {xs:List D} (hx:∀ x∈xs,mH x) (ti:∀ x∈xs,isSt x) (hl:xs.length<=300) {s:SL}:∀ (M i:Nat) (h:Heap),i<=xs.length->xs.length-i<M->PK h->Sl h V s xs->∃ h',bY N M R false s (xs.length:Int) (i:Int) h=some (.exit 0,(R,false,()),h')/\Chg [] h h':=by
 intro M
 induction M with
 | zero=>intro i h _ h;omega
 | succ M ih=>
  intro i h hi hM pk x;rw [cY];unfold qU;simp only [rB]
  by_cases q:i<xs.length
  ·simp only [q,decide_true,cond_true]
   have hm:=List.getElem_mem q;obtain ⟨r,g,d⟩:=gX.elt x q (ti _ hm);rw [x.ix q 5,g,pAw];obtain ⟨h5,p5,c5,o5⟩:=gX.park (z:=stc st0) rfl h r;have p5':∀ {β:Type} (K:Heap->Option β),bB ((h.push (.row [(.bool false),(.str []),(.slice none 0 0 0),(.slice none 0 0 0),(.int .i64 0)] .own)).store (h.next,0) [(.bool r.1),(.str r.2.1),(yL r.2.2.1),(yL r.2.2.2.1),(.int .i64 r.2.2.2.2.1)]) K=K h5:=p5;rw [p5',gX.cells o5];obtain ⟨h6,e6,c6⟩:=bB4 (N:=N) (by omega) (hx _ hm) (pk.chg c5) (Dt.chg c5 (by simp) d);have e6':f79 N r h5=some (true,h6):=e6;rw [e6',aA];simp only [Bool.not_true,cond_false];rw [aB (by omega)];have c06:=c5.trans c6;obtain ⟨h',e',c'⟩:=ih (i+1) h6 q (by omega) (pk.chg c06) (x.chg c06 (by simp));exact ⟨h',e',c06.trans c'⟩
  ·simp only [q,decide_false,cond_false]
   exact ⟨h,rfl,Chg.refl _ _⟩
theorem tA3 (hN:3001<=N) {xs:List D} (hx:∀ x∈xs,nI x) (ti:∀ x∈xs,isFu x) (hl:xs.length<=300) {s:SL}:∀ (M i:Nat) (h:Heap),i<=xs.length->xs.length-i<M->PK h->Sl h V s xs->∃ h',yX N M false s (xs.length:Int) (i:Int) h=some (.exit 2,(false,()),h')/\Chg [] h h':=by
 intro M
 induction M with
 | zero=>intro i h _ h;omega
 | succ M ih=>
  intro i h hi hM pk x;rw [aY];unfold pU;simp only [rB]
  by_cases q:i<xs.length
  ·simp only [q,decide_true,cond_true]
   have hm:=List.getElem_mem q;obtain ⟨r,g,d⟩:=iX.elt x q (ti _ hm);rw [x.ix q 10,g,qAw];obtain ⟨h5,p5,c5,o5⟩:=iX.park (z:=fux (fuv (nAp false [] 0))) rfl h r;have p5':∀ {β:Type} (K:Heap->Option β),bB ((h.push (.row yZD .own)).store (h.next,0) (yRD r)) K=K h5:=p5;rw [p5',iX.cells o5];obtain ⟨h6,e6,c6⟩:=cB4 hN (hx _ hm) (ti _ hm) (pk.chg c5) (Dt.chg c5 (by simp) d);have e6':f80 N (tF r) h5=some (true,h6):=e6;rw [e6',aA];simp only [Bool.not_true,cond_false];rw [aB (by omega)];have c06:=c5.trans c6;obtain ⟨h',e',c'⟩:=ih (i+1) h6 q (by omega) (pk.chg c06) (x.chg c06 (by simp));exact ⟨h',e',c06.trans c'⟩
  ·simp only [q,decide_false,cond_false]
   exact ⟨h,rfl,Chg.refl _ _⟩
theorem dB4 (hN:3001<=N) {xs ys:List D} (hx:∀ x∈xs,mH x) (hy:∀ y∈ys,nI y) (tx:∀ x∈xs,isSt x) (ty:∀ y∈ys,isFu y) (hl:xs.length+ys.length<=256) (pk:PK h) {s1 s2:SL} (y1:Sl h V s1 xs) (y2:Sl h V s2 ys):∃ h',f33 N (s1,s2,()) h=some (true,h')/\Chg [] h h':=by
 unfold f33;have o:=wA h [SL.av s1,SL.av s2];have c:=tA h (.row [SL.av s1,SL.av s2] .own);have e1:h.push (.row [(yL s1),(yL s2)] .own)=h.push (.row [SL.av s1,SL.av s2] .own):=rfl;dsimp only;rw [e1];have pk:=pk.chg c;have y1:=y1.chg c (by simp);have y2:=y2.chg c (by simp);generalize h.push (.row [SL.av s1,SL.av s2] .own)=H at *;have a0:H.cell (h.next,0)=some (yL s1):=o.cell 0;have a1:H.cell (h.next,1)=some (yL s2):=o.cell 1;have l1:s1.len=xs.length:=y1.len;have l2:s2.len=ys.length:=y2.len;have z:ltInt 256 (jB .i64 (Int.ofNat s1.len+Int.ofNat s2.len))=false:=by
  grind [ltInt,jB,fD,ltI,decide_eq_false_iff_not]
 simp only [Nat.zero_add,a0,a1,bA,jA,z,cond_false];obtain ⟨H1,e,c1⟩:=eY hN (R:=some (h.next,0)) hx tx (by omega) N 0 H (Nat.zero_le _) (by omega) pk y1;rw [show ((0:Nat):Int)=0 from rfl,show (xs.length:Int)=Int.ofNat s1.len by rw [l1];rfl] at e;have e':bY N N (some (h.next,0)) false s1 (Int.ofNat s1.len) 0 H=some (.exit 0,(some (h.next,0),false,()),H1):=e;rw [e'];have b1:H1.cell (h.next,1)=some (yL s2):=(o.chg c1 (by simp)).cell 1;simp only [kB,bC,decide_true,cond_true,fA,Nat.zero_add,b1,bA,jA];obtain ⟨H2,e2,c2⟩:=tA3 hN hy ty (by omega) N 0 H1 (Nat.zero_le _) (by omega) (pk.chg c1) (y2.chg c1 (by simp));rw [show ((0:Nat):Int)=0 from rfl,show (ys.length:Int)=Int.ofNat s2.len by rw [l2];rfl] at e2;have e2':yX N N false s2 (Int.ofNat s2.len) 0 H1=some (.exit 2,(false,()),H2):=e2;rw [e2'];simp only [kB,bC,decide_true,cond_true];exact ⟨H2,rfl,(c.trans c1).trans c2⟩
end
end Qp
set_option maxRecDepth 100000
namespace Qp
noncomputable section
noncomputable def uA3 (N:Nat) (rec34:SL->Int->Heap->Option (Int×Heap)) (go:SL->Int->Int->Int->Heap->Option (Out×zN1×Heap)) (v0:SL) (v1 v5 v6:Int) (h:Heap):Option (Out×zN1×Heap):=let x1:=ltInt v6 (Int.ofNat v0.len);(bif x1 then let x2:=ltInt 0 v1;(bif x2 then(ixK v0.a v0.len v6 32 fun q3=>(dA (.val zL2) (h.cell (q3.1,q3.2+30)) fun (x4:SL)=>let x5:=jB .i64 (v1-1);(mA (rec34 x4 x5 h) fun (x6:Int) h7=>let x8:=jB .i64 (x6+1);(ixK v0.a v0.len v6 32 fun q9=>(dA (.val zL2) (h7.cell (q9.1,q9.2+31)) fun (x10:SL)=>let x11:=jB .i64 (v1-1);(mA (rec34 x10 x11 h7) fun (x12:Int) h13=>let x14:=jB .i64 (x12+1);let x15:Int:=(bif ltInt (bif ltInt v5 x8 then x8 else v5) x14 then x14 else (bif ltInt v5 x8 then x8 else v5));(rC (bif (mB (h7.cell (q9.1,q9.2+31)) (yL x10)) then (bif (mB (h.cell (q9.1,q9.2+31)) (yL x10)) then (bif (mB (h.cell (q3.1,q3.2+30)) (yL x4)) then true else false) else false) else false) ( let x16:=jB .i64 (v6+1);go v0 v1 x15 x16 h13))))))))else some ((Out.exit 0),(v5,()),h))else some ((Out.exit 0),(v5,()),h))
def vAf (N:Nat) (rec34:SL->Int->Heap->Option (Int×Heap)) (M:Nat) (v0:SL) (v1 v5 v6:Int) (h:Heap):Option (Out×zN1×Heap):=iter (fun go s h=>uA3 N rec34 (fun v0 v1 v5 v6 h=>go (v0,v1,v5,v6,()) h) s.1 s.2.1 s.2.2.1 s.2.2.2.1 h) M (v0,v1,v5,v6,()) h
theorem fAc (N rec34 M v0 v1 v5 v6 h):vAf N rec34 (M+1) v0 v1 v5 v6 h=uA3 N rec34 (vAf N rec34 M) v0 v1 v5 v6 h:=rfl
def vAr (N:Nat) (rec34:SL->Int->Heap->Option (Int×Heap)) (a0:SL) (a1:Int) (h:Heap):Option (Int×Heap):=(pC (vAf N rec34 N a0 a1 0 0 h) fun _ (j18:zN1) h19=>some (j18.1,h19))
def eBa:Ann:=(.two .n (.two .n (.two (.two .n (.two (.loop [(0,zL2),(1,zO2),(5,zO2),(6,zO2)] [(.exit 0)] [(5,zO2)] .n) .n)) .n)))
def eB4 (N M:Nat):((SL->Int->Heap->Option (Int×Heap))×Unit):=Nat.rec (fun _ _ _=>none,()) (fun _ r=>(vAr N r.1,())) M
def f34 (N M:Nat):SL->Int->Heap->Option (Int×Heap):=(eB4 N M).1
theorem wAf (N M a0 a1 h):f34 N (M+1) a0 a1 h=vAr N (f34 N M) a0 a1 h:=rfl
theorem yA0 (N:Nat):∀ M:Nat,(jC Tryz.prog 34 [zL2,zO2] (.val zO2) (fun x h=>f34 N M x.1 x.2.1 h))/\True
 | 0=>⟨(fun xs h r h' hx=>by cases hx),trivial⟩
 | M+1=>⟨cD (iA (yA0 N M).1 nA) N eBa Tryz.f34,trivial⟩
theorem fB4 (N:Nat):jC Tryz.prog 34 [zL2,zO2] (.val zO2) (fun x h=>f34 N N x.1 x.2.1 h):=(yA0 N N).1
noncomputable def vA3 (N:Nat) (rec35:SL->Heap->Option (Int×Heap)) (go:SL->Int->Int->Heap->Option (Out×zN1×Heap)) (v0:SL) (v3 v4:Int) (h:Heap):Option (Out×zN1×Heap):=let x1:=ltInt v4 (Int.ofNat v0.len);(bif x1 then(ixK v0.a v0.len v4 32 fun q2=>(dA (.val zL2) (h.cell (q2.1,q2.2+30)) fun (x3:SL)=>(mA (rec35 x3 h) fun (x4:Int) h5=>let x6:=jB .i64 (v3+x4);(ixK v0.a v0.len v4 32 fun q7=>(dA (.val zL2) (h5.cell (q7.1,q7.2+31)) fun (x8:SL)=>(mA (rec35 x8 h5) fun (x9:Int) h10=>let x11:=jB .i64 (x6+x9);(rC (bif (mB (h5.cell (q7.1,q7.2+31)) (yL x8)) then (bif (mB (h.cell (q7.1,q7.2+31)) (yL x8)) then (bif (mB (h.cell (q2.1,q2.2+30)) (yL x3)) then true else false) else false) else false) ( let x12:=jB .i64 (v4+1);go v0 x11 x12 h10))))))))else some ((Out.exit 0),(v3,()),h))
def yAf (N:Nat) (rec35:SL->Heap->Option (Int×Heap)) (M:Nat) (v0:SL) (v3 v4:Int) (h:Heap):Option (Out×zN1×Heap):=iter (fun go s h=>vA3 N rec35 (fun v0 v3 v4 h=>go (v0,v3,v4,()) h) s.1 s.2.1 s.2.2.1 h) M (v0,v3,v4,()) h
theorem gAc (N rec35 M v0 v3 v4 h):yAf N rec35 (M+1) v0 v3 v4 h=vA3 N rec35 (yAf N rec35 M) v0 v3 v4 h:=rfl
def wAr (N:Nat) (rec35:SL->Heap->Option (Int×Heap)) (a0:SL) (h:Heap):Option (Int×Heap):=(pC (yAf N rec35 N a0 (Int.ofNat a0.len) 0 h) fun _ (j14:zN1) h15=>some (j14.1,h15))
def fBa:Ann:=(.two .n (.two .n (.two (.two .n (.two (.loop [(0,zL2),(3,zO2),(4,zO2)] [(.exit 0)] [(3,zO2)] .n) .n)) .n)))
def gB4 (N M:Nat):((SL->Heap->Option (Int×Heap))×Unit):=Nat.rec (fun _ _=>none,()) (fun _ r=>(wAr N r.1,())) M
def f35 (N M:Nat):SL->Heap->Option (Int×Heap):=(gB4 N M).1
theorem aAg (N M a0 h):f35 N (M+1) a0 h=wAr N (f35 N M) a0 h:=rfl
theorem aA1 (N:Nat):∀ M:Nat,(jC Tryz.prog 35 [zL2] (.val zO2) (fun x h=>f35 N M x.1 h))/\True
 | 0=>⟨(fun xs h r h' hx=>by cases hx),trivial⟩
 | M+1=>⟨cD (iA (aA1 N M).1 nA) N fBa Tryz.f35,trivial⟩
theorem wAt (N:Nat):jC Tryz.prog 35 [zL2] (.val zO2) (fun x h=>f35 N N x.1 h):=(aA1 N N).1
def wA3 (N:Nat) (go:zJ2->Bool->Int->Heap->Option (Out×zC1×Heap)) (v1:zJ2) (v2:Bool) (v3:Int) (h:Heap):Option (Out×zC1×Heap):=(bB v1 fun q6=>(dA (.val zL2) (h.cell (q6.1,q6.2+1)) fun (x7:SL)=>let x8:=ltInt v3 (Int.ofNat x7.len);(bif x8 then(bB v1 fun q9=>(dA (.val zL2) (h.cell (q9.1,q9.2+1)) fun (x10:SL)=>(ixK x10.a x10.len v3 10 fun q11=>(dA (.val zL2) (h.cell (q11.1,q11.2+8)) fun (x12:SL)=>(mA (f34 N N x12 70 h) fun (x13:Int) h14=>let x15:=ltInt 68 x13;(bif x15 then some (Out.ret,(true,()),h14)else(bB v1 fun q16=>(dA (.val zL2) (h14.cell (q16.1,q16.2+1)) fun (x17:SL)=>(ixK x17.a x17.len v3 10 fun q18=>(dA (.val zL2) (h14.cell (q18.1,q18.2+8)) fun (x19:SL)=>let x20:=ltInt 2100 (Int.ofNat x19.len);(bif x20 then some (Out.ret,(true,()),h14)else(bB v1 fun q21=>(dA (.val zL2) (h14.cell (q21.1,q21.2+1)) fun (x22:SL)=>(ixK x22.a x22.len v3 10 fun q23=>(dA (.val zL2) (h14.cell (q23.1,q23.2+8)) fun (x24:SL)=>(mA (f35 N N x24 h14) fun (x25:Int) h26=>let x27:=ltInt 2100 x25;(bif x27 then some (Out.ret,(true,()),h26)else let x28:=jB .i64 (v3+1);go v1 v2 x28 h26)))))))))))))))))else some ((Out.exit 0),(v2,()),h))))
def bAg (N M:Nat) (v1:zJ2) (v2:Bool) (v3:Int) (h:Heap):Option (Out×zC1×Heap):=iter (fun go s h=>wA3 N (fun v1 v2 v3 h=>go (v1,v2,v3,()) h) s.1 s.2.1 s.2.2.1 h) M (v1,v2,v3,()) h
theorem iAc (N M v1 v2 v3 h):bAg N (M+1) v1 v2 v3 h=wA3 N (bAg N M) v1 v2 v3 h:=rfl
def f14 (N:Nat) (a0:zO1) (h:Heap):Option (Bool×Heap):=let h1:=h.push (.row (yRH a0) .own);(dA (.val zL2) (h1.cell (h.next,0)) fun (x2:SL)=>let x3:=ltInt 300 (Int.ofNat x2.len);(bif x3 then some (true,h1)else(dA (.val zL2) (h1.cell (h.next,1)) fun (x4:SL)=>let x5:=ltInt 300 (Int.ofNat x4.len);(bif x5 then some (true,h1)else(pC (bAg N N (some (h.next,0)) false 0 h1) fun o29 (j30:zC1) h31=>(bif jD o29 (.exit 0) then some (false,h31)else some (j30.1,h31)))))))
def gBa:Ann:=(.two .n (.two .n (.two (.two .n (.two (.loop [(1,zK2),(2,zN2),(3,zO2)] [(.exit 0),.ret] [(2,zN2)] .n) .n)) .n)))
theorem yAt (N:Nat):jC Tryz.prog 14 [zJ] (.val zN2) (fun x h=>f14 N x.1 h):=cD (iA (wAt N) (iA (fB4 N) nA)) N gBa Tryz.f14
noncomputable def f50 (N:Nat) (a0:SL) (a1:zQ2) (h:Heap):Option (zQ2×Heap):=Qb.joinF a0 a1 h
theorem f50_ok (N:Nat):jC Tryz.prog 50 [zL2,zM2] (.val zM2) (fun x h=>f50 N x.1 x.2.1 h):=Qb.f50_ok N
def f41 (N:Nat) (a0:SL) (h:Heap):Option (zQ2×Heap):=let x1:=eA (Int.ofNat a0.len) 0;(bif x1 then some ([],h)else(mA (f50 N a0 [44,32,39] h) fun (x2:zQ2) h3=>(dA (.val zM2) (rA .add [60,39] x2) fun (x4:zQ2)=>(dA (.val zM2) (rA .add x4 [62]) fun (x5:zQ2)=>some (x5,h3)))))
def iBa:Ann:=.n
theorem aAu (N:Nat):jC Tryz.prog 41 [zL2] (.val zM2) (fun x h=>f41 N x.1 h):=cD (iA (f50_ok N) nA) N iBa Tryz.f41
def yAx (N:Nat) (rec36:zR->Heap->Option (zQ2×Heap)) (a0:zR) (h:Heap):Option (zQ2×Heap):=let h1:=h.push (.row (yRE a0) .own);(dA (.val zO2) (h1.cell (h.next,0)) fun (x2:Int)=>let x3:=eA x2 1;(bif x3 then some ([105,110,116],h1)else let x4:=eA x2 2;(bif x4 then some ([98,111,111,108],h1)else let x5:=eA x2 3;(bif x5 then(dA (.val zM2) (h1.cell (h.next,1)) fun (x6:zQ2)=>(dA (.val zL2) (h1.cell (h.next,2)) fun (x7:SL)=>(mA (f41 N x7 h1) fun (x8:zQ2) h9=>(dA (.val zM2) (rA .add x6 x8) fun (x10:zQ2)=>(rC (bif (mB (h1.cell (h.next,2)) (yL x7)) then (bif (mB (h9.cell (h.next,1)) (.str x6)) then (bif (mB (h1.cell (h.next,1)) (.str x6)) then true else false) else false) else false) ( some (x10,h9)))))))else(mA (α:=zV1) ( let x11:=eA x2 4;(bif x11 then some (((some (h.next,0)),[38],x11,()),h1)else let x12:=eA x2 5;some (((some (h.next,0)),[38],x12,()),h1))) fun (j13:zV1) h14=>(bif j13.2.2.1 then(bB j13.1 fun q15=>(dA (.val zL2) (h14.cell (q15.1,q15.2+3)) fun (x16:SL)=>let x17:=eA (Int.ofNat x16.len) 0;(bif x17 then some ([],h14)else(mA (α:=zA1) ((bB j13.1 fun q18=>(dA (.val zL2) (h14.cell (q18.1,q18.2+2)) fun (x19:SL)=>let x20:=ltInt 0 (Int.ofNat x19.len);(bif x20 then(dA (.val zM2) (rA .add j13.2.1 [39]) fun (x21:zQ2)=>(bB j13.1 fun q22=>(dA (.val zL2) (h14.cell (q22.1,q22.2+2)) fun (x23:SL)=>
 (ixK x23.a x23.len 0 1 fun q24=>(dA (.val zM2) (h14.cell q24) fun (x25:zQ2)=>(dA (.val zM2) (rA .add x21 x25) fun (x26:zQ2)=>(dA (.val zM2) (rA .add x26 [32]) fun (x27:zQ2)=>some ((j13.1,x27,()),h14))))))))else some ((j13.1,j13.2.1,()),h14))))) fun (j28:zA1) h29=>(mA (α:=zA1) ((bB j28.1 fun q30=>(dA (.val zO2) (h29.cell (q30.1,q30.2+0)) fun (x31:Int)=>let x32:=eA x31 5;(bif x32 then(dA (.val zM2) (rA .add j28.2.1 [109,117,116,32]) fun (x33:zQ2)=>some ((j28.1,x33,()),h29))else some (j28,h29))))) fun (j34:zA1) h35=>(bB j34.1 fun q36=>(dA (.val zL2) (h35.cell (q36.1,q36.2+3)) fun (x37:SL)=>(ixK x37.a x37.len 0 4 fun q38=>(dA (.val zE) (h35.cells q38 4) fun (x39:zR)=>(mA (rec36 x39 h35) fun (x40:zQ2) h41=>(dA (.val zM2) (rA .add j34.2.1 x40) fun (x42:zQ2)=>some (x42,h41))))))))))))else some ([],h14)))))))
def jBa:Ann:=(.two .n (.two .n (.two (.two .n (.two (.two .n (.two .n (.two .n (.two .n (.two .n (.two .n (.two (.join [(1,zK2),(3,zM2),(18,zN2)] .n) .n))))))) .n)) (.two (.join [(1,zK2),(3,zM2)] .n) (.two (.join [(1,zK2),(3,zM2)] .n) .n)))))
def iB4 (N M:Nat):((zR->Heap->Option (zQ2×Heap))×Unit):=Nat.rec (fun _ _=>none,()) (fun _ r=>(yAx N r.1,())) M
def f36 (N M:Nat):zR->Heap->Option (zQ2×Heap):=(iB4 N M).1
theorem yAr (N M a0 h):f36 N (M+1) a0 h=yAx N (f36 N M) a0 h:=rfl
theorem bA1 (N:Nat):∀ M:Nat,(jC Tryz.prog 36 [zE] (.val zM2) (fun x h=>f36 N M x.1 h))/\True
 | 0=>⟨(fun xs h r h' hx=>by cases hx),trivial⟩
 | M+1=>⟨cD (iA (aAu N) (iA (bA1 N M).1 nA)) N jBa Tryz.f36,trivial⟩
theorem cAg (N:Nat):jC Tryz.prog 36 [zE] (.val zM2) (fun x h=>f36 N N x.1 h):=(bA1 N N).1
def rU (N:Nat) (go:SL->SL->Int->Int->Heap->Option (Out×(SL×Unit)×Heap)) (v3 v7:SL) (v8 v9:Int) (h:Heap):Option (Out×(SL×Unit)×Heap):=let x1:=ltInt v9 v8;(bif x1 then(ixK v7.a v7.len v9 6 fun q2=>(dA (.val zM) (h.cells q2 6) fun (x3:zF2)=>let h4:=h.push (.row yZH .own);(bB (h4.store (h.next,0) (yRI x3)) fun h5=>(dA (.val zM2) (h5.cell (h.next,1)) fun (x6:zQ2)=>(dA (.val zM2) (rA .add x6 [58,32]) fun (x7:zQ2)=>(dA (.val zE) (h5.cells (h.next,2) 4) fun (x8:zR)=>(mA (f36 N N x8 h5) fun (x9:zQ2) h10=>(dA (.val zM2) (rA .add x7 x9) fun (x11:zQ2)=>(rC (bif (mB (h5.cells (h.next,2) 4) (.agg (yRE x8))) then (bif (mB (h10.cell (h.next,1)) (.str x6)) then (bif (mB (h5.cell (h.next,1)) (.str x6)) then true else false) else false) else false) ((dA (.val zN2) (h10.cell (h.next,0)) fun (x12:Bool)=>(bif x12 then(dA (.val zM2) (rA .add [109,117,116,32] x11) fun (x13:zQ2)=>let h14:=h10.push (.row [(.str x13)] .own);(jJ (.val zL2) (dD E 38 38 (yL v3) (.slice (some (h10.next,0)) 1 1 1) h14) fun (x15:SL) h16=>let x17:=jB .i64 (v9+1);go x15 v7 v8 x17 h16))else let h18:=h10.push (.row [(.str x11)] .own);(jJ (.val zL2) (dD E 38 38 (yL v3) (.slice (some (h10.next,0)) 1 1 1) h18) fun (x19:SL) h20=>let x21:=jB .i64 (v9+1);go x19 v7 v8 x21 h20)))))))))))))
 else some ((Out.exit 0),(v3,()),h))
def iT (N M:Nat) (v3 v7:SL) (v8 v9:Int) (h:Heap):Option (Out×(SL×Unit)×Heap):=iter (fun go s h=>rU N (fun v3 v7 v8 v9 h=>go (v3,v7,v8,v9,()) h) s.1 s.2.1 s.2.2.1 s.2.2.2.1 h) M (v3,v7,v8,v9,()) h
theorem fY (N M v3 v7 v8 v9 h):iT N (M+1) v3 v7 v8 v9 h=rU N (iT N M) v3 v7 v8 v9 h:=rfl
def f38 (N:Nat) (a0:SL) (h:Heap):Option (zQ2×Heap):=(pC (iT N N ⟨none,0,0,0⟩ a0 (Int.ofNat a0.len) 0 h) fun _ (j23:(SL×Unit)) h24=>(mA (f50 N j23.1 [44,32] h24) fun (x25:zQ2) h26=>some (x25,h26)))
def kBa:Ann:=(.two .n (.two .n (.two (.two .n (.two (.loop [(3,zL2),(7,zL2),(8,zO2),(9,zO2)] [(.exit 0)] [(3,zL2)] .n) .n)) .n)))
theorem bAu (N:Nat):jC Tryz.prog 38 [zL2] (.val zM2) (fun x h=>f38 N x.1 h):=cD (iA (f50_ok N) (iA (cAg N) nA)) N kBa Tryz.f38
noncomputable def f40 (N:Nat) (a0:Bool) (h:Heap):Option (zQ2×Heap):=(bif a0 then some ([112,117,98,32],h)else some ([],h))
def lBa:Ann:=.n
theorem cAu (N:Nat):jC Tryz.prog 40 [zN2] (.val zM2) (fun x h=>f40 N x.1 h):=cD nA N lBa Tryz.f40
noncomputable def f43 (N:Nat) (a0:zJ2) (h:Heap):Option (Int×Heap):=(bB a0 fun q1=>(dA (.val zL2) (h.cell (q1.1,q1.2+1)) fun (x2:SL)=>some ((Int.ofNat x2.len),h)))
def mBa:Ann:=.n
theorem iAn (N:Nat):jC Tryz.prog 43 [zK2] (.val zO2) (fun x h=>f43 N x.1 h):=cD nA N mBa Tryz.f43
noncomputable def f175 (N:Nat) (a0:AV) (h:Heap):Option (AV×Heap):=Qb.escF a0 h
theorem f175_ok (N:Nat):fAw Tryz.prog 175 [zP2] (.val zP2) (fun x h=>f175 N x.1 h):=Qb.f175_ok N
def f127 (N:Nat) (a0:zJ2) (h:Heap):Option ((Unit)×Heap):=(bB a0 fun q1=>(dA (.val zK2) (h.cell (q1.1,q1.2+0)) fun (x2:zJ2)=>(bif x2.isNone then(jJ (.val zP2) (nA1 E 80 189 (.ptr a0) h) fun (x3:AV) h4=>(mA (f175 N x3 h4) fun (x5:AV) h6=>(jJ (.val zK2) (nA1 E 189 80 x5 h6) fun (x7:zJ2) h8=>(bB a0 fun q9=>(bB (h8.store (q9.1,q9.2+0) [(.ptr x7)]) fun h10=>some ((()),h10))))))else(bB a0 fun q11=>(dA (.val zK2) (h.cell (q11.1,q11.2+0)) fun (x12:zJ2)=>(dA (.val zN2) (oA9 E .neq 80 (.tmp 17) (.tmp 18) (.ptr x12) (.ptr a0)) fun (x13:Bool)=>(bif x13 then none else some ((()),h))))))))
def jB4:Ann:=.n
theorem aAy (N:Nat):jC Tryz.prog 127 [zK2] (.tup []) (fun x h=>f127 N x.1 h):=cD (qAa (f175_ok N) nA) N jB4 Tryz.f127
def f81 (N:Nat) (a0:zJ2) (a1:zQ2) (h:Heap):Option ((Int×AV×Unit)×Heap):=(mA (f127 N a0 h) fun (x1:(Unit)) h2=>(bB a0 fun q3=>(dA (.val zL2) (h2.cell (q3.1,q3.2+1)) fun (x4:SL)=>(jJ (.val zL2) (dD E 81 9 (yL x4) (.str a1) h2) fun (x5:SL) h6=>(bB a0 fun q7=>(bB (h6.store (q7.1,q7.2+1) [(yL x5)]) fun h8=>some (((Int.ofNat a1.length),AV.nilIface,()),h8)))))))
def nBa:Ann:=.n
theorem kB4 (N:Nat):jC Tryz.prog 81 [zK2,zM2] (.tup [zO2,zP2]) (fun x h=>f81 N x.1 x.2.1 h):=cD (iA (aAy N) nA) N nBa Tryz.f81
def yA3 (N:Nat) (go:zJ2->SL->Int->Int->Heap->Option (Out×(Unit)×Heap)) (v0:zJ2) (v6:SL) (v7 v8:Int) (h:Heap):Option (Out×(Unit)×Heap):=let x1:=ltInt v8 v7;(bif x1 then(ixK v6.a v6.len v8 1 fun q2=>(dA (.val zM2) (h.cell q2) fun (x3:zQ2)=>(bB v0 fun q4=>(mA (f43 N (some (q4.1,q4.2+0)) h) fun (x5:Int) h6=>let x7:Bool:=wB x5 1048576;(bif x7 then(bB v0 fun q8=>(mA (f81 N (some (q8.1,q8.2+0)) x3 h6) fun (x9:(Int×AV×Unit)) h10=>let x11:=jB .i64 (v8+1);go v0 v6 v7 x11 h10))else let x12:=jB .i64 (v8+1);go v0 v6 v7 x12 h6)))))else some ((Out.exit 0),(()),h))
def iA8 (N M:Nat) (v0:zJ2) (v6:SL) (v7 v8:Int) (h:Heap):Option (Out×(Unit)×Heap):=iter (fun go s h=>yA3 N (fun v0 v6 v7 v8 h=>go (v0,v6,v7,v8,()) h) s.1 s.2.1 s.2.2.1 s.2.2.2.1 h) M (v0,v6,v7,v8,()) h
theorem jAc (N M v0 v6 v7 v8 h):iA8 N (M+1) v0 v6 v7 v8 h=yA3 N (iA8 N M) v0 v6 v7 v8 h:=rfl
def f39 (N:Nat) (a0:zJ2) (a1:SL) (h:Heap):Option ((Unit)×Heap):=(pC (iA8 N N a0 a1 (Int.ofNat a1.len) 0 h) fun _ (j14:(Unit)) h15=>some ((()),h15))
def oBa:Ann:=(.two .n (.two (.loop [(0,zK2),(6,zL2),(7,zO2),(8,zO2)] [(.exit 0)] [] .n) .n))
theorem jA8 (N:Nat):jC Tryz.prog 39 [zK2,zL2] (.tup []) (fun x h=>f39 N x.1 x.2.1 h):=cD (iA (kB4 N) (iA (iAn N) nA)) N oBa Tryz.f39
def tU (N:Nat) (go:zJ2->SL->SL->Int->Int->Heap->Option (Out×zR1×Heap)) (v1:zJ2) (v3 v9:SL) (v10 v11:Int) (h:Heap):Option (Out×zR1×Heap):=let x3:=ltInt v11 v10;(bif x3 then(ixK v9.a v9.len v11 2 fun q4=>(dA (.val zG) (h.cells q4 2) fun (x5:zB1)=>let h6:=h.push (.row yZG .own);(bB (h6.store (h.next,0) (yRF x5)) fun h7=>(dA (.val zM2) (h7.cell (h.next,0)) fun (x8:zQ2)=>(dA (.val zM2) (rA .add [39] x8) fun (x9:zQ2)=>(dA (.val zL2) (h7.cell (h.next,1)) fun (x10:SL)=>let x11:=ltInt 0 (Int.ofNat x10.len);(bif x11 then(dA (.val zM2) (rA .add x9 [58,32,39]) fun (x12:zQ2)=>(dA (.val zL2) (h7.cell (h.next,1)) fun (x13:SL)=>(mA (f50 N x13 [32,43,32,39] h7) fun (x14:zQ2) h15=>(dA (.val zM2) (rA .add x12 x14) fun (x16:zQ2)=>let h17:=h15.push (.row [(.str x16)] .own);(jJ (.val zL2) (dD E 38 38 (yL v3) (.slice (some (h15.next,0)) 1 1 1) h17) fun (x18:SL) h19=>let x20:=jB .i64 (v11+1);go v1 x18 v9 v10 x20 h19)))))else let h21:=h7.push (.row [(.str x9)] .own);(jJ (.val zL2) (dD E 38 38 (yL v3) (.slice (some (h7.next,0)) 1 1 1) h21) fun (x22:SL) h23=>let x24:=jB .i64 (v11+1);go v1 x22 v9 v10 x24 h23))))))))else some ((Out.exit 0),(v1,v3,()),h))
def jT (N M:Nat) (v1:zJ2) (v3 v9:SL) (v10 v11:Int) (h:Heap):Option (Out×zR1×Heap):=iter (fun go s h=>tU N (fun v1 v3 v9 v10 v11 h=>go (v1,v3,v9,v10,v11,()) h) s.1 s.2.1 s.2.2.1 s.2.2.2.1 s.2.2.2.2.1 h) M (v1,v3,v9,v10,v11,()) h
theorem gY (N M v1 v3 v9 v10 v11 h):jT N (M+1) v1 v3 v9 v10 v11 h=tU N (jT N M) v1 v3 v9 v10 v11 h:=rfl
def f20 (N:Nat) (a0:zE1) (h:Heap):Option (zQ2×Heap):=let h1:=h.push (.row (yRD a0) .own);(dA (.val zL2) (h1.cell (h.next,2)) fun (x2:SL)=>(pC (jT N N (some (h.next,0)) ⟨none,0,0,0⟩ x2 (Int.ofNat x2.len) 0 h1) fun _ (j26:zR1) h27=>(bB j26.1 fun q28=>(dA (.val zN2) (h27.cell (q28.1,q28.2+0)) fun (x29:Bool)=>(mA (f40 N x29 h27) fun (x30:zQ2) h31=>(dA (.val zM2) (rA .add x30 [102,110,32]) fun (x32:zQ2)=>(bB j26.1 fun q33=>(dA (.val zM2) (h31.cell (q33.1,q33.2+1)) fun (x34:zQ2)=>(dA (.val zM2) (rA .add x32 x34) fun (x35:zQ2)=>(rC (bif (mB (h31.cell (q33.1,q33.2+1)) (.str x34)) then (bif (mB (h27.cell (q33.1,q33.2+1)) (.str x34)) then (bif (mB (h27.cell (q28.1,q28.2+0)) (.bool x29)) then true else false) else false) else false) ( let x36:=ltInt 0 (Int.ofNat j26.2.1.len);(bif x36 then(dA (.val zM2) (rA .add x35 [60]) fun (x37:zQ2)=>(mA (f50 N j26.2.1 [44,32] h31) fun (x38:zQ2) h39=>(dA (.val zM2) (rA .add x37 x38) fun (x40:zQ2)=>(dA (.val zM2) (rA .add x40 [62]) fun (x41:zQ2)=>(dA (.val zM2) (rA .add x41 [40]) fun (x42:zQ2)=>(bB j26.1 fun q43=>(dA (.val zL2) (h39.cell (q43.1,q43.2+3)) fun (x44:SL)=>(mA (f38 N x44 h39) fun (x45:zQ2) h46=>(dA (.val zM2) (rA .add x42 x45) fun (x47:zQ2)=>(dA (.val zM2) (rA .add x47 [41]) fun (x48:zQ2)=>(bB j26.1 fun q49=>(dA (.val zO2) (h46.cell ((q49.1,q49.2+4).1,(q49.1,q49.2+4).2+0)) fun (x50:Int)=>let x51:=!eA x50 0;(bif x51 then
 (dA (.val zM2) (rA .add x48 [32,45,62,32]) fun (x52:zQ2)=>(bB j26.1 fun q53=>(dA (.val zE) (h46.cells (q53.1,q53.2+4) 4) fun (x54:zR)=>(mA (f36 N N x54 h46) fun (x55:zQ2) h56=>(dA (.val zM2) (rA .add x52 x55) fun (x57:zQ2)=>some (x57,h56))))))else some (x48,h46))))))))))))))else(dA (.val zM2) (rA .add x35 [40]) fun (x58:zQ2)=>(bB j26.1 fun q59=>(dA (.val zL2) (h31.cell (q59.1,q59.2+3)) fun (x60:SL)=>(mA (f38 N x60 h31) fun (x61:zQ2) h62=>(dA (.val zM2) (rA .add x58 x61) fun (x63:zQ2)=>(dA (.val zM2) (rA .add x63 [41]) fun (x64:zQ2)=>(bB j26.1 fun q65=>(dA (.val zO2) (h62.cell ((q65.1,q65.2+4).1,(q65.1,q65.2+4).2+0)) fun (x66:Int)=>let x67:=!eA x66 0;(bif x67 then(dA (.val zM2) (rA .add x64 [32,45,62,32]) fun (x68:zQ2)=>(bB j26.1 fun q69=>(dA (.val zE) (h62.cells (q69.1,q69.2+4) 4) fun (x70:zR)=>(mA (f36 N N x70 h62) fun (x71:zQ2) h72=>(dA (.val zM2) (rA .add x68 x71) fun (x73:zQ2)=>some (x73,h72))))))else some (x64,h62))))))))))))))))))))))
def pBa:Ann:=(.two .n (.two .n (.two (.two .n (.two (.loop [(1,zK2),(3,zL2),(9,zL2),(10,zO2),(11,zO2)] [(.exit 0)] [(1,zK2),(3,zL2)] .n) .n)) .n)))
theorem jAn (N:Nat):jC Tryz.prog 20 [zH] (.val zM2) (fun x h=>f20 N x.1 h):=cD (iA (f50_ok N) (iA (cAu N) (iA (bAu N) (iA (cAg N) nA)))) N pBa Tryz.f20
noncomputable def f128 (N:Nat) (a0:zQ2) (a1:Int) (h:Heap):Option (zQ2×Heap):=Qb.repF a0 a1 h
theorem f128_ok (N:Nat):jC Tryz.prog 128 [zM2,zO2] (.val zM2) (fun x h=>f128 N x.1 x.2.1 h):=Qb.f128_ok N
def f82 (N:Nat) (a0:zJ2) (a1:Int) (h:Heap):Option ((Unit)×Heap):=(mA (f128 N [9] a1 h) fun (x1:zQ2) h2=>let h3:=h2.push (.row [(.str x1)] .own);(mA (f39 N a0 ⟨(some (h2.next,0)),1,1,1⟩ h3) fun (x4:(Unit)) h5=>some ((()),h5)))
def qBa:Ann:=.n
theorem lB4 (N:Nat):jC Tryz.prog 82 [zK2,zO2] (.tup []) (fun x h=>f82 N x.1 x.2.1 h):=cD (iA (jA8 N) (iA (f128_ok N) nA)) N qBa Tryz.f82
noncomputable def f204 (N:Nat) (a0:Int) (h:Heap):Option (zQ2×Heap):=Qb.itoaF a0 h
theorem f204_ok (N:Nat):jC Tryz.prog 204 [zO2] (.val zM2) (fun x h=>f204 N x.1 h):=Qb.f204_ok N
noncomputable def f218 (N:Nat) (a0:Bool) (h:Heap):Option (zQ2×Heap):=(bif a0 then some ([116,114,117,101],h)else some ([102,97,108,115,101],h))
def mB4:Ann:=.n
theorem bAy (N:Nat):jC Tryz.prog 218 [zN2] (.val zM2) (fun x h=>f218 N x.1 h):=cD nA N mB4 Tryz.f218
def f205 (N:Nat) (a0:Bool) (h:Heap):Option (zQ2×Heap):=(mA (f218 N a0 h) fun (x1:zQ2) h2=>some (x1,h2))
def nB4:Ann:=.n
theorem cAy (N:Nat):jC Tryz.prog 205 [zN2] (.val zM2) (fun x h=>f205 N x.1 h):=cD (iA (bAy N) nA) N nB4 Tryz.f205
def f130 (N:Nat) (a0:zB1) (h:Heap):Option (zQ2×Heap):=let h1:=h.push (.row (yRF a0) .own);(dA (.val zM2) (h1.cell (h.next,0)) fun (x2:zQ2)=>let h3:=h1.push (.row [(.str x2)] .own);(dA (.val zL2) (h3.cell (h.next,1)) fun (x4:SL)=>(jJ (.val zL2) (dD E 38 38 (.slice (some (h1.next,0)) 1 1 1) (yL x4) h3) fun (x5:SL) h6=>(mA (f50 N x5 [46] h6) fun (x7:zQ2) h8=>some (x7,h8)))))
def oB4:Ann:=.n
theorem kAc (N:Nat):jC Tryz.prog 130 [zG] (.val zM2) (fun x h=>f130 N x.1 h):=cD (iA (f50_ok N) nA) N oB4 Tryz.f130
def f177 (N:Nat) (a0:zX) (h:Heap):Option (zQ2×Heap):=let h1:=h.push (.row (yRC a0) .own);(dA (.val zO2) (h1.cell (h.next,0)) fun (x2:Int)=>let x3:=eA x2 1;(bif x3 then(dA (.val zO2) (h1.cell (h.next,1)) fun (x4:Int)=>(mA (f204 N x4 h1) fun (x5:zQ2) h6=>some (x5,h6)))else let x7:=eA x2 2;(bif x7 then(dA (.val zO2) (h1.cell (h.next,1)) fun (x8:Int)=>let x9:=eA x8 1;(mA (f205 N x9 h1) fun (x10:zQ2) h11=>some (x10,h11)))else(dA (.val zG) (h1.cells (h.next,2) 2) fun (x12:zB1)=>(mA (f130 N x12 h1) fun (x13:zQ2) h14=>some (x13,h14))))))
def pB4:Ann:=.n
theorem kAn (N:Nat):jC Tryz.prog 177 [zD] (.val zM2) (fun x h=>f177 N x.1 h):=cD (iA (cAy N) (iA (f204_ok N) (iA (kAc N) nA))) N pB4 Tryz.f177
def vQ (N:Nat) (go:zJ2->SL->SL->Int->Int->Heap->Option (Out×zR1×Heap)) (v1:zJ2) (v3 v9:SL) (v10 v11:Int) (h:Heap):Option (Out×zR1×Heap):=let x3:=ltInt v11 v10;(bif x3 then(ixK v9.a v9.len v11 4 fun q4=>(dA (.val zD) (h.cells q4 4) fun (x5:zX)=>let h6:=h.push (.row yZC .own);(bB (h6.store (h.next,0) (yRC x5)) fun h7=>(dA (.val zD) (h7.cells (h.next,0) 4) fun (x8:zX)=>(mA (f177 N x8 h7) fun (x9:zQ2) h10=>(bB v1 fun q11=>(dA (.val zL2) (h10.cell (q11.1,q11.2+13)) fun (x12:SL)=>let x13:=ltInt v11 (Int.ofNat x12.len);(bif x13 then(bB v1 fun q14=>(dA (.val zL2) (h10.cell (q14.1,q14.2+13)) fun (x15:SL)=>(ixK x15.a x15.len v11 1 fun q16=>(dA (.val zM2) (h10.cell q16) fun (x17:zQ2)=>(dA (.val zM2) (rA .add x17 [58,32]) fun (x18:zQ2)=>(dA (.val zM2) (rA .add x18 x9) fun (x19:zQ2)=>let h20:=h10.push (.row [(.str x19)] .own);(jJ (.val zL2) (dD E 38 38 (yL v3) (.slice (some (h10.next,0)) 1 1 1) h20) fun (x21:SL) h22=>let x23:=jB .i64 (v11+1);go v1 x21 v9 v10 x23 h22)))))))else let h24:=h10.push (.row [(.str x9)] .own);(jJ (.val zL2) (dD E 38 38 (yL v3) (.slice (some (h10.next,0)) 1 1 1) h24) fun (x25:SL) h26=>let x27:=jB .i64 (v11+1);go v1 x25 v9 v10 x27 h26)))))))))else some ((Out.exit 0),(v1,v3,()),h))
def fM (N M:Nat) (v1:zJ2) (v3 v9:SL) (v10 v11:Int) (h:Heap):Option (Out×zR1×Heap):=iter (fun go s h=>vQ N (fun v1 v3 v9 v10 v11 h=>go (v1,v3,v9,v10,v11,()) h) s.1 s.2.1 s.2.2.1 s.2.2.2.1 s.2.2.2.2.1 h) M (v1,v3,v9,v10,v11,()) h
theorem kT (N M v1 v3 v9 v10 v11 h):fM N (M+1) v1 v3 v9 v10 v11 h=vQ N (fM N M) v1 v3 v9 v10 v11 h:=rfl
def f131 (N:Nat) (a0:zQ) (h:Heap):Option (zQ2×Heap):=let h1:=h.push (.row (yRB a0) .own);(dA (.val zL2) (h1.cell (h.next,14)) fun (x2:SL)=>(pC (fM N N (some (h.next,0)) ⟨none,0,0,0⟩ x2 (Int.ofNat x2.len) 0 h1) fun _ (j29:zR1) h30=>(mA (f50 N j29.2.1 [44,32] h30) fun (x31:zQ2) h32=>(bB j29.1 fun q33=>(dA (.val zO2) (h32.cell (q33.1,q33.2+0)) fun (x34:Int)=>let x35:=eA x34 2;(bif x35 then(bB j29.1 fun q36=>(dA (.val zG) (h32.cells (q36.1,q36.2+10) 2) fun (x37:zB1)=>(mA (f130 N x37 h32) fun (x38:zQ2) h39=>(dA (.val zM2) (rA .add [38] x38) fun (x40:zQ2)=>some (x40,h39)))))else let x41:=eA x34 3;(bif x41 then(bB j29.1 fun q42=>(dA (.val zG) (h32.cells (q42.1,q42.2+10) 2) fun (x43:zB1)=>(mA (f130 N x43 h32) fun (x44:zQ2) h45=>(dA (.val zM2) (rA .add [38,109,117,116,32] x44) fun (x46:zQ2)=>some (x46,h45)))))else let x47:=eA x34 4;(bif x47 then(bB j29.1 fun q48=>(dA (.val zD) (h32.cells (q48.1,q48.2+1) 4) fun (x49:zX)=>(mA (f177 N x49 h32) fun (x50:zQ2) h51=>(dA (.val zM2) (rA .add [33] x50) fun (x52:zQ2)=>some (x52,h51)))))else let x53:=eA x34 5;(bif x53 then let h54:=h32.push (.row [(.str [32,43,32]),(.str [32,45,32]),(.str [32,60,32]),(.str [32,61,61,32])] .own);(bB j29.1 fun q55=>(dA (.val zD) (h54.cells (q55.1,q55.2+1) 4) fun (x56:zX)=>(mA (f177 N x56 h54) fun (x57:zQ2) h58=>(bB j29.1 fun q59=>
 (dA (.val zO2) (h58.cell (q59.1,q59.2+9)) fun (x60:Int)=>let x61:=jB .i64 (x60-1);(ixK (some (h32.next,0)) 4 x61 1 fun q62=>(dA (.val zM2) (h58.cell q62) fun (x63:zQ2)=>(dA (.val zM2) (rA .add x57 x63) fun (x64:zQ2)=>(bB j29.1 fun q65=>(dA (.val zD) (h58.cells (q65.1,q65.2+5) 4) fun (x66:zX)=>(mA (f177 N x66 h58) fun (x67:zQ2) h68=>(dA (.val zM2) (rA .add x64 x67) fun (x69:zQ2)=>(rC (bif (mB (h68.cells (q65.1,q65.2+5) 4) (.agg (yRC x66))) then (bif (mB (h58.cells (q65.1,q65.2+5) 4) (.agg (yRC x66))) then (bif (mB (h54.cells (q65.1,q65.2+5) 4) (.agg (yRC x66))) then (bif (mB (h68.cell q62) (.str x63)) then (bif (mB (h58.cell q62) (.str x63)) then (bif (mB (h54.cell q62) (.str x63)) then (bif (mB (h68.cell (q59.1,q59.2+9)) (.int .i64 x60)) then (bif (mB (h58.cell (q59.1,q59.2+9)) (.int .i64 x60)) then (bif (mB (h54.cell (q59.1,q59.2+9)) (.int .i64 x60)) then (bif (mB (h68.cells (q55.1,q55.2+1) 4) (.agg (yRC x56))) then (bif (mB (h58.cells (q55.1,q55.2+1) 4) (.agg (yRC x56))) then (bif (mB (h54.cells (q55.1,q55.2+1) 4) (.agg (yRC x56))) then true else false) else false) else false) else false) else false) else false) else false) else false) else false) else false) else false) else false) ((rC (((gO (h68.t.get h32.next) (h58.t.get h32.next))&&true)&&(((gO (h58.t.get h32.next) (h54.t.get h32.next))&&true)&&true)) ( some (x69,h68)))))))))))))))))else let x70:=eA x34 6
 (bif x70 then(bB j29.1 fun q71=>(dA (.val zM2) (h32.cell (q71.1,q71.2+12)) fun (x72:zQ2)=>(dA (.val zM2) (rA .add x72 [40]) fun (x73:zQ2)=>(dA (.val zM2) (rA .add x73 x31) fun (x74:zQ2)=>(dA (.val zM2) (rA .add x74 [41]) fun (x75:zQ2)=>some (x75,h32))))))else let x76:=eA x34 7;(bif x76 then let x77:=!fB x31 [];(bif x77 then(dA (.val zM2) (rA .add x31 [32]) fun (x78:zQ2)=>(bB j29.1 fun q79=>(dA (.val zM2) (h32.cell (q79.1,q79.2+12)) fun (x80:zQ2)=>(dA (.val zM2) (rA .add x80 [32,123,32]) fun (x81:zQ2)=>(dA (.val zM2) (rA .add x81 x78) fun (x82:zQ2)=>(dA (.val zM2) (rA .add x82 [125]) fun (x83:zQ2)=>some (x83,h32)))))))else(bB j29.1 fun q84=>(dA (.val zM2) (h32.cell (q84.1,q84.2+12)) fun (x85:zQ2)=>(dA (.val zM2) (rA .add x85 [32,123,32]) fun (x86:zQ2)=>(dA (.val zM2) (rA .add x86 x31) fun (x87:zQ2)=>(dA (.val zM2) (rA .add x87 [125]) fun (x88:zQ2)=>some (x88,h32)))))))else(bB j29.1 fun q89=>(dA (.val zD) (h32.cells (q89.1,q89.2+1) 4) fun (x90:zX)=>(mA (f177 N x90 h32) fun (x91:zQ2) h92=>some (x91,h92)))))))))))))))
def qB4:Ann:=(.two .n (.two .n (.two (.two .n (.two (.loop [(1,zK2),(3,zL2),(9,zL2),(10,zO2),(11,zO2)] [(.exit 0)] [(1,zK2),(3,zL2)] .n) .n)) .n)))
theorem lAn (N:Nat):jC Tryz.prog 131 [zC] (.val zM2) (fun x h=>f131 N x.1 h):=cD (iA (f50_ok N) (iA (kAn N) (iA (kAc N) nA))) N qB4 Tryz.f131
def f129 (N:Nat) (a0:zP) (h:Heap):Option (zQ2×Heap):=let h1:=h.push (.row (yRA a0) .own);(mA (α:=zA1) ((dA (.val zN2) (h1.cell (h.next,2)) fun (x2:Bool)=>(bif x2 then some (((some (h.next,0)),[108,101,116,32,109,117,116,32],()),h1)else some (((some (h.next,0)),[108,101,116,32],()),h1)))) fun (j3:zA1) h4=>(bB j3.1 fun q5=>(dA (.val zM2) (h4.cell (q5.1,q5.2+3)) fun (x6:zQ2)=>(dA (.val zM2) (rA .add j3.2.1 x6) fun (x7:zQ2)=>(dA (.val zM2) (rA .add x7 [58,32]) fun (x8:zQ2)=>(bB j3.1 fun q9=>(dA (.val zE) (h4.cells (q9.1,q9.2+4) 4) fun (x10:zR)=>(mA (f36 N N x10 h4) fun (x11:zQ2) h12=>(dA (.val zM2) (rA .add x8 x11) fun (x13:zQ2)=>(rC (bif (mB (h4.cells (q9.1,q9.2+4) 4) (.agg (yRE x10))) then (bif (mB (h12.cell (q5.1,q5.2+3)) (.str x6)) then (bif (mB (h4.cell (q5.1,q5.2+3)) (.str x6)) then true else false) else false) else false) ((mA (α:=zH1) ((bB j3.1 fun q14=>(dA (.val zN2) (h12.cell (q14.1,q14.2+8)) fun (x15:Bool)=>(bif x15 then(dA (.val zM2) (rA .add x13 [32,61,32]) fun (x16:zQ2)=>(bB j3.1 fun q17=>(dA (.val zC) (h12.cells (q17.1,q17.2+11) 15) fun (x18:zQ)=>(mA (f131 N x18 h12) fun (x19:zQ2) h20=>
 (dA (.val zM2) (rA .add x16 x19) fun (x21:zQ2)=>some ((x21,()),h20))))))else some ((x13,()),h12))))) fun (j22:zH1) h23=>(dA (.val zM2) (rA .add j22.1 [59]) fun (x24:zQ2)=>some (x24,h23))))))))))))))
def rB4:Ann:=(.two .n (.two .n (.two (.join [(1,zK2),(3,zM2)] .n) (.two .n (.two (.join [(3,zM2)] .n) .n)))))
theorem dAy (N:Nat):jC Tryz.prog 129 [zA] (.val zM2) (fun x h=>f129 N x.1 h):=cD (iA (cAg N) (iA (lAn N) nA)) N rB4 Tryz.f129
def dAg (N:Nat) (rec132:zJ2->zP->Int->Heap->Option ((Unit)×Heap)) (rec42:zJ2->SL->Int->Heap->Option ((Unit)×Heap)) (rec83:zJ2->zP->Int->Heap->Option ((Unit)×Heap)) (a0:zJ2) (a1:zP) (a2:Int) (h:Heap):Option ((Unit)×Heap):=let h1:=h.push (.row (yRA a1) .own);(dA (.val zO2) (h1.cell (h.next,0)) fun (x2:Int)=>let x3:=eA x2 4;(bif x3 then(dA (.val zD) (h1.cells (h.next,26) 4) fun (x4:zX)=>(mA (f177 N x4 h1) fun (x5:zQ2) h6=>let h7:=h6.push (.row [(.str [105,102,32]),(.str x5),(.str [32])] .own);(mA (f39 N a0 ⟨(some (h6.next,0)),3,3,1⟩ h7) fun (x8:(Unit)) h9=>(dA (.val zL2) (h9.cell (h.next,30)) fun (x10:SL)=>(mA (rec42 a0 x10 a2 h9) fun (x11:(Unit)) h12=>(dA (.val zO2) (h12.cell (h.next,0)) fun (x13:Int)=>let x14:=eA x13 4;(bif x14 then(dA (.val zN2) (h12.cell (h.next,8)) fun (x15:Bool)=>(bif x15 then let h16:=h12.push (.row [(.str [32,101,108,115,101,32])] .own);(mA (f39 N a0 ⟨(some (h12.next,0)),1,1,1⟩ h16) fun (x17:(Unit)) h18=>(dA (.val zL2) (h18.cell (h.next,31)) fun (x19:SL)=>(mA (rec42 a0 x19 a2 h18) fun (x20:(Unit)) h21=>some ((()),h21))))else some ((()),h12)))else some ((()),h12))))))))else let x22:=eA x2 5;(bif x22 then(dA (.val zD) (h1.cells (h.next,26) 4) fun (x23:zX)=>(mA (f177 N x23 h1) fun (x24:zQ2) h25=>let h26:=h25.push (.row [(.str [119,104,105,108,101,32]),(.str x24),(.str [32])] .own)
 (mA (f39 N a0 ⟨(some (h25.next,0)),3,3,1⟩ h26) fun (x27:(Unit)) h28=>(dA (.val zL2) (h28.cell (h.next,30)) fun (x29:SL)=>(mA (rec42 a0 x29 a2 h28) fun (x30:(Unit)) h31=>(dA (.val zO2) (h31.cell (h.next,0)) fun (x32:Int)=>let x33:=eA x32 4;(bif x33 then(dA (.val zN2) (h31.cell (h.next,8)) fun (x34:Bool)=>(bif x34 then let h35:=h31.push (.row [(.str [32,101,108,115,101,32])] .own);(mA (f39 N a0 ⟨(some (h31.next,0)),1,1,1⟩ h35) fun (x36:(Unit)) h37=>(dA (.val zL2) (h37.cell (h.next,31)) fun (x38:SL)=>(mA (rec42 a0 x38 a2 h37) fun (x39:(Unit)) h40=>some ((()),h40))))else some ((()),h31)))else some ((()),h31))))))))else let x41:=eA x2 6;(bif x41 then let h42:=h1.push (.row [(.str [108,111,111,112,32])] .own);(mA (f39 N a0 ⟨(some (h1.next,0)),1,1,1⟩ h42) fun (x43:(Unit)) h44=>(dA (.val zL2) (h44.cell (h.next,30)) fun (x45:SL)=>(mA (rec42 a0 x45 a2 h44) fun (x46:(Unit)) h47=>(dA (.val zO2) (h47.cell (h.next,0)) fun (x48:Int)=>let x49:=eA x48 4;(bif x49 then(dA (.val zN2) (h47.cell (h.next,8)) fun (x50:Bool)=>(bif x50 then let h51:=h47.push (.row [(.str [32,101,108,115,101,32])] .own);(mA (f39 N a0 ⟨(some (h47.next,0)),1,1,1⟩ h51) fun (x52:(Unit)) h53=>(dA (.val zL2) (h53.cell (h.next,31)) fun (x54:SL)=>(mA (rec42 a0 x54 a2 h53) fun (x55:(Unit)) h56=>some ((()),h56))))else some ((()),h47)))
 else some ((()),h47))))))else(dA (.val zL2) (h1.cell (h.next,30)) fun (x57:SL)=>(mA (rec42 a0 x57 a2 h1) fun (x58:(Unit)) h59=>(dA (.val zO2) (h59.cell (h.next,0)) fun (x60:Int)=>let x61:=eA x60 4;(bif x61 then(dA (.val zN2) (h59.cell (h.next,8)) fun (x62:Bool)=>(bif x62 then let h63:=h59.push (.row [(.str [32,101,108,115,101,32])] .own);(mA (f39 N a0 ⟨(some (h59.next,0)),1,1,1⟩ h63) fun (x64:(Unit)) h65=>(dA (.val zL2) (h65.cell (h.next,31)) fun (x66:SL)=>(mA (rec42 a0 x66 a2 h65) fun (x67:(Unit)) h68=>some ((()),h68))))else some ((()),h59)))else some ((()),h59)))))))))
def tB4:Ann:=.n
def aA4 (N:Nat) (rec132:zJ2->zP->Int->Heap->Option ((Unit)×Heap)) (rec42:zJ2->SL->Int->Heap->Option ((Unit)×Heap)) (rec83:zJ2->zP->Int->Heap->Option ((Unit)×Heap)) (go:zJ2->Int->SL->Int->Int->Heap->Option (Out×zC2×Heap)) (v0:zJ2) (v2:Int) (v11:SL) (v12 v13:Int) (h:Heap):Option (Out×zC2×Heap):=let x4:=ltInt v13 v12;(bif x4 then(ixK v11.a v11.len v13 32 fun q5=>(dA (.val zA) (h.cells q5 32) fun (x6:zP)=>let h7:=h.push (.row yZA .own);(bB (h7.store (h.next,0) (yRA x6)) fun h8=>(bB v0 fun q9=>(mA (f43 N (some (q9.1,q9.2+0)) h8) fun (x10:Int) h11=>let x12:=ltInt 1048576 x10;(bif x12 then some (Out.ret,(v0,v2,()),h11)else let x13:=jB .i64 (v2+1);(mA (f82 N v0 x13 h11) fun (x14:(Unit)) h15=>(dA (.val zA) (h15.cells (h.next,0) 32) fun (x16:zP)=>let x17:=jB .i64 (v2+1);(mA (rec83 v0 x16 x17 h15) fun (x18:(Unit)) h19=>
 let h20:=h19.push (.row [(.str [10])] .own);(mA (f39 N v0 ⟨(some (h19.next,0)),1,1,1⟩ h20) fun (x21:(Unit)) h22=>let x23:=jB .i64 (v13+1);go v0 v2 v11 v12 x23 h22))))))))))else some ((Out.exit 0),(v0,v2,()),h))
def cA1 (N:Nat) (rec132:zJ2->zP->Int->Heap->Option ((Unit)×Heap)) (rec42:zJ2->SL->Int->Heap->Option ((Unit)×Heap)) (rec83:zJ2->zP->Int->Heap->Option ((Unit)×Heap)) (M:Nat) (v0:zJ2) (v2:Int) (v11:SL) (v12 v13:Int) (h:Heap):Option (Out×zC2×Heap):=iter (fun go s h=>aA4 N rec132 rec42 rec83 (fun v0 v2 v11 v12 v13 h=>go (v0,v2,v11,v12,v13,()) h) s.1 s.2.1 s.2.2.1 s.2.2.2.1 s.2.2.2.2.1 h) M (v0,v2,v11,v12,v13,()) h
theorem lAc (N rec132 rec42 rec83 M v0 v2 v11 v12 v13 h):cA1 N rec132 rec42 rec83 (M+1) v0 v2 v11 v12 v13 h=aA4 N rec132 rec42 rec83 (cA1 N rec132 rec42 rec83 M) v0 v2 v11 v12 v13 h:=rfl
def aAs (N:Nat) (rec132:zJ2->zP->Int->Heap->Option ((Unit)×Heap)) (rec42:zJ2->SL->Int->Heap->Option ((Unit)×Heap)) (rec83:zJ2->zP->Int->Heap->Option ((Unit)×Heap)) (a0:zJ2) (a1:SL) (a2:Int) (h:Heap):Option ((Unit)×Heap):=let h1:=h.push (.row [(.str [123,10])] .own);(mA (f39 N a0 ⟨(some (h.next,0)),1,1,1⟩ h1) fun (x2:(Unit)) h3=>(pC (cA1 N rec132 rec42 rec83 N a0 a2 a1 (Int.ofNat a1.len) 0 h3) fun o24 (j25:zC2) h26=>(bif jD o24 (.exit 0) then(mA (f82 N j25.1 j25.2.1 h26) fun (x27:(Unit)) h28=>let h29:=h28.push (.row [(.str [125])] .own);(mA (f39 N j25.1 ⟨(some (h28.next,0)),1,1,1⟩ h29) fun (x30:(Unit)) h31=>some ((()),h31)))else some ((()),h26))))
def rBa:Ann:=(.two .n (.two (.two .n (.two (.loop [(0,zK2),(2,zO2),(11,zL2),(12,zO2),(13,zO2)] [(.exit 0),.ret] [(0,zK2),(2,zO2)] .n) .n)) .n))
def bAs (N:Nat) (rec132:zJ2->zP->Int->Heap->Option ((Unit)×Heap)) (rec42:zJ2->SL->Int->Heap->Option ((Unit)×Heap)) (rec83:zJ2->zP->Int->Heap->Option ((Unit)×Heap)) (a0:zJ2) (a1:zP) (a2:Int) (h:Heap):Option ((Unit)×Heap):=let h1:=h.push (.row (yRA a1) .own);(dA (.val zO2) (h1.cell (h.next,0)) fun (x2:Int)=>let x3:=eA x2 1;(bif x3 then(dA (.val zA) (h1.cells (h.next,0) 32) fun (x4:zP)=>(mA (f129 N x4 h1) fun (x5:zQ2) h6=>
 let h7:=h6.push (.row [(.str x5)] .own);(mA (f39 N a0 ⟨(some (h6.next,0)),1,1,1⟩ h7) fun (x8:(Unit)) h9=>some ((()),h9))))else let x10:=eA x2 2;(bif x10 then(dA (.val zG) (h1.cells (h.next,9) 2) fun (x11:zB1)=>(mA (f130 N x11 h1) fun (x12:zQ2) h13=>(dA (.val zC) (h13.cells (h.next,11) 15) fun (x14:zQ)=>(mA (f131 N x14 h13) fun (x15:zQ2) h16=>let h17:=h16.push (.row [(.str x12),(.str [32,61,32]),(.str x15),(.str [59])] .own);(mA (f39 N a0 ⟨(some (h16.next,0)),4,4,1⟩ h17) fun (x18:(Unit)) h19=>(rC (bif (mB (h13.cells (h.next,11) 15) (.agg (yRB x14))) then (bif (mB (h1.cells (h.next,11) 15) (.agg (yRB x14))) then (bif (mB (h1.cells (h.next,9) 2) (.agg (yRF x11))) then true else false) else false) else false) ( some ((()),h19))))))))else let x20:=eA x2 3;(bif x20 then(dA (.val zC) (h1.cells (h.next,11) 15) fun (x21:zQ)=>(mA (f131 N x21 h1) fun (x22:zQ2) h23=>
 let h24:=h23.push (.row [(.str x22),(.str [59])] .own);(mA (f39 N a0 ⟨(some (h23.next,0)),2,2,1⟩ h24) fun (x25:(Unit)) h26=>some ((()),h26))))else let x27:=eA x2 10;(bif x27 then(dA (.val zN2) (h1.cell (h.next,8)) fun (x28:Bool)=>(bif x28 then(dA (.val zC) (h1.cells (h.next,11) 15) fun (x29:zQ)=>(mA (f131 N x29 h1) fun (x30:zQ2) h31=>let h32:=h31.push (.row [(.str [114,101,116,117,114,110,32]),(.str x30),(.str [59])] .own);(mA (f39 N a0 ⟨(some (h31.next,0)),3,3,1⟩ h32) fun (x33:(Unit)) h34=>some ((()),h34))))else let h35:=h1.push (.row [(.str [114,101,116,117,114,110,59])] .own);(mA (f39 N a0 ⟨(some (h1.next,0)),1,1,1⟩ h35) fun (x36:(Unit)) h37=>some ((()),h37))))else let x38:=eA x2 11;(bif x38 then(dA (.val zG) (h1.cells (h.next,9) 2) fun (x39:zB1)=>(mA (f130 N x39 h1) fun (x40:zQ2) h41=>let h42:=h41.push (.row [(.str [100,114,111,112,32]),(.str x40),(.str [59])] .own);(mA (f39 N a0 ⟨(some (h41.next,0)),3,3,1⟩ h42) fun (x43:(Unit)) h44=>some ((()),h44))))else let x45:=eA x2 8;(bif x45 then let h46:=h1.push (.row [(.str [98,114,101,97,107,59])] .own);(mA (f39 N a0 ⟨(some (h1.next,0)),1,1,1⟩ h46) fun (x47:(Unit)) h48=>
 some ((()),h48))else let x49:=eA x2 9;(bif x49 then let h50:=h1.push (.row [(.str [99,111,110,116,105,110,117,101,59])] .own);(mA (f39 N a0 ⟨(some (h1.next,0)),1,1,1⟩ h50) fun (x51:(Unit)) h52=>some ((()),h52))else(dA (.val zA) (h1.cells (h.next,0) 32) fun (x53:zP)=>(mA (rec132 a0 x53 a2 h1) fun (x54:(Unit)) h55=>
 some ((()),h55)))))))))))
def tBa:Ann:=.n
def mAc (N M:Nat):((zJ2->zP->Int->Heap->Option ((Unit)×Heap))×(zJ2->SL->Int->Heap->Option ((Unit)×Heap))×(zJ2->zP->Int->Heap->Option ((Unit)×Heap))×Unit):=Nat.rec (fun _ _ _ _=>none,fun _ _ _ _=>none,fun _ _ _ _=>none,()) (fun _ r=>(dAg N r.1 r.2.1 r.2.2.1,aAs N r.1 r.2.1 r.2.2.1,bAs N r.1 r.2.1 r.2.2.1,())) M
def f132 (N M:Nat):zJ2->zP->Int->Heap->Option ((Unit)×Heap):=(mAc N M).1
def f42 (N M:Nat):zJ2->SL->Int->Heap->Option ((Unit)×Heap):=(mAc N M).2.1
def f83 (N M:Nat):zJ2->zP->Int->Heap->Option ((Unit)×Heap):=(mAc N M).2.2.1
theorem mAn (N M a0 a1 a2 h):f132 N (M+1) a0 a1 a2 h=dAg N (f132 N M) (f42 N M) (f83 N M) a0 a1 a2 h:=rfl
theorem eAg (N M a0 a1 a2 h):f42 N (M+1) a0 a1 a2 h=aAs N (f132 N M) (f42 N M) (f83 N M) a0 a1 a2 h:=rfl
theorem cAs (N M a0 a1 a2 h):f83 N (M+1) a0 a1 a2 h=bAs N (f132 N M) (f42 N M) (f83 N M) a0 a1 a2 h:=rfl
theorem dL (N:Nat):∀ M:Nat,(jC Tryz.prog 132 [zK2,zA,zO2] (.tup []) (fun x h=>f132 N M x.1 x.2.1 x.2.2.1 h))/\(jC Tryz.prog 42 [zK2,zL2,zO2] (.tup []) (fun x h=>f42 N M x.1 x.2.1 x.2.2.1 h))/\(jC Tryz.prog 83 [zK2,zA,zO2] (.tup []) (fun x h=>f83 N M x.1 x.2.1 x.2.2.1 h))/\True
 | 0=>⟨(fun xs h r h' hx=>by cases hx),(fun xs h r h' hx=>by cases hx),(fun xs h r h' hx=>by cases hx),trivial⟩
 | M+1=>⟨cD (iA (dL N M).2.1 (iA (jA8 N) (iA (kAn N) nA))) N tB4 Tryz.f132,cD (iA (dL N M).2.2.1 (iA (lB4 N) (iA (iAn N) (iA (jA8 N) nA)))) N rBa Tryz.f42,cD (iA (jA8 N) (iA (dL N M).1 (iA (lAn N) (iA (kAc N) (iA (dAy N) nA))))) N tBa Tryz.f83,trivial⟩
theorem uB4 (N:Nat):jC Tryz.prog 42 [zK2,zL2,zO2] (.tup []) (fun x h=>f42 N N x.1 x.2.1 x.2.2.1 h):=(dL N N).2.1
def f44 (N:Nat) (a0:zJ2) (h:Heap):Option (zQ2×Heap):=(bB a0 fun q1=>(dA (.val zL2) (h.cell (q1.1,q1.2+1)) fun (x2:SL)=>(jJ (.val zK2) (qD E .unsafeSliceData [81] [(yL x2)] h) fun (x3:zJ2) h4=>(bB a0 fun q5=>(dA (.val zL2) (h4.cell (q5.1,q5.2+1)) fun (x6:SL)=>(jJ (.val zM2) (qD E .unsafeString [144,3] [(.ptr x3),(.int .i64 (Int.ofNat x6.len))] h4) fun (x7:zQ2) h8=>(rC (bif (mB (h4.cell (q5.1,q5.2+1)) (yL x6)) then (bif (mB (h.cell (q5.1,q5.2+1)) (yL x6)) then (bif (mB (h.cell (q1.1,q1.2+1)) (yL x2)) then true else false) else false) else false) ( some (x7,h8)))))))))
def uBa:Ann:=.n
theorem vB4 (N:Nat):jC Tryz.prog 44 [zK2] (.val zM2) (fun x h=>f44 N x.1 h):=cD nA N uBa Tryz.f44
def bA4 (N:Nat) (go:zJ2->SL->Int->Int->Heap->Option (Out×zD2×Heap)) (v4:zJ2) (v44:SL) (v45 v46:Int) (h:Heap):Option (Out×zD2×Heap):=let x47:=ltInt v46 v45;(bif x47 then(ixK v44.a v44.len v46 10 fun q48=>(dA (.val zH) (h.cells q48 10) fun (x49:zE1)=>let h50:=h.push (.row yZD .own);(bB (h50.store (h.next,0) (yRD x49)) fun h51=>(dA (.val zH) (h51.cells (h.next,0) 10) fun (x52:zE1)=>(mA (f20 N x52 h51) fun (x53:zQ2) h54=>let h55:=h54.push (.row [(.str x53),(.str [32])] .own);(mA (f39 N v4 ⟨(some (h54.next,0)),2,2,1⟩ h55) fun (x56:(Unit)) h57=>(dA (.val zL2) (h57.cell (h.next,8)) fun (x58:SL)=>(mA (f42 N N v4 x58 0 h57) fun (x59:(Unit)) h60=>let h61:=h60.push (.row [(.str [10])] .own);(mA (f39 N v4 ⟨(some (h60.next,0)),1,1,1⟩ h61) fun (x62:(Unit)) h63=>let x64:=jB .i64 (v46+1);go v4 v44 v45 x64 h63)))))))))else some ((Out.exit 2),(v4,()),h))
def kA8 (N M:Nat) (v4:zJ2) (v44:SL) (v45 v46:Int) (h:Heap):Option (Out×zD2×Heap):=iter (fun go s h=>bA4 N (fun v4 v44 v45 v46 h=>go (v4,v44,v45,v46,()) h) s.1 s.2.1 s.2.2.1 s.2.2.2.1 h) M (v4,v44,v45,v46,()) h
theorem nAc (N M v4 v44 v45 v46 h):kA8 N (M+1) v4 v44 v45 v46 h=bA4 N (kA8 N M) v4 v44 v45 v46 h:=rfl
def cA4 (N:Nat) (go:zJ2->zJ2->SL->Int->Int->Heap->Option (Out×zZ×Heap)) (v1 v4:zJ2) (v17:SL) (v18 v19:Int) (h:Heap):Option (Out×zZ×Heap):=let x10:=ltInt v19 v18;(bif x10 then(ixK v17.a v17.len v19 5 fun q11=>(dA (.val zK) (h.cells q11 5) fun (x12:zT1)=>let h13:=h.push (.row yZE .own);(bB (h13.store (h.next,0) (yRG x12)) fun h14=>(dA (.val zL2) (h14.cell (h.next,3)) fun (x15:SL)=>(mA (f38 N x15 h14) fun (x16:zQ2) h17=>let x18:=!fB x16 [];(bif x18 then(dA (.val zM2) (rA .add x16 [32]) fun (x19:zQ2)=>(dA (.val zN2) (h17.cell (h.next,0)) fun (x20:Bool)=>(mA (f40 N x20 h17) fun (x21:zQ2) h22=>(dA (.val zM2) (h22.cell (h.next,1)) fun (x23:zQ2)=>(dA (.val zL2) (h22.cell (h.next,2)) fun (x24:SL)=>(mA (f41 N x24 h22) fun (x25:zQ2) h26=>let h27:=h26.push (.row [(.str x21),(.str [115,116,114,117,99,116,32]),(.str x23),(.str x25),(.str [32,123,32]),(.str x19),(.str [125,10])] .own);(mA (f39 N v4 ⟨(some (h26.next,0)),7,7,1⟩ h27) fun (x28:(Unit)) h29=>(rC (bif (mB (h22.cell (h.next,2)) (yL x24)) then (bif (mB (h17.cell (h.next,2)) (yL x24)) then (bif (mB (h26.cell (h.next,1)) (.str x23)) then (bif (mB (h22.cell (h.next,1)) (.str x23)) then (bif (mB (h17.cell (h.next,1)) (.str x23)) then (bif (mB (h17.cell (h.next,0)) (.bool x20)) then true else false) else false) else false) else false) else false) else false) (
 let x30:=jB .i64 (v19+1);go v1 v4 v17 v18 x30 h29)))))))))else(dA (.val zN2) (h17.cell (h.next,0)) fun (x31:Bool)=>(mA (f40 N x31 h17) fun (x32:zQ2) h33=>(dA (.val zM2) (h33.cell (h.next,1)) fun (x34:zQ2)=>(dA (.val zL2) (h33.cell (h.next,2)) fun (x35:SL)=>(mA (f41 N x35 h33) fun (x36:zQ2) h37=>let h38:=h37.push (.row [(.str x32),(.str [115,116,114,117,99,116,32]),(.str x34),(.str x36),(.str [32,123,32]),(.str x16),(.str [125,10])] .own);(mA (f39 N v4 ⟨(some (h37.next,0)),7,7,1⟩ h38) fun (x39:(Unit)) h40=>(rC (bif (mB (h33.cell (h.next,2)) (yL x35)) then (bif (mB (h17.cell (h.next,2)) (yL x35)) then (bif (mB (h37.cell (h.next,1)) (.str x34)) then (bif (mB (h33.cell (h.next,1)) (.str x34)) then (bif (mB (h17.cell (h.next,1)) (.str x34)) then (bif (mB (h17.cell (h.next,0)) (.bool x31)) then true else false) else false) else false) else false) else false) else false) ( let x41:=jB .i64 (v19+1);go v1 v4 v17 v18 x41 h40))))))))))))))else some ((Out.exit 0),(v1,v4,()),h))
def dA1 (N M:Nat) (v1 v4:zJ2) (v17:SL) (v18 v19:Int) (h:Heap):Option (Out×zZ×Heap):=iter (fun go s h=>cA4 N (fun v1 v4 v17 v18 v19 h=>go (v1,v4,v17,v18,v19,()) h) s.1 s.2.1 s.2.2.1 s.2.2.2.1 s.2.2.2.2.1 h) M (v1,v4,v17,v18,v19,()) h
theorem oAc (N M v1 v4 v17 v18 v19 h):dA1 N (M+1) v1 v4 v17 v18 v19 h=cA4 N (dA1 N M) v1 v4 v17 v18 v19 h:=rfl
def f16 (N:Nat) (a0:zO1) (h:Heap):Option (zZ1×Heap):=let h1:=h.push (.row (yRH a0) .own);(dA (.val zJ) (h1.cells (h.next,0) 2) fun (x2:zO1)=>(mA (f33 N x2 h1) fun (x3:Bool) h4=>let x5:=!x3;(bif x5 then(mA (f37 N 1 0 h4) fun (x6:AV) h7=>some (([],x6,()),h7))else let h8:=h4.push (.row [(.ptr none),(.slice none 0 0 0)] (.ty 85));(dA (.val zL2) (h8.cell (h.next,0)) fun (x9:SL)=>(pC (dA1 N N (some (h.next,0)) (some (h4.next,0)) x9 (Int.ofNat x9.len) 0 h8) fun _ (j43:zZ) h44=>(bB j43.1 fun q45=>(dA (.val zL2) (h44.cell (q45.1,q45.2+1)) fun (x46:SL)=>(pC (kA8 N N j43.2.1 x46 (Int.ofNat x46.len) 0 h44) fun _ (j66:zD2) h67=>(bB j66.1 fun q68=>(mA (f43 N (some (q68.1,q68.2+0)) h67) fun (x69:Int) h70=>let x71:=ltInt 1048576 x69;(bif x71 then(mA (f37 N 5 0 h70) fun (x72:AV) h73=>some (([],x72,()),h73))else(bB j66.1 fun q74=>(mA (f44 N (some (q74.1,q74.2+0)) h70) fun (x75:zQ2) h76=>some ((x75,AV.nilIface,()),h76))))))))))))))
def vBa:Ann:=(.two .n (.two .n (.two .n (.two (.two .n (.two (.loop [(1,zK2),(4,zK2),(17,zL2),(18,zO2),(19,zO2)] [(.exit 0)] [(1,zK2),(4,zK2)] .n) .n)) (.two (.two .n (.two (.loop [(4,zK2),(44,zL2),(45,zO2),(46,zO2)] [(.exit 2)] [(4,zK2)] .n) .n)) .n)))))
theorem nAn (N:Nat):jC Tryz.prog 16 [zJ] (.tup [zM2,zP2]) (fun x h=>f16 N x.1 h):=cD (iA (vB4 N) (iA (iAn N) (iA (uB4 N) (iA (aAu N) (iA (cAu N) (iA (jA8 N) (iA (bAu N) (iA (pB1 N) (iA (yB3 N) (iA (jAn N) nA)))))))))) N vBa Tryz.f16
def f15 (N:Nat)  (h:Heap):Option (Bool×Heap):=let h1:=h.push (.row [(.bool false),(.str [102]),(.slice none 0 0 0),(.slice none 0 0 0),(.int .i64 0),(.str []),(.slice none 0 0 0),(.slice none 0 0 0),(.slice none 0 0 0),(.int .i64 0)] .own);(mA (f16 N (⟨none,0,0,0⟩,⟨(some (h.next,0)),1,1,10⟩,()) h1) fun (x2:zZ1) h3=>(dA (.val zN2) (oA9 E .eql 29 (.tmp 10) (.const .nilIface) x2.2.1 AV.nilIface) fun (x4:Bool)=>(bif x4 then let x5:=fB x2.1 [102,110,32,102,40,41,32,123,10,125,10];(bif x5 then let h6:=h3.push (.row [(.str [97])] .own);let h7:=h6.push (.row [(.int .i64 1),(.str []),(.slice none 0 0 0),(.slice none 0 0 0)] .own);(mA (f36 N N (5,[],⟨(some (h3.next,0)),1,1,1⟩,⟨(some (h6.next,0)),1,1,4⟩,()) h7) fun (x8:zQ2) h9=>let x10:=fB x8 [38,39,97,32,109,117,116,32,105,110,116];(bif x10 then let h11:=h9.push (.row [(.str [98])] .own);let h12:=h11.push (.row [(.str [97]),(.slice (some (h9.next,0)) 1 1 1),(.str [98]),(.slice none 0 0 0)] .own);(mA (f20 N (true,[102],⟨(some (h11.next,0)),2,2,2⟩,⟨none,0,0,0⟩,0,[],⟨none,0,0,0⟩,⟨none,0,0,0⟩,⟨none,0,0,0⟩,0,()) h12) fun (x13:zQ2) h14=>let x15:=fB x13 [112,117,98,32,102,110,32,102,60,39,97,58,32,39,98,44,32,39,98,62,40,41];some (x15,h14))else some (false,h9)))else some (false,h3))else some (false,h3))))
def wBa:Ann:=.n
theorem dAu (N:Nat):jC Tryz.prog 15 [] (.val zN2) (fun x h=>f15 N  h):=cD (iA (cAg N) (iA (jAn N) (iA (nAn N) nA))) N wBa Tryz.f15
def dA4 (N:Nat) (go:SL->Bool->Bool->Int->Heap->Option (Out×zP1×Heap)) (v0:SL) (v1 v4:Bool) (v5:Int) (h:Heap):Option (Out×zP1×Heap):=let x1:=ltInt v5 (Int.ofNat v0.len);(bif x1 then let x2:=ltInt v5 65;(bif x2 then(ixK v0.a v0.len v5 6 fun q3=>(dA (.val zN2) (h.cell (q3.1,q3.2+0)) fun (x4:Bool)=>(bif x4 then let x5:=!v1;(bif x5 then some (Out.ret,(v0,false,()),h)else(ixK v0.a v0.len v5 6 fun q6=>(dA (.val zM2) (h.cell (q6.1,q6.2+1)) fun (x7:zQ2)=>(mA (f46 N x7 h) fun (x8:Bool) h9=>let x10:=!x8;(bif x10 then some (Out.ret,(v0,false,()),h9)else(ixK v0.a v0.len v5 6 fun q11=>(dA (.val zE) (h9.cells (q11.1,q11.2+2) 4) fun (x12:zR)=>(mA (f21 N N x12 1 h9) fun (x13:Bool) h14=>let x15:=!x13;(bif x15 then some (Out.ret,(v0,false,()),h14)else let x16:=jB .i64 (v5+1);go v0 v1 v4 x16 h14)))))))))else(ixK v0.a v0.len v5 6 fun q17=>(dA (.val zM2) (h.cell (q17.1,q17.2+1)) fun (x18:zQ2)=>(mA (f46 N x18 h) fun (x19:Bool) h20=>let x21:=!x19;(bif x21 then some (Out.ret,(v0,false,()),h20)else(ixK v0.a v0.len v5 6 fun q22=>(dA (.val zE) (h20.cells (q22.1,q22.2+2) 4) fun (x23:zR)=>(mA (f21 N N x23 1 h20) fun (x24:Bool) h25=>let x26:=!x24;(bif x26 then some (Out.ret,(v0,false,()),h25)else let x27:=jB .i64 (v5+1);go v0 v1 v4 x27 h25)))))))))))else some ((Out.exit 0),(v0,v4,()),h))else some ((Out.exit 0),(v0,v4,()),h))
def eA1 (N M:Nat) (v0:SL) (v1 v4:Bool) (v5:Int) (h:Heap):Option (Out×zP1×Heap):=iter (fun go s h=>dA4 N (fun v0 v1 v4 v5 h=>go (v0,v1,v4,v5,()) h) s.1 s.2.1 s.2.2.1 s.2.2.2.1 h) M (v0,v1,v4,v5,()) h
theorem pAc (N M v0 v1 v4 v5 h):eA1 N (M+1) v0 v1 v4 v5 h=dA4 N (eA1 N M) v0 v1 v4 v5 h:=rfl
def f48 (N:Nat) (a0:SL) (a1:Bool) (h:Heap):Option (Bool×Heap):=(pC (eA1 N N a0 a1 false 0 h) fun o28 (j29:zP1) h30=>(bif jD o28 (.exit 0) then let x31:Bool:=wB (Int.ofNat j29.1.len) 64;some (x31,h30)else some (j29.2.1,h30)))
def yBa:Ann:=(.two .n (.two (.two .n (.two (.loop [(0,zL2),(1,zN2),(4,zN2),(5,zO2)] [(.exit 0),.ret] [(0,zL2),(4,zN2)] .n) .n)) .n))
theorem eAu (N:Nat):jC Tryz.prog 48 [zL2,zN2] (.val zN2) (fun x h=>f48 N x.1 x.2.1 h):=cD (iA (qW N) (iA (wAl N) nA)) N yBa Tryz.f48
def iY (N:Nat) (go:zJ2->Bool->Int->Heap->Option (Out×zY×Heap)) (v1:zJ2) (v2:Bool) (v3:Int) (h:Heap):Option (Out×zY×Heap):=(bB v1 fun q2=>(dA (.val zL2) (h.cell (q2.1,q2.2+1)) fun (x3:SL)=>let x4:=ltInt v3 (Int.ofNat x3.len);(bif x4 then let x5:=ltInt v3 65;(bif x5 then(bB v1 fun q6=>(dA (.val zL2) (h.cell (q6.1,q6.2+1)) fun (x7:SL)=>(ixK x7.a x7.len v3 1 fun q8=>(dA (.val zM2) (h.cell q8) fun (x9:zQ2)=>let x10:=!fB x9 [42];(bif x10 then(bB v1 fun q11=>(dA (.val zL2) (h.cell (q11.1,q11.2+1)) fun (x12:SL)=>(ixK x12.a x12.len v3 1 fun q13=>(dA (.val zM2) (h.cell q13) fun (x14:zQ2)=>(mA (f46 N x14 h) fun (x15:Bool) h16=>let x17:=!x15;(bif x17 then some (Out.ret,(v1,false,()),h16)else let x18:=jB .i64 (v3+1);go v1 v2 x18 h16))))))else let x19:=jB .i64 (v3+1);go v1 v2 x19 h)))))else some ((Out.exit 0),(v1,v2,()),h))else some ((Out.exit 0),(v1,v2,()),h))))
def jY (N M:Nat) (v1:zJ2) (v2:Bool) (v3:Int) (h:Heap):Option (Out×zY×Heap):=iter (fun go s h=>iY N (fun v1 v2 v3 h=>go (v1,v2,v3,()) h) s.1 s.2.1 s.2.2.1 h) M (v1,v2,v3,()) h
theorem lA8 (N M v1 v2 v3 h):jY N (M+1) v1 v2 v3 h=iY N (jY N M) v1 v2 v3 h:=rfl
def f135 (N:Nat) (a0:zB1) (h:Heap):Option (Bool×Heap):=let h1:=h.push (.row (yRF a0) .own);(pC (jY N N (some (h.next,0)) false 0 h1) fun o20 (j21:zY) h22=>(bif jD o20 (.exit 0) then(bB j21.1 fun q23=>(dA (.val zM2) (h22.cell (q23.1,q23.2+0)) fun (x24:zQ2)=>(mA (f46 N x24 h22) fun (x25:Bool) h26=>(bif x25 then(bB j21.1 fun q27=>(dA (.val zL2) (h26.cell (q27.1,q27.2+1)) fun (x28:SL)=>let x29:Bool:=wB (Int.ofNat x28.len) 64;some (x29,h26)))else some (false,h26)))))else some (j21.2.1,h22)))
def wB4:Ann:=(.two .n (.two (.two .n (.two (.loop [(1,zK2),(2,zN2),(3,zO2)] [(.exit 0),.ret] [(1,zK2),(2,zN2)] .n) .n)) .n))
theorem qAc (N:Nat):jC Tryz.prog 135 [zG] (.val zN2) (fun x h=>f135 N x.1 h):=cD (iA (qW N) nA) N wB4 Tryz.f135
noncomputable def f182 (N:Nat) (a0:zB1) (h:Heap):Option (Bool×Heap):=let h1:=h.push (.row (yRF a0) .own);(dA (.val zM2) (h1.cell (h.next,0)) fun (x2:zQ2)=>let x3:=fB x2 [];(bif x3 then(dA (.val zL2) (h1.cell (h.next,1)) fun (x4:SL)=>let x5:=eA (Int.ofNat x4.len) 0;some (x5,h1))else some (false,h1)))
def yB4:Ann:=.n
theorem eAy (N:Nat):jC Tryz.prog 182 [zG] (.val zN2) (fun x h=>f182 N x.1 h):=cD nA N yB4 Tryz.f182
def f137 (N:Nat) (a0:zX) (h:Heap):Option (Bool×Heap):=let h1:=h.push (.row (yRC a0) .own);(dA (.val zO2) (h1.cell (h.next,0)) fun (x2:Int)=>let x3:=eA x2 1;(bif x3 then(dA (.val zO2) (h1.cell (h.next,1)) fun (x4:Int)=>let x5:Bool:=wB 0 x4;(bif x5 then(dA (.val zO2) (h1.cell (h.next,1)) fun (x6:Int)=>let x7:Bool:=wB x6 2147483647;(bif x7 then(dA (.val zG) (h1.cells (h.next,2) 2) fun (x8:zB1)=>(mA (f182 N x8 h1) fun (x9:Bool) h10=>some (x9,h10)))else some (false,h1)))else some (false,h1)))else let x11:=eA x2 2;(bif x11 then(dA (.val zO2) (h1.cell (h.next,1)) fun (x12:Int)=>let x13:=eA x12 0;(bif x13 then(dA (.val zG) (h1.cells (h.next,2) 2) fun (x14:zB1)=>(mA (f182 N x14 h1) fun (x15:Bool) h16=>some (x15,h16)))else(dA (.val zO2) (h1.cell (h.next,1)) fun (x17:Int)=>let x18:=eA x17 1;(bif x18 then(dA (.val zG) (h1.cells (h.next,2) 2) fun (x19:zB1)=>(mA (f182 N x19 h1) fun (x20:Bool) h21=>some (x20,h21)))else some (false,h1)))))else let x22:=eA x2 3;(bif x22 then(dA (.val zO2) (h1.cell (h.next,1)) fun (x23:Int)=>let x24:=eA x23 0;(bif x24 then(dA (.val zG) (h1.cells (h.next,2) 2) fun (x25:zB1)=>(mA (f135 N x25 h1) fun (x26:Bool) h27=>some (x26,h27)))else some (false,h1)))else
 some (false,h1)))))
def aB5:Ann:=.n
theorem oAn (N:Nat):jC Tryz.prog 137 [zD] (.val zN2) (fun x h=>f137 N x.1 h):=cD (iA (eAy N) (iA (qAc N) nA)) N aB5 Tryz.f137
def f183 (N:Nat) (a0 a1:zB1) (h:Heap):Option (Bool×Heap):=let h1:=h.push (.row (yRF a0) .own);let h2:=h1.push (.row (yRF a1) .own);(dA (.val zM2) (h2.cell (h.next,0)) fun (x3:zQ2)=>(dA (.val zM2) (h2.cell (h1.next,0)) fun (x4:zQ2)=>let x5:=fB x3 x4;(bif x5 then(dA (.val zL2) (h2.cell (h.next,1)) fun (x6:SL)=>(dA (.val zL2) (h2.cell (h1.next,1)) fun (x7:SL)=>(mA (f59 N x6 x7 h2) fun (x8:Bool) h9=>some (x8,h9))))else some (false,h2))))
def bB5:Ann:=.n
theorem rAc (N:Nat):jC Tryz.prog 183 [zG,zG] (.val zN2) (fun x h=>f183 N x.1 x.2.1 h):=cD (iA (qAl N) nA) N bB5 Tryz.f183
def f184 (N:Nat) (a0 a1:zX) (h:Heap):Option (Bool×Heap):=let h1:=h.push (.row (yRC a0) .own);let h2:=h1.push (.row (yRC a1) .own);(dA (.val zO2) (h2.cell (h.next,0)) fun (x3:Int)=>(dA (.val zO2) (h2.cell (h1.next,0)) fun (x4:Int)=>let x5:=eA x3 x4;(bif x5 then(dA (.val zO2) (h2.cell (h.next,1)) fun (x6:Int)=>(dA (.val zO2) (h2.cell (h1.next,1)) fun (x7:Int)=>let x8:=eA x6 x7;(bif x8 then(dA (.val zG) (h2.cells (h.next,2) 2) fun (x9:zB1)=>(dA (.val zG) (h2.cells (h1.next,2) 2) fun (x10:zB1)=>(mA (f183 N x9 x10 h2) fun (x11:Bool) h12=>some (x11,h12))))else some (false,h2))))else some (false,h2))))
def cB5:Ann:=.n
theorem pAn (N:Nat):jC Tryz.prog 184 [zD,zD] (.val zN2) (fun x h=>f184 N x.1 x.2.1 h):=cD (iA (rAc N) nA) N cB5 Tryz.f184
def kY (N:Nat) (go:zJ2->zJ2->Bool->Int->Heap->Option (Out×zC1×Heap)) (v2 v3:zJ2) (v4:Bool) (v5:Int) (h:Heap):Option (Out×zC1×Heap):=(bB v2 fun q35=>(dA (.val zL2) (h.cell (q35.1,q35.2+14)) fun (x36:SL)=>let x37:=ltInt v5 (Int.ofNat x36.len);(bif x37 then(bB v2 fun q38=>(dA (.val zL2) (h.cell (q38.1,q38.2+14)) fun (x39:SL)=>(ixK x39.a x39.len v5 4 fun q40=>(dA (.val zD) (h.cells q40 4) fun (x41:zX)=>(bB v3 fun q42=>(dA (.val zL2) (h.cell (q42.1,q42.2+14)) fun (x43:SL)=>(ixK x43.a x43.len v5 4 fun q44=>(dA (.val zD) (h.cells q44 4) fun (x45:zX)=>(mA (f184 N x41 x45 h) fun (x46:Bool) h47=>let x48:=!x46;(bif x48 then some (Out.ret,(false,()),h47)else let x49:=jB .i64 (v5+1);go v2 v3 v4 x49 h47))))))))))else some ((Out.exit 0),(v4,()),h))))
def tAc (N M:Nat) (v2 v3:zJ2) (v4:Bool) (v5:Int) (h:Heap):Option (Out×zC1×Heap):=iter (fun go s h=>kY N (fun v2 v3 v4 v5 h=>go (v2,v3,v4,v5,()) h) s.1 s.2.1 s.2.2.1 s.2.2.2.1 h) M (v2,v3,v4,v5,()) h
theorem mA8 (N M v2 v3 v4 v5 h):tAc N (M+1) v2 v3 v4 v5 h=kY N (tAc N M) v2 v3 v4 v5 h:=rfl
def f181 (N:Nat) (a0 a1:zQ) (h:Heap):Option (Bool×Heap):=let h1:=h.push (.row (yRB a0) .own);let h2:=h1.push (.row (yRB a1) .own);(dA (.val zO2) (h2.cell (h.next,0)) fun (x3:Int)=>(dA (.val zO2) (h2.cell (h1.next,0)) fun (x4:Int)=>let x5:=!eA x3 x4;(bif x5 then some (false,h2)else(dA (.val zO2) (h2.cell (h.next,9)) fun (x6:Int)=>(dA (.val zO2) (h2.cell (h1.next,9)) fun (x7:Int)=>let x8:=!eA x6 x7;(bif x8 then some (false,h2)else(dA (.val zM2) (h2.cell (h.next,12)) fun (x9:zQ2)=>(dA (.val zM2) (h2.cell (h1.next,12)) fun (x10:zQ2)=>let x11:=!fB x9 x10;(bif x11 then some (false,h2)else(dA (.val zD) (h2.cells (h.next,1) 4) fun (x12:zX)=>(dA (.val zD) (h2.cells (h1.next,1) 4) fun (x13:zX)=>(mA (f184 N x12 x13 h2) fun (x14:Bool) h15=>let x16:=!x14;(bif x16 then some (false,h15)else(dA (.val zD) (h15.cells (h.next,5) 4) fun (x17:zX)=>(dA (.val zD) (h15.cells (h1.next,5) 4) fun (x18:zX)=>(mA (f184 N x17 x18 h15) fun (x19:Bool) h20=>let x21:=!x19;(bif x21 then some (false,h20)else(dA (.val zG) (h20.cells (h.next,10) 2) fun (x22:zB1)=>(dA (.val zG) (h20.cells (h1.next,10) 2) fun (x23:zB1)=>
 (mA (f183 N x22 x23 h20) fun (x24:Bool) h25=>let x26:=!x24;(bif x26 then some (false,h25)else(dA (.val zL2) (h25.cell (h.next,13)) fun (x27:SL)=>(dA (.val zL2) (h25.cell (h1.next,13)) fun (x28:SL)=>(mA (f59 N x27 x28 h25) fun (x29:Bool) h30=>let x31:=!x29;(bif x31 then some (false,h30)else(dA (.val zL2) (h30.cell (h.next,14)) fun (x32:SL)=>(dA (.val zL2) (h30.cell (h1.next,14)) fun (x33:SL)=>let x34:=!eA (Int.ofNat x32.len) (Int.ofNat x33.len);(bif x34 then some (false,h30)else(pC (tAc N N (some (h.next,0)) (some (h1.next,0)) false 0 h30) fun o50 (j51:zC1) h52=>(bif jD o50 (.exit 0) then some (true,h52)else some (j51.1,h52)))))))))))))))))))))))))))))))
def dB5:Ann:=(.two .n (.two .n (.two (.two .n (.two (.loop [(2,zK2),(3,zK2),(4,zN2),(5,zO2)] [(.exit 0),.ret] [(4,zN2)] .n) .n)) .n)))
theorem qAn (N:Nat):jC Tryz.prog 181 [zC,zC] (.val zN2) (fun x h=>f181 N x.1 x.2.1 h):=cD (iA (qAl N) (iA (pAn N) (iA (rAc N) nA))) N dB5 Tryz.f181
def lY (N:Nat) (go:zJ2->zJ2->Bool->Int->Heap->Option (Out×zY×Heap)) (v1 v3:zJ2) (v4:Bool) (v6:Int) (h:Heap):Option (Out×zY×Heap):=(bB v1 fun q98=>(dA (.val zL2) (h.cell (q98.1,q98.2+13)) fun (x99:SL)=>let x100:=ltInt v6 (Int.ofNat x99.len);(bif x100 then(bif v4 then(bB v1 fun q101=>(dA (.val zL2) (h.cell (q101.1,q101.2+13)) fun (x102:SL)=>(ixK x102.a x102.len v6 1 fun q103=>(dA (.val zM2) (h.cell q103) fun (x104:zQ2)=>(mA (f46 N x104 h) fun (x105:Bool) h106=>let x107:=jB .i64 (v6+1);go v1 v3 x105 x107 h106)))))else some ((Out.exit 3),(v3,v4,()),h))else some ((Out.exit 3),(v3,v4,()),h))))
def eA4 (N M:Nat) (v1 v3:zJ2) (v4:Bool) (v6:Int) (h:Heap):Option (Out×zY×Heap):=iter (fun go s h=>lY N (fun v1 v3 v4 v6 h=>go (v1,v3,v4,v6,()) h) s.1 s.2.1 s.2.2.1 s.2.2.2.1 h) M (v1,v3,v4,v6,()) h
theorem nA8 (N M v1 v3 v4 v6 h):eA4 N (M+1) v1 v3 v4 v6 h=lY N (eA4 N M) v1 v3 v4 v6 h:=rfl
def mY (N:Nat) (go:zJ2->zJ2->Bool->Int->Heap->Option (Out×zG1×Heap)) (v1 v3:zJ2) (v4:Bool) (v5:Int) (h:Heap):Option (Out×zG1×Heap):=(bB v1 fun q75=>(dA (.val zL2) (h.cell (q75.1,q75.2+14)) fun (x76:SL)=>let x77:=ltInt v5 (Int.ofNat x76.len);(bif x77 then(bif v4 then(bB v1 fun q78=>(dA (.val zL2) (h.cell (q78.1,q78.2+14)) fun (x79:SL)=>(ixK x79.a x79.len v5 4 fun q80=>(dA (.val zD) (h.cells q80 4) fun (x81:zX)=>(mA (f137 N x81 h) fun (x82:Bool) h83=>let x84:=jB .i64 (v5+1);go v1 v3 x82 x84 h83)))))else some ((Out.exit 1),(v1,v3,v4,()),h))else some ((Out.exit 1),(v1,v3,v4,()),h))))
def fA4 (N M:Nat) (v1 v3:zJ2) (v4:Bool) (v5:Int) (h:Heap):Option (Out×zG1×Heap):=iter (fun go s h=>mY N (fun v1 v3 v4 v5 h=>go (v1,v3,v4,v5,()) h) s.1 s.2.1 s.2.2.1 s.2.2.2.1 h) M (v1,v3,v4,v5,()) h
theorem oA8 (N M v1 v3 v4 v5 h):fA4 N (M+1) v1 v3 v4 v5 h=mY N (fA4 N M) v1 v3 v4 v5 h:=rfl
def f136 (N:Nat) (a0:zQ) (h:Heap):Option (Bool×Heap):=let h1:=h.push (.row (yRB a0) .own);(dA (.val zC) (h1.cells (h.next,0) 15) fun (x2:zQ)=>let h3:=h1.push (.row yZB .own);(bB (h3.store (h1.next,0) (yRB x2)) fun h4=>(bB (h4.store (h1.next,0) yZJ) fun h5=>(dA (.val zO2) (h5.cell (h.next,0)) fun (x6:Int)=>(mA (α:=zM1) ( let x7:=eA x6 1;(bif x7 then some (((some (h.next,0)),(some (h1.next,0)),x6,x7,()),h5)else let x8:=eA x6 4;some (((some (h.next,0)),(some (h1.next,0)),x6,x8,()),h5))) fun (j9:zM1) h10=>(bif j9.2.2.2.1 then(bB j9.1 fun q11=>(dA (.val zD) (h10.cells (q11.1,q11.2+1) 4) fun (x12:zX)=>(mA (f137 N x12 h10) fun (x13:Bool) h14=>(bB j9.2.1 fun q15=>(bB (h14.store (q15.1,q15.2+1) yZC) fun h16=>(bif x13 then(bB j9.2.1 fun q17=>(dA (.val zC) (h16.cells q17 15) fun (x18:zQ)=>(mA (f181 N x18 (0,0,0,[],⟨none,0,0,0⟩,0,0,[],⟨none,0,0,0⟩,0,[],⟨none,0,0,0⟩,[],⟨none,0,0,0⟩,⟨none,0,0,0⟩,()) h16) fun (x19:Bool) h20=>some (x19,h20))))else some (false,h16)))))))else(mA (α:=zM1) ( let x21:=eA j9.2.2.1 2;(bif x21 then some ((j9.1,j9.2.1,j9.2.2.1,x21,()),h10)else let x22:=eA j9.2.2.1 3
 some ((j9.1,j9.2.1,j9.2.2.1,x22,()),h10))) fun (j23:zM1) h24=>(bif j23.2.2.2.1 then(bB j23.1 fun q25=>(dA (.val zG) (h24.cells (q25.1,q25.2+10) 2) fun (x26:zB1)=>(mA (f135 N x26 h24) fun (x27:Bool) h28=>(bB j23.2.1 fun q29=>(bB (h28.store (q29.1,q29.2+10) yZG) fun h30=>(bif x27 then(bB j23.2.1 fun q31=>(dA (.val zC) (h30.cells q31 15) fun (x32:zQ)=>(mA (f181 N x32 (0,0,0,[],⟨none,0,0,0⟩,0,0,[],⟨none,0,0,0⟩,0,[],⟨none,0,0,0⟩,[],⟨none,0,0,0⟩,⟨none,0,0,0⟩,()) h30) fun (x33:Bool) h34=>some (x33,h34))))else some (false,h30)))))))else let x35:=eA j23.2.2.1 5;(bif x35 then(mA (α:=zY) ((bB j23.1 fun q36=>(dA (.val zD) (h24.cells (q36.1,q36.2+1) 4) fun (x37:zX)=>(mA (f137 N x37 h24) fun (x38:Bool) h39=>(bif x38 then(bB j23.1 fun q40=>(dA (.val zD) (h39.cells (q40.1,q40.2+5) 4) fun (x41:zX)=>(mA (f137 N x41 h39) fun (x42:Bool) h43=>(bif x42 then(bB j23.1 fun q44=>(dA (.val zO2) (h43.cell (q44.1,q44.2+9)) fun (x45:Int)=>let x46:Bool:=wB 1 x45;(bif x46 then(bB j23.1 fun q47=>(dA (.val zO2) (h43.cell (q47.1,q47.2+9)) fun (x48:Int)=>let x49:Bool:=wB x48 4
 some ((j23.2.1,x49,()),h43)))else some ((j23.2.1,false,()),h43))))else some ((j23.2.1,false,()),h43)))))else some ((j23.2.1,false,()),h39)))))) fun (j50:zY) h51=>(bB j50.1 fun q52=>(bB (h51.store (q52.1,q52.2+1) yZC) fun h53=>(bB j50.1 fun q54=>(bB (h53.store (q54.1,q54.2+5) yZC) fun h55=>(bB j50.1 fun q56=>(bB (h55.store (q56.1,q56.2+9) yZJ) fun h57=>(bif j50.2.1 then(bB j50.1 fun q58=>(dA (.val zC) (h57.cells q58 15) fun (x59:zQ)=>(mA (f181 N x59 (0,0,0,[],⟨none,0,0,0⟩,0,0,[],⟨none,0,0,0⟩,0,[],⟨none,0,0,0⟩,[],⟨none,0,0,0⟩,⟨none,0,0,0⟩,()) h57) fun (x60:Bool) h61=>some (x60,h61))))else some (false,h57)))))))))else(mA (α:=zG1) ( let x62:=eA j23.2.2.1 6;(bif x62 then some ((j23.1,j23.2.1,x62,()),h24)else let x63:=eA j23.2.2.1 7;some ((j23.1,j23.2.1,x63,()),h24))) fun (j64:zG1) h65=>(bif j64.2.2.1 then(mA (α:=zG1) ((bB j64.1 fun q66=>(dA (.val zM2) (h65.cell (q66.1,q66.2+12)) fun (x67:zQ2)=>(mA (f51 N x67 h65) fun (x68:Bool) h69=>(bif x68 then(bB j64.1 fun q70=>(dA (.val zL2) (h69.cell (q70.1,q70.2+14)) fun (x71:SL)=>let x72:Bool:=wB (Int.ofNat x71.len) 64;some ((j64.1,j64.2.1,x72,()),h69)))else some ((j64.1,j64.2.1,false,()),h69)))))) fun (j73:zG1) h74=>
 (pC (fA4 N N j73.1 j73.2.1 j73.2.2.1 0 h74) fun _ (j86:zG1) h87=>(mA (α:=zY) ((bB j86.1 fun q88=>(dA (.val zO2) (h87.cell (q88.1,q88.2+0)) fun (x89:Int)=>let x90:=eA x89 7;(bif x90 then(mA (α:=zG1) ((bif j86.2.2.1 then(bB j86.1 fun q91=>(dA (.val zL2) (h87.cell (q91.1,q91.2+13)) fun (x92:SL)=>(bB j86.1 fun q93=>(dA (.val zL2) (h87.cell (q93.1,q93.2+14)) fun (x94:SL)=>let x95:=eA (Int.ofNat x92.len) (Int.ofNat x94.len);some ((j86.1,j86.2.1,x95,()),h87)))))else some ((j86.1,j86.2.1,false,()),h87))) fun (j96:zG1) h97=>(pC (eA4 N N j96.1 j96.2.1 j96.2.2.1 0 h97) fun _ (j109:zY) h110=>(bB j109.1 fun q111=>(bB (h110.store (q111.1,q111.2+13) yZI) fun h112=>some (j109,h112)))))else some ((j86.2.1,j86.2.2.1,()),h87))))) fun (j113:zY) h114=>(bB j113.1 fun q115=>(bB (h114.store (q115.1,q115.2+12) [(.str [])]) fun h116=>(bB j113.1 fun q117=>(bB (h116.store (q117.1,q117.2+14) yZI) fun h118=>(bif j113.2.1 then(bB j113.1 fun q119=>(dA (.val zC) (h118.cells q119 15) fun (x120:zQ)=>(mA (f181 N x120 (0,0,0,[],⟨none,0,0,0⟩,0,0,[],⟨none,0,0,0⟩,0,[],⟨none,0,0,0⟩,[],⟨none,0,0,0⟩,⟨none,0,0,0⟩,()) h118) fun (x121:Bool) h122=>
 some (x121,h122))))else some (false,h118)))))))))else some (false,h65))))))))))))
def eB5:Ann:=(.two .n (.two .n (.two .n (.two .n (.two (.two .n (.two (.two (.join [(1,zK2),(3,zK2),(10,zO2),(11,zN2)] .n) (.two .n (.two (.join [(1,zK2),(3,zK2),(10,zO2),(19,zN2)] .n) (.two .n (.two .n (.two (.two (.join [(3,zK2),(4,zN2)] .n) .n) (.two (.join [(1,zK2),(3,zK2),(52,zN2)] .n) (.two (.two (.join [(1,zK2),(3,zK2),(4,zN2)] .n) (.two (.two .n (.two (.loop [(1,zK2),(3,zK2),(4,zN2),(5,zO2)] [(.exit 1)] [(1,zK2),(3,zK2),(4,zN2)] .n) .n)) (.two (.join [(3,zK2),(4,zN2)] (.two .n (.two (.two (.join [(1,zK2),(3,zK2),(4,zN2)] .n) (.two (.two .n (.two (.loop [(1,zK2),(3,zK2),(4,zN2),(6,zO2)] [(.exit 3)] [(3,zK2),(4,zN2)] .n) .n)) .n)) .n))) .n))) .n)))))))) .n)) .n)))))
theorem fAy (N:Nat):jC Tryz.prog 136 [zC] (.val zN2) (fun x h=>f136 N x.1 h):=cD (iA (oAt N) (iA (qW N) (iA (qAn N) (iA (oAn N) (iA (qAc N) nA))))) N eB5 Tryz.f136
def gM (N:Nat) (rec138:SL->SL->Heap->Option (Bool×Heap)) (go:SL->SL->Bool->Int->Heap->Option (Out×zC1×Heap)) (v0 v1:SL) (v4:Bool) (v5:Int) (h:Heap):Option (Out×zC1×Heap):=let x2:=ltInt v5 (Int.ofNat v0.len);(bif x2 then(ixK v0.a v0.len v5 32 fun q3=>(dA (.val zA) (h.cells q3 32) fun (x4:zP)=>(ixK v1.a v1.len v5 32 fun q5=>(dA (.val zA) (h.cells q5 32) fun (x6:zP)=>let h7:=h.push (.row yZA .own);let h8:=h7.push (.row yZA .own);(bB (h8.store (h.next,0) (yRA x4)) fun h9=>(bB (h9.store (h7.next,0) (yRA x6)) fun h10=>(rC (bif (mB (h10.cells q5 32) (.agg (yRA x6))) then (bif (mB (h9.cells q5 32) (.agg (yRA x6))) then (bif (mB (h8.cells q5 32) (.agg (yRA x6))) then (bif (mB (h7.cells q5 32) (.agg (yRA x6))) then (bif (mB (h.cells q5 32) (.agg (yRA x6))) then (bif (mB (h10.cells q3 32) (.agg (yRA x4))) then (bif (mB (h9.cells q3 32) (.agg (yRA x4))) then (bif (mB (h8.cells q3 32) (.agg (yRA x4))) then (bif (mB (h7.cells q3 32) (.agg (yRA x4))) then (bif (mB (h.cells q3 32) (.agg (yRA x4))) then true else false) else false) else false) else false) else false) else false) else false) else false) else false) else false) ((dA (.val zO2) (h10.cell (h.next,0)) fun (x11:Int)=>(dA (.val zO2) (h10.cell (h7.next,0)) fun (x12:Int)=>let x13:=!eA x11 x12;(bif x13 then some (Out.ret,(false,()),h10)else(dA (.val zO2) (h10.cell (h.next,1)) fun (x14:Int)=>(dA (.val zO2) (h10.cell (h7.next,1)) fun (x15:Int)=>
 let x16:=!eA x14 x15;(bif x16 then some (Out.ret,(false,()),h10)else(dA (.val zN2) (h10.cell (h.next,2)) fun (x17:Bool)=>(dA (.val zN2) (h10.cell (h7.next,2)) fun (x18:Bool)=>let x19:=!(bif x17 then x18 else !x18);(bif x19 then some (Out.ret,(false,()),h10)else(dA (.val zM2) (h10.cell (h.next,3)) fun (x20:zQ2)=>(dA (.val zM2) (h10.cell (h7.next,3)) fun (x21:zQ2)=>let x22:=!fB x20 x21;(bif x22 then some (Out.ret,(false,()),h10)else(dA (.val zN2) (h10.cell (h.next,8)) fun (x23:Bool)=>(dA (.val zN2) (h10.cell (h7.next,8)) fun (x24:Bool)=>let x25:=!(bif x23 then x24 else !x24);(bif x25 then some (Out.ret,(false,()),h10)else(dA (.val zE) (h10.cells (h.next,4) 4) fun (x26:zR)=>(dA (.val zE) (h10.cells (h7.next,4) 4) fun (x27:zR)=>(mA (f25 N N x26 x27 h10) fun (x28:Bool) h29=>let x30:=!x28;(bif x30 then some (Out.ret,(false,()),h29)else(dA (.val zG) (h29.cells (h.next,9) 2) fun (x31:zB1)=>(dA (.val zG) (h29.cells (h7.next,9) 2) fun (x32:zB1)=>(mA (f183 N x31 x32 h29) fun (x33:Bool) h34=>let x35:=!x33;(bif x35 then some (Out.ret,(false,()),h34)else(dA (.val zC) (h34.cells (h.next,11) 15) fun (x36:zQ)=>(dA (.val zC) (h34.cells (h7.next,11) 15) fun (x37:zQ)=>
 (mA (f181 N x36 x37 h34) fun (x38:Bool) h39=>let x40:=!x38;(bif x40 then some (Out.ret,(false,()),h39)else(dA (.val zD) (h39.cells (h.next,26) 4) fun (x41:zX)=>(dA (.val zD) (h39.cells (h7.next,26) 4) fun (x42:zX)=>(mA (f184 N x41 x42 h39) fun (x43:Bool) h44=>let x45:=!x43;(bif x45 then some (Out.ret,(false,()),h44)else(dA (.val zL2) (h44.cell (h.next,30)) fun (x46:SL)=>(dA (.val zL2) (h44.cell (h7.next,30)) fun (x47:SL)=>(mA (rec138 x46 x47 h44) fun (x48:Bool) h49=>let x50:=!x48;(bif x50 then some (Out.ret,(false,()),h49)else(dA (.val zL2) (h49.cell (h.next,31)) fun (x51:SL)=>(dA (.val zL2) (h49.cell (h7.next,31)) fun (x52:SL)=>(mA (rec138 x51 x52 h49) fun (x53:Bool) h54=>
 let x55:=!x53;(bif x55 then some (Out.ret,(false,()),h54)else let x56:=jB .i64 (v5+1);go v0 v1 v4 x56 h54)))))))))))))))))))))))))))))))))))))))))))))))else some ((Out.exit 0),(v4,()),h))
def gA4 (N:Nat) (rec138:SL->SL->Heap->Option (Bool×Heap)) (M:Nat) (v0 v1:SL) (v4:Bool) (v5:Int) (h:Heap):Option (Out×zC1×Heap):=iter (fun go s h=>gM N rec138 (fun v0 v1 v4 v5 h=>go (v0,v1,v4,v5,()) h) s.1 s.2.1 s.2.2.1 s.2.2.2.1 h) M (v0,v1,v4,v5,()) h
theorem iM (N rec138 M v0 v1 v4 v5 h):gA4 N rec138 (M+1) v0 v1 v4 v5 h=gM N rec138 (gA4 N rec138 M) v0 v1 v4 v5 h:=rfl
def fAg (N:Nat) (rec138:SL->SL->Heap->Option (Bool×Heap)) (a0 a1:SL) (h:Heap):Option (Bool×Heap):=let x1:=!eA (Int.ofNat a0.len) (Int.ofNat a1.len);(bif x1 then some (false,h)else(pC (gA4 N rec138 N a0 a1 false 0 h) fun o57 (j58:zC1) h59=>(bif jD o57 (.exit 0) then some (true,h59)else some (j58.1,h59))))
def fB5:Ann:=(.two .n (.two .n (.two (.two .n (.two (.loop [(0,zL2),(1,zL2),(4,zN2),(5,zO2)] [(.exit 0),.ret] [(4,zN2)] .n) .n)) .n)))
def gAy (N M:Nat):((SL->SL->Heap->Option (Bool×Heap))×Unit):=Nat.rec (fun _ _ _=>none,()) (fun _ r=>(fAg N r.1,())) M
def f138 (N M:Nat):SL->SL->Heap->Option (Bool×Heap):=(gAy N M).1
theorem pA8 (N M a0 a1 h):f138 N (M+1) a0 a1 h=fAg N (f138 N M) a0 a1 h:=rfl
theorem nY (N:Nat):∀ M:Nat,(jC Tryz.prog 138 [zL2,zL2] (.val zN2) (fun x h=>f138 N M x.1 x.2.1 h))/\True
 | 0=>⟨(fun xs h r h' hx=>by cases hx),trivial⟩
 | M+1=>⟨cD (iA (mAt N) (iA (pAn N) (iA (rAc N) (iA (qAn N) (iA (nY N M).1 nA))))) N fB5 Tryz.f138,trivial⟩
theorem iAy (N:Nat):jC Tryz.prog 138 [zL2,zL2] (.val zN2) (fun x h=>f138 N N x.1 x.2.1 h):=(nY N N).1
def iA4 (N:Nat) (rec88:SL->Int->Heap->Option (Bool×Heap)) (go:SL->Int->Bool->Int->Heap->Option (Out×zC1×Heap)) (v0:SL) (v1:Int) (v4:Bool) (v5:Int) (h:Heap):Option (Out×zC1×Heap):=let x2:=ltInt v5 (Int.ofNat v0.len);(bif x2 then(bB (α:=Sum (zB2×Heap) (Sum (zC1×Heap) (Empty))) ((ixK v0.a v0.len v5 32 fun q3=>(dA (.val zA) (h.cells q3 32) fun (x4:zP)=>let h5:=h.push (.row yZA .own);(bB (h5.store (h.next,0) (yRA x4)) fun h6=>(dA (.val zA) (h6.cells (h.next,0) 32) fun (x7:zP)=>let h8:=h6.push (.row yZA .own);(bB (h8.store (h6.next,0) (yRA x7)) fun h9=>(bB (h9.store (h6.next,0) yZJ) fun h10=>(bB (h10.store (h6.next,1) yZJ) fun h11=>(bB (h11.store (h6.next,30) yZI) fun h12=>(bB (h12.store (h6.next,31) yZI) fun h13=>(bB (α:=Sum (zW×Heap) (Sum (zC1×Heap) (Empty))) ((dA (.val zO2) (h13.cell (h.next,0)) fun (x14:Int)=>let x15:=eA x14 1;(bif x15 then(mA (α:=zW) ((dA (.val zM2) (h13.cell (h.next,3)) fun (x16:zQ2)=>(mA (f46 N x16 h13) fun (x17:Bool) h18=>(bif x17 then(dA (.val zE) (h18.cells (h.next,4) 4) fun (x19:zR)=>(mA (f21 N N x19 1 h18) fun (x20:Bool) h21=>some ((v0,v1,v4,v5,(some (h.next,0)),(some (h6.next,0)),x20,false,false,()),h21)))else some ((v0,v1,v4,v5,(some (h.next,0)),(some (h6.next,0)),false,false,false,()),h18))))) fun (j22:zW) h23=>(bB j22.2.2.2.2.2.1 fun q24=>
 (bB (h23.store (q24.1,q24.2+2) yZK) fun h25=>(bB j22.2.2.2.2.2.1 fun q26=>(bB (h25.store (q26.1,q26.2+3) [(.str [])]) fun h27=>(bB j22.2.2.2.2.2.1 fun q28=>(bB (h27.store (q28.1,q28.2+4) yZF) fun h29=>some (Sum.inl (j22,h29)))))))))else let x30:=eA x14 2;(bif x30 then(mA (α:=zW) ((dA (.val zG) (h13.cells (h.next,9) 2) fun (x31:zB1)=>(mA (f135 N x31 h13) fun (x32:Bool) h33=>(bif x32 then(dA (.val zC) (h33.cells (h.next,11) 15) fun (x34:zQ)=>(mA (f136 N x34 h33) fun (x35:Bool) h36=>some ((v0,v1,v4,v5,(some (h.next,0)),(some (h6.next,0)),x35,false,false,()),h36)))else some ((v0,v1,v4,v5,(some (h.next,0)),(some (h6.next,0)),false,false,false,()),h33))))) fun (j37:zW) h38=>(bB j37.2.2.2.2.2.1 fun q39=>(bB (h38.store (q39.1,q39.2+9) yZG) fun h40=>(bB j37.2.2.2.2.2.1 fun q41=>(bB (h40.store (q41.1,q41.2+11) yZB) fun h42=>some (Sum.inl (j37,h42)))))))else
 let x43:=eA x14 3;(bif x43 then(mA (α:=zW) ((dA (.val zC) (h13.cells (h.next,11) 15) fun (x44:zQ)=>(mA (f136 N x44 h13) fun (x45:Bool) h46=>(bif x45 then(dA (.val zO2) (h46.cell (h.next,11)) fun (x47:Int)=>let x48:=eA x47 6;some ((v0,v1,v4,v5,(some (h.next,0)),(some (h6.next,0)),x48,false,false,()),h46))else some ((v0,v1,v4,v5,(some (h.next,0)),(some (h6.next,0)),false,false,false,()),h46))))) fun (j49:zW) h50=>(bB j49.2.2.2.2.2.1 fun q51=>(bB (h50.store (q51.1,q51.2+11) yZB) fun h52=>some (Sum.inl (j49,h52)))))else let x53:=eA x14 4;(bif x53 then(dA (.val zD) (h13.cells (h.next,26) 4) fun (x54:zX)=>(mA (f137 N x54 h13) fun (x55:Bool) h56=>(dA (.val zN2) (h56.cell (h.next,8)) fun (x57:Bool)=>(rC (bif (mB (h56.cell (h.next,8)) (.bool x57)) then (bif (mB (h13.cell (h.next,8)) (.bool x57)) then (bif (mB (h13.cells (h.next,26) 4) (.agg (yRC x54))) then true else false) else false) else false) (
 (bB (h56.store (h6.next,26) yZC) fun h58=>(bB (h58.store (h6.next,8) yZK) fun h59=>some (Sum.inl ((v0,v1,v4,v5,(some (h.next,0)),(some (h6.next,0)),x55,true,x57,()),h59)))))))))else let x60:=eA x14 5;(bif x60 then(dA (.val zD) (h13.cells (h.next,26) 4) fun (x61:zX)=>(mA (f137 N x61 h13) fun (x62:Bool) h63=>(bB (h63.store (h6.next,26) yZC) fun h64=>some (Sum.inl ((v0,v1,v4,v5,(some (h.next,0)),(some (h6.next,0)),x62,true,false,()),h64)))))else(mA (α:=zD1) ( let x65:=eA x14 6;(bif x65 then some ((v0,v1,v4,v5,(some (h.next,0)),(some (h6.next,0)),true,false,false,x14,x65,()),h13)else let x66:=eA x14 7;some ((v0,v1,v4,v5,(some (h.next,0)),(some (h6.next,0)),true,false,false,x14,x66,()),h13))) fun (j67:zD1) h68=>(bif j67.2.2.2.2.2.2.2.2.2.2.1 then some (Sum.inl ((j67.1,j67.2.1,j67.2.2.1,j67.2.2.2.1,j67.2.2.2.2.1,j67.2.2.2.2.2.1,j67.2.2.2.2.2.2.1,true,j67.2.2.2.2.2.2.2.2.1,()),h68))else(mA (α:=zD1) ( let x69:=eA j67.2.2.2.2.2.2.2.2.2.1 8;(bif x69 then some ((j67.1,j67.2.1,j67.2.2.1,j67.2.2.2.1,j67.2.2.2.2.1,j67.2.2.2.2.2.1,j67.2.2.2.2.2.2.1,j67.2.2.2.2.2.2.2.1,j67.2.2.2.2.2.2.2.2.1,j67.2.2.2.2.2.2.2.2.2.1,x69,()),h68)else let x70:=eA j67.2.2.2.2.2.2.2.2.2.1 9;(bif x70 then some ((j67.1,j67.2.1,j67.2.2.1,j67.2.2.2.1,j67.2.2.2.2.1,j67.2.2.2.2.2.1,j67.2.2.2.2.2.2.1,j67.2.2.2.2.2.2.2.1,j67.2.2.2.2.2.2.2.2.1,j67.2.2.2.2.2.2.2.2.2.1,x70,()),h68)
 else let x71:=eA j67.2.2.2.2.2.2.2.2.2.1 10;some ((j67.1,j67.2.1,j67.2.2.1,j67.2.2.2.1,j67.2.2.2.2.1,j67.2.2.2.2.2.1,j67.2.2.2.2.2.2.1,j67.2.2.2.2.2.2.2.1,j67.2.2.2.2.2.2.2.2.1,j67.2.2.2.2.2.2.2.2.2.1,x71,()),h68)))) fun (j72:zD1) h73=>(bif j72.2.2.2.2.2.2.2.2.2.2.1 then some (Sum.inl ((j72.1,j72.2.1,j72.2.2.1,j72.2.2.2.1,j72.2.2.2.2.1,j72.2.2.2.2.2.1,j72.2.2.2.2.2.2.1,j72.2.2.2.2.2.2.2.1,j72.2.2.2.2.2.2.2.2.1,()),h73))else let x74:=eA j72.2.2.2.2.2.2.2.2.2.1 11;(bif x74 then(bB j72.2.2.2.2.1 fun q75=>(dA (.val zG) (h73.cells (q75.1,q75.2+9) 2) fun (x76:zB1)=>(mA (f135 N x76 h73) fun (x77:Bool) h78=>(bB j72.2.2.2.2.2.1 fun q79=>(bB (h78.store (q79.1,q79.2+9) yZG) fun h80=>some (Sum.inl ((j72.1,j72.2.1,j72.2.2.1,j72.2.2.2.1,j72.2.2.2.2.1,j72.2.2.2.2.2.1,x77,j72.2.2.2.2.2.2.2.1,j72.2.2.2.2.2.2.2.2.1,()),h80)))))))else some (Sum.inr (Sum.inl ((false,()),h73))))))))))))))) fun j81=>(kC j81 (fun (j82:zW) h83=>(mA (α:=zW) ((mA (α:=zK1) ((bB j82.2.2.2.2.1 fun q85=>(dA (.val zO2) (h83.cell (q85.1,q85.2+0)) fun (x86:Int)=>let x87:=eA x86 1;(bif x87 then(bB j82.2.2.2.2.1 fun q88=>(dA (.val zN2) (h83.cell (q88.1,q88.2+8)) fun (x89:Bool)=>some ((j82.1,j82.2.1,j82.2.2.1,j82.2.2.2.1,j82.2.2.2.2.1,j82.2.2.2.2.2.1,j82.2.2.2.2.2.2.1,j82.2.2.2.2.2.2.2.1,j82.2.2.2.2.2.2.2.2.1,x89,()),h83)))else(bB j82.2.2.2.2.1 fun q90=>(dA (.val zO2) (h83.cell (q90.1,q90.2+0)) fun (x91:Int)=>let x92:=eA x91 10;(bif x92 then(bB j82.2.2.2.2.1 fun q93=>
 (dA (.val zN2) (h83.cell (q93.1,q93.2+8)) fun (x94:Bool)=>some ((j82.1,j82.2.1,j82.2.2.1,j82.2.2.2.1,j82.2.2.2.2.1,j82.2.2.2.2.2.1,j82.2.2.2.2.2.2.1,j82.2.2.2.2.2.2.2.1,j82.2.2.2.2.2.2.2.2.1,x94,()),h83)))else some ((j82.1,j82.2.1,j82.2.2.1,j82.2.2.2.1,j82.2.2.2.2.1,j82.2.2.2.2.2.1,j82.2.2.2.2.2.2.1,j82.2.2.2.2.2.2.2.1,j82.2.2.2.2.2.2.2.2.1,false,()),h83)))))))) fun (j95:zK1) h96=>(bif j95.2.2.2.2.2.2.2.2.2.1 then(mA (α:=zW) ((bif j95.2.2.2.2.2.2.1 then(bB j95.2.2.2.2.1 fun q97=>(dA (.val zC) (h96.cells (q97.1,q97.2+11) 15) fun (x98:zQ)=>(mA (f136 N x98 h96) fun (x99:Bool) h100=>some ((j95.1,j95.2.1,j95.2.2.1,j95.2.2.2.1,j95.2.2.2.2.1,j95.2.2.2.2.2.1,x99,j95.2.2.2.2.2.2.2.1,j95.2.2.2.2.2.2.2.2.1,()),h100))))else some ((j95.1,j95.2.1,j95.2.2.1,j95.2.2.2.1,j95.2.2.2.2.1,j95.2.2.2.2.2.1,false,j95.2.2.2.2.2.2.2.1,j95.2.2.2.2.2.2.2.2.1,()),h96))) fun (j101:zW) h102=>(bB j101.2.2.2.2.2.1 fun q103=>(bB (h102.store (q103.1,q103.2+11) yZB) fun h104=>(bB j101.2.2.2.2.2.1 fun q105=>(bB (h104.store (q105.1,q105.2+8) yZK) fun h106=>some (j101,h106))))))
 else some ((j95.1,j95.2.1,j95.2.2.1,j95.2.2.2.1,j95.2.2.2.2.1,j95.2.2.2.2.2.1,j95.2.2.2.2.2.2.1,j95.2.2.2.2.2.2.2.1,j95.2.2.2.2.2.2.2.2.1,()),h96)))) fun (j107:zW) h108=>let x109:=!j107.2.2.2.2.2.2.1;(bif x109 then some (Sum.inr (Sum.inl ((false,()),h108)))else(bB j107.2.2.2.2.2.1 fun q110=>(dA (.val zA) (h108.cells q110 32) fun (x111:zP)=>let h112:=h108.push (.row (yRA x111) .own);let h113:=h112.push (.row yZA .own);(mA (f138 N N ⟨(some (h108.next,0)),1,1,32⟩ ⟨(some (h112.next,0)),1,1,32⟩ h113) fun (x114:Bool) h115=>let x116:=!x114;(bif x116 then some (Sum.inr (Sum.inl ((false,()),h115)))else let x117:=!j107.2.2.2.2.2.2.2.1;(bif x117 then(bB j107.2.2.2.2.1 fun q118=>(dA (.val zL2) (h115.cell (q118.1,q118.2+30)) fun (x119:SL)=>let x120:=ltInt 0 (Int.ofNat x119.len);(bif x120 then some (Sum.inr (Sum.inl ((false,()),h115)))else let x121:=!j107.2.2.2.2.2.2.2.2.1;(bif x121 then(bB j107.2.2.2.2.1 fun q122=>(dA (.val zL2) (h115.cell (q122.1,q122.2+31)) fun (x123:SL)=>let x124:=ltInt 0 (Int.ofNat x123.len);(bif x124 then some (Sum.inr (Sum.inl ((false,()),h115)))else(bif j107.2.2.2.2.2.2.2.1 then(bB j107.2.2.2.2.1 fun q125=>(dA (.val zL2) (h115.cell (q125.1,q125.2+30)) fun (x126:SL)=>let x127:=jB .i64 (j107.2.1+1);(mA (rec88 x126 x127 h115) fun (x128:Bool) h129=>let x130:=!x128;(bif x130 then some (Sum.inr (Sum.inl ((false,()),h129)))else(bif j107.2.2.2.2.2.2.2.2.1 then(bB j107.2.2.2.2.1 fun q131=>(dA (.val zL2) (h129.cell (q131.1,q131.2+31)) fun (x132:SL)=>
 let x133:=jB .i64 (j107.2.1+1);(mA (rec88 x132 x133 h129) fun (x134:Bool) h135=>let x136:=!x134;(bif x136 then some (Sum.inr (Sum.inl ((false,()),h135)))else some (Sum.inl ((j107.1,j107.2.1,j107.2.2.1,j107.2.2.2.1,()),h135))))))else some (Sum.inl ((j107.1,j107.2.1,j107.2.2.1,j107.2.2.2.1,()),h129)))))))else(bif j107.2.2.2.2.2.2.2.2.1 then(bB j107.2.2.2.2.1 fun q137=>(dA (.val zL2) (h115.cell (q137.1,q137.2+31)) fun (x138:SL)=>let x139:=jB .i64 (j107.2.1+1);(mA (rec88 x138 x139 h115) fun (x140:Bool) h141=>let x142:=!x140;(bif x142 then some (Sum.inr (Sum.inl ((false,()),h141)))else some (Sum.inl ((j107.1,j107.2.1,j107.2.2.1,j107.2.2.2.1,()),h141))))))else some (Sum.inl ((j107.1,j107.2.1,j107.2.2.1,j107.2.2.2.1,()),h115)))))))else(bif j107.2.2.2.2.2.2.2.1 then(bB j107.2.2.2.2.1 fun q143=>(dA (.val zL2) (h115.cell (q143.1,q143.2+30)) fun (x144:SL)=>let x145:=jB .i64 (j107.2.1+1);(mA (rec88 x144 x145 h115) fun (x146:Bool) h147=>let x148:=!x146;(bif x148 then some (Sum.inr (Sum.inl ((false,()),h147)))else(bif j107.2.2.2.2.2.2.2.2.1 then(bB j107.2.2.2.2.1 fun q149=>(dA (.val zL2) (h147.cell (q149.1,q149.2+31)) fun (x150:SL)=>let x151:=jB .i64 (j107.2.1+1);(mA (rec88 x150 x151 h147) fun (x152:Bool) h153=>let x154:=!x152;(bif x154 then some (Sum.inr (Sum.inl ((false,()),h153)))else some (Sum.inl ((j107.1,j107.2.1,j107.2.2.1,j107.2.2.2.1,()),h153))))))else some (Sum.inl ((j107.1,j107.2.1,j107.2.2.1,j107.2.2.2.1,()),h147)))))))else(bif j107.2.2.2.2.2.2.2.2.1 then
 (bB j107.2.2.2.2.1 fun q155=>(dA (.val zL2) (h115.cell (q155.1,q155.2+31)) fun (x156:SL)=>let x157:=jB .i64 (j107.2.1+1);(mA (rec88 x156 x157 h115) fun (x158:Bool) h159=>let x160:=!x158;(bif x160 then some (Sum.inr (Sum.inl ((false,()),h159)))else some (Sum.inl ((j107.1,j107.2.1,j107.2.2.1,j107.2.2.2.1,()),h159))))))else some (Sum.inl ((j107.1,j107.2.1,j107.2.2.1,j107.2.2.2.1,()),h115))))))))else let x161:=!j107.2.2.2.2.2.2.2.2.1;(bif x161 then(bB j107.2.2.2.2.1 fun q162=>(dA (.val zL2) (h115.cell (q162.1,q162.2+31)) fun (x163:SL)=>let x164:=ltInt 0 (Int.ofNat x163.len);(bif x164 then some (Sum.inr (Sum.inl ((false,()),h115)))else(bif j107.2.2.2.2.2.2.2.1 then(bB j107.2.2.2.2.1 fun q165=>(dA (.val zL2) (h115.cell (q165.1,q165.2+30)) fun (x166:SL)=>let x167:=jB .i64 (j107.2.1+1);(mA (rec88 x166 x167 h115) fun (x168:Bool) h169=>let x170:=!x168;(bif x170 then some (Sum.inr (Sum.inl ((false,()),h169)))else(bif j107.2.2.2.2.2.2.2.2.1 then(bB j107.2.2.2.2.1 fun q171=>(dA (.val zL2) (h169.cell (q171.1,q171.2+31)) fun (x172:SL)=>let x173:=jB .i64 (j107.2.1+1);(mA (rec88 x172 x173 h169) fun (x174:Bool) h175=>let x176:=!x174;(bif x176 then some (Sum.inr (Sum.inl ((false,()),h175)))else some (Sum.inl ((j107.1,j107.2.1,j107.2.2.1,j107.2.2.2.1,()),h175))))))else some (Sum.inl ((j107.1,j107.2.1,j107.2.2.1,j107.2.2.2.1,()),h169)))))))else(bif j107.2.2.2.2.2.2.2.2.1 then(bB j107.2.2.2.2.1 fun q177=>(dA (.val zL2) (h115.cell (q177.1,q177.2+31)) fun (x178:SL)=>
 let x179:=jB .i64 (j107.2.1+1);(mA (rec88 x178 x179 h115) fun (x180:Bool) h181=>let x182:=!x180;(bif x182 then some (Sum.inr (Sum.inl ((false,()),h181)))else some (Sum.inl ((j107.1,j107.2.1,j107.2.2.1,j107.2.2.2.1,()),h181))))))else some (Sum.inl ((j107.1,j107.2.1,j107.2.2.1,j107.2.2.2.1,()),h115)))))))else(bif j107.2.2.2.2.2.2.2.1 then(bB j107.2.2.2.2.1 fun q183=>(dA (.val zL2) (h115.cell (q183.1,q183.2+30)) fun (x184:SL)=>let x185:=jB .i64 (j107.2.1+1);(mA (rec88 x184 x185 h115) fun (x186:Bool) h187=>let x188:=!x186;(bif x188 then some (Sum.inr (Sum.inl ((false,()),h187)))else(bif j107.2.2.2.2.2.2.2.2.1 then(bB j107.2.2.2.2.1 fun q189=>(dA (.val zL2) (h187.cell (q189.1,q189.2+31)) fun (x190:SL)=>let x191:=jB .i64 (j107.2.1+1);(mA (rec88 x190 x191 h187) fun (x192:Bool) h193=>let x194:=!x192;(bif x194 then some (Sum.inr (Sum.inl ((false,()),h193)))else some (Sum.inl ((j107.1,j107.2.1,j107.2.2.1,j107.2.2.2.1,()),h193))))))else some (Sum.inl ((j107.1,j107.2.1,j107.2.2.1,j107.2.2.2.1,()),h187)))))))else(bif j107.2.2.2.2.2.2.2.2.1 then(bB j107.2.2.2.2.1 fun q195=>(dA (.val zL2) (h115.cell (q195.1,q195.2+31)) fun (x196:SL)=>let x197:=jB .i64 (j107.2.1+1);(mA (rec88 x196 x197 h115) fun (x198:Bool) h199=>let x200:=!x198;(bif x200 then some (Sum.inr (Sum.inl ((false,()),h199)))else some (Sum.inl ((j107.1,j107.2.1,j107.2.2.1,j107.2.2.2.1,()),h199))))))else some (Sum.inl ((j107.1,j107.2.1,j107.2.2.1,j107.2.2.2.1,()),h115))))))))))))) fun j84=>(kC j84 (fun (j201:zC1) h202=>
 some (Sum.inr (Sum.inl (j201,h202)))) fun _=>none))))))))))))) fun j204=>(kC j204 (fun (j205:zB2) h206=>let x208:=jB .i64 (j205.2.2.2.1+1);go j205.1 j205.2.1 j205.2.2.1 x208 h206) fun j207=>(kC j207 (fun (j209:zC1) h210=>some (Out.ret,j209,h210)) fun _=>none)))else some ((Out.exit 0),(v4,()),h))
def qA8 (N:Nat) (rec88:SL->Int->Heap->Option (Bool×Heap)) (M:Nat) (v0:SL) (v1:Int) (v4:Bool) (v5:Int) (h:Heap):Option (Out×zC1×Heap):=iter (fun go s h=>iA4 N rec88 (fun v0 v1 v4 v5 h=>go (v0,v1,v4,v5,()) h) s.1 s.2.1 s.2.2.1 s.2.2.2.1 h) M (v0,v1,v4,v5,()) h
theorem uAc (N rec88 M v0 v1 v4 v5 h):qA8 N rec88 (M+1) v0 v1 v4 v5 h=iA4 N rec88 (qA8 N rec88 M) v0 v1 v4 v5 h:=rfl
def dAs (N:Nat) (rec88:SL->Int->Heap->Option (Bool×Heap)) (a0:SL) (a1:Int) (h:Heap):Option (Bool×Heap):=let x1:=ltInt 64 a1;(bif x1 then some (false,h)else(pC (qA8 N rec88 N a0 a1 false 0 h) fun o212 (j213:zC1) h214=>(bif jD o212 (.exit 0) then some (true,h214)else some (j213.1,h214))))
def aBb:Ann:=(.two .n (.two .n (.two (.two .n (.two (.loop [(0,zL2),(1,zO2),(4,zN2),(5,zO2)] [(.exit 0),.ret] [(4,zN2)] (.two .n (.two (.joinO [(.norm,[(0,zL2),(1,zO2),(4,zN2),(5,zO2)]),(.ret,[(4,zN2)])] (.two (.two .n (.two .n (.two .n (.two .n (.two (.joinO [(.norm,[(0,zL2),(1,zO2),(4,zN2),(5,zO2),(6,zK2),(7,zK2),(8,zN2),(9,zN2),(10,zN2)]),(.ret,[(4,zN2)])] (.two .n (.two (.two .n (.two (.two (.join [(0,zL2),(1,zO2),(4,zN2),(5,zO2),(6,zK2),(7,zK2),(8,zN2),(9,zN2),(10,zN2)] .n) .n) (.two .n (.two (.two (.join [(0,zL2),(1,zO2),(4,zN2),(5,zO2),(6,zK2),(7,zK2),(8,zN2),(9,zN2),(10,zN2)] .n) .n) (.two .n (.two (.two (.join [(0,zL2),(1,zO2),(4,zN2),(5,zO2),(6,zK2),(7,zK2),(8,zN2),(9,zN2),(10,zN2)] .n) .n) (.two .n (.two .n (.two .n (.two .n (.two (.join [(0,zL2),(1,zO2),(4,zN2),(5,zO2),(6,zK2),(7,zK2),(8,zN2),(9,zN2),(10,zN2),(29,zO2),(88,zN2)] .n) (.two .n (.two (.join [(0,zL2),(1,zO2),(4,zN2),(5,zO2),(6,zK2),(7,zK2),(8,zN2),(9,zN2),(10,zN2),(29,zO2),(91,zN2)] .n) .n))))))))))))) .n))) (.two (.join [(0,zL2),(1,zO2),(4,zN2),(5,zO2),(6,zK2),(7,zK2),(8,zN2),(9,zN2),(10,zN2)] (.two (.join [(0,zL2),(1,zO2),(4,zN2),(5,zO2),(6,zK2),(7,zK2),(8,zN2),(9,zN2),(10,zN2),(113,zN2)] .n) (.two (.two (.join [(0,zL2),(1,zO2),(4,zN2),(5,zO2),(6,zK2),(7,zK2),(8,zN2),(9,zN2),(10,zN2)] .n) .n) .n))) .n)))))) .n)) .n))) .n)) .n)))
def gB5 (N M:Nat):((SL->Int->Heap->Option (Bool×Heap))×Unit):=Nat.rec (fun _ _ _=>none,()) (fun _ r=>(dAs N r.1,())) M
def f88 (N M:Nat):SL->Int->Heap->Option (Bool×Heap):=(gB5 N M).1
theorem gAg (N M a0 a1 h):f88 N (M+1) a0 a1 h=dAs N (f88 N M) a0 a1 h:=rfl
theorem fA1 (N:Nat):∀ M:Nat,(jC Tryz.prog 88 [zL2,zO2] (.val zN2) (fun x h=>f88 N M x.1 x.2.1 h))/\True
 | 0=>⟨(fun xs h r h' hx=>by cases hx),trivial⟩
 | M+1=>⟨cD (iA (fA1 N M).1 (iA (qW N) (iA (wAl N) (iA (iAy N) (iA (oAn N) (iA (fAy N) (iA (qAc N) nA))))))) N aBb Tryz.f88,trivial⟩
theorem iB5 (N:Nat):jC Tryz.prog 88 [zL2,zO2] (.val zN2) (fun x h=>f88 N N x.1 x.2.1 h):=(fA1 N N).1
def jA4 (N:Nat) (go:zJ2->Bool->Int->Heap->Option (Out×zY×Heap)) (v1:zJ2) (v2:Bool) (v3:Int) (h:Heap):Option (Out×zY×Heap):=(bB v1 fun q12=>(dA (.val zL2) (h.cell (q12.1,q12.2+2)) fun (x13:SL)=>let x14:=ltInt v3 (Int.ofNat x13.len);(bif x14 then(bB v1 fun q15=>(dA (.val zL2) (h.cell (q15.1,q15.2+2)) fun (x16:SL)=>(ixK x16.a x16.len v3 2 fun q17=>(dA (.val zM2) (h.cell (q17.1,q17.2+0)) fun (x18:zQ2)=>(mA (f68 N x18 h) fun (x19:Bool) h20=>let x21:=!x19;(bif x21 then some (Out.ret,(v1,false,()),h20)else(bB v1 fun q22=>(dA (.val zL2) (h20.cell (q22.1,q22.2+2)) fun (x23:SL)=>(ixK x23.a x23.len v3 2 fun q24=>(dA (.val zL2) (h20.cell (q24.1,q24.2+1)) fun (x25:SL)=>(mA (f47 N x25 h20) fun (x26:Bool) h27=>let x28:=!x26;(bif x28 then some (Out.ret,(v1,false,()),h27)else let x29:=jB .i64 (v3+1);go v1 v2 x29 h27))))))))))))else some ((Out.exit 0),(v1,v2,()),h))))
def iAg (N M:Nat) (v1:zJ2) (v2:Bool) (v3:Int) (h:Heap):Option (Out×zY×Heap):=iter (fun go s h=>jA4 N (fun v1 v2 v3 h=>go (v1,v2,v3,()) h) s.1 s.2.1 s.2.2.1 h) M (v1,v2,v3,()) h
theorem vAc (N M v1 v2 v3 h):iAg N (M+1) v1 v2 v3 h=jA4 N (iAg N M) v1 v2 v3 h:=rfl
def f49 (N:Nat) (a0:zE1) (h:Heap):Option (Bool×Heap):=let h1:=h.push (.row (yRD a0) .own);(dA (.val zM2) (h1.cell (h.next,1)) fun (x2:zQ2)=>(mA (f46 N x2 h1) fun (x3:Bool) h4=>let x5:=!x3;(bif x5 then some (false,h4)else(dA (.val zL2) (h4.cell (h.next,2)) fun (x6:SL)=>let x7:=ltInt 64 (Int.ofNat x6.len);(bif x7 then some (false,h4)else(dA (.val zL2) (h4.cell (h.next,3)) fun (x8:SL)=>(mA (f48 N x8 true h4) fun (x9:Bool) h10=>let x11:=!x9;(bif x11 then some (false,h10)else(pC (iAg N N (some (h.next,0)) false 0 h10) fun o30 (j31:zY) h32=>(bif jD o30 (.exit 0) then(bB j31.1 fun q33=>(dA (.val zE) (h32.cells (q33.1,q33.2+4) 4) fun (x34:zR)=>(mA (f25 N N x34 (0,[],⟨none,0,0,0⟩,⟨none,0,0,0⟩,()) h32) fun (x35:Bool) h36=>(bif x35 then(bB j31.1 fun q37=>(dA (.val zL2) (h36.cell (q37.1,q37.2+8)) fun (x38:SL)=>(mA (f88 N N x38 1 h36) fun (x39:Bool) h40=>(bif x39 then(bB j31.1 fun q41=>(dA (.val zL2) (h40.cell (q41.1,q41.2+8)) fun (x42:SL)=>(mA (f35 N N x42 h40) fun (x43:Int) h44=>let x45:Bool:=wB x43 2000;some (x45,h44))))else some (false,h40)))))else(bB j31.1 fun q46=>(dA (.val zE) (h36.cells (q46.1,q46.2+4) 4) fun (x47:zR)=>(mA (f21 N N x47 1 h36) fun (x48:Bool) h49=>(bif x48 then(bB j31.1 fun q50=>(dA (.val zL2) (h49.cell (q50.1,q50.2+8)) fun (x51:SL)=>(mA (f88 N N x51 1 h49) fun (x52:Bool) h53=>
 (bif x52 then(bB j31.1 fun q54=>(dA (.val zL2) (h53.cell (q54.1,q54.2+8)) fun (x55:SL)=>(mA (f35 N N x55 h53) fun (x56:Int) h57=>let x58:Bool:=wB x56 2000;some (x58,h57))))else some (false,h53)))))else some (false,h49)))))))))else some (j31.2.1,h32)))))))))))
def bBb:Ann:=(.two .n (.two .n (.two (.two .n (.two (.loop [(1,zK2),(2,zN2),(3,zO2)] [(.exit 0),.ret] [(1,zK2),(2,zN2)] .n) .n)) .n)))
theorem jB5 (N:Nat):jC Tryz.prog 49 [zH] (.val zN2) (fun x h=>f49 N x.1 h):=cD (iA (iB5 N) (iA (oAl N) (iA (eAu N) (iA (uAl N) (iA (qW N) (iA (wAt N) (iA (mAt N) (iA (wAl N) nA)))))))) N bBb Tryz.f49
def kA4 (N:Nat) (go:zJ2->Bool->Int->Heap->Option (Out×zC1×Heap)) (v1:zJ2) (v2:Bool) (v5:Int) (h:Heap):Option (Out×zC1×Heap):=(bB v1 fun q33=>(dA (.val zL2) (h.cell (q33.1,q33.2+1)) fun (x34:SL)=>let x35:=ltInt v5 (Int.ofNat x34.len);(bif x35 then(bB v1 fun q36=>(dA (.val zL2) (h.cell (q36.1,q36.2+1)) fun (x37:SL)=>(ixK x37.a x37.len v5 10 fun q38=>(dA (.val zH) (h.cells q38 10) fun (x39:zE1)=>(mA (f49 N x39 h) fun (x40:Bool) h41=>let x42:=!x40;(bif x42 then some (Out.ret,(false,()),h41)else let x43:=jB .i64 (v5+1);go v1 v2 x43 h41))))))else some ((Out.exit 2),(v2,()),h))))
def jAg (N M:Nat) (v1:zJ2) (v2:Bool) (v5:Int) (h:Heap):Option (Out×zC1×Heap):=iter (fun go s h=>kA4 N (fun v1 v2 v5 h=>go (v1,v2,v5,()) h) s.1 s.2.1 s.2.2.1 h) M (v1,v2,v5,()) h
theorem wAc (N M v1 v2 v5 h):jAg N (M+1) v1 v2 v5 h=kA4 N (jAg N M) v1 v2 v5 h:=rfl
def lA4 (N:Nat) (go:zJ2->Bool->Int->Heap->Option (Out×zY×Heap)) (v1:zJ2) (v2:Bool) (v3:Int) (h:Heap):Option (Out×zY×Heap):=(bB v1 fun q8=>(dA (.val zL2) (h.cell (q8.1,q8.2+0)) fun (x9:SL)=>let x10:=ltInt v3 (Int.ofNat x9.len);(bif x10 then(bB v1 fun q11=>(dA (.val zL2) (h.cell (q11.1,q11.2+0)) fun (x12:SL)=>(ixK x12.a x12.len v3 5 fun q13=>(dA (.val zK) (h.cells q13 5) fun (x14:zT1)=>let h15:=h.push (.row yZE .own);(bB (h15.store (h.next,0) (yRG x14)) fun h16=>(dA (.val zM2) (h16.cell (h.next,1)) fun (x17:zQ2)=>(mA (f46 N x17 h16) fun (x18:Bool) h19=>let x20:=!x18;(bif x20 then some (Out.ret,(v1,false,()),h19)else(dA (.val zL2) (h19.cell (h.next,2)) fun (x21:SL)=>(mA (f47 N x21 h19) fun (x22:Bool) h23=>let x24:=!x22;(bif x24 then some (Out.ret,(v1,false,()),h23)else(dA (.val zL2) (h23.cell (h.next,3)) fun (x25:SL)=>(mA (f48 N x25 false h23) fun (x26:Bool) h27=>let x28:=!x26;(bif x28 then some (Out.ret,(v1,false,()),h27)else let x29:=jB .i64 (v3+1);go v1 v2 x29 h27))))))))))))))else some ((Out.exit 0),(v1,v2,()),h))))
def rA8 (N M:Nat) (v1:zJ2) (v2:Bool) (v3:Int) (h:Heap):Option (Out×zY×Heap):=iter (fun go s h=>lA4 N (fun v1 v2 v3 h=>go (v1,v2,v3,()) h) s.1 s.2.1 s.2.2.1 h) M (v1,v2,v3,()) h
theorem yAc (N M v1 v2 v3 h):rA8 N (M+1) v1 v2 v3 h=lA4 N (rA8 N M) v1 v2 v3 h:=rfl
def f19 (N:Nat) (a0:zO1) (h:Heap):Option (Bool×Heap):=let h1:=h.push (.row (yRH a0) .own);(dA (.val zL2) (h1.cell (h.next,0)) fun (x2:SL)=>let x3:=ltInt 256 (Int.ofNat x2.len);(bif x3 then some (false,h1)else(dA (.val zL2) (h1.cell (h.next,1)) fun (x4:SL)=>(dA (.val zL2) (h1.cell (h.next,0)) fun (x5:SL)=>let x6:=jB .i64 (256-(Int.ofNat x5.len));let x7:=ltInt x6 (Int.ofNat x4.len);(bif x7 then some (false,h1)else(pC (rA8 N N (some (h.next,0)) false 0 h1) fun o30 (j31:zY) h32=>(bif jD o30 (.exit 0) then(pC (jAg N N j31.1 j31.2.1 0 h32) fun o44 (j45:zC1) h46=>(bif jD o44 (.exit 2) then some (true,h46)else some (j45.1,h46)))else some (j31.2.1,h32))))))))
def cBb:Ann:=(.two .n (.two .n (.two (.two .n (.two (.loop [(1,zK2),(2,zN2),(3,zO2)] [(.exit 0),.ret] [(1,zK2),(2,zN2)] .n) .n)) (.two (.two .n (.two (.loop [(1,zK2),(2,zN2),(5,zO2)] [(.exit 2),.ret] [(2,zN2)] .n) .n)) .n))))
theorem fAu (N:Nat):jC Tryz.prog 19 [zJ] (.val zN2) (fun x h=>f19 N x.1 h):=cD (iA (jB5 N) (iA (eAu N) (iA (uAl N) (iA (qW N) nA)))) N cBb Tryz.f19
def jAy (N:Nat) (go:zJ2->Bool->zQ2->AV->zQ2->Int->Heap->Option (Out×zW1×Heap)) (v1:zJ2) (v2:Bool) (v3:zQ2) (v4:AV) (v5:zQ2) (v9:Int) (h:Heap):Option (Out×zW1×Heap):=(bB v1 fun q35=>(dA (.val zL2) (h.cell (q35.1,q35.2+1)) fun (x36:SL)=>let x37:=ltInt v9 (Int.ofNat x36.len);(bif x37 then(bB v1 fun q38=>(dA (.val zL2) (h.cell (q38.1,q38.2+1)) fun (x39:SL)=>let x40:=jB .i64 (v9+1);(dA (.val zL2) (nE E h 23 (yL x39) (some (.int .i64 v9)) (some (.int .i64 x40))) fun (x41:SL)=>(mA (f16 N (⟨none,0,0,0⟩,x41,()) h) fun (x42:zZ1) h43=>(bB v1 fun q44=>(dA (.val zL2) (h43.cell (q44.1,q44.2+1)) fun (x45:SL)=>(ixK x45.a x45.len v9 10 fun q46=>(dA (.val zH) (h43.cells q46 10) fun (x47:zE1)=>(mA (f20 N x47 h43) fun (x48:zQ2) h49=>(dA (.val zN2) (oA9 E .neq 29 (.tmp 78) (.const .nilIface) x42.2.1 AV.nilIface) fun (x50:Bool)=>(bif x50 then(mA (f15 N  h49) fun (x51:Bool) h52=>(bif x51 then(mA (f18 N x42.2.1 5 0 h52) fun (x53:Bool) h54=>some (Out.ret,(x53,v3,v4,v5,()),h54))else some (Out.ret,(false,v3,v4,v5,()),h52)))else let x55:=jB .i64 ((Int.ofNat x48.length)+2);let x56:=ltInt (Int.ofNat x42.1.length) x55;(bif x56 then some (Out.ret,(false,v3,v4,v5,()),h49)else(dA (.val zM2) (nE E h49 9 (.str x42.1) none (some (.int .i64 (Int.ofNat x48.length)))) fun (x57:zQ2)=>let x58:=!fB x57 x48
 (bif x58 then some (Out.ret,(false,v3,v4,v5,()),h49)else let x59:=jB .i64 ((Int.ofNat x48.length)+2);(dA (.val zM2) (nE E h49 9 (.str x42.1) (some (.int .i64 (Int.ofNat x48.length))) (some (.int .i64 x59))) fun (x60:zQ2)=>let x61:=!fB x60 [32,123];(bif x61 then some (Out.ret,(false,v3,v4,v5,()),h49)else(dA (.val zM2) (rA .add v5 x42.1) fun (x62:zQ2)=>let x63:=jB .i64 (v9+1);go v1 v2 v3 v4 x62 x63 h49)))))))))))))))))else some ((Out.exit 2),(v2,v3,v4,v5,()),h))))
def dBb (N M:Nat) (v1:zJ2) (v2:Bool) (v3:zQ2) (v4:AV) (v5:zQ2) (v9:Int) (h:Heap):Option (Out×zW1×Heap):=iter (fun go s h=>jAy N (fun v1 v2 v3 v4 v5 v9 h=>go (v1,v2,v3,v4,v5,v9,()) h) s.1 s.2.1 s.2.2.1 s.2.2.2.1 s.2.2.2.2.1 s.2.2.2.2.2.1 h) M (v1,v2,v3,v4,v5,v9,()) h
def kAy (N:Nat) (go:zJ2->Bool->zQ2->AV->zQ2->Int->Heap->Option (Out×zQ1×Heap)) (v1:zJ2) (v2:Bool) (v3:zQ2) (v4:AV) (v5:zQ2) (v6:Int) (h:Heap):Option (Out×zQ1×Heap):=(bB v1 fun q16=>(dA (.val zL2) (h.cell (q16.1,q16.2+0)) fun (x17:SL)=>let x18:=ltInt v6 (Int.ofNat x17.len);(bif x18 then(bB v1 fun q19=>(dA (.val zL2) (h.cell (q19.1,q19.2+0)) fun (x20:SL)=>let x21:=jB .i64 (v6+1);(dA (.val zL2) (nE E h 22 (yL x20) (some (.int .i64 v6)) (some (.int .i64 x21))) fun (x22:SL)=>(mA (f16 N (x22,⟨none,0,0,0⟩,()) h) fun (x23:zZ1) h24=>(dA (.val zN2) (oA9 E .neq 29 (.tmp 44) (.const .nilIface) x23.2.1 AV.nilIface) fun (x25:Bool)=>(bif x25 then(mA (f15 N  h24) fun (x26:Bool) h27=>(bif x26 then(mA (f18 N x23.2.1 5 0 h27) fun (x28:Bool) h29=>some (Out.ret,(v1,x28,v3,v4,v5,()),h29))else some (Out.ret,(v1,false,v3,v4,v5,()),h27)))else(dA (.val zM2) (rA .add v5 x23.1) fun (x30:zQ2)=>let x31:=jB .i64 (v6+1);go v1 v2 v3 v4 x30 x31 h24)))))))else some ((Out.exit 0),(v1,v2,v3,v4,v5,()),h))))
def eBb (N M:Nat) (v1:zJ2) (v2:Bool) (v3:zQ2) (v4:AV) (v5:zQ2) (v6:Int) (h:Heap):Option (Out×zQ1×Heap):=iter (fun go s h=>kAy N (fun v1 v2 v3 v4 v5 v6 h=>go (v1,v2,v3,v4,v5,v6,()) h) s.1 s.2.1 s.2.2.1 s.2.2.2.1 s.2.2.2.2.1 s.2.2.2.2.2.1 h) M (v1,v2,v3,v4,v5,v6,()) h
def f4 (N:Nat) (a0:zO1) (h:Heap):Option (Bool×Heap):=let h1:=h.push (.row (yRH a0) .own);(dA (.val zJ) (h1.cells (h.next,0) 2) fun (x2:zO1)=>(mA (f14 N x2 h1) fun (x3:Bool) h4=>(bif x3 then(mA (f15 N  h4) fun (x5:Bool) h6=>some (x5,h6))else(dA (.val zJ) (h4.cells (h.next,0) 2) fun (x7:zO1)=>(mA (f19 N x7 h4) fun (x8:Bool) h9=>let x10:=!x8;(bif x10 then(mA (f15 N  h9) fun (x11:Bool) h12=>some (x11,h12))else(dA (.val zJ) (h9.cells (h.next,0) 2) fun (x13:zO1)=>(mA (f16 N x13 h9) fun (x14:zZ1) h15=>(pC (eBb N N (some (h.next,0)) false x14.1 x14.2.1 [] 0 h15) fun o32 (j33:zQ1) h34=>(bif jD o32 (.exit 0) then(pC (dBb N N j33.1 j33.2.1 j33.2.2.1 j33.2.2.2.1 j33.2.2.2.2.1 0 h34) fun o64 (j65:zW1) h66=>(bif jD o64 (.exit 2) then(dA (.val zN2) (oA9 E .neq 29 (.tmp 112) (.const .nilIface) j65.2.2.1 AV.nilIface) fun (x67:Bool)=>(bif x67 then(mA (f15 N  h66) fun (x68:Bool) h69=>(bif x68 then(mA (f18 N j65.2.2.1 5 0 h69) fun (x70:Bool) h71=>(bif x70 then let x72:=ltInt 1048576 (Int.ofNat j65.2.2.2.1.length);some (x72,h71)else some (false,h71)))else some (false,h69)))else(mA (f15 N  h66) fun (x73:Bool) h74=>(bif x73 then let x75:=fB j65.2.1 j65.2.2.2.1;some (x75,h74)else some (false,h74)))))else some (j65.1,h66)))else some (j33.2.1,h34)))))))))))
def uBd:Ann:=(.two .n (.two .n (.two .n (.two .n (.two (.two .n (.two (.loop [(1,zK2),(2,zN2),(3,zM2),(4,zP2),(5,zM2),(6,zO2)] [(.exit 0),.ret] [(1,zK2),(2,zN2),(3,zM2),(4,zP2),(5,zM2)] .n) .n)) (.two (.two .n (.two (.loop [(1,zK2),(2,zN2),(3,zM2),(4,zP2),(5,zM2),(9,zO2)] [(.exit 2),.ret] [(2,zN2),(3,zM2),(4,zP2),(5,zM2)] .n) .n)) .n))))))
theorem vBd (N:Nat):jC Tryz.prog 4 [zJ] (.val zN2) (fun x h=>f4 N x.1 h):=cD (iA (jAn N) (iA (fAu N) (iA (nAt N) (iA (nAn N) (iA (dAu N) (iA (yAt N) nA)))))) N uBd Tryz.f4
end
end Qp
set_option maxRecDepth 20000
namespace Qp
abbrev zs:SL:=⟨none,0,0,0⟩
def zI (k:Int):Bool:=eA k 0
def zN (s:SL):Bool:=eA (Int.ofNat s.len) 0
def zB (x:Bs):Bool:=fB x []
def zLf (r:LfV):Bool:=zB r.1&&zN r.2.1
def zOp (r:OpV):Bool:=zI r.1&&(zI r.2.1&&zLf (r.2.2.1,r.2.2.2.1,()))
def zTy (r:TyV):Bool:=zI r.1&&(zB r.2.1&&(zN r.2.2.1&&zN r.2.2.2.1))
theorem iF {s:SL}:zN s=true↔s.len=0:=by
 rw [zN,eqI,decide_eq_true_eq];exact Int.ofNat_eq_zero
theorem mA4 {k:Int}:zI k=true↔k=0:=by rw [zI,eqI,decide_eq_true_eq]
theorem tA8 {x:Bs}:zB x=true↔x=[]:=by cases x <;> simp [zB,fB]
section
variable {N:Nat} {h:Heap} {V:Nat->Prop}
theorem lAy (hN:1<=N) (s:SL) (h:Heap):f59 N s zs h=some (zN s,h):=by
 obtain ⟨N,rfl⟩:∃ m,N=m+1:=⟨N-1,by omega⟩;unfold f59;dsimp only;show (bif !zN s then _ else _)=_
 cases hq:zN s with
 | false=>rfl
 | true=>
  have:=iF.1 hq
  rw [vAa];unfold mA2;rw [this];rfl
theorem kB5 (r:LfV) (h:Heap):∃ h',f182 N r h=some (zLf r,h')/\Chg [] h h':=by
 unfold f182;have o:=wA h (lfc r);have c:=tA h (.row (lfc r) .own);have e1:h.push (.row [(.str r.1),(yL r.2.1)] .own)=h.push (.row (lfc r) .own):=rfl;dsimp only;rw [e1];generalize h.push (.row (lfc r) .own)=H at *;have a0:H.cell (h.next,0)=some (.str r.1):=o.cell 0;have a1:H.cell (h.next,1)=some (yL r.2.1):=o.cell 1;simp only [Nat.zero_add,a0,a1,bA,kA,jA]
 grind [zB,zN,zLf]
theorem rAn (hN:1<=N) (r:LfV) (h:Heap):∃ h',f183 N r ([],zs,()) h=some (zLf r,h')/\Chg [] h h':=by
 unfold f183;have o:=wA h (lfc r);have c:=tA h (.row (lfc r) .own);have e1:h.push (.row [(.str r.1),(yL r.2.1)] .own)=h.push (.row (lfc r) .own):=rfl;dsimp only;rw [e1];generalize h.push (.row (lfc r) .own)=H at *;have o2:=wA H (lfc lf0);have c2:=tA H (.row (lfc lf0) .own);have e2:H.push (.row [(.str []),(.slice none 0 0 0)] .own)=H.push (.row (lfc lf0) .own):=rfl;rw [e2];have o1:=o.chg c2 (by simp);generalize H.push (.row (lfc lf0) .own)=H2 at *;have a0:H2.cell (h.next,0)=some (.str r.1):=o1.cell 0;have a1:H2.cell (h.next,1)=some (yL r.2.1):=o1.cell 1;have b0:H2.cell (H.next,0)=some (.str []):=o2.cell 0;have b1:H2.cell (H.next,1)=some (.slice none 0 0 0):=o2.cell 1;simp only [Nat.zero_add,a0,a1,b0,b1,bA,kA,jA];refine ⟨H2,?_,c.trans c2⟩;rw [lAy hN];show (bif zB r.1 then some (zN r.2.1,H2) else some (false,H2))=_;unfold zLf;cases zB r.1 <;> rfl
theorem tAn (hN:1<=N) (r:OpV) (h:Heap):∃ h',f184 N r (0,0,[],zs,()) h=some (zOp r,h')/\Chg [] h h':=by
 unfold f184;have o:=wA h (opc r);have c:=tA h (.row (opc r) .own);have e1:h.push (.row [(.int .i64 r.1),(.int .i64 r.2.1),(.str r.2.2.1),(yL r.2.2.2.1)] .own)=h.push (.row (opc r) .own):=rfl;dsimp only;rw [e1];generalize h.push (.row (opc r) .own)=H at *;have o2:=wA H (opc dF);have c2:=tA H (.row (opc dF) .own);have e2:H.push (.row [(.int .i64 0),(.int .i64 0),(.str []),(.slice none 0 0 0)] .own)=H.push (.row (opc dF) .own):=rfl;rw [e2];have o1:=o.chg c2 (by simp);generalize H.push (.row (opc dF) .own)=H2 at *;have a0:H2.cell (h.next,0)=some (.int .i64 r.1):=o1.cell 0;have a1:H2.cell (h.next,1)=some (.int .i64 r.2.1):=o1.cell 1;have a2:H2.cells (h.next,2) 2=some (.agg (lfc (r.2.2.1,r.2.2.2.1,()))):=o1.cells (j:=2) (m:=2) (show 2+2<=4 by decide);have b0:H2.cell (H.next,0)=some (.int .i64 0):=o2.cell 0;have b1:H2.cell (H.next,1)=some (.int .i64 0):=o2.cell 1;have b2:H2.cells (H.next,2) 2=some (.agg (lfc lf0)):=o2.cells (j:=2) (m:=2) (show 2+2<=4 by decide);simp only [Nat.zero_add,a0,a1,b0,b1,bA,vA];rw [a2,b2,jH,jH];obtain ⟨H3,e3,c3⟩:=rAn (N:=N) hN (r.2.2.1,r.2.2.2.1,()) H2;have e3':f183 N ((r.2.2.1,r.2.2.2.1,()):LfV) ([],zs,()) H2=some (zLf (r.2.2.1,r.2.2.2.1,()),H3):=e3;have cc:=c.trans c2;show ∃ h',(bif zI r.1 then (bif zI r.2.1 then (mA (f183 N ((r.2.2.1,r.2.2.2.1,()):LfV) ([],zs,()) H2) fun x11 h12=>some (x11,h12)) else some (false,H2)) else some (false,H2))=some (zOp r,h')/\_;unfold zOp
 cases zI r.1 with
 | false=>exact ⟨H2,rfl,cc⟩
 | true=>
  cases zI r.2.1 with
  | false=>exact ⟨H2,rfl,cc⟩
  | true=>exact ⟨H3,by rw [e3'];rfl,cc.trans c3⟩
theorem lB5 (hN:1<=N) {M:Nat} (hM:1<=M) (r:TyV) (h:Heap):∃ h',f25 N M r (0,[],zs,zs,()) h=some (zTy r,h')/\Chg [] h h':=by
 obtain ⟨M,rfl⟩:∃ m,M=m+1:=⟨M-1,by omega⟩;rw [uAq];unfold kAw;have o:=wA h (tyc r);have c:=tA h (.row (tyc r) .own);have e1:h.push (.row [(.int .i64 r.1),(.str r.2.1),(yL r.2.2.1),(yL r.2.2.2.1)] .own)=h.push (.row (tyc r) .own):=rfl;dsimp only;rw [e1];generalize h.push (.row (tyc r) .own)=H at *;have o2:=wA H (tyc yW);have c2:=tA H (.row (tyc yW) .own);have e2:H.push (.row [(.int .i64 0),(.str []),(.slice none 0 0 0),(.slice none 0 0 0)] .own)=H.push (.row (tyc yW) .own):=rfl;rw [e2];have o1:=o.chg c2 (by simp);generalize H.push (.row (tyc yW) .own)=H2 at *;have a0:H2.cell (h.next,0)=some (.int .i64 r.1):=o1.cell 0;have a1:H2.cell (h.next,1)=some (.str r.2.1):=o1.cell 1;have a2:H2.cell (h.next,2)=some (yL r.2.2.1):=o1.cell 2;have a3:H2.cell (h.next,3)=some (yL r.2.2.2.1):=o1.cell 3;have b0:H2.cell (H.next,0)=some (.int .i64 0):=o2.cell 0;have b1:H2.cell (H.next,1)=some (.str []):=o2.cell 1;have b2:H2.cell (H.next,2)=some (.slice none 0 0 0):=o2.cell 2;have b3:H2.cell (H.next,3)=some (.slice none 0 0 0):=o2.cell 3;simp only [Nat.zero_add,a0,a1,a2,b0,b1,b2,bA,vA,kA,jA];rw [lAy hN];simp only [aA,a3,b3,bA,jA];have cc:=c.trans c2;show ∃ h',(bif !zI r.1 then some (false,H2) else (bif !zB r.2.1 then some (false,H2) else (bif !zN r.2.2.1 then some (false,H2) else (bif !zN r.2.2.2.1 then some (false,H2) else _))))=some (zTy r,h')/\_;unfold zTy
 cases zI r.1 with
 | false=>exact ⟨H2,rfl,cc⟩
 | true=>
  cases zB r.2.1 with
  | false=>exact ⟨H2,rfl,cc⟩
  | true=>
   cases zN r.2.2.1 with
   | false=>exact ⟨H2,rfl,cc⟩
   | true=>
    cases hq:zN r.2.2.2.1 with
    | false=>exact ⟨H2,rfl,cc⟩
    | true=>
     refine ⟨H2,?_,cc⟩;obtain ⟨N,rfl⟩:∃ m,N=m+1:=⟨N-1,by omega⟩;simp only [Bool.not_true,cond_false,Bool.and_self];rw [wAa];unfold nA2;simp only [fA,Nat.zero_add,a3,bA,jA]
     have:r.2.2.2.1.len=0:=iF.1 hq
     rw [this];rfl
end
end Qp
namespace Qp
def vaA (r:VaV):OpV:=(r.2.1,r.2.2.1,r.2.2.2.1,r.2.2.2.2.1,())
def vaB (r:VaV):OpV:=(r.2.2.2.2.2.1,r.2.2.2.2.2.2.1,r.2.2.2.2.2.2.2.1,r.2.2.2.2.2.2.2.2.1,())
def vaO (r:VaV):Int:=r.2.2.2.2.2.2.2.2.2.1
def vaP (r:VaV):LfV:=(r.2.2.2.2.2.2.2.2.2.2.1,r.2.2.2.2.2.2.2.2.2.2.2.1,())
def vaN (r:VaV):Bs:=r.2.2.2.2.2.2.2.2.2.2.2.2.1
def vaS (r:VaV):SL:=r.2.2.2.2.2.2.2.2.2.2.2.2.2.1
def vaG (r:VaV):SL:=r.2.2.2.2.2.2.2.2.2.2.2.2.2.2.1
def zVa (r:VaV):Bool:=zI r.1&&(zI (vaO r)&&(zB (vaN r)&&(zOp (vaA r)&&(zOp (vaB r)&&(zLf (vaP r)&&(zN (vaS r)&&zN (vaG r)))))))
section
variable {N:Nat} {h:Heap} {V:Nat->Prop}
theorem gAu (hN:1<=N) (r:VaV) (h:Heap):∃ h',f181 N r (0,0,0,[],zs,0,0,[],zs,0,[],zs,[],zs,zs,()) h=some (zVa r,h')/\Chg [] h h':=by
 unfold f181;have o:=wA h (vac r);have c:=tA h (.row (vac r) .own);have e1:h.push (.row (yRB r) .own)=h.push (.row (vac r) .own):=rfl;dsimp only;rw [e1];generalize h.push (.row (vac r) .own)=H at *;have o2:=wA H (vac va0);have c2:=tA H (.row (vac va0) .own);have e2:H.push (.row yZB .own)=H.push (.row (vac va0) .own):=rfl;rw [e2];have o1:=o.chg c2 (by simp);generalize H.push (.row (vac va0) .own)=H2 at *;have cc:=c.trans c2;have rd:∀ {G:Heap},G.own h.next (vac r)->G.cell (h.next,0)=some (.int .i64 r.1)/\G.cell (h.next,9)=some (.int .i64 (vaO r))/\G.cell (h.next,12)=some (.str (vaN r))/\G.cells (h.next,1) 4=some (.agg (opc (vaA r)))/\G.cells (h.next,5) 4=some (.agg (opc (vaB r)))/\G.cells (h.next,10) 2=some (.agg (lfc (vaP r)))/\
   G.cell (h.next,13)=some (.slice (vaS r).a (vaS r).len (vaS r).cap (vaS r).sz)/\G.cell (h.next,14)=some (.slice (vaG r).a (vaG r).len (vaG r).cap (vaG r).sz):=fun o=>⟨o.cell 0,o.cell 9,o.cell 12,o.cells (j:=1) (m:=4) (show 1+4<=15 by decide),o.cells (j:=5) (m:=4) (show 5+4<=15 by decide),o.cells (j:=10) (m:=2) (show 10+2<=15 by decide),o.cell 13,o.cell 14⟩
 have rz:∀ {G:Heap},G.own H.next (vac va0)->G.cell (H.next,0)=some (.int .i64 0)/\G.cell (H.next,9)=some (.int .i64 0)/\G.cell (H.next,12)=some (.str [])/\G.cells (H.next,1) 4=some (.agg (opc dF))/\G.cells (H.next,5) 4=some (.agg (opc dF))/\G.cells (H.next,10) 2=some (.agg (lfc lf0))/\
   G.cell (H.next,13)=some (.slice none 0 0 0)/\G.cell (H.next,14)=some (.slice none 0 0 0):=fun o=>⟨o.cell 0,o.cell 9,o.cell 12,o.cells (j:=1) (m:=4) (show 1+4<=15 by decide),o.cells (j:=5) (m:=4) (show 5+4<=15 by decide),o.cells (j:=10) (m:=2) (show 10+2<=15 by decide),o.cell 13,o.cell 14⟩
 obtain ⟨a0,a9,a12,a1,_⟩:=rd o1;obtain ⟨b0,b9,b12,b1,_⟩:=rz o2;simp only [Nat.zero_add,a0,a9,a12,b0,b9,b12,bA,vA,kA];rw [a1,b1,dH,dH];show ∃ h',(bif !zI r.1 then some (false,H2) else (bif !zI (vaO r) then some (false,H2) else (bif !zB (vaN r) then some (false,H2) else _)))=some (zVa r,h')/\_;unfold zVa
 cases zI r.1 with
 | false=>exact ⟨H2,rfl,cc⟩
 | true=>
 cases zI (vaO r) with
 | false=>exact ⟨H2,rfl,cc⟩
 | true=>
 cases zB (vaN r) with
 | false=>exact ⟨H2,rfl,cc⟩
 | true=>
 simp only [Bool.not_true,cond_false,Bool.true_and];obtain ⟨H3,e3,c3⟩:=tAn (N:=N) hN (vaA r) H2;show ∃ h',(mA (f184 N (vaA r) (0,0,[],zs,()) H2) _)=_/\_;rw [e3,aA];have o31:=o1.chg c3 (by simp);have o32:=o2.chg c3 (by simp);have cc:=cc.trans c3
 cases zOp (vaA r) with
 | false=>exact ⟨H3,rfl,cc⟩
 | true=>
 simp only [Bool.not_true,cond_false,Bool.true_and];rw [(rd o31).2.2.2.2.1,(rz o32).2.2.2.2.1,dH,dH];obtain ⟨H4,e4,c4⟩:=tAn (N:=N) hN (vaB r) H3;show ∃ h',(mA (f184 N (vaB r) (0,0,[],zs,()) H3) _)=_/\_;rw [e4,aA];have o41:=o31.chg c4 (by simp);have o42:=o32.chg c4 (by simp);have cc:=cc.trans c4
 cases zOp (vaB r) with
 | false=>exact ⟨H4,rfl,cc⟩
 | true=>
 simp only [Bool.not_true,cond_false,Bool.true_and];rw [(rd o41).2.2.2.2.2.1,(rz o42).2.2.2.2.2.1,jH,jH];obtain ⟨H5,e5,c5⟩:=rAn (N:=N) hN (vaP r) H4;show ∃ h',(mA (f183 N (vaP r) ([],zs,()) H4) _)=_/\_;rw [e5,aA];have o51:=o41.chg c5 (by simp);have o52:=o42.chg c5 (by simp);have cc:=cc.trans c5
 cases zLf (vaP r) with
 | false=>exact ⟨H5,rfl,cc⟩
 | true=>
 obtain ⟨_,_,_,_,_,_,a13,a14⟩:=rd o51;obtain ⟨_,_,_,_,_,_,b13,b14⟩:=rz o52;simp only [Bool.not_true,cond_false,Bool.true_and,a13,b13,bA,jA];show ∃ h',(mA (f59 N (vaS r) zs H5) _)=_/\_;rw [lAy hN,aA]
 cases zN (vaS r) with
 | false=>exact ⟨H5,rfl,cc⟩
 | true=>
 simp only [Bool.not_true,cond_false,Bool.true_and,a14,b14,bA,jA];show ∃ h',(bif !zN (vaG r) then some (false,H5) else _)=some (zN (vaG r),h')/\_
 cases hq:zN (vaG r) with
 | false=>exact ⟨H5,rfl,cc⟩
 | true=>
  refine ⟨H5,?_,cc⟩;obtain ⟨N,rfl⟩:∃ m,N=m+1:=⟨N-1,by omega⟩;simp only [Bool.not_true,cond_false];rw [mA8];unfold kY;simp only [fA,Nat.zero_add,a14,bA,jA];rw [iF.1 hq];rfl
end
end Qp
namespace Qp
def rTy (d:D):Prop:=∃ (k:Int) (y:Bs) (lv:List Bs) (el:List D),d=tyD k y lv el
def rLf (d:D):Prop:=∃ (nm:Bs) (xs:List Bs),d=gD nm (xs.map D.s)
def rOp (d:D):Prop:=∃ k n pl,d=opD k n pl/\rLf pl
def rVa (d:D):Prop:=∃ (k:Int) (a b:D) (op:Int) (pl:D) (nm:Bs) (ns:List Bs) (ag:List D),d=vaD k a b op pl nm (ns.map D.s) ag/\rOp a/\rOp b/\rLf pl/\∀ o∈ag,rOp o
def rFd (d:D):Prop:=∃ m nm ty,d=fdD m nm ty/\rTy ty/\Wt Tryz.prog ty 41
def rSt (d:D):Prop:=∃ pub nm lv fs a,d=dAb pub nm lv fs a/\∀ f∈fs,rFd f
def rSm (d:D):Prop:=∃ (k a:Int) (m:Bool) (nm:Bs) (ty:D) (hs:Bool) (pl va co:D) (th el:List D),d=smT k a m nm ty hs pl va co th el/\rTy ty/\rLf pl/\rVa va/\rOp co/\Wt Tryz.prog ty 41/\(∀ s∈th,Wt Tryz.prog s 106)/\∀ s∈el,Wt Tryz.prog s 106
def rFu (d:D):Prop:=∃ pub nm lv ps ty bd a,d=fuT pub nm lv ps ty bd a/\rTy ty/\Wt Tryz.prog ty 41/\(∀ l∈lv,rLf l)/\(∀ p∈ps,rFd p)/\∀ s∈bd,Wt Tryz.prog s 106
section
variable {h:Heap} {V W:Nat->Prop} {cs:List AV}
theorem kAg {d:D} (t:rTy d) (x:Dt h V d cs):∃ r:TyV,cs=tyc r:=by
 obtain ⟨k,y,lv,el,rfl⟩:=t
 grind [qF]
theorem nA4 {d:D} (t:rLf d) (x:Dt h V d cs):∃ r:LfV,cs=lfc r:=by
 obtain ⟨nm,xs,rfl⟩:=t
 grind [iG]
theorem uAn {m:Bool} {nm:Bs} {ty:D} (t:rTy ty) (x:Dt h V (fdD m nm ty) cs):∃ r:TyV,cs=fdc (pBc m nm r)/\Dt h V ty (tyc r):=by
 simp only [fdD,Dt,Dp] at x;obtain ⟨_,_,rfl,e1,_,_,rfl,e2,_,_,rfl,x3,rfl⟩:=x;subst e1 e2;obtain ⟨r,rfl⟩:=kAg t x3;exact ⟨r,rfl,x3⟩
theorem uA8 {k n:Int} {pl:D} (t:rLf pl) (x:Dt h V (opD k n pl) cs):∃ p:LfV,cs=opc (k,n,p.1,p.2.1,())/\Dt h V pl (lfc p):=by
 simp only [opD,Dt,Dp] at x;obtain ⟨_,_,rfl,e1,_,_,rfl,e2,_,_,rfl,x3,rfl⟩:=x;subst e1 e2;obtain ⟨r,rfl⟩:=nA4 t x3;exact ⟨r,rfl,x3⟩
theorem oA4 {d:D} (t:rOp d) (x:Dt h V d cs):∃ r:OpV,cs=opc r:=by
 obtain ⟨k,n,pl,rfl,ht⟩:=t
 grind [uA8]
theorem oY {k op:Int} {a b pl:D} {nm:Bs} {ns ag:List D} (ta:rOp a) (tb:rOp b) (tp:rLf pl) (x:Dt h V (vaD k a b op pl nm ns ag) cs):∃ (ra rb:OpV) (rp:LfV) (s1 s2:SL),cs=vac (kE k ra rb op rp nm s1 s2)/\Dt h V a (opc ra)/\Dt h V b (opc rb)/\Dt h V pl (lfc rp)/\Sl h V s1 ns/\Sl h V s2 ag:=by
 simp only [vaD,Dt,Dp] at x;obtain ⟨_,_,rfl,e1,_,_,rfl,x2,_,_,rfl,x3,_,_,rfl,e4,_,_,rfl,x5,_,_,rfl,e6,_,_,rfl,x7,_,_,rfl,x8,rfl⟩:=x;subst e1 e4 e6;obtain ⟨ra,rfl⟩:=oA4 ta x2;obtain ⟨rb,rfl⟩:=oA4 tb x3;obtain ⟨rp,rfl⟩:=nA4 tp x5;obtain ⟨s1,rfl,h1⟩:=cA3 x7;obtain ⟨s2,rfl,h2⟩:=cA3 x8;exact ⟨ra,rb,rp,s1,s2,rfl,x2,x3,x5,h1,h2⟩
theorem mAy {d:D} (t:rVa d) (x:Dt h V d cs):∃ r:VaV,cs=vac r:=by
 obtain ⟨k,a,b,op,pl,nm,ns,ag,rfl,ta,tb,tp,_⟩:=t
 grind [oY]
theorem vA8 {k a:Int} {m hs:Bool} {nm:Bs} {ty pl va co:D} {th el:List D} (tt:rTy ty) (tp:rLf pl) (tv:rVa va) (tq:rOp co) (x:Dt h V (smT k a m nm ty hs pl va co th el) cs):∃ (r:TyV) (p:LfV) (v:VaV) (o:OpV) (s1 s2:SL),cs=smc ⟨k,a,m,nm,r,hs,p,v,o,s1,s2⟩/\Dt h V ty (tyc r)/\Dt h V pl (lfc p)/\Dt h V va (vac v)/\Dt h V co (opc o)/\Sl h V s1 th/\Sl h V s2 el:=by
 simp only [smT,Dt,Dp] at x;obtain ⟨_,_,rfl,e1,_,_,rfl,e2,_,_,rfl,e3,_,_,rfl,e4,_,_,rfl,x5,_,_,rfl,e6,_,_,rfl,x7,_,_,rfl,x8,_,_,rfl,x9,_,_,rfl,x10,_,_,rfl,x11,rfl⟩:=x;subst e1 e2 e3 e4 e6;obtain ⟨r,rfl⟩:=kAg tt x5;obtain ⟨p,rfl⟩:=nA4 tp x7;obtain ⟨v,rfl⟩:=mAy tv x8;obtain ⟨o,rfl⟩:=oA4 tq x9;obtain ⟨s1,rfl,h1⟩:=cA3 x10;obtain ⟨s2,rfl,h2⟩:=cA3 x11;exact ⟨r,p,v,o,s1,s2,rfl,x5,x7,x8,x9,h1,h2⟩
theorem lAg {pub:Bool} {nm:Bs} {lv ps bd:List D} {ty:D} {a:Int} (tt:rTy ty) (x:Dt h V (fuT pub nm lv ps ty bd a) cs):∃ (s1 s2 s3:SL) (r:TyV),cs=fuc ⟨pub,nm,s1,s2,r,s3,a⟩/\Sl h V s1 lv/\Sl h V s2 ps/\Dt h V ty (tyc r)/\Sl h V s3 bd:=by
 simp only [fuT,Dt,Dp] at x;obtain ⟨_,_,rfl,e1,_,_,rfl,e2,_,_,rfl,x3,_,_,rfl,x4,_,_,rfl,x5,_,_,rfl,x6,_,_,rfl,e7,rfl⟩:=x;subst e1 e2 e7;obtain ⟨r,rfl⟩:=kAg tt x5;obtain ⟨s1,rfl,h1⟩:=cA3 x3;obtain ⟨s2,rfl,h2⟩:=cA3 x4;obtain ⟨s3,rfl,h3⟩:=cA3 x6;exact ⟨s1,s2,s3,r,rfl,h1,h2,x5,h3⟩
end
theorem nAy:Rec [(.int .i64),.str,.slice,.slice] 4 tyc rTy:=⟨fun _=>rfl,fun r K=>vJ r K,fun t x=>kAg t x⟩
theorem oAy:Rec [.bool,.str,(.int .i64),.str,.slice,.slice] 6 fdc rFd:=⟨fun _=>rfl,fun r K=>lB2 r K,fun t x=>by
 obtain ⟨m,nm,ty,rfl,ht,_⟩:=t
 grind [uAn]⟩
theorem vAi:Rec [.bool,.str,.slice,.slice,(.int .i64)] 5 stc rSt:=⟨fun _=>rfl,fun r K=>pAw r K,fun t x=>by
 obtain ⟨pub,nm,lv,fs,a,rfl,_⟩:=t
 grind [fX]⟩
theorem aAd:Rec [.str,.slice] 2 lfc rLf:=⟨fun _=>rfl,fun r K=>jH r K,fun t x=>nA4 t x⟩
theorem wAi:Rec [(.int .i64),(.int .i64),.str,.slice] 4 opc rOp:=⟨fun _=>rfl,fun r K=>dH r K,fun t x=>oA4 t x⟩
theorem pY:Rec [(.int .i64),(.int .i64),.bool,.str,(.int .i64),.str,.slice,.slice,.bool,.str,.slice,(.int .i64),(.int .i64),(.int .i64),.str,.slice,(.int .i64),(.int .i64),.str,.slice,(.int .i64),.str,.slice,.str,.slice,.slice,(.int .i64),(.int .i64),.str,.slice,.slice,.slice] 32 smx rSm:=⟨fun _=>rfl,fun r K=>gG r K,fun t x=>by
  obtain ⟨k,a,m,nm,ty,hs,pl,va,co,th,el,rfl,t1,t2,t3,t4,_⟩:=t;obtain ⟨r,p,v,o,s1,s2,hc,_⟩:=vA8 t1 t2 t3 t4 x;exact ⟨_,hc⟩⟩
theorem yAi:Rec [.bool,.str,.slice,.slice,(.int .i64),.str,.slice,.slice,.slice,(.int .i64)] 10 fux rFu:=⟨fun _=>rfl,fun r K=>qAw r K,fun t x=>by
 obtain ⟨pub,nm,lv,ps,ty,bd,a,rfl,ht,_⟩:=t;obtain ⟨s1,s2,s3,r,hc,_⟩:=lAg ht x;exact ⟨_,hc⟩⟩
noncomputable def uBc:Array Field:=match Tryz.prog.underlying 72 with | some (.struct fs)=>fs | _=>#[]
theorem wBd:Tryz.prog.underlying 72=some (.struct uBc):=by kernel_rfl
theorem yBd:uBc.toList.map (·.type)=[4,9,38,37,3]:=by kernel_rfl
noncomputable def vBc:Array Field:=match Tryz.prog.underlying 44 with | some (.struct fs)=>fs | _=>#[]
theorem aBe:Tryz.prog.underlying 44=some (.struct vBc):=by kernel_rfl
theorem bBe:vBc.toList.map (·.type)=[4,9,36,37,41,42,3]:=by kernel_rfl
noncomputable def mB5:Array Field:=match Tryz.prog.underlying 140 with | some (.struct fs)=>fs | _=>#[]
theorem fBb:Tryz.prog.underlying 140=some (.struct mB5):=by kernel_rfl
theorem gBb:mB5.toList.map (·.type)=[4,9,41]:=by kernel_rfl
noncomputable def wBc:Array Field:=match Tryz.prog.underlying 76 with | some (.struct fs)=>fs | _=>#[]
theorem cBe:Tryz.prog.underlying 76=some (.struct wBc):=by kernel_rfl
theorem dBe:wBc.toList.map (·.type)=[9,38]:=by kernel_rfl
noncomputable def yBc:Array Field:=match Tryz.prog.underlying 99 with | some (.struct fs)=>fs | _=>#[]
theorem eBe:Tryz.prog.underlying 99=some (.struct yBc):=by kernel_rfl
theorem fBe:yBc.toList.map (·.type)=[9,38]:=by kernel_rfl
noncomputable def nB5:Array Field:=match Tryz.prog.underlying 101 with | some (.struct fs)=>fs | _=>#[]
theorem iBb:Tryz.prog.underlying 101=some (.struct nB5):=by kernel_rfl
theorem jBb:nB5.toList.map (·.type)=[3,3,99]:=by kernel_rfl
noncomputable def oB5:Array Field:=match Tryz.prog.underlying 104 with | some (.struct fs)=>fs | _=>#[]
theorem kBb:Tryz.prog.underlying 104=some (.struct oB5):=by kernel_rfl
theorem lBb:oB5.toList.map (·.type)=[3,101,101,3,99,9,38,102]:=by kernel_rfl
noncomputable def pB5:Array Field:=match Tryz.prog.underlying 106 with | some (.struct fs)=>fs | _=>#[]
theorem mBb:Tryz.prog.underlying 106=some (.struct pB5):=by kernel_rfl
theorem nBb:pB5.toList.map (·.type)=[3,3,4,9,41,4,99,104,101,42,42]:=by kernel_rfl
noncomputable def aBd:Array Field:=match Tryz.prog.underlying 25 with | some (.struct fs)=>fs | _=>#[]
theorem bBd:Tryz.prog.underlying 25=some (.struct aBd):=by kernel_rfl
theorem gBe:aBd.toList.map (·.type)=[22,23]:=by kernel_rfl
theorem iBe:Tryz.prog.underlying 22=some (.slice 72):=by kernel_rfl
theorem jBe:Tryz.prog.underlying 23=some (.slice 44):=by kernel_rfl
theorem cBd:Tryz.prog.underlying 37=some (.slice 140):=by kernel_rfl
theorem kBe:Tryz.prog.underlying 36=some (.slice 76):=by kernel_rfl
theorem oBb:Tryz.prog.underlying 42=some (.slice 106):=by kernel_rfl
theorem pBb:Tryz.prog.underlying 102=some (.slice 101):=by kernel_rfl
theorem us4:Tryz.prog.underlying 4=some .bool:=by kernel_rfl
theorem bB8 {y:D} (x:Wt Tryz.prog y 41):rTy y:=by
 obtain ⟨k,nm,lv,el,h,_⟩:=kU x;exact ⟨k,nm,lv,el,h⟩
theorem qBb {y:D} (x:Wt Tryz.prog y 99):rLf y:=by
 obtain ⟨xs,rfl,hx⟩:=x.struct_inv eBe;obtain ⟨h1,h2⟩:=hx.of_types fBe
 match xs,h1,h2 with
 | [y0,y1],_,h2=>
  obtain ⟨nm,rfl,_⟩:=(h2 0 y0 9 rfl rfl).str_inv Tryz.underlying9;obtain ⟨l1,rfl,hl1,_⟩:=(h2 1 y1 38 rfl rfl).slice_inv gAm;obtain ⟨xs,rfl,_⟩:=hl1.strs Tryz.underlying9;exact ⟨nm,xs,rfl⟩
theorem lBe {y:D} (x:Wt Tryz.prog y 76):rLf y:=by
 obtain ⟨xs,rfl,hx⟩:=x.struct_inv cBe;obtain ⟨h1,h2⟩:=hx.of_types dBe
 match xs,h1,h2 with
 | [y0,y1],_,h2=>
  obtain ⟨nm,rfl,_⟩:=(h2 0 y0 9 rfl rfl).str_inv Tryz.underlying9;obtain ⟨l1,rfl,hl1,_⟩:=(h2 1 y1 38 rfl rfl).slice_inv gAm;obtain ⟨xs,rfl,_⟩:=hl1.strs Tryz.underlying9;exact ⟨nm,xs,rfl⟩
theorem cB8 {y:D} (x:Wt Tryz.prog y 101):rOp y:=by
 obtain ⟨xs,rfl,hx⟩:=x.struct_inv iBb;obtain ⟨h1,h2⟩:=hx.of_types jBb
 match xs,h1,h2 with
 | [y0,y1,y2],_,h2=>
  obtain ⟨k,rfl,_⟩:=(h2 0 y0 3 rfl rfl).int_inv Tryz.underlying3;obtain ⟨n,rfl,_⟩:=(h2 1 y1 3 rfl rfl).int_inv Tryz.underlying3;exact ⟨k,n,y2,rfl,qBb (h2 2 y2 99 rfl rfl)⟩
theorem mBe {y:D} (x:Wt Tryz.prog y 104):rVa y:=by
 obtain ⟨xs,rfl,hx⟩:=x.struct_inv kBb;obtain ⟨h1,h2⟩:=hx.of_types lBb
 match xs,h1,h2 with
 | [y0,y1,y2,y3,y4,y5,y6,y7],_,h2=>
  obtain ⟨k,rfl,_⟩:=(h2 0 y0 3 rfl rfl).int_inv Tryz.underlying3;obtain ⟨o,rfl,_⟩:=(h2 3 y3 3 rfl rfl).int_inv Tryz.underlying3;obtain ⟨nm,rfl,_⟩:=(h2 5 y5 9 rfl rfl).str_inv Tryz.underlying9;obtain ⟨l6,rfl,hl6,_⟩:=(h2 6 y6 38 rfl rfl).slice_inv gAm;obtain ⟨ns,rfl,_⟩:=hl6.strs Tryz.underlying9;obtain ⟨ag,rfl,hl7,_⟩:=(h2 7 y7 102 rfl rfl).slice_inv pBb;exact ⟨k,y1,y2,o,y4,nm,ns,ag,rfl,cB8 (h2 1 y1 101 rfl rfl),cB8 (h2 2 y2 101 rfl rfl),qBb (h2 4 y4 99 rfl rfl),fun d hd=>cB8 (hl7.mem d hd)⟩
theorem dBd {y:D} (x:Wt Tryz.prog y 140):rFd y:=by
 obtain ⟨xs,rfl,hx⟩:=x.struct_inv fBb;obtain ⟨h1,h2⟩:=hx.of_types gBb
 match xs,h1,h2 with
 | [y0,y1,y2],_,h2=>
  obtain ⟨m,rfl⟩:=(h2 0 y0 4 rfl rfl).bool_inv us4;obtain ⟨nm,rfl,_⟩:=(h2 1 y1 9 rfl rfl).str_inv Tryz.underlying9;exact ⟨m,nm,y2,rfl,bB8 (h2 2 y2 41 rfl rfl),h2 2 y2 41 rfl rfl⟩
theorem nBe {y:D} (x:Wt Tryz.prog y 72):rSt y:=by
 obtain ⟨xs,rfl,hx⟩:=x.struct_inv wBd;obtain ⟨h1,h2⟩:=hx.of_types yBd
 match xs,h1,h2 with
 | [y0,y1,y2,y3,y4],_,h2=>
  obtain ⟨pub,rfl⟩:=(h2 0 y0 4 rfl rfl).bool_inv us4;obtain ⟨nm,rfl,_⟩:=(h2 1 y1 9 rfl rfl).str_inv Tryz.underlying9;obtain ⟨l2,rfl,hl2,_⟩:=(h2 2 y2 38 rfl rfl).slice_inv gAm;obtain ⟨lv,rfl,_⟩:=hl2.strs Tryz.underlying9;obtain ⟨fs,rfl,hl3,_⟩:=(h2 3 y3 37 rfl rfl).slice_inv cBd;obtain ⟨a,rfl,_⟩:=(h2 4 y4 3 rfl rfl).int_inv Tryz.underlying3;exact ⟨pub,nm,lv,fs,a,rfl,fun d hd=>dBd (hl3.mem d hd)⟩
theorem pAy {y:D} (x:Wt Tryz.prog y 106):rSm y:=by
 obtain ⟨xs,rfl,hx⟩:=x.struct_inv mBb;obtain ⟨h1,h2⟩:=hx.of_types nBb
 match xs,h1,h2 with
 | [y0,y1,y2,y3,y4,y5,y6,y7,y8,y9,y10],_,h2=>
  obtain ⟨k,rfl,_⟩:=(h2 0 y0 3 rfl rfl).int_inv Tryz.underlying3;obtain ⟨a,rfl,_⟩:=(h2 1 y1 3 rfl rfl).int_inv Tryz.underlying3;obtain ⟨m,rfl⟩:=(h2 2 y2 4 rfl rfl).bool_inv us4;obtain ⟨nm,rfl,_⟩:=(h2 3 y3 9 rfl rfl).str_inv Tryz.underlying9;obtain ⟨hs,rfl⟩:=(h2 5 y5 4 rfl rfl).bool_inv us4;obtain ⟨th,rfl,hl9,_⟩:=(h2 9 y9 42 rfl rfl).slice_inv oBb;obtain ⟨el,rfl,hl10,_⟩:=(h2 10 y10 42 rfl rfl).slice_inv oBb;exact ⟨k,a,m,nm,y4,hs,y6,y7,y8,th,el,rfl,bB8 (h2 4 y4 41 rfl rfl),qBb (h2 6 y6 99 rfl rfl),mBe (h2 7 y7 104 rfl rfl),cB8 (h2 8 y8 101 rfl rfl),h2 4 y4 41 rfl rfl,hl9.mem,hl10.mem⟩
theorem oBe {y:D} (x:Wt Tryz.prog y 44):rFu y:=by
 obtain ⟨xs,rfl,hx⟩:=x.struct_inv aBe;obtain ⟨h1,h2⟩:=hx.of_types bBe
 match xs,h1,h2 with
 | [y0,y1,y2,y3,y4,y5,y6],_,h2=>
  obtain ⟨pub,rfl⟩:=(h2 0 y0 4 rfl rfl).bool_inv us4;obtain ⟨nm,rfl,_⟩:=(h2 1 y1 9 rfl rfl).str_inv Tryz.underlying9;obtain ⟨lv,rfl,hl2,_⟩:=(h2 2 y2 36 rfl rfl).slice_inv kBe;obtain ⟨ps,rfl,hl3,_⟩:=(h2 3 y3 37 rfl rfl).slice_inv cBd;obtain ⟨bd,rfl,hl5,_⟩:=(h2 5 y5 42 rfl rfl).slice_inv oBb;obtain ⟨a,rfl,_⟩:=(h2 6 y6 3 rfl rfl).int_inv Tryz.underlying3;exact ⟨pub,nm,lv,ps,y4,bd,a,rfl,bB8 (h2 4 y4 41 rfl rfl),h2 4 y4 41 rfl rfl,fun d hd=>lBe (hl2.mem d hd),fun d hd=>dBd (hl3.mem d hd),hl5.mem⟩
theorem pBe {y:D} (x:Wt Tryz.prog y 25):∃ xs ys,y=crD xs ys/\(∀ d∈xs,rSt d)/\∀ d∈ys,rFu d:=by
 obtain ⟨xs,rfl,hx⟩:=x.struct_inv bBd;obtain ⟨h1,h2⟩:=hx.of_types gBe
 match xs,h1,h2 with
 | [y0,y1],_,h2=>
  obtain ⟨xs,rfl,hl0,_⟩:=(h2 0 y0 22 rfl rfl).slice_inv iBe;obtain ⟨ys,rfl,hl1,_⟩:=(h2 1 y1 23 rfl rfl).slice_inv jBe;exact ⟨xs,ys,rfl,fun d hd=>nBe (hl0.mem d hd),fun d hd=>oBe (hl1.mem d hd)⟩
theorem rBb:dB Tryz.prog [25,22,23,72,44,4,9,38,37,3,36,41,42,140,76,39,106,99,104,101,102]=true:=by kernel_rfl
end Qp
namespace Qp
section
variable {N:Nat} {h:Heap} {V:Nat->Prop}
theorem eAs {s:Bs} {i:Nat} (h:∀ c,s[i]? = some c->c≠58):fB ((s.drop i).take 2) [58,58]=false:=by
 rw [uE]
 cases hd:s.drop i with
 | nil=>rfl
 | cons c r=>
  have:s[i]? = some c:=by
   have:=congrArg (fun l=>l[0]?) hd
   simpa using this
  grind
theorem fAs (hN:40<=N) {s:Bs} (hs:nL s) (hl:s.length<=100):∀ (M i:Nat) (h:Heap),s.length+1-i<M->i<=s.length->(∀ a b,s=a++[58,58]++b->eC a=true->eC b=true->eC s=true\/i<=a.length)->
  ∃ o b h',kA0 N M s false (i:Int) h=some (o,(s,b,()),h')/\Chg [] h h'/\((o=.exit 0/\eC s=true)\/(o=.ret/\b=true)):=by
 intro M
 induction M with
 | zero=>intro i _ h;omega
 | succ M ih=>
  intro i h hM hi hp;rw [rW];unfold iU;have hw:jB .i64 ((i:Int)+1)=((i+1:Nat):Int):=fD (by omega) (by omega);have hw2:jB .i64 ((i:Int)+2)=((i+2:Nat):Int):=fD (by omega) (by omega);simp only [hw,hw2,fF]
  by_cases q:i+1<s.length
  ·simp only [q,decide_true,cond_true]
   rw [lAf (by omega) (by omega),sub_eq];simp only [bA,kA];have step:(∀ c,s[i]? = some c->c≠58)->(∀ a b,s=a++[58,58]++b->eC a=true->eC b=true->eC s=true\/i+1<=a.length)->∃ o b h',(bif fB ((s.drop i).take 2) [58,58] then (dA (.val zM2) (nE E h 9 (.str s) none (some (.int .i64 (i:Int)))) fun (x6:Bs)=>(mA (f46 N x6 h) fun (x7:Bool) h8=>(bif x7 then (dA (.val zM2) (nE E h8 9 (.str s) (some (.int .i64 ((i+2:Nat):Int))) none) fun (x10:Bs)=>(mA (f46 N x10 h8) fun (x11:Bool) h12=>some (Out.ret,(s,x11,()),h12))) else some (Out.ret,(s,false,()),h8)))) else kA0 N M s false ((i+1:Nat):Int) h)=some (o,(s,b,()),h')/\Chg [] h h'/\((o=.exit 0/\eC s=true)\/(o=.ret/\b=true)):=by
    intro h1 h2;rw [eAs h1];exact ih (i+1) h (by omega) (by omega) h2
   rcases hs with hs | ⟨a,b,he,ha,hb⟩
   ·exact step (fun c hc=>aK hs c (List.mem_of_getElem? hc)) fun _ _ _ _ _=>.inl hs
   ·rcases hp a b he ha hb with hs | hle
    ·exact step (fun c hc=>aK hs c (List.mem_of_getElem? hc)) fun _ _ _ _ _=>.inl hs
    ·by_cases hlt:i<a.length
     ·refine step (fun c hc=>?_) fun a' b' he' ha' hb'=>?_
      ·rw [he,List.append_assoc,List.getElem?_append_left hlt] at hc
       exact aK ha c (List.mem_of_getElem? hc)
      ·rcases hp a' b' he' ha' hb' with h1 | h1
       ·exact .inl h1
       ·by_cases e:i=a'.length
        ·
         have hc:s[i]? = some 58:=by rw [he',e];simp
         have:s[i]? = a[i]?:=by grind
         rw [this] at hc;exact absurd rfl (aK ha 58 (List.mem_of_getElem? hc))
        grind
     ·have e:i=a.length:=by omega
      subst e;have h2:(s.drop a.length).take 2=[58,58]:=by rw [he,List.append_assoc,List.drop_left];rfl
      have h3:s.take a.length=a:=by grind
      have h4:s.drop (a.length+2)=b:=by
       rw [he];exact List.drop_left' (by simp)
      rw [h2,show fB [58,58] [58,58]=true from rfl];simp only [cond_true];rw [oA0 (by omega),h3];simp only [bA,kA];obtain ⟨h8,e8,c8⟩:=pG hN a h;rw [e8,aA,ha];simp only [cond_true];rw [nA0 (by omega),h4];simp only [bA,kA];obtain ⟨h12,e12,c12⟩:=pG hN b h8;rw [e12,aA,hb];exact ⟨_,_,_,rfl,c8.trans c12,.inr ⟨rfl,rfl⟩⟩
  ·simp only [q,decide_false,cond_false]
   refine ⟨_,_,h,rfl,Chg.refl _ _,.inl ⟨rfl,?_⟩⟩;rcases hs with hs | ⟨a,b,he,ha,hb⟩
   ·exact hs
   grind
theorem vAn (hN:200<=N) {s:Bs} (hs:nL s) (h:Heap):∃ h',f51 N s h=some (true,h')/\Chg [] h h':=by
 have hl:=qE hs;unfold f51;obtain ⟨o,b,h',e,c,hc⟩:=fAs (N:=N) (by omega) hs (by omega) N 0 h (by omega) (Nat.zero_le _) fun a b _ _ _=>.inr (Nat.zero_le _);rw [show ((0:Nat):Int)=0 from rfl] at e;rw [e];simp only [kB];rcases hc with ⟨rfl,hn⟩ | ⟨rfl,rfl⟩
 ·simp only [bC,decide_true,cond_true]
  obtain ⟨h2,e2,c2⟩:=pG (N:=N) (by omega) s h';rw [e2,aA,hn];exact ⟨_,rfl,c.trans c2⟩
 ·simp only [oF,cond_false]
  exact ⟨_,rfl,c⟩
theorem qAy (hN:200<=N) {s:Bs} (hs:s.length<=9223372036854775807) (hN2:s.length<N) (h:Heap):∃ b h',f51 N s h=some (b,h')/\Chg [] h h'/\(b=true↔nL s):=by
 obtain ⟨b,h',e,c,hb⟩:=rAt (N:=N) hs (by omega) hN2 h;refine ⟨b,h',e,c,hb,fun hp=>?_⟩;obtain ⟨h2,e2,_⟩:=vAn hN hp h
 grind
theorem wAn {v:SL} {lv:List Bs} (x:Sl h V v (lv.map D.s)) (hN:100<=N) (hl:lv.length<=64) (hv:∀ y∈lv,oD y=true):∀ (M i:Nat),i<=lv.length->lv.length-i<M->qA7 N M v false (i:Int) h=some (.exit 0,(v,false,()),h):=by
 intro M
 induction M with
 | zero=>intro i _ h;omega
 | succ M ih=>
  intro i hi hM;rw [tW];unfold jU;have hvl:v.len=lv.length:=by rw [x.len,List.length_map]
  have z:ltInt (i:Int) 65=decide (i<65):=rB i 65;simp only [fF,hvl,z]
  by_cases q:i<lv.length
  ·have q2:i<65:=by omega
   simp only [q,q2,decide_true,cond_true];rw [<- hvl,x.ix (by grind) 1,vE x q];simp only [bA,kA];rw [uA2 (by omega),aA,hv _ (List.getElem_mem q)];simp only [Bool.not_true,cond_false]
   grind [aB]
  grind
theorem bAd {v:SL} {lv:List Bs} (x:Sl h V v (lv.map D.s)) (hN:100<=N) (hl:lv.length<=64) (hv:∀ y∈lv,oD y=true):f47 N v h=some (true,h):=by
 unfold f47;have e:=wAn (N:=N) x hN hl hv N 0 (Nat.zero_le _) (by omega);rw [show ((0:Nat):Int)=0 from rfl] at e;rw [e];simp only [kB,bC,decide_true,cond_true];have z:wB (Int.ofNat v.len) 64=true:=by rw [x.len,List.length_map,leI,decide_eq_true_eq];grind
 rw [z]
theorem yAn {v:SL} {lv:List Bs} (x:Sl h V v (lv.map D.s)) (hN:100<=N) (hl:lv.length<=9223372036854775807):∃ b,f47 N v h=some (b,h)/\(b=true↔lAr 64 lv):=by
 obtain ⟨b,e,hb⟩:=jAm (N:=N) x hN hl;refine ⟨b,e,hb,fun hp=>?_⟩;have e2:=bAd (N:=N) x hN hp.1 hp.2
 grind
theorem rAy (hN:200<=N):∀ (g M:Nat) (h:Heap) (r:TyV) (p:PT) (V:Nat->Prop),g<M->g<=64->p.ok g->Dt h V p.D (tyc r)->∃ h',f21 N M r ((65-g:Nat):Int) h=some (true,h')/\Chg [] h h':=by
 intro g
 induction g with
 | zero=>intro M h r p V _ _ hp;cases p <;> cases hp
 | succ g ih=>
  intro M h r p V hM hg hp hd;obtain ⟨M,rfl⟩:∃ m,M=m+1:=⟨M-1,by omega⟩;rw [pA2];unfold vAl;have z:ltInt 64 ((65-(g+1):Nat):Int)=false:=by
   rw [show (64:Int)=((64:Nat):Int) from rfl,rB,decide_eq_false_iff_not];omega
  have start:∀ {k:Int} {nm:Bs} {lv:List Bs} {el:List D},Dt h V (tyD k nm lv el) (tyc r)->∃ s1 s2 H,r=(k,nm,s1,s2,())/\h.push (.row [(.int .i64 k),(.str nm),(yL s1),(yL s2)] .own)=H/\Chg [] h H/\Sl H V s1 (lv.map D.s)/\Sl H V s2 el/\∀ {G:Heap},Chg [] H G->G.cell (h.next,0)=some (.int .i64 k)/\G.cell (h.next,1)=some (.str nm)/\G.cell (h.next,2)=some (yL s1)/\G.cell (h.next,3)=some (yL s2):=by
   intro k nm lv el hd;obtain ⟨s1,s2,hc,l1,t1⟩:=qF.1 hd;have er:=bX hc;have o1:=wA h (tyc (k,nm,s1,s2,()));have c1:=tA h (.row (tyc (k,nm,s1,s2,())) .own);exact ⟨s1,s2,_,er,rfl,c1,l1.chg c1 (by simp),t1.chg c1 (by simp),fun c=>by
    have o:=o1.chg c (by simp);exact ⟨o.cell 0,o.cell 1,o.cell 2,o.cell 3⟩⟩
  dsimp only;rw [z]
  cases p with
  | int=>
   obtain ⟨s1,s2,H,rfl,e,c,x1,x2,rd⟩:=start (show Dt h V (tyD 1 [] [] []) (tyc r) from hd);rw [e];obtain ⟨a0,a1,a2,a3⟩:=rd (Chg.refl _ _);have l1:s1.len=0:=by rw [x1.len];rfl
   have l2:s2.len=0:=x2.len;simp only [cond_false,Nat.add_zero,Nat.zero_add,a0,a1,a2,a3,bA,vA,kA,jA,show eA 1 1=true from rfl,cond_true,aA,fA,show fB [] []=true from rfl,l1,l2,show eA (Int.ofNat 0) 0=true from rfl];exact ⟨H,rfl,c⟩
  | bool=>
   obtain ⟨s1,s2,H,rfl,e,c,x1,x2,rd⟩:=start (show Dt h V (tyD 2 [] [] []) (tyc r) from hd);rw [e];obtain ⟨a0,a1,a2,a3⟩:=rd (Chg.refl _ _);have l1:s1.len=0:=by rw [x1.len];rfl
   have l2:s2.len=0:=x2.len;simp only [cond_false,Nat.add_zero,Nat.zero_add,a0,a1,a2,a3,bA,vA,kA,jA,show eA 2 1=false from rfl,show eA 2 2=true from rfl,cond_true,aA,fA,show fB [] []=true from rfl,l1,l2,show eA (Int.ofNat 0) 0=true from rfl];exact ⟨H,rfl,c⟩
  | st nm lv=>
   obtain ⟨h1,h2,h3⟩:=hp;obtain ⟨s1,s2,H,rfl,e,c,x1,x2,rd⟩:=start (show Dt h V (tyD 3 nm lv []) (tyc r) from hd);rw [e];obtain ⟨a0,a1,a2,a3⟩:=rd (Chg.refl _ _);have l2:s2.len=0:=x2.len;obtain ⟨H2,e2,c2⟩:=vAn hN h1 H;obtain ⟨_,_,b2,b3⟩:=rd c2;have e4:f47 N s1 H2=some (true,H2):=bAd (N:=N) (x1.chg c2 (by simp)) (by omega) h2 h3;simp only [cond_false,Nat.add_zero,Nat.zero_add,a0,a1,a2,a3,bA,vA,kA,jA,show eA 3 1=false from rfl,show eA 3 2=false from rfl,show eA 3 3=true from rfl,cond_true,aA,fA];rw [e2,aA];simp only [cond_true,b2,bA,jA];rw [e4,aA];simp only [cond_true,b3,bA,jA,l2,show eA (Int.ofNat 0) 0=true from rfl];exact ⟨H2,rfl,c.trans c2⟩
  | ref mu lv t=>
   obtain ⟨h1,h2,h3⟩:=hp;obtain ⟨k,hk⟩:∃ k:Int,k=if mu=true then 5 else 4:=⟨_,rfl⟩;have hd':Dt h V (tyD k [] lv [t.D]) (tyc r):=by rw [hk];exact hd
   obtain ⟨s1,s2,H,rfl,e,c,x1,x2,rd⟩:=start hd';rw [e];obtain ⟨a0,a1,a2,a3⟩:=rd (Chg.refl _ _);have l1:wB (Int.ofNat s1.len) 1=true:=by
    rw [x1.len,List.length_map,leI,decide_eq_true_eq];grind
   have l2:eA (Int.ofNat s2.len) 1=true:=by rw [x2.len];rfl
   have e4:f47 N s1 H=some (true,H):=bAd (N:=N) x1 (by omega) (by omega) h2;obtain ⟨r',g',d'⟩:=(qO (g+1)).elt x2 (i:=0) (by simp) ((eAr h3).up (Nat.le_succ _));have hix:∀ {β:Type} (K:Nat×Nat->Option β),ixK s2.a s2.len 0 4 K=K (s2.at 0 4):=fun K=>x2.ix (i:=0) (by simp) 4 K;obtain ⟨H2,e2,c2⟩:=ih M H r' t V (by omega) (by omega) h3 d';have e2':f21 N M r' ((65-g:Nat):Int) H=some (true,H2):=e2;have fin:∃ h',(bif eA k 4||eA k 5 then (mA (f21 N M r' ((65-g:Nat):Int) H) fun (x51:Bool) h52=>some (x51,h52)) else some (false,H))=some (true,h')/\Chg [] h h':=by
    have:(eA k 4||eA k 5)=true:=by rw [hk];cases mu <;> rfl
    rw [this,cond_true,e2'];exact ⟨H2,rfl,c.trans c2⟩
   have hw:jB .i64 (((65-(g+1):Nat):Int)+1)=((65-g:Nat):Int):=by grind [aB]
   cases mu with
   | true=>
    simp only [if_true] at hk;subst hk;simp only [cond_false,Nat.add_zero,Nat.zero_add,a0,a1,a2,a3,bA,vA,kA,jA,show eA 5 1=false from rfl,show eA 5 2=false from rfl,show eA 5 3=false from rfl,show eA 5 4=false from rfl,show eA 5 5=true from rfl,cond_true,aA,fA,show fB [] []=true from rfl,l1];rw [e4,aA];simp only [cond_true,a3,bA,jA,l2];rw [hix,g',vJ,hw,e2',aA];exact ⟨H2,rfl,c.trans c2⟩
   | false=>
    simp only [Bool.false_eq_true,if_false] at hk;subst hk;simp only [cond_false,Nat.add_zero,Nat.zero_add,a0,a1,a2,a3,bA,vA,kA,jA,show eA 4 1=false from rfl,show eA 4 2=false from rfl,show eA 4 3=false from rfl,show eA 4 4=true from rfl,cond_true,aA,fA,show fB [] []=true from rfl,l1];rw [e4,aA];simp only [cond_true,a3,bA,jA,l2];rw [hix,g',vJ,hw,e2',aA];exact ⟨H2,rfl,c.trans c2⟩
theorem cAd (hN:200<=N) {h:Heap} {r:TyV} {x:D} (hw:wtD x<N) (ht:Wt Tryz.prog x 41) (hd:Dt h V x (tyc r)):∃ b h',f21 N N r 1 h=some (b,h')/\Chg [] h h'/\(b=true↔dG 64 x):=by
 obtain ⟨b,h',e,c,hb⟩:=nB2 (N:=N) (by omega) 64 N h r x V (by omega) (Nat.le_refl _) hw ht hd;refine ⟨b,h',e,c,hb,fun hp=>?_⟩;obtain ⟨p,rfl,hp⟩:=hp;obtain ⟨h2,e2,_⟩:=rAy (N:=N) hN 64 N h r p V (by omega) (Nat.le_refl _) hp hd
 grind
end
end Qp
namespace Qp
section
variable {N:Nat} {h:Heap} {V:Nat->Prop}
theorem aAj (hN:200<=N) {P:Nat} {nm:Bs} {s:SL} {xs:List Bs}:∀ (M i:Nat) (h:Heap),i<=xs.length->i<=65->65-i<M->h.own P (lfc (nm,s,()))->Sl h V s (xs.map D.s)->(∀ j,(hj:j<xs.length)->j<i->jQ xs[j])->
  ∃ o b h',jY N M (some (P,0)) false (i:Int) h=some (o,(some (P,0),b,()),h')/\Chg [] h h'/\((o=.exit 0/\(xs.length<=64->∀ y∈xs,jQ y))\/(o=.ret/\b=false/\¬ ∀ y∈xs,jQ y)):=by
 intro M
 induction M with
 | zero=>intro i h _ _ h;omega
 | succ M ih=>
  intro i h hi h65 hM o x hp;rw [lA8];unfold iY;have a1:h.cell (P,1)=some (yL s):=o.cell 1;have hv:s.len=xs.length:=by rw [x.len,List.length_map]
  have z:ltInt (i:Int) 65=decide (i<65):=rB i 65;have done:¬ i<xs.length\/¬ i<65->xs.length<=64->∀ y∈xs,jQ y:=fun hd hl y hy=>by
   obtain ⟨j,hj,rfl⟩:=List.getElem_of_mem hy
   grind
  simp only [fA,Nat.zero_add,a1,bA,jA,fF,hv,z]
  by_cases q:i<xs.length
  ·by_cases q2:i<65
   ·simp only [q,q2,decide_true,cond_true]
    have hix:∀ {β:Type} (K:Nat×Nat->Option β),ixK s.a xs.length (i:Int) 1 K=K (s.at i 1):=fun K=>by rw [<- hv];exact x.ix (by grind) 1 K
    rw [hix,vE x q];simp only [bA,kA];have nxt:∀ (H:Heap),Chg [] h H->jQ xs[i]->∃ o b h',jY N M (some (P,0)) false (jB .i64 ((i:Int)+1)) H=some (o,(some (P,0),b,()),h')/\Chg [] h h'/\((o=.exit 0/\(xs.length<=64->∀ y∈xs,jQ y))\/(o=.ret/\b=false/\¬ ∀ y∈xs,jQ y)):=by
     intro H c hs;rw [aB (by omega)];obtain ⟨o',b,h',e,c',hh⟩:=ih (i+1) H q (by omega) (by omega) (o.chg c (by simp)) (x.chg c (by simp)) fun j hj hji=>by
      grind
     exact ⟨o',b,h',e,c.trans c',hh⟩
    cases hb:fB xs[i] [42] with
    | true=>
     simp only [Bool.not_true,cond_false];exact nxt h (Chg.refl _ _) (.inl (by rw [uE] at hb;exact eq_of_beq hb))
    | false=>
     simp only [Bool.not_false,cond_true];rw [hix,vE x q];simp only [bA,kA];obtain ⟨h8,e8,c8⟩:=pG (N:=N) (by omega) xs[i] h;rw [e8,aA]
     cases hn:eC xs[i] with
     | false=>
      simp only [Bool.not_false,cond_true];exact ⟨_,_,h8,rfl,c8,.inr ⟨rfl,rfl,fun hall=>by
       rcases hall _ (List.getElem_mem q) with e | e
       ·rw [e] at hb;cases hb
       grind⟩⟩
     | true=>
      simp only [Bool.not_true,cond_false];exact nxt h8 c8 (.inr hn)
   ·simp only [q,q2,decide_true,decide_false,cond_true,cond_false]
    exact ⟨_,_,_,rfl,Chg.refl _ _,.inl ⟨rfl,done (.inr q2)⟩⟩
  ·simp only [q,decide_false,cond_false]
   exact ⟨_,_,_,rfl,Chg.refl _ _,.inl ⟨rfl,done (.inl q)⟩⟩
theorem gAs:∀ {xs ys:List Bs},xs.map D.s=ys.map D.s->xs=ys
 | [],[],_=>rfl
 | [],_::_,h=>by cases h
 | _::_,[],h=>by cases h
 | x::xs,y::ys,h=>by
  simp only [List.map_cons,List.cons.injEq,D.s.injEq] at h;rw [h.1,gAs h.2]
theorem mAg {a b:Bs} {xs ys:List Bs} (h:gD a (xs.map D.s)=gD b (ys.map D.s)):a=b/\xs=ys:=by
 simp only [gD,D.t.injEq,List.cons.injEq,D.s.injEq,D.l.injEq,and_true] at h;exact ⟨h.1,gAs h.2⟩
theorem uU (hN:200<=N) {p:D} (hp:rLf p) {r:LfV} (x:Dt h V p (lfc r)):∃ b h',f135 N r h=some (b,h')/\Chg [] h h'/\(b=true↔lH p):=by
 obtain ⟨nm,xs,rfl⟩:=hp;obtain ⟨s,hc,y⟩:=iG x;obtain rfl:=aAd.inj (r':=(nm,s,())) hc
 clear x
 unfold f135;have o:=wA h (lfc (nm,s,()));have c:=tA h (.row (lfc (nm,s,())) .own);have e1:h.push (.row [(.str nm),(yL s)] .own)=h.push (.row (lfc (nm,s,())) .own):=rfl;dsimp only;rw [e1];have x:=y.chg c (by simp);generalize h.push (.row (lfc (nm,s,())) .own)=H at *;have hv:s.len=xs.length:=by rw [x.len,List.length_map]
 obtain ⟨o',b,H2,e,c2,hh⟩:=aAj (N:=N) hN N 0 H (Nat.zero_le _) (by omega) (by omega) o x fun j _ h=>by omega
 rw [show ((0:Nat):Int)=0 from rfl] at e;rw [e,kB];have c02:=c.trans c2;have inv:lH (gD nm (xs.map D.s))->eC nm=true/\mAr 64 xs:=fun hm=>by
  obtain ⟨nm',xs',e,h1,h2⟩:=hm;obtain ⟨rfl,rfl⟩:=mAg e;exact ⟨h1,h2⟩
 rcases hh with ⟨rfl,hh⟩ | ⟨rfl,rfl,hno⟩
 ·have o2:=o.chg c2 (by simp)
  have a0:H2.cell (h.next,0)=some (.str nm):=o2.cell 0;simp only [bC,decide_true,cond_true,fA,Nat.zero_add,Nat.add_zero,a0,bA,kA];obtain ⟨H3,e3,c3⟩:=pG (N:=N) (by omega) nm H2;rw [e3,aA];have a1:H3.cell (h.next,1)=some (yL s):=(o2.chg c3 (by simp)).cell 1
  cases hn:eC nm with
  | false=>exact ⟨_,H3,rfl,c02.trans c3,(fun h=>by cases h),fun h=>by
   grind⟩
  | true=>
   simp only [cond_true,a1,bA,jA];have z:wB (Int.ofNat s.len) 64=decide (xs.length<=64):=by rw [hv];exact lL _ 64
   rw [z];exact ⟨_,H3,rfl,c02.trans c3,(fun hd=>⟨nm,xs,rfl,hn,of_decide_eq_true hd,hh (of_decide_eq_true hd)⟩),fun h=>decide_eq_true (inv h).2.1⟩
 ·simp only [oF,cond_false]
  exact ⟨_,H2,rfl,c02,(fun h=>by cases h),fun h=>absurd (inv h).2.2 hno⟩
theorem lE {p:D} (hp:rLf p) {r:LfV} (x:Dt h V p (lfc r)) (hz:zLf r=true):p=pl0:=by
 obtain ⟨nm,xs,rfl⟩:=hp;obtain ⟨s,hc,y⟩:=iG x;obtain rfl:=aAd.inj (r':=(nm,s,())) hc
 clear x
 unfold zLf at hz;rw [Bool.and_eq_true] at hz;have h1:=tA8.1 hz.1;have h2:=iF.1 hz.2;rw [y.len,List.length_map] at h2;obtain rfl:=List.length_eq_zero_iff.1 h2;dsimp only at h1;rw [h1];rfl
theorem bK {r:LfV} (x:Dt h V pl0 (lfc r)):zLf r=true:=by
 obtain ⟨s,hc,y⟩:=iG x;obtain rfl:=aAd.inj (r':=([],s,())) hc;unfold zLf;rw [Bool.and_eq_true];exact ⟨rfl,iF.2 y.len⟩
theorem cK {r:OpV} (x:Dt h V op0 (opc r)):zOp r=true:=by
 obtain ⟨p,hc,xp⟩:=uA8 ⟨[],[],rfl⟩ x;obtain rfl:=wAi.inj (r':=(0,0,p.1,p.2.1,())) hc;unfold zOp;rw [Bool.and_eq_true,Bool.and_eq_true];exact ⟨rfl,rfl,bK xp⟩
theorem tT {r:TyV} (x:Dt h V ty0D (tyc r)):zTy r=true:=by
 obtain ⟨s1,s2,hc,x1,x2⟩:=qF.1 x;obtain rfl:=nAy.inj (r':=(0,[],s1,s2,())) hc;unfold zTy;rw [Bool.and_eq_true,Bool.and_eq_true,Bool.and_eq_true];exact ⟨rfl,rfl,iF.2 x1.len,iF.2 x2.len⟩
theorem bE {d:D} (hd:rOp d) {r:OpV} (x:Dt h V d (opc r)) (hz:zOp r=true):d=op0:=by
 obtain ⟨k,n,pl,rfl,hp⟩:=hd;obtain ⟨p,hc,xp⟩:=uA8 hp x;obtain rfl:=wAi.inj (r':=(k,n,p.1,p.2.1,())) hc;unfold zOp at hz;rw [Bool.and_eq_true,Bool.and_eq_true] at hz;obtain ⟨h1,h2,h3⟩:=hz;have h1:k=0:=mA4.1 h1;have h2:n=0:=mA4.1 h2;have h3:=lE hp xp h3;rw [h1,h2,h3];rfl
theorem jM {d:D} (hd:rTy d) {r:TyV} (x:Dt h V d (tyc r)) (hz:zTy r=true):d=ty0D:=by
 obtain ⟨k,y,lv,el,rfl⟩:=hd;obtain ⟨s1,s2,hc,x1,x2⟩:=qF.1 x;obtain rfl:=nAy.inj (r':=(k,y,s1,s2,())) hc;unfold zTy at hz;rw [Bool.and_eq_true,Bool.and_eq_true,Bool.and_eq_true] at hz;obtain ⟨h1,h2,h3,h4⟩:=hz;have h1:k=0:=mA4.1 h1;have h2:y=[]:=tA8.1 h2;have h3:=iF.1 h3;have h4:=iF.1 h4;rw [x1.len,List.length_map] at h3;rw [x2.len] at h4;obtain rfl:=List.length_eq_zero_iff.1 h3;obtain rfl:=List.length_eq_zero_iff.1 h4;rw [h1,h2];rfl
theorem pH {k n:Int} {pl:D} (h:qC (opD k n pl)):(k=1/\0<=n/\n<=2147483647/\pl=pl0)\/(k=2/\(n=0\/n=1)/\pl=pl0)\/(k=3/\n=0/\lH pl):=by
 simp only [qC,opD,D.t.injEq,List.cons.injEq,D.i.injEq,and_true] at h
 grind
theorem kN (hN:200<=N) {d:D} (hd:rOp d) {r:OpV} (x:Dt h V d (opc r)):∃ b h',f137 N r h=some (b,h')/\Chg [] h h'/\(b=true↔qC d):=by
 obtain ⟨k,n,pl,rfl,hp⟩:=hd;obtain ⟨p,hc,xp⟩:=uA8 hp x;obtain rfl:=wAi.inj (r':=(k,n,p.1,p.2.1,())) hc;unfold f137;have o:=wA h (opc (k,n,p.1,p.2.1,()));have c:=tA h (.row (opc (k,n,p.1,p.2.1,())) .own);have e1:h.push (.row [(.int .i64 k),(.int .i64 n),(.str p.1),(yL p.2.1)] .own)=h.push (.row (opc (k,n,p.1,p.2.1,())) .own):=rfl;dsimp only;rw [e1];have xp:=Dt.chg c (by simp) xp;generalize h.push (.row (opc (k,n,p.1,p.2.1,())) .own)=H at *;have a0:H.cell (h.next,0)=some (.int .i64 k):=o.cell 0;have a1:H.cell (h.next,1)=some (.int .i64 n):=o.cell 1;have a2:H.cells (h.next,2) 2=some (.agg (lfc p)):=o.cells (j:=2) (m:=2) (show 2+2<=4 by decide);simp only [Nat.zero_add,a0,a1,bA,vA];simp only [a2,jH];obtain ⟨H3,e3,c3⟩:=kB5 (N:=N) p H;have e3':f182 N ((p.1,p.2.1,()):LfV) H=some (zLf p,H3):=e3;have nw:∃ h',(mA (f182 N ((p.1,p.2.1,()):LfV) H) fun (x9:Bool) h10=>some (x9,h10))=some (zLf p,h')/\Chg [] h h':=⟨H3,by rw [e3'];rfl,c.trans c3⟩;obtain ⟨H5,e5,c5⟩:=nw;simp only [e5]
 by_cases k1:k=1
 ·subst k1
  simp only [show eA 1 1=true from rfl,cond_true]
  cases q1:wB 0 n with
  | false=>exact ⟨_,H,rfl,c,(fun h=>by cases h),fun h=>by
    rcases pH h with ⟨_,h0,_⟩ | ⟨h,_⟩ | ⟨h,_⟩
    ·grind [leI,decide_eq_false_iff_not]
    ·omega
    ·omega⟩
  | true=>
   cases q2:wB n 2147483647 with
   | false=>exact ⟨_,H,rfl,c,(fun h=>by cases h),fun h=>by
     rcases pH h with ⟨_,_,h0,_⟩ | ⟨h,_⟩ | ⟨h,_⟩
     ·grind [leI,decide_eq_false_iff_not]
     ·omega
     ·omega⟩
   | true=>
    refine ⟨_,H5,rfl,c5,fun hz=>?_,fun h=>by
     rcases pH h with ⟨_,_,_,rfl⟩ | ⟨h,_⟩ | ⟨h,_⟩
     ·exact bK xp
     ·omega
     ·omega⟩
    rw [leI,decide_eq_true_eq] at q1 q2;obtain rfl:=lE hp xp hz;refine .inl ⟨n.toNat,?_,by omega⟩
    grind
 have z1:eA k 1=false:=by rw [eqI];grind
 by_cases k2:k=2
 ·subst k2
  simp only [show eA 2 1=false from rfl,show eA 2 2=true from rfl,cond_true,cond_false]
  cases q1:eA n 0 with
  | true=>
   refine ⟨_,H5,rfl,c5,fun hz=>?_,fun h=>by
    rcases pH h with ⟨h,_⟩ | ⟨_,_,rfl⟩ | ⟨h,_⟩
    ·omega
    ·exact bK xp
    ·omega⟩
   rw [eqI,decide_eq_true_eq] at q1;obtain rfl:=lE hp xp hz;exact .inr (.inl ⟨n,.inl q1,rfl⟩)
  | false=>
   cases q2:eA n 1 with
   | false=>exact ⟨_,H,rfl,c,(fun h=>by cases h),fun h=>by
     rw [eqI,decide_eq_false_iff_not] at q1 q2;rcases pH h with ⟨h,_⟩ | ⟨_,h,_⟩ | ⟨h,_⟩ <;> omega⟩
   | true=>
    refine ⟨_,H5,rfl,c5,fun hz=>?_,fun h=>by
     rcases pH h with ⟨h,_⟩ | ⟨_,_,rfl⟩ | ⟨h,_⟩
     ·omega
     ·exact bK xp
     ·omega⟩
    rw [eqI,decide_eq_true_eq] at q2;obtain rfl:=lE hp xp hz;exact .inr (.inl ⟨n,.inr q2,rfl⟩)
 have z2:eA k 2=false:=by rw [eqI];grind
 by_cases k3:k=3
 ·subst k3
  simp only [show eA 3 1=false from rfl,show eA 3 2=false from rfl,show eA 3 3=true from rfl,cond_true,cond_false]
  cases q1:eA n 0 with
  | false=>exact ⟨_,H,rfl,c,(fun h=>by cases h),fun h=>by
    rw [eqI,decide_eq_false_iff_not] at q1;rcases pH h with ⟨h,_⟩ | ⟨h,_⟩ | ⟨_,h,_⟩ <;> omega⟩
  | true=>
   rw [eqI,decide_eq_true_eq] at q1;obtain ⟨b,H6,e6,c6,hb⟩:=uU (N:=N) hN hp xp;have e6':f135 N ((p.1,p.2.1,()):LfV) H=some (b,H6):=e6;refine ⟨b,H6,by rw [e6'];rfl,c.trans c6,fun hz=>?_,fun h=>by
    rcases pH h with ⟨h,_⟩ | ⟨h,_⟩ | ⟨_,_,h⟩
    ·omega
    ·omega
    ·exact hb.2 h⟩
   rw [q1];exact .inr (.inr ⟨pl,rfl,hb.1 hz⟩)
 have z3:eA k 3=false:=by rw [eqI];grind
 rw [z1,z2,z3];exact ⟨_,H,rfl,c,(fun h=>by cases h),fun h=>by
  rcases pH h with ⟨h,_⟩ | ⟨h,_⟩ | ⟨h,_⟩ <;> contradiction⟩
end
end Qp
namespace Qp
def zVb (r:VaV):Bool:=zI r.1&&(zOp (vaA r)&&(zOp (vaB r)&&(zI (vaO r)&&(zLf (vaP r)&&(zB (vaN r)&&(zN (vaS r)&&zN (vaG r)))))))
theorem iAu (r:VaV):zVb r=zVa r:=by
 unfold zVb zVa
 grind
section
variable {N:Nat} {h:Heap} {V:Nat->Prop}
theorem aAo (hN:1<=N) (s:SL) (h:Heap):f106 N s zs h=some (zN s,h):=by
 obtain ⟨N,rfl⟩:∃ m,N=m+1:=⟨N-1,by omega⟩;unfold f106;dsimp only;show (bif !zN s then _ else _)=_
 cases hq:zN s with
 | false=>rfl
 | true=>
  have:=iF.1 hq
  rw [uS];unfold fQ;rw [this];rfl
theorem nAg (hN:1<=N) (r:LfV) (h:Heap):∃ h',f164 N r ([],zs,()) h=some (zLf r,h')/\Chg [] h h':=by
 unfold f164;have o:=wA h (lfc r);have c:=tA h (.row (lfc r) .own);have e1:h.push (.row [(.str r.1),(yL r.2.1)] .own)=h.push (.row (lfc r) .own):=rfl;dsimp only;rw [e1];generalize h.push (.row (lfc r) .own)=H at *;have o2:=wA H (lfc lf0);have c2:=tA H (.row (lfc lf0) .own);have e2:H.push (.row [(.str []),(.slice none 0 0 0)] .own)=H.push (.row (lfc lf0) .own):=rfl;rw [e2];have o1:=o.chg c2 (by simp);generalize H.push (.row (lfc lf0) .own)=H2 at *;have a0:H2.cell (h.next,0)=some (.str r.1):=o1.cell 0;have a1:H2.cell (h.next,1)=some (yL r.2.1):=o1.cell 1;have b0:H2.cell (H.next,0)=some (.str []):=o2.cell 0;have b1:H2.cell (H.next,1)=some (.slice none 0 0 0):=o2.cell 1;simp only [Nat.zero_add,a0,a1,b0,b1,bA,kA,jA];refine ⟨H2,?_,c.trans c2⟩;rw [aAo hN];show (bif zB r.1 then some (zN r.2.1,H2) else some (false,H2))=_;unfold zLf;cases zB r.1 <;> rfl
theorem bAo (hN:1<=N) (r:OpV) (h:Heap):∃ h',f166 N r (0,0,[],zs,()) h=some (zOp r,h')/\Chg [] h h':=by
 unfold f166;have o:=wA h (opc r);have c:=tA h (.row (opc r) .own);have e1:h.push (.row [(.int .i64 r.1),(.int .i64 r.2.1),(.str r.2.2.1),(yL r.2.2.2.1)] .own)=h.push (.row (opc r) .own):=rfl;dsimp only;rw [e1];generalize h.push (.row (opc r) .own)=H at *;have o2:=wA H (opc dF);have c2:=tA H (.row (opc dF) .own);have e2:H.push (.row [(.int .i64 0),(.int .i64 0),(.str []),(.slice none 0 0 0)] .own)=H.push (.row (opc dF) .own):=rfl;rw [e2];have o1:=o.chg c2 (by simp);generalize H.push (.row (opc dF) .own)=H2 at *;have a0:H2.cell (h.next,0)=some (.int .i64 r.1):=o1.cell 0;have a1:H2.cell (h.next,1)=some (.int .i64 r.2.1):=o1.cell 1;have a2:H2.cells (h.next,2) 2=some (.agg (lfc (r.2.2.1,r.2.2.2.1,()))):=o1.cells (j:=2) (m:=2) (show 2+2<=4 by decide);have b0:H2.cell (H.next,0)=some (.int .i64 0):=o2.cell 0;have b1:H2.cell (H.next,1)=some (.int .i64 0):=o2.cell 1;have b2:H2.cells (H.next,2) 2=some (.agg (lfc lf0)):=o2.cells (j:=2) (m:=2) (show 2+2<=4 by decide);simp only [Nat.zero_add,a0,a1,b0,b1,bA,vA];rw [a2,b2,jH,jH];obtain ⟨H3,e3,c3⟩:=nAg (N:=N) hN (r.2.2.1,r.2.2.2.1,()) H2;have e3':f164 N ((r.2.2.1,r.2.2.2.1,()):LfV) ([],zs,()) H2=some (zLf (r.2.2.1,r.2.2.2.1,()),H3):=e3;have cc:=c.trans c2;show ∃ h',(bif zI r.1 then (bif zI r.2.1 then (mA (f164 N ((r.2.2.1,r.2.2.2.1,()):LfV) ([],zs,()) H2) fun x11 h12=>some (x11,h12)) else some (false,H2)) else some (false,H2))=some (zOp r,h')/\_;unfold zOp
 cases zI r.1 with
 | false=>exact ⟨H2,rfl,cc⟩
 | true=>
  cases zI r.2.1 with
  | false=>exact ⟨H2,rfl,cc⟩
  | true=>exact ⟨H3,by rw [e3'];rfl,cc.trans c3⟩
theorem qB5 (hN:1<=N) {M:Nat} (hM:2<=M) (s:SL) (h:Heap):tK N M s zs () h=some (zN s,h):=by
 obtain ⟨M,rfl⟩:∃ m,M=m+2:=⟨M-2,by omega⟩;obtain ⟨N,rfl⟩:∃ m,N=m+1:=⟨N-1,by omega⟩;rw [gQ];unfold iN;rw [yA2];unfold qR;show mA (bif !zN s then _ else _) _=_
 cases hq:zN s with
 | false=>rfl
 | true=>
  have:=iF.1 hq
  simp only [Bool.not_true,cond_false];rw [pT];unfold qK;rw [this];rfl
theorem rB5 (hN:1<=N) {M:Nat} (hM:3<=M) (r:TyV) (h:Heap):∃ h',f112 N M r (0,[],zs,zs,()) h=some (zTy r,h')/\Chg [] h h':=by
 obtain ⟨M,rfl⟩:∃ m,M=m+1:=⟨M-1,by omega⟩;rw [aA8];unfold yA7;have o:=wA h (tyc r);have c:=tA h (.row (tyc r) .own);have e1:h.push (.row [(.int .i64 r.1),(.str r.2.1),(yL r.2.2.1),(yL r.2.2.2.1)] .own)=h.push (.row (tyc r) .own):=rfl;dsimp only;rw [e1];generalize h.push (.row (tyc r) .own)=H at *;have o2:=wA H (tyc yW);have c2:=tA H (.row (tyc yW) .own);have e2:H.push (.row [(.int .i64 0),(.str []),(.slice none 0 0 0),(.slice none 0 0 0)] .own)=H.push (.row (tyc yW) .own):=rfl;rw [e2];have o1:=o.chg c2 (by simp);generalize H.push (.row (tyc yW) .own)=H2 at *;have a0:H2.cell (h.next,0)=some (.int .i64 r.1):=o1.cell 0;have a1:H2.cell (h.next,1)=some (.str r.2.1):=o1.cell 1;have a2:H2.cell (h.next,2)=some (yL r.2.2.1):=o1.cell 2;have a3:H2.cell (h.next,3)=some (yL r.2.2.2.1):=o1.cell 3;have b0:H2.cell (H.next,0)=some (.int .i64 0):=o2.cell 0;have b1:H2.cell (H.next,1)=some (.str []):=o2.cell 1;have b2:H2.cell (H.next,2)=some (.slice none 0 0 0):=o2.cell 2;have b3:H2.cell (H.next,3)=some (.slice none 0 0 0):=o2.cell 3;simp only [Nat.zero_add,a0,a1,a2,b0,b1,b2,bA,vA,kA,jA];rw [aAo hN];simp only [aA,a3,b3,bA,jA];rw [qB5 hN (by omega)];have cc:=c.trans c2;show ∃ h',(bif zI r.1 then (bif zB r.2.1 then (bif zN r.2.2.1 then some (zN r.2.2.2.1,H2) else some (false,H2)) else some (false,H2)) else some (false,H2))=some (zTy r,h')/\_
 grind [zTy,zI,zB,zN]
theorem tB5 (hN:1<=N) (s:SL) (h:Heap):uG N s zs () h=some (zN s,h):=by
 obtain ⟨N,rfl⟩:∃ m,N=m+1:=⟨N-1,by omega⟩;unfold uG lU;show mA (bif !zN s then _ else _) _=_
 cases hq:zN s with
 | false=>rfl
 | true=>
  have:=iF.1 hq
  simp only [Bool.not_true,cond_false];rw [qT];unfold wK;rw [this];rfl
theorem jAu (hN:1<=N) (r:VaV) (h:Heap):∃ h',f165 N r (0,0,0,[],zs,0,0,[],zs,0,[],zs,[],zs,zs,()) h=some (zVb r,h')/\Chg [] h h':=by
 unfold f165;have o:=wA h (vac r);have c:=tA h (.row (vac r) .own);have e1:h.push (.row (yRB r) .own)=h.push (.row (vac r) .own):=rfl;dsimp only;rw [e1];generalize h.push (.row (vac r) .own)=H at *;have o2:=wA H (vac va0);have c2:=tA H (.row (vac va0) .own);have e2:H.push (.row yZB .own)=H.push (.row (vac va0) .own):=rfl;rw [e2];have o1:=o.chg c2 (by simp);generalize H.push (.row (vac va0) .own)=H2 at *;have cc:=c.trans c2;have rd:∀ {G:Heap},Chg [] H2 G->G.cell (h.next,0)=some (.int .i64 r.1)/\G.cell (h.next,9)=some (.int .i64 (vaO r))/\G.cell (h.next,12)=some (.str (vaN r))/\G.cells (h.next,1) 4=some (.agg (opc (vaA r)))/\G.cells (h.next,5) 4=some (.agg (opc (vaB r)))/\G.cells (h.next,10) 2=some (.agg (lfc (vaP r)))/\
   G.cell (h.next,13)=some (.slice (vaS r).a (vaS r).len (vaS r).cap (vaS r).sz)/\G.cell (h.next,14)=some (.slice (vaG r).a (vaG r).len (vaG r).cap (vaG r).sz):=fun cg=>by
  have o:=o1.chg cg (by simp);exact ⟨o.cell 0,o.cell 9,o.cell 12,o.cells (j:=1) (m:=4) (show 1+4<=15 by decide),o.cells (j:=5) (m:=4) (show 5+4<=15 by decide),o.cells (j:=10) (m:=2) (show 10+2<=15 by decide),o.cell 13,o.cell 14⟩
 have rz:∀ {G:Heap},Chg [] H2 G->G.cell (H.next,0)=some (.int .i64 0)/\G.cell (H.next,9)=some (.int .i64 0)/\G.cell (H.next,12)=some (.str [])/\G.cells (H.next,1) 4=some (.agg (opc dF))/\G.cells (H.next,5) 4=some (.agg (opc dF))/\G.cells (H.next,10) 2=some (.agg (lfc lf0))/\
   G.cell (H.next,13)=some (.slice none 0 0 0)/\G.cell (H.next,14)=some (.slice none 0 0 0):=fun cg=>by
  have o:=o2.chg cg (by simp);exact ⟨o.cell 0,o.cell 9,o.cell 12,o.cells (j:=1) (m:=4) (show 1+4<=15 by decide),o.cells (j:=5) (m:=4) (show 5+4<=15 by decide),o.cells (j:=10) (m:=2) (show 10+2<=15 by decide),o.cell 13,o.cell 14⟩
 obtain ⟨a0,_,_,a1,_⟩:=rd (Chg.refl _ _);obtain ⟨b0,_,_,b1,_⟩:=rz (Chg.refl _ _);simp only [Nat.zero_add,a0,b0,bA,vA];show ∃ h',(bif zI r.1 then _ else some (false,H2))=some (zVb r,h')/\_;unfold zVb
 cases zI r.1 with
 | false=>exact ⟨H2,rfl,cc⟩
 | true=>
 simp only [cond_true,Bool.true_and];rw [a1,b1,dH,dH];obtain ⟨H3,e3,c3⟩:=bAo (N:=N) hN (vaA r) H2;show ∃ h',(mA (f166 N (vaA r) (0,0,[],zs,()) H2) _)=_/\_;rw [e3,aA];obtain ⟨_,_,_,_,a5,_⟩:=rd c3;obtain ⟨_,_,_,_,b5,_⟩:=rz c3
 cases zOp (vaA r) with
 | false=>exact ⟨H3,rfl,cc.trans c3⟩
 | true=>
 simp only [cond_true,Bool.true_and];rw [a5,b5,dH,dH];obtain ⟨H4,e4,c4⟩:=bAo (N:=N) hN (vaB r) H3;show ∃ h',(mA (f166 N (vaB r) (0,0,[],zs,()) H3) _)=_/\_;rw [e4,aA];have c24:=c3.trans c4;obtain ⟨_,a9,_,_,_,a10,_⟩:=rd c24;obtain ⟨_,b9,_,_,_,b10,_⟩:=rz c24
 cases zOp (vaB r) with
 | false=>exact ⟨H4,rfl,cc.trans c24⟩
 | true=>
 simp only [cond_true,Bool.true_and,a9,b9,bA,vA];show ∃ h',(bif zI (vaO r) then _ else some (false,H4))=_/\_
 cases zI (vaO r) with
 | false=>exact ⟨H4,rfl,cc.trans c24⟩
 | true=>
 simp only [cond_true,Bool.true_and];rw [a10,b10,jH,jH];obtain ⟨H5,e5,c5⟩:=nAg (N:=N) hN (vaP r) H4;show ∃ h',(mA (f164 N (vaP r) ([],zs,()) H4) _)=_/\_;rw [e5,aA];have c25:=c24.trans c5;obtain ⟨_,_,a12,_,_,_,a13,a14⟩:=rd c25;obtain ⟨_,_,b12,_,_,_,b13,b14⟩:=rz c25
 cases zLf (vaP r) with
 | false=>exact ⟨H5,rfl,cc.trans c25⟩
 | true=>
 simp only [cond_true,Bool.true_and,a12,b12,a13,b13,bA,kA,jA];show ∃ h',(bif zB (vaN r) then (mA (f106 N (vaS r) zs H5) _) else some (false,H5))=_/\_;rw [aAo hN,aA];simp only [a14,b14,bA,jA];show ∃ h',(bif zB (vaN r) then (bif zN (vaS r) then (mA (uG N (vaG r) zs () H5) _) else some (false,H5)) else some (false,H5))=_/\_;rw [tB5 hN,aA];refine ⟨H5,?_,cc.trans c25⟩
 grind
theorem kAu (hN:1<=N) {M:Nat} (hM:2<=M) (s:SL) (h:Heap):rF N M s zs () h=some (zN s,h):=by
 obtain ⟨M,rfl⟩:∃ m,M=m+2:=⟨M-2,by omega⟩;obtain ⟨N,rfl⟩:∃ m,N=m+1:=⟨N-1,by omega⟩;rw [bL];unfold wJ;rw [bA3];unfold rR;show mA (bif !zN s then _ else _) _=_
 cases hq:zN s with
 | false=>rfl
 | true=>
  have:=iF.1 hq
  simp only [Bool.not_true,cond_false];rw [rT];unfold aL;rw [this];rfl
def zSq (r:SmR):Bool:=zI r.k&&(zI r.at_&&(!r.m&&(zB r.nm&&(!r.has&&(zTy r.ty&&(zLf r.pl&&(zVb r.va&&(zOp r.co&&(zN r.th&&zN r.el)))))))))
theorem uB5 (hN:4<=N) (r:SmR) (h:Heap):∃ h',f114 N N (smv r) (smv (mE 0)) h=some (zSq r,h')/\Chg [] h h':=by
 obtain ⟨M,rfl⟩:∃ m,N=m+1:=⟨N-1,by omega⟩;rw [cX];unfold bA8;generalize hNN:M+1=N at *;have o:=wA h (smc r);have c:=tA h (.row (smc r) .own);have e1:h.push (.row (yRA (smv r)) .own)=h.push (.row (smc r) .own):=rfl;dsimp only;rw [e1];generalize h.push (.row (smc r) .own)=H at *;have o2:=wA H (smc (mE 0));have c2:=tA H (.row (smc (mE 0)) .own);have e2:H.push (.row (yRA (smv (mE 0))) .own)=H.push (.row (smc (mE 0)) .own):=rfl;rw [e2];have o1:=o.chg c2 (by simp);generalize H.push (.row (smc (mE 0)) .own)=H2 at *;have cc:=c.trans c2;have rd:∀ {G:Heap},Chg [] H2 G->G.cells (h.next,4) 4=some (.agg (tyc r.ty))/\G.cells (h.next,9) 2=some (.agg (lfc r.pl))/\G.cells (h.next,11) 15=some (.agg (vac r.va))/\G.cells (h.next,26) 4=some (.agg (opc r.co))/\G.cell (h.next,30)=some (yL r.th)/\G.cell (h.next,31)=some (yL r.el):=fun cg=>by
  have o:=o1.chg cg (by simp);exact ⟨o.cells (j:=4) (m:=4) (show 4+4<=32 by decide),o.cells (j:=9) (m:=2) (show 9+2<=32 by decide),o.cells (j:=11) (m:=15) (show 11+15<=32 by decide),o.cells (j:=26) (m:=4) (show 26+4<=32 by decide),o.cell 30,o.cell 31⟩
 have rz:∀ {G:Heap},Chg [] H2 G->G.cells (H.next,4) 4=some (.agg (tyc yW))/\G.cells (H.next,9) 2=some (.agg (lfc lf0))/\G.cells (H.next,11) 15=some (.agg (vac va0))/\G.cells (H.next,26) 4=some (.agg (opc dF))/\G.cell (H.next,30)=some (.slice none 0 0 0)/\G.cell (H.next,31)=some (.slice none 0 0 0):=fun cg=>by
  have o:=o2.chg cg (by simp);exact ⟨o.cells (j:=4) (m:=4) (show 4+4<=32 by decide),o.cells (j:=9) (m:=2) (show 9+2<=32 by decide),o.cells (j:=11) (m:=15) (show 11+15<=32 by decide),o.cells (j:=26) (m:=4) (show 26+4<=32 by decide),o.cell 30,o.cell 31⟩
 have a0:H2.cell (h.next,0)=some (.int .i64 r.k):=o1.cell 0;have a1:H2.cell (h.next,1)=some (.int .i64 r.at_):=o1.cell 1;have a2:H2.cell (h.next,2)=some (.bool r.m):=o1.cell 2;have a3:H2.cell (h.next,3)=some (.str r.nm):=o1.cell 3;have a8:H2.cell (h.next,8)=some (.bool r.has):=o1.cell 8;have b0:H2.cell (H.next,0)=some (.int .i64 0):=o2.cell 0;have b1:H2.cell (H.next,1)=some (.int .i64 0):=o2.cell 1;have b2:H2.cell (H.next,2)=some (.bool false):=o2.cell 2;have b3:H2.cell (H.next,3)=some (.str []):=o2.cell 3;have b8:H2.cell (H.next,8)=some (.bool false):=o2.cell 8;have bbn:∀ b:Bool,(bif b then false else !false) = !b:=fun b=>by cases b <;> rfl
 simp only [Nat.zero_add,a0,a1,a2,a3,a8,b0,b1,b2,b3,b8,bA,vA,uB,kA];unfold zSq;show ∃ h',(bif zI r.k then (bif zI r.at_ then _ else some (false,H2)) else some (false,H2))=_/\_
 cases zI r.k with
 | false=>exact ⟨H2,rfl,cc⟩
 | true=>
 cases zI r.at_ with
 | false=>exact ⟨H2,rfl,cc⟩
 | true=>
 cases r.m with
 | true=>exact ⟨H2,rfl,cc⟩
 | false=>
 show ∃ h',(bif zB r.nm then _ else some (false,H2))=_/\_
 cases zB r.nm with
 | false=>exact ⟨H2,rfl,cc⟩
 | true=>
 cases r.has with
 | true=>exact ⟨H2,rfl,cc⟩
 | false=>
 obtain ⟨a4,_⟩:=rd (Chg.refl _ _);obtain ⟨b4,_⟩:=rz (Chg.refl _ _);simp only [cond_true,cond_false,Bool.not_false,Bool.true_and];rw [a4,b4,vJ,vJ];obtain ⟨H3,e3,c3⟩:=rB5 (N:=N) (by omega) (M:=N) (by omega) r.ty H2;show ∃ h',(mA (f112 N N r.ty (0,[],zs,zs,()) H2) _)=_/\_;rw [e3,aA];obtain ⟨_,a9,_⟩:=rd c3;obtain ⟨_,b9,_⟩:=rz c3
 cases zTy r.ty with
 | false=>exact ⟨H3,rfl,cc.trans c3⟩
 | true=>
 simp only [cond_true,Bool.true_and];rw [a9,b9,jH,jH];obtain ⟨H4,e4,c4⟩:=nAg (N:=N) (by omega) r.pl H3;show ∃ h',(mA (f164 N r.pl ([],zs,()) H3) _)=_/\_;rw [e4,aA];have c24:=c3.trans c4;obtain ⟨_,_,a11,_⟩:=rd c24;obtain ⟨_,_,b11,_⟩:=rz c24
 cases zLf r.pl with
 | false=>exact ⟨H4,rfl,cc.trans c24⟩
 | true=>
 simp only [cond_true,Bool.true_and];rw [a11,b11,pN,pN];obtain ⟨H5,e5,c5⟩:=jAu (N:=N) (by omega) r.va H4;show ∃ h',(mA (f165 N r.va (0,0,0,[],zs,0,0,[],zs,0,[],zs,[],zs,zs,()) H4) _)=_/\_;rw [e5,aA];have c25:=c24.trans c5;obtain ⟨_,_,_,a26,_⟩:=rd c25;obtain ⟨_,_,_,b26,_⟩:=rz c25
 cases zVb r.va with
 | false=>exact ⟨H5,rfl,cc.trans c25⟩
 | true=>
 simp only [cond_true,Bool.true_and];rw [a26,b26,dH,dH];obtain ⟨H6,e6,c6⟩:=bAo (N:=N) (by omega) r.co H5;show ∃ h',(mA (f166 N r.co (0,0,[],zs,()) H5) _)=_/\_;rw [e6,aA];have c26:=c25.trans c6;obtain ⟨_,_,_,_,a30,a31⟩:=rd c26;obtain ⟨_,_,_,_,b30,b31⟩:=rz c26
 cases zOp r.co with
 | false=>exact ⟨H6,rfl,cc.trans c26⟩
 | true=>
 simp only [cond_true,Bool.true_and,a30,b30,bA,jA];show ∃ h',(mA (rF N M r.th zs () H6) _)=_/\_;rw [kAu (by omega) (by omega),aA];simp only [a31,b31,bA,jA];show ∃ h',(bif zN r.th then (mA (rF N M r.el zs () H6) _) else some (false,H6))=_/\_;rw [kAu (by omega) (by omega),aA];refine ⟨H6,?_,cc.trans c26⟩;cases zN r.th <;> rfl
end
end Qp
namespace Qp
theorem gA1 {k o:Int} {ra rb:OpV} {rp:LfV} {nm:Bs} {s1 s2:SL} (h1:k=0) (h2:o=0) (h3:nm=[]) (h4:zOp ra=true) (h5:zOp rb=true) (h6:zLf rp=true) (h7:s1.len=0) (h8:s2.len=0):zVa (kE k ra rb o rp nm s1 s2)=true:=by
 unfold zVa;simp only [Bool.and_eq_true];exact ⟨mA4.2 h1,mA4.2 h2,tA8.2 h3,h4,h5,h6,iF.2 h7,iF.2 h8⟩
theorem eL {k op:Int} {a b pl:D} {nm:Bs} {ns:List Bs} {ag:List D} (h:mayVa (vaD k a b op pl nm (ns.map D.s) ag)) :
  ((k=1\/k=4)/\qC a/\b=op0/\op=0/\pl=pl0/\nm=[]/\ns=[]/\ag=[])\/((k=2\/k=3)/\a=op0/\b=op0/\op=0/\lH pl/\nm=[]/\ns=[]/\ag=[])\/
  (k=5/\qC a/\qC b/\(op=1\/op=2\/op=3\/op=4)/\pl=pl0/\nm=[]/\ns=[]/\ag=[])\/(k=6/\a=op0/\b=op0/\op=0/\pl=pl0/\nL nm/\ns=[]/\mJ 64 qC ag)\/
  (k=7/\a=op0/\b=op0/\op=0/\pl=pl0/\nL nm/\ns.length=ag.length/\(∀ x∈ns,eC x=true)/\mJ 64 qC ag):=by
 have inj:∀ {k k' op op':Int} {a a' b b' pl pl':D} {nm nm':Bs} {ns ns' ag ag':List D},vaD k a b op pl nm ns ag=vaD k' a' b' op' pl' nm' ns' ag'->k=k'/\a=a'/\b=b'/\op=op'/\pl=pl'/\nm=nm'/\ns=ns'/\ag=ag':=fun h=>by
  simp only [vaD,D.t.injEq,List.cons.injEq,D.i.injEq,D.s.injEq,D.l.injEq,and_true] at h;exact h
 generalize hd:vaD k a b op pl nm (ns.map D.s) ag=d at h
 cases h with
 | op h=>obtain ⟨rfl,rfl,rfl,rfl,rfl,rfl,h7,rfl⟩:=inj hd;exact .inl ⟨.inl rfl,h,rfl,rfl,rfl,rfl,List.map_eq_nil_iff.1 h7,rfl⟩
 | ref hk h=>obtain ⟨rfl,rfl,rfl,rfl,rfl,rfl,h7,rfl⟩:=inj hd;exact .inr (.inl ⟨hk,rfl,rfl,rfl,h,rfl,List.map_eq_nil_iff.1 h7,rfl⟩)
 | no h=>obtain ⟨rfl,rfl,rfl,rfl,rfl,rfl,h7,rfl⟩:=inj hd;exact .inl ⟨.inr rfl,h,rfl,rfl,rfl,rfl,List.map_eq_nil_iff.1 h7,rfl⟩
 | bin ha hb hk=>obtain ⟨rfl,rfl,rfl,rfl,rfl,rfl,h7,rfl⟩:=inj hd;exact .inr (.inr (.inl ⟨rfl,ha,hb,hk,rfl,rfl,List.map_eq_nil_iff.1 h7,rfl⟩))
 | call hn h=>obtain ⟨rfl,rfl,rfl,rfl,rfl,rfl,h7,rfl⟩:=inj hd;exact .inr (.inr (.inr (.inl ⟨rfl,rfl,rfl,rfl,rfl,hn,List.map_eq_nil_iff.1 h7,h⟩)))
 | make hn hl hs h=>obtain ⟨rfl,rfl,rfl,rfl,rfl,rfl,h7,rfl⟩:=inj hd;obtain rfl:=gAs h7;exact .inr (.inr (.inr (.inr ⟨rfl,rfl,rfl,rfl,rfl,hn,hl,hs,h⟩)))
theorem kM {k o:Int} {ra rb:OpV} {rp:LfV} {nm:Bs} {s1 s2:SL} (hz:zVa (kE k ra rb o rp nm s1 s2)=true):k=0/\o=0/\nm=[]/\zOp ra=true/\zOp rb=true/\zLf rp=true/\s1.len=0/\s2.len=0:=by
 unfold zVa at hz;simp only [Bool.and_eq_true] at hz;obtain ⟨h1,h2,h3,h4,h5,h6,h7,h8⟩:=hz;exact ⟨mA4.1 h1,mA4.1 h2,tA8.1 h3,h4,h5,h6,iF.1 h7,iF.1 h8⟩
section
variable {N:Nat} {h:Heap} {V:Nat->Prop}
theorem bAj (hN:200<=N) {P Q:Nat} {r:VaV} {ag:List D} (hg:∀ o∈ag,rOp o):∀ (M i:Nat) (v:Bool) (H:Heap),i<=ag.length->(v=true->ag.length<=64)->66-i<M->H.own P (vac r)->Sl H V (vaG r) ag->(v=true->∀ j,(hj:j<ag.length)->j<i->qC ag[j])->
  ∃ b H',fA4 N M (some (P,0)) (some (Q,0)) v (i:Int) H=some (.exit 1,(some (P,0),some (Q,0),b,()),H')/\Chg [] H H'/\(b=true↔v=true/\mJ 64 qC ag):=by
 intro M
 induction M with
 | zero=>grind
 | succ M ih=>
  intro i v H hi hv hM o x hp;rw [oA8];unfold mY;have a1:H.cell (P,14)=some (.slice (vaG r).a (vaG r).len (vaG r).cap (vaG r).sz):=o.cell 14;have hl:(vaG r).len=ag.length:=x.len;simp only [fA,Nat.zero_add,a1,bA,jA,fF,hl]
  by_cases q:i<ag.length
  ·simp only [q,decide_true,cond_true]
   cases v with
   | false=>
    simp only [cond_false];exact ⟨_,H,rfl,Chg.refl _ _,(fun h=>by cases h),fun h=>h.1⟩
   | true=>
    have h64:=hv rfl;simp only [cond_true];obtain ⟨ro,g,d⟩:=wAi.elt x q (hg _ (List.getElem_mem q));have hix:∀ {β:Type} (K:Nat×Nat->Option β),ixK (vaG r).a ag.length (i:Int) 4 K=K ((vaG r).at i 4):=fun K=>by rw [<- hl];exact x.ix q 4 K
    rw [hix,g,dH];obtain ⟨b,H3,e3,c3,hb⟩:=kN (N:=N) hN (hg _ (List.getElem_mem q)) d;have e3':f137 N ro H=some (b,H3):=e3;rw [e3',aA,aB (by omega)];obtain ⟨b',H4,e4,c4,h4⟩:=ih (i+1) b H3 q (fun _=>h64) (by omega) (o.chg c3 (by simp)) (x.chg c3 (by simp)) fun hbt j hj hji=>by
     grind
    exact ⟨b',H4,e4,c3.trans c4,(fun hbt=>⟨by trivial,(h4.1 hbt).2⟩),fun hh=>h4.2 ⟨hb.2 (hh.2.2 _ (List.getElem_mem q)),hh.2⟩⟩
  ·simp only [q,decide_false,cond_false]
   refine ⟨v,H,rfl,Chg.refl _ _,fun hvt=>⟨hvt,hv hvt,fun y hy=>?_⟩,fun h=>h.1⟩;obtain ⟨j,hj,rfl⟩:=List.getElem_of_mem hy
   grind
theorem dAd (hN:200<=N) {P Q:Nat} {r:VaV} {ns:List Bs}:∀ (M i:Nat) (v:Bool) (H:Heap),i<=ns.length->(v=true->ns.length<=64)->66-i<M->H.own P (vac r)->Sl H V (vaS r) (ns.map D.s)->(v=true->∀ j,(hj:j<ns.length)->j<i->eC ns[j]=true)->
  ∃ b H',eA4 N M (some (P,0)) (some (Q,0)) v (i:Int) H=some (.exit 3,(some (Q,0),b,()),H')/\Chg [] H H'/\(b=true↔v=true/\∀ x∈ns,eC x=true):=by
 intro M
 induction M with
 | zero=>grind
 | succ M ih=>
  intro i v H hi hv hM o x hp;rw [nA8];unfold lY;have a1:H.cell (P,13)=some (.slice (vaS r).a (vaS r).len (vaS r).cap (vaS r).sz):=o.cell 13;have hl:(vaS r).len=ns.length:=by rw [x.len,List.length_map]
  simp only [fA,Nat.zero_add,a1,bA,jA,fF,hl]
  by_cases q:i<ns.length
  ·simp only [q,decide_true,cond_true]
   cases v with
   | false=>
    simp only [cond_false];exact ⟨_,H,rfl,Chg.refl _ _,(fun h=>by cases h),fun h=>h.1⟩
   | true=>
    have h64:=hv rfl;simp only [cond_true];have hix:∀ {β:Type} (K:Nat×Nat->Option β),ixK (vaS r).a ns.length (i:Int) 1 K=K ((vaS r).at i 1):=fun K=>by rw [<- hl];exact x.ix (by grind) 1 K
    rw [hix,vE x q];simp only [bA,kA];obtain ⟨H3,e3,c3⟩:=pG (N:=N) (by omega) ns[i] H;rw [e3,aA,aB (by omega)];obtain ⟨b',H4,e4,c4,h4⟩:=ih (i+1) (eC ns[i]) H3 q (fun _=>h64) (by omega) (o.chg c3 (by simp)) (x.chg c3 (by simp)) fun hbt j hj hji=>by
     grind
    exact ⟨b',H4,e4,c3.trans c4,(fun hbt=>⟨by trivial,(h4.1 hbt).2⟩),fun hh=>h4.2 ⟨hh.2 _ (List.getElem_mem q),hh.2⟩⟩
  ·simp only [q,decide_false,cond_false]
   refine ⟨v,H,rfl,Chg.refl _ _,fun hvt=>⟨hvt,fun y hy=>?_⟩,fun h=>h.1⟩;obtain ⟨j,hj,rfl⟩:=List.getElem_of_mem hy
   grind
set_option maxHeartbeats 2000000 in
theorem pA4 (hN:200<=N) {d:D} (hd:rVa d) (hw:wtD d<N) {r:VaV} (x:Dt h V d (vac r)) (hwl:wtD d<=9223372036854775807):∃ b h',f136 N r h=some (b,h')/\Chg [] h h'/\(b=true↔mayVa d):=by
 obtain ⟨k,a,b,op,pl,nm,ns,ag,rfl,ta,tb,tp,tg⟩:=hd;have x:=Dt.weak (W:=fun A=>A<h.next) (fun A _ hl=>hl) x;obtain ⟨ra,rb,rp,s1,s2,hc,xa,xb,xp,y1,y2⟩:=oY ta tb tp x;obtain ⟨r',hr⟩:∃ r':VaV,r'=kE k ra rb op rp nm s1 s2:=⟨_,rfl⟩;obtain rfl:r=r':=by rw [hr];exact gF hc
 clear hc x
 unfold f136;have o:=wA h (vac r);have c:=tA h (.row (vac r) .own);have e1:h.push (.row (yRB r) .own)=h.push (.row (vac r) .own):=rfl;dsimp only;rw [e1];have xa:=Dt.chg c (by simp) xa;have xb:=Dt.chg c (by simp) xb;have xp:=Dt.chg c (by simp) xp;have y1:=y1.chg c (by simp);have y2:=y2.chg c (by simp);generalize h.push (.row (vac r) .own)=H1 at *;have aa:H1.cells (h.next,0) 15=some (.agg (vac r)):=o.cells (j:=0) (m:=15) (Nat.le_refl _);rw [aa,pN];have oz:=wA H1 (vac va0);have cz:=tA H1 (.row (vac va0) .own);have nz:(H1.push (.row (vac va0) .own)).next=H1.next+1:=rfl;have hst:(H1.push (.row (vac va0) .own)).store (H1.next,0) (vac r)=some ((H1.push (.row (vac va0) .own)).put H1.next (.row (vac r) .own)):=oz.store rfl;obtain ⟨H2,hH2⟩:∃ H2,H2=(H1.push (.row (vac va0) .own)).put H1.next (.row (vac r) .own):=⟨_,rfl⟩;have w:W1 H1 H2 (vac r):=by rw [hH2];exact ⟨kJ oz _,cz.put (.inr (Nat.le_refl _)) _,Nat.le_refl _⟩
 rw [<- hH2] at hst;have hz:∀ {β:Type} (K:Heap->Option β),bB ((H1.push (.row yZB .own)).store (H1.next,0) (yRB r)) K=K H2:=fun K=>by
  show bB ((H1.push (.row (vac va0) .own)).store (H1.next,0) (vac r)) K=_;rw [hst,fA]
 rw [hz]
 clear hz hst hH2 cz nz oz
 have hlt:h.next<H1.next:=o.2;have o2:=o.chg w.c (by simp);obtain ⟨H3,p3,w3,c3,n3⟩:=w.set (j:=0) (vs:=[(.int .i64 0)]) (show 0+1<=15 by decide) (ds:=vac (kE 0 ra rb op rp nm s1 s2)) (by rw [hr];rfl);simp only [Nat.add_zero];rw [p3];have oo:∀ {G:Heap} {cs:List AV},W1 H1 G cs->G.own h.next (vac r):=fun w=>o.chg w.c (by simp);have o3:=oo w3;have a0:H3.cell (h.next,0)=some (.int .i64 k):=by
  have:=o3.cell 0
  rw [hr] at this;exact this
 have rd1:∀ {G:Heap},G.own h.next (vac r)->G.cells (h.next,1) 4=some (.agg (opc ra)):=fun o=>by
  have:=o.cells (j:=1) (m:=4) (show 1+4<=15 by decide)
  rw [hr] at this;exact this
 have rd5:∀ {G:Heap},G.own h.next (vac r)->G.cells (h.next,5) 4=some (.agg (opc rb)):=fun o=>by
  have:=o.cells (j:=5) (m:=4) (show 5+4<=15 by decide)
  rw [hr] at this;exact this
 have rd9:∀ {G:Heap},G.own h.next (vac r)->G.cell (h.next,9)=some (.int .i64 op):=fun o=>by
  have:=o.cell 9
  rw [hr] at this;exact this
 have rd10:∀ {G:Heap},G.own h.next (vac r)->G.cells (h.next,10) 2=some (.agg (lfc rp)):=fun o=>by
  have:=o.cells (j:=10) (m:=2) (show 10+2<=15 by decide)
  rw [hr] at this;exact this
 have rd12:∀ {G:Heap},G.own h.next (vac r)->G.cell (h.next,12)=some (.str nm):=fun o=>by
  have:=o.cell 12
  rw [hr] at this;exact this
 have rd13:∀ {G:Heap},G.own h.next (vac r)->G.cell (h.next,13)=some (yL s1):=fun o=>by
  have:=o.cell 13
  rw [hr] at this;exact this
 have rd14:∀ {G:Heap},G.own h.next (vac r)->G.cell (h.next,14)=some (yL s2):=fun o=>by
  have:=o.cell 14
  rw [hr] at this;exact this
 have hS:vaS r=s1:=by rw [hr];rfl
 have hG:vaG r=s2:=by rw [hr];rfl
 have fin:∀ {H:Heap} {z:VaV} (ok:Bool),W1 H1 H (vac z)->∃ b h',(bif ok then dA (.val yV) (H.cells (H1.next,0) 15) fun x170=>mA (f181 N (tV x170) oV H) fun x1 h2=>some (x1,h2) else some (false,H))=some (b,h')/\Chg [] h h'/\(b=true↔ok=true/\zVa z=true):=by
  intro H z ok wz
  cases ok with
  | false=>exact ⟨_,H,rfl,c.trans wz.c,(fun h=>by cases h),fun h=>h.1⟩
  | true=>
   have ab:H.cells (H1.next,0) 15=some (.agg (vac z)):=wz.o.cells (j:=0) (m:=15) (Nat.le_refl _);rw [ab,pN];obtain ⟨h',e,c2⟩:=gAu (N:=N) (by omega) z H;have e':f181 N (tV z) oV H=some (zVa z,h'):=e;exact ⟨zVa z,h',by rw [cond_true,e'];rfl,(c.trans wz.c).trans c2,(fun hz=>⟨rfl,hz⟩),fun h=>h.2⟩
 have up:∀ {G:Heap} {cs:List AV} {d:D} {ds:List AV},W1 H1 G cs->Dt H1 (fun A=>A<h.next) d ds->Dt G (fun A=>A<h.next) d ds:=fun w y=>Dt.chg w.c (by simp) y;have upS:∀ {G:Heap} {cs:List AV} {l:List D} {s:SL},W1 H1 G cs->Sl H1 (fun A=>A<h.next) s l->Sl G (fun A=>A<h.next) s l:=fun w y=>y.chg w.c (by simp);have hns:(s1.len=0)->ns=[]:=fun h0=>by
  have:=y1.len
  grind
 have hag:(s2.len=0)->ag=[]:=fun h0=>by
  have:=y2.len
  grind
 simp only [bA,a0,vA];have wa:wtD a<=wtD (vaD k a b op pl nm (ns.map D.s) ag):=by simp only [vaD,wtD,wtL];omega
 have wn:nm.length<wtD (vaD k a b op pl nm (ns.map D.s) ag):=by simp only [vaD,wtD,wtL];omega
 have opn:(k=1\/k=4)->∃ b' h',(dA (.val zD) (H3.cells (h.next,1) 4) fun (x12:OpV)=>
   (mA (f137 N x12 H3) fun (x13:Bool) h14=>(bB (h14.store (H1.next,1) [(.int .i64 0),(.int .i64 0),(.str []),(.slice none 0 0 0)]) fun h16=>
   (bif x13 then dA (.val yV) (h16.cells (H1.next,0) 15) fun x170=>mA (f181 N (tV x170) oV h16) fun x1 h2=>some (x1,h2) else some (false,h16)))))=some (b',h')/\Chg [] h h'/\(b'=true↔mayVa (vaD k a b op pl nm (ns.map D.s) ag)):=by
  intro hk;rw [rd1 o3,dH];obtain ⟨q,H4,e4,c4,hq⟩:=kN (N:=N) hN ta (up w3 xa);have e4':f137 N ra H3=some (q,H4):=e4;rw [e4',aA];obtain ⟨H5,p5,w5,c5,n5⟩:=(w3.call c4).set (j:=1) (vs:=[(.int .i64 0),(.int .i64 0),(.str []),(.slice none 0 0 0)]) (show 1+4<=15 by decide) (ds:=vac (kE 0 dF rb op rp nm s1 s2)) rfl;rw [p5];obtain ⟨b',h',e,c',hb⟩:=fin q w5;refine ⟨b',h',e,c',fun ht=>?_,fun hm=>by
   rcases eL hm with ⟨_,m1,rfl,rfl,rfl,rfl,rfl,rfl⟩ | ⟨m0,_⟩ | ⟨m0,_⟩ | ⟨m0,_⟩ | ⟨m0,_⟩
   ·exact hb.2 ⟨hq.2 m1,gA1 rfl rfl rfl rfl (cK xb) (bK xp) y1.len y2.len⟩
   ·omega
   ·omega
   ·omega
   ·omega⟩
  obtain ⟨h1,h2⟩:=hb.1 ht;obtain ⟨_,z1,z2,_,z4,z5,z6,z7⟩:=kM h2;obtain rfl:=bE tb xb z4;obtain rfl:=lE tp xp z5;obtain rfl:=hns z6;obtain rfl:=hag z7;subst z1 z2;rcases hk with rfl | rfl
  ·exact mayVa.op (hq.1 h1)
  ·exact mayVa.no (hq.1 h1)
 by_cases k1:k=1
 ·have q1:eA k 1=true:=by rw [k1];rfl
  simp only [q1,cond_true,aA,fA,Nat.zero_add];exact opn (.inl k1)
 have q1:eA k 1=false:=by rw [eqI];grind
 by_cases k4:k=4
 ·have q4:eA k 4=true:=by rw [k4];rfl
  simp only [q1,q4,cond_true,cond_false,aA,fA,Nat.zero_add];exact opn (.inr k4)
 have q4:eA k 4=false:=by rw [eqI];grind
 have plc:(k=2\/k=3)->∃ b' h',(dA (.val zG) (H3.cells (h.next,10) 2) fun (x12:LfV)=>
   (mA (f135 N (x12.1,x12.2.1,()) H3) fun (x13:Bool) h14=>(bB (h14.store (H1.next,10) [(.str []),(.slice none 0 0 0)]) fun h16=>
   (bif x13 then dA (.val yV) (h16.cells (H1.next,0) 15) fun x170=>mA (f181 N (tV x170) oV h16) fun x1 h2=>some (x1,h2) else some (false,h16)))))=some (b',h')/\Chg [] h h'/\(b'=true↔mayVa (vaD k a b op pl nm (ns.map D.s) ag)):=by
  intro hk;rw [rd10 o3,jH];obtain ⟨q,H4,e4,c4,hq⟩:=uU (N:=N) hN tp (up w3 xp);have e4':f135 N (rp.1,rp.2.1,()) H3=some (q,H4):=e4;rw [e4',aA];obtain ⟨H5,p5,w5,c5,n5⟩:=(w3.call c4).set (j:=10) (vs:=[(.str []),(.slice none 0 0 0)]) (show 10+2<=15 by decide) (ds:=vac (kE 0 ra rb op lf0 nm s1 s2)) rfl;rw [p5];obtain ⟨b',h',e,c',hb⟩:=fin q w5;refine ⟨b',h',e,c',fun ht=>?_,fun hm=>by
   rcases eL hm with ⟨m0,_⟩ | ⟨_,rfl,rfl,rfl,m1,rfl,rfl,rfl⟩ | ⟨m0,_⟩ | ⟨m0,_⟩ | ⟨m0,_⟩
   ·omega
   ·exact hb.2 ⟨hq.2 m1,gA1 rfl rfl rfl (cK xa) (cK xb) rfl y1.len y2.len⟩
   ·omega
   ·omega
   ·omega⟩
  obtain ⟨h1,h2⟩:=hb.1 ht;obtain ⟨_,z1,z2,z3,z4,_,z6,z7⟩:=kM h2;obtain rfl:=bE ta xa z3;obtain rfl:=bE tb xb z4;obtain rfl:=hns z6;obtain rfl:=hag z7;subst z1 z2;exact mayVa.ref hk (hq.1 h1)
 by_cases k2:k=2
 ·have q2:eA k 2=true:=by rw [k2];rfl
  simp only [q1,q4,q2,cond_true,cond_false,aA,fA,Nat.zero_add];exact plc (.inl k2)
 have q2:eA k 2=false:=by rw [eqI];grind
 by_cases k3:k=3
 ·have q3:eA k 3=true:=by rw [k3];rfl
  simp only [q1,q4,q2,q3,cond_true,cond_false,aA,fA,Nat.zero_add];exact plc (.inr k3)
 have q3:eA k 3=false:=by rw [eqI];grind
 by_cases k5:k=5
 ·have q5:eA k 5=true:=by rw [k5];rfl
  simp only [q1,q2,q3,q4,q5,cond_true,cond_false,aA,fA,Nat.zero_add];have two:∃ ok H4,(dA (.val zD) (H3.cells (h.next,1) 4) fun (x37:OpV)=>mA (f137 N x37 H3) fun (x38:Bool) h39=>
    bif x38 then dA (.val zD) (h39.cells (h.next,5) 4) fun (x41:OpV)=>mA (f137 N x41 h39) fun (x42:Bool) h43=>
     bif x42 then dA (.val zO2) (h43.cell (h.next,9)) fun (x45:Int)=>bif wB 1 x45 then dA (.val zO2) (h43.cell (h.next,9)) fun (x48:Int)=>some (((some (H1.next,0),wB x48 4,()):zJ2×Bool×Unit),h43)
      else some ((some (H1.next,0),false,()),h43)
     else some ((some (H1.next,0),false,()),h43)
    else some ((some (H1.next,0),false,()),h39))=some ((some (H1.next,0),ok,()),H4)/\Chg [] H3 H4/\(ok=true↔qC a/\qC b/\1<=op/\op<=4):=by
   rw [rd1 o3,dH];obtain ⟨u1,H4,e4,c4,hu1⟩:=kN (N:=N) hN ta (up w3 xa);have e4':f137 N ra H3=some (u1,H4):=e4;rw [e4',aA]
   cases u1 with
   | false=>grind
   | true=>
    have w4:=w3.call c4;simp only [cond_true];rw [rd5 (oo w4),dH];obtain ⟨u2,H5,e5,c5,hu2⟩:=kN (N:=N) hN tb (up w4 xb);have e5':f137 N rb H4=some (u2,H5):=e5;rw [e5',aA];have c45:=c4.trans c5
    cases u2 with
    | false=>grind
    | true=>
     simp only [cond_true,rd9 (oo (w4.call c5)),bA,vA]
     cases z:wB 1 op with
     | false=>exact ⟨_,H5,rfl,c45,(fun h=>by cases h),fun h=>by
      grind [leI,decide_eq_false_iff_not]⟩
     | true=>
      rw [leI,decide_eq_true_eq] at z;refine ⟨_,H5,rfl,c45,fun hz=>⟨hu1.1 rfl,hu2.1 rfl,z,?_⟩,fun h=>by rw [leI,decide_eq_true_eq];omega⟩;rw [leI,decide_eq_true_eq] at hz;exact hz
  obtain ⟨ok,H4,e4,c4,hok⟩:=two;rw [e4,aA];obtain ⟨H5,p5,w5,c5,n5⟩:=(w3.call c4).set (j:=1) (vs:=[(.int .i64 0),(.int .i64 0),(.str []),(.slice none 0 0 0)]) (show 1+4<=15 by decide) (ds:=vac (kE 0 dF rb op rp nm s1 s2)) rfl;obtain ⟨H6,p6,w6,c6,n6⟩:=w5.set (j:=5) (vs:=[(.int .i64 0),(.int .i64 0),(.str []),(.slice none 0 0 0)]) (show 5+4<=15 by decide) (ds:=vac (kE 0 dF dF op rp nm s1 s2)) rfl;obtain ⟨H7,p7,w7,c7,n7⟩:=w6.set (j:=9) (vs:=[(.int .i64 0)]) (show 9+1<=15 by decide) (ds:=vac (kE 0 dF dF 0 rp nm s1 s2)) rfl;simp only [fA,Nat.zero_add];rw [p5,p6,p7];obtain ⟨b',h',e,c',hb⟩:=fin ok w7;refine ⟨b',h',e,c',fun ht=>?_,fun hm=>by
   rcases eL hm with ⟨m0,_⟩ | ⟨m0,_⟩ | ⟨_,m1,m2,m3,rfl,rfl,rfl,rfl⟩ | ⟨m0,_⟩ | ⟨m0,_⟩
   ·omega
   ·omega
   ·exact hb.2 ⟨hok.2 ⟨m1,m2,by omega,by omega⟩,gA1 rfl rfl rfl rfl rfl (bK xp) y1.len y2.len⟩
   ·omega
   ·omega⟩
  obtain ⟨h1,h2⟩:=hb.1 ht;obtain ⟨_,_,z2,_,_,z5,z6,z7⟩:=kM h2;obtain ⟨m1,m2,m3,m4⟩:=hok.1 h1;obtain rfl:=lE tp xp z5;obtain rfl:=hns z6;obtain rfl:=hag z7;subst z2 k5;exact mayVa.bin m1 m2 (by omega)
 have q5:eA k 5=false:=by rw [eqI];grind
 have one:∃ ok H4,(dA (.val zM2) (H3.cell (h.next,12)) fun (x67:Bs)=>mA (f51 N x67 H3) fun (x68:Bool) h69=>bif x68 then dA (.val zL2) (h69.cell (h.next,14)) fun (x71:SL)=>some (((some (h.next,0),some (H1.next,0),wB (Int.ofNat x71.len) 64,()):zJ2×zJ2×Bool×Unit),h69)
   else some ((some (h.next,0),some (H1.next,0),false,()),h69))=some ((some (h.next,0),some (H1.next,0),ok,()),H4)/\Chg [] H3 H4/\(ok=true↔nL nm/\ag.length<=64):=by
  simp only [rd12 o3,bA,kA];obtain ⟨u,H4,e4,c4,hu⟩:=qAy (N:=N) (by omega) (s:=nm) (by omega) (by omega) H3;rw [e4,aA]
  cases u with
  | false=>grind
  | true=>
   simp only [cond_true,rd14 (oo (w3.call c4)),bA,jA];have z:wB (Int.ofNat s2.len) 64=decide (ag.length<=64):=by rw [y2.len];exact lL _ 64
   grind
 by_cases k67:k=6\/k=7
 ·obtain ⟨ok,H4,e4,c4,hok⟩:=one
  have w4:=w3.call c4;obtain ⟨b2,H5,e5,c5,h5⟩:=bAj (N:=N) hN (P:=h.next) (Q:=H1.next) (r:=r) tg N 0 ok H4 (Nat.zero_le _) (fun h=>(hok.1 h).2) (by omega) (oo w4) (by rw [hG];exact upS w4 y2) (fun _ j _ h=>by omega);rw [show ((0:Nat):Int)=0 from rfl] at e5;have w5:=w4.call c5;rcases k67 with k6 | k7
  ·have q6:eA k 6=true:=by rw [k6];rfl
   have q7:eA k 7=false:=by rw [k6];rfl
   simp only [q1,q2,q3,q4,q5,q6,cond_true,cond_false,aA,fA,Nat.zero_add];rw [e4,aA];dsimp only;rw [e5,kB];have a0':H5.cell (h.next,0)=some (.int .i64 k):=by
    have:=(oo w5).cell 0
    rw [hr] at this;exact this
   simp only [fA,Nat.zero_add,a0',bA,vA,q7,cond_false,aA];obtain ⟨H6,p6,w6,c6,n6⟩:=w5.set (j:=12) (vs:=[(.str [])]) (show 12+1<=15 by decide) (ds:=vac (kE 0 ra rb op rp [] s1 s2)) rfl;obtain ⟨H7,p7,w7,c7,n7⟩:=w6.set (j:=14) (vs:=[(.slice none 0 0 0)]) (show 14+1<=15 by decide) (ds:=vac (kE 0 ra rb op rp [] s1 sl0)) rfl;rw [p6,p7];obtain ⟨b',h',e,c',hb⟩:=fin b2 w7;refine ⟨b',h',e,c',fun ht=>?_,fun hm=>by
    rcases eL hm with ⟨m0,_⟩ | ⟨m0,_⟩ | ⟨m0,_⟩ | ⟨_,rfl,rfl,rfl,rfl,m1,rfl,m2⟩ | ⟨m0,_⟩
    ·omega
    ·omega
    ·omega
    ·exact hb.2 ⟨h5.2 ⟨hok.2 ⟨m1,m2.1⟩,m2⟩,gA1 rfl rfl rfl (cK xa) (cK xb) (bK xp) y1.len rfl⟩
    ·omega⟩
   obtain ⟨h1,h2⟩:=hb.1 ht;obtain ⟨_,z1,_,z3,z4,z5,z6,_⟩:=kM h2;obtain ⟨m1,m2⟩:=h5.1 h1;obtain rfl:=bE ta xa z3;obtain rfl:=bE tb xb z4;obtain rfl:=lE tp xp z5;obtain rfl:=hns z6;subst z1 k6;exact mayVa.call (hok.1 m1).1 m2
  ·have q6:eA k 6=false:=by rw [k7];rfl
   have q7:eA k 7=true:=by rw [k7];rfl
   simp only [q1,q2,q3,q4,q5,q6,q7,cond_true,cond_false,aA,fA,Nat.zero_add];rw [e4,aA];dsimp only;rw [e5,kB];have a0':H5.cell (h.next,0)=some (.int .i64 k):=by
    have:=(oo w5).cell 0
    rw [hr] at this;exact this
   simp only [fA,Nat.zero_add,a0',bA,vA,q7,cond_true,rd13 (oo w5),rd14 (oo w5),jA];have l1:s1.len=ns.length:=by rw [y1.len,List.length_map]
   have l2:s2.len=ag.length:=y2.len;have cnt:∃ b3,(bif b2 then some (((some (h.next,0),some (H1.next,0),eA (Int.ofNat s1.len) (Int.ofNat s2.len),()):zJ2×zJ2×Bool×Unit),H5) else some ((some (h.next,0),some (H1.next,0),false,()),H5))=some ((some (h.next,0),some (H1.next,0),b3,()),H5)/\(b3=true↔b2=true/\ns.length=ag.length):=by
    cases b2 with
    | false=>grind
    | true=>
     refine ⟨_,rfl,fun hz=>⟨rfl,?_⟩,fun h=>by rw [eqI,decide_eq_true_eq,l1,l2,h.2]⟩;rw [eqI,decide_eq_true_eq,l1,l2] at hz;exact Int.ofNat.inj hz
   obtain ⟨b3,e3,h3⟩:=cnt;rw [e3,aA];dsimp only;obtain ⟨b4,H6,e6,c6,h6⟩:=dAd (N:=N) hN (P:=h.next) (Q:=H1.next) (r:=r) (ns:=ns) N 0 b3 H5 (Nat.zero_le _) (fun h=>by
    grind) (by omega) (oo w5) (by rw [hS];exact upS w5 y1) (fun _ j _ h=>by omega)
   rw [show ((0:Nat):Int)=0 from rfl] at e6;rw [e6,kB];obtain ⟨H7,p7,w7,c7,n7⟩:=(w5.call c6).set (j:=13) (vs:=[(.slice none 0 0 0)]) (show 13+1<=15 by decide) (ds:=vac (kE 0 ra rb op rp nm sl0 s2)) rfl;obtain ⟨H8,p8,w8,c8,n8⟩:=w7.set (j:=12) (vs:=[(.str [])]) (show 12+1<=15 by decide) (ds:=vac (kE 0 ra rb op rp [] sl0 s2)) rfl;obtain ⟨H9,p9,w9,c9,n9⟩:=w8.set (j:=14) (vs:=[(.slice none 0 0 0)]) (show 14+1<=15 by decide) (ds:=vac (kE 0 ra rb op rp [] sl0 sl0)) rfl;simp only [fA,Nat.zero_add];rw [p7];simp only [aA,fA,Nat.zero_add];rw [p8,p9];obtain ⟨b',h',e,c',hb⟩:=fin b4 w9;refine ⟨b',h',e,c',fun ht=>?_,fun hm=>by
    rcases eL hm with ⟨m0,_⟩ | ⟨m0,_⟩ | ⟨m0,_⟩ | ⟨m0,_⟩ | ⟨_,rfl,rfl,rfl,rfl,m1,m2,m3,m4⟩
    ·omega
    ·omega
    ·omega
    ·omega
    ·exact hb.2 ⟨h6.2 ⟨h3.2 ⟨h5.2 ⟨hok.2 ⟨m1,m4.1⟩,m4⟩,m2⟩,m3⟩,gA1 rfl rfl rfl (cK xa) (cK xb) (bK xp) rfl rfl⟩⟩
   obtain ⟨h1,h2⟩:=hb.1 ht;obtain ⟨_,z1,_,z3,z4,z5,_,_⟩:=kM h2;obtain ⟨m1,m2⟩:=h6.1 h1;obtain ⟨m3,m4⟩:=h3.1 m1;obtain ⟨m5,m6⟩:=h5.1 m3;obtain rfl:=bE ta xa z3;obtain rfl:=bE tb xb z4;obtain rfl:=lE tp xp z5;subst z1 k7;exact mayVa.make (hok.1 m5).1 m4 m2 m6
 have q6:eA k 6=false:=by grind [eqI,decide_eq_false]
 have q7:eA k 7=false:=by grind [eqI,decide_eq_false]
 simp only [q1,q2,q3,q4,q5,q6,q7,cond_false,aA,fA,Nat.zero_add];exact ⟨_,H3,rfl,c.trans w3.c,(fun h=>by cases h),fun h=>by
  rcases eL h with ⟨m0,_⟩ | ⟨m0,_⟩ | ⟨m0,_⟩ | ⟨m0,_⟩ | ⟨m0,_⟩ <;> omega⟩
end
end Qp
namespace Qp
theorem lI {l:List D} {x:D} (h:x∈l):wtD x<=wtL l:=kAm h
theorem nC:∀ (l:List D),l.length<=wtL l
 | []=>Nat.le_refl _
 | x::r=>by
  have:=nC r
  have h1:1<=wtD x:=by cases x <;> simp [wtD]
  grind [wtL,List.length_cons]
section
variable {N:Nat} {h:Heap} {V:Nat->Prop}
theorem wA8 (hN:200<=N) {mu:Bool} {xs:List D} (hx:∀ x∈xs,rFd x) (hw:wtL xs<N) (hl:wtL xs<=9223372036854775807) {s:SL}:∀ (M i:Nat) (h:Heap),i<=xs.length->i<=65->65-i<M->Sl h V s xs->(∀ j,(hj:j<xs.length)->j<i->wE mu xs[j])->
  ∃ o b h',eA1 N M s mu false (i:Int) h=some (o,(s,b,()),h')/\Chg [] h h'/\((o=.exit 0/\(xs.length<=64->∀ y∈xs,wE mu y))\/(o=.ret/\b=false/\¬ ∀ y∈xs,wE mu y)):=by
 intro M
 induction M with
 | zero=>intro i h _ _ h;omega
 | succ M ih=>
  intro i h hi h65 hM x hp;rw [pAc];unfold dA4;have hv:s.len=xs.length:=x.len;have z:ltInt (i:Int) 65=decide (i<65):=rB i 65;have done:¬ i<xs.length\/¬ i<65->xs.length<=64->∀ y∈xs,wE mu y:=fun hd hl y hy=>by
   obtain ⟨j,hj,rfl⟩:=List.getElem_of_mem hy
   grind
  simp only [fF,hv,z]
  by_cases q:i<xs.length
  ·by_cases q2:i<65
   ·simp only [q,q2,decide_true,cond_true]
    have hix:∀ {G:Heap} {β:Type} (K:Nat×Nat->Option β),Sl G V s xs->ixK s.a xs.length (i:Int) 6 K=K (s.at i 6):=fun K x=>by rw [<- x.len];exact x.ix q 6 K
    have rdF:∀ {G:Heap},Sl G V s xs->∃ (m:Bool) (nm:Bs) (ty:D) (r:TyV),xs[i]=fdD m nm ty/\Wt Tryz.prog ty 41/\G.cell ((s.at i 6).1,(s.at i 6).2+0)=some (.bool m)/\G.cell ((s.at i 6).1,(s.at i 6).2+1)=some (.str nm)/\G.cells ((s.at i 6).1,(s.at i 6).2+2) 4=some (.agg (tyc r))/\Dt G V ty (tyc r):=by
     intro G x;obtain ⟨cs,e⟩:=x.elt q;obtain ⟨m,nm,ty,h1,h2,h3⟩:=hx _ (List.getElem_mem q);have hd:=e.dt;rw [h1] at hd;obtain ⟨r,hc,hd⟩:=uAn h2 hd;have hz:s.sz=6:=by rw [<- e.len,hc];rfl
     refine ⟨m,nm,ty,r,h1,h3,?_,?_,?_,hd⟩
     ·have:=e.cell 0 (by rw [hz];decide)
      rw [hz,hc] at this;exact this
     ·have:=e.cell 1 (by rw [hz];decide)
      rw [hz,hc] at this;exact this
     ·have:=e.cells 2 4 (by rw [hz];decide)
      rw [hz,hc] at this;exact this
    obtain ⟨m,nm,ty,r,hxi,hwt,a0,a1,_,_⟩:=rdF x;have inv:(∀ y∈xs,wE mu y)->(m=true->mu=true)/\eC nm=true/\dG 64 ty:=fun hall=>by
     obtain ⟨m',nm',ty',e,h1,h2,h3⟩:=hall _ (List.getElem_mem q);rw [hxi] at e;simp only [fdD,D.t.injEq,List.cons.injEq,D.b.injEq,D.s.injEq,and_true] at e
     grind
    rw [hix _ x,a0];simp only [bA,uB];rw [show (fdD m nm ty:D)=fdD m nm ty from rfl] at hxi;have nxt:∀ (G:Heap),Chg [] h G->wE mu xs[i]->∃ o b h',eA1 N M s mu false (jB .i64 ((i:Int)+1)) G=some (o,(s,b,()),h')/\Chg [] h h'/\((o=.exit 0/\(xs.length<=64->∀ y∈xs,wE mu y))\/(o=.ret/\b=false/\¬ ∀ y∈xs,wE mu y)):=by
     intro G cG hm;rw [aB (by omega)];obtain ⟨o,b,h',e,c',hh⟩:=ih (i+1) G q (by omega) (by omega) (x.chg cG (by simp)) fun j hj hji=>by
      grind
     exact ⟨o,b,h',e,cG.trans c',hh⟩
    have rest:(m=true->mu=true)->∃ o b h',(ixK s.a xs.length (i:Int) 6 fun q17=>(dA (.val zM2) (h.cell (q17.1,q17.2+1)) fun (x18:Bs)=>(mA (f46 N x18 h) fun (x19:Bool) h20=>
      (bif !x19 then some (Out.ret,(s,false,()),h20) else
      (ixK s.a xs.length (i:Int) 6 fun q22=>(dA (.val zE) (h20.cells (q22.1,q22.2+2) 4) fun (x23:TyV)=>
      (mA (f21 N N x23 1 h20) fun (x24:Bool) h25=>
      (bif !x24 then some (Out.ret,(s,false,()),h25) else eA1 N M s mu false (jB .i64 ((i:Int)+1)) h25))))))))=some (o,(s,b,()),h')/\Chg [] h h'/\((o=.exit 0/\(xs.length<=64->∀ y∈xs,wE mu y))\/(o=.ret/\b=false/\¬ ∀ y∈xs,wE mu y)):=by
     intro hmu;rw [hix _ x,a1];simp only [bA,kA];obtain ⟨h8,e8,c8⟩:=pG (N:=N) (by omega) nm h;rw [e8,aA]
     cases hn:eC nm with
     | false=>
      simp only [Bool.not_false,cond_true]
      grind
     | true=>
      simp only [Bool.not_true,cond_false];have x8:=x.chg c8 (by simp);obtain ⟨m',nm',ty',r',hxi',hwt',_,_,a2,d2⟩:=rdF x8;rw [hxi] at hxi';simp only [fdD,D.t.injEq,List.cons.injEq,and_true] at hxi';obtain ⟨_,_,rfl⟩:=hxi';rw [hix _ x8,a2,vJ];have wt:wtD ty<=wtL xs:=by
       have h1:=lI (List.getElem_mem q)
       grind [fdD,wtD,wtL]
      obtain ⟨b,h9,e9,c9,h9b⟩:=cAd (N:=N) hN (by omega) hwt d2;have e9':f21 N N r' 1 h8=some (b,h9):=e9;rw [e9',aA];have c89:=c8.trans c9
      cases b with
      | false=>
       simp only [Bool.not_false,cond_true]
       grind
      | true=>
       simp only [Bool.not_true,cond_false];exact nxt h9 c89 (by rw [hxi];exact ⟨m,nm,ty,rfl,hmu,hn,h9b.1 rfl⟩)
    cases m with
    | false=>
     grind
    | true=>
     simp only [cond_true]
     cases mu with
     | false=>
      simp only [Bool.not_false,cond_true];exact ⟨_,_,h,rfl,Chg.refl _ _,.inr ⟨rfl,rfl,fun ha=>by
       grind⟩⟩
     | true=>
      grind
   ·simp only [q,q2,decide_true,decide_false,cond_true,cond_false]
    exact ⟨_,_,_,rfl,Chg.refl _ _,.inl ⟨rfl,done (.inr q2)⟩⟩
  ·simp only [q,decide_false,cond_false]
   exact ⟨_,_,_,rfl,Chg.refl _ _,.inl ⟨rfl,done (.inl q)⟩⟩
theorem cAo (hN:200<=N) {mu:Bool} {xs:List D} (hx:∀ x∈xs,rFd x) (hw:wtL xs<N) (hl:wtL xs<=9223372036854775807) {s:SL} (x:Sl h V s xs):∃ b h',f48 N s mu h=some (b,h')/\Chg [] h h'/\(b=true↔mJ 64 (wE mu) xs):=by
 unfold f48;obtain ⟨o,b,h',e,c,hh⟩:=wA8 (N:=N) hN (mu:=mu) hx hw hl N 0 h (Nat.zero_le _) (by omega) (by omega) x fun j _ h=>by omega
 rw [show ((0:Nat):Int)=0 from rfl] at e;rw [e,kB];rcases hh with ⟨rfl,hh⟩ | ⟨rfl,rfl,hno⟩
 ·simp only [bC,decide_true,cond_true]
  have z:wB (Int.ofNat s.len) 64=decide (xs.length<=64):=by rw [x.len];exact lL _ 64
  rw [z];exact ⟨_,h',rfl,c,(fun hd=>⟨of_decide_eq_true hd,hh (of_decide_eq_true hd)⟩),fun h=>decide_eq_true h.1⟩
 ·simp only [oF,cond_false]
  exact ⟨_,h',rfl,c,(fun h=>by cases h),fun h=>absurd h.2 hno⟩
end
end Qp
end Go.Proofs.YtkcjphhjmlienaaGreatDoor
