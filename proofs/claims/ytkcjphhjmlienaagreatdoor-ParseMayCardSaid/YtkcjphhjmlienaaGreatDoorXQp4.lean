import Derived.Test.YtkcjphhjmlienaaGreatDoorXQp3
import Derived.Test.YtkcjphhjmlienaaGreatDoorXQp2
import Derived.Test.YtkcjphhjmlienaaGreatDoorAi3
import Derived.Test.YtkcjphhjmlienaaGreatDoorRows
import Derived.LaidMore
import Derived.LaidHandle
import Derived.Stop.LaidErr
/- Functions of the program as plain functions, and what they come to; part 4. -/
namespace Go.Proofs.YtkcjphhjmlienaaGreatDoor
set_option linter.unusedVariables false
set_option linter.unusedSimpArgs false
open Go Ai Go.Proofs
namespace Qp
theorem qBf:AppN E 63 3 1 100:=AppN.of (by kernel_rfl)
theorem tA4 {h0 H:Heap} {M:List Nat} {v:SL} {xs:List Int} (c:Chg M h0 H) (x:Ow h0.next H v 1 (xs.map D.i)) (hl:xs.length≤2000000) (t:Int) :
  ∃ v' H',(∀ {β:Type} (K:SL→Heap→Option β),fG (.val zV2) (pC E 63 63 (.slice v.a v.len v.cap v.sz) (.slice (some (H.next,0)) 1 1 1) (H.push (.row [(.int .i64 t)] .own))) K=K v' H')∧Ow h0.next H' v' 1 ((xs++[t]).map D.i)∧Chg v.blk.toList H H':=by
 obtain ⟨s',h',e,o,c',_⟩:=wS (cs:=[AV.int .i64 t]) qBf (by decide) x (jAl H _ t) rfl c.next (by rw [List.length_map];omega);refine ⟨s',h',fun K=>?_,?_,c'⟩
 ·have e':pC E 63 63 (.slice v.a v.len v.cap v.sz) (.slice (some (H.next,0)) 1 1 1) (H.push (.row [(.int .i64 t)] .own))=some (.slice s'.a s'.len s'.cap s'.sz,h'):=e
  rw [e'];simp only [aG,qA]
 ·rw [List.map_append];exact o
theorem uBb {h:Heap} {V:Nat→Prop} {v:SL} {xs:List Int} (x:Sl h V v (xs.map D.i)) {i:Nat} (hi:i<xs.length):h.cell (v.at i 1)=some (.int .i64 xs[i]):=by
 obtain ⟨cs,e⟩:=x.elt (i:=i) (by rw [List.length_map];exact hi);have hd:=e.dt;rw [List.getElem_map] at hd;simp only [Dt] at hd;subst hd;have hz:v.sz=1:=e.len.symm
 have:=e.cell 0 (by omega)
 rw [hz] at this;simpa using this
section
variable {N:Nat} {h:Heap}
theorem pB4 {A B:Nat} {c a b:Int} (hN:10≤N) (oA:h.own A [.int .i64 c,.int .i64 a,AV.iface 127 (.ptr (some (B,0)))]) (oB:h.own B [.int .i64 c,.int .i64 b,AV.iface 78 (.int .i64 c)]) :
  ∃ v h',f53 N (AV.iface 127 (.ptr (some (A,0)))) h=some (v,h')∧Chg [] h h'∧Sl h' (fun C=>h.next≤C) v ([a,b].map D.i):=by
 obtain ⟨N,rfl⟩:∃ m,N=m+3:=⟨N-3,by omega⟩;unfold f53;have k1:h.cell (A,1)=some (.int .i64 a):=oA.cell 1;obtain ⟨v1,H1,e1,w1,c1⟩:=tA4 (xs:=[]) (Chg.refl [] h) (Ow.nil h.next h 0 1) (by simp) a;have c01:Chg [] h H1:=c1.mono (by simp [SL.blk]);have oA1:=oA.chg c01 (by simp);have oB1:=oB.chg c01 (by simp);have k2:H1.cell (A,2)=some (AV.iface 127 (.ptr (some (B,0)))):=oA1.cell 2;have k3:H1.cell (B,1)=some (.int .i64 b):=oB1.cell 1;obtain ⟨v2,H2,e2,w2,c2⟩:=tA4 (xs:=[a]) c01 w1 (by simp) b;have c02:Chg [] h H2:=c01.step c2 fun X hX hlt=>by
  have:=w1.ge X (by simpa using hX);omega
 have oB2:=oB.chg c02 (by simp);have k4:H2.cell (B,2)=some (AV.iface 78 (.int .i64 c)):=oB2.cell 2;rw [kR];unfold tT;rw [show uB 0 200=true from rfl];simp only [cond_true];rw [aT];simp only [Bool.not_true,cond_false,Option.isNone_some,bA,Nat.zero_add,k1,fA,kB];have e1':∀ {β:Type} (K:SL→Heap→Option β),fG (.val zV2) (pC E 63 63 (.slice none 0 0 0) (.slice (some (h.next,0)) 1 1 1) (h.push (.row [(.int .i64 a)] .own))) K=K v1 H1:=e1;rw [e1'];simp only [k2,fA,wD];rw [show bB .i64 (0+1)=1 from rfl,kR];unfold tT;rw [show uB 1 200=true from rfl];simp only [cond_true];rw [aT];simp only [Bool.not_true,cond_false,Option.isNone_some,bA,Nat.zero_add,k3,fA,kB];rw [e2];simp only [k4,fA,wD];rw [show bB .i64 (1+1)=2 from rfl,kR];unfold tT;rw [show uB 2 200=true from rfl];simp only [cond_true];rw [aAi];simp only [Bool.not_false,cond_true];exact ⟨v2,H2,rfl,c02,w2.sl⟩
theorem qB4 {V:Nat→Prop} {v:SL} {A:Nat} {a b:Int} (hN:10≤N) (x:Sl h V v ([a,b].map D.i)) (o:h.own A [.int .i64 a,.int .i64 b]):f52 N v ⟨some (A,0),2,2,1⟩ h=some (true,h):=by
 obtain ⟨N,rfl⟩:∃ m,N=m+3:=⟨N-3,by omega⟩;have hl:v.len=2:=x.len;have c0:=uBb x (i:=0) (by simp);have c1:=uBb x (i:=1) (by simp);have d0:h.cell (A,0)=some (.int .i64 a):=o.cell 0;have d1:h.cell (A,1)=some (.int .i64 b):=o.cell 1;unfold f52;dsimp only;have q:pA (Int.ofNat v.len) (Int.ofNat 2)=true:=by rw [hl];rfl
 rw [q,Bool.not_true,cond_false,lR];unfold uT;have lt0:uB 0 (Int.ofNat v.len)=true:=by rw [hl];rfl
 have lt1:uB 1 (Int.ofNat v.len)=true:=by rw [hl];rfl
 have lt2:uB 2 (Int.ofNat v.len)=false:=by rw [hl];rfl
 have hs:v.a.isSome=true:=x.isSome (by simp);have i0:∀ {β:Type} (K:Nat×Nat→Option β),ixK v.a v.len 0 1 K=K (v.at 0 1):=fun K=>oA3 (i:=0) hs (by omega) K;have i1:∀ {β:Type} (K:Nat×Nat→Option β),ixK v.a v.len 1 1 K=K (v.at 1 1):=fun K=>oA3 (i:=1) hs (by omega) K;have j0:∀ {β:Type} (K:Nat×Nat→Option β),ixK (some (A,0)) 2 0 1 K=K (A,0):=fun K=>iAa (A,0) 2 0 1 K (by decide);have j1:∀ {β:Type} (K:Nat×Nat→Option β),ixK (some (A,0)) 2 1 1 K=K (A,1):=fun K=>iAa (A,0) 2 1 1 K (by decide);have ee:∀ x:Int,pA x x=true:=fun x=>by rw [eqI];exact decide_eq_true rfl
 simp only [lt0,cond_true,i0,j0,c0,d0,fA,kB,List.getElem_cons_zero,ee,Bool.not_true,cond_false];rw [show bB .i64 (0+1)=1 from rfl,lR];unfold uT;simp only [lt1,cond_true,i1,j1,c1,d1,fA,kB,List.getElem_cons_succ,List.getElem_cons_zero,ee,Bool.not_true,cond_false];rw [show bB .i64 (1+1)=2 from rfl,lR];unfold uT;simp only [lt2,cond_false];rfl
end
end Qp
set_option maxRecDepth 100000
namespace Qp
abbrev tA:Bs:=[102,110,32,102,40,120,58,32,105,110,116,41,32,45,62,32,105,110,116,32,123,32,114,101,116,117,114,110,32,120,32,43,32,49,59,32,125]
abbrev tB:Bs:=[32,102,110,32,102,40,32,123]
abbrev tC:Bs:=[38,39,97,32,109,117,116,32,83,60,39,98,62]
def kBh:D→List D
 | .t [_,_,_,_,_,.l bd,_]=>bd
 | _=>[]
def oBg:D→Int
 | .t (_::.i a::_)=>a
 | _=>0
theorem cA1:(oF 20000 tA).2=none:=by kernel_rfl
theorem cA2:(oF 20000 tA).1.2.map (fun d=>(kBh d).map oBg)=[[22]]:=by kernel_rfl
theorem cB:(oF 20000 tB).2=some (21,1,some 7):=by kernel_rfl
theorem cC:iAv 20000 tC=(tyD 5 [] [[97]] [tyD 3 [83] [[98]] []],none):=by kernel_rfl
theorem ix0 {β:Type} {h:Heap} {V:Nat→Prop} {s:SL} {xs:List D} (x:Sl h V s xs) (hi:0<xs.length) (n:Nat) (K:Nat×Nat→Option β):ixK s.a s.len 0 n K=K (s.at 0 n):=x.ix (i:=0) hi n K
theorem nAt {h:Heap} (hp:Qw.pinned h=true) (h4:4≤h.next):∃ h',g22 20000 h=some (true,h')∧Chg [] h h':=by
 unfold g22;obtain ⟨va,wa,ea,h2,ra,ca,sva,swa,xa⟩:=bAr (N:=20000) (s:=tA) (by decide) (by decide) (by decide) hp h4;rw [ra,aA];dsimp only;obtain ⟨h4',p4,d4,o4⟩:=oB4 h2 va wa;rw [p4];have c4:=ca.trans d4;obtain ⟨vb,wb,eb,h6,rb,cb,svb,swb,xb⟩:=bAr (N:=20000) (s:=tB) (by decide) (by decide) (by decide) (jN c4 (by simp) h4 hp) (Nat.le_trans h4 c4.next);rw [rb,aA];dsimp only;obtain ⟨h8,p8,d8,o8⟩:=oB4 h6 vb wb;rw [p8];obtain ⟨rc,h10,rc',cc,sc,xc⟩:=pB7 (N:=20000) (s:=tC) (by decide) (by decide) (by decide) h8;rw [rc',aA];have oA0:=wA h10 zt;have cA0:=vA h10 (.row zt .own);have eA:h10.push (.row [(.int .i64 0),(.str []),(.slice none 0 0 0),(.slice none 0 0 0)] .own)=h10.push (.row zt .own):=rfl;have hstA:=yA3 oA0 rc.1;rw [eA,hstA,bA];have oC:=iB oA0 (tyc rc.1);have cA:Chg [] h10 ((h10.push (.row zt .own)).put h10.next (.row (tyc rc.1) .own)):=cA0.put (.inr (Nat.le_refl _)) _;generalize (h10.push (.row zt .own)).put h10.next (.row (tyc rc.1) .own)=h12 at *;have c812:=cc.trans cA;have c412:=cb.trans (d8.trans c812);have c12:=c4.trans c412;rw [xa.eq 19,cA1];simp only [fA,jB,Option.isNone_none,cond_true];have o4:=o4.chg c412 (by simp);have k1:h12.cell (h2.next,0+1)=some (SL.av wa):=o4.cell 1
 -- the function's body
 have swa:=swa.chg (d4.trans c412) (by simp);have hfu:=(iAs 20000 tA).2.1;have e2:=cA2;generalize (oF 20000 tA).1.2=F at *;obtain ⟨f,rfl⟩:∃ f,F=[f]:=by
  have:=congrArg List.length e2
  rw [List.length_map] at this
  match F,this with
  | [f],_=>exact ⟨f,rfl⟩
 simp only [List.map_cons,List.map_nil,List.cons.injEq,and_true] at e2;obtain ⟨cs,e⟩:=swa.elt (i:=0) (by simp);obtain ⟨pub,nm,lv,ps,ty,bd,a,hf,_,_,_,_,t1,_,t2⟩:=hfu f (by simp);subst hf;have hd:=e.dt;obtain ⟨s1,s2,s3,r,hcs,_,_,_,sb⟩:=wAi t1 hd;subst hcs;have hz:wa.sz=10:=e.len.symm;rw [hz] at e;have k2:h12.cell ((wa.at 0 10).1,(wa.at 0 10).2+8)=some (SL.av s3):=e.cell 8 (by omega);have e3:bd.map oBg=[22]:=e2;obtain ⟨b,rfl⟩:∃ b,bd=[b]:=by
  have:=congrArg List.length e3
  rw [List.length_map] at this
  match bd,this with
  | [b],_=>exact ⟨b,rfl⟩
 simp only [List.map_cons,List.map_nil,List.cons.injEq,and_true] at e3;obtain ⟨cs2,eb2⟩:=sb.elt (i:=0) (by simp);obtain ⟨k,a',m,nm',ty',hs,pl,vl,co,th,el,hb,u1,u2,u3,u4,_⟩:=t2 b (by simp);subst hb;have e3:a'=22:=e3;subst e3;have hd2:=eb2.dt;obtain ⟨r',p',v',o',s1',s2',hcs2,_⟩:=kW u1 u2 u3 u4 hd2;subst hcs2;have hz2:s3.sz=32:=eb2.len.symm;rw [hz2] at eb2;have k3:h12.cell ((s3.at 0 32).1,(s3.at 0 32).2+1)=some (.int .i64 22):=eb2.cell 1 (by omega);have l1:pA (Int.ofNat wa.len) 1=true:=by rw [swa.len];rfl
 have l2:pA (Int.ofNat s3.len) 1=true:=by rw [sb.len];rfl
 simp only [k1,SL.av,fA,qA,l1,cond_true,ix0 swa (by simp),k2,l2,ix0 sb (by simp),k3,kB];rw [show pA 22 22=true from rfl,cond_true]
 -- the fault
 rw [cB] at xb;have xb:=xb.chg (d8.trans c812) (by simp);rw [aBf xb (by decide),aA];rw [show decide (rA6 (some (21,1,some 7))=(21,7))=true from rfl,cond_true];obtain ⟨A,B,hv,oA,oB⟩:=xb;subst hv;obtain ⟨w,h29,e29,c29,s29⟩:=pB4 (N:=20000) (by decide) oA oB;rw [e29,aA];have o30:=wA h29 [(.int .i64 1),(.int .i64 7)];have c30:=vA h29 (.row [(.int .i64 1),(.int .i64 7)] .own);rw [qB4 (N:=20000) (by decide) (s29.chg c30 (by simp)) o30,aA,cond_true];have c1230:=c29.trans c30;generalize h29.push (.row [(.int .i64 1),(.int .i64 7)] .own)=h30 at *
 -- the type
 rw [cC] at xc sc;have xc:rc.2.1=AV.nilIface:=xc;obtain ⟨t1,t2,hct,_,st2⟩:=eN.1 sc;rw [hct] at oC;have oC:=oC.chg c1230 (by simp);have j0:h30.cell (h10.next,0+0)=some (.int .i64 5):=oC.cell 0;have j3:h30.cell (h10.next,0+3)=some (SL.av t2):=oC.cell 3;have st2:=st2.chg (cA.trans c1230) (by simp);have l3:pA (Int.ofNat t2.len) 1=true:=by rw [st2.len];rfl
 obtain ⟨cs3,e3⟩:=st2.elt (i:=0) (by simp);obtain ⟨q1,q2,hc3,_⟩:=eN.1 e3.dt;subst hc3;have hz3:t2.sz=4:=e3.len.symm;rw [hz3] at e3;have j4:h30.cell ((t2.at 0 4).1,(t2.at 0 4).2+1)=some (.str [83]):=e3.cell 1 (by omega);rw [xc,eq_nil];simp only [fA,jB,cond_true,j0,kB,show pA 5 5=true from rfl,j3,SL.av,qA,l3,ix0 st2 (by simp),j4,mB,show pB [83] [83]=true from rfl];exact ⟨_,rfl,c12.trans c1230⟩
end Qp
namespace Qp
def lW:List AV:=[(.str []),(.str [108,101,116]),(.str []),(.str []),(.str [105,102]),(.str [119,104,105,108,101]),(.str [108,111,111,112]),(.str [123]),(.str [98,114,101,97,107]),(.str [99,111,110,116,105,110,117,101]),(.str [114,101,116,117,114,110]),(.str [100,114,111,112])]
def rB4:Nat→Bs
 | 1=>gBf
 | 4=>wIf
 | 5=>mAy
 | 6=>gBa
 | 7=>[123]
 | 8=>nAy
 | 9=>iBa
 | 10=>wRet
 | 11=>jBa
 | _=>[]
theorem wAw {k:Nat} (hk:k<12):lW[k]? = some (.str (rB4 k)):=by
 match k,hk with
 | 0,_=>rfl
 | 1,_=>rfl
 | 2,_=>rfl
 | 3,_=>rfl
 | 4,_=>rfl
 | 5,_=>rfl
 | 6,_=>rfl
 | 7,_=>rfl
 | 8,_=>rfl
 | 9,_=>rfl
 | 10,_=>rfl
 | 11,_=>rfl
theorem SmK.word {s:Bs} {a n:Nat} {k:Int} {m:Bool} {nm:Bs} {ty:D} {hs:Bool} {pl va co:D} {th el:List D} (h:SmK s a n k m nm ty hs pl va co th el):∃ j:Nat,k=(j:Int)∧1≤j∧j≤11∧((j=2∧∃ (pn:Bs) (xs:List Bs),pl=vL pn (xs.map D.s)∧atOK s a pn)∨(j≠2∧atOK s a (rB4 j))):=by
 cases h with
 | let_ hn ht hv hw=>exact ⟨1,rfl,by decide,by decide,.inr ⟨by decide,hw⟩⟩
 | set hn hx hv hw=>exact ⟨2,rfl,by decide,by decide,.inl ⟨rfl,_,_,rfl,hw⟩⟩
 | call hn h hw=>exact ⟨3,rfl,by decide,by decide,.inr ⟨by decide,hw⟩⟩
 | if_ h0 hc he hw=>exact ⟨4,rfl,by decide,by decide,.inr ⟨by decide,hw⟩⟩
 | while_ h0 hc hw=>exact ⟨5,rfl,by decide,by decide,.inr ⟨by decide,hw⟩⟩
 | loop h0 hw=>exact ⟨6,rfl,by decide,by decide,.inr ⟨by decide,hw⟩⟩
 | block h0 hw=>exact ⟨7,rfl,by decide,by decide,.inr ⟨by decide,hw⟩⟩
 | break_ hw=>exact ⟨8,rfl,by decide,by decide,.inr ⟨by decide,hw⟩⟩
 | cont hw=>exact ⟨9,rfl,by decide,by decide,.inr ⟨by decide,hw⟩⟩
 | ret hv hw=>exact ⟨10,rfl,by decide,by decide,.inr ⟨by decide,hw⟩⟩
 | drop hp hw=>exact ⟨11,rfl,by decide,by decide,.inr ⟨by decide,hw⟩⟩
section
variable {N:Nat} {h:Heap} {V:Nat→Prop} {s:Bs}
theorem rBf {a:Nat} {w:Bs} (hw:atOK s a w):(s.take (a+w.length)).drop a=w:=by
 rw [List.drop_take,show a+w.length-a=w.length by omega];exact hw.2
theorem oAt {a:Nat} {w:Bs} (hw:atOK s a w) (hs:s.length≤4000) (H:Heap):uB (a:Int) 0=false∧uB (bB .i64 (Int.ofNat s.length-(a:Int))) (Int.ofNat w.length)=false∧bB .i64 ((a:Int)+Int.ofNat w.length)=((a+w.length:Nat):Int)∧qD E H 9 (.str s) (some (.int .i64 (a:Int))) (some (.int .i64 ((a+w.length:Nat):Int)))=some (.str w):=by
 have h1:=hw.1;refine ⟨by rw [ltI,decide_eq_false_iff_not];omega,?_,?_,?_⟩
 ·show uB (bB .i64 ((s.length:Int)-(a:Int))) (w.length:Int)=false
  rw [lD (by omega) (by omega),ltI,decide_eq_false_iff_not];omega
 ·show bB .i64 ((a:Int)+(w.length:Int))=_
  rw [lD (by omega) (by omega)];omega
 ·rw [gO (by omega) (by omega),rBf hw]
theorem dA2 {rec32} (hs:s.length≤4000) {m n A:Nat} {xs:List D} (hx:∀ x∈xs,lM s (n+1) x) (ht:∀ x∈xs,isSm (m+1) x) (hF:∀ x∈xs,∀ (l:List D) (s2:SL) (H:Heap),(l=thD x∨l=elD x)→Sl H V s2 l→∃ H',rec32 s s2 H=some (true,H')∧Chg [] H H') (hl:xs.length≤3000) {s1:SL}:∀ (M i:Nat) (h:Heap),i≤xs.length→xs.length-i<M→h.own A lW→Sl h V s1 xs→∃ h',fAj N rec32 M s s1 false ⟨some (A,0),12,12,1⟩ (i:Int) h=some (.exit 0,(false,()),h')∧Chg [] h h':=by
 intro M
 induction M with
 | zero=>intro i h _ h;omega
 | succ M ih=>
  intro i h hi hM oA x;rw [tAf];unfold pA7;have l1:s1.len=xs.length:=x.len;have lt1:uB (i:Int) (Int.ofNat s1.len)=decide (i<xs.length):=by rw [l1];exact tP _ _
  simp only [lt1]
  by_cases q:i<xs.length
  ·simp only [q,decide_true,cond_true]
   have hm:=List.getElem_mem q;obtain ⟨r,g,d⟩:=(iR (m+1)).elt x q (ht _ hm);rw [x.ix q 32,g,yJ];obtain ⟨h5,p5,c5,o5⟩:=(iR (m+1)).park (z:=smx (smv (bE 0))) rfl h r;have p5':∀ {β:Type} (K:Heap→Option β),uA ((h.push (.row yZA .own)).store (h.next,0) (yRA r)) K=K h5:=p5;rw [p5'];have hmm:=hx _ hm;have hti:=ht _ hm;have hFx:=hF _ hm;obtain ⟨k,a,mu,nm,ty,hs',pl,va,co,th,el,hd,hth,hel,hk⟩:=hmm;rw [hd] at d hFx hti;obtain ⟨t1,t2,t3,t4,_⟩:=lAg hti;obtain ⟨rt,rp,rv,ro,u1,u2,hc,_,x2,_,_,x5,x6⟩:=kW t1 t2 t3 t4 d;have hr:=(iR (m+1)).inj (r':=smv ⟨k,(a:Int),mu,nm,rt,hs',rp,rv,ro,u1,u2⟩) hc;subst hr;obtain ⟨j,hj,j1,j2,hw⟩:=hk.word;subst hj;have oA5:=oA.chg c5 (by simp);have a0:h5.cell (h.next,0)=some (.int .i64 (j:Int)):=o5.cell 0;have a1:h5.cell (h.next,1)=some (.int .i64 (a:Int)):=o5.cell 1;have a9:h5.cell (h.next,9)=some (.str rp.1):=o5.cell 9;have a30:h5.cell (h.next,30)=some (.slice u1.a u1.len u1.cap u1.sz):=o5.cell 30;have z1:uB (j:Int) 1=false:=by rw [ltI,decide_eq_false_iff_not];omega
   have z2:uB 11 (j:Int)=false:=by rw [ltI,decide_eq_false_iff_not];omega
   have aw:h5.cell (A,0+j * 1)=some (.str (rB4 j)):=by rw [Nat.zero_add,Nat.mul_one,oA5.cell j,wAw (by omega)]
   have ix:∀ {β:Type} (K:Nat×Nat→Option β),ixK (some (A,0)) 12 (j:Int) 1 K=K (A,0+j * 1):=fun K=>iAa (A,0) 12 j 1 K (by omega);simp only [Nat.zero_add,a0,fA,kB,z1,z2,cond_false];rw [ix,aw]
   -- what stands within
   obtain ⟨h6,e6,c6⟩:=hFx th u1 h5 (.inl rfl) (x5.chg c5 (by simp));have e6':rec32 s ⟨u1.a,u1.len,u1.cap,u1.sz⟩ h5=some (true,h6):=e6;have b31:h6.cell (h.next,31)=some (.slice u2.a u2.len u2.cap u2.sz):=(o5.chg c6 (by simp)).cell 31;obtain ⟨h7,e7,c7⟩:=hFx el u2 h6 (.inr rfl) (x6.chg (c5.trans c6) (by simp));have e7':rec32 s ⟨u2.a,u2.len,u2.cap,u2.sz⟩ h6=some (true,h7):=e7;have c07:=(c5.trans c6).trans c7;obtain ⟨h',e',c'⟩:=ih (i+1) h7 q (by omega) (oA.chg c07 (by simp)) (x.chg c07 (by simp));have ws:=rB (i:=i) (by omega);rcases hw with ⟨j0,pn,ys,hp,hw⟩ | ⟨j0,hw⟩
   ·have z3:pA (j:Int) 2=true:=by rw [eqI,decide_eq_true_eq];omega
    have hrp:rp.1=pn:=by
     rw [hp] at x2;obtain ⟨s3,hc,_⟩:=jW x2;rw [fA7.inj hc]
    rw [hrp] at a9;obtain ⟨k1,k2,k3,k4⟩:=oAt hw hs h5;simp only [fA,mB,kB,Nat.zero_add,z3,cond_true,a9,a1,k1,k2,k3,k4,cond_false,eqB.2,Bool.not_true,a30,qA];rw [e6',aA];simp only [Bool.not_true,cond_false,b31,fA,qA];rw [e7',aA];simp only [Bool.not_true,cond_false,ws];exact ⟨h',e',c07.trans c'⟩
   ·have z3:pA (j:Int) 2=false:=by rw [eqI,decide_eq_false_iff_not];omega
    obtain ⟨k1,k2,k3,k4⟩:=oAt hw hs h5;simp only [fA,mB,kB,Nat.zero_add,z3,cond_true,a1,k1,k2,k3,k4,cond_false,eqB.2,Bool.not_true,a30,qA];rw [e6',aA];simp only [Bool.not_true,cond_false,b31,fA,qA];rw [e7',aA];simp only [Bool.not_true,cond_false,ws];exact ⟨h',e',c07.trans c'⟩
  ·simp only [q,decide_false,cond_false]
   exact ⟨h,rfl,Chg.refl _ _⟩
theorem vBb (hN:3001≤N) (hs:s.length≤4000):∀ (n M:Nat) (xs:List D) (s1:SL) (h:Heap) (V:Nat→Prop),n+1≤M→(∀ x∈xs,lM s n x)→(∀ x∈xs,isSm (n+1) x)→xs.length≤3000→Sl h V s1 xs→∃ h',f32 N M s s1 h=some (true,h')∧Chg [] h h':=by
 intro n
 induction n with
 | zero=>
  intro M xs s1 h V hM hx ti hl x;obtain ⟨M,rfl⟩:∃ m,M=m+1:=⟨M-1,by omega⟩;have hx0:xs=[]:=by
   cases xs with
   | nil=>rfl
   | cons y r=>exact (hx y (by simp)).elim
  subst hx0;rw [gAj];unfold nAw;have c:=vA h (.row lW .own);have e1:h.push (.row [(.str []),(.str [108,101,116]),(.str []),(.str []),(.str [105,102]),(.str [119,104,105,108,101]),(.str [108,111,111,112]),(.str [123]),(.str [98,114,101,97,107]),(.str [99,111,110,116,105,110,117,101]),(.str [114,101,116,117,114,110]),(.str [100,114,111,112])] .own)=h.push (.row lW .own):=rfl;dsimp only;rw [e1];have o:=wA h lW;obtain ⟨h',e,c'⟩:=dA2 (N:=N) (V:=V) (rec32:=f32 N M) hs (m:=0) (n:=0) (xs:=[]) (by simp) (by simp) (by simp) (by simp) N 0 _ (Nat.zero_le _) (by simp;omega) o (x.chg c (by simp));rw [show ((0:Nat):Int)=0 from rfl] at e;rw [e];exact ⟨h',rfl,c.trans c'⟩
 | succ k ih=>
  intro M xs s1 h V hM hx ti hl x;obtain ⟨M,rfl⟩:∃ m,M=m+1:=⟨M-1,by omega⟩;rw [gAj];unfold nAw;have c:=vA h (.row lW .own);have e1:h.push (.row [(.str []),(.str [108,101,116]),(.str []),(.str []),(.str [105,102]),(.str [119,104,105,108,101]),(.str [108,111,111,112]),(.str [123]),(.str [98,114,101,97,107]),(.str [99,111,110,116,105,110,117,101]),(.str [114,101,116,117,114,110]),(.str [100,114,111,112])] .own)=h.push (.row lW .own):=rfl;dsimp only;rw [e1];have o:=wA h lW;obtain ⟨h',e,c'⟩:=dA2 (N:=N) (V:=V) (rec32:=f32 N M) hs (m:=k+1) (n:=k) hx ti (fun x hm l s2 H hl sl=>by
   obtain ⟨q1,q2,q3⟩:=mAg (hx x hm) (ti x hm) hl;exact ih M l s2 H V (by omega) q1 q2 q3 sl) hl N 0 _ (Nat.zero_le _) (by omega) o (x.chg c (by simp))
  rw [show ((0:Nat):Int)=0 from rfl] at e;rw [e];exact ⟨h',rfl,c.trans c'⟩
theorem Rec.el {tys:List CTy} {n:Nat} {c:aP tys→List AV} {P:D→Prop} (R:Rec tys n c P) {s:SL} {xs:List D} (x:Sl h V s xs) {i:Nat} (hi:i<xs.length) (hP:P xs[i]):∃ r,Elt h V (s.at i n) n xs[i] (c r):=by
 obtain ⟨cs,e⟩:=x.elt hi;obtain ⟨r,rfl⟩:=R.inv hP e.dt;have hz:s.sz=n:=by rw [← e.len,R.len]
 rw [hz] at e;exact ⟨r,e⟩
theorem tBf {t:Bs} {d:D} (hd:pA2 t d) (ti:isFu d) {cs:List AV} (x:Dt h V d cs):∃ (a:Nat) (bd:List D) (s3:SL),atOK t a [102,110]∧cs[9]? = some (.int .i64 (a:Int))∧cs[8]? = some (SL.av s3)∧Sl h V s3 bd∧(∀ x∈bd,lM t 64 x)∧(∀ x∈bd,isSm 65 x)∧bd.length≤3000:=by
 obtain ⟨pub,nm,lv,ps,ty,bd,a,rfl,_,_,_,_,hbd,_,hw⟩:=hd;obtain ⟨pub',nm',lv',ps',ty',bd',a',e,_,_,_,_,h1,h2,h3⟩:=ti;simp only [fuT,D.t.injEq,List.cons.injEq,D.i.injEq,D.b.injEq,D.s.injEq,D.l.injEq,and_true] at e;obtain ⟨rfl,rfl,rfl,rfl,rfl,rfl,rfl⟩:=e;obtain ⟨s1,s2,s3,rt,hc,_,_,_,y3⟩:=wAi h1 x;subst hc;exact ⟨a,bd,s3,hw,rfl,rfl,y3,hbd,h3,h2⟩
theorem uBf {t:Bs} {d:D} (hd:nA2 t d) {cs:List AV} (x:Dt h V d cs):∃ a:Nat,atOK t a oA7∧cs[4]? = some (.int .i64 (a:Int)):=by
 obtain ⟨pub,nm,lv,fs,a,rfl,_,_,_,hw⟩:=hd;obtain ⟨s1,s2,hc,_⟩:=uAr x;subst hc;exact ⟨a,hw,rfl⟩
theorem pAt {a:Nat} {w:Bs} (hw:atOK s a w) (hs:s.length≤4000) {l:Int} (hl:l=(w.length:Int)) (H:Heap):uB (a:Int) 0=false∧uB (Int.ofNat s.length) ((a+w.length:Nat):Int)=false∧bB .i64 ((a:Int)+l)=((a+w.length:Nat):Int)∧qD E H 9 (.str s) (some (.int .i64 (a:Int))) (some (.int .i64 ((a+w.length:Nat):Int)))=some (.str w):=by
 obtain ⟨k1,k2,k3,k4⟩:=oAt hw hs H;have k3':bB .i64 ((a:Int)+l)=((a+w.length:Nat):Int):=by rw [hl];exact k3
 refine ⟨k1,?_,k3',k4⟩;rw [ltI,decide_eq_false_iff_not]
 have:=hw.1
 show ¬ (s.length:Int)<_;omega
theorem qAt (hN:3001≤N) (hs:s.length≤4000) {C:Nat} {xs:List D} (hx:∀ x∈xs,pA2 s x) (ti:∀ x∈xs,isFu x) (hl:xs.length≤300) {s0 s1:SL}:∀ (M i:Nat) (h:Heap),i≤xs.length→xs.length-i<M→h.own C [SL.av s0,SL.av s1]→Sl h V s1 xs→∃ h',lAj N M s false (some (C,0)) (i:Int) h=some (.exit 0,(s,false,some (C,0),()),h')∧Chg [] h h':=by
 intro M
 induction M with
 | zero=>intro i h _ h;omega
 | succ M ih=>
  intro i h hi hM oC x;rw [gAg];unfold dA8;have l1:s1.len=xs.length:=x.len;have lt1:uB (i:Int) (Int.ofNat s1.len)=decide (i<xs.length):=by rw [l1];exact tP _ _
  have a1:h.cell (C,1)=some (.slice s1.a s1.len s1.cap s1.sz):=oC.cell 1;simp only [bA,Nat.zero_add,a1,fA,qA,lt1]
  by_cases q:i<xs.length
  ·simp only [q,decide_true,cond_true]
   have hm:=List.getElem_mem q;obtain ⟨r,e⟩:=gAm.el x q (ti _ hm);obtain ⟨a,bd,s3,hw,g9,g8,y3,b1,b2,b3⟩:=tBf (hx _ hm) (ti _ hm) e.dt;have c9:=e.cell 9 (by omega);have c8:=e.cell 8 (by omega);rw [g9] at c9;rw [g8] at c8;have c8:h.cell ((s1.at i 10).1,(s1.at i 10).2+8)=some (.slice s3.a s3.len s3.cap s3.sz):=c8;rw [x.ix q 10];obtain ⟨k1,k2,k3,k4⟩:=pAt hw hs (l:=2) rfl h;simp only [c9,fA,kB,k1,cond_false,k2,k3,k4,mB,eqB.2,Bool.not_true];rw [x.ix q 10];simp only [c8,fA,qA];obtain ⟨h6,e6,c6⟩:=vBb hN hs 64 N bd s3 h V (by omega) b1 b2 b3 y3;have e6':f32 N N s ⟨s3.a,s3.len,s3.cap,s3.sz⟩ h=some (true,h6):=e6;rw [e6',aA];simp only [Bool.not_true,cond_false];rw [rB (by omega)];obtain ⟨h',e',c'⟩:=ih (i+1) h6 q (by omega) (oC.chg c6 (by simp)) (x.chg c6 (by simp));exact ⟨h',e',c6.trans c'⟩
  ·simp only [q,decide_false,cond_false]
   exact ⟨h,rfl,Chg.refl _ _⟩
theorem rAt (hs:s.length≤4000) {C:Nat} {xs:List D} (hx:∀ x∈xs,nA2 s x) (ti:∀ x∈xs,isSt x) (hl:xs.length≤300) {s0 s1:SL} (oC:h.own C [SL.av s1,SL.av s0]) (x:Sl h V s1 xs):∀ (M i:Nat),i≤xs.length→xs.length-i<M→kAj N M s false (some (C,0)) (i:Int) h=some (.exit 2,(false,some (C,0),()),h):=by
 intro M
 induction M with
 | zero=>intro i _ h;omega
 | succ M ih=>
  intro i hi hM;rw [fAg];unfold cA8;have l1:s1.len=xs.length:=x.len;have lt1:uB (i:Int) (Int.ofNat s1.len)=decide (i<xs.length):=by rw [l1];exact tP _ _
  have a1:h.cell (C,0)=some (.slice s1.a s1.len s1.cap s1.sz):=oC.cell 0;simp only [bA,Nat.zero_add,a1,fA,qA,lt1]
  by_cases q:i<xs.length
  ·simp only [q,decide_true,cond_true]
   have hm:=List.getElem_mem q;obtain ⟨r,e⟩:=fAm.el x q (ti _ hm);obtain ⟨a,hw,g4⟩:=uBf (hx _ hm) e.dt;have c4:=e.cell 4 (by omega);rw [g4] at c4;rw [x.ix q 5];obtain ⟨k1,k2,k3,k4⟩:=pAt hw hs (l:=6) rfl h;have ew:pB oA7 [115,116,114,117,99,116]=true:=rfl;simp only [c4,fA,kB,k1,cond_false,k2,k3,k4,mB,ew,Bool.not_true];rw [rB (by omega)];exact ih (i+1) q (by omega)
  ·simp only [q,decide_false,cond_false]
theorem tB4 (hN:1≤N) {W:Nat→Prop} {x y:SL} (a:Sl h V x []) (b:Sl h W y []):∃ h',f30 N (x,y,()) (sl0,sl0,()) h=some (true,h')∧Chg [] h h':=
 rB2 (fun H c=>by
  unfold jA4;obtain ⟨H',e,c'⟩:=mA4 (N:=N) fAm (z:=stc st0) rfl (L:=iA4 N) (F:=fun a b h=>f73 N a b h) (fun _ _ _ _ _ _ _=>rfl) (xs:=[]) (by simp) (by simp) (by simp) (by simp;omega) (a.chg c (by simp)) (Sl.nil H V 0) (G:=eAf N x sl0 () H) rfl;rw [e];exact ⟨H',rfl,c'⟩) (fun H c=>by
  unfold lA4;obtain ⟨H',e,c'⟩:=mA4 (N:=N) gAm (z:=fux (fuv (dJ false [] 0))) rfl (L:=kA4 N) (F:=fun a b h=>f75 N a b h) (fun _ _ _ _ _ _ _=>rfl) (xs:=[]) (by simp) (by simp) (by simp) (by simp;omega) (b.chg c (by simp)) (Sl.nil H W 0) (G:=jAf N y sl0 () H) rfl;rw [e];exact ⟨H',rfl,c'⟩)
theorem PK.pin (pk:PK h):Qw.pinned h=true:=by
 have:=pk.1
 unfold Qk.pinned at this;simp only [Bool.and_eq_true] at this;exact this.1.1
theorem wBb (pk:PK h) (s:Bs):∃ h',f11 20000 s h=some (true,h'):=by
 have hp:=pk.pin;have h4:4≤h.next:=Nat.le_trans (by decide) pk.2;unfold f11;have z:uB 4000 (Int.ofNat s.length)=decide (4000<s.length):=tP 4000 _;simp only [z]
 by_cases q:4000<s.length
 ·obtain ⟨w0,e0,_⟩:=nAt hp h4
  simp only [q,decide_true,cond_true,e0,aA];exact ⟨_,rfl⟩
 simp only [q,decide_false,cond_false];have hs:s.length≤4000:=by omega
 obtain ⟨v,w,e,h5,r5,c5,sv,sw,x5⟩:=bAr (N:=20000) (s:=s) (by omega) (by omega) (by omega) hp h4;rw [r5,aA];obtain ⟨h7,p7,d7,o7⟩:=oB4 h5 v w;dsimp only;rw [p7];have x7:=x5.keep d7;have c7:=c5.trans d7;have pk7:=pk.chg c7;have hp7:=pk7.pin;rw [x7.ne];simp only [fA,jB];obtain ⟨h10,e10,c10⟩:=nAt hp7 (Nat.le_trans (by decide) pk7.2)
 cases he:(oF 20000 s).2 with
 | some er=>
  simp only [Option.isSome_some,cond_true];rw [e10,aA,cond_true,gA4 (o7.chg c10 (by simp))];have hc0:(oF 20000 s).1=([],[]):=by
   unfold oF at he ⊢
   cases hl:qAk 20000 s with
   | inr a=>rfl
   | inl T=>
    rw [hl] at he;simp only at he ⊢;unfold iW at he ⊢;dsimp only at he ⊢
    cases hi:(aE T 256 0).2 with
    | some y=>rfl
    | none=>rw [hi] at he;cases he
  rw [hc0] at sv sw;obtain ⟨h13,e13,c13⟩:=tB4 (N:=20000) (by decide) (sv.chg (d7.trans c10) (by simp)) (sw.chg (d7.trans c10) (by simp));have e13':f30 20000 (v,w,()) (⟨none,0,0,0⟩,⟨none,0,0,0⟩,()) h10=some (true,h13):=e13;rw [e13',aA];exact ⟨_,rfl⟩
 | none=>
  simp only [Option.isSome_none,cond_false];obtain ⟨m1,m2,m3⟩:=pAs (N:=20000) (by omega) (by omega) he;obtain ⟨q1,q2,q3,q4⟩:=iAs 20000 s;obtain ⟨h37,e37,c37⟩:=qAt (N:=20000) (by decide) hs m2 q2 (by omega) 20000 0 h7 (Nat.zero_le _) (by omega) o7 (sw.chg d7 (by simp));rw [show ((0:Nat):Int)=0 from rfl] at e37;rw [e37];simp only [yB,fE,decide_true,cond_true];have e54:=rAt (N:=20000) hs m1 q1 (by omega) (o7.chg c37 (by simp)) (sv.chg (d7.trans c37) (by simp)) 20000 0 (Nat.zero_le _) (by omega);rw [show ((0:Nat):Int)=0 from rfl] at e54;rw [e54];simp only [yB,fE,decide_true,cond_true];have pk37:=pk7.chg c37;have hp37:=pk37.pin;obtain ⟨h56,e56,c56⟩:=nAt hp37 (Nat.le_trans (by decide) pk37.2);rw [e56,aA,cond_true,bA,gA4 ((o7.chg c37 (by simp)).chg c56 (by simp))];have cc:=(d7.trans c37).trans c56;obtain ⟨h60,e60,c60⟩:=tBb (N:=20000) (by decide) m1 m2 q1 q2 m3 (pk37.chg c56) (sv.chg cc (by simp)) (sw.chg cc (by simp));have e60':f33 20000 (v,w,()) h56=some (true,h60):=e60;rw [e60',aA];exact ⟨_,rfl⟩
end
theorem maylaw_true {H:Type} (h:Heap) (hp:Qk.pinned h=true) (h2:5≤h.next) (vs:List AV) (ds:List (DataW H)) (hr:RdArgs Tryz.prog h [9] vs ds):∃ xs h',VTy.tos [.one .str] xs=vs∧(fun (x:wG [.one .str]) h=>f11 20000 x.1 h) xs h=some (true,h'):=by
 obtain ⟨cs1,d1,vs1,ds1,rfl,rfl,r1,hr⟩:=hr.cons_inv;obtain ⟨rfl,rfl⟩:=hr.nil_inv;obtain ⟨s,rfl,rfl,_⟩:=r1.str_inv Tryz.underlying9;obtain ⟨h',e⟩:=wBb ⟨hp,h2⟩ s;refine ⟨(s,()),h',?_,e⟩;have a1:∀ v,lA2 Tryz.prog 9 [v]=v:=by intro v;kernel_rfl
 rw [a1];rfl
end Qp
open Go.ChangeShapes Go.WideShapes
namespace Qp
open Go.Proofs.YtkcjphhjmlienaaGreatDoor
theorem et:Tryz.prog.globalNamed "errors.errorType" = some 1:=by kernel_rfl
theorem gS:Tryz.prog.globalNamed "strconv.ErrSyntax" = some 3:=by kernel_rfl
theorem gSt:(Tryz.prog.globals[3]?).map (·.type)=some 29:=by kernel_rfl
theorem rt:(Tryz.prog.cutTypes.find? (·.1 == "internal/reflectlite.rtype")).map (·.2)=some 232:=by kernel_rfl
theorem yBb:((List.range 306).filter fun t=>Tryz.prog.rowNamed t [101,114,114,111,114])=[29]:=by kernel_rfl
theorem vBf:Tryz.prog.types.size=306:=by kernel_rfl
theorem hand:typeHandle Tryz.prog 29=.pointer (some ⟨7,29,none⟩):=by kernel_rfl
theorem star : "*" ++ "errors.errorString" = "*errors.errorString":=by decide
theorem aBc (u:TypeId) (h:Tryz.prog.typeName? 3 u=some "*errors.errorString"):u=275:=
 typeName_ptr_named (nm:= "errors.errorString") (by rw [star];kernel_rfl) (by kernel_rfl) (by decide) u (by rw [star];exact h)
theorem wBf:∃ ms,Tryz.prog.underlying 29=some (.interface ms):=by
 have:(match Tryz.prog.underlying 29 with | some (.interface _)=>true | _=>false)=true:=by kernel_rfl
 split at this
 ·exact ⟨_,by assumption⟩
 ·cases this
theorem bBc:Tryz.prog.underlying 275=some (.pointer 277):=by kernel_rfl
theorem cBc:∃ f:Field,Tryz.prog.underlying 277=some (.struct #[f])∧f.type=9∧f.offset=0:=by
 have:(match Tryz.prog.underlying 277 with | some (.struct fs)=>(match fs.toList with | [f]=>Nat.beq f.type 9&&Nat.beq f.offset 0 | _=>false) | _=>false)=true:=by kernel_rfl
 split at this
 ·rename_i fs hfs
  split at this
  ·rename_i f hf
   simp only [Bool.and_eq_true] at this
   have:fs = #[f]:=by rw [← Array.toList_inj,hf]
   subst this;exact ⟨f,hfs,Nat.eq_of_beq_eq_true (by simp_all),Nat.eq_of_beq_eq_true (by simp_all)⟩
  ·cases this
 ·cases this
theorem yBf:Tryz.prog.underlying 9=some .string:=by kernel_rfl
theorem lBh:Tryz.prog.cellsOf 277=1:=by kernel_rfl
theorem cS9:Tryz.prog.cellsOf 9=1:=by kernel_rfl
theorem dBc {W:World} (h:laidMetH Tryz.prog Rows.parseDeepRow.laid W):W.var? Tryz.prog "errors.errorType" = some #[.iface 232 (.agg #[.pointer (some ⟨7,29,none⟩)])]:=by
 have h':laidMet Tryz.prog (Rows.parseDeepRow.laid.filter fun x=>x.2.handleName?.isNone) W∧handlesMet Tryz.prog [("errors.errorType",Rows.laid_errors_errorType)] W:=h;have h2:=h'.2 _ (List.mem_singleton.2 rfl);obtain ⟨name,u,ty,e1,e2,e3,e4,e5⟩:=h2;have en:name=[101,114,114,111,114]:=(Option.some.inj e1).symm;subst en;obtain rfl:=Option.some.inj (rt.symm.trans e2);have hm:ty∈(List.range 306).filter fun t=>Tryz.prog.rowNamed t [101,114,114,111,114]:=List.mem_filter.2 ⟨List.mem_range.2 (by rw [← vBf];exact e3),e4⟩;rw [yBb] at hm;obtain rfl:=List.mem_singleton.1 hm;rw [hand] at e5;exact e5
theorem eBc {W:World} (h:laidMetH Tryz.prog Rows.parseDeepRow.laid W):∃ (a:Addr) (s:ByteArray),W.var? Tryz.prog "strconv.ErrSyntax" = some #[.iface 275 (.pointer (some a))]∧W.cell? a=some (.string s):=by
 have h':laidMet Tryz.prog [("math/bits.deBruijn32tab",Rows.laid_math_bits_deBruijn32tab),("math/bits.deBruijn64tab",Rows.laid_math_bits_deBruijn64tab),("internal/strconv.uint64pow10",Rows.laid_internal_strconv_uint64pow10),("strconv.ErrRange",Rows.laid_strconv_ErrRange),("strconv.ErrSyntax",Rows.laid_strconv_ErrSyntax)] W∧handlesMet Tryz.prog [("errors.errorType",Rows.laid_errors_errorType)] W:=h;obtain ⟨ms,hms⟩:=wBf;obtain ⟨f,hf,hft,hfo⟩:=cBc;obtain ⟨a,s,h1,h2,_⟩:=laid_sentinel h'.1.tail.tail.tail.tail gS gSt hms aBc bBc hf hft hfo yBf lBh cS9;exact ⟨a,s,h1,h2⟩
theorem big:7<(begin Tryz.prog (fun _ _=>0) default).world.heap.size:=by
 have:Nat.blt 7 (begin Tryz.prog (fun _ _=>0) default).world.heap.size=true:=by kernel_rfl
 simpa [Nat.blt_eq] using this
theorem fBc:Tryz.prog.globals.size=7:=by kernel_rfl
theorem iAc {W:World} {n:String} {g:Nat} {v:Value} (hg:Tryz.prog.globalNamed n=some g) (hv:W.var? Tryz.prog n=some #[v]):∃ e,W.shape? g=some (e,1):=by
 unfold World.var? at hv;rw [hg] at hv;have hv:(match W.heap[g]? with | some (Obj.cells cs _ _)=>some cs | _=>(Option.none:Option (Array Value)))=some #[v]:=hv
 cases hq:W.heap[g]? with
 | none=>rw [hq] at hv;cases hv
 | some o=>
  rw [hq] at hv
  cases o with
  | cells cs e fz=>
   simp only [Option.some.injEq] at hv;subst hv;exact ⟨e,by simp only [World.shape?,hq];rfl⟩
  | _=>cases hv
def yAw (W:World):Ai.Loc:=match W.cell? ⟨3,0,none⟩ with
 | some (.iface _ (.pointer (some a)))=>⟨a.block,a.off,0,false⟩
 | _=>⟨0,0,0,false⟩
theorem start_hr {W:World} (h:laidMetH Tryz.prog Rows.parseDeepRow.laid W) (hs:W.ShapedOpen Tryz.prog):HR (Qy.mu0 (yAw W)) Qy.h0 W:=by
 have hv:=dBc h;have hc:W.cell? ⟨1,0,none⟩=some (.iface 232 (.agg #[.pointer (some ⟨7,29,none⟩)])):=by simpa using World.var?_cell et hv 0
 obtain ⟨o,_,ho,_⟩:=hs.2 7 (by rw [fBc];omega) big;have h7:7<W.heap.size:=(Array.getElem?_eq_some_iff.1 ho).1;obtain ⟨e1,s1⟩:=iAc et hv;obtain ⟨a,s,hv3,hca⟩:=eBc h;have hc3:W.cell? ⟨3,0,none⟩=some (.iface 275 (.pointer (some a))):=by simpa using World.var?_cell gS hv3 0
 obtain ⟨e3,s3⟩:=iAc gS hv3;have hl:yAw W=⟨a.block,a.off,0,false⟩:=by unfold yAw;rw [hc3]
 have ha:a=⟨a.block,a.off,none⟩∧a.block<W.heap.size:=by
  unfold World.cell? at hca
  cases hq:W.heap[a.block]? with
  | none=>rw [hq] at hca;cases hca
  | some o=>
   rw [hq] at hca
   cases o with
   | cells cs e fz=>
    obtain ⟨ab,ao,sp⟩:=a
    cases sp with
    | some x=>simp at hca
    | none=>exact ⟨rfl,(Array.getElem?_eq_some_iff.1 hq).1⟩
   | _=>cases hca
 rw [hl];exact Qy.jAx h7 s1 hc s3 (by rw [hc3];simp only;rw [← ha.1]) ha.2
theorem start_pinned {h:Heap} (hl:HLe Qy.h0 h):Qw.pinned h=true∧4≤h.next:=Qy.bA2 hl
end Qp
namespace Qj
open Qa
def h0 (m:Int):Heap:={ t:=Tr.set Qy.h0.t 4 (.row [.int .i64 m] .ro),next:=5,pins:=[(0,rAm),(1,loc1),(2,Qw.jB0),(4,Qk.fB5)] }
def mu0 (l:Ai.Loc):Mu:=fun A=>if A=4 then some Qk.fB5 else Qy.mu0 l A
theorem mu0_inv {l:Ai.Loc} {A:Nat} {q:Ai.Loc} (h:mu0 l A=some q):(A=4∧q=Qk.fB5)∨Qy.mu0 l A=some q:=by
 unfold mu0 at h
 split at h
 ·cases h;exact .inl ⟨by assumption,rfl⟩
 ·exact .inr h
theorem mu0_le (l:Ai.Loc):(Qy.mu0 l).le (mu0 l):=fun A q h=>by
 unfold mu0;rw [if_neg ?_]
 ·exact h
 ·rintro rfl
  rcases Qy.mu0_inv h with ⟨h,_⟩ | ⟨h,_⟩ | ⟨h,_⟩ | ⟨h,_⟩ <;> cases h
theorem vH {m:Int} {A:Nat} {b:Blk} (h:(h0 m).t.get A=some b):(A=4∧b=.row [.int .i64 m] .ro)∨Qy.h0.t.get A=some b:=by
 rcases Tr.get_set h with h | ⟨_,h⟩
 ·exact .inl h
 ·exact .inr h
theorem pAj {A:Nat} {b:Blk} (h:Qy.h0.t.get A=some b):(∃ cs,b=.row cs .ro)∧A<4:=by
 rcases Qy.vH h with ⟨rfl,rfl⟩ | ⟨rfl,rfl⟩
 ·exact ⟨⟨_,rfl⟩,by decide⟩
 ·exact ⟨⟨_,rfl⟩,by decide⟩
theorem h0_rof {m:Int}:Rof (h0 m):=by
 refine ⟨fun A b hA=>?_,fun A hA=>?_⟩
 ·rcases vH hA with ⟨_,rfl⟩ | h
  ·exact ⟨_,rfl⟩
  ·exact (pAj h).1
 ·cases hb:(h0 m).t.get A with
  | none=>rfl
  | some b=>
   have h1:(5:Nat)≤A:=hA;rcases vH hb with ⟨h,_⟩ | h
   ·omega
   ·have:=(pAj h).2;omega
theorem gBc {W:World} {l:Ai.Loc} (hr:HR (Qy.mu0 l) Qy.h0 W) {m:Int} {e:TypeId} (hsh:W.shape? 0=some (e,1)) (hc:W.cell? ⟨0,0,none⟩=some (.int .i64 m)):HR (mu0 l) (h0 m) W:=by
 refine ⟨fun A q hA=>?_,fun A B la lb ba bb hA hB gA gB _ _ hne hb=>?_,fun A q b hA hb=>?_,fun x hx=>?_⟩
 ·rcases mu0_inv hA with ⟨rfl,rfl⟩ | h
  ·refine ⟨by show 4<5;omega,?_⟩
   unfold World.shape? at hsh
   cases hq:W.heap[0]? with
   | none=>rw [hq] at hsh;cases hsh
   | some o=>exact (Array.getElem?_eq_some_iff.1 hq).1
  ·obtain ⟨h1,h2⟩:=hr.dom A q h
   exact ⟨by show A<5;have h1:A<4:=h1;omega,h2⟩
 ·have ro:∀ {C:Nat} {c:Blk},(h0 m).t.get C=some c→c.isRo=true:=fun g=>by
   rcases vH g with ⟨_,rfl⟩ | h
   ·rfl
   ·obtain ⟨⟨cs,rfl⟩,_⟩:=pAj h;rfl
  exact ⟨ro gA,ro gB⟩
 ·rcases vH hb with ⟨rfl,rfl⟩ | h
  ·rcases mu0_inv hA with ⟨_,rfl⟩ | h
   ·refine ⟨⟨e,hsh⟩,Nat.le_refl _,fun i x hx=>?_⟩
    cases i with
    | zero=>
     have:x=.int .i64 m:=by simpa using hx.symm
     subst this;exact ⟨_,hc,by simp only [VR]⟩
    | succ i=>simp at hx
   ·rcases Qy.mu0_inv h with ⟨h,_⟩ | ⟨h,_⟩ | ⟨h,_⟩ | ⟨h,_⟩ <;> cases h
  ·rcases mu0_inv hA with ⟨rfl,_⟩ | hA
   ·have:=(pAj h).2;omega
   ·exact BR.mono (mu0_le l) (hr.blk A q b hA h)
 ·simp only [h0,List.mem_cons,List.not_mem_nil,or_false] at hx
  rcases hx with rfl | rfl | rfl | rfl <;> rfl
theorem bA2 {m:Int} {h:Heap} (hl:HLe (h0 m) h):Qk.pinned h=true∧5≤h.next:=by
 refine ⟨?_,hl.next⟩;have g4:h.t.get 4=some (.row [.int .i64 m] .ro):=hl.get 4 _ rfl;have g0:h.t.get 0=Qy.h0.t.get 0:=hl.get 0 _ rfl;have g2:h.t.get 2=Qy.h0.t.get 2:=hl.get 2 _ rfl;have h1:Qw.pinned Qy.h0=true:=Qy.gAc;unfold Qk.pinned Qw.pinned Qx.pinned;rw [hl.pins,g0,g2,g4];rfl
end Qj
namespace Qp
open Go.Proofs.YtkcjphhjmlienaaGreatDoor
theorem jAc {P:Program} {w:World} {g:Nat} {t:TypeId} {zero:Array Value} {k:IntKind} (h:w.ShapedOpen P) (hg:g<P.globals.size)
  (h0:((begin P (fun _ _=>0) default).world.heap[g]?).bind Obj.row? = some (zero,t)) (hz:zero.size=1)
  (hb:P.buildable t=true) (hc:P.cellTypes P.depth t=some [t]) (hu:P.underlying t=some (.int k)):(∃ n,w.cell? ⟨g,0,none⟩=some (.int k n))∧∃ e,w.shape? g=some (e,1):=by
 obtain ⟨cs,hh,hs,hr⟩:=h.1 g zero t hg h0;obtain ⟨ts,hts,_,hall⟩:=hr hb;rw [hc] at hts;cases hts;have h1:0<cs.size:=by omega
 obtain ⟨u,hu',hok⟩:=hall 0 cs[0] (by simp [h1])
 have:u=t:=by simpa using hu'.symm
 subst this;have hcell:w.cell? ⟨g,0,none⟩=some cs[0]:=by simp [World.cell?,hh,h1]
 refine ⟨?_,u,?_⟩
 ·rw [hcell]
  unfold Cell.ok at hok;rw [hu] at hok;cases hv:cs[0] <;> rw [hv] at hok <;> first
   | (simp at hok;done)
   | (obtain ⟨rfl,_⟩:=hok;exact ⟨_,rfl⟩)
 ·simp only [World.shape?,hh]
  rw [hs,hz]
def maxOf (W:World):Int:=match W.cell? ⟨0,0,none⟩ with
 | some (.int _ m)=>m
 | _=>0
theorem start_hr5 {W:World} (h:laidMetH Tryz.prog Rows.parseDeepRow.laid W) (hs:W.ShapedOpen Tryz.prog):HR (Qj.mu0 (yAw W)) (Qj.h0 (maxOf W)) W:=by
 obtain ⟨⟨m,hm⟩,e,he⟩:=jAc (P:=Tryz.prog) (g:=0) (t:=3) (k:=.i64) (zero:=#[.int .i64 0]) hs (by rw [fBc];omega) (by kernel_rfl) rfl (by kernel_rfl) (by kernel_rfl) Tryz.underlying3;have em:maxOf W=m:=by unfold maxOf;rw [hm]
 rw [em];exact Qj.gBc (start_hr h hs) he hm
theorem start_pinned5 {m:Int} {h:Heap} (hl:HLe (Qj.h0 m) h):Qk.pinned h=true∧5≤h.next:=Qj.bA2 hl
end Qp
end Go.Proofs.YtkcjphhjmlienaaGreatDoor
