import Derived.Test.YtkcjphhjmlienaaGreatDoorXQp3
import Derived.Test.YtkcjphhjmlienaaGreatDoorXQp1
import Derived.Test.YtkcjphhjmlienaaGreatDoorAi2
import Derived.Test.YtkcjphhjmlienaaGreatDoorRows
import Derived.LaidMore
import Derived.Lib.LaidTab
/- Functions of the program as plain functions, and what they come to; part 4. -/
namespace Go.Proofs.YtkcjphhjmlienaaGreatDoor
set_option linter.unusedVariables false
set_option linter.unusedSimpArgs false
set_option maxRecDepth 20000
open Go Ai Go.Proofs
namespace Qp
theorem dB0:E.und 22=some (.slice 72):=by kernel_rfl
theorem eB0:E.und 23=some (.slice 44):=by kernel_rfl
theorem fB0:E.size 72=some 5:=by kernel_rfl
theorem gB0:E.size 44=some 10:=by kernel_rfl
section
variable {N:Nat} {h:Heap} {V:Nat→Prop}
theorem iB0 {s:SL} {xs:List D} (x:Sl h V s xs) {i:Nat} (hi:i<xs.length) {A off:Nat} (ha:s.a=some (A,off)):Sl h V ⟨some (A,off+i * s.sz),1,s.cap-i,s.sz⟩ [xs[i]]:=by
 obtain ⟨vs,hs,he⟩:=x.els;obtain ⟨cs,h1,h2,rest,h3⟩:=he.at i hi;have hl:i<s.len:=by rw [x.len];exact hi
 have hcap:=x.cap;have hvl:=he.length;obtain ⟨g2,g3,g4⟩:=hs;obtain ⟨g5,bs,h5,h6⟩:=g4 A off ha;have hle:i * s.sz+s.sz≤s.len * s.sz:=by rw [← Nat.succ_mul];exact Nat.mul_le_mul_right _ hl
 have hlen:((bs.drop off).take vs.length).length=vs.length:=by rw [h6]
 rw [List.length_take,List.length_drop] at hlen;refine ⟨rfl,(show 1≤s.cap-i by omega),fun B hB=>x.blk B ?_,cs,⟨by show cs.length=1 * s.sz;omega,(fun hn=>by cases hn),fun B o hB=>?_⟩,?_⟩
 ·have:some A=some B:=hB
  rw [← this];simp [SL.blk,ha]
 ·simp only [Option.some.injEq,Prod.mk.injEq] at hB
  obtain ⟨rfl,rfl⟩:=hB;refine ⟨g5,bs,h5,?_⟩;have e1:(vs.drop (i * s.sz)).take s.sz=cs:=by
   rw [h3,List.take_append_of_le_length (by omega),List.take_of_length_le (by omega)]
  rw [h1,← e1,← h6,List.drop_take,List.take_take,List.drop_drop,Nat.min_eq_left (by omega)]
 ·simp only [De]
  exact ⟨cs,[],(List.append_nil _).symm,h1,h2,rfl⟩
theorem aA6 {st et n:Nat} (hu:E.und st=some (.slice et)) (hz:E.size et=some n) {s:SL} {xs:List D} (x:Sl h V s xs) {i:Nat} (hi:i<xs.length) (hs:s.sz=n):∃ t:SL,rD E h st (.slice s.a s.len s.cap s.sz) (some (.int .i64 (i:Int))) (some (.int .i64 ((i+1:Nat):Int)))=some (.slice t.a t.len t.cap t.sz)∧Sl h V t [xs[i]]:=by
 have h1:=x.isSome (by omega);have hl:i<s.len:=by rw [x.len];exact hi
 have hcap:=x.cap
 cases ha:s.a with
 | none=>rw [ha] at h1;cases h1
 | some q=>
  obtain ⟨A,off⟩:=q;refine ⟨_,?_,iB0 x hi ha⟩;have hb:Nat.beq n s.sz=true:=by rw [hs];exact Nat.beq_refl n
  simp only [rD,hu,hz,hb,cond_true,tG (show i+1≤s.cap by omega),tG (show i≤i+1 by omega),Nat.add_sub_cancel_left]
theorem kA2 (hN:3001≤N) {G:Heap} {v:AV} (pk:PK G) (f:FaultAt G v 5 0):∃ h',f15 N G=some (true,h')∧Chg [] G h'∧f18 N v 5 0 h'=some (true,h'):=by
 obtain ⟨h',e,c⟩:=bAd hN pk;exact ⟨h',e,c,uAv (e:=some (5,0)) (show FaultAt h' v 5 0 from f.chg c) (r:=(5,0,())) ⟨rfl,rfl⟩ (by omega)⟩
theorem eAa (hN:3001≤N) {P:Nat} {s1 s2:SL} {xs:List D} (hx:∀ x∈xs,lR x) (hl:xs.length≤256) {v3:Bs} {v4:AV}:∀ (M i:Nat) (acc:Bs) (h:Heap),i≤xs.length→xs.length-i<M→h.own P [SL.av s1,SL.av s2]→Sl h V s1 xs→PK h→acc.length≤i * 1048576→
  ∃ o b acc' h',jAn N M (some (P,0)) false v3 v4 acc (i:Int) h=some (o,(some (P,0),b,v3,v4,acc',()),h')∧Chg [] h h'∧((o=.exit 0∧b=false∧acc'=acc++((xs.drop i).map stX).flatten∧acc'.length≤xs.length * 1048576)∨(o=.ret∧b=true)):=by
 intro M
 induction M with
 | zero=>intro i acc h _ h;omega
 | succ M ih=>
  intro i acc h hi hM o x pk hacc;rw [rAe];unfold qA9;have rd:h.cell (P,0)=some (.slice s1.a s1.len s1.cap s1.sz):=o.cell 0;have hv:s1.len=xs.length:=x.len;have z:ltInt (i:Int) (Int.ofNat s1.len)=decide (i<xs.length):=by rw [hv];exact aC i _
  simp only [fA,Nat.zero_add,Nat.add_zero,rd,bA,jA,z]
  by_cases q:i<xs.length
  ·simp only [q,decide_true,cond_true]
   have hm:=List.getElem_mem q;have hsz:s1.sz=5:=by
    obtain ⟨cs,e⟩:=x.elt q;obtain ⟨r,hc⟩:=rA4.inv (gA2 (hx _ hm)) e.dt;rw [← e.len,hc];rfl
   rw [eB (by omega)];obtain ⟨t,et,xt⟩:=aA6 dB0 fB0 x q hsz;rw [et];simp only [bA,jA];obtain ⟨r,H1,e1,c1,pr⟩:=aAd (N:=N) hN (xs:=[xs[i]]) (ys:=[]) (fun y hy=>by rw [List.mem_singleton.1 hy];exact hx _ hm) (by simp) (fun y hy=>by rw [List.mem_singleton.1 hy];exact gA2 (hx _ hm)) (by simp) (by simp) pk xt (Sl.nil _ _ 0);have e1':f16 N (⟨t.a,t.len,t.cap,t.sz⟩,⟨none,0,0,0⟩,()) h=some (r,H1):=e1;rw [e1',aA];have hX:crX [xs[i]] []=stX xs[i]:=by simp [crX]
   rw [hX] at pr;rcases pr with ⟨pl,rfl⟩ | ⟨pl,pn,pf⟩
   ·dsimp only
    rw [ne_nil];simp only [bA,kB,cond_false];have hmul:(i+1) * 1048576=i * 1048576+1048576:=by omega
    rw [tB (by omega)];simp only [bA,qA];obtain ⟨o',b,acc',h',e',c',hh⟩:=ih (i+1) (acc++stX xs[i]) H1 q (by omega) (o.chg c1 (by simp)) (x.chg c1 (by simp)) (pk.chg c1) (by rw [List.length_append];omega);refine ⟨o',b,acc',h',e',c1.trans c',?_⟩;rcases hh with ⟨h1,h2,h3,h4⟩ | hh
    ·refine .inl ⟨h1,h2,?_,h4⟩
     rw [h3,List.drop_eq_getElem_cons q,List.map_cons,List.flatten_cons,List.append_assoc]
    ·exact .inr hh
   ·obtain ⟨A,hA,oA⟩:=pf
    rw [hA,rZ];simp only [bA,kB,cond_true];obtain ⟨h',e2,c2,e3⟩:=kA2 hN (pk.chg c1) ⟨A,rfl,oA⟩;rw [e2,aA];simp only [cond_true];rw [e3,aA];exact ⟨_,_,_,h',rfl,c1.trans c2,.inr ⟨rfl,rfl⟩⟩
  ·simp only [q,decide_false,cond_false]
   have:xs.drop i=[]:=List.drop_eq_nil_of_le (by omega)
   have hi':i=xs.length:=by omega
   rw [this];exact ⟨_,_,_,h,rfl,Chg.refl _ _,.inl ⟨rfl,rfl,by simp,by rw [← hi'];exact hacc⟩⟩
theorem nAk (d:D) (pub:Bool) (nm:Bs) (lv ps:List D) (ty:D) (bd:List D) (a:Int) (hd:d=fuT pub nm lv ps ty bd a):∃ r,fuX d=hdX d++[32,123]++r:=by
 subst hd;refine ⟨[10]++(bd.map fun d=>Lib.repeatL [9] (0+1)++smX (blX 64) (0+1) d++[10]).flatten++Lib.repeatL [9] 0++[125]++[10],?_⟩;have e:fuX (fuT pub nm lv ps ty bd a)=hdX (fuT pub nm lv ps ty bd a)++[32]++blX (64+1) 0 bd++[10]:=rfl;have e2:blX (64+1) 0 bd=[123,10]++(bd.map fun d=>Lib.repeatL [9] (0+1)++smX (blX 64) (0+1) d++[10]).flatten++Lib.repeatL [9] 0++[125]:=rfl;rw [e,e2];simp
set_option maxHeartbeats 1000000 in
theorem fAa (hN:3001≤N) {P:Nat} {s1 s2:SL} {ys:List D} (hy:∀ y∈ys,mP y) (hl:ys.length≤256) {v3:Bs} {v4:AV}:∀ (M i:Nat) (acc:Bs) (h:Heap),i≤ys.length→ys.length-i<M→h.own P [SL.av s1,SL.av s2]→Sl h V s2 ys→PK h→acc.length≤268435456+i * 1048576→
  ∃ o b acc' h',iAn N M (some (P,0)) false v3 v4 acc (i:Int) h=some (o,(b,v3,v4,acc',()),h')∧Chg [] h h'∧((o=.exit 2∧b=false∧acc'=acc++((ys.drop i).map fuX).flatten)∨(o=.ret∧b=true)):=by
 intro M
 induction M with
 | zero=>intro i acc h _ h;omega
 | succ M ih=>
  intro i acc h hi hM o x pk hacc;rw [qAe];unfold pA9;have rd:∀ {G:Heap},Chg [] h G→G.cell (P,1)=some (.slice s2.a s2.len s2.cap s2.sz):=fun c=>(o.chg c (by simp)).cell 1;have hv:s2.len=ys.length:=x.len;have z:ltInt (i:Int) (Int.ofNat s2.len)=decide (i<ys.length):=by rw [hv];exact aC i _
  simp only [fA,Nat.zero_add,Nat.add_zero,rd (Chg.refl _ _),bA,jA,z]
  by_cases q:i<ys.length
  ·simp only [q,decide_true,cond_true]
   have hm:=List.getElem_mem q;have hmy:=hy _ hm;have his:=iA2 hmy;have hsz:s2.sz=10:=by
    obtain ⟨cs,e⟩:=x.elt q;obtain ⟨r,hc⟩:=kU.inv his e.dt;rw [← e.len,hc];rfl
   rw [eB (by omega)];obtain ⟨t,et,xt⟩:=aA6 eB0 gB0 x q hsz;rw [et];simp only [bA,jA];obtain ⟨r,H1,e1,c1,pr⟩:=aAd (N:=N) hN (xs:=[]) (ys:=[ys[i]]) (by simp) (fun y hy=>by rw [List.mem_singleton.1 hy];exact hmy) (by simp) (fun y hy=>by rw [List.mem_singleton.1 hy];exact his) (by simp) pk (Sl.nil _ _ 0) xt;have e1':f16 N (⟨none,0,0,0⟩,⟨t.a,t.len,t.cap,t.sz⟩,()) h=some (r,H1):=e1;rw [e1',aA];have hX:crX [] [ys[i]]=fuX ys[i]:=by simp [crX]
   rw [hX] at pr
   -- its head
   have x1:=x.chg c1 (by simp);have hixx:∀ {β:Type} (K:Nat×Nat→Option β),ixK s2.a s2.len (i:Int) 10 K=K (s2.at i 10):=fun K=>x1.ix q 10 K;obtain ⟨rv,g,d⟩:=kU.elt x1 q his;simp only [rd c1,bA,jA];rw [hixx,g,rAt];have head:∃ H2,f20 N (tF rv) H1=some (hdX ys[i],H2)∧Chg [] H1 H2∧(hdX ys[i]).length≤700000∧∃ r,fuX ys[i]=hdX ys[i]++[32,123]++r:=by
    generalize ys[i]=y at *;obtain ⟨pub,nm,lv,ps,ty,bd,a,rfl,hn,hlv,hps,hty,hbd,hct⟩:=hmy;have tt:isTy 65 ty:=by
     obtain ⟨pub',nm',lv',ps',ty',bd',a',e,_,_,_,_,h1,_⟩:=his;simp only [fuT,D.t.injEq,List.cons.injEq,D.i.injEq,D.b.injEq,D.s.injEq,D.l.injEq,and_true] at e;obtain ⟨rfl,rfl,rfl,rfl,rfl,rfl,rfl⟩:=e;exact h1
    obtain ⟨u1,u2,u3,rt,hc,y1,y2,yt,y3⟩:=tAb tt d;obtain ⟨rr,hrr⟩:∃ rr:FuR,rr=⟨pub,nm,u1,u2,rt,u3,(a:Int)⟩:=⟨_,rfl⟩;rw [← hrr] at hc;have hr:rv=fuv rr:=kU.inj hc;subst hr;obtain ⟨H2,e2,c2⟩:=iAk (N:=N) (by omega) rr (lv:=lv) (ps:=ps) (ty:=ty) (by rw [hrr];exact hn) hlv hps hty (by rw [hrr];exact y1) (by rw [hrr];exact y2) (by rw [hrr];exact yt);have hhd:eA2 rr.pub rr.nm lv ps ty=hdX (fuT pub nm lv ps ty bd a):=by rw [hrr];rfl
    have l1:=vA5 (pub:=rr.pub) (nm:=rr.nm) (by rw [hrr];exact hn) hlv hps hty;rw [hhd] at e2 l1;exact ⟨H2,e2,c2,l1,nAk _ _ _ _ _ _ _ _ rfl⟩
   obtain ⟨H2,e2,c2,lhd,rest,hfx⟩:=head;have e2':f20 N (rv.1,rv.2.1,rv.2.2.1,rv.2.2.2.1,rv.2.2.2.2.1,rv.2.2.2.2.2.1,rv.2.2.2.2.2.2.1,rv.2.2.2.2.2.2.2.1,rv.2.2.2.2.2.2.2.2.1,rv.2.2.2.2.2.2.2.2.2.1,()) H1=some (hdX ys[i],H2):=e2;rw [e2',aA];have c02:=c1.trans c2;rcases pr with ⟨pl,rfl⟩ | ⟨pl,pn,pf⟩
   ·dsimp only
    rw [ne_nil];simp only [bA,kB,cond_false];have hlen:(fuX ys[i]).length=(hdX ys[i]).length+2+rest.length:=by rw [hfx,List.length_append,List.length_append];rfl
    have hw:bB .i64 (Int.ofNat (hdX ys[i]).length+2)=(((hdX ys[i]).length+2:Nat):Int):=by
     show bB .i64 (((hdX ys[i]).length:Int)+2)=_;rw [lD (by omega) (by omega)];omega
    rw [hw];have zz:ltInt (Int.ofNat (fuX ys[i]).length) (((hdX ys[i]).length+2:Nat):Int)=false:=by
     show ltInt ((fuX ys[i]).length:Int) _=_;rw [aC,decide_eq_false_iff_not];omega
    rw [zz];simp only [cond_false];have t1:(fuX ys[i]).take (hdX ys[i]).length=hdX ys[i]:=by rw [hfx,List.append_assoc,List.take_left]
    have sl1:rD E H2 9 (.str (fuX ys[i])) none (some (.int .i64 (Int.ofNat (hdX ys[i]).length)))=some (.str (hdX ys[i])):=by
     have:=gX (h:=H2) (s:=fuX ys[i]) (j:=(hdX ys[i]).length) (by omega)
     rw [t1] at this;exact this
    rw [sl1];simp only [bA,qA];rw [show aB (hdX ys[i]) (hdX ys[i])=true from eqB.2 rfl];simp only [Bool.not_true,cond_false];have t2:((fuX ys[i]).take ((hdX ys[i]).length+2)).drop (hdX ys[i]).length=[32,123]:=by
     rw [hfx,List.append_assoc,List.take_length_add_append,List.drop_left];rfl
    have sl2:rD E H2 9 (.str (fuX ys[i])) (some (.int .i64 (Int.ofNat (hdX ys[i]).length))) (some (.int .i64 (((hdX ys[i]).length+2:Nat):Int)))=some (.str [32,123]):=by
     have:=lAb (h:=H2) (s:=fuX ys[i]) (i:=(hdX ys[i]).length) (j:=(hdX ys[i]).length+2) (by omega) (by omega)
     rw [t2] at this;exact this
    rw [sl2];simp only [bA,qA];rw [show aB [32,123] [32,123]=true from rfl];simp only [Bool.not_true,cond_false];rw [tB (by omega)];simp only [bA,qA];obtain ⟨o',b,acc',h',e',c',hh⟩:=ih (i+1) (acc++fuX ys[i]) H2 q (by omega) (o.chg c02 (by simp)) (x.chg c02 (by simp)) (pk.chg c02) (by rw [List.length_append];omega);refine ⟨o',b,acc',h',e',c02.trans c',?_⟩;rcases hh with ⟨h1,h2,h3⟩ | hh
    ·refine .inl ⟨h1,h2,?_⟩
     rw [h3,List.drop_eq_getElem_cons q,List.map_cons,List.flatten_cons,List.append_assoc]
    ·exact .inr hh
   ·obtain ⟨A,hA,oA⟩:=pf
    rw [hA,rZ];simp only [bA,kB,cond_true];obtain ⟨h',e3,c3,e4⟩:=kA2 hN (pk.chg c02) ⟨A,rfl,oA.chg c2 (by simp)⟩;rw [e3,aA];simp only [cond_true];rw [e4,aA];exact ⟨_,_,_,h',rfl,c02.trans c3,.inr ⟨rfl,rfl⟩⟩
  ·simp only [q,decide_false,cond_false]
   have:ys.drop i=[]:=List.drop_eq_nil_of_le (by omega)
   rw [this];exact ⟨_,_,_,h,rfl,Chg.refl _ _,.inl ⟨rfl,rfl,by simp⟩⟩
theorem kAt (hN:3001≤N) {xs ys:List D} (hx:∀ x∈xs,rSt x) (hy:∀ y∈ys,rFu y) (hw:wtL xs+wtL ys≤2000000) (hwN:wtL xs+wtL ys<N) {s1 s2:SL} (pk:PK h) (y1:Sl h V s1 xs) (y2:Sl h V s2 ys):∃ h',f4 N (s1,s2,()) h=some (true,h'):=by
 unfold f4;have o:=vA h [SL.av s1,SL.av s2];have c:=uA h (.row [SL.av s1,SL.av s2] .own);have e1:h.push (.row [(.slice s1.a s1.len s1.cap s1.sz),(.slice s2.a s2.len s2.cap s2.sz)] .own)=h.push (.row [SL.av s1,SL.av s2] .own):=rfl;dsimp only;rw [e1];have y1:=y1.chg c (by simp);have y2:=y2.chg c (by simp);have pk:=pk.chg c;generalize h.push (.row [SL.av s1,SL.av s2] .own)=H at *;have rd:∀ {G:Heap},Chg [] H G→G.cells (h.next,0) 2=some (.agg [SL.av s1,SL.av s2]):=fun c=>(o.chg c (by simp)).cells (j:=0) (m:=2) (by simp);have ag:∀ {β:Type} (K:zT1→Option β),dA (.val zJ) (some (.agg [SL.av s1,SL.av s2])) K=K (s1,s2,()):=fun K=>by simp [SL.av]
 rw [rd (Chg.refl _ _),ag];obtain ⟨b1,H1,e1,c1⟩:=gAt (N:=N) (xs:=xs) hN hy hw hwN y1 y2;have e1':f14 N ((s1,s2,()).1,(s1,s2,()).2.1,()) H=some (b1,H1):=e1;rw [e1',aA]
 cases b1 with
 | true=>
  simp only [cond_true];obtain ⟨h',e,_⟩:=bAd hN (pk.chg c1);exact ⟨h',by rw [e];rfl⟩
 | false=>
 simp only [cond_false];rw [rd c1,ag];obtain ⟨b2,H2,e2,c2,hb⟩:=fAt (N:=N) hN hx hy hw hwN (y1.chg c1 (by simp)) (y2.chg c1 (by simp));have e2':f19 N ((s1,s2,()).1,(s1,s2,()).2.1,()) H1=some (b2,H2):=e2;rw [e2',aA];have c02:=c1.trans c2
 cases b2 with
 | false=>
  simp only [Bool.not_false,cond_true];obtain ⟨h',e,_⟩:=bAd hN (pk.chg c02);exact ⟨h',by rw [e];rfl⟩
 | true=>
 obtain ⟨hl,hxs,hys⟩:=hb rfl;simp only [Bool.not_true,cond_false];rw [rd c02,ag];obtain ⟨r,H3,e3,c3,pr⟩:=aAd (N:=N) hN hxs hys (fun x hx=>gA2 (hxs x hx)) (fun y hy=>iA2 (hys y hy)) hl (pk.chg c02) (y1.chg c02 (by simp)) (y2.chg c02 (by simp));have e3':f16 N ((s1,s2,()).1,(s1,s2,()).2.1,()) H2=some (r,H3):=e3;rw [e3',aA];have c03:=c02.trans c3;obtain ⟨o4,b4,acc4,H4,e4,c4,h4⟩:=eAa (N:=N) hN (P:=h.next) (s1:=s1) (s2:=s2) (v3:=r.1) (v4:=r.2.1) hxs (by omega) N 0 [] H3 (Nat.zero_le _) (by omega) (o.chg c03 (by simp)) (y1.chg c03 (by simp)) (pk.chg c03) (by simp);rw [show ((0:Nat):Int)=0 from rfl] at e4;rw [e4,mB];have c04:=c03.trans c4;rcases h4 with ⟨rfl,rfl,hacc,lacc⟩ | ⟨rfl,rfl⟩
 rotate_left
 ·exact ⟨H4,rfl⟩
 simp only [mC,decide_true,cond_true];rw [List.drop_zero,List.nil_append] at hacc;obtain ⟨o5,b5,acc5,H5,e5,c5,h5⟩:=fAa (N:=N) hN (P:=h.next) (s1:=s1) (s2:=s2) (v3:=r.1) (v4:=r.2.1) hys (by omega) N 0 acc4 H4 (Nat.zero_le _) (by omega) (o.chg c04 (by simp)) (y2.chg c04 (by simp)) (pk.chg c04) (by omega);rw [show ((0:Nat):Int)=0 from rfl] at e5;rw [e5,mB];have c05:=c04.trans c5;rcases h5 with ⟨rfl,rfl,hacc5⟩ | ⟨rfl,rfl⟩
 rotate_left
 ·exact ⟨H5,rfl⟩
 rw [List.drop_zero] at hacc5;have hX:acc5=crX xs ys:=by rw [hacc5,hacc];rfl
 simp only [mC,decide_true,cond_true];rcases pr with ⟨pl,rfl⟩ | ⟨pl,pn,pf⟩
 ·dsimp only
  rw [ne_nil];simp only [bA,kB,cond_false];obtain ⟨h',e,_⟩:=bAd hN (pk.chg c05);rw [e,aA,hX];simp only [cond_true];rw [show aB (crX xs ys) (crX xs ys)=true from eqB.2 rfl];exact ⟨h',rfl⟩
 ·obtain ⟨A,hA,oA⟩:=pf
  rw [hA,rZ];simp only [bA,kB,cond_true];obtain ⟨h',e,c',e'⟩:=kA2 hN (pk.chg c05) ⟨A,rfl,(oA.chg c4 (by simp)).chg c5 (by simp)⟩;rw [e,aA];simp only [cond_true];rw [e',aA,hX];have z:ltInt 1048576 (Int.ofNat (crX xs ys).length)=true:=by
   show ltInt ((1048576:Nat):Int) ((crX xs ys).length:Int)=true;rw [aC,decide_eq_true_eq];exact pl
  rw [z];exact ⟨h',rfl⟩
end
end Qp
set_option maxRecDepth 100000
open Go.ChangeShapes Go.WideShapes
namespace Qv
def h0 (m:Int):Heap:={ t:=Tr.set (Tr.set .nil 4 (.row [.int .i64 m] .ro)) 5 (.row Qb.tab .ro),next:=6,pins:=[(4,Qk.tAt),(5,Qb.tabLoc)] }
def mu0:Mu:=fun A=>if A=4 then some Qk.tAt else if A=5 then some Qb.tabLoc else none
theorem mu0_inv {A:Nat} {q:Ai.Loc} (h:mu0 A=some q):(A=4∧q=Qk.tAt)∨(A=5∧q=Qb.tabLoc):=by
 unfold mu0 at h
 split at h
 ·cases h;exact .inl ⟨by assumption,rfl⟩
 ·split at h
  ·cases h;exact .inr ⟨by assumption,rfl⟩
  ·cases h
theorem vT {m:Int} {A:Nat} {b:Blk} (h:(h0 m).t.get A=some b):(A=4∧b=.row [.int .i64 m] .ro)∨(A=5∧b=.row Qb.tab .ro):=by
 rcases Tr.get_set h with h | ⟨_,h⟩
 ·exact .inr h
 ·rcases Tr.get_set h with h | ⟨_,h⟩
  ·exact .inl h
  ·simp [Tr.get_nil] at h
theorem jB0 {m:Int} {A:Nat} {b:Blk} (h:(h0 m).t.get A=some b):∃ cs,b=.row cs .ro:=by
 rcases vT h with ⟨_,rfl⟩ | ⟨_,rfl⟩ <;> exact ⟨_,rfl⟩
theorem h0_rof {m:Int}:Rof (h0 m):=by
 refine ⟨fun A b hA=>jB0 hA,fun A hA=>?_⟩
 cases hb:(h0 m).t.get A with
 | none=>rfl
 | some b=>
  have h1:(6:Nat)≤A:=hA;rcases vT hb with ⟨h,_⟩ | ⟨h,_⟩ <;> omega
theorem hr_of {w:World} (ht:Lib.TabIs Tryz.prog w "internal/strconv.uint64pow10" .u64 Lib.pow10Tab) {m:Int} {e0:TypeId} (hsh:w.shape? 0=some (e0,1)) (hc:w.cell? ⟨0,0,none⟩=some (.int .i64 m)):HR mu0 (h0 m) w:=by
 unfold Lib.TabIs World.var? at ht;rw [Qb.gTab_is] at ht;have ht:(match w.heap[Qb.gTab]? with | some (.cells cs _ _)=>some cs | _=>none)=some ((Lib.pow10Tab.map fun z=>Value.int .u64 z).toArray):=ht
 cases hq:w.heap[Qb.gTab]? with
 | none=>rw [hq] at ht;cases ht
 | some o=>
  rw [hq] at ht
  cases o with
  | cells cs e fz=>
   simp only [Option.some.injEq] at ht;subst ht;have hl:=Lib.pow10Tab_length;refine ⟨?_,?_,?_,?_⟩
   ·intro A l hA
    rcases mu0_inv hA with ⟨rfl,rfl⟩ | ⟨rfl,rfl⟩
    ·refine ⟨by show 4<6;omega,?_⟩
     unfold World.shape? at hsh
     cases hq0:w.heap[0]? with
     | none=>rw [hq0] at hsh;cases hsh
     | some o=>exact (Array.getElem?_eq_some_iff.1 hq0).1
    ·exact ⟨by show 5<6;omega,(Array.getElem?_eq_some_iff.1 hq).1⟩
   ·intro A B la lb ba bb hA hB gA gB _ _ hne hb
    have ro:∀ {C:Nat} {c:Blk},(h0 m).t.get C=some c→c.isRo=true:=fun g=>by
     obtain ⟨cs,rfl⟩:=jB0 g;rfl
    exact ⟨ro gA,ro gB⟩
   ·intro A l b hA hb
    rcases mu0_inv hA with ⟨rfl,rfl⟩ | ⟨rfl,rfl⟩
    ·rcases vT hb with ⟨_,rfl⟩ | ⟨h,_⟩
     ·refine ⟨⟨e0,hsh⟩,Nat.le_refl _,fun i x hx=>?_⟩
      cases i with
      | zero=>
       have:x=.int .i64 m:=by simpa using hx.symm
       subst this;exact ⟨_,hc,by simp only [VR]⟩
      | succ i=>simp at hx
     ·cases h
    ·rcases vT hb with ⟨h,_⟩ | ⟨_,rfl⟩
     ·cases h
     ·refine ⟨⟨e,?_⟩,?_,?_⟩
      ·show w.shape? Qb.gTab=_
       simp only [World.shape?,hq];simp [hl,Qb.tabLoc]
      ·show 0+Qb.tab.length≤20
       rw [Qb.tab_len];omega
      ·intro i x hx
       refine ⟨.int .u64 (Lib.pow10Tab.getD i 0),?_,?_⟩
       ·show w.cell? ⟨Qb.gTab,0+i,none⟩=_
        have hi:i<20:=by have:=(List.getElem?_eq_some_iff.1 hx).1;rw [Qb.tab_len] at this;exact this
        simp only [World.cell?,hq,Option.isSome_none,Bool.false_eq_true,if_false,Nat.zero_add];simp [hl,hi]
       ·unfold Qb.tab at hx
        rw [List.getElem?_map] at hx
        cases hz:Lib.pow10Tab[i]? with
        | none=>rw [hz] at hx;cases hx
        | some z=>
         rw [hz] at hx;simp only [Option.map_some,Option.some.injEq] at hx;subst hx;simp only [VR];rw [List.getD_eq_getElem?_getD,hz];rfl
   ·intro x hx
    simp only [h0,List.mem_cons,List.not_mem_nil,or_false] at hx;rcases hx with rfl | rfl <;> rfl
  | _=>cases ht
end Qv
namespace Qp
open Go.Proofs.YtkcjphhjmlienaaGreatDoor
theorem kB0:(Tryz.prog.globals[Qb.gTab]?).map (·.type)=some 264:=by kernel_rfl
theorem lB0:∃ e,Tryz.prog.underlying 264=some (.array 20 e)∧Tryz.prog.underlying e=some (.int .u64)∧Tryz.prog.cellsOf e=1:=by
 have:(match Tryz.prog.underlying 264 with | some (.array n e)=>Nat.beq n 20&&(match Tryz.prog.underlying e with | some (.int .u64)=>Nat.beq (Tryz.prog.cellsOf e) 1 | _=>false) | _=>false)=true:=by kernel_rfl
 split at this
 ·rename_i n e hu
  simp only [Bool.and_eq_true] at this;obtain ⟨h1,h2⟩:=this;have hn:n=20:=Nat.eq_of_beq_eq_true h1;subst hn
  split at h2
  ·rename_i he
   exact ⟨e,hu,he,Nat.eq_of_beq_eq_true h2⟩
  ·cases h2
 ·cases this
theorem yAn:Tryz.prog.cellsOf 264=20:=by kernel_rfl
theorem mB0 {W:World} (h:laidMetH Tryz.prog Rows.printItemsUptoRow.laid W):Lib.TabIs Tryz.prog W "internal/strconv.uint64pow10" .u64 Lib.pow10Tab:=by
 rw [MakeChecks.laidMetH_plain _ _ _ (by kernel_rfl)] at h;obtain ⟨ps,⟨_,_,_,_,_,_,_,_,_,_,⟨_,_,_,_,_,_,_,_,_,_,⟨g',t',cs,fuel,p,q,hg',ht',hvar,hd,_,_⟩,_⟩,_⟩,_⟩:=h;obtain rfl:=Option.some.inj (Qb.gTab_is.symm.trans hg');obtain rfl:=Option.some.inj (kB0.symm.trans ht');obtain ⟨e,hu,he,hce⟩:=lB0;unfold Lib.TabIs;rw [hvar]
 have:=Lib.cells_of_tab (k:=.u64) (zs:=Lib.pow10Tab) hu he hce yAn hd
 rw [← this]
theorem nB0:Tryz.prog.globals.size=7:=by kernel_rfl
theorem lA2 {P:Program} {w:World} {g:Nat} {t:TypeId} {zero:Array Value} {k:IntKind} (h:w.ShapedOpen P) (hg:g<P.globals.size)
  (h0:((begin P (fun _ _=>0) default).world.heap[g]?).bind Obj.row? = some (zero,t)) (hz:zero.size=1)
  (hb:P.buildable t=true) (hc:P.cellTypes P.depth t=some [t]) (hu:P.underlying t=some (.int k)):(∃ n,w.cell? ⟨g,0,none⟩=some (.int k n))∧∃ e,w.shape? g=some (e,1):=by
 obtain ⟨cs,hh,hs,hr⟩:=h.1 g zero t hg h0;obtain ⟨ts,hts,_,hall⟩:=hr hb;rw [hc] at hts;cases hts;have h1:0<cs.size:=by omega
 obtain ⟨u,hu',hok⟩:=hall 0 cs[0] (by simp [h1])
 have:u=t:=by simpa using hu'.symm
 subst this;have hcell:w.cell? ⟨g,0,none⟩=some cs[0]:=by simp [World.cell?,hh,h1]
 refine ⟨?_,u,?_⟩
 ·rw [hcell]
  unfold Cell.ok at hok;rw [hu] at hok;cases hv:cs[0] <;> rw [hv] at hok <;> first
   | (simp at hok;done)
   | (obtain ⟨rfl,_⟩:=hok;exact ⟨_,rfl⟩)
 ·simp only [World.shape?,hh]
  rw [hs,hz]
def dB5 (W:World):Int:=match W.cell? ⟨0,0,none⟩ with
 | some (.int _ m)=>m
 | _=>0
theorem start_hr6 {W:World} (h:laidMetH Tryz.prog Rows.printItemsUptoRow.laid W) (hs:W.ShapedOpen Tryz.prog):HR Qv.mu0 (Qv.h0 (dB5 W)) W:=by
 obtain ⟨⟨m,hm⟩,e,he⟩:=lA2 (P:=Tryz.prog) (g:=0) (t:=3) (k:=.i64) (zero:=#[.int .i64 0]) hs (by rw [nB0];omega) (by kernel_rfl) rfl (by kernel_rfl) (by kernel_rfl) Tryz.underlying3;have em:dB5 W=m:=by unfold dB5;rw [hm]
 rw [em];exact Qv.hr_of (mB0 h) he hm
theorem start_pinned6 {m:Int} {h:Heap} (hl:HLe (Qv.h0 m) h):Qk.pinned h=true∧(6≤h.next∧(5,Qb.tabLoc)∈h.pins∧h.t.get 5=some (.row Qb.tab .ro)):=by
 have g4:h.t.get 4=some (.row [.int .i64 m] .ro):=hl.get 4 _ rfl;have g5:h.t.get 5=some (.row Qb.tab .ro):=hl.get 5 _ rfl;refine ⟨?_,hl.next,by rw [hl.pins];exact List.mem_cons_of_mem _ (List.mem_singleton.2 rfl),g5⟩;unfold Qk.pinned;rw [hl.pins,g4];rfl
theorem itemsprint_true {H:Type} (h:Heap) (hp:Qk.pinned h=true) (h2:6≤h.next∧(5,Qb.tabLoc)∈h.pins∧h.t.get 5=some (.row Qb.tab .ro)) (vs:List AV) (ds:List (DataW H)) (hb:Rows.uptoBulkAll ds≤1048576) (hr:RdArgs Tryz.prog h [25] vs ds):∃ xs h',VTy.tos [zJ] xs=vs∧(fun (x:wE [zJ]) h=>f4 3000000 x.1 h) xs h=some (true,h'):=by
 obtain ⟨cs1,d1,vs1,ds1,rfl,rfl,r1,hr⟩:=hr.cons_inv;obtain ⟨rfl,rfl⟩:=hr.nil_inv;simp only [Rows.uptoBulkAll] at hb;obtain ⟨y,y1,y2,y3,_⟩:=uB2 wB4 r1 (by simp);obtain ⟨xs,ys,rfl,hx,hy⟩:=jB7 y1;have hw:wtL xs+wtL ys<wtD (crD xs ys):=by simp only [crD,wtD,wtL];omega
 simp only [crD,Dt,Dp] at y2;obtain ⟨_,_,rfl,z1,_,_,rfl,z2,rfl⟩:=y2;obtain ⟨s1,rfl,x1⟩:=dA0 z1;obtain ⟨s2,rfl,x2⟩:=dA0 z2;obtain ⟨h',e⟩:=kAt (N:=3000000) (by decide) hx hy (by omega) (by omega) ⟨hp,h2⟩ x1 x2;refine ⟨((s1,s2,()),()),h',?_,e⟩;rw [eA4 yB5];rfl
end Qp
end Go.Proofs.YtkcjphhjmlienaaGreatDoor
