import Derived.Test.YtjipnkhkkhpenaaGreatDoorXVp2
import Derived.Test.YtjipnkhkkhpenaaGreatDoorAi3
import Derived.Test.YtjipnkhkkhpenaaGreatDoorXVp1
import Derived.Test.YtjipnkhkkhpenaaGreatDoorRows
import Derived.LaidMore
import Derived.LaidHandle
/- Functions of the program as plain functions, and what they come to; part 3. -/
namespace Go.Proofs.YtjipnkhkkhpenaaGreatDoor
set_option linter.unusedVariables false
set_option linter.unusedSimpArgs false
open Go Ai Go.Proofs
set_option maxRecDepth 20000
namespace Vp
def rdP (b:Bs):Option Vd:=
 let o1:=sT b 4 (some 0)
 let a1:=o1.getD 0
 let o2:=sU b (some a1)
 let a2:=o2.getD a1
 let o3:=sU b (some a2)
 let a3:=o3.getD a2
 let o4:=sN b 64 (some a3)
 let a4:=o4.getD a3
 bif o1.isNone then none else bif o2.isNone then none else bif o3.isNone then none else bif o4.isNone then none else bif !decide (vT b 4 (some 0)=ver_) then none else
 match pRs b (vN b 64 (some a3)) a4 with
 | none=>none
 | some (l,a5)=>bif (sH b (some a5)).isNone then none else some ⟨dec (vU b (some a1)),dec (vU b (some a2)),l,vH b (some a5)⟩
def getQ (b:Bs):Option Vd:=match rdP b with
 | none=>none
 | some v=>bif mayV v&&decide (putV v=b) then some v else none
theorem VC.chgM {h h':Heap} {x:dens T35} {xs:List (dens T36)} {v:Vd} {M:List Nat} (p:VC h x xs v) (c:Chg M h h') (h1:∀ B,x.2.2.1.blk=some B→B ∉ M) (h2:∀ y∈xs,∀ B,y.2.2.2.1.blk=some B→B ∉ M):VC h' x xs v:=
 ⟨p.code,p.at_,⟨p.rs.len,p.rs.sz,p.rs.sees.chg c h1,p.rs.eqn,fun i a b=>(p.rs.rcs i a b).chgM c (h2 _ (List.getElem_mem a))⟩,p.root⟩
def New (lo:Nat) (x:dens T35) (xs:List (dens T36)):Prop:=(∀ B,x.2.2.1.blk=some B→lo≤B)∧∀ y∈xs,∀ B,y.2.2.2.1.blk=some B→lo≤B
section
variable {N:Nat} {h:Heap} {b:Bs}
theorem f39_eq {a0:SL} (x0:One h a0 (ofBytes b)) (hb:b.length≤10000000) (hN:3000≤N) :
  (∃ v x xs h',rdP b=some v∧f39 N a0 h=some ((x,true,()),h')∧VC h' x xs v∧New h.next x xs∧Chg [] h h')∨
  (∃ x h',rdP b=none∧f39 N a0 h=some ((x,false,()),h')∧Chg [] h h'):=by
 have c1:=chg_push h (.row (CTy.tos T35 zero35) .own)
 have w1:=own35 h zero35
 have n1:(h.push (.row (CTy.tos T35 zero35) .own)).next=h.next+1:=rfl
 generalize hh1:h.push (.row (CTy.tos T35 zero35) .own)=h1 at *
 obtain ⟨A,h3,e3,q3,c3,hA⟩:=f65_eq (N:=N) (One.chgM x0 c1 (by simp)) hb
 have hAl:A<h3.next:=by obtain ⟨s,p1,_⟩:=q3;exact p1.2
 have c4:=chg_push h3 (.row (CTy.tos T35 zero35) .own)
 have w4:=own35 h3 zero35
 have n4:(h3.push (.row (CTy.tos T35 zero35) .own)).next=h3.next+1:=rfl
 generalize hh4:h3.push (.row (CTy.tos T35 zero35) .own)=h4 at *
 generalize hV:h3.next=V at *
 have q4:=q3.chg c4
 have b4:=c3.trans c4
 have nV:V ∉ [A]:=by simp;omega
 have cA:∀ {H H':Heap},Chg [] h1 H→Chg [A] H H'→Chg [] h1 H':=fun x y=>x.new y (by simpa using hA)
 have cV:∀ {H H':Heap},Chg [] h1 H→Chg [V] H H'→Chg [] h1 H':=fun x y=>x.new y (by simp;omega)
 obtain ⟨er1,h6,e6,t6,q6,g6⟩:=f66_ru (N:=N) q4 (lim:=4) (by omega) (by omega)
 obtain ⟨er2,h8,e8,t8,q8,g8⟩:=f67_ru (N:=N) q6 (by omega)
 obtain ⟨er3,h10,e10,t10,q10,g10⟩:=f67_ru (N:=N) q8 (by omega)
 obtain ⟨er4,h12,e12,t12,q12,g12⟩:=f68_ru (N:=N) q10 (lim:=64) (by omega) (by omega)
 have b12:=cA (cA (cA (cA b4 g6) g8) g10) g12
 have r12:=(((w4.chg g6 nV).chg g8 nV).chg g10 nV).chg g12 nV
 have hR:rdP b=(bif (sT b 4 (some 0)).isNone then none else bif (sU b (some ((sT b 4 (some 0)).getD 0))).isNone then none else bif (sU b (some ((sU b (some ((sT b 4 (some 0)).getD 0))).getD ((sT b 4 (some 0)).getD 0)))).isNone then none else bif (sN b 64 (some ((sU b (some ((sU b (some ((sT b 4 (some 0)).getD 0))).getD ((sT b 4 (some 0)).getD 0)))).getD ((sU b (some ((sT b 4 (some 0)).getD 0))).getD ((sT b 4 (some 0)).getD 0))))).isNone then none else bif !decide (vT b 4 (some 0)=ver_) then none else
  match pRs b (vN b 64 (some ((sU b (some ((sU b (some ((sT b 4 (some 0)).getD 0))).getD ((sT b 4 (some 0)).getD 0)))).getD ((sU b (some ((sT b 4 (some 0)).getD 0))).getD ((sT b 4 (some 0)).getD 0))))) ((sN b 64 (some ((sU b (some ((sU b (some ((sT b 4 (some 0)).getD 0))).getD ((sT b 4 (some 0)).getD 0)))).getD ((sU b (some ((sT b 4 (some 0)).getD 0))).getD ((sT b 4 (some 0)).getD 0))))).getD ((sU b (some ((sU b (some ((sT b 4 (some 0)).getD 0))).getD ((sT b 4 (some 0)).getD 0)))).getD ((sU b (some ((sT b 4 (some 0)).getD 0))).getD ((sT b 4 (some 0)).getD 0)))) with
  | none=>none
  | some (l,a5)=>bif (sH b (some a5)).isNone then none else some ⟨dec (vU b (some ((sT b 4 (some 0)).getD 0))),dec (vU b (some ((sU b (some ((sT b 4 (some 0)).getD 0))).getD ((sT b 4 (some 0)).getD 0)))),l,vH b (some a5)⟩):=rfl
 generalize ha1:(sT b 4 (some 0)).getD 0=a1 at *
 generalize ho2:sU b (some a1)=o2 at *
 generalize hcd:dec (vU b (some a1))=cd at *
 generalize ha2:o2.getD a1=a2 at *
 generalize ho3:sU b (some a2)=o3 at *
 generalize hat:dec (vU b (some a2))=at_ at *
 generalize ha3:o3.getD a2=a3 at *
 have hcl:=vN_le b 64 (some a3)
 generalize ho4:sN b 64 (some a3)=o4 at *
 generalize hcn:vN b 64 (some a3)=cn at *
 generalize ha4:o4.getD a3=a4 at *
 generalize ho1:sT b 4 (some 0)=o1 at *
 have z35:((AV.int .i64 0)::(.int .i64 0)::(.slice none 0 0 0)::CTy.tos T32 z32)=CTy.tos T35 zero35:=rfl
 have out:∀ {H:Heap} (y:dens T35),Chg [] h1 H→H.store (h.next,0) (CTy.tos T35 y)=some (H.put h.next (.row (CTy.tos T35 y) .own))∧(H.put h.next (.row (CTy.tos T35 y) .own)).cells (h.next,0) 35=some (.agg (CTy.tos T35 y))∧Chg [] h (H.put h.next (.row (CTy.tos T35 y) .own)):=fun {H} y ch=>by
  have o:=w1.chg ch (by simp)
  exact ⟨o.store rfl,cellsN35 (own_put o _),(c1.trans ch).step (o.put _) fun B hB hl=>by rw [List.mem_singleton.1 hB] at hl;omega⟩
 rw [show ((4:Nat):Int)=4 from rfl] at e6
 rw [show ((64:Nat):Int)=64 from rfl] at e12
 have k12:=cellsN35 r12
 obtain ⟨u1,u2,u3⟩:=out zero35 b12
 cases hn1:o1.isNone with
 | true=>
  rw [hn1] at t6 hR
  refine .inr ⟨zero35,_,hR,?_,u3⟩
  unfold f39
  simp only [z35,hh1,e3,bind2_some,hh4,hV,e6,e8,e10,e12,t6,bindV_some,cast_bool,cond_true,k12,cast35,u1,need_some,u2]
 | false=>
 rw [hn1] at t6 hR
 cases hn2:o2.isNone with
 | true=>
  rw [hn2] at t8 hR
  refine .inr ⟨zero35,_,hR,?_,u3⟩
  unfold f39
  simp only [z35,hh1,e3,bind2_some,hh4,hV,e6,e8,e10,e12,t6,t8,bindV_some,cast_bool,cond_false,cond_true,k12,cast35,u1,need_some,u2]
 | false=>
 rw [hn2] at t8 hR
 cases hn3:o3.isNone with
 | true=>
  rw [hn3] at t10 hR
  refine .inr ⟨zero35,_,hR,?_,u3⟩
  unfold f39
  simp only [z35,hh1,e3,bind2_some,hh4,hV,e6,e8,e10,e12,t6,t8,t10,bindV_some,cast_bool,cond_false,cond_true,k12,cast35,u1,need_some,u2]
 | false=>
 rw [hn3] at t10 hR
 cases hn4:o4.isNone with
 | true=>
  rw [hn4] at t12 hR
  refine .inr ⟨zero35,_,hR,?_,u3⟩
  unfold f39
  simp only [z35,hh1,e3,bind2_some,hh4,hV,e6,e8,e10,e12,t6,t8,t10,t12,bindV_some,cast_bool,cond_false,cond_true,k12,cast35,u1,need_some,u2]
 | false=>
 rw [hn4] at t12 hR
 have hver:decide (vT b 4 (some 0)=[85,86,69,82])=decide (vT b 4 (some 0)=ver_):=rfl
 cases hd:decide (vT b 4 (some 0)=ver_) with
 | false=>
  rw [hd] at hR hver
  refine .inr ⟨zero35,_,hR,?_,u3⟩
  unfold f39
  simp only [z35,hh1,e3,bind2_some,hh4,hV,e6,e8,e10,e12,t6,t8,t10,t12,eqB,hver,Bool.not_false,bindV_some,cast_bool,cond_false,cond_true,k12,cast35,u1,need_some,u2]
 | true=>
 rw [hd] at hR hver
 simp only [Bool.not_true,cond_false] at hR
 have s33:h12.store (V,0) [.int .i64 cd]=some (h12.put V (.row (CTy.tos T35 (cd,0,⟨none,0,0,0⟩,z32)) .own)):=r12.store1 (j:=0) (by show 0<35;omega) _
 have r33:=own_put r12 (CTy.tos T35 (cd,0,⟨none,0,0,0⟩,z32))
 have g33:=r12.put (CTy.tos T35 (cd,0,⟨none,0,0,0⟩,z32))
 have q33:=q12.chgM g33 (by simpa using hAl)
 have b33:=cV b12 g33
 generalize h12.put V (.row (CTy.tos T35 (cd,0,⟨none,0,0,0⟩,z32)) .own)=h33 at *
 have s34:h33.store (V,1) [.int .i64 at_]=some (h33.put V (.row (CTy.tos T35 (cd,at_,⟨none,0,0,0⟩,z32)) .own)):=r33.store1 (j:=1) (by show 1<35;omega) _
 have r34:=own_put r33 (CTy.tos T35 (cd,at_,⟨none,0,0,0⟩,z32))
 have g34:=r33.put (CTy.tos T35 (cd,at_,⟨none,0,0,0⟩,z32))
 have q34:=q33.chgM g34 (by simpa using hAl)
 have b34:=cV b33 g34
 generalize h33.put V (.row (CTy.tos T35 (cd,at_,⟨none,0,0,0⟩,z32)) .own)=h34 at *
 rcases f39_loop (N:=N) (h0:=h1) (A:=A) (V:=V) (O:=h.next) (b:=b) (T:=cn) hcl hN hAl hA w1 cn 0 N (s:=⟨none,0,0,0⟩) (xs:=[]) (l:=[]) (by omega) (by omega) rfl q34 r34 ⟨Fl.nil h34 0 36,rfl,rfl,fun i a1 a2=>absurd a1 (by simp),fun y hy=>absurd hy (by simp),by simp [SL.blk],by simp [SL.blk]⟩ (by simp [SL.blk]) b34 with ⟨s,xs,l,a5,h65,k1,e65,q65,r65,pB,sB,b65⟩ | ⟨y,h65,k1,e65,o65,b65⟩
 ·rw [List.nil_append] at pB
  obtain ⟨x,eh,h67,hx,e67,t67,q67,g67⟩:=f70_ru (N:=N) q65
  have b67:=cA b65 g67
  have r67:=r65.chg g67 nV
  have pB67:=pB.chg g67 (fun C hC=>.inl (List.mem_singleton.1 hC))
  have c68:=chg_push h67 (.row (CTy.tos T32 z32) .own)
  have w68:=push32 h67 z32
  have n68:(h67.push (.row (CTy.tos T32 z32) .own)).next=h67.next+1:=rfl
  generalize hh68:h67.push (.row (CTy.tos T32 z32) .own)=h68 at *
  generalize hC:h67.next=C at *
  have hVC:V<C:=by rw [← hC];exact r67.2
  have s69:h68.store (C,0) (CTy.tos T32 x)=some (h68.put C (.row (CTy.tos T32 x) .own)):=w68.store rfl
  have w69:=own_put w68 (CTy.tos T32 x)
  have g69:=w68.put (CTy.tos T32 x)
  have c69:Chg [] h67 (h68.put C (.row (CTy.tos T32 x) .own)):=c68.step g69 fun B hB hl=>by rw [List.mem_singleton.1 hB] at hl;omega
  have b69:=b67.trans c69
  have r69:=r67.chg c69 (by simp)
  have pB69:=pB67.chg c69 (by simp)
  generalize h68.put C (.row (CTy.tos T32 x) .own)=h69 at *
  have k69:=c32 w69
  have s72:h69.store (V,3) (CTy.tos T32 x)=some (h69.put V (.row (CTy.tos T35 (cd,at_,s,x)) .own)):=own_storeN r69 (j:=3) (by show 3+32≤35;omega)
  have r72:=own_put r69 (CTy.tos T35 (cd,at_,s,x))
  have g72:=r69.put (CTy.tos T35 (cd,at_,s,x))
  have b72:=cV b69 g72
  have pB72:=pB69.chg g72 (fun C hC=>.inr (.inl (List.mem_singleton.1 hC)))
  generalize h69.put V (.row (CTy.tos T35 (cd,at_,s,x)) .own)=h72 at *
  have k72:=cellsN35 r72
  obtain ⟨v1,v2,v3⟩:=out (cd,at_,s,x) b72
  rw [k1] at hR
  simp only at hR
  have run:f39 N a0 h=some (((cd,at_,s,x),!(sH b (some a5)).isNone,()),h72.put h.next (.row (CTy.tos T35 (cd,at_,s,x)) .own)):=by
   rw [show ((0:Nat):Int)=0 from rfl] at e65
   unfold f39
   simp only [z35,hh1,e3,bind2_some,hh4,hV,e6,e8,e10,e12,t6,t8,t10,t12,eqB,hver,Bool.not_true,bindV_some,cast_bool,cond_false,Nat.zero_add,s33,need_some,s34,e65,bind3_some,eqOut,Nat.beq_refl,cond_true,e67,hh68,hC,s69,k69,cast32,s72,k72,cast35,t67,v1,v2]
  cases hn5:(sH b (some a5)).isNone with
  | true=>
   rw [hn5] at run hR
   exact .inr ⟨_,_,hR,run,v3⟩
  | false=>
   rw [hn5] at run hR
   have oh:=w1.chg b72 (by simp)
   have R:VC h72 (cd,at_,s,x) xs ⟨cd,at_,l,vH b (some a5)⟩:=⟨rfl,rfl,⟨pB72.len,pB72.fl.sees.1,pB72.fl.all,pB72.eqn,pB72.rcs⟩,hx⟩
   refine .inl ⟨_,_,xs,_,hR,run,R.chgM (oh.put (CTy.tos T35 (cd,at_,s,x))) (fun B hB hm=>?_) (fun y hy B hB hm=>?_),⟨fun B hB=>?_,fun y hy B hB=>?_⟩,v3⟩
   ·have:=sB B hB;rw [List.mem_singleton.1 hm] at this;omega
   ·have:=(pB72.bk y hy B hB).2.2.2;rw [List.mem_singleton.1 hm] at this;omega
   ·have:=sB B hB;omega
   ·have:=(pB72.bk y hy B hB).2.2.2;omega
 ·rw [k1] at hR
  simp only at hR
  have k65:=cellsN35 o65
  refine .inr ⟨y,h65,hR,?_,c1.step b65 fun B hB hl=>by rw [List.mem_singleton.1 hB] at hl;omega⟩
  rw [show ((0:Nat):Int)=0 from rfl] at e65
  unfold f39
  simp only [z35,hh1,e3,bind2_some,hh4,hV,e6,e8,e10,e12,t6,t8,t10,t12,eqB,hver,Bool.not_true,bindV_some,cast_bool,cond_false,Nat.zero_add,s33,need_some,s34,e65,bind3_some,eqOut,k65,cast35]
end
end Vp
namespace Vp
section
variable {b:Bs}
theorem pRs_r:∀ {k a:Nat} {l:List Rc} {a':Nat},pRs b k a=some (l,a')→rRs b k (some a)=some (l,some a')
 | 0,a,l,a',h=>by cases h;rfl
 | k+1,a,l,a',h=>by
  unfold pRs at h
  cases hs:sT b 4194304 (some a) with
  | none=>rw [hs] at h;cases h
  | some c=>
   rw [hs] at h
   simp only at h
   cases hg:getD (vT b 4194304 (some a)) with
   | none=>rw [hg] at h;cases h
   | some r=>
    rw [hg] at h
    simp only at h
    obtain ⟨⟨l2,a2⟩,h2,h3⟩:=Option.map_eq_some_iff.1 h
    cases h3
    unfold rRs
    rw [hg,hs]
    simp only [pRs_r h2,Option.map_some]
theorem rRs_p:∀ {k a:Nat} {l:List Rc} {a':Nat},rRs b k (some a)=some (l,some a')→pRs b k a=some (l,a')
 | 0,a,l,a',h=>by cases h;rfl
 | k+1,a,l,a',h=>by
  unfold rRs at h
  cases hg:getD (vT b 4194304 (some a)) with
  | none=>rw [hg] at h;cases h
  | some r=>
   rw [hg] at h
   simp only at h
   obtain ⟨⟨l2,a2⟩,h2,h3⟩:=Option.map_eq_some_iff.1 h
   cases h3
   unfold pRs
   cases hs:sT b 4194304 (some a) with
   | none=>
    rw [hs] at h2
    cases k <;> cases h2
   | some c=>
    rw [hs] at h2
    simp only [hg,rRs_p h2,Option.map_some]
theorem rRs_none {k:Nat}:rRs b k none=some ([],none):=by cases k <;> rfl
theorem ver_head {b':Bs} (h:b=encT ver_++b'):vT b 4 (some 0)=ver_:=by
 have e:encT ver_=[4,85,86,69,82]:=by
  rw [encT,encU_lt (by simp [ver_])];rfl
 rw [e] at h
 subst h
 have hu:rU ([4,85,86,69,82]++b') 0=some (4,1):=by rfl
 have hv:vU ([4,85,86,69,82]++b') (some 0)=4:=(su_some hu).2
 have hs:sU ([4,85,86,69,82]++b') (some 0)=some 1:=(su_some hu).1
 have hl:¬ ([4,85,86,69,82]++b':Bs).length-1<4:=by simp
 unfold vT
 rw [hs]
 simp only [hv,decide_eq_false (show ¬ (4:Nat)<4 by omega),cond_false,decide_eq_false hl]
 rfl
theorem getQ_eq (b:Bs):getQ b=getV b:=by
 have key:∀ v,rdP b=some v→getV b=(bif mayV v&&decide (putV v=b) then some v else none):=fun v hr=>by
  unfold rdP at hr
  simp only at hr
  cases h1:sT b 4 (some 0) with
  | none=>rw [h1] at hr;cases hr
  | some a1=>
   rw [h1] at hr
   simp only [Option.isNone_some,cond_false,Option.getD_some] at hr
   cases h2:sU b (some a1) with
   | none=>rw [h2] at hr;cases hr
   | some a2=>
    rw [h2] at hr
    simp only [Option.isNone_some,cond_false,Option.getD_some] at hr
    cases h3:sU b (some a2) with
    | none=>rw [h3] at hr;cases hr
    | some a3=>
     rw [h3] at hr
     simp only [Option.isNone_some,cond_false,Option.getD_some] at hr
     cases h4:sN b 64 (some a3) with
     | none=>rw [h4] at hr;cases hr
     | some a4=>
      rw [h4] at hr
      simp only [Option.isNone_some,cond_false,Option.getD_some] at hr
      cases hv:decide (vT b 4 (some 0)=ver_) with
      | false=>rw [hv] at hr;cases hr
      | true=>
       rw [hv] at hr
       simp only [Bool.not_true,cond_false] at hr
       cases hp:pRs b (vN b 64 (some a3)) a4 with
       | none=>rw [hp] at hr;cases hr
       | some w=>
        obtain ⟨l,a5⟩:=w
        rw [hp] at hr
        simp only at hr
        cases hn:(sH b (some a5)).isNone with
        | true=>rw [hn] at hr;cases hr
        | false=>
         rw [hn,cond_false] at hr
         cases hr
         unfold getV
         simp only [h1,h2,h3,h4,pRs_r hp,hn,cond_false]
 cases hr:rdP b with
 | some v=>
  unfold getQ
  rw [hr,key v hr]
 | none=>
  have hq:getQ b=none:=by unfold getQ;rw [hr]
  rw [hq]
  cases hg:getV b with
  | none=>rfl
  | some v=>
   exfalso
   unfold getV at hg
   simp only at hg
   cases hp:rRs b (vN b 64 (sU b (sU b (sT b 4 (some 0))))) (sN b 64 (sU b (sU b (sT b 4 (some 0))))) with
   | none=>rw [hp] at hg;cases hg
   | some w=>
    obtain ⟨l,o5⟩:=w
    rw [hp] at hg
    simp only at hg
    cases hn:(sH b o5).isNone with
    | true=>rw [hn] at hg;cases hg
    | false=>
     rw [hn,cond_false] at hg
     cases hc:mayV ⟨dec (vU b (sT b 4 (some 0))),dec (vU b (sU b (sT b 4 (some 0)))),l,vH b o5⟩&&decide (putV ⟨dec (vU b (sT b 4 (some 0))),dec (vU b (sU b (sT b 4 (some 0)))),l,vH b o5⟩=b) with
     | false=>rw [hc] at hg;cases hg
     | true=>
      rw [Bool.and_eq_true,decide_eq_true_eq] at hc
      have hv:=ver_head (b:=b) (by rw [← hc.2,putV])
      cases ho5:o5 with
      | none=>rw [ho5] at hn;cases hn
      | some a5=>
       subst ho5
       cases h4:sN b 64 (sU b (sU b (sT b 4 (some 0)))) with
       | none=>rw [h4,rRs_none] at hp;cases hp
       | some a4=>
        obtain ⟨a3,h3⟩:=sN_some h4
        obtain ⟨a2,h2⟩:=sU_some h3
        obtain ⟨a1,h1⟩:=sU_some h2
        rw [h1] at h2 h3 h4 hp
        rw [h2] at h3 h4 hp
        rw [h3] at h4 hp
        rw [h4] at hp
        unfold rdP at hr
        simp only [h1,h2,h3,h4,Option.isNone_some,cond_false,Option.getD_some,hv,decide_true,Bool.not_true,rRs_p hp,hn] at hr
        cases hr
theorem pRs_name {k a:Nat} {l:List Rc} {a':Nat} (h:pRs b k a=some (l,a')):∀ r∈l,r.name.length≤100:=rRs_name (pRs_r h)
theorem rdP_name {v:Vd} (hr:rdP b=some v):∀ r∈v.rs,r.name.length≤100:=by
 unfold rdP at hr
 simp only at hr
 cases n1:(sT b 4 (some 0)).isNone with
 | true=>rw [n1] at hr;cases hr
 | false=>
 rw [n1,cond_false] at hr
 revert hr
 generalize (sT b 4 (some 0)).getD 0=a1
 cases (sU b (some a1)).isNone with
 | true=>intro hr;cases hr
 | false=>
 rw [cond_false]
 generalize (sU b (some a1)).getD a1=a2
 cases (sU b (some a2)).isNone with
 | true=>intro hr;cases hr
 | false=>
 rw [cond_false]
 generalize (sU b (some a2)).getD a2=a3
 cases (sN b 64 (some a3)).isNone with
 | true=>intro hr;cases hr
 | false=>
 rw [cond_false]
 cases decide (vT b 4 (some 0)=ver_) with
 | false=>intro hr;cases hr
 | true=>
 rw [Bool.not_true,cond_false]
 cases hp:pRs b (vN b 64 (some a3)) ((sN b 64 (some a3)).getD a3) with
 | none=>intro hr;cases hr
 | some w=>
  obtain ⟨l,a5⟩:=w
  simp only
  cases (sH b (some a5)).isNone with
  | true=>intro hr;cases hr
  | false=>intro hr;cases hr;exact pRs_name hp
end
section
variable {N:Nat} {h:Heap} {b:Bs}
theorem VC.short {x:dens T35} {xs:List (dens T36)} {v:Vd} (p:VC h x xs v) (hn:∀ r∈v.rs,r.name.length≤100):shortN v.rs:=fun r hr=>by
 refine ⟨by have:=hn r hr;omega,?_⟩
 obtain ⟨i,h1,rfl⟩:=List.getElem_of_mem hr
 exact (p.rs.rcs i (by rw [p.rs.eqn];exact h1) h1).sig.len
theorem f10_eq {a0:SL} (x0:One h a0 (ofBytes b)) (hb:b.length≤10000000) (hN:3000≤N) :
  (∃ v x xs h',getV b=some v∧f10 N a0 h=some ((x,AV.nilIface,()),h')∧VC h' x xs v∧Chg [] h h')∨
  (∃ e h',getV b=none∧f10 N a0 h=some ((zero35,e,()),h')∧FaultAt h' e 4 0∧Chg [] h h'):=by
 rw [← getQ_eq]
 have c1:=chg_push h (.row (CTy.tos T35 zero35) .own)
 have w1:=own35 h zero35
 have n1:(h.push (.row (CTy.tos T35 zero35) .own)).next=h.next+1:=rfl
 generalize hh1:h.push (.row (CTy.tos T35 zero35) .own)=h1 at *
 have z35:((AV.int .i64 0)::(.int .i64 0)::(.slice none 0 0 0)::CTy.tos T32 z32)=CTy.tos T35 zero35:=rfl
 have out:∀ {H:Heap} (y:dens T35),Chg [] h1 H→H.store (h.next,0) (CTy.tos T35 y)=some (H.put h.next (.row (CTy.tos T35 y) .own))∧(H.put h.next (.row (CTy.tos T35 y) .own)).cells (h.next,0) 35=some (.agg (CTy.tos T35 y))∧Chg [] h (H.put h.next (.row (CTy.tos T35 y) .own))∧Chg [h.next] H (H.put h.next (.row (CTy.tos T35 y) .own)):=fun {H} y ch=>by
  have o:=w1.chg ch (by simp)
  exact ⟨o.store rfl,cellsN35 (own_put o _),(c1.trans ch).step (o.put _) fun B hB hl=>by rw [List.mem_singleton.1 hB] at hl;omega,o.put _⟩
 have lose:∀ {H:Heap},Chg [] h1 H→∃ e h2 h3,f25 N 4 0 H=some (e,h2)∧h2.store (h.next,0) (CTy.tos T35 zero35)=some h3∧h3.cells (h.next,0) 35=some (.agg (CTy.tos T35 zero35))∧FaultAt h3 e 4 0∧Chg [] h h3:=fun {H} ch=>by
  obtain ⟨e,h2,e2,ft,g2⟩:=f25_eq (N:=N) (h:=H) 0 (show (4:Int)≠0 by omega)
  obtain ⟨u1,u2,u3,u4⟩:=out zero35 (ch.trans g2)
  obtain ⟨FA,f1,f2⟩:=ft
  refine ⟨e,h2,_,e2,u1,u2,⟨FA,f1,f2.chg u4 ?_⟩,u3⟩
  intro hm
  have q:=List.mem_singleton.1 hm
  have hlt:h.next<H.next:=by have:=ch.next;omega
  have k3:h2.cell (h.next,2)=some (AV.slice none 0 0 0):=(w1.chg (ch.trans g2) (by simp)).cell 2
  have k4:h2.cell (h.next,2)=some (AV.iface 22 (.int .i64 4)):=by rw [← q];exact f2.cell 2
  rw [k4] at k3
  cases k3
 rcases f39_eq (N:=N) (One.chgM x0 c1 (by simp)) hb hN with ⟨v,x,xs,h3,k1,e3,vc,nw,c3⟩ | ⟨x,h3,k1,e3,c3⟩
 ·have c4:=chg_push h3 (.row (CTy.tos T35 zero35) .own)
  have w4:=own35 h3 zero35
  have s5:(h3.push (.row (CTy.tos T35 zero35) .own)).store (h3.next,0) (CTy.tos T35 x)=some ((h3.push (.row (CTy.tos T35 zero35) .own)).put h3.next (.row (CTy.tos T35 x) .own)):=w4.store rfl
  have w5:=own_put w4 (CTy.tos T35 x)
  have g5:Chg [] h3 ((h3.push (.row (CTy.tos T35 zero35) .own)).put h3.next (.row (CTy.tos T35 x) .own)):=c4.step (w4.put _) fun B hB hl=>by rw [List.mem_singleton.1 hB] at hl;omega
  generalize (h3.push (.row (CTy.tos T35 zero35) .own)).put h3.next (.row (CTy.tos T35 x) .own)=h5 at *
  have vc5:=vc.chg g5
  have b5:=c3.trans g5
  have k5:=cellsN35 w5
  rcases f7_eq (N:=N) vc5 (vc5.short (rdP_name k1)) hN with ⟨s,h8,hm,e8,bt,g8⟩ | ⟨e,h8,hm,e8,ft,g8⟩
  ·have b8:=b5.trans g8
   have e11:=f40_eq (N:=N) bt.one (One.chgM x0 (c1.trans b8) (by simp))
   by_cases hp:putV v=b
   ·rw [decide_eq_true hp] at e11
    have k8:=cellsN35 (w5.chg g8 (by simp))
    obtain ⟨u1,u2,u3,u4⟩:=out x b8
    refine .inl ⟨v,x,xs,_,by unfold getQ;rw [k1];simp only [hm,decide_eq_true hp];rfl,?_,(vc5.chg g8).chgM u4 (fun B hB hm=>?_) (fun y hy B hB hm=>?_),u3⟩
    ·unfold f10
     simp only [z35,hh1,e3,bind2_some,s5,need_some,cond_true,k5,bindV_some,cast35,e8,nilE,cast_bool,e11,Bool.not_true,cond_false,k8,u1,u2]
    ·have:=nw.1 B hB;rw [List.mem_singleton.1 hm] at this;omega
    ·have:=nw.2 y hy B hB;rw [List.mem_singleton.1 hm] at this;omega
   ·rw [decide_eq_false hp] at e11
    obtain ⟨e,h14,h15,l1,l2,l3,l4,l5⟩:=lose b8
    refine .inr ⟨e,h15,by unfold getQ;rw [k1];simp only [hm,decide_eq_false hp];rfl,?_,l4,l5⟩
    unfold f10
    simp only [z35,hh1,e3,bind2_some,s5,need_some,cond_true,k5,bindV_some,cast35,e8,nilE,cast_bool,e11,Bool.not_false,l1,l2,l3]
  ·have b8:=b5.trans g8
   have ne:=nnE 19 ft.nn
   obtain ⟨e',h14,h15,l1,l2,l3,l4,l5⟩:=lose b8
   refine .inr ⟨e',h15,by unfold getQ;rw [k1];simp only [hm];rfl,?_,l4,l5⟩
   unfold f10
   simp only [z35,hh1,e3,bind2_some,s5,need_some,cond_true,k5,bindV_some,cast35,e8,ne,cast_bool,cond_false,l1,l2,l3]
 ·have c4:=chg_push h3 (.row (CTy.tos T35 zero35) .own)
  have w4:=own35 h3 zero35
  have s5:(h3.push (.row (CTy.tos T35 zero35) .own)).store (h3.next,0) (CTy.tos T35 x)=some ((h3.push (.row (CTy.tos T35 zero35) .own)).put h3.next (.row (CTy.tos T35 x) .own)):=w4.store rfl
  have g5:Chg [] h3 ((h3.push (.row (CTy.tos T35 zero35) .own)).put h3.next (.row (CTy.tos T35 x) .own)):=c4.step (w4.put _) fun B hB hl=>by rw [List.mem_singleton.1 hB] at hl;omega
  generalize (h3.push (.row (CTy.tos T35 zero35) .own)).put h3.next (.row (CTy.tos T35 x) .own)=h5 at *
  obtain ⟨e',h14,h15,l1,l2,l3,l4,l5⟩:=lose (c3.trans g5)
  refine .inr ⟨e',h15,by unfold getQ;rw [k1],?_,l4,l5⟩
  unfold f10
  simp only [z35,hh1,e3,bind2_some,s5,need_some,cond_false,Bool.not_false,cond_true,l1,l2,l3,bindV_some,cast35]
end
end Vp
namespace Vp
theorem eql_h (a b:Operand) (x y:Bs) (hx:x.length=32) (hy:y.length=32):binA E .eql 25 a b (.agg (ofBytes x)) (.agg (ofBytes y))=some (.bool (decide (x=y))):=by
 show eqlA E .eql 25 a b (.agg (ofBytes x)) (.agg (ofBytes y))=_
 have hc:cmpA E 25 a b (.agg (ofBytes x)) (.agg (ofBytes y))=some (decide (x=y)):=by simp only [cmpA,cmp25,cond_true,eq25 x y hx hy]
 simp only [eqlA,hc]
section
variable {N:Nat} {h:Heap} {s t:SL} {l:List Dg}
theorem f73_loop (hl:l.length≤4000000) (p:Ds h s l) (q:Ds h t l):∀ (k i M:Nat),i+k=l.length→k<M→f73_l1 N M s t false (i:Int) h=some (.exit 0,(false,()),h):=by
 intro k
 induction k with
 | zero=>
  intro i M hi hM
  obtain ⟨M,rfl⟩:∃ M',M=M'+1:=⟨M-1,by omega⟩
  have d:ltInt (i:Int) (Int.ofNat s.len)=false:=by rw [lenI,p.1];exact decide_eq_false (by omega)
  rw [f73_l1_succ]
  unfold f73_l1_b
  simp only [d,cond_false]
 | succ k ih=>
  intro i M hi hM
  obtain ⟨M,rfl⟩:∃ M',M=M'+1:=⟨M-1,by omega⟩
  have d:ltInt (i:Int) (Int.ofNat s.len)=true:=by rw [lenI,p.1];exact decide_eq_true (by omega)
  have wk:wrapA .i64 ((i:Int)+1)=((i+1:Nat):Int):=by rw [wrapA_small (by omega) (by omega)];omega
  have hi':i<l.length:=by omega
  have hd:[(AV.int .i64 l[i].1),(.int .i64 l[i].2.1),(.int .i64 l[i].2.2.1),(.int .i64 l[i].2.2.2.1)]=dgc l[i]:=rfl
  rw [f73_l1_succ]
  unfold f73_l1_b
  simp only [d,cond_true,p.ix hi',q.ix hi',p.at hi',q.at hi',bindV_some,cast_dg]
  rw [hd,neq_dg]
  simp only [decide_true,Bool.not_true,bindV_some,cast_bool,cond_false,wk]
  exact ih (i+1) M (by omega) (by omega)
theorem f73_eq (hl:l.length≤4000000) (hN:l.length<N) (p:Ds h s l) (q:Ds h t l):f73 N s t h=some (true,h):=by
 have e:=f73_loop (N:=N) hl p q l.length 0 N (by omega) hN
 rw [show ((0:Nat):Int)=0 from rfl] at e
 have hc:eqInt (Int.ofNat s.len) (Int.ofNat t.len)=true:=by rw [p.1,q.1,eqI];exact decide_eq_true rfl
 unfold f73
 simp only [hc,Bool.not_true,cond_false,e,bind3_some,eqOut,Nat.beq_refl,cond_true]
theorem f46_eq {x y:dens T36} {r:Rc} (hl:r.ds.length≤4000000) (hN:r.ds.length<N) (p:RC h x r) (q:RC h y r):∃ h',f46 N x y h=some (true,h')∧Chg [] h h':=by
 have c1:=chg_push h (.row (CTy.tos T36 x) .own)
 have w1:=own36 h x
 have n1:(h.push (.row (CTy.tos T36 x) .own)).next=h.next+1:=rfl
 generalize hh1:h.push (.row (CTy.tos T36 x) .own)=h1 at *
 have c2:=chg_push h1 (.row (CTy.tos T36 y) .own)
 have w2:=own36 h1 y
 have C1:=cells36 (w1.chg c2 (by simp))
 have C2:=cells36 w2
 have P:=(p.chg c1).chg c2
 have Q:=(q.chg c1).chg c2
 generalize hh2:h1.push (.row (CTy.tos T36 y) .own)=h2 at *
 have e:=f73_eq (N:=N) hl hN P.ds Q.ds
 refine ⟨h2,?_,c1.trans c2⟩
 have a0:=C1.c0;have a1:=C1.c1;have a2:=C1.c2;have a3:=C1.c3;have a4:=C1.c4
 have b0:=C2.c0;have b1:=C2.c1;have b2:=C2.c2;have b3:=C2.c3;have b4:=C2.c4
 rw [P.name] at a0;rw [Q.name] at b0;rw [P.code] at a1;rw [Q.code] at b1;rw [P.at_] at a2;rw [Q.at_] at b2
 have hs:binA E .eql 25 (.tmp 26) (.tmp 28) (.agg (CTy.tos T32 x.2.2.2.2)) (.agg (CTy.tos T32 y.2.2.2.2))=some (.bool true):=by
  rw [show CTy.tos T32 x.2.2.2.2=ofBytes r.sig from p.sig,show CTy.tos T32 y.2.2.2.2=ofBytes r.sig from q.sig,eql_h _ _ _ _ p.sig.len p.sig.len,decide_eq_true rfl]
 unfold f46
 simp only [hh1,hh2,Nat.zero_add,a0,b0,a1,b1,a2,b2,a3,b3,a4,b4,bindV_some,cast_str,cast_int,cast_slice,cast32,eqB,eqI,decide_true,cond_true,hs,cast_bool]
 rw [show (⟨x.2.2.2.1.a,x.2.2.2.1.len,x.2.2.2.1.cap,x.2.2.2.1.sz⟩:SL)=x.2.2.2.1 from rfl,show (⟨y.2.2.2.1.a,y.2.2.2.1.len,y.2.2.2.1.cap,y.2.2.2.1.sz⟩:SL)=y.2.2.2.1 from rfl,e]
 simp only [bind2_some]
end
section
variable {N:Nat} {h0:Heap} {A B:Nat} {x y:dens T35} {xs ys:List (dens T36)} {v:Vd}
theorem f12_loop (hv:v.rs.length≤1000) (hd:∀ r∈v.rs,r.ds.length≤1000) (hN:2000≤N):∀ (k i M:Nat) {h:Heap},i+k=v.rs.length→k<M→VC h x xs v→VC h y ys v→h.own A (CTy.tos T35 x)→h.own B (CTy.tos T35 y)→Chg [] h0 h→∃ h',f12_l1 N M (some (A,0)) (some (B,0)) false (i:Int) h=some (.exit 0,(false,()),h')∧Chg [] h0 h':=by
 intro k
 induction k with
 | zero=>
  intro i M h hi hM p q oA oB ch
  obtain ⟨M,rfl⟩:∃ M',M=M'+1:=⟨M-1,by omega⟩
  have d:ltInt (i:Int) (Int.ofNat x.2.2.1.len)=false:=by rw [lenI,p.rs.len];exact decide_eq_false (by omega)
  have k1:=(cells35 oA).c2
  refine ⟨h,?_,ch⟩
  rw [f12_l1_succ]
  unfold f12_l1_b
  simp only [need_some,Nat.zero_add,k1,bindV_some,cast_slice,d,cond_false]
 | succ k ih=>
  intro i M h hi hM p q oA oB ch
  obtain ⟨M,rfl⟩:∃ M',M=M'+1:=⟨M-1,by omega⟩
  have d:ltInt (i:Int) (Int.ofNat x.2.2.1.len)=true:=by rw [lenI,p.rs.len];exact decide_eq_true (by omega)
  have k1:=(cells35 oA).c2
  have k2:=(cells35 oB).c2
  have hi1:i<v.rs.length:=by omega
  have hx:i<xs.length:=by rw [p.rs.eqn];exact hi1
  have hy:i<ys.length:=by rw [q.rs.eqn];exact hi1
  have wk:wrapA .i64 ((i:Int)+1)=((i+1:Nat):Int):=by rw [wrapA_small (by omega) (by omega)];omega
  have hdi:=hd _ (List.getElem_mem hi1)
  obtain ⟨h',e,c⟩:=f46_eq (N:=N) (by omega) (by omega) (p.rs.rcs i hx hi1) (q.rs.rcs i hy hi1)
  obtain ⟨h2,e2,c2⟩:=ih (i+1) M (by omega) (by omega) (p.chg c) (q.chg c) (oA.chg c (by simp)) (oB.chg c (by simp)) (ch.trans c)
  refine ⟨h2,?_,c2⟩
  rw [f12_l1_succ]
  unfold f12_l1_b
  simp only [need_some,Nat.zero_add,k1,k2,bindV_some,cast_slice,d,cond_true,p.rs.ix hi1,q.rs.ix hi1,p.rs.at hx,q.rs.at hy,cast36,e,bind2_some,Bool.not_true,cond_false,wk]
  exact e2
theorem f12_eq {h:Heap} (hv:v.rs.length≤1000) (hd:∀ r∈v.rs,r.ds.length≤1000) (hN:2000≤N) (p:VC h x xs v) (q:VC h y ys v):∃ h',f12 N x y h=some (true,h')∧Chg [] h h':=by
 have c1:=chg_push h (.row (CTy.tos T35 x) .own)
 have w1:=own35 h x
 generalize hh1:h.push (.row (CTy.tos T35 x) .own)=h1 at *
 have c2:=chg_push h1 (.row (CTy.tos T35 y) .own)
 have w2:=own35 h1 y
 have o1:=w1.chg c2 (by simp)
 have C1:=cells35 o1
 have C2:=cells35 w2
 have P:=(p.chg c1).chg c2
 have Q:=(q.chg c1).chg c2
 generalize hh2:h1.push (.row (CTy.tos T35 y) .own)=h2 at *
 obtain ⟨h3,e,c3⟩:=f12_loop (N:=N) hv hd hN v.rs.length 0 N (by omega) (by omega) P Q o1 w2 (c1.trans c2)
 rw [show ((0:Nat):Int)=0 from rfl] at e
 refine ⟨h3,?_,c3⟩
 have a0:=C1.c0;have a1:=C1.c1;have a2:=C1.c2;have a3:=C1.c3
 have b0:=C2.c0;have b1:=C2.c1;have b2:=C2.c2;have b3:=C2.c3
 rw [P.code] at a0;rw [Q.code] at b0;rw [P.at_] at a1;rw [Q.at_] at b1
 have hs:binA E .neq 25 (.tmp 20) (.tmp 22) (.agg (CTy.tos T32 x.2.2.2)) (.agg (CTy.tos T32 y.2.2.2))=some (.bool false):=by
  rw [show CTy.tos T32 x.2.2.2=ofBytes v.root from p.root,show CTy.tos T32 y.2.2.2=ofBytes v.root from q.root,neq_h _ _ _ _ p.root.len p.root.len,decide_eq_true rfl];rfl
 have hl:eqInt (Int.ofNat x.2.2.1.len) (Int.ofNat y.2.2.1.len)=true:=by rw [P.rs.len,Q.rs.len,eqI];exact decide_eq_true rfl
 unfold f12
 simp only [hh1,hh2,Nat.zero_add,a0,b0,a1,b1,a2,b2,a3,b3,bindV_some,cast_int,cast_slice,cast32,eqI,decide_true,Bool.not_true,cond_false,hs,cast_bool]
 simp only [← eqI]
 simp only [hl,Bool.not_true,cond_false,e,bind3_some,eqOut,Nat.beq_refl,cond_true]
theorem VC.zero (h:Heap):VC h zero35 [] ⟨0,0,[],zerosH⟩:=⟨rfl,rfl,⟨rfl,.inr rfl,⟨rfl,fun _=>rfl,fun A off e=>by cases e⟩,rfl,fun i a=>absurd a (by simp)⟩,HB.zero⟩
end
end Vp
namespace Vp
section
variable {h h':Heap}
theorem pinned_chg {M:List Nat} (p:Vx.pinned h=true) (c:Chg M h h') (hn:0<h.next) (hM:0 ∉ M):Vx.pinned h'=true:=by
 have hg:h'.t.get 0=h.t.get 0:=c.g 0 hn hM
 unfold Vx.pinned at p ⊢
 rw [hg,c.pins]
 exact p
theorem f6_eq {N:Nat} (p:Vx.pinned h=true):f6 N h=some (true,h):=by
 unfold f6 Vx.toldF
 rw [p];rfl
end
section
variable {N:Nat} {h0:Heap} {ts:List Bs} {sl:SL}
theorem getV_may {b:Bs} {v:Vd} (h:getV b=some v):mayV v=true:=by
 unfold getV at h
 simp only at h
 revert h
 cases rRs b (vN b 64 (sU b (sU b (sT b 4 (some 0))))) (sN b 64 (sU b (sU b (sT b 4 (some 0))))) with
 | none=>intro h;cases h
 | some w=>
  obtain ⟨l,o5⟩:=w
  simp only
  cases (sH b o5).isNone with
  | true=>intro h;cases h
  | false=>
   rw [cond_false]
   cases hc:mayV ⟨dec (vU b (sT b 4 (some 0))),dec (vU b (sU b (sT b 4 (some 0)))),l,vH b o5⟩&&decide (putV ⟨dec (vU b (sT b 4 (some 0))),dec (vU b (sU b (sT b 4 (some 0)))),l,vH b o5⟩=b) with
   | false=>intro h;cases h
   | true=>
    intro h
    cases h
    rw [Bool.and_eq_true] at hc
    exact hc.1
theorem mayV_small {v:Vd} (h:mayV v=true):v.rs.length≤64∧∀ r∈v.rs,r.ds.length≤1000:=by
 simp only [mayV,Bool.and_eq_true,decide_eq_true_eq,List.all_eq_true] at h
 exact ⟨h.2.2.1,fun r hr=>(mayR_may (h.2.2.2 r hr)).len⟩
theorem both {t:Bs} (ht:t.length≤10000000) (hN:3000≤N) {h h2:Heap} {s:SL} (hs:One h s (ofBytes t)) :
  ∃ x e h1,f10 N s h=some ((x,e,()),h1)∧Chg [] h h1∧∀ h2,Chg [] h1 h2→∃ y c h3,f11 N t h2=some ((y,c,()),h3)∧Chg [] h2 h3∧∀ h4,Chg [] h3 h4→∃ h5,f12 N x y h4=some (true,h5)∧Chg [] h4 h5∧∀ h6,Chg [] h5 h6→f9 N e c 0 h6=some (true,h6):=by
 rcases f10_eq (N:=N) hs ht hN with ⟨v,x,xs,h1,g1,e1,p,c1⟩ | ⟨e,h1,g1,e1,ft,c1⟩
 ·obtain ⟨m1,m2⟩:=mayV_small (getV_may g1)
  refine ⟨x,_,h1,e1,c1,fun h2 c2=>?_⟩
  rcases f11_eq (N:=N) (h:=h2) ht hN with ⟨v',y,ys,h3,g3,e3,q,c3⟩ | ⟨h3,g3,e3,c3⟩
  ·rw [g1] at g3
   cases g3
   refine ⟨y,0,h3,e3,c3,fun h4 c4=>?_⟩
   obtain ⟨h5,e5,c5⟩:=f12_eq (N:=N) (by omega) m2 (by omega) (((p.chg c2).chg c3).chg c4) (q.chg c4)
   exact ⟨h5,e5,c5,fun h6 c6=>by rw [f9_nil];rfl⟩
  ·rw [g1] at g3;cases g3
 ·refine ⟨zero35,e,h1,e1,c1,fun h2 c2=>?_⟩
  rcases f11_eq (N:=N) (h:=h2) ht hN with ⟨v',y,ys,h3,g3,e3,q,c3⟩ | ⟨h3,g3,e3,c3⟩
  ·rw [g1] at g3;cases g3
  ·refine ⟨zero35,4,h3,e3,c3,fun h4 c4=>?_⟩
   obtain ⟨h5,e5,c5⟩:=f12_eq (N:=N) (v:=⟨0,0,[],zerosH⟩) (by simp) (by simp) (by omega) (VC.zero h4) (VC.zero h4)
   exact ⟨h5,e5,c5,fun h6 c6=>by rw [f9_fault (((((ft.chg c2).chg c3).chg c4).chg c5).chg c6) (by omega)];rfl⟩
theorem put_new {h:Heap} {x:dens T35}:(h.push (.row (CTy.tos T35 zero35) .own)).store (h.next,0) (CTy.tos T35 x)=some ((h.push (.row (CTy.tos T35 zero35) .own)).put h.next (.row (CTy.tos T35 x) .own))∧((h.push (.row (CTy.tos T35 zero35) .own)).put h.next (.row (CTy.tos T35 x) .own)).own h.next (CTy.tos T35 x)∧Chg [] h ((h.push (.row (CTy.tos T35 zero35) .own)).put h.next (.row (CTy.tos T35 x) .own)):=by
 have w:=own35 h zero35
 exact ⟨w.store rfl,own_put w _,(chg_push h _).step (w.put _) fun B hB hl=>by rw [List.mem_singleton.1 hB] at hl;omega⟩
theorem f3_l2_ok (hts:∀ t∈ts,t.length≤10000000) (hn:ts.length≤10) (hN:3000≤N):∀ (k i M:Nat) {h:Heap},i+k=ts.length→k<M→One h sl (ts.map AV.str)→Chg [] h0 h→∃ h',f3_l2 N M false sl (i:Int) h=some (.exit 2,(false,()),h')∧Chg [] h0 h':=by
 intro k
 induction k with
 | zero=>
  intro i M h hi hM p ch
  obtain ⟨M,rfl⟩:∃ M',M=M'+1:=⟨M-1,by omega⟩
  have d:ltInt (i:Int) (Int.ofNat sl.len)=false:=by rw [lenI,p.1,List.length_map];exact decide_eq_false (by omega)
  refine ⟨h,?_,ch⟩
  rw [f3_l2_succ]
  unfold f3_l2_b
  simp only [d,cond_false]
 | succ k ih=>
  intro i M h hi hM p ch
  obtain ⟨M,rfl⟩:∃ M',M=M'+1:=⟨M-1,by omega⟩
  have d:ltInt (i:Int) (Int.ofNat sl.len)=true:=by rw [lenI,p.1,List.length_map];exact decide_eq_true (by omega)
  have hi1:i<ts.length:=by omega
  have hi2:i<(ts.map AV.str).length:=by rw [List.length_map];exact hi1
  have wk:wrapA .i64 ((i:Int)+1)=((i+1:Nat):Int):=by rw [wrapA_small (by omega) (by omega)];omega
  have ix:∀ {β:Type} (K:Nat×Nat→Option β),ixK sl.a sl.len (i:Int) 1 K=K (sl.at i 1):=fun K=>by
   rw [p.ixz (by omega) (by rw [List.length_map];omega)];rfl
  have cell:∀ {H:Heap},Chg [] h H→H.cell (sl.at i 1)=some (.str ts[i]):=fun c=>by
   have:=One.cell (One.chgM p c (by simp)) hi2
   rw [this,List.getElem_map]
  have c80:=chg_push h (.row (ofBytes ts[i]) .grown)
  have bt:=conv_bt ts[i] h
  have ec:=conv_sl ts[i] h
  generalize hh80:h.push (.row (ofBytes ts[i]) .grown)=h80 at *
  obtain ⟨x,e,h82,e82,c82,next⟩:=both (h2:=h80) (hts _ (List.getElem_mem hi1)) hN bt.one
  obtain ⟨s84,w84,c84⟩:=put_new (h:=h82) (x:=x)
  generalize (h82.push (.row (CTy.tos T35 zero35) .own)).put h82.next (.row (CTy.tos T35 x) .own)=h84 at *
  obtain ⟨y,c,h88,e88,c88,next⟩:=next h84 c84
  obtain ⟨s90,w90,c90⟩:=put_new (h:=h88) (x:=y)
  generalize (h88.push (.row (CTy.tos T35 zero35) .own)).put h88.next (.row (CTy.tos T35 y) .own)=h90 at *
  obtain ⟨h94,e94,c94,next⟩:=next h90 c90
  have e97:=next h94 (Chg.refl _ _)
  have kx:=cellsN35 ((w84.chg c88 (by simp)).chg c90 (by simp))
  have ky:=cellsN35 w90
  have b84:Chg [] h h84:=(c80.trans c82).trans c84
  have b94:Chg [] h h94:=((b84.trans c88).trans c90).trans c94
  obtain ⟨h',e',c'⟩:=ih (i+1) M (by omega) (by omega) (One.chgM p b94 (by simp)) (ch.trans b94)
  have z35:((AV.int .i64 0)::(.int .i64 0)::(.slice none 0 0 0)::CTy.tos T32 z32)=CTy.tos T35 zero35:=rfl
  have k77:=cell (Chg.refl [] h)
  have k85:=cell b84
  refine ⟨h',?_,c'⟩
  rw [f3_l2_succ]
  unfold f3_l2_b
  simp only [d,cond_true,ix,k77,bindV_some,cast_str,ec,bindT_some,cast_slice,e82,bind2_some,z35,s84,need_some,k85,e88,s90,kx,ky,cast35,e94,Bool.not_true,cond_false,e97,wk]
  exact e'
theorem l3_l2:f3_l3=f3_l2:=rfl
end
end Vp
namespace Vp
theorem Sees.subV {h:Heap} {s:SL} {vs:List AV} (hx:Sees h s vs) {n:Nat} (h1:s.sz=n) {i j:Nat} (hi:i<s.len) (hj:j<n):h.cell ((s.at i n).1,(s.at i n).2+j)=vs[i * n+j]?:=by
 obtain ⟨h2,h3,h4⟩:=hx
 subst h1
 cases ha:s.a with
 | none=>have:=h3 ha;omega
 | some q=>
  obtain ⟨A,off⟩:=q
  obtain ⟨_,cs,h5,h6⟩:=h4 A off ha
  have hle:i * s.sz+s.sz≤s.len * s.sz:=by
   rw [← Nat.succ_mul];exact Nat.mul_le_mul_right _ hi
  simp only [SL.at,ha,Option.getD_some,Heap.cell_g,cellB_row,h5,Option.bind_some]
  have e:cs[off+i * s.sz+j]? = ((cs.drop off).take vs.length)[i * s.sz+j]?:=by
   rw [List.getElem?_take,if_pos (by omega),List.getElem?_drop,Nat.add_assoc]
  rw [e,h6]
theorem Rs.cell {h:Heap} {s:SL} {xs:List (dens T36)} {l:List Rc} (p:Rs h s xs l) {i j:Nat} (hi:i<xs.length) (hj:j<36):h.cell ((s.at i 36).1,(s.at i 36).2+j)=(CTy.tos T36 xs[i])[j]?:=by
 have hl:i<s.len:=by rw [p.len,← p.eqn];exact hi
 have hz:s.sz=36:=p.sz.resolve_right (by omega)
 rw [Sees.subV p.sees hz hl hj,← flatR_at xs i hi,List.getElem?_take,if_pos hj,List.getElem?_drop]
theorem addB (x y:Bs) (h:x.length+y.length≤1099511627776):binStr .add x y=some (.str (x++y)):=by
 unfold binStr
 rw [Nat.ble_eq_true_of_le h];rfl
theorem remB (x:Int) {n:Nat} (hn:0<n):∃ r:Int,-(n:Int)<r∧r<n∧(0≤x→0≤r)∧binInt .rem .i64 x (Int.ofNat n)=some (.int .i64 r):=by
 have e:eqInt (Int.ofNat n) 0=false:=by rw [eqI];exact decide_eq_false (by show ¬ (n:Int)=0;omega)
 have h1:=Int.tmod_lt_of_pos x (show (0:Int)<(n:Int) by omega)
 have h2:=Int.tmod_lt_of_pos (-x) (show (0:Int)<(n:Int) by omega)
 rw [Int.neg_tmod] at h2
 exact ⟨x.tmod n,by omega,h1,fun h=>Int.tmod_nonneg _ h,by simp only [binInt,e,cond_false];rfl⟩
theorem place (x:Int) {n:Nat} (hn:0<n) (hl:n≤100000000):∃ (r:Int) (j:Nat),j<n∧binInt .rem .i64 x (Int.ofNat n)=some (.int .i64 r)∧binInt .rem .i64 (wrapA .i64 (r+Int.ofNat n)) (Int.ofNat n)=some (.int .i64 (j:Int)):=by
 obtain ⟨r,r1,r2,_,e1⟩:=remB x hn
 have hw:wrapA .i64 (r+Int.ofNat n)=r+n:=wrapA_small (by show _≤r+(n:Int);omega) (by show r+(n:Int)≤_;omega)
 obtain ⟨q,q1,q2,q3,e2⟩:=remB (r+n) hn
 have q4:=q3 (by omega)
 exact ⟨r,q.toNat,by omega,e1,by rw [hw,e2,Int.toNat_of_nonneg q4]⟩
theorem bound0 {lim d:Nat}:boundA none lim d=some d:=rfl
theorem sl_to {h:Heap} {s:Bs} {j:Nat} (h2:j≤s.length):sliceA E h 9 (.str s) none (some (.int .i64 (j:Int)))=some (.str (s.take j)):=by
 unfold sliceA
 rw [show E.und 9=some .string from und9]
 simp only [bound0,boundA_n h2]
 simp
theorem sl_fr {h:Heap} {s:Bs} {i:Nat} (h2:i≤s.length):sliceA E h 9 (.str s) (some (.int .i64 (i:Int))) none=some (.str (s.drop i)):=by
 unfold sliceA
 rw [show E.und 9=some .string from und9]
 simp only [bound0,boundA_n h2]
 simp [h2]
section
variable {N:Nat} {h:Heap} {A:Nat} {x:dens T35} {xs:List (dens T36)} {v:Vd} {s:SL} {a2 a3 a4:Int}
theorem f3_l1_ok (p:VC h x xs v) (oA:h.own A (CTy.tos T35 x)) (hp:Vx.pinned h=true) (hl:v.rs.length≤1000):∀ (k i M:Nat),i+k=v.rs.length→k<M→
  (f3_l1 N M s a2 a3 a4 (some (A,0)) false (i:Int) h=some (.exit 0,(s,a2,a3,a4,some (A,0),false,()),h)∧∀ r∈v.rs.drop i,r.ds.length≤20∧r.name.length≤100)∨f3_l1 N M s a2 a3 a4 (some (A,0)) false (i:Int) h=some (.ret,(s,a2,a3,a4,some (A,0),true,()),h):=by
 intro k
 induction k with
 | zero=>
  intro i M hi hM
  obtain ⟨M,rfl⟩:∃ M',M=M'+1:=⟨M-1,by omega⟩
  have d:ltInt (i:Int) (Int.ofNat x.2.2.1.len)=false:=by rw [lenI,p.rs.len];exact decide_eq_false (by omega)
  have k1:=(cells35 oA).c2
  refine .inl ⟨?_,fun r hr=>by rw [List.drop_of_length_le (by omega)] at hr;cases hr⟩
  rw [f3_l1_succ]
  unfold f3_l1_b
  simp only [need_some,Nat.zero_add,k1,bindV_some,cast_slice,d,cond_false]
 | succ k ih=>
  intro i M hi hM
  obtain ⟨M,rfl⟩:∃ M',M=M'+1:=⟨M-1,by omega⟩
  have d:ltInt (i:Int) (Int.ofNat x.2.2.1.len)=true:=by rw [lenI,p.rs.len];exact decide_eq_true (by omega)
  have k1:=(cells35 oA).c2
  have hi1:i<v.rs.length:=by omega
  have hx:i<xs.length:=by rw [p.rs.eqn];exact hi1
  have rc:=p.rs.rcs i hx hi1
  have k3:h.cell ((x.2.2.1.at i 36).1,(x.2.2.1.at i 36).2+3)=some (SL.av xs[i].2.2.2.1):=p.rs.cell hx (by omega)
  have k0:h.cell ((x.2.2.1.at i 36).1,(x.2.2.1.at i 36).2+0)=some (.str xs[i].1):=p.rs.cell hx (by omega)
  simp only [SL.av] at k3
  rw [rc.name] at k0
  have wk:wrapA .i64 ((i:Int)+1)=((i+1:Nat):Int):=by rw [wrapA_small (by omega) (by omega)];omega
  have d20:ltInt 20 (Int.ofNat xs[i].2.2.2.1.len)=decide (20<v.rs[i].ds.length):=by
   rw [rc.ds.1,ltI];exact decide_eq_decide.2 (by show (20:Int)<(v.rs[i].ds.length:Int)↔_;omega)
  have d100:ltInt 100 (Int.ofNat v.rs[i].name.length)=decide (100<v.rs[i].name.length):=by
   rw [ltI];exact decide_eq_decide.2 (by show (100:Int)<(v.rs[i].name.length:Int)↔_;omega)
  have step:f3_l1 N (M+1) s a2 a3 a4 (some (A,0)) false (i:Int) h=(bif decide (20<v.rs[i].ds.length) then some (.ret,(s,a2,a3,a4,some (A,0),true,()),h) else bif decide (100<v.rs[i].name.length) then some (.ret,(s,a2,a3,a4,some (A,0),true,()),h) else f3_l1 N M s a2 a3 a4 (some (A,0)) false ((i+1:Nat):Int) h):=by
   rw [f3_l1_succ]
   unfold f3_l1_b
   simp only [need_some,Nat.zero_add,k1,bindV_some,cast_slice,d,cond_true,p.rs.ix hi1,k3,k0,cast_str,f6_eq hp,bind2_some,d20,d100,wk]
  by_cases q1:20<v.rs[i].ds.length
  ·exact .inr (by rw [step,decide_eq_true q1];rfl)
  ·by_cases q2:100<v.rs[i].name.length
   ·exact .inr (by rw [step,decide_eq_false q1,decide_eq_true q2];rfl)
   ·rw [step,decide_eq_false q1,decide_eq_false q2,cond_false,cond_false]
    rcases ih (i+1) M (by omega) (by omega) with ⟨e,hr⟩ | e
    ·refine .inl ⟨e,fun r hr'=>?_⟩
     rw [List.drop_eq_getElem_cons hi1] at hr'
     rcases List.mem_cons.1 hr' with rfl | hr'
     ·omega
     ·exact hr r hr'
    ·exact .inr e
theorem convB {w:Int} (h0:0≤w) (h1:w<256) (H:Heap):∀ {H':Heap},Chg [] (H.push (.row [.int .u8 w] .own)) H'→convS E 28 9 (.slice (some (H.next,0)) 1 1 1) H'=some (.str [UInt8.ofNat w.toNat]):=fun {H'} c=>by
 have e:ofBytes [UInt8.ofNat w.toNat]=[.int .u8 w]:=by
  have:((UInt8.ofNat w.toNat).toNat:Int)=w:=by rw [byte_nat (by omega)];omega
  simp only [ofBytes,this]
 have o:=(own_push H [.int .u8 w]).chg c (by simp)
 have bt:Bt H' ⟨some (H.next,0),1,1,1⟩ [UInt8.ofNat w.toNat]:=.inr ⟨H.next,[.int .u8 w],.own,rfl,rfl,o.2,o.1,rfl,by rw [e];rfl,Nat.le_refl _,Nat.le_refl _,.inr (.inr ⟨rfl,rfl⟩)⟩
 exact bt.conv
theorem appSs:AppN E 40 9 1 100:=AppN.of (by kernel_rfl)
theorem Fl.one1 {H:Heap} {s:SL} {vs:List AV} (p:Fl H s 1 vs):One H s vs:=by
 have q:=p.sees
 exact ⟨by have:=q.2.1;omega,q.1,p.all⟩
end
end Vp
namespace Vp
section
variable {N:Nat} {h:Heap} {x:dens T35} {xs:List (dens T36)} {v:Vd} {s:SL} {b:Bs} {a2 a3 a4:Int}
theorem putV_len {v:Vd} (hm:mayV v=true) (hs:shortN v.rs) (hr:v.root.length=32):(putV v).length≤4000000:=by
 have m:=hm
 simp only [mayV,inB,Bool.and_eq_true,decide_eq_true_eq] at m
 obtain ⟨⟨c1,c2⟩,⟨a1,a2⟩,m3,m4⟩:=m
 have l1:=encT_len (x:=ver_) (by simp [ver_])
 have l2:=encI_len (v:=v.code) ⟨by omega,by omega⟩
 have l3:=encI_len (v:=v.at_) ⟨by omega,by omega⟩
 have l4:=encU_len10 (n:=v.rs.length) (by omega)
 have l5:=encRs_len m4 hs
 simp only [putV,List.length_append]
 simp only [ver_,List.length_cons,List.length_nil] at l1
 have:(encT ver_).length=(encT ([85,86,69,82]:Bs)).length:=rfl
 omega
theorem f3_true (p:VC h x xs v) (q:One h s (ofBytes b)) (hp:Vx.pinned h=true) (hn:0<h.next) (hw0:0≤a3) (hw1:a3<256) (hN:3000≤N):∃ h',f3 N x s a2 a3 a4 h=some (true,h'):=by
 have c1:=chg_push h (.row (CTy.tos T35 x) .own)
 have w1:=own35 h x
 have hn1:0<(h.push (.row (CTy.tos T35 x) .own)).next:=Nat.succ_pos _
 generalize hh1:h.push (.row (CTy.tos T35 x) .own)=h1 at *
 have C1:=cells35 w1
 have p1:=p.chg c1
 have hp1:=pinned_chg hp c1 hn (by simp)
 have k2:=C1.c2
 have told:∀ {H:Heap},Chg [] h1 H→f6 N H=some (true,H):=fun c=>f6_eq (pinned_chg hp1 c hn1 (by simp))
 have d8:ltInt 8 (Int.ofNat x.2.2.1.len)=decide (8<v.rs.length):=by
  rw [p.rs.len,ltI];exact decide_eq_decide.2 (by show (8:Int)<(v.rs.length:Int)↔_;omega)
 have d2:ltInt 2000 (Int.ofNat s.len)=decide (2000<b.length):=by
  rw [q.1,ofB_len,ltI];exact decide_eq_decide.2 (by show (2000:Int)<(b.length:Int)↔_;omega)
 by_cases q8:8<v.rs.length
 ·refine ⟨h1,?_⟩
  unfold f3
  simp only [hh1,Nat.zero_add,k2,bindV_some,cast_slice,d8,decide_eq_true q8,cond_true,told (Chg.refl _ _),bind2_some]
 by_cases q2:2000<b.length
 ·refine ⟨h1,?_⟩
  unfold f3
  simp only [hh1,Nat.zero_add,k2,bindV_some,cast_slice,d8,decide_eq_false q8,cond_false,d2,decide_eq_true q2,cond_true,told (Chg.refl _ _),bind2_some]
 rcases f3_l1_ok (N:=N) (s:=s) (a2:=a2) (a3:=a3) (a4:=a4) p1 w1 hp1 (by omega) v.rs.length 0 N (by omega) (by omega) with ⟨el,hr⟩ | el
 rotate_left
 ·rw [show ((0:Nat):Int)=0 from rfl] at el
  refine ⟨h1,?_⟩
  unfold f3
  simp only [hh1,Nat.zero_add,k2,bindV_some,cast_slice,d8,decide_eq_false q8,cond_false,d2,decide_eq_false q2,el,bind3_some,eqOut]
 rw [show ((0:Nat):Int)=0 from rfl] at el
 rw [List.drop_zero] at hr
 have hsn:shortN v.rs:=p1.short fun r hr'=>(hr r hr').2
 have hrl:v.root.length=32:=p.root.len
 have wr:∃ (s1:SL) (e1:AV) (h33:Heap) (y:Bs) (c:Int) (h37:Heap),f7 N x h1=some ((s1,e1,()),h33)∧Chg [] h1 h33∧f8 N x h33=some ((y,c,()),h37)∧Chg [] h33 h37∧convS E 28 9 (.slice s1.a s1.len s1.cap s1.sz) h37=some (.str y)∧f9 N e1 c 0 h37=some (true,h37)∧y.length≤4000000:=by
  rcases f7_eq (N:=N) p1 hsn hN with ⟨s1,h33,hm,e,bt,c⟩ | ⟨e1,h33,hm,e,ft,c⟩
  ·obtain ⟨h37,e8,c8⟩:=f8_eq (N:=N) (p1.chg c) hsn hN
   rw [hm,cond_true] at e8
   exact ⟨s1,_,h33,putV v,0,h37,e,c,e8,c8,(bt.chg c8 (by simp)).conv,by rw [f9_nil];rfl,putV_len hm hsn hrl⟩
  ·obtain ⟨h37,e8,c8⟩:=f8_eq (N:=N) (p1.chg c) hsn hN
   rw [hm,cond_false] at e8
   exact ⟨_,e1,h33,[],1,h37,e,c,e8,c8,(Bt.nil h37 0).conv,by rw [f9_fault (ft.chg c8) (by omega)];rfl,by simp⟩
 obtain ⟨s1,e1,h33,y,c,h37,e7,g33,e8,g37,ec,e9,hy⟩:=wr
 have k35:=C1.all
 have k35':=(cells35 (w1.chg g33 (by simp))).all
 have b37:=g33.trans g37
 have q37:=One.chgM q (c1.trans b37) (by simp)
 have eb:=conv_one q37
 have c44:=chg_push h37 (.row [.str b,.str y] .own)
 have o44:=own_push h37 [AV.str b,.str y]
 have n44:(h37.push (.row [AV.str b,.str y] .own)).next=h37.next+1:=rfl
 generalize hh44:h37.push (.row [AV.str b,.str y] .own)=h44 at *
 have F44:Fl h44 ⟨some (h37.next,0),2,2,1⟩ 1 [.str b,.str y]:=.inr ⟨h37.next,[.str b,.str y],.own,rfl,rfl,o44.2,o44.1,rfl,rfl,Nat.le_refl _,.inr ⟨rfl,rfl⟩⟩
 have b44:=b37.trans c44
 by_cases hy0:0<y.length
 rotate_left
 ·have dy:ltInt 0 (Int.ofNat y.length)=false:=by rw [ltI];exact decide_eq_false (by show ¬ (0:Int)<(y.length:Int);omega)
  obtain ⟨h131,e131,c131⟩:=f3_l2_ok (N:=N) (h0:=h1) (ts:=[b,y]) (by intro t ht;simp at ht;rcases ht with rfl | rfl <;> omega) (by simp) hN 2 0 N rfl (by omega) F44.one1 b44
  rw [show ((0:Nat):Int)=0 from rfl,← l3_l2] at e131
  refine ⟨h131,?_⟩
  unfold f3
  simp only [hh1,Nat.zero_add,k2,bindV_some,cast_slice,d8,decide_eq_false q8,cond_false,d2,decide_eq_false q2,el,bind3_some,eqOut,Nat.beq_refl,cond_true,need_some,k35,cast35,e7,bind2_some,k35',e8,ec,cast_str,eqB,decide_true,Bool.not_true,e9,eb,hh44,dy,e131,told c131]
 have dy:ltInt 0 (Int.ofNat y.length)=true:=by rw [ltI];exact decide_eq_true (by show (0:Int)<(y.length:Int);omega)
 obtain ⟨r,j,hj,er,ej⟩:=place a2 hy0 (by omega)
 obtain ⟨r4,m,hm,er4,em⟩:=place a4 (n:=4) (by omega) (by omega)
 rw [show Int.ofNat 4=(4:Int) from rfl] at er4 em
 have wj:wrapA .i64 ((j:Int)+1)=((j+1:Nat):Int):=by rw [wrapA_small (by omega) (by omega)];omega
 have c51:=chg_push h44 (.row [.int .u8 a3] .own)
 have v51:∀ {H:Heap},Chg [] (h44.push (.row [.int .u8 a3] .own)) H→convS E 28 9 (.slice (some (h44.next,0)) 1 1 1) H=some (.str [UInt8.ofNat a3.toNat]):=convB hw0 hw1 h44
 generalize hh51:h44.push (.row [.int .u8 a3] .own)=h51 at *
 have c62:=chg_push h51 (.row [.int .u8 a3] .own)
 have v62:∀ {H:Heap},Chg [] (h51.push (.row [.int .u8 a3] .own)) H→convS E 28 9 (.slice (some (h51.next,0)) 1 1 1) H=some (.str [UInt8.ofNat a3.toNat]):=convB hw0 hw1 h51
 generalize hh62:h51.push (.row [.int .u8 a3] .own)=h62 at *
 generalize hcw:UInt8.ofNat a3.toNat=cw at *
 have l1:(y.take j).length≤4000000:=by rw [List.length_take];omega
 have l2:(y.drop (j+1)).length≤4000000:=by rw [List.length_drop];omega
 have l3:(y.drop j).length≤4000000:=by rw [List.length_drop];omega
 have a53:=addB (y.take j) [cw] (by simp only [List.length_singleton];omega)
 have a56:=addB (y.take j++[cw]) (y.drop (j+1)) (by simp only [List.length_append,List.length_singleton];omega)
 have a60:=addB (y.take j) (y.drop (j+1)) (by omega)
 have a66:=addB (y.take j++[cw]) (y.drop j) (by simp only [List.length_append,List.length_singleton];omega)
 have hts:∀ t∈[y.take j,y.take j++[cw]++y.drop (j+1),y.take j++y.drop (j+1),y.take j++[cw]++y.drop j],t.length≤10000000:=by
  intro t ht
  simp only [List.mem_cons,List.not_mem_nil,or_false] at ht
  rcases ht with rfl | rfl | rfl | rfl <;> (try simp only [List.length_append,List.length_singleton]) <;> omega
 have hrow:[AV.str (y.take j),.str (y.take j++[cw]++y.drop (j+1)),.str (y.take j++y.drop (j+1)),.str (y.take j++[cw]++y.drop j)]=[y.take j,y.take j++[cw]++y.drop (j+1),y.take j++y.drop (j+1),y.take j++[cw]++y.drop j].map AV.str:=rfl
 have hlen:[y.take j,y.take j++[cw]++y.drop (j+1),y.take j++y.drop (j+1),y.take j++[cw]++y.drop j].length=4:=rfl
 have c67:=chg_push h62 (.row ([y.take j,y.take j++[cw]++y.drop (j+1),y.take j++y.drop (j+1),y.take j++[cw]++y.drop j].map AV.str) .own)
 have o67:=own_push h62 ([y.take j,y.take j++[cw]++y.drop (j+1),y.take j++y.drop (j+1),y.take j++[cw]++y.drop j].map AV.str)
 generalize [y.take j,y.take j++[cw]++y.drop (j+1),y.take j++y.drop (j+1),y.take j++[cw]++y.drop j]=L at *
 have n67:(h62.push (.row (L.map AV.str) .own)).next=h62.next+1:=rfl
 generalize hh67:h62.push (.row (L.map AV.str) .own)=h67 at *
 have hmL:m<L.length:=by omega
 have ix4:∀ {β:Type} (K:Nat×Nat→Option β),ixK (some (h62.next,0)) 4 (m:Int) 1 K=K (h62.next,m):=fun K=>by
  have:=ixK_z (s:=⟨some (h62.next,0),4,4,1⟩) (n:=1) (x:=(m:Int)) rfl (by omega) (by show (m:Int)<4;omega) K
  rw [this]
  simp [SL.at]
 have k71:∀ {H:Heap},Chg [] h67 H→H.cell (h62.next,m)=some (.str L[m]):=fun c=>by
  have:=(o67.chg c (by simp)).cell m
  rw [this,List.getElem?_map,List.getElem?_eq_getElem hmL];rfl
 have b67:=((b44.trans c51).trans c62).trans c67
 have F67:=((F44.chg c51 (by simp)).chg c62 (by simp)).chg c67 (by simp)
 obtain ⟨s',h75,a1,aF,a3',a4',a5⟩:=append_fl appSs (by omega) F67 (cs:=[.str L[m]]) rfl rfl (by show (2+1) * 100≤_;omega)
 have c73:=chg_push h67 (.row [AV.str L[m]] .own)
 generalize hh73:h67.push (.row [AV.str L[m]] .own)=h73 at *
 have e2:(⟨some (h37.next,0),2,2,1⟩:SL).blk.toList=[h37.next]:=rfl
 rw [e2] at a4'
 have hb51:h44.next≤h51.next:=c51.next
 have hb62:h51.next≤h62.next:=c62.next
 have k75:h75.cell (h62.next,m)=some (.str L[m]):=by
  have:=(o67.chg a4' (by simp;omega)).cell m
  rw [this,List.getElem?_map,List.getElem?_eq_getElem hmL];rfl
 have b75:Chg [] h1 h75:=b67.new a4' (by simp;have:=b37.next;omega)
 have cv:∀ {B:Nat},h44.next≤B→B<h67.next→∀ {H:Heap},h67.own B [.int .u8 a3]→convS E 28 9 (.slice (some (B,0)) 1 1 1) h75=some (.str [cw]):=fun {B} hB1 hB2 {H} o=>by
  have o':=o.chg a4' (by simp;omega)
  have e:ofBytes [cw]=[.int .u8 a3]:=by
   have:((UInt8.ofNat a3.toNat).toNat:Int)=a3:=by rw [byte_nat (by omega)];omega
   rw [← hcw]
   simp only [ofBytes,this]
  have bt:Bt h75 ⟨some (B,0),1,1,1⟩ [cw]:=.inr ⟨B,[.int .u8 a3],.own,rfl,rfl,o'.2,o'.1,rfl,by rw [e];rfl,Nat.le_refl _,Nat.le_refl _,.inr (.inr ⟨rfl,rfl⟩)⟩
  exact bt.conv
 have x75a:convS E 28 9 (.slice (some (h44.next,0)) 1 1 1) h75=some (.str [cw]):=cv (Nat.le_refl _) (by omega) (H:=h75) (by
  have:=own_push h44 [AV.int .u8 a3]
  rw [hh51] at this
  exact (this.chg c62 (by simp)).chg c67 (by simp))
 have x75b:convS E 28 9 (.slice (some (h51.next,0)) 1 1 1) h75=some (.str [cw]):=cv hb51 (by omega) (H:=h75) (by
  have:=own_push h51 [AV.int .u8 a3]
  rw [hh62] at this
  exact this.chg c67 (by simp))
 obtain ⟨h102,e102,c102⟩:=f3_l2_ok (N:=N) (h0:=h1) (ts:=[b,y,L[m]]) (sl:=s') (by
  intro t ht
  simp only [List.mem_cons,List.not_mem_nil,or_false] at ht
  rcases ht with rfl | rfl | rfl
  ·omega
  ·omega
  ·exact hts _ (List.getElem_mem hmL)) (by simp) hN 3 0 N rfl (by omega) aF.one1 b75
 rw [show ((0:Nat):Int)=0 from rfl] at e102
 refine ⟨h102,?_⟩
 unfold f3
 simp only [hh1,Nat.zero_add,k2,bindV_some,cast_slice,d8,decide_eq_false q8,cond_false,d2,decide_eq_false q2,el,bind3_some,eqOut,Nat.beq_refl,cond_true,need_some,k35,cast35,e7,bind2_some,k35',e8,ec,cast_str,eqB,decide_true,Bool.not_true,e9,eb,hh44,dy,er,cast_int,ej,sl_to (Nat.le_of_lt hj),hh51,v51 (Chg.refl _ _),a53,wj,sl_fr (show j+1≤y.length from hj),a56,a60,hh62,v62 (Chg.refl _ _),sl_fr (Nat.le_of_lt hj),a66,hrow,hh67,er4,em,ix4,k71 (Chg.refl _ _),hh73]
 rw [a1]
 simp only [bindT_some,cast_slice,k75,k71 c73,x75b,v62 (c67.trans c73),x75a,v51 ((c62.trans c67).trans c73),sameO_some,cond_true,guardB_true,e102,bind3_some,eqOut,Nat.beq_refl,told c102,bind2_some]
end
end Vp
open Go.ChangeShapes Go.WideShapes
namespace Vp
theorem ud3:Tryz.prog.underlying 3=some (.int .i64):=by kernel_rfl
theorem ud5:Tryz.prog.underlying 5=some (.int .u8):=by kernel_rfl
theorem ud9:Tryz.prog.underlying 9=some .string:=by kernel_rfl
theorem ud22:Tryz.prog.underlying 22=some (.int .i64):=by kernel_rfl
theorem ud23:Tryz.prog.underlying 23=some (.slice 32):=by kernel_rfl
theorem ud25:Tryz.prog.underlying 25=some (.array 32 5):=by kernel_rfl
theorem ud28:Tryz.prog.underlying 28=some (.slice 5):=by kernel_rfl
theorem ud30:Tryz.prog.underlying 30=some (.slice 145):=by kernel_rfl
theorem st27:isStruct Tryz.prog 27 [22,3,23,25]=true:=by kernel_rfl
theorem st32:isStruct Tryz.prog 32 [9,22,3,30,25]=true:=by kernel_rfl
theorem st145:isStruct Tryz.prog 145 [3,3,3,3]=true:=by kernel_rfl
theorem co5:Tryz.prog.cellsOf 5=1:=by kernel_rfl
theorem co32:Tryz.prog.cellsOf 32=36:=by kernel_rfl
theorem co145:Tryz.prog.cellsOf 145=4:=by kernel_rfl
theorem isSt {t:TypeId} {ts:List TypeId} (h:isStruct Tryz.prog t ts=true):∃ fs,Tryz.prog.underlying t=some (.struct fs):=by
 unfold isStruct at h
 split at h
 ·exact ⟨_,by assumption⟩
 ·cases h
section
variable {H:Type} {h:Heap}
theorem arr_inv {t:TypeId} {n e:Nat} {cs:List AV} {d:DataW H} (hu:Tryz.prog.underlying t=some (.array n e)) (hx:Rd Tryz.prog h t cs d) :
  ∃ (ass:List (List AV)) (ds:List (DataW H)),cs=ass.flatten∧ass.length=n∧ds.length=n∧∀ (i:Nat) (a:List AV) (d:DataW H),ass[i]? = some a→ds[i]? = some d→Rd Tryz.prog h e a d:=by
 cases hx with
 | array h1 h2 h3 h4=>
  rw [hu] at h1;simp only [Option.some.injEq,TypeDesc.array.injEq] at h1
  obtain ⟨rfl,rfl⟩:=h1
  exact ⟨_,_,rfl,h2,h3,h4⟩
 | _=>simp_all
theorem byte_of {n:Int} (h1:IntKind.u8.min≤n) (h2:n≤IntKind.u8.max):n=((UInt8.ofNat n.toNat).toNat:Int):=by
 have a:(0:Int)≤n:=h1
 have b:n≤255:=h2
 rw [byte_nat (by omega)];omega
theorem bytes_of:∀ (ass:List (List AV)),(∀ (i:Nat) (a:List AV),ass[i]? = some a→∃ d:DataW H,Rd Tryz.prog h 5 a d)→∃ b:Bs,ass.flatten=ofBytes b∧b.length=ass.length
 | [],_=>⟨[],rfl,rfl⟩
 | a::r,hx=>by
  obtain ⟨d,hd⟩:=hx 0 a rfl
  obtain ⟨n,rfl,_,n1,n2⟩:=Rd.int_inv ud5 hd
  obtain ⟨b,b1,b2⟩:=bytes_of r fun i a ha=>hx (i+1) a (by simpa using ha)
  refine ⟨UInt8.ofNat n.toNat::b,?_,by simp [b2]⟩
  rw [List.flatten_cons,b1,ofBytes,← byte_of n1 n2];rfl
theorem hash_of {cs:List AV} {d:DataW H} (hx:Rd Tryz.prog h 25 cs d):∃ (z:dens T32) (y:Bs),cs=CTy.tos T32 z∧HB z y:=by
 obtain ⟨ass,ds,rfl,l1,l2,hr⟩:=arr_inv ud25 hx
 obtain ⟨b,b1,b2⟩:=bytes_of (H:=H) (h:=h) ass fun i a ha=>by
  have hi:i<ds.length:=by have:=(List.getElem?_eq_some_iff.1 ha).1;omega
  exact ⟨ds[i],hr i a _ ha (List.getElem?_eq_getElem hi)⟩
 obtain ⟨z,hz⟩:=ofB_T32 (l:=b) (by omega)
 exact ⟨z,b,by rw [b1];exact hz.symm,hz⟩
theorem diag_of {cs:List AV} {d:DataW H} (hx:Rd Tryz.prog h 145 cs d):∃ x:Dg,cs=dgc x:=by
 obtain ⟨ass,ds,rfl,_,hf⟩:=Rd.fields st145 hx
 obtain ⟨a1,_,d1,_,rfl,rfl,r1,hf⟩:=hf.cons_inv
 obtain ⟨a2,_,d2,_,rfl,rfl,r2,hf⟩:=hf.cons_inv
 obtain ⟨a3,_,d3,_,rfl,rfl,r3,hf⟩:=hf.cons_inv
 obtain ⟨a4,_,d4,_,rfl,rfl,r4,hf⟩:=hf.cons_inv
 obtain ⟨rfl,rfl⟩:=hf.nil_inv
 obtain ⟨n1,rfl,_⟩:=Rd.int_inv ud3 r1
 obtain ⟨n2,rfl,_⟩:=Rd.int_inv ud3 r2
 obtain ⟨n3,rfl,_⟩:=Rd.int_inv ud3 r3
 obtain ⟨n4,rfl,_⟩:=Rd.int_inv ud3 r4
 exact ⟨(n1,n2,n3,n4,()),rfl⟩
theorem diags_of:∀ (ass:List (List AV)),(∀ (i:Nat) (a:List AV),ass[i]? = some a→∃ d:DataW H,Rd Tryz.prog h 145 a d)→∃ l:List Dg,ass.flatten=flatD l∧l.length=ass.length
 | [],_=>⟨[],rfl,rfl⟩
 | a::r,hx=>by
  obtain ⟨d,hd⟩:=hx 0 a rfl
  obtain ⟨x,rfl⟩:=diag_of hd
  obtain ⟨l,l1,l2⟩:=diags_of r fun i a ha=>hx (i+1) a (by simpa using ha)
  exact ⟨x::l,by rw [List.flatten_cons,l1];rfl,by simp [l2]⟩
theorem rec_of {cs:List AV} {d:DataW H} (hx:Rd Tryz.prog h 32 cs d):∃ (x:dens T36) (r:Rc),cs=CTy.tos T36 x∧RC h x r:=by
 obtain ⟨ass,ds,rfl,_,hf⟩:=Rd.fields st32 hx
 obtain ⟨a1,_,d1,_,rfl,rfl,r1,hf⟩:=hf.cons_inv
 obtain ⟨a2,_,d2,_,rfl,rfl,r2,hf⟩:=hf.cons_inv
 obtain ⟨a3,_,d3,_,rfl,rfl,r3,hf⟩:=hf.cons_inv
 obtain ⟨a4,_,d4,_,rfl,rfl,r4,hf⟩:=hf.cons_inv
 obtain ⟨a5,_,d5,_,rfl,rfl,r5,hf⟩:=hf.cons_inv
 obtain ⟨rfl,rfl⟩:=hf.nil_inv
 obtain ⟨nm,rfl,_⟩:=Rd.str_inv ud9 r1
 obtain ⟨c,rfl,_⟩:=Rd.int_inv ud22 r2
 obtain ⟨a,rfl,_⟩:=Rd.int_inv ud3 r3
 obtain ⟨s,ss,rfl,s1,s2,s3,s4,s5⟩:=Rd.sees ud30 (fun a d hd=>by obtain ⟨x,rfl⟩:=diag_of hd;exact co145.symm) r4
 obtain ⟨l,l1,l2⟩:=diags_of (H:=H) (h:=h) ss s5
 obtain ⟨z,y,rfl,hz⟩:=hash_of r5
 rw [co145] at s3
 refine ⟨(nm,c,a,s,z),⟨nm,c,a,l,y⟩,?_,⟨rfl,rfl,rfl,⟨by show s.len=l.length;omega,s3,by rw [← l1];exact s4⟩,hz⟩⟩
 simp only [List.flatten_cons,List.flatten_nil,List.append_nil,List.cons_append,List.nil_append]
 rfl
theorem recs_of:∀ (ass:List (List AV)),(∀ (i:Nat) (a:List AV),ass[i]? = some a→∃ d:DataW H,Rd Tryz.prog h 32 a d)→∃ (xs:List (dens T36)) (l:List Rc),ass.flatten=flatR xs∧xs.length=ass.length∧l.length=ass.length∧∀ i (h1:i<xs.length) (h2:i<l.length),RC h xs[i] l[i]
 | [],_=>⟨[],[],rfl,rfl,rfl,fun i h1=>absurd h1 (by simp)⟩
 | a::r,hx=>by
  obtain ⟨d,hd⟩:=hx 0 a rfl
  obtain ⟨x,c,rfl,rc⟩:=rec_of hd
  obtain ⟨xs,l,l1,l2,l3,l4⟩:=recs_of r fun i a ha=>hx (i+1) a (by simpa using ha)
  refine ⟨x::xs,c::l,by rw [List.flatten_cons,l1];rfl,by simp [l2],by simp [l3],fun i h1 h2=>?_⟩
  cases i with
  | zero=>exact rc
  | succ i=>exact l4 i (by simpa using h1) (by simpa using h2)
theorem verdict_of {cs:List AV} {d:DataW H} (hx:Rd Tryz.prog h 27 cs d):∃ (x:dens T35) (xs:List (dens T36)) (v:Vd),cs=CTy.tos T35 x∧VC h x xs v:=by
 obtain ⟨ass,ds,rfl,_,hf⟩:=Rd.fields st27 hx
 obtain ⟨a1,_,d1,_,rfl,rfl,r1,hf⟩:=hf.cons_inv
 obtain ⟨a2,_,d2,_,rfl,rfl,r2,hf⟩:=hf.cons_inv
 obtain ⟨a3,_,d3,_,rfl,rfl,r3,hf⟩:=hf.cons_inv
 obtain ⟨a4,_,d4,_,rfl,rfl,r4,hf⟩:=hf.cons_inv
 obtain ⟨rfl,rfl⟩:=hf.nil_inv
 obtain ⟨c,rfl,_⟩:=Rd.int_inv ud22 r1
 obtain ⟨a,rfl,_⟩:=Rd.int_inv ud3 r2
 obtain ⟨s,ss,rfl,s1,s2,s3,s4,s5⟩:=Rd.sees ud23 (fun a d hd=>by obtain ⟨x,r,rfl,_⟩:=rec_of hd;exact co32.symm) r3
 obtain ⟨xs,l,l1,l2,l3,l4⟩:=recs_of (H:=H) (h:=h) ss s5
 obtain ⟨z,y,rfl,hz⟩:=hash_of r4
 rw [co32] at s3
 refine ⟨(c,a,s,z),xs,⟨c,a,l,y⟩,?_,⟨rfl,rfl,⟨by show s.len=l.length;omega,s3,by rw [← l1];exact s4,by show xs.length=l.length;omega,l4⟩,hz⟩⟩
 simp only [List.flatten_cons,List.flatten_nil,List.append_nil,List.cons_append,List.nil_append]
 rfl
theorem text_of {cs:List AV} {d:DataW H} (hx:Rd Tryz.prog h 28 cs d):∃ (s:SL) (b:Bs),cs=[.slice s.a s.len s.cap s.sz]∧One h s (ofBytes b):=by
 obtain ⟨s,ss,rfl,s1,s2,s3,s4,s5⟩:=Rd.sees ud28 (fun a d hd=>by obtain ⟨n,rfl,_⟩:=Rd.int_inv ud5 hd;exact co5.symm) hx
 obtain ⟨b,b1,b2⟩:=bytes_of (H:=H) (h:=h) ss s5
 rw [co5] at s3
 exact ⟨s,b,rfl,by rw [ofB_len];omega,s3,by rw [← b1];exact s4⟩
theorem verdictlaw_true (h:Heap) (hp:Vx.pinned h=true) (hn:2≤h.next) (vs:List AV) (ds:List (DataW H)) (hr:RdArgs Tryz.prog h [27,28,3,5,3] vs ds):∃ (xs:vdens [.agg T35,.one .slice,.one (.int .i64),.one (.int .u8),.one (.int .i64)]) (h':Heap),VTy.tos _ xs=vs∧(fun (x:vdens [.agg T35,.one .slice,.one (.int .i64),.one (.int .u8),.one (.int .i64)]) h=>f3 3000 x.1 x.2.1 x.2.2.1 x.2.2.2.1 x.2.2.2.2.1 h) xs h=some (true,h'):=by
 obtain ⟨c1,d1,_,_,rfl,rfl,r1,hr⟩:=hr.cons_inv
 obtain ⟨c2,d2,_,_,rfl,rfl,r2,hr⟩:=hr.cons_inv
 obtain ⟨c3,d3,_,_,rfl,rfl,r3,hr⟩:=hr.cons_inv
 obtain ⟨c4,d4,_,_,rfl,rfl,r4,hr⟩:=hr.cons_inv
 obtain ⟨c5,d5,_,_,rfl,rfl,r5,hr⟩:=hr.cons_inv
 obtain ⟨rfl,rfl⟩:=hr.nil_inv
 obtain ⟨x,xs,v,rfl,vc⟩:=verdict_of r1
 obtain ⟨s,b,rfl,hs⟩:=text_of r2
 obtain ⟨n3,rfl,_⟩:=Rd.int_inv ud3 r3
 obtain ⟨n4,rfl,_,w1,w2⟩:=Rd.int_inv ud5 r4
 obtain ⟨n5,rfl,_⟩:=Rd.int_inv ud3 r5
 have w1':(0:Int)≤n4:=w1
 have w2':n4≤255:=w2
 obtain ⟨h',e⟩:=f3_true (N:=3000) (a2:=n3) (a4:=n5) vc hs hp (by omega) w1' (by omega) (Nat.le_refl _)
 obtain ⟨fs,hfs⟩:=isSt st27
 refine ⟨(x,s,n3,n4,n5,()),h',?_,e⟩
 rw [argOf_struct hfs,argOf_one (by rw [ud28];simp) (by rw [ud28];simp),argOf_one (by rw [ud3];simp) (by rw [ud3];simp),argOf_one (by rw [ud5];simp) (by rw [ud5];simp),argOf_one (by rw [ud3];simp) (by rw [ud3];simp)]
 rfl
end
end Vp
set_option maxRecDepth 100000
namespace Vp
open Go.Proofs.YtjipnkhkkhpenaaGreatDoor
theorem et:Tryz.prog.globalNamed "errors.errorType" = some 0:=by kernel_rfl
theorem rt:(Tryz.prog.cutTypes.find? (·.1 == "internal/reflectlite.rtype")).map (·.2)=some 303:=by kernel_rfl
theorem oneRow:((List.range 377).filter fun t=>Tryz.prog.rowNamed t [101,114,114,111,114])=[34]:=by kernel_rfl
theorem tsize:Tryz.prog.types.size=377:=by kernel_rfl
theorem hand:typeHandle Tryz.prog 34=.pointer (some ⟨4,34,none⟩):=by kernel_rfl
theorem var_of {W:World} (h:laidMetH Tryz.prog Rows.verdictBytesRow.laid W):W.var? Tryz.prog "errors.errorType" = some #[.iface 303 (.agg #[.pointer (some ⟨4,34,none⟩)])]:=by
 have h':laidMet Tryz.prog (Rows.verdictBytesRow.laid.filter fun x=>x.2.handleName?.isNone) W∧handlesMet Tryz.prog [("errors.errorType",Rows.laid_errors_errorType)] W:=h
 have h2:=h'.2 _ (List.mem_singleton.2 rfl)
 obtain ⟨name,u,ty,e1,e2,e3,e4,e5⟩:=h2
 have en:name=[101,114,114,111,114]:=(Option.some.inj e1).symm
 subst en
 obtain rfl:=Option.some.inj (rt.symm.trans e2)
 have hm:ty∈(List.range 377).filter fun t=>Tryz.prog.rowNamed t [101,114,114,111,114]:=List.mem_filter.2 ⟨List.mem_range.2 (by rw [← tsize];exact e3),e4⟩
 rw [oneRow] at hm
 obtain rfl:=List.mem_singleton.1 hm
 rw [hand] at e5
 exact e5
theorem big:4<(begin Tryz.prog (fun _ _=>0) default).world.heap.size:=by
 have:Nat.blt 4 (begin Tryz.prog (fun _ _=>0) default).world.heap.size=true:=by kernel_rfl
 simpa [Nat.blt_eq] using this
theorem gsize:Tryz.prog.globals.size=4:=by kernel_rfl
theorem start_hr {W:World} (h:laidMetH Tryz.prog Rows.verdictBytesRow.laid W) (hs:W.ShapedOpen Tryz.prog):HR Vx.mu0 Vx.h0 W:=by
 have hv:=var_of h
 have hc:W.cell? ⟨0,0,none⟩=some (.iface 303 (.agg #[.pointer (some ⟨4,34,none⟩)])):=by simpa using World.var?_cell et hv 0
 obtain ⟨o,_,ho,_⟩:=hs.2 4 (by rw [gsize];omega) big
 have h7:4<W.heap.size:=(Array.getElem?_eq_some_iff.1 ho).1
 unfold World.var? at hv
 rw [et] at hv
 have hv:(match W.heap[0]? with | some (Obj.cells cs _ _)=>some cs | _=>(Option.none:Option (Array Value)))=some #[Value.iface 303 (.agg #[.pointer (some ⟨4,34,none⟩)])]:=hv
 cases hq:W.heap[0]? with
 | none=>rw [hq] at hv;cases hv
 | some o=>
  rw [hq] at hv
  cases o with
  | cells cs e fz=>
   simp only [Option.some.injEq] at hv
   subst hv
   exact Vx.hr0_of h7 (e:=e) (by simp only [World.shape?,hq];rfl) hc
  | _=>cases hv
theorem start_pinned {h:Heap} (hl:HLe Vx.h0 h):Vx.pinned h=true∧2≤h.next:=by
 refine ⟨?_,hl.next⟩
 have h1:Vx.pinned Vx.h0=true:=by kernel_rfl
 have e:h.t.get 0=Vx.h0.t.get 0:=(hl.get 0 _ Tr.get_set_same).trans Tr.get_set_same.symm
 unfold Vx.pinned at h1 ⊢
 rw [hl.pins,e];exact h1
end Vp
end Go.Proofs.YtjipnkhkkhpenaaGreatDoor
