import Derived.Test.YtkcjphhjmlienaaGreatDoorAi1
import Derived.KernelRfl
import Derived.ProofKit
import Derived.IntWalk
import Derived.Deep.Slices
import Derived.ChangeReads
import Derived.OpenShut
/- A verified evaluator for the model of the program: what it evaluates is what the program computes, whatever else the memory holds; part 2. Conditions: no package variables. -/
namespace Go.Proofs.YtkcjphhjmlienaaGreatDoor
set_option linter.unusedVariables false
set_option linter.unusedSimpArgs false
set_option linter.defProp false
namespace Ai
section
variable {α:Type}
variable {E:Env} {P:Program} {call:CallF} {fr fr2:Fr}
def pV {ops:List Oper} {o:Oper} {ps:List Nat}:∀ {l:List Oper} {j:Nat},mA1 ops o ps j l=true->∀ k x,l[k]? = some x->j+k∈ps\/kAf ops x o=true
 | [],j,h,k,x,f=>by simp at f
 | y::r,j,h,k,x,f=>by
  simp only [mA1,xG,Bool.or_eq_true] at h
  cases k with
  | zero=>grind [aE,id]
  | succ k=>
   simp at f
   have:=pV h.2 k x f
   grind
def aA4 {ops:List Oper} {f:List (List Nat)}:∀ {l:List Oper} {i:Nat},nA1 ops f i l=true->∀ k o,l[k]? = some o->
  (∀ j x,(ops.take (i+k))[j]? = some x->j∈(f[i+k]?).getD []\/kAf ops x o=true)/\(∀ e∈yE o.after.toList,e<i+k)
 | [],i,h,k,o,p=>by simp at p
 | y::r,i,h,k,o,p=>by
  simp only [nA1,xG] at h
  cases k with
  | zero=>
   simp at p;subst p;refine ⟨fun j x u=>by simpa using pV h.1.1 j x (by simpa using u),fun e w=>?_⟩
   simp_all
  | succ k=>
   simp at p
   have:=aA4 h.2 k o p
   grind
def jK {ops:List Oper} {x y:Oper} (f:kAf ops x y=true):(lP x.op=true->aD y.op≠2)/\(∀ t,x.dst=some t->t ∉ iF ops y)/\(∀ t,y.dst=some t->t ∉ iF ops x)/\(∀ t,x.dst=some t->y.dst≠some t):=by
 simp only [kAf,xG,Bool.not_eq_true'] at f;have ⟨h,j⟩:=f;refine ⟨fun p r=>?_,(lAs h).2⟩
 simp_all
def pBi (ops:List Oper) (recs:List (Fr×Heap×AV)) (h':Heap):Prop:=∀ (x m:Nat) (f h:Oper) (b:Blk),x<m->x ∉ ((fD ops [])[m]?).getD []->ops[x]? = some f->lP f.op=false->ops[m]? = some h->lP h.op=true->
 pA1 ops.length recs h' (x+1)=(pA1 ops.length recs h' x).push b->(pA1 ops.length recs h' (m+1)).t.get (pA1 ops.length recs h' x).next=(pA1 ops.length recs h' m).t.get (pA1 ops.length recs h' x).next
def pB4 (ok:EnvOK E P) (e5:rA3 P call) {nt:Nat} {ops:Array Oper} {h:Heap} {fr':Fr} {h':Heap} {recs:List (Fr×Heap×AV)} (ht:jF E call nt ops.toList ops.toList fr h=some (recs,fr',h')) (j8:tAv ops.toList=true) (j5:oBa E call ops.toList recs h') (l0:pBi ops.toList recs h')
  {μ:Mu} {w:World} {a:Act} {Q:Exit->Act->World->Prop} (hr:HR μ h w) (ha:AR μ nt fr a) (hq:∀ y a' w',AR y nt fr' a'->HR y h' w'->Ext μ h w y h' w'->Q .normal a' w'):wpAny P .any ops Q ops.size (Array.replicate ops.size false) a { w with drawn:=w.drawn+1 }:=by
 skip
 {
  skip
  {
   have ⟨F,H,V,f0,g0,fn,gn,a1,f5⟩:=mM ht;have d5:ops.toList.length=ops.size:=by simp
   have ord:∀ (i:Nat) (o:Oper),ops.toList[i]? = some o->(∀ (j:Nat) (x:Oper),j<i->ops.toList[j]? = some x->j∈((fD ops.toList [])[i]?).getD []\/kAf ops.toList x o=true)/\(∀ e∈yE o.after.toList,e<i):=by
    intro i o ho
    have:=aA4 (i:=0) j8 i o ho
    grind
   have d6:∀ (i:Nat) (ps:List Nat),(fD ops.toList [])[i]? = some ps->∃ o:Oper,ops.toList[i]? = some o/\∀ p∈ps,p∈yE o.after.toList\/∃ e∈yE o.after.toList,∃ qs,(fD ops.toList [])[e]? = some qs/\p∈qs:=by
    intro i ps hi
    have:=yX ops.toList [] [] rfl (by simp) i ps hi
    simpa using this
   have b9:∀ (S:Nat->Prop),(∀ (i:Nat) (o:Oper),ops.toList[i]? = some o->S i->∀ e∈yE o.after.toList,S e)->
     ∀ (i:Nat) (o:Oper),ops.toList[i]? = some o->(∀ e∈yE o.after.toList,S e)->∀ p∈((fD ops.toList [])[i]?).getD [],S p:=by
    intro S c9 i
    induction i using Nat.strongRecOn with
    | _ i ih=>
     intro o ho he p hp
     cases j3:(fD ops.toList [])[i]? with
     | none=>simp [j3] at hp
     | some ps=>
      simp [j3] at hp;have ⟨o',b5,m5⟩:=d6 i ps j3;rw [ho] at b5;cases b5;rcases m5 p hp with K | ⟨e,K,qs,h4,h5⟩
      ·exact he p K
      ·have I:=(ord i o ho).2 e K
       have ⟨oe,l1,_⟩:=d6 e qs h4;exact ih e I oe l1 (c9 e oe l1 (he e K)) p (by simp [h4];exact h5)
   have wrote:∀ (i:Nat),i<=ops.size->∀ t v,(F i).get t=some v->
     (∃ k o,k<i/\ops.toList[k]? = some o/\o.dst=some t/\t<nt/\v=V k/\∀ k' o',k'<i->ops.toList[k']? = some o'->o'.dst=some t->k'<=k)\/
     ((∀ k o,k<i->ops.toList[k]? = some o->o.dst≠some t)/\fr.get t=some v):=by
    intro i
    induction i with
    | zero=>grind
    | succ i ih=>
     intro hi t v hv;obtain ⟨o,ho⟩:∃ o,ops.toList[i]? = some o:=⟨ops.toList[i]'(by simp;omega),by simp⟩;rw [(a1 i o ho).2] at hv;have old:(F i).get t=some v->o.dst≠some t->(∃ k o,k<i+1/\ops.toList[k]? = some o/\o.dst=some t/\t<nt/\v=V k/\∀ k' o',k'<i+1->ops.toList[k']? = some o'->o'.dst=some t->k'<=k)\/
       ((∀ k o,k<i+1->ops.toList[k]? = some o->o.dst≠some t)/\fr.get t=some v):=by
      intro g5 f8;rcases ih (by omega) t v g5 with ⟨k,o7,U,Y,K,h4,h5,h6⟩ | ⟨U,Y⟩
      ·grind
      grind
     cases d7:o.dst with
     | none=>
      rw [d7] at hv;exact old hv (by rw [d7];simp)
     | some d=>
      rw [d7] at hv;simp only [dV] at hv
      cases I:Nat.blt d nt with
      | false=>simp [I,Tr.get_nil] at hv
      | true=>
       simp only [I,xA] at hv;rcases Tr.get_set hv with ⟨rfl,rfl⟩ | ⟨f8,g5⟩
       ·exact .inl ⟨i,o,by omega,ho,d7,by simpa [Nat.blt_eq] using I,rfl,fun k' _ o4 _ _=>by omega⟩
       ·exact old g5 (by grind)
   rw [d5] at gn;have o6:∀ k,k<=ops.size->pA1 ops.toList.length recs h' k=H k:=by
    intro k hk;unfold pA1;rw [d5]
    by_cases I:k<ops.size
    ·rw [show Nat.blt k ops.size=true by simpa [Nat.blt_eq] using I,xA,f5 k (by simpa using I)]
    ·have:k=ops.size:=by omega
     subst this;have hq:Nat.blt ops.size ops.size=false:=by
      grind [Nat.blt,Nat.blt_eq]
     rw [hq,xB,gn]
   have f9:∀ (x m:Nat) (ox om:Oper) (b:Blk),x<m->x ∉ ((fD ops.toList [])[m]?).getD []->ops.toList[x]? = some ox->lP ox.op=false->ops.toList[m]? = some om->lP om.op=true->H (x+1)=(H x).push b->(H (m+1)).t.get (H x).next=(H m).t.get (H x).next:=by
    intro x m ox om b m7 n6 l2 a4 l4 b4 hb;have o0:m<ops.size:=by grind
    have:=l0 x m ox om b m7 n6 l2 a4 l4 b4 (by grind)
    grind
   have k9:∀ i,i<ops.size->∃ o,ops.toList[i]? = some o:=fun i hi=>⟨ops.toList[i]'(by simp;omega),by simp⟩;have e4:∀ (i:Nat) (o:Oper),ops.toList[i]? = some o->lP o.op=false->H (i+1)=H i\/∃ b,H (i+1)=(H i).push b:=by
    intro i o ho c5
    by_cases hk:aD o.op=2
    ·have hs:=(a1 i o ho).1
     unfold vE at hs
     split at hs
     ·grind [wA3,fAb]
     ·grind
     ·cases hs
    grind [lK]
   have l3:∀ (d i:Nat),i+d<=ops.size->(∀ k o,i<=k->k<i+d->ops.toList[k]? = some o->lP o.op=false)->(H i).next<=(H (i+d)).next/\(∀ A,A<(H i).next->(H (i+d)).t.get A=(H i).t.get A)/\(H (i+d)).pins=(H i).pins:=by
    intro d
    induction d with
    | zero=>grind
    | succ d ih=>
     intro i hi c5;have ⟨U,Y,l5⟩:=ih i (by omega) (fun k o g1 g2=>c5 k o g1 (by omega));have ⟨o,ho⟩:=k9 (i+d) (by omega);rw [show i+(d+1)=(i+d)+1 from rfl];rcases e4 (i+d) o ho (c5 _ o (by omega) (by omega) ho) with K | ⟨b,K⟩
     ·grind
     ·rw [K]
      refine ⟨xT U (Nat.le_succ _),fun A hA=>?_,l5⟩;rw [<- Y A hA];exact lAk (by omega)
   have f6:∀ (s m:Nat),(∀ k o,s<=k->k<m->ops.toList[k]? = some o->lP o.op=false)->m<=ops.size->∀ (i j:Nat),s<=i->i<=j->j<=m->(H i).next<=(H j).next/\(∀ A,A<(H i).next->(H j).t.get A=(H i).t.get A)/\(H j).pins=(H i).pins:=by
    intro s m c5 o3 i j o5 k7 hj
    have:=l3 (j-i) i (by omega) (fun k o g1 g2=>c5 k o (by omega) (by omega))
    rwa [show i+(j-i)=j by omega] at this
   have next:∀ a,a<=ops.size->∃ c,a<=c/\c<=ops.size/\(∀ k o,a<=k->k<c->ops.toList[k]? = some o->lP o.op=false)/\(c=ops.size\/∃ o,ops.toList[c]? = some o/\lP o.op=true):=by
    have:∀ d a,a+d=ops.size->∃ c,a<=c/\c<=ops.size/\(∀ k o,a<=k->k<c->ops.toList[k]? = some o->lP o.op=false)/\(c=ops.size\/∃ o,ops.toList[c]? = some o/\lP o.op=true):=by
     intro d
     induction d with
     | zero=>grind
     | succ d m9=>
      intro a n4;have ⟨o,m8⟩:=k9 a (by omega)
      cases hb:lP o.op with
      | true=>exact ⟨a,xD _,by omega,fun k o U Y=>by omega,.inr ⟨o,m8,hb⟩⟩
      | false=>
       have ⟨c,q1,q2,q3,q4⟩:=m9 (a+1) (by omega);refine ⟨c,by omega,q2,fun k o' U Y K=>?_,q4⟩
       grind
    intro a n4;exact this (ops.size-a) a (by omega)
   have lift:∀ (a c:Nat),a<=c->c<=ops.size->(∀ k o,a<=k->k<c->ops.toList[k]? = some o->lP o.op=false)->∀ (J:Mu) (w2:World),HR J (H a) w2->Ext μ h w J (H a) w2->HR J (H c) w2/\Ext μ h w J (H c) w2:=by
    intro a c n9 hc c5 J w2 Z a4;have ⟨b1,b2,b3⟩:=f6 a c c5 hc a c (xD _) n9 (xD _);refine ⟨⟨fun A l hA=>⟨xW (Z.dom A l hA).1 b1,(Z.dom A l hA).2⟩,
     fun A B la lb ba bb hA hB ga gb=>Z.inj A B la lb ba bb hA hB (by rw [<- b2 A (Z.dom A la hA).1];exact ga) (by rw [<- b2 B (Z.dom B lb hB).1];exact gb),
     fun A l b hA hb=>Z.blk A l b hA (by rw [<- b2 A (Z.dom A l hA).1];exact hb),fun x hx=>Z.pin x (by rw [<- b3];exact hx)⟩,?_⟩
    exact { mono:=a4.mono,next:=xT a4.next b1,fresh:=a4.fresh,wr:=fun A hA ⟨b,U,Y⟩=>a4.wr A hA ⟨b,by rw [<- b2 A (xW hA a4.next)];exact U,Y⟩,frame:=a4.frame,size:=a4.size,os:=a4.os,tape:=a4.tape,output:=a4.output }
   have done:∀ (listed:Array Bool) (y:Mu) (a':Act) (w':World),(∀ i,i<ops.size->listed.getD i false=true)->
     HR y h' w'->Ext μ h w y h' w'->
     a'.tmps.size=nt->a'.defers=[]->
     (∀ t k o,t<nt->ops.toList[k]? = some o->o.dst=some t->listed.getD k false=true->(∀ (k':Nat) (o':Oper),ops.toList[k']? = some o'->listed.getD k' false=true->o'.dst=some t->k'<=k)->VR y (V k) (a'.tmps.getD t undef))->
     (∀ t v,(∀ (k:Nat) (o:Oper),ops.toList[k]? = some o->listed.getD k false=true->o.dst≠some t)->fr.get t=some v->VR y v (a'.tmps.getD t undef))->Q .normal a' w':=by
    intro listed y a' w' a2 l7 X c6 c4 a6 a5;refine hq y a' w' ⟨fun t v hv=>?_,c6,c4⟩ l7 X;rw [<- fn,d5] at hv;rcases wrote ops.size (xD _) t v hv with ⟨k,o,U,Y,K,h4,rfl,h6⟩ | ⟨U,Y⟩
    ·exact a6 t k o h4 Y K (a2 k U) fun k' o' b5 _ a7=>h6 k' o' (by grind) b5 a7
    ·exact a5 t v (fun k o ho _=>U k o (by grind) ho) Y
   have main:∀ (a3:Nat) (listed:Array Bool) (y:Mu) (a':Act) (w':World) (us:List Nat) (m:Nat),us.length<=a3->(∀ i,i<ops.size->listed.getD i false=false->i∈us)->listed.size=ops.size->
     (∀ (i:Nat) (o:Oper),ops.toList[i]? = some o->listed.getD i false=true->∀ e∈yE o.after.toList,listed.getD e false=true)->
     m<=ops.size->(∀ k o,k<m->ops.toList[k]? = some o->lP o.op=true->listed.getD k false=true)->
     (m=ops.size\/∃ o,ops.toList[m]? = some o/\lP o.op=true/\listed.getD m false=false)->(∀ i j,i<=j->j<=m->(H i).next<=(H j).next)->
     HR y (H m) w'->Ext μ h w y (H m) w'->(∀ (i:Nat) (o:Oper) (b:Blk),i<m->ops.toList[i]? = some o->lP o.op=false->H (i+1)=(H i).push b->listed.getD i false=false->y (H i).next=none/\(H m).t.get (H i).next=some b)->
     a'.tmps.size=nt->a'.defers=[]->
     (∀ t k o,t<nt->ops.toList[k]? = some o->o.dst=some t->listed.getD k false=true->(∀ (k':Nat) (o':Oper),ops.toList[k']? = some o'->listed.getD k' false=true->o'.dst=some t->k'<=k)->VR y (V k) (a'.tmps.getD t undef))->
     (∀ t v,(∀ (k:Nat) (o:Oper),ops.toList[k]? = some o->listed.getD k false=true->o.dst≠some t)->fr.get t=some v->VR y v (a'.tmps.getD t undef))->
     wpAny P .any ops Q a3 listed a' w':=by
    intro a3
    induction a3 with
    | zero=>
     intro listed y a' w' us m hu i3 k2 c9 j0 f3 b7 r c2 X a8 c6 c4 a6 a5;have a2:∀ i,i<ops.size->listed.getD i false=true:=by
      intro i hi
      cases L:listed.getD i false with
      | true=>rfl
      | false=>
       have:=i3 i hi L
       have:us=[]:=List.eq_nil_of_length_eq_zero (by omega)
       subst this;simp at *
     have f7:m=ops.size:=by
      rcases b7 with U | ⟨o,U,Y,K⟩
      ·exact U
      ·have:=(List.getElem?_eq_some_iff.1 U).1
       rw [a2 m (by omega)] at K;cases K
     subst f7;rw [gn] at c2 X;refine ⟨?_,?_⟩
     ·simp only [Region.ready,List.filter_eq_nil_iff,List.mem_range]
      intro i hi hc;have U:=a2 i hi
      grind
     ·exact done listed y a' w' a2 c2 X c6 c4 a6 a5
    | succ a3 ih=>
     intro listed y a' w' us m hu i3 k2 c9 j0 f3 b7 r c2 X a8 c6 c4 a6 a5;refine ⟨?_,?_⟩
     ·intro i5
      have a2:∀ i,i<ops.size->listed.getD i false=true:=by
       intro i
       induction i using Nat.strongRecOn with
       | _ i n5=>
        intro b8
        cases L:listed.getD i false with
        | true=>rfl
        | false=>
         exfalso
         have I:i<listed.size:=by omega
         have l9:listed.getD i true=false:=by simp [Array.getD,I] at L ⊢;exact L
         have i8:i∈Region.ready .any ops listed:=by
          simp only [Region.ready,List.mem_filter,List.mem_range,xG,Bool.not_eq_true'];refine ⟨b8,l9,?_⟩;have ho:ops[i]? = some ops[i]:=by simp [b8]
          rw [ho];simp only [Option.map_some,Option.getD_some,Array.all_eq_true_iff_forall_mem];intro x hx
          cases m4:Region.binds .any x
          ·simp
          ·have he:x.on∈yE ops[i].after.toList:=gK.2 ⟨x,by simpa using hx,m4,rfl⟩;have k0:=(ord i ops[i] (by simp [b8])).2 _ he;simpa using n5 x.on k0 (by omega)
         rw [i5] at i8;simp at i8
      have f7:m=ops.size:=by
       rcases b7 with U | ⟨o,U,Y,K⟩
       ·exact U
       ·have:=(List.getElem?_eq_some_iff.1 U).1
        rw [a2 m (by omega)] at K;cases K
      subst f7;rw [gn] at c2 X;exact done listed y a' w' a2 c2 X c6 c4 a6 a5
     ·intro i hi
      simp only [Region.ready,List.mem_filter,List.mem_range,xG,Bool.not_eq_true'] at hi;have ⟨b8,k1,j2⟩:=hi;have I:i<listed.size:=by omega
      have b0:listed.getD i false=false:=by simp [Array.getD,I] at k1 ⊢;exact k1
      have ho:ops[i]? = some ops[i]:=by simp [b8]
      have W:ops.toList[i]? = some ops[i]:=by simp [b8]
      have f4:∀ e∈yE ops[i].after.toList,listed.getD e false=true:=by
       intro e he;have ⟨x,U,Y,K⟩:=gK.1 he;rw [ho] at j2;simp only [Option.map_some,Option.getD_some,Array.all_eq_true_iff_forall_mem] at j2
       have:=j2 x (by simpa using U)
       simp [Y] at this;rw [<- K];simpa using this
      have d3:=b9 (fun k=>listed.getD k false=true) c9 i ops[i] W f4;have behind:∀ (k:Nat) (o:Oper),i<k->ops.toList[k]? = some o->listed.getD k false=true->kAf ops.toList ops[i] o=true:=by
       intro k o k3 f c7;rcases (ord k o f).1 i ops[i] k3 W with U | U
       ·have h9:listed.getD i false=true:=b9 (fun k=>listed.getD k false=true) c9 k o f (c9 k o f c7) i U
        rw [b0] at h9;cases h9
       ·exact U
      have ahead:∀ (k:Nat) (o:Oper),k<i->ops.toList[k]? = some o->listed.getD k false=true\/kAf ops.toList o ops[i]=true:=by
       intro k o O f;rcases (ord i ops[i] W).1 k o O f with U | U
       ·exact .inl (d3 k U)
       ·exact .inr U
      have d4:aD ops[i].op=2->(i<m/\lP ops[i].op=false)\/(i=m/\lP ops[i].op=true):=by
       intro hk;rcases Nat.lt_trichotomy i m with Y | Y | Y
       ·cases hb:lP ops[i].op with
        | false=>exact .inl ⟨Y,rfl⟩
        | true=>
         have:=f3 i ops[i] Y W hb
         rw [b0] at this;cases this
       ·rcases b7 with K | ⟨o,K,h4,h5⟩
        ·omega
        ·subst Y;rw [W] at K;cases K;exact .inr ⟨rfl,h4⟩
       ·rcases b7 with K | ⟨o,K,h4,h5⟩
        ·omega
        ·rcases ahead m o Y K with h6 | h6
         ·rw [h5] at h6;cases h6
         ·exact absurd hk ((jK h6).1 h4)
      have i7:∀ t,(Tr.restrict.restrictL (fun t=>aV t (iF ops.toList ops[i])) (F i)).get t=bif aV t (iF ops.toList ops[i]) then (F i).get t else none:=fun t=>Tr.get_restrict (F i) _ t;have g6:AR y nt (Tr.restrict.restrictL (fun t=>aV t (iF ops.toList ops[i])) (F i)) a':=by
       refine ⟨fun t v hv=>?_,c6,c4⟩;rw [i7] at hv
       cases j4:aV t (iF ops.toList ops[i]) with
       | false=>simp [j4] at hv
       | true=>
        simp only [j4,xA] at hv;have e7:=aE.1 j4;rcases wrote i (by omega) t v hv with ⟨k,o,U,Y,K,h4,rfl,h6⟩ | ⟨U,Y⟩
        ·have c7:listed.getD k false=true:=by
          rcases ahead k o U Y with M | M
          ·exact M
          ·exact absurd e7 ((jK M).2.1 t K)
         refine a6 t k o h4 Y K c7 fun k' o' b5 e8 a7=>?_;rcases Nat.lt_trichotomy k' i with M | rfl | M
         ·exact h6 k' o' M b5 a7
         ·rw [b0] at e8;cases e8
         ·exact absurd e7 ((jK (behind k' o' M b5 e8)).2.2.1 t a7)
        ·refine a5 t v (fun k o f c7 a7=>?_) Y
         rcases Nat.lt_trichotomy k i with M | rfl | M
         ·exact U k o M f a7
         ·rw [b0] at c7;cases c7
         ·exact absurd e7 ((jK (behind k o M f c7)).2.2.1 t a7)
      have e6:∀ Hx,vE E call ops.toList (Tr.restrict.restrictL (fun t=>aV t (iF ops.toList ops[i])) (F i)) ops[i] Hx=vE E call ops.toList (F i) ops[i] Hx:=by
       intro Hx;refine kA8 fun t ht=>?_;rw [i7,aE.2 ht];rfl
      have go:∀ (m2:Nat) (J:Mu) (u:Value) (w2:World),VR J (V i) u->m2<=ops.size->(∀ k o,k<m2->ops.toList[k]? = some o->lP o.op=true->k≠i->listed.getD k false=true)->
        (m2=ops.size\/∃ o,ops.toList[m2]? = some o/\lP o.op=true/\m2≠i/\listed.getD m2 false=false)->(∀ i j,i<=j->j<=m2->(H i).next<=(H j).next)->HR J (H m2) w2->y.le J->Ext μ h w J (H m2) w2->
        (∀ (j:Nat) (o:Oper) (b:Blk),j<m2->ops.toList[j]? = some o->lP o.op=false->j≠i->H (j+1)=(H j).push b->listed.getD j false=false->J (H j).next=none/\(H m2).t.get (H j).next=some b)->
        wpAny P .any ops Q a3 (listed.setIfInBounds i true) (a'.put ops[i].dst u) w2:=by
       intro m2 J u w2 hv p2 p4 p5 p6 Z d0 C i4;refine ih (listed.setIfInBounds i true) J _ w2 (us.erase i) m2 ?_ ?_ (by simpa using k2) ?_ p2 ?_ ?_ p6 Z C ?_ (by simpa [Act.put] using (by cases ops[i].dst <;> simp [c6])) (by cases ops[i].dst <;> simp [Act.put,c4]) ?_ ?_
       ·have:=i3 i b8 b0
        rw [List.length_erase_of_mem this];omega
       ·intro k hk L
        rw [rE I] at L
        by_cases O:k=i
        ·rw [if_pos O] at L;cases L
        ·rw [if_neg O] at L
         exact (List.mem_erase_of_ne O).2 (i3 k hk L)
       ·intro k o f L e he
        rw [rE I] at L ⊢
        by_cases k5:e=i
        ·rw [if_pos k5]
        ·rw [if_neg k5]
         by_cases O:k=i
         ·subst O;rw [W] at f;cases f;exact f4 e he
         ·rw [if_neg O] at L;exact c9 k o f L e he
       ·intro k o hk f d8
        rw [rE I]
        by_cases O:k=i
        ·rw [if_pos O]
        ·rw [if_neg O];exact p4 k o hk f d8 O
       ·rcases p5 with p5 | ⟨o,g1,g2,g3,g4⟩
        ·exact .inl p5
        ·exact .inr ⟨o,g1,g2,by rw [rE I,if_neg g3];exact g4⟩
       ·intro j o b e3 c0 c3 hb L
        rw [rE I] at L
        by_cases d9:j=i
        ·rw [if_pos d9] at L;cases L
        ·rw [if_neg d9] at L
         exact i4 j o b e3 c0 c3 d9 hb L
       ·intro t k o l6 f a7 L i6
        rw [rE I] at L
        by_cases c8:ops[i].dst=some t
        ·have k3:i<=k:=i6 i ops[i] W (by rw [rE I,if_pos rfl]) c8
         have O:k=i:=by
          by_cases O:k=i
          ·exact O
          ·rw [if_neg O] at L
           exact absurd a7 ((jK (behind k o (by omega) f L)).2.2.2 t c8)
         subst O;rw [c8,uAo (by omega)];exact hv
        ·have O:k≠i:=by rintro rfl;rw [W] at f;cases f;exact c8 a7
         rw [if_neg O] at L;rw [lV c8];refine VR.mono d0 _ _ (a6 t k o l6 f a7 L fun k' o' b5 e8 j9=>i6 k' o' b5 ?_ j9);rw [rE I];split
         ·rfl
         ·exact e8
       ·intro t v k4 g5
        have c8:ops[i].dst≠some t:=k4 i ops[i] W (by rw [rE I,if_pos rfl]);rw [lV c8];refine VR.mono d0 _ _ (a5 t v (fun k o f L=>k4 k o f ?_) g5);rw [rE I];split
        ·rfl
        ·exact L
      have R:vE E call ops.toList (Tr.restrict.restrictL (fun t=>aV t (iF ops.toList ops[i])) (F i)) ops[i] (H i)=some (V i,H (i+1)):=by rw [e6];exact (a1 i ops[i] W).1
      have i9:i≠m->(m=ops.size\/∃ o,ops.toList[m]? = some o/\lP o.op=true/\m≠i/\listed.getD m false=false):=fun f8=>b7.imp (fun x=>x) (fun ⟨o,g1,g2,g3⟩=>⟨o,g1,g2,fun e=>f8 e.symm,g3⟩);show wpOp P ops Q i _ a' w';unfold wpOp;rw [ho]
      cases a9:lP ops[i].op with
      | true=>
       have ⟨d8,_⟩:=yA3 a9;have e9:i=m:=by
        rcases d4 d8 with ⟨_,K⟩ | ⟨K,_⟩
        ·rw [a9] at K;cases K
        ·exact K
       subst e9;refine dAb ok e5 c2 g6 R ?_;intro J u w2 hv Z C;have ⟨c,q1,q2,q3,q4⟩:=next (i+1) (by omega);have ⟨m3,j1⟩:=lift (i+1) c q1 q2 q3 J w2 Z (Ext.trans hr X C);have a0:=f6 (i+1) c q3 q2;refine go c J u w2 hv q2 ?_ ?_ ?_ m3 C.mono j1 ?_
       ·intro k o hk f g8 O
        rcases Nat.lt_or_ge k i with h6 | h6
        ·exact f3 k o h6 f g8
        ·have:=q3 k o (by omega) hk f
         rw [g8] at this;cases this
       ·rcases q4 with q4 | ⟨o,g1,g2⟩
        ·exact .inl q4
        ·refine .inr ⟨o,g1,g2,by omega,?_⟩
         cases n8:listed.getD c false
         ·rfl
         ·exact absurd (yA3 g2).1 ((jK (behind c o (by omega) g1 n8)).1 a9)
       ·intro j k k8 k6
        rcases Nat.lt_or_ge i k with h6 | h6
        ·rcases Nat.lt_or_ge i j with M | M
         ·exact (a0 j k (by omega) k8 k6).1
         ·exact xT (r j i M (xD _)) (xT C.next (a0 (i+1) k (xD _) (by omega) k6).1)
        ·exact r j k k8 h6
       ·intro j o b e3 c0 c3 d9 hb L
        rcases Nat.lt_or_ge j i with h6 | h6
        ·have ⟨f1,f2⟩:=a8 j o b h6 c0 c3 hb L
         have n0:(H j).next<(H i).next:=by
          have:=r (j+1) i (by omega) (xD _)
          rw [hb] at this;exact xW (xP _) this
         refine ⟨?_,?_⟩
         ·cases b4:J (H j).next with
          | none=>rfl
          | some l=>
           rcases C.fresh _ _ b4 with M | ⟨M,_⟩
           ·rw [f1] at M;cases M
           ·omega
         ·rw [(a0 (i+1) c (xD _) q1 (xD _)).2.1 _ (xW n0 C.next),f9 j i o ops[i] b h6 (fun hq=>by rw [d3 j hq] at L;cases L) c0 c3 W a9 hb]
          exact f2
        ·have b1:=(a0 (i+1) j (xD _) (by omega) (by omega)).1
         refine ⟨?_,?_⟩
         ·cases b4:J (H j).next with
          | none=>rfl
          | some l=>
           have:=(Z.dom _ _ b4).1
           omega
         ·have b2:=a0 (j+1) c (by omega) (by omega) (xD _)
          rw [hb] at b2;rw [b2.2.1 _ (xP _)];exact Tr.get_set_same
      | false=>
       have n7:=e4 i ops[i] W a9
       by_cases j6:∃ b,H (i+1)=(H i).push b
       ·have ⟨b,hb⟩:=j6
        have d8:aD ops[i].op=2:=by
         rcases Nat.lt_or_ge (aD ops[i].op) 2 with M | M
         ·exfalso
          have h8:=lK (by omega) (a1 i ops[i] W).1;have h9:=congrArg Heap.next (h8.symm.trans hb);exact absurd h9 (Nat.ne_of_lt (xP _))
         ·have:=jV ops[i].op;omega
        have e9:i<m:=by
         rcases d4 d8 with ⟨K,_⟩ | ⟨_,K⟩
         ·exact K
         ·rw [a9] at K;cases K
        have ⟨g9,n2⟩:=a8 i ops[i] b e9 W a9 hb b0;unfold vE at R
        split at R
        ·rename_i hw
         have ⟨b',sm,e1,e2,l,u,o',U,Y,K,h4⟩:=mAk ok g6 (fAb a9 d8) R g9 w';have m0:b'=b:=by
          have h5:=e1.symm.trans hb;have h6:=congrArg (fun x:Heap=>x.t.get (H i).next) h5;simp only [Heap.push] at h6;rw [Tr.get_set_same,Tr.get_set_same] at h6;exact Option.some.inj h6
         subst m0;have n1:(H i).next<(H m).next:=by
          have:=r (i+1) m (by omega) (xD _)
          rw [hb] at this;exact xW (xP _) this
         have n3:h.next<=(H i).next:=by
          have:=r 0 i (xc _) (by omega)
          rwa [g0] at this
         show (if Region.wanted ops[i] (yielded ops a'.tmps)=true then (ops[i].wp P a' w' (wpAny P .any ops Q a3 (listed.setIfInBounds i true)) Q\/(ops[i].asks P a' w'/\LetsOut Q)) else wpAny P .any ops Q a3 (listed.setIfInBounds i true) (a'.put ops[i].dst undef) w');rw [qP g6 hw];simp only [xM]
         left
         unfold Oper.wp;rw [e2,rA U,Sem.run_pure];rw [Oper.upon_value];refine go m _ u _ K j0 (fun k o g1 g2 g3 _=>f3 k o g1 g2 g3) (i9 (by omega)) r (c2.at g9 n1 n2 o' l Y h4) (Mu.le_add g9) (X.at g9 n3 o' l Y) fun j o c e3 c0 c3 d9 hc L=>?_;have f8:(H j).next≠(H i).next:=by
          rcases Nat.lt_or_ge j i with M | M
          ·have h8:=r (j+1) i (by omega) (by omega)
           rw [hc] at h8;exact Nat.ne_of_lt (xW (xP _) h8)
          ·have h8:=r (i+1) j (by omega) (by omega)
           rw [hb] at h8;exact (Nat.ne_of_lt (xW (xP _) h8)).symm
         have ⟨f1,f2⟩:=a8 j o c e3 c0 c3 hc L;refine ⟨?_,f2⟩;show (if (H j).next=(H i).next then some l else y (H j).next)=none;rw [if_neg f8];exact f1
        ·exfalso
         simp only [xF,xI] at R;have h9:=congrArg Heap.next (R.2.trans hb);exact absurd h9 (Nat.ne_of_lt (xP _))
        ·cases R
       ·have f9:H (i+1)=H i:=by
         rcases n7 with M | M
         ·exact M
         ·exact absurd M j6
        have g7:vE E call ops.toList (F i) ops[i] (H m)=some (V i,H m):=by
         rcases jV ops[i].op with h0 | U | Y
         ·exact fAg h0 (a1 i ops[i] W).1 (H m)
         ·have ⟨u,K,h4,he⟩:=j5 i ops[i] (F i) (H i) (V i) W (f5 i (by simpa using b8)) U m (H m) (by
           rcases b7 with M | ⟨o,M,h8,_⟩
           ·right;exact ⟨by rw [d5];exact M,by rw [M,gn]⟩
           ·left;exact ⟨o,F m,V m,M,h8,f5 m (by have:=(List.getElem?_eq_some_iff.1 M).1;simpa using this)⟩)
          have l8:=jA8 _ _ he;subst l8
          have:=lK (by omega) h4
          subst this;exact h4
         ·have hs:=(a1 i ops[i] W).1
          unfold vE at hs ⊢
          split at hs
          ·have ⟨b,hb⟩:=wA3 call (fAb a9 Y) hs
           exact absurd ⟨b,hb⟩ j6
          ·simp only [xF,xI] at hs
           rw [hs.1]
          ·cases hs
        have e9:i≠m:=by
         rintro rfl;rcases b7 with M | ⟨o,M,h8,_⟩
         ·omega
         ·rw [W] at M;cases M;rw [a9] at h8;cases h8
        refine dAb ok e5 c2 g6 (by rw [e6];exact g7) ?_;intro J u w2 hv Z C;refine go m J u w2 hv j0 (fun k o g1 g2 g3 _=>f3 k o g1 g2 g3) (i9 e9) r Z C.mono (Ext.trans hr X C) fun j o c e3 c0 c3 d9 hc L=>?_;have ⟨f1,f2⟩:=a8 j o c e3 c0 c3 hc L;refine ⟨?_,f2⟩
        cases b4:J (H j).next with
        | none=>rfl
        | some l=>
         exfalso
         rcases C.fresh _ _ b4 with M | ⟨M,_⟩
         ·rw [f1] at M;cases M
         ·have h8:=r (j+1) m (by omega) (xD _)
          rw [hc] at h8;exact absurd (xW (xP (H j).next) h8) (by omega)
   have ⟨c,q1,q2,q3,q4⟩:=next 0 (xc _);have j7:Ext μ h w μ (H 0) { w with drawn:=w.drawn+1 }:=by rw [g0];exact Ext.draws rfl rfl rfl rfl
   have ⟨m1,m6⟩:=lift 0 c q1 q2 q3 μ { w with drawn:=w.drawn+1 } (by rw [g0];exact hr.draws rfl) j7;have b6:∀ k,(Array.replicate ops.size false).getD k false=false:=by
    intro k;simp [Array.getD]
   have a0:=f6 0 c q3 q2;refine main ops.size _ μ a _ (List.range ops.size) c (by simp) (by intro i hi _;simpa using hi) (by simp) ?_ q2 (fun k o hk f g8=>by
    have:=q3 k o (xc _) hk f
    rw [g8] at this;cases this) ?_ (fun i j k7 hj=>(a0 i j (xc _) k7 hj).1) m1 m6 ?_ ha.size ha.defers ?_ ?_
   ·intro i o _ L;rw [b6] at L;cases L
   ·rcases q4 with q4 | ⟨o,g1,g2⟩
    ·exact .inl q4
    ·exact .inr ⟨o,g1,g2,b6 c⟩
   ·intro i o b hi _ _ hb _
    refine ⟨?_,?_⟩
    ·cases b4:μ (H i).next with
     | none=>rfl
     | some l=>
      exfalso
      have M:=(hr.dom _ _ b4).1
      have:=(a0 0 i (xD _) (xc _) (by omega)).1
      rw [g0] at this;omega
    ·have b2:=a0 (i+1) c (xc _) (by omega) (xD _)
     rw [hb] at b2;rw [b2.2.1 _ (xP _)];exact Tr.get_set_same
   ·intro t k o _ _ _ L;rw [b6] at L;cases L
   ·intro t v _ hv;exact ha.slot t v hv
  }
 }
end
end Ai
namespace Ai
section
variable {P:Program} {ops:Array Oper} {π:List Nat} {Q:Exit->Act->World->Prop}
theorem rP {ops:Array Oper} {listed:Array Bool} (y:listed.size=ops.size) {i:Nat}:i∈Region.ready .any ops listed↔∃ o,ops[i]? = some o/\listed.getD i false=false/\∀ x∈o.after.toList,Region.binds .any x=true->listed.getD x.on false=true:=by
 simp only [Region.ready,List.mem_filter,List.mem_range,xG,Bool.not_eq_true'];constructor
 ·rintro ⟨f,h,j⟩
  have r:i<listed.size:=by omega
  have p:ops[i]? = some ops[i]:=by simp [f]
  refine ⟨ops[i],p,by grind,fun x u w=>?_⟩
  grind [Array.all_eq_true_iff_forall_mem]
 grind
structure PermOK (π:List Nat) (ops:Array Oper):Prop where
 len:π.length=ops.size
 lt:∀ i,i<ops.size->mA7 π i<ops.size
 at':∀ i,i<ops.size->π[mA7 π i]? = some i
 inv:∀ k,k<ops.size->∃ i,π[k]? = some i/\i<ops.size/\mA7 π i=k
 edge:∀ (i:Nat) (o:Oper),ops[i]? = some o->(∀ x∈o.after.toList,x.on<ops.size)/\∀ g,o.guard=some g->g.1<ops.size
def qB4 (h:vAv π ops.toList=true):PermOK π ops:=by
 simp only [vAv,xG,List.all_eq_true,List.mem_range,Array.length_toList] at h;have ⟨⟨p,j⟩,u⟩:=h;have f:π.length=ops.size:=by simp_all
 refine ⟨f,fun i hi=>by simp_all,fun i hi=>?_,fun k r=>?_,fun i o w=>?_⟩
 ·grind [mA7,Nat.blt_eq,xK,List.getElem?_eq_getElem]
 ·simp_all
 ·have y:o∈ops.toList:=by
   grind
  grind [Nat.blt_eq,uAv]
def uA1 (f:PermOK π ops) {i:Nat} {o:Oper} (j:ops[i]? = some o):((aJ π ops.toList).toArray)[mA7 π i]? = some (pBh π o):=by
 have hi:i<ops.size:=(Array.getElem?_eq_some_iff.1 j).1;have h:ops.toList[i]? = some o:=by grind
 simp only [List.getElem?_toArray,aJ,List.getElem?_map,f.at' i hi,Option.map_some,h,Option.getD_some]
theorem qV (f:PermOK π ops):((aJ π ops.toList).toArray).size=ops.size:=by simp [aJ,f.len]
def rB4 (A:PermOK π ops):∀ (u:Nat) (listed f:Array Bool) (a:Act) (w:World),listed.size=ops.size->f.size=ops.size->(∀ i,i<ops.size->f.getD (mA7 π i) false=listed.getD i false)->
  wpAny P .any (aJ π ops.toList).toArray Q u f a w->wpAny P .any ops Q u listed a w:=by
 have V:∀ {listed f:Array Bool},listed.size=ops.size->f.size=ops.size->(∀ i,i<ops.size->f.getD (mA7 π i) false=listed.getD i false)->∀ i,i∈Region.ready .any ops listed->mA7 π i∈Region.ready .any (aJ π ops.toList).toArray f:=by
  intro listed f H r F i hi;have ⟨o,B,hn,he⟩:=(rP H).1 hi;have p:i<ops.size:=(Array.getElem?_eq_some_iff.1 B).1;refine (rP (by rw [qV A];exact r)).2 ⟨pBh π o,uA1 A B,by rw [F i p];exact hn,fun x hx hb=>?_⟩;have J:x∈(o.after.map (eBi π)).toList:=hx;rw [Array.toList_map] at J;obtain ⟨y,U,rfl⟩:=List.mem_map.1 J
  have:=he y U hb
  rw [<- F y.on ((A.edge i o B).1 y U)] at this;exact this
 have a0:∀ {listed f:Array Bool},listed.size=ops.size->f.size=ops.size->(∀ i,i<ops.size->f.getD (mA7 π i) false=listed.getD i false)->Region.ready .any ops listed=[]->Region.ready .any (aJ π ops.toList).toArray f=[]:=by
  intro listed f H r F hr;rw [List.eq_nil_iff_forall_not_mem];intro k W;have ⟨o',Z,hn,he⟩:=(rP (by rw [qV A];exact r)).1 W;have X:k<ops.size:=by grind [Array.getElem?_eq_some_iff,qV]
  have ⟨i,_,p,L⟩:=A.inv k X;have B:ops[i]? = some ops[i]:=by simp [p]
  have R:=uA1 A B;rw [L,Z] at R;simp only [xF] at R;subst R
  have:i∈Region.ready .any ops listed:=by
   refine (rP H).2 ⟨ops[i],B,by grind,fun x hx hb=>?_⟩
   have:=he (eBi π x) (by
    show eBi π x∈(ops[i].after.map (eBi π)).toList
    grind) hb
   rw [<- F x.on ((A.edge i _ B).1 x hx)];exact this
  grind
 have op:∀ {i:Nat} {K K':Act->World->Prop} {a:Act} {w:World},i<ops.size->(∀ a w,K' a w->K a w)->wpOp P (aJ π ops.toList).toArray Q (mA7 π i) K' a w->wpOp P ops Q i K a w:=by
  intro i K K' a w p hK M;have B:ops[i]? = some ops[i]:=by simp [p]
  have R:=uA1 A B;have C:=wpOp_mono hK M;unfold wpOp at C ⊢;rw [R] at C;rw [B];have I:Region.wanted (pBh π ops[i]) (yielded (aJ π ops.toList).toArray a.tmps)=Region.wanted ops[i] (yielded ops a.tmps):=by
   unfold Region.wanted
   cases O:ops[i].guard with
   | none=>
    grind [pBh,guard,aBs]
   | some g=>
    have ⟨j,b⟩:=g
    have:(pBh π ops[i]).guard=some (mA7 π j,b):=by show aBs π ops[i].guard=_;rw [O];rfl
    rw [this];have hj:j<ops.size:=(A.edge i _ B).2 _ O;have S:ops[j]? = some ops[j]:=by simp [hj]
    have Y:=uA1 A S;have U:yielded (aJ π ops.toList).toArray a.tmps (mA7 π j)=yielded ops a.tmps j:=by
     unfold yielded;rw [Y,S];rfl
    simp only [U]
  simp only [I] at C;exact C
 intro u
 induction u with
 | zero=>
  intro listed f a w H r F M;have ⟨h1,h2⟩:=M;refine ⟨?_,h2⟩;rw [List.eq_nil_iff_forall_not_mem]
  grind
 | succ u ih=>
  intro listed f a w H r F M;have ⟨h1,h2⟩:=M;refine ⟨fun hr=>h1 (a0 H r F hr),fun i hi=>?_⟩;have p:i<ops.size:=by
   grind [rP,Array.getElem?_eq_some_iff]
  refine op p (fun a w hK=>?_) (h2 (mA7 π i) (V H r F i hi));refine ih _ _ a w (by simpa using H) (by simpa using r) ?_ hK;intro k W;have a1:=A.lt i p;rw [rE (by omega),rE (by omega)]
  by_cases e:k=i
  ·subst e;simp
  ·have:mA7 π k≠mA7 π i:=fun h=>by
    have h3:=A.at' k W;rw [h,A.at' i p] at h3
    grind
   grind
def pBa {id:Nat} {a:Act} {w:World} (p:P.follows .mixedOrders=true) (j:vAv π ops.toList=true)
  (h:wpAny P .any (aJ π ops.toList).toArray Q (aJ π ops.toList).toArray.size (Array.replicate (aJ π ops.toList).toArray.size false) a { w with drawn:=w.drawn+1 }):(Code.region id ops true).wp P Q a w:=by
 have f:=qB4 j;refine wp_region_any p ?_;rw [qV f] at h;refine rB4 f ops.size _ _ a _ (by simp) (by simp) (fun i hi=>?_) h;simp [Array.getD]
end
end Ai
namespace Ai
section
variable {E:Env} {P:Program} {call:CallF} {fr:Fr}
def qBa {a b:BState} (h:fBi a b=true):a=b:=by
 cases a <;> cases b <;> first | rfl | (simp [fBi] at h;done) | (simp only [fBi] at h;rw [xK h])
def tB4:∀ {a b:Option Blk},rX a b=true->a=b
 | some (.row cs st),some (.row p r),h=>by
  simp only [rX,xG] at h;have f:=jA8 _ _ h.1;have j:=qBa h.2;simp only [AV.agg.injEq] at f;rw [f,j]
 | none,none,_=>rfl
 | none,some _,h=>by simp [rX] at h
 | some (.row _ _),none,h=>by simp [rX] at h
 | some (.map _ _),_,h=>by simp [rX] at h
 | some (.siter _ _),_,h=>by simp [rX] at h
 | some (.row _ _),some (.map _ _),h=>by simp [rX] at h
 | some (.row _ _),some (.siter _ _),h=>by simp [rX] at h
end
end Ai
namespace Ai
section
variable {E:Env} {P:Program}
def rV:Out->Exit
 | .norm=>.normal
 | .exit id=>.exit id
 | .ret=>.ret
def rA8:∀ (args:List AV) (i:Nat) (f:Fr) (t:Nat) (v:AV),(mAf i args f).get t=some v->(i<=t/\args[t-i]? = some v)\/f.get t=some v
 | [],i,f,t,v,h=>.inr h
 | x::r,i,f,t,v,h=>by
  simp only [mAf] at h;rcases rA8 r (i+1) _ t v h with ⟨p,j⟩ | p
  ·refine .inl ⟨by omega,?_⟩
   rw [show t-i=(t-(i+1))+1 from by omega];simpa using j
  ·rcases Tr.get_set p with ⟨rfl,rfl⟩ | ⟨_,j⟩
   ·exact .inl ⟨xD _,by simp⟩
   ·exact .inr j
def iN (ok:EnvOK E P) {μ:Mu} {h:Heap} {w:World} {R:Nat} {F:Fr} {a:Act} (L:HR μ h w) (I:AR μ R F a) {g:ResultVar->Sem Value} (B:∀ t,g (.tmp t)=pure (a.tmps.getD t undef))
  (C:∀ x t,g (.cell x t)=(do loadVar t (<- asAddr (a.tmps.getD x undef)))):∀ {l:List ResultVar} {vs:List AV},gH E F h l=some vs->∃ H:List Value,(l.mapM g).run P w=.ok H w/\VRs μ vs H
 | [],vs,f=>by simp [gH] at f;subst f;exact ⟨[],rfl,VRs.nil⟩
 | .tmp t::r,vs,f=>by
  simp only [gH] at f
  cases p:F.get t with
  | none=>simp [p] at f
  | some v=>
   cases A:gH E F h r with
   | none=>simp [p,A] at f
   | some l=>
    simp only [p,A,xF] at f;subst f;have ⟨H,J,K⟩:=iN ok L I B C A;refine ⟨a.tmps.getD t undef::H,?_,VRs.cons (I.slot t v p) K⟩;rw [List.mapM_cons];rw [B];refine (rA (P:=P) (a:=a.tmps.getD t undef) (w':=w) rfl).trans ?_;exact (rA (P:=P) J).trans rfl
 | .cell x t::r,vs,f=>by
  simp only [gH] at f
  cases p:F.get x with
  | none=>simp [p] at f
  | some v=>
   simp only [p] at f
   cases j:kS E h t v with
   | none=>simp [j] at f
   | some y=>
    cases A:gH E F h r with
    | none=>simp [j,A] at f
    | some l=>
     simp only [j,A,xF] at f;subst f;have ⟨H,J,K⟩:=iN ok L I B C A;have ⟨O,u,Q,S,M⟩:=aN (P:=P) ok L (I.slot x v p) j;refine ⟨u::H,?_,VRs.cons M K⟩;rw [List.mapM_cons,C];refine (rA (P:=P) (a:=u) (w':=w) ?_).trans ?_
     ·rw [Q]
      exact (rA (P:=P) (a:=O) (w':=w) rfl).trans S
     ·exact (rA (P:=P) J).trans rfl
end
end Ai
namespace Ai
open Go.RowKit (Below)
def yAo {α:Type}:∀ (l:List α) (p:Tr α×Nat) (t:Nat) (x:α),((l.foldl (fun (p:Tr α×Nat) x=>(p.1.set p.2 x,p.2+1)) p).1).get t=some x->(p.2<=t/\l[t-p.2]? = some x)\/p.1.get t=some x
 | [],p,t,x,h=>.inr h
 | y::r,p,t,x,h=>by
  simp only [List.foldl_cons] at h;rcases yAo r _ t x h with ⟨j,f⟩ | j
  ·refine .inl ⟨by simp at j;omega,?_⟩
   simp at j f;rw [show t-p.2=(t-(p.2+1))+1 from by omega];simpa using f
  ·rcases Tr.get_set j with ⟨rfl,rfl⟩ | ⟨_,f⟩
   ·exact .inl ⟨xD _,by simp⟩
   ·exact .inr f
def iAg {α:Type} {l:List α} {t:Nat} {x:α} (h:(kBa l).get t=some x):l[t]? = some x:=by
 rcases yAo l (Tr.nil,0) t x h with ⟨_,f⟩ | f
 ·simpa using f
 ·simp [Tr.get_nil] at f
def rBa (P:Program) (cmp:List TypeId) (native:FuncId->Option (List AV->Heap->Option (AV×Heap))):Env:=
 { info:=(kBa P.types.toList).get,fn:=(kBa P.funcs.toList).get,native,cmp:=fun t=>aV t cmp,trk:=fun t=>aV (1000000+t) cmp,lies:=fun e off u=>liesAt P P.depth e 1 off u 1 }
def aAp {P:Program} {cmp:List TypeId} {native:FuncId->Option (List AV->Heap->Option (AV×Heap))} (hn:(P.funcs.toList.all fun f=>!(f.name == "runtime.NumGoroutine"))=true)
  (hc:(cmp.all fun t=>!P.stoodInHeld t&&!P.eqGuardType P.depth t)=true):EnvOK (rBa P cmp native) P where
 info:=by
  intro t i h;have h1:=iAg h;have h2:P.types[t]? = some i:=by simpa using h1
  have hlt:t<P.types.size:=(Array.getElem?_eq_some_iff.1 h2).1;unfold Tables.info?;rw [if_pos hlt];exact h2
 fn:=by
  intro f fn h;have h1:=iAg h;refine ⟨by simpa using h1,?_⟩
  have:=List.all_eq_true.1 hn fn (List.mem_of_getElem? h1)
  simpa using this
 cmp:=by
  intro t h
  have:=List.all_eq_true.1 hc t (aE.1 h)
  simpa using this
 lies:=fun _ _ _ h=>h
def bAp:FuncId->Option (List AV->Heap->Option (AV×Heap)):=fun _=>none
def jAg:Heap:={ t:=.nil,next:=0 }
def mAw (w:World):HR (fun _=>none) jAg w:=⟨fun _ _ h=>(by cases h),fun _ _ _ _ _ _ h=>(by cases h),fun _ _ _ h=>(by cases h),fun _ h=>(by cases h)⟩
end Ai
namespace Ai
open Go.WideShapes Go.ChangeShapes
open Go.RowKit (Below)
variable {H:Type} {enc:TypeId×Value->H} {P:Program}
def gAb {f:Func} {s:ChangeSpec} {apart fresh h again:Bool} {W F:World} {args:Array Value} {v:Value} {ds J:List (DataW H)} {before pa pv:List MemPlace}
  (K:DataW.Whole enc P f.params.toList s.vars apart W args.toList ds J before)
  (C:∀ (b:Nat) (sp:Nat->Bool) (hd:Bool),DataW.TrodAll enc P F b sp hd f.resultTypes.toList (v.resultList f.resultTypes.size) (s.fn H (ds++J)).results [])
  (u:∀ sp:Nat->Bool,(∀ p∈before,sp p.block=true)->DataW.TrodAll enc P F 0 sp true f.params.toList args.toList (s.fn H (ds++J)).args pa)
  (w:∀ sp:Nat->Bool,(∀ p∈before,sp p.block=true)->DataW.TrodVars enc P F sp s.vars (s.fn H (ds++J)).vars pv)
  (A:before=pa++pv) (O:Below W.heap.size W F)
  (L:∀ (j:Nat) (t:TypeId) (r:Value),f.resultTypes[j]? = some t->(v.resultList f.resultTypes.size)[j]? = some r->Value.okWide P F .any 0 t r) :
  s.post enc P f apart fresh h again W args v F:=by
 have B:∀ p∈before,(fun b=>decide (b<W.heap.size)) p.block=true:=fun p y=>by simpa using K.lt p y
 have Q:W.keptBut F (·∈before):=O.frame _;have M:=K.lt;refine ⟨ds,J,before,[],pa,pv,K,C _ _ _,u _ B,w _ B,World.keptBut_mono (fun p y=>⟨y,?_⟩) Q,fun _=>?_⟩
 ·rw [A,List.mem_append] at y
  exact Or.inr y
 ·have ⟨_,_,_,_,_,S,R⟩:=K
  refine ⟨L,_,_,([]++pa)++pv,⟨[]++pa,pv,trodAll_append (u _ (fun _ _=>rfl)) (C _ _ _),w _ (fun _ _=>rfl),rfl,?_,?_⟩,?_⟩
  ·intro b off y
   have I:MemPlace.cell b off∈before:=by rw [A];simpa using y
   rw [O.frozen (M _ I)];exact S b off I
  ·intro U
   have:=R U
   rw [A] at this;simpa using this
  ·intro p y _
   rw [A];simpa using y
end Ai
namespace Ai
def tBa (o:Oper):Bool:=dZ o.op&&o.guard.isNone&&Nat.beq o.after.toList.length 0
def newAt (ops:List Oper) (k:Nat):Bool:=match ops[k]? with
 | some o=>tBa o
 | none=>false
def nZ (ops:List Oper):List Nat:=(List.range ops.length).filter (newAt ops)++(List.range ops.length).filter (fun k=>!newAt ops k)
def cAp (ops:List Oper):Bool:=vAv (nZ ops) ops&&tAv (aJ (nZ ops) ops)
def uBa (ops:List Oper) (ps:List (List Nat)) (L:List (Nat×Heap×Heap)):Bool:=
 L.all fun m=>bif lAf ops m.1 then L.all (fun x=>bif lAf ops x.1||!Nat.blt x.1 m.1||aV x.1 ((ps[m.1]?).getD []) then true else rX (m.2.2.t.get x.2.1.next) (m.2.1.t.get x.2.1.next)) else true
def fBs (i:Nat) (o:Oper) (h:Heap) (f:List (Nat×Heap)):List (Nat×Heap):=bif lP o.op then (i,h)::f else f
def gBs (i:Nat) (o:Oper) (h h':Heap) (L:List (Nat×Heap×Heap)):List (Nat×Heap×Heap):=bif Nat.beq (aD o.op) 2 then (i,h,h')::L else L
end Ai
namespace Ai
inductive CTy where
 | bool | int (k:IntKind) | str | ptr | slice | any
inductive VTy where
 | one (c:CTy) | agg (l:List CTy) | clo (g:FuncId) (l:List CTy)
inductive Ty where
 | val (v:VTy) | tup (l:List VTy)
structure SL where
 a:Option (Nat×Nat)
 len:Nat
 cap:Nat
 sz:Nat
@[reducible] def CTy.den:CTy->Type
 | .bool=>Bool
 | .int _=>Int
 | .str=>List UInt8
 | .ptr=>Option (Nat×Nat)
 | .slice=>SL
 | .any=>AV
@[reducible] def tP:List CTy->Type
 | []=>Unit
 | c::r=>c.den×tP r
@[reducible] def VTy.den:VTy->Type
 | .one c=>c.den
 | .agg l=>tP l
 | .clo _ l=>tP l
@[reducible] def gI:List VTy->Type
 | []=>Unit
 | c::r=>c.den×gI r
@[reducible] def Ty.den:Ty->Type
 | .val v=>v.den
 | .tup l=>gI l
def CTy.to:(c:CTy)->c.den->AV
 | .bool,b=>.bool b
 | .int k,n=>.int k n
 | .str,s=>.str s
 | .ptr,p=>.ptr p
 | .slice,s=>.slice s.a s.len s.cap s.sz
 | .any,v=>v
def CTy.tos:(l:List CTy)->tP l->List AV
 | [],_=>[]
 | c::r,x=>c.to x.1::CTy.tos r x.2
def VTy.to:(v:VTy)->v.den->AV
 | .one c,x=>c.to x
 | .agg l,x=>.agg (CTy.tos l x)
 | .clo g l,x=>.func (.func g) [] (CTy.tos l x)
def VTy.tos:(l:List VTy)->gI l->List AV
 | [],_=>[]
 | c::r,x=>c.to x.1::VTy.tos r x.2
def Ty.to:(t:Ty)->t.den->AV
 | .val v,x=>v.to x
 | .tup l,x=>.tuple (VTy.tos l x)
def CTy.cast {β:Type}:(c:CTy)->AV->(c.den->Option β)->Option β
 | .bool,v,K=>match v with
  | .bool b=>K b
  | _=>none
 | .int k,v,K=>match v with
  | .int f n=>bif eM f k then K n else none
  | _=>none
 | .str,v,K=>match v with
  | .str s=>K s
  | _=>none
 | .ptr,v,K=>match v with
  | .ptr p=>K p
  | _=>none
 | .slice,v,K=>match v with
  | .slice a l c s=>K ⟨a,l,c,s⟩
  | _=>none
 | .any,v,K=>K v
def CTy.casts {β:Type}:(l:List CTy)->List AV->(tP l->Option β)->Option β
 | [],vs,K=>match vs with
  | []=>K ()
  | _=>none
 | c::r,vs,K=>match vs with
  | v::vs=>c.cast v fun x=>CTy.casts r vs fun xs=>K (x,xs)
  | _=>none
def VTy.cast {β:Type}:(c:VTy)->AV->(c.den->Option β)->Option β
 | .one c,v,K=>c.cast v K
 | .agg l,v,K=>match v with
  | .agg cs=>CTy.casts l cs K
  | _=>none
 | .clo g l,v,K=>match v with
  | .func (.func f) [] cs=>bif Nat.beq f g then CTy.casts l cs K else none
  | _=>none
def VTy.casts {β:Type}:(l:List VTy)->List AV->(gI l->Option β)->Option β
 | [],vs,K=>match vs with
  | []=>K ()
  | _=>none
 | c::r,vs,K=>match vs with
  | v::vs=>c.cast v fun x=>VTy.casts r vs fun xs=>K (x,xs)
  | _=>none
def Ty.cast {β:Type}:(c:Ty)->AV->(c.den->Option β)->Option β
 | .val c,v,K=>c.cast v K
 | .tup l,v,K=>match v with
  | .tuple vs=>VTy.casts l vs K
  | _=>none
def eBv:TypeDesc->CTy
 | .bool=>.bool
 | .int k=>.int k
 | .string=>.str
 | .pointer _=>.ptr
 | .slice _=>.slice
 | _=>.any
def fBv:Nat->List CTy->List CTy
 | 0,_=>[]
 | n+1,l=>l++fBv n l
def iAb (E:Env):Nat->TypeId->List CTy
 | 0,_=>[]
 | d+1,t=>match E.und t with
  | some (.struct h)=>(h.toList.map fun f=>iAb E d f.type).flatten
  | some (.array n e)=>fBv n (iAb E d e)
  | some x=>[eBv x]
  | none=>[]
def nAw (E:Env) (t:TypeId):VTy:=
 match E.und t with
 | some (.struct _)=>.agg (iAb E 12 t)
 | some (.array n _)=>bif Nat.ble n 16 then .agg (iAb E 12 t) else .one .any
 | some d=>.one (eBv d)
 | none=>.one .any
def tBv (E:Env) (t:TypeId):Ty:=
 match E.und t with
 | some (.tuple f)=>match f.toList with
  | []=>.val (.one .any)
  | l=>.tup (l.map (nAw E))
 | _=>.val (nAw E t)
abbrev CallK:=∀ {β:Type},FuncId->List AV->Heap->(AV->Heap->Option β)->Option β
def oAw:CallK:=fun _ _ _ _=>none
def jA {α β:Type} (x:Option (α×Heap)) (k:α->Heap->Option β):Option β:=
 match x with
 | some (v,h)=>k v h
 | none=>none
def nK (f:FuncId) (l:List VTy) (t:Ty) (F:gI l->Heap->Option (t.den×Heap)) (C:CallK):CallK:=fun g args h k=>
 bif Nat.beq g f then VTy.casts l args fun xs=>jA (F xs h) fun r h'=>k (t.to r) h' else C g args h k
def mJ (i:Nat) (g:FuncId) (args:List AV):Bool:=match args[i]? with
 | some (.func (.func f) _ _)=>Nat.beq f g
 | _=>false
def tR (f:FuncId) (sel:List AV->Bool) (l:List VTy) (t:Ty) (F:gI l->Heap->Option (t.den×Heap)) (C:CallK):CallK:=fun g args h k=>
 bif Nat.beq g f then (bif sel args then VTy.casts l args fun xs=>jA (F xs h) fun r h'=>k (t.to r) h' else C g args h k) else C g args h k
def iA {β:Type} (t:Ty) (x:Option AV) (K:t.den->Option β):Option β:=
 match x with
 | some v=>t.cast v K
 | none=>none
def tD {β:Type} (t:Ty) (x:Option (AV×Heap)) (K:t.den->Heap->Option β):Option β:=
 match x with
 | some (v,h)=>t.cast v fun y=>K y h
 | none=>none
def o1 {β:Type} (h:Fr) (x:Operand) (f:AV->Option β):Option β:=
 match rI h x with
 | some v=>f v
 | none=>none
def vA {α β:Type} (p:Option α) (K:α->Option β):Option β:=
 match p with
 | some a=>K a
 | none=>none
def pD {β:Type} (b:Bool) (k:Option β):Option β:=bif b then k else none
def Heap.cell (h:Heap) (a:Nat×Nat):Option AV:=
 match h.row a.1 with
 | some cs=>match cs.drop a.2 with
  | v::_=>some v
  | []=>none
 | none=>none
def Heap.cells (h:Heap) (a:Nat×Nat) (n:Nat):Option AV:=
 match h.read a.1 a.2 n with
 | some l=>some (.agg l)
 | none=>none
def Heap.store (h:Heap) (a:Nat×Nat) (vs:List AV):Option Heap:=
 match h.rowW a.1 with
 | some (cs,st)=>match over a.2 cs vs with
  | some f=>some (h.put a.1 (.row f st))
  | none=>none
 | none=>none
def wT:List AV->Bool
 | []=>true
 | v::r=>bif AV.single v then wT r else false
def ixK {β:Type} (a:Option (Nat×Nat)) (len:Nat) (i:Int) (n:Nat) (K:Nat×Nat->Option β):Option β:=
 match i with
 | .ofNat j=>bif Nat.blt j len then vA a fun q=>K (q.1,q.2+j * n) else none
 | .negSucc _=>none
def iL {β:Type} (s:List UInt8) (i:Int) (K:Int->Option β):Option β:=
 match i with
 | .ofNat j=>match s[j]? with
  | some b=>K b.toNat
  | none=>none
 | .negSucc _=>none
def dAp (E:Env) (s:TypeId) (f:Nat):Option Nat:=
 match E.fieldAt s f with
 | some h=>match E.size h.type with
  | some (_+1)=>some h.offset
  | _=>none
 | none=>none
def elemOf (E:Env) (s:TypeId):Option (Option Nat×Nat):=
 match E.und s with
 | some (.slice e)=>match E.size e with
  | some n=>some (none,n)
  | none=>none
 | some (.array len e)=>match E.size e with
  | some n=>some (some len,n)
  | none=>none
 | _=>none
def vBa (E:Env) (s:TypeId):Bool:=
 match E.und s with
 | some .string=>true
 | _=>false
def pAw:Operand->Bool
 | .const (.pointer none)=>true
 | _=>false
def eBr (E:Env) (t:TypeId):Bool:=
 match E.und t with
 | some (.pointer e)=>match E.size e with
  | some (_+1)=>true
  | _=>false
 | _=>false
def opK {β:Type} (E:Env) (j:Fr) (o:Op) (t:Ty) (h:Heap) (k:AV->Heap->Option β):Option β:=
 match o with
 | .move x=>o1 j x fun v=>k v h
 | .assign x=>o1 j x fun v=>k v h
 | .load r a=>o1 j a fun v=>match v with
  | .ptr p=>match E.isAgg r with
   | some true=>match E.size r with
    | some n=>vA p fun q=>iA t (h.cells q n) fun y=>k (t.to y) h
    | none=>none
   | some false=>vA p fun q=>iA t (h.cell q) fun y=>k (t.to y) h
   | none=>none
  | _=>none
 | .nilCheck x=>o1 j x fun v=>match v with
  | .ptr p=>vA p fun q=>k (.ptr (some q)) h
  | v=>iA t (gM v) fun y=>k (t.to y) h
 | .binOp op r x y _=>o1 j x fun v=>bif pAw y&&eBr E r then (match v with
   | .ptr p=>match op with
    | .eql=>k (.bool p.isNone) h
    | .neq=>k (.bool (!p.isNone)) h
    | _=>none
   | _=>none)
  else o1 j y fun u=>iA t (tM E op r x y v u) fun y=>k (t.to y) h
 | .unOp op _ x=>o1 j x fun v=>iA t (unA op v) fun y=>k (t.to y) h
 | .fieldAddr s x f=>o1 j x fun v=>match v with
  | .ptr p=>match dAp E s f with
   | some off=>vA p fun q=>k (.ptr (some (q.1,q.2+off))) h
   | none=>none
  | _=>none
 | .field s x f=>o1 j x fun v=>iA t (lAo E s v f) fun y=>k (t.to y) h
 | .indexAddr s x ix=>o1 j x fun v=>o1 j ix fun u=>match u with
  | .int _ i=>match elemOf E s with
   | some (none,n)=>match v with
    | .slice a len _ _=>ixK a len i n fun q=>k (.ptr (some q)) h
    | _=>none
   | some (some len,n)=>match v with
    | .ptr p=>ixK p len i n fun q=>k (.ptr (some q)) h
    | _=>none
   | none=>none
  | _=>none
 | .index s x ix=>o1 j x fun v=>o1 j ix fun u=>bif vBa E s then (match v,u with
   | .str z,.int _ i=>iL z i fun b=>k (.int .u8 b) h
   | _,_=>none)
  else iA t (iAf E s v u) fun y=>k (t.to y) h
 | .slice s x w hi none=>match jAf j w,jAf j hi with
  | some w,some hi=>o1 j x fun v=>iA t (cF E h s v w hi) fun y=>k (t.to y) h
  | _,_=>none
 | .store r a x=>o1 j a fun v=>o1 j x fun u=>match v with
  | .ptr p=>match E.size r with
   | some n=>bif Nat.beq n 1 then pD (AV.single u) (vA p fun q=>match h.store q [u] with
    | some h'=>k undefA h'
    | none=>none) else bif Nat.beq u.cells.length n then pD (wT u.cells) (vA p fun q=>match h.store q u.cells with
    | some h'=>k undefA h'
    | none=>none) else none
   | none=>none
  | _=>none
 | .typeAssert x _ r ok=>o1 j x fun v=>iA t (vAa E v r ok) fun y=>k (t.to y) h
 | o=>tD t (opA E j o h) fun y h'=>k (t.to y) h'
def tB3 {β:Type} (E:Env) (C:CallK) (j:Fr) (o:Op) (t:Ty) (h:Heap) (k:AV->Heap->Option β):Option β:=
 match o with
 | .call c=>match c.callee with
  | .builtin b=>match wI j c.args.toList with
   | some args=>tD t (oF E b c.argTypes.toList args h) fun y h'=>k (t.to y) h'
   | none=>none
  | _=>match fAv E j c h with
   | some (.fn f args)=>C f args h k
   | _=>none
 | o=>opK E j o t h k
def kAg (E:Env) (o:Oper):Ty:=match o.dst with
 | some _=>tBv E o.type
 | none=>.val (.one .any)
def mH (ops:List Oper) (j:Nat):Option Nat:=
 match ops[j]? with
 | some o=>o.dst
 | none=>none
def uP {β:Type} (E:Env) (C:CallK) (p:Nat) (ops:List Oper):List Oper->Fr->Heap->(Fr->Heap->Option β)->Option β
 | [],f,h,k=>k f h
 | o::r,f,h,k=>match o.guard with
  | none=>tB3 E C f o.op (kAg E o) h fun v h'=>uP E C p ops r (dV p f o.dst v) h' k
  | some (j,want)=>match mH ops j with
   | some d=>match f.get d with
    | some (.bool b)=>bif b then
      (bif want then tB3 E C (f.set d (.bool true)) o.op (kAg E o) h fun v h'=>uP E C p ops r (dV p (f.set d (.bool true)) o.dst v) h' k
       else uP E C p ops r (dV p (f.set d (.bool true)) o.dst undefA) h k) else
      (bif want then uP E C p ops r (dV p (f.set d (.bool false)) o.dst undefA) h k
       else tB3 E C (f.set d (.bool false)) o.op (kAg E o) h fun v h'=>uP E C p ops r (dV p (f.set d (.bool false)) o.dst v) h' k)
    | some (.tuple [])=>uP E C p ops r (dV p f o.dst undefA) h k
    | _=>none
   | none=>none
def jB:Option AV->AV->Bool
 | some u,v=>eqV u v
 | none,_=>false
def mF {α:Type} (p:Option α) (K:α->Bool):Bool:=
 match p with
 | some a=>K a
 | none=>false
def qBh (E:Env) (f:Fr) (o:Op) (v:AV) (H:Heap):Bool:=
 match o with
 | .load t a=>match rI f a with
  | some (.ptr p)=>match E.isAgg t with
   | some true=>match E.size t with
    | some n=>mF p fun q=>jB (H.cells q n) v
    | none=>false
   | some false=>mF p fun q=>jB (H.cell q) v
   | none=>false
  | _=>false
 | .slice _ x _ _ none=>match rI f x with
  | some (.slice ..)=>true
  | some (.str _)=>true
  | _=>false
 | .call c=>match c.callee,wI f c.args.toList with
  | .builtin .len,some [.slice ..]=>true
  | .builtin .len,some [.str _]=>true
  | _,_=>false
 | _=>false
def qAw (E:Env) (h:Nat->Nat->Bool) (i:Nat) (f:Fr) (o:Op) (v:AV) (z:Bool):List (Nat×Heap)->Bool
 | []=>z
 | (k,H)::r=>bif h i k then (bif qBh E f o v H then qAw E h i f o v z r else false) else qAw E h i f o v z r
def vP (E:Env) (f:Nat->Nat->Bool) (h:List (Nat×Heap)):List (Nat×Fr×Op×AV)->Bool
 | []=>true
 | (i,j,o,v)::r=>qAw E f i j o v (vP E f h r) h
def uB3 (i:Nat) (o:Oper) (f:Fr) (v:AV) (rs:List (Nat×Fr×Op×AV)):List (Nat×Fr×Op×AV):=bif Nat.beq (aD o.op) 1 then (i,f,o.op,v)::rs else rs
def rAw (i:Nat) (o:Oper) (h:Heap) (f:List (Nat×Heap)):List (Nat×Heap):=bif Nat.beq (aD o.op) 2 then (i,h)::f else f
def qL {β:Type} (E:Env) (C:CallK) (p:Nat) (ops:List Oper) (w:Nat->Nat->Bool):Nat->List Oper->Fr->Heap->List (Nat×Fr×Op×AV)->List (Nat×Heap)->(Fr->Heap->Option β)->Option β
 | i,[],f,h,rs,u,k=>pD (vP E w ((i,h)::u) rs) (k f h)
 | i,o::r,f,h,rs,u,k=>match o.guard with
  | none=>tB3 E C f o.op (kAg E o) h fun v h'=>qL E C p ops w (i+1) r (dV p f o.dst v) h' (uB3 i o f v rs) (rAw i o h u) k
  | some (j,want)=>match mH ops j with
   | some d=>match f.get d with
    | some (.bool b)=>bif b then
      (bif want then tB3 E C (f.set d (.bool true)) o.op (kAg E o) h fun v h'=>qL E C p ops w (i+1) r (dV p (f.set d (.bool true)) o.dst v) h' (uB3 i o (f.set d (.bool true)) v rs) (rAw i o h u) k
       else qL E C p ops w (i+1) r (dV p (f.set d (.bool true)) o.dst undefA) h rs (rAw i o h u) k) else
      (bif want then qL E C p ops w (i+1) r (dV p (f.set d (.bool false)) o.dst undefA) h rs (rAw i o h u) k
       else tB3 E C (f.set d (.bool false)) o.op (kAg E o) h fun v h'=>qL E C p ops w (i+1) r (dV p (f.set d (.bool false)) o.dst v) h' (uB3 i o (f.set d (.bool false)) v rs) (rAw i o h u) k)
    | some (.tuple [])=>qL E C p ops w (i+1) r (dV p f o.dst undefA) h rs (rAw i o h u) k
    | _=>none
   | none=>none
def tA8 {β:Type} (E:Env) (C:CallK) (p:Nat) (ops:List Oper):Nat->List Oper->Fr->Heap->List (Nat×Fr×Op×AV)->List (Nat×Heap)->List (Nat×Heap×Heap)->(Fr->Heap->Option β)->Option β
 | i,[],f,h,rs,j,L,k=>pD (vP E (fun _ _=>true) ((i,h)::j) rs) (pD (uBa ops (fD ops []) L) (k f h))
 | i,o::r,f,h,rs,j,L,k=>match o.guard with
  | none=>tB3 E C f o.op (kAg E o) h fun v h'=>tA8 E C p ops (i+1) r (dV p f o.dst v) h' (uB3 i o f v rs) (fBs i o h j) (gBs i o h h' L) k
  | some _=>none
inductive Ann where
 | n
 | two (a b:Ann)
 | join (live:List (Nat×VTy)) (a:Ann)
 | joinO (outs:List (Out×List (Nat×VTy))) (a:Ann)
 | loop (inn:List (Nat×VTy)) (outs:List Out) (out:List (Nat×VTy)) (a:Ann)
def tAw {β:Type}:(l:List (Nat×VTy))->Fr->(gI (l.map (·.2))->Option β)->Option β
 | [],_,K=>K ()
 | (i,t)::r,f,K=>match f.get i with
  | some v=>t.cast v fun x=>tAw r f fun xs=>K (x,xs)
  | none=>none
def frL:(l:List (Nat×VTy))->gI (l.map (·.2))->Fr
 | [],_=>.nil
 | (i,t)::r,x=>(frL r x.2).set i (t.to x.1)
def rD {α β:Type} (x:Option (Out×α×Heap)) (k:Out->α->Heap->Option β):Option β:=
 match x with
 | some (o,v,h)=>k o v h
 | none=>none
def vD:Out->Out->Bool
 | .norm,.norm=>true
 | .exit i,.exit j=>Nat.beq i j
 | .ret,.ret=>true
 | _,_=>false
def bA4:List Out->Out->Bool
 | [],_=>false
 | x::r,o=>bif vD o x then true else bA4 r o
def fBr {β:Type}:List Out->Out->(Out->Option β)->Option β
 | [],_,_=>none
 | [x],_,K=>K x
 | x::y::r,o,K=>bif vD o x then K x else fBr (y::r) o K
@[reducible] def gBr:List (Out×List (Nat×VTy))->Type
 | []=>Empty
 | p::r=>Sum (gI (p.2.map (·.2))×Heap) (gBr r)
def iBr {β:Type}:(os:List (Out×List (Nat×VTy)))->Out->Fr->Heap->(gBr os->Option β)->Option β
 | [],_,_,_,_=>none
 | p::r,o,f,h,K=>bif vD o p.1 then tAw p.2 f fun xs=>K (.inl (xs,h)) else iBr r o f h fun j=>K (.inr j)
def mC {A B β:Type} (j:Sum (A×Heap) B) (f:A->Heap->β) (g:B->β):β:=
 match j with
 | .inl p=>f p.1 p.2
 | .inr b=>g b
def wBa {β:Type}:(os:List (Out×List (Nat×VTy)))->gBr os->(Out->Fr->Heap->Option β)->Option β
 | [],_,_=>none
 | p::r,j,K=>mC j (fun xs h=>K p.1 (frL p.2 xs) h) fun j=>wBa r j K
def iter {σ f:Type} (body:(σ->Heap->Option f)->σ->Heap->Option f) (N:Nat):σ->Heap->Option f:=
 Nat.rec (fun _ _=>none) (fun _ h=>body h) N
def oAs {β:Type} (E:Env) (C:CallK) (j:Nat):Code->Fr->Heap->(Out->Fr->Heap->Option β)->Option β
 | .skip,f,h,k=>k .norm f h
 | .region _ ops draw,f,h,k=>bif draw&&!wAo ops.toList then (bif dA3 ops.toList then qL E C j ops.toList (dBi ops.toList (fD ops.toList [])) 0 ops.toList f h [] [] fun fr' h'=>k .norm fr' h' else bif cAp ops.toList then tA8 E C j (aJ (nZ ops.toList) ops.toList) 0 (aJ (nZ ops.toList) ops.toList) f h [] [] [] fun fr' h'=>k .norm fr' h' else none) else uP E C j ops.toList ops.toList f h fun fr' h'=>k .norm fr' h'
 | .seq a b,f,h,k=>oAs E C j a f h fun o fr' h'=>match o with
  | .norm=>oAs E C j b fr' h' k
  | o=>k o fr' h'
 | .cond c x y,f,h,k=>match rI f c with
  | some (.bool b)=>bif b then oAs E C j x f h k else oAs E C j y f h k
  | _=>none
 | .block id c,f,h,k=>oAs E C j c f h fun o fr' h'=>match o with
  | .exit p=>bif Nat.beq p id then k .norm fr' h' else k (.exit p) fr' h'
  | o=>k o fr' h'
 | .exit id,f,h,k=>k (.exit id) f h
 | .ret,f,h,k=>k .ret f h
 | .scope c,f,h,k=>oAs E C j c f h k
 | .label _,f,h,k=>k .norm f h
 | _,_,_,_=>none
def oAj (E:Env) (C:CallK) (N p:Nat):Ann->Code->{β:Type}->Fr->Heap->(Out->Fr->Heap->Option β)->Option β
 | .n,c,_,f,h,k=>oAs E C p c f h k
 | .two x y,c,_,f,h,k=>match c with
  | .seq a b=>oAj E C N p x a f h fun o fr' h'=>match o with
   | .norm=>oAj E C N p y b fr' h' k
   | o=>k o fr' h'
  | .cond c a b=>match rI f c with
   | some (.bool t)=>bif t then oAj E C N p x a f h k else oAj E C N p y b f h k
   | _=>none
  | .block id c=>oAj E C N p x c f h fun o fr' h'=>match o with
   | .exit w=>bif Nat.beq w id then k .norm fr' h' else k (.exit w) fr' h'
   | o=>k o fr' h'
  | .scope c=>oAj E C N p x c f h k
  | _=>none
 | .join live x,c,_,f,h,k=>jA (oAj E C N p x c f h fun o fr' h'=>match o with
   | .norm=>tAw live fr' fun u=>some (u,h')
   | _=>none) fun u h'=>k .norm (frL live u) h'
 | .joinO os x,c,_,f,h,k=>vA (oAj E C N p x c f h fun o fr' h'=>iBr os o fr' h' some) fun j=>wBa os j k
 | .loop A r B x,c,_,f,h,k=>match c with
  | .loop b=>tAw A f fun vs=>rD (iter (fun F vs h=>oAj E C N p x b (frL A vs) h fun o fr' h'=>match o with
    | .norm=>tAw A fr' fun H=>F H h'
    | o=>bif bA4 r o then tAw B fr' fun u=>some (o,u,h') else none) N vs h) fun o u h'=>fBr r o fun o=>k o (frL B u) h'
  | _=>none
def jB8 {β:Type} (E:Env) (f:Fr) (h:Heap):List (ResultVar×VTy)->(List AV->Option β)->Option β
 | [],K=>K []
 | (.tmp t,_)::r,K=>match f.get t with
  | some v=>jB8 E f h r fun l=>K (v::l)
  | none=>none
 | (.cell a t,c)::r,K=>match f.get a with
  | some (.ptr p)=>match E.isAgg t with
   | some true=>match E.size t with
    | some n=>vA p fun q=>iA (.val c) (h.cells q n) fun y=>jB8 E f h r fun l=>K (c.to y::l)
    | none=>none
   | some false=>vA p fun q=>iA (.val c) (h.cell q) fun y=>jB8 E f h r fun l=>K (c.to y::l)
   | none=>none
  | _=>none
def jBr:List AV->AV
 | [v]=>v
 | vs=>.tuple vs
def runK (E:Env) (C:CallK) (N:Nat) (x:Ann) (fn:Func) (c:Code) (t:Ty) (args:List AV) (h:Heap):Option (t.den×Heap):=
 bif Nat.ble args.length fn.ntmps then oAj E C N fn.ntmps x c (mAf 0 args .nil) h fun o f h'=>match o with
  | .exit _=>none
  | _=>jB8 E f h' (fn.results.toList.zip (fn.resultTypes.toList.map (nAw E))) fun vs=>t.cast (jBr vs) fun r=>some (r,h')
 else none
end Ai
namespace Ai
section
variable {β:Type}
def CTy.cast_spec:∀ {c:CTy} {v:AV} {K:c.den->Option β} {b:β},c.cast v K=some b->∃ x,c.to x=v/\K x=some b
 | .bool,v,K,b,h=>by cases v <;> simp [CTy.cast] at h;exact ⟨_,rfl,h⟩
 | .int k,v,K,b,h=>by
  cases v <;> simp only [CTy.cast,reduceCtorEq] at h;rename_i j n
  cases f:eM j k with
  | false=>simp [f] at h
  | true=>
   simp only [f,xA] at h
   have:j=k:=by simpa [eM] using f
   subst this;exact ⟨n,rfl,h⟩
 | .str,v,K,b,h=>by cases v <;> simp [CTy.cast] at h;exact ⟨_,rfl,h⟩
 | .ptr,v,K,b,h=>by cases v <;> simp [CTy.cast] at h;exact ⟨_,rfl,h⟩
 | .slice,v,K,b,h=>by cases v <;> simp [CTy.cast] at h;exact ⟨⟨_,_,_,_⟩,rfl,h⟩
 | .any,v,K,b,h=>⟨v,rfl,h⟩
def CTy.casts_spec:∀ {l:List CTy} {vs:List AV} {K:tP l->Option β} {b:β},CTy.casts l vs K=some b->∃ x,CTy.tos l x=vs/\K x=some b
 | [],vs,K,b,h=>by cases vs <;> simp [CTy.casts] at h;exact ⟨(),rfl,h⟩
 | c::r,vs,K,b,h=>by
  cases vs with
  | nil=>simp [CTy.casts] at h
  | cons v vs=>
   simp only [CTy.casts] at h;obtain ⟨x,rfl,j⟩:=CTy.cast_spec h;obtain ⟨xs,rfl,f⟩:=CTy.casts_spec j;exact ⟨(x,xs),rfl,f⟩
def VTy.cast_spec:∀ {c:VTy} {v:AV} {K:c.den->Option β} {b:β},c.cast v K=some b->∃ x,c.to x=v/\K x=some b
 | .one c,v,K,b,h=>CTy.cast_spec h
 | .agg l,v,K,b,h=>by
  cases v <;> simp only [VTy.cast,reduceCtorEq] at h;obtain ⟨x,rfl,f⟩:=CTy.casts_spec h;exact ⟨x,rfl,f⟩
 | .clo g l,v,K,b,h=>by
  simp only [VTy.cast] at h
  split at h
  ·rename_i p cs
   cases j:Nat.beq p g with
   | false=>simp [j] at h
   | true=>
    simp only [j,xA] at h;obtain ⟨x,rfl,f⟩:=CTy.casts_spec h
    have:=xK j
    subst this;exact ⟨x,rfl,f⟩
  ·cases h
def VTy.casts_spec:∀ {l:List VTy} {vs:List AV} {K:gI l->Option β} {b:β},VTy.casts l vs K=some b->∃ x,VTy.tos l x=vs/\K x=some b
 | [],vs,K,b,h=>by cases vs <;> simp [VTy.casts] at h;exact ⟨(),rfl,h⟩
 | c::r,vs,K,b,h=>by
  cases vs with
  | nil=>simp [VTy.casts] at h
  | cons v vs=>
   simp only [VTy.casts] at h;obtain ⟨x,rfl,j⟩:=VTy.cast_spec h;obtain ⟨xs,rfl,f⟩:=VTy.casts_spec j;exact ⟨(x,xs),rfl,f⟩
def Ty.cast_spec:∀ {c:Ty} {v:AV} {K:c.den->Option β} {b:β},c.cast v K=some b->∃ x,c.to x=v/\K x=some b
 | .val c,v,K,b,h=>VTy.cast_spec h
 | .tup l,v,K,b,h=>by
  cases v <;> simp only [Ty.cast,reduceCtorEq] at h;obtain ⟨x,rfl,f⟩:=VTy.casts_spec h;exact ⟨x,rfl,f⟩
def oM:∀ {l:List (Nat×VTy)} {f:Fr} {K:gI (l.map (·.2))->Option β} {b:β},tAw l f K=some b->∃ xs,(∀ i v,(frL l xs).get i=some v->f.get i=some v)/\K xs=some b
 | [],f,K,b,h=>⟨(),fun i v y=>by simp [frL,Tr.get_nil] at y,h⟩
 | (i,t)::r,f,K,b,h=>by
  simp only [tAw] at h
  cases p:f.get i with
  | none=>simp [p] at h
  | some v=>
   simp only [p] at h;obtain ⟨x,rfl,h0⟩:=VTy.cast_spec h;have ⟨xs,A,B⟩:=oM h0;refine ⟨(x,xs),fun j u w=>?_,B⟩;simp only [frL] at w;rcases Tr.get_set w with ⟨rfl,rfl⟩ | ⟨_,C⟩
   ·exact p
   ·exact A j u C
theorem qF {t:Ty} {x:Option AV} {K:t.den->Option β} {b:β} (h:iA t x K=some b):∃ y,x=some (t.to y)/\K y=some b:=by
 unfold iA at h
 split at h
 ·obtain ⟨y,rfl,f⟩:=Ty.cast_spec h;exact ⟨y,rfl,f⟩
 ·cases h
theorem uA8 {t:Ty} {x:Option (AV×Heap)} {K:t.den->Heap->Option β} {b:β} (h:tD t x K=some b):∃ y h',x=some (t.to y,h')/\K y h'=some b:=by
 unfold tD at h
 split at h
 ·rename_i v h'
  obtain ⟨y,rfl,f⟩:=Ty.cast_spec h;grind
 ·cases h
def cJ {α:Type} {x:Option (α×Heap)} {K:α->Heap->Option β} {b:β} (h:jA x K=some b):∃ y h',x=some (y,h')/\K y h'=some b:=by
 unfold jA at h
 grind
def pAs {α:Type} {x:Option (Out×α×Heap)} {K:Out->α->Heap->Option β} {b:β} (h:rD x K=some b):∃ o y h',x=some (o,y,h')/\K o y h'=some b:=by
 unfold rD at h
 grind
theorem vG {j:Fr} {x:Operand} {f:AV->Option β} {b:β} (h:o1 j x f=some b):∃ v,rI j x=some v/\f v=some b:=by
 grind [o1]
theorem jAb {a b:Out} (h:vD a b=true):a=b:=by
 cases a <;> cases b <;> simp_all [vD]
def vA8:∀ {l:List Out} {o:Out},bA4 l o=true->o∈l
 | [],o,h=>by cases h
 | x::r,o,h=>by
  simp only [bA4] at h
  cases f:vD o x with
  | true=>grind [jAb,List.mem_cons_self]
  | false=>simp only [f,xB] at h;exact xe _ (vA8 h)
def lAg:∀ {l:List Out} {o:Out} {K:Out->Option β} {b:β},o∈l->fBr l o K=some b->K o=some b
 | [x],o,K,b,j,h=>by simp at j;subst j;exact h
 | x::y::r,o,K,b,j,h=>by
  simp only [fBr] at h
  cases f:vD o x with
  | true=>simp only [f,xA] at h;rw [jAb f];exact h
  | false=>
   simp only [f,xB] at h;rcases List.mem_cons.1 j with rfl | p
   ·cases o <;> simp [vD] at f
   ·exact lAg p h
variable {E:Env} {P:Program}
def nH {α:Type} {p:Option α} {K:α->Option β} {b:β} (h:vA p K=some b):∃ a,p=some a/\K a=some b:=by
 unfold vA at h
 grind
def oK {g:Bool} {k:Option β} {b:β} (h:pD g k=some b):g=true/\k=some b:=by
 cases g with
 | true=>exact ⟨rfl,h⟩
 | false=>cases h
def cA4:∀ {l:List AV},wT l=true->l.all AV.single=true
 | [],_=>rfl
 | v::r,h=>by
  simp only [wT] at h
  cases f:AV.single v with
  | true=>simp only [f,xA] at h;simp [f,cA4 h]
  | false=>simp [f] at h
def dA4 {h:Heap} {q:Nat×Nat} {v:AV} (f:h.cell q=some v):h.read q.1 q.2 1=some [v]:=by
 grind [Heap.cell,Heap.read,xF,takeN]
theorem bY {h:Heap} {q:Nat×Nat} {n:Nat} {v:AV} (f:h.cells q n=some v):∃ l,h.read q.1 q.2 n=some l/\v=.agg l:=by
 grind [Heap.cells,xF]
def eAp {a:Option (Nat×Nat)} {len:Nat} {i:Int} {n:Nat} {K:Nat×Nat->Option β} {b:β} (h:ixK a len i n K=some b) :
  ∃ j q,i=.ofNat j/\Nat.blt j len=true/\a=some q/\K (q.1,q.2+j * n)=some b:=by
 unfold ixK at h
 split at h
 ·rename_i j
  cases f:Nat.blt j len with
  | true=>
   simp only [f,xA] at h;have ⟨q,r,p⟩:=nH h
   grind
  | false=>simp [f] at h
 ·cases h
def uAw {s:List UInt8} {i:Int} {K:Int->Option β} {b:β} (h:iL s i K=some b):∃ j c,i=.ofNat j/\s[j]? = some c/\K c.toNat=some b:=by
 unfold iL at h
 split at h
 ·grind
 ·cases h
theorem wA8 {h h':Heap} {q:Nat×Nat} {t:TypeId} {u:AV} {n:Nat} (y:E.size t=some n) (f:Nat.beq u.cells.length n=true) (w:wT u.cells=true) (j:h.store q u.cells=some h'):bA8 E h t (.ptr (some q)) u=some h':=by
 have ⟨A,off⟩:=q;unfold Heap.store at j;have r:u.cells.length=n:=xK f;have p:=cA4 w;unfold bA8
 grind
theorem vAw {t:TypeId} {x y:Operand} {p:Option (Nat×Nat)} (f:eBr E t=true):tM E .eql t x y (.ptr p) (.ptr none)=some (.bool p.isNone)/\tM E .neq t x y (.ptr p) (.ptr none)=some (.bool (!p.isNone)):=by
 have r:rB3 E t x y (.ptr p) (.ptr none)=some p.isNone:=by
  unfold eBr at f
  split at f
  ·rename_i e j
   split at f
   ·rename_i k h
    simp only [rB3,pAv,xA,eqA,j,h];cases p <;> rfl
   ·cases f
  ·cases f
 grind [tM,bBi]
def uB4 {O:Fr} {o:Op} {t:Ty} {h:Heap} {k:AV->Heap->Option β} {b:β} (I:opK E O o t h k=some b):∃ v h',opA E O o h=some (v,h')/\k v h'=some b:=by
 unfold opK at I
 split at I
 ·grind [vG,opA,bE]
 ·grind [vG,opA,bE]
 ·
  rename_i U a;have ⟨v,F,r⟩:=vG I
  split at r
  ·rename_i p
   split at r
   ·rename_i K
    split at r
    ·rename_i n L
     obtain ⟨q,rfl,H⟩:=nH r;have ⟨y,A,C⟩:=qF H
     grind [bY,opA,op1,kS,bE]
    ·cases r
   ·rename_i K
    obtain ⟨q,rfl,H⟩:=nH r;have ⟨y,A,C⟩:=qF H;exact ⟨_,h,by simp [opA,op1,F,kS,K,dA4 A,bE],C⟩
   ·cases r
  ·cases r
 ·
  have ⟨v,F,r⟩:=vG I
  split at r
  ·obtain ⟨q,rfl,H⟩:=nH r
   grind [opA,op1,gM,bE]
  grind [qF,opA,op1,bE]
 ·
  rename_i op U x y _;have ⟨v,F,r⟩:=vG I
  cases L:(pAw y&&eBr E U) with
  | true=>
   simp only [L,xA] at r;simp only [xG] at L;have Z:rI O y=some (.ptr none):=by
    have B:=L.1;unfold pAw at B
    split at B
    ·rfl
    ·cases B
   split at r
   ·split at r
    ·grind [opA,op2,vAw,bE]
    ·exact ⟨_,h,by simp [opA,op2,F,Z,(vAw L.2).2,bE],r⟩
    ·cases r
   ·cases r
  | false=>
   simp only [L,xB] at r
   grind [vG,qF,opA,op2,bE]
 ·grind [vG,qF,opA,op1,bE]
 ·
  rename_i s x f;have ⟨v,F,r⟩:=vG I
  split at r
  ·split at r
   ·rename_i off W
    obtain ⟨q,rfl,H⟩:=nH r
    grind [dAp,xF,opA,op1,jR,bE]
   ·cases r
  ·cases r
 ·grind [vG,qF,opA,op1,bE]
 ·
  rename_i s x ix;have ⟨v,F,r⟩:=vG I;have ⟨u,H,A⟩:=vG r
  split at A
  ·split at A
   ·rename_i n w
    split at A
    ·obtain ⟨j,q,rfl,S,rfl,C⟩:=eAp A
     refine ⟨_,h,?_,C⟩;unfold elemOf at w
     split at w
     ·rename_i e M
      split at w
      ·rename_i m R
       simp only [xF,xI,true_and] at w;subst w;simp [opA,op2,F,H,fM,rA0,M,R,S,bE]
      ·cases w
     ·grind
     ·cases w
    ·cases A
   ·rename_i len n w
    split at A
    ·obtain ⟨j,q,rfl,S,rfl,C⟩:=eAp A
     refine ⟨_,h,?_,C⟩;unfold elemOf at w
     split at w
     ·grind
     ·rename_i V e M
      split at w
      ·rename_i m R
       simp only [xF,xI] at w;obtain ⟨rfl,rfl⟩:=w;simp [opA,op2,F,H,fM,rA0,M,R,S,bE]
      ·cases w
     ·cases w
    ·cases A
   ·cases A
  ·cases A
 ·
  rename_i s x ix;have ⟨v,F,r⟩:=vG I;have ⟨u,H,A⟩:=vG r
  cases J:vBa E s with
  | true=>
   simp only [J,xA] at A
   split at A
   ·obtain ⟨j,c,rfl,hc,C⟩:=uAw A
    refine ⟨_,h,?_,C⟩;unfold vBa at J
    split at J
    ·rename_i M
     simp [opA,op2,F,H,iAf,rA0,M,hc,bE]
    ·cases J
   ·cases A
  | false=>
   simp only [J,xB] at A
   grind [qF,opA,op2,bE]
 ·split at I
  ·grind [vG,qF,opA,op1,bE]
  ·cases I
 ·
  have ⟨v,F,r⟩:=vG I;have ⟨u,H,A⟩:=vG r
  split at A
  ·split at A
   ·rename_i n L
    cases B:Nat.beq n 1 with
    | true=>
     simp only [B,xA] at A;have ⟨J,C⟩:=oK A;have Y:u.cells=[u]:=by cases u <;> simp [AV.single] at J <;> rfl
     have Q:Nat.beq u.cells.length n=true:=by simp_all
     have X:wT u.cells=true:=by rw [Y];simp [wT,J]
     obtain ⟨q,rfl,h6⟩:=nH C
     grind [opA,op2,wA8,unit]
    | false=>
    simp only [B,xB] at A
    cases Q:Nat.beq u.cells.length n with
    | true=>
     simp only [Q,xA] at A;have ⟨J,C⟩:=oK A;obtain ⟨q,rfl,h6⟩:=nH C
     grind [opA,op2,wA8,unit]
    | false=>simp [Q] at A
   ·cases A
  ·cases A
 ·grind [vG,qF,opA,op1,bE]
 grind [uA8]
def kF (C:CallK):CallF:=fun f args h=>C f args h fun v h'=>some (v,h')
structure CallKOK (P:Program) (C:CallK):Prop where
 nat:∀ {β:Type} {f:FuncId} {args:List AV} {h:Heap} {k:AV->Heap->Option β} {b:β},C f args h k=some b->∃ v h',kF C f args h=some (v,h')/\k v h'=some b
 ok:rA3 P (kF C)
theorem yP {C:CallK} (y:CallKOK P C) {p:Fr} {o:Op} {t:Ty} {h:Heap} {k:AV->Heap->Option β} {b:β} (j:tB3 E C p o t h k=some b):∃ v h',lJ E (kF C) p o h=some (v,h')/\k v h'=some b:=by
 unfold tB3 at j
 split at j
 ·rename_i c
  split at j
  ·rename_i F u
   split at j
   ·grind [uA8,lJ,fAv]
   ·cases j
  ·split at j
   ·rename_i f args B
    have ⟨v,h',w,r⟩:=y.nat j
    grind [lJ]
   ·cases j
 ·rename_i o A
  have ⟨v,h',w,r⟩:=uB4 j;refine ⟨v,h',?_,r⟩;unfold lJ
  grind
end
end Ai
namespace Ai
def FrLe (f big:Fr):Prop:=∀ i v,f.get i=some v->big.get i=some v
def FrLe.refl (f:Fr):FrLe f f:=fun _ _ h=>h
def FrLe.put {f:Nat} (y:f<=1073741824) {r big:Fr} (h:FrLe r big) (d:Option Tmp) (v:AV):FrLe (dV f r d v) (dV f big d v):=by
 cases d with
 | none=>exact h
 | some t=>
  simp only [dV]
  cases w:Nat.blt t f with
  | false=>intro i u j;simp [Tr.get_nil] at j
  | true=>
   have B:t<f:=by simpa [Nat.blt_eq] using w
   intro i u j;simp only [xA] at j ⊢;rcases Tr.get_set j with ⟨rfl,rfl⟩ | ⟨p,A⟩
   ·exact Tr.get_set_same
   ·exact Tr.get_set_other p (h i u A)
def FrLe.fix {f big:Fr} (h:FrLe f big) {d:Nat} {v:AV} (p:f.get d=some v):FrLe (f.set d v) big:=by
 intro i u r;rcases Tr.get_set r with ⟨rfl,rfl⟩ | ⟨_,j⟩
 ·exact h _ _ p
 ·exact h i u j
section
variable {E:Env} {P:Program} {call:CallF} {fr big:Fr}
theorem pK (h:FrLe fr big) {x:Operand} {v:AV} (j:rI fr x=some v):rI big x=some v:=by
 cases x with
 | tmp t=>exact h t v j
 | const c=>exact j
 | global g=>exact j
 | func f=>exact j
theorem vA1 (h:FrLe fr big):∀ {l:List Operand} {vs:List AV},wI fr l=some vs->wI big l=some vs
 | [],vs,f=>f
 | x::r,vs,f=>by
  simp only [wI] at f ⊢
  cases j:rI fr x with
  | none=>simp [j] at f
  | some v=>
   cases p:wI fr r with
   | none=>simp [j,p] at f
   | some l=>simp only [j,p] at f;simp only [pK h j,vA1 h p,f]
def kAb (h:FrLe fr big):∀ {l:List (Nat×Operand)} {vs:List (Nat×AV)},cI fr l=some vs->cI big l=some vs
 | [],vs,f=>f
 | (i,x)::r,vs,f=>by
  simp only [cI] at f ⊢
  cases j:rI fr x with
  | none=>simp [j] at f
  | some v=>
   cases p:cI fr r with
   | none=>simp [j,p] at f
   | some l=>simp only [j,p] at f;simp only [pK h j,kAb h p,f]
def kB8 (h:FrLe fr big) {x:Option Operand} {v:Option AV} (f:jAf fr x=some v):jAf big x=some v:=by
 cases x with
 | none=>exact f
 | some x=>
  simp only [jAf] at f ⊢
  cases j:rI fr x with
  | none=>simp [j] at f
  | some u=>simp only [j] at f;simp only [pK h j,f]
def fAp (h:FrLe fr big) {x:Operand} {f g:AV->Option (AV×Heap)} {r:AV×Heap} (j:∀ v,f v=some r->g v=some r) (w:op1 fr x f=some r):op1 big x g=some r:=by
 have ⟨v,u,p⟩:=qE w;simp only [op1,pK h u,j v p]
def qBi (h:FrLe fr big) {x y:Operand} {f:AV->AV->Option (AV×Heap)} {r:AV×Heap} (w:op2 fr x y f=some r):op2 big x y f=some r:=by
 have ⟨v,u,p,j,A⟩:=pR w;simp only [op2,pK h p,pK h j,A]
def rBi (h:FrLe fr big) {x y z:Operand} {f:AV->AV->AV->Option (AV×Heap)} {r:AV×Heap} (w:op3 fr x y z f=some r):op3 big x y z f=some r:=by
 have ⟨v,u,q,p,j,B,A⟩:=kB4 w;simp only [op3,pK h p,pK h j,pK h B,A]
def nAk (h:FrLe fr big) {x:Operand} {p:Heap} {r:AV×Heap} (j:bE p (rI fr x)=some r):bE p (rI big x)=some r:=by
 cases f:rI fr x with
 | none=>simp [f,bE] at j
 | some v=>rw [f] at j;rw [pK h f,j]
theorem tBi (h:FrLe fr big) {o:Op} {w:Heap} {r:AV×Heap} (f:opA E fr o w=some r):opA E big o w=some r:=by
 unfold opA at f ⊢
 split at f
 case h_3=>
  refine fAp h (fun v j=>?_) f
  split at j
  ·exact nAk h j
  ·exact nAk h j
  ·cases j
 all_goals first
  | exact nAk h f
  | exact qBi h f
  | exact rBi h f
  | exact fAp h (fun _ j=>j) f
  | exact f
  | skip
 ·split at f
  ·rename_i l p;simp only [kAb h p];exact f
  ·cases f
 ·split at f
  ·rename_i l p;simp only [kAb h p];exact f
  ·cases f
 ·split at f
  ·cases f
  ·exact fAp h (fun _ j=>j) f
  ·cases f
 ·split at f
  ·rename_i l m p u;simp only [vA1 h p,vA1 h u];exact f
  ·cases f
 ·split at f
  ·rename_i y hi p u;simp only [kB8 h p,kB8 h u];exact fAp h (fun _ j=>j) f
  ·cases f
end
end Ai
namespace Ai
section
variable {E:Env} {P:Program} {call:CallF} {fr big:Fr}
theorem yBa (h:FrLe fr big) {c:Call} {p:Heap} {t:Tgt} (f:fAv E fr c p=some t):fAv E big c p=some t:=by
 unfold fAv at f ⊢
 cases j:wI fr c.args.toList with
 | none=>simp [j] at f
 | some args=>
  simp only [j] at f
  grind [vA1,rI,pK]
theorem yT (h:FrLe fr big) {o:Op} {f:Heap} {r:AV×Heap} (j:lJ E call fr o f=some r):lJ E call big o f=some r:=by
 unfold lJ at j ⊢
 grind [fAv,yBa,tBi]
def yA8 {ops:List Oper} {j d:Nat} {b:Bool} (f:mH ops j=some d) (h:fr.get d=some (.bool b)):pG ops fr j=some b:=by
 grind [mH,pG]
def oZ {C:CallK} (V:CallKOK P C) {L:Nat} (R:L<=1073741824) {ops:List Oper} {β:Type}:∀ {r:List Oper} {fr big:Fr} {h:Heap} {k:Fr->Heap->Option β} {b:β},uP E C L ops r fr h k=some b->FrLe fr big->
  ∃ recs fr' w h',jF E (kF C) L ops r big h=some (recs,w,h')/\FrLe fr' w/\k fr' h'=some b
 | [],fr,big,h,k,b,A,B=>⟨[],fr,big,h,rfl,B,A⟩
 | o::r,fr,big,h,k,b,A,B=>by
  have step:∀ {J:Fr} {v:AV} {Q:Heap},FrLe J big->vE E (kF C) ops big o h=some (v,Q)->uP E C L ops r (dV L J o.dst v) Q k=some b->
    ∃ recs fr' w h',jF E (kF C) L ops (o::r) big h=some (recs,w,h')/\FrLe fr' w/\k fr' h'=some b:=by
   intro J v Q O F W;have ⟨recs,fr',w,h',S,U,Y⟩:=oZ V R W (O.put R o.dst v)
   grind [jF]
  simp only [uP] at A
  cases K:o.guard with
  | none=>
   grind [yP,vE,fF,yT]
  | some p=>
   have ⟨j,want⟩:=p;simp only [K] at A
   cases F:mH ops j with
   | none=>simp [F] at A
   | some d=>
    simp only [F] at A
    cases H:fr.get d with
    | none=>simp [H] at A
    | some u=>
     cases u with
     | bool t=>
      simp only [H] at A;have M:pG ops big j=some t:=yA8 F (B d _ H)
      cases t with
      | true=>
       have f:=B.fix H
       cases want with
       | true=>
        simp only [xA] at A;have ⟨v,Q,S,U⟩:=yP V A;refine step f ?_ U;simp only [vE,fF,K,M,xA];exact yT f S
       | false=>
        simp only [xA,xB] at A;refine step f ?_ A;simp only [vE,fF,K,M,xA]
      | false=>
       have f:=B.fix H
       cases want with
       | true=>
        simp only [xA,xB] at A;refine step f ?_ A;simp only [vE,fF,K,M,xB,xV]
       | false=>
        simp only [xB] at A;have ⟨v,Q,S,U⟩:=yP V A;refine step f ?_ U;simp only [vE,fF,K,M,xB,Bool.not_false];exact yT f S
     | tuple l=>
      cases l with
      | nil=>
       simp only [H] at A;refine step B ?_ A;have M:pG ops big j=none:=by
        unfold mH at F;unfold pG
        split at F
        ·rename_i o2 I;simp only [I,F,B d _ H]
        ·cases F
       have X:bT ops big j=true:=by
        unfold mH at F;unfold bT
        split at F
        ·rename_i o2 I;simp only [I,F,B d _ H]
        ·cases F
       simp only [vE,fF,K,M,X,xA]
      | cons y r=>simp [H] at A
     | _=>simp [H] at A
@[simp] theorem jC (v:AV):jB (some v) v=true:=pL v
theorem aA9 {fr:Fr} {o:Op} {v:AV} {H h h':Heap} (j:qBh E fr o v H=true) (f:lJ E call fr o h=some (v,h')):∃ u r,lJ E call fr o H=some (u,r)/\eqV u v=true:=by
 unfold qBh at j
 split at j
 ·rename_i t a
  split at j
  ·rename_i p R
   have key:∀ {x:(Nat×Nat)->Option AV},(mF p fun q=>jB (x q) v)=true->∃ q u,p=some q/\x q=some u/\eqV u v=true:=by
    intro x f
    cases p with
    | none=>simp [mF] at f
    | some q=>
     simp only [mF] at f
     cases B:x q with
     | none=>simp [jB,B] at f
     | some u=>rw [B] at f;exact ⟨q,u,rfl,B,f⟩
   split at j
   ·rename_i w
    split at j
    ·rename_i n W
     obtain ⟨q,u,rfl,L,r⟩:=key (x:=fun q=>H.cells q n) j;have ⟨l,Y,X⟩:=bY L;exact ⟨u,H,by grind [lJ,opA,op1,kS,bE],r⟩
    ·cases j
   ·rename_i w
    obtain ⟨q,u,rfl,L,r⟩:=key (x:=fun q=>H.cell q) j;exact ⟨u,H,by simp [lJ,opA,op1,R,kS,w,dA4 L,bE],r⟩
   ·cases j
  ·cases j
 ·rename_i t x Q hi
  have S:eqV v v=true:=pL v;have indep:∀ (y:AV),(∃ a l c s,y=.slice a l c s)\/(∃ s,y=.str s)->∀ (l u:Option AV),cF E H t y l u=cF E h t y l u:=by
   intro y I l u;unfold cF
   grind
  have fin:∀ y,rI fr x=some y->((∃ a l c s,y=.slice a l c s)\/(∃ s,y=.str s))->∃ u r,lJ E call fr (.slice t x Q hi none) H=some (u,r)/\eqV u v=true:=by
   intro y I A;simp only [lJ,opA] at f ⊢
   split at f
   ·rename_i J K V U
    simp only [op1,I] at f ⊢;rw [indep y A]
    cases F:cF E h t y J K with
    | none=>simp [F,bE] at f
    | some u=>
     simp only [F,bE,xF,xI] at f ⊢
     grind
   ·cases f
  split at j
  ·simp_all
  ·simp_all
  ·cases j
 ·rename_i c
  have S:eqV v v=true:=pL v;have fin:∀ y,c.callee=.builtin .len->wI fr c.args.toList=some [y]->((∃ a l c s,y=.slice a l c s)\/(∃ s,y=.str s))->∃ u r,lJ E call fr (.call c) H=some (u,r)/\eqV u v=true:=by
   intro y C I A;simp only [lJ,fAv,C,I] at f ⊢;have O:∀ (h:Heap),oF E .len c.argTypes.toList [y] h=(match c.argTypes.toList with | [t]=>bE h (cBi E t y) | _=>none):=by
    intro h;rcases A with ⟨_,_,_,_,rfl⟩ | ⟨_,rfl⟩ <;>
    ·match c.argTypes.toList with
     | []=>rfl
     | [t]=>rfl
     | _::_::_=>rfl
   rw [O] at f ⊢
   match M:c.argTypes.toList with
   | []=>simp [M] at f
   | [t]=>
    simp only [M] at f ⊢
    cases F:cBi E t y with
    | none=>simp [F,bE] at f
    | some u=>
     simp only [F,bE,xF,xI] at f ⊢
     grind
   | _::_::_=>simp [M] at f
  split at j
  ·simp_all
  ·simp_all
  ·cases j
 ·cases j
def mAg {j:Nat} {ops:List Oper}:∀ {r:List Oper} {fr:Fr} {h:Heap} {recs:List (Fr×Heap×AV)} {fr':Fr} {h':Heap},jF E call j ops r fr h=some (recs,fr',h')->rAj E call j ops r fr h=some (fr',h')
 | [],fr,h,recs,fr',h',f=>by
  simp only [jF,xF,xI] at f;obtain ⟨_,rfl,rfl⟩:=f;rfl
 | o::r,fr,h,recs,fr',h',f=>by
  simp only [jF] at f;simp only [rAj]
  cases w:vE E call ops fr o h with
  | none=>simp [w] at f
  | some p=>
   have ⟨v,y⟩:=p;simp only [w] at f ⊢
   cases u:jF E call j ops r (dV j fr o.dst v) y with
   | none=>simp [u] at f
   | some q=>
    have ⟨l,A,B⟩:=q;simp only [u,xF,xI] at f;obtain ⟨_,rfl,rfl⟩:=f;exact mAg u
def AR.le {μ:Mu} {j:Nat} {a:Act} (h:AR μ j big a) (f:FrLe fr big):AR μ j fr a:=⟨fun t v p=>h.slot t v (f t v p),h.size,h.defers⟩
def cY {f:Nat->Nat->Bool} {i:Nat} {fr:Fr} {o:Op} {v:AV} {z:Bool}:∀ {p:List (Nat×Heap)},qAw E f i fr o v z p=true->(∀ k H,(k,H)∈p->f i k=true->qBh E fr o v H=true)/\z=true
 | [],h=>⟨fun k H A=>by simp at A,h⟩
 | (k,H)::r,h=>by
  simp only [qAw] at h
  cases u:f i k with
  | false=>
   simp only [u,xB] at h;have ⟨y,w⟩:=cY h
   grind
  | true=>
   simp only [u,xA] at h
   cases j:qBh E fr o v H with
   | false=>simp [j] at h
   | true=>
    simp only [j,xA] at h;have ⟨y,w⟩:=cY h
    grind
def aU {j:Nat->Nat->Bool} {u:List (Nat×Heap)}:∀ {rs:List (Nat×Fr×Op×AV)},vP E j u rs=true->∀ i fr o v,(i,fr,o,v)∈rs->∀ k H,(k,H)∈u->j i k=true->qBh E fr o v H=true
 | [],_,i,fr,o,v,f,_,_,_=>by simp at f
 | (A,fr',C,F)::r,h,i,fr,o,v,f,k,H,y=>by
  simp only [vP] at h;have ⟨B,w⟩:=cY h;rcases List.mem_cons.1 f with p | p
  ·grind
  ·exact aU w i fr o v p k H y
def pZ {C:CallK} (hC:CallKOK P C) {Q:Nat} (a0:Q<=1073741824) {ops:List Oper} {L:Nat->Nat->Bool} {β:Type}:∀ {r:List Oper} {i:Nat} {fr big:Fr} {h:Heap} {rs:List (Nat×Fr×Op×AV)} {O:List (Nat×Heap)} {k:Fr->Heap->Option β} {b:β},qL E C Q ops L i r fr h rs O k=some b->FrLe fr big->
  ∃ recs fr' w h' R A,jF E (kF C) Q ops r big h=some (recs,w,h')/\FrLe fr' w/\k fr' h'=some b/\vP E L A R=true/\(∀ x∈rs,x∈R)/\(∀ H∈O,H∈A)/\(i+r.length,h')∈A/\
   (∀ (j:Nat) (o:Oper) (f:Fr) (J:Heap) (v:AV),r[j]? = some o->recs[j]? = some (f,J,v)->aD o.op=2->(i+j,J)∈A)/\
   (∀ (j:Nat) (o:Oper) (f:Fr) (J:Heap) (v:AV),r[j]? = some o->recs[j]? = some (f,J,v)->aD o.op=1->∀ k H,(k,H)∈A->L (i+j) k=true->∃ u U,vE E (kF C) ops f o H=some (u,U)/\eqV u v=true)
 | [],i,fr,big,h,rs,O,k,b,F,K=>by
  simp only [qL] at F;have ⟨h1,U⟩:=oK F;exact ⟨[],fr,big,h,rs,(i,h)::O,rfl,K,U,h1,fun _ h=>h,fun _ h=>xe _ h,List.mem_cons_self,fun j o f J v h=>by simp at h,fun j o f J v h=>by simp at h⟩
 | o::r,i,fr,big,h,rs,O,k,b,F,K=>by
  have step:∀ {B:Fr} {v:AV} {h1:Heap} {rs1:List (Nat×Fr×Op×AV)},FrLe B big->vE E (kF C) ops big o h=some (v,h1)->(∀ x∈rs,x∈rs1)->
    (∀ (R:List (Nat×Fr×Op×AV)) (A:List (Nat×Heap)),(∀ x∈rs1,x∈R)->vP E L A R=true->aD o.op=1->∀ k H,(k,H)∈A->L i k=true->∃ u U,vE E (kF C) ops big o H=some (u,U)/\eqV u v=true)->
    qL E C Q ops L (i+1) r (dV Q B o.dst v) h1 rs1 (rAw i o h O) k=some b->
    ∃ recs fr' w h' R A,jF E (kF C) Q ops (o::r) big h=some (recs,w,h')/\FrLe fr' w/\k fr' h'=some b/\vP E L A R=true/\(∀ x∈rs,x∈R)/\(∀ H∈O,H∈A)/\(i+(o::r).length,h')∈A/\
   (∀ (j:Nat) (o2:Oper) (f:Fr) (J:Heap) (v:AV),(o::r)[j]? = some o2->recs[j]? = some (f,J,v)->aD o2.op=2->(i+j,J)∈A)/\
   (∀ (j:Nat) (o2:Oper) (f:Fr) (J:Heap) (v:AV),(o::r)[j]? = some o2->recs[j]? = some (f,J,v)->aD o2.op=1->∀ k H,(k,H)∈A->L (i+j) k=true->∃ u U,vE E (kF C) ops f o2 H=some (u,U)/\eqV u v=true):=by
   intro B v h1 rs1 S a4 a5 a6 he;have ⟨recs,fr',w,h',R,A,e1,e2,e3,e4,e5,e6,eh,e7,e8⟩:=pZ hC a0 he (S.put a0 o.dst v);have a2:∀ H∈O,H∈A:=fun H hH=>e6 H (by
    grind [rAw,Nat.beq,aD,xe])
   refine ⟨(big,h,v)::recs,fr',w,h',R,A,by simp only [jF,a4,e1],e2,e3,e4,fun x F=>e5 x (a5 x F),a2,?_,?_,?_⟩
   ·grind
   ·intro j o' f J v' hj W hk
    cases j with
    | zero=>
     simp at hj W;subst hj;obtain ⟨rfl,rfl,rfl⟩:=W;exact e6 _ (by unfold rAw;simp_all)
    | succ j=>
     grind
   grind
  have run:∀ {B:Fr},FrLe B big->fF ops big o=some true->(tB3 E C B o.op (kAg E o) h fun v h'=>qL E C Q ops L (i+1) r (dV Q B o.dst v) h' (uB3 i o B v rs) (rAw i o h O) k)=some b->
    ∃ recs fr' w h' R A,jF E (kF C) Q ops (o::r) big h=some (recs,w,h')/\FrLe fr' w/\k fr' h'=some b/\vP E L A R=true/\(∀ x∈rs,x∈R)/\(∀ H∈O,H∈A)/\(i+(o::r).length,h')∈A/\
   (∀ (j:Nat) (o2:Oper) (f:Fr) (J:Heap) (v:AV),(o::r)[j]? = some o2->recs[j]? = some (f,J,v)->aD o2.op=2->(i+j,J)∈A)/\
   (∀ (j:Nat) (o2:Oper) (f:Fr) (J:Heap) (v:AV),(o::r)[j]? = some o2->recs[j]? = some (f,J,v)->aD o2.op=1->∀ k H,(k,H)∈A->L (i+j) k=true->∃ u U,vE E (kF C) ops f o2 H=some (u,U)/\eqV u v=true):=by
   intro B S hw a1;have ⟨v,h1,e1,e2⟩:=yP hC a1;refine step S (v:=v) (rs1:=uB3 i o B v rs) ?_ ?_ ?_ e2
   ·grind [vE,yT]
   ·grind [uB3,Nat.beq,aD,xe]
   ·intro R A hR X hk k' H hH a3
    have hm:(i,B,o.op,v)∈R:=hR _ (by unfold uB3;rw [hk];exact List.mem_cons_self);have hc:=aU X _ _ _ _ hm k' H hH a3
    grind [aA9,vE,yT]
  have skip:∀ {B:Fr},FrLe B big->fF ops big o=some false->qL E C Q ops L (i+1) r (dV Q B o.dst undefA) h rs (rAw i o h O) k=some b->
    ∃ recs fr' w h' R A,jF E (kF C) Q ops (o::r) big h=some (recs,w,h')/\FrLe fr' w/\k fr' h'=some b/\vP E L A R=true/\(∀ x∈rs,x∈R)/\(∀ H∈O,H∈A)/\(i+(o::r).length,h')∈A/\
   (∀ (j:Nat) (o2:Oper) (f:Fr) (J:Heap) (v:AV),(o::r)[j]? = some o2->recs[j]? = some (f,J,v)->aD o2.op=2->(i+j,J)∈A)/\
   (∀ (j:Nat) (o2:Oper) (f:Fr) (J:Heap) (v:AV),(o::r)[j]? = some o2->recs[j]? = some (f,J,v)->aD o2.op=1->∀ k H,(k,H)∈A->L (i+j) k=true->∃ u U,vE E (kF C) ops f o2 H=some (u,U)/\eqV u v=true):=by
   grind [undefA,vE,pL]
  simp only [qL] at F
  cases Z:o.guard with
  | none=>
   simp only [Z] at F
   grind [fF]
  | some p=>
   have ⟨j,want⟩:=p;simp only [Z] at F
   cases I:mH ops j with
   | none=>simp [I] at F
   | some d=>
    simp only [I] at F
    cases V:fr.get d with
    | none=>simp [V] at F
    | some u=>
     cases u with
     | bool t=>
      simp only [V] at F;have hy:pG ops big j=some t:=yA8 I (K d _ V);have M:=K.fix V
      cases t with
      | true=>
       cases want with
       | true=>
        simp only [xA] at F;exact run M (by simp only [fF,Z,hy,xA]) F
       | false=>
        simp only [xA,xB] at F;exact skip M (by simp only [fF,Z,hy,xA]) F
      | false=>
       cases want with
       | true=>
        simp only [xA,xB] at F;exact skip M (by simp only [fF,Z,hy,xB,xV]) F
       | false=>
        simp only [xB] at F;exact run M (by simp only [fF,Z,hy,xB,Bool.not_false]) F
     | tuple l=>
      cases l with
      | nil=>
       simp only [V] at F;have hy:pG ops big j=none:=by
        unfold mH at I;unfold pG
        split at I
        ·rename_i o2 Y;simp only [Y,I,K d _ V]
        ·cases I
       have hu:bT ops big j=true:=by
        unfold mH at I;unfold bT
        split at I
        ·rename_i o2 Y;simp only [Y,I,K d _ V]
        ·cases I
       exact skip K (by simp only [fF,Z,hy,hu,xA]) F
      | cons y r=>simp [V] at F
     | _=>simp [V] at F
def aBb {j:Nat} {call:CallF} {ops r:List Oper} {fr:Fr} {h:Heap} {recs:List (Fr×Heap×AV)} {fr':Fr} {h':Heap} (f:jF E call j ops r fr h=some (recs,fr',h')):pA1 r.length recs h' 0=h:=by
 cases r with
 | nil=>simp only [jF,xF,xI] at f;exact f.2.2.symm
 | cons o r=>
  simp only [jF] at f
  split at f
  ·split at f
   ·simp only [xF,xI] at f
    rw [<- f.1];rfl
   ·cases f
  ·cases f
theorem wAw {n:Nat} {x:Fr×Heap×AV} {recs:List (Fr×Heap×AV)} {h':Heap} (j:Nat):pA1 (n+1) (x::recs) h' (j+1)=pA1 n recs h' j:=by
 have:Nat.blt (j+1) (n+1)=Nat.blt j n:=rfl
 grind [pA1,List.getElem?_cons_succ]
def qZ {C:CallK} (hC:CallKOK P C) {X:Nat} (M:X<=1073741824) {ops:List Oper} {β:Type}:∀ {r:List Oper} {i:Nat} {fr big:Fr} {h:Heap} {rs:List (Nat×Fr×Op×AV)} {Q:List (Nat×Heap)} {O:List (Nat×Heap×Heap)} {k:Fr->Heap->Option β} {b:β},tA8 E C X ops i r fr h rs Q O k=some b->FrLe fr big->
  ∃ recs fr' y h' R I L,jF E (kF C) X ops r big h=some (recs,y,h')/\FrLe fr' y/\k fr' h'=some b/\vP E (fun _ _=>true) I R=true/\uBa ops (fD ops []) L=true/\(∀ x∈rs,x∈R)/\(∀ H∈Q,H∈I)/\(∀ x∈O,x∈L)/\(i+r.length,h')∈I/\
   (∀ (j:Nat) (o:Oper) (f:Fr) (B:Heap) (v:AV),r[j]? = some o->recs[j]? = some (f,B,v)->lP o.op=true->(i+j,B)∈I)/\
   (∀ (j:Nat) (o:Oper) (f:Fr) (B:Heap) (v:AV),r[j]? = some o->recs[j]? = some (f,B,v)->aD o.op=1->∀ k H,(k,H)∈I->∃ u W,vE E (kF C) ops f o H=some (u,W)/\eqV u v=true)/\
   (∀ (j:Nat) (o:Oper),r[j]? = some o->aD o.op=2->(i+j,pA1 r.length recs h' j,pA1 r.length recs h' (j+1))∈L)
 | [],i,fr,big,h,rs,Q,O,k,b,A,J=>by
  simp only [tA8] at A;have ⟨S,W⟩:=oK A;have ⟨h3,h4⟩:=oK W;exact ⟨[],fr,big,h,rs,(i,h)::Q,O,rfl,J,h4,S,h3,fun _ h=>h,fun _ h=>xe _ h,fun _ h=>h,List.mem_cons_self,fun j o f B v h=>by simp at h,fun j o f B v h=>by simp at h,fun j o h=>by simp at h⟩
 | o::r,i,fr,big,h,rs,Q,O,k,b,A,J=>by
  simp only [tA8] at A
  cases V:o.guard with
  | some p=>simp [V] at A
  | none=>
   simp only [V] at A;have hw:fF ops big o=some true:=by simp only [fF,V]
   have ⟨v,S,o1,o2⟩:=yP hC A;have Y:vE E (kF C) ops big o h=some (v,S):=by grind [vE,yT]
   have ⟨recs,fr',y,h',R,I,L,e1,e2,e3,e4,U,Z,e6,K,eh,e7,e8,e9⟩:=qZ hC M o2 (J.put M o.dst v);refine ⟨(big,h,v)::recs,fr',y,h',R,I,L,by simp only [jF,Y,e1],e2,e3,e4,U,fun x A=>Z x ?_,fun H hH=>e6 H ?_,fun x A=>K x ?_,?_,?_,?_,?_⟩
   ·grind [uB3,Nat.beq,aD,xe]
   ·grind [fBs,lP,xe]
   ·grind [gBs,Nat.beq,aD,xe]
   ·grind
   ·intro j o' f B v' F w hk
    cases j with
    | zero=>
     simp at F w;subst F;obtain ⟨rfl,rfl,rfl⟩:=w
     grind [fBs,List.mem_cons_self]
    | succ j=>
     grind
   ·intro j o' f B v' F w hk k' H hH
    cases j with
    | zero=>
     simp at F w;subst F;obtain ⟨rfl,rfl,rfl⟩:=w;have hm:(i,fr,o.op,v)∈R:=Z _ (by unfold uB3;simp_all);have hc:=aU e4 _ _ _ _ hm k' H hH rfl
     grind [aA9,vE,yT]
    | succ j=>grind
   ·intro j o' F hk
    cases j with
    | zero=>
     simp at F;subst F
     have:=K (i,h,S) (by unfold gBs;simp_all)
     rw [xJ,wAw,aBb e1];exact this
    | succ j=>
     grind [xJ,wAw]
def vB4 {nt:Nat} {call:CallF} {ops:List Oper} {fr fr':Fr} {h h':Heap} {recs:List (Fr×Heap×AV)} {L:List (Nat×Heap×Heap)} (Y:jF E call nt ops ops fr h=some (recs,fr',h')) (X:uBa ops (fD ops []) L=true)
  (M:∀ (j:Nat) (o:Oper),ops[j]? = some o->aD o.op=2->(0+j,pA1 ops.length recs h' j,pA1 ops.length recs h' (j+1))∈L):pBi ops recs h':=by
 intro x m u R b a0 U f I y r O;have ⟨F,H,V,f0,g0,fn,gn,p,w⟩:=mM Y;have A:∀ k,k<=ops.length->pA1 ops.length recs h' k=H k:=by
  intro k K;unfold pA1
  by_cases B:k<ops.length
  ·rw [show Nat.blt k ops.length=true by simp_all,xA,w k B]
  ·have:k=ops.length:=by omega
   subst this;have hq:Nat.blt ops.length ops.length=false:=by
    grind [Nat.blt,Nat.blt_eq]
   rw [hq,xB,gn]
 have a1:=(List.getElem?_eq_some_iff.1 f).1;have K:aD u.op=2:=by
  rcases Nat.lt_or_ge (aD u.op) 2 with Z | Z
  ·exfalso
   have h8:=lK (by omega) (p x u f).1;rw [A x (by omega),A (x+1) (by omega),h8] at O;have h9:=congrArg Heap.next O;exact absurd h9 (Nat.ne_of_lt (xP _))
  ·have:=jV u.op;omega
 have C:=List.all_eq_true.1 X _ (M m R y (yA3 r).1);rw [xC] at C;have Q:lAf ops m=true:=by simp only [lAf,y,r]
 simp only [Q,xA] at C;have J:=List.all_eq_true.1 C _ (M x u f K);rw [xC] at J;have e2:lAf ops x=false:=by simp only [lAf,f,I]
 have S:Nat.blt x m=true:=by simp_all
 have W:aV x (((fD ops [])[m]?).getD [])=false:=by
  grind [aV,fD,absurd,aE]
 simp only [e2,S,W,xV,Bool.or_false,xB] at J;exact tB4 J
def bBb {β:Type} (p:Nat) (fr:Fr) (h:Heap) (k:Out->Fr->Heap->Option β) (b:β) (K:(Exit->Act->World->Prop)->Act->World->Prop):Prop:=
 ∀ (μ:Mu) (w:World) (a:Act) (Q:Exit->Act->World->Prop),HR μ h w->AR μ p fr a->
  (∀ o fr' h' f j w',AR f p fr' j->HR f h' w'->Ext μ h w f h' w'->k o fr' h'=some b->Q (rV o) j w')->K Q a w
def qAs (ok:EnvOK E P) (hm:P.follows .mixedOrders=true) {C:CallK} (S:CallKOK P C) {O:Nat} (V:O<=1073741824) {β:Type} {id:Nat} {ops:Array Oper} {draw:Bool} {fr:Fr} {h:Heap} {k:Out->Fr->Heap->Option β} {b:β}
  (K:(bif draw&&!wAo ops.toList then (bif dA3 ops.toList then qL E C O ops.toList (dBi ops.toList (fD ops.toList [])) 0 ops.toList fr h [] [] fun fr' h'=>k .norm fr' h' else bif cAp ops.toList then tA8 E C O (aJ (nZ ops.toList) ops.toList) 0 (aJ (nZ ops.toList) ops.toList) fr h [] [] [] fun fr' h'=>k .norm fr' h' else none) else uP E C O ops.toList ops.toList fr h fun fr' h'=>k .norm fr' h')=some b):bBb O fr h k b (fun Q a w=>(Code.region id ops draw).wp P Q a w):=by
 intro μ w a Q hr ha hq
 cases hd:(draw&&!wAo ops.toList) with
 | true=>
  simp only [hd,xA] at K
  cases X:dA3 ops.toList with
  | false=>
   simp only [X,xB] at K
   cases I:cAp ops.toList with
   | false=>simp [I] at K
   | true=>
    simp only [I,xA] at K;have ⟨recs,fr',r,h',R,HS,L,W,e2,Z,e4,e6,_,_,_,eh,e7,e8,e9⟩:=qZ S V K (FrLe.refl fr);have u:∀ p B w',AR p O r B->HR p h' w'->Ext μ h w p h' w'->Q .normal B w':=fun p B w' H F y=>hq .norm fr' h' p B w' (H.le e2) F y Z;have U:draw=true:=by grind
    subst U;simp only [cAp,xG] at I;refine pBa hm I.1 ?_;refine pB4 (ops:=(aJ (nZ ops.toList) ops.toList).toArray) (recs:=recs) (fr':=r) (h':=h') ok S.ok (by simpa using W) (by simpa using I.2) ?_ (by simpa using vB4 W e6 e9) hr ha u;intro i o f hh v hi M hk k Hk A;have a1:(aJ (nZ ops.toList) ops.toList)[i]? = some o:=by simpa using hi
    have a2:∃ k,(k,Hk)∈HS:=by
     rcases A with ⟨o',f',v',h1,h2,h3⟩ | ⟨_,rfl⟩
     ·grind
     ·exact ⟨_,eh⟩
    have ⟨k',J⟩:=a2
    have:=e8 i o f hh v a1 M hk k' Hk J
    simpa using this
  | true=>
   simp only [X,xA] at K;have ⟨recs,fr',r,h',R,HS,W,e2,Z,_,_,_,eh,e7,e8⟩:=pZ S V K (FrLe.refl fr);have u:∀ p B w',AR p O r B->HR p h' w'->Ext μ h w p h' w'->Q .normal B w':=fun p B w' H F y=>hq .norm fr' h' p B w' (H.le e2) F y Z;have U:draw=true:=by grind
   subst U;refine vAo ok hm S.ok (fr':=r) (h':=h') W X ?_ hr ha u;intro i o f hh v hi M hk k Hk A a0;have a2:(k,Hk)∈HS:=by
    grind
   have hw:dBi ops.toList (fD ops.toList []) i k=true:=by
    unfold dBi;simp only [xG];refine ⟨aY.2 fun j hj o' Y J=>(a0 j o' Y J).1 hj,oA8 fun j ps hj o' Y J a1=>?_⟩
    grind
   grind
 | false=>
  simp only [hd,xB] at K;have ⟨recs,fr',r,h',W,e2,Z⟩:=oZ S V K (FrLe.refl fr);have u:∀ p B w',AR p O r B->HR p h' w'->Ext μ h w p h' w'->Q .normal B w':=fun p B w' H F y=>hq .norm fr' h' p B w' (H.le e2) F y Z
  cases draw with
  | true=>
   simp only [Bool.true_and,Bool.not_eq_false'] at hd;exact nB4 ok hm S.ok W hd hr ha u
  | false=>
   refine wp_region ?_;rw [List.range_eq_range'];exact mB4 ok S.ok ops.size 0 μ h w fr a r h' (by omega) (by simpa using mAg W) hr ha u
def wB4 (ok:EnvOK E P) (hm:P.follows .mixedOrders=true) {C:CallK} (hC:CallKOK P C) {X:Nat} (V:X<=1073741824) {β:Type}:∀ (c:Code) {fr:Fr} {h:Heap} {k:Out->Fr->Heap->Option β} {b:β},
  oAs E C X c fr h k=some b->bBb X fr h k b (fun Q a w=>c.wp P Q a w):=by
 intro c
 induction c with
 | skip=>intro fr h k b j μ w a Q B F u;exact wp_skip (u .norm fr h μ a w F B (Ext.refl μ h w) j)
 | region id ops draw=>intro fr h k b j;exact qAs ok hm hC V j
 | seq x y M K=>
  intro fr h k b j μ w a Q B F u;refine wp_seq (M j μ w a _ B F ?_)
  intro o fr' h' r I w' A p f H
  cases o with
  | norm=>exact K H r w' I Q p A fun o2 S h2 U a2 w2 Z W L R=>u o2 S h2 U a2 w2 Z W (Ext.trans B f L) R
  | exit id=>exact u _ fr' h' r I w' A p f H
  | ret=>exact u _ fr' h' r I w' A p f H
 | cond c x y M K=>
  intro fr h k b j μ w a Q B F u;simp only [oAs] at j
  split at j
  ·rename_i t O
   have hv:=bC F O;simp only [VR] at hv;refine wp_cond hv ?_
   cases t with
   | true=>simp only [xA] at j;exact M j μ w a Q B F u
   | false=>simp only [xB] at j;exact K j μ w a Q B F u
  ·simp at j
 | block id c Y=>
  intro fr h k b j μ w a Q B F u;refine wp_block (Y j μ w a _ B F ?_)
  intro o fr' h' r I w' A p f H
  cases o with
  | norm=>exact u .norm fr' h' r I w' A p f H
  | exit J=>
   simp only at H
   cases O:Nat.beq J id with
   | true=>
    simp only [O,xA] at H
    have:J=id:=xK O
    simp only [rV,Exit.inBlock,this,xM];exact u .norm fr' h' r I w' A p f H
   | false=>
    simp only [O,xB] at H
    have:J≠id:=fun e=>by simp_all
    simp only [rV,Exit.inBlock,this,xL];exact u (.exit J) fr' h' r I w' A p f H
  | ret=>exact u .ret fr' h' r I w' A p f H
 | exit id=>intro fr h k b j μ w a Q B F u;exact wp_exit (u (.exit id) fr h μ a w F B (Ext.refl μ h w) j)
 | ret=>intro fr h k b j μ w a Q B F u;exact wp_ret (u .ret fr h μ a w F B (Ext.refl μ h w) j)
 | scope c Y=>
  intro fr h k b j μ w a Q B F u;refine wp_scope_straight (Y j μ w a _ B F ?_)
  intro o fr' h' r I w' A p f H
  have:=u o fr' h' r I w' A p f H
  cases o <;> exact this
 | label l=>intro fr h k b j μ w a Q B F u;exact wp_label (u .norm fr h μ a w F B (Ext.refl μ h w) j)
 | loop=>intro fr h k b j;simp [oAs] at j
 | rangeFunc=>intro fr h k b j;simp [oAs] at j
 | goto=>intro fr h k b j;simp [oAs] at j
 | refuse=>intro fr h k b j;simp [oAs] at j
end
end Ai
namespace Ai
section
variable {E:Env} {P:Program}
def nAg {β:Type}:∀ {os:List (Out×List (Nat×VTy))} {o:Out} {y:Fr} {h:Heap} {K:gBr os->Option β} {b:β},iBr os o y h K=some b->
  ∃ j,K j=some b/\∀ {H:Type} (u:Out->Fr->Heap->Option H) (c:H),wBa os j u=some c->∃ w,FrLe w y/\u o w h=some c
 | [],o,y,h,K,b,f=>by cases f
 | p::r,o,y,h,K,b,f=>by
  simp only [iBr] at f
  cases B:vD o p.1 with
  | true=>
   simp only [B,xA] at f;have ⟨xs,A,C⟩:=oM f;refine ⟨_,C,fun u c F=>⟨frL p.2 xs,A,?_⟩⟩;rw [jAb B];exact F
  | false=>
   simp only [B,xB] at f;have ⟨j,A,C⟩:=nAg f;exact ⟨_,A,fun u c F=>C u c F⟩
def wA1 (E:Env) (C:CallK) (N u:Nat) (j:List (Nat×VTy)) (f:List Out) (p:List (Nat×VTy)) (x:Ann) (c:Code) (y:gI (j.map (·.2))->Heap->Option (Out×gI (p.map (·.2))×Heap)) (vs:gI (j.map (·.2))) (h:Heap):Option (Out×gI (p.map (·.2))×Heap):=
 oAj E C N u x c (frL j vs) h fun o fr' h'=>match o with
    | .norm=>tAw j fr' fun w=>y w h'
    | o=>bif bA4 f o then tAw p fr' fun r=>some (o,r,h') else none
def yB4 (ok:EnvOK E P) (hm:P.follows .mixedOrders=true) {C:CallK} (hC:CallKOK P C) {N U:Nat} (b1:U<=1073741824):∀ (x:Ann) (c:Code) {β:Type} {V:Fr} {h:Heap} {k:Out->Fr->Heap->Option β} {b:β},
  oAj E C N U x c V h k=some b->bBb U V h k b (fun Q a w=>c.wp P Q a w):=by
 intro x
 induction x with
 | n=>intro c β V h k b B;exact wB4 ok hm hC b1 c B
 | two x y O a4=>
  intro c β V h k b B μ w a Q J L I;simp only [oAj] at B
  split at B
  ·refine wp_seq (O _ B μ w a _ J L ?_)
   intro o fr' h' p F w' u r f A
   cases o with
   | norm=>exact a4 _ A p w' F Q r u fun o2 a3 h2 X a2 w2 a1 a0 K a8=>I o2 a3 h2 X a2 w2 a1 a0 (Ext.trans J f K) a8
   | exit id=>exact I _ fr' h' p F w' u r f A
   | ret=>exact I _ fr' h' p F w' u r f A
  ·split at B
   ·rename_i t hb
    have hv:=bC L hb;simp only [VR] at hv;refine wp_cond hv ?_
    cases t with
    | true=>simp only [xA] at B;exact O _ B μ w a Q J L I
    | false=>simp only [xB] at B;exact a4 _ B μ w a Q J L I
   ·simp at B
  ·rename_i id c
   refine wp_block (O _ B μ w a _ J L ?_)
   intro o fr' h' p F w' u r f A
   cases o with
   | norm=>exact I .norm fr' h' p F w' u r f A
   | exit R=>
    simp only at A
    cases hb:Nat.beq R id with
    | true=>
     simp only [hb,xA] at A
     have:R=id:=xK hb
     simp only [rV,Exit.inBlock,this,xM];exact I .norm fr' h' p F w' u r f A
    | false=>
     simp only [hb,xB] at A
     have:R≠id:=fun e=>by simp_all
     simp only [rV,Exit.inBlock,this,xL];exact I (.exit R) fr' h' p F w' u r f A
   | ret=>exact I .ret fr' h' p F w' u r f A
  ·rename_i c
   refine wp_scope_straight (O _ B μ w a _ J L ?_)
   intro o fr' h' p F w' u r f A
   have:=I o fr' h' p F w' u r f A
   cases o <;> exact this
  ·cases B
 | join live x ih=>
  intro c β V h k b B μ w a Q J L I;simp only [oAj] at B;have ⟨us,W,e1,e2⟩:=cJ B;refine ih _ e1 μ w a Q J L ?_;intro o fr' h' p F w' u r f A
  cases o with
  | norm=>
   have ⟨xs,Z,S⟩:=oM A;simp only [xF,xI] at S;obtain ⟨rfl,rfl⟩:=S;exact I .norm _ h' p F w' (u.le Z) r f e2
  | exit id=>simp at A
  | ret=>simp at A
 | joinO os x ih=>
  intro c β V h k b B μ w a Q J L I;simp only [oAj] at B;have ⟨j,e1,e2⟩:=nH B;refine ih _ e1 μ w a Q J L ?_;intro o1 fr' h' p F w' u r f A;have ⟨j',Z,S⟩:=nAg A;cases Z;have ⟨a3,e5,e6⟩:=S _ _ e2;exact I _ _ h' p F w' (u.le e5) r f e6
 | loop li H lo x ih=>
  intro c β V h k b B μ w a Q J L I;simp only [oAj] at B
  split at B
  ·rename_i c
   have ⟨vs,e0,B⟩:=oM B;have ⟨o,us,W,e1,e2⟩:=pAs B;have rounds:∀ (M:Nat) (vs:gI (li.map (·.2))) (h0:Heap),iter (wA1 E C N U li H lo x c) M vs h0=some (o,us,W)->
     ∀ (μ:Mu) (w:World) (a:Act) (Q:Exit->Act->World->Prop),HR μ h0 w->AR μ U (frL li vs) a->
      (∀ p F w',o∈H->AR p U (frL lo us) F->HR p W w'->Ext μ h0 w p W w'->Q (rV o) F w')->Code.rounds P c Q M a w:=by
    intro M
    induction M with
    | zero=>intro vs h0 he;cases he
    | succ M a9=>
     intro vs h0 he;have a5:wA1 E C N U li H lo x c (iter (wA1 E C N U li H lo x c) M) vs h0=some (o,us,W):=he;unfold wA1 at a5;have a6:=ih c a5;intro μ w a Q J L I;rw [rounds_succ];refine a6 μ w a _ J L ?_;intro o1 fr' h' p F w' u r f A;have other:∀ (b2:o1≠.norm),(bif bA4 H o1 then tAw lo fr' fun us=>some (o1,us,h') else none)=some (o,us,W)->Q (rV o1) F w':=by
      intro b2 A
      cases Y:bA4 H o1
      ·simp [Y] at A
      ·simp only [Y,xA] at A;have ⟨xs,Z,S⟩:=oM A;simp only [xF,xI] at S;obtain ⟨rfl,rfl,rfl⟩:=S;exact I p F w' (vA8 Y) (u.le Z) r f
     cases o1 with
     | norm=>
      have ⟨ws,Z,S⟩:=oM A;exact a9 ws h' S p w' F Q r (u.le Z) fun X a2 w2 b0 a1 a0 K=>I X a2 w2 b0 a1 a0 (Ext.trans J f K)
     | exit id=>exact other (by simp) A
     | ret=>exact other (by simp) A
   exact wp_loop_rounds _ (rounds _ vs h e1 μ w a Q J (L.le e0) fun p F w' a7 u r f=>I o _ W p F w' u r f (lAg a7 e2))
  ·simp at B
def uV {β:Type} {w:Fr} {h:Heap}:∀ {l:List (ResultVar×VTy)} {K:List AV->Option β} {b:β},jB8 E w h l K=some b->∃ vs,gH E w h (l.map (·.1))=some vs/\K vs=some b
 | [],K,b,f=>⟨[],rfl,f⟩
 | (.tmp t,c)::r,K,b,f=>by
  simp only [jB8] at f
  cases B:w.get t with
  | none=>simp [B] at f
  | some v=>
   simp only [B] at f;have ⟨vs,M,F⟩:=uV f
   grind [gH]
 | (.cell a t,c)::r,K,b,f=>by
  simp only [jB8] at f
  split at f
  ·rename_i p B
   split at f
   ·rename_i j
    split at f
    ·rename_i n I
     obtain ⟨q,rfl,u⟩:=nH f;have ⟨y,C,A⟩:=qF u;have ⟨l,L,J⟩:=bY C;have ⟨vs,F,u⟩:=uV A;refine ⟨c.to y::vs,?_,u⟩;have H:kS E h t (.ptr (some q))=some (c.to y):=by simp [kS,j,I,L];exact J.symm
     grind [gH]
    ·cases f
   ·rename_i j
    obtain ⟨q,rfl,u⟩:=nH f;have ⟨y,C,A⟩:=qF u;have ⟨vs,F,u⟩:=uV A;refine ⟨c.to y::vs,?_,u⟩;have H:kS E h t (.ptr (some q))=some (c.to y):=by simp [kS,j,dA4 C];rfl
    grind [gH]
   ·cases f
  ·cases f
def pC (P:Program) (f:FuncId) (l:List VTy) (t:Ty) (F:gI l->Heap->Option (t.den×Heap)):Prop:=
 ∀ xs h r h',F xs h=some (r,h')->∀ μ w (args':Array Value),HR μ h w->VRs μ (VTy.tos l xs) args'.toList->
  (callFunc f args').run P w=.ok (.enter f args') w/\Calls P f args' w fun e w'=>∃ u,e=.returned u/\iB8 μ h w (t.to r) h' u w'
def kA:CallKOK P oAw where
 nat:=by intro β f args h k b j;cases j
 ok:=by intro f args h v h' j;cases j
def CTy.cast_to {β:Type}:∀ (c:CTy) (x:c.den) (K:c.den->Option β),c.cast (c.to x) K=K x
 | .bool,x,K=>rfl
 | .int k,x,K=>by simp [CTy.cast,CTy.to,eM]
 | .str,x,K=>rfl
 | .ptr,x,K=>rfl
 | .slice,x,K=>rfl
 | .any,x,K=>rfl
def CTy.casts_tos {β:Type}:∀ (l:List CTy) (x:tP l) (K:tP l->Option β),CTy.casts l (CTy.tos l x) K=K x
 | [],x,K=>rfl
 | c::r,x,K=>by simp only [CTy.tos,CTy.casts,CTy.cast_to,CTy.casts_tos r]
def VTy.cast_to {β:Type}:∀ (c:VTy) (x:c.den) (K:c.den->Option β),c.cast (c.to x) K=K x
 | .one c,x,K=>CTy.cast_to c x K
 | .agg l,x,K=>CTy.casts_tos l x K
 | .clo g l,x,K=>by simp only [VTy.cast,VTy.to,Nat.beq_refl,xA];exact CTy.casts_tos l x K
def VTy.casts_tos {β:Type}:∀ (l:List VTy) (x:gI l) (K:gI l->Option β),VTy.casts l (VTy.tos l x) K=K x
 | [],x,K=>rfl
 | c::r,x,K=>by simp only [VTy.tos,VTy.casts,VTy.cast_to,VTy.casts_tos r]
def bA {f:FuncId} {l:List VTy} {t:Ty} {F:gI l->Heap->Option (t.den×Heap)} {C:CallK} (K:pC P f l t F) (H:CallKOK P C):CallKOK P (nK f l t F C):=by
 constructor
 ·intro β g args h k b j
  unfold nK at j
  cases p:Nat.beq g f with
  | true=>
   simp only [p,xA] at j;obtain ⟨xs,rfl,u⟩:=VTy.casts_spec j;have ⟨r,h',y,A⟩:=cJ u;refine ⟨t.to r,h',?_,A⟩;simp only [kF,nK,p,xA,VTy.casts_tos,y,jA]
  | false=>
   simp only [p,xB] at j;have ⟨v,h',u,y⟩:=H.nat j;exact ⟨v,h',by simp only [kF,nK,p,xB];exact u,y⟩
 ·intro g args h v h' j μ w args' J B
  simp only [kF,nK] at j
  cases p:Nat.beq g f with
  | true=>
   simp only [p,xA] at j;obtain ⟨xs,rfl,u⟩:=VTy.casts_spec j;have ⟨r,y,A,I⟩:=cJ u;simp only [xF,xI] at I;obtain ⟨rfl,rfl⟩:=I
   have:=xK p
   subst this;exact .inr (K xs h r y A μ w args' J B)
  | false=>
   simp only [p,xB] at j;exact H.ok g args h v h' j μ w args' J B
def iC {f:FuncId} {sel:List AV->Bool} {l:List VTy} {t:Ty} {F:gI l->Heap->Option (t.den×Heap)} {C:CallK} (L:pC P f l t F) (B:CallKOK P C):CallKOK P (tR f sel l t F C):=by
 constructor
 ·intro β g args h k b j
  unfold tR at j
  cases p:Nat.beq g f with
  | true=>
   cases A:sel args with
   | true=>
    simp only [p,A,xA] at j;obtain ⟨xs,rfl,u⟩:=VTy.casts_spec j;have ⟨r,h',y,J⟩:=cJ u;refine ⟨t.to r,h',?_,J⟩;simp only [kF,tR,p,A,xA,VTy.casts_tos,y,jA]
   | false=>
    simp only [p,A,xA,xB] at j;have ⟨v,h',u,y⟩:=B.nat j;exact ⟨v,h',by simp only [kF,tR,p,A,xA,xB];exact u,y⟩
  | false=>
   simp only [p,xB] at j;have ⟨v,h',u,y⟩:=B.nat j;exact ⟨v,h',by simp only [kF,tR,p,xB];exact u,y⟩
 ·intro g args h v h' j μ w args' I H
  simp only [kF,tR] at j
  cases p:Nat.beq g f with
  | true=>
   cases A:sel args with
   | true=>
    simp only [p,A,xA] at j;obtain ⟨xs,rfl,u⟩:=VTy.casts_spec j;have ⟨r,y,J,K⟩:=cJ u;simp only [xF,xI] at K;obtain ⟨rfl,rfl⟩:=K
    have:=xK p
    subst this;exact .inr (L xs h r y J μ w args' I H)
   | false=>
    simp only [p,A,xA,xB] at j;exact B.ok g args h v h' j μ w args' I H
  | false=>
   simp only [p,xB] at j;exact B.ok g args h v h' j μ w args' I H
def oAk (ok:EnvOK E P) (hm:P.follows .mixedOrders=true) {C:CallK} (hC:CallKOK P C) {N:Nat} {x:Ann} {f:FuncId} {fn:Func} {c:Code} {l:List VTy} {t:Ty} {F:gI l->Heap->Option (t.den×Heap)}
  (hf:E.fn f=some fn) (hb:fn.body=some c) (a1:Nat.ble fn.ntmps 1073741824=true) (a9:Nat.beq fn.results.size fn.resultTypes.size=true) (hF:∀ xs h,F xs h=runK E C N x fn c t (VTy.tos l xs) h):pC P f l t F:=by
 intro xs h r h' K μ w args' hr hv;rw [hF] at K;unfold runK at K;have O:fn.ntmps<=1073741824:=by simpa using a1
 have ⟨a5,a3⟩:=ok.fn f fn hf
 cases H:Nat.ble (VTy.tos l xs).length fn.ntmps with
 | false=>simp [H] at K
 | true=>
  simp only [H,xA] at K;have a8:(VTy.tos l xs).length<=fn.ntmps:=by simpa using H
  have L:args'.size=(VTy.tos l xs).length:=by simpa using hv.length
  refine ⟨?_,?_⟩
  ·unfold callFunc
   simp_all
  ·refine calls_of_wp a5 hb ?_
   refine yB4 ok hm hC O x c K μ w _ _ hr ?_ ?_
   ·refine ⟨fun t x K=>?_,by simp [L];omega,rfl⟩
    rcases rA8 (VTy.tos l xs) 0 .nil t x K with ⟨_,h2⟩ | h2
    ·have ⟨y,h3,h4⟩:=hv.get h2
     have a7:args'[t]? = some y:=by simpa using h3
     have b1:t<args'.size:=(Array.getElem?_eq_some_iff.1 a7).1
     have:(args'++Array.replicate (fn.ntmps-args'.size) undef).getD t undef=y:=by
      simp only [Array.getD_eq_getD_getElem?]
      grind
     rw [this];exact h4
    ·simp [Tr.get_nil] at h2
   ·intro out a6 Y R J w' U I A p
    have j:(rV out=.normal\/rV out=.ret)/\jB8 E a6 Y (fn.results.toList.zip (fn.resultTypes.toList.map (nAw E))) (fun vs=>t.cast (jBr vs) fun r=>some (r,Y))=some (r,h'):=by
     cases out with
     | norm=>exact ⟨.inl rfl,p⟩
     | ret=>exact ⟨.inr rfl,p⟩
     | exit id=>cases p
    have ⟨j,p⟩:=j;have ⟨vs,V,p⟩:=uV p;have ⟨r',Z,p⟩:=Ty.cast_spec p;simp only [xF,xI] at p;obtain ⟨rfl,rfl⟩:=p;have Q:J.defers=[]/\∃ u,(results fn J.tmps).run P w'=.ok u w'/\∃ u',Ending.returned u=.returned u'/\iB8 μ h w (t.to r') Y u' w':=by
     refine ⟨U.defers,?_⟩;have W:(fn.results.toList.zip (fn.resultTypes.toList.map (nAw E))).map (·.1)=fn.results.toList:=by
      grind [xK,List.map_fst_zip]
     rw [W] at V;have ⟨M,g1,g2⟩:=iN (P:=P) (g:=fun | .tmp t=>pure (J.tmps.getD t undef) | .cell a t=>do loadVar t (<- asAddr (J.tmps.getD a undef))) ok I U (fun _=>rfl) (fun _ _=>rfl) V;have B:∀ (r:Value),(if hs:M.toArray.size=1 then M.toArray[0] else .tuple M.toArray)=r->(results fn J.tmps).run P w'=.ok r w':=by
      intro r a4;have S:(fn.results.mapM (fun | .tmp t=>pure (J.tmps.getD t undef) | .cell a t=>do loadVar t (<- asAddr (J.tmps.getD a undef)):ResultVar->Sem Value)).run P w'=.ok M.toArray w':=by
       rw [Array.mapM_eq_mapM_toList,Sem.run_map,g1];rfl
      unfold results;exact (rA (P:=P) S).trans (by rw [<- a4];rfl)
     have b0:=g2.length;rw [Z]
     by_cases a2:∃ v,vs=[v]
     ·obtain ⟨v,rfl⟩:=a2
      simp only [VRs] at g2;obtain ⟨y,ys,rfl,g3,rfl⟩:=g2;exact ⟨y,B y (by simp),y,rfl,R,g3,I,A⟩
     ·have a0:M.toArray.size≠1:=by
       grind [List.length_eq_one_iff]
      have X:jBr vs=.tuple vs:=by
       unfold jBr;grind
      rw [X];exact ⟨.tuple M.toArray,B _ (by rw [dif_neg a0]),_,rfl,R,by simp only [VR];grind,I,A⟩
    rcases j with e | e <;> rw [e] <;> exact Q
end
end Ai
namespace Ai
def Tr.get_set_of {α:Type} {t:Tr α} {n m:Nat} {x:α} (f:m≠n):(t.set n x).get m=t.get m:=by
 cases h:(t.set n x).get m with
 | some y=>
  rcases Tr.get_set h with ⟨j,_⟩ | ⟨_,j⟩
  ·exact absurd j f
  ·exact j.symm
 | none=>
  cases p:t.get m with
  | none=>rfl
  | some y=>rw [Tr.get_set_other f p] at h;cases h
def Heap.is (h:Heap) (A:Nat) (cs:List AV):Prop:=h.t.get A=some (.row cs .own)/\A<h.next
def Heap.is_push (h:Heap) (cs:List AV):(h.push (.row cs .own)).is h.next cs:=⟨Tr.get_set_same,xP _⟩
def Heap.is.row {h:Heap} {A:Nat} {cs:List AV} (f:h.is A cs):h.row A=some cs:=by simp [Heap.row,f.1]
def Heap.is.cell {h:Heap} {A:Nat} {cs:List AV} (f:h.is A cs) (i:Nat):h.cell (A,i)=(cs.drop i).head?:=by
 simp only [Heap.cell,f.row];cases cs.drop i <;> rfl
@[simp] theorem Heap.push_next (h:Heap) (b:Blk):(h.push b).next=h.next+1:=rfl
@[simp] theorem Heap.put_next (h:Heap) (A:Nat) (b:Blk):(h.put A b).next=h.next:=rfl
@[simp] theorem aA {α β:Type} (v:α) (h:Heap) (k:α->Heap->Option β):jA (some (v,h)) k=k v h:=rfl
@[simp] theorem mB {α β:Type} (o:Out) (v:α) (h:Heap) (k:Out->α->Heap->Option β):rD (some (o,v,h)) k=k o v h:=rfl
@[simp] theorem fA {α β:Type} (a:α) (K:α->Option β):vA (some a) K=K a:=rfl
@[simp] theorem dA {β:Type} (t:Ty) (v:AV) (K:t.den->Option β):iA t (some v) K=t.cast v K:=rfl
@[simp] theorem rF {β:Type} (t:Ty) (v:AV) (h:Heap) (K:t.den->Heap->Option β):tD t (some (v,h)) K=t.cast v fun y=>K y h:=rfl
@[simp] theorem aC {β:Type} (b:Bool) (K:Bool->Option β):(Ty.val (.one .bool)).cast (.bool b) K=K b:=rfl
@[simp] theorem qB {β:Type} (k:IntKind) (n:Int) (K:Int->Option β):(Ty.val (.one (.int k))).cast (.int k n) K=K n:=CTy.cast_to (.int k) n K
@[simp] theorem yA {β:Type} (s:List UInt8) (K:List UInt8->Option β):(Ty.val (.one .str)).cast (.str s) K=K s:=rfl
@[simp] theorem dC {β:Type} (p:Option (Nat×Nat)) (K:Option (Nat×Nat)->Option β):(Ty.val (.one .ptr)).cast (.ptr p) K=K p:=rfl
@[simp] theorem qA {β:Type} (a:Option (Nat×Nat)) (l c s:Nat) (K:SL->Option β):(Ty.val (.one .slice)).cast (.slice a l c s) K=K ⟨a,l,c,s⟩:=rfl
@[simp] theorem pF {β:Type} (v:AV) (K:AV->Option β):(Ty.val (.one .any)).cast v K=K v:=rfl
@[simp] theorem kBr {β:Type} (l:List CTy) (cs:List AV) (K:tP l->Option β):(Ty.val (.agg l)).cast (.agg cs) K=CTy.casts l cs K:=rfl
@[simp] theorem uBi {β:Type} (K:Unit->Option β):CTy.casts [] [] K=K ():=rfl
@[simp] theorem rBh {β:Type} (r:List CTy) (b:Bool) (vs:List AV) (K:Bool×tP r->Option β):CTy.casts (.bool::r) (.bool b::vs) K=CTy.casts r vs fun xs=>K (b,xs):=rfl
@[simp] theorem vBi {β:Type} (r:List CTy) (k:IntKind) (n:Int) (vs:List AV) (K:Int×tP r->Option β):CTy.casts (.int k::r) (.int k n::vs) K=CTy.casts r vs fun xs=>K (n,xs):=by simp [CTy.casts,CTy.cast,eM]
@[simp] theorem cBb {β:Type} (r:List CTy) (a:Option (Nat×Nat)) (l c s:Nat) (vs:List AV) (K:SL×tP r->Option β):CTy.casts (.slice::r) (.slice a l c s::vs) K=CTy.casts r vs fun xs=>K (⟨a,l,c,s⟩,xs):=rfl
@[simp] theorem wBi {β:Type} (r:List CTy) (p:Option (Nat×Nat)) (vs:List AV) (K:Option (Nat×Nat)×tP r->Option β):CTy.casts (.ptr::r) (.ptr p::vs) K=CTy.casts r vs fun xs=>K (p,xs):=rfl
@[simp] theorem yBi {β:Type} (r:List CTy) (s:List UInt8) (vs:List AV) (K:List UInt8×tP r->Option β):CTy.casts (.str::r) (.str s::vs) K=CTy.casts r vs fun xs=>K (s,xs):=rfl
@[simp] theorem aBj {β:Type} (r:List CTy) (v:AV) (vs:List AV) (K:AV×tP r->Option β):CTy.casts (.any::r) (v::vs) K=CTy.casts r vs fun xs=>K (v,xs):=rfl
theorem wG {x:Int} (h:-9223372036854775808<=x) (f:x<=9223372036854775807):fB .i64 x=x:=by rw [bN];exact IntWalk.i64_in x ⟨h,f⟩
theorem oAg (a b:Int):ltInt a b=decide (a<b):=by rw [rA1]
def yAw (a b:Int):cD a b=decide (a<=b):=by rw [qAo]
def pAg (a b:Int):pA a b=decide (a=b):=by rw [qA1];rfl
end Ai
namespace Ai
def Heap.g (h:Heap) (A:Nat):Option Blk:=h.t.get A
def aAx (b:Option Blk) (i:Nat):Option AV:=match b with
 | some (.row cs .own)=>(cs.drop i).head?
 | some (.row cs .grown)=>(cs.drop i).head?
 | some (.row cs (.bytes _))=>(cs.drop i).head?
 | some (.row cs (.ty _))=>(cs.drop i).head?
 | some (.row cs .ro)=>(cs.drop i).head?
 | _=>none
def qAg (b:Option Blk) (i n:Nat):Option AV:=match b with
 | some (.row cs .own)=>(takeN n (cs.drop i)).map AV.agg
 | some (.row cs .grown)=>(takeN n (cs.drop i)).map AV.agg
 | some (.row cs (.bytes _))=>(takeN n (cs.drop i)).map AV.agg
 | some (.row cs (.ty _))=>(takeN n (cs.drop i)).map AV.agg
 | some (.row cs .ro)=>(takeN n (cs.drop i)).map AV.agg
 | _=>none
def bAx (h:Heap) (A:Nat) (b:Option Blk) (i:Nat) (vs:List AV):Option Heap:=match b with
 | some (.row cs .own)=>(over i cs vs).map fun f=>h.put A (.row f .own)
 | some (.row cs .grown)=>(over i cs vs).map fun f=>h.put A (.row f .grown)
 | some (.row cs (.bytes t))=>(over i cs vs).map fun f=>h.put A (.row f (.bytes t))
 | some (.row cs (.ty t))=>(over i cs vs).map fun f=>h.put A (.row f (.ty t))
 | _=>none
theorem Heap.cell_g (h:Heap) (A i:Nat):h.cell (A,i)=aAx (h.g A) i:=by
 unfold Heap.cell Heap.row aAx Heap.g
 cases h.t.get A with
 | none=>rfl
 | some b=>cases b with
  | row cs st=>cases st <;> simp only <;> cases cs.drop i <;> rfl
  | _=>rfl
def Heap.cells_g (h:Heap) (A i n:Nat):h.cells (A,i) n=qAg (h.g A) i n:=by
 unfold Heap.cells Heap.read Heap.row qAg Heap.g
 cases h.t.get A with
 | none=>rfl
 | some b=>cases b with
  | row cs st=>cases st <;> simp only <;> cases takeN n (cs.drop i) <;> rfl
  | _=>rfl
def Heap.store_g (h:Heap) (A i:Nat) (vs:List AV):h.store (A,i) vs=bAx h A (h.g A) i vs:=by
 unfold Heap.store Heap.rowW bAx Heap.g
 cases h.t.get A with
 | none=>rfl
 | some b=>cases b with
  | row cs st=>cases st <;> simp only <;> cases over i cs vs <;> rfl
  | _=>rfl
def iG {h:Heap} {A:Nat} (b:Blk) (f:A=h.next):(h.push b).g A=some b:=by subst f;exact Tr.get_set_same
def aQ {h:Heap} {A:Nat} (b:Blk) (f:A≠h.next):(h.push b).g A=h.g A:=Tr.get_set_of f
def jN {h:Heap} {A B:Nat} (b:Blk) (f:A=B):(h.put B b).g A=some b:=by subst f;exact Tr.get_set_same
def gAp {h:Heap} {A B:Nat} (b:Blk) (f:A≠B):(h.put B b).g A=h.g A:=Tr.get_set_of f
def cAx (cs:List AV) (i:Nat):aAx (some (.row cs .own)) i=(cs.drop i).head?:=rfl
def rAs (cs:List AV) (i n:Nat):qAg (some (.row cs .own)) i n=(takeN n (cs.drop i)).map AV.agg:=rfl
def dY (h:Heap) (A:Nat) (cs:List AV) (i:Nat) (vs:List AV):bAx h A (some (.row cs .own)) i vs=(over i cs vs).map fun f=>h.put A (.row f .own):=rfl
def rG (n:Nat) (cs:List AV):over n cs []=some cs:=by cases n <;> cases cs <;> rfl
def lF (c v:AV) (cs vs:List AV):over 0 (c::cs) (v::vs)=(over 0 cs vs).map (v::·):=by
 show (match over 0 cs vs with | some l=>some (v::l) | none=>none)=_;cases over 0 cs vs <;> rfl
def uF (n:Nat) (c v:AV) (cs vs:List AV):over (n+1) (c::cs) (v::vs)=(over n cs (v::vs)).map (c::·):=by
 show (match over n cs (v::vs) with | some l=>some (c::l) | none=>none)=_;cases over n cs (v::vs) <;> rfl
@[simp] theorem vF (i j:Nat):vD (.exit i) (.exit j)=decide (i=j):=by
 show Nat.beq i j=_
 cases h:Nat.beq i j with
 | true=>have:=xK h;simp [this]
 | false=>have:=Nat.ne_of_beq_eq_false h;simp [this]
@[simp] theorem eA4 (j:Nat):vD .ret (.exit j)=false:=rfl
@[simp] theorem tBh:vD .ret .ret=true:=rfl
@[simp] theorem vB3 (j:Nat):vD (.exit j) .ret=false:=rfl
def lB8 {β:Type} (q:Nat×Nat) (len j n:Nat) (K:Nat×Nat->Option β) (h:j<len):ixK (some q) len (Int.ofNat j) n K=K (q.1,q.2+j * n):=by
 have:Nat.blt j len=true:=by simpa [Nat.blt_eq] using h
 simp [ixK,this]
end Ai
namespace Ai
open Go.ChangeShapes Go.WideShapes
open Go.RowKit (Below)
def HR.below {μ:Mu} {h:Heap} {w w':World} (f:HR μ h w) (r:Below w.heap.size w w'):HR μ h w':=
 ⟨fun A l j=>⟨(f.dom A l j).1,xW (f.dom A l j).2 r.size⟩,f.inj,fun A l b j p=>BR.heap (r.block l.b (f.dom A l j).2) (f.blk A l b j p),f.pin⟩
def Ext.of_below {μ:Mu} {h:Heap} {w w':World} (f:Below w.heap.size w w'):Ext μ h w μ h w':=
 ⟨Mu.le_refl μ,xD _,fun _ _ h=>.inl h,fun _ _ h=>h,fun b j _=>f.block b j,f.size,f.os,f.tape,f.output⟩
def uR {E:Env} {P:Program} (ok:EnvOK E P) {f:FuncId} {fn:Func} (r:E.fn f=some fn) (u:fn.body.isSome=true) (args:Array Value) (w:World):(callFunc f args).run P w=.ok (.enter f args) w:=by
 have ⟨p,h⟩:=ok.fn f fn r;unfold callFunc;refine (rA (P:=P) (a:=P) (w':=w) rfl).trans ?_;rw [p];simp only [h,xE,xL]
 cases j:fn.body with
 | none=>simp [j] at u
 | some c=>rfl
def pA7 (P:Program) (S:List TypeId):List Field->Nat->Nat->Bool
 | [],off,tot=>Nat.beq off tot
 | f::r,off,tot=>Nat.beq f.offset off&&aV f.type S&&pA7 P S r (off+P.cellsOf f.type) tot
def dAx (P:Program) (S:List TypeId) (t:TypeId):Bool:=
 match P.underlying t with
 | some .bool=>true
 | some (.int _)=>true
 | some .string=>true
 | some (.slice e)=>aV e S&&Nat.ble 1 (P.cellsOf e)
 | some (.struct f)=>pA7 P S f.toList 0 (P.cellsOf t)
 | some (.array n e)=>aV e S&&Nat.beq (P.cellsOf t) (n * P.cellsOf e)
 | _=>false
def plainB (P:Program) (S:List TypeId):Bool:=S.all (dAx P S)
section
variable {H:Type} {enc:TypeId×Value->H} {P:Program} {w:World} {bs:Nat}
inductive Rd (P:Program) (h:Heap):TypeId->List AV->DataW H->Prop
 | bool {t:TypeId} {b:Bool}:P.underlying t=some .bool->Rd P h t [.bool b] (.lit (.bool b))
 | int {t:TypeId} {k:IntKind} {n:Int}:P.underlying t=some (.int k)->(Lit.int k n).wf=true->Rd P h t [.int k n] (.lit (.int k n))
 | str {t:TypeId} {s:List UInt8}:P.underlying t=some .string->s.length<=maxLen->Rd P h t [.str s] (.lit (.string s))
 | nil {t e:TypeId}:P.underlying t=some (.slice e)->Rd P h t [.slice none 0 0 0] .nil
 | slice {t e:TypeId} {A:Nat} {ass:List (List AV)} {ds sp:List (DataW H)}:P.underlying t=some (.slice e)->h.t.get A=some (.row ass.flatten .ro)->A<h.next->ds.length<=maxLen->ass.length=ds.length->
   (∀ (i:Nat) (a:List AV) (d:DataW H),ass[i]? = some a->ds[i]? = some d->Rd P h e a d)->Rd P h t [.slice (some (A,0)) ds.length ds.length (P.cellsOf e)] (.slice ds sp)
 | struct {t:TypeId} {fs:Array Field} {ass:List (List AV)} {ds:List (DataW H)}:P.underlying t=some (.struct fs)->ass.length=fs.size->ds.length=fs.size->
   (∀ (i:Nat) (f:Field) (a:List AV) (d:DataW H),fs[i]? = some f->ass[i]? = some a->ds[i]? = some d->Rd P h f.type a d)->Rd P h t ass.flatten (.agg ds)
 | array {t:TypeId} {n:Nat} {e:TypeId} {ass:List (List AV)} {ds:List (DataW H)}:P.underlying t=some (.array n e)->ass.length=n->ds.length=n->
   (∀ (i:Nat) (a:List AV) (d:DataW H),ass[i]? = some a->ds[i]? = some d->Rd P h e a d)->Rd P h t ass.flatten (.agg ds)
structure HLe (h h':Heap):Prop where
 get:∀ A b,h.t.get A=some b->h'.t.get A=some b
 next:h.next<=h'.next
 pins:h'.pins=h.pins
def HLe.refl (h:Heap):HLe h h:=⟨fun _ _ h=>h,xD _,rfl⟩
def HLe.trans {a b c:Heap} (x:HLe a b) (y:HLe b c):HLe a c:=⟨fun A l h=>y.get A l (x.get A l h),xT x.next y.next,y.pins.trans x.pins⟩
theorem Rd.mono {h h':Heap} (u:HLe h h') {t:TypeId} {as:List AV} {d:DataW H} (A:Rd P h t as d):Rd P h' t as d:=by
 induction A with
 | bool f=>exact .bool f
 | int f j=>exact .int f j
 | str f j=>exact .str f j
 | nil f=>exact .nil f
 | slice f j r B y _ p=>exact .slice f (u.get _ _ j) (xW r u.next) B y p
 | struct f j r _ p=>exact .struct f j r p
 | array f j r _ p=>exact .array f j r p
structure Rof (h:Heap):Prop where
 ro:∀ A b,h.t.get A=some b->∃ cs,b=.row cs .ro
 top:∀ A,h.next<=A->h.t.get A=none
def eAx (P:Program) (w:World) (t:TypeId) (cs:List Value) (d:DataW H):Prop:=
 ∀ μ h,HR μ h w->Rof h->∃ f h' as,μ.le f/\HLe h h'/\HR f h' w/\Rof h'/\VRs f as cs/\Rd P h' t as d
def vR:∀ (l:List (TypeId×List Value×DataW H)),(∀ x∈l,eAx P w x.1 x.2.1 x.2.2)->∀ μ h,HR μ h w->Rof h->
  ∃ (j:Mu) (h':Heap) (f:List (List AV)),μ.le j/\HLe h h'/\HR j h' w/\Rof h'/\f.length=l.length/\∀ (i:Nat) a x,f[i]? = some a->l[i]? = some x->VRs j a x.2.1/\Rd P h' x.1 a x.2.2
 | [],_,μ,h,C,p=>⟨μ,h,[],Mu.le_refl μ,HLe.refl h,C,p,rfl,fun i a x Y=>by simp at Y⟩
 | x::r,F,μ,h,C,p=>by
  have ⟨u,L,as,J,K,I,Q,Z,g6⟩:=F x List.mem_cons_self μ h C p;have ⟨B,S,f,X,M,V,O,R,k6⟩:=vR r (fun y W=>F y (xe _ W)) u L I Q;refine ⟨B,S,as::f,fun A l U=>X A l (J A l U),K.trans M,V,O,by simp [R],?_⟩
  grind [VRs.mono,Rd.mono]
theorem VRs.flatten {μ:Mu}:∀ {h:List (List AV)} {f:List (List Value)},h.length=f.length->(∀ (i:Nat) a c,h[i]? = some a->f[i]? = some c->VRs μ a c)->VRs μ h.flatten f.flatten
 | [],[],_,_=>VRs.nil
 | a::r,c::q,j,p=>by
  simp only [List.flatten_cons];exact VRs.append (p 0 a c rfl rfl) (VRs.flatten (by simpa using j) fun i a c y u=>p (i+1) a c (by simpa using y) (by simpa using u))
 | [],_::_,j,_=>by simp at j
 | _::_,[],j,_=>by simp at j
def HR.pushRo {μ:Mu} {h:Heap} (C:HR μ h w) (u:Rof h) {l:Loc} {cs:List AV} (M:l.b<w.heap.size) (y:RowR μ w l cs) :
  HR (μ.add h.next l) (h.push (.row cs .ro)) w/\Rof (h.push (.row cs .ro))/\HLe h (h.push (.row cs .ro))/\μ.le (μ.add h.next l):=by
 have r:μ.le (μ.add h.next l):=Mu.le_add C.isNone;have j:∀ A b,(h.push (.row cs .ro)).t.get A=some b->(A=h.next/\b=.row cs .ro)\/(A≠h.next/\h.t.get A=some b):=fun A b f=>Tr.get_set f;refine ⟨⟨?_,?_,?_,fun x L=>r _ _ (C.pin x L)⟩,⟨?_,?_⟩,⟨?_,Nat.le_succ _,rfl⟩,r⟩
 ·intro A F f
  unfold Mu.add at f
  split at f
  ·simp_all
  ·exact ⟨Nat.lt_succ_of_lt (C.dom A F f).1,(C.dom A F f).2⟩
 ·intro A B R Q O U _ _ f S _ _ _ _
  have ro:∀ A b,(h.push (.row cs .ro)).t.get A=some b->b.isRo=true:=by
   intro A b f;rcases j A b f with ⟨_,rfl⟩ | ⟨_,p⟩
   ·rfl
   ·obtain ⟨c,rfl⟩:=u.ro A b p;rfl
  grind
 ·intro A F b f J
  unfold Mu.add at f
  split at f
  ·rename_i K
   simp only [xF] at f;subst f;rcases j A b J with ⟨_,rfl⟩ | ⟨p,_⟩
   ·exact RowR.mono y r
   ·exact absurd K p
  ·rename_i I
   rcases j A b J with ⟨p,_⟩ | ⟨_,p⟩
   ·exact absurd p I
   ·exact BR.mono r (C.blk A F b f p)
 ·intro A b f
  rcases j A b f with ⟨_,rfl⟩ | ⟨_,p⟩
  ·exact ⟨cs,rfl⟩
  ·exact u.ro A b p
 ·intro A f
  have p:h.next+1<=A:=f;show (h.t.set h.next _).get A=none;rw [Tr.get_set_of (by omega)];exact u.top A (by omega)
 ·intro A b f
  show (h.t.set h.next _).get A=some b;rw [Tr.get_set_of ?_]
  ·exact f
  ·intro e
   rw [u.top A (by omega)] at f;cases f
def iAp (w:World):Prop:=∃ b e n,w.shape? b=some (e,n)
theorem lAb {a:Addr} {v:Value} (h:w.cell? a=some v):∃ e n,w.shape? a.block=some (e,n):=by
 unfold World.cell? at h;unfold World.shape?
 grind
def fA4 {b:Nat} {e n} (h:w.shape? b=some (e,n)):b<w.heap.size:=by
 grind [World.shape?,Array.getElem?_eq_some_iff]
def rZ {S:List TypeId}:∀ (j:List Field) (off tot:Nat) (cs:List Value),pA7 P S j off tot=true->cs.length=tot->off<=tot->
  (j.map fun f=>(cs.drop f.offset).take (P.cellsOf f.type)).flatten=cs.drop off/\∀ f∈j,f.type∈S
 | [],off,tot,cs,h,y,_=>by
  grind [pA7,xK,List.drop_of_length_le]
 | f::r,off,tot,cs,h,y,F=>by
  simp only [pA7,xG] at h;have ⟨⟨C,I⟩,A⟩:=h;have J:=xK C;have p:off+P.cellsOf f.type<=tot:=by
   have:∀ (j:List Field) (off tot:Nat),pA7 P S j off tot=true->off<=tot:=by
    intro j
    induction j with
    | nil=>grind [pA7,xK]
    | cons f r K=>intro off tot h;simp only [pA7,xG] at h;grind
   exact this _ _ _ A
  have ⟨L,B⟩:=rZ r _ tot cs A y p;refine ⟨?_,fun g u=>?_⟩
  ·grind [List.flatten_cons,List.drop_drop,List.take_append_drop]
  ·rcases List.mem_cons.1 u with rfl | u
   ·exact aE.1 I
   ·exact B g u
theorem chunks_flatten (n:Nat):∀ (k:Nat) (cs:List Value),cs.length=k * n->((List.range k).map fun i=>(cs.drop (i * n)).take n).flatten=cs
 | 0,cs,h=>by simp at h;subst h;rfl
 | k+1,cs,h=>by
  rw [List.range_succ_eq_map,List.map_cons,List.flatten_cons,List.map_map]
  have:=chunks_flatten n k (cs.drop n) (by simp [h,Nat.add_mul])
  have e:((List.range k).map ((fun i=>(cs.drop (i * n)).take n) ∘ Nat.succ))=(List.range k).map fun i=>((cs.drop n).drop (i * n)).take n:=by
   refine List.map_congr_left fun i _=>?_;simp only [Function.comp,List.drop_drop]
   grind
  rw [e,this];simp
def yA1 {S:List TypeId} (hS:plainB P S=true):∀ (r:Nat) (t:TypeId) (cs:List Value) (d:DataW H) (ps:List MemPlace),t∈S->DataW.trod enc P w 0 (fun _=>true) true r t cs=some (d,ps)->
  (∀ a,.slice (some a) 0 0∈cs->iAp w)->eAx P w t cs d
 | 0,t,cs,d,ps,_,h,_=>by simp [DataW.trod] at h
 | r+1,t,cs,d,ps,ht,h,hz=>by
  have Z:=List.all_eq_true.1 hS t ht;unfold dAx at Z;intro μ h0 hr O
  split at Z
  ·rename_i L
   obtain ⟨b,rfl,B⟩:=DataW.trod_bool L h;simp only [xI] at B;obtain ⟨rfl,_⟩:=B;exact ⟨μ,h0,[.bool b],Mu.le_refl μ,HLe.refl _,hr,O,VRs.cons (by simp [VR]) VRs.nil,.bool L⟩
  ·rename_i k L
   obtain ⟨n,rfl,B,hw⟩:=DataW.trod_int L h;simp only [xI] at B;obtain ⟨rfl,_⟩:=B;exact ⟨μ,h0,[.int k n],Mu.le_refl μ,HLe.refl _,hr,O,VRs.cons (by simp [VR]) VRs.nil,.int L hw⟩
  ·rename_i L
   obtain ⟨s,rfl,B,hw⟩:=DataW.trod_string L h;simp only [xI] at B;obtain ⟨rfl,_⟩:=B;refine ⟨μ,h0,[.str s.data.toList],Mu.le_refl μ,HLe.refl _,hr,O,VRs.cons (by simp [VR]) VRs.nil,.str L (by simpa using hw)⟩
  ·
   rename_i e L;simp only [xG] at Z;have he:e∈S:=aE.1 Z.1;have a6:1<=P.cellsOf e:=by simpa using Z.2
   rcases DataW.trod_slice L h with ⟨rfl,B⟩ | ⟨a,len,cap,p,rest,n,c2,rfl,B,_,a3,d4,U,b4,c0,_⟩
   ·simp only [xI] at B;obtain ⟨rfl,_⟩:=B
    exact ⟨μ,h0,[.slice none 0 0 0],Mu.le_refl μ,HLe.refl _,hr,O,VRs.cons (by simp [VR]) VRs.nil,.nil L⟩
   ·obtain rfl:r=n:=by omega
    simp only [xI] at B;obtain ⟨rfl,_⟩:=B;have ⟨d3,b9⟩:=c0 rfl;have a5:∀ i,i<cap->∃ b8,w.cells? 0 (a.add (i * P.cellsOf e)) (P.cellsOf e)=some b8:=by
     intro i hi;have key:∃ y,(w.cells? 0 (a.add (i * P.cellsOf e)) (P.cellsOf e)).bind (DataW.trod enc P w 0 (fun _=>true) true r e)=some y:=by
      by_cases d5:i<len
      ·grind
      ·have:=b9 (i-len) (by omega)
       grind
     grind [Option.bind_eq_some_iff]
    have ⟨C,hC⟩:=Deep.choose_lt a5;have W:∀ i,i<cap->∀ j,j<P.cellsOf e->∃ v,(C i)[j]? = some v/\a.spot=none/\w.cell? ⟨a.block,a.off+(i * P.cellsOf e+j),none⟩=some v:=by
     intro i hi j hj;have ⟨_,c5,h2⟩:=World.cells?_some (hC i hi);have ⟨_,d7,b7⟩:=World.cells?_some (hC 0 (by omega));have Q:a.spot=none:=by
      have I:=b7 0 (by omega);rw [List.getElem?_eq_getElem (by omega)] at I;simp only [Nat.zero_mul,Addr.add,xM] at I;unfold World.cell? at I
      split at I
      ·simp_all
      ·cases I
     refine ⟨(C i)[j],List.getElem?_eq_getElem (by omega),Q,?_⟩;have I:=h2 j hj;rw [List.getElem?_eq_getElem (by omega)] at I;rw [<- I,Deep.add_add];unfold Addr.add
     split
     ·rename_i h0;rw [h0,<- Q];rfl
     ·rfl
    have a1:0<cap->∃ e' n',w.shape? a.block=some (e',n'):=fun hc=>by
     grind [lAb]
    have F:∀ x∈(List.range len).map (fun i=>((e,C i,(p.getD i (.nil,[])).1):TypeId×List Value×DataW H)),eAx P w x.1 x.2.1 x.2.2:=by
     intro x B;obtain ⟨i,hi,rfl⟩:=List.mem_map.1 B;have hi:i<len:=by simpa using hi
     have I:=b4 i hi;rw [hC i (by omega)] at I;have M:DataW.trod enc P w 0 (fun _=>true) true r e (C i)=some ((p.getD i (.nil,[])).1,(p.getD i (.nil,[])).2):=by
      grind
     refine yA1 hS r e (C i) _ _ he M (fun _ _=>?_)
     have ⟨e',n',h5⟩:=a1 (by omega);exact ⟨_,e',n',h5⟩
    have ⟨V,h1,K,g1,g2,g3,g4,g5,g6⟩:=vR _ F μ h0 hr O;simp only [xS,List.length_range] at g5;have gi:∀ i,i<len->((List.range len).map (fun i=>((e,C i,(p.getD i (.nil,[])).1):TypeId×List Value×DataW H)))[i]? = some (e,C i,(p.getD i (.nil,[])).1):=fun i hi=>by simp [hi]
    have c7:∀ i,i<len->(p.map (·.1))[i]? = some ((p.getD i (.nil,[])).1):=fun i hi=>by
     grind
    have a8:VRs V K.flatten ((List.range len).map C).flatten:=VRs.flatten (by simp [g5]) fun i a c ha hc=>by
     grind
    have d6:∀ i,i<cap->(C i).length=P.cellsOf e:=fun i hi=>(World.cells?_some (hC i hi)).2.1;have a2:∀ k,k<=cap->((List.range k).map C).flatten.length=k * P.cellsOf e/\∀ (i:Nat) v,((List.range k).map C).flatten[i]? = some v->w.cell? ⟨a.block,a.off+i,none⟩=some v:=by
     intro k
     induction k with
     | zero=>grind
     | succ k ih=>
      intro hk;have ⟨i1,i2⟩:=ih (by omega);rw [List.range_succ,List.map_append,List.flatten_append];refine ⟨by grind,fun i v hv=>?_⟩;rcases Nat.lt_or_ge i (k * P.cellsOf e) with d8 | d0
      ·grind
      ·rw [List.getElem?_append_right (by omega),i1] at hv
       simp only [List.map_cons,List.map_nil,List.flatten_cons,List.flatten_nil,List.append_nil] at hv;have hj:i-k * P.cellsOf e<P.cellsOf e:=by
        grind
       have ⟨u,I,_,M⟩:=W k (by omega) _ hj;rw [hv] at I;cases I;rw [<- M];congr 2;omega
    by_cases b6:cap=0
    ·obtain rfl:len=0:=by omega
     subst b6;have ⟨b0,e0,n0,b2⟩:=hz a (by simp);have X:K=[]:=List.eq_nil_of_length_eq_zero g5;have ⟨q1,q2,q3,q4⟩:=HR.pushRo g3 g4 (l:=⟨b0,0,n0,false⟩) (cs:=K.flatten) (fA4 b2) ⟨⟨e0,b2⟩,by simp [X],fun i x B=>by simp [X] at B⟩;have R:p=[]:=List.eq_nil_of_length_eq_zero U;refine ⟨_,_,[.slice (some (h1.next,0)) (p.map (·.1)).length (p.map (·.1)).length (P.cellsOf e)],fun A l hA=>q4 A l (g1 A l hA),g2.trans q3,q1,q2,VRs.cons ?_ VRs.nil,.slice L Tr.get_set_same (xP _) (by simp [R]) (by simp [g5,R]) fun i a d ha hd=>by simp [X] at ha⟩;simp only [VR];exact ⟨⟨b0,0,n0,false⟩,a,0,by simp [Mu.add],by simp [R],xD _,.inl ⟨by simp [R],rfl⟩⟩
    ·have ⟨e',n',Y⟩:=a1 (by omega)
     have ⟨v,_,Q,_⟩:=W 0 (by omega) 0 (by omega);have ⟨c8,b3⟩:=a2 cap (xD _);have ⟨c9,c3⟩:=a2 len a3;have a7:a.off+cap * P.cellsOf e<=n':=by
      have I:cap * P.cellsOf e-1<((List.range cap).map C).flatten.length:=by
       have:0<cap * P.cellsOf e:=Nat.mul_pos (by omega) a6
       omega
      have M:=b3 _ _ (List.getElem?_eq_getElem I);unfold World.cell? at M;unfold World.shape? at Y
      split at M
      ·rename_i c el fz hh
       rw [hh] at Y;simp only [xF,xI] at Y
       split at M
       ·cases M
       ·have:=(Array.getElem?_eq_some_iff.1 M).1
        dsimp only at this;have h0:0<cap * P.cellsOf e:=Nat.mul_pos (by omega) a6;omega
      ·cases M
     have c4:len * P.cellsOf e<=cap * P.cellsOf e:=Nat.mul_le_mul_right _ a3;have ⟨q1,q2,q3,q4⟩:=HR.pushRo g3 g4 (l:=⟨a.block,a.off,n',false⟩) (cs:=K.flatten) (fA4 Y) ⟨⟨e',Y⟩,by have:=a8.length;grind,fun i x B=>by
      have ⟨y,I,M⟩:=a8.get B
      grind⟩
     refine ⟨_,_,[.slice (some (h1.next,0)) (p.map (·.1)).length (p.map (·.1)).length (P.cellsOf e)],fun A l hA=>q4 A l (g1 A l hA),g2.trans q3,q1,q2,VRs.cons ?_ VRs.nil,.slice L Tr.get_set_same (xP _) (by simp;omega) (by simp [g5,U]) fun i a' d ha hd=>?_⟩
     ·simp only [VR]
      refine ⟨⟨a.block,a.off,n',false⟩,a,cap,by simp [Mu.add],by simp [U],xD _,.inr ⟨?_,by simp [U,a3],by simpa using a7,by simp⟩⟩;cases a;grind
     grind [List.getElem?_eq_some_iff,Rd.mono]
  ·
   rename_i J L;have ⟨xs,n,c2,B,b1,a4,hf⟩:=DataW.trod_struct L h;obtain rfl:r=n:=by omega
   simp only [xI] at B;obtain ⟨rfl,_⟩:=B;have ⟨a2,b5⟩:=rZ J.toList 0 _ cs Z b1 (xc _);have F:∀ x∈(List.range J.size).map (fun i=>(((J.getD i default).type,(cs.drop (J.getD i default).offset).take (P.cellsOf (J.getD i default).type),(xs.getD i (.nil,[])).1):TypeId×List Value×DataW H)),eAx P w x.1 x.2.1 x.2.2:=by
    intro x B;obtain ⟨i,hi,rfl⟩:=List.mem_map.1 B;have hi:i<J.size:=by simpa using hi
    have a0:J[i]? = some (J.getD i default):=by simp [Array.getD,hi]
    have I:=hf i _ a0;have M:xs[i]? = some ((xs.getD i (.nil,[])).1,(xs.getD i (.nil,[])).2):=by grind
    refine yA1 hS r _ _ _ _ (b5 _ ?_) (I.trans M) (fun a ha=>hz a ?_)
    ·grind
    grind
   have ⟨V,h1,K,g1,g2,g3,g4,g5,g6⟩:=vR _ F μ h0 hr O;simp only [xS,List.length_range] at g5;have gi:∀ i,i<J.size->((List.range J.size).map (fun i=>(((J.getD i default).type,(cs.drop (J.getD i default).offset).take (P.cellsOf (J.getD i default).type),(xs.getD i (.nil,[])).1):TypeId×List Value×DataW H)))[i]? = some ((J.getD i default).type,(cs.drop (J.getD i default).offset).take (P.cellsOf (J.getD i default).type),(xs.getD i (.nil,[])).1):=fun i hi=>by simp [hi]
   refine ⟨V,h1,K.flatten,g1,g2,g3,g4,?_,.struct L (by omega) (by simp [a4]) fun i f a d a0 ha hd=>?_⟩
   ·have I:VRs V K.flatten ((J.toList.map fun f=>(cs.drop f.offset).take (P.cellsOf f.type))).flatten:=VRs.flatten (by simp [g5]) fun i a c ha hc=>by
     have hi:i<J.size:=by grind
     have M:=(g6 i a _ ha (gi i hi)).1;simp [hi] at hc;subst hc;simpa [Array.getD,hi] using M
    grind
   ·have hi:i<J.size:=(Array.getElem?_eq_some_iff.1 a0).1
    have M:=(g6 i a _ ha (gi i hi)).2;have e1:J.getD i default=f:=by
     have:=(Array.getElem?_eq_some_iff.1 a0).2
     simp [Array.getD,hi,this]
    grind
  ·
   rename_i n e L;simp only [xG] at Z;have he:e∈S:=aE.1 Z.1;have c6:=xK Z.2;unfold DataW.trod at h;rw [L] at h;simp only [Option.ite_none_right_eq_some,Option.map_eq_some_iff,xI] at h;obtain ⟨b1,xs,a9,rfl,_⟩:=h;have a4:xs.length=n:=by simpa using mapM_some_length a9
   have F:∀ x∈(List.range n).map (fun i=>((e,(cs.drop (i * P.cellsOf e)).take (P.cellsOf e),(xs.getD i (.nil,[])).1):TypeId×List Value×DataW H)),eAx P w x.1 x.2.1 x.2.2:=by
    intro x B;obtain ⟨i,hi,rfl⟩:=List.mem_map.1 B;have hi:i<n:=by simpa using hi
    have I:=mapM_some_get a9 i i (by simp [hi]);have M:xs[i]? = some ((xs.getD i (.nil,[])).1,(xs.getD i (.nil,[])).2):=by grind
    refine yA1 hS r _ _ _ _ he (I.trans M) (fun a ha=>hz a ?_)
    grind
   have ⟨V,h1,K,g1,g2,g3,g4,g5,g6⟩:=vR _ F μ h0 hr O;simp only [xS,List.length_range] at g5;have gi:∀ i,i<n->((List.range n).map (fun i=>((e,(cs.drop (i * P.cellsOf e)).take (P.cellsOf e),(xs.getD i (.nil,[])).1):TypeId×List Value×DataW H)))[i]? = some (e,(cs.drop (i * P.cellsOf e)).take (P.cellsOf e),(xs.getD i (.nil,[])).1):=fun i hi=>by simp [hi]
   refine ⟨V,h1,K.flatten,g1,g2,g3,g4,?_,.array L (by omega) (by simp [a4]) fun i a d ha hd=>?_⟩
   ·grind [VRs,List.range,VRs.flatten,List.getElem?_eq_some_iff,chunks_flatten]
   grind
  ·simp at Z
def gA4 {β:Type}:∀ (l:List β) (k:Nat) (f:Nat->Option β),(∀ i,i<l.length->f (k+i)=l[i]?)->(List.range' k l.length).mapM f=some l
 | [],k,f,_=>rfl
 | x::r,k,f,h=>by
  have h0:=h 0 (by simp);have j:=gA4 r (k+1) f (fun i hi=>by have:=h (i+1) (by simpa using hi);grind)
  grind [xJ,List.range'_succ]
theorem yR {S:List TypeId} (L:plainB P S=true) {w':World} {sp:Nat->Bool}:∀ (u:Nat) (t:TypeId) (cs:List Value) (x:DataW H×List MemPlace),t∈S->DataW.trod enc P w' 0 (fun _=>true) true u t cs=some x->
  (∀ p∈x.2,sp p.block=true)->DataW.trod enc P w' 0 sp true u t cs=some x
 | 0,t,cs,x,_,h,_=>by simp [DataW.trod] at h
 | u+1,t,cs,x,ht,h,O=>by
  have B:=List.all_eq_true.1 L t ht;unfold dAx at B
  split at B
  ·rename_i A
   obtain ⟨b,rfl,rfl⟩:=DataW.trod_bool A h;simp [DataW.trod,A]
  ·rename_i k A
   obtain ⟨n,rfl,rfl,U⟩:=DataW.trod_int A h;simp [DataW.trod,A,U]
  ·rename_i A
   obtain ⟨s,rfl,rfl,U⟩:=DataW.trod_string A h;simp [DataW.trod,A,U]
  ·rename_i e A
   simp only [xG] at B;have V:e∈S:=aE.1 B.1;have a3:1<=P.cellsOf e:=by simpa using B.2
   rcases DataW.trod_slice A h with ⟨rfl,rfl⟩ | ⟨a,len,cap,C,rest,n,a5,rfl,rfl,hb,a2,a8,a0,a4,F,_⟩
   ·simp [DataW.trod,A]
   ·obtain rfl:u=n:=by omega
    have ⟨a6,a1⟩:=F rfl;have one:∀ (i:Nat) (y:DataW H×List MemPlace),y∈C++rest->
      (w'.cells? 0 (a.add (i * P.cellsOf e)) (P.cellsOf e)).bind (DataW.trod enc P w' 0 (fun _=>true) true u e)=some y->(w'.cells? 0 (a.add (i * P.cellsOf e)) (P.cellsOf e)).bind (DataW.trod enc P w' 0 sp true u e)=some y:=by
     intro i y M J;simp only [Option.bind_eq_some_iff] at J ⊢;have ⟨K,X,R⟩:=J;refine ⟨K,X,yR L u e K y V R (fun p B=>O p ?_)⟩
     grind
    have tot:∀ {β:Type} (f:Nat->Option β) (l:List β),(∀ i,i<l.length->f i=l[i]?)->(List.range l.length).mapM f=some l:=by
     intro β f l W;rw [List.range_eq_range'];exact gA4 l 0 f (fun i hi=>by grind)
    have m1:(List.range len).mapM (fun i=>(w'.cells? 0 (a.add (i * P.cellsOf e)) (P.cellsOf e)).bind (DataW.trod enc P w' 0 sp true u e))=some C:=by
     grind
    have m2:(if sp a.block then (List.range (cap-len)).mapM fun j=>(w'.cells? 0 (a.add ((len+j) * P.cellsOf e)) (P.cellsOf e)).bind (DataW.trod enc P w' 0 sp true u e) else some [])=some rest:=by
     split
     ·grind
     ·rename_i F
      cases Q:rest with
      | nil=>rfl
      | cons y r=>
       exfalso
       apply F
       refine O (.cell a.block (a.off+0)) ?_;simp only [List.mem_append]
       left
       refine MemPlace.mem_row.2 ⟨0,?_,rfl⟩;rw [Q];simp only [xJ]
       grind
    rw [DataW.trod_step];unfold DataW.trodStep
    simp_all
  ·rename_i I A
   obtain ⟨a7,Z⟩:True/\∀ f∈I.toList,f.type∈S:=by
    have:∀ (I:List Field) (off tot:Nat),pA7 P S I off tot=true->∀ f∈I,f.type∈S:=by
     intro I
     induction I with
     | nil=>grind
     | cons f r ih=>
      intro off tot h g hg;simp only [pA7,xG] at h;rcases List.mem_cons.1 hg with rfl | hg
      ·exact aE.1 h.1.2
      grind
    grind
   rw [DataW.trod_step] at h ⊢;unfold DataW.trodStep at h ⊢;rw [A] at h ⊢;simp only [Option.ite_none_right_eq_some,Option.map_eq_some_iff] at h ⊢;obtain ⟨hc,xs,Y,rfl⟩:=h;exact ⟨hc,xs,mapM_carry Y (fun f y W M J=>yR L u _ _ y (Z f W) J (fun p B=>O p (List.mem_flatMap.2 ⟨y,M,B⟩))),rfl⟩
  ·rename_i n e A
   simp only [xG] at B;have V:e∈S:=aE.1 B.1;rw [DataW.trod_step] at h ⊢;unfold DataW.trodStep at h ⊢;rw [A] at h ⊢;simp only [Option.ite_none_right_eq_some,Option.map_eq_some_iff] at h ⊢;obtain ⟨hc,xs,Y,rfl⟩:=h;exact ⟨hc,xs,mapM_carry Y (fun f y W M J=>yR L u _ _ y V J (fun p B=>O p (List.mem_flatMap.2 ⟨y,M,B⟩))),rfl⟩
  ·simp at B
def vV {S:List TypeId} (y:plainB P S=true) {w':World} {sp:Nat->Bool}:∀ {j:List TypeId} {vs:List Value} {ds:List (DataW H)} {ps:List MemPlace},(∀ t∈j,t∈S)->DataW.TrodAll enc P w 0 (fun _=>true) true j vs ds ps->
  (∀ p∈ps,w.sameAt w' p)->(∀ p∈ps,sp p.block=true)->DataW.TrodAll enc P w' 0 sp true j vs ds ps
 | [],[],[],ps,_,h,_,_=>h
 | t::j,v::vs,d::ds,ps,r,h,A,C=>by
  obtain ⟨p,q,⟨f,I⟩,F,rfl⟩:=h;refine ⟨p,q,⟨f,?_⟩,vV y (fun t B=>r t (xe _ B)) F (fun x u=>A x (by simp [u])) (fun x u=>C x (by simp [u])),rfl⟩
  grind [yR,List.mem_cons_self,DataW.trod_carry]
 | [],_::_,_,_,_,h,_,_=>by simp [DataW.TrodAll] at h
 | [],[],_::_,_,_,h,_,_=>by simp [DataW.TrodAll] at h
 | _::_,[],_,_,_,h,_,_=>by simp [DataW.TrodAll] at h
 | _::_,_::_,[],_,_,h,_,_=>by simp [DataW.TrodAll] at h
def qA7 (P:Program) (t:TypeId) (cs:List AV):AV:=
 match P.underlying t with
 | some (.struct _)=>.agg cs
 | some (.array _ _)=>.agg cs
 | _=>cs.headD undefA
def RdArgs (P:Program) (h:Heap):List TypeId->List AV->List (DataW H)->Prop
 | [],[],[]=>True
 | t::f,a::as,d::ds=>(∃ cs,a=qA7 P t cs/\Rd P h t cs d)/\RdArgs P h f as ds
 | _,_,_=>False
theorem wV {r:Reach} {b:Nat} {u:TypeId} {a:Addr} {n m:Nat} (h:Cell.okWide P w r b u (.slice (some a) n m)):iAp w:=by
 unfold Cell.okWide at h
 split at h <;> try (rename_i f;cases f)
 unfold Cell.ok at h
 split at h <;> try (rename_i f;cases f)
 all_goals first | (have ⟨_,_,_,_,row,cells,j,_⟩:=h;exact ⟨_,_,_,j⟩) | (exfalso;simp_all;done) | skip
def mAb {t:TypeId} {v:Value} {a:Addr} (h:Value.okWide P w .any bs t v) (p:.slice (some a) 0 0∈v.cells.toList):iAp w:=by
 unfold Value.okWide at h;have single:∀ {v:Value},(∀ cs,v≠.agg cs)->.slice (some a) 0 0∈v.cells.toList->v=.slice (some a) 0 0:=by
  intro v j p;have y:v.cells.toList=[v]:=by
   cases v with
   | agg cs=>grind
   | _=>rfl
  grind
 have vAk:∀ {cs:Array Value},Row.okWide P w .any bs t cs->.slice (some a) 0 0∈cs.toList->iAp w:=by
  rintro cs ⟨A,_,_,h⟩ p
  grind [List.mem_iff_getElem?,wV]
 split at h
 ·obtain ⟨cs,rfl,_,h⟩:=h;grind [Value.cells]
 ·obtain ⟨cs,rfl,_,h⟩:=h;grind [Value.cells]
 ·rename_i r u
  by_cases j:∃ cs,v=.agg cs
  ·obtain ⟨cs,rfl⟩:=j
   exfalso
   unfold Cell.okWide at h
   split at h <;> try (rename_i f;cases f)
   unfold Cell.ok at h
   grind
  grind [wV]
def bBj {μ:Mu} {h:Heap} {t:TypeId} {v:Value} {as:List AV} {d:DataW H} (f:Value.okWide P w .any bs t v) (A:VRs μ as v.cells.toList) (C:Rd P h t as d):VR μ (qA7 P t as) v:=by
 unfold Value.okWide at f;have one:(∀ y,P.underlying t≠some (.struct y))->(∀ n e,P.underlying t≠some (.array n e))->∃ x,as=[x]/\qA7 P t as=x:=by
  intro r B;have p:qA7 P t as=as.headD undefA:=by
   grind [qA7,absurd]
  cases C with
  | bool j=>exact ⟨_,rfl,p⟩
  | int j=>exact ⟨_,rfl,p⟩
  | str j=>exact ⟨_,rfl,p⟩
  | nil j=>exact ⟨_,rfl,p⟩
  | slice j=>exact ⟨_,rfl,p⟩
  | struct j=>exact absurd j (r _)
  | array j=>grind
 split at f
 ·rename_i y j
  obtain ⟨cs,rfl,_⟩:=f;simp only [qA7,j,VR];exact ⟨cs,rfl,by simpa [Value.cells] using A⟩
 ·rename_i n e j
  obtain ⟨cs,rfl,_⟩:=f;simp only [qA7,j,VR];exact ⟨cs,rfl,by simpa [Value.cells] using A⟩
 ·rename_i r B
  obtain ⟨x,rfl,F⟩:=one r B;rw [F];have I:∀ cs,v≠.agg cs:=by
   rintro cs rfl;unfold Cell.okWide at f
   split at f <;> try (rename_i u;cases u)
   unfold Cell.ok at f
   grind
  have J:v.cells.toList=[v]:=by
   cases v with
   | agg cs=>grind
   | _=>rfl
  grind [VRs]
def aW {S:List TypeId} (M:plainB P S=true):∀ {B:List TypeId} {vs:List Value} {ds:List (DataW H)} {ps:List MemPlace},(∀ t∈B,t∈S)->DataW.TrodAll enc P w 0 (fun _=>true) true B vs ds ps->
  (∀ (j:Nat) t v,B[j]? = some t->vs[j]? = some v->Value.okWide P w .any bs t v)->∀ μ h,HR μ h w->Rof h->
  ∃ r h' as,μ.le r/\HLe h h'/\HR r h' w/\Rof h'/\VRs r as vs/\RdArgs P h' B as ds
 | [],[],[],ps,_,_,_,μ,h,L,u=>⟨μ,h,[],Mu.le_refl μ,HLe.refl h,L,u,VRs.nil,trivial⟩
 | t::B,v::vs,d::ds,ps,C,K,f,μ,h,L,u=>by
  obtain ⟨p,q,⟨y,h3⟩,h4,rfl⟩:=K;have ⟨F,Z,as,W,X,V,g4,Y,Q⟩:=yA1 M y t _ d p (C t List.mem_cons_self) h3 (fun a ha=>mAb (f 0 t v rfl rfl) ha) μ h L u;have ⟨I,h2,J,R,O,k3,k4,k5,k6⟩:=aW M (fun t ht=>C t (xe _ ht)) h4 (fun j t v U h6=>f (j+1) t v (by simpa using U) (by simpa using h6)) F Z V g4;exact ⟨I,h2,qA7 P t as::J,fun A l K=>R A l (W A l K),X.trans O,k3,k4,VRs.cons (VR.mono R _ _ (bBj (f 0 t v rfl rfl) Y Q)) k5,⟨as,rfl,Q.mono O⟩,k6⟩
 | [],_::_,_,_,_,h,_,_,_,_,_=>by simp [DataW.TrodAll] at h
 | [],[],_::_,_,_,h,_,_,_,_,_=>by simp [DataW.TrodAll] at h
 | _::_,[],_,_,_,h,_,_,_,_,_=>by simp [DataW.TrodAll] at h
 | _::_,_::_,[],_,_,h,_,_,_,_,_=>by simp [DataW.TrodAll] at h
def Rof.ext_below {h:Heap} (j:Rof h) {μ p:Mu} {h':Heap} {w':World} (f:Ext μ h w p h' w'):Below w.heap.size w w':=
 ⟨f.os,f.tape,f.output,f.size,fun k y=>f.frame k y fun A l _ _ B=>by
  have ⟨b,u,r⟩:=B;obtain ⟨cs,rfl⟩:=j.ro A b u;cases r⟩
def lBr {S:List TypeId} (K:plainB P S=true) {f:FuncId} {B:List TypeId} (J:∀ t∈B,t∈S) {l:List VTy} {F:gI l->Heap->Option (Bool×Heap)} (R:pC P f l (.val (.one .bool)) F)
  (p:∀ (h:Heap) (as:List AV) (ds:List (DataW H)),Rof h->RdArgs P h B as ds->∃ xs h',VTy.tos l xs=as/\F xs h=some (true,h'))
  {args:Array Value} {ds:List (DataW H)} {ps:List MemPlace} (Q:DataW.TrodAll enc P w 0 (fun _=>true) true B args.toList ds ps)
  (C:∀ (j:Nat) t v,B[j]? = some t->args[j]? = some v->Value.okWide P w .any bs t v) :
  Calls P f args w fun e w'=>e=.returned (.bool true)/\Below w.heap.size w w':=by
 have ⟨μ,h,as,_,_,U,r,L,I⟩:=aW K J Q (fun j t v y M=>C j t v y (by simpa using M)) (fun _=>none) jAg (mAw w) ⟨fun A b h=>(by cases h),fun A _=>by simp [jAg,Tr.get_nil]⟩;obtain ⟨xs,h',rfl,V⟩:=p h as ds r I;refine (R xs h true h' V μ w args U L).2.mono ?_;rintro e w' ⟨u,rfl,O,y,_,W⟩;simp only [Ty.to,VTy.to,CTy.to,VR] at y;exact ⟨by rw [y],r.ext_below W⟩
end
end Ai
namespace Ai
open Go.WideShapes Go.ChangeShapes Go.ChangeAt Go.RowKit
open Go.RowKit (Below)
variable {H:Type} {enc:TypeId×Value->H} {P:Program} {bs:Nat}
def tAs {w:List TypeId} {vars:List String} {apart:Bool} {W h:World} {vs:List Value} {ds u:List (DataW H)} {ps:List MemPlace} (y:DataW.Whole enc P w vars apart W vs ds u ps) (j:Below W.heap.size W h):∀ p∈ps,W.sameAt h p:=by
 intro p r;have f:=y.lt p r
 cases p with
 | cell b off=>exact j.cell (p:=⟨b,off,none⟩) f
 | map b=>exact j.block b f
def law_post {S:List TypeId} (hS:plainB P S=true) {f:Func} {s:ChangeSpec} {apart fresh u again:Bool} (O:∀ t∈f.params.toList,t∈S) (w:s.vars=[]) {n:Nat} (hn:f.params.toList.length=n)
  (B:∀ ds:List (DataW H),ds.length=n->s.fn H ds = { results:=[.lit (.bool true)],args:=ds }) {U:TypeId} (I:f.resultTypes.toList=[U]) (M:f.resultTypes.size=1) (L:P.underlying U=some .bool)
  {W:World} {args:Array Value} {ds gs:List (DataW H)} {before:List MemPlace} (Z:DataW.Whole enc P f.params.toList s.vars apart W args.toList ds gs before)
  {Q:World} (V:Below W.heap.size W Q)
  (K:∀ (j:Nat) (t:TypeId) (r:Value),f.resultTypes[j]? = some t->((Value.bool true).resultList f.resultTypes.size)[j]? = some r->Value.okWide P Q .any 0 t r) :
  s.post enc P f apart fresh u again W args (.bool true) Q:=by
 have C:=Z;obtain ⟨p,q,Y,X,rfl,a0,a1⟩:=Z;rw [w] at X;obtain ⟨rfl,rfl⟩:=trodVars_none X;have J:ds.length=n:=by
  have:∀ {F:List TypeId} {vs:List Value} {ds:List (DataW H)} {ps:List MemPlace},DataW.TrodAll enc P W 0 (fun _=>true) true F vs ds ps->ds.length=F.length:=by
   intro F
   induction F with
   | nil=>intro vs ds ps h;cases vs <;> cases ds <;> simp [DataW.TrodAll] at h ⊢
   | cons t F ih=>
    intro vs ds ps h;cases vs <;> cases ds <;> simp [DataW.TrodAll] at h ⊢;have ⟨_,_,_,h2,_⟩:=h;exact ih h2
  exact (this Y).trans hn
 have y:s.fn H (ds++[]) = { results:=[.lit (.bool true)],args:=ds }:=by rw [List.append_nil];exact B ds J
 have A:(Value.bool true).resultList f.resultTypes.size=[.bool true]:=by rw [M];rfl
 refine gAb (pa:=p) (pv:=[]) C ?_ ?_ ?_ rfl V K
 ·intro b sp hd
  rw [y,A,I];exact trodAll_cons_mk (shut_bool L _) trodAll_mk0
 ·intro sp hs
  rw [y];refine vV hS O Y (fun x R=>tAs C V x (by simp [R])) (fun x R=>hs x (by simp [R]))
 ·intro sp hs
  rw [y,w];rfl
end Ai
namespace Ai
open Go.ChangeShapes Go.WideShapes
section
variable {H:Type} {P:Program} {h h':Heap}
def Rd.str_inv {t:TypeId} {as:List AV} {d:DataW H} (r:P.underlying t=some .string) (j:Rd P h t as d):∃ s,as=[.str s]/\d=.lit (.string s)/\s.length<=9223372036854775807:=by
 cases j with
 | str p f=>exact ⟨_,rfl,rfl,f⟩
 | _=>simp_all
def SL.at (s:SL) (i n:Nat):Nat×Nat:=((s.a.getD (0,0)).1,(s.a.getD (0,0)).2+i * n)
def iA4 {β:Type} {s:SL} {i n:Nat} (r:s.a.isSome=true) (hi:i<s.len) (K:Nat×Nat->Option β):ixK s.a s.len (i:Int) n K=K (s.at i n):=by
 have p:Nat.blt i s.len=true:=by simpa [Nat.blt_eq] using hi
 have ⟨q,f⟩:=Option.isSome_iff_exists.1 r;show (match (Int.ofNat i) with | .ofNat j=>bif Nat.blt j s.len then vA s.a fun q=>K (q.1,q.2+j * n) else none | .negSucc _=>none)=_;simp only [p,xA,f,fA,SL.at,Option.getD_some]
def wB3:Option Blk->Option (List AV)
 | some (.row cs .own)=>some cs
 | some (.row cs .grown)=>some cs
 | some (.row cs (.bytes _))=>some cs
 | some (.row cs (.ty _))=>some cs
 | some (.row cs .ro)=>some cs
 | _=>none
theorem jA4 (b:Option Blk) (i:Nat):aAx b i=(wB3 b).bind fun cs=>cs[i]?:=by
 unfold aAx wB3
 split <;> simp [List.head?_drop]
def uAs (b:Option Blk) (i n:Nat):qAg b i n=(wB3 b).bind fun cs=>(takeN n (cs.drop i)).map AV.agg:=by
 unfold qAg wB3;split <;> simp
def Sees (h:Heap) (s:SL) (vs:List AV):Prop:=
 vs.length=s.len * s.sz/\(s.a=none->s.len=0)/\∀ A off,s.a=some (A,off)->A<h.next/\∃ cs,wB3 (h.g A)=some cs/\(cs.drop off).take vs.length=vs
def Sees.isSome {s:SL} {vs:List AV} (f:Sees h s vs) (p:0<s.len):s.a.isSome=true:=by
 cases j:s.a with
 | none=>have:=f.2.1 j;omega
 | some q=>rfl
structure Keep (B:Nat) (h h':Heap):Prop where
 g:∀ A,A<B->h'.g A=h.g A
 next:h.next<=h'.next
def Sees.nilS (h:Heap) (sz:Nat):Sees h ⟨none,0,0,sz⟩ []:=⟨by simp,fun _=>rfl,fun A off f=>by simp at f⟩
def RdArgs.cons_inv {t:TypeId} {r:List TypeId} {vs:List AV} {ds:List (DataW H)} (p:RdArgs P h (t::r) vs ds):∃ cs d f j,vs=qA7 P t cs::f/\ds=d::j/\Rd P h t cs d/\RdArgs P h r f j:=by
 match vs,ds with
 | a::f,d::j=>obtain ⟨⟨cs,rfl,w⟩,u⟩:=p;exact ⟨cs,d,f,j,rfl,rfl,w,u⟩
 | [],_=>simp [RdArgs] at p
 | _::_,[]=>simp [RdArgs] at p
def RdArgs.nil_inv {vs:List AV} {ds:List (DataW H)} (f:RdArgs P h [] vs ds):vs=[]/\ds=[]:=by
 match vs,ds with
 | [],[]=>exact ⟨rfl,rfl⟩
 | _::_,_=>simp [RdArgs] at f
 | [],_::_=>simp [RdArgs] at f
end
end Ai
namespace Ai
def SL.av (s:SL):AV:=.slice s.a s.len s.cap s.sz
def SL.blk (s:SL):Option Nat:=s.a.map (·.1)
section
variable {h h':Heap} {s:SL} {vs:List AV} {B:Nat}
structure But (o:Option Nat) (h h':Heap):Prop where
 g:∀ A,A<h.next->o≠some A->h'.g A=h.g A
 next:h.next<=h'.next
structure App1 (E:Env) (st e:TypeId):Prop where
 und:E.und st=some (.slice e)
 info:∃ i,E.info e=some i/\i.size=1/\i.bytes<=1000
 zero:∃ z,E.zero e=some z/\z.cells.length=1
theorem iI:∀ (n:Nat) (l:List AV),n<=l.length->takeN n l=some (l.take n)
 | 0,l,_=>by cases l <;> rfl
 | n+1,[],h=>by simp at h
 | n+1,x::r,h=>by simp only [takeN,iI n r (by simpa using h),List.take_succ_cons]
def jAp:∀ (n:Nat) (cs:List AV) (v:AV),n<cs.length->over n cs [v]=some (cs.set n v)
 | 0,c::cs,v,_=>by rw [lF,rG];rfl
 | n+1,c::cs,v,h=>by rw [uF,jAp n cs v (by simpa using h)];rfl
 | _,[],_,h=>by simp at h
end
end Ai
namespace Ai
section
variable {h h':Heap} {s x:SL} {vs ws:List AV} {B:Nat}
def bW:∀ (n:Nat) (cs ws:List AV),n+ws.length<=cs.length->over n cs ws=some (cs.take n++ws++cs.drop (n+ws.length))
 | n,cs,[],h=>by rw [rG];simp
 | 0,[],w::ws,h=>by simp at h
 | n+1,[],w::ws,h=>by simp at h
 | 0,c::cs,w::ws,h=>by
  rw [lF,bW 0 cs ws (by simpa using h)];simp
 | n+1,c::cs,w::ws,h=>by
  rw [uF,bW n cs (w::ws) (by simp at h ⊢;omega)];simp only [Option.map_some,List.take_succ_cons,List.cons_append,xJ,xF,List.cons.injEq,true_and];rw [show n+1+(ws.length+1)=(n+(ws.length+1))+1 by omega,List.drop_succ_cons]
theorem pAk (A:Nat) {cs:List AV} (f:wB3 (h.g A)=some cs):h.row A=some cs:=by
 unfold Heap.g at f;unfold Heap.row
 revert f
 cases h.t.get A with
 | none=>intro f;simp [wB3] at f
 | some b=>
  cases b with
  | row j st=>cases st <;> simp [wB3]
  | _=>intro f;simp [wB3] at f
end
end Ai
namespace Ai
section
variable {P:Program}
def fAx (P:Program) (f:FuncId) (l:List VTy) (t:Ty) (F:gI l->Heap->Option (t.den×Heap)):Prop:=
 ∀ xs h r h',F xs h=some (r,h')->∀ μ w (args':Array Value),HR μ h w->VRs μ (VTy.tos l xs) args'.toList->∃ u w',(callFunc f args').run P w=.ok (.value u) w'/\iB8 μ h w (t.to r) h' u w'
def kA4 {f:FuncId} {l:List VTy} {t:Ty} {F:gI l->Heap->Option (t.den×Heap)} {C:CallK} (K:fAx P f l t F) (H:CallKOK P C):CallKOK P (nK f l t F C):=by
 constructor
 ·intro β g args h k b j
  unfold nK at j
  cases p:Nat.beq g f with
  | true=>
   simp only [p,xA] at j;obtain ⟨xs,rfl,u⟩:=VTy.casts_spec j;have ⟨r,h',y,A⟩:=cJ u;refine ⟨t.to r,h',?_,A⟩;simp only [kF,nK,p,xA,VTy.casts_tos,y,jA]
  | false=>
   simp only [p,xB] at j;have ⟨v,h',u,y⟩:=H.nat j;exact ⟨v,h',by simp only [kF,nK,p,xB];exact u,y⟩
 ·intro g args h v h' j μ w args' J B
  simp only [kF,nK] at j
  cases p:Nat.beq g f with
  | true=>
   simp only [p,xA] at j;obtain ⟨xs,rfl,u⟩:=VTy.casts_spec j;have ⟨r,y,A,I⟩:=cJ u;simp only [xF,xI] at I;obtain ⟨rfl,rfl⟩:=I
   have:=xK p
   subst this;exact .inl (K xs h r y A μ w args' J B)
  | false=>
   simp only [p,xB] at j;exact H.ok g args h v h' j μ w args' J B
end
end Ai
namespace Ai
open Go.ChangeShapes Go.WideShapes
open Go.RowKit (Below)
section
variable {H:Type} {P:Program} {h:Heap}
def gBv {J:TypeId×Value->H} {w:World} {W:Nat} {S:List TypeId} (L:plainB P S=true) {f:FuncId} {B:List TypeId} (K:∀ t∈B,t∈S) {l:List VTy} {F:gI l->Heap->Option (Bool×Heap)} (V:pC P f l (.val (.one .bool)) F)
  {args:Array Value} {ds:List (DataW H)} {ps:List MemPlace}
  (p:∀ (h:Heap) (vs:List AV),Rof h->RdArgs P h B vs ds->∃ xs h',VTy.tos l xs=vs/\F xs h=some (true,h'))
  (U:DataW.TrodAll J P w 0 (fun _=>true) true B args.toList ds ps)
  (C:∀ (j:Nat) t v,B[j]? = some t->args[j]? = some v->Value.okWide P w .any W t v) :
  Calls P f args w fun e w'=>e=.returned (.bool true)/\Below w.heap.size w w':=by
 have ⟨μ,h,vs,_,O,X,r,M,I⟩:=aW L K U (fun j t v y Q=>C j t v y (by simpa using Q)) (fun _=>none) jAg (mAw w) ⟨fun A b h=>(by cases h),fun A _=>by simp [jAg,Tr.get_nil]⟩;obtain ⟨xs,h',rfl,Y⟩:=p h vs r I;refine (V xs h true h' Y μ w args X M).2.mono ?_;rintro e w' ⟨u,rfl,R,y,_,Z⟩;simp only [Ty.to,VTy.to,CTy.to,VR] at y;exact ⟨by rw [y],r.ext_below Z⟩
end
end Ai
namespace Ai
open Go.ChangeShapes Go.WideShapes
inductive D where
 | b (x:Bool) | i (n:Int) | s (x:List UInt8) | l (xs:List D) | t (xs:List D)
mutual
def Dt (h:Heap) (V:Nat->Prop):D->List AV->Prop
 | .b x,cs=>cs=[.bool x]
 | .i n,cs=>cs=[.int .i64 n]
 | .s x,cs=>cs=[.str x]
 | .l xs,cs=>∃ (s:SL) (vs:List AV),cs=[s.av]/\s.len=xs.length/\s.len<=s.cap/\(∀ A,s.blk=some A->V A)/\Sees h s vs/\De h V s.sz xs vs
 | .t xs,cs=>Dp h V xs cs
def Dp (h:Heap) (V:Nat->Prop):List D->List AV->Prop
 | [],cs=>cs=[]
 | x::r,cs=>∃ a b,cs=a++b/\Dt h V x a/\Dp h V r b
def De (h:Heap) (V:Nat->Prop) (n:Nat):List D->List AV->Prop
 | [],cs=>cs=[]
 | x::r,cs=>∃ a b,cs=a++b/\a.length=n/\Dt h V x a/\De h V n r b
end
structure Sl (h:Heap) (V:Nat->Prop) (s:SL) (xs:List D):Prop where
 len:s.len=xs.length
 cap:s.len<=s.cap
 blk:∀ A,s.blk=some A->V A
 els:∃ vs,Sees h s vs/\De h V s.sz xs vs
structure Chg (M:List Nat) (h h':Heap):Prop where
 g:∀ A,A<h.next->A ∉ M->h'.g A=h.g A
 next:h.next<=h'.next
 pins:h'.pins=h.pins
section
variable {h h' h'':Heap} {V W:Nat->Prop} {M N:List Nat}
def Chg.refl (M:List Nat) (h:Heap):Chg M h h:=⟨fun _ _ _=>rfl,xD _,rfl⟩
def Chg.trans (x:Chg M h h') (y:Chg M h' h''):Chg M h h'':=⟨fun A f j=>(y.g A (xW f x.next) j).trans (x.g A f j),xT x.next y.next,y.pins.trans x.pins⟩
def Chg.mono (x:Chg M h h') (p:∀ A,A∈M->A∈N:=by simp):Chg N h h':=⟨fun A f j=>x.g A f (fun e=>j (p A e)),x.next,x.pins⟩
def Chg.step (x:Chg N h h') (y:Chg M h' h'') (p:∀ A,A∈M->A<h.next->A∈N):Chg N h h'':=⟨fun A f j=>(y.g A (xW f x.next) (fun e=>j (p A e f))).trans (x.g A f j),xT x.next y.next,y.pins.trans x.pins⟩
def Chg.push (x:Chg M h h') (b:Blk):Chg M h (h'.push b):=⟨fun A f j=>(aQ b (by have:=x.next;omega)).trans (x.g A f j),by have:=x.next;simp;omega,x.pins⟩
def Chg.put (x:Chg M h h') {A:Nat} (p:A∈M\/h.next<=A) (b:Blk):Chg M h (h'.put A b):=⟨fun C f j=>(gAp b (fun e=>by
  grind)).trans (x.g C f j),x.next,x.pins⟩
def Sees.chg {s:SL} {vs:List AV} (x:Sees h s vs) (c:Chg M h h') (u:∀ A,s.blk=some A->A ∉ M:=by simp):Sees h' s vs:=by
 refine ⟨x.1,x.2.1,fun A off j=>?_⟩;have ⟨f,cs,p,r⟩:=x.2.2 A off j;exact ⟨xW f c.next,cs,by rw [c.g A f (u A (by simp [SL.blk,j]))];exact p,r⟩
mutual
theorem Dt.chg (c:Chg M h h') (f:∀ A,V A->A ∉ M):∀ {d:D} {cs:List AV},Dt h V d cs->Dt h' V d cs
 | .b _,_,x=>by simpa only [Dt] using x
 | .i _,_,x=>by simpa only [Dt] using x
 | .s _,_,x=>by simpa only [Dt] using x
 | .l xs,_,x=>by
  simp only [Dt] at x ⊢;have ⟨s,vs,r,p,B,j,u,w⟩:=x;exact ⟨s,vs,r,p,B,j,u.chg c fun A y=>f A (j A y),De.chg c f w⟩
 | .t xs,_,x=>by
  simp only [Dt] at x ⊢;exact Dp.chg c f x
theorem Dp.chg (c:Chg M h h') (f:∀ A,V A->A ∉ M):∀ {xs:List D} {cs:List AV},Dp h V xs cs->Dp h' V xs cs
 | [],_,x=>by simpa only [Dp] using x
 | d::r,_,x=>by
  simp only [Dp] at x ⊢;have ⟨a,b,p,j,u⟩:=x;exact ⟨a,b,p,Dt.chg c f j,Dp.chg c f u⟩
theorem De.chg (c:Chg M h h') (f:∀ A,V A->A ∉ M) {n:Nat}:∀ {xs:List D} {cs:List AV},De h V n xs cs->De h' V n xs cs
 | [],_,x=>by simpa only [De] using x
 | d::r,_,x=>by
  simp only [De] at x ⊢;have ⟨a,b,p,h0,j,u⟩:=x;exact ⟨a,b,p,h0,Dt.chg c f j,De.chg c f u⟩
end
mutual
theorem Dt.weak (j:∀ A,V A->A<h.next->W A):∀ {d:D} {cs:List AV},Dt h V d cs->Dt h W d cs
 | .b _,_,x=>by simpa only [Dt] using x
 | .i _,_,x=>by simpa only [Dt] using x
 | .s _,_,x=>by simpa only [Dt] using x
 | .l xs,_,x=>by
  simp only [Dt] at x ⊢;have ⟨s,vs,u,y,w,B,r,C⟩:=x;refine ⟨s,vs,u,y,w,fun A f=>j A (B A f) ?_,r,De.weak j C⟩
  cases p:s.a with
  | none=>simp [SL.blk,p] at f
  | some q=>have ⟨F,off⟩:=q;simp [SL.blk,p] at f;subst f;exact (r.2.2 _ off p).1
 | .t xs,_,x=>by
  simp only [Dt] at x ⊢;exact Dp.weak j x
theorem Dp.weak (f:∀ A,V A->A<h.next->W A):∀ {xs:List D} {cs:List AV},Dp h V xs cs->Dp h W xs cs
 | [],_,x=>by simpa only [Dp] using x
 | d::r,_,x=>by
  simp only [Dp] at x ⊢;have ⟨a,b,p,j,u⟩:=x;exact ⟨a,b,p,Dt.weak f j,Dp.weak f u⟩
theorem De.weak (f:∀ A,V A->A<h.next->W A) {n:Nat}:∀ {xs:List D} {cs:List AV},De h V n xs cs->De h W n xs cs
 | [],_,x=>by simpa only [De] using x
 | d::r,_,x=>by
  simp only [De] at x ⊢;have ⟨a,b,p,h0,j,u⟩:=x;exact ⟨a,b,p,h0,Dt.weak f j,De.weak f u⟩
end
def SL.av_inj {s t:SL} (h:s.av=t.av):s=t:=by
 have ⟨a,b,c,d⟩:=s;have ⟨f,j,p,r⟩:=t;simp [SL.av] at h;grind
def iBv {xs:List D} {cs:List AV}:Dt h V (.l xs) cs↔∃ s:SL,cs=[s.av]/\Sl h V s xs:=by
 simp only [Dt];constructor
 ·rintro ⟨s,vs,j,f,w,p,u,r⟩;exact ⟨s,j,f,w,p,vs,u,r⟩
 ·rintro ⟨s,j,f,w,p,vs,u,r⟩;grind
def kN {xs:List D} {s:SL}:Dt h V (.l xs) [s.av]↔Sl h V s xs:=by
 rw [iBv];constructor
 ·rintro ⟨t,f,j⟩;simp only [List.cons.injEq,and_true] at f;rw [SL.av_inj f];exact j
 grind
def Sl.chg {s:SL} {xs:List D} (x:Sl h V s xs) (c:Chg M h h') (f:∀ A,V A->A ∉ M:=by simp):Sl h' V s xs:=kN.1 (Dt.chg c f (kN.2 x))
def Sl.weak {s:SL} {xs:List D} (x:Sl h V s xs) (f:∀ A,V A->A<h.next->W A):Sl h W s xs:=kN.1 (Dt.weak f (kN.2 x))
theorem Sl.nil (h:Heap) (V:Nat->Prop) (z:Nat):Sl h V ⟨none,0,0,z⟩ []:=⟨rfl,xD _,fun A f=>by simp [SL.blk] at f,[],Sees.nilS h z,by simp [De]⟩
def Sl.lt {s:SL} {xs:List D} (x:Sl h V s xs):∀ A,s.blk=some A->A<h.next:=by
 intro A f;have ⟨vs,p,_⟩:=x.els
 cases j:s.a with
 | none=>simp [SL.blk,j] at f
 | some q=>have ⟨r,off⟩:=q;simp [SL.blk,j] at f;subst f;exact (p.2.2 _ off j).1
mutual
theorem Dt.single:∀ {d:D} {cs:List AV},Dt h V d cs->∀ v∈cs,AV.single v=true
 | .b _,_,x=>by grind [Dt,AV.single]
 | .i _,_,x=>by grind [Dt,AV.single]
 | .s _,_,x=>by grind [Dt,AV.single]
 | .l xs,_,x=>by
  grind [Dt,SL.av,AV.single]
 | .t xs,_,x=>by
  simp only [Dt] at x;exact Dp.single x
theorem Dp.single:∀ {xs:List D} {cs:List AV},Dp h V xs cs->∀ v∈cs,AV.single v=true
 | [],_,x=>by simp only [Dp] at x;subst x;simp
 | d::r,_,x=>by
  simp only [Dp] at x;obtain ⟨a,b,rfl,j,p⟩:=x;intro v f;rcases List.mem_append.1 f with f | f
  ·exact Dt.single j v f
  ·exact Dp.single p v f
end
def De.length {n:Nat}:∀ {xs:List D} {vs:List AV},De h V n xs vs->vs.length=xs.length * n
 | [],vs,x=>by simp only [De] at x;subst x;simp
 | d::r,vs,x=>by
  simp only [De] at x;obtain ⟨a,b,rfl,h0,_,f⟩:=x;rw [xN,h0,De.length f,xJ,Nat.succ_mul,Nat.add_comm]
def De.at {n:Nat}:∀ {xs:List D} {vs:List AV},De h V n xs vs->∀ (i:Nat) (hi:i<xs.length),∃ cs,cs.length=n/\Dt h V xs[i] cs/\∃ rest,vs.drop (i * n)=cs++rest
 | d::r,vs,x,0,_=>by
  simp only [De] at x
  grind
 | d::r,vs,x,i+1,hi=>by
  simp only [De] at x;obtain ⟨a,b,rfl,h0,w,u⟩:=x;have ⟨cs,j,p,rest,f⟩:=De.at u i (by simpa using hi);refine ⟨cs,j,p,rest,?_⟩;rw [Nat.succ_mul,List.drop_append,List.drop_eq_nil_of_le (by omega),List.nil_append,h0,Nat.add_sub_cancel];exact f
def De.snoc {n:Nat}:∀ {xs:List D} {vs:List AV},De h V n xs vs->∀ {x:D} {cs:List AV},Dt h V x cs->cs.length=n->De h V n (xs++[x]) (vs++cs)
 | [],vs,f,x,cs,p,j=>by
  simp only [De] at f;subst f;simp only [List.nil_append,De]
  grind
 | d::r,vs,f,x,cs,p,j=>by
  simp only [De] at f;obtain ⟨a,b,rfl,h0,w,u⟩:=f;simp only [List.cons_append,De];exact ⟨a,b++cs,by simp,h0,w,De.snoc u p j⟩
structure Elt (h:Heap) (V:Nat->Prop) (q:Nat×Nat) (n:Nat) (x:D) (cs:List AV):Prop where
 len:cs.length=n
 dt:Dt h V x cs
 cells:∀ j m,j+m<=n->h.cells (q.1,q.2+j) m=some (.agg ((cs.drop j).take m))
 cell:∀ j,j<n->h.cell (q.1,q.2+j)=cs[j]?
def Sl.elt {s:SL} {xs:List D} (x:Sl h V s xs) {i:Nat} (hi:i<xs.length):∃ cs,Elt h V (s.at i s.sz) s.sz xs[i] cs:=by
 have ⟨vs,Q,u⟩:=x.els;have ⟨cs,F,J,rest,R⟩:=u.at i hi;have y:i<s.len:=by rw [x.len];exact hi
 have B:=u.length;have ⟨U,C,H⟩:=Q
 cases p:s.a with
 | none=>have:=C p;omega
 | some q=>
  have ⟨A,off⟩:=q;have ⟨_,w,r,O⟩:=H A off p;have I:i * s.sz+s.sz<=s.len * s.sz:=by rw [<- Nat.succ_mul];exact Nat.mul_le_mul_right _ y
  have f:((w.drop off).take vs.length).length=vs.length:=by rw [O]
  rw [List.length_take,List.length_drop] at f;have hd:∀ j,j<=s.sz->((w.drop (off+i * s.sz+j)).take (s.sz-j))=cs.drop j:=by
   intro j K;have S:(vs.drop (i * s.sz+j)).take (s.sz-j)=cs.drop j:=by
    rw [<- List.drop_drop,R,List.drop_append_of_le_length (by omega),List.take_append_of_le_length (by grind),List.take_of_length_le (by grind)]
   grind [List.drop_take,List.drop_drop,Nat.min_eq_left,Nat.add_assoc]
  refine ⟨cs,F,J,fun j m L=>?_,fun j K=>?_⟩
  ·simp only [SL.at,p,Option.getD_some,Heap.cells_g,uAs,r,Option.bind_some]
   rw [iI _ _ (by grind)]
   grind
  ·simp only [SL.at,p,Option.getD_some,Heap.cell_g,jA4,r,Option.bind_some]
   have:=congrArg (fun l=>l[0]?) (hd j (by omega))
   grind
def Sl.isSome {s:SL} {xs:List D} (x:Sl h V s xs) (j:0<xs.length):s.a.isSome=true:=by
 have ⟨vs,f,_⟩:=x.els;exact f.isSome (by rw [x.len];exact j)
def Sl.ix {s:SL} {xs:List D} (x:Sl h V s xs) {i:Nat} (hi:i<xs.length) {β:Type} (n:Nat) (K:Nat×Nat->Option β):ixK s.a s.len (i:Int) n K=K (s.at i n):=
 iA4 (x.isSome (by omega)) (by rw [x.len];exact hi) K
def Elt.whole {q:Nat×Nat} {n:Nat} {x:D} {cs:List AV} (e:Elt h V q n x cs):h.cells q n=some (.agg cs):=by
 have:=e.cells 0 n (by omega)
 rw [List.drop_zero,List.take_of_length_le (by rw [e.len];exact xD _)] at this;exact this
end
end Ai
namespace Ai
def AppN (E:Env) (st e:TypeId) (n W:Nat):Prop:=E.und st=some (.slice e)/\(∃ i,E.info e=some i/\i.size=n/\i.bytes+i.size+1<=W)/\∃ z,E.zero e=some z/\z.cells.length=n
def cBj (E:Env) (st e:TypeId) (n W:Nat):Bool:=
 match E.und st with
 | some (.slice e')=>Nat.beq e' e&&(match E.info e with | some i=>Nat.beq i.size n&&Nat.ble (i.bytes+i.size+1) W | none=>false)&&(match E.zero e with | some z=>Nat.beq z.cells.length n | none=>false)
 | _=>false
def AppN.of {E:Env} {st e:TypeId} {n W:Nat} (h:cBj E st e n W=true):AppN E st e n W:=by
 unfold cBj at h
 split at h
 ·rename_i e' r
  simp only [xG] at h;have ⟨⟨j,f⟩,p⟩:=h;have j:=xK j;subst j;refine ⟨r,?_,?_⟩
  ·split at f
   ·rename_i i hi
    simp only [xG,Nat.ble_eq] at f;exact ⟨i,hi,xK f.1,f.2⟩
   ·cases f
  ·split at p
   ·rename_i z u;exact ⟨z,u,xK p⟩
   ·cases p
 ·cases h
def Ow (B:Nat) (h:Heap) (s:SL) (n:Nat) (xs:List D):Prop:=
 (s.a=none/\s.len=0/\s.cap=0/\xs=[])\/
 ∃ A cs st vs,s.a=some (A,0)/\s.sz=n/\B<=A/\A<h.next/\h.g A=some (.row cs st)/\s.len=xs.length/\cs.take vs.length=vs/\De h (fun C=>B<=C/\C≠A) n xs vs/\s.len<=s.cap/\(st=.grown\/(st=.own/\s.cap * n=cs.length))
section
variable {E:Env} {B:Nat} {h h':Heap} {s:SL} {n:Nat} {xs:List D} {M:List Nat}
def Ow.nil (B:Nat) (h:Heap) (z n:Nat):Ow B h ⟨none,0,0,z⟩ n []:=.inl ⟨rfl,rfl,rfl,rfl⟩
def Ow.len (x:Ow B h s n xs):s.len=xs.length:=by
 rcases x with ⟨_,f,_,rfl⟩ | ⟨A,cs,st,vs,_,_,_,_,_,f,_⟩
 ·exact f
 ·exact f
def Ow.ge (x:Ow B h s n xs):∀ A,s.blk=some A->B<=A/\A<h.next:=by
 intro A j;rcases x with ⟨f,_⟩ | ⟨u,cs,st,vs,f,_,r,p,_⟩
 ·simp [SL.blk,f] at j
 ·simp [SL.blk,f] at j;subst j;exact ⟨r,p⟩
def Ow.sl (x:Ow B h s n xs):Sl h (fun C=>B<=C) s xs:=by
 rcases x with ⟨j,p,F,rfl⟩ | ⟨A,cs,st,vs,j,p,F,K,H,w,I,y,L,u⟩
 ·exact ⟨p,by omega,fun A J=>by simp [SL.blk,j] at J,[],⟨by simp [p],fun _=>p,fun A off f=>by rw [j] at f;cases f⟩,by simp [De]⟩
 ·refine ⟨w,L,fun C r=>?_,vs,⟨?_,fun f=>(by rw [j] at f;cases f),fun O off f=>?_⟩,?_⟩
  ·simp [SL.blk,j] at r;subst r;exact F
  ·rw [y.length,w,p]
  ·rw [j] at f
   simp only [xF,xI] at f;obtain ⟨rfl,rfl⟩:=f;refine ⟨K,cs,?_,by rw [List.drop_zero];exact I⟩;rw [H];rcases u with rfl | ⟨rfl,_⟩ <;> rfl
  ·rw [p];exact De.weak (fun C r _=>r.1) y
def Ow.chg (x:Ow B h s n xs) (c:Chg M h h') (K:∀ A∈M,A<B\/h.next<=A:=by simp):Ow B h' s n xs:=by
 rcases x with p | ⟨A,cs,st,vs,p,I,y,u,F,L,J,O,Q⟩
 ·exact .inl p
 ·have j:∀ C,B<=C->C<h.next->C ∉ M:=fun C f w H=>by rcases K C H with q | q <;> omega
  refine .inr ⟨A,cs,st,vs,p,I,y,xW u c.next,by rw [c.g A u (j A y u)];exact F,L,J,?_,Q⟩;have r:De h (fun C=>(B<=C/\C≠A)/\C<h.next) n xs vs:=De.weak (fun C f w=>⟨f,w⟩) O;exact De.weak (fun C f _=>f.1) (De.chg c (fun C f=>j C f.1.1 f.2) r)
theorem lA4 (cs f:List AV) (k:Nat) (j:k+f.length<=cs.length):over k cs f=some (cs.take k++f++cs.drop (k+f.length)):=bW k cs f j
def mA4 {st e:TypeId} {W:Nat} (ha:AppN E st e n W) (hn:0<n) (x:Ow B h s n xs) {d:D} {cs:List AV} (hd:Dt h (fun C=>B<=C/\s.blk≠some C) d cs) (L:cs.length=n) (hB:B<=h.next) (R:(xs.length+1) * W<=1073741824) :
  ∃ S h',nB E st st (.slice s.a s.len s.cap s.sz) (.slice (some (h.next,0)) 1 1 n) (h.push (.row cs .own))=some (.slice S.a S.len S.cap S.sz,h')/\Ow B h' S n (xs++[d])/\Chg (s.blk.toList) h h'/\(∀ A,S.blk=some A->s.blk=some A\/h.next<=A):=by
 have ⟨hu,⟨i,hi,J,a8⟩,⟨z,hz,a1⟩⟩:=ha;have hr:(h.push (.row cs .own)).read h.next 0 (1 * n)=some cs:=by
  have:(h.push (.row cs .own)).row h.next=some cs:=(Heap.is_push h cs).row
  simp only [Heap.read,this,List.drop_zero,Nat.one_mul];rw [iI _ _ (by omega),List.take_of_length_le (by omega)]
 have a6:=x.len;have j:Nat.ble ((s.len+1) * (i.bytes+i.size+1)) bA3=true:=by
  have w:(s.len+1) * (i.bytes+i.size+1)<=(xs.length+1) * W:=Nat.mul_le_mul (by omega) (by omega);simp only [bA3,Nat.ble_eq];omega
 have Y:(Nat.beq s.sz i.size||s.a.isNone)=true:=by
  rcases x with ⟨w,_⟩ | ⟨A,cs,V,vs,w,h2,_⟩
  ·simp [w]
  ·simp [J,h2]
 have X:cs.all AV.single=true:=by rw [List.all_eq_true];exact hd.single
 have key:∀ K,jM (h.push (.row cs .own)) s.a s.len s.cap n 1 cs=K->nB E st st (.slice s.a s.len s.cap s.sz) (.slice (some (h.next,0)) 1 1 n) (h.push (.row cs .own))=K:=by
  intro K hK;have a0:Nat.beq z.cells.length i.size=true:=by rw [a1,J];exact Nat.beq_refl _
  have Z:Nat.beq cs.length (1 * i.size)=true:=by rw [J,L,Nat.one_mul];exact Nat.beq_refl _
  simp only [nB,hu,wS,bZ,xB,hi,hz,iM,yD];rw [J] at j Y a0 Z ⊢;simp only [hr,show Nat.beq 1 0=false from rfl,xB,j,Y,a0,Z,X,Bool.and_self,xA];exact hK
 have a2:Dt h (fun C=>(B<=C/\s.blk≠some C)/\C<h.next) d cs:=hd.weak fun C f R=>⟨f,R⟩;rcases x with ⟨w,h2,h3,rfl⟩ | ⟨A,u,V,vs,w,h2,h3,h4,h5,h6,h7,h8,h9,I⟩
 ·have c0:Chg [] h ((h.push (.row cs .own)).push (.row cs .grown)):=((Chg.refl [] h).push _).push _
  refine ⟨⟨some (h.next+1,0),1,1,n⟩,(h.push (.row cs .own)).push (.row cs .grown),key _ (by simp only [jM,w,h2];rfl),.inr ⟨h.next+1,cs,.grown,cs,rfl,rfl,by omega,by simp,iG _ rfl,rfl,by simp,?_,xD _,.inl rfl⟩,c0.mono (by simp),fun A hA=>.inr (by simp [SL.blk] at hA;omega)⟩;simp only [List.nil_append,De];exact ⟨cs,[],by simp,L,Dt.weak (fun C f _=>⟨f.1.1,by omega⟩) (Dt.chg c0 (by simp) a2),rfl⟩
 ·have U:=h8.length
  have p:s.blk=some A:=by simp [SL.blk,w]
  have a7:vs.length<=u.length:=by
   have:(u.take vs.length).length=vs.length:=by rw [h7]
   rw [List.length_take] at this;omega
  have hg:(h.push (.row cs .own)).t.get A=some (.row u V):=by
   have:=aQ (h:=h) (A:=A) (.row cs .own) (by omega)
   unfold Heap.g at this h5;rw [this,h5]
  have a3:De h (fun C=>(B<=C/\C≠A)/\C<h.next) n xs vs:=De.weak (fun C f R=>⟨f,R⟩) h8;have a4:Dt h (fun C=>(B<=C/\C≠A)/\C<h.next) d cs:=Dt.weak (fun C f R=>⟨⟨f.1,fun e=>f.2 (by rw [p,e])⟩,R⟩) hd;have r:=a3.snoc a4 L;have Q:takeN (s.len * n) u=some vs:=by rw [iI _ _ (by rw [h6];omega),h6,<- U,h7]
  have fresh:∀ H:Heap,H.next=h.next+1->Chg [A] h H->Ow B (H.push (.row (vs++cs) .grown)) ⟨some (h.next+1,0),s.len+1,s.len+1,n⟩ n (xs++[d]):=by
   intro H hH y;refine .inr ⟨h.next+1,vs++cs,.grown,vs++cs,rfl,rfl,by omega,by simp [hH],iG _ hH.symm,by simp [h6],List.take_of_length_le (xD _),?_,xD _,.inl rfl⟩;exact De.weak (fun C f _=>⟨f.1.1,by omega⟩) (De.chg (y.push _) (fun C f=>by simp;exact f.1.2) r)
  rcases I with rfl | ⟨rfl,I⟩
  ·have y:Chg [A] h ((h.push (.row cs .own)).put A (.row u .dead)):=((Chg.refl [A] h).push _).put (.inl (by simp)) _
   refine ⟨⟨some (h.next+1,0),s.len+1,s.len+1,n⟩,((h.push (.row cs .own)).put A (.row u .dead)).push (.row (vs++cs) .grown),key _ ?_,fresh _ rfl y,(y.push _).mono (by simp [p]),fun C f=>.inr (by simp [SL.blk] at f;omega)⟩;simp only [jM,w,hg,List.drop_zero,Q];rfl
  ·by_cases hc:s.len+1<=s.cap
   ·have O:Nat.ble (s.len+1) s.cap=true:=by simpa using hc
    have F:s.len * n+cs.length<=u.length:=by
     rw [L,<- Nat.succ_mul,<- I];exact Nat.mul_le_mul_right _ hc
    have a5:=lA4 u cs (s.len * n) F;have y:Chg [A] h ((h.push (.row cs .own)).put A (.row (u.take (s.len * n)++cs++u.drop (s.len * n+cs.length)) .own)):=((Chg.refl [A] h).push _).put (.inl (by simp)) _;have e1:u.take (s.len * n)=vs:=by rw [h6,<- U,h7]
    refine ⟨⟨some (A,0),s.len+1,s.cap,n⟩,_,key _ ?_,.inr ⟨A,_,.own,vs++cs,rfl,rfl,h3,by simp;omega,jN _ rfl,by simp [h6],?_,?_,hc,.inr ⟨rfl,?_⟩⟩,y.mono (by simp [p]),fun C f=>.inl (by simp [SL.blk] at f;rw [p,f])⟩
    ·simp only [jM,w,hg,List.drop_zero,Q,O,xA,xC,a5]
    ·rw [e1,xY,<- xY,List.take_append_of_le_length (xD _),List.take_of_length_le (xD _)]
    ·exact De.weak (fun C f _=>f.1) (De.chg y (fun C f=>by simp;exact f.1.2) r)
    ·show s.cap * n=_
     rw [I];simp only [xN,List.length_take,List.length_drop];omega
   ·have O:Nat.ble (s.len+1) s.cap=false:=by
     cases hx:Nat.ble (s.len+1) s.cap
     ·rfl
     ·exact absurd (by simpa using hx) hc
    have y:Chg [A] h (h.push (.row cs .own)):=(Chg.refl [A] h).push _;refine ⟨⟨some (h.next+1,0),s.len+1,s.len+1,n⟩,(h.push (.row cs .own)).push (.row (vs++cs) .grown),key _ ?_,fresh _ rfl y,(y.push _).mono (by simp [p]),fun C f=>.inr (by simp [SL.blk] at f;omega)⟩;simp only [jM,w,hg,List.drop_zero,Q,O,xB];rfl
end
end Ai
namespace Ai
def Heap.own (h:Heap) (A:Nat) (cs:List AV):Prop:=h.g A=some (.row cs .own)/\A<h.next
section
variable {h h':Heap} {A:Nat} {cs vs:List AV} {M:List Nat}
def wA (h:Heap) (cs:List AV):(h.push (.row cs .own)).own h.next cs:=⟨iG _ rfl,xP _⟩
theorem kB (x:h.own A cs) (vs:List AV):(h.put A (.row vs .own)).own A vs:=⟨jN _ rfl,x.2⟩
def Heap.own.chg (x:h.own A cs) (c:Chg M h h') (f:A ∉ M:=by simp):h'.own A cs:=⟨(c.g A x.2 f).trans x.1,xW x.2 c.next⟩
def Heap.own.cell (x:h.own A cs) (j:Nat):h.cell (A,j)=cs[j]?:=by
 rw [Heap.cell_g,x.1,cAx,List.head?_drop]
def Heap.own.cells (x:h.own A cs) {j m:Nat} (f:j+m<=cs.length):h.cells (A,j) m=some (.agg ((cs.drop j).take m)):=by
 rw [Heap.cells_g,x.1,rAs,iI _ _ (by rw [List.length_drop];omega)];rfl
def Heap.own.store (x:h.own A cs) (f:vs.length=cs.length):h.store (A,0) vs=some (h.put A (.row vs .own)):=by
 rw [Heap.store_g,x.1,dY,bW 0 cs vs (by omega)];simp [List.drop_of_length_le (show cs.length<=vs.length by omega)]
def Heap.own.store1 (x:h.own A cs) {j:Nat} (f:j<cs.length) (v:AV):h.store (A,j) [v]=some (h.put A (.row (cs.set j v) .own)):=by
 rw [Heap.store_g,x.1,dY,jAp _ _ _ f];rfl
def Heap.own.put (x:h.own A cs) (vs:List AV):Chg [A] h (h.put A (.row vs .own)):=(Chg.refl [A] h).put (.inl (by simp)) _
def uA (h:Heap) (b:Blk):Chg [] h (h.push b):=(Chg.refl [] h).push b
def dB {A B β:Type} (p:A×Heap) (f:A->Heap->β) (g:B->β):mC (Sum.inl p) f g=f p.1 p.2:=rfl
def rB {A B β:Type} (b:B) (f:A->Heap->β) (g:B->β):mC (Sum.inr b:Sum (A×Heap) B) f g=g b:=rfl
end
end Ai
namespace Ai
open Go.ChangeShapes Go.WideShapes Go.RowKit
def law_from {H:Type} {M:TypeId×Value->H} {P:Program} {w:World} {bs:Nat} {S:List TypeId} (R:plainB P S=true) {f:FuncId} {I:List TypeId} (O:∀ t∈I,t∈S) {l:List VTy} {F:gI l->Heap->Option (Bool×Heap)} (Z:pC P f l (.val (.one .bool)) F)
  {p:Mu} {B:Heap} (Q:HR p B w) (A:Rof B) {args:Array Value} {ds:List (DataW H)} {ps:List MemPlace}
  (r:∀ (h:Heap) (vs:List AV),Rof h->HLe B h->RdArgs P h I vs ds->∃ xs h',VTy.tos l xs=vs/\F xs h=some (true,h'))
  (Y:DataW.TrodAll M P w 0 (fun _=>true) true I args.toList ds ps)
  (J:∀ (j:Nat) t v,I[j]? = some t->args[j]? = some v->Value.okWide P w .any bs t v) :
  Calls P f args w fun e w'=>e=.returned (.bool true)/\Below w.heap.size w w':=by
 have ⟨μ,h,vs,_,L,hr,y,U,K⟩:=aW R O Y (fun j t v C W=>J j t v C (by simpa using W)) p B Q A;obtain ⟨xs,h',rfl,hx⟩:=r h vs y L K;refine (Z xs h true h' hx μ w args hr U).2.mono ?_;rintro e w' ⟨u,rfl,X,C,_,V⟩;simp only [Ty.to,VTy.to,CTy.to,VR] at C;exact ⟨by rw [C],y.ext_below V⟩
end Ai
end Go.Proofs.YtkcjphhjmlienaaGreatDoor
