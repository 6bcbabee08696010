import Derived.Test.YtkcjphhjmlienaaGreatDoorXQp3
import Derived.Test.YtkcjphhjmlienaaGreatDoorXQp1
import Derived.Test.YtkcjphhjmlienaaGreatDoorProg
import Derived.Test.YtkcjphhjmlienaaGreatDoorAi2
import Derived.Test.YtkcjphhjmlienaaGreatDoorXQp2
import Derived.Test.YtkcjphhjmlienaaGreatDoorRows
import Derived.LaidMore
import Derived.LaidHandle
import Derived.Stop.LaidErr
/- Functions of the program as plain functions, and what they come to; part 4. -/
namespace Go.Proofs.YtkcjphhjmlienaaGreatDoor
set_option linter.unusedVariables false
set_option linter.unusedSimpArgs false
open Go Ai Go.Proofs
namespace Qp
def bl1 (r:Bs):Prop:=r=[]∨∃ c q,r=c::q∧tJ c=true
theorem wB6 {r:Bs} (h:bl1 r):brk r:=by
 rcases h with rfl | ⟨c,q,rfl,hb⟩
 ·rfl
 ·simp only [tJ,Bool.or_eq_true,decide_eq_true_eq] at hb
  have h1:eD c=false:=by simp only [eD,Bool.or_eq_false_iff,decide_eq_false_iff_not];omega
  have h2:jD c=false:=by simp only [jD,decide_eq_false_iff_not];omega
  show (eD c||jD c)=false;rw [h1,h2];rfl
theorem gAa:∀ {t r:Bs},brk r→runN (t++r)=runN t
 | [],r,h=>by
  cases r with
  | nil=>rfl
  | cons c q=>
   have:fS c=false:=h
   simp [runN,this]
 | c::t,r,h=>by
  simp only [List.cons_append,runN]
  split
  ·rw [gAa (t:=t) h]
  ·rfl
theorem fA0:∀ (t:Bs),runN t≤t.length
 | []=>Nat.le_refl _
 | c::t=>by
  simp only [runN,List.length_cons]
  have:=fA0 t
  split <;> omega
theorem jAy {t r x:Bs} {k:Int} {n:Nat} (h:lF t=some (k,x,n)) (hr:bl1 r):lF (t++r)=some (k,x,n):=by
 have hb:=wB6 hr
 cases t with
 | nil=>cases h
 | cons c q=>
  have tk1:∀ m,m≤(c::q).length→(c::(q++r)).take m=(c::q).take m:=fun m hm=>by
   have:=List.take_append_of_le_length (l₂:=r) hm
   rwa [List.cons_append] at this
  have er:runN (c::(q++r))=runN (c::q):=by
   have:=gAa (t:=c::q) hb
   rwa [List.cons_append] at this
  rw [List.cons_append];rw [lF] at h ⊢
  split at h
  ·rename_i h1
   rw [if_pos h1];simp only [tW,er,tk1 _ (fA0 _)] at h ⊢;exact h
  ·rename_i h1
   rw [if_neg h1]
   split at h
   ·rename_i h2
    rw [if_pos h2];simp only [cA6,er,tk1 _ (fA0 _)] at h ⊢;exact h
   ·rename_i h2
    rw [if_neg h2]
    split at h
    ·rename_i h3
     rw [if_pos h3];simp only [uW] at h ⊢;have hq:cM eD (q++r)=cM eD q:=by
      cases q with
      | nil=>
       split at h
       ·rename_i h4;cases h4
       ·cases h
      | cons d q=>rfl
     rw [hq,gAa hb,List.take_append_of_le_length (fA0 _)];exact h
    ·rename_i h3
     rw [if_neg h3];have hf:∀ p:Bs,(∃ a b,p=[a,b]∧tJ b=false)→eY p (c::(q++r))=eY p (c::q):=fun p ⟨a,b,hp,hbb⟩=>by
      subst hp
      cases q with
      | cons d q=>simp [eY]
      | nil=>
       have e2:eY [a,b] [c]=false:=by simp [eY]
       rw [e2];rcases hr with rfl | ⟨e,w,rfl,he⟩
       ·simp [eY]
       ·cases e3:eY [a,b] (c::([]++e::w)) with
        | false=>rfl
        | true=>
         have:=(kU e3).1
         simp only [List.nil_append,List.length_cons,List.length_nil,List.take_succ_cons,List.take_zero,List.cons.injEq,and_true] at this;rw [this.2,hbb] at he;cases he
     have f1:=hf [58,58] ⟨_,_,rfl,rfl⟩;have f2:=hf [45,62] ⟨_,_,rfl,rfl⟩;have f3:=hf [61,61] ⟨_,_,rfl,rfl⟩;simp only [dM,two,iA2,f1,f2,f3] at h ⊢;exact h
theorem fBe {l' l:List Tok} {m' m:Nat} (h:l'.map kt=l.map kt):Al (l'++[(0,[],m')]) (l++[(0,[],m)]) 0:=fun i=>by
 have e:(l'++[(0,[],m')]).map kt=(l++[(0,[],m)]).map kt:=by rw [List.map_append,List.map_append,h];rfl
 have e2:kt (tk (l'++[(0,[],m')]) i)=kt (tk (l++[(0,[],m)]) i):=by
  have:=congrArg (fun q=>q.getD i (0,[])) e
  simp only [List.getD_eq_getElem?_getD,List.getElem?_map] at this;simp only [tk,List.getD_eq_getElem?_getD]
  cases h1:(l'++[(0,[],m')])[i]? with
  | none=>cases h2:(l++[(0,[],m)])[i]? with
   | none=>rfl
   | some y=>rw [h1,h2] at this;exact this
  | some x=>cases h2:(l++[(0,[],m)])[i]? with
   | none=>rw [h1,h2] at this;exact this
   | some y=>rw [h1,h2] at this;exact this
 rw [Nat.add_zero];have e3:=congrArg Prod.fst e2;have e4:=congrArg Prod.snd e2;exact ⟨e3,e4⟩
end Qp
namespace Qp
theorem tV (r:Bs):∀ (t:Bs) (b:Bool),(t.drop (fC b t)=[]→fC b (t++10::r)=t.length+1+fC false r)∧(t.drop (fC b t)≠[]→fC b (t++10::r)=fC b t)
 | [],b=>by
  refine ⟨fun _=>?_,fun h=>(h (by simp)).elim⟩;cases b <;> simp [fC,tJ] <;> omega
 | c::q,true=>by
  obtain ⟨h1,h2⟩:=tV r q true;obtain ⟨h3,h4⟩:=tV r q false;simp only [List.cons_append,fC]
  split
  ·simp only [List.drop_succ_cons,List.length_cons]
   exact ⟨fun h=>by have:=h3 h;omega,fun h=>by have:=h4 h;omega⟩
  ·simp only [List.drop_succ_cons,List.length_cons]
   exact ⟨fun h=>by have:=h1 h;omega,fun h=>by have:=h2 h;omega⟩
 | c::q,false=>by
  obtain ⟨h1,h2⟩:=tV r q true;obtain ⟨h3,h4⟩:=tV r q false;have hp:eY [47,47] (c::(q++10::r))=eY [47,47] (c::q):=by
   cases q with
   | cons d q=>simp [eY]
   | nil=>
    have e2:eY [47,47] [c]=false:=by simp [eY]
    rw [e2]
    cases e3:eY [47,47] (c::([]++10::r)) with
    | false=>rfl
    | true=>
     have:=(kU e3).1
     simp at this
  simp only [List.cons_append,fC,hp]
  split
  ·simp only [List.drop_succ_cons,List.length_cons]
   exact ⟨fun h=>by have:=h3 h;omega,fun h=>by have:=h4 h;omega⟩
  ·split
   ·simp only [List.drop_succ_cons,List.length_cons]
    exact ⟨fun h=>by have:=h1 h;omega,fun h=>by have:=h2 h;omega⟩
   ·exact ⟨fun h=>by simp at h,fun _=>rfl⟩
theorem cAo {r:Bs} {kb:List KT} (hr:LxB r kb):∀ (M:Nat) (t:Bs) (a:Nat) (l:List Tok),eA4 M (t.drop (fC false t)) a=.inl l→LxB (t++10::r) (l.map kt++kb):=by
 intro M
 induction M with
 | zero=>intro t a l h;cases h
 | succ M ih=>
  intro t a l h;obtain ⟨b1,b2⟩:=tV r t false;have hle:=jO t false
  cases hu:t.drop (fC false t) with
  | nil=>
   rw [hu] at h;simp only [eA4,Sum.inl.injEq] at h;subst h;have e:=b1 hu;unfold LxB at hr ⊢;have e2:(t++10::r).drop (fC false (t++10::r))=r.drop (fC false r):=by
    rw [e,show t.length+1+fC false r=t.length+(fC false r+1) by omega,List.drop_append,List.drop_of_length_le (by omega),Nat.add_sub_cancel_left,List.drop_succ_cons,List.nil_append]
   rw [e2];exact hr
  | cons c q=>
   rw [hu] at h;have e:=b2 (by rw [hu];simp);simp only [eA4] at h
   split at h
   ·cases h
   ·rename_i k x n hx
    split at h
    ·rename_i l' hl
     simp only [Sum.inl.injEq] at h;subst h;have hn:=kO hx
     have:=ih ((c::q).drop n) _ l' (by rw [List.drop_drop];exact hl)
     unfold LxB;rw [e,List.drop_append_of_le_length hle,hu];refine Lx.cons (jAy hx (.inr ⟨10,r,rfl,rfl⟩)) ?_;rw [List.drop_append_of_le_length hn.2];exact this
    ·cases h
theorem gBe {N:Nat} {s:Bs} {l:List Tok} (h:eA4 N (s.drop (fC false s)) (fC false s)=.inl l):LxB s (l.map kt):=by
 have key:∀ (M:Nat) (t:Bs) (a:Nat) (l:List Tok),eA4 M t a=.inl l→Lx t (l.map kt):=by
  intro M
  induction M with
  | zero=>intro t a l h;cases h
  | succ M ih=>
   intro t a l h
   cases t with
   | nil=>
    simp only [eA4,Sum.inl.injEq] at h;subst h;exact Lx.nil
   | cons c q=>
    simp only [eA4] at h
    split at h
    ·cases h
    ·rename_i k x n hx
     split at h
     ·rename_i l' hl
      simp only [Sum.inl.injEq] at h;subst h;refine Lx.cons hx ?_;unfold LxB;rw [List.drop_drop];exact ih _ _ _ hl
     ·cases h
 exact key _ _ _ _ h
theorem dAo {T:List Tok}:∀ (f i g:Nat),(fB T f i).2=none→(fB T f i).1.1.length+(fB T f i).1.2.length≤g→fB T g i=fB T f i:=by
 intro f
 induction f with
 | zero=>
  intro i g h hg
  by_cases q:(tk T i).1=0
  ·cases g <;> simp only [fB,q,if_true]
  ·simp only [fB,q,if_false,jE,oAg] at h
   cases h
 | succ f ih=>
  intro i g h hg
  by_cases q:(tk T i).1=0
  ·cases g <;> simp only [fB,q,if_true]
  ·cases he:(tE T (i,none)).e with
   | some x=>simp only [fB,q,if_false,he] at h;cases h
   | none=>
    have e2:fB T (f+1) i=((pA4 (tE T (i,none)).d []++(fB T f (tE T (i,none)).i).1.1,qA4 (tE T (i,none)).d []++(fB T f (tE T (i,none)).i).1.2),(fB T f (tE T (i,none)).i).2):=by
     simp only [fB,q,if_false,he]
    have hl:=jAu (kB0 he);rw [e2] at h hg ⊢;simp only [List.length_append] at hg;obtain ⟨g,rfl⟩:∃ k,g=k+1:=⟨g-1,by omega⟩
    have:=ih (tE T (i,none)).i g h (by omega)
    simp only [fB,q,if_false,he,this]
theorem iBe {la lb:List Tok} {m m':Nat}:Al (la++(lb++[(0,[],m')])) (lb++[(0,[],m)]) la.length:=fun i=>by
 have e:tk (la++(lb++[(0,[],m')])) (i+la.length)=tk (lb++[(0,[],m')]) i:=by
  simp only [tk,List.getD_eq_getElem?_getD];rw [List.getElem?_append_right (by omega),Nat.add_sub_cancel]
 rw [e]
 have:=fBe (l':=lb) (l:=lb) (m':=m') (m:=m) rfl i
 rwa [Nat.add_zero] at this
theorem wAh {N:Nat} {a b:Bs} (ha:a.length≤3000000) (hN:a.length+b.length+1<N) (ea:(rC N a).2=none) (eb:(rC N b).2=none)
  (hl:(rC N a).1.1.length+(rC N a).1.2.length+((rC N b).1.1.length+(rC N b).1.2.length)≤256) :
  (rC N (a++10::b)).2=none∧(rC N (a++10::b)).1.1.map tK=((rC N a).1.1++(rC N b).1.1).map tK∧(rC N (a++10::b)).1.2.map bareFu=((rC N a).1.2++(rC N b).1.2).map bareFu:=by
 cases hla:jAj N a with
 | inr x=>unfold rC at ea;rw [hla] at ea;cases ea
 | inl Ta=>
 cases hlb:jAj N b with
 | inr x=>unfold rC at eb;rw [hlb] at eb;cases eb
 | inl Tb=>
 have ca:rC N a=qO Ta:=by unfold rC;rw [hla]
 have cb:rC N b=qO Tb:=by unfold rC;rw [hlb]
 rw [ca,cb] at hl ⊢;rw [ca] at ea;rw [cb] at eb;obtain ⟨la,ga,rfl⟩:=aAl hla;obtain ⟨lb,gb,rfl⟩:=aAl hlb;obtain ⟨a1,a2⟩:=rAd ea;obtain ⟨b1,b2⟩:=rAd eb;rw [a2,b2] at hl ⊢;obtain ⟨lc,gc,hc⟩:=cAo (gBe gb) _ _ _ _ ga N (fC false (a++10::b)) (by rw [List.length_drop,List.length_append,List.length_cons];omega);have ec:jAj N (a++10::b)=.inl (lc++[(0,[],(a++10::b).length)]):=by unfold jAj;rw [gc]
 have cc:rC N (a++10::b)=qO (lc++[(0,[],(a++10::b).length)]):=by unfold rC;rw [ec]
 have hm:lc.map kt=(la++lb).map kt:=by rw [hc,List.map_append]
 obtain ⟨r1,r2,r3⟩:=nAu (fBe (m':=(a++10::b).length) (m:=0) hm) 256 0;rw [Nat.zero_add] at r1 r2 r3;rw [List.append_assoc] at r1 r2 r3
 -- the first text's items, then the other's
 have hcut:Cut (la++[(0,[],a.length)]) (la++(lb++[(0,[],0)])) la.length (fun _=>True):=by
  refine ⟨by rw [eBe],fun i hi=>?_,trivial⟩;rw [vAh hi,vAh hi]
 obtain ⟨_,g⟩:=kAu hcut (vB6 ha ga) 256 0 (Nat.zero_le _);obtain ⟨g1,_,g3⟩:=g a1;obtain ⟨q1,q2,q3⟩:=nAu (iBe (la:=la) (lb:=lb) (m:=b.length) (m':=0)) (256-((fB (la++[(0,[],a.length)]) 256 0).1.1.length+(fB (la++[(0,[],a.length)]) 256 0).1.2.length)) 0;rw [Nat.zero_add] at q1 q2 q3;have hroom:=dAo (T:=lb++[(0,[],b.length)]) 256 0 (256-((fB (la++[(0,[],a.length)]) 256 0).1.1.length+(fB (la++[(0,[],a.length)]) 256 0).1.2.length)) b1 (by omega);rw [hroom] at q1 q2 q3;rw [b1] at q1;rw [g3] at r1 r2 r3;have q1':(fB (la++(lb++[(0,[],0)])) (256-((fB (la++[(0,[],a.length)]) 256 0).1.1.length+(fB (la++[(0,[],a.length)]) 256 0).1.2.length)) la.length).2=none:=by
  generalize (fB (la++(lb++[(0,[],0)])) (256-((fB (la++[(0,[],a.length)]) 256 0).1.1.length+(fB (la++[(0,[],a.length)]) 256 0).1.2.length)) la.length).2=z at q1
  cases z with
  | none=>rfl
  | some y=>simp at q1
 have r1':(fB (lc++[(0,[],(a++10::b).length)]) 256 0).2=none:=by
  rw [q1'] at r1;generalize (fB (lc++[(0,[],(a++10::b).length)]) 256 0).2=z at r1
  cases z with
  | none=>rfl
  | some y=>simp at r1
 rw [cc];have e:qO (lc++[(0,[],(a++10::b).length)])=((fB (lc++[(0,[],(a++10::b).length)]) 256 0).1,none):=by
  unfold qO;simp only [r1']
 rw [e];refine ⟨rfl,?_,?_⟩
 ·rw [r2,List.map_append,q2,List.map_append]
 ·rw [r3,List.map_append,q3,List.map_append]
end Qp
set_option maxRecDepth 100000
namespace Qp
end Qp
open Go.RowKit (Below)
namespace Qy
open Qa
def h0:Heap:={ t:=Tr.set (Tr.set .nil 0 (.row [hdl] .ro)) 2 (.row [Qw.sen] .ro),next:=4,pins:=[(0,iAq),(1,loc1),(2,Qw.jB7)] }
def mu0 (l:Ai.Loc):Mu:=fun A=>if A=0 then some iAq else if A=1 then some loc1 else if A=2 then some Qw.jB7 else if A=3 then some l else none
theorem mu0_inv {l:Ai.Loc} {A:Nat} {m:Ai.Loc} (h:mu0 l A=some m):(A=0∧m=iAq)∨(A=1∧m=loc1)∨(A=2∧m=Qw.jB7)∨(A=3∧m=l):=by
 unfold mu0 at h
 split at h
 ·cases h;exact .inl ⟨by assumption,rfl⟩
 ·split at h
  ·cases h;exact .inr (.inl ⟨by assumption,rfl⟩)
  ·split at h
   ·cases h;exact .inr (.inr (.inl ⟨by assumption,rfl⟩))
   ·split at h
    ·cases h;exact .inr (.inr (.inr ⟨by assumption,rfl⟩))
    ·cases h
theorem bO {A:Nat} {b:Blk} (h:h0.t.get A=some b):(A=0∧b=.row [hdl] .ro)∨(A=2∧b=.row [Qw.sen] .ro):=by
 rcases Tr.get_set h with h | ⟨_,h⟩
 ·exact .inr h
 ·rcases Tr.get_set h with h | ⟨_,h⟩
  ·exact .inl h
  ·simp [Tr.get_nil] at h
theorem h0_rof:Rof h0:=by
 refine ⟨fun A b hA=>?_,fun A hA=>?_⟩
 ·rcases bO hA with ⟨_,rfl⟩ | ⟨_,rfl⟩ <;> exact ⟨_,rfl⟩
 ·cases hb:h0.t.get A with
  | none=>rfl
  | some b=>
   have h1:(4:Nat)≤A:=hA;rcases bO hb with ⟨h,_⟩ | ⟨h,_⟩ <;> omega
theorem vAy {w:World} {l:Ai.Loc} (hs:7<w.heap.size) {e e':TypeId} (hsh:w.shape? 1=some (e,1)) (hc:w.cell? ⟨1,0,none⟩=some (.iface 232 (.agg #[.pointer (some ⟨7,29,none⟩)])))
  (hsh3:w.shape? 3=some (e',1)) (hc3:w.cell? ⟨3,0,none⟩=some (.iface 275 (.pointer (some ⟨l.b,l.sh,none⟩)))) (hl:l.b<w.heap.size):HR (mu0 l) h0 w:=by
 refine ⟨fun A m hA=>?_,fun A B la lb ba bb hA hB gA gB _ _ hne hb=>?_,fun A m b hA hb=>?_,fun x hx=>?_⟩
 ·rcases mu0_inv hA with ⟨rfl,rfl⟩ | ⟨rfl,rfl⟩ | ⟨rfl,rfl⟩ | ⟨rfl,rfl⟩
  ·exact ⟨by show 0<4;omega,by show 1<w.heap.size;omega⟩
  ·exact ⟨by show 1<4;omega,hs⟩
  ·exact ⟨by show 2<4;omega,by show 3<w.heap.size;omega⟩
  ·exact ⟨by show 3<4;omega,hl⟩
 ·rcases bO gA with ⟨_,rfl⟩ | ⟨_,rfl⟩ <;> rcases bO gB with ⟨_,rfl⟩ | ⟨_,rfl⟩ <;> exact ⟨rfl,rfl⟩
 ·rcases bO hb with ⟨rfl,rfl⟩ | ⟨rfl,rfl⟩
  ·rcases mu0_inv hA with ⟨_,rfl⟩ | ⟨h,_⟩ | ⟨h,_⟩ | ⟨h,_⟩
   ·refine ⟨⟨e,hsh⟩,Nat.le_refl _,fun i x hx=>?_⟩
    cases i with
    | zero=>
     have:x=hdl:=by simpa using hx.symm
     subst this;refine ⟨_,hc,?_⟩;simp only [hdl,VR,VRs];exact ⟨_,rfl,_,rfl,_,[],rfl,⟨loc1,rfl,rfl⟩,rfl⟩
    | succ i=>simp at hx
   ·cases h
   ·cases h
   ·cases h
  ·rcases mu0_inv hA with ⟨h,_⟩ | ⟨h,_⟩ | ⟨_,rfl⟩ | ⟨h,_⟩
   ·cases h
   ·cases h
   ·refine ⟨⟨e',hsh3⟩,Nat.le_refl _,fun i x hx=>?_⟩
    cases i with
    | zero=>
     have:x=Qw.sen:=by simpa using hx.symm
     subst this;refine ⟨_,hc3,?_⟩;simp only [Qw.sen,VR];exact ⟨_,rfl,l,rfl,rfl⟩
    | succ i=>simp at hx
   ·cases h
 ·simp only [h0,List.mem_cons,List.not_mem_nil,or_false] at hx
  rcases hx with rfl | rfl | rfl <;> rfl
theorem wAu:Qw.pinned h0=true:=by kernel_rfl
theorem yAu {h:Heap} (hl:HLe h0 h):Qw.pinned h=true∧4≤h.next:=by
 refine ⟨?_,hl.next⟩;have h1:=wAu;have g0:h0.t.get 0=some (.row [hdl] .ro):=by kernel_rfl
 have g2:h0.t.get 2=some (.row [Qw.sen] .ro):=by kernel_rfl
 have e0:h.t.get 0=h0.t.get 0:=(hl.get 0 _ g0).trans g0.symm;have e2:h.t.get 2=h0.t.get 2:=(hl.get 2 _ g2).trans g2.symm;unfold Qw.pinned Qx.pinned at h1 ⊢;rw [hl.pins,e0,e2];exact h1
end Qy
namespace Qp
theorem aAv {a b:Bs} (h:a.length+b.length≤1000000) {β:Type} (K:Bs→Option β):iA (.val zM2) (dL .add a b) K=K (a++b):=by
 rw [gAr (by omega)];rfl
section
variable {N:Nat} {h:Heap} {b:Bool} {n:Nat}
end
theorem bAv (h:Heap) (a b:SL):∃ h',(∀ {β:Type} (K:Heap→Option β),rA ((h.push (.row [(.slice none 0 0 0),(.slice none 0 0 0)] .own)).store (h.next,0) [(.slice a.a a.len a.cap a.sz),(.slice b.a b.len b.cap b.sz)]) K=K h')∧Chg [] h h'∧h'.own h.next [SL.av a,SL.av b]:=by
 have o:=vA h [SL.av sl0,SL.av sl0];have c:=qA h (.row [SL.av sl0,SL.av sl0] .own);have hst:(h.push (.row [SL.av sl0,SL.av sl0] .own)).store (h.next,0) [SL.av a,SL.av b]=some ((h.push (.row [SL.av sl0,SL.av sl0] .own)).put h.next (.row [SL.av a,SL.av b] .own)):=o.store rfl;refine ⟨_,fun K=>?_,c.put (.inr (Nat.le_refl _)) _,yA o _⟩;have e:h.push (.row [(.slice none 0 0 0),(.slice none 0 0 0)] .own)=h.push (.row [SL.av sl0,SL.av sl0] .own):=rfl;have e2:[(AV.slice a.a a.len a.cap a.sz),(.slice b.a b.len b.cap b.sz)]=[SL.av a,SL.av b]:=rfl;rw [e,e2,hst,dA]
theorem ErrW.keep {h h':Heap} {v:AV} {e:Er3} (x:ErrW h v e) (c:Chg [] h h'):ErrW h' v e:=x.chg c (by simp)
section
variable {h:Heap}
end
end Qp
namespace Qp
section
variable {h:Heap}
end
end Qp
namespace Qp
noncomputable section
def uV (N:Nat) (go:AV→SL→Int→Heap→Option (Out×zQ1×Heap)) (v0:AV) (v3:SL) (v4:Int) (h:Heap):Option (Out×zQ1×Heap):=let x1:=wB v4 200;(bif x1 then(iA (.tup [zK2,zN2]) (lJ E v0 127 true) fun (x2:zM1)=>let x3:=!x2.2.1;(bif x3 then some ((Out.exit 0),(v3,()),h)else(bif x2.1.isNone then some ((Out.exit 0),(v3,()),h)else(rA x2.1 fun q4=>(iA (.val zO2) (h.cell (q4.1,q4.2+1)) fun (x5:Int)=>let h6:=h.push (.row [(.int .i64 x5)] .own);(aE (.val zL2) (iB E 63 63 (.slice v3.a v3.len v3.cap v3.sz) (.slice (some (h.next,0)) 1 1 1) h6) fun (x7:SL) h8=>(rA x2.1 fun q9=>(iA (.val zP2) (h8.cell (q9.1,q9.2+2)) fun (x10:AV)=>let x11:=dB .i64 (v4+1);go x10 x7 x11 h8))))))))else some ((Out.exit 0),(v3,()),h))
def cAv (N M:Nat) (v0:AV) (v3:SL) (v4:Int) (h:Heap):Option (Out×zQ1×Heap):=iter (fun go s h=>uV N (fun v0 v3 v4 h=>go (v0,v3,v4,()) h) s.1 s.2.1 s.2.2.1 h) M (v0,v3,v4,()) h
theorem yS (N M v0 v3 v4 h):cAv N (M+1) v0 v3 v4 h=uV N (cAv N M) v0 v3 v4 h:=rfl
def f53 (N:Nat) (a0:AV) (h:Heap):Option (SL×Heap):=(fE (cAv N N a0 ⟨none,0,0,0⟩ 0 h) fun _ (j13:zQ1) h14=>some (j13.1,h14))
def gBi:Ann:=(.two .n (.two .n (.two (.two .n (.two (.loop [(0,zP2),(3,zL2),(4,zO2)] [(.exit 0)] [(3,zL2)] .n) .n)) .n)))
theorem jBe (N:Nat):gD Tryz.prog 53 [zP2] (.val zL2) (fun x h=>f53 N x.1 h):=vD kA N gBi Tryz.f53
def vV (N:Nat) (go:SL→SL→Bool→Int→Heap→Option (Out×zZ×Heap)) (v0 v1:SL) (v4:Bool) (v5:Int) (h:Heap):Option (Out×zZ×Heap):=let x2:=wB v5 (Int.ofNat v0.len);(bif x2 then(ixK v0.a v0.len v5 1 fun q3=>(iA (.val zO2) (h.cell q3) fun (x4:Int)=>(ixK v1.a v1.len v5 1 fun q5=>(iA (.val zO2) (h.cell q5) fun (x6:Int)=>let x7:=!kB x4 x6;(bif x7 then some (Out.ret,(false,()),h)else let x8:=dB .i64 (v5+1);go v0 v1 v4 x8 h)))))else some ((Out.exit 0),(v4,()),h))
def dAv (N M:Nat) (v0 v1:SL) (v4:Bool) (v5:Int) (h:Heap):Option (Out×zZ×Heap):=iter (fun go s h=>vV N (fun v0 v1 v4 v5 h=>go (v0,v1,v4,v5,()) h) s.1 s.2.1 s.2.2.1 s.2.2.2.1 h) M (v0,v1,v4,v5,()) h
theorem aT (N M v0 v1 v4 v5 h):dAv N (M+1) v0 v1 v4 v5 h=vV N (dAv N M) v0 v1 v4 v5 h:=rfl
def f52 (N:Nat) (a0 a1:SL) (h:Heap):Option (Bool×Heap):=let x1:=!kB (Int.ofNat a0.len) (Int.ofNat a1.len);(bif x1 then some (false,h)else(fE (dAv N N a0 a1 false 0 h) fun o9 (j10:zZ) h11=>(bif gE o9 (.exit 0) then some (true,h11)else some (j10.1,h11))))
def iBi:Ann:=(.two .n (.two .n (.two (.two .n (.two (.loop [(0,zL2),(1,zL2),(4,zN2),(5,zO2)] [(.exit 0),.ret] [(4,zN2)] .n) .n)) .n)))
theorem kBe (N:Nat):gD Tryz.prog 52 [zL2,zL2] (.val zN2) (fun x h=>f52 N x.1 x.2.1 h):=vD kA N iBi Tryz.f52
def g22 (N:Nat)  (h:Heap):Option (Bool×Heap):=(lA (f27 N [102,110,32,102,40,120,58,32,105,110,116,41,32,45,62,32,105,110,116,32,123,32,114,101,116,117,114,110,32,120,32,43,32,49,59,32,125] h) fun (x1:(zE1×AV×Unit)) h2=>let h3:=h2.push (.row yZG .own);(rA (h3.store (h2.next,0) (yRJ x1.1)) fun h4=>(lA (f27 N [32,102,110,32,102,40,32,123] h4) fun (x5:(zE1×AV×Unit)) h6=>let h7:=h6.push (.row yZG .own);(rA (h7.store (h6.next,0) (yRJ x5.1)) fun h8=>(lA (f23 N [38,39,97,32,109,117,116,32,83,60,39,98,62] h8) fun (x9:(zM×AV×Unit)) h10=>let h11:=h10.push (.row yZD .own);(rA (h11.store (h10.next,0) (yRD x9.1)) fun h12=>(iA (.val zN2) (cK E .eql 29 (.tmp 19) (.const .nilIface) x1.2.1 AV.nilIface) fun (x13:Bool)=>(bif x13 then(iA (.val zL2) (h12.cell ((h2.next,0).1,(h2.next,0).2+1)) fun (x14:SL)=>let x15:=kB (Int.ofNat x14.len) 1;(bif x15 then(iA (.val zL2) (h12.cell ((h2.next,0).1,(h2.next,0).2+1)) fun (x16:SL)=>(ixK x16.a x16.len 0 10 fun q17=>(iA (.val zL2) (h12.cell (q17.1,q17.2+8)) fun (x18:SL)=>let x19:=kB (Int.ofNat x18.len) 1;(bif x19 then(iA (.val zL2) (h12.cell ((h2.next,0).1,(h2.next,0).2+1)) fun (x20:SL)=>(ixK x20.a x20.len 0 10 fun q21=>(iA (.val zL2) (h12.cell (q21.1,q21.2+8)) fun (x22:SL)=>(ixK x22.a x22.len 0 32 fun q23=>(iA (.val zO2) (h12.cell (q23.1,q23.2+1)) fun (x24:Int)=>let x25:=kB x24 22;(bif x25 then(lA (f18 N x5.2.1 21 7 h12) fun (x26:Bool) h27=>(bif x26 then(lA (f53 N x5.2.1 h27) fun (x28:SL) h29=>let h30:=h29.push (.row [(.int .i64 1),(.int .i64 7)] .own)
 (lA (f52 N x28 ⟨(some (h29.next,0)),2,2,1⟩ h30) fun (x31:Bool) h32=>(bif x31 then(iA (.val zN2) (cK E .eql 29 (.tmp 58) (.const .nilIface) x9.2.1 AV.nilIface) fun (x33:Bool)=>(bif x33 then(iA (.val zO2) (h32.cell ((h10.next,0).1,(h10.next,0).2+0)) fun (x34:Int)=>let x35:=kB x34 5;(bif x35 then(iA (.val zL2) (h32.cell ((h10.next,0).1,(h10.next,0).2+3)) fun (x36:SL)=>let x37:=kB (Int.ofNat x36.len) 1;(bif x37 then(iA (.val zL2) (h32.cell ((h10.next,0).1,(h10.next,0).2+3)) fun (x38:SL)=>(ixK x38.a x38.len 0 4 fun q39=>(iA (.val zM2) (h32.cell (q39.1,q39.2+1)) fun (x40:zQ2)=>let x41:=mB x40 [83];some (x41,h32))))else some (false,h32)))else some (false,h32)))else some (false,h32)))else some (false,h32))))else some (false,h27)))else some (false,h12)))))))else some (false,h12)))))else some (false,h12)))else some (false,h12)))))))))
def jBi:Ann:=.n
theorem lBe (N:Nat):gD Tryz.prog 22 [] (.val zN2) (fun x h=>g22 N  h):=vD (bA (jBe N) (bA (kBe N) (bA (lAz N) (bA (mB9 N) (bA (oB9 N) kA))))) N jBi Tryz.f22
end
end Qp
namespace Qp
end Qp
namespace Qp
theorem kBi:AppN E 63 3 1 100:=AppN.of (by kernel_rfl)
theorem cA7 {h0 H:Heap} {M:List Nat} {v:SL} {xs:List Int} (c:Chg M h0 H) (x:Ow h0.next H v 1 (xs.map D.i)) (hl:xs.length≤2000000) (t:Int) :
  ∃ v' H',(∀ {β:Type} (K:SL→Heap→Option β),aE (.val zL2) (iB E 63 63 (.slice v.a v.len v.cap v.sz) (.slice (some (H.next,0)) 1 1 1) (H.push (.row [(.int .i64 t)] .own))) K=K v' H')∧Ow h0.next H' v' 1 ((xs++[t]).map D.i)∧Chg v.blk.toList H H':=by
 obtain ⟨s',h',e,o,c',_⟩:=fU (cs:=[AV.int .i64 t]) kBi (by decide) x (wAj H _ t) rfl c.next (by rw [List.length_map];omega);refine ⟨s',h',fun K=>?_,?_,c'⟩
 ·have e':iB E 63 63 (.slice v.a v.len v.cap v.sz) (.slice (some (H.next,0)) 1 1 1) (H.push (.row [(.int .i64 t)] .own))=some (.slice s'.a s'.len s'.cap s'.sz,h'):=e
  rw [e'];simp only [lG,uA]
 ·rw [List.map_append];exact o
theorem mBe {h:Heap} {V:Nat→Prop} {v:SL} {xs:List Int} (x:Sl h V v (xs.map D.i)) {i:Nat} (hi:i<xs.length):h.cell (v.at i 1)=some (.int .i64 xs[i]):=by
 obtain ⟨cs,e⟩:=x.elt (i:=i) (by rw [List.length_map];exact hi);have hd:=e.dt;rw [List.getElem_map] at hd;simp only [Dt] at hd;subst hd;have hz:v.sz=1:=e.len.symm
 have:=e.cell 0 (by omega)
 rw [hz] at this;simpa using this
section
variable {N:Nat} {h:Heap}
theorem yB6 {A B:Nat} {c a b:Int} (hN:10≤N) (oA:h.own A [.int .i64 c,.int .i64 a,AV.iface 127 (.ptr (some (B,0)))]) (oB:h.own B [.int .i64 c,.int .i64 b,AV.iface 78 (.int .i64 c)]) :
  ∃ v h',f53 N (AV.iface 127 (.ptr (some (A,0)))) h=some (v,h')∧Chg [] h h'∧Sl h' (fun C=>h.next≤C) v ([a,b].map D.i):=by
 obtain ⟨N,rfl⟩:∃ m,N=m+3:=⟨N-3,by omega⟩;unfold f53;have k1:h.cell (A,1)=some (.int .i64 a):=oA.cell 1;obtain ⟨v1,H1,e1,w1,c1⟩:=cA7 (xs:=[]) (Chg.refl [] h) (Ow.nil h.next h 0 1) (by simp) a;have c01:Chg [] h H1:=c1.mono (by simp [SL.blk]);have oA1:=oA.chg c01 (by simp);have oB1:=oB.chg c01 (by simp);have k2:H1.cell (A,2)=some (AV.iface 127 (.ptr (some (B,0)))):=oA1.cell 2;have k3:H1.cell (B,1)=some (.int .i64 b):=oB1.cell 1;obtain ⟨v2,H2,e2,w2,c2⟩:=cA7 (xs:=[a]) c01 w1 (by simp) b;have c02:Chg [] h H2:=c01.step c2 fun X hX hlt=>by
  have:=w1.ge X (by simpa using hX);omega
 have oB2:=oB.chg c02 (by simp);have k4:H2.cell (B,2)=some (AV.iface 78 (.int .i64 c)):=oB2.cell 2;rw [yS];unfold uV;rw [show wB 0 200=true from rfl];simp only [cond_true];rw [lU];simp only [Bool.not_true,cond_false,Option.isNone_some,dA,Nat.zero_add,k1,fA,bD];have e1':∀ {β:Type} (K:SL→Heap→Option β),aE (.val zL2) (iB E 63 63 (.slice none 0 0 0) (.slice (some (h.next,0)) 1 1 1) (h.push (.row [(.int .i64 a)] .own))) K=K v1 H1:=e1;rw [e1'];simp only [k2,fA,bE];rw [show dB .i64 (0+1)=1 from rfl,yS];unfold uV;rw [show wB 1 200=true from rfl];simp only [cond_true];rw [lU];simp only [Bool.not_true,cond_false,Option.isNone_some,dA,Nat.zero_add,k3,fA,bD];rw [e2];simp only [k4,fA,bE];rw [show dB .i64 (1+1)=2 from rfl,yS];unfold uV;rw [show wB 2 200=true from rfl];simp only [cond_true];rw [pAj];simp only [Bool.not_false,cond_true];exact ⟨v2,H2,rfl,c02,w2.sl⟩
theorem aB7 {V:Nat→Prop} {v:SL} {A:Nat} {a b:Int} (hN:10≤N) (x:Sl h V v ([a,b].map D.i)) (o:h.own A [.int .i64 a,.int .i64 b]):f52 N v ⟨some (A,0),2,2,1⟩ h=some (true,h):=by
 obtain ⟨N,rfl⟩:∃ m,N=m+3:=⟨N-3,by omega⟩;have hl:v.len=2:=x.len;have c0:=mBe x (i:=0) (by simp);have c1:=mBe x (i:=1) (by simp);have d0:h.cell (A,0)=some (.int .i64 a):=o.cell 0;have d1:h.cell (A,1)=some (.int .i64 b):=o.cell 1;unfold f52;dsimp only;have q:kB (Int.ofNat v.len) (Int.ofNat 2)=true:=by rw [hl];rfl
 rw [q,Bool.not_true,cond_false,aT];unfold vV;have lt0:wB 0 (Int.ofNat v.len)=true:=by rw [hl];rfl
 have lt1:wB 1 (Int.ofNat v.len)=true:=by rw [hl];rfl
 have lt2:wB 2 (Int.ofNat v.len)=false:=by rw [hl];rfl
 have hs:v.a.isSome=true:=x.isSome (by simp);have i0:∀ {β:Type} (K:Nat×Nat→Option β),ixK v.a v.len 0 1 K=K (v.at 0 1):=fun K=>dU (i:=0) hs (by omega) K;have i1:∀ {β:Type} (K:Nat×Nat→Option β),ixK v.a v.len 1 1 K=K (v.at 1 1):=fun K=>dU (i:=1) hs (by omega) K;have j0:∀ {β:Type} (K:Nat×Nat→Option β),ixK (some (A,0)) 2 0 1 K=K (A,0):=fun K=>vAi (A,0) 2 0 1 K (by decide);have j1:∀ {β:Type} (K:Nat×Nat→Option β),ixK (some (A,0)) 2 1 1 K=K (A,1):=fun K=>vAi (A,0) 2 1 1 K (by decide);have ee:∀ x:Int,kB x x=true:=fun x=>by rw [eqI];exact decide_eq_true rfl
 simp only [lt0,cond_true,i0,j0,c0,d0,fA,bD,List.getElem_cons_zero,ee,Bool.not_true,cond_false];rw [show dB .i64 (0+1)=1 from rfl,aT];unfold vV;simp only [lt1,cond_true,i1,j1,c1,d1,fA,bD,List.getElem_cons_succ,List.getElem_cons_zero,ee,Bool.not_true,cond_false];rw [show dB .i64 (1+1)=2 from rfl,aT];unfold vV;simp only [lt2,cond_false];rfl
end
end Qp
namespace Qp
abbrev tA:Bs:=[102,110,32,102,40,120,58,32,105,110,116,41,32,45,62,32,105,110,116,32,123,32,114,101,116,117,114,110,32,120,32,43,32,49,59,32,125]
abbrev tB:Bs:=[32,102,110,32,102,40,32,123]
abbrev tC:Bs:=[38,39,97,32,109,117,116,32,83,60,39,98,62]
def vBj:D→List D
 | .t [_,_,_,_,_,.l bd,_]=>bd
 | _=>[]
def iBj:D→Int
 | .t (_::.i a::_)=>a
 | _=>0
theorem cA1:(rC 20000 tA).2=none:=by kernel_rfl
theorem cA2:(rC 20000 tA).1.2.map (fun d=>(vBj d).map iBj)=[[22]]:=by kernel_rfl
theorem cB:(rC 20000 tB).2=some (21,1,some 7):=by kernel_rfl
theorem cC:aAx 20000 tC=(tyD 5 [] [[97]] [tyD 3 [83] [[98]] []],none):=by kernel_rfl
theorem ix0 {β:Type} {h:Heap} {V:Nat→Prop} {s:SL} {xs:List D} (x:Sl h V s xs) (hi:0<xs.length) (n:Nat) (K:Nat×Nat→Option β):ixK s.a s.len 0 n K=K (s.at 0 n):=x.ix (i:=0) hi n K
theorem bAl {h:Heap} (hp:Qw.pinned h=true) (h4:4≤h.next):∃ h',g22 20000 h=some (true,h')∧Chg [] h h':=by
 unfold g22;obtain ⟨va,wa,ea,h2,ra,ca,sva,swa,xa⟩:=wAc (N:=20000) (s:=tA) (by decide) (by decide) (by decide) hp h4;rw [ra,aA];dsimp only;obtain ⟨h4',p4,d4,o4⟩:=bAv h2 va wa;rw [p4];have c4:=ca.trans d4;obtain ⟨vb,wb,eb,h6,rb,cb,svb,swb,xb⟩:=wAc (N:=20000) (s:=tB) (by decide) (by decide) (by decide) (vJ c4 (by simp) h4 hp) (Nat.le_trans h4 c4.next);rw [rb,aA];dsimp only;obtain ⟨h8,p8,d8,o8⟩:=bAv h6 vb wb;rw [p8];obtain ⟨rc,h10,rc',cc,sc,xc⟩:=vB9 (N:=20000) (s:=tC) (by decide) (by decide) (by decide) h8;rw [rc',aA];have oA0:=vA h10 zt;have cA0:=qA h10 (.row zt .own);have eA:h10.push (.row [(.int .i64 0),(.str []),(.slice none 0 0 0),(.slice none 0 0 0)] .own)=h10.push (.row zt .own):=rfl;have hstA:=gA6 oA0 rc.1;rw [eA,hstA,dA];have oC:=yA oA0 (tyc rc.1);have cA:Chg [] h10 ((h10.push (.row zt .own)).put h10.next (.row (tyc rc.1) .own)):=cA0.put (.inr (Nat.le_refl _)) _;generalize (h10.push (.row zt .own)).put h10.next (.row (tyc rc.1) .own)=h12 at *;have c812:=cc.trans cA;have c412:=cb.trans (d8.trans c812);have c12:=c4.trans c412;rw [xa.eq 19,cA1];simp only [fA,rB,Option.isNone_none,cond_true];have o4:=o4.chg c412 (by simp);have k1:h12.cell (h2.next,0+1)=some (SL.av wa):=o4.cell 1
 -- the function's body
 have swa:=swa.chg (d4.trans c412) (by simp);have hfu:=(fAa 20000 tA).2.1;have e2:=cA2;generalize (rC 20000 tA).1.2=F at *;obtain ⟨f,rfl⟩:∃ f,F=[f]:=by
  have:=congrArg List.length e2
  rw [List.length_map] at this
  match F,this with
  | [f],_=>exact ⟨f,rfl⟩
 simp only [List.map_cons,List.map_nil,List.cons.injEq,and_true] at e2;obtain ⟨cs,e⟩:=swa.elt (i:=0) (by simp);obtain ⟨pub,nm,lv,ps,ty,bd,a,hf,_,_,_,_,t1,_,t2⟩:=hfu f (by simp);subst hf;have hd:=e.dt;obtain ⟨s1,s2,s3,r,hcs,_,_,_,sb⟩:=lAd t1 hd;subst hcs;have hz:wa.sz=10:=e.len.symm;rw [hz] at e;have k2:h12.cell ((wa.at 0 10).1,(wa.at 0 10).2+8)=some (SL.av s3):=e.cell 8 (by omega);have e3:bd.map iBj=[22]:=e2;obtain ⟨b,rfl⟩:∃ b,bd=[b]:=by
  have:=congrArg List.length e3
  rw [List.length_map] at this
  match bd,this with
  | [b],_=>exact ⟨b,rfl⟩
 simp only [List.map_cons,List.map_nil,List.cons.injEq,and_true] at e3;obtain ⟨cs2,eb2⟩:=sb.elt (i:=0) (by simp);obtain ⟨k,a',m,nm',ty',hs,pl,vl,co,th,el,hb,u1,u2,u3,u4,_⟩:=t2 b (by simp);subst hb;have e3:a'=22:=e3;subst e3;have hd2:=eb2.dt;obtain ⟨r',p',v',o',s1',s2',hcs2,_⟩:=kAd u1 u2 u3 u4 hd2;subst hcs2;have hz2:s3.sz=32:=eb2.len.symm;rw [hz2] at eb2;have k3:h12.cell ((s3.at 0 32).1,(s3.at 0 32).2+1)=some (.int .i64 22):=eb2.cell 1 (by omega);have l1:kB (Int.ofNat wa.len) 1=true:=by rw [swa.len];rfl
 have l2:kB (Int.ofNat s3.len) 1=true:=by rw [sb.len];rfl
 simp only [k1,SL.av,fA,uA,l1,cond_true,ix0 swa (by simp),k2,l2,ix0 sb (by simp),k3,bD];rw [show kB 22 22=true from rfl,cond_true]
 -- the fault
 rw [cB] at xb;have xb:=xb.chg (d8.trans c812) (by simp);rw [mBh xb (by decide),aA];rw [show decide (yA2 (some (21,1,some 7))=(21,7))=true from rfl,cond_true];obtain ⟨A,B,hv,oA,oB⟩:=xb;subst hv;obtain ⟨w,h29,e29,c29,s29⟩:=yB6 (N:=20000) (by decide) oA oB;rw [e29,aA];have o30:=vA h29 [(.int .i64 1),(.int .i64 7)];have c30:=qA h29 (.row [(.int .i64 1),(.int .i64 7)] .own);rw [aB7 (N:=20000) (by decide) (s29.chg c30 (by simp)) o30,aA,cond_true];have c1230:=c29.trans c30;generalize h29.push (.row [(.int .i64 1),(.int .i64 7)] .own)=h30 at *
 -- the type
 rw [cC] at xc sc;have xc:rc.2.1=AV.nilIface:=xc;obtain ⟨t1,t2,hct,_,st2⟩:=oA4.1 sc;rw [hct] at oC;have oC:=oC.chg c1230 (by simp);have j0:h30.cell (h10.next,0+0)=some (.int .i64 5):=oC.cell 0;have j3:h30.cell (h10.next,0+3)=some (SL.av t2):=oC.cell 3;have st2:=st2.chg (cA.trans c1230) (by simp);have l3:kB (Int.ofNat t2.len) 1=true:=by rw [st2.len];rfl
 obtain ⟨cs3,e3⟩:=st2.elt (i:=0) (by simp);obtain ⟨q1,q2,hc3,_⟩:=oA4.1 e3.dt;subst hc3;have hz3:t2.sz=4:=e3.len.symm;rw [hz3] at e3;have j4:h30.cell ((t2.at 0 4).1,(t2.at 0 4).2+1)=some (.str [83]):=e3.cell 1 (by omega);rw [xc,eq_nil];simp only [fA,rB,cond_true,j0,bD,show kB 5 5=true from rfl,j3,SL.av,uA,l3,ix0 st2 (by simp),j4,cD,show mB [83] [83]=true from rfl];exact ⟨_,rfl,c12.trans c1230⟩
end Qp
namespace Qp
section
variable {N:Nat} {s:Bs} {v1 v5:SL} {ns:List Int} {l:List Tok}
end
theorem yAh:∀ {n:Nat} {d:D},isSm n d→isSm n (aL n d)
 | 0,d,h=>h.elim
 | n+1,d,⟨k,a,m,nm,ty,hs,pl,va,co,th,el,h0,h1,h2,h3,h4,h5,h6,h7,h8⟩=>by
  subst h0;rw [mV];refine ⟨k,0,m,nm,ty,hs,pl,va,co,_,_,rfl,h1,h2,h3,h4,by rw [List.length_map];exact h5,by rw [List.length_map];exact h6,fun s hs=>?_,fun s hs=>?_⟩
  ·obtain ⟨y,hy,rfl⟩:=List.mem_map.1 hs
   exact yAh (h7 y hy)
  ·obtain ⟨y,hy,rfl⟩:=List.mem_map.1 hs
   exact yAh (h8 y hy)
theorem kAy {d:D} (h:isSt d):isSt (tK d):=by
 obtain ⟨pub,nm,lv,fs,a,rfl,h1,h2,h3⟩:=h;exact ⟨pub,nm,lv,fs,0,rfl,h1,h2,h3⟩
theorem lAy {d:D} (h:isFu d):isFu (bareFu d):=by
 obtain ⟨pub,nm,lv,ps,ty,bd,a,rfl,h1,h2,h3,h4,h5,h6,h7⟩:=h;exact ⟨pub,nm,lv,ps,ty,bd.map (aL 65),0,rfl,h1,h2,h3,h4,h5,by rw [List.length_map];exact h6,fun s hs=>by
  obtain ⟨y,hy,rfl⟩:=List.mem_map.1 hs;exact yAh (h7 y hy)⟩
section
variable {h:Heap}
end
end Qp
namespace Qp
noncomputable section
def f10 (N:Nat) (a0 a1:zQ2) (h:Heap):Option (Bool×Heap):=let x1:=wB 1500 (Int.ofNat a0.length);(bif x1 then(lA (g22 N  h) fun (x2:Bool) h3=>some (x2,h3))else let x4:=wB 1500 (Int.ofNat a1.length);(bif x4 then(lA (g22 N  h) fun (x5:Bool) h6=>some (x5,h6))else(lA (f27 N a0 h) fun (x7:(zE1×AV×Unit)) h8=>let h9:=h8.push (.row yZG .own);(rA (h9.store (h8.next,0) (yRJ x7.1)) fun h10=>(lA (f27 N a1 h10) fun (x11:(zE1×AV×Unit)) h12=>let h13:=h12.push (.row yZG .own);(rA (h13.store (h12.next,0) (yRJ x11.1)) fun h14=>(iA (.val zN2) (cK E .neq 29 (.tmp 31) (.const .nilIface) x7.2.1 AV.nilIface) fun (x15:Bool)=>(bif x15 then(lA (g22 N  h14) fun (x16:Bool) h17=>some (x16,h17))else(iA (.val zN2) (cK E .neq 29 (.tmp 34) (.const .nilIface) x11.2.1 AV.nilIface) fun (x18:Bool)=>(bif x18 then(lA (g22 N  h14) fun (x19:Bool) h20=>some (x19,h20))else(iA (.val zL2) (h14.cell ((h8.next,0).1,(h8.next,0).2+0)) fun (x21:SL)=>(iA (.val zL2) (h14.cell ((h8.next,0).1,(h8.next,0).2+1)) fun (x22:SL)=>let x23:=dB .i64 ((Int.ofNat x21.len)+(Int.ofNat x22.len));(iA (.val zL2) (h14.cell ((h12.next,0).1,(h12.next,0).2+0)) fun (x24:SL)=>let x25:=dB .i64 (x23+(Int.ofNat x24.len));(iA (.val zL2) (h14.cell ((h12.next,0).1,(h12.next,0).2+1)) fun (x26:SL)=>let x27:=dB .i64 (x25+(Int.ofNat x26.len));let x28:=wB 256 x27;(bif x28 then(lA (g22 N  h14) fun (x29:Bool) h30=>some (x29,h30))else(iA (.val zM2) (dL .add a0 [10]) fun (x31:zQ2)=>(iA (.val zM2) (dL .add x31 a1) fun (x32:zQ2)=>
 (lA (f27 N x32 h14) fun (x33:(zE1×AV×Unit)) h34=>let h35:=h34.push (.row yZG .own);(rA (h35.store (h34.next,0) (yRJ x33.1)) fun h36=>let h37:=h36.push (.row [] .own);let h38:=h37.push (.row [] .own);let h39:=h38.push (.row yZG .own);(iA (.val zL2) (h39.cell ((h8.next,0).1,(h8.next,0).2+0)) fun (x40:SL)=>(aE (.val zL2) (iB E 22 22 (.slice (some (h36.next,0)) 0 0 5) (.slice x40.a x40.len x40.cap x40.sz) h39) fun (x41:SL) h42=>(iA (.val zL2) (h42.cell ((h12.next,0).1,(h12.next,0).2+0)) fun (x43:SL)=>(aE (.val zL2) (iB E 22 22 (.slice x41.a x41.len x41.cap x41.sz) (.slice x43.a x43.len x43.cap x43.sz) h42) fun (x44:SL) h45=>(iA (.val zL2) (h45.cell ((h8.next,0).1,(h8.next,0).2+1)) fun (x46:SL)=>(aE (.val zL2) (iB E 23 23 (.slice (some (h37.next,0)) 0 0 10) (.slice x46.a x46.len x46.cap x46.sz) h45) fun (x47:SL) h48=>(iA (.val zL2) (h48.cell ((h12.next,0).1,(h12.next,0).2+1)) fun (x49:SL)=>(aE (.val zL2) (iB E 23 23 (.slice x47.a x47.len x47.cap x47.sz) (.slice x49.a x49.len x49.cap x49.sz) h48) fun (x50:SL) h51=>(rA (h51.store (h38.next,0) [(.slice x44.a x44.len x44.cap x44.sz),(.slice x50.a x50.len x50.cap x50.sz)]) fun h52=>(uD (bif (aB (h52.cell ((h12.next,0).1,(h12.next,0).2+1)) (.slice x49.a x49.len x49.cap x49.sz)) then (bif (aB (h51.cell ((h12.next,0).1,(h12.next,0).2+1)) (.slice x49.a x49.len x49.cap x49.sz)) then (bif (aB (h48.cell ((h12.next,0).1,(h12.next,0).2+1)) (.slice x49.a x49.len x49.cap x49.sz)) then (bif (aB (h45.cell ((h12.next,0).1,(h12.next,0).2+1)) (.slice x49.a x49.len x49.cap x49.sz)) then (bif (aB (h42.cell ((h12.next,0).1,(h12.next,0).2+1)) (.slice x49.a x49.len x49.cap x49.sz)) then (bif (aB (h39.cell ((h12.next,0).1,(h12.next,0).2+1)) (.slice x49.a x49.len x49.cap x49.sz)) then (bif (aB (h38.cell ((h12.next,0).1,(h12.next,0).2+1)) (.slice x49.a x49.len x49.cap x49.sz)) then (bif (aB (h37.cell ((h12.next,0).1,(h12.next,0).2+1)) (.slice x49.a x49.len x49.cap x49.sz)) then (bif (aB (h36.cell ((h12.next,0).1,(h12.next,0).2+1)) (.slice x49.a x49.len x49.cap x49.sz)) then (bif (aB (h52.cell ((h8.next,0).1,(h8.next,0).2+1)) (.slice x46.a x46.len x46.cap x46.sz)) then (bif (aB (h51.cell ((h8.next,0).1,(h8.next,0).2+1)) (.slice x46.a x46.len x46.cap x46.sz)) then (bif (aB (h48.cell ((h8.next,0).1,(h8.next,0).2+1)) (.slice x46.a x46.len x46.cap x46.sz)) then (bif (aB (h45.cell ((h8.next,0).1,(h8.next,0).2+1)) (.slice x46.a x46.len x46.cap x46.sz)) then (bif (aB (h42.cell ((h8.next,0).1,(h8.next,0).2+1)) (.slice x46.a x46.len x46.cap x46.sz)) then (bif (aB (h39.cell ((h8.next,0).1,(h8.next,0).2+1)) (.slice x46.a x46.len x46.cap x46.sz)) then (bif (aB (h38.cell ((h8.next,0).1,(h8.next,0).2+1)) (.slice x46.a x46.len x46.cap x46.sz)) then (bif (aB (h37.cell ((h8.next,0).1,(h8.next,0).2+1)) (.slice x46.a x46.len x46.cap x46.sz)) then (bif (aB (h36.cell ((h8.next,0).1,(h8.next,0).2+1)) (.slice x46.a x46.len x46.cap x46.sz)) then (bif (aB (h52.cell ((h12.next,0).1,(h12.next,0).2+0)) (.slice x43.a x43.len x43.cap x43.sz)) then (bif (aB (h51.cell ((h12.next,0).1,(h12.next,0).2+0)) (.slice x43.a x43.len x43.cap x43.sz)) then (bif (aB (h48.cell ((h12.next,0).1,(h12.next,0).2+0)) (.slice x43.a x43.len x43.cap x43.sz)) then (bif (aB (h45.cell ((h12.next,0).1,(h12.next,0).2+0)) (.slice x43.a x43.len x43.cap x43.sz)) then (bif (aB (h42.cell ((h12.next,0).1,(h12.next,0).2+0)) (.slice x43.a x43.len x43.cap x43.sz)) then (bif (aB (h39.cell ((h12.next,0).1,(h12.next,0).2+0)) (.slice x43.a x43.len x43.cap x43.sz)) then (bif (aB (h38.cell ((h12.next,0).1,(h12.next,0).2+0)) (.slice x43.a x43.len x43.cap x43.sz)) then (bif (aB (h37.cell ((h12.next,0).1,(h12.next,0).2+0)) (.slice x43.a x43.len x43.cap x43.sz)) then (bif (aB (h36.cell ((h12.next,0).1,(h12.next,0).2+0)) (.slice x43.a x43.len x43.cap x43.sz)) then (bif (aB (h52.cell ((h8.next,0).1,(h8.next,0).2+0)) (.slice x40.a x40.len x40.cap x40.sz)) then (bif (aB (h51.cell ((h8.next,0).1,(h8.next,0).2+0)) (.slice x40.a x40.len x40.cap x40.sz)) then (bif (aB (h48.cell ((h8.next,0).1,(h8.next,0).2+0)) (.slice x40.a x40.len x40.cap x40.sz)) then (bif (aB (h45.cell ((h8.next,0).1,(h8.next,0).2+0)) (.slice x40.a x40.len x40.cap x40.sz)) then (bif (aB (h42.cell ((h8.next,0).1,(h8.next,0).2+0)) (.slice x40.a x40.len x40.cap x40.sz)) then (bif (aB (h39.cell ((h8.next,0).1,(h8.next,0).2+0)) (.slice x40.a x40.len x40.cap x40.sz)) then (bif (aB (h38.cell ((h8.next,0).1,(h8.next,0).2+0)) (.slice x40.a x40.len x40.cap x40.sz)) then (bif (aB (h37.cell ((h8.next,0).1,(h8.next,0).2+0)) (.slice x40.a x40.len x40.cap x40.sz)) then (bif (aB (h36.cell ((h8.next,0).1,(h8.next,0).2+0)) (.slice x40.a x40.len x40.cap x40.sz)) then true else false) else false) else false) else false) else false) else false) else false) else false) else false) else false) else false) else false) else false) else false) else false) else false) else false) else false) else false) else false) else false) else false) else false) else false) else false) else false) else false) else false) else false) else false) else false) else false) else false) else false) else false) else false) (
 (uD (((nN (h51.t.get h38.next) (h48.t.get h38.next))&&true)&&(((nN (h48.t.get h38.next) (h45.t.get h38.next))&&true)&&(((nN (h45.t.get h38.next) (h42.t.get h38.next))&&((nN (h45.t.get h37.next) (h42.t.get h37.next))&&true))&&(((nN (h42.t.get h38.next) (h39.t.get h38.next))&&((nN (h42.t.get h37.next) (h39.t.get h37.next))&&true))&&true)))) ((lA (g22 N  h52) fun (x53:Bool) h54=>(bif x53 then(iA (.val zN2) (cK E .eql 29 (.tmp 81) (.const .nilIface) x33.2.1 AV.nilIface) fun (x55:Bool)=>(bif x55 then(iA (.val zK) (h54.cells (h34.next,0) 2) fun (x56:zE1)=>(lA (f31 N (x56.1,x56.2.1,()) h54) fun (x57:zE1) h58=>(iA (.val zK) (h58.cells (h38.next,0) 2) fun (x59:zE1)=>(lA (f31 N (x59.1,x59.2.1,()) h58) fun (x60:zE1) h61=>(lA (f30 N (x57.1,x57.2.1,()) (x60.1,x60.2.1,()) h61) fun (x62:Bool) h63=>(uD (bif (aB (h58.cells (h38.next,0) 2) (.agg (yRJ x59))) then (bif (aB (h54.cells (h38.next,0) 2) (.agg (yRJ x59))) then (bif (aB (h54.cells (h34.next,0) 2) (.agg (yRJ x56))) then true else false) else false) else false) ( some (x62,h63))))))))else(uD true ( some (false,h54)))))else(uD true ( some (false,h54)))))))))))))))))))))))))))))))))))))
def lBi:Ann:=.n
theorem f10_ok (N:Nat):gD Tryz.prog 10 [zM2,zM2] (.val zN2) (fun x h=>f10 N x.1 x.2.1 h):=vD (bA (qBc N) (bA (eBd N) (bA (lAz N) (bA (lBe N) kA)))) N lBi Tryz.f10
end
end Qp
namespace Qp
section
variable {h:Heap} {V:Nat→Prop} {tys:List CTy} {n:Nat} {c:gN tys→List AV} {P:D→Prop}
theorem Rec.els (R:Rec tys n c P) {x:SL} {ys:List D} (hx:Sl h V x ys) (hP:∀ d∈ys,P d):∃ ws,Sees h x ws∧De h V n ys ws:=by
 obtain ⟨ws,s,d⟩:=hx.els;refine ⟨ws,s,?_⟩
 cases ys with
 | nil=>simpa only [De] using d
 | cons y r=>
  have:x.sz=n:=by
   simp only [De] at d;obtain ⟨a,b,_,h1,h2,_⟩:=d;obtain ⟨q,rfl⟩:=R.inv (hP y List.mem_cons_self) h2;rw [← h1,R.len]
  rw [← this];exact d
theorem wV (R:Rec tys n c P) {st e W:Nat} (ha:AppN E st e n W) (hW:W≤1000) {s x:SL} {xs ys:List D} {vs:List AV} (o:OwC h s n vs) (hd:De h V n xs vs) (hs:s.len=xs.length) (hx:Sl h V x ys) (hP:∀ d∈ys,P d)
  (hV:∀ A,V A→s.blk≠some A) (hl:xs.length+ys.length≤1000) :
  ∃ s' h' ws,iB E st st (.slice s.a s.len s.cap s.sz) (.slice x.a x.len x.cap x.sz) h=some (.slice s'.a s'.len s'.cap s'.sz,h')∧OwC h' s' n ws∧De h' V n (xs++ys) ws∧s'.len=(xs++ys).length∧Chg s.blk.toList h h'∧(∀ A,s'.blk=some A→s.blk=some A∨h.next≤A):=by
 obtain ⟨ws,sv,dv⟩:=R.els hx hP;have hz:x.len * n=ws.length:=by rw [dv.length,hx.len]
 obtain ⟨s',h',e1,e2,e3,e4,e5⟩:=yA9 ha sv hz (fun w hw=>by
  have:∀ {ys:List D} {ws:List AV},De h V n ys ws→∀ w∈ws,AV.single w=true:=by
   intro ys
   induction ys with
   | nil=>intro ws d w hw;simp only [De] at d;subst d;cases hw
   | cons y r ih=>
    intro ws d w hw;simp only [De] at d;obtain ⟨a,b,rfl,_,h2,h3⟩:=d;rcases List.mem_append.1 hw with hw | hw
    ·exact h2.single w hw
    ·exact ih h3 w hw
  exact this dv w hw) o (by rw [hs,hx.len];exact Nat.le_trans (Nat.mul_le_mul hl hW) (by decide))
 refine ⟨s',h',vs++ws,e1,e2,De.chg e4 (fun A hA hm=>?_) (hd.append dv),by rw [e3,hs,hx.len,List.length_append],e4,e5⟩
 have:s.blk=some A:=by
  cases hb:s.blk with
  | none=>rw [hb] at hm;cases hm
  | some q=>rw [hb] at hm;simp at hm;rw [hm]
 exact hV A hA this
theorem eAv {h:Heap} {V:Nat→Prop} {s:SL} {n:Nat} {xs:List D} {ws:List AV} (o:OwC h s n ws) (d:De h V n xs ws) (hl:s.len=xs.length):Sl h (fun _=>True) s xs:=by
 refine ⟨hl,o.cap,fun _ _=>trivial,ws,o.sees,?_⟩;have d':=d.weak (W:=fun _=>True) fun _ _ _=>trivial;rcases o with ⟨_,h0,_,_⟩ | ⟨A,cs,st,_,hz,_⟩
 ·have:xs=[]:=List.length_eq_zero_iff.1 (by omega)
  subst this;simpa only [De] using d'
 ·rw [hz];exact d'
theorem yV (v:SL) {β:Type} (K:SL→Option β):iA (.val zL2) (some (SL.av v)) K=K v:=rfl
theorem gA0 (v:SL) (h:Heap) {β:Type} (K:SL→Heap→Option β):aE (.val zL2) (some (.slice v.a v.len v.cap v.sz,h)) K=K v h:=rfl
theorem gX (b:Bool) {β:Type} (K:Bool→Option β):iA (.val zN2) (some (.bool b)) K=K b:=rfl
theorem iX {H H':Heap} {A:Nat} {cs:List AV} (o:H.own A cs) (o':H'.own A cs):nN (H.t.get A) (H'.t.get A)=true:=by
 have e1:H.t.get A=some (.row cs .own):=o.1;have e2:H'.t.get A=some (.row cs .own):=o'.1;rw [e1,e2];show (eqV (.agg cs) (.agg cs)&&oB7 .own .own)=true;rw [lK];rfl
theorem wBj {a b c d:Nat} (ha:a≤1000) (hb:b≤1000) (hc:c≤1000) (hd:d≤1000):dB .i64 (dB .i64 (dB .i64 (Int.ofNat a+Int.ofNat b)+Int.ofNat c)+Int.ofNat d)=((a+b+c+d:Nat):Int):=by
 have e1:Int.ofNat a+Int.ofNat b=((a+b:Nat):Int):=rfl;rw [e1,oK (by omega)];have e2:((a+b:Nat):Int)+Int.ofNat c=((a+b+c:Nat):Int):=rfl;rw [e2,oK (by omega)];have e3:((a+b+c:Nat):Int)+Int.ofNat d=((a+b+c+d:Nat):Int):=rfl;rw [e3,oK (by omega)]
end
theorem nBe {h:Heap} (hp:Qw.pinned h=true) (h4:4≤h.next) (a b:Bs):∃ h',f10 20000 a b h=some (true,h'):=by
 unfold f10;have z1:wB 1500 (Int.ofNat a.length)=decide (1500<a.length):=jU 1500 _;have z2:wB 1500 (Int.ofNat b.length)=decide (1500<b.length):=jU 1500 _;simp only [z1,z2]
 by_cases q:1500<a.length
 ·obtain ⟨w0,e0,_⟩:=bAl hp h4
  simp only [q,decide_true,cond_true,e0,aA];exact ⟨_,rfl⟩
 by_cases q2:1500<b.length
 ·obtain ⟨w0,e0,_⟩:=bAl hp h4
  simp only [q,q2,decide_true,decide_false,cond_true,cond_false,e0,aA];exact ⟨_,rfl⟩
 simp only [q,q2,decide_false,cond_false];obtain ⟨va,wa,ea,h8,ra,ca,sva,swa,xa⟩:=wAc (N:=20000) (s:=a) (by omega) (by omega) (by omega) hp h4;rw [ra,aA]
 try dsimp only
 obtain ⟨h10,p10,d10,oa⟩:=bAv h8 va wa;rw [p10];have ca10:=ca.trans d10;have hp10:=vJ ca10 (by simp) h4 hp;obtain ⟨vb,wb,eb,h12,rb,cb,svb,swb,xb⟩:=wAc (N:=20000) (s:=b) (by omega) (by omega) (by omega) hp10 (Nat.le_trans h4 ca10.next);rw [rb,aA]
 try dsimp only
 obtain ⟨h14,p14,d14,ob⟩:=bAv h12 vb wb;rw [p14];have cb14:=cb.trans d14;have c14:=ca10.trans cb14;have hp14:=vJ c14 (by simp) h4 hp;have h414:=Nat.le_trans h4 c14.next;have xa14:=xa.keep (d10.trans cb14);have xb14:=xb.keep d14;obtain ⟨h17,e17,_⟩:=bAl hp14 h414
 try dsimp only
 rw [xa14.ne,gX]
 cases ea':(rC 20000 a).2 with
 | some x=>
  try dsimp only
  simp only [Option.isSome,cond_true,e17,aA];exact ⟨_,rfl⟩
 | none=>
 simp only [Option.isSome,cond_false];rw [xb14.ne,gX]
 cases eb':(rC 20000 b).2 with
 | some x=>
  try dsimp only
  simp only [Option.isSome,cond_true,e17,aA];exact ⟨_,rfl⟩
 | none=>
 simp only [Option.isSome,cond_false];have oa14:=oa.chg cb14 (by simp);have k1:h14.cell (h8.next,0)=some (SL.av va):=oa14.cell 0;have k2:h14.cell (h8.next,1)=some (SL.av wa):=oa14.cell 1;have k3:h14.cell (h12.next,0)=some (SL.av vb):=ob.cell 0;have k4:h14.cell (h12.next,1)=some (SL.av wb):=ob.cell 1;obtain ⟨q1,q2',q3,q4⟩:=fAa 20000 a;obtain ⟨g1,g2,g3,g4⟩:=fAa 20000 b;simp only [Nat.add_zero,Nat.zero_add,k1,k2,k3,k4,yV];have l1:=sva.len;have l2:=swa.len;have l3:=svb.len;have l4:=swb.len;rw [l1,l2,l3,l4,wBj (by omega) (by omega) (by omega) (by omega)];have z3:∀ n:Nat,wB 256 (n:Int)=decide (256<n):=fun n=>jU 256 n;rw [z3]
 by_cases q5:256<(rC 20000 a).1.1.length+(rC 20000 a).1.2.length+(rC 20000 b).1.1.length+(rC 20000 b).1.2.length
 ·simp only [q5,decide_true,cond_true,e17,aA]
  exact ⟨_,rfl⟩
 simp only [q5,decide_false,cond_false];rw [aAv (by simp;omega),aAv (by simp;omega)];have eab:a++[10]++b=a++10::b:=by simp
 rw [eab];obtain ⟨i1,i2,i3⟩:=wAh (N:=20000) (a:=a) (b:=b) (by omega) (by omega) ea' eb' (by omega);have lab:(a++10::b).length≤3001:=by simp;omega
 generalize a++10::b=t at i1 i2 i3 lab ⊢;obtain ⟨vz,wz,ez,h34,rz,cz,svz,swz,xz⟩:=wAc (N:=20000) (s:=t) (by omega) (by omega) (by omega) hp14 h414;rw [rz,aA]
 try dsimp only
 obtain ⟨h36,p36,d36,oz⟩:=bAv h34 vz wz;rw [p36];have cz36:=cz.trans d36;have c36:=c14.trans cz36
 try dsimp only
 have o37:=vA h36 [];have c37:=qA h36 (.row [] .own);have n37:(h36.push (.row [] .own)).next=h36.next+1:=rfl;generalize h36.push (.row [] .own)=h37 at o37 c37 n37 ⊢;have o38:=vA h37 [];have c38:=qA h37 (.row [] .own);have n38:(h37.push (.row [] .own)).next=h37.next+1:=rfl;generalize h37.push (.row [] .own)=h38 at o38 c38 n38 ⊢;have o39:=vA h38 [SL.av sl0,SL.av sl0];have c39:=qA h38 (.row [SL.av sl0,SL.av sl0] .own);have n39:(h38.push (.row [SL.av sl0,SL.av sl0] .own)).next=h38.next+1:=rfl;have r39:h38.push (.row [(.slice none 0 0 0),(.slice none 0 0 0)] .own)=h38.push (.row [SL.av sl0,SL.av sl0] .own):=rfl;rw [r39];generalize h38.push (.row [SL.av sl0,SL.av sl0] .own)=h39 at o39 c39 n39 ⊢;have cc39:=(c37.trans c38).trans c39;have m8:h8.next<h36.next:=by have:=oa.2;have:=(cb14.trans cz36).next;omega
 have m12:h12.next<h36.next:=by have:=ob.2;have:=cz36.next;omega
 have m34:h34.next<h36.next:=oz.2;have sa:Sl h39 (fun A=>A<h36.next) va (rC 20000 a).1.1:=((sva.chg ((d10.trans cb14).trans cz36) (by simp)).weak (W:=fun A=>A<h36.next) (fun A _ hA=>hA)).chg cc39 (by simp);have sa':Sl h39 (fun A=>A<h36.next) wa (rC 20000 a).1.2:=((swa.chg ((d10.trans cb14).trans cz36) (by simp)).weak (W:=fun A=>A<h36.next) (fun A _ hA=>hA)).chg cc39 (by simp);have sb:Sl h39 (fun A=>A<h36.next) vb (rC 20000 b).1.1:=((svb.chg (d14.trans cz36) (by simp)).weak (W:=fun A=>A<h36.next) (fun A _ hA=>hA)).chg cc39 (by simp);have sb':Sl h39 (fun A=>A<h36.next) wb (rC 20000 b).1.2:=((swb.chg (d14.trans cz36) (by simp)).weak (W:=fun A=>A<h36.next) (fun A _ hA=>hA)).chg cc39 (by simp);have oa36:=oa14.chg cz36 (by simp);have ob36:=ob.chg cz36 (by simp);have oa39:=oa36.chg cc39 (by simp);have ob39:=ob36.chg cc39 (by simp);have o37_39:=o37.chg (c38.trans c39) (by simp);have o38_39:=o38.chg c39 (by simp);have rd:∀ {H:Heap} {A:Nat} {v w:SL},H.own A [SL.av v,SL.av w]→H.cell (A,0)=some (SL.av v)∧H.cell (A,1)=some (SL.av w):=fun o=>⟨o.cell 0,o.cell 1⟩;have mem:∀ {s:SL} {A:Nat},A∈s.blk.toList→s.blk=some A:=fun {s A} hm=>by
  cases hb:s.blk with
  | none=>rw [hb] at hm;cases hm
  | some q=>rw [hb] at hm;simp at hm;rw [hm]
 -- what is appended
 have w0:OwC h39 ⟨some (h36.next,0),0,0,5⟩ 5 []:=.inr ⟨h36.next,[],.own,rfl,rfl,o37_39.2,o37_39.1,by simp,rfl,Nat.le_refl _,.inr ⟨rfl,by simp⟩⟩;obtain ⟨s41,h42,ws41,e42,w42,d42,l42,c42,b42⟩:=wV wA3 iAx (by decide) w0 (xs:=[]) (V:=fun A=>A<h36.next) (by simp only [De]) rfl sa q1 (fun A hA he=>by simp [SL.blk] at he;omega) (by simp;omega);have e42':iB E 22 22 (.slice (some (h36.next,0)) 0 0 5) (.slice va.a va.len va.cap va.sz) h39=some (.slice s41.a s41.len s41.cap s41.sz,h42):=e42;have b42':∀ A,s41.blk=some A→A=h36.next∨h39.next≤A:=fun A hA=>(b42 A hA).imp (fun e=>by simp [SL.blk] at e;omega) id;have c42':Chg [h36.next] h39 h42:=c42;have cc42:Chg [] h36 h42:=cc39.step c42' (fun A hA hl=>by simp at hA;omega);rw [(rd oa39).1,yV,e42',gA0]
 try dsimp only
 have ob42:=ob36.chg cc42 (by simp);have oa42:=oa36.chg cc42 (by simp);have sb42:=sb.chg c42' (fun A hA hm=>by simp at hm;omega);rw [(rd ob42).1,yV];obtain ⟨s44,h45,ws44,e45,w45,d45,l45,c45,b45⟩:=wV wA3 iAx (by decide) w42 d42 l42 sb42 g1 (fun A hA he=>by rcases b42' A he with e | e <;> omega) (by simp;omega);have b45':∀ A,s44.blk=some A→A=h36.next∨h39.next≤A:=fun A hA=>by
  rcases b45 A hA with e | e
  ·exact b42' A e
  ·exact .inr (Nat.le_trans c42.next e)
 rw [e45,gA0]
 try dsimp only
 have c45h:∀ A,A∈s41.blk.toList→A=h36.next∨h39.next≤A:=fun A hA=>b42' A (mem hA);have cc45:Chg [] h36 h45:=cc42.step c45 (fun A hA hl=>by rcases c45h A hA with e | e <;> omega);have oa45:=oa36.chg cc45 (by simp);have ob45:=ob36.chg cc45 (by simp);have sa45:=(sa'.chg c42' (fun A hA hm=>by simp at hm;omega)).chg c45 (fun A hA hm=>by rcases c45h A hm with e | e <;> omega);rw [(rd oa45).2,yV];have o38_42:=o38_39.chg c42' (by simp;omega);have o38_45:=o38_42.chg c45 (fun hm=>by rcases c45h _ hm with e | e <;> omega);have w1:OwC h45 ⟨some (h37.next,0),0,0,10⟩ 10 []:=.inr ⟨h37.next,[],.own,rfl,rfl,o38_45.2,o38_45.1,by simp,rfl,Nat.le_refl _,.inr ⟨rfl,by simp⟩⟩;obtain ⟨s47,h48,ws47,e48,w48,d48,l48,c48,b48⟩:=wV uA9 jAx (by decide) w1 (xs:=[]) (V:=fun A=>A<h36.next) (by simp only [De]) rfl sa45 q2' (fun A hA he=>by simp [SL.blk] at he;omega) (by simp;omega);have e48':iB E 23 23 (.slice (some (h37.next,0)) 0 0 10) (.slice wa.a wa.len wa.cap wa.sz) h45=some (.slice s47.a s47.len s47.cap s47.sz,h48):=e48;have b48':∀ A,s47.blk=some A→A=h37.next∨h45.next≤A:=fun A hA=>(b48 A hA).imp (fun e=>by simp [SL.blk] at e;omega) id;have c48':Chg [h37.next] h45 h48:=c48;have cc48:Chg [] h36 h48:=cc45.step c48' (fun A hA hl=>by simp at hA;omega);rw [e48',gA0]
 try dsimp only
 have oa48:=oa36.chg cc48 (by simp);have ob48:=ob36.chg cc48 (by simp);rw [(rd ob48).2,yV];have sb48:=((sb'.chg c42' (fun A hA hm=>by simp at hm;omega)).chg c45 (fun A hA hm=>by rcases c45h A hm with e | e <;> omega)).chg c48' (fun A hA hm=>by simp at hm;omega);have n45:h39.next≤h45.next:=Nat.le_trans c42.next c45.next;obtain ⟨s50,h51,ws50,e51,w51,d51,l51,c51,b51⟩:=wV uA9 jAx (by decide) w48 d48 l48 sb48 g2 (fun A hA he=>by rcases b48' A he with e | e <;> omega) (by simp;omega);rw [e51,gA0]
 try dsimp only
 have c51h:∀ A,A∈s47.blk.toList→A=h37.next∨h45.next≤A:=fun A hA=>b48' A (mem hA);have cc51:Chg [] h36 h51:=cc48.step c51 (fun A hA hl=>by rcases c51h A hA with e | e <;> omega);have oa51:=oa36.chg cc51 (by simp);have ob51:=ob36.chg cc51 (by simp);have o39_42:=o39.chg c42' (by simp;omega);have o39_45:=o39_42.chg c45 (fun hm=>by rcases c45h _ hm with e | e <;> omega);have o39_48:=o39_45.chg c48' (by simp;omega);have o39_51:=o39_48.chg c51 (fun hm=>by rcases c51h _ hm with e | e <;> omega);have st:h51.store (h38.next,0) [(.slice s44.a s44.len s44.cap s44.sz),(.slice s50.a s50.len s50.cap s50.sz)]=some (h51.put h38.next (.row [SL.av s44,SL.av s50] .own)):=o39_51.store rfl;rw [st,dA];have c52:=o39_51.put [SL.av s44,SL.av s50];have o52:=yA o39_51 [SL.av s44,SL.av s50];generalize h51.put h38.next (.row [SL.av s44,SL.av s50] .own)=h52 at c52 o52 ⊢
 try dsimp only
 have cc52:Chg [] h36 h52:=cc51.step c52 (fun A hA hl=>by simp at hA;omega);have oa52:=oa36.chg cc52 (by simp);have ob52:=ob36.chg cc52 (by simp);have oa37:=oa36.chg c37 (by simp);have ob37:=ob36.chg c37 (by simp);have oa38:=oa37.chg c38 (by simp);have ob38:=ob37.chg c38 (by simp);have same:∀ (v:SL),aB (some (SL.av v)) (.slice v.a v.len v.cap v.sz)=true:=fun v=>wC _;simp only [(rd oa36).1,(rd oa36).2,(rd ob36).1,(rd ob36).2,(rd oa37).1,(rd oa37).2,(rd ob37).1,(rd ob37).2,(rd oa38).1,(rd oa38).2,(rd ob38).1,(rd ob38).2,(rd oa39).1,(rd oa39).2,(rd ob39).1,(rd ob39).2,(rd oa42).1,(rd oa42).2,(rd ob42).1,(rd ob42).2,(rd oa45).1,(rd oa45).2,(rd ob45).1,(rd ob45).2,(rd oa48).1,(rd oa48).2,(rd ob48).1,(rd ob48).2,(rd oa51).1,(rd oa51).2,(rd ob51).1,(rd ob51).2,(rd oa52).1,(rd oa52).2,(rd ob52).1,(rd ob52).2,same,cond_true,aC,iX o39_51 o39_48,iX o39_48 o39_45,iX o39_45 o39_42,iX o39_42 o39,iX o38_45 o38_42,iX o38_42 o38_39,Bool.and_self];have hp52:=vJ cc52 (by simp) (Nat.le_trans h414 cz36.next) (vJ cz36 (by simp) h414 hp14);obtain ⟨h54,e54,c54⟩:=bAl hp52 (Nat.le_trans (Nat.le_trans h414 cz36.next) cc52.next);rw [e54,aA,cond_true];have xz54:=xz.keep (d36.trans (cc52.trans c54));rw [xz54.eq,i1,gX];simp only [Option.isNone,cond_true];have cc54:=cc52.trans c54;have oz54:=oz.chg cc54 (by simp);rw [nY oz54];obtain ⟨y1,y2,y3,y4⟩:=fAa 20000 t;obtain ⟨xa',ya',h58,e58,c58,sx58,sy58⟩:=gB0 (N:=20000) (by decide) y1 y2 (by omega) (by omega) (svz.chg (d36.trans cc54) (by simp)) (swz.chg (d36.trans cc54) (by simp));have e58':f31 20000 (vz,wz,()) h54=some ((xa',ya',()),h58):=e58
 try dsimp only
 rw [e58',aA];have o52_54:=o52.chg c54 (by simp);have o52_58:=o52_54.chg c58 (by simp)
 try dsimp only
 rw [nY o52_58]
 -- the two slices that were made
 have q44:∀ A,s44.blk=some A→A≠h37.next∧A<h45.next:=fun A hA=>⟨by rcases b45' A hA with e | e <;> omega,w45.lt A hA⟩;have q44b:∀ A,s44.blk=some A→A≠h38.next:=fun A hA=>by rcases b45' A hA with e | e <;> omega
 have q50b:∀ A,s50.blk=some A→A≠h38.next:=fun A hA=>by
  rcases b51 A hA with e | e
  ·rcases b48' A e with e' | e' <;> omega
  ·have:=c48.next;omega
 have w48b:=w45.chg c48' (fun A hA=>by have:=q44 A hA;simp;exact this.1);have w51b:=w48b.chg c51 (fun A hA hm=>by have:=q44 A hA;rcases c51h A hm with e | e <;> omega);have w52:=w51b.chg c52 (fun A hA=>by have:=q44b A hA;simpa using this);have w52f:=w51.chg c52 (fun A hA=>by have:=q50b A hA;simpa using this);have dd:De h52 (fun A=>A<h36.next) 5 ([]++(rC 20000 a).1.1++(rC 20000 b).1.1) ws44:=((d45.chg c48' (fun A hA hm=>by simp at hm;omega)).chg c51 (fun A hA hm=>by rcases c51h A hm with e | e <;> omega)).chg c52 (fun A hA hm=>by simp at hm;omega);have ddf:De h52 (fun A=>A<h36.next) 10 ([]++(rC 20000 a).1.2++(rC 20000 b).1.2) ws50:=d51.chg c52 (fun A hA hm=>by simp at hm;omega);have sw:=(eAv w52 dd l45).chg (c54.trans c58) (by simp);have swf:=(eAv w52f ddf l51).chg (c54.trans c58) (by simp);rw [List.nil_append] at sw swf;have tS:∀ x∈(rC 20000 a).1.1++(rC 20000 b).1.1,isSt x:=fun x hx=>by
  rcases List.mem_append.1 hx with hx | hx
  ·exact q1 x hx
  ·exact g1 x hx
 have tF:∀ x∈(rC 20000 a).1.2++(rC 20000 b).1.2,isFu x:=fun x hx=>by
  rcases List.mem_append.1 hx with hx | hx
  ·exact q2' x hx
  ·exact g2 x hx
 obtain ⟨xb',yb',h61,e61,c61,sx61,sy61⟩:=gB0 (N:=20000) (by decide) tS tF (by rw [List.length_append];omega) (by rw [List.length_append];omega) sw swf;have e61':f31 20000 (s44,s50,()) h58=some ((xb',yb',()),h61):=e61
 try dsimp only
 rw [e61',aA];rw [i2] at sx58;rw [i3] at sy58;obtain ⟨h63,e63,c63⟩:=fBd (N:=20000) (fun o ho=>by obtain ⟨y,hy,rfl⟩:=List.mem_map.1 ho;exact kAy (tS y hy)) (fun o ho=>by obtain ⟨y,hy,rfl⟩:=List.mem_map.1 ho;exact lAy (tF y hy)) (by rw [List.length_map,List.length_append];omega) (by rw [List.length_map,List.length_append];omega)
  ((sx58.weak (W:=fun _=>True) (fun _ _ _=>trivial)).chg c61 (by simp)) (sx61.weak (W:=fun _=>True) (fun _ _ _=>trivial)) ((sy58.weak (W:=fun _=>True) (fun _ _ _=>trivial)).chg c61 (by simp)) (sy61.weak (W:=fun _=>True) (fun _ _ _=>trivial)) (by decide)
 try dsimp only
 rw [e63,aA];have v1:h58.cells (h38.next,0) 2=some (.agg [SL.av s44,SL.av s50]):=o52_58.cells (j:=0) (m:=2) (Nat.le_refl _);have v2:h54.cells (h38.next,0) 2=some (.agg [SL.av s44,SL.av s50]):=o52_54.cells (j:=0) (m:=2) (Nat.le_refl _);have v3:h54.cells (h34.next,0) 2=some (.agg [SL.av vz,SL.av wz]):=oz54.cells (j:=0) (m:=2) (Nat.le_refl _);have s1:aB (some (.agg [SL.av s44,SL.av s50])) (.agg [(.slice s44.a s44.len s44.cap s44.sz),(.slice s50.a s50.len s50.cap s50.sz)])=true:=aJ _;have s2:aB (some (.agg [SL.av vz,SL.av wz])) (.agg [(.slice vz.a vz.len vz.cap vz.sz),(.slice wz.a wz.len wz.cap wz.sz)])=true:=aJ _;simp only [v1,v2,v3,s1,s2,cond_true,aC];exact ⟨_,rfl⟩
theorem itemslaw_true {H:Type} (h:Heap) (hp:Qw.pinned h=true) (h2:4≤h.next) (vs:List AV) (ds:List (DataW H)) (hr:RdArgs Tryz.prog h [9,9] vs ds):∃ xs h',VTy.tos [.one .str,.one .str] xs=vs∧(fun (x:lH [.one .str,.one .str]) h=>f10 20000 x.1 x.2.1 h) xs h=some (true,h'):=by
 obtain ⟨cs1,d1,vs1,ds1,rfl,rfl,r1,hr⟩:=hr.cons_inv;obtain ⟨cs2,d2,vs2,ds2,rfl,rfl,r2,hr⟩:=hr.cons_inv;obtain ⟨rfl,rfl⟩:=hr.nil_inv;obtain ⟨s,rfl,rfl,_⟩:=r1.str_inv Tryz.underlying9;obtain ⟨t,rfl,rfl,_⟩:=r2.str_inv Tryz.underlying9;obtain ⟨h',e⟩:=nBe hp h2 s t;refine ⟨(s,t,()),h',?_,e⟩;have a1:∀ v,lA4 Tryz.prog 9 [v]=v:=by intro v;kernel_rfl
 rw [a1,a1];rfl
end Qp
open Go.ChangeShapes Go.WideShapes
namespace Qp
open Go.Proofs.YtkcjphhjmlienaaGreatDoor
theorem et:Tryz.prog.globalNamed "errors.errorType" = some 1:=by kernel_rfl
theorem gS:Tryz.prog.globalNamed "strconv.ErrSyntax" = some 3:=by kernel_rfl
theorem gSt:(Tryz.prog.globals[3]?).map (·.type)=some 29:=by kernel_rfl
theorem rt:(Tryz.prog.cutTypes.find? (·.1 == "internal/reflectlite.rtype")).map (·.2)=some 232:=by kernel_rfl
theorem oBe:((List.range 306).filter fun t=>Tryz.prog.rowNamed t [101,114,114,111,114])=[29]:=by kernel_rfl
theorem mBi:Tryz.prog.types.size=306:=by kernel_rfl
theorem hand:typeHandle Tryz.prog 29=.pointer (some ⟨7,29,none⟩):=by kernel_rfl
theorem star : "*" ++ "errors.errorString" = "*errors.errorString":=by decide
theorem pBe (u:TypeId) (h:Tryz.prog.typeName? 3 u=some "*errors.errorString"):u=275:=
 typeName_ptr_named (nm:= "errors.errorString") (by rw [star];kernel_rfl) (by kernel_rfl) (by decide) u (by rw [star];exact h)
theorem nBi:∃ ms,Tryz.prog.underlying 29=some (.interface ms):=by
 have:(match Tryz.prog.underlying 29 with | some (.interface _)=>true | _=>false)=true:=by kernel_rfl
 split at this
 ·exact ⟨_,by assumption⟩
 ·cases this
theorem qBe:Tryz.prog.underlying 275=some (.pointer 277):=by kernel_rfl
theorem rBe:∃ f:Field,Tryz.prog.underlying 277=some (.struct #[f])∧f.type=9∧f.offset=0:=by
 have:(match Tryz.prog.underlying 277 with | some (.struct fs)=>(match fs.toList with | [f]=>Nat.beq f.type 9&&Nat.beq f.offset 0 | _=>false) | _=>false)=true:=by kernel_rfl
 split at this
 ·rename_i fs hfs
  split at this
  ·rename_i f hf
   simp only [Bool.and_eq_true] at this
   have:fs = #[f]:=by rw [← Array.toList_inj,hf]
   subst this;exact ⟨f,hfs,Nat.eq_of_beq_eq_true (by simp_all),Nat.eq_of_beq_eq_true (by simp_all)⟩
  ·cases this
 ·cases this
theorem oBi:Tryz.prog.underlying 9=some .string:=by kernel_rfl
theorem yBj:Tryz.prog.cellsOf 277=1:=by kernel_rfl
theorem cS9:Tryz.prog.cellsOf 9=1:=by kernel_rfl
theorem tBe {W:World} (h:laidMetH Tryz.prog Rows.parseDeepRow.laid W):W.var? Tryz.prog "errors.errorType" = some #[.iface 232 (.agg #[.pointer (some ⟨7,29,none⟩)])]:=by
 have h':laidMet Tryz.prog (Rows.parseDeepRow.laid.filter fun x=>x.2.handleName?.isNone) W∧handlesMet Tryz.prog [("errors.errorType",Rows.laid_errors_errorType)] W:=h;have h2:=h'.2 _ (List.mem_singleton.2 rfl);obtain ⟨name,u,ty,e1,e2,e3,e4,e5⟩:=h2;have en:name=[101,114,114,111,114]:=(Option.some.inj e1).symm;subst en;obtain rfl:=Option.some.inj (rt.symm.trans e2);have hm:ty∈(List.range 306).filter fun t=>Tryz.prog.rowNamed t [101,114,114,111,114]:=List.mem_filter.2 ⟨List.mem_range.2 (by rw [← mBi];exact e3),e4⟩;rw [oBe] at hm;obtain rfl:=List.mem_singleton.1 hm;rw [hand] at e5;exact e5
theorem uBe {W:World} (h:laidMetH Tryz.prog Rows.parseDeepRow.laid W):∃ (a:Addr) (s:ByteArray),W.var? Tryz.prog "strconv.ErrSyntax" = some #[.iface 275 (.pointer (some a))]∧W.cell? a=some (.string s):=by
 have h':laidMet Tryz.prog [("math/bits.deBruijn32tab",Rows.laid_math_bits_deBruijn32tab),("math/bits.deBruijn64tab",Rows.laid_math_bits_deBruijn64tab),("internal/strconv.uint64pow10",Rows.laid_internal_strconv_uint64pow10),("strconv.ErrRange",Rows.laid_strconv_ErrRange),("strconv.ErrSyntax",Rows.laid_strconv_ErrSyntax)] W∧handlesMet Tryz.prog [("errors.errorType",Rows.laid_errors_errorType)] W:=h;obtain ⟨ms,hms⟩:=nBi;obtain ⟨f,hf,hft,hfo⟩:=rBe;obtain ⟨a,s,h1,h2,_⟩:=laid_sentinel h'.1.tail.tail.tail.tail gS gSt hms pBe qBe hf hft hfo oBi yBj cS9;exact ⟨a,s,h1,h2⟩
theorem big:7<(begin Tryz.prog (fun _ _=>0) default).world.heap.size:=by
 have:Nat.blt 7 (begin Tryz.prog (fun _ _=>0) default).world.heap.size=true:=by kernel_rfl
 simpa [Nat.blt_eq] using this
theorem pBi:Tryz.prog.globals.size=7:=by kernel_rfl
theorem tAd {W:World} {n:String} {g:Nat} {v:Value} (hg:Tryz.prog.globalNamed n=some g) (hv:W.var? Tryz.prog n=some #[v]):∃ e,W.shape? g=some (e,1):=by
 unfold World.var? at hv;rw [hg] at hv;have hv:(match W.heap[g]? with | some (Obj.cells cs _ _)=>some cs | _=>(Option.none:Option (Array Value)))=some #[v]:=hv
 cases hq:W.heap[g]? with
 | none=>rw [hq] at hv;cases hv
 | some o=>
  rw [hq] at hv
  cases o with
  | cells cs e fz=>
   simp only [Option.some.injEq] at hv;subst hv;exact ⟨e,by simp only [World.shape?,hq];rfl⟩
  | _=>cases hv
def bB7 (W:World):Ai.Loc:=match W.cell? ⟨3,0,none⟩ with
 | some (.iface _ (.pointer (some a)))=>⟨a.block,a.off,0,false⟩
 | _=>⟨0,0,0,false⟩
theorem start_hr {W:World} (h:laidMetH Tryz.prog Rows.parseDeepRow.laid W) (hs:W.ShapedOpen Tryz.prog):HR (Qy.mu0 (bB7 W)) Qy.h0 W:=by
 have hv:=tBe h;have hc:W.cell? ⟨1,0,none⟩=some (.iface 232 (.agg #[.pointer (some ⟨7,29,none⟩)])):=by simpa using World.var?_cell et hv 0
 obtain ⟨o,_,ho,_⟩:=hs.2 7 (by rw [pBi];omega) big;have h7:7<W.heap.size:=(Array.getElem?_eq_some_iff.1 ho).1;obtain ⟨e1,s1⟩:=tAd et hv;obtain ⟨a,s,hv3,hca⟩:=uBe h;have hc3:W.cell? ⟨3,0,none⟩=some (.iface 275 (.pointer (some a))):=by simpa using World.var?_cell gS hv3 0
 obtain ⟨e3,s3⟩:=tAd gS hv3;have hl:bB7 W=⟨a.block,a.off,0,false⟩:=by unfold bB7;rw [hc3]
 have ha:a=⟨a.block,a.off,none⟩∧a.block<W.heap.size:=by
  unfold World.cell? at hca
  cases hq:W.heap[a.block]? with
  | none=>rw [hq] at hca;cases hca
  | some o=>
   rw [hq] at hca
   cases o with
   | cells cs e fz=>
    obtain ⟨ab,ao,sp⟩:=a
    cases sp with
    | some x=>simp at hca
    | none=>exact ⟨rfl,(Array.getElem?_eq_some_iff.1 hq).1⟩
   | _=>cases hca
 rw [hl];exact Qy.vAy h7 s1 hc s3 (by rw [hc3];simp only;rw [← ha.1]) ha.2
theorem start_pinned {h:Heap} (hl:HLe Qy.h0 h):Qw.pinned h=true∧4≤h.next:=Qy.yAu hl
end Qp
end Go.Proofs.YtkcjphhjmlienaaGreatDoor
