import Derived.Test.YtkcjphhjmlienaaGreatDoorAi1
import Derived.KernelRfl
import Derived.ProofKit
import Derived.IntWalk
import Derived.Deep.Slices
import Derived.ChangeReads
import Derived.OpenShut
/- A verified evaluator for the model of the program: what it evaluates is what the program computes, whatever else the memory holds; part 2. Conditions: no package variables. -/
namespace Go.Proofs.YtkcjphhjmlienaaGreatDoor
set_option linter.unusedVariables false
set_option linter.unusedSimpArgs false
namespace Ai
namespace Tr
variable {α:Type}
def restrict (keep:Nat→Bool):Tr α→Tr α
 | nil=>nil
 | node l v r=>node (restrictL (fun m=>keep (2 * m+1)) l) (bif keep 0 then v else none) (restrictL (fun m=>keep (2 * m+2)) r)
where restrictL (keep:Nat→Bool):Tr α→Tr α
 | nil=>nil
 | node l v r=>node (restrictL (fun m=>keep (2 * m+1)) l) (bif keep 0 then v else none) (restrictL (fun m=>keep (2 * m+2)) r)
theorem get_restrict:∀ (t:Tr α) (keep:Nat→Bool) (n:Nat),(restrict.restrictL keep t).get n=bif keep n then t.get n else none:=by
 intro t
 induction t with
 | nil=>intro keep n;simp [restrict.restrictL,get]
 | node l v r ihl ihr=>
  intro keep n;simp only [restrict.restrictL,get]
  by_cases hn:n=0
  ·subst hn;simp only [show Nat.beq 0 0=true from rfl,cond_true]
  ·rw [bf hn];simp only [cond_false]
   by_cases hp:n % 2=1
   ·rw [bt hp];simp only [cond_true];rw [ihl]
    rw [show 2 * (n / 2)+1=n from by omega]
   ·rw [bf hp];simp only [cond_false];rw [ihr]
    rw [show 2 * (n / 2-1)+2=n from by omega]
end Tr
section
variable {E:Env} {P:Program} {call:CallF} {fr fr2:Fr}
theorem kD {n:Nat}:∀ {l:List Nat},iP n l=true↔n∈l
 | []=>by simp [iP]
 | x::r=>by
  simp only [iP]
  by_cases h:x=n
  ·subst h;rw [bt rfl];simp
  ·rw [bf h];simp only [cond_false,List.mem_cons];rw [kD]
   exact ⟨.inr,fun h'=>h'.resolve_left (fun e=>h e.symm)⟩
theorem gAb:∀ {l:List Operand} {t:Nat},Operand.tmp t∈l→t∈oAv l
 | [],t,h=>by simp at h
 | x::r,t,h=>by
  simp only [oAv,List.mem_append];rcases List.mem_cons.1 h with rfl | h
  ·exact .inl (by simp [pAy])
  ·exact .inr (gAb h)
theorem vR {l:List Operand} (h:∀ x∈l,uG fr x=uG fr2 x):vH fr l=vH fr2 l:=by
 induction l with
 | nil=>rfl
 | cons x r ih=>simp only [vH];rw [h x (by simp),ih fun y hy=>h y (by simp [hy])]
theorem eA1 {l:List (Nat×Operand)} (h:∀ x∈l.map (·.2),uG fr x=uG fr2 x):gH fr l=gH fr2 l:=by
 induction l with
 | nil=>rfl
 | cons x r ih=>obtain ⟨i,x⟩:=x;simp only [gH];rw [h x (by simp),ih fun y hy=>h y (by simp at hy ⊢;exact .inr hy)]
theorem iAb {x:Option Operand} (h:∀ y∈x.toList,uG fr y=uG fr2 y):fA4 fr x=fA4 fr2 x:=by
 cases x with
 | none=>rfl
 | some y=>simp only [fA4];rw [h y (by simp)]
theorem jAp {o:Op} {h:Heap} (hc:∀ x∈o.operands.toList,uG fr x=uG fr2 x):eI E call fr o h=eI E call fr2 o h:=by
 cases o
 case call c=>
  simp only [eI,eAo];simp only [Op.operands,Call.operands] at hc;have h1:vH fr c.args.toList=vH fr2 c.args.toList:=vR fun x hx=>hc x (by simp [hx]);rw [h1]
  cases hcal:c.callee with
  | builtin b=>rfl
  | invoke r m=>have:=hc r (by simp [hcal]);simp only [this]
  | value f=>have:=hc f (by simp [hcal]);simp only [this]
 case build t ps=>
  simp only [eI,opA];rw [eA1 (fr2:=fr2) fun x hx=>hc x (by simpa [Op.operands] using hx)]
 case buildSlice t n ps=>
  simp only [eI,opA];rw [eA1 (fr2:=fr2) fun x hx=>hc x (by simpa [Op.operands] using hx)]
 case makeFunc fn first captured=>
  simp only [eI,opA];rw [vR (fr2:=fr2) (l:=first.toList) fun x hx=>hc x (by simp only [Op.operands,Array.toList_append,List.mem_append];exact .inl hx)];rw [vR (fr2:=fr2) (l:=captured.toList) fun x hx=>hc x (by simp only [Op.operands,Array.toList_append,List.mem_append];exact .inr hx)]
 case slice t x lo hi mx=>
  cases mx with
  | some m=>rfl
  | none=>
   simp only [eI,opA,op1];have h1:=hc x (by simp [Op.operands]);have h2:fA4 fr lo=fA4 fr2 lo:=iAb fun y hy=>hc y (by simp [Op.operands] at hy ⊢;simp [hy]);have h3:fA4 fr hi=fA4 fr2 hi:=iAb fun y hy=>hc y (by simp [Op.operands] at hy ⊢;simp [hy]);rw [h1,h2,h3]
 case makeMap t r=>cases r <;> rfl
 case lookup t m k b=>
  have h1:=hc m (by simp [Op.operands]);have h2:=hc k (by simp [Op.operands]);simp only [eI,opA,op2,h1,h2]
 case mapUpdate t m k x=>
  have h1:=hc m (by simp [Op.operands]);have h2:=hc k (by simp [Op.operands]);have h3:=hc x (by simp [Op.operands]);simp only [eI,opA,op3,h1,h2,h3]
 case insert t m k x=>
  have h1:=hc m (by simp [Op.operands]);have h2:=hc k (by simp [Op.operands]);have h3:=hc x (by simp [Op.operands]);simp only [eI,opA,op3,h1,h2,h3]
 all_goals first
  | rfl
  | (simp only [eI,opA,op1,op2];simp [Op.operands] at hc;simp only [hc])
theorem fA5 {ops:List Oper} {o:Oper} {h:Heap} (hc:∀ t,t∈oE ops o→fr.get t=fr2.get t):dE E call ops fr o h=dE E call ops fr2 o h:=by
 have h1:∀ x∈o.op.operands.toList,uG fr x=uG fr2 x:=by
  intro x hx
  cases x with
  | tmp t=>exact hc t (by simp only [oE,List.mem_append];exact .inl (gAb hx))
  | _=>rfl
 have h2:vE ops fr o=vE ops fr2 o:=by
  unfold vE
  cases hg:o.guard with
  | none=>rfl
  | some p=>
   obtain ⟨j,want⟩:=p;simp only
   have:bG ops fr j=bG ops fr2 j:=by
    unfold bG
    cases ho:ops[j]? with
    | none=>rfl
    | some x=>
     simp only
     cases hd:x.dst with
     | none=>rfl
     | some d=>
      simp only;rw [hc d (by simp only [oE,List.mem_append];exact .inr (by simp [iA0,hg,ho,hd]))]
   have hun:vQ ops fr j=vQ ops fr2 j:=by
    unfold vQ
    cases ho:ops[j]? with
    | none=>rfl
    | some x=>
     simp only
     cases hd:x.dst with
     | none=>rfl
     | some d=>
      simp only;rw [hc d (by simp only [oE,List.mem_append];exact .inr (by simp [iA0,hg,ho,hd]))]
   rw [this,hun]
 unfold dE;rw [h2,jAp h1]
theorem mP {h h':Heap} {v:Option AV} {x:AV} (hx:lD h v=some (x,h')):h'=h:=(iC hx).2
theorem uB7 {o:Op} {h h':Heap} {x:AV} (hk:bC o=0) (hx:eI E call fr o h=some (x,h')):h'=h∧∀ h2,eI E call fr o h2=some (x,h2):=by
 have key:∀ {v:Option AV},lD h v=some (x,h')→h'=h∧∀ h2,lD h2 v=some (x,h2):=by
  intro v hv;obtain ⟨rfl,rfl⟩:=iC hv;exact ⟨rfl,fun _=>rfl⟩
 have k1:∀ {y:Operand} {f:AV→Option AV},op1 fr y (fun v=>lD h (f v))=some (x,h')→h'=h∧∀ h2,op1 fr y (fun v=>lD h2 (f v))=some (x,h2):=by
  intro y f hv;obtain ⟨v,h1,h2⟩:=wD hv;obtain ⟨h3,h4⟩:=key h2;exact ⟨h3,fun h5=>by simp only [op1,h1];exact h4 h5⟩
 have k2:∀ {y z:Operand} {f:AV→AV→Option AV},op2 fr y z (fun v u=>lD h (f v u))=some (x,h')→h'=h∧∀ h2,op2 fr y z (fun v u=>lD h2 (f v u))=some (x,h2):=by
  intro y z f hv;obtain ⟨v,u,h1,h1',h2⟩:=kH hv;obtain ⟨h3,h4⟩:=key h2;exact ⟨h3,fun h5=>by simp only [op2,h1,h1'];exact h4 h5⟩
 cases o <;> simp [bC] at hk
 case move=>exact key hx
 case assign=>exact key hx
 case pick c a b=>
  simp only [eI,opA] at hx ⊢;obtain ⟨v,h1,h2⟩:=wD hx;cases v <;> (try (simp at h2;done))
  rename_i bb;cases bb <;> (obtain ⟨h3,h4⟩:=key h2;exact ⟨h3,fun h5=>by simp only [op1,h1];exact h4 h5⟩)
 case build t ps=>
  simp only [eI,opA] at hx ⊢
  cases hp:gH fr ps.toList with
  | none=>simp [hp] at hx
  | some l=>simp only [hp] at hx ⊢;exact key hx
 case nilCheck=>exact k1 hx
 case binOp=>exact k2 hx
 case unOp=>exact k1 hx
 case makeInterface t y=>
  simp only [eI,opA] at hx ⊢
  split at hx
  ·simp at hx
  ·rename_i d n1 hu
   obtain ⟨v,h1,h2⟩:=wD hx;simp only [Option.some.injEq,Prod.mk.injEq] at h2;obtain ⟨rfl,rfl⟩:=h2;refine ⟨rfl,fun h5=>?_⟩;simp only [op1,h1]
  ·simp at hx
 case makeFunc fn first captured=>
  simp only [eI,opA] at hx ⊢
  cases h1:vH fr first.toList with
  | none=>simp [h1] at hx
  | some l=>
   cases h2:vH fr captured.toList with
   | none=>simp [h1,h2] at hx
   | some m=>
    simp only [h1,h2,Option.some.injEq,Prod.mk.injEq] at hx ⊢;obtain ⟨rfl,rfl⟩:=hx;exact ⟨rfl,fun h5=>by simp⟩
 case fieldAddr=>exact k1 hx
 case field=>exact k1 hx
 case indexAddr=>exact k2 hx
 case index=>exact k2 hx
 case typeAssert=>exact k1 hx
 case extract t i=>
  simp only [eI,opA] at hx ⊢;obtain ⟨v,h1,h2⟩:=wD hx;cases v <;> simp only [reduceCtorEq] at h2;obtain ⟨h3,h4⟩:=key h2;exact ⟨h3,fun h5=>by simp only [op1,h1];exact h4 h5⟩
 case call c=>
  simp only [eI,eAo] at hx ⊢
  cases hargs:vH fr c.args.toList with
  | none=>simp [hargs] at hx
  | some args=>
   simp only [hargs] at hx ⊢
   cases hcal:c.callee with
   | value f=>simp [hcal] at hk
   | invoke r m=>simp [hcal] at hk
   | builtin b=>
    simp only [hcal] at hx hk ⊢;have kb:b=.min∨b=.max:=by cases b <;> simp_all
    have hb:∀ (y:AV) (h1:Heap),qG E b c.argTypes.toList args h=some (y,h1)→h1=h∧∀ h2,qG E b c.argTypes.toList args h2=some (y,h2):=by
     intro y h1 hb;rcases kb with rfl | rfl <;>
     ·simp only [qG] at hb ⊢
      cases args with
      | nil=>simp at hb
      | cons z r=>
       simp only at hb ⊢;obtain ⟨h3,h4⟩:=iC hb;exact ⟨h4,fun h2=>by rw [h3];rfl⟩
    cases hbb:qG E b c.argTypes.toList args h with
    | none=>simp [hbb] at hx
    | some p=>
     obtain ⟨y,h1⟩:=p;simp only [hbb,Option.some.injEq,Prod.mk.injEq] at hx;obtain ⟨rfl,rfl⟩:=hx;obtain ⟨h3,h4⟩:=hb y h1 hbb;exact ⟨h3,fun h2=>by rw [h4 h2]⟩
theorem wBf {o:Op} {h h':Heap} {x:AV} (hk:bC o=1) (hx:eI E call fr o h=some (x,h')):h'=h:=by
 cases o <;> simp [bC] at hk
 case load t y=>
  obtain ⟨v,h1,h2⟩:=wD hx;exact mP h2
 case lookup t m k b=>
  obtain ⟨v,u,h1,h2,h3⟩:=kH hx;exact mP h3
 case slice t y lo hi mx=>
  cases mx with
  | some m=>simp [eI,opA] at hx
  | none=>
   simp only [eI,opA] at hx
   cases h1:fA4 fr lo with
   | none=>simp [h1] at hx
   | some l=>
    cases h2:fA4 fr hi with
    | none=>simp [h1,h2] at hx
    | some m=>
     simp only [h1,h2] at hx;obtain ⟨v,h3,h4⟩:=wD hx;exact mP h4
 case call c=>
  simp only [eI,eAo] at hx
  cases hargs:vH fr c.args.toList with
  | none=>simp [hargs] at hx
  | some args=>
   simp only [hargs] at hx
   cases hcal:c.callee with
   | value f=>simp [hcal] at hk
   | invoke r m=>simp [hcal] at hk
   | builtin b=>
    simp only [hcal] at hx hk;have kb:b=.len∨b=.cap:=by cases b <;> simp_all
    cases hbb:qG E b c.argTypes.toList args h with
    | none=>simp [hbb] at hx
    | some p=>
     obtain ⟨y,h1⟩:=p;simp only [hbb,Option.some.injEq,Prod.mk.injEq] at hx;obtain ⟨rfl,rfl⟩:=hx;rcases kb with rfl | rfl <;>
     ·simp only [qG] at hbb
      split at hbb <;> simp at *
      all_goals (first | exact mP hbb | skip)
theorem pP (o:Op):bC o=0∨bC o=1∨bC o=2:=by
 cases o <;> simp [bC];rename_i c;cases c.callee <;> (try simp)
 rename_i b;cases b <;> simp
theorem fI {ops:List Oper} {o:Oper} {h h':Heap} {x:AV} (hk:bC o.op≠2) (hx:dE E call ops fr o h=some (x,h')):h'=h:=by
 unfold dE at hx
 split at hx
 ·rcases pP o.op with h1 | h1 | h1
  ·exact (uB7 h1 hx).1
  ·exact wBf h1 hx
  ·exact absurd h1 hk
 ·simp only [Option.some.injEq,Prod.mk.injEq] at hx;exact hx.2.symm
 ·simp at hx
theorem jAb {ops:List Oper} {o:Oper} {h h':Heap} {x:AV} (hk:bC o.op=0) (hx:dE E call ops fr o h=some (x,h')) (h2:Heap):dE E call ops fr o h2=some (x,h2):=by
 unfold dE at hx ⊢
 split at hx
 ·exact (uB7 hk hx).2 h2
 ·simp only [Option.some.injEq,Prod.mk.injEq] at hx ⊢;simp [hx.1]
 ·simp at hx
theorem fAi {p x:Nat} {l:List Nat} (h:p∈yBe x l):p=x∨p∈l:=by
 unfold yBe at h
 cases hm:iP x l with
 | true=>simp only [hm,cond_true] at h;exact .inr h
 | false=>simpa [hm] using h
theorem gA5 {p:Nat}:∀ {xs l:List Nat},p∈cAi xs l→p∈xs∨p∈l
 | [],l,h=>.inr h
 | x::r,l,h=>by
  simp only [cAi] at h;rcases fAi h with rfl | h
  ·exact .inl (by simp)
  ·rcases gA5 h with h | h
   ·exact .inl (by simp [h])
   ·exact .inr h
theorem iA5 {acc:List (List Nat)} {p:Nat}:∀ {l:List Nat},p∈qC.unionL acc l→p∈l∨∃ e∈l,∃ ps,acc[e]? = some ps∧p∈ps
 | [],h=>by simp [qC.unionL] at h
 | e::r,h=>by
  simp only [qC.unionL] at h;rcases fAi h with rfl | h
  ·exact .inl (by simp)
  rcases gA5 h with h | h
  ·cases ha:acc[e]? with
   | none=>simp [ha] at h
   | some ps=>simp [ha] at h;exact .inr ⟨e,by simp,ps,ha,h⟩
  ·rcases iA5 h with h | ⟨e',h1,h2⟩
   ·exact .inl (by simp [h])
   ·exact .inr ⟨e',by simp [h1],h2⟩
theorem lW:∀ (r pre:List Oper) (acc:List (List Nat)),acc.length=pre.length→
  (∀ (i:Nat) (ps:List Nat),acc[i]? = some ps→∃ o:Oper,pre[i]? = some o∧∀ p∈ps,p∈tD o.after.toList∨∃ e∈tD o.after.toList,∃ qs,acc[e]? = some qs∧p∈qs)→
  ∀ (i:Nat) (ps:List Nat),(qC r acc)[i]? = some ps→∃ o:Oper,(pre++r)[i]? = some o∧∀ p∈ps,p∈tD o.after.toList∨∃ e∈tD o.after.toList,∃ qs,(qC r acc)[e]? = some qs∧p∈qs
 | [],pre,acc,hl,hinv,i,ps,h=>by
  simp only [qC] at h ⊢;simpa using hinv i ps h
 | o::r,pre,acc,hl,hinv,i,ps,h=>by
  simp only [qC] at h ⊢
  have:=lW r (pre++[o]) (acc++[qC.unionL acc (tD o.after.toList)]) (by simp [hl]) (by
   intro j qs hj
   by_cases hjl:j<acc.length
   ·rw [List.getElem?_append_left hjl] at hj
    obtain ⟨o',h1,h2⟩:=hinv j qs hj;refine ⟨o',by rw [List.getElem?_append_left (by omega)];exact h1,fun p hp=>?_⟩;rcases h2 p hp with h3 | ⟨e,h3,us,h4,h5⟩
    ·exact .inl h3
    ·exact .inr ⟨e,h3,us,by rw [List.getElem?_append_left (List.getElem?_eq_some_iff.1 h4).1];exact h4,h5⟩
   ·have hje:j=acc.length:=by
     have:=(List.getElem?_eq_some_iff.1 hj).1
     simp at this;omega
    subst hje;rw [List.getElem?_append_right (Nat.le_refl _)] at hj;simp at hj;subst hj;refine ⟨o,by rw [hl];simp,fun p hp=>?_⟩;rcases iA5 hp with h3 | ⟨e,h3,us,h4,h5⟩
    ·exact .inl h3
    ·exact .inr ⟨e,h3,us,by rw [List.getElem?_append_left (List.getElem?_eq_some_iff.1 h4).1];exact h4,h5⟩) i ps h
  simpa using this
theorem tX {ops:List Oper} {o:Oper} {ps:List Nat}:∀ {l:List Oper} {j:Nat},jP ops o ps j l=true→∀ k x,l[k]? = some x→j+k∈ps∨dA7 ops x o=true
 | [],j,h,k,x,hk=>by simp at hk
 | y::r,j,h,k,x,hk=>by
  simp only [jP,Bool.and_eq_true,Bool.or_eq_true] at h
  cases k with
  | zero=>simp at hk;subst hk;exact h.1.imp (fun e=>by simpa using kD.1 e) id
  | succ k=>
   simp at hk
   have:=tX h.2 k x hk
   rw [show j+(k+1)=j+1+k from by omega];exact this
theorem jA5 {ops:List Oper} {preds:List (List Nat)}:∀ {l:List Oper} {i:Nat},gW ops preds i l=true→∀ k o,l[k]? = some o→
  (∀ j x,(ops.take (i+k))[j]? = some x→j∈(preds[i+k]?).getD []∨dA7 ops x o=true)∧(∀ e∈tD o.after.toList,e<i+k)
 | [],i,h,k,o,hk=>by simp at hk
 | y::r,i,h,k,o,hk=>by
  simp only [gW,Bool.and_eq_true] at h
  cases k with
  | zero=>
   simp at hk;subst hk;refine ⟨fun j x hj=>by simpa using tX h.1.1 j x (by simpa using hj),fun e he=>?_⟩
   have:=List.all_eq_true.1 h.1.2 e he
   simpa [Nat.blt_eq] using this
  | succ k=>
   simp at hk
   have:=jA5 h.2 k o hk
   rw [show i+(k+1)=i+1+k from by omega];exact this
theorem eJ {e:Nat}:∀ {l:List Edge},e∈tD l↔∃ x∈l,Region.binds .any x=true∧x.on=e
 | []=>by simp [tD]
 | x::r=>by
  simp only [tD]
  cases hb:Region.binds .any x with
  | true=>simp only [cond_true,List.mem_cons,eJ (l:=r)];constructor
          ·rintro (rfl | ⟨y,h1,h2⟩)
           ·exact ⟨x,.inl rfl,hb,rfl⟩
           ·exact ⟨y,.inr h1,h2⟩
          ·rintro ⟨y,rfl | h1,h2,h3⟩
           ·exact .inl h3.symm
           ·exact .inr ⟨y,h1,h2,h3⟩
  | false=>simp only [cond_false,eJ (l:=r),List.mem_cons];constructor
           ·rintro ⟨y,h1,h2⟩;exact ⟨y,.inr h1,h2⟩
           ·rintro ⟨y,rfl | h1,h2,h3⟩
            ·rw [hb] at h2;cases h2
            ·exact ⟨y,h1,h2,h3⟩
theorem fJ {ops:List Oper} {x y:Oper} (hf:dA7 ops x y=true):¬ (bC x.op=2∧bC y.op=2)∧(∀ t,x.dst=some t→t ∉ oE ops y)∧(∀ t,y.dst=some t→t ∉ oE ops x)∧(∀ t,x.dst=some t→y.dst≠some t):=by
 simp only [dA7,Bool.and_eq_true,Bool.not_eq_true'] at hf;obtain ⟨⟨⟨h1,h2⟩,h3⟩,h4⟩:=hf;refine ⟨?_,?_,?_,?_⟩
 ·rintro ⟨e1,e2⟩;rw [e1,e2] at h1;simp at h1
 ·intro t ht hm;simp only [uY,ht] at h2;rw [kD.2 hm] at h2;cases h2
 ·intro t ht hm;simp only [uY,ht] at h3;rw [kD.2 hm] at h3;cases h3
 ·intro t ht hy;simp only [fW,ht,hy] at h4;rw [bt rfl] at h4;cases h4
theorem yD {l:Array Bool} {i k:Nat} (hi:i<l.size):(l.setIfInBounds i true).getD k false=if k=i then true else l.getD k false:=by
 by_cases h:k=i
 ·subst h;simp [hi]
 ·have h':i≠k:=fun e=>h e.symm
  rw [if_neg h];simp only [Array.getD_eq_getD_getElem?,Array.getElem?_setIfInBounds_ne h']
theorem gAi {a:Act} {t:Nat} {u:Value} (ht:t<a.tmps.size):(a.put (some t) u).tmps.getD t undef=u:=by simp [Act.put,ht]
theorem oT {a:Act} {d:Option Tmp} {t:Nat} {u:Value} (hd:d≠some t):(a.put d u).tmps.getD t undef=a.tmps.getD t undef:=by
 cases d with
 | none=>rfl
 | some k=>
  have:k≠t:=fun e=>hd (by rw [e])
  simp [Act.put,Array.getElem?_setIfInBounds_ne this]
end
end Ai
namespace Ai
section
variable {α:Type}
variable {E:Env} {P:Program} {call:CallF} {fr fr2:Fr}
def aB1 (E:Env) (call:CallF) (ops:List Oper) (recs:List (Fr×Heap×AV)) (h':Heap):Prop:=
 ∀ (i:Nat) (o:Oper) (f:Fr) (hh:Heap) (v:AV),ops[i]? = some o→recs[i]? = some (f,hh,v)→bC o.op=1→∀ (k:Nat) (Hk:Heap),
  ((∃ (o':Oper) (f':Fr) (v':AV),ops[k]? = some o'∧bC o'.op=2∧recs[k]? = some (f',Hk,v'))∨(k=ops.length∧Hk=h'))→
  (∀ (j:Nat) (o':Oper),ops[j]? = some o'→bC o'.op=2→(j∈((qC ops [])[i]?).getD []→j<k)∧(i∈((qC ops [])[j]?).getD []→k≤j))→
  ∃ u h2,dE E call ops f o Hk=some (u,h2)∧eqV u v=true
theorem gJ {nt:Nat} {ops:List Oper}:∀ {l:List Oper} {fr:Fr} {h:Heap} {recs:List (Fr×Heap×AV)} {fr':Fr} {h':Heap},pE E call nt ops l fr h=some (recs,fr',h')→
  ∃ (F:Nat→Fr) (H:Nat→Heap) (V:Nat→AV),F 0=fr∧H 0=h∧F l.length=fr'∧H l.length=h'∧
   (∀ i o,l[i]? = some o→dE E call ops (F i) o (H i)=some (V i,H (i+1))∧F (i+1)=cT nt (F i) o.dst (V i))∧
   (∀ i,i<l.length→recs[i]? = some (F i,H i,V i))
 | [],fr,h,recs,fr',h',hx=>by
  simp only [pE,Option.some.injEq,Prod.mk.injEq] at hx;obtain ⟨rfl,rfl,rfl⟩:=hx;exact ⟨fun _=>fr,fun _=>h,fun _=>undefA,rfl,rfl,rfl,rfl,by simp,by simp⟩
 | o::r,fr,h,recs,fr',h',hx=>by
  simp only [pE] at hx
  cases hs1:dE E call ops fr o h with
  | none=>simp [hs1] at hx
  | some p=>
   obtain ⟨v,h1⟩:=p;simp only [hs1] at hx
   cases ht:pE E call nt ops r (cT nt fr o.dst v) h1 with
   | none=>simp [ht] at hx
   | some q=>
    obtain ⟨l',fr2,h2⟩:=q;simp only [ht,Option.some.injEq,Prod.mk.injEq] at hx;obtain ⟨rfl,rfl,rfl⟩:=hx;obtain ⟨F,H,V,f0,g0,fn,gn,hstep,hrec⟩:=gJ ht;refine ⟨fun i=>match i with | 0=>fr | i+1=>F i,fun i=>match i with | 0=>h | i+1=>H i,fun i=>match i with | 0=>v | i+1=>V i,rfl,rfl,?_,?_,?_,?_⟩
    ·simpa using fn
    ·simpa using gn
    ·intro i o' ho
     cases i with
     | zero=>simp at ho;subst ho;simp only [g0,f0];exact ⟨hs1,trivial⟩
     | succ i=>simp at ho;exact hstep i o' ho
    ·intro i hi
     cases i with
     | zero=>rfl
     | succ i=>simpa using hrec i (by simpa using hi)
theorem iAi (ok:EnvOK E P) (hm:P.follows .mixedOrders=true) (hcall:nT P call) {nt id:Nat} {ops:Array Oper} {h:Heap} {fr':Fr} {h':Heap} {recs:List (Fr×Heap×AV)} (ht:pE E call nt ops.toList ops.toList fr h=some (recs,fr',h')) (hord:jA0 ops.toList=true) (hstab:aB1 E call ops.toList recs h')
  {μ:Mu} {w:World} {a:Act} {Q:Exit→Act→World→Prop} (hr:HR μ h w) (ha:AR μ nt fr a) (hq:∀ μ' a' w',AR μ' nt fr' a'→HR μ' h' w'→Ext μ h w μ' h' w'→Q .normal a' w'):(Code.region id ops true).wp P Q a w:=by
 skip
 {
  skip
  {
   obtain ⟨F,H,V,f0,g0,fn,gn,hstep,hrec⟩:=gJ ht;have hlen:ops.toList.length=ops.size:=by simp
   -- the order
   have ord:∀ (i:Nat) (o:Oper),ops.toList[i]? = some o→(∀ (j:Nat) (x:Oper),j<i→ops.toList[j]? = some x→j∈((qC ops.toList [])[i]?).getD []∨dA7 ops.toList x o=true)∧(∀ e∈tD o.after.toList,e<i):=by
    intro i o ho
    have:=jA5 (i:=0) hord i o ho
    simp only [Nat.zero_add] at this;exact ⟨fun j x hj hx=>this.1 j x (by rw [List.getElem?_take_of_lt hj];exact hx),this.2⟩
   have hpreds:∀ (i:Nat) (ps:List Nat),(qC ops.toList [])[i]? = some ps→∃ o:Oper,ops.toList[i]? = some o∧∀ p∈ps,p∈tD o.after.toList∨∃ e∈tD o.after.toList,∃ qs,(qC ops.toList [])[e]? = some qs∧p∈qs:=by
    intro i ps hi
    have:=lW ops.toList [] [] rfl (by simp) i ps hi
    simpa using this
   have predsIn:∀ (S:Nat→Prop),(∀ (i:Nat) (o:Oper),ops.toList[i]? = some o→S i→∀ e∈tD o.after.toList,S e)→
     ∀ (i:Nat) (o:Oper),ops.toList[i]? = some o→(∀ e∈tD o.after.toList,S e)→∀ p∈((qC ops.toList [])[i]?).getD [],S p:=by
    intro S hcl i
    induction i using Nat.strongRecOn with
    | _ i ih=>
     intro o ho he p hp
     cases hps:(qC ops.toList [])[i]? with
     | none=>simp [hps] at hp
     | some ps=>
      simp [hps] at hp;obtain ⟨o',ho',hpp⟩:=hpreds i ps hps;rw [ho] at ho';cases ho';rcases hpp p hp with h3 | ⟨e,h3,qs,h4,h5⟩
      ·exact he p h3
      ·have hlt:=(ord i o ho).2 e h3
       obtain ⟨oe,hoe,_⟩:=hpreds e qs h4;exact ih e hlt oe hoe (hcl e oe hoe (he e h3)) p (by simp [h4];exact h5)
   -- who wrote a slot, in the order of the text
   have wrote:∀ (i:Nat),i≤ops.size→∀ t v,(F i).get t=some v→
     (∃ k o,k<i∧ops.toList[k]? = some o∧o.dst=some t∧t<nt∧v=V k∧∀ k' o',k'<i→ops.toList[k']? = some o'→o'.dst=some t→k'≤k)∨
     ((∀ k o,k<i→ops.toList[k]? = some o→o.dst≠some t)∧fr.get t=some v):=by
    intro i
    induction i with
    | zero=>intro _ t v hv;rw [f0] at hv;exact .inr ⟨fun k o hk=>by omega,hv⟩
    | succ i ih=>
     intro hi t v hv;obtain ⟨o,ho⟩:∃ o,ops.toList[i]? = some o:=⟨ops.toList[i]'(by simp;omega),by simp⟩;rw [(hstep i o ho).2] at hv;have old:(F i).get t=some v→o.dst≠some t→(∃ k o,k<i+1∧ops.toList[k]? = some o∧o.dst=some t∧t<nt∧v=V k∧∀ k' o',k'<i+1→ops.toList[k']? = some o'→o'.dst=some t→k'≤k)∨
       ((∀ k o,k<i+1→ops.toList[k]? = some o→o.dst≠some t)∧fr.get t=some v):=by
      intro hv' hne;rcases ih (by omega) t v hv' with ⟨k,ok',h1,h2,h3,h4,h5,h6⟩ | ⟨h1,h2⟩
      ·refine .inl ⟨k,ok',by omega,h2,h3,h4,h5,fun k' o' hk' ho' hd'=>?_⟩
       by_cases e:k'=i
       ·subst e;rw [ho] at ho';cases ho';exact absurd hd' hne
       ·exact h6 k' o' (by omega) ho' hd'
      ·refine .inr ⟨fun k ok' hk ho' hd'=>?_,h2⟩
       by_cases e:k=i
       ·subst e;rw [ho] at ho';cases ho';exact hne hd'
       ·exact h1 k ok' (by omega) ho' hd'
     cases hdst:o.dst with
     | none=>
      rw [hdst] at hv;exact old hv (by rw [hdst];simp)
     | some d=>
      rw [hdst] at hv;simp only [cT] at hv
      cases hlt:Nat.blt d nt with
      | false=>simp [hlt,Tr.get_nil] at hv
      | true=>
       simp only [hlt,cond_true] at hv;rcases Tr.get_set hv with ⟨rfl,rfl⟩ | ⟨hne,hv'⟩
       ·exact .inl ⟨i,o,by omega,ho,hdst,by simpa [Nat.blt_eq] using hlt,rfl,fun k' _ hk' _ _=>by omega⟩
       ·exact old hv' (by rw [hdst];intro e;cases e;exact hne rfl)
   have Hsame:∀ (i:Nat) (o:Oper),ops.toList[i]? = some o→bC o.op≠2→H (i+1)=H i:=fun i o ho hk=>fI hk (hstep i o ho).1;have Heq:∀ (d i j:Nat),j=i+d→j≤ops.size→(∀ (k:Nat) (o:Oper),i≤k→k<j→ops.toList[k]? = some o→bC o.op≠2)→H j=H i:=by
    intro d
    induction d with
    | zero=>intro i j hj _ _;rw [hj];rfl
    | succ d ih=>
     intro i j hj hn hk;obtain ⟨o,ho⟩:∃ o,ops.toList[i+d]? = some o:=⟨ops.toList[i+d]'(by simp;omega),by simp⟩;rw [hj,show i+(d+1)=(i+d)+1 from rfl,Hsame (i+d) o ho (hk _ o (by omega) (by omega) ho)];exact ih i (i+d) rfl (by omega) fun k o h1 h2=>hk k o h1 (by omega)
   -- the end
   have done:∀ (listed:Array Bool) (μ':Mu) (a':Act) (w':World),(∀ i,i<ops.size→listed.getD i false=true)→
     (∃ m,m≤ops.size∧HR μ' (H m) w'∧Ext μ h w μ' (H m) w'∧∀ (i:Nat) (o:Oper),ops.toList[i]? = some o→bC o.op=2→(listed.getD i false=true↔i<m))→
     a'.tmps.size=nt→a'.defers=[]→
     (∀ t k o,t<nt→ops.toList[k]? = some o→o.dst=some t→listed.getD k false=true→(∀ (k':Nat) (o':Oper),ops.toList[k']? = some o'→listed.getD k' false=true→o'.dst=some t→k'≤k)→VR μ' (V k) (a'.tmps.getD t undef))→
     (∀ t v,(∀ (k:Nat) (o:Oper),ops.toList[k]? = some o→listed.getD k false=true→o.dst≠some t)→fr.get t=some v→VR μ' v (a'.tmps.getD t undef))→Q .normal a' w':=by
    intro listed μ' a' w' hall hH hts htd hsl1 hsl2;obtain ⟨m,hmn,hr',hext,hk2⟩:=hH;have hHm:H ops.size=H m:=Heq (ops.size-m) m ops.size (by omega) (Nat.le_refl _) fun k o h1 h2 ho hk=>by
     have:=(hk2 k o ho hk).1 (hall k h2);omega
    have gn':=gn;rw [hlen] at gn';rw [← hHm,gn'] at hr' hext;refine hq μ' a' w' ⟨fun t v hv=>?_,hts,htd⟩ hr' hext;rw [← fn,hlen] at hv;rcases wrote ops.size (Nat.le_refl _) t v hv with ⟨k,o,h1,h2,h3,h4,rfl,h6⟩ | ⟨h1,h2⟩
    ·exact hsl1 t k o h4 h2 h3 (hall k h1) fun k' o' ho' _ hd'=>h6 k' o' (by have:=(List.getElem?_eq_some_iff.1 ho').1;omega) ho' hd'
    ·exact hsl2 t v (fun k o ho _=>h1 k o (by have:=(List.getElem?_eq_some_iff.1 ho).1;omega) ho) h2
   -- the walk over whatever order
   have main:∀ (fuel:Nat) (listed:Array Bool) (μ':Mu) (a':Act) (w':World) (us:List Nat),us.length≤fuel→(∀ i,i<ops.size→listed.getD i false=false→i∈us)→listed.size=ops.size→
     (∀ (i:Nat) (o:Oper),ops.toList[i]? = some o→listed.getD i false=true→∀ e∈tD o.after.toList,listed.getD e false=true)→
     (∃ m,m≤ops.size∧HR μ' (H m) w'∧Ext μ h w μ' (H m) w'∧∀ (i:Nat) (o:Oper),ops.toList[i]? = some o→bC o.op=2→(listed.getD i false=true↔i<m))→
     a'.tmps.size=nt→a'.defers=[]→
     (∀ t k o,t<nt→ops.toList[k]? = some o→o.dst=some t→listed.getD k false=true→(∀ (k':Nat) (o':Oper),ops.toList[k']? = some o'→listed.getD k' false=true→o'.dst=some t→k'≤k)→VR μ' (V k) (a'.tmps.getD t undef))→
     (∀ t v,(∀ (k:Nat) (o:Oper),ops.toList[k]? = some o→listed.getD k false=true→o.dst≠some t)→fr.get t=some v→VR μ' v (a'.tmps.getD t undef))→
     wpAny P .any ops Q fuel listed a' w':=by
    intro fuel
    induction fuel with
    | zero=>
     intro listed μ' a' w' us hu hus hsz hcl hH hts htd hsl1 hsl2;have hall:∀ i,i<ops.size→listed.getD i false=true:=by
      intro i hi
      cases hl:listed.getD i false with
      | true=>rfl
      | false=>
       have:=hus i hi hl
       have:us=[]:=List.eq_nil_of_length_eq_zero (by omega)
       subst this;simp at *
     refine ⟨?_,?_⟩
     ·simp only [Region.ready,List.filter_eq_nil_iff,List.mem_range]
      intro i hi hc;have h1:=hall i hi
      have:listed.getD i true=true:=by
       have hlt:i<listed.size:=by omega
       simp [Array.getD,hlt] at h1 ⊢;exact h1
      simp [this] at hc
     ·exact done listed μ' a' w' hall hH hts htd hsl1 hsl2
    | succ fuel ih=>
     intro listed μ' a' w' us hu hus hsz hcl hH hts htd hsl1 hsl2;refine ⟨?_,?_⟩
     ·intro hready
      refine done listed μ' a' w' ?_ hH hts htd hsl1 hsl2;intro i
      induction i using Nat.strongRecOn with
      | _ i ihi=>
       intro hin
       cases hl:listed.getD i false with
       | true=>rfl
       | false=>
        exfalso
        have hlt:i<listed.size:=by omega
        have hnt:listed.getD i true=false:=by simp [Array.getD,hlt] at hl ⊢;exact hl
        have hmem:i∈Region.ready .any ops listed:=by
         simp only [Region.ready,List.mem_filter,List.mem_range,Bool.and_eq_true,Bool.not_eq_true'];refine ⟨hin,hnt,?_⟩;have ho:ops[i]? = some ops[i]:=by simp [hin]
         rw [ho];simp only [Option.map_some,Option.getD_some,Array.all_eq_true_iff_forall_mem];intro x hx
         cases hbx:Region.binds .any x with
         | false=>simp
         | true=>
          have he:x.on∈tD ops[i].after.toList:=eJ.2 ⟨x,by simpa using hx,hbx,rfl⟩;have hlt':=(ord i ops[i] (by simp [hin])).2 _ he;simpa using ihi x.on hlt' (by omega)
        rw [hready] at hmem;simp at hmem
     ·intro i hi
      simp only [Region.ready,List.mem_filter,List.mem_range,Bool.and_eq_true,Bool.not_eq_true'] at hi;obtain ⟨hin,hnl,hed⟩:=hi;have hlt:i<listed.size:=by omega
      have hnl':listed.getD i false=false:=by simp [Array.getD,hlt] at hnl ⊢;exact hnl
      have ho:ops[i]? = some ops[i]:=by simp [hin]
      have hoL:ops.toList[i]? = some ops[i]:=by simp [hin]
      have hedge:∀ e∈tD ops[i].after.toList,listed.getD e false=true:=by
       intro e he;obtain ⟨x,h1,h2,h3⟩:=eJ.1 he;rw [ho] at hed;simp only [Option.map_some,Option.getD_some,Array.all_eq_true_iff_forall_mem] at hed
       have:=hed x (by simpa using h1)
       simp [h2] at this;rw [← h3];simpa using this
      have hplist:=predsIn (fun k=>listed.getD k false=true) hcl i ops[i] hoL hedge
      -- what comes behind an operation that is not listed is not listed, or either may come first
      have behind:∀ (k:Nat) (o:Oper),i<k→ops.toList[k]? = some o→listed.getD k false=true→dA7 ops.toList ops[i] o=true:=by
       intro k o hik hok hlk;rcases (ord k o hok).1 i ops[i] hik hoL with h1 | h1
       ·have h9:listed.getD i false=true:=predsIn (fun k=>listed.getD k false=true) hcl k o hok (hcl k o hok hlk) i h1
        rw [hnl'] at h9;cases h9
       ·exact h1
      have ahead:∀ (k:Nat) (o:Oper),k<i→ops.toList[k]? = some o→listed.getD k false=true∨dA7 ops.toList o ops[i]=true:=by
       intro k o hki hok;rcases (ord i ops[i] hoL).1 k o hki hok with h1 | h1
       ·exact .inl (hplist k h1)
       ·exact .inr h1
      obtain ⟨m,hmn,hrm,hext,hk2⟩:=hH
      -- the frame, as far as the operation looks
      have hget:∀ t,(Tr.restrict.restrictL (fun t=>iP t (oE ops.toList ops[i])) (F i)).get t=bif iP t (oE ops.toList ops[i]) then (F i).get t else none:=fun t=>Tr.get_restrict (F i) _ t;have har:AR μ' nt (Tr.restrict.restrictL (fun t=>iP t (oE ops.toList ops[i])) (F i)) a':=by
       refine ⟨fun t v hv=>?_,hts,htd⟩;rw [hget] at hv
       cases hmt:iP t (oE ops.toList ops[i]) with
       | false=>simp [hmt] at hv
       | true=>
        simp only [hmt,cond_true] at hv;have hmt':=kD.1 hmt;rcases wrote i (by omega) t v hv with ⟨k,o,h1,h2,h3,h4,rfl,h6⟩ | ⟨h1,h2⟩
        ·have hlk:listed.getD k false=true:=by
          rcases ahead k o h1 h2 with h7 | h7
          ·exact h7
          ·exact absurd hmt' ((fJ h7).2.1 t h3)
         refine hsl1 t k o h4 h2 h3 hlk fun k' o' ho' hl' hd'=>?_;rcases Nat.lt_trichotomy k' i with h7 | rfl | h7
         ·exact h6 k' o' h7 ho' hd'
         ·rw [hnl'] at hl';cases hl'
         ·exact absurd hmt' ((fJ (behind k' o' h7 ho' hl')).2.2.1 t hd')
        ·refine hsl2 t v (fun k o hok hlk hd'=>?_) h2
         rcases Nat.lt_trichotomy k i with h7 | rfl | h7
         ·exact h1 k o h7 hok hd'
         ·rw [hnl'] at hlk;cases hlk
         ·exact absurd hmt' ((fJ (behind k o h7 hok hlk)).2.2.1 t hd')
      have hcong:∀ Hx,dE E call ops.toList (Tr.restrict.restrictL (fun t=>iP t (oE ops.toList ops[i])) (F i)) ops[i] Hx=dE E call ops.toList (F i) ops[i] Hx:=by
       intro Hx;refine fA5 fun t ht=>?_;rw [hget,kD.2 ht];rfl
      -- what it comes to, at the heap of this moment
      have hres:∃ m',m'≤ops.size∧dE E call ops.toList (F i) ops[i] (H m)=some (V i,H m')∧
        ∀ (k:Nat) (o:Oper),ops.toList[k]? = some o→bC o.op=2→((listed.setIfInBounds i true).getD k false=true↔k<m'):=by
       have keep:bC ops[i].op≠2→∀ (k:Nat) (o:Oper),ops.toList[k]? = some o→bC o.op=2→((listed.setIfInBounds i true).getD k false=true↔k<m):=by
        intro hne k o hok hk;have hki:k≠i:=by rintro rfl;rw [hoL] at hok;cases hok;exact hne hk
        rw [yD hlt,if_neg hki];exact hk2 k o hok hk
       rcases pP ops[i].op with h0 | h1 | h2
       ·exact ⟨m,hmn,jAb h0 (hstep i ops[i] hoL).1 (H m),keep (by omega)⟩
       ·have hwin:∀ (k:Nat) (o:Oper),ops.toList[k]? = some o→bC o.op=2→(k∈((qC ops.toList [])[i]?).getD []→k<m)∧(i∈((qC ops.toList [])[k]?).getD []→m≤k):=by
         intro k o hok hk;refine ⟨fun h7=>(hk2 k o hok hk).1 (hplist k h7),fun h7=>?_⟩;rcases Nat.lt_or_ge k m with h8 | h8
         ·have hlk:=(hk2 k o hok hk).2 h8
          have h9:listed.getD i false=true:=predsIn (fun k=>listed.getD k false=true) hcl k o hok (hcl k o hok hlk) i h7;rw [hnl'] at h9;cases h9
         ·exact h8
        -- the stage of this moment: the next operation that may turn the heap
        have hstage:∃ k,m≤k∧k≤ops.size∧H k=H m∧(k=ops.size∨∃ o,ops.toList[k]? = some o∧bC o.op=2)∧∀ (j:Nat) (o:Oper),m≤j→j<k→ops.toList[j]? = some o→bC o.op≠2:=by
         have:∀ d m,m+d=ops.size→∃ k,m≤k∧k≤ops.size∧H k=H m∧(k=ops.size∨∃ o,ops.toList[k]? = some o∧bC o.op=2)∧∀ (j:Nat) (o:Oper),m≤j→j<k→ops.toList[j]? = some o→bC o.op≠2:=by
          intro d
          induction d with
          | zero=>intro m hm;exact ⟨m,Nat.le_refl _,by omega,rfl,.inl (by omega),fun j o h1 h2=>by omega⟩
          | succ d ihd=>
           intro m hm;obtain ⟨o,hoo⟩:∃ o,ops.toList[m]? = some o:=⟨ops.toList[m]'(by simp;omega),by simp⟩
           by_cases hk:bC o.op=2
           ·exact ⟨m,Nat.le_refl _,by omega,rfl,.inr ⟨o,hoo,hk⟩,fun j o h1 h2=>by omega⟩
           ·obtain ⟨k,g1,g2,g3,g4,g5⟩:=ihd (m+1) (by omega)
            refine ⟨k,by omega,g2,by rw [g3];exact Hsame m o hoo hk,g4,fun j o' h1 h2 h3=>?_⟩
            by_cases hjm:j=m
            ·subst hjm;rw [hoo] at h3;cases h3;exact hk
            ·exact g5 j o' (by omega) h2 h3
         exact this (ops.size-m) m (by omega)
        obtain ⟨k,g1,g2,g3,g4,g5⟩:=hstage;obtain ⟨u,h3,h4,he⟩:=hstab i ops[i] (F i) (H i) (V i) hoL (hrec i (by simpa using hin)) h1 k (H k) (by
         rcases g4 with rfl | ⟨o,h7,_⟩
         ·right;exact ⟨by simp,by rw [← gn];simp⟩
         ·left;exact ⟨o,F k,V k,h7,by assumption,hrec k (by have:=(List.getElem?_eq_some_iff.1 h7).1;simpa using this)⟩) (fun j o hoj hj=>by
         obtain ⟨w1,w2⟩:=hwin j o hoj hj;refine ⟨fun h7=>by have:=w1 h7;omega,fun h7=>?_⟩;have h8:=w2 h7;rcases Nat.lt_or_ge j k with h9 | h9
         ·exact absurd hj (g5 j o h8 h9 hoj)
         ·exact h9)
        rw [g3] at h4;have he':=wA0 _ _ he;subst he'
        have:=fI (by omega) h4
        subst this;exact ⟨m,hmn,h4,keep (by omega)⟩
       ·have hiff:∀ (k:Nat) (o:Oper),ops.toList[k]? = some o→bC o.op=2→(k<m↔k<i):=by
         intro k o hok hk;rw [← hk2 k o hok hk];constructor
         ·intro hlk
          rcases Nat.lt_trichotomy k i with h7 | rfl | h7
          ·exact h7
          ·rw [hnl'] at hlk;cases hlk
          ·exact absurd ⟨h2,hk⟩ (fJ (behind k o h7 hok hlk)).1
         ·intro hki
          rcases ahead k o hki hok with h7 | h7
          ·exact h7
          ·exact absurd ⟨hk,h2⟩ (fJ h7).1
        have hHi:H m=H i:=by
         rcases Nat.le_total m i with h7 | h7
         ·exact (Heq (i-m) m i (by omega) (by omega) fun k o h8 h9 hok hk=>by have:=(hiff k o hok hk).2 h9;omega).symm
         ·exact Heq (m-i) i m (by omega) hmn fun k o h8 h9 hok hk=>by have:=(hiff k o hok hk).1 h9;omega
        refine ⟨i+1,hin,by rw [hHi];exact (hstep i ops[i] hoL).1,fun k o hok hk=>?_⟩;rw [yD hlt]
        by_cases hki:k=i
        ·rw [if_pos hki];simp;omega
        ·rw [if_neg hki,hk2 k o hok hk,hiff k o hok hk];omega
      obtain ⟨m',hmn',hstepm,hk2'⟩:=hres;show wpOp P ops Q i _ a' w';unfold wpOp;rw [ho];refine lA7 ok hcall hrm har (by rw [hcong];exact hstepm) ?_;intro μ2 u w2 hv hr2 hext2;refine ih (listed.setIfInBounds i true) μ2 _ w2 (us.erase i) ?_ ?_ (by simpa using hsz) ?_ ⟨m',hmn',hr2,Ext.trans hr hext hext2,hk2'⟩ (by simpa [Act.put] using (by cases ops[i].dst <;> simp [hts])) (by cases ops[i].dst <;> simp [Act.put,htd]) ?_ ?_
      ·have:=hus i hin hnl'
       rw [List.length_erase_of_mem this];omega
      ·intro k hk hl
       rw [yD hlt] at hl
       by_cases hki:k=i
       ·rw [if_pos hki] at hl;cases hl
       ·rw [if_neg hki] at hl
        exact (List.mem_erase_of_ne hki).2 (hus k hk hl)
      ·intro k o hok hl e he
       rw [yD hlt] at hl ⊢
       by_cases hei:e=i
       ·rw [if_pos hei]
       ·rw [if_neg hei]
        by_cases hki:k=i
        ·subst hki;rw [hoL] at hok;cases hok;exact hedge e he
        ·rw [if_neg hki] at hl;exact hcl k o hok hl e he
      ·intro t k o htn hok hd' hl hmax
       rw [yD hlt] at hl
       by_cases hdi:ops[i].dst=some t
       ·have hik:i≤k:=hmax i ops[i] hoL (by rw [yD hlt,if_pos rfl]) hdi
        have hki:k=i:=by
         by_cases hki:k=i
         ·exact hki
         ·rw [if_neg hki] at hl
          exact absurd hd' ((fJ (behind k o (by omega) hok hl)).2.2.2 t hdi)
        subst hki;rw [hdi,gAi (by omega)];exact hv
       ·have hki:k≠i:=by rintro rfl;rw [hoL] at hok;cases hok;exact hdi hd'
        rw [if_neg hki] at hl;rw [oT hdi];refine VR.mono hext2.mono _ _ (hsl1 t k o htn hok hd' hl fun k' o' ho' hl' hd''=>hmax k' o' ho' ?_ hd'');rw [yD hlt];split
        ·rfl
        ·exact hl'
      ·intro t v hno hv'
       have hdi:ops[i].dst≠some t:=hno i ops[i] hoL (by rw [yD hlt,if_pos rfl]);rw [oT hdi];refine VR.mono hext2.mono _ _ (hsl2 t v (fun k o hok hl=>hno k o hok ?_) hv');rw [yD hlt];split
       ·rfl
       ·exact hl
   refine wp_region_any hm ?_;have hr0:HR μ h { w with drawn:=w.drawn+1 }:=hr.draws rfl;have hfalse:∀ k,(Array.replicate ops.size false).getD k false=false:=by
    intro k;simp [Array.getD]
   refine main ops.size _ μ a _ (List.range ops.size) (by simp) (by intro i hi _;simpa using hi) (by simp) ?_ ⟨0,Nat.zero_le _,by rw [g0];exact hr0,by rw [g0];exact Ext.draws rfl rfl rfl rfl,?_⟩ ha.size ha.defers ?_ ?_
   ·intro i o _ hl;rw [hfalse] at hl;cases hl
   ·intro i o _ _;rw [hfalse];simp
   ·intro t k o _ _ _ hl;rw [hfalse] at hl;cases hl
   ·intro t v _ hv;exact ha.slot t v hv
  }
 }
theorem mW {ops:List Oper} {k:Nat}:∀ {l:List Nat},nAo ops k l=true↔∀ j∈l,∀ o,ops[j]? = some o→bC o.op=2→j<k
 | []=>by simp [nAo]
 | j::r=>by
  simp only [nAo];have hk:rB0 ops j=true↔∃ o,ops[j]? = some o∧bC o.op=2:=by
   unfold rB0
   cases ops[j]? with
   | none=>simp
   | some o=>simp
  cases h1:rB0 ops j with
  | false=>
   simp only [Bool.false_and,cond_false,mW (l:=r),List.mem_cons];constructor
   ·rintro h2 j' (rfl | h3) o ho hk2
    ·have:=hk.2 ⟨o,ho,hk2⟩;rw [h1] at this;cases this
    ·exact h2 j' h3 o ho hk2
   ·exact fun h2 j' h3=>h2 j' (.inr h3)
  | true=>
   obtain ⟨o,ho,hk2⟩:=hk.1 h1
   cases h4:Nat.blt j k with
   | true=>
    have h5:j<k:=by simpa [Nat.blt_eq] using h4
    simp only [Bool.not_true,Bool.and_false,cond_false,mW (l:=r),List.mem_cons];constructor
    ·rintro h2 j' (rfl | h3) o' ho' hk2'
     ·exact h5
     ·exact h2 j' h3 o' ho' hk2'
    ·exact fun h2 j' h3=>h2 j' (.inr h3)
   | false=>
    have h5:¬ j<k:=by
     intro h6;have:Nat.blt j k=true:=by simpa [Nat.blt_eq] using h6
     rw [h4] at this;cases this
    simp only [Bool.not_false,Bool.and_self,cond_true];constructor
    ·intro h;cases h
    ·intro h2;exact absurd (h2 j (by simp) o ho hk2) h5
theorem kA5 {ops:List Oper} {i k:Nat}:∀ {l:List (List Nat)} {b:Nat},(∀ (j:Nat) (ps:List Nat),l[j]? = some ps→∀ o,ops[b+j]? = some o→bC o.op=2→i∈ps→k≤b+j)→pAv ops i k b l=true
 | [],b,h=>rfl
 | ps::r,b,h=>by
  simp only [pAv];have hr:=kA5 (l:=r) (b:=b+1) (fun j qs hj o ho hk hi=>by
   have h7:=h (j+1) qs (by simpa using hj) o (by rw [show b+(j+1)=b+1+j by omega];exact ho) hk hi;rw [show b+1+j=b+(j+1) by omega];exact h7)
  cases hc:(rB0 ops b&&(iP i ps&&!Nat.ble k b)) with
  | false=>simpa using hr
  | true=>
   simp only [Bool.and_eq_true,Bool.not_eq_true'] at hc;obtain ⟨h1,h2,h3⟩:=hc;unfold rB0 at h1
   split at h1
   ·rename_i o ho
    have h5:=h 0 ps rfl o (by simpa using ho) (Nat.eq_of_beq_eq_true h1) (kD.1 h2);have h4:Nat.ble k b=true:=by simpa using h5
    rw [h3] at h4;cases h4
   ·cases h1
end
end Ai
namespace Ai
def kAl (ops:List Oper) (x y:Oper):Bool:=
 !(Nat.beq (bC x.op) 2&&!Nat.beq (bC y.op) 0)&&!(!Nat.beq (bC x.op) 0&&Nat.beq (bC y.op) 2)&&!uY x.dst (oE ops y)&&!uY y.dst (oE ops x)&&!fW x.dst y.dst
def qP (ops:List Oper) (o:Oper) (ps:List Nat):Nat→List Oper→Bool
 | _,[]=>true
 | j,x::r=>(iP j ps||kAl ops x o)&&qP ops o ps (j+1) r
def rP (ops:List Oper) (preds:List (List Nat)):Nat→List Oper→Bool
 | _,[]=>true
 | i,o::r=>qP ops o ((preds[i]?).getD []) 0 (ops.take i)&&(tD o.after.toList).all (fun e=>Nat.blt e i)&&rP ops preds (i+1) r
def jAi (ops:List Oper):Bool:=rP ops (qC ops []) 0 ops
theorem uX:∀ s:List UInt8,mB s s=true
 | []=>rfl
 | a::s=>by simp [mB,uX s]
theorem dH (n:Int):kB n n=true:=by cases n <;> simp [kB]
mutual
theorem lK:∀ v:AV,eqV v v=true
 | .bool b=>by cases b <;> rfl
 | .int k n=>by simp [eqV,pI,dH]
 | .str s=>by simp [eqV,uX]
 | .ptr none=>rfl
 | .ptr (some (A,i))=>by simp [eqV]
 | .slice none l c s=>by simp [eqV]
 | .slice (some (A,i)) l c s=>by simp [eqV]
 | .map none=>rfl
 | .map (some A)=>by simp [eqV]
 | .func f a b=>by simp [eqV,tN a,tN b]
 | .nilFunc=>rfl
 | .iface t v=>by simp [eqV,lK v]
 | .nilIface=>rfl
 | .agg a=>by simp [eqV,tN a]
 | .tuple a=>by simp [eqV,tN a]
theorem tN:∀ v:List AV,cAl v v=true
 | []=>rfl
 | a::r=>by simp [cAl,lK a,tN r]
end
section
variable {α:Type}
variable {E:Env} {P:Program} {call:CallF} {fr fr2:Fr}
theorem pT {ops:List Oper} {o:Oper} {ps:List Nat}:∀ {l:List Oper} {j:Nat},qP ops o ps j l=true→∀ k x,l[k]? = some x→j+k∈ps∨kAl ops x o=true
 | [],j,h,k,x,hk=>by simp at hk
 | y::r,j,h,k,x,hk=>by
  simp only [qP,Bool.and_eq_true,Bool.or_eq_true] at h
  cases k with
  | zero=>simp at hk;subst hk;exact h.1.imp (fun e=>by simpa using kD.1 e) id
  | succ k=>
   simp at hk
   have:=pT h.2 k x hk
   rw [show j+(k+1)=j+1+k from by omega];exact this
theorem wR {ops:List Oper} {preds:List (List Nat)}:∀ {l:List Oper} {i:Nat},rP ops preds i l=true→∀ k o,l[k]? = some o→
  (∀ j x,(ops.take (i+k))[j]? = some x→j∈(preds[i+k]?).getD []∨kAl ops x o=true)∧(∀ e∈tD o.after.toList,e<i+k)
 | [],i,h,k,o,hk=>by simp at hk
 | y::r,i,h,k,o,hk=>by
  simp only [rP,Bool.and_eq_true] at h
  cases k with
  | zero=>
   simp at hk;subst hk;refine ⟨fun j x hj=>by simpa using pT h.1.1 j x (by simpa using hj),fun e he=>?_⟩
   have:=List.all_eq_true.1 h.1.2 e he
   simpa [Nat.blt_eq] using this
  | succ k=>
   simp at hk
   have:=wR h.2 k o hk
   rw [show i+(k+1)=i+1+k from by omega];exact this
theorem lA5 {ops:List Oper} {x y:Oper} (hf:kAl ops x y=true):¬ ((bC x.op=2∧bC y.op≠0)∨(bC x.op≠0∧bC y.op=2))∧(∀ t,x.dst=some t→t ∉ oE ops y)∧(∀ t,y.dst=some t→t ∉ oE ops x)∧(∀ t,x.dst=some t→y.dst≠some t):=by
 simp only [kAl,Bool.and_eq_true,Bool.not_eq_true'] at hf;obtain ⟨⟨⟨⟨h1,h1'⟩,h2⟩,h3⟩,h4⟩:=hf;refine ⟨?_,?_,?_,?_⟩
 ·rintro (⟨e1,e2⟩ | ⟨e1,e2⟩)
  ·rw [e1] at h1;simp [e2] at h1
  ·rw [e2] at h1';simp [e1] at h1'
 ·intro t ht hm;simp only [uY,ht] at h2;rw [kD.2 hm] at h2;cases h2
 ·intro t ht hm;simp only [uY,ht] at h3;rw [kD.2 hm] at h3;cases h3
 ·intro t ht hy;simp only [fW,ht,hy] at h4;rw [bt rfl] at h4;cases h4
theorem fA1 {ops:List Oper} {preds:List (List Nat)}:∀ {l:List Oper} {i:Nat},rP ops preds i l=true→gW ops preds i l=true
 | [],_,_=>rfl
 | o::r,i,h=>by
  simp only [rP,gW,Bool.and_eq_true] at h ⊢;have go:∀ {l:List Oper} {j:Nat},qP ops o ((preds[i]?).getD []) j l=true→jP ops o ((preds[i]?).getD []) j l=true:=by
   intro l
   induction l with
   | nil=>intro _ _;rfl
   | cons x l ih=>
    intro j h;simp only [qP,jP,Bool.and_eq_true,Bool.or_eq_true] at h ⊢;refine ⟨h.1.imp id fun h1=>?_,ih h.2⟩;simp only [kAl,dA7,Bool.and_eq_true,Bool.not_eq_true'] at h1 ⊢;obtain ⟨⟨⟨⟨h1,_⟩,h2⟩,h3⟩,h4⟩:=h1;refine ⟨⟨⟨?_,h2⟩,h3⟩,h4⟩
    cases hx:Nat.beq (bC x.op) 2 with
    | false=>rfl
    | true=>
     cases hy:Nat.beq (bC o.op) 2 with
     | false=>rfl
     | true=>
      rw [hx,Nat.eq_of_beq_eq_true hy] at h1;cases h1
  exact ⟨⟨go h.1.1,h.1.2⟩,fA1 h.2⟩
theorem aAw (ok:EnvOK E P) (hm:P.follows .mixedOrders=true) (hcall:nT P call) {nt id:Nat} {ops:Array Oper} {h:Heap} {fr':Fr} {h':Heap} {recs:List (Fr×Heap×AV)} (ht:pE E call nt ops.toList ops.toList fr h=some (recs,fr',h')) (hord:jAi ops.toList=true)
  {μ:Mu} {w:World} {a:Act} {Q:Exit→Act→World→Prop} (hr:HR μ h w) (ha:AR μ nt fr a) (hq:∀ μ' a' w',AR μ' nt fr' a'→HR μ' h' w'→Ext μ h w μ' h' w'→Q .normal a' w'):(Code.region id ops true).wp P Q a w:=by
 refine iAi ok hm hcall ht (fA1 hord) ?_ hr ha hq;obtain ⟨F,H,V,f0,g0,fn,gn,hstep,hrecs⟩:=gJ ht;intro i o f hh v hi hrec hk k Hk hstage hwin;have hil:=(List.getElem?_eq_some_iff.1 hi).1;have e1:=hrecs i hil;rw [hrec] at e1;simp only [Option.some.injEq,Prod.mk.injEq] at e1;obtain ⟨rfl,rfl,rfl⟩:=e1;have hkl:k≤ops.toList.length∧Hk=H k:=by
  rcases hstage with ⟨o',f',v',h1,_,h3⟩ | ⟨rfl,rfl⟩
  ·have hl:=(List.getElem?_eq_some_iff.1 h1).1
   have e2:=hrecs k hl;rw [h3] at e2;simp only [Option.some.injEq,Prod.mk.injEq] at e2;exact ⟨Nat.le_of_lt hl,e2.2.1⟩
  ·exact ⟨Nat.le_refl _,gn.symm⟩
 obtain ⟨hkl,rfl⟩:=hkl;have hno:∀ j x,ops.toList[j]? = some x→((i≤j∧j<k)∨(k≤j∧j<i))→bC x.op≠2:=by
  intro j x hx hb hk2;rcases hb with ⟨b1,b2⟩ | ⟨b1,b2⟩
  ·rcases Nat.lt_or_ge i j with b3 | b3
   ·have:=(wR hord j x hx).1 i o (by rw [List.getElem?_take_of_lt (by omega)];exact hi)
    rw [Nat.zero_add] at this;rcases this with h1 | h1
    ·have:=(hwin j x hx hk2).2 h1;omega
    ·exact (lA5 h1).1 (.inr ⟨by omega,hk2⟩)
   ·have:j=i:=by omega
    subst this;rw [hi] at hx;cases hx;omega
  ·have:=(wR hord i o hi).1 j x (by rw [List.getElem?_take_of_lt (by omega)];exact hx)
   rw [Nat.zero_add] at this;rcases this with h1 | h1
   ·have:=(hwin j x hx hk2).1 h1;omega
   ·exact (lA5 h1).1 (.inl ⟨hk2,by omega⟩)
 have hrun:∀ d a,a+d≤ops.toList.length→(∀ j x,ops.toList[j]? = some x→a≤j→j<a+d→bC x.op≠2)→H (a+d)=H a:=by
  intro d
  induction d with
  | zero=>intro a _ _;rfl
  | succ d ih=>
   intro a hl hn;have hx:ops.toList[a+d]? = some (ops.toList[a+d]'(by omega)):=by simp
   have:=fI (hn (a+d) _ hx (by omega) (by omega)) (hstep (a+d) _ hx).1
   rw [show a+(d+1)=a+d+1 from rfl,this];exact ih a (by omega) fun j x h1 h2 h3=>hn j x h1 h2 (by omega)
 have heq:H k=H i:=by
  rcases Nat.le_total i k with hik | hik
  ·have:=hrun (k-i) i (by omega) fun j x h1 h2 h3=>hno j x h1 (.inl ⟨h2,by omega⟩)
   rwa [show i+(k-i)=k by omega] at this
  ·have:=hrun (i-k) k (by omega) fun j x h1 h2 h3=>hno j x h1 (.inr ⟨h2,by omega⟩)
   rw [show k+(i-k)=i by omega] at this;exact this.symm
 rw [heq];exact ⟨_,_,(hstep i o hi).1,lK _⟩
end
end Ai
namespace Ai
namespace Tr
variable {α:Type}
theorem vB7 {n:Nat}:Nat.beq n 0=decide (n=0):=by cases n <;> rfl
theorem wB7 {n:Nat}:Nat.beq (n % 2) 1=decide (n % 2=1):=by
 cases h:Nat.beq (n % 2) 1 with
 | true=>have:=Nat.eq_of_beq_eq_true h;simp [this]
 | false=>have:=Nat.ne_of_beq_eq_false h;simp [this]
theorem wL:∀ (f:Nat) (t:Tr α) (n:Nat) (x:α),n+1<2 ^ f→get (setN f t n x) n=some x
 | 0,t,n,x,h=>by simp at h
 | f+1,t,n,x,h=>by
  have hp:2 ^ (f+1)=2 * 2 ^ f:=by rw [Nat.pow_succ,Nat.mul_comm]
  have ho:n % 2=1→n / 2+1<2 ^ f:=by intro h1;omega
  have he:¬ n=0→¬ n % 2=1→n / 2-1+1<2 ^ f:=by intro h1 h2;omega
  cases t <;> simp only [setN,vB7,wB7] <;> by_cases h0:n=0 <;> by_cases h1:n % 2=1 <;>
   simp only [h0,h1,decide_true,decide_false,cond_true,cond_false,get,vB7,wB7] <;> first
    | rfl
    | exact wL f _ _ x (ho h1)
    | exact wL f _ _ x (he h0 h1)
    | (exfalso;omega)
theorem vK:∀ (f:Nat) (t:Tr α) (n m:Nat) (x y:α),n+1<2 ^ f→m≠n→get t m=some y→get (setN f t n x) m=some y
 | 0,t,n,m,x,y,h,_,_=>by simp at h
 | f+1,nil,n,m,x,y,h,_,hg=>by simp [get_nil] at hg
 | f+1,node l v r,n,m,x,y,h,hne,hg=>by
  have hp:2 ^ (f+1)=2 * 2 ^ f:=by rw [Nat.pow_succ,Nat.mul_comm]
  have ho:n % 2=1→n / 2+1<2 ^ f:=by intro h1;omega
  have he:¬ n=0→¬ n % 2=1→n / 2-1+1<2 ^ f:=by intro h1 h2;omega
  simp only [setN,vB7,wB7] at *;simp only [get,vB7,wB7] at hg
  by_cases h0:n=0 <;> by_cases h1:n % 2=1 <;> by_cases m0:m=0 <;> by_cases m1:m % 2=1 <;>
   simp only [h0,h1,m0,m1,decide_true,decide_false,cond_true,cond_false,get,vB7,wB7] at hg ⊢ <;> first
    | exact hg
    | exact vK f _ _ _ x y (ho h1) (by omega) hg
    | exact vK f _ _ _ x y (he h0 h1) (by omega) hg
    | (exfalso;omega)
theorem pn (n:Nat):n+1<2 ^ (n+1):=Nat.lt_two_pow_self
theorem get_set_same {t:Tr α} {n:Nat} {x:α}:(t.set n x).get n=some x:=wL (n+1) t n x (pn n)
theorem get_set_other {t:Tr α} {n m:Nat} {x y:α} (hne:m≠n) (hg:t.get m=some y):(t.set n x).get m=some y:=vK (n+1) t n m x y (pn n) hne hg
end Tr
def lZ (ops:List Oper) (o:Oper) (ps:List Nat):Nat→List Oper→Bool
 | _,[]=>true
 | j,x::r=>(iP j ps||pAo ops x o)&&lZ ops o ps (j+1) r
def tP (ops:List Oper) (preds:List (List Nat)):Nat→List Oper→Bool
 | _,[]=>true
 | i,o::r=>(!Nat.beq (bC o.op) 2||mN o.op)&&lZ ops o ((preds[i]?).getD []) 0 (ops.take i)&&(tD o.after.toList).all (fun e=>Nat.blt e i)&&tP ops preds (i+1) r
def kAi (ops:List Oper):Bool:=tP ops (qC ops []) 0 ops
def qAe (ops:List Oper) (x y:Oper):Bool:=pAo ops x y&&!(Nat.beq (bC x.op) 2&&Nat.beq (bC y.op) 2&&(mL x.op||mL y.op))
def qT (ops:List Oper) (o:Oper) (ps:List Nat):Nat→List Oper→Bool
 | _,[]=>true
 | j,x::r=>(iP j ps||qAe ops x o)&&qT ops o ps (j+1) r
def uP (ops:List Oper) (preds:List (List Nat)):Nat→List Oper→Bool
 | _,[]=>true
 | i,o::r=>qT ops o ((preds[i]?).getD []) 0 (ops.take i)&&(tD o.after.toList).all (fun e=>Nat.blt e i)&&uP ops preds (i+1) r
def lAi (ops:List Oper):Bool:=uP ops (qC ops []) 0 ops
section
variable {E:Env} {P:Program} {μ:Mu} {w:World} {n:Nat}
def kAb (P:Program) (s:Sem Value) (μ:Mu) (w:World) (n:Nat) (x:AV) (b:Blk):Prop:=
 ∃ l u o,s.run P w=.ok u (w.alloc o)∧l.b=w.heap.size∧VR (μ.add n l) x u∧BR (μ.add n l) (w.alloc o) l b
theorem mA7 (hn:μ n=none) (xs:List AV) (cs:Array Value) (e:TypeId) (hx:VRs μ xs cs.toList) :
  ∃ l,l.b=w.heap.size∧l.sh=0∧l.tot=xs.length∧l.ex=true∧BR (μ.add n l) (w.alloc (.cells cs e)) l (.row xs .own):=by
 have hlen:=hx.length;refine ⟨⟨w.heap.size,0,xs.length,true⟩,rfl,rfl,rfl,rfl,?_⟩;have hle:μ.le (μ.add n ⟨w.heap.size,0,xs.length,true⟩):=Mu.le_add hn;have hx':=VRs.mono hle _ _ hx;refine ⟨⟨⟨e,?_⟩,by simp,?_⟩,rfl,rfl,rfl,?_⟩
 ·have hg:(w.alloc (.cells cs e)).heap[w.heap.size]? = some (.cells cs e):=by show (w.heap.push _)[_]? = _;simp
  simp only [World.shape?,hg];simpa using hlen
 ·intro i x hi
  obtain ⟨y,hy,hr'⟩:=hx'.get hi;refine ⟨y,?_,hr'⟩;rw [World.cell?_alloc_new];simpa using hy
 ·intro i _;exact World.frozen?_alloc_new w cs e i
theorem lAb (hn:μ n=none) {xs:List AV} {cs:Array Value} {e:TypeId} (hx:VRs μ xs cs.toList):kAb P (do pure (.pointer (some (← newRow e cs)))) μ w n (.ptr (some (n,0))) (.row xs .own):=by
 obtain ⟨l,l1,l2,l3,l4,h1⟩:=mA7 (w:=w) hn xs cs e hx;refine ⟨l,.pointer (some ⟨w.heap.size,0,none⟩),_,?_,l1,?_,h1⟩
 ·simp only [newRow,Sem.run_bind,run_newObj,Result.andThen_ok,Sem.run_pure];rfl
 ·simp only [VR];exact ⟨l,jF _ _ _,by rw [l1,l2]⟩
theorem mA5 (hn:μ n=none) {xs:List AV} {cs:Array Value} {e:TypeId} (hx:VRs μ xs cs.toList):kAb P (do pure (.pointer (some (← newRow e cs)))) μ w n (.ptr (some (n,0))) (.row xs (.ty e)):=by
 obtain ⟨l,l1,l2,l3,l4,h1⟩:=mA7 (w:=w) hn xs cs e hx;have hlen:=hx.length;refine ⟨l,.pointer (some ⟨w.heap.size,0,none⟩),_,?_,l1,?_,⟨h1,?_⟩⟩
 ·simp only [newRow,Sem.run_bind,run_newObj,Result.andThen_ok,Sem.run_pure];rfl
 ·simp only [VR];exact ⟨l,jF _ _ _,by rw [l1,l2]⟩
 ·have hg:(w.alloc (.cells cs e)).heap[w.heap.size]? = some (.cells cs e):=by show (w.heap.push _)[_]? = _;simp
  rw [l1,l3];simp only [World.shape?,hg];simpa using hlen
theorem yB7 (E:Env) (hn:μ n=none) {e:TypeId} {v:AV} {u:Value} (hv:VR μ v u):kAb P (Instr.box e u) μ w n (.ptr (some (n,0))) (.row v.cells (bif E.trk e then .ty e else .own)):=by
 cases E.trk e with
 | false=>
  obtain ⟨l,u',o,h1,h2⟩:=lAb (P:=P) (w:=w) (e:=e) hn hv.cells;refine ⟨l,u',o,?_,h2⟩;simp only [Instr.box,newVar];exact h1
 | true=>
  obtain ⟨l,u',o,h1,h2⟩:=mA5 (P:=P) (w:=w) (e:=e) hn hv.cells;refine ⟨l,u',o,?_,h2⟩;simp only [Instr.box,newVar];exact h1
theorem bAw (ok:EnvOK E P) (hn:μ n=none) {e:TypeId} {z:AV} (hz:E.zero e=some z):kAb P (Instr.alloc e true (.tuple #[])) μ w n (.ptr (some (n,0))) (.row z.cells (bif E.trk e then .ty e else .own)):=by
 obtain ⟨zv,hzr,hzv⟩:=iE ok hz
 cases E.trk e with
 | false=>
  obtain ⟨l,u,o,h1,h2⟩:=lAb (P:=P) (w:=w) (e:=e) hn (hzv μ).cells;refine ⟨l,u,o,?_,h2⟩;simp only [Instr.alloc,Sem.run_bind,hzr,Result.andThen_ok,newVar];simpa using h1
 | true=>
  obtain ⟨l,u,o,h1,h2⟩:=mA5 (P:=P) (w:=w) (e:=e) hn (hzv μ).cells;refine ⟨l,u,o,?_,h2⟩;simp only [Instr.alloc,Sem.run_bind,hzr,Result.andThen_ok,newVar];simpa using h1
theorem mAb (ok:EnvOK E P) {h h':Heap} {t:TypeId} {lv cv:AV} {lu cu:Value} {x:AV} (hn:μ h.next=none) (hl:VR μ lv lu) (hc:VR μ cv cu) (hx:bJ E t lv cv h=some (x,h')) :
  ∃ b,h'=h.push b∧kAb P (Instr.makeSlice t lu cu) μ w h.next x b:=by
 unfold bJ at hx
 split at hx
 ·rename_i e l c hu h1 h2
  obtain ⟨k,rfl⟩:=jT h1 hl;obtain ⟨k',rfl⟩:=jT h2 hc
  cases hi:E.info e with
  | none=>simp [hi] at hx
  | some i=>
   cases hz:E.zero e with
   | none=>simp [hi,hz] at hx
   | some z=>
    simp only [hi,hz] at hx;obtain ⟨zv,hzr,hzv⟩:=iE ok hz
    cases hb:(Nat.ble l c&&Nat.ble (c * (i.bytes+i.size+1)) bT&&Nat.beq z.cells.length i.size) with
    | false=>simp [hb] at hx
    | true=>
     simp only [hb,cond_true,Option.some.injEq,Prod.mk.injEq] at hx;obtain ⟨rfl,rfl⟩:=hx;simp only [Bool.and_eq_true] at hb;have hb1:l≤c:=by simpa using hb.1.1
     have hb2:c * (i.bytes+i.size+1)≤1073741824:=Nat.le_of_ble_eq_true hb.1.2;have hb3:z.cells.length=i.size:=Nat.eq_of_beq_eq_true hb.2;have hcb:c * i.bytes≤1073741824:=Nat.le_trans (Nat.mul_le_mul_left _ (by omega)) hb2;have hcc:c≤1073741824:=Nat.le_trans (Nat.le_mul_of_pos_right c (by omega)) hb2;have zs:=nJ (n:=c) (hzv μ);rw [hb3] at zs;obtain ⟨lc,l1,l2,l3,l4,h5⟩:=mA7 (w:=w) hn (iAa c z.cells) _ e zs;have hinfo:=ok.info e i hi;refine ⟨_,rfl,lc,.slice (some ⟨w.heap.size,0,none⟩) l c,_,?_,l1,?_,h5⟩
     ·have e1:(decide ((c:Int)<0)||decide ((i.bytes:Int) * (c:Int) > 2 ^ 48))=false:=by
       have:(i.bytes:Int) * (c:Int)≤1073741824:=by
        have e0:(i.bytes:Int) * (c:Int)=((c * i.bytes:Nat):Int):=by rw [Int.natCast_mul,Int.mul_comm]
        rw [e0];omega
       have e2:¬ ((c:Int)<0):=by omega
       have e3:¬ ((i.bytes:Int) * (c:Int) > 2 ^ 48):=by
        have:(2:Int) ^ 48=281474976710656:=by decide
        omega
       rw [decide_eq_false e2,decide_eq_false e3];rfl
      have e4:(decide ((l:Int)<0))=false:=by simp
      have e5:(decide ((l:Int) > (c:Int)))=false:=by simp;exact hb1
      have hsize:(sizeOf e).run P w=.ok i.size w:=eT hinfo;simp only [Instr.makeSlice,Sem.run_bind,wA (pA ok hu),Result.andThen_ok,asInt,asIntOf,Sem.run_pure,qF hinfo,wrap_small c hcc,wrap_small l (by omega),e1,e4,e5,Bool.or_self,Bool.false_eq_true,if_false,
       run_askRoom,hsize,Int.toNat_natCast]
      by_cases h0:c * i.size=0
      ·simp only [h0,if_true,Sem.run_pure,Result.andThen_ok,newRow,Sem.run_bind,run_newObj,show Array.range 0 = #[] from rfl,Array.map_empty]
       rfl
      ·simp only [h0,if_false,Sem.run_bind,hzr,Sem.run_pure,Result.andThen_ok,newRow,run_newObj]
       rfl
     ·have:=VR.slice_own (μ:=μ.add h.next lc) (A:=h.next) (off:=0) (len:=l) (cap:=c) (sz:=i.size) (jF _ _ _) hb1 (by rw [l2,l3,vG,hb3];omega)
      rw [l1,l2] at this;exact this
 ·simp at hx
theorem HR.at {h:Heap} (hr:HR μ h w) (hn:μ n=none) (hlt:n<h.next) {b:Blk} (hg:h.t.get n=some b) (o:Obj) (l:Loc) (hl:l.b=w.heap.size) (hb:BR (μ.add n l) (w.alloc o) l b):HR (μ.add n l) h (w.alloc o):=by
 have hle:μ.le (μ.add n l):=Mu.le_add hn;have hold:∀ k,k<w.heap.size→(w.alloc o).heap[k]? = w.heap[k]?:=fun k hk=>by
  show (w.heap.push o)[k]? = _;rw [Array.getElem?_push,if_neg (by omega)]
 have hadd:∀ {A k},μ.add n l A=some k→(A=n∧k=l)∨(A≠n∧μ A=some k):=by
  intro A k hA;unfold Mu.add at hA
  split at hA
  ·rename_i e;exact .inl ⟨e,by cases hA;rfl⟩
  ·rename_i e;exact .inr ⟨e,hA⟩
 refine ⟨?_,?_,?_,fun x hx=>hle _ _ (hr.pin x hx)⟩
 ·intro A k hA
  rcases hadd hA with ⟨rfl,rfl⟩ | ⟨_,h1⟩
  ·exact ⟨hlt,by simp [hl]⟩
  ·exact ⟨(hr.dom A k h1).1,by simp;have:=(hr.dom A k h1).2;omega⟩
 ·intro A B la lb ba bb hA hB ga gb va vb hne heq
  rcases hadd hA with ⟨rfl,rfl⟩ | ⟨na,h1⟩
  ·rcases hadd hB with ⟨rfl,rfl⟩ | ⟨nb,h2⟩
   ·exact absurd rfl hne
   ·have:=(hr.dom B lb h2).2;omega
  ·rcases hadd hB with ⟨rfl,rfl⟩ | ⟨nb,h2⟩
   ·have:=(hr.dom A la h1).2;omega
   ·exact hr.inj A B la lb ba bb h1 h2 ga gb va vb hne heq
 ·intro A k b' hA hg'
  rcases hadd hA with ⟨rfl,rfl⟩ | ⟨na,h1⟩
  ·rw [hg] at hg';cases hg';exact hb
  ·exact BR.mono hle (BR.heap (hold _ (hr.dom A k h1).2) (hr.blk A k b' h1 hg'))
theorem Ext.at {mu0:Mu} {h0 h:Heap} {w0:World} (hx:Ext mu0 h0 w0 μ h w) (hn:μ n=none) (hle:h0.next≤n) (o:Obj) (l:Loc) (hl:l.b=w.heap.size):Ext mu0 h0 w0 (μ.add n l) h (w.alloc o):=by
 have hadd:∀ {A k},μ.add n l A=some k→(A=n∧k=l)∨(A≠n∧μ A=some k):=by
  intro A k hA;unfold Mu.add at hA
  split at hA
  ·rename_i e;exact .inl ⟨e,by cases hA;rfl⟩
  ·rename_i e;exact .inr ⟨e,hA⟩
 refine ⟨fun A k hA=>Mu.le_add hn A k (hx.mono A k hA),hx.next,?_,hx.wr,?_,?_,hx.os,hx.tape,hx.output⟩
 ·intro A k hA
  rcases hadd hA with ⟨rfl,rfl⟩ | ⟨_,h1⟩
  ·exact .inr ⟨hle,.inl (by rw [hl];exact hx.size)⟩
  ·exact hx.fresh A k h1
 ·intro b hb hno
  rw [← hx.frame b hb hno];show (w.heap.push o)[b]? = _
  have:=hx.size
  rw [Array.getElem?_push,if_neg (by omega)]
 ·have:=hx.size
  simp;omega
end
end Ai
namespace Ai
section
variable {α:Type}
variable {E:Env} {P:Program} {call:CallF} {fr fr2:Fr}
theorem rAe {α:Type} {t:Tr α} {n m:Nat} {x:α} (hne:m≠n):(t.set n x).get m=t.get m:=by
 cases h:t.get m with
 | some y=>exact Tr.get_set_other hne h
 | none=>
  cases h2:(t.set n x).get m with
  | none=>rfl
  | some y=>
   rcases Tr.get_set h2 with ⟨e,_⟩ | ⟨_,e⟩
   ·exact absurd e hne
   ·rw [h] at e;cases e
theorem nA5 {ops:List Oper} {x y:Oper} (hf:pAo ops x y=true):True∧(∀ t,x.dst=some t→t ∉ oE ops y)∧(∀ t,y.dst=some t→t ∉ oE ops x)∧(∀ t,x.dst=some t→y.dst≠some t):=by
 simp only [pAo,Bool.and_eq_true,Bool.not_eq_true'] at hf;obtain ⟨⟨h2,h3⟩,h4⟩:=hf;refine ⟨trivial,?_,?_,?_⟩
 ·intro t ht hm;simp only [uY,ht] at h2;rw [kD.2 hm] at h2;cases h2
 ·intro t ht hm;simp only [uY,ht] at h3;rw [kD.2 hm] at h3;cases h3
 ·intro t ht hy;simp only [fW,ht,hy] at h4;rw [bt rfl] at h4;cases h4
def bB1 (E:Env) (call:CallF) (ops:List Oper) (recs:List (Fr×Heap×AV)) (h':Heap):Prop:=
 ∀ (i:Nat) (o:Oper) (f:Fr) (hh:Heap) (v:AV),ops[i]? = some o→recs[i]? = some (f,hh,v)→bC o.op=1→∃ u h2,dE E call ops f o h'=some (u,h2)∧eqV u v=true
theorem lAl (ok:EnvOK E P) {μ:Mu} {nt:Nat} {a:Act} (ha:AR μ nt fr a) {o:Oper} (hk:mN o.op=true) {h h':Heap} {x:AV} (hx:eI E call fr o.op h=some (x,h')) (hn:μ h.next=none) (w:World) :
  ∃ b s,h'=h.push b∧execOp a.eval o=(do pure (.value (← s)))∧kAb P s μ w h.next x b:=by
 obtain ⟨dst,op,type,pos,after,guard⟩:=o;simp only at hx hk;cases op <;> simp only [mN,reduceCtorEq] at hk
 case alloc e=>
  simp only [eI,opA] at hx
  cases hz:E.zero e with
  | none=>simp [hz] at hx
  | some z=>
   simp only [hz,Option.some.injEq,kJ,Prod.mk.injEq] at hx;obtain ⟨rfl,rfl⟩:=hx;exact ⟨_,_,rfl,rfl,bAw (P:=P) ok hn hz⟩
 case box e y=>
  simp only [eI,opA] at hx;obtain ⟨v,h1,h2⟩:=wD hx;simp only [Option.some.injEq,kJ,Prod.mk.injEq] at h2;obtain ⟨rfl,rfl⟩:=h2;exact ⟨_,_,rfl,rfl,yB7 (P:=P) E hn (bB ha h1)⟩
 case makeSlice t l c=>
  simp only [eI,opA] at hx;obtain ⟨v,u,h1,h2,h3⟩:=kH hx;obtain ⟨b,e1,e2⟩:=mAb (P:=P) (w:=w) ok hn (bB ha h1) (bB ha h2) h3;exact ⟨b,_,e1,rfl,e2⟩
theorem mAl (call:CallF) {o:Oper} (hk:mN o.op=true) {h h':Heap} {x:AV} (hx:eI E call fr o.op h=some (x,h')):∃ b,h'=h.push b:=by
 obtain ⟨dst,op,type,pos,after,guard⟩:=o;simp only at hx hk;cases op <;> simp only [mN,reduceCtorEq] at hk
 case alloc e=>
  simp only [eI,opA] at hx
  cases hz:E.zero e with
  | none=>simp [hz] at hx
  | some z=>
   simp only [hz,Option.some.injEq,kJ,Prod.mk.injEq] at hx;exact ⟨_,hx.2.symm⟩
 case box e y=>
  simp only [eI,opA] at hx;obtain ⟨v,h1,h2⟩:=wD hx;simp only [Option.some.injEq,kJ,Prod.mk.injEq] at h2;exact ⟨_,h2.2.symm⟩
 case makeSlice t l c=>
  simp only [eI,opA] at hx;obtain ⟨v,u,h1,h2,h3⟩:=kH hx;unfold bJ at h3
  split at h3
  ·rename_i e l c hu g1 g2
   cases hi:E.info e with
   | none=>simp [hi] at h3
   | some i=>
    cases hz:E.zero e with
    | none=>simp [hi,hz] at h3
    | some z=>
     simp only [hi,hz] at h3
     cases hb:(Nat.ble l c&&Nat.ble (c * (i.bytes+i.size+1)) bT&&Nat.beq z.cells.length i.size) with
     | false=>simp [hb] at h3
     | true=>
      simp only [hb,cond_true,Option.some.injEq,Prod.mk.injEq] at h3;exact ⟨_,h3.2.symm⟩
  ·cases h3
end
end Ai
namespace Ai
section
variable {α:Type}
variable {E:Env} {P:Program} {call:CallF} {fr fr2:Fr}
theorem nA7 (ok:EnvOK E P) {μ:Mu} {w:World} {h h':Heap} {t:TypeId} {len:Nat} {parts:List (Nat×AV)} {parts':Array (Nat×Value)} {x:AV} (hn:μ h.next=none) (hp:PR μ parts parts'.toList)
  (hx:wH E h t len parts=some (x,h')):∃ b,h'=h.push b∧kAb P (Instr.buildSlice t len parts') μ w h.next x b:=by
 unfold wH at hx
 split at hx
 ·rename_i e hu
  cases hs:E.size e with
  | none=>simp [hs] at hx
  | some n=>
   simp only [hs] at hx
   cases hz:E.zero e with
   | none=>simp [hz] at hx
   | some z=>
    simp only [hz] at hx;obtain ⟨zv,hzr,hzv⟩:=iE ok hz
    cases hb:(Nat.beq z.cells.length n&&Nat.ble (len * n) 16777216) with
    | false=>simp [hb] at hx
    | true=>
     simp only [hb,cond_true] at hx;simp only [Bool.and_eq_true] at hb;have hb1:z.cells.length=n:=Nat.eq_of_beq_eq_true hb.1;have hb2:len * n≤16777216:=by simpa using hb.2
     subst hb1
     cases hf:tY (fun i=>some (i * z.cells.length,z.cells.length)) (iAa len z.cells) parts with
     | none=>simp [hf] at hx
     | some cs=>
      simp only [hf,Option.some.injEq,Prod.mk.injEq] at hx;obtain ⟨rfl,rfl⟩:=hx;obtain ⟨xs',h1,h2,h3⟩:=iL hp (nJ (n:=len) (hzv μ)) hf;obtain ⟨l,l1,l2,l3,l4,h5⟩:=mA7 (w:=w) hn cs xs' e h2;have hlim:¬ (len * z.cells.length > 2 ^ 24):=by
       have:(2:Nat) ^ 24=16777216:=by decide
       omega
      refine ⟨_,rfl,l,.slice (some ⟨w.heap.size,0,none⟩) len len,_,?_,l1,?_,h5⟩
      ·by_cases h0:len * z.cells.length=0
       ·have hl0:¬ ((0:Nat) > 2 ^ 24):=by decide
        have h1':Instr.fill (fun i=>some (i * z.cells.length,z.cells.length)) #[] parts'.toList=some xs':=by
         rw [← h1];congr 1;simp [h0]
        simp only [Instr.buildSlice,Sem.run_bind,wA (pA ok hu),Result.andThen_ok,aD ok hs,h0,hl0,if_false,if_true,Sem.run_pure,show Array.range 0 = #[] from rfl,Array.map_empty,h1',newRow,run_newObj];rfl
       ·simp only [Instr.buildSlice,Sem.run_bind,wA (pA ok hu),Result.andThen_ok,aD ok hs,if_neg hlim,h0,if_false,hzr,Sem.run_pure,h1,newRow,run_newObj]
        rfl
      ·have:=VR.slice_own (μ:=μ.add h.next l) (A:=h.next) (off:=0) (len:=len) (cap:=len) (sz:=z.cells.length) (jF _ _ _) (Nat.le_refl _) (by rw [l2,l3,h3,vG];omega)
       rw [l1,l2] at this;exact this
 ·simp at hx
theorem tAe (ok:EnvOK E P) {μ:Mu} {nt:Nat} {a:Act} (ha:AR μ nt fr a) {o:Oper} (hk:wQ o.op=true) {h h':Heap} {x:AV} (hx:eI E call fr o.op h=some (x,h')) (hn:μ h.next=none) (w:World) :
  ∃ b s,h'=h.push b∧execOp a.eval o=(do pure (.value (← s)))∧kAb P s μ w h.next x b:=by
 cases ho:mN o.op with
 | true=>exact lAl ok ha ho hx hn w
 | false=>
  obtain ⟨dst,op,type,pos,after,guard⟩:=o;simp only at hx hk ho;cases op
  case buildSlice t len ps=>
   simp only [eI,opA] at hx
   cases hp:gH fr ps.toList with
   | none=>simp [hp] at hx
   | some l=>
    simp only [hp] at hx;have hps:PR μ l (ps.map fun (i,x)=>(i,a.eval x)).toList:=by simpa using vL ha hp
    obtain ⟨b,e1,e2⟩:=nA7 (P:=P) (w:=w) ok hn hps hx;exact ⟨b,_,e1,rfl,e2⟩
  all_goals
   simp only [wQ] at hk;rw [ho] at hk;cases hk
theorem gA1 (call:CallF) {o:Oper} (hk:wQ o.op=true) {h h':Heap} {x:AV} (hx:eI E call fr o.op h=some (x,h')):∃ b,h'=h.push b:=by
 cases ho:mN o.op with
 | true=>exact mAl call ho hx
 | false=>
  obtain ⟨dst,op,type,pos,after,guard⟩:=o;simp only at hx hk ho;cases op
  case buildSlice t len ps=>
   simp only [eI,opA] at hx
   cases hp:gH fr ps.toList with
   | none=>simp [hp] at hx
   | some l=>
    simp only [hp] at hx;unfold wH at hx
    split at hx
    ·rename_i e hu
     cases hs:E.size e with
     | none=>simp [hs] at hx
     | some n=>
      simp only [hs] at hx
      cases hz:E.zero e with
      | none=>simp [hz] at hx
      | some z=>
       simp only [hz] at hx
       cases hb:(Nat.beq z.cells.length n&&Nat.ble (len * n) 16777216) with
       | false=>simp [hb] at hx
       | true=>
        simp only [hb,cond_true] at hx
        cases hf:tY (fun i=>some (i * n,n)) (iAa len z.cells) l with
        | none=>simp [hf] at hx
        | some cs=>simp only [hf,Option.some.injEq,Prod.mk.injEq] at hx;exact ⟨_,hx.2.symm⟩
    ·simp at hx
  all_goals
   simp only [wQ] at hk;rw [ho] at hk;cases hk
theorem rT {ops:List Oper} {o:Oper} {ps:List Nat}:∀ {l:List Oper} {j:Nat},qT ops o ps j l=true→∀ k x,l[k]? = some x→j+k∈ps∨qAe ops x o=true
 | [],j,h,k,x,hk=>by simp at hk
 | y::r,j,h,k,x,hk=>by
  simp only [qT,Bool.and_eq_true,Bool.or_eq_true] at h
  cases k with
  | zero=>simp at hk;subst hk;exact h.1.imp (fun e=>by simpa using kD.1 e) id
  | succ k=>
   simp at hk
   have:=rT h.2 k x hk
   rw [show j+(k+1)=j+1+k from by omega];exact this
theorem iA1 {ops:List Oper} {preds:List (List Nat)}:∀ {l:List Oper} {i:Nat},uP ops preds i l=true→∀ k o,l[k]? = some o→
  (∀ j x,(ops.take (i+k))[j]? = some x→j∈(preds[i+k]?).getD []∨qAe ops x o=true)∧(∀ e∈tD o.after.toList,e<i+k)
 | [],i,h,k,o,hk=>by simp at hk
 | y::r,i,h,k,o,hk=>by
  simp only [uP,Bool.and_eq_true] at h
  cases k with
  | zero=>
   simp at hk;subst hk;refine ⟨fun j x hj=>by simpa using rT h.1.1 j x (by simpa using hj),fun e he=>?_⟩
   have:=List.all_eq_true.1 h.1.2 e he
   simpa [Nat.blt_eq] using this
  | succ k=>
   simp at hk
   have:=iA1 h.2 k o hk
   rw [show i+(k+1)=i+1+k from by omega];exact this
theorem nAl {ops:List Oper} {x y:Oper} (hf:qAe ops x y=true):(bC x.op=2→bC y.op=2→mL x.op=false∧mL y.op=false)∧(∀ t,x.dst=some t→t ∉ oE ops y)∧(∀ t,y.dst=some t→t ∉ oE ops x)∧(∀ t,x.dst=some t→y.dst≠some t):=by
 simp only [qAe,Bool.and_eq_true,Bool.not_eq_true'] at hf;obtain ⟨h1,h2⟩:=hf;refine ⟨fun hx hy=>?_,(nA5 h1).2⟩;rw [hx,hy] at h2;simpa using h2
theorem gI {o:Op} (h:mL o=true):bC o=2∧wQ o=false:=by
 simp only [mL,Bool.and_eq_true,Bool.not_eq_true'] at h;exact ⟨Nat.eq_of_beq_eq_true h.1,h.2⟩
theorem oA7 {o:Op} (h:mL o=false) (hk:bC o=2):wQ o=true:=by
 unfold mL at h;rw [hk] at h;simpa using h
def kAp (E:Env) (call:CallF) (ops:List Oper) (recs:List (Fr×Heap×AV)) (h':Heap):Prop:=
 ∀ (i:Nat) (o:Oper) (f:Fr) (hh:Heap) (v:AV),ops[i]? = some o→recs[i]? = some (f,hh,v)→bC o.op=1→∀ (k:Nat) (Hk:Heap),((∃ o' f' v',ops[k]? = some o'∧mL o'.op=true∧recs[k]? = some (f',Hk,v'))∨(k=ops.length∧Hk=h'))→
  ∃ u h2,dE E call ops f o Hk=some (u,h2)∧eqV u v=true
end
end Ai
namespace Ai
section
variable {α:Type}
variable {E:Env} {P:Program} {call:CallF} {fr fr2:Fr}
theorem tT {ops:List Oper} {o:Oper} {ps:List Nat}:∀ {l:List Oper} {j:Nat},fK ops o ps j l=true→∀ k x,l[k]? = some x→j+k∈ps∨kA0 ops x o=true
 | [],j,h,k,x,hk=>by simp at hk
 | y::r,j,h,k,x,hk=>by
  simp only [fK,Bool.and_eq_true,Bool.or_eq_true] at h
  cases k with
  | zero=>simp at hk;subst hk;exact h.1.imp (fun e=>by simpa using kD.1 e) id
  | succ k=>
   simp at hk
   have:=tT h.2 k x hk
   rw [show j+(k+1)=j+1+k from by omega];exact this
theorem jA1 {ops:List Oper} {preds:List (List Nat)}:∀ {l:List Oper} {i:Nat},gK ops preds i l=true→∀ k o,l[k]? = some o→
  (∀ j x,(ops.take (i+k))[j]? = some x→j∈(preds[i+k]?).getD []∨kA0 ops x o=true)∧(∀ e∈tD o.after.toList,e<i+k)
 | [],i,h,k,o,hk=>by simp at hk
 | y::r,i,h,k,o,hk=>by
  simp only [gK,Bool.and_eq_true] at h
  cases k with
  | zero=>
   simp at hk;subst hk;refine ⟨fun j x hj=>by simpa using tT h.1.1 j x (by simpa using hj),fun e he=>?_⟩
   have:=List.all_eq_true.1 h.1.2 e he
   simpa [Nat.blt_eq] using this
  | succ k=>
   simp at hk
   have:=jA1 h.2 k o hk
   rw [show i+(k+1)=i+1+k from by omega];exact this
theorem iJ {ops:List Oper} {x y:Oper} (hf:kA0 ops x y=true):(mL x.op=true→bC y.op≠2)∧(∀ t,x.dst=some t→t ∉ oE ops y)∧(∀ t,y.dst=some t→t ∉ oE ops x)∧(∀ t,x.dst=some t→y.dst≠some t):=by
 simp only [kA0,Bool.and_eq_true,Bool.not_eq_true'] at hf;obtain ⟨h1,h2⟩:=hf;refine ⟨fun hx hy=>?_,(nA5 h1).2⟩;rw [hx,hy] at h2;simp at h2
def aB8 (ops:List Oper) (recs:List (Fr×Heap×AV)) (h':Heap):Prop:=∀ (x m:Nat) (ox om:Oper) (b:Blk),x<m→x ∉ ((qC ops [])[m]?).getD []→ops[x]? = some ox→mL ox.op=false→ops[m]? = some om→mL om.op=true→
 kX ops.length recs h' (x+1)=(kX ops.length recs h' x).push b→(kX ops.length recs h' (m+1)).t.get (kX ops.length recs h' x).next=(kX ops.length recs h' m).t.get (kX ops.length recs h' x).next
theorem pA7 (ok:EnvOK E P) (hcall:nT P call) {nt:Nat} {ops:Array Oper} {h:Heap} {fr':Fr} {h':Heap} {recs:List (Fr×Heap×AV)} (ht:pE E call nt ops.toList ops.toList fr h=some (recs,fr',h')) (hord:qAo ops.toList=true) (hstab:kAp E call ops.toList recs h') (hsam:aB8 ops.toList recs h')
  {μ:Mu} {w:World} {a:Act} {Q:Exit→Act→World→Prop} (hr:HR μ h w) (ha:AR μ nt fr a) (hq:∀ μ' a' w',AR μ' nt fr' a'→HR μ' h' w'→Ext μ h w μ' h' w'→Q .normal a' w'):wpAny P .any ops Q ops.size (Array.replicate ops.size false) a { w with drawn:=w.drawn+1 }:=by
 skip
 {
  skip
  {
   obtain ⟨F,H,V,f0,g0,fn,gn,hstep,hrec⟩:=gJ ht;have hlen:ops.toList.length=ops.size:=by simp
   have ord:∀ (i:Nat) (o:Oper),ops.toList[i]? = some o→(∀ (j:Nat) (x:Oper),j<i→ops.toList[j]? = some x→j∈((qC ops.toList [])[i]?).getD []∨kA0 ops.toList x o=true)∧(∀ e∈tD o.after.toList,e<i):=by
    intro i o ho
    have:=jA1 (i:=0) hord i o ho
    simp only [Nat.zero_add] at this;exact ⟨fun j x hj hx=>this.1 j x (by rw [List.getElem?_take_of_lt hj];exact hx),this.2⟩
   have hpreds:∀ (i:Nat) (ps:List Nat),(qC ops.toList [])[i]? = some ps→∃ o:Oper,ops.toList[i]? = some o∧∀ p∈ps,p∈tD o.after.toList∨∃ e∈tD o.after.toList,∃ qs,(qC ops.toList [])[e]? = some qs∧p∈qs:=by
    intro i ps hi
    have:=lW ops.toList [] [] rfl (by simp) i ps hi
    simpa using this
   have predsIn:∀ (S:Nat→Prop),(∀ (i:Nat) (o:Oper),ops.toList[i]? = some o→S i→∀ e∈tD o.after.toList,S e)→
     ∀ (i:Nat) (o:Oper),ops.toList[i]? = some o→(∀ e∈tD o.after.toList,S e)→∀ p∈((qC ops.toList [])[i]?).getD [],S p:=by
    intro S hcl i
    induction i using Nat.strongRecOn with
    | _ i ih=>
     intro o ho he p hp
     cases hps:(qC ops.toList [])[i]? with
     | none=>simp [hps] at hp
     | some ps=>
      simp [hps] at hp;obtain ⟨o',ho',hpp⟩:=hpreds i ps hps;rw [ho] at ho';cases ho';rcases hpp p hp with h3 | ⟨e,h3,qs,h4,h5⟩
      ·exact he p h3
      ·have hlt:=(ord i o ho).2 e h3
       obtain ⟨oe,hoe,_⟩:=hpreds e qs h4;exact ih e hlt oe hoe (hcl e oe hoe (he e h3)) p (by simp [h4];exact h5)
   -- who wrote a slot, in the order of the text
   have wrote:∀ (i:Nat),i≤ops.size→∀ t v,(F i).get t=some v→
     (∃ k o,k<i∧ops.toList[k]? = some o∧o.dst=some t∧t<nt∧v=V k∧∀ k' o',k'<i→ops.toList[k']? = some o'→o'.dst=some t→k'≤k)∨
     ((∀ k o,k<i→ops.toList[k]? = some o→o.dst≠some t)∧fr.get t=some v):=by
    intro i
    induction i with
    | zero=>intro _ t v hv;rw [f0] at hv;exact .inr ⟨fun k o hk=>by omega,hv⟩
    | succ i ih=>
     intro hi t v hv;obtain ⟨o,ho⟩:∃ o,ops.toList[i]? = some o:=⟨ops.toList[i]'(by simp;omega),by simp⟩;rw [(hstep i o ho).2] at hv;have old:(F i).get t=some v→o.dst≠some t→(∃ k o,k<i+1∧ops.toList[k]? = some o∧o.dst=some t∧t<nt∧v=V k∧∀ k' o',k'<i+1→ops.toList[k']? = some o'→o'.dst=some t→k'≤k)∨
       ((∀ k o,k<i+1→ops.toList[k]? = some o→o.dst≠some t)∧fr.get t=some v):=by
      intro hv' hne;rcases ih (by omega) t v hv' with ⟨k,ok',h1,h2,h3,h4,h5,h6⟩ | ⟨h1,h2⟩
      ·refine .inl ⟨k,ok',by omega,h2,h3,h4,h5,fun k' o' hk' ho' hd'=>?_⟩
       by_cases e:k'=i
       ·subst e;rw [ho] at ho';cases ho';exact absurd hd' hne
       ·exact h6 k' o' (by omega) ho' hd'
      ·refine .inr ⟨fun k ok' hk ho' hd'=>?_,h2⟩
       by_cases e:k=i
       ·subst e;rw [ho] at ho';cases ho';exact hne hd'
       ·exact h1 k ok' (by omega) ho' hd'
     cases hdst:o.dst with
     | none=>
      rw [hdst] at hv;exact old hv (by rw [hdst];simp)
     | some d=>
      rw [hdst] at hv;simp only [cT] at hv
      cases hlt:Nat.blt d nt with
      | false=>simp [hlt,Tr.get_nil] at hv
      | true=>
       simp only [hlt,cond_true] at hv;rcases Tr.get_set hv with ⟨rfl,rfl⟩ | ⟨hne,hv'⟩
       ·exact .inl ⟨i,o,by omega,ho,hdst,by simpa [Nat.blt_eq] using hlt,rfl,fun k' _ hk' _ _=>by omega⟩
       ·exact old hv' (by rw [hdst];intro e;cases e;exact hne rfl)
   rw [hlen] at gn;have hat:∀ k,k≤ops.size→kX ops.toList.length recs h' k=H k:=by
    intro k hk;unfold kX;rw [hlen]
    by_cases hlt:k<ops.size
    ·rw [show Nat.blt k ops.size=true by simpa [Nat.blt_eq] using hlt,cond_true,hrec k (by simpa using hlt)]
    ·have:k=ops.size:=by omega
     subst this;have hq:Nat.blt ops.size ops.size=false:=by
      cases hq:Nat.blt ops.size ops.size with
      | false=>rfl
      | true=>
       rw [Nat.blt_eq] at hq;omega
     rw [hq,cond_false,gn]
   have hsame:∀ (x m:Nat) (ox om:Oper) (b:Blk),x<m→x ∉ ((qC ops.toList [])[m]?).getD []→ops.toList[x]? = some ox→mL ox.op=false→ops.toList[m]? = some om→mL om.op=true→H (x+1)=(H x).push b→(H (m+1)).t.get (H x).next=(H m).t.get (H x).next:=by
    intro x m ox om b hxm hxp hx1 hx2 hm1 hm2 hb;have hml:m<ops.size:=by have:=(List.getElem?_eq_some_iff.1 hm1).1;simpa using this
    have:=hsam x m ox om b hxm hxp hx1 hx2 hm1 hm2 (by rw [hat x (by omega),hat (x+1) (by omega)];exact hb)
    rwa [hat x (by omega),hat (m+1) (by omega),hat m (by omega)] at this
   have hop:∀ i,i<ops.size→∃ o,ops.toList[i]? = some o:=fun i hi=>⟨ops.toList[i]'(by simp;omega),by simp⟩;have hpush:∀ (i:Nat) (o:Oper),ops.toList[i]? = some o→mL o.op=false→H (i+1)=H i∨∃ b,H (i+1)=(H i).push b:=by
    intro i o ho hnb
    by_cases hk:bC o.op=2
    ·have hs:=(hstep i o ho).1
     unfold dE at hs
     split at hs
     ·obtain ⟨b,hb⟩:=gA1 call (oA7 hnb hk) hs
      exact .inr ⟨b,hb⟩
     ·simp only [Option.some.injEq,Prod.mk.injEq] at hs
      exact .inl hs.2.symm
     ·cases hs
    ·exact .inl (fI hk (hstep i o ho).1)
   -- a run without a great operation
   have hle:∀ (d i:Nat),i+d≤ops.size→(∀ k o,i≤k→k<i+d→ops.toList[k]? = some o→mL o.op=false)→(H i).next≤(H (i+d)).next∧(∀ A,A<(H i).next→(H (i+d)).t.get A=(H i).t.get A)∧(H (i+d)).pins=(H i).pins:=by
    intro d
    induction d with
    | zero=>intro i _ _;exact ⟨Nat.le_refl _,fun A _=>rfl,rfl⟩
    | succ d ih=>
     intro i hi hnb;obtain ⟨h1,h2,h2p⟩:=ih i (by omega) (fun k o g1 g2=>hnb k o g1 (by omega));obtain ⟨o,ho⟩:=hop (i+d) (by omega);rw [show i+(d+1)=(i+d)+1 from rfl];rcases hpush (i+d) o ho (hnb _ o (by omega) (by omega) ho) with h3 | ⟨b,h3⟩
     ·rw [h3];exact ⟨h1,h2,h2p⟩
     ·rw [h3]
      refine ⟨Nat.le_trans h1 (Nat.le_succ _),fun A hA=>?_,h2p⟩;rw [← h2 A hA];exact rAe (by omega)
   have hle':∀ (s m:Nat),(∀ k o,s≤k→k<m→ops.toList[k]? = some o→mL o.op=false)→m≤ops.size→∀ (i j:Nat),s≤i→i≤j→j≤m→(H i).next≤(H j).next∧(∀ A,A<(H i).next→(H j).t.get A=(H i).t.get A)∧(H j).pins=(H i).pins:=by
    intro s m hnb hm' i j hsi hij hj
    have:=hle (j-i) i (by omega) (fun k o g1 g2=>hnb k o (by omega) (by omega))
    rwa [show i+(j-i)=j by omega] at this
   have next:∀ a,a≤ops.size→∃ c,a≤c∧c≤ops.size∧(∀ k o,a≤k→k<c→ops.toList[k]? = some o→mL o.op=false)∧(c=ops.size∨∃ o,ops.toList[c]? = some o∧mL o.op=true):=by
    have:∀ d a,a+d=ops.size→∃ c,a≤c∧c≤ops.size∧(∀ k o,a≤k→k<c→ops.toList[k]? = some o→mL o.op=false)∧(c=ops.size∨∃ o,ops.toList[c]? = some o∧mL o.op=true):=by
     intro d
     induction d with
     | zero=>intro a ha';exact ⟨a,Nat.le_refl _,by omega,fun k o h1 h2=>by omega,.inl (by omega)⟩
     | succ d ihd=>
      intro a ha';obtain ⟨o,hoo⟩:=hop a (by omega)
      cases hb:mL o.op with
      | true=>exact ⟨a,Nat.le_refl _,by omega,fun k o h1 h2=>by omega,.inr ⟨o,hoo,hb⟩⟩
      | false=>
       obtain ⟨c,q1,q2,q3,q4⟩:=ihd (a+1) (by omega);refine ⟨c,by omega,q2,fun k o' h1 h2 h3=>?_,q4⟩
       by_cases e:k=a
       ·subst e;rw [hoo] at h3;cases h3;exact hb
       ·exact q3 k o' (by omega) h2 h3
    intro a ha';exact this (ops.size-a) a (by omega)
   have lift:∀ (a c:Nat),a≤c→c≤ops.size→(∀ k o,a≤k→k<c→ops.toList[k]? = some o→mL o.op=false)→∀ (μ2:Mu) (w2:World),HR μ2 (H a) w2→Ext μ h w μ2 (H a) w2→HR μ2 (H c) w2∧Ext μ h w μ2 (H c) w2:=by
    intro a c hac hc hnb μ2 w2 hr2 hx2;obtain ⟨b1,b2,b3⟩:=hle' a c hnb hc a c (Nat.le_refl _) hac (Nat.le_refl _);refine ⟨⟨fun A l hA=>⟨Nat.lt_of_lt_of_le (hr2.dom A l hA).1 b1,(hr2.dom A l hA).2⟩,
     fun A B la lb ba bb hA hB ga gb=>hr2.inj A B la lb ba bb hA hB (by rw [← b2 A (hr2.dom A la hA).1];exact ga) (by rw [← b2 B (hr2.dom B lb hB).1];exact gb),
     fun A l b hA hb=>hr2.blk A l b hA (by rw [← b2 A (hr2.dom A l hA).1];exact hb),fun x hx=>hr2.pin x (by rw [← b3];exact hx)⟩,?_⟩
    exact { mono:=hx2.mono,next:=Nat.le_trans hx2.next b1,fresh:=hx2.fresh,wr:=fun A hA ⟨b,h1,h2⟩=>hx2.wr A hA ⟨b,by rw [← b2 A (Nat.lt_of_lt_of_le hA hx2.next)];exact h1,h2⟩,frame:=hx2.frame,size:=hx2.size,os:=hx2.os,tape:=hx2.tape,output:=hx2.output }
   -- the end
   have done:∀ (listed:Array Bool) (μ':Mu) (a':Act) (w':World),(∀ i,i<ops.size→listed.getD i false=true)→
     HR μ' h' w'→Ext μ h w μ' h' w'→
     a'.tmps.size=nt→a'.defers=[]→
     (∀ t k o,t<nt→ops.toList[k]? = some o→o.dst=some t→listed.getD k false=true→(∀ (k':Nat) (o':Oper),ops.toList[k']? = some o'→listed.getD k' false=true→o'.dst=some t→k'≤k)→VR μ' (V k) (a'.tmps.getD t undef))→
     (∀ t v,(∀ (k:Nat) (o:Oper),ops.toList[k]? = some o→listed.getD k false=true→o.dst≠some t)→fr.get t=some v→VR μ' v (a'.tmps.getD t undef))→Q .normal a' w':=by
    intro listed μ' a' w' hall hr' hext hts htd hsl1 hsl2;refine hq μ' a' w' ⟨fun t v hv=>?_,hts,htd⟩ hr' hext;rw [← fn,hlen] at hv;rcases wrote ops.size (Nat.le_refl _) t v hv with ⟨k,o,h1,h2,h3,h4,rfl,h6⟩ | ⟨h1,h2⟩
    ·exact hsl1 t k o h4 h2 h3 (hall k h1) fun k' o' ho' _ hd'=>h6 k' o' (by have:=(List.getElem?_eq_some_iff.1 ho').1;omega) ho' hd'
    ·exact hsl2 t v (fun k o ho _=>h1 k o (by have:=(List.getElem?_eq_some_iff.1 ho).1;omega) ho) h2
   -- the walk over whatever order
   have main:∀ (fuel:Nat) (listed:Array Bool) (μ':Mu) (a':Act) (w':World) (us:List Nat) (m:Nat),us.length≤fuel→(∀ i,i<ops.size→listed.getD i false=false→i∈us)→listed.size=ops.size→
     (∀ (i:Nat) (o:Oper),ops.toList[i]? = some o→listed.getD i false=true→∀ e∈tD o.after.toList,listed.getD e false=true)→
     m≤ops.size→(∀ k o,k<m→ops.toList[k]? = some o→mL o.op=true→listed.getD k false=true)→
     (m=ops.size∨∃ o,ops.toList[m]? = some o∧mL o.op=true∧listed.getD m false=false)→(∀ i j,i≤j→j≤m→(H i).next≤(H j).next)→
     HR μ' (H m) w'→Ext μ h w μ' (H m) w'→(∀ (i:Nat) (o:Oper) (b:Blk),i<m→ops.toList[i]? = some o→mL o.op=false→H (i+1)=(H i).push b→listed.getD i false=false→μ' (H i).next=none∧(H m).t.get (H i).next=some b)→
     a'.tmps.size=nt→a'.defers=[]→
     (∀ t k o,t<nt→ops.toList[k]? = some o→o.dst=some t→listed.getD k false=true→(∀ (k':Nat) (o':Oper),ops.toList[k']? = some o'→listed.getD k' false=true→o'.dst=some t→k'≤k)→VR μ' (V k) (a'.tmps.getD t undef))→
     (∀ t v,(∀ (k:Nat) (o:Oper),ops.toList[k]? = some o→listed.getD k false=true→o.dst≠some t)→fr.get t=some v→VR μ' v (a'.tmps.getD t undef))→
     wpAny P .any ops Q fuel listed a' w':=by
    intro fuel
    induction fuel with
    | zero=>
     intro listed μ' a' w' us m hu hus hsz hcl hmn hbl hmb hmono hrm hext hfree hts htd hsl1 hsl2;have hall:∀ i,i<ops.size→listed.getD i false=true:=by
      intro i hi
      cases hl:listed.getD i false with
      | true=>rfl
      | false=>
       have:=hus i hi hl
       have:us=[]:=List.eq_nil_of_length_eq_zero (by omega)
       subst this;simp at *
     have hmeq:m=ops.size:=by
      rcases hmb with h1 | ⟨o,h1,h2,h3⟩
      ·exact h1
      ·have:=(List.getElem?_eq_some_iff.1 h1).1
       rw [hall m (by omega)] at h3;cases h3
     subst hmeq;rw [gn] at hrm hext;refine ⟨?_,?_⟩
     ·simp only [Region.ready,List.filter_eq_nil_iff,List.mem_range]
      intro i hi hc;have h1:=hall i hi
      have:listed.getD i true=true:=by
       have hlt:i<listed.size:=by omega
       simp [Array.getD,hlt] at h1 ⊢;exact h1
      simp [this] at hc
     ·exact done listed μ' a' w' hall hrm hext hts htd hsl1 hsl2
    | succ fuel ih=>
     intro listed μ' a' w' us m hu hus hsz hcl hmn hbl hmb hmono hrm hext hfree hts htd hsl1 hsl2;refine ⟨?_,?_⟩
     ·intro hready
      have hall:∀ i,i<ops.size→listed.getD i false=true:=by
       intro i
       induction i using Nat.strongRecOn with
       | _ i ihi=>
        intro hin
        cases hl:listed.getD i false with
        | true=>rfl
        | false=>
         exfalso
         have hlt:i<listed.size:=by omega
         have hnt:listed.getD i true=false:=by simp [Array.getD,hlt] at hl ⊢;exact hl
         have hmem:i∈Region.ready .any ops listed:=by
          simp only [Region.ready,List.mem_filter,List.mem_range,Bool.and_eq_true,Bool.not_eq_true'];refine ⟨hin,hnt,?_⟩;have ho:ops[i]? = some ops[i]:=by simp [hin]
          rw [ho];simp only [Option.map_some,Option.getD_some,Array.all_eq_true_iff_forall_mem];intro x hx
          cases hbx:Region.binds .any x with
          | false=>simp
          | true=>
           have he:x.on∈tD ops[i].after.toList:=eJ.2 ⟨x,by simpa using hx,hbx,rfl⟩;have hlt':=(ord i ops[i] (by simp [hin])).2 _ he;simpa using ihi x.on hlt' (by omega)
         rw [hready] at hmem;simp at hmem
      have hmeq:m=ops.size:=by
       rcases hmb with h1 | ⟨o,h1,h2,h3⟩
       ·exact h1
       ·have:=(List.getElem?_eq_some_iff.1 h1).1
        rw [hall m (by omega)] at h3;cases h3
      subst hmeq;rw [gn] at hrm hext;exact done listed μ' a' w' hall hrm hext hts htd hsl1 hsl2
     ·intro i hi
      simp only [Region.ready,List.mem_filter,List.mem_range,Bool.and_eq_true,Bool.not_eq_true'] at hi;obtain ⟨hin,hnl,hed⟩:=hi;have hlt:i<listed.size:=by omega
      have hnl':listed.getD i false=false:=by simp [Array.getD,hlt] at hnl ⊢;exact hnl
      have ho:ops[i]? = some ops[i]:=by simp [hin]
      have hoL:ops.toList[i]? = some ops[i]:=by simp [hin]
      have hedge:∀ e∈tD ops[i].after.toList,listed.getD e false=true:=by
       intro e he;obtain ⟨x,h1,h2,h3⟩:=eJ.1 he;rw [ho] at hed;simp only [Option.map_some,Option.getD_some,Array.all_eq_true_iff_forall_mem] at hed
       have:=hed x (by simpa using h1)
       simp [h2] at this;rw [← h3];simpa using this
      have hplist:=predsIn (fun k=>listed.getD k false=true) hcl i ops[i] hoL hedge
      -- what comes behind an operation that is not listed is not listed, or either may come first
      have behind:∀ (k:Nat) (o:Oper),i<k→ops.toList[k]? = some o→listed.getD k false=true→kA0 ops.toList ops[i] o=true:=by
       intro k o hik hok hlk;rcases (ord k o hok).1 i ops[i] hik hoL with h1 | h1
       ·have h9:listed.getD i false=true:=predsIn (fun k=>listed.getD k false=true) hcl k o hok (hcl k o hok hlk) i h1
        rw [hnl'] at h9;cases h9
       ·exact h1
      have ahead:∀ (k:Nat) (o:Oper),k<i→ops.toList[k]? = some o→listed.getD k false=true∨kA0 ops.toList o ops[i]=true:=by
       intro k o hki hok;rcases (ord i ops[i] hoL).1 k o hki hok with h1 | h1
       ·exact .inl (hplist k h1)
       ·exact .inr h1
      -- where what turns the heap stands
      have hwhere:bC ops[i].op=2→(i<m∧mL ops[i].op=false)∨(i=m∧mL ops[i].op=true):=by
       intro hk;rcases Nat.lt_trichotomy i m with h2 | h2 | h2
       ·cases hb:mL ops[i].op with
        | false=>exact .inl ⟨h2,rfl⟩
        | true=>
         have:=hbl i ops[i] h2 hoL hb
         rw [hnl'] at this;cases this
       ·rcases hmb with h3 | ⟨o,h3,h4,h5⟩
        ·omega
        ·subst h2;rw [hoL] at h3;cases h3;exact .inr ⟨rfl,h4⟩
       ·rcases hmb with h3 | ⟨o,h3,h4,h5⟩
        ·omega
        ·rcases ahead m o h2 h3 with h6 | h6
         ·rw [h5] at h6;cases h6
         ·exact absurd hk ((iJ h6).1 h4)
      -- the frame, as far as the operation looks
      have hget:∀ t,(Tr.restrict.restrictL (fun t=>iP t (oE ops.toList ops[i])) (F i)).get t=bif iP t (oE ops.toList ops[i]) then (F i).get t else none:=fun t=>Tr.get_restrict (F i) _ t;have har:AR μ' nt (Tr.restrict.restrictL (fun t=>iP t (oE ops.toList ops[i])) (F i)) a':=by
       refine ⟨fun t v hv=>?_,hts,htd⟩;rw [hget] at hv
       cases hmt:iP t (oE ops.toList ops[i]) with
       | false=>simp [hmt] at hv
       | true=>
        simp only [hmt,cond_true] at hv;have hmt':=kD.1 hmt;rcases wrote i (by omega) t v hv with ⟨k,o,h1,h2,h3,h4,rfl,h6⟩ | ⟨h1,h2⟩
        ·have hlk:listed.getD k false=true:=by
          rcases ahead k o h1 h2 with h7 | h7
          ·exact h7
          ·exact absurd hmt' ((iJ h7).2.1 t h3)
         refine hsl1 t k o h4 h2 h3 hlk fun k' o' ho' hl' hd'=>?_;rcases Nat.lt_trichotomy k' i with h7 | rfl | h7
         ·exact h6 k' o' h7 ho' hd'
         ·rw [hnl'] at hl';cases hl'
         ·exact absurd hmt' ((iJ (behind k' o' h7 ho' hl')).2.2.1 t hd')
        ·refine hsl2 t v (fun k o hok hlk hd'=>?_) h2
         rcases Nat.lt_trichotomy k i with h7 | rfl | h7
         ·exact h1 k o h7 hok hd'
         ·rw [hnl'] at hlk;cases hlk
         ·exact absurd hmt' ((iJ (behind k o h7 hok hlk)).2.2.1 t hd')
      have hcong:∀ Hx,dE E call ops.toList (Tr.restrict.restrictL (fun t=>iP t (oE ops.toList ops[i])) (F i)) ops[i] Hx=dE E call ops.toList (F i) ops[i] Hx:=by
       intro Hx;refine fA5 fun t ht=>?_;rw [hget,kD.2 ht];rfl
      have go:∀ (m2:Nat) (μ2:Mu) (u:Value) (w2:World),VR μ2 (V i) u→m2≤ops.size→(∀ k o,k<m2→ops.toList[k]? = some o→mL o.op=true→k≠i→listed.getD k false=true)→
        (m2=ops.size∨∃ o,ops.toList[m2]? = some o∧mL o.op=true∧m2≠i∧listed.getD m2 false=false)→(∀ i j,i≤j→j≤m2→(H i).next≤(H j).next)→HR μ2 (H m2) w2→μ'.le μ2→Ext μ h w μ2 (H m2) w2→
        (∀ (j:Nat) (o:Oper) (b:Blk),j<m2→ops.toList[j]? = some o→mL o.op=false→j≠i→H (j+1)=(H j).push b→listed.getD j false=false→μ2 (H j).next=none∧(H m2).t.get (H j).next=some b)→
        wpAny P .any ops Q fuel (listed.setIfInBounds i true) (a'.put ops[i].dst u) w2:=by
       intro m2 μ2 u w2 hv p2 p4 p5 p6 hr2 hmono2 hext2 hfree2;refine ih (listed.setIfInBounds i true) μ2 _ w2 (us.erase i) m2 ?_ ?_ (by simpa using hsz) ?_ p2 ?_ ?_ p6 hr2 hext2 ?_ (by simpa [Act.put] using (by cases ops[i].dst <;> simp [hts])) (by cases ops[i].dst <;> simp [Act.put,htd]) ?_ ?_
       ·have:=hus i hin hnl'
        rw [List.length_erase_of_mem this];omega
       ·intro k hk hl
        rw [yD hlt] at hl
        by_cases hki:k=i
        ·rw [if_pos hki] at hl;cases hl
        ·rw [if_neg hki] at hl
         exact (List.mem_erase_of_ne hki).2 (hus k hk hl)
       ·intro k o hok hl e he
        rw [yD hlt] at hl ⊢
        by_cases hei:e=i
        ·rw [if_pos hei]
        ·rw [if_neg hei]
         by_cases hki:k=i
         ·subst hki;rw [hoL] at hok;cases hok;exact hedge e he
         ·rw [if_neg hki] at hl;exact hcl k o hok hl e he
       ·intro k o hk hok hk2
        rw [yD hlt]
        by_cases hki:k=i
        ·rw [if_pos hki]
        ·rw [if_neg hki];exact p4 k o hk hok hk2 hki
       ·rcases p5 with p5 | ⟨o,g1,g2,g3,g4⟩
        ·exact .inl p5
        ·exact .inr ⟨o,g1,g2,by rw [yD hlt,if_neg g3];exact g4⟩
       ·intro j o b hj2 hjo hjb hb hl
        rw [yD hlt] at hl
        by_cases hji:j=i
        ·rw [if_pos hji] at hl;cases hl
        ·rw [if_neg hji] at hl
         exact hfree2 j o b hj2 hjo hjb hji hb hl
       ·intro t k o htn hok hd' hl hmax
        rw [yD hlt] at hl
        by_cases hdi:ops[i].dst=some t
        ·have hik:i≤k:=hmax i ops[i] hoL (by rw [yD hlt,if_pos rfl]) hdi
         have hki:k=i:=by
          by_cases hki:k=i
          ·exact hki
          ·rw [if_neg hki] at hl
           exact absurd hd' ((iJ (behind k o (by omega) hok hl)).2.2.2 t hdi)
         subst hki;rw [hdi,gAi (by omega)];exact hv
        ·have hki:k≠i:=by rintro rfl;rw [hoL] at hok;cases hok;exact hdi hd'
         rw [if_neg hki] at hl;rw [oT hdi];refine VR.mono hmono2 _ _ (hsl1 t k o htn hok hd' hl fun k' o' ho' hl' hd''=>hmax k' o' ho' ?_ hd'');rw [yD hlt];split
         ·rfl
         ·exact hl'
       ·intro t v hno hv'
        have hdi:ops[i].dst≠some t:=hno i ops[i] hoL (by rw [yD hlt,if_pos rfl]);rw [oT hdi];refine VR.mono hmono2 _ _ (hsl2 t v (fun k o hok hl=>hno k o hok ?_) hv');rw [yD hlt];split
        ·rfl
        ·exact hl
      have hstepi:dE E call ops.toList (Tr.restrict.restrictL (fun t=>iP t (oE ops.toList ops[i])) (F i)) ops[i] (H i)=some (V i,H (i+1)):=by rw [hcong];exact (hstep i ops[i] hoL).1
      have hmb':i≠m→(m=ops.size∨∃ o,ops.toList[m]? = some o∧mL o.op=true∧m≠i∧listed.getD m false=false):=fun hne=>hmb.imp (fun x=>x) (fun ⟨o,g1,g2,g3⟩=>⟨o,g1,g2,fun e=>hne e.symm,g3⟩);show wpOp P ops Q i _ a' w';unfold wpOp;rw [ho]
      cases hbg:mL ops[i].op with
      | true=>
       obtain ⟨hk2,_⟩:=gI hbg;have him:i=m:=by
        rcases hwhere hk2 with ⟨_,h3⟩ | ⟨h3,_⟩
        ·rw [hbg] at h3;cases h3
        ·exact h3
       subst him;refine lA7 ok hcall hrm har hstepi ?_;intro μ2 u w2 hv hr2 hext2;obtain ⟨c,q1,q2,q3,q4⟩:=next (i+1) (by omega);obtain ⟨hr3,hext3⟩:=lift (i+1) c q1 q2 q3 μ2 w2 hr2 (Ext.trans hr hext hext2);have hrun:=hle' (i+1) c q3 q2;refine go c μ2 u w2 hv q2 ?_ ?_ ?_ hr3 hext2.mono hext3 ?_
       ·intro k o hk hok hkb hki
        rcases Nat.lt_or_ge k i with h6 | h6
        ·exact hbl k o h6 hok hkb
        ·have:=q3 k o (by omega) hk hok
         rw [hkb] at this;cases this
       ·rcases q4 with q4 | ⟨o,g1,g2⟩
        ·exact .inl q4
        ·refine .inr ⟨o,g1,g2,by omega,?_⟩
         cases hlc:listed.getD c false with
         | false=>rfl
         | true=>exact absurd (gI g2).1 ((iJ (behind c o (by omega) g1 hlc)).1 hbg)
       ·intro j k hjk hkc
        rcases Nat.lt_or_ge i k with h6 | h6
        ·rcases Nat.lt_or_ge i j with h7 | h7
         ·exact (hrun j k (by omega) hjk hkc).1
         ·exact Nat.le_trans (hmono j i h7 (Nat.le_refl _)) (Nat.le_trans hext2.next (hrun (i+1) k (Nat.le_refl _) (by omega) hkc).1)
        ·exact hmono j k hjk h6
       ·intro j o b hj2 hjo hjb hji hb hl
        rcases Nat.lt_or_ge j i with h6 | h6
        ·obtain ⟨f1,f2⟩:=hfree j o b h6 hjo hjb hb hl
         have n0:(H j).next<(H i).next:=by
          have:=hmono (j+1) i (by omega) (Nat.le_refl _)
          rw [hb] at this;exact Nat.lt_of_lt_of_le (Nat.lt_succ_self _) this
         refine ⟨?_,?_⟩
         ·cases hm2:μ2 (H j).next with
          | none=>rfl
          | some l=>
           rcases hext2.fresh _ _ hm2 with h7 | ⟨h7,_⟩
           ·rw [f1] at h7;cases h7
           ·omega
         ·rw [(hrun (i+1) c (Nat.le_refl _) q1 (Nat.le_refl _)).2.1 _ (Nat.lt_of_lt_of_le n0 hext2.next),hsame j i o ops[i] b h6 (fun hq=>by rw [hplist j hq] at hl;cases hl) hjo hjb hoL hbg hb]
          exact f2
        ·have b1:=(hrun (i+1) j (Nat.le_refl _) (by omega) (by omega)).1
         refine ⟨?_,?_⟩
         ·cases hm2:μ2 (H j).next with
          | none=>rfl
          | some l=>
           have:=(hr2.dom _ _ hm2).1
           omega
         ·have b2:=hrun (j+1) c (by omega) (by omega) (Nat.le_refl _)
          rw [hb] at b2;rw [b2.2.1 _ (Nat.lt_succ_self _)];exact Tr.get_set_same
      | false=>
       have hpi:=hpush i ops[i] hoL hbg
       by_cases hal:∃ b,H (i+1)=(H i).push b
       ·obtain ⟨b,hb⟩:=hal
        have hk2:bC ops[i].op=2:=by
         rcases Nat.lt_or_ge (bC ops[i].op) 2 with h7 | h7
         ·exfalso
          have h8:=fI (by omega) (hstep i ops[i] hoL).1;have h9:=congrArg Heap.next (h8.symm.trans hb);exact absurd h9 (Nat.ne_of_lt (Nat.lt_succ_self _))
         ·have:=pP ops[i].op;omega
        have him:i<m:=by
         rcases hwhere hk2 with ⟨h3,_⟩ | ⟨_,h3⟩
         ·exact h3
         ·rw [hbg] at h3;cases h3
        obtain ⟨hfi,n2⟩:=hfree i ops[i] b him hoL hbg hb hnl';unfold dE at hstepi
        split at hstepi
        ·rename_i hw
         obtain ⟨b',sm,e1,e2,l,u,o',h1,h2,h3,h4⟩:=tAe ok har (oA7 hbg hk2) hstepi hfi w';have hbb:b'=b:=by
          have h5:=e1.symm.trans hb;have h6:=congrArg (fun x:Heap=>x.t.get (H i).next) h5;simp only [Heap.push] at h6;rw [Tr.get_set_same,Tr.get_set_same] at h6;exact Option.some.inj h6
         subst hbb;have n1:(H i).next<(H m).next:=by
          have:=hmono (i+1) m (by omega) (Nat.le_refl _)
          rw [hb] at this;exact Nat.lt_of_lt_of_le (Nat.lt_succ_self _) this
         have n3:h.next≤(H i).next:=by
          have:=hmono 0 i (Nat.zero_le _) (by omega)
          rwa [g0] at this
         show (if Region.wanted ops[i] (yielded ops a'.tmps)=true then (ops[i].wp P a' w' (wpAny P .any ops Q fuel (listed.setIfInBounds i true)) Q∨(ops[i].asks P a' w'∧LetsOut Q)) else wpAny P .any ops Q fuel (listed.setIfInBounds i true) (a'.put ops[i].dst undef) w');rw [rN har hw];simp only [if_true]
         left
         unfold Oper.wp;rw [e2,jA h1,Sem.run_pure];rw [Oper.upon_value];refine go m _ u _ h3 hmn (fun k o g1 g2 g3 _=>hbl k o g1 g2 g3) (hmb' (by omega)) hmono (hrm.at hfi n1 n2 o' l h2 h4) (Mu.le_add hfi) (hext.at hfi n3 o' l h2) fun j o c hj2 hjo hjb hji hc hl=>?_;have hne:(H j).next≠(H i).next:=by
          rcases Nat.lt_or_ge j i with h7 | h7
          ·have h8:=hmono (j+1) i (by omega) (by omega)
           rw [hc] at h8;exact Nat.ne_of_lt (Nat.lt_of_lt_of_le (Nat.lt_succ_self _) h8)
          ·have h8:=hmono (i+1) j (by omega) (by omega)
           rw [hb] at h8;exact (Nat.ne_of_lt (Nat.lt_of_lt_of_le (Nat.lt_succ_self _) h8)).symm
         obtain ⟨f1,f2⟩:=hfree j o c hj2 hjo hjb hc hl;refine ⟨?_,f2⟩;show (if (H j).next=(H i).next then some l else μ' (H j).next)=none;rw [if_neg hne];exact f1
        ·exfalso
         simp only [Option.some.injEq,Prod.mk.injEq] at hstepi;have h9:=congrArg Heap.next (hstepi.2.trans hb);exact absurd h9 (Nat.ne_of_lt (Nat.lt_succ_self _))
        ·cases hstepi
       ·have hsame:H (i+1)=H i:=by
         rcases hpi with h7 | h7
         ·exact h7
         ·exact absurd h7 hal
        have hstepm:dE E call ops.toList (F i) ops[i] (H m)=some (V i,H m):=by
         rcases pP ops[i].op with h0 | h1 | h2
         ·exact jAb h0 (hstep i ops[i] hoL).1 (H m)
         ·obtain ⟨u,h3,h4,he⟩:=hstab i ops[i] (F i) (H i) (V i) hoL (hrec i (by simpa using hin)) h1 m (H m) (by
           rcases hmb with h7 | ⟨o,h7,h8,_⟩
           ·right;exact ⟨by rw [hlen];exact h7,by rw [h7,gn]⟩
           ·left;exact ⟨o,F m,V m,h7,h8,hrec m (by have:=(List.getElem?_eq_some_iff.1 h7).1;simpa using this)⟩)
          have he':=wA0 _ _ he;subst he'
          have:=fI (by omega) h4
          subst this;exact h4
         ·have hs:=(hstep i ops[i] hoL).1
          unfold dE at hs ⊢
          split at hs
          ·obtain ⟨b,hb⟩:=gA1 call (oA7 hbg h2) hs
           exact absurd ⟨b,hb⟩ hal
          ·simp only [Option.some.injEq,Prod.mk.injEq] at hs
           rw [hs.1]
          ·cases hs
        have him:i≠m:=by
         rintro rfl;rcases hmb with h7 | ⟨o,h7,h8,_⟩
         ·omega
         ·rw [hoL] at h7;cases h7;rw [hbg] at h8;cases h8
        refine lA7 ok hcall hrm har (by rw [hcong];exact hstepm) ?_;intro μ2 u w2 hv hr2 hext2;refine go m μ2 u w2 hv hmn (fun k o g1 g2 g3 _=>hbl k o g1 g2 g3) (hmb' him) hmono hr2 hext2.mono (Ext.trans hr hext hext2) fun j o c hj2 hjo hjb hji hc hl=>?_;obtain ⟨f1,f2⟩:=hfree j o c hj2 hjo hjb hc hl;refine ⟨?_,f2⟩
        cases hm2:μ2 (H j).next with
        | none=>rfl
        | some l=>
         exfalso
         rcases hext2.fresh _ _ hm2 with h7 | ⟨h7,_⟩
         ·rw [f1] at h7;cases h7
         ·have h8:=hmono (j+1) m (by omega) (Nat.le_refl _)
          rw [hc] at h8;exact absurd (Nat.lt_of_lt_of_le (Nat.lt_succ_self (H j).next) h8) (by omega)
   obtain ⟨c,q1,q2,q3,q4⟩:=next 0 (Nat.zero_le _);have hx00:Ext μ h w μ (H 0) { w with drawn:=w.drawn+1 }:=by rw [g0];exact Ext.draws rfl rfl rfl rfl
   obtain ⟨hr0,hx0⟩:=lift 0 c q1 q2 q3 μ { w with drawn:=w.drawn+1 } (by rw [g0];exact hr.draws rfl) hx00;have hfalse:∀ k,(Array.replicate ops.size false).getD k false=false:=by
    intro k;simp [Array.getD]
   have hrun:=hle' 0 c q3 q2;refine main ops.size _ μ a _ (List.range ops.size) c (by simp) (by intro i hi _;simpa using hi) (by simp) ?_ q2 (fun k o hk hok hkb=>by
    have:=q3 k o (Nat.zero_le _) hk hok
    rw [hkb] at this;cases this) ?_ (fun i j hij hj=>(hrun i j (Nat.zero_le _) hij hj).1) hr0 hx0 ?_ ha.size ha.defers ?_ ?_
   ·intro i o _ hl;rw [hfalse] at hl;cases hl
   ·rcases q4 with q4 | ⟨o,g1,g2⟩
    ·exact .inl q4
    ·exact .inr ⟨o,g1,g2,hfalse c⟩
   ·intro i o b hi _ _ hb _
    refine ⟨?_,?_⟩
    ·cases hm2:μ (H i).next with
     | none=>rfl
     | some l=>
      exfalso
      have h7:=(hr.dom _ _ hm2).1
      have:=(hrun 0 i (Nat.le_refl _) (Nat.zero_le _) (by omega)).1
      rw [g0] at this;omega
    ·have b2:=hrun (i+1) c (Nat.zero_le _) (by omega) (Nat.le_refl _)
     rw [hb] at b2;rw [b2.2.1 _ (Nat.lt_succ_self _)];exact Tr.get_set_same
   ·intro t k o _ _ _ hl;rw [hfalse] at hl;cases hl
   ·intro t v _ hv;exact ha.slot t v hv
  }
 }
theorem nAb {ops:List Oper} {fr:Oper→Oper→Bool} {ag:Oper→List Nat→Nat→List Oper→Bool} (hn:∀ o ps j x l,ag o ps j (x::l)=((iP j ps||fr x o)&&ag o ps (j+1) l)) (hf:∀ x y,fr x y=true→kA0 ops x y=true) {o:Oper} {ps:List Nat}:∀ {l:List Oper} {j:Nat},ag o ps j l=true→fK ops o ps j l=true
 | [],_,_=>rfl
 | x::l,j,h=>by
  rw [hn] at h;simp only [fK,Bool.and_eq_true,Bool.or_eq_true] at h ⊢;exact ⟨h.1.imp id (hf x o),nAb hn hf h.2⟩
theorem kA1 {ops:List Oper} {preds:List (List Nat)}:∀ {l:List Oper} {i:Nat},uP ops preds i l=true→gK ops preds i l=true
 | [],_,_=>rfl
 | o::r,i,h=>by
  simp only [uP,gK,Bool.and_eq_true] at h ⊢;refine ⟨⟨nAb (fr:=qAe ops) (ag:=qT ops) (fun _ _ _ _ _=>rfl) (fun x y hx=>?_) h.1.1,h.1.2⟩,kA1 h.2⟩;simp only [qAe,kA0,Bool.and_eq_true,Bool.not_eq_true'] at hx ⊢;refine ⟨hx.1,?_⟩
  cases hb:mL x.op with
  | false=>rfl
  | true=>
   have h2:=hx.2;rw [hb,(gI hb).1] at h2
   cases hy:Nat.beq (bC y.op) 2 with
   | false=>rfl
   | true=>rw [hy] at h2;cases h2
theorem lA1 {ops:List Oper} {preds:List (List Nat)} (hall:∀ x∈ops,mL x.op=false):∀ {l:List Oper} {i:Nat},(∀ x∈l,x∈ops)→tP ops preds i l=true→gK ops preds i l=true
 | [],_,_,_=>rfl
 | o::r,i,hl,h=>by
  simp only [tP,gK,Bool.and_eq_true] at h ⊢;have go:∀ {l:List Oper} {j:Nat},(∀ x∈l,x∈ops)→lZ ops o ((preds[i]?).getD []) j l=true→fK ops o ((preds[i]?).getD []) j l=true:=by
   intro l
   induction l with
   | nil=>intro _ _ _;rfl
   | cons x l ih=>
    intro j hm h;simp only [lZ,fK,Bool.and_eq_true,Bool.or_eq_true] at h ⊢;refine ⟨h.1.imp id fun h1=>?_,ih (fun y hy=>hm y (List.mem_cons_of_mem _ hy)) h.2⟩;simp only [kA0,Bool.and_eq_true,Bool.not_eq_true'];exact ⟨h1,by rw [hall x (hm x List.mem_cons_self)];rfl⟩
  exact ⟨⟨go (fun x hx=>List.mem_of_mem_take hx) h.1.1.2,h.1.2⟩,lA1 hall (fun x hx=>hl x (List.mem_cons_of_mem _ hx)) h.2⟩
theorem vX {ops:List Oper} {preds:List (List Nat)}:∀ {l:List Oper} {i:Nat},tP ops preds i l=true→∀ x∈l,mL x.op=false
 | [],_,_,x,hx=>by cases hx
 | o::r,i,h,x,hx=>by
  simp only [tP,Bool.and_eq_true] at h;rcases List.mem_cons.1 hx with rfl | hx
  ·have h1:=h.1.1.1
   cases hb:mL x.op with
   | false=>rfl
   | true=>
    obtain ⟨h2,h3⟩:=gI hb;rw [h2] at h1;have h4:mN x.op=true:=by simpa using h1
    have h5:wQ x.op=true:=by
     cases hx:x.op <;> simp [hx,mN] at h4 <;> simp [wQ,mN]
    rw [h5] at h3;cases h3
  ·exact vX h.2 x hx
theorem cAw (ok:EnvOK E P) (hm:P.follows .mixedOrders=true) (hcall:nT P call) {nt id:Nat} {ops:Array Oper} {h:Heap} {fr':Fr} {h':Heap} {recs:List (Fr×Heap×AV)} (ht:pE E call nt ops.toList ops.toList fr h=some (recs,fr',h')) (hord:lAi ops.toList=true) (hstab:kAp E call ops.toList recs h')
  {μ:Mu} {w:World} {a:Act} {Q:Exit→Act→World→Prop} (hr:HR μ h w) (ha:AR μ nt fr a) (hq:∀ μ' a' w',AR μ' nt fr' a'→HR μ' h' w'→Ext μ h w μ' h' w'→Q .normal a' w'):(Code.region id ops true).wp P Q a w:=by
 refine wp_region_any hm (pA7 ok hcall ht (kA1 hord) hstab ?_ hr ha hq);intro x m ox om b hxm hxp hx1 hx2 hm1 hm2 hb
 exfalso
 have h1:=(iA1 hord m om hm1).1 x ox (by rw [List.getElem?_take_of_lt (by omega)];exact hx1);rw [Nat.zero_add] at h1;rcases h1 with h1 | h1
 ·exact hxp h1
 ·have hk:bC ox.op=2:=by
   obtain ⟨F,H,V,f0,g0,fn,gn,hstep,hrec⟩:=gJ ht;rcases Nat.lt_or_ge (bC ox.op) 2 with h7 | h7
   ·exfalso
    have hm':=(List.getElem?_eq_some_iff.1 hm1).1;have hat:∀ k,k<ops.toList.length→kX ops.toList.length recs h' k=H k:=by
     intro k hk;unfold kX;rw [show Nat.blt k ops.toList.length=true by simpa [Nat.blt_eq] using hk,cond_true,hrec k hk]
    have h8:=fI (by omega) (hstep x ox hx1).1;rw [hat x (by omega),hat (x+1) (by omega),h8] at hb;exact absurd (congrArg Heap.next hb) (Nat.ne_of_lt (Nat.lt_succ_self _))
   ·have:=pP ox.op;omega
  have:=(nAl h1).1 hk (gI hm2).1
  rw [hm2] at this;cases this.2
theorem dAw (ok:EnvOK E P) (hm:P.follows .mixedOrders=true) (hcall:nT P call) {nt id:Nat} {ops:Array Oper} {h:Heap} {fr':Fr} {h':Heap} {recs:List (Fr×Heap×AV)} (ht:pE E call nt ops.toList ops.toList fr h=some (recs,fr',h')) (hord:kAi ops.toList=true) (hstab:bB1 E call ops.toList recs h')
  {μ:Mu} {w:World} {a:Act} {Q:Exit→Act→World→Prop} (hr:HR μ h w) (ha:AR μ nt fr a) (hq:∀ μ' a' w',AR μ' nt fr' a'→HR μ' h' w'→Ext μ h w μ' h' w'→Q .normal a' w'):(Code.region id ops true).wp P Q a w:=by
 have hs:=vX hord;refine wp_region_any hm (pA7 ok hcall ht (lA1 hs (fun _ h=>h) hord) ?_ ?_ hr ha hq)
 ·intro i o f hh v hi hrec hk k Hk hst
  rcases hst with ⟨o',f',v',h1,h2,_⟩ | ⟨_,rfl⟩
  ·rw [hs o' (List.mem_of_getElem? h1)] at h2;cases h2
  ·exact hstab i o f hh v hi hrec hk
 ·intro x m ox om b hxm hxp hx1 hx2 hm1 hm2 hb
  rw [hs om (List.mem_of_getElem? hm1)] at hm2;cases hm2
end
end Ai
namespace Ai
section
variable {P:Program} {ops:Array Oper} {π:List Nat} {Q:Exit→Act→World→Prop}
theorem uN {ops:Array Oper} {listed:Array Bool} (hs:listed.size=ops.size) {i:Nat}:i∈Region.ready .any ops listed↔∃ o,ops[i]? = some o∧listed.getD i false=false∧∀ x∈o.after.toList,Region.binds .any x=true→listed.getD x.on false=true:=by
 simp only [Region.ready,List.mem_filter,List.mem_range,Bool.and_eq_true,Bool.not_eq_true'];constructor
 ·rintro ⟨hin,hnl,hed⟩
  have hlt:i<listed.size:=by omega
  have ho:ops[i]? = some ops[i]:=by simp [hin]
  refine ⟨ops[i],ho,by simp [Array.getD,hlt] at hnl ⊢;exact hnl,fun x hx hb=>?_⟩;rw [ho] at hed;simp only [Option.map_some,Option.getD_some,Array.all_eq_true_iff_forall_mem] at hed
  have:=hed x (by simpa using hx)
  simpa [hb] using this
 ·rintro ⟨o,ho,hnl,hed⟩
  have hin:i<ops.size:=(Array.getElem?_eq_some_iff.1 ho).1;have hlt:i<listed.size:=by omega
  refine ⟨hin,by simp [Array.getD,hlt] at hnl ⊢;exact hnl,?_⟩;rw [ho];simp only [Option.map_some,Option.getD_some,Array.all_eq_true_iff_forall_mem];intro x hx
  cases hb:Region.binds .any x with
  | false=>simp
  | true=>simpa using hed x (by simpa using hx) hb
structure PermOK (π:List Nat) (ops:Array Oper):Prop where
 len:π.length=ops.size
 lt:∀ i,i<ops.size→gA4 π i<ops.size
 at':∀ i,i<ops.size→π[gA4 π i]? = some i
 inv:∀ k,k<ops.size→∃ i,π[k]? = some i∧i<ops.size∧gA4 π i=k
 edge:∀ (i:Nat) (o:Oper),ops[i]? = some o→(∀ x∈o.after.toList,x.on<ops.size)∧∀ g,o.guard=some g→g.1<ops.size
theorem eAw (h:tAo π ops.toList=true):PermOK π ops:=by
 simp only [tAo,Bool.and_eq_true,List.all_eq_true,List.mem_range,Array.length_toList] at h;obtain ⟨⟨h1,h2⟩,h3⟩:=h;have hl:π.length=ops.size:=by simpa using Nat.eq_of_beq_eq_true h1
 refine ⟨hl,fun i hi=>by simpa [Nat.blt_eq] using (h2 i hi).1.1.1,fun i hi=>?_,fun k hk=>?_,fun i o ho=>?_⟩
 ·have h4:gA4 π i<π.length:=by have:=(h2 i hi).1.1.1;rw [Nat.blt_eq] at this;omega
  have h5:=Nat.eq_of_beq_eq_true (h2 i hi).1.1.2;rw [List.getElem?_eq_getElem h4] at h5 ⊢;simp only [Option.getD_some] at h5;rw [h5]
 ·have h4:k<π.length:=by omega
  have h5:=Nat.eq_of_beq_eq_true (h2 k hk).1.2;have h6:=(h2 k hk).2;rw [List.getElem?_eq_getElem h4] at h5 h6;simp only [Option.getD_some] at h5 h6;rw [Nat.blt_eq] at h6;exact ⟨π[k],List.getElem?_eq_getElem h4,h6,h5⟩
 ·have hm:o∈ops.toList:=by
   have:=(Array.getElem?_eq_some_iff.1 ho)
   obtain ⟨hlt,rfl⟩:=this;exact Array.mem_toList_iff.2 (Array.getElem_mem hlt)
  obtain ⟨h4,h5⟩:=h3 o hm;refine ⟨fun x hx=>by have:=h4 x hx;rwa [Nat.blt_eq] at this,fun g hg=>?_⟩;rw [hg] at h5;simpa [rAo,Nat.blt_eq] using h5
theorem mZ (hp:PermOK π ops) {i:Nat} {o:Oper} (ho:ops[i]? = some o):((yH π ops.toList).toArray)[gA4 π i]? = some (cB7 π o):=by
 have hi:i<ops.size:=(Array.getElem?_eq_some_iff.1 ho).1;have hl:ops.toList[i]? = some o:=by rw [Array.getElem?_toList];exact ho
 simp only [List.getElem?_toArray,yH,List.getElem?_map,hp.at' i hi,Option.map_some,hl,Option.getD_some]
theorem uT (hp:PermOK π ops):((yH π ops.toList).toArray).size=ops.size:=by simp [yH,hp.len]
theorem fAw (hp:PermOK π ops):∀ (fuel:Nat) (listed listed':Array Bool) (a:Act) (w:World),listed.size=ops.size→listed'.size=ops.size→(∀ i,i<ops.size→listed'.getD (gA4 π i) false=listed.getD i false)→
  wpAny P .any (yH π ops.toList).toArray Q fuel listed' a w→wpAny P .any ops Q fuel listed a w:=by
 have fwd:∀ {listed listed':Array Bool},listed.size=ops.size→listed'.size=ops.size→(∀ i,i<ops.size→listed'.getD (gA4 π i) false=listed.getD i false)→∀ i,i∈Region.ready .any ops listed→gA4 π i∈Region.ready .any (yH π ops.toList).toArray listed':=by
  intro listed listed' hs hs' hl i hi;obtain ⟨o,ho,hn,he⟩:=(uN hs).1 hi;have hin:i<ops.size:=(Array.getElem?_eq_some_iff.1 ho).1;refine (uN (by rw [uT hp];exact hs')).2 ⟨cB7 π o,mZ hp ho,by rw [hl i hin];exact hn,fun x hx hb=>?_⟩;have hx':x∈(o.after.map (nB7 π)).toList:=hx;rw [Array.toList_map] at hx';obtain ⟨y,hy,rfl⟩:=List.mem_map.1 hx'
  have:=he y hy hb
  rw [← hl y.on ((hp.edge i o ho).1 y hy)] at this;exact this
 have bwd:∀ {listed listed':Array Bool},listed.size=ops.size→listed'.size=ops.size→(∀ i,i<ops.size→listed'.getD (gA4 π i) false=listed.getD i false)→Region.ready .any ops listed=[]→Region.ready .any (yH π ops.toList).toArray listed'=[]:=by
  intro listed listed' hs hs' hl hr;rw [List.eq_nil_iff_forall_not_mem];intro k hk;obtain ⟨o',ho',hn,he⟩:=(uN (by rw [uT hp];exact hs')).1 hk;have hkn:k<ops.size:=by have:=(Array.getElem?_eq_some_iff.1 ho').1;rwa [uT hp] at this
  obtain ⟨i,_,hin,hpos⟩:=hp.inv k hkn;have ho:ops[i]? = some ops[i]:=by simp [hin]
  have hg:=mZ hp ho;rw [hpos,ho'] at hg;simp only [Option.some.injEq] at hg;subst hg
  have:i∈Region.ready .any ops listed:=by
   refine (uN hs).2 ⟨ops[i],ho,by rw [← hl i hin,hpos];exact hn,fun x hx hb=>?_⟩
   have:=he (nB7 π x) (by
    show nB7 π x∈(ops[i].after.map (nB7 π)).toList;rw [Array.toList_map];exact List.mem_map_of_mem hx) hb
   rw [← hl x.on ((hp.edge i _ ho).1 x hx)];exact this
  rw [hr] at this;cases this
 have op:∀ {i:Nat} {K K':Act→World→Prop} {a:Act} {w:World},i<ops.size→(∀ a w,K' a w→K a w)→wpOp P (yH π ops.toList).toArray Q (gA4 π i) K' a w→wpOp P ops Q i K a w:=by
  intro i K K' a w hin hK hw;have ho:ops[i]? = some ops[i]:=by simp [hin]
  have hg:=mZ hp ho;have hw1:=wpOp_mono hK hw;unfold wpOp at hw1 ⊢;rw [hg] at hw1;rw [ho];have hwant:Region.wanted (cB7 π ops[i]) (yielded (yH π ops.toList).toArray a.tmps)=Region.wanted ops[i] (yielded ops a.tmps):=by
   unfold Region.wanted
   cases hgd:ops[i].guard with
   | none=>
    have:(cB7 π ops[i]).guard=none:=by show rBf π ops[i].guard=none;rw [hgd];rfl
    rw [this]
   | some g=>
    obtain ⟨j,b⟩:=g
    have:(cB7 π ops[i]).guard=some (gA4 π j,b):=by show rBf π ops[i].guard=_;rw [hgd];rfl
    rw [this];have hj:j<ops.size:=(hp.edge i _ ho).2 _ hgd;have hoj:ops[j]? = some ops[j]:=by simp [hj]
    have hgj:=mZ hp hoj;have hy:yielded (yH π ops.toList).toArray a.tmps (gA4 π j)=yielded ops a.tmps j:=by
     unfold yielded;rw [hgj,hoj];rfl
    simp only [hy]
  simp only [hwant] at hw1;exact hw1
 intro fuel
 induction fuel with
 | zero=>
  intro listed listed' a w hs hs' hl hw;obtain ⟨h1,h2⟩:=hw;refine ⟨?_,h2⟩;rw [List.eq_nil_iff_forall_not_mem];intro i hi
  have:=fwd hs hs' hl i hi
  rw [h1] at this;cases this
 | succ fuel ih=>
  intro listed listed' a w hs hs' hl hw;obtain ⟨h1,h2⟩:=hw;refine ⟨fun hr=>h1 (bwd hs hs' hl hr),fun i hi=>?_⟩;have hin:i<ops.size:=by
   obtain ⟨o,ho,_⟩:=(uN hs).1 hi;exact (Array.getElem?_eq_some_iff.1 ho).1
  refine op hin (fun a w hK=>?_) (h2 (gA4 π i) (fwd hs hs' hl i hi));refine ih _ _ a w (by simpa using hs) (by simpa using hs') ?_ hK;intro k hk;have hpi:=hp.lt i hin;rw [yD (by omega),yD (by omega)]
  by_cases e:k=i
  ·subst e;simp
  ·have:gA4 π k≠gA4 π i:=fun h=>by
    have h3:=hp.at' k hk;rw [h,hp.at' i hin] at h3;exact e (Option.some.inj h3).symm
   rw [if_neg this,if_neg e];exact hl k hk
theorem cB1 {id:Nat} {a:Act} {w:World} (hm:P.follows .mixedOrders=true) (hp:tAo π ops.toList=true)
  (h:wpAny P .any (yH π ops.toList).toArray Q (yH π ops.toList).toArray.size (Array.replicate (yH π ops.toList).toArray.size false) a { w with drawn:=w.drawn+1 }):(Code.region id ops true).wp P Q a w:=by
 have hp':=eAw hp;refine wp_region_any hm ?_;rw [uT hp'] at h;refine fAw hp' ops.size _ _ a _ (by simp) (by simp) (fun i hi=>?_) h;simp [Array.getD]
end
end Ai
namespace Ai
section
variable {E:Env} {P:Program} {call:CallF} {fr:Fr}
theorem dB1 {a b:BState} (h:oB7 a b=true):a=b:=by
 cases a <;> cases b <;> first | rfl | (simp [oB7] at h;done) | (simp only [oB7] at h;rw [Nat.eq_of_beq_eq_true h])
theorem gAw:∀ {a b:Option Blk},nN a b=true→a=b
 | some (.row cs st),some (.row cs' st'),h=>by
  simp only [nN,Bool.and_eq_true] at h;have h1:=wA0 _ _ h.1;have h2:=dB1 h.2;simp only [AV.agg.injEq] at h1;rw [h1,h2]
 | none,none,_=>rfl
 | none,some _,h=>by simp [nN] at h
 | some (.row _ _),none,h=>by simp [nN] at h
 | some (.map _ _),_,h=>by simp [nN] at h
 | some (.siter _ _),_,h=>by simp [nN] at h
 | some (.row _ _),some (.map _ _),h=>by simp [nN] at h
 | some (.row _ _),some (.siter _ _),h=>by simp [nN] at h
end
end Ai
namespace Ai
section
variable {E:Env} {P:Program}
def vT:Out→Exit
 | .norm=>.normal
 | .exit id=>.exit id
 | .ret=>.ret
theorem pA5:∀ (args:List AV) (i:Nat) (fr:Fr) (t:Nat) (v:AV),(mAa i args fr).get t=some v→(i≤t∧args[t-i]? = some v)∨fr.get t=some v
 | [],i,fr,t,v,h=>.inr h
 | x::r,i,fr,t,v,h=>by
  simp only [mAa] at h;rcases pA5 r (i+1) _ t v h with ⟨h1,h2⟩ | h1
  ·refine .inl ⟨by omega,?_⟩
   rw [show t-i=(t-(i+1))+1 from by omega];simpa using h2
  ·rcases Tr.get_set h1 with ⟨rfl,rfl⟩ | ⟨_,h2⟩
   ·exact .inl ⟨Nat.le_refl _,by simp⟩
   ·exact .inr h2
theorem yL (ok:EnvOK E P) {μ:Mu} {h:Heap} {w:World} {nt:Nat} {fr:Fr} {a:Act} (hr:HR μ h w) (ha:AR μ nt fr a) {g:ResultVar→Sem Value} (hg1:∀ t,g (.tmp t)=pure (a.tmps.getD t undef))
  (hg2:∀ x t,g (.cell x t)=(do loadVar t (← asAddr (a.tmps.getD x undef)))):∀ {l:List ResultVar} {vs:List AV},kG E fr h l=some vs→∃ us:List Value,(l.mapM g).run P w=.ok us w∧VRs μ vs us
 | [],vs,hx=>by simp [kG] at hx;subst hx;exact ⟨[],rfl,VRs.nil⟩
 | .tmp t::r,vs,hx=>by
  simp only [kG] at hx
  cases hg:fr.get t with
  | none=>simp [hg] at hx
  | some v=>
   cases hl:kG E fr h r with
   | none=>simp [hg,hl] at hx
   | some l=>
    simp only [hg,hl,Option.some.injEq] at hx;subst hx;obtain ⟨us,h1,h2⟩:=yL ok hr ha hg1 hg2 hl;refine ⟨a.tmps.getD t undef::us,?_,VRs.cons (ha.slot t v hg) h2⟩;rw [List.mapM_cons];rw [hg1];refine (jA (P:=P) (a:=a.tmps.getD t undef) (w':=w) rfl).trans ?_;exact (jA (P:=P) h1).trans rfl
 | .cell x t::r,vs,hx=>by
  simp only [kG] at hx
  cases hg:fr.get x with
  | none=>simp [hg] at hx
  | some v=>
   simp only [hg] at hx
   cases hld:mQ E h t v with
   | none=>simp [hld] at hx
   | some y=>
    cases hl:kG E fr h r with
    | none=>simp [hld,hl] at hx
    | some l=>
     simp only [hld,hl,Option.some.injEq] at hx;subst hx;obtain ⟨us,h1,h2⟩:=yL ok hr ha hg1 hg2 hl;obtain ⟨ad,u,h3,h4,h5⟩:=rL (P:=P) ok hr (ha.slot x v hg) hld;refine ⟨u::us,?_,VRs.cons h5 h2⟩;rw [List.mapM_cons,hg2];refine (jA (P:=P) (a:=u) (w':=w) ?_).trans ?_
     ·rw [h3]
      exact (jA (P:=P) (a:=ad) (w':=w) rfl).trans h4
     ·exact (jA (P:=P) h1).trans rfl
end
end Ai
namespace Ai
open Go.RowKit (Below)
theorem mAi {α:Type}:∀ (l:List α) (p:Tr α×Nat) (t:Nat) (x:α),((l.foldl (fun (p:Tr α×Nat) x=>(p.1.set p.2 x,p.2+1)) p).1).get t=some x→(p.2≤t∧l[t-p.2]? = some x)∨p.1.get t=some x
 | [],p,t,x,h=>.inr h
 | y::r,p,t,x,h=>by
  simp only [List.foldl_cons] at h;rcases mAi r _ t x h with ⟨h1,h2⟩ | h1
  ·refine .inl ⟨by simp at h1;omega,?_⟩
   simp at h1 h2;rw [show t-p.2=(t-(p.2+1))+1 from by omega];simpa using h2
  ·rcases Tr.get_set h1 with ⟨rfl,rfl⟩ | ⟨_,h2⟩
   ·exact .inl ⟨Nat.le_refl _,by simp⟩
   ·exact .inr h2
theorem oAb {α:Type} {l:List α} {t:Nat} {x:α} (h:(uB0 l).get t=some x):l[t]? = some x:=by
 rcases mAi l (Tr.nil,0) t x h with ⟨_,h1⟩ | h1
 ·simpa using h1
 ·simp [Tr.get_nil] at h1
def eB1 (P:Program) (cmp:List TypeId) (native:FuncId→Option (List AV→Heap→Option (AV×Heap))):Env:=
 { info:=(uB0 P.types.toList).get,fn:=(uB0 P.funcs.toList).get,native,cmp:=fun t=>iP t cmp,trk:=fun t=>iP (1000000+t) cmp,lies:=fun e off u=>liesAt P P.depth e 1 off u 1 }
theorem nAi {P:Program} {cmp:List TypeId} {native:FuncId→Option (List AV→Heap→Option (AV×Heap))} (hn:(P.funcs.toList.all fun f=>!(f.name == "runtime.NumGoroutine"))=true)
  (hc:(cmp.all fun t=>!P.stoodInHeld t&&!P.eqGuardType P.depth t)=true):EnvOK (eB1 P cmp native) P where
 info:=by
  intro t i h;have h1:=oAb h;have h2:P.types[t]? = some i:=by simpa using h1
  have hlt:t<P.types.size:=(Array.getElem?_eq_some_iff.1 h2).1;unfold Tables.info?;rw [if_pos hlt];exact h2
 fn:=by
  intro f fn h;have h1:=oAb h;refine ⟨by simpa using h1,?_⟩
  have:=List.all_eq_true.1 hn fn (List.mem_of_getElem? h1)
  simpa using this
 cmp:=by
  intro t h
  have:=List.all_eq_true.1 hc t (kD.1 h)
  simpa using this
 lies:=fun _ _ _ h=>h
def oAi:FuncId→Option (List AV→Heap→Option (AV×Heap)):=fun _=>none
def pAb:Heap:={ t:=.nil,next:=0 }
theorem lAp (w:World):HR (fun _=>none) pAb w:=⟨fun _ _ h=>(by cases h),fun _ _ _ _ _ _ h=>(by cases h),fun _ _ _ h=>(by cases h),fun _ h=>(by cases h)⟩
end Ai
namespace Ai
open Go.WideShapes Go.ChangeShapes
open Go.RowKit (Below)
variable {H:Type} {enc:TypeId×Value→H} {P:Program}
theorem qA7 {f:Func} {s:ChangeSpec} {apart fresh handsOn again:Bool} {W W':World} {args:Array Value} {v:Value} {ds gs:List (DataW H)} {before pa pv:List MemPlace}
  (hW:DataW.Whole enc P f.params.toList s.vars apart W args.toList ds gs before)
  (hres:∀ (b:Nat) (sp:Nat→Bool) (hd:Bool),DataW.TrodAll enc P W' b sp hd f.resultTypes.toList (v.resultList f.resultTypes.size) (s.fn H (ds++gs)).results [])
  (hargs:∀ sp:Nat→Bool,(∀ p∈before,sp p.block=true)→DataW.TrodAll enc P W' 0 sp true f.params.toList args.toList (s.fn H (ds++gs)).args pa)
  (hvars:∀ sp:Nat→Bool,(∀ p∈before,sp p.block=true)→DataW.TrodVars enc P W' sp s.vars (s.fn H (ds++gs)).vars pv)
  (hps:before=pa++pv) (hb:Below W.heap.size W W')
  (hok:∀ (j:Nat) (t:TypeId) (r:Value),f.resultTypes[j]? = some t→(v.resultList f.resultTypes.size)[j]? = some r→Value.okWide P W' .any 0 t r) :
  s.post enc P f apart fresh handsOn again W args v W':=by
 have hold:∀ p∈before,(fun b=>decide (b<W.heap.size)) p.block=true:=fun p hp=>by simpa using hW.lt p hp
 have hk:W.keptBut W' (·∈before):=hb.frame _;have hlt:=hW.lt;refine ⟨ds,gs,before,[],pa,pv,hW,hres _ _ _,hargs _ hold,hvars _ hold,World.keptBut_mono (fun p hp=>⟨hp,?_⟩) hk,fun _=>?_⟩
 ·rw [hps,List.mem_append] at hp
  exact Or.inr hp
 ·obtain ⟨_,_,_,_,_,hz,hn⟩:=hW
  refine ⟨hok,_,_,([]++pa)++pv,⟨[]++pa,pv,trodAll_append (hargs _ (fun _ _=>rfl)) (hres _ _ _),hvars _ (fun _ _=>rfl),rfl,?_,?_⟩,?_⟩
  ·intro b off hp
   have hp':MemPlace.cell b off∈before:=by rw [hps];simpa using hp
   rw [hb.frozen (hlt _ hp')];exact hz b off hp'
  ·intro ha
   have:=hn ha
   rw [hps] at this;simpa using this
  ·intro p hp _
   rw [hps];simpa using hp
end Ai
namespace Ai
def fB1 (o:Oper):Bool:=wQ o.op&&o.guard.isNone&&Nat.beq o.after.toList.length 0
def newAt (ops:List Oper) (k:Nat):Bool:=match ops[k]? with
 | some o=>fB1 o
 | none=>false
def wX (ops:List Oper):List Nat:=(List.range ops.length).filter (newAt ops)++(List.range ops.length).filter (fun k=>!newAt ops k)
def pAi (ops:List Oper):Bool:=tAo (wX ops) ops&&qAo (yH (wX ops) ops)
def gB1 (ops:List Oper) (ps:List (List Nat)) (L:List (Nat×Heap×Heap)):Bool:=
 L.all fun m=>bif lAa ops m.1 then L.all (fun x=>bif lAa ops x.1||!Nat.blt x.1 m.1||iP x.1 ((ps[m.1]?).getD []) then true else nN (m.2.2.t.get x.2.1.next) (m.2.1.t.get x.2.1.next)) else true
def yBf (i:Nat) (o:Oper) (h h':Heap) (L:List (Nat×Heap×Heap)):List (Nat×Heap×Heap):=bif Nat.beq (bC o.op) 2 then (i,h,h')::L else L
end Ai
namespace Ai
inductive CTy where
 | bool | int (k:IntKind) | str | ptr | slice | any
inductive VTy where
 | one (c:CTy) | agg (l:List CTy) | clo (g:FuncId) (l:List CTy)
inductive Ty where
 | val (v:VTy) | tup (l:List VTy)
structure SL where
 a:Option (Nat×Nat)
 len:Nat
 cap:Nat
 sz:Nat
@[reducible] def CTy.den:CTy→Type
 | .bool=>Bool
 | .int _=>Int
 | .str=>List UInt8
 | .ptr=>Option (Nat×Nat)
 | .slice=>SL
 | .any=>AV
@[reducible] def gN:List CTy→Type
 | []=>Unit
 | c::r=>c.den×gN r
@[reducible] def VTy.den:VTy→Type
 | .one c=>c.den
 | .agg l=>gN l
 | .clo _ l=>gN l
@[reducible] def lH:List VTy→Type
 | []=>Unit
 | c::r=>c.den×lH r
@[reducible] def Ty.den:Ty→Type
 | .val v=>v.den
 | .tup l=>lH l
def CTy.to:(c:CTy)→c.den→AV
 | .bool,b=>.bool b
 | .int k,n=>.int k n
 | .str,s=>.str s
 | .ptr,p=>.ptr p
 | .slice,s=>.slice s.a s.len s.cap s.sz
 | .any,v=>v
def CTy.tos:(l:List CTy)→gN l→List AV
 | [],_=>[]
 | c::r,x=>c.to x.1::CTy.tos r x.2
def VTy.to:(v:VTy)→v.den→AV
 | .one c,x=>c.to x
 | .agg l,x=>.agg (CTy.tos l x)
 | .clo g l,x=>.func (.func g) [] (CTy.tos l x)
def VTy.tos:(l:List VTy)→lH l→List AV
 | [],_=>[]
 | c::r,x=>c.to x.1::VTy.tos r x.2
def Ty.to:(t:Ty)→t.den→AV
 | .val v,x=>v.to x
 | .tup l,x=>.tuple (VTy.tos l x)
def CTy.cast {β:Type}:(c:CTy)→AV→(c.den→Option β)→Option β
 | .bool,v,K=>match v with
  | .bool b=>K b
  | _=>none
 | .int k,v,K=>match v with
  | .int k' n=>bif pI k' k then K n else none
  | _=>none
 | .str,v,K=>match v with
  | .str s=>K s
  | _=>none
 | .ptr,v,K=>match v with
  | .ptr p=>K p
  | _=>none
 | .slice,v,K=>match v with
  | .slice a l c s=>K ⟨a,l,c,s⟩
  | _=>none
 | .any,v,K=>K v
def CTy.casts {β:Type}:(l:List CTy)→List AV→(gN l→Option β)→Option β
 | [],vs,K=>match vs with
  | []=>K ()
  | _=>none
 | c::r,vs,K=>match vs with
  | v::vs=>c.cast v fun x=>CTy.casts r vs fun xs=>K (x,xs)
  | _=>none
def VTy.cast {β:Type}:(c:VTy)→AV→(c.den→Option β)→Option β
 | .one c,v,K=>c.cast v K
 | .agg l,v,K=>match v with
  | .agg cs=>CTy.casts l cs K
  | _=>none
 | .clo g l,v,K=>match v with
  | .func (.func g') [] cs=>bif Nat.beq g' g then CTy.casts l cs K else none
  | _=>none
def VTy.casts {β:Type}:(l:List VTy)→List AV→(lH l→Option β)→Option β
 | [],vs,K=>match vs with
  | []=>K ()
  | _=>none
 | c::r,vs,K=>match vs with
  | v::vs=>c.cast v fun x=>VTy.casts r vs fun xs=>K (x,xs)
  | _=>none
def Ty.cast {β:Type}:(c:Ty)→AV→(c.den→Option β)→Option β
 | .val c,v,K=>c.cast v K
 | .tup l,v,K=>match v with
  | .tuple vs=>VTy.casts l vs K
  | _=>none
def qBi:TypeDesc→CTy
 | .bool=>.bool
 | .int k=>.int k
 | .string=>.str
 | .pointer _=>.ptr
 | .slice _=>.slice
 | _=>.any
def rBi:Nat→List CTy→List CTy
 | 0,_=>[]
 | n+1,l=>l++rBi n l
def rA7 (E:Env):Nat→TypeId→List CTy
 | 0,_=>[]
 | d+1,t=>match E.und t with
  | some (.struct fs)=>(fs.toList.map fun f=>rA7 E d f.type).flatten
  | some (.array n e)=>rBi n (rA7 E d e)
  | some x=>[qBi x]
  | none=>[]
def mAp (E:Env) (t:TypeId):VTy:=
 match E.und t with
 | some (.struct _)=>.agg (rA7 E 12 t)
 | some (.array n _)=>bif Nat.ble n 16 then .agg (rA7 E 12 t) else .one .any
 | some d=>.one (qBi d)
 | none=>.one .any
def kBj (E:Env) (t:TypeId):Ty:=
 match E.und t with
 | some (.tuple ts)=>match ts.toList with
  | []=>.val (.one .any)
  | l=>.tup (l.map (mAp E))
 | _=>.val (mAp E t)
abbrev CallK:=∀ {β:Type},FuncId→List AV→Heap→(AV→Heap→Option β)→Option β
def nAp:CallK:=fun _ _ _ _=>none
def lA {α β:Type} (x:Option (α×Heap)) (k:α→Heap→Option β):Option β:=
 match x with
 | some (v,h)=>k v h
 | none=>none
def oJ (f:FuncId) (l:List VTy) (t:Ty) (F:lH l→Heap→Option (t.den×Heap)) (C:CallK):CallK:=fun g args h k=>
 bif Nat.beq g f then VTy.casts l args fun xs=>lA (F xs h) fun r h'=>k (t.to r) h' else C g args h k
def pJ (i:Nat) (g:FuncId) (args:List AV):Bool:=match args[i]? with
 | some (.func (.func g') _ _)=>Nat.beq g' g
 | _=>false
def vP (f:FuncId) (sel:List AV→Bool) (l:List VTy) (t:Ty) (F:lH l→Heap→Option (t.den×Heap)) (C:CallK):CallK:=fun g args h k=>
 bif Nat.beq g f then (bif sel args then VTy.casts l args fun xs=>lA (F xs h) fun r h'=>k (t.to r) h' else C g args h k) else C g args h k
def iA {β:Type} (t:Ty) (x:Option AV) (K:t.den→Option β):Option β:=
 match x with
 | some v=>t.cast v K
 | none=>none
def aE {β:Type} (t:Ty) (x:Option (AV×Heap)) (K:t.den→Heap→Option β):Option β:=
 match x with
 | some (v,h)=>t.cast v fun y=>K y h
 | none=>none
def o1 {β:Type} (fr:Fr) (x:Operand) (f:AV→Option β):Option β:=
 match uG fr x with
 | some v=>f v
 | none=>none
def rA {α β:Type} (p:Option α) (K:α→Option β):Option β:=
 match p with
 | some a=>K a
 | none=>none
def uD {β:Type} (b:Bool) (k:Option β):Option β:=bif b then k else none
def Heap.cell (h:Heap) (a:Nat×Nat):Option AV:=
 match h.row a.1 with
 | some cs=>match cs.drop a.2 with
  | v::_=>some v
  | []=>none
 | none=>none
def Heap.cells (h:Heap) (a:Nat×Nat) (n:Nat):Option AV:=
 match h.read a.1 a.2 n with
 | some l=>some (.agg l)
 | none=>none
def Heap.store (h:Heap) (a:Nat×Nat) (vs:List AV):Option Heap:=
 match h.rowW a.1 with
 | some (cs,st)=>match over a.2 cs vs with
  | some cs'=>some (h.put a.1 (.row cs' st))
  | none=>none
 | none=>none
def yR:List AV→Bool
 | []=>true
 | v::r=>bif AV.single v then yR r else false
def ixK {β:Type} (a:Option (Nat×Nat)) (len:Nat) (i:Int) (n:Nat) (K:Nat×Nat→Option β):Option β:=
 match i with
 | .ofNat j=>bif Nat.blt j len then rA a fun q=>K (q.1,q.2+j * n) else none
 | .negSucc _=>none
def wK {β:Type} (s:List UInt8) (i:Int) (K:Int→Option β):Option β:=
 match i with
 | .ofNat j=>match s[j]? with
  | some b=>K b.toNat
  | none=>none
 | .negSucc _=>none
def qAi (E:Env) (s:TypeId) (f:Nat):Option Nat:=
 match E.fieldAt s f with
 | some fd=>match E.size fd.type with
  | some (_+1)=>some fd.offset
  | _=>none
 | none=>none
def elemOf (E:Env) (s:TypeId):Option (Option Nat×Nat):=
 match E.und s with
 | some (.slice e)=>match E.size e with
  | some n=>some (none,n)
  | none=>none
 | some (.array len e)=>match E.size e with
  | some n=>some (some len,n)
  | none=>none
 | _=>none
def iB1 (E:Env) (s:TypeId):Bool:=
 match E.und s with
 | some .string=>true
 | _=>false
def oAp:Operand→Bool
 | .const (.pointer none)=>true
 | _=>false
def aBf (E:Env) (t:TypeId):Bool:=
 match E.und t with
 | some (.pointer e)=>match E.size e with
  | some (_+1)=>true
  | _=>false
 | _=>false
def opK {β:Type} (E:Env) (fr:Fr) (o:Op) (t:Ty) (h:Heap) (k:AV→Heap→Option β):Option β:=
 match o with
 | .move x=>o1 fr x fun v=>k v h
 | .assign x=>o1 fr x fun v=>k v h
 | .load t' a=>o1 fr a fun v=>match v with
  | .ptr p=>match E.isAgg t' with
   | some true=>match E.size t' with
    | some n=>rA p fun q=>iA t (h.cells q n) fun y=>k (t.to y) h
    | none=>none
   | some false=>rA p fun q=>iA t (h.cell q) fun y=>k (t.to y) h
   | none=>none
  | _=>none
 | .nilCheck x=>o1 fr x fun v=>match v with
  | .ptr p=>rA p fun q=>k (.ptr (some q)) h
  | v=>iA t (fL v) fun y=>k (t.to y) h
 | .binOp op t' x y _=>o1 fr x fun v=>bif oAp y&&aBf E t' then (match v with
   | .ptr p=>match op with
    | .eql=>k (.bool p.isNone) h
    | .neq=>k (.bool (!p.isNone)) h
    | _=>none
   | _=>none)
  else o1 fr y fun u=>iA t (cK E op t' x y v u) fun y=>k (t.to y) h
 | .unOp op _ x=>o1 fr x fun v=>iA t (unA op v) fun y=>k (t.to y) h
 | .fieldAddr s x f=>o1 fr x fun v=>match v with
  | .ptr p=>match qAi E s f with
   | some off=>rA p fun q=>k (.ptr (some (q.1,q.2+off))) h
   | none=>none
  | _=>none
 | .field s x f=>o1 fr x fun v=>iA t (bAi E s v f) fun y=>k (t.to y) h
 | .indexAddr s x ix=>o1 fr x fun v=>o1 fr ix fun u=>match u with
  | .int _ i=>match elemOf E s with
   | some (none,n)=>match v with
    | .slice a len _ _=>ixK a len i n fun q=>k (.ptr (some q)) h
    | _=>none
   | some (some len,n)=>match v with
    | .ptr p=>ixK p len i n fun q=>k (.ptr (some q)) h
    | _=>none
   | none=>none
  | _=>none
 | .index s x ix=>o1 fr x fun v=>o1 fr ix fun u=>bif iB1 E s then (match v,u with
   | .str z,.int _ i=>wK z i fun b=>k (.int .u8 b) h
   | _,_=>none)
  else iA t (jAa E s v u) fun y=>k (t.to y) h
 | .slice s x lo hi none=>match fA4 fr lo,fA4 fr hi with
  | some lo,some hi=>o1 fr x fun v=>iA t (lE E h s v lo hi) fun y=>k (t.to y) h
  | _,_=>none
 | .store t' a x=>o1 fr a fun v=>o1 fr x fun u=>match v with
  | .ptr p=>match E.size t' with
   | some n=>bif Nat.beq n 1 then uD (AV.single u) (rA p fun q=>match h.store q [u] with
    | some h'=>k undefA h'
    | none=>none) else bif Nat.beq u.cells.length n then uD (yR u.cells) (rA p fun q=>match h.store q u.cells with
    | some h'=>k undefA h'
    | none=>none) else none
   | none=>none
  | _=>none
 | .typeAssert x _ t' ok=>o1 fr x fun v=>iA t (lJ E v t' ok) fun y=>k (t.to y) h
 | o=>aE t (opA E fr o h) fun y h'=>k (t.to y) h'
def fAv {β:Type} (E:Env) (C:CallK) (fr:Fr) (o:Op) (t:Ty) (h:Heap) (k:AV→Heap→Option β):Option β:=
 match o with
 | .call c=>match c.callee with
  | .builtin b=>match vH fr c.args.toList with
   | some args=>aE t (qG E b c.argTypes.toList args h) fun y h'=>k (t.to y) h'
   | none=>none
  | _=>match eAo E fr c h with
   | some (.fn f args)=>C f args h k
   | _=>none
 | o=>opK E fr o t h k
def qAb (E:Env) (o:Oper):Ty:=match o.dst with
 | some _=>kBj E o.type
 | none=>.val (.one .any)
def nG (ops:List Oper) (j:Nat):Option Nat:=
 match ops[j]? with
 | some o=>o.dst
 | none=>none
def vN {β:Type} (E:Env) (C:CallK) (nt:Nat) (ops:List Oper):List Oper→Fr→Heap→(Fr→Heap→Option β)→Option β
 | [],fr,h,k=>k fr h
 | o::r,fr,h,k=>match o.guard with
  | none=>fAv E C fr o.op (qAb E o) h fun v h'=>vN E C nt ops r (cT nt fr o.dst v) h' k
  | some (j,want)=>match nG ops j with
   | some d=>match fr.get d with
    | some (.bool b)=>bif b then
      (bif want then fAv E C (fr.set d (.bool true)) o.op (qAb E o) h fun v h'=>vN E C nt ops r (cT nt (fr.set d (.bool true)) o.dst v) h' k
       else vN E C nt ops r (cT nt (fr.set d (.bool true)) o.dst undefA) h k) else
      (bif want then vN E C nt ops r (cT nt (fr.set d (.bool false)) o.dst undefA) h k
       else fAv E C (fr.set d (.bool false)) o.op (qAb E o) h fun v h'=>vN E C nt ops r (cT nt (fr.set d (.bool false)) o.dst v) h' k)
    | some (.tuple [])=>vN E C nt ops r (cT nt fr o.dst undefA) h k
    | _=>none
   | none=>none
def aB:Option AV→AV→Bool
 | some u,v=>eqV u v
 | none,_=>false
def fF {α:Type} (p:Option α) (K:α→Bool):Bool:=
 match p with
 | some a=>K a
 | none=>false
def dB7 (E:Env) (fr:Fr) (o:Op) (v:AV) (H:Heap):Bool:=
 match o with
 | .load t a=>match uG fr a with
  | some (.ptr p)=>match E.isAgg t with
   | some true=>match E.size t with
    | some n=>fF p fun q=>aB (H.cells q n) v
    | none=>false
   | some false=>fF p fun q=>aB (H.cell q) v
   | none=>false
  | _=>false
 | .slice _ x _ _ none=>match uG fr x with
  | some (.slice ..)=>true
  | some (.str _)=>true
  | _=>false
 | .call c=>match c.callee,vH fr c.args.toList with
  | .builtin .len,some [.slice ..]=>true
  | .builtin .len,some [.str _]=>true
  | _,_=>false
 | _=>false
def pAp (E:Env) (wn:Nat→Nat→Bool) (i:Nat) (fr:Fr) (o:Op) (v:AV) (z:Bool):List (Nat×Heap)→Bool
 | []=>z
 | (k,H)::r=>bif wn i k then (bif dB7 E fr o v H then pAp E wn i fr o v z r else false) else pAp E wn i fr o v z r
def wN (E:Env) (wn:Nat→Nat→Bool) (hs:List (Nat×Heap)):List (Nat×Fr×Op×AV)→Bool
 | []=>true
 | (i,fr,o,v)::r=>pAp E wn i fr o v (wN E wn hs r) hs
def gAv (i:Nat) (o:Oper) (fr:Fr) (v:AV) (rs:List (Nat×Fr×Op×AV)):List (Nat×Fr×Op×AV):=bif Nat.beq (bC o.op) 1 then (i,fr,o.op,v)::rs else rs
def rAi (i:Nat) (o:Oper) (h:Heap) (hs:List (Nat×Heap)):List (Nat×Heap):=bif Nat.beq (bC o.op) 2 then (i,h)::hs else hs
def uH {β:Type} (E:Env) (C:CallK) (nt:Nat) (ops:List Oper) (wn:Nat→Nat→Bool):Nat→List Oper→Fr→Heap→List (Nat×Fr×Op×AV)→List (Nat×Heap)→(Fr→Heap→Option β)→Option β
 | i,[],fr,h,rs,hs,k=>uD (wN E wn ((i,h)::hs) rs) (k fr h)
 | i,o::r,fr,h,rs,hs,k=>match o.guard with
  | none=>fAv E C fr o.op (qAb E o) h fun v h'=>uH E C nt ops wn (i+1) r (cT nt fr o.dst v) h' (gAv i o fr v rs) (rAi i o h hs) k
  | some (j,want)=>match nG ops j with
   | some d=>match fr.get d with
    | some (.bool b)=>bif b then
      (bif want then fAv E C (fr.set d (.bool true)) o.op (qAb E o) h fun v h'=>uH E C nt ops wn (i+1) r (cT nt (fr.set d (.bool true)) o.dst v) h' (gAv i o (fr.set d (.bool true)) v rs) (rAi i o h hs) k
       else uH E C nt ops wn (i+1) r (cT nt (fr.set d (.bool true)) o.dst undefA) h rs (rAi i o h hs) k) else
      (bif want then uH E C nt ops wn (i+1) r (cT nt (fr.set d (.bool false)) o.dst undefA) h rs (rAi i o h hs) k
       else fAv E C (fr.set d (.bool false)) o.op (qAb E o) h fun v h'=>uH E C nt ops wn (i+1) r (cT nt (fr.set d (.bool false)) o.dst v) h' (gAv i o (fr.set d (.bool false)) v rs) (rAi i o h hs) k)
    | some (.tuple [])=>uH E C nt ops wn (i+1) r (cT nt fr o.dst undefA) h rs (rAi i o h hs) k
    | _=>none
   | none=>none
def qA5 {β:Type} (E:Env) (C:CallK) (nt:Nat) (ops:List Oper):Nat→List Oper→Fr→Heap→List (Nat×Fr×Op×AV)→List (Nat×Heap)→List (Nat×Heap×Heap)→(Fr→Heap→Option β)→Option β
 | i,[],fr,h,rs,hs,L,k=>uD (wN E (fun _ _=>true) ((i,h)::hs) rs) (uD (gB1 ops (qC ops []) L) (k fr h))
 | i,o::r,fr,h,rs,hs,L,k=>match o.guard with
  | none=>fAv E C fr o.op (qAb E o) h fun v h'=>qA5 E C nt ops (i+1) r (cT nt fr o.dst v) h' (gAv i o fr v rs) (rAi i o h hs) (yBf i o h h' L) k
  | some _=>none
inductive Ann where
 | n
 | two (a b:Ann)
 | join (live:List (Nat×VTy)) (a:Ann)
 | joinO (outs:List (Out×List (Nat×VTy))) (a:Ann)
 | loop (inn:List (Nat×VTy)) (outs:List Out) (out:List (Nat×VTy)) (a:Ann)
def qAp {β:Type}:(l:List (Nat×VTy))→Fr→(lH (l.map (·.2))→Option β)→Option β
 | [],_,K=>K ()
 | (i,t)::r,fr,K=>match fr.get i with
  | some v=>t.cast v fun x=>qAp r fr fun xs=>K (x,xs)
  | none=>none
def frL:(l:List (Nat×VTy))→lH (l.map (·.2))→Fr
 | [],_=>.nil
 | (i,t)::r,x=>(frL r x.2).set i (t.to x.1)
def fE {α β:Type} (x:Option (Out×α×Heap)) (k:Out→α→Heap→Option β):Option β:=
 match x with
 | some (o,v,h)=>k o v h
 | none=>none
def gE:Out→Out→Bool
 | .norm,.norm=>true
 | .exit i,.exit j=>Nat.beq i j
 | .ret,.ret=>true
 | _,_=>false
def mA1:List Out→Out→Bool
 | [],_=>false
 | x::r,o=>bif gE o x then true else mA1 r o
def bBf {β:Type}:List Out→Out→(Out→Option β)→Option β
 | [],_,_=>none
 | [x],_,K=>K x
 | x::y::r,o,K=>bif gE o x then K x else bBf (y::r) o K
@[reducible] def cBf:List (Out×List (Nat×VTy))→Type
 | []=>Empty
 | p::r=>Sum (lH (p.2.map (·.2))×Heap) (cBf r)
def dBf {β:Type}:(os:List (Out×List (Nat×VTy)))→Out→Fr→Heap→(cBf os→Option β)→Option β
 | [],_,_,_,_=>none
 | p::r,o,fr,h,K=>bif gE o p.1 then qAp p.2 fr fun xs=>K (.inl (xs,h)) else dBf r o fr h fun j=>K (.inr j)
def gF {A B β:Type} (j:Sum (A×Heap) B) (f:A→Heap→β) (g:B→β):β:=
 match j with
 | .inl p=>f p.1 p.2
 | .inr b=>g b
def jB1 {β:Type}:(os:List (Out×List (Nat×VTy)))→cBf os→(Out→Fr→Heap→Option β)→Option β
 | [],_,_=>none
 | p::r,j,K=>gF j (fun xs h=>K p.1 (frL p.2 xs) h) fun j=>jB1 r j K
def iter {σ ρ:Type} (body:(σ→Heap→Option ρ)→σ→Heap→Option ρ) (N:Nat):σ→Heap→Option ρ:=
 Nat.rec (fun _ _=>none) (fun _ go=>body go) N
def oAl {β:Type} (E:Env) (C:CallK) (nt:Nat):Code→Fr→Heap→(Out→Fr→Heap→Option β)→Option β
 | .skip,fr,h,k=>k .norm fr h
 | .region _ ops draw,fr,h,k=>bif draw&&!jAi ops.toList then (bif jA0 ops.toList then uH E C nt ops.toList (mB7 ops.toList (qC ops.toList [])) 0 ops.toList fr h [] [] fun fr' h'=>k .norm fr' h' else bif kAi ops.toList then uH E C nt ops.toList (fun _ _=>true) 0 ops.toList fr h [] [] fun fr' h'=>k .norm fr' h' else bif lAi ops.toList then uH E C nt ops.toList (fun _ _=>true) 0 ops.toList fr h [] [] fun fr' h'=>k .norm fr' h' else bif pAi ops.toList then qA5 E C nt (yH (wX ops.toList) ops.toList) 0 (yH (wX ops.toList) ops.toList) fr h [] [] [] fun fr' h'=>k .norm fr' h' else none) else vN E C nt ops.toList ops.toList fr h fun fr' h'=>k .norm fr' h'
 | .seq a b,fr,h,k=>oAl E C nt a fr h fun o fr' h'=>match o with
  | .norm=>oAl E C nt b fr' h' k
  | o=>k o fr' h'
 | .cond c x y,fr,h,k=>match uG fr c with
  | some (.bool b)=>bif b then oAl E C nt x fr h k else oAl E C nt y fr h k
  | _=>none
 | .block id c,fr,h,k=>oAl E C nt c fr h fun o fr' h'=>match o with
  | .exit id'=>bif Nat.beq id' id then k .norm fr' h' else k (.exit id') fr' h'
  | o=>k o fr' h'
 | .exit id,fr,h,k=>k (.exit id) fr h
 | .ret,fr,h,k=>k .ret fr h
 | .scope c,fr,h,k=>oAl E C nt c fr h k
 | .label _,fr,h,k=>k .norm fr h
 | _,_,_,_=>none
def uAd (E:Env) (C:CallK) (N nt:Nat):Ann→Code→{β:Type}→Fr→Heap→(Out→Fr→Heap→Option β)→Option β
 | .n,c,_,fr,h,k=>oAl E C nt c fr h k
 | .two x y,c,_,fr,h,k=>match c with
  | .seq a b=>uAd E C N nt x a fr h fun o fr' h'=>match o with
   | .norm=>uAd E C N nt y b fr' h' k
   | o=>k o fr' h'
  | .cond c a b=>match uG fr c with
   | some (.bool t)=>bif t then uAd E C N nt x a fr h k else uAd E C N nt y b fr h k
   | _=>none
  | .block id c=>uAd E C N nt x c fr h fun o fr' h'=>match o with
   | .exit id'=>bif Nat.beq id' id then k .norm fr' h' else k (.exit id') fr' h'
   | o=>k o fr' h'
  | .scope c=>uAd E C N nt x c fr h k
  | _=>none
 | .join live x,c,_,fr,h,k=>lA (uAd E C N nt x c fr h fun o fr' h'=>match o with
   | .norm=>qAp live fr' fun us=>some (us,h')
   | _=>none) fun us h'=>k .norm (frL live us) h'
 | .joinO os x,c,_,fr,h,k=>rA (uAd E C N nt x c fr h fun o fr' h'=>dBf os o fr' h' some) fun j=>jB1 os j k
 | .loop li outs lo x,c,_,fr,h,k=>match c with
  | .loop b=>qAp li fr fun vs=>fE (iter (fun go vs h=>uAd E C N nt x b (frL li vs) h fun o fr' h'=>match o with
    | .norm=>qAp li fr' fun ws=>go ws h'
    | o=>bif mA1 outs o then qAp lo fr' fun us=>some (o,us,h') else none) N vs h) fun o us h'=>bBf outs o fun o=>k o (frL lo us) h'
  | _=>none
def tAy {β:Type} (E:Env) (fr:Fr) (h:Heap):List (ResultVar×VTy)→(List AV→Option β)→Option β
 | [],K=>K []
 | (.tmp t,_)::r,K=>match fr.get t with
  | some v=>tAy E fr h r fun l=>K (v::l)
  | none=>none
 | (.cell a t,c)::r,K=>match fr.get a with
  | some (.ptr p)=>match E.isAgg t with
   | some true=>match E.size t with
    | some n=>rA p fun q=>iA (.val c) (h.cells q n) fun y=>tAy E fr h r fun l=>K (c.to y::l)
    | none=>none
   | some false=>rA p fun q=>iA (.val c) (h.cell q) fun y=>tAy E fr h r fun l=>K (c.to y::l)
   | none=>none
  | _=>none
def eBf:List AV→AV
 | [v]=>v
 | vs=>.tuple vs
def runK (E:Env) (C:CallK) (N:Nat) (x:Ann) (fn:Func) (c:Code) (t:Ty) (args:List AV) (h:Heap):Option (t.den×Heap):=
 bif Nat.ble args.length fn.ntmps then uAd E C N fn.ntmps x c (mAa 0 args .nil) h fun o fr h'=>match o with
  | .exit _=>none
  | _=>tAy E fr h' (fn.results.toList.zip (fn.resultTypes.toList.map (mAp E))) fun vs=>t.cast (eBf vs) fun r=>some (r,h')
 else none
end Ai
namespace Ai
section
variable {β:Type}
theorem CTy.cast_spec:∀ {c:CTy} {v:AV} {K:c.den→Option β} {b:β},c.cast v K=some b→∃ x,c.to x=v∧K x=some b
 | .bool,v,K,b,h=>by cases v <;> simp [CTy.cast] at h;exact ⟨_,rfl,h⟩
 | .int k,v,K,b,h=>by
  cases v <;> simp only [CTy.cast,reduceCtorEq] at h;rename_i k' n
  cases hk:pI k' k with
  | false=>simp [hk] at h
  | true=>
   simp only [hk,cond_true] at h
   have:k'=k:=by simpa [pI] using hk
   subst this;exact ⟨n,rfl,h⟩
 | .str,v,K,b,h=>by cases v <;> simp [CTy.cast] at h;exact ⟨_,rfl,h⟩
 | .ptr,v,K,b,h=>by cases v <;> simp [CTy.cast] at h;exact ⟨_,rfl,h⟩
 | .slice,v,K,b,h=>by cases v <;> simp [CTy.cast] at h;exact ⟨⟨_,_,_,_⟩,rfl,h⟩
 | .any,v,K,b,h=>⟨v,rfl,h⟩
theorem CTy.casts_spec:∀ {l:List CTy} {vs:List AV} {K:gN l→Option β} {b:β},CTy.casts l vs K=some b→∃ x,CTy.tos l x=vs∧K x=some b
 | [],vs,K,b,h=>by cases vs <;> simp [CTy.casts] at h;exact ⟨(),rfl,h⟩
 | c::r,vs,K,b,h=>by
  cases vs with
  | nil=>simp [CTy.casts] at h
  | cons v vs=>
   simp only [CTy.casts] at h;obtain ⟨x,rfl,h1⟩:=CTy.cast_spec h;obtain ⟨xs,rfl,h2⟩:=CTy.casts_spec h1;exact ⟨(x,xs),rfl,h2⟩
theorem VTy.cast_spec:∀ {c:VTy} {v:AV} {K:c.den→Option β} {b:β},c.cast v K=some b→∃ x,c.to x=v∧K x=some b
 | .one c,v,K,b,h=>CTy.cast_spec h
 | .agg l,v,K,b,h=>by
  cases v <;> simp only [VTy.cast,reduceCtorEq] at h;obtain ⟨x,rfl,h1⟩:=CTy.casts_spec h;exact ⟨x,rfl,h1⟩
 | .clo g l,v,K,b,h=>by
  simp only [VTy.cast] at h
  split at h
  ·rename_i g' cs
   cases hg:Nat.beq g' g with
   | false=>simp [hg] at h
   | true=>
    simp only [hg,cond_true] at h;obtain ⟨x,rfl,h1⟩:=CTy.casts_spec h
    have:=Nat.eq_of_beq_eq_true hg
    subst this;exact ⟨x,rfl,h1⟩
  ·cases h
theorem VTy.casts_spec:∀ {l:List VTy} {vs:List AV} {K:lH l→Option β} {b:β},VTy.casts l vs K=some b→∃ x,VTy.tos l x=vs∧K x=some b
 | [],vs,K,b,h=>by cases vs <;> simp [VTy.casts] at h;exact ⟨(),rfl,h⟩
 | c::r,vs,K,b,h=>by
  cases vs with
  | nil=>simp [VTy.casts] at h
  | cons v vs=>
   simp only [VTy.casts] at h;obtain ⟨x,rfl,h1⟩:=VTy.cast_spec h;obtain ⟨xs,rfl,h2⟩:=VTy.casts_spec h1;exact ⟨(x,xs),rfl,h2⟩
theorem Ty.cast_spec:∀ {c:Ty} {v:AV} {K:c.den→Option β} {b:β},c.cast v K=some b→∃ x,c.to x=v∧K x=some b
 | .val c,v,K,b,h=>VTy.cast_spec h
 | .tup l,v,K,b,h=>by
  cases v <;> simp only [Ty.cast,reduceCtorEq] at h;obtain ⟨x,rfl,h1⟩:=VTy.casts_spec h;exact ⟨x,rfl,h1⟩
theorem jL:∀ {l:List (Nat×VTy)} {fr:Fr} {K:lH (l.map (·.2))→Option β} {b:β},qAp l fr K=some b→∃ xs,(∀ i v,(frL l xs).get i=some v→fr.get i=some v)∧K xs=some b
 | [],fr,K,b,h=>⟨(),fun i v hv=>by simp [frL,Tr.get_nil] at hv,h⟩
 | (i,t)::r,fr,K,b,h=>by
  simp only [qAp] at h
  cases hg:fr.get i with
  | none=>simp [hg] at h
  | some v=>
   simp only [hg] at h;obtain ⟨x,rfl,h0⟩:=VTy.cast_spec h;obtain ⟨xs,h1,h2⟩:=jL h0;refine ⟨(x,xs),fun j u hu=>?_,h2⟩;simp only [frL] at hu;rcases Tr.get_set hu with ⟨rfl,rfl⟩ | ⟨_,h3⟩
   ·exact hg
   ·exact h1 j u h3
theorem kF {t:Ty} {x:Option AV} {K:t.den→Option β} {b:β} (h:iA t x K=some b):∃ y,x=some (t.to y)∧K y=some b:=by
 unfold iA at h
 split at h
 ·obtain ⟨y,rfl,h1⟩:=Ty.cast_spec h;exact ⟨y,rfl,h1⟩
 ·cases h
theorem rA5 {t:Ty} {x:Option (AV×Heap)} {K:t.den→Heap→Option β} {b:β} (h:aE t x K=some b):∃ y h',x=some (t.to y,h')∧K y h'=some b:=by
 unfold aE at h
 split at h
 ·rename_i v h'
  obtain ⟨y,rfl,h1⟩:=Ty.cast_spec h;exact ⟨y,h',rfl,h1⟩
 ·cases h
theorem cI {α:Type} {x:Option (α×Heap)} {K:α→Heap→Option β} {b:β} (h:lA x K=some b):∃ y h',x=some (y,h')∧K y h'=some b:=by
 unfold lA at h
 split at h
 ·exact ⟨_,_,rfl,h⟩
 ·cases h
theorem pAl {α:Type} {x:Option (Out×α×Heap)} {K:Out→α→Heap→Option β} {b:β} (h:fE x K=some b):∃ o y h',x=some (o,y,h')∧K o y h'=some b:=by
 unfold fE at h
 split at h
 ·exact ⟨_,_,_,rfl,h⟩
 ·cases h
theorem fG {fr:Fr} {x:Operand} {f:AV→Option β} {b:β} (h:o1 fr x f=some b):∃ v,uG fr x=some v∧f v=some b:=by
 unfold o1 at h
 split at h
 ·exact ⟨_,by assumption,h⟩
 ·cases h
theorem tA7 {a b:Out} (h:gE a b=true):a=b:=by
 cases a <;> cases b <;> simp_all [gE]
theorem tA5:∀ {l:List Out} {o:Out},mA1 l o=true→o∈l
 | [],o,h=>by cases h
 | x::r,o,h=>by
  simp only [mA1] at h
  cases he:gE o x with
  | true=>rw [tA7 he];exact List.mem_cons_self
  | false=>simp only [he,cond_false] at h;exact List.mem_cons_of_mem _ (tA5 h)
theorem rAb:∀ {l:List Out} {o:Out} {K:Out→Option β} {b:β},o∈l→bBf l o K=some b→K o=some b
 | [x],o,K,b,hm,h=>by simp at hm;subst hm;exact h
 | x::y::r,o,K,b,hm,h=>by
  simp only [bBf] at h
  cases he:gE o x with
  | true=>simp only [he,cond_true] at h;rw [tA7 he];exact h
  | false=>
   simp only [he,cond_false] at h;rcases List.mem_cons.1 hm with rfl | hm'
   ·cases o <;> simp [gE] at he
   ·exact rAb hm' h
variable {E:Env} {P:Program}
theorem oG {α:Type} {p:Option α} {K:α→Option β} {b:β} (h:rA p K=some b):∃ a,p=some a∧K a=some b:=by
 unfold rA at h
 split at h
 ·exact ⟨_,rfl,h⟩
 ·cases h
theorem qJ {g:Bool} {k:Option β} {b:β} (h:uD g k=some b):g=true∧k=some b:=by
 cases g with
 | true=>exact ⟨rfl,h⟩
 | false=>cases h
theorem nA1:∀ {l:List AV},yR l=true→l.all AV.single=true
 | [],_=>rfl
 | v::r,h=>by
  simp only [yR] at h
  cases hv:AV.single v with
  | true=>simp only [hv,cond_true] at h;simp [hv,nA1 h]
  | false=>simp [hv] at h
theorem pA1 {h:Heap} {q:Nat×Nat} {v:AV} (hx:h.cell q=some v):h.read q.1 q.2 1=some [v]:=by
 unfold Heap.cell at hx;unfold Heap.read
 split at hx
 ·rename_i cs hr
  rw [hr]
  split at hx
  ·rename_i u r hd
   simp only [Option.some.injEq] at hx;subst hx;simp only [hd,takeN]
  ·cases hx
 ·cases hx
theorem nW {h:Heap} {q:Nat×Nat} {n:Nat} {v:AV} (hx:h.cells q n=some v):∃ l,h.read q.1 q.2 n=some l∧v=.agg l:=by
 unfold Heap.cells at hx
 split at hx
 ·rename_i l hl;simp only [Option.some.injEq] at hx;exact ⟨l,hl,hx.symm⟩
 ·cases hx
theorem tAi {a:Option (Nat×Nat)} {len:Nat} {i:Int} {n:Nat} {K:Nat×Nat→Option β} {b:β} (h:ixK a len i n K=some b) :
  ∃ j q,i=.ofNat j∧Nat.blt j len=true∧a=some q∧K (q.1,q.2+j * n)=some b:=by
 unfold ixK at h
 split at h
 ·rename_i j
  cases hb:Nat.blt j len with
  | true=>
   simp only [hb,cond_true] at h;obtain ⟨q,h1,h2⟩:=oG h;exact ⟨j,q,rfl,hb,h1,h2⟩
  | false=>simp [hb] at h
 ·cases h
theorem rAp {s:List UInt8} {i:Int} {K:Int→Option β} {b:β} (h:wK s i K=some b):∃ j c,i=.ofNat j∧s[j]? = some c∧K c.toNat=some b:=by
 unfold wK at h
 split at h
 ·rename_i j
  split at h
  ·rename_i c hc;exact ⟨j,c,rfl,hc,h⟩
  ·cases h
 ·cases h
theorem uA5 {h h':Heap} {q:Nat×Nat} {t:TypeId} {u:AV} {n:Nat} (hn:E.size t=some n) (hl:Nat.beq u.cells.length n=true) (hs:yR u.cells=true) (hx:h.store q u.cells=some h'):vA4 E h t (.ptr (some q)) u=some h':=by
 obtain ⟨A,off⟩:=q;unfold Heap.store at hx;have hl':u.cells.length=n:=Nat.eq_of_beq_eq_true hl;have hs':=nA1 hs;unfold vA4;simp only [hn,hl',hs',decide_true,Bool.and_self,if_true];exact hx
theorem tAp {t:TypeId} {x y:Operand} {p:Option (Nat×Nat)} (ht:aBf E t=true):cK E .eql t x y (.ptr p) (.ptr none)=some (.bool p.isNone)∧cK E .neq t x y (.ptr p) (.ptr none)=some (.bool (!p.isNone)):=by
 have hc:nAy E t x y (.ptr p) (.ptr none)=some p.isNone:=by
  unfold aBf at ht
  split at ht
  ·rename_i e he
   split at ht
   ·rename_i k hk
    simp only [nAy,nAv,cond_true,eqA,he,hk];cases p <;> rfl
   ·cases ht
  ·cases ht
 constructor
 ·simp only [cK,vBe,hc]
 ·simp only [cK,vBe,hc]
theorem iAw {fr:Fr} {o:Op} {t:Ty} {h:Heap} {k:AV→Heap→Option β} {b:β} (hx:opK E fr o t h k=some b):∃ v h',opA E fr o h=some (v,h')∧k v h'=some b:=by
 unfold opK at hx
 split at hx
 ·obtain ⟨v,h1,h2⟩:=fG hx;exact ⟨v,h,by simp [opA,h1,lD],h2⟩
 ·obtain ⟨v,h1,h2⟩:=fG hx;exact ⟨v,h,by simp [opA,h1,lD],h2⟩
 ·
  rename_i t' a;obtain ⟨v,h1,h2⟩:=fG hx
  split at h2
  ·rename_i p
   split at h2
   ·rename_i hagg
    split at h2
    ·rename_i n hn
     obtain ⟨q,rfl,h3⟩:=oG h2;obtain ⟨y,h4,h5⟩:=kF h3;obtain ⟨l,h6,h7⟩:=nW h4;exact ⟨_,h,by simp [opA,op1,h1,mQ,hagg,hn,h6,h7,lD],h5⟩
    ·cases h2
   ·rename_i hagg
    obtain ⟨q,rfl,h3⟩:=oG h2;obtain ⟨y,h4,h5⟩:=kF h3;exact ⟨_,h,by simp [opA,op1,h1,mQ,hagg,pA1 h4,lD],h5⟩
   ·cases h2
  ·cases h2
 ·
  obtain ⟨v,h1,h2⟩:=fG hx
  split at h2
  ·obtain ⟨q,rfl,h3⟩:=oG h2
   exact ⟨_,h,by simp [opA,op1,h1,fL,lD],h3⟩
  ·obtain ⟨y,h3,h4⟩:=kF h2;exact ⟨_,h,by simp [opA,op1,h1,h3,lD],h4⟩
 ·
  rename_i op t' x y _;obtain ⟨v,h1,h2⟩:=fG hx
  cases hn:(oAp y&&aBf E t') with
  | true=>
   simp only [hn,cond_true] at h2;simp only [Bool.and_eq_true] at hn;have hy:uG fr y=some (.ptr none):=by
    have hn1:=hn.1;unfold oAp at hn1
    split at hn1
    ·rfl
    ·cases hn1
   split at h2
   ·split at h2
    ·exact ⟨_,h,by simp [opA,op2,h1,hy,(tAp hn.2).1,lD],h2⟩
    ·exact ⟨_,h,by simp [opA,op2,h1,hy,(tAp hn.2).2,lD],h2⟩
    ·cases h2
   ·cases h2
  | false=>
   simp only [hn,cond_false] at h2;obtain ⟨u,h3,h4⟩:=fG h2;obtain ⟨y,h5,h6⟩:=kF h4;exact ⟨_,h,by simp [opA,op2,h1,h3,h5,lD],h6⟩
 ·obtain ⟨v,h1,h2⟩:=fG hx;obtain ⟨y,h3,h4⟩:=kF h2;exact ⟨_,h,by simp [opA,op1,h1,h3,lD],h4⟩
 ·
  rename_i s x f;obtain ⟨v,h1,h2⟩:=fG hx
  split at h2
  ·split at h2
   ·rename_i off hoff
    obtain ⟨q,rfl,h3⟩:=oG h2;refine ⟨_,h,?_,h3⟩;unfold qAi at hoff
    split at hoff
    ·rename_i fd hfd
     split at hoff
     ·rename_i m hm
      simp only [Option.some.injEq] at hoff;subst hoff;simp [opA,op1,h1,fP,hfd,hm,lD]
     ·cases hoff
    ·cases hoff
   ·cases h2
  ·cases h2
 ·obtain ⟨v,h1,h2⟩:=fG hx;obtain ⟨y,h3,h4⟩:=kF h2;exact ⟨_,h,by simp [opA,op1,h1,h3,lD],h4⟩
 ·
  rename_i s x ix;obtain ⟨v,h1,h2⟩:=fG hx;obtain ⟨u,h3,h4⟩:=fG h2
  split at h4
  ·split at h4
   ·rename_i n hel
    split at h4
    ·obtain ⟨j,q,rfl,hb,rfl,h5⟩:=tAi h4
     refine ⟨_,h,?_,h5⟩;unfold elemOf at hel
     split at hel
     ·rename_i e he
      split at hel
      ·rename_i m hm
       simp only [Option.some.injEq,Prod.mk.injEq,true_and] at hel;subst hel;simp [opA,op2,h1,h3,eL,qR,he,hm,hb,lD]
      ·cases hel
     ·rename_i len e he
      split at hel <;> simp at hel
     ·cases hel
    ·cases h4
   ·rename_i len n hel
    split at h4
    ·obtain ⟨j,q,rfl,hb,rfl,h5⟩:=tAi h4
     refine ⟨_,h,?_,h5⟩;unfold elemOf at hel
     split at hel
     ·rename_i e he
      split at hel <;> simp at hel
     ·rename_i len' e he
      split at hel
      ·rename_i m hm
       simp only [Option.some.injEq,Prod.mk.injEq] at hel;obtain ⟨rfl,rfl⟩:=hel;simp [opA,op2,h1,h3,eL,qR,he,hm,hb,lD]
      ·cases hel
     ·cases hel
    ·cases h4
   ·cases h4
  ·cases h4
 ·
  rename_i s x ix;obtain ⟨v,h1,h2⟩:=fG hx;obtain ⟨u,h3,h4⟩:=fG h2
  cases hs:iB1 E s with
  | true=>
   simp only [hs,cond_true] at h4
   split at h4
   ·obtain ⟨j,c,rfl,hc,h5⟩:=rAp h4
    refine ⟨_,h,?_,h5⟩;unfold iB1 at hs
    split at hs
    ·rename_i he
     simp [opA,op2,h1,h3,jAa,qR,he,hc,lD]
    ·cases hs
   ·cases h4
  | false=>
   simp only [hs,cond_false] at h4;obtain ⟨y,h5,h6⟩:=kF h4;exact ⟨_,h,by simp [opA,op2,h1,h3,h5,lD],h6⟩
 ·split at hx
  ·rename_i lo hi hlo hhi
   obtain ⟨v,h1,h2⟩:=fG hx;obtain ⟨y,h3,h4⟩:=kF h2;exact ⟨_,h,by simp [opA,op1,hlo,hhi,h1,h3,lD],h4⟩
  ·cases hx
 ·
  obtain ⟨v,h1,h2⟩:=fG hx;obtain ⟨u,h3,h4⟩:=fG h2
  split at h4
  ·split at h4
   ·rename_i n hn
    cases hn1:Nat.beq n 1 with
    | true=>
     simp only [hn1,cond_true] at h4;obtain ⟨hs,h5⟩:=qJ h4;have hu:u.cells=[u]:=by cases u <;> simp [AV.single] at hs <;> rfl
     have hl:Nat.beq u.cells.length n=true:=by rw [hu,Nat.eq_of_beq_eq_true hn1];rfl
     have hs':yR u.cells=true:=by rw [hu];simp [yR,hs]
     obtain ⟨q,rfl,h6⟩:=oG h5
     split at h6
     ·rename_i h' he;exact ⟨_,h',by simp [opA,op2,h1,h3,uA5 hn hl hs' (by rw [hu];exact he),unit],h6⟩
     ·cases h6
    | false=>
    simp only [hn1,cond_false] at h4
    cases hl:Nat.beq u.cells.length n with
    | true=>
     simp only [hl,cond_true] at h4;obtain ⟨hs,h5⟩:=qJ h4;obtain ⟨q,rfl,h6⟩:=oG h5
     split at h6
     ·rename_i h' he;exact ⟨_,h',by simp [opA,op2,h1,h3,uA5 hn hl hs he,unit],h6⟩
     ·cases h6
    | false=>simp [hl] at h4
   ·cases h4
  ·cases h4
 ·obtain ⟨v,h1,h2⟩:=fG hx;obtain ⟨y,h3,h4⟩:=kF h2;exact ⟨_,h,by simp [opA,op1,h1,h3,lD],h4⟩
 ·obtain ⟨y,h',h1,h2⟩:=rA5 hx;exact ⟨_,h',h1,h2⟩
def wE (C:CallK):CallF:=fun f args h=>C f args h fun v h'=>some (v,h')
structure CallKOK (P:Program) (C:CallK):Prop where
 nat:∀ {β:Type} {f:FuncId} {args:List AV} {h:Heap} {k:AV→Heap→Option β} {b:β},C f args h k=some b→∃ v h',wE C f args h=some (v,h')∧k v h'=some b
 ok:nT P (wE C)
theorem yN {C:CallK} (hC:CallKOK P C) {fr:Fr} {o:Op} {t:Ty} {h:Heap} {k:AV→Heap→Option β} {b:β} (hx:fAv E C fr o t h k=some b):∃ v h',eI E (wE C) fr o h=some (v,h')∧k v h'=some b:=by
 unfold fAv at hx
 split at hx
 ·rename_i c
  split at hx
  ·rename_i bi hcal
   split at hx
   ·rename_i args hargs
    obtain ⟨y,h',h1,h2⟩:=rA5 hx;exact ⟨_,h',by simp [eI,eAo,hargs,hcal,h1],h2⟩
   ·cases hx
  ·split at hx
   ·rename_i f args htg
    obtain ⟨v,h',h1,h2⟩:=hC.nat hx;exact ⟨v,h',by simp [eI,htg,h1],h2⟩
   ·cases hx
 ·rename_i o hne
  obtain ⟨v,h',h1,h2⟩:=iAw hx;refine ⟨v,h',?_,h2⟩;unfold eI
  split
  ·rename_i c;exact absurd rfl (hne c)
  ·exact h1
end
end Ai
namespace Ai
def FrLe (fr big:Fr):Prop:=∀ i v,fr.get i=some v→big.get i=some v
theorem FrLe.refl (fr:Fr):FrLe fr fr:=fun _ _ h=>h
theorem FrLe.put {nt:Nat} (hnt:nt≤1073741824) {fr big:Fr} (h:FrLe fr big) (d:Option Tmp) (v:AV):FrLe (cT nt fr d v) (cT nt big d v):=by
 cases d with
 | none=>exact h
 | some t=>
  simp only [cT]
  cases hb:Nat.blt t nt with
  | false=>intro i u hu;simp [Tr.get_nil] at hu
  | true=>
   have hlt:t<nt:=by simpa [Nat.blt_eq] using hb
   intro i u hu;simp only [cond_true] at hu ⊢;rcases Tr.get_set hu with ⟨rfl,rfl⟩ | ⟨hne,h2⟩
   ·exact Tr.get_set_same
   ·exact Tr.get_set_other hne (h i u h2)
theorem FrLe.fix {fr big:Fr} (h:FrLe fr big) {d:Nat} {v:AV} (hg:fr.get d=some v):FrLe (fr.set d v) big:=by
 intro i u hu;rcases Tr.get_set hu with ⟨rfl,rfl⟩ | ⟨_,h2⟩
 ·exact h _ _ hg
 ·exact h i u h2
section
variable {E:Env} {P:Program} {call:CallF} {fr big:Fr}
theorem nI (h:FrLe fr big) {x:Operand} {v:AV} (hx:uG fr x=some v):uG big x=some v:=by
 cases x with
 | tmp t=>exact h t v hx
 | const c=>exact hx
 | global g=>exact hx
 | func f=>exact hx
theorem nZ (h:FrLe fr big):∀ {l:List Operand} {vs:List AV},vH fr l=some vs→vH big l=some vs
 | [],vs,hx=>hx
 | x::r,vs,hx=>by
  simp only [vH] at hx ⊢
  cases h1:uG fr x with
  | none=>simp [h1] at hx
  | some v=>
   cases h2:vH fr r with
   | none=>simp [h1,h2] at hx
   | some l=>simp only [h1,h2] at hx;simp only [nI h h1,nZ h h2,hx]
theorem uA7 (h:FrLe fr big):∀ {l:List (Nat×Operand)} {vs:List (Nat×AV)},gH fr l=some vs→gH big l=some vs
 | [],vs,hx=>hx
 | (i,x)::r,vs,hx=>by
  simp only [gH] at hx ⊢
  cases h1:uG fr x with
  | none=>simp [h1] at hx
  | some v=>
   cases h2:gH fr r with
   | none=>simp [h1,h2] at hx
   | some l=>simp only [h1,h2] at hx;simp only [nI h h1,uA7 h h2,hx]
theorem uAy (h:FrLe fr big) {x:Option Operand} {v:Option AV} (hx:fA4 fr x=some v):fA4 big x=some v:=by
 cases x with
 | none=>exact hx
 | some x=>
  simp only [fA4] at hx ⊢
  cases h1:uG fr x with
  | none=>simp [h1] at hx
  | some u=>simp only [h1] at hx;simp only [nI h h1,hx]
theorem uAi (h:FrLe fr big) {x:Operand} {f g:AV→Option (AV×Heap)} {r:AV×Heap} (hfg:∀ v,f v=some r→g v=some r) (hx:op1 fr x f=some r):op1 big x g=some r:=by
 obtain ⟨v,h1,h2⟩:=wD hx;simp only [op1,nI h h1,hfg v h2]
theorem bB8 (h:FrLe fr big) {x y:Operand} {f:AV→AV→Option (AV×Heap)} {r:AV×Heap} (hx:op2 fr x y f=some r):op2 big x y f=some r:=by
 obtain ⟨v,u,h1,h2,h3⟩:=kH hx;simp only [op2,nI h h1,nI h h2,h3]
theorem cB8 (h:FrLe fr big) {x y z:Operand} {f:AV→AV→AV→Option (AV×Heap)} {r:AV×Heap} (hx:op3 fr x y z f=some r):op3 big x y z f=some r:=by
 obtain ⟨v,u,q,h1,h2,h3,h4⟩:=kA7 hx;simp only [op3,nI h h1,nI h h2,nI h h3,h4]
theorem uAe (h:FrLe fr big) {x:Operand} {hp:Heap} {r:AV×Heap} (hx:lD hp (uG fr x)=some r):lD hp (uG big x)=some r:=by
 cases h1:uG fr x with
 | none=>simp [h1,lD] at hx
 | some v=>rw [h1] at hx;rw [nI h h1,hx]
theorem dB8 (h:FrLe fr big) {o:Op} {hp:Heap} {r:AV×Heap} (hx:opA E fr o hp=some r):opA E big o hp=some r:=by
 unfold opA at hx ⊢
 split at hx
 case h_3=>
  refine uAi h (fun v hv=>?_) hx
  split at hv
  ·exact uAe h hv
  ·exact uAe h hv
  ·cases hv
 all_goals first
  | exact uAe h hx
  | exact bB8 h hx
  | exact cB8 h hx
  | exact uAi h (fun _ hv=>hv) hx
  | exact hx
  | skip
 ·split at hx
  ·rename_i l hl;simp only [uA7 h hl];exact hx
  ·cases hx
 ·split at hx
  ·rename_i l hl;simp only [uA7 h hl];exact hx
  ·cases hx
 ·split at hx
  ·cases hx
  ·exact uAi h (fun _ hv=>hv) hx
  ·cases hx
 ·split at hx
  ·rename_i l m hl hm;simp only [nZ h hl,nZ h hm];exact hx
  ·cases hx
 ·split at hx
  ·rename_i lo hi hl hm;simp only [uAy h hl,uAy h hm];exact uAi h (fun _ hv=>hv) hx
  ·cases hx
end
end Ai
namespace Ai
section
variable {E:Env} {P:Program} {call:CallF} {fr big:Fr}
theorem kB1 (h:FrLe fr big) {c:Call} {hp:Heap} {t:Tgt} (hx:eAo E fr c hp=some t):eAo E big c hp=some t:=by
 unfold eAo at hx ⊢
 cases h1:vH fr c.args.toList with
 | none=>simp [h1] at hx
 | some args=>
  simp only [h1] at hx;simp only [nZ h h1]
  split at hx
  ·exact hx
  ·rename_i recv name _
   cases h2:uG fr recv with
   | none=>simp [h2] at hx
   | some v=>rw [h2] at hx;rw [nI h h2];exact hx
  ·rename_i f _
   cases h2:uG fr f with
   | none=>simp [h2] at hx
   | some v=>rw [h2] at hx;rw [nI h h2];exact hx
theorem aS (h:FrLe fr big) {o:Op} {hp:Heap} {r:AV×Heap} (hx:eI E call fr o hp=some r):eI E call big o hp=some r:=by
 unfold eI at hx ⊢
 split at hx
 ·rename_i c
  cases h1:eAo E fr c hp with
  | none=>simp [h1] at hx
  | some t=>rw [h1] at hx;simp only [kB1 h h1];exact hx
 ·exact dB8 h hx
theorem vA5 {ops:List Oper} {j d:Nat} {b:Bool} (hs:nG ops j=some d) (hg:fr.get d=some (.bool b)):bG ops fr j=some b:=by
 unfold nG at hs;unfold bG
 cases ho:ops[j]? with
 | none=>simp [ho] at hs
 | some o=>simp only [ho] at hs ⊢;simp only [hs,hg]
theorem yX {C:CallK} (hC:CallKOK P C) {nt:Nat} (hnt:nt≤1073741824) {ops:List Oper} {β:Type}:∀ {r:List Oper} {fr big:Fr} {h:Heap} {k:Fr→Heap→Option β} {b:β},vN E C nt ops r fr h k=some b→FrLe fr big→
  ∃ recs fr' big' h',pE E (wE C) nt ops r big h=some (recs,big',h')∧FrLe fr' big'∧k fr' h'=some b
 | [],fr,big,h,k,b,hx,hle=>⟨[],fr,big,h,rfl,hle,hx⟩
 | o::r,fr,big,h,k,b,hx,hle=>by
  have step:∀ {fr1:Fr} {v:AV} {h1:Heap},FrLe fr1 big→dE E (wE C) ops big o h=some (v,h1)→vN E C nt ops r (cT nt fr1 o.dst v) h1 k=some b→
    ∃ recs fr' big' h',pE E (wE C) nt ops (o::r) big h=some (recs,big',h')∧FrLe fr' big'∧k fr' h'=some b:=by
   intro fr1 v h1 hle1 hs he;obtain ⟨recs,fr',big',h',e1,e2,e3⟩:=yX hC hnt he (hle1.put hnt o.dst v);exact ⟨(big,h,v)::recs,fr',big',h',by simp only [pE,hs,e1],e2,e3⟩
  simp only [vN] at hx
  cases hg:o.guard with
  | none=>
   simp only [hg] at hx;obtain ⟨v,h1,e1,e2⟩:=yN hC hx;refine step hle ?_ e2;simp only [dE,vE,hg];exact aS hle e1
  | some p=>
   obtain ⟨j,want⟩:=p;simp only [hg] at hx
   cases hs:nG ops j with
   | none=>simp [hs] at hx
   | some d=>
    simp only [hs] at hx
    cases hv:fr.get d with
    | none=>simp [hv] at hx
    | some u=>
     cases u with
     | bool t=>
      simp only [hv] at hx;have hy:bG ops big j=some t:=vA5 hs (hle d _ hv)
      cases t with
      | true=>
       have hfix:=hle.fix hv
       cases want with
       | true=>
        simp only [cond_true] at hx;obtain ⟨v,h1,e1,e2⟩:=yN hC hx;refine step hfix ?_ e2;simp only [dE,vE,hg,hy,cond_true];exact aS hfix e1
       | false=>
        simp only [cond_true,cond_false] at hx;refine step hfix ?_ hx;simp only [dE,vE,hg,hy,cond_true]
      | false=>
       have hfix:=hle.fix hv
       cases want with
       | true=>
        simp only [cond_true,cond_false] at hx;refine step hfix ?_ hx;simp only [dE,vE,hg,hy,cond_false,Bool.not_true]
       | false=>
        simp only [cond_false] at hx;obtain ⟨v,h1,e1,e2⟩:=yN hC hx;refine step hfix ?_ e2;simp only [dE,vE,hg,hy,cond_false,Bool.not_false];exact aS hfix e1
     | tuple l=>
      cases l with
      | nil=>
       simp only [hv] at hx;refine step hle ?_ hx;have hy:bG ops big j=none:=by
        unfold nG at hs;unfold bG
        split at hs
        ·rename_i o2 ho2;simp only [ho2,hs,hle d _ hv]
        ·cases hs
       have hu:vQ ops big j=true:=by
        unfold nG at hs;unfold vQ
        split at hs
        ·rename_i o2 ho2;simp only [ho2,hs,hle d _ hv]
        ·cases hs
       simp only [dE,vE,hg,hy,hu,cond_true]
      | cons y r=>simp [hv] at hx
     | _=>simp [hv] at hx
@[simp] theorem wC (v:AV):aB (some v) v=true:=lK v
theorem wA5 {fr:Fr} {o:Op} {v:AV} {H h h':Heap} (hc:dB7 E fr o v H=true) (hx:eI E call fr o h=some (v,h')):∃ u h2,eI E call fr o H=some (u,h2)∧eqV u v=true:=by
 unfold dB7 at hc
 split at hc
 ·rename_i t a
  split at hc
  ·rename_i p hq
   have key:∀ {x:(Nat×Nat)→Option AV},(fF p fun q=>aB (x q) v)=true→∃ q u,p=some q∧x q=some u∧eqV u v=true:=by
    intro x hx
    cases p with
    | none=>simp [fF] at hx
    | some q=>
     simp only [fF] at hx
     cases hxq:x q with
     | none=>simp [aB,hxq] at hx
     | some u=>rw [hxq] at hx;exact ⟨q,u,rfl,hxq,hx⟩
   split at hc
   ·rename_i hagg
    split at hc
    ·rename_i n hn
     obtain ⟨q,u,rfl,h1,h2⟩:=key (x:=fun q=>H.cells q n) hc;obtain ⟨l,h6,h7⟩:=nW h1;exact ⟨u,H,by simp [eI,opA,op1,hq,mQ,hagg,hn,h6,h7,lD],h2⟩
    ·cases hc
   ·rename_i hagg
    obtain ⟨q,u,rfl,h1,h2⟩:=key (x:=fun q=>H.cell q) hc;exact ⟨u,H,by simp [eI,opA,op1,hq,mQ,hagg,pA1 h1,lD],h2⟩
   ·cases hc
  ·cases hc
 ·rename_i t x lo hi
  have hr:eqV v v=true:=lK v;have indep:∀ (y:AV),(∃ a l c s,y=.slice a l c s)∨(∃ s,y=.str s)→∀ (l u:Option AV),lE E H t y l u=lE E h t y l u:=by
   intro y hy l u;unfold lE;rcases hy with ⟨a,l',c,s,rfl⟩ | ⟨s,rfl⟩
   ·cases E.und t with
    | none=>rfl
    | some d=>cases a <;> cases d <;> rfl
   ·cases E.und t with
    | none=>rfl
    | some d=>cases d <;> rfl
  have fin:∀ y,uG fr x=some y→((∃ a l c s,y=.slice a l c s)∨(∃ s,y=.str s))→∃ u h2,eI E call fr (.slice t x lo hi none) H=some (u,h2)∧eqV u v=true:=by
   intro y hy hi2;simp only [eI,opA] at hx ⊢
   split at hx
   ·rename_i lo' hi' hl hh
    simp only [op1,hy] at hx ⊢;rw [indep y hi2]
    cases hs:lE E h t y lo' hi' with
    | none=>simp [hs,lD] at hx
    | some u=>
     simp only [hs,lD,Option.some.injEq,Prod.mk.injEq] at hx ⊢;obtain ⟨rfl,_⟩:=hx;exact ⟨_,_,⟨rfl,rfl⟩,hr⟩
   ·cases hx
  split at hc
  ·rename_i hy;exact fin _ hy (.inl ⟨_,_,_,_,rfl⟩)
  ·rename_i hy;exact fin _ hy (.inr ⟨_,rfl⟩)
  ·cases hc
 ·rename_i c
  have hr:eqV v v=true:=lK v;have fin:∀ y,c.callee=.builtin .len→vH fr c.args.toList=some [y]→((∃ a l c s,y=.slice a l c s)∨(∃ s,y=.str s))→∃ u h2,eI E call fr (.call c) H=some (u,h2)∧eqV u v=true:=by
   intro y hcal hy hi2;simp only [eI,eAo,hcal,hy] at hx ⊢;have hb:∀ (h:Heap),qG E .len c.argTypes.toList [y] h=(match c.argTypes.toList with | [t]=>lD h (lB7 E t y) | _=>none):=by
    intro h;rcases hi2 with ⟨_,_,_,_,rfl⟩ | ⟨_,rfl⟩ <;>
    ·match c.argTypes.toList with
     | []=>rfl
     | [t]=>rfl
     | _::_::_=>rfl
   rw [hb] at hx ⊢
   match ht:c.argTypes.toList with
   | []=>simp [ht] at hx
   | [t]=>
    simp only [ht] at hx ⊢
    cases hs:lB7 E t y with
    | none=>simp [hs,lD] at hx
    | some u=>
     simp only [hs,lD,Option.some.injEq,Prod.mk.injEq] at hx ⊢;obtain ⟨rfl,_⟩:=hx;exact ⟨_,_,⟨rfl,rfl⟩,hr⟩
   | _::_::_=>simp [ht] at hx
  split at hc
  ·rename_i h1 h2;exact fin _ h1 h2 (.inl ⟨_,_,_,_,rfl⟩)
  ·rename_i h1 h2;exact fin _ h1 h2 (.inr ⟨_,rfl⟩)
  ·cases hc
 ·cases hc
theorem tAb {nt:Nat} {ops:List Oper}:∀ {r:List Oper} {fr:Fr} {h:Heap} {recs:List (Fr×Heap×AV)} {fr':Fr} {h':Heap},pE E call nt ops r fr h=some (recs,fr',h')→bAe E call nt ops r fr h=some (fr',h')
 | [],fr,h,recs,fr',h',hx=>by
  simp only [pE,Option.some.injEq,Prod.mk.injEq] at hx;obtain ⟨_,rfl,rfl⟩:=hx;rfl
 | o::r,fr,h,recs,fr',h',hx=>by
  simp only [pE] at hx;simp only [bAe]
  cases hs:dE E call ops fr o h with
  | none=>simp [hs] at hx
  | some p=>
   obtain ⟨v,h1⟩:=p;simp only [hs] at hx ⊢
   cases ht:pE E call nt ops r (cT nt fr o.dst v) h1 with
   | none=>simp [ht] at hx
   | some q=>
    obtain ⟨l,fr2,h2⟩:=q;simp only [ht,Option.some.injEq,Prod.mk.injEq] at hx;obtain ⟨_,rfl,rfl⟩:=hx;exact tAb ht
theorem AR.le {μ:Mu} {nt:Nat} {a:Act} (h:AR μ nt big a) (hle:FrLe fr big):AR μ nt fr a:=⟨fun t v ht=>h.slot t v (hle t v ht),h.size,h.defers⟩
theorem oW {wn:Nat→Nat→Bool} {i:Nat} {fr:Fr} {o:Op} {v:AV} {z:Bool}:∀ {hs:List (Nat×Heap)},pAp E wn i fr o v z hs=true→(∀ k H,(k,H)∈hs→wn i k=true→dB7 E fr o v H=true)∧z=true
 | [],h=>⟨fun k H hH=>by simp at hH,h⟩
 | (k,H)::r,h=>by
  simp only [pAp] at h
  cases hw:wn i k with
  | false=>
   simp only [hw,cond_false] at h;obtain ⟨h1,h2⟩:=oW h;refine ⟨fun k' H' hH' hw'=>?_,h2⟩;rcases List.mem_cons.1 hH' with h3 | h3
   ·cases h3;rw [hw] at hw';cases hw'
   ·exact h1 k' H' h3 hw'
  | true=>
   simp only [hw,cond_true] at h
   cases hc:dB7 E fr o v H with
   | false=>simp [hc] at h
   | true=>
    simp only [hc,cond_true] at h;obtain ⟨h1,h2⟩:=oW h;refine ⟨fun k' H' hH' hw'=>?_,h2⟩;rcases List.mem_cons.1 hH' with h3 | h3
    ·cases h3;exact hc
    ·exact h1 k' H' h3 hw'
theorem bS {wn:Nat→Nat→Bool} {hs:List (Nat×Heap)}:∀ {rs:List (Nat×Fr×Op×AV)},wN E wn hs rs=true→∀ i fr o v,(i,fr,o,v)∈rs→∀ k H,(k,H)∈hs→wn i k=true→dB7 E fr o v H=true
 | [],_,i,fr,o,v,hm,_,_,_=>by simp at hm
 | (i',fr',o',v')::r,h,i,fr,o,v,hm,k,H,hH=>by
  simp only [wN] at h;obtain ⟨h1,h2⟩:=oW h;rcases List.mem_cons.1 hm with h3 | h3
  ·cases h3;exact h1 k H hH
  ·exact bS h2 i fr o v h3 k H hH
theorem nK {C:CallK} (hC:CallKOK P C) {nt:Nat} (hnt:nt≤1073741824) {ops:List Oper} {wn:Nat→Nat→Bool} {β:Type}:∀ {r:List Oper} {i:Nat} {fr big:Fr} {h:Heap} {rs:List (Nat×Fr×Op×AV)} {hs:List (Nat×Heap)} {k:Fr→Heap→Option β} {b:β},uH E C nt ops wn i r fr h rs hs k=some b→FrLe fr big→
  ∃ recs fr' big' h' R HS,pE E (wE C) nt ops r big h=some (recs,big',h')∧FrLe fr' big'∧k fr' h'=some b∧wN E wn HS R=true∧(∀ x∈rs,x∈R)∧(∀ H∈hs,H∈HS)∧(i+r.length,h')∈HS∧
   (∀ (j:Nat) (o:Oper) (f:Fr) (hh:Heap) (v:AV),r[j]? = some o→recs[j]? = some (f,hh,v)→bC o.op=2→(i+j,hh)∈HS)∧
   (∀ (j:Nat) (o:Oper) (f:Fr) (hh:Heap) (v:AV),r[j]? = some o→recs[j]? = some (f,hh,v)→bC o.op=1→∀ k H,(k,H)∈HS→wn (i+j) k=true→∃ u h2,dE E (wE C) ops f o H=some (u,h2)∧eqV u v=true)
 | [],i,fr,big,h,rs,hs,k,b,hx,hle=>by
  simp only [uH] at hx;obtain ⟨h1,h2⟩:=qJ hx;exact ⟨[],fr,big,h,rs,(i,h)::hs,rfl,hle,h2,h1,fun _ h=>h,fun _ h=>List.mem_cons_of_mem _ h,List.mem_cons_self,fun j o f hh v h=>by simp at h,fun j o f hh v h=>by simp at h⟩
 | o::r,i,fr,big,h,rs,hs,k,b,hx,hle=>by
  have step:∀ {fr1:Fr} {v:AV} {h1:Heap} {rs1:List (Nat×Fr×Op×AV)},FrLe fr1 big→dE E (wE C) ops big o h=some (v,h1)→(∀ x∈rs,x∈rs1)→
    (∀ (R:List (Nat×Fr×Op×AV)) (HS:List (Nat×Heap)),(∀ x∈rs1,x∈R)→wN E wn HS R=true→bC o.op=1→∀ k H,(k,H)∈HS→wn i k=true→∃ u h2,dE E (wE C) ops big o H=some (u,h2)∧eqV u v=true)→
    uH E C nt ops wn (i+1) r (cT nt fr1 o.dst v) h1 rs1 (rAi i o h hs) k=some b→
    ∃ recs fr' big' h' R HS,pE E (wE C) nt ops (o::r) big h=some (recs,big',h')∧FrLe fr' big'∧k fr' h'=some b∧wN E wn HS R=true∧(∀ x∈rs,x∈R)∧(∀ H∈hs,H∈HS)∧(i+(o::r).length,h')∈HS∧
   (∀ (j:Nat) (o2:Oper) (f:Fr) (hh:Heap) (v:AV),(o::r)[j]? = some o2→recs[j]? = some (f,hh,v)→bC o2.op=2→(i+j,hh)∈HS)∧
   (∀ (j:Nat) (o2:Oper) (f:Fr) (hh:Heap) (v:AV),(o::r)[j]? = some o2→recs[j]? = some (f,hh,v)→bC o2.op=1→∀ k H,(k,H)∈HS→wn (i+j) k=true→∃ u h2,dE E (wE C) ops f o2 H=some (u,h2)∧eqV u v=true):=by
   intro fr1 v h1 rs1 hle1 hs0 hrs hchk he;obtain ⟨recs,fr',big',h',R,HS,e1,e2,e3,e4,e5,e6,eh,e7,e8⟩:=nK hC hnt he (hle1.put hnt o.dst v);have hin:∀ H∈hs,H∈HS:=fun H hH=>e6 H (by
    unfold rAi;cases Nat.beq (bC o.op) 2
    ·exact hH
    ·exact List.mem_cons_of_mem _ hH)
   refine ⟨(big,h,v)::recs,fr',big',h',R,HS,by simp only [pE,hs0,e1],e2,e3,e4,fun x hx=>e5 x (hrs x hx),hin,?_,?_,?_⟩
   ·rw [List.length_cons,show i+(r.length+1)=i+1+r.length from by omega];exact eh
   ·intro j o' f hh v' hj hrec hk
    cases j with
    | zero=>
     simp at hj hrec;subst hj;obtain ⟨rfl,rfl,rfl⟩:=hrec;exact e6 _ (by unfold rAi;rw [hk];exact List.mem_cons_self)
    | succ j=>
     rw [show i+(j+1)=i+1+j from by omega];exact e7 j o' f hh v' (by simpa using hj) (by simpa using hrec) hk
   ·intro j o' f hh v' hj hrec hk k' H hH hw
    cases j with
    | zero=>
     simp at hj hrec;subst hj;obtain ⟨rfl,rfl,rfl⟩:=hrec;exact hchk R HS e5 e4 hk k' H hH hw
    | succ j=>
     rw [show i+(j+1)=i+1+j from by omega] at hw;exact e8 j o' f hh v' (by simpa using hj) (by simpa using hrec) hk k' H hH hw
  have run:∀ {fr1:Fr},FrLe fr1 big→vE ops big o=some true→(fAv E C fr1 o.op (qAb E o) h fun v h'=>uH E C nt ops wn (i+1) r (cT nt fr1 o.dst v) h' (gAv i o fr1 v rs) (rAi i o h hs) k)=some b→
    ∃ recs fr' big' h' R HS,pE E (wE C) nt ops (o::r) big h=some (recs,big',h')∧FrLe fr' big'∧k fr' h'=some b∧wN E wn HS R=true∧(∀ x∈rs,x∈R)∧(∀ H∈hs,H∈HS)∧(i+(o::r).length,h')∈HS∧
   (∀ (j:Nat) (o2:Oper) (f:Fr) (hh:Heap) (v:AV),(o::r)[j]? = some o2→recs[j]? = some (f,hh,v)→bC o2.op=2→(i+j,hh)∈HS)∧
   (∀ (j:Nat) (o2:Oper) (f:Fr) (hh:Heap) (v:AV),(o::r)[j]? = some o2→recs[j]? = some (f,hh,v)→bC o2.op=1→∀ k H,(k,H)∈HS→wn (i+j) k=true→∃ u h2,dE E (wE C) ops f o2 H=some (u,h2)∧eqV u v=true):=by
   intro fr1 hle1 hw hx1;obtain ⟨v,h1,e1,e2⟩:=yN hC hx1;refine step hle1 (v:=v) (rs1:=gAv i o fr1 v rs) ?_ ?_ ?_ e2
   ·simp only [dE,hw];exact aS hle1 e1
   ·intro x hx
    unfold gAv;cases Nat.beq (bC o.op) 1
    ·exact hx
    ·exact List.mem_cons_of_mem _ hx
   ·intro R HS hR hcall hk k' H hH hwn
    have hm:(i,fr1,o.op,v)∈R:=hR _ (by unfold gAv;rw [hk];exact List.mem_cons_self);have hc:=bS hcall _ _ _ _ hm k' H hH hwn;obtain ⟨u,h2,e3,e4⟩:=wA5 hc e1;exact ⟨u,h2,by simp only [dE,hw];exact aS hle1 e3,e4⟩
  have skip:∀ {fr1:Fr},FrLe fr1 big→vE ops big o=some false→uH E C nt ops wn (i+1) r (cT nt fr1 o.dst undefA) h rs (rAi i o h hs) k=some b→
    ∃ recs fr' big' h' R HS,pE E (wE C) nt ops (o::r) big h=some (recs,big',h')∧FrLe fr' big'∧k fr' h'=some b∧wN E wn HS R=true∧(∀ x∈rs,x∈R)∧(∀ H∈hs,H∈HS)∧(i+(o::r).length,h')∈HS∧
   (∀ (j:Nat) (o2:Oper) (f:Fr) (hh:Heap) (v:AV),(o::r)[j]? = some o2→recs[j]? = some (f,hh,v)→bC o2.op=2→(i+j,hh)∈HS)∧
   (∀ (j:Nat) (o2:Oper) (f:Fr) (hh:Heap) (v:AV),(o::r)[j]? = some o2→recs[j]? = some (f,hh,v)→bC o2.op=1→∀ k H,(k,H)∈HS→wn (i+j) k=true→∃ u h2,dE E (wE C) ops f o2 H=some (u,h2)∧eqV u v=true):=by
   intro fr1 hle1 hw hx1;refine step hle1 (v:=undefA) (rs1:=rs) (by simp only [dE,hw]) (fun _ h=>h) ?_ hx1;intro R HS _ _ _ _ H _ _;exact ⟨undefA,H,by simp only [dE,hw],lK _⟩
  simp only [uH] at hx
  cases hg:o.guard with
  | none=>
   simp only [hg] at hx;exact run hle (by simp only [vE,hg]) hx
  | some p=>
   obtain ⟨j,want⟩:=p;simp only [hg] at hx
   cases hs1:nG ops j with
   | none=>simp [hs1] at hx
   | some d=>
    simp only [hs1] at hx
    cases hv:fr.get d with
    | none=>simp [hv] at hx
    | some u=>
     cases u with
     | bool t=>
      simp only [hv] at hx;have hy:bG ops big j=some t:=vA5 hs1 (hle d _ hv);have hfix:=hle.fix hv
      cases t with
      | true=>
       cases want with
       | true=>
        simp only [cond_true] at hx;exact run hfix (by simp only [vE,hg,hy,cond_true]) hx
       | false=>
        simp only [cond_true,cond_false] at hx;exact skip hfix (by simp only [vE,hg,hy,cond_true]) hx
      | false=>
       cases want with
       | true=>
        simp only [cond_true,cond_false] at hx;exact skip hfix (by simp only [vE,hg,hy,cond_false,Bool.not_true]) hx
       | false=>
        simp only [cond_false] at hx;exact run hfix (by simp only [vE,hg,hy,cond_false,Bool.not_false]) hx
     | tuple l=>
      cases l with
      | nil=>
       simp only [hv] at hx;have hy:bG ops big j=none:=by
        unfold nG at hs1;unfold bG
        split at hs1
        ·rename_i o2 ho2;simp only [ho2,hs1,hle d _ hv]
        ·cases hs1
       have hu:vQ ops big j=true:=by
        unfold nG at hs1;unfold vQ
        split at hs1
        ·rename_i o2 ho2;simp only [ho2,hs1,hle d _ hv]
        ·cases hs1
       exact skip hle (by simp only [vE,hg,hy,hu,cond_true]) hx
      | cons y r=>simp [hv] at hx
     | _=>simp [hv] at hx
theorem lB1 {nt:Nat} {call:CallF} {ops r:List Oper} {fr:Fr} {h:Heap} {recs:List (Fr×Heap×AV)} {fr':Fr} {h':Heap} (ht:pE E call nt ops r fr h=some (recs,fr',h')):kX r.length recs h' 0=h:=by
 cases r with
 | nil=>simp only [pE,Option.some.injEq,Prod.mk.injEq] at ht;exact ht.2.2.symm
 | cons o r=>
  simp only [pE] at ht
  split at ht
  ·split at ht
   ·simp only [Option.some.injEq,Prod.mk.injEq] at ht
    rw [← ht.1];rfl
   ·cases ht
  ·cases ht
theorem vAe {n:Nat} {x:Fr×Heap×AV} {recs:List (Fr×Heap×AV)} {h':Heap} (j:Nat):kX (n+1) (x::recs) h' (j+1)=kX n recs h' j:=by
 have:Nat.blt (j+1) (n+1)=Nat.blt j n:=rfl
 simp only [kX,this,List.getElem?_cons_succ]
theorem aY {C:CallK} (hC:CallKOK P C) {nt:Nat} (hnt:nt≤1073741824) {ops:List Oper} {β:Type}:∀ {r:List Oper} {i:Nat} {fr big:Fr} {h:Heap} {rs:List (Nat×Fr×Op×AV)} {hs:List (Nat×Heap)} {L0:List (Nat×Heap×Heap)} {k:Fr→Heap→Option β} {b:β},qA5 E C nt ops i r fr h rs hs L0 k=some b→FrLe fr big→
  ∃ recs fr' big' h' R HS L,pE E (wE C) nt ops r big h=some (recs,big',h')∧FrLe fr' big'∧k fr' h'=some b∧wN E (fun _ _=>true) HS R=true∧gB1 ops (qC ops []) L=true∧(∀ x∈rs,x∈R)∧(∀ H∈hs,H∈HS)∧(∀ x∈L0,x∈L)∧(i+r.length,h')∈HS∧
   (∀ (j:Nat) (o:Oper) (f:Fr) (hh:Heap) (v:AV),r[j]? = some o→recs[j]? = some (f,hh,v)→bC o.op=2→(i+j,hh)∈HS)∧
   (∀ (j:Nat) (o:Oper) (f:Fr) (hh:Heap) (v:AV),r[j]? = some o→recs[j]? = some (f,hh,v)→bC o.op=1→∀ k H,(k,H)∈HS→∃ u h2,dE E (wE C) ops f o H=some (u,h2)∧eqV u v=true)∧
   (∀ (j:Nat) (o:Oper),r[j]? = some o→bC o.op=2→(i+j,kX r.length recs h' j,kX r.length recs h' (j+1))∈L)
 | [],i,fr,big,h,rs,hs,L0,k,b,hx,hle=>by
  simp only [qA5] at hx;obtain ⟨h1,h2⟩:=qJ hx;obtain ⟨h3,h4⟩:=qJ h2;exact ⟨[],fr,big,h,rs,(i,h)::hs,L0,rfl,hle,h4,h1,h3,fun _ h=>h,fun _ h=>List.mem_cons_of_mem _ h,fun _ h=>h,List.mem_cons_self,fun j o f hh v h=>by simp at h,fun j o f hh v h=>by simp at h,fun j o h=>by simp at h⟩
 | o::r,i,fr,big,h,rs,hs,L0,k,b,hx,hle=>by
  simp only [qA5] at hx
  cases hg:o.guard with
  | some p=>simp [hg] at hx
  | none=>
   simp only [hg] at hx;have hw:vE ops big o=some true:=by simp only [vE,hg]
   obtain ⟨v,h1,o1,o2⟩:=yN hC hx;have hs0:dE E (wE C) ops big o h=some (v,h1):=by simp only [dE,hw];exact aS hle o1
   obtain ⟨recs,fr',big',h',R,HS,L,e1,e2,e3,e4,e4',e5,e6,e6',eh,e7,e8,e9⟩:=aY hC hnt o2 (hle.put hnt o.dst v);refine ⟨(big,h,v)::recs,fr',big',h',R,HS,L,by simp only [pE,hs0,e1],e2,e3,e4,e4',fun x hx=>e5 x ?_,fun H hH=>e6 H ?_,fun x hx=>e6' x ?_,?_,?_,?_,?_⟩
   ·unfold gAv
    cases Nat.beq (bC o.op) 1
    ·exact hx
    ·exact List.mem_cons_of_mem _ hx
   ·unfold rAi
    cases Nat.beq (bC o.op) 2
    ·exact hH
    ·exact List.mem_cons_of_mem _ hH
   ·unfold yBf
    cases Nat.beq (bC o.op) 2
    ·exact hx
    ·exact List.mem_cons_of_mem _ hx
   ·rw [List.length_cons,show i+(r.length+1)=i+1+r.length from by omega];exact eh
   ·intro j o' f hh v' hj hrec hk
    cases j with
    | zero=>
     simp at hj hrec;subst hj;obtain ⟨rfl,rfl,rfl⟩:=hrec;exact e6 _ (by unfold rAi;rw [hk];exact List.mem_cons_self)
    | succ j=>
     rw [show i+(j+1)=i+1+j from by omega];exact e7 j o' f hh v' (by simpa using hj) (by simpa using hrec) hk
   ·intro j o' f hh v' hj hrec hk k' H hH
    cases j with
    | zero=>
     simp at hj hrec;subst hj;obtain ⟨rfl,rfl,rfl⟩:=hrec;have hm:(i,fr,o.op,v)∈R:=e5 _ (by unfold gAv;rw [hk];exact List.mem_cons_self);have hc:=bS e4 _ _ _ _ hm k' H hH rfl;obtain ⟨u,h2,e3,e4⟩:=wA5 hc o1;exact ⟨u,h2,by simp only [dE,hw];exact aS hle e3,e4⟩
    | succ j=>exact e8 j o' f hh v' (by simpa using hj) (by simpa using hrec) hk k' H hH
   ·intro j o' hj hk
    cases j with
    | zero=>
     simp at hj;subst hj
     have:=e6' (i,h,h1) (by unfold yBf;rw [hk];exact List.mem_cons_self)
     rw [List.length_cons,vAe,lB1 e1];exact this
    | succ j=>
     rw [show i+(j+1)=i+1+j from by omega,List.length_cons,vAe,vAe];exact e9 j o' (by simpa using hj) hk
theorem jAw {nt:Nat} {call:CallF} {ops:List Oper} {fr fr':Fr} {h h':Heap} {recs:List (Fr×Heap×AV)} {L:List (Nat×Heap×Heap)} (ht:pE E call nt ops ops fr h=some (recs,fr',h')) (hL:gB1 ops (qC ops []) L=true)
  (hm:∀ (j:Nat) (o:Oper),ops[j]? = some o→bC o.op=2→(0+j,kX ops.length recs h' j,kX ops.length recs h' (j+1))∈L):aB8 ops recs h':=by
 intro x m ox om b hxm hxp hx1 hx2 hm1 hm2 hb;obtain ⟨F,H,V,f0,g0,fn,gn,hstep,hrec⟩:=gJ ht;have hat:∀ k,k≤ops.length→kX ops.length recs h' k=H k:=by
  intro k hk;unfold kX
  by_cases hlt:k<ops.length
  ·rw [show Nat.blt k ops.length=true by simpa [Nat.blt_eq] using hlt,cond_true,hrec k hlt]
  ·have:k=ops.length:=by omega
   subst this;have hq:Nat.blt ops.length ops.length=false:=by
    cases hq:Nat.blt ops.length ops.length with
    | false=>rfl
    | true=>rw [Nat.blt_eq] at hq;omega
   rw [hq,cond_false,gn]
 have hxl:=(List.getElem?_eq_some_iff.1 hx1).1;have hk:bC ox.op=2:=by
  rcases Nat.lt_or_ge (bC ox.op) 2 with h7 | h7
  ·exfalso
   have h8:=fI (by omega) (hstep x ox hx1).1;rw [hat x (by omega),hat (x+1) (by omega),h8] at hb;have h9:=congrArg Heap.next hb;exact absurd h9 (Nat.ne_of_lt (Nat.lt_succ_self _))
  ·have:=pP ox.op;omega
 have h1:=List.all_eq_true.1 hL _ (hm m om hm1 (gI hm2).1);rw [Nat.zero_add] at h1;have e1:lAa ops m=true:=by simp only [lAa,hm1,hm2]
 simp only [e1,cond_true] at h1;have h2:=List.all_eq_true.1 h1 _ (hm x ox hx1 hk);rw [Nat.zero_add] at h2;have e2:lAa ops x=false:=by simp only [lAa,hx1,hx2]
 have e3:Nat.blt x m=true:=by simpa [Nat.blt_eq] using hxm
 have e4:iP x (((qC ops [])[m]?).getD [])=false:=by
  cases hq:iP x (((qC ops [])[m]?).getD []) with
  | false=>rfl
  | true=>exact absurd (kD.1 hq) hxp
 simp only [e2,e3,e4,Bool.not_true,Bool.or_false,cond_false] at h2;exact gAw h2
def mB1 {β:Type} (nt:Nat) (fr:Fr) (h:Heap) (k:Out→Fr→Heap→Option β) (b:β) (K:(Exit→Act→World→Prop)→Act→World→Prop):Prop:=
 ∀ (μ:Mu) (w:World) (a:Act) (Q:Exit→Act→World→Prop),HR μ h w→AR μ nt fr a→
  (∀ o fr' h' μ' a' w',AR μ' nt fr' a'→HR μ' h' w'→Ext μ h w μ' h' w'→k o fr' h'=some b→Q (vT o) a' w')→K Q a w
theorem qAl (ok:EnvOK E P) (hm:P.follows .mixedOrders=true) {C:CallK} (hC:CallKOK P C) {nt:Nat} (hnt:nt≤1073741824) {β:Type} {id:Nat} {ops:Array Oper} {draw:Bool} {fr:Fr} {h:Heap} {k:Out→Fr→Heap→Option β} {b:β}
  (hx:(bif draw&&!jAi ops.toList then (bif jA0 ops.toList then uH E C nt ops.toList (mB7 ops.toList (qC ops.toList [])) 0 ops.toList fr h [] [] fun fr' h'=>k .norm fr' h' else bif kAi ops.toList then uH E C nt ops.toList (fun _ _=>true) 0 ops.toList fr h [] [] fun fr' h'=>k .norm fr' h' else bif lAi ops.toList then uH E C nt ops.toList (fun _ _=>true) 0 ops.toList fr h [] [] fun fr' h'=>k .norm fr' h' else bif pAi ops.toList then qA5 E C nt (yH (wX ops.toList) ops.toList) 0 (yH (wX ops.toList) ops.toList) fr h [] [] [] fun fr' h'=>k .norm fr' h' else none) else vN E C nt ops.toList ops.toList fr h fun fr' h'=>k .norm fr' h')=some b):mB1 nt fr h k b (fun Q a w=>(Code.region id ops draw).wp P Q a w):=by
 intro μ w a Q hr ha hq
 cases hd:(draw&&!jAi ops.toList) with
 | true=>
  simp only [hd,cond_true] at hx
  cases hob:jA0 ops.toList with
  | false=>
   simp only [hob,cond_false] at hx
   cases hop:kAi ops.toList with
   | false=>
    simp only [hop,cond_false] at hx
    cases hor:lAi ops.toList with
    | false=>
     simp only [hor,cond_false] at hx
     cases hof:pAi ops.toList with
     | false=>simp [hof] at hx
     | true=>
      simp only [hof,cond_true] at hx;obtain ⟨recs,fr',big',h',R,HS,L,e1,e2,e3,e4,e6,_,_,_,eh,e7,e8,e9⟩:=aY hC hnt hx (FrLe.refl fr);have hend:∀ μ' a' w',AR μ' nt big' a'→HR μ' h' w'→Ext μ h w μ' h' w'→Q .normal a' w':=fun μ' a' w' ha' hr' hext=>hq .norm fr' h' μ' a' w' (ha'.le e2) hr' hext e3;have hdr:draw=true:=by cases draw with
       | true=>rfl
       | false=>simp at hd
      subst hdr;simp only [pAi,Bool.and_eq_true] at hof;refine cB1 hm hof.1 ?_;refine pA7 (ops:=(yH (wX ops.toList) ops.toList).toArray) (recs:=recs) (fr':=big') (h':=h') ok hC.ok (by simpa using e1) (by simpa using hof.2) ?_ (by simpa using jAw e1 e6 e9) hr ha hend;intro i o f hh v hi hrec hk k Hk hstage;have hi':(yH (wX ops.toList) ops.toList)[i]? = some o:=by simpa using hi
      have hHS:∃ k,(k,Hk)∈HS:=by
       rcases hstage with ⟨o',f',v',h1,h2,h3⟩ | ⟨_,rfl⟩
       ·exact ⟨_,e7 k o' f' Hk v' (by simpa using h1) h3 (gI h2).1⟩
       ·exact ⟨_,eh⟩
      obtain ⟨k',hk'⟩:=hHS
      have:=e8 i o f hh v hi' hrec hk k' Hk hk'
      simpa using this
    | true=>
     simp only [hor,cond_true] at hx;obtain ⟨recs,fr',big',h',R,HS,e1,e2,e3,_,_,_,eh,e7,e8⟩:=nK hC hnt hx (FrLe.refl fr);have hend:∀ μ' a' w',AR μ' nt big' a'→HR μ' h' w'→Ext μ h w μ' h' w'→Q .normal a' w':=fun μ' a' w' ha' hr' hext=>hq .norm fr' h' μ' a' w' (ha'.le e2) hr' hext e3;have hdr:draw=true:=by cases draw with
      | true=>rfl
      | false=>simp at hd
     subst hdr;refine cAw ok hm hC.ok (fr':=big') (h':=h') e1 hor ?_ hr ha hend;intro i o f hh v hi hrec hk k Hk hstage;rw [Nat.zero_add] at eh;have hHS:(k,Hk)∈HS:=by
      rcases hstage with ⟨o',f',v',h1,h2,h3⟩ | ⟨rfl,rfl⟩
      ·have:=e7 k o' f' Hk v' h1 h3 (gI h2).1
       rwa [Nat.zero_add] at this
      ·exact eh
     exact e8 i o f hh v hi hrec hk k Hk hHS rfl
   | true=>
    simp only [hop,cond_true] at hx;obtain ⟨recs,fr',big',h',R,HS,e1,e2,e3,_,_,_,eh,e7,e8⟩:=nK hC hnt hx (FrLe.refl fr);have hend:∀ μ' a' w',AR μ' nt big' a'→HR μ' h' w'→Ext μ h w μ' h' w'→Q .normal a' w':=fun μ' a' w' ha' hr' hext=>hq .norm fr' h' μ' a' w' (ha'.le e2) hr' hext e3;have hdr:draw=true:=by cases draw with
     | true=>rfl
     | false=>simp at hd
    subst hdr;refine dAw ok hm hC.ok (fr':=big') (h':=h') e1 hop ?_ hr ha hend;intro i o f hh v hi hrec hk;rw [Nat.zero_add] at eh;exact e8 i o f hh v hi hrec hk _ _ eh rfl
  | true=>
   simp only [hob,cond_true] at hx;obtain ⟨recs,fr',big',h',R,HS,e1,e2,e3,_,_,_,eh,e7,e8⟩:=nK hC hnt hx (FrLe.refl fr);have hend:∀ μ' a' w',AR μ' nt big' a'→HR μ' h' w'→Ext μ h w μ' h' w'→Q .normal a' w':=fun μ' a' w' ha' hr' hext=>hq .norm fr' h' μ' a' w' (ha'.le e2) hr' hext e3;have hdr:draw=true:=by cases draw with
    | true=>rfl
    | false=>simp at hd
   subst hdr;refine iAi ok hm hC.ok (fr':=big') (h':=h') e1 hob ?_ hr ha hend;intro i o f hh v hi hrec hk k Hk hstage hwin;have hHS:(k,Hk)∈HS:=by
    rcases hstage with ⟨o',f',v',h1,h2,h3⟩ | ⟨rfl,rfl⟩
    ·have:=e7 k o' f' Hk v' h1 h3 h2
     rwa [Nat.zero_add] at this
    ·rwa [Nat.zero_add] at eh
   have hw:mB7 ops.toList (qC ops.toList []) i k=true:=by
    unfold mB7;simp only [Bool.and_eq_true];refine ⟨mW.2 fun j hj o' ho' hk'=>(hwin j o' ho' hk').1 hj,kA5 fun j ps hj o' ho' hk' hi'=>?_⟩;rw [Nat.zero_add] at ho' ⊢;exact (hwin j o' ho' hk').2 (by rw [hj];exact hi')
   have:=e8 i o f hh v hi hrec hk k Hk hHS
   rw [Nat.zero_add] at this;exact this hw
 | false=>
  simp only [hd,cond_false] at hx;obtain ⟨recs,fr',big',h',e1,e2,e3⟩:=yX hC hnt hx (FrLe.refl fr);have hend:∀ μ' a' w',AR μ' nt big' a'→HR μ' h' w'→Ext μ h w μ' h' w'→Q .normal a' w':=fun μ' a' w' ha' hr' hext=>hq .norm fr' h' μ' a' w' (ha'.le e2) hr' hext e3
  cases draw with
  | true=>
   simp only [Bool.true_and,Bool.not_eq_false'] at hd;exact aAw ok hm hC.ok e1 hd hr ha hend
  | false=>
   refine wp_region ?_;rw [List.range_eq_range'];exact yAv ok hC.ok ops.size 0 μ h w fr a big' h' (by omega) (by simpa using tAb e1) hr ha hend
theorem kAw (ok:EnvOK E P) (hm:P.follows .mixedOrders=true) {C:CallK} (hC:CallKOK P C) {nt:Nat} (hnt:nt≤1073741824) {β:Type}:∀ (c:Code) {fr:Fr} {h:Heap} {k:Out→Fr→Heap→Option β} {b:β},
  oAl E C nt c fr h k=some b→mB1 nt fr h k b (fun Q a w=>c.wp P Q a w):=by
 intro c
 induction c with
 | skip=>intro fr h k b hx μ w a Q hr ha hq;exact wp_skip (hq .norm fr h μ a w ha hr (Ext.refl μ h w) hx)
 | region id ops draw=>intro fr h k b hx;exact qAl ok hm hC hnt hx
 | seq x y ihx ihy=>
  intro fr h k b hx μ w a Q hr ha hq;refine wp_seq (ihx hx μ w a _ hr ha ?_)
  intro o fr' h' μ' a' w' ha' hr' hext hk
  cases o with
  | norm=>exact ihy hk μ' w' a' Q hr' ha' fun o2 fr2 h2 μ2 a2 w2 ha2 hr2 hext2 hk2=>hq o2 fr2 h2 μ2 a2 w2 ha2 hr2 (Ext.trans hr hext hext2) hk2
  | exit id=>exact hq _ fr' h' μ' a' w' ha' hr' hext hk
  | ret=>exact hq _ fr' h' μ' a' w' ha' hr' hext hk
 | cond c x y ihx ihy=>
  intro fr h k b hx μ w a Q hr ha hq;simp only [oAl] at hx
  split at hx
  ·rename_i t hb
   have hv:=bB ha hb;simp only [VR] at hv;refine wp_cond hv ?_
   cases t with
   | true=>simp only [cond_true] at hx;exact ihx hx μ w a Q hr ha hq
   | false=>simp only [cond_false] at hx;exact ihy hx μ w a Q hr ha hq
  ·simp at hx
 | block id c ih=>
  intro fr h k b hx μ w a Q hr ha hq;refine wp_block (ih hx μ w a _ hr ha ?_)
  intro o fr' h' μ' a' w' ha' hr' hext hk
  cases o with
  | norm=>exact hq .norm fr' h' μ' a' w' ha' hr' hext hk
  | exit id'=>
   simp only at hk
   cases hb:Nat.beq id' id with
   | true=>
    simp only [hb,cond_true] at hk
    have:id'=id:=Nat.eq_of_beq_eq_true hb
    simp only [vT,Exit.inBlock,this,if_true];exact hq .norm fr' h' μ' a' w' ha' hr' hext hk
   | false=>
    simp only [hb,cond_false] at hk
    have:id'≠id:=fun e=>by rw [bt e] at hb;cases hb
    simp only [vT,Exit.inBlock,this,if_false];exact hq (.exit id') fr' h' μ' a' w' ha' hr' hext hk
  | ret=>exact hq .ret fr' h' μ' a' w' ha' hr' hext hk
 | exit id=>intro fr h k b hx μ w a Q hr ha hq;exact wp_exit (hq (.exit id) fr h μ a w ha hr (Ext.refl μ h w) hx)
 | ret=>intro fr h k b hx μ w a Q hr ha hq;exact wp_ret (hq .ret fr h μ a w ha hr (Ext.refl μ h w) hx)
 | scope c ih=>
  intro fr h k b hx μ w a Q hr ha hq;refine wp_scope_straight (ih hx μ w a _ hr ha ?_)
  intro o fr' h' μ' a' w' ha' hr' hext hk
  have:=hq o fr' h' μ' a' w' ha' hr' hext hk
  cases o <;> exact this
 | label l=>intro fr h k b hx μ w a Q hr ha hq;exact wp_label (hq .norm fr h μ a w ha hr (Ext.refl μ h w) hx)
 | loop=>intro fr h k b hx;simp [oAl] at hx
 | rangeFunc=>intro fr h k b hx;simp [oAl] at hx
 | goto=>intro fr h k b hx;simp [oAl] at hx
 | refuse=>intro fr h k b hx;simp [oAl] at hx
end
end Ai
namespace Ai
section
variable {E:Env} {P:Program}
theorem uAb {β:Type}:∀ {os:List (Out×List (Nat×VTy))} {o:Out} {fr:Fr} {h:Heap} {K:cBf os→Option β} {b:β},dBf os o fr h K=some b→
  ∃ j,K j=some b∧∀ {γ:Type} (K2:Out→Fr→Heap→Option γ) (c:γ),jB1 os j K2=some c→∃ fr2,FrLe fr2 fr∧K2 o fr2 h=some c
 | [],o,fr,h,K,b,hx=>by cases hx
 | p::r,o,fr,h,K,b,hx=>by
  simp only [dBf] at hx
  cases he:gE o p.1 with
  | true=>
   simp only [he,cond_true] at hx;obtain ⟨xs,h1,h2⟩:=jL hx;refine ⟨_,h2,fun K2 c hc=>⟨frL p.2 xs,h1,?_⟩⟩;rw [tA7 he];exact hc
  | false=>
   simp only [he,cond_false] at hx;obtain ⟨j,h1,h2⟩:=uAb hx;exact ⟨_,h1,fun K2 c hc=>h2 K2 c hc⟩
def oZ (E:Env) (C:CallK) (N nt:Nat) (li:List (Nat×VTy)) (outs:List Out) (lo:List (Nat×VTy)) (x:Ann) (c:Code) (go:lH (li.map (·.2))→Heap→Option (Out×lH (lo.map (·.2))×Heap)) (vs:lH (li.map (·.2))) (h:Heap):Option (Out×lH (lo.map (·.2))×Heap):=
 uAd E C N nt x c (frL li vs) h fun o fr' h'=>match o with
    | .norm=>qAp li fr' fun ws=>go ws h'
    | o=>bif mA1 outs o then qAp lo fr' fun us=>some (o,us,h') else none
theorem lAw (ok:EnvOK E P) (hm:P.follows .mixedOrders=true) {C:CallK} (hC:CallKOK P C) {N nt:Nat} (hnt:nt≤1073741824):∀ (x:Ann) (c:Code) {β:Type} {fr:Fr} {h:Heap} {k:Out→Fr→Heap→Option β} {b:β},
  uAd E C N nt x c fr h k=some b→mB1 nt fr h k b (fun Q a w=>c.wp P Q a w):=by
 intro x
 induction x with
 | n=>intro c β fr h k b hx;exact kAw ok hm hC hnt c hx
 | two x y ihx ihy=>
  intro c β fr h k b hx μ w a Q hr ha hq;simp only [uAd] at hx
  split at hx
  ·refine wp_seq (ihx _ hx μ w a _ hr ha ?_)
   intro o fr' h' μ' a' w' ha' hr' hext hk
   cases o with
   | norm=>exact ihy _ hk μ' w' a' Q hr' ha' fun o2 fr2 h2 μ2 a2 w2 ha2 hr2 hext2 hk2=>hq o2 fr2 h2 μ2 a2 w2 ha2 hr2 (Ext.trans hr hext hext2) hk2
   | exit id=>exact hq _ fr' h' μ' a' w' ha' hr' hext hk
   | ret=>exact hq _ fr' h' μ' a' w' ha' hr' hext hk
  ·split at hx
   ·rename_i t hb
    have hv:=bB ha hb;simp only [VR] at hv;refine wp_cond hv ?_
    cases t with
    | true=>simp only [cond_true] at hx;exact ihx _ hx μ w a Q hr ha hq
    | false=>simp only [cond_false] at hx;exact ihy _ hx μ w a Q hr ha hq
   ·simp at hx
  ·rename_i id c
   refine wp_block (ihx _ hx μ w a _ hr ha ?_)
   intro o fr' h' μ' a' w' ha' hr' hext hk
   cases o with
   | norm=>exact hq .norm fr' h' μ' a' w' ha' hr' hext hk
   | exit id'=>
    simp only at hk
    cases hb:Nat.beq id' id with
    | true=>
     simp only [hb,cond_true] at hk
     have:id'=id:=Nat.eq_of_beq_eq_true hb
     simp only [vT,Exit.inBlock,this,if_true];exact hq .norm fr' h' μ' a' w' ha' hr' hext hk
    | false=>
     simp only [hb,cond_false] at hk
     have:id'≠id:=fun e=>by rw [bt e] at hb;cases hb
     simp only [vT,Exit.inBlock,this,if_false];exact hq (.exit id') fr' h' μ' a' w' ha' hr' hext hk
   | ret=>exact hq .ret fr' h' μ' a' w' ha' hr' hext hk
  ·rename_i c
   refine wp_scope_straight (ihx _ hx μ w a _ hr ha ?_)
   intro o fr' h' μ' a' w' ha' hr' hext hk
   have:=hq o fr' h' μ' a' w' ha' hr' hext hk
   cases o <;> exact this
  ·cases hx
 | join live x ih=>
  intro c β fr h k b hx μ w a Q hr ha hq;simp only [uAd] at hx;obtain ⟨us,h1,e1,e2⟩:=cI hx;refine ih _ e1 μ w a Q hr ha ?_;intro o fr' h' μ' a' w' ha' hr' hext hk
  cases o with
  | norm=>
   obtain ⟨xs,e3,e4⟩:=jL hk;simp only [Option.some.injEq,Prod.mk.injEq] at e4;obtain ⟨rfl,rfl⟩:=e4;exact hq .norm _ h' μ' a' w' (ha'.le e3) hr' hext e2
  | exit id=>simp at hk
  | ret=>simp at hk
 | joinO os x ih=>
  intro c β fr h k b hx μ w a Q hr ha hq;simp only [uAd] at hx;obtain ⟨j,e1,e2⟩:=oG hx;refine ih _ e1 μ w a Q hr ha ?_;intro o1 fr' h' μ' a' w' ha' hr' hext hk;obtain ⟨j',e3,e4⟩:=uAb hk;cases e3;obtain ⟨fr2,e5,e6⟩:=e4 _ _ e2;exact hq _ _ h' μ' a' w' (ha'.le e5) hr' hext e6
 | loop li outs lo x ih=>
  intro c β fr h k b hx μ w a Q hr ha hq;simp only [uAd] at hx
  split at hx
  ·rename_i c
   obtain ⟨vs,e0,hx⟩:=jL hx;obtain ⟨o,us,h1,e1,e2⟩:=pAl hx;have rounds:∀ (M:Nat) (vs:lH (li.map (·.2))) (h0:Heap),iter (oZ E C N nt li outs lo x c) M vs h0=some (o,us,h1)→
     ∀ (μ:Mu) (w:World) (a:Act) (Q:Exit→Act→World→Prop),HR μ h0 w→AR μ nt (frL li vs) a→
      (∀ μ' a' w',o∈outs→AR μ' nt (frL lo us) a'→HR μ' h1 w'→Ext μ h0 w μ' h1 w'→Q (vT o) a' w')→Code.rounds P c Q M a w:=by
    intro M
    induction M with
    | zero=>intro vs h0 he;cases he
    | succ M ihM=>
     intro vs h0 he;have he':oZ E C N nt li outs lo x c (iter (oZ E C N nt li outs lo x c) M) vs h0=some (o,us,h1):=he;unfold oZ at he';have hrun:=ih c he';intro μ w a Q hr ha hq;rw [rounds_succ];refine hrun μ w a _ hr ha ?_;intro o1 fr' h' μ' a' w' ha' hr' hext hk;have other:∀ (hne:o1≠.norm),(bif mA1 outs o1 then qAp lo fr' fun us=>some (o1,us,h') else none)=some (o,us,h1)→Q (vT o1) a' w':=by
      intro hne hk
      cases hin:mA1 outs o1 with
      | false=>simp [hin] at hk
      | true=>
       simp only [hin,cond_true] at hk;obtain ⟨xs,e3,e4⟩:=jL hk;simp only [Option.some.injEq,Prod.mk.injEq] at e4;obtain ⟨rfl,rfl,rfl⟩:=e4;exact hq μ' a' w' (tA5 hin) (ha'.le e3) hr' hext
     cases o1 with
     | norm=>
      obtain ⟨ws,e3,e4⟩:=jL hk;exact ihM ws h' e4 μ' w' a' Q hr' (ha'.le e3) fun μ2 a2 w2 hm2 ha2 hr2 hext2=>hq μ2 a2 w2 hm2 ha2 hr2 (Ext.trans hr hext hext2)
     | exit id=>exact other (by simp) hk
     | ret=>exact other (by simp) hk
   exact wp_loop_rounds _ (rounds _ vs h e1 μ w a Q hr (ha.le e0) fun μ' a' w' hmem ha' hr' hext=>hq o _ h1 μ' a' w' ha' hr' hext (rAb hmem e2))
  ·simp at hx
theorem wT {β:Type} {fr:Fr} {h:Heap}:∀ {l:List (ResultVar×VTy)} {K:List AV→Option β} {b:β},tAy E fr h l K=some b→∃ vs,kG E fr h (l.map (·.1))=some vs∧K vs=some b
 | [],K,b,hx=>⟨[],rfl,hx⟩
 | (.tmp t,c)::r,K,b,hx=>by
  simp only [tAy] at hx
  cases hg:fr.get t with
  | none=>simp [hg] at hx
  | some v=>
   simp only [hg] at hx;obtain ⟨vs,h1,h2⟩:=wT hx;exact ⟨v::vs,by simp only [List.map_cons,kG,hg,h1],h2⟩
 | (.cell a t,c)::r,K,b,hx=>by
  simp only [tAy] at hx
  split at hx
  ·rename_i p hg
   split at hx
   ·rename_i hagg
    split at hx
    ·rename_i n hn
     obtain ⟨q,rfl,h3⟩:=oG hx;obtain ⟨y,h4,h5⟩:=kF h3;obtain ⟨l,h6,h7⟩:=nW h4;obtain ⟨vs,h2,h3⟩:=wT h5;refine ⟨c.to y::vs,?_,h3⟩;have hl:mQ E h t (.ptr (some q))=some (c.to y):=by simp [mQ,hagg,hn,h6];exact h7.symm
     simp only [List.map_cons,kG,hg,hl,h2]
    ·cases hx
   ·rename_i hagg
    obtain ⟨q,rfl,h3⟩:=oG hx;obtain ⟨y,h4,h5⟩:=kF h3;obtain ⟨vs,h2,h3⟩:=wT h5;refine ⟨c.to y::vs,?_,h3⟩;have hl:mQ E h t (.ptr (some q))=some (c.to y):=by simp [mQ,hagg,pA1 h4];rfl
    simp only [List.map_cons,kG,hg,hl,h2]
   ·cases hx
  ·cases hx
def gD (P:Program) (f:FuncId) (l:List VTy) (t:Ty) (F:lH l→Heap→Option (t.den×Heap)):Prop:=
 ∀ xs h r h',F xs h=some (r,h')→∀ μ w (args':Array Value),HR μ h w→VRs μ (VTy.tos l xs) args'.toList→
  (callFunc f args').run P w=.ok (.enter f args') w∧Calls P f args' w fun e w'=>∃ u,e=.returned u∧yB0 μ h w (t.to r) h' u w'
theorem kA:CallKOK P nAp where
 nat:=by intro β f args h k b hx;cases hx
 ok:=by intro f args h v h' hx;cases hx
theorem CTy.cast_to {β:Type}:∀ (c:CTy) (x:c.den) (K:c.den→Option β),c.cast (c.to x) K=K x
 | .bool,x,K=>rfl
 | .int k,x,K=>by simp [CTy.cast,CTy.to,pI]
 | .str,x,K=>rfl
 | .ptr,x,K=>rfl
 | .slice,x,K=>rfl
 | .any,x,K=>rfl
theorem CTy.casts_tos {β:Type}:∀ (l:List CTy) (x:gN l) (K:gN l→Option β),CTy.casts l (CTy.tos l x) K=K x
 | [],x,K=>rfl
 | c::r,x,K=>by simp only [CTy.tos,CTy.casts,CTy.cast_to,CTy.casts_tos r]
theorem VTy.cast_to {β:Type}:∀ (c:VTy) (x:c.den) (K:c.den→Option β),c.cast (c.to x) K=K x
 | .one c,x,K=>CTy.cast_to c x K
 | .agg l,x,K=>CTy.casts_tos l x K
 | .clo g l,x,K=>by simp only [VTy.cast,VTy.to,Nat.beq_refl,cond_true];exact CTy.casts_tos l x K
theorem VTy.casts_tos {β:Type}:∀ (l:List VTy) (x:lH l) (K:lH l→Option β),VTy.casts l (VTy.tos l x) K=K x
 | [],x,K=>rfl
 | c::r,x,K=>by simp only [VTy.tos,VTy.casts,VTy.cast_to,VTy.casts_tos r]
theorem bA {f:FuncId} {l:List VTy} {t:Ty} {F:lH l→Heap→Option (t.den×Heap)} {C:CallK} (hF:gD P f l t F) (hC:CallKOK P C):CallKOK P (oJ f l t F C):=by
 constructor
 ·intro β g args h k b hx
  unfold oJ at hx
  cases hg:Nat.beq g f with
  | true=>
   simp only [hg,cond_true] at hx;obtain ⟨xs,rfl,h1⟩:=VTy.casts_spec hx;obtain ⟨r,h',h2,h3⟩:=cI h1;refine ⟨t.to r,h',?_,h3⟩;simp only [wE,oJ,hg,cond_true,VTy.casts_tos,h2,lA]
  | false=>
   simp only [hg,cond_false] at hx;obtain ⟨v,h',h1,h2⟩:=hC.nat hx;exact ⟨v,h',by simp only [wE,oJ,hg,cond_false];exact h1,h2⟩
 ·intro g args h v h' hx μ w args' hr hv
  simp only [wE,oJ] at hx
  cases hg:Nat.beq g f with
  | true=>
   simp only [hg,cond_true] at hx;obtain ⟨xs,rfl,h1⟩:=VTy.casts_spec hx;obtain ⟨r,h2,h3,h4⟩:=cI h1;simp only [Option.some.injEq,Prod.mk.injEq] at h4;obtain ⟨rfl,rfl⟩:=h4
   have:=Nat.eq_of_beq_eq_true hg
   subst this;exact .inr (hF xs h r h2 h3 μ w args' hr hv)
  | false=>
   simp only [hg,cond_false] at hx;exact hC.ok g args h v h' hx μ w args' hr hv
theorem yB {f:FuncId} {sel:List AV→Bool} {l:List VTy} {t:Ty} {F:lH l→Heap→Option (t.den×Heap)} {C:CallK} (hF:gD P f l t F) (hC:CallKOK P C):CallKOK P (vP f sel l t F C):=by
 constructor
 ·intro β g args h k b hx
  unfold vP at hx
  cases hg:Nat.beq g f with
  | true=>
   cases hs:sel args with
   | true=>
    simp only [hg,hs,cond_true] at hx;obtain ⟨xs,rfl,h1⟩:=VTy.casts_spec hx;obtain ⟨r,h',h2,h3⟩:=cI h1;refine ⟨t.to r,h',?_,h3⟩;simp only [wE,vP,hg,hs,cond_true,VTy.casts_tos,h2,lA]
   | false=>
    simp only [hg,hs,cond_true,cond_false] at hx;obtain ⟨v,h',h1,h2⟩:=hC.nat hx;exact ⟨v,h',by simp only [wE,vP,hg,hs,cond_true,cond_false];exact h1,h2⟩
  | false=>
   simp only [hg,cond_false] at hx;obtain ⟨v,h',h1,h2⟩:=hC.nat hx;exact ⟨v,h',by simp only [wE,vP,hg,cond_false];exact h1,h2⟩
 ·intro g args h v h' hx μ w args' hr hv
  simp only [wE,vP] at hx
  cases hg:Nat.beq g f with
  | true=>
   cases hs:sel args with
   | true=>
    simp only [hg,hs,cond_true] at hx;obtain ⟨xs,rfl,h1⟩:=VTy.casts_spec hx;obtain ⟨r,h2,h3,h4⟩:=cI h1;simp only [Option.some.injEq,Prod.mk.injEq] at h4;obtain ⟨rfl,rfl⟩:=h4
    have:=Nat.eq_of_beq_eq_true hg
    subst this;exact .inr (hF xs h r h2 h3 μ w args' hr hv)
   | false=>
    simp only [hg,hs,cond_true,cond_false] at hx;exact hC.ok g args h v h' hx μ w args' hr hv
  | false=>
   simp only [hg,cond_false] at hx;exact hC.ok g args h v h' hx μ w args' hr hv
theorem uAp (ok:EnvOK E P) (hm:P.follows .mixedOrders=true) {C:CallK} (hC:CallKOK P C) {N:Nat} {x:Ann} {f:FuncId} {fn:Func} {c:Code} {l:List VTy} {t:Ty} {F:lH l→Heap→Option (t.den×Heap)}
  (hf:E.fn f=some fn) (hb:fn.body=some c) (hnt:Nat.ble fn.ntmps 1073741824=true) (hsz:Nat.beq fn.results.size fn.resultTypes.size=true) (hF:∀ xs h,F xs h=runK E C N x fn c t (VTy.tos l xs) h):gD P f l t F:=by
 intro xs h r h' hx μ w args' hr hv;rw [hF] at hx;unfold runK at hx;have hnt':fn.ntmps≤1073741824:=by simpa using hnt
 obtain ⟨hfp,hname⟩:=ok.fn f fn hf
 cases hle:Nat.ble (VTy.tos l xs).length fn.ntmps with
 | false=>simp [hle] at hx
 | true=>
  simp only [hle,cond_true] at hx;have hle':(VTy.tos l xs).length≤fn.ntmps:=by simpa using hle
  have hargs:args'.size=(VTy.tos l xs).length:=by simpa using hv.length
  refine ⟨?_,?_⟩
  ·unfold callFunc
   refine (jA (P:=P) (a:=P) (w':=w) rfl).trans ?_;rw [hfp];simp only [hname,Bool.false_eq_true,if_false,hb,Option.isNone_some];rfl
  ·refine calls_of_wp hfp hb ?_
   refine lAw ok hm hC hnt' x c hx μ w _ _ hr ?_ ?_
   ·refine ⟨fun t x hx=>?_,by simp [hargs];omega,rfl⟩
    rcases pA5 (VTy.tos l xs) 0 .nil t x hx with ⟨_,h2⟩ | h2
    ·obtain ⟨y,h3,h4⟩:=hv.get h2
     have h3':args'[t]? = some y:=by simpa using h3
     have hlt:t<args'.size:=(Array.getElem?_eq_some_iff.1 h3').1
     have:(args'++Array.replicate (fn.ntmps-args'.size) undef).getD t undef=y:=by
      simp only [Array.getD_eq_getD_getElem?];rw [Array.getElem?_append_left hlt,h3'];rfl
     rw [this];exact h4
    ·simp [Tr.get_nil] at h2
   ·intro out fr1 h1 μ' a' w' ha' hr' hext hk
    have hres:(vT out=.normal∨vT out=.ret)∧tAy E fr1 h1 (fn.results.toList.zip (fn.resultTypes.toList.map (mAp E))) (fun vs=>t.cast (eBf vs) fun r=>some (r,h1))=some (r,h'):=by
     cases out with
     | norm=>exact ⟨.inl rfl,hk⟩
     | ret=>exact ⟨.inr rfl,hk⟩
     | exit id=>cases hk
    obtain ⟨hres,hk⟩:=hres;obtain ⟨vs,hrs,hk⟩:=wT hk;obtain ⟨r',hr1,hk⟩:=Ty.cast_spec hk;simp only [Option.some.injEq,Prod.mk.injEq] at hk;obtain ⟨rfl,rfl⟩:=hk;have hfin:a'.defers=[]∧∃ u,(results fn a'.tmps).run P w'=.ok u w'∧∃ u',Ending.returned u=.returned u'∧yB0 μ h w (t.to r') h1 u' w':=by
     refine ⟨ha'.defers,?_⟩;have hzip:(fn.results.toList.zip (fn.resultTypes.toList.map (mAp E))).map (·.1)=fn.results.toList:=by
      have hsz':fn.results.size=fn.resultTypes.size:=Nat.eq_of_beq_eq_true hsz;exact List.map_fst_zip (by simp;omega)
     rw [hzip] at hrs;obtain ⟨us,g1,g2⟩:=yL (P:=P) (g:=fun | .tmp t=>pure (a'.tmps.getD t undef) | .cell a t=>do loadVar t (← asAddr (a'.tmps.getD a undef))) ok hr' ha' (fun _=>rfl) (fun _ _=>rfl) hrs;have hrun:∀ (r:Value),(if hs:us.toArray.size=1 then us.toArray[0] else .tuple us.toArray)=r→(results fn a'.tmps).run P w'=.ok r w':=by
      intro r hr0;have hmap:(fn.results.mapM (fun | .tmp t=>pure (a'.tmps.getD t undef) | .cell a t=>do loadVar t (← asAddr (a'.tmps.getD a undef)):ResultVar→Sem Value)).run P w'=.ok us.toArray w':=by
       rw [Array.mapM_eq_mapM_toList,Sem.run_map,g1];rfl
      unfold results;exact (jA (P:=P) hmap).trans (by rw [← hr0];rfl)
     have hul:=g2.length;rw [hr1]
     by_cases h1v:∃ v,vs=[v]
     ·obtain ⟨v,rfl⟩:=h1v
      simp only [VRs] at g2;obtain ⟨y,ys,rfl,g3,rfl⟩:=g2;exact ⟨y,hrun y (by simp),y,rfl,μ',g3,hr',hext⟩
     ·have hn1:us.toArray.size≠1:=by
       intro e
       have:vs.length=1:=by rw [← hul];simpa using e
       obtain ⟨z,hz⟩:=List.length_eq_one_iff.1 this;exact h1v ⟨z,hz⟩
      have htup:eBf vs=.tuple vs:=by
       unfold eBf;split
       ·exact absurd ⟨_,rfl⟩ h1v
       ·rfl
      rw [htup];exact ⟨.tuple us.toArray,hrun _ (by rw [dif_neg hn1]),_,rfl,μ',by simp only [VR];exact ⟨_,rfl,by simpa using g2⟩,hr',hext⟩
    rcases hres with e | e <;> rw [e] <;> exact hfin
end
end Ai
namespace Ai
theorem Tr.get_set_of {α:Type} {t:Tr α} {n m:Nat} {x:α} (hne:m≠n):(t.set n x).get m=t.get m:=by
 cases h:(t.set n x).get m with
 | some y=>
  rcases Tr.get_set h with ⟨h1,_⟩ | ⟨_,h1⟩
  ·exact absurd h1 hne
  ·exact h1.symm
 | none=>
  cases h2:t.get m with
  | none=>rfl
  | some y=>rw [Tr.get_set_other hne h2] at h;cases h
def Heap.is (h:Heap) (A:Nat) (cs:List AV):Prop:=h.t.get A=some (.row cs .own)∧A<h.next
theorem Heap.is_push (h:Heap) (cs:List AV):(h.push (.row cs .own)).is h.next cs:=⟨Tr.get_set_same,Nat.lt_succ_self _⟩
theorem Heap.is.row {h:Heap} {A:Nat} {cs:List AV} (hx:h.is A cs):h.row A=some cs:=by simp [Heap.row,hx.1]
theorem Heap.is.cell {h:Heap} {A:Nat} {cs:List AV} (hx:h.is A cs) (i:Nat):h.cell (A,i)=(cs.drop i).head?:=by
 simp only [Heap.cell,hx.row];cases cs.drop i <;> rfl
@[simp] theorem Heap.push_next (h:Heap) (b:Blk):(h.push b).next=h.next+1:=rfl
@[simp] theorem Heap.put_next (h:Heap) (A:Nat) (b:Blk):(h.put A b).next=h.next:=rfl
@[simp] theorem aA {α β:Type} (v:α) (h:Heap) (k:α→Heap→Option β):lA (some (v,h)) k=k v h:=rfl
@[simp] theorem uB {α β:Type} (o:Out) (v:α) (h:Heap) (k:Out→α→Heap→Option β):fE (some (o,v,h)) k=k o v h:=rfl
@[simp] theorem dA {α β:Type} (a:α) (K:α→Option β):rA (some a) K=K a:=rfl
@[simp] theorem fA {β:Type} (t:Ty) (v:AV) (K:t.den→Option β):iA t (some v) K=t.cast v K:=rfl
@[simp] theorem lG {β:Type} (t:Ty) (v:AV) (h:Heap) (K:t.den→Heap→Option β):aE t (some (v,h)) K=t.cast v fun y=>K y h:=rfl
@[simp] theorem rB {β:Type} (b:Bool) (K:Bool→Option β):(Ty.val (.one .bool)).cast (.bool b) K=K b:=rfl
@[simp] theorem bD {β:Type} (k:IntKind) (n:Int) (K:Int→Option β):(Ty.val (.one (.int k))).cast (.int k n) K=K n:=CTy.cast_to (.int k) n K
@[simp] theorem cD {β:Type} (s:List UInt8) (K:List UInt8→Option β):(Ty.val (.one .str)).cast (.str s) K=K s:=rfl
@[simp] theorem qB {β:Type} (p:Option (Nat×Nat)) (K:Option (Nat×Nat)→Option β):(Ty.val (.one .ptr)).cast (.ptr p) K=K p:=rfl
@[simp] theorem uA {β:Type} (a:Option (Nat×Nat)) (l c s:Nat) (K:SL→Option β):(Ty.val (.one .slice)).cast (.slice a l c s) K=K ⟨a,l,c,s⟩:=rfl
@[simp] theorem bE {β:Type} (v:AV) (K:AV→Option β):(Ty.val (.one .any)).cast v K=K v:=rfl
@[simp] theorem fBf {β:Type} (l:List CTy) (cs:List AV) (K:gN l→Option β):(Ty.val (.agg l)).cast (.agg cs) K=CTy.casts l cs K:=rfl
@[simp] theorem eB8 {β:Type} (K:Unit→Option β):CTy.casts [] [] K=K ():=rfl
@[simp] theorem eB7 {β:Type} (r:List CTy) (b:Bool) (vs:List AV) (K:Bool×gN r→Option β):CTy.casts (.bool::r) (.bool b::vs) K=CTy.casts r vs fun xs=>K (b,xs):=rfl
@[simp] theorem fB8 {β:Type} (r:List CTy) (k:IntKind) (n:Int) (vs:List AV) (K:Int×gN r→Option β):CTy.casts (.int k::r) (.int k n::vs) K=CTy.casts r vs fun xs=>K (n,xs):=by simp [CTy.casts,CTy.cast,pI]
@[simp] theorem nB1 {β:Type} (r:List CTy) (a:Option (Nat×Nat)) (l c s:Nat) (vs:List AV) (K:SL×gN r→Option β):CTy.casts (.slice::r) (.slice a l c s::vs) K=CTy.casts r vs fun xs=>K (⟨a,l,c,s⟩,xs):=rfl
@[simp] theorem gB8 {β:Type} (r:List CTy) (p:Option (Nat×Nat)) (vs:List AV) (K:Option (Nat×Nat)×gN r→Option β):CTy.casts (.ptr::r) (.ptr p::vs) K=CTy.casts r vs fun xs=>K (p,xs):=rfl
@[simp] theorem iB8 {β:Type} (r:List CTy) (s:List UInt8) (vs:List AV) (K:List UInt8×gN r→Option β):CTy.casts (.str::r) (.str s::vs) K=CTy.casts r vs fun xs=>K (s,xs):=rfl
@[simp] theorem jB8 {β:Type} (r:List CTy) (v:AV) (vs:List AV) (K:AV×gN r→Option β):CTy.casts (.any::r) (v::vs) K=CTy.casts r vs fun xs=>K (v,xs):=rfl
theorem rF {x:Int} (h1:-9223372036854775808≤x) (h2:x≤9223372036854775807):dB .i64 x=x:=by rw [iK];exact IntWalk.i64_in x ⟨h1,h2⟩
theorem vAb (a b:Int):wB a b=decide (a<b):=by rw [kZ]
theorem vAp (a b:Int):cE a b=decide (a≤b):=by rw [dAi]
theorem wAb (a b:Int):kB a b=decide (a=b):=by rw [fT];rfl
end Ai
namespace Ai
def Heap.g (h:Heap) (A:Nat):Option Blk:=h.t.get A
def wAp (b:Option Blk) (i:Nat):Option AV:=match b with
 | some (.row cs .own)=>(cs.drop i).head?
 | some (.row cs .grown)=>(cs.drop i).head?
 | some (.row cs (.bytes _))=>(cs.drop i).head?
 | some (.row cs (.ty _))=>(cs.drop i).head?
 | some (.row cs .ro)=>(cs.drop i).head?
 | _=>none
def yAb (b:Option Blk) (i n:Nat):Option AV:=match b with
 | some (.row cs .own)=>(takeN n (cs.drop i)).map AV.agg
 | some (.row cs .grown)=>(takeN n (cs.drop i)).map AV.agg
 | some (.row cs (.bytes _))=>(takeN n (cs.drop i)).map AV.agg
 | some (.row cs (.ty _))=>(takeN n (cs.drop i)).map AV.agg
 | some (.row cs .ro)=>(takeN n (cs.drop i)).map AV.agg
 | _=>none
def yAp (h:Heap) (A:Nat) (b:Option Blk) (i:Nat) (vs:List AV):Option Heap:=match b with
 | some (.row cs .own)=>(over i cs vs).map fun cs'=>h.put A (.row cs' .own)
 | some (.row cs .grown)=>(over i cs vs).map fun cs'=>h.put A (.row cs' .grown)
 | some (.row cs (.bytes t))=>(over i cs vs).map fun cs'=>h.put A (.row cs' (.bytes t))
 | some (.row cs (.ty t))=>(over i cs vs).map fun cs'=>h.put A (.row cs' (.ty t))
 | _=>none
theorem Heap.cell_g (h:Heap) (A i:Nat):h.cell (A,i)=wAp (h.g A) i:=by
 unfold Heap.cell Heap.row wAp Heap.g
 cases h.t.get A with
 | none=>rfl
 | some b=>cases b with
  | row cs st=>cases st <;> simp only <;> cases cs.drop i <;> rfl
  | _=>rfl
theorem Heap.cells_g (h:Heap) (A i n:Nat):h.cells (A,i) n=yAb (h.g A) i n:=by
 unfold Heap.cells Heap.read Heap.row yAb Heap.g
 cases h.t.get A with
 | none=>rfl
 | some b=>cases b with
  | row cs st=>cases st <;> simp only <;> cases takeN n (cs.drop i) <;> rfl
  | _=>rfl
theorem Heap.store_g (h:Heap) (A i:Nat) (vs:List AV):h.store (A,i) vs=yAp h A (h.g A) i vs:=by
 unfold Heap.store Heap.rowW yAp Heap.g
 cases h.t.get A with
 | none=>rfl
 | some b=>cases b with
  | row cs st=>cases st <;> simp only <;> cases over i cs vs <;> rfl
  | _=>rfl
theorem mH {h:Heap} {A:Nat} (b:Blk) (he:A=h.next):(h.push b).g A=some b:=by subst he;exact Tr.get_set_same
theorem qA1 {h:Heap} {A:Nat} (b:Blk) (hne:A≠h.next):(h.push b).g A=h.g A:=Tr.get_set_of hne
theorem yT {h:Heap} {A B:Nat} (b:Blk) (he:A=B):(h.put B b).g A=some b:=by subst he;exact Tr.get_set_same
theorem mAw {h:Heap} {A B:Nat} (b:Blk) (hne:A≠B):(h.put B b).g A=h.g A:=Tr.get_set_of hne
theorem aAq (cs:List AV) (i:Nat):wAp (some (.row cs .own)) i=(cs.drop i).head?:=rfl
theorem rAl (cs:List AV) (i n:Nat):yAb (some (.row cs .own)) i n=(takeN n (cs.drop i)).map AV.agg:=rfl
theorem pW (h:Heap) (A:Nat) (cs:List AV) (i:Nat) (vs:List AV):yAp h A (some (.row cs .own)) i vs=(over i cs vs).map fun cs'=>h.put A (.row cs' .own):=rfl
theorem cG (n:Nat) (cs:List AV):over n cs []=some cs:=by cases n <;> cases cs <;> rfl
theorem yE (c v:AV) (cs vs:List AV):over 0 (c::cs) (v::vs)=(over 0 cs vs).map (v::·):=by
 show (match over 0 cs vs with | some l=>some (v::l) | none=>none)=_;cases over 0 cs vs <;> rfl
theorem aF (n:Nat) (c v:AV) (cs vs:List AV):over (n+1) (c::cs) (v::vs)=(over n cs (v::vs)).map (c::·):=by
 show (match over n cs (v::vs) with | some l=>some (c::l) | none=>none)=_;cases over n cs (v::vs) <;> rfl
@[simp] theorem wP (i j:Nat):gE (.exit i) (.exit j)=decide (i=j):=by
 show Nat.beq i j=_
 cases h:Nat.beq i j with
 | true=>have:=Nat.eq_of_beq_eq_true h;simp [this]
 | false=>have:=Nat.ne_of_beq_eq_false h;simp [this]
@[simp] theorem rA1 (j:Nat):gE .ret (.exit j)=false:=rfl
@[simp] theorem fB7:gE .ret .ret=true:=rfl
@[simp] theorem iAv (j:Nat):gE (.exit j) .ret=false:=rfl
theorem vAi {β:Type} (q:Nat×Nat) (len j n:Nat) (K:Nat×Nat→Option β) (h:j<len):ixK (some q) len (Int.ofNat j) n K=K (q.1,q.2+j * n):=by
 have:Nat.blt j len=true:=by simpa [Nat.blt_eq] using h
 simp [ixK,this]
end Ai
namespace Ai
open Go.ChangeShapes Go.WideShapes
open Go.RowKit (Below)
theorem HR.below {μ:Mu} {h:Heap} {w w':World} (hr:HR μ h w) (hb:Below w.heap.size w w'):HR μ h w':=
 ⟨fun A l hA=>⟨(hr.dom A l hA).1,Nat.lt_of_lt_of_le (hr.dom A l hA).2 hb.size⟩,hr.inj,fun A l b hA hb'=>BR.heap (hb.block l.b (hr.dom A l hA).2) (hr.blk A l b hA hb'),hr.pin⟩
theorem Ext.of_below {μ:Mu} {h:Heap} {w w':World} (hb:Below w.heap.size w w'):Ext μ h w μ h w':=
 ⟨Mu.le_refl μ,Nat.le_refl _,fun _ _ h=>.inl h,fun _ _ h=>h,fun b hlt _=>hb.block b hlt,hb.size,hb.os,hb.tape,hb.output⟩
theorem wAi {E:Env} {P:Program} (ok:EnvOK E P) {f:FuncId} {fn:Func} (hf:E.fn f=some fn) (hb:fn.body.isSome=true) (args:Array Value) (w:World):(callFunc f args).run P w=.ok (.enter f args) w:=by
 obtain ⟨hfp,hname⟩:=ok.fn f fn hf;unfold callFunc;refine (jA (P:=P) (a:=P) (w':=w) rfl).trans ?_;rw [hfp];simp only [hname,Bool.false_eq_true,if_false]
 cases hbb:fn.body with
 | none=>simp [hbb] at hb
 | some c=>rfl
def kA4 (P:Program) (S:List TypeId):List Field→Nat→Nat→Bool
 | [],off,tot=>Nat.beq off tot
 | f::r,off,tot=>Nat.beq f.offset off&&iP f.type S&&kA4 P S r (off+P.cellsOf f.type) tot
def bAq (P:Program) (S:List TypeId) (t:TypeId):Bool:=
 match P.underlying t with
 | some .bool=>true
 | some (.int _)=>true
 | some .string=>true
 | some (.slice e)=>iP e S&&Nat.ble 1 (P.cellsOf e)
 | some (.struct fs)=>kA4 P S fs.toList 0 (P.cellsOf t)
 | some (.array n e)=>iP e S&&Nat.beq (P.cellsOf t) (n * P.cellsOf e)
 | _=>false
def plainB (P:Program) (S:List TypeId):Bool:=S.all (bAq P S)
section
variable {H:Type} {enc:TypeId×Value→H} {P:Program} {w:World} {bs:Nat}
inductive Rd (P:Program) (h:Heap):TypeId→List AV→DataW H→Prop
 | bool {t:TypeId} {b:Bool}:P.underlying t=some .bool→Rd P h t [.bool b] (.lit (.bool b))
 | int {t:TypeId} {k:IntKind} {n:Int}:P.underlying t=some (.int k)→(Lit.int k n).wf=true→Rd P h t [.int k n] (.lit (.int k n))
 | str {t:TypeId} {s:List UInt8}:P.underlying t=some .string→s.length≤maxLen→Rd P h t [.str s] (.lit (.string s))
 | nil {t e:TypeId}:P.underlying t=some (.slice e)→Rd P h t [.slice none 0 0 0] .nil
 | slice {t e:TypeId} {A:Nat} {ass:List (List AV)} {ds sp:List (DataW H)}:P.underlying t=some (.slice e)→h.t.get A=some (.row ass.flatten .ro)→A<h.next→ds.length≤maxLen→ass.length=ds.length→
   (∀ (i:Nat) (a:List AV) (d:DataW H),ass[i]? = some a→ds[i]? = some d→Rd P h e a d)→Rd P h t [.slice (some (A,0)) ds.length ds.length (P.cellsOf e)] (.slice ds sp)
 | struct {t:TypeId} {fs:Array Field} {ass:List (List AV)} {ds:List (DataW H)}:P.underlying t=some (.struct fs)→ass.length=fs.size→ds.length=fs.size→
   (∀ (i:Nat) (f:Field) (a:List AV) (d:DataW H),fs[i]? = some f→ass[i]? = some a→ds[i]? = some d→Rd P h f.type a d)→Rd P h t ass.flatten (.agg ds)
 | array {t:TypeId} {n:Nat} {e:TypeId} {ass:List (List AV)} {ds:List (DataW H)}:P.underlying t=some (.array n e)→ass.length=n→ds.length=n→
   (∀ (i:Nat) (a:List AV) (d:DataW H),ass[i]? = some a→ds[i]? = some d→Rd P h e a d)→Rd P h t ass.flatten (.agg ds)
structure HLe (h h':Heap):Prop where
 get:∀ A b,h.t.get A=some b→h'.t.get A=some b
 next:h.next≤h'.next
 pins:h'.pins=h.pins
theorem HLe.refl (h:Heap):HLe h h:=⟨fun _ _ h=>h,Nat.le_refl _,rfl⟩
theorem HLe.trans {a b c:Heap} (x:HLe a b) (y:HLe b c):HLe a c:=⟨fun A l h=>y.get A l (x.get A l h),Nat.le_trans x.next y.next,y.pins.trans x.pins⟩
theorem Rd.mono {h h':Heap} (hl:HLe h h') {t:TypeId} {as:List AV} {d:DataW H} (hx:Rd P h t as d):Rd P h' t as d:=by
 induction hx with
 | bool h1=>exact .bool h1
 | int h1 h2=>exact .int h1 h2
 | str h1 h2=>exact .str h1 h2
 | nil h1=>exact .nil h1
 | slice h1 h2 h3 h4 h5 _ ih=>exact .slice h1 (hl.get _ _ h2) (Nat.lt_of_lt_of_le h3 hl.next) h4 h5 ih
 | struct h1 h2 h3 _ ih=>exact .struct h1 h2 h3 ih
 | array h1 h2 h3 _ ih=>exact .array h1 h2 h3 ih
structure Rof (h:Heap):Prop where
 ro:∀ A b,h.t.get A=some b→∃ cs,b=.row cs .ro
 top:∀ A,h.next≤A→h.t.get A=none
def cAq (P:Program) (w:World) (t:TypeId) (cs:List Value) (d:DataW H):Prop:=
 ∀ μ h,HR μ h w→Rof h→∃ μ' h' as,μ.le μ'∧HLe h h'∧HR μ' h' w∧Rof h'∧VRs μ' as cs∧Rd P h' t as d
theorem yP:∀ (l:List (TypeId×List Value×DataW H)),(∀ x∈l,cAq P w x.1 x.2.1 x.2.2)→∀ μ h,HR μ h w→Rof h→
  ∃ (μ':Mu) (h':Heap) (ass:List (List AV)),μ.le μ'∧HLe h h'∧HR μ' h' w∧Rof h'∧ass.length=l.length∧∀ (i:Nat) a x,ass[i]? = some a→l[i]? = some x→VRs μ' a x.2.1∧Rd P h' x.1 a x.2.2
 | [],_,μ,h,hr,hro=>⟨μ,h,[],Mu.le_refl μ,HLe.refl h,hr,hro,rfl,fun i a x ha=>by simp at ha⟩
 | x::r,hx,μ,h,hr,hro=>by
  obtain ⟨μ1,h1,as,g1,g2,g3,g4,g5,g6⟩:=hx x List.mem_cons_self μ h hr hro;obtain ⟨μ2,h2,ass,k1,k2,k3,k4,k5,k6⟩:=yP r (fun y hy=>hx y (List.mem_cons_of_mem _ hy)) μ1 h1 g3 g4;refine ⟨μ2,h2,as::ass,fun A l hA=>k1 A l (g1 A l hA),g2.trans k2,k3,k4,by simp [k5],?_⟩;intro i a y ha hy
  cases i with
  | zero=>simp at ha hy;subst ha;subst hy;exact ⟨VRs.mono k1 _ _ g5,Rd.mono k2 g6⟩
  | succ i=>simp at ha hy;exact k6 i a y ha hy
theorem VRs.flatten {μ:Mu}:∀ {ass:List (List AV)} {css:List (List Value)},ass.length=css.length→(∀ (i:Nat) a c,ass[i]? = some a→css[i]? = some c→VRs μ a c)→VRs μ ass.flatten css.flatten
 | [],[],_,_=>VRs.nil
 | a::r,c::q,hl,hx=>by
  simp only [List.flatten_cons];exact VRs.append (hx 0 a c rfl rfl) (VRs.flatten (by simpa using hl) fun i a c h1 h2=>hx (i+1) a c (by simpa using h1) (by simpa using h2))
 | [],_::_,hl,_=>by simp at hl
 | _::_,[],hl,_=>by simp at hl
theorem HR.pushRo {μ:Mu} {h:Heap} (hr:HR μ h w) (hro:Rof h) {l:Loc} {cs:List AV} (hlt:l.b<w.heap.size) (hrow:RowR μ w l cs) :
  HR (μ.add h.next l) (h.push (.row cs .ro)) w∧Rof (h.push (.row cs .ro))∧HLe h (h.push (.row cs .ro))∧μ.le (μ.add h.next l):=by
 have hle:μ.le (μ.add h.next l):=Mu.le_add hr.isNone;have hget:∀ A b,(h.push (.row cs .ro)).t.get A=some b→(A=h.next∧b=.row cs .ro)∨(A≠h.next∧h.t.get A=some b):=fun A b hA=>Tr.get_set hA;refine ⟨⟨?_,?_,?_,fun x hx=>hle _ _ (hr.pin x hx)⟩,⟨?_,?_⟩,⟨?_,Nat.le_succ _,rfl⟩,hle⟩
 ·intro A l' hA
  unfold Mu.add at hA
  split at hA
  ·rename_i he;simp only [Option.some.injEq] at hA;subst hA;subst he;exact ⟨Nat.lt_succ_self _,hlt⟩
  ·exact ⟨Nat.lt_succ_of_lt (hr.dom A l' hA).1,(hr.dom A l' hA).2⟩
 ·intro A B la lb ba bb _ _ hA hB _ _ _ _
  have ro:∀ A b,(h.push (.row cs .ro)).t.get A=some b→b.isRo=true:=by
   intro A b hA;rcases hget A b hA with ⟨_,rfl⟩ | ⟨_,h1⟩
   ·rfl
   ·obtain ⟨c,rfl⟩:=hro.ro A b h1;rfl
  exact ⟨ro _ _ hA,ro _ _ hB⟩
 ·intro A l' b hA hb
  unfold Mu.add at hA
  split at hA
  ·rename_i he
   simp only [Option.some.injEq] at hA;subst hA;rcases hget A b hb with ⟨_,rfl⟩ | ⟨h1,_⟩
   ·exact RowR.mono hrow hle
   ·exact absurd he h1
  ·rename_i hne
   rcases hget A b hb with ⟨h1,_⟩ | ⟨_,h1⟩
   ·exact absurd h1 hne
   ·exact BR.mono hle (hr.blk A l' b hA h1)
 ·intro A b hA
  rcases hget A b hA with ⟨_,rfl⟩ | ⟨_,h1⟩
  ·exact ⟨cs,rfl⟩
  ·exact hro.ro A b h1
 ·intro A hA
  have h1:h.next+1≤A:=hA;show (h.t.set h.next _).get A=none;rw [Tr.get_set_of (by omega)];exact hro.top A (by omega)
 ·intro A b hA
  show (h.t.set h.next _).get A=some b;rw [Tr.get_set_of ?_]
  ·exact hA
  ·intro e
   rw [hro.top A (by omega)] at hA;cases hA
def yAi (w:World):Prop:=∃ b e n,w.shape? b=some (e,n)
theorem vA7 {a:Addr} {v:Value} (h:w.cell? a=some v):∃ e n,w.shape? a.block=some (e,n):=by
 unfold World.cell? at h;unfold World.shape?
 split at h
 ·exact ⟨_,_,rfl⟩
 ·cases h
theorem tA1 {b:Nat} {e n} (h:w.shape? b=some (e,n)):b<w.heap.size:=by
 unfold World.shape? at h
 split at h
 ·rename_i c e f hh;exact (Array.getElem?_eq_some_iff.1 hh).1
 ·cases h
theorem bY {S:List TypeId}:∀ (fs:List Field) (off tot:Nat) (cs:List Value),kA4 P S fs off tot=true→cs.length=tot→off≤tot→
  (fs.map fun f=>(cs.drop f.offset).take (P.cellsOf f.type)).flatten=cs.drop off∧∀ f∈fs,f.type∈S
 | [],off,tot,cs,h,hl,_=>by
  simp only [kA4] at h
  have:=Nat.eq_of_beq_eq_true h
  subst this;exact ⟨by rw [List.drop_of_length_le (by omega)];rfl,fun f hf=>by simp at hf⟩
 | f::r,off,tot,cs,h,hl,hle=>by
  simp only [kA4,Bool.and_eq_true] at h;obtain ⟨⟨h1,h2⟩,h3⟩:=h;have e1:=Nat.eq_of_beq_eq_true h1;have hle2:off+P.cellsOf f.type≤tot:=by
   have:∀ (fs:List Field) (off tot:Nat),kA4 P S fs off tot=true→off≤tot:=by
    intro fs
    induction fs with
    | nil=>intro off tot h;simp only [kA4] at h;have:=Nat.eq_of_beq_eq_true h;omega
    | cons f r ih=>intro off tot h;simp only [kA4,Bool.and_eq_true] at h;have:=ih _ _ h.2;omega
   exact this _ _ _ h3
  obtain ⟨h4,h5⟩:=bY r _ tot cs h3 hl hle2;refine ⟨?_,fun g hg=>?_⟩
  ·simp only [List.map_cons,List.flatten_cons,h4,e1]
   rw [← List.drop_drop,List.take_append_drop]
  ·rcases List.mem_cons.1 hg with rfl | hg
   ·exact kD.1 h2
   ·exact h5 g hg
theorem chunks_flatten (n:Nat):∀ (k:Nat) (cs:List Value),cs.length=k * n→((List.range k).map fun i=>(cs.drop (i * n)).take n).flatten=cs
 | 0,cs,h=>by simp at h;subst h;rfl
 | k+1,cs,h=>by
  rw [List.range_succ_eq_map,List.map_cons,List.flatten_cons,List.map_map]
  have:=chunks_flatten n k (cs.drop n) (by simp [h,Nat.add_mul])
  have e:((List.range k).map ((fun i=>(cs.drop (i * n)).take n) ∘ Nat.succ))=(List.range k).map fun i=>((cs.drop n).drop (i * n)).take n:=by
   refine List.map_congr_left fun i _=>?_;simp only [Function.comp,List.drop_drop];rw [Nat.succ_mul,Nat.add_comm]
  rw [e,this];simp
theorem pZ {S:List TypeId} (hS:plainB P S=true):∀ (fuel:Nat) (t:TypeId) (cs:List Value) (d:DataW H) (ps:List MemPlace),t∈S→DataW.trod enc P w 0 (fun _=>true) true fuel t cs=some (d,ps)→
  (∀ a,.slice (some a) 0 0∈cs→yAi w)→cAq P w t cs d
 | 0,t,cs,d,ps,_,h,_=>by simp [DataW.trod] at h
 | fuel+1,t,cs,d,ps,ht,h,hz=>by
  have hp:=List.all_eq_true.1 hS t ht;unfold bAq at hp;intro μ h0 hr hro
  split at hp
  ·rename_i hu
   obtain ⟨b,rfl,hx⟩:=DataW.trod_bool hu h;simp only [Prod.mk.injEq] at hx;obtain ⟨rfl,_⟩:=hx;exact ⟨μ,h0,[.bool b],Mu.le_refl μ,HLe.refl _,hr,hro,VRs.cons (by simp [VR]) VRs.nil,.bool hu⟩
  ·rename_i k hu
   obtain ⟨n,rfl,hx,hw⟩:=DataW.trod_int hu h;simp only [Prod.mk.injEq] at hx;obtain ⟨rfl,_⟩:=hx;exact ⟨μ,h0,[.int k n],Mu.le_refl μ,HLe.refl _,hr,hro,VRs.cons (by simp [VR]) VRs.nil,.int hu hw⟩
  ·rename_i hu
   obtain ⟨s,rfl,hx,hw⟩:=DataW.trod_string hu h;simp only [Prod.mk.injEq] at hx;obtain ⟨rfl,_⟩:=hx;refine ⟨μ,h0,[.str s.data.toList],Mu.le_refl μ,HLe.refl _,hr,hro,VRs.cons (by simp [VR]) VRs.nil,.str hu (by simpa using hw)⟩
  ·
   rename_i e hu;simp only [Bool.and_eq_true] at hp;have he:e∈S:=kD.1 hp.1;have hn1:1≤P.cellsOf e:=by simpa using hp.2
   rcases DataW.trod_slice hu h with ⟨rfl,hx⟩ | ⟨a,len,cap,elems,rest,n,hfu,rfl,hx,_,hlc,hcm,hlen,hel,hsp,_⟩
   ·simp only [Prod.mk.injEq] at hx;obtain ⟨rfl,_⟩:=hx
    exact ⟨μ,h0,[.slice none 0 0 0],Mu.le_refl μ,HLe.refl _,hr,hro,VRs.cons (by simp [VR]) VRs.nil,.nil hu⟩
   ·obtain rfl:fuel=n:=by omega
    simp only [Prod.mk.injEq] at hx;obtain ⟨rfl,_⟩:=hx;obtain ⟨hrl,hre⟩:=hsp rfl;have hall:∀ i,i<cap→∃ cs',w.cells? 0 (a.add (i * P.cellsOf e)) (P.cellsOf e)=some cs':=by
     intro i hi;have key:∃ y,(w.cells? 0 (a.add (i * P.cellsOf e)) (P.cellsOf e)).bind (DataW.trod enc P w 0 (fun _=>true) true fuel e)=some y:=by
      by_cases hil:i<len
      ·rw [hel i hil,List.getElem?_eq_getElem (by omega)];exact ⟨_,rfl⟩
      ·have:=hre (i-len) (by omega)
       rw [show len+(i-len)=i by omega] at this;rw [this,List.getElem?_eq_getElem (by omega)];exact ⟨_,rfl⟩
     obtain ⟨y,hy⟩:=key;obtain ⟨cs',h1,_⟩:=Option.bind_eq_some_iff.1 hy;exact ⟨cs',h1⟩
    obtain ⟨C,hC⟩:=Deep.choose_lt hall
    -- where the cells lie
    have hcell:∀ i,i<cap→∀ j,j<P.cellsOf e→∃ v,(C i)[j]? = some v∧a.spot=none∧w.cell? ⟨a.block,a.off+(i * P.cellsOf e+j),none⟩=some v:=by
     intro i hi j hj;obtain ⟨_,hl2,h2⟩:=World.cells?_some (hC i hi);obtain ⟨_,hl0,h20⟩:=World.cells?_some (hC 0 (by omega));have hspot:a.spot=none:=by
      have h3:=h20 0 (by omega);rw [List.getElem?_eq_getElem (by omega)] at h3;simp only [Nat.zero_mul,Addr.add,if_true] at h3;unfold World.cell? at h3
      split at h3
      ·split at h3
       ·cases h3
       ·rename_i hs;cases hq:a.spot with
        | none=>rfl
        | some _=>simp [hq] at hs
      ·cases h3
     refine ⟨(C i)[j],List.getElem?_eq_getElem (by omega),hspot,?_⟩;have h3:=h2 j hj;rw [List.getElem?_eq_getElem (by omega)] at h3;rw [← h3,Deep.add_add];unfold Addr.add
     split
     ·rename_i h0;rw [h0,← hspot];rfl
     ·rfl
    have hrow:0<cap→∃ e' n',w.shape? a.block=some (e',n'):=fun hc=>by
     obtain ⟨v,_,_,h3⟩:=hcell 0 hc 0 (by omega);exact vA7 (a:=⟨a.block,_,none⟩) h3
    have hopen:∀ x∈(List.range len).map (fun i=>((e,C i,(elems.getD i (.nil,[])).1):TypeId×List Value×DataW H)),cAq P w x.1 x.2.1 x.2.2:=by
     intro x hx;obtain ⟨i,hi,rfl⟩:=List.mem_map.1 hx;have hi:i<len:=by simpa using hi
     have h3:=hel i hi;rw [hC i (by omega)] at h3;have h4:DataW.trod enc P w 0 (fun _=>true) true fuel e (C i)=some ((elems.getD i (.nil,[])).1,(elems.getD i (.nil,[])).2):=by
      simp only [Option.bind_some] at h3;rw [h3];simp [List.getD,List.getElem?_eq_getElem (show i<elems.length by omega)]
     refine pZ hS fuel e (C i) _ _ he h4 (fun _ _=>?_)
     obtain ⟨e',n',h5⟩:=hrow (by omega);exact ⟨_,e',n',h5⟩
    obtain ⟨μ1,h1,ass,g1,g2,g3,g4,g5,g6⟩:=yP _ hopen μ h0 hr hro;simp only [List.length_map,List.length_range] at g5;have gi:∀ i,i<len→((List.range len).map (fun i=>((e,C i,(elems.getD i (.nil,[])).1):TypeId×List Value×DataW H)))[i]? = some (e,C i,(elems.getD i (.nil,[])).1):=fun i hi=>by simp [hi]
    have hds:∀ i,i<len→(elems.map (·.1))[i]? = some ((elems.getD i (.nil,[])).1):=fun i hi=>by
     simp [List.getD,List.getElem?_eq_getElem (show i<elems.length by omega)]
    have hvf:VRs μ1 ass.flatten ((List.range len).map C).flatten:=VRs.flatten (by simp [g5]) fun i a c ha hc=>by
     have hi:i<len:=by have:=(List.getElem?_eq_some_iff.1 ha).1;omega
     simp [hi] at hc;subst hc;exact (g6 i a _ ha (gi i hi)).1
    have hCl:∀ i,i<cap→(C i).length=P.cellsOf e:=fun i hi=>(World.cells?_some (hC i hi)).2.1;have hfl:∀ k,k≤cap→((List.range k).map C).flatten.length=k * P.cellsOf e∧∀ (i:Nat) v,((List.range k).map C).flatten[i]? = some v→w.cell? ⟨a.block,a.off+i,none⟩=some v:=by
     intro k
     induction k with
     | zero=>intro _;exact ⟨by simp,fun i v h=>by simp at h⟩
     | succ k ih=>
      intro hk;obtain ⟨i1,i2⟩:=ih (by omega);rw [List.range_succ,List.map_append,List.flatten_append];refine ⟨by simp only [List.length_append,i1,List.map_cons,List.map_nil,List.flatten_cons,List.flatten_nil,List.append_nil,hCl k (by omega),Nat.succ_mul],fun i v hv=>?_⟩;rcases Nat.lt_or_ge i (k * P.cellsOf e) with hlt | hge
      ·rw [List.getElem?_append_left (by omega)] at hv;exact i2 i v hv
      ·rw [List.getElem?_append_right (by omega),i1] at hv
       simp only [List.map_cons,List.map_nil,List.flatten_cons,List.flatten_nil,List.append_nil] at hv;have hj:i-k * P.cellsOf e<P.cellsOf e:=by
        have:=(List.getElem?_eq_some_iff.1 hv).1
        rw [hCl k (by omega)] at this;exact this
       obtain ⟨u,h3,_,h4⟩:=hcell k (by omega) _ hj;rw [hv] at h3;cases h3;rw [← h4];congr 2;omega
    by_cases hc0:cap=0
    ·obtain rfl:len=0:=by omega
     subst hc0;obtain ⟨b0,e0,n0,hb0⟩:=hz a (by simp);have hass:ass=[]:=List.eq_nil_of_length_eq_zero g5;obtain ⟨q1,q2,q3,q4⟩:=HR.pushRo g3 g4 (l:=⟨b0,0,n0,false⟩) (cs:=ass.flatten) (tA1 hb0) ⟨⟨e0,hb0⟩,by simp [hass],fun i x hx=>by simp [hass] at hx⟩;have hel0:elems=[]:=List.eq_nil_of_length_eq_zero hlen;refine ⟨_,_,[.slice (some (h1.next,0)) (elems.map (·.1)).length (elems.map (·.1)).length (P.cellsOf e)],fun A l hA=>q4 A l (g1 A l hA),g2.trans q3,q1,q2,VRs.cons ?_ VRs.nil,.slice hu Tr.get_set_same (Nat.lt_succ_self _) (by simp [hel0]) (by simp [g5,hel0]) fun i a d ha hd=>by simp [hass] at ha⟩;simp only [VR];exact ⟨⟨b0,0,n0,false⟩,a,0,by simp [Mu.add],by simp [hel0],Nat.le_refl _,.inl ⟨by simp [hel0],rfl⟩⟩
    ·obtain ⟨e',n',hsh⟩:=hrow (by omega)
     obtain ⟨v,_,hspot,_⟩:=hcell 0 (by omega) 0 (by omega);obtain ⟨hf1,hf2⟩:=hfl cap (Nat.le_refl _);obtain ⟨hf3,hf4⟩:=hfl len hlc;have htot:a.off+cap * P.cellsOf e≤n':=by
      have h3:cap * P.cellsOf e-1<((List.range cap).map C).flatten.length:=by
       have:0<cap * P.cellsOf e:=Nat.mul_pos (by omega) hn1
       omega
      have h4:=hf2 _ _ (List.getElem?_eq_getElem h3);unfold World.cell? at h4;unfold World.shape? at hsh
      split at h4
      ·rename_i c el fz hh
       rw [hh] at hsh;simp only [Option.some.injEq,Prod.mk.injEq] at hsh
       split at h4
       ·cases h4
       ·have:=(Array.getElem?_eq_some_iff.1 h4).1
        dsimp only at this;have h0:0<cap * P.cellsOf e:=Nat.mul_pos (by omega) hn1;omega
      ·cases h4
     have hlm:len * P.cellsOf e≤cap * P.cellsOf e:=Nat.mul_le_mul_right _ hlc;obtain ⟨q1,q2,q3,q4⟩:=HR.pushRo g3 g4 (l:=⟨a.block,a.off,n',false⟩) (cs:=ass.flatten) (tA1 hsh) ⟨⟨e',hsh⟩,by have:=hvf.length;simp only;rw [← this,hf3];omega,fun i x hx=>by
      obtain ⟨y,h3,h4⟩:=hvf.get hx;exact ⟨y,hf4 i y h3,h4⟩⟩
     refine ⟨_,_,[.slice (some (h1.next,0)) (elems.map (·.1)).length (elems.map (·.1)).length (P.cellsOf e)],fun A l hA=>q4 A l (g1 A l hA),g2.trans q3,q1,q2,VRs.cons ?_ VRs.nil,.slice hu Tr.get_set_same (Nat.lt_succ_self _) (by simp;omega) (by simp [g5,hlen]) fun i a' d ha hd=>?_⟩
     ·simp only [VR]
      refine ⟨⟨a.block,a.off,n',false⟩,a,cap,by simp [Mu.add],by simp [hlen],Nat.le_refl _,.inr ⟨?_,by simp [hlen,hlc],by simpa using htot,by simp⟩⟩;cases a;simp only at hspot ⊢;rw [hspot];rfl
     ·have hi:i<len:=by have:=(List.getElem?_eq_some_iff.1 ha).1;omega
      rw [hds i hi] at hd;cases hd;exact Rd.mono q3 (g6 i a' _ ha (gi i hi)).2
  ·
   rename_i fs hu;obtain ⟨xs,n,hfu,hx,hcl,hxl,hf⟩:=DataW.trod_struct hu h;obtain rfl:fuel=n:=by omega
   simp only [Prod.mk.injEq] at hx;obtain ⟨rfl,_⟩:=hx;obtain ⟨hfl,hin⟩:=bY fs.toList 0 _ cs hp hcl (Nat.zero_le _);have hopen:∀ x∈(List.range fs.size).map (fun i=>(((fs.getD i default).type,(cs.drop (fs.getD i default).offset).take (P.cellsOf (fs.getD i default).type),(xs.getD i (.nil,[])).1):TypeId×List Value×DataW H)),cAq P w x.1 x.2.1 x.2.2:=by
    intro x hx;obtain ⟨i,hi,rfl⟩:=List.mem_map.1 hx;have hi:i<fs.size:=by simpa using hi
    have hfi:fs[i]? = some (fs.getD i default):=by simp [Array.getD,hi]
    have h3:=hf i _ hfi;have h4:xs[i]? = some ((xs.getD i (.nil,[])).1,(xs.getD i (.nil,[])).2):=by simp [List.getD,List.getElem?_eq_getElem (show i<xs.length by omega)]
    refine pZ hS fuel _ _ _ _ (hin _ ?_) (h3.trans h4) (fun a ha=>hz a ?_)
    ·simpa using Array.mem_of_getElem? hfi
    ·exact List.mem_of_mem_drop (List.mem_of_mem_take ha)
   obtain ⟨μ1,h1,ass,g1,g2,g3,g4,g5,g6⟩:=yP _ hopen μ h0 hr hro;simp only [List.length_map,List.length_range] at g5;have gi:∀ i,i<fs.size→((List.range fs.size).map (fun i=>(((fs.getD i default).type,(cs.drop (fs.getD i default).offset).take (P.cellsOf (fs.getD i default).type),(xs.getD i (.nil,[])).1):TypeId×List Value×DataW H)))[i]? = some ((fs.getD i default).type,(cs.drop (fs.getD i default).offset).take (P.cellsOf (fs.getD i default).type),(xs.getD i (.nil,[])).1):=fun i hi=>by simp [hi]
   refine ⟨μ1,h1,ass.flatten,g1,g2,g3,g4,?_,.struct hu (by omega) (by simp [hxl]) fun i f a d hfi ha hd=>?_⟩
   ·have h3:VRs μ1 ass.flatten ((fs.toList.map fun f=>(cs.drop f.offset).take (P.cellsOf f.type))).flatten:=VRs.flatten (by simp [g5]) fun i a c ha hc=>by
     have hi:i<fs.size:=by have:=(List.getElem?_eq_some_iff.1 ha).1;omega
     have h4:=(g6 i a _ ha (gi i hi)).1;simp [hi] at hc;subst hc;simpa [Array.getD,hi] using h4
    rw [hfl] at h3;simpa using h3
   ·have hi:i<fs.size:=(Array.getElem?_eq_some_iff.1 hfi).1
    have h4:=(g6 i a _ ha (gi i hi)).2;have e1:fs.getD i default=f:=by
     have:=(Array.getElem?_eq_some_iff.1 hfi).2
     simp [Array.getD,hi,this]
    have e2:(xs.getD i (.nil,[])).1=d:=by
     have hxi:xs[i]? = some xs[i]:=List.getElem?_eq_getElem (by omega);simp [hxi] at hd;simp [List.getD,hxi,hd]
    rw [e1,e2] at h4;exact h4
  ·
   rename_i n e hu;simp only [Bool.and_eq_true] at hp;have he:e∈S:=kD.1 hp.1;have hsz:=Nat.eq_of_beq_eq_true hp.2;unfold DataW.trod at h;rw [hu] at h;simp only [Option.ite_none_right_eq_some,Option.map_eq_some_iff,Prod.mk.injEq] at h;obtain ⟨hcl,xs,hxs,rfl,_⟩:=h;have hxl:xs.length=n:=by simpa using mapM_some_length hxs
   have hopen:∀ x∈(List.range n).map (fun i=>((e,(cs.drop (i * P.cellsOf e)).take (P.cellsOf e),(xs.getD i (.nil,[])).1):TypeId×List Value×DataW H)),cAq P w x.1 x.2.1 x.2.2:=by
    intro x hx;obtain ⟨i,hi,rfl⟩:=List.mem_map.1 hx;have hi:i<n:=by simpa using hi
    have h3:=mapM_some_get hxs i i (by simp [hi]);have h4:xs[i]? = some ((xs.getD i (.nil,[])).1,(xs.getD i (.nil,[])).2):=by simp [List.getD,List.getElem?_eq_getElem (show i<xs.length by omega)]
    refine pZ hS fuel _ _ _ _ he (h3.trans h4) (fun a ha=>hz a ?_)
    exact List.mem_of_mem_drop (List.mem_of_mem_take ha)
   obtain ⟨μ1,h1,ass,g1,g2,g3,g4,g5,g6⟩:=yP _ hopen μ h0 hr hro;simp only [List.length_map,List.length_range] at g5;have gi:∀ i,i<n→((List.range n).map (fun i=>((e,(cs.drop (i * P.cellsOf e)).take (P.cellsOf e),(xs.getD i (.nil,[])).1):TypeId×List Value×DataW H)))[i]? = some (e,(cs.drop (i * P.cellsOf e)).take (P.cellsOf e),(xs.getD i (.nil,[])).1):=fun i hi=>by simp [hi]
   refine ⟨μ1,h1,ass.flatten,g1,g2,g3,g4,?_,.array hu (by omega) (by simp [hxl]) fun i a d ha hd=>?_⟩
   ·have h3:VRs μ1 ass.flatten (((List.range n).map fun i=>(cs.drop (i * P.cellsOf e)).take (P.cellsOf e))).flatten:=VRs.flatten (by simp [g5]) fun i a c ha hc=>by
     have hi:i<n:=by have:=(List.getElem?_eq_some_iff.1 ha).1;omega
     have h4:=(g6 i a _ ha (gi i hi)).1;simp [hi] at hc;subst hc;exact h4
    rw [chunks_flatten (P.cellsOf e) n cs (by omega)] at h3;exact h3
   ·have hi:i<n:=by have:=(List.getElem?_eq_some_iff.1 ha).1;omega
    have h4:=(g6 i a _ ha (gi i hi)).2;have e2:(xs.getD i (.nil,[])).1=d:=by
     have hxi:xs[i]? = some xs[i]:=List.getElem?_eq_getElem (by omega);simp [hxi] at hd;simp [List.getD,hxi,hd]
    rw [e2] at h4;exact h4
  ·simp at hp
theorem uA1 {β:Type}:∀ (l:List β) (k:Nat) (f:Nat→Option β),(∀ i,i<l.length→f (k+i)=l[i]?)→(List.range' k l.length).mapM f=some l
 | [],k,f,_=>rfl
 | x::r,k,f,h=>by
  have h0:=h 0 (by simp);have ih:=uA1 r (k+1) f (fun i hi=>by have:=h (i+1) (by simpa using hi);rw [show k+1+i=k+(i+1) by omega];simpa using this);simp only [List.length_cons,List.range'_succ,List.mapM_cons];simp at h0;rw [h0,ih];rfl
theorem aQ {S:List TypeId} (hS:plainB P S=true) {w':World} {sp:Nat→Bool}:∀ (fuel:Nat) (t:TypeId) (cs:List Value) (x:DataW H×List MemPlace),t∈S→DataW.trod enc P w' 0 (fun _=>true) true fuel t cs=some x→
  (∀ p∈x.2,sp p.block=true)→DataW.trod enc P w' 0 sp true fuel t cs=some x
 | 0,t,cs,x,_,h,_=>by simp [DataW.trod] at h
 | fuel+1,t,cs,x,ht,h,hs=>by
  have hp:=List.all_eq_true.1 hS t ht;unfold bAq at hp
  split at hp
  ·rename_i hu
   obtain ⟨b,rfl,rfl⟩:=DataW.trod_bool hu h;simp [DataW.trod,hu]
  ·rename_i k hu
   obtain ⟨n,rfl,rfl,hw⟩:=DataW.trod_int hu h;simp [DataW.trod,hu,hw]
  ·rename_i hu
   obtain ⟨s,rfl,rfl,hw⟩:=DataW.trod_string hu h;simp [DataW.trod,hu,hw]
  ·rename_i e hu
   simp only [Bool.and_eq_true] at hp;have he:e∈S:=kD.1 hp.1;have hn1:1≤P.cellsOf e:=by simpa using hp.2
   rcases DataW.trod_slice hu h with ⟨rfl,rfl⟩ | ⟨a,len,cap,elems,rest,n,hfu,rfl,rfl,hb,hlc,hcm,hlen,hel,hsp,_⟩
   ·simp [DataW.trod,hu]
   ·obtain rfl:fuel=n:=by omega
    obtain ⟨hrl,hre⟩:=hsp rfl;have one:∀ (i:Nat) (y:DataW H×List MemPlace),y∈elems++rest→
      (w'.cells? 0 (a.add (i * P.cellsOf e)) (P.cellsOf e)).bind (DataW.trod enc P w' 0 (fun _=>true) true fuel e)=some y→(w'.cells? 0 (a.add (i * P.cellsOf e)) (P.cellsOf e)).bind (DataW.trod enc P w' 0 sp true fuel e)=some y:=by
     intro i y hy hv;simp only [Option.bind_eq_some_iff] at hv ⊢;obtain ⟨cs',hc',hy'⟩:=hv;refine ⟨cs',hc',aQ hS fuel e cs' y he hy' (fun p hp=>hs p ?_)⟩;simp only [List.mem_append,List.mem_flatMap]
     right
     exact ⟨y,by simpa using hy,hp⟩
    have tot:∀ {β:Type} (f:Nat→Option β) (l:List β),(∀ i,i<l.length→f i=l[i]?)→(List.range l.length).mapM f=some l:=by
     intro β f l hf;rw [List.range_eq_range'];exact uA1 l 0 f (fun i hi=>by rw [Nat.zero_add];exact hf i hi)
    have m1:(List.range len).mapM (fun i=>(w'.cells? 0 (a.add (i * P.cellsOf e)) (P.cellsOf e)).bind (DataW.trod enc P w' 0 sp true fuel e))=some elems:=by
     rw [← hlen];refine tot _ _ fun i hi=>?_;have h1:=hel i (by omega);rw [List.getElem?_eq_getElem hi] at h1 ⊢;exact one i _ (by simp) h1
    have m2:(if sp a.block then (List.range (cap-len)).mapM fun j=>(w'.cells? 0 (a.add ((len+j) * P.cellsOf e)) (P.cellsOf e)).bind (DataW.trod enc P w' 0 sp true fuel e) else some [])=some rest:=by
     split
     ·rw [← hrl]
      refine tot _ _ fun i hi=>?_;have h1:=hre i (by omega);rw [List.getElem?_eq_getElem hi] at h1 ⊢;exact one (len+i) _ (by simp) h1
     ·rename_i hsp
      cases hr0:rest with
      | nil=>rfl
      | cons y r=>
       exfalso
       apply hsp
       refine hs (.cell a.block (a.off+0)) ?_;simp only [List.mem_append]
       left
       refine MemPlace.mem_row.2 ⟨0,?_,rfl⟩;rw [hr0];simp only [List.length_cons];exact Nat.mul_pos (by omega) hn1
    rw [DataW.trod_step];unfold DataW.trodStep;rw [hu];simp only [m1,m2,Nat.zero_le,hlc,hcm,and_self,if_true,Option.bind_some,Option.map_some]
  ·rename_i fs hu
   obtain ⟨hfl,hin⟩:True∧∀ f∈fs.toList,f.type∈S:=by
    have:∀ (fs:List Field) (off tot:Nat),kA4 P S fs off tot=true→∀ f∈fs,f.type∈S:=by
     intro fs
     induction fs with
     | nil=>intro off tot _ f hf;simp at hf
     | cons f r ih=>
      intro off tot h g hg;simp only [kA4,Bool.and_eq_true] at h;rcases List.mem_cons.1 hg with rfl | hg
      ·exact kD.1 h.1.2
      ·exact ih _ _ h.2 g hg
    exact ⟨trivial,this _ _ _ hp⟩
   rw [DataW.trod_step] at h ⊢;unfold DataW.trodStep at h ⊢;rw [hu] at h ⊢;simp only [Option.ite_none_right_eq_some,Option.map_eq_some_iff] at h ⊢;obtain ⟨hc,xs,hx,rfl⟩:=h;exact ⟨hc,xs,mapM_carry hx (fun f y hf hy hv=>aQ hS fuel _ _ y (hin f hf) hv (fun p hp=>hs p (List.mem_flatMap.2 ⟨y,hy,hp⟩))),rfl⟩
  ·rename_i n e hu
   simp only [Bool.and_eq_true] at hp;have he:e∈S:=kD.1 hp.1;rw [DataW.trod_step] at h ⊢;unfold DataW.trodStep at h ⊢;rw [hu] at h ⊢;simp only [Option.ite_none_right_eq_some,Option.map_eq_some_iff] at h ⊢;obtain ⟨hc,xs,hx,rfl⟩:=h;exact ⟨hc,xs,mapM_carry hx (fun f y hf hy hv=>aQ hS fuel _ _ y he hv (fun p hp=>hs p (List.mem_flatMap.2 ⟨y,hy,hp⟩))),rfl⟩
  ·simp at hp
theorem aU {S:List TypeId} (hS:plainB P S=true) {w':World} {sp:Nat→Bool}:∀ {ts:List TypeId} {vs:List Value} {ds:List (DataW H)} {ps:List MemPlace},(∀ t∈ts,t∈S)→DataW.TrodAll enc P w 0 (fun _=>true) true ts vs ds ps→
  (∀ p∈ps,w.sameAt w' p)→(∀ p∈ps,sp p.block=true)→DataW.TrodAll enc P w' 0 sp true ts vs ds ps
 | [],[],[],ps,_,h,_,_=>h
 | t::ts,v::vs,d::ds,ps,hS',h,h1,h2=>by
  obtain ⟨p,q,⟨fuel,h3⟩,h4,rfl⟩:=h;refine ⟨p,q,⟨fuel,?_⟩,aU hS (fun t ht=>hS' t (List.mem_cons_of_mem _ ht)) h4 (fun x hx=>h1 x (by simp [hx])) (fun x hx=>h2 x (by simp [hx])),rfl⟩;exact aQ hS fuel t _ _ (hS' t List.mem_cons_self) (DataW.trod_carry fuel _ _ _ h3 fun x hx=>h1 x (by simp [hx])) (fun x hx=>h2 x (by simp at hx;simp [hx]))
 | [],_::_,_,_,_,h,_,_=>by simp [DataW.TrodAll] at h
 | [],[],_::_,_,_,h,_,_=>by simp [DataW.TrodAll] at h
 | _::_,[],_,_,_,h,_,_=>by simp [DataW.TrodAll] at h
 | _::_,_::_,[],_,_,h,_,_=>by simp [DataW.TrodAll] at h
def lA4 (P:Program) (t:TypeId) (cs:List AV):AV:=
 match P.underlying t with
 | some (.struct _)=>.agg cs
 | some (.array _ _)=>.agg cs
 | _=>cs.headD undefA
def RdArgs (P:Program) (h:Heap):List TypeId→List AV→List (DataW H)→Prop
 | [],[],[]=>True
 | t::ts,a::as,d::ds=>(∃ cs,a=lA4 P t cs∧Rd P h t cs d)∧RdArgs P h ts as ds
 | _,_,_=>False
theorem bU {r:Reach} {b:Nat} {u:TypeId} {a:Addr} {n m:Nat} (h:Cell.okWide P w r b u (.slice (some a) n m)):yAi w:=by
 unfold Cell.okWide at h
 split at h <;> try (rename_i heq;cases heq)
 unfold Cell.ok at h
 split at h <;> try (rename_i heq;cases heq)
 all_goals first | (obtain ⟨_,_,_,_,row,cells,hs,_⟩:=h;exact ⟨_,_,_,hs⟩) | (exfalso;simp_all;done) | skip
theorem wA7 {t:TypeId} {v:Value} {a:Addr} (h:Value.okWide P w .any bs t v) (hm:.slice (some a) 0 0∈v.cells.toList):yAi w:=by
 unfold Value.okWide at h;have single:∀ {v:Value},(∀ cs,v≠.agg cs)→.slice (some a) 0 0∈v.cells.toList→v=.slice (some a) 0 0:=by
  intro v hv hm;have hc:v.cells.toList=[v]:=by
   cases v with
   | agg cs=>exact absurd rfl (hv cs)
   | _=>rfl
  rw [hc] at hm;exact (List.mem_singleton.1 hm).symm
 have bA8:∀ {cs:Array Value},Row.okWide P w .any bs t cs→.slice (some a) 0 0∈cs.toList→yAi w:=by
  rintro cs ⟨ts,_,_,h⟩ hm;obtain ⟨i,hi⟩:=List.mem_iff_getElem?.1 hm;obtain ⟨u,_,h3⟩:=h i _ (by simpa using hi);exact bU h3
 split at h
 ·obtain ⟨cs,rfl,_,h⟩:=h;exact bA8 h (by simpa [Value.cells] using hm)
 ·obtain ⟨cs,rfl,_,h⟩:=h;exact bA8 h (by simpa [Value.cells] using hm)
 ·rename_i hn1 hn2
  by_cases hv:∃ cs,v=.agg cs
  ·obtain ⟨cs,rfl⟩:=hv
   exfalso
   unfold Cell.okWide at h
   split at h <;> try (rename_i heq;cases heq)
   unfold Cell.ok at h
   split at h <;> try (rename_i heq;cases heq)
   all_goals first | exact h | (simp_all;done)
  ·have:=single (fun cs e=>hv ⟨cs,e⟩) hm
   subst this;exact bU h
theorem kB8 {μ:Mu} {h:Heap} {t:TypeId} {v:Value} {as:List AV} {d:DataW H} (hok:Value.okWide P w .any bs t v) (hv:VRs μ as v.cells.toList) (hr:Rd P h t as d):VR μ (lA4 P t as) v:=by
 unfold Value.okWide at hok;have one:(∀ fs,P.underlying t≠some (.struct fs))→(∀ n e,P.underlying t≠some (.array n e))→∃ x,as=[x]∧lA4 P t as=x:=by
  intro h1 h2;have ha:lA4 P t as=as.headD undefA:=by
   unfold lA4;split
   ·rename_i fs hu;exact absurd hu (h1 fs)
   ·rename_i n e hu;exact absurd hu (h2 n e)
   ·rfl
  cases hr with
  | bool hu=>exact ⟨_,rfl,ha⟩
  | int hu=>exact ⟨_,rfl,ha⟩
  | str hu=>exact ⟨_,rfl,ha⟩
  | nil hu=>exact ⟨_,rfl,ha⟩
  | slice hu=>exact ⟨_,rfl,ha⟩
  | struct hu=>exact absurd hu (h1 _)
  | array hu=>exact absurd hu (h2 _ _)
 split at hok
 ·rename_i fs hu
  obtain ⟨cs,rfl,_⟩:=hok;simp only [lA4,hu,VR];exact ⟨cs,rfl,by simpa [Value.cells] using hv⟩
 ·rename_i n e hu
  obtain ⟨cs,rfl,_⟩:=hok;simp only [lA4,hu,VR];exact ⟨cs,rfl,by simpa [Value.cells] using hv⟩
 ·rename_i h1 h2
  obtain ⟨x,rfl,hx⟩:=one h1 h2;rw [hx];have hna:∀ cs,v≠.agg cs:=by
   rintro cs rfl;unfold Cell.okWide at hok
   split at hok <;> try (rename_i heq;cases heq)
   unfold Cell.ok at hok
   split at hok <;> try (rename_i heq;cases heq)
   all_goals first | exact hok | (simp_all;done)
  have hc:v.cells.toList=[v]:=by
   cases v with
   | agg cs=>exact absurd rfl (hna cs)
   | _=>rfl
  rw [hc] at hv;simp only [VRs] at hv;obtain ⟨y,ys,h3,h4,_⟩:=hv;cases h3;exact h4
theorem cU {S:List TypeId} (hS:plainB P S=true):∀ {ts:List TypeId} {vs:List Value} {ds:List (DataW H)} {ps:List MemPlace},(∀ t∈ts,t∈S)→DataW.TrodAll enc P w 0 (fun _=>true) true ts vs ds ps→
  (∀ (j:Nat) t v,ts[j]? = some t→vs[j]? = some v→Value.okWide P w .any bs t v)→∀ μ h,HR μ h w→Rof h→
  ∃ μ' h' as,μ.le μ'∧HLe h h'∧HR μ' h' w∧Rof h'∧VRs μ' as vs∧RdArgs P h' ts as ds
 | [],[],[],ps,_,_,_,μ,h,hr,hro=>⟨μ,h,[],Mu.le_refl μ,HLe.refl h,hr,hro,VRs.nil,trivial⟩
 | t::ts,v::vs,d::ds,ps,hS',hA,hok,μ,h,hr,hro=>by
  obtain ⟨p,q,⟨fuel,h3⟩,h4,rfl⟩:=hA;obtain ⟨μ1,h1,as,g1,g2,g3,g4,g5,g6⟩:=pZ hS fuel t _ d p (hS' t List.mem_cons_self) h3 (fun a ha=>wA7 (hok 0 t v rfl rfl) ha) μ h hr hro;obtain ⟨μ2,h2,ass,k1,k2,k3,k4,k5,k6⟩:=cU hS (fun t ht=>hS' t (List.mem_cons_of_mem _ ht)) h4 (fun j t v h5 h6=>hok (j+1) t v (by simpa using h5) (by simpa using h6)) μ1 h1 g3 g4;exact ⟨μ2,h2,lA4 P t as::ass,fun A l hA=>k1 A l (g1 A l hA),g2.trans k2,k3,k4,VRs.cons (VR.mono k1 _ _ (kB8 (hok 0 t v rfl rfl) g5 g6)) k5,⟨as,rfl,g6.mono k2⟩,k6⟩
 | [],_::_,_,_,_,h,_,_,_,_,_=>by simp [DataW.TrodAll] at h
 | [],[],_::_,_,_,h,_,_,_,_,_=>by simp [DataW.TrodAll] at h
 | _::_,[],_,_,_,h,_,_,_,_,_=>by simp [DataW.TrodAll] at h
 | _::_,_::_,[],_,_,h,_,_,_,_,_=>by simp [DataW.TrodAll] at h
theorem Rof.ext_below {h:Heap} (hro:Rof h) {μ μ':Mu} {h':Heap} {w':World} (hx:Ext μ h w μ' h' w'):Below w.heap.size w w':=
 ⟨hx.os,hx.tape,hx.output,hx.size,fun k hk=>hx.frame k hk fun A l _ _ hw=>by
  obtain ⟨b,h1,h2⟩:=hw;obtain ⟨cs,rfl⟩:=hro.ro A b h1;cases h2⟩
theorem gBf {S:List TypeId} (hS:plainB P S=true) {f:FuncId} {ts:List TypeId} (hts:∀ t∈ts,t∈S) {l:List VTy} {F:lH l→Heap→Option (Bool×Heap)} (hF:gD P f l (.val (.one .bool)) F)
  (hlaw:∀ (h:Heap) (as:List AV) (ds:List (DataW H)),Rof h→RdArgs P h ts as ds→∃ xs h',VTy.tos l xs=as∧F xs h=some (true,h'))
  {args:Array Value} {ds:List (DataW H)} {ps:List MemPlace} (hA:DataW.TrodAll enc P w 0 (fun _=>true) true ts args.toList ds ps)
  (hok:∀ (j:Nat) t v,ts[j]? = some t→args[j]? = some v→Value.okWide P w .any bs t v) :
  Calls P f args w fun e w'=>e=.returned (.bool true)∧Below w.heap.size w w':=by
 obtain ⟨μ,h,as,_,_,hr,hro,hv,hrd⟩:=cU hS hts hA (fun j t v h1 h2=>hok j t v h1 (by simpa using h2)) (fun _=>none) pAb (lAp w) ⟨fun A b h=>(by cases h),fun A _=>by simp [pAb,Tr.get_nil]⟩;obtain ⟨xs,h',rfl,hx⟩:=hlaw h as ds hro hrd;refine (hF xs h true h' hx μ w args hr hv).2.mono ?_;rintro e w' ⟨u,rfl,μ',h1,_,h3⟩;simp only [Ty.to,VTy.to,CTy.to,VR] at h1;exact ⟨by rw [h1],hro.ext_below h3⟩
end
end Ai
namespace Ai
open Go.WideShapes Go.ChangeShapes Go.ChangeAt Go.RowKit
open Go.RowKit (Below)
variable {H:Type} {enc:TypeId×Value→H} {P:Program} {bs:Nat}
theorem tAl {ts:List TypeId} {vars:List String} {apart:Bool} {W W':World} {vs:List Value} {ds gs:List (DataW H)} {ps:List MemPlace} (hW:DataW.Whole enc P ts vars apart W vs ds gs ps) (hb:Below W.heap.size W W'):∀ p∈ps,W.sameAt W' p:=by
 intro p hp;have hlt:=hW.lt p hp
 cases p with
 | cell b off=>exact hb.cell (p:=⟨b,off,none⟩) hlt
 | map b=>exact hb.block b hlt
theorem law_post {S:List TypeId} (hS:plainB P S=true) {f:Func} {s:ChangeSpec} {apart fresh handsOn again:Bool} (hts:∀ t∈f.params.toList,t∈S) (hvars:s.vars=[]) {n:Nat} (hn:f.params.toList.length=n)
  (hspec:∀ ds:List (DataW H),ds.length=n→s.fn H ds = { results:=[.lit (.bool true)],args:=ds }) {tb:TypeId} (hres:f.resultTypes.toList=[tb]) (hsz:f.resultTypes.size=1) (htb:P.underlying tb=some .bool)
  {W:World} {args:Array Value} {ds gs:List (DataW H)} {before:List MemPlace} (hW:DataW.Whole enc P f.params.toList s.vars apart W args.toList ds gs before)
  {W':World} (hb:Below W.heap.size W W')
  (hok:∀ (j:Nat) (t:TypeId) (r:Value),f.resultTypes[j]? = some t→((Value.bool true).resultList f.resultTypes.size)[j]? = some r→Value.okWide P W' .any 0 t r) :
  s.post enc P f apart fresh handsOn again W args (.bool true) W':=by
 have hW':=hW;obtain ⟨p,q,hA,hV,rfl,hfz,hnd⟩:=hW;rw [hvars] at hV;obtain ⟨rfl,rfl⟩:=trodVars_none hV;have hlen:ds.length=n:=by
  have:∀ {ts:List TypeId} {vs:List Value} {ds:List (DataW H)} {ps:List MemPlace},DataW.TrodAll enc P W 0 (fun _=>true) true ts vs ds ps→ds.length=ts.length:=by
   intro ts
   induction ts with
   | nil=>intro vs ds ps h;cases vs <;> cases ds <;> simp [DataW.TrodAll] at h ⊢
   | cons t ts ih=>
    intro vs ds ps h;cases vs <;> cases ds <;> simp [DataW.TrodAll] at h ⊢;obtain ⟨_,_,_,h2,_⟩:=h;exact ih h2
  exact (this hA).trans hn
 have hsp:s.fn H (ds++[]) = { results:=[.lit (.bool true)],args:=ds }:=by rw [List.append_nil];exact hspec ds hlen
 have hres':(Value.bool true).resultList f.resultTypes.size=[.bool true]:=by rw [hsz];rfl
 refine qA7 (pa:=p) (pv:=[]) hW' ?_ ?_ ?_ rfl hb hok
 ·intro b sp hd
  rw [hsp,hres',hres];exact trodAll_cons_mk (shut_bool htb _) trodAll_mk0
 ·intro sp hs
  rw [hsp];refine aU hS hts hA (fun x hx=>tAl hW' hb x (by simp [hx])) (fun x hx=>hs x (by simp [hx]))
 ·intro sp hs
  rw [hsp,hvars];rfl
end Ai
namespace Ai
open Go.ChangeShapes Go.WideShapes
section
variable {H:Type} {P:Program} {h h':Heap}
theorem Rd.str_inv {t:TypeId} {as:List AV} {d:DataW H} (hu:P.underlying t=some .string) (hx:Rd P h t as d):∃ s,as=[.str s]∧d=.lit (.string s)∧s.length≤9223372036854775807:=by
 cases hx with
 | str h1 h2=>exact ⟨_,rfl,rfl,h2⟩
 | _=>simp_all
def SL.at (s:SL) (i n:Nat):Nat×Nat:=((s.a.getD (0,0)).1,(s.a.getD (0,0)).2+i * n)
theorem dU {β:Type} {s:SL} {i n:Nat} (hs:s.a.isSome=true) (hi:i<s.len) (K:Nat×Nat→Option β):ixK s.a s.len (i:Int) n K=K (s.at i n):=by
 have hb:Nat.blt i s.len=true:=by simpa [Nat.blt_eq] using hi
 obtain ⟨q,hq⟩:=Option.isSome_iff_exists.1 hs;show (match (Int.ofNat i) with | .ofNat j=>bif Nat.blt j s.len then rA s.a fun q=>K (q.1,q.2+j * n) else none | .negSucc _=>none)=_;simp only [hb,cond_true,hq,dA,SL.at,Option.getD_some]
def jAv:Option Blk→Option (List AV)
 | some (.row cs .own)=>some cs
 | some (.row cs .grown)=>some cs
 | some (.row cs (.bytes _))=>some cs
 | some (.row cs (.ty _))=>some cs
 | some (.row cs .ro)=>some cs
 | _=>none
theorem vA1 (b:Option Blk) (i:Nat):wAp b i=(jAv b).bind fun cs=>cs[i]?:=by
 unfold wAp jAv
 split <;> simp [List.head?_drop]
theorem uAl (b:Option Blk) (i n:Nat):yAb b i n=(jAv b).bind fun cs=>(takeN n (cs.drop i)).map AV.agg:=by
 unfold yAb jAv;split <;> simp
def Sees (h:Heap) (s:SL) (vs:List AV):Prop:=
 vs.length=s.len * s.sz∧(s.a=none→s.len=0)∧∀ A off,s.a=some (A,off)→A<h.next∧∃ cs,jAv (h.g A)=some cs∧(cs.drop off).take vs.length=vs
theorem Sees.isSome {s:SL} {vs:List AV} (hx:Sees h s vs) (hl:0<s.len):s.a.isSome=true:=by
 cases ha:s.a with
 | none=>have:=hx.2.1 ha;omega
 | some q=>rfl
structure Keep (B:Nat) (h h':Heap):Prop where
 g:∀ A,A<B→h'.g A=h.g A
 next:h.next≤h'.next
theorem Sees.nilS (h:Heap) (sz:Nat):Sees h ⟨none,0,0,sz⟩ []:=⟨by simp,fun _=>rfl,fun A off ha=>by simp at ha⟩
theorem RdArgs.cons_inv {t:TypeId} {ts:List TypeId} {vs:List AV} {ds:List (DataW H)} (hx:RdArgs P h (t::ts) vs ds):∃ cs d vs' ds',vs=lA4 P t cs::vs'∧ds=d::ds'∧Rd P h t cs d∧RdArgs P h ts vs' ds':=by
 match vs,ds with
 | a::vs',d::ds'=>obtain ⟨⟨cs,rfl,h1⟩,h2⟩:=hx;exact ⟨cs,d,vs',ds',rfl,rfl,h1,h2⟩
 | [],_=>simp [RdArgs] at hx
 | _::_,[]=>simp [RdArgs] at hx
theorem RdArgs.nil_inv {vs:List AV} {ds:List (DataW H)} (hx:RdArgs P h [] vs ds):vs=[]∧ds=[]:=by
 match vs,ds with
 | [],[]=>exact ⟨rfl,rfl⟩
 | _::_,_=>simp [RdArgs] at hx
 | [],_::_=>simp [RdArgs] at hx
end
end Ai
namespace Ai
def SL.av (s:SL):AV:=.slice s.a s.len s.cap s.sz
def SL.blk (s:SL):Option Nat:=s.a.map (·.1)
section
variable {h h':Heap} {s:SL} {vs:List AV} {B:Nat}
structure But (o:Option Nat) (h h':Heap):Prop where
 g:∀ A,A<h.next→o≠some A→h'.g A=h.g A
 next:h.next≤h'.next
structure App1 (E:Env) (st e:TypeId):Prop where
 und:E.und st=some (.slice e)
 info:∃ i,E.info e=some i∧i.size=1∧i.bytes≤1000
 zero:∃ z,E.zero e=some z∧z.cells.length=1
theorem vI:∀ (n:Nat) (l:List AV),n≤l.length→takeN n l=some (l.take n)
 | 0,l,_=>by cases l <;> rfl
 | n+1,[],h=>by simp at h
 | n+1,x::r,h=>by simp only [takeN,vI n r (by simpa using h),List.take_succ_cons]
theorem aAj:∀ (n:Nat) (cs:List AV) (v:AV),n<cs.length→over n cs [v]=some (cs.set n v)
 | 0,c::cs,v,_=>by rw [yE,cG];rfl
 | n+1,c::cs,v,h=>by rw [aF,aAj n cs v (by simpa using h)];rfl
 | _,[],_,h=>by simp at h
end
end Ai
namespace Ai
section
variable {h h':Heap} {s x:SL} {vs ws:List AV} {B:Nat}
theorem eU:∀ (n:Nat) (cs ws:List AV),n+ws.length≤cs.length→over n cs ws=some (cs.take n++ws++cs.drop (n+ws.length))
 | n,cs,[],h=>by rw [cG];simp
 | 0,[],w::ws,h=>by simp at h
 | n+1,[],w::ws,h=>by simp at h
 | 0,c::cs,w::ws,h=>by
  rw [yE,eU 0 cs ws (by simpa using h)];simp
 | n+1,c::cs,w::ws,h=>by
  rw [aF,eU n cs (w::ws) (by simp at h ⊢;omega)];simp only [Option.map_some,List.take_succ_cons,List.cons_append,List.length_cons,Option.some.injEq,List.cons.injEq,true_and];rw [show n+1+(ws.length+1)=(n+(ws.length+1))+1 by omega,List.drop_succ_cons]
theorem wAe (A:Nat) {cs:List AV} (hr:jAv (h.g A)=some cs):h.row A=some cs:=by
 unfold Heap.g at hr;unfold Heap.row
 revert hr
 cases h.t.get A with
 | none=>intro hr;simp [jAv] at hr
 | some b=>
  cases b with
  | row cs' st=>cases st <;> simp [jAv]
  | _=>intro hr;simp [jAv] at hr
end
end Ai
namespace Ai
section
variable {P:Program}
def pB1 (P:Program) (f:FuncId) (l:List VTy) (t:Ty) (F:lH l→Heap→Option (t.den×Heap)):Prop:=
 ∀ xs h r h',F xs h=some (r,h')→∀ μ w (args':Array Value),HR μ h w→VRs μ (VTy.tos l xs) args'.toList→∃ u w',(callFunc f args').run P w=.ok (.value u) w'∧yB0 μ h w (t.to r) h' u w'
theorem yAe {f:FuncId} {l:List VTy} {t:Ty} {F:lH l→Heap→Option (t.den×Heap)} {C:CallK} (hF:pB1 P f l t F) (hC:CallKOK P C):CallKOK P (oJ f l t F C):=by
 constructor
 ·intro β g args h k b hx
  unfold oJ at hx
  cases hg:Nat.beq g f with
  | true=>
   simp only [hg,cond_true] at hx;obtain ⟨xs,rfl,h1⟩:=VTy.casts_spec hx;obtain ⟨r,h',h2,h3⟩:=cI h1;refine ⟨t.to r,h',?_,h3⟩;simp only [wE,oJ,hg,cond_true,VTy.casts_tos,h2,lA]
  | false=>
   simp only [hg,cond_false] at hx;obtain ⟨v,h',h1,h2⟩:=hC.nat hx;exact ⟨v,h',by simp only [wE,oJ,hg,cond_false];exact h1,h2⟩
 ·intro g args h v h' hx μ w args' hr hv
  simp only [wE,oJ] at hx
  cases hg:Nat.beq g f with
  | true=>
   simp only [hg,cond_true] at hx;obtain ⟨xs,rfl,h1⟩:=VTy.casts_spec hx;obtain ⟨r,h2,h3,h4⟩:=cI h1;simp only [Option.some.injEq,Prod.mk.injEq] at h4;obtain ⟨rfl,rfl⟩:=h4
   have:=Nat.eq_of_beq_eq_true hg
   subst this;exact .inl (hF xs h r h2 h3 μ w args' hr hv)
  | false=>
   simp only [hg,cond_false] at hx;exact hC.ok g args h v h' hx μ w args' hr hv
end
end Ai
namespace Ai
open Go.ChangeShapes Go.WideShapes
open Go.RowKit (Below)
section
variable {H:Type} {P:Program} {h:Heap}
theorem tBi {enc:TypeId×Value→H} {w:World} {bs:Nat} {S:List TypeId} (hS:plainB P S=true) {f:FuncId} {ts:List TypeId} (hts:∀ t∈ts,t∈S) {l:List VTy} {F:lH l→Heap→Option (Bool×Heap)} (hF:gD P f l (.val (.one .bool)) F)
  {args:Array Value} {ds:List (DataW H)} {ps:List MemPlace}
  (hlaw:∀ (h:Heap) (vs:List AV),Rof h→RdArgs P h ts vs ds→∃ xs h',VTy.tos l xs=vs∧F xs h=some (true,h'))
  (hA:DataW.TrodAll enc P w 0 (fun _=>true) true ts args.toList ds ps)
  (hok:∀ (j:Nat) t v,ts[j]? = some t→args[j]? = some v→Value.okWide P w .any bs t v) :
  Calls P f args w fun e w'=>e=.returned (.bool true)∧Below w.heap.size w w':=by
 obtain ⟨μ,h,vs,_,hle,hr,hro,hv,hrd⟩:=cU hS hts hA (fun j t v h1 h2=>hok j t v h1 (by simpa using h2)) (fun _=>none) pAb (lAp w) ⟨fun A b h=>(by cases h),fun A _=>by simp [pAb,Tr.get_nil]⟩;obtain ⟨xs,h',rfl,hx⟩:=hlaw h vs hro hrd;refine (hF xs h true h' hx μ w args hr hv).2.mono ?_;rintro e w' ⟨u,rfl,μ',h1,_,h3⟩;simp only [Ty.to,VTy.to,CTy.to,VR] at h1;exact ⟨by rw [h1],hro.ext_below h3⟩
end
end Ai
namespace Ai
open Go.ChangeShapes Go.WideShapes
inductive D where
 | b (x:Bool) | i (n:Int) | s (x:List UInt8) | l (xs:List D) | t (xs:List D)
mutual
def Dt (h:Heap) (V:Nat→Prop):D→List AV→Prop
 | .b x,cs=>cs=[.bool x]
 | .i n,cs=>cs=[.int .i64 n]
 | .s x,cs=>cs=[.str x]
 | .l xs,cs=>∃ (s:SL) (vs:List AV),cs=[s.av]∧s.len=xs.length∧s.len≤s.cap∧(∀ A,s.blk=some A→V A)∧Sees h s vs∧De h V s.sz xs vs
 | .t xs,cs=>Dp h V xs cs
def Dp (h:Heap) (V:Nat→Prop):List D→List AV→Prop
 | [],cs=>cs=[]
 | x::r,cs=>∃ a b,cs=a++b∧Dt h V x a∧Dp h V r b
def De (h:Heap) (V:Nat→Prop) (n:Nat):List D→List AV→Prop
 | [],cs=>cs=[]
 | x::r,cs=>∃ a b,cs=a++b∧a.length=n∧Dt h V x a∧De h V n r b
end
structure Sl (h:Heap) (V:Nat→Prop) (s:SL) (xs:List D):Prop where
 len:s.len=xs.length
 cap:s.len≤s.cap
 blk:∀ A,s.blk=some A→V A
 els:∃ vs,Sees h s vs∧De h V s.sz xs vs
structure Chg (M:List Nat) (h h':Heap):Prop where
 g:∀ A,A<h.next→A ∉ M→h'.g A=h.g A
 next:h.next≤h'.next
 pins:h'.pins=h.pins
section
variable {h h' h'':Heap} {V W:Nat→Prop} {M N:List Nat}
theorem Chg.refl (M:List Nat) (h:Heap):Chg M h h:=⟨fun _ _ _=>rfl,Nat.le_refl _,rfl⟩
theorem Chg.trans (x:Chg M h h') (y:Chg M h' h''):Chg M h h'':=⟨fun A hA hM=>(y.g A (Nat.lt_of_lt_of_le hA x.next) hM).trans (x.g A hA hM),Nat.le_trans x.next y.next,y.pins.trans x.pins⟩
theorem Chg.mono (x:Chg M h h') (hs:∀ A,A∈M→A∈N):Chg N h h':=⟨fun A hA hM=>x.g A hA (fun e=>hM (hs A e)),x.next,x.pins⟩
theorem Chg.cut (x:Chg M h h') (hs:∀ A,A∈M→A<h.next→A∈N):Chg N h h':=⟨fun A hA hM=>x.g A hA (fun e=>hM (hs A e hA)),x.next,x.pins⟩
theorem Chg.step (x:Chg N h h') (y:Chg M h' h'') (hs:∀ A,A∈M→A<h.next→A∈N):Chg N h h'':=⟨fun A hA hM=>(y.g A (Nat.lt_of_lt_of_le hA x.next) (fun e=>hM (hs A e hA))).trans (x.g A hA hM),Nat.le_trans x.next y.next,y.pins.trans x.pins⟩
theorem Chg.push (x:Chg M h h') (b:Blk):Chg M h (h'.push b):=⟨fun A hA hM=>(qA1 b (by have:=x.next;omega)).trans (x.g A hA hM),by have:=x.next;simp;omega,x.pins⟩
theorem Chg.put (x:Chg M h h') {A:Nat} (hA:A∈M∨h.next≤A) (b:Blk):Chg M h (h'.put A b):=⟨fun C hC hM=>(mAw b (fun e=>by
  subst e;rcases hA with h1 | h1
  ·exact hM h1
  ·omega)).trans (x.g C hC hM),x.next,x.pins⟩
theorem Sees.chg {s:SL} {vs:List AV} (x:Sees h s vs) (c:Chg M h h') (hM:∀ A,s.blk=some A→A ∉ M):Sees h' s vs:=by
 refine ⟨x.1,x.2.1,fun A off ha=>?_⟩;obtain ⟨h1,cs,h2,h3⟩:=x.2.2 A off ha;exact ⟨Nat.lt_of_lt_of_le h1 c.next,cs,by rw [c.g A h1 (hM A (by simp [SL.blk,ha]))];exact h2,h3⟩
mutual
theorem Dt.chg (c:Chg M h h') (hM:∀ A,V A→A ∉ M):∀ {d:D} {cs:List AV},Dt h V d cs→Dt h' V d cs
 | .b _,_,x=>by simpa only [Dt] using x
 | .i _,_,x=>by simpa only [Dt] using x
 | .s _,_,x=>by simpa only [Dt] using x
 | .l xs,_,x=>by
  simp only [Dt] at x ⊢;obtain ⟨s,vs,h1,h2,h3,h4,h5,h6⟩:=x;exact ⟨s,vs,h1,h2,h3,h4,h5.chg c fun A hA=>hM A (h4 A hA),De.chg c hM h6⟩
 | .t xs,_,x=>by
  simp only [Dt] at x ⊢;exact Dp.chg c hM x
theorem Dp.chg (c:Chg M h h') (hM:∀ A,V A→A ∉ M):∀ {xs:List D} {cs:List AV},Dp h V xs cs→Dp h' V xs cs
 | [],_,x=>by simpa only [Dp] using x
 | d::r,_,x=>by
  simp only [Dp] at x ⊢;obtain ⟨a,b,h1,h2,h3⟩:=x;exact ⟨a,b,h1,Dt.chg c hM h2,Dp.chg c hM h3⟩
theorem De.chg (c:Chg M h h') (hM:∀ A,V A→A ∉ M) {n:Nat}:∀ {xs:List D} {cs:List AV},De h V n xs cs→De h' V n xs cs
 | [],_,x=>by simpa only [De] using x
 | d::r,_,x=>by
  simp only [De] at x ⊢;obtain ⟨a,b,h1,h0,h2,h3⟩:=x;exact ⟨a,b,h1,h0,Dt.chg c hM h2,De.chg c hM h3⟩
end
mutual
theorem Dt.weak (hW:∀ A,V A→A<h.next→W A):∀ {d:D} {cs:List AV},Dt h V d cs→Dt h W d cs
 | .b _,_,x=>by simpa only [Dt] using x
 | .i _,_,x=>by simpa only [Dt] using x
 | .s _,_,x=>by simpa only [Dt] using x
 | .l xs,_,x=>by
  simp only [Dt] at x ⊢;obtain ⟨s,vs,h1,h2,h3,h4,h5,h6⟩:=x;refine ⟨s,vs,h1,h2,h3,fun A hA=>hW A (h4 A hA) ?_,h5,De.weak hW h6⟩
  cases ha:s.a with
  | none=>simp [SL.blk,ha] at hA
  | some q=>obtain ⟨A',off⟩:=q;simp [SL.blk,ha] at hA;subst hA;exact (h5.2.2 _ off ha).1
 | .t xs,_,x=>by
  simp only [Dt] at x ⊢;exact Dp.weak hW x
theorem Dp.weak (hW:∀ A,V A→A<h.next→W A):∀ {xs:List D} {cs:List AV},Dp h V xs cs→Dp h W xs cs
 | [],_,x=>by simpa only [Dp] using x
 | d::r,_,x=>by
  simp only [Dp] at x ⊢;obtain ⟨a,b,h1,h2,h3⟩:=x;exact ⟨a,b,h1,Dt.weak hW h2,Dp.weak hW h3⟩
theorem De.weak (hW:∀ A,V A→A<h.next→W A) {n:Nat}:∀ {xs:List D} {cs:List AV},De h V n xs cs→De h W n xs cs
 | [],_,x=>by simpa only [De] using x
 | d::r,_,x=>by
  simp only [De] at x ⊢;obtain ⟨a,b,h1,h0,h2,h3⟩:=x;exact ⟨a,b,h1,h0,Dt.weak hW h2,De.weak hW h3⟩
end
theorem SL.av_inj {s t:SL} (h:s.av=t.av):s=t:=by
 obtain ⟨a,b,c,d⟩:=s;obtain ⟨a',b',c',d'⟩:=t;simp [SL.av] at h;obtain ⟨rfl,rfl,rfl,rfl⟩:=h;rfl
theorem uBi {xs:List D} {cs:List AV}:Dt h V (.l xs) cs↔∃ s:SL,cs=[s.av]∧Sl h V s xs:=by
 simp only [Dt];constructor
 ·rintro ⟨s,vs,h1,h2,h3,h4,h5,h6⟩;exact ⟨s,h1,h2,h3,h4,vs,h5,h6⟩
 ·rintro ⟨s,h1,h2,h3,h4,vs,h5,h6⟩;exact ⟨s,vs,h1,h2,h3,h4,h5,h6⟩
theorem aM {xs:List D} {s:SL}:Dt h V (.l xs) [s.av]↔Sl h V s xs:=by
 rw [uBi];constructor
 ·rintro ⟨t,h1,h2⟩;simp only [List.cons.injEq,and_true] at h1;rw [SL.av_inj h1];exact h2
 ·intro x;exact ⟨s,rfl,x⟩
theorem Sl.chg {s:SL} {xs:List D} (x:Sl h V s xs) (c:Chg M h h') (hM:∀ A,V A→A ∉ M):Sl h' V s xs:=aM.1 (Dt.chg c hM (aM.2 x))
theorem Sl.weak {s:SL} {xs:List D} (x:Sl h V s xs) (hW:∀ A,V A→A<h.next→W A):Sl h W s xs:=aM.1 (Dt.weak hW (aM.2 x))
theorem Sl.nil (h:Heap) (V:Nat→Prop) (z:Nat):Sl h V ⟨none,0,0,z⟩ []:=⟨rfl,Nat.le_refl _,fun A hA=>by simp [SL.blk] at hA,[],Sees.nilS h z,by simp [De]⟩
mutual
theorem Dt.single:∀ {d:D} {cs:List AV},Dt h V d cs→∀ v∈cs,AV.single v=true
 | .b _,_,x=>by simp only [Dt] at x;subst x;simp [AV.single]
 | .i _,_,x=>by simp only [Dt] at x;subst x;simp [AV.single]
 | .s _,_,x=>by simp only [Dt] at x;subst x;simp [AV.single]
 | .l xs,_,x=>by
  simp only [Dt] at x;obtain ⟨s,vs,h1,_⟩:=x;subst h1;simp [SL.av,AV.single]
 | .t xs,_,x=>by
  simp only [Dt] at x;exact Dp.single x
theorem Dp.single:∀ {xs:List D} {cs:List AV},Dp h V xs cs→∀ v∈cs,AV.single v=true
 | [],_,x=>by simp only [Dp] at x;subst x;simp
 | d::r,_,x=>by
  simp only [Dp] at x;obtain ⟨a,b,rfl,h2,h3⟩:=x;intro v hv;rcases List.mem_append.1 hv with hv | hv
  ·exact Dt.single h2 v hv
  ·exact Dp.single h3 v hv
end
theorem De.length {n:Nat}:∀ {xs:List D} {vs:List AV},De h V n xs vs→vs.length=xs.length * n
 | [],vs,x=>by simp only [De] at x;subst x;simp
 | d::r,vs,x=>by
  simp only [De] at x;obtain ⟨a,b,rfl,h0,_,h3⟩:=x;rw [List.length_append,h0,De.length h3,List.length_cons,Nat.succ_mul,Nat.add_comm]
theorem De.at {n:Nat}:∀ {xs:List D} {vs:List AV},De h V n xs vs→∀ (i:Nat) (hi:i<xs.length),∃ cs,cs.length=n∧Dt h V xs[i] cs∧∃ rest,vs.drop (i * n)=cs++rest
 | d::r,vs,x,0,_=>by
  simp only [De] at x;obtain ⟨a,b,rfl,h0,h1,h3⟩:=x;exact ⟨a,h0,h1,b,by simp⟩
 | d::r,vs,x,i+1,hi=>by
  simp only [De] at x;obtain ⟨a,b,rfl,h0,h1,h3⟩:=x;obtain ⟨cs,g1,g2,rest,g3⟩:=De.at h3 i (by simpa using hi);refine ⟨cs,g1,g2,rest,?_⟩;rw [Nat.succ_mul,List.drop_append,List.drop_eq_nil_of_le (by omega),List.nil_append,h0,Nat.add_sub_cancel];exact g3
theorem De.snoc {n:Nat}:∀ {xs:List D} {vs:List AV},De h V n xs vs→∀ {x:D} {cs:List AV},Dt h V x cs→cs.length=n→De h V n (xs++[x]) (vs++cs)
 | [],vs,hx,x,cs,h1,h2=>by
  simp only [De] at hx;subst hx;simp only [List.nil_append,De];exact ⟨cs,[],by simp,h2,h1,rfl⟩
 | d::r,vs,hx,x,cs,h1,h2=>by
  simp only [De] at hx;obtain ⟨a,b,rfl,h0,h3,h4⟩:=hx;simp only [List.cons_append,De];exact ⟨a,b++cs,by simp,h0,h3,De.snoc h4 h1 h2⟩
theorem De.append {n:Nat}:∀ {xs:List D} {vs:List AV},De h V n xs vs→∀ {ys:List D} {ws:List AV},De h V n ys ws→De h V n (xs++ys) (vs++ws)
 | [],vs,hx,ys,ws,h1=>by simp only [De] at hx;subst hx;simpa using h1
 | d::r,vs,hx,ys,ws,h1=>by
  simp only [De] at hx;obtain ⟨a,b,rfl,h0,h3,h4⟩:=hx;simp only [List.cons_append,De];exact ⟨a,b++ws,by simp,h0,h3,De.append h4 h1⟩
structure Elt (h:Heap) (V:Nat→Prop) (q:Nat×Nat) (n:Nat) (x:D) (cs:List AV):Prop where
 len:cs.length=n
 dt:Dt h V x cs
 cells:∀ j m,j+m≤n→h.cells (q.1,q.2+j) m=some (.agg ((cs.drop j).take m))
 cell:∀ j,j<n→h.cell (q.1,q.2+j)=cs[j]?
theorem Sl.elt {s:SL} {xs:List D} (x:Sl h V s xs) {i:Nat} (hi:i<xs.length):∃ cs,Elt h V (s.at i s.sz) s.sz xs[i] cs:=by
 obtain ⟨vs,hs,he⟩:=x.els;obtain ⟨cs,h1,h2,rest,h3⟩:=he.at i hi;have hl:i<s.len:=by rw [x.len];exact hi
 have hvl:=he.length;obtain ⟨g2,g3,g4⟩:=hs
 cases ha:s.a with
 | none=>have:=g3 ha;omega
 | some q=>
  obtain ⟨A,off⟩:=q;obtain ⟨_,bs,h5,h6⟩:=g4 A off ha;have hle:i * s.sz+s.sz≤s.len * s.sz:=by rw [← Nat.succ_mul];exact Nat.mul_le_mul_right _ hl
  have hlen:((bs.drop off).take vs.length).length=vs.length:=by rw [h6]
  rw [List.length_take,List.length_drop] at hlen;have hd:∀ j,j≤s.sz→((bs.drop (off+i * s.sz+j)).take (s.sz-j))=cs.drop j:=by
   intro j hj;have e1:(vs.drop (i * s.sz+j)).take (s.sz-j)=cs.drop j:=by
    rw [← List.drop_drop,h3,List.drop_append_of_le_length (by omega),List.take_append_of_le_length (by rw [List.length_drop];omega),List.take_of_length_le (by rw [List.length_drop];omega)]
   rw [← e1,← h6,List.drop_take,List.take_take,List.drop_drop,Nat.min_eq_left (by omega),Nat.add_assoc]
  refine ⟨cs,h1,h2,fun j m hjm=>?_,fun j hj=>?_⟩
  ·simp only [SL.at,ha,Option.getD_some,Heap.cells_g,uAl,h5,Option.bind_some]
   rw [vI _ _ (by rw [List.length_drop];omega)];simp only [Option.map_some,Option.some.injEq,AV.agg.injEq];rw [← hd j (by omega),List.take_take,Nat.min_eq_left (by omega)]
  ·simp only [SL.at,ha,Option.getD_some,Heap.cell_g,vA1,h5,Option.bind_some]
   have:=congrArg (fun l=>l[0]?) (hd j (by omega))
   simp only [List.getElem?_take,List.getElem?_drop,if_pos (show 0<s.sz-j by omega),Nat.add_zero] at this;exact this
theorem Sl.isSome {s:SL} {xs:List D} (x:Sl h V s xs) (hl:0<xs.length):s.a.isSome=true:=by
 obtain ⟨vs,hs,_⟩:=x.els;exact hs.isSome (by rw [x.len];exact hl)
theorem Sl.ix {s:SL} {xs:List D} (x:Sl h V s xs) {i:Nat} (hi:i<xs.length) {β:Type} (n:Nat) (K:Nat×Nat→Option β):ixK s.a s.len (i:Int) n K=K (s.at i n):=
 dU (x.isSome (by omega)) (by rw [x.len];exact hi) K
theorem Elt.whole {q:Nat×Nat} {n:Nat} {x:D} {cs:List AV} (e:Elt h V q n x cs):h.cells q n=some (.agg cs):=by
 have:=e.cells 0 n (by omega)
 rw [List.drop_zero,List.take_of_length_le (by rw [e.len];exact Nat.le_refl _)] at this;exact this
end
end Ai
namespace Ai
def AppN (E:Env) (st e:TypeId) (n W:Nat):Prop:=E.und st=some (.slice e)∧(∃ i,E.info e=some i∧i.size=n∧i.bytes+i.size+1≤W)∧∃ z,E.zero e=some z∧z.cells.length=n
def lB8 (E:Env) (st e:TypeId) (n W:Nat):Bool:=
 match E.und st with
 | some (.slice e')=>Nat.beq e' e&&(match E.info e with | some i=>Nat.beq i.size n&&Nat.ble (i.bytes+i.size+1) W | none=>false)&&(match E.zero e with | some z=>Nat.beq z.cells.length n | none=>false)
 | _=>false
theorem AppN.of {E:Env} {st e:TypeId} {n W:Nat} (h:lB8 E st e n W=true):AppN E st e n W:=by
 unfold lB8 at h
 split at h
 ·rename_i e' hu
  simp only [Bool.and_eq_true] at h;obtain ⟨⟨h1,h2⟩,h3⟩:=h;have h1:=Nat.eq_of_beq_eq_true h1;subst h1;refine ⟨hu,?_,?_⟩
  ·split at h2
   ·rename_i i hi
    simp only [Bool.and_eq_true,Nat.ble_eq] at h2;exact ⟨i,hi,Nat.eq_of_beq_eq_true h2.1,h2.2⟩
   ·cases h2
  ·split at h3
   ·rename_i z hz;exact ⟨z,hz,Nat.eq_of_beq_eq_true h3⟩
   ·cases h3
 ·cases h
def Ow (B:Nat) (h:Heap) (s:SL) (n:Nat) (xs:List D):Prop:=
 (s.a=none∧s.len=0∧s.cap=0∧xs=[])∨
 ∃ A cs st vs,s.a=some (A,0)∧s.sz=n∧B≤A∧A<h.next∧h.g A=some (.row cs st)∧s.len=xs.length∧cs.take vs.length=vs∧De h (fun C=>B≤C∧C≠A) n xs vs∧s.len≤s.cap∧(st=.grown∨(st=.own∧s.cap * n=cs.length))
section
variable {E:Env} {B:Nat} {h h':Heap} {s:SL} {n:Nat} {xs:List D} {M:List Nat}
theorem Ow.nil (B:Nat) (h:Heap) (z n:Nat):Ow B h ⟨none,0,0,z⟩ n []:=.inl ⟨rfl,rfl,rfl,rfl⟩
theorem Ow.len (x:Ow B h s n xs):s.len=xs.length:=by
 rcases x with ⟨_,h1,_,rfl⟩ | ⟨A,cs,st,vs,_,_,_,_,_,h1,_⟩
 ·exact h1
 ·exact h1
theorem Ow.ge (x:Ow B h s n xs):∀ A,s.blk=some A→B≤A∧A<h.next:=by
 intro A hA;rcases x with ⟨h1,_⟩ | ⟨A',cs,st,vs,h1,_,h3,h4,_⟩
 ·simp [SL.blk,h1] at hA
 ·simp [SL.blk,h1] at hA;subst hA;exact ⟨h3,h4⟩
theorem Ow.sl (x:Ow B h s n xs):Sl h (fun C=>B≤C) s xs:=by
 rcases x with ⟨h1,h2,h3,rfl⟩ | ⟨A,cs,st,vs,h1,h2,h3,h4,h5,h6,h7,h8,h9,h10⟩
 ·exact ⟨h2,by omega,fun A hA=>by simp [SL.blk,h1] at hA,[],⟨by simp [h2],fun _=>h2,fun A off ha=>by rw [h1] at ha;cases ha⟩,by simp [De]⟩
 ·refine ⟨h6,h9,fun C hC=>?_,vs,⟨?_,fun ha=>(by rw [h1] at ha;cases ha),fun A' off ha=>?_⟩,?_⟩
  ·simp [SL.blk,h1] at hC;subst hC;exact h3
  ·rw [h8.length,h6,h2]
  ·rw [h1] at ha
   simp only [Option.some.injEq,Prod.mk.injEq] at ha;obtain ⟨rfl,rfl⟩:=ha;refine ⟨h4,cs,?_,by rw [List.drop_zero];exact h7⟩;rw [h5];rcases h10 with rfl | ⟨rfl,_⟩ <;> rfl
  ·rw [h2];exact De.weak (fun C hC _=>hC.1) h8
theorem Ow.chg (x:Ow B h s n xs) (c:Chg M h h') (hM:∀ A∈M,A<B∨h.next≤A):Ow B h' s n xs:=by
 rcases x with h1 | ⟨A,cs,st,vs,h1,h2,h3,h4,h5,h6,h7,h8,h9⟩
 ·exact .inl h1
 ·have hno:∀ C,B≤C→C<h.next→C ∉ M:=fun C hC hl hm=>by rcases hM C hm with q | q <;> omega
  refine .inr ⟨A,cs,st,vs,h1,h2,h3,Nat.lt_of_lt_of_le h4 c.next,by rw [c.g A h4 (hno A h3 h4)];exact h5,h6,h7,?_,h9⟩;have h8':De h (fun C=>(B≤C∧C≠A)∧C<h.next) n xs vs:=De.weak (fun C hC hl=>⟨hC,hl⟩) h8;exact De.weak (fun C hC _=>hC.1) (De.chg c (fun C hC=>hno C hC.1.1 hC.2) h8')
theorem wA1 (cs ws:List AV) (k:Nat) (hk:k+ws.length≤cs.length):over k cs ws=some (cs.take k++ws++cs.drop (k+ws.length)):=eU k cs ws hk
theorem fU {st e:TypeId} {W:Nat} (ha:AppN E st e n W) (hn:0<n) (x:Ow B h s n xs) {d:D} {cs:List AV} (hd:Dt h (fun C=>B≤C∧s.blk≠some C) d cs) (hcs:cs.length=n) (hB:B≤h.next) (hl:(xs.length+1) * W≤1073741824) :
  ∃ s' h',iB E st st (.slice s.a s.len s.cap s.sz) (.slice (some (h.next,0)) 1 1 n) (h.push (.row cs .own))=some (.slice s'.a s'.len s'.cap s'.sz,h')∧Ow B h' s' n (xs++[d])∧Chg (s.blk.toList) h h'∧(∀ A,s'.blk=some A→s.blk=some A∨h.next≤A):=by
 obtain ⟨hu,⟨i,hi,hi1,hi2⟩,⟨z,hz,hz1⟩⟩:=ha;have hr:(h.push (.row cs .own)).read h.next 0 (1 * n)=some cs:=by
  have:(h.push (.row cs .own)).row h.next=some cs:=(Heap.is_push h cs).row
  simp only [Heap.read,this,List.drop_zero,Nat.one_mul];rw [vI _ _ (by omega),List.take_of_length_le (by omega)]
 have hlen:=x.len;have hroom:Nat.ble ((s.len+1) * (i.bytes+i.size+1)) bT=true:=by
  have h1:(s.len+1) * (i.bytes+i.size+1)≤(xs.length+1) * W:=Nat.mul_le_mul (by omega) (by omega);simp only [bT,Nat.ble_eq];omega
 have hsz:(Nat.beq s.sz i.size||s.a.isNone)=true:=by
  rcases x with ⟨h1,_⟩ | ⟨A,cs,st',vs,h1,h2,_⟩
  ·simp [h1]
  ·simp [hi1,h2]
 have hall:cs.all AV.single=true:=by rw [List.all_eq_true];exact hd.single
 have key:∀ K,gL (h.push (.row cs .own)) s.a s.len s.cap n 1 cs=K→iB E st st (.slice s.a s.len s.cap s.sz) (.slice (some (h.next,0)) 1 1 n) (h.push (.row cs .own))=K:=by
  intro K hK;have hz2:Nat.beq z.cells.length i.size=true:=by rw [hz1,hi1];exact Nat.beq_refl _
  have hnl:Nat.beq cs.length (1 * i.size)=true:=by rw [hi1,hcs,Nat.one_mul];exact Nat.beq_refl _
  simp only [iB,hu,uQ,yA4,cond_false,hi,hz,dK,nE];rw [hi1] at hroom hsz hz2 hnl ⊢;simp only [hr,show Nat.beq 1 0=false from rfl,cond_false,hroom,hsz,hz2,hnl,hall,Bool.and_self,cond_true];exact hK
 have hd0:Dt h (fun C=>(B≤C∧s.blk≠some C)∧C<h.next) d cs:=hd.weak fun C hC hl=>⟨hC,hl⟩;rcases x with ⟨h1,h2,h3,rfl⟩ | ⟨A,bs,st',vs,h1,h2,h3,h4,h5,h6,h7,h8,h9,h10⟩
 ·have c0:Chg [] h ((h.push (.row cs .own)).push (.row cs .grown)):=((Chg.refl [] h).push _).push _
  refine ⟨⟨some (h.next+1,0),1,1,n⟩,(h.push (.row cs .own)).push (.row cs .grown),key _ (by simp only [gL,h1,h2];rfl),.inr ⟨h.next+1,cs,.grown,cs,rfl,rfl,by omega,by simp,mH _ rfl,rfl,by simp,?_,Nat.le_refl _,.inl rfl⟩,c0.mono (by simp),fun A hA=>.inr (by simp [SL.blk] at hA;omega)⟩;simp only [List.nil_append,De];exact ⟨cs,[],by simp,hcs,Dt.weak (fun C hC _=>⟨hC.1.1,by omega⟩) (Dt.chg c0 (by simp) hd0),rfl⟩
 ·have hvl:=h8.length
  have hbl:s.blk=some A:=by simp [SL.blk,h1]
  have hcl:vs.length≤bs.length:=by
   have:(bs.take vs.length).length=vs.length:=by rw [h7]
   rw [List.length_take] at this;omega
  have hg:(h.push (.row cs .own)).t.get A=some (.row bs st'):=by
   have:=qA1 (h:=h) (A:=A) (.row cs .own) (by omega)
   unfold Heap.g at this h5;rw [this,h5]
  have h8':De h (fun C=>(B≤C∧C≠A)∧C<h.next) n xs vs:=De.weak (fun C hC hl=>⟨hC,hl⟩) h8;have hd':Dt h (fun C=>(B≤C∧C≠A)∧C<h.next) d cs:=Dt.weak (fun C hC hl=>⟨⟨hC.1,fun e=>hC.2 (by rw [hbl,e])⟩,hl⟩) hd;have hall2:=h8'.snoc hd' hcs;have htk:takeN (s.len * n) bs=some vs:=by rw [vI _ _ (by rw [h6];omega),h6,← hvl,h7]
  -- a new block
  have fresh:∀ H:Heap,H.next=h.next+1→Chg [A] h H→Ow B (H.push (.row (vs++cs) .grown)) ⟨some (h.next+1,0),s.len+1,s.len+1,n⟩ n (xs++[d]):=by
   intro H hH cH;refine .inr ⟨h.next+1,vs++cs,.grown,vs++cs,rfl,rfl,by omega,by simp [hH],mH _ hH.symm,by simp [h6],List.take_of_length_le (Nat.le_refl _),?_,Nat.le_refl _,.inl rfl⟩;exact De.weak (fun C hC _=>⟨hC.1.1,by omega⟩) (De.chg (cH.push _) (fun C hC=>by simp;exact hC.1.2) hall2)
  rcases h10 with rfl | ⟨rfl,h10⟩
  ·have cH:Chg [A] h ((h.push (.row cs .own)).put A (.row bs .dead)):=((Chg.refl [A] h).push _).put (.inl (by simp)) _
   refine ⟨⟨some (h.next+1,0),s.len+1,s.len+1,n⟩,((h.push (.row cs .own)).put A (.row bs .dead)).push (.row (vs++cs) .grown),key _ ?_,fresh _ rfl cH,(cH.push _).mono (by simp [hbl]),fun C hC=>.inr (by simp [SL.blk] at hC;omega)⟩;simp only [gL,h1,hg,List.drop_zero,htk];rfl
  ·by_cases hc:s.len+1≤s.cap
   ·have hb1:Nat.ble (s.len+1) s.cap=true:=by simpa using hc
    have hroom2:s.len * n+cs.length≤bs.length:=by
     rw [hcs,← Nat.succ_mul,← h10];exact Nat.mul_le_mul_right _ hc
    have hov:=wA1 bs cs (s.len * n) hroom2;have cH:Chg [A] h ((h.push (.row cs .own)).put A (.row (bs.take (s.len * n)++cs++bs.drop (s.len * n+cs.length)) .own)):=((Chg.refl [A] h).push _).put (.inl (by simp)) _;have e1:bs.take (s.len * n)=vs:=by rw [h6,← hvl,h7]
    refine ⟨⟨some (A,0),s.len+1,s.cap,n⟩,_,key _ ?_,.inr ⟨A,_,.own,vs++cs,rfl,rfl,h3,by simp;omega,yT _ rfl,by simp [h6],?_,?_,hc,.inr ⟨rfl,?_⟩⟩,cH.mono (by simp [hbl]),fun C hC=>.inl (by simp [SL.blk] at hC;rw [hbl,hC])⟩
    ·simp only [gL,h1,hg,List.drop_zero,htk,hb1,cond_true,Nat.zero_add,hov]
    ·rw [e1,List.append_assoc,← List.append_assoc,List.take_append_of_le_length (Nat.le_refl _),List.take_of_length_le (Nat.le_refl _)]
    ·exact De.weak (fun C hC _=>hC.1) (De.chg cH (fun C hC=>by simp;exact hC.1.2) hall2)
    ·show s.cap * n=_
     rw [h10];simp only [List.length_append,List.length_take,List.length_drop];omega
   ·have hb1:Nat.ble (s.len+1) s.cap=false:=by
     cases hx:Nat.ble (s.len+1) s.cap with
     | false=>rfl
     | true=>exact absurd (by simpa using hx) hc
    have cH:Chg [A] h (h.push (.row cs .own)):=(Chg.refl [A] h).push _;refine ⟨⟨some (h.next+1,0),s.len+1,s.len+1,n⟩,(h.push (.row cs .own)).push (.row (vs++cs) .grown),key _ ?_,fresh _ rfl cH,(cH.push _).mono (by simp [hbl]),fun C hC=>.inr (by simp [SL.blk] at hC;omega)⟩;simp only [gL,h1,hg,List.drop_zero,htk,hb1,cond_false];rfl
end
end Ai
namespace Ai
def Heap.own (h:Heap) (A:Nat) (cs:List AV):Prop:=h.g A=some (.row cs .own)∧A<h.next
section
variable {h h':Heap} {A:Nat} {cs vs:List AV} {M:List Nat}
theorem vA (h:Heap) (cs:List AV):(h.push (.row cs .own)).own h.next cs:=⟨mH _ rfl,Nat.lt_succ_self _⟩
theorem yA (x:h.own A cs) (vs:List AV):(h.put A (.row vs .own)).own A vs:=⟨yT _ rfl,x.2⟩
theorem Heap.own.chg (x:h.own A cs) (c:Chg M h h') (hM:A ∉ M):h'.own A cs:=⟨(c.g A x.2 hM).trans x.1,Nat.lt_of_lt_of_le x.2 c.next⟩
theorem Heap.own.cell (x:h.own A cs) (j:Nat):h.cell (A,j)=cs[j]?:=by
 rw [Heap.cell_g,x.1,aAq,List.head?_drop]
theorem Heap.own.cells (x:h.own A cs) {j m:Nat} (hj:j+m≤cs.length):h.cells (A,j) m=some (.agg ((cs.drop j).take m)):=by
 rw [Heap.cells_g,x.1,rAl,vI _ _ (by rw [List.length_drop];omega)];rfl
theorem Heap.own.store (x:h.own A cs) (hl:vs.length=cs.length):h.store (A,0) vs=some (h.put A (.row vs .own)):=by
 rw [Heap.store_g,x.1,pW,eU 0 cs vs (by omega)];simp [List.drop_of_length_le (show cs.length≤vs.length by omega)]
theorem Heap.own.store1 (x:h.own A cs) {j:Nat} (hj:j<cs.length) (v:AV):h.store (A,j) [v]=some (h.put A (.row (cs.set j v) .own)):=by
 rw [Heap.store_g,x.1,pW,aAj _ _ _ hj];rfl
theorem Heap.own.put (x:h.own A cs) (vs:List AV):Chg [A] h (h.put A (.row vs .own)):=(Chg.refl [A] h).put (.inl (by simp)) _
theorem qA (h:Heap) (b:Blk):Chg [] h (h.push b):=(Chg.refl [] h).push b
theorem kC {A B β:Type} (p:A×Heap) (f:A→Heap→β) (g:B→β):gF (Sum.inl p) f g=f p.1 p.2:=rfl
theorem pC {A B β:Type} (b:B) (f:A→Heap→β) (g:B→β):gF (Sum.inr b:Sum (A×Heap) B) f g=g b:=rfl
end
end Ai
namespace Ai
open Go.ChangeShapes Go.WideShapes Go.RowKit
theorem law_from {H:Type} {enc:TypeId×Value→H} {P:Program} {w:World} {bs:Nat} {S:List TypeId} (hS:plainB P S=true) {f:FuncId} {ts:List TypeId} (hts:∀ t∈ts,t∈S) {l:List VTy} {F:lH l→Heap→Option (Bool×Heap)} (hF:gD P f l (.val (.one .bool)) F)
  {μs:Mu} {hs:Heap} (hrs:HR μs hs w) (hros:Rof hs) {args:Array Value} {ds:List (DataW H)} {ps:List MemPlace}
  (hlaw:∀ (h:Heap) (vs:List AV),Rof h→HLe hs h→RdArgs P h ts vs ds→∃ xs h',VTy.tos l xs=vs∧F xs h=some (true,h'))
  (hA:DataW.TrodAll enc P w 0 (fun _=>true) true ts args.toList ds ps)
  (hok:∀ (j:Nat) t v,ts[j]? = some t→args[j]? = some v→Value.okWide P w .any bs t v) :
  Calls P f args w fun e w'=>e=.returned (.bool true)∧Below w.heap.size w w':=by
 obtain ⟨μ,h,vs,_,hle,hr,hro,hv,hrd⟩:=cU hS hts hA (fun j t v h1 h2=>hok j t v h1 (by simpa using h2)) μs hs hrs hros;obtain ⟨xs,h',rfl,hx⟩:=hlaw h vs hro hle hrd;refine (hF xs h true h' hx μ w args hr hv).2.mono ?_;rintro e w' ⟨u,rfl,μ',h1,_,h3⟩;simp only [Ty.to,VTy.to,CTy.to,VR] at h1;exact ⟨by rw [h1],hro.ext_below h3⟩
end Ai
end Go.Proofs.YtkcjphhjmlienaaGreatDoor
