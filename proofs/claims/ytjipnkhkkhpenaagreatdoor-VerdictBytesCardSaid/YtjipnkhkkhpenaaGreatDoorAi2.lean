import Derived.Test.YtjipnkhkkhpenaaGreatDoorAi1
import Derived.KernelRfl
import Derived.ProofKit
import Derived.IntWalk
/- A verified evaluator for the model of the program: what it evaluates is what the program computes, whatever else the memory holds; part 2. Conditions: no package variables. -/
namespace Go.Proofs.YtjipnkhkkhpenaaGreatDoor
set_option linter.unusedVariables false
set_option linter.unusedSimpArgs false
set_option linter.unusedSectionVars false
namespace Ai
variable [IntT]
section
variable {E:Env} {P:Program} {μ:Mu} {h:Heap} {w:World} {nt:Nat} {fr:Fr} {a:Act}
theorem cons_get0 (x:Value) (l:Array Value):(#[x]++l)[0]? = some x:=by
 rw [Array.getElem?_append_left (by simp)];rfl
theorem cons_rest (x:Value) (l:Array Value):(#[x]++l).extract 1 (#[x]++l).size=l:=by
 apply Array.ext'
 rw [Array.toList_extract]
 simp
 exact List.take_of_length_le (by simp)
def Post (μ:Mu) (h:Heap) (w:World) (v:AV) (h':Heap) (u:Value) (w':World):Prop:=∃ μ',VR μ' v u∧HR μ' h' w'∧Ext μ h w μ' h' w'
def CallOK (P:Program) (call:CallF):Prop:=∀ f args h v h',call f args h=some (v,h')→∀ μ w (args':Array Value),HR μ h w→VRs μ args args'.toList→
 (∃ u w',(callFunc f args').run P w=.ok (.value u) w'∧Post μ h w v h' u w')∨
 ((callFunc f args').run P w=.ok (.enter f args') w∧Calls P f args' w fun e w'=>∃ u,e=.returned u∧Post μ h w v h' u w')
theorem method_sound (ok:EnvOK E P) (hr:HR μ h w) {t:TypeId} {v:AV} {vu:Value} {name:String} {args:List AV} {args':Array Value} {tg:Tgt} (hv:VR μ v vu) (ha:VRs μ args args'.toList)
  (hx:methodA E h t v name args=some tg):∃ f args2 args2',tg=.fn f args2∧VRs μ args2 args2'.toList∧(callMethod (.iface t vu) name args').run P w=(callFunc f args2').run P w:=by
 unfold methodA at hx
 cases hi:E.info t with
 | none=>simp [hi] at hx
 | some i=>
  simp only [hi] at hx
  cases hm:i.methods.find? (·.name == name) with
  | none=>simp [hm] at hx
  | some m=>
   simp only [hm] at hx
   have hinfo:=ok.info t i hi
   split at hx
   ·rename_i f ptr hpath hfunc
    have hempty:m.path = #[]:=by
     apply Array.ext';simpa using hpath
    have hfol:(follow m.path.toList t (.val vu)).run P w=.ok (t,.val vu) w:=by rw [hempty];rfl
    have hdep:0<Made.depth:=by decide
    obtain ⟨k,hk⟩:∃ k,P.types.size+Made.depth=k+1:=⟨P.types.size+Made.depth-1,by omega⟩
    have hcall:∀ (r:Value),(receiverAt t (.val vu) ptr (if m.path.isEmpty then some ((name.splitOn ".").getLastD name) else none)).run P w=.ok r w→
      (callMethod (.iface t vu) name args').run P w=(callFunc f (#[r]++args')).run P w:=by
     intro r hrr
     unfold callMethod
     refine (run_bind_ok (P:=P) (a:=P) (w':=w) rfl).trans ?_
     rw [hk]
     refine (run_bind_ok (P:=P) (a:=(f,r)) (w':=w) ?_).trans rfl
     unfold method
     refine (run_bind_ok (P:=P) (run_info hinfo)).trans ?_
     rw [hm]
     refine (run_bind_ok (P:=P) hfol).trans ?_
     simp only [hfunc]
     exact (run_bind_ok (P:=P) hrr).trans rfl
    split at hx
    ·rename_i e hu
     simp only [Option.some.injEq] at hx
     subst hx
     refine ⟨f,v::args,#[vu]++args',rfl,by simpa using VRs.cons hv ha,hcall vu ?_⟩
     unfold receiverAt
     exact (run_bind_ok (P:=P) (run_und (und_sound ok hu))).trans rfl
    ·rename_i e hu
     cases hl:loadA E h e v with
     | none=>simp [hl] at hx
     | some x=>
      simp only [hl,Option.some.injEq] at hx
      subst hx
      obtain ⟨ad,y,rfl,h1,h2⟩:=loadVar_sound (P:=P) ok hr hv hl
      refine ⟨f,x::args,#[y]++args',rfl,by simpa using VRs.cons h2 ha,hcall y ?_⟩
      unfold receiverAt
      refine (run_bind_ok (P:=P) (run_und (und_sound ok hu))).trans ?_
      refine (run_bind_ok (P:=P) (a:=.pointer (some ad)) (w':=w) rfl).trans ?_
      rw [hempty]
      refine (run_bind_ok (P:=P) (a:=.pointer (some ad)) (w':=w) ?_).trans ?_
      ·rfl
      ·exact (run_bind_ok (P:=P) (a:=ad) (w':=w) rfl).trans h1
    ·rename_i d n1 hu
     simp only [Option.some.injEq] at hx
     subst hx
     refine ⟨f,v::args,#[vu]++args',rfl,by simpa using VRs.cons hv ha,hcall vu ?_⟩
     unfold receiverAt
     refine (run_bind_ok (P:=P) (run_und (und_sound ok hu))).trans ?_
     cases d <;> first | rfl | exact absurd rfl (n1 _)
    ·simp at hx
   ·simp at hx
theorem one_wp (ok:EnvOK E P) {call:CallF} (hcall:CallOK P call) (hr:HR μ h w) (ha:AR μ nt fr a) {o:Oper} {x:AV} {h':Heap} (hx:oneA E call fr o.op h=some (x,h'))
  {next:Act→World→Prop} {Q:Exit→Act→World→Prop} (hn:∀ μ' u w',VR μ' x u→HR μ' h' w'→Ext μ h w μ' h' w'→next (a.put o.dst u) w'):o.wp P a w next Q:=by
 have plain:∀ {s:Sem Next},execOp a.eval o=s→DN P s μ h w x h'→o.wp P a w next Q:=by
  intro s hs hd
  obtain ⟨μ',n,u,w',h1,h2,h3,h4,h5⟩:=hd
  unfold Oper.wp
  rw [hs,h1]
  rcases h2 with rfl | ⟨rfl,rfl⟩
  ·rw [Oper.upon_value];exact hn μ' u w' h3 h4 h5
  ·rw [Oper.upon_skip];exact hn μ' undef w' h3 h4 h5
 unfold oneA at hx
 split at hx
 ·rename_i c hop
  have fin:∀ {f:FuncId} {args:List AV} {args':Array Value},call f args h=some (x,h')→VRs μ args args'.toList→(execOp a.eval o).run P w=(callFunc f args').run P w→o.wp P a w next Q:=by
   intro f args args' hc hv he
   unfold Oper.wp
   rw [he]
   rcases hcall f args h x h' hc μ w args' hr hv with ⟨u,w',h1,μ',h2,h3,h4⟩ | ⟨h1,h2⟩
   ·rw [h1,Oper.upon_value];exact hn μ' u w' h2 h3 h4
   ·rw [h1,Oper.upon_enter]
    refine Calls.mono h2 ?_
    rintro e w' ⟨u,rfl,μ',h3,h4,h5⟩
    exact hn μ' u w' h3 h4 h5
  have hexec:execOp a.eval o=(do let d ← resolve a.eval c o.type;invoke d.target d.args):=by
   simp only [execOp,hop]
  unfold tgtA at hx
  cases hargs:opnds fr c.args.toList with
  | none=>simp [hargs] at hx
  | some args=>
   have hva:VRs μ args (c.args.map a.eval).toList:=by simpa using opnds_sound ha hargs
   simp only [hargs] at hx
   cases hcal:c.callee with
   | builtin b=>
    simp only [hcal] at hx
    cases hb:builtinA E b c.argTypes.toList args h with
    | none=>simp [hb] at hx
    | some p=>
     obtain ⟨v,h2⟩:=p
     simp only [hb,Option.some.injEq,Prod.mk.injEq] at hx
     obtain ⟨rfl,rfl⟩:=hx
     obtain ⟨s,h3,h4⟩:=builtin_sound (P:=P) (ty:=o.type) (cst:=c.args.map fun | .const _=>true | _=>false) ok hr hva hb
     refine plain (s:=do pure (.value (← s))) ?_ h4.dn
     rw [hexec]
     simp only [resolve,hcal]
     rw [pure_bind]
     exact h3
   | invoke recv name=>
    simp only [hcal] at hx
    cases hrc:opnd fr recv with
    | none=>simp [hrc] at hx
    | some rv=>
     have hrv:=opnd_sound ha hrc
     cases rv <;> simp only [hrc,reduceCtorEq] at hx
     rename_i t v
     simp only [VR] at hrv
     obtain ⟨vu,hev,hrv⟩:=hrv
     cases hm:methodA E h t v name args with
     | none=>simp [hm] at hx
     | some tg=>
      obtain ⟨f,args2,args2',rfl,h1,h2⟩:=method_sound (P:=P) ok hr hrv hva hm
      simp only [hm] at hx
      refine fin hx h1 ?_
      rw [hexec,← h2]
      simp only [resolve,hcal,hev]
      rw [pure_bind]
      simp only [invoke]
      rw [cons_get0,cons_rest]
   | value f=>
    simp only [hcal] at hx
    cases hfc:opnd fr f with
    | none=>simp [hfc] at hx
    | some fv=>
     have hfv:=opnd_sound ha hfc
     cases fv <;> simp only [hfc,reduceCtorEq] at hx
     rename_i fn first captured
     simp only [VR] at hfv
     obtain ⟨first',captured',hev,hf1,hf2⟩:=hfv
     cases fn <;> simp only [reduceCtorEq] at hx
     case func g=>
      refine fin (args':=first'++Array.map a.eval c.args++captured') hx ?_ ?_
      ·simpa using VRs.append (VRs.append hf1 (by simpa using hva)) hf2
      ·rw [hexec]
       simp only [resolve,hcal,hev,Deferred.ofValue]
       rfl
     case method name=>
      cases hl:first++args with
      | nil=>simp [hl] at hx
      | cons r0 r=>
       cases r0 <;> simp only [hl,reduceCtorEq] at hx
       rename_i t v
       have hall:VRs μ (first++args) (first'++Array.map a.eval c.args).toList:=by simpa using VRs.append hf1 (by simpa using hva)
       rw [hl] at hall
       simp only [VRs] at hall
       obtain ⟨y,ys,hy,hy1,hy2⟩:=hall
       simp only [VR] at hy1
       obtain ⟨vu,rfl,hrv⟩:=hy1
       cases hm:methodA E h t v name r with
       | none=>simp [hm] at hx
       | some tg=>
        obtain ⟨g,args2,args2',rfl,h1,h2⟩:=method_sound (P:=P) (args':=ys.toArray) ok hr hrv (by simpa using hy2) hm
        simp only [hm] at hx
        refine fin hx h1 ?_
        rw [hexec,← h2]
        simp only [resolve,hcal,hev,Deferred.ofValue]
        rw [pure_bind]
        have hA:first'++Array.map a.eval c.args = #[Value.iface t vu]++ys.toArray:=by
         apply Array.ext';rw [hy];simp
        simp only [hA,invoke]
        rw [cons_get0,cons_rest]
 ·exact plain rfl (op_sound (P:=P) ok hr ha hx)
theorem wanted_sound {ops:Array Oper} (ha:AR μ nt fr a) {o:Oper} {b:Bool} (hw:wantedA ops.toList fr o=some b):Region.wanted o (yielded ops a.tmps)=b:=by
 unfold wantedA at hw
 unfold Region.wanted
 cases hg:o.guard with
 | none=>simp [hg] at hw;subst hw;rfl
 | some p=>
  obtain ⟨j,want⟩:=p
  simp only [hg] at hw ⊢
  cases hy:yieldedA ops.toList fr j with
  | none=>
   simp only [hy] at hw
   cases hu:unrunA ops.toList fr j with
   | false=>simp [hu] at hw
   | true=>
    simp only [hu,cond_true,Option.some.injEq] at hw
    subst hw
    unfold unrunA at hu
    split at hu
    ·rename_i oj ho
     split at hu
     ·rename_i d hd
      split at hu
      ·rename_i hf
       have hs:=ha.slot d _ hf
       simp only [VR] at hs
       obtain ⟨us,hs,hu2⟩:=hs
       have ho':ops[j]? = some oj:=by simpa using ho
       have hyy:yielded ops a.tmps j=none:=by
        unfold yielded
        simp only [ho',hd,Option.bind_some]
        split
        ·rename_i b hb
         rcases Nat.lt_or_ge d a.tmps.size with h1 | h1
         ·rw [Array.getElem?_eq_getElem h1] at hb
          simp [Array.getD,h1] at hs
          rw [hs] at hb;simp at hb
         ·rw [Array.getElem?_eq_none h1] at hb;cases hb
        ·rfl
       rw [hyy];rfl
      ·cases hu
     ·cases hu
    ·cases hu
  | some c=>
   simp only [hy,Option.some.injEq] at hw
   unfold yieldedA at hy
   cases ho:ops.toList[j]? with
   | none=>simp [ho] at hy
   | some oj=>
    simp only [ho] at hy
    cases hd:oj.dst with
    | none=>simp [hd] at hy
    | some d=>
     simp only [hd] at hy
     cases hf:fr.get d with
     | none=>simp [hf] at hy
     | some v=>
      cases v <;> simp only [hf,Option.some.injEq,reduceCtorEq] at hy
      subst hy
      rename_i c
      have hs:=ha.slot d _ hf
      simp only [VR] at hs
      have ho':ops[j]? = some oj:=by simpa using ho
      have ht:a.tmps[d]? = some (.bool c):=by
       rcases Nat.lt_or_ge d a.tmps.size with h1 | h1
       ·rw [Array.getElem?_eq_getElem h1]
        simp [Array.getD,h1] at hs
        rw [hs]
       ·simp [Array.getD,Nat.not_lt.2 h1,undef] at hs
      have hyy:yielded ops a.tmps j=some c:=by
       unfold yielded;simp [ho',hd,ht]
      rw [hyy,← hw]
      cases c <;> cases want <;> rfl
theorem step_wp (ok:EnvOK E P) {call:CallF} (hcall:CallOK P call) (hr:HR μ h w) (ha:AR μ nt fr a) {ops:Array Oper} {o:Oper} {x:AV} {h':Heap} (hx:stepA E call ops.toList fr o h=some (x,h'))
  {next:Act→World→Prop} {Q:Exit→Act→World→Prop} (hn:∀ μ' u w',VR μ' x u→HR μ' h' w'→Ext μ h w μ' h' w'→next (a.put o.dst u) w') :
  (if Region.wanted o (yielded ops a.tmps) then o.wp P a w next Q∨(o.asks P a w∧LetsOut Q) else next (a.put o.dst undef) w):=by
 unfold stepA at hx
 split at hx
 ·rename_i hw
  rw [wanted_sound ha hw]
  simp only [if_true]
  exact .inl (one_wp ok hcall hr ha hx hn)
 ·rename_i hw
  rw [wanted_sound ha hw]
  simp only [Option.some.injEq,Prod.mk.injEq] at hx
  obtain ⟨rfl,rfl⟩:=hx
  simp only [Bool.false_eq_true,if_false]
  exact hn μ undef w (by simp only [undefA,VR];exact ⟨#[],rfl,VRs.nil⟩) hr (Ext.refl μ h w)
 ·simp at hx
theorem evOps_wp (ok:EnvOK E P) {call:CallF} (hcall:CallOK P call) {ops:Array Oper} {Q:Exit→Act→World→Prop}:∀ (m k:Nat) (μ:Mu) (h:Heap) (w:World) (fr:Fr) (a:Act) (fr':Fr) (h':Heap),k+m=ops.size→
  evOps E call nt ops.toList (ops.toList.drop k) fr h=some (fr',h')→HR μ h w→AR μ nt fr a→
  (∀ μ' a' w',AR μ' nt fr' a'→HR μ' h' w'→Ext μ h w μ' h' w'→Q .normal a' w')→wpOps P ops Q (List.range' k m) a w:=by
 intro m
 induction m with
 | zero=>
  intro k μ h w fr a fr' h' hk hx hr ha hq
  have:ops.toList.drop k=[]:=List.drop_eq_nil_of_le (by simp;omega)
  rw [this] at hx
  simp only [evOps,Option.some.injEq,Prod.mk.injEq] at hx
  obtain ⟨rfl,rfl⟩:=hx
  simp only [List.range'_zero,wpOps]
  exact hq μ a w ha hr (Ext.refl μ h w)
 | succ m ih=>
  intro k μ h w fr a fr' h' hk hx hr ha hq
  have hlt:k<ops.size:=by omega
  have hlt':k<ops.toList.length:=by simpa using hlt
  rw [List.drop_eq_getElem_cons hlt'] at hx
  simp only [evOps,Array.getElem_toList] at hx
  cases hs:stepA E call ops.toList fr ops[k] h with
  | none=>rw [hs] at hx;simp at hx
  | some p=>
   obtain ⟨v,h1⟩:=p
   rw [hs] at hx
   have ho:ops[k]? = some ops[k]:=by simp [hlt]
   simp only [List.range'_succ,wpOps,ho]
   refine step_wp ok hcall hr ha hs ?_
   intro μ' u w' hv hr' hext
   refine ih (k+1) μ' h1 w' _ _ fr' h' (by omega) hx hr' ((ha.mono hext.mono).put _ hv) ?_
   intro μ2 a2 w2 ha2 hr2 hext2
   exact hq μ2 a2 w2 ha2 hr2 (Ext.trans hr hext hext2)
end
end Ai
namespace Ai
variable [IntT]
namespace Tr
variable {α:Type}
def restrict (keep:Nat→Bool):Tr α→Tr α
 | nil=>nil
 | node l v r=>node (restrictL (fun m=>keep (2 * m+1)) l) (bif keep 0 then v else none) (restrictL (fun m=>keep (2 * m+2)) r)
where restrictL (keep:Nat→Bool):Tr α→Tr α
 | nil=>nil
 | node l v r=>node (restrictL (fun m=>keep (2 * m+1)) l) (bif keep 0 then v else none) (restrictL (fun m=>keep (2 * m+2)) r)
theorem get_restrict:∀ (t:Tr α) (keep:Nat→Bool) (n:Nat),(restrict.restrictL keep t).get n=bif keep n then t.get n else none:=by
 intro t
 induction t with
 | nil=>intro keep n;simp [restrict.restrictL,get]
 | node l v r ihl ihr=>
  intro keep n
  simp only [restrict.restrictL,get]
  by_cases hn:n=0
  ·subst hn;simp only [show Nat.beq 0 0=true from rfl,cond_true]
  ·rw [bf hn];simp only [cond_false]
   by_cases hp:n % 2=1
   ·rw [bt hp];simp only [cond_true];rw [ihl]
    rw [show 2 * (n / 2)+1=n from by omega]
   ·rw [bf hp];simp only [cond_false];rw [ihr]
    rw [show 2 * (n / 2-1)+2=n from by omega]
end Tr
section
variable {E:Env} {P:Program} {call:CallF} {fr fr2:Fr}
theorem memL_iff {n:Nat}:∀ {l:List Nat},memL n l=true↔n∈l
 | []=>by simp [memL]
 | x::r=>by
  simp only [memL]
  by_cases h:x=n
  ·subst h;rw [bt rfl];simp
  ·rw [bf h];simp only [cond_false,List.mem_cons];rw [memL_iff]
   exact ⟨.inr,fun h'=>h'.resolve_left (fun e=>h e.symm)⟩
theorem flatL_mem:∀ {l:List Operand} {t:Nat},Operand.tmp t∈l→t∈flatL l
 | [],t,h=>by simp at h
 | x::r,t,h=>by
  simp only [flatL,List.mem_append]
  rcases List.mem_cons.1 h with rfl | h
  ·exact .inl (by simp [optTmp])
  ·exact .inr (flatL_mem h)
theorem opnds_congr {l:List Operand} (h:∀ x∈l,opnd fr x=opnd fr2 x):opnds fr l=opnds fr2 l:=by
 induction l with
 | nil=>rfl
 | cons x r ih=>simp only [opnds];rw [h x (by simp),ih fun y hy=>h y (by simp [hy])]
theorem parts_congr {l:List (Nat×Operand)} (h:∀ x∈l.map (·.2),opnd fr x=opnd fr2 x):partsA fr l=partsA fr2 l:=by
 induction l with
 | nil=>rfl
 | cons x r ih=>obtain ⟨i,x⟩:=x;simp only [partsA];rw [h x (by simp),ih fun y hy=>h y (by simp at hy ⊢;exact .inr hy)]
theorem opt_congr {x:Option Operand} (h:∀ y∈x.toList,opnd fr y=opnd fr2 y):optA fr x=optA fr2 x:=by
 cases x with
 | none=>rfl
 | some y=>simp only [optA];rw [h y (by simp)]
theorem one_congr {o:Op} {h:Heap} (hc:∀ x∈o.operands.toList,opnd fr x=opnd fr2 x):oneA E call fr o h=oneA E call fr2 o h:=by
 cases o
 case call c=>
  simp only [oneA,tgtA]
  simp only [Op.operands,Call.operands] at hc
  have h1:opnds fr c.args.toList=opnds fr2 c.args.toList:=opnds_congr fun x hx=>hc x (by simp [hx])
  rw [h1]
  cases hcal:c.callee with
  | builtin b=>rfl
  | invoke r m=>have:=hc r (by simp [hcal]);simp only [this]
  | value f=>have:=hc f (by simp [hcal]);simp only [this]
 case build t ps=>
  simp only [oneA,opA]
  rw [parts_congr (fr2:=fr2) fun x hx=>hc x (by simpa [Op.operands] using hx)]
 case buildSlice t n ps=>
  simp only [oneA,opA]
  rw [parts_congr (fr2:=fr2) fun x hx=>hc x (by simpa [Op.operands] using hx)]
 case makeFunc fn first captured=>
  simp only [oneA,opA]
  rw [opnds_congr (fr2:=fr2) (l:=first.toList) fun x hx=>hc x (by simp only [Op.operands,Array.toList_append,List.mem_append];exact .inl hx)]
  rw [opnds_congr (fr2:=fr2) (l:=captured.toList) fun x hx=>hc x (by simp only [Op.operands,Array.toList_append,List.mem_append];exact .inr hx)]
 case slice t x lo hi mx=>
  cases mx with
  | some m=>rfl
  | none=>
   simp only [oneA,opA,op1]
   have h1:=hc x (by simp [Op.operands])
   have h2:optA fr lo=optA fr2 lo:=opt_congr fun y hy=>hc y (by simp [Op.operands] at hy ⊢;simp [hy])
   have h3:optA fr hi=optA fr2 hi:=opt_congr fun y hy=>hc y (by simp [Op.operands] at hy ⊢;simp [hy])
   rw [h1,h2,h3]
 case makeMap t r=>cases r <;> rfl
 case lookup t m k b=>
  have h1:=hc m (by simp [Op.operands])
  have h2:=hc k (by simp [Op.operands])
  simp only [oneA,opA,op2,h1,h2]
 case mapUpdate t m k x=>
  have h1:=hc m (by simp [Op.operands])
  have h2:=hc k (by simp [Op.operands])
  have h3:=hc x (by simp [Op.operands])
  simp only [oneA,opA,op3,h1,h2,h3]
 case insert t m k x=>
  have h1:=hc m (by simp [Op.operands])
  have h2:=hc k (by simp [Op.operands])
  have h3:=hc x (by simp [Op.operands])
  simp only [oneA,opA,op3,h1,h2,h3]
 all_goals first
  | rfl
  | (simp only [oneA,opA,op1,op2];simp [Op.operands] at hc;simp only [hc])
theorem step_congr {ops:List Oper} {o:Oper} {h:Heap} (hc:∀ t,t∈looksL ops o→fr.get t=fr2.get t):stepA E call ops fr o h=stepA E call ops fr2 o h:=by
 have h1:∀ x∈o.op.operands.toList,opnd fr x=opnd fr2 x:=by
  intro x hx
  cases x with
  | tmp t=>exact hc t (by simp only [looksL,List.mem_append];exact .inl (flatL_mem hx))
  | _=>rfl
 have h2:wantedA ops fr o=wantedA ops fr2 o:=by
  unfold wantedA
  cases hg:o.guard with
  | none=>rfl
  | some p=>
   obtain ⟨j,want⟩:=p
   simp only
   have:yieldedA ops fr j=yieldedA ops fr2 j:=by
    unfold yieldedA
    cases ho:ops[j]? with
    | none=>rfl
    | some x=>
     simp only
     cases hd:x.dst with
     | none=>rfl
     | some d=>
      simp only
      rw [hc d (by simp only [looksL,List.mem_append];exact .inr (by simp [guardTmps,hg,ho,hd]))]
   have hun:unrunA ops fr j=unrunA ops fr2 j:=by
    unfold unrunA
    cases ho:ops[j]? with
    | none=>rfl
    | some x=>
     simp only
     cases hd:x.dst with
     | none=>rfl
     | some d=>
      simp only
      rw [hc d (by simp only [looksL,List.mem_append];exact .inr (by simp [guardTmps,hg,ho,hd]))]
   rw [this,hun]
 unfold stepA
 rw [h2,one_congr h1]
theorem sameA_heap {h h':Heap} {v:Option AV} {x:AV} (hx:sameA h v=some (x,h')):h'=h:=(sameA_spec hx).2
theorem kind0 {o:Op} {h h':Heap} {x:AV} (hk:kindA o=0) (hx:oneA E call fr o h=some (x,h')):h'=h∧∀ h2,oneA E call fr o h2=some (x,h2):=by
 have key:∀ {v:Option AV},sameA h v=some (x,h')→h'=h∧∀ h2,sameA h2 v=some (x,h2):=by
  intro v hv
  obtain ⟨rfl,rfl⟩:=sameA_spec hv
  exact ⟨rfl,fun _=>rfl⟩
 have k1:∀ {y:Operand} {f:AV→Option AV},op1 fr y (fun v=>sameA h (f v))=some (x,h')→h'=h∧∀ h2,op1 fr y (fun v=>sameA h2 (f v))=some (x,h2):=by
  intro y f hv
  obtain ⟨v,h1,h2⟩:=op1_spec hv
  obtain ⟨h3,h4⟩:=key h2
  exact ⟨h3,fun h5=>by simp only [op1,h1];exact h4 h5⟩
 have k2:∀ {y z:Operand} {f:AV→AV→Option AV},op2 fr y z (fun v u=>sameA h (f v u))=some (x,h')→h'=h∧∀ h2,op2 fr y z (fun v u=>sameA h2 (f v u))=some (x,h2):=by
  intro y z f hv
  obtain ⟨v,u,h1,h1',h2⟩:=op2_spec hv
  obtain ⟨h3,h4⟩:=key h2
  exact ⟨h3,fun h5=>by simp only [op2,h1,h1'];exact h4 h5⟩
 cases o <;> simp [kindA] at hk
 case convert s d y=>
  have hb:(memL s IntT.l&&memL d IntT.l)=true:=by
   cases hb:(memL s IntT.l&&memL d IntT.l) with
   | true=>rfl
   | false=>
    rw [hb] at hk
    cases hb2:(memL s IntT.b&&memL d IntT.s) <;> rw [hb2] at hk <;> cases hk
  simp only [oneA,opA,hb,cond_true] at hx ⊢
  exact k1 hx
 case move=>exact key hx
 case assign=>exact key hx
 case pick c a b=>
  simp only [oneA,opA] at hx ⊢
  obtain ⟨v,h1,h2⟩:=op1_spec hx
  cases v <;> (try (simp at h2;done))
  rename_i bb
  cases bb <;> (obtain ⟨h3,h4⟩:=key h2;exact ⟨h3,fun h5=>by simp only [op1,h1];exact h4 h5⟩)
 case build t ps=>
  simp only [oneA,opA] at hx ⊢
  cases hp:partsA fr ps.toList with
  | none=>simp [hp] at hx
  | some l=>simp only [hp] at hx ⊢;exact key hx
 case nilCheck=>exact k1 hx
 case binOp=>exact k2 hx
 case unOp=>exact k1 hx
 case makeInterface t y=>
  simp only [oneA,opA] at hx ⊢
  split at hx
  ·simp at hx
  ·rename_i d n1 hu
   obtain ⟨v,h1,h2⟩:=op1_spec hx
   simp only [Option.some.injEq,Prod.mk.injEq] at h2
   obtain ⟨rfl,rfl⟩:=h2
   refine ⟨rfl,fun h5=>?_⟩
   simp only [op1,h1]
  ·simp at hx
 case makeFunc fn first captured=>
  simp only [oneA,opA] at hx ⊢
  cases h1:opnds fr first.toList with
  | none=>simp [h1] at hx
  | some l=>
   cases h2:opnds fr captured.toList with
   | none=>simp [h1,h2] at hx
   | some m=>
    simp only [h1,h2,Option.some.injEq,Prod.mk.injEq] at hx ⊢
    obtain ⟨rfl,rfl⟩:=hx
    exact ⟨rfl,fun h5=>by simp⟩
 case fieldAddr=>exact k1 hx
 case field=>exact k1 hx
 case indexAddr=>exact k2 hx
 case index=>exact k2 hx
 case typeAssert=>exact k1 hx
 case extract t i=>
  simp only [oneA,opA] at hx ⊢
  obtain ⟨v,h1,h2⟩:=op1_spec hx
  cases v <;> simp only [reduceCtorEq] at h2
  obtain ⟨h3,h4⟩:=key h2
  exact ⟨h3,fun h5=>by simp only [op1,h1];exact h4 h5⟩
 case call c=>
  simp only [oneA,tgtA] at hx ⊢
  cases hargs:opnds fr c.args.toList with
  | none=>simp [hargs] at hx
  | some args=>
   simp only [hargs] at hx ⊢
   cases hcal:c.callee with
   | value f=>simp [hcal] at hk
   | invoke r m=>simp [hcal] at hk
   | builtin b=>
    simp only [hcal] at hx hk ⊢
    have kb:b=.min∨b=.max:=by cases b <;> simp_all
    have hb:∀ (y:AV) (h1:Heap),builtinA E b c.argTypes.toList args h=some (y,h1)→h1=h∧∀ h2,builtinA E b c.argTypes.toList args h2=some (y,h2):=by
     intro y h1 hb
     rcases kb with rfl | rfl <;>
     ·simp only [builtinA] at hb ⊢
      cases args with
      | nil=>simp at hb
      | cons z r=>
       simp only at hb ⊢
       obtain ⟨h3,h4⟩:=sameA_spec hb
       exact ⟨h4,fun h2=>by rw [h3];rfl⟩
    cases hbb:builtinA E b c.argTypes.toList args h with
    | none=>simp [hbb] at hx
    | some p=>
     obtain ⟨y,h1⟩:=p
     simp only [hbb,Option.some.injEq,Prod.mk.injEq] at hx
     obtain ⟨rfl,rfl⟩:=hx
     obtain ⟨h3,h4⟩:=hb y h1 hbb
     exact ⟨h3,fun h2=>by rw [h4 h2]⟩
theorem kind1 {o:Op} {h h':Heap} {x:AV} (hk:kindA o=1) (hx:oneA E call fr o h=some (x,h')):h'=h:=by
 cases o <;> simp [kindA] at hk
 case convert s d y=>
  cases hb:(memL s IntT.l&&memL d IntT.l) with
  | true=>rw [hb] at hk;cases hk
  | false=>
   rw [hb] at hk
   cases hb2:(memL s IntT.b&&memL d IntT.s) with
   | false=>rw [hb2] at hk;cases hk
   | true=>
    simp only [oneA,opA,hb,hb2,cond_true,cond_false] at hx
    obtain ⟨v,h1,h2⟩:=op1_spec hx
    exact sameA_heap h2
 case load t y=>
  obtain ⟨v,h1,h2⟩:=op1_spec hx
  exact sameA_heap h2
 case lookup t m k b=>
  obtain ⟨v,u,h1,h2,h3⟩:=op2_spec hx
  exact sameA_heap h3
 case slice t y lo hi mx=>
  cases mx with
  | some m=>simp [oneA,opA] at hx
  | none=>
   simp only [oneA,opA] at hx
   cases h1:optA fr lo with
   | none=>simp [h1] at hx
   | some l=>
    cases h2:optA fr hi with
    | none=>simp [h1,h2] at hx
    | some m=>
     simp only [h1,h2] at hx
     obtain ⟨v,h3,h4⟩:=op1_spec hx
     exact sameA_heap h4
 case call c=>
  simp only [oneA,tgtA] at hx
  cases hargs:opnds fr c.args.toList with
  | none=>simp [hargs] at hx
  | some args=>
   simp only [hargs] at hx
   cases hcal:c.callee with
   | value f=>simp [hcal] at hk
   | invoke r m=>simp [hcal] at hk
   | builtin b=>
    simp only [hcal] at hx hk
    have kb:b=.len∨b=.cap:=by cases b <;> simp_all
    cases hbb:builtinA E b c.argTypes.toList args h with
    | none=>simp [hbb] at hx
    | some p=>
     obtain ⟨y,h1⟩:=p
     simp only [hbb,Option.some.injEq,Prod.mk.injEq] at hx
     obtain ⟨rfl,rfl⟩:=hx
     rcases kb with rfl | rfl <;>
     ·simp only [builtinA] at hbb
      split at hbb <;> simp at *
      all_goals (first | exact sameA_heap hbb | skip)
theorem kindA_le (o:Op):kindA o=0∨kindA o=1∨kindA o=2:=by
 cases o <;> simp [kindA]
 case convert s d x=>cases (memL s IntT.l&&memL d IntT.l) <;> cases (memL s IntT.b&&memL d IntT.s) <;> simp
 rename_i c
 cases c.callee <;> (try simp)
 rename_i b
 cases b <;> simp
theorem step_heap {ops:List Oper} {o:Oper} {h h':Heap} {x:AV} (hk:kindA o.op≠2) (hx:stepA E call ops fr o h=some (x,h')):h'=h:=by
 unfold stepA at hx
 split at hx
 ·rcases kindA_le o.op with h1 | h1 | h1
  ·exact (kind0 h1 hx).1
  ·exact kind1 h1 hx
  ·exact absurd h1 hk
 ·simp only [Option.some.injEq,Prod.mk.injEq] at hx;exact hx.2.symm
 ·simp at hx
theorem step_free {ops:List Oper} {o:Oper} {h h':Heap} {x:AV} (hk:kindA o.op=0) (hx:stepA E call ops fr o h=some (x,h')) (h2:Heap):stepA E call ops fr o h2=some (x,h2):=by
 unfold stepA at hx ⊢
 split at hx
 ·exact (kind0 hk hx).2 h2
 ·simp only [Option.some.injEq,Prod.mk.injEq] at hx ⊢;simp [hx.1]
 ·simp at hx
theorem addL_mem {p x:Nat} {l:List Nat} (h:p∈addL x l):p=x∨p∈l:=by
 unfold addL at h
 cases hm:memL x l with
 | true=>simp only [hm,cond_true] at h;exact .inr h
 | false=>simpa [hm] using h
theorem addAll_mem {p:Nat}:∀ {xs l:List Nat},p∈addAll xs l→p∈xs∨p∈l
 | [],l,h=>.inr h
 | x::r,l,h=>by
  simp only [addAll] at h
  rcases addL_mem h with rfl | h
  ·exact .inl (by simp)
  ·rcases addAll_mem h with h | h
   ·exact .inl (by simp [h])
   ·exact .inr h
theorem unionL_mem {acc:List (List Nat)} {p:Nat}:∀ {l:List Nat},p∈predsGo.unionL acc l→p∈l∨∃ e∈l,∃ ps,acc[e]? = some ps∧p∈ps
 | [],h=>by simp [predsGo.unionL] at h
 | e::r,h=>by
  simp only [predsGo.unionL] at h
  rcases addL_mem h with rfl | h
  ·exact .inl (by simp)
  rcases addAll_mem h with h | h
  ·cases ha:acc[e]? with
   | none=>simp [ha] at h
   | some ps=>simp [ha] at h;exact .inr ⟨e,by simp,ps,ha,h⟩
  ·rcases unionL_mem h with h | ⟨e',h1,h2⟩
   ·exact .inl (by simp [h])
   ·exact .inr ⟨e',by simp [h1],h2⟩
theorem preds_spec:∀ (r pre:List Oper) (acc:List (List Nat)),acc.length=pre.length→
  (∀ (i:Nat) (ps:List Nat),acc[i]? = some ps→∃ o:Oper,pre[i]? = some o∧∀ p∈ps,p∈edgesL o.after.toList∨∃ e∈edgesL o.after.toList,∃ qs,acc[e]? = some qs∧p∈qs)→
  ∀ (i:Nat) (ps:List Nat),(predsGo r acc)[i]? = some ps→∃ o:Oper,(pre++r)[i]? = some o∧∀ p∈ps,p∈edgesL o.after.toList∨∃ e∈edgesL o.after.toList,∃ qs,(predsGo r acc)[e]? = some qs∧p∈qs
 | [],pre,acc,hl,hinv,i,ps,h=>by
  simp only [predsGo] at h ⊢
  simpa using hinv i ps h
 | o::r,pre,acc,hl,hinv,i,ps,h=>by
  simp only [predsGo] at h ⊢
  have:=preds_spec r (pre++[o]) (acc++[predsGo.unionL acc (edgesL o.after.toList)]) (by simp [hl]) (by
   intro j qs hj
   by_cases hjl:j<acc.length
   ·rw [List.getElem?_append_left hjl] at hj
    obtain ⟨o',h1,h2⟩:=hinv j qs hj
    refine ⟨o',by rw [List.getElem?_append_left (by omega)];exact h1,fun p hp=>?_⟩
    rcases h2 p hp with h3 | ⟨e,h3,us,h4,h5⟩
    ·exact .inl h3
    ·exact .inr ⟨e,h3,us,by rw [List.getElem?_append_left (List.getElem?_eq_some_iff.1 h4).1];exact h4,h5⟩
   ·have hje:j=acc.length:=by
     have:=(List.getElem?_eq_some_iff.1 hj).1
     simp at this;omega
    subst hje
    rw [List.getElem?_append_right (Nat.le_refl _)] at hj
    simp at hj;subst hj
    refine ⟨o,by rw [hl];simp,fun p hp=>?_⟩
    rcases unionL_mem hp with h3 | ⟨e,h3,us,h4,h5⟩
    ·exact .inl h3
    ·exact .inr ⟨e,h3,us,by rw [List.getElem?_append_left (List.getElem?_eq_some_iff.1 h4).1];exact h4,h5⟩) i ps h
  simpa using this
theorem against_spec {ops:List Oper} {o:Oper} {ps:List Nat}:∀ {l:List Oper} {j:Nat},againstB ops o ps j l=true→∀ k x,l[k]? = some x→j+k∈ps∨freeB ops x o=true
 | [],j,h,k,x,hk=>by simp at hk
 | y::r,j,h,k,x,hk=>by
  simp only [againstB,Bool.and_eq_true,Bool.or_eq_true] at h
  cases k with
  | zero=>simp at hk;subst hk;exact h.1.imp (fun e=>by simpa using memL_iff.1 e) id
  | succ k=>
   simp at hk
   have:=against_spec h.2 k x hk
   rw [show j+(k+1)=j+1+k from by omega];exact this
theorem order_spec {ops:List Oper} {preds:List (List Nat)}:∀ {l:List Oper} {i:Nat},orderGo ops preds i l=true→∀ k o,l[k]? = some o→
  (∀ j x,(ops.take (i+k))[j]? = some x→j∈(preds[i+k]?).getD []∨freeB ops x o=true)∧(∀ e∈edgesL o.after.toList,e<i+k)
 | [],i,h,k,o,hk=>by simp at hk
 | y::r,i,h,k,o,hk=>by
  simp only [orderGo,Bool.and_eq_true] at h
  cases k with
  | zero=>
   simp at hk;subst hk
   refine ⟨fun j x hj=>by simpa using against_spec h.1.1 j x (by simpa using hj),fun e he=>?_⟩
   have:=List.all_eq_true.1 h.1.2 e he
   simpa [Nat.blt_eq] using this
  | succ k=>
   simp at hk
   have:=order_spec h.2 k o hk
   rw [show i+(k+1)=i+1+k from by omega];exact this
theorem edgesL_mem {e:Nat}:∀ {l:List Edge},e∈edgesL l↔∃ x∈l,Region.binds .any x=true∧x.on=e
 | []=>by simp [edgesL]
 | x::r=>by
  simp only [edgesL]
  cases hb:Region.binds .any x with
  | true=>simp only [cond_true,List.mem_cons,edgesL_mem (l:=r)];constructor
          ·rintro (rfl | ⟨y,h1,h2⟩)
           ·exact ⟨x,.inl rfl,hb,rfl⟩
           ·exact ⟨y,.inr h1,h2⟩
          ·rintro ⟨y,rfl | h1,h2,h3⟩
           ·exact .inl h3.symm
           ·exact .inr ⟨y,h1,h2,h3⟩
  | false=>simp only [cond_false,edgesL_mem (l:=r),List.mem_cons];constructor
           ·rintro ⟨y,h1,h2⟩;exact ⟨y,.inr h1,h2⟩
           ·rintro ⟨y,rfl | h1,h2,h3⟩
            ·rw [hb] at h2;cases h2
            ·exact ⟨y,h1,h2,h3⟩
theorem freeB_spec {ops:List Oper} {x y:Oper} (hf:freeB ops x y=true):¬ (kindA x.op=2∧kindA y.op=2)∧(∀ t,x.dst=some t→t ∉ looksL ops y)∧(∀ t,y.dst=some t→t ∉ looksL ops x)∧(∀ t,x.dst=some t→y.dst≠some t):=by
 simp only [freeB,Bool.and_eq_true,Bool.not_eq_true'] at hf
 obtain ⟨⟨⟨h1,h2⟩,h3⟩,h4⟩:=hf
 refine ⟨?_,?_,?_,?_⟩
 ·rintro ⟨e1,e2⟩;rw [e1,e2] at h1;simp at h1
 ·intro t ht hm;simp only [dstIn,ht] at h2;rw [memL_iff.2 hm] at h2;cases h2
 ·intro t ht hm;simp only [dstIn,ht] at h3;rw [memL_iff.2 hm] at h3;cases h3
 ·intro t ht hy;simp only [sameDst,ht,hy] at h4;rw [bt rfl] at h4;cases h4
theorem getD_set {l:Array Bool} {i k:Nat} (hi:i<l.size):(l.setIfInBounds i true).getD k false=if k=i then true else l.getD k false:=by
 by_cases h:k=i
 ·subst h;simp [hi]
 ·have h':i≠k:=fun e=>h e.symm
  rw [if_neg h]
  simp only [Array.getD_eq_getD_getElem?,Array.getElem?_setIfInBounds_ne h']
theorem put_same {a:Act} {t:Nat} {u:Value} (ht:t<a.tmps.size):(a.put (some t) u).tmps.getD t undef=u:=by simp [Act.put,ht]
theorem put_other {a:Act} {d:Option Tmp} {t:Nat} {u:Value} (hd:d≠some t):(a.put d u).tmps.getD t undef=a.tmps.getD t undef:=by
 cases d with
 | none=>rfl
 | some k=>
  have:k≠t:=fun e=>hd (by rw [e])
  simp [Act.put,Array.getElem?_setIfInBounds_ne this]
end
end Ai
namespace Ai
section
variable [IntT]
variable {α:Type}
variable {E:Env} {P:Program} {call:CallF} {fr fr2:Fr}
def StableW (E:Env) (call:CallF) (ops:List Oper) (recs:List (Fr×Heap×AV)) (h':Heap):Prop:=
 ∀ (i:Nat) (o:Oper) (f:Fr) (hh:Heap) (v:AV),ops[i]? = some o→recs[i]? = some (f,hh,v)→kindA o.op=1→∀ (k:Nat) (Hk:Heap),
  ((∃ (o':Oper) (f':Fr) (v':AV),ops[k]? = some o'∧kindA o'.op=2∧recs[k]? = some (f',Hk,v'))∨(k=ops.length∧Hk=h'))→
  (∀ (j:Nat) (o':Oper),ops[j]? = some o'→kindA o'.op=2→(j∈((predsGo ops [])[i]?).getD []→j<k)∧(i∈((predsGo ops [])[j]?).getD []→k≤j))→
  ∃ u h2,stepA E call ops f o Hk=some (u,h2)∧eqV u v=true
theorem trace_recs {nt:Nat} {ops:List Oper}:∀ {l:List Oper} {fr:Fr} {h:Heap} {recs:List (Fr×Heap×AV)} {fr':Fr} {h':Heap},traceA E call nt ops l fr h=some (recs,fr',h')→
  ∃ (F:Nat→Fr) (H:Nat→Heap) (V:Nat→AV),F 0=fr∧H 0=h∧F l.length=fr'∧H l.length=h'∧
   (∀ i o,l[i]? = some o→stepA E call ops (F i) o (H i)=some (V i,H (i+1))∧F (i+1)=putD nt (F i) o.dst (V i))∧
   (∀ i,i<l.length→recs[i]? = some (F i,H i,V i))
 | [],fr,h,recs,fr',h',hx=>by
  simp only [traceA,Option.some.injEq,Prod.mk.injEq] at hx
  obtain ⟨rfl,rfl,rfl⟩:=hx
  exact ⟨fun _=>fr,fun _=>h,fun _=>undefA,rfl,rfl,rfl,rfl,by simp,by simp⟩
 | o::r,fr,h,recs,fr',h',hx=>by
  simp only [traceA] at hx
  cases hs1:stepA E call ops fr o h with
  | none=>simp [hs1] at hx
  | some p=>
   obtain ⟨v,h1⟩:=p
   simp only [hs1] at hx
   cases ht:traceA E call nt ops r (putD nt fr o.dst v) h1 with
   | none=>simp [ht] at hx
   | some q=>
    obtain ⟨l',fr2,h2⟩:=q
    simp only [ht,Option.some.injEq,Prod.mk.injEq] at hx
    obtain ⟨rfl,rfl,rfl⟩:=hx
    obtain ⟨F,H,V,f0,g0,fn,gn,hstep,hrec⟩:=trace_recs ht
    refine ⟨fun i=>match i with | 0=>fr | i+1=>F i,fun i=>match i with | 0=>h | i+1=>H i,fun i=>match i with | 0=>v | i+1=>V i,rfl,rfl,?_,?_,?_,?_⟩
    ·simpa using fn
    ·simpa using gn
    ·intro i o' ho
     cases i with
     | zero=>simp at ho;subst ho;simp only [g0,f0];exact ⟨hs1,trivial⟩
     | succ i=>simp at ho;exact hstep i o' ho
    ·intro i hi
     cases i with
     | zero=>rfl
     | succ i=>simpa using hrec i (by simpa using hi)
theorem drawW_wp (ok:EnvOK E P) (hm:P.follows .mixedOrders=true) (hcall:CallOK P call) {nt id:Nat} {ops:Array Oper} {h:Heap} {fr':Fr} {h':Heap} {recs:List (Fr×Heap×AV)} (ht:traceA E call nt ops.toList ops.toList fr h=some (recs,fr',h')) (hord:orderB ops.toList=true) (hstab:StableW E call ops.toList recs h')
  {μ:Mu} {w:World} {a:Act} {Q:Exit→Act→World→Prop} (hr:HR μ h w) (ha:AR μ nt fr a) (hq:∀ μ' a' w',AR μ' nt fr' a'→HR μ' h' w'→Ext μ h w μ' h' w'→Q .normal a' w'):(Code.region id ops true).wp P Q a w:=by
 skip
 {
  skip
  {
   obtain ⟨F,H,V,f0,g0,fn,gn,hstep,hrec⟩:=trace_recs ht
   have hlen:ops.toList.length=ops.size:=by simp
   have ord:∀ (i:Nat) (o:Oper),ops.toList[i]? = some o→(∀ (j:Nat) (x:Oper),j<i→ops.toList[j]? = some x→j∈((predsGo ops.toList [])[i]?).getD []∨freeB ops.toList x o=true)∧(∀ e∈edgesL o.after.toList,e<i):=by
    intro i o ho
    have:=order_spec (i:=0) hord i o ho
    simp only [Nat.zero_add] at this
    exact ⟨fun j x hj hx=>this.1 j x (by rw [List.getElem?_take_of_lt hj];exact hx),this.2⟩
   have hpreds:∀ (i:Nat) (ps:List Nat),(predsGo ops.toList [])[i]? = some ps→∃ o:Oper,ops.toList[i]? = some o∧∀ p∈ps,p∈edgesL o.after.toList∨∃ e∈edgesL o.after.toList,∃ qs,(predsGo ops.toList [])[e]? = some qs∧p∈qs:=by
    intro i ps hi
    have:=preds_spec ops.toList [] [] rfl (by simp) i ps hi
    simpa using this
   have predsIn:∀ (S:Nat→Prop),(∀ (i:Nat) (o:Oper),ops.toList[i]? = some o→S i→∀ e∈edgesL o.after.toList,S e)→
     ∀ (i:Nat) (o:Oper),ops.toList[i]? = some o→(∀ e∈edgesL o.after.toList,S e)→∀ p∈((predsGo ops.toList [])[i]?).getD [],S p:=by
    intro S hcl i
    induction i using Nat.strongRecOn with
    | _ i ih=>
     intro o ho he p hp
     cases hps:(predsGo ops.toList [])[i]? with
     | none=>simp [hps] at hp
     | some ps=>
      simp [hps] at hp
      obtain ⟨o',ho',hpp⟩:=hpreds i ps hps
      rw [ho] at ho';cases ho'
      rcases hpp p hp with h3 | ⟨e,h3,qs,h4,h5⟩
      ·exact he p h3
      ·have hlt:=(ord i o ho).2 e h3
       obtain ⟨oe,hoe,_⟩:=hpreds e qs h4
       exact ih e hlt oe hoe (hcl e oe hoe (he e h3)) p (by simp [h4];exact h5)
   have wrote:∀ (i:Nat),i≤ops.size→∀ t v,(F i).get t=some v→
     (∃ k o,k<i∧ops.toList[k]? = some o∧o.dst=some t∧t<nt∧v=V k∧∀ k' o',k'<i→ops.toList[k']? = some o'→o'.dst=some t→k'≤k)∨
     ((∀ k o,k<i→ops.toList[k]? = some o→o.dst≠some t)∧fr.get t=some v):=by
    intro i
    induction i with
    | zero=>intro _ t v hv;rw [f0] at hv;exact .inr ⟨fun k o hk=>by omega,hv⟩
    | succ i ih=>
     intro hi t v hv
     obtain ⟨o,ho⟩:∃ o,ops.toList[i]? = some o:=⟨ops.toList[i]'(by simp;omega),by simp⟩
     rw [(hstep i o ho).2] at hv
     have old:(F i).get t=some v→o.dst≠some t→(∃ k o,k<i+1∧ops.toList[k]? = some o∧o.dst=some t∧t<nt∧v=V k∧∀ k' o',k'<i+1→ops.toList[k']? = some o'→o'.dst=some t→k'≤k)∨
       ((∀ k o,k<i+1→ops.toList[k]? = some o→o.dst≠some t)∧fr.get t=some v):=by
      intro hv' hne
      rcases ih (by omega) t v hv' with ⟨k,ok',h1,h2,h3,h4,h5,h6⟩ | ⟨h1,h2⟩
      ·refine .inl ⟨k,ok',by omega,h2,h3,h4,h5,fun k' o' hk' ho' hd'=>?_⟩
       by_cases e:k'=i
       ·subst e;rw [ho] at ho';cases ho';exact absurd hd' hne
       ·exact h6 k' o' (by omega) ho' hd'
      ·refine .inr ⟨fun k ok' hk ho' hd'=>?_,h2⟩
       by_cases e:k=i
       ·subst e;rw [ho] at ho';cases ho';exact hne hd'
       ·exact h1 k ok' (by omega) ho' hd'
     cases hdst:o.dst with
     | none=>
      rw [hdst] at hv
      exact old hv (by rw [hdst];simp)
     | some d=>
      rw [hdst] at hv
      simp only [putD] at hv
      cases hlt:Nat.blt d nt with
      | false=>simp [hlt,Tr.get_nil] at hv
      | true=>
       simp only [hlt,cond_true] at hv
       rcases Tr.get_set hv with ⟨rfl,rfl⟩ | ⟨hne,hv'⟩
       ·exact .inl ⟨i,o,by omega,ho,hdst,by simpa [Nat.blt_eq] using hlt,rfl,fun k' _ hk' _ _=>by omega⟩
       ·exact old hv' (by rw [hdst];intro e;cases e;exact hne rfl)
   have Hsame:∀ (i:Nat) (o:Oper),ops.toList[i]? = some o→kindA o.op≠2→H (i+1)=H i:=fun i o ho hk=>step_heap hk (hstep i o ho).1
   have Heq:∀ (d i j:Nat),j=i+d→j≤ops.size→(∀ (k:Nat) (o:Oper),i≤k→k<j→ops.toList[k]? = some o→kindA o.op≠2)→H j=H i:=by
    intro d
    induction d with
    | zero=>intro i j hj _ _;rw [hj];rfl
    | succ d ih=>
     intro i j hj hn hk
     obtain ⟨o,ho⟩:∃ o,ops.toList[i+d]? = some o:=⟨ops.toList[i+d]'(by simp;omega),by simp⟩
     rw [hj,show i+(d+1)=(i+d)+1 from rfl,Hsame (i+d) o ho (hk _ o (by omega) (by omega) ho)]
     exact ih i (i+d) rfl (by omega) fun k o h1 h2=>hk k o h1 (by omega)
   have done:∀ (listed:Array Bool) (μ':Mu) (a':Act) (w':World),(∀ i,i<ops.size→listed.getD i false=true)→
     (∃ m,m≤ops.size∧HR μ' (H m) w'∧Ext μ h w μ' (H m) w'∧∀ (i:Nat) (o:Oper),ops.toList[i]? = some o→kindA o.op=2→(listed.getD i false=true↔i<m))→
     a'.tmps.size=nt→a'.defers=[]→
     (∀ t k o,t<nt→ops.toList[k]? = some o→o.dst=some t→listed.getD k false=true→(∀ (k':Nat) (o':Oper),ops.toList[k']? = some o'→listed.getD k' false=true→o'.dst=some t→k'≤k)→VR μ' (V k) (a'.tmps.getD t undef))→
     (∀ t v,(∀ (k:Nat) (o:Oper),ops.toList[k]? = some o→listed.getD k false=true→o.dst≠some t)→fr.get t=some v→VR μ' v (a'.tmps.getD t undef))→Q .normal a' w':=by
    intro listed μ' a' w' hall hH hts htd hsl1 hsl2
    obtain ⟨m,hmn,hr',hext,hk2⟩:=hH
    have hHm:H ops.size=H m:=Heq (ops.size-m) m ops.size (by omega) (Nat.le_refl _) fun k o h1 h2 ho hk=>by
     have:=(hk2 k o ho hk).1 (hall k h2);omega
    have gn':=gn
    rw [hlen] at gn'
    rw [← hHm,gn'] at hr' hext
    refine hq μ' a' w' ⟨fun t v hv=>?_,hts,htd⟩ hr' hext
    rw [← fn,hlen] at hv
    rcases wrote ops.size (Nat.le_refl _) t v hv with ⟨k,o,h1,h2,h3,h4,rfl,h6⟩ | ⟨h1,h2⟩
    ·exact hsl1 t k o h4 h2 h3 (hall k h1) fun k' o' ho' _ hd'=>h6 k' o' (by have:=(List.getElem?_eq_some_iff.1 ho').1;omega) ho' hd'
    ·exact hsl2 t v (fun k o ho _=>h1 k o (by have:=(List.getElem?_eq_some_iff.1 ho).1;omega) ho) h2
   have main:∀ (fuel:Nat) (listed:Array Bool) (μ':Mu) (a':Act) (w':World) (us:List Nat),us.length≤fuel→(∀ i,i<ops.size→listed.getD i false=false→i∈us)→listed.size=ops.size→
     (∀ (i:Nat) (o:Oper),ops.toList[i]? = some o→listed.getD i false=true→∀ e∈edgesL o.after.toList,listed.getD e false=true)→
     (∃ m,m≤ops.size∧HR μ' (H m) w'∧Ext μ h w μ' (H m) w'∧∀ (i:Nat) (o:Oper),ops.toList[i]? = some o→kindA o.op=2→(listed.getD i false=true↔i<m))→
     a'.tmps.size=nt→a'.defers=[]→
     (∀ t k o,t<nt→ops.toList[k]? = some o→o.dst=some t→listed.getD k false=true→(∀ (k':Nat) (o':Oper),ops.toList[k']? = some o'→listed.getD k' false=true→o'.dst=some t→k'≤k)→VR μ' (V k) (a'.tmps.getD t undef))→
     (∀ t v,(∀ (k:Nat) (o:Oper),ops.toList[k]? = some o→listed.getD k false=true→o.dst≠some t)→fr.get t=some v→VR μ' v (a'.tmps.getD t undef))→
     wpAny P .any ops Q fuel listed a' w':=by
    intro fuel
    induction fuel with
    | zero=>
     intro listed μ' a' w' us hu hus hsz hcl hH hts htd hsl1 hsl2
     have hall:∀ i,i<ops.size→listed.getD i false=true:=by
      intro i hi
      cases hl:listed.getD i false with
      | true=>rfl
      | false=>
       have:=hus i hi hl
       have:us=[]:=List.eq_nil_of_length_eq_zero (by omega)
       subst this;simp at *
     refine ⟨?_,?_⟩
     ·simp only [Region.ready,List.filter_eq_nil_iff,List.mem_range]
      intro i hi hc
      have h1:=hall i hi
      have:listed.getD i true=true:=by
       have hlt:i<listed.size:=by omega
       simp [Array.getD,hlt] at h1 ⊢;exact h1
      simp [this] at hc
     ·exact done listed μ' a' w' hall hH hts htd hsl1 hsl2
    | succ fuel ih=>
     intro listed μ' a' w' us hu hus hsz hcl hH hts htd hsl1 hsl2
     refine ⟨?_,?_⟩
     ·intro hready
      refine done listed μ' a' w' ?_ hH hts htd hsl1 hsl2
      intro i
      induction i using Nat.strongRecOn with
      | _ i ihi=>
       intro hin
       cases hl:listed.getD i false with
       | true=>rfl
       | false=>
        exfalso
        have hlt:i<listed.size:=by omega
        have hnt:listed.getD i true=false:=by simp [Array.getD,hlt] at hl ⊢;exact hl
        have hmem:i∈Region.ready .any ops listed:=by
         simp only [Region.ready,List.mem_filter,List.mem_range,Bool.and_eq_true,Bool.not_eq_true']
         refine ⟨hin,hnt,?_⟩
         have ho:ops[i]? = some ops[i]:=by simp [hin]
         rw [ho]
         simp only [Option.map_some,Option.getD_some,Array.all_eq_true_iff_forall_mem]
         intro x hx
         cases hbx:Region.binds .any x with
         | false=>simp
         | true=>
          have he:x.on∈edgesL ops[i].after.toList:=edgesL_mem.2 ⟨x,by simpa using hx,hbx,rfl⟩
          have hlt':=(ord i ops[i] (by simp [hin])).2 _ he
          simpa using ihi x.on hlt' (by omega)
        rw [hready] at hmem
        simp at hmem
     ·intro i hi
      simp only [Region.ready,List.mem_filter,List.mem_range,Bool.and_eq_true,Bool.not_eq_true'] at hi
      obtain ⟨hin,hnl,hed⟩:=hi
      have hlt:i<listed.size:=by omega
      have hnl':listed.getD i false=false:=by simp [Array.getD,hlt] at hnl ⊢;exact hnl
      have ho:ops[i]? = some ops[i]:=by simp [hin]
      have hoL:ops.toList[i]? = some ops[i]:=by simp [hin]
      have hedge:∀ e∈edgesL ops[i].after.toList,listed.getD e false=true:=by
       intro e he
       obtain ⟨x,h1,h2,h3⟩:=edgesL_mem.1 he
       rw [ho] at hed
       simp only [Option.map_some,Option.getD_some,Array.all_eq_true_iff_forall_mem] at hed
       have:=hed x (by simpa using h1)
       simp [h2] at this
       rw [← h3];simpa using this
      have hplist:=predsIn (fun k=>listed.getD k false=true) hcl i ops[i] hoL hedge
      have behind:∀ (k:Nat) (o:Oper),i<k→ops.toList[k]? = some o→listed.getD k false=true→freeB ops.toList ops[i] o=true:=by
       intro k o hik hok hlk
       rcases (ord k o hok).1 i ops[i] hik hoL with h1 | h1
       ·have h9:listed.getD i false=true:=predsIn (fun k=>listed.getD k false=true) hcl k o hok (hcl k o hok hlk) i h1
        rw [hnl'] at h9;cases h9
       ·exact h1
      have ahead:∀ (k:Nat) (o:Oper),k<i→ops.toList[k]? = some o→listed.getD k false=true∨freeB ops.toList o ops[i]=true:=by
       intro k o hki hok
       rcases (ord i ops[i] hoL).1 k o hki hok with h1 | h1
       ·exact .inl (hplist k h1)
       ·exact .inr h1
      obtain ⟨m,hmn,hrm,hext,hk2⟩:=hH
      have hget:∀ t,(Tr.restrict.restrictL (fun t=>memL t (looksL ops.toList ops[i])) (F i)).get t=bif memL t (looksL ops.toList ops[i]) then (F i).get t else none:=fun t=>Tr.get_restrict (F i) _ t
      have har:AR μ' nt (Tr.restrict.restrictL (fun t=>memL t (looksL ops.toList ops[i])) (F i)) a':=by
       refine ⟨fun t v hv=>?_,hts,htd⟩
       rw [hget] at hv
       cases hmt:memL t (looksL ops.toList ops[i]) with
       | false=>simp [hmt] at hv
       | true=>
        simp only [hmt,cond_true] at hv
        have hmt':=memL_iff.1 hmt
        rcases wrote i (by omega) t v hv with ⟨k,o,h1,h2,h3,h4,rfl,h6⟩ | ⟨h1,h2⟩
        ·have hlk:listed.getD k false=true:=by
          rcases ahead k o h1 h2 with h7 | h7
          ·exact h7
          ·exact absurd hmt' ((freeB_spec h7).2.1 t h3)
         refine hsl1 t k o h4 h2 h3 hlk fun k' o' ho' hl' hd'=>?_
         rcases Nat.lt_trichotomy k' i with h7 | rfl | h7
         ·exact h6 k' o' h7 ho' hd'
         ·rw [hnl'] at hl';cases hl'
         ·exact absurd hmt' ((freeB_spec (behind k' o' h7 ho' hl')).2.2.1 t hd')
        ·refine hsl2 t v (fun k o hok hlk hd'=>?_) h2
         rcases Nat.lt_trichotomy k i with h7 | rfl | h7
         ·exact h1 k o h7 hok hd'
         ·rw [hnl'] at hlk;cases hlk
         ·exact absurd hmt' ((freeB_spec (behind k o h7 hok hlk)).2.2.1 t hd')
      have hcong:∀ Hx,stepA E call ops.toList (Tr.restrict.restrictL (fun t=>memL t (looksL ops.toList ops[i])) (F i)) ops[i] Hx=stepA E call ops.toList (F i) ops[i] Hx:=by
       intro Hx
       refine step_congr fun t ht=>?_
       rw [hget,memL_iff.2 ht];rfl
      have hres:∃ m',m'≤ops.size∧stepA E call ops.toList (F i) ops[i] (H m)=some (V i,H m')∧
        ∀ (k:Nat) (o:Oper),ops.toList[k]? = some o→kindA o.op=2→((listed.setIfInBounds i true).getD k false=true↔k<m'):=by
       have keep:kindA ops[i].op≠2→∀ (k:Nat) (o:Oper),ops.toList[k]? = some o→kindA o.op=2→((listed.setIfInBounds i true).getD k false=true↔k<m):=by
        intro hne k o hok hk
        have hki:k≠i:=by rintro rfl;rw [hoL] at hok;cases hok;exact hne hk
        rw [getD_set hlt,if_neg hki];exact hk2 k o hok hk
       rcases kindA_le ops[i].op with h0 | h1 | h2
       ·exact ⟨m,hmn,step_free h0 (hstep i ops[i] hoL).1 (H m),keep (by omega)⟩
       ·have hwin:∀ (k:Nat) (o:Oper),ops.toList[k]? = some o→kindA o.op=2→(k∈((predsGo ops.toList [])[i]?).getD []→k<m)∧(i∈((predsGo ops.toList [])[k]?).getD []→m≤k):=by
         intro k o hok hk
         refine ⟨fun h7=>(hk2 k o hok hk).1 (hplist k h7),fun h7=>?_⟩
         rcases Nat.lt_or_ge k m with h8 | h8
         ·have hlk:=(hk2 k o hok hk).2 h8
          have h9:listed.getD i false=true:=predsIn (fun k=>listed.getD k false=true) hcl k o hok (hcl k o hok hlk) i h7
          rw [hnl'] at h9;cases h9
         ·exact h8
        have hstage:∃ k,m≤k∧k≤ops.size∧H k=H m∧(k=ops.size∨∃ o,ops.toList[k]? = some o∧kindA o.op=2)∧∀ (j:Nat) (o:Oper),m≤j→j<k→ops.toList[j]? = some o→kindA o.op≠2:=by
         have:∀ d m,m+d=ops.size→∃ k,m≤k∧k≤ops.size∧H k=H m∧(k=ops.size∨∃ o,ops.toList[k]? = some o∧kindA o.op=2)∧∀ (j:Nat) (o:Oper),m≤j→j<k→ops.toList[j]? = some o→kindA o.op≠2:=by
          intro d
          induction d with
          | zero=>intro m hm;exact ⟨m,Nat.le_refl _,by omega,rfl,.inl (by omega),fun j o h1 h2=>by omega⟩
          | succ d ihd=>
           intro m hm
           obtain ⟨o,hoo⟩:∃ o,ops.toList[m]? = some o:=⟨ops.toList[m]'(by simp;omega),by simp⟩
           by_cases hk:kindA o.op=2
           ·exact ⟨m,Nat.le_refl _,by omega,rfl,.inr ⟨o,hoo,hk⟩,fun j o h1 h2=>by omega⟩
           ·obtain ⟨k,g1,g2,g3,g4,g5⟩:=ihd (m+1) (by omega)
            refine ⟨k,by omega,g2,by rw [g3];exact Hsame m o hoo hk,g4,fun j o' h1 h2 h3=>?_⟩
            by_cases hjm:j=m
            ·subst hjm;rw [hoo] at h3;cases h3;exact hk
            ·exact g5 j o' (by omega) h2 h3
         exact this (ops.size-m) m (by omega)
        obtain ⟨k,g1,g2,g3,g4,g5⟩:=hstage
        obtain ⟨u,h3,h4,he⟩:=hstab i ops[i] (F i) (H i) (V i) hoL (hrec i (by simpa using hin)) h1 k (H k) (by
         rcases g4 with rfl | ⟨o,h7,_⟩
         ·right;exact ⟨by simp,by rw [← gn];simp⟩
         ·left;exact ⟨o,F k,V k,h7,by assumption,hrec k (by have:=(List.getElem?_eq_some_iff.1 h7).1;simpa using this)⟩) (fun j o hoj hj=>by
         obtain ⟨w1,w2⟩:=hwin j o hoj hj
         refine ⟨fun h7=>by have:=w1 h7;omega,fun h7=>?_⟩
         have h8:=w2 h7
         rcases Nat.lt_or_ge j k with h9 | h9
         ·exact absurd hj (g5 j o h8 h9 hoj)
         ·exact h9)
        rw [g3] at h4
        have he':=eqV_eq _ _ he
        subst he'
        have:=step_heap (by omega) h4
        subst this
        exact ⟨m,hmn,h4,keep (by omega)⟩
       ·have hiff:∀ (k:Nat) (o:Oper),ops.toList[k]? = some o→kindA o.op=2→(k<m↔k<i):=by
         intro k o hok hk
         rw [← hk2 k o hok hk]
         constructor
         ·intro hlk
          rcases Nat.lt_trichotomy k i with h7 | rfl | h7
          ·exact h7
          ·rw [hnl'] at hlk;cases hlk
          ·exact absurd ⟨h2,hk⟩ (freeB_spec (behind k o h7 hok hlk)).1
         ·intro hki
          rcases ahead k o hki hok with h7 | h7
          ·exact h7
          ·exact absurd ⟨hk,h2⟩ (freeB_spec h7).1
        have hHi:H m=H i:=by
         rcases Nat.le_total m i with h7 | h7
         ·exact (Heq (i-m) m i (by omega) (by omega) fun k o h8 h9 hok hk=>by have:=(hiff k o hok hk).2 h9;omega).symm
         ·exact Heq (m-i) i m (by omega) hmn fun k o h8 h9 hok hk=>by have:=(hiff k o hok hk).1 h9;omega
        refine ⟨i+1,hin,by rw [hHi];exact (hstep i ops[i] hoL).1,fun k o hok hk=>?_⟩
        rw [getD_set hlt]
        by_cases hki:k=i
        ·rw [if_pos hki];simp;omega
        ·rw [if_neg hki,hk2 k o hok hk,hiff k o hok hk];omega
      obtain ⟨m',hmn',hstepm,hk2'⟩:=hres
      show wpOp P ops Q i _ a' w'
      unfold wpOp
      rw [ho]
      refine step_wp ok hcall hrm har (by rw [hcong];exact hstepm) ?_
      intro μ2 u w2 hv hr2 hext2
      refine ih (listed.setIfInBounds i true) μ2 _ w2 (us.erase i) ?_ ?_ (by simpa using hsz) ?_ ⟨m',hmn',hr2,Ext.trans hr hext hext2,hk2'⟩ (by simpa [Act.put] using (by cases ops[i].dst <;> simp [hts])) (by cases ops[i].dst <;> simp [Act.put,htd]) ?_ ?_
      ·have:=hus i hin hnl'
       rw [List.length_erase_of_mem this];omega
      ·intro k hk hl
       rw [getD_set hlt] at hl
       by_cases hki:k=i
       ·rw [if_pos hki] at hl;cases hl
       ·rw [if_neg hki] at hl
        exact (List.mem_erase_of_ne hki).2 (hus k hk hl)
      ·intro k o hok hl e he
       rw [getD_set hlt] at hl ⊢
       by_cases hei:e=i
       ·rw [if_pos hei]
       ·rw [if_neg hei]
        by_cases hki:k=i
        ·subst hki;rw [hoL] at hok;cases hok;exact hedge e he
        ·rw [if_neg hki] at hl;exact hcl k o hok hl e he
      ·intro t k o htn hok hd' hl hmax
       rw [getD_set hlt] at hl
       by_cases hdi:ops[i].dst=some t
       ·have hik:i≤k:=hmax i ops[i] hoL (by rw [getD_set hlt,if_pos rfl]) hdi
        have hki:k=i:=by
         by_cases hki:k=i
         ·exact hki
         ·rw [if_neg hki] at hl
          exact absurd hd' ((freeB_spec (behind k o (by omega) hok hl)).2.2.2 t hdi)
        subst hki
        rw [hdi,put_same (by omega)];exact hv
       ·have hki:k≠i:=by rintro rfl;rw [hoL] at hok;cases hok;exact hdi hd'
        rw [if_neg hki] at hl
        rw [put_other hdi]
        refine VR.mono hext2.mono _ _ (hsl1 t k o htn hok hd' hl fun k' o' ho' hl' hd''=>hmax k' o' ho' ?_ hd'')
        rw [getD_set hlt];split
        ·rfl
        ·exact hl'
      ·intro t v hno hv'
       have hdi:ops[i].dst≠some t:=hno i ops[i] hoL (by rw [getD_set hlt,if_pos rfl])
       rw [put_other hdi]
       refine VR.mono hext2.mono _ _ (hsl2 t v (fun k o hok hl=>hno k o hok ?_) hv')
       rw [getD_set hlt];split
       ·rfl
       ·exact hl
   refine wp_region_any hm ?_
   have hr0:HR μ h { w with drawn:=w.drawn+1 }:=hr.draws rfl
   have hfalse:∀ k,(Array.replicate ops.size false).getD k false=false:=by
    intro k;simp [Array.getD]
   refine main ops.size _ μ a _ (List.range ops.size) (by simp) (by intro i hi _;simpa using hi) (by simp) ?_ ⟨0,Nat.zero_le _,by rw [g0];exact hr0,by rw [g0];exact Ext.draws rfl rfl rfl rfl,?_⟩ ha.size ha.defers ?_ ?_
   ·intro i o _ hl;rw [hfalse] at hl;cases hl
   ·intro i o _ _;rw [hfalse];simp
   ·intro t k o _ _ _ hl;rw [hfalse] at hl;cases hl
   ·intro t v _ hv;exact ha.slot t v hv
  }
 }
theorem winLo_spec {ops:List Oper} {k:Nat}:∀ {l:List Nat},winLo ops k l=true↔∀ j∈l,∀ o,ops[j]? = some o→kindA o.op=2→j<k
 | []=>by simp [winLo]
 | j::r=>by
  simp only [winLo]
  have hk:k2at ops j=true↔∃ o,ops[j]? = some o∧kindA o.op=2:=by
   unfold k2at
   cases ops[j]? with
   | none=>simp
   | some o=>simp
  cases h1:k2at ops j with
  | false=>
   simp only [Bool.false_and,cond_false,winLo_spec (l:=r),List.mem_cons]
   constructor
   ·rintro h2 j' (rfl | h3) o ho hk2
    ·have:=hk.2 ⟨o,ho,hk2⟩;rw [h1] at this;cases this
    ·exact h2 j' h3 o ho hk2
   ·exact fun h2 j' h3=>h2 j' (.inr h3)
  | true=>
   obtain ⟨o,ho,hk2⟩:=hk.1 h1
   cases h4:Nat.blt j k with
   | true=>
    have h5:j<k:=by simpa [Nat.blt_eq] using h4
    simp only [Bool.not_true,Bool.and_false,cond_false,winLo_spec (l:=r),List.mem_cons]
    constructor
    ·rintro h2 j' (rfl | h3) o' ho' hk2'
     ·exact h5
     ·exact h2 j' h3 o' ho' hk2'
    ·exact fun h2 j' h3=>h2 j' (.inr h3)
   | false=>
    have h5:¬ j<k:=by
     intro h6;have:Nat.blt j k=true:=by simpa [Nat.blt_eq] using h6
     rw [h4] at this;cases this
    simp only [Bool.not_false,Bool.and_self,cond_true]
    constructor
    ·intro h;cases h
    ·intro h2;exact absurd (h2 j (by simp) o ho hk2) h5
theorem winHi_spec {ops:List Oper} {i k:Nat}:∀ {l:List (List Nat)} {b:Nat},(∀ (j:Nat) (ps:List Nat),l[j]? = some ps→∀ o,ops[b+j]? = some o→kindA o.op=2→i∈ps→k≤b+j)→winHi ops i k b l=true
 | [],b,h=>rfl
 | ps::r,b,h=>by
  simp only [winHi]
  have hr:=winHi_spec (l:=r) (b:=b+1) (fun j qs hj o ho hk hi=>by
   have h7:=h (j+1) qs (by simpa using hj) o (by rw [show b+(j+1)=b+1+j by omega];exact ho) hk hi
   rw [show b+1+j=b+(j+1) by omega];exact h7)
  cases hc:(k2at ops b&&(memL i ps&&!Nat.ble k b)) with
  | false=>simpa using hr
  | true=>
   simp only [Bool.and_eq_true,Bool.not_eq_true'] at hc
   obtain ⟨h1,h2,h3⟩:=hc
   unfold k2at at h1
   split at h1
   ·rename_i o ho
    have h5:=h 0 ps rfl o (by simpa using ho) (Nat.eq_of_beq_eq_true h1) (memL_iff.1 h2)
    have h4:Nat.ble k b=true:=by simpa using h5
    rw [h3] at h4;cases h4
   ·cases h1
theorem stagesI_mem {ops:List Oper}:∀ {l:List Oper} {i:Nat} {recs:List (Fr×Heap×AV)} {e:Heap},recs.length=l.length→
  (i+l.length,e)∈stagesI i l recs e∧∀ (j:Nat) (o:Oper) (f:Fr) (hh:Heap) (v:AV),l[j]? = some o→recs[j]? = some (f,hh,v)→kindA o.op=2→(i+j,hh)∈stagesI i l recs e
 | [],i,[],e,_=>⟨by simp [stagesI],fun j o f hh v h=>by simp at h⟩
 | o::r,i,(f,h,v)::q,e,hl=>by
  obtain ⟨h1,h2⟩:=stagesI_mem (ops:=ops) (l:=r) (i:=i+1) (recs:=q) (e:=e) (by simpa using hl)
  have up:∀ x,x∈stagesI (i+1) r q e→x∈stagesI i (o::r) ((f,h,v)::q) e:=by
   intro x hx
   simp only [stagesI]
   cases Nat.beq (kindA o.op) 2
   ·exact hx
   ·exact List.mem_cons_of_mem _ hx
  refine ⟨?_,fun j o' f' hh v' hj hr hk=>?_⟩
  ·rw [List.length_cons,show i+(r.length+1)=i+1+r.length from by omega];exact up _ h1
  ·cases j with
   | zero=>
    simp at hj hr
    subst hj;obtain ⟨_,rfl,_⟩:=hr
    simp only [stagesI,hk]
    exact List.mem_cons_self
   | succ j=>
    rw [show i+(j+1)=i+1+j from by omega]
    exact up _ (h2 j o' f' hh v' (by simpa using hj) (by simpa using hr) hk)
 | [],_,_::_,_,hl=>by simp at hl
 | _::_,_,[],_,hl=>by simp at hl
theorem stableI_spec {ops:List Oper} {wn:Nat→Nat→Bool} {hs:List (Nat×Heap)}:∀ {l:List Oper} {i:Nat} {recs:List (Fr×Heap×AV)},stableI E call ops wn hs i l recs=true→
  ∀ (j:Nat) (o:Oper) (f:Fr) (hh:Heap) (v:AV),l[j]? = some o→recs[j]? = some (f,hh,v)→kindA o.op=1→∀ p∈hs,wn (i+j) p.1=true→∃ u h2,stepA E call ops f o p.2=some (u,h2)∧eqV u v=true
 | [],i,recs,h,j,o,f,hh,v,hj,_,_,_,_,_=>by simp at hj
 | x::r,i,[],h,j,o,f,hh,v,hj,hr,_,_,_,_=>by simp at hr
 | x::r,i,(f0,h0,v0)::q,h,j,o,f,hh,v,hj,hr,hk,p,hp,hw=>by
  simp only [stableI,Bool.and_eq_true] at h
  cases j with
  | zero=>
   simp at hj hr
   subst hj;obtain ⟨rfl,rfl,rfl⟩:=hr
   have h1:=h.1
   rw [hk] at h1
   simp only [show Nat.beq 1 1=true from rfl,cond_true,List.all_eq_true] at h1
   have h2:=h1 p hp
   rw [Nat.add_zero] at hw
   rw [hw] at h2
   simp only [cond_true] at h2
   split at h2
   ·rename_i u h3 he;exact ⟨u,h3,he,h2⟩
   ·cases h2
  | succ j=>
   rw [show i+(j+1)=i+1+j from by omega] at hw
   exact stableI_spec h.2 j o f hh v (by simpa using hj) (by simpa using hr) hk p hp hw
theorem drawI_wp (ok:EnvOK E P) (hm:P.follows .mixedOrders=true) (hcall:CallOK P call) {nt id:Nat} {ops:Array Oper} {h:Heap} {fr':Fr} {h':Heap} (hd:drawI E call nt ops.toList fr h=some (fr',h'))
  {μ:Mu} {w:World} {a:Act} {Q:Exit→Act→World→Prop} (hr:HR μ h w) (ha:AR μ nt fr a) (hq:∀ μ' a' w',AR μ' nt fr' a'→HR μ' h' w'→Ext μ h w μ' h' w'→Q .normal a' w'):(Code.region id ops true).wp P Q a w:=by
 unfold drawI at hd
 cases ht:traceA E call nt ops.toList ops.toList fr h with
 | none=>simp [ht] at hd
 | some q=>
  obtain ⟨recs,fr2,h2⟩:=q
  simp only [ht] at hd
  cases hb:(orderB ops.toList&&stableI E call ops.toList (winB ops.toList (predsGo ops.toList [])) (stagesI 0 ops.toList recs h2) 0 ops.toList recs) with
  | false=>simp [hb] at hd
  | true=>
   simp only [hb,cond_true,Option.some.injEq,Prod.mk.injEq] at hd
   obtain ⟨rfl,rfl⟩:=hd
   simp only [Bool.and_eq_true] at hb
   obtain ⟨hord,hsta⟩:=hb
   have hlen:recs.length=ops.toList.length:=by
    have:∀ {l:List Oper} {fr:Fr} {h:Heap} {recs:List (Fr×Heap×AV)} {fr':Fr} {h':Heap},traceA E call nt ops.toList l fr h=some (recs,fr',h')→recs.length=l.length:=by
     intro l
     induction l with
     | nil=>intro fr h recs fr' h' hx;simp only [traceA,Option.some.injEq,Prod.mk.injEq] at hx;rw [← hx.1];rfl
     | cons o r ih=>
      intro fr h recs fr' h' hx
      simp only [traceA] at hx
      split at hx
      ·rename_i v h1 hs1
       split at hx
       ·rename_i l2 p hp
        obtain ⟨fr3,h3⟩:=p
        simp only [Option.some.injEq,Prod.mk.injEq] at hx
        rw [← hx.1,List.length_cons,List.length_cons,ih hp]
       ·cases hx
      ·cases hx
    exact this ht
   obtain ⟨m1,m2⟩:=stagesI_mem (ops:=ops.toList) (l:=ops.toList) (i:=0) (recs:=recs) (e:=h2) hlen
   refine drawW_wp ok hm hcall ht hord ?_ hr ha hq
   intro i o f hh v hi hrec hk k Hk hstage hwin
   have hHS:(k,Hk)∈stagesI 0 ops.toList recs h2:=by
    rcases hstage with ⟨o',f',v',g1,g2,g3⟩ | ⟨rfl,rfl⟩
    ·have:=m2 k o' f' Hk v' g1 g3 g2
     rwa [Nat.zero_add] at this
    ·rwa [Nat.zero_add] at m1
   have hw:winB ops.toList (predsGo ops.toList []) i k=true:=by
    unfold winB
    simp only [Bool.and_eq_true]
    refine ⟨winLo_spec.2 fun j hj o' ho' hk'=>(hwin j o' ho' hk').1 hj,winHi_spec fun j ps hj o' ho' hk' hi'=>?_⟩
    rw [Nat.zero_add] at ho' ⊢
    exact (hwin j o' ho' hk').2 (by rw [hj];exact hi')
   have:=stableI_spec hsta i o f hh v hi hrec hk (k,Hk) hHS
   rw [Nat.zero_add] at this
   exact this hw
end
end Ai
namespace Ai
variable [IntT]
def freeS (ops:List Oper) (x y:Oper):Bool:=
 !(Nat.beq (kindA x.op) 2&&!Nat.beq (kindA y.op) 0)&&!(!Nat.beq (kindA x.op) 0&&Nat.beq (kindA y.op) 2)&&!dstIn x.dst (looksL ops y)&&!dstIn y.dst (looksL ops x)&&!sameDst x.dst y.dst
def againstS (ops:List Oper) (o:Oper) (ps:List Nat):Nat→List Oper→Bool
 | _,[]=>true
 | j,x::r=>(memL j ps||freeS ops x o)&&againstS ops o ps (j+1) r
def orderSGo (ops:List Oper) (preds:List (List Nat)):Nat→List Oper→Bool
 | _,[]=>true
 | i,o::r=>againstS ops o ((preds[i]?).getD []) 0 (ops.take i)&&(edgesL o.after.toList).all (fun e=>Nat.blt e i)&&orderSGo ops preds (i+1) r
def orderS (ops:List Oper):Bool:=orderSGo ops (predsGo ops []) 0 ops
theorem eqBytes_refl:∀ s:List UInt8,eqBytes s s=true
 | []=>rfl
 | a::s=>by simp [eqBytes,eqBytes_refl s]
theorem eqInt_refl (n:Int):eqInt n n=true:=by cases n <;> simp [eqInt]
mutual
theorem eqV_refl:∀ v:AV,eqV v v=true
 | .bool b=>by cases b <;> rfl
 | .int k n=>by simp [eqV,eqKind,eqInt_refl]
 | .str s=>by simp [eqV,eqBytes_refl]
 | .ptr none=>rfl
 | .ptr (some (A,i))=>by simp [eqV]
 | .slice none l c s=>by simp [eqV]
 | .slice (some (A,i)) l c s=>by simp [eqV]
 | .map none=>rfl
 | .map (some A)=>by simp [eqV]
 | .func f a b=>by simp [eqV,eqVs_refl a,eqVs_refl b]
 | .nilFunc=>rfl
 | .iface t v=>by simp [eqV,eqV_refl v]
 | .nilIface=>rfl
 | .agg a=>by simp [eqV,eqVs_refl a]
 | .tuple a=>by simp [eqV,eqVs_refl a]
theorem eqVs_refl:∀ v:List AV,eqVs v v=true
 | []=>rfl
 | a::r=>by simp [eqVs,eqV_refl a,eqVs_refl r]
end
section
variable {α:Type}
variable {E:Env} {P:Program} {call:CallF} {fr fr2:Fr}
theorem againstS_spec {ops:List Oper} {o:Oper} {ps:List Nat}:∀ {l:List Oper} {j:Nat},againstS ops o ps j l=true→∀ k x,l[k]? = some x→j+k∈ps∨freeS ops x o=true
 | [],j,h,k,x,hk=>by simp at hk
 | y::r,j,h,k,x,hk=>by
  simp only [againstS,Bool.and_eq_true,Bool.or_eq_true] at h
  cases k with
  | zero=>simp at hk;subst hk;exact h.1.imp (fun e=>by simpa using memL_iff.1 e) id
  | succ k=>
   simp at hk
   have:=againstS_spec h.2 k x hk
   rw [show j+(k+1)=j+1+k from by omega];exact this
theorem orderS_spec {ops:List Oper} {preds:List (List Nat)}:∀ {l:List Oper} {i:Nat},orderSGo ops preds i l=true→∀ k o,l[k]? = some o→
  (∀ j x,(ops.take (i+k))[j]? = some x→j∈(preds[i+k]?).getD []∨freeS ops x o=true)∧(∀ e∈edgesL o.after.toList,e<i+k)
 | [],i,h,k,o,hk=>by simp at hk
 | y::r,i,h,k,o,hk=>by
  simp only [orderSGo,Bool.and_eq_true] at h
  cases k with
  | zero=>
   simp at hk;subst hk
   refine ⟨fun j x hj=>by simpa using againstS_spec h.1.1 j x (by simpa using hj),fun e he=>?_⟩
   have:=List.all_eq_true.1 h.1.2 e he
   simpa [Nat.blt_eq] using this
  | succ k=>
   simp at hk
   have:=orderS_spec h.2 k o hk
   rw [show i+(k+1)=i+1+k from by omega];exact this
theorem freeS_spec {ops:List Oper} {x y:Oper} (hf:freeS ops x y=true):¬ ((kindA x.op=2∧kindA y.op≠0)∨(kindA x.op≠0∧kindA y.op=2))∧(∀ t,x.dst=some t→t ∉ looksL ops y)∧(∀ t,y.dst=some t→t ∉ looksL ops x)∧(∀ t,x.dst=some t→y.dst≠some t):=by
 simp only [freeS,Bool.and_eq_true,Bool.not_eq_true'] at hf
 obtain ⟨⟨⟨⟨h1,h1'⟩,h2⟩,h3⟩,h4⟩:=hf
 refine ⟨?_,?_,?_,?_⟩
 ·rintro (⟨e1,e2⟩ | ⟨e1,e2⟩)
  ·rw [e1] at h1;simp [e2] at h1
  ·rw [e2] at h1';simp [e1] at h1'
 ·intro t ht hm;simp only [dstIn,ht] at h2;rw [memL_iff.2 hm] at h2;cases h2
 ·intro t ht hm;simp only [dstIn,ht] at h3;rw [memL_iff.2 hm] at h3;cases h3
 ·intro t ht hy;simp only [sameDst,ht,hy] at h4;rw [bt rfl] at h4;cases h4
theorem orderB_of_S {ops:List Oper} {preds:List (List Nat)}:∀ {l:List Oper} {i:Nat},orderSGo ops preds i l=true→orderGo ops preds i l=true
 | [],_,_=>rfl
 | o::r,i,h=>by
  simp only [orderSGo,orderGo,Bool.and_eq_true] at h ⊢
  have go:∀ {l:List Oper} {j:Nat},againstS ops o ((preds[i]?).getD []) j l=true→againstB ops o ((preds[i]?).getD []) j l=true:=by
   intro l
   induction l with
   | nil=>intro _ _;rfl
   | cons x l ih=>
    intro j h
    simp only [againstS,againstB,Bool.and_eq_true,Bool.or_eq_true] at h ⊢
    refine ⟨h.1.imp id fun h1=>?_,ih h.2⟩
    simp only [freeS,freeB,Bool.and_eq_true,Bool.not_eq_true'] at h1 ⊢
    obtain ⟨⟨⟨⟨h1,_⟩,h2⟩,h3⟩,h4⟩:=h1
    refine ⟨⟨⟨?_,h2⟩,h3⟩,h4⟩
    cases hx:Nat.beq (kindA x.op) 2 with
    | false=>rfl
    | true=>
     cases hy:Nat.beq (kindA o.op) 2 with
     | false=>rfl
     | true=>
      rw [hx,Nat.eq_of_beq_eq_true hy] at h1
      cases h1
  exact ⟨⟨go h.1.1,h.1.2⟩,orderB_of_S h.2⟩
theorem drawS_wp (ok:EnvOK E P) (hm:P.follows .mixedOrders=true) (hcall:CallOK P call) {nt id:Nat} {ops:Array Oper} {h:Heap} {fr':Fr} {h':Heap} {recs:List (Fr×Heap×AV)} (ht:traceA E call nt ops.toList ops.toList fr h=some (recs,fr',h')) (hord:orderS ops.toList=true)
  {μ:Mu} {w:World} {a:Act} {Q:Exit→Act→World→Prop} (hr:HR μ h w) (ha:AR μ nt fr a) (hq:∀ μ' a' w',AR μ' nt fr' a'→HR μ' h' w'→Ext μ h w μ' h' w'→Q .normal a' w'):(Code.region id ops true).wp P Q a w:=by
 refine drawW_wp ok hm hcall ht (orderB_of_S hord) ?_ hr ha hq
 obtain ⟨F,H,V,f0,g0,fn,gn,hstep,hrecs⟩:=trace_recs ht
 intro i o f hh v hi hrec hk k Hk hstage hwin
 have hil:=(List.getElem?_eq_some_iff.1 hi).1
 have e1:=hrecs i hil
 rw [hrec] at e1
 simp only [Option.some.injEq,Prod.mk.injEq] at e1
 obtain ⟨rfl,rfl,rfl⟩:=e1
 have hkl:k≤ops.toList.length∧Hk=H k:=by
  rcases hstage with ⟨o',f',v',h1,_,h3⟩ | ⟨rfl,rfl⟩
  ·have hl:=(List.getElem?_eq_some_iff.1 h1).1
   have e2:=hrecs k hl
   rw [h3] at e2
   simp only [Option.some.injEq,Prod.mk.injEq] at e2
   exact ⟨Nat.le_of_lt hl,e2.2.1⟩
  ·exact ⟨Nat.le_refl _,gn.symm⟩
 obtain ⟨hkl,rfl⟩:=hkl
 have hno:∀ j x,ops.toList[j]? = some x→((i≤j∧j<k)∨(k≤j∧j<i))→kindA x.op≠2:=by
  intro j x hx hb hk2
  rcases hb with ⟨b1,b2⟩ | ⟨b1,b2⟩
  ·rcases Nat.lt_or_ge i j with b3 | b3
   ·have:=(orderS_spec hord j x hx).1 i o (by rw [List.getElem?_take_of_lt (by omega)];exact hi)
    rw [Nat.zero_add] at this
    rcases this with h1 | h1
    ·have:=(hwin j x hx hk2).2 h1;omega
    ·exact (freeS_spec h1).1 (.inr ⟨by omega,hk2⟩)
   ·have:j=i:=by omega
    subst this;rw [hi] at hx;cases hx;omega
  ·have:=(orderS_spec hord i o hi).1 j x (by rw [List.getElem?_take_of_lt (by omega)];exact hx)
   rw [Nat.zero_add] at this
   rcases this with h1 | h1
   ·have:=(hwin j x hx hk2).1 h1;omega
   ·exact (freeS_spec h1).1 (.inl ⟨hk2,by omega⟩)
 have hrun:∀ d a,a+d≤ops.toList.length→(∀ j x,ops.toList[j]? = some x→a≤j→j<a+d→kindA x.op≠2)→H (a+d)=H a:=by
  intro d
  induction d with
  | zero=>intro a _ _;rfl
  | succ d ih=>
   intro a hl hn
   have hx:ops.toList[a+d]? = some (ops.toList[a+d]'(by omega)):=by simp
   have:=step_heap (hn (a+d) _ hx (by omega) (by omega)) (hstep (a+d) _ hx).1
   rw [show a+(d+1)=a+d+1 from rfl,this]
   exact ih a (by omega) fun j x h1 h2 h3=>hn j x h1 h2 (by omega)
 have heq:H k=H i:=by
  rcases Nat.le_total i k with hik | hik
  ·have:=hrun (k-i) i (by omega) fun j x h1 h2 h3=>hno j x h1 (.inl ⟨h2,by omega⟩)
   rwa [show i+(k-i)=k by omega] at this
  ·have:=hrun (i-k) k (by omega) fun j x h1 h2 h3=>hno j x h1 (.inr ⟨h2,by omega⟩)
   rw [show k+(i-k)=i by omega] at this
   exact this.symm
 rw [heq]
 exact ⟨_,_,(hstep i o hi).1,eqV_refl _⟩
end
end Ai
namespace Ai
variable [IntT]
namespace Tr
variable {α:Type}
theorem beq0 {n:Nat}:Nat.beq n 0=decide (n=0):=by cases n <;> rfl
theorem beq1 {n:Nat}:Nat.beq (n % 2) 1=decide (n % 2=1):=by
 cases h:Nat.beq (n % 2) 1 with
 | true=>have:=Nat.eq_of_beq_eq_true h;simp [this]
 | false=>have:=Nat.ne_of_beq_eq_false h;simp [this]
theorem get_setN_same:∀ (f:Nat) (t:Tr α) (n:Nat) (x:α),n+1<2 ^ f→get (setN f t n x) n=some x
 | 0,t,n,x,h=>by simp at h
 | f+1,t,n,x,h=>by
  have hp:2 ^ (f+1)=2 * 2 ^ f:=by rw [Nat.pow_succ,Nat.mul_comm]
  have ho:n % 2=1→n / 2+1<2 ^ f:=by intro h1;omega
  have he:¬ n=0→¬ n % 2=1→n / 2-1+1<2 ^ f:=by intro h1 h2;omega
  cases t <;> simp only [setN,beq0,beq1] <;> by_cases h0:n=0 <;> by_cases h1:n % 2=1 <;>
   simp only [h0,h1,decide_true,decide_false,cond_true,cond_false,get,beq0,beq1] <;> first
    | rfl
    | exact get_setN_same f _ _ x (ho h1)
    | exact get_setN_same f _ _ x (he h0 h1)
    | (exfalso;omega)
theorem get_setN_other:∀ (f:Nat) (t:Tr α) (n m:Nat) (x y:α),n+1<2 ^ f→m≠n→get t m=some y→get (setN f t n x) m=some y
 | 0,t,n,m,x,y,h,_,_=>by simp at h
 | f+1,nil,n,m,x,y,h,_,hg=>by simp [get_nil] at hg
 | f+1,node l v r,n,m,x,y,h,hne,hg=>by
  have hp:2 ^ (f+1)=2 * 2 ^ f:=by rw [Nat.pow_succ,Nat.mul_comm]
  have ho:n % 2=1→n / 2+1<2 ^ f:=by intro h1;omega
  have he:¬ n=0→¬ n % 2=1→n / 2-1+1<2 ^ f:=by intro h1 h2;omega
  simp only [setN,beq0,beq1] at *
  simp only [get,beq0,beq1] at hg
  by_cases h0:n=0 <;> by_cases h1:n % 2=1 <;> by_cases m0:m=0 <;> by_cases m1:m % 2=1 <;>
   simp only [h0,h1,m0,m1,decide_true,decide_false,cond_true,cond_false,get,beq0,beq1] at hg ⊢ <;> first
    | exact hg
    | exact get_setN_other f _ _ _ x y (ho h1) (by omega) hg
    | exact get_setN_other f _ _ _ x y (he h0 h1) (by omega) hg
    | (exfalso;omega)
theorem pn (n:Nat):n+1<2 ^ (n+1):=Nat.lt_two_pow_self
theorem get_set_same {t:Tr α} {n:Nat} {x:α}:(t.set n x).get n=some x:=get_setN_same (n+1) t n x (pn n)
theorem get_set_other {t:Tr α} {n m:Nat} {x y:α} (hne:m≠n) (hg:t.get m=some y):(t.set n x).get m=some y:=get_setN_other (n+1) t n m x y (pn n) hne hg
end Tr
def againstP (ops:List Oper) (o:Oper) (ps:List Nat):Nat→List Oper→Bool
 | _,[]=>true
 | j,x::r=>(memL j ps||freeP ops x o)&&againstP ops o ps (j+1) r
def orderPGo (ops:List Oper) (preds:List (List Nat)):Nat→List Oper→Bool
 | _,[]=>true
 | i,o::r=>(!Nat.beq (kindA o.op) 2||allocA o.op)&&againstP ops o ((preds[i]?).getD []) 0 (ops.take i)&&(edgesL o.after.toList).all (fun e=>Nat.blt e i)&&orderPGo ops preds (i+1) r
def orderP (ops:List Oper):Bool:=orderPGo ops (predsGo ops []) 0 ops
def freeR (ops:List Oper) (x y:Oper):Bool:=freeP ops x y&&!(Nat.beq (kindA x.op) 2&&Nat.beq (kindA y.op) 2&&(bigR x.op||bigR y.op))
def againstR (ops:List Oper) (o:Oper) (ps:List Nat):Nat→List Oper→Bool
 | _,[]=>true
 | j,x::r=>(memL j ps||freeR ops x o)&&againstR ops o ps (j+1) r
def orderRGo (ops:List Oper) (preds:List (List Nat)):Nat→List Oper→Bool
 | _,[]=>true
 | i,o::r=>againstR ops o ((preds[i]?).getD []) 0 (ops.take i)&&(edgesL o.after.toList).all (fun e=>Nat.blt e i)&&orderRGo ops preds (i+1) r
def orderR (ops:List Oper):Bool:=orderRGo ops (predsGo ops []) 0 ops
section
variable {E:Env} {P:Program} {μ:Mu} {w:World} {n:Nat}
def NewAt (P:Program) (s:Sem Value) (μ:Mu) (w:World) (n:Nat) (x:AV) (b:Blk):Prop:=
 ∃ l u o,s.run P w=.ok u (w.alloc o)∧l.b=w.heap.size∧VR (μ.add n l) x u∧BR (μ.add n l) (w.alloc o) l b
theorem row_new (hn:μ n=none) (xs:List AV) (cs:Array Value) (e:TypeId) (hx:VRs μ xs cs.toList) :
  ∃ l,l.b=w.heap.size∧l.sh=0∧l.tot=xs.length∧l.ex=true∧BR (μ.add n l) (w.alloc (.cells cs e)) l (.row xs .own):=by
 have hlen:=hx.length
 refine ⟨⟨w.heap.size,0,xs.length,true⟩,rfl,rfl,rfl,rfl,?_⟩
 have hle:μ.le (μ.add n ⟨w.heap.size,0,xs.length,true⟩):=Mu.le_add hn
 have hx':=VRs.mono hle _ _ hx
 refine ⟨⟨⟨e,?_⟩,by simp,?_⟩,rfl,rfl,rfl,?_⟩
 ·have hg:(w.alloc (.cells cs e)).heap[w.heap.size]? = some (.cells cs e):=by show (w.heap.push _)[_]? = _;simp
  simp only [World.shape?,hg];simpa using hlen
 ·intro i x hi
  obtain ⟨y,hy,hr'⟩:=hx'.get hi
  refine ⟨y,?_,hr'⟩
  rw [World.cell?_alloc_new]
  simpa using hy
 ·intro i _;exact World.frozen?_alloc_new w cs e i
theorem newRow_at (hn:μ n=none) {xs:List AV} {cs:Array Value} {e:TypeId} (hx:VRs μ xs cs.toList):NewAt P (do pure (.pointer (some (← newRow e cs)))) μ w n (.ptr (some (n,0))) (.row xs .own):=by
 obtain ⟨l,l1,l2,l3,l4,h1⟩:=row_new (w:=w) hn xs cs e hx
 refine ⟨l,.pointer (some ⟨w.heap.size,0,none⟩),_,?_,l1,?_,h1⟩
 ·simp only [newRow,Sem.run_bind,run_newObj,Result.andThen_ok,Sem.run_pure];rfl
 ·simp only [VR];exact ⟨l,add_self _ _ _,by rw [l1,l2]⟩
theorem newRowT_at (hn:μ n=none) {xs:List AV} {cs:Array Value} {e:TypeId} (hx:VRs μ xs cs.toList):NewAt P (do pure (.pointer (some (← newRow e cs)))) μ w n (.ptr (some (n,0))) (.row xs (.ty e)):=by
 obtain ⟨l,l1,l2,l3,l4,h1⟩:=row_new (w:=w) hn xs cs e hx
 have hlen:=hx.length
 refine ⟨l,.pointer (some ⟨w.heap.size,0,none⟩),_,?_,l1,?_,⟨h1,?_⟩⟩
 ·simp only [newRow,Sem.run_bind,run_newObj,Result.andThen_ok,Sem.run_pure];rfl
 ·simp only [VR];exact ⟨l,add_self _ _ _,by rw [l1,l2]⟩
 ·have hg:(w.alloc (.cells cs e)).heap[w.heap.size]? = some (.cells cs e):=by show (w.heap.push _)[_]? = _;simp
  rw [l1,l3]
  simp only [World.shape?,hg];simpa using hlen
theorem box_at (E:Env) (hn:μ n=none) {e:TypeId} {v:AV} {u:Value} (hv:VR μ v u):NewAt P (Instr.box e u) μ w n (.ptr (some (n,0))) (.row v.cells (bif E.trk e then .ty e else .own)):=by
 cases E.trk e with
 | false=>
  obtain ⟨l,u',o,h1,h2⟩:=newRow_at (P:=P) (w:=w) (e:=e) hn hv.cells
  refine ⟨l,u',o,?_,h2⟩
  simp only [Instr.box,newVar]
  exact h1
 | true=>
  obtain ⟨l,u',o,h1,h2⟩:=newRowT_at (P:=P) (w:=w) (e:=e) hn hv.cells
  refine ⟨l,u',o,?_,h2⟩
  simp only [Instr.box,newVar]
  exact h1
theorem alloc_at (ok:EnvOK E P) (hn:μ n=none) {e:TypeId} {z:AV} (hz:E.zero e=some z):NewAt P (Instr.alloc e true (.tuple #[])) μ w n (.ptr (some (n,0))) (.row z.cells (bif E.trk e then .ty e else .own)):=by
 obtain ⟨zv,hzr,hzv⟩:=zero_sound ok hz
 cases E.trk e with
 | false=>
  obtain ⟨l,u,o,h1,h2⟩:=newRow_at (P:=P) (w:=w) (e:=e) hn (hzv μ).cells
  refine ⟨l,u,o,?_,h2⟩
  simp only [Instr.alloc,Sem.run_bind,hzr,Result.andThen_ok,newVar]
  simpa using h1
 | true=>
  obtain ⟨l,u,o,h1,h2⟩:=newRowT_at (P:=P) (w:=w) (e:=e) hn (hzv μ).cells
  refine ⟨l,u,o,?_,h2⟩
  simp only [Instr.alloc,Sem.run_bind,hzr,Result.andThen_ok,newVar]
  simpa using h1
theorem makeSlice_at (ok:EnvOK E P) {h h':Heap} {t:TypeId} {lv cv:AV} {lu cu:Value} {x:AV} (hn:μ h.next=none) (hl:VR μ lv lu) (hc:VR μ cv cu) (hx:makeSliceA E t lv cv h=some (x,h')) :
  ∃ b,h'=h.push b∧NewAt P (Instr.makeSlice t lu cu) μ w h.next x b:=by
 unfold makeSliceA at hx
 split at hx
 ·rename_i e l c hu h1 h2
  obtain ⟨k,rfl⟩:=natOf_int h1 hl
  obtain ⟨k',rfl⟩:=natOf_int h2 hc
  cases hi:E.info e with
  | none=>simp [hi] at hx
  | some i=>
   cases hz:E.zero e with
   | none=>simp [hi,hz] at hx
   | some z=>
    simp only [hi,hz] at hx
    obtain ⟨zv,hzr,hzv⟩:=zero_sound ok hz
    cases hb:(Nat.ble l c&&Nat.ble (c * (i.bytes+i.size+1)) roomA&&Nat.beq z.cells.length i.size) with
    | false=>simp [hb] at hx
    | true=>
     simp only [hb,cond_true,Option.some.injEq,Prod.mk.injEq] at hx
     obtain ⟨rfl,rfl⟩:=hx
     simp only [Bool.and_eq_true] at hb
     have hb1:l≤c:=by simpa using hb.1.1
     have hb2:c * (i.bytes+i.size+1)≤1073741824:=Nat.le_of_ble_eq_true hb.1.2
     have hb3:z.cells.length=i.size:=Nat.eq_of_beq_eq_true hb.2
     have hcb:c * i.bytes≤1073741824:=Nat.le_trans (Nat.mul_le_mul_left _ (by omega)) hb2
     have hcc:c≤1073741824:=Nat.le_trans (Nat.le_mul_of_pos_right c (by omega)) hb2
     have zs:=zeros_sound (n:=c) (hzv μ)
     rw [hb3] at zs
     obtain ⟨lc,l1,l2,l3,l4,h5⟩:=row_new (w:=w) hn (repL c z.cells) _ e zs
     have hinfo:=ok.info e i hi
     refine ⟨_,rfl,lc,.slice (some ⟨w.heap.size,0,none⟩) l c,_,?_,l1,?_,h5⟩
     ·have e1:(decide ((c:Int)<0)||decide ((i.bytes:Int) * (c:Int) > 2 ^ 48))=false:=by
       have:(i.bytes:Int) * (c:Int)≤1073741824:=by
        have e0:(i.bytes:Int) * (c:Int)=((c * i.bytes:Nat):Int):=by rw [Int.natCast_mul,Int.mul_comm]
        rw [e0];omega
       have e2:¬ ((c:Int)<0):=by omega
       have e3:¬ ((i.bytes:Int) * (c:Int) > 2 ^ 48):=by
        have:(2:Int) ^ 48=281474976710656:=by decide
        omega
       rw [decide_eq_false e2,decide_eq_false e3];rfl
      have e4:(decide ((l:Int)<0))=false:=by simp
      have e5:(decide ((l:Int) > (c:Int)))=false:=by simp;exact hb1
      have hsize:(sizeOf e).run P w=.ok i.size w:=run_size hinfo
      simp only [Instr.makeSlice,Sem.run_bind,run_und (und_sound ok hu),Result.andThen_ok,asInt,asIntOf,Sem.run_pure,run_info hinfo,wrap_small c hcc,wrap_small l (by omega),e1,e4,e5,Bool.or_self,Bool.false_eq_true,if_false,
       run_askRoom,hsize,Int.toNat_natCast]
      by_cases h0:c * i.size=0
      ·simp only [h0,if_true,Sem.run_pure,Result.andThen_ok,newRow,Sem.run_bind,run_newObj,show Array.range 0 = #[] from rfl,Array.map_empty]
       rfl
      ·simp only [h0,if_false,Sem.run_bind,hzr,Sem.run_pure,Result.andThen_ok,newRow,run_newObj]
       rfl
     ·have:=VR.slice_own (μ:=μ.add h.next lc) (A:=h.next) (off:=0) (len:=l) (cap:=c) (sz:=i.size) (add_self _ _ _) hb1 (by rw [l2,l3,repL_length,hb3];omega)
      rw [l1,l2] at this;exact this
 ·simp at hx
theorem HR.at {h:Heap} (hr:HR μ h w) (hn:μ n=none) (hlt:n<h.next) {b:Blk} (hg:h.t.get n=some b) (o:Obj) (l:Loc) (hl:l.b=w.heap.size) (hb:BR (μ.add n l) (w.alloc o) l b):HR (μ.add n l) h (w.alloc o):=by
 have hle:μ.le (μ.add n l):=Mu.le_add hn
 have hold:∀ k,k<w.heap.size→(w.alloc o).heap[k]? = w.heap[k]?:=fun k hk=>by
  show (w.heap.push o)[k]? = _
  rw [Array.getElem?_push,if_neg (by omega)]
 have hadd:∀ {A k},μ.add n l A=some k→(A=n∧k=l)∨(A≠n∧μ A=some k):=by
  intro A k hA
  unfold Mu.add at hA
  split at hA
  ·rename_i e;exact .inl ⟨e,by cases hA;rfl⟩
  ·rename_i e;exact .inr ⟨e,hA⟩
 refine ⟨?_,?_,?_,fun x hx=>hle _ _ (hr.pin x hx)⟩
 ·intro A k hA
  rcases hadd hA with ⟨rfl,rfl⟩ | ⟨_,h1⟩
  ·exact ⟨hlt,by simp [hl]⟩
  ·exact ⟨(hr.dom A k h1).1,by simp;have:=(hr.dom A k h1).2;omega⟩
 ·intro A B la lb ba bb hA hB ga gb va vb hne heq
  rcases hadd hA with ⟨rfl,rfl⟩ | ⟨na,h1⟩
  ·rcases hadd hB with ⟨rfl,rfl⟩ | ⟨nb,h2⟩
   ·exact absurd rfl hne
   ·have:=(hr.dom B lb h2).2;omega
  ·rcases hadd hB with ⟨rfl,rfl⟩ | ⟨nb,h2⟩
   ·have:=(hr.dom A la h1).2;omega
   ·exact hr.inj A B la lb ba bb h1 h2 ga gb va vb hne heq
 ·intro A k b' hA hg'
  rcases hadd hA with ⟨rfl,rfl⟩ | ⟨na,h1⟩
  ·rw [hg] at hg';cases hg';exact hb
  ·exact BR.mono hle (BR.heap (hold _ (hr.dom A k h1).2) (hr.blk A k b' h1 hg'))
theorem Ext.at {mu0:Mu} {h0 h:Heap} {w0:World} (hx:Ext mu0 h0 w0 μ h w) (hn:μ n=none) (hle:h0.next≤n) (o:Obj) (l:Loc) (hl:l.b=w.heap.size):Ext mu0 h0 w0 (μ.add n l) h (w.alloc o):=by
 have hadd:∀ {A k},μ.add n l A=some k→(A=n∧k=l)∨(A≠n∧μ A=some k):=by
  intro A k hA
  unfold Mu.add at hA
  split at hA
  ·rename_i e;exact .inl ⟨e,by cases hA;rfl⟩
  ·rename_i e;exact .inr ⟨e,hA⟩
 refine ⟨fun A k hA=>Mu.le_add hn A k (hx.mono A k hA),hx.next,?_,hx.wr,?_,?_,hx.os,hx.tape,hx.output⟩
 ·intro A k hA
  rcases hadd hA with ⟨rfl,rfl⟩ | ⟨_,h1⟩
  ·exact .inr ⟨hle,.inl (by rw [hl];exact hx.size)⟩
  ·exact hx.fresh A k h1
 ·intro b hb hno
  rw [← hx.frame b hb hno]
  show (w.heap.push o)[b]? = _
  have:=hx.size
  rw [Array.getElem?_push,if_neg (by omega)]
 ·have:=hx.size
  simp;omega
end
end Ai
namespace Ai
variable [IntT]
section
variable {α:Type}
variable {E:Env} {P:Program} {call:CallF} {fr fr2:Fr}
theorem get_set_of' {α:Type} {t:Tr α} {n m:Nat} {x:α} (hne:m≠n):(t.set n x).get m=t.get m:=by
 cases h:t.get m with
 | some y=>exact Tr.get_set_other hne h
 | none=>
  cases h2:(t.set n x).get m with
  | none=>rfl
  | some y=>
   rcases Tr.get_set h2 with ⟨e,_⟩ | ⟨_,e⟩
   ·exact absurd e hne
   ·rw [h] at e;cases e
theorem freeP_spec {ops:List Oper} {x y:Oper} (hf:freeP ops x y=true):True∧(∀ t,x.dst=some t→t ∉ looksL ops y)∧(∀ t,y.dst=some t→t ∉ looksL ops x)∧(∀ t,x.dst=some t→y.dst≠some t):=by
 simp only [freeP,Bool.and_eq_true,Bool.not_eq_true'] at hf
 obtain ⟨⟨h2,h3⟩,h4⟩:=hf
 refine ⟨trivial,?_,?_,?_⟩
 ·intro t ht hm;simp only [dstIn,ht] at h2;rw [memL_iff.2 hm] at h2;cases h2
 ·intro t ht hm;simp only [dstIn,ht] at h3;rw [memL_iff.2 hm] at h3;cases h3
 ·intro t ht hy;simp only [sameDst,ht,hy] at h4;rw [bt rfl] at h4;cases h4
def StableP (E:Env) (call:CallF) (ops:List Oper) (recs:List (Fr×Heap×AV)) (h':Heap):Prop:=
 ∀ (i:Nat) (o:Oper) (f:Fr) (hh:Heap) (v:AV),ops[i]? = some o→recs[i]? = some (f,hh,v)→kindA o.op=1→∃ u h2,stepA E call ops f o h'=some (u,h2)∧eqV u v=true
theorem alloc_step (ok:EnvOK E P) {μ:Mu} {nt:Nat} {a:Act} (ha:AR μ nt fr a) {o:Oper} (hk:allocA o.op=true) {h h':Heap} {x:AV} (hx:oneA E call fr o.op h=some (x,h')) (hn:μ h.next=none) (w:World) :
  ∃ b s,h'=h.push b∧execOp a.eval o=(do pure (.value (← s)))∧NewAt P s μ w h.next x b:=by
 obtain ⟨dst,op,type,pos,after,guard⟩:=o
 simp only at hx hk
 cases op <;> simp only [allocA,reduceCtorEq] at hk
 case alloc e=>
  simp only [oneA,opA] at hx
  cases hz:E.zero e with
  | none=>simp [hz] at hx
  | some z=>
   simp only [hz,Option.some.injEq,Prod.mk.injEq] at hx
   obtain ⟨rfl,rfl⟩:=hx
   exact ⟨_,_,rfl,rfl,alloc_at (P:=P) ok hn hz⟩
 case box e y=>
  simp only [oneA,opA] at hx
  obtain ⟨v,h1,h2⟩:=op1_spec hx
  simp only [Option.some.injEq,Prod.mk.injEq] at h2
  obtain ⟨rfl,rfl⟩:=h2
  exact ⟨_,_,rfl,rfl,box_at (P:=P) E hn (opnd_sound ha h1)⟩
 case makeSlice t l c=>
  simp only [oneA,opA] at hx
  obtain ⟨v,u,h1,h2,h3⟩:=op2_spec hx
  obtain ⟨b,e1,e2⟩:=makeSlice_at (P:=P) (w:=w) ok hn (opnd_sound ha h1) (opnd_sound ha h2) h3
  exact ⟨b,_,e1,rfl,e2⟩
theorem alloc_push (call:CallF) {o:Oper} (hk:allocA o.op=true) {h h':Heap} {x:AV} (hx:oneA E call fr o.op h=some (x,h')):∃ b,h'=h.push b:=by
 obtain ⟨dst,op,type,pos,after,guard⟩:=o
 simp only at hx hk
 cases op <;> simp only [allocA,reduceCtorEq] at hk
 case alloc e=>
  simp only [oneA,opA] at hx
  cases hz:E.zero e with
  | none=>simp [hz] at hx
  | some z=>
   simp only [hz,Option.some.injEq,Prod.mk.injEq] at hx
   exact ⟨_,hx.2.symm⟩
 case box e y=>
  simp only [oneA,opA] at hx
  obtain ⟨v,h1,h2⟩:=op1_spec hx
  simp only [Option.some.injEq,Prod.mk.injEq] at h2
  exact ⟨_,h2.2.symm⟩
 case makeSlice t l c=>
  simp only [oneA,opA] at hx
  obtain ⟨v,u,h1,h2,h3⟩:=op2_spec hx
  unfold makeSliceA at h3
  split at h3
  ·rename_i e l c hu g1 g2
   cases hi:E.info e with
   | none=>simp [hi] at h3
   | some i=>
    cases hz:E.zero e with
    | none=>simp [hi,hz] at h3
    | some z=>
     simp only [hi,hz] at h3
     cases hb:(Nat.ble l c&&Nat.ble (c * (i.bytes+i.size+1)) roomA&&Nat.beq z.cells.length i.size) with
     | false=>simp [hb] at h3
     | true=>
      simp only [hb,cond_true,Option.some.injEq,Prod.mk.injEq] at h3
      exact ⟨_,h3.2.symm⟩
  ·cases h3
end
end Ai
namespace Ai
variable [IntT]
section
variable {α:Type}
variable {E:Env} {P:Program} {call:CallF} {fr fr2:Fr}
theorem buildSlice_at (ok:EnvOK E P) {μ:Mu} {w:World} {h h':Heap} {t:TypeId} {len:Nat} {parts:List (Nat×AV)} {parts':Array (Nat×Value)} {x:AV} (hn:μ h.next=none) (hp:PR μ parts parts'.toList)
  (hx:buildSliceA E h t len parts=some (x,h')):∃ b,h'=h.push b∧NewAt P (Instr.buildSlice t len parts') μ w h.next x b:=by
 unfold buildSliceA at hx
 split at hx
 ·rename_i e hu
  cases hs:E.size e with
  | none=>simp [hs] at hx
  | some n=>
   simp only [hs] at hx
   cases hz:E.zero e with
   | none=>simp [hz] at hx
   | some z=>
    simp only [hz] at hx
    obtain ⟨zv,hzr,hzv⟩:=zero_sound ok hz
    cases hb:(Nat.beq z.cells.length n&&Nat.ble (len * n) 16777216) with
    | false=>simp [hb] at hx
    | true=>
     simp only [hb,cond_true] at hx
     simp only [Bool.and_eq_true] at hb
     have hb1:z.cells.length=n:=Nat.eq_of_beq_eq_true hb.1
     have hb2:len * n≤16777216:=by simpa using hb.2
     subst hb1
     cases hf:fillL (fun i=>some (i * z.cells.length,z.cells.length)) (repL len z.cells) parts with
     | none=>simp [hf] at hx
     | some cs=>
      simp only [hf,Option.some.injEq,Prod.mk.injEq] at hx
      obtain ⟨rfl,rfl⟩:=hx
      obtain ⟨xs',h1,h2,h3⟩:=fill_sound hp (zeros_sound (n:=len) (hzv μ)) hf
      obtain ⟨l,l1,l2,l3,l4,h5⟩:=row_new (w:=w) hn cs xs' e h2
      have hlim:¬ (len * z.cells.length > 2 ^ 24):=by
       have:(2:Nat) ^ 24=16777216:=by decide
       omega
      refine ⟨_,rfl,l,.slice (some ⟨w.heap.size,0,none⟩) len len,_,?_,l1,?_,h5⟩
      ·by_cases h0:len * z.cells.length=0
       ·have hl0:¬ ((0:Nat) > 2 ^ 24):=by decide
        have h1':Instr.fill (fun i=>some (i * z.cells.length,z.cells.length)) #[] parts'.toList=some xs':=by
         rw [← h1];congr 1;simp [h0]
        simp only [Instr.buildSlice,Sem.run_bind,run_und (und_sound ok hu),Result.andThen_ok,size_sound ok hs,h0,hl0,if_false,if_true,Sem.run_pure,show Array.range 0 = #[] from rfl,Array.map_empty,h1',newRow,run_newObj]
        rfl
       ·simp only [Instr.buildSlice,Sem.run_bind,run_und (und_sound ok hu),Result.andThen_ok,size_sound ok hs,if_neg hlim,h0,if_false,hzr,Sem.run_pure,h1,newRow,run_newObj]
        rfl
      ·have:=VR.slice_own (μ:=μ.add h.next l) (A:=h.next) (off:=0) (len:=len) (cap:=len) (sz:=z.cells.length) (add_self _ _ _) (Nat.le_refl _) (by rw [l2,l3,h3,repL_length];omega)
       rw [l1,l2] at this;exact this
 ·simp at hx
theorem allocR_step (ok:EnvOK E P) {μ:Mu} {nt:Nat} {a:Act} (ha:AR μ nt fr a) {o:Oper} (hk:allocR o.op=true) {h h':Heap} {x:AV} (hx:oneA E call fr o.op h=some (x,h')) (hn:μ h.next=none) (w:World) :
  ∃ b s,h'=h.push b∧execOp a.eval o=(do pure (.value (← s)))∧NewAt P s μ w h.next x b:=by
 cases ho:allocA o.op with
 | true=>exact alloc_step ok ha ho hx hn w
 | false=>
  obtain ⟨dst,op,type,pos,after,guard⟩:=o
  simp only at hx hk ho
  cases op
  case buildSlice t len ps=>
   simp only [oneA,opA] at hx
   cases hp:partsA fr ps.toList with
   | none=>simp [hp] at hx
   | some l=>
    simp only [hp] at hx
    have hps:PR μ l (ps.map fun (i,x)=>(i,a.eval x)).toList:=by simpa using parts_sound ha hp
    obtain ⟨b,e1,e2⟩:=buildSlice_at (P:=P) (w:=w) ok hn hps hx
    exact ⟨b,_,e1,rfl,e2⟩
  all_goals
   simp only [allocR] at hk
   rw [ho] at hk;cases hk
theorem allocR_push (call:CallF) {o:Oper} (hk:allocR o.op=true) {h h':Heap} {x:AV} (hx:oneA E call fr o.op h=some (x,h')):∃ b,h'=h.push b:=by
 cases ho:allocA o.op with
 | true=>exact alloc_push call ho hx
 | false=>
  obtain ⟨dst,op,type,pos,after,guard⟩:=o
  simp only at hx hk ho
  cases op
  case buildSlice t len ps=>
   simp only [oneA,opA] at hx
   cases hp:partsA fr ps.toList with
   | none=>simp [hp] at hx
   | some l=>
    simp only [hp] at hx
    unfold buildSliceA at hx
    split at hx
    ·rename_i e hu
     cases hs:E.size e with
     | none=>simp [hs] at hx
     | some n=>
      simp only [hs] at hx
      cases hz:E.zero e with
      | none=>simp [hz] at hx
      | some z=>
       simp only [hz] at hx
       cases hb:(Nat.beq z.cells.length n&&Nat.ble (len * n) 16777216) with
       | false=>simp [hb] at hx
       | true=>
        simp only [hb,cond_true] at hx
        cases hf:fillL (fun i=>some (i * n,n)) (repL len z.cells) l with
        | none=>simp [hf] at hx
        | some cs=>simp only [hf,Option.some.injEq,Prod.mk.injEq] at hx;exact ⟨_,hx.2.symm⟩
    ·simp at hx
  all_goals
   simp only [allocR] at hk
   rw [ho] at hk;cases hk
theorem againstR_spec {ops:List Oper} {o:Oper} {ps:List Nat}:∀ {l:List Oper} {j:Nat},againstR ops o ps j l=true→∀ k x,l[k]? = some x→j+k∈ps∨freeR ops x o=true
 | [],j,h,k,x,hk=>by simp at hk
 | y::r,j,h,k,x,hk=>by
  simp only [againstR,Bool.and_eq_true,Bool.or_eq_true] at h
  cases k with
  | zero=>simp at hk;subst hk;exact h.1.imp (fun e=>by simpa using memL_iff.1 e) id
  | succ k=>
   simp at hk
   have:=againstR_spec h.2 k x hk
   rw [show j+(k+1)=j+1+k from by omega];exact this
theorem orderR_spec {ops:List Oper} {preds:List (List Nat)}:∀ {l:List Oper} {i:Nat},orderRGo ops preds i l=true→∀ k o,l[k]? = some o→
  (∀ j x,(ops.take (i+k))[j]? = some x→j∈(preds[i+k]?).getD []∨freeR ops x o=true)∧(∀ e∈edgesL o.after.toList,e<i+k)
 | [],i,h,k,o,hk=>by simp at hk
 | y::r,i,h,k,o,hk=>by
  simp only [orderRGo,Bool.and_eq_true] at h
  cases k with
  | zero=>
   simp at hk;subst hk
   refine ⟨fun j x hj=>by simpa using againstR_spec h.1.1 j x (by simpa using hj),fun e he=>?_⟩
   have:=List.all_eq_true.1 h.1.2 e he
   simpa [Nat.blt_eq] using this
  | succ k=>
   simp at hk
   have:=orderR_spec h.2 k o hk
   rw [show i+(k+1)=i+1+k from by omega];exact this
theorem freeR_spec {ops:List Oper} {x y:Oper} (hf:freeR ops x y=true):(kindA x.op=2→kindA y.op=2→bigR x.op=false∧bigR y.op=false)∧(∀ t,x.dst=some t→t ∉ looksL ops y)∧(∀ t,y.dst=some t→t ∉ looksL ops x)∧(∀ t,x.dst=some t→y.dst≠some t):=by
 simp only [freeR,Bool.and_eq_true,Bool.not_eq_true'] at hf
 obtain ⟨h1,h2⟩:=hf
 refine ⟨fun hx hy=>?_,(freeP_spec h1).2⟩
 rw [hx,hy] at h2
 simpa using h2
theorem bigR_kind {o:Op} (h:bigR o=true):kindA o=2∧allocR o=false:=by
 simp only [bigR,Bool.and_eq_true,Bool.not_eq_true'] at h
 exact ⟨Nat.eq_of_beq_eq_true h.1,h.2⟩
theorem not_bigR {o:Op} (h:bigR o=false) (hk:kindA o=2):allocR o=true:=by
 unfold bigR at h
 rw [hk] at h
 simpa using h
def StableR (E:Env) (call:CallF) (ops:List Oper) (recs:List (Fr×Heap×AV)) (h':Heap):Prop:=
 ∀ (i:Nat) (o:Oper) (f:Fr) (hh:Heap) (v:AV),ops[i]? = some o→recs[i]? = some (f,hh,v)→kindA o.op=1→∀ (k:Nat) (Hk:Heap),((∃ o' f' v',ops[k]? = some o'∧bigR o'.op=true∧recs[k]? = some (f',Hk,v'))∨(k=ops.length∧Hk=h'))→
  ∃ u h2,stepA E call ops f o Hk=some (u,h2)∧eqV u v=true
end
end Ai
namespace Ai
variable [IntT]
section
variable {α:Type}
variable {E:Env} {P:Program} {call:CallF} {fr fr2:Fr}
theorem againstX_spec {ops:List Oper} {o:Oper} {ps:List Nat}:∀ {l:List Oper} {j:Nat},againstX ops o ps j l=true→∀ k x,l[k]? = some x→j+k∈ps∨freeX ops x o=true
 | [],j,h,k,x,hk=>by simp at hk
 | y::r,j,h,k,x,hk=>by
  simp only [againstX,Bool.and_eq_true,Bool.or_eq_true] at h
  cases k with
  | zero=>simp at hk;subst hk;exact h.1.imp (fun e=>by simpa using memL_iff.1 e) id
  | succ k=>
   simp at hk
   have:=againstX_spec h.2 k x hk
   rw [show j+(k+1)=j+1+k from by omega];exact this
theorem orderX_spec {ops:List Oper} {preds:List (List Nat)}:∀ {l:List Oper} {i:Nat},orderXGo ops preds i l=true→∀ k o,l[k]? = some o→
  (∀ j x,(ops.take (i+k))[j]? = some x→j∈(preds[i+k]?).getD []∨freeX ops x o=true)∧(∀ e∈edgesL o.after.toList,e<i+k)
 | [],i,h,k,o,hk=>by simp at hk
 | y::r,i,h,k,o,hk=>by
  simp only [orderXGo,Bool.and_eq_true] at h
  cases k with
  | zero=>
   simp at hk;subst hk
   refine ⟨fun j x hj=>by simpa using againstX_spec h.1.1 j x (by simpa using hj),fun e he=>?_⟩
   have:=List.all_eq_true.1 h.1.2 e he
   simpa [Nat.blt_eq] using this
  | succ k=>
   simp at hk
   have:=orderX_spec h.2 k o hk
   rw [show i+(k+1)=i+1+k from by omega];exact this
theorem freeX_spec {ops:List Oper} {x y:Oper} (hf:freeX ops x y=true):(bigR x.op=true→kindA y.op≠2)∧(∀ t,x.dst=some t→t ∉ looksL ops y)∧(∀ t,y.dst=some t→t ∉ looksL ops x)∧(∀ t,x.dst=some t→y.dst≠some t):=by
 simp only [freeX,Bool.and_eq_true,Bool.not_eq_true'] at hf
 obtain ⟨h1,h2⟩:=hf
 refine ⟨fun hx hy=>?_,(freeP_spec h1).2⟩
 rw [hx,hy] at h2
 simp at h2
def SameX (ops:List Oper) (recs:List (Fr×Heap×AV)) (h':Heap):Prop:=∀ (x m:Nat) (ox om:Oper) (b:Blk),x<m→x ∉ ((predsGo ops [])[m]?).getD []→ops[x]? = some ox→bigR ox.op=false→ops[m]? = some om→bigR om.op=true→
 hpAt ops.length recs h' (x+1)=(hpAt ops.length recs h' x).push b→(hpAt ops.length recs h' (m+1)).t.get (hpAt ops.length recs h' x).next=(hpAt ops.length recs h' m).t.get (hpAt ops.length recs h' x).next
theorem drawX_wp (ok:EnvOK E P) (hcall:CallOK P call) {nt:Nat} {ops:Array Oper} {h:Heap} {fr':Fr} {h':Heap} {recs:List (Fr×Heap×AV)} (ht:traceA E call nt ops.toList ops.toList fr h=some (recs,fr',h')) (hord:orderX ops.toList=true) (hstab:StableR E call ops.toList recs h') (hsam:SameX ops.toList recs h')
  {μ:Mu} {w:World} {a:Act} {Q:Exit→Act→World→Prop} (hr:HR μ h w) (ha:AR μ nt fr a) (hq:∀ μ' a' w',AR μ' nt fr' a'→HR μ' h' w'→Ext μ h w μ' h' w'→Q .normal a' w'):wpAny P .any ops Q ops.size (Array.replicate ops.size false) a { w with drawn:=w.drawn+1 }:=by
 skip
 {
  skip
  {
   obtain ⟨F,H,V,f0,g0,fn,gn,hstep,hrec⟩:=trace_recs ht
   have hlen:ops.toList.length=ops.size:=by simp
   have ord:∀ (i:Nat) (o:Oper),ops.toList[i]? = some o→(∀ (j:Nat) (x:Oper),j<i→ops.toList[j]? = some x→j∈((predsGo ops.toList [])[i]?).getD []∨freeX ops.toList x o=true)∧(∀ e∈edgesL o.after.toList,e<i):=by
    intro i o ho
    have:=orderX_spec (i:=0) hord i o ho
    simp only [Nat.zero_add] at this
    exact ⟨fun j x hj hx=>this.1 j x (by rw [List.getElem?_take_of_lt hj];exact hx),this.2⟩
   have hpreds:∀ (i:Nat) (ps:List Nat),(predsGo ops.toList [])[i]? = some ps→∃ o:Oper,ops.toList[i]? = some o∧∀ p∈ps,p∈edgesL o.after.toList∨∃ e∈edgesL o.after.toList,∃ qs,(predsGo ops.toList [])[e]? = some qs∧p∈qs:=by
    intro i ps hi
    have:=preds_spec ops.toList [] [] rfl (by simp) i ps hi
    simpa using this
   have predsIn:∀ (S:Nat→Prop),(∀ (i:Nat) (o:Oper),ops.toList[i]? = some o→S i→∀ e∈edgesL o.after.toList,S e)→
     ∀ (i:Nat) (o:Oper),ops.toList[i]? = some o→(∀ e∈edgesL o.after.toList,S e)→∀ p∈((predsGo ops.toList [])[i]?).getD [],S p:=by
    intro S hcl i
    induction i using Nat.strongRecOn with
    | _ i ih=>
     intro o ho he p hp
     cases hps:(predsGo ops.toList [])[i]? with
     | none=>simp [hps] at hp
     | some ps=>
      simp [hps] at hp
      obtain ⟨o',ho',hpp⟩:=hpreds i ps hps
      rw [ho] at ho';cases ho'
      rcases hpp p hp with h3 | ⟨e,h3,qs,h4,h5⟩
      ·exact he p h3
      ·have hlt:=(ord i o ho).2 e h3
       obtain ⟨oe,hoe,_⟩:=hpreds e qs h4
       exact ih e hlt oe hoe (hcl e oe hoe (he e h3)) p (by simp [h4];exact h5)
   have wrote:∀ (i:Nat),i≤ops.size→∀ t v,(F i).get t=some v→
     (∃ k o,k<i∧ops.toList[k]? = some o∧o.dst=some t∧t<nt∧v=V k∧∀ k' o',k'<i→ops.toList[k']? = some o'→o'.dst=some t→k'≤k)∨
     ((∀ k o,k<i→ops.toList[k]? = some o→o.dst≠some t)∧fr.get t=some v):=by
    intro i
    induction i with
    | zero=>intro _ t v hv;rw [f0] at hv;exact .inr ⟨fun k o hk=>by omega,hv⟩
    | succ i ih=>
     intro hi t v hv
     obtain ⟨o,ho⟩:∃ o,ops.toList[i]? = some o:=⟨ops.toList[i]'(by simp;omega),by simp⟩
     rw [(hstep i o ho).2] at hv
     have old:(F i).get t=some v→o.dst≠some t→(∃ k o,k<i+1∧ops.toList[k]? = some o∧o.dst=some t∧t<nt∧v=V k∧∀ k' o',k'<i+1→ops.toList[k']? = some o'→o'.dst=some t→k'≤k)∨
       ((∀ k o,k<i+1→ops.toList[k]? = some o→o.dst≠some t)∧fr.get t=some v):=by
      intro hv' hne
      rcases ih (by omega) t v hv' with ⟨k,ok',h1,h2,h3,h4,h5,h6⟩ | ⟨h1,h2⟩
      ·refine .inl ⟨k,ok',by omega,h2,h3,h4,h5,fun k' o' hk' ho' hd'=>?_⟩
       by_cases e:k'=i
       ·subst e;rw [ho] at ho';cases ho';exact absurd hd' hne
       ·exact h6 k' o' (by omega) ho' hd'
      ·refine .inr ⟨fun k ok' hk ho' hd'=>?_,h2⟩
       by_cases e:k=i
       ·subst e;rw [ho] at ho';cases ho';exact hne hd'
       ·exact h1 k ok' (by omega) ho' hd'
     cases hdst:o.dst with
     | none=>
      rw [hdst] at hv
      exact old hv (by rw [hdst];simp)
     | some d=>
      rw [hdst] at hv
      simp only [putD] at hv
      cases hlt:Nat.blt d nt with
      | false=>simp [hlt,Tr.get_nil] at hv
      | true=>
       simp only [hlt,cond_true] at hv
       rcases Tr.get_set hv with ⟨rfl,rfl⟩ | ⟨hne,hv'⟩
       ·exact .inl ⟨i,o,by omega,ho,hdst,by simpa [Nat.blt_eq] using hlt,rfl,fun k' _ hk' _ _=>by omega⟩
       ·exact old hv' (by rw [hdst];intro e;cases e;exact hne rfl)
   rw [hlen] at gn
   have hat:∀ k,k≤ops.size→hpAt ops.toList.length recs h' k=H k:=by
    intro k hk
    unfold hpAt
    rw [hlen]
    by_cases hlt:k<ops.size
    ·rw [show Nat.blt k ops.size=true by simpa [Nat.blt_eq] using hlt,cond_true,hrec k (by simpa using hlt)]
    ·have:k=ops.size:=by omega
     subst this
     have hq:Nat.blt ops.size ops.size=false:=by
      cases hq:Nat.blt ops.size ops.size with
      | false=>rfl
      | true=>
       rw [Nat.blt_eq] at hq
       omega
     rw [hq,cond_false,gn]
   have hsame:∀ (x m:Nat) (ox om:Oper) (b:Blk),x<m→x ∉ ((predsGo ops.toList [])[m]?).getD []→ops.toList[x]? = some ox→bigR ox.op=false→ops.toList[m]? = some om→bigR om.op=true→H (x+1)=(H x).push b→(H (m+1)).t.get (H x).next=(H m).t.get (H x).next:=by
    intro x m ox om b hxm hxp hx1 hx2 hm1 hm2 hb
    have hml:m<ops.size:=by have:=(List.getElem?_eq_some_iff.1 hm1).1;simpa using this
    have:=hsam x m ox om b hxm hxp hx1 hx2 hm1 hm2 (by rw [hat x (by omega),hat (x+1) (by omega)];exact hb)
    rwa [hat x (by omega),hat (m+1) (by omega),hat m (by omega)] at this
   have hop:∀ i,i<ops.size→∃ o,ops.toList[i]? = some o:=fun i hi=>⟨ops.toList[i]'(by simp;omega),by simp⟩
   have hpush:∀ (i:Nat) (o:Oper),ops.toList[i]? = some o→bigR o.op=false→H (i+1)=H i∨∃ b,H (i+1)=(H i).push b:=by
    intro i o ho hnb
    by_cases hk:kindA o.op=2
    ·have hs:=(hstep i o ho).1
     unfold stepA at hs
     split at hs
     ·obtain ⟨b,hb⟩:=allocR_push call (not_bigR hnb hk) hs
      exact .inr ⟨b,hb⟩
     ·simp only [Option.some.injEq,Prod.mk.injEq] at hs
      exact .inl hs.2.symm
     ·cases hs
    ·exact .inl (step_heap hk (hstep i o ho).1)
   have hle:∀ (d i:Nat),i+d≤ops.size→(∀ k o,i≤k→k<i+d→ops.toList[k]? = some o→bigR o.op=false)→(H i).next≤(H (i+d)).next∧(∀ A,A<(H i).next→(H (i+d)).t.get A=(H i).t.get A)∧(H (i+d)).pins=(H i).pins:=by
    intro d
    induction d with
    | zero=>intro i _ _;exact ⟨Nat.le_refl _,fun A _=>rfl,rfl⟩
    | succ d ih=>
     intro i hi hnb
     obtain ⟨h1,h2,h2p⟩:=ih i (by omega) (fun k o g1 g2=>hnb k o g1 (by omega))
     obtain ⟨o,ho⟩:=hop (i+d) (by omega)
     rw [show i+(d+1)=(i+d)+1 from rfl]
     rcases hpush (i+d) o ho (hnb _ o (by omega) (by omega) ho) with h3 | ⟨b,h3⟩
     ·rw [h3];exact ⟨h1,h2,h2p⟩
     ·rw [h3]
      refine ⟨Nat.le_trans h1 (Nat.le_succ _),fun A hA=>?_,h2p⟩
      rw [← h2 A hA]
      exact get_set_of' (by omega)
   have hle':∀ (s m:Nat),(∀ k o,s≤k→k<m→ops.toList[k]? = some o→bigR o.op=false)→m≤ops.size→∀ (i j:Nat),s≤i→i≤j→j≤m→(H i).next≤(H j).next∧(∀ A,A<(H i).next→(H j).t.get A=(H i).t.get A)∧(H j).pins=(H i).pins:=by
    intro s m hnb hm' i j hsi hij hj
    have:=hle (j-i) i (by omega) (fun k o g1 g2=>hnb k o (by omega) (by omega))
    rwa [show i+(j-i)=j by omega] at this
   have next:∀ a,a≤ops.size→∃ c,a≤c∧c≤ops.size∧(∀ k o,a≤k→k<c→ops.toList[k]? = some o→bigR o.op=false)∧(c=ops.size∨∃ o,ops.toList[c]? = some o∧bigR o.op=true):=by
    have:∀ d a,a+d=ops.size→∃ c,a≤c∧c≤ops.size∧(∀ k o,a≤k→k<c→ops.toList[k]? = some o→bigR o.op=false)∧(c=ops.size∨∃ o,ops.toList[c]? = some o∧bigR o.op=true):=by
     intro d
     induction d with
     | zero=>intro a ha';exact ⟨a,Nat.le_refl _,by omega,fun k o h1 h2=>by omega,.inl (by omega)⟩
     | succ d ihd=>
      intro a ha'
      obtain ⟨o,hoo⟩:=hop a (by omega)
      cases hb:bigR o.op with
      | true=>exact ⟨a,Nat.le_refl _,by omega,fun k o h1 h2=>by omega,.inr ⟨o,hoo,hb⟩⟩
      | false=>
       obtain ⟨c,q1,q2,q3,q4⟩:=ihd (a+1) (by omega)
       refine ⟨c,by omega,q2,fun k o' h1 h2 h3=>?_,q4⟩
       by_cases e:k=a
       ·subst e;rw [hoo] at h3;cases h3;exact hb
       ·exact q3 k o' (by omega) h2 h3
    intro a ha'
    exact this (ops.size-a) a (by omega)
   have lift:∀ (a c:Nat),a≤c→c≤ops.size→(∀ k o,a≤k→k<c→ops.toList[k]? = some o→bigR o.op=false)→∀ (μ2:Mu) (w2:World),HR μ2 (H a) w2→Ext μ h w μ2 (H a) w2→HR μ2 (H c) w2∧Ext μ h w μ2 (H c) w2:=by
    intro a c hac hc hnb μ2 w2 hr2 hx2
    obtain ⟨b1,b2,b3⟩:=hle' a c hnb hc a c (Nat.le_refl _) hac (Nat.le_refl _)
    refine ⟨⟨fun A l hA=>⟨Nat.lt_of_lt_of_le (hr2.dom A l hA).1 b1,(hr2.dom A l hA).2⟩,
     fun A B la lb ba bb hA hB ga gb=>hr2.inj A B la lb ba bb hA hB (by rw [← b2 A (hr2.dom A la hA).1];exact ga) (by rw [← b2 B (hr2.dom B lb hB).1];exact gb),
     fun A l b hA hb=>hr2.blk A l b hA (by rw [← b2 A (hr2.dom A l hA).1];exact hb),fun x hx=>hr2.pin x (by rw [← b3];exact hx)⟩,?_⟩
    exact { mono:=hx2.mono,next:=Nat.le_trans hx2.next b1,fresh:=hx2.fresh,wr:=fun A hA ⟨b,h1,h2⟩=>hx2.wr A hA ⟨b,by rw [← b2 A (Nat.lt_of_lt_of_le hA hx2.next)];exact h1,h2⟩,frame:=hx2.frame,size:=hx2.size,os:=hx2.os,tape:=hx2.tape,output:=hx2.output }
   have done:∀ (listed:Array Bool) (μ':Mu) (a':Act) (w':World),(∀ i,i<ops.size→listed.getD i false=true)→
     HR μ' h' w'→Ext μ h w μ' h' w'→
     a'.tmps.size=nt→a'.defers=[]→
     (∀ t k o,t<nt→ops.toList[k]? = some o→o.dst=some t→listed.getD k false=true→(∀ (k':Nat) (o':Oper),ops.toList[k']? = some o'→listed.getD k' false=true→o'.dst=some t→k'≤k)→VR μ' (V k) (a'.tmps.getD t undef))→
     (∀ t v,(∀ (k:Nat) (o:Oper),ops.toList[k]? = some o→listed.getD k false=true→o.dst≠some t)→fr.get t=some v→VR μ' v (a'.tmps.getD t undef))→Q .normal a' w':=by
    intro listed μ' a' w' hall hr' hext hts htd hsl1 hsl2
    refine hq μ' a' w' ⟨fun t v hv=>?_,hts,htd⟩ hr' hext
    rw [← fn,hlen] at hv
    rcases wrote ops.size (Nat.le_refl _) t v hv with ⟨k,o,h1,h2,h3,h4,rfl,h6⟩ | ⟨h1,h2⟩
    ·exact hsl1 t k o h4 h2 h3 (hall k h1) fun k' o' ho' _ hd'=>h6 k' o' (by have:=(List.getElem?_eq_some_iff.1 ho').1;omega) ho' hd'
    ·exact hsl2 t v (fun k o ho _=>h1 k o (by have:=(List.getElem?_eq_some_iff.1 ho).1;omega) ho) h2
   have main:∀ (fuel:Nat) (listed:Array Bool) (μ':Mu) (a':Act) (w':World) (us:List Nat) (m:Nat),us.length≤fuel→(∀ i,i<ops.size→listed.getD i false=false→i∈us)→listed.size=ops.size→
     (∀ (i:Nat) (o:Oper),ops.toList[i]? = some o→listed.getD i false=true→∀ e∈edgesL o.after.toList,listed.getD e false=true)→
     m≤ops.size→(∀ k o,k<m→ops.toList[k]? = some o→bigR o.op=true→listed.getD k false=true)→
     (m=ops.size∨∃ o,ops.toList[m]? = some o∧bigR o.op=true∧listed.getD m false=false)→(∀ i j,i≤j→j≤m→(H i).next≤(H j).next)→
     HR μ' (H m) w'→Ext μ h w μ' (H m) w'→(∀ (i:Nat) (o:Oper) (b:Blk),i<m→ops.toList[i]? = some o→bigR o.op=false→H (i+1)=(H i).push b→listed.getD i false=false→μ' (H i).next=none∧(H m).t.get (H i).next=some b)→
     a'.tmps.size=nt→a'.defers=[]→
     (∀ t k o,t<nt→ops.toList[k]? = some o→o.dst=some t→listed.getD k false=true→(∀ (k':Nat) (o':Oper),ops.toList[k']? = some o'→listed.getD k' false=true→o'.dst=some t→k'≤k)→VR μ' (V k) (a'.tmps.getD t undef))→
     (∀ t v,(∀ (k:Nat) (o:Oper),ops.toList[k]? = some o→listed.getD k false=true→o.dst≠some t)→fr.get t=some v→VR μ' v (a'.tmps.getD t undef))→
     wpAny P .any ops Q fuel listed a' w':=by
    intro fuel
    induction fuel with
    | zero=>
     intro listed μ' a' w' us m hu hus hsz hcl hmn hbl hmb hmono hrm hext hfree hts htd hsl1 hsl2
     have hall:∀ i,i<ops.size→listed.getD i false=true:=by
      intro i hi
      cases hl:listed.getD i false with
      | true=>rfl
      | false=>
       have:=hus i hi hl
       have:us=[]:=List.eq_nil_of_length_eq_zero (by omega)
       subst this;simp at *
     have hmeq:m=ops.size:=by
      rcases hmb with h1 | ⟨o,h1,h2,h3⟩
      ·exact h1
      ·have:=(List.getElem?_eq_some_iff.1 h1).1
       rw [hall m (by omega)] at h3;cases h3
     subst hmeq
     rw [gn] at hrm hext
     refine ⟨?_,?_⟩
     ·simp only [Region.ready,List.filter_eq_nil_iff,List.mem_range]
      intro i hi hc
      have h1:=hall i hi
      have:listed.getD i true=true:=by
       have hlt:i<listed.size:=by omega
       simp [Array.getD,hlt] at h1 ⊢;exact h1
      simp [this] at hc
     ·exact done listed μ' a' w' hall hrm hext hts htd hsl1 hsl2
    | succ fuel ih=>
     intro listed μ' a' w' us m hu hus hsz hcl hmn hbl hmb hmono hrm hext hfree hts htd hsl1 hsl2
     refine ⟨?_,?_⟩
     ·intro hready
      have hall:∀ i,i<ops.size→listed.getD i false=true:=by
       intro i
       induction i using Nat.strongRecOn with
       | _ i ihi=>
        intro hin
        cases hl:listed.getD i false with
        | true=>rfl
        | false=>
         exfalso
         have hlt:i<listed.size:=by omega
         have hnt:listed.getD i true=false:=by simp [Array.getD,hlt] at hl ⊢;exact hl
         have hmem:i∈Region.ready .any ops listed:=by
          simp only [Region.ready,List.mem_filter,List.mem_range,Bool.and_eq_true,Bool.not_eq_true']
          refine ⟨hin,hnt,?_⟩
          have ho:ops[i]? = some ops[i]:=by simp [hin]
          rw [ho]
          simp only [Option.map_some,Option.getD_some,Array.all_eq_true_iff_forall_mem]
          intro x hx
          cases hbx:Region.binds .any x with
          | false=>simp
          | true=>
           have he:x.on∈edgesL ops[i].after.toList:=edgesL_mem.2 ⟨x,by simpa using hx,hbx,rfl⟩
           have hlt':=(ord i ops[i] (by simp [hin])).2 _ he
           simpa using ihi x.on hlt' (by omega)
         rw [hready] at hmem
         simp at hmem
      have hmeq:m=ops.size:=by
       rcases hmb with h1 | ⟨o,h1,h2,h3⟩
       ·exact h1
       ·have:=(List.getElem?_eq_some_iff.1 h1).1
        rw [hall m (by omega)] at h3;cases h3
      subst hmeq
      rw [gn] at hrm hext
      exact done listed μ' a' w' hall hrm hext hts htd hsl1 hsl2
     ·intro i hi
      simp only [Region.ready,List.mem_filter,List.mem_range,Bool.and_eq_true,Bool.not_eq_true'] at hi
      obtain ⟨hin,hnl,hed⟩:=hi
      have hlt:i<listed.size:=by omega
      have hnl':listed.getD i false=false:=by simp [Array.getD,hlt] at hnl ⊢;exact hnl
      have ho:ops[i]? = some ops[i]:=by simp [hin]
      have hoL:ops.toList[i]? = some ops[i]:=by simp [hin]
      have hedge:∀ e∈edgesL ops[i].after.toList,listed.getD e false=true:=by
       intro e he
       obtain ⟨x,h1,h2,h3⟩:=edgesL_mem.1 he
       rw [ho] at hed
       simp only [Option.map_some,Option.getD_some,Array.all_eq_true_iff_forall_mem] at hed
       have:=hed x (by simpa using h1)
       simp [h2] at this
       rw [← h3];simpa using this
      have hplist:=predsIn (fun k=>listed.getD k false=true) hcl i ops[i] hoL hedge
      have behind:∀ (k:Nat) (o:Oper),i<k→ops.toList[k]? = some o→listed.getD k false=true→freeX ops.toList ops[i] o=true:=by
       intro k o hik hok hlk
       rcases (ord k o hok).1 i ops[i] hik hoL with h1 | h1
       ·have h9:listed.getD i false=true:=predsIn (fun k=>listed.getD k false=true) hcl k o hok (hcl k o hok hlk) i h1
        rw [hnl'] at h9;cases h9
       ·exact h1
      have ahead:∀ (k:Nat) (o:Oper),k<i→ops.toList[k]? = some o→listed.getD k false=true∨freeX ops.toList o ops[i]=true:=by
       intro k o hki hok
       rcases (ord i ops[i] hoL).1 k o hki hok with h1 | h1
       ·exact .inl (hplist k h1)
       ·exact .inr h1
      have hwhere:kindA ops[i].op=2→(i<m∧bigR ops[i].op=false)∨(i=m∧bigR ops[i].op=true):=by
       intro hk
       rcases Nat.lt_trichotomy i m with h2 | h2 | h2
       ·cases hb:bigR ops[i].op with
        | false=>exact .inl ⟨h2,rfl⟩
        | true=>
         have:=hbl i ops[i] h2 hoL hb
         rw [hnl'] at this;cases this
       ·rcases hmb with h3 | ⟨o,h3,h4,h5⟩
        ·omega
        ·subst h2;rw [hoL] at h3;cases h3;exact .inr ⟨rfl,h4⟩
       ·rcases hmb with h3 | ⟨o,h3,h4,h5⟩
        ·omega
        ·rcases ahead m o h2 h3 with h6 | h6
         ·rw [h5] at h6;cases h6
         ·exact absurd hk ((freeX_spec h6).1 h4)
      have hget:∀ t,(Tr.restrict.restrictL (fun t=>memL t (looksL ops.toList ops[i])) (F i)).get t=bif memL t (looksL ops.toList ops[i]) then (F i).get t else none:=fun t=>Tr.get_restrict (F i) _ t
      have har:AR μ' nt (Tr.restrict.restrictL (fun t=>memL t (looksL ops.toList ops[i])) (F i)) a':=by
       refine ⟨fun t v hv=>?_,hts,htd⟩
       rw [hget] at hv
       cases hmt:memL t (looksL ops.toList ops[i]) with
       | false=>simp [hmt] at hv
       | true=>
        simp only [hmt,cond_true] at hv
        have hmt':=memL_iff.1 hmt
        rcases wrote i (by omega) t v hv with ⟨k,o,h1,h2,h3,h4,rfl,h6⟩ | ⟨h1,h2⟩
        ·have hlk:listed.getD k false=true:=by
          rcases ahead k o h1 h2 with h7 | h7
          ·exact h7
          ·exact absurd hmt' ((freeX_spec h7).2.1 t h3)
         refine hsl1 t k o h4 h2 h3 hlk fun k' o' ho' hl' hd'=>?_
         rcases Nat.lt_trichotomy k' i with h7 | rfl | h7
         ·exact h6 k' o' h7 ho' hd'
         ·rw [hnl'] at hl';cases hl'
         ·exact absurd hmt' ((freeX_spec (behind k' o' h7 ho' hl')).2.2.1 t hd')
        ·refine hsl2 t v (fun k o hok hlk hd'=>?_) h2
         rcases Nat.lt_trichotomy k i with h7 | rfl | h7
         ·exact h1 k o h7 hok hd'
         ·rw [hnl'] at hlk;cases hlk
         ·exact absurd hmt' ((freeX_spec (behind k o h7 hok hlk)).2.2.1 t hd')
      have hcong:∀ Hx,stepA E call ops.toList (Tr.restrict.restrictL (fun t=>memL t (looksL ops.toList ops[i])) (F i)) ops[i] Hx=stepA E call ops.toList (F i) ops[i] Hx:=by
       intro Hx
       refine step_congr fun t ht=>?_
       rw [hget,memL_iff.2 ht];rfl
      have go:∀ (m2:Nat) (μ2:Mu) (u:Value) (w2:World),VR μ2 (V i) u→m2≤ops.size→(∀ k o,k<m2→ops.toList[k]? = some o→bigR o.op=true→k≠i→listed.getD k false=true)→
        (m2=ops.size∨∃ o,ops.toList[m2]? = some o∧bigR o.op=true∧m2≠i∧listed.getD m2 false=false)→(∀ i j,i≤j→j≤m2→(H i).next≤(H j).next)→HR μ2 (H m2) w2→μ'.le μ2→Ext μ h w μ2 (H m2) w2→
        (∀ (j:Nat) (o:Oper) (b:Blk),j<m2→ops.toList[j]? = some o→bigR o.op=false→j≠i→H (j+1)=(H j).push b→listed.getD j false=false→μ2 (H j).next=none∧(H m2).t.get (H j).next=some b)→
        wpAny P .any ops Q fuel (listed.setIfInBounds i true) (a'.put ops[i].dst u) w2:=by
       intro m2 μ2 u w2 hv p2 p4 p5 p6 hr2 hmono2 hext2 hfree2
       refine ih (listed.setIfInBounds i true) μ2 _ w2 (us.erase i) m2 ?_ ?_ (by simpa using hsz) ?_ p2 ?_ ?_ p6 hr2 hext2 ?_ (by simpa [Act.put] using (by cases ops[i].dst <;> simp [hts])) (by cases ops[i].dst <;> simp [Act.put,htd]) ?_ ?_
       ·have:=hus i hin hnl'
        rw [List.length_erase_of_mem this];omega
       ·intro k hk hl
        rw [getD_set hlt] at hl
        by_cases hki:k=i
        ·rw [if_pos hki] at hl;cases hl
        ·rw [if_neg hki] at hl
         exact (List.mem_erase_of_ne hki).2 (hus k hk hl)
       ·intro k o hok hl e he
        rw [getD_set hlt] at hl ⊢
        by_cases hei:e=i
        ·rw [if_pos hei]
        ·rw [if_neg hei]
         by_cases hki:k=i
         ·subst hki;rw [hoL] at hok;cases hok;exact hedge e he
         ·rw [if_neg hki] at hl;exact hcl k o hok hl e he
       ·intro k o hk hok hk2
        rw [getD_set hlt]
        by_cases hki:k=i
        ·rw [if_pos hki]
        ·rw [if_neg hki];exact p4 k o hk hok hk2 hki
       ·rcases p5 with p5 | ⟨o,g1,g2,g3,g4⟩
        ·exact .inl p5
        ·exact .inr ⟨o,g1,g2,by rw [getD_set hlt,if_neg g3];exact g4⟩
       ·intro j o b hj2 hjo hjb hb hl
        rw [getD_set hlt] at hl
        by_cases hji:j=i
        ·rw [if_pos hji] at hl;cases hl
        ·rw [if_neg hji] at hl
         exact hfree2 j o b hj2 hjo hjb hji hb hl
       ·intro t k o htn hok hd' hl hmax
        rw [getD_set hlt] at hl
        by_cases hdi:ops[i].dst=some t
        ·have hik:i≤k:=hmax i ops[i] hoL (by rw [getD_set hlt,if_pos rfl]) hdi
         have hki:k=i:=by
          by_cases hki:k=i
          ·exact hki
          ·rw [if_neg hki] at hl
           exact absurd hd' ((freeX_spec (behind k o (by omega) hok hl)).2.2.2 t hdi)
         subst hki
         rw [hdi,put_same (by omega)];exact hv
        ·have hki:k≠i:=by rintro rfl;rw [hoL] at hok;cases hok;exact hdi hd'
         rw [if_neg hki] at hl
         rw [put_other hdi]
         refine VR.mono hmono2 _ _ (hsl1 t k o htn hok hd' hl fun k' o' ho' hl' hd''=>hmax k' o' ho' ?_ hd'')
         rw [getD_set hlt];split
         ·rfl
         ·exact hl'
       ·intro t v hno hv'
        have hdi:ops[i].dst≠some t:=hno i ops[i] hoL (by rw [getD_set hlt,if_pos rfl])
        rw [put_other hdi]
        refine VR.mono hmono2 _ _ (hsl2 t v (fun k o hok hl=>hno k o hok ?_) hv')
        rw [getD_set hlt];split
        ·rfl
        ·exact hl
      have hstepi:stepA E call ops.toList (Tr.restrict.restrictL (fun t=>memL t (looksL ops.toList ops[i])) (F i)) ops[i] (H i)=some (V i,H (i+1)):=by rw [hcong];exact (hstep i ops[i] hoL).1
      have hmb':i≠m→(m=ops.size∨∃ o,ops.toList[m]? = some o∧bigR o.op=true∧m≠i∧listed.getD m false=false):=fun hne=>hmb.imp (fun x=>x) (fun ⟨o,g1,g2,g3⟩=>⟨o,g1,g2,fun e=>hne e.symm,g3⟩)
      show wpOp P ops Q i _ a' w'
      unfold wpOp
      rw [ho]
      cases hbg:bigR ops[i].op with
      | true=>
       obtain ⟨hk2,_⟩:=bigR_kind hbg
       have him:i=m:=by
        rcases hwhere hk2 with ⟨_,h3⟩ | ⟨h3,_⟩
        ·rw [hbg] at h3;cases h3
        ·exact h3
       subst him
       refine step_wp ok hcall hrm har hstepi ?_
       intro μ2 u w2 hv hr2 hext2
       obtain ⟨c,q1,q2,q3,q4⟩:=next (i+1) (by omega)
       obtain ⟨hr3,hext3⟩:=lift (i+1) c q1 q2 q3 μ2 w2 hr2 (Ext.trans hr hext hext2)
       have hrun:=hle' (i+1) c q3 q2
       refine go c μ2 u w2 hv q2 ?_ ?_ ?_ hr3 hext2.mono hext3 ?_
       ·intro k o hk hok hkb hki
        rcases Nat.lt_or_ge k i with h6 | h6
        ·exact hbl k o h6 hok hkb
        ·have:=q3 k o (by omega) hk hok
         rw [hkb] at this;cases this
       ·rcases q4 with q4 | ⟨o,g1,g2⟩
        ·exact .inl q4
        ·refine .inr ⟨o,g1,g2,by omega,?_⟩
         cases hlc:listed.getD c false with
         | false=>rfl
         | true=>exact absurd (bigR_kind g2).1 ((freeX_spec (behind c o (by omega) g1 hlc)).1 hbg)
       ·intro j k hjk hkc
        rcases Nat.lt_or_ge i k with h6 | h6
        ·rcases Nat.lt_or_ge i j with h7 | h7
         ·exact (hrun j k (by omega) hjk hkc).1
         ·exact Nat.le_trans (hmono j i h7 (Nat.le_refl _)) (Nat.le_trans hext2.next (hrun (i+1) k (Nat.le_refl _) (by omega) hkc).1)
        ·exact hmono j k hjk h6
       ·intro j o b hj2 hjo hjb hji hb hl
        rcases Nat.lt_or_ge j i with h6 | h6
        ·obtain ⟨f1,f2⟩:=hfree j o b h6 hjo hjb hb hl
         have n0:(H j).next<(H i).next:=by
          have:=hmono (j+1) i (by omega) (Nat.le_refl _)
          rw [hb] at this
          exact Nat.lt_of_lt_of_le (Nat.lt_succ_self _) this
         refine ⟨?_,?_⟩
         ·cases hm2:μ2 (H j).next with
          | none=>rfl
          | some l=>
           rcases hext2.fresh _ _ hm2 with h7 | ⟨h7,_⟩
           ·rw [f1] at h7;cases h7
           ·omega
         ·rw [(hrun (i+1) c (Nat.le_refl _) q1 (Nat.le_refl _)).2.1 _ (Nat.lt_of_lt_of_le n0 hext2.next),hsame j i o ops[i] b h6 (fun hq=>by rw [hplist j hq] at hl;cases hl) hjo hjb hoL hbg hb]
          exact f2
        ·have b1:=(hrun (i+1) j (Nat.le_refl _) (by omega) (by omega)).1
         refine ⟨?_,?_⟩
         ·cases hm2:μ2 (H j).next with
          | none=>rfl
          | some l=>
           have:=(hr2.dom _ _ hm2).1
           omega
         ·have b2:=hrun (j+1) c (by omega) (by omega) (Nat.le_refl _)
          rw [hb] at b2
          rw [b2.2.1 _ (Nat.lt_succ_self _)]
          exact Tr.get_set_same
      | false=>
       have hpi:=hpush i ops[i] hoL hbg
       by_cases hal:∃ b,H (i+1)=(H i).push b
       ·obtain ⟨b,hb⟩:=hal
        have hk2:kindA ops[i].op=2:=by
         rcases Nat.lt_or_ge (kindA ops[i].op) 2 with h7 | h7
         ·exfalso
          have h8:=step_heap (by omega) (hstep i ops[i] hoL).1
          have h9:=congrArg Heap.next (h8.symm.trans hb)
          exact absurd h9 (Nat.ne_of_lt (Nat.lt_succ_self _))
         ·have:=kindA_le ops[i].op;omega
        have him:i<m:=by
         rcases hwhere hk2 with ⟨h3,_⟩ | ⟨_,h3⟩
         ·exact h3
         ·rw [hbg] at h3;cases h3
        obtain ⟨hfi,n2⟩:=hfree i ops[i] b him hoL hbg hb hnl'
        unfold stepA at hstepi
        split at hstepi
        ·rename_i hw
         obtain ⟨b',sm,e1,e2,l,u,o',h1,h2,h3,h4⟩:=allocR_step ok har (not_bigR hbg hk2) hstepi hfi w'
         have hbb:b'=b:=by
          have h5:=e1.symm.trans hb
          have h6:=congrArg (fun x:Heap=>x.t.get (H i).next) h5
          simp only [Heap.push] at h6
          rw [Tr.get_set_same,Tr.get_set_same] at h6
          exact Option.some.inj h6
         subst hbb
         have n1:(H i).next<(H m).next:=by
          have:=hmono (i+1) m (by omega) (Nat.le_refl _)
          rw [hb] at this
          exact Nat.lt_of_lt_of_le (Nat.lt_succ_self _) this
         have n3:h.next≤(H i).next:=by
          have:=hmono 0 i (Nat.zero_le _) (by omega)
          rwa [g0] at this
         show (if Region.wanted ops[i] (yielded ops a'.tmps)=true then (ops[i].wp P a' w' (wpAny P .any ops Q fuel (listed.setIfInBounds i true)) Q∨(ops[i].asks P a' w'∧LetsOut Q)) else wpAny P .any ops Q fuel (listed.setIfInBounds i true) (a'.put ops[i].dst undef) w')
         rw [wanted_sound har hw]
         simp only [if_true]
         left
         unfold Oper.wp
         rw [e2,run_bind_ok h1,Sem.run_pure]
         rw [Oper.upon_value]
         refine go m _ u _ h3 hmn (fun k o g1 g2 g3 _=>hbl k o g1 g2 g3) (hmb' (by omega)) hmono (hrm.at hfi n1 n2 o' l h2 h4) (Mu.le_add hfi) (hext.at hfi n3 o' l h2) fun j o c hj2 hjo hjb hji hc hl=>?_
         have hne:(H j).next≠(H i).next:=by
          rcases Nat.lt_or_ge j i with h7 | h7
          ·have h8:=hmono (j+1) i (by omega) (by omega)
           rw [hc] at h8
           exact Nat.ne_of_lt (Nat.lt_of_lt_of_le (Nat.lt_succ_self _) h8)
          ·have h8:=hmono (i+1) j (by omega) (by omega)
           rw [hb] at h8
           exact (Nat.ne_of_lt (Nat.lt_of_lt_of_le (Nat.lt_succ_self _) h8)).symm
         obtain ⟨f1,f2⟩:=hfree j o c hj2 hjo hjb hc hl
         refine ⟨?_,f2⟩
         show (if (H j).next=(H i).next then some l else μ' (H j).next)=none
         rw [if_neg hne]
         exact f1
        ·exfalso
         simp only [Option.some.injEq,Prod.mk.injEq] at hstepi
         have h9:=congrArg Heap.next (hstepi.2.trans hb)
         exact absurd h9 (Nat.ne_of_lt (Nat.lt_succ_self _))
        ·cases hstepi
       ·have hsame:H (i+1)=H i:=by
         rcases hpi with h7 | h7
         ·exact h7
         ·exact absurd h7 hal
        have hstepm:stepA E call ops.toList (F i) ops[i] (H m)=some (V i,H m):=by
         rcases kindA_le ops[i].op with h0 | h1 | h2
         ·exact step_free h0 (hstep i ops[i] hoL).1 (H m)
         ·obtain ⟨u,h3,h4,he⟩:=hstab i ops[i] (F i) (H i) (V i) hoL (hrec i (by simpa using hin)) h1 m (H m) (by
           rcases hmb with h7 | ⟨o,h7,h8,_⟩
           ·right;exact ⟨by rw [hlen];exact h7,by rw [h7,gn]⟩
           ·left;exact ⟨o,F m,V m,h7,h8,hrec m (by have:=(List.getElem?_eq_some_iff.1 h7).1;simpa using this)⟩)
          have he':=eqV_eq _ _ he
          subst he'
          have:=step_heap (by omega) h4
          subst this
          exact h4
         ·have hs:=(hstep i ops[i] hoL).1
          unfold stepA at hs ⊢
          split at hs
          ·obtain ⟨b,hb⟩:=allocR_push call (not_bigR hbg h2) hs
           exact absurd ⟨b,hb⟩ hal
          ·simp only [Option.some.injEq,Prod.mk.injEq] at hs
           rw [hs.1]
          ·cases hs
        have him:i≠m:=by
         rintro rfl
         rcases hmb with h7 | ⟨o,h7,h8,_⟩
         ·omega
         ·rw [hoL] at h7;cases h7;rw [hbg] at h8;cases h8
        refine step_wp ok hcall hrm har (by rw [hcong];exact hstepm) ?_
        intro μ2 u w2 hv hr2 hext2
        refine go m μ2 u w2 hv hmn (fun k o g1 g2 g3 _=>hbl k o g1 g2 g3) (hmb' him) hmono hr2 hext2.mono (Ext.trans hr hext hext2) fun j o c hj2 hjo hjb hji hc hl=>?_
        obtain ⟨f1,f2⟩:=hfree j o c hj2 hjo hjb hc hl
        refine ⟨?_,f2⟩
        cases hm2:μ2 (H j).next with
        | none=>rfl
        | some l=>
         exfalso
         rcases hext2.fresh _ _ hm2 with h7 | ⟨h7,_⟩
         ·rw [f1] at h7;cases h7
         ·have h8:=hmono (j+1) m (by omega) (Nat.le_refl _)
          rw [hc] at h8
          exact absurd (Nat.lt_of_lt_of_le (Nat.lt_succ_self (H j).next) h8) (by omega)
   obtain ⟨c,q1,q2,q3,q4⟩:=next 0 (Nat.zero_le _)
   have hx00:Ext μ h w μ (H 0) { w with drawn:=w.drawn+1 }:=by rw [g0];exact Ext.draws rfl rfl rfl rfl
   obtain ⟨hr0,hx0⟩:=lift 0 c q1 q2 q3 μ { w with drawn:=w.drawn+1 } (by rw [g0];exact hr.draws rfl) hx00
   have hfalse:∀ k,(Array.replicate ops.size false).getD k false=false:=by
    intro k;simp [Array.getD]
   have hrun:=hle' 0 c q3 q2
   refine main ops.size _ μ a _ (List.range ops.size) c (by simp) (by intro i hi _;simpa using hi) (by simp) ?_ q2 (fun k o hk hok hkb=>by
    have:=q3 k o (Nat.zero_le _) hk hok
    rw [hkb] at this;cases this) ?_ (fun i j hij hj=>(hrun i j (Nat.zero_le _) hij hj).1) hr0 hx0 ?_ ha.size ha.defers ?_ ?_
   ·intro i o _ hl;rw [hfalse] at hl;cases hl
   ·rcases q4 with q4 | ⟨o,g1,g2⟩
    ·exact .inl q4
    ·exact .inr ⟨o,g1,g2,hfalse c⟩
   ·intro i o b hi _ _ hb _
    refine ⟨?_,?_⟩
    ·cases hm2:μ (H i).next with
     | none=>rfl
     | some l=>
      exfalso
      have h7:=(hr.dom _ _ hm2).1
      have:=(hrun 0 i (Nat.le_refl _) (Nat.zero_le _) (by omega)).1
      rw [g0] at this
      omega
    ·have b2:=hrun (i+1) c (Nat.zero_le _) (by omega) (Nat.le_refl _)
     rw [hb] at b2
     rw [b2.2.1 _ (Nat.lt_succ_self _)]
     exact Tr.get_set_same
   ·intro t k o _ _ _ hl;rw [hfalse] at hl;cases hl
   ·intro t v _ hv;exact ha.slot t v hv
  }
 }
theorem orderX_of {ops:List Oper} {fr:Oper→Oper→Bool} {ag:Oper→List Nat→Nat→List Oper→Bool} (hn:∀ o ps j x l,ag o ps j (x::l)=((memL j ps||fr x o)&&ag o ps (j+1) l)) (hf:∀ x y,fr x y=true→freeX ops x y=true) {o:Oper} {ps:List Nat}:∀ {l:List Oper} {j:Nat},ag o ps j l=true→againstX ops o ps j l=true
 | [],_,_=>rfl
 | x::l,j,h=>by
  rw [hn] at h
  simp only [againstX,Bool.and_eq_true,Bool.or_eq_true] at h ⊢
  exact ⟨h.1.imp id (hf x o),orderX_of hn hf h.2⟩
theorem orderX_of_R {ops:List Oper} {preds:List (List Nat)}:∀ {l:List Oper} {i:Nat},orderRGo ops preds i l=true→orderXGo ops preds i l=true
 | [],_,_=>rfl
 | o::r,i,h=>by
  simp only [orderRGo,orderXGo,Bool.and_eq_true] at h ⊢
  refine ⟨⟨orderX_of (fr:=freeR ops) (ag:=againstR ops) (fun _ _ _ _ _=>rfl) (fun x y hx=>?_) h.1.1,h.1.2⟩,orderX_of_R h.2⟩
  simp only [freeR,freeX,Bool.and_eq_true,Bool.not_eq_true'] at hx ⊢
  refine ⟨hx.1,?_⟩
  cases hb:bigR x.op with
  | false=>rfl
  | true=>
   have h2:=hx.2
   rw [hb,(bigR_kind hb).1] at h2
   cases hy:Nat.beq (kindA y.op) 2 with
   | false=>rfl
   | true=>rw [hy] at h2;cases h2
theorem orderX_of_P {ops:List Oper} {preds:List (List Nat)} (hall:∀ x∈ops,bigR x.op=false):∀ {l:List Oper} {i:Nat},(∀ x∈l,x∈ops)→orderPGo ops preds i l=true→orderXGo ops preds i l=true
 | [],_,_,_=>rfl
 | o::r,i,hl,h=>by
  simp only [orderPGo,orderXGo,Bool.and_eq_true] at h ⊢
  have go:∀ {l:List Oper} {j:Nat},(∀ x∈l,x∈ops)→againstP ops o ((preds[i]?).getD []) j l=true→againstX ops o ((preds[i]?).getD []) j l=true:=by
   intro l
   induction l with
   | nil=>intro _ _ _;rfl
   | cons x l ih=>
    intro j hm h
    simp only [againstP,againstX,Bool.and_eq_true,Bool.or_eq_true] at h ⊢
    refine ⟨h.1.imp id fun h1=>?_,ih (fun y hy=>hm y (List.mem_cons_of_mem _ hy)) h.2⟩
    simp only [freeX,Bool.and_eq_true,Bool.not_eq_true']
    exact ⟨h1,by rw [hall x (hm x List.mem_cons_self)];rfl⟩
  exact ⟨⟨go (fun x hx=>List.mem_of_mem_take hx) h.1.1.2,h.1.2⟩,orderX_of_P hall (fun x hx=>hl x (List.mem_cons_of_mem _ hx)) h.2⟩
theorem orderP_small {ops:List Oper} {preds:List (List Nat)}:∀ {l:List Oper} {i:Nat},orderPGo ops preds i l=true→∀ x∈l,bigR x.op=false
 | [],_,_,x,hx=>by cases hx
 | o::r,i,h,x,hx=>by
  simp only [orderPGo,Bool.and_eq_true] at h
  rcases List.mem_cons.1 hx with rfl | hx
  ·have h1:=h.1.1.1
   cases hb:bigR x.op with
   | false=>rfl
   | true=>
    obtain ⟨h2,h3⟩:=bigR_kind hb
    rw [h2] at h1
    have h4:allocA x.op=true:=by simpa using h1
    have h5:allocR x.op=true:=by
     cases hx:x.op <;> simp [hx,allocA] at h4 <;> simp [allocR,allocA]
    rw [h5] at h3;cases h3
  ·exact orderP_small h.2 x hx
theorem drawR_wp (ok:EnvOK E P) (hm:P.follows .mixedOrders=true) (hcall:CallOK P call) {nt id:Nat} {ops:Array Oper} {h:Heap} {fr':Fr} {h':Heap} {recs:List (Fr×Heap×AV)} (ht:traceA E call nt ops.toList ops.toList fr h=some (recs,fr',h')) (hord:orderR ops.toList=true) (hstab:StableR E call ops.toList recs h')
  {μ:Mu} {w:World} {a:Act} {Q:Exit→Act→World→Prop} (hr:HR μ h w) (ha:AR μ nt fr a) (hq:∀ μ' a' w',AR μ' nt fr' a'→HR μ' h' w'→Ext μ h w μ' h' w'→Q .normal a' w'):(Code.region id ops true).wp P Q a w:=by
 refine wp_region_any hm (drawX_wp ok hcall ht (orderX_of_R hord) hstab ?_ hr ha hq)
 intro x m ox om b hxm hxp hx1 hx2 hm1 hm2 hb
 exfalso
 have h1:=(orderR_spec hord m om hm1).1 x ox (by rw [List.getElem?_take_of_lt (by omega)];exact hx1)
 rw [Nat.zero_add] at h1
 rcases h1 with h1 | h1
 ·exact hxp h1
 ·have hk:kindA ox.op=2:=by
   obtain ⟨F,H,V,f0,g0,fn,gn,hstep,hrec⟩:=trace_recs ht
   rcases Nat.lt_or_ge (kindA ox.op) 2 with h7 | h7
   ·exfalso
    have hm':=(List.getElem?_eq_some_iff.1 hm1).1
    have hat:∀ k,k<ops.toList.length→hpAt ops.toList.length recs h' k=H k:=by
     intro k hk
     unfold hpAt
     rw [show Nat.blt k ops.toList.length=true by simpa [Nat.blt_eq] using hk,cond_true,hrec k hk]
    have h8:=step_heap (by omega) (hstep x ox hx1).1
    rw [hat x (by omega),hat (x+1) (by omega),h8] at hb
    exact absurd (congrArg Heap.next hb) (Nat.ne_of_lt (Nat.lt_succ_self _))
   ·have:=kindA_le ox.op;omega
  have:=(freeR_spec h1).1 hk (bigR_kind hm2).1
  rw [hm2] at this;cases this.2
theorem drawP_wp (ok:EnvOK E P) (hm:P.follows .mixedOrders=true) (hcall:CallOK P call) {nt id:Nat} {ops:Array Oper} {h:Heap} {fr':Fr} {h':Heap} {recs:List (Fr×Heap×AV)} (ht:traceA E call nt ops.toList ops.toList fr h=some (recs,fr',h')) (hord:orderP ops.toList=true) (hstab:StableP E call ops.toList recs h')
  {μ:Mu} {w:World} {a:Act} {Q:Exit→Act→World→Prop} (hr:HR μ h w) (ha:AR μ nt fr a) (hq:∀ μ' a' w',AR μ' nt fr' a'→HR μ' h' w'→Ext μ h w μ' h' w'→Q .normal a' w'):(Code.region id ops true).wp P Q a w:=by
 have hs:=orderP_small hord
 refine wp_region_any hm (drawX_wp ok hcall ht (orderX_of_P hs (fun _ h=>h) hord) ?_ ?_ hr ha hq)
 ·intro i o f hh v hi hrec hk k Hk hst
  rcases hst with ⟨o',f',v',h1,h2,_⟩ | ⟨_,rfl⟩
  ·rw [hs o' (List.mem_of_getElem? h1)] at h2;cases h2
  ·exact hstab i o f hh v hi hrec hk
 ·intro x m ox om b hxm hxp hx1 hx2 hm1 hm2 hb
  rw [hs om (List.mem_of_getElem? hm1)] at hm2;cases hm2
end
end Ai
namespace Ai
variable [IntT]
section
variable {P:Program} {ops:Array Oper} {π:List Nat} {Q:Exit→Act→World→Prop}
theorem ready_iff {ops:Array Oper} {listed:Array Bool} (hs:listed.size=ops.size) {i:Nat}:i∈Region.ready .any ops listed↔∃ o,ops[i]? = some o∧listed.getD i false=false∧∀ x∈o.after.toList,Region.binds .any x=true→listed.getD x.on false=true:=by
 simp only [Region.ready,List.mem_filter,List.mem_range,Bool.and_eq_true,Bool.not_eq_true']
 constructor
 ·rintro ⟨hin,hnl,hed⟩
  have hlt:i<listed.size:=by omega
  have ho:ops[i]? = some ops[i]:=by simp [hin]
  refine ⟨ops[i],ho,by simp [Array.getD,hlt] at hnl ⊢;exact hnl,fun x hx hb=>?_⟩
  rw [ho] at hed
  simp only [Option.map_some,Option.getD_some,Array.all_eq_true_iff_forall_mem] at hed
  have:=hed x (by simpa using hx)
  simpa [hb] using this
 ·rintro ⟨o,ho,hnl,hed⟩
  have hin:i<ops.size:=(Array.getElem?_eq_some_iff.1 ho).1
  have hlt:i<listed.size:=by omega
  refine ⟨hin,by simp [Array.getD,hlt] at hnl ⊢;exact hnl,?_⟩
  rw [ho]
  simp only [Option.map_some,Option.getD_some,Array.all_eq_true_iff_forall_mem]
  intro x hx
  cases hb:Region.binds .any x with
  | false=>simp
  | true=>simpa using hed x (by simpa using hx) hb
structure PermOK (π:List Nat) (ops:Array Oper):Prop where
 len:π.length=ops.size
 lt:∀ i,i<ops.size→posL π i<ops.size
 at':∀ i,i<ops.size→π[posL π i]? = some i
 inv:∀ k,k<ops.size→∃ i,π[k]? = some i∧i<ops.size∧posL π i=k
 edge:∀ (i:Nat) (o:Oper),ops[i]? = some o→(∀ x∈o.after.toList,x.on<ops.size)∧∀ g,o.guard=some g→g.1<ops.size
theorem permB_ok (h:permB π ops.toList=true):PermOK π ops:=by
 simp only [permB,Bool.and_eq_true,List.all_eq_true,List.mem_range,Array.length_toList] at h
 obtain ⟨⟨h1,h2⟩,h3⟩:=h
 have hl:π.length=ops.size:=by simpa using Nat.eq_of_beq_eq_true h1
 refine ⟨hl,fun i hi=>by simpa [Nat.blt_eq] using (h2 i hi).1.1.1,fun i hi=>?_,fun k hk=>?_,fun i o ho=>?_⟩
 ·have h4:posL π i<π.length:=by have:=(h2 i hi).1.1.1;rw [Nat.blt_eq] at this;omega
  have h5:=Nat.eq_of_beq_eq_true (h2 i hi).1.1.2
  rw [List.getElem?_eq_getElem h4] at h5 ⊢
  simp only [Option.getD_some] at h5
  rw [h5]
 ·have h4:k<π.length:=by omega
  have h5:=Nat.eq_of_beq_eq_true (h2 k hk).1.2
  have h6:=(h2 k hk).2
  rw [List.getElem?_eq_getElem h4] at h5 h6
  simp only [Option.getD_some] at h5 h6
  rw [Nat.blt_eq] at h6
  exact ⟨π[k],List.getElem?_eq_getElem h4,h6,h5⟩
 ·have hm:o∈ops.toList:=by
   have:=(Array.getElem?_eq_some_iff.1 ho)
   obtain ⟨hlt,rfl⟩:=this
   exact Array.mem_toList_iff.2 (Array.getElem_mem hlt)
  obtain ⟨h4,h5⟩:=h3 o hm
  refine ⟨fun x hx=>by have:=h4 x hx;rwa [Nat.blt_eq] at this,fun g hg=>?_⟩
  rw [hg] at h5
  simpa [guardLt,Nat.blt_eq] using h5
theorem perm_get (hp:PermOK π ops) {i:Nat} {o:Oper} (ho:ops[i]? = some o):((permO π ops.toList).toArray)[posL π i]? = some (renO π o):=by
 have hi:i<ops.size:=(Array.getElem?_eq_some_iff.1 ho).1
 have hl:ops.toList[i]? = some o:=by rw [Array.getElem?_toList];exact ho
 simp only [List.getElem?_toArray,permO,List.getElem?_map,hp.at' i hi,Option.map_some,hl,Option.getD_some]
theorem perm_size (hp:PermOK π ops):((permO π ops.toList).toArray).size=ops.size:=by simp [permO,hp.len]
theorem perm_any (hp:PermOK π ops):∀ (fuel:Nat) (listed listed':Array Bool) (a:Act) (w:World),listed.size=ops.size→listed'.size=ops.size→(∀ i,i<ops.size→listed'.getD (posL π i) false=listed.getD i false)→
  wpAny P .any (permO π ops.toList).toArray Q fuel listed' a w→wpAny P .any ops Q fuel listed a w:=by
 have fwd:∀ {listed listed':Array Bool},listed.size=ops.size→listed'.size=ops.size→(∀ i,i<ops.size→listed'.getD (posL π i) false=listed.getD i false)→∀ i,i∈Region.ready .any ops listed→posL π i∈Region.ready .any (permO π ops.toList).toArray listed':=by
  intro listed listed' hs hs' hl i hi
  obtain ⟨o,ho,hn,he⟩:=(ready_iff hs).1 hi
  have hin:i<ops.size:=(Array.getElem?_eq_some_iff.1 ho).1
  refine (ready_iff (by rw [perm_size hp];exact hs')).2 ⟨renO π o,perm_get hp ho,by rw [hl i hin];exact hn,fun x hx hb=>?_⟩
  have hx':x∈(o.after.map (renE π)).toList:=hx
  rw [Array.toList_map] at hx'
  obtain ⟨y,hy,rfl⟩:=List.mem_map.1 hx'
  have:=he y hy hb
  rw [← hl y.on ((hp.edge i o ho).1 y hy)] at this
  exact this
 have bwd:∀ {listed listed':Array Bool},listed.size=ops.size→listed'.size=ops.size→(∀ i,i<ops.size→listed'.getD (posL π i) false=listed.getD i false)→Region.ready .any ops listed=[]→Region.ready .any (permO π ops.toList).toArray listed'=[]:=by
  intro listed listed' hs hs' hl hr
  rw [List.eq_nil_iff_forall_not_mem]
  intro k hk
  obtain ⟨o',ho',hn,he⟩:=(ready_iff (by rw [perm_size hp];exact hs')).1 hk
  have hkn:k<ops.size:=by have:=(Array.getElem?_eq_some_iff.1 ho').1;rwa [perm_size hp] at this
  obtain ⟨i,_,hin,hpos⟩:=hp.inv k hkn
  have ho:ops[i]? = some ops[i]:=by simp [hin]
  have hg:=perm_get hp ho
  rw [hpos,ho'] at hg
  simp only [Option.some.injEq] at hg
  subst hg
  have:i∈Region.ready .any ops listed:=by
   refine (ready_iff hs).2 ⟨ops[i],ho,by rw [← hl i hin,hpos];exact hn,fun x hx hb=>?_⟩
   have:=he (renE π x) (by
    show renE π x∈(ops[i].after.map (renE π)).toList
    rw [Array.toList_map];exact List.mem_map_of_mem hx) hb
   rw [← hl x.on ((hp.edge i _ ho).1 x hx)]
   exact this
  rw [hr] at this
  cases this
 have op:∀ {i:Nat} {K K':Act→World→Prop} {a:Act} {w:World},i<ops.size→(∀ a w,K' a w→K a w)→wpOp P (permO π ops.toList).toArray Q (posL π i) K' a w→wpOp P ops Q i K a w:=by
  intro i K K' a w hin hK hw
  have ho:ops[i]? = some ops[i]:=by simp [hin]
  have hg:=perm_get hp ho
  have hw1:=wpOp_mono hK hw
  unfold wpOp at hw1 ⊢
  rw [hg] at hw1
  rw [ho]
  have hwant:Region.wanted (renO π ops[i]) (yielded (permO π ops.toList).toArray a.tmps)=Region.wanted ops[i] (yielded ops a.tmps):=by
   unfold Region.wanted
   cases hgd:ops[i].guard with
   | none=>
    have:(renO π ops[i]).guard=none:=by show renG π ops[i].guard=none;rw [hgd];rfl
    rw [this]
   | some g=>
    obtain ⟨j,b⟩:=g
    have:(renO π ops[i]).guard=some (posL π j,b):=by show renG π ops[i].guard=_;rw [hgd];rfl
    rw [this]
    have hj:j<ops.size:=(hp.edge i _ ho).2 _ hgd
    have hoj:ops[j]? = some ops[j]:=by simp [hj]
    have hgj:=perm_get hp hoj
    have hy:yielded (permO π ops.toList).toArray a.tmps (posL π j)=yielded ops a.tmps j:=by
     unfold yielded
     rw [hgj,hoj];rfl
    simp only [hy]
  simp only [hwant] at hw1
  exact hw1
 intro fuel
 induction fuel with
 | zero=>
  intro listed listed' a w hs hs' hl hw
  obtain ⟨h1,h2⟩:=hw
  refine ⟨?_,h2⟩
  rw [List.eq_nil_iff_forall_not_mem]
  intro i hi
  have:=fwd hs hs' hl i hi
  rw [h1] at this;cases this
 | succ fuel ih=>
  intro listed listed' a w hs hs' hl hw
  obtain ⟨h1,h2⟩:=hw
  refine ⟨fun hr=>h1 (bwd hs hs' hl hr),fun i hi=>?_⟩
  have hin:i<ops.size:=by
   obtain ⟨o,ho,_⟩:=(ready_iff hs).1 hi
   exact (Array.getElem?_eq_some_iff.1 ho).1
  refine op hin (fun a w hK=>?_) (h2 (posL π i) (fwd hs hs' hl i hi))
  refine ih _ _ a w (by simpa using hs) (by simpa using hs') ?_ hK
  intro k hk
  have hpi:=hp.lt i hin
  rw [getD_set (by omega),getD_set (by omega)]
  by_cases e:k=i
  ·subst e;simp
  ·have:posL π k≠posL π i:=fun h=>by
    have h3:=hp.at' k hk
    rw [h,hp.at' i hin] at h3
    exact e (Option.some.inj h3).symm
   rw [if_neg this,if_neg e]
   exact hl k hk
theorem perm_wp {id:Nat} {a:Act} {w:World} (hm:P.follows .mixedOrders=true) (hp:permB π ops.toList=true)
  (h:wpAny P .any (permO π ops.toList).toArray Q (permO π ops.toList).toArray.size (Array.replicate (permO π ops.toList).toArray.size false) a { w with drawn:=w.drawn+1 }):(Code.region id ops true).wp P Q a w:=by
 have hp':=permB_ok hp
 refine wp_region_any hm ?_
 rw [perm_size hp'] at h
 refine perm_any hp' ops.size _ _ a _ (by simp) (by simp) (fun i hi=>?_) h
 simp [Array.getD]
end
end Ai
namespace Ai
variable [IntT]
section
variable {E:Env} {P:Program} {call:CallF} {fr:Fr}
theorem stable_recs {ops:List Oper} {hs:List Heap}:∀ {l:List Oper} {q:List (Fr×Heap×AV)},stableB E call ops hs l q=true→∀ (i:Nat) (o:Oper) (f:Fr) (hh:Heap) (v:AV),l[i]? = some o→q[i]? = some (f,hh,v)→kindA o.op=1→∀ H∈hs,∃ u h2,stepA E call ops f o H=some (u,h2)∧eqV u v=true
 | [],q,_,i,o,f,hh,v,hi,_,_,_,_=>by simp at hi
 | o'::r,[],_,i,o,f,hh,v,_,hq,_,_,_=>by simp at hq
 | o'::r,(f',h1,v')::q,hx,i,o,f,hh,v,hi,hq,hk,H,hH=>by
  simp only [stableB,Bool.and_eq_true] at hx
  cases i with
  | zero=>
   simp at hi hq
   subst hi
   obtain ⟨rfl,rfl,rfl⟩:=hq
   have h2:=hx.1
   rw [hk] at h2
   have h3:=List.all_eq_true.1 h2 H hH
   cases hs:stepA E call ops f' o' H with
   | none=>rw [hs] at h3;cases h3
   | some p=>rw [hs] at h3;exact ⟨p.1,p.2,rfl,h3⟩
  | succ i=>exact stable_recs hx.2 i o f hh v (by simpa using hi) (by simpa using hq) hk H hH
theorem stages_end:∀ (l:List Oper) (q:List (Fr×Heap×AV)) (e:Heap),e∈stagesL l q e
 | [],q,e=>by simp [stagesL]
 | _::_,[],e=>by simp [stagesL]
 | o::r,(f,h,v)::q,e=>by
  simp only [stagesL]
  cases Nat.beq (kindA o.op) 2 with
  | true=>exact List.mem_cons_of_mem _ (stages_end r q e)
  | false=>exact stages_end r q e
theorem stages_at:∀ {l:List Oper} {q:List (Fr×Heap×AV)} {e:Heap} (k:Nat) (o:Oper) (f:Fr) (H:Heap) (v:AV),l[k]? = some o→q[k]? = some (f,H,v)→kindA o.op=2→H∈stagesL l q e
 | [],q,e,k,o,f,H,v,hi,_,_=>by simp at hi
 | _::_,[],e,k,o,f,H,v,_,hq,_=>by simp at hq
 | o'::r,(f',h1,v')::q,e,k,o,f,H,v,hi,hq,hk=>by
  simp only [stagesL]
  cases k with
  | zero=>
   simp at hi hq
   subst hi
   obtain ⟨rfl,rfl,rfl⟩:=hq
   rw [hk];exact List.mem_cons_self
  | succ k=>
   have:=stages_at (e:=e) k o f H v (by simpa using hi) (by simpa using hq) hk
   cases Nat.beq (kindA o'.op) 2 with
   | true=>exact List.mem_cons_of_mem _ this
   | false=>exact this
theorem stEq_eq {a b:BState} (h:stEq a b=true):a=b:=by
 cases a <;> cases b <;> first | rfl | (simp [stEq] at h;done) | (simp only [stEq] at h;rw [Nat.eq_of_beq_eq_true h])
theorem blkEq_eq:∀ {a b:Option Blk},blkEq a b=true→a=b
 | some (.row cs st),some (.row cs' st'),h=>by
  simp only [blkEq,Bool.and_eq_true] at h
  have h1:=eqV_eq _ _ h.1
  have h2:=stEq_eq h.2
  simp only [AV.agg.injEq] at h1
  rw [h1,h2]
 | none,none,_=>rfl
 | none,some _,h=>by simp [blkEq] at h
 | some (.row _ _),none,h=>by simp [blkEq] at h
 | some (.map _ _),_,h=>by simp [blkEq] at h
 | some (.siter _ _),_,h=>by simp [blkEq] at h
 | some (.row _ _),some (.map _ _),h=>by simp [blkEq] at h
 | some (.row _ _),some (.siter _ _),h=>by simp [blkEq] at h
theorem same_ok {ops:List Oper} {recs:List (Fr×Heap×AV)} {h':Heap} (h:sameXB ops recs h'=true):SameX ops recs h':=by
 intro x m ox om b hxm _ hx1 hx2 hm1 hm2 hb
 have hm:m<ops.length:=(List.getElem?_eq_some_iff.1 hm1).1
 have h1:=List.all_eq_true.1 h m (List.mem_range.2 hm)
 have e1:bigAt ops m=true:=by simp only [bigAt,hm1,hm2]
 rw [e1] at h1
 simp only [Bool.not_true,Bool.false_or] at h1
 have h2:=List.all_eq_true.1 h1 x (List.mem_range.2 hxm)
 have e2:bigAt ops x=false:=by simp only [bigAt,hx1,hx2]
 have e3:Nat.beq (hpAt ops.length recs h' (x+1)).next (hpAt ops.length recs h' x).next=false:=by
  rw [hb]
  cases hq:Nat.beq ((hpAt ops.length recs h' x).push b).next (hpAt ops.length recs h' x).next with
  | false=>rfl
  | true=>
   have:(hpAt ops.length recs h' x).next+1=(hpAt ops.length recs h' x).next:=Nat.eq_of_beq_eq_true hq
   omega
 rw [e2,e3] at h2
 simp only [Bool.false_or] at h2
 exact blkEq_eq h2
theorem drawN_wp (ok:EnvOK E P) (hm:P.follows .mixedOrders=true) (hcall:CallOK P call) {nt id:Nat} {ops:Array Oper} {h:Heap} {fr':Fr} {h':Heap} (hd:drawN E call nt ops.toList fr h=some (fr',h'))
  {μ:Mu} {w:World} {a:Act} {Q:Exit→Act→World→Prop} (hr:HR μ h w) (ha:AR μ nt fr a) (hq:∀ μ' a' w',AR μ' nt fr' a'→HR μ' h' w'→Ext μ h w μ' h' w'→Q .normal a' w'):(Code.region id ops true).wp P Q a w:=by
 unfold drawN at hd
 cases hob:orderB ops.toList with
 | true=>
  rw [hob,cond_true] at hd
  exact drawI_wp ok hm hcall hd hr ha hq
 | false=>
  rw [hob,cond_false] at hd
  unfold drawX at hd
  cases ht:traceA E call nt (permO (frontL ops.toList) ops.toList) (permO (frontL ops.toList) ops.toList) fr h with
  | none=>simp [ht] at hd
  | some p=>
   obtain ⟨l,fr1,h1⟩:=p
   simp only [ht] at hd
   cases hb:(permB (frontL ops.toList) ops.toList&&orderX (permO (frontL ops.toList) ops.toList)&&stableB E call (permO (frontL ops.toList) ops.toList) (stagesL (permO (frontL ops.toList) ops.toList) l h1) (permO (frontL ops.toList) ops.toList) l&&sameXB (permO (frontL ops.toList) ops.toList) l h1) with
   | false=>simp [hb] at hd
   | true=>
    simp only [hb,cond_true,Option.some.injEq,Prod.mk.injEq] at hd
    obtain ⟨rfl,rfl⟩:=hd
    simp only [Bool.and_eq_true] at hb
    obtain ⟨⟨⟨b1,b2⟩,b3⟩,b4⟩:=hb
    refine perm_wp hm b1 ?_
    refine drawX_wp (ops:=(permO (frontL ops.toList) ops.toList).toArray) (recs:=l) (fr':=fr1) (h':=h1) ok hcall (by simpa using ht) (by simpa using b2) ?_ (by simpa using same_ok b4) hr ha hq
    intro i o f hh v hi hrec hk k Hk hst
    have hi':(permO (frontL ops.toList) ops.toList)[i]? = some o:=by simpa using hi
    have hmem:Hk∈stagesL (permO (frontL ops.toList) ops.toList) l h1:=by
     rcases hst with ⟨o',f',v',g1,g2,g3⟩ | ⟨_,rfl⟩
     ·exact stages_at k o' f' Hk v' (by simpa using g1) g3 (bigR_kind g2).1
     ·exact stages_end _ _ _
    have:=stable_recs b3 i o f hh v hi' hrec hk Hk hmem
    simpa using this
end
end Ai
namespace Ai
variable [IntT]
section
variable {E:Env} {P:Program}
def exitOf:Out→Exit
 | .norm=>.normal
 | .exit id=>.exit id
 | .ret=>.ret
def CodeOK (nt:Nat) (fr:Fr) (h:Heap) (out:Out) (fr':Fr) (h':Heap) (K:(Exit→Act→World→Prop)→Act→World→Prop):Prop:=
 ∀ (μ:Mu) (w:World) (a:Act) (Q:Exit→Act→World→Prop),HR μ h w→AR μ nt fr a→(∀ μ' a' w',AR μ' nt fr' a'→HR μ' h' w'→Ext μ h w μ' h' w'→Q (exitOf out) a' w')→K Q a w
theorem evC_sound (ok:EnvOK E P) (hm:P.follows .mixedOrders=true) {call:CallF} (hcall:CallOK P call) {nt N:Nat} {loop:Ev}
  (hloop:∀ c fr h out fr' h',loop (.loop c) fr h=some (out,fr',h')→CodeOK nt fr h out fr' h' (fun Q a w=>Code.rounds P c Q N a w)) :
  ∀ (c:Code) (fr:Fr) (h:Heap) (out:Out) (fr':Fr) (h':Heap),evC E call nt loop c fr h=some (out,fr',h')→CodeOK nt fr h out fr' h' (fun Q a w=>c.wp P Q a w):=by
 intro c
 induction c with
 | skip=>
  intro fr h out fr' h' hx μ w a Q hr ha hq
  simp only [evC,Option.some.injEq,Prod.mk.injEq] at hx
  obtain ⟨rfl,rfl,rfl⟩:=hx
  exact wp_skip (hq μ a w ha hr (Ext.refl μ h w))
 | region id ops draw=>
  intro fr h out fr' h' hx μ w a Q hr ha hq
  simp only [evC] at hx
  cases draw with
  | true=>
   simp only [cond_true] at hx
   cases hd:drawN E call nt ops.toList fr h with
   | none=>simp [hd] at hx
   | some p=>
    obtain ⟨fr1,h1⟩:=p
    simp only [hd,Option.some.injEq,Prod.mk.injEq] at hx
    obtain ⟨rfl,rfl,rfl⟩:=hx
    exact drawN_wp ok hm hcall hd hr ha hq
  | false=>
   simp only [cond_false] at hx
   cases hd:evOps E call nt ops.toList ops.toList fr h with
   | none=>simp [hd] at hx
   | some p=>
    obtain ⟨fr1,h1⟩:=p
    simp only [hd,Option.some.injEq,Prod.mk.injEq] at hx
    obtain ⟨rfl,rfl,rfl⟩:=hx
    refine wp_region ?_
    rw [List.range_eq_range']
    exact evOps_wp ok hcall ops.size 0 μ h w fr a fr1 h1 (by omega) (by simpa using hd) hr ha hq
 | seq x y ihx ihy=>
  intro fr h out fr' h' hx μ w a Q hr ha hq
  simp only [evC] at hx
  cases h1:evC E call nt loop x fr h with
  | none=>simp [h1] at hx
  | some p=>
   obtain ⟨o1,fr1,hh1⟩:=p
   refine wp_seq (ihx fr h o1 fr1 hh1 h1 μ w a _ hr ha ?_)
   intro μ' a' w' ha' hr' hext
   cases o1 with
   | norm=>
    simp only [h1] at hx
    exact ihy fr1 hh1 out fr' h' hx μ' w' a' Q hr' ha' fun μ2 a2 w2 ha2 hr2 hext2=>hq μ2 a2 w2 ha2 hr2 (Ext.trans hr hext hext2)
   | exit id=>
    simp only [h1,Option.some.injEq,Prod.mk.injEq] at hx
    obtain ⟨rfl,rfl,rfl⟩:=hx
    exact hq μ' a' w' ha' hr' hext
   | ret=>
    simp only [h1,Option.some.injEq,Prod.mk.injEq] at hx
    obtain ⟨rfl,rfl,rfl⟩:=hx
    exact hq μ' a' w' ha' hr' hext
 | cond c x y ihx ihy=>
  intro fr h out fr' h' hx μ w a Q hr ha hq
  simp only [evC] at hx
  split at hx
  ·rename_i b hb
   have hv:=opnd_sound ha hb
   simp only [VR] at hv
   refine wp_cond hv ?_
   cases b with
   | true=>simp only [cond_true] at hx;exact ihx fr h out fr' h' hx μ w a Q hr ha hq
   | false=>simp only [cond_false] at hx;exact ihy fr h out fr' h' hx μ w a Q hr ha hq
  ·simp at hx
 | block id c ih=>
  intro fr h out fr' h' hx μ w a Q hr ha hq
  simp only [evC] at hx
  cases h1:evC E call nt loop c fr h with
  | none=>simp [h1] at hx
  | some p=>
   obtain ⟨o1,fr1,hh1⟩:=p
   refine wp_block (ih fr h o1 fr1 hh1 h1 μ w a _ hr ha ?_)
   intro μ' a' w' ha' hr' hext
   cases o1 with
   | norm=>
    simp only [h1,Option.some.injEq,Prod.mk.injEq] at hx
    obtain ⟨rfl,rfl,rfl⟩:=hx
    exact hq μ' a' w' ha' hr' hext
   | exit id'=>
    simp only [h1] at hx
    cases hb:Nat.beq id' id with
    | true=>
     simp only [hb,cond_true,Option.some.injEq,Prod.mk.injEq] at hx
     obtain ⟨rfl,rfl,rfl⟩:=hx
     have:id'=id:=Nat.eq_of_beq_eq_true hb
     simp only [exitOf,Exit.inBlock,this,if_true]
     exact hq μ' a' w' ha' hr' hext
    | false=>
     simp only [hb,cond_false,Option.some.injEq,Prod.mk.injEq] at hx
     obtain ⟨rfl,rfl,rfl⟩:=hx
     have:id'≠id:=fun e=>by rw [bt e] at hb;cases hb
     simp only [exitOf,Exit.inBlock,this,if_false]
     exact hq μ' a' w' ha' hr' hext
   | ret=>
    simp only [h1,Option.some.injEq,Prod.mk.injEq] at hx
    obtain ⟨rfl,rfl,rfl⟩:=hx
    exact hq μ' a' w' ha' hr' hext
 | loop c ih=>
  intro fr h out fr' h' hx μ w a Q hr ha hq
  simp only [evC] at hx
  cases h1:evC E call nt loop c fr h with
  | none=>simp [h1] at hx
  | some p=>
   obtain ⟨o1,fr1,hh1⟩:=p
   refine wp_loop_rounds (N+1) ?_
   rw [rounds_succ]
   refine ih fr h o1 fr1 hh1 h1 μ w a _ hr ha ?_
   intro μ' a' w' ha' hr' hext
   cases o1 with
   | norm=>
    simp only [h1] at hx
    exact hloop c fr1 hh1 out fr' h' hx μ' w' a' Q hr' ha' fun μ2 a2 w2 ha2 hr2 hext2=>hq μ2 a2 w2 ha2 hr2 (Ext.trans hr hext hext2)
   | exit id=>
    simp only [h1,Option.some.injEq,Prod.mk.injEq] at hx
    obtain ⟨rfl,rfl,rfl⟩:=hx
    exact hq μ' a' w' ha' hr' hext
   | ret=>
    simp only [h1,Option.some.injEq,Prod.mk.injEq] at hx
    obtain ⟨rfl,rfl,rfl⟩:=hx
    exact hq μ' a' w' ha' hr' hext
 | exit id=>
  intro fr h out fr' h' hx μ w a Q hr ha hq
  simp only [evC,Option.some.injEq,Prod.mk.injEq] at hx
  obtain ⟨rfl,rfl,rfl⟩:=hx
  exact wp_exit (hq μ a w ha hr (Ext.refl μ h w))
 | ret=>
  intro fr h out fr' h' hx μ w a Q hr ha hq
  simp only [evC,Option.some.injEq,Prod.mk.injEq] at hx
  obtain ⟨rfl,rfl,rfl⟩:=hx
  exact wp_ret (hq μ a w ha hr (Ext.refl μ h w))
 | scope c ih=>
  intro fr h out fr' h' hx μ w a Q hr ha hq
  simp only [evC] at hx
  refine wp_scope_straight (ih fr h out fr' h' hx μ w a _ hr ha ?_)
  intro μ' a' w' ha' hr' hext
  have:=hq μ' a' w' ha' hr' hext
  cases out <;> exact this
 | label l=>
  intro fr h out fr' h' hx μ w a Q hr ha hq
  simp only [evC,Option.some.injEq,Prod.mk.injEq] at hx
  obtain ⟨rfl,rfl,rfl⟩:=hx
  exact wp_label (hq μ a w ha hr (Ext.refl μ h w))
 | rangeFunc=>intro fr h out fr' h' hx;simp [evC] at hx
 | goto=>intro fr h out fr' h' hx;simp [evC] at hx
 | refuse=>intro fr h out fr' h' hx;simp [evC] at hx
def NativeOK (E:Env) (P:Program):Prop:=∀ f g,E.native f=some g→∀ args h v h',g args h=some (v,h')→∀ μ w (args':Array Value),HR μ h w→VRs μ args args'.toList→
 (∃ u w',(callFunc f args').run P w=.ok (.value u) w'∧Post μ h w v h' u w')∨
 ((callFunc f args').run P w=.ok (.enter f args') w∧Calls P f args' w fun e w'=>∃ u,e=.returned u∧Post μ h w v h' u w')
theorem initFr_get:∀ (args:List AV) (i:Nat) (fr:Fr) (t:Nat) (v:AV),(initFr i args fr).get t=some v→(i≤t∧args[t-i]? = some v)∨fr.get t=some v
 | [],i,fr,t,v,h=>.inr h
 | x::r,i,fr,t,v,h=>by
  simp only [initFr] at h
  rcases initFr_get r (i+1) _ t v h with ⟨h1,h2⟩ | h1
  ·refine .inl ⟨by omega,?_⟩
   rw [show t-i=(t-(i+1))+1 from by omega];simpa using h2
  ·rcases Tr.get_set h1 with ⟨rfl,rfl⟩ | ⟨_,h2⟩
   ·exact .inl ⟨Nat.le_refl _,by simp⟩
   ·exact .inr h2
theorem results_sound (ok:EnvOK E P) {μ:Mu} {h:Heap} {w:World} {nt:Nat} {fr:Fr} {a:Act} (hr:HR μ h w) (ha:AR μ nt fr a) {g:ResultVar→Sem Value} (hg1:∀ t,g (.tmp t)=pure (a.tmps.getD t undef))
  (hg2:∀ x t,g (.cell x t)=(do loadVar t (← asAddr (a.tmps.getD x undef)))):∀ {l:List ResultVar} {vs:List AV},resultsA E fr h l=some vs→∃ us:List Value,(l.mapM g).run P w=.ok us w∧VRs μ vs us
 | [],vs,hx=>by simp [resultsA] at hx;subst hx;exact ⟨[],rfl,VRs.nil⟩
 | .tmp t::r,vs,hx=>by
  simp only [resultsA] at hx
  cases hg:fr.get t with
  | none=>simp [hg] at hx
  | some v=>
   cases hl:resultsA E fr h r with
   | none=>simp [hg,hl] at hx
   | some l=>
    simp only [hg,hl,Option.some.injEq] at hx
    subst hx
    obtain ⟨us,h1,h2⟩:=results_sound ok hr ha hg1 hg2 hl
    refine ⟨a.tmps.getD t undef::us,?_,VRs.cons (ha.slot t v hg) h2⟩
    rw [List.mapM_cons]
    rw [hg1]
    refine (run_bind_ok (P:=P) (a:=a.tmps.getD t undef) (w':=w) rfl).trans ?_
    exact (run_bind_ok (P:=P) h1).trans rfl
 | .cell x t::r,vs,hx=>by
  simp only [resultsA] at hx
  cases hg:fr.get x with
  | none=>simp [hg] at hx
  | some v=>
   simp only [hg] at hx
   cases hld:loadA E h t v with
   | none=>simp [hld] at hx
   | some y=>
    cases hl:resultsA E fr h r with
    | none=>simp [hld,hl] at hx
    | some l=>
     simp only [hld,hl,Option.some.injEq] at hx
     subst hx
     obtain ⟨us,h1,h2⟩:=results_sound ok hr ha hg1 hg2 hl
     obtain ⟨ad,u,h3,h4,h5⟩:=loadVar_sound (P:=P) ok hr (ha.slot x v hg) hld
     refine ⟨u::us,?_,VRs.cons h5 h2⟩
     rw [List.mapM_cons,hg2]
     refine (run_bind_ok (P:=P) (a:=u) (w':=w) ?_).trans ?_
     ·rw [h3]
      exact (run_bind_ok (P:=P) (a:=ad) (w':=w) rfl).trans h4
     ·exact (run_bind_ok (P:=P) h1).trans rfl
theorem call_sound (ok:EnvOK E P) (hm:P.follows .mixedOrders=true) (hnat:NativeOK E P):∀ n,CallOK P (callA E (ev E n))∧
  ∀ (nt:Nat) c fr h out fr' h',ev E n nt (.loop c) fr h=some (out,fr',h')→CodeOK nt fr h out fr' h' (fun Q a w=>Code.rounds P c Q n a w):=by
 have key:∀ (evn:Nat→Ev),(∀ (nt:Nat) c fr h out fr' h',evn nt c fr h=some (out,fr',h')→CodeOK nt fr h out fr' h' (fun Q a w=>c.wp P Q a w))→CallOK P (callA E evn):=by
  intro evn hev f args h v h' hx μ w args' hr hv
  unfold callA at hx
  cases hn:E.native f with
  | some g=>simp only [hn] at hx;exact hnat f g hn args h v h' hx μ w args' hr hv
  | none=>
   simp only [hn] at hx
   cases hf:E.fn f with
   | none=>simp [hf] at hx
   | some fn=>
    simp only [hf] at hx
    obtain ⟨hfp,hname⟩:=ok.fn f fn hf
    cases hb:fn.body with
    | none=>simp [hb] at hx
    | some c=>
     simp only [hb] at hx
     cases hle:Nat.ble args.length fn.ntmps with
     | false=>simp [hle] at hx
     | true=>
      simp only [hle,cond_true] at hx
      have hle':args.length≤fn.ntmps:=by simpa using hle
      refine .inr ⟨?_,?_⟩
      ·unfold callFunc
       refine (run_bind_ok (P:=P) (a:=P) (w':=w) rfl).trans ?_
       rw [hfp]
       simp only [hname,Bool.false_eq_true,if_false,hb,Option.isNone_some]
       rfl
      ·refine calls_of_wp hfp hb ?_
       unfold finishA at hx
       split at hx
       ·simp at hx
       ·rename_i out fr1 h1 hne hev1
        have hargs:args'.size=args.length:=by simpa using hv.length
        refine hev fn.ntmps c _ h out fr1 h1 hev1 μ w _ _ hr ?_ ?_
        ·refine ⟨fun t x hx=>?_,by simp [hargs];omega,rfl⟩
         rcases initFr_get args 0 .nil t x hx with ⟨_,h2⟩ | h2
         ·obtain ⟨y,h3,h4⟩:=hv.get h2
          have h3':args'[t]? = some y:=by simpa using h3
          have hlt:t<args'.size:=(Array.getElem?_eq_some_iff.1 h3').1
          have:(args'++Array.replicate (fn.ntmps-args'.size) undef).getD t undef=y:=by
           simp only [Array.getD_eq_getD_getElem?]
           rw [Array.getElem?_append_left hlt,h3'];rfl
          rw [this];exact h4
         ·simp [Tr.get_nil] at h2
        ·intro μ' a' w' ha' hr' hext
         have hres:(exitOf out=.normal∨exitOf out=.ret):=by
          cases out with
          | norm=>exact .inl rfl
          | ret=>exact .inr rfl
          | exit id=>exact (hne id rfl).elim
         have hfin:a'.defers=[]∧∃ u,(results fn a'.tmps).run P w'=.ok u w'∧∃ u',Ending.returned u=.returned u'∧Post μ h w v h' u' w':=by
          refine ⟨ha'.defers,?_⟩
          cases hrs:resultsA E fr1 h1 fn.results.toList with
          | none=>simp [hrs] at hx
          | some vs=>
           obtain ⟨us,g1,g2⟩:=results_sound (P:=P) (g:=fun | .tmp t=>pure (a'.tmps.getD t undef) | .cell a t=>do loadVar t (← asAddr (a'.tmps.getD a undef))) ok hr' ha' (fun _=>rfl) (fun _ _=>rfl) hrs
           have hrun:∀ (r:Value),(if hs:us.toArray.size=1 then us.toArray[0] else .tuple us.toArray)=r→(results fn a'.tmps).run P w'=.ok r w':=by
            intro r hr0
            have hmap:(fn.results.mapM (fun | .tmp t=>pure (a'.tmps.getD t undef) | .cell a t=>do loadVar t (← asAddr (a'.tmps.getD a undef)):ResultVar→Sem Value)).run P w'=.ok us.toArray w':=by
             rw [Array.mapM_eq_mapM_toList,Sem.run_map,g1];rfl
            unfold results
            exact (run_bind_ok (P:=P) hmap).trans (by rw [← hr0];rfl)
           have hul:=g2.length
           simp only [hrs] at hx
           split at hx
           ·rename_i x hvs
            simp only [Option.some.injEq] at hvs
            subst hvs
            simp only [Option.some.injEq,Prod.mk.injEq] at hx
            obtain ⟨rfl,rfl⟩:=hx
            simp only [VRs] at g2
            obtain ⟨y,ys,rfl,g3,rfl⟩:=g2
            exact ⟨y,hrun y (by simp),y,rfl,μ',g3,hr',hext⟩
           ·rename_i vs' hne' hvs
            simp only [Option.some.injEq] at hvs
            subst hvs
            simp only [Option.some.injEq,Prod.mk.injEq] at hx
            obtain ⟨rfl,rfl⟩:=hx
            have hn1:us.toArray.size≠1:=by
             intro e
             have:vs.length=1:=by rw [← hul];simpa using e
             obtain ⟨z,rfl⟩:=List.length_eq_one_iff.1 this
             exact hne' z rfl
            exact ⟨.tuple us.toArray,hrun _ (by rw [dif_neg hn1]),_,rfl,μ',by simp only [VR];exact ⟨_,rfl,by simpa using g2⟩,hr',hext⟩
           ·rename_i hvs;simp at hvs
         rcases hres with e | e <;> rw [e] <;> exact hfin
       ·simp at hx
 intro n
 induction n with
 | zero=>
  refine ⟨key _ (fun nt c fr h out fr' h' hx=>by simp [ev] at hx),fun nt c fr h out fr' h' hx=>by simp [ev] at hx⟩
 | succ n ih=>
  have hcode:∀ (nt:Nat) c fr h out fr' h',ev E (n+1) nt c fr h=some (out,fr',h')→CodeOK nt fr h out fr' h' (fun Q a w=>c.wp P Q a w):=by
   intro nt c fr h out fr' h' hx
   exact evC_sound ok hm ih.1 (ih.2 nt) c fr h out fr' h' hx
  refine ⟨key _ hcode,?_⟩
  intro nt c fr h out fr' h' hx μ w a Q hr ha hq
  simp only [ev,evC] at hx
  rw [rounds_succ]
  cases h1:evC E (callA E (ev E n)) nt (ev E n nt) c fr h with
  | none=>simp [h1] at hx
  | some p=>
   obtain ⟨o1,fr1,hh1⟩:=p
   refine evC_sound ok hm ih.1 (ih.2 nt) c fr h o1 fr1 hh1 h1 μ w a _ hr ha ?_
   intro μ' a' w' ha' hr' hext
   cases o1 with
   | norm=>
    simp only [h1] at hx
    exact ih.2 nt c fr1 hh1 out fr' h' hx μ' w' a' Q hr' ha' fun μ2 a2 w2 ha2 hr2 hext2=>hq μ2 a2 w2 ha2 hr2 (Ext.trans hr hext hext2)
   | exit id=>
    simp only [h1,Option.some.injEq,Prod.mk.injEq] at hx
    obtain ⟨rfl,rfl,rfl⟩:=hx
    exact hq μ' a' w' ha' hr' hext
   | ret=>
    simp only [h1,Option.some.injEq,Prod.mk.injEq] at hx
    obtain ⟨rfl,rfl,rfl⟩:=hx
    exact hq μ' a' w' ha' hr' hext
theorem evCall_sound (ok:EnvOK E P) (hm:P.follows .mixedOrders=true) (hnat:NativeOK E P) {n:Nat} {f:FuncId} {fn:Func} (hf:E.fn f=some fn) (hb:fn.body.isSome=true) {args:List AV} {h:Heap} {v:AV} {h':Heap} (hx:evCall E n f args h=some (v,h')) {μ:Mu} {w:World} {args':Array Value}
  (hr:HR μ h w) (hv:VRs μ args args'.toList):Calls P f args' w fun e w'=>∃ u,e=.returned u∧Post μ h w v h' u w':=by
 obtain ⟨hfp,hname⟩:=ok.fn f fn hf
 rcases (call_sound ok hm hnat n).1 f args h v h' hx μ w args' hr hv with ⟨u,w',h1,_⟩ | ⟨_,h2⟩
 ·exfalso
  have:(callFunc f args').run P w=.ok (.enter f args') w:=by
   unfold callFunc
   refine (run_bind_ok (P:=P) (a:=P) (w':=w) rfl).trans ?_
   rw [hfp]
   have hbn:fn.body.isNone=false:=by cases hh:fn.body <;> simp_all
   simp only [hname,Bool.false_eq_true,if_false,hbn]
   rfl
  rw [this] at h1
  simp at h1
 ·exact h2
end
end Ai
namespace Ai
variable [IntT]
open Go.RowKit (Below)
theorem ofArr_go {α:Type}:∀ (l:List α) (p:Tr α×Nat) (t:Nat) (x:α),((l.foldl (fun (p:Tr α×Nat) x=>(p.1.set p.2 x,p.2+1)) p).1).get t=some x→(p.2≤t∧l[t-p.2]? = some x)∨p.1.get t=some x
 | [],p,t,x,h=>.inr h
 | y::r,p,t,x,h=>by
  simp only [List.foldl_cons] at h
  rcases ofArr_go r _ t x h with ⟨h1,h2⟩ | h1
  ·refine .inl ⟨by simp at h1;omega,?_⟩
   simp at h1 h2
   rw [show t-p.2=(t-(p.2+1))+1 from by omega];simpa using h2
  ·rcases Tr.get_set h1 with ⟨rfl,rfl⟩ | ⟨_,h2⟩
   ·exact .inl ⟨Nat.le_refl _,by simp⟩
   ·exact .inr h2
theorem ofArr_get {α:Type} {l:List α} {t:Nat} {x:α} (h:(ofArr l).get t=some x):l[t]? = some x:=by
 rcases ofArr_go l (Tr.nil,0) t x h with ⟨_,h1⟩ | h1
 ·simpa using h1
 ·simp [Tr.get_nil] at h1
def envOf (P:Program) (cmp:List TypeId) (native:FuncId→Option (List AV→Heap→Option (AV×Heap))):Env:=
 { info:=(ofArr P.types.toList).get,fn:=(ofArr P.funcs.toList).get,native,cmp:=fun t=>memL t cmp,trk:=fun t=>memL (1000000+t) cmp,lies:=fun e off u=>liesAt P P.depth e 1 off u 1 }
theorem envOf_ok {P:Program} {cmp:List TypeId} {native:FuncId→Option (List AV→Heap→Option (AV×Heap))} (hn:(P.funcs.toList.all fun f=>!(f.name == "runtime.NumGoroutine"))=true)
  (hc:(cmp.all fun t=>!P.stoodInHeld t&&!P.eqGuardType P.depth t)=true):EnvOK (envOf P cmp native) P where
 info:=by
  intro t i h
  have h1:=ofArr_get h
  have h2:P.types[t]? = some i:=by simpa using h1
  have hlt:t<P.types.size:=(Array.getElem?_eq_some_iff.1 h2).1
  unfold Tables.info?
  rw [if_pos hlt];exact h2
 fn:=by
  intro f fn h
  have h1:=ofArr_get h
  refine ⟨by simpa using h1,?_⟩
  have:=List.all_eq_true.1 hn fn (List.mem_of_getElem? h1)
  simpa using this
 cmp:=by
  intro t h
  have:=List.all_eq_true.1 hc t (memL_iff.1 h)
  simpa using this
 lies:=fun _ _ _ h=>h
def noNative:FuncId→Option (List AV→Heap→Option (AV×Heap)):=fun _=>none
def emptyH:Heap:={ t:=.nil,next:=0 }
theorem emptyHR (w:World):HR (fun _=>none) emptyH w:=⟨fun _ _ h=>(by cases h),fun _ _ _ _ _ _ h=>(by cases h),fun _ _ _ h=>(by cases h),fun _ h=>(by cases h)⟩
def isTrueA:Option (AV×Heap)→Bool
 | some (.bool b,_)=>b
 | _=>false
end Ai
namespace Ai
variable [IntT]
open Go.WideShapes Go.ChangeShapes
open Go.RowKit (Below)
variable {H:Type} {enc:TypeId×Value→H} {P:Program}
theorem post_of_below {f:Func} {s:ChangeSpec} {apart fresh handsOn again:Bool} {W W':World} {args:Array Value} {v:Value} {ds gs:List (DataW H)} {before pa pv:List MemPlace}
  (hW:DataW.Whole enc P f.params.toList s.vars apart W args.toList ds gs before)
  (hres:∀ (b:Nat) (sp:Nat→Bool) (hd:Bool),DataW.TrodAll enc P W' b sp hd f.resultTypes.toList (v.resultList f.resultTypes.size) (s.fn H (ds++gs)).results [])
  (hargs:∀ sp:Nat→Bool,(∀ p∈before,sp p.block=true)→DataW.TrodAll enc P W' 0 sp true f.params.toList args.toList (s.fn H (ds++gs)).args pa)
  (hvars:∀ sp:Nat→Bool,(∀ p∈before,sp p.block=true)→DataW.TrodVars enc P W' sp s.vars (s.fn H (ds++gs)).vars pv)
  (hps:before=pa++pv) (hb:Below W.heap.size W W')
  (hok:∀ (j:Nat) (t:TypeId) (r:Value),f.resultTypes[j]? = some t→(v.resultList f.resultTypes.size)[j]? = some r→Value.okWide P W' .any 0 t r) :
  s.post enc P f apart fresh handsOn again W args v W':=by
 have hold:∀ p∈before,(fun b=>decide (b<W.heap.size)) p.block=true:=fun p hp=>by simpa using hW.lt p hp
 have hk:W.keptBut W' (·∈before):=hb.frame _
 have hlt:=hW.lt
 refine ⟨ds,gs,before,[],pa,pv,hW,hres _ _ _,hargs _ hold,hvars _ hold,World.keptBut_mono (fun p hp=>⟨hp,?_⟩) hk,fun _=>?_⟩
 ·rw [hps,List.mem_append] at hp
  exact Or.inr hp
 ·obtain ⟨_,_,_,_,_,hz,hn⟩:=hW
  refine ⟨hok,_,_,([]++pa)++pv,⟨[]++pa,pv,trodAll_append (hargs _ (fun _ _=>rfl)) (hres _ _ _),hvars _ (fun _ _=>rfl),rfl,?_,?_⟩,?_⟩
  ·intro b off hp
   have hp':MemPlace.cell b off∈before:=by rw [hps];simpa using hp
   rw [hb.frozen (hlt _ hp')]
   exact hz b off hp'
  ·intro ha
   have:=hn ha
   rw [hps] at this
   simpa using this
  ·intro p hp _
   rw [hps]
   simpa using hp
end Ai
namespace Ai
variable [IntT]
def freeNew (o:Oper):Bool:=allocR o.op&&o.guard.isNone&&Nat.beq o.after.toList.length 0
def newAt (ops:List Oper) (k:Nat):Bool:=match ops[k]? with
 | some o=>freeNew o
 | none=>false
def frontR (ops:List Oper):List Nat:=(List.range ops.length).filter (newAt ops)++(List.range ops.length).filter (fun k=>!newAt ops k)
def orderF (ops:List Oper):Bool:=permB (frontR ops) ops&&orderX (permO (frontR ops) ops)
def sameL (ops:List Oper) (ps:List (List Nat)) (L:List (Nat×Heap×Heap)):Bool:=
 L.all fun m=>bif bigAt ops m.1 then L.all (fun x=>bif bigAt ops x.1||!Nat.blt x.1 m.1||memL x.1 ((ps[m.1]?).getD []) then true else blkEq (m.2.2.t.get x.2.1.next) (m.2.1.t.get x.2.1.next)) else true
def stgB (i:Nat) (o:Oper) (h:Heap) (hs:List (Nat×Heap)):List (Nat×Heap):=bif bigR o.op then (i,h)::hs else hs
def stgX (i:Nat) (o:Oper) (h h':Heap) (L:List (Nat×Heap×Heap)):List (Nat×Heap×Heap):=bif Nat.beq (kindA o.op) 2 then (i,h,h')::L else L
end Ai
namespace Ai
variable [IntT]
inductive CTy where
 | bool | int (k:IntKind) | str | ptr | slice | any
inductive VTy where
 | one (c:CTy) | agg (l:List CTy) | clo (g:FuncId) (l:List CTy)
inductive Ty where
 | val (v:VTy) | tup (l:List VTy)
structure SL where
 a:Option (Nat×Nat)
 len:Nat
 cap:Nat
 sz:Nat
@[reducible] def CTy.den:CTy→Type
 | .bool=>Bool
 | .int _=>Int
 | .str=>List UInt8
 | .ptr=>Option (Nat×Nat)
 | .slice=>SL
 | .any=>AV
@[reducible] def dens:List CTy→Type
 | []=>Unit
 | c::r=>c.den×dens r
@[reducible] def VTy.den:VTy→Type
 | .one c=>c.den
 | .agg l=>dens l
 | .clo _ l=>dens l
@[reducible] def vdens:List VTy→Type
 | []=>Unit
 | c::r=>c.den×vdens r
@[reducible] def Ty.den:Ty→Type
 | .val v=>v.den
 | .tup l=>vdens l
def CTy.to:(c:CTy)→c.den→AV
 | .bool,b=>.bool b
 | .int k,n=>.int k n
 | .str,s=>.str s
 | .ptr,p=>.ptr p
 | .slice,s=>.slice s.a s.len s.cap s.sz
 | .any,v=>v
def CTy.tos:(l:List CTy)→dens l→List AV
 | [],_=>[]
 | c::r,x=>c.to x.1::CTy.tos r x.2
def VTy.to:(v:VTy)→v.den→AV
 | .one c,x=>c.to x
 | .agg l,x=>.agg (CTy.tos l x)
 | .clo g l,x=>.func (.func g) [] (CTy.tos l x)
def VTy.tos:(l:List VTy)→vdens l→List AV
 | [],_=>[]
 | c::r,x=>c.to x.1::VTy.tos r x.2
def Ty.to:(t:Ty)→t.den→AV
 | .val v,x=>v.to x
 | .tup l,x=>.tuple (VTy.tos l x)
def CTy.cast {β:Type}:(c:CTy)→AV→(c.den→Option β)→Option β
 | .bool,v,K=>match v with
  | .bool b=>K b
  | _=>none
 | .int k,v,K=>match v with
  | .int k' n=>bif eqKind k' k then K n else none
  | _=>none
 | .str,v,K=>match v with
  | .str s=>K s
  | _=>none
 | .ptr,v,K=>match v with
  | .ptr p=>K p
  | _=>none
 | .slice,v,K=>match v with
  | .slice a l c s=>K ⟨a,l,c,s⟩
  | _=>none
 | .any,v,K=>K v
def CTy.casts {β:Type}:(l:List CTy)→List AV→(dens l→Option β)→Option β
 | [],vs,K=>match vs with
  | []=>K ()
  | _=>none
 | c::r,vs,K=>match vs with
  | v::vs=>c.cast v fun x=>CTy.casts r vs fun xs=>K (x,xs)
  | _=>none
def VTy.cast {β:Type}:(c:VTy)→AV→(c.den→Option β)→Option β
 | .one c,v,K=>c.cast v K
 | .agg l,v,K=>match v with
  | .agg cs=>CTy.casts l cs K
  | _=>none
 | .clo g l,v,K=>match v with
  | .func (.func g') [] cs=>bif Nat.beq g' g then CTy.casts l cs K else none
  | _=>none
def VTy.casts {β:Type}:(l:List VTy)→List AV→(vdens l→Option β)→Option β
 | [],vs,K=>match vs with
  | []=>K ()
  | _=>none
 | c::r,vs,K=>match vs with
  | v::vs=>c.cast v fun x=>VTy.casts r vs fun xs=>K (x,xs)
  | _=>none
def Ty.cast {β:Type}:(c:Ty)→AV→(c.den→Option β)→Option β
 | .val c,v,K=>c.cast v K
 | .tup l,v,K=>match v with
  | .tuple vs=>VTy.casts l vs K
  | _=>none
def ctyD:TypeDesc→CTy
 | .bool=>.bool
 | .int k=>.int k
 | .string=>.str
 | .pointer _=>.ptr
 | .slice _=>.slice
 | _=>.any
def repC:Nat→List CTy→List CTy
 | 0,_=>[]
 | n+1,l=>l++repC n l
def cellsTy (E:Env):Nat→TypeId→List CTy
 | 0,_=>[]
 | d+1,t=>match E.und t with
  | some (.struct fs)=>(fs.toList.map fun f=>cellsTy E d f.type).flatten
  | some (.array n e)=>repC n (cellsTy E d e)
  | some x=>[ctyD x]
  | none=>[]
def vtyOf (E:Env) (t:TypeId):VTy:=
 match E.und t with
 | some (.struct _)=>.agg (cellsTy E 12 t)
 | some (.array n _)=>bif Nat.ble n 32 then .agg (cellsTy E 12 t) else .one .any
 | some d=>.one (ctyD d)
 | none=>.one .any
def tyOf (E:Env) (t:TypeId):Ty:=
 match E.und t with
 | some (.tuple ts)=>match ts.toList with
  | []=>.val (.one .any)
  | l=>.tup (l.map (vtyOf E))
 | _=>.val (vtyOf E t)
abbrev CallK:=∀ {β:Type},FuncId→List AV→Heap→(AV→Heap→Option β)→Option β
def noCalls:CallK:=fun _ _ _ _=>none
def bind2 {α β:Type} (x:Option (α×Heap)) (k:α→Heap→Option β):Option β:=
 match x with
 | some (v,h)=>k v h
 | none=>none
def addCall (f:FuncId) (l:List VTy) (t:Ty) (F:vdens l→Heap→Option (t.den×Heap)) (C:CallK):CallK:=fun g args h k=>
 bif Nat.beq g f then VTy.casts l args fun xs=>bind2 (F xs h) fun r h'=>k (t.to r) h' else C g args h k
def isClo (i:Nat) (g:FuncId) (args:List AV):Bool:=match args[i]? with
 | some (.func (.func g') _ _)=>Nat.beq g' g
 | _=>false
def addCallS (f:FuncId) (sel:List AV→Bool) (l:List VTy) (t:Ty) (F:vdens l→Heap→Option (t.den×Heap)) (C:CallK):CallK:=fun g args h k=>
 bif Nat.beq g f then (bif sel args then VTy.casts l args fun xs=>bind2 (F xs h) fun r h'=>k (t.to r) h' else C g args h k) else C g args h k
def bindV {β:Type} (t:Ty) (x:Option AV) (K:t.den→Option β):Option β:=
 match x with
 | some v=>t.cast v K
 | none=>none
def bindT {β:Type} (t:Ty) (x:Option (AV×Heap)) (K:t.den→Heap→Option β):Option β:=
 match x with
 | some (v,h)=>t.cast v fun y=>K y h
 | none=>none
def o1 {β:Type} (fr:Fr) (x:Operand) (f:AV→Option β):Option β:=
 match opnd fr x with
 | some v=>f v
 | none=>none
def need {α β:Type} (p:Option α) (K:α→Option β):Option β:=
 match p with
 | some a=>K a
 | none=>none
def guardB {β:Type} (b:Bool) (k:Option β):Option β:=bif b then k else none
def Heap.cell (h:Heap) (a:Nat×Nat):Option AV:=
 match h.row a.1 with
 | some cs=>match cs.drop a.2 with
  | v::_=>some v
  | []=>none
 | none=>none
def Heap.cells (h:Heap) (a:Nat×Nat) (n:Nat):Option AV:=
 match h.read a.1 a.2 n with
 | some l=>some (.agg l)
 | none=>none
def Heap.store (h:Heap) (a:Nat×Nat) (vs:List AV):Option Heap:=
 match h.rowW a.1 with
 | some (cs,st)=>match over a.2 cs vs with
  | some cs'=>some (h.put a.1 (.row cs' st))
  | none=>none
 | none=>none
def singles:List AV→Bool
 | []=>true
 | v::r=>bif AV.single v then singles r else false
def ixK {β:Type} (a:Option (Nat×Nat)) (len:Nat) (i:Int) (n:Nat) (K:Nat×Nat→Option β):Option β:=
 match i with
 | .ofNat j=>bif Nat.blt j len then need a fun q=>K (q.1,q.2+j * n) else none
 | .negSucc _=>none
def strK {β:Type} (s:List UInt8) (i:Int) (K:Int→Option β):Option β:=
 match i with
 | .ofNat j=>match s[j]? with
  | some b=>K b.toNat
  | none=>none
 | .negSucc _=>none
def fieldOff (E:Env) (s:TypeId) (f:Nat):Option Nat:=
 match E.fieldAt s f with
 | some fd=>match E.size fd.type with
  | some (_+1)=>some fd.offset
  | _=>none
 | none=>none
def elemOf (E:Env) (s:TypeId):Option (Option Nat×Nat):=
 match E.und s with
 | some (.slice e)=>match E.size e with
  | some n=>some (none,n)
  | none=>none
 | some (.array len e)=>match E.size e with
  | some n=>some (some len,n)
  | none=>none
 | _=>none
def isStr (E:Env) (s:TypeId):Bool:=
 match E.und s with
 | some .string=>true
 | _=>false
def isNilO:Operand→Bool
 | .const (.pointer none)=>true
 | _=>false
def ptrT (E:Env) (t:TypeId):Bool:=
 match E.und t with
 | some (.pointer e)=>match E.size e with
  | some (_+1)=>true
  | _=>false
 | _=>false
def opK {β:Type} (E:Env) (fr:Fr) (o:Op) (t:Ty) (h:Heap) (k:AV→Heap→Option β):Option β:=
 match o with
 | .move x=>o1 fr x fun v=>k v h
 | .assign x=>o1 fr x fun v=>k v h
 | .load t' a=>o1 fr a fun v=>match v with
  | .ptr p=>match E.isAgg t' with
   | some true=>match E.size t' with
    | some n=>need p fun q=>bindV t (h.cells q n) fun y=>k (t.to y) h
    | none=>none
   | some false=>need p fun q=>bindV t (h.cell q) fun y=>k (t.to y) h
   | none=>none
  | _=>none
 | .nilCheck x=>o1 fr x fun v=>match v with
  | .ptr p=>need p fun q=>k (.ptr (some q)) h
  | v=>bindV t (nilCheckA v) fun y=>k (t.to y) h
 | .binOp op t' x y _=>o1 fr x fun v=>bif isNilO y&&ptrT E t' then (match v with
   | .ptr p=>match op with
    | .eql=>k (.bool p.isNone) h
    | .neq=>k (.bool (!p.isNone)) h
    | _=>none
   | _=>none)
  else o1 fr y fun u=>bindV t (binA E op t' x y v u) fun y=>k (t.to y) h
 | .unOp op _ x=>o1 fr x fun v=>bindV t (unA op v) fun y=>k (t.to y) h
 | .fieldAddr s x f=>o1 fr x fun v=>match v with
  | .ptr p=>match fieldOff E s f with
   | some off=>need p fun q=>k (.ptr (some (q.1,q.2+off))) h
   | none=>none
  | _=>none
 | .field s x f=>o1 fr x fun v=>bindV t (fieldA E s v f) fun y=>k (t.to y) h
 | .indexAddr s x ix=>o1 fr x fun v=>o1 fr ix fun u=>match u with
  | .int _ i=>match elemOf E s with
   | some (none,n)=>match v with
    | .slice a len _ _=>ixK a len i n fun q=>k (.ptr (some q)) h
    | _=>none
   | some (some len,n)=>match v with
    | .ptr p=>ixK p len i n fun q=>k (.ptr (some q)) h
    | _=>none
   | none=>none
  | _=>none
 | .index s x ix=>o1 fr x fun v=>o1 fr ix fun u=>bif isStr E s then (match v,u with
   | .str z,.int _ i=>strK z i fun b=>k (.int .u8 b) h
   | _,_=>none)
  else bindV t (indexA E s v u) fun y=>k (t.to y) h
 | .slice s x lo hi none=>match optA fr lo,optA fr hi with
  | some lo,some hi=>o1 fr x fun v=>bindV t (sliceA E h s v lo hi) fun y=>k (t.to y) h
  | _,_=>none
 | .store t' a x=>o1 fr a fun v=>o1 fr x fun u=>match v with
  | .ptr p=>match E.size t' with
   | some n=>bif Nat.beq n 1 then guardB (AV.single u) (need p fun q=>match h.store q [u] with
    | some h'=>k undefA h'
    | none=>none) else bif Nat.beq u.cells.length n then guardB (singles u.cells) (need p fun q=>match h.store q u.cells with
    | some h'=>k undefA h'
    | none=>none) else none
   | none=>none
  | _=>none
 | .typeAssert x _ t' ok=>o1 fr x fun v=>bindV t (assertA E v t' ok) fun y=>k (t.to y) h
 | .convert s d x=>bif !(memL s IntT.l&&memL d IntT.l)&&(memL s IntT.b&&memL d IntT.s) then o1 fr x fun v=>bindV t (convS E s d v h) fun y=>k (t.to y) h
  else bindT t (opA E fr (.convert s d x) h) fun y h'=>k (t.to y) h'
 | o=>bindT t (opA E fr o h) fun y h'=>k (t.to y) h'
def oneK {β:Type} (E:Env) (C:CallK) (fr:Fr) (o:Op) (t:Ty) (h:Heap) (k:AV→Heap→Option β):Option β:=
 match o with
 | .call c=>match c.callee with
  | .builtin b=>match opnds fr c.args.toList with
   | some args=>bindT t (builtinA E b c.argTypes.toList args h) fun y h'=>k (t.to y) h'
   | none=>none
  | _=>match tgtA E fr c h with
   | some (.fn f args)=>C f args h k
   | _=>none
 | o=>opK E fr o t h k
def dstTy (E:Env) (o:Oper):Ty:=match o.dst with
 | some _=>tyOf E o.type
 | none=>.val (.one .any)
def guardSlot (ops:List Oper) (j:Nat):Option Nat:=
 match ops[j]? with
 | some o=>o.dst
 | none=>none
def evOpsK {β:Type} (E:Env) (C:CallK) (nt:Nat) (ops:List Oper):List Oper→Fr→Heap→(Fr→Heap→Option β)→Option β
 | [],fr,h,k=>k fr h
 | o::r,fr,h,k=>match o.guard with
  | none=>oneK E C fr o.op (dstTy E o) h fun v h'=>evOpsK E C nt ops r (putD nt fr o.dst v) h' k
  | some (j,want)=>match guardSlot ops j with
   | some d=>match fr.get d with
    | some (.bool b)=>bif b then
      (bif want then oneK E C (fr.set d (.bool true)) o.op (dstTy E o) h fun v h'=>evOpsK E C nt ops r (putD nt (fr.set d (.bool true)) o.dst v) h' k
       else evOpsK E C nt ops r (putD nt (fr.set d (.bool true)) o.dst undefA) h k) else
      (bif want then evOpsK E C nt ops r (putD nt (fr.set d (.bool false)) o.dst undefA) h k
       else oneK E C (fr.set d (.bool false)) o.op (dstTy E o) h fun v h'=>evOpsK E C nt ops r (putD nt (fr.set d (.bool false)) o.dst v) h' k)
    | some (.tuple [])=>evOpsK E C nt ops r (putD nt fr o.dst undefA) h k
    | _=>none
   | none=>none
def sameO:Option AV→AV→Bool
 | some u,v=>eqV u v
 | none,_=>false
def needB {α:Type} (p:Option α) (K:α→Bool):Bool:=
 match p with
 | some a=>K a
 | none=>false
def chk1 (E:Env) (fr:Fr) (o:Op) (v:AV) (H:Heap):Bool:=
 match o with
 | .load t a=>match opnd fr a with
  | some (.ptr p)=>match E.isAgg t with
   | some true=>match E.size t with
    | some n=>needB p fun q=>sameO (H.cells q n) v
    | none=>false
   | some false=>needB p fun q=>sameO (H.cell q) v
   | none=>false
  | _=>false
 | .slice _ x _ _ none=>match opnd fr x with
  | some (.slice ..)=>true
  | some (.str _)=>true
  | _=>false
 | .call c=>match c.callee,opnds fr c.args.toList with
  | .builtin .len,some [.slice ..]=>true
  | .builtin .len,some [.str _]=>true
  | _,_=>false
 | .convert s d x=>match opnd fr x with
  | some v'=>bif !(memL s IntT.l&&memL d IntT.l)&&(memL s IntT.b&&memL d IntT.s) then sameO (convS E s d v' H) v else false
  | none=>false
 | _=>false
def chkHs (E:Env) (wn:Nat→Nat→Bool) (i:Nat) (fr:Fr) (o:Op) (v:AV) (z:Bool):List (Nat×Heap)→Bool
 | []=>z
 | (k,H)::r=>bif wn i k then (bif chk1 E fr o v H then chkHs E wn i fr o v z r else false) else chkHs E wn i fr o v z r
def chkAll (E:Env) (wn:Nat→Nat→Bool) (hs:List (Nat×Heap)):List (Nat×Fr×Op×AV)→Bool
 | []=>true
 | (i,fr,o,v)::r=>chkHs E wn i fr o v (chkAll E wn hs r) hs
def recR (i:Nat) (o:Oper) (fr:Fr) (v:AV) (rs:List (Nat×Fr×Op×AV)):List (Nat×Fr×Op×AV):=bif Nat.beq (kindA o.op) 1 then (i,fr,o.op,v)::rs else rs
def stgR (i:Nat) (o:Oper) (h:Heap) (hs:List (Nat×Heap)):List (Nat×Heap):=bif Nat.beq (kindA o.op) 2 then (i,h)::hs else hs
def evOpsR {β:Type} (E:Env) (C:CallK) (nt:Nat) (ops:List Oper) (wn:Nat→Nat→Bool):Nat→List Oper→Fr→Heap→List (Nat×Fr×Op×AV)→List (Nat×Heap)→(Fr→Heap→Option β)→Option β
 | i,[],fr,h,rs,hs,k=>guardB (chkAll E wn ((i,h)::hs) rs) (k fr h)
 | i,o::r,fr,h,rs,hs,k=>match o.guard with
  | none=>oneK E C fr o.op (dstTy E o) h fun v h'=>evOpsR E C nt ops wn (i+1) r (putD nt fr o.dst v) h' (recR i o fr v rs) (stgR i o h hs) k
  | some (j,want)=>match guardSlot ops j with
   | some d=>match fr.get d with
    | some (.bool b)=>bif b then
      (bif want then oneK E C (fr.set d (.bool true)) o.op (dstTy E o) h fun v h'=>evOpsR E C nt ops wn (i+1) r (putD nt (fr.set d (.bool true)) o.dst v) h' (recR i o (fr.set d (.bool true)) v rs) (stgR i o h hs) k
       else evOpsR E C nt ops wn (i+1) r (putD nt (fr.set d (.bool true)) o.dst undefA) h rs (stgR i o h hs) k) else
      (bif want then evOpsR E C nt ops wn (i+1) r (putD nt (fr.set d (.bool false)) o.dst undefA) h rs (stgR i o h hs) k
       else oneK E C (fr.set d (.bool false)) o.op (dstTy E o) h fun v h'=>evOpsR E C nt ops wn (i+1) r (putD nt (fr.set d (.bool false)) o.dst v) h' (recR i o (fr.set d (.bool false)) v rs) (stgR i o h hs) k)
    | some (.tuple [])=>evOpsR E C nt ops wn (i+1) r (putD nt fr o.dst undefA) h rs (stgR i o h hs) k
    | _=>none
   | none=>none
def evOpsX {β:Type} (E:Env) (C:CallK) (nt:Nat) (ops:List Oper):Nat→List Oper→Fr→Heap→List (Nat×Fr×Op×AV)→List (Nat×Heap)→List (Nat×Heap×Heap)→(Fr→Heap→Option β)→Option β
 | i,[],fr,h,rs,hs,L,k=>guardB (chkAll E (fun _ _=>true) ((i,h)::hs) rs) (guardB (sameL ops (predsGo ops []) L) (k fr h))
 | i,o::r,fr,h,rs,hs,L,k=>match o.guard with
  | none=>oneK E C fr o.op (dstTy E o) h fun v h'=>evOpsX E C nt ops (i+1) r (putD nt fr o.dst v) h' (recR i o fr v rs) (stgB i o h hs) (stgX i o h h' L) k
  | some _=>none
inductive Ann where
 | n
 | two (a b:Ann)
 | join (live:List (Nat×VTy)) (a:Ann)
 | joinO (outs:List (Out×List (Nat×VTy))) (a:Ann)
 | loop (inn:List (Nat×VTy)) (outs:List Out) (out:List (Nat×VTy)) (a:Ann)
def getL {β:Type}:(l:List (Nat×VTy))→Fr→(vdens (l.map (·.2))→Option β)→Option β
 | [],_,K=>K ()
 | (i,t)::r,fr,K=>match fr.get i with
  | some v=>t.cast v fun x=>getL r fr fun xs=>K (x,xs)
  | none=>none
def frL:(l:List (Nat×VTy))→vdens (l.map (·.2))→Fr
 | [],_=>.nil
 | (i,t)::r,x=>(frL r x.2).set i (t.to x.1)
def bind3 {α β:Type} (x:Option (Out×α×Heap)) (k:Out→α→Heap→Option β):Option β:=
 match x with
 | some (o,v,h)=>k o v h
 | none=>none
def eqOut:Out→Out→Bool
 | .norm,.norm=>true
 | .exit i,.exit j=>Nat.beq i j
 | .ret,.ret=>true
 | _,_=>false
def inOuts:List Out→Out→Bool
 | [],_=>false
 | x::r,o=>bif eqOut o x then true else inOuts r o
def disp {β:Type}:List Out→Out→(Out→Option β)→Option β
 | [],_,_=>none
 | [x],_,K=>K x
 | x::y::r,o,K=>bif eqOut o x then K x else disp (y::r) o K
@[reducible] def jden:List (Out×List (Nat×VTy))→Type
 | []=>Empty
 | p::r=>Sum (vdens (p.2.map (·.2))×Heap) (jden r)
def jget {β:Type}:(os:List (Out×List (Nat×VTy)))→Out→Fr→Heap→(jden os→Option β)→Option β
 | [],_,_,_,_=>none
 | p::r,o,fr,h,K=>bif eqOut o p.1 then getL p.2 fr fun xs=>K (.inl (xs,h)) else jget r o fr h fun j=>K (.inr j)
def jcase {A B β:Type} (j:Sum (A×Heap) B) (f:A→Heap→β) (g:B→β):β:=
 match j with
 | .inl p=>f p.1 p.2
 | .inr b=>g b
def jdisp {β:Type}:(os:List (Out×List (Nat×VTy)))→jden os→(Out→Fr→Heap→Option β)→Option β
 | [],_,_=>none
 | p::r,j,K=>jcase j (fun xs h=>K p.1 (frL p.2 xs) h) fun j=>jdisp r j K
def iter {σ ρ:Type} (body:(σ→Heap→Option ρ)→σ→Heap→Option ρ) (N:Nat):σ→Heap→Option ρ:=
 Nat.rec (fun _ _=>none) (fun _ go=>body go) N
def evC0 {β:Type} (E:Env) (C:CallK) (nt:Nat):Code→Fr→Heap→(Out→Fr→Heap→Option β)→Option β
 | .skip,fr,h,k=>k .norm fr h
 | .region _ ops draw,fr,h,k=>bif draw&&!orderS ops.toList then (bif orderB ops.toList then evOpsR E C nt ops.toList (winB ops.toList (predsGo ops.toList [])) 0 ops.toList fr h [] [] fun fr' h'=>k .norm fr' h' else bif orderF ops.toList then evOpsX E C nt (permO (frontR ops.toList) ops.toList) 0 (permO (frontR ops.toList) ops.toList) fr h [] [] [] fun fr' h'=>k .norm fr' h' else bif orderP ops.toList then evOpsR E C nt ops.toList (fun _ _=>true) 0 ops.toList fr h [] [] fun fr' h'=>k .norm fr' h' else bif orderR ops.toList then evOpsR E C nt ops.toList (fun _ _=>true) 0 ops.toList fr h [] [] fun fr' h'=>k .norm fr' h' else none) else evOpsK E C nt ops.toList ops.toList fr h fun fr' h'=>k .norm fr' h'
 | .seq a b,fr,h,k=>evC0 E C nt a fr h fun o fr' h'=>match o with
  | .norm=>evC0 E C nt b fr' h' k
  | o=>k o fr' h'
 | .cond c x y,fr,h,k=>match opnd fr c with
  | some (.bool b)=>bif b then evC0 E C nt x fr h k else evC0 E C nt y fr h k
  | _=>none
 | .block id c,fr,h,k=>evC0 E C nt c fr h fun o fr' h'=>match o with
  | .exit id'=>bif Nat.beq id' id then k .norm fr' h' else k (.exit id') fr' h'
  | o=>k o fr' h'
 | .exit id,fr,h,k=>k (.exit id) fr h
 | .ret,fr,h,k=>k .ret fr h
 | .scope c,fr,h,k=>evC0 E C nt c fr h k
 | .label _,fr,h,k=>k .norm fr h
 | _,_,_,_=>none
def evCK (E:Env) (C:CallK) (N nt:Nat):Ann→Code→{β:Type}→Fr→Heap→(Out→Fr→Heap→Option β)→Option β
 | .n,c,_,fr,h,k=>evC0 E C nt c fr h k
 | .two x y,c,_,fr,h,k=>match c with
  | .seq a b=>evCK E C N nt x a fr h fun o fr' h'=>match o with
   | .norm=>evCK E C N nt y b fr' h' k
   | o=>k o fr' h'
  | .cond c a b=>match opnd fr c with
   | some (.bool t)=>bif t then evCK E C N nt x a fr h k else evCK E C N nt y b fr h k
   | _=>none
  | .block id c=>evCK E C N nt x c fr h fun o fr' h'=>match o with
   | .exit id'=>bif Nat.beq id' id then k .norm fr' h' else k (.exit id') fr' h'
   | o=>k o fr' h'
  | .scope c=>evCK E C N nt x c fr h k
  | _=>none
 | .join live x,c,_,fr,h,k=>bind2 (evCK E C N nt x c fr h fun o fr' h'=>match o with
   | .norm=>getL live fr' fun us=>some (us,h')
   | _=>none) fun us h'=>k .norm (frL live us) h'
 | .joinO os x,c,_,fr,h,k=>need (evCK E C N nt x c fr h fun o fr' h'=>jget os o fr' h' some) fun j=>jdisp os j k
 | .loop li outs lo x,c,_,fr,h,k=>match c with
  | .loop b=>getL li fr fun vs=>bind3 (iter (fun go vs h=>evCK E C N nt x b (frL li vs) h fun o fr' h'=>match o with
    | .norm=>getL li fr' fun ws=>go ws h'
    | o=>bif inOuts outs o then getL lo fr' fun us=>some (o,us,h') else none) N vs h) fun o us h'=>disp outs o fun o=>k o (frL lo us) h'
  | _=>none
def resK {β:Type} (E:Env) (fr:Fr) (h:Heap):List (ResultVar×VTy)→(List AV→Option β)→Option β
 | [],K=>K []
 | (.tmp t,_)::r,K=>match fr.get t with
  | some v=>resK E fr h r fun l=>K (v::l)
  | none=>none
 | (.cell a t,c)::r,K=>match fr.get a with
  | some (.ptr p)=>match E.isAgg t with
   | some true=>match E.size t with
    | some n=>need p fun q=>bindV (.val c) (h.cells q n) fun y=>resK E fr h r fun l=>K (c.to y::l)
    | none=>none
   | some false=>need p fun q=>bindV (.val c) (h.cell q) fun y=>resK E fr h r fun l=>K (c.to y::l)
   | none=>none
  | _=>none
def tupA:List AV→AV
 | [v]=>v
 | vs=>.tuple vs
def runK (E:Env) (C:CallK) (N:Nat) (x:Ann) (fn:Func) (c:Code) (t:Ty) (args:List AV) (h:Heap):Option (t.den×Heap):=
 bif Nat.ble args.length fn.ntmps then evCK E C N fn.ntmps x c (initFr 0 args .nil) h fun o fr h'=>match o with
  | .exit _=>none
  | _=>resK E fr h' (fn.results.toList.zip (fn.resultTypes.toList.map (vtyOf E))) fun vs=>t.cast (tupA vs) fun r=>some (r,h')
 else none
end Ai
namespace Ai
variable [IntT]
section
variable {β:Type}
theorem CTy.cast_spec:∀ {c:CTy} {v:AV} {K:c.den→Option β} {b:β},c.cast v K=some b→∃ x,c.to x=v∧K x=some b
 | .bool,v,K,b,h=>by cases v <;> simp [CTy.cast] at h;exact ⟨_,rfl,h⟩
 | .int k,v,K,b,h=>by
  cases v <;> simp only [CTy.cast,reduceCtorEq] at h
  rename_i k' n
  cases hk:eqKind k' k with
  | false=>simp [hk] at h
  | true=>
   simp only [hk,cond_true] at h
   have:k'=k:=by simpa [eqKind] using hk
   subst this
   exact ⟨n,rfl,h⟩
 | .str,v,K,b,h=>by cases v <;> simp [CTy.cast] at h;exact ⟨_,rfl,h⟩
 | .ptr,v,K,b,h=>by cases v <;> simp [CTy.cast] at h;exact ⟨_,rfl,h⟩
 | .slice,v,K,b,h=>by cases v <;> simp [CTy.cast] at h;exact ⟨⟨_,_,_,_⟩,rfl,h⟩
 | .any,v,K,b,h=>⟨v,rfl,h⟩
theorem CTy.casts_spec:∀ {l:List CTy} {vs:List AV} {K:dens l→Option β} {b:β},CTy.casts l vs K=some b→∃ x,CTy.tos l x=vs∧K x=some b
 | [],vs,K,b,h=>by cases vs <;> simp [CTy.casts] at h;exact ⟨(),rfl,h⟩
 | c::r,vs,K,b,h=>by
  cases vs with
  | nil=>simp [CTy.casts] at h
  | cons v vs=>
   simp only [CTy.casts] at h
   obtain ⟨x,rfl,h1⟩:=CTy.cast_spec h
   obtain ⟨xs,rfl,h2⟩:=CTy.casts_spec h1
   exact ⟨(x,xs),rfl,h2⟩
theorem VTy.cast_spec:∀ {c:VTy} {v:AV} {K:c.den→Option β} {b:β},c.cast v K=some b→∃ x,c.to x=v∧K x=some b
 | .one c,v,K,b,h=>CTy.cast_spec h
 | .agg l,v,K,b,h=>by
  cases v <;> simp only [VTy.cast,reduceCtorEq] at h
  obtain ⟨x,rfl,h1⟩:=CTy.casts_spec h
  exact ⟨x,rfl,h1⟩
 | .clo g l,v,K,b,h=>by
  simp only [VTy.cast] at h
  split at h
  ·rename_i g' cs
   cases hg:Nat.beq g' g with
   | false=>simp [hg] at h
   | true=>
    simp only [hg,cond_true] at h
    obtain ⟨x,rfl,h1⟩:=CTy.casts_spec h
    have:=Nat.eq_of_beq_eq_true hg
    subst this
    exact ⟨x,rfl,h1⟩
  ·cases h
theorem VTy.casts_spec:∀ {l:List VTy} {vs:List AV} {K:vdens l→Option β} {b:β},VTy.casts l vs K=some b→∃ x,VTy.tos l x=vs∧K x=some b
 | [],vs,K,b,h=>by cases vs <;> simp [VTy.casts] at h;exact ⟨(),rfl,h⟩
 | c::r,vs,K,b,h=>by
  cases vs with
  | nil=>simp [VTy.casts] at h
  | cons v vs=>
   simp only [VTy.casts] at h
   obtain ⟨x,rfl,h1⟩:=VTy.cast_spec h
   obtain ⟨xs,rfl,h2⟩:=VTy.casts_spec h1
   exact ⟨(x,xs),rfl,h2⟩
theorem Ty.cast_spec:∀ {c:Ty} {v:AV} {K:c.den→Option β} {b:β},c.cast v K=some b→∃ x,c.to x=v∧K x=some b
 | .val c,v,K,b,h=>VTy.cast_spec h
 | .tup l,v,K,b,h=>by
  cases v <;> simp only [Ty.cast,reduceCtorEq] at h
  obtain ⟨x,rfl,h1⟩:=VTy.casts_spec h
  exact ⟨x,rfl,h1⟩
theorem getL_spec:∀ {l:List (Nat×VTy)} {fr:Fr} {K:vdens (l.map (·.2))→Option β} {b:β},getL l fr K=some b→∃ xs,(∀ i v,(frL l xs).get i=some v→fr.get i=some v)∧K xs=some b
 | [],fr,K,b,h=>⟨(),fun i v hv=>by simp [frL,Tr.get_nil] at hv,h⟩
 | (i,t)::r,fr,K,b,h=>by
  simp only [getL] at h
  cases hg:fr.get i with
  | none=>simp [hg] at h
  | some v=>
   simp only [hg] at h
   obtain ⟨x,rfl,h0⟩:=VTy.cast_spec h
   obtain ⟨xs,h1,h2⟩:=getL_spec h0
   refine ⟨(x,xs),fun j u hu=>?_,h2⟩
   simp only [frL] at hu
   rcases Tr.get_set hu with ⟨rfl,rfl⟩ | ⟨_,h3⟩
   ·exact hg
   ·exact h1 j u h3
theorem bindV_spec {t:Ty} {x:Option AV} {K:t.den→Option β} {b:β} (h:bindV t x K=some b):∃ y,x=some (t.to y)∧K y=some b:=by
 unfold bindV at h
 split at h
 ·obtain ⟨y,rfl,h1⟩:=Ty.cast_spec h;exact ⟨y,rfl,h1⟩
 ·cases h
theorem bindT_spec {t:Ty} {x:Option (AV×Heap)} {K:t.den→Heap→Option β} {b:β} (h:bindT t x K=some b):∃ y h',x=some (t.to y,h')∧K y h'=some b:=by
 unfold bindT at h
 split at h
 ·rename_i v h'
  obtain ⟨y,rfl,h1⟩:=Ty.cast_spec h;exact ⟨y,h',rfl,h1⟩
 ·cases h
theorem bind2_spec {α:Type} {x:Option (α×Heap)} {K:α→Heap→Option β} {b:β} (h:bind2 x K=some b):∃ y h',x=some (y,h')∧K y h'=some b:=by
 unfold bind2 at h
 split at h
 ·exact ⟨_,_,rfl,h⟩
 ·cases h
theorem bind3_spec {α:Type} {x:Option (Out×α×Heap)} {K:Out→α→Heap→Option β} {b:β} (h:bind3 x K=some b):∃ o y h',x=some (o,y,h')∧K o y h'=some b:=by
 unfold bind3 at h
 split at h
 ·exact ⟨_,_,_,rfl,h⟩
 ·cases h
theorem o1_spec {fr:Fr} {x:Operand} {f:AV→Option β} {b:β} (h:o1 fr x f=some b):∃ v,opnd fr x=some v∧f v=some b:=by
 unfold o1 at h
 split at h
 ·exact ⟨_,by assumption,h⟩
 ·cases h
theorem eqOut_eq {a b:Out} (h:eqOut a b=true):a=b:=by
 cases a <;> cases b <;> simp_all [eqOut]
theorem inOuts_mem:∀ {l:List Out} {o:Out},inOuts l o=true→o∈l
 | [],o,h=>by cases h
 | x::r,o,h=>by
  simp only [inOuts] at h
  cases he:eqOut o x with
  | true=>rw [eqOut_eq he];exact List.mem_cons_self
  | false=>simp only [he,cond_false] at h;exact List.mem_cons_of_mem _ (inOuts_mem h)
theorem disp_spec:∀ {l:List Out} {o:Out} {K:Out→Option β} {b:β},o∈l→disp l o K=some b→K o=some b
 | [x],o,K,b,hm,h=>by simp at hm;subst hm;exact h
 | x::y::r,o,K,b,hm,h=>by
  simp only [disp] at h
  cases he:eqOut o x with
  | true=>simp only [he,cond_true] at h;rw [eqOut_eq he];exact h
  | false=>
   simp only [he,cond_false] at h
   rcases List.mem_cons.1 hm with rfl | hm'
   ·cases o <;> simp [eqOut] at he
   ·exact disp_spec hm' h
variable {E:Env} {P:Program}
theorem need_spec {α:Type} {p:Option α} {K:α→Option β} {b:β} (h:need p K=some b):∃ a,p=some a∧K a=some b:=by
 unfold need at h
 split at h
 ·exact ⟨_,rfl,h⟩
 ·cases h
theorem guardB_spec {g:Bool} {k:Option β} {b:β} (h:guardB g k=some b):g=true∧k=some b:=by
 cases g with
 | true=>exact ⟨rfl,h⟩
 | false=>cases h
theorem singles_all:∀ {l:List AV},singles l=true→l.all AV.single=true
 | [],_=>rfl
 | v::r,h=>by
  simp only [singles] at h
  cases hv:AV.single v with
  | true=>simp only [hv,cond_true] at h;simp [hv,singles_all h]
  | false=>simp [hv] at h
theorem cell_read {h:Heap} {q:Nat×Nat} {v:AV} (hx:h.cell q=some v):h.read q.1 q.2 1=some [v]:=by
 unfold Heap.cell at hx
 unfold Heap.read
 split at hx
 ·rename_i cs hr
  rw [hr]
  split at hx
  ·rename_i u r hd
   simp only [Option.some.injEq] at hx
   subst hx
   simp only [hd,takeN]
  ·cases hx
 ·cases hx
theorem cells_read {h:Heap} {q:Nat×Nat} {n:Nat} {v:AV} (hx:h.cells q n=some v):∃ l,h.read q.1 q.2 n=some l∧v=.agg l:=by
 unfold Heap.cells at hx
 split at hx
 ·rename_i l hl;simp only [Option.some.injEq] at hx;exact ⟨l,hl,hx.symm⟩
 ·cases hx
theorem ixK_spec {a:Option (Nat×Nat)} {len:Nat} {i:Int} {n:Nat} {K:Nat×Nat→Option β} {b:β} (h:ixK a len i n K=some b) :
  ∃ j q,i=.ofNat j∧Nat.blt j len=true∧a=some q∧K (q.1,q.2+j * n)=some b:=by
 unfold ixK at h
 split at h
 ·rename_i j
  cases hb:Nat.blt j len with
  | true=>
   simp only [hb,cond_true] at h
   obtain ⟨q,h1,h2⟩:=need_spec h
   exact ⟨j,q,rfl,hb,h1,h2⟩
  | false=>simp [hb] at h
 ·cases h
theorem strK_spec {s:List UInt8} {i:Int} {K:Int→Option β} {b:β} (h:strK s i K=some b):∃ j c,i=.ofNat j∧s[j]? = some c∧K c.toNat=some b:=by
 unfold strK at h
 split at h
 ·rename_i j
  split at h
  ·rename_i c hc;exact ⟨j,c,rfl,hc,h⟩
  ·cases h
 ·cases h
theorem store_spec {h h':Heap} {q:Nat×Nat} {t:TypeId} {u:AV} {n:Nat} (hn:E.size t=some n) (hl:Nat.beq u.cells.length n=true) (hs:singles u.cells=true) (hx:h.store q u.cells=some h'):storeA E h t (.ptr (some q)) u=some h':=by
 obtain ⟨A,off⟩:=q
 unfold Heap.store at hx
 have hl':u.cells.length=n:=Nat.eq_of_beq_eq_true hl
 have hs':=singles_all hs
 unfold storeA
 simp only [hn,hl',hs',decide_true,Bool.and_self,if_true]
 exact hx
theorem ptr_nil {t:TypeId} {x y:Operand} {p:Option (Nat×Nat)} (ht:ptrT E t=true):binA E .eql t x y (.ptr p) (.ptr none)=some (.bool p.isNone)∧binA E .neq t x y (.ptr p) (.ptr none)=some (.bool (!p.isNone)):=by
 have hc:cmpA E t x y (.ptr p) (.ptr none)=some p.isNone:=by
  unfold ptrT at ht
  split at ht
  ·rename_i e he
   split at ht
   ·rename_i k hk
    simp only [cmpA,pairA,cond_true,eqA,he,hk]
    cases p <;> rfl
   ·cases ht
  ·cases ht
 constructor
 ·simp only [binA,eqlA,hc]
 ·simp only [binA,eqlA,hc]
theorem opK_spec {fr:Fr} {o:Op} {t:Ty} {h:Heap} {k:AV→Heap→Option β} {b:β} (hx:opK E fr o t h k=some b):∃ v h',opA E fr o h=some (v,h')∧k v h'=some b:=by
 unfold opK at hx
 split at hx
 ·obtain ⟨v,h1,h2⟩:=o1_spec hx;exact ⟨v,h,by simp [opA,h1,sameA],h2⟩
 ·obtain ⟨v,h1,h2⟩:=o1_spec hx;exact ⟨v,h,by simp [opA,h1,sameA],h2⟩
 ·
  rename_i t' a
  obtain ⟨v,h1,h2⟩:=o1_spec hx
  split at h2
  ·rename_i p
   split at h2
   ·rename_i hagg
    split at h2
    ·rename_i n hn
     obtain ⟨q,rfl,h3⟩:=need_spec h2
     obtain ⟨y,h4,h5⟩:=bindV_spec h3
     obtain ⟨l,h6,h7⟩:=cells_read h4
     exact ⟨_,h,by simp [opA,op1,h1,loadA,hagg,hn,h6,h7,sameA],h5⟩
    ·cases h2
   ·rename_i hagg
    obtain ⟨q,rfl,h3⟩:=need_spec h2
    obtain ⟨y,h4,h5⟩:=bindV_spec h3
    exact ⟨_,h,by simp [opA,op1,h1,loadA,hagg,cell_read h4,sameA],h5⟩
   ·cases h2
  ·cases h2
 ·
  obtain ⟨v,h1,h2⟩:=o1_spec hx
  split at h2
  ·obtain ⟨q,rfl,h3⟩:=need_spec h2
   exact ⟨_,h,by simp [opA,op1,h1,nilCheckA,sameA],h3⟩
  ·obtain ⟨y,h3,h4⟩:=bindV_spec h2;exact ⟨_,h,by simp [opA,op1,h1,h3,sameA],h4⟩
 ·
  rename_i op t' x y _
  obtain ⟨v,h1,h2⟩:=o1_spec hx
  cases hn:(isNilO y&&ptrT E t') with
  | true=>
   simp only [hn,cond_true] at h2
   simp only [Bool.and_eq_true] at hn
   have hy:opnd fr y=some (.ptr none):=by
    have hn1:=hn.1
    unfold isNilO at hn1
    split at hn1
    ·rfl
    ·cases hn1
   split at h2
   ·split at h2
    ·exact ⟨_,h,by simp [opA,op2,h1,hy,(ptr_nil hn.2).1,sameA],h2⟩
    ·exact ⟨_,h,by simp [opA,op2,h1,hy,(ptr_nil hn.2).2,sameA],h2⟩
    ·cases h2
   ·cases h2
  | false=>
   simp only [hn,cond_false] at h2
   obtain ⟨u,h3,h4⟩:=o1_spec h2;obtain ⟨y,h5,h6⟩:=bindV_spec h4;exact ⟨_,h,by simp [opA,op2,h1,h3,h5,sameA],h6⟩
 ·obtain ⟨v,h1,h2⟩:=o1_spec hx;obtain ⟨y,h3,h4⟩:=bindV_spec h2;exact ⟨_,h,by simp [opA,op1,h1,h3,sameA],h4⟩
 ·
  rename_i s x f
  obtain ⟨v,h1,h2⟩:=o1_spec hx
  split at h2
  ·split at h2
   ·rename_i off hoff
    obtain ⟨q,rfl,h3⟩:=need_spec h2
    refine ⟨_,h,?_,h3⟩
    unfold fieldOff at hoff
    split at hoff
    ·rename_i fd hfd
     split at hoff
     ·rename_i m hm
      simp only [Option.some.injEq] at hoff
      subst hoff
      simp [opA,op1,h1,fieldAddrA,hfd,hm,sameA]
     ·cases hoff
    ·cases hoff
   ·cases h2
  ·cases h2
 ·obtain ⟨v,h1,h2⟩:=o1_spec hx;obtain ⟨y,h3,h4⟩:=bindV_spec h2;exact ⟨_,h,by simp [opA,op1,h1,h3,sameA],h4⟩
 ·
  rename_i s x ix
  obtain ⟨v,h1,h2⟩:=o1_spec hx;obtain ⟨u,h3,h4⟩:=o1_spec h2
  split at h4
  ·split at h4
   ·rename_i n hel
    split at h4
    ·obtain ⟨j,q,rfl,hb,rfl,h5⟩:=ixK_spec h4
     refine ⟨_,h,?_,h5⟩
     unfold elemOf at hel
     split at hel
     ·rename_i e he
      split at hel
      ·rename_i m hm
       simp only [Option.some.injEq,Prod.mk.injEq,true_and] at hel
       subst hel
       simp [opA,op2,h1,h3,indexAddrA,natOf,he,hm,hb,sameA]
      ·cases hel
     ·rename_i len e he
      split at hel <;> simp at hel
     ·cases hel
    ·cases h4
   ·rename_i len n hel
    split at h4
    ·obtain ⟨j,q,rfl,hb,rfl,h5⟩:=ixK_spec h4
     refine ⟨_,h,?_,h5⟩
     unfold elemOf at hel
     split at hel
     ·rename_i e he
      split at hel <;> simp at hel
     ·rename_i len' e he
      split at hel
      ·rename_i m hm
       simp only [Option.some.injEq,Prod.mk.injEq] at hel
       obtain ⟨rfl,rfl⟩:=hel
       simp [opA,op2,h1,h3,indexAddrA,natOf,he,hm,hb,sameA]
      ·cases hel
     ·cases hel
    ·cases h4
   ·cases h4
  ·cases h4
 ·
  rename_i s x ix
  obtain ⟨v,h1,h2⟩:=o1_spec hx;obtain ⟨u,h3,h4⟩:=o1_spec h2
  cases hs:isStr E s with
  | true=>
   simp only [hs,cond_true] at h4
   split at h4
   ·obtain ⟨j,c,rfl,hc,h5⟩:=strK_spec h4
    refine ⟨_,h,?_,h5⟩
    unfold isStr at hs
    split at hs
    ·rename_i he
     simp [opA,op2,h1,h3,indexA,natOf,he,hc,sameA]
    ·cases hs
   ·cases h4
  | false=>
   simp only [hs,cond_false] at h4
   obtain ⟨y,h5,h6⟩:=bindV_spec h4;exact ⟨_,h,by simp [opA,op2,h1,h3,h5,sameA],h6⟩
 ·split at hx
  ·rename_i lo hi hlo hhi
   obtain ⟨v,h1,h2⟩:=o1_spec hx;obtain ⟨y,h3,h4⟩:=bindV_spec h2;exact ⟨_,h,by simp [opA,op1,hlo,hhi,h1,h3,sameA],h4⟩
  ·cases hx
 ·
  obtain ⟨v,h1,h2⟩:=o1_spec hx;obtain ⟨u,h3,h4⟩:=o1_spec h2
  split at h4
  ·split at h4
   ·rename_i n hn
    cases hn1:Nat.beq n 1 with
    | true=>
     simp only [hn1,cond_true] at h4
     obtain ⟨hs,h5⟩:=guardB_spec h4
     have hu:u.cells=[u]:=by cases u <;> simp [AV.single] at hs <;> rfl
     have hl:Nat.beq u.cells.length n=true:=by rw [hu,Nat.eq_of_beq_eq_true hn1];rfl
     have hs':singles u.cells=true:=by rw [hu];simp [singles,hs]
     obtain ⟨q,rfl,h6⟩:=need_spec h5
     split at h6
     ·rename_i h' he;exact ⟨_,h',by simp [opA,op2,h1,h3,store_spec hn hl hs' (by rw [hu];exact he),unit],h6⟩
     ·cases h6
    | false=>
    simp only [hn1,cond_false] at h4
    cases hl:Nat.beq u.cells.length n with
    | true=>
     simp only [hl,cond_true] at h4
     obtain ⟨hs,h5⟩:=guardB_spec h4
     obtain ⟨q,rfl,h6⟩:=need_spec h5
     split at h6
     ·rename_i h' he;exact ⟨_,h',by simp [opA,op2,h1,h3,store_spec hn hl hs he,unit],h6⟩
     ·cases h6
    | false=>simp [hl] at h4
   ·cases h4
  ·cases h4
 ·obtain ⟨v,h1,h2⟩:=o1_spec hx;obtain ⟨y,h3,h4⟩:=bindV_spec h2;exact ⟨_,h,by simp [opA,op1,h1,h3,sameA],h4⟩
 ·rename_i s d x
  cases hb:(!(memL s IntT.l&&memL d IntT.l)&&(memL s IntT.b&&memL d IntT.s)) with
  | true=>
   simp only [hb,cond_true] at hx
   rw [Bool.and_eq_true,Bool.not_eq_true'] at hb
   obtain ⟨v,h1,h2⟩:=o1_spec hx;obtain ⟨y,h3,h4⟩:=bindV_spec h2;exact ⟨_,h,by simp [opA,op1,hb.1,hb.2,h1,h3,sameA],h4⟩
  | false=>
   simp only [hb,cond_false] at hx
   obtain ⟨y,h',h1,h2⟩:=bindT_spec hx;exact ⟨_,h',h1,h2⟩
 ·obtain ⟨y,h',h1,h2⟩:=bindT_spec hx;exact ⟨_,h',h1,h2⟩
def callOf (C:CallK):CallF:=fun f args h=>C f args h fun v h'=>some (v,h')
structure CallKOK (P:Program) (C:CallK):Prop where
 nat:∀ {β:Type} {f:FuncId} {args:List AV} {h:Heap} {k:AV→Heap→Option β} {b:β},C f args h k=some b→∃ v h',callOf C f args h=some (v,h')∧k v h'=some b
 ok:CallOK P (callOf C)
theorem oneK_spec {C:CallK} (hC:CallKOK P C) {fr:Fr} {o:Op} {t:Ty} {h:Heap} {k:AV→Heap→Option β} {b:β} (hx:oneK E C fr o t h k=some b):∃ v h',oneA E (callOf C) fr o h=some (v,h')∧k v h'=some b:=by
 unfold oneK at hx
 split at hx
 ·rename_i c
  split at hx
  ·rename_i bi hcal
   split at hx
   ·rename_i args hargs
    obtain ⟨y,h',h1,h2⟩:=bindT_spec hx
    exact ⟨_,h',by simp [oneA,tgtA,hargs,hcal,h1],h2⟩
   ·cases hx
  ·split at hx
   ·rename_i f args htg
    obtain ⟨v,h',h1,h2⟩:=hC.nat hx
    exact ⟨v,h',by simp [oneA,htg,h1],h2⟩
   ·cases hx
 ·rename_i o hne
  obtain ⟨v,h',h1,h2⟩:=opK_spec hx
  refine ⟨v,h',?_,h2⟩
  unfold oneA
  split
  ·rename_i c;exact absurd rfl (hne c)
  ·exact h1
end
end Ai
namespace Ai
variable [IntT]
def FrLe (fr big:Fr):Prop:=∀ i v,fr.get i=some v→big.get i=some v
theorem FrLe.refl (fr:Fr):FrLe fr fr:=fun _ _ h=>h
theorem FrLe.put {nt:Nat} (hnt:nt≤1073741824) {fr big:Fr} (h:FrLe fr big) (d:Option Tmp) (v:AV):FrLe (putD nt fr d v) (putD nt big d v):=by
 cases d with
 | none=>exact h
 | some t=>
  simp only [putD]
  cases hb:Nat.blt t nt with
  | false=>intro i u hu;simp [Tr.get_nil] at hu
  | true=>
   have hlt:t<nt:=by simpa [Nat.blt_eq] using hb
   intro i u hu
   simp only [cond_true] at hu ⊢
   rcases Tr.get_set hu with ⟨rfl,rfl⟩ | ⟨hne,h2⟩
   ·exact Tr.get_set_same
   ·exact Tr.get_set_other hne (h i u h2)
theorem FrLe.fix {fr big:Fr} (h:FrLe fr big) {d:Nat} {v:AV} (hg:fr.get d=some v):FrLe (fr.set d v) big:=by
 intro i u hu
 rcases Tr.get_set hu with ⟨rfl,rfl⟩ | ⟨_,h2⟩
 ·exact h _ _ hg
 ·exact h i u h2
section
variable {E:Env} {P:Program} {call:CallF} {fr big:Fr}
theorem opnd_le (h:FrLe fr big) {x:Operand} {v:AV} (hx:opnd fr x=some v):opnd big x=some v:=by
 cases x with
 | tmp t=>exact h t v hx
 | const c=>exact hx
 | global g=>exact hx
 | func f=>exact hx
theorem opnds_le (h:FrLe fr big):∀ {l:List Operand} {vs:List AV},opnds fr l=some vs→opnds big l=some vs
 | [],vs,hx=>hx
 | x::r,vs,hx=>by
  simp only [opnds] at hx ⊢
  cases h1:opnd fr x with
  | none=>simp [h1] at hx
  | some v=>
   cases h2:opnds fr r with
   | none=>simp [h1,h2] at hx
   | some l=>simp only [h1,h2] at hx;simp only [opnd_le h h1,opnds_le h h2,hx]
theorem parts_le (h:FrLe fr big):∀ {l:List (Nat×Operand)} {vs:List (Nat×AV)},partsA fr l=some vs→partsA big l=some vs
 | [],vs,hx=>hx
 | (i,x)::r,vs,hx=>by
  simp only [partsA] at hx ⊢
  cases h1:opnd fr x with
  | none=>simp [h1] at hx
  | some v=>
   cases h2:partsA fr r with
   | none=>simp [h1,h2] at hx
   | some l=>simp only [h1,h2] at hx;simp only [opnd_le h h1,parts_le h h2,hx]
theorem opt_le (h:FrLe fr big) {x:Option Operand} {v:Option AV} (hx:optA fr x=some v):optA big x=some v:=by
 cases x with
 | none=>exact hx
 | some x=>
  simp only [optA] at hx ⊢
  cases h1:opnd fr x with
  | none=>simp [h1] at hx
  | some u=>simp only [h1] at hx;simp only [opnd_le h h1,hx]
theorem op1_le (h:FrLe fr big) {x:Operand} {f g:AV→Option (AV×Heap)} {r:AV×Heap} (hfg:∀ v,f v=some r→g v=some r) (hx:op1 fr x f=some r):op1 big x g=some r:=by
 obtain ⟨v,h1,h2⟩:=op1_spec hx
 simp only [op1,opnd_le h h1,hfg v h2]
theorem op2_le (h:FrLe fr big) {x y:Operand} {f:AV→AV→Option (AV×Heap)} {r:AV×Heap} (hx:op2 fr x y f=some r):op2 big x y f=some r:=by
 obtain ⟨v,u,h1,h2,h3⟩:=op2_spec hx
 simp only [op2,opnd_le h h1,opnd_le h h2,h3]
theorem op3_le (h:FrLe fr big) {x y z:Operand} {f:AV→AV→AV→Option (AV×Heap)} {r:AV×Heap} (hx:op3 fr x y z f=some r):op3 big x y z f=some r:=by
 obtain ⟨v,u,q,h1,h2,h3,h4⟩:=op3_spec hx
 simp only [op3,opnd_le h h1,opnd_le h h2,opnd_le h h3,h4]
theorem same_le (h:FrLe fr big) {x:Operand} {hp:Heap} {r:AV×Heap} (hx:sameA hp (opnd fr x)=some r):sameA hp (opnd big x)=some r:=by
 cases h1:opnd fr x with
 | none=>simp [h1,sameA] at hx
 | some v=>rw [h1] at hx;rw [opnd_le h h1,hx]
theorem opA_le (h:FrLe fr big) {o:Op} {hp:Heap} {r:AV×Heap} (hx:opA E fr o hp=some r):opA E big o hp=some r:=by
 unfold opA at hx ⊢
 split at hx
 case h_13 s d y=>
  cases hb:(memL s IntT.l&&memL d IntT.l) <;> cases hb2:(memL s IntT.b&&memL d IntT.s) <;> simp only [hb,hb2,cond_true,cond_false] at hx ⊢ <;> exact op1_le h (fun _ hv=>hv) hx
 case h_3=>
  refine op1_le h (fun v hv=>?_) hx
  split at hv
  ·exact same_le h hv
  ·exact same_le h hv
  ·cases hv
 all_goals first
  | exact same_le h hx
  | exact op2_le h hx
  | exact op3_le h hx
  | exact op1_le h (fun _ hv=>hv) hx
  | exact hx
  | skip
 ·split at hx
  ·rename_i l hl;simp only [parts_le h hl];exact hx
  ·cases hx
 ·split at hx
  ·rename_i l hl;simp only [parts_le h hl];exact hx
  ·cases hx
 ·split at hx
  ·cases hx
  ·exact op1_le h (fun _ hv=>hv) hx
  ·cases hx
 ·split at hx
  ·rename_i l m hl hm;simp only [opnds_le h hl,opnds_le h hm];exact hx
  ·cases hx
 ·split at hx
  ·rename_i lo hi hl hm;simp only [opt_le h hl,opt_le h hm];exact op1_le h (fun _ hv=>hv) hx
  ·cases hx
end
end Ai
namespace Ai
variable [IntT]
section
variable {E:Env} {P:Program} {call:CallF} {fr big:Fr}
theorem tgtA_le (h:FrLe fr big) {c:Call} {hp:Heap} {t:Tgt} (hx:tgtA E fr c hp=some t):tgtA E big c hp=some t:=by
 unfold tgtA at hx ⊢
 cases h1:opnds fr c.args.toList with
 | none=>simp [h1] at hx
 | some args=>
  simp only [h1] at hx
  simp only [opnds_le h h1]
  split at hx
  ·exact hx
  ·rename_i recv name _
   cases h2:opnd fr recv with
   | none=>simp [h2] at hx
   | some v=>rw [h2] at hx;rw [opnd_le h h2];exact hx
  ·rename_i f _
   cases h2:opnd fr f with
   | none=>simp [h2] at hx
   | some v=>rw [h2] at hx;rw [opnd_le h h2];exact hx
theorem oneA_le (h:FrLe fr big) {o:Op} {hp:Heap} {r:AV×Heap} (hx:oneA E call fr o hp=some r):oneA E call big o hp=some r:=by
 unfold oneA at hx ⊢
 split at hx
 ·rename_i c
  cases h1:tgtA E fr c hp with
  | none=>simp [h1] at hx
  | some t=>rw [h1] at hx;simp only [tgtA_le h h1];exact hx
 ·exact opA_le h hx
theorem yielded_of {ops:List Oper} {j d:Nat} {b:Bool} (hs:guardSlot ops j=some d) (hg:fr.get d=some (.bool b)):yieldedA ops fr j=some b:=by
 unfold guardSlot at hs
 unfold yieldedA
 cases ho:ops[j]? with
 | none=>simp [ho] at hs
 | some o=>simp only [ho] at hs ⊢;simp only [hs,hg]
theorem evOpsK_trace {C:CallK} (hC:CallKOK P C) {nt:Nat} (hnt:nt≤1073741824) {ops:List Oper} {β:Type}:∀ {r:List Oper} {fr big:Fr} {h:Heap} {k:Fr→Heap→Option β} {b:β},evOpsK E C nt ops r fr h k=some b→FrLe fr big→
  ∃ recs fr' big' h',traceA E (callOf C) nt ops r big h=some (recs,big',h')∧FrLe fr' big'∧k fr' h'=some b
 | [],fr,big,h,k,b,hx,hle=>⟨[],fr,big,h,rfl,hle,hx⟩
 | o::r,fr,big,h,k,b,hx,hle=>by
  have step:∀ {fr1:Fr} {v:AV} {h1:Heap},FrLe fr1 big→stepA E (callOf C) ops big o h=some (v,h1)→evOpsK E C nt ops r (putD nt fr1 o.dst v) h1 k=some b→
    ∃ recs fr' big' h',traceA E (callOf C) nt ops (o::r) big h=some (recs,big',h')∧FrLe fr' big'∧k fr' h'=some b:=by
   intro fr1 v h1 hle1 hs he
   obtain ⟨recs,fr',big',h',e1,e2,e3⟩:=evOpsK_trace hC hnt he (hle1.put hnt o.dst v)
   exact ⟨(big,h,v)::recs,fr',big',h',by simp only [traceA,hs,e1],e2,e3⟩
  simp only [evOpsK] at hx
  cases hg:o.guard with
  | none=>
   simp only [hg] at hx
   obtain ⟨v,h1,e1,e2⟩:=oneK_spec hC hx
   refine step hle ?_ e2
   simp only [stepA,wantedA,hg];exact oneA_le hle e1
  | some p=>
   obtain ⟨j,want⟩:=p
   simp only [hg] at hx
   cases hs:guardSlot ops j with
   | none=>simp [hs] at hx
   | some d=>
    simp only [hs] at hx
    cases hv:fr.get d with
    | none=>simp [hv] at hx
    | some u=>
     cases u with
     | bool t=>
      simp only [hv] at hx
      have hy:yieldedA ops big j=some t:=yielded_of hs (hle d _ hv)
      cases t with
      | true=>
       have hfix:=hle.fix hv
       cases want with
       | true=>
        simp only [cond_true] at hx
        obtain ⟨v,h1,e1,e2⟩:=oneK_spec hC hx
        refine step hfix ?_ e2
        simp only [stepA,wantedA,hg,hy,cond_true];exact oneA_le hfix e1
       | false=>
        simp only [cond_true,cond_false] at hx
        refine step hfix ?_ hx
        simp only [stepA,wantedA,hg,hy,cond_true]
      | false=>
       have hfix:=hle.fix hv
       cases want with
       | true=>
        simp only [cond_true,cond_false] at hx
        refine step hfix ?_ hx
        simp only [stepA,wantedA,hg,hy,cond_false,Bool.not_true]
       | false=>
        simp only [cond_false] at hx
        obtain ⟨v,h1,e1,e2⟩:=oneK_spec hC hx
        refine step hfix ?_ e2
        simp only [stepA,wantedA,hg,hy,cond_false,Bool.not_false];exact oneA_le hfix e1
     | tuple l=>
      cases l with
      | nil=>
       simp only [hv] at hx
       refine step hle ?_ hx
       have hy:yieldedA ops big j=none:=by
        unfold guardSlot at hs
        unfold yieldedA
        split at hs
        ·rename_i o2 ho2;simp only [ho2,hs,hle d _ hv]
        ·cases hs
       have hu:unrunA ops big j=true:=by
        unfold guardSlot at hs
        unfold unrunA
        split at hs
        ·rename_i o2 ho2;simp only [ho2,hs,hle d _ hv]
        ·cases hs
       simp only [stepA,wantedA,hg,hy,hu,cond_true]
      | cons y r=>simp [hv] at hx
     | _=>simp [hv] at hx
@[simp] theorem sameO_some (v:AV):sameO (some v) v=true:=eqV_refl v
theorem chk1_sound {fr:Fr} {o:Op} {v:AV} {H h h':Heap} (hc:chk1 E fr o v H=true) (hx:oneA E call fr o h=some (v,h')):∃ u h2,oneA E call fr o H=some (u,h2)∧eqV u v=true:=by
 unfold chk1 at hc
 split at hc
 ·rename_i t a
  split at hc
  ·rename_i p hq
   have key:∀ {x:(Nat×Nat)→Option AV},(needB p fun q=>sameO (x q) v)=true→∃ q u,p=some q∧x q=some u∧eqV u v=true:=by
    intro x hx
    cases p with
    | none=>simp [needB] at hx
    | some q=>
     simp only [needB] at hx
     cases hxq:x q with
     | none=>simp [sameO,hxq] at hx
     | some u=>rw [hxq] at hx;exact ⟨q,u,rfl,hxq,hx⟩
   split at hc
   ·rename_i hagg
    split at hc
    ·rename_i n hn
     obtain ⟨q,u,rfl,h1,h2⟩:=key (x:=fun q=>H.cells q n) hc
     obtain ⟨l,h6,h7⟩:=cells_read h1
     exact ⟨u,H,by simp [oneA,opA,op1,hq,loadA,hagg,hn,h6,h7,sameA],h2⟩
    ·cases hc
   ·rename_i hagg
    obtain ⟨q,u,rfl,h1,h2⟩:=key (x:=fun q=>H.cell q) hc
    exact ⟨u,H,by simp [oneA,opA,op1,hq,loadA,hagg,cell_read h1,sameA],h2⟩
   ·cases hc
  ·cases hc
 ·rename_i t x lo hi
  have hr:eqV v v=true:=eqV_refl v
  have indep:∀ (y:AV),(∃ a l c s,y=.slice a l c s)∨(∃ s,y=.str s)→∀ (l u:Option AV),sliceA E H t y l u=sliceA E h t y l u:=by
   intro y hy l u
   unfold sliceA
   rcases hy with ⟨a,l',c,s,rfl⟩ | ⟨s,rfl⟩
   ·cases E.und t with
    | none=>rfl
    | some d=>cases a <;> cases d <;> rfl
   ·cases E.und t with
    | none=>rfl
    | some d=>cases d <;> rfl
  have fin:∀ y,opnd fr x=some y→((∃ a l c s,y=.slice a l c s)∨(∃ s,y=.str s))→∃ u h2,oneA E call fr (.slice t x lo hi none) H=some (u,h2)∧eqV u v=true:=by
   intro y hy hi2
   simp only [oneA,opA] at hx ⊢
   split at hx
   ·rename_i lo' hi' hl hh
    simp only [op1,hy] at hx ⊢
    rw [indep y hi2]
    cases hs:sliceA E h t y lo' hi' with
    | none=>simp [hs,sameA] at hx
    | some u=>
     simp only [hs,sameA,Option.some.injEq,Prod.mk.injEq] at hx ⊢
     obtain ⟨rfl,_⟩:=hx
     exact ⟨_,_,⟨rfl,rfl⟩,hr⟩
   ·cases hx
  split at hc
  ·rename_i hy;exact fin _ hy (.inl ⟨_,_,_,_,rfl⟩)
  ·rename_i hy;exact fin _ hy (.inr ⟨_,rfl⟩)
  ·cases hc
 ·rename_i c
  have hr:eqV v v=true:=eqV_refl v
  have fin:∀ y,c.callee=.builtin .len→opnds fr c.args.toList=some [y]→((∃ a l c s,y=.slice a l c s)∨(∃ s,y=.str s))→∃ u h2,oneA E call fr (.call c) H=some (u,h2)∧eqV u v=true:=by
   intro y hcal hy hi2
   simp only [oneA,tgtA,hcal,hy] at hx ⊢
   have hb:∀ (h:Heap),builtinA E .len c.argTypes.toList [y] h=(match c.argTypes.toList with | [t]=>sameA h (lenA E t y) | _=>none):=by
    intro h
    rcases hi2 with ⟨_,_,_,_,rfl⟩ | ⟨_,rfl⟩ <;>
    ·match c.argTypes.toList with
     | []=>rfl
     | [t]=>rfl
     | _::_::_=>rfl
   rw [hb] at hx ⊢
   match ht:c.argTypes.toList with
   | []=>simp [ht] at hx
   | [t]=>
    simp only [ht] at hx ⊢
    cases hs:lenA E t y with
    | none=>simp [hs,sameA] at hx
    | some u=>
     simp only [hs,sameA,Option.some.injEq,Prod.mk.injEq] at hx ⊢
     obtain ⟨rfl,_⟩:=hx
     exact ⟨_,_,⟨rfl,rfl⟩,hr⟩
   | _::_::_=>simp [ht] at hx
  split at hc
  ·rename_i h1 h2;exact fin _ h1 h2 (.inl ⟨_,_,_,_,rfl⟩)
  ·rename_i h1 h2;exact fin _ h1 h2 (.inr ⟨_,rfl⟩)
  ·cases hc
 ·rename_i s d x
  split at hc
  ·rename_i v' hq
   cases hb:(!(memL s IntT.l&&memL d IntT.l)&&(memL s IntT.b&&memL d IntT.s)) with
   | false=>rw [hb] at hc;cases hc
   | true=>
    rw [hb] at hc
    rw [Bool.and_eq_true,Bool.not_eq_true'] at hb
    cases hs:convS E s d v' H with
    | none=>rw [hs] at hc;cases hc
    | some u=>
     rw [hs] at hc
     exact ⟨u,H,by simp [oneA,opA,op1,hq,hb.1,hb.2,hs,sameA],hc⟩
  ·cases hc
 ·cases hc
theorem trace_ops {nt:Nat} {ops:List Oper}:∀ {r:List Oper} {fr:Fr} {h:Heap} {recs:List (Fr×Heap×AV)} {fr':Fr} {h':Heap},traceA E call nt ops r fr h=some (recs,fr',h')→evOps E call nt ops r fr h=some (fr',h')
 | [],fr,h,recs,fr',h',hx=>by
  simp only [traceA,Option.some.injEq,Prod.mk.injEq] at hx
  obtain ⟨_,rfl,rfl⟩:=hx;rfl
 | o::r,fr,h,recs,fr',h',hx=>by
  simp only [traceA] at hx
  simp only [evOps]
  cases hs:stepA E call ops fr o h with
  | none=>simp [hs] at hx
  | some p=>
   obtain ⟨v,h1⟩:=p
   simp only [hs] at hx ⊢
   cases ht:traceA E call nt ops r (putD nt fr o.dst v) h1 with
   | none=>simp [ht] at hx
   | some q=>
    obtain ⟨l,fr2,h2⟩:=q
    simp only [ht,Option.some.injEq,Prod.mk.injEq] at hx
    obtain ⟨_,rfl,rfl⟩:=hx
    exact trace_ops ht
theorem AR.le {μ:Mu} {nt:Nat} {a:Act} (h:AR μ nt big a) (hle:FrLe fr big):AR μ nt fr a:=⟨fun t v ht=>h.slot t v (hle t v ht),h.size,h.defers⟩
theorem chkHs_spec {wn:Nat→Nat→Bool} {i:Nat} {fr:Fr} {o:Op} {v:AV} {z:Bool}:∀ {hs:List (Nat×Heap)},chkHs E wn i fr o v z hs=true→(∀ k H,(k,H)∈hs→wn i k=true→chk1 E fr o v H=true)∧z=true
 | [],h=>⟨fun k H hH=>by simp at hH,h⟩
 | (k,H)::r,h=>by
  simp only [chkHs] at h
  cases hw:wn i k with
  | false=>
   simp only [hw,cond_false] at h
   obtain ⟨h1,h2⟩:=chkHs_spec h
   refine ⟨fun k' H' hH' hw'=>?_,h2⟩
   rcases List.mem_cons.1 hH' with h3 | h3
   ·cases h3;rw [hw] at hw';cases hw'
   ·exact h1 k' H' h3 hw'
  | true=>
   simp only [hw,cond_true] at h
   cases hc:chk1 E fr o v H with
   | false=>simp [hc] at h
   | true=>
    simp only [hc,cond_true] at h
    obtain ⟨h1,h2⟩:=chkHs_spec h
    refine ⟨fun k' H' hH' hw'=>?_,h2⟩
    rcases List.mem_cons.1 hH' with h3 | h3
    ·cases h3;exact hc
    ·exact h1 k' H' h3 hw'
theorem chkAll_spec {wn:Nat→Nat→Bool} {hs:List (Nat×Heap)}:∀ {rs:List (Nat×Fr×Op×AV)},chkAll E wn hs rs=true→∀ i fr o v,(i,fr,o,v)∈rs→∀ k H,(k,H)∈hs→wn i k=true→chk1 E fr o v H=true
 | [],_,i,fr,o,v,hm,_,_,_=>by simp at hm
 | (i',fr',o',v')::r,h,i,fr,o,v,hm,k,H,hH=>by
  simp only [chkAll] at h
  obtain ⟨h1,h2⟩:=chkHs_spec h
  rcases List.mem_cons.1 hm with h3 | h3
  ·cases h3;exact h1 k H hH
  ·exact chkAll_spec h2 i fr o v h3 k H hH
theorem evOpsR_trace {C:CallK} (hC:CallKOK P C) {nt:Nat} (hnt:nt≤1073741824) {ops:List Oper} {wn:Nat→Nat→Bool} {β:Type}:∀ {r:List Oper} {i:Nat} {fr big:Fr} {h:Heap} {rs:List (Nat×Fr×Op×AV)} {hs:List (Nat×Heap)} {k:Fr→Heap→Option β} {b:β},evOpsR E C nt ops wn i r fr h rs hs k=some b→FrLe fr big→
  ∃ recs fr' big' h' R HS,traceA E (callOf C) nt ops r big h=some (recs,big',h')∧FrLe fr' big'∧k fr' h'=some b∧chkAll E wn HS R=true∧(∀ x∈rs,x∈R)∧(∀ H∈hs,H∈HS)∧(i+r.length,h')∈HS∧
   (∀ (j:Nat) (o:Oper) (f:Fr) (hh:Heap) (v:AV),r[j]? = some o→recs[j]? = some (f,hh,v)→kindA o.op=2→(i+j,hh)∈HS)∧
   (∀ (j:Nat) (o:Oper) (f:Fr) (hh:Heap) (v:AV),r[j]? = some o→recs[j]? = some (f,hh,v)→kindA o.op=1→∀ k H,(k,H)∈HS→wn (i+j) k=true→∃ u h2,stepA E (callOf C) ops f o H=some (u,h2)∧eqV u v=true)
 | [],i,fr,big,h,rs,hs,k,b,hx,hle=>by
  simp only [evOpsR] at hx
  obtain ⟨h1,h2⟩:=guardB_spec hx
  exact ⟨[],fr,big,h,rs,(i,h)::hs,rfl,hle,h2,h1,fun _ h=>h,fun _ h=>List.mem_cons_of_mem _ h,List.mem_cons_self,fun j o f hh v h=>by simp at h,fun j o f hh v h=>by simp at h⟩
 | o::r,i,fr,big,h,rs,hs,k,b,hx,hle=>by
  have step:∀ {fr1:Fr} {v:AV} {h1:Heap} {rs1:List (Nat×Fr×Op×AV)},FrLe fr1 big→stepA E (callOf C) ops big o h=some (v,h1)→(∀ x∈rs,x∈rs1)→
    (∀ (R:List (Nat×Fr×Op×AV)) (HS:List (Nat×Heap)),(∀ x∈rs1,x∈R)→chkAll E wn HS R=true→kindA o.op=1→∀ k H,(k,H)∈HS→wn i k=true→∃ u h2,stepA E (callOf C) ops big o H=some (u,h2)∧eqV u v=true)→
    evOpsR E C nt ops wn (i+1) r (putD nt fr1 o.dst v) h1 rs1 (stgR i o h hs) k=some b→
    ∃ recs fr' big' h' R HS,traceA E (callOf C) nt ops (o::r) big h=some (recs,big',h')∧FrLe fr' big'∧k fr' h'=some b∧chkAll E wn HS R=true∧(∀ x∈rs,x∈R)∧(∀ H∈hs,H∈HS)∧(i+(o::r).length,h')∈HS∧
   (∀ (j:Nat) (o2:Oper) (f:Fr) (hh:Heap) (v:AV),(o::r)[j]? = some o2→recs[j]? = some (f,hh,v)→kindA o2.op=2→(i+j,hh)∈HS)∧
   (∀ (j:Nat) (o2:Oper) (f:Fr) (hh:Heap) (v:AV),(o::r)[j]? = some o2→recs[j]? = some (f,hh,v)→kindA o2.op=1→∀ k H,(k,H)∈HS→wn (i+j) k=true→∃ u h2,stepA E (callOf C) ops f o2 H=some (u,h2)∧eqV u v=true):=by
   intro fr1 v h1 rs1 hle1 hs0 hrs hchk he
   obtain ⟨recs,fr',big',h',R,HS,e1,e2,e3,e4,e5,e6,eh,e7,e8⟩:=evOpsR_trace hC hnt he (hle1.put hnt o.dst v)
   have hin:∀ H∈hs,H∈HS:=fun H hH=>e6 H (by
    unfold stgR
    cases Nat.beq (kindA o.op) 2
    ·exact hH
    ·exact List.mem_cons_of_mem _ hH)
   refine ⟨(big,h,v)::recs,fr',big',h',R,HS,by simp only [traceA,hs0,e1],e2,e3,e4,fun x hx=>e5 x (hrs x hx),hin,?_,?_,?_⟩
   ·rw [List.length_cons,show i+(r.length+1)=i+1+r.length from by omega];exact eh
   ·intro j o' f hh v' hj hrec hk
    cases j with
    | zero=>
     simp at hj hrec
     subst hj;obtain ⟨rfl,rfl,rfl⟩:=hrec
     exact e6 _ (by unfold stgR;rw [hk];exact List.mem_cons_self)
    | succ j=>
     rw [show i+(j+1)=i+1+j from by omega]
     exact e7 j o' f hh v' (by simpa using hj) (by simpa using hrec) hk
   ·intro j o' f hh v' hj hrec hk k' H hH hw
    cases j with
    | zero=>
     simp at hj hrec
     subst hj;obtain ⟨rfl,rfl,rfl⟩:=hrec
     exact hchk R HS e5 e4 hk k' H hH hw
    | succ j=>
     rw [show i+(j+1)=i+1+j from by omega] at hw
     exact e8 j o' f hh v' (by simpa using hj) (by simpa using hrec) hk k' H hH hw
  have run:∀ {fr1:Fr},FrLe fr1 big→wantedA ops big o=some true→(oneK E C fr1 o.op (dstTy E o) h fun v h'=>evOpsR E C nt ops wn (i+1) r (putD nt fr1 o.dst v) h' (recR i o fr1 v rs) (stgR i o h hs) k)=some b→
    ∃ recs fr' big' h' R HS,traceA E (callOf C) nt ops (o::r) big h=some (recs,big',h')∧FrLe fr' big'∧k fr' h'=some b∧chkAll E wn HS R=true∧(∀ x∈rs,x∈R)∧(∀ H∈hs,H∈HS)∧(i+(o::r).length,h')∈HS∧
   (∀ (j:Nat) (o2:Oper) (f:Fr) (hh:Heap) (v:AV),(o::r)[j]? = some o2→recs[j]? = some (f,hh,v)→kindA o2.op=2→(i+j,hh)∈HS)∧
   (∀ (j:Nat) (o2:Oper) (f:Fr) (hh:Heap) (v:AV),(o::r)[j]? = some o2→recs[j]? = some (f,hh,v)→kindA o2.op=1→∀ k H,(k,H)∈HS→wn (i+j) k=true→∃ u h2,stepA E (callOf C) ops f o2 H=some (u,h2)∧eqV u v=true):=by
   intro fr1 hle1 hw hx1
   obtain ⟨v,h1,e1,e2⟩:=oneK_spec hC hx1
   refine step hle1 (v:=v) (rs1:=recR i o fr1 v rs) ?_ ?_ ?_ e2
   ·simp only [stepA,hw];exact oneA_le hle1 e1
   ·intro x hx
    unfold recR
    cases Nat.beq (kindA o.op) 1
    ·exact hx
    ·exact List.mem_cons_of_mem _ hx
   ·intro R HS hR hcall hk k' H hH hwn
    have hm:(i,fr1,o.op,v)∈R:=hR _ (by unfold recR;rw [hk];exact List.mem_cons_self)
    have hc:=chkAll_spec hcall _ _ _ _ hm k' H hH hwn
    obtain ⟨u,h2,e3,e4⟩:=chk1_sound hc e1
    exact ⟨u,h2,by simp only [stepA,hw];exact oneA_le hle1 e3,e4⟩
  have skip:∀ {fr1:Fr},FrLe fr1 big→wantedA ops big o=some false→evOpsR E C nt ops wn (i+1) r (putD nt fr1 o.dst undefA) h rs (stgR i o h hs) k=some b→
    ∃ recs fr' big' h' R HS,traceA E (callOf C) nt ops (o::r) big h=some (recs,big',h')∧FrLe fr' big'∧k fr' h'=some b∧chkAll E wn HS R=true∧(∀ x∈rs,x∈R)∧(∀ H∈hs,H∈HS)∧(i+(o::r).length,h')∈HS∧
   (∀ (j:Nat) (o2:Oper) (f:Fr) (hh:Heap) (v:AV),(o::r)[j]? = some o2→recs[j]? = some (f,hh,v)→kindA o2.op=2→(i+j,hh)∈HS)∧
   (∀ (j:Nat) (o2:Oper) (f:Fr) (hh:Heap) (v:AV),(o::r)[j]? = some o2→recs[j]? = some (f,hh,v)→kindA o2.op=1→∀ k H,(k,H)∈HS→wn (i+j) k=true→∃ u h2,stepA E (callOf C) ops f o2 H=some (u,h2)∧eqV u v=true):=by
   intro fr1 hle1 hw hx1
   refine step hle1 (v:=undefA) (rs1:=rs) (by simp only [stepA,hw]) (fun _ h=>h) ?_ hx1
   intro R HS _ _ _ _ H _ _
   exact ⟨undefA,H,by simp only [stepA,hw],eqV_refl _⟩
  simp only [evOpsR] at hx
  cases hg:o.guard with
  | none=>
   simp only [hg] at hx
   exact run hle (by simp only [wantedA,hg]) hx
  | some p=>
   obtain ⟨j,want⟩:=p
   simp only [hg] at hx
   cases hs1:guardSlot ops j with
   | none=>simp [hs1] at hx
   | some d=>
    simp only [hs1] at hx
    cases hv:fr.get d with
    | none=>simp [hv] at hx
    | some u=>
     cases u with
     | bool t=>
      simp only [hv] at hx
      have hy:yieldedA ops big j=some t:=yielded_of hs1 (hle d _ hv)
      have hfix:=hle.fix hv
      cases t with
      | true=>
       cases want with
       | true=>
        simp only [cond_true] at hx
        exact run hfix (by simp only [wantedA,hg,hy,cond_true]) hx
       | false=>
        simp only [cond_true,cond_false] at hx
        exact skip hfix (by simp only [wantedA,hg,hy,cond_true]) hx
      | false=>
       cases want with
       | true=>
        simp only [cond_true,cond_false] at hx
        exact skip hfix (by simp only [wantedA,hg,hy,cond_false,Bool.not_true]) hx
       | false=>
        simp only [cond_false] at hx
        exact run hfix (by simp only [wantedA,hg,hy,cond_false,Bool.not_false]) hx
     | tuple l=>
      cases l with
      | nil=>
       simp only [hv] at hx
       have hy:yieldedA ops big j=none:=by
        unfold guardSlot at hs1
        unfold yieldedA
        split at hs1
        ·rename_i o2 ho2;simp only [ho2,hs1,hle d _ hv]
        ·cases hs1
       have hu:unrunA ops big j=true:=by
        unfold guardSlot at hs1
        unfold unrunA
        split at hs1
        ·rename_i o2 ho2;simp only [ho2,hs1,hle d _ hv]
        ·cases hs1
       exact skip hle (by simp only [wantedA,hg,hy,hu,cond_true]) hx
      | cons y r=>simp [hv] at hx
     | _=>simp [hv] at hx
theorem hp_zero {nt:Nat} {call:CallF} {ops r:List Oper} {fr:Fr} {h:Heap} {recs:List (Fr×Heap×AV)} {fr':Fr} {h':Heap} (ht:traceA E call nt ops r fr h=some (recs,fr',h')):hpAt r.length recs h' 0=h:=by
 cases r with
 | nil=>simp only [traceA,Option.some.injEq,Prod.mk.injEq] at ht;exact ht.2.2.symm
 | cons o r=>
  simp only [traceA] at ht
  split at ht
  ·split at ht
   ·simp only [Option.some.injEq,Prod.mk.injEq] at ht
    rw [← ht.1];rfl
   ·cases ht
  ·cases ht
theorem hp_succ {n:Nat} {x:Fr×Heap×AV} {recs:List (Fr×Heap×AV)} {h':Heap} (j:Nat):hpAt (n+1) (x::recs) h' (j+1)=hpAt n recs h' j:=by
 have:Nat.blt (j+1) (n+1)=Nat.blt j n:=rfl
 simp only [hpAt,this,List.getElem?_cons_succ]
theorem evOpsX_trace {C:CallK} (hC:CallKOK P C) {nt:Nat} (hnt:nt≤1073741824) {ops:List Oper} {β:Type}:∀ {r:List Oper} {i:Nat} {fr big:Fr} {h:Heap} {rs:List (Nat×Fr×Op×AV)} {hs:List (Nat×Heap)} {L0:List (Nat×Heap×Heap)} {k:Fr→Heap→Option β} {b:β},evOpsX E C nt ops i r fr h rs hs L0 k=some b→FrLe fr big→
  ∃ recs fr' big' h' R HS L,traceA E (callOf C) nt ops r big h=some (recs,big',h')∧FrLe fr' big'∧k fr' h'=some b∧chkAll E (fun _ _=>true) HS R=true∧sameL ops (predsGo ops []) L=true∧(∀ x∈rs,x∈R)∧(∀ H∈hs,H∈HS)∧(∀ x∈L0,x∈L)∧(i+r.length,h')∈HS∧
   (∀ (j:Nat) (o:Oper) (f:Fr) (hh:Heap) (v:AV),r[j]? = some o→recs[j]? = some (f,hh,v)→bigR o.op=true→(i+j,hh)∈HS)∧
   (∀ (j:Nat) (o:Oper) (f:Fr) (hh:Heap) (v:AV),r[j]? = some o→recs[j]? = some (f,hh,v)→kindA o.op=1→∀ k H,(k,H)∈HS→∃ u h2,stepA E (callOf C) ops f o H=some (u,h2)∧eqV u v=true)∧
   (∀ (j:Nat) (o:Oper),r[j]? = some o→kindA o.op=2→(i+j,hpAt r.length recs h' j,hpAt r.length recs h' (j+1))∈L)
 | [],i,fr,big,h,rs,hs,L0,k,b,hx,hle=>by
  simp only [evOpsX] at hx
  obtain ⟨h1,h2⟩:=guardB_spec hx
  obtain ⟨h3,h4⟩:=guardB_spec h2
  exact ⟨[],fr,big,h,rs,(i,h)::hs,L0,rfl,hle,h4,h1,h3,fun _ h=>h,fun _ h=>List.mem_cons_of_mem _ h,fun _ h=>h,List.mem_cons_self,fun j o f hh v h=>by simp at h,fun j o f hh v h=>by simp at h,fun j o h=>by simp at h⟩
 | o::r,i,fr,big,h,rs,hs,L0,k,b,hx,hle=>by
  simp only [evOpsX] at hx
  cases hg:o.guard with
  | some p=>simp [hg] at hx
  | none=>
   simp only [hg] at hx
   have hw:wantedA ops big o=some true:=by simp only [wantedA,hg]
   obtain ⟨v,h1,o1,o2⟩:=oneK_spec hC hx
   have hs0:stepA E (callOf C) ops big o h=some (v,h1):=by simp only [stepA,hw];exact oneA_le hle o1
   obtain ⟨recs,fr',big',h',R,HS,L,e1,e2,e3,e4,e4',e5,e6,e6',eh,e7,e8,e9⟩:=evOpsX_trace hC hnt o2 (hle.put hnt o.dst v)
   refine ⟨(big,h,v)::recs,fr',big',h',R,HS,L,by simp only [traceA,hs0,e1],e2,e3,e4,e4',fun x hx=>e5 x ?_,fun H hH=>e6 H ?_,fun x hx=>e6' x ?_,?_,?_,?_,?_⟩
   ·unfold recR
    cases Nat.beq (kindA o.op) 1
    ·exact hx
    ·exact List.mem_cons_of_mem _ hx
   ·unfold stgB
    cases bigR o.op
    ·exact hH
    ·exact List.mem_cons_of_mem _ hH
   ·unfold stgX
    cases Nat.beq (kindA o.op) 2
    ·exact hx
    ·exact List.mem_cons_of_mem _ hx
   ·rw [List.length_cons,show i+(r.length+1)=i+1+r.length from by omega];exact eh
   ·intro j o' f hh v' hj hrec hk
    cases j with
    | zero=>
     simp at hj hrec
     subst hj;obtain ⟨rfl,rfl,rfl⟩:=hrec
     exact e6 _ (by unfold stgB;rw [hk];exact List.mem_cons_self)
    | succ j=>
     rw [show i+(j+1)=i+1+j from by omega]
     exact e7 j o' f hh v' (by simpa using hj) (by simpa using hrec) hk
   ·intro j o' f hh v' hj hrec hk k' H hH
    cases j with
    | zero=>
     simp at hj hrec
     subst hj;obtain ⟨rfl,rfl,rfl⟩:=hrec
     have hm:(i,fr,o.op,v)∈R:=e5 _ (by unfold recR;rw [hk];exact List.mem_cons_self)
     have hc:=chkAll_spec e4 _ _ _ _ hm k' H hH rfl
     obtain ⟨u,h2,e3,e4⟩:=chk1_sound hc o1
     exact ⟨u,h2,by simp only [stepA,hw];exact oneA_le hle e3,e4⟩
    | succ j=>exact e8 j o' f hh v' (by simpa using hj) (by simpa using hrec) hk k' H hH
   ·intro j o' hj hk
    cases j with
    | zero=>
     simp at hj;subst hj
     have:=e6' (i,h,h1) (by unfold stgX;rw [hk];exact List.mem_cons_self)
     rw [List.length_cons,hp_succ,hp_zero e1]
     exact this
    | succ j=>
     rw [show i+(j+1)=i+1+j from by omega,List.length_cons,hp_succ,hp_succ]
     exact e9 j o' (by simpa using hj) hk
theorem sameL_ok {nt:Nat} {call:CallF} {ops:List Oper} {fr fr':Fr} {h h':Heap} {recs:List (Fr×Heap×AV)} {L:List (Nat×Heap×Heap)} (ht:traceA E call nt ops ops fr h=some (recs,fr',h')) (hL:sameL ops (predsGo ops []) L=true)
  (hm:∀ (j:Nat) (o:Oper),ops[j]? = some o→kindA o.op=2→(0+j,hpAt ops.length recs h' j,hpAt ops.length recs h' (j+1))∈L):SameX ops recs h':=by
 intro x m ox om b hxm hxp hx1 hx2 hm1 hm2 hb
 obtain ⟨F,H,V,f0,g0,fn,gn,hstep,hrec⟩:=trace_recs ht
 have hat:∀ k,k≤ops.length→hpAt ops.length recs h' k=H k:=by
  intro k hk
  unfold hpAt
  by_cases hlt:k<ops.length
  ·rw [show Nat.blt k ops.length=true by simpa [Nat.blt_eq] using hlt,cond_true,hrec k hlt]
  ·have:k=ops.length:=by omega
   subst this
   have hq:Nat.blt ops.length ops.length=false:=by
    cases hq:Nat.blt ops.length ops.length with
    | false=>rfl
    | true=>rw [Nat.blt_eq] at hq;omega
   rw [hq,cond_false,gn]
 have hxl:=(List.getElem?_eq_some_iff.1 hx1).1
 have hk:kindA ox.op=2:=by
  rcases Nat.lt_or_ge (kindA ox.op) 2 with h7 | h7
  ·exfalso
   have h8:=step_heap (by omega) (hstep x ox hx1).1
   rw [hat x (by omega),hat (x+1) (by omega),h8] at hb
   have h9:=congrArg Heap.next hb
   exact absurd h9 (Nat.ne_of_lt (Nat.lt_succ_self _))
  ·have:=kindA_le ox.op;omega
 have h1:=List.all_eq_true.1 hL _ (hm m om hm1 (bigR_kind hm2).1)
 rw [Nat.zero_add] at h1
 have e1:bigAt ops m=true:=by simp only [bigAt,hm1,hm2]
 simp only [e1,cond_true] at h1
 have h2:=List.all_eq_true.1 h1 _ (hm x ox hx1 hk)
 rw [Nat.zero_add] at h2
 have e2:bigAt ops x=false:=by simp only [bigAt,hx1,hx2]
 have e3:Nat.blt x m=true:=by simpa [Nat.blt_eq] using hxm
 have e4:memL x (((predsGo ops [])[m]?).getD [])=false:=by
  cases hq:memL x (((predsGo ops [])[m]?).getD []) with
  | false=>rfl
  | true=>exact absurd (memL_iff.1 hq) hxp
 simp only [e2,e3,e4,Bool.not_true,Bool.or_false,cond_false] at h2
 exact blkEq_eq h2
def RunOK {β:Type} (nt:Nat) (fr:Fr) (h:Heap) (k:Out→Fr→Heap→Option β) (b:β) (K:(Exit→Act→World→Prop)→Act→World→Prop):Prop:=
 ∀ (μ:Mu) (w:World) (a:Act) (Q:Exit→Act→World→Prop),HR μ h w→AR μ nt fr a→
  (∀ o fr' h' μ' a' w',AR μ' nt fr' a'→HR μ' h' w'→Ext μ h w μ' h' w'→k o fr' h'=some b→Q (exitOf o) a' w')→K Q a w
theorem region_run (ok:EnvOK E P) (hm:P.follows .mixedOrders=true) {C:CallK} (hC:CallKOK P C) {nt:Nat} (hnt:nt≤1073741824) {β:Type} {id:Nat} {ops:Array Oper} {draw:Bool} {fr:Fr} {h:Heap} {k:Out→Fr→Heap→Option β} {b:β}
  (hx:(bif draw&&!orderS ops.toList then (bif orderB ops.toList then evOpsR E C nt ops.toList (winB ops.toList (predsGo ops.toList [])) 0 ops.toList fr h [] [] fun fr' h'=>k .norm fr' h' else bif orderF ops.toList then evOpsX E C nt (permO (frontR ops.toList) ops.toList) 0 (permO (frontR ops.toList) ops.toList) fr h [] [] [] fun fr' h'=>k .norm fr' h' else bif orderP ops.toList then evOpsR E C nt ops.toList (fun _ _=>true) 0 ops.toList fr h [] [] fun fr' h'=>k .norm fr' h' else bif orderR ops.toList then evOpsR E C nt ops.toList (fun _ _=>true) 0 ops.toList fr h [] [] fun fr' h'=>k .norm fr' h' else none) else evOpsK E C nt ops.toList ops.toList fr h fun fr' h'=>k .norm fr' h')=some b):RunOK nt fr h k b (fun Q a w=>(Code.region id ops draw).wp P Q a w):=by
 intro μ w a Q hr ha hq
 cases hd:(draw&&!orderS ops.toList) with
 | true=>
  simp only [hd,cond_true] at hx
  cases hob:orderB ops.toList with
  | false=>
   simp only [hob,cond_false] at hx
   cases hof:orderF ops.toList with
   | true=>
    simp only [hof,cond_true] at hx
    obtain ⟨recs,fr',big',h',R,HS,L,e1,e2,e3,e4,e6,_,_,_,eh,e7,e8,e9⟩:=evOpsX_trace hC hnt hx (FrLe.refl fr)
    have hend:∀ μ' a' w',AR μ' nt big' a'→HR μ' h' w'→Ext μ h w μ' h' w'→Q .normal a' w':=fun μ' a' w' ha' hr' hext=>hq .norm fr' h' μ' a' w' (ha'.le e2) hr' hext e3
    have hdr:draw=true:=by cases draw with
     | true=>rfl
     | false=>simp at hd
    subst hdr
    simp only [orderF,Bool.and_eq_true] at hof
    refine perm_wp hm hof.1 ?_
    refine drawX_wp (ops:=(permO (frontR ops.toList) ops.toList).toArray) (recs:=recs) (fr':=big') (h':=h') ok hC.ok (by simpa using e1) (by simpa using hof.2) ?_ (by simpa using sameL_ok e1 e6 e9) hr ha hend
    intro i o f hh v hi hrec hk k Hk hstage
    have hi':(permO (frontR ops.toList) ops.toList)[i]? = some o:=by simpa using hi
    have hHS:∃ k,(k,Hk)∈HS:=by
     rcases hstage with ⟨o',f',v',h1,h2,h3⟩ | ⟨_,rfl⟩
     ·exact ⟨_,e7 k o' f' Hk v' (by simpa using h1) h3 h2⟩
     ·exact ⟨_,eh⟩
    obtain ⟨k',hk'⟩:=hHS
    have:=e8 i o f hh v hi' hrec hk k' Hk hk'
    simpa using this
   | false=>
    simp only [hof,cond_false] at hx
    cases hop:orderP ops.toList with
    | false=>
     simp only [hop,cond_false] at hx
     cases hor:orderR ops.toList with
     | false=>
      simp [hor] at hx
     | true=>
      simp only [hor,cond_true] at hx
      obtain ⟨recs,fr',big',h',R,HS,e1,e2,e3,_,_,_,eh,e7,e8⟩:=evOpsR_trace hC hnt hx (FrLe.refl fr)
      have hend:∀ μ' a' w',AR μ' nt big' a'→HR μ' h' w'→Ext μ h w μ' h' w'→Q .normal a' w':=fun μ' a' w' ha' hr' hext=>hq .norm fr' h' μ' a' w' (ha'.le e2) hr' hext e3
      have hdr:draw=true:=by cases draw with
       | true=>rfl
       | false=>simp at hd
      subst hdr
      refine drawR_wp ok hm hC.ok (fr':=big') (h':=h') e1 hor ?_ hr ha hend
      intro i o f hh v hi hrec hk k Hk hstage
      rw [Nat.zero_add] at eh
      have hHS:(k,Hk)∈HS:=by
       rcases hstage with ⟨o',f',v',h1,h2,h3⟩ | ⟨rfl,rfl⟩
       ·have:=e7 k o' f' Hk v' h1 h3 (bigR_kind h2).1
        rwa [Nat.zero_add] at this
       ·exact eh
      exact e8 i o f hh v hi hrec hk k Hk hHS rfl
    | true=>
     simp only [hop,cond_true] at hx
     obtain ⟨recs,fr',big',h',R,HS,e1,e2,e3,_,_,_,eh,e7,e8⟩:=evOpsR_trace hC hnt hx (FrLe.refl fr)
     have hend:∀ μ' a' w',AR μ' nt big' a'→HR μ' h' w'→Ext μ h w μ' h' w'→Q .normal a' w':=fun μ' a' w' ha' hr' hext=>hq .norm fr' h' μ' a' w' (ha'.le e2) hr' hext e3
     have hdr:draw=true:=by cases draw with
      | true=>rfl
      | false=>simp at hd
     subst hdr
     refine drawP_wp ok hm hC.ok (fr':=big') (h':=h') e1 hop ?_ hr ha hend
     intro i o f hh v hi hrec hk
     rw [Nat.zero_add] at eh
     exact e8 i o f hh v hi hrec hk _ _ eh rfl
  | true=>
   simp only [hob,cond_true] at hx
   obtain ⟨recs,fr',big',h',R,HS,e1,e2,e3,_,_,_,eh,e7,e8⟩:=evOpsR_trace hC hnt hx (FrLe.refl fr)
   have hend:∀ μ' a' w',AR μ' nt big' a'→HR μ' h' w'→Ext μ h w μ' h' w'→Q .normal a' w':=fun μ' a' w' ha' hr' hext=>hq .norm fr' h' μ' a' w' (ha'.le e2) hr' hext e3
   have hdr:draw=true:=by cases draw with
    | true=>rfl
    | false=>simp at hd
   subst hdr
   refine drawW_wp ok hm hC.ok (fr':=big') (h':=h') e1 hob ?_ hr ha hend
   intro i o f hh v hi hrec hk k Hk hstage hwin
   have hHS:(k,Hk)∈HS:=by
    rcases hstage with ⟨o',f',v',h1,h2,h3⟩ | ⟨rfl,rfl⟩
    ·have:=e7 k o' f' Hk v' h1 h3 h2
     rwa [Nat.zero_add] at this
    ·rwa [Nat.zero_add] at eh
   have hw:winB ops.toList (predsGo ops.toList []) i k=true:=by
    unfold winB
    simp only [Bool.and_eq_true]
    refine ⟨winLo_spec.2 fun j hj o' ho' hk'=>(hwin j o' ho' hk').1 hj,winHi_spec fun j ps hj o' ho' hk' hi'=>?_⟩
    rw [Nat.zero_add] at ho' ⊢
    exact (hwin j o' ho' hk').2 (by rw [hj];exact hi')
   have:=e8 i o f hh v hi hrec hk k Hk hHS
   rw [Nat.zero_add] at this
   exact this hw
 | false=>
  simp only [hd,cond_false] at hx
  obtain ⟨recs,fr',big',h',e1,e2,e3⟩:=evOpsK_trace hC hnt hx (FrLe.refl fr)
  have hend:∀ μ' a' w',AR μ' nt big' a'→HR μ' h' w'→Ext μ h w μ' h' w'→Q .normal a' w':=fun μ' a' w' ha' hr' hext=>hq .norm fr' h' μ' a' w' (ha'.le e2) hr' hext e3
  cases draw with
  | true=>
   simp only [Bool.true_and,Bool.not_eq_false'] at hd
   exact drawS_wp ok hm hC.ok e1 hd hr ha hend
  | false=>
   refine wp_region ?_
   rw [List.range_eq_range']
   exact evOps_wp ok hC.ok ops.size 0 μ h w fr a big' h' (by omega) (by simpa using trace_ops e1) hr ha hend
theorem evC0_run (ok:EnvOK E P) (hm:P.follows .mixedOrders=true) {C:CallK} (hC:CallKOK P C) {nt:Nat} (hnt:nt≤1073741824) {β:Type}:∀ (c:Code) {fr:Fr} {h:Heap} {k:Out→Fr→Heap→Option β} {b:β},
  evC0 E C nt c fr h k=some b→RunOK nt fr h k b (fun Q a w=>c.wp P Q a w):=by
 intro c
 induction c with
 | skip=>intro fr h k b hx μ w a Q hr ha hq;exact wp_skip (hq .norm fr h μ a w ha hr (Ext.refl μ h w) hx)
 | region id ops draw=>intro fr h k b hx;exact region_run ok hm hC hnt hx
 | seq x y ihx ihy=>
  intro fr h k b hx μ w a Q hr ha hq
  refine wp_seq (ihx hx μ w a _ hr ha ?_)
  intro o fr' h' μ' a' w' ha' hr' hext hk
  cases o with
  | norm=>exact ihy hk μ' w' a' Q hr' ha' fun o2 fr2 h2 μ2 a2 w2 ha2 hr2 hext2 hk2=>hq o2 fr2 h2 μ2 a2 w2 ha2 hr2 (Ext.trans hr hext hext2) hk2
  | exit id=>exact hq _ fr' h' μ' a' w' ha' hr' hext hk
  | ret=>exact hq _ fr' h' μ' a' w' ha' hr' hext hk
 | cond c x y ihx ihy=>
  intro fr h k b hx μ w a Q hr ha hq
  simp only [evC0] at hx
  split at hx
  ·rename_i t hb
   have hv:=opnd_sound ha hb
   simp only [VR] at hv
   refine wp_cond hv ?_
   cases t with
   | true=>simp only [cond_true] at hx;exact ihx hx μ w a Q hr ha hq
   | false=>simp only [cond_false] at hx;exact ihy hx μ w a Q hr ha hq
  ·simp at hx
 | block id c ih=>
  intro fr h k b hx μ w a Q hr ha hq
  refine wp_block (ih hx μ w a _ hr ha ?_)
  intro o fr' h' μ' a' w' ha' hr' hext hk
  cases o with
  | norm=>exact hq .norm fr' h' μ' a' w' ha' hr' hext hk
  | exit id'=>
   simp only at hk
   cases hb:Nat.beq id' id with
   | true=>
    simp only [hb,cond_true] at hk
    have:id'=id:=Nat.eq_of_beq_eq_true hb
    simp only [exitOf,Exit.inBlock,this,if_true]
    exact hq .norm fr' h' μ' a' w' ha' hr' hext hk
   | false=>
    simp only [hb,cond_false] at hk
    have:id'≠id:=fun e=>by rw [bt e] at hb;cases hb
    simp only [exitOf,Exit.inBlock,this,if_false]
    exact hq (.exit id') fr' h' μ' a' w' ha' hr' hext hk
  | ret=>exact hq .ret fr' h' μ' a' w' ha' hr' hext hk
 | exit id=>intro fr h k b hx μ w a Q hr ha hq;exact wp_exit (hq (.exit id) fr h μ a w ha hr (Ext.refl μ h w) hx)
 | ret=>intro fr h k b hx μ w a Q hr ha hq;exact wp_ret (hq .ret fr h μ a w ha hr (Ext.refl μ h w) hx)
 | scope c ih=>
  intro fr h k b hx μ w a Q hr ha hq
  refine wp_scope_straight (ih hx μ w a _ hr ha ?_)
  intro o fr' h' μ' a' w' ha' hr' hext hk
  have:=hq o fr' h' μ' a' w' ha' hr' hext hk
  cases o <;> exact this
 | label l=>intro fr h k b hx μ w a Q hr ha hq;exact wp_label (hq .norm fr h μ a w ha hr (Ext.refl μ h w) hx)
 | loop=>intro fr h k b hx;simp [evC0] at hx
 | rangeFunc=>intro fr h k b hx;simp [evC0] at hx
 | goto=>intro fr h k b hx;simp [evC0] at hx
 | refuse=>intro fr h k b hx;simp [evC0] at hx
end
end Ai
namespace Ai
variable [IntT]
section
variable {E:Env} {P:Program}
theorem jget_spec {β:Type}:∀ {os:List (Out×List (Nat×VTy))} {o:Out} {fr:Fr} {h:Heap} {K:jden os→Option β} {b:β},jget os o fr h K=some b→
  ∃ j,K j=some b∧∀ {γ:Type} (K2:Out→Fr→Heap→Option γ) (c:γ),jdisp os j K2=some c→∃ fr2,FrLe fr2 fr∧K2 o fr2 h=some c
 | [],o,fr,h,K,b,hx=>by cases hx
 | p::r,o,fr,h,K,b,hx=>by
  simp only [jget] at hx
  cases he:eqOut o p.1 with
  | true=>
   simp only [he,cond_true] at hx
   obtain ⟨xs,h1,h2⟩:=getL_spec hx
   refine ⟨_,h2,fun K2 c hc=>⟨frL p.2 xs,h1,?_⟩⟩
   rw [eqOut_eq he];exact hc
  | false=>
   simp only [he,cond_false] at hx
   obtain ⟨j,h1,h2⟩:=jget_spec hx
   exact ⟨_,h1,fun K2 c hc=>h2 K2 c hc⟩
def loopBody (E:Env) (C:CallK) (N nt:Nat) (li:List (Nat×VTy)) (outs:List Out) (lo:List (Nat×VTy)) (x:Ann) (c:Code) (go:vdens (li.map (·.2))→Heap→Option (Out×vdens (lo.map (·.2))×Heap)) (vs:vdens (li.map (·.2))) (h:Heap):Option (Out×vdens (lo.map (·.2))×Heap):=
 evCK E C N nt x c (frL li vs) h fun o fr' h'=>match o with
    | .norm=>getL li fr' fun ws=>go ws h'
    | o=>bif inOuts outs o then getL lo fr' fun us=>some (o,us,h') else none
theorem evCK_run (ok:EnvOK E P) (hm:P.follows .mixedOrders=true) {C:CallK} (hC:CallKOK P C) {N nt:Nat} (hnt:nt≤1073741824):∀ (x:Ann) (c:Code) {β:Type} {fr:Fr} {h:Heap} {k:Out→Fr→Heap→Option β} {b:β},
  evCK E C N nt x c fr h k=some b→RunOK nt fr h k b (fun Q a w=>c.wp P Q a w):=by
 intro x
 induction x with
 | n=>intro c β fr h k b hx;exact evC0_run ok hm hC hnt c hx
 | two x y ihx ihy=>
  intro c β fr h k b hx μ w a Q hr ha hq
  simp only [evCK] at hx
  split at hx
  ·refine wp_seq (ihx _ hx μ w a _ hr ha ?_)
   intro o fr' h' μ' a' w' ha' hr' hext hk
   cases o with
   | norm=>exact ihy _ hk μ' w' a' Q hr' ha' fun o2 fr2 h2 μ2 a2 w2 ha2 hr2 hext2 hk2=>hq o2 fr2 h2 μ2 a2 w2 ha2 hr2 (Ext.trans hr hext hext2) hk2
   | exit id=>exact hq _ fr' h' μ' a' w' ha' hr' hext hk
   | ret=>exact hq _ fr' h' μ' a' w' ha' hr' hext hk
  ·split at hx
   ·rename_i t hb
    have hv:=opnd_sound ha hb
    simp only [VR] at hv
    refine wp_cond hv ?_
    cases t with
    | true=>simp only [cond_true] at hx;exact ihx _ hx μ w a Q hr ha hq
    | false=>simp only [cond_false] at hx;exact ihy _ hx μ w a Q hr ha hq
   ·simp at hx
  ·rename_i id c
   refine wp_block (ihx _ hx μ w a _ hr ha ?_)
   intro o fr' h' μ' a' w' ha' hr' hext hk
   cases o with
   | norm=>exact hq .norm fr' h' μ' a' w' ha' hr' hext hk
   | exit id'=>
    simp only at hk
    cases hb:Nat.beq id' id with
    | true=>
     simp only [hb,cond_true] at hk
     have:id'=id:=Nat.eq_of_beq_eq_true hb
     simp only [exitOf,Exit.inBlock,this,if_true]
     exact hq .norm fr' h' μ' a' w' ha' hr' hext hk
    | false=>
     simp only [hb,cond_false] at hk
     have:id'≠id:=fun e=>by rw [bt e] at hb;cases hb
     simp only [exitOf,Exit.inBlock,this,if_false]
     exact hq (.exit id') fr' h' μ' a' w' ha' hr' hext hk
   | ret=>exact hq .ret fr' h' μ' a' w' ha' hr' hext hk
  ·rename_i c
   refine wp_scope_straight (ihx _ hx μ w a _ hr ha ?_)
   intro o fr' h' μ' a' w' ha' hr' hext hk
   have:=hq o fr' h' μ' a' w' ha' hr' hext hk
   cases o <;> exact this
  ·cases hx
 | join live x ih=>
  intro c β fr h k b hx μ w a Q hr ha hq
  simp only [evCK] at hx
  obtain ⟨us,h1,e1,e2⟩:=bind2_spec hx
  refine ih _ e1 μ w a Q hr ha ?_
  intro o fr' h' μ' a' w' ha' hr' hext hk
  cases o with
  | norm=>
   obtain ⟨xs,e3,e4⟩:=getL_spec hk
   simp only [Option.some.injEq,Prod.mk.injEq] at e4
   obtain ⟨rfl,rfl⟩:=e4
   exact hq .norm _ h' μ' a' w' (ha'.le e3) hr' hext e2
  | exit id=>simp at hk
  | ret=>simp at hk
 | joinO os x ih=>
  intro c β fr h k b hx μ w a Q hr ha hq
  simp only [evCK] at hx
  obtain ⟨j,e1,e2⟩:=need_spec hx
  refine ih _ e1 μ w a Q hr ha ?_
  intro o1 fr' h' μ' a' w' ha' hr' hext hk
  obtain ⟨j',e3,e4⟩:=jget_spec hk
  cases e3
  obtain ⟨fr2,e5,e6⟩:=e4 _ _ e2
  exact hq _ _ h' μ' a' w' (ha'.le e5) hr' hext e6
 | loop li outs lo x ih=>
  intro c β fr h k b hx μ w a Q hr ha hq
  simp only [evCK] at hx
  split at hx
  ·rename_i c
   obtain ⟨vs,e0,hx⟩:=getL_spec hx
   obtain ⟨o,us,h1,e1,e2⟩:=bind3_spec hx
   have rounds:∀ (M:Nat) (vs:vdens (li.map (·.2))) (h0:Heap),iter (loopBody E C N nt li outs lo x c) M vs h0=some (o,us,h1)→
     ∀ (μ:Mu) (w:World) (a:Act) (Q:Exit→Act→World→Prop),HR μ h0 w→AR μ nt (frL li vs) a→
      (∀ μ' a' w',o∈outs→AR μ' nt (frL lo us) a'→HR μ' h1 w'→Ext μ h0 w μ' h1 w'→Q (exitOf o) a' w')→Code.rounds P c Q M a w:=by
    intro M
    induction M with
    | zero=>intro vs h0 he;cases he
    | succ M ihM=>
     intro vs h0 he
     have he':loopBody E C N nt li outs lo x c (iter (loopBody E C N nt li outs lo x c) M) vs h0=some (o,us,h1):=he
     unfold loopBody at he'
     have hrun:=ih c he'
     intro μ w a Q hr ha hq
     rw [rounds_succ]
     refine hrun μ w a _ hr ha ?_
     intro o1 fr' h' μ' a' w' ha' hr' hext hk
     have other:∀ (hne:o1≠.norm),(bif inOuts outs o1 then getL lo fr' fun us=>some (o1,us,h') else none)=some (o,us,h1)→Q (exitOf o1) a' w':=by
      intro hne hk
      cases hin:inOuts outs o1 with
      | false=>simp [hin] at hk
      | true=>
       simp only [hin,cond_true] at hk
       obtain ⟨xs,e3,e4⟩:=getL_spec hk
       simp only [Option.some.injEq,Prod.mk.injEq] at e4
       obtain ⟨rfl,rfl,rfl⟩:=e4
       exact hq μ' a' w' (inOuts_mem hin) (ha'.le e3) hr' hext
     cases o1 with
     | norm=>
      obtain ⟨ws,e3,e4⟩:=getL_spec hk
      exact ihM ws h' e4 μ' w' a' Q hr' (ha'.le e3) fun μ2 a2 w2 hm2 ha2 hr2 hext2=>hq μ2 a2 w2 hm2 ha2 hr2 (Ext.trans hr hext hext2)
     | exit id=>exact other (by simp) hk
     | ret=>exact other (by simp) hk
   exact wp_loop_rounds _ (rounds _ vs h e1 μ w a Q hr (ha.le e0) fun μ' a' w' hmem ha' hr' hext=>hq o _ h1 μ' a' w' ha' hr' hext (disp_spec hmem e2))
  ·simp at hx
theorem resK_spec {β:Type} {fr:Fr} {h:Heap}:∀ {l:List (ResultVar×VTy)} {K:List AV→Option β} {b:β},resK E fr h l K=some b→∃ vs,resultsA E fr h (l.map (·.1))=some vs∧K vs=some b
 | [],K,b,hx=>⟨[],rfl,hx⟩
 | (.tmp t,c)::r,K,b,hx=>by
  simp only [resK] at hx
  cases hg:fr.get t with
  | none=>simp [hg] at hx
  | some v=>
   simp only [hg] at hx
   obtain ⟨vs,h1,h2⟩:=resK_spec hx
   exact ⟨v::vs,by simp only [List.map_cons,resultsA,hg,h1],h2⟩
 | (.cell a t,c)::r,K,b,hx=>by
  simp only [resK] at hx
  split at hx
  ·rename_i p hg
   split at hx
   ·rename_i hagg
    split at hx
    ·rename_i n hn
     obtain ⟨q,rfl,h3⟩:=need_spec hx
     obtain ⟨y,h4,h5⟩:=bindV_spec h3
     obtain ⟨l,h6,h7⟩:=cells_read h4
     obtain ⟨vs,h2,h3⟩:=resK_spec h5
     refine ⟨c.to y::vs,?_,h3⟩
     have hl:loadA E h t (.ptr (some q))=some (c.to y):=by simp [loadA,hagg,hn,h6];exact h7.symm
     simp only [List.map_cons,resultsA,hg,hl,h2]
    ·cases hx
   ·rename_i hagg
    obtain ⟨q,rfl,h3⟩:=need_spec hx
    obtain ⟨y,h4,h5⟩:=bindV_spec h3
    obtain ⟨vs,h2,h3⟩:=resK_spec h5
    refine ⟨c.to y::vs,?_,h3⟩
    have hl:loadA E h t (.ptr (some q))=some (c.to y):=by simp [loadA,hagg,cell_read h4];rfl
    simp only [List.map_cons,resultsA,hg,hl,h2]
   ·cases hx
  ·cases hx
def FnOK (P:Program) (f:FuncId) (l:List VTy) (t:Ty) (F:vdens l→Heap→Option (t.den×Heap)):Prop:=
 ∀ xs h r h',F xs h=some (r,h')→∀ μ w (args':Array Value),HR μ h w→VRs μ (VTy.tos l xs) args'.toList→
  (callFunc f args').run P w=.ok (.enter f args') w∧Calls P f args' w fun e w'=>∃ u,e=.returned u∧Post μ h w (t.to r) h' u w'
theorem noCalls_ok:CallKOK P noCalls where
 nat:=by intro β f args h k b hx;cases hx
 ok:=by intro f args h v h' hx;cases hx
theorem CTy.cast_to {β:Type}:∀ (c:CTy) (x:c.den) (K:c.den→Option β),c.cast (c.to x) K=K x
 | .bool,x,K=>rfl
 | .int k,x,K=>by simp [CTy.cast,CTy.to,eqKind]
 | .str,x,K=>rfl
 | .ptr,x,K=>rfl
 | .slice,x,K=>rfl
 | .any,x,K=>rfl
theorem CTy.casts_tos {β:Type}:∀ (l:List CTy) (x:dens l) (K:dens l→Option β),CTy.casts l (CTy.tos l x) K=K x
 | [],x,K=>rfl
 | c::r,x,K=>by simp only [CTy.tos,CTy.casts,CTy.cast_to,CTy.casts_tos r]
theorem VTy.cast_to {β:Type}:∀ (c:VTy) (x:c.den) (K:c.den→Option β),c.cast (c.to x) K=K x
 | .one c,x,K=>CTy.cast_to c x K
 | .agg l,x,K=>CTy.casts_tos l x K
 | .clo g l,x,K=>by simp only [VTy.cast,VTy.to,Nat.beq_refl,cond_true];exact CTy.casts_tos l x K
theorem VTy.casts_tos {β:Type}:∀ (l:List VTy) (x:vdens l) (K:vdens l→Option β),VTy.casts l (VTy.tos l x) K=K x
 | [],x,K=>rfl
 | c::r,x,K=>by simp only [VTy.tos,VTy.casts,VTy.cast_to,VTy.casts_tos r]
theorem addCall_ok {f:FuncId} {l:List VTy} {t:Ty} {F:vdens l→Heap→Option (t.den×Heap)} {C:CallK} (hF:FnOK P f l t F) (hC:CallKOK P C):CallKOK P (addCall f l t F C):=by
 constructor
 ·intro β g args h k b hx
  unfold addCall at hx
  cases hg:Nat.beq g f with
  | true=>
   simp only [hg,cond_true] at hx
   obtain ⟨xs,rfl,h1⟩:=VTy.casts_spec hx
   obtain ⟨r,h',h2,h3⟩:=bind2_spec h1
   refine ⟨t.to r,h',?_,h3⟩
   simp only [callOf,addCall,hg,cond_true,VTy.casts_tos,h2,bind2]
  | false=>
   simp only [hg,cond_false] at hx
   obtain ⟨v,h',h1,h2⟩:=hC.nat hx
   exact ⟨v,h',by simp only [callOf,addCall,hg,cond_false];exact h1,h2⟩
 ·intro g args h v h' hx μ w args' hr hv
  simp only [callOf,addCall] at hx
  cases hg:Nat.beq g f with
  | true=>
   simp only [hg,cond_true] at hx
   obtain ⟨xs,rfl,h1⟩:=VTy.casts_spec hx
   obtain ⟨r,h2,h3,h4⟩:=bind2_spec h1
   simp only [Option.some.injEq,Prod.mk.injEq] at h4
   obtain ⟨rfl,rfl⟩:=h4
   have:=Nat.eq_of_beq_eq_true hg
   subst this
   exact .inr (hF xs h r h2 h3 μ w args' hr hv)
  | false=>
   simp only [hg,cond_false] at hx
   exact hC.ok g args h v h' hx μ w args' hr hv
theorem addCallS_ok {f:FuncId} {sel:List AV→Bool} {l:List VTy} {t:Ty} {F:vdens l→Heap→Option (t.den×Heap)} {C:CallK} (hF:FnOK P f l t F) (hC:CallKOK P C):CallKOK P (addCallS f sel l t F C):=by
 constructor
 ·intro β g args h k b hx
  unfold addCallS at hx
  cases hg:Nat.beq g f with
  | true=>
   cases hs:sel args with
   | true=>
    simp only [hg,hs,cond_true] at hx
    obtain ⟨xs,rfl,h1⟩:=VTy.casts_spec hx
    obtain ⟨r,h',h2,h3⟩:=bind2_spec h1
    refine ⟨t.to r,h',?_,h3⟩
    simp only [callOf,addCallS,hg,hs,cond_true,VTy.casts_tos,h2,bind2]
   | false=>
    simp only [hg,hs,cond_true,cond_false] at hx
    obtain ⟨v,h',h1,h2⟩:=hC.nat hx
    exact ⟨v,h',by simp only [callOf,addCallS,hg,hs,cond_true,cond_false];exact h1,h2⟩
  | false=>
   simp only [hg,cond_false] at hx
   obtain ⟨v,h',h1,h2⟩:=hC.nat hx
   exact ⟨v,h',by simp only [callOf,addCallS,hg,cond_false];exact h1,h2⟩
 ·intro g args h v h' hx μ w args' hr hv
  simp only [callOf,addCallS] at hx
  cases hg:Nat.beq g f with
  | true=>
   cases hs:sel args with
   | true=>
    simp only [hg,hs,cond_true] at hx
    obtain ⟨xs,rfl,h1⟩:=VTy.casts_spec hx
    obtain ⟨r,h2,h3,h4⟩:=bind2_spec h1
    simp only [Option.some.injEq,Prod.mk.injEq] at h4
    obtain ⟨rfl,rfl⟩:=h4
    have:=Nat.eq_of_beq_eq_true hg
    subst this
    exact .inr (hF xs h r h2 h3 μ w args' hr hv)
   | false=>
    simp only [hg,hs,cond_true,cond_false] at hx
    exact hC.ok g args h v h' hx μ w args' hr hv
  | false=>
   simp only [hg,cond_false] at hx
   exact hC.ok g args h v h' hx μ w args' hr hv
theorem runK_ok (ok:EnvOK E P) (hm:P.follows .mixedOrders=true) {C:CallK} (hC:CallKOK P C) {N:Nat} {x:Ann} {f:FuncId} {fn:Func} {c:Code} {l:List VTy} {t:Ty} {F:vdens l→Heap→Option (t.den×Heap)}
  (hf:E.fn f=some fn) (hb:fn.body=some c) (hnt:Nat.ble fn.ntmps 1073741824=true) (hsz:Nat.beq fn.results.size fn.resultTypes.size=true) (hF:∀ xs h,F xs h=runK E C N x fn c t (VTy.tos l xs) h):FnOK P f l t F:=by
 intro xs h r h' hx μ w args' hr hv
 rw [hF] at hx
 unfold runK at hx
 have hnt':fn.ntmps≤1073741824:=by simpa using hnt
 obtain ⟨hfp,hname⟩:=ok.fn f fn hf
 cases hle:Nat.ble (VTy.tos l xs).length fn.ntmps with
 | false=>simp [hle] at hx
 | true=>
  simp only [hle,cond_true] at hx
  have hle':(VTy.tos l xs).length≤fn.ntmps:=by simpa using hle
  have hargs:args'.size=(VTy.tos l xs).length:=by simpa using hv.length
  refine ⟨?_,?_⟩
  ·unfold callFunc
   refine (run_bind_ok (P:=P) (a:=P) (w':=w) rfl).trans ?_
   rw [hfp]
   simp only [hname,Bool.false_eq_true,if_false,hb,Option.isNone_some]
   rfl
  ·refine calls_of_wp hfp hb ?_
   refine evCK_run ok hm hC hnt' x c hx μ w _ _ hr ?_ ?_
   ·refine ⟨fun t x hx=>?_,by simp [hargs];omega,rfl⟩
    rcases initFr_get (VTy.tos l xs) 0 .nil t x hx with ⟨_,h2⟩ | h2
    ·obtain ⟨y,h3,h4⟩:=hv.get h2
     have h3':args'[t]? = some y:=by simpa using h3
     have hlt:t<args'.size:=(Array.getElem?_eq_some_iff.1 h3').1
     have:(args'++Array.replicate (fn.ntmps-args'.size) undef).getD t undef=y:=by
      simp only [Array.getD_eq_getD_getElem?]
      rw [Array.getElem?_append_left hlt,h3'];rfl
     rw [this];exact h4
    ·simp [Tr.get_nil] at h2
   ·intro out fr1 h1 μ' a' w' ha' hr' hext hk
    have hres:(exitOf out=.normal∨exitOf out=.ret)∧resK E fr1 h1 (fn.results.toList.zip (fn.resultTypes.toList.map (vtyOf E))) (fun vs=>t.cast (tupA vs) fun r=>some (r,h1))=some (r,h'):=by
     cases out with
     | norm=>exact ⟨.inl rfl,hk⟩
     | ret=>exact ⟨.inr rfl,hk⟩
     | exit id=>cases hk
    obtain ⟨hres,hk⟩:=hres
    obtain ⟨vs,hrs,hk⟩:=resK_spec hk
    obtain ⟨r',hr1,hk⟩:=Ty.cast_spec hk
    simp only [Option.some.injEq,Prod.mk.injEq] at hk
    obtain ⟨rfl,rfl⟩:=hk
    have hfin:a'.defers=[]∧∃ u,(results fn a'.tmps).run P w'=.ok u w'∧∃ u',Ending.returned u=.returned u'∧Post μ h w (t.to r') h1 u' w':=by
     refine ⟨ha'.defers,?_⟩
     have hzip:(fn.results.toList.zip (fn.resultTypes.toList.map (vtyOf E))).map (·.1)=fn.results.toList:=by
      have hsz':fn.results.size=fn.resultTypes.size:=Nat.eq_of_beq_eq_true hsz
      exact List.map_fst_zip (by simp;omega)
     rw [hzip] at hrs
     obtain ⟨us,g1,g2⟩:=results_sound (P:=P) (g:=fun | .tmp t=>pure (a'.tmps.getD t undef) | .cell a t=>do loadVar t (← asAddr (a'.tmps.getD a undef))) ok hr' ha' (fun _=>rfl) (fun _ _=>rfl) hrs
     have hrun:∀ (r:Value),(if hs:us.toArray.size=1 then us.toArray[0] else .tuple us.toArray)=r→(results fn a'.tmps).run P w'=.ok r w':=by
      intro r hr0
      have hmap:(fn.results.mapM (fun | .tmp t=>pure (a'.tmps.getD t undef) | .cell a t=>do loadVar t (← asAddr (a'.tmps.getD a undef)):ResultVar→Sem Value)).run P w'=.ok us.toArray w':=by
       rw [Array.mapM_eq_mapM_toList,Sem.run_map,g1];rfl
      unfold results
      exact (run_bind_ok (P:=P) hmap).trans (by rw [← hr0];rfl)
     have hul:=g2.length
     rw [hr1]
     by_cases h1v:∃ v,vs=[v]
     ·obtain ⟨v,rfl⟩:=h1v
      simp only [VRs] at g2
      obtain ⟨y,ys,rfl,g3,rfl⟩:=g2
      exact ⟨y,hrun y (by simp),y,rfl,μ',g3,hr',hext⟩
     ·have hn1:us.toArray.size≠1:=by
       intro e
       have:vs.length=1:=by rw [← hul];simpa using e
       obtain ⟨z,hz⟩:=List.length_eq_one_iff.1 this
       exact h1v ⟨z,hz⟩
      have htup:tupA vs=.tuple vs:=by
       unfold tupA;split
       ·exact absurd ⟨_,rfl⟩ h1v
       ·rfl
      rw [htup]
      exact ⟨.tuple us.toArray,hrun _ (by rw [dif_neg hn1]),_,rfl,μ',by simp only [VR];exact ⟨_,rfl,by simpa using g2⟩,hr',hext⟩
    rcases hres with e | e <;> rw [e] <;> exact hfin
end
end Ai
namespace Ai
variable [IntT]
theorem Tr.get_set_of {α:Type} {t:Tr α} {n m:Nat} {x:α} (hne:m≠n):(t.set n x).get m=t.get m:=by
 cases h:(t.set n x).get m with
 | some y=>
  rcases Tr.get_set h with ⟨h1,_⟩ | ⟨_,h1⟩
  ·exact absurd h1 hne
  ·exact h1.symm
 | none=>
  cases h2:t.get m with
  | none=>rfl
  | some y=>rw [Tr.get_set_other hne h2] at h;cases h
def Heap.is (h:Heap) (A:Nat) (cs:List AV):Prop:=h.t.get A=some (.row cs .own)∧A<h.next
theorem Heap.is_push (h:Heap) (cs:List AV):(h.push (.row cs .own)).is h.next cs:=⟨Tr.get_set_same,Nat.lt_succ_self _⟩
theorem Heap.is.row {h:Heap} {A:Nat} {cs:List AV} (hx:h.is A cs):h.row A=some cs:=by simp [Heap.row,hx.1]
theorem Heap.is.cell {h:Heap} {A:Nat} {cs:List AV} (hx:h.is A cs) (i:Nat):h.cell (A,i)=(cs.drop i).head?:=by
 simp only [Heap.cell,hx.row]
 cases cs.drop i <;> rfl
@[simp] theorem Heap.push_next (h:Heap) (b:Blk):(h.push b).next=h.next+1:=rfl
@[simp] theorem Heap.put_next (h:Heap) (A:Nat) (b:Blk):(h.put A b).next=h.next:=rfl
@[simp] theorem bind2_some {α β:Type} (v:α) (h:Heap) (k:α→Heap→Option β):bind2 (some (v,h)) k=k v h:=rfl
@[simp] theorem bind3_some {α β:Type} (o:Out) (v:α) (h:Heap) (k:Out→α→Heap→Option β):bind3 (some (o,v,h)) k=k o v h:=rfl
@[simp] theorem need_some {α β:Type} (a:α) (K:α→Option β):need (some a) K=K a:=rfl
@[simp] theorem bindV_some {β:Type} (t:Ty) (v:AV) (K:t.den→Option β):bindV t (some v) K=t.cast v K:=rfl
@[simp] theorem bindT_some {β:Type} (t:Ty) (v:AV) (h:Heap) (K:t.den→Heap→Option β):bindT t (some (v,h)) K=t.cast v fun y=>K y h:=rfl
@[simp] theorem cast_bool {β:Type} (b:Bool) (K:Bool→Option β):(Ty.val (.one .bool)).cast (.bool b) K=K b:=rfl
@[simp] theorem cast_int {β:Type} (k:IntKind) (n:Int) (K:Int→Option β):(Ty.val (.one (.int k))).cast (.int k n) K=K n:=CTy.cast_to (.int k) n K
@[simp] theorem cast_str {β:Type} (s:List UInt8) (K:List UInt8→Option β):(Ty.val (.one .str)).cast (.str s) K=K s:=rfl
@[simp] theorem cast_ptr {β:Type} (p:Option (Nat×Nat)) (K:Option (Nat×Nat)→Option β):(Ty.val (.one .ptr)).cast (.ptr p) K=K p:=rfl
@[simp] theorem cast_slice {β:Type} (a:Option (Nat×Nat)) (l c s:Nat) (K:SL→Option β):(Ty.val (.one .slice)).cast (.slice a l c s) K=K ⟨a,l,c,s⟩:=rfl
@[simp] theorem cast_any {β:Type} (v:AV) (K:AV→Option β):(Ty.val (.one .any)).cast v K=K v:=rfl
@[simp] theorem cast_agg {β:Type} (l:List CTy) (cs:List AV) (K:dens l→Option β):(Ty.val (.agg l)).cast (.agg cs) K=CTy.casts l cs K:=rfl
@[simp] theorem casts_nil {β:Type} (K:Unit→Option β):CTy.casts [] [] K=K ():=rfl
@[simp] theorem casts_bool {β:Type} (r:List CTy) (b:Bool) (vs:List AV) (K:Bool×dens r→Option β):CTy.casts (.bool::r) (.bool b::vs) K=CTy.casts r vs fun xs=>K (b,xs):=rfl
@[simp] theorem casts_int {β:Type} (r:List CTy) (k:IntKind) (n:Int) (vs:List AV) (K:Int×dens r→Option β):CTy.casts (.int k::r) (.int k n::vs) K=CTy.casts r vs fun xs=>K (n,xs):=by simp [CTy.casts,CTy.cast,eqKind]
@[simp] theorem casts_slice {β:Type} (r:List CTy) (a:Option (Nat×Nat)) (l c s:Nat) (vs:List AV) (K:SL×dens r→Option β):CTy.casts (.slice::r) (.slice a l c s::vs) K=CTy.casts r vs fun xs=>K (⟨a,l,c,s⟩,xs):=rfl
@[simp] theorem casts_ptr {β:Type} (r:List CTy) (p:Option (Nat×Nat)) (vs:List AV) (K:Option (Nat×Nat)×dens r→Option β):CTy.casts (.ptr::r) (.ptr p::vs) K=CTy.casts r vs fun xs=>K (p,xs):=rfl
@[simp] theorem casts_str {β:Type} (r:List CTy) (s:List UInt8) (vs:List AV) (K:List UInt8×dens r→Option β):CTy.casts (.str::r) (.str s::vs) K=CTy.casts r vs fun xs=>K (s,xs):=rfl
@[simp] theorem casts_any {β:Type} (r:List CTy) (v:AV) (vs:List AV) (K:AV×dens r→Option β):CTy.casts (.any::r) (v::vs) K=CTy.casts r vs fun xs=>K (v,xs):=rfl
theorem wrapA_small {x:Int} (h1:-9223372036854775808≤x) (h2:x≤9223372036854775807):wrapA .i64 x=x:=by rw [wrapA_eq];exact IntWalk.i64_in x ⟨h1,h2⟩
theorem ltInt_dec (a b:Int):ltInt a b=decide (a<b):=by rw [ltInt_eq]
theorem leInt_dec (a b:Int):leInt a b=decide (a≤b):=by rw [leInt_eq]
theorem eqInt_dec (a b:Int):eqInt a b=decide (a=b):=by rw [eqInt_eq];rfl
end Ai
namespace Ai
variable [IntT]
def Heap.g (h:Heap) (A:Nat):Option Blk:=h.t.get A
def cellB (b:Option Blk) (i:Nat):Option AV:=match b with
 | some (.row cs .own)=>(cs.drop i).head?
 | some (.row cs .grown)=>(cs.drop i).head?
 | some (.row cs (.bytes _))=>(cs.drop i).head?
 | some (.row cs (.ty _))=>(cs.drop i).head?
 | some (.row cs .ro)=>(cs.drop i).head?
 | _=>none
def cellsB (b:Option Blk) (i n:Nat):Option AV:=match b with
 | some (.row cs .own)=>(takeN n (cs.drop i)).map AV.agg
 | some (.row cs .grown)=>(takeN n (cs.drop i)).map AV.agg
 | some (.row cs (.bytes _))=>(takeN n (cs.drop i)).map AV.agg
 | some (.row cs (.ty _))=>(takeN n (cs.drop i)).map AV.agg
 | some (.row cs .ro)=>(takeN n (cs.drop i)).map AV.agg
 | _=>none
def storeB (h:Heap) (A:Nat) (b:Option Blk) (i:Nat) (vs:List AV):Option Heap:=match b with
 | some (.row cs .own)=>(over i cs vs).map fun cs'=>h.put A (.row cs' .own)
 | some (.row cs .grown)=>(over i cs vs).map fun cs'=>h.put A (.row cs' .grown)
 | some (.row cs (.bytes t))=>(over i cs vs).map fun cs'=>h.put A (.row cs' (.bytes t))
 | some (.row cs (.ty t))=>(over i cs vs).map fun cs'=>h.put A (.row cs' (.ty t))
 | _=>none
theorem Heap.cell_g (h:Heap) (A i:Nat):h.cell (A,i)=cellB (h.g A) i:=by
 unfold Heap.cell Heap.row cellB Heap.g
 cases h.t.get A with
 | none=>rfl
 | some b=>cases b with
  | row cs st=>cases st <;> simp only <;> cases cs.drop i <;> rfl
  | _=>rfl
theorem Heap.cells_g (h:Heap) (A i n:Nat):h.cells (A,i) n=cellsB (h.g A) i n:=by
 unfold Heap.cells Heap.read Heap.row cellsB Heap.g
 cases h.t.get A with
 | none=>rfl
 | some b=>cases b with
  | row cs st=>cases st <;> simp only <;> cases takeN n (cs.drop i) <;> rfl
  | _=>rfl
theorem Heap.store_g (h:Heap) (A i:Nat) (vs:List AV):h.store (A,i) vs=storeB h A (h.g A) i vs:=by
 unfold Heap.store Heap.rowW storeB Heap.g
 cases h.t.get A with
 | none=>rfl
 | some b=>cases b with
  | row cs st=>cases st <;> simp only <;> cases over i cs vs <;> rfl
  | _=>rfl
theorem g_push_eq {h:Heap} {A:Nat} (b:Blk) (he:A=h.next):(h.push b).g A=some b:=by subst he;exact Tr.get_set_same
theorem g_push_ne {h:Heap} {A:Nat} (b:Blk) (hne:A≠h.next):(h.push b).g A=h.g A:=Tr.get_set_of hne
theorem g_put_eq {h:Heap} {A B:Nat} (b:Blk) (he:A=B):(h.put B b).g A=some b:=by subst he;exact Tr.get_set_same
theorem g_put_ne {h:Heap} {A B:Nat} (b:Blk) (hne:A≠B):(h.put B b).g A=h.g A:=Tr.get_set_of hne
theorem cellB_own (cs:List AV) (i:Nat):cellB (some (.row cs .own)) i=(cs.drop i).head?:=rfl
theorem cellsB_own (cs:List AV) (i n:Nat):cellsB (some (.row cs .own)) i n=(takeN n (cs.drop i)).map AV.agg:=rfl
theorem storeB_own (h:Heap) (A:Nat) (cs:List AV) (i:Nat) (vs:List AV):storeB h A (some (.row cs .own)) i vs=(over i cs vs).map fun cs'=>h.put A (.row cs' .own):=rfl
theorem over_nil (n:Nat) (cs:List AV):over n cs []=some cs:=by cases n <;> cases cs <;> rfl
theorem over_zero (c v:AV) (cs vs:List AV):over 0 (c::cs) (v::vs)=(over 0 cs vs).map (v::·):=by
 show (match over 0 cs vs with | some l=>some (v::l) | none=>none)=_
 cases over 0 cs vs <;> rfl
theorem over_succ (n:Nat) (c v:AV) (cs vs:List AV):over (n+1) (c::cs) (v::vs)=(over n cs (v::vs)).map (c::·):=by
 show (match over n cs (v::vs) with | some l=>some (c::l) | none=>none)=_
 cases over n cs (v::vs) <;> rfl
@[simp] theorem eqOut_exit (i j:Nat):eqOut (.exit i) (.exit j)=decide (i=j):=by
 show Nat.beq i j=_
 cases h:Nat.beq i j with
 | true=>have:=Nat.eq_of_beq_eq_true h;simp [this]
 | false=>have:=Nat.ne_of_beq_eq_false h;simp [this]
@[simp] theorem eqOut_ret (j:Nat):eqOut .ret (.exit j)=false:=rfl
@[simp] theorem eqOut_ret2:eqOut .ret .ret=true:=rfl
@[simp] theorem eqOut_exit_ret (j:Nat):eqOut (.exit j) .ret=false:=rfl
theorem ixK_of {β:Type} (q:Nat×Nat) (len j n:Nat) (K:Nat×Nat→Option β) (h:j<len):ixK (some q) len (Int.ofNat j) n K=K (q.1,q.2+j * n):=by
 have:Nat.blt j len=true:=by simpa [Nat.blt_eq] using h
 simp [ixK,this]
end Ai
end Go.Proofs.YtjipnkhkkhpenaaGreatDoor
