import Derived.Test.YtkcjphhjmlienaaGreatDoorProg
import Derived.WalkKit
import Derived.LaidEql
import Derived.Stop.Asserts
import Derived.RowKitTokens
import Derived.Test.YtkcjphhjmlienaaGreatDoorAi2
import Derived.Laws.Externs
import Derived.Deep.RegionWith
/- Functions of the program as plain functions, and what they come to; part 1. -/
namespace Go.Proofs.YtkcjphhjmlienaaGreatDoor
set_option linter.unusedVariables false
set_option linter.unusedSimpArgs false
open Go Go.Proofs
namespace Qa
open Go.RowKit Go.Extern.Stop Go.Stop Go.Extern
theorem aAc (t:Addr) (w:World):(ReflectliteValue.unpack (.iface 214 (.pointer (some t)))).run Tryz.prog w
  = .ok (.agg #[.pointer (some ⟨7,214,none⟩),.pointer (some ⟨w.heap.size,0,none⟩),.int .u64 150]) (w.alloc (.cells #[.pointer (some t)] 214)):=by kernel_rfl
theorem dAq (a:Addr) (w:World):(ReflectliteValue.methodAny (ReflectliteValue.valueError "reflectlite.Value.Type" 0) (fun t _ _ _=>ReflectliteType.toType t) #[.agg #[.pointer (some ⟨7,214,none⟩),.pointer (some a),.int .u64 150]]).run Tryz.prog w
  = .ok (.iface 232 (.agg #[.pointer (some ⟨7,214,none⟩)])) w:=by kernel_rfl
theorem yA7 (h:Value) (w:World):(Go.method 406 232 (.agg #[h]) "Kind").run Tryz.prog w=.ok (278,h) w:=by kernel_rfl
theorem eAq (w:World):((ReflectliteType.abiMethod fun t=>Functor.map (fun a:Nat=>Value.int IntKind.u8 (a:Int)) (Rtype.kind t)) #[.pointer (some ⟨7,214,none⟩)]).run Tryz.prog w=.ok (.int .u8 22) w:=by kernel_rfl
theorem fAq (w:World):((ReflectliteType.abiMethod fun t=>Functor.map (fun a:Nat=>Value.int IntKind.u8 (a:Int)) (Rtype.kind t)) #[.pointer (some ⟨7,127,none⟩)]).run Tryz.prog w=.ok (.int .u8 22) w:=by kernel_rfl
theorem rlm (z:Sem Value) (f:TypeId→Addr→Nat→Nat→Sem Value) (v:Value) :
  ReflectliteValue.method z f #[v]=(do match ← ReflectliteValue.parts v with | none=>z | some (t,a,fl)=>f t a fl (fl % 32)):=rfl
theorem yA5 (a:Addr) (w:World):(ReflectliteValue.parts (.agg #[.pointer (some ⟨7,214,none⟩),.pointer (some a),.int .u64 150])).run Tryz.prog w=.ok (some (214,a,150)) w:=by kernel_rfl
theorem vAl (a p:Addr) (W:World) (ha:W.cell? a=some (.pointer (some p))) :
  (ReflectliteValue.method (ReflectliteValue.valueError "reflectlite.Value.IsNil" 0) ReflectliteValue.isNil #[.agg #[.pointer (some ⟨7,214,none⟩),.pointer (some a),.int .u64 150]]).run Tryz.prog W=.ok (.bool false) W:=by
 rw [rlm];simp only [Sem.run_bind,yA5,Result.andThen];simp [ReflectliteValue.isNil,loadVar,isAgg,underlying,Tryz.underlying214,ha,Result.andThen]
theorem aA8 (h:Value) (w:World):(Go.method 406 232 (.agg #[h]) "Elem").run Tryz.prog w=.ok (291,.agg #[h]) w:=by kernel_rfl
theorem dS (h:Value) (w:World):(Go.method 406 232 (.agg #[h]) "Implements").run Tryz.prog w=.ok (292,.agg #[h]) w:=by kernel_rfl
theorem aO (h:Value) (w:World):(Go.method 406 232 (.agg #[h]) "AssignableTo").run Tryz.prog w=.ok (289,.agg #[h]) w:=by kernel_rfl
theorem gAq (w:World):(ReflectliteType.method ReflectliteType.elem #[.agg #[.pointer (some ⟨7,214,none⟩)]]).run Tryz.prog w=.ok (.iface 232 (.agg #[.pointer (some ⟨7,127,none⟩)])) w:=by kernel_rfl
theorem yA1 (w:World):(ReflectliteType.relation "Implements" ReflectliteType.implements_ #[.agg #[.pointer (some ⟨7,127,none⟩)],.iface 232 (.agg #[.pointer (some ⟨7,29,none⟩)])]).run Tryz.prog w=.ok (.bool true) w:=by kernel_rfl
theorem aAf (v:Value) (w:World):(ReflectliteType.typeOf #[.iface 127 v]).run Tryz.prog w=.ok (.iface 232 (.agg #[.pointer (some ⟨7,127,none⟩)])) w:=by kernel_rfl
theorem aA2 (w:World):(ReflectliteType.relation "AssignableTo" ReflectliteType.assignableTo #[.agg #[.pointer (some ⟨7,127,none⟩)],.iface 232 (.agg #[.pointer (some ⟨7,127,none⟩)])]).run Tryz.prog w=.ok (.bool true) w:=by kernel_rfl
theorem bAc (e:Addr) (w:World):(ReflectliteValue.unpack (.iface 127 (.pointer (some e)))).run Tryz.prog w
  = .ok (.agg #[.pointer (some ⟨7,127,none⟩),.pointer (some ⟨w.heap.size,0,none⟩),.int .u64 150]) (w.alloc (.cells #[.pointer (some e)] 127)):=by kernel_rfl
theorem bAf (w:World):(Rtype.elem? 214).run Tryz.prog w=.ok (some 127) w:=by kernel_rfl
theorem qB1 (p:Addr) (w:World):(ReflectliteValue.mk 127 p ReflectliteValue.flagAddr).run Tryz.prog w=.ok (.agg #[.pointer (some ⟨7,127,none⟩),.pointer (some p),.int .u64 406]) w:=by kernel_rfl
theorem wAl (a p:Addr) (W:World) (ha:W.cell? a=some (.pointer (some p))) :
  (ReflectliteValue.method (ReflectliteValue.valueError "reflectlite.Value.Elem" 0) ReflectliteValue.elem #[.agg #[.pointer (some ⟨7,214,none⟩),.pointer (some a),.int .u64 150]]).run Tryz.prog W
   = .ok (.agg #[.pointer (some ⟨7,127,none⟩),.pointer (some p),.int .u64 406]) W:=by
 rw [rlm];simp only [Sem.run_bind,yA5,Result.andThen];simp [ReflectliteValue.elem,loadVar,isAgg,underlying,Tryz.underlying214,ha,Result.andThen,bAf,qB1]
theorem rls (v x:Value):ReflectliteValue.set #[v,x]=(do
  let (some (dst,a,fl),some (src,b,_)):=(← ReflectliteValue.parts v,← ReflectliteValue.parts x)
   | unsupported (.noEntry "extern/(internal/reflectlite.Value).Set.zeroValue")
  if fl / ReflectliteValue.flagAddr % 2 == 0 then unsupported (.noEntry "extern/(internal/reflectlite.Value).Set.unaddressable")
  let val ← loadVar src b
  if ← Rtype.directlyAssignable dst src then storeVar dst a val
  else if ← Rtype.implements dst src then
   if (← Rtype.kind src) == 20 then
    match val with
    | .nilIface=>unsupported (.noEntry "extern/reflectlite: a nil value of one interface type handed on as a value of another")
    | _=>storeVar dst a val
   else storeVar dst a (.iface src val)
  else panicString ("reflectlite.Set: value of type "++(← Rtype.spelt src) ++ " is not assignable to type "++(← Rtype.spelt dst))
  pure (.tuple #[])):=rfl
theorem cAf (a:Addr) (w:World):(ReflectliteValue.parts (.agg #[.pointer (some ⟨7,127,none⟩),.pointer (some a),.int .u64 406])).run Tryz.prog w=.ok (some (127,a,406)) w:=by kernel_rfl
theorem yAl (a:Addr) (w:World):(ReflectliteValue.parts (.agg #[.pointer (some ⟨7,127,none⟩),.pointer (some a),.int .u64 150])).run Tryz.prog w=.ok (some (127,a,150)) w:=by kernel_rfl
theorem dAf (w:World):(Rtype.directlyAssignable 127 127).run Tryz.prog w=.ok true w:=by kernel_rfl
theorem nAw (ta b e:Addr) (old:Value) (W:World) (hb:W.cell? b=some (.pointer (some e))) (ht:W.cell? ta=some old) (hf:W.frozen? ta=false) :
  (ReflectliteValue.set #[.agg #[.pointer (some ⟨7,127,none⟩),.pointer (some ta),.int .u64 406],.agg #[.pointer (some ⟨7,127,none⟩),.pointer (some b),.int .u64 150]]).run Tryz.prog W
   = .ok (.tuple #[]) (W.setCell ta (.pointer (some e))):=by
 rw [rls];simp only [Sem.run_bind,cAf,yAl,Result.andThen];simp [ReflectliteValue.flagAddr,loadVar,isAgg,underlying,Tryz.underlying127,hb,Result.andThen,dAf,storeVar,Value.cells,storeCells,Addr.add];rw [run_store Tryz.prog W ta _ _ (by rfl)];simp [ht,hf]
set_option maxRecDepth 100000 in
set_option maxHeartbeats 4000000 in
theorem mB8 (e t:Addr) (old:Value) (w:World) (hg:w.cell? ⟨1,0,none⟩=some (.iface 232 (.agg #[.pointer (some ⟨7,29,none⟩)]))) (ht0:w.cell? t=some old) (hf0:w.frozen? t=false) :
  Calls Tryz.prog 192 #[.iface 127 (.pointer (some e)),.iface 214 (.pointer (some t))] w fun ev w'=>ev=.returned (.bool true)∧w'=((((w.alloc (.cells #[.pointer (some t)] 214)).alloc (.cells #[.pointer (some ⟨7,214,none⟩),.pointer (some ⟨w.heap.size,0,none⟩),.int .u64 150] 217)).alloc (.cells #[.pointer (some ⟨7,214,none⟩),.pointer (some ⟨w.heap.size,0,none⟩),.int .u64 150] 217)).alloc (.cells #[.pointer (some e)] 127)).setCell t (.pointer (some e)):=by
 have h6:=@run_callFunc_extern Tryz.prog 210 _ (fun args=>ReflectliteValue.unpack (args.getD 0 (.tuple #[]))) Tryz.func210 (by kernel_rfl) (by kernel_rfl) (by kernel_rfl) (by kernel_rfl);have h7:=@run_callFunc_extern Tryz.prog 211 _ (ReflectliteValue.methodAny (ReflectliteValue.valueError "reflectlite.Value.Type" 0) (fun t _ _ _=>ReflectliteType.toType t)) Tryz.func211 (by kernel_rfl) (by kernel_rfl) (by kernel_rfl) (by kernel_rfl);have h8:=@run_callFunc_extern Tryz.prog 212 _ (ReflectliteValue.method (ReflectliteValue.valueError "reflectlite.Value.IsNil" 0) ReflectliteValue.isNil) Tryz.func212 (by kernel_rfl) (by kernel_rfl) (by kernel_rfl) (by kernel_rfl);have h27:=@run_callFunc_extern Tryz.prog 278 _ (ReflectliteType.abiMethod fun t=>do pure (.int .u8 (← Rtype.kind t))) Tryz.func278 (by kernel_rfl) (by kernel_rfl) (by kernel_rfl) (by kernel_rfl);have h37:=@run_callFunc_extern Tryz.prog 291 _ (ReflectliteType.method ReflectliteType.elem) Tryz.func291 (by kernel_rfl) (by kernel_rfl) (by kernel_rfl) (by kernel_rfl);have h38:=@run_callFunc_extern Tryz.prog 292 _ (ReflectliteType.relation "Implements" ReflectliteType.implements_) Tryz.func292 (by kernel_rfl) (by kernel_rfl) (by kernel_rfl) (by kernel_rfl);have h10:=@run_callFunc_extern Tryz.prog 224 _ ReflectliteType.typeOf Tryz.func224 (by kernel_rfl) (by kernel_rfl) (by kernel_rfl) (by kernel_rfl);have h35:=@run_callFunc_extern Tryz.prog 289 _ (ReflectliteType.relation "AssignableTo" ReflectliteType.assignableTo) Tryz.func289 (by kernel_rfl) (by kernel_rfl) (by kernel_rfl) (by kernel_rfl);have h11:=@run_callFunc_extern Tryz.prog 225 _ (ReflectliteValue.method (ReflectliteValue.valueError "reflectlite.Value.Elem" 0) ReflectliteValue.elem) Tryz.func225 (by kernel_rfl) (by kernel_rfl) (by kernel_rfl) (by kernel_rfl);have h12:=@run_callFunc_extern Tryz.prog 226 _ ReflectliteValue.set Tryz.func226 (by kernel_rfl) (by kernel_rfl) (by kernel_rfl) (by kernel_rfl);have tO:=aAf;have mA:=aO;have a25:=aA2;have v25:=bAc;have f6:=aAc;have f7:=dAq;have mK:=yA7;have mE:=aA8;have mI:=dS;have k27:=eAq;have k25:=fAq;have e27:=gAq;have i25:=yA1;have n8:=vAl ⟨w.heap.size,0,none⟩ t ((w.alloc (.cells #[.pointer (some t)] 214)).alloc (.cells #[.pointer (some ⟨7,214,none⟩),.pointer (some ⟨w.heap.size,0,none⟩),.int .u64 150] 217)) (by simp);have hlt:1<w.heap.size:=by
  rcases Nat.lt_or_ge 1 w.heap.size with h | h
  ·exact h
  ·simp [World.cell?,Array.getElem?_eq_none h] at hg
 have hg2:((w.alloc (.cells #[.pointer (some t)] 214)).alloc (.cells #[.pointer (some ⟨7,214,none⟩),.pointer (some ⟨w.heap.size,0,none⟩),.int .u64 150] 217)).cell? ⟨1,0,none⟩=some (.iface 232 (.agg #[.pointer (some ⟨7,29,none⟩)])):=by
  rw [World.cell?_alloc_lt _ _ ⟨1,0,none⟩ (by simp;omega),World.cell?_alloc_lt _ _ ⟨1,0,none⟩ hlt];exact hg
 have htl:t.block<w.heap.size:=by
  rcases Nat.lt_or_ge t.block w.heap.size with h | h
  ·exact h
  ·simp [World.cell?,Array.getElem?_eq_none h] at ht0
 have el:=wAl ⟨w.heap.size,0,none⟩ t (((w.alloc (.cells #[.pointer (some t)] 214)).alloc (.cells #[.pointer (some ⟨7,214,none⟩),.pointer (some ⟨w.heap.size,0,none⟩),.int .u64 150] 217)).alloc (.cells #[.pointer (some ⟨7,214,none⟩),.pointer (some ⟨w.heap.size,0,none⟩),.int .u64 150] 217)) (by rw [World.cell?_alloc_lt _ _ ⟨w.heap.size,0,none⟩ (by simp;omega)];simp);have st:=nAw t ⟨w.heap.size+1+1+1,0,none⟩ e old ((((w.alloc (.cells #[.pointer (some t)] 214)).alloc (.cells #[.pointer (some ⟨7,214,none⟩),.pointer (some ⟨w.heap.size,0,none⟩),.int .u64 150] 217)).alloc (.cells #[.pointer (some ⟨7,214,none⟩),.pointer (some ⟨w.heap.size,0,none⟩),.int .u64 150] 217)).alloc (.cells #[.pointer (some e)] 127))
  (by rw [World.cell?_alloc_at _ _ _ _ (by simp)];rfl)
  (by rw [World.cell?_alloc_lt _ _ t (by simp;omega),World.cell?_alloc_lt _ _ t (by simp;omega),World.cell?_alloc_lt _ _ t (by simp;omega),World.cell?_alloc_lt _ _ t htl];exact ht0)
  (by rw [World.frozen?_alloc_old _ _ t (by simp;omega),World.frozen?_alloc_old _ _ t (by simp;omega),World.frozen?_alloc_old _ _ t (by simp;omega),World.frozen?_alloc_old _ _ t (Nat.ne_of_lt htl)];exact hf0)
 go_enter Tryz.func192,Tryz.ntmps192
 go_wp2
 refine wp_loop_rounds 1 ?_;rw [rounds_succ]
 go_wp2
 go_ret
 exact ⟨rfl,rfl⟩
end Qa
open Go Ai Go.Proofs
open Go.RowKit (Below)
namespace Qa
def hdl:AV:=.iface 232 (.agg [.ptr (some (1,0))])
def iAq:Ai.Loc:=⟨1,0,1,false⟩
def loc1:Ai.Loc:=⟨7,29,30,false⟩
def rB1 (a b:Ai.Loc):Bool:=Nat.beq a.b b.b&&Nat.beq a.sh b.sh&&Nat.beq a.tot b.tot&&(bif a.ex then b.ex else !b.ex)
def mA4 (A:Nat) (l:Ai.Loc):List (Nat×Ai.Loc)→Bool
 | []=>false
 | x::r=>(Nat.beq x.1 A&&rB1 x.2 l)||mA4 A l r
def bA8 (b:Option Blk) (cs:List AV):Bool:=match b with
 | some (.row cs' .ro)=>eqV (.agg cs') (.agg cs)
 | _=>false
theorem oAw {a b:Ai.Loc} (h:rB1 a b=true):a=b:=by
 obtain ⟨a1,a2,a3,a4⟩:=a;obtain ⟨b1,b2,b3,b4⟩:=b;simp only [rB1,Bool.and_eq_true] at h;obtain ⟨⟨⟨h1,h2⟩,h3⟩,h4⟩:=h;obtain rfl:=Nat.eq_of_beq_eq_true h1;obtain rfl:=Nat.eq_of_beq_eq_true h2;obtain rfl:=Nat.eq_of_beq_eq_true h3
 have:a4=b4:=by cases a4 <;> cases b4 <;> simp_all
 rw [this]
theorem gU {A:Nat} {l:Ai.Loc}:∀ {p:List (Nat×Ai.Loc)},mA4 A l p=true→(A,l)∈p
 | [],h=>by cases h
 | x::r,h=>by
  simp only [mA4,Bool.or_eq_true,Bool.and_eq_true] at h;rcases h with ⟨h1,h2⟩ | h
  ·have e1:=Nat.eq_of_beq_eq_true h1
   have e2:=oAw h2;obtain ⟨x1,x2⟩:=x;simp only at e1 e2;rw [e1,e2];exact List.mem_cons_self
  ·exact List.mem_cons_of_mem _ (gU h)
theorem bAj {b:Option Blk} {cs:List AV} (h:bA8 b cs=true):b=some (.row cs .ro):=by
 unfold bA8 at h
 split at h
 ·have:=wA0 _ _ h
  simp only [AV.agg.injEq] at this;rw [this]
 ·cases h
def jAq (h:Heap) (A:Nat):Option (List AV×BState):=match h.t.get A with
 | some (.row cs st)=>match st with
  | .own=>some (cs,st)
  | .grown=>some (cs,st)
  | _=>none
 | _=>none
def asN:List AV→Heap→Option (AV×Heap)
 | [.iface t (.ptr (some p)),.iface t' (.ptr (some (A,off)))],h=>
  bif Nat.beq t 127&&Nat.beq t' 214&&mA4 0 iAq h.pins&&mA4 1 loc1 h.pins&&bA8 (h.t.get 0) [hdl] then
   match jAq h A with
   | some (cs,st)=>match over off cs [.ptr (some p)] with
    | some cs'=>some (.bool true,h.put A (.row cs' st))
    | none=>none
   | none=>none
  else none
 | _,_=>none
theorem vBi:EnvOK (eB1 Tryz.prog [] oAi) Tryz.prog:=nAi (by kernel_rfl) (by kernel_rfl)
theorem aBg {args:List AV} {v:AV} {h h':Heap} (hx:asN args h=some (v,h')) {μ:Mu} {w:World} {args':Array Value} (hr:HR μ h w) (hv:VRs μ args args'.toList) :
  (callFunc 192 args').run Tryz.prog w=.ok (.enter 192 args') w∧Calls Tryz.prog 192 args' w fun e w'=>∃ u,e=.returned u∧yB0 μ h w v h' u w':=by
 refine ⟨wAi vBi (fn:=Tryz.f192) (by kernel_rfl) (by kernel_rfl) _ _,?_⟩;unfold asN at hx
 split at hx
 ·rename_i t p t' A off
  cases hb:(Nat.beq t 127&&Nat.beq t' 214&&mA4 0 iAq h.pins&&mA4 1 loc1 h.pins&&bA8 (h.t.get 0) [hdl]) with
  | false=>simp [hb] at hx
  | true=>
   simp only [hb,cond_true] at hx;simp only [Bool.and_eq_true] at hb;obtain ⟨⟨⟨⟨b1,b2⟩,b3⟩,b4⟩,b5⟩:=hb;obtain rfl:=Nat.eq_of_beq_eq_true b1;obtain rfl:=Nat.eq_of_beq_eq_true b2
   cases hw:jAq h A with
   | none=>simp [hw] at hx
   | some q=>
    obtain ⟨cs,st⟩:=q;simp only [hw] at hx
    cases ho:over off cs [.ptr (some p)] with
    | none=>simp [ho] at hx
    | some cs'=>
     simp only [ho,Option.some.injEq,Prod.mk.injEq] at hx;obtain ⟨rfl,rfl⟩:=hx;have hg:h.t.get A=some (.row cs st)∧(st=.own∨st=.grown):=by
      unfold jAq at hw
      split at hw
      ·rename_i cs1 st1 hq
       split at hw
       ·simp only [Option.some.injEq,Prod.mk.injEq] at hw;obtain ⟨rfl,rfl⟩:=hw;exact ⟨hq,.inl rfl⟩
       ·simp only [Option.some.injEq,Prod.mk.injEq] at hw;obtain ⟨rfl,rfl⟩:=hw;exact ⟨hq,.inr rfl⟩
       ·cases hw
      ·cases hw
     obtain ⟨p1,p2⟩:=p;simp only [VRs,VR] at hv;obtain ⟨y1,ys1,e1,⟨x1,rfl,l1,hl1,rfl⟩,y2,ys2,e2,⟨x2,rfl,l2,hl2,rfl⟩,e3⟩:=hv;subst e2 e3;have ea:args' = #[.iface 127 (.pointer (some ⟨l1.b,l1.sh+p2,none⟩)),.iface 214 (.pointer (some ⟨l2.b,l2.sh+off,none⟩))]:=by rw [← Array.toList_inj,e1]
     subst ea
     -- the handle's cell
     have hc0:w.cell? ⟨1,0,none⟩=some (.iface 232 (.agg #[.pointer (some ⟨7,29,none⟩)])):=by
      have hm0:=hr.pin _ (gU b3);have hm1:=hr.pin _ (gU b4);have hrow:RowR μ w iAq [hdl]:=hr.blk 0 iAq _ hm0 (bAj b5);obtain ⟨y,h1,h2⟩:=hrow.cell 0 hdl rfl;simp only [hdl,VR,VRs] at h2;obtain ⟨z,rfl,cs1,rfl,u,us,h4,⟨l,h5,rfl⟩,rfl⟩:=h2;have hm1':μ 1=some loc1:=hm1;rw [hm1'] at h5;simp only [Option.some.injEq] at h5;subst h5
      have:cs1 = #[.pointer (some ⟨7,29,none⟩)]:=by rw [← Array.toList_inj,h4];rfl
      rw [this] at h1;exact h1
     have hvp:VRs μ [.ptr (some (p1,p2))] [.pointer (some ⟨l1.b,l1.sh+p2,none⟩)]:=VRs.cons (by simp only [VR];exact ⟨l1,hl1,rfl⟩) VRs.nil;obtain ⟨w1,w2,_,_⟩:=hr.write hl2 hg.1 (hg.2.elim .inl fun e=>.inr (.inl e)) ho hvp;have hold:=w1 0 (by simp);have hfz:=w2 0 (by simp);rw [Nat.add_zero] at hold hfz;obtain ⟨old,hold⟩:=Option.isSome_iff_exists.1 hold;refine (mB8 ⟨l1.b,l1.sh+p2,none⟩ ⟨l2.b,l2.sh+off,none⟩ old w hc0 hold hfz).mono ?_;rintro e w' ⟨rfl,rfl⟩;have hbel:Below w.heap.size w ((((w.alloc (.cells #[.pointer (some ⟨l2.b,l2.sh+off,none⟩)] 214)).alloc (.cells #[.pointer (some ⟨7,214,none⟩),.pointer (some ⟨w.heap.size,0,none⟩),.int .u64 150] 217)).alloc (.cells #[.pointer (some ⟨7,214,none⟩),.pointer (some ⟨w.heap.size,0,none⟩),.int .u64 150] 217)).alloc (.cells #[.pointer (some ⟨l1.b,l1.sh+p2,none⟩)] 127)):=
      ((((Below.refl _ w).alloc (Nat.le_refl _) _).alloc (by simp) _).alloc (by simp;omega) _).alloc (by simp;omega) _
     have hr4:=hr.below hbel;obtain ⟨_,_,h5,h6⟩:=hr4.write hl2 hg.1 (hg.2.elim .inl fun e=>.inr (.inl e)) ho hvp;exact ⟨_,rfl,μ,by simp [VR],h5,Ext.trans hr (Ext.of_below hbel) h6⟩
 ·cases hx
def cAj (c:UInt8):List UInt8→Nat→Int
 | [],_=>-1
 | x::r,k=>bif Nat.beq x.toNat c.toNat then .ofNat k else cAj c r (k+1)
theorem cAc (c:UInt8):∀ (s:List UInt8) (k:Nat),cAj c s k=(match (List.range s.length).find? fun i=>s.getD i 0 == c with | some i=>((k+i:Nat):Int) | none=>-1)
 | [],k=>rfl
 | x::r,k=>by
  rw [List.length_cons,List.range_succ_eq_map]
  by_cases hx:x=c
  ·subst hx
   have:Nat.beq x.toNat x.toNat=true:=Nat.beq_refl _
   simp only [cAj,this,cond_true,List.find?_cons,List.getD_cons_zero,beq_self_eq_true,Nat.add_zero];rfl
  ·have h1:Nat.beq x.toNat c.toNat=false:=by
    cases hq:Nat.beq x.toNat c.toNat with
    | false=>rfl
    | true=>exact absurd (UInt8.toNat.inj (Nat.eq_of_beq_eq_true hq)) hx
   have h2:(x == c)=false:=by simpa using hx
   simp only [cAj,h1,cond_false,List.find?_cons,List.getD_cons_zero,h2];rw [cAc c r (k+1),List.find?_map];simp only [Function.comp_def,List.getD_cons_succ]
   cases (List.range r.length).find? fun i=>r.getD i 0 == c with
   | none=>rfl
   | some i=>simp only [Option.map_some];congr 1;omega
theorem find_congr {α:Type} {p q:α→Bool}:∀ {l:List α},(∀ x∈l,p x=q x)→l.find? p=l.find? q
 | [],_=>rfl
 | x::r,h=>by
  simp only [List.find?_cons,h x List.mem_cons_self,find_congr fun y hy=>h y (List.mem_cons_of_mem _ hy)]
theorem eAf (s:List UInt8) (c:UInt8):firstIdx ⟨s.toArray⟩ c=cAj c s 0:=by
 rw [cAc];unfold firstIdx;have hs:(⟨s.toArray⟩:ByteArray).size=s.length:=rfl;rw [hs];have hp:(List.range s.length).find? (fun i=>(⟨s.toArray⟩:ByteArray)[i]! == c)=(List.range s.length).find? (fun i=>s.getD i 0 == c):=by
  refine find_congr fun i hi=>?_;have hi':i<s.length:=List.mem_range.1 hi
  have:(⟨s.toArray⟩:ByteArray)[i]! = s.getD i 0:=by
   rw [getElem!_pos (⟨s.toArray⟩:ByteArray) i hi'];rw [List.getD_eq_getElem?_getD,List.getElem?_eq_getElem hi'];rfl
  rw [this]
 rw [hp]
 cases (List.range s.length).find? fun i=>s.getD i 0 == c with
 | none=>rfl
 | some i=>simp
def bBg:List AV→Heap→Option (AV×Heap)
 | [.str s,.int .u8 c],h=>some (.int .i64 (cAj c.toNat.toUInt8 s 0),h)
 | _,_=>none
theorem nB8 {args:List AV} {v:AV} {h h':Heap} (hx:bBg args h=some (v,h')) {μ:Mu} {w:World} {args':Array Value} (hr:HR μ h w) (hv:VRs μ args args'.toList) :
  ∃ u w',(callFunc 206 args').run Tryz.prog w=.ok (.value u) w'∧yB0 μ h w v h' u w':=by
 unfold bBg at hx
 split at hx
 ·rename_i s c
  simp only [Option.some.injEq,Prod.mk.injEq] at hx;obtain ⟨rfl,rfl⟩:=hx;simp only [VRs,VR] at hv;obtain ⟨y1,ys1,e1,rfl,y2,ys2,e2,rfl,e3⟩:=hv;subst e2 e3;have ea:args' = #[.string ⟨s.toArray⟩,.int .u8 c]:=by rw [← Array.toList_inj,e1]
  subst ea;refine ⟨.int .i64 (cAj c.toNat.toUInt8 s 0),w,?_,μ,by simp only [VR],hr,Ext.refl μ h w⟩;have h1:=@run_callFunc_extern Tryz.prog 206 _ Extern.BytealgIndexByte.indexByte Tryz.func206 (by kernel_rfl) (by kernel_rfl) (by kernel_rfl) (by kernel_rfl) #[.string ⟨s.toArray⟩,.int .u8 c] w;rw [h1,run_indexByte_string,eAf];rfl
 ·cases hx
def wBi (s:List UInt8) (c:Int) (h:Heap):Option (Int×Heap):=some (cAj c.toNat.toUInt8 s 0,h)
theorem fAf (N:Nat):pB1 Tryz.prog 206 [(.one .str),(.one (.int .u8))] (.val (.one (.int .i64))) (fun x h=>wBi x.1 x.2.1 h):=by
 intro xs h r h' hx μ w args' hr hv;have hx':some (cAj xs.2.1.toNat.toUInt8 xs.1 0,h)=some (r,h'):=hx;simp only [Option.some.injEq,Prod.mk.injEq] at hx';obtain ⟨rfl,rfl⟩:=hx';exact nB8 (args:=[.str xs.1,.int .u8 xs.2.1]) rfl hr hv
def nat:FuncId→Option (List AV→Heap→Option (AV×Heap)):=fun f=>bif Nat.beq f 192 then some asN else bif Nat.beq f 206 then some bBg else none
end Qa
set_option maxRecDepth 100000
namespace Qx
open Qa
theorem cBg:Tryz.prog.follows .mixedOrders=true:=by kernel_rfl
def h0:Heap:={ t:=Tr.set .nil 0 (.row [hdl] .ro),next:=2,pins:=[(0,iAq),(1,loc1)] }
def mu0:Mu:=fun A=>if A=0 then some iAq else if A=1 then some loc1 else none
theorem mu0_inv {A:Nat} {l:Ai.Loc} (h:mu0 A=some l):(A=0∧l=iAq)∨(A=1∧l=loc1):=by
 unfold mu0 at h
 split at h
 ·cases h;exact .inl ⟨by assumption,rfl⟩
 ·split at h
  ·cases h;exact .inr ⟨by assumption,rfl⟩
  ·cases h
theorem bO {A:Nat} {b:Blk} (h:h0.t.get A=some b):A=0∧b=.row [hdl] .ro:=by
 rcases Tr.get_set h with h | ⟨_,h⟩
 ·exact h
 ·simp [Tr.get_nil] at h
theorem h0_rof:Rof h0:=by
 refine ⟨fun A b hA=>?_,fun A hA=>?_⟩
 ·obtain ⟨_,rfl⟩:=bO hA;exact ⟨_,rfl⟩
 ·cases hb:h0.t.get A with
  | none=>rfl
  | some b=>
   have:=(bO hb).1
   have h1:(2:Nat)≤A:=hA;omega
theorem vAy {w:World} (hs:7<w.heap.size) {e:TypeId} (hsh:w.shape? 1=some (e,1)) (hc:w.cell? ⟨1,0,none⟩=some (.iface 232 (.agg #[.pointer (some ⟨7,29,none⟩)]))):HR mu0 h0 w:=by
 refine ⟨fun A l hA=>?_,fun A B la lb ba bb hA hB gA gB _ _ hne=>?_,fun A l b hA hb=>?_,fun x hx=>?_⟩
 ·rcases mu0_inv hA with ⟨rfl,rfl⟩ | ⟨rfl,rfl⟩
  ·exact ⟨by show 0<2;omega,by show 1<w.heap.size;omega⟩
  ·exact ⟨by show 1<2;omega,hs⟩
 ·exact absurd ((bO gA).1.trans (bO gB).1.symm) hne
 ·obtain ⟨rfl,rfl⟩:=bO hb
  rcases mu0_inv hA with ⟨_,rfl⟩ | ⟨h,_⟩
  ·refine ⟨⟨e,hsh⟩,Nat.le_refl _,fun i x hx=>?_⟩
   cases i with
   | zero=>
    have:x=hdl:=by simpa using hx.symm
    subst this;refine ⟨_,hc,?_⟩;simp only [hdl,VR,VRs];exact ⟨_,rfl,_,rfl,_,[],rfl,⟨loc1,rfl,rfl⟩,rfl⟩
   | succ i=>simp at hx
  ·cases h
 ·rcases List.mem_cons.1 hx with rfl | hx
  ·rfl
  ·rw [List.mem_singleton.1 hx];rfl
def pinned (h:Heap):Bool:=mA4 0 iAq h.pins&&mA4 1 loc1 h.pins&&bA8 (h.t.get 0) [hdl]
end Qx
namespace Qp
noncomputable section
abbrev zA:VTy:=.agg [(.int .i64),(.int .i64),.bool,.str,(.int .i64),.str,.slice,.slice,.bool,.str,.slice,(.int .i64),(.int .i64),(.int .i64),.str,.slice,(.int .i64),(.int .i64),.str,.slice,(.int .i64),.str,.slice,.str,.slice,.slice,(.int .i64),(.int .i64),.str,.slice,.slice,.slice]
abbrev zB:VTy:=.agg [(.int .i64),(.int .i64),(.int .i64),.str,.slice,(.int .i64),(.int .i64),.str,.slice,(.int .i64),.str,.slice,.str,.slice,.slice]
abbrev zC:VTy:=.agg [(.int .i64),.str,.slice,.slice]
abbrev zD:VTy:=.agg [.bool,.str,.slice,.slice,(.int .i64),.str,.slice,.slice,.slice,(.int .i64)]
abbrev zE:VTy:=.agg [(.int .i64),(.int .i64),.str,.slice]
abbrev zF:VTy:=.agg [(.int .i64),.str,(.int .i64)]
abbrev zG:VTy:=.agg [.bool,.str,.slice,.slice,(.int .i64)]
abbrev zI:VTy:=.agg [.bool,.str,(.int .i64),.str,.slice,.slice]
abbrev zJ:VTy:=.agg [.str,.slice]
abbrev zK:VTy:=.agg [.slice,.slice]
abbrev zL:Type:=Int×Int×Bool×List UInt8×Int×List UInt8×SL×SL×Bool×List UInt8×SL×Int×Int×Int×List UInt8×SL×Int×Int×List UInt8×SL×Int×List UInt8×SL×List UInt8×SL×SL×Int×Int×List UInt8×SL×SL×SL×Unit
abbrev zM:Type:=Int×List UInt8×SL×SL×Unit
abbrev zN:Type:=Int×Int×Int×List UInt8×SL×Int×Int×List UInt8×SL×Int×List UInt8×SL×List UInt8×SL×SL×Unit
abbrev zO:Type:=Option (Nat×Nat)×Option (Nat×Nat)×Unit
abbrev zP:Type:=Int×List UInt8×Int×Unit
abbrev zQ:Type:=List UInt8×Int×Option (Nat×Nat)×Unit
abbrev zR:Type:=Int×Int×List UInt8×SL×Unit
abbrev zS:Type:=Bool×List UInt8×SL×SL×Int×List UInt8×SL×SL×SL×Int×Unit
abbrev zT:Type:=Option (Nat×Nat)×Option (Nat×Nat)×Option (Nat×Nat)×Unit
abbrev zU:Type:=List UInt8×SL×Unit
abbrev zV:Type:=Bool×List UInt8×Int×List UInt8×SL×SL×Unit
abbrev zW:Type:=Bool×List UInt8×SL×SL×Int×Unit
abbrev zX:Type:=Int×Int×AV×Bool×List UInt8×Int×Int×Bool×Int×Int×SL×Int×Int×Bool×Unit
abbrev zY:Type:=Option (Nat×Nat)×Option (Nat×Nat)×SL×Unit
abbrev zZ:Type:=Bool×Unit
abbrev zA1:Type:=List UInt8×Int×Option (Nat×Nat)×Int×Unit
abbrev zB1:Type:=Int×Int×AV×Bool×List UInt8×Int×Int×Bool×Int×SL×Int×Int×Unit
abbrev zC1:Type:=Int×AV×List UInt8×Bool×Int×Unit
abbrev zD1:Type:=List UInt8×Int×Int×AV×Bool×List UInt8×Bool×Unit
abbrev zE1:Type:=SL×SL×Unit
abbrev zF1:Type:=Option (Nat×Nat)×Int×Option (Nat×Nat)×Option (Nat×Nat)×Unit
abbrev zG1:Type:=Int×AV×Unit
abbrev zH1:Type:=List UInt8×Int×Int×Int×AV×Bool×List UInt8×Bool×Unit
abbrev zI1:Type:=List UInt8×Int×Int×Int×AV×Bool×List UInt8×Unit
abbrev zJ1:Type:=List UInt8×Int×Option (Nat×Nat)×Int×Int×Unit
abbrev zK1:Type:=Option (Nat×Nat)×Int×Unit
abbrev zL1:Type:=Int×Int×Unit
abbrev zM1:Type:=Option (Nat×Nat)×Bool×Unit
abbrev zN1:Type:=List UInt8×Bool×Int×Int×Bool×Unit
abbrev zO1:Type:=Int×Int×AV×Bool×List UInt8×Int×Int×Bool×Int×Int×SL×Int×Int×Unit
abbrev zP1:Type:=Int×AV×List UInt8×Int×Unit
abbrev zQ1:Type:=SL×Unit
abbrev zR1:Type:=List UInt8×SL×AV×SL×Unit
abbrev zS1:Type:=List UInt8×Int×Int×Int×AV×Bool×List UInt8×Int×Unit
abbrev zT1:Type:=Int×Unit
abbrev zU1:Type:=Bool×Int×Int×Bool×Unit
abbrev zV1:Type:=List UInt8×Int×Option (Nat×Nat)×Int×Bool×Unit
abbrev zW1:Type:=Option (Nat×Nat)×Option (Nat×Nat)×Bool×Unit
abbrev zX1:Type:=Option (Nat×Nat)×Int×Option (Nat×Nat)×Unit
abbrev zY1:Type:=Option (Nat×Nat)×Option (Nat×Nat)×Int×Unit
abbrev zZ1:Type:=List UInt8×Bool×Int×Int×Bool×Bool×Unit
abbrev zA2:Type:=List UInt8×Int×AV×List UInt8×Bool×Unit
abbrev zB2:Type:=Option (Nat×Nat)×Int×SL×SL×Bool×Unit
abbrev zC2:Type:=List UInt8×Int×AV×List UInt8×Unit
abbrev zD2:Type:=Bool×Int×Unit
abbrev zE2:Type:=List UInt8×Bool×Int×Int×Unit
abbrev zF2:Type:=List UInt8×Int×Int×Bool×Unit
abbrev zG2:Type:=Option (Nat×Nat)×Int×SL×Unit
abbrev zH2:Type:=List UInt8×Int×AV×Bool×Unit
abbrev zI2:Type:=Int×AV×Bool×Int×Bool×Unit
abbrev zJ2:Type:=Option (Nat×Nat)
abbrev zK2:VTy:=.one .ptr
abbrev zL2:VTy:=.one .slice
abbrev zM2:VTy:=.one .str
abbrev zN2:VTy:=.one .bool
abbrev zO2:VTy:=.one (.int .i64)
abbrev zP2:VTy:=.one .any
abbrev zQ2:Type:=List UInt8
noncomputable def E:Env:=eB1 Tryz.prog [] oAi
theorem oB8:EnvOK E Tryz.prog:=nAi (by kernel_rfl) (by kernel_rfl)
theorem cBg:Tryz.prog.follows .mixedOrders=true:=by kernel_rfl
abbrev yRA {β:Type} (v:Int×Int×Bool×List UInt8×Int×List UInt8×SL×SL×Bool×List UInt8×SL×Int×Int×Int×List UInt8×SL×Int×Int×List UInt8×SL×Int×List UInt8×SL×List UInt8×SL×SL×Int×Int×List UInt8×SL×SL×SL×β):List AV:=[(.int .i64 v.1),(.int .i64 v.2.1),(.bool v.2.2.1),(.str v.2.2.2.1),(.int .i64 v.2.2.2.2.1),(.str v.2.2.2.2.2.1),(.slice v.2.2.2.2.2.2.1.a v.2.2.2.2.2.2.1.len v.2.2.2.2.2.2.1.cap v.2.2.2.2.2.2.1.sz),(.slice v.2.2.2.2.2.2.2.1.a v.2.2.2.2.2.2.2.1.len v.2.2.2.2.2.2.2.1.cap v.2.2.2.2.2.2.2.1.sz),(.bool v.2.2.2.2.2.2.2.2.1),(.str v.2.2.2.2.2.2.2.2.2.1),(.slice v.2.2.2.2.2.2.2.2.2.2.1.a v.2.2.2.2.2.2.2.2.2.2.1.len v.2.2.2.2.2.2.2.2.2.2.1.cap v.2.2.2.2.2.2.2.2.2.2.1.sz),(.int .i64 v.2.2.2.2.2.2.2.2.2.2.2.1),(.int .i64 v.2.2.2.2.2.2.2.2.2.2.2.2.1),(.int .i64 v.2.2.2.2.2.2.2.2.2.2.2.2.2.1),(.str v.2.2.2.2.2.2.2.2.2.2.2.2.2.2.1),(.slice v.2.2.2.2.2.2.2.2.2.2.2.2.2.2.2.1.a v.2.2.2.2.2.2.2.2.2.2.2.2.2.2.2.1.len v.2.2.2.2.2.2.2.2.2.2.2.2.2.2.2.1.cap v.2.2.2.2.2.2.2.2.2.2.2.2.2.2.2.1.sz),(.int .i64 v.2.2.2.2.2.2.2.2.2.2.2.2.2.2.2.2.1),(.int .i64 v.2.2.2.2.2.2.2.2.2.2.2.2.2.2.2.2.2.1),(.str v.2.2.2.2.2.2.2.2.2.2.2.2.2.2.2.2.2.2.1),(.slice v.2.2.2.2.2.2.2.2.2.2.2.2.2.2.2.2.2.2.2.1.a v.2.2.2.2.2.2.2.2.2.2.2.2.2.2.2.2.2.2.2.1.len v.2.2.2.2.2.2.2.2.2.2.2.2.2.2.2.2.2.2.2.1.cap v.2.2.2.2.2.2.2.2.2.2.2.2.2.2.2.2.2.2.2.1.sz),(.int .i64 v.2.2.2.2.2.2.2.2.2.2.2.2.2.2.2.2.2.2.2.2.1),(.str v.2.2.2.2.2.2.2.2.2.2.2.2.2.2.2.2.2.2.2.2.2.1),(.slice v.2.2.2.2.2.2.2.2.2.2.2.2.2.2.2.2.2.2.2.2.2.2.1.a v.2.2.2.2.2.2.2.2.2.2.2.2.2.2.2.2.2.2.2.2.2.2.1.len v.2.2.2.2.2.2.2.2.2.2.2.2.2.2.2.2.2.2.2.2.2.2.1.cap v.2.2.2.2.2.2.2.2.2.2.2.2.2.2.2.2.2.2.2.2.2.2.1.sz),(.str v.2.2.2.2.2.2.2.2.2.2.2.2.2.2.2.2.2.2.2.2.2.2.2.1),(.slice v.2.2.2.2.2.2.2.2.2.2.2.2.2.2.2.2.2.2.2.2.2.2.2.2.1.a v.2.2.2.2.2.2.2.2.2.2.2.2.2.2.2.2.2.2.2.2.2.2.2.2.1.len v.2.2.2.2.2.2.2.2.2.2.2.2.2.2.2.2.2.2.2.2.2.2.2.2.1.cap v.2.2.2.2.2.2.2.2.2.2.2.2.2.2.2.2.2.2.2.2.2.2.2.2.1.sz),(.slice v.2.2.2.2.2.2.2.2.2.2.2.2.2.2.2.2.2.2.2.2.2.2.2.2.2.1.a v.2.2.2.2.2.2.2.2.2.2.2.2.2.2.2.2.2.2.2.2.2.2.2.2.2.1.len v.2.2.2.2.2.2.2.2.2.2.2.2.2.2.2.2.2.2.2.2.2.2.2.2.2.1.cap v.2.2.2.2.2.2.2.2.2.2.2.2.2.2.2.2.2.2.2.2.2.2.2.2.2.1.sz),(.int .i64 v.2.2.2.2.2.2.2.2.2.2.2.2.2.2.2.2.2.2.2.2.2.2.2.2.2.2.1),(.int .i64 v.2.2.2.2.2.2.2.2.2.2.2.2.2.2.2.2.2.2.2.2.2.2.2.2.2.2.2.1),(.str v.2.2.2.2.2.2.2.2.2.2.2.2.2.2.2.2.2.2.2.2.2.2.2.2.2.2.2.2.1),(.slice v.2.2.2.2.2.2.2.2.2.2.2.2.2.2.2.2.2.2.2.2.2.2.2.2.2.2.2.2.2.1.a v.2.2.2.2.2.2.2.2.2.2.2.2.2.2.2.2.2.2.2.2.2.2.2.2.2.2.2.2.2.1.len v.2.2.2.2.2.2.2.2.2.2.2.2.2.2.2.2.2.2.2.2.2.2.2.2.2.2.2.2.2.1.cap v.2.2.2.2.2.2.2.2.2.2.2.2.2.2.2.2.2.2.2.2.2.2.2.2.2.2.2.2.2.1.sz),(.slice v.2.2.2.2.2.2.2.2.2.2.2.2.2.2.2.2.2.2.2.2.2.2.2.2.2.2.2.2.2.2.1.a v.2.2.2.2.2.2.2.2.2.2.2.2.2.2.2.2.2.2.2.2.2.2.2.2.2.2.2.2.2.2.1.len v.2.2.2.2.2.2.2.2.2.2.2.2.2.2.2.2.2.2.2.2.2.2.2.2.2.2.2.2.2.2.1.cap v.2.2.2.2.2.2.2.2.2.2.2.2.2.2.2.2.2.2.2.2.2.2.2.2.2.2.2.2.2.2.1.sz),(.slice v.2.2.2.2.2.2.2.2.2.2.2.2.2.2.2.2.2.2.2.2.2.2.2.2.2.2.2.2.2.2.2.1.a v.2.2.2.2.2.2.2.2.2.2.2.2.2.2.2.2.2.2.2.2.2.2.2.2.2.2.2.2.2.2.2.1.len v.2.2.2.2.2.2.2.2.2.2.2.2.2.2.2.2.2.2.2.2.2.2.2.2.2.2.2.2.2.2.2.1.cap v.2.2.2.2.2.2.2.2.2.2.2.2.2.2.2.2.2.2.2.2.2.2.2.2.2.2.2.2.2.2.2.1.sz)]
abbrev yRB {β:Type} (v:Int×Int×Int×List UInt8×SL×Int×Int×List UInt8×SL×Int×List UInt8×SL×List UInt8×SL×SL×β):List AV:=[(.int .i64 v.1),(.int .i64 v.2.1),(.int .i64 v.2.2.1),(.str v.2.2.2.1),(.slice v.2.2.2.2.1.a v.2.2.2.2.1.len v.2.2.2.2.1.cap v.2.2.2.2.1.sz),(.int .i64 v.2.2.2.2.2.1),(.int .i64 v.2.2.2.2.2.2.1),(.str v.2.2.2.2.2.2.2.1),(.slice v.2.2.2.2.2.2.2.2.1.a v.2.2.2.2.2.2.2.2.1.len v.2.2.2.2.2.2.2.2.1.cap v.2.2.2.2.2.2.2.2.1.sz),(.int .i64 v.2.2.2.2.2.2.2.2.2.1),(.str v.2.2.2.2.2.2.2.2.2.2.1),(.slice v.2.2.2.2.2.2.2.2.2.2.2.1.a v.2.2.2.2.2.2.2.2.2.2.2.1.len v.2.2.2.2.2.2.2.2.2.2.2.1.cap v.2.2.2.2.2.2.2.2.2.2.2.1.sz),(.str v.2.2.2.2.2.2.2.2.2.2.2.2.1),(.slice v.2.2.2.2.2.2.2.2.2.2.2.2.2.1.a v.2.2.2.2.2.2.2.2.2.2.2.2.2.1.len v.2.2.2.2.2.2.2.2.2.2.2.2.2.1.cap v.2.2.2.2.2.2.2.2.2.2.2.2.2.1.sz),(.slice v.2.2.2.2.2.2.2.2.2.2.2.2.2.2.1.a v.2.2.2.2.2.2.2.2.2.2.2.2.2.2.1.len v.2.2.2.2.2.2.2.2.2.2.2.2.2.2.1.cap v.2.2.2.2.2.2.2.2.2.2.2.2.2.2.1.sz)]
abbrev yRC {β:Type} (v:Bool×List UInt8×SL×SL×Int×List UInt8×SL×SL×SL×Int×β):List AV:=[(.bool v.1),(.str v.2.1),(.slice v.2.2.1.a v.2.2.1.len v.2.2.1.cap v.2.2.1.sz),(.slice v.2.2.2.1.a v.2.2.2.1.len v.2.2.2.1.cap v.2.2.2.1.sz),(.int .i64 v.2.2.2.2.1),(.str v.2.2.2.2.2.1),(.slice v.2.2.2.2.2.2.1.a v.2.2.2.2.2.2.1.len v.2.2.2.2.2.2.1.cap v.2.2.2.2.2.2.1.sz),(.slice v.2.2.2.2.2.2.2.1.a v.2.2.2.2.2.2.2.1.len v.2.2.2.2.2.2.2.1.cap v.2.2.2.2.2.2.2.1.sz),(.slice v.2.2.2.2.2.2.2.2.1.a v.2.2.2.2.2.2.2.2.1.len v.2.2.2.2.2.2.2.2.1.cap v.2.2.2.2.2.2.2.2.1.sz),(.int .i64 v.2.2.2.2.2.2.2.2.2.1)]
abbrev yRD {β:Type} (v:Int×List UInt8×SL×SL×β):List AV:=[(.int .i64 v.1),(.str v.2.1),(.slice v.2.2.1.a v.2.2.1.len v.2.2.1.cap v.2.2.1.sz),(.slice v.2.2.2.1.a v.2.2.2.1.len v.2.2.2.1.cap v.2.2.2.1.sz)]
abbrev yRE {β:Type} (v:Int×Int×List UInt8×SL×β):List AV:=[(.int .i64 v.1),(.int .i64 v.2.1),(.str v.2.2.1),(.slice v.2.2.2.1.a v.2.2.2.1.len v.2.2.2.1.cap v.2.2.2.1.sz)]
abbrev yRF {β:Type} (v:Bool×List UInt8×Int×List UInt8×SL×SL×β):List AV:=[(.bool v.1),(.str v.2.1),(.int .i64 v.2.2.1),(.str v.2.2.2.1),(.slice v.2.2.2.2.1.a v.2.2.2.2.1.len v.2.2.2.2.1.cap v.2.2.2.2.1.sz),(.slice v.2.2.2.2.2.1.a v.2.2.2.2.2.1.len v.2.2.2.2.2.1.cap v.2.2.2.2.2.1.sz)]
abbrev yRG {β:Type} (v:Bool×List UInt8×SL×SL×Int×β):List AV:=[(.bool v.1),(.str v.2.1),(.slice v.2.2.1.a v.2.2.1.len v.2.2.1.cap v.2.2.1.sz),(.slice v.2.2.2.1.a v.2.2.2.1.len v.2.2.2.1.cap v.2.2.2.1.sz),(.int .i64 v.2.2.2.2.1)]
abbrev yRH {β:Type} (v:List UInt8×SL×β):List AV:=[(.str v.1),(.slice v.2.1.a v.2.1.len v.2.1.cap v.2.1.sz)]
abbrev yRI {β:Type} (v:Int×List UInt8×Int×β):List AV:=[(.int .i64 v.1),(.str v.2.1),(.int .i64 v.2.2.1)]
abbrev yRJ {β:Type} (v:SL×SL×β):List AV:=[(.slice v.1.a v.1.len v.1.cap v.1.sz),(.slice v.2.1.a v.2.1.len v.2.1.cap v.2.1.sz)]
abbrev yZA:List AV:=[(.int .i64 0),(.int .i64 0),(.bool false),(.str []),(.int .i64 0),(.str []),(.slice none 0 0 0),(.slice none 0 0 0),(.bool false),(.str []),(.slice none 0 0 0),(.int .i64 0),(.int .i64 0),(.int .i64 0),(.str []),(.slice none 0 0 0),(.int .i64 0),(.int .i64 0),(.str []),(.slice none 0 0 0),(.int .i64 0),(.str []),(.slice none 0 0 0),(.str []),(.slice none 0 0 0),(.slice none 0 0 0),(.int .i64 0),(.int .i64 0),(.str []),(.slice none 0 0 0),(.slice none 0 0 0),(.slice none 0 0 0)]
abbrev yZB:List AV:=[(.int .i64 0),(.int .i64 0),(.int .i64 0),(.str []),(.slice none 0 0 0),(.int .i64 0),(.int .i64 0),(.str []),(.slice none 0 0 0),(.int .i64 0),(.str []),(.slice none 0 0 0),(.str []),(.slice none 0 0 0),(.slice none 0 0 0)]
abbrev yZC:List AV:=[(.bool false),(.str []),(.slice none 0 0 0),(.slice none 0 0 0),(.int .i64 0),(.str []),(.slice none 0 0 0),(.slice none 0 0 0),(.slice none 0 0 0),(.int .i64 0)]
abbrev yZD:List AV:=[(.int .i64 0),(.str []),(.slice none 0 0 0),(.slice none 0 0 0)]
abbrev yZE:List AV:=[(.int .i64 0),(.str []),(.int .i64 0)]
abbrev yZF:List AV:=[(.bool false),(.str []),(.int .i64 0),(.str []),(.slice none 0 0 0),(.slice none 0 0 0)]
abbrev yZG:List AV:=[(.slice none 0 0 0),(.slice none 0 0 0)]
abbrev yZH:List AV:=[(.bool false),(.str []),(.slice none 0 0 0),(.slice none 0 0 0),(.int .i64 0)]
abbrev yZI:List AV:=[(.int .i64 0),(.int .i64 0),(.str []),(.slice none 0 0 0)]
abbrev yZJ:List AV:=[(.str []),(.slice none 0 0 0)]
abbrev yZK:List AV:=[(.int .i64 0)]
theorem vD {C:CallK} (hC:CallKOK Tryz.prog C) (N:Nat) (x:Ann) (fn:Func) {f:FuncId} {l:List VTy} {t:Ty} {F:lH l→Heap→Option (t.den×Heap)} (h1:E.fn f=some fn:=by kernel_rfl) (h2:fn.body=some (fn.body.getD .skip):=by kernel_rfl) (h3:Nat.ble fn.ntmps 1073741824=true:=by kernel_rfl) (h4:Nat.beq fn.results.size fn.resultTypes.size=true:=by kernel_rfl) (h5:∀ xs h,F xs h=runK E C N x fn (fn.body.getD .skip) t (VTy.tos l xs) h:=by intro _ _;kernel_rfl):gD Tryz.prog f l t F:=uAp oB8 cBg hC h1 h2 h3 h4 h5
def f37 (N:Nat) (a0 a1:Int) (h:Heap):Option (AV×Heap):=let x1:=kB a0 0;(bif x1 then some (AV.nilIface,h)else let h2:=h.push (.row [(.int .i64 a0),(.int .i64 a1),(AV.iface 78 (.int .i64 a0))] .own);some ((AV.iface 127 (.ptr (some (h.next,0)))),h2))
def dBg:Ann:=.n
theorem wAy (N:Nat):gD Tryz.prog 37 [zO2,zO2] (.val zP2) (fun x h=>f37 N x.1 x.2.1 h):=vD kA N dBg Tryz.f37
def f186 (N:Nat) (a0 a1:zQ2) (h:Heap):Option (Bool×Heap):=let x1:Bool:=cE (Int.ofNat a1.length) (Int.ofNat a0.length);(bif x1 then(iA (.val zM2) (lE E h 9 (.str a0) none (some (.int .i64 (Int.ofNat a1.length)))) fun (x2:zQ2)=>let x3:=mB x2 a1;some (x3,h))else some (false,h))
def pB8:Ann:=.n
theorem tB1 (N:Nat):gD Tryz.prog 186 [zM2,zM2] (.val zN2) (fun x h=>f186 N x.1 x.2.1 h):=vD kA N pB8 Tryz.f186
def f140 (N:Nat) (a0 a1:zQ2) (h:Heap):Option (Bool×Heap):=(lA (f186 N a0 a1 h) fun (x1:Bool) h2=>some (x1,h2))
def qB8:Ann:=.n
theorem kAq (N:Nat):gD Tryz.prog 140 [zM2,zM2] (.val zN2) (fun x h=>f140 N x.1 x.2.1 h):=vD (bA (tB1 N) kA) N qB8 Tryz.f140
def f206 (N:Nat) (a0:zQ2) (a1:Int) (h:Heap):Option (Int×Heap):=Qa.wBi a0 a1 h
theorem fAf (N:Nat):pB1 Tryz.prog 206 [zM2,(.one (.int .u8))] (.val zO2) (fun x h=>f206 N x.1 x.2.1 h):=Qa.fAf N
def f187 (N:Nat) (a0:zQ2) (a1:Int) (h:Heap):Option (Int×Heap):=(lA (f206 N a0 a1 h) fun (x1:Int) h2=>some (x1,h2))
def rB8:Ann:=.n
theorem uB1 (N:Nat):gD Tryz.prog 187 [zM2,(.one (.int .u8))] (.val zO2) (fun x h=>f187 N x.1 x.2.1 h):=vD (yAe (fAf N) kA) N rB8 Tryz.f187
def f141 (N:Nat) (a0:zQ2) (a1:Int) (h:Heap):Option (Int×Heap):=(lA (f187 N a0 a1 h) fun (x1:Int) h2=>some (x1,h2))
def tB8:Ann:=.n
theorem lAq (N:Nat):gD Tryz.prog 141 [zM2,(.one (.int .u8))] (.val zO2) (fun x h=>f141 N x.1 x.2.1 h):=vD (bA (uB1 N) kA) N tB8 Tryz.f141
def cA8 (N:Nat) (go:zQ2→Int→Int→Heap→Option (Out×zL1×Heap)) (v0:zQ2) (v1 v4:Int) (h:Heap):Option (Out×zL1×Heap):=let x1:=wB v1 (Int.ofNat v0.length);(bif x1 then(wK v0 v1 fun x2=>let x3:=kB x2 32;(bif x3 then let x4:=dB .i64 (v1+1);go v0 x4 v4 h else(wK v0 v1 fun x5=>let x6:=kB x5 9;(bif x6 then let x7:=dB .i64 (v1+1);go v0 x7 v4 h else(wK v0 v1 fun x8=>let x9:=kB x8 10;(bif x9 then let x10:=dB .i64 (v1+1);go v0 x10 v4 h else(iA (.val zM2) (lE E h 9 (.str v0) (some (.int .i64 v1)) none) fun (x11:zQ2)=>(lA (f140 N x11 [47,47] h) fun (x12:Bool) h13=>(bif x12 then(iA (.val zM2) (lE E h13 9 (.str v0) (some (.int .i64 v1)) none) fun (x14:zQ2)=>(lA (f141 N x14 10 h13) fun (x15:Int) h16=>let x17:=wB x15 0;(bif x17 then some (Out.ret,(v1,(Int.ofNat v0.length),()),h16)else let x18:=dB .i64 (v1+x15);go v0 x18 v4 h16)))else some (Out.ret,(v1,v1,()),h13))))))))))else some ((Out.exit 0),(v1,v4,()),h))
def dAj (N M:Nat) (v0:zQ2) (v1 v4:Int) (h:Heap):Option (Out×zL1×Heap):=iter (fun go s h=>cA8 N (fun v0 v1 v4 h=>go (v0,v1,v4,()) h) s.1 s.2.1 s.2.2.1 h) M (v0,v1,v4,()) h
theorem gAf (N M v0 v1 v4 h):dAj N (M+1) v0 v1 v4 h=cA8 N (dAj N M) v0 v1 v4 h:=rfl
def f90 (N:Nat) (a0:zQ2) (a1:Int) (h:Heap):Option (Int×Heap):=(fE (dAj N N a0 a1 0 h) fun o19 (j20:zL1) h21=>(bif gE o19 (.exit 0) then some (j20.1,h21)else some (j20.2.1,h21)))
def eBg:Ann:=(.two .n (.two (.two (.loop [(0,zM2),(1,zO2),(4,zO2)] [(.exit 0),.ret] [(1,zO2),(4,zO2)] .n) .n) .n))
theorem uB8 (N:Nat):gD Tryz.prog 90 [zM2,zO2] (.val zO2) (fun x h=>f90 N x.1 x.2.1 h):=vD (bA (lAq N) (bA (kAq N) kA)) N eBg Tryz.f90
def f170 (N:Nat) (a0:Int) (h:Heap):Option (Bool×Heap):=let x1:Bool:=cE 97 a0;(bif x1 then let x2:Bool:=cE a0 122;(bif x2 then some (true,h)else let x3:Bool:=cE 65 a0;(bif x3 then let x4:Bool:=cE a0 90;(bif x4 then some (true,h)else let x5:=kB a0 95;(bif x5 then some (true,h)else some (false,h)))else let x6:=kB a0 95;(bif x6 then some (true,h)else some (false,h))))else let x7:Bool:=cE 65 a0;(bif x7 then let x8:Bool:=cE a0 90;(bif x8 then some (true,h)else let x9:=kB a0 95;(bif x9 then some (true,h)else some (false,h)))else let x10:=kB a0 95;(bif x10 then some (true,h)else some (false,h))))
def vB8:Ann:=.n
theorem mAq (N:Nat):gD Tryz.prog 170 [(.one (.int .u8))] (.val zN2) (fun x h=>f170 N x.1 h):=vD kA N vB8 Tryz.f170
def f195 (N:Nat) (a0:Int) (h:Heap):Option (Bool×Heap):=(lA (f170 N a0 h) fun (x1:Bool) h2=>(bif x1 then some (true,h2)else let x3:Bool:=cE 48 a0;(bif x3 then let x4:Bool:=cE a0 57;some (x4,h2)else some (false,h2))))
def wB8:Ann:=.n
theorem vB1 (N:Nat):gD Tryz.prog 195 [(.one (.int .u8))] (.val zN2) (fun x h=>f195 N x.1 h):=vD (bA (mAq N) kA) N wB8 Tryz.f195
def bA2 (N:Nat) (go:zQ2→Int→Heap→Option (Out×zT1×Heap)) (v0:zQ2) (v1:Int) (h:Heap):Option (Out×zT1×Heap):=let x1:=wB v1 (Int.ofNat v0.length);(bif x1 then(wK v0 v1 fun x2=>(lA (f195 N x2 h) fun (x3:Bool) h4=>(bif x3 then let x5:=dB .i64 (v1+1);go v0 x5 h4 else some ((Out.exit 0),(v1,()),h4))))else some ((Out.exit 0),(v1,()),h))
def dA8 (N M:Nat) (v0:zQ2) (v1:Int) (h:Heap):Option (Out×zT1×Heap):=iter (fun go s h=>bA2 N (fun v0 v1 h=>go (v0,v1,()) h) s.1 s.2.1 h) M (v0,v1,()) h
theorem dAc (N M v0 v1 h):dA8 N (M+1) v0 v1 h=bA2 N (dA8 N M) v0 v1 h:=rfl
def f171 (N:Nat) (a0:zQ2) (a1:Int) (h:Heap):Option (Int×Heap):=(fE (dA8 N N a0 a1 h) fun _ (j7:zT1) h8=>some (j7.1,h8))
def yB8:Ann:=(.two .n (.two (.two (.loop [(0,zM2),(1,zO2)] [(.exit 0)] [(1,zO2)] .n) .n) .n))
theorem iAf (N:Nat):gD Tryz.prog 171 [zM2,zO2] (.val zO2) (fun x h=>f171 N x.1 x.2.1 h):=vD (bA (vB1 N) kA) N yB8 Tryz.f171
def f172 (N:Nat) (a0:zQ2) (h:Heap):Option (Bool×Heap):=let x1:=mB a0 [102,110];(bif x1 then(bif x1 then some (true,h)else some (false,h))else let x2:=mB a0 [115,116,114,117,99,116];(bif x2 then(bif x2 then some (true,h)else some (false,h))else let x3:=mB a0 [112,117,98];(bif x3 then(bif x3 then some (true,h)else some (false,h))else let x4:=mB a0 [108,101,116];(bif x4 then(bif x4 then some (true,h)else some (false,h))else let x5:=mB a0 [109,117,116];(bif x5 then(bif x5 then some (true,h)else some (false,h))else let x6:=mB a0 [105,102];(bif x6 then(bif x6 then some (true,h)else some (false,h))else let x7:=mB a0 [101,108,115,101];(bif x7 then(bif x7 then some (true,h)else some (false,h))else let x8:=mB a0 [119,104,105,108,101];(bif x8 then(bif x8 then some (true,h)else some (false,h))else let x9:=mB a0 [108,111,111,112];(bif x9 then(bif x9 then some (true,h)else some (false,h))else let x10:=mB a0 [98,114,101,97,107];(bif x10 then(bif x10 then some (true,h)else some (false,h))else let x11:=mB a0 [99,111,110,116,105,110,117,101];(bif x11 then(bif x11 then some (true,h)else some (false,h))else let x12:=mB a0 [114,101,116,117,114,110];(bif x12 then(bif x12 then some (true,h)else some (false,h))else let x13:=mB a0 [100,114,111,112];(bif x13 then(bif x13 then some (true,h)else some (false,h))else let x14:=mB a0 [116,114,117,101];(bif x14 then(bif x14 then some (true,h)else some (false,h))else let x15:=mB a0 [102,97,108,115,101]
 (bif x15 then(bif x15 then some (true,h)else some (false,h))else let x16:=mB a0 [105,110,116];(bif x16 then(bif x16 then some (true,h)else some (false,h))else let x17:=mB a0 [98,111,111,108];(bif x17 then some (true,h)else some (false,h))))))))))))))))))
def aB9:Ann:=.n
theorem wB1 (N:Nat):gD Tryz.prog 172 [zM2] (.val zN2) (fun x h=>f172 N x.1 h):=vD kA N aB9 Tryz.f172
def f142 (N:Nat) (a0:zQ2) (a1:Int) (h:Heap):Option ((zP×Int×Unit)×Heap):=let h1:=h.push (.row yZE .own);(lA (f171 N a0 a1 h1) fun (x2:Int) h3=>(iA (.val zM2) (lE E h3 9 (.str a0) (some (.int .i64 a1)) (some (.int .i64 x2))) fun (x4:zQ2)=>(lA (f172 N x4 h3) fun (x5:Bool) h6=>(bif x5 then(rA (h6.store (h.next,0) [(.int .i64 2),(.str x4),(.int .i64 a1)]) fun h7=>(iA (.val zF) (h7.cells (h.next,0) 3) fun (x8:zP)=>some (((x8.1,x8.2.1,x8.2.2.1,()),x2,()),h7)))else let x9:Bool:=cE (Int.ofNat x4.length) 32;(bif x9 then(rA (h6.store (h.next,0) [(.int .i64 1),(.str x4),(.int .i64 a1)]) fun h10=>(iA (.val zF) (h10.cells (h.next,0) 3) fun (x11:zP)=>some (((x11.1,x11.2.1,x11.2.2.1,()),x2,()),h10)))else(rA (h6.store (h.next,0) yZE) fun h12=>(iA (.val zF) (h12.cells (h.next,0) 3) fun (x13:zP)=>some (((x13.1,x13.2.1,x13.2.2.1,()),0,()),h12))))))))
def bB9:Ann:=.n
theorem yB1 (N:Nat):gD Tryz.prog 142 [zM2,zO2] (.tup [zF,zO2]) (fun x h=>f142 N x.1 x.2.1 h):=vD (bA (wB1 N) (bA (iAf N) kA)) N bB9 Tryz.f142
def dA2 (N:Nat) (go:zQ2→Int→zJ2→Int→Int→Int→Int→Heap→Option (Out×zJ1×Heap)) (v0:zQ2) (v1:Int) (v4:zJ2) (v5 v6 v7 v8:Int) (h:Heap):Option (Out×zJ1×Heap):=let x4:=wB v8 v6;(bif x4 then(wK v0 v8 fun x5=>let x6:=wB x5 48;(bif x6 then(rA v4 fun q8=>(rA (h.store q8 yZE) fun h7=>some (Out.ret,(v0,v1,v4,0,v6,()),h7)))else(wK v0 v8 fun x9=>let x10:=wB 57 x9;(bif x10 then(rA v4 fun q12=>(rA (h.store q12 yZE) fun h11=>some (Out.ret,(v0,v1,v4,0,v6,()),h11)))else let x13:=dB .i64 (v7 * 10);(wK v0 v8 fun x14=>let x15:=dB .u8 (x14-48);let x16:=dB .i64 x15;let x17:=dB .i64 (x13+x16);let x18:=wB 2147483647 x17;(bif x18 then(rA v4 fun q20=>(rA (h.store q20 yZE) fun h19=>some (Out.ret,(v0,v1,v4,0,v6,()),h19)))else let x21:=dB .i64 (v8+1);go v0 v1 v4 v5 v6 x17 x21 h))))))else some ((Out.exit 0),(v0,v1,v4,v5,v6,()),h))
def eA8 (N M:Nat) (v0:zQ2) (v1:Int) (v4:zJ2) (v5 v6 v7 v8:Int) (h:Heap):Option (Out×zJ1×Heap):=iter (fun go s h=>dA2 N (fun v0 v1 v4 v5 v6 v7 v8 h=>go (v0,v1,v4,v5,v6,v7,v8,()) h) s.1 s.2.1 s.2.2.1 s.2.2.2.1 s.2.2.2.2.1 s.2.2.2.2.2.1 s.2.2.2.2.2.2.1 h) M (v0,v1,v4,v5,v6,v7,v8,()) h
theorem eAc (N M v0 v1 v4 v5 v6 v7 v8 h):eA8 N (M+1) v0 v1 v4 v5 v6 v7 v8 h=dA2 N (eA8 N M) v0 v1 v4 v5 v6 v7 v8 h:=rfl
def f143 (N:Nat) (a0:zQ2) (a1:Int) (h:Heap):Option ((zP×Int×Unit)×Heap):=let h1:=h.push (.row yZE .own);(lA (f171 N a0 a1 h1) fun (x2:Int) h3=>(fE (eA8 N N a0 a1 (some (h.next,0)) 0 x2 0 a1 h3) fun o22 (j23:zJ1) h24=>(bif gE o22 (.exit 0) then(wK j23.1 j23.2.1 fun x25=>let x26:=kB x25 48;(bif x26 then let x27:=dB .i64 (j23.2.2.2.2.1-j23.2.1);let x28:=wB 1 x27;(bif x28 then(rA j23.2.2.1 fun q30=>(rA (h24.store q30 yZE) fun h29=>(rA j23.2.2.1 fun q31=>(iA (.val zF) (h29.cells q31 3) fun (x32:zP)=>some (((x32.1,x32.2.1,x32.2.2.1,()),0,()),h29)))))else(iA (.val zM2) (lE E h24 9 (.str j23.1) (some (.int .i64 j23.2.1)) (some (.int .i64 j23.2.2.2.2.1))) fun (x33:zQ2)=>(rA j23.2.2.1 fun q35=>(rA (h24.store q35 [(.int .i64 4),(.str x33),(.int .i64 j23.2.1)]) fun h34=>(rA j23.2.2.1 fun q36=>(iA (.val zF) (h34.cells q36 3) fun (x37:zP)=>some (((x37.1,x37.2.1,x37.2.2.1,()),j23.2.2.2.2.1,()),h34)))))))else(iA (.val zM2) (lE E h24 9 (.str j23.1) (some (.int .i64 j23.2.1)) (some (.int .i64 j23.2.2.2.2.1))) fun (x38:zQ2)=>(rA j23.2.2.1 fun q40=>(rA (h24.store q40 [(.int .i64 4),(.str x38),(.int .i64 j23.2.1)]) fun h39=>(rA j23.2.2.1 fun q41=>(iA (.val zF) (h39.cells q41 3) fun (x42:zP)=>some (((x42.1,x42.2.1,x42.2.2.1,()),j23.2.2.2.2.1,()),h39))))))))else(rA j23.2.2.1 fun q43=>(iA (.val zF) (h24.cells q43 3) fun (x44:zP)=>some (((x44.1,x44.2.1,x44.2.2.1,()),j23.2.2.2.1,()),h24))))))
def cB9:Ann:=(.two .n (.two .n (.two .n (.two (.two .n (.two (.loop [(0,zM2),(1,zO2),(4,zK2),(5,zO2),(6,zO2),(7,zO2),(8,zO2)] [(.exit 0),.ret] [(0,zM2),(1,zO2),(4,zK2),(5,zO2),(6,zO2)] .n) .n)) .n))))
theorem aB2 (N:Nat):gD Tryz.prog 143 [zM2,zO2] (.tup [zF,zO2]) (fun x h=>f143 N x.1 x.2.1 h):=vD (bA (iAf N) kA) N cB9 Tryz.f143
def f144 (N:Nat) (a0:zQ2) (a1:Int) (h:Heap):Option ((zP×Int×Unit)×Heap):=let h1:=h.push (.row yZE .own);let x2:=dB .i64 (a1+1);let x3:=kB x2 (Int.ofNat a0.length);(bif x3 then(rA (h1.store (h.next,0) yZE) fun h4=>(iA (.val zF) (h4.cells (h.next,0) 3) fun (x5:zP)=>some (((x5.1,x5.2.1,x5.2.2.1,()),0,()),h4)))else let x6:=dB .i64 (a1+1);(wK a0 x6 fun x7=>(lA (f170 N x7 h1) fun (x8:Bool) h9=>let x10:=!x8;(bif x10 then(rA (h9.store (h.next,0) yZE) fun h11=>(iA (.val zF) (h11.cells (h.next,0) 3) fun (x12:zP)=>some (((x12.1,x12.2.1,x12.2.2.1,()),0,()),h11)))else let x13:=dB .i64 (a1+1);(lA (f171 N a0 x13 h9) fun (x14:Int) h15=>let x16:=dB .i64 (x14-a1);let x17:=dB .i64 (x16-1);let x18:=wB 32 x17;(bif x18 then(rA (h15.store (h.next,0) yZE) fun h19=>(iA (.val zF) (h19.cells (h.next,0) 3) fun (x20:zP)=>some (((x20.1,x20.2.1,x20.2.2.1,()),0,()),h19)))else let x21:=dB .i64 (a1+1);(iA (.val zM2) (lE E h15 9 (.str a0) (some (.int .i64 x21)) (some (.int .i64 x14))) fun (x22:zQ2)=>(rA (h15.store (h.next,0) [(.int .i64 3),(.str x22),(.int .i64 a1)]) fun h23=>(iA (.val zF) (h23.cells (h.next,0) 3) fun (x24:zP)=>some (((x24.1,x24.2.1,x24.2.2.1,()),x14,()),h23))))))))))
def dB9:Ann:=.n
theorem bB2 (N:Nat):gD Tryz.prog 144 [zM2,zO2] (.tup [zF,zO2]) (fun x h=>f144 N x.1 x.2.1 h):=vD (bA (iAf N) (bA (mAq N) kA)) N dB9 Tryz.f144
def eA2 (N:Nat) (go:zQ2→Int→zJ2→Int→SL→Int→Int→Heap→Option (Out×zA1×Heap)) (v0:zQ2) (v1:Int) (v4:zJ2) (v5:Int) (v8:SL) (v9 v10:Int) (h:Heap):Option (Out×zA1×Heap):=let x3:=wB v10 v9;(bif x3 then(ixK v8.a v8.len v10 1 fun q4=>(iA (.val zM2) (h.cell q4) fun (x5:zQ2)=>(iA (.val zM2) (lE E h 9 (.str v0) (some (.int .i64 v1)) none) fun (x6:zQ2)=>(lA (f140 N x6 x5 h) fun (x7:Bool) h8=>(bif x7 then let x9:=dB .i64 (v1+2);(rA v4 fun q11=>(rA (h8.store q11 [(.int .i64 5),(.str x5),(.int .i64 v1)]) fun h10=>some (Out.ret,(v0,v1,v4,x9,()),h10)))else let x12:=dB .i64 (v10+1);go v0 v1 v4 v5 v8 v9 x12 h8)))))else some ((Out.exit 0),(v0,v1,v4,v5,()),h))
def fA8 (N M:Nat) (v0:zQ2) (v1:Int) (v4:zJ2) (v5:Int) (v8:SL) (v9 v10:Int) (h:Heap):Option (Out×zA1×Heap):=iter (fun go s h=>eA2 N (fun v0 v1 v4 v5 v8 v9 v10 h=>go (v0,v1,v4,v5,v8,v9,v10,()) h) s.1 s.2.1 s.2.2.1 s.2.2.2.1 s.2.2.2.2.1 s.2.2.2.2.2.1 s.2.2.2.2.2.2.1 h) M (v0,v1,v4,v5,v8,v9,v10,()) h
theorem fAc (N M v0 v1 v4 v5 v8 v9 v10 h):fA8 N (M+1) v0 v1 v4 v5 v8 v9 v10 h=eA2 N (fA8 N M) v0 v1 v4 v5 v8 v9 v10 h:=rfl
def f145 (N:Nat) (a0:zQ2) (a1:Int) (h:Heap):Option ((zP×Int×Unit)×Heap):=let h1:=h.push (.row yZE .own);let h2:=h1.push (.row [(.str [58,58]),(.str [45,62]),(.str [61,61])] .own);(fE (fA8 N N a0 a1 (some (h.next,0)) 0 ⟨(some (h1.next,0)),3,3,1⟩ (Int.ofNat 3) 0 h2) fun o13 (j14:zA1) h15=>(bif gE o13 (.exit 0) then(wK j14.1 j14.2.1 fun x16=>(lA (f141 N [40,41,123,125,60,62,44,59,58,46,42,38,43,45,61,33] x16 h15) fun (x17:Int) h18=>let x19:=wB x17 0;(bif x19 then(rA j14.2.2.1 fun q21=>(rA (h18.store q21 yZE) fun h20=>(rA j14.2.2.1 fun q22=>(iA (.val zF) (h20.cells q22 3) fun (x23:zP)=>some (((x23.1,x23.2.1,x23.2.2.1,()),0,()),h20)))))else let x24:=dB .i64 (j14.2.1+1);(iA (.val zM2) (lE E h18 9 (.str j14.1) (some (.int .i64 j14.2.1)) (some (.int .i64 x24))) fun (x25:zQ2)=>let x26:=dB .i64 (j14.2.1+1);(rA j14.2.2.1 fun q28=>(rA (h18.store q28 [(.int .i64 5),(.str x25),(.int .i64 j14.2.1)]) fun h27=>(rA j14.2.2.1 fun q29=>(iA (.val zF) (h27.cells q29 3) fun (x30:zP)=>some (((x30.1,x30.2.1,x30.2.2.1,()),x26,()),h27)))))))))else(rA j14.2.2.1 fun q31=>(iA (.val zF) (h15.cells q31 3) fun (x32:zP)=>some (((x32.1,x32.2.1,x32.2.2.1,()),j14.2.2.2.1,()),h15)))))
def eB9:Ann:=(.two .n (.two (.two .n (.two (.loop [(0,zM2),(1,zO2),(4,zK2),(5,zO2),(8,zL2),(9,zO2),(10,zO2)] [(.exit 0),.ret] [(0,zM2),(1,zO2),(4,zK2),(5,zO2)] .n) .n)) .n))
theorem cB2 (N:Nat):gD Tryz.prog 145 [zM2,zO2] (.tup [zF,zO2]) (fun x h=>f145 N x.1 x.2.1 h):=vD (bA (lAq N) (bA (kAq N) kA)) N eB9 Tryz.f145
def f91 (N:Nat) (a0:zQ2) (a1:Int) (h:Heap):Option ((zP×Int×Unit)×Heap):=let h1:=h.push (.row yZE .own);(rA (α:=Sum (zQ×Heap) (Sum (zK1×Heap) (Empty))) ((wK a0 a1 fun x2=>(rA (α:=Sum (zQ×Heap) (Sum (zQ×Heap) (Sum (zK1×Heap) (Empty)))) ((rA (α:=Sum (zQ×Heap) (Sum (zQ×Heap) (Sum (zQ×Heap) (Sum (zK1×Heap) (Empty))))) ((rA (α:=Sum (zQ×Heap) (Sum (zQ×Heap) (Sum (zQ×Heap) (Sum (zQ×Heap) (Sum (zQ×Heap) (Empty)))))) ((rA (α:=Sum (zA1×Heap) (Sum (zQ×Heap) (Empty))) ( let x3:Bool:=cE 97 x2;(bif x3 then let x4:Bool:=cE x2 122;(bif x4 then some (Sum.inr (Sum.inl ((a0,a1,(some (h.next,0)),()),h1)))else some (Sum.inl ((a0,a1,(some (h.next,0)),x2,()),h1)))else some (Sum.inl ((a0,a1,(some (h.next,0)),x2,()),h1)))) fun j5=>(gF j5 (fun (j6:zA1) h7=>(rA (α:=Sum (zA1×Heap) (Sum (zQ×Heap) (Empty))) ((lA (α:=zV1) ( let x9:Bool:=cE 65 j6.2.2.2.1;(bif x9 then let x10:Bool:=cE j6.2.2.2.1 90;some ((j6.1,j6.2.1,j6.2.2.1,j6.2.2.2.1,x10,()),h7)else some ((j6.1,j6.2.1,j6.2.2.1,j6.2.2.2.1,false,()),h7))) fun (j11:zV1) h12=>(bif j11.2.2.2.2.1 then(bif j11.2.2.2.2.1 then some (Sum.inr (Sum.inl ((j11.1,j11.2.1,j11.2.2.1,()),h12)))else some (Sum.inl ((j11.1,j11.2.1,j11.2.2.1,j11.2.2.2.1,()),h12)))else let x13:=kB j11.2.2.2.1 95;(bif x13 then some (Sum.inr (Sum.inl ((j11.1,j11.2.1,j11.2.2.1,()),h12)))else some (Sum.inl ((j11.1,j11.2.1,j11.2.2.1,j11.2.2.2.1,()),h12)))))) fun j14=>(gF j14 (fun (j15:zA1) h16=>let x18:=kB j15.2.2.2.1 48;(bif x18 then some (Sum.inr (Sum.inr (Sum.inl ((j15.1,j15.2.1,j15.2.2.1,()),h16))))
 else(rA (α:=Sum (zA1×Heap) (Sum (zQ×Heap) (Empty))) ( let x19:Bool:=cE 49 j15.2.2.2.1;(bif x19 then let x20:Bool:=cE j15.2.2.2.1 57;(bif x20 then some (Sum.inr (Sum.inl ((j15.1,j15.2.1,j15.2.2.1,()),h16)))else some (Sum.inl ((j15.1,j15.2.1,j15.2.2.1,j15.2.2.2.1,()),h16)))else some (Sum.inl ((j15.1,j15.2.1,j15.2.2.1,j15.2.2.2.1,()),h16)))) fun j21=>(gF j21 (fun (j22:zA1) h23=>let x25:=kB j22.2.2.2.1 39;(bif x25 then some (Sum.inr (Sum.inr (Sum.inr (Sum.inr (Sum.inl ((j22.1,j22.2.1,j22.2.2.1,()),h23))))))else some (Sum.inr (Sum.inl ((j22.1,j22.2.1,j22.2.2.1,()),h23))))) fun j24=>(gF j24 (fun (j26:zQ) h27=>some (Sum.inr (Sum.inr (Sum.inr (Sum.inl ((j26.1,j26.2.1,j26.2.2.1,()),h27)))))) fun _=>none))))) fun j17=>(gF j17 (fun (j29:zQ) h30=>some (Sum.inl ((j29.1,j29.2.1,j29.2.2.1,()),h30))) fun _=>none)))) fun j8=>(gF j8 (fun (j32:zQ) h33=>some (Sum.inl ((j32.1,j32.2.1,j32.2.2.1,()),h33))) fun _=>none)))) fun j35=>(gF j35 (fun (j36:zQ) h37=>(lA (f142 N j36.1 j36.2.1 h37) fun (x39:(zP×Int×Unit)) h40=>(rA j36.2.2.1 fun q42=>(rA (h40.store q42 (yRI x39.1)) fun h41=>some (Sum.inr (Sum.inr (Sum.inr (Sum.inl ((j36.2.2.1,x39.2.1,()),h41))))))))) fun j38=>(gF j38 (fun (j43:zQ) h44=>some (Sum.inr (Sum.inl ((j43.1,j43.2.1,j43.2.2.1,()),h44)))) fun j45=>(gF j45 (fun (j46:zQ) h47=>some (Sum.inl ((j46.1,j46.2.1,j46.2.2.1,()),h47))) fun j48=>(gF j48 (fun (j49:zQ) h50=>some (Sum.inl ((j49.1,j49.2.1,j49.2.2.1,()),h50))) fun j51=>(gF j51 (fun (j52:zQ) h53=>
 some (Sum.inr (Sum.inr (Sum.inl ((j52.1,j52.2.1,j52.2.2.1,()),h53))))) fun _=>none))))))) fun j55=>(gF j55 (fun (j56:zQ) h57=>(lA (f143 N j56.1 j56.2.1 h57) fun (x59:(zP×Int×Unit)) h60=>(rA j56.2.2.1 fun q62=>(rA (h60.store q62 (yRI x59.1)) fun h61=>some (Sum.inr (Sum.inr (Sum.inl ((j56.2.2.1,x59.2.1,()),h61)))))))) fun j58=>(gF j58 (fun (j63:zQ) h64=>some (Sum.inr (Sum.inl ((j63.1,j63.2.1,j63.2.2.1,()),h64)))) fun j65=>(gF j65 (fun (j66:zQ) h67=>some (Sum.inl ((j66.1,j66.2.1,j66.2.2.1,()),h67))) fun j68=>(gF j68 (fun (j69:zK1) h70=>some (Sum.inr (Sum.inr (Sum.inl ((j69.1,j69.2.1,()),h70))))) fun _=>none)))))) fun j72=>(gF j72 (fun (j73:zQ) h74=>(lA (f144 N j73.1 j73.2.1 h74) fun (x76:(zP×Int×Unit)) h77=>(rA j73.2.2.1 fun q79=>(rA (h77.store q79 (yRI x76.1)) fun h78=>some (Sum.inr (Sum.inl ((j73.2.2.1,x76.2.1,()),h78))))))) fun j75=>(gF j75 (fun (j80:zQ) h81=>some (Sum.inl ((j80.1,j80.2.1,j80.2.2.1,()),h81))) fun j82=>(gF j82 (fun (j83:zK1) h84=>some (Sum.inr (Sum.inl ((j83.1,j83.2.1,()),h84)))) fun _=>none)))))) fun j86=>(gF j86 (fun (j87:zQ) h88=>(lA (f145 N j87.1 j87.2.1 h88) fun (x90:(zP×Int×Unit)) h91=>(rA j87.2.2.1 fun q93=>(rA (h91.store q93 (yRI x90.1)) fun h92=>(rA j87.2.2.1 fun q94=>(iA (.val zF) (h92.cells q94 3) fun (x95:zP)=>some (((x95.1,x95.2.1,x95.2.2.1,()),x90.2.1,()),h92))))))) fun j89=>(gF j89 (fun (j96:zK1) h97=>(rA j96.1 fun q99=>(iA (.val zF) (h97.cells q99 3) fun (x100:zP)=>some (((x100.1,x100.2.1,x100.2.2.1,()),j96.2.1,()),h97)))) fun _=>
 none)))
def fBg:Ann:=(.two .n (.two (.joinO [(.norm,[(0,zM2),(1,zO2),(4,zK2)]),(.ret,[(4,zK2),(5,zO2)])] (.two .n (.two (.two (.joinO [(.norm,[(0,zM2),(1,zO2),(4,zK2)]),((.exit 0),[(0,zM2),(1,zO2),(4,zK2)]),(.ret,[(4,zK2),(5,zO2)])] (.two (.two (.joinO [(.norm,[(0,zM2),(1,zO2),(4,zK2)]),((.exit 0),[(0,zM2),(1,zO2),(4,zK2)]),((.exit 5),[(0,zM2),(1,zO2),(4,zK2)]),(.ret,[(4,zK2),(5,zO2)])] (.two (.two (.two (.joinO [(.norm,[(0,zM2),(1,zO2),(4,zK2)]),((.exit 0),[(0,zM2),(1,zO2),(4,zK2)]),((.exit 3),[(0,zM2),(1,zO2),(4,zK2)]),((.exit 4),[(0,zM2),(1,zO2),(4,zK2)]),((.exit 5),[(0,zM2),(1,zO2),(4,zK2)])] (.two (.two (.two (.two (.joinO [(.norm,[(0,zM2),(1,zO2),(4,zK2),(6,(.one (.int .u8)))]),((.exit 1),[(0,zM2),(1,zO2),(4,zK2)])] .n) (.two (.joinO [(.norm,[(0,zM2),(1,zO2),(4,zK2),(6,(.one (.int .u8)))]),((.exit 2),[(0,zM2),(1,zO2),(4,zK2)])] (.two (.two (.join [(0,zM2),(1,zO2),(4,zK2),(6,(.one (.int .u8))),(17,zN2)] .n) .n) .n)) (.two .n (.two (.joinO [(.norm,[(0,zM2),(1,zO2),(4,zK2),(6,(.one (.int .u8)))]),((.exit 4),[(0,zM2),(1,zO2),(4,zK2)])] .n) .n)))) .n) .n) .n)) .n) .n) .n)) .n) .n)) .n) .n))) .n))
theorem fB9 (N:Nat):gD Tryz.prog 91 [zM2,zO2] (.tup [zF,zO2]) (fun x h=>f91 N x.1 x.2.1 h):=vD (bA (cB2 N) (bA (bB2 N) (bA (aB2 N) (bA (yB1 N) kA)))) N fBg Tryz.f91
def gA8 (N:Nat) (go:zQ2→SL→AV→SL→Int→Heap→Option (Out×zR1×Heap)) (v0:zQ2) (v2:SL) (v3:AV) (v4:SL) (v5:Int) (h:Heap):Option (Out×zR1×Heap):=let x6:=wB v5 (Int.ofNat v0.length);(bif x6 then(lA (f91 N v0 v5 h) fun (x7:(zP×Int×Unit)) h8=>let h9:=h8.push (.row yZE .own);(rA (h9.store (h8.next,0) (yRI x7.1)) fun h10=>let x11:=kB x7.2.1 0;(bif x11 then(lA (f37 N 20 v5 h10) fun (x12:AV) h13=>some (Out.ret,(v0,⟨none,0,0,0⟩,x12,v4,()),h13))else(iA (.val zF) (h10.cells (h8.next,0) 3) fun (x14:zP)=>let h15:=h10.push (.row (yRI x14) .own);(aE (.val zL2) (iB E 57 57 (.slice v4.a v4.len v4.cap v4.sz) (.slice (some (h10.next,0)) 1 1 3) h15) fun (x16:SL) h17=>(lA (f90 N v0 x7.2.1 h17) fun (x18:Int) h19=>go v0 v2 v3 x16 x18 h19))))))else some ((Out.exit 0),(v0,v2,v3,v4,()),h))
def gAc (N M:Nat) (v0:zQ2) (v2:SL) (v3:AV) (v4:SL) (v5:Int) (h:Heap):Option (Out×zR1×Heap):=iter (fun go s h=>gA8 N (fun v0 v2 v3 v4 v5 h=>go (v0,v2,v3,v4,v5,()) h) s.1 s.2.1 s.2.2.1 s.2.2.2.1 s.2.2.2.2.1 h) M (v0,v2,v3,v4,v5,()) h
theorem jAf (N M v0 v2 v3 v4 v5 h):gAc N (M+1) v0 v2 v3 v4 v5 h=gA8 N (gAc N M) v0 v2 v3 v4 v5 h:=rfl
def f54 (N:Nat) (a0:zQ2) (h:Heap):Option ((SL×AV×Unit)×Heap):=let x1:=wB 1048576 (Int.ofNat a0.length);(bif x1 then(lA (f37 N 5 0 h) fun (x2:AV) h3=>some ((⟨none,0,0,0⟩,x2,()),h3))else(lA (f90 N a0 0 h) fun (x4:Int) h5=>(fE (gAc N N a0 ⟨none,0,0,0⟩ AV.nilIface ⟨none,0,0,0⟩ x4 h5) fun o20 (j21:zR1) h22=>(bif gE o20 (.exit 0) then let h23:=h22.push (.row [(.int .i64 0),(.str []),(.int .i64 (Int.ofNat j21.1.length))] .own);(aE (.val zL2) (iB E 57 57 (.slice j21.2.2.2.1.a j21.2.2.2.1.len j21.2.2.2.1.cap j21.2.2.2.1.sz) (.slice (some (h22.next,0)) 1 1 3) h23) fun (x24:SL) h25=>some ((x24,AV.nilIface,()),h25))else some ((j21.2.1,j21.2.2.1,()),h22)))))
def gBg:Ann:=(.two .n (.two .n (.two .n (.two .n (.two (.two (.loop [(0,zM2),(2,zL2),(3,zP2),(4,zL2),(5,zO2)] [(.exit 0),.ret] [(0,zM2),(2,zL2),(3,zP2),(4,zL2)] .n) .n) .n)))))
theorem yAy (N:Nat):gD Tryz.prog 54 [zM2] (.tup [zL2,zP2]) (fun x h=>f54 N x.1 h):=vD (bA (fB9 N) (bA (uB8 N) (bA (wAy N) kA))) N gBg Tryz.f54
def f56 (N:Nat) (a0:zJ2) (h:Heap):Option (zP×Heap):=let h1:=h.push (.row yZE .own);(rA a0 fun q2=>(iA (.val zL2) (h1.cell (q2.1,q2.2+0)) fun (x3:SL)=>(rA a0 fun q4=>(iA (.val zO2) (h1.cell (q4.1,q4.2+1)) fun (x5:Int)=>(ixK x3.a x3.len x5 3 fun q6=>(iA (.val zF) (h1.cells q6 3) fun (x7:zP)=>(rA (h1.store (h.next,0) (yRI x7)) fun h8=>(iA (.val zF) (h8.cells (h.next,0) 3) fun (x9:zP)=>some ((x9.1,x9.2.1,x9.2.2.1,()),h8)))))))))
def iBg:Ann:=.n
theorem fO (N:Nat):gD Tryz.prog 56 [zK2] (.val zF) (fun x h=>f56 N x.1 h):=vD kA N iBg Tryz.f56
def f57 (N:Nat) (a0:zJ2) (a1:Int) (h:Heap):Option ((Unit)×Heap):=(rA a0 fun q1=>(iA (.val zP2) (h.cell (q1.1,q1.2+3)) fun (x2:AV)=>(iA (.val zN2) (cK E .eql 29 (.tmp 7) (.const .nilIface) x2 AV.nilIface) fun (x3:Bool)=>(bif x3 then(lA (f56 N a0 h) fun (x4:zP) h5=>(lA (f37 N a1 x4.2.2.1 h5) fun (x6:AV) h7=>(rA a0 fun q8=>(uD (AV.single x6) (rA (h7.store (q8.1,q8.2+3) [x6]) fun h9=>some ((()),h9))))))else some ((()),h)))))
def jBg:Ann:=.n
theorem cY (N:Nat):gD Tryz.prog 57 [zK2,zO2] (.tup []) (fun x h=>f57 N x.1 x.2.1 h):=vD (bA (fO N) (bA (wAy N) kA)) N jBg Tryz.f57
def f146 (N:Nat) (a0:zJ2) (a1:Int) (a2:zQ2) (h:Heap):Option (Bool×Heap):=(lA (f56 N a0 h) fun (x1:zP) h2=>let h3:=h2.push (.row yZE .own);(rA (h3.store (h2.next,0) (yRI x1)) fun h4=>(rA a0 fun q5=>(iA (.val zP2) (h4.cell (q5.1,q5.2+3)) fun (x6:AV)=>(iA (.val zN2) (cK E .eql 29 (.tmp 13) (.const .nilIface) x6 AV.nilIface) fun (x7:Bool)=>(bif x7 then(iA (.val zO2) (h4.cell ((h2.next,0).1,(h2.next,0).2+0)) fun (x8:Int)=>let x9:=kB x8 a1;(bif x9 then(iA (.val zM2) (h4.cell ((h2.next,0).1,(h2.next,0).2+1)) fun (x10:zQ2)=>let x11:=mB x10 a2;some (x11,h4))else some (false,h4)))else some (false,h4)))))))
def gB9:Ann:=.n
theorem fA2 (N:Nat):gD Tryz.prog 146 [zK2,zO2,zM2] (.val zN2) (fun x h=>f146 N x.1 x.2.1 x.2.2.1 h):=vD (bA (fO N) kA) N gB9 Tryz.f146
def f92 (N:Nat) (a0:zJ2) (a1:zQ2) (h:Heap):Option (Bool×Heap):=(lA (f146 N a0 2 a1 h) fun (x1:Bool) h2=>let x3:=!x1;(bif x3 then some (false,h2)else(rA a0 fun q4=>(iA (.val zO2) (h2.cell (q4.1,q4.2+1)) fun (x5:Int)=>let x6:=dB .i64 (x5+1);(rA a0 fun q7=>(rA (h2.store (q7.1,q7.2+1) [(.int .i64 x6)]) fun h8=>some (true,h8)))))))
def kBg:Ann:=.n
theorem dY (N:Nat):gD Tryz.prog 92 [zK2,zM2] (.val zN2) (fun x h=>f92 N x.1 x.2.1 h):=vD (bA (fA2 N) kA) N kBg Tryz.f92
def f93 (N:Nat) (a0:zJ2) (a1:zQ2) (h:Heap):Option (Bool×Heap):=(lA (f146 N a0 5 a1 h) fun (x1:Bool) h2=>let x3:=!x1;(bif x3 then some (false,h2)else(rA a0 fun q4=>(iA (.val zO2) (h2.cell (q4.1,q4.2+1)) fun (x5:Int)=>let x6:=dB .i64 (x5+1);(rA a0 fun q7=>(rA (h2.store (q7.1,q7.2+1) [(.int .i64 x6)]) fun h8=>some (true,h8)))))))
def lBg:Ann:=.n
theorem eH (N:Nat):gD Tryz.prog 93 [zK2,zM2] (.val zN2) (fun x h=>f93 N x.1 x.2.1 h):=vD (bA (fA2 N) kA) N lBg Tryz.f93
def f94 (N:Nat) (a0:zJ2) (a1:Int) (h:Heap):Option (zQ2×Heap):=(lA (f56 N a0 h) fun (x1:zP) h2=>let h3:=h2.push (.row yZE .own);(rA (h3.store (h2.next,0) (yRI x1)) fun h4=>(rA a0 fun q5=>(iA (.val zP2) (h4.cell (q5.1,q5.2+3)) fun (x6:AV)=>(iA (.val zN2) (cK E .neq 29 (.tmp 11) (.const .nilIface) x6 AV.nilIface) fun (x7:Bool)=>(bif x7 then(lA (f57 N a0 21 h4) fun (x8:(Unit)) h9=>some ([],h9))else(iA (.val zO2) (h4.cell ((h2.next,0).1,(h2.next,0).2+0)) fun (x10:Int)=>let x11:=!kB x10 a1;(bif x11 then(lA (f57 N a0 21 h4) fun (x12:(Unit)) h13=>some ([],h13))else(rA a0 fun q14=>(iA (.val zO2) (h4.cell (q14.1,q14.2+1)) fun (x15:Int)=>let x16:=dB .i64 (x15+1);(rA a0 fun q17=>(rA (h4.store (q17.1,q17.2+1) [(.int .i64 x16)]) fun h18=>(iA (.val zM2) (h18.cell ((h2.next,0).1,(h2.next,0).2+1)) fun (x19:zQ2)=>some (x19,h18))))))))))))))
def mBg:Ann:=.n
theorem gO (N:Nat):gD Tryz.prog 94 [zK2,zO2] (.val zM2) (fun x h=>f94 N x.1 x.2.1 h):=vD (bA (cY N) (bA (fO N) kA)) N mBg Tryz.f94
def f95 (N:Nat) (a0:zJ2) (h:Heap):Option (zQ2×Heap):=(lA (f94 N a0 1 h) fun (x1:zQ2) h2=>(lA (f93 N a0 [58,58] h2) fun (x3:Bool) h4=>(bif x3 then(iA (.val zM2) (dL .add x1 [58,58]) fun (x5:zQ2)=>(lA (f94 N a0 1 h4) fun (x6:zQ2) h7=>(iA (.val zM2) (dL .add x5 x6) fun (x8:zQ2)=>some (x8,h7))))else some (x1,h4))))
def nBg:Ann:=.n
theorem nAq (N:Nat):gD Tryz.prog 95 [zK2] (.val zM2) (fun x h=>f95 N x.1 h):=vD (bA (gO N) (bA (eH N) kA)) N nBg Tryz.f95
def f188 (N:Nat) (a0:zJ2) (a1:Int) (h:Heap):Option (Bool×Heap):=let x1:Bool:=cE 64 a1;(bif x1 then(lA (f57 N a0 5 h) fun (x2:(Unit)) h3=>(rA a0 fun q4=>(iA (.val zP2) (h3.cell (q4.1,q4.2+3)) fun (x5:AV)=>(iA (.val zN2) (cK E .eql 29 (.tmp 12) (.const .nilIface) x5 AV.nilIface) fun (x6:Bool)=>some (x6,h3)))))else(rA a0 fun q7=>(iA (.val zP2) (h.cell (q7.1,q7.2+3)) fun (x8:AV)=>(iA (.val zN2) (cK E .eql 29 (.tmp 12) (.const .nilIface) x8 AV.nilIface) fun (x9:Bool)=>some (x9,h)))))
def iB9:Ann:=.n
theorem iO (N:Nat):gD Tryz.prog 188 [zK2,zO2] (.val zN2) (fun x h=>f188 N x.1 x.2.1 h):=vD (bA (cY N) kA) N iB9 Tryz.f188
def f148 (N:Nat) (a0 a1:zJ2) (h:Heap):Option ((Unit)×Heap):=(rA a0 fun q1=>(iA (.val zL2) (h.cell q1) fun (x2:SL)=>(rA a1 fun q3=>(iA (.val zK2) (h.cell q3) fun (x4:zJ2)=>(lA (f94 N x4 3 h) fun (x5:zQ2) h6=>let h7:=h6.push (.row [(.str x5)] .own);(aE (.val zL2) (iB E 38 38 (.slice x2.a x2.len x2.cap x2.sz) (.slice (some (h6.next,0)) 1 1 1) h7) fun (x8:SL) h9=>(rA a0 fun q11=>(rA (h9.store q11 [(.slice x8.a x8.len x8.cap x8.sz)]) fun h10=>(uD (bif (fF a1 fun q=>aB (h.cell q) (.ptr x4)) then (bif (fF a0 fun q=>aB (h7.cell q) (.slice x2.a x2.len x2.cap x2.sz)) then (bif (fF a0 fun q=>aB (h6.cell q) (.slice x2.a x2.len x2.cap x2.sz)) then (bif (fF a0 fun q=>aB (h.cell q) (.slice x2.a x2.len x2.cap x2.sz)) then true else false) else false) else false) else false) ( some ((()),h10)))))))))))
def jB9:Ann:=.n
theorem dB2 (N:Nat):gD Tryz.prog 148 [zK2,zK2] (.tup []) (fun x h=>f148 N x.1 x.2.1 h):=vD (bA (gO N) kA) N jB9 Tryz.f148
def wI (N:Nat) (go:zJ2→zQ2→zO→Int→Heap→Option (Out×(Unit)×Heap)) (v0:zJ2) (v1:zQ2) (v2:zO) (v6:Int) (h:Heap):Option (Out×(Unit)×Heap):=(lA (f188 N v0 v6 h) fun (x1:Bool) h2=>(bif x1 then(lA (f148 N v2.1 v2.2.1 h2) fun (x3:(Unit)) h4=>(lA (f93 N v0 v1 h4) fun (x5:Bool) h6=>let x7:=!x5;(bif x7 then some (Out.ret,(()),h6)else let x8:=dB .i64 (v6+1);go v0 v1 (v2.1,v2.2.1,()) x8 h6)))else some ((Out.exit 0),(()),h2)))
def bM (N M:Nat) (v0:zJ2) (v1:zQ2) (v2:zO) (v6:Int) (h:Heap):Option (Out×(Unit)×Heap):=iter (fun go s h=>wI N (fun v0 v1 v2 v6 h=>go (v0,v1,v2,v6,()) h) s.1 s.2.1 s.2.2.1 s.2.2.2.1 h) M (v0,v1,v2,v6,()) h
theorem bN (N M v0 v1 v2 v6 h):bM N (M+1) v0 v1 v2 v6 h=wI N (bM N M) v0 v1 v2 v6 h:=rfl
def iA8 (N:Nat) (a0:zJ2) (a1:zQ2) (a2:zO) (h:Heap):Option ((Unit)×Heap):=(fE (bM N N a0 a1 (a2.1,a2.2.1,()) 0 h) fun o9 (j10:(Unit)) h11=>(bif gE o9 (.exit 0) then some ((()),h11)else some ((()),h11)))
def aAm:Ann:=(.two .n (.two (.loop [(0,zK2),(1,zM2),(2,(.clo 148 [.ptr,.ptr])),(6,zO2)] [(.exit 0),.ret] [] .n) .n))
theorem kAf (N:Nat):gD Tryz.prog 147 [zK2,zM2,(.clo 148 [.ptr,.ptr])] (.tup []) (fun x h=>iA8 N x.1 x.2.1 x.2.2.1 h):=vD (bA (eH N) (bA (iO N) (bA (dB2 N) kA))) N aAm Tryz.f147
def f149 (N:Nat) (a0:zJ2) (a1:zQ2) (h:Heap):Option ((Unit)×Heap):=(lA (f93 N a0 a1 h) fun (x1:Bool) h2=>let x3:=!x1;(bif x3 then(lA (f57 N a0 21 h2) fun (x4:(Unit)) h5=>some ((()),h5))else some ((()),h2)))
def kB9:Ann:=.n
theorem rJ (N:Nat):gD Tryz.prog 149 [zK2,zM2] (.tup []) (fun x h=>f149 N x.1 x.2.1 h):=vD (bA (eH N) (bA (cY N) kA)) N kB9 Tryz.f149
def f96 (N:Nat) (a0:zJ2) (h:Heap):Option (SL×Heap):=let h1:=h.push (.row [(.ptr a0)] .own);let h2:=h1.push (.row [(.slice none 0 0 0)] .own);(iA (.val zK2) (h2.cell (h.next,0)) fun (x3:zJ2)=>(lA (f93 N x3 [60] h2) fun (x4:Bool) h5=>(bif x4 then(iA (.val zK2) (h5.cell (h.next,0)) fun (x6:zJ2)=>(lA (iA8 N x6 [44] ((some (h1.next,0)),(some (h.next,0)),()) h5) fun (x7:(Unit)) h8=>(iA (.val zK2) (h8.cell (h.next,0)) fun (x9:zJ2)=>(lA (f149 N x9 [62] h8) fun (x10:(Unit)) h11=>(iA (.val zL2) (h11.cell (h1.next,0)) fun (x12:SL)=>some (x12,h11))))))else(iA (.val zL2) (h5.cell (h1.next,0)) fun (x13:SL)=>some (x13,h5)))))
def oBg:Ann:=.n
theorem aAz (N:Nat):gD Tryz.prog 96 [zK2] (.val zL2) (fun x h=>f96 N x.1 h):=vD (bA (eH N) (bA (rJ N) (yB (sel:=fun a=>pJ 2 148 a) (kAf N) kA))) N oBg Tryz.f96
def pAw (N:Nat) (rec55:zJ2→Int→Heap→Option (zM×Heap)) (a0:zJ2) (a1:Int) (h:Heap):Option (zM×Heap):=let h1:=h.push (.row yZD .own);(lA (α:=zX1) ( let x2:=wB 64 a1;(bif x2 then(lA (f57 N a0 6 h1) fun (x3:(Unit)) h4=>some ((a0,a1,(some (h.next,0)),()),h4))else some ((a0,a1,(some (h.next,0)),()),h1))) fun (j5:zX1) h6=>(rA j5.1 fun q7=>(iA (.val zP2) (h6.cell (q7.1,q7.2+3)) fun (x8:AV)=>(iA (.val zN2) (cK E .neq 29 (.tmp 15) (.const .nilIface) x8 AV.nilIface) fun (x9:Bool)=>(bif x9 then(rA j5.2.2.1 fun q11=>(rA (h6.store q11 yZD) fun h10=>(rA j5.2.2.1 fun q12=>(iA (.val zC) (h10.cells q12 4) fun (x13:zM)=>some ((x13.1,x13.2.1,x13.2.2.1,x13.2.2.2.1,()),h10)))))else(lA (f92 N j5.1 [105,110,116] h6) fun (x14:Bool) h15=>(bif x14 then(rA j5.2.2.1 fun q17=>(rA (h15.store q17 [(.int .i64 1),(.str []),(.slice none 0 0 0),(.slice none 0 0 0)]) fun h16=>(rA j5.2.2.1 fun q18=>(iA (.val zC) (h16.cells q18 4) fun (x19:zM)=>some ((x19.1,x19.2.1,x19.2.2.1,x19.2.2.2.1,()),h16)))))else(lA (f92 N j5.1 [98,111,111,108] h15) fun (x20:Bool) h21=>(bif x20 then(rA j5.2.2.1 fun q23=>(rA (h21.store q23 [(.int .i64 2),(.str []),(.slice none 0 0 0),(.slice none 0 0 0)]) fun h22=>(rA j5.2.2.1 fun q24=>(iA (.val zC) (h22.cells q24 4) fun (x25:zM)=>some ((x25.1,x25.2.1,x25.2.2.1,x25.2.2.2.1,()),h22)))))else(lA (f93 N j5.1 [38] h21) fun (x26:Bool) h27=>(bif x26 then let h28:=h27.push (.row yZD .own);(rA (h28.store (h27.next,0) [(.int .i64 4),(.str []),(.slice none 0 0 0),(.slice none 0 0 0)]) fun h29=>
 (lA (α:=zF1) ((lA (f56 N j5.1 h29) fun (x30:zP) h31=>let x32:=kB x30.1 3;(bif x32 then(lA (f94 N j5.1 3 h31) fun (x33:zQ2) h34=>let h35:=h34.push (.row [(.str x33)] .own);(rA (h35.store ((h27.next,0).1,(h27.next,0).2+2) [(.slice (some (h34.next,0)) 1 1 1)]) fun h36=>some ((j5.1,j5.2.1,j5.2.2.1,(some (h27.next,0)),()),h36)))else some ((j5.1,j5.2.1,j5.2.2.1,(some (h27.next,0)),()),h31)))) fun (j37:zF1) h38=>(lA (α:=zF1) ((lA (f92 N j37.1 [109,117,116] h38) fun (x39:Bool) h40=>(bif x39 then(rA j37.2.2.2.1 fun q41=>(rA (h40.store (q41.1,q41.2+0) [(.int .i64 5)]) fun h42=>some ((j37.1,j37.2.1,j37.2.2.1,j37.2.2.2.1,()),h42)))else some ((j37.1,j37.2.1,j37.2.2.1,j37.2.2.2.1,()),h40)))) fun (j43:zF1) h44=>let x45:=dB .i64 (j43.2.1+1);(lA (rec55 j43.1 x45 h44) fun (x46:zM) h47=>let h48:=h47.push (.row (yRD x46) .own);(rA j43.2.2.2.1 fun q49=>(rA (h48.store (q49.1,q49.2+3) [(.slice (some (h47.next,0)) 1 1 4)]) fun h50=>(rA j43.2.2.2.1 fun q51=>(iA (.val zC) (h50.cells q51 4) fun (x52:zM)=>(rA j43.2.2.1 fun q54=>(rA (h50.store q54 (yRD x52)) fun h53=>(rA j43.2.2.1 fun q55=>(iA (.val zC) (h53.cells q55 4) fun (x56:zM)=>some ((x56.1,x56.2.1,x56.2.2.1,x56.2.2.2.1,()),h53)))))))))))))else(lA (f95 N j5.1 h27) fun (x57:zQ2) h58=>let h59:=h58.push (.row yZD .own);(rA (h59.store (h58.next,0) [(.int .i64 3),(.str x57),(.slice none 0 0 0),(.slice none 0 0 0)]) fun h60=>(lA (f96 N j5.1 h60) fun (x61:SL) h62=>(rA (h62.store ((h58.next,0).1,(h58.next,0).2+2) [(.slice x61.a x61.len x61.cap x61.sz)]) fun h63=>
 (iA (.val zC) (h63.cells (h58.next,0) 4) fun (x64:zM)=>(rA j5.2.2.1 fun q66=>(rA (h63.store q66 (yRD x64)) fun h65=>(rA j5.2.2.1 fun q67=>(iA (.val zC) (h65.cells q67 4) fun (x68:zM)=>some ((x68.1,x68.2.1,x68.2.2.1,x68.2.2.2.1,()),h65)))))))))))))))))))))
def pBg:Ann:=(.two .n (.two (.join [(0,zK2),(1,zO2),(4,zK2)] .n) (.two (.two (.two .n (.two .n (.two .n (.two .n (.two .n (.two .n (.two .n (.two (.two .n (.two (.join [(0,zK2),(1,zO2),(4,zK2),(5,zK2)] .n) (.two (.join [(0,zK2),(1,zO2),(4,zK2),(5,zK2)] .n) .n))) .n)))))))) .n) .n)))
def lB9 (N M:Nat):((zJ2→Int→Heap→Option (zM×Heap))×Unit):=Nat.rec (fun _ _ _=>none,()) (fun _ r=>(pAw N r.1,())) M
def f55 (N M:Nat):zJ2→Int→Heap→Option (zM×Heap):=(lB9 N M).1
theorem eAj (N M a0 a1 h):f55 N (M+1) a0 a1 h=pAw N (f55 N M) a0 a1 h:=rfl
theorem aA6 (N:Nat):∀ M:Nat,(gD Tryz.prog 55 [zK2,zO2] (.val zC) (fun x h=>f55 N M x.1 x.2.1 h))∧True
 | 0=>⟨(fun xs h r h' hx=>by cases hx),trivial⟩
 | M+1=>⟨vD (bA (aAz N) (bA (nAq N) (bA (gO N) (bA (eH N) (bA (dY N) (bA (cY N) (bA (fO N) (bA (aA6 N M).1 kA)))))))) N pBg Tryz.f55,trivial⟩
theorem oAq (N:Nat):gD Tryz.prog 55 [zK2,zO2] (.val zC) (fun x h=>f55 N N x.1 x.2.1 h):=(aA6 N N).1
def f23 (N:Nat) (a0:zQ2) (h:Heap):Option ((zM×AV×Unit)×Heap):=let h1:=h.push (.row yZD .own);(lA (f54 N a0 h1) fun (x2:(SL×AV×Unit)) h3=>(iA (.val zN2) (cK E .neq 29 (.tmp 13) (.const .nilIface) x2.2.1 AV.nilIface) fun (x4:Bool)=>(bif x4 then(rA (h3.store (h.next,0) yZD) fun h5=>(iA (.val zC) (h5.cells (h.next,0) 4) fun (x6:zM)=>some (((x6.1,x6.2.1,x6.2.2.1,x6.2.2.2.1,()),x2.2.1,()),h5)))else let h7:=h3.push (.row [(.slice x2.1.a x2.1.len x2.1.cap x2.1.sz),(.int .i64 0),(.int .i64 0),AV.nilIface] .own);(lA (f55 N N (some (h3.next,0)) 1 h7) fun (x8:zM) h9=>let h10:=h9.push (.row yZD .own);(rA (h10.store (h9.next,0) (yRD x8)) fun h11=>(lA (f56 N (some (h3.next,0)) h11) fun (x12:zP) h13=>let x14:=!kB x12.1 0;(bif x14 then(lA (f57 N (some (h3.next,0)) 21 h13) fun (x15:(Unit)) h16=>(iA (.val zP2) (h16.cell ((h3.next,0).1,(h3.next,0).2+3)) fun (x17:AV)=>(iA (.val zN2) (cK E .neq 29 (.tmp 31) (.const .nilIface) x17 AV.nilIface) fun (x18:Bool)=>(bif x18 then(iA (.val zP2) (h16.cell ((h3.next,0).1,(h3.next,0).2+3)) fun (x19:AV)=>(rA (h16.store (h.next,0) yZD) fun h20=>(uD (bif (aB (h20.cell ((h3.next,0).1,(h3.next,0).2+3)) x19) then (bif (aB (h16.cell ((h3.next,0).1,(h3.next,0).2+3)) x19) then true else false) else false) ((iA (.val zC) (h20.cells (h.next,0) 4) fun (x21:zM)=>some (((x21.1,x21.2.1,x21.2.2.1,x21.2.2.2.1,()),x19,()),h20))))))else(iA (.val zC) (h16.cells (h9.next,0) 4) fun (x22:zM)=>(rA (h16.store (h.next,0) (yRD x22)) fun h23=>
 (iA (.val zC) (h23.cells (h.next,0) 4) fun (x24:zM)=>some (((x24.1,x24.2.1,x24.2.2.1,x24.2.2.2.1,()),AV.nilIface,()),h23))))))))else(iA (.val zP2) (h13.cell ((h3.next,0).1,(h3.next,0).2+3)) fun (x25:AV)=>(iA (.val zN2) (cK E .neq 29 (.tmp 31) (.const .nilIface) x25 AV.nilIface) fun (x26:Bool)=>(bif x26 then(iA (.val zP2) (h13.cell ((h3.next,0).1,(h3.next,0).2+3)) fun (x27:AV)=>(rA (h13.store (h.next,0) yZD) fun h28=>(uD (bif (aB (h28.cell ((h3.next,0).1,(h3.next,0).2+3)) x27) then (bif (aB (h13.cell ((h3.next,0).1,(h3.next,0).2+3)) x27) then true else false) else false) ((iA (.val zC) (h28.cells (h.next,0) 4) fun (x29:zM)=>some (((x29.1,x29.2.1,x29.2.2.1,x29.2.2.2.1,()),x27,()),h28))))))else(iA (.val zC) (h13.cells (h9.next,0) 4) fun (x30:zM)=>(rA (h13.store (h.next,0) (yRD x30)) fun h31=>(iA (.val zC) (h31.cells (h.next,0) 4) fun (x32:zM)=>some (((x32.1,x32.2.1,x32.2.2.1,x32.2.2.2.1,()),AV.nilIface,()),h31))))))))))))))
def qBg:Ann:=.n
theorem mB9 (N:Nat):gD Tryz.prog 23 [zM2] (.tup [zC,zP2]) (fun x h=>f23 N x.1 h):=vD (bA (cY N) (bA (fO N) (bA (oAq N) (bA (yAy N) kA)))) N qBg Tryz.f23
def qZ (N:Nat) (go:zJ2→Int→Int→Int→Heap→Option (Out×zL1×Heap)) (v4:zJ2) (v6 v7 v8:Int) (h:Heap):Option (Out×zL1×Heap):=let x8:=wB v8 200;(bif x8 then(rA v4 fun q9=>(iA (.val zP2) (h.cell (q9.1,q9.2+2)) fun (x10:AV)=>(iA (.tup [zK2,zN2]) (lJ E x10 127 true) fun (x11:zM1)=>let x12:=!x11.2.1;(bif x12 then some ((Out.exit 0),(v6,v7,()),h)else(bif x11.1.isNone then some ((Out.exit 0),(v6,v7,()),h)else(rA x11.1 fun q13=>(iA (.val zO2) (h.cell (q13.1,q13.2+1)) fun (x14:Int)=>let x15:=dB .i64 (v8+1);go x11.1 v6 x14 x15 h)))))))else some ((Out.exit 0),(v6,v7,()),h))
def fAj (N M:Nat) (v4:zJ2) (v6 v7 v8:Int) (h:Heap):Option (Out×zL1×Heap):=iter (fun go s h=>qZ N (fun v4 v6 v7 v8 h=>go (v4,v6,v7,v8,()) h) s.1 s.2.1 s.2.2.1 s.2.2.2.1 h) M (v4,v6,v7,v8,()) h
theorem gA2 (N M v4 v6 v7 v8 h):fAj N (M+1) v4 v6 v7 v8 h=qZ N (fAj N M) v4 v6 v7 v8 h:=rfl
def f29 (N:Nat) (a0:AV) (h:Heap):Option (zL1×Heap):=(iA (.val zN2) (cK E .eql 29 (.tmp 11) (.const .nilIface) a0 AV.nilIface) fun (x1:Bool)=>(bif x1 then some ((0,0,()),h)else(iA (.tup [zK2,zN2]) (lJ E a0 127 true) fun (x2:zM1)=>let x3:=!x2.2.1;(bif x3 then some (((-1),0,()),h)else(bif x2.1.isNone then some (((-1),0,()),h)else(rA x2.1 fun q4=>(iA (.val zO2) (h.cell (q4.1,q4.2+0)) fun (x5:Int)=>(rA x2.1 fun q6=>(iA (.val zO2) (h.cell (q6.1,q6.2+1)) fun (x7:Int)=>(fE (fAj N N x2.1 x5 x7 0 h) fun _ (j17:zL1) h18=>some ((j17.1,j17.2.1,()),h18)))))))))))
def rBg:Ann:=(.two .n (.two .n (.two .n (.two .n (.two .n (.two (.two .n (.two (.loop [(4,zK2),(6,zO2),(7,zO2),(8,zO2)] [(.exit 0)] [(6,zO2),(7,zO2)] .n) .n)) .n))))))
theorem nB9 (N:Nat):gD Tryz.prog 29 [zP2] (.tup [zO2,zO2]) (fun x h=>f29 N x.1 h):=vD kA N rBg Tryz.f29
def f18 (N:Nat) (a0:AV) (a1 a2:Int) (h:Heap):Option (Bool×Heap):=(lA (f29 N a0 h) fun (x1:zL1) h2=>let x3:=kB x1.1 a1;(bif x3 then let x4:=kB x1.2.1 a2;some (x4,h2)else some (false,h2)))
def tBg:Ann:=.n
theorem oB9 (N:Nat):gD Tryz.prog 18 [zP2,zO2,zO2] (.val zN2) (fun x h=>f18 N x.1 x.2.1 x.2.2.1 h):=vD (bA (nB9 N) kA) N tBg Tryz.f18
end
end Qp
namespace Qp
abbrev Bs:=zQ2
theorem aC {β:Type} (k:Option β):uD true k=k:=rfl
theorem iBf:E.und 9=some .string:=by kernel_rfl
theorem oI {β:Type} {s:Bs} {i:Nat} (hi:i<s.length) (K:Int→Option β):wK s (i:Int) K=K ((s[i]).toNat:Int):=by
 show (match (Int.ofNat i) with | .ofNat j=>(match s[j]? with | some b=>K b.toNat | none=>none) | .negSucc _=>none)=_;simp only [List.getElem?_eq_getElem hi]
theorem bQ {i hi d:Nat} (h:i≤hi):vF (some (.int .i64 (i:Int))) hi d=some i:=by
 have:Nat.ble i hi=true:=by simpa using h
 have e:qR (.int .i64 (i:Int))=some i:=rfl;simp only [vF,e,this,cond_true]
theorem iU {h:Heap} {s:Bs} {i j:Nat} (h1:i≤j) (h2:j≤s.length):lE E h 9 (.str s) (some (.int .i64 (i:Int))) (some (.int .i64 (j:Int)))=some (.str ((s.take j).drop i)):=by
 simp only [lE,iBf,bQ h2,bQ h1]
theorem qW {h:Heap} {s:Bs} {i:Nat} (h1:i≤s.length):lE E h 9 (.str s) (some (.int .i64 (i:Int))) none=some (.str (s.drop i)):=by
 have e:vF none s.length s.length=some s.length:=rfl;simp only [lE,iBf,e,bQ h1,List.take_length]
theorem bAm {h:Heap} {s:Bs} {j:Nat} (h2:j≤s.length):lE E h 9 (.str s) none (some (.int .i64 (j:Int)))=some (.str (s.take j)):=by
 have e:vF none j 0=some 0:=rfl;simp only [lE,iBf,bQ h2,e,List.drop_zero]
theorem jU (a b:Nat):wB (a:Int) (Int.ofNat b)=decide (a<b):=by
 rw [vAb];by_cases h:a<b <;> simp [h] <;> omega
theorem eF (a b:Nat):wB (a:Int) (b:Int)=decide (a<b):=jU a b
theorem oK {i:Nat} (h:i≤4000000000):dB .i64 (i:Int)=(i:Int):=rF (by omega) (by omega)
theorem dC {i:Nat} (h:i≤4000000000):dB .i64 ((i:Int)+1)=((i+1:Nat):Int):=by rw [rF (by omega) (by omega)];rfl
theorem eqI (a b:Int):kB a b=decide (a=b):=wAb a b
theorem leI (a b:Int):cE a b=decide (a≤b):=vAp a b
theorem ltI (a b:Int):wB a b=decide (a<b):=vAb a b
def eD (c:UInt8):Bool:=decide (97≤c.toNat∧c.toNat≤122)||decide (65≤c.toNat∧c.toNat≤90)||decide (c.toNat=95)
def jD (c:UInt8):Bool:=decide (48≤c.toNat∧c.toNat≤57)
def fS (c:UInt8):Bool:=eD c||jD c
theorem pAq (N:Nat) (c:UInt8) (h:Heap):f170 N (c.toNat:Int) h=some (eD c,h):=by
 unfold f170 eD;simp only [leI,eqI];have a1:decide ((97:Int)≤(c.toNat:Int))=decide (97≤c.toNat):=by by_cases q:97≤c.toNat <;> simp [q] <;> omega
 have a2:decide ((c.toNat:Int)≤122)=decide (c.toNat≤122):=by by_cases q:c.toNat≤122 <;> simp [q] <;> omega
 have a3:decide ((65:Int)≤(c.toNat:Int))=decide (65≤c.toNat):=by by_cases q:65≤c.toNat <;> simp [q] <;> omega
 have a4:decide ((c.toNat:Int)≤90)=decide (c.toNat≤90):=by by_cases q:c.toNat≤90 <;> simp [q] <;> omega
 have a5:decide ((c.toNat:Int)=95)=decide (c.toNat=95):=by by_cases q:c.toNat=95 <;> simp [q] <;> omega
 rw [a1,a2,a3,a4,a5]
 by_cases q1:97≤c.toNat <;> by_cases q2:c.toNat≤122 <;> by_cases q3:65≤c.toNat <;> by_cases q4:c.toNat≤90 <;> by_cases q5:c.toNat=95 <;> simp [q1,q2,q3,q4,q5]
theorem eB2 (N:Nat) (c:UInt8) (h:Heap):f195 N (c.toNat:Int) h=some (fS c,h):=by
 unfold f195;rw [pAq,aA];unfold fS jD;simp only [leI];have a1:decide ((48:Int)≤(c.toNat:Int))=decide (48≤c.toNat):=by by_cases q:48≤c.toNat <;> simp [q] <;> omega
 have a2:decide ((c.toNat:Int)≤57)=decide (c.toNat≤57):=by by_cases q:c.toNat≤57 <;> simp [q] <;> omega
 rw [a1,a2];cases eD c <;> by_cases q1:48≤c.toNat <;> by_cases q2:c.toNat≤57 <;> simp [q1,q2]
def runN:Bs→Nat
 | []=>0
 | c::r=>if fS c then runN r+1 else 0
theorem iS:∀ t:Bs,runN t≤t.length
 | []=>Nat.le_refl _
 | c::r=>by have:=iS r;simp only [runN,List.length_cons];split <;> omega
theorem drop_cons {s:Bs} {i:Nat} (h:i<s.length):s.drop i=s[i]::s.drop (i+1):=List.drop_eq_getElem_cons h
theorem qAw {N:Nat} {s:Bs} (hs:s.length≤3000000) (h:Heap):∀ (M i:Nat),i≤s.length→s.length-i<M→dA8 N M s (i:Int) h=some (.exit 0,(((i+runN (s.drop i):Nat):Int),()),h):=by
 intro M
 induction M with
 | zero=>intro i _ h;omega
 | succ M ih=>
  intro i hi hM;rw [dAc];unfold bA2;simp only [jU]
  by_cases q:i<s.length
  ·simp only [q,decide_true,cond_true]
   rw [oI q,eB2,aA,dC (by omega),drop_cons q];simp only [runN]
   cases hg:fS s[i] with
   | true=>
    simp only [cond_true,if_true];rw [ih (i+1) q (by omega)];simp only [Nat.add_assoc,Nat.add_comm 1]
   | false=>simp
  ·simp only [q,decide_false,cond_false]
   rw [List.drop_of_length_le (by omega)];rfl
theorem lAf {N:Nat} {s:Bs} (hs:s.length≤3000000) (hN:s.length<N) {i:Nat} (hi:i≤s.length) (h:Heap):f171 N s (i:Int) h=some (((i+runN (s.drop i):Nat):Int),h):=by
 unfold f171;rw [qAw hs h N i hi (by omega)];rfl
def pB9:List Bs:=[[102,110],[115,116,114,117,99,116],[112,117,98],[108,101,116],[109,117,116],[105,102],[101,108,115,101],[119,104,105,108,101],[108,111,111,112],[98,114,101,97,107],[99,111,110,116,105,110,117,101],[114,101,116,117,114,110],[100,114,111,112],[116,114,117,101],[102,97,108,115,101],[105,110,116],[98,111,111,108]]
def cAm (t:Bs):List Bs→Bool
 | []=>false
 | w::r=>bif mB t w then true else cAm t r
def isWord (t:Bs):Bool:=cAm t pB9
theorem fB2 (N:Nat) (t:Bs) (h:Heap):f172 N t h=some (isWord t,h):=by
 unfold f172 isWord pB9;simp only [cAm]
 repeat' (first | rfl | (generalize mB t _=b;cases b <;> simp only [cond_true,cond_false]))
end Qp
namespace Qp
def eY (p x:Bs):Bool:=decide (p.length≤x.length)&&mB (x.take p.length) p
theorem qAq (N:Nat) (x p:Bs) (h:Heap):f140 N x p h=some (eY p x,h):=by
 unfold f140 f186;have e:cE (Int.ofNat p.length) (Int.ofNat x.length)=decide (p.length≤x.length):=by
  rw [leI];by_cases q:p.length≤x.length <;> simp [q] <;> omega
 simp only [e,eY]
 by_cases q:p.length≤x.length
 ·simp only [q,decide_true,cond_true,Bool.true_and]
  rw [show Int.ofNat p.length=(p.length:Int) from rfl,bAm q];rfl
 ·simp only [q,decide_false,cond_false,Bool.false_and];rfl
theorem kU {p x:Bs} (h:eY p x=true):x.take p.length=p∧p.length≤x.length:=by
 simp only [eY,Bool.and_eq_true,decide_eq_true_eq,bH,beq_iff_eq] at h;exact ⟨h.2,h.1⟩
theorem rAq (N:Nat) (x:Bs) (c:Int) (h:Heap):f141 N x c h=some (Qa.cAj c.toNat.toUInt8 x 0,h):=rfl
def yK:Bs→Nat
 | []=>0
 | c::r=>if c.toNat=10 then 0 else yK r+1
def tJ (c:UInt8):Bool:=decide (c.toNat=32)||decide (c.toNat=9)||decide (c.toNat=10)
def fC:Bool→Bs→Nat
 | _,[]=>0
 | true,c::r=>if c.toNat=10 then fC false r+1 else fC true r+1
 | false,c::r=>if tJ c=true then fC false r+1 else if eY [47,47] (c::r)=true then fC true r+1 else 0
theorem gAj:∀ t:Bs,yK t≤t.length
 | []=>Nat.le_refl _
 | c::r=>by have:=gAj r;simp only [yK,List.length_cons];split <;> omega
theorem bA6:∀ t:Bs,fC true t=yK t+fC false (t.drop (yK t))
 | []=>rfl
 | c::r=>by
  have ih:=bA6 r
  by_cases q:c.toNat=10
  ·have hb:tJ c=true:=by simp [tJ,q]
   simp only [yK,q,if_true,List.drop_zero,Nat.zero_add,fC,hb]
  ·simp only [yK,q,if_false,fC,List.drop_succ_cons];omega
theorem jO:∀ (t:Bs) (b:Bool),fC b t≤t.length
 | [],b=>by cases b <;> simp [fC]
 | c::r,b=>by
  have h1:=jO r true;have h2:=jO r false
  cases b with
  | true=>simp only [fC,List.length_cons];split <;> omega
  | false=>
   simp only [fC,List.length_cons]
   split
   ·omega
   ·split <;> omega
theorem gB2 {c:UInt8} {r:Bs} (h:eY [47,47] (c::r)=true):c.toNat=47∧∃ r',r=47::r':=by
 obtain ⟨h1,h2⟩:=kU h
 cases r with
 | nil=>simp at h2
 | cons d r'=>simp at h1;exact ⟨by rw [h1.1];rfl,r',by rw [h1.2]⟩
theorem tAq {t:Bs} (h:eY [47,47] t=true):fC false t=fC true t∧2≤yK t:=by
 cases t with
 | nil=>simp [eY] at h
 | cons c r=>
  obtain ⟨h1,r',rfl⟩:=gB2 h;have hb:tJ c=false:=by simp [tJ,h1]
  have e:(47:UInt8).toNat=47:=rfl;refine ⟨by simp [fC,hb,h,h1],?_⟩;simp [yK,h1,e]
theorem iAj:∀ (t:Bs) (k:Nat),Qa.cAj 10 t k=if yK t<t.length then ((k+yK t:Nat):Int) else -1
 | [],k=>rfl
 | c::r,k=>by
  have ih:=iAj r (k+1);have e:(10:UInt8).toNat=10:=rfl;simp only [Qa.cAj,e]
  by_cases q:c.toNat=10
  ·have:Nat.beq c.toNat 10=true:=by rw [q];rfl
   simp only [this,cond_true,yK,q,if_true,List.length_cons];rw [if_pos (Nat.succ_pos _)];simp
  ·have:Nat.beq c.toNat 10=false:=by
    cases hb:Nat.beq c.toNat 10 with
    | false=>rfl
    | true=>exact absurd (Nat.eq_of_beq_eq_true hb) q
   simp only [this,cond_false,yK,q,if_false,List.length_cons,ih]
   by_cases z:yK r<r.length
   ·rw [if_pos z,if_pos (by omega)];congr 1;omega
   ·rw [if_neg z,if_neg (by omega)]
theorem jS (c:UInt8) (n:Nat):kB (c.toNat:Int) (n:Int)=decide (c.toNat=n):=by
 rw [eqI];by_cases q:c.toNat=n <;> simp [q] <;> omega
theorem dAm {N:Nat} {s:Bs} (hs:s.length≤3000000) (h:Heap):∀ (M i:Nat),i≤s.length→s.length-i<M→
  ∃ o a b,dAj N M s (i:Int) 0 h=some (o,(a,b,()),h)∧(bif gE o (.exit 0) then a else b)=((i+fC false (s.drop i):Nat):Int):=by
 intro M
 induction M with
 | zero=>intro i _ h;omega
 | succ M ih=>
  intro i hi hM;rw [gAf];unfold cA8;simp only [jU]
  by_cases q:i<s.length
  ·simp only [q,decide_true,cond_true]
   rw [oI q];have b32:=jS s[i] 32;have b9:=jS s[i] 9;have b10:=jS s[i] 10;rw [show ((32:Nat):Int)=32 from rfl] at b32;rw [show ((9:Nat):Int)=9 from rfl] at b9;rw [show ((10:Nat):Int)=10 from rfl] at b10;have nx:tJ s[i]=true→((i+1+fC false (s.drop (i+1)):Nat):Int)=((i+fC false (s.drop i):Nat):Int):=fun hb=>by
    rw [drop_cons q];simp only [fC,hb,if_true];congr 1;omega
   obtain ⟨o,a,b,e1,e2⟩:=ih (i+1) q (by omega);simp only [b32]
   by_cases q1:(s[i]).toNat=32
   ·simp only [q1,decide_true,cond_true]
    rw [dC (by omega)];exact ⟨o,a,b,e1,e2.trans (nx (by simp [tJ,q1]))⟩
   simp only [q1,decide_false,cond_false];rw [oI q];simp only [b9]
   by_cases q2:(s[i]).toNat=9
   ·simp only [q2,decide_true,cond_true]
    rw [dC (by omega)];exact ⟨o,a,b,e1,e2.trans (nx (by simp [tJ,q2]))⟩
   simp only [q2,decide_false,cond_false];rw [oI q];simp only [b10]
   by_cases q3:(s[i]).toNat=10
   ·simp only [q3,decide_true,cond_true]
    rw [dC (by omega)];exact ⟨o,a,b,e1,e2.trans (nx (by simp [tJ,q3]))⟩
   simp only [q3,decide_false,cond_false];rw [qW hi];simp only [fA,cD,qAq,aA];have hb:tJ s[i]=false:=by simp [tJ,q1,q2,q3]
   cases hp:eY [47,47] (s.drop i) with
   | false=>
    simp only [cond_false];refine ⟨_,_,_,rfl,?_⟩;rw [drop_cons q] at hp ⊢;simp only [fC,hb,hp,if_false,Bool.false_eq_true,Nat.add_zero];rfl
   | true=>
    simp only [cond_true];have hr:=tAq hp;have hl:=gAj (s.drop i);rw [List.length_drop] at hl;rw [qW hi];simp only [fA,cD,rAq,aA];rw [show (10:Int).toNat.toUInt8=10 from rfl,iAj];rw [hr.1,bA6]
    by_cases z:yK (s.drop i)<(s.drop i).length
    ·rw [if_pos z]
     have:wB ((0+yK (s.drop i):Nat):Int) 0=false:=by rw [ltI];simp
     simp only [this,cond_false];rw [show ((i:Int)+((0+yK (s.drop i):Nat):Int))=((i+yK (s.drop i):Nat):Int) by simp,oK (by omega)];obtain ⟨o,a,b,e1,e2⟩:=ih (i+yK (s.drop i)) (by omega) (by omega);refine ⟨o,a,b,e1,e2.trans ?_⟩;rw [List.drop_drop];congr 1;omega
    ·rw [if_neg z]
     have:wB (-1) 0=true:=rfl
     simp only [this,cond_true];refine ⟨_,_,_,rfl,?_⟩;rw [List.length_drop] at z;rw [show (s.drop i).drop (yK (s.drop i))=[] from List.drop_of_length_le (by rw [List.length_drop];omega)];show (Int.ofNat s.length)=_;simp only [fC,Nat.add_zero]
     have:i+yK (s.drop i)=s.length:=by omega
     rw [this];rfl
  ·simp only [q,decide_false,cond_false]
   refine ⟨_,_,_,rfl,?_⟩;rw [List.drop_of_length_le (by omega)];simp [fC]
theorem bAz {N:Nat} {s:Bs} (hs:s.length≤3000000) (hN:s.length<N) {i:Nat} (hi:i≤s.length) (h:Heap):f90 N s (i:Int) h=some (((i+fC false (s.drop i):Nat):Int),h):=by
 unfold f90;obtain ⟨o,a,b,e1,e2⟩:=dAm hs h N i hi (by omega);rw [e1];simp only [uB]
 cases ho:gE o (.exit 0) with
 | true=>rw [ho] at e2;simp only [cond_true] at e2 ⊢;rw [e2]
 | false=>rw [ho] at e2;simp only [cond_false] at e2 ⊢;rw [e2]
end Qp
namespace Qp
theorem sub_eq (s:Bs) (i n:Nat):(s.take (i+n)).drop i=(s.drop i).take n:=by rw [List.drop_take];congr 1;omega
def cM (p:UInt8→Bool):Bs→Bool
 | []=>false
 | c::_=>p c
def rAw (t:Bs):Bool:=decide (1≤t.length)&&decide (t.length≤32)&&cM eD t&&decide (runN t=t.length)
def iB2 (t:Bs):Bool:=rAw t&&!isWord t
def aZ:Bs→Nat→Nat
 | [],v=>v
 | c::r,v=>aZ r (v * 10+(c.toNat-48))
theorem uAq:∀ (t:Bs) (v:Nat),v≤aZ t v
 | [],v=>Nat.le_refl _
 | c::r,v=>by have:=uAq r (v * 10+(c.toNat-48));simp only [aZ];omega
def nA4 (t:Bs):Bool:=t.all jD&&Nat.ble (aZ t 0) 2147483647&&!(decide (1<t.length)&&cM (fun c=>decide (c.toNat=48)) t)
theorem u8_in {x:Int} (h1:0≤x) (h2:x≤255):dB .u8 x=x:=by
 rw [iK];exact IntWalk.u8_in x ⟨h1,h2⟩
theorem vAq {c:UInt8} (h:jD c=true) {v:Nat} (hv:v≤3000000000):dB .i64 (dB .i64 ((v:Int) * 10)+dB .i64 (dB .u8 ((c.toNat:Int)-48)))=((v * 10+(c.toNat-48):Nat):Int):=by
 simp only [jD,decide_eq_true_eq] at h;rw [u8_in (by omega) (by omega),rF (x:=(c.toNat:Int)-48) (by omega) (by omega),rF (x:=(v:Int) * 10) (by omega) (by omega),rF (by omega) (by omega)];omega
def tkc (k:Int) (x:Bs) (a:Int):List AV:=[.int .i64 k,.str x,.int .i64 a]
theorem tAw {N:Nat} {s:Bs} (hs:s.length≤3000000) {i j A:Nat} (hj:j≤s.length) {H:Heap} {k0:Int} {x0:Bs} {a0:Int} (hA:H.own A (tkc k0 x0 a0)):∀ (M k v:Nat),k≤j→j-k<M→v≤2147483647→
  eA8 N M s (i:Int) (some (A,0)) 0 (j:Int) (v:Int) (k:Int) H=bif (((s.take j).drop k).all jD&&Nat.ble (aZ ((s.take j).drop k) v) 2147483647) then some (.exit 0,(s,(i:Int),some (A,0),0,(j:Int),()),H) else some (.ret,(s,(i:Int),some (A,0),0,(j:Int),()),H.put A (.row (tkc 0 [] 0) .own)):=by
 intro M
 induction M with
 | zero=>intro k v _ h;omega
 | succ M ih=>
  intro k v hk hM hv;rw [eAc];unfold dA2;simp only [eF];have hst:H.store (A,0) [.int .i64 0,.str [],.int .i64 0]=some (H.put A (.row (tkc 0 [] 0) .own)):=hA.store rfl
  by_cases q:k<j
  ·simp only [q,decide_true,cond_true]
   have qk:k<s.length:=by omega
   have et:(s.take j).drop k=s[k]::(s.take j).drop (k+1):=by
    rw [List.drop_eq_getElem_cons (by rw [List.length_take];omega),List.getElem_take]
   rw [et];rw [oI qk];have l48:wB ((s[k]).toNat:Int) 48=decide ((s[k]).toNat<48):=by
    rw [ltI];by_cases z:(s[k]).toNat<48 <;> simp [z] <;> omega
   have l57:wB 57 ((s[k]).toNat:Int)=decide (57<(s[k]).toNat):=by
    rw [ltI];by_cases z:57<(s[k]).toNat <;> simp [z] <;> omega
   simp only [l48]
   by_cases z1:(s[k]).toNat<48
   ·have hd:jD s[k]=false:=by simp [jD];omega
    simp only [z1,decide_true,cond_true,dA,hst,List.all_cons,hd,Bool.false_and,cond_false]
   simp only [z1,decide_false,cond_false];rw [oI qk];simp only [l57]
   by_cases z2:57<(s[k]).toNat
   ·have hd:jD s[k]=false:=by simp [jD];omega
    simp only [z2,decide_true,cond_true,dA,hst,List.all_cons,hd,Bool.false_and,cond_false]
   simp only [z2,decide_false,cond_false];have hd:jD s[k]=true:=by simp [jD];omega
   rw [oI qk,vAq hd (by omega)];have lm:wB 2147483647 ((v * 10+((s[k]).toNat-48):Nat):Int)=decide (2147483647<v * 10+((s[k]).toNat-48)):=by
    rw [ltI];by_cases z:2147483647<v * 10+((s[k]).toNat-48) <;> simp only [z,decide_true,decide_false,decide_eq_true_eq,decide_eq_false_iff_not] <;> omega
   rw [lm];simp only [List.all_cons,hd,Bool.true_and,aZ]
   by_cases z3:2147483647<v * 10+((s[k]).toNat-48)
   ·have:=uAq ((s.take j).drop (k+1)) (v * 10+((s[k]).toNat-48))
    have hn:Nat.ble (aZ ((s.take j).drop (k+1)) (v * 10+((s[k]).toNat-48))) 2147483647=false:=by
     cases hb:Nat.ble (aZ ((s.take j).drop (k+1)) (v * 10+((s[k]).toNat-48))) 2147483647 with
     | false=>rfl
     | true=>rw [Nat.ble_eq] at hb;omega
    simp only [z3,decide_true,cond_true,dA,hst,hn,Bool.and_false,cond_false]
   ·simp only [z3,decide_false,cond_false]
    rw [dC (by omega)];exact ih (k+1) _ q (by omega) (by omega)
  ·simp only [q,decide_false,cond_false]
   have:(s.take j).drop k=[]:=List.drop_of_length_le (by rw [List.length_take];omega)
   rw [this];have hb:Nat.ble v 2147483647=true:=by rw [Nat.ble_eq];exact hv
   simp only [List.all_nil,aZ,hb,Bool.and_self,cond_true]
def mAf (i:Nat) (r:zP×Int×Unit) (o:Option (Int×Bs×Nat)):Prop:=match o with
 | some (k,x,n)=>r=((k,x,(i:Int),()),((i+n:Nat):Int),())
 | none=>r.2.1=0
theorem pK {H:Heap} {A:Nat} {k:Int} {x:Bs} {a:Int} (hA:H.own A (tkc k x a)) {β:Type} (K:zP→Option β):iA (.val zF) (H.cells (A,0) 3) K=K (k,x,a,()):=by
 have:H.cells (A,0) 3=some (.agg (tkc k x a)):=hA.cells (j:=0) (m:=3) (Nat.le_refl _)
 rw [this];simp [tkc]
theorem eAm {H:Heap} {A:Nat} {cs:List AV} (hA:H.own A cs) (hl:cs.length=3) (k:Int) (x:Bs) (a:Int) {β:Type} (K:zP→Heap→Option β) :
  (rA (H.store (A,0) [.int .i64 k,.str x,.int .i64 a]) fun h7=>iA (.val zF) (h7.cells (A,0) 3) fun x8=>K x8 h7)=K (k,x,a,()) (H.put A (.row (tkc k x a) .own)):=by
 have:H.store (A,0) [.int .i64 k,.str x,.int .i64 a]=some (H.put A (.row (tkc k x a) .own)):=hA.store (by rw [hl];rfl)
 rw [this,dA,pK (yA hA _)]
section
variable {N:Nat} {s:Bs} (hs:s.length≤3000000) (hN:s.length<N) {i:Nat}
include hs hN
theorem nAf (hi:i≤s.length) (h:Heap):∃ r h',f142 N s (i:Int) h=some (r,h')∧Chg [] h h'∧mAf i r (let n:=runN (s.drop i);let x:=(s.drop i).take n;if isWord x=true then some (2,x,n) else if n≤32 then some (1,x,n) else none):=by
 unfold f142;have hn:=iS (s.drop i);rw [List.length_drop] at hn;have hxl:((s.drop i).take (runN (s.drop i))).length=runN (s.drop i):=by rw [List.length_take,List.length_drop];omega
 have o1:=vA h (tkc 0 [] 0);have c1:=qA h (.row (tkc 0 [] 0) .own);have e1:h.push (.row [(.int .i64 0),(.str []),(.int .i64 0)] .own)=h.push (.row (tkc 0 [] 0) .own):=rfl;rw [e1];generalize h.push (.row (tkc 0 [] 0) .own)=h1 at *;dsimp only;rw [lAf hs hN hi,aA,iU (by omega) (by omega),sub_eq];simp only [fA,cD,fB2,aA];have cp:∀ k x a,Chg [] h (h1.put h.next (.row (tkc k x a) .own)):=fun k x a=>c1.put (.inr (Nat.le_refl _)) _
 cases hw:isWord ((s.drop i).take (runN (s.drop i))) with
 | true=>
  simp only [cond_true,if_true];rw [eAm o1 rfl];exact ⟨_,_,rfl,cp _ _ _,rfl⟩
 | false=>
  simp only [cond_false,Bool.false_eq_true,if_false];rw [hxl];have e2:cE (Int.ofNat (runN (s.drop i))) 32=decide (runN (s.drop i)≤32):=by
   rw [leI];by_cases q:runN (s.drop i)≤32 <;> simp [q] <;> omega
  rw [e2]
  by_cases q:runN (s.drop i)≤32
  ·simp only [q,decide_true,cond_true,if_true]
   rw [eAm o1 rfl];exact ⟨_,_,rfl,cp _ _ _,rfl⟩
  ·simp only [q,decide_false,cond_false,if_false]
   rw [eAm o1 rfl];exact ⟨_,_,rfl,cp _ _ _,rfl⟩
theorem wAq (hi:i<s.length) (hd0:jD s[i]=true) (h:Heap):∃ r h',f143 N s (i:Int) h=some (r,h')∧Chg [] h h'∧mAf i r (let n:=runN (s.drop i);let x:=(s.drop i).take n;if nA4 x=true then some (4,x,n) else none):=by
 unfold f143;have hn:=iS (s.drop i);rw [List.length_drop] at hn;have o1:=vA h (tkc 0 [] 0);have c1:=qA h (.row (tkc 0 [] 0) .own);have e1:h.push (.row [(.int .i64 0),(.str []),(.int .i64 0)] .own)=h.push (.row (tkc 0 [] 0) .own):=rfl;rw [e1];generalize h.push (.row (tkc 0 [] 0) .own)=h1 at *;dsimp only;have hn1:1≤runN (s.drop i):=by
  rw [drop_cons hi];simp only [runN]
  have:fS s[i]=true:=by simp [fS,hd0]
  simp [this]
 rw [lAf hs hN (by omega),aA];have lp:=tAw (N:=N) hs (i:=i) (j:=i+runN (s.drop i)) (by omega) o1 N i 0 (by omega) (by omega) (by omega);rw [show ((0:Nat):Int)=0 from rfl] at lp;rw [lp,sub_eq];have hxl:((s.drop i).take (runN (s.drop i))).length=runN (s.drop i):=by rw [List.length_take,List.length_drop];omega
 have hhd:cM (fun c=>decide (c.toNat=48)) ((s.drop i).take (runN (s.drop i)))=decide ((s[i]).toNat=48):=by
  obtain ⟨m,hm⟩:∃ m,runN (s.drop i)=m+1:=⟨runN (s.drop i)-1,by omega⟩;rw [hm,drop_cons hi,List.take_succ_cons];rfl
 have cp:∀ k x a,Chg [] h (h1.put h.next (.row (tkc k x a) .own)):=fun k x a=>c1.put (.inr (Nat.le_refl _)) _;unfold nA4;rw [hhd,hxl]
 cases hok:(((s.drop i).take (runN (s.drop i))).all jD&&Nat.ble (aZ ((s.drop i).take (runN (s.drop i))) 0) 2147483647) with
 | false=>
  simp only [Bool.false_eq_true,if_false,uB,Bool.false_and,cond_false];simp only [rA1,cond_false,dA];rw [pK (yA o1 _)];exact ⟨_,_,rfl,cp _ _ _,rfl⟩
 | true=>
  simp only [uB,Bool.true_and,cond_true];simp only [wP,decide_true,cond_true];rw [oI hi];have b48:=jS s[i] 48;rw [show ((48:Nat):Int)=48 from rfl] at b48;have w1:dB .i64 (((i+runN (s.drop i):Nat):Int)-(i:Int))=((runN (s.drop i):Nat):Int):=by
   rw [show ((i+runN (s.drop i):Nat):Int)-(i:Int)=((runN (s.drop i):Nat):Int) by omega,oK (by omega)]
  have w2:wB 1 ((runN (s.drop i):Nat):Int)=decide (1<runN (s.drop i)):=by
   rw [ltI];by_cases q:1<runN (s.drop i) <;> simp [q] <;> omega
  rw [b48,w1,w2]
  by_cases z:(s[i]).toNat=48
  ·simp only [z,decide_true,cond_true,Bool.and_true]
   by_cases z2:1<runN (s.drop i)
   ·simp only [z2,decide_true,cond_true,dA,Bool.not_true,Bool.false_eq_true,if_false]
    rw [eAm o1 rfl];exact ⟨_,_,rfl,cp _ _ _,rfl⟩
   ·simp only [z2,decide_false,cond_false,dA,Bool.not_false,if_true]
    rw [iU (by omega) (by omega),sub_eq];simp only [fA,cD];rw [eAm o1 rfl];exact ⟨_,_,rfl,cp _ _ _,rfl⟩
  ·simp only [z,decide_false,cond_false,Bool.and_false,Bool.not_false,if_true,dA]
   rw [iU (by omega) (by omega),sub_eq];simp only [fA,cD];rw [eAm o1 rfl];exact ⟨_,_,rfl,cp _ _ _,rfl⟩
theorem jB2 (hi:i<s.length) (h:Heap):∃ r h',f144 N s (i:Int) h=some (r,h')∧Chg [] h h'∧mAf i r (let t:=s.drop (i+1);let n:=runN t;if cM eD t=true then (if n≤32 then some (3,t.take n,n+1) else none) else none):=by
 unfold f144;have o1:=vA h (tkc 0 [] 0);have c1:=qA h (.row (tkc 0 [] 0) .own);have e1:h.push (.row [(.int .i64 0),(.str []),(.int .i64 0)] .own)=h.push (.row (tkc 0 [] 0) .own):=rfl;rw [e1];generalize h.push (.row (tkc 0 [] 0) .own)=h1 at *;dsimp only;have cp:∀ k x a,Chg [] h (h1.put h.next (.row (tkc k x a) .own)):=fun k x a=>c1.put (.inr (Nat.le_refl _)) _;rw [dC (by omega)];have e2:kB ((i+1:Nat):Int) (Int.ofNat s.length)=decide (i+1=s.length):=by
  rw [eqI];by_cases q:i+1=s.length
  ·simp only [q,decide_true];simp
  ·simp only [q,decide_false,decide_eq_false_iff_not];intro e;exact q (Int.ofNat.inj e)
 rw [e2]
 by_cases q:i+1=s.length
 ·simp only [q,decide_true,cond_true]
  rw [List.drop_of_length_le (Nat.le_refl _)];rw [eAm o1 rfl];exact ⟨_,_,rfl,cp _ _ _,rfl⟩
 ·simp only [q,decide_false,cond_false]
  have hi1:i+1<s.length:=by omega
  rw [oI hi1,pAq,aA];have hh:cM eD (s.drop (i+1))=eD s[i+1]:=by rw [drop_cons hi1];rfl
  rw [hh]
  cases hl:eD s[i+1] with
  | false=>
   simp only [Bool.not_false,cond_true,Bool.false_eq_true,if_false];rw [eAm o1 rfl];exact ⟨_,_,rfl,cp _ _ _,rfl⟩
  | true=>
   simp only [Bool.not_true,cond_false,if_true];have hn:=iS (s.drop (i+1));rw [List.length_drop] at hn;rw [lAf hs hN (by omega),aA];have w1:dB .i64 (((i+1+runN (s.drop (i+1)):Nat):Int)-(i:Int))=((1+runN (s.drop (i+1)):Nat):Int):=by
    rw [show ((i+1+runN (s.drop (i+1)):Nat):Int)-(i:Int)=((1+runN (s.drop (i+1)):Nat):Int) by omega,oK (by omega)]
   have w3:dB .i64 (((1+runN (s.drop (i+1)):Nat):Int)-1)=((runN (s.drop (i+1)):Nat):Int):=by
    rw [show ((1+runN (s.drop (i+1)):Nat):Int)-1=((runN (s.drop (i+1)):Nat):Int) by omega,oK (by omega)]
   have w2:wB 32 ((runN (s.drop (i+1)):Nat):Int)=decide (32<runN (s.drop (i+1))):=by
    rw [ltI];by_cases q:32<runN (s.drop (i+1)) <;> simp [q] <;> omega
   rw [w1,w3,w2]
   by_cases z:32<runN (s.drop (i+1))
   ·simp only [z,decide_true,cond_true]
    rw [if_neg (by omega)];rw [eAm o1 rfl];exact ⟨_,_,rfl,cp _ _ _,rfl⟩
   ·simp only [z,decide_false,cond_false]
    rw [if_pos (by omega)];rw [iU (by omega) (by omega),sub_eq];simp only [fA,cD];rw [eAm o1 rfl];refine ⟨_,_,rfl,cp _ _ _,?_⟩;show _=_;rw [show i+(runN (s.drop (i+1))+1)=i+1+runN (s.drop (i+1)) by omega]
end
end Qp
namespace Qp
def two:List Bs:=[[58,58],[45,62],[61,61]]
def gB7:Bs:=[40,41,123,125,60,62,44,59,58,46,42,38,43,45,61,33]
def iB7 (c:UInt8):Bs→Bool
 | []=>false
 | x::r=>bif Nat.beq x.toNat c.toNat then true else iB7 c r
def iA2 (t:Bs):List Bs→Option Bs
 | []=>none
 | p::r=>bif eY p t then some p else iA2 t r
def dM (t:Bs):Option (Int×Bs×Nat):=match iA2 t two with
 | some p=>some (5,p,2)
 | none=>match t with
  | []=>none
  | c::_=>if iB7 c gB7=true then some (5,[c],1) else none
theorem rW {t:Bs}:∀ {l:List Bs} {p:Bs},iA2 t l=some p→p∈l∧eY p t=true
 | [],p,h=>by cases h
 | q::r,p,h=>by
  simp only [iA2] at h
  cases hq:eY q t with
  | true=>rw [hq] at h;simp only [cond_true,Option.some.injEq] at h;subst h;exact ⟨List.mem_cons_self,hq⟩
  | false=>
   rw [hq] at h;simp only [cond_false] at h;obtain ⟨h1,h2⟩:=rW h;exact ⟨List.mem_cons_of_mem _ h1,h2⟩
theorem kB2:∀ p∈two,p.length=2:=by decide
theorem yAq {t p:Bs} (h:iA2 t two=some p):p=t.take 2∧2≤t.length:=by
 obtain ⟨h1,h2⟩:=rW h;obtain ⟨h3,h4⟩:=kU h2;rw [kB2 p h1] at h3 h4;exact ⟨h3.symm,h4⟩
theorem aAr (c:UInt8):∀ (l:Bs) (k:Nat),wB (Qa.cAj c l k) 0 = !iB7 c l
 | [],k=>rfl
 | x::r,k=>by
  simp only [Qa.cAj,iB7]
  cases Nat.beq x.toNat c.toNat with
  | true=>simp only [cond_true,Bool.not_true];rw [ltI];simp
  | false=>simp only [cond_false];exact aAr c r (k+1)
section
variable {N:Nat} {s:Bs}
theorem bAr (hs:s.length≤3000000) {i A B:Nat} (hi:i≤s.length) {H:Heap} {l:List Bs} (hB:H.is B (l.map AV.str)) (hl:l.length≤1000) (hA:H.own A (tkc 0 [] 0)):∀ (M j:Nat),j≤l.length→l.length-j<M→
  fA8 N M s (i:Int) (some (A,0)) 0 ⟨some (B,0),l.length,l.length,1⟩ (Int.ofNat l.length) (j:Int) H=match iA2 (s.drop i) (l.drop j) with
   | some p=>some (.ret,(s,(i:Int),some (A,0),((i+2:Nat):Int),()),H.put A (.row (tkc 5 p (i:Int)) .own))
   | none=>some (.exit 0,(s,(i:Int),some (A,0),0,()),H):=by
 intro M
 induction M with
 | zero=>intro j _ h;omega
 | succ M ih=>
  intro j hj hM;rw [fAc];unfold eA2;simp only [jU]
  by_cases q:j<l.length
  ·simp only [q,decide_true,cond_true]
   rw [show ((j:Nat):Int)=Int.ofNat j from rfl,vAi _ _ _ _ _ q];simp only [Nat.zero_add,Nat.mul_one];have hc:=hB.cell j;rw [List.drop_eq_getElem_cons (by simpa using q)] at hc;simp only [List.head?_cons,List.getElem_map] at hc;rw [hc];simp only [fA,cD];rw [qW hi];simp only [fA,cD,qAq,aA];rw [List.drop_eq_getElem_cons q];simp only [iA2]
   cases hq:eY l[j] (s.drop i) with
   | true=>
    simp only [cond_true,dA];have w3:dB .i64 ((i:Int)+2)=((i+2:Nat):Int):=by rw [rF (by omega) (by omega)];rfl
    rw [w3,show H.store (A,0) [.int .i64 5,.str l[j],.int .i64 (i:Int)]=some (H.put A (.row (tkc 5 l[j] (i:Int)) .own)) from hA.store rfl];rfl
   | false=>
    simp only [cond_false];rw [show Int.ofNat j=(j:Int) from rfl,dC (by omega)];exact ih (j+1) q (by omega)
  ·simp only [q,decide_false,cond_false]
   rw [show l.drop j=[] from List.drop_of_length_le (by omega)];rfl
theorem jA8 (hs:s.length≤3000000) (hN:s.length<N) (hN2:20≤N) {i:Nat} (hi:i<s.length) (h:Heap):∃ r h',f145 N s (i:Int) h=some (r,h')∧Chg [] h h'∧mAf i r (dM (s.drop i)):=by
 unfold f145;have o1:=vA h (tkc 0 [] 0);have c1:=qA h (.row (tkc 0 [] 0) .own);have e1:h.push (.row [(.int .i64 0),(.str []),(.int .i64 0)] .own)=h.push (.row (tkc 0 [] 0) .own):=rfl;rw [e1];generalize h.push (.row (tkc 0 [] 0) .own)=h1 at *;have o2:=Heap.is_push h1 (two.map AV.str);have c2:=qA h1 (.row (two.map AV.str) .own);have o3:=o1.chg c2 (by simp);have e2:h1.push (.row [(.str [58,58]),(.str [45,62]),(.str [61,61])] .own)=h1.push (.row (two.map AV.str) .own):=rfl;dsimp only;rw [e2];have n1:(h1.push (.row (two.map AV.str) .own)).next=h1.next+1:=rfl;generalize h1.push (.row (two.map AV.str) .own)=h2 at *;have lp:=bAr (N:=N) hs (Nat.le_of_lt hi) o2 (by decide) o3 N 0 (Nat.zero_le _) (by show 3-0<N;omega);rw [show ((0:Nat):Int)=0 from rfl,show (⟨some (h1.next,0),two.length,two.length,1⟩:SL)=⟨some (h1.next,0),3,3,1⟩ from rfl,show Int.ofNat two.length=Int.ofNat 3 from rfl,List.drop_zero] at lp;rw [lp];have c3:=c1.trans c2;have cp:∀ k x a,Chg [] h (h2.put h.next (.row (tkc k x a) .own)):=fun k x a=>c3.put (.inr (Nat.le_refl _)) _;unfold dM
 cases hf:iA2 (s.drop i) two with
 | some p=>
  simp only [uB,rA1,cond_false,dA];rw [pK (yA o3 _)];exact ⟨_,_,rfl,cp _ _ _,rfl⟩
 | none=>
  simp only [uB,wP,decide_true,cond_true];rw [oI hi,rAq,aA];have eb:((s[i]).toNat:Int).toNat.toUInt8=s[i]:=by simp
  rw [eb];rw [drop_cons hi];have en:=aAr s[i] gB7 0;unfold gB7 at en;rw [en];dsimp only
  cases hm:iB7 s[i] [40,41,123,125,60,62,44,59,58,46,42,38,43,45,61,33] with
  | false=>
   simp only [Bool.not_false,cond_true,dA];rw [eAm o3 rfl];refine ⟨_,_,rfl,cp _ _ _,?_⟩;simp only [gB7,hm,Bool.false_eq_true,if_false];rfl
  | true=>
   simp only [Bool.not_true,cond_false,dA];rw [dC (by omega),iU (by omega) (by omega),sub_eq];simp only [fA,cD];rw [eAm o3 rfl];refine ⟨_,_,rfl,cp _ _ _,?_⟩;simp only [gB7,hm,if_true];show _=_;rw [drop_cons hi];rfl
theorem fY {t:Bs} {k:Int} {x:Bs} {n:Nat} (h:dM t=some (k,x,n)):k=5∧x=t.take n∧1≤n∧n≤t.length:=by
 unfold dM at h
 cases hf:iA2 t two with
 | some p=>
  rw [hf] at h;simp only [Option.some.injEq,Prod.mk.injEq] at h;obtain ⟨rfl,rfl,rfl⟩:=h;obtain ⟨h1,h2⟩:=yAq hf;exact ⟨rfl,h1,by omega,h2⟩
 | none=>
  rw [hf] at h
  cases t with
  | nil=>cases h
  | cons c r=>
   simp only at h
   split at h
   ·simp only [Option.some.injEq,Prod.mk.injEq] at h
    obtain ⟨rfl,rfl,rfl⟩:=h;exact ⟨rfl,rfl,Nat.le_refl _,by simp⟩
   ·cases h
end
end Qp
namespace Qp
theorem jA2 (a b:Nat):cE (a:Int) (b:Int)=decide (a≤b):=by
 rw [leI];by_cases q:a≤b <;> simp [q] <;> omega
def tW (t:Bs):Option (Int×Bs×Nat):=let n:=runN t;let x:=t.take n;if isWord x=true then some (2,x,n) else if n≤32 then some (1,x,n) else none
def cA6 (t:Bs):Option (Int×Bs×Nat):=let n:=runN t;let x:=t.take n;if nA4 x=true then some (4,x,n) else none
def uW (t:Bs):Option (Int×Bs×Nat):=let n:=runN t;if cM eD t=true then (if n≤32 then some (3,t.take n,n+1) else none) else none
def lF:Bs→Option (Int×Bs×Nat)
 | []=>none
 | c::r=>if eD c=true then tW (c::r) else if jD c=true then cA6 (c::r) else if c.toNat=39 then uW r else dM (c::r)
section
variable {N:Nat} {s:Bs}
theorem qB9 (hs:s.length≤3000000) (hN:s.length<N) (hN2:20≤N) {i:Nat} (hi:i<s.length) (h:Heap):∃ r h',f91 N s (i:Int) h=some (r,h')∧Chg [] h h'∧mAf i r (lF (s.drop i)):=by
 unfold f91;have o1:=vA h (tkc 0 [] 0);have c1:=qA h (.row (tkc 0 [] 0) .own);have e1:h.push (.row [(.int .i64 0),(.str []),(.int .i64 0)] .own)=h.push (.row (tkc 0 [] 0) .own):=rfl;rw [e1];generalize h.push (.row (tkc 0 [] 0) .own)=h1 at *;dsimp only;rw [oI hi];have l97:cE 97 ((s[i]).toNat:Int)=decide (97≤(s[i]).toNat):=jA2 97 _;have l122:cE ((s[i]).toNat:Int) 122=decide ((s[i]).toNat≤122):=jA2 _ 122;have l65:cE 65 ((s[i]).toNat:Int)=decide (65≤(s[i]).toNat):=jA2 65 _;have l90:cE ((s[i]).toNat:Int) 90=decide ((s[i]).toNat≤90):=jA2 _ 90;have l49:cE 49 ((s[i]).toNat:Int)=decide (49≤(s[i]).toNat):=jA2 49 _;have l57:cE ((s[i]).toNat:Int) 57=decide ((s[i]).toNat≤57):=jA2 _ 57;have e95:kB ((s[i]).toNat:Int) 95=decide ((s[i]).toNat=95):=jS _ 95;have e48:kB ((s[i]).toNat:Int) 48=decide ((s[i]).toNat=48):=jS _ 48;have e39:kB ((s[i]).toNat:Int) 39=decide ((s[i]).toNat=39):=jS _ 39;have nL:eD s[i]=true→lF (s.drop i)=tW (s.drop i):=fun q=>by rw [drop_cons hi];simp only [lF,q,if_true]
 have nD:eD s[i]=false→jD s[i]=true→lF (s.drop i)=cA6 (s.drop i):=fun q q2=>by rw [drop_cons hi];simp [lF,q,q2]
 have nF:eD s[i]=false→jD s[i]=false→(s[i]).toNat=39→lF (s.drop i)=uW (s.drop (i+1)):=fun q q2 q3=>by rw [drop_cons hi];simp [lF,q,q2,q3]
 have nS:eD s[i]=false→jD s[i]=false→(s[i]).toNat≠39→lF (s.drop i)=dM (s.drop i):=fun q q2 q3=>by rw [drop_cons hi];simp [lF,q,q2,q3]
 unfold tW at nL;unfold cA6 at nD;unfold uW at nF
 by_cases q1:97≤(s[i]).toNat
 ·by_cases q2:(s[i]).toNat≤122
  ·simp only [eq_self,l97,l122,l65,l90,e95,e48,l49,l57,e39,decide_true,decide_false,cond_true,cond_false,dA,kC,pC,aA,q1,q2]
   obtain ⟨r,h2,e,c2,t⟩:=nAf hs hN (Nat.le_of_lt hi) h1;have o2:=o1.chg c2 (by simp);have hst:h2.store (h.next,0) [(.int .i64 r.1.1),(.str r.1.2.1),(.int .i64 r.1.2.2.1)]=some (h2.put h.next (.row (tkc r.1.1 r.1.2.1 r.1.2.2.1) .own)):=o2.store rfl;simp only [e,aA,dA,hst,kC,pC];rw [pK (yA o2 _)];refine ⟨_,_,rfl,(c1.trans c2).put (.inr (Nat.le_refl _)) _,?_⟩;show mAf i r _;rw [nL (by first | (unfold eD;simp only [Bool.or_eq_true,decide_eq_true_eq];omega))];exact t
  ·have z3:65≤(s[i]).toNat:=by omega
   have z4:¬ (s[i]).toNat≤90:=by omega
   have z5:¬ (s[i]).toNat=95:=by omega
   have z6:¬ (s[i]).toNat=48:=by omega
   have z7:49≤(s[i]).toNat:=by omega
   have z8:¬ (s[i]).toNat≤57:=by omega
   have z9:¬ (s[i]).toNat=39:=by omega
   have q9:=z9;have nl:eD s[i]=false:=by unfold eD;simp only [Bool.or_eq_false_iff,decide_eq_false_iff_not];omega
   have nd:jD s[i]=false:=by unfold jD;simp only [decide_eq_false_iff_not];omega
   simp only [eq_self,l97,l122,l65,l90,e95,e48,l49,l57,e39,decide_true,decide_false,cond_true,cond_false,dA,kC,pC,aA,q1,q2,z3,z4,z5,z6,z7,z8,z9];obtain ⟨r,h2,e,c2,t⟩:=jA8 hs hN hN2 hi h1;have o2:=o1.chg c2 (by simp);have hst:h2.store (h.next,0) [(.int .i64 r.1.1),(.str r.1.2.1),(.int .i64 r.1.2.2.1)]=some (h2.put h.next (.row (tkc r.1.1 r.1.2.1 r.1.2.2.1) .own)):=o2.store rfl;simp only [e,aA,dA,hst,kC,pC];rw [pK (yA o2 _)];refine ⟨_,_,rfl,(c1.trans c2).put (.inr (Nat.le_refl _)) _,?_⟩;show mAf i r _;rw [nS nl nd q9];exact t
 ·by_cases q3:65≤(s[i]).toNat
  ·by_cases q4:(s[i]).toNat≤90
   ·simp only [eq_self,l97,l122,l65,l90,e95,e48,l49,l57,e39,decide_true,decide_false,cond_true,cond_false,dA,kC,pC,aA,q1,q3,q4]
    obtain ⟨r,h2,e,c2,t⟩:=nAf hs hN (Nat.le_of_lt hi) h1;have o2:=o1.chg c2 (by simp);have hst:h2.store (h.next,0) [(.int .i64 r.1.1),(.str r.1.2.1),(.int .i64 r.1.2.2.1)]=some (h2.put h.next (.row (tkc r.1.1 r.1.2.1 r.1.2.2.1) .own)):=o2.store rfl;simp only [e,aA,dA,hst,kC,pC];rw [pK (yA o2 _)];refine ⟨_,_,rfl,(c1.trans c2).put (.inr (Nat.le_refl _)) _,?_⟩;show mAf i r _;rw [nL (by first | (unfold eD;simp only [Bool.or_eq_true,decide_eq_true_eq];omega))];exact t
   ·by_cases q5:(s[i]).toNat=95
    ·have q5b:decide (95=95)=true:=rfl
     simp only [eq_self,l97,l122,l65,l90,e95,e48,l49,l57,e39,decide_true,decide_false,cond_true,cond_false,dA,kC,pC,aA,q1,q3,q4,decide_eq_true q5];obtain ⟨r,h2,e,c2,t⟩:=nAf hs hN (Nat.le_of_lt hi) h1;have o2:=o1.chg c2 (by simp);have hst:h2.store (h.next,0) [(.int .i64 r.1.1),(.str r.1.2.1),(.int .i64 r.1.2.2.1)]=some (h2.put h.next (.row (tkc r.1.1 r.1.2.1 r.1.2.2.1) .own)):=o2.store rfl;simp only [e,aA,dA,hst,kC,pC];rw [pK (yA o2 _)];refine ⟨_,_,rfl,(c1.trans c2).put (.inr (Nat.le_refl _)) _,?_⟩;show mAf i r _;rw [nL (by first | (unfold eD;simp only [Bool.or_eq_true,decide_eq_true_eq];omega))];exact t
    ·have z6:¬ (s[i]).toNat=48:=by omega
     have z7:49≤(s[i]).toNat:=by omega
     have z8:¬ (s[i]).toNat≤57:=by omega
     have z9:¬ (s[i]).toNat=39:=by omega
     have q9:=z9;have nl:eD s[i]=false:=by unfold eD;simp only [Bool.or_eq_false_iff,decide_eq_false_iff_not];omega
     have nd:jD s[i]=false:=by unfold jD;simp only [decide_eq_false_iff_not];omega
     simp only [eq_self,l97,l122,l65,l90,e95,e48,l49,l57,e39,decide_true,decide_false,cond_true,cond_false,dA,kC,pC,aA,q1,q3,q4,q5,z6,z7,z8,z9];obtain ⟨r,h2,e,c2,t⟩:=jA8 hs hN hN2 hi h1;have o2:=o1.chg c2 (by simp);have hst:h2.store (h.next,0) [(.int .i64 r.1.1),(.str r.1.2.1),(.int .i64 r.1.2.2.1)]=some (h2.put h.next (.row (tkc r.1.1 r.1.2.1 r.1.2.2.1) .own)):=o2.store rfl;simp only [e,aA,dA,hst,kC,pC];rw [pK (yA o2 _)];refine ⟨_,_,rfl,(c1.trans c2).put (.inr (Nat.le_refl _)) _,?_⟩;show mAf i r _;rw [nS nl nd q9];exact t
  ·have z5:¬ (s[i]).toNat=95:=by omega
   have nl:eD s[i]=false:=by unfold eD;simp only [Bool.or_eq_false_iff,decide_eq_false_iff_not];omega
   by_cases q6:(s[i]).toNat=48
   ·have dD:jD s[i]=true:=by unfold jD;simp only [decide_eq_true_eq];omega
    simp only [eq_self,l97,l122,l65,l90,e95,e48,l49,l57,e39,decide_true,decide_false,cond_true,cond_false,dA,kC,pC,aA,q1,q3,z5,decide_eq_true q6];obtain ⟨r,h2,e,c2,t⟩:=wAq hs hN hi dD h1;have o2:=o1.chg c2 (by simp);have hst:h2.store (h.next,0) [(.int .i64 r.1.1),(.str r.1.2.1),(.int .i64 r.1.2.2.1)]=some (h2.put h.next (.row (tkc r.1.1 r.1.2.1 r.1.2.2.1) .own)):=o2.store rfl;simp only [e,aA,dA,hst,kC,pC];rw [pK (yA o2 _)];refine ⟨_,_,rfl,(c1.trans c2).put (.inr (Nat.le_refl _)) _,?_⟩;show mAf i r _;rw [nD nl dD];exact t
   ·by_cases q7:49≤(s[i]).toNat
    ·by_cases q8:(s[i]).toNat≤57
     ·have dD:jD s[i]=true:=by unfold jD;simp only [decide_eq_true_eq];omega
      simp only [eq_self,l97,l122,l65,l90,e95,e48,l49,l57,e39,decide_true,decide_false,cond_true,cond_false,dA,kC,pC,aA,q1,q3,z5,q6,q7,q8];obtain ⟨r,h2,e,c2,t⟩:=wAq hs hN hi dD h1;have o2:=o1.chg c2 (by simp);have hst:h2.store (h.next,0) [(.int .i64 r.1.1),(.str r.1.2.1),(.int .i64 r.1.2.2.1)]=some (h2.put h.next (.row (tkc r.1.1 r.1.2.1 r.1.2.2.1) .own)):=o2.store rfl;simp only [e,aA,dA,hst,kC,pC];rw [pK (yA o2 _)];refine ⟨_,_,rfl,(c1.trans c2).put (.inr (Nat.le_refl _)) _,?_⟩;show mAf i r _;rw [nD nl dD];exact t
     ·have z9:¬ (s[i]).toNat=39:=by omega
      have q9:=z9;have nd:jD s[i]=false:=by unfold jD;simp only [decide_eq_false_iff_not];omega
      simp only [eq_self,l97,l122,l65,l90,e95,e48,l49,l57,e39,decide_true,decide_false,cond_true,cond_false,dA,kC,pC,aA,q1,q3,z5,q6,q7,q8,z9];obtain ⟨r,h2,e,c2,t⟩:=jA8 hs hN hN2 hi h1;have o2:=o1.chg c2 (by simp);have hst:h2.store (h.next,0) [(.int .i64 r.1.1),(.str r.1.2.1),(.int .i64 r.1.2.2.1)]=some (h2.put h.next (.row (tkc r.1.1 r.1.2.1 r.1.2.2.1) .own)):=o2.store rfl;simp only [e,aA,dA,hst,kC,pC];rw [pK (yA o2 _)];refine ⟨_,_,rfl,(c1.trans c2).put (.inr (Nat.le_refl _)) _,?_⟩;show mAf i r _;rw [nS nl nd q9];exact t
    ·have nd:jD s[i]=false:=by unfold jD;simp only [decide_eq_false_iff_not];omega
     by_cases q9:(s[i]).toNat=39
     ·simp only [eq_self,l97,l122,l65,l90,e95,e48,l49,l57,e39,decide_true,decide_false,cond_true,cond_false,dA,kC,pC,aA,q1,q3,z5,q6,q7,decide_eq_true q9]
      obtain ⟨r,h2,e,c2,t⟩:=jB2 hs hN hi h1;have o2:=o1.chg c2 (by simp);have hst:h2.store (h.next,0) [(.int .i64 r.1.1),(.str r.1.2.1),(.int .i64 r.1.2.2.1)]=some (h2.put h.next (.row (tkc r.1.1 r.1.2.1 r.1.2.2.1) .own)):=o2.store rfl;simp only [e,aA,dA,hst,kC,pC];rw [pK (yA o2 _)];refine ⟨_,_,rfl,(c1.trans c2).put (.inr (Nat.le_refl _)) _,?_⟩;show mAf i r _;rw [nF nl nd q9];exact t
     ·simp only [eq_self,l97,l122,l65,l90,e95,e48,l49,l57,e39,decide_true,decide_false,cond_true,cond_false,dA,kC,pC,aA,q1,q3,z5,q6,q7,q9]
      obtain ⟨r,h2,e,c2,t⟩:=jA8 hs hN hN2 hi h1;have o2:=o1.chg c2 (by simp);have hst:h2.store (h.next,0) [(.int .i64 r.1.1),(.str r.1.2.1),(.int .i64 r.1.2.2.1)]=some (h2.put h.next (.row (tkc r.1.1 r.1.2.1 r.1.2.2.1) .own)):=o2.store rfl;simp only [e,aA,dA,hst,kC,pC];rw [pK (yA o2 _)];refine ⟨_,_,rfl,(c1.trans c2).put (.inr (Nat.le_refl _)) _,?_⟩;show mAf i r _;rw [nS nl nd q9];exact t
end
end Qp
namespace Qp
abbrev Tok:=Int×Bs×Nat
def iAc (q:Tok):D:=.t [.i q.1,.s q.2.1,.i (q.2.2:Int)]
theorem rB9 (h:Heap) (V:Nat→Prop) (q:Tok):Dt h V (iAc q) (tkc q.1 q.2.1 (q.2.2:Int)):=by
 simp only [iAc,tkc,Dt,Dp];exact ⟨[_],[_,_],rfl,rfl,[_],[_],rfl,rfl,[_],[],rfl,rfl,rfl⟩
theorem oAf {h:Heap} {V:Nat→Prop} {q:Tok} {cs:List AV} (x:Dt h V (iAc q) cs):cs=tkc q.1 q.2.1 (q.2.2:Int):=by
 simp only [iAc,Dt,Dp] at x;obtain ⟨a,b,rfl,rfl,a2,b2,rfl,rfl,a3,b3,rfl,rfl,rfl⟩:=x;rfl
theorem uBg:AppN E 57 61 3 100:=AppN.of (by kernel_rfl)
theorem dA6 {h0 H:Heap} {v:SL} {xs:List Tok} (c:Chg [] h0 H) (x:Ow h0.next H v 3 (xs.map iAc)) (hl:xs.length≤2000000) (k:Int) (t:Bs) (a:Nat) :
  ∃ v' H',(∀ {β:Type} (K:SL→Heap→Option β),aE (.val zL2) (iB E 57 57 (.slice v.a v.len v.cap v.sz) (.slice (some (H.next,0)) 1 1 3) (H.push (.row [(.int .i64 k),(.str t),(.int .i64 (a:Int))] .own))) K=K v' H')∧Ow h0.next H' v' 3 ((xs++[(k,t,a)]).map iAc)∧Chg [] h0 H':=by
 obtain ⟨s',h',e,o,c',_⟩:=fU (cs:=tkc k t (a:Int)) uBg (by decide) x (rB9 H _ (k,t,a)) rfl c.next (by rw [List.length_map];omega);refine ⟨s',h',fun K=>?_,?_,c.step c' fun A hA hl=>?_⟩
 ·have e':iB E 57 57 (.slice v.a v.len v.cap v.sz) (.slice (some (H.next,0)) 1 1 3) (H.push (.row [(.int .i64 k),(.str t),(.int .i64 (a:Int))] .own))=some (.slice s'.a s'.len s'.cap s'.sz,h'):=e
  rw [e'];simp only [lG,uA]
 ·rw [List.map_append];exact o
 ·have:=x.ge A (by simpa using hA);omega
def kA2 (h:Heap) (v:AV) (c a:Int):Prop:=∃ A,v=AV.iface 127 (.ptr (some (A,0)))∧h.own A [.int .i64 c,.int .i64 a,AV.iface 78 (.int .i64 c)]
theorem lB2 (N:Nat) {c:Int} (hc:c≠0) (a:Int) (h:Heap):∃ v h',f37 N c a h=some (v,h')∧Chg [] h h'∧kA2 h' v c a:=by
 unfold f37
 have:kB c 0=false:=by rw [eqI];simpa using hc
 simp only [this,cond_false];exact ⟨_,_,rfl,qA _ _,h.next,rfl,vA h _⟩
theorem kO {t:Bs} {k:Int} {x:Bs} {n:Nat} (h:lF t=some (k,x,n)):1≤n∧n≤t.length:=by
 cases t with
 | nil=>cases h
 | cons c r=>
  have run1:eD c=true∨jD c=true→1≤runN (c::r)∧runN (c::r)≤(c::r).length:=fun q=>by
   refine ⟨?_,iS _⟩
   have:fS c=true:=by unfold fS;rcases q with q | q <;> simp [q]
   simp only [runN,this,if_true];omega
  simp only [lF] at h
  split at h
  ·rename_i q
   have:=run1 (.inl q)
   simp only [tW] at h
   split at h
   ·simp only [Option.some.injEq,Prod.mk.injEq] at h;obtain ⟨_,_,rfl⟩:=h;exact this
   ·split at h
    ·simp only [Option.some.injEq,Prod.mk.injEq] at h;obtain ⟨_,_,rfl⟩:=h;exact this
    ·cases h
  ·split at h
   ·rename_i _ q
    have:=run1 (.inr q)
    simp only [cA6] at h
    split at h
    ·simp only [Option.some.injEq,Prod.mk.injEq] at h;obtain ⟨_,_,rfl⟩:=h;exact this
    ·cases h
   ·split at h
    ·have:=iS r
     simp only [uW] at h
     split at h
     ·split at h
      ·simp only [Option.some.injEq,Prod.mk.injEq] at h;obtain ⟨_,_,rfl⟩:=h;simp only [List.length_cons];omega
      ·cases h
     ·cases h
    ·have:=fY h;exact ⟨this.2.2.1,this.2.2.2⟩
def eA4:Nat→Bs→Nat→List Tok ⊕ Nat
 | 0,_,a=>.inr a
 | M+1,t,a=>match t with
  | []=>.inl []
  | c::r=>match lF (c::r) with
   | none=>.inr a
   | some (k,x,n)=>match eA4 M ((c::r).drop (n+fC false ((c::r).drop n))) (a+(n+fC false ((c::r).drop n))) with
    | .inl l=>.inl ((k,x,a)::l)
    | .inr e=>.inr e
theorem cAr (M:Nat) (s:Bs) (i:Nat) (hi:i<s.length):eA4 (M+1) (s.drop i) i=match lF (s.drop i) with
  | none=>.inr i
  | some (k,x,n)=>match eA4 M (s.drop (i+(n+fC false (s.drop (i+n))))) (i+(n+fC false (s.drop (i+n)))) with
   | .inl l=>.inl ((k,x,i)::l)
   | .inr e=>.inr e:=by
 have e:∀ n,s.drop (i+n)=(s.drop i).drop n:=fun n=>by rw [List.drop_drop]
 simp only [e];rw [drop_cons hi];rfl
theorem uAw (M:Nat) (s:Bs) (i:Nat) (hi:s.length≤i):eA4 (M+1) (s.drop i) i=.inl []:=by
 rw [List.drop_of_length_le hi];rfl
section
variable {N:Nat} {s:Bs}
theorem vAw (hs:s.length≤1048576) (hN:s.length<N) (hN2:20≤N) {h0:Heap}:∀ (M i:Nat) (v:SL) (xs:List Tok) (H:Heap),i≤s.length→s.length-i<M→xs.length≤i→Chg [] h0 H→Ow h0.next H v 3 (xs.map iAc)→
  match eA4 M (s.drop i) i with
  | .inl l=>∃ v' H',gAc N M s ⟨none,0,0,0⟩ AV.nilIface v (i:Int) H=some (.exit 0,(s,⟨none,0,0,0⟩,AV.nilIface,v',()),H')∧Chg [] h0 H'∧Ow h0.next H' v' 3 ((xs++l).map iAc)∧(xs++l).length≤s.length
  | .inr a=>∃ v' v3 H',gAc N M s ⟨none,0,0,0⟩ AV.nilIface v (i:Int) H=some (.ret,(s,⟨none,0,0,0⟩,v3,v',()),H')∧Chg [] h0 H'∧kA2 H' v3 20 (a:Int):=by
 intro M
 induction M with
 | zero=>intro i _ _ _ _ h;omega
 | succ M ih=>
  intro i v xs H hi hM hx c o;rw [jAf];unfold gA8;simp only [jU]
  by_cases q:i<s.length
  ·rw [cAr M s i q]
   simp only [q,decide_true,cond_true];obtain ⟨r,h2,e,c2,t⟩:=qB9 (by omega) hN hN2 q H;rw [e,aA];have c3:=c.trans c2;have o3:=vA h2 (tkc 0 [] 0);have e3:h2.push (.row [(.int .i64 0),(.str []),(.int .i64 0)] .own)=h2.push (.row (tkc 0 [] 0) .own):=rfl;have c4:=c3.push (.row (tkc 0 [] 0) .own);have hge:h0.next≤h2.next:=c3.next;have hst:(h2.push (.row (tkc 0 [] 0) .own)).store (h2.next,0) [(.int .i64 r.1.1),(.str r.1.2.1),(.int .i64 r.1.2.2.1)]=some ((h2.push (.row (tkc 0 [] 0) .own)).put h2.next (.row (tkc r.1.1 r.1.2.1 r.1.2.2.1) .own)):=o3.store rfl;rw [e3,hst,dA];have o5:=yA o3 (tkc r.1.1 r.1.2.1 r.1.2.2.1);have c5:Chg [] h0 ((h2.push (.row (tkc 0 [] 0) .own)).put h2.next (.row (tkc r.1.1 r.1.2.1 r.1.2.2.1) .own)):=c4.put (.inr hge) _;have c25:Chg [] h2 ((h2.push (.row (tkc 0 [] 0) .own)).put h2.next (.row (tkc r.1.1 r.1.2.1 r.1.2.2.1) .own)):=((Chg.refl [] h2).push _).put (.inr (Nat.le_refl _)) _;have c05:=c2.trans c25;generalize (h2.push (.row (tkc 0 [] 0) .own)).put h2.next (.row (tkc r.1.1 r.1.2.1 r.1.2.2.1) .own)=h5 at *
   cases ht:lF (s.drop i) with
   | none=>
    rw [ht] at t;have z:kB r.2.1 0=true:=by rw [show r.2.1=0 from t];rfl
    simp only [z,cond_true];obtain ⟨vv,h6,e6,c6,f6⟩:=lB2 N (c:=20) (by decide) (i:Int) h5;rw [e6,aA];exact ⟨_,_,_,rfl,c5.trans c6,f6⟩
   | some p=>
    obtain ⟨k,x,n⟩:=p;rw [ht] at t;have hn:=kO ht;rw [List.length_drop] at hn;have t':r=((k,x,(i:Int),()),((i+n:Nat):Int),()):=t;have z:kB r.2.1 0=false:=by rw [t',eqI];simp;omega
    simp only [z,cond_false];rw [pK o5,t'];dsimp only;have ox:=o.chg c05 (by simp);obtain ⟨v',H',ea,oa,ca⟩:=dA6 c5 ox (by omega) k x i;rw [ea,bAz (by omega) hN (by omega),aA];have hb:=jO (s.drop (i+n)) false;rw [List.length_drop] at hb
    have:=ih (i+(n+fC false (s.drop (i+n)))) v' (xs++[(k,x,i)]) H' (by omega) (by omega) (by simp;omega) ca oa
    rw [show i+n+fC false (s.drop (i+n))=i+(n+fC false (s.drop (i+n))) by omega]
    cases hl:eA4 M (s.drop (i+(n+fC false (s.drop (i+n))))) (i+(n+fC false (s.drop (i+n)))) with
    | inl l=>
     rw [hl] at this;simp only [List.append_assoc,List.singleton_append] at this;exact this
    | inr a=>rw [hl] at this;exact this
  ·rw [uAw M s i (by omega)]
   simp only [q,decide_false,cond_false];refine ⟨_,_,rfl,c,by rw [List.append_nil];exact o,by rw [List.append_nil];omega⟩
def jAj (N:Nat) (s:Bs):List Tok ⊕ Nat:=match eA4 N (s.drop (fC false s)) (fC false s) with
 | .inl l=>.inl (l++[(0,[],s.length)])
 | .inr a=>.inr a
theorem cAz (hs:s.length≤1048576) (hN:s.length<N) (hN2:20≤N) (h:Heap):∃ r h',f54 N s h=some (r,h')∧Chg [] h h'∧match jAj N s with
  | .inl l=>r.2.1=AV.nilIface∧Ow h.next h' r.1 3 (l.map iAc)∧l.length≤s.length+1
  | .inr a=>kA2 h' r.2.1 20 (a:Int):=by
 unfold f54 jAj;have z:wB 1048576 (Int.ofNat s.length)=false:=by rw [ltI,decide_eq_false_iff_not];show ¬ (1048576:Int)<(s.length:Int);omega
 simp only [z,cond_false];have f9:=bAz (by omega) hN (Nat.zero_le _) h;rw [List.drop_zero,Nat.zero_add] at f9;rw [show ((0:Nat):Int)=0 from rfl] at f9;rw [f9,aA];have hb:=jO s false;have lp:=vAw hs hN hN2 (h0:=h) N (fC false s) ⟨none,0,0,0⟩ [] h hb (by omega) (by simp) (Chg.refl _ _) (Ow.nil _ _ _ _)
 cases hl:eA4 N (s.drop (fC false s)) (fC false s) with
 | inl l=>
  rw [hl] at lp;obtain ⟨v',H',e,c,o,hll⟩:=lp;rw [e];simp only [uB,wP,decide_true,cond_true];obtain ⟨v2,H2,ea,oa,ca⟩:=dA6 c o (by omega) 0 [] s.length;rw [show Int.ofNat s.length=((s.length:Nat):Int) from rfl,ea];refine ⟨_,_,rfl,ca,rfl,oa,?_⟩;simpa using hll
 | inr a=>
  rw [hl] at lp;obtain ⟨v',v3,H',e,c,f⟩:=lp;rw [e];simp only [uB,rA1,cond_false];exact ⟨_,_,rfl,c,f⟩
end
end Qp
namespace Qp
theorem dAr:∀ (t:Bs) (v:Nat),v * 10 ^ t.length≤aZ t v
 | [],v=>by simp [aZ]
 | c::r,v=>by
  have:=dAr r (v * 10+(c.toNat-48))
  simp only [aZ,List.length_cons,Nat.pow_succ];refine Nat.le_trans ?_ this;rw [Nat.mul_comm (10 ^ r.length) 10,← Nat.mul_assoc];exact Nat.mul_le_mul_right _ (by omega)
theorem fAm {c:UInt8} {r:Bs} (hl:10<(c::r).length):nA4 (c::r)=false:=by
 cases hk:nA4 (c::r) with
 | false=>rfl
 | true=>
  exfalso
  simp only [nA4,Bool.and_eq_true,Bool.not_eq_true',List.all_cons,cM,Nat.ble_eq,aZ,Nat.zero_mul,Nat.zero_add,List.length_cons,Bool.and_eq_false_imp,decide_eq_true_eq,decide_eq_false_iff_not] at hk;obtain ⟨⟨⟨h1,_⟩,h2⟩,h3⟩:=hk;simp only [jD,decide_eq_true_eq] at h1;simp only [List.length_cons] at hl;have h4:=h3 (by omega)
  have:=dAr r (c.toNat-48)
  have hp:(10:Nat) ^ 10≤10 ^ r.length:=Nat.pow_le_pow_right (by omega) (by omega);have h5:1 * 10 ^ r.length≤(c.toNat-48) * 10 ^ r.length:=Nat.mul_le_mul_right _ (by omega);have hp2:(10000000000:Nat)≤10 ^ r.length:=hp;omega
theorem jAc:∀ t:Bs,runN (t.take (runN t))=runN t
 | []=>rfl
 | c::r=>by
  simp only [runN]
  by_cases q:fS c=true
  ·simp only [q,if_true,List.take_succ_cons,runN,jAc r]
  ·simp [q,runN]
theorem eA6 (t:Bs):rAw (t.take (runN t))=(cM eD t&&decide (runN t≤32)):=by
 cases t with
 | nil=>rfl
 | cons c r=>
  have hr:=iS (c::r);have hl:((c::r).take (runN (c::r))).length=runN (c::r):=by rw [List.length_take];omega
  unfold rAw;rw [hl,jAc]
  by_cases q:eD c=true
  ·have g:fS c=true:=by simp [fS,q]
   have h1:1≤runN (c::r):=by simp [runN,g]
   have h2:cM eD ((c::r).take (runN (c::r)))=true:=by
    simp only [runN,g,if_true,List.take_succ_cons,cM];exact q
   rw [h2];simp only [cM,q,h1,decide_true,Bool.true_and,Bool.and_true]
  ·have q':eD c=false:=by simpa using q
   have h2:cM eD ((c::r).take (runN (c::r)))=false:=by
    by_cases g:fS c=true
    ·simp only [runN,g,if_true,List.take_succ_cons,cM];exact q'
    ·simp [runN,g,cM]
   rw [h2];simp only [cM,q',Bool.false_and,Bool.and_false]
section
variable {s:Bs} {i:Nat}
end
end Qp
namespace Qp
section
variable {N:Nat} {s:Bs}
end
end Qp
namespace Qp
def lA2 (x:Bs):Bool:=(match x with | [c]=>iB7 c gB7 | _=>false)||cAm x two
structure TokOK (q:Tok):Prop where
 word:q.1=2→isWord q.2.1=true
 sign:q.1=5→lA2 q.2.1=true
 len:q.2.1.length≤3000000
 num:q.1=4→nA4 q.2.1=true∧0<q.2.1.length
 name:q.1=1→iB2 q.2.1=true
 life:q.1=3→rAw q.2.1=true
structure Toks (T:List Tok):Prop where
 ok:∀ q∈T,TokOK q
 ends:∀ (i:Nat) (hi:i<T.length),(T[i]).1≠0→i+1<T.length
 len:T.length≤2000000
def tk (T:List Tok) (i:Nat):Tok:=T.getD i (0,[],0)
theorem eAr {T:List Tok} {i:Nat} (hi:i<T.length):tk T i=T[i]:=by simp [tk,hi]
abbrev Er:=Option (Int×Int)
abbrev St:=Nat×Er
def jE (T:List Tok) (c:Int):St→St
 | (i,none)=>(i,some (c,((tk T i).2.2:Int)))
 | (i,some e)=>(i,some e)
def isS (T:List Tok) (w:Bs) (i:Nat):Bool:=decide ((tk T i).1=2∨(tk T i).1=5)&&mB (tk T i).2.1 w
def jB (T:List Tok) (w:Bs):St→Bool×St
 | (i,none)=>if isS T w i=true then (true,(i+1,none)) else (false,(i,none))
 | (i,some e)=>(false,(i,some e))
def pB (T:List Tok) (k:Int):St→Bs×St
 | (i,none)=>if (tk T i).1=k then ((tk T i).2.1,(i+1,none)) else ([],jE T 21 (i,none))
 | (i,some e)=>([],(i,some e))
def uC (T:List Tok) (w:Bs) (σ:St):St:=if (jB T w σ).1=true then (jB T w σ).2 else jE T 21 (jB T w σ).2
def wG (T:List Tok) (σ:St):Bs×St:=
 let a:=pB T 1 σ
 let b:=jB T [58,58] a.2
 if b.1=true then let c:=pB T 1 b.2;(a.1++[58,58]++c.1,c.2) else (a.1,b.2)
def ErrV (h:Heap) (P:Nat) (X:List Nat) (v:AV):Er→Prop
 | none=>v=AV.nilIface
 | some (c,a)=>∃ A,v=AV.iface 127 (.ptr (some (A,0)))∧(A≠P∧A ∉ X)∧h.own A [.int .i64 c,.int .i64 a,AV.iface 78 (.int .i64 c)]
structure PA (T:List Tok) (P:Nat) (X:List Nat) (h:Heap) (σ:St) (st:Int):Prop where
 ex:∃ s v,h.own P [SL.av s,.int .i64 (σ.1:Int),.int .i64 st,v]∧Sl h (fun C=>C<P) s (T.map iAc)∧(s.sz=3)∧ErrV h P X v σ.2
 lt:σ.1<T.length
 xl:∀ A∈X,P<A∧A<h.next
theorem ErrV.chg {h h':Heap} {P:Nat} {X:List Nat} {v:AV} {e:Er} {M:List Nat} (x:ErrV h P X v e) (c:Chg M h h') (hM:∀ A∈M,A=P∨A∈X):ErrV h' P X v e:=by
 cases e with
 | none=>exact x
 | some q=>
  obtain ⟨A,h1,h2,h3⟩:=x;exact ⟨A,h1,h2,h3.chg c fun hm=>by rcases hM A hm with q | q;exact h2.1 q;exact h2.2 q⟩
section
variable {T:List Tok} {P:Nat} {X:List Nat} {h h':Heap} {σ:St} {st:Int}
theorem PA.P_lt (x:PA T P X h σ st):P<h.next:=by
 obtain ⟨⟨s,v,h1,h2,h3,h4⟩,h5,h6⟩:=x;exact h1.2
theorem PA.chgM {M:List Nat} (x:PA T P X h σ st) (c:Chg M h h') (hM:∀ A∈M,A∈X):PA T P X h' σ st:=by
 obtain ⟨⟨s,v,h1,h2,h3,h4⟩,h5,h6⟩:=x;refine ⟨⟨s,v,h1.chg c (fun hm=>by have:=h6 P (hM P hm);omega),h2.chg c (fun A hA hm=>by have:=h6 A (hM A hm);have hA:A<P:=hA;omega),h3,h4.chg c fun A hA=>.inr (hM A hA)⟩,h5,fun A hA=>?_⟩
 have:=h6 A hA
 exact ⟨this.1,Nat.lt_of_lt_of_le this.2 c.next⟩
theorem PA.chg (x:PA T P X h σ st) (c:Chg [] h h'):PA T P X h' σ st:=x.chgM c (by simp)
theorem PA.chg1 {A:Nat} (x:PA T P X h σ st) (c:Chg [A] h h') (hA:A∈X):PA T P X h' σ st:=x.chgM c (by simpa using hA)
theorem PA.free {i:Nat} (x:PA T P X h (i,none) st) {X':List Nat} (hX:∀ A∈X',P<A∧A<h.next):PA T P X' h (i,none) st:=by
 obtain ⟨⟨s,v,h1,h2,h3,h4⟩,h5,h6⟩:=x;exact ⟨⟨s,v,h1,h2,h3,h4⟩,h5,hX⟩
theorem PA.sub (x:PA T P X h σ st) {X':List Nat} (hX:∀ A∈X',A∈X):PA T P X' h σ st:=by
 obtain ⟨⟨s,v,h1,h2,h3,h4⟩,h5,h6⟩:=x;refine ⟨⟨s,v,h1,h2,h3,?_⟩,h5,fun A hA=>h6 A (hX A hA)⟩;obtain ⟨i,e⟩:=σ
 cases e with
 | none=>exact h4
 | some q=>obtain ⟨A,g1,g2,g3⟩:=h4;exact ⟨A,g1,⟨g2.1,fun hm=>g2.2 (hX A hm)⟩,g3⟩
theorem PA.add (x:PA T P X h σ st) (c:Chg [] h h') {A:Nat} (h1:h.next≤A) (h2:A<h'.next):PA T P (A::X) h' σ st:=by
 have hP:=x.P_lt;obtain ⟨⟨s,v,g1,g2,g3,g4⟩,g5,g6⟩:=x.chg c;obtain ⟨⟨s',v',f1,f2,f3,f4⟩,f5,f6⟩:=x;refine ⟨⟨s',v',f1.chg c (by simp),f2.chg c (by simp),f3,?_⟩,g5,fun C hC=>?_⟩
 ·obtain ⟨i,e⟩:=σ
  cases e with
  | none=>exact f4
  | some q=>
   obtain ⟨C,k1,k2,k3⟩:=f4;refine ⟨C,k1,⟨k2.1,fun hm=>?_⟩,k3.chg c (by simp)⟩;rcases List.mem_cons.1 hm with rfl | hm
   ·have:=k3.2;omega
   ·exact k2.2 hm
 ·rcases List.mem_cons.1 hC with rfl | hC
  ·omega
  ·exact g6 C hC
end
theorem tB9 (N:Nat) {c:Int} (hc:c≠0) (a:Int) (h:Heap):∃ h',f37 N c a h=some (AV.iface 127 (.ptr (some (h.next,0))),h')∧Chg [] h h'∧h'.own h.next [.int .i64 c,.int .i64 a,AV.iface 78 (.int .i64 c)]:=by
 unfold f37
 have:kB c 0=false:=by rw [eqI];simpa using hc
 simp only [this,cond_false];exact ⟨_,rfl,qA _ _,vA h _⟩
theorem eq_nil (k:Nat):cK E .eql 29 (.tmp k) (.const .nilIface) AV.nilIface AV.nilIface=some (.bool true):=by kernel_rfl
theorem dQ (k:Nat) (v:AV):cK E .eql 29 (.tmp k) (.const .nilIface) (AV.iface 127 v) AV.nilIface=some (.bool false):=by kernel_rfl
theorem ne_nil (k:Nat):cK E .neq 29 (.tmp k) (.const .nilIface) AV.nilIface AV.nilIface=some (.bool false):=by kernel_rfl
theorem eQ (k:Nat) (v:AV):cK E .neq 29 (.tmp k) (.const .nilIface) (AV.iface 127 v) AV.nilIface=some (.bool true):=by kernel_rfl
theorem ErrV.eq {h:Heap} {P:Nat} {X:List Nat} {v:AV} {e:Er} (x:ErrV h P X v e) (k:Nat):cK E .eql 29 (.tmp k) (.const .nilIface) v AV.nilIface=some (.bool e.isNone):=by
 cases e with
 | none=>rw [show v=AV.nilIface from x];exact eq_nil k
 | some q=>obtain ⟨A,h1,_⟩:=x;rw [h1];exact dQ k _
theorem ErrV.ne {h:Heap} {P:Nat} {X:List Nat} {v:AV} {e:Er} (x:ErrV h P X v e) (k:Nat):cK E .neq 29 (.tmp k) (.const .nilIface) v AV.nilIface=some (.bool e.isSome):=by
 cases e with
 | none=>rw [show v=AV.nilIface from x];exact ne_nil k
 | some q=>obtain ⟨A,h1,_⟩:=x;rw [h1];exact eQ k _
theorem kA8 {h:Heap} {V:Nat→Prop} {s:SL} {T:List Tok} (hs:Sl h V s (T.map iAc)) (h3:s.sz=3) {i:Nat} (hi:i<T.length):h.cells (s.at i 3) 3=some (.agg (tkc (tk T i).1 (tk T i).2.1 ((tk T i).2.2:Int)))∧s.a.isSome=true∧i<s.len:=by
 obtain ⟨cs,e⟩:=hs.elt (i:=i) (by rw [List.length_map];exact hi);rw [h3] at e;have hd:=e.dt;rw [List.getElem_map] at hd;rw [eAr hi,e.whole,oAf hd];exact ⟨rfl,hs.isSome (by rw [List.length_map];omega),by rw [hs.len,List.length_map];exact hi⟩
theorem yBi {β:Type} (k:Int) (x:Bs) (a:Int) (K:zP→Option β):iA (.val zF) (some (.agg (tkc k x a))) K=K (k,x,a,()):=by
 simp [tkc]
abbrev TT:=Int×zQ2×Int×Unit
def kAj (q:Tok):TT:=(q.1,q.2.1,(q.2.2:Int),())
section
variable {N:Nat} {T:List Tok} {P:Nat} {X:List Nat} {h:Heap} {σ:St} {st:Int}
theorem cN (x:PA T P X h σ st):∃ h',f56 N (some (P,0)) h=some (kAj (tk T σ.1),h')∧Chg [] h h':=by
 obtain ⟨⟨s,v,h1,h2,h3,h4⟩,h5,h6⟩:=x;unfold f56;have o1:=vA h (tkc 0 [] 0);have c1:=qA h (.row (tkc 0 [] 0) .own);have e1:h.push (.row [(.int .i64 0),(.str []),(.int .i64 0)] .own)=h.push (.row (tkc 0 [] 0) .own):=rfl;rw [e1];generalize h.push (.row (tkc 0 [] 0) .own)=hh at *;dsimp only;have g1:=h1.chg c1 (by simp);have k0:hh.cell (P,0)=some (SL.av s):=g1.cell 0;have k1:hh.cell (P,1)=some (.int .i64 (σ.1:Int)):=g1.cell 1;obtain ⟨d1,d2,d3⟩:=kA8 (h2.chg c1 (by simp)) h3 h5;simp only [dA,Nat.add_zero,Nat.zero_add,k0,k1,fA,SL.av,uA,bD];rw [dU d2 d3,d1,yBi];rw [eAm o1 rfl];exact ⟨_,rfl,c1.put (.inr (Nat.le_refl _)) _⟩
theorem PA.setErr {i:Nat} {c a:Int} (x:PA T P X h (i,none) st) {A:Nat} (hA:A≠P∧A ∉ X) (ho:h.own A [.int .i64 c,.int .i64 a,AV.iface 78 (.int .i64 c)]):∃ h',h.store (P,3) [AV.iface 127 (.ptr (some (A,0)))]=some h'∧Chg [P] h h'∧PA T P X h' (i,some (c,a)) st:=by
 obtain ⟨⟨s,v0,h1,h2,h3,h4⟩,h5,h6⟩:=x;exact ⟨_,h1.store1 (j:=3) (by show 3<4;omega) _,h1.put _,⟨s,_,yA h1 _,h2.chg (h1.put _) (by intro C hC hm;rw [List.mem_singleton] at hm;have hC:C<P:=hC;omega),h3,A,rfl,hA,ho.chg (h1.put _) (by rw [List.mem_singleton];exact hA.1)⟩,h5,h6⟩
theorem PA.setI {i:Nat} (x:PA T P X h (i,none) st) {j:Nat} (hj:j<T.length):∃ h',h.store (P,1) [.int .i64 (j:Int)]=some h'∧Chg [P] h h'∧PA T P X h' (j,none) st:=by
 obtain ⟨⟨s,v0,h1,h2,h3,h4⟩,h5,h6⟩:=x;exact ⟨_,h1.store1 (j:=1) (by show 1<4;omega) (.int .i64 (j:Int)),h1.put _,⟨s,v0,yA h1 _,h2.chg (h1.put _) (by intro C hC hm;rw [List.mem_singleton] at hm;have hC:C<P:=hC;omega),h3,h4⟩,hj,h6⟩
theorem PA.readI (x:PA T P X h σ st):h.cell (P,1)=some (.int .i64 (σ.1:Int)):=by
 obtain ⟨⟨s,v0,h1,h2,h3,h4⟩,h5,h6⟩:=x;exact h1.cell 1
theorem PA.readE (x:PA T P X h σ st):∃ v,h.cell (P,3)=some v∧ErrV h P X v σ.2:=by
 obtain ⟨⟨s,v0,h1,h2,h3,h4⟩,h5,h6⟩:=x;exact ⟨v0,h1.cell 3,h4⟩
theorem mA2 (x:PA T P X h σ st) {c:Int} (hc:c≠0):∃ h',f57 N (some (P,0)) c h=some ((),h')∧Chg [P] h h'∧PA T P X h' (jE T c σ) st:=by
 unfold f57;obtain ⟨v,k3,hv⟩:=x.readE;simp only [dA,Nat.zero_add,k3,fA,bE,hv.eq 7,rB];obtain ⟨i,e⟩:=σ
 cases e with
 | some q=>exact ⟨_,rfl,Chg.refl _ _,x⟩
 | none=>
  simp only [Option.isNone_none,cond_true];obtain ⟨h2,e2,c2⟩:=cN (N:=N) x;rw [e2,aA];obtain ⟨h3,e3,c3,o3⟩:=tB9 N hc ((tk T i).2.2:Int) h2;simp only [kAj];rw [e3,aA];have x3:=(x.chg c2).chg c3;obtain ⟨h4,e4,c4,x4⟩:=PA.setErr x3 ⟨by have:=(x.chg c2).P_lt;omega,fun hm=>by have:=(x.chg c2).xl _ hm;omega⟩ o3;rw [show AV.single (AV.iface 127 (.ptr (some (h2.next,0))))=true from rfl,aC,e4,dA];exact ⟨_,rfl,((c2.trans c3).mono (by simp)).trans c4,x4⟩
end
end Qp
namespace Qp
theorem uB9 {T:List Tok} (hT:Toks T) {i:Nat} (hi:i<T.length):TokOK (tk T i):=by rw [eAr hi];exact hT.ok _ (List.getElem_mem hi)
theorem fAr {T:List Tok} (hT:Toks T) {i:Nat} (hi:i<T.length) (h0:(tk T i).1≠0):i+1<T.length:=hT.ends i hi (by rw [← eAr hi];exact h0)
theorem eqB {a b:Bs}:mB a b=true↔a=b:=by rw [bH,beq_iff_eq]
theorem wAw {T:List Tok} {w:Bs} {i:Nat} (ok:TokOK (tk T i)) (hw:lA2 w=false):isS T w i=(decide ((tk T i).1=2)&&mB (tk T i).2.1 w):=by
 unfold isS
 by_cases q2:(tk T i).1=2
 ·simp [q2]
 ·by_cases q5:(tk T i).1=5
  ·have:mB (tk T i).2.1 w=false:=by
    cases e:mB (tk T i).2.1 w with
    | false=>rfl
    | true=>
     have:=ok.sign q5
     rw [eqB.1 e,hw] at this;cases this
   simp [q2,q5,this]
  ·simp [q2,q5]
theorem lAj {T:List Tok} {w:Bs} {i:Nat} (ok:TokOK (tk T i)) (hw:isWord w=false):isS T w i=(decide ((tk T i).1=5)&&mB (tk T i).2.1 w):=by
 unfold isS
 by_cases q5:(tk T i).1=5
 ·simp [q5]
 ·by_cases q2:(tk T i).1=2
  ·have:mB (tk T i).2.1 w=false:=by
    cases e:mB (tk T i).2.1 w with
    | false=>rfl
    | true=>
     have:=ok.word q2
     rw [eqB.1 e,hw] at this;cases this
   simp [q2,q5,this]
  ·simp [q2,q5]
section
variable {N:Nat} {T:List Tok} {P:Nat} {X:List Nat} {h:Heap} {σ:St} {st:Int}
theorem mAj (h:Heap) (q:Tok):∃ h',(h.push (.row [(.int .i64 0),(.str []),(.int .i64 0)] .own)).store (h.next,0) [(.int .i64 (kAj q).1),(.str (kAj q).2.1),(.int .i64 (kAj q).2.2.1)]=some h'∧Chg [] h h'∧h'.own h.next (tkc q.1 q.2.1 (q.2.2:Int)):=by
 have o1:=vA h (tkc 0 [] 0);exact ⟨_,o1.store rfl,(qA h _).put (.inr (Nat.le_refl _)) _,yA o1 _⟩
theorem pAf (x:PA T P X h σ st) (k:Int) (w:Bs):∃ h',f146 N (some (P,0)) k w h=some (σ.2.isNone&&(decide ((tk T σ.1).1=k)&&mB (tk T σ.1).2.1 w),h')∧Chg [] h h':=by
 unfold f146;obtain ⟨h2,e2,c2⟩:=cN (N:=N) x;rw [e2,aA];obtain ⟨h4,e4,c4,o4⟩:=mAj h2 (tk T σ.1);dsimp only;rw [e4,dA];have c5:=c2.trans c4;obtain ⟨v,k3,hv⟩:=(x.chg c5).readE;simp only [dA,Nat.zero_add,k3,fA,bE,hv.eq 13,rB]
 cases σ.2.isNone with
 | false=>exact ⟨_,rfl,c5⟩
 | true=>
  simp only [cond_true,Bool.true_and,Nat.add_zero];have r0:h4.cell (h2.next,0)=some (.int .i64 (tk T σ.1).1):=o4.cell 0;have r1:h4.cell (h2.next,1)=some (.str (tk T σ.1).2.1):=o4.cell 1;simp only [r0,r1,fA,bD,cD,eqI]
  by_cases q:(tk T σ.1).1=k
  ·simp only [q,decide_true,cond_true,Bool.true_and];exact ⟨_,rfl,c5⟩
  ·simp only [q,decide_false,cond_false,Bool.false_and];exact ⟨_,rfl,c5⟩
theorem mB2 {i:Nat} (hT:Toks T) (hi:i<T.length):dB .i64 ((i:Int)+1)=((i+1:Nat):Int):=dC (by have:=hT.len;omega)
theorem nAj (hT:Toks T) (x:PA T P X h σ st) {w:Bs} {b:Bool} {h2:Heap} (c2:Chg [] h h2) (hb:b=(σ.2.isNone&&isS T w σ.1)) :
  ∃ h',(let x3:Bool:=!b
   (bif x3 then
    some (false,h2)
    else
    (rA (some (P,0)) fun q4=>
    (iA (.val zO2) (h2.cell (q4.1,q4.2+1)) fun (x5:Int)=>
    let x6:Int:=dB .i64 (x5+1)
    (rA (some (P,0)) fun q7=>
    (rA (h2.store (q7.1,q7.2+1) [(.int .i64 x6)]) fun h8=>
    some (true,h8)))))))=some ((jB T w σ).1,h')∧Chg [P] h h'∧PA T P X h' (jB T w σ).2 st:=by
 have x2:=x.chg c2;obtain ⟨i,e⟩:=σ;subst hb
 cases e with
 | some q=>exact ⟨_,rfl,c2.mono (by simp),x2⟩
 | none=>
  simp only [Option.isNone_none,Bool.true_and,jB]
  cases hs:isS T w i with
  | false=>simp only [Bool.not_false,cond_true,Bool.false_eq_true,if_false];exact ⟨_,rfl,c2.mono (by simp),x2⟩
  | true=>
   simp only [Bool.not_true,cond_false,if_true,dA,Nat.zero_add,x2.readI,fA,bD];have h0:(tk T i).1≠0:=by
    intro e0;simp [isS,e0] at hs
   have hn:=fAr hT x.lt h0;rw [mB2 hT x.lt];obtain ⟨h8,e8,c8,x8⟩:=PA.setI x2 hn;rw [e8,dA];exact ⟨_,rfl,(c2.mono (by simp)).trans c8,x8⟩
theorem oAj (hT:Toks T) (x:PA T P X h σ st) {w:Bs} (hw:lA2 w=false):∃ h',f92 N (some (P,0)) w h=some ((jB T w σ).1,h')∧Chg [P] h h'∧PA T P X h' (jB T w σ).2 st:=by
 unfold f92;obtain ⟨h2,e2,c2⟩:=pAf (N:=N) x 2 w;rw [e2,aA];exact nAj hT x c2 (by rw [wAw (uB9 hT x.lt) hw])
theorem fA6 (hT:Toks T) (x:PA T P X h σ st) {w:Bs} (hw:isWord w=false):∃ h',f93 N (some (P,0)) w h=some ((jB T w σ).1,h')∧Chg [P] h h'∧PA T P X h' (jB T w σ).2 st:=by
 unfold f93;obtain ⟨h2,e2,c2⟩:=pAf (N:=N) x 5 w;rw [e2,aA];exact nAj hT x c2 (by rw [lAj (uB9 hT x.lt) hw])
theorem kAc (hT:Toks T) (x:PA T P X h σ st) {k:Int} (hk:k≠0):∃ h',f94 N (some (P,0)) k h=some ((pB T k σ).1,h')∧Chg [P] h h'∧PA T P X h' (pB T k σ).2 st:=by
 unfold f94;obtain ⟨h2,e2,c2⟩:=cN (N:=N) x;rw [e2,aA];obtain ⟨h4,e4,c4,o4⟩:=mAj h2 (tk T σ.1);dsimp only;rw [e4,dA];have c5:=c2.trans c4;have x5:=x.chg c5;obtain ⟨v,k3,hv⟩:=x5.readE;simp only [dA,Nat.zero_add,k3,fA,bE,hv.ne 11,rB];obtain ⟨i,e⟩:=σ
 cases e with
 | some q=>
  simp only [Option.isSome_some,cond_true,pB];obtain ⟨h9,e9,c9,x9⟩:=mA2 (N:=N) x5 (c:=21) (by decide);rw [e9,aA];exact ⟨_,rfl,(c5.mono (by simp)).trans c9,x9⟩
 | none=>
  simp only [Option.isSome_none,cond_false,Nat.add_zero];have r0:h4.cell (h2.next,0)=some (.int .i64 (tk T i).1):=o4.cell 0;simp only [r0,fA,bD,eqI,pB]
  by_cases q:(tk T i).1=k
  ·simp only [q,decide_true,Bool.not_true,cond_false,if_true,x5.readI,fA,bD,dA]
   have hn:=fAr hT x.lt (by rw [q];exact hk);rw [mB2 hT x.lt];obtain ⟨h8,e8,c8,x8⟩:=PA.setI x5 hn;rw [e8,dA];have hP:h2.next≠P:=by have:=(x.chg c2).P_lt;omega
   have r1:h8.cell (h2.next,1)=some (.str (tk T i).2.1):=(o4.chg c8 (by simpa using hP)).cell 1;simp only [r1,fA,cD];exact ⟨_,rfl,(c5.mono (by simp)).trans c8,x8⟩
  ·simp only [q,decide_false,Bool.not_false,cond_true,if_false]
   obtain ⟨h9,e9,c9,x9⟩:=mA2 (N:=N) x5 (c:=21) (by decide);rw [e9,aA];exact ⟨_,rfl,(c5.mono (by simp)).trans c9,x9⟩
theorem lAc (hT:Toks T) (k:Int) (hi:σ.1<T.length):(pB T k σ).1.length≤3000000:=by
 obtain ⟨i,e⟩:=σ
 cases e with
 | some q=>simp [pB]
 | none=>
  simp only [pB]
  split
  ·exact (uB9 hT hi).len
  ·simp
theorem gAr {a b:Bs} (h:a.length+b.length≤1099511627776):dL .add a b=some (.str (a++b)):=by
 have:Nat.ble (a.length+b.length) 1099511627776=true:=by rw [Nat.ble_eq];exact h
 simp only [dL,this,cond_true]
theorem dAz (hT:Toks T) (x:PA T P X h σ st):∃ h',f95 N (some (P,0)) h=some ((wG T σ).1,h')∧Chg [P] h h'∧PA T P X h' (wG T σ).2 st:=by
 unfold f95;obtain ⟨h2,e2,c2,x2⟩:=kAc (N:=N) hT x (k:=1) (by decide);have l2:=lAc hT 1 x.lt;rw [e2,aA];obtain ⟨h4,e4,c4,x4⟩:=fA6 (N:=N) hT x2 (w:=[58,58]) (by decide);rw [e4,aA];have c5:=c2.trans c4;simp only [wG]
 cases hb:(jB T [58,58] (pB T 1 σ).2).1 with
 | false=>simp only [cond_false,Bool.false_eq_true,if_false];exact ⟨_,rfl,c5,x4⟩
 | true=>
  simp only [cond_true,if_true];obtain ⟨h7,e7,c7,x7⟩:=kAc (N:=N) hT x4 (k:=1) (by decide);have l7:=lAc hT 1 x4.lt;rw [gAr (by simp only [List.length_cons,List.length_nil];omega)];simp only [fA,cD];rw [e7,aA,gAr (by simp only [List.length_append,List.length_cons,List.length_nil];omega)];simp only [fA,cD];exact ⟨_,rfl,c5.trans c7,x7⟩
theorem qAf (x:PA T P X h σ st) (n:Nat):∃ h',f188 N (some (P,0)) (n:Int) h=some (((if 64≤n then jE T 5 σ else σ).2).isNone,h')∧Chg [P] h h'∧PA T P X h' (if 64≤n then jE T 5 σ else σ) st:=by
 unfold f188;have z:cE 64 (n:Int)=decide (64≤n):=jA2 64 n;simp only [z]
 by_cases q:64≤n
 ·simp only [q,decide_true,cond_true,if_true]
  obtain ⟨h2,e2,c2,x2⟩:=mA2 (N:=N) x (c:=5) (by decide);rw [e2,aA];obtain ⟨v,k3,hv⟩:=x2.readE;simp only [dA,Nat.zero_add,k3,fA,bE,hv.eq 12,rB];exact ⟨_,rfl,c2,x2⟩
 ·simp only [q,decide_false,cond_false,if_false]
  obtain ⟨v,k3,hv⟩:=x.readE;simp only [dA,Nat.zero_add,k3,fA,bE,hv.eq 12,rB];exact ⟨_,rfl,Chg.refl _ _,x⟩
theorem iAr (hT:Toks T) (x:PA T P X h σ st) {w:Bs} (hw:isWord w=false):∃ h',f149 N (some (P,0)) w h=some ((),h')∧Chg [P] h h'∧PA T P X h' (uC T w σ) st:=by
 unfold f149 uC;obtain ⟨h2,e2,c2,x2⟩:=fA6 (N:=N) hT x hw;rw [e2,aA]
 cases hb:(jB T w σ).1 with
 | true=>simp only [Bool.not_true,cond_false,if_true];exact ⟨_,rfl,c2,x2⟩
 | false=>
  simp only [Bool.not_false,cond_true,Bool.false_eq_true,if_false];obtain ⟨h3,e3,c3,x3⟩:=mA2 (N:=N) x2 (c:=21) (by decide);rw [e3,aA];exact ⟨_,rfl,c2.trans c3,x3⟩
end
end Qp
namespace Qp
def qE (T:List Tok):Nat→St→List Bs×St
 | 0,σ=>([],jE T 5 σ)
 | g+1,σ=>let a:=pB T 3 σ;let b:=jB T [44] a.2;if b.1=true then ((a.1::(qE T g b.2).1),(qE T g b.2).2) else ([a.1],b.2)
def pG (T:List Tok) (σ:St):List Bs×St:=
 let b:=jB T [60] σ
 if b.1=true then ((qE T 64 b.2).1,uC T [62] (qE T 64 b.2).2) else ([],b.2)
theorem nH {T:List Tok} {w:Bs} {σ:St} (h:(jB T w σ).1=true):(jB T w σ).2=(σ.1+1,none)∧σ.2=none:=by
 obtain ⟨i,e⟩:=σ
 cases e with
 | some q=>simp [jB] at h
 | none=>
  simp only [jB] at h ⊢
  split at h
  ·rename_i q;rw [if_pos q];simp
  ·cases h
theorem gAm:AppN E 38 9 1 100:=AppN.of (by kernel_rfl)
theorem uJ (h:Heap) (V:Nat→Prop) (x:Bs):Dt h V (.s x) [.str x]:=by simp only [Dt]
section
variable {N:Nat} {T:List Tok} {P:Nat} {X:List Nat} {st:Int}
theorem iAm {h0 H:Heap} {M:List Nat} {v:SL} {xs:List Bs} (c:Chg M h0 H) (x:Ow h0.next H v 1 (xs.map D.s)) (hl:xs.length≤2000000) (t:Bs) :
  ∃ v' H',(∀ {β:Type} (K:SL→Heap→Option β),aE (.val zL2) (iB E 38 38 (.slice v.a v.len v.cap v.sz) (.slice (some (H.next,0)) 1 1 1) (H.push (.row [(.str t)] .own))) K=K v' H')∧Ow h0.next H' v' 1 ((xs++[t]).map D.s)∧Chg v.blk.toList H H':=by
 obtain ⟨s',h',e,o,c',_⟩:=fU (cs:=[AV.str t]) gAm (by decide) x (uJ H _ t) rfl c.next (by rw [List.length_map];omega);refine ⟨s',h',fun K=>?_,?_,c'⟩
 ·have e':iB E 38 38 (.slice v.a v.len v.cap v.sz) (.slice (some (H.next,0)) 1 1 1) (H.push (.row [(.str t)] .own))=some (.slice s'.a s'.len s'.cap s'.sz,h'):=e
  rw [e'];simp only [lG,uA]
 ·rw [List.map_append];exact o
theorem pB2 (hT:Toks T) {h0 h:Heap} {O Q i:Nat} (x:PA T P X h (i,none) st) (hX:O∈X) (c:Chg [P,O] h0 h) (hO:P<O∧O<h0.next) (hQ:Q≠P∧Q≠O∧Q<h0.next) {v:SL} {xs:List Bs} (oO:h.own O [SL.av v]) (oQ:h.own Q [.ptr (some (P,0))]) (ow:Ow h0.next h v 1 (xs.map D.s)) (hl:xs.length≤2000000) :
  ∃ v' h',f148 N (some (O,0)) (some (Q,0)) h=some ((),h')∧PA T P X h' (pB T 3 (i,none)).2 st∧Chg [P,O] h0 h'∧h'.own O [SL.av v']∧h'.own Q [.ptr (some (P,0))]∧Ow h0.next h' v' 1 ((xs++[(pB T 3 (i,none)).1]).map D.s):=by
 unfold f148;have rO:h.cell (O,0)=some (SL.av v):=oO.cell 0;have rQ:h.cell (Q,0)=some (.ptr (some (P,0))):=oQ.cell 0;have hn:=c.next;have hge:∀ A∈v.blk.toList,h0.next≤A∧A<h.next:=fun A hA=>ow.ge A (by simpa using hA);have xr:=x.free (X':=v.blk.toList++X) (fun A hA=>by
  rcases List.mem_append.1 hA with hA | hA
  ·have:=hge A hA;omega
  ·exact x.xl A hA)
 obtain ⟨h6,e6,c6,x6⟩:=kAc (N:=N) hT xr (k:=3) (by decide);simp only [dA,rO,rQ,SL.av,fA,uA,qB];rw [e6,aA];have oO6:h6.own O [SL.av v]:=oO.chg c6 (by simp;omega);have oQ6:h6.own Q [.ptr (some (P,0))]:=oQ.chg c6 (by simp;omega);have c06:Chg [P,O] h0 h6:=c.trans (c6.mono (by simp));have ow6:Ow h0.next h6 v 1 (xs.map D.s):=ow.chg c6 (by intro A hA;rw [List.mem_singleton] at hA;omega);obtain ⟨v',h9,e9,o9,c9⟩:=iAm c06 ow6 hl (pB T 3 (i,none)).1;rw [e9];have oO9:h9.own O [SL.av v]:=oO6.chg c9 (by intro hm;have:=hge O hm;omega);have oQ9:h9.own Q [.ptr (some (P,0))]:=oQ6.chg c9 (by intro hm;have:=hge Q hm;omega);have hst:h9.store (O,0) [SL.av v']=some (h9.put O (.row [SL.av v'] .own)):=oO9.store rfl;simp only [SL.av] at hst;rw [hst,dA];have r7:(h6.push (.row [(.str (pB T 3 (i,none)).1)] .own)).cell (O,0)=some (SL.av v):=(oO6.chg (qA h6 _) (by simp)).cell 0;have r6:h6.cell (O,0)=some (SL.av v):=oO6.cell 0;simp only [fF,rQ,r7,r6,rO,SL.av,wC,cond_true,aC];have x9:PA T P (v.blk.toList++X) h9 (pB T 3 (i,none)).2 st:=x6.chgM c9 (fun A hA=>List.mem_append_left _ hA);have x10:=x9.chg1 (oO9.put [SL.av v']) (List.mem_append_right _ hX);have c09:Chg [P,O] h0 h9:=c06.step c9 (fun A hA hlt=>by have:=hge A hA;omega);refine ⟨v',_,rfl,x10.sub (fun A hA=>List.mem_append_right _ hA),c09.put (.inl (by simp)) _,yA oO9 _,oQ9.chg (oO9.put [SL.av v']) (by simp;omega),o9.chg (oO9.put [SL.av v']) (by intro A hA;rw [List.mem_singleton] at hA;omega)⟩
theorem jAr (hT:Toks T) {h0:Heap} {O Q:Nat} (hX:O∈X) (hO:P<O∧O<h0.next) (hQ:Q≠P∧Q≠O∧Q<h0.next):∀ (g M:Nat) (i:Nat) (h:Heap) (v:SL) (xs:List Bs),g<M→g≤64→xs.length≤64-g→PA T P X h (i,none) st→Chg [P,O] h0 h→h.own O [SL.av v]→h.own Q [.ptr (some (P,0))]→Ow h0.next h v 1 (xs.map D.s)→
  ∃ o v' h',bM N M (some (P,0)) [44] ((some (O,0)),(some (Q,0)),()) ((64-g:Nat):Int) h=some (o,(),h')∧PA T P X h' (qE T g (i,none)).2 st∧Chg [P,O] h0 h'∧h'.own O [SL.av v']∧h'.own Q [.ptr (some (P,0))]∧Ow h0.next h' v' 1 ((xs++(qE T g (i,none)).1).map D.s):=by
 intro g
 induction g with
 | zero=>
  intro M i h v xs hM hg hx x c oO oQ ow;obtain ⟨M,rfl⟩:∃ m,M=m+1:=⟨M-1,by omega⟩;rw [bN];unfold wI;obtain ⟨h2,e2,c2,x2⟩:=qAf (N:=N) x (64-0);rw [e2,aA];simp only [show 64≤64-0 by omega,if_true,jE,Option.isNone_some,cond_false] at x2 ⊢;refine ⟨_,v,h2,rfl,x2,c.trans (c2.mono (by simp)),oO.chg c2 (by simp;omega),oQ.chg c2 (by simp;omega),?_⟩;simp only [qE,List.append_nil];exact ow.chg c2 (by intro A hA;rw [List.mem_singleton] at hA;omega)
 | succ g ih=>
  intro M i h v xs hM hg hx x c oO oQ ow;obtain ⟨M,rfl⟩:∃ m,M=m+1:=⟨M-1,by omega⟩;rw [bN];unfold wI;obtain ⟨h2,e2,c2,x2⟩:=qAf (N:=N) x (64-(g+1));rw [e2,aA];have z:¬ 64≤64-(g+1):=by omega
  simp only [z,if_false,Option.isNone_none,cond_true] at x2 ⊢;have c02:=c.trans (c2.mono (N:=[P,O]) (by simp));obtain ⟨v',h4,e4,x4,c4,o4,q4,w4⟩:=pB2 (N:=N) hT x2 hX c02 hO hQ (oO.chg c2 (by simp;omega)) (oQ.chg c2 (by simp;omega)) (ow.chg c2 (by intro A hA;rw [List.mem_singleton] at hA;omega)) (by omega);rw [e4,aA];obtain ⟨h6,e6,c6,x6⟩:=fA6 (N:=N) hT x4 (w:=[44]) (by decide);rw [e6,aA];have c06:=c4.trans (c6.mono (N:=[P,O]) (by simp));have o6:=o4.chg c6 (by simp;omega);have q6:=q4.chg c6 (by simp;omega);have w6:=w4.chg c6 (by intro A hA;rw [List.mem_singleton] at hA;omega);simp only [qE]
  cases hb:(jB T [44] (pB T 3 (i,none)).2).1 with
  | false=>
   simp only [Bool.not_false,cond_true,Bool.false_eq_true,if_false];exact ⟨_,v',h6,rfl,x6,c06,o6,q6,w6⟩
  | true=>
   simp only [Bool.not_true,cond_false,if_true];have hs:=(nH hb).1;rw [hs] at x6 ⊢;rw [dC (by omega),show 64-(g+1)+1=64-g by omega]
   have:=ih M _ h6 v' (xs++[(pB T 3 (i,none)).1]) (by omega) (by omega) (by simp;omega) x6 c06 o6 q6 w6
   simpa only [List.append_assoc,List.singleton_append] using this
theorem eAz (hT:Toks T) (hN:100≤N) {h:Heap} {σ:St} (x:PA T P X h σ st):∃ v h',f96 N (some (P,0)) h=some (v,h')∧PA T P X h' (pG T σ).2 st∧Chg [P] h h'∧Sl h' (fun C=>h.next≤C) v ((pG T σ).1.map D.s):=by
 unfold f96;have oQ:=vA h [AV.ptr (some (P,0))];have cQ:=qA h (.row [AV.ptr (some (P,0))] .own);have nQ:(h.push (.row [AV.ptr (some (P,0))] .own)).next=h.next+1:=rfl;dsimp only;generalize h.push (.row [AV.ptr (some (P,0))] .own)=h1 at *;have oO:(h1.push (.row [(.slice none 0 0 0)] .own)).own h1.next [SL.av ⟨none,0,0,0⟩]:=vA h1 _;have cO:=qA h1 (.row [(.slice none 0 0 0)] .own);have nO:(h1.push (.row [(.slice none 0 0 0)] .own)).next=h1.next+1:=rfl;generalize h1.push (.row [(.slice none 0 0 0)] .own)=h2 at *;have oQ2:=oQ.chg cO (by simp);have x2:=(x.chg cQ).add cO (A:=h1.next) (Nat.le_refl _) (by omega);have c02:=cQ.trans cO;have r2:h2.cell (h.next,0)=some (.ptr (some (P,0))):=oQ2.cell 0;have hP:=x.P_lt;simp only [r2,fA,qB];obtain ⟨h5,e5,c5,x5⟩:=fA6 (N:=N) hT x2 (w:=[60]) (by decide);rw [e5,aA];have oO5:=oO.chg c5 (by simp;omega);have oQ5:=oQ2.chg c5 (by simp;omega);simp only [pG]
 cases hb:(jB T [60] σ).1 with
 | false=>
  simp only [cond_false,Bool.false_eq_true,if_false];have r5:h5.cell (h1.next,0)=some (SL.av ⟨none,0,0,0⟩):=oO5.cell 0;simp only [r5,SL.av,fA,uA];exact ⟨_,_,rfl,x5.sub (by simp +contextual),(c02.mono (by simp)).trans c5,Sl.nil _ _ _⟩
 | true=>
  simp only [cond_true,if_true];have hs:=(nH hb).1;rw [hs] at x5 ⊢;have r5:h5.cell (h.next,0)=some (.ptr (some (P,0))):=oQ5.cell 0;simp only [r5,fA,qB];unfold iA8;obtain ⟨o,v',h8,e8,x8,c8,o8,q8,w8⟩:=jAr (N:=N) hT (h0:=h2) (X:=h1.next::X) (O:=h1.next) (Q:=h.next) (by simp) (by omega) (by omega) 64 N _ h5 ⟨none,0,0,0⟩ [] (by omega) (Nat.le_refl _) (by simp) x5 (c5.mono (by simp)) oO5 oQ5 (Ow.nil _ _ _ _);rw [show ((64-64:Nat):Int)=0 from rfl] at e8;rw [e8];have hc:Chg [P] h h8:=(c02.mono (by simp)).step c8 (fun A hA hlt=>by
   simp only [List.mem_cons,List.not_mem_nil,or_false] at hA ⊢;omega)
  have r8:h8.cell (h.next,0)=some (.ptr (some (P,0))):=q8.cell 0;have fin:∀ (K:Option (SL×Heap)),(iA (.val zK2) (h8.cell (h.next,0)) fun (x9:zJ2)=>
  (lA (f149 N x9 [62] h8) fun (x10:(Unit)) h11=>
  (iA (.val zL2) (h11.cell (h1.next,0)) fun (x12:SL)=>
  some (x12,h11))))=K→(fE (some (o,((),h8))) fun o9 (j10:Unit) h11=>(bif gE o9 (.exit 0) then some ((),h11) else some ((),h11)))=some ((),h8):=fun K _=>by
   simp only [uB];cases gE o (.exit 0) <;> rfl
  have e81:(fE (some (o,((),h8))) fun o9 (j10:Unit) h11=>(bif gE o9 (.exit 0) then some ((),h11) else some ((),h11)))=some ((),h8):=fin _ rfl;rw [e81,aA];simp only [r8,fA,qB];obtain ⟨h11,e11,c11,x11⟩:=iAr (N:=N) hT x8 (w:=[62]) (by decide);rw [e11,aA];have r11:h11.cell (h1.next,0)=some (SL.av v'):=(o8.chg c11 (by simp;omega)).cell 0;simp only [r11,SL.av,fA,uA];refine ⟨_,_,rfl,x11.sub (by simp +contextual),hc.trans c11,?_⟩;have w11:=w8.chg c11 (by intro A hA;rw [List.mem_singleton] at hA;omega);rw [List.nil_append] at w11;exact w11.sl.weak (fun C hC _=>by omega)
end
end Qp
namespace Qp
abbrev TyV:=Int×zQ2×SL×SL×Unit
abbrev sl0:SL:=⟨none,0,0,0⟩
def tyc (r:TyV):List AV:=[.int .i64 r.1,.str r.2.1,SL.av r.2.2.1,SL.av r.2.2.2.1]
def tyD (k:Int) (x:Bs) (lv:List Bs) (el:List D):D:=.t [.i k,.s x,.l (lv.map D.s),.l el]
theorem oA4 {h:Heap} {V:Nat→Prop} {k:Int} {x:Bs} {lv:List Bs} {el:List D} {cs:List AV}:Dt h V (tyD k x lv el) cs↔∃ s1 s2,cs=tyc (k,x,s1,s2,())∧Sl h V s1 (lv.map D.s)∧Sl h V s2 el:=by
 simp only [tyD,Dt,Dp];constructor
 ·rintro ⟨a,b,rfl,rfl,a2,b2,rfl,rfl,a3,b3,rfl,⟨s1,v1,rfl,p1,p2,p3,p4,p5⟩,a4,b4,rfl,⟨s2,v2,rfl,q1,q2,q3,q4,q5⟩,rfl⟩
  exact ⟨s1,s2,rfl,⟨p1,p2,p3,v1,p4,p5⟩,⟨q1,q2,q3,v2,q4,q5⟩⟩
 ·rintro ⟨s1,s2,rfl,⟨p1,p2,p3,v1,p4,p5⟩,⟨q1,q2,q3,v2,q4,q5⟩⟩
  exact ⟨[_],_,rfl,rfl,[_],_,rfl,rfl,[_],_,rfl,⟨s1,v1,rfl,p1,p2,p3,p4,p5⟩,[_],[],rfl,⟨s2,v2,rfl,q1,q2,q3,q4,q5⟩,rfl⟩
theorem gY (h:Heap) (V:Nat→Prop) (k:Int) (x:Bs):Dt h V (tyD k x [] []) (tyc (k,x,sl0,sl0,())):=oA4.2 ⟨sl0,sl0,rfl,Sl.nil _ _ _,Sl.nil _ _ _⟩
theorem fAz {h:Heap} {V:Nat→Prop} {A n:Nat} {cs:List AV} {d:D} (o:h.own A cs) (hl:cs.length=n) (hA:V A) (hd:Dt h V d cs):Sl h V ⟨some (A,0),1,1,n⟩ [d]:=by
 refine ⟨rfl,Nat.le_refl _,fun C hC=>?_,cs,⟨by simp [hl],fun ha=>(by cases ha),fun A' off ha=>?_⟩,?_⟩
 ·simp [SL.blk] at hC;subst hC;exact hA
 ·simp only [Option.some.injEq,Prod.mk.injEq] at ha
  obtain ⟨rfl,rfl⟩:=ha;refine ⟨o.2,cs,by rw [o.1];rfl,by rw [List.drop_zero];exact List.take_of_length_le (Nat.le_refl _)⟩
 ·simp only [De]
  exact ⟨cs,[],by simp,hl,hd,rfl⟩
theorem jAm {β:Type} (r:TyV) (K:TyV→Option β):iA (.val zC) (some (.agg (tyc r))) K=K r:=by
 obtain ⟨k,x,s1,s2,_⟩:=r;simp [tyc,SL.av]
theorem iY {H:Heap} {A:Nat} {r:TyV} (o:H.own A (tyc r)) {β:Type} (K:TyV→Option β):iA (.val zC) (H.cells (A,0) 4) K=K r:=by
 have:H.cells (A,0) 4=some (.agg (tyc r)):=o.cells (j:=0) (m:=4) (Nat.le_refl _)
 rw [this,jAm]
theorem gA6 {H:Heap} {A:Nat} {r0:TyV} (o:H.own A (tyc r0)) (r:TyV):H.store (A,0) [.int .i64 r.1,.str r.2.1,.slice r.2.2.1.a r.2.2.1.len r.2.2.1.cap r.2.2.1.sz,.slice r.2.2.2.1.a r.2.2.2.1.len r.2.2.2.1.cap r.2.2.2.1.sz]=some (H.put A (.row (tyc r) .own)):=o.store rfl
theorem gAz {H:Heap} {A:Nat} {r0:TyV} (o:H.own A (tyc r0)) (r:TyV) {β:Type} (K:TyV→Heap→Option β) :
  (rA (H.store (A,0) [.int .i64 r.1,.str r.2.1,.slice r.2.2.1.a r.2.2.1.len r.2.2.1.cap r.2.2.1.sz,.slice r.2.2.2.1.a r.2.2.2.1.len r.2.2.2.1.cap r.2.2.2.1.sz]) fun h7=>iA (.val zC) (h7.cells (A,0) 4) fun x8=>K x8 h7)=K r (H.put A (.row (tyc r) .own)):=by
 rw [gA6 o,dA,iY (yA o _)]
def qQ (T:List Tok) (σ:St):List Bs×St:=if (tk T σ.1).1=3 then ([(pB T 3 σ).1],(pB T 3 σ).2) else ([],σ)
def oH (T:List Tok):Nat→St→D×St
 | 0,σ=>(tyD 0 [] [] [],jE T 6 σ)
 | _+1,(i,some e)=>(tyD 0 [] [] [],(i,some e))
 | g+1,(i,none)=>
  let a:=jB T [105,110,116] (i,none)
  if a.1=true then (tyD 1 [] [] [],a.2) else
  let b:=jB T [98,111,111,108] a.2
  if b.1=true then (tyD 2 [] [] [],b.2) else
  let c:=jB T [38] b.2
  if c.1=true then
   let d:=qQ T c.2
   let m:=jB T [109,117,116] d.2
   (tyD (if m.1=true then 5 else 4) [] d.1 [(oH T g m.2).1],(oH T g m.2).2)
  else
   let n:=wG T c.2
   let l:=pG T n.2
   (tyD 3 n.1 l.1 [],l.2)
section
variable {N:Nat} {T:List Tok} {P:Nat} {X:List Nat} {st:Int} {h:Heap} {σ:St}
theorem kAr (hT:Toks T) (x:PA T P X h σ st) {A:Nat} {deep:Int} {R:zJ2} (oA:h.own A (tyc (4,[],sl0,sl0,()))) (hX:A∈X) :
  ∃ s1 h38,(lA (f56 N (some (P,0)) h) fun (x30:zP) h31=>
    let x32:Bool:=kB x30.1 3
    (bif x32 then
    (lA (f94 N (some (P,0)) 3 h31) fun (x33:zQ2) h34=>
    let h35:Heap:=h34.push (.row [(.str x33)] .own)
    (rA (h35.store ((A,0).1,(A,0).2+2) [(.slice (some (h34.next,0)) 1 1 1)]) fun h36=>
    some ((some (P,0),deep,R,(some (A,0)),()),h36)))
    else
    some ((some (P,0),deep,R,(some (A,0)),()),h31)))=some ((some (P,0),deep,R,(some (A,0)),()),h38)∧PA T P X h38 (qQ T σ).2 st∧Chg [P,A] h h38∧h38.own A (tyc (4,[],s1,sl0,()))∧Sl h38 (fun C=>h.next≤C) s1 ((qQ T σ).1.map D.s):=by
 obtain ⟨h31,e31,c31⟩:=cN (N:=N) x;rw [e31,aA];have x31:=x.chg c31;have o31:=oA.chg c31 (by simp);simp only [kAj,eqI,qQ]
 by_cases q:(tk T σ.1).1=3
 ·simp only [q,decide_true,cond_true,if_true]
  obtain ⟨h34,e34,c34,x34⟩:=kAc (N:=N) hT x31 (k:=3) (by decide);rw [e34,aA];have o34:=o31.chg c34 (by have:=(x.xl A hX).1;simp;omega);have oB:=vA h34 [AV.str (pB T 3 σ).1];have cB:=qA h34 (.row [AV.str (pB T 3 σ).1] .own);generalize h34.push (.row [AV.str (pB T 3 σ).1] .own)=h35 at *;have o35:=o34.chg cB (by simp);have hst:h35.store (A,2) [SL.av ⟨some (h34.next,0),1,1,1⟩]=some (h35.put A (.row (tyc (4,[],⟨some (h34.next,0),1,1,1⟩,sl0,())) .own)):=o35.store1 (j:=2) (by show 2<4;omega) _;simp only [SL.av] at hst;simp only [Nat.zero_add];rw [hst,dA];have cp:=o35.put (tyc (4,[],⟨some (h34.next,0),1,1,1⟩,sl0,()));have hAl:A<h34.next:=o34.2;refine ⟨_,_,rfl,(x34.chg cB).chg1 cp hX,((c31.mono (by simp)).trans (c34.mono (by simp))).trans ((cB.mono (by simp)).trans (cp.mono (by simp))),yA o35 _,?_⟩
  have:=fAz (V:=fun C=>h.next≤C) (oB.chg cp (by rw [List.mem_singleton];omega)) rfl (Nat.le_trans c31.next c34.next) (uJ _ _ _)
  exact this
 ·simp only [q,decide_false,cond_false,if_false]
  exact ⟨sl0,_,rfl,x31,c31.mono (by simp),o31,Sl.nil _ _ _⟩
theorem yAw (hT:Toks T) (x:PA T P X h σ st) {A:Nat} {deep:Int} {R:zJ2} {s1:SL} (oA:h.own A (tyc (4,[],s1,sl0,()))) (hX:A∈X) :
  ∃ h44,(lA (f92 N (some (P,0)) [109,117,116] h) fun (x39:Bool) h40=>
    (bif x39 then
    (rA (some (A,0)) fun q41=>
    (rA (h40.store (q41.1,q41.2+0) [(.int .i64 5)]) fun h42=>
    some ((some (P,0),deep,R,(some (A,0)),()),h42)))
    else
    some ((some (P,0),deep,R,(some (A,0)),()),h40)))=some ((some (P,0),deep,R,(some (A,0)),()),h44)∧PA T P X h44 (jB T [109,117,116] σ).2 st∧Chg [P,A] h h44∧h44.own A (tyc ((if (jB T [109,117,116] σ).1=true then 5 else 4),[],s1,sl0,())):=by
 obtain ⟨h40,e40,c40,x40⟩:=oAj (N:=N) hT x (w:=[109,117,116]) (by decide);rw [e40,aA];have o40:=oA.chg c40 (by have:=(x.xl A hX).1;simp;omega)
 cases hb:(jB T [109,117,116] σ).1 with
 | false=>
  simp only [cond_false,Bool.false_eq_true,if_false];exact ⟨_,rfl,x40,c40.mono (by simp),o40⟩
 | true=>
  simp only [cond_true,if_true,dA,Nat.zero_add,Nat.add_zero];have hst:h40.store (A,0) [.int .i64 5]=some (h40.put A (.row (tyc (5,[],s1,sl0,())) .own)):=o40.store1 (j:=0) (by show 0<4;omega) _;rw [hst,dA];have cp:=o40.put (tyc (5,[],s1,sl0,()));exact ⟨_,rfl,x40.chg1 cp hX,(c40.mono (by simp)).trans (cp.mono (by simp)),yA o40 _⟩
end
end Qp
namespace Qp
theorem rD {T:List Tok} {w:Bs} {σ:St} (h:(jB T w σ).1=false):(jB T w σ).2=σ:=by
 obtain ⟨i,e⟩:=σ
 cases e with
 | some q=>rfl
 | none=>
  simp only [jB] at h ⊢
  split at h
  ·cases h
  ·rename_i q;rw [if_neg q]
abbrev zt:List AV:=tyc (0,[],sl0,sl0,())
section
variable {N:Nat} {T:List Tok} {P:Nat} {st:Int}
theorem iAz (hT:Toks T) (hN:100≤N):∀ (g M:Nat) (h:Heap) (σ:St) (X:List Nat),g<M→g≤64→PA T P X h σ st→
  ∃ r h',f55 N M (some (P,0)) ((65-g:Nat):Int) h=some (r,h')∧PA T P X h' (oH T g σ).2 st∧Chg [P] h h'∧Dt h' (fun C=>h.next≤C) (oH T g σ).1 (tyc r):=by
 intro g
 induction g with
 | zero=>
  intro M h σ X hM hg x;obtain ⟨M,rfl⟩:∃ m,M=m+1:=⟨M-1,by omega⟩;rw [eAj];unfold pAw;have o1:=vA h zt;have c1:=qA h (.row zt .own);have x1:=x.add c1 (A:=h.next) (Nat.le_refl _) (Nat.lt_succ_self _);have e1:h.push (.row [(.int .i64 0),(.str []),(.slice none 0 0 0),(.slice none 0 0 0)] .own)=h.push (.row zt .own):=rfl;rw [e1];generalize h.push (.row zt .own)=h1 at *;have z:wB 64 ((65-0:Nat):Int)=true:=rfl;have hP:=x.P_lt;dsimp only;rw [z];simp only [cond_true];obtain ⟨h4,e4,c4,x4⟩:=mA2 (N:=N) x1 (c:=6) (by decide);rw [e4];simp only [aA,dA,Nat.zero_add];obtain ⟨v,k3,hv⟩:=x4.readE;simp only [k3,fA,bE,hv.ne 15,rB];have hs:(jE T 6 σ).2.isSome=true:=by obtain ⟨i,e⟩:=σ;cases e <;> rfl
  rw [hs];simp only [cond_true];have o4:=o1.chg c4 (by simp;omega);have cp:=o4.put zt;refine ⟨(0,[],sl0,sl0,()),_,gAz o4 (0,[],sl0,sl0,()) (fun x h=>some (x,h)),(x4.chg1 cp (by simp)).sub (by simp +contextual),?_,gY _ _ _ _⟩;exact ((c1.mono (by simp)).trans c4).step cp (fun A hA hl=>by rw [List.mem_singleton] at hA;omega)
 | succ g ih=>
  intro M h σ X hM hg x;obtain ⟨M,rfl⟩:∃ m,M=m+1:=⟨M-1,by omega⟩;rw [eAj];unfold pAw;have o1:=vA h zt;have c1:=qA h (.row zt .own);have x1:=x.add c1 (A:=h.next) (Nat.le_refl _) (Nat.lt_succ_self _);have e1:h.push (.row [(.int .i64 0),(.str []),(.slice none 0 0 0),(.slice none 0 0 0)] .own)=h.push (.row zt .own):=rfl;rw [e1];have n1:(h.push (.row zt .own)).next=h.next+1:=rfl;generalize h.push (.row zt .own)=h1 at *;have z:wB 64 ((65-(g+1):Nat):Int)=false:=by
   rw [show (64:Int)=((64:Nat):Int) from rfl,eF,decide_eq_false_iff_not];omega
  have hP:=x.P_lt;dsimp only;rw [z];simp only [cond_false,aA,dA,Nat.zero_add];obtain ⟨v,k3,hv⟩:=x1.readE;simp only [k3,fA,bE,hv.ne 15,rB];have fin:∀ {h':Heap} (c:Chg [P] h1 h') (r:TyV),Chg [P] h (h'.put h.next (.row (tyc r) .own)):=fun c r=>
   ((c1.mono (by simp)).trans c).put (.inr (Nat.le_refl _)) _
  obtain ⟨i,e⟩:=σ
  cases e with
  | some q=>
   simp only [Option.isSome_some,cond_true,oH];have cp:=o1.put zt;exact ⟨(0,[],sl0,sl0,()),_,gAz o1 (0,[],sl0,sl0,()) (fun x h=>some (x,h)),(x1.chg1 cp (by simp)).sub (by simp +contextual),fin (Chg.refl _ _) (0,[],sl0,sl0,()),gY _ _ _ _⟩
  | none=>
   simp only [Option.isSome_none,cond_false,oH];obtain ⟨h15,e15,c15,x15⟩:=oAj (N:=N) hT x1 (w:=[105,110,116]) (by decide);rw [e15,aA];have o15:=o1.chg c15 (by simp;omega)
   cases hb1:(jB T [105,110,116] (i,none)).1 with
   | true=>
    simp only [cond_true,if_true];have cp:=o15.put (tyc (1,[],sl0,sl0,()));exact ⟨(1,[],sl0,sl0,()),_,gAz o15 (1,[],sl0,sl0,()) (fun x h=>some (x,h)),(x15.chg1 cp (by simp)).sub (by simp +contextual),fin c15 (1,[],sl0,sl0,()),gY _ _ _ _⟩
   | false=>
   rw [rD hb1] at x15 ⊢;simp only [cond_false,Bool.false_eq_true,if_false];obtain ⟨h21,e21,c21,x21⟩:=oAj (N:=N) hT x15 (w:=[98,111,111,108]) (by decide);rw [e21,aA];have o21:=o15.chg c21 (by simp;omega);have c121:=c15.trans c21
   cases hb2:(jB T [98,111,111,108] (i,none)).1 with
   | true=>
    simp only [cond_true,if_true];have cp:=o21.put (tyc (2,[],sl0,sl0,()));exact ⟨(2,[],sl0,sl0,()),_,gAz o21 (2,[],sl0,sl0,()) (fun x h=>some (x,h)),(x21.chg1 cp (by simp)).sub (by simp +contextual),fin c121 (2,[],sl0,sl0,()),gY _ _ _ _⟩
   | false=>
   rw [rD hb2] at x21 ⊢;simp only [cond_false,Bool.false_eq_true,if_false];obtain ⟨h27,e27,c27,x27⟩:=fA6 (N:=N) hT x21 (w:=[38]) (by decide);rw [e27,aA];have o27:=o21.chg c27 (by simp;omega);have c127:=c121.trans c27;have hge:h.next+1≤h27.next:=by have:=c127.next;omega
   cases hb3:(jB T [38] (i,none)).1 with
   | true=>
    simp only [cond_true,if_true];have oA0:=vA h27 zt;have cA0:=qA h27 (.row zt .own);have eA:h27.push (.row [(.int .i64 0),(.str []),(.slice none 0 0 0),(.slice none 0 0 0)] .own)=h27.push (.row zt .own):=rfl;have hstA:=gA6 oA0 (4,[],sl0,sl0,());have nA:(h27.push (.row zt .own)).next=h27.next+1:=rfl;rw [eA,show (h27.push (.row zt .own)).store (h27.next,0) [(.int .i64 4),(.str []),(.slice none 0 0 0),(.slice none 0 0 0)]=_ from hstA,dA];have oA:=yA oA0 (tyc (4,[],sl0,sl0,()));have cA:Chg [] h27 ((h27.push (.row zt .own)).put h27.next (.row (tyc (4,[],sl0,sl0,())) .own)):=cA0.put (.inr (Nat.le_refl _)) _;have x29:=x27.add cA (A:=h27.next) (Nat.le_refl _) (Nat.lt_succ_self _);have n29:((h27.push (.row zt .own)).put h27.next (.row (tyc (4,[],sl0,sl0,())) .own)).next=h27.next+1:=rfl;have oR:=o27.chg cA (by simp);generalize (h27.push (.row zt .own)).put h27.next (.row (tyc (4,[],sl0,sl0,())) .own)=h29 at *;obtain ⟨s1,h38,e38,x38,c38,oA38,sl38⟩:=kAr (N:=N) hT x29 (deep:=((65-(g+1):Nat):Int)) (R:=some (h.next,0)) oA (by simp);simp only [Nat.zero_add] at e38;rw [e38,aA];obtain ⟨h44,e44,x44,c44,oA44⟩:=yAw (N:=N) hT x38 (deep:=((65-(g+1):Nat):Int)) (R:=some (h.next,0)) oA38 (by simp);simp only [dA,Nat.zero_add,Nat.add_zero] at e44;dsimp only;simp only [dA,Nat.zero_add,Nat.add_zero];rw [e44,aA];dsimp only;rw [dC (by omega),show 65-(g+1)+1=65-g by omega];obtain ⟨r,h47,e47,x47,c47,d47⟩:=ih M h44 _ _ (by omega) (by omega) x44;rw [e47,aA];have c2947:Chg [P,h27.next] h29 h47:=(c38.trans c44).trans (c47.mono (by simp));have oA47:=oA44.chg c47 (by simp;omega);have oR47:=oR.chg c2947 (by simp;omega);have hg47:=c2947.next;have h44n:h29.next≤h44.next:=(c38.trans c44).next;have oC:=vA h47 (tyc r);have cC:=qA h47 (.row (tyc r) .own);have eC:h47.push (.row [(.int .i64 r.1),(.str r.2.1),(.slice r.2.2.1.a r.2.2.1.len r.2.2.1.cap r.2.2.1.sz),(.slice r.2.2.2.1.a r.2.2.2.1.len r.2.2.2.1.cap r.2.2.2.1.sz)] .own)=h47.push (.row (tyc r) .own):=rfl;rw [eC];have oA48:=oA47.chg cC (by simp);have oR48:=oR47.chg cC (by simp);have x48:=x47.chg cC;have d48:=d47.chg cC (by simp);have nC:(h47.push (.row (tyc r) .own)).next=h47.next+1:=rfl;generalize h47.push (.row (tyc r) .own)=h48 at *;generalize hk:(if (jB T [109,117,116] (qQ T (jB T [38] (i,none)).2).2).1=true then (5:Int) else 4)=k at *;have hst:h48.store (h27.next,3) [SL.av ⟨some (h47.next,0),1,1,4⟩]=some (h48.put h27.next (.row (tyc (k,[],s1,⟨some (h47.next,0),1,1,4⟩,())) .own)):=oA48.store1 (j:=3) (by show 3<4;omega) _;simp only [SL.av] at hst;simp only [dA,Nat.zero_add];rw [hst,dA];have cA5:=oA48.put (tyc (k,[],s1,⟨some (h47.next,0),1,1,4⟩,()));have oA5:=yA oA48 (tyc (k,[],s1,⟨some (h47.next,0),1,1,4⟩,()));have oR5:=oR48.chg cA5 (by simp;omega);have oC5:=oC.chg cA5 (by simp;omega);have x5:=x48.chg1 cA5 (by simp);have d5:=d48.chg cA5 (fun C hC=>by simp;omega);generalize h48.put h27.next (.row (tyc (k,[],s1,⟨some (h47.next,0),1,1,4⟩,())) .own)=h50 at *;rw [iY oA5];have cR:=oR5.put (tyc (k,[],s1,⟨some (h47.next,0),1,1,4⟩,()));have cAll:Chg [P] h h50:=by
     have a1:Chg [P] h h27:=(c1.mono (by simp)).trans c127;have a2:Chg [P] h h29:=a1.trans (cA.mono (by simp));have a3:Chg [P] h h47:=a2.step c2947 (fun A hA hl=>by
      simp only [List.mem_cons,List.not_mem_nil,or_false] at hA ⊢;omega)
     have a4:Chg [P] h h48:=a3.trans (cC.mono (by simp));exact a4.step cA5 (fun A hA hl=>by rw [List.mem_singleton] at hA;omega)
    refine ⟨(k,[],s1,⟨some (h47.next,0),1,1,4⟩,()),_,gAz oR5 (k,[],s1,⟨some (h47.next,0),1,1,4⟩,()) (fun x h=>some (x,h)),(x5.chg1 cR (by simp)).sub (by simp +contextual),cAll.put (.inr (Nat.le_refl _)) _,?_⟩;refine oA4.2 ⟨_,_,rfl,?_,?_⟩
    ·have hs:=sl38.chg c44 (fun C hC=>by simp;omega)
     have hs2:=hs.chg c47 (fun C hC=>by simp;omega);have hs3:=((hs2.chg cC (by simp)).chg cA5 (fun C hC=>by simp;omega)).chg cR (fun C hC=>by simp;omega);exact hs3.weak (fun C hC _=>by omega)
    ·refine fAz (V:=fun C=>h.next≤C) (oC5.chg cR (by simp;omega)) rfl (by omega) ?_
     exact (d5.chg cR (fun C hC=>by simp;omega)).weak (fun C hC _=>by omega)
   | false=>
    rw [rD hb3] at x27 ⊢;simp only [cond_false,Bool.false_eq_true,if_false];obtain ⟨h58,e58,c58,x58⟩:=dAz (N:=N) hT x27;rw [e58,aA];have o58:=o27.chg c58 (by simp;omega);have c158:=c127.trans c58;generalize hnm:(wG T (i,none)).1=nm at *;have hge2:h.next+1≤h58.next:=by have:=c158.next;omega
    have oA0:=vA h58 zt;have cA0:=qA h58 (.row zt .own);have eA:h58.push (.row [(.int .i64 0),(.str []),(.slice none 0 0 0),(.slice none 0 0 0)] .own)=h58.push (.row zt .own):=rfl;have hstA:=gA6 oA0 (3,nm,sl0,sl0,());rw [eA,show (h58.push (.row zt .own)).store (h58.next,0) [(.int .i64 3),(.str nm),(.slice none 0 0 0),(.slice none 0 0 0)]=_ from hstA,dA];have oA:=yA oA0 (tyc (3,nm,sl0,sl0,()));have cA:Chg [] h58 ((h58.push (.row zt .own)).put h58.next (.row (tyc (3,nm,sl0,sl0,())) .own)):=cA0.put (.inr (Nat.le_refl _)) _;have x60:=x58.add cA (A:=h58.next) (Nat.le_refl _) (Nat.lt_succ_self _);have n60:((h58.push (.row zt .own)).put h58.next (.row (tyc (3,nm,sl0,sl0,())) .own)).next=h58.next+1:=rfl;have oR:=o58.chg cA (by simp);generalize (h58.push (.row zt .own)).put h58.next (.row (tyc (3,nm,sl0,sl0,())) .own)=h60 at *;obtain ⟨s1,h62,e62,x62,c62,sl62⟩:=eAz (N:=N) hT hN x60;rw [e62,aA];have oA62:=oA.chg c62 (by simp;omega);have oR62:=oR.chg c62 (by simp;omega);have hst:h62.store (h58.next,2) [SL.av s1]=some (h62.put h58.next (.row (tyc (3,nm,s1,sl0,())) .own)):=oA62.store1 (j:=2) (by show 2<4;omega) _;simp only [SL.av] at hst;rw [hst,dA];have cA5:=oA62.put (tyc (3,nm,s1,sl0,()));have oA5:=yA oA62 (tyc (3,nm,s1,sl0,()));have oR5:=oR62.chg cA5 (by simp;omega);have x5:=x62.chg1 cA5 (by simp);have sl5:=sl62.chg cA5 (fun C hC=>by simp;omega);have hg62:=c62.next;generalize h62.put h58.next (.row (tyc (3,nm,s1,sl0,())) .own)=h63 at *;rw [iY oA5];have cR:=oR5.put (tyc (3,nm,s1,sl0,()));have cAll:Chg [P] h h63:=by
     have a1:Chg [P] h h58:=(c1.mono (by simp)).trans c158;have a3:Chg [P] h h62:=(a1.trans (cA.mono (by simp))).trans c62;exact a3.step cA5 (fun A hA hl=>by rw [List.mem_singleton] at hA;omega)
    refine ⟨(3,nm,s1,sl0,()),_,gAz oR5 (3,nm,s1,sl0,()) (fun x h=>some (x,h)),(x5.chg1 cR (by simp)).sub (by simp +contextual),cAll.put (.inr (Nat.le_refl _)) _,?_⟩;refine oA4.2 ⟨_,_,rfl,?_,Sl.nil _ _ _⟩;exact (sl5.chg cR (fun C hC=>by simp;omega)).weak (fun C hC _=>by omega)
end
end Qp
namespace Qp
structure PB (T:List Tok) (P:Nat) (h:Heap) (σ:St) (it st:Int):Prop where
 ex:∃ s c a,h.own P [SL.av s,.int .i64 (σ.1:Int),.int .i64 c,.int .i64 a,.int .i64 it,.int .i64 st]∧Sl h (fun C=>C<P) s (T.map iAc)∧(s.sz=3)∧(match σ.2 with
  | none=>c=0
  | some (c',a')=>c=c'∧a=a'∧c'≠0)
 lt:σ.1<T.length
section
variable {N:Nat} {T:List Tok} {P:Nat} {h h':Heap} {σ:St} {it st:Int}
end
end Qp
namespace Qp
section
variable {N:Nat} {T:List Tok} {P:Nat} {h h':Heap} {σ:St} {it st:Int}
end
end Qp
namespace Qp
section
variable {N:Nat} {T:List Tok} {P:Nat} {it st:Int} {h:Heap} {σ:St}
end
end Qp
namespace Qp
theorem mAc {t:Bs}:∀ {l:List Bs},t∈l→cAm t l=true
 | w::r,h=>by
  simp only [cAm];rcases List.mem_cons.1 h with rfl | h
  ·rw [eqB.2 rfl];rfl
  ·rw [mAc h];cases mB t w <;> rfl
theorem nAc {t:Bs} {k:Int} {x:Bs} {n:Nat} (h:dM t=some (k,x,n)):lA2 x=true:=by
 unfold dM at h
 cases hf:iA2 t two with
 | some p=>
  rw [hf] at h;simp only [Option.some.injEq,Prod.mk.injEq] at h;obtain ⟨rfl,rfl,rfl⟩:=h;simp only [lA2,mAc (rW hf).1,Bool.or_true]
 | none=>
  rw [hf] at h
  cases t with
  | nil=>cases h
  | cons c r=>
   simp only at h
   split at h
   ·rename_i hm
    simp only [Option.some.injEq,Prod.mk.injEq] at h;obtain ⟨rfl,rfl,rfl⟩:=h;simp only [lA2,hm,Bool.true_or]
   ·cases h
theorem kAm {t:Bs} {k:Int} {x:Bs} {n:Nat} (ht:t.length≤3000000) (h:lF t=some (k,x,n)) (a:Nat):TokOK (k,x,a)∧k≠0:=by
 cases t with
 | nil=>cases h
 | cons c r=>
  have hl:∀ n,((c::r).take n).length≤3000000:=fun n=>by rw [List.length_take];omega
  simp only [lF] at h
  split at h
  ·rename_i hc
   simp only [tW] at h
   split at h
   ·rename_i hw
    simp only [Option.some.injEq,Prod.mk.injEq] at h;obtain ⟨rfl,rfl,rfl⟩:=h;exact ⟨⟨fun _=>hw,fun h=>by simp at h,hl _,fun h=>by simp at h,fun h=>by simp at h,fun h=>by simp at h⟩,by decide⟩
   ·rename_i hw
    split at h
    ·rename_i h32
     simp only [Option.some.injEq,Prod.mk.injEq] at h;obtain ⟨rfl,rfl,rfl⟩:=h;refine ⟨⟨fun h=>by simp at h,fun h=>by simp at h,hl _,fun h=>by simp at h,fun _=>?_,fun h=>by simp at h⟩,by decide⟩;show iB2 _=true;unfold iB2;rw [eA6];simp only [cM,hc,decide_eq_true h32,Bool.true_and,Bool.not_eq_true'] at hw ⊢;simpa using hw
    ·cases h
  ·split at h
   ·rename_i hd
    simp only [cA6] at h
    split at h
    ·rename_i hk
     simp only [Option.some.injEq,Prod.mk.injEq] at h;obtain ⟨rfl,rfl,rfl⟩:=h;have h1:runN (c::r)=runN r+1:=by simp [runN,fS,hd]
     exact ⟨⟨fun h=>by simp at h,fun h=>by simp at h,hl _,fun _=>⟨hk,by rw [List.length_take,List.length_cons];omega⟩,fun h=>by simp at h,fun h=>by simp at h⟩,by decide⟩
    ·cases h
   ·split at h
    ·simp only [uW] at h
     split at h
     ·rename_i hh
      split at h
      ·rename_i h32
       simp only [Option.some.injEq,Prod.mk.injEq] at h;obtain ⟨rfl,rfl,rfl⟩:=h;simp only [List.length_cons] at ht;exact ⟨⟨fun h=>by simp at h,fun h=>by simp at h,by simp only [List.length_take];omega,fun h=>by simp at h,fun h=>by simp at h,fun _=>by rw [eA6,hh,decide_eq_true h32];rfl⟩,by decide⟩
      ·cases h
     ·cases h
    ·have hs:=nAc h
     obtain ⟨rfl,rfl,h1,h2⟩:=fY h;exact ⟨⟨fun h=>by simp at h,fun _=>hs,hl _,fun h=>by simp at h,fun h=>by simp at h,fun h=>by simp at h⟩,by decide⟩
theorem rAf:∀ (M:Nat) (t:Bs) (a:Nat) (l:List Tok),t.length≤3000000→eA4 M t a=.inl l→∀ q∈l,TokOK q∧q.1≠0
 | 0,t,a,l,_,h=>by cases h
 | M+1,[],a,l,_,h=>by
  simp only [eA4,Sum.inl.injEq] at h;subst h;simp
 | M+1,c::r,a,l,ht,h=>by
  simp only [eA4] at h
  split at h
  ·cases h
  ·rename_i k x n hn
   have h0:=kAm ht hn a
   split at h
   ·rename_i l' hl
    simp only [Sum.inl.injEq] at h;subst h;have ih:=rAf M _ _ l' (by rw [List.length_drop];omega) hl;intro q hq;rcases List.mem_cons.1 hq with rfl | hq
    ·exact h0
    ·exact ih q hq
   ·cases h
theorem oAc {N:Nat} {s:Bs} (hs:s.length≤3000000) {T:List Tok} (h:jAj N s=.inl T) (hl:T.length≤2000000):Toks T∧0<T.length:=by
 unfold jAj at h
 split at h
 ·rename_i l hg
  simp only [Sum.inl.injEq] at h;subst h;have ok:=rAf N _ _ l (by rw [List.length_drop];omega) hg;refine ⟨⟨fun q hq=>?_,fun i hi h0=>?_,hl⟩,by simp⟩
  ·rcases List.mem_append.1 hq with hq | hq
   ·exact (ok q hq).1
   ·rw [List.mem_singleton] at hq;subst hq
    exact ⟨fun h=>by simp at h,fun h=>by simp at h,by simp,fun h=>by simp at h,fun h=>by simp at h,fun h=>by simp at h⟩
  ·rw [List.length_append,List.length_singleton] at hi ⊢
   by_cases q:i<l.length
   ·omega
   ·rw [List.getElem_append_right (by omega)] at h0
    simp at h0
 ·cases h
def aAx (N:Nat) (s:Bs):D×Er:=match jAj N s with
 | .inr a=>(tyD 0 [] [] [],some (20,(a:Int)))
 | .inl T=>
  let r:=oH T 64 (0,none)
  let σ:=if (tk T r.2.1).1=0 then r.2 else jE T 21 r.2
  if σ.2=none then (r.1,none) else (tyD 0 [] [] [],σ.2)
def aBj (h:Heap) (v:AV):Er→Prop
 | none=>v=AV.nilIface
 | some (c,a)=>kA2 h v c a
theorem lAr {h:Heap} {A B:Nat} {cs ds:List AV} (x:h.own A cs) (y:h.own B ds) (hl:cs.length≠ds.length):A≠B:=by
 intro e;subst e
 have:=x.1.symm.trans y.1
 simp only [Option.some.injEq,Blk.row.injEq,and_true] at this;exact hl (by rw [this])
section
variable {N:Nat} {s:Bs}
theorem vB9 (hs:s.length≤1000000) (hN:s.length<N) (hN2:100≤N) (h:Heap):∃ r h',f23 N s h=some (r,h')∧Chg [] h h'∧Dt h' (fun C=>h.next≤C) (aAx N s).1 (tyc r.1)∧aBj h' r.2.1 (aAx N s).2:=by
 unfold f23 aAx;have o1:=vA h zt;have c1:=qA h (.row zt .own);have e1:h.push (.row [(.int .i64 0),(.str []),(.slice none 0 0 0),(.slice none 0 0 0)] .own)=h.push (.row zt .own):=rfl;have n1:(h.push (.row zt .own)).next=h.next+1:=rfl;rw [e1];generalize h.push (.row zt .own)=h1 at *;dsimp only;obtain ⟨r2,h3,e3,c3,p3⟩:=cAz (by omega) hN (by omega) h1;rw [e3,aA];have o3:=o1.chg c3 (by simp);have c03:=c1.trans c3;have hn3:=c3.next
 cases hl:jAj N s with
 | inr a=>
  rw [hl] at p3;obtain ⟨F,f1,f2⟩:=p3;rw [f1,eQ];simp only [fA,rB,cond_true];have hne:=lAr o3 f2 (by show (4:Nat)≠3;decide);have cp:=o3.put zt;exact ⟨((0,[],sl0,sl0,()),AV.iface 127 (.ptr (some (F,0))),()),_,gAz o3 (0,[],sl0,sl0,()) (fun x h=>some ((x,AV.iface 127 (.ptr (some (F,0))),()),h)),c03.put (.inr (Nat.le_refl _)) _,gY _ _ _ _,F,rfl,f2.chg cp (by simpa using fun e=>hne e.symm)⟩
 | inl T=>
  rw [hl] at p3;obtain ⟨pe,po,pl⟩:=p3;obtain ⟨hT,hT0⟩:=oAc (by omega) hl (by omega);rw [pe,ne_nil];simp only [fA,rB,cond_false];have sl3:=po.sl;have hz:r2.1.sz=3:=by
   rcases po with ⟨_,_,_,h4⟩ | ⟨A,cs,st',vs,_,h2,_⟩
   ·have:T.length=0:=by rw [← List.length_map (f:=iAc),h4];rfl
    omega
   ·exact h2
  have oP:=vA h3 [SL.av r2.1,.int .i64 0,.int .i64 0,AV.nilIface];have cP:=qA h3 (.row [SL.av r2.1,.int .i64 0,.int .i64 0,AV.nilIface] .own);have eP:h3.push (.row [(.slice r2.1.a r2.1.len r2.1.cap r2.1.sz),(.int .i64 0),(.int .i64 0),AV.nilIface] .own)=h3.push (.row [SL.av r2.1,.int .i64 0,.int .i64 0,AV.nilIface] .own):=rfl;have nP:(h3.push (.row [SL.av r2.1,.int .i64 0,.int .i64 0,AV.nilIface] .own)).next=h3.next+1:=rfl;rw [eP];generalize h3.push (.row [SL.av r2.1,.int .i64 0,.int .i64 0,AV.nilIface] .own)=h7 at *;have x7:PA T h3.next [] h7 (0,none) 0:=⟨⟨r2.1,AV.nilIface,oP,(sl3.weak (W:=fun C=>C<h3.next) (fun C _ hlt=>hlt)).chg cP (by simp),hz,rfl⟩,hT0,by simp⟩;have oR7:=o3.chg cP (by simp);obtain ⟨r8,h9,e9,x9,c9,d9⟩:=iAz (N:=N) hT hN2 64 N h7 _ _ (by omega) (by omega) x7;rw [show ((65-64:Nat):Int)=1 from rfl] at e9;rw [e9,aA];have oR9:=oR7.chg c9 (by simp;omega);have oB0:=vA h9 zt;have cB0:=qA h9 (.row zt .own);have eB:h9.push (.row [(.int .i64 0),(.str []),(.slice none 0 0 0),(.slice none 0 0 0)] .own)=h9.push (.row zt .own):=rfl;have nB:(h9.push (.row zt .own)).next=h9.next+1:=rfl;have hstB:=gA6 oB0 r8;rw [eB,hstB,dA];have oB:=yA oB0 (tyc r8);have cB:Chg [] h9 ((h9.push (.row zt .own)).put h9.next (.row (tyc r8) .own)):=cB0.put (.inr (Nat.le_refl _)) _;have nB2:((h9.push (.row zt .own)).put h9.next (.row (tyc r8) .own)).next=h9.next+1:=rfl;generalize (h9.push (.row zt .own)).put h9.next (.row (tyc r8) .own)=h11 at *;have x11:=x9.chg cB;have oR11:=oR9.chg cB (by simp);have d11:=d9.chg cB (by simp);have hn9:=c9.next;obtain ⟨h13,e13,c13⟩:=cN (N:=N) x11;rw [e13,aA];have x13:=x11.chg c13;have oR13:=oR11.chg c13 (by simp);have oB13:=oB.chg c13 (by simp);have d13:=d11.chg c13 (by simp);have c013:Chg [h3.next] h h13:=(((c03.mono (by simp)).trans (cP.mono (by simp))).trans c9).trans ((cB.trans c13).mono (by simp));generalize oH T 64 (0,none)=rr at *;have tail:∀ (hh:Heap) (σ:St),PA T h3.next [] hh σ 0→Chg [h3.next] h13 hh→∃ r h',
    (iA (.val zP2) (hh.cell (h3.next,3)) fun (x17:AV)=>
    (iA (.val zN2) (cK E .neq 29 (.tmp 31) (.const .nilIface) x17 AV.nilIface) fun (x18:Bool)=>
    (bif x18 then
     (iA (.val zP2) (hh.cell (h3.next,3)) fun (x19:AV)=>
     (rA (hh.store (h.next,0) [(.int .i64 0),(.str []),(.slice none 0 0 0),(.slice none 0 0 0)]) fun h20=>
     (uD (bif (aB (h20.cell (h3.next,3)) x19) then (bif (aB (hh.cell (h3.next,3)) x19) then true else false) else false) (
     (iA (.val zC) (h20.cells (h.next,0) 4) fun (x21:zM)=>
     some (((x21.1,x21.2.1,x21.2.2.1,x21.2.2.2.1,()),x19,()),h20))))))
    else
     (iA (.val zC) (hh.cells (h9.next,0) 4) fun (x22:zM)=>
     (rA (hh.store (h.next,0) [(.int .i64 x22.1),(.str x22.2.1),(.slice x22.2.2.1.a x22.2.2.1.len x22.2.2.1.cap x22.2.2.1.sz),(.slice x22.2.2.2.1.a x22.2.2.2.1.len x22.2.2.2.1.cap x22.2.2.2.1.sz)]) fun h23=>
     (iA (.val zC) (h23.cells (h.next,0) 4) fun (x24:zM)=>
     some (((x24.1,x24.2.1,x24.2.2.1,x24.2.2.2.1,()),AV.nilIface,()),h23)))))))=some (r,h')∧Chg [] h h'∧Dt h' (fun C=>h.next≤C) (if σ.2=none then (rr.1,none) else (tyD 0 [] [] [],σ.2):D×Er).1 (tyc r.1)∧aBj h' r.2.1 (if σ.2=none then (rr.1,none) else (tyD 0 [] [] [],σ.2):D×Er).2:=by
   intro hh σ x c;obtain ⟨v,k3,hv⟩:=x.readE;have oR:=oR13.chg c (by simp;omega);have oBh:=oB13.chg c (by simp;omega);have dh:=d13.chg c (by intro C hC;simp;omega);have c0:Chg [h3.next] h hh:=c013.trans c;have oPh:∃ cs,hh.own h3.next cs:=by obtain ⟨⟨s',v',g1,_⟩,_⟩:=x;exact ⟨_,g1⟩
   simp only [k3,fA,bE,hv.ne 31,rB];obtain ⟨i,e⟩:=σ
   cases e with
   | none=>
    simp only [Option.isSome_none,cond_false,if_true];rw [iY oBh];have cR:=oR.put (tyc r8);refine ⟨(r8,AV.nilIface,()),_,gAz oR r8 (fun x h=>some ((x,AV.nilIface,()),h)),(c0.put (.inr (Nat.le_refl _)) _).cut (fun A hA hlt=>?_),?_,rfl⟩
    ·rw [List.mem_singleton] at hA;omega
    ·exact (dh.chg cR (fun C hC=>by simp;omega)).weak (fun C hC _=>by omega)
   | some q=>
    obtain ⟨c',a'⟩:=q;simp only [Option.isSome_some,cond_true];obtain ⟨F,f1,f2,f3⟩:=hv;have hst:hh.store (h.next,0) [(.int .i64 0),(.str []),(.slice none 0 0 0),(.slice none 0 0 0)]=some (hh.put h.next (.row zt .own)):=gA6 oR (0,[],sl0,sl0,());have cR:=oR.put zt;obtain ⟨⟨s',v',g1,g2⟩,g3⟩:=x;have hv':v'=v:=by
     have:=g1.cell 3
     rw [k3] at this;simpa using this.symm
    have kP:(hh.put h.next (.row zt .own)).cell (h3.next,3)=some v:=by
     rw [(g1.chg cR (by simp;omega)).cell 3,← hv'];rfl
    rw [hst,dA];simp only [kP,k3,wC,cond_true,aC];have hne:=lAr oR f3 (by show (4:Nat)≠3;decide);rw [iY (yA oR _)];refine ⟨((0,[],sl0,sl0,()),v,()),_,rfl,(c0.put (.inr (Nat.le_refl _)) _).cut (fun A hA hlt=>?_),gY _ _ _ _,F,f1,f3.chg cR (by simpa using fun e=>hne e.symm)⟩;rw [List.mem_singleton] at hA;omega
  simp only [kAj,eqI,Nat.zero_add]
  by_cases q0:(tk T rr.2.1).1=0
  ·simp only [q0,decide_true,Bool.not_true,cond_false,if_true]
   exact tail h13 rr.2 x13 (Chg.refl _ _)
  ·simp only [q0,decide_false,Bool.not_false,cond_true,if_false]
   obtain ⟨h16,e16,c16,x16⟩:=mA2 (N:=N) x13 (c:=21) (by decide);rw [e16,aA];exact tail h16 _ x16 c16
end
end Qp
namespace Qp
section
variable {N:Nat} {s:Bs}
end
end Qp
namespace Qp
def iA6:Nat→D→Prop
 | 0,_=>False
 | m+1,d=>∃ k x lv el,d=tyD k x lv el∧lv.length≤1000∧el.length≤1000∧∀ e∈el,iA6 m e
theorem jA6 (T:List Tok):∀ (g:Nat) (σ:St),(qE T g σ).1.length≤g
 | 0,σ=>by simp [qE]
 | g+1,σ=>by
  simp only [qE]
  split
  ·have:=jA6 T g (jB T [44] (pB T 3 σ).2).2
   simp only [List.length_cons];omega
  ·simp
theorem kA6 (T:List Tok) (σ:St):(pG T σ).1.length≤64:=by
 simp only [pG]
 split
 ·exact jA6 _ _ _
 ·simp
theorem mAr (T:List Tok):∀ (g:Nat) (σ:St),iA6 (g+1) (oH T g σ).1
 | 0,σ=>⟨0,[],[],[],rfl,by simp,by simp,by simp⟩
 | g+1,(i,some e)=>⟨0,[],[],[],rfl,by simp,by simp,by simp⟩
 | g+1,(i,none)=>by
  simp only [oH]
  split
  ·exact ⟨1,[],[],[],rfl,by simp,by simp,by simp⟩
  split
  ·exact ⟨2,[],[],[],rfl,by simp,by simp,by simp⟩
  split
  ·refine ⟨_,_,_,_,rfl,?_,by simp,fun e he=>?_⟩
   ·simp only [qQ];split <;> simp
   ·rw [List.mem_singleton] at he;subst he;exact mAr T g _
  ·exact ⟨_,_,_,_,rfl,by have:=kA6 T (wG T (jB T [38] (jB T [98,111,111,108] (jB T [105,110,116] (i,none)).2).2).2).2;omega,by simp,by simp⟩
section
variable {N:Nat} {h h':Heap} {V W:Nat→Prop}
theorem jAz {s:SL} {xs:List Bs} (x:Sl h V s (xs.map D.s)) {i:Nat} (hi:i<xs.length):h.cell (s.at i 1)=some (.str xs[i]):=by
 obtain ⟨cs,e⟩:=x.elt (i:=i) (by rw [List.length_map];exact hi);have hd:=e.dt;rw [List.getElem_map] at hd;simp only [Dt] at hd;have hl:=e.len;rw [hd] at hl;have hz:s.sz=1:=by simpa using hl.symm
 have:=e.cell 0 (by omega)
 rw [hz,hd] at this;simpa using this
theorem lU {β:Type} (p:zJ2) (K:zM1→Option β):iA (.tup [zK2,zN2]) (lJ E (.iface 127 (.ptr p)) 127 true) K=K (p,true,()):=by
 have:lJ E (.iface 127 (.ptr p)) 127 true=some (kAa true (.ptr p)):=by kernel_rfl
 rw [this];rfl
theorem pAj {β:Type} (c:Int) (K:zM1→Option β):iA (.tup [zK2,zN2]) (lJ E (.iface 78 (.int .i64 c)) 127 true) K=K (none,false,()):=by
 have:lJ E (.iface 78 (.int .i64 c)) 127 true=jX E 127 true:=by kernel_rfl
 rw [this]
 have:jX E 127 true=some (.tuple [.ptr none,.bool false]):=by kernel_rfl
 rw [this];rfl
end
end Qp
namespace Qp
end Qp
namespace Qz
open Qa
def asF (a b:AV) (h:Heap):Option (Bool×Heap):=match asN [a,b] h with
 | some (.bool r,h')=>some (r,h')
 | _=>none
theorem lA8 (_N:Nat):gD Tryz.prog 192 [(.one .any),(.one .any)] (.val (.one .bool)) (fun x h=>asF x.1 x.2.1 h):=by
 intro xs h r h' hx μ w args' hr hv;have hx':asF xs.1 xs.2.1 h=some (r,h'):=hx;unfold asF at hx'
 split at hx'
 ·rename_i b hh he
  simp only [Option.some.injEq,Prod.mk.injEq] at hx';obtain ⟨rfl,rfl⟩:=hx';exact aBg he hr hv
 ·cases hx'
end Qz
namespace Qw
open Go.RowKit Go.Stop
theorem nAr (w:World):Calls Tryz.prog 258 #[.string ⟨#[]⟩] w fun e w'=>e=.returned (.string ⟨#[]⟩)∧w'=w:=by
 go_enter Tryz.func258,Tryz.ntmps258
 go_wp2
 all_goals (go_ret;exact ⟨rfl,rfl⟩)
theorem lBj (s:ByteArray) (T:TypeId) (a:Addr) (w:World) (hg:w.cell? ⟨3,0,none⟩=some (.iface T (.pointer (some a)))):Calls Tryz.prog 246 #[.string s,.string ⟨#[]⟩] w fun e w'=>e=.returned (.pointer (some ⟨w.heap.size,0,none⟩))∧(w'.Alike (w.alloc (.cells #[.string s,.string ⟨#[]⟩,.iface T (.pointer (some a))] 271))∧w'.tape=w.tape):=by
 go_enter Tryz.func246,Tryz.ntmps246
 go_wp2
 go_region_with (go_at_call 258;refine (nAr _).mono ?_;rintro e w' ⟨rfl,rfl⟩)
 all_goals (try go_wp2)
 all_goals (go_ret;exact ⟨rfl,⟨rfl,rfl,rfl⟩,rfl⟩)
set_option maxRecDepth 100000 in
theorem vBg (s:ByteArray) (T:TypeId) (a:Addr) (n m:Int) (w:World) (hg:w.cell? ⟨3,0,none⟩=some (.iface T (.pointer (some a)))):Calls Tryz.prog 234 #[.string s,.string ⟨#[]⟩,.int .i64 n,.int .i64 m,.iface 256 (.int .i64 2)] w fun e w'=>e=.returned (.iface 259 (.pointer (some ⟨w.heap.size,0,none⟩)))∧(w'.Alike (w.alloc (.cells #[.string s,.string ⟨#[]⟩,.iface T (.pointer (some a))] 271))∧w'.tape=w.tape):=by
 have he:∀ w,(binOp .eql 29 (.iface 256 (.int .i64 2)) (.iface 256 (.int .i64 2))).run Tryz.prog w=.ok (.bool true) w:=fun w=>by kernel_rfl
 go_enter Tryz.func234,Tryz.ntmps234
 go_wp2_with (go_at_call 246;refine (lBj s T a _ hg).mono ?_;rintro e w' ⟨rfl,hw⟩)
 all_goals (go_ret;exact ⟨rfl,hw⟩)
open Ai Qa
def jB7:Ai.Loc:=⟨3,0,1,false⟩
def sen:AV:=.iface 275 (.ptr (some (3,0)))
def pinned (h:Heap):Bool:=Qx.pinned h&&mA4 2 jB7 h.pins&&bA8 (h.t.get 2) [sen]
def jBf:AV→Bool
 | .iface t (.int .i64 n)=>Nat.beq t 256&&kB n 2
 | _=>false
def pAc (s u:List UInt8) (_n _m:Int) (e:AV) (h:Heap):Option (AV×Heap):=bif mB u []&&jBf e&&pinned h then some (.iface 259 (.ptr (some (h.next,0))),h.push (.row [.str s,.str [],sen] .own)) else none
theorem qB2 {e:AV} (h:jBf e=true):e=.iface 256 (.int .i64 2):=by
 unfold jBf at h
 split at h
 ·rename_i t n
  simp only [Bool.and_eq_true] at h;have h2:=h.2;rw [wAb,decide_eq_true_eq] at h2;rw [Nat.eq_of_beq_eq_true h.1,h2]
 ·cases h
theorem tAf (_N:Nat):gD Tryz.prog 234 [(.one .str),(.one .str),(.one (.int .i64)),(.one (.int .i64)),(.one .any)] (.val (.one .any)) (fun x h=>pAc x.1 x.2.1 x.2.2.1 x.2.2.2.1 x.2.2.2.2.1 h):=by
 intro xs h r h' hx μ w args' hr hv;obtain ⟨s,u,n,m,e,_⟩:=xs;have hx':pAc s u n m e h=some (r,h'):=hx;unfold pAc at hx'
 cases hb:(mB u []&&jBf e&&pinned h) with
 | false=>rw [hb] at hx';cases hx'
 | true=>
  rw [hb] at hx';simp only [cond_true,Option.some.injEq,Prod.mk.injEq] at hx';obtain ⟨rfl,rfl⟩:=hx';simp only [Bool.and_eq_true,pinned] at hb;obtain ⟨⟨b1,b2⟩,⟨_,b3⟩,b4⟩:=hb;rw [bH,beq_iff_eq] at b1;subst b1;have b2:=qB2 b2;subst b2;have hv':VRs μ [.str s,.str [],.int .i64 n,.int .i64 m,.iface 256 (.int .i64 2)] args'.toList:=hv;simp only [VRs,VR] at hv';obtain ⟨y1,ys1,e1,rfl,y2,ys2,e2,rfl,y3,ys3,e3,rfl,y4,ys4,e4,rfl,y5,ys5,e5,⟨z,rfl,rfl⟩,e6⟩:=hv';subst e2 e3 e4 e5 e6;have ea:args' = #[.string ⟨s.toArray⟩,.string ⟨[].toArray⟩,.int .i64 n,.int .i64 m,.iface 256 (.int .i64 2)]:=by rw [← Array.toList_inj,e1]
  subst ea;have hm2:=hr.pin _ (gU b3);have hrow:RowR μ w jB7 [sen]:=hr.blk 2 jB7 _ hm2 (bAj b4);obtain ⟨y,h1,h2⟩:=hrow.cell 0 sen rfl;have hse:=h2;simp only [sen,VR] at h2;obtain ⟨x',rfl,l,hl,rfl⟩:=h2;refine ⟨wAi vBi (fn:=Tryz.f234) (by kernel_rfl) (by kernel_rfl) _ _,(vBg ⟨s.toArray⟩ 275 ⟨l.b,l.sh+0,none⟩ n m w h1).mono ?_⟩;rintro ev w' ⟨rfl,⟨q1,q2,q3⟩,q4⟩;have hvs:VRs μ [.str s,.str [],sen] (#[.string ⟨s.toArray⟩,.string ⟨#[]⟩,.iface 275 (.pointer (some ⟨l.b,l.sh+0,none⟩))]:Array Value).toList:=VRs.cons (by simp only [VR]) (VRs.cons (by simp only [VR]) (VRs.cons hse VRs.nil));obtain ⟨l',g1,g2,g3,g4,g5,g6⟩:=hr.pushRow _ _ 271 hvs;have hbel:Below (w.alloc (.cells #[.string ⟨s.toArray⟩,.string ⟨#[]⟩,.iface 275 (.pointer (some ⟨l.b,l.sh+0,none⟩))] 271)).heap.size (w.alloc (.cells #[.string ⟨s.toArray⟩,.string ⟨#[]⟩,.iface 275 (.pointer (some ⟨l.b,l.sh+0,none⟩))] 271)) w':=⟨q2,q4,q3,by rw [q1];exact Nat.le_refl _,fun k _=>by rw [q1]⟩;refine ⟨_,rfl,μ.add h.next l',?_,g5.below hbel,Ext.trans hr g6 (Ext.of_below hbel)⟩;show VR _ (.iface 259 (.ptr (some (h.next,0)))) _;simp only [VR];refine ⟨_,rfl,l',by simp [Mu.add],?_⟩;rw [g1,g2]
end Qw
namespace Qp
noncomputable section
def f154 (N:Nat) (a0:zJ2) (h:Heap):Option (zV×Heap):=let h1:=h.push (.row yZF .own);(lA (f94 N a0 1 h1) fun (x2:zQ2) h3=>let h4:=h3.push (.row yZF .own);(rA (h4.store (h3.next,0) [(.bool false),(.str x2),(.int .i64 0),(.str []),(.slice none 0 0 0),(.slice none 0 0 0)]) fun h5=>(lA (f149 N a0 [58] h5) fun (x6:(Unit)) h7=>(lA (f55 N N a0 1 h7) fun (x8:zM) h9=>(rA (h9.store ((h3.next,0).1,(h3.next,0).2+2) (yRD x8)) fun h10=>(iA (.val zI) (h10.cells (h3.next,0) 6) fun (x11:zV)=>(rA (h10.store (h.next,0) (yRF x11)) fun h12=>(iA (.val zI) (h12.cells (h.next,0) 6) fun (x13:zV)=>some ((x13.1,x13.2.1,x13.2.2.1,x13.2.2.2.1,x13.2.2.2.2.1,x13.2.2.2.2.2.1,()),h12)))))))))
def wB9:Ann:=.n
theorem uAf (N:Nat):gD Tryz.prog 154 [zK2] (.val zI) (fun x h=>f154 N x.1 h):=vD (bA (gO N) (bA (oAq N) (bA (rJ N) kA))) N wB9 Tryz.f154
def f153 (N:Nat) (a0 a1:zJ2) (h:Heap):Option ((Unit)×Heap):=(rA a0 fun q1=>(iA (.val zL2) (h.cell (q1.1,q1.2+3)) fun (x2:SL)=>(rA a1 fun q3=>(iA (.val zK2) (h.cell q3) fun (x4:zJ2)=>(lA (f154 N x4 h) fun (x5:zV) h6=>let h7:=h6.push (.row (yRF x5) .own);(aE (.val zL2) (iB E 37 37 (.slice x2.a x2.len x2.cap x2.sz) (.slice (some (h6.next,0)) 1 1 6) h7) fun (x8:SL) h9=>(rA a0 fun q10=>(rA (h9.store (q10.1,q10.2+3) [(.slice x8.a x8.len x8.cap x8.sz)]) fun h11=>(uD (bif (fF a1 fun q=>aB (h.cell q) (.ptr x4)) then (bif (aB (h7.cell (q1.1,q1.2+3)) (.slice x2.a x2.len x2.cap x2.sz)) then (bif (aB (h6.cell (q1.1,q1.2+3)) (.slice x2.a x2.len x2.cap x2.sz)) then (bif (aB (h.cell (q1.1,q1.2+3)) (.slice x2.a x2.len x2.cap x2.sz)) then true else false) else false) else false) else false) ( some ((()),h11)))))))))))
def yB9:Ann:=.n
theorem rB2 (N:Nat):gD Tryz.prog 153 [zK2,zK2] (.tup []) (fun x h=>f153 N x.1 x.2.1 h):=vD (bA (uAf N) kA) N yB9 Tryz.f153
def eM (N:Nat) (go:zJ2→zQ2→zO→Int→Heap→Option (Out×(Unit)×Heap)) (v0:zJ2) (v1:zQ2) (v2:zO) (v6:Int) (h:Heap):Option (Out×(Unit)×Heap):=(lA (f188 N v0 v6 h) fun (x1:Bool) h2=>(bif x1 then(lA (f153 N v2.1 v2.2.1 h2) fun (x3:(Unit)) h4=>(lA (f93 N v0 v1 h4) fun (x5:Bool) h6=>let x7:=!x5;(bif x7 then some (Out.ret,(()),h6)else let x8:=dB .i64 (v6+1);go v0 v1 (v2.1,v2.2.1,()) x8 h6)))else some ((Out.exit 0),(()),h2)))
def fM (N M:Nat) (v0:zJ2) (v1:zQ2) (v2:zO) (v6:Int) (h:Heap):Option (Out×(Unit)×Heap):=iter (fun go s h=>eM N (fun v0 v1 v2 v6 h=>go (v0,v1,v2,v6,()) h) s.1 s.2.1 s.2.2.1 s.2.2.2.1 h) M (v0,v1,v2,v6,()) h
theorem bZ (N M v0 v1 v2 v6 h):fM N (M+1) v0 v1 v2 v6 h=eM N (fM N M) v0 v1 v2 v6 h:=rfl
def rZ (N:Nat) (a0:zJ2) (a1:zQ2) (a2:zO) (h:Heap):Option ((Unit)×Heap):=(fE (fM N N a0 a1 (a2.1,a2.2.1,()) 0 h) fun o9 (j10:(Unit)) h11=>(bif gE o9 (.exit 0) then some ((()),h11)else some ((()),h11)))
def lAm:Ann:=(.two .n (.two (.loop [(0,zK2),(1,zM2),(2,(.clo 153 [.ptr,.ptr])),(6,zO2)] [(.exit 0),.ret] [] .n) .n))
theorem vAf (N:Nat):gD Tryz.prog 147 [zK2,zM2,(.clo 153 [.ptr,.ptr])] (.tup []) (fun x h=>rZ N x.1 x.2.1 x.2.2.1 h):=vD (bA (eH N) (bA (iO N) (bA (rB2 N) kA))) N lAm Tryz.f147
def f102 (N:Nat) (a0:zJ2) (a1:Bool) (a2:Int) (h:Heap):Option (zW×Heap):=let h1:=h.push (.row [(.ptr a0)] .own);let h2:=h1.push (.row yZH .own);(iA (.val zK2) (h2.cell (h.next,0)) fun (x3:zJ2)=>(lA (f94 N x3 1 h2) fun (x4:zQ2) h5=>let h6:=h5.push (.row yZH .own);(rA (h6.store (h5.next,0) [(.bool a1),(.str x4),(.slice none 0 0 0),(.slice none 0 0 0),(.int .i64 a2)]) fun h7=>(iA (.val zK2) (h7.cell (h.next,0)) fun (x8:zJ2)=>(lA (f96 N x8 h7) fun (x9:SL) h10=>(rA (h10.store ((h5.next,0).1,(h5.next,0).2+2) [(.slice x9.a x9.len x9.cap x9.sz)]) fun h11=>(iA (.val zK2) (h11.cell (h.next,0)) fun (x12:zJ2)=>(lA (f149 N x12 [123] h11) fun (x13:(Unit)) h14=>(iA (.val zK2) (h14.cell (h.next,0)) fun (x15:zJ2)=>(lA (f93 N x15 [125] h14) fun (x16:Bool) h17=>let x18:=!x16;(bif x18 then(iA (.val zK2) (h17.cell (h.next,0)) fun (x19:zJ2)=>(lA (rZ N x19 [44] ((some (h5.next,0)),(some (h.next,0)),()) h17) fun (x20:(Unit)) h21=>(iA (.val zK2) (h21.cell (h.next,0)) fun (x22:zJ2)=>(lA (f149 N x22 [125] h21) fun (x23:(Unit)) h24=>(iA (.val zG) (h24.cells (h5.next,0) 5) fun (x25:zW)=>(rA (h24.store (h1.next,0) (yRG x25)) fun h26=>(iA (.val zG) (h26.cells (h1.next,0) 5) fun (x27:zW)=>some ((x27.1,x27.2.1,x27.2.2.1,x27.2.2.2.1,x27.2.2.2.2.1,()),h26))))))))else(iA (.val zG) (h17.cells (h5.next,0) 5) fun (x28:zW)=>(rA (h17.store (h1.next,0) (yRG x28)) fun h29=>(iA (.val zG) (h29.cells (h1.next,0) 5) fun (x30:zW)=>some ((x30.1,x30.2.1,x30.2.2.1,x30.2.2.2.1,x30.2.2.2.2.1,()),h29)))))))))))))))
def aBa:Ann:=.n
theorem tB2 (N:Nat):gD Tryz.prog 102 [zK2,zN2,zO2] (.val zG) (fun x h=>f102 N x.1 x.2.1 x.2.2.1 h):=vD (bA (aAz N) (bA (gO N) (bA (eH N) (bA (rJ N) (yB (sel:=fun a=>pJ 2 153 a) (vAf N) kA))))) N aBa Tryz.f102
def f192 (N:Nat) (a0 a1:AV) (h:Heap):Option (Bool×Heap):=Qz.asF a0 a1 h
theorem lA8 (N:Nat):gD Tryz.prog 192 [zP2,zP2] (.val zN2) (fun x h=>f192 N x.1 x.2.1 h):=Qz.lA8 N
def f191 (N:Nat) (a0:AV) (h:Heap):Option (zJ2×Heap):=let h1:=h.push (.row [(.ptr none)] .own);(iA (.val zN2) (cK E .neq 29 (.tmp 4) (.const .nilIface) a0 AV.nilIface) fun (x2:Bool)=>(bif x2 then(lA (f192 N a0 (AV.iface 214 (.ptr (some (h.next,0)))) h1) fun (x3:Bool) h4=>(bif x3 then(iA (.val zK2) (h4.cell (h.next,0)) fun (x5:zJ2)=>some (x5,h4))else some (none,h4)))else some (none,h1)))
def bBa:Ann:=.n
theorem uB2 (N:Nat):gD Tryz.prog 191 [zP2] (.val zK2) (fun x h=>f191 N x.1 h):=vD (bA (lA8 N) kA) N bBa Tryz.f191
def f159 (N:Nat) (a0:AV) (h:Heap):Option (Int×Heap):=(iA (.val zN2) (cK E .eql 29 (.tmp 5) (.const .nilIface) a0 AV.nilIface) fun (x1:Bool)=>(bif x1 then some (0,h)else(lA (f191 N a0 h) fun (x2:zJ2) h3=>let x4:Bool:=(!x2.isNone);(bif x4 then(rA x2 fun q5=>(iA (.val zO2) (h3.cell (q5.1,q5.2+0)) fun (x6:Int)=>some (x6,h3)))else let h7:=h3.push (.row yZK .own);(lA (f192 N a0 (AV.iface 199 (.ptr (some (h3.next,0)))) h7) fun (x8:Bool) h9=>(bif x8 then(iA (.val zO2) (h9.cell (h3.next,0)) fun (x10:Int)=>some (x10,h9))else some (1,h9)))))))
def cBa:Ann:=.n
theorem vB2 (N:Nat):gD Tryz.prog 159 [zP2] (.val zO2) (fun x h=>f159 N x.1 h):=vD (bA (lA8 N) (bA (uB2 N) kA)) N cBa Tryz.f159
def kAz:Ann:=.n
def f104 (N:Nat) (a0:AV) (a1:Int) (h:Heap):Option (AV×Heap):=runK E (oJ 159 [zP2] (.val zO2) (fun x h=>f159 N x.1 h) nAp) N kAz Tryz.f104 (Tryz.f104.body.getD .skip) (.val zP2) [a0,.int .i64 a1] h
theorem wB2 (N:Nat):gD Tryz.prog 104 [zP2,zO2] (.val zP2) (fun x h=>f104 N x.1 x.2.1 h):=uAp oB8 cBg (bA (vB2 N) kA) (N:=N) (x:=kAz) (fn:=Tryz.f104) (c:=Tryz.f104.body.getD .skip) (by kernel_rfl) (by kernel_rfl) (by kernel_rfl) (by kernel_rfl) (fun _ _=>rfl)
theorem bAx (N:Nat) (a1:Int) (h:Heap):f104 N AV.nilIface a1 h=some (AV.nilIface,h):=by kernel_rfl
theorem mAm (N:Nat) (p:zJ2) (a1:Int) (h:Heap):f104 N (AV.iface 127 (.ptr p)) a1 h=(lA (f159 N (AV.iface 127 (.ptr p)) h) fun (x2:Int) h3=>
  let h4:=h3.push (.row [(.int .i64 x2),(.int .i64 a1),(AV.iface 127 (.ptr p))] .own)
  some ((AV.iface 127 (.ptr (some (h3.next,0)))),h4)):=by kernel_rfl
def f189 (N:Nat) (a0 a1:zJ2) (h:Heap):Option ((Unit)×Heap):=(rA a0 fun q1=>(iA (.val zL2) (h.cell (q1.1,q1.2+1)) fun (x2:SL)=>(rA a1 fun q3=>(iA (.val zK2) (h.cell q3) fun (x4:zJ2)=>(lA (f94 N x4 3 h) fun (x5:zQ2) h6=>let h7:=h6.push (.row [(.str x5)] .own);(aE (.val zL2) (iB E 38 38 (.slice x2.a x2.len x2.cap x2.sz) (.slice (some (h6.next,0)) 1 1 1) h7) fun (x8:SL) h9=>(rA a0 fun q10=>(rA (h9.store (q10.1,q10.2+1) [(.slice x8.a x8.len x8.cap x8.sz)]) fun h11=>(uD (bif (fF a1 fun q=>aB (h.cell q) (.ptr x4)) then (bif (aB (h7.cell (q1.1,q1.2+1)) (.slice x2.a x2.len x2.cap x2.sz)) then (bif (aB (h6.cell (q1.1,q1.2+1)) (.slice x2.a x2.len x2.cap x2.sz)) then (bif (aB (h.cell (q1.1,q1.2+1)) (.slice x2.a x2.len x2.cap x2.sz)) then true else false) else false) else false) else false) ( some ((()),h11)))))))))))
def dBa:Ann:=.n
theorem yB2 (N:Nat):gD Tryz.prog 189 [zK2,zK2] (.tup []) (fun x h=>f189 N x.1 x.2.1 h):=vD (bA (gO N) kA) N dBa Tryz.f189
def gM (N:Nat) (go:zJ2→zQ2→zO→Int→Heap→Option (Out×(Unit)×Heap)) (v0:zJ2) (v1:zQ2) (v2:zO) (v6:Int) (h:Heap):Option (Out×(Unit)×Heap):=(lA (f188 N v0 v6 h) fun (x1:Bool) h2=>(bif x1 then(lA (f189 N v2.1 v2.2.1 h2) fun (x3:(Unit)) h4=>(lA (f93 N v0 v1 h4) fun (x5:Bool) h6=>let x7:=!x5;(bif x7 then some (Out.ret,(()),h6)else let x8:=dB .i64 (v6+1);go v0 v1 (v2.1,v2.2.1,()) x8 h6)))else some ((Out.exit 0),(()),h2)))
def iM (N M:Nat) (v0:zJ2) (v1:zQ2) (v2:zO) (v6:Int) (h:Heap):Option (Out×(Unit)×Heap):=iter (fun go s h=>gM N (fun v0 v1 v2 v6 h=>go (v0,v1,v2,v6,()) h) s.1 s.2.1 s.2.2.1 s.2.2.2.1 h) M (v0,v1,v2,v6,()) h
theorem dZ (N M v0 v1 v2 v6 h):iM N (M+1) v0 v1 v2 v6 h=gM N (iM N M) v0 v1 v2 v6 h:=rfl
def tZ (N:Nat) (a0:zJ2) (a1:zQ2) (a2:zO) (h:Heap):Option ((Unit)×Heap):=(fE (iM N N a0 a1 (a2.1,a2.2.1,()) 0 h) fun o9 (j10:(Unit)) h11=>(bif gE o9 (.exit 0) then some ((()),h11)else some ((()),h11)))
def nAm:Ann:=(.two .n (.two (.loop [(0,zK2),(1,zM2),(2,(.clo 189 [.ptr,.ptr])),(6,zO2)] [(.exit 0),.ret] [] .n) .n))
theorem wAf (N:Nat):gD Tryz.prog 147 [zK2,zM2,(.clo 189 [.ptr,.ptr])] (.tup []) (fun x h=>tZ N x.1 x.2.1 x.2.2.1 h):=vD (bA (eH N) (bA (yB2 N) (bA (iO N) kA))) N nAm Tryz.f147
def f156 (N:Nat) (a0:zJ2) (h:Heap):Option (zU×Heap):=let h1:=h.push (.row [(.ptr a0)] .own);let h2:=h1.push (.row yZJ .own);(iA (.val zK2) (h2.cell (h.next,0)) fun (x3:zJ2)=>(lA (f94 N x3 3 h2) fun (x4:zQ2) h5=>let h6:=h5.push (.row yZJ .own);(rA (h6.store (h5.next,0) [(.str x4),(.slice none 0 0 0)]) fun h7=>(iA (.val zK2) (h7.cell (h.next,0)) fun (x8:zJ2)=>(lA (f93 N x8 [58] h7) fun (x9:Bool) h10=>(bif x9 then(iA (.val zK2) (h10.cell (h.next,0)) fun (x11:zJ2)=>(lA (tZ N x11 [43] ((some (h5.next,0)),(some (h.next,0)),()) h10) fun (x12:(Unit)) h13=>(iA (.val zJ) (h13.cells (h5.next,0) 2) fun (x14:zU)=>(rA (h13.store (h1.next,0) (yRH x14)) fun h15=>(iA (.val zJ) (h15.cells (h1.next,0) 2) fun (x16:zU)=>some ((x16.1,x16.2.1,()),h15))))))else(iA (.val zJ) (h10.cells (h5.next,0) 2) fun (x17:zU)=>(rA (h10.store (h1.next,0) (yRH x17)) fun h18=>(iA (.val zJ) (h18.cells (h1.next,0) 2) fun (x19:zU)=>some ((x19.1,x19.2.1,()),h18))))))))))
def eBa:Ann:=.n
theorem aB3 (N:Nat):gD Tryz.prog 156 [zK2] (.val zJ) (fun x h=>f156 N x.1 h):=vD (bA (gO N) (bA (eH N) (yB (sel:=fun a=>pJ 2 189 a) (wAf N) kA))) N eBa Tryz.f156
def f155 (N:Nat) (a0 a1:zJ2) (h:Heap):Option ((Unit)×Heap):=(rA a0 fun q1=>(iA (.val zL2) (h.cell (q1.1,q1.2+2)) fun (x2:SL)=>(rA a1 fun q3=>(iA (.val zK2) (h.cell q3) fun (x4:zJ2)=>(lA (f156 N x4 h) fun (x5:zU) h6=>let h7:=h6.push (.row (yRH x5) .own);(aE (.val zL2) (iB E 36 36 (.slice x2.a x2.len x2.cap x2.sz) (.slice (some (h6.next,0)) 1 1 2) h7) fun (x8:SL) h9=>(rA a0 fun q10=>(rA (h9.store (q10.1,q10.2+2) [(.slice x8.a x8.len x8.cap x8.sz)]) fun h11=>(uD (bif (fF a1 fun q=>aB (h.cell q) (.ptr x4)) then (bif (aB (h7.cell (q1.1,q1.2+2)) (.slice x2.a x2.len x2.cap x2.sz)) then (bif (aB (h6.cell (q1.1,q1.2+2)) (.slice x2.a x2.len x2.cap x2.sz)) then (bif (aB (h.cell (q1.1,q1.2+2)) (.slice x2.a x2.len x2.cap x2.sz)) then true else false) else false) else false) else false) ( some ((()),h11)))))))))))
def fBa:Ann:=.n
theorem bB3 (N:Nat):gD Tryz.prog 155 [zK2,zK2] (.tup []) (fun x h=>f155 N x.1 x.2.1 h):=vD (bA (aB3 N) kA) N fBa Tryz.f155
def jM (N:Nat) (go:zJ2→zQ2→zO→Int→Heap→Option (Out×(Unit)×Heap)) (v0:zJ2) (v1:zQ2) (v2:zO) (v6:Int) (h:Heap):Option (Out×(Unit)×Heap):=(lA (f188 N v0 v6 h) fun (x1:Bool) h2=>(bif x1 then(lA (f155 N v2.1 v2.2.1 h2) fun (x3:(Unit)) h4=>(lA (f93 N v0 v1 h4) fun (x5:Bool) h6=>let x7:=!x5;(bif x7 then some (Out.ret,(()),h6)else let x8:=dB .i64 (v6+1);go v0 v1 (v2.1,v2.2.1,()) x8 h6)))else some ((Out.exit 0),(()),h2)))
def kM (N M:Nat) (v0:zJ2) (v1:zQ2) (v2:zO) (v6:Int) (h:Heap):Option (Out×(Unit)×Heap):=iter (fun go s h=>jM N (fun v0 v1 v2 v6 h=>go (v0,v1,v2,v6,()) h) s.1 s.2.1 s.2.2.1 s.2.2.2.1 h) M (v0,v1,v2,v6,()) h
theorem eZ (N M v0 v1 v2 v6 h):kM N (M+1) v0 v1 v2 v6 h=jM N (kM N M) v0 v1 v2 v6 h:=rfl
def mU (N:Nat) (a0:zJ2) (a1:zQ2) (a2:zO) (h:Heap):Option ((Unit)×Heap):=(fE (kM N N a0 a1 (a2.1,a2.2.1,()) 0 h) fun o9 (j10:(Unit)) h11=>(bif gE o9 (.exit 0) then some ((()),h11)else some ((()),h11)))
def oAm:Ann:=(.two .n (.two (.loop [(0,zK2),(1,zM2),(2,(.clo 155 [.ptr,.ptr])),(6,zO2)] [(.exit 0),.ret] [] .n) .n))
theorem yAf (N:Nat):gD Tryz.prog 147 [zK2,zM2,(.clo 155 [.ptr,.ptr])] (.tup []) (fun x h=>mU N x.1 x.2.1 x.2.2.1 h):=vD (bA (eH N) (bA (iO N) (bA (bB3 N) kA))) N oAm Tryz.f147
def f157 (N:Nat) (a0 a1:zJ2) (h:Heap):Option ((Unit)×Heap):=(rA a0 fun q1=>(iA (.val zK2) (h.cell q1) fun (x2:zJ2)=>(lA (f92 N x2 [109,117,116] h) fun (x3:Bool) h4=>(rA a0 fun q5=>(iA (.val zK2) (h4.cell q5) fun (x6:zJ2)=>(lA (f154 N x6 h4) fun (x7:zV) h8=>let h9:=h8.push (.row yZF .own);(rA (h9.store (h8.next,0) (yRF x7)) fun h10=>(rA (h10.store ((h8.next,0).1,(h8.next,0).2+0) [(.bool x3)]) fun h11=>(rA a1 fun q12=>(iA (.val zL2) (h11.cell (q12.1,q12.2+3)) fun (x13:SL)=>(iA (.val zI) (h11.cells (h8.next,0) 6) fun (x14:zV)=>let h15:=h11.push (.row (yRF x14) .own);(aE (.val zL2) (iB E 37 37 (.slice x13.a x13.len x13.cap x13.sz) (.slice (some (h11.next,0)) 1 1 6) h15) fun (x16:SL) h17=>(rA a1 fun q18=>(rA (h17.store (q18.1,q18.2+3) [(.slice x16.a x16.len x16.cap x16.sz)]) fun h19=>some ((()),h19)))))))))))))))
def gBa:Ann:=.n
theorem cB3 (N:Nat):gD Tryz.prog 157 [zK2,zK2] (.tup []) (fun x h=>f157 N x.1 x.2.1 h):=vD (bA (dY N) (bA (uAf N) kA)) N gBa Tryz.f157
def lM (N:Nat) (go:zJ2→zQ2→zO→Int→Heap→Option (Out×(Unit)×Heap)) (v0:zJ2) (v1:zQ2) (v2:zO) (v6:Int) (h:Heap):Option (Out×(Unit)×Heap):=(lA (f188 N v0 v6 h) fun (x1:Bool) h2=>(bif x1 then(lA (f157 N v2.1 v2.2.1 h2) fun (x3:(Unit)) h4=>(lA (f93 N v0 v1 h4) fun (x5:Bool) h6=>let x7:=!x5;(bif x7 then some (Out.ret,(()),h6)else let x8:=dB .i64 (v6+1);go v0 v1 (v2.1,v2.2.1,()) x8 h6)))else some ((Out.exit 0),(()),h2)))
def mM (N M:Nat) (v0:zJ2) (v1:zQ2) (v2:zO) (v6:Int) (h:Heap):Option (Out×(Unit)×Heap):=iter (fun go s h=>lM N (fun v0 v1 v2 v6 h=>go (v0,v1,v2,v6,()) h) s.1 s.2.1 s.2.2.1 s.2.2.2.1 h) M (v0,v1,v2,v6,()) h
theorem fZ (N M v0 v1 v2 v6 h):mM N (M+1) v0 v1 v2 v6 h=lM N (mM N M) v0 v1 v2 v6 h:=rfl
def nU (N:Nat) (a0:zJ2) (a1:zQ2) (a2:zO) (h:Heap):Option ((Unit)×Heap):=(fE (mM N N a0 a1 (a2.1,a2.2.1,()) 0 h) fun o9 (j10:(Unit)) h11=>(bif gE o9 (.exit 0) then some ((()),h11)else some ((()),h11)))
def pAm:Ann:=(.two .n (.two (.loop [(0,zK2),(1,zM2),(2,(.clo 157 [.ptr,.ptr])),(6,zO2)] [(.exit 0),.ret] [] .n) .n))
theorem aAg (N:Nat):gD Tryz.prog 147 [zK2,zM2,(.clo 157 [.ptr,.ptr])] (.tup []) (fun x h=>nU N x.1 x.2.1 x.2.2.1 h):=vD (bA (eH N) (bA (iO N) (bA (cB3 N) kA))) N pAm Tryz.f147
def oU (N:Nat) (go:zJ2→zJ2→zJ2→Heap→Option (Out×zO×Heap)) (v0 v2 v3:zJ2) (h:Heap):Option (Out×zO×Heap):=(lA (f93 N v0 [46] h) fun (x6:Bool) h7=>(bif x6 then(rA v3 fun q8=>(iA (.val zL2) (h7.cell (q8.1,q8.2+1)) fun (x9:SL)=>(lA (f188 N v0 (Int.ofNat x9.len) h7) fun (x10:Bool) h11=>(bif x10 then(lA (f93 N v0 [42] h11) fun (x12:Bool) h13=>(bif x12 then(rA v3 fun q14=>(iA (.val zL2) (h13.cell (q14.1,q14.2+1)) fun (x15:SL)=>let h16:=h13.push (.row [(.str [42])] .own);(aE (.val zL2) (iB E 38 38 (.slice x15.a x15.len x15.cap x15.sz) (.slice (some (h13.next,0)) 1 1 1) h16) fun (x17:SL) h18=>(rA v3 fun q19=>(rA (h18.store (q19.1,q19.2+1) [(.slice x17.a x17.len x17.cap x17.sz)]) fun h20=>go v0 v2 v3 h20)))))else(rA v3 fun q21=>(iA (.val zL2) (h13.cell (q21.1,q21.2+1)) fun (x22:SL)=>(lA (f94 N v0 1 h13) fun (x23:zQ2) h24=>let h25:=h24.push (.row [(.str x23)] .own);(aE (.val zL2) (iB E 38 38 (.slice x22.a x22.len x22.cap x22.sz) (.slice (some (h24.next,0)) 1 1 1) h25) fun (x26:SL) h27=>(rA v3 fun q28=>(rA (h27.store (q28.1,q28.2+1) [(.slice x26.a x26.len x26.cap x26.sz)]) fun h29=>(uD (bif (aB (h25.cell (q21.1,q21.2+1)) (.slice x22.a x22.len x22.cap x22.sz)) then (bif (aB (h24.cell (q21.1,q21.2+1)) (.slice x22.a x22.len x22.cap x22.sz)) then (bif (aB (h13.cell (q21.1,q21.2+1)) (.slice x22.a x22.len x22.cap x22.sz)) then true else false) else false) else false) ( go v0 v2 v3 h29))))))))))else some ((Out.exit 0),(v2,v3,()),h11)))))
 else some ((Out.exit 0),(v2,v3,()),h7)))
def mA8 (N M:Nat) (v0 v2 v3:zJ2) (h:Heap):Option (Out×zO×Heap):=iter (fun go s h=>oU N (fun v0 v2 v3 h=>go (v0,v2,v3,()) h) s.1 s.2.1 s.2.2.1 h) M (v0,v2,v3,()) h
theorem jY (N M v0 v2 v3 h):mA8 N (M+1) v0 v2 v3 h=oU N (mA8 N M) v0 v2 v3 h:=rfl
def f221 (N:Nat) (a0:zJ2) (h:Heap):Option (zU×Heap):=let h1:=h.push (.row yZJ .own);(lA (f94 N a0 1 h1) fun (x2:zQ2) h3=>let h4:=h3.push (.row yZJ .own);(rA (h4.store (h3.next,0) [(.str x2),(.slice none 0 0 0)]) fun h5=>(fE (mA8 N N a0 (some (h.next,0)) (some (h3.next,0)) h5) fun _ (j31:zO) h32=>(rA j31.2.1 fun q33=>(iA (.val zJ) (h32.cells q33 2) fun (x34:zU)=>(rA j31.1 fun q36=>(rA (h32.store q36 (yRH x34)) fun h35=>(rA j31.1 fun q37=>(iA (.val zJ) (h35.cells q37 2) fun (x38:zU)=>some ((x38.1,x38.2.1,()),h35))))))))))
def iBa:Ann:=(.two .n (.two .n (.two (.two (.loop [(0,zK2),(2,zK2),(3,zK2)] [(.exit 0)] [(2,zK2),(3,zK2)] .n) .n) .n)))
theorem bAg (N:Nat):gD Tryz.prog 221 [zK2] (.val zJ) (fun x h=>f221 N x.1 h):=vD (bA (gO N) (bA (eH N) (bA (iO N) kA))) N iBa Tryz.f221
def f262 (N:Nat) (a0:Int) (h:Heap):Option (Int×Heap):=(iA (.val (.one (.int .u8))) (mAo .or .u8 a0 32) fun (x1:Int)=>some (x1,h))
def jBa:Ann:=.n
theorem oAr (N:Nat):gD Tryz.prog 262 [(.one (.int .u8))] (.val (.one (.int .u8))) (fun x h=>f262 N x.1 h):=vD kA N jBa Tryz.f262
def pAr (N:Nat) (go:zQ2→Bool→Int→Int→Bool→Heap→Option (Out×zD2×Heap)) (v0:zQ2) (v2:Bool) (v3 v4:Int) (v5:Bool) (h:Heap):Option (Out×zD2×Heap):=let x34:=wB v4 (Int.ofNat v0.length);(bif x34 then(wK v0 v4 fun x35=>let x36:Bool:=cE 48 x35;(bif x36 then(wK v0 v4 fun x37=>let x38:Bool:=cE x37 57;(bif x38 then let x39:=dB .i64 (v4+1);go v0 v2 48 x39 v5 h else(bif v5 then(wK v0 v4 fun x40=>(lA (f262 N x40 h) fun (x41:Int) h42=>let x43:Bool:=cE 97 x41;(bif x43 then(wK v0 v4 fun x44=>(lA (f262 N x44 h42) fun (x45:Int) h46=>let x47:Bool:=cE x45 102;(bif x47 then let x48:=dB .i64 (v4+1);go v0 v2 48 x48 v5 h46 else(wK v0 v4 fun x49=>let x50:=kB x49 95;(bif x50 then let x51:=!kB v3 48;(bif x51 then some (Out.ret,(false,v3,()),h46)else let x52:=dB .i64 (v4+1);go v0 v2 95 x52 v5 h46)else let x53:=kB v3 95;(bif x53 then some (Out.ret,(false,v3,()),h46)else let x54:=dB .i64 (v4+1);go v0 v2 33 x54 v5 h46))))))else(wK v0 v4 fun x55=>let x56:=kB x55 95;(bif x56 then let x57:=!kB v3 48;(bif x57 then some (Out.ret,(false,v3,()),h42)else let x58:=dB .i64 (v4+1);go v0 v2 95 x58 v5 h42)else let x59:=kB v3 95;(bif x59 then some (Out.ret,(false,v3,()),h42)else let x60:=dB .i64 (v4+1);go v0 v2 33 x60 v5 h42))))))else(wK v0 v4 fun x61=>let x62:=kB x61 95;(bif x62 then let x63:=!kB v3 48;(bif x63 then some (Out.ret,(false,v3,()),h)else let x64:=dB .i64 (v4+1);go v0 v2 95 x64 v5 h)else let x65:=kB v3 95;(bif x65 then some (Out.ret,(false,v3,()),h)
 else let x66:=dB .i64 (v4+1);go v0 v2 33 x66 v5 h))))))else(bif v5 then(wK v0 v4 fun x67=>(lA (f262 N x67 h) fun (x68:Int) h69=>let x70:Bool:=cE 97 x68;(bif x70 then(wK v0 v4 fun x71=>(lA (f262 N x71 h69) fun (x72:Int) h73=>let x74:Bool:=cE x72 102;(bif x74 then let x75:=dB .i64 (v4+1);go v0 v2 48 x75 v5 h73 else(wK v0 v4 fun x76=>let x77:=kB x76 95;(bif x77 then let x78:=!kB v3 48;(bif x78 then some (Out.ret,(false,v3,()),h73)else let x79:=dB .i64 (v4+1);go v0 v2 95 x79 v5 h73)else let x80:=kB v3 95;(bif x80 then some (Out.ret,(false,v3,()),h73)else let x81:=dB .i64 (v4+1);go v0 v2 33 x81 v5 h73))))))else(wK v0 v4 fun x82=>let x83:=kB x82 95;(bif x83 then let x84:=!kB v3 48;(bif x84 then some (Out.ret,(false,v3,()),h69)else let x85:=dB .i64 (v4+1);go v0 v2 95 x85 v5 h69)else let x86:=kB v3 95;(bif x86 then some (Out.ret,(false,v3,()),h69)else let x87:=dB .i64 (v4+1);go v0 v2 33 x87 v5 h69))))))else(wK v0 v4 fun x88=>let x89:=kB x88 95;(bif x89 then let x90:=!kB v3 48;(bif x90 then some (Out.ret,(false,v3,()),h)else let x91:=dB .i64 (v4+1);go v0 v2 95 x91 v5 h)else let x92:=kB v3 95;(bif x92 then some (Out.ret,(false,v3,()),h)else let x93:=dB .i64 (v4+1);go v0 v2 33 x93 v5 h))))))else some ((Out.exit 0),(v2,v3,()),h))
def dB3 (N M:Nat) (v0:zQ2) (v2:Bool) (v3 v4:Int) (v5:Bool) (h:Heap):Option (Out×zD2×Heap):=iter (fun go s h=>pAr N (fun v0 v2 v3 v4 v5 h=>go (v0,v2,v3,v4,v5,()) h) s.1 s.2.1 s.2.2.1 s.2.2.2.1 s.2.2.2.2.1 h) M (v0,v2,v3,v4,v5,()) h
def f263 (N:Nat) (a0:zQ2) (h:Heap):Option (Bool×Heap):=(lA (α:=zE2) ((lA (α:=zN1) ( let x1:Bool:=cE 1 (Int.ofNat a0.length);(bif x1 then(wK a0 0 fun x2=>let x3:=kB x2 45;(bif x3 then some ((a0,false,94,0,true,()),h)else(wK a0 0 fun x4=>let x5:=kB x4 43;some ((a0,false,94,0,x5,()),h))))else some ((a0,false,94,0,false,()),h))) fun (j6:zN1) h7=>(bif j6.2.2.2.2.1 then(iA (.val zM2) (lE E h7 9 (.str j6.1) (some (.int .i64 1)) none) fun (x8:zQ2)=>some ((x8,j6.2.1,j6.2.2.1,j6.2.2.2.1,()),h7))else some ((j6.1,j6.2.1,j6.2.2.1,j6.2.2.2.1,()),h7)))) fun (j9:zE2) h10=>(lA (α:=zN1) ((lA (α:=zZ1) ( let x11:Bool:=cE 2 (Int.ofNat j9.1.length);(bif x11 then(wK j9.1 0 fun x12=>let x13:=kB x12 48;(bif x13 then(wK j9.1 1 fun x14=>(lA (f262 N x14 h10) fun (x15:Int) h16=>let x17:=kB x15 98;(bif x17 then some ((j9.1,j9.2.1,j9.2.2.1,j9.2.2.2.1,false,true,()),h16)else(wK j9.1 1 fun x18=>(lA (f262 N x18 h16) fun (x19:Int) h20=>let x21:=kB x19 111;(bif x21 then some ((j9.1,j9.2.1,j9.2.2.1,j9.2.2.2.1,false,true,()),h20)else(wK j9.1 1 fun x22=>(lA (f262 N x22 h20) fun (x23:Int) h24=>let x25:=kB x23 120;some ((j9.1,j9.2.1,j9.2.2.1,j9.2.2.2.1,false,x25,()),h24)))))))))else some ((j9.1,j9.2.1,j9.2.2.1,j9.2.2.2.1,false,false,()),h10)))else some ((j9.1,j9.2.1,j9.2.2.1,j9.2.2.2.1,false,false,()),h10))) fun (j26:zZ1) h27=>(bif j26.2.2.2.2.2.1 then(wK j26.1 1 fun x28=>(lA (f262 N x28 h27) fun (x29:Int) h30=>let x31:=kB x29 120;some ((j26.1,j26.2.1,48,2,x31,()),h30)))
 else some ((j26.1,j26.2.1,j26.2.2.1,j26.2.2.2.1,j26.2.2.2.2.1,()),h27)))) fun (j32:zN1) h33=>(fE (dB3 N N j32.1 j32.2.1 j32.2.2.1 j32.2.2.2.1 j32.2.2.2.2.1 h33) fun o94 (j95:zD2) h96=>(bif gE o94 (.exit 0) then let x97:=!kB j95.2.1 95;some (x97,h96)else some (j95.1,h96)))))
def kBa:Ann:=(.two .n (.two .n (.two .n (.two (.join [(0,zM2),(2,zN2),(3,(.one (.int .i32))),(4,zO2)] (.two (.join [(0,zM2),(2,zN2),(3,(.one (.int .i32))),(4,zO2),(18,zN2)] .n) .n)) (.two .n (.two (.join [(0,zM2),(2,zN2),(3,(.one (.int .i32))),(4,zO2),(5,zN2)] (.two (.join [(0,zM2),(2,zN2),(3,(.one (.int .i32))),(4,zO2),(5,zN2),(46,zN2)] .n) .n)) (.two (.two (.loop [(0,zM2),(2,zN2),(3,(.one (.int .i32))),(4,zO2),(5,zN2)] [(.exit 0),.ret] [(2,zN2),(3,(.one (.int .i32)))] .n) .n) .n)))))))
theorem eB3 (N:Nat):gD Tryz.prog 263 [zM2] (.val zN2) (fun x h=>f263 N x.1 h):=vD (bA (oAr N) kA) N kBa Tryz.f263
def qAr (N:Nat) (go:Int→Int→AV→Bool→zQ2→Int→Int→Bool→Int→SL→Int→Int→Heap→Option (Out×zC1×Heap)) (v1 v6:Int) (v7:AV) (v8:Bool) (v9:zQ2) (v10 v11:Int) (v12:Bool) (v13:Int) (v99:SL) (v100 v101:Int) (h:Heap):Option (Out×zC1×Heap):=let x60:=wB v101 v100;(bif x60 then(rA (α:=Sum (zB1×Heap) (Sum (zC1×Heap) (Empty))) ((ixK v99.a v99.len v101 1 fun q61=>(iA (.val (.one (.int .u8))) (h.cell q61) fun (x62:Int)=>(rA (α:=Sum (zO1×Heap) (Sum (zB1×Heap) (Sum (zC1×Heap) (Empty)))) ((lA (α:=zX) ( let x63:=kB x62 95;(bif x63 then some ((v1,v6,v7,v8,v9,v10,v11,v12,v13,x62,v99,v100,v101,v8,()),h)else some ((v1,v6,v7,v8,v9,v10,v11,v12,v13,x62,v99,v100,v101,false,()),h))) fun (j64:zX) h65=>(bif j64.2.2.2.2.2.2.2.2.2.2.2.2.2.1 then some (Sum.inr (Sum.inl ((j64.1,j64.2.1,j64.2.2.1,j64.2.2.2.1,j64.2.2.2.2.1,j64.2.2.2.2.2.1,j64.2.2.2.2.2.2.1,true,j64.2.2.2.2.2.2.2.2.1,j64.2.2.2.2.2.2.2.2.2.2.1,j64.2.2.2.2.2.2.2.2.2.2.2.1,j64.2.2.2.2.2.2.2.2.2.2.2.2.1,()),h65)))else(lA (α:=zX) ( let x66:Bool:=cE 48 j64.2.2.2.2.2.2.2.2.2.1;(bif x66 then let x67:Bool:=cE j64.2.2.2.2.2.2.2.2.2.1 57;some ((j64.1,j64.2.1,j64.2.2.1,j64.2.2.2.1,j64.2.2.2.2.1,j64.2.2.2.2.2.1,j64.2.2.2.2.2.2.1,j64.2.2.2.2.2.2.2.1,j64.2.2.2.2.2.2.2.2.1,j64.2.2.2.2.2.2.2.2.2.1,j64.2.2.2.2.2.2.2.2.2.2.1,j64.2.2.2.2.2.2.2.2.2.2.2.1,j64.2.2.2.2.2.2.2.2.2.2.2.2.1,x67,()),h65)else some ((j64.1,j64.2.1,j64.2.2.1,j64.2.2.2.1,j64.2.2.2.2.1,j64.2.2.2.2.2.1,j64.2.2.2.2.2.2.1,j64.2.2.2.2.2.2.2.1,j64.2.2.2.2.2.2.2.2.1,j64.2.2.2.2.2.2.2.2.2.1,j64.2.2.2.2.2.2.2.2.2.2.1,j64.2.2.2.2.2.2.2.2.2.2.2.1,j64.2.2.2.2.2.2.2.2.2.2.2.2.1,false,()),h65))) fun (j68:zX) h69=>
 (bif j68.2.2.2.2.2.2.2.2.2.2.2.2.2.1 then let x70:=dB .u8 (j68.2.2.2.2.2.2.2.2.2.1-48);some (Sum.inl ((j68.1,j68.2.1,j68.2.2.1,j68.2.2.2.1,j68.2.2.2.2.1,j68.2.2.2.2.2.1,j68.2.2.2.2.2.2.1,j68.2.2.2.2.2.2.2.1,j68.2.2.2.2.2.2.2.2.1,x70,j68.2.2.2.2.2.2.2.2.2.2.1,j68.2.2.2.2.2.2.2.2.2.2.2.1,j68.2.2.2.2.2.2.2.2.2.2.2.2.1,()),h69))else(lA (α:=zX) ((lA (f262 N j68.2.2.2.2.2.2.2.2.2.1 h69) fun (x71:Int) h72=>let x73:Bool:=cE 97 x71;(bif x73 then(lA (f262 N j68.2.2.2.2.2.2.2.2.2.1 h72) fun (x74:Int) h75=>let x76:Bool:=cE x74 122;some ((j68.1,j68.2.1,j68.2.2.1,j68.2.2.2.1,j68.2.2.2.2.1,j68.2.2.2.2.2.1,j68.2.2.2.2.2.2.1,j68.2.2.2.2.2.2.2.1,j68.2.2.2.2.2.2.2.2.1,j68.2.2.2.2.2.2.2.2.2.1,j68.2.2.2.2.2.2.2.2.2.2.1,j68.2.2.2.2.2.2.2.2.2.2.2.1,j68.2.2.2.2.2.2.2.2.2.2.2.2.1,x76,()),h75))else some ((j68.1,j68.2.1,j68.2.2.1,j68.2.2.2.1,j68.2.2.2.2.1,j68.2.2.2.2.2.1,j68.2.2.2.2.2.2.1,j68.2.2.2.2.2.2.2.1,j68.2.2.2.2.2.2.2.2.1,j68.2.2.2.2.2.2.2.2.2.1,j68.2.2.2.2.2.2.2.2.2.2.1,j68.2.2.2.2.2.2.2.2.2.2.2.1,j68.2.2.2.2.2.2.2.2.2.2.2.2.1,false,()),h72)))) fun (j77:zX) h78=>(bif j77.2.2.2.2.2.2.2.2.2.2.2.2.2.1 then(lA (f262 N j77.2.2.2.2.2.2.2.2.2.1 h78) fun (x79:Int) h80=>let x81:=dB .u8 (x79-97);let x82:=dB .u8 (x81+10);some (Sum.inl ((j77.1,j77.2.1,j77.2.2.1,j77.2.2.2.1,j77.2.2.2.2.1,j77.2.2.2.2.2.1,j77.2.2.2.2.2.2.1,j77.2.2.2.2.2.2.2.1,j77.2.2.2.2.2.2.2.2.1,x82,j77.2.2.2.2.2.2.2.2.2.2.1,j77.2.2.2.2.2.2.2.2.2.2.2.1,j77.2.2.2.2.2.2.2.2.2.2.2.2.1,()),h80)))else some (Sum.inr (Sum.inr (Sum.inl ((0,(AV.iface 256 (.int .i64 2)),j77.2.2.2.2.1,j77.2.2.2.2.2.2.2.1,j77.2.2.2.2.2.2.2.2.1,()),h78))))))))))) fun j83=>
 (gF j83 (fun (j84:zO1) h85=>let x87:=dB .u8 j84.1;let x88:Bool:=cE x87 j84.2.2.2.2.2.2.2.2.2.1;(bif x88 then some (Sum.inr (Sum.inl ((0,(AV.iface 256 (.int .i64 2)),j84.2.2.2.2.1,j84.2.2.2.2.2.2.2.1,j84.2.2.2.2.2.2.2.2.1,()),h85)))else let x89:Bool:=cE j84.2.2.2.2.2.1 j84.2.2.2.2.2.2.2.2.1;(bif x89 then some (Sum.inr (Sum.inl ((j84.2.2.2.2.2.2.1,(AV.iface 256 (.int .i64 1)),j84.2.2.2.2.1,j84.2.2.2.2.2.2.2.1,j84.2.2.2.2.2.2.2.2.1,()),h85)))else let x90:=dB .u64 j84.1;let x91:=dB .u64 (j84.2.2.2.2.2.2.2.2.1 * x90);let x92:=dB .u64 j84.2.2.2.2.2.2.2.2.2.1;let x93:=dB .u64 (x91+x92);(rA (α:=Sum (zB1×Heap) (Sum (zC1×Heap) (Empty))) ((lA (α:=zX) ( let x94:=wB x93 x91;(bif x94 then some ((j84.1,j84.2.1,j84.2.2.1,j84.2.2.2.1,j84.2.2.2.2.1,j84.2.2.2.2.2.1,j84.2.2.2.2.2.2.1,j84.2.2.2.2.2.2.2.1,x91,x93,j84.2.2.2.2.2.2.2.2.2.2.1,j84.2.2.2.2.2.2.2.2.2.2.2.1,j84.2.2.2.2.2.2.2.2.2.2.2.2.1,true,()),h85)else let x95:=wB j84.2.2.2.2.2.2.1 x93;some ((j84.1,j84.2.1,j84.2.2.1,j84.2.2.2.1,j84.2.2.2.2.1,j84.2.2.2.2.2.1,j84.2.2.2.2.2.2.1,j84.2.2.2.2.2.2.2.1,x91,x93,j84.2.2.2.2.2.2.2.2.2.2.1,j84.2.2.2.2.2.2.2.2.2.2.2.1,j84.2.2.2.2.2.2.2.2.2.2.2.2.1,x95,()),h85))) fun (j96:zX) h97=>(bif j96.2.2.2.2.2.2.2.2.2.2.2.2.2.1 then some (Sum.inr (Sum.inl ((j96.2.2.2.2.2.2.1,(AV.iface 256 (.int .i64 1)),j96.2.2.2.2.1,j96.2.2.2.2.2.2.2.1,j96.2.2.2.2.2.2.2.2.1,()),h97)))else some (Sum.inl ((j96.1,j96.2.1,j96.2.2.1,j96.2.2.2.1,j96.2.2.2.2.1,j96.2.2.2.2.2.1,j96.2.2.2.2.2.2.1,j96.2.2.2.2.2.2.2.1,j96.2.2.2.2.2.2.2.2.2.1,j96.2.2.2.2.2.2.2.2.2.2.1,j96.2.2.2.2.2.2.2.2.2.2.2.1,j96.2.2.2.2.2.2.2.2.2.2.2.2.1,()),h97))))) fun j98=>
 (gF j98 (fun (j99:zB1) h100=>some (Sum.inl ((j99.1,j99.2.1,j99.2.2.1,j99.2.2.2.1,j99.2.2.2.2.1,j99.2.2.2.2.2.1,j99.2.2.2.2.2.2.1,j99.2.2.2.2.2.2.2.1,j99.2.2.2.2.2.2.2.2.1,j99.2.2.2.2.2.2.2.2.2.1,j99.2.2.2.2.2.2.2.2.2.2.1,j99.2.2.2.2.2.2.2.2.2.2.2.1,()),h100))) fun j101=>(gF j101 (fun (j102:zC1) h103=>some (Sum.inr (Sum.inl ((j102.1,j102.2.1,j102.2.2.1,j102.2.2.2.1,j102.2.2.2.2.1,()),h103)))) fun _=>none)))))) fun j86=>(gF j86 (fun (j105:zB1) h106=>some (Sum.inl ((j105.1,j105.2.1,j105.2.2.1,j105.2.2.2.1,j105.2.2.2.2.1,j105.2.2.2.2.2.1,j105.2.2.2.2.2.2.1,j105.2.2.2.2.2.2.2.1,j105.2.2.2.2.2.2.2.2.1,j105.2.2.2.2.2.2.2.2.2.1,j105.2.2.2.2.2.2.2.2.2.2.1,j105.2.2.2.2.2.2.2.2.2.2.2.1,()),h106))) fun j107=>(gF j107 (fun (j108:zC1) h109=>some (Sum.inr (Sum.inl ((j108.1,j108.2.1,j108.2.2.1,j108.2.2.2.1,j108.2.2.2.2.1,()),h109)))) fun _=>none))))))) fun j111=>(gF j111 (fun (j112:zB1) h113=>let x115:=dB .i64 (j112.2.2.2.2.2.2.2.2.2.2.2.1+1);go j112.1 j112.2.1 j112.2.2.1 j112.2.2.2.1 j112.2.2.2.2.1 j112.2.2.2.2.2.1 j112.2.2.2.2.2.2.1 j112.2.2.2.2.2.2.2.1 j112.2.2.2.2.2.2.2.2.1 j112.2.2.2.2.2.2.2.2.2.1 j112.2.2.2.2.2.2.2.2.2.2.1 x115 h113) fun j114=>(gF j114 (fun (j116:zC1) h117=>some (Out.ret,(j116.1,j116.2.1,j116.2.2.1,j116.2.2.2.1,j116.2.2.2.2.1,()),h117)) fun _=>none)))else some ((Out.exit 3),(v6,v7,v9,v12,v13,()),h))
def fB3 (N M:Nat) (v1 v6:Int) (v7:AV) (v8:Bool) (v9:zQ2) (v10 v11:Int) (v12:Bool) (v13:Int) (v99:SL) (v100 v101:Int) (h:Heap):Option (Out×zC1×Heap):=iter (fun go s h=>qAr N (fun v1 v6 v7 v8 v9 v10 v11 v12 v13 v99 v100 v101 h=>go (v1,v6,v7,v8,v9,v10,v11,v12,v13,v99,v100,v101,()) h) s.1 s.2.1 s.2.2.1 s.2.2.2.1 s.2.2.2.2.1 s.2.2.2.2.2.1 s.2.2.2.2.2.2.1 s.2.2.2.2.2.2.2.1 s.2.2.2.2.2.2.2.2.1 s.2.2.2.2.2.2.2.2.2.1 s.2.2.2.2.2.2.2.2.2.2.1 s.2.2.2.2.2.2.2.2.2.2.2.1 h) M (v1,v6,v7,v8,v9,v10,v11,v12,v13,v99,v100,v101,()) h
def f257 (N:Nat) (a0:zQ2) (a1 a2:Int) (h:Heap):Option (zG1×Heap):=let x1:=mB a0 [];(bif x1 then some ((0,(AV.iface 256 (.int .i64 2)),()),h)else let x2:=kB a1 0;(rA (α:=Sum (zI1×Heap) (Sum (zG1×Heap) (Empty))) ((lA (α:=zH1) ( let x3:Bool:=cE 2 a1;(bif x3 then let x4:Bool:=cE a1 36;some ((a0,a1,a2,0,AV.nilIface,x2,a0,x4,()),h)else some ((a0,a1,a2,0,AV.nilIface,x2,a0,false,()),h))) fun (j5:zH1) h6=>(bif j5.2.2.2.2.2.2.2.1 then some (Sum.inl ((j5.1,j5.2.1,j5.2.2.1,j5.2.2.2.1,j5.2.2.2.2.1,j5.2.2.2.2.2.1,j5.2.2.2.2.2.2.1,()),h6))else let x7:=kB j5.2.1 0;(bif x7 then(wK j5.1 0 fun x8=>let x9:=kB x8 48;(bif x9 then(lA (α:=zD1) ( let x10:Bool:=cE 3 (Int.ofNat j5.1.length);(bif x10 then(wK j5.1 1 fun x11=>(lA (f262 N x11 h6) fun (x12:Int) h13=>let x14:=kB x12 98;some ((j5.1,j5.2.2.1,j5.2.2.2.1,j5.2.2.2.2.1,j5.2.2.2.2.2.1,j5.2.2.2.2.2.2.1,x14,()),h13)))else some ((j5.1,j5.2.2.1,j5.2.2.2.1,j5.2.2.2.2.1,j5.2.2.2.2.2.1,j5.2.2.2.2.2.2.1,false,()),h6))) fun (j15:zD1) h16=>(bif j15.2.2.2.2.2.2.1 then(iA (.val zM2) (lE E h16 9 (.str j15.1) (some (.int .i64 2)) none) fun (x17:zQ2)=>some (Sum.inl ((x17,2,j15.2.1,j15.2.2.1,j15.2.2.2.1,j15.2.2.2.2.1,j15.2.2.2.2.2.1,()),h16)))else(lA (α:=zD1) ( let x18:Bool:=cE 3 (Int.ofNat j15.1.length);(bif x18 then(wK j15.1 1 fun x19=>(lA (f262 N x19 h16) fun (x20:Int) h21=>let x22:=kB x20 111;some ((j15.1,j15.2.1,j15.2.2.1,j15.2.2.2.1,j15.2.2.2.2.1,j15.2.2.2.2.2.1,x22,()),h21)))else some ((j15.1,j15.2.1,j15.2.2.1,j15.2.2.2.1,j15.2.2.2.2.1,j15.2.2.2.2.2.1,false,()),h16))) fun (j23:zD1) h24=>
 (bif j23.2.2.2.2.2.2.1 then(iA (.val zM2) (lE E h24 9 (.str j23.1) (some (.int .i64 2)) none) fun (x25:zQ2)=>some (Sum.inl ((x25,8,j23.2.1,j23.2.2.1,j23.2.2.2.1,j23.2.2.2.2.1,j23.2.2.2.2.2.1,()),h24)))else(lA (α:=zD1) ( let x26:Bool:=cE 3 (Int.ofNat j23.1.length);(bif x26 then(wK j23.1 1 fun x27=>(lA (f262 N x27 h24) fun (x28:Int) h29=>let x30:=kB x28 120;some ((j23.1,j23.2.1,j23.2.2.1,j23.2.2.2.1,j23.2.2.2.2.1,j23.2.2.2.2.2.1,x30,()),h29)))else some ((j23.1,j23.2.1,j23.2.2.1,j23.2.2.2.1,j23.2.2.2.2.1,j23.2.2.2.2.2.1,false,()),h24))) fun (j31:zD1) h32=>(bif j31.2.2.2.2.2.2.1 then(iA (.val zM2) (lE E h32 9 (.str j31.1) (some (.int .i64 2)) none) fun (x33:zQ2)=>some (Sum.inl ((x33,16,j31.2.1,j31.2.2.1,j31.2.2.2.1,j31.2.2.2.2.1,j31.2.2.2.2.2.1,()),h32)))else(iA (.val zM2) (lE E h32 9 (.str j31.1) (some (.int .i64 1)) none) fun (x34:zQ2)=>some (Sum.inl ((x34,8,j31.2.1,j31.2.2.1,j31.2.2.2.1,j31.2.2.2.2.1,j31.2.2.2.2.2.1,()),h32)))))))))else some (Sum.inl ((j5.1,10,j5.2.2.1,j5.2.2.2.1,j5.2.2.2.2.1,j5.2.2.2.2.2.1,j5.2.2.2.2.2.2.1,()),h6))))else some (Sum.inr (Sum.inl ((0,(AV.iface 256 (.int .i64 3)),()),h6))))))) fun j35=>(gF j35 (fun (j36:zI1) h37=>(rA (α:=Sum (zI1×Heap) (Sum (zG1×Heap) (Empty))) ( let x39:=kB j36.2.2.1 0;(bif x39 then some (Sum.inl ((j36.1,j36.2.1,64,j36.2.2.2.1,j36.2.2.2.2.1,j36.2.2.2.2.2.1,j36.2.2.2.2.2.2.1,()),h37))else(lA (α:=zH1) ( let x40:=wB j36.2.2.1 0;(bif x40 then some ((j36.1,j36.2.1,j36.2.2.1,j36.2.2.2.1,j36.2.2.2.2.1,j36.2.2.2.2.2.1,j36.2.2.2.2.2.2.1,true,()),h37)
 else let x41:=wB 64 j36.2.2.1;some ((j36.1,j36.2.1,j36.2.2.1,j36.2.2.2.1,j36.2.2.2.2.1,j36.2.2.2.2.2.1,j36.2.2.2.2.2.2.1,x41,()),h37))) fun (j42:zH1) h43=>(bif j42.2.2.2.2.2.2.2.1 then some (Sum.inr (Sum.inl ((0,(AV.iface 256 (.int .i64 4)),()),h43)))else some (Sum.inl ((j42.1,j42.2.1,j42.2.2.1,j42.2.2.2.1,j42.2.2.2.2.1,j42.2.2.2.2.2.1,j42.2.2.2.2.2.2.1,()),h43)))))) fun j44=>(gF j44 (fun (j45:zI1) h46=>(lA (α:=zS1) ( let x48:=kB j45.2.1 10;(bif x48 then some ((j45.1,j45.2.1,j45.2.2.1,j45.2.2.2.1,j45.2.2.2.2.1,j45.2.2.2.2.2.1,j45.2.2.2.2.2.2.1,1844674407370955162,()),h46)else let x49:=kB j45.2.1 16;(bif x49 then some ((j45.1,j45.2.1,j45.2.2.1,j45.2.2.2.1,j45.2.2.2.2.1,j45.2.2.2.2.2.1,j45.2.2.2.2.2.2.1,1152921504606846976,()),h46)else let x50:=dB .u64 j45.2.1;(iA (.val (.one (.int .u64))) (aAi .quo .u64 18446744073709551615 x50) fun (x51:Int)=>let x52:=dB .u64 (x51+1);some ((j45.1,j45.2.1,j45.2.2.1,j45.2.2.2.1,j45.2.2.2.2.1,j45.2.2.2.2.2.1,j45.2.2.2.2.2.2.1,x52,()),h46))))) fun (j53:zS1) h54=>let x55:=dB .u64 j53.2.2.1;(iA (.val (.one (.int .u64))) (wA4 .shl .u64 1 x55) fun (x56:Int)=>let x57:=dB .u64 (x56-1);(aE (.val zL2) (wAd E 9 81 (.str j53.1) h54) fun (x58:SL) h59=>(fE (fB3 N N j53.2.1 j53.2.2.2.1 j53.2.2.2.2.1 j53.2.2.2.2.2.1 j53.2.2.2.2.2.2.1 j53.2.2.2.2.2.2.2.1 x57 false 0 x58 (Int.ofNat x58.len) 0 h59) fun o119 (j120:zC1) h121=>(bif gE o119 (.exit 3) then(rA (α:=Sum (zT1×Heap) (Sum (zG1×Heap) (Empty))) ((lA (α:=(Int×Bool×Unit)) (
 (bif j120.2.2.2.1 then(lA (f263 N j120.2.2.1 h121) fun (x122:Bool) h123=>let x124:=!x122;some ((j120.2.2.2.2.1,x124,()),h123))else some ((j120.2.2.2.2.1,false,()),h121))) fun (j125:(Int×Bool×Unit)) h126=>(bif j125.2.1 then some (Sum.inr (Sum.inl ((0,(AV.iface 256 (.int .i64 2)),()),h126)))else some (Sum.inl ((j125.1,()),h126))))) fun j127=>(gF j127 (fun (j128:zT1) h129=>some ((j128.1,AV.nilIface,()),h129)) fun j130=>(gF j130 (fun (j131:zG1) h132=>some ((j131.1,j131.2.1,()),h132)) fun _=>none)))else some ((j120.1,j120.2.1,()),h121))))))) fun j47=>(gF j47 (fun (j134:zG1) h135=>some ((j134.1,j134.2.1,()),h135)) fun _=>none)))) fun j38=>(gF j38 (fun (j137:zG1) h138=>some ((j137.1,j137.2.1,()),h138)) fun _=>none))))
def lBa:Ann:=(.two .n (.two .n (.two .n (.two .n (.two (.joinO [(.norm,[(0,zM2),(1,zO2),(2,zO2),(6,(.one (.int .u64))),(7,zP2),(8,zN2),(9,zM2)]),(.ret,[(6,(.one (.int .u64))),(7,zP2)])] (.two (.two (.join [(0,zM2),(1,zO2),(2,zO2),(6,(.one (.int .u64))),(7,zP2),(8,zN2),(9,zM2),(25,zN2)] .n) (.two .n (.two .n (.two (.two .n (.two .n (.two (.two (.two (.join [(0,zM2),(2,zO2),(6,(.one (.int .u64))),(7,zP2),(8,zN2),(9,zM2),(40,zN2)] .n) (.two .n (.two (.join [(0,zM2),(2,zO2),(6,(.one (.int .u64))),(7,zP2),(8,zN2),(9,zM2),(52,zN2)] .n) (.two .n (.two (.join [(0,zM2),(2,zO2),(6,(.one (.int .u64))),(7,zP2),(8,zN2),(9,zM2),(64,zN2)] .n) .n))))) .n) .n))) .n)))) .n)) (.two (.joinO [(.norm,[(0,zM2),(1,zO2),(2,zO2),(6,(.one (.int .u64))),(7,zP2),(8,zN2),(9,zM2)]),(.ret,[(6,(.one (.int .u64))),(7,zP2)])] (.two .n (.two .n (.two (.join [(0,zM2),(1,zO2),(2,zO2),(6,(.one (.int .u64))),(7,zP2),(8,zN2),(9,zM2),(83,zN2)] .n) .n)))) (.two .n (.two (.join [(0,zM2),(1,zO2),(2,zO2),(6,(.one (.int .u64))),(7,zP2),(8,zN2),(9,zM2),(10,(.one (.int .u64)))] .n) (.two .n (.two .n (.two .n (.two (.two .n (.two (.loop [(1,zO2),(6,(.one (.int .u64))),(7,zP2),(8,zN2),(9,zM2),(10,(.one (.int .u64))),(11,(.one (.int .u64))),(12,zN2),(13,(.one (.int .u64))),(99,zL2),(100,zO2),(101,zO2)] [(.exit 3),.ret] [(6,(.one (.int .u64))),(7,zP2),(9,zM2),(12,zN2),(13,(.one (.int .u64)))] (.two .n (.two .n (.two (.joinO [(.norm,[(1,zO2),(6,(.one (.int .u64))),(7,zP2),(8,zN2),(9,zM2),(10,(.one (.int .u64))),(11,(.one (.int .u64))),(12,zN2),(13,(.one (.int .u64))),(99,zL2),(100,zO2),(101,zO2)]),(.ret,[(6,(.one (.int .u64))),(7,zP2),(9,zM2),(12,zN2),(13,(.one (.int .u64)))])] (.two (.two .n (.two .n (.two (.joinO [(.norm,[(1,zO2),(6,(.one (.int .u64))),(7,zP2),(8,zN2),(9,zM2),(10,(.one (.int .u64))),(11,(.one (.int .u64))),(12,zN2),(13,(.one (.int .u64))),(16,(.one (.int .u8))),(99,zL2),(100,zO2),(101,zO2)]),((.exit 4),[(1,zO2),(6,(.one (.int .u64))),(7,zP2),(8,zN2),(9,zM2),(10,(.one (.int .u64))),(11,(.one (.int .u64))),(12,zN2),(13,(.one (.int .u64))),(99,zL2),(100,zO2),(101,zO2)]),(.ret,[(6,(.one (.int .u64))),(7,zP2),(9,zM2),(12,zN2),(13,(.one (.int .u64)))])] (.two (.two (.join [(1,zO2),(6,(.one (.int .u64))),(7,zP2),(8,zN2),(9,zM2),(10,(.one (.int .u64))),(11,(.one (.int .u64))),(12,zN2),(13,(.one (.int .u64))),(15,(.one (.int .u8))),(99,zL2),(100,zO2),(101,zO2),(106,zN2)] .n) (.two .n (.two (.join [(1,zO2),(6,(.one (.int .u64))),(7,zP2),(8,zN2),(9,zM2),(10,(.one (.int .u64))),(11,(.one (.int .u64))),(12,zN2),(13,(.one (.int .u64))),(15,(.one (.int .u8))),(99,zL2),(100,zO2),(101,zO2),(112,zN2)] .n) (.two .n (.two (.join [(1,zO2),(6,(.one (.int .u64))),(7,zP2),(8,zN2),(9,zM2),(10,(.one (.int .u64))),(11,(.one (.int .u64))),(12,zN2),(13,(.one (.int .u64))),(15,(.one (.int .u8))),(99,zL2),(100,zO2),(101,zO2),(121,zN2)] .n) .n))))) .n)) (.two .n (.two .n (.two .n (.two .n (.two (.joinO [(.norm,[(1,zO2),(6,(.one (.int .u64))),(7,zP2),(8,zN2),(9,zM2),(10,(.one (.int .u64))),(11,(.one (.int .u64))),(12,zN2),(17,(.one (.int .u64))),(99,zL2),(100,zO2),(101,zO2)]),(.ret,[(6,(.one (.int .u64))),(7,zP2),(9,zM2),(12,zN2),(13,(.one (.int .u64)))])] (.two (.join [(1,zO2),(6,(.one (.int .u64))),(7,zP2),(8,zN2),(9,zM2),(10,(.one (.int .u64))),(11,(.one (.int .u64))),(12,zN2),(13,(.one (.int .u64))),(17,(.one (.int .u64))),(99,zL2),(100,zO2),(101,zO2),(159,zN2)] .n) .n)) .n)))))))) .n)) .n)))) .n)) (.two (.joinO [(.norm,[(13,(.one (.int .u64)))]),(.ret,[(6,(.one (.int .u64))),(7,zP2)])] (.two (.join [(13,(.one (.int .u64))),(169,zN2)] .n) .n)) .n)))))))))))))
theorem gB3 (N:Nat):gD Tryz.prog 257 [zM2,zO2,zO2] (.tup [(.one (.int .u64)),zP2]) (fun x h=>f257 N x.1 x.2.1 x.2.2.1 h):=vD (bA (eB3 N) (bA (oAr N) kA)) N lBa Tryz.f257
def f245 (N:Nat) (a0:zQ2) (a1 a2:Int) (h:Heap):Option (zG1×Heap):=let x1:=mB a0 [];(bif x1 then some ((0,(AV.iface 256 (.int .i64 2)),()),h)else(lA (α:=zF2) ((wK a0 0 fun x2=>let x3:=kB x2 43;(bif x3 then(iA (.val zM2) (lE E h 9 (.str a0) (some (.int .i64 1)) none) fun (x4:zQ2)=>some ((x4,a1,a2,false,()),h))else let x5:=kB x2 45;(bif x5 then(iA (.val zM2) (lE E h 9 (.str a0) (some (.int .i64 1)) none) fun (x6:zQ2)=>some ((x6,a1,a2,true,()),h))else some ((a0,a1,a2,false,()),h))))) fun (j7:zF2) h8=>(lA (f257 N j7.1 j7.2.1 j7.2.2.1 h8) fun (x9:zG1) h10=>(lA (α:=zI2) ((iA (.val zN2) (cK E .neq 29 (.tmp 32) (.const .nilIface) x9.2.1 AV.nilIface) fun (x11:Bool)=>(bif x11 then(iA (.val zN2) (cK E .neq 29 (.tmp 35) (.tmp 36) x9.2.1 (AV.iface 256 (.int .i64 1))) fun (x12:Bool)=>some ((j7.2.2.1,x9.2.1,j7.2.2.2.1,x9.1,x12,()),h10))else some ((j7.2.2.1,x9.2.1,j7.2.2.2.1,x9.1,false,()),h10)))) fun (j13:zI2) h14=>(bif j13.2.2.2.2.1 then some ((0,j13.2.1,()),h14)else(lA (α:=(Int×Bool×Int×Unit)) ( let x15:=kB j13.1 0;(bif x15 then some ((64,j13.2.2.1,j13.2.2.2.1,()),h14)else some ((j13.1,j13.2.2.1,j13.2.2.2.1,()),h14))) fun (j16:(Int×Bool×Int×Unit)) h17=>let x18:=dB .i64 (j16.1-1);let x19:=dB .u64 x18;(iA (.val (.one (.int .u64))) (wA4 .shl .u64 1 x19) fun (x20:Int)=>(lA (α:=zU1) ( let x21:=!j16.2.1;(bif x21 then let x22:Bool:=cE x20 j16.2.2.1;some ((j16.2.1,j16.2.2.1,x20,x22,()),h17)else some ((j16.2.1,j16.2.2.1,x20,false,()),h17))) fun (j23:zU1) h24=>
 (bif j23.2.2.2.1 then let x25:=dB .u64 (j23.2.2.1-1);let x26:=dB .i64 x25;some ((x26,(AV.iface 256 (.int .i64 1)),()),h24)else(lA (α:=zU1) ((bif j23.1 then let x27:=wB j23.2.2.1 j23.2.1;some ((j23.1,j23.2.1,j23.2.2.1,x27,()),h24)else some ((j23.1,j23.2.1,j23.2.2.1,false,()),h24))) fun (j28:zU1) h29=>(bif j28.2.2.2.1 then let x30:=dB .i64 j28.2.2.1;let x31:=dB .i64 (0-x30);some ((x31,(AV.iface 256 (.int .i64 1)),()),h29)else let x32:=dB .i64 j28.2.1;(lA (α:=zT1) ((bif j28.1 then let x33:=dB .i64 (0-x32);some ((x33,()),h29)else some ((x32,()),h29))) fun (j34:zT1) h35=>some ((j34.1,AV.nilIface,()),h35)))))))))))))
def mBa:Ann:=(.two .n (.two .n (.two .n (.two (.join [(0,zM2),(1,zO2),(2,zO2),(8,zN2)] .n) (.two .n (.two .n (.two (.two (.join [(2,zO2),(7,zP2),(8,zN2),(9,(.one (.int .u64))),(38,zN2)] .n) .n) (.two (.join [(2,zO2),(8,zN2),(9,(.one (.int .u64)))] .n) (.two .n (.two (.two (.join [(8,zN2),(9,(.one (.int .u64))),(10,(.one (.int .u64))),(52,zN2)] .n) .n) (.two (.two (.join [(8,zN2),(9,(.one (.int .u64))),(10,(.one (.int .u64))),(62,zN2)] .n) .n) (.two .n (.two (.join [(11,zO2)] .n) .n)))))))))))))
theorem iB3 (N:Nat):gD Tryz.prog 245 [zM2,zO2,zO2] (.tup [zO2,zP2]) (fun x h=>f245 N x.1 x.2.1 x.2.2.1 h):=vD (bA (gB3 N) kA) N mBa Tryz.f245
def nA2 (N:Nat) (go:Int→AV→zQ2→Int→SL→Int→Int→Heap→Option (Out×zP1×Heap)) (v2:Int) (v3:AV) (v5:zQ2) (v6:Int) (v47:SL) (v48 v49:Int) (h:Heap):Option (Out×zP1×Heap):=let x19:=wB v49 v48;(bif x19 then(ixK v47.a v47.len v49 1 fun q20=>(iA (.val (.one (.int .u8))) (h.cell q20) fun (x21:Int)=>let x22:=dB .u8 (x21-48);let x23:=wB 9 x22;(bif x23 then some (Out.ret,(0,(AV.iface 256 (.int .i64 2)),v5,v6,()),h)else let x24:=dB .i64 (v6 * 10);let x25:=dB .i64 x22;let x26:=dB .i64 (x24+x25);let x27:=dB .i64 (v49+1);go v2 v3 v5 x26 v47 v48 x27 h)))else some ((Out.exit 0),(v2,v3,v5,v6,()),h))
def nA8 (N M:Nat) (v2:Int) (v3:AV) (v5:zQ2) (v6:Int) (v47:SL) (v48 v49:Int) (h:Heap):Option (Out×zP1×Heap):=iter (fun go s h=>nA2 N (fun v2 v3 v5 v6 v47 v48 v49 h=>go (v2,v3,v5,v6,v47,v48,v49,()) h) s.1 s.2.1 s.2.2.1 s.2.2.2.1 s.2.2.2.2.1 s.2.2.2.2.2.1 s.2.2.2.2.2.2.1 h) M (v2,v3,v5,v6,v47,v48,v49,()) h
theorem qAc (N M v2 v3 v5 v6 v47 v48 v49 h):nA8 N (M+1) v2 v3 v5 v6 v47 v48 v49 h=nA2 N (nA8 N M) v2 v3 v5 v6 v47 v48 v49 h:=rfl
def f233 (N:Nat) (a0:zQ2) (h:Heap):Option (zG1×Heap):=(rA (α:=Sum ((zQ2×Unit)×Heap) (Sum (zG1×Heap) (Empty))) ((lA (α:=zH2) ( let x1:=wB 0 (Int.ofNat a0.length);(bif x1 then let x2:=wB (Int.ofNat a0.length) 19;some ((a0,0,AV.nilIface,x2,()),h)else some ((a0,0,AV.nilIface,false,()),h))) fun (j3:zH2) h4=>(bif j3.2.2.2.1 then(rA (α:=Sum (zC2×Heap) (Sum (zG1×Heap) (Empty))) ((lA (α:=zA2) ((wK j3.1 0 fun x5=>let x6:=kB x5 45;(bif x6 then some ((j3.1,j3.2.1,j3.2.2.1,j3.1,true,()),h4)else(wK j3.1 0 fun x7=>let x8:=kB x7 43;some ((j3.1,j3.2.1,j3.2.2.1,j3.1,x8,()),h4))))) fun (j9:zA2) h10=>(bif j9.2.2.2.2.1 then(iA (.val zM2) (lE E h10 9 (.str j9.1) (some (.int .i64 1)) none) fun (x11:zQ2)=>let x12:=wB (Int.ofNat x11.length) 1;(bif x12 then some (Sum.inr (Sum.inl ((0,(AV.iface 256 (.int .i64 2)),()),h10)))else some (Sum.inl ((x11,j9.2.1,j9.2.2.1,j9.2.2.2.1,()),h10))))else some (Sum.inl ((j9.1,j9.2.1,j9.2.2.1,j9.2.2.2.1,()),h10))))) fun j13=>(gF j13 (fun (j14:zC2) h15=>(aE (.val zL2) (wAd E 9 81 (.str j14.1) h15) fun (x17:SL) h18=>(fE (nA8 N N j14.2.1 j14.2.2.1 j14.2.2.2.1 0 x17 (Int.ofNat x17.len) 0 h18) fun o28 (j29:zP1) h30=>(bif gE o28 (.exit 0) then(lA (α:=zT1) ((wK j29.2.2.1 0 fun x31=>let x32:=kB x31 45;(bif x32 then let x33:=dB .i64 (0-j29.2.2.2.1);some ((x33,()),h30)else some ((j29.2.2.2.1,()),h30)))) fun (j34:zT1) h35=>some (Sum.inr (Sum.inl ((j34.1,AV.nilIface,()),h35))))else some (Sum.inr (Sum.inl ((j29.1,j29.2.1,()),h30))))))) fun j16=>
 (gF j16 (fun (j36:zG1) h37=>some (Sum.inr (Sum.inl ((j36.1,j36.2.1,()),h37)))) fun _=>none)))else some (Sum.inl ((j3.1,()),h4))))) fun j39=>(gF j39 (fun (j40:(zQ2×Unit)) h41=>(lA (f245 N j40.1 10 0 h41) fun (x43:zG1) h44=>some ((x43.1,x43.2.1,()),h44))) fun j42=>(gF j42 (fun (j45:zG1) h46=>some ((j45.1,j45.2.1,()),h46)) fun _=>none)))
def nBa:Ann:=(.two .n (.two .n (.two (.joinO [(.norm,[(0,zM2)]),(.ret,[(2,zO2),(3,zP2)])] (.two (.join [(0,zM2),(2,zO2),(3,zP2),(30,zN2)] .n) (.two (.two .n (.two (.joinO [(.norm,[(0,zM2),(2,zO2),(3,zP2),(5,zM2)]),(.ret,[(2,zO2),(3,zP2)])] (.two (.join [(0,zM2),(2,zO2),(3,zP2),(5,zM2),(39,zN2)] .n) .n)) (.two .n (.two (.two .n (.two (.loop [(2,zO2),(3,zP2),(5,zM2),(6,zO2),(47,zL2),(48,zO2),(49,zO2)] [(.exit 0),.ret] [(2,zO2),(3,zP2),(5,zM2),(6,zO2)] .n) .n)) (.two (.join [(6,zO2)] .n) .n))))) .n))) .n)))
theorem jB3 (N:Nat):gD Tryz.prog 233 [zM2] (.tup [zO2,zP2]) (fun x h=>f233 N x.1 h):=vD (bA (iB3 N) kA) N nBa Tryz.f233
def f234 (N:Nat) (a0 a1:zQ2) (a2 a3:Int) (a4:AV) (h:Heap):Option (AV×Heap):=Qw.pAc a0 a1 a2 a3 a4 h
theorem tAf (N:Nat):gD Tryz.prog 234 [zM2,zM2,zO2,zO2,zP2] (.val zP2) (fun x h=>f234 N x.1 x.2.1 x.2.2.1 x.2.2.2.1 x.2.2.2.2.1 h):=Qw.tAf N
def f220 (N:Nat) (a0:zQ2) (h:Heap):Option (zG1×Heap):=(lA (f233 N a0 h) fun (x1:zG1) h2=>(iA (.val zN2) (cK E .neq 29 (.tmp 11) (.const .nilIface) x1.2.1 AV.nilIface) fun (x3:Bool)=>(bif x3 then(lA (f234 N [65,116,111,105] a0 0 0 x1.2.1 h2) fun (x4:AV) h5=>some ((x1.1,x4,()),h5))else some ((x1.1,AV.nilIface,()),h2))))
def oBa:Ann:=.n
theorem kB3 (N:Nat):gD Tryz.prog 220 [zM2] (.tup [zO2,zP2]) (fun x h=>f220 N x.1 h):=vD (bA (tAf N) (bA (jB3 N) kA)) N oBa Tryz.f220
def f208 (N:Nat) (a0:zJ2) (h:Heap):Option (zR×Heap):=let h1:=h.push (.row yZI .own);(lA (f92 N a0 [116,114,117,101] h1) fun (x2:Bool) h3=>(bif x2 then(rA (h3.store (h.next,0) [(.int .i64 2),(.int .i64 1),(.str []),(.slice none 0 0 0)]) fun h4=>(iA (.val zE) (h4.cells (h.next,0) 4) fun (x5:zR)=>some ((x5.1,x5.2.1,x5.2.2.1,x5.2.2.2.1,()),h4)))else(lA (f92 N a0 [102,97,108,115,101] h3) fun (x6:Bool) h7=>(bif x6 then(rA (h7.store (h.next,0) [(.int .i64 2),(.int .i64 0),(.str []),(.slice none 0 0 0)]) fun h8=>(iA (.val zE) (h8.cells (h.next,0) 4) fun (x9:zR)=>some ((x9.1,x9.2.1,x9.2.2.1,x9.2.2.2.1,()),h8)))else(lA (f56 N a0 h7) fun (x10:zP) h11=>let x12:=kB x10.1 4;(bif x12 then(lA (f94 N a0 4 h11) fun (x13:zQ2) h14=>(lA (f220 N x13 h14) fun (x15:zG1) h16=>(rA (h16.store (h.next,0) [(.int .i64 1),(.int .i64 x15.1),(.str []),(.slice none 0 0 0)]) fun h17=>(iA (.val zE) (h17.cells (h.next,0) 4) fun (x18:zR)=>some ((x18.1,x18.2.1,x18.2.2.1,x18.2.2.2.1,()),h17)))))else(lA (f221 N a0 h11) fun (x19:zU) h20=>(rA (h20.store (h.next,0) [(.int .i64 3),(.int .i64 0),(.str x19.1),(.slice x19.2.1.a x19.2.1.len x19.2.1.cap x19.2.1.sz)]) fun h21=>(iA (.val zE) (h21.cells (h.next,0) 4) fun (x22:zR)=>some ((x22.1,x22.2.1,x22.2.2.1,x22.2.2.2.1,()),h21))))))))))
def pBa:Ann:=.n
theorem oA8 (N:Nat):gD Tryz.prog 208 [zK2] (.val zE) (fun x h=>f208 N x.1 h):=vD (bA (gO N) (bA (dY N) (bA (fO N) (bA (bAg N) (bA (kB3 N) kA))))) N pBa Tryz.f208
def f231 (N:Nat) (a0:zJ2) (a1:zQ2) (h:Heap):Option (Bool×Heap):=(rA a0 fun q1=>(iA (.val zP2) (h.cell (q1.1,q1.2+3)) fun (x2:AV)=>(iA (.val zN2) (cK E .neq 29 (.tmp 9) (.const .nilIface) x2 AV.nilIface) fun (x3:Bool)=>(bif x3 then some (false,h)else(lA (f56 N a0 h) fun (x4:zP) h5=>let x6:=!kB x4.1 1;(bif x6 then some (false,h5)else(rA a0 fun q7=>(iA (.val zL2) (h5.cell (q7.1,q7.2+0)) fun (x8:SL)=>(rA a0 fun q9=>(iA (.val zO2) (h5.cell (q9.1,q9.2+1)) fun (x10:Int)=>let x11:=dB .i64 (x10+1);(ixK x8.a x8.len x11 3 fun q12=>(iA (.val zF) (h5.cells q12 3) fun (x13:zP)=>let h14:=h5.push (.row yZE .own);(rA (h14.store (h5.next,0) (yRI x13)) fun h15=>(uD (bif (aB (h14.cells q12 3) (.agg (yRI x13))) then (bif (aB (h5.cells q12 3) (.agg (yRI x13))) then (bif (aB (h14.cell (q9.1,q9.2+1)) (.int .i64 x10)) then (bif (aB (h5.cell (q9.1,q9.2+1)) (.int .i64 x10)) then (bif (aB (h14.cell (q7.1,q7.2+0)) (.slice x8.a x8.len x8.cap x8.sz)) then (bif (aB (h5.cell (q7.1,q7.2+0)) (.slice x8.a x8.len x8.cap x8.sz)) then true else false) else false) else false) else false) else false) else false) ((iA (.val zO2) (h15.cell ((h5.next,0).1,(h5.next,0).2+0)) fun (x16:Int)=>let x17:=kB x16 5;(bif x17 then(iA (.val zM2) (h15.cell ((h5.next,0).1,(h5.next,0).2+1)) fun (x18:zQ2)=>let x19:=mB x18 a1;some (x19,h15))else some (false,h15))))))))))))))))))
def qBa:Ann:=.n
theorem rAr (N:Nat):gD Tryz.prog 231 [zK2,zM2] (.val zN2) (fun x h=>f231 N x.1 x.2.1 h):=vD (bA (fO N) kA) N qBa Tryz.f231
def f222 (N:Nat) (a0:zJ2) (h:Heap):Option (Bool×Heap):=(lA (f231 N a0 [58,58] h) fun (x1:Bool) h2=>(bif x1 then some (true,h2)else(lA (f231 N a0 [40] h2) fun (x3:Bool) h4=>some (x3,h4))))
def rBa:Ann:=.n
theorem tAr (N:Nat):gD Tryz.prog 222 [zK2] (.val zN2) (fun x h=>f222 N x.1 h):=vD (bA (rAr N) kA) N rBa Tryz.f222
def f256 (N:Nat) (a0 a1:zJ2) (h:Heap):Option ((Unit)×Heap):=(rA a0 fun q1=>(iA (.val zK2) (h.cell q1) fun (x2:zJ2)=>(rA a0 fun q3=>(iA (.val zK2) (h.cell q3) fun (x4:zJ2)=>(rA x4 fun q5=>(iA (.val zL2) (h.cell (q5.1,q5.2+13)) fun (x6:SL)=>(rA a1 fun q7=>(iA (.val zK2) (h.cell q7) fun (x8:zJ2)=>(lA (f94 N x8 1 h) fun (x9:zQ2) h10=>let h11:=h10.push (.row [(.str x9)] .own);(aE (.val zL2) (iB E 38 38 (.slice x6.a x6.len x6.cap x6.sz) (.slice (some (h10.next,0)) 1 1 1) h11) fun (x12:SL) h13=>(rA x2 fun q14=>(rA (h13.store (q14.1,q14.2+13) [(.slice x12.a x12.len x12.cap x12.sz)]) fun h15=>(uD (bif (fF a1 fun q=>aB (h.cell q) (.ptr x8)) then (bif (aB (h11.cell (q5.1,q5.2+13)) (.slice x6.a x6.len x6.cap x6.sz)) then (bif (aB (h10.cell (q5.1,q5.2+13)) (.slice x6.a x6.len x6.cap x6.sz)) then (bif (aB (h.cell (q5.1,q5.2+13)) (.slice x6.a x6.len x6.cap x6.sz)) then (bif (fF a0 fun q=>aB (h11.cell q) (.ptr x4)) then (bif (fF a0 fun q=>aB (h10.cell q) (.ptr x4)) then (bif (fF a0 fun q=>aB (h.cell q) (.ptr x4)) then (bif (fF a0 fun q=>aB (h13.cell q) (.ptr x2)) then (bif (fF a0 fun q=>aB (h11.cell q) (.ptr x2)) then (bif (fF a0 fun q=>aB (h10.cell q) (.ptr x2)) then (bif (fF a0 fun q=>aB (h.cell q) (.ptr x2)) then true else false) else false) else false) else false) else false) else false) else false) else false) else false) else false) else false) ((rA a1 fun q16=>(iA (.val zK2) (h15.cell q16) fun (x17:zJ2)=>
 (lA (f149 N x17 [58] h15) fun (x18:(Unit)) h19=>(rA a0 fun q20=>(iA (.val zK2) (h19.cell q20) fun (x21:zJ2)=>(rA a0 fun q22=>(iA (.val zK2) (h19.cell q22) fun (x23:zJ2)=>(rA x23 fun q24=>(iA (.val zL2) (h19.cell (q24.1,q24.2+14)) fun (x25:SL)=>(rA a1 fun q26=>(iA (.val zK2) (h19.cell q26) fun (x27:zJ2)=>(lA (f208 N x27 h19) fun (x28:zR) h29=>let h30:=h29.push (.row (yRE x28) .own);(aE (.val zL2) (iB E 102 102 (.slice x25.a x25.len x25.cap x25.sz) (.slice (some (h29.next,0)) 1 1 4) h30) fun (x31:SL) h32=>(rA x21 fun q33=>(rA (h32.store (q33.1,q33.2+14) [(.slice x31.a x31.len x31.cap x31.sz)]) fun h34=>(uD (bif (fF a1 fun q=>aB (h19.cell q) (.ptr x27)) then (bif (aB (h30.cell (q24.1,q24.2+14)) (.slice x25.a x25.len x25.cap x25.sz)) then (bif (aB (h29.cell (q24.1,q24.2+14)) (.slice x25.a x25.len x25.cap x25.sz)) then (bif (aB (h19.cell (q24.1,q24.2+14)) (.slice x25.a x25.len x25.cap x25.sz)) then (bif (fF a0 fun q=>aB (h30.cell q) (.ptr x23)) then (bif (fF a0 fun q=>aB (h29.cell q) (.ptr x23)) then (bif (fF a0 fun q=>aB (h19.cell q) (.ptr x23)) then (bif (fF a0 fun q=>aB (h32.cell q) (.ptr x21)) then (bif (fF a0 fun q=>aB (h30.cell q) (.ptr x21)) then (bif (fF a0 fun q=>aB (h29.cell q) (.ptr x21)) then (bif (fF a0 fun q=>aB (h19.cell q) (.ptr x21)) then true else false) else false) else false) else false) else false) else false) else false) else false) else false) else false) else false) (
 some ((()),h34))))))))))))))))))))))))))))))))
def tBa:Ann:=.n
theorem lB3 (N:Nat):gD Tryz.prog 256 [zK2,zK2] (.tup []) (fun x h=>f256 N x.1 x.2.1 h):=vD (bA (gO N) (bA (oA8 N) (bA (rJ N) kA))) N tBa Tryz.f256
def nM (N:Nat) (go:zJ2→zQ2→zO→Int→Heap→Option (Out×(Unit)×Heap)) (v0:zJ2) (v1:zQ2) (v2:zO) (v6:Int) (h:Heap):Option (Out×(Unit)×Heap):=(lA (f188 N v0 v6 h) fun (x1:Bool) h2=>(bif x1 then(lA (f256 N v2.1 v2.2.1 h2) fun (x3:(Unit)) h4=>(lA (f93 N v0 v1 h4) fun (x5:Bool) h6=>let x7:=!x5;(bif x7 then some (Out.ret,(()),h6)else let x8:=dB .i64 (v6+1);go v0 v1 (v2.1,v2.2.1,()) x8 h6)))else some ((Out.exit 0),(()),h2)))
def oM (N M:Nat) (v0:zJ2) (v1:zQ2) (v2:zO) (v6:Int) (h:Heap):Option (Out×(Unit)×Heap):=iter (fun go s h=>nM N (fun v0 v1 v2 v6 h=>go (v0,v1,v2,v6,()) h) s.1 s.2.1 s.2.2.1 s.2.2.2.1 h) M (v0,v1,v2,v6,()) h
theorem gZ (N M v0 v1 v2 v6 h):oM N (M+1) v0 v1 v2 v6 h=nM N (oM N M) v0 v1 v2 v6 h:=rfl
def uZ (N:Nat) (a0:zJ2) (a1:zQ2) (a2:zO) (h:Heap):Option ((Unit)×Heap):=(fE (oM N N a0 a1 (a2.1,a2.2.1,()) 0 h) fun o9 (j10:(Unit)) h11=>(bif gE o9 (.exit 0) then some ((()),h11)else some ((()),h11)))
def qAm:Ann:=(.two .n (.two (.loop [(0,zK2),(1,zM2),(2,(.clo 256 [.ptr,.ptr])),(6,zO2)] [(.exit 0),.ret] [] .n) .n))
theorem cAg (N:Nat):gD Tryz.prog 147 [zK2,zM2,(.clo 256 [.ptr,.ptr])] (.tup []) (fun x h=>uZ N x.1 x.2.1 x.2.2.1 h):=vD (bA (eH N) (bA (lB3 N) (bA (iO N) kA))) N qAm Tryz.f147
def f244 (N:Nat) (a0 a1:zJ2) (h:Heap):Option ((Unit)×Heap):=let h1:=h.push (.row [(.ptr a0)] .own);let h2:=h1.push (.row [(.ptr a1)] .own);(iA (.val zK2) (h2.cell (h.next,0)) fun (x3:zJ2)=>(lA (f149 N x3 [123] h2) fun (x4:(Unit)) h5=>(iA (.val zK2) (h5.cell (h.next,0)) fun (x6:zJ2)=>(lA (f93 N x6 [125] h5) fun (x7:Bool) h8=>let x9:=!x7;(bif x9 then(iA (.val zK2) (h8.cell (h.next,0)) fun (x10:zJ2)=>(lA (uZ N x10 [44] ((some (h1.next,0)),(some (h.next,0)),()) h8) fun (x11:(Unit)) h12=>(iA (.val zK2) (h12.cell (h.next,0)) fun (x13:zJ2)=>(lA (f149 N x13 [125] h12) fun (x14:(Unit)) h15=>some ((()),h15)))))else some ((()),h8))))))
def uBa:Ann:=.n
theorem mB3 (N:Nat):gD Tryz.prog 244 [zK2,zK2] (.tup []) (fun x h=>f244 N x.1 x.2.1 h):=vD (bA (eH N) (bA (rJ N) (yB (sel:=fun a=>pJ 2 256 a) (cAg N) kA))) N uBa Tryz.f244
def f235 (N:Nat) (a0 a1:zJ2) (h:Heap):Option ((Unit)×Heap):=(rA a0 fun q1=>(iA (.val zK2) (h.cell q1) fun (x2:zJ2)=>(rA a0 fun q3=>(iA (.val zK2) (h.cell q3) fun (x4:zJ2)=>(rA x4 fun q5=>(iA (.val zL2) (h.cell (q5.1,q5.2+14)) fun (x6:SL)=>(rA a1 fun q7=>(iA (.val zK2) (h.cell q7) fun (x8:zJ2)=>(lA (f208 N x8 h) fun (x9:zR) h10=>let h11:=h10.push (.row (yRE x9) .own);(aE (.val zL2) (iB E 102 102 (.slice x6.a x6.len x6.cap x6.sz) (.slice (some (h10.next,0)) 1 1 4) h11) fun (x12:SL) h13=>(rA x2 fun q14=>(rA (h13.store (q14.1,q14.2+14) [(.slice x12.a x12.len x12.cap x12.sz)]) fun h15=>(uD (bif (fF a1 fun q=>aB (h.cell q) (.ptr x8)) then (bif (aB (h11.cell (q5.1,q5.2+14)) (.slice x6.a x6.len x6.cap x6.sz)) then (bif (aB (h10.cell (q5.1,q5.2+14)) (.slice x6.a x6.len x6.cap x6.sz)) then (bif (aB (h.cell (q5.1,q5.2+14)) (.slice x6.a x6.len x6.cap x6.sz)) then (bif (fF a0 fun q=>aB (h11.cell q) (.ptr x4)) then (bif (fF a0 fun q=>aB (h10.cell q) (.ptr x4)) then (bif (fF a0 fun q=>aB (h.cell q) (.ptr x4)) then (bif (fF a0 fun q=>aB (h13.cell q) (.ptr x2)) then (bif (fF a0 fun q=>aB (h11.cell q) (.ptr x2)) then (bif (fF a0 fun q=>aB (h10.cell q) (.ptr x2)) then (bif (fF a0 fun q=>aB (h.cell q) (.ptr x2)) then true else false) else false) else false) else false) else false) else false) else false) else false) else false) else false) else false) ( some ((()),h15)))))))))))))))
def vBa:Ann:=.n
theorem nB3 (N:Nat):gD Tryz.prog 235 [zK2,zK2] (.tup []) (fun x h=>f235 N x.1 x.2.1 h):=vD (bA (oA8 N) kA) N vBa Tryz.f235
def pM (N:Nat) (go:zJ2→zQ2→zO→Int→Heap→Option (Out×(Unit)×Heap)) (v0:zJ2) (v1:zQ2) (v2:zO) (v6:Int) (h:Heap):Option (Out×(Unit)×Heap):=(lA (f188 N v0 v6 h) fun (x1:Bool) h2=>(bif x1 then(lA (f235 N v2.1 v2.2.1 h2) fun (x3:(Unit)) h4=>(lA (f93 N v0 v1 h4) fun (x5:Bool) h6=>let x7:=!x5;(bif x7 then some (Out.ret,(()),h6)else let x8:=dB .i64 (v6+1);go v0 v1 (v2.1,v2.2.1,()) x8 h6)))else some ((Out.exit 0),(()),h2)))
def qM (N M:Nat) (v0:zJ2) (v1:zQ2) (v2:zO) (v6:Int) (h:Heap):Option (Out×(Unit)×Heap):=iter (fun go s h=>pM N (fun v0 v1 v2 v6 h=>go (v0,v1,v2,v6,()) h) s.1 s.2.1 s.2.2.1 s.2.2.2.1 h) M (v0,v1,v2,v6,()) h
theorem iZ (N M v0 v1 v2 v6 h):qM N (M+1) v0 v1 v2 v6 h=pM N (qM N M) v0 v1 v2 v6 h:=rfl
def vZ (N:Nat) (a0:zJ2) (a1:zQ2) (a2:zO) (h:Heap):Option ((Unit)×Heap):=(fE (qM N N a0 a1 (a2.1,a2.2.1,()) 0 h) fun o9 (j10:(Unit)) h11=>(bif gE o9 (.exit 0) then some ((()),h11)else some ((()),h11)))
def rAm:Ann:=(.two .n (.two (.loop [(0,zK2),(1,zM2),(2,(.clo 235 [.ptr,.ptr])),(6,zO2)] [(.exit 0),.ret] [] .n) .n))
theorem dAg (N:Nat):gD Tryz.prog 147 [zK2,zM2,(.clo 235 [.ptr,.ptr])] (.tup []) (fun x h=>vZ N x.1 x.2.1 x.2.2.1 h):=vD (bA (eH N) (bA (nB3 N) (bA (iO N) kA))) N rAm Tryz.f147
def f223 (N:Nat) (a0 a1:zJ2) (h:Heap):Option ((Unit)×Heap):=let h1:=h.push (.row [(.ptr a0)] .own);let h2:=h1.push (.row [(.ptr a1)] .own);(iA (.val zK2) (h2.cell (h.next,0)) fun (x3:zJ2)=>(lA (f149 N x3 [40] h2) fun (x4:(Unit)) h5=>(iA (.val zK2) (h5.cell (h.next,0)) fun (x6:zJ2)=>(lA (f93 N x6 [41] h5) fun (x7:Bool) h8=>let x9:=!x7;(bif x9 then(iA (.val zK2) (h8.cell (h.next,0)) fun (x10:zJ2)=>(lA (vZ N x10 [44] ((some (h1.next,0)),(some (h.next,0)),()) h8) fun (x11:(Unit)) h12=>(iA (.val zK2) (h12.cell (h.next,0)) fun (x13:zJ2)=>(lA (f149 N x13 [41] h12) fun (x14:(Unit)) h15=>some ((()),h15)))))else some ((()),h8))))))
def wBa:Ann:=.n
theorem uAr (N:Nat):gD Tryz.prog 223 [zK2,zK2] (.tup []) (fun x h=>f223 N x.1 x.2.1 h):=vD (bA (eH N) (bA (rJ N) (yB (sel:=fun a=>pJ 2 235 a) (dAg N) kA))) N wBa Tryz.f223
def f232 (N:Nat) (a0:zJ2) (h:Heap):Option (zN×Heap):=let h1:=h.push (.row yZB .own);(lA (f95 N a0 h1) fun (x2:zQ2) h3=>let h4:=h3.push (.row yZB .own);(rA (h4.store (h3.next,0) [(.int .i64 6),(.int .i64 0),(.int .i64 0),(.str []),(.slice none 0 0 0),(.int .i64 0),(.int .i64 0),(.str []),(.slice none 0 0 0),(.int .i64 0),(.str []),(.slice none 0 0 0),(.str x2),(.slice none 0 0 0),(.slice none 0 0 0)]) fun h5=>(lA (f146 N a0 5 [123] h5) fun (x6:Bool) h7=>(bif x6 then(rA (h7.store ((h3.next,0).1,(h3.next,0).2+0) [(.int .i64 7)]) fun h8=>(lA (f244 N a0 (some (h3.next,0)) h8) fun (x9:(Unit)) h10=>(iA (.val zB) (h10.cells (h3.next,0) 15) fun (x11:zN)=>(rA (h10.store (h.next,0) (yRB x11)) fun h12=>(iA (.val zB) (h12.cells (h.next,0) 15) fun (x13:zN)=>some ((x13.1,x13.2.1,x13.2.2.1,x13.2.2.2.1,x13.2.2.2.2.1,x13.2.2.2.2.2.1,x13.2.2.2.2.2.2.1,x13.2.2.2.2.2.2.2.1,x13.2.2.2.2.2.2.2.2.1,x13.2.2.2.2.2.2.2.2.2.1,x13.2.2.2.2.2.2.2.2.2.2.1,x13.2.2.2.2.2.2.2.2.2.2.2.1,x13.2.2.2.2.2.2.2.2.2.2.2.2.1,x13.2.2.2.2.2.2.2.2.2.2.2.2.2.1,x13.2.2.2.2.2.2.2.2.2.2.2.2.2.2.1,()),h12))))))else(lA (f223 N a0 (some (h3.next,0)) h7) fun (x14:(Unit)) h15=>(iA (.val zB) (h15.cells (h3.next,0) 15) fun (x16:zN)=>(rA (h15.store (h.next,0) (yRB x16)) fun h17=>(iA (.val zB) (h17.cells (h.next,0) 15) fun (x18:zN)=>some ((x18.1,x18.2.1,x18.2.2.1,x18.2.2.2.1,x18.2.2.2.2.1,x18.2.2.2.2.2.1,x18.2.2.2.2.2.2.1,x18.2.2.2.2.2.2.2.1,x18.2.2.2.2.2.2.2.2.1,x18.2.2.2.2.2.2.2.2.2.1,x18.2.2.2.2.2.2.2.2.2.2.1,x18.2.2.2.2.2.2.2.2.2.2.2.1,x18.2.2.2.2.2.2.2.2.2.2.2.2.1,x18.2.2.2.2.2.2.2.2.2.2.2.2.2.1,x18.2.2.2.2.2.2.2.2.2.2.2.2.2.2.1,()),h17)))))))))
def yBa:Ann:=.n
theorem oB3 (N:Nat):gD Tryz.prog 232 [zK2] (.val zB) (fun x h=>f232 N x.1 h):=vD (bA (nAq N) (bA (mB3 N) (bA (uAr N) (bA (fA2 N) kA)))) N yBa Tryz.f232
def pU (N:Nat) (go:zJ2→zJ2→zJ2→SL→Int→Int→Heap→Option (Out×zO×Heap)) (v0 v2 v4:zJ2) (v34:SL) (v35 v36:Int) (h:Heap):Option (Out×zO×Heap):=let x36:=wB v36 v35;(bif x36 then(ixK v34.a v34.len v36 1 fun q37=>(iA (.val zM2) (h.cell q37) fun (x38:zQ2)=>(lA (f93 N v0 x38 h) fun (x39:Bool) h40=>(bif x39 then let x41:=dB .i64 (1+v36);(lA (f208 N v0 h40) fun (x42:zR) h43=>(rA v4 fun q44=>(rA (h43.store (q44.1,q44.2+0) [(.int .i64 5)]) fun h45=>(rA v4 fun q46=>(rA (h45.store (q46.1,q46.2+9) [(.int .i64 x41)]) fun h47=>(rA v4 fun q48=>(rA (h47.store (q48.1,q48.2+5) (yRE x42)) fun h49=>some ((Out.exit 1),(v2,v4,()),h49))))))))else let x50:=dB .i64 (v36+1);go v0 v2 v4 v34 v35 x50 h40))))else some ((Out.exit 1),(v2,v4,()),h))
def pA8 (N M:Nat) (v0 v2 v4:zJ2) (v34:SL) (v35 v36:Int) (h:Heap):Option (Out×zO×Heap):=iter (fun go s h=>pU N (fun v0 v2 v4 v34 v35 v36 h=>go (v0,v2,v4,v34,v35,v36,()) h) s.1 s.2.1 s.2.2.1 s.2.2.2.1 s.2.2.2.2.1 s.2.2.2.2.2.1 h) M (v0,v2,v4,v34,v35,v36,()) h
theorem kY (N M v0 v2 v4 v34 v35 v36 h):pA8 N (M+1) v0 v2 v4 v34 v35 v36 h=pU N (pA8 N M) v0 v2 v4 v34 v35 v36 h:=rfl
def f219 (N:Nat) (a0:zJ2) (h:Heap):Option (zN×Heap):=let h1:=h.push (.row yZB .own);(rA (α:=Sum (zO×Heap) (Sum ((zJ2×Unit)×Heap) (Empty))) ((lA (f93 N a0 [38] h1) fun (x2:Bool) h3=>(bif x2 then(lA (α:=zY1) ((lA (f92 N a0 [109,117,116] h3) fun (x4:Bool) h5=>(bif x4 then some ((a0,(some (h.next,0)),3,()),h5)else some ((a0,(some (h.next,0)),2,()),h5)))) fun (j6:zY1) h7=>(lA (f221 N j6.1 h7) fun (x8:zU) h9=>(rA j6.2.1 fun q11=>(rA (h9.store q11 [(.int .i64 j6.2.2.1),(.int .i64 0),(.int .i64 0),(.str []),(.slice none 0 0 0),(.int .i64 0),(.int .i64 0),(.str []),(.slice none 0 0 0),(.int .i64 0),(.str x8.1),(.slice x8.2.1.a x8.2.1.len x8.2.1.cap x8.2.1.sz),(.str []),(.slice none 0 0 0),(.slice none 0 0 0)]) fun h10=>some (Sum.inr (Sum.inl ((j6.2.1,()),h10)))))))else(lA (f93 N a0 [33] h3) fun (x12:Bool) h13=>(bif x12 then(lA (f208 N a0 h13) fun (x14:zR) h15=>(rA (h15.store (h.next,0) [(.int .i64 4),(.int .i64 x14.1),(.int .i64 x14.2.1),(.str x14.2.2.1),(.slice x14.2.2.2.1.a x14.2.2.2.1.len x14.2.2.2.1.cap x14.2.2.2.1.sz),(.int .i64 0),(.int .i64 0),(.str []),(.slice none 0 0 0),(.int .i64 0),(.str []),(.slice none 0 0 0),(.str []),(.slice none 0 0 0),(.slice none 0 0 0)]) fun h16=>some (Sum.inr (Sum.inl (((some (h.next,0)),()),h16)))))else(lA (α:=zW1) ((lA (f222 N a0 h13) fun (x17:Bool) h18=>(bif x17 then some ((a0,(some (h.next,0)),true,()),h18)else(lA (f231 N a0 [123] h18) fun (x19:Bool) h20=>some ((a0,(some (h.next,0)),x19,()),h20))))) fun (j21:zW1) h22=>
 (bif j21.2.2.1 then(lA (f232 N j21.1 h22) fun (x23:zN) h24=>(rA j21.2.1 fun q26=>(rA (h24.store q26 (yRB x23)) fun h25=>some (Sum.inr (Sum.inl ((j21.2.1,()),h25))))))else some (Sum.inl ((j21.1,j21.2.1,()),h22))))))))) fun j27=>(gF j27 (fun (j28:zO) h29=>(lA (f208 N j28.1 h29) fun (x31:zR) h32=>let h33:=h32.push (.row yZB .own);(rA (h33.store (h32.next,0) [(.int .i64 1),(.int .i64 x31.1),(.int .i64 x31.2.1),(.str x31.2.2.1),(.slice x31.2.2.2.1.a x31.2.2.2.1.len x31.2.2.2.1.cap x31.2.2.2.1.sz),(.int .i64 0),(.int .i64 0),(.str []),(.slice none 0 0 0),(.int .i64 0),(.str []),(.slice none 0 0 0),(.str []),(.slice none 0 0 0),(.slice none 0 0 0)]) fun h34=>let h35:=h34.push (.row [(.str [43]),(.str [45]),(.str [60]),(.str [61,61])] .own);(fE (pA8 N N j28.1 j28.2.1 (some (h32.next,0)) ⟨(some (h34.next,0)),4,4,1⟩ (Int.ofNat 4) 0 h35) fun _ (j52:zO) h53=>(rA j52.2.1 fun q54=>(iA (.val zB) (h53.cells q54 15) fun (x55:zN)=>(rA j52.1 fun q57=>(rA (h53.store q57 (yRB x55)) fun h56=>(rA j52.1 fun q58=>(iA (.val zB) (h56.cells q58 15) fun (x59:zN)=>some ((x59.1,x59.2.1,x59.2.2.1,x59.2.2.2.1,x59.2.2.2.2.1,x59.2.2.2.2.2.1,x59.2.2.2.2.2.2.1,x59.2.2.2.2.2.2.2.1,x59.2.2.2.2.2.2.2.2.1,x59.2.2.2.2.2.2.2.2.2.1,x59.2.2.2.2.2.2.2.2.2.2.1,x59.2.2.2.2.2.2.2.2.2.2.2.1,x59.2.2.2.2.2.2.2.2.2.2.2.2.1,x59.2.2.2.2.2.2.2.2.2.2.2.2.2.1,x59.2.2.2.2.2.2.2.2.2.2.2.2.2.2.1,()),h56))))))))))) fun j30=>(gF j30 (fun (j60:(zJ2×Unit)) h61=>(rA j60.1 fun q63=>(iA (.val zB) (h61.cells q63 15) fun (x64:zN)=>
 some ((x64.1,x64.2.1,x64.2.2.1,x64.2.2.2.1,x64.2.2.2.2.1,x64.2.2.2.2.2.1,x64.2.2.2.2.2.2.1,x64.2.2.2.2.2.2.2.1,x64.2.2.2.2.2.2.2.2.1,x64.2.2.2.2.2.2.2.2.2.1,x64.2.2.2.2.2.2.2.2.2.2.1,x64.2.2.2.2.2.2.2.2.2.2.2.1,x64.2.2.2.2.2.2.2.2.2.2.2.2.1,x64.2.2.2.2.2.2.2.2.2.2.2.2.2.1,x64.2.2.2.2.2.2.2.2.2.2.2.2.2.2.1,()),h61)))) fun _=>none)))
def aBb:Ann:=(.two .n (.two (.joinO [(.norm,[(0,zK2),(2,zK2)]),(.ret,[(2,zK2)])] (.two (.two .n (.two (.two .n (.two (.join [(0,zK2),(2,zK2),(3,zO2)] .n) .n)) (.two .n (.two .n (.two (.join [(0,zK2),(2,zK2),(22,zN2)] .n) .n))))) .n)) (.two .n (.two (.two .n (.two (.loop [(0,zK2),(2,zK2),(4,zK2),(34,zL2),(35,zO2),(36,zO2)] [(.exit 1)] [(2,zK2),(4,zK2)] .n) .n)) .n))))
theorem vAr (N:Nat):gD Tryz.prog 219 [zK2] (.val zB) (fun x h=>f219 N x.1 h):=vD (bA (eH N) (bA (dY N) (bA (oB3 N) (bA (rAr N) (bA (tAr N) (bA (bAg N) (bA (oA8 N) kA))))))) N aBb Tryz.f219
def f207 (N:Nat) (a0 a1:zJ2) (h:Heap):Option ((Unit)×Heap):=(lA (f92 N a0 [109,117,116] h) fun (x1:Bool) h2=>(rA a1 fun q3=>(rA (h2.store (q3.1,q3.2+0) [(.int .i64 1)]) fun h4=>(rA a1 fun q5=>(rA (h4.store (q5.1,q5.2+2) [(.bool x1)]) fun h6=>(lA (f154 N a0 h6) fun (x7:zV) h8=>let h9:=h8.push (.row yZF .own);(rA (h9.store (h8.next,0) (yRF x7)) fun h10=>(iA (.val zM2) (h10.cell ((h8.next,0).1,(h8.next,0).2+1)) fun (x11:zQ2)=>(iA (.val zC) (h10.cells ((h8.next,0).1,(h8.next,0).2+2) 4) fun (x12:zM)=>(rA a1 fun q13=>(rA (h10.store (q13.1,q13.2+3) [(.str x11)]) fun h14=>(rA a1 fun q15=>(rA (h14.store (q15.1,q15.2+4) (yRD x12)) fun h16=>(uD (bif (aB (h14.cells ((h8.next,0).1,(h8.next,0).2+2) 4) (.agg (yRD x12))) then (bif (aB (h10.cells ((h8.next,0).1,(h8.next,0).2+2) 4) (.agg (yRD x12))) then (bif (aB (h10.cell ((h8.next,0).1,(h8.next,0).2+1)) (.str x11)) then true else false) else false) else false) ((lA (f93 N a0 [61] h16) fun (x17:Bool) h18=>(rA a1 fun q19=>(rA (h18.store (q19.1,q19.2+8) [(.bool x17)]) fun h20=>(rA a1 fun q21=>(iA (.val zN2) (h20.cell (q21.1,q21.2+8)) fun (x22:Bool)=>(bif x22 then(lA (f219 N a0 h20) fun (x23:zN) h24=>(rA a1 fun q25=>(rA (h24.store (q25.1,q25.2+11) (yRB x23)) fun h26=>(lA (f149 N a0 [59] h26) fun (x27:(Unit)) h28=>some ((()),h28)))))else(lA (f149 N a0 [59] h20) fun (x29:(Unit)) h30=>some ((()),h30)))))))))))))))))))))))
def bBb:Ann:=.n
theorem pB3 (N:Nat):gD Tryz.prog 207 [zK2,zK2] (.tup []) (fun x h=>f207 N x.1 x.2.1 h):=vD (bA (eH N) (bA (dY N) (bA (vAr N) (bA (uAf N) (bA (rJ N) kA))))) N bBb Tryz.f207
def f209 (N:Nat) (a0 a1:zJ2) (h:Heap):Option ((Unit)×Heap):=(lA (f92 N a0 [98,114,101,97,107] h) fun (x1:Bool) h2=>(bif x1 then(rA a1 fun q3=>(rA (h2.store (q3.1,q3.2+0) [(.int .i64 8)]) fun h4=>some ((()),h4)))else(lA (f92 N a0 [99,111,110,116,105,110,117,101] h2) fun (x5:Bool) h6=>(bif x5 then(rA a1 fun q7=>(rA (h6.store (q7.1,q7.2+0) [(.int .i64 9)]) fun h8=>some ((()),h8)))else(lA (f92 N a0 [114,101,116,117,114,110] h6) fun (x9:Bool) h10=>(bif x9 then(rA a1 fun q11=>(rA (h10.store (q11.1,q11.2+0) [(.int .i64 10)]) fun h12=>(lA (f146 N a0 5 [59] h12) fun (x13:Bool) h14=>let x15:=!x13;(rA a1 fun q16=>(rA (h14.store (q16.1,q16.2+8) [(.bool x15)]) fun h17=>(rA a1 fun q18=>(iA (.val zN2) (h17.cell (q18.1,q18.2+8)) fun (x19:Bool)=>(bif x19 then(lA (f219 N a0 h17) fun (x20:zN) h21=>(rA a1 fun q22=>(rA (h21.store (q22.1,q22.2+11) (yRB x20)) fun h23=>some ((()),h23))))else some ((()),h17)))))))))else(lA (f92 N a0 [100,114,111,112] h10) fun (x24:Bool) h25=>(bif x24 then(lA (f221 N a0 h25) fun (x26:zU) h27=>(rA a1 fun q28=>(rA (h27.store (q28.1,q28.2+0) [(.int .i64 11)]) fun h29=>(rA a1 fun q30=>(rA (h29.store (q30.1,q30.2+9) (yRH x26)) fun h31=>some ((()),h31))))))else(lA (f222 N a0 h25) fun (x32:Bool) h33=>(bif x32 then(lA (f95 N a0 h33) fun (x34:zQ2) h35=>(rA a1 fun q36=>(rA (h35.store (q36.1,q36.2+0) [(.int .i64 3)]) fun h37=>(rA a1 fun q38=>(rA (h37.store (q38.1,q38.2+11) [(.int .i64 6),(.int .i64 0),(.int .i64 0),(.str []),(.slice none 0 0 0),(.int .i64 0),(.int .i64 0),(.str []),(.slice none 0 0 0),(.int .i64 0),(.str []),(.slice none 0 0 0),(.str x34),(.slice none 0 0 0),(.slice none 0 0 0)]) fun h39=>
 (rA a1 fun q40=>(lA (f223 N a0 (some (q40.1,q40.2+11)) h39) fun (x41:(Unit)) h42=>some ((()),h42))))))))else(lA (f221 N a0 h33) fun (x43:zU) h44=>(rA a1 fun q45=>(rA (h44.store (q45.1,q45.2+0) [(.int .i64 2)]) fun h46=>(rA a1 fun q47=>(rA (h46.store (q47.1,q47.2+9) (yRH x43)) fun h48=>(lA (f149 N a0 [61] h48) fun (x49:(Unit)) h50=>(lA (f219 N a0 h50) fun (x51:zN) h52=>(rA a1 fun q53=>(rA (h52.store (q53.1,q53.2+11) (yRB x51)) fun h54=>some ((()),h54))))))))))))))))))))
def cBb:Ann:=.n
theorem qB3 (N:Nat):gD Tryz.prog 209 [zK2,zK2] (.tup []) (fun x h=>f209 N x.1 x.2.1 h):=vD (bA (nAq N) (bA (dY N) (bA (uAr N) (bA (tAr N) (bA (bAg N) (bA (vAr N) (bA (rJ N) (bA (fA2 N) kA)))))))) N cBb Tryz.f209
def lO (N:Nat) (rec158:zJ2→Int→Heap→Option (SL×Heap)) (rec190:zJ2→Int→Heap→Option (zL×Heap)) (go:zJ2→Int→SL→SL→Heap→Option (Out×zE1×Heap)) (v0:zJ2) (v1:Int) (v4 v5:SL) (h:Heap):Option (Out×zE1×Heap):=(rA v0 fun q8=>(iA (.val zP2) (h.cell (q8.1,q8.2+3)) fun (x9:AV)=>(iA (.val zN2) (cK E .eql 29 (.tmp 15) (.const .nilIface) x9 AV.nilIface) fun (x10:Bool)=>(bif x10 then(lA (f93 N v0 [125] h) fun (x11:Bool) h12=>let x13:=!x11;(bif x13 then(lA (α:=zB2) ((rA v0 fun q14=>(iA (.val zO2) (h12.cell (q14.1,q14.2+2)) fun (x15:Int)=>let x16:=kB x15 2000;(bif x16 then(lA (f56 N v0 h12) fun (x17:zP) h18=>let x19:=!kB x17.1 0;some ((v0,v1,v4,v5,x19,()),h18))else some ((v0,v1,v4,v5,false,()),h12))))) fun (j20:zB2) h21=>(bif j20.2.2.2.2.1 then(lA (f57 N j20.1 5 h21) fun (x22:(Unit)) h23=>some (Out.ret,(⟨none,0,0,0⟩,j20.2.2.2.1,()),h23))else(rA j20.1 fun q24=>(iA (.val zO2) (h21.cell (q24.1,q24.2+2)) fun (x25:Int)=>let x26:=dB .i64 (x25+1);(rA j20.1 fun q27=>(rA (h21.store (q27.1,q27.2+2) [(.int .i64 x26)]) fun h28=>(lA (rec190 j20.1 j20.2.1 h28) fun (x29:zL) h30=>let h31:=h30.push (.row (yRA x29) .own);(aE (.val zL2) (iB E 42 42 (.slice j20.2.2.2.1.a j20.2.2.2.1.len j20.2.2.2.1.cap j20.2.2.2.1.sz) (.slice (some (h30.next,0)) 1 1 32) h31) fun (x32:SL) h33=>go j20.1 j20.2.1 j20.2.2.1 x32 h33))))))))else some ((Out.exit 0),(v4,v5,()),h12)))else some ((Out.exit 0),(v4,v5,()),h)))))
def pA2 (N:Nat) (rec158:zJ2→Int→Heap→Option (SL×Heap)) (rec190:zJ2→Int→Heap→Option (zL×Heap)) (M:Nat) (v0:zJ2) (v1:Int) (v4 v5:SL) (h:Heap):Option (Out×zE1×Heap):=iter (fun go s h=>lO N rec158 rec190 (fun v0 v1 v4 v5 h=>go (v0,v1,v4,v5,()) h) s.1 s.2.1 s.2.2.1 s.2.2.2.1 h) M (v0,v1,v4,v5,()) h
theorem mO (N rec158 rec190 M v0 v1 v4 v5 h):pA2 N rec158 rec190 (M+1) v0 v1 v4 v5 h=lO N rec158 rec190 (pA2 N rec158 rec190 M) v0 v1 v4 v5 h:=rfl
def qAj (N:Nat) (rec158:zJ2→Int→Heap→Option (SL×Heap)) (rec190:zJ2→Int→Heap→Option (zL×Heap)) (a0:zJ2) (a1:Int) (h:Heap):Option (SL×Heap):=(lA (α:=zG2) ( let x1:=wB 64 a1;(bif x1 then(lA (f57 N a0 6 h) fun (x2:(Unit)) h3=>some ((a0,a1,⟨none,0,0,0⟩,()),h3))else some ((a0,a1,⟨none,0,0,0⟩,()),h))) fun (j4:zG2) h5=>(lA (f149 N j4.1 [123] h5) fun (x6:(Unit)) h7=>(fE (pA2 N rec158 rec190 N j4.1 j4.2.1 j4.2.2.1 ⟨none,0,0,0⟩ h7) fun o34 (j35:zE1) h36=>(bif gE o34 (.exit 0) then some (j35.2.1,h36)else some (j35.1,h36)))))
def dBb:Ann:=(.two .n (.two (.join [(0,zK2),(1,zO2),(4,zL2)] .n) (.two .n (.two .n (.two (.two (.loop [(0,zK2),(1,zO2),(4,zL2),(5,zL2)] [(.exit 0),.ret] [(4,zL2),(5,zL2)] (.two .n (.two (.two (.two (.join [(0,zK2),(1,zO2),(4,zL2),(5,zL2),(32,zN2)] .n) .n) .n) .n))) .n) .n)))))
def rAj (N:Nat) (rec158:zJ2→Int→Heap→Option (SL×Heap)) (rec190:zJ2→Int→Heap→Option (zL×Heap)) (a0:zJ2) (a1:Int) (h:Heap):Option (zL×Heap):=let h1:=h.push (.row yZA .own);(lA (f56 N a0 h1) fun (x2:zP) h3=>let h4:=h3.push (.row yZE .own);(rA (h4.store (h3.next,0) (yRI x2)) fun h5=>(iA (.val zO2) (h5.cell ((h3.next,0).1,(h3.next,0).2+2)) fun (x6:Int)=>let h7:=h5.push (.row yZA .own);(rA (h7.store (h5.next,0) [(.int .i64 0),(.int .i64 x6),(.bool false),(.str []),(.int .i64 0),(.str []),(.slice none 0 0 0),(.slice none 0 0 0),(.bool false),(.str []),(.slice none 0 0 0),(.int .i64 0),(.int .i64 0),(.int .i64 0),(.str []),(.slice none 0 0 0),(.int .i64 0),(.int .i64 0),(.str []),(.slice none 0 0 0),(.int .i64 0),(.str []),(.slice none 0 0 0),(.str []),(.slice none 0 0 0),(.slice none 0 0 0),(.int .i64 0),(.int .i64 0),(.str []),(.slice none 0 0 0),(.slice none 0 0 0),(.slice none 0 0 0)]) fun h8=>(lA (α:=zO) ((lA (f92 N a0 [108,101,116] h8) fun (x9:Bool) h10=>(bif x9 then(lA (f207 N a0 (some (h5.next,0)) h10) fun (x11:(Unit)) h12=>some (((some (h.next,0)),(some (h5.next,0)),()),h12))else(lA (f92 N a0 [105,102] h10) fun (x13:Bool) h14=>(bif x13 then(lA (f208 N a0 h14) fun (x15:zR) h16=>(rA (h16.store ((h5.next,0).1,(h5.next,0).2+0) [(.int .i64 4)]) fun h17=>(rA (h17.store ((h5.next,0).1,(h5.next,0).2+26) (yRE x15)) fun h18=>let x19:=dB .i64 (a1+1);(lA (rec158 a0 x19 h18) fun (x20:SL) h21=>(rA (h21.store ((h5.next,0).1,(h5.next,0).2+30) [(.slice x20.a x20.len x20.cap x20.sz)]) fun h22=>
 (lA (f92 N a0 [101,108,115,101] h22) fun (x23:Bool) h24=>(rA (h24.store ((h5.next,0).1,(h5.next,0).2+8) [(.bool x23)]) fun h25=>(iA (.val zN2) (h25.cell ((h5.next,0).1,(h5.next,0).2+8)) fun (x26:Bool)=>(bif x26 then let x27:=dB .i64 (a1+1);(lA (rec158 a0 x27 h25) fun (x28:SL) h29=>(rA (h29.store ((h5.next,0).1,(h5.next,0).2+31) [(.slice x28.a x28.len x28.cap x28.sz)]) fun h30=>some (((some (h.next,0)),(some (h5.next,0)),()),h30)))else some (((some (h.next,0)),(some (h5.next,0)),()),h25))))))))))else(lA (f92 N a0 [119,104,105,108,101] h14) fun (x31:Bool) h32=>(bif x31 then(lA (f208 N a0 h32) fun (x33:zR) h34=>(rA (h34.store ((h5.next,0).1,(h5.next,0).2+0) [(.int .i64 5)]) fun h35=>(rA (h35.store ((h5.next,0).1,(h5.next,0).2+26) (yRE x33)) fun h36=>let x37:=dB .i64 (a1+1);(lA (rec158 a0 x37 h36) fun (x38:SL) h39=>(rA (h39.store ((h5.next,0).1,(h5.next,0).2+30) [(.slice x38.a x38.len x38.cap x38.sz)]) fun h40=>some (((some (h.next,0)),(some (h5.next,0)),()),h40))))))else(lA (f92 N a0 [108,111,111,112] h32) fun (x41:Bool) h42=>(bif x41 then let x43:=dB .i64 (a1+1);(lA (rec158 a0 x43 h42) fun (x44:SL) h45=>(rA (h45.store ((h5.next,0).1,(h5.next,0).2+0) [(.int .i64 6)]) fun h46=>(rA (h46.store ((h5.next,0).1,(h5.next,0).2+30) [(.slice x44.a x44.len x44.cap x44.sz)]) fun h47=>some (((some (h.next,0)),(some (h5.next,0)),()),h47))))else(lA (f146 N a0 5 [123] h42) fun (x48:Bool) h49=>(bif x48 then let x50:=dB .i64 (a1+1);(lA (rec158 a0 x50 h49) fun (x51:SL) h52=>
 (rA (h52.store ((h5.next,0).1,(h5.next,0).2+0) [(.int .i64 7)]) fun h53=>(rA (h53.store ((h5.next,0).1,(h5.next,0).2+30) [(.slice x51.a x51.len x51.cap x51.sz)]) fun h54=>some (((some (h.next,0)),(some (h5.next,0)),()),h54))))else(lA (f209 N a0 (some (h5.next,0)) h49) fun (x55:(Unit)) h56=>(lA (f149 N a0 [59] h56) fun (x57:(Unit)) h58=>some (((some (h.next,0)),(some (h5.next,0)),()),h58)))))))))))))) fun (j59:zO) h60=>(rA j59.2.1 fun q61=>(iA (.val zA) (h60.cells q61 32) fun (x62:zL)=>(rA j59.1 fun q64=>(rA (h60.store q64 (yRA x62)) fun h63=>(rA j59.1 fun q65=>(iA (.val zA) (h63.cells q65 32) fun (x66:zL)=>some ((x66.1,x66.2.1,x66.2.2.1,x66.2.2.2.1,x66.2.2.2.2.1,x66.2.2.2.2.2.1,x66.2.2.2.2.2.2.1,x66.2.2.2.2.2.2.2.1,x66.2.2.2.2.2.2.2.2.1,x66.2.2.2.2.2.2.2.2.2.1,x66.2.2.2.2.2.2.2.2.2.2.1,x66.2.2.2.2.2.2.2.2.2.2.2.1,x66.2.2.2.2.2.2.2.2.2.2.2.2.1,x66.2.2.2.2.2.2.2.2.2.2.2.2.2.1,x66.2.2.2.2.2.2.2.2.2.2.2.2.2.2.1,x66.2.2.2.2.2.2.2.2.2.2.2.2.2.2.2.1,x66.2.2.2.2.2.2.2.2.2.2.2.2.2.2.2.2.1,x66.2.2.2.2.2.2.2.2.2.2.2.2.2.2.2.2.2.1,x66.2.2.2.2.2.2.2.2.2.2.2.2.2.2.2.2.2.2.1,x66.2.2.2.2.2.2.2.2.2.2.2.2.2.2.2.2.2.2.2.1,x66.2.2.2.2.2.2.2.2.2.2.2.2.2.2.2.2.2.2.2.2.1,x66.2.2.2.2.2.2.2.2.2.2.2.2.2.2.2.2.2.2.2.2.2.1,x66.2.2.2.2.2.2.2.2.2.2.2.2.2.2.2.2.2.2.2.2.2.2.1,x66.2.2.2.2.2.2.2.2.2.2.2.2.2.2.2.2.2.2.2.2.2.2.2.1,x66.2.2.2.2.2.2.2.2.2.2.2.2.2.2.2.2.2.2.2.2.2.2.2.2.1,x66.2.2.2.2.2.2.2.2.2.2.2.2.2.2.2.2.2.2.2.2.2.2.2.2.2.1,x66.2.2.2.2.2.2.2.2.2.2.2.2.2.2.2.2.2.2.2.2.2.2.2.2.2.2.1,x66.2.2.2.2.2.2.2.2.2.2.2.2.2.2.2.2.2.2.2.2.2.2.2.2.2.2.2.1,x66.2.2.2.2.2.2.2.2.2.2.2.2.2.2.2.2.2.2.2.2.2.2.2.2.2.2.2.2.1,x66.2.2.2.2.2.2.2.2.2.2.2.2.2.2.2.2.2.2.2.2.2.2.2.2.2.2.2.2.2.1,x66.2.2.2.2.2.2.2.2.2.2.2.2.2.2.2.2.2.2.2.2.2.2.2.2.2.2.2.2.2.2.1,x66.2.2.2.2.2.2.2.2.2.2.2.2.2.2.2.2.2.2.2.2.2.2.2.2.2.2.2.2.2.2.2.1,()),h63))))))))))))
def eBb:Ann:=(.two .n (.two .n (.two .n (.two (.join [(4,zK2),(6,zK2)] .n) .n))))
def wAr (N M:Nat):((zJ2→Int→Heap→Option (SL×Heap))×(zJ2→Int→Heap→Option (zL×Heap))×Unit):=Nat.rec (fun _ _ _=>none,fun _ _ _=>none,()) (fun _ r=>(qAj N r.1 r.2.1,rAj N r.1 r.2.1,())) M
def f158 (N M:Nat):zJ2→Int→Heap→Option (SL×Heap):=(wAr N M).1
def f190 (N M:Nat):zJ2→Int→Heap→Option (zL×Heap):=(wAr N M).2.1
theorem rAc (N M a0 a1 h):f158 N (M+1) a0 a1 h=qAj N (f158 N M) (f190 N M) a0 a1 h:=rfl
theorem yAr (N M a0 a1 h):f190 N (M+1) a0 a1 h=rAj N (f158 N M) (f190 N M) a0 a1 h:=rfl
theorem kS (N:Nat):∀ M:Nat,(gD Tryz.prog 158 [zK2,zO2] (.val zL2) (fun x h=>f158 N M x.1 x.2.1 h))∧(gD Tryz.prog 190 [zK2,zO2] (.val zA) (fun x h=>f190 N M x.1 x.2.1 h))∧True
 | 0=>⟨(fun xs h r h' hx=>by cases hx),(fun xs h r h' hx=>by cases hx),trivial⟩
 | M+1=>⟨vD (bA (eH N) (bA (cY N) (bA (fO N) (bA (kS N M).2.1 (bA (rJ N) kA))))) N dBb Tryz.f158,vD (bA (dY N) (bA (fO N) (bA (qB3 N) (bA (oA8 N) (bA (pB3 N) (bA (kS N M).1 (bA (rJ N) (bA (fA2 N) kA)))))))) N eBb Tryz.f190,trivial⟩
theorem rB3 (N:Nat):gD Tryz.prog 158 [zK2,zO2] (.val zL2) (fun x h=>f158 N N x.1 x.2.1 h):=(kS N N).1
def f103 (N:Nat) (a0:zJ2) (a1:Bool) (a2:Int) (h:Heap):Option (zS×Heap):=let h1:=h.push (.row [(.ptr a0)] .own);let h2:=h1.push (.row yZC .own);(iA (.val zK2) (h2.cell (h.next,0)) fun (x3:zJ2)=>(rA x3 fun q4=>(rA (h2.store (q4.1,q4.2+2) yZK) fun h5=>(iA (.val zK2) (h5.cell (h.next,0)) fun (x6:zJ2)=>(lA (f94 N x6 1 h5) fun (x7:zQ2) h8=>let h9:=h8.push (.row yZC .own);(rA (h9.store (h8.next,0) [(.bool a1),(.str x7),(.slice none 0 0 0),(.slice none 0 0 0),(.int .i64 0),(.str []),(.slice none 0 0 0),(.slice none 0 0 0),(.slice none 0 0 0),(.int .i64 a2)]) fun h10=>(lA (α:=zT) ((iA (.val zK2) (h10.cell (h.next,0)) fun (x11:zJ2)=>(lA (f93 N x11 [60] h10) fun (x12:Bool) h13=>(bif x12 then(iA (.val zK2) (h13.cell (h.next,0)) fun (x14:zJ2)=>(lA (mU N x14 [44] ((some (h8.next,0)),(some (h.next,0)),()) h13) fun (x15:(Unit)) h16=>(iA (.val zK2) (h16.cell (h.next,0)) fun (x17:zJ2)=>(lA (f149 N x17 [62] h16) fun (x18:(Unit)) h19=>some (((some (h.next,0)),(some (h1.next,0)),(some (h8.next,0)),()),h19)))))else some (((some (h.next,0)),(some (h1.next,0)),(some (h8.next,0)),()),h13))))) fun (j20:zT) h21=>(rA j20.1 fun q22=>(iA (.val zK2) (h21.cell q22) fun (x23:zJ2)=>(lA (f149 N x23 [40] h21) fun (x24:(Unit)) h25=>(lA (α:=zT) ((rA j20.1 fun q26=>(iA (.val zK2) (h25.cell q26) fun (x27:zJ2)=>(lA (f93 N x27 [41] h25) fun (x28:Bool) h29=>let x30:=!x28;(bif x30 then(rA j20.1 fun q31=>(iA (.val zK2) (h29.cell q31) fun (x32:zJ2)=>(lA (nU N x32 [44] (j20.1,j20.2.2.1,()) h29) fun (x33:(Unit)) h34=>
 (rA j20.1 fun q35=>(iA (.val zK2) (h34.cell q35) fun (x36:zJ2)=>(lA (f149 N x36 [41] h34) fun (x37:(Unit)) h38=>some ((j20.1,j20.2.1,j20.2.2.1,()),h38)))))))else some ((j20.1,j20.2.1,j20.2.2.1,()),h29)))))) fun (j39:zT) h40=>(lA (α:=zT) ((rA j39.1 fun q41=>(iA (.val zK2) (h40.cell q41) fun (x42:zJ2)=>(lA (f93 N x42 [45,62] h40) fun (x43:Bool) h44=>(bif x43 then(rA j39.1 fun q45=>(iA (.val zK2) (h44.cell q45) fun (x46:zJ2)=>(lA (f55 N N x46 1 h44) fun (x47:zM) h48=>(rA j39.2.2.1 fun q49=>(rA (h48.store (q49.1,q49.2+4) (yRD x47)) fun h50=>some ((j39.1,j39.2.1,j39.2.2.1,()),h50))))))else some ((j39.1,j39.2.1,j39.2.2.1,()),h44)))))) fun (j51:zT) h52=>(rA j51.1 fun q53=>(iA (.val zK2) (h52.cell q53) fun (x54:zJ2)=>(lA (f158 N N x54 1 h52) fun (x55:SL) h56=>(rA j51.2.2.1 fun q57=>(rA (h56.store (q57.1,q57.2+8) [(.slice x55.a x55.len x55.cap x55.sz)]) fun h58=>(rA j51.2.2.1 fun q59=>(iA (.val zD) (h58.cells q59 10) fun (x60:zS)=>(rA j51.2.1 fun q62=>(rA (h58.store q62 (yRC x60)) fun h61=>(rA j51.2.1 fun q63=>(iA (.val zD) (h61.cells q63 10) fun (x64:zS)=>some ((x64.1,x64.2.1,x64.2.2.1,x64.2.2.2.1,x64.2.2.2.2.1,x64.2.2.2.2.2.1,x64.2.2.2.2.2.2.1,x64.2.2.2.2.2.2.2.1,x64.2.2.2.2.2.2.2.2.1,x64.2.2.2.2.2.2.2.2.2.1,()),h61))))))))))))))))))))))))
def fBb:Ann:=(.two .n (.two .n (.two .n (.two (.join [(3,zK2),(6,zK2),(7,zK2)] .n) (.two .n (.two (.join [(3,zK2),(6,zK2),(7,zK2)] .n) (.two (.join [(3,zK2),(6,zK2),(7,zK2)] .n) .n)))))))
theorem tB3 (N:Nat):gD Tryz.prog 103 [zK2,zN2,zO2] (.val zD) (fun x h=>f103 N x.1 x.2.1 x.2.2.1 h):=vD (bA (gO N) (bA (eH N) (bA (oAq N) (bA (rB3 N) (bA (rJ N) (yB (sel:=fun a=>pJ 2 157 a) (aAg N) (yB (sel:=fun a=>pJ 2 155 a) (yAf N) kA))))))) N fBb Tryz.f103
def f63 (N:Nat) (a0 a1:zJ2) (h:Heap):Option ((Unit)×Heap):=(lA (f92 N a0 [112,117,98] h) fun (x1:Bool) h2=>(lA (f56 N a0 h2) fun (x3:zP) h4=>(lA (f92 N a0 [115,116,114,117,99,116] h4) fun (x5:Bool) h6=>(bif x5 then(rA a1 fun q7=>(iA (.val zL2) (h6.cell (q7.1,q7.2+0)) fun (x8:SL)=>(lA (f102 N a0 x1 x3.2.2.1 h6) fun (x9:zW) h10=>let h11:=h10.push (.row (yRG x9) .own);(aE (.val zL2) (iB E 22 22 (.slice x8.a x8.len x8.cap x8.sz) (.slice (some (h10.next,0)) 1 1 5) h11) fun (x12:SL) h13=>(rA a1 fun q14=>(rA (h13.store (q14.1,q14.2+0) [(.slice x12.a x12.len x12.cap x12.sz)]) fun h15=>(uD (bif (aB (h11.cell (q7.1,q7.2+0)) (.slice x8.a x8.len x8.cap x8.sz)) then (bif (aB (h10.cell (q7.1,q7.2+0)) (.slice x8.a x8.len x8.cap x8.sz)) then (bif (aB (h6.cell (q7.1,q7.2+0)) (.slice x8.a x8.len x8.cap x8.sz)) then true else false) else false) else false) ((rA a0 fun q16=>(iA (.val zP2) (h15.cell (q16.1,q16.2+3)) fun (x17:AV)=>(lA (f104 N x17 x3.2.2.1 h15) fun (x18:AV) h19=>(rA a0 fun q20=>(uD (AV.single x18) (rA (h19.store (q20.1,q20.2+3) [x18]) fun h21=>some ((()),h21)))))))))))))))else(lA (f92 N a0 [102,110] h6) fun (x22:Bool) h23=>(bif x22 then(rA a1 fun q24=>(iA (.val zL2) (h23.cell (q24.1,q24.2+1)) fun (x25:SL)=>(lA (f103 N a0 x1 x3.2.2.1 h23) fun (x26:zS) h27=>let h28:=h27.push (.row (yRC x26) .own);(aE (.val zL2) (iB E 23 23 (.slice x25.a x25.len x25.cap x25.sz) (.slice (some (h27.next,0)) 1 1 10) h28) fun (x29:SL) h30=>
 (rA a1 fun q31=>(rA (h30.store (q31.1,q31.2+1) [(.slice x29.a x29.len x29.cap x29.sz)]) fun h32=>(uD (bif (aB (h28.cell (q24.1,q24.2+1)) (.slice x25.a x25.len x25.cap x25.sz)) then (bif (aB (h27.cell (q24.1,q24.2+1)) (.slice x25.a x25.len x25.cap x25.sz)) then (bif (aB (h23.cell (q24.1,q24.2+1)) (.slice x25.a x25.len x25.cap x25.sz)) then true else false) else false) else false) ((rA a0 fun q33=>(iA (.val zP2) (h32.cell (q33.1,q33.2+3)) fun (x34:AV)=>(lA (f104 N x34 x3.2.2.1 h32) fun (x35:AV) h36=>(rA a0 fun q37=>(uD (AV.single x35) (rA (h36.store (q37.1,q37.2+3) [x35]) fun h38=>some ((()),h38)))))))))))))))else(lA (f57 N a0 21 h23) fun (x39:(Unit)) h40=>some ((()),h40))))))))
def wBg:Ann:=.n
theorem gBb (N:Nat):gD Tryz.prog 63 [zK2,zK2] (.tup []) (fun x h=>f63 N x.1 x.2.1 h):=vD (bA (dY N) (bA (cY N) (bA (fO N) (bA (wB2 N) (bA (tB3 N) (bA (tB2 N) kA)))))) N wBg Tryz.f63
def qU (N:Nat) (go:zJ2→zJ2→zJ2→Int→Heap→Option (Out×zT×Heap)) (v2 v6 v7:zJ2) (v8:Int) (h:Heap):Option (Out×zT×Heap):=(rA v7 fun q9=>(iA (.val zP2) (h.cell (q9.1,q9.2+3)) fun (x10:AV)=>(iA (.val zN2) (cK E .eql 29 (.tmp 24) (.const .nilIface) x10 AV.nilIface) fun (x11:Bool)=>(bif x11 then(lA (f56 N v7 h) fun (x12:zP) h13=>let x14:=!kB x12.1 0;(bif x14 then let x15:=kB v8 256;(bif x15 then(lA (f57 N v7 5 h13) fun (x16:(Unit)) h17=>some ((Out.exit 0),(v2,v6,v7,()),h17))else(lA (f63 N v7 v6 h13) fun (x18:(Unit)) h19=>let x20:=dB .i64 (v8+1);go v2 v6 v7 x20 h19))else some ((Out.exit 0),(v2,v6,v7,()),h13)))else some ((Out.exit 0),(v2,v6,v7,()),h)))))
def tAj (N M:Nat) (v2 v6 v7:zJ2) (v8:Int) (h:Heap):Option (Out×zT×Heap):=iter (fun go s h=>qU N (fun v2 v6 v7 v8 h=>go (v2,v6,v7,v8,()) h) s.1 s.2.1 s.2.2.1 s.2.2.2.1 h) M (v2,v6,v7,v8,()) h
theorem lS (N M v2 v6 v7 v8 h):tAj N (M+1) v2 v6 v7 v8 h=qU N (tAj N M) v2 v6 v7 v8 h:=rfl
def f27 (N:Nat) (a0:zQ2) (h:Heap):Option ((zE1×AV×Unit)×Heap):=let h1:=h.push (.row yZG .own);(lA (f54 N a0 h1) fun (x2:(SL×AV×Unit)) h3=>(iA (.val zN2) (cK E .neq 29 (.tmp 14) (.const .nilIface) x2.2.1 AV.nilIface) fun (x4:Bool)=>(bif x4 then(rA (h3.store (h.next,0) yZG) fun h5=>(iA (.val zK) (h5.cells (h.next,0) 2) fun (x6:zE1)=>some (((x6.1,x6.2.1,()),x2.2.1,()),h5)))else let h7:=h3.push (.row yZG .own);let h8:=h7.push (.row [(.slice x2.1.a x2.1.len x2.1.cap x2.1.sz),(.int .i64 0),(.int .i64 0),AV.nilIface] .own);(fE (tAj N N (some (h.next,0)) (some (h3.next,0)) (some (h7.next,0)) 0 h8) fun _ (j22:zT) h23=>(rA j22.2.2.1 fun q24=>(iA (.val zP2) (h23.cell (q24.1,q24.2+3)) fun (x25:AV)=>(iA (.val zN2) (cK E .neq 29 (.tmp 43) (.const .nilIface) x25 AV.nilIface) fun (x26:Bool)=>(bif x26 then(rA j22.2.2.1 fun q27=>(iA (.val zP2) (h23.cell (q27.1,q27.2+3)) fun (x28:AV)=>(rA j22.1 fun q30=>(rA (h23.store q30 yZG) fun h29=>(uD (bif (aB (h29.cell (q27.1,q27.2+3)) x28) then (bif (aB (h23.cell (q27.1,q27.2+3)) x28) then true else false) else false) ((rA j22.1 fun q31=>(iA (.val zK) (h29.cells q31 2) fun (x32:zE1)=>some (((x32.1,x32.2.1,()),x28,()),h29)))))))))else(rA j22.2.1 fun q33=>(iA (.val zK) (h23.cells q33 2) fun (x34:zE1)=>(rA j22.1 fun q36=>(rA (h23.store q36 (yRJ x34)) fun h35=>(rA j22.1 fun q37=>(iA (.val zK) (h35.cells q37 2) fun (x38:zE1)=>some (((x38.1,x38.2.1,()),AV.nilIface,()),h35)))))))))))))))
def yBg:Ann:=(.two .n (.two .n (.two .n (.two .n (.two .n (.two (.two .n (.two (.loop [(2,zK2),(6,zK2),(7,zK2),(8,zO2)] [(.exit 0)] [(2,zK2),(6,zK2),(7,zK2)] .n) .n)) .n))))))
theorem lAz (N:Nat):gD Tryz.prog 27 [zM2] (.tup [zK,zP2]) (fun x h=>f27 N x.1 h):=vD (bA (gBb N) (bA (cY N) (bA (fO N) (bA (yAy N) kA)))) N yBg Tryz.f27
end
end Qp
end Go.Proofs.YtkcjphhjmlienaaGreatDoor
