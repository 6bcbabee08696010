import Derived.Test.YtkcjphhjmlienaaGreatDoorProg
import Derived.WalkKit
import Derived.LaidEql
import Derived.Stop.Asserts
import Derived.RowKitTokens
import Derived.Test.YtkcjphhjmlienaaGreatDoorAi2
import Derived.Laws.Externs
import Derived.Test.YtkcjphhjmlienaaGreatDoorAi3
import Derived.Deep.RegionWith
/- Functions of the program as plain functions, and what they come to; part 1. -/
namespace Go.Proofs.YtkcjphhjmlienaaGreatDoor
set_option linter.unusedVariables false
set_option linter.unusedSimpArgs false
open Go Go.Proofs
namespace Qa
open Go.RowKit Go.Extern.Stop Go.Stop Go.Extern
theorem tAa (t:Addr) (w:World):(ReflectliteValue.unpack (.iface 214 (.pointer (some t)))).run Tryz.prog w
  = .ok (.agg #[.pointer (some ⟨7,214,none⟩),.pointer (some ⟨w.heap.size,0,none⟩),.int .u64 150]) (w.alloc (.cells #[.pointer (some t)] 214)):=by kernel_rfl
theorem yAo (a:Addr) (w:World):(ReflectliteValue.methodAny (ReflectliteValue.valueError "reflectlite.Value.Type" 0) (fun t _ _ _=>ReflectliteType.toType t) #[.agg #[.pointer (some ⟨7,214,none⟩),.pointer (some a),.int .u64 150]]).run Tryz.prog w
  = .ok (.iface 232 (.agg #[.pointer (some ⟨7,214,none⟩)])) w:=by kernel_rfl
theorem kA6 (h:Value) (w:World):(Go.method 406 232 (.agg #[h]) "Kind").run Tryz.prog w=.ok (278,h) w:=by kernel_rfl
theorem aAp (w:World):((ReflectliteType.abiMethod fun t=>Functor.map (fun a:Nat=>Value.int IntKind.u8 (a:Int)) (Rtype.kind t)) #[.pointer (some ⟨7,214,none⟩)]).run Tryz.prog w=.ok (.int .u8 22) w:=by kernel_rfl
theorem bAp (w:World):((ReflectliteType.abiMethod fun t=>Functor.map (fun a:Nat=>Value.int IntKind.u8 (a:Int)) (Rtype.kind t)) #[.pointer (some ⟨7,127,none⟩)]).run Tryz.prog w=.ok (.int .u8 22) w:=by kernel_rfl
theorem rlm (z:Sem Value) (f:TypeId→Addr→Nat→Nat→Sem Value) (v:Value) :
  ReflectliteValue.method z f #[v]=(do match ← ReflectliteValue.parts v with | none=>z | some (t,a,fl)=>f t a fl (fl % 32)):=rfl
theorem nA4 (a:Addr) (w:World):(ReflectliteValue.parts (.agg #[.pointer (some ⟨7,214,none⟩),.pointer (some a),.int .u64 150])).run Tryz.prog w=.ok (some (214,a,150)) w:=by kernel_rfl
theorem tAk (a p:Addr) (W:World) (ha:W.cell? a=some (.pointer (some p))) :
  (ReflectliteValue.method (ReflectliteValue.valueError "reflectlite.Value.IsNil" 0) ReflectliteValue.isNil #[.agg #[.pointer (some ⟨7,214,none⟩),.pointer (some a),.int .u64 150]]).run Tryz.prog W=.ok (.bool false) W:=by
 rw [rlm];simp only [Sem.run_bind,nA4,Result.andThen];simp [ReflectliteValue.isNil,loadVar,isAgg,underlying,Tryz.underlying214,ha,Result.andThen]
theorem lA6 (h:Value) (w:World):(Go.method 406 232 (.agg #[h]) "Elem").run Tryz.prog w=.ok (291,.agg #[h]) w:=by kernel_rfl
theorem lR (h:Value) (w:World):(Go.method 406 232 (.agg #[h]) "Implements").run Tryz.prog w=.ok (292,.agg #[h]) w:=by kernel_rfl
theorem qN (h:Value) (w:World):(Go.method 406 232 (.agg #[h]) "AssignableTo").run Tryz.prog w=.ok (289,.agg #[h]) w:=by kernel_rfl
theorem cAp (w:World):(ReflectliteType.method ReflectliteType.elem #[.agg #[.pointer (some ⟨7,214,none⟩)]]).run Tryz.prog w=.ok (.iface 232 (.agg #[.pointer (some ⟨7,127,none⟩)])) w:=by kernel_rfl
theorem vA0 (w:World):(ReflectliteType.relation "Implements" ReflectliteType.implements_ #[.agg #[.pointer (some ⟨7,127,none⟩)],.iface 232 (.agg #[.pointer (some ⟨7,29,none⟩)])]).run Tryz.prog w=.ok (.bool true) w:=by kernel_rfl
theorem vAd (v:Value) (w:World):(ReflectliteType.typeOf #[.iface 127 v]).run Tryz.prog w=.ok (.iface 232 (.agg #[.pointer (some ⟨7,127,none⟩)])) w:=by kernel_rfl
theorem wA0 (w:World):(ReflectliteType.relation "AssignableTo" ReflectliteType.assignableTo #[.agg #[.pointer (some ⟨7,127,none⟩)],.iface 232 (.agg #[.pointer (some ⟨7,127,none⟩)])]).run Tryz.prog w=.ok (.bool true) w:=by kernel_rfl
theorem uAa (e:Addr) (w:World):(ReflectliteValue.unpack (.iface 127 (.pointer (some e)))).run Tryz.prog w
  = .ok (.agg #[.pointer (some ⟨7,127,none⟩),.pointer (some ⟨w.heap.size,0,none⟩),.int .u64 150]) (w.alloc (.cells #[.pointer (some e)] 127)):=by kernel_rfl
theorem wAd (w:World):(Rtype.elem? 214).run Tryz.prog w=.ok (some 127) w:=by kernel_rfl
theorem uB0 (p:Addr) (w:World):(ReflectliteValue.mk 127 p ReflectliteValue.flagAddr).run Tryz.prog w=.ok (.agg #[.pointer (some ⟨7,127,none⟩),.pointer (some p),.int .u64 406]) w:=by kernel_rfl
theorem uAk (a p:Addr) (W:World) (ha:W.cell? a=some (.pointer (some p))) :
  (ReflectliteValue.method (ReflectliteValue.valueError "reflectlite.Value.Elem" 0) ReflectliteValue.elem #[.agg #[.pointer (some ⟨7,214,none⟩),.pointer (some a),.int .u64 150]]).run Tryz.prog W
   = .ok (.agg #[.pointer (some ⟨7,127,none⟩),.pointer (some p),.int .u64 406]) W:=by
 rw [rlm];simp only [Sem.run_bind,nA4,Result.andThen];simp [ReflectliteValue.elem,loadVar,isAgg,underlying,Tryz.underlying214,ha,Result.andThen,wAd,uB0]
theorem rls (v x:Value):ReflectliteValue.set #[v,x]=(do
  let (some (dst,a,fl),some (src,b,_)):=(← ReflectliteValue.parts v,← ReflectliteValue.parts x)
   | unsupported (.noEntry "extern/(internal/reflectlite.Value).Set.zeroValue")
  if fl / ReflectliteValue.flagAddr % 2 == 0 then unsupported (.noEntry "extern/(internal/reflectlite.Value).Set.unaddressable")
  let val ← loadVar src b
  if ← Rtype.directlyAssignable dst src then storeVar dst a val
  else if ← Rtype.implements dst src then
   if (← Rtype.kind src) == 20 then
    match val with
    | .nilIface=>unsupported (.noEntry "extern/reflectlite: a nil value of one interface type handed on as a value of another")
    | _=>storeVar dst a val
   else storeVar dst a (.iface src val)
  else panicString ("reflectlite.Set: value of type "++(← Rtype.spelt src) ++ " is not assignable to type "++(← Rtype.spelt dst))
  pure (.tuple #[])):=rfl
theorem yAd (a:Addr) (w:World):(ReflectliteValue.parts (.agg #[.pointer (some ⟨7,127,none⟩),.pointer (some a),.int .u64 406])).run Tryz.prog w=.ok (some (127,a,406)) w:=by kernel_rfl
theorem vAk (a:Addr) (w:World):(ReflectliteValue.parts (.agg #[.pointer (some ⟨7,127,none⟩),.pointer (some a),.int .u64 150])).run Tryz.prog w=.ok (some (127,a,150)) w:=by kernel_rfl
theorem aAe (w:World):(Rtype.directlyAssignable 127 127).run Tryz.prog w=.ok true w:=by kernel_rfl
theorem rAv (ta b e:Addr) (old:Value) (W:World) (hb:W.cell? b=some (.pointer (some e))) (ht:W.cell? ta=some old) (hf:W.frozen? ta=false) :
  (ReflectliteValue.set #[.agg #[.pointer (some ⟨7,127,none⟩),.pointer (some ta),.int .u64 406],.agg #[.pointer (some ⟨7,127,none⟩),.pointer (some b),.int .u64 150]]).run Tryz.prog W
   = .ok (.tuple #[]) (W.setCell ta (.pointer (some e))):=by
 rw [rls];simp only [Sem.run_bind,yAd,vAk,Result.andThen];simp [ReflectliteValue.flagAddr,loadVar,isAgg,underlying,Tryz.underlying127,hb,Result.andThen,aAe,storeVar,Value.cells,storeCells,Addr.add];rw [run_store Tryz.prog W ta _ _ (by rfl)];simp [ht,hf]
set_option maxRecDepth 100000 in
set_option maxHeartbeats 4000000 in
theorem fB7 (e t:Addr) (old:Value) (w:World) (hg:w.cell? ⟨1,0,none⟩=some (.iface 232 (.agg #[.pointer (some ⟨7,29,none⟩)]))) (ht0:w.cell? t=some old) (hf0:w.frozen? t=false) :
  Calls Tryz.prog 192 #[.iface 127 (.pointer (some e)),.iface 214 (.pointer (some t))] w fun ev w'=>ev=.returned (.bool true)∧w'=((((w.alloc (.cells #[.pointer (some t)] 214)).alloc (.cells #[.pointer (some ⟨7,214,none⟩),.pointer (some ⟨w.heap.size,0,none⟩),.int .u64 150] 217)).alloc (.cells #[.pointer (some ⟨7,214,none⟩),.pointer (some ⟨w.heap.size,0,none⟩),.int .u64 150] 217)).alloc (.cells #[.pointer (some e)] 127)).setCell t (.pointer (some e)):=by
 have h6:=@run_callFunc_extern Tryz.prog 210 _ (fun args=>ReflectliteValue.unpack (args.getD 0 (.tuple #[]))) Tryz.func210 (by kernel_rfl) (by kernel_rfl) (by kernel_rfl) (by kernel_rfl);have h7:=@run_callFunc_extern Tryz.prog 211 _ (ReflectliteValue.methodAny (ReflectliteValue.valueError "reflectlite.Value.Type" 0) (fun t _ _ _=>ReflectliteType.toType t)) Tryz.func211 (by kernel_rfl) (by kernel_rfl) (by kernel_rfl) (by kernel_rfl);have h8:=@run_callFunc_extern Tryz.prog 212 _ (ReflectliteValue.method (ReflectliteValue.valueError "reflectlite.Value.IsNil" 0) ReflectliteValue.isNil) Tryz.func212 (by kernel_rfl) (by kernel_rfl) (by kernel_rfl) (by kernel_rfl);have h27:=@run_callFunc_extern Tryz.prog 278 _ (ReflectliteType.abiMethod fun t=>do pure (.int .u8 (← Rtype.kind t))) Tryz.func278 (by kernel_rfl) (by kernel_rfl) (by kernel_rfl) (by kernel_rfl);have h37:=@run_callFunc_extern Tryz.prog 291 _ (ReflectliteType.method ReflectliteType.elem) Tryz.func291 (by kernel_rfl) (by kernel_rfl) (by kernel_rfl) (by kernel_rfl);have h38:=@run_callFunc_extern Tryz.prog 292 _ (ReflectliteType.relation "Implements" ReflectliteType.implements_) Tryz.func292 (by kernel_rfl) (by kernel_rfl) (by kernel_rfl) (by kernel_rfl);have h10:=@run_callFunc_extern Tryz.prog 224 _ ReflectliteType.typeOf Tryz.func224 (by kernel_rfl) (by kernel_rfl) (by kernel_rfl) (by kernel_rfl);have h35:=@run_callFunc_extern Tryz.prog 289 _ (ReflectliteType.relation "AssignableTo" ReflectliteType.assignableTo) Tryz.func289 (by kernel_rfl) (by kernel_rfl) (by kernel_rfl) (by kernel_rfl);have h11:=@run_callFunc_extern Tryz.prog 225 _ (ReflectliteValue.method (ReflectliteValue.valueError "reflectlite.Value.Elem" 0) ReflectliteValue.elem) Tryz.func225 (by kernel_rfl) (by kernel_rfl) (by kernel_rfl) (by kernel_rfl);have h12:=@run_callFunc_extern Tryz.prog 226 _ ReflectliteValue.set Tryz.func226 (by kernel_rfl) (by kernel_rfl) (by kernel_rfl) (by kernel_rfl);have tO:=vAd;have mA:=qN;have a25:=wA0;have v25:=uAa;have f6:=tAa;have f7:=yAo;have mK:=kA6;have mE:=lA6;have mI:=lR;have k27:=aAp;have k25:=bAp;have e27:=cAp;have i25:=vA0;have n8:=tAk ⟨w.heap.size,0,none⟩ t ((w.alloc (.cells #[.pointer (some t)] 214)).alloc (.cells #[.pointer (some ⟨7,214,none⟩),.pointer (some ⟨w.heap.size,0,none⟩),.int .u64 150] 217)) (by simp);have hlt:1<w.heap.size:=by
  rcases Nat.lt_or_ge 1 w.heap.size with h | h
  ·exact h
  ·simp [World.cell?,Array.getElem?_eq_none h] at hg
 have hg2:((w.alloc (.cells #[.pointer (some t)] 214)).alloc (.cells #[.pointer (some ⟨7,214,none⟩),.pointer (some ⟨w.heap.size,0,none⟩),.int .u64 150] 217)).cell? ⟨1,0,none⟩=some (.iface 232 (.agg #[.pointer (some ⟨7,29,none⟩)])):=by
  rw [World.cell?_alloc_lt _ _ ⟨1,0,none⟩ (by simp;omega),World.cell?_alloc_lt _ _ ⟨1,0,none⟩ hlt];exact hg
 have htl:t.block<w.heap.size:=by
  rcases Nat.lt_or_ge t.block w.heap.size with h | h
  ·exact h
  ·simp [World.cell?,Array.getElem?_eq_none h] at ht0
 have el:=uAk ⟨w.heap.size,0,none⟩ t (((w.alloc (.cells #[.pointer (some t)] 214)).alloc (.cells #[.pointer (some ⟨7,214,none⟩),.pointer (some ⟨w.heap.size,0,none⟩),.int .u64 150] 217)).alloc (.cells #[.pointer (some ⟨7,214,none⟩),.pointer (some ⟨w.heap.size,0,none⟩),.int .u64 150] 217)) (by rw [World.cell?_alloc_lt _ _ ⟨w.heap.size,0,none⟩ (by simp;omega)];simp);have st:=rAv t ⟨w.heap.size+1+1+1,0,none⟩ e old ((((w.alloc (.cells #[.pointer (some t)] 214)).alloc (.cells #[.pointer (some ⟨7,214,none⟩),.pointer (some ⟨w.heap.size,0,none⟩),.int .u64 150] 217)).alloc (.cells #[.pointer (some ⟨7,214,none⟩),.pointer (some ⟨w.heap.size,0,none⟩),.int .u64 150] 217)).alloc (.cells #[.pointer (some e)] 127))
  (by rw [World.cell?_alloc_at _ _ _ _ (by simp)];rfl)
  (by rw [World.cell?_alloc_lt _ _ t (by simp;omega),World.cell?_alloc_lt _ _ t (by simp;omega),World.cell?_alloc_lt _ _ t (by simp;omega),World.cell?_alloc_lt _ _ t htl];exact ht0)
  (by rw [World.frozen?_alloc_old _ _ t (by simp;omega),World.frozen?_alloc_old _ _ t (by simp;omega),World.frozen?_alloc_old _ _ t (by simp;omega),World.frozen?_alloc_old _ _ t (Nat.ne_of_lt htl)];exact hf0)
 go_enter Tryz.func192,Tryz.ntmps192
 go_wp2
 refine wp_loop_rounds 1 ?_;rw [rounds_succ]
 go_wp2
 go_ret
 exact ⟨rfl,rfl⟩
end Qa
open Go Ai Go.Proofs
open Go.RowKit (Below)
namespace Qa
def hdl:AV:=.iface 232 (.agg [.ptr (some (1,0))])
def dAp:Ai.Loc:=⟨1,0,1,false⟩
def loc1:Ai.Loc:=⟨7,29,30,false⟩
def vB0 (a b:Ai.Loc):Bool:=Nat.beq a.b b.b&&Nat.beq a.sh b.sh&&Nat.beq a.tot b.tot&&(bif a.ex then b.ex else !b.ex)
def kA3 (A:Nat) (l:Ai.Loc):List (Nat×Ai.Loc)→Bool
 | []=>false
 | x::r=>(Nat.beq x.1 A&&vB0 x.2 l)||kA3 A l r
def mA6 (b:Option Blk) (cs:List AV):Bool:=match b with
 | some (.row cs' .ro)=>eqV (.agg cs') (.agg cs)
 | _=>false
theorem tAv {a b:Ai.Loc} (h:vB0 a b=true):a=b:=by
 obtain ⟨a1,a2,a3,a4⟩:=a;obtain ⟨b1,b2,b3,b4⟩:=b;simp only [vB0,Bool.and_eq_true] at h;obtain ⟨⟨⟨h1,h2⟩,h3⟩,h4⟩:=h;obtain rfl:=Nat.eq_of_beq_eq_true h1;obtain rfl:=Nat.eq_of_beq_eq_true h2;obtain rfl:=Nat.eq_of_beq_eq_true h3
 have:a4=b4:=by cases a4 <;> cases b4 <;> simp_all
 rw [this]
theorem qT {A:Nat} {l:Ai.Loc}:∀ {p:List (Nat×Ai.Loc)},kA3 A l p=true→(A,l)∈p
 | [],h=>by cases h
 | x::r,h=>by
  simp only [kA3,Bool.or_eq_true,Bool.and_eq_true] at h;rcases h with ⟨h1,h2⟩ | h
  ·have e1:=Nat.eq_of_beq_eq_true h1
   have e2:=tAv h2;obtain ⟨x1,x2⟩:=x;simp only at e1 e2;rw [e1,e2];exact List.mem_cons_self
  ·exact List.mem_cons_of_mem _ (qT h)
theorem uAh {b:Option Blk} {cs:List AV} (h:mA6 b cs=true):b=some (.row cs .ro):=by
 unfold mA6 at h
 split at h
 ·have:=jW _ _ h
  simp only [AV.agg.injEq] at this;rw [this]
 ·cases h
def eAp (h:Heap) (A:Nat):Option (List AV×BState):=match h.t.get A with
 | some (.row cs st)=>match st with
  | .own=>some (cs,st)
  | .grown=>some (cs,st)
  | _=>none
 | _=>none
def asN:List AV→Heap→Option (AV×Heap)
 | [.iface t (.ptr (some p)),.iface t' (.ptr (some (A,off)))],h=>
  bif Nat.beq t 127&&Nat.beq t' 214&&kA3 0 dAp h.pins&&kA3 1 loc1 h.pins&&mA6 (h.t.get 0) [hdl] then
   match eAp h A with
   | some (cs,st)=>match over off cs [.ptr (some p)] with
    | some cs'=>some (.bool true,h.put A (.row cs' st))
    | none=>none
   | none=>none
  else none
 | _,_=>none
theorem rBh:EnvOK (kB0 Tryz.prog [] mAh) Tryz.prog:=lAh (by kernel_rfl) (by kernel_rfl)
theorem mBe {args:List AV} {v:AV} {h h':Heap} (hx:asN args h=some (v,h')) {μ:Mu} {w:World} {args':Array Value} (hr:HR μ h w) (hv:VRs μ args args'.toList) :
  (callFunc 192 args').run Tryz.prog w=.ok (.enter 192 args') w∧Calls Tryz.prog 192 args' w fun e w'=>∃ u,e=.returned u∧fB0 μ h w v h' u w':=by
 refine ⟨qAh rBh (fn:=Tryz.f192) (by kernel_rfl) (by kernel_rfl) _ _,?_⟩;unfold asN at hx
 split at hx
 ·rename_i t p t' A off
  cases hb:(Nat.beq t 127&&Nat.beq t' 214&&kA3 0 dAp h.pins&&kA3 1 loc1 h.pins&&mA6 (h.t.get 0) [hdl]) with
  | false=>simp [hb] at hx
  | true=>
   simp only [hb,cond_true] at hx;simp only [Bool.and_eq_true] at hb;obtain ⟨⟨⟨⟨b1,b2⟩,b3⟩,b4⟩,b5⟩:=hb;obtain rfl:=Nat.eq_of_beq_eq_true b1;obtain rfl:=Nat.eq_of_beq_eq_true b2
   cases hw:eAp h A with
   | none=>simp [hw] at hx
   | some q=>
    obtain ⟨cs,st⟩:=q;simp only [hw] at hx
    cases ho:over off cs [.ptr (some p)] with
    | none=>simp [ho] at hx
    | some cs'=>
     simp only [ho,Option.some.injEq,Prod.mk.injEq] at hx;obtain ⟨rfl,rfl⟩:=hx;have hg:h.t.get A=some (.row cs st)∧(st=.own∨st=.grown):=by
      unfold eAp at hw
      split at hw
      ·rename_i cs1 st1 hq
       split at hw
       ·simp only [Option.some.injEq,Prod.mk.injEq] at hw;obtain ⟨rfl,rfl⟩:=hw;exact ⟨hq,.inl rfl⟩
       ·simp only [Option.some.injEq,Prod.mk.injEq] at hw;obtain ⟨rfl,rfl⟩:=hw;exact ⟨hq,.inr rfl⟩
       ·cases hw
      ·cases hw
     obtain ⟨p1,p2⟩:=p;simp only [VRs,VR] at hv;obtain ⟨y1,ys1,e1,⟨x1,rfl,l1,hl1,rfl⟩,y2,ys2,e2,⟨x2,rfl,l2,hl2,rfl⟩,e3⟩:=hv;subst e2 e3;have ea:args' = #[.iface 127 (.pointer (some ⟨l1.b,l1.sh+p2,none⟩)),.iface 214 (.pointer (some ⟨l2.b,l2.sh+off,none⟩))]:=by rw [← Array.toList_inj,e1]
     subst ea
     -- the handle's cell
     have hc0:w.cell? ⟨1,0,none⟩=some (.iface 232 (.agg #[.pointer (some ⟨7,29,none⟩)])):=by
      have hm0:=hr.pin _ (qT b3);have hm1:=hr.pin _ (qT b4);have hrow:RowR μ w dAp [hdl]:=hr.blk 0 dAp _ hm0 (uAh b5);obtain ⟨y,h1,h2⟩:=hrow.cell 0 hdl rfl;simp only [hdl,VR,VRs] at h2;obtain ⟨z,rfl,cs1,rfl,u,us,h4,⟨l,h5,rfl⟩,rfl⟩:=h2;have hm1':μ 1=some loc1:=hm1;rw [hm1'] at h5;simp only [Option.some.injEq] at h5;subst h5
      have:cs1 = #[.pointer (some ⟨7,29,none⟩)]:=by rw [← Array.toList_inj,h4];rfl
      rw [this] at h1;exact h1
     have hvp:VRs μ [.ptr (some (p1,p2))] [.pointer (some ⟨l1.b,l1.sh+p2,none⟩)]:=VRs.cons (by simp only [VR];exact ⟨l1,hl1,rfl⟩) VRs.nil;obtain ⟨w1,w2,_,_⟩:=hr.write hl2 hg.1 (hg.2.elim .inl fun e=>.inr (.inl e)) ho hvp;have hold:=w1 0 (by simp);have hfz:=w2 0 (by simp);rw [Nat.add_zero] at hold hfz;obtain ⟨old,hold⟩:=Option.isSome_iff_exists.1 hold;refine (fB7 ⟨l1.b,l1.sh+p2,none⟩ ⟨l2.b,l2.sh+off,none⟩ old w hc0 hold hfz).mono ?_;rintro e w' ⟨rfl,rfl⟩;have hbel:Below w.heap.size w ((((w.alloc (.cells #[.pointer (some ⟨l2.b,l2.sh+off,none⟩)] 214)).alloc (.cells #[.pointer (some ⟨7,214,none⟩),.pointer (some ⟨w.heap.size,0,none⟩),.int .u64 150] 217)).alloc (.cells #[.pointer (some ⟨7,214,none⟩),.pointer (some ⟨w.heap.size,0,none⟩),.int .u64 150] 217)).alloc (.cells #[.pointer (some ⟨l1.b,l1.sh+p2,none⟩)] 127)):=
      ((((Below.refl _ w).alloc (Nat.le_refl _) _).alloc (by simp) _).alloc (by simp;omega) _).alloc (by simp;omega) _
     have hr4:=hr.below hbel;obtain ⟨_,_,h5,h6⟩:=hr4.write hl2 hg.1 (hg.2.elim .inl fun e=>.inr (.inl e)) ho hvp;exact ⟨_,rfl,μ,by simp [VR],h5,Ext.trans hr (Ext.of_below hbel) h6⟩
 ·cases hx
def vAh (c:UInt8):List UInt8→Nat→Int
 | [],_=>-1
 | x::r,k=>bif Nat.beq x.toNat c.toNat then .ofNat k else vAh c r (k+1)
theorem vAa (c:UInt8):∀ (s:List UInt8) (k:Nat),vAh c s k=(match (List.range s.length).find? fun i=>s.getD i 0 == c with | some i=>((k+i:Nat):Int) | none=>-1)
 | [],k=>rfl
 | x::r,k=>by
  rw [List.length_cons,List.range_succ_eq_map]
  by_cases hx:x=c
  ·subst hx
   have:Nat.beq x.toNat x.toNat=true:=Nat.beq_refl _
   simp only [vAh,this,cond_true,List.find?_cons,List.getD_cons_zero,beq_self_eq_true,Nat.add_zero];rfl
  ·have h1:Nat.beq x.toNat c.toNat=false:=by
    cases hq:Nat.beq x.toNat c.toNat with
    | false=>rfl
    | true=>exact absurd (UInt8.toNat.inj (Nat.eq_of_beq_eq_true hq)) hx
   have h2:(x == c)=false:=by simpa using hx
   simp only [vAh,h1,cond_false,List.find?_cons,List.getD_cons_zero,h2];rw [vAa c r (k+1),List.find?_map];simp only [Function.comp_def,List.getD_cons_succ]
   cases (List.range r.length).find? fun i=>r.getD i 0 == c with
   | none=>rfl
   | some i=>simp only [Option.map_some];congr 1;omega
theorem find_congr {α:Type} {p q:α→Bool}:∀ {l:List α},(∀ x∈l,p x=q x)→l.find? p=l.find? q
 | [],_=>rfl
 | x::r,h=>by
  simp only [List.find?_cons,h x List.mem_cons_self,find_congr fun y hy=>h y (List.mem_cons_of_mem _ hy)]
theorem bAe (s:List UInt8) (c:UInt8):firstIdx ⟨s.toArray⟩ c=vAh c s 0:=by
 rw [vAa];unfold firstIdx;have hs:(⟨s.toArray⟩:ByteArray).size=s.length:=rfl;rw [hs];have hp:(List.range s.length).find? (fun i=>(⟨s.toArray⟩:ByteArray)[i]! == c)=(List.range s.length).find? (fun i=>s.getD i 0 == c):=by
  refine find_congr fun i hi=>?_;have hi':i<s.length:=List.mem_range.1 hi
  have:(⟨s.toArray⟩:ByteArray)[i]! = s.getD i 0:=by
   rw [getElem!_pos (⟨s.toArray⟩:ByteArray) i hi'];rw [List.getD_eq_getElem?_getD,List.getElem?_eq_getElem hi'];rfl
  rw [this]
 rw [hp]
 cases (List.range s.length).find? fun i=>s.getD i 0 == c with
 | none=>rfl
 | some i=>simp
def nBe:List AV→Heap→Option (AV×Heap)
 | [.str s,.int .u8 c],h=>some (.int .i64 (vAh c.toNat.toUInt8 s 0),h)
 | _,_=>none
theorem gB7 {args:List AV} {v:AV} {h h':Heap} (hx:nBe args h=some (v,h')) {μ:Mu} {w:World} {args':Array Value} (hr:HR μ h w) (hv:VRs μ args args'.toList) :
  ∃ u w',(callFunc 206 args').run Tryz.prog w=.ok (.value u) w'∧fB0 μ h w v h' u w':=by
 unfold nBe at hx
 split at hx
 ·rename_i s c
  simp only [Option.some.injEq,Prod.mk.injEq] at hx;obtain ⟨rfl,rfl⟩:=hx;simp only [VRs,VR] at hv;obtain ⟨y1,ys1,e1,rfl,y2,ys2,e2,rfl,e3⟩:=hv;subst e2 e3;have ea:args' = #[.string ⟨s.toArray⟩,.int .u8 c]:=by rw [← Array.toList_inj,e1]
  subst ea;refine ⟨.int .i64 (vAh c.toNat.toUInt8 s 0),w,?_,μ,by simp only [VR],hr,Ext.refl μ h w⟩;have h1:=@run_callFunc_extern Tryz.prog 206 _ Extern.BytealgIndexByte.indexByte Tryz.func206 (by kernel_rfl) (by kernel_rfl) (by kernel_rfl) (by kernel_rfl) #[.string ⟨s.toArray⟩,.int .u8 c] w;rw [h1,run_indexByte_string,bAe];rfl
 ·cases hx
def tBh (s:List UInt8) (c:Int) (h:Heap):Option (Int×Heap):=some (vAh c.toNat.toUInt8 s 0,h)
theorem cAe (N:Nat):tB0 Tryz.prog 206 [(.one .str),(.one (.int .u8))] (.val (.one (.int .i64))) (fun x h=>tBh x.1 x.2.1 h):=by
 intro xs h r h' hx μ w args' hr hv;have hx':some (vAh xs.2.1.toNat.toUInt8 xs.1 0,h)=some (r,h'):=hx;simp only [Option.some.injEq,Prod.mk.injEq] at hx';obtain ⟨rfl,rfl⟩:=hx';exact gB7 (args:=[.str xs.1,.int .u8 xs.2.1]) rfl hr hv
def nat:FuncId→Option (List AV→Heap→Option (AV×Heap)):=fun f=>bif Nat.beq f 192 then some asN else bif Nat.beq f 206 then some nBe else none
end Qa
set_option maxRecDepth 100000
namespace Qx
open Qa
theorem oBe:Tryz.prog.follows .mixedOrders=true:=by kernel_rfl
def h0:Heap:={ t:=Tr.set .nil 0 (.row [hdl] .ro),next:=2,pins:=[(0,dAp),(1,loc1)] }
def mu0:Mu:=fun A=>if A=0 then some dAp else if A=1 then some loc1 else none
theorem mu0_inv {A:Nat} {l:Ai.Loc} (h:mu0 A=some l):(A=0∧l=dAp)∨(A=1∧l=loc1):=by
 unfold mu0 at h
 split at h
 ·cases h;exact .inl ⟨by assumption,rfl⟩
 ·split at h
  ·cases h;exact .inr ⟨by assumption,rfl⟩
  ·cases h
theorem rN {A:Nat} {b:Blk} (h:h0.t.get A=some b):A=0∧b=.row [hdl] .ro:=by
 rcases Tr.get_set h with h | ⟨_,h⟩
 ·exact h
 ·simp [Tr.get_nil] at h
theorem h0_rof:Rof h0:=by
 refine ⟨fun A b hA=>?_,fun A hA=>?_⟩
 ·obtain ⟨_,rfl⟩:=rN hA;exact ⟨_,rfl⟩
 ·cases hb:h0.t.get A with
  | none=>rfl
  | some b=>
   have:=(rN hb).1
   have h1:(2:Nat)≤A:=hA;omega
theorem dAy {w:World} (hs:7<w.heap.size) {e:TypeId} (hsh:w.shape? 1=some (e,1)) (hc:w.cell? ⟨1,0,none⟩=some (.iface 232 (.agg #[.pointer (some ⟨7,29,none⟩)]))):HR mu0 h0 w:=by
 refine ⟨fun A l hA=>?_,fun A B la lb ba bb hA hB gA gB _ _ hne=>?_,fun A l b hA hb=>?_,fun x hx=>?_⟩
 ·rcases mu0_inv hA with ⟨rfl,rfl⟩ | ⟨rfl,rfl⟩
  ·exact ⟨by show 0<2;omega,by show 1<w.heap.size;omega⟩
  ·exact ⟨by show 1<2;omega,hs⟩
 ·exact absurd ((rN gA).1.trans (rN gB).1.symm) hne
 ·obtain ⟨rfl,rfl⟩:=rN hb
  rcases mu0_inv hA with ⟨_,rfl⟩ | ⟨h,_⟩
  ·refine ⟨⟨e,hsh⟩,Nat.le_refl _,fun i x hx=>?_⟩
   cases i with
   | zero=>
    have:x=hdl:=by simpa using hx.symm
    subst this;refine ⟨_,hc,?_⟩;simp only [hdl,VR,VRs];exact ⟨_,rfl,_,rfl,_,[],rfl,⟨loc1,rfl,rfl⟩,rfl⟩
   | succ i=>simp at hx
  ·cases h
 ·rcases List.mem_cons.1 hx with rfl | hx
  ·rfl
  ·rw [List.mem_singleton.1 hx];rfl
def pinned (h:Heap):Bool:=kA3 0 dAp h.pins&&kA3 1 loc1 h.pins&&mA6 (h.t.get 0) [hdl]
end Qx
namespace Qp
noncomputable section
abbrev zA:VTy:=.agg [(.int .i64),(.int .i64),.bool,.str,(.int .i64),.str,.slice,.slice,.bool,.str,.slice,(.int .i64),(.int .i64),(.int .i64),.str,.slice,(.int .i64),(.int .i64),.str,.slice,(.int .i64),.str,.slice,.str,.slice,.slice,(.int .i64),(.int .i64),.str,.slice,.slice,.slice]
abbrev zB:VTy:=.agg [(.int .i64),(.int .i64),(.int .i64),.str,.slice,(.int .i64),(.int .i64),.str,.slice,(.int .i64),.str,.slice,.str,.slice,.slice]
abbrev zC:VTy:=.agg [(.int .i64),.str,.slice,.slice]
abbrev zD:VTy:=.agg [.bool,.str,.slice,.slice,(.int .i64),.str,.slice,.slice,.slice,(.int .i64)]
abbrev zE:VTy:=.agg [(.int .i64),(.int .i64),.str,.slice]
abbrev zF:VTy:=.agg [(.int .i64),.str,(.int .i64)]
abbrev zG:VTy:=.agg [.bool,.str,.slice,.slice,(.int .i64)]
abbrev zI:VTy:=.agg [.bool,.str,(.int .i64),.str,.slice,.slice]
abbrev zJ:VTy:=.agg [.str,.slice]
abbrev zK:VTy:=.agg [.slice,.slice]
abbrev zL:Type:=Int×Int×Bool×List UInt8×Int×List UInt8×SL×SL×Bool×List UInt8×SL×Int×Int×Int×List UInt8×SL×Int×Int×List UInt8×SL×Int×List UInt8×SL×List UInt8×SL×SL×Int×Int×List UInt8×SL×SL×SL×Unit
abbrev zM:Type:=Int×List UInt8×SL×SL×Unit
abbrev zN:Type:=Int×Int×Int×List UInt8×SL×Int×Int×List UInt8×SL×Int×List UInt8×SL×List UInt8×SL×SL×Unit
abbrev zO:Type:=Option (Nat×Nat)×Option (Nat×Nat)×Unit
abbrev zP:Type:=Int×List UInt8×Int×Unit
abbrev zQ:Type:=List UInt8×Int×Option (Nat×Nat)×Unit
abbrev zR:Type:=Int×Int×List UInt8×SL×Unit
abbrev zS:Type:=Bool×List UInt8×SL×SL×Int×List UInt8×SL×SL×SL×Int×Unit
abbrev zT:Type:=Option (Nat×Nat)×Option (Nat×Nat)×Option (Nat×Nat)×Unit
abbrev zU:Type:=List UInt8×SL×Unit
abbrev zV:Type:=Bool×List UInt8×Int×List UInt8×SL×SL×Unit
abbrev zW:Type:=Bool×List UInt8×SL×SL×Int×Unit
abbrev zX:Type:=Int×Int×AV×Bool×List UInt8×Int×Int×Bool×Int×Int×SL×Int×Int×Bool×Unit
abbrev zY:Type:=Bool×Unit
abbrev zZ:Type:=Option (Nat×Nat)×Option (Nat×Nat)×SL×Unit
abbrev zA1:Type:=List UInt8×Int×Option (Nat×Nat)×Int×Unit
abbrev zB1:Type:=Int×Int×AV×Bool×List UInt8×Int×Int×Bool×Int×SL×Int×Int×Unit
abbrev zC1:Type:=Int×AV×List UInt8×Bool×Int×Unit
abbrev zD1:Type:=List UInt8×Int×Int×AV×Bool×List UInt8×Bool×Unit
abbrev zE1:Type:=SL×SL×Unit
abbrev zF1:Type:=Option (Nat×Nat)×Int×Option (Nat×Nat)×Option (Nat×Nat)×Unit
abbrev zG1:Type:=Int×AV×Unit
abbrev zH1:Type:=Int×Unit
abbrev zI1:Type:=List UInt8×Int×Int×Int×AV×Bool×List UInt8×Bool×Unit
abbrev zJ1:Type:=List UInt8×Int×Int×Int×AV×Bool×List UInt8×Unit
abbrev zK1:Type:=List UInt8×Int×Option (Nat×Nat)×Int×Int×Unit
abbrev zL1:Type:=Int×Int×Unit
abbrev zM1:Type:=Option (Nat×Nat)×Int×Unit
abbrev zN1:Type:=List UInt8×SL×Int×Int×SL×Unit
abbrev zO1:Type:=Option (Nat×Nat)×Bool×Unit
abbrev zP1:Type:=List UInt8×Bool×Int×Int×Bool×Unit
abbrev zQ1:Type:=Bool×Int×Unit
abbrev zR1:Type:=Int×Int×AV×Bool×List UInt8×Int×Int×Bool×Int×Int×SL×Int×Int×Unit
abbrev zS1:Type:=Int×AV×List UInt8×Int×Unit
abbrev zT1:Type:=List UInt8×List UInt8×Unit
abbrev zU1:Type:=SL×Unit
abbrev zV1:Type:=List UInt8×SL×AV×SL×Unit
abbrev zW1:Type:=List UInt8×Int×Int×Int×AV×Bool×List UInt8×Int×Unit
abbrev zX1:Type:=List UInt8×Int×Int×Unit
abbrev zY1:Type:=Bool×Int×Int×Bool×Unit
abbrev zZ1:Type:=List UInt8×Int×Option (Nat×Nat)×Int×Bool×Unit
abbrev zA2:Type:=Option (Nat×Nat)×Option (Nat×Nat)×Bool×Unit
abbrev zB2:Type:=Option (Nat×Nat)×Int×Option (Nat×Nat)×Unit
abbrev zC2:Type:=Option (Nat×Nat)×Option (Nat×Nat)×Int×Unit
abbrev zD2:Type:=List UInt8×Int×Unit
abbrev zE2:Type:=List UInt8×Bool×Int×Int×Bool×Bool×Unit
abbrev zF2:Type:=List UInt8×Int×AV×List UInt8×Bool×Unit
abbrev zG2:Type:=Option (Nat×Nat)×Int×SL×SL×Bool×Unit
abbrev zH2:Type:=List UInt8×Int×AV×List UInt8×Unit
abbrev zI2:Type:=List UInt8×Bool×Unit
abbrev zJ2:Type:=List UInt8×Bool×Int×Int×Unit
abbrev zK2:Type:=List UInt8×Int×Int×Bool×Unit
abbrev zL2:Type:=Option (Nat×Nat)×Int×SL×Unit
abbrev zM2:Type:=List UInt8×Int×AV×Bool×Unit
abbrev zN2:Type:=Int×AV×Bool×Int×Bool×Unit
abbrev zO2:Type:=Option (Nat×Nat)
abbrev zP2:VTy:=.one .ptr
abbrev zQ2:VTy:=.one .slice
abbrev zR2:VTy:=.one .str
abbrev zS2:VTy:=.one .bool
abbrev zT2:VTy:=.one (.int .i64)
abbrev zU2:VTy:=.one .any
abbrev zV2:Type:=List UInt8
noncomputable def E:Env:=kB0 Tryz.prog [] mAh
theorem iB7:EnvOK E Tryz.prog:=lAh (by kernel_rfl) (by kernel_rfl)
theorem oBe:Tryz.prog.follows .mixedOrders=true:=by kernel_rfl
abbrev yRA {β:Type} (v:Int×Int×Bool×List UInt8×Int×List UInt8×SL×SL×Bool×List UInt8×SL×Int×Int×Int×List UInt8×SL×Int×Int×List UInt8×SL×Int×List UInt8×SL×List UInt8×SL×SL×Int×Int×List UInt8×SL×SL×SL×β):List AV:=[(.int .i64 v.1),(.int .i64 v.2.1),(.bool v.2.2.1),(.str v.2.2.2.1),(.int .i64 v.2.2.2.2.1),(.str v.2.2.2.2.2.1),(.slice v.2.2.2.2.2.2.1.a v.2.2.2.2.2.2.1.len v.2.2.2.2.2.2.1.cap v.2.2.2.2.2.2.1.sz),(.slice v.2.2.2.2.2.2.2.1.a v.2.2.2.2.2.2.2.1.len v.2.2.2.2.2.2.2.1.cap v.2.2.2.2.2.2.2.1.sz),(.bool v.2.2.2.2.2.2.2.2.1),(.str v.2.2.2.2.2.2.2.2.2.1),(.slice v.2.2.2.2.2.2.2.2.2.2.1.a v.2.2.2.2.2.2.2.2.2.2.1.len v.2.2.2.2.2.2.2.2.2.2.1.cap v.2.2.2.2.2.2.2.2.2.2.1.sz),(.int .i64 v.2.2.2.2.2.2.2.2.2.2.2.1),(.int .i64 v.2.2.2.2.2.2.2.2.2.2.2.2.1),(.int .i64 v.2.2.2.2.2.2.2.2.2.2.2.2.2.1),(.str v.2.2.2.2.2.2.2.2.2.2.2.2.2.2.1),(.slice v.2.2.2.2.2.2.2.2.2.2.2.2.2.2.2.1.a v.2.2.2.2.2.2.2.2.2.2.2.2.2.2.2.1.len v.2.2.2.2.2.2.2.2.2.2.2.2.2.2.2.1.cap v.2.2.2.2.2.2.2.2.2.2.2.2.2.2.2.1.sz),(.int .i64 v.2.2.2.2.2.2.2.2.2.2.2.2.2.2.2.2.1),(.int .i64 v.2.2.2.2.2.2.2.2.2.2.2.2.2.2.2.2.2.1),(.str v.2.2.2.2.2.2.2.2.2.2.2.2.2.2.2.2.2.2.1),(.slice v.2.2.2.2.2.2.2.2.2.2.2.2.2.2.2.2.2.2.2.1.a v.2.2.2.2.2.2.2.2.2.2.2.2.2.2.2.2.2.2.2.1.len v.2.2.2.2.2.2.2.2.2.2.2.2.2.2.2.2.2.2.2.1.cap v.2.2.2.2.2.2.2.2.2.2.2.2.2.2.2.2.2.2.2.1.sz),(.int .i64 v.2.2.2.2.2.2.2.2.2.2.2.2.2.2.2.2.2.2.2.2.1),(.str v.2.2.2.2.2.2.2.2.2.2.2.2.2.2.2.2.2.2.2.2.2.1),(.slice v.2.2.2.2.2.2.2.2.2.2.2.2.2.2.2.2.2.2.2.2.2.2.1.a v.2.2.2.2.2.2.2.2.2.2.2.2.2.2.2.2.2.2.2.2.2.2.1.len v.2.2.2.2.2.2.2.2.2.2.2.2.2.2.2.2.2.2.2.2.2.2.1.cap v.2.2.2.2.2.2.2.2.2.2.2.2.2.2.2.2.2.2.2.2.2.2.1.sz),(.str v.2.2.2.2.2.2.2.2.2.2.2.2.2.2.2.2.2.2.2.2.2.2.2.1),(.slice v.2.2.2.2.2.2.2.2.2.2.2.2.2.2.2.2.2.2.2.2.2.2.2.2.1.a v.2.2.2.2.2.2.2.2.2.2.2.2.2.2.2.2.2.2.2.2.2.2.2.2.1.len v.2.2.2.2.2.2.2.2.2.2.2.2.2.2.2.2.2.2.2.2.2.2.2.2.1.cap v.2.2.2.2.2.2.2.2.2.2.2.2.2.2.2.2.2.2.2.2.2.2.2.2.1.sz),(.slice v.2.2.2.2.2.2.2.2.2.2.2.2.2.2.2.2.2.2.2.2.2.2.2.2.2.1.a v.2.2.2.2.2.2.2.2.2.2.2.2.2.2.2.2.2.2.2.2.2.2.2.2.2.1.len v.2.2.2.2.2.2.2.2.2.2.2.2.2.2.2.2.2.2.2.2.2.2.2.2.2.1.cap v.2.2.2.2.2.2.2.2.2.2.2.2.2.2.2.2.2.2.2.2.2.2.2.2.2.1.sz),(.int .i64 v.2.2.2.2.2.2.2.2.2.2.2.2.2.2.2.2.2.2.2.2.2.2.2.2.2.2.1),(.int .i64 v.2.2.2.2.2.2.2.2.2.2.2.2.2.2.2.2.2.2.2.2.2.2.2.2.2.2.2.1),(.str v.2.2.2.2.2.2.2.2.2.2.2.2.2.2.2.2.2.2.2.2.2.2.2.2.2.2.2.2.1),(.slice v.2.2.2.2.2.2.2.2.2.2.2.2.2.2.2.2.2.2.2.2.2.2.2.2.2.2.2.2.2.1.a v.2.2.2.2.2.2.2.2.2.2.2.2.2.2.2.2.2.2.2.2.2.2.2.2.2.2.2.2.2.1.len v.2.2.2.2.2.2.2.2.2.2.2.2.2.2.2.2.2.2.2.2.2.2.2.2.2.2.2.2.2.1.cap v.2.2.2.2.2.2.2.2.2.2.2.2.2.2.2.2.2.2.2.2.2.2.2.2.2.2.2.2.2.1.sz),(.slice v.2.2.2.2.2.2.2.2.2.2.2.2.2.2.2.2.2.2.2.2.2.2.2.2.2.2.2.2.2.2.1.a v.2.2.2.2.2.2.2.2.2.2.2.2.2.2.2.2.2.2.2.2.2.2.2.2.2.2.2.2.2.2.1.len v.2.2.2.2.2.2.2.2.2.2.2.2.2.2.2.2.2.2.2.2.2.2.2.2.2.2.2.2.2.2.1.cap v.2.2.2.2.2.2.2.2.2.2.2.2.2.2.2.2.2.2.2.2.2.2.2.2.2.2.2.2.2.2.1.sz),(.slice v.2.2.2.2.2.2.2.2.2.2.2.2.2.2.2.2.2.2.2.2.2.2.2.2.2.2.2.2.2.2.2.1.a v.2.2.2.2.2.2.2.2.2.2.2.2.2.2.2.2.2.2.2.2.2.2.2.2.2.2.2.2.2.2.2.1.len v.2.2.2.2.2.2.2.2.2.2.2.2.2.2.2.2.2.2.2.2.2.2.2.2.2.2.2.2.2.2.2.1.cap v.2.2.2.2.2.2.2.2.2.2.2.2.2.2.2.2.2.2.2.2.2.2.2.2.2.2.2.2.2.2.2.1.sz)]
abbrev yRB {β:Type} (v:Int×Int×Int×List UInt8×SL×Int×Int×List UInt8×SL×Int×List UInt8×SL×List UInt8×SL×SL×β):List AV:=[(.int .i64 v.1),(.int .i64 v.2.1),(.int .i64 v.2.2.1),(.str v.2.2.2.1),(.slice v.2.2.2.2.1.a v.2.2.2.2.1.len v.2.2.2.2.1.cap v.2.2.2.2.1.sz),(.int .i64 v.2.2.2.2.2.1),(.int .i64 v.2.2.2.2.2.2.1),(.str v.2.2.2.2.2.2.2.1),(.slice v.2.2.2.2.2.2.2.2.1.a v.2.2.2.2.2.2.2.2.1.len v.2.2.2.2.2.2.2.2.1.cap v.2.2.2.2.2.2.2.2.1.sz),(.int .i64 v.2.2.2.2.2.2.2.2.2.1),(.str v.2.2.2.2.2.2.2.2.2.2.1),(.slice v.2.2.2.2.2.2.2.2.2.2.2.1.a v.2.2.2.2.2.2.2.2.2.2.2.1.len v.2.2.2.2.2.2.2.2.2.2.2.1.cap v.2.2.2.2.2.2.2.2.2.2.2.1.sz),(.str v.2.2.2.2.2.2.2.2.2.2.2.2.1),(.slice v.2.2.2.2.2.2.2.2.2.2.2.2.2.1.a v.2.2.2.2.2.2.2.2.2.2.2.2.2.1.len v.2.2.2.2.2.2.2.2.2.2.2.2.2.1.cap v.2.2.2.2.2.2.2.2.2.2.2.2.2.1.sz),(.slice v.2.2.2.2.2.2.2.2.2.2.2.2.2.2.1.a v.2.2.2.2.2.2.2.2.2.2.2.2.2.2.1.len v.2.2.2.2.2.2.2.2.2.2.2.2.2.2.1.cap v.2.2.2.2.2.2.2.2.2.2.2.2.2.2.1.sz)]
abbrev yRC {β:Type} (v:Bool×List UInt8×SL×SL×Int×List UInt8×SL×SL×SL×Int×β):List AV:=[(.bool v.1),(.str v.2.1),(.slice v.2.2.1.a v.2.2.1.len v.2.2.1.cap v.2.2.1.sz),(.slice v.2.2.2.1.a v.2.2.2.1.len v.2.2.2.1.cap v.2.2.2.1.sz),(.int .i64 v.2.2.2.2.1),(.str v.2.2.2.2.2.1),(.slice v.2.2.2.2.2.2.1.a v.2.2.2.2.2.2.1.len v.2.2.2.2.2.2.1.cap v.2.2.2.2.2.2.1.sz),(.slice v.2.2.2.2.2.2.2.1.a v.2.2.2.2.2.2.2.1.len v.2.2.2.2.2.2.2.1.cap v.2.2.2.2.2.2.2.1.sz),(.slice v.2.2.2.2.2.2.2.2.1.a v.2.2.2.2.2.2.2.2.1.len v.2.2.2.2.2.2.2.2.1.cap v.2.2.2.2.2.2.2.2.1.sz),(.int .i64 v.2.2.2.2.2.2.2.2.2.1)]
abbrev yRD {β:Type} (v:Int×List UInt8×SL×SL×β):List AV:=[(.int .i64 v.1),(.str v.2.1),(.slice v.2.2.1.a v.2.2.1.len v.2.2.1.cap v.2.2.1.sz),(.slice v.2.2.2.1.a v.2.2.2.1.len v.2.2.2.1.cap v.2.2.2.1.sz)]
abbrev yRE {β:Type} (v:Int×Int×List UInt8×SL×β):List AV:=[(.int .i64 v.1),(.int .i64 v.2.1),(.str v.2.2.1),(.slice v.2.2.2.1.a v.2.2.2.1.len v.2.2.2.1.cap v.2.2.2.1.sz)]
abbrev yRF {β:Type} (v:Bool×List UInt8×Int×List UInt8×SL×SL×β):List AV:=[(.bool v.1),(.str v.2.1),(.int .i64 v.2.2.1),(.str v.2.2.2.1),(.slice v.2.2.2.2.1.a v.2.2.2.2.1.len v.2.2.2.2.1.cap v.2.2.2.2.1.sz),(.slice v.2.2.2.2.2.1.a v.2.2.2.2.2.1.len v.2.2.2.2.2.1.cap v.2.2.2.2.2.1.sz)]
abbrev yRG {β:Type} (v:Bool×List UInt8×SL×SL×Int×β):List AV:=[(.bool v.1),(.str v.2.1),(.slice v.2.2.1.a v.2.2.1.len v.2.2.1.cap v.2.2.1.sz),(.slice v.2.2.2.1.a v.2.2.2.1.len v.2.2.2.1.cap v.2.2.2.1.sz),(.int .i64 v.2.2.2.2.1)]
abbrev yRH {β:Type} (v:Int×List UInt8×Int×β):List AV:=[(.int .i64 v.1),(.str v.2.1),(.int .i64 v.2.2.1)]
abbrev yRI {β:Type} (v:List UInt8×SL×β):List AV:=[(.str v.1),(.slice v.2.1.a v.2.1.len v.2.1.cap v.2.1.sz)]
abbrev yRJ {β:Type} (v:SL×SL×β):List AV:=[(.slice v.1.a v.1.len v.1.cap v.1.sz),(.slice v.2.1.a v.2.1.len v.2.1.cap v.2.1.sz)]
abbrev yZA:List AV:=[(.int .i64 0),(.int .i64 0),(.bool false),(.str []),(.int .i64 0),(.str []),(.slice none 0 0 0),(.slice none 0 0 0),(.bool false),(.str []),(.slice none 0 0 0),(.int .i64 0),(.int .i64 0),(.int .i64 0),(.str []),(.slice none 0 0 0),(.int .i64 0),(.int .i64 0),(.str []),(.slice none 0 0 0),(.int .i64 0),(.str []),(.slice none 0 0 0),(.str []),(.slice none 0 0 0),(.slice none 0 0 0),(.int .i64 0),(.int .i64 0),(.str []),(.slice none 0 0 0),(.slice none 0 0 0),(.slice none 0 0 0)]
abbrev yZB:List AV:=[(.int .i64 0),(.int .i64 0),(.int .i64 0),(.str []),(.slice none 0 0 0),(.int .i64 0),(.int .i64 0),(.str []),(.slice none 0 0 0),(.int .i64 0),(.str []),(.slice none 0 0 0),(.str []),(.slice none 0 0 0),(.slice none 0 0 0)]
abbrev yZC:List AV:=[(.bool false),(.str []),(.slice none 0 0 0),(.slice none 0 0 0),(.int .i64 0),(.str []),(.slice none 0 0 0),(.slice none 0 0 0),(.slice none 0 0 0),(.int .i64 0)]
abbrev yZD:List AV:=[(.int .i64 0),(.str []),(.slice none 0 0 0),(.slice none 0 0 0)]
abbrev yZE:List AV:=[(.int .i64 0),(.str []),(.int .i64 0)]
abbrev yZF:List AV:=[(.bool false),(.str []),(.int .i64 0),(.str []),(.slice none 0 0 0),(.slice none 0 0 0)]
abbrev yZG:List AV:=[(.bool false),(.str []),(.slice none 0 0 0),(.slice none 0 0 0),(.int .i64 0)]
abbrev yZH:List AV:=[(.slice none 0 0 0),(.slice none 0 0 0)]
abbrev yZI:List AV:=[(.int .i64 0),(.int .i64 0),(.str []),(.slice none 0 0 0)]
abbrev yZJ:List AV:=[(.str []),(.slice none 0 0 0)]
abbrev yZK:List AV:=[(.int .i64 0)]
theorem qD {C:CallK} (hC:CallKOK Tryz.prog C) (N:Nat) (x:Ann) (fn:Func) {f:FuncId} {l:List VTy} {t:Ty} {F:yG l→Heap→Option (t.den×Heap)} (h1:E.fn f=some fn:=by kernel_rfl) (h2:fn.body=some (fn.body.getD .skip):=by kernel_rfl) (h3:Nat.ble fn.ntmps 1073741824=true:=by kernel_rfl) (h4:Nat.beq fn.results.size fn.resultTypes.size=true:=by kernel_rfl) (h5:∀ xs h,F xs h=runK E C N x fn (fn.body.getD .skip) t (VTy.tos l xs) h:=by intro _ _;kernel_rfl):jD Tryz.prog f l t F:=nAo iB7 oBe hC h1 h2 h3 h4 h5
def f37 (N:Nat) (a0 a1:Int) (h:Heap):Option (AV×Heap):=let x1:=dB a0 0;(bif x1 then some (AV.nilIface,h)else let h2:=h.push (.row [(.int .i64 a0),(.int .i64 a1),(AV.iface 78 (.int .i64 a0))] .own);some ((AV.iface 127 (.ptr (some (h.next,0)))),h2))
def pBe:Ann:=.n
theorem eAy (N:Nat):jD Tryz.prog 37 [zT2,zT2] (.val zU2) (fun x h=>f37 N x.1 x.2.1 h):=qD kA N pBe Tryz.f37
def f186 (N:Nat) (a0 a1:zV2) (h:Heap):Option (Bool×Heap):=let x1:Bool:=eD (Int.ofNat a1.length) (Int.ofNat a0.length);(bif x1 then(iA (.val zR2) (rD E h 9 (.str a0) none (some (.int .i64 (Int.ofNat a1.length)))) fun (x2:zV2)=>let x3:=jB x2 a1;some (x3,h))else some (false,h))
def jB7:Ann:=.n
theorem wB0 (N:Nat):jD Tryz.prog 186 [zR2,zR2] (.val zS2) (fun x h=>f186 N x.1 x.2.1 h):=qD kA N jB7 Tryz.f186
def f140 (N:Nat) (a0 a1:zV2) (h:Heap):Option (Bool×Heap):=(lA (f186 N a0 a1 h) fun (x1:Bool) h2=>some (x1,h2))
def kB7:Ann:=.n
theorem fAp (N:Nat):jD Tryz.prog 140 [zR2,zR2] (.val zS2) (fun x h=>f140 N x.1 x.2.1 h):=qD (bA (wB0 N) kA) N kB7 Tryz.f140
def f206 (N:Nat) (a0:zV2) (a1:Int) (h:Heap):Option (Int×Heap):=Qa.tBh a0 a1 h
theorem cAe (N:Nat):tB0 Tryz.prog 206 [zR2,(.one (.int .u8))] (.val zT2) (fun x h=>f206 N x.1 x.2.1 h):=Qa.cAe N
def f187 (N:Nat) (a0:zV2) (a1:Int) (h:Heap):Option (Int×Heap):=(lA (f206 N a0 a1 h) fun (x1:Int) h2=>some (x1,h2))
def lB7:Ann:=.n
theorem yB0 (N:Nat):jD Tryz.prog 187 [zR2,(.one (.int .u8))] (.val zT2) (fun x h=>f187 N x.1 x.2.1 h):=qD (uAd (cAe N) kA) N lB7 Tryz.f187
def f141 (N:Nat) (a0:zV2) (a1:Int) (h:Heap):Option (Int×Heap):=(lA (f187 N a0 a1 h) fun (x1:Int) h2=>some (x1,h2))
def mB7:Ann:=.n
theorem gAp (N:Nat):jD Tryz.prog 141 [zR2,(.one (.int .u8))] (.val zT2) (fun x h=>f141 N x.1 x.2.1 h):=qD (bA (yB0 N) kA) N mB7 Tryz.f141
def nA6 (N:Nat) (go:zV2→Int→Int→Heap→Option (Out×zL1×Heap)) (v0:zV2) (v1 v4:Int) (h:Heap):Option (Out×zL1×Heap):=let x1:=qB v1 (Int.ofNat v0.length);(bif x1 then(rG v0 v1 fun x2=>let x3:=dB x2 32;(bif x3 then let x4:=wA .i64 (v1+1);go v0 x4 v4 h else(rG v0 v1 fun x5=>let x6:=dB x5 9;(bif x6 then let x7:=wA .i64 (v1+1);go v0 x7 v4 h else(rG v0 v1 fun x8=>let x9:=dB x8 10;(bif x9 then let x10:=wA .i64 (v1+1);go v0 x10 v4 h else(iA (.val zR2) (rD E h 9 (.str v0) (some (.int .i64 v1)) none) fun (x11:zV2)=>(lA (f140 N x11 [47,47] h) fun (x12:Bool) h13=>(bif x12 then(iA (.val zR2) (rD E h13 9 (.str v0) (some (.int .i64 v1)) none) fun (x14:zV2)=>(lA (f141 N x14 10 h13) fun (x15:Int) h16=>let x17:=qB x15 0;(bif x17 then some (Out.ret,(v1,(Int.ofNat v0.length),()),h16)else let x18:=wA .i64 (v1+x15);go v0 x18 v4 h16)))else some (Out.ret,(v1,v1,()),h13))))))))))else some ((Out.exit 0),(v1,v4,()),h))
def wAh (N M:Nat) (v0:zV2) (v1 v4:Int) (h:Heap):Option (Out×zL1×Heap):=iter (fun go s h=>nA6 N (fun v0 v1 v4 h=>go (v0,v1,v4,()) h) s.1 s.2.1 s.2.2.1 h) M (v0,v1,v4,()) h
theorem dAe (N M v0 v1 v4 h):wAh N (M+1) v0 v1 v4 h=nA6 N (wAh N M) v0 v1 v4 h:=rfl
def f90 (N:Nat) (a0:zV2) (a1:Int) (h:Heap):Option (Int×Heap):=(pD (wAh N N a0 a1 0 h) fun o19 (j20:zL1) h21=>(bif uD o19 (.exit 0) then some (j20.1,h21)else some (j20.2.1,h21)))
def qBe:Ann:=(.two .n (.two (.two (.loop [(0,zR2),(1,zT2),(4,zT2)] [(.exit 0),.ret] [(1,zT2),(4,zT2)] .n) .n) .n))
theorem nB7 (N:Nat):jD Tryz.prog 90 [zR2,zT2] (.val zT2) (fun x h=>f90 N x.1 x.2.1 h):=qD (bA (gAp N) (bA (fAp N) kA)) N qBe Tryz.f90
def f170 (N:Nat) (a0:Int) (h:Heap):Option (Bool×Heap):=let x1:Bool:=eD 97 a0;(bif x1 then let x2:Bool:=eD a0 122;(bif x2 then some (true,h)else let x3:Bool:=eD 65 a0;(bif x3 then let x4:Bool:=eD a0 90;(bif x4 then some (true,h)else let x5:=dB a0 95;(bif x5 then some (true,h)else some (false,h)))else let x6:=dB a0 95;(bif x6 then some (true,h)else some (false,h))))else let x7:Bool:=eD 65 a0;(bif x7 then let x8:Bool:=eD a0 90;(bif x8 then some (true,h)else let x9:=dB a0 95;(bif x9 then some (true,h)else some (false,h)))else let x10:=dB a0 95;(bif x10 then some (true,h)else some (false,h))))
def oB7:Ann:=.n
theorem iAp (N:Nat):jD Tryz.prog 170 [(.one (.int .u8))] (.val zS2) (fun x h=>f170 N x.1 h):=qD kA N oB7 Tryz.f170
def f195 (N:Nat) (a0:Int) (h:Heap):Option (Bool×Heap):=(lA (f170 N a0 h) fun (x1:Bool) h2=>(bif x1 then some (true,h2)else let x3:Bool:=eD 48 a0;(bif x3 then let x4:Bool:=eD a0 57;some (x4,h2)else some (false,h2))))
def pB7:Ann:=.n
theorem aB1 (N:Nat):jD Tryz.prog 195 [(.one (.int .u8))] (.val zS2) (fun x h=>f195 N x.1 h):=qD (bA (iAp N) kA) N pB7 Tryz.f195
def yA0 (N:Nat) (go:zV2→Int→Heap→Option (Out×zH1×Heap)) (v0:zV2) (v1:Int) (h:Heap):Option (Out×zH1×Heap):=let x1:=qB v1 (Int.ofNat v0.length);(bif x1 then(rG v0 v1 fun x2=>(lA (f195 N x2 h) fun (x3:Bool) h4=>(bif x3 then let x5:=wA .i64 (v1+1);go v0 x5 h4 else some ((Out.exit 0),(v1,()),h4))))else some ((Out.exit 0),(v1,()),h))
def oA6 (N M:Nat) (v0:zV2) (v1:Int) (h:Heap):Option (Out×zH1×Heap):=iter (fun go s h=>yA0 N (fun v0 v1 h=>go (v0,v1,()) h) s.1 s.2.1 h) M (v0,v1,()) h
theorem wAa (N M v0 v1 h):oA6 N (M+1) v0 v1 h=yA0 N (oA6 N M) v0 v1 h:=rfl
def f171 (N:Nat) (a0:zV2) (a1:Int) (h:Heap):Option (Int×Heap):=(pD (oA6 N N a0 a1 h) fun _ (j7:zH1) h8=>some (j7.1,h8))
def qB7:Ann:=(.two .n (.two (.two (.loop [(0,zR2),(1,zT2)] [(.exit 0)] [(1,zT2)] .n) .n) .n))
theorem eAe (N:Nat):jD Tryz.prog 171 [zR2,zT2] (.val zT2) (fun x h=>f171 N x.1 x.2.1 h):=qD (bA (aB1 N) kA) N qB7 Tryz.f171
def f172 (N:Nat) (a0:zV2) (h:Heap):Option (Bool×Heap):=let x1:=jB a0 [102,110];(bif x1 then(bif x1 then some (true,h)else some (false,h))else let x2:=jB a0 [115,116,114,117,99,116];(bif x2 then(bif x2 then some (true,h)else some (false,h))else let x3:=jB a0 [112,117,98];(bif x3 then(bif x3 then some (true,h)else some (false,h))else let x4:=jB a0 [108,101,116];(bif x4 then(bif x4 then some (true,h)else some (false,h))else let x5:=jB a0 [109,117,116];(bif x5 then(bif x5 then some (true,h)else some (false,h))else let x6:=jB a0 [105,102];(bif x6 then(bif x6 then some (true,h)else some (false,h))else let x7:=jB a0 [101,108,115,101];(bif x7 then(bif x7 then some (true,h)else some (false,h))else let x8:=jB a0 [119,104,105,108,101];(bif x8 then(bif x8 then some (true,h)else some (false,h))else let x9:=jB a0 [108,111,111,112];(bif x9 then(bif x9 then some (true,h)else some (false,h))else let x10:=jB a0 [98,114,101,97,107];(bif x10 then(bif x10 then some (true,h)else some (false,h))else let x11:=jB a0 [99,111,110,116,105,110,117,101];(bif x11 then(bif x11 then some (true,h)else some (false,h))else let x12:=jB a0 [114,101,116,117,114,110];(bif x12 then(bif x12 then some (true,h)else some (false,h))else let x13:=jB a0 [100,114,111,112];(bif x13 then(bif x13 then some (true,h)else some (false,h))else let x14:=jB a0 [116,114,117,101];(bif x14 then(bif x14 then some (true,h)else some (false,h))else let x15:=jB a0 [102,97,108,115,101]
 (bif x15 then(bif x15 then some (true,h)else some (false,h))else let x16:=jB a0 [105,110,116];(bif x16 then(bif x16 then some (true,h)else some (false,h))else let x17:=jB a0 [98,111,111,108];(bif x17 then some (true,h)else some (false,h))))))))))))))))))
def rB7:Ann:=.n
theorem bB1 (N:Nat):jD Tryz.prog 172 [zR2] (.val zS2) (fun x h=>f172 N x.1 h):=qD kA N rB7 Tryz.f172
def f142 (N:Nat) (a0:zV2) (a1:Int) (h:Heap):Option ((zP×Int×Unit)×Heap):=let h1:=h.push (.row yZE .own);(lA (f171 N a0 a1 h1) fun (x2:Int) h3=>(iA (.val zR2) (rD E h3 9 (.str a0) (some (.int .i64 a1)) (some (.int .i64 x2))) fun (x4:zV2)=>(lA (f172 N x4 h3) fun (x5:Bool) h6=>(bif x5 then(rA (h6.store (h.next,0) [(.int .i64 2),(.str x4),(.int .i64 a1)]) fun h7=>(iA (.val zF) (h7.cells (h.next,0) 3) fun (x8:zP)=>some (((x8.1,x8.2.1,x8.2.2.1,()),x2,()),h7)))else let x9:Bool:=eD (Int.ofNat x4.length) 32;(bif x9 then(rA (h6.store (h.next,0) [(.int .i64 1),(.str x4),(.int .i64 a1)]) fun h10=>(iA (.val zF) (h10.cells (h.next,0) 3) fun (x11:zP)=>some (((x11.1,x11.2.1,x11.2.2.1,()),x2,()),h10)))else(rA (h6.store (h.next,0) yZE) fun h12=>(iA (.val zF) (h12.cells (h.next,0) 3) fun (x13:zP)=>some (((x13.1,x13.2.1,x13.2.2.1,()),0,()),h12))))))))
def tB7:Ann:=.n
theorem cB1 (N:Nat):jD Tryz.prog 142 [zR2,zT2] (.tup [zF,zT2]) (fun x h=>f142 N x.1 x.2.1 h):=qD (bA (bB1 N) (bA (eAe N) kA)) N tB7 Tryz.f142
def aA1 (N:Nat) (go:zV2→Int→zO2→Int→Int→Int→Int→Heap→Option (Out×zK1×Heap)) (v0:zV2) (v1:Int) (v4:zO2) (v5 v6 v7 v8:Int) (h:Heap):Option (Out×zK1×Heap):=let x4:=qB v8 v6;(bif x4 then(rG v0 v8 fun x5=>let x6:=qB x5 48;(bif x6 then(rA v4 fun q8=>(rA (h.store q8 yZE) fun h7=>some (Out.ret,(v0,v1,v4,0,v6,()),h7)))else(rG v0 v8 fun x9=>let x10:=qB 57 x9;(bif x10 then(rA v4 fun q12=>(rA (h.store q12 yZE) fun h11=>some (Out.ret,(v0,v1,v4,0,v6,()),h11)))else let x13:=wA .i64 (v7 * 10);(rG v0 v8 fun x14=>let x15:=wA .u8 (x14-48);let x16:=wA .i64 x15;let x17:=wA .i64 (x13+x16);let x18:=qB 2147483647 x17;(bif x18 then(rA v4 fun q20=>(rA (h.store q20 yZE) fun h19=>some (Out.ret,(v0,v1,v4,0,v6,()),h19)))else let x21:=wA .i64 (v8+1);go v0 v1 v4 v5 v6 x17 x21 h))))))else some ((Out.exit 0),(v0,v1,v4,v5,v6,()),h))
def pA6 (N M:Nat) (v0:zV2) (v1:Int) (v4:zO2) (v5 v6 v7 v8:Int) (h:Heap):Option (Out×zK1×Heap):=iter (fun go s h=>aA1 N (fun v0 v1 v4 v5 v6 v7 v8 h=>go (v0,v1,v4,v5,v6,v7,v8,()) h) s.1 s.2.1 s.2.2.1 s.2.2.2.1 s.2.2.2.2.1 s.2.2.2.2.2.1 s.2.2.2.2.2.2.1 h) M (v0,v1,v4,v5,v6,v7,v8,()) h
theorem yAa (N M v0 v1 v4 v5 v6 v7 v8 h):pA6 N (M+1) v0 v1 v4 v5 v6 v7 v8 h=aA1 N (pA6 N M) v0 v1 v4 v5 v6 v7 v8 h:=rfl
def f143 (N:Nat) (a0:zV2) (a1:Int) (h:Heap):Option ((zP×Int×Unit)×Heap):=let h1:=h.push (.row yZE .own);(lA (f171 N a0 a1 h1) fun (x2:Int) h3=>(pD (pA6 N N a0 a1 (some (h.next,0)) 0 x2 0 a1 h3) fun o22 (j23:zK1) h24=>(bif uD o22 (.exit 0) then(rG j23.1 j23.2.1 fun x25=>let x26:=dB x25 48;(bif x26 then let x27:=wA .i64 (j23.2.2.2.2.1-j23.2.1);let x28:=qB 1 x27;(bif x28 then(rA j23.2.2.1 fun q30=>(rA (h24.store q30 yZE) fun h29=>(rA j23.2.2.1 fun q31=>(iA (.val zF) (h29.cells q31 3) fun (x32:zP)=>some (((x32.1,x32.2.1,x32.2.2.1,()),0,()),h29)))))else(iA (.val zR2) (rD E h24 9 (.str j23.1) (some (.int .i64 j23.2.1)) (some (.int .i64 j23.2.2.2.2.1))) fun (x33:zV2)=>(rA j23.2.2.1 fun q35=>(rA (h24.store q35 [(.int .i64 4),(.str x33),(.int .i64 j23.2.1)]) fun h34=>(rA j23.2.2.1 fun q36=>(iA (.val zF) (h34.cells q36 3) fun (x37:zP)=>some (((x37.1,x37.2.1,x37.2.2.1,()),j23.2.2.2.2.1,()),h34)))))))else(iA (.val zR2) (rD E h24 9 (.str j23.1) (some (.int .i64 j23.2.1)) (some (.int .i64 j23.2.2.2.2.1))) fun (x38:zV2)=>(rA j23.2.2.1 fun q40=>(rA (h24.store q40 [(.int .i64 4),(.str x38),(.int .i64 j23.2.1)]) fun h39=>(rA j23.2.2.1 fun q41=>(iA (.val zF) (h39.cells q41 3) fun (x42:zP)=>some (((x42.1,x42.2.1,x42.2.2.1,()),j23.2.2.2.2.1,()),h39))))))))else(rA j23.2.2.1 fun q43=>(iA (.val zF) (h24.cells q43 3) fun (x44:zP)=>some (((x44.1,x44.2.1,x44.2.2.1,()),j23.2.2.2.1,()),h24))))))
def uB7:Ann:=(.two .n (.two .n (.two .n (.two (.two .n (.two (.loop [(0,zR2),(1,zT2),(4,zP2),(5,zT2),(6,zT2),(7,zT2),(8,zT2)] [(.exit 0),.ret] [(0,zR2),(1,zT2),(4,zP2),(5,zT2),(6,zT2)] .n) .n)) .n))))
theorem dB1 (N:Nat):jD Tryz.prog 143 [zR2,zT2] (.tup [zF,zT2]) (fun x h=>f143 N x.1 x.2.1 h):=qD (bA (eAe N) kA) N uB7 Tryz.f143
def f144 (N:Nat) (a0:zV2) (a1:Int) (h:Heap):Option ((zP×Int×Unit)×Heap):=let h1:=h.push (.row yZE .own);let x2:=wA .i64 (a1+1);let x3:=dB x2 (Int.ofNat a0.length);(bif x3 then(rA (h1.store (h.next,0) yZE) fun h4=>(iA (.val zF) (h4.cells (h.next,0) 3) fun (x5:zP)=>some (((x5.1,x5.2.1,x5.2.2.1,()),0,()),h4)))else let x6:=wA .i64 (a1+1);(rG a0 x6 fun x7=>(lA (f170 N x7 h1) fun (x8:Bool) h9=>let x10:=!x8;(bif x10 then(rA (h9.store (h.next,0) yZE) fun h11=>(iA (.val zF) (h11.cells (h.next,0) 3) fun (x12:zP)=>some (((x12.1,x12.2.1,x12.2.2.1,()),0,()),h11)))else let x13:=wA .i64 (a1+1);(lA (f171 N a0 x13 h9) fun (x14:Int) h15=>let x16:=wA .i64 (x14-a1);let x17:=wA .i64 (x16-1);let x18:=qB 32 x17;(bif x18 then(rA (h15.store (h.next,0) yZE) fun h19=>(iA (.val zF) (h19.cells (h.next,0) 3) fun (x20:zP)=>some (((x20.1,x20.2.1,x20.2.2.1,()),0,()),h19)))else let x21:=wA .i64 (a1+1);(iA (.val zR2) (rD E h15 9 (.str a0) (some (.int .i64 x21)) (some (.int .i64 x14))) fun (x22:zV2)=>(rA (h15.store (h.next,0) [(.int .i64 3),(.str x22),(.int .i64 a1)]) fun h23=>(iA (.val zF) (h23.cells (h.next,0) 3) fun (x24:zP)=>some (((x24.1,x24.2.1,x24.2.2.1,()),x14,()),h23))))))))))
def vB7:Ann:=.n
theorem eB1 (N:Nat):jD Tryz.prog 144 [zR2,zT2] (.tup [zF,zT2]) (fun x h=>f144 N x.1 x.2.1 h):=qD (bA (eAe N) (bA (iAp N) kA)) N vB7 Tryz.f144
def bA1 (N:Nat) (go:zV2→Int→zO2→Int→SL→Int→Int→Heap→Option (Out×zA1×Heap)) (v0:zV2) (v1:Int) (v4:zO2) (v5:Int) (v8:SL) (v9 v10:Int) (h:Heap):Option (Out×zA1×Heap):=let x3:=qB v10 v9;(bif x3 then(ixK v8.a v8.len v10 1 fun q4=>(iA (.val zR2) (h.cell q4) fun (x5:zV2)=>(iA (.val zR2) (rD E h 9 (.str v0) (some (.int .i64 v1)) none) fun (x6:zV2)=>(lA (f140 N x6 x5 h) fun (x7:Bool) h8=>(bif x7 then let x9:=wA .i64 (v1+2);(rA v4 fun q11=>(rA (h8.store q11 [(.int .i64 5),(.str x5),(.int .i64 v1)]) fun h10=>some (Out.ret,(v0,v1,v4,x9,()),h10)))else let x12:=wA .i64 (v10+1);go v0 v1 v4 v5 v8 v9 x12 h8)))))else some ((Out.exit 0),(v0,v1,v4,v5,()),h))
def qA6 (N M:Nat) (v0:zV2) (v1:Int) (v4:zO2) (v5:Int) (v8:SL) (v9 v10:Int) (h:Heap):Option (Out×zA1×Heap):=iter (fun go s h=>bA1 N (fun v0 v1 v4 v5 v8 v9 v10 h=>go (v0,v1,v4,v5,v8,v9,v10,()) h) s.1 s.2.1 s.2.2.1 s.2.2.2.1 s.2.2.2.2.1 s.2.2.2.2.2.1 s.2.2.2.2.2.2.1 h) M (v0,v1,v4,v5,v8,v9,v10,()) h
theorem aAb (N M v0 v1 v4 v5 v8 v9 v10 h):qA6 N (M+1) v0 v1 v4 v5 v8 v9 v10 h=bA1 N (qA6 N M) v0 v1 v4 v5 v8 v9 v10 h:=rfl
def f145 (N:Nat) (a0:zV2) (a1:Int) (h:Heap):Option ((zP×Int×Unit)×Heap):=let h1:=h.push (.row yZE .own);let h2:=h1.push (.row [(.str [58,58]),(.str [45,62]),(.str [61,61])] .own);(pD (qA6 N N a0 a1 (some (h.next,0)) 0 ⟨(some (h1.next,0)),3,3,1⟩ (Int.ofNat 3) 0 h2) fun o13 (j14:zA1) h15=>(bif uD o13 (.exit 0) then(rG j14.1 j14.2.1 fun x16=>(lA (f141 N [40,41,123,125,60,62,44,59,58,46,42,38,43,45,61,33] x16 h15) fun (x17:Int) h18=>let x19:=qB x17 0;(bif x19 then(rA j14.2.2.1 fun q21=>(rA (h18.store q21 yZE) fun h20=>(rA j14.2.2.1 fun q22=>(iA (.val zF) (h20.cells q22 3) fun (x23:zP)=>some (((x23.1,x23.2.1,x23.2.2.1,()),0,()),h20)))))else let x24:=wA .i64 (j14.2.1+1);(iA (.val zR2) (rD E h18 9 (.str j14.1) (some (.int .i64 j14.2.1)) (some (.int .i64 x24))) fun (x25:zV2)=>let x26:=wA .i64 (j14.2.1+1);(rA j14.2.2.1 fun q28=>(rA (h18.store q28 [(.int .i64 5),(.str x25),(.int .i64 j14.2.1)]) fun h27=>(rA j14.2.2.1 fun q29=>(iA (.val zF) (h27.cells q29 3) fun (x30:zP)=>some (((x30.1,x30.2.1,x30.2.2.1,()),x26,()),h27)))))))))else(rA j14.2.2.1 fun q31=>(iA (.val zF) (h15.cells q31 3) fun (x32:zP)=>some (((x32.1,x32.2.1,x32.2.2.1,()),j14.2.2.2.1,()),h15)))))
def wB7:Ann:=(.two .n (.two (.two .n (.two (.loop [(0,zR2),(1,zT2),(4,zP2),(5,zT2),(8,zQ2),(9,zT2),(10,zT2)] [(.exit 0),.ret] [(0,zR2),(1,zT2),(4,zP2),(5,zT2)] .n) .n)) .n))
theorem fB1 (N:Nat):jD Tryz.prog 145 [zR2,zT2] (.tup [zF,zT2]) (fun x h=>f145 N x.1 x.2.1 h):=qD (bA (gAp N) (bA (fAp N) kA)) N wB7 Tryz.f145
def f91 (N:Nat) (a0:zV2) (a1:Int) (h:Heap):Option ((zP×Int×Unit)×Heap):=let h1:=h.push (.row yZE .own);(rA (α:=Sum (zQ×Heap) (Sum (zM1×Heap) (Empty))) ((rG a0 a1 fun x2=>(rA (α:=Sum (zQ×Heap) (Sum (zQ×Heap) (Sum (zM1×Heap) (Empty)))) ((rA (α:=Sum (zQ×Heap) (Sum (zQ×Heap) (Sum (zQ×Heap) (Sum (zM1×Heap) (Empty))))) ((rA (α:=Sum (zQ×Heap) (Sum (zQ×Heap) (Sum (zQ×Heap) (Sum (zQ×Heap) (Sum (zQ×Heap) (Empty)))))) ((rA (α:=Sum (zA1×Heap) (Sum (zQ×Heap) (Empty))) ( let x3:Bool:=eD 97 x2;(bif x3 then let x4:Bool:=eD x2 122;(bif x4 then some (Sum.inr (Sum.inl ((a0,a1,(some (h.next,0)),()),h1)))else some (Sum.inl ((a0,a1,(some (h.next,0)),x2,()),h1)))else some (Sum.inl ((a0,a1,(some (h.next,0)),x2,()),h1)))) fun j5=>(jE j5 (fun (j6:zA1) h7=>(rA (α:=Sum (zA1×Heap) (Sum (zQ×Heap) (Empty))) ((lA (α:=zZ1) ( let x9:Bool:=eD 65 j6.2.2.2.1;(bif x9 then let x10:Bool:=eD j6.2.2.2.1 90;some ((j6.1,j6.2.1,j6.2.2.1,j6.2.2.2.1,x10,()),h7)else some ((j6.1,j6.2.1,j6.2.2.1,j6.2.2.2.1,false,()),h7))) fun (j11:zZ1) h12=>(bif j11.2.2.2.2.1 then(bif j11.2.2.2.2.1 then some (Sum.inr (Sum.inl ((j11.1,j11.2.1,j11.2.2.1,()),h12)))else some (Sum.inl ((j11.1,j11.2.1,j11.2.2.1,j11.2.2.2.1,()),h12)))else let x13:=dB j11.2.2.2.1 95;(bif x13 then some (Sum.inr (Sum.inl ((j11.1,j11.2.1,j11.2.2.1,()),h12)))else some (Sum.inl ((j11.1,j11.2.1,j11.2.2.1,j11.2.2.2.1,()),h12)))))) fun j14=>(jE j14 (fun (j15:zA1) h16=>let x18:=dB j15.2.2.2.1 48;(bif x18 then some (Sum.inr (Sum.inr (Sum.inl ((j15.1,j15.2.1,j15.2.2.1,()),h16))))
 else(rA (α:=Sum (zA1×Heap) (Sum (zQ×Heap) (Empty))) ( let x19:Bool:=eD 49 j15.2.2.2.1;(bif x19 then let x20:Bool:=eD j15.2.2.2.1 57;(bif x20 then some (Sum.inr (Sum.inl ((j15.1,j15.2.1,j15.2.2.1,()),h16)))else some (Sum.inl ((j15.1,j15.2.1,j15.2.2.1,j15.2.2.2.1,()),h16)))else some (Sum.inl ((j15.1,j15.2.1,j15.2.2.1,j15.2.2.2.1,()),h16)))) fun j21=>(jE j21 (fun (j22:zA1) h23=>let x25:=dB j22.2.2.2.1 39;(bif x25 then some (Sum.inr (Sum.inr (Sum.inr (Sum.inr (Sum.inl ((j22.1,j22.2.1,j22.2.2.1,()),h23))))))else some (Sum.inr (Sum.inl ((j22.1,j22.2.1,j22.2.2.1,()),h23))))) fun j24=>(jE j24 (fun (j26:zQ) h27=>some (Sum.inr (Sum.inr (Sum.inr (Sum.inl ((j26.1,j26.2.1,j26.2.2.1,()),h27)))))) fun _=>none))))) fun j17=>(jE j17 (fun (j29:zQ) h30=>some (Sum.inl ((j29.1,j29.2.1,j29.2.2.1,()),h30))) fun _=>none)))) fun j8=>(jE j8 (fun (j32:zQ) h33=>some (Sum.inl ((j32.1,j32.2.1,j32.2.2.1,()),h33))) fun _=>none)))) fun j35=>(jE j35 (fun (j36:zQ) h37=>(lA (f142 N j36.1 j36.2.1 h37) fun (x39:(zP×Int×Unit)) h40=>(rA j36.2.2.1 fun q42=>(rA (h40.store q42 (yRH x39.1)) fun h41=>some (Sum.inr (Sum.inr (Sum.inr (Sum.inl ((j36.2.2.1,x39.2.1,()),h41))))))))) fun j38=>(jE j38 (fun (j43:zQ) h44=>some (Sum.inr (Sum.inl ((j43.1,j43.2.1,j43.2.2.1,()),h44)))) fun j45=>(jE j45 (fun (j46:zQ) h47=>some (Sum.inl ((j46.1,j46.2.1,j46.2.2.1,()),h47))) fun j48=>(jE j48 (fun (j49:zQ) h50=>some (Sum.inl ((j49.1,j49.2.1,j49.2.2.1,()),h50))) fun j51=>(jE j51 (fun (j52:zQ) h53=>
 some (Sum.inr (Sum.inr (Sum.inl ((j52.1,j52.2.1,j52.2.2.1,()),h53))))) fun _=>none))))))) fun j55=>(jE j55 (fun (j56:zQ) h57=>(lA (f143 N j56.1 j56.2.1 h57) fun (x59:(zP×Int×Unit)) h60=>(rA j56.2.2.1 fun q62=>(rA (h60.store q62 (yRH x59.1)) fun h61=>some (Sum.inr (Sum.inr (Sum.inl ((j56.2.2.1,x59.2.1,()),h61)))))))) fun j58=>(jE j58 (fun (j63:zQ) h64=>some (Sum.inr (Sum.inl ((j63.1,j63.2.1,j63.2.2.1,()),h64)))) fun j65=>(jE j65 (fun (j66:zQ) h67=>some (Sum.inl ((j66.1,j66.2.1,j66.2.2.1,()),h67))) fun j68=>(jE j68 (fun (j69:zM1) h70=>some (Sum.inr (Sum.inr (Sum.inl ((j69.1,j69.2.1,()),h70))))) fun _=>none)))))) fun j72=>(jE j72 (fun (j73:zQ) h74=>(lA (f144 N j73.1 j73.2.1 h74) fun (x76:(zP×Int×Unit)) h77=>(rA j73.2.2.1 fun q79=>(rA (h77.store q79 (yRH x76.1)) fun h78=>some (Sum.inr (Sum.inl ((j73.2.2.1,x76.2.1,()),h78))))))) fun j75=>(jE j75 (fun (j80:zQ) h81=>some (Sum.inl ((j80.1,j80.2.1,j80.2.2.1,()),h81))) fun j82=>(jE j82 (fun (j83:zM1) h84=>some (Sum.inr (Sum.inl ((j83.1,j83.2.1,()),h84)))) fun _=>none)))))) fun j86=>(jE j86 (fun (j87:zQ) h88=>(lA (f145 N j87.1 j87.2.1 h88) fun (x90:(zP×Int×Unit)) h91=>(rA j87.2.2.1 fun q93=>(rA (h91.store q93 (yRH x90.1)) fun h92=>(rA j87.2.2.1 fun q94=>(iA (.val zF) (h92.cells q94 3) fun (x95:zP)=>some (((x95.1,x95.2.1,x95.2.2.1,()),x90.2.1,()),h92))))))) fun j89=>(jE j89 (fun (j96:zM1) h97=>(rA j96.1 fun q99=>(iA (.val zF) (h97.cells q99 3) fun (x100:zP)=>some (((x100.1,x100.2.1,x100.2.2.1,()),j96.2.1,()),h97)))) fun _=>
 none)))
def rBe:Ann:=(.two .n (.two (.joinO [(.norm,[(0,zR2),(1,zT2),(4,zP2)]),(.ret,[(4,zP2),(5,zT2)])] (.two .n (.two (.two (.joinO [(.norm,[(0,zR2),(1,zT2),(4,zP2)]),((.exit 0),[(0,zR2),(1,zT2),(4,zP2)]),(.ret,[(4,zP2),(5,zT2)])] (.two (.two (.joinO [(.norm,[(0,zR2),(1,zT2),(4,zP2)]),((.exit 0),[(0,zR2),(1,zT2),(4,zP2)]),((.exit 5),[(0,zR2),(1,zT2),(4,zP2)]),(.ret,[(4,zP2),(5,zT2)])] (.two (.two (.two (.joinO [(.norm,[(0,zR2),(1,zT2),(4,zP2)]),((.exit 0),[(0,zR2),(1,zT2),(4,zP2)]),((.exit 3),[(0,zR2),(1,zT2),(4,zP2)]),((.exit 4),[(0,zR2),(1,zT2),(4,zP2)]),((.exit 5),[(0,zR2),(1,zT2),(4,zP2)])] (.two (.two (.two (.two (.joinO [(.norm,[(0,zR2),(1,zT2),(4,zP2),(6,(.one (.int .u8)))]),((.exit 1),[(0,zR2),(1,zT2),(4,zP2)])] .n) (.two (.joinO [(.norm,[(0,zR2),(1,zT2),(4,zP2),(6,(.one (.int .u8)))]),((.exit 2),[(0,zR2),(1,zT2),(4,zP2)])] (.two (.two (.join [(0,zR2),(1,zT2),(4,zP2),(6,(.one (.int .u8))),(17,zS2)] .n) .n) .n)) (.two .n (.two (.joinO [(.norm,[(0,zR2),(1,zT2),(4,zP2),(6,(.one (.int .u8)))]),((.exit 4),[(0,zR2),(1,zT2),(4,zP2)])] .n) .n)))) .n) .n) .n)) .n) .n) .n)) .n) .n)) .n) .n))) .n))
theorem yB7 (N:Nat):jD Tryz.prog 91 [zR2,zT2] (.tup [zF,zT2]) (fun x h=>f91 N x.1 x.2.1 h):=qD (bA (fB1 N) (bA (eB1 N) (bA (dB1 N) (bA (cB1 N) kA)))) N rBe Tryz.f91
def rA6 (N:Nat) (go:zV2→SL→AV→SL→Int→Heap→Option (Out×zV1×Heap)) (v0:zV2) (v2:SL) (v3:AV) (v4:SL) (v5:Int) (h:Heap):Option (Out×zV1×Heap):=let x6:=qB v5 (Int.ofNat v0.length);(bif x6 then(lA (f91 N v0 v5 h) fun (x7:(zP×Int×Unit)) h8=>let h9:=h8.push (.row yZE .own);(rA (h9.store (h8.next,0) (yRH x7.1)) fun h10=>let x11:=dB x7.2.1 0;(bif x11 then(lA (f37 N 20 v5 h10) fun (x12:AV) h13=>some (Out.ret,(v0,⟨none,0,0,0⟩,x12,v4,()),h13))else(iA (.val zF) (h10.cells (h8.next,0) 3) fun (x14:zP)=>let h15:=h10.push (.row (yRH x14) .own);(tD (.val zQ2) (fB E 57 57 (.slice v4.a v4.len v4.cap v4.sz) (.slice (some (h10.next,0)) 1 1 3) h15) fun (x16:SL) h17=>(lA (f90 N v0 x7.2.1 h17) fun (x18:Int) h19=>go v0 v2 v3 x16 x18 h19))))))else some ((Out.exit 0),(v0,v2,v3,v4,()),h))
def bAb (N M:Nat) (v0:zV2) (v2:SL) (v3:AV) (v4:SL) (v5:Int) (h:Heap):Option (Out×zV1×Heap):=iter (fun go s h=>rA6 N (fun v0 v2 v3 v4 v5 h=>go (v0,v2,v3,v4,v5,()) h) s.1 s.2.1 s.2.2.1 s.2.2.2.1 s.2.2.2.2.1 h) M (v0,v2,v3,v4,v5,()) h
theorem fAe (N M v0 v2 v3 v4 v5 h):bAb N (M+1) v0 v2 v3 v4 v5 h=rA6 N (bAb N M) v0 v2 v3 v4 v5 h:=rfl
def f54 (N:Nat) (a0:zV2) (h:Heap):Option ((SL×AV×Unit)×Heap):=let x1:=qB 1048576 (Int.ofNat a0.length);(bif x1 then(lA (f37 N 5 0 h) fun (x2:AV) h3=>some ((⟨none,0,0,0⟩,x2,()),h3))else(lA (f90 N a0 0 h) fun (x4:Int) h5=>(pD (bAb N N a0 ⟨none,0,0,0⟩ AV.nilIface ⟨none,0,0,0⟩ x4 h5) fun o20 (j21:zV1) h22=>(bif uD o20 (.exit 0) then let h23:=h22.push (.row [(.int .i64 0),(.str []),(.int .i64 (Int.ofNat j21.1.length))] .own);(tD (.val zQ2) (fB E 57 57 (.slice j21.2.2.2.1.a j21.2.2.2.1.len j21.2.2.2.1.cap j21.2.2.2.1.sz) (.slice (some (h22.next,0)) 1 1 3) h23) fun (x24:SL) h25=>some ((x24,AV.nilIface,()),h25))else some ((j21.2.1,j21.2.2.1,()),h22)))))
def tBe:Ann:=(.two .n (.two .n (.two .n (.two .n (.two (.two (.loop [(0,zR2),(2,zQ2),(3,zU2),(4,zQ2),(5,zT2)] [(.exit 0),.ret] [(0,zR2),(2,zQ2),(3,zU2),(4,zQ2)] .n) .n) .n)))))
theorem fAy (N:Nat):jD Tryz.prog 54 [zR2] (.tup [zQ2,zU2]) (fun x h=>f54 N x.1 h):=qD (bA (yB7 N) (bA (nB7 N) (bA (eAy N) kA))) N tBe Tryz.f54
def f56 (N:Nat) (a0:zO2) (h:Heap):Option (zP×Heap):=let h1:=h.push (.row yZE .own);(rA a0 fun q2=>(iA (.val zQ2) (h1.cell (q2.1,q2.2+0)) fun (x3:SL)=>(rA a0 fun q4=>(iA (.val zT2) (h1.cell (q4.1,q4.2+1)) fun (x5:Int)=>(ixK x3.a x3.len x5 3 fun q6=>(iA (.val zF) (h1.cells q6 3) fun (x7:zP)=>(rA (h1.store (h.next,0) (yRH x7)) fun h8=>(iA (.val zF) (h8.cells (h.next,0) 3) fun (x9:zP)=>some ((x9.1,x9.2.1,x9.2.2.1,()),h8)))))))))
def uBe:Ann:=.n
theorem tN (N:Nat):jD Tryz.prog 56 [zP2] (.val zF) (fun x h=>f56 N x.1 h):=qD kA N uBe Tryz.f56
def f57 (N:Nat) (a0:zO2) (a1:Int) (h:Heap):Option ((Unit)×Heap):=(rA a0 fun q1=>(iA (.val zU2) (h.cell (q1.1,q1.2+3)) fun (x2:AV)=>(iA (.val zS2) (oK E .eql 29 (.tmp 7) (.const .nilIface) x2 AV.nilIface) fun (x3:Bool)=>(bif x3 then(lA (f56 N a0 h) fun (x4:zP) h5=>(lA (f37 N a1 x4.2.2.1 h5) fun (x6:AV) h7=>(rA a0 fun q8=>(cE (AV.single x6) (rA (h7.store (q8.1,q8.2+3) [x6]) fun h9=>some ((()),h9))))))else some ((()),h)))))
def vBe:Ann:=.n
theorem rW (N:Nat):jD Tryz.prog 57 [zP2,zT2] (.tup []) (fun x h=>f57 N x.1 x.2.1 h):=qD (bA (tN N) (bA (eAy N) kA)) N vBe Tryz.f57
def f146 (N:Nat) (a0:zO2) (a1:Int) (a2:zV2) (h:Heap):Option (Bool×Heap):=(lA (f56 N a0 h) fun (x1:zP) h2=>let h3:=h2.push (.row yZE .own);(rA (h3.store (h2.next,0) (yRH x1)) fun h4=>(rA a0 fun q5=>(iA (.val zU2) (h4.cell (q5.1,q5.2+3)) fun (x6:AV)=>(iA (.val zS2) (oK E .eql 29 (.tmp 13) (.const .nilIface) x6 AV.nilIface) fun (x7:Bool)=>(bif x7 then(iA (.val zT2) (h4.cell ((h2.next,0).1,(h2.next,0).2+0)) fun (x8:Int)=>let x9:=dB x8 a1;(bif x9 then(iA (.val zR2) (h4.cell ((h2.next,0).1,(h2.next,0).2+1)) fun (x10:zV2)=>let x11:=jB x10 a2;some (x11,h4))else some (false,h4)))else some (false,h4)))))))
def aB8:Ann:=.n
theorem dA1 (N:Nat):jD Tryz.prog 146 [zP2,zT2,zR2] (.val zS2) (fun x h=>f146 N x.1 x.2.1 x.2.2.1 h):=qD (bA (tN N) kA) N aB8 Tryz.f146
def f92 (N:Nat) (a0:zO2) (a1:zV2) (h:Heap):Option (Bool×Heap):=(lA (f146 N a0 2 a1 h) fun (x1:Bool) h2=>let x3:=!x1;(bif x3 then some (false,h2)else(rA a0 fun q4=>(iA (.val zT2) (h2.cell (q4.1,q4.2+1)) fun (x5:Int)=>let x6:=wA .i64 (x5+1);(rA a0 fun q7=>(rA (h2.store (q7.1,q7.2+1) [(.int .i64 x6)]) fun h8=>some (true,h8)))))))
def wBe:Ann:=.n
theorem tW (N:Nat):jD Tryz.prog 92 [zP2,zR2] (.val zS2) (fun x h=>f92 N x.1 x.2.1 h):=qD (bA (dA1 N) kA) N wBe Tryz.f92
def f93 (N:Nat) (a0:zO2) (a1:zV2) (h:Heap):Option (Bool×Heap):=(lA (f146 N a0 5 a1 h) fun (x1:Bool) h2=>let x3:=!x1;(bif x3 then some (false,h2)else(rA a0 fun q4=>(iA (.val zT2) (h2.cell (q4.1,q4.2+1)) fun (x5:Int)=>let x6:=wA .i64 (x5+1);(rA a0 fun q7=>(rA (h2.store (q7.1,q7.2+1) [(.int .i64 x6)]) fun h8=>some (true,h8)))))))
def yBe:Ann:=.n
theorem nG (N:Nat):jD Tryz.prog 93 [zP2,zR2] (.val zS2) (fun x h=>f93 N x.1 x.2.1 h):=qD (bA (dA1 N) kA) N yBe Tryz.f93
def f94 (N:Nat) (a0:zO2) (a1:Int) (h:Heap):Option (zV2×Heap):=(lA (f56 N a0 h) fun (x1:zP) h2=>let h3:=h2.push (.row yZE .own);(rA (h3.store (h2.next,0) (yRH x1)) fun h4=>(rA a0 fun q5=>(iA (.val zU2) (h4.cell (q5.1,q5.2+3)) fun (x6:AV)=>(iA (.val zS2) (oK E .neq 29 (.tmp 11) (.const .nilIface) x6 AV.nilIface) fun (x7:Bool)=>(bif x7 then(lA (f57 N a0 21 h4) fun (x8:(Unit)) h9=>some ([],h9))else(iA (.val zT2) (h4.cell ((h2.next,0).1,(h2.next,0).2+0)) fun (x10:Int)=>let x11:=!dB x10 a1;(bif x11 then(lA (f57 N a0 21 h4) fun (x12:(Unit)) h13=>some ([],h13))else(rA a0 fun q14=>(iA (.val zT2) (h4.cell (q14.1,q14.2+1)) fun (x15:Int)=>let x16:=wA .i64 (x15+1);(rA a0 fun q17=>(rA (h4.store (q17.1,q17.2+1) [(.int .i64 x16)]) fun h18=>(iA (.val zR2) (h18.cell ((h2.next,0).1,(h2.next,0).2+1)) fun (x19:zV2)=>some (x19,h18))))))))))))))
def aBf:Ann:=.n
theorem uN (N:Nat):jD Tryz.prog 94 [zP2,zT2] (.val zR2) (fun x h=>f94 N x.1 x.2.1 h):=qD (bA (rW N) (bA (tN N) kA)) N aBf Tryz.f94
def f95 (N:Nat) (a0:zO2) (h:Heap):Option (zV2×Heap):=(lA (f94 N a0 1 h) fun (x1:zV2) h2=>(lA (f93 N a0 [58,58] h2) fun (x3:Bool) h4=>(bif x3 then(iA (.val zR2) (pF .add x1 [58,58]) fun (x5:zV2)=>(lA (f94 N a0 1 h4) fun (x6:zV2) h7=>(iA (.val zR2) (pF .add x5 x6) fun (x8:zV2)=>some (x8,h7))))else some (x1,h4))))
def bBf:Ann:=.n
theorem jAp (N:Nat):jD Tryz.prog 95 [zP2] (.val zR2) (fun x h=>f95 N x.1 h):=qD (bA (uN N) (bA (nG N) kA)) N bBf Tryz.f95
def f188 (N:Nat) (a0:zO2) (a1:Int) (h:Heap):Option (Bool×Heap):=let x1:Bool:=eD 64 a1;(bif x1 then(lA (f57 N a0 5 h) fun (x2:(Unit)) h3=>(rA a0 fun q4=>(iA (.val zU2) (h3.cell (q4.1,q4.2+3)) fun (x5:AV)=>(iA (.val zS2) (oK E .eql 29 (.tmp 12) (.const .nilIface) x5 AV.nilIface) fun (x6:Bool)=>some (x6,h3)))))else(rA a0 fun q7=>(iA (.val zU2) (h.cell (q7.1,q7.2+3)) fun (x8:AV)=>(iA (.val zS2) (oK E .eql 29 (.tmp 12) (.const .nilIface) x8 AV.nilIface) fun (x9:Bool)=>some (x9,h)))))
def bB8:Ann:=.n
theorem vN (N:Nat):jD Tryz.prog 188 [zP2,zT2] (.val zS2) (fun x h=>f188 N x.1 x.2.1 h):=qD (bA (rW N) kA) N bB8 Tryz.f188
def f148 (N:Nat) (a0 a1:zO2) (h:Heap):Option ((Unit)×Heap):=(rA a0 fun q1=>(iA (.val zQ2) (h.cell q1) fun (x2:SL)=>(rA a1 fun q3=>(iA (.val zP2) (h.cell q3) fun (x4:zO2)=>(lA (f94 N x4 3 h) fun (x5:zV2) h6=>let h7:=h6.push (.row [(.str x5)] .own);(tD (.val zQ2) (fB E 38 38 (.slice x2.a x2.len x2.cap x2.sz) (.slice (some (h6.next,0)) 1 1 1) h7) fun (x8:SL) h9=>(rA a0 fun q11=>(rA (h9.store q11 [(.slice x8.a x8.len x8.cap x8.sz)]) fun h10=>(cE (bif (rE a1 fun q=>mB (h.cell q) (.ptr x4)) then (bif (rE a0 fun q=>mB (h7.cell q) (.slice x2.a x2.len x2.cap x2.sz)) then (bif (rE a0 fun q=>mB (h6.cell q) (.slice x2.a x2.len x2.cap x2.sz)) then (bif (rE a0 fun q=>mB (h.cell q) (.slice x2.a x2.len x2.cap x2.sz)) then true else false) else false) else false) else false) ( some ((()),h10)))))))))))
def cB8:Ann:=.n
theorem gB1 (N:Nat):jD Tryz.prog 148 [zP2,zP2] (.tup []) (fun x h=>f148 N x.1 x.2.1 h):=qD (bA (uN N) kA) N cB8 Tryz.f148
def vI (N:Nat) (go:zO2→zV2→zO→Int→Heap→Option (Out×(Unit)×Heap)) (v0:zO2) (v1:zV2) (v2:zO) (v6:Int) (h:Heap):Option (Out×(Unit)×Heap):=(lA (f188 N v0 v6 h) fun (x1:Bool) h2=>(bif x1 then(lA (f148 N v2.1 v2.2.1 h2) fun (x3:(Unit)) h4=>(lA (f93 N v0 v1 h4) fun (x5:Bool) h6=>let x7:=!x5;(bif x7 then some (Out.ret,(()),h6)else let x8:=wA .i64 (v6+1);go v0 v1 (v2.1,v2.2.1,()) x8 h6)))else some ((Out.exit 0),(()),h2)))
def rL (N M:Nat) (v0:zO2) (v1:zV2) (v2:zO) (v6:Int) (h:Heap):Option (Out×(Unit)×Heap):=iter (fun go s h=>vI N (fun v0 v1 v2 v6 h=>go (v0,v1,v2,v6,()) h) s.1 s.2.1 s.2.2.1 s.2.2.2.1 h) M (v0,v1,v2,v6,()) h
theorem vM (N M v0 v1 v2 v6 h):rL N (M+1) v0 v1 v2 v6 h=vI N (rL N M) v0 v1 v2 v6 h:=rfl
def tA6 (N:Nat) (a0:zO2) (a1:zV2) (a2:zO) (h:Heap):Option ((Unit)×Heap):=(pD (rL N N a0 a1 (a2.1,a2.2.1,()) 0 h) fun o9 (j10:(Unit)) h11=>(bif uD o9 (.exit 0) then some ((()),h11)else some ((()),h11)))
def wAk:Ann:=(.two .n (.two (.loop [(0,zP2),(1,zR2),(2,(.clo 148 [.ptr,.ptr])),(6,zT2)] [(.exit 0),.ret] [] .n) .n))
theorem gAe (N:Nat):jD Tryz.prog 147 [zP2,zR2,(.clo 148 [.ptr,.ptr])] (.tup []) (fun x h=>tA6 N x.1 x.2.1 x.2.2.1 h):=qD (bA (nG N) (bA (vN N) (bA (gB1 N) kA))) N wAk Tryz.f147
def f149 (N:Nat) (a0:zO2) (a1:zV2) (h:Heap):Option ((Unit)×Heap):=(lA (f93 N a0 a1 h) fun (x1:Bool) h2=>let x3:=!x1;(bif x3 then(lA (f57 N a0 21 h2) fun (x4:(Unit)) h5=>some ((()),h5))else some ((()),h2)))
def dB8:Ann:=.n
theorem nJ (N:Nat):jD Tryz.prog 149 [zP2,zR2] (.tup []) (fun x h=>f149 N x.1 x.2.1 h):=qD (bA (nG N) (bA (rW N) kA)) N dB8 Tryz.f149
def f96 (N:Nat) (a0:zO2) (h:Heap):Option (SL×Heap):=let h1:=h.push (.row [(.ptr a0)] .own);let h2:=h1.push (.row [(.slice none 0 0 0)] .own);(iA (.val zP2) (h2.cell (h.next,0)) fun (x3:zO2)=>(lA (f93 N x3 [60] h2) fun (x4:Bool) h5=>(bif x4 then(iA (.val zP2) (h5.cell (h.next,0)) fun (x6:zO2)=>(lA (tA6 N x6 [44] ((some (h1.next,0)),(some (h.next,0)),()) h5) fun (x7:(Unit)) h8=>(iA (.val zP2) (h8.cell (h.next,0)) fun (x9:zO2)=>(lA (f149 N x9 [62] h8) fun (x10:(Unit)) h11=>(iA (.val zQ2) (h11.cell (h1.next,0)) fun (x12:SL)=>some (x12,h11))))))else(iA (.val zQ2) (h5.cell (h1.next,0)) fun (x13:SL)=>some (x13,h5)))))
def cBf:Ann:=.n
theorem gAy (N:Nat):jD Tryz.prog 96 [zP2] (.val zQ2) (fun x h=>f96 N x.1 h):=qD (bA (nG N) (bA (nJ N) (dC (sel:=fun a=>mJ 2 148 a) (gAe N) kA))) N cBf Tryz.f96
def uAv (N:Nat) (rec55:zO2→Int→Heap→Option (zM×Heap)) (a0:zO2) (a1:Int) (h:Heap):Option (zM×Heap):=let h1:=h.push (.row yZD .own);(lA (α:=zB2) ( let x2:=qB 64 a1;(bif x2 then(lA (f57 N a0 6 h1) fun (x3:(Unit)) h4=>some ((a0,a1,(some (h.next,0)),()),h4))else some ((a0,a1,(some (h.next,0)),()),h1))) fun (j5:zB2) h6=>(rA j5.1 fun q7=>(iA (.val zU2) (h6.cell (q7.1,q7.2+3)) fun (x8:AV)=>(iA (.val zS2) (oK E .neq 29 (.tmp 15) (.const .nilIface) x8 AV.nilIface) fun (x9:Bool)=>(bif x9 then(rA j5.2.2.1 fun q11=>(rA (h6.store q11 yZD) fun h10=>(rA j5.2.2.1 fun q12=>(iA (.val zC) (h10.cells q12 4) fun (x13:zM)=>some ((x13.1,x13.2.1,x13.2.2.1,x13.2.2.2.1,()),h10)))))else(lA (f92 N j5.1 [105,110,116] h6) fun (x14:Bool) h15=>(bif x14 then(rA j5.2.2.1 fun q17=>(rA (h15.store q17 [(.int .i64 1),(.str []),(.slice none 0 0 0),(.slice none 0 0 0)]) fun h16=>(rA j5.2.2.1 fun q18=>(iA (.val zC) (h16.cells q18 4) fun (x19:zM)=>some ((x19.1,x19.2.1,x19.2.2.1,x19.2.2.2.1,()),h16)))))else(lA (f92 N j5.1 [98,111,111,108] h15) fun (x20:Bool) h21=>(bif x20 then(rA j5.2.2.1 fun q23=>(rA (h21.store q23 [(.int .i64 2),(.str []),(.slice none 0 0 0),(.slice none 0 0 0)]) fun h22=>(rA j5.2.2.1 fun q24=>(iA (.val zC) (h22.cells q24 4) fun (x25:zM)=>some ((x25.1,x25.2.1,x25.2.2.1,x25.2.2.2.1,()),h22)))))else(lA (f93 N j5.1 [38] h21) fun (x26:Bool) h27=>(bif x26 then let h28:=h27.push (.row yZD .own);(rA (h28.store (h27.next,0) [(.int .i64 4),(.str []),(.slice none 0 0 0),(.slice none 0 0 0)]) fun h29=>
 (lA (α:=zF1) ((lA (f56 N j5.1 h29) fun (x30:zP) h31=>let x32:=dB x30.1 3;(bif x32 then(lA (f94 N j5.1 3 h31) fun (x33:zV2) h34=>let h35:=h34.push (.row [(.str x33)] .own);(rA (h35.store ((h27.next,0).1,(h27.next,0).2+2) [(.slice (some (h34.next,0)) 1 1 1)]) fun h36=>some ((j5.1,j5.2.1,j5.2.2.1,(some (h27.next,0)),()),h36)))else some ((j5.1,j5.2.1,j5.2.2.1,(some (h27.next,0)),()),h31)))) fun (j37:zF1) h38=>(lA (α:=zF1) ((lA (f92 N j37.1 [109,117,116] h38) fun (x39:Bool) h40=>(bif x39 then(rA j37.2.2.2.1 fun q41=>(rA (h40.store (q41.1,q41.2+0) [(.int .i64 5)]) fun h42=>some ((j37.1,j37.2.1,j37.2.2.1,j37.2.2.2.1,()),h42)))else some ((j37.1,j37.2.1,j37.2.2.1,j37.2.2.2.1,()),h40)))) fun (j43:zF1) h44=>let x45:=wA .i64 (j43.2.1+1);(lA (rec55 j43.1 x45 h44) fun (x46:zM) h47=>let h48:=h47.push (.row (yRD x46) .own);(rA j43.2.2.2.1 fun q49=>(rA (h48.store (q49.1,q49.2+3) [(.slice (some (h47.next,0)) 1 1 4)]) fun h50=>(rA j43.2.2.2.1 fun q51=>(iA (.val zC) (h50.cells q51 4) fun (x52:zM)=>(rA j43.2.2.1 fun q54=>(rA (h50.store q54 (yRD x52)) fun h53=>(rA j43.2.2.1 fun q55=>(iA (.val zC) (h53.cells q55 4) fun (x56:zM)=>some ((x56.1,x56.2.1,x56.2.2.1,x56.2.2.2.1,()),h53)))))))))))))else(lA (f95 N j5.1 h27) fun (x57:zV2) h58=>let h59:=h58.push (.row yZD .own);(rA (h59.store (h58.next,0) [(.int .i64 3),(.str x57),(.slice none 0 0 0),(.slice none 0 0 0)]) fun h60=>(lA (f96 N j5.1 h60) fun (x61:SL) h62=>(rA (h62.store ((h58.next,0).1,(h58.next,0).2+2) [(.slice x61.a x61.len x61.cap x61.sz)]) fun h63=>
 (iA (.val zC) (h63.cells (h58.next,0) 4) fun (x64:zM)=>(rA j5.2.2.1 fun q66=>(rA (h63.store q66 (yRD x64)) fun h65=>(rA j5.2.2.1 fun q67=>(iA (.val zC) (h65.cells q67 4) fun (x68:zM)=>some ((x68.1,x68.2.1,x68.2.2.1,x68.2.2.2.1,()),h65)))))))))))))))))))))
def dBf:Ann:=(.two .n (.two (.join [(0,zP2),(1,zT2),(4,zP2)] .n) (.two (.two (.two .n (.two .n (.two .n (.two .n (.two .n (.two .n (.two .n (.two (.two .n (.two (.join [(0,zP2),(1,zT2),(4,zP2),(5,zP2)] .n) (.two (.join [(0,zP2),(1,zT2),(4,zP2),(5,zP2)] .n) .n))) .n)))))))) .n) .n)))
def eB8 (N M:Nat):((zO2→Int→Heap→Option (zM×Heap))×Unit):=Nat.rec (fun _ _ _=>none,()) (fun _ r=>(uAv N r.1,())) M
def f55 (N M:Nat):zO2→Int→Heap→Option (zM×Heap):=(eB8 N M).1
theorem yAh (N M a0 a1 h):f55 N (M+1) a0 a1 h=uAv N (f55 N M) a0 a1 h:=rfl
theorem oA4 (N:Nat):∀ M:Nat,(jD Tryz.prog 55 [zP2,zT2] (.val zC) (fun x h=>f55 N M x.1 x.2.1 h))∧True
 | 0=>⟨(fun xs h r h' hx=>by cases hx),trivial⟩
 | M+1=>⟨qD (bA (gAy N) (bA (jAp N) (bA (uN N) (bA (nG N) (bA (tW N) (bA (rW N) (bA (tN N) (bA (oA4 N M).1 kA)))))))) N dBf Tryz.f55,trivial⟩
theorem kAp (N:Nat):jD Tryz.prog 55 [zP2,zT2] (.val zC) (fun x h=>f55 N N x.1 x.2.1 h):=(oA4 N N).1
def f23 (N:Nat) (a0:zV2) (h:Heap):Option ((zM×AV×Unit)×Heap):=let h1:=h.push (.row yZD .own);(lA (f54 N a0 h1) fun (x2:(SL×AV×Unit)) h3=>(iA (.val zS2) (oK E .neq 29 (.tmp 13) (.const .nilIface) x2.2.1 AV.nilIface) fun (x4:Bool)=>(bif x4 then(rA (h3.store (h.next,0) yZD) fun h5=>(iA (.val zC) (h5.cells (h.next,0) 4) fun (x6:zM)=>some (((x6.1,x6.2.1,x6.2.2.1,x6.2.2.2.1,()),x2.2.1,()),h5)))else let h7:=h3.push (.row [(.slice x2.1.a x2.1.len x2.1.cap x2.1.sz),(.int .i64 0),(.int .i64 0),AV.nilIface] .own);(lA (f55 N N (some (h3.next,0)) 1 h7) fun (x8:zM) h9=>let h10:=h9.push (.row yZD .own);(rA (h10.store (h9.next,0) (yRD x8)) fun h11=>(lA (f56 N (some (h3.next,0)) h11) fun (x12:zP) h13=>let x14:=!dB x12.1 0;(bif x14 then(lA (f57 N (some (h3.next,0)) 21 h13) fun (x15:(Unit)) h16=>(iA (.val zU2) (h16.cell ((h3.next,0).1,(h3.next,0).2+3)) fun (x17:AV)=>(iA (.val zS2) (oK E .neq 29 (.tmp 31) (.const .nilIface) x17 AV.nilIface) fun (x18:Bool)=>(bif x18 then(iA (.val zU2) (h16.cell ((h3.next,0).1,(h3.next,0).2+3)) fun (x19:AV)=>(rA (h16.store (h.next,0) yZD) fun h20=>(cE (bif (mB (h20.cell ((h3.next,0).1,(h3.next,0).2+3)) x19) then (bif (mB (h16.cell ((h3.next,0).1,(h3.next,0).2+3)) x19) then true else false) else false) ((iA (.val zC) (h20.cells (h.next,0) 4) fun (x21:zM)=>some (((x21.1,x21.2.1,x21.2.2.1,x21.2.2.2.1,()),x19,()),h20))))))else(iA (.val zC) (h16.cells (h9.next,0) 4) fun (x22:zM)=>(rA (h16.store (h.next,0) (yRD x22)) fun h23=>
 (iA (.val zC) (h23.cells (h.next,0) 4) fun (x24:zM)=>some (((x24.1,x24.2.1,x24.2.2.1,x24.2.2.2.1,()),AV.nilIface,()),h23))))))))else(iA (.val zU2) (h13.cell ((h3.next,0).1,(h3.next,0).2+3)) fun (x25:AV)=>(iA (.val zS2) (oK E .neq 29 (.tmp 31) (.const .nilIface) x25 AV.nilIface) fun (x26:Bool)=>(bif x26 then(iA (.val zU2) (h13.cell ((h3.next,0).1,(h3.next,0).2+3)) fun (x27:AV)=>(rA (h13.store (h.next,0) yZD) fun h28=>(cE (bif (mB (h28.cell ((h3.next,0).1,(h3.next,0).2+3)) x27) then (bif (mB (h13.cell ((h3.next,0).1,(h3.next,0).2+3)) x27) then true else false) else false) ((iA (.val zC) (h28.cells (h.next,0) 4) fun (x29:zM)=>some (((x29.1,x29.2.1,x29.2.2.1,x29.2.2.2.1,()),x27,()),h28))))))else(iA (.val zC) (h13.cells (h9.next,0) 4) fun (x30:zM)=>(rA (h13.store (h.next,0) (yRD x30)) fun h31=>(iA (.val zC) (h31.cells (h.next,0) 4) fun (x32:zM)=>some (((x32.1,x32.2.1,x32.2.2.1,x32.2.2.2.1,()),AV.nilIface,()),h31))))))))))))))
def eBf:Ann:=.n
theorem fB8 (N:Nat):jD Tryz.prog 23 [zR2] (.tup [zC,zU2]) (fun x h=>f23 N x.1 h):=qD (bA (rW N) (bA (tN N) (bA (kAp N) (bA (fAy N) kA)))) N eBf Tryz.f23
def uA6 (N:Nat) (go:zV2→Int→Heap→Option (Out×zD2×Heap)) (v0:zV2) (v1:Int) (h:Heap):Option (Out×zD2×Heap):=let x16:=qB v1 (Int.ofNat v0.length);(bif x16 then(rG v0 v1 fun x17=>let x18:=!dB x17 10;(bif x18 then let x19:=wA .i64 (v1+1);go v0 x19 h else some ((Out.exit 2),(v0,v1,()),h)))else some ((Out.exit 2),(v0,v1,()),h))
def aAi (N M:Nat) (v0:zV2) (v1:Int) (h:Heap):Option (Out×zD2×Heap):=iter (fun go s h=>uA6 N (fun v0 v1 h=>go (v0,v1,()) h) s.1 s.2.1 h) M (v0,v1,()) h
theorem iAe (N M v0 v1 h):aAi N (M+1) v0 v1 h=uA6 N (aAi N M) v0 v1 h:=rfl
def vA6 (N:Nat) (go:zV2→Int→Heap→Option (Out×zH1×Heap)) (v0:zV2) (v1:Int) (h:Heap):Option (Out×zH1×Heap):=let x1:=qB v1 (Int.ofNat v0.length);(bif x1 then(rG v0 v1 fun x2=>let x3:=dB x2 32;(bif x3 then let x4:=wA .i64 (v1+1);go v0 x4 h else(rG v0 v1 fun x5=>let x6:=dB x5 9;(bif x6 then let x7:=wA .i64 (v1+1);go v0 x7 h else(rG v0 v1 fun x8=>let x9:=dB x8 10;(bif x9 then let x10:=wA .i64 (v1+1);go v0 x10 h else let x11:=wA .i64 ((Int.ofNat v0.length)-v1);let x12:Bool:=eD 2 x11;(bif x12 then let x13:=wA .i64 (v1+2);(iA (.val zR2) (rD E h 9 (.str v0) (some (.int .i64 v1)) (some (.int .i64 x13))) fun (x14:zV2)=>let x15:=jB x14 [47,47];(bif x15 then(pD (aAi N N v0 v1 h) fun _ (j21:zD2) h22=>go j21.1 j21.2.1 h22)else some ((Out.exit 0),(v1,()),h)))else some ((Out.exit 0),(v1,()),h))))))))else some ((Out.exit 0),(v1,()),h))
def bAi (N M:Nat) (v0:zV2) (v1:Int) (h:Heap):Option (Out×zH1×Heap):=iter (fun go s h=>vA6 N (fun v0 v1 h=>go (v0,v1,()) h) s.1 s.2.1 h) M (v0,v1,()) h
theorem jAe (N M v0 v1 h):bAi N (M+1) v0 v1 h=vA6 N (bAi N M) v0 v1 h:=rfl
def f64 (N:Nat) (a0:zV2) (a1:Int) (h:Heap):Option (Int×Heap):=(pD (bAi N N a0 a1 h) fun _ (j24:zH1) h25=>some (j24.1,h25))
def fBf:Ann:=(.two .n (.two (.two (.loop [(0,zR2),(1,zT2)] [(.exit 0)] [(1,zT2)] (.two .n (.two (.two .n (.two (.two .n (.two (.two (.two (.loop [(0,zR2),(1,zT2)] [(.exit 2)] [(0,zR2),(1,zT2)] .n) .n) .n) .n)) .n)) .n))) .n) .n))
theorem gB8 (N:Nat):jD Tryz.prog 64 [zR2,zT2] (.val zT2) (fun x h=>f64 N x.1 x.2.1 h):=qD kA N fBf Tryz.f64
def f65 (N:Nat) (a0:Int) (h:Heap):Option (Bool×Heap):=let x1:Bool:=eD 97 a0;(bif x1 then let x2:Bool:=eD a0 122;(bif x2 then some (true,h)else let x3:Bool:=eD 65 a0;(bif x3 then let x4:Bool:=eD a0 90;(bif x4 then some (true,h)else let x5:=dB a0 95;some (x5,h))else let x6:=dB a0 95;some (x6,h)))else let x7:Bool:=eD 65 a0;(bif x7 then let x8:Bool:=eD a0 90;(bif x8 then some (true,h)else let x9:=dB a0 95;some (x9,h))else let x10:=dB a0 95;some (x10,h)))
def gBf:Ann:=.n
theorem lAp (N:Nat):jD Tryz.prog 65 [(.one (.int .u8))] (.val zS2) (fun x h=>f65 N x.1 h):=qD kA N gBf Tryz.f65
def f69 (N:Nat) (a0:Int) (h:Heap):Option (Bool×Heap):=let x1:Bool:=eD 48 a0;(bif x1 then let x2:Bool:=eD a0 57;some (x2,h)else some (false,h))
def iBf:Ann:=.n
theorem mAp (N:Nat):jD Tryz.prog 69 [(.one (.int .u8))] (.val zS2) (fun x h=>f69 N x.1 h):=qD kA N iBf Tryz.f69
def wA6 (N:Nat) (go:zV2→Int→Heap→Option (Out×zH1×Heap)) (v0:zV2) (v1:Int) (h:Heap):Option (Out×zH1×Heap):=let x1:=qB v1 (Int.ofNat v0.length);(bif x1 then(rG v0 v1 fun x2=>(lA (f65 N x2 h) fun (x3:Bool) h4=>(bif x3 then let x5:=wA .i64 (v1+1);go v0 x5 h4 else(rG v0 v1 fun x6=>(lA (f69 N x6 h4) fun (x7:Bool) h8=>(bif x7 then let x9:=wA .i64 (v1+1);go v0 x9 h8 else some ((Out.exit 0),(v1,()),h8)))))))else some ((Out.exit 0),(v1,()),h))
def cAi (N M:Nat) (v0:zV2) (v1:Int) (h:Heap):Option (Out×zH1×Heap):=iter (fun go s h=>wA6 N (fun v0 v1 h=>go (v0,v1,()) h) s.1 s.2.1 h) M (v0,v1,()) h
theorem kAe (N M v0 v1 h):cAi N (M+1) v0 v1 h=wA6 N (cAi N M) v0 v1 h:=rfl
def f66 (N:Nat) (a0:zV2) (a1:Int) (h:Heap):Option (Int×Heap):=(pD (cAi N N a0 a1 h) fun _ (j11:zH1) h12=>some (j11.1,h12))
def jBf:Ann:=(.two .n (.two (.two (.loop [(0,zR2),(1,zT2)] [(.exit 0)] [(1,zT2)] .n) .n) .n))
theorem iAy (N:Nat):jD Tryz.prog 66 [zR2,zT2] (.val zT2) (fun x h=>f66 N x.1 x.2.1 h):=qD (bA (mAp N) (bA (lAp N) kA)) N jBf Tryz.f66
def yA6 (N:Nat) (go:zV2→Bool→SL→Int→Heap→Option (Out×zY×Heap)) (v0:zV2) (v2:Bool) (v3:SL) (v4:Int) (h:Heap):Option (Out×zY×Heap):=let x2:=qB v4 (Int.ofNat v3.len);(bif x2 then(ixK v3.a v3.len v4 1 fun q3=>(iA (.val zR2) (h.cell q3) fun (x4:zV2)=>let x5:=jB x4 v0;(bif x5 then some (Out.ret,(true,()),h)else let x6:=wA .i64 (v4+1);go v0 v2 v3 x6 h)))else some ((Out.exit 0),(v2,()),h))
def dAi (N M:Nat) (v0:zV2) (v2:Bool) (v3:SL) (v4:Int) (h:Heap):Option (Out×zY×Heap):=iter (fun go s h=>yA6 N (fun v0 v2 v3 v4 h=>go (v0,v2,v3,v4,()) h) s.1 s.2.1 s.2.2.1 s.2.2.2.1 h) M (v0,v2,v3,v4,()) h
theorem lAe (N M v0 v2 v3 v4 h):dAi N (M+1) v0 v2 v3 v4 h=yA6 N (dAi N M) v0 v2 v3 v4 h:=rfl
def f67 (N:Nat) (a0:zV2) (h:Heap):Option (Bool×Heap):=let h1:=h.push (.row [(.str [102,110]),(.str [115,116,114,117,99,116]),(.str [112,117,98]),(.str [108,101,116]),(.str [109,117,116]),(.str [105,102]),(.str [101,108,115,101]),(.str [119,104,105,108,101]),(.str [108,111,111,112]),(.str [98,114,101,97,107]),(.str [99,111,110,116,105,110,117,101]),(.str [114,101,116,117,114,110]),(.str [100,114,111,112]),(.str [116,114,117,101]),(.str [102,97,108,115,101]),(.str [105,110,116]),(.str [98,111,111,108])] .own);(pD (dAi N N a0 false ⟨(some (h.next,0)),17,17,1⟩ 0 h1) fun o7 (j8:zY) h9=>(bif uD o7 (.exit 0) then some (false,h9)else some (j8.1,h9)))
def kBf:Ann:=(.two .n (.two .n (.two (.two .n (.two (.loop [(0,zR2),(2,zS2),(3,zQ2),(4,zT2)] [(.exit 0),.ret] [(2,zS2)] .n) .n)) .n)))
theorem jAy (N:Nat):jD Tryz.prog 67 [zR2] (.val zS2) (fun x h=>f67 N x.1 h):=qD kA N kBf Tryz.f67
def f68 (N:Nat) (a0:zV2) (h:Heap):Option (Bool×Heap):=let x1:Bool:=eD 1 (Int.ofNat a0.length);(bif x1 then let x2:Bool:=eD (Int.ofNat a0.length) 32;(bif x2 then(rG a0 0 fun x3=>(lA (f65 N x3 h) fun (x4:Bool) h5=>(bif x4 then(lA (f66 N a0 0 h5) fun (x6:Int) h7=>let x8:=dB x6 (Int.ofNat a0.length);some (x8,h7))else some (false,h5))))else some (false,h))else some (false,h))
def lBf:Ann:=.n
theorem kAy (N:Nat):jD Tryz.prog 68 [zR2] (.val zS2) (fun x h=>f68 N x.1 h):=qD (bA (iAy N) (bA (lAp N) kA)) N lBf Tryz.f68
def f46 (N:Nat) (a0:zV2) (h:Heap):Option (Bool×Heap):=(lA (f68 N a0 h) fun (x1:Bool) h2=>(bif x1 then(lA (f67 N a0 h2) fun (x3:Bool) h4=>let x5:=!x3;some (x5,h4))else some (false,h2)))
def mBf:Ann:=.n
theorem iB8 (N:Nat):jD Tryz.prog 46 [zR2] (.val zS2) (fun x h=>f46 N x.1 h):=qD (bA (kAy N) (bA (jAy N) kA)) N mBf Tryz.f46
def aA7 (N:Nat) (go:zV2→Bool→Int→Int→Heap→Option (Out×zQ1×Heap)) (v0:zV2) (v2:Bool) (v3 v4:Int) (h:Heap):Option (Out×zQ1×Heap):=let x10:=qB v4 (Int.ofNat v0.length);(bif x10 then(rG v0 v4 fun x11=>(lA (f69 N x11 h) fun (x12:Bool) h13=>let x14:=!x12;(bif x14 then some (Out.ret,(false,v3,()),h13)else let x15:=wA .i64 (v3 * 10);(rG v0 v4 fun x16=>let x17:=wA .u8 (x16-48);let x18:=wA .i64 x17;let x19:=wA .i64 (x15+x18);let x20:=wA .i64 (v4+1);go v0 v2 x19 x20 h13))))else some ((Out.exit 0),(v2,v3,()),h))
def cAb (N M:Nat) (v0:zV2) (v2:Bool) (v3 v4:Int) (h:Heap):Option (Out×zQ1×Heap):=iter (fun go s h=>aA7 N (fun v0 v2 v3 v4 h=>go (v0,v2,v3,v4,()) h) s.1 s.2.1 s.2.2.1 s.2.2.2.1 h) M (v0,v2,v3,v4,()) h
theorem mAe (N M v0 v2 v3 v4 h):cAb N (M+1) v0 v2 v3 v4 h=aA7 N (cAb N M) v0 v2 v3 v4 h:=rfl
def f70 (N:Nat) (a0:zV2) (h:Heap):Option (Bool×Heap):=(rA (α:=Sum (zI2×Heap) (Sum (zY×Heap) (Empty))) ( let x1:=dB (Int.ofNat a0.length) 0;(bif x1 then some (Sum.inr (Sum.inl ((false,()),h)))else let x2:=qB 10 (Int.ofNat a0.length);(bif x2 then some (Sum.inr (Sum.inl ((false,()),h)))else let x3:=qB 1 (Int.ofNat a0.length);(bif x3 then(rG a0 0 fun x4=>let x5:=dB x4 48;(bif x5 then some (Sum.inr (Sum.inl ((false,()),h)))else some (Sum.inl ((a0,false,()),h))))else some (Sum.inl ((a0,false,()),h)))))) fun j6=>(jE j6 (fun (j7:zI2) h8=>(pD (cAb N N j7.1 j7.2.1 0 0 h8) fun o21 (j22:zQ1) h23=>(bif uD o21 (.exit 0) then let x24:Bool:=eD j22.2.1 2147483647;some (x24,h23)else some (j22.1,h23)))) fun j9=>(jE j9 (fun (j25:zY) h26=>some (j25.1,h26)) fun _=>none)))
def nBf:Ann:=(.two .n (.two (.joinO [(.norm,[(0,zR2),(2,zS2)]),(.ret,[(2,zS2)])] .n) (.two .n (.two (.two .n (.two (.loop [(0,zR2),(2,zS2),(3,zT2),(4,zT2)] [(.exit 0),.ret] [(2,zS2),(3,zT2)] .n) .n)) .n))))
theorem jB8 (N:Nat):jD Tryz.prog 70 [zR2] (.val zS2) (fun x h=>f70 N x.1 h):=qD (bA (mAp N) kA) N nBf Tryz.f70
def bA7 (N:Nat) (go:zV2→Int→Int→zV2→Int→Heap→Option (Out×zH1×Heap)) (v0:zV2) (v1 v4:Int) (v7:zV2) (v8:Int) (h:Heap):Option (Out×zH1×Heap):=let x15:=qB v8 (Int.ofNat v7.length);(bif x15 then(rG v7 v8 fun x16=>(rG v0 v1 fun x17=>let x18:=dB x16 x17;(bif x18 then some (Out.ret,(1,()),h)else let x19:=wA .i64 (v8+1);go v0 v1 v4 v7 x19 h)))else some ((Out.exit 2),(v4,()),h))
def eAi (N M:Nat) (v0:zV2) (v1 v4:Int) (v7:zV2) (v8:Int) (h:Heap):Option (Out×zH1×Heap):=iter (fun go s h=>bA7 N (fun v0 v1 v4 v7 v8 h=>go (v0,v1,v4,v7,v8,()) h) s.1 s.2.1 s.2.2.1 s.2.2.2.1 s.2.2.2.2.1 h) M (v0,v1,v4,v7,v8,()) h
theorem nAe (N M v0 v1 v4 v7 v8 h):eAi N (M+1) v0 v1 v4 v7 v8 h=bA7 N (eAi N M) v0 v1 v4 v7 v8 h:=rfl
def cA7 (N:Nat) (go:zV2→Int→Int→SL→Int→Heap→Option (Out×zX1×Heap)) (v0:zV2) (v1 v4:Int) (v5:SL) (v6:Int) (h:Heap):Option (Out×zX1×Heap):=let x2:=qB v6 (Int.ofNat v5.len);(bif x2 then let x3:=wA .i64 ((Int.ofNat v0.length)-v1);let x4:Bool:=eD 2 x3;(bif x4 then let x5:=wA .i64 (v1+2);(iA (.val zR2) (rD E h 9 (.str v0) (some (.int .i64 v1)) (some (.int .i64 x5))) fun (x6:zV2)=>(ixK v5.a v5.len v6 1 fun q7=>(iA (.val zR2) (h.cell q7) fun (x8:zV2)=>let x9:=jB x6 x8;(bif x9 then some (Out.ret,(v0,v1,2,()),h)else let x10:=wA .i64 (v6+1);go v0 v1 v4 v5 x10 h))))else let x11:=wA .i64 (v6+1);go v0 v1 v4 v5 x11 h)else some ((Out.exit 0),(v0,v1,v4,()),h))
def dAb (N M:Nat) (v0:zV2) (v1 v4:Int) (v5:SL) (v6:Int) (h:Heap):Option (Out×zX1×Heap):=iter (fun go s h=>cA7 N (fun v0 v1 v4 v5 v6 h=>go (v0,v1,v4,v5,v6,()) h) s.1 s.2.1 s.2.2.1 s.2.2.2.1 s.2.2.2.2.1 h) M (v0,v1,v4,v5,v6,()) h
theorem oAe (N M v0 v1 v4 v5 v6 h):dAb N (M+1) v0 v1 v4 v5 v6 h=cA7 N (dAb N M) v0 v1 v4 v5 v6 h:=rfl
def f71 (N:Nat) (a0:zV2) (a1:Int) (h:Heap):Option (Int×Heap):=let h1:=h.push (.row [(.str [58,58]),(.str [45,62]),(.str [61,61])] .own);(pD (dAb N N a0 a1 0 ⟨(some (h.next,0)),3,3,1⟩ 0 h1) fun o12 (j13:zX1) h14=>(bif uD o12 (.exit 0) then(pD (eAi N N j13.1 j13.2.1 j13.2.2.1 [40,41,123,125,60,62,44,59,58,46,42,38,43,45,61,33] 0 h14) fun o20 (j21:zH1) h22=>(bif uD o20 (.exit 2) then some (0,h22)else some (j21.1,h22)))else some (j13.2.2.1,h14)))
def oBf:Ann:=(.two .n (.two .n (.two (.two .n (.two (.loop [(0,zR2),(1,zT2),(4,zT2),(5,zQ2),(6,zT2)] [(.exit 0),.ret] [(0,zR2),(1,zT2),(4,zT2)] .n) .n)) (.two .n (.two (.two .n (.two (.loop [(0,zR2),(1,zT2),(4,zT2),(7,zR2),(8,zT2)] [(.exit 2),.ret] [(4,zT2)] .n) .n)) .n)))))
theorem kB8 (N:Nat):jD Tryz.prog 71 [zR2,zT2] (.val zT2) (fun x h=>f71 N x.1 x.2.1 h):=qD kA N oBf Tryz.f71
def dA7 (N:Nat) (go:zV2→SL→Int→Int→SL→Int→Heap→Option (Out×zN1×Heap)) (v0:zV2) (v2:SL) (v3 v4:Int) (v5:SL) (v6:Int) (h:Heap):Option (Out×zN1×Heap):=let x4:=qB v6 (Int.ofNat v0.length);(bif x4 then let h5:=h.push (.row yZE .own);(rA (h5.store (h.next,0) [(.int .i64 0),(.str []),(.int .i64 v6)]) fun h6=>(rG v0 v6 fun x7=>(lA (f65 N x7 h6) fun (x8:Bool) h9=>(bif x8 then(lA (f66 N v0 v6 h9) fun (x10:Int) h11=>(iA (.val zR2) (rD E h11 9 (.str v0) (some (.int .i64 v6)) (some (.int .i64 x10))) fun (x12:zV2)=>(rA (h11.store ((h.next,0).1,(h.next,0).2+1) [(.str x12)]) fun h13=>(rA (h13.store ((h.next,0).1,(h.next,0).2+0) [(.int .i64 1)]) fun h14=>(iA (.val zR2) (h14.cell ((h.next,0).1,(h.next,0).2+1)) fun (x15:zV2)=>(lA (f67 N x15 h14) fun (x16:Bool) h17=>(bif x16 then(rA (h17.store ((h.next,0).1,(h.next,0).2+0) [(.int .i64 2)]) fun h18=>(iA (.val zF) (h18.cells (h.next,0) 3) fun (x19:zP)=>let h20:=h18.push (.row (yRH x19) .own);(tD (.val zQ2) (fB E 57 57 (.slice v5.a v5.len v5.cap v5.sz) (.slice (some (h18.next,0)) 1 1 3) h20) fun (x21:SL) h22=>(lA (f64 N v0 x10 h22) fun (x23:Int) h24=>go v0 v2 v3 v4 x21 x23 h24))))else(iA (.val zR2) (h17.cell ((h.next,0).1,(h.next,0).2+1)) fun (x25:zV2)=>(lA (f46 N x25 h17) fun (x26:Bool) h27=>let x28:=!x26;(bif x28 then some (Out.ret,(v0,⟨none,0,0,0⟩,20,v6,v5,()),h27)else(iA (.val zF) (h27.cells (h.next,0) 3) fun (x29:zP)=>let h30:=h27.push (.row (yRH x29) .own);(tD (.val zQ2) (fB E 57 57 (.slice v5.a v5.len v5.cap v5.sz) (.slice (some (h27.next,0)) 1 1 3) h30) fun (x31:SL) h32=>
 (lA (f64 N v0 x10 h32) fun (x33:Int) h34=>go v0 v2 v3 v4 x31 x33 h34)))))))))))))else(rG v0 v6 fun x35=>let x36:=dB x35 39;(bif x36 then let x37:=wA .i64 (v6+1);(lA (f66 N v0 x37 h9) fun (x38:Int) h39=>let x40:=wA .i64 (v6+1);(iA (.val zR2) (rD E h39 9 (.str v0) (some (.int .i64 x40)) (some (.int .i64 x38))) fun (x41:zV2)=>(rA (h39.store ((h.next,0).1,(h.next,0).2+1) [(.str x41)]) fun h42=>(rA (h42.store ((h.next,0).1,(h.next,0).2+0) [(.int .i64 3)]) fun h43=>(iA (.val zR2) (h43.cell ((h.next,0).1,(h.next,0).2+1)) fun (x44:zV2)=>(lA (f68 N x44 h43) fun (x45:Bool) h46=>let x47:=!x45;(bif x47 then some (Out.ret,(v0,⟨none,0,0,0⟩,20,v6,v5,()),h46)else(iA (.val zF) (h46.cells (h.next,0) 3) fun (x48:zP)=>let h49:=h46.push (.row (yRH x48) .own);(tD (.val zQ2) (fB E 57 57 (.slice v5.a v5.len v5.cap v5.sz) (.slice (some (h46.next,0)) 1 1 3) h49) fun (x50:SL) h51=>(lA (f64 N v0 x38 h51) fun (x52:Int) h53=>go v0 v2 v3 v4 x50 x52 h53))))))))))else(rG v0 v6 fun x54=>(lA (f69 N x54 h9) fun (x55:Bool) h56=>(bif x55 then(lA (f66 N v0 v6 h56) fun (x57:Int) h58=>(iA (.val zR2) (rD E h58 9 (.str v0) (some (.int .i64 v6)) (some (.int .i64 x57))) fun (x59:zV2)=>(rA (h58.store ((h.next,0).1,(h.next,0).2+1) [(.str x59)]) fun h60=>(rA (h60.store ((h.next,0).1,(h.next,0).2+0) [(.int .i64 4)]) fun h61=>(iA (.val zR2) (h61.cell ((h.next,0).1,(h.next,0).2+1)) fun (x62:zV2)=>(lA (f70 N x62 h61) fun (x63:Bool) h64=>let x65:=!x63;(bif x65 then
 some (Out.ret,(v0,⟨none,0,0,0⟩,20,v6,v5,()),h64)else(iA (.val zF) (h64.cells (h.next,0) 3) fun (x66:zP)=>let h67:=h64.push (.row (yRH x66) .own);(tD (.val zQ2) (fB E 57 57 (.slice v5.a v5.len v5.cap v5.sz) (.slice (some (h64.next,0)) 1 1 3) h67) fun (x68:SL) h69=>(lA (f64 N v0 x57 h69) fun (x70:Int) h71=>go v0 v2 v3 v4 x68 x70 h71))))))))))else(lA (f71 N v0 v6 h56) fun (x72:Int) h73=>let x74:=dB x72 0;(bif x74 then some (Out.ret,(v0,⟨none,0,0,0⟩,20,v6,v5,()),h73)else let x75:=wA .i64 (v6+x72);(iA (.val zR2) (rD E h73 9 (.str v0) (some (.int .i64 v6)) (some (.int .i64 x75))) fun (x76:zV2)=>(rA (h73.store ((h.next,0).1,(h.next,0).2+1) [(.str x76)]) fun h77=>(rA (h77.store ((h.next,0).1,(h.next,0).2+0) [(.int .i64 5)]) fun h78=>(iA (.val zF) (h78.cells (h.next,0) 3) fun (x79:zP)=>let h80:=h78.push (.row (yRH x79) .own);(tD (.val zQ2) (fB E 57 57 (.slice v5.a v5.len v5.cap v5.sz) (.slice (some (h78.next,0)) 1 1 3) h80) fun (x81:SL) h82=>(lA (f64 N v0 x75 h82) fun (x83:Int) h84=>go v0 v2 v3 v4 x81 x83 h84)))))))))))))))))else some ((Out.exit 0),(v0,v2,v3,v4,v5,()),h))
def pA4 (N M:Nat) (v0:zV2) (v2:SL) (v3 v4:Int) (v5:SL) (v6:Int) (h:Heap):Option (Out×zN1×Heap):=iter (fun go s h=>dA7 N (fun v0 v2 v3 v4 v5 v6 h=>go (v0,v2,v3,v4,v5,v6,()) h) s.1 s.2.1 s.2.2.1 s.2.2.2.1 s.2.2.2.2.1 s.2.2.2.2.2.1 h) M (v0,v2,v3,v4,v5,v6,()) h
theorem pAe (N M v0 v2 v3 v4 v5 v6 h):pA4 N (M+1) v0 v2 v3 v4 v5 v6 h=dA7 N (pA4 N M) v0 v2 v3 v4 v5 v6 h:=rfl
def f28 (N:Nat) (a0:zV2) (h:Heap):Option ((SL×Int×Int×Unit)×Heap):=let x1:=qB 1048576 (Int.ofNat a0.length);(bif x1 then some ((⟨none,0,0,0⟩,5,0,()),h)else(lA (f64 N a0 0 h) fun (x2:Int) h3=>(pD (pA4 N N a0 ⟨none,0,0,0⟩ 0 0 ⟨none,0,0,0⟩ x2 h3) fun o85 (j86:zN1) h87=>(bif uD o85 (.exit 0) then let h88:=h87.push (.row [(.int .i64 0),(.str []),(.int .i64 (Int.ofNat j86.1.length))] .own);(tD (.val zQ2) (fB E 57 57 (.slice j86.2.2.2.2.1.a j86.2.2.2.2.1.len j86.2.2.2.2.1.cap j86.2.2.2.2.1.sz) (.slice (some (h87.next,0)) 1 1 3) h88) fun (x89:SL) h90=>some ((x89,0,0,()),h90))else some ((j86.2.1,j86.2.2.1,j86.2.2.2.1,()),h87)))))
def pBf:Ann:=(.two .n (.two .n (.two .n (.two .n (.two (.two (.loop [(0,zR2),(2,zQ2),(3,zT2),(4,zT2),(5,zQ2),(6,zT2)] [(.exit 0),.ret] [(0,zR2),(2,zQ2),(3,zT2),(4,zT2),(5,zQ2)] .n) .n) .n)))))
theorem lB8 (N:Nat):jD Tryz.prog 28 [zR2] (.tup [zQ2,zT2,zT2]) (fun x h=>f28 N x.1 h):=qD (bA (kB8 N) (bA (jB8 N) (bA (mAp N) (bA (kAy N) (bA (jAy N) (bA (iAy N) (bA (lAp N) (bA (gB8 N) (bA (iB8 N) kA))))))))) N pBf Tryz.f28
def oY (N:Nat) (go:zO2→Int→Int→Int→Heap→Option (Out×zL1×Heap)) (v4:zO2) (v6 v7 v8:Int) (h:Heap):Option (Out×zL1×Heap):=let x8:=qB v8 200;(bif x8 then(rA v4 fun q9=>(iA (.val zU2) (h.cell (q9.1,q9.2+2)) fun (x10:AV)=>(iA (.tup [zP2,zS2]) (iJ E x10 127 true) fun (x11:zO1)=>let x12:=!x11.2.1;(bif x12 then some ((Out.exit 0),(v6,v7,()),h)else(bif x11.1.isNone then some ((Out.exit 0),(v6,v7,()),h)else(rA x11.1 fun q13=>(iA (.val zT2) (h.cell (q13.1,q13.2+1)) fun (x14:Int)=>let x15:=wA .i64 (v8+1);go x11.1 v6 x14 x15 h)))))))else some ((Out.exit 0),(v6,v7,()),h))
def fAi (N M:Nat) (v4:zO2) (v6 v7 v8:Int) (h:Heap):Option (Out×zL1×Heap):=iter (fun go s h=>oY N (fun v4 v6 v7 v8 h=>go (v4,v6,v7,v8,()) h) s.1 s.2.1 s.2.2.1 s.2.2.2.1 h) M (v4,v6,v7,v8,()) h
theorem eA1 (N M v4 v6 v7 v8 h):fAi N (M+1) v4 v6 v7 v8 h=oY N (fAi N M) v4 v6 v7 v8 h:=rfl
def f29 (N:Nat) (a0:AV) (h:Heap):Option (zL1×Heap):=(iA (.val zS2) (oK E .eql 29 (.tmp 11) (.const .nilIface) a0 AV.nilIface) fun (x1:Bool)=>(bif x1 then some ((0,0,()),h)else(iA (.tup [zP2,zS2]) (iJ E a0 127 true) fun (x2:zO1)=>let x3:=!x2.2.1;(bif x3 then some (((-1),0,()),h)else(bif x2.1.isNone then some (((-1),0,()),h)else(rA x2.1 fun q4=>(iA (.val zT2) (h.cell (q4.1,q4.2+0)) fun (x5:Int)=>(rA x2.1 fun q6=>(iA (.val zT2) (h.cell (q6.1,q6.2+1)) fun (x7:Int)=>(pD (fAi N N x2.1 x5 x7 0 h) fun _ (j17:zL1) h18=>some ((j17.1,j17.2.1,()),h18)))))))))))
def qBf:Ann:=(.two .n (.two .n (.two .n (.two .n (.two .n (.two (.two .n (.two (.loop [(4,zP2),(6,zT2),(7,zT2),(8,zT2)] [(.exit 0)] [(6,zT2),(7,zT2)] .n) .n)) .n))))))
theorem lAy (N:Nat):jD Tryz.prog 29 [zU2] (.tup [zT2,zT2]) (fun x h=>f29 N x.1 h):=qD kA N qBf Tryz.f29
def f18 (N:Nat) (a0:AV) (a1 a2:Int) (h:Heap):Option (Bool×Heap):=(lA (f29 N a0 h) fun (x1:zL1) h2=>let x3:=dB x1.1 a1;(bif x3 then let x4:=dB x1.2.1 a2;some (x4,h2)else some (false,h2)))
def rBf:Ann:=.n
theorem mB8 (N:Nat):jD Tryz.prog 18 [zU2,zT2,zT2] (.val zS2) (fun x h=>f18 N x.1 x.2.1 x.2.2.1 h):=qD (bA (lAy N) kA) N rBf Tryz.f18
end
end Qp
namespace Qp
abbrev Bs:=zV2
theorem mC {β:Type} (k:Option β):cE true k=k:=rfl
theorem tBd:E.und 9=some .string:=by kernel_rfl
theorem vD {β:Type} {s:Bs} {i:Nat} (hi:i<s.length) (K:Int→Option β):rG s (i:Int) K=K ((s[i]).toNat:Int):=by
 show (match (Int.ofNat i) with | .ofNat j=>(match s[j]? with | some b=>K b.toNat | none=>none) | .negSucc _=>none)=_;simp only [List.getElem?_eq_getElem hi]
theorem iP {i hi d:Nat} (h:i≤hi):eF (some (.int .i64 (i:Int))) hi d=some i:=by
 have:Nat.ble i hi=true:=by simpa using h
 have e:yQ (.int .i64 (i:Int))=some i:=rfl;simp only [eF,e,this,cond_true]
theorem bH {h:Heap} {s:Bs} {i j:Nat} (h1:i≤j) (h2:j≤s.length):rD E h 9 (.str s) (some (.int .i64 (i:Int))) (some (.int .i64 (j:Int)))=some (.str ((s.take j).drop i)):=by
 simp only [rD,tBd,iP h2,iP h1]
theorem qV {h:Heap} {s:Bs} {i:Nat} (h1:i≤s.length):rD E h 9 (.str s) (some (.int .i64 (i:Int))) none=some (.str (s.drop i)):=by
 have e:eF none s.length s.length=some s.length:=rfl;simp only [rD,tBd,e,iP h1,List.take_length]
theorem yAk {h:Heap} {s:Bs} {j:Nat} (h2:j≤s.length):rD E h 9 (.str s) none (some (.int .i64 (j:Int)))=some (.str (s.take j)):=by
 have e:eF none j 0=some 0:=rfl;simp only [rD,tBd,iP h2,e,List.drop_zero]
theorem oG (a b:Nat):qB (a:Int) (Int.ofNat b)=decide (a<b):=by
 rw [pAa];by_cases h:a<b <;> simp [h] <;> omega
theorem pE (a b:Nat):qB (a:Int) (b:Int)=decide (a<b):=oG a b
theorem tL {i:Nat} (h:i≤4000000000):wA .i64 (i:Int)=(i:Int):=fD (by omega) (by omega)
theorem iB {i:Nat} (h:i≤4000000000):wA .i64 ((i:Int)+1)=((i+1:Nat):Int):=by rw [fD (by omega) (by omega)];rfl
theorem eqI (a b:Int):dB a b=decide (a=b):=qAa a b
theorem leI (a b:Int):eD a b=decide (a≤b):=oAo a b
theorem ltI (a b:Int):qB a b=decide (a<b):=pAa a b
def yB (c:UInt8):Bool:=decide (97≤c.toNat∧c.toNat≤122)||decide (65≤c.toNat∧c.toNat≤90)||decide (c.toNat=95)
def qC (c:UInt8):Bool:=decide (48≤c.toNat∧c.toNat≤57)
def uL (c:UInt8):Bool:=yB c||qC c
theorem nAp (N:Nat) (c:UInt8) (h:Heap):f170 N (c.toNat:Int) h=some (yB c,h):=by
 unfold f170 yB;simp only [leI,eqI];have a1:decide ((97:Int)≤(c.toNat:Int))=decide (97≤c.toNat):=by by_cases q:97≤c.toNat <;> simp [q] <;> omega
 have a2:decide ((c.toNat:Int)≤122)=decide (c.toNat≤122):=by by_cases q:c.toNat≤122 <;> simp [q] <;> omega
 have a3:decide ((65:Int)≤(c.toNat:Int))=decide (65≤c.toNat):=by by_cases q:65≤c.toNat <;> simp [q] <;> omega
 have a4:decide ((c.toNat:Int)≤90)=decide (c.toNat≤90):=by by_cases q:c.toNat≤90 <;> simp [q] <;> omega
 have a5:decide ((c.toNat:Int)=95)=decide (c.toNat=95):=by by_cases q:c.toNat=95 <;> simp [q] <;> omega
 rw [a1,a2,a3,a4,a5]
 by_cases q1:97≤c.toNat <;> by_cases q2:c.toNat≤122 <;> by_cases q3:65≤c.toNat <;> by_cases q4:c.toNat≤90 <;> by_cases q5:c.toNat=95 <;> simp [q1,q2,q3,q4,q5]
theorem oAp (N:Nat) (c:UInt8) (h:Heap):f65 N (c.toNat:Int) h=some (yB c,h):=by
 unfold f65 yB;simp only [leI,eqI];have a1:decide ((97:Int)≤(c.toNat:Int))=decide (97≤c.toNat):=by by_cases q:97≤c.toNat <;> simp [q] <;> omega
 have a2:decide ((c.toNat:Int)≤122)=decide (c.toNat≤122):=by by_cases q:c.toNat≤122 <;> simp [q] <;> omega
 have a3:decide ((65:Int)≤(c.toNat:Int))=decide (65≤c.toNat):=by by_cases q:65≤c.toNat <;> simp [q] <;> omega
 have a4:decide ((c.toNat:Int)≤90)=decide (c.toNat≤90):=by by_cases q:c.toNat≤90 <;> simp [q] <;> omega
 have a5:decide ((c.toNat:Int)=95)=decide (c.toNat=95):=by by_cases q:c.toNat=95 <;> simp [q] <;> omega
 rw [a1,a2,a3,a4,a5]
 by_cases q1:97≤c.toNat <;> by_cases q2:c.toNat≤122 <;> by_cases q3:65≤c.toNat <;> by_cases q4:c.toNat≤90 <;> by_cases q5:c.toNat=95 <;> simp [q1,q2,q3,q4,q5]
theorem pAp (N:Nat) (c:UInt8) (h:Heap):f69 N (c.toNat:Int) h=some (qC c,h):=by
 unfold f69 qC;simp only [leI];have a1:decide ((48:Int)≤(c.toNat:Int))=decide (48≤c.toNat):=by by_cases q:48≤c.toNat <;> simp [q] <;> omega
 have a2:decide ((c.toNat:Int)≤57)=decide (c.toNat≤57):=by by_cases q:c.toNat≤57 <;> simp [q] <;> omega
 rw [a1,a2]
 by_cases q1:48≤c.toNat <;> by_cases q2:c.toNat≤57 <;> simp [q1,q2]
theorem iB1 (N:Nat) (c:UInt8) (h:Heap):f195 N (c.toNat:Int) h=some (uL c,h):=by
 unfold f195;rw [nAp,aA];unfold uL qC;simp only [leI];have a1:decide ((48:Int)≤(c.toNat:Int))=decide (48≤c.toNat):=by by_cases q:48≤c.toNat <;> simp [q] <;> omega
 have a2:decide ((c.toNat:Int)≤57)=decide (c.toNat≤57):=by by_cases q:c.toNat≤57 <;> simp [q] <;> omega
 rw [a1,a2];cases yB c <;> by_cases q1:48≤c.toNat <;> by_cases q2:c.toNat≤57 <;> simp [q1,q2]
def runN:Bs→Nat
 | []=>0
 | c::r=>if uL c then runN r+1 else 0
theorem vL:∀ t:Bs,runN t≤t.length
 | []=>Nat.le_refl _
 | c::r=>by have:=vL r;simp only [runN,List.length_cons];split <;> omega
theorem drop_cons {s:Bs} {i:Nat} (h:i<s.length):s.drop i=s[i]::s.drop (i+1):=List.drop_eq_getElem_cons h
theorem vAv {N:Nat} {s:Bs} (hs:s.length≤3000000) (h:Heap):∀ (M i:Nat),i≤s.length→s.length-i<M→oA6 N M s (i:Int) h=some (.exit 0,(((i+runN (s.drop i):Nat):Int),()),h):=by
 intro M
 induction M with
 | zero=>intro i _ h;omega
 | succ M ih=>
  intro i hi hM;rw [wAa];unfold yA0;simp only [oG]
  by_cases q:i<s.length
  ·simp only [q,decide_true,cond_true]
   rw [vD q,iB1,aA,iB (by omega),drop_cons q];simp only [runN]
   cases hg:uL s[i] with
   | true=>
    simp only [cond_true,if_true];rw [ih (i+1) q (by omega)];simp only [Nat.add_assoc,Nat.add_comm 1]
   | false=>simp
  ·simp only [q,decide_false,cond_false]
   rw [List.drop_of_length_le (by omega)];rfl
theorem qAe {N:Nat} {s:Bs} (hs:s.length≤3000000) (hN:s.length<N) {i:Nat} (hi:i≤s.length) (h:Heap):f171 N s (i:Int) h=some (((i+runN (s.drop i):Nat):Int),h):=by
 unfold f171;rw [vAv hs h N i hi (by omega)];rfl
theorem qAp {N:Nat} {s:Bs} (hs:s.length≤3000000) (h:Heap):∀ (M i:Nat),i≤s.length→s.length-i<M→cAi N M s (i:Int) h=some (.exit 0,(((i+runN (s.drop i):Nat):Int),()),h):=by
 intro M
 induction M with
 | zero=>intro i _ h;omega
 | succ M ih=>
  intro i hi hM;rw [kAe];unfold wA6;simp only [oG]
  by_cases q:i<s.length
  ·simp only [q,decide_true,cond_true]
   rw [vD q,oAp,aA,iB (by omega),vD q,pAp,aA,drop_cons q];have hI:=ih (i+1) q (by omega);have hgo:uL s[i]=(yB s[i]||qC s[i]):=rfl
   cases hg:yB s[i] with
   | true=>
    rw [hg,Bool.true_or] at hgo;simp only [runN,hgo,cond_true,if_true];rw [hI];simp only [Nat.add_assoc,Nat.add_comm 1]
   | false=>
    cases hd:qC s[i] with
    | true=>
     rw [hd,Bool.or_true] at hgo;simp only [runN,hgo,cond_true,cond_false,if_true];rw [hI];simp only [Nat.add_assoc,Nat.add_comm 1]
    | false=>
     rw [hg,hd] at hgo;simp only [runN,hgo,cond_false];simp
  ·simp only [q,decide_false,cond_false]
   rw [List.drop_of_length_le (by omega)];rfl
theorem gAi {N:Nat} {s:Bs} (hs:s.length≤3000000) (hN:s.length<N) {i:Nat} (hi:i≤s.length) (h:Heap):f66 N s (i:Int) h=some (((i+runN (s.drop i):Nat):Int),h):=by
 unfold f66;rw [qAp hs h N i hi (by omega)];rfl
def fA1:List Bs:=[[102,110],[115,116,114,117,99,116],[112,117,98],[108,101,116],[109,117,116],[105,102],[101,108,115,101],[119,104,105,108,101],[108,111,111,112],[98,114,101,97,107],[99,111,110,116,105,110,117,101],[114,101,116,117,114,110],[100,114,111,112],[116,114,117,101],[102,97,108,115,101],[105,110,116],[98,111,111,108]]
def eA7 (t:Bs):List Bs→Bool
 | []=>false
 | w::r=>bif jB t w then true else eA7 t r
def isWord (t:Bs):Bool:=eA7 t fA1
theorem jB1 (N:Nat) (t:Bs) (h:Heap):f172 N t h=some (isWord t,h):=by
 unfold f172 isWord fA1;simp only [eA7]
 repeat' (first | rfl | (generalize jB t _=b;cases b <;> simp only [cond_true,cond_false]))
theorem eAb (a b:Bs):jB a b=jB b a:=by
 rw [eE,eE]
 by_cases q:a=b
 ·subst q;rfl
 ·have q':¬ b=a:=fun e=>q e.symm
  rw [beq_eq_false_iff_ne.2 q,beq_eq_false_iff_ne.2 q']
theorem aAl {N:Nat} {t:Bs} {h:Heap} {A:Nat} {l:List Bs} (hg:h.is A (l.map AV.str)) (hl:l.length≤1000):∀ (M i:Nat),i≤l.length→l.length-i<M→
  dAi N M t false ⟨some (A,0),l.length,l.length,1⟩ (i:Int) h=bif eA7 t (l.drop i) then some (.ret,(true,()),h) else some (.exit 0,(false,()),h):=by
 intro M
 induction M with
 | zero=>intro i _ h;omega
 | succ M ih=>
  intro i hi hM;rw [lAe];unfold yA6;simp only [oG]
  by_cases q:i<l.length
  ·simp only [q,decide_true,cond_true]
   have e:=jT (β:=Out×zY×Heap) (A,0) l.length i 1;rw [show ((i:Nat):Int)=Int.ofNat i from rfl,jT _ _ _ _ _ q];simp only [Nat.zero_add,Nat.mul_one];have hc:=hg.cell i;rw [List.drop_eq_getElem_cons (by simpa using q)] at hc;simp only [List.head?_cons,List.getElem_map] at hc;rw [hc];simp only [fA,rB];rw [List.drop_eq_getElem_cons q];simp only [eA7,eAb t]
   cases hq:jB l[i] t with
   | true=>simp
   | false=>
    simp only [cond_false];rw [show Int.ofNat i=(i:Int) from rfl,iB (by omega)];exact ih (i+1) q (by omega)
  ·simp only [q,decide_false,cond_false]
   rw [List.drop_of_length_le (by omega)];rfl
theorem mAy {N:Nat} (hN:20≤N) (t:Bs) (h:Heap):f67 N t h=some (isWord t,h.push (.row (fA1.map AV.str) .own)):=by
 unfold f67
 have:=aAl (N:=N) (t:=t) (Heap.is_push h (fA1.map AV.str)) (by decide) N 0 (Nat.zero_le _) (by show 17-0<N;omega)
 have e:(h.push (.row (fA1.map AV.str) .own))=h.push (.row [(.str [102,110]),(.str [115,116,114,117,99,116]),(.str [112,117,98]),(.str [108,101,116]),(.str [109,117,116]),(.str [105,102]),(.str [101,108,115,101]),(.str [119,104,105,108,101]),(.str [108,111,111,112]),(.str [98,114,101,97,107]),(.str [99,111,110,116,105,110,117,101]),(.str [114,101,116,117,114,110]),(.str [100,114,111,112]),(.str [116,114,117,101]),(.str [102,97,108,115,101]),(.str [105,110,116]),(.str [98,111,111,108])] .own):=rfl;rw [← e];dsimp only;rw [show (⟨some (h.next,0),17,17,1⟩:SL)=⟨some (h.next,0),fA1.length,fA1.length,1⟩ from rfl,show (0:Int)=((0:Nat):Int) from rfl,this,List.drop_zero];unfold isWord;cases eA7 t fA1 <;> rfl
end Qp
namespace Qp
def nH (p x:Bs):Bool:=decide (p.length≤x.length)&&jB (x.take p.length) p
theorem rAp (N:Nat) (x p:Bs) (h:Heap):f140 N x p h=some (nH p x,h):=by
 unfold f140 f186;have e:eD (Int.ofNat p.length) (Int.ofNat x.length)=decide (p.length≤x.length):=by
  rw [leI];by_cases q:p.length≤x.length <;> simp [q] <;> omega
 simp only [e,nH]
 by_cases q:p.length≤x.length
 ·simp only [q,decide_true,cond_true,Bool.true_and]
  rw [show Int.ofNat p.length=(p.length:Int) from rfl,yAk q];rfl
 ·simp only [q,decide_false,cond_false,Bool.false_and];rfl
theorem wN {p x:Bs} (h:nH p x=true):x.take p.length=p∧p.length≤x.length:=by
 simp only [nH,Bool.and_eq_true,decide_eq_true_eq,eE,beq_iff_eq] at h;exact ⟨h.2,h.1⟩
theorem tAp (N:Nat) (x:Bs) (c:Int) (h:Heap):f141 N x c h=some (Qa.vAh c.toNat.toUInt8 x 0,h):=rfl
def wH:Bs→Nat
 | []=>0
 | c::r=>if c.toNat=10 then 0 else wH r+1
def oF (c:UInt8):Bool:=decide (c.toNat=32)||decide (c.toNat=9)||decide (c.toNat=10)
def aC:Bool→Bs→Nat
 | _,[]=>0
 | true,c::r=>if c.toNat=10 then aC false r+1 else aC true r+1
 | false,c::r=>if oF c=true then aC false r+1 else if nH [47,47] (c::r)=true then aC true r+1 else 0
theorem fA7:∀ t:Bs,wH t≤t.length
 | []=>Nat.le_refl _
 | c::r=>by have:=fA7 r;simp only [wH,List.length_cons];split <;> omega
theorem rV:∀ t:Bs,aC true t=wH t+aC false (t.drop (wH t))
 | []=>rfl
 | c::r=>by
  have ih:=rV r
  by_cases q:c.toNat=10
  ·have hb:oF c=true:=by simp [oF,q]
   simp only [wH,q,if_true,List.drop_zero,Nat.zero_add,aC,hb]
  ·simp only [wH,q,if_false,aC,List.drop_succ_cons];omega
theorem aL:∀ (t:Bs) (b:Bool),aC b t≤t.length
 | [],b=>by cases b <;> simp [aC]
 | c::r,b=>by
  have h1:=aL r true;have h2:=aL r false
  cases b with
  | true=>simp only [aC,List.length_cons];split <;> omega
  | false=>
   simp only [aC,List.length_cons]
   split
   ·omega
   ·split <;> omega
theorem uAp {c:UInt8} {r:Bs} (h:nH [47,47] (c::r)=true):c.toNat=47∧∃ r',r=47::r':=by
 obtain ⟨h1,h2⟩:=wN h
 cases r with
 | nil=>simp at h2
 | cons d r'=>simp at h1;exact ⟨by rw [h1.1];rfl,r',by rw [h1.2]⟩
theorem fAb {t:Bs} (h:nH [47,47] t=true):aC false t=aC true t∧2≤wH t:=by
 cases t with
 | nil=>simp [nH] at h
 | cons c r=>
  obtain ⟨h1,r',rfl⟩:=uAp h;have hb:oF c=false:=by simp [oF,h1]
  have e:(47:UInt8).toNat=47:=rfl;refine ⟨by simp [aC,hb,h,h1],?_⟩;simp [wH,h1,e]
theorem iAi:∀ (t:Bs) (k:Nat),Qa.vAh 10 t k=if wH t<t.length then ((k+wH t:Nat):Int) else -1
 | [],k=>rfl
 | c::r,k=>by
  have ih:=iAi r (k+1);have e:(10:UInt8).toNat=10:=rfl;simp only [Qa.vAh,e]
  by_cases q:c.toNat=10
  ·have:Nat.beq c.toNat 10=true:=by rw [q];rfl
   simp only [this,cond_true,wH,q,if_true,List.length_cons];rw [if_pos (Nat.succ_pos _)];simp
  ·have:Nat.beq c.toNat 10=false:=by
    cases hb:Nat.beq c.toNat 10 with
    | false=>rfl
    | true=>exact absurd (Nat.eq_of_beq_eq_true hb) q
   simp only [this,cond_false,wH,q,if_false,List.length_cons,ih]
   by_cases z:wH r<r.length
   ·rw [if_pos z,if_pos (by omega)];congr 1;omega
   ·rw [if_neg z,if_neg (by omega)]
theorem yH (c:UInt8) (n:Nat):dB (c.toNat:Int) (n:Int)=decide (c.toNat=n):=by
 rw [eqI];by_cases q:c.toNat=n <;> simp [q] <;> omega
theorem bAl {N:Nat} {s:Bs} (hs:s.length≤3000000) (h:Heap):∀ (M i:Nat),i≤s.length→s.length-i<M→
  ∃ o a b,wAh N M s (i:Int) 0 h=some (o,(a,b,()),h)∧(bif uD o (.exit 0) then a else b)=((i+aC false (s.drop i):Nat):Int):=by
 intro M
 induction M with
 | zero=>intro i _ h;omega
 | succ M ih=>
  intro i hi hM;rw [dAe];unfold nA6;simp only [oG]
  by_cases q:i<s.length
  ·simp only [q,decide_true,cond_true]
   rw [vD q];have b32:=yH s[i] 32;have b9:=yH s[i] 9;have b10:=yH s[i] 10;rw [show ((32:Nat):Int)=32 from rfl] at b32;rw [show ((9:Nat):Int)=9 from rfl] at b9;rw [show ((10:Nat):Int)=10 from rfl] at b10;have nx:oF s[i]=true→((i+1+aC false (s.drop (i+1)):Nat):Int)=((i+aC false (s.drop i):Nat):Int):=fun hb=>by
    rw [drop_cons q];simp only [aC,hb,if_true];congr 1;omega
   obtain ⟨o,a,b,e1,e2⟩:=ih (i+1) q (by omega);simp only [b32]
   by_cases q1:(s[i]).toNat=32
   ·simp only [q1,decide_true,cond_true]
    rw [iB (by omega)];exact ⟨o,a,b,e1,e2.trans (nx (by simp [oF,q1]))⟩
   simp only [q1,decide_false,cond_false];rw [vD q];simp only [b9]
   by_cases q2:(s[i]).toNat=9
   ·simp only [q2,decide_true,cond_true]
    rw [iB (by omega)];exact ⟨o,a,b,e1,e2.trans (nx (by simp [oF,q2]))⟩
   simp only [q2,decide_false,cond_false];rw [vD q];simp only [b10]
   by_cases q3:(s[i]).toNat=10
   ·simp only [q3,decide_true,cond_true]
    rw [iB (by omega)];exact ⟨o,a,b,e1,e2.trans (nx (by simp [oF,q3]))⟩
   simp only [q3,decide_false,cond_false];rw [qV hi];simp only [fA,rB,rAp,aA];have hb:oF s[i]=false:=by simp [oF,q1,q2,q3]
   cases hp:nH [47,47] (s.drop i) with
   | false=>
    simp only [cond_false];refine ⟨_,_,_,rfl,?_⟩;rw [drop_cons q] at hp ⊢;simp only [aC,hb,hp,if_false,Bool.false_eq_true,Nat.add_zero];rfl
   | true=>
    simp only [cond_true];have hr:=fAb hp;have hl:=fA7 (s.drop i);rw [List.length_drop] at hl;rw [qV hi];simp only [fA,rB,tAp,aA];rw [show (10:Int).toNat.toUInt8=10 from rfl,iAi];rw [hr.1,rV]
    by_cases z:wH (s.drop i)<(s.drop i).length
    ·rw [if_pos z]
     have:qB ((0+wH (s.drop i):Nat):Int) 0=false:=by rw [ltI];simp
     simp only [this,cond_false];rw [show ((i:Int)+((0+wH (s.drop i):Nat):Int))=((i+wH (s.drop i):Nat):Int) by simp,tL (by omega)];obtain ⟨o,a,b,e1,e2⟩:=ih (i+wH (s.drop i)) (by omega) (by omega);refine ⟨o,a,b,e1,e2.trans ?_⟩;rw [List.drop_drop];congr 1;omega
    ·rw [if_neg z]
     have:qB (-1) 0=true:=rfl
     simp only [this,cond_true];refine ⟨_,_,_,rfl,?_⟩;rw [List.length_drop] at z;rw [show (s.drop i).drop (wH (s.drop i))=[] from List.drop_of_length_le (by rw [List.length_drop];omega)];show (Int.ofNat s.length)=_;simp only [aC,Nat.add_zero]
     have:i+wH (s.drop i)=s.length:=by omega
     rw [this];rfl
  ·simp only [q,decide_false,cond_false]
   refine ⟨_,_,_,rfl,?_⟩;rw [List.drop_of_length_le (by omega)];simp [aC]
theorem nAy {N:Nat} {s:Bs} (hs:s.length≤3000000) (hN:s.length<N) {i:Nat} (hi:i≤s.length) (h:Heap):f90 N s (i:Int) h=some (((i+aC false (s.drop i):Nat):Int),h):=by
 unfold f90;obtain ⟨o,a,b,e1,e2⟩:=bAl hs h N i hi (by omega);rw [e1];simp only [pB]
 cases ho:uD o (.exit 0) with
 | true=>rw [ho] at e2;simp only [cond_true] at e2 ⊢;rw [e2]
 | false=>rw [ho] at e2;simp only [cond_false] at e2 ⊢;rw [e2]
theorem vAp {N:Nat} {s:Bs} (hs:s.length≤3000000) (h:Heap):∀ (M i:Nat),i≤s.length→s.length-i<M→
  aAi N M s (i:Int) h=some (.exit 2,(s,((i+wH (s.drop i):Nat):Int),()),h):=by
 intro M
 induction M with
 | zero=>intro i _ h;omega
 | succ M ih=>
  intro i hi hM;rw [iAe];unfold uA6;simp only [oG]
  by_cases q:i<s.length
  ·simp only [q,decide_true,cond_true]
   have b10:=yH s[i] 10;rw [show ((10:Nat):Int)=10 from rfl] at b10;rw [vD q,drop_cons q];simp only [b10,wH]
   by_cases z:(s[i]).toNat=10
   ·simp [z]
   ·simp only [z,decide_false,Bool.not_false,cond_true,if_false]
    rw [iB (by omega),ih (i+1) q (by omega)];rw [show i+(wH (s.drop (i+1))+1)=i+1+wH (s.drop (i+1)) by omega]
  ·simp only [q,decide_false,cond_false]
   rw [List.drop_of_length_le (by omega)];simp [wH]
theorem wAp {N:Nat} {s:Bs} (hs:s.length≤3000000) (hN:s.length<N) (h:Heap):∀ (M i:Nat),i≤s.length→s.length-i<M→
  bAi N M s (i:Int) h=some (.exit 0,(((i+aC false (s.drop i):Nat):Int),()),h):=by
 intro M
 induction M with
 | zero=>intro i _ h;omega
 | succ M ih=>
  intro i hi hM;rw [jAe];unfold vA6;simp only [oG]
  by_cases q:i<s.length
  ·simp only [q,decide_true,cond_true]
   rw [vD q];have b32:=yH s[i] 32;have b9:=yH s[i] 9;have b10:=yH s[i] 10;rw [show ((32:Nat):Int)=32 from rfl] at b32;rw [show ((9:Nat):Int)=9 from rfl] at b9;rw [show ((10:Nat):Int)=10 from rfl] at b10;have nx:oF s[i]=true→i+1+aC false (s.drop (i+1))=i+aC false (s.drop i):=fun hb=>by
    rw [drop_cons q];simp only [aC,hb,if_true];omega
   have e1:=ih (i+1) q (by omega);simp only [b32]
   by_cases q1:(s[i]).toNat=32
   ·simp only [q1,decide_true,cond_true]
    rw [iB (by omega),e1,nx (by simp [oF,q1])]
   simp only [q1,decide_false,cond_false];rw [vD q];simp only [b9]
   by_cases q2:(s[i]).toNat=9
   ·simp only [q2,decide_true,cond_true]
    rw [iB (by omega),e1,nx (by simp [oF,q2])]
   simp only [q2,decide_false,cond_false];rw [vD q];simp only [b10]
   by_cases q3:(s[i]).toNat=10
   ·simp only [q3,decide_true,cond_true]
    rw [iB (by omega),e1,nx (by simp [oF,q3])]
   simp only [q3,decide_false,cond_false];have hb:oF s[i]=false:=by simp [oF,q1,q2,q3]
   have w1:wA .i64 ((Int.ofNat s.length)-(i:Int))=((s.length-i:Nat):Int):=by
    rw [fD (by show _≤(s.length:Int)-i;omega) (by show (s.length:Int)-i≤_;omega)];show (s.length:Int)-i=_;omega
   have w2:eD 2 ((s.length-i:Nat):Int)=decide (2≤s.length-i):=by
    rw [leI];by_cases z:2≤s.length-i <;> simp [z] <;> omega
   rw [w1,w2];have stop:nH [47,47] (s.drop i)=false→i+aC false (s.drop i)=i:=fun hp=>by
    rw [drop_cons q] at hp ⊢;simp only [aC,hb,hp,if_false,Bool.false_eq_true,Nat.add_zero]
   have hlen:(s.drop i).length=s.length-i:=List.length_drop
   by_cases z:2≤s.length-i
   ·simp only [z,decide_true,cond_true]
    have w3:wA .i64 ((i:Int)+2)=((i+2:Nat):Int):=by rw [fD (by omega) (by omega)];rfl
    rw [w3,bH (by omega) (by omega)];simp only [fA,rB];have et:(s.take (i+2)).drop i=(s.drop i).take 2:=by rw [List.drop_take];congr 1;omega
    have ep:jB ((s.take (i+2)).drop i) [47,47]=nH [47,47] (s.drop i):=by
     rw [et];simp only [nH,hlen,List.length_cons,List.length_nil];rw [decide_eq_true (by omega)];rfl
    rw [ep]
    cases hp:nH [47,47] (s.drop i) with
    | false=>simp only [cond_false];rw [stop hp]
    | true=>
     simp only [cond_true];have hr:=fAb hp;have hl:=fA7 (s.drop i);rw [hlen] at hl;rw [vAp hs h N i hi (by omega)];simp only [pB];rw [ih (i+wH (s.drop i)) (by omega) (by omega),hr.1,rV,List.drop_drop,Nat.add_assoc]
   ·simp only [z,decide_false,cond_false]
    have hp:nH [47,47] (s.drop i)=false:=by
     simp only [nH,hlen,List.length_cons,List.length_nil];rw [decide_eq_false (by omega)];rfl
    rw [stop hp]
  ·simp only [q,decide_false,cond_false]
   rw [List.drop_of_length_le (by omega)];simp [aC]
theorem oAy {N:Nat} {s:Bs} (hs:s.length≤3000000) (hN:s.length<N) {i:Nat} (hi:i≤s.length) (h:Heap):f64 N s (i:Int) h=some (((i+aC false (s.drop i):Nat):Int),h):=by
 unfold f64;rw [wAp hs hN h N i hi (by omega)];rfl
end Qp
namespace Qp
theorem sub_eq (s:Bs) (i n:Nat):(s.take (i+n)).drop i=(s.drop i).take n:=by rw [List.drop_take];congr 1;omega
def dI (p:UInt8→Bool):Bs→Bool
 | []=>false
 | c::_=>p c
def nX (t:Bs):Bool:=decide (1≤t.length)&&decide (t.length≤32)&&dI yB t&&decide (runN t=t.length)
def gA7 (t:Bs):Bool:=nX t&&!isWord t
theorem pAy {N:Nat} {t:Bs} (ht:t.length≤3000000) (hN:t.length<N) (h:Heap):f68 N t h=some (nX t,h):=by
 unfold f68;have e1:eD 1 (Int.ofNat t.length)=decide (1≤t.length):=by
  rw [leI];by_cases q:1≤t.length <;> simp [q] <;> omega
 have e2:eD (Int.ofNat t.length) 32=decide (t.length≤32):=by
  rw [leI];by_cases q:t.length≤32 <;> simp [q] <;> omega
 simp only [e1,e2]
 by_cases q1:1≤t.length
 ·by_cases q2:t.length≤32
  ·simp only [q1,q2,decide_true,cond_true]
   have h0:0<t.length:=q1;rw [show (0:Int)=((0:Nat):Int) from rfl,vD h0,oAp,aA]
   cases t with
   | nil=>simp at h0
   | cons c r=>
    simp only [List.getElem_cons_zero]
    cases hl:yB c with
    | false=>simp [nX,dI,hl]
    | true=>
     simp only [cond_true];rw [gAi ht hN (Nat.zero_le _),aA];simp only [Nat.zero_add,List.drop_zero];have e3:dB ((runN (c::r):Nat):Int) (Int.ofNat (c::r).length)=decide (runN (c::r)=(c::r).length):=by
      rw [eqI];by_cases q:runN (c::r)=(c::r).length
      ·simp only [q,decide_true];simp
      ·simp only [q,decide_false];simp;simp at q;omega
     rw [e3];simp only [nX,dI,hl,q1,q2,decide_true,Bool.true_and]
  ·simp only [q1,q2,decide_true,decide_false,cond_true,cond_false,nX,Bool.true_and,Bool.false_and]
 ·simp only [q1,decide_false,cond_false,nX,Bool.false_and]
theorem nB8 {N:Nat} {t:Bs} (ht:t.length≤3000000) (hN:t.length<N) (hN2:20≤N) (h:Heap):∃ h',f46 N t h=some (gA7 t,h')∧Chg [] h h':=by
 unfold f46 gA7;rw [pAy ht hN,aA]
 cases hl:nX t with
 | false=>exact ⟨h,rfl,Chg.refl _ _⟩
 | true=>
  simp only [cond_true];rw [mAy hN2,aA];exact ⟨_,rfl,qA _ _⟩
def tU:Bs→Nat→Nat
 | [],v=>v
 | c::r,v=>tU r (v * 10+(c.toNat-48))
theorem yAp:∀ (t:Bs) (v:Nat),v≤tU t v
 | [],v=>Nat.le_refl _
 | c::r,v=>by have:=yAp r (v * 10+(c.toNat-48));simp only [tU];omega
def aN (t:Bs):Bool:=t.all qC&&Nat.ble (tU t 0) 2147483647&&!(decide (1<t.length)&&dI (fun c=>decide (c.toNat=48)) t)
theorem u8_in {x:Int} (h1:0≤x) (h2:x≤255):wA .u8 x=x:=by
 rw [yJ];exact IntWalk.u8_in x ⟨h1,h2⟩
theorem aAq {c:UInt8} (h:qC c=true) {v:Nat} (hv:v≤3000000000):wA .i64 (wA .i64 ((v:Int) * 10)+wA .i64 (wA .u8 ((c.toNat:Int)-48)))=((v * 10+(c.toNat-48):Nat):Int):=by
 simp only [qC,decide_eq_true_eq] at h;rw [u8_in (by omega) (by omega),fD (x:=(c.toNat:Int)-48) (by omega) (by omega),fD (x:=(v:Int) * 10) (by omega) (by omega),fD (by omega) (by omega)];omega
def tkc (k:Int) (x:Bs) (a:Int):List AV:=[.int .i64 k,.str x,.int .i64 a]
theorem wAv {N:Nat} {s:Bs} (hs:s.length≤3000000) {i j A:Nat} (hj:j≤s.length) {H:Heap} {k0:Int} {x0:Bs} {a0:Int} (hA:H.own A (tkc k0 x0 a0)):∀ (M k v:Nat),k≤j→j-k<M→v≤2147483647→
  pA6 N M s (i:Int) (some (A,0)) 0 (j:Int) (v:Int) (k:Int) H=bif (((s.take j).drop k).all qC&&Nat.ble (tU ((s.take j).drop k) v) 2147483647) then some (.exit 0,(s,(i:Int),some (A,0),0,(j:Int),()),H) else some (.ret,(s,(i:Int),some (A,0),0,(j:Int),()),H.put A (.row (tkc 0 [] 0) .own)):=by
 intro M
 induction M with
 | zero=>intro k v _ h;omega
 | succ M ih=>
  intro k v hk hM hv;rw [yAa];unfold aA1;simp only [pE];have hst:H.store (A,0) [.int .i64 0,.str [],.int .i64 0]=some (H.put A (.row (tkc 0 [] 0) .own)):=hA.store rfl
  by_cases q:k<j
  ·simp only [q,decide_true,cond_true]
   have qk:k<s.length:=by omega
   have et:(s.take j).drop k=s[k]::(s.take j).drop (k+1):=by
    rw [List.drop_eq_getElem_cons (by rw [List.length_take];omega),List.getElem_take]
   rw [et];rw [vD qk];have l48:qB ((s[k]).toNat:Int) 48=decide ((s[k]).toNat<48):=by
    rw [ltI];by_cases z:(s[k]).toNat<48 <;> simp [z] <;> omega
   have l57:qB 57 ((s[k]).toNat:Int)=decide (57<(s[k]).toNat):=by
    rw [ltI];by_cases z:57<(s[k]).toNat <;> simp [z] <;> omega
   simp only [l48]
   by_cases z1:(s[k]).toNat<48
   ·have hd:qC s[k]=false:=by simp [qC];omega
    simp only [z1,decide_true,cond_true,dA,hst,List.all_cons,hd,Bool.false_and,cond_false]
   simp only [z1,decide_false,cond_false];rw [vD qk];simp only [l57]
   by_cases z2:57<(s[k]).toNat
   ·have hd:qC s[k]=false:=by simp [qC];omega
    simp only [z2,decide_true,cond_true,dA,hst,List.all_cons,hd,Bool.false_and,cond_false]
   simp only [z2,decide_false,cond_false];have hd:qC s[k]=true:=by simp [qC];omega
   rw [vD qk,aAq hd (by omega)];have lm:qB 2147483647 ((v * 10+((s[k]).toNat-48):Nat):Int)=decide (2147483647<v * 10+((s[k]).toNat-48)):=by
    rw [ltI];by_cases z:2147483647<v * 10+((s[k]).toNat-48) <;> simp only [z,decide_true,decide_false,decide_eq_true_eq,decide_eq_false_iff_not] <;> omega
   rw [lm];simp only [List.all_cons,hd,Bool.true_and,tU]
   by_cases z3:2147483647<v * 10+((s[k]).toNat-48)
   ·have:=yAp ((s.take j).drop (k+1)) (v * 10+((s[k]).toNat-48))
    have hn:Nat.ble (tU ((s.take j).drop (k+1)) (v * 10+((s[k]).toNat-48))) 2147483647=false:=by
     cases hb:Nat.ble (tU ((s.take j).drop (k+1)) (v * 10+((s[k]).toNat-48))) 2147483647 with
     | false=>rfl
     | true=>rw [Nat.ble_eq] at hb;omega
    simp only [z3,decide_true,cond_true,dA,hst,hn,Bool.and_false,cond_false]
   ·simp only [z3,decide_false,cond_false]
    rw [iB (by omega)];exact ih (k+1) _ q (by omega) (by omega)
  ·simp only [q,decide_false,cond_false]
   have:(s.take j).drop k=[]:=List.drop_of_length_le (by rw [List.length_take];omega)
   rw [this];have hb:Nat.ble v 2147483647=true:=by rw [Nat.ble_eq];exact hv
   simp only [List.all_nil,tU,hb,Bool.and_self,cond_true]
def rAe (i:Nat) (r:zP×Int×Unit) (o:Option (Int×Bs×Nat)):Prop:=match o with
 | some (k,x,n)=>r=((k,x,(i:Int),()),((i+n:Nat):Int),())
 | none=>r.2.1=0
theorem dH {H:Heap} {A:Nat} {k:Int} {x:Bs} {a:Int} (hA:H.own A (tkc k x a)) {β:Type} (K:zP→Option β):iA (.val zF) (H.cells (A,0) 3) K=K (k,x,a,()):=by
 have:H.cells (A,0) 3=some (.agg (tkc k x a)):=hA.cells (j:=0) (m:=3) (Nat.le_refl _)
 rw [this];simp [tkc]
theorem cAl {H:Heap} {A:Nat} {cs:List AV} (hA:H.own A cs) (hl:cs.length=3) (k:Int) (x:Bs) (a:Int) {β:Type} (K:zP→Heap→Option β) :
  (rA (H.store (A,0) [.int .i64 k,.str x,.int .i64 a]) fun h7=>iA (.val zF) (h7.cells (A,0) 3) fun x8=>K x8 h7)=K (k,x,a,()) (H.put A (.row (tkc k x a) .own)):=by
 have:H.store (A,0) [.int .i64 k,.str x,.int .i64 a]=some (H.put A (.row (tkc k x a) .own)):=hA.store (by rw [hl];rfl)
 rw [this,dA,dH (yA hA _)]
section
variable {N:Nat} {s:Bs} (hs:s.length≤3000000) (hN:s.length<N) {i:Nat}
include hs hN
theorem tAe (hi:i≤s.length) (h:Heap):∃ r h',f142 N s (i:Int) h=some (r,h')∧Chg [] h h'∧rAe i r (let n:=runN (s.drop i);let x:=(s.drop i).take n;if isWord x=true then some (2,x,n) else if n≤32 then some (1,x,n) else none):=by
 unfold f142;have hn:=vL (s.drop i);rw [List.length_drop] at hn;have hxl:((s.drop i).take (runN (s.drop i))).length=runN (s.drop i):=by rw [List.length_take,List.length_drop];omega
 have o1:=vA h (tkc 0 [] 0);have c1:=qA h (.row (tkc 0 [] 0) .own);have e1:h.push (.row [(.int .i64 0),(.str []),(.int .i64 0)] .own)=h.push (.row (tkc 0 [] 0) .own):=rfl;rw [e1];generalize h.push (.row (tkc 0 [] 0) .own)=h1 at *;dsimp only;rw [qAe hs hN hi,aA,bH (by omega) (by omega),sub_eq];simp only [fA,rB,jB1,aA];have cp:∀ k x a,Chg [] h (h1.put h.next (.row (tkc k x a) .own)):=fun k x a=>c1.put (.inr (Nat.le_refl _)) _
 cases hw:isWord ((s.drop i).take (runN (s.drop i))) with
 | true=>
  simp only [cond_true,if_true];rw [cAl o1 rfl];exact ⟨_,_,rfl,cp _ _ _,rfl⟩
 | false=>
  simp only [cond_false,Bool.false_eq_true,if_false];rw [hxl];have e2:eD (Int.ofNat (runN (s.drop i))) 32=decide (runN (s.drop i)≤32):=by
   rw [leI];by_cases q:runN (s.drop i)≤32 <;> simp [q] <;> omega
  rw [e2]
  by_cases q:runN (s.drop i)≤32
  ·simp only [q,decide_true,cond_true,if_true]
   rw [cAl o1 rfl];exact ⟨_,_,rfl,cp _ _ _,rfl⟩
  ·simp only [q,decide_false,cond_false,if_false]
   rw [cAl o1 rfl];exact ⟨_,_,rfl,cp _ _ _,rfl⟩
theorem bAq (hi:i<s.length) (hd0:qC s[i]=true) (h:Heap):∃ r h',f143 N s (i:Int) h=some (r,h')∧Chg [] h h'∧rAe i r (let n:=runN (s.drop i);let x:=(s.drop i).take n;if aN x=true then some (4,x,n) else none):=by
 unfold f143;have hn:=vL (s.drop i);rw [List.length_drop] at hn;have o1:=vA h (tkc 0 [] 0);have c1:=qA h (.row (tkc 0 [] 0) .own);have e1:h.push (.row [(.int .i64 0),(.str []),(.int .i64 0)] .own)=h.push (.row (tkc 0 [] 0) .own):=rfl;rw [e1];generalize h.push (.row (tkc 0 [] 0) .own)=h1 at *;dsimp only;have hn1:1≤runN (s.drop i):=by
  rw [drop_cons hi];simp only [runN]
  have:uL s[i]=true:=by simp [uL,hd0]
  simp [this]
 rw [qAe hs hN (by omega),aA];have lp:=wAv (N:=N) hs (i:=i) (j:=i+runN (s.drop i)) (by omega) o1 N i 0 (by omega) (by omega) (by omega);rw [show ((0:Nat):Int)=0 from rfl] at lp;rw [lp,sub_eq];have hxl:((s.drop i).take (runN (s.drop i))).length=runN (s.drop i):=by rw [List.length_take,List.length_drop];omega
 have hhd:dI (fun c=>decide (c.toNat=48)) ((s.drop i).take (runN (s.drop i)))=decide ((s[i]).toNat=48):=by
  obtain ⟨m,hm⟩:∃ m,runN (s.drop i)=m+1:=⟨runN (s.drop i)-1,by omega⟩;rw [hm,drop_cons hi,List.take_succ_cons];rfl
 have cp:∀ k x a,Chg [] h (h1.put h.next (.row (tkc k x a) .own)):=fun k x a=>c1.put (.inr (Nat.le_refl _)) _;unfold aN;rw [hhd,hxl]
 cases hok:(((s.drop i).take (runN (s.drop i))).all qC&&Nat.ble (tU ((s.drop i).take (runN (s.drop i))) 0) 2147483647) with
 | false=>
  simp only [Bool.false_eq_true,if_false,pB,Bool.false_and,cond_false];simp only [iT,cond_false,dA];rw [dH (yA o1 _)];exact ⟨_,_,rfl,cp _ _ _,rfl⟩
 | true=>
  simp only [pB,Bool.true_and,cond_true];simp only [vH,decide_true,cond_true];rw [vD hi];have b48:=yH s[i] 48;rw [show ((48:Nat):Int)=48 from rfl] at b48;have w1:wA .i64 (((i+runN (s.drop i):Nat):Int)-(i:Int))=((runN (s.drop i):Nat):Int):=by
   rw [show ((i+runN (s.drop i):Nat):Int)-(i:Int)=((runN (s.drop i):Nat):Int) by omega,tL (by omega)]
  have w2:qB 1 ((runN (s.drop i):Nat):Int)=decide (1<runN (s.drop i)):=by
   rw [ltI];by_cases q:1<runN (s.drop i) <;> simp [q] <;> omega
  rw [b48,w1,w2]
  by_cases z:(s[i]).toNat=48
  ·simp only [z,decide_true,cond_true,Bool.and_true]
   by_cases z2:1<runN (s.drop i)
   ·simp only [z2,decide_true,cond_true,dA,Bool.not_true,Bool.false_eq_true,if_false]
    rw [cAl o1 rfl];exact ⟨_,_,rfl,cp _ _ _,rfl⟩
   ·simp only [z2,decide_false,cond_false,dA,Bool.not_false,if_true]
    rw [bH (by omega) (by omega),sub_eq];simp only [fA,rB];rw [cAl o1 rfl];exact ⟨_,_,rfl,cp _ _ _,rfl⟩
  ·simp only [z,decide_false,cond_false,Bool.and_false,Bool.not_false,if_true,dA]
   rw [bH (by omega) (by omega),sub_eq];simp only [fA,rB];rw [cAl o1 rfl];exact ⟨_,_,rfl,cp _ _ _,rfl⟩
theorem kB1 (hi:i<s.length) (h:Heap):∃ r h',f144 N s (i:Int) h=some (r,h')∧Chg [] h h'∧rAe i r (let t:=s.drop (i+1);let n:=runN t;if dI yB t=true then (if n≤32 then some (3,t.take n,n+1) else none) else none):=by
 unfold f144;have o1:=vA h (tkc 0 [] 0);have c1:=qA h (.row (tkc 0 [] 0) .own);have e1:h.push (.row [(.int .i64 0),(.str []),(.int .i64 0)] .own)=h.push (.row (tkc 0 [] 0) .own):=rfl;rw [e1];generalize h.push (.row (tkc 0 [] 0) .own)=h1 at *;dsimp only;have cp:∀ k x a,Chg [] h (h1.put h.next (.row (tkc k x a) .own)):=fun k x a=>c1.put (.inr (Nat.le_refl _)) _;rw [iB (by omega)];have e2:dB ((i+1:Nat):Int) (Int.ofNat s.length)=decide (i+1=s.length):=by
  rw [eqI];by_cases q:i+1=s.length
  ·simp only [q,decide_true];simp
  ·simp only [q,decide_false,decide_eq_false_iff_not];intro e;exact q (Int.ofNat.inj e)
 rw [e2]
 by_cases q:i+1=s.length
 ·simp only [q,decide_true,cond_true]
  rw [List.drop_of_length_le (Nat.le_refl _)];rw [cAl o1 rfl];exact ⟨_,_,rfl,cp _ _ _,rfl⟩
 ·simp only [q,decide_false,cond_false]
  have hi1:i+1<s.length:=by omega
  rw [vD hi1,nAp,aA];have hh:dI yB (s.drop (i+1))=yB s[i+1]:=by rw [drop_cons hi1];rfl
  rw [hh]
  cases hl:yB s[i+1] with
  | false=>
   simp only [Bool.not_false,cond_true,Bool.false_eq_true,if_false];rw [cAl o1 rfl];exact ⟨_,_,rfl,cp _ _ _,rfl⟩
  | true=>
   simp only [Bool.not_true,cond_false,if_true];have hn:=vL (s.drop (i+1));rw [List.length_drop] at hn;rw [qAe hs hN (by omega),aA];have w1:wA .i64 (((i+1+runN (s.drop (i+1)):Nat):Int)-(i:Int))=((1+runN (s.drop (i+1)):Nat):Int):=by
    rw [show ((i+1+runN (s.drop (i+1)):Nat):Int)-(i:Int)=((1+runN (s.drop (i+1)):Nat):Int) by omega,tL (by omega)]
   have w3:wA .i64 (((1+runN (s.drop (i+1)):Nat):Int)-1)=((runN (s.drop (i+1)):Nat):Int):=by
    rw [show ((1+runN (s.drop (i+1)):Nat):Int)-1=((runN (s.drop (i+1)):Nat):Int) by omega,tL (by omega)]
   have w2:qB 32 ((runN (s.drop (i+1)):Nat):Int)=decide (32<runN (s.drop (i+1))):=by
    rw [ltI];by_cases q:32<runN (s.drop (i+1)) <;> simp [q] <;> omega
   rw [w1,w3,w2]
   by_cases z:32<runN (s.drop (i+1))
   ·simp only [z,decide_true,cond_true]
    rw [if_neg (by omega)];rw [cAl o1 rfl];exact ⟨_,_,rfl,cp _ _ _,rfl⟩
   ·simp only [z,decide_false,cond_false]
    rw [if_pos (by omega)];rw [bH (by omega) (by omega),sub_eq];simp only [fA,rB];rw [cAl o1 rfl];refine ⟨_,_,rfl,cp _ _ _,?_⟩;show _=_;rw [show i+(runN (s.drop (i+1))+1)=i+1+runN (s.drop (i+1)) by omega]
end
end Qp
namespace Qp
def two:List Bs:=[[58,58],[45,62],[61,61]]
def cAq:Bs:=[40,41,123,125,60,62,44,59,58,46,42,38,43,45,61,33]
def oAu (c:UInt8):Bs→Bool
 | []=>false
 | x::r=>bif Nat.beq x.toNat c.toNat then true else oAu c r
def oJ (t:Bs):List Bs→Option Bs
 | []=>none
 | p::r=>bif nH p t then some p else oJ t r
def cG (t:Bs):Option (Int×Bs×Nat):=match oJ t two with
 | some p=>some (5,p,2)
 | none=>match t with
  | []=>none
  | c::_=>if oAu c cAq=true then some (5,[c],1) else none
theorem tV {t:Bs}:∀ {l:List Bs} {p:Bs},oJ t l=some p→p∈l∧nH p t=true
 | [],p,h=>by cases h
 | q::r,p,h=>by
  simp only [oJ] at h
  cases hq:nH q t with
  | true=>rw [hq] at h;simp only [cond_true,Option.some.injEq] at h;subst h;exact ⟨List.mem_cons_self,hq⟩
  | false=>
   rw [hq] at h;simp only [cond_false] at h;obtain ⟨h1,h2⟩:=tV h;exact ⟨List.mem_cons_of_mem _ h1,h2⟩
theorem dAq:∀ p∈two,p.length=2:=by decide
theorem eAq {t p:Bs} (h:oJ t two=some p):p=t.take 2∧2≤t.length:=by
 obtain ⟨h1,h2⟩:=tV h;obtain ⟨h3,h4⟩:=wN h2;rw [dAq p h1] at h3 h4;exact ⟨h3.symm,h4⟩
theorem fAq (c:UInt8):∀ (l:Bs) (k:Nat),qB (Qa.vAh c l k) 0 = !oAu c l
 | [],k=>rfl
 | x::r,k=>by
  simp only [Qa.vAh,oAu]
  cases Nat.beq x.toNat c.toNat with
  | true=>simp only [cond_true,Bool.not_true];rw [ltI];simp
  | false=>simp only [cond_false];exact fAq c r (k+1)
section
variable {N:Nat} {s:Bs}
theorem gAq (hs:s.length≤3000000) {i A B:Nat} (hi:i≤s.length) {H:Heap} {l:List Bs} (hB:H.is B (l.map AV.str)) (hl:l.length≤1000) (hA:H.own A (tkc 0 [] 0)):∀ (M j:Nat),j≤l.length→l.length-j<M→
  qA6 N M s (i:Int) (some (A,0)) 0 ⟨some (B,0),l.length,l.length,1⟩ (Int.ofNat l.length) (j:Int) H=match oJ (s.drop i) (l.drop j) with
   | some p=>some (.ret,(s,(i:Int),some (A,0),((i+2:Nat):Int),()),H.put A (.row (tkc 5 p (i:Int)) .own))
   | none=>some (.exit 0,(s,(i:Int),some (A,0),0,()),H):=by
 intro M
 induction M with
 | zero=>intro j _ h;omega
 | succ M ih=>
  intro j hj hM;rw [aAb];unfold bA1;simp only [oG]
  by_cases q:j<l.length
  ·simp only [q,decide_true,cond_true]
   rw [show ((j:Nat):Int)=Int.ofNat j from rfl,jT _ _ _ _ _ q];simp only [Nat.zero_add,Nat.mul_one];have hc:=hB.cell j;rw [List.drop_eq_getElem_cons (by simpa using q)] at hc;simp only [List.head?_cons,List.getElem_map] at hc;rw [hc];simp only [fA,rB];rw [qV hi];simp only [fA,rB,rAp,aA];rw [List.drop_eq_getElem_cons q];simp only [oJ]
   cases hq:nH l[j] (s.drop i) with
   | true=>
    simp only [cond_true,dA];have w3:wA .i64 ((i:Int)+2)=((i+2:Nat):Int):=by rw [fD (by omega) (by omega)];rfl
    rw [w3,show H.store (A,0) [.int .i64 5,.str l[j],.int .i64 (i:Int)]=some (H.put A (.row (tkc 5 l[j] (i:Int)) .own)) from hA.store rfl];rfl
   | false=>
    simp only [cond_false];rw [show Int.ofNat j=(j:Int) from rfl,iB (by omega)];exact ih (j+1) q (by omega)
  ·simp only [q,decide_false,cond_false]
   rw [show l.drop j=[] from List.drop_of_length_le (by omega)];rfl
theorem iA7 (hs:s.length≤3000000) (hN:s.length<N) (hN2:20≤N) {i:Nat} (hi:i<s.length) (h:Heap):∃ r h',f145 N s (i:Int) h=some (r,h')∧Chg [] h h'∧rAe i r (cG (s.drop i)):=by
 unfold f145;have o1:=vA h (tkc 0 [] 0);have c1:=qA h (.row (tkc 0 [] 0) .own);have e1:h.push (.row [(.int .i64 0),(.str []),(.int .i64 0)] .own)=h.push (.row (tkc 0 [] 0) .own):=rfl;rw [e1];generalize h.push (.row (tkc 0 [] 0) .own)=h1 at *;have o2:=Heap.is_push h1 (two.map AV.str);have c2:=qA h1 (.row (two.map AV.str) .own);have o3:=o1.chg c2 (by simp);have e2:h1.push (.row [(.str [58,58]),(.str [45,62]),(.str [61,61])] .own)=h1.push (.row (two.map AV.str) .own):=rfl;dsimp only;rw [e2];have n1:(h1.push (.row (two.map AV.str) .own)).next=h1.next+1:=rfl;generalize h1.push (.row (two.map AV.str) .own)=h2 at *;have lp:=gAq (N:=N) hs (Nat.le_of_lt hi) o2 (by decide) o3 N 0 (Nat.zero_le _) (by show 3-0<N;omega);rw [show ((0:Nat):Int)=0 from rfl,show (⟨some (h1.next,0),two.length,two.length,1⟩:SL)=⟨some (h1.next,0),3,3,1⟩ from rfl,show Int.ofNat two.length=Int.ofNat 3 from rfl,List.drop_zero] at lp;rw [lp];have c3:=c1.trans c2;have cp:∀ k x a,Chg [] h (h2.put h.next (.row (tkc k x a) .own)):=fun k x a=>c3.put (.inr (Nat.le_refl _)) _;unfold cG
 cases hf:oJ (s.drop i) two with
 | some p=>
  simp only [pB,iT,cond_false,dA];rw [dH (yA o3 _)];exact ⟨_,_,rfl,cp _ _ _,rfl⟩
 | none=>
  simp only [pB,vH,decide_true,cond_true];rw [vD hi,tAp,aA];have eb:((s[i]).toNat:Int).toNat.toUInt8=s[i]:=by simp
  rw [eb];rw [drop_cons hi];have en:=fAq s[i] cAq 0;unfold cAq at en;rw [en];dsimp only
  cases hm:oAu s[i] [40,41,123,125,60,62,44,59,58,46,42,38,43,45,61,33] with
  | false=>
   simp only [Bool.not_false,cond_true,dA];rw [cAl o3 rfl];refine ⟨_,_,rfl,cp _ _ _,?_⟩;simp only [cAq,hm,Bool.false_eq_true,if_false];rfl
  | true=>
   simp only [Bool.not_true,cond_false,dA];rw [iB (by omega),bH (by omega) (by omega),sub_eq];simp only [fA,rB];rw [cAl o3 rfl];refine ⟨_,_,rfl,cp _ _ _,?_⟩;simp only [cAq,hm,if_true];show _=_;rw [drop_cons hi];rfl
def uV (t:Bs):Nat:=match cG t with
 | some (_,_,n)=>n
 | none=>0
theorem dAl (hs:s.length≤3000000) {i B:Nat} (hi:i≤s.length) {H:Heap} {l:List Bs} (hB:H.is B (l.map AV.str)) (hl:l.length≤1000) (h2:∀ p∈l,p.length=2):∀ (M j:Nat),j≤l.length→l.length-j<M→
  dAb N M s (i:Int) 0 ⟨some (B,0),l.length,l.length,1⟩ (j:Int) H=match oJ (s.drop i) (l.drop j) with
   | some p=>some (.ret,(s,(i:Int),2,()),H)
   | none=>some (.exit 0,(s,(i:Int),0,()),H):=by
 intro M
 induction M with
 | zero=>intro j _ h;omega
 | succ M ih=>
  intro j hj hM;rw [oAe];unfold cA7;simp only [oG]
  by_cases q:j<l.length
  ·simp only [q,decide_true,cond_true]
   have w1:wA .i64 ((Int.ofNat s.length)-(i:Int))=((s.length-i:Nat):Int):=by
    rw [fD (by show _≤(s.length:Int)-i;omega) (by show (s.length:Int)-i≤_;omega)];show (s.length:Int)-i=_;omega
   have w2:eD 2 ((s.length-i:Nat):Int)=decide (2≤s.length-i):=by
    rw [leI];by_cases z:2≤s.length-i <;> simp [z] <;> omega
   rw [w1,w2];have hlen:(s.drop i).length=s.length-i:=List.length_drop;have hp2:=h2 l[j] (List.getElem_mem q);have nx:nH l[j] (s.drop i)=false→dAb N M s (i:Int) 0 ⟨some (B,0),l.length,l.length,1⟩ (wA .i64 ((j:Int)+1)) H=match oJ (s.drop i) (l.drop j) with
     | some p=>some (.ret,(s,(i:Int),2,()),H)
     | none=>some (.exit 0,(s,(i:Int),0,()),H):=fun hq=>by
    rw [iB (by omega),ih (j+1) q (by omega),List.drop_eq_getElem_cons q];simp only [oJ,hq,cond_false]
   by_cases z:2≤s.length-i
   ·simp only [z,decide_true,cond_true]
    have w3:wA .i64 ((i:Int)+2)=((i+2:Nat):Int):=by rw [fD (by omega) (by omega)];rfl
    rw [w3,bH (by omega) (by omega),sub_eq];simp only [fA,rB];rw [show ((j:Nat):Int)=Int.ofNat j from rfl,jT _ _ _ _ _ q];simp only [Nat.zero_add,Nat.mul_one];have hc:=hB.cell j;rw [List.drop_eq_getElem_cons (by simpa using q)] at hc;simp only [List.head?_cons,List.getElem_map] at hc;rw [hc];simp only [fA,rB];have ep:jB ((s.drop i).take 2) l[j]=nH l[j] (s.drop i):=by
     simp only [nH,hlen,hp2];rw [decide_eq_true (by omega)];rfl
    rw [ep]
    cases hq:nH l[j] (s.drop i) with
    | true=>
     simp only [cond_true];rw [List.drop_eq_getElem_cons q];simp only [oJ,hq,cond_true]
    | false=>
     simp only [cond_false];exact nx hq
   ·simp only [z,decide_false,cond_false]
    have hq:nH l[j] (s.drop i)=false:=by
     simp only [nH,hlen,hp2];rw [decide_eq_false (by omega)];rfl
    exact nx hq
  ·simp only [q,decide_false,cond_false]
   rw [show l.drop j=[] from List.drop_of_length_le (by omega)];rfl
theorem iAq {i:Nat} (hi:i<s.length) (h:Heap) {l:Bs} (hl:l.length≤1000):∀ (M j:Nat),j≤l.length→l.length-j<M→
  eAi N M s (i:Int) 0 l (j:Int) h=bif oAu s[i] (l.drop j) then some (.ret,(1,()),h) else some (.exit 2,(0,()),h):=by
 intro M
 induction M with
 | zero=>intro j _ h;omega
 | succ M ih=>
  intro j hj hM;rw [nAe];unfold bA7;simp only [oG]
  by_cases q:j<l.length
  ·simp only [q,decide_true,cond_true]
   rw [vD q,vD hi,List.drop_eq_getElem_cons q];simp only [oAu];have e:dB ((l[j]).toNat:Int) ((s[i]).toNat:Int)=Nat.beq (l[j]).toNat (s[i]).toNat:=by
    rw [eqI]
    by_cases z:(l[j]).toNat=(s[i]).toNat
    ·rw [z,Nat.beq_refl];simp
    ·have:Nat.beq (l[j]).toNat (s[i]).toNat=false:=by
      cases hb:Nat.beq (l[j]).toNat (s[i]).toNat with
      | false=>rfl
      | true=>exact absurd (Nat.eq_of_beq_eq_true hb) z
     rw [this,decide_eq_false_iff_not];omega
   rw [e]
   cases Nat.beq (l[j]).toNat (s[i]).toNat with
   | true=>rfl
   | false=>
    simp only [cond_false];rw [iB (by omega)];exact ih (j+1) q (by omega)
  ·simp only [q,decide_false,cond_false]
   rw [List.drop_of_length_le (by omega)];rfl
theorem oB8 (hs:s.length≤3000000) (hN2:20≤N) {i:Nat} (hi:i<s.length) (h:Heap):f71 N s (i:Int) h=some ((uV (s.drop i):Int),h.push (.row (two.map AV.str) .own)):=by
 unfold f71;have o2:=Heap.is_push h (two.map AV.str);have e2:h.push (.row [(.str [58,58]),(.str [45,62]),(.str [61,61])] .own)=h.push (.row (two.map AV.str) .own):=rfl;dsimp only;rw [e2];have lp:=dAl (N:=N) hs (Nat.le_of_lt hi) o2 (by decide) dAq N 0 (Nat.zero_le _) (by show 3-0<N;omega);rw [show ((0:Nat):Int)=0 from rfl,show (⟨some (h.next,0),two.length,two.length,1⟩:SL)=⟨some (h.next,0),3,3,1⟩ from rfl,List.drop_zero] at lp;rw [lp];unfold uV cG
 cases hf:oJ (s.drop i) two with
 | some p=>rfl
 | none=>
  simp only [pB,vH,decide_true,cond_true];have l2:=iAq (N:=N) hi (h.push (.row (two.map AV.str) .own)) (l:=cAq) (by decide) N 0 (Nat.zero_le _) (by show 16-0<N;omega);unfold cAq at l2;rw [show ((0:Nat):Int)=0 from rfl,List.drop_zero] at l2;rw [l2,drop_cons hi]
  cases hm:oAu s[i] [40,41,123,125,60,62,44,59,58,46,42,38,43,45,61,33] with
  | false=>
   simp only [cAq,hm,Bool.false_eq_true,if_false];rfl
  | true=>
   simp only [cAq,hm,if_true];rfl
theorem yN {t:Bs} {k:Int} {x:Bs} {n:Nat} (h:cG t=some (k,x,n)):k=5∧x=t.take n∧1≤n∧n≤t.length:=by
 unfold cG at h
 cases hf:oJ t two with
 | some p=>
  rw [hf] at h;simp only [Option.some.injEq,Prod.mk.injEq] at h;obtain ⟨rfl,rfl,rfl⟩:=h;obtain ⟨h1,h2⟩:=eAq hf;exact ⟨rfl,h1,by omega,h2⟩
 | none=>
  rw [hf] at h
  cases t with
  | nil=>cases h
  | cons c r=>
   simp only at h
   split at h
   ·simp only [Option.some.injEq,Prod.mk.injEq] at h
    obtain ⟨rfl,rfl,rfl⟩:=h;exact ⟨rfl,rfl,Nat.le_refl _,by simp⟩
   ·cases h
end
end Qp
namespace Qp
theorem gA1 (a b:Nat):eD (a:Int) (b:Int)=decide (a≤b):=by
 rw [leI];by_cases q:a≤b <;> simp [q] <;> omega
def pJ (t:Bs):Option (Int×Bs×Nat):=let n:=runN t;let x:=t.take n;if isWord x=true then some (2,x,n) else if n≤32 then some (1,x,n) else none
def jQ (t:Bs):Option (Int×Bs×Nat):=let n:=runN t;let x:=t.take n;if aN x=true then some (4,x,n) else none
def wL (t:Bs):Option (Int×Bs×Nat):=let n:=runN t;if dI yB t=true then (if n≤32 then some (3,t.take n,n+1) else none) else none
def uC:Bs→Option (Int×Bs×Nat)
 | []=>none
 | c::r=>if yB c=true then pJ (c::r) else if qC c=true then jQ (c::r) else if c.toNat=39 then wL r else cG (c::r)
section
variable {N:Nat} {s:Bs}
theorem pB8 (hs:s.length≤3000000) (hN:s.length<N) (hN2:20≤N) {i:Nat} (hi:i<s.length) (h:Heap):∃ r h',f91 N s (i:Int) h=some (r,h')∧Chg [] h h'∧rAe i r (uC (s.drop i)):=by
 unfold f91;have o1:=vA h (tkc 0 [] 0);have c1:=qA h (.row (tkc 0 [] 0) .own);have e1:h.push (.row [(.int .i64 0),(.str []),(.int .i64 0)] .own)=h.push (.row (tkc 0 [] 0) .own):=rfl;rw [e1];generalize h.push (.row (tkc 0 [] 0) .own)=h1 at *;dsimp only;rw [vD hi];have l97:eD 97 ((s[i]).toNat:Int)=decide (97≤(s[i]).toNat):=gA1 97 _;have l122:eD ((s[i]).toNat:Int) 122=decide ((s[i]).toNat≤122):=gA1 _ 122;have l65:eD 65 ((s[i]).toNat:Int)=decide (65≤(s[i]).toNat):=gA1 65 _;have l90:eD ((s[i]).toNat:Int) 90=decide ((s[i]).toNat≤90):=gA1 _ 90;have l49:eD 49 ((s[i]).toNat:Int)=decide (49≤(s[i]).toNat):=gA1 49 _;have l57:eD ((s[i]).toNat:Int) 57=decide ((s[i]).toNat≤57):=gA1 _ 57;have e95:dB ((s[i]).toNat:Int) 95=decide ((s[i]).toNat=95):=yH _ 95;have e48:dB ((s[i]).toNat:Int) 48=decide ((s[i]).toNat=48):=yH _ 48;have e39:dB ((s[i]).toNat:Int) 39=decide ((s[i]).toNat=39):=yH _ 39;have nL:yB s[i]=true→uC (s.drop i)=pJ (s.drop i):=fun q=>by rw [drop_cons hi];simp only [uC,q,if_true]
 have nD:yB s[i]=false→qC s[i]=true→uC (s.drop i)=jQ (s.drop i):=fun q q2=>by rw [drop_cons hi];simp [uC,q,q2]
 have nF:yB s[i]=false→qC s[i]=false→(s[i]).toNat=39→uC (s.drop i)=wL (s.drop (i+1)):=fun q q2 q3=>by rw [drop_cons hi];simp [uC,q,q2,q3]
 have nS:yB s[i]=false→qC s[i]=false→(s[i]).toNat≠39→uC (s.drop i)=cG (s.drop i):=fun q q2 q3=>by rw [drop_cons hi];simp [uC,q,q2,q3]
 unfold pJ at nL;unfold jQ at nD;unfold wL at nF
 by_cases q1:97≤(s[i]).toNat
 ·by_cases q2:(s[i]).toNat≤122
  ·simp only [eq_self,l97,l122,l65,l90,e95,e48,l49,l57,e39,decide_true,decide_false,cond_true,cond_false,dA,fC,jC,aA,q1,q2]
   obtain ⟨r,h2,e,c2,t⟩:=tAe hs hN (Nat.le_of_lt hi) h1;have o2:=o1.chg c2 (by simp);have hst:h2.store (h.next,0) [(.int .i64 r.1.1),(.str r.1.2.1),(.int .i64 r.1.2.2.1)]=some (h2.put h.next (.row (tkc r.1.1 r.1.2.1 r.1.2.2.1) .own)):=o2.store rfl;simp only [e,aA,dA,hst,fC,jC];rw [dH (yA o2 _)];refine ⟨_,_,rfl,(c1.trans c2).put (.inr (Nat.le_refl _)) _,?_⟩;show rAe i r _;rw [nL (by first | (unfold yB;simp only [Bool.or_eq_true,decide_eq_true_eq];omega))];exact t
  ·have z3:65≤(s[i]).toNat:=by omega
   have z4:¬ (s[i]).toNat≤90:=by omega
   have z5:¬ (s[i]).toNat=95:=by omega
   have z6:¬ (s[i]).toNat=48:=by omega
   have z7:49≤(s[i]).toNat:=by omega
   have z8:¬ (s[i]).toNat≤57:=by omega
   have z9:¬ (s[i]).toNat=39:=by omega
   have q9:=z9;have nl:yB s[i]=false:=by unfold yB;simp only [Bool.or_eq_false_iff,decide_eq_false_iff_not];omega
   have nd:qC s[i]=false:=by unfold qC;simp only [decide_eq_false_iff_not];omega
   simp only [eq_self,l97,l122,l65,l90,e95,e48,l49,l57,e39,decide_true,decide_false,cond_true,cond_false,dA,fC,jC,aA,q1,q2,z3,z4,z5,z6,z7,z8,z9];obtain ⟨r,h2,e,c2,t⟩:=iA7 hs hN hN2 hi h1;have o2:=o1.chg c2 (by simp);have hst:h2.store (h.next,0) [(.int .i64 r.1.1),(.str r.1.2.1),(.int .i64 r.1.2.2.1)]=some (h2.put h.next (.row (tkc r.1.1 r.1.2.1 r.1.2.2.1) .own)):=o2.store rfl;simp only [e,aA,dA,hst,fC,jC];rw [dH (yA o2 _)];refine ⟨_,_,rfl,(c1.trans c2).put (.inr (Nat.le_refl _)) _,?_⟩;show rAe i r _;rw [nS nl nd q9];exact t
 ·by_cases q3:65≤(s[i]).toNat
  ·by_cases q4:(s[i]).toNat≤90
   ·simp only [eq_self,l97,l122,l65,l90,e95,e48,l49,l57,e39,decide_true,decide_false,cond_true,cond_false,dA,fC,jC,aA,q1,q3,q4]
    obtain ⟨r,h2,e,c2,t⟩:=tAe hs hN (Nat.le_of_lt hi) h1;have o2:=o1.chg c2 (by simp);have hst:h2.store (h.next,0) [(.int .i64 r.1.1),(.str r.1.2.1),(.int .i64 r.1.2.2.1)]=some (h2.put h.next (.row (tkc r.1.1 r.1.2.1 r.1.2.2.1) .own)):=o2.store rfl;simp only [e,aA,dA,hst,fC,jC];rw [dH (yA o2 _)];refine ⟨_,_,rfl,(c1.trans c2).put (.inr (Nat.le_refl _)) _,?_⟩;show rAe i r _;rw [nL (by first | (unfold yB;simp only [Bool.or_eq_true,decide_eq_true_eq];omega))];exact t
   ·by_cases q5:(s[i]).toNat=95
    ·have q5b:decide (95=95)=true:=rfl
     simp only [eq_self,l97,l122,l65,l90,e95,e48,l49,l57,e39,decide_true,decide_false,cond_true,cond_false,dA,fC,jC,aA,q1,q3,q4,decide_eq_true q5];obtain ⟨r,h2,e,c2,t⟩:=tAe hs hN (Nat.le_of_lt hi) h1;have o2:=o1.chg c2 (by simp);have hst:h2.store (h.next,0) [(.int .i64 r.1.1),(.str r.1.2.1),(.int .i64 r.1.2.2.1)]=some (h2.put h.next (.row (tkc r.1.1 r.1.2.1 r.1.2.2.1) .own)):=o2.store rfl;simp only [e,aA,dA,hst,fC,jC];rw [dH (yA o2 _)];refine ⟨_,_,rfl,(c1.trans c2).put (.inr (Nat.le_refl _)) _,?_⟩;show rAe i r _;rw [nL (by first | (unfold yB;simp only [Bool.or_eq_true,decide_eq_true_eq];omega))];exact t
    ·have z6:¬ (s[i]).toNat=48:=by omega
     have z7:49≤(s[i]).toNat:=by omega
     have z8:¬ (s[i]).toNat≤57:=by omega
     have z9:¬ (s[i]).toNat=39:=by omega
     have q9:=z9;have nl:yB s[i]=false:=by unfold yB;simp only [Bool.or_eq_false_iff,decide_eq_false_iff_not];omega
     have nd:qC s[i]=false:=by unfold qC;simp only [decide_eq_false_iff_not];omega
     simp only [eq_self,l97,l122,l65,l90,e95,e48,l49,l57,e39,decide_true,decide_false,cond_true,cond_false,dA,fC,jC,aA,q1,q3,q4,q5,z6,z7,z8,z9];obtain ⟨r,h2,e,c2,t⟩:=iA7 hs hN hN2 hi h1;have o2:=o1.chg c2 (by simp);have hst:h2.store (h.next,0) [(.int .i64 r.1.1),(.str r.1.2.1),(.int .i64 r.1.2.2.1)]=some (h2.put h.next (.row (tkc r.1.1 r.1.2.1 r.1.2.2.1) .own)):=o2.store rfl;simp only [e,aA,dA,hst,fC,jC];rw [dH (yA o2 _)];refine ⟨_,_,rfl,(c1.trans c2).put (.inr (Nat.le_refl _)) _,?_⟩;show rAe i r _;rw [nS nl nd q9];exact t
  ·have z5:¬ (s[i]).toNat=95:=by omega
   have nl:yB s[i]=false:=by unfold yB;simp only [Bool.or_eq_false_iff,decide_eq_false_iff_not];omega
   by_cases q6:(s[i]).toNat=48
   ·have dD:qC s[i]=true:=by unfold qC;simp only [decide_eq_true_eq];omega
    simp only [eq_self,l97,l122,l65,l90,e95,e48,l49,l57,e39,decide_true,decide_false,cond_true,cond_false,dA,fC,jC,aA,q1,q3,z5,decide_eq_true q6];obtain ⟨r,h2,e,c2,t⟩:=bAq hs hN hi dD h1;have o2:=o1.chg c2 (by simp);have hst:h2.store (h.next,0) [(.int .i64 r.1.1),(.str r.1.2.1),(.int .i64 r.1.2.2.1)]=some (h2.put h.next (.row (tkc r.1.1 r.1.2.1 r.1.2.2.1) .own)):=o2.store rfl;simp only [e,aA,dA,hst,fC,jC];rw [dH (yA o2 _)];refine ⟨_,_,rfl,(c1.trans c2).put (.inr (Nat.le_refl _)) _,?_⟩;show rAe i r _;rw [nD nl dD];exact t
   ·by_cases q7:49≤(s[i]).toNat
    ·by_cases q8:(s[i]).toNat≤57
     ·have dD:qC s[i]=true:=by unfold qC;simp only [decide_eq_true_eq];omega
      simp only [eq_self,l97,l122,l65,l90,e95,e48,l49,l57,e39,decide_true,decide_false,cond_true,cond_false,dA,fC,jC,aA,q1,q3,z5,q6,q7,q8];obtain ⟨r,h2,e,c2,t⟩:=bAq hs hN hi dD h1;have o2:=o1.chg c2 (by simp);have hst:h2.store (h.next,0) [(.int .i64 r.1.1),(.str r.1.2.1),(.int .i64 r.1.2.2.1)]=some (h2.put h.next (.row (tkc r.1.1 r.1.2.1 r.1.2.2.1) .own)):=o2.store rfl;simp only [e,aA,dA,hst,fC,jC];rw [dH (yA o2 _)];refine ⟨_,_,rfl,(c1.trans c2).put (.inr (Nat.le_refl _)) _,?_⟩;show rAe i r _;rw [nD nl dD];exact t
     ·have z9:¬ (s[i]).toNat=39:=by omega
      have q9:=z9;have nd:qC s[i]=false:=by unfold qC;simp only [decide_eq_false_iff_not];omega
      simp only [eq_self,l97,l122,l65,l90,e95,e48,l49,l57,e39,decide_true,decide_false,cond_true,cond_false,dA,fC,jC,aA,q1,q3,z5,q6,q7,q8,z9];obtain ⟨r,h2,e,c2,t⟩:=iA7 hs hN hN2 hi h1;have o2:=o1.chg c2 (by simp);have hst:h2.store (h.next,0) [(.int .i64 r.1.1),(.str r.1.2.1),(.int .i64 r.1.2.2.1)]=some (h2.put h.next (.row (tkc r.1.1 r.1.2.1 r.1.2.2.1) .own)):=o2.store rfl;simp only [e,aA,dA,hst,fC,jC];rw [dH (yA o2 _)];refine ⟨_,_,rfl,(c1.trans c2).put (.inr (Nat.le_refl _)) _,?_⟩;show rAe i r _;rw [nS nl nd q9];exact t
    ·have nd:qC s[i]=false:=by unfold qC;simp only [decide_eq_false_iff_not];omega
     by_cases q9:(s[i]).toNat=39
     ·simp only [eq_self,l97,l122,l65,l90,e95,e48,l49,l57,e39,decide_true,decide_false,cond_true,cond_false,dA,fC,jC,aA,q1,q3,z5,q6,q7,decide_eq_true q9]
      obtain ⟨r,h2,e,c2,t⟩:=kB1 hs hN hi h1;have o2:=o1.chg c2 (by simp);have hst:h2.store (h.next,0) [(.int .i64 r.1.1),(.str r.1.2.1),(.int .i64 r.1.2.2.1)]=some (h2.put h.next (.row (tkc r.1.1 r.1.2.1 r.1.2.2.1) .own)):=o2.store rfl;simp only [e,aA,dA,hst,fC,jC];rw [dH (yA o2 _)];refine ⟨_,_,rfl,(c1.trans c2).put (.inr (Nat.le_refl _)) _,?_⟩;show rAe i r _;rw [nF nl nd q9];exact t
     ·simp only [eq_self,l97,l122,l65,l90,e95,e48,l49,l57,e39,decide_true,decide_false,cond_true,cond_false,dA,fC,jC,aA,q1,q3,z5,q6,q7,q9]
      obtain ⟨r,h2,e,c2,t⟩:=iA7 hs hN hN2 hi h1;have o2:=o1.chg c2 (by simp);have hst:h2.store (h.next,0) [(.int .i64 r.1.1),(.str r.1.2.1),(.int .i64 r.1.2.2.1)]=some (h2.put h.next (.row (tkc r.1.1 r.1.2.1 r.1.2.2.1) .own)):=o2.store rfl;simp only [e,aA,dA,hst,fC,jC];rw [dH (yA o2 _)];refine ⟨_,_,rfl,(c1.trans c2).put (.inr (Nat.le_refl _)) _,?_⟩;show rAe i r _;rw [nS nl nd q9];exact t
end
end Qp
namespace Qp
abbrev Tok:=Int×Bs×Nat
def pY (q:Tok):D:=.t [.i q.1,.s q.2.1,.i (q.2.2:Int)]
theorem qB8 (h:Heap) (V:Nat→Prop) (q:Tok):Dt h V (pY q) (tkc q.1 q.2.1 (q.2.2:Int)):=by
 simp only [pY,tkc,Dt,Dp];exact ⟨[_],[_,_],rfl,rfl,[_],[_],rfl,rfl,[_],[],rfl,rfl,rfl⟩
theorem jA7 {h:Heap} {V:Nat→Prop} {q:Tok} {cs:List AV} (x:Dt h V (pY q) cs):cs=tkc q.1 q.2.1 (q.2.2:Int):=by
 simp only [pY,Dt,Dp] at x;obtain ⟨a,b,rfl,rfl,a2,b2,rfl,rfl,a3,b3,rfl,rfl,rfl⟩:=x;rfl
theorem tBf:AppN E 57 61 3 100:=AppN.of (by kernel_rfl)
theorem jP {h0 H:Heap} {v:SL} {xs:List Tok} (c:Chg [] h0 H) (x:Ow h0.next H v 3 (xs.map pY)) (hl:xs.length≤2000000) (k:Int) (t:Bs) (a:Nat) :
  ∃ v' H',(∀ {β:Type} (K:SL→Heap→Option β),tD (.val zQ2) (fB E 57 57 (.slice v.a v.len v.cap v.sz) (.slice (some (H.next,0)) 1 1 3) (H.push (.row [(.int .i64 k),(.str t),(.int .i64 (a:Int))] .own))) K=K v' H')∧Ow h0.next H' v' 3 ((xs++[(k,t,a)]).map pY)∧Chg [] h0 H':=by
 obtain ⟨s',h',e,o,c',_⟩:=pT (cs:=tkc k t (a:Int)) tBf (by decide) x (qB8 H _ (k,t,a)) rfl c.next (by rw [List.length_map];omega);refine ⟨s',h',fun K=>?_,?_,c.step c' fun A hA hl=>?_⟩
 ·have e':fB E 57 57 (.slice v.a v.len v.cap v.sz) (.slice (some (H.next,0)) 1 1 3) (H.push (.row [(.int .i64 k),(.str t),(.int .i64 (a:Int))] .own))=some (.slice s'.a s'.len s'.cap s'.sz,h'):=e
  rw [e'];simp only [wF,uA]
 ·rw [List.map_append];exact o
 ·have:=x.ge A (by simpa using hA);omega
def iA1 (h:Heap) (v:AV) (c a:Int):Prop:=∃ A,v=AV.iface 127 (.ptr (some (A,0)))∧h.own A [.int .i64 c,.int .i64 a,AV.iface 78 (.int .i64 c)]
theorem lB1 (N:Nat) {c:Int} (hc:c≠0) (a:Int) (h:Heap):∃ v h',f37 N c a h=some (v,h')∧Chg [] h h'∧iA1 h' v c a:=by
 unfold f37
 have:dB c 0=false:=by rw [eqI];simpa using hc
 simp only [this,cond_false];exact ⟨_,_,rfl,qA _ _,h.next,rfl,vA h _⟩
theorem rF {t:Bs} {k:Int} {x:Bs} {n:Nat} (h:uC t=some (k,x,n)):1≤n∧n≤t.length:=by
 cases t with
 | nil=>cases h
 | cons c r=>
  have run1:yB c=true∨qC c=true→1≤runN (c::r)∧runN (c::r)≤(c::r).length:=fun q=>by
   refine ⟨?_,vL _⟩
   have:uL c=true:=by unfold uL;rcases q with q | q <;> simp [q]
   simp only [runN,this,if_true];omega
  simp only [uC] at h
  split at h
  ·rename_i q
   have:=run1 (.inl q)
   simp only [pJ] at h
   split at h
   ·simp only [Option.some.injEq,Prod.mk.injEq] at h;obtain ⟨_,_,rfl⟩:=h;exact this
   ·split at h
    ·simp only [Option.some.injEq,Prod.mk.injEq] at h;obtain ⟨_,_,rfl⟩:=h;exact this
    ·cases h
  ·split at h
   ·rename_i _ q
    have:=run1 (.inr q)
    simp only [jQ] at h
    split at h
    ·simp only [Option.some.injEq,Prod.mk.injEq] at h;obtain ⟨_,_,rfl⟩:=h;exact this
    ·cases h
   ·split at h
    ·have:=vL r
     simp only [wL] at h
     split at h
     ·split at h
      ·simp only [Option.some.injEq,Prod.mk.injEq] at h;obtain ⟨_,_,rfl⟩:=h;simp only [List.length_cons];omega
      ·cases h
     ·cases h
    ·have:=yN h;exact ⟨this.2.2.1,this.2.2.2⟩
def qY:Nat→Bs→Nat→List Tok ⊕ Nat
 | 0,_,a=>.inr a
 | M+1,t,a=>match t with
  | []=>.inl []
  | c::r=>match uC (c::r) with
   | none=>.inr a
   | some (k,x,n)=>match qY M ((c::r).drop (n+aC false ((c::r).drop n))) (a+(n+aC false ((c::r).drop n))) with
    | .inl l=>.inl ((k,x,a)::l)
    | .inr e=>.inr e
theorem jA1 (M:Nat) (s:Bs) (i:Nat) (hi:i<s.length):qY (M+1) (s.drop i) i=match uC (s.drop i) with
  | none=>.inr i
  | some (k,x,n)=>match qY M (s.drop (i+(n+aC false (s.drop (i+n))))) (i+(n+aC false (s.drop (i+n)))) with
   | .inl l=>.inl ((k,x,i)::l)
   | .inr e=>.inr e:=by
 have e:∀ n,s.drop (i+n)=(s.drop i).drop n:=fun n=>by rw [List.drop_drop]
 simp only [e];rw [drop_cons hi];rfl
theorem jAi (M:Nat) (s:Bs) (i:Nat) (hi:s.length≤i):qY (M+1) (s.drop i) i=.inl []:=by
 rw [List.drop_of_length_le hi];rfl
section
variable {N:Nat} {s:Bs}
theorem yAv (hs:s.length≤1048576) (hN:s.length<N) (hN2:20≤N) {h0:Heap}:∀ (M i:Nat) (v:SL) (xs:List Tok) (H:Heap),i≤s.length→s.length-i<M→xs.length≤i→Chg [] h0 H→Ow h0.next H v 3 (xs.map pY)→
  match qY M (s.drop i) i with
  | .inl l=>∃ v' H',bAb N M s ⟨none,0,0,0⟩ AV.nilIface v (i:Int) H=some (.exit 0,(s,⟨none,0,0,0⟩,AV.nilIface,v',()),H')∧Chg [] h0 H'∧Ow h0.next H' v' 3 ((xs++l).map pY)∧(xs++l).length≤s.length
  | .inr a=>∃ v' v3 H',bAb N M s ⟨none,0,0,0⟩ AV.nilIface v (i:Int) H=some (.ret,(s,⟨none,0,0,0⟩,v3,v',()),H')∧Chg [] h0 H'∧iA1 H' v3 20 (a:Int):=by
 intro M
 induction M with
 | zero=>intro i _ _ _ _ h;omega
 | succ M ih=>
  intro i v xs H hi hM hx c o;rw [fAe];unfold rA6;simp only [oG]
  by_cases q:i<s.length
  ·rw [jA1 M s i q]
   simp only [q,decide_true,cond_true];obtain ⟨r,h2,e,c2,t⟩:=pB8 (by omega) hN hN2 q H;rw [e,aA];have c3:=c.trans c2;have o3:=vA h2 (tkc 0 [] 0);have e3:h2.push (.row [(.int .i64 0),(.str []),(.int .i64 0)] .own)=h2.push (.row (tkc 0 [] 0) .own):=rfl;have c4:=c3.push (.row (tkc 0 [] 0) .own);have hge:h0.next≤h2.next:=c3.next;have hst:(h2.push (.row (tkc 0 [] 0) .own)).store (h2.next,0) [(.int .i64 r.1.1),(.str r.1.2.1),(.int .i64 r.1.2.2.1)]=some ((h2.push (.row (tkc 0 [] 0) .own)).put h2.next (.row (tkc r.1.1 r.1.2.1 r.1.2.2.1) .own)):=o3.store rfl;rw [e3,hst,dA];have o5:=yA o3 (tkc r.1.1 r.1.2.1 r.1.2.2.1);have c5:Chg [] h0 ((h2.push (.row (tkc 0 [] 0) .own)).put h2.next (.row (tkc r.1.1 r.1.2.1 r.1.2.2.1) .own)):=c4.put (.inr hge) _;have c25:Chg [] h2 ((h2.push (.row (tkc 0 [] 0) .own)).put h2.next (.row (tkc r.1.1 r.1.2.1 r.1.2.2.1) .own)):=((Chg.refl [] h2).push _).put (.inr (Nat.le_refl _)) _;have c05:=c2.trans c25;generalize (h2.push (.row (tkc 0 [] 0) .own)).put h2.next (.row (tkc r.1.1 r.1.2.1 r.1.2.2.1) .own)=h5 at *
   cases ht:uC (s.drop i) with
   | none=>
    rw [ht] at t;have z:dB r.2.1 0=true:=by rw [show r.2.1=0 from t];rfl
    simp only [z,cond_true];obtain ⟨vv,h6,e6,c6,f6⟩:=lB1 N (c:=20) (by decide) (i:Int) h5;rw [e6,aA];exact ⟨_,_,_,rfl,c5.trans c6,f6⟩
   | some p=>
    obtain ⟨k,x,n⟩:=p;rw [ht] at t;have hn:=rF ht;rw [List.length_drop] at hn;have t':r=((k,x,(i:Int),()),((i+n:Nat):Int),()):=t;have z:dB r.2.1 0=false:=by rw [t',eqI];simp;omega
    simp only [z,cond_false];rw [dH o5,t'];dsimp only;have ox:=o.chg c05 (by simp);obtain ⟨v',H',ea,oa,ca⟩:=jP c5 ox (by omega) k x i;rw [ea,nAy (by omega) hN (by omega),aA];have hb:=aL (s.drop (i+n)) false;rw [List.length_drop] at hb
    have:=ih (i+(n+aC false (s.drop (i+n)))) v' (xs++[(k,x,i)]) H' (by omega) (by omega) (by simp;omega) ca oa
    rw [show i+n+aC false (s.drop (i+n))=i+(n+aC false (s.drop (i+n))) by omega]
    cases hl:qY M (s.drop (i+(n+aC false (s.drop (i+n))))) (i+(n+aC false (s.drop (i+n)))) with
    | inl l=>
     rw [hl] at this;simp only [List.append_assoc,List.singleton_append] at this;exact this
    | inr a=>rw [hl] at this;exact this
  ·rw [jAi M s i (by omega)]
   simp only [q,decide_false,cond_false];refine ⟨_,_,rfl,c,by rw [List.append_nil];exact o,by rw [List.append_nil];omega⟩
def gAb (N:Nat) (s:Bs):List Tok ⊕ Nat:=match qY N (s.drop (aC false s)) (aC false s) with
 | .inl l=>.inl (l++[(0,[],s.length)])
 | .inr a=>.inr a
theorem qAy (hs:s.length≤1048576) (hN:s.length<N) (hN2:20≤N) (h:Heap):∃ r h',f54 N s h=some (r,h')∧Chg [] h h'∧match gAb N s with
  | .inl l=>r.2.1=AV.nilIface∧Ow h.next h' r.1 3 (l.map pY)∧l.length≤s.length+1
  | .inr a=>iA1 h' r.2.1 20 (a:Int):=by
 unfold f54 gAb;have z:qB 1048576 (Int.ofNat s.length)=false:=by rw [ltI,decide_eq_false_iff_not];show ¬ (1048576:Int)<(s.length:Int);omega
 simp only [z,cond_false];have f9:=nAy (by omega) hN (Nat.zero_le _) h;rw [List.drop_zero,Nat.zero_add] at f9;rw [show ((0:Nat):Int)=0 from rfl] at f9;rw [f9,aA];have hb:=aL s false;have lp:=yAv hs hN hN2 (h0:=h) N (aC false s) ⟨none,0,0,0⟩ [] h hb (by omega) (by simp) (Chg.refl _ _) (Ow.nil _ _ _ _)
 cases hl:qY N (s.drop (aC false s)) (aC false s) with
 | inl l=>
  rw [hl] at lp;obtain ⟨v',H',e,c,o,hll⟩:=lp;rw [e];simp only [pB,vH,decide_true,cond_true];obtain ⟨v2,H2,ea,oa,ca⟩:=jP c o (by omega) 0 [] s.length;rw [show Int.ofNat s.length=((s.length:Nat):Int) from rfl,ea];refine ⟨_,_,rfl,ca,rfl,oa,?_⟩;simpa using hll
 | inr a=>
  rw [hl] at lp;obtain ⟨v',v3,H',e,c,f⟩:=lp;rw [e];simp only [pB,iT,cond_false];exact ⟨_,_,rfl,c,f⟩
end
end Qp
namespace Qp
theorem eAl {c:UInt8} (h:qC c=true) {v:Nat} (hv:v≤100000000000):wA .i64 (wA .i64 ((v:Int) * 10)+wA .i64 (wA .u8 ((c.toNat:Int)-48)))=((v * 10+(c.toNat-48):Nat):Int):=by
 simp only [qC,decide_eq_true_eq] at h;rw [u8_in (by omega) (by omega),fD (x:=(c.toNat:Int)-48) (by omega) (by omega),fD (x:=(v:Int) * 10) (by omega) (by omega),fD (by omega) (by omega)];omega
theorem jAq {N:Nat} {t:Bs} (ht:t.length≤10) (h:Heap):∀ (M j v:Nat),j≤t.length→t.length-j<M→v<10 ^ j→
  ∃ w:Int,cAb N M t false (v:Int) (j:Int) h=some (bif (t.drop j).all qC then Out.exit 0 else Out.ret,(false,w,()),h)∧((t.drop j).all qC=true→w=(tU (t.drop j) v:Int)):=by
 intro M
 induction M with
 | zero=>intro j v _ h;omega
 | succ M ih=>
  intro j v hj hM hv;rw [mAe];unfold aA7;simp only [oG]
  by_cases q:j<t.length
  ·simp only [q,decide_true,cond_true]
   rw [vD q,pAp,aA,drop_cons q];simp only [List.all_cons,tU]
   cases hd:qC t[j] with
   | false=>
    simp only [Bool.not_false,cond_true,Bool.false_and,cond_false];exact ⟨_,rfl,fun h=>by cases h⟩
   | true=>
    simp only [Bool.not_true,cond_false,Bool.true_and];have hp:(10:Nat) ^ j≤10 ^ 10:=Nat.pow_le_pow_right (by omega) (by omega);rw [vD q,eAl hd (by omega),iB (by omega)];have hd':=hd;simp only [qC,decide_eq_true_eq] at hd';refine ih (j+1) _ q (by omega) ?_;rw [Nat.pow_succ];omega
  ·simp only [q,decide_false,cond_false]
   rw [List.drop_of_length_le (by omega)];exact ⟨_,rfl,fun _=>rfl⟩
theorem kAq:∀ (t:Bs) (v:Nat),v * 10 ^ t.length≤tU t v
 | [],v=>by simp [tU]
 | c::r,v=>by
  have:=kAq r (v * 10+(c.toNat-48))
  simp only [tU,List.length_cons,Nat.pow_succ];refine Nat.le_trans ?_ this;rw [Nat.mul_comm (10 ^ r.length) 10,← Nat.mul_assoc];exact Nat.mul_le_mul_right _ (by omega)
theorem qA4 {c:UInt8} {r:Bs} (hl:10<(c::r).length):aN (c::r)=false:=by
 cases hk:aN (c::r) with
 | false=>rfl
 | true=>
  exfalso
  simp only [aN,Bool.and_eq_true,Bool.not_eq_true',List.all_cons,dI,Nat.ble_eq,tU,Nat.zero_mul,Nat.zero_add,List.length_cons,Bool.and_eq_false_imp,decide_eq_true_eq,decide_eq_false_iff_not] at hk;obtain ⟨⟨⟨h1,_⟩,h2⟩,h3⟩:=hk;simp only [qC,decide_eq_true_eq] at h1;simp only [List.length_cons] at hl;have h4:=h3 (by omega)
  have:=kAq r (c.toNat-48)
  have hp:(10:Nat) ^ 10≤10 ^ r.length:=Nat.pow_le_pow_right (by omega) (by omega);have h5:1 * 10 ^ r.length≤(c.toNat-48) * 10 ^ r.length:=Nat.mul_le_mul_right _ (by omega);have hp2:(10000000000:Nat)≤10 ^ r.length:=hp;omega
theorem rB8 {N:Nat} (hN2:20≤N) {t:Bs} (hne:0<t.length) (hb:t.length≤3000000) (h:Heap):f70 N t h=some (aN t,h):=by
 unfold f70;have z0:dB (Int.ofNat t.length) 0=false:=by
  rw [eqI,decide_eq_false_iff_not];show ¬ (t.length:Int)=0;omega
 have z10:qB 10 (Int.ofNat t.length)=decide (10<t.length):=oG 10 _;have z1:qB 1 (Int.ofNat t.length)=decide (1<t.length):=oG 1 _;simp only [z0,z10,z1,cond_false]
 by_cases q:10<t.length
 ·have:aN t=false:=by
   cases t with
   | nil=>simp at hne
   | cons c r=>exact qA4 q
  simp only [q,decide_true,cond_true,dA,fC,jC,this]
 simp only [q,decide_false,cond_false];obtain ⟨w,e1,e2⟩:=jAq (N:=N) (t:=t) (by omega) h N 0 0 (Nat.zero_le _) (by omega) (by simp);rw [List.drop_zero,show ((0:Nat):Int)=0 from rfl] at e1;rw [List.drop_zero] at e2;have hh:dI (fun c=>decide (c.toNat=48)) t=decide ((t[0]).toNat=48):=by
  cases t with
  | nil=>simp at hne
  | cons c r=>rfl
 have key:(decide (1<t.length)&&dI (fun c=>decide (c.toNat=48)) t)=false→(pD (cAb N N t false 0 0 h) fun o21 (j22:zQ1) h23=>
   (bif uD o21 (.exit 0) then
    some (eD j22.2.1 2147483647,h23)
    else
    some (j22.1,h23)))=some (aN t,h):=fun hz=>by
  rw [e1];unfold aN;rw [hz]
  cases ha:t.all qC with
  | false=>rfl
  | true=>
   simp only [cond_true,pB,vH,decide_true,Bool.true_and,Bool.not_false,Bool.and_true];rw [e2 ha,leI]
   cases hb:Nat.ble (tU t 0) 2147483647 with
   | true=>rw [Nat.ble_eq] at hb;simp;omega
   | false=>
    have:¬ tU t 0≤2147483647:=fun e=>by rw [← Nat.ble_eq,hb] at e;cases e
    simp;omega
 by_cases q1:1<t.length
 ·simp only [q1,decide_true,cond_true]
  have e0:rG t 0=rG (β:=Sum (zI2×Heap) (Sum (zY×Heap) Empty)) t ((0:Nat):Int):=rfl;rw [e0,vD hne];have b48:dB ((t[0]).toNat:Int) 48=decide ((t[0]).toNat=48):=yH _ 48;simp only [b48]
  by_cases q2:(t[0]).toNat=48
  ·simp only [q2,decide_true,cond_true,dA,fC,jC]
   have:aN t=false:=by unfold aN;rw [hh];simp [q1,q2]
   rw [this]
  ·simp only [q2,decide_false,cond_false,dA,fC,jC]
   exact key (by rw [hh];simp [q2])
 ·simp only [q1,decide_false,cond_false,dA,fC,jC]
  exact key (by simp [q1])
theorem iAb:∀ t:Bs,runN (t.take (runN t))=runN t
 | []=>rfl
 | c::r=>by
  simp only [runN]
  by_cases q:uL c=true
  ·simp only [q,if_true,List.take_succ_cons,runN,iAb r]
  ·simp [q,runN]
theorem lP (t:Bs):nX (t.take (runN t))=(dI yB t&&decide (runN t≤32)):=by
 cases t with
 | nil=>rfl
 | cons c r=>
  have hr:=vL (c::r);have hl:((c::r).take (runN (c::r))).length=runN (c::r):=by rw [List.length_take];omega
  unfold nX;rw [hl,iAb]
  by_cases q:yB c=true
  ·have g:uL c=true:=by simp [uL,q]
   have h1:1≤runN (c::r):=by simp [runN,g]
   have h2:dI yB ((c::r).take (runN (c::r)))=true:=by
    simp only [runN,g,if_true,List.take_succ_cons,dI];exact q
   rw [h2];simp only [dI,q,h1,decide_true,Bool.true_and,Bool.and_true]
  ·have q':yB c=false:=by simpa using q
   have h2:dI yB ((c::r).take (runN (c::r)))=false:=by
    by_cases g:uL c=true
    ·simp only [runN,g,if_true,List.take_succ_cons,dI];exact q'
    ·simp [runN,g,dI]
   rw [h2];simp only [dI,q',Bool.false_and,Bool.and_false]
section
variable {s:Bs} {i:Nat}
theorem lAq (hi:i<s.length) (hl:yB s[i]=true) (hw:isWord ((s.drop i).take (runN (s.drop i)))=true):uC (s.drop i)=some (2,(s.drop i).take (runN (s.drop i)),runN (s.drop i)):=by
 rw [drop_cons hi] at *;simp only [uC,hl,if_true,pJ,hw]
theorem mAq (hi:i<s.length) (hl:yB s[i]=true) (hw:isWord ((s.drop i).take (runN (s.drop i)))=false):uC (s.drop i)=if gA7 ((s.drop i).take (runN (s.drop i)))=true then some (1,(s.drop i).take (runN (s.drop i)),runN (s.drop i)) else none:=by
 have hn:gA7 ((s.drop i).take (runN (s.drop i)))=decide (runN (s.drop i)≤32):=by
  unfold gA7;rw [lP,hw,drop_cons hi];simp only [dI,hl,Bool.true_and,Bool.not_false,Bool.and_true]
 rw [hn];rw [drop_cons hi] at *;simp only [uC,hl,if_true,pJ,hw,Bool.false_eq_true,if_false,decide_eq_true_eq]
theorem nAq (hi:i<s.length) (hl:yB s[i]=false) (h39:(s[i]).toNat=39):uC (s.drop i)=if nX ((s.drop (i+1)).take (runN (s.drop (i+1))))=true then some (3,(s.drop (i+1)).take (runN (s.drop (i+1))),runN (s.drop (i+1))+1) else none:=by
 have hd:qC s[i]=false:=by simp only [qC,decide_eq_false_iff_not];omega
 rw [lP,drop_cons hi];simp only [uC,hl,hd,h39,Bool.false_eq_true,if_false,if_true,wL];cases dI yB (s.drop (i+1)) <;> simp
theorem aAw (hi:i<s.length) (hl:yB s[i]=false) (hd:qC s[i]=true):uC (s.drop i)=if aN ((s.drop i).take (runN (s.drop i)))=true then some (4,(s.drop i).take (runN (s.drop i)),runN (s.drop i)) else none:=by
 rw [drop_cons hi];simp only [uC,hl,hd,Bool.false_eq_true,if_false,if_true,jQ]
theorem oAq (hi:i<s.length) (hl:yB s[i]=false) (h39:(s[i]).toNat≠39) (hd:qC s[i]=false):uC (s.drop i)=if uV (s.drop i)=0 then none else some (5,(s.drop i).take (uV (s.drop i)),uV (s.drop i)):=by
 have:uC (s.drop i)=cG (s.drop i):=by rw [drop_cons hi];simp only [uC,hl,hd,h39,Bool.false_eq_true,if_false]
 rw [this];unfold uV
 cases hs:cG (s.drop i) with
 | none=>rfl
 | some p=>
  obtain ⟨k,x,n⟩:=p;obtain ⟨rfl,rfl,h1,h2⟩:=yN hs;simp only;rw [if_neg (by omega)]
end
end Qp
namespace Qp
theorem stT {H:Heap} {A:Nat} {k:Int} {x:Bs} {a:Int} (o:H.own A (tkc k x a)) (y:Bs):H.store (A,1) [.str y]=some (H.put A (.row (tkc k y a) .own)):=o.store1 (j:=1) (by show 1<3;omega) (.str y)
theorem stK {H:Heap} {A:Nat} {k:Int} {x:Bs} {a:Int} (o:H.own A (tkc k x a)) (c:Int):H.store (A,0) [.int .i64 c]=some (H.put A (.row (tkc c x a) .own)):=o.store1 (j:=0) (by show 0<3;omega) (.int .i64 c)
theorem rdT {H:Heap} {A:Nat} {k:Int} {x:Bs} {a:Int} (o:H.own A (tkc k x a)):H.cell (A,1)=some (.str x):=o.cell 1
section
variable {N:Nat} {s:Bs}
def rAy (N M:Nat) (s:Bs) (h0:Heap) (xs:List Tok) (i:Nat) (out:Option (Out×zN1×Heap)):Prop:=match qY M (s.drop i) i with
  | .inl l=>∃ v' H',out=some (.exit 0,(s,⟨none,0,0,0⟩,0,0,v',()),H')∧Chg [] h0 H'∧Ow h0.next H' v' 3 ((xs++l).map pY)∧(xs++l).length≤s.length
  | .inr a=>∃ v' H',out=some (.ret,(s,⟨none,0,0,0⟩,20,(a:Int),v',()),H')∧Chg [] h0 H'
theorem rY {M i:Nat} {h0 H':Heap} {xs:List Tok} {v:SL} (hi:i<s.length) (hn:uC (s.drop i)=none) (c:Chg [] h0 H'):rAy N (M+1) s h0 xs i (some (.ret,(s,⟨none,0,0,0⟩,20,(i:Int),v,()),H')):=by
 unfold rAy;rw [jA1 M s i hi,hn];exact ⟨_,_,rfl,c⟩
theorem aO {M i:Nat} {h0:Heap} (hs:s.length≤1048576) (hN:s.length<N) (hi:i<s.length) {xs:List Tok} (hx:xs.length≤i)
  (ih:∀ (i:Nat) (v:SL) (xs:List Tok) (H:Heap),i≤s.length→s.length-i<M→xs.length≤i→Chg [] h0 H→Ow h0.next H v 3 (xs.map pY)→rAy N M s h0 xs i (pA4 N M s ⟨none,0,0,0⟩ 0 0 v (i:Int) H)) (hM:s.length-i<M+1)
  {k:Int} {x:Bs} {n:Nat} (hn:uC (s.drop i)=some (k,x,n)) {v:SL} {H5:Heap} (c:Chg [] h0 H5) (o:Ow h0.next H5 v 3 (xs.map pY)) {j:Int} (hj:j=((i+n:Nat):Int)) :
  rAy N (M+1) s h0 xs i (tD (.val zQ2) (fB E 57 57 (.slice v.a v.len v.cap v.sz) (.slice (some (H5.next,0)) 1 1 3) (H5.push (.row [(.int .i64 k),(.str x),(.int .i64 (i:Int))] .own))) fun (x21:SL) h22=>
   (lA (f64 N s j h22) fun (x23:Int) h24=>pA4 N M s ⟨none,0,0,0⟩ 0 0 x21 x23 h24)):=by
 have hn1:=rF hn;rw [List.length_drop] at hn1;obtain ⟨v',H',ea,oa,ca⟩:=jP c o (by omega) k x i;rw [ea,hj,oAy (by omega) hN (by omega),aA];have hb:=aL (s.drop (i+n)) false;rw [List.length_drop] at hb
 have:=ih (i+(n+aC false (s.drop (i+n)))) v' (xs++[(k,x,i)]) H' (by omega) (by omega) (by simp;omega) ca oa
 rw [show i+n+aC false (s.drop (i+n))=i+(n+aC false (s.drop (i+n))) by omega];unfold rAy at this ⊢;rw [jA1 M s i hi,hn];dsimp only
 cases hl:qY M (s.drop (i+(n+aC false (s.drop (i+n))))) (i+(n+aC false (s.drop (i+n)))) with
 | inl l=>
  rw [hl] at this;simp only [List.append_assoc,List.singleton_append] at this;exact this
 | inr a=>rw [hl] at this;exact this
theorem pAq (hs:s.length≤1048576) (hN:s.length<N) (hN2:20≤N) {h0:Heap}:∀ (M i:Nat) (v:SL) (xs:List Tok) (H:Heap),i≤s.length→s.length-i<M→xs.length≤i→Chg [] h0 H→Ow h0.next H v 3 (xs.map pY)→rAy N M s h0 xs i (pA4 N M s ⟨none,0,0,0⟩ 0 0 v (i:Int) H):=by
 intro M
 induction M with
 | zero=>intro i _ _ _ _ h;omega
 | succ M ih=>
  intro i v xs H hi hM hx c o;rw [pAe];unfold dA7;simp only [oG]
  by_cases q:i<s.length
  ·simp only [q,decide_true,cond_true]
   have o1:=vA H (tkc 0 [] 0);have e1:H.push (.row [(.int .i64 0),(.str []),(.int .i64 0)] .own)=H.push (.row (tkc 0 [] 0) .own):=rfl;have hst:(H.push (.row (tkc 0 [] 0) .own)).store (H.next,0) [(.int .i64 0),(.str []),(.int .i64 (i:Int))]=some ((H.push (.row (tkc 0 [] 0) .own)).put H.next (.row (tkc 0 [] (i:Int)) .own)):=o1.store rfl;rw [e1,hst,dA];have o2:=yA o1 (tkc 0 [] (i:Int));have c2:Chg [] H ((H.push (.row (tkc 0 [] 0) .own)).put H.next (.row (tkc 0 [] (i:Int)) .own)):=((Chg.refl [] H).push _).put (.inr (Nat.le_refl _)) _;generalize (H.push (.row (tkc 0 [] 0) .own)).put H.next (.row (tkc 0 [] (i:Int)) .own)=h2 at *;simp only [Nat.add_zero,Nat.zero_add];have hrun:=vL (s.drop i);rw [List.length_drop] at hrun;rw [vD q,oAp,aA]
   -- what a kept token's block may hold
   have st:∀ {h3:Heap} {k:Int} {x:Bs} (o3:h3.own H.next (tkc k x (i:Int))) (c3:Chg [] H h3) (k':Int) (x':Bs),Chg [] H (h3.put H.next (.row (tkc k' x' (i:Int)) .own)):=fun o3 c3 k' x'=>c3.put (.inr (Nat.le_refl _)) _
   cases hl:yB s[i] with
   | true=>
    simp only [cond_true];rw [gAi (by omega) hN (by omega),aA,bH (by omega) (by omega),sub_eq];simp only [fA,rB];generalize hxx:(s.drop i).take (runN (s.drop i))=xx;have hxl:xx.length≤3000000∧xx.length<N:=by rw [← hxx,List.length_take,List.length_drop];omega
    rw [stT o2,dA];have o3:=yA o2 (tkc 0 xx (i:Int));have c3:=st o2 c2 0 xx;rw [stK o3,dA];have o4:=yA o3 (tkc 1 xx (i:Int));have c4:=st o3 c3 1 xx;generalize ((h2.put H.next (.row (tkc 0 xx (i:Int)) .own)).put H.next (.row (tkc 1 xx (i:Int)) .own))=h4 at *;rw [rdT o4];simp only [fA,rB];rw [mAy hN2,aA];have o5:=o4.chg (qA h4 (.row (fA1.map AV.str) .own)) (by simp);have c5:=c4.push (.row (fA1.map AV.str) .own);generalize h4.push (.row (fA1.map AV.str) .own)=h5 at *
    cases hw:isWord xx with
    | true=>
     simp only [cond_true];rw [stK o5,dA,dH (yA o5 _)];have c6:=st o5 c5 2 xx;exact aO hs hN q hx ih hM (by rw [lAq q hl (by rw [hxx];exact hw),hxx]) (c.trans c6) (o.chg c6 (by simp)) rfl
    | false=>
     simp only [cond_false];rw [rdT o5];simp only [fA,rB];obtain ⟨h6,e6,c6⟩:=nB8 hxl.1 hxl.2 hN2 h5;rw [e6,aA];have nn:=mAq q hl (by rw [hxx];exact hw);rw [hxx] at nn;have o6:=o5.chg c6 (by simp);have c7:=c5.trans c6
     cases hb:gA7 xx with
     | true=>
      simp only [Bool.not_true,cond_false];rw [dH o6];exact aO hs hN q hx ih hM (by rw [nn,hb];rfl) (c.trans c7) (o.chg c7 (by simp)) rfl
     | false=>
      simp only [Bool.not_false,cond_true];exact rY (N:=N) q (by rw [nn,hb];rfl) (c.trans c7)
   | false=>
    simp only [cond_false];rw [vD q];have e39:dB ((s[i]).toNat:Int) 39=decide ((s[i]).toNat=39):=yH _ 39;simp only [e39]
    by_cases q39:(s[i]).toNat=39
    ·simp only [q39,decide_true,cond_true]
     have hrun1:=vL (s.drop (i+1));rw [List.length_drop] at hrun1;rw [iB (by omega),gAi (by omega) hN (by omega),aA,bH (by omega) (by omega),sub_eq];simp only [fA,rB];have nn:=nAq q hl q39;generalize hxx:(s.drop (i+1)).take (runN (s.drop (i+1)))=xx at *;have hxl:xx.length≤3000000∧xx.length<N:=by rw [← hxx,List.length_take,List.length_drop];omega
     rw [stT o2,dA];have o3:=yA o2 (tkc 0 xx (i:Int));have c3:=st o2 c2 0 xx;rw [stK o3,dA];have o4:=yA o3 (tkc 3 xx (i:Int));have c4:=st o3 c3 3 xx;generalize ((h2.put H.next (.row (tkc 0 xx (i:Int)) .own)).put H.next (.row (tkc 3 xx (i:Int)) .own))=h4 at *;rw [rdT o4];simp only [fA,rB];rw [pAy hxl.1 hxl.2,aA]
     cases hb:nX xx with
     | true=>
      simp only [Bool.not_true,cond_false];rw [dH o4];exact aO hs hN q hx ih hM (by rw [nn,hb];rfl) (c.trans c4) (o.chg c4 (by simp)) (by congr 1;omega)
     | false=>
      simp only [Bool.not_false,cond_true];exact rY (N:=N) q (by rw [nn,hb];rfl) (c.trans c4)
    ·simp only [q39,decide_false,cond_false]
     rw [vD q,pAp,aA]
     cases hd:qC s[i] with
     | true=>
      simp only [cond_true];rw [gAi (by omega) hN (by omega),aA,bH (by omega) (by omega),sub_eq];simp only [fA,rB];have nn:=aAw q hl hd;have hrun0:1≤runN (s.drop i):=by
       rw [drop_cons q]
       have:uL s[i]=true:=by simp [uL,hd]
       simp [runN,this]
      have hx0:((s.drop i).take (runN (s.drop i))).length=runN (s.drop i):=by rw [List.length_take,List.length_drop];omega
      generalize hxx:(s.drop i).take (runN (s.drop i))=xx at *;rw [stT o2,dA];have o3:=yA o2 (tkc 0 xx (i:Int));have c3:=st o2 c2 0 xx;rw [stK o3,dA];have o4:=yA o3 (tkc 4 xx (i:Int));have c4:=st o3 c3 4 xx;generalize ((h2.put H.next (.row (tkc 0 xx (i:Int)) .own)).put H.next (.row (tkc 4 xx (i:Int)) .own))=h4 at *;rw [rdT o4];simp only [fA,rB];rw [rB8 hN2 (by omega) (by omega),aA]
      cases hb:aN xx with
      | true=>
       simp only [Bool.not_true,cond_false];rw [dH o4];exact aO hs hN q hx ih hM (by rw [nn,hb];rfl) (c.trans c4) (o.chg c4 (by simp)) rfl
      | false=>
       simp only [Bool.not_false,cond_true];exact rY (N:=N) q (by rw [nn,hb];rfl) (c.trans c4)
     | false=>
      simp only [cond_false];rw [oB8 (by omega) hN2 q,aA];have nn:=oAq q hl q39 hd;have o3:=o2.chg (qA h2 (.row (two.map AV.str) .own)) (by simp);have c3:=c2.push (.row (two.map AV.str) .own);generalize h2.push (.row (two.map AV.str) .own)=h3 at *;have z:dB ((uV (s.drop i):Nat):Int) 0=decide (uV (s.drop i)=0):=by
       rw [eqI];by_cases y:uV (s.drop i)=0 <;> simp [y]
      simp only [z]
      by_cases y:uV (s.drop i)=0
      ·simp only [y,decide_true,cond_true]
       rw [if_pos y] at nn;exact rY (N:=N) q nn (c.trans c3)
      ·simp only [y,decide_false,cond_false]
       rw [if_neg y] at nn;have hs1:=rF nn;rw [List.length_drop] at hs1;rw [show (i:Int)+(uV (s.drop i):Int)=((i+uV (s.drop i):Nat):Int) by simp,tL (by omega),bH (by omega) (by omega),sub_eq];simp only [fA,rB];generalize hxx:(s.drop i).take (uV (s.drop i))=xx at *;rw [stT o3,dA];have o4:=yA o3 (tkc 0 xx (i:Int));have c4:=st o3 c3 0 xx;rw [stK o4,dA];have c5:=st o4 c4 5 xx;rw [dH (yA o4 _)];exact aO hs hN q hx ih hM nn (c.trans c5) (o.chg c5 (by simp)) rfl
  ·unfold rAy
   rw [jAi M s i (by omega)];simp only [q,decide_false,cond_false];refine ⟨_,_,rfl,c,by rw [List.append_nil];exact o,by rw [List.append_nil];omega⟩
theorem tB8 (hs:s.length≤1048576) (hN:s.length<N) (hN2:20≤N) (h:Heap):∃ r h',f28 N s h=some (r,h')∧Chg [] h h'∧match gAb N s with
  | .inl l=>r.2.1=0∧Ow h.next h' r.1 3 (l.map pY)∧l.length≤s.length+1
  | .inr a=>r.2.1=20∧r.2.2.1=(a:Int):=by
 unfold f28 gAb;have z:qB 1048576 (Int.ofNat s.length)=false:=by rw [ltI,decide_eq_false_iff_not];show ¬ (1048576:Int)<(s.length:Int);omega
 simp only [z,cond_false];have f9:=oAy (by omega) hN (Nat.zero_le _) h;rw [List.drop_zero,Nat.zero_add,show ((0:Nat):Int)=0 from rfl] at f9;rw [f9,aA];have hb:=aL s false;have lp:=pAq hs hN hN2 (h0:=h) N (aC false s) ⟨none,0,0,0⟩ [] h hb (by omega) (by simp) (Chg.refl _ _) (Ow.nil _ _ _ _);unfold rAy at lp
 cases hl:qY N (s.drop (aC false s)) (aC false s) with
 | inl l=>
  rw [hl] at lp;obtain ⟨v',H',e,c,o,hll⟩:=lp;rw [e];simp only [pB,vH,decide_true,cond_true];obtain ⟨v2,H2,ea,oa,ca⟩:=jP c o (by omega) 0 [] s.length;rw [show Int.ofNat s.length=((s.length:Nat):Int) from rfl,ea];refine ⟨_,_,rfl,ca,rfl,oa,?_⟩;simpa using hll
 | inr a=>
  rw [hl] at lp;obtain ⟨v',H',e,c⟩:=lp;rw [e];simp only [pB,iT,cond_false];exact ⟨_,_,rfl,c,rfl,rfl⟩
end
end Qp
namespace Qp
def kA1 (x:Bs):Bool:=(match x with | [c]=>oAu c cAq | _=>false)||eA7 x two
structure TokOK (q:Tok):Prop where
 word:q.1=2→isWord q.2.1=true
 sign:q.1=5→kA1 q.2.1=true
 len:q.2.1.length≤3000000
 num:q.1=4→aN q.2.1=true∧0<q.2.1.length
 name:q.1=1→gA7 q.2.1=true
 life:q.1=3→nX q.2.1=true
structure Toks (T:List Tok):Prop where
 ok:∀ q∈T,TokOK q
 ends:∀ (i:Nat) (hi:i<T.length),(T[i]).1≠0→i+1<T.length
 len:T.length≤2000000
def tk (T:List Tok) (i:Nat):Tok:=T.getD i (0,[],0)
theorem qAq {T:List Tok} {i:Nat} (hi:i<T.length):tk T i=T[i]:=by simp [tk,hi]
abbrev Er:=Option (Int×Int)
abbrev St:=Nat×Er
def iF (T:List Tok) (c:Int):St→St
 | (i,none)=>(i,some (c,((tk T i).2.2:Int)))
 | (i,some e)=>(i,some e)
def isS (T:List Tok) (w:Bs) (i:Nat):Bool:=decide ((tk T i).1=2∨(tk T i).1=5)&&jB (tk T i).2.1 w
def kB (T:List Tok) (w:Bs):St→Bool×St
 | (i,none)=>if isS T w i=true then (true,(i+1,none)) else (false,(i,none))
 | (i,some e)=>(false,(i,some e))
def iC (T:List Tok) (k:Int):St→Bs×St
 | (i,none)=>if (tk T i).1=k then ((tk T i).2.1,(i+1,none)) else ([],iF T 21 (i,none))
 | (i,some e)=>([],(i,some e))
def gD (T:List Tok) (w:Bs) (σ:St):St:=if (kB T w σ).1=true then (kB T w σ).2 else iF T 21 (kB T w σ).2
def lI (T:List Tok) (σ:St):Bs×St:=
 let a:=iC T 1 σ
 let b:=kB T [58,58] a.2
 if b.1=true then let c:=iC T 1 b.2;(a.1++[58,58]++c.1,c.2) else (a.1,b.2)
def ErrV (h:Heap) (P:Nat) (X:List Nat) (v:AV):Er→Prop
 | none=>v=AV.nilIface
 | some (c,a)=>∃ A,v=AV.iface 127 (.ptr (some (A,0)))∧(A≠P∧A ∉ X)∧h.own A [.int .i64 c,.int .i64 a,AV.iface 78 (.int .i64 c)]
structure PA (T:List Tok) (P:Nat) (X:List Nat) (h:Heap) (σ:St) (st:Int):Prop where
 ex:∃ s v,h.own P [SL.av s,.int .i64 (σ.1:Int),.int .i64 st,v]∧Sl h (fun C=>C<P) s (T.map pY)∧(s.sz=3)∧ErrV h P X v σ.2
 lt:σ.1<T.length
 xl:∀ A∈X,P<A∧A<h.next
theorem ErrV.chg {h h':Heap} {P:Nat} {X:List Nat} {v:AV} {e:Er} {M:List Nat} (x:ErrV h P X v e) (c:Chg M h h') (hM:∀ A∈M,A=P∨A∈X):ErrV h' P X v e:=by
 cases e with
 | none=>exact x
 | some q=>
  obtain ⟨A,h1,h2,h3⟩:=x;exact ⟨A,h1,h2,h3.chg c fun hm=>by rcases hM A hm with q | q;exact h2.1 q;exact h2.2 q⟩
section
variable {T:List Tok} {P:Nat} {X:List Nat} {h h':Heap} {σ:St} {st:Int}
theorem PA.P_lt (x:PA T P X h σ st):P<h.next:=by
 obtain ⟨⟨s,v,h1,h2,h3,h4⟩,h5,h6⟩:=x;exact h1.2
theorem PA.chgM {M:List Nat} (x:PA T P X h σ st) (c:Chg M h h') (hM:∀ A∈M,A∈X):PA T P X h' σ st:=by
 obtain ⟨⟨s,v,h1,h2,h3,h4⟩,h5,h6⟩:=x;refine ⟨⟨s,v,h1.chg c (fun hm=>by have:=h6 P (hM P hm);omega),h2.chg c (fun A hA hm=>by have:=h6 A (hM A hm);have hA:A<P:=hA;omega),h3,h4.chg c fun A hA=>.inr (hM A hA)⟩,h5,fun A hA=>?_⟩
 have:=h6 A hA
 exact ⟨this.1,Nat.lt_of_lt_of_le this.2 c.next⟩
theorem PA.chg (x:PA T P X h σ st) (c:Chg [] h h'):PA T P X h' σ st:=x.chgM c (by simp)
theorem PA.chg1 {A:Nat} (x:PA T P X h σ st) (c:Chg [A] h h') (hA:A∈X):PA T P X h' σ st:=x.chgM c (by simpa using hA)
theorem PA.free {i:Nat} (x:PA T P X h (i,none) st) {X':List Nat} (hX:∀ A∈X',P<A∧A<h.next):PA T P X' h (i,none) st:=by
 obtain ⟨⟨s,v,h1,h2,h3,h4⟩,h5,h6⟩:=x;exact ⟨⟨s,v,h1,h2,h3,h4⟩,h5,hX⟩
theorem PA.sub (x:PA T P X h σ st) {X':List Nat} (hX:∀ A∈X',A∈X):PA T P X' h σ st:=by
 obtain ⟨⟨s,v,h1,h2,h3,h4⟩,h5,h6⟩:=x;refine ⟨⟨s,v,h1,h2,h3,?_⟩,h5,fun A hA=>h6 A (hX A hA)⟩;obtain ⟨i,e⟩:=σ
 cases e with
 | none=>exact h4
 | some q=>obtain ⟨A,g1,g2,g3⟩:=h4;exact ⟨A,g1,⟨g2.1,fun hm=>g2.2 (hX A hm)⟩,g3⟩
theorem PA.add (x:PA T P X h σ st) (c:Chg [] h h') {A:Nat} (h1:h.next≤A) (h2:A<h'.next):PA T P (A::X) h' σ st:=by
 have hP:=x.P_lt;obtain ⟨⟨s,v,g1,g2,g3,g4⟩,g5,g6⟩:=x.chg c;obtain ⟨⟨s',v',f1,f2,f3,f4⟩,f5,f6⟩:=x;refine ⟨⟨s',v',f1.chg c (by simp),f2.chg c (by simp),f3,?_⟩,g5,fun C hC=>?_⟩
 ·obtain ⟨i,e⟩:=σ
  cases e with
  | none=>exact f4
  | some q=>
   obtain ⟨C,k1,k2,k3⟩:=f4;refine ⟨C,k1,⟨k2.1,fun hm=>?_⟩,k3.chg c (by simp)⟩;rcases List.mem_cons.1 hm with rfl | hm
   ·have:=k3.2;omega
   ·exact k2.2 hm
 ·rcases List.mem_cons.1 hC with rfl | hC
  ·omega
  ·exact g6 C hC
end
theorem uB8 (N:Nat) {c:Int} (hc:c≠0) (a:Int) (h:Heap):∃ h',f37 N c a h=some (AV.iface 127 (.ptr (some (h.next,0))),h')∧Chg [] h h'∧h'.own h.next [.int .i64 c,.int .i64 a,AV.iface 78 (.int .i64 c)]:=by
 unfold f37
 have:dB c 0=false:=by rw [eqI];simpa using hc
 simp only [this,cond_false];exact ⟨_,rfl,qA _ _,vA h _⟩
theorem eq_nil (k:Nat):oK E .eql 29 (.tmp k) (.const .nilIface) AV.nilIface AV.nilIface=some (.bool true):=by kernel_rfl
theorem mP (k:Nat) (v:AV):oK E .eql 29 (.tmp k) (.const .nilIface) (AV.iface 127 v) AV.nilIface=some (.bool false):=by kernel_rfl
theorem ne_nil (k:Nat):oK E .neq 29 (.tmp k) (.const .nilIface) AV.nilIface AV.nilIface=some (.bool false):=by kernel_rfl
theorem pP (k:Nat) (v:AV):oK E .neq 29 (.tmp k) (.const .nilIface) (AV.iface 127 v) AV.nilIface=some (.bool true):=by kernel_rfl
theorem ErrV.eq {h:Heap} {P:Nat} {X:List Nat} {v:AV} {e:Er} (x:ErrV h P X v e) (k:Nat):oK E .eql 29 (.tmp k) (.const .nilIface) v AV.nilIface=some (.bool e.isNone):=by
 cases e with
 | none=>rw [show v=AV.nilIface from x];exact eq_nil k
 | some q=>obtain ⟨A,h1,_⟩:=x;rw [h1];exact mP k _
theorem ErrV.ne {h:Heap} {P:Nat} {X:List Nat} {v:AV} {e:Er} (x:ErrV h P X v e) (k:Nat):oK E .neq 29 (.tmp k) (.const .nilIface) v AV.nilIface=some (.bool e.isSome):=by
 cases e with
 | none=>rw [show v=AV.nilIface from x];exact ne_nil k
 | some q=>obtain ⟨A,h1,_⟩:=x;rw [h1];exact pP k _
theorem kA7 {h:Heap} {V:Nat→Prop} {s:SL} {T:List Tok} (hs:Sl h V s (T.map pY)) (h3:s.sz=3) {i:Nat} (hi:i<T.length):h.cells (s.at i 3) 3=some (.agg (tkc (tk T i).1 (tk T i).2.1 ((tk T i).2.2:Int)))∧s.a.isSome=true∧i<s.len:=by
 obtain ⟨cs,e⟩:=hs.elt (i:=i) (by rw [List.length_map];exact hi);rw [h3] at e;have hd:=e.dt;rw [List.getElem_map] at hd;rw [qAq hi,e.whole,jA7 hd];exact ⟨rfl,hs.isSome (by rw [List.length_map];omega),by rw [hs.len,List.length_map];exact hi⟩
theorem uBh {β:Type} (k:Int) (x:Bs) (a:Int) (K:zP→Option β):iA (.val zF) (some (.agg (tkc k x a))) K=K (k,x,a,()):=by
 simp [tkc]
abbrev TT:=Int×zV2×Int×Unit
def kAi (q:Tok):TT:=(q.1,q.2.1,(q.2.2:Int),())
section
variable {N:Nat} {T:List Tok} {P:Nat} {X:List Nat} {h:Heap} {σ:St} {st:Int}
theorem wM (x:PA T P X h σ st):∃ h',f56 N (some (P,0)) h=some (kAi (tk T σ.1),h')∧Chg [] h h':=by
 obtain ⟨⟨s,v,h1,h2,h3,h4⟩,h5,h6⟩:=x;unfold f56;have o1:=vA h (tkc 0 [] 0);have c1:=qA h (.row (tkc 0 [] 0) .own);have e1:h.push (.row [(.int .i64 0),(.str []),(.int .i64 0)] .own)=h.push (.row (tkc 0 [] 0) .own):=rfl;rw [e1];generalize h.push (.row (tkc 0 [] 0) .own)=hh at *;dsimp only;have g1:=h1.chg c1 (by simp);have k0:hh.cell (P,0)=some (SL.av s):=g1.cell 0;have k1:hh.cell (P,1)=some (.int .i64 (σ.1:Int)):=g1.cell 1;obtain ⟨d1,d2,d3⟩:=kA7 (h2.chg c1 (by simp)) h3 h5;simp only [dA,Nat.add_zero,Nat.zero_add,k0,k1,fA,SL.av,uA,yC];rw [iQ d2 d3,d1,uBh];rw [cAl o1 rfl];exact ⟨_,rfl,c1.put (.inr (Nat.le_refl _)) _⟩
theorem PA.setErr {i:Nat} {c a:Int} (x:PA T P X h (i,none) st) {A:Nat} (hA:A≠P∧A ∉ X) (ho:h.own A [.int .i64 c,.int .i64 a,AV.iface 78 (.int .i64 c)]):∃ h',h.store (P,3) [AV.iface 127 (.ptr (some (A,0)))]=some h'∧Chg [P] h h'∧PA T P X h' (i,some (c,a)) st:=by
 obtain ⟨⟨s,v0,h1,h2,h3,h4⟩,h5,h6⟩:=x;exact ⟨_,h1.store1 (j:=3) (by show 3<4;omega) _,h1.put _,⟨s,_,yA h1 _,h2.chg (h1.put _) (by intro C hC hm;rw [List.mem_singleton] at hm;have hC:C<P:=hC;omega),h3,A,rfl,hA,ho.chg (h1.put _) (by rw [List.mem_singleton];exact hA.1)⟩,h5,h6⟩
theorem PA.setI {i:Nat} (x:PA T P X h (i,none) st) {j:Nat} (hj:j<T.length):∃ h',h.store (P,1) [.int .i64 (j:Int)]=some h'∧Chg [P] h h'∧PA T P X h' (j,none) st:=by
 obtain ⟨⟨s,v0,h1,h2,h3,h4⟩,h5,h6⟩:=x;exact ⟨_,h1.store1 (j:=1) (by show 1<4;omega) (.int .i64 (j:Int)),h1.put _,⟨s,v0,yA h1 _,h2.chg (h1.put _) (by intro C hC hm;rw [List.mem_singleton] at hm;have hC:C<P:=hC;omega),h3,h4⟩,hj,h6⟩
theorem PA.readI (x:PA T P X h σ st):h.cell (P,1)=some (.int .i64 (σ.1:Int)):=by
 obtain ⟨⟨s,v0,h1,h2,h3,h4⟩,h5,h6⟩:=x;exact h1.cell 1
theorem PA.readE (x:PA T P X h σ st):∃ v,h.cell (P,3)=some v∧ErrV h P X v σ.2:=by
 obtain ⟨⟨s,v0,h1,h2,h3,h4⟩,h5,h6⟩:=x;exact ⟨v0,h1.cell 3,h4⟩
theorem lA1 (x:PA T P X h σ st) {c:Int} (hc:c≠0):∃ h',f57 N (some (P,0)) c h=some ((),h')∧Chg [P] h h'∧PA T P X h' (iF T c σ) st:=by
 unfold f57;obtain ⟨v,k3,hv⟩:=x.readE;simp only [dA,Nat.zero_add,k3,fA,aE,hv.eq 7,wB];obtain ⟨i,e⟩:=σ
 cases e with
 | some q=>exact ⟨_,rfl,Chg.refl _ _,x⟩
 | none=>
  simp only [Option.isNone_none,cond_true];obtain ⟨h2,e2,c2⟩:=wM (N:=N) x;rw [e2,aA];obtain ⟨h3,e3,c3,o3⟩:=uB8 N hc ((tk T i).2.2:Int) h2;simp only [kAi];rw [e3,aA];have x3:=(x.chg c2).chg c3;obtain ⟨h4,e4,c4,x4⟩:=PA.setErr x3 ⟨by have:=(x.chg c2).P_lt;omega,fun hm=>by have:=(x.chg c2).xl _ hm;omega⟩ o3;rw [show AV.single (AV.iface 127 (.ptr (some (h2.next,0))))=true from rfl,mC,e4,dA];exact ⟨_,rfl,((c2.trans c3).mono (by simp)).trans c4,x4⟩
end
end Qp
namespace Qp
theorem vB8 {T:List Tok} (hT:Toks T) {i:Nat} (hi:i<T.length):TokOK (tk T i):=by rw [qAq hi];exact hT.ok _ (List.getElem_mem hi)
theorem rAq {T:List Tok} (hT:Toks T) {i:Nat} (hi:i<T.length) (h0:(tk T i).1≠0):i+1<T.length:=hT.ends i hi (by rw [← qAq hi];exact h0)
theorem eqB {a b:Bs}:jB a b=true↔a=b:=by rw [eE,beq_iff_eq]
theorem bAw {T:List Tok} {w:Bs} {i:Nat} (ok:TokOK (tk T i)) (hw:kA1 w=false):isS T w i=(decide ((tk T i).1=2)&&jB (tk T i).2.1 w):=by
 unfold isS
 by_cases q2:(tk T i).1=2
 ·simp [q2]
 ·by_cases q5:(tk T i).1=5
  ·have:jB (tk T i).2.1 w=false:=by
    cases e:jB (tk T i).2.1 w with
    | false=>rfl
    | true=>
     have:=ok.sign q5
     rw [eqB.1 e,hw] at this;cases this
   simp [q2,q5,this]
  ·simp [q2,q5]
theorem lAi {T:List Tok} {w:Bs} {i:Nat} (ok:TokOK (tk T i)) (hw:isWord w=false):isS T w i=(decide ((tk T i).1=5)&&jB (tk T i).2.1 w):=by
 unfold isS
 by_cases q5:(tk T i).1=5
 ·simp [q5]
 ·by_cases q2:(tk T i).1=2
  ·have:jB (tk T i).2.1 w=false:=by
    cases e:jB (tk T i).2.1 w with
    | false=>rfl
    | true=>
     have:=ok.word q2
     rw [eqB.1 e,hw] at this;cases this
   simp [q2,q5,this]
  ·simp [q2,q5]
section
variable {N:Nat} {T:List Tok} {P:Nat} {X:List Nat} {h:Heap} {σ:St} {st:Int}
theorem mAi (h:Heap) (q:Tok):∃ h',(h.push (.row [(.int .i64 0),(.str []),(.int .i64 0)] .own)).store (h.next,0) [(.int .i64 (kAi q).1),(.str (kAi q).2.1),(.int .i64 (kAi q).2.2.1)]=some h'∧Chg [] h h'∧h'.own h.next (tkc q.1 q.2.1 (q.2.2:Int)):=by
 have o1:=vA h (tkc 0 [] 0);exact ⟨_,o1.store rfl,(qA h _).put (.inr (Nat.le_refl _)) _,yA o1 _⟩
theorem uAe (x:PA T P X h σ st) (k:Int) (w:Bs):∃ h',f146 N (some (P,0)) k w h=some (σ.2.isNone&&(decide ((tk T σ.1).1=k)&&jB (tk T σ.1).2.1 w),h')∧Chg [] h h':=by
 unfold f146;obtain ⟨h2,e2,c2⟩:=wM (N:=N) x;rw [e2,aA];obtain ⟨h4,e4,c4,o4⟩:=mAi h2 (tk T σ.1);dsimp only;rw [e4,dA];have c5:=c2.trans c4;obtain ⟨v,k3,hv⟩:=(x.chg c5).readE;simp only [dA,Nat.zero_add,k3,fA,aE,hv.eq 13,wB]
 cases σ.2.isNone with
 | false=>exact ⟨_,rfl,c5⟩
 | true=>
  simp only [cond_true,Bool.true_and,Nat.add_zero];have r0:h4.cell (h2.next,0)=some (.int .i64 (tk T σ.1).1):=o4.cell 0;have r1:h4.cell (h2.next,1)=some (.str (tk T σ.1).2.1):=o4.cell 1;simp only [r0,r1,fA,yC,rB,eqI]
  by_cases q:(tk T σ.1).1=k
  ·simp only [q,decide_true,cond_true,Bool.true_and];exact ⟨_,rfl,c5⟩
  ·simp only [q,decide_false,cond_false,Bool.false_and];exact ⟨_,rfl,c5⟩
theorem mB1 {i:Nat} (hT:Toks T) (hi:i<T.length):wA .i64 ((i:Int)+1)=((i+1:Nat):Int):=iB (by have:=hT.len;omega)
theorem nAi (hT:Toks T) (x:PA T P X h σ st) {w:Bs} {b:Bool} {h2:Heap} (c2:Chg [] h h2) (hb:b=(σ.2.isNone&&isS T w σ.1)) :
  ∃ h',(let x3:Bool:=!b
   (bif x3 then
    some (false,h2)
    else
    (rA (some (P,0)) fun q4=>
    (iA (.val zT2) (h2.cell (q4.1,q4.2+1)) fun (x5:Int)=>
    let x6:Int:=wA .i64 (x5+1)
    (rA (some (P,0)) fun q7=>
    (rA (h2.store (q7.1,q7.2+1) [(.int .i64 x6)]) fun h8=>
    some (true,h8)))))))=some ((kB T w σ).1,h')∧Chg [P] h h'∧PA T P X h' (kB T w σ).2 st:=by
 have x2:=x.chg c2;obtain ⟨i,e⟩:=σ;subst hb
 cases e with
 | some q=>exact ⟨_,rfl,c2.mono (by simp),x2⟩
 | none=>
  simp only [Option.isNone_none,Bool.true_and,kB]
  cases hs:isS T w i with
  | false=>simp only [Bool.not_false,cond_true,Bool.false_eq_true,if_false];exact ⟨_,rfl,c2.mono (by simp),x2⟩
  | true=>
   simp only [Bool.not_true,cond_false,if_true,dA,Nat.zero_add,x2.readI,fA,yC];have h0:(tk T i).1≠0:=by
    intro e0;simp [isS,e0] at hs
   have hn:=rAq hT x.lt h0;rw [mB1 hT x.lt];obtain ⟨h8,e8,c8,x8⟩:=PA.setI x2 hn;rw [e8,dA];exact ⟨_,rfl,(c2.mono (by simp)).trans c8,x8⟩
theorem oAi (hT:Toks T) (x:PA T P X h σ st) {w:Bs} (hw:kA1 w=false):∃ h',f92 N (some (P,0)) w h=some ((kB T w σ).1,h')∧Chg [P] h h'∧PA T P X h' (kB T w σ).2 st:=by
 unfold f92;obtain ⟨h2,e2,c2⟩:=uAe (N:=N) x 2 w;rw [e2,aA];exact nAi hT x c2 (by rw [bAw (vB8 hT x.lt) hw])
theorem rA4 (hT:Toks T) (x:PA T P X h σ st) {w:Bs} (hw:isWord w=false):∃ h',f93 N (some (P,0)) w h=some ((kB T w σ).1,h')∧Chg [P] h h'∧PA T P X h' (kB T w σ).2 st:=by
 unfold f93;obtain ⟨h2,e2,c2⟩:=uAe (N:=N) x 5 w;rw [e2,aA];exact nAi hT x c2 (by rw [lAi (vB8 hT x.lt) hw])
theorem jAb (hT:Toks T) (x:PA T P X h σ st) {k:Int} (hk:k≠0):∃ h',f94 N (some (P,0)) k h=some ((iC T k σ).1,h')∧Chg [P] h h'∧PA T P X h' (iC T k σ).2 st:=by
 unfold f94;obtain ⟨h2,e2,c2⟩:=wM (N:=N) x;rw [e2,aA];obtain ⟨h4,e4,c4,o4⟩:=mAi h2 (tk T σ.1);dsimp only;rw [e4,dA];have c5:=c2.trans c4;have x5:=x.chg c5;obtain ⟨v,k3,hv⟩:=x5.readE;simp only [dA,Nat.zero_add,k3,fA,aE,hv.ne 11,wB];obtain ⟨i,e⟩:=σ
 cases e with
 | some q=>
  simp only [Option.isSome_some,cond_true,iC];obtain ⟨h9,e9,c9,x9⟩:=lA1 (N:=N) x5 (c:=21) (by decide);rw [e9,aA];exact ⟨_,rfl,(c5.mono (by simp)).trans c9,x9⟩
 | none=>
  simp only [Option.isSome_none,cond_false,Nat.add_zero];have r0:h4.cell (h2.next,0)=some (.int .i64 (tk T i).1):=o4.cell 0;simp only [r0,fA,yC,eqI,iC]
  by_cases q:(tk T i).1=k
  ·simp only [q,decide_true,Bool.not_true,cond_false,if_true,x5.readI,fA,yC,dA]
   have hn:=rAq hT x.lt (by rw [q];exact hk);rw [mB1 hT x.lt];obtain ⟨h8,e8,c8,x8⟩:=PA.setI x5 hn;rw [e8,dA];have hP:h2.next≠P:=by have:=(x.chg c2).P_lt;omega
   have r1:h8.cell (h2.next,1)=some (.str (tk T i).2.1):=(o4.chg c8 (by simpa using hP)).cell 1;simp only [r1,fA,rB];exact ⟨_,rfl,(c5.mono (by simp)).trans c8,x8⟩
  ·simp only [q,decide_false,Bool.not_false,cond_true,if_false]
   obtain ⟨h9,e9,c9,x9⟩:=lA1 (N:=N) x5 (c:=21) (by decide);rw [e9,aA];exact ⟨_,rfl,(c5.mono (by simp)).trans c9,x9⟩
theorem kAb (hT:Toks T) (k:Int) (hi:σ.1<T.length):(iC T k σ).1.length≤3000000:=by
 obtain ⟨i,e⟩:=σ
 cases e with
 | some q=>simp [iC]
 | none=>
  simp only [iC]
  split
  ·exact (vB8 hT hi).len
  ·simp
theorem tAq {a b:Bs} (h:a.length+b.length≤1099511627776):pF .add a b=some (.str (a++b)):=by
 have:Nat.ble (a.length+b.length) 1099511627776=true:=by rw [Nat.ble_eq];exact h
 simp only [pF,this,cond_true]
theorem tAy (hT:Toks T) (x:PA T P X h σ st):∃ h',f95 N (some (P,0)) h=some ((lI T σ).1,h')∧Chg [P] h h'∧PA T P X h' (lI T σ).2 st:=by
 unfold f95;obtain ⟨h2,e2,c2,x2⟩:=jAb (N:=N) hT x (k:=1) (by decide);have l2:=kAb hT 1 x.lt;rw [e2,aA];obtain ⟨h4,e4,c4,x4⟩:=rA4 (N:=N) hT x2 (w:=[58,58]) (by decide);rw [e4,aA];have c5:=c2.trans c4;simp only [lI]
 cases hb:(kB T [58,58] (iC T 1 σ).2).1 with
 | false=>simp only [cond_false,Bool.false_eq_true,if_false];exact ⟨_,rfl,c5,x4⟩
 | true=>
  simp only [cond_true,if_true];obtain ⟨h7,e7,c7,x7⟩:=jAb (N:=N) hT x4 (k:=1) (by decide);have l7:=kAb hT 1 x4.lt;rw [tAq (by simp only [List.length_cons,List.length_nil];omega)];simp only [fA,rB];rw [e7,aA,tAq (by simp only [List.length_append,List.length_cons,List.length_nil];omega)];simp only [fA,rB];exact ⟨_,rfl,c5.trans c7,x7⟩
theorem vAe (x:PA T P X h σ st) (n:Nat):∃ h',f188 N (some (P,0)) (n:Int) h=some (((if 64≤n then iF T 5 σ else σ).2).isNone,h')∧Chg [P] h h'∧PA T P X h' (if 64≤n then iF T 5 σ else σ) st:=by
 unfold f188;have z:eD 64 (n:Int)=decide (64≤n):=gA1 64 n;simp only [z]
 by_cases q:64≤n
 ·simp only [q,decide_true,cond_true,if_true]
  obtain ⟨h2,e2,c2,x2⟩:=lA1 (N:=N) x (c:=5) (by decide);rw [e2,aA];obtain ⟨v,k3,hv⟩:=x2.readE;simp only [dA,Nat.zero_add,k3,fA,aE,hv.eq 12,wB];exact ⟨_,rfl,c2,x2⟩
 ·simp only [q,decide_false,cond_false,if_false]
  obtain ⟨v,k3,hv⟩:=x.readE;simp only [dA,Nat.zero_add,k3,fA,aE,hv.eq 12,wB];exact ⟨_,rfl,Chg.refl _ _,x⟩
theorem uAq (hT:Toks T) (x:PA T P X h σ st) {w:Bs} (hw:isWord w=false):∃ h',f149 N (some (P,0)) w h=some ((),h')∧Chg [P] h h'∧PA T P X h' (gD T w σ) st:=by
 unfold f149 gD;obtain ⟨h2,e2,c2,x2⟩:=rA4 (N:=N) hT x hw;rw [e2,aA]
 cases hb:(kB T w σ).1 with
 | true=>simp only [Bool.not_true,cond_false,if_true];exact ⟨_,rfl,c2,x2⟩
 | false=>
  simp only [Bool.not_false,cond_true,Bool.false_eq_true,if_false];obtain ⟨h3,e3,c3,x3⟩:=lA1 (N:=N) x2 (c:=21) (by decide);rw [e3,aA];exact ⟨_,rfl,c2.trans c3,x3⟩
end
end Qp
namespace Qp
def eI (T:List Tok):Nat→St→List Bs×St
 | 0,σ=>([],iF T 5 σ)
 | g+1,σ=>let a:=iC T 3 σ;let b:=kB T [44] a.2;if b.1=true then ((a.1::(eI T g b.2).1),(eI T g b.2).2) else ([a.1],b.2)
def oI (T:List Tok) (σ:St):List Bs×St:=
 let b:=kB T [60] σ
 if b.1=true then ((eI T 64 b.2).1,gD T [62] (eI T 64 b.2).2) else ([],b.2)
theorem eH {T:List Tok} {w:Bs} {σ:St} (h:(kB T w σ).1=true):(kB T w σ).2=(σ.1+1,none)∧σ.2=none:=by
 obtain ⟨i,e⟩:=σ
 cases e with
 | some q=>simp [kB] at h
 | none=>
  simp only [kB] at h ⊢
  split at h
  ·rename_i q;rw [if_pos q];simp
  ·cases h
theorem fAl:AppN E 38 9 1 100:=AppN.of (by kernel_rfl)
theorem qJ (h:Heap) (V:Nat→Prop) (x:Bs):Dt h V (.s x) [.str x]:=by simp only [Dt]
section
variable {N:Nat} {T:List Tok} {P:Nat} {X:List Nat} {st:Int}
theorem gAl {h0 H:Heap} {M:List Nat} {v:SL} {xs:List Bs} (c:Chg M h0 H) (x:Ow h0.next H v 1 (xs.map D.s)) (hl:xs.length≤2000000) (t:Bs) :
  ∃ v' H',(∀ {β:Type} (K:SL→Heap→Option β),tD (.val zQ2) (fB E 38 38 (.slice v.a v.len v.cap v.sz) (.slice (some (H.next,0)) 1 1 1) (H.push (.row [(.str t)] .own))) K=K v' H')∧Ow h0.next H' v' 1 ((xs++[t]).map D.s)∧Chg v.blk.toList H H':=by
 obtain ⟨s',h',e,o,c',_⟩:=pT (cs:=[AV.str t]) fAl (by decide) x (qJ H _ t) rfl c.next (by rw [List.length_map];omega);refine ⟨s',h',fun K=>?_,?_,c'⟩
 ·have e':fB E 38 38 (.slice v.a v.len v.cap v.sz) (.slice (some (H.next,0)) 1 1 1) (H.push (.row [(.str t)] .own))=some (.slice s'.a s'.len s'.cap s'.sz,h'):=e
  rw [e'];simp only [wF,uA]
 ·rw [List.map_append];exact o
theorem nB1 (hT:Toks T) {h0 h:Heap} {O Q i:Nat} (x:PA T P X h (i,none) st) (hX:O∈X) (c:Chg [P,O] h0 h) (hO:P<O∧O<h0.next) (hQ:Q≠P∧Q≠O∧Q<h0.next) {v:SL} {xs:List Bs} (oO:h.own O [SL.av v]) (oQ:h.own Q [.ptr (some (P,0))]) (ow:Ow h0.next h v 1 (xs.map D.s)) (hl:xs.length≤2000000) :
  ∃ v' h',f148 N (some (O,0)) (some (Q,0)) h=some ((),h')∧PA T P X h' (iC T 3 (i,none)).2 st∧Chg [P,O] h0 h'∧h'.own O [SL.av v']∧h'.own Q [.ptr (some (P,0))]∧Ow h0.next h' v' 1 ((xs++[(iC T 3 (i,none)).1]).map D.s):=by
 unfold f148;have rO:h.cell (O,0)=some (SL.av v):=oO.cell 0;have rQ:h.cell (Q,0)=some (.ptr (some (P,0))):=oQ.cell 0;have hn:=c.next;have hge:∀ A∈v.blk.toList,h0.next≤A∧A<h.next:=fun A hA=>ow.ge A (by simpa using hA);have xr:=x.free (X':=v.blk.toList++X) (fun A hA=>by
  rcases List.mem_append.1 hA with hA | hA
  ·have:=hge A hA;omega
  ·exact x.xl A hA)
 obtain ⟨h6,e6,c6,x6⟩:=jAb (N:=N) hT xr (k:=3) (by decide);simp only [dA,rO,rQ,SL.av,fA,uA,uB];rw [e6,aA];have oO6:h6.own O [SL.av v]:=oO.chg c6 (by simp;omega);have oQ6:h6.own Q [.ptr (some (P,0))]:=oQ.chg c6 (by simp;omega);have c06:Chg [P,O] h0 h6:=c.trans (c6.mono (by simp));have ow6:Ow h0.next h6 v 1 (xs.map D.s):=ow.chg c6 (by intro A hA;rw [List.mem_singleton] at hA;omega);obtain ⟨v',h9,e9,o9,c9⟩:=gAl c06 ow6 hl (iC T 3 (i,none)).1;rw [e9];have oO9:h9.own O [SL.av v]:=oO6.chg c9 (by intro hm;have:=hge O hm;omega);have oQ9:h9.own Q [.ptr (some (P,0))]:=oQ6.chg c9 (by intro hm;have:=hge Q hm;omega);have hst:h9.store (O,0) [SL.av v']=some (h9.put O (.row [SL.av v'] .own)):=oO9.store rfl;simp only [SL.av] at hst;rw [hst,dA];have r7:(h6.push (.row [(.str (iC T 3 (i,none)).1)] .own)).cell (O,0)=some (SL.av v):=(oO6.chg (qA h6 _) (by simp)).cell 0;have r6:h6.cell (O,0)=some (SL.av v):=oO6.cell 0;simp only [rE,rQ,r7,r6,rO,SL.av,cD,cond_true,mC];have x9:PA T P (v.blk.toList++X) h9 (iC T 3 (i,none)).2 st:=x6.chgM c9 (fun A hA=>List.mem_append_left _ hA);have x10:=x9.chg1 (oO9.put [SL.av v']) (List.mem_append_right _ hX);have c09:Chg [P,O] h0 h9:=c06.step c9 (fun A hA hlt=>by have:=hge A hA;omega);refine ⟨v',_,rfl,x10.sub (fun A hA=>List.mem_append_right _ hA),c09.put (.inl (by simp)) _,yA oO9 _,oQ9.chg (oO9.put [SL.av v']) (by simp;omega),o9.chg (oO9.put [SL.av v']) (by intro A hA;rw [List.mem_singleton] at hA;omega)⟩
theorem vAq (hT:Toks T) {h0:Heap} {O Q:Nat} (hX:O∈X) (hO:P<O∧O<h0.next) (hQ:Q≠P∧Q≠O∧Q<h0.next):∀ (g M:Nat) (i:Nat) (h:Heap) (v:SL) (xs:List Bs),g<M→g≤64→xs.length≤64-g→PA T P X h (i,none) st→Chg [P,O] h0 h→h.own O [SL.av v]→h.own Q [.ptr (some (P,0))]→Ow h0.next h v 1 (xs.map D.s)→
  ∃ o v' h',rL N M (some (P,0)) [44] ((some (O,0)),(some (Q,0)),()) ((64-g:Nat):Int) h=some (o,(),h')∧PA T P X h' (eI T g (i,none)).2 st∧Chg [P,O] h0 h'∧h'.own O [SL.av v']∧h'.own Q [.ptr (some (P,0))]∧Ow h0.next h' v' 1 ((xs++(eI T g (i,none)).1).map D.s):=by
 intro g
 induction g with
 | zero=>
  intro M i h v xs hM hg hx x c oO oQ ow;obtain ⟨M,rfl⟩:∃ m,M=m+1:=⟨M-1,by omega⟩;rw [vM];unfold vI;obtain ⟨h2,e2,c2,x2⟩:=vAe (N:=N) x (64-0);rw [e2,aA];simp only [show 64≤64-0 by omega,if_true,iF,Option.isNone_some,cond_false] at x2 ⊢;refine ⟨_,v,h2,rfl,x2,c.trans (c2.mono (by simp)),oO.chg c2 (by simp;omega),oQ.chg c2 (by simp;omega),?_⟩;simp only [eI,List.append_nil];exact ow.chg c2 (by intro A hA;rw [List.mem_singleton] at hA;omega)
 | succ g ih=>
  intro M i h v xs hM hg hx x c oO oQ ow;obtain ⟨M,rfl⟩:∃ m,M=m+1:=⟨M-1,by omega⟩;rw [vM];unfold vI;obtain ⟨h2,e2,c2,x2⟩:=vAe (N:=N) x (64-(g+1));rw [e2,aA];have z:¬ 64≤64-(g+1):=by omega
  simp only [z,if_false,Option.isNone_none,cond_true] at x2 ⊢;have c02:=c.trans (c2.mono (N:=[P,O]) (by simp));obtain ⟨v',h4,e4,x4,c4,o4,q4,w4⟩:=nB1 (N:=N) hT x2 hX c02 hO hQ (oO.chg c2 (by simp;omega)) (oQ.chg c2 (by simp;omega)) (ow.chg c2 (by intro A hA;rw [List.mem_singleton] at hA;omega)) (by omega);rw [e4,aA];obtain ⟨h6,e6,c6,x6⟩:=rA4 (N:=N) hT x4 (w:=[44]) (by decide);rw [e6,aA];have c06:=c4.trans (c6.mono (N:=[P,O]) (by simp));have o6:=o4.chg c6 (by simp;omega);have q6:=q4.chg c6 (by simp;omega);have w6:=w4.chg c6 (by intro A hA;rw [List.mem_singleton] at hA;omega);simp only [eI]
  cases hb:(kB T [44] (iC T 3 (i,none)).2).1 with
  | false=>
   simp only [Bool.not_false,cond_true,Bool.false_eq_true,if_false];exact ⟨_,v',h6,rfl,x6,c06,o6,q6,w6⟩
  | true=>
   simp only [Bool.not_true,cond_false,if_true];have hs:=(eH hb).1;rw [hs] at x6 ⊢;rw [iB (by omega),show 64-(g+1)+1=64-g by omega]
   have:=ih M _ h6 v' (xs++[(iC T 3 (i,none)).1]) (by omega) (by omega) (by simp;omega) x6 c06 o6 q6 w6
   simpa only [List.append_assoc,List.singleton_append] using this
theorem uAy (hT:Toks T) (hN:100≤N) {h:Heap} {σ:St} (x:PA T P X h σ st):∃ v h',f96 N (some (P,0)) h=some (v,h')∧PA T P X h' (oI T σ).2 st∧Chg [P] h h'∧Sl h' (fun C=>h.next≤C) v ((oI T σ).1.map D.s):=by
 unfold f96;have oQ:=vA h [AV.ptr (some (P,0))];have cQ:=qA h (.row [AV.ptr (some (P,0))] .own);have nQ:(h.push (.row [AV.ptr (some (P,0))] .own)).next=h.next+1:=rfl;dsimp only;generalize h.push (.row [AV.ptr (some (P,0))] .own)=h1 at *;have oO:(h1.push (.row [(.slice none 0 0 0)] .own)).own h1.next [SL.av ⟨none,0,0,0⟩]:=vA h1 _;have cO:=qA h1 (.row [(.slice none 0 0 0)] .own);have nO:(h1.push (.row [(.slice none 0 0 0)] .own)).next=h1.next+1:=rfl;generalize h1.push (.row [(.slice none 0 0 0)] .own)=h2 at *;have oQ2:=oQ.chg cO (by simp);have x2:=(x.chg cQ).add cO (A:=h1.next) (Nat.le_refl _) (by omega);have c02:=cQ.trans cO;have r2:h2.cell (h.next,0)=some (.ptr (some (P,0))):=oQ2.cell 0;have hP:=x.P_lt;simp only [r2,fA,uB];obtain ⟨h5,e5,c5,x5⟩:=rA4 (N:=N) hT x2 (w:=[60]) (by decide);rw [e5,aA];have oO5:=oO.chg c5 (by simp;omega);have oQ5:=oQ2.chg c5 (by simp;omega);simp only [oI]
 cases hb:(kB T [60] σ).1 with
 | false=>
  simp only [cond_false,Bool.false_eq_true,if_false];have r5:h5.cell (h1.next,0)=some (SL.av ⟨none,0,0,0⟩):=oO5.cell 0;simp only [r5,SL.av,fA,uA];exact ⟨_,_,rfl,x5.sub (by simp +contextual),(c02.mono (by simp)).trans c5,Sl.nil _ _ _⟩
 | true=>
  simp only [cond_true,if_true];have hs:=(eH hb).1;rw [hs] at x5 ⊢;have r5:h5.cell (h.next,0)=some (.ptr (some (P,0))):=oQ5.cell 0;simp only [r5,fA,uB];unfold tA6;obtain ⟨o,v',h8,e8,x8,c8,o8,q8,w8⟩:=vAq (N:=N) hT (h0:=h2) (X:=h1.next::X) (O:=h1.next) (Q:=h.next) (by simp) (by omega) (by omega) 64 N _ h5 ⟨none,0,0,0⟩ [] (by omega) (Nat.le_refl _) (by simp) x5 (c5.mono (by simp)) oO5 oQ5 (Ow.nil _ _ _ _);rw [show ((64-64:Nat):Int)=0 from rfl] at e8;rw [e8];have hc:Chg [P] h h8:=(c02.mono (by simp)).step c8 (fun A hA hlt=>by
   simp only [List.mem_cons,List.not_mem_nil,or_false] at hA ⊢;omega)
  have r8:h8.cell (h.next,0)=some (.ptr (some (P,0))):=q8.cell 0;have fin:∀ (K:Option (SL×Heap)),(iA (.val zP2) (h8.cell (h.next,0)) fun (x9:zO2)=>
  (lA (f149 N x9 [62] h8) fun (x10:(Unit)) h11=>
  (iA (.val zQ2) (h11.cell (h1.next,0)) fun (x12:SL)=>
  some (x12,h11))))=K→(pD (some (o,((),h8))) fun o9 (j10:Unit) h11=>(bif uD o9 (.exit 0) then some ((),h11) else some ((),h11)))=some ((),h8):=fun K _=>by
   simp only [pB];cases uD o (.exit 0) <;> rfl
  have e81:(pD (some (o,((),h8))) fun o9 (j10:Unit) h11=>(bif uD o9 (.exit 0) then some ((),h11) else some ((),h11)))=some ((),h8):=fin _ rfl;rw [e81,aA];simp only [r8,fA,uB];obtain ⟨h11,e11,c11,x11⟩:=uAq (N:=N) hT x8 (w:=[62]) (by decide);rw [e11,aA];have r11:h11.cell (h1.next,0)=some (SL.av v'):=(o8.chg c11 (by simp;omega)).cell 0;simp only [r11,SL.av,fA,uA];refine ⟨_,_,rfl,x11.sub (by simp +contextual),hc.trans c11,?_⟩;have w11:=w8.chg c11 (by intro A hA;rw [List.mem_singleton] at hA;omega);rw [List.nil_append] at w11;exact w11.sl.weak (fun C hC _=>by omega)
end
end Qp
namespace Qp
abbrev TyV:=Int×zV2×SL×SL×Unit
abbrev sl0:SL:=⟨none,0,0,0⟩
def tyc (r:TyV):List AV:=[.int .i64 r.1,.str r.2.1,SL.av r.2.2.1,SL.av r.2.2.2.1]
def tyD (k:Int) (x:Bs) (lv:List Bs) (el:List D):D:=.t [.i k,.s x,.l (lv.map D.s),.l el]
theorem lA3 {h:Heap} {V:Nat→Prop} {k:Int} {x:Bs} {lv:List Bs} {el:List D} {cs:List AV}:Dt h V (tyD k x lv el) cs↔∃ s1 s2,cs=tyc (k,x,s1,s2,())∧Sl h V s1 (lv.map D.s)∧Sl h V s2 el:=by
 simp only [tyD,Dt,Dp];constructor
 ·rintro ⟨a,b,rfl,rfl,a2,b2,rfl,rfl,a3,b3,rfl,⟨s1,v1,rfl,p1,p2,p3,p4,p5⟩,a4,b4,rfl,⟨s2,v2,rfl,q1,q2,q3,q4,q5⟩,rfl⟩
  exact ⟨s1,s2,rfl,⟨p1,p2,p3,v1,p4,p5⟩,⟨q1,q2,q3,v2,q4,q5⟩⟩
 ·rintro ⟨s1,s2,rfl,⟨p1,p2,p3,v1,p4,p5⟩,⟨q1,q2,q3,v2,q4,q5⟩⟩
  exact ⟨[_],_,rfl,rfl,[_],_,rfl,rfl,[_],_,rfl,⟨s1,v1,rfl,p1,p2,p3,p4,p5⟩,[_],[],rfl,⟨s2,v2,rfl,q1,q2,q3,q4,q5⟩,rfl⟩
theorem uW (h:Heap) (V:Nat→Prop) (k:Int) (x:Bs):Dt h V (tyD k x [] []) (tyc (k,x,sl0,sl0,())):=lA3.2 ⟨sl0,sl0,rfl,Sl.nil _ _ _,Sl.nil _ _ _⟩
theorem vAy {h:Heap} {V:Nat→Prop} {A n:Nat} {cs:List AV} {d:D} (o:h.own A cs) (hl:cs.length=n) (hA:V A) (hd:Dt h V d cs):Sl h V ⟨some (A,0),1,1,n⟩ [d]:=by
 refine ⟨rfl,Nat.le_refl _,fun C hC=>?_,cs,⟨by simp [hl],fun ha=>(by cases ha),fun A' off ha=>?_⟩,?_⟩
 ·simp [SL.blk] at hC;subst hC;exact hA
 ·simp only [Option.some.injEq,Prod.mk.injEq] at ha
  obtain ⟨rfl,rfl⟩:=ha;refine ⟨o.2,cs,by rw [o.1];rfl,by rw [List.drop_zero];exact List.take_of_length_le (Nat.le_refl _)⟩
 ·simp only [De]
  exact ⟨cs,[],by simp,hl,hd,rfl⟩
theorem iAl {β:Type} (r:TyV) (K:TyV→Option β):iA (.val zC) (some (.agg (tyc r))) K=K r:=by
 obtain ⟨k,x,s1,s2,_⟩:=r;simp [tyc,SL.av]
theorem vW {H:Heap} {A:Nat} {r:TyV} (o:H.own A (tyc r)) {β:Type} (K:TyV→Option β):iA (.val zC) (H.cells (A,0) 4) K=K r:=by
 have:H.cells (A,0) 4=some (.agg (tyc r)):=o.cells (j:=0) (m:=4) (Nat.le_refl _)
 rw [this,iAl]
theorem tA4 {H:Heap} {A:Nat} {r0:TyV} (o:H.own A (tyc r0)) (r:TyV):H.store (A,0) [.int .i64 r.1,.str r.2.1,.slice r.2.2.1.a r.2.2.1.len r.2.2.1.cap r.2.2.1.sz,.slice r.2.2.2.1.a r.2.2.2.1.len r.2.2.2.1.cap r.2.2.2.1.sz]=some (H.put A (.row (tyc r) .own)):=o.store rfl
theorem wAy {H:Heap} {A:Nat} {r0:TyV} (o:H.own A (tyc r0)) (r:TyV) {β:Type} (K:TyV→Heap→Option β) :
  (rA (H.store (A,0) [.int .i64 r.1,.str r.2.1,.slice r.2.2.1.a r.2.2.1.len r.2.2.1.cap r.2.2.1.sz,.slice r.2.2.2.1.a r.2.2.2.1.len r.2.2.2.1.cap r.2.2.2.1.sz]) fun h7=>iA (.val zC) (h7.cells (A,0) 4) fun x8=>K x8 h7)=K r (H.put A (.row (tyc r) .own)):=by
 rw [tA4 o,dA,vW (yA o _)]
def mA1 (T:List Tok) (σ:St):List Bs×St:=if (tk T σ.1).1=3 then ([(iC T 3 σ).1],(iC T 3 σ).2) else ([],σ)
def yL (T:List Tok):Nat→St→D×St
 | 0,σ=>(tyD 0 [] [] [],iF T 6 σ)
 | _+1,(i,some e)=>(tyD 0 [] [] [],(i,some e))
 | g+1,(i,none)=>
  let a:=kB T [105,110,116] (i,none)
  if a.1=true then (tyD 1 [] [] [],a.2) else
  let b:=kB T [98,111,111,108] a.2
  if b.1=true then (tyD 2 [] [] [],b.2) else
  let c:=kB T [38] b.2
  if c.1=true then
   let d:=mA1 T c.2
   let m:=kB T [109,117,116] d.2
   (tyD (if m.1=true then 5 else 4) [] d.1 [(yL T g m.2).1],(yL T g m.2).2)
  else
   let n:=lI T c.2
   let l:=oI T n.2
   (tyD 3 n.1 l.1 [],l.2)
section
variable {N:Nat} {T:List Tok} {P:Nat} {X:List Nat} {st:Int} {h:Heap} {σ:St}
theorem wAq (hT:Toks T) (x:PA T P X h σ st) {A:Nat} {deep:Int} {R:zO2} (oA:h.own A (tyc (4,[],sl0,sl0,()))) (hX:A∈X) :
  ∃ s1 h38,(lA (f56 N (some (P,0)) h) fun (x30:zP) h31=>
    let x32:Bool:=dB x30.1 3
    (bif x32 then
    (lA (f94 N (some (P,0)) 3 h31) fun (x33:zV2) h34=>
    let h35:Heap:=h34.push (.row [(.str x33)] .own)
    (rA (h35.store ((A,0).1,(A,0).2+2) [(.slice (some (h34.next,0)) 1 1 1)]) fun h36=>
    some ((some (P,0),deep,R,(some (A,0)),()),h36)))
    else
    some ((some (P,0),deep,R,(some (A,0)),()),h31)))=some ((some (P,0),deep,R,(some (A,0)),()),h38)∧PA T P X h38 (mA1 T σ).2 st∧Chg [P,A] h h38∧h38.own A (tyc (4,[],s1,sl0,()))∧Sl h38 (fun C=>h.next≤C) s1 ((mA1 T σ).1.map D.s):=by
 obtain ⟨h31,e31,c31⟩:=wM (N:=N) x;rw [e31,aA];have x31:=x.chg c31;have o31:=oA.chg c31 (by simp);simp only [kAi,eqI,mA1]
 by_cases q:(tk T σ.1).1=3
 ·simp only [q,decide_true,cond_true,if_true]
  obtain ⟨h34,e34,c34,x34⟩:=jAb (N:=N) hT x31 (k:=3) (by decide);rw [e34,aA];have o34:=o31.chg c34 (by have:=(x.xl A hX).1;simp;omega);have oB:=vA h34 [AV.str (iC T 3 σ).1];have cB:=qA h34 (.row [AV.str (iC T 3 σ).1] .own);generalize h34.push (.row [AV.str (iC T 3 σ).1] .own)=h35 at *;have o35:=o34.chg cB (by simp);have hst:h35.store (A,2) [SL.av ⟨some (h34.next,0),1,1,1⟩]=some (h35.put A (.row (tyc (4,[],⟨some (h34.next,0),1,1,1⟩,sl0,())) .own)):=o35.store1 (j:=2) (by show 2<4;omega) _;simp only [SL.av] at hst;simp only [Nat.zero_add];rw [hst,dA];have cp:=o35.put (tyc (4,[],⟨some (h34.next,0),1,1,1⟩,sl0,()));have hAl:A<h34.next:=o34.2;refine ⟨_,_,rfl,(x34.chg cB).chg1 cp hX,((c31.mono (by simp)).trans (c34.mono (by simp))).trans ((cB.mono (by simp)).trans (cp.mono (by simp))),yA o35 _,?_⟩
  have:=vAy (V:=fun C=>h.next≤C) (oB.chg cp (by rw [List.mem_singleton];omega)) rfl (Nat.le_trans c31.next c34.next) (qJ _ _ _)
  exact this
 ·simp only [q,decide_false,cond_false,if_false]
  exact ⟨sl0,_,rfl,x31,c31.mono (by simp),o31,Sl.nil _ _ _⟩
theorem cAw (hT:Toks T) (x:PA T P X h σ st) {A:Nat} {deep:Int} {R:zO2} {s1:SL} (oA:h.own A (tyc (4,[],s1,sl0,()))) (hX:A∈X) :
  ∃ h44,(lA (f92 N (some (P,0)) [109,117,116] h) fun (x39:Bool) h40=>
    (bif x39 then
    (rA (some (A,0)) fun q41=>
    (rA (h40.store (q41.1,q41.2+0) [(.int .i64 5)]) fun h42=>
    some ((some (P,0),deep,R,(some (A,0)),()),h42)))
    else
    some ((some (P,0),deep,R,(some (A,0)),()),h40)))=some ((some (P,0),deep,R,(some (A,0)),()),h44)∧PA T P X h44 (kB T [109,117,116] σ).2 st∧Chg [P,A] h h44∧h44.own A (tyc ((if (kB T [109,117,116] σ).1=true then 5 else 4),[],s1,sl0,())):=by
 obtain ⟨h40,e40,c40,x40⟩:=oAi (N:=N) hT x (w:=[109,117,116]) (by decide);rw [e40,aA];have o40:=oA.chg c40 (by have:=(x.xl A hX).1;simp;omega)
 cases hb:(kB T [109,117,116] σ).1 with
 | false=>
  simp only [cond_false,Bool.false_eq_true,if_false];exact ⟨_,rfl,x40,c40.mono (by simp),o40⟩
 | true=>
  simp only [cond_true,if_true,dA,Nat.zero_add,Nat.add_zero];have hst:h40.store (A,0) [.int .i64 5]=some (h40.put A (.row (tyc (5,[],s1,sl0,())) .own)):=o40.store1 (j:=0) (by show 0<4;omega) _;rw [hst,dA];have cp:=o40.put (tyc (5,[],s1,sl0,()));exact ⟨_,rfl,x40.chg1 cp hX,(c40.mono (by simp)).trans (cp.mono (by simp)),yA o40 _⟩
end
end Qp
namespace Qp
theorem wD {T:List Tok} {w:Bs} {σ:St} (h:(kB T w σ).1=false):(kB T w σ).2=σ:=by
 obtain ⟨i,e⟩:=σ
 cases e with
 | some q=>rfl
 | none=>
  simp only [kB] at h ⊢
  split at h
  ·cases h
  ·rename_i q;rw [if_neg q]
abbrev zt:List AV:=tyc (0,[],sl0,sl0,())
section
variable {N:Nat} {T:List Tok} {P:Nat} {st:Int}
theorem yAy (hT:Toks T) (hN:100≤N):∀ (g M:Nat) (h:Heap) (σ:St) (X:List Nat),g<M→g≤64→PA T P X h σ st→
  ∃ r h',f55 N M (some (P,0)) ((65-g:Nat):Int) h=some (r,h')∧PA T P X h' (yL T g σ).2 st∧Chg [P] h h'∧Dt h' (fun C=>h.next≤C) (yL T g σ).1 (tyc r):=by
 intro g
 induction g with
 | zero=>
  intro M h σ X hM hg x;obtain ⟨M,rfl⟩:∃ m,M=m+1:=⟨M-1,by omega⟩;rw [yAh];unfold uAv;have o1:=vA h zt;have c1:=qA h (.row zt .own);have x1:=x.add c1 (A:=h.next) (Nat.le_refl _) (Nat.lt_succ_self _);have e1:h.push (.row [(.int .i64 0),(.str []),(.slice none 0 0 0),(.slice none 0 0 0)] .own)=h.push (.row zt .own):=rfl;rw [e1];generalize h.push (.row zt .own)=h1 at *;have z:qB 64 ((65-0:Nat):Int)=true:=rfl;have hP:=x.P_lt;dsimp only;rw [z];simp only [cond_true];obtain ⟨h4,e4,c4,x4⟩:=lA1 (N:=N) x1 (c:=6) (by decide);rw [e4];simp only [aA,dA,Nat.zero_add];obtain ⟨v,k3,hv⟩:=x4.readE;simp only [k3,fA,aE,hv.ne 15,wB];have hs:(iF T 6 σ).2.isSome=true:=by obtain ⟨i,e⟩:=σ;cases e <;> rfl
  rw [hs];simp only [cond_true];have o4:=o1.chg c4 (by simp;omega);have cp:=o4.put zt;refine ⟨(0,[],sl0,sl0,()),_,wAy o4 (0,[],sl0,sl0,()) (fun x h=>some (x,h)),(x4.chg1 cp (by simp)).sub (by simp +contextual),?_,uW _ _ _ _⟩;exact ((c1.mono (by simp)).trans c4).step cp (fun A hA hl=>by rw [List.mem_singleton] at hA;omega)
 | succ g ih=>
  intro M h σ X hM hg x;obtain ⟨M,rfl⟩:∃ m,M=m+1:=⟨M-1,by omega⟩;rw [yAh];unfold uAv;have o1:=vA h zt;have c1:=qA h (.row zt .own);have x1:=x.add c1 (A:=h.next) (Nat.le_refl _) (Nat.lt_succ_self _);have e1:h.push (.row [(.int .i64 0),(.str []),(.slice none 0 0 0),(.slice none 0 0 0)] .own)=h.push (.row zt .own):=rfl;rw [e1];have n1:(h.push (.row zt .own)).next=h.next+1:=rfl;generalize h.push (.row zt .own)=h1 at *;have z:qB 64 ((65-(g+1):Nat):Int)=false:=by
   rw [show (64:Int)=((64:Nat):Int) from rfl,pE,decide_eq_false_iff_not];omega
  have hP:=x.P_lt;dsimp only;rw [z];simp only [cond_false,aA,dA,Nat.zero_add];obtain ⟨v,k3,hv⟩:=x1.readE;simp only [k3,fA,aE,hv.ne 15,wB];have fin:∀ {h':Heap} (c:Chg [P] h1 h') (r:TyV),Chg [P] h (h'.put h.next (.row (tyc r) .own)):=fun c r=>
   ((c1.mono (by simp)).trans c).put (.inr (Nat.le_refl _)) _
  obtain ⟨i,e⟩:=σ
  cases e with
  | some q=>
   simp only [Option.isSome_some,cond_true,yL];have cp:=o1.put zt;exact ⟨(0,[],sl0,sl0,()),_,wAy o1 (0,[],sl0,sl0,()) (fun x h=>some (x,h)),(x1.chg1 cp (by simp)).sub (by simp +contextual),fin (Chg.refl _ _) (0,[],sl0,sl0,()),uW _ _ _ _⟩
  | none=>
   simp only [Option.isSome_none,cond_false,yL];obtain ⟨h15,e15,c15,x15⟩:=oAi (N:=N) hT x1 (w:=[105,110,116]) (by decide);rw [e15,aA];have o15:=o1.chg c15 (by simp;omega)
   cases hb1:(kB T [105,110,116] (i,none)).1 with
   | true=>
    simp only [cond_true,if_true];have cp:=o15.put (tyc (1,[],sl0,sl0,()));exact ⟨(1,[],sl0,sl0,()),_,wAy o15 (1,[],sl0,sl0,()) (fun x h=>some (x,h)),(x15.chg1 cp (by simp)).sub (by simp +contextual),fin c15 (1,[],sl0,sl0,()),uW _ _ _ _⟩
   | false=>
   rw [wD hb1] at x15 ⊢;simp only [cond_false,Bool.false_eq_true,if_false];obtain ⟨h21,e21,c21,x21⟩:=oAi (N:=N) hT x15 (w:=[98,111,111,108]) (by decide);rw [e21,aA];have o21:=o15.chg c21 (by simp;omega);have c121:=c15.trans c21
   cases hb2:(kB T [98,111,111,108] (i,none)).1 with
   | true=>
    simp only [cond_true,if_true];have cp:=o21.put (tyc (2,[],sl0,sl0,()));exact ⟨(2,[],sl0,sl0,()),_,wAy o21 (2,[],sl0,sl0,()) (fun x h=>some (x,h)),(x21.chg1 cp (by simp)).sub (by simp +contextual),fin c121 (2,[],sl0,sl0,()),uW _ _ _ _⟩
   | false=>
   rw [wD hb2] at x21 ⊢;simp only [cond_false,Bool.false_eq_true,if_false];obtain ⟨h27,e27,c27,x27⟩:=rA4 (N:=N) hT x21 (w:=[38]) (by decide);rw [e27,aA];have o27:=o21.chg c27 (by simp;omega);have c127:=c121.trans c27;have hge:h.next+1≤h27.next:=by have:=c127.next;omega
   cases hb3:(kB T [38] (i,none)).1 with
   | true=>
    simp only [cond_true,if_true];have oA0:=vA h27 zt;have cA0:=qA h27 (.row zt .own);have eA:h27.push (.row [(.int .i64 0),(.str []),(.slice none 0 0 0),(.slice none 0 0 0)] .own)=h27.push (.row zt .own):=rfl;have hstA:=tA4 oA0 (4,[],sl0,sl0,());have nA:(h27.push (.row zt .own)).next=h27.next+1:=rfl;rw [eA,show (h27.push (.row zt .own)).store (h27.next,0) [(.int .i64 4),(.str []),(.slice none 0 0 0),(.slice none 0 0 0)]=_ from hstA,dA];have oA:=yA oA0 (tyc (4,[],sl0,sl0,()));have cA:Chg [] h27 ((h27.push (.row zt .own)).put h27.next (.row (tyc (4,[],sl0,sl0,())) .own)):=cA0.put (.inr (Nat.le_refl _)) _;have x29:=x27.add cA (A:=h27.next) (Nat.le_refl _) (Nat.lt_succ_self _);have n29:((h27.push (.row zt .own)).put h27.next (.row (tyc (4,[],sl0,sl0,())) .own)).next=h27.next+1:=rfl;have oR:=o27.chg cA (by simp);generalize (h27.push (.row zt .own)).put h27.next (.row (tyc (4,[],sl0,sl0,())) .own)=h29 at *;obtain ⟨s1,h38,e38,x38,c38,oA38,sl38⟩:=wAq (N:=N) hT x29 (deep:=((65-(g+1):Nat):Int)) (R:=some (h.next,0)) oA (by simp);simp only [Nat.zero_add] at e38;rw [e38,aA];obtain ⟨h44,e44,x44,c44,oA44⟩:=cAw (N:=N) hT x38 (deep:=((65-(g+1):Nat):Int)) (R:=some (h.next,0)) oA38 (by simp);simp only [dA,Nat.zero_add,Nat.add_zero] at e44;dsimp only;simp only [dA,Nat.zero_add,Nat.add_zero];rw [e44,aA];dsimp only;rw [iB (by omega),show 65-(g+1)+1=65-g by omega];obtain ⟨r,h47,e47,x47,c47,d47⟩:=ih M h44 _ _ (by omega) (by omega) x44;rw [e47,aA];have c2947:Chg [P,h27.next] h29 h47:=(c38.trans c44).trans (c47.mono (by simp));have oA47:=oA44.chg c47 (by simp;omega);have oR47:=oR.chg c2947 (by simp;omega);have hg47:=c2947.next;have h44n:h29.next≤h44.next:=(c38.trans c44).next;have oC:=vA h47 (tyc r);have cC:=qA h47 (.row (tyc r) .own);have eC:h47.push (.row [(.int .i64 r.1),(.str r.2.1),(.slice r.2.2.1.a r.2.2.1.len r.2.2.1.cap r.2.2.1.sz),(.slice r.2.2.2.1.a r.2.2.2.1.len r.2.2.2.1.cap r.2.2.2.1.sz)] .own)=h47.push (.row (tyc r) .own):=rfl;rw [eC];have oA48:=oA47.chg cC (by simp);have oR48:=oR47.chg cC (by simp);have x48:=x47.chg cC;have d48:=d47.chg cC (by simp);have nC:(h47.push (.row (tyc r) .own)).next=h47.next+1:=rfl;generalize h47.push (.row (tyc r) .own)=h48 at *;generalize hk:(if (kB T [109,117,116] (mA1 T (kB T [38] (i,none)).2).2).1=true then (5:Int) else 4)=k at *;have hst:h48.store (h27.next,3) [SL.av ⟨some (h47.next,0),1,1,4⟩]=some (h48.put h27.next (.row (tyc (k,[],s1,⟨some (h47.next,0),1,1,4⟩,())) .own)):=oA48.store1 (j:=3) (by show 3<4;omega) _;simp only [SL.av] at hst;simp only [dA,Nat.zero_add];rw [hst,dA];have cA5:=oA48.put (tyc (k,[],s1,⟨some (h47.next,0),1,1,4⟩,()));have oA5:=yA oA48 (tyc (k,[],s1,⟨some (h47.next,0),1,1,4⟩,()));have oR5:=oR48.chg cA5 (by simp;omega);have oC5:=oC.chg cA5 (by simp;omega);have x5:=x48.chg1 cA5 (by simp);have d5:=d48.chg cA5 (fun C hC=>by simp;omega);generalize h48.put h27.next (.row (tyc (k,[],s1,⟨some (h47.next,0),1,1,4⟩,())) .own)=h50 at *;rw [vW oA5];have cR:=oR5.put (tyc (k,[],s1,⟨some (h47.next,0),1,1,4⟩,()));have cAll:Chg [P] h h50:=by
     have a1:Chg [P] h h27:=(c1.mono (by simp)).trans c127;have a2:Chg [P] h h29:=a1.trans (cA.mono (by simp));have a3:Chg [P] h h47:=a2.step c2947 (fun A hA hl=>by
      simp only [List.mem_cons,List.not_mem_nil,or_false] at hA ⊢;omega)
     have a4:Chg [P] h h48:=a3.trans (cC.mono (by simp));exact a4.step cA5 (fun A hA hl=>by rw [List.mem_singleton] at hA;omega)
    refine ⟨(k,[],s1,⟨some (h47.next,0),1,1,4⟩,()),_,wAy oR5 (k,[],s1,⟨some (h47.next,0),1,1,4⟩,()) (fun x h=>some (x,h)),(x5.chg1 cR (by simp)).sub (by simp +contextual),cAll.put (.inr (Nat.le_refl _)) _,?_⟩;refine lA3.2 ⟨_,_,rfl,?_,?_⟩
    ·have hs:=sl38.chg c44 (fun C hC=>by simp;omega)
     have hs2:=hs.chg c47 (fun C hC=>by simp;omega);have hs3:=((hs2.chg cC (by simp)).chg cA5 (fun C hC=>by simp;omega)).chg cR (fun C hC=>by simp;omega);exact hs3.weak (fun C hC _=>by omega)
    ·refine vAy (V:=fun C=>h.next≤C) (oC5.chg cR (by simp;omega)) rfl (by omega) ?_
     exact (d5.chg cR (fun C hC=>by simp;omega)).weak (fun C hC _=>by omega)
   | false=>
    rw [wD hb3] at x27 ⊢;simp only [cond_false,Bool.false_eq_true,if_false];obtain ⟨h58,e58,c58,x58⟩:=tAy (N:=N) hT x27;rw [e58,aA];have o58:=o27.chg c58 (by simp;omega);have c158:=c127.trans c58;generalize hnm:(lI T (i,none)).1=nm at *;have hge2:h.next+1≤h58.next:=by have:=c158.next;omega
    have oA0:=vA h58 zt;have cA0:=qA h58 (.row zt .own);have eA:h58.push (.row [(.int .i64 0),(.str []),(.slice none 0 0 0),(.slice none 0 0 0)] .own)=h58.push (.row zt .own):=rfl;have hstA:=tA4 oA0 (3,nm,sl0,sl0,());rw [eA,show (h58.push (.row zt .own)).store (h58.next,0) [(.int .i64 3),(.str nm),(.slice none 0 0 0),(.slice none 0 0 0)]=_ from hstA,dA];have oA:=yA oA0 (tyc (3,nm,sl0,sl0,()));have cA:Chg [] h58 ((h58.push (.row zt .own)).put h58.next (.row (tyc (3,nm,sl0,sl0,())) .own)):=cA0.put (.inr (Nat.le_refl _)) _;have x60:=x58.add cA (A:=h58.next) (Nat.le_refl _) (Nat.lt_succ_self _);have n60:((h58.push (.row zt .own)).put h58.next (.row (tyc (3,nm,sl0,sl0,())) .own)).next=h58.next+1:=rfl;have oR:=o58.chg cA (by simp);generalize (h58.push (.row zt .own)).put h58.next (.row (tyc (3,nm,sl0,sl0,())) .own)=h60 at *;obtain ⟨s1,h62,e62,x62,c62,sl62⟩:=uAy (N:=N) hT hN x60;rw [e62,aA];have oA62:=oA.chg c62 (by simp;omega);have oR62:=oR.chg c62 (by simp;omega);have hst:h62.store (h58.next,2) [SL.av s1]=some (h62.put h58.next (.row (tyc (3,nm,s1,sl0,())) .own)):=oA62.store1 (j:=2) (by show 2<4;omega) _;simp only [SL.av] at hst;rw [hst,dA];have cA5:=oA62.put (tyc (3,nm,s1,sl0,()));have oA5:=yA oA62 (tyc (3,nm,s1,sl0,()));have oR5:=oR62.chg cA5 (by simp;omega);have x5:=x62.chg1 cA5 (by simp);have sl5:=sl62.chg cA5 (fun C hC=>by simp;omega);have hg62:=c62.next;generalize h62.put h58.next (.row (tyc (3,nm,s1,sl0,())) .own)=h63 at *;rw [vW oA5];have cR:=oR5.put (tyc (3,nm,s1,sl0,()));have cAll:Chg [P] h h63:=by
     have a1:Chg [P] h h58:=(c1.mono (by simp)).trans c158;have a3:Chg [P] h h62:=(a1.trans (cA.mono (by simp))).trans c62;exact a3.step cA5 (fun A hA hl=>by rw [List.mem_singleton] at hA;omega)
    refine ⟨(3,nm,s1,sl0,()),_,wAy oR5 (3,nm,s1,sl0,()) (fun x h=>some (x,h)),(x5.chg1 cR (by simp)).sub (by simp +contextual),cAll.put (.inr (Nat.le_refl _)) _,?_⟩;refine lA3.2 ⟨_,_,rfl,?_,Sl.nil _ _ _⟩;exact (sl5.chg cR (fun C hC=>by simp;omega)).weak (fun C hC _=>by omega)
end
end Qp
namespace Qp
structure PB (T:List Tok) (P:Nat) (h:Heap) (σ:St) (it st:Int):Prop where
 ex:∃ s c a,h.own P [SL.av s,.int .i64 (σ.1:Int),.int .i64 c,.int .i64 a,.int .i64 it,.int .i64 st]∧Sl h (fun C=>C<P) s (T.map pY)∧(s.sz=3)∧(match σ.2 with
  | none=>c=0
  | some (c',a')=>c=c'∧a=a'∧c'≠0)
 lt:σ.1<T.length
section
variable {N:Nat} {T:List Tok} {P:Nat} {h h':Heap} {σ:St} {it st:Int}
end
end Qp
namespace Qp
section
variable {N:Nat} {T:List Tok} {P:Nat} {h h':Heap} {σ:St} {it st:Int}
end
end Qp
namespace Qp
section
variable {N:Nat} {T:List Tok} {P:Nat} {it st:Int} {h:Heap} {σ:St}
end
end Qp
namespace Qp
theorem lAb {t:Bs}:∀ {l:List Bs},t∈l→eA7 t l=true
 | w::r,h=>by
  simp only [eA7];rcases List.mem_cons.1 h with rfl | h
  ·rw [eqB.2 rfl];rfl
  ·rw [lAb h];cases jB t w <;> rfl
theorem mAb {t:Bs} {k:Int} {x:Bs} {n:Nat} (h:cG t=some (k,x,n)):kA1 x=true:=by
 unfold cG at h
 cases hf:oJ t two with
 | some p=>
  rw [hf] at h;simp only [Option.some.injEq,Prod.mk.injEq] at h;obtain ⟨rfl,rfl,rfl⟩:=h;simp only [kA1,lAb (tV hf).1,Bool.or_true]
 | none=>
  rw [hf] at h
  cases t with
  | nil=>cases h
  | cons c r=>
   simp only at h
   split at h
   ·rename_i hm
    simp only [Option.some.injEq,Prod.mk.injEq] at h;obtain ⟨rfl,rfl,rfl⟩:=h;simp only [kA1,hm,Bool.true_or]
   ·cases h
theorem jAl {t:Bs} {k:Int} {x:Bs} {n:Nat} (ht:t.length≤3000000) (h:uC t=some (k,x,n)) (a:Nat):TokOK (k,x,a)∧k≠0:=by
 cases t with
 | nil=>cases h
 | cons c r=>
  have hl:∀ n,((c::r).take n).length≤3000000:=fun n=>by rw [List.length_take];omega
  simp only [uC] at h
  split at h
  ·rename_i hc
   simp only [pJ] at h
   split at h
   ·rename_i hw
    simp only [Option.some.injEq,Prod.mk.injEq] at h;obtain ⟨rfl,rfl,rfl⟩:=h;exact ⟨⟨fun _=>hw,fun h=>by simp at h,hl _,fun h=>by simp at h,fun h=>by simp at h,fun h=>by simp at h⟩,by decide⟩
   ·rename_i hw
    split at h
    ·rename_i h32
     simp only [Option.some.injEq,Prod.mk.injEq] at h;obtain ⟨rfl,rfl,rfl⟩:=h;refine ⟨⟨fun h=>by simp at h,fun h=>by simp at h,hl _,fun h=>by simp at h,fun _=>?_,fun h=>by simp at h⟩,by decide⟩;show gA7 _=true;unfold gA7;rw [lP];simp only [dI,hc,decide_eq_true h32,Bool.true_and,Bool.not_eq_true'] at hw ⊢;simpa using hw
    ·cases h
  ·split at h
   ·rename_i hd
    simp only [jQ] at h
    split at h
    ·rename_i hk
     simp only [Option.some.injEq,Prod.mk.injEq] at h;obtain ⟨rfl,rfl,rfl⟩:=h;have h1:runN (c::r)=runN r+1:=by simp [runN,uL,hd]
     exact ⟨⟨fun h=>by simp at h,fun h=>by simp at h,hl _,fun _=>⟨hk,by rw [List.length_take,List.length_cons];omega⟩,fun h=>by simp at h,fun h=>by simp at h⟩,by decide⟩
    ·cases h
   ·split at h
    ·simp only [wL] at h
     split at h
     ·rename_i hh
      split at h
      ·rename_i h32
       simp only [Option.some.injEq,Prod.mk.injEq] at h;obtain ⟨rfl,rfl,rfl⟩:=h;simp only [List.length_cons] at ht;exact ⟨⟨fun h=>by simp at h,fun h=>by simp at h,by simp only [List.length_take];omega,fun h=>by simp at h,fun h=>by simp at h,fun _=>by rw [lP,hh,decide_eq_true h32];rfl⟩,by decide⟩
      ·cases h
     ·cases h
    ·have hs:=mAb h
     obtain ⟨rfl,rfl,h1,h2⟩:=yN h;exact ⟨⟨fun h=>by simp at h,fun _=>hs,hl _,fun h=>by simp at h,fun h=>by simp at h,fun h=>by simp at h⟩,by decide⟩
theorem yAq:∀ (M:Nat) (t:Bs) (a:Nat) (l:List Tok),t.length≤3000000→qY M t a=.inl l→∀ q∈l,TokOK q∧q.1≠0
 | 0,t,a,l,_,h=>by cases h
 | M+1,[],a,l,_,h=>by
  simp only [qY,Sum.inl.injEq] at h;subst h;simp
 | M+1,c::r,a,l,ht,h=>by
  simp only [qY] at h
  split at h
  ·cases h
  ·rename_i k x n hn
   have h0:=jAl ht hn a
   split at h
   ·rename_i l' hl
    simp only [Sum.inl.injEq] at h;subst h;have ih:=yAq M _ _ l' (by rw [List.length_drop];omega) hl;intro q hq;rcases List.mem_cons.1 hq with rfl | hq
    ·exact h0
    ·exact ih q hq
   ·cases h
theorem nAb {N:Nat} {s:Bs} (hs:s.length≤3000000) {T:List Tok} (h:gAb N s=.inl T) (hl:T.length≤2000000):Toks T∧0<T.length:=by
 unfold gAb at h
 split at h
 ·rename_i l hg
  simp only [Sum.inl.injEq] at h;subst h;have ok:=yAq N _ _ l (by rw [List.length_drop];omega) hg;refine ⟨⟨fun q hq=>?_,fun i hi h0=>?_,hl⟩,by simp⟩
  ·rcases List.mem_append.1 hq with hq | hq
   ·exact (ok q hq).1
   ·rw [List.mem_singleton] at hq;subst hq
    exact ⟨fun h=>by simp at h,fun h=>by simp at h,by simp,fun h=>by simp at h,fun h=>by simp at h,fun h=>by simp at h⟩
  ·rw [List.length_append,List.length_singleton] at hi ⊢
   by_cases q:i<l.length
   ·omega
   ·rw [List.getElem_append_right (by omega)] at h0
    simp at h0
 ·cases h
def dAw (N:Nat) (s:Bs):D×Er:=match gAb N s with
 | .inr a=>(tyD 0 [] [] [],some (20,(a:Int)))
 | .inl T=>
  let r:=yL T 64 (0,none)
  let σ:=if (tk T r.2.1).1=0 then r.2 else iF T 21 r.2
  if σ.2=none then (r.1,none) else (tyD 0 [] [] [],σ.2)
def vBh (h:Heap) (v:AV):Er→Prop
 | none=>v=AV.nilIface
 | some (c,a)=>iA1 h v c a
theorem aAr {h:Heap} {A B:Nat} {cs ds:List AV} (x:h.own A cs) (y:h.own B ds) (hl:cs.length≠ds.length):A≠B:=by
 intro e;subst e
 have:=x.1.symm.trans y.1
 simp only [Option.some.injEq,Blk.row.injEq,and_true] at this;exact hl (by rw [this])
section
variable {N:Nat} {s:Bs}
theorem wB8 (hs:s.length≤1000000) (hN:s.length<N) (hN2:100≤N) (h:Heap):∃ r h',f23 N s h=some (r,h')∧Chg [] h h'∧Dt h' (fun C=>h.next≤C) (dAw N s).1 (tyc r.1)∧vBh h' r.2.1 (dAw N s).2:=by
 unfold f23 dAw;have o1:=vA h zt;have c1:=qA h (.row zt .own);have e1:h.push (.row [(.int .i64 0),(.str []),(.slice none 0 0 0),(.slice none 0 0 0)] .own)=h.push (.row zt .own):=rfl;have n1:(h.push (.row zt .own)).next=h.next+1:=rfl;rw [e1];generalize h.push (.row zt .own)=h1 at *;dsimp only;obtain ⟨r2,h3,e3,c3,p3⟩:=qAy (by omega) hN (by omega) h1;rw [e3,aA];have o3:=o1.chg c3 (by simp);have c03:=c1.trans c3;have hn3:=c3.next
 cases hl:gAb N s with
 | inr a=>
  rw [hl] at p3;obtain ⟨F,f1,f2⟩:=p3;rw [f1,pP];simp only [fA,wB,cond_true];have hne:=aAr o3 f2 (by show (4:Nat)≠3;decide);have cp:=o3.put zt;exact ⟨((0,[],sl0,sl0,()),AV.iface 127 (.ptr (some (F,0))),()),_,wAy o3 (0,[],sl0,sl0,()) (fun x h=>some ((x,AV.iface 127 (.ptr (some (F,0))),()),h)),c03.put (.inr (Nat.le_refl _)) _,uW _ _ _ _,F,rfl,f2.chg cp (by simpa using fun e=>hne e.symm)⟩
 | inl T=>
  rw [hl] at p3;obtain ⟨pe,po,pl⟩:=p3;obtain ⟨hT,hT0⟩:=nAb (by omega) hl (by omega);rw [pe,ne_nil];simp only [fA,wB,cond_false];have sl3:=po.sl;have hz:r2.1.sz=3:=by
   rcases po with ⟨_,_,_,h4⟩ | ⟨A,cs,st',vs,_,h2,_⟩
   ·have:T.length=0:=by rw [← List.length_map (f:=pY),h4];rfl
    omega
   ·exact h2
  have oP:=vA h3 [SL.av r2.1,.int .i64 0,.int .i64 0,AV.nilIface];have cP:=qA h3 (.row [SL.av r2.1,.int .i64 0,.int .i64 0,AV.nilIface] .own);have eP:h3.push (.row [(.slice r2.1.a r2.1.len r2.1.cap r2.1.sz),(.int .i64 0),(.int .i64 0),AV.nilIface] .own)=h3.push (.row [SL.av r2.1,.int .i64 0,.int .i64 0,AV.nilIface] .own):=rfl;have nP:(h3.push (.row [SL.av r2.1,.int .i64 0,.int .i64 0,AV.nilIface] .own)).next=h3.next+1:=rfl;rw [eP];generalize h3.push (.row [SL.av r2.1,.int .i64 0,.int .i64 0,AV.nilIface] .own)=h7 at *;have x7:PA T h3.next [] h7 (0,none) 0:=⟨⟨r2.1,AV.nilIface,oP,(sl3.weak (W:=fun C=>C<h3.next) (fun C _ hlt=>hlt)).chg cP (by simp),hz,rfl⟩,hT0,by simp⟩;have oR7:=o3.chg cP (by simp);obtain ⟨r8,h9,e9,x9,c9,d9⟩:=yAy (N:=N) hT hN2 64 N h7 _ _ (by omega) (by omega) x7;rw [show ((65-64:Nat):Int)=1 from rfl] at e9;rw [e9,aA];have oR9:=oR7.chg c9 (by simp;omega);have oB0:=vA h9 zt;have cB0:=qA h9 (.row zt .own);have eB:h9.push (.row [(.int .i64 0),(.str []),(.slice none 0 0 0),(.slice none 0 0 0)] .own)=h9.push (.row zt .own):=rfl;have nB:(h9.push (.row zt .own)).next=h9.next+1:=rfl;have hstB:=tA4 oB0 r8;rw [eB,hstB,dA];have oB:=yA oB0 (tyc r8);have cB:Chg [] h9 ((h9.push (.row zt .own)).put h9.next (.row (tyc r8) .own)):=cB0.put (.inr (Nat.le_refl _)) _;have nB2:((h9.push (.row zt .own)).put h9.next (.row (tyc r8) .own)).next=h9.next+1:=rfl;generalize (h9.push (.row zt .own)).put h9.next (.row (tyc r8) .own)=h11 at *;have x11:=x9.chg cB;have oR11:=oR9.chg cB (by simp);have d11:=d9.chg cB (by simp);have hn9:=c9.next;obtain ⟨h13,e13,c13⟩:=wM (N:=N) x11;rw [e13,aA];have x13:=x11.chg c13;have oR13:=oR11.chg c13 (by simp);have oB13:=oB.chg c13 (by simp);have d13:=d11.chg c13 (by simp);have c013:Chg [h3.next] h h13:=(((c03.mono (by simp)).trans (cP.mono (by simp))).trans c9).trans ((cB.trans c13).mono (by simp));generalize yL T 64 (0,none)=rr at *;have tail:∀ (hh:Heap) (σ:St),PA T h3.next [] hh σ 0→Chg [h3.next] h13 hh→∃ r h',
    (iA (.val zU2) (hh.cell (h3.next,3)) fun (x17:AV)=>
    (iA (.val zS2) (oK E .neq 29 (.tmp 31) (.const .nilIface) x17 AV.nilIface) fun (x18:Bool)=>
    (bif x18 then
     (iA (.val zU2) (hh.cell (h3.next,3)) fun (x19:AV)=>
     (rA (hh.store (h.next,0) [(.int .i64 0),(.str []),(.slice none 0 0 0),(.slice none 0 0 0)]) fun h20=>
     (cE (bif (mB (h20.cell (h3.next,3)) x19) then (bif (mB (hh.cell (h3.next,3)) x19) then true else false) else false) (
     (iA (.val zC) (h20.cells (h.next,0) 4) fun (x21:zM)=>
     some (((x21.1,x21.2.1,x21.2.2.1,x21.2.2.2.1,()),x19,()),h20))))))
    else
     (iA (.val zC) (hh.cells (h9.next,0) 4) fun (x22:zM)=>
     (rA (hh.store (h.next,0) [(.int .i64 x22.1),(.str x22.2.1),(.slice x22.2.2.1.a x22.2.2.1.len x22.2.2.1.cap x22.2.2.1.sz),(.slice x22.2.2.2.1.a x22.2.2.2.1.len x22.2.2.2.1.cap x22.2.2.2.1.sz)]) fun h23=>
     (iA (.val zC) (h23.cells (h.next,0) 4) fun (x24:zM)=>
     some (((x24.1,x24.2.1,x24.2.2.1,x24.2.2.2.1,()),AV.nilIface,()),h23)))))))=some (r,h')∧Chg [] h h'∧Dt h' (fun C=>h.next≤C) (if σ.2=none then (rr.1,none) else (tyD 0 [] [] [],σ.2):D×Er).1 (tyc r.1)∧vBh h' r.2.1 (if σ.2=none then (rr.1,none) else (tyD 0 [] [] [],σ.2):D×Er).2:=by
   intro hh σ x c;obtain ⟨v,k3,hv⟩:=x.readE;have oR:=oR13.chg c (by simp;omega);have oBh:=oB13.chg c (by simp;omega);have dh:=d13.chg c (by intro C hC;simp;omega);have c0:Chg [h3.next] h hh:=c013.trans c;have oPh:∃ cs,hh.own h3.next cs:=by obtain ⟨⟨s',v',g1,_⟩,_⟩:=x;exact ⟨_,g1⟩
   simp only [k3,fA,aE,hv.ne 31,wB];obtain ⟨i,e⟩:=σ
   cases e with
   | none=>
    simp only [Option.isSome_none,cond_false,if_true];rw [vW oBh];have cR:=oR.put (tyc r8);refine ⟨(r8,AV.nilIface,()),_,wAy oR r8 (fun x h=>some ((x,AV.nilIface,()),h)),(c0.put (.inr (Nat.le_refl _)) _).cut (fun A hA hlt=>?_),?_,rfl⟩
    ·rw [List.mem_singleton] at hA;omega
    ·exact (dh.chg cR (fun C hC=>by simp;omega)).weak (fun C hC _=>by omega)
   | some q=>
    obtain ⟨c',a'⟩:=q;simp only [Option.isSome_some,cond_true];obtain ⟨F,f1,f2,f3⟩:=hv;have hst:hh.store (h.next,0) [(.int .i64 0),(.str []),(.slice none 0 0 0),(.slice none 0 0 0)]=some (hh.put h.next (.row zt .own)):=tA4 oR (0,[],sl0,sl0,());have cR:=oR.put zt;obtain ⟨⟨s',v',g1,g2⟩,g3⟩:=x;have hv':v'=v:=by
     have:=g1.cell 3
     rw [k3] at this;simpa using this.symm
    have kP:(hh.put h.next (.row zt .own)).cell (h3.next,3)=some v:=by
     rw [(g1.chg cR (by simp;omega)).cell 3,← hv'];rfl
    rw [hst,dA];simp only [kP,k3,cD,cond_true,mC];have hne:=aAr oR f3 (by show (4:Nat)≠3;decide);rw [vW (yA oR _)];refine ⟨((0,[],sl0,sl0,()),v,()),_,rfl,(c0.put (.inr (Nat.le_refl _)) _).cut (fun A hA hlt=>?_),uW _ _ _ _,F,f1,f3.chg cR (by simpa using fun e=>hne e.symm)⟩;rw [List.mem_singleton] at hA;omega
  simp only [kAi,eqI,Nat.zero_add]
  by_cases q0:(tk T rr.2.1).1=0
  ·simp only [q0,decide_true,Bool.not_true,cond_false,if_true]
   exact tail h13 rr.2 x13 (Chg.refl _ _)
  ·simp only [q0,decide_false,Bool.not_false,cond_true,if_false]
   obtain ⟨h16,e16,c16,x16⟩:=lA1 (N:=N) x13 (c:=21) (by decide);rw [e16,aA];exact tail h16 _ x16 c16
end
end Qp
namespace Qp
section
variable {N:Nat} {s:Bs}
end
end Qp
namespace Qp
def uA4:Nat→D→Prop
 | 0,_=>False
 | m+1,d=>∃ k x lv el,d=tyD k x lv el∧lv.length≤1000∧el.length≤1000∧∀ e∈el,uA4 m e
theorem vA4 (T:List Tok):∀ (g:Nat) (σ:St),(eI T g σ).1.length≤g
 | 0,σ=>by simp [eI]
 | g+1,σ=>by
  simp only [eI]
  split
  ·have:=vA4 T g (kB T [44] (iC T 3 σ).2).2
   simp only [List.length_cons];omega
  ·simp
theorem wA4 (T:List Tok) (σ:St):(oI T σ).1.length≤64:=by
 simp only [oI]
 split
 ·exact vA4 _ _ _
 ·simp
theorem bAr (T:List Tok):∀ (g:Nat) (σ:St),uA4 (g+1) (yL T g σ).1
 | 0,σ=>⟨0,[],[],[],rfl,by simp,by simp,by simp⟩
 | g+1,(i,some e)=>⟨0,[],[],[],rfl,by simp,by simp,by simp⟩
 | g+1,(i,none)=>by
  simp only [yL]
  split
  ·exact ⟨1,[],[],[],rfl,by simp,by simp,by simp⟩
  split
  ·exact ⟨2,[],[],[],rfl,by simp,by simp,by simp⟩
  split
  ·refine ⟨_,_,_,_,rfl,?_,by simp,fun e he=>?_⟩
   ·simp only [mA1];split <;> simp
   ·rw [List.mem_singleton] at he;subst he;exact bAr T g _
  ·exact ⟨_,_,_,_,rfl,by have:=wA4 T (lI T (kB T [38] (kB T [98,111,111,108] (kB T [105,110,116] (i,none)).2).2).2).2;omega,by simp,by simp⟩
section
variable {N:Nat} {h h':Heap} {V W:Nat→Prop}
theorem aAz {s:SL} {xs:List Bs} (x:Sl h V s (xs.map D.s)) {i:Nat} (hi:i<xs.length):h.cell (s.at i 1)=some (.str xs[i]):=by
 obtain ⟨cs,e⟩:=x.elt (i:=i) (by rw [List.length_map];exact hi);have hd:=e.dt;rw [List.getElem_map] at hd;simp only [Dt] at hd;have hl:=e.len;rw [hd] at hl;have hz:s.sz=1:=by simpa using hl.symm
 have:=e.cell 0 (by omega)
 rw [hz,hd] at this;simpa using this
theorem rT {β:Type} (p:zO2) (K:zO1→Option β):iA (.tup [zP2,zS2]) (iJ E (.iface 127 (.ptr p)) 127 true) K=K (p,true,()):=by
 have:iJ E (.iface 127 (.ptr p)) 127 true=some (eA9 true (.ptr p)):=by kernel_rfl
 rw [this];rfl
theorem pAi {β:Type} (c:Int) (K:zO1→Option β):iA (.tup [zP2,zS2]) (iJ E (.iface 78 (.int .i64 c)) 127 true) K=K (none,false,()):=by
 have:iJ E (.iface 78 (.int .i64 c)) 127 true=dW E 127 true:=by kernel_rfl
 rw [this]
 have:dW E 127 true=some (.tuple [.ptr none,.bool false]):=by kernel_rfl
 rw [this];rfl
end
end Qp
namespace Qp
end Qp
namespace Qz
open Qa
def asF (a b:AV) (h:Heap):Option (Bool×Heap):=match asN [a,b] h with
 | some (.bool r,h')=>some (r,h')
 | _=>none
theorem lA7 (_N:Nat):jD Tryz.prog 192 [(.one .any),(.one .any)] (.val (.one .bool)) (fun x h=>asF x.1 x.2.1 h):=by
 intro xs h r h' hx μ w args' hr hv;have hx':asF xs.1 xs.2.1 h=some (r,h'):=hx;unfold asF at hx'
 split at hx'
 ·rename_i b hh he
  simp only [Option.some.injEq,Prod.mk.injEq] at hx';obtain ⟨rfl,rfl⟩:=hx';exact mBe he hr hv
 ·cases hx'
end Qz
namespace Qw
open Go.RowKit Go.Stop
theorem cAr (w:World):Calls Tryz.prog 258 #[.string ⟨#[]⟩] w fun e w'=>e=.returned (.string ⟨#[]⟩)∧w'=w:=by
 go_enter Tryz.func258,Tryz.ntmps258
 go_wp2
 all_goals (go_ret;exact ⟨rfl,rfl⟩)
theorem nBi (s:ByteArray) (T:TypeId) (a:Addr) (w:World) (hg:w.cell? ⟨3,0,none⟩=some (.iface T (.pointer (some a)))):Calls Tryz.prog 246 #[.string s,.string ⟨#[]⟩] w fun e w'=>e=.returned (.pointer (some ⟨w.heap.size,0,none⟩))∧(w'.Alike (w.alloc (.cells #[.string s,.string ⟨#[]⟩,.iface T (.pointer (some a))] 271))∧w'.tape=w.tape):=by
 go_enter Tryz.func246,Tryz.ntmps246
 go_wp2
 go_region_with (go_at_call 258;refine (cAr _).mono ?_;rintro e w' ⟨rfl,rfl⟩)
 all_goals (try go_wp2)
 all_goals (go_ret;exact ⟨rfl,⟨rfl,rfl,rfl⟩,rfl⟩)
set_option maxRecDepth 100000 in
theorem uBf (s:ByteArray) (T:TypeId) (a:Addr) (n m:Int) (w:World) (hg:w.cell? ⟨3,0,none⟩=some (.iface T (.pointer (some a)))):Calls Tryz.prog 234 #[.string s,.string ⟨#[]⟩,.int .i64 n,.int .i64 m,.iface 256 (.int .i64 2)] w fun e w'=>e=.returned (.iface 259 (.pointer (some ⟨w.heap.size,0,none⟩)))∧(w'.Alike (w.alloc (.cells #[.string s,.string ⟨#[]⟩,.iface T (.pointer (some a))] 271))∧w'.tape=w.tape):=by
 have he:∀ w,(binOp .eql 29 (.iface 256 (.int .i64 2)) (.iface 256 (.int .i64 2))).run Tryz.prog w=.ok (.bool true) w:=fun w=>by kernel_rfl
 go_enter Tryz.func234,Tryz.ntmps234
 go_wp2_with (go_at_call 246;refine (nBi s T a _ hg).mono ?_;rintro e w' ⟨rfl,hw⟩)
 all_goals (go_ret;exact ⟨rfl,hw⟩)
open Ai Qa
def dB6:Ai.Loc:=⟨3,0,1,false⟩
def sen:AV:=.iface 275 (.ptr (some (3,0)))
def pinned (h:Heap):Bool:=Qx.pinned h&&kA3 2 dB6 h.pins&&mA6 (h.t.get 2) [sen]
def uBd:AV→Bool
 | .iface t (.int .i64 n)=>Nat.beq t 256&&dB n 2
 | _=>false
def oAb (s u:List UInt8) (_n _m:Int) (e:AV) (h:Heap):Option (AV×Heap):=bif jB u []&&uBd e&&pinned h then some (.iface 259 (.ptr (some (h.next,0))),h.push (.row [.str s,.str [],sen] .own)) else none
theorem pB1 {e:AV} (h:uBd e=true):e=.iface 256 (.int .i64 2):=by
 unfold uBd at h
 split at h
 ·rename_i t n
  simp only [Bool.and_eq_true] at h;have h2:=h.2;rw [qAa,decide_eq_true_eq] at h2;rw [Nat.eq_of_beq_eq_true h.1,h2]
 ·cases h
theorem wAe (_N:Nat):jD Tryz.prog 234 [(.one .str),(.one .str),(.one (.int .i64)),(.one (.int .i64)),(.one .any)] (.val (.one .any)) (fun x h=>oAb x.1 x.2.1 x.2.2.1 x.2.2.2.1 x.2.2.2.2.1 h):=by
 intro xs h r h' hx μ w args' hr hv;obtain ⟨s,u,n,m,e,_⟩:=xs;have hx':oAb s u n m e h=some (r,h'):=hx;unfold oAb at hx'
 cases hb:(jB u []&&uBd e&&pinned h) with
 | false=>rw [hb] at hx';cases hx'
 | true=>
  rw [hb] at hx';simp only [cond_true,Option.some.injEq,Prod.mk.injEq] at hx';obtain ⟨rfl,rfl⟩:=hx';simp only [Bool.and_eq_true,pinned] at hb;obtain ⟨⟨b1,b2⟩,⟨_,b3⟩,b4⟩:=hb;rw [eE,beq_iff_eq] at b1;subst b1;have b2:=pB1 b2;subst b2;have hv':VRs μ [.str s,.str [],.int .i64 n,.int .i64 m,.iface 256 (.int .i64 2)] args'.toList:=hv;simp only [VRs,VR] at hv';obtain ⟨y1,ys1,e1,rfl,y2,ys2,e2,rfl,y3,ys3,e3,rfl,y4,ys4,e4,rfl,y5,ys5,e5,⟨z,rfl,rfl⟩,e6⟩:=hv';subst e2 e3 e4 e5 e6;have ea:args' = #[.string ⟨s.toArray⟩,.string ⟨[].toArray⟩,.int .i64 n,.int .i64 m,.iface 256 (.int .i64 2)]:=by rw [← Array.toList_inj,e1]
  subst ea;have hm2:=hr.pin _ (qT b3);have hrow:RowR μ w dB6 [sen]:=hr.blk 2 dB6 _ hm2 (uAh b4);obtain ⟨y,h1,h2⟩:=hrow.cell 0 sen rfl;have hse:=h2;simp only [sen,VR] at h2;obtain ⟨x',rfl,l,hl,rfl⟩:=h2;refine ⟨qAh rBh (fn:=Tryz.f234) (by kernel_rfl) (by kernel_rfl) _ _,(uBf ⟨s.toArray⟩ 275 ⟨l.b,l.sh+0,none⟩ n m w h1).mono ?_⟩;rintro ev w' ⟨rfl,⟨q1,q2,q3⟩,q4⟩;have hvs:VRs μ [.str s,.str [],sen] (#[.string ⟨s.toArray⟩,.string ⟨#[]⟩,.iface 275 (.pointer (some ⟨l.b,l.sh+0,none⟩))]:Array Value).toList:=VRs.cons (by simp only [VR]) (VRs.cons (by simp only [VR]) (VRs.cons hse VRs.nil));obtain ⟨l',g1,g2,g3,g4,g5,g6⟩:=hr.pushRow _ _ 271 hvs;have hbel:Below (w.alloc (.cells #[.string ⟨s.toArray⟩,.string ⟨#[]⟩,.iface 275 (.pointer (some ⟨l.b,l.sh+0,none⟩))] 271)).heap.size (w.alloc (.cells #[.string ⟨s.toArray⟩,.string ⟨#[]⟩,.iface 275 (.pointer (some ⟨l.b,l.sh+0,none⟩))] 271)) w':=⟨q2,q4,q3,by rw [q1];exact Nat.le_refl _,fun k _=>by rw [q1]⟩;refine ⟨_,rfl,μ.add h.next l',?_,g5.below hbel,Ext.trans hr g6 (Ext.of_below hbel)⟩;show VR _ (.iface 259 (.ptr (some (h.next,0)))) _;simp only [VR];refine ⟨_,rfl,l',by simp [Mu.add],?_⟩;rw [g1,g2]
end Qw
end Go.Proofs.YtkcjphhjmlienaaGreatDoor
