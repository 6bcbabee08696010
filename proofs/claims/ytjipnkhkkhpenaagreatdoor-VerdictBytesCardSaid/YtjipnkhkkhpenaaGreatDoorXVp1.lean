import Derived.Test.YtjipnkhkkhpenaaGreatDoorAi1
import Derived.Test.YtjipnkhkkhpenaaGreatDoorProg
import Derived.WalkKit
import Derived.LaidEql
import Derived.Stop.Asserts
import Derived.RowKitTokens
import Derived.Test.YtjipnkhkkhpenaaGreatDoorAi3
import Derived.Laws.Externs
import Derived.Deep.RegionHeld3
import Derived.Sort.Grow
import Derived.Deep.Draws
import Derived.Shelf.SlGeneric
import Derived.Ground.SlsfProg
import Derived.Shelf.SlSortCmp.NoneTotal
/- Functions of the program as plain functions, and what they come to; part 1. -/
namespace Go.Proofs.YtjipnkhkkhpenaaGreatDoor
set_option linter.unusedVariables false
set_option linter.unusedSimpArgs false
instance:Ai.IntT:=⟨[3,22,84,5,187],[28],[9]⟩
open Go Go.Proofs
namespace Va
open Go.RowKit Go.Extern.Stop Go.Stop Go.Extern
theorem as_valueOf27 (t:Addr) (w:World):(ReflectliteValue.unpack (.iface 275 (.pointer (some t)))).run Tryz.prog w
  = .ok (.agg #[.pointer (some ⟨4,275,none⟩),.pointer (some ⟨w.heap.size,0,none⟩),.int .u64 150]) (w.alloc (.cells #[.pointer (some t)] 275)):=by kernel_rfl
theorem as_type27 (a:Addr) (w:World):(ReflectliteValue.methodAny (ReflectliteValue.valueError "reflectlite.Value.Type" 0) (fun t _ _ _=>ReflectliteType.toType t) #[.agg #[.pointer (some ⟨4,275,none⟩),.pointer (some a),.int .u64 150]]).run Tryz.prog w
  = .ok (.iface 303 (.agg #[.pointer (some ⟨4,275,none⟩)])) w:=by kernel_rfl
theorem as_methodKind (h:Value) (w:World):(Go.method 477 303 (.agg #[h]) "Kind").run Tryz.prog w=.ok (261,h) w:=by kernel_rfl
theorem as_kind27 (w:World):((ReflectliteType.abiMethod fun t=>Functor.map (fun a:Nat=>Value.int IntKind.u8 (a:Int)) (Rtype.kind t)) #[.pointer (some ⟨4,275,none⟩)]).run Tryz.prog w=.ok (.int .u8 22) w:=by kernel_rfl
theorem as_kind25 (w:World):((ReflectliteType.abiMethod fun t=>Functor.map (fun a:Nat=>Value.int IntKind.u8 (a:Int)) (Rtype.kind t)) #[.pointer (some ⟨4,137,none⟩)]).run Tryz.prog w=.ok (.int .u8 22) w:=by kernel_rfl
theorem rlm (z:Sem Value) (f:TypeId→Addr→Nat→Nat→Sem Value) (v:Value) :
  ReflectliteValue.method z f #[v]=(do match ← ReflectliteValue.parts v with | none=>z | some (t,a,fl)=>f t a fl (fl % 32)):=rfl
theorem as_parts27 (a:Addr) (w:World):(ReflectliteValue.parts (.agg #[.pointer (some ⟨4,275,none⟩),.pointer (some a),.int .u64 150])).run Tryz.prog w=.ok (some (275,a,150)) w:=by kernel_rfl
theorem as_isNil27 (a p:Addr) (W:World) (ha:W.cell? a=some (.pointer (some p))) :
  (ReflectliteValue.method (ReflectliteValue.valueError "reflectlite.Value.IsNil" 0) ReflectliteValue.isNil #[.agg #[.pointer (some ⟨4,275,none⟩),.pointer (some a),.int .u64 150]]).run Tryz.prog W=.ok (.bool false) W:=by
 rw [rlm]
 simp only [Sem.run_bind,as_parts27,Result.andThen]
 simp [ReflectliteValue.isNil,loadVar,isAgg,underlying,Tryz.underlying275,ha,Result.andThen]
theorem as_methodElem (h:Value) (w:World):(Go.method 477 303 (.agg #[h]) "Elem").run Tryz.prog w=.ok (278,.agg #[h]) w:=by kernel_rfl
theorem as_methodImplements (h:Value) (w:World):(Go.method 477 303 (.agg #[h]) "Implements").run Tryz.prog w=.ok (279,.agg #[h]) w:=by kernel_rfl
theorem as_methodAssignableTo (h:Value) (w:World):(Go.method 477 303 (.agg #[h]) "AssignableTo").run Tryz.prog w=.ok (276,.agg #[h]) w:=by kernel_rfl
theorem as_elem27 (w:World):(ReflectliteType.method ReflectliteType.elem #[.agg #[.pointer (some ⟨4,275,none⟩)]]).run Tryz.prog w=.ok (.iface 303 (.agg #[.pointer (some ⟨4,137,none⟩)])) w:=by kernel_rfl
theorem as_implements25 (w:World):(ReflectliteType.relation "Implements" ReflectliteType.implements_ #[.agg #[.pointer (some ⟨4,137,none⟩)],.iface 303 (.agg #[.pointer (some ⟨4,34,none⟩)])]).run Tryz.prog w=.ok (.bool true) w:=by kernel_rfl
theorem as_typeOf25 (v:Value) (w:World):(ReflectliteType.typeOf #[.iface 137 v]).run Tryz.prog w=.ok (.iface 303 (.agg #[.pointer (some ⟨4,137,none⟩)])) w:=by kernel_rfl
theorem as_assignable25 (w:World):(ReflectliteType.relation "AssignableTo" ReflectliteType.assignableTo #[.agg #[.pointer (some ⟨4,137,none⟩)],.iface 303 (.agg #[.pointer (some ⟨4,137,none⟩)])]).run Tryz.prog w=.ok (.bool true) w:=by kernel_rfl
theorem as_valueOf25 (e:Addr) (w:World):(ReflectliteValue.unpack (.iface 137 (.pointer (some e)))).run Tryz.prog w
  = .ok (.agg #[.pointer (some ⟨4,137,none⟩),.pointer (some ⟨w.heap.size,0,none⟩),.int .u64 150]) (w.alloc (.cells #[.pointer (some e)] 137)):=by kernel_rfl
theorem as_elemOf27 (w:World):(Rtype.elem? 275).run Tryz.prog w=.ok (some 137) w:=by kernel_rfl
theorem as_mk25 (p:Addr) (w:World):(ReflectliteValue.mk 137 p ReflectliteValue.flagAddr).run Tryz.prog w=.ok (.agg #[.pointer (some ⟨4,137,none⟩),.pointer (some p),.int .u64 406]) w:=by kernel_rfl
theorem as_elemV27 (a p:Addr) (W:World) (ha:W.cell? a=some (.pointer (some p))) :
  (ReflectliteValue.method (ReflectliteValue.valueError "reflectlite.Value.Elem" 0) ReflectliteValue.elem #[.agg #[.pointer (some ⟨4,275,none⟩),.pointer (some a),.int .u64 150]]).run Tryz.prog W
   = .ok (.agg #[.pointer (some ⟨4,137,none⟩),.pointer (some p),.int .u64 406]) W:=by
 rw [rlm]
 simp only [Sem.run_bind,as_parts27,Result.andThen]
 simp [ReflectliteValue.elem,loadVar,isAgg,underlying,Tryz.underlying275,ha,Result.andThen,as_elemOf27,as_mk25]
theorem rls (v x:Value):ReflectliteValue.set #[v,x]=(do
  let (some (dst,a,fl),some (src,b,_)):=(← ReflectliteValue.parts v,← ReflectliteValue.parts x)
   | unsupported (.noEntry "extern/(internal/reflectlite.Value).Set.zeroValue")
  if fl / ReflectliteValue.flagAddr % 2 == 0 then unsupported (.noEntry "extern/(internal/reflectlite.Value).Set.unaddressable")
  let val ← loadVar src b
  if ← Rtype.directlyAssignable dst src then storeVar dst a val
  else if ← Rtype.implements dst src then
   if (← Rtype.kind src) == 20 then
    match val with
    | .nilIface=>unsupported (.noEntry "extern/reflectlite: a nil value of one interface type handed on as a value of another")
    | _=>storeVar dst a val
   else storeVar dst a (.iface src val)
  else panicString ("reflectlite.Set: value of type "++(← Rtype.spelt src) ++ " is not assignable to type "++(← Rtype.spelt dst))
  pure (.tuple #[])):=rfl
theorem as_parts25a (a:Addr) (w:World):(ReflectliteValue.parts (.agg #[.pointer (some ⟨4,137,none⟩),.pointer (some a),.int .u64 406])).run Tryz.prog w=.ok (some (137,a,406)) w:=by kernel_rfl
theorem as_parts25 (a:Addr) (w:World):(ReflectliteValue.parts (.agg #[.pointer (some ⟨4,137,none⟩),.pointer (some a),.int .u64 150])).run Tryz.prog w=.ok (some (137,a,150)) w:=by kernel_rfl
theorem as_direct25 (w:World):(Rtype.directlyAssignable 137 137).run Tryz.prog w=.ok true w:=by kernel_rfl
theorem as_set25 (ta b e:Addr) (old:Value) (W:World) (hb:W.cell? b=some (.pointer (some e))) (ht:W.cell? ta=some old) (hf:W.frozen? ta=false) :
  (ReflectliteValue.set #[.agg #[.pointer (some ⟨4,137,none⟩),.pointer (some ta),.int .u64 406],.agg #[.pointer (some ⟨4,137,none⟩),.pointer (some b),.int .u64 150]]).run Tryz.prog W
   = .ok (.tuple #[]) (W.setCell ta (.pointer (some e))):=by
 rw [rls]
 simp only [Sem.run_bind,as_parts25a,as_parts25,Result.andThen]
 simp [ReflectliteValue.flagAddr,loadVar,isAgg,underlying,Tryz.underlying137,hb,Result.andThen,as_direct25,storeVar,Value.cells,storeCells,Addr.add]
 rw [run_store Tryz.prog W ta _ _ (by rfl)]
 simp [ht,hf]
set_option maxRecDepth 100000 in
set_option maxHeartbeats 4000000 in
theorem as_hit (e t:Addr) (old:Value) (w:World) (hg:w.cell? ⟨0,0,none⟩=some (.iface 303 (.agg #[.pointer (some ⟨4,34,none⟩)]))) (ht0:w.cell? t=some old) (hf0:w.frozen? t=false) :
  Calls Tryz.prog 124 #[.iface 137 (.pointer (some e)),.iface 275 (.pointer (some t))] w fun ev w'=>ev=.returned (.bool true)∧w'=((((w.alloc (.cells #[.pointer (some t)] 275)).alloc (.cells #[.pointer (some ⟨4,275,none⟩),.pointer (some ⟨w.heap.size,0,none⟩),.int .u64 150] 279)).alloc (.cells #[.pointer (some ⟨4,275,none⟩),.pointer (some ⟨w.heap.size,0,none⟩),.int .u64 150] 279)).alloc (.cells #[.pointer (some e)] 137)).setCell t (.pointer (some e)):=by
 have h6:=@run_callFunc_extern Tryz.prog 172 _ (fun args=>ReflectliteValue.unpack (args.getD 0 (.tuple #[]))) Tryz.func172 (by kernel_rfl) (by kernel_rfl) (by kernel_rfl) (by kernel_rfl)
 have h7:=@run_callFunc_extern Tryz.prog 173 _ (ReflectliteValue.methodAny (ReflectliteValue.valueError "reflectlite.Value.Type" 0) (fun t _ _ _=>ReflectliteType.toType t)) Tryz.func173 (by kernel_rfl) (by kernel_rfl) (by kernel_rfl) (by kernel_rfl)
 have h8:=@run_callFunc_extern Tryz.prog 174 _ (ReflectliteValue.method (ReflectliteValue.valueError "reflectlite.Value.IsNil" 0) ReflectliteValue.isNil) Tryz.func174 (by kernel_rfl) (by kernel_rfl) (by kernel_rfl) (by kernel_rfl)
 have h27:=@run_callFunc_extern Tryz.prog 261 _ (ReflectliteType.abiMethod fun t=>do pure (.int .u8 (← Rtype.kind t))) Tryz.func261 (by kernel_rfl) (by kernel_rfl) (by kernel_rfl) (by kernel_rfl)
 have h37:=@run_callFunc_extern Tryz.prog 278 _ (ReflectliteType.method ReflectliteType.elem) Tryz.func278 (by kernel_rfl) (by kernel_rfl) (by kernel_rfl) (by kernel_rfl)
 have h38:=@run_callFunc_extern Tryz.prog 279 _ (ReflectliteType.relation "Implements" ReflectliteType.implements_) Tryz.func279 (by kernel_rfl) (by kernel_rfl) (by kernel_rfl) (by kernel_rfl)
 have h10:=@run_callFunc_extern Tryz.prog 187 _ ReflectliteType.typeOf Tryz.func187 (by kernel_rfl) (by kernel_rfl) (by kernel_rfl) (by kernel_rfl)
 have h35:=@run_callFunc_extern Tryz.prog 276 _ (ReflectliteType.relation "AssignableTo" ReflectliteType.assignableTo) Tryz.func276 (by kernel_rfl) (by kernel_rfl) (by kernel_rfl) (by kernel_rfl)
 have h11:=@run_callFunc_extern Tryz.prog 203 _ (ReflectliteValue.method (ReflectliteValue.valueError "reflectlite.Value.Elem" 0) ReflectliteValue.elem) Tryz.func203 (by kernel_rfl) (by kernel_rfl) (by kernel_rfl) (by kernel_rfl)
 have h12:=@run_callFunc_extern Tryz.prog 204 _ ReflectliteValue.set Tryz.func204 (by kernel_rfl) (by kernel_rfl) (by kernel_rfl) (by kernel_rfl)
 have tO:=as_typeOf25
 have mA:=as_methodAssignableTo
 have a25:=as_assignable25
 have v25:=as_valueOf25
 have f6:=as_valueOf27
 have f7:=as_type27
 have mK:=as_methodKind
 have mE:=as_methodElem
 have mI:=as_methodImplements
 have k27:=as_kind27
 have k25:=as_kind25
 have e27:=as_elem27
 have i25:=as_implements25
 have n8:=as_isNil27 ⟨w.heap.size,0,none⟩ t ((w.alloc (.cells #[.pointer (some t)] 275)).alloc (.cells #[.pointer (some ⟨4,275,none⟩),.pointer (some ⟨w.heap.size,0,none⟩),.int .u64 150] 279)) (by simp)
 have hlt:0<w.heap.size:=by
  rcases Nat.eq_zero_or_pos w.heap.size with h0 | h
  ·simp [World.cell?,h0] at hg
  ·exact h
 have hg2:((w.alloc (.cells #[.pointer (some t)] 275)).alloc (.cells #[.pointer (some ⟨4,275,none⟩),.pointer (some ⟨w.heap.size,0,none⟩),.int .u64 150] 279)).cell? ⟨0,0,none⟩=some (.iface 303 (.agg #[.pointer (some ⟨4,34,none⟩)])):=by
  rw [World.cell?_alloc_lt _ _ ⟨0,0,none⟩ (by simp),World.cell?_alloc_lt _ _ ⟨0,0,none⟩ hlt];exact hg
 have htl:t.block<w.heap.size:=by
  rcases Nat.lt_or_ge t.block w.heap.size with h | h
  ·exact h
  ·simp [World.cell?,Array.getElem?_eq_none h] at ht0
 have el:=as_elemV27 ⟨w.heap.size,0,none⟩ t (((w.alloc (.cells #[.pointer (some t)] 275)).alloc (.cells #[.pointer (some ⟨4,275,none⟩),.pointer (some ⟨w.heap.size,0,none⟩),.int .u64 150] 279)).alloc (.cells #[.pointer (some ⟨4,275,none⟩),.pointer (some ⟨w.heap.size,0,none⟩),.int .u64 150] 279)) (by rw [World.cell?_alloc_lt _ _ ⟨w.heap.size,0,none⟩ (by simp;omega)];simp)
 have st:=as_set25 t ⟨w.heap.size+1+1+1,0,none⟩ e old ((((w.alloc (.cells #[.pointer (some t)] 275)).alloc (.cells #[.pointer (some ⟨4,275,none⟩),.pointer (some ⟨w.heap.size,0,none⟩),.int .u64 150] 279)).alloc (.cells #[.pointer (some ⟨4,275,none⟩),.pointer (some ⟨w.heap.size,0,none⟩),.int .u64 150] 279)).alloc (.cells #[.pointer (some e)] 137))
  (by rw [World.cell?_alloc_at _ _ _ _ (by simp)];rfl)
  (by rw [World.cell?_alloc_lt _ _ t (by simp;omega),World.cell?_alloc_lt _ _ t (by simp;omega),World.cell?_alloc_lt _ _ t (by simp;omega),World.cell?_alloc_lt _ _ t htl];exact ht0)
  (by rw [World.frozen?_alloc_old _ _ t (by simp;omega),World.frozen?_alloc_old _ _ t (by simp;omega),World.frozen?_alloc_old _ _ t (by simp;omega),World.frozen?_alloc_old _ _ t (Nat.ne_of_lt htl)];exact hf0)
 go_enter Tryz.func124,Tryz.ntmps124
 go_wp2
 refine wp_loop_rounds 1 ?_
 rw [rounds_succ]
 go_wp2
 go_ret
 exact ⟨rfl,rfl⟩
end Va
open Go Ai Go.Proofs
open Go.RowKit (Below)
namespace Va
def hdl:AV:=.iface 303 (.agg [.ptr (some (1,0))])
def loc0:Ai.Loc:=⟨0,0,1,false⟩
def loc1:Ai.Loc:=⟨4,34,35,false⟩
def locEq (a b:Ai.Loc):Bool:=Nat.beq a.b b.b&&Nat.beq a.sh b.sh&&Nat.beq a.tot b.tot&&(bif a.ex then b.ex else !b.ex)
def pinIn (A:Nat) (l:Ai.Loc):List (Nat×Ai.Loc)→Bool
 | []=>false
 | x::r=>(Nat.beq x.1 A&&locEq x.2 l)||pinIn A l r
def isRow (b:Option Blk) (cs:List AV):Bool:=match b with
 | some (.row cs' .ro)=>eqV (.agg cs') (.agg cs)
 | _=>false
theorem locEq_eq {a b:Ai.Loc} (h:locEq a b=true):a=b:=by
 obtain ⟨a1,a2,a3,a4⟩:=a
 obtain ⟨b1,b2,b3,b4⟩:=b
 simp only [locEq,Bool.and_eq_true] at h
 obtain ⟨⟨⟨h1,h2⟩,h3⟩,h4⟩:=h
 obtain rfl:=Nat.eq_of_beq_eq_true h1
 obtain rfl:=Nat.eq_of_beq_eq_true h2
 obtain rfl:=Nat.eq_of_beq_eq_true h3
 have:a4=b4:=by cases a4 <;> cases b4 <;> simp_all
 rw [this]
theorem pinIn_mem {A:Nat} {l:Ai.Loc}:∀ {p:List (Nat×Ai.Loc)},pinIn A l p=true→(A,l)∈p
 | [],h=>by cases h
 | x::r,h=>by
  simp only [pinIn,Bool.or_eq_true,Bool.and_eq_true] at h
  rcases h with ⟨h1,h2⟩ | h
  ·have e1:=Nat.eq_of_beq_eq_true h1
   have e2:=locEq_eq h2
   obtain ⟨x1,x2⟩:=x
   simp only at e1 e2
   rw [e1,e2];exact List.mem_cons_self
  ·exact List.mem_cons_of_mem _ (pinIn_mem h)
theorem isRow_eq {b:Option Blk} {cs:List AV} (h:isRow b cs=true):b=some (.row cs .ro):=by
 unfold isRow at h
 split at h
 ·have:=eqV_eq _ _ h
  simp only [AV.agg.injEq] at this
  rw [this]
 ·cases h
def rowOG (h:Heap) (A:Nat):Option (List AV×BState):=match h.t.get A with
 | some (.row cs st)=>match st with
  | .own=>some (cs,st)
  | .grown=>some (cs,st)
  | _=>none
 | _=>none
def asN:List AV→Heap→Option (AV×Heap)
 | [.iface t (.ptr (some p)),.iface t' (.ptr (some (A,off)))],h=>
  bif Nat.beq t 137&&Nat.beq t' 275&&pinIn 0 loc0 h.pins&&pinIn 1 loc1 h.pins&&isRow (h.t.get 0) [hdl] then
   match rowOG h A with
   | some (cs,st)=>match over off cs [.ptr (some p)] with
    | some cs'=>some (.bool true,h.put A (.row cs' st))
    | none=>none
   | none=>none
  else none
 | _,_=>none
theorem env0:EnvOK (envOf Tryz.prog [] noNative) Tryz.prog:=envOf_ok (by kernel_rfl) (by kernel_rfl)
theorem as_ok {args:List AV} {v:AV} {h h':Heap} (hx:asN args h=some (v,h')) {μ:Mu} {w:World} {args':Array Value} (hr:HR μ h w) (hv:VRs μ args args'.toList) :
  (callFunc 124 args').run Tryz.prog w=.ok (.enter 124 args') w∧Calls Tryz.prog 124 args' w fun e w'=>∃ u,e=.returned u∧Post μ h w v h' u w':=by
 refine ⟨enter_of env0 (fn:=Tryz.f124) (by kernel_rfl) (by kernel_rfl) _ _,?_⟩
 unfold asN at hx
 split at hx
 ·rename_i t p t' A off
  cases hb:(Nat.beq t 137&&Nat.beq t' 275&&pinIn 0 loc0 h.pins&&pinIn 1 loc1 h.pins&&isRow (h.t.get 0) [hdl]) with
  | false=>simp [hb] at hx
  | true=>
   simp only [hb,cond_true] at hx
   simp only [Bool.and_eq_true] at hb
   obtain ⟨⟨⟨⟨b1,b2⟩,b3⟩,b4⟩,b5⟩:=hb
   obtain rfl:=Nat.eq_of_beq_eq_true b1
   obtain rfl:=Nat.eq_of_beq_eq_true b2
   cases hw:rowOG h A with
   | none=>simp [hw] at hx
   | some q=>
    obtain ⟨cs,st⟩:=q
    simp only [hw] at hx
    cases ho:over off cs [.ptr (some p)] with
    | none=>simp [ho] at hx
    | some cs'=>
     simp only [ho,Option.some.injEq,Prod.mk.injEq] at hx
     obtain ⟨rfl,rfl⟩:=hx
     have hg:h.t.get A=some (.row cs st)∧(st=.own∨st=.grown):=by
      unfold rowOG at hw
      split at hw
      ·rename_i cs1 st1 hq
       split at hw
       ·simp only [Option.some.injEq,Prod.mk.injEq] at hw;obtain ⟨rfl,rfl⟩:=hw;exact ⟨hq,.inl rfl⟩
       ·simp only [Option.some.injEq,Prod.mk.injEq] at hw;obtain ⟨rfl,rfl⟩:=hw;exact ⟨hq,.inr rfl⟩
       ·cases hw
      ·cases hw
     obtain ⟨p1,p2⟩:=p
     simp only [VRs,VR] at hv
     obtain ⟨y1,ys1,e1,⟨x1,rfl,l1,hl1,rfl⟩,y2,ys2,e2,⟨x2,rfl,l2,hl2,rfl⟩,e3⟩:=hv
     subst e2 e3
     have ea:args' = #[.iface 137 (.pointer (some ⟨l1.b,l1.sh+p2,none⟩)),.iface 275 (.pointer (some ⟨l2.b,l2.sh+off,none⟩))]:=by rw [← Array.toList_inj,e1]
     subst ea
     have hc0:w.cell? ⟨0,0,none⟩=some (.iface 303 (.agg #[.pointer (some ⟨4,34,none⟩)])):=by
      have hm0:=hr.pin _ (pinIn_mem b3)
      have hm1:=hr.pin _ (pinIn_mem b4)
      have hrow:RowR μ w loc0 [hdl]:=hr.blk 0 loc0 _ hm0 (isRow_eq b5)
      obtain ⟨y,h1,h2⟩:=hrow.cell 0 hdl rfl
      simp only [hdl,VR,VRs] at h2
      obtain ⟨z,rfl,cs1,rfl,u,us,h4,⟨l,h5,rfl⟩,rfl⟩:=h2
      have hm1':μ 1=some loc1:=hm1
      rw [hm1'] at h5
      simp only [Option.some.injEq] at h5
      subst h5
      have:cs1 = #[.pointer (some ⟨4,34,none⟩)]:=by rw [← Array.toList_inj,h4];rfl
      rw [this] at h1
      exact h1
     have hvp:VRs μ [.ptr (some (p1,p2))] [.pointer (some ⟨l1.b,l1.sh+p2,none⟩)]:=VRs.cons (by simp only [VR];exact ⟨l1,hl1,rfl⟩) VRs.nil
     obtain ⟨w1,w2,_,_⟩:=hr.write hl2 hg.1 (hg.2.elim .inl fun e=>.inr (.inl e)) ho hvp
     have hold:=w1 0 (by simp)
     have hfz:=w2 0 (by simp)
     rw [Nat.add_zero] at hold hfz
     obtain ⟨old,hold⟩:=Option.isSome_iff_exists.1 hold
     refine (as_hit ⟨l1.b,l1.sh+p2,none⟩ ⟨l2.b,l2.sh+off,none⟩ old w hc0 hold hfz).mono ?_
     rintro e w' ⟨rfl,rfl⟩
     have hbel:Below w.heap.size w ((((w.alloc (.cells #[.pointer (some ⟨l2.b,l2.sh+off,none⟩)] 275)).alloc (.cells #[.pointer (some ⟨4,275,none⟩),.pointer (some ⟨w.heap.size,0,none⟩),.int .u64 150] 279)).alloc (.cells #[.pointer (some ⟨4,275,none⟩),.pointer (some ⟨w.heap.size,0,none⟩),.int .u64 150] 279)).alloc (.cells #[.pointer (some ⟨l1.b,l1.sh+p2,none⟩)] 137)):=
      ((((Below.refl _ w).alloc (Nat.le_refl _) _).alloc (by simp) _).alloc (by simp;omega) _).alloc (by simp;omega) _
     have hr4:=hr.below hbel
     obtain ⟨_,_,h5,h6⟩:=hr4.write hl2 hg.1 (hg.2.elim .inl fun e=>.inr (.inl e)) ho hvp
     exact ⟨_,rfl,μ,by simp [VR],h5,Ext.trans hr (Ext.of_below hbel) h6⟩
 ·cases hx
def idxL (c:UInt8):List UInt8→Nat→Int
 | [],_=>-1
 | x::r,k=>bif Nat.beq x.toNat c.toNat then .ofNat k else idxL c r (k+1)
theorem idxL_find (c:UInt8):∀ (s:List UInt8) (k:Nat),idxL c s k=(match (List.range s.length).find? fun i=>s.getD i 0 == c with | some i=>((k+i:Nat):Int) | none=>-1)
 | [],k=>rfl
 | x::r,k=>by
  rw [List.length_cons,List.range_succ_eq_map]
  by_cases hx:x=c
  ·subst hx
   have:Nat.beq x.toNat x.toNat=true:=Nat.beq_refl _
   simp only [idxL,this,cond_true,List.find?_cons,List.getD_cons_zero,beq_self_eq_true,Nat.add_zero]
   rfl
  ·have h1:Nat.beq x.toNat c.toNat=false:=by
    cases hq:Nat.beq x.toNat c.toNat with
    | false=>rfl
    | true=>exact absurd (UInt8.toNat.inj (Nat.eq_of_beq_eq_true hq)) hx
   have h2:(x == c)=false:=by simpa using hx
   simp only [idxL,h1,cond_false,List.find?_cons,List.getD_cons_zero,h2]
   rw [idxL_find c r (k+1),List.find?_map]
   simp only [Function.comp_def,List.getD_cons_succ]
   cases (List.range r.length).find? fun i=>r.getD i 0 == c with
   | none=>rfl
   | some i=>simp only [Option.map_some];congr 1;omega
theorem find_congr {α:Type} {p q:α→Bool}:∀ {l:List α},(∀ x∈l,p x=q x)→l.find? p=l.find? q
 | [],_=>rfl
 | x::r,h=>by
  simp only [List.find?_cons,h x List.mem_cons_self,find_congr fun y hy=>h y (List.mem_cons_of_mem _ hy)]
theorem firstIdx_eq (s:List UInt8) (c:UInt8):firstIdx ⟨s.toArray⟩ c=idxL c s 0:=by
 rw [idxL_find]
 unfold firstIdx
 have hs:(⟨s.toArray⟩:ByteArray).size=s.length:=rfl
 rw [hs]
 have hp:(List.range s.length).find? (fun i=>(⟨s.toArray⟩:ByteArray)[i]! == c)=(List.range s.length).find? (fun i=>s.getD i 0 == c):=by
  refine find_congr fun i hi=>?_
  have hi':i<s.length:=List.mem_range.1 hi
  have:(⟨s.toArray⟩:ByteArray)[i]! = s.getD i 0:=by
   rw [getElem!_pos (⟨s.toArray⟩:ByteArray) i hi']
   rw [List.getD_eq_getElem?_getD,List.getElem?_eq_getElem hi']
   rfl
  rw [this]
 rw [hp]
 cases (List.range s.length).find? fun i=>s.getD i 0 == c with
 | none=>rfl
 | some i=>simp
def idxN:List AV→Heap→Option (AV×Heap)
 | [.str s,.int .u8 c],h=>some (.int .i64 (idxL c.toNat.toUInt8 s 0),h)
 | _,_=>none
theorem idx_ok {args:List AV} {v:AV} {h h':Heap} (hx:idxN args h=some (v,h')) {μ:Mu} {w:World} {args':Array Value} (hr:HR μ h w) (hv:VRs μ args args'.toList) :
  ∃ u w',(callFunc 221 args').run Tryz.prog w=.ok (.value u) w'∧Post μ h w v h' u w':=by
 unfold idxN at hx
 split at hx
 ·rename_i s c
  simp only [Option.some.injEq,Prod.mk.injEq] at hx
  obtain ⟨rfl,rfl⟩:=hx
  simp only [VRs,VR] at hv
  obtain ⟨y1,ys1,e1,rfl,y2,ys2,e2,rfl,e3⟩:=hv
  subst e2 e3
  have ea:args' = #[.string ⟨s.toArray⟩,.int .u8 c]:=by rw [← Array.toList_inj,e1]
  subst ea
  refine ⟨.int .i64 (idxL c.toNat.toUInt8 s 0),w,?_,μ,by simp only [VR],hr,Ext.refl μ h w⟩
  have h1:=@run_callFunc_extern Tryz.prog 221 _ Extern.BytealgIndexByte.indexByte Tryz.func221 (by kernel_rfl) (by kernel_rfl) (by kernel_rfl) (by kernel_rfl) #[.string ⟨s.toArray⟩,.int .u8 c] w
  rw [h1,run_indexByte_string,firstIdx_eq]
  rfl
 ·cases hx
def nat:FuncId→Option (List AV→Heap→Option (AV×Heap)):=fun f=>bif Nat.beq f 124 then some asN else bif Nat.beq f 221 then some idxN else none
theorem natOK {cmp:List TypeId}:NativeOK (envOf Tryz.prog cmp nat) Tryz.prog:=by
 intro f g hg args h v h' hx μ w args' hr hv
 have hg':nat f=some g:=hg
 unfold nat at hg'
 cases hf:Nat.beq f 124 with
 | true=>
  simp only [hf,cond_true,Option.some.injEq] at hg'
  subst hg'
  obtain rfl:=Nat.eq_of_beq_eq_true hf
  exact .inr (as_ok hx hr hv)
 | false=>
  simp only [hf,cond_false] at hg'
  cases hf2:Nat.beq f 221 with
  | false=>simp [hf2] at hg'
  | true=>
   simp only [hf2,cond_true,Option.some.injEq] at hg'
   subst hg'
   obtain rfl:=Nat.eq_of_beq_eq_true hf2
   exact .inl (idx_ok hx hr hv)
end Va
set_option maxRecDepth 100000
namespace Vt
noncomputable def E:Env:=envOf Tryz.prog [25,145] Va.nat
theorem envOK:EnvOK E Tryz.prog:=envOf_ok (by kernel_rfl) (by kernel_rfl)
theorem natOK:NativeOK E Tryz.prog:=Va.natOK
theorem hmix:Tryz.prog.follows .mixedOrders=true:=by kernel_rfl
noncomputable def f228 (N:Nat) (a0:Int) (a1:Int) (h:Heap):Option (Int×Heap):=
 let x1:Int:=wrapA .u64 a1
 (bindV (.val (.one (.int .u64))) (bitsA .and .u64 x1 31) fun (x2:Int)=>
 (bindV (.val (.one (.int .u32))) (shiftA .shl .u32 a0 x2) fun (x3:Int)=>
 let x4:Int:=wrapA .u64 (32-x2)
 (bindV (.val (.one (.int .u32))) (shiftA .shr .u32 a0 x4) fun (x5:Int)=>
 (bindV (.val (.one (.int .u32))) (bitsA .or .u32 x3 x5) fun (x6:Int)=>
 some (x6,h)))))
noncomputable def ann228:Ann:=.n
theorem f228_ok (N:Nat):FnOK Tryz.prog 228 [(.one (.int .u32)),(.one (.int .i64))] (.val (.one (.int .u32))) (fun x h=>f228 N x.1 x.2.1 h):=
 runK_ok envOK hmix noCalls_ok (N:=N) (x:=ann228) (fn:=Tryz.f228) (c:=Tryz.f228.body.getD .skip) (by kernel_rfl) (by kernel_rfl) (by kernel_rfl) (by kernel_rfl) (fun _ _=>by kernel_rfl)
noncomputable def f206 (N:Nat) (a0:Int) (a1:Int) (h:Heap):Option (Int×Heap):=
 let x1:Int:=wrapA .i64 (0-a1)
 (bind2 (f228 N a0 x1 h) fun (x2:Int) h3=>
 some (x2,h3))
noncomputable def ann206:Ann:=.n
theorem f206_ok (N:Nat):FnOK Tryz.prog 206 [(.one (.int .u32)),(.one (.int .i64))] (.val (.one (.int .u32))) (fun x h=>f206 N x.1 x.2.1 h):=
 runK_ok envOK hmix (addCall_ok (f228_ok N) noCalls_ok) (N:=N) (x:=ann206) (fn:=Tryz.f206) (c:=Tryz.f206.body.getD .skip) (by kernel_rfl) (by kernel_rfl) (by kernel_rfl) (by kernel_rfl) (fun _ _=>by kernel_rfl)
end Vt
namespace Vu
open Va
def by_:List Int→List AV
 | []=>[]
 | x::r=>.int .u8 x::by_ r
def in1:List AV:=by_ [1,128,1,0]
def in2:List AV:=by_ [3,0,40,4,85,86,69,82,80,0,0,0,0,0,0,0,0,0,0,0,0,0,0,0,0,0,0,0,0,0,0,0,0,0,0,0,0,0,0,0,0,0,0]
def out1:List Int:=[193,241,71,191,99,202,78,34,34,113,104,26,251,83,46,175,141,62,250,183,158,208,101,169,125,131,34,229,245,104,226,145]
def out2:List Int:=[20,23,52,215,167,202,165,126,37,121,109,127,31,220,102,226,90,209,109,214,202,254,159,4,190,13,248,235,248,142,233,245]
theorem hmixU:Tryz.prog.follows .mixedOrders=true:=by kernel_rfl
noncomputable def callsU:CallK:=addCall 206 [(.one (.int .u32)),(.one (.int .i64))] (.val (.one (.int .u32))) (fun x h=>Vt.f206 0 x.1 x.2.1 h) noCalls
theorem callsU_ok:CallKOK Tryz.prog callsU:=addCall_ok (Vt.f206_ok 0) noCalls_ok
noncomputable def nat1:FuncId→Option (List AV→Heap→Option (AV×Heap)):=natsOf [206] callsU Va.nat
theorem nat1_ok {cmp:List TypeId}:NativeOK (envOf Tryz.prog cmp nat1) Tryz.prog:=natsOf_ok (cmp:=[]) callsU_ok Va.natOK
noncomputable def E1:Env:=envOf Tryz.prog [25,145] nat1
theorem E1_ok:EnvOK E1 Tryz.prog:=envOf_ok (by kernel_rfl) (by kernel_rfl)
def hS (cs:List AV):Heap:={ t:=Tr.set .nil 0 (.row cs .ro),next:=1,pins:=[] }
def isAggA (x:Option (AV×Heap)) (cs:List AV):Bool:=match x with
 | some (v,_)=>eqV v (.agg cs)
 | none=>false
theorem sum1:isAggA (evCall E1 3000 126 [.slice (some (0,0)) 4 4 1] (hS in1)) (by_ out1)=true:=by kernel_rfl
theorem sum2:isAggA (evCall E1 3000 126 [.slice (some (0,0)) 43 43 1] (hS in2)) (by_ out2)=true:=by kernel_rfl
theorem vr_by {μ μ':Mu}:∀ (l:List Int) {v:List Value},VRs μ (by_ l) v→VRs μ' (by_ l) v
 | [],v,h=>by simpa only [by_,VRs] using h
 | x::r,v,h=>by
  simp only [by_,VRs,VR] at h ⊢
  obtain ⟨y,ys,h1,h2,h3⟩:=h
  exact ⟨y,ys,h1,h2,vr_by r h3⟩
theorem by_get:∀ (l:List Int) {i:Nat} {x:AV},(by_ l)[i]? = some x→∃ n,x=.int .u8 n
 | y::r,0,x,h=>⟨y,(Option.some.inj h).symm⟩
 | y::r,i+1,x,h=>by_get r (by simpa [by_] using h)
 | [],i,x,h=>by simp [by_] at h
theorem hS_rof (cs:List AV):Rof (hS cs):=by
 have inv:∀ {A:Nat} {b:Blk},(hS cs).t.get A=some b→A=0∧b=.row cs .ro:=fun {A b} h=>by
  rcases Tr.get_set h with h | ⟨_,h⟩
  ·exact h
  ·simp [Tr.get_nil] at h
 refine ⟨fun A b hA=>?_,fun A hA=>?_⟩
 ·obtain ⟨_,rfl⟩:=inv hA;exact ⟨_,rfl⟩
 ·cases hb:(hS cs).t.get A with
  | none=>rfl
  | some b=>
   have:=(inv hb).1
   have h1:(1:Nat)≤A:=hA
   omega
theorem rowR_of {μ:Mu} {w:World} {l:Ai.Loc} {b:Blk} {cs:List AV} (h:rowB (some b)=some cs) (hb:BR μ w l b):RowR μ w l cs:=by
 unfold rowB at h
 split at h <;> simp_all only [Option.some.injEq,reduceCtorEq] <;> subst_vars <;> simp only [BR] at hb
 ·exact hb.1
 ·exact hb.1
 ·exact hb.1.1
 ·exact hb.1.1
 ·exact hb
theorem sum_of {n:Nat} {ins outs:List Int} (he:isAggA (evCall E1 3000 126 [.slice (some (0,0)) n n 1] (hS (by_ ins))) (by_ outs)=true) {A:Nat} {h:Heap} {μ:Mu} {w:World} {args':Array Value} (hr:HR μ h w) (hv:VRs μ [.slice (some (A,0)) n n 1] args'.toList) (hrow:rowB (h.t.get A)=some (by_ ins)) :
  Calls Tryz.prog 126 args' w fun e w'=>∃ u,e=.returned u∧Post μ h w (.agg (by_ outs)) h u w':=by
 simp only [VRs,VR] at hv
 obtain ⟨y,ys,hy,⟨l,a',cap',hl,hyv,hle,hor⟩,rfl⟩:=hv
 have hv0:VRs (fun B=>if B=0 then some l else none) [.slice (some (0,0)) n n 1] args'.toList:=by
  simp only [VRs,VR]
  exact ⟨y,[],hy,⟨l,a',cap',by simp,hyv,hle,hor⟩,rfl⟩
 cases hg:h.t.get A with
 | none=>rw [hg] at hrow;cases hrow
 | some b=>
  rw [hg] at hrow
  have R:=rowR_of hrow (hr.blk A l b hl hg)
  have hr0:HR (fun B=>if B=0 then some l else none) (hS (by_ ins)) w:=by
   refine ⟨fun B l' hB=>?_,fun B C lb lc bb bc hB hC _ _ _ _ hne=>?_,fun B l' b' hB hb=>?_,fun x hx=>by cases hx⟩
   ·split at hB
    ·rename_i hB0
     cases hB
     exact ⟨by rw [hB0];exact Nat.lt_succ_self 0,(hr.dom A l hl).2⟩
    ·cases hB
   ·split at hB
    ·split at hC
     ·omega
     ·cases hC
    ·cases hB
   ·split at hB
    ·rename_i hB0
     cases hB
     subst hB0
     have hb':(hS (by_ ins)).t.get 0=some (.row (by_ ins) .ro):=Tr.get_set_same
     rw [hb'] at hb
     cases hb
     refine ⟨R.shape,R.fits,fun i x hx=>?_⟩
     obtain ⟨k,rfl⟩:=by_get ins hx
     obtain ⟨y,h1,h2⟩:=R.cell i _ hx
     exact ⟨y,h1,by simpa only [VR] using h2⟩
    ·cases hB
  cases ht:evCall E1 3000 126 [.slice (some (0,0)) n n 1] (hS (by_ ins)) with
  | none=>rw [ht] at he;cases he
  | some q=>
   obtain ⟨v2,h2⟩:=q
   rw [ht] at he
   have hv2:v2=.agg (by_ outs):=eqV_eq _ _ he
   subst hv2
   refine (evCall_sound E1_ok hmixU nat1_ok (fn:=Tryz.f126) (by kernel_rfl) (by kernel_rfl) ht hr0 hv0).mono ?_
   rintro e w' ⟨u,rfl,μ',h3,_,h5⟩
   have hbel:=(hS_rof _).ext_below h5
   simp only [VR] at h3
   obtain ⟨cs',rfl,h3⟩:=h3
   exact ⟨_,rfl,μ,by simp only [VR];exact ⟨cs',rfl,vr_by outs h3⟩,hr.below hbel,Ext.of_below hbel⟩
def sumN:List AV→Heap→Option (AV×Heap)
 | [.slice (some (A,0)) 4 4 1],h=>match rowB (h.t.get A) with
  | some cs=>bif eqV (.agg cs) (.agg in1) then some (.agg (by_ out1),h) else none
  | none=>none
 | [.slice (some (A,0)) 43 43 1],h=>match rowB (h.t.get A) with
  | some cs=>bif eqV (.agg cs) (.agg in2) then some (.agg (by_ out2),h) else none
  | none=>none
 | _,_=>none
theorem sum_ok {args:List AV} {v:AV} {h h':Heap} (hx:sumN args h=some (v,h')) {μ:Mu} {w:World} {args':Array Value} (hr:HR μ h w) (hv:VRs μ args args'.toList) :
  (callFunc 126 args').run Tryz.prog w=.ok (.enter 126 args') w∧Calls Tryz.prog 126 args' w fun e w'=>∃ u,e=.returned u∧Post μ h w v h' u w':=by
 refine ⟨enter_of env0 (fn:=Tryz.f126) (by kernel_rfl) (by kernel_rfl) _ _,?_⟩
 have fin:∀ {n:Nat} {ins outs:List Int} {A:Nat},isAggA (evCall E1 3000 126 [.slice (some (0,0)) n n 1] (hS (by_ ins))) (by_ outs)=true→(match rowB (h.t.get A) with | some cs=>bif eqV (.agg cs) (.agg (by_ ins)) then some (AV.agg (by_ outs),h) else none | none=>none)=some (v,h')→VRs μ [.slice (some (A,0)) n n 1] args'.toList→Calls Tryz.prog 126 args' w fun e w'=>∃ u,e=.returned u∧Post μ h w v h' u w':=fun {n ins outs A} he hx hv=>by
  cases hrow:rowB (h.t.get A) with
  | none=>rw [hrow] at hx;cases hx
  | some cs=>
   rw [hrow] at hx
   simp only at hx
   cases hq:eqV (.agg cs) (.agg (by_ ins)) with
   | false=>rw [hq] at hx;cases hx
   | true=>
    rw [hq,cond_true] at hx
    cases hx
    have:=eqV_eq _ _ hq
    simp only [AV.agg.injEq] at this
    subst this
    exact sum_of he hr hv hrow
 unfold sumN at hx
 split at hx
 ·exact fin sum1 hx hv
 ·exact fin sum2 hx hv
 ·cases hx
def nat2:FuncId→Option (List AV→Heap→Option (AV×Heap)):=fun f=>bif Nat.beq f 126 then some sumN else Va.nat f
theorem nat2OK {cmp:List TypeId}:NativeOK (envOf Tryz.prog cmp nat2) Tryz.prog:=by
 intro f g hg args h v h' hx μ w args' hr hv
 have hg':nat2 f=some g:=hg
 unfold nat2 at hg'
 cases hf:Nat.beq f 126 with
 | true=>
  simp only [hf,cond_true,Option.some.injEq] at hg'
  subst hg'
  obtain rfl:=Nat.eq_of_beq_eq_true hf
  exact .inr (sum_ok hx hr hv)
 | false=>
  simp only [hf,cond_false] at hg'
  exact Va.natOK (cmp:=cmp) f g hg' args h v h' hx μ w args' hr hv
end Vu
namespace Vx
open Va
theorem hmix:Tryz.prog.follows .mixedOrders=true:=by kernel_rfl
noncomputable def E2:Env:=envOf Tryz.prog [25,145] Vu.nat2
theorem E2_ok:EnvOK E2 Tryz.prog:=envOf_ok (by kernel_rfl) (by kernel_rfl)
def h0:Heap:={ t:=Tr.set .nil 0 (.row [hdl] .ro),next:=2,pins:=[(0,loc0),(1,loc1)] }
theorem told_true:isTrueA (evCall E2 3000 6 [] h0)=true:=by kernel_rfl
def mu0:Mu:=fun A=>if A=0 then some loc0 else if A=1 then some loc1 else none
theorem mu0_inv {A:Nat} {l:Ai.Loc} (h:mu0 A=some l):(A=0∧l=loc0)∨(A=1∧l=loc1):=by
 unfold mu0 at h
 split at h
 ·cases h;exact .inl ⟨by assumption,rfl⟩
 ·split at h
  ·cases h;exact .inr ⟨by assumption,rfl⟩
  ·cases h
theorem h0_inv {A:Nat} {b:Blk} (h:h0.t.get A=some b):A=0∧b=.row [hdl] .ro:=by
 rcases Tr.get_set h with h | ⟨_,h⟩
 ·exact h
 ·simp [Tr.get_nil] at h
theorem h0_rof:Rof h0:=by
 refine ⟨fun A b hA=>?_,fun A hA=>?_⟩
 ·obtain ⟨_,rfl⟩:=h0_inv hA;exact ⟨_,rfl⟩
 ·cases hb:h0.t.get A with
  | none=>rfl
  | some b=>
   have:=(h0_inv hb).1
   have h1:(2:Nat)≤A:=hA
   omega
theorem hr0_of {w:World} (hs:4<w.heap.size) {e:TypeId} (hsh:w.shape? 0=some (e,1)) (hc:w.cell? ⟨0,0,none⟩=some (.iface 303 (.agg #[.pointer (some ⟨4,34,none⟩)]))):HR mu0 h0 w:=by
 refine ⟨fun A l hA=>?_,fun A B la lb ba bb hA hB gA gB _ _ hne=>?_,fun A l b hA hb=>?_,fun x hx=>?_⟩
 ·rcases mu0_inv hA with ⟨rfl,rfl⟩ | ⟨rfl,rfl⟩
  ·exact ⟨by show 0<2;omega,by show 0<w.heap.size;omega⟩
  ·exact ⟨by show 1<2;omega,hs⟩
 ·exact absurd ((h0_inv gA).1.trans (h0_inv gB).1.symm) hne
 ·obtain ⟨rfl,rfl⟩:=h0_inv hb
  rcases mu0_inv hA with ⟨_,rfl⟩ | ⟨h,_⟩
  ·refine ⟨⟨e,hsh⟩,Nat.le_refl _,fun i x hx=>?_⟩
   cases i with
   | zero=>
    have:x=hdl:=by simpa using hx.symm
    subst this
    refine ⟨_,hc,?_⟩
    simp only [hdl,VR,VRs]
    exact ⟨_,rfl,_,rfl,_,[],rfl,⟨loc1,rfl,rfl⟩,rfl⟩
   | succ i=>simp at hx
  ·cases h
 ·rcases List.mem_cons.1 hx with rfl | hx
  ·rfl
  ·rw [List.mem_singleton.1 hx];rfl
def pinned (h:Heap):Bool:=pinIn 0 loc0 h.pins&&pinIn 1 loc1 h.pins&&isRow (h.t.get 0) [hdl]
theorem hr0_from {μ:Mu} {h:Heap} {w:World} (hr:HR μ h w) (hp:pinned h=true):HR mu0 h0 w:=by
 simp only [pinned,Bool.and_eq_true] at hp
 obtain ⟨⟨b3,b4⟩,b5⟩:=hp
 have hm0:=hr.pin _ (pinIn_mem b3)
 have hm1:=hr.pin _ (pinIn_mem b4)
 have hrow:RowR μ w loc0 [hdl]:=hr.blk 0 loc0 _ hm0 (isRow_eq b5)
 obtain ⟨y,h1,h2⟩:=hrow.cell 0 hdl rfl
 simp only [hdl,VR,VRs] at h2
 obtain ⟨z,rfl,cs1,rfl,u,us,h4,⟨l,h5,rfl⟩,rfl⟩:=h2
 have hm1':μ 1=some loc1:=hm1
 rw [hm1'] at h5
 simp only [Option.some.injEq] at h5
 subst h5
 have:cs1 = #[.pointer (some ⟨4,34,none⟩)]:=by rw [← Array.toList_inj,h4];rfl
 rw [this] at h1
 obtain ⟨e,he⟩:=hrow.shape
 exact hr0_of (hr.dom 1 loc1 hm1).2 he h1
def toldN:List AV→Heap→Option (AV×Heap)
 | [],h=>bif pinned h then some (.bool true,h) else none
 | _,_=>none
theorem toldN_ok {args:List AV} {v:AV} {h h':Heap} (hx:toldN args h=some (v,h')) {μ:Mu} {w:World} {args':Array Value} (hr:HR μ h w) (hv:VRs μ args args'.toList) :
  (callFunc 6 args').run Tryz.prog w=.ok (.enter 6 args') w∧Calls Tryz.prog 6 args' w fun e w'=>∃ u,e=.returned u∧Post μ h w v h' u w':=by
 refine ⟨enter_of env0 (fn:=Tryz.f6) (by kernel_rfl) (by kernel_rfl) _ _,?_⟩
 unfold toldN at hx
 split at hx
 ·cases hp:pinned _ with
  | false=>rw [hp] at hx;cases hx
  | true=>
   rw [hp] at hx
   simp only [cond_true,Option.some.injEq,Prod.mk.injEq] at hx
   obtain ⟨rfl,rfl⟩:=hx
   have hr0:=hr0_from hr hp
   have hv0:VRs mu0 [] args'.toList:=by simpa [VRs] using hv
   cases ht:evCall E2 3000 6 [] h0 with
   | none=>have:=told_true;rw [ht] at this;cases this
   | some q=>
    obtain ⟨v2,h2⟩:=q
    have ht2:=told_true
    rw [ht] at ht2
    cases v2 <;> simp only [isTrueA,Bool.false_eq_true] at ht2
    subst ht2
    refine (evCall_sound E2_ok hmix Vu.nat2OK (fn:=Tryz.f6) (by kernel_rfl) (by kernel_rfl) ht hr0 hv0).mono ?_
    rintro e w' ⟨u,rfl,μ',h3,_,h5⟩
    have hbel:=h0_rof.ext_below h5
    simp only [VR] at h3
    exact ⟨u,rfl,μ,by simp only [VR];exact h3,hr.below hbel,Ext.of_below hbel⟩
 ·cases hx
def toldF (h:Heap):Option (Bool×Heap):=bif pinned h then some (true,h) else none
theorem f6_ok (_N:Nat):FnOK Tryz.prog 6 [] (.val (.one .bool)) (fun _ h=>toldF h):=by
 intro xs h r h' hx0 μ w args' hr hv
 have hx:toldF h=some (r,h'):=hx0
 have hn:toldN [] h=some (.bool r,h'):=by
  unfold toldF at hx
  unfold toldN
  cases hp:pinned h with
  | false=>rw [hp] at hx;cases hx
  | true=>
   rw [hp] at hx
   simp only [cond_true,Option.some.injEq,Prod.mk.injEq] at hx
   obtain ⟨rfl,rfl⟩:=hx
   show (bif pinned h then some (AV.bool true,h) else none)=_
   rw [hp];rfl
 exact toldN_ok hn hr hv
end Vx
namespace Vw
open Go.RowKit
def cmpI (x y:Int):Int:=if x<y then -1 else if y<x then 1 else 0
theorem nan (x:Int) (w:World):Calls Tryz.prog 192 #[.int .i64 x] w fun e w'=>e=.returned (.bool false)∧w'=w:=by
 go_enter Tryz.func192,Tryz.ntmps192
 go_wp2
 all_goals (go_ret;exact ⟨rfl,rfl⟩)
theorem cmp_walk (x y:Int) (w:World):Calls Tryz.prog 161 #[.int .i64 x,.int .i64 y] w fun e w'=>e=.returned (.int .i64 (cmpI x y))∧w'=w:=by
 go_enter Tryz.func161,Tryz.ntmps161
 go_wp2_with (go_at_call 192;refine (nan _ _).mono ?_;rintro e w' ⟨rfl,rfl⟩)
 ·go_ret;exact ⟨by show Ending.returned (Value.int .i64 (-1))=_;rw [show cmpI x y = -1 by unfold cmpI;rw [if_pos (by omega)]],rfl⟩
 ·go_ret;exact ⟨by show Ending.returned (Value.int .i64 1)=_;rw [show cmpI x y=1 by unfold cmpI;rw [if_neg (by omega),if_pos (by omega)]],rfl⟩
 ·go_ret;exact ⟨by show Ending.returned (Value.int .i64 0)=_;rw [show cmpI x y=0 by unfold cmpI;rw [if_neg (by omega),if_neg (by omega)]],rfl⟩
def firstI:List Int→Int
 | []=>0
 | x::r=>bif x != 0 then x else firstI r
theorem or_walk (b:Nat) (a0 a1 a2 a3:Int) (w:World) (h0:w.cell? ⟨b,0,none⟩=some (.int .i64 a0)) (h1:w.cell? ⟨b,1,none⟩=some (.int .i64 a1)) (h2:w.cell? ⟨b,2,none⟩=some (.int .i64 a2)) (h3:w.cell? ⟨b,3,none⟩=some (.int .i64 a3)) :
  Calls Tryz.prog 160 #[.slice (some ⟨b,0,none⟩) 4 4] w fun e w'=>e=.returned (.int .i64 (firstI [a0,a1,a2,a3]))∧w'=w:=by
 go_enter Tryz.func160,Tryz.ntmps160
 go_wp2
 refine wp_loop_rounds 5 ?_
 repeat any_goals (rw [rounds_succ];go_wp2)
 all_goals go_ret
 all_goals (refine ⟨?_,rfl⟩)
 ·have q:(a0 != 0)=true:=by assumption
  exact congrArg (fun v=>Ending.returned (Value.int .i64 v)) (show a0=firstI [a0,a1,a2,a3] by simp only [firstI,q,cond_true])
 ·have q0:(a0 != 0)=false:=by assumption
  have q:(a1 != 0)=true:=by assumption
  exact congrArg (fun v=>Ending.returned (Value.int .i64 v)) (show a1=firstI [a0,a1,a2,a3] by simp only [firstI,q0,q,cond_true,cond_false])
 ·have q0:(a0 != 0)=false:=by assumption
  have q1:(a1 != 0)=false:=by assumption
  have q:(a2 != 0)=true:=by assumption
  exact congrArg (fun v=>Ending.returned (Value.int .i64 v)) (show a2=firstI [a0,a1,a2,a3] by simp only [firstI,q0,q1,q,cond_true,cond_false])
 ·have q0:(a0 != 0)=false:=by assumption
  have q1:(a1 != 0)=false:=by assumption
  have q2:(a2 != 0)=false:=by assumption
  have q:(a3 != 0)=true:=by assumption
  exact congrArg (fun v=>Ending.returned (Value.int .i64 v)) (show a3=firstI [a0,a1,a2,a3] by simp only [firstI,q0,q1,q2,q,cond_true,cond_false])
 ·have q0:(a0 != 0)=false:=by assumption
  have q1:(a1 != 0)=false:=by assumption
  have q2:(a2 != 0)=false:=by assumption
  have q:(a3 != 0)=false:=by assumption
  exact congrArg (fun v=>Ending.returned (Value.int .i64 v)) (show 0=firstI [a0,a1,a2,a3] by simp only [firstI,q0,q1,q2,q,cond_false])
theorem cell3 (w:World) (o1 o2:Obj) (cs:Array Value) (e:TypeId) (i:Nat):((((w.alloc o1).alloc o2).alloc (.cells cs e)).drew).cell? ⟨w.heap.size+1+1,i,none⟩=cs[i]?:=by
 have hg:((((w.alloc o1).alloc o2).alloc (.cells cs e)).drew).heap[w.heap.size+1+1]? = some (.cells cs e):=by
  show (((w.heap.push o1).push o2).push (.cells cs e))[w.heap.size+1+1]? = _
  rw [Array.getElem?_push];simp
 simp only [World.cell?,hg]
 rfl
theorem grow3 (w:World) (o1 o2 o3:Obj):(((w.alloc o1).alloc o2).alloc o3).drew=Go.Sort.grow (w.drewN 1) #[o1,o2,o3]:=by
 have:((w.heap.push o1).push o2).push o3=w.heap++#[o1,o2,o3]:=by
  rw [← Array.toList_inj];simp
 show ({ w with heap:=((w.heap.push o1).push o2).push o3,drawn:=w.drawn+1 }:World) = { w with heap:=w.heap++#[o1,o2,o3],drawn:=w.drawn+1 }
 rw [this]
set_option maxHeartbeats 4000000 in
theorem sort1_walk (a b c d a' b' c' d':Int) (w:World):Calls Tryz.prog 159 #[.agg #[.int .i64 a,.int .i64 b,.int .i64 c,.int .i64 d],.agg #[.int .i64 a',.int .i64 b',.int .i64 c',.int .i64 d']] w fun e w'=>e=.returned (.int .i64 (firstI [cmpI a a',cmpI b b',cmpI c c',cmpI d d']))∧∃ q os',w'=Go.Sort.grow (w.drewN q) os':=by
 have hor:=or_walk (w.heap.size+1+1) (cmpI a a') (cmpI b b') (cmpI c c') (cmpI d d') ((((w.alloc (.cells #[.int .i64 a,.int .i64 b,.int .i64 c,.int .i64 d] 145)).alloc (.cells #[.int .i64 a',.int .i64 b',.int .i64 c',.int .i64 d'] 145)).alloc (.cells #[.int .i64 (cmpI a a'),.int .i64 (cmpI b b'),.int .i64 (cmpI c c'),.int .i64 (cmpI d d')] 3)).drew)
  (cell3 w _ _ _ _ 0) (cell3 w _ _ _ _ 1) (cell3 w _ _ _ _ 2) (cell3 w _ _ _ _ 3)
 go_enter Tryz.func159,Tryz.ntmps159
 go_wp2
 go_region_held3 (fun w'=>w'.cell? ⟨w.heap.size,0,none⟩=some (.int .i64 a)∧w'.cell? ⟨w.heap.size,1,none⟩=some (.int .i64 b)∧w'.cell? ⟨w.heap.size,2,none⟩=some (.int .i64 c)∧w'.cell? ⟨w.heap.size,3,none⟩=some (.int .i64 d)∧w'.cell? ⟨w.heap.size+1,0,none⟩=some (.int .i64 a')∧w'.cell? ⟨w.heap.size+1,1,none⟩=some (.int .i64 b')∧w'.cell? ⟨w.heap.size+1,2,none⟩=some (.int .i64 c')∧w'.cell? ⟨w.heap.size+1,3,none⟩=some (.int .i64 d')) (go_keep)
  (first | (go_at_call 161;refine (cmp_walk _ _ _).mono ?_;rintro e w' ⟨rfl,rfl⟩) | (go_at_call 160;refine hor.mono ?_;rintro e w' ⟨rfl,rfl⟩))
 all_goals go_wp2
 all_goals (go_ret;exact ⟨rfl,1,_,grow3 w _ _ _⟩)
end Vw
namespace Vw
open Go.Shelf
def Tryz.laysSF_ren:Go.Shelf.Ren:=⟨fun | 6=>158 | 15=>191 | 14=>190 | 28=>219 | 29=>220 | 20=>211 | 21=>212 | 22=>213 | 23=>214 | 24=>215 | 25=>216 | 26=>217 | 27=>218 | 46=>232 | 47=>233 | 48=>234 | 49=>235 | 50=>236 | 57=>244 | n=>n,fun | 22=>30 | 24=>145 | 25=>265 | 3=>3 | 39=>142 | 0=>0 | 53=>187 | 55=>84 | 4=>4 | 46=>321 | 45=>320 | 50=>325 | 5=>5 | 9=>9 | 66=>334 | 70=>195 | 76=>341 | 77=>93 | n=>n,fun | n=>n⟩
theorem Tryz.laysSF:Go.Proofs.SlLaysF0.n6 Tryz.prog Tryz.laysSF_ren:={
 mixed:=by kernel_rfl
 f6:=⟨Tryz.f158.name,by decide,Tryz.func158.trans (congrArg some (by kernel_rfl))⟩
 f14:=⟨Tryz.f190.name,by decide,Tryz.func190.trans (congrArg some (by kernel_rfl))⟩
 f15:=Tryz.func191.trans (congrArg some (by kernel_rfl))
 f20:=⟨Tryz.f211.name,by decide,Tryz.func211.trans (congrArg some (by kernel_rfl))⟩
 f21:=⟨Tryz.f212.name,by decide,Tryz.func212.trans (congrArg some (by kernel_rfl))⟩
 f22:=⟨Tryz.f213.name,by decide,Tryz.func213.trans (congrArg some (by kernel_rfl))⟩
 f23:=⟨Tryz.f214.name,by decide,Tryz.func214.trans (congrArg some (by kernel_rfl))⟩
 f24:=⟨Tryz.f215.name,by decide,Tryz.func215.trans (congrArg some (by kernel_rfl))⟩
 f25:=⟨Tryz.f216.name,by decide,Tryz.func216.trans (congrArg some (by kernel_rfl))⟩
 f26:=⟨Tryz.f217.name,by decide,Tryz.func217.trans (congrArg some (by kernel_rfl))⟩
 f27:=⟨Tryz.f218.name,by decide,Tryz.func218.trans (congrArg some (by kernel_rfl))⟩
 f28:=Tryz.func219.trans (congrArg some (by kernel_rfl))
 f29:=Tryz.func220.trans (congrArg some (by kernel_rfl))
 f46:=⟨Tryz.f232.name,by decide,Tryz.func232.trans (congrArg some (by kernel_rfl))⟩
 f47:=Tryz.func233.trans (congrArg some (by kernel_rfl))
 f48:=Tryz.func234.trans (congrArg some (by kernel_rfl))
 f49:=⟨Tryz.f235.name,by decide,Tryz.func235.trans (congrArg some (by kernel_rfl))⟩
 f50:=⟨Tryz.f236.name,by decide,Tryz.func236.trans (congrArg some (by kernel_rfl))⟩
 f57:=⟨Tryz.f244.name,by decide,Tryz.func244.trans (congrArg some (by kernel_rfl))⟩
 t0:=Tryz.underlying0
 a0:=Tryz.isAgg0
 z0:=Tryz.sizeOf0
 v0:=Tryz.zeroValue0
 t3:=Tryz.underlying3
 a3:=Tryz.isAgg3
 z3:=Tryz.sizeOf3
 v3:=Tryz.zeroValue3
 t4:=Tryz.underlying4
 a4:=Tryz.isAgg4
 z4:=Tryz.sizeOf4
 v4:=Tryz.zeroValue4
 t5:=Tryz.underlying5
 a5:=Tryz.isAgg5
 z5:=Tryz.sizeOf5
 v5:=Tryz.zeroValue5
 t9:=Tryz.underlying9
 a9:=Tryz.isAgg9
 z9:=Tryz.sizeOf9
 v9:=Tryz.zeroValue9
 t22:=Tryz.underlying30
 a22:=Tryz.isAgg30
 z22:=Tryz.sizeOf30
 v22:=Tryz.zeroValue30
 t25:=Tryz.underlying265
 a25:=Tryz.isAgg265
 z25:=Tryz.sizeOf265
 v25:=Tryz.zeroValue265
 t39:=Tryz.underlying142
 a39:=Tryz.isAgg142
 z39:=Tryz.sizeOf142
 v39:=Tryz.zeroValue142
 t45:=Tryz.underlying320
 a45:=Tryz.isAgg320
 z45:=Tryz.sizeOf320
 v45:=Tryz.zeroValue320
 t46:=Tryz.underlying321
 a46:=Tryz.isAgg321
 z46:=Tryz.sizeOf321
 v46:=Tryz.zeroValue321
 t50:=Tryz.underlying325
 a50:=Tryz.isAgg325
 z50:=Tryz.sizeOf325
 v50:=Tryz.zeroValue325
 t53:=Tryz.underlying187
 a53:=Tryz.isAgg187
 z53:=Tryz.sizeOf187
 v53:=Tryz.zeroValue187
 t55:=Tryz.underlying84
 a55:=Tryz.isAgg84
 z55:=Tryz.sizeOf84
 v55:=Tryz.zeroValue84
 t66:=Tryz.underlying334
 a66:=Tryz.isAgg334
 z66:=Tryz.sizeOf334
 v66:=Tryz.zeroValue334
 t70:=Tryz.underlying195
 a70:=Tryz.isAgg195
 z70:=Tryz.sizeOf195
 v70:=Tryz.zeroValue195
 t76:=Tryz.underlying341
 a76:=Tryz.isAgg341
 z76:=Tryz.sizeOf341
 v76:=Tryz.zeroValue341
 t77:=Tryz.underlying93
 a77:=Tryz.isAgg93
 z77:=Tryz.sizeOf93
 v77:=Tryz.zeroValue93 }
end Vw
namespace Vp
abbrev Dg:=Int×Int×Int×Int×Unit
def dgc (x:Dg):List AV:=[.int .i64 x.1,.int .i64 x.2.1,.int .i64 x.2.2.1,.int .i64 x.2.2.2.1]
def flatD:List Dg→List AV
 | []=>[]
 | x::r=>dgc x++flatD r
theorem flatD_len:∀ l:List Dg,(flatD l).length=l.length * 4
 | []=>rfl
 | x::r=>by simp only [flatD,List.length_append,flatD_len r,List.length_cons];show 4+_=_;omega
def dlt (x y:Dg):Bool:=bif !decide (x.1=y.1) then decide (x.1<y.1) else bif !decide (x.2.1=y.2.1) then decide (x.2.1<y.2.1) else bif !decide (x.2.2.1=y.2.2.1) then decide (x.2.2.1<y.2.2.1) else decide (x.2.2.2.1<y.2.2.2.1)
theorem dlt_iff (x y:Dg):dlt x y=true↔x.1<y.1∨(x.1=y.1∧(x.2.1<y.2.1∨(x.2.1=y.2.1∧(x.2.2.1<y.2.2.1∨(x.2.2.1=y.2.2.1∧x.2.2.2.1<y.2.2.2.1))))):=by
 unfold dlt
 by_cases q1:x.1=y.1
 ·rw [decide_eq_true q1,Bool.not_true,cond_false]
  by_cases q2:x.2.1=y.2.1
  ·rw [decide_eq_true q2,Bool.not_true,cond_false]
   by_cases q3:x.2.2.1=y.2.2.1
   ·rw [decide_eq_true q3,Bool.not_true,cond_false,decide_eq_true_eq];omega
   ·rw [decide_eq_false q3,Bool.not_false,cond_true,decide_eq_true_eq];omega
  ·rw [decide_eq_false q2,Bool.not_false,cond_true,decide_eq_true_eq];omega
 ·rw [decide_eq_false q1,Bool.not_false,cond_true,decide_eq_true_eq];omega
theorem dg_ext {x y:Dg} (h1:x.1=y.1) (h2:x.2.1=y.2.1) (h3:x.2.2.1=y.2.2.1) (h4:x.2.2.2.1=y.2.2.2.1):x=y:=by
 obtain ⟨a,b,c,d,⟨⟩⟩:=x;obtain ⟨a',b',c',d',⟨⟩⟩:=y;simp only at h1 h2 h3 h4;subst h1 h2 h3 h4;rfl
def dsort (l:List Dg):List Dg:=l.mergeSort fun x y=>!dlt y x
end Vp
namespace Va
open Vp Go.Sort
def cf (x y:Dg):Int:=Vw.firstI [Vw.cmpI x.1 y.1,Vw.cmpI x.2.1 y.2.1,Vw.cmpI x.2.2.1 y.2.2.1,Vw.cmpI x.2.2.2.1 y.2.2.2.1]
theorem cmp_bne (a b:Int):(Vw.cmpI a b != 0) = !decide (a=b):=by
 unfold Vw.cmpI
 by_cases q:a<b
 ·rw [if_pos q,decide_eq_false (by omega)];rfl
 ·by_cases q2:b<a
  ·rw [if_neg q,if_pos q2,decide_eq_false (by omega)];rfl
  ·rw [if_neg q,if_neg q2,decide_eq_true (by omega)];rfl
theorem cmp_neg (a b:Int):decide (Vw.cmpI a b<0)=decide (a<b):=by
 unfold Vw.cmpI
 by_cases q:a<b
 ·rw [if_pos q,decide_eq_true q];rfl
 ·by_cases q2:b<a
  ·rw [if_neg q,if_pos q2,decide_eq_false q];rfl
  ·rw [if_neg q,if_neg q2,decide_eq_false q];rfl
theorem lt_cf:ltOf cf=dlt:=by
 funext x y
 unfold ltOf cf dlt
 simp only [Vw.firstI,cmp_bne]
 cases q1:decide (x.1=y.1) <;> cases q2:decide (x.2.1=y.2.1) <;> cases q3:decide (x.2.2.1=y.2.2.1) <;> cases q4:decide (x.2.2.2.1=y.2.2.2.1) <;> simp only [Bool.not_true,Bool.not_false,cond_true,cond_false,cmp_neg]
 all_goals (rw [decide_eq_true_eq] at q4;rw [eq_comm,decide_eq_decide];omega)
theorem swo:SWO dlt where
 irrefl x:=by
  cases h:dlt x x with
  | false=>rfl
  | true=>rw [dlt_iff] at h;omega
 trans x y z h1 h2:=by rw [dlt_iff] at *;omega
 ntrans x y z h1 h2:=by
  have e:∀ a b,dlt a b=false↔¬ (a.1<b.1∨(a.1=b.1∧(a.2.1<b.2.1∨(a.2.1=b.2.1∧(a.2.2.1<b.2.2.1∨(a.2.2.1=b.2.2.1∧a.2.2.2.1<b.2.2.2.1)))))):=fun a b=>by rw [← dlt_iff,Bool.not_eq_true]
  rw [e] at *;omega
theorem dlt_total (x y:Dg) (h1:dlt x y=false) (h2:dlt y x=false):x=y:=by
 have e:∀ a b,dlt a b=false↔¬ (a.1<b.1∨(a.1=b.1∧(a.2.1<b.2.1∨(a.2.1=b.2.1∧(a.2.2.1<b.2.2.1∨(a.2.2.1=b.2.2.1∧a.2.2.2.1<b.2.2.2.1)))))):=fun a b=>by rw [← dlt_iff,Bool.not_eq_true]
 rw [e] at *
 exact dg_ext (by omega) (by omega) (by omega) (by omega)
def encD (x:Dg):List Value:=[.int .i64 x.1,.int .i64 x.2.1,.int .i64 x.2.2.1,.int .i64 x.2.2.2.1]
def flatV:List Dg→List Value
 | []=>[]
 | x::r=>encD x++flatV r
theorem flatV_len:∀ l:List Dg,(flatV l).length=l.length * 4
 | []=>rfl
 | x::r=>by simp only [flatV,List.length_append,flatV_len r,List.length_cons];show 4+_=_;omega
theorem flatV_get:∀ (l:List Dg) (t:Nat),t<l.length * 4→(flatV l)[t]? = (encD (l.getD (t / 4) default))[t % 4]?
 | [],t,h=>by simp at h
 | x::r,t,h=>by
  by_cases q:t<4
  ·rw [show t / 4=0 by omega,show t % 4=t by omega]
   simp only [flatV]
   rw [List.getElem?_append_left (by simp [encD];omega)];rfl
  ·have hr:=flatV_get r (t-4) (by simp at h;omega)
   simp only [flatV]
   rw [List.getElem?_append_right (by simp [encD];omega),show (encD x).length=4 from rfl,hr,show t / 4=(t-4) / 4+1 by omega,show t % 4=(t-4) % 4 by omega]
   rfl
theorem flatK_eq (l:List Dg):flatK encD 4 l.toArray=(flatV l).toArray:=by
 refine ext_get! (by simp [flatV_len]) fun t h=>?_
 rw [size_flatK] at h
 have h':t<l.length * 4:=by simpa using h
 rw [get_flatK _ _ _ _ h]
 have e:=flatV_get l t h'
 have hd:t / 4<l.length:=by omega
 have e1:(l.toArray)[t / 4]! = l.getD (t / 4) default:=by
  rw [getElem!_pos _ _ (by simpa using hd),List.getD_eq_getElem?_getD,List.getElem?_eq_getElem hd];rfl
 rw [e1]
 have h4:t % 4<(encD (l.getD (t / 4) default)).length:=by show _<4;omega
 rw [List.getElem?_eq_getElem h4] at e
 obtain ⟨hb,e2⟩:=List.getElem?_eq_some_iff.1 e
 rw [getElem!_pos (encD (l.getD (t / 4) default)) (t % 4) h4,getElem!_pos (flatV l).toArray t (by simpa using hb)]
 exact e2.symm
theorem vrs_flat {μ:Mu}:∀ {l:List Dg},VRs μ (flatD l) (flatV l)
 | []=>VRs.nil
 | x::r=>VRs.cons (by simp only [VR]) (VRs.cons (by simp only [VR]) (VRs.cons (by simp only [VR]) (VRs.cons (by simp only [VR]) vrs_flat)))
theorem vrs_inv {μ:Mu}:∀ {l:List Dg} {ys:List Value},VRs μ (flatD l) ys→ys=flatV l
 | [],ys,h=>by simpa [flatD,VRs,flatV] using h
 | x::r,ys,h=>by
  simp only [flatD,dgc,List.cons_append,List.nil_append,VRs,VR] at h
  obtain ⟨y1,r1,rfl,rfl,y2,r2,rfl,rfl,y3,r3,rfl,rfl,y4,r4,rfl,rfl,h5⟩:=h
  rw [vrs_inv h5];rfl
def dgsOf:List AV→Option (List Dg)
 | []=>some []
 | .int .i64 a::.int .i64 b::.int .i64 c::.int .i64 d::r=>match dgsOf r with
  | some l=>some ((a,b,c,d,())::l)
  | none=>none
 | _=>none
theorem dgsOf_flat:∀ l:List Dg,dgsOf (flatD l)=some l
 | []=>rfl
 | x::r=>by
  show (match dgsOf (flatD r) with | some l=>some ((x.1,x.2.1,x.2.2.1,x.2.2.2.1,())::l) | none=>none)=_
  rw [dgsOf_flat r]
theorem dgsOf_eq:∀ {l:List Dg} {vs:List AV},dgsOf vs=some l→vs=flatD l:=by
 intro l
 induction l with
 | nil=>
  intro vs h
  unfold dgsOf at h
  split at h
  ·rfl
  ·split at h <;> cases h
  ·cases h
 | cons x r ih=>
  intro vs h
  unfold dgsOf at h
  split at h
  ·cases h
  ·split at h
   ·rename_i l' he
    simp only [Option.some.injEq,List.cons.injEq] at h
    obtain ⟨rfl,rfl⟩:=h
    rw [ih he];rfl
   ·cases h
  ·cases h
def sortF (s:SL) (_c:Unit) (h:Heap):Option (Unit×Heap):=
 match s.a with
 | none=>bif Nat.beq s.len 0 then some ((),h) else none
 | some (A,off)=>bif Nat.ble 1 s.len&&Nat.ble s.len 1000000 then
   match rowOG h A,h.read A off (s.len * 4) with
   | some (cs,st),some vs=>match dgsOf vs with
    | some l=>match over off cs (flatD (dsort l)) with
     | some cs'=>some ((),h.put A (.row cs' st))
     | none=>none
    | none=>none
   | _,_=>none
  else none
theorem sets_eq:∀ (vs:List Value) (w:World) (b o:Nat),sets w b o vs=w.setCells b o vs
 | [],w,b,o=>rfl
 | v::r,w,b,o=>by
  show sets (w.setCell ⟨b,o,none⟩ v) b (o+1) r=(w.setCell ⟨b,o,none⟩ v).setCells b (o+1) r
  exact sets_eq r _ b (o+1)
theorem put_eq {w:World} {blk off:Nat} {F:Array Value} {us:List Value} (hF:Holds id w blk off F) (hl:us.length=F.size):putRow id w blk off us.toArray=sets w blk off us:=by
 have e:=setCells_putRow w blk off us 0 F (by omega)
 rw [putRow_self id w blk off F hF,Nat.add_zero] at e
 rw [sets_eq,e]
 congr 1
 refine (ext_get! (by simp [hl]) fun t h=>?_).symm
 rw [size_setMany] at h
 rw [get_setMany us 0 F t h,if_pos (by omega),Nat.sub_zero]
 rw [getElem!_pos us t (by omega),getElem!_pos us.toArray t (by simp;omega)]
 rfl
theorem dsort_len (l:List Dg):(dsort l).length=l.length:=List.length_mergeSort l
theorem below_grow (w:World) (n:Nat) (os:Array Obj):Go.RowKit.Below w.heap.size w (grow (Go.Sort.ahead w n) os):=by
 refine ⟨rfl,rfl,rfl,?_,fun k hk=>?_⟩
 ·show w.heap.size≤(w.heap++os).size
  simp
 ·show (w.heap++os)[k]? = w.heap[k]?
  rw [Array.getElem?_append_left hk]
theorem f158_ok (_N:Nat):FnOK Tryz.prog 158 [(.one .slice),(.clo 159 [])] (.tup []) (fun x h=>sortF x.1 x.2.1 h):=by
 intro xs h r h' hx μ w args' hr hv
 obtain ⟨s,c,_⟩:=xs
 have hx':sortF s c h=some (r,h'):=hx
 refine ⟨enter_of env0 (fn:=Tryz.f158) (by kernel_rfl) (by kernel_rfl) _ _,?_⟩
 have hv':VRs μ [.slice s.a s.len s.cap s.sz,.func (.func 159) [] []] args'.toList:=hv
 simp only [VRs] at hv'
 obtain ⟨y1,ys1,e1,hy,y2,ys2,e2,hy2,e3⟩:=hv'
 subst e2 e3
 have hf:y2=.func (.func 159) #[] #[]:=by
  simp only [VR] at hy2
  obtain ⟨fs,cs,rfl,g1,g2⟩:=hy2
  have z:∀ (a:Array Value),VRs μ [] a.toList→a = #[]:=fun a ha=>by simpa [VRs] using ha
  rw [z _ g1,z _ g2]
 subst hf
 have ea:args' = #[y1,.func (.func 159) #[] #[]]:=by rw [← Array.toList_inj,e1]
 subst ea
 unfold sortF at hx'
 cases ha:s.a with
 | none=>
  rw [ha] at hx' hy
  simp only [VR] at hy
  obtain ⟨rfl,hl,hc⟩:=hy
  have hb:Nat.beq s.len 0=true:=by rw [hl];rfl
  simp only [hb,cond_true,Option.some.injEq,Prod.mk.injEq] at hx'
  obtain ⟨-,rfl⟩:=hx'
  refine (AnyF.slices_SortFunc_none Vw.Tryz.laysSF none _ _ w).mono ?_
  rintro e w' ⟨rfl,rfl⟩
  exact ⟨_,rfl,μ,by simp only [Ty.to,VTy.tos,VR];exact ⟨#[],rfl,VRs.nil⟩,hr,Ext.refl μ h w'⟩
 | some q=>
  obtain ⟨A,off⟩:=q
  rw [ha] at hx' hy
  simp only at hx'
  cases hb:(Nat.ble 1 s.len&&Nat.ble s.len 1000000) with
  | false=>simp [hb] at hx'
  | true=>
   simp only [hb,cond_true] at hx'
   rw [Bool.and_eq_true,Nat.ble_eq,Nat.ble_eq] at hb
   split at hx'
   ·rename_i cs st vs hw hrd
    split at hx'
    ·rename_i l hd
     split at hx'
     ·rename_i cs' hov
      simp only [Option.some.injEq,Prod.mk.injEq] at hx'
      obtain ⟨-,rfl⟩:=hx'
      have hvs:=dgsOf_eq hd
      subst hvs
      have hg:h.t.get A=some (.row cs st)∧(st=.own∨st=.grown):=by
       unfold rowOG at hw
       split at hw
       ·rename_i cs1 st1 hq
        split at hw
        ·simp only [Option.some.injEq,Prod.mk.injEq] at hw;obtain ⟨rfl,rfl⟩:=hw;exact ⟨hq,.inl rfl⟩
        ·simp only [Option.some.injEq,Prod.mk.injEq] at hw;obtain ⟨rfl,rfl⟩:=hw;exact ⟨hq,.inr rfl⟩
        ·cases hw
       ·cases hw
      simp only [VR] at hy
      obtain ⟨l0,a',cap',hA,rfl,h3,h4⟩:=hy
      rcases h4 with ⟨h4,_⟩ | ⟨rfl,h5,h6,h7⟩
      ·omega
      ·obtain ⟨ys,_,h8,h9,h10⟩:=hr.read (P:=Tryz.prog) hA hrd
       have hys:=vrs_inv h9
       subst hys
       rw [flatV_len] at h8
       have hlen:l.length=s.len:=by omega
       obtain ⟨w1,w2,w3,w4⟩:=hr.write hA hg.1 (hg.2.elim .inl fun e=>.inr (.inl e)) hov (vrs_flat (l:=dsort l))
       have hl2:(flatV (dsort l)).length=(flatV l).length:=by rw [flatV_len,flatV_len,dsort_len]
       have hF:Holds id w l0.b (l0.sh+off) (flatV l).toArray:=fun j hj=>by
        have hj':j<(flatV l).length:=by simpa using hj
        refine ⟨?_,w2 j (by omega)⟩
        rw [h10 j _ (List.getElem?_eq_getElem hj'),getElem!_pos (flatV l).toArray j hj];rfl
       have hc:=AnyQ.slices_SortFunc_total (α:=Dg) Vw.Tryz.laysSF 4 Tryz.isAgg145 Tryz.sizeOf145 encD (fun _=>rfl) (fun x v hv=>by
         simp only [encD,List.mem_cons,List.not_mem_nil,or_false] at hv
         rcases hv with rfl | rfl | rfl | rfl <;> rfl) cf (by rw [lt_cf];exact swo) 159 #[] l0.b (l0.sh+off) cap' l.toArray w
        (fun args W=>enter_of env0 (fn:=Tryz.f159) (by kernel_rfl) (by kernel_rfl) _ _)
        (fun m os dk hs x y=>Vw.sort1_walk x.1 x.2.1 x.2.2.1 x.2.2.2.1 y.1 y.2.1 y.2.2.1 y.2.2.2.1 _)
        (by unfold HoldsK;rw [flatK_eq];exact hF) (hr.dom A l0 hA).2 (by simp;omega) (by rw [lt_cf];exact dlt_total)
       rw [show l.toArray.size=s.len by simp [hlen]] at hc
       refine hc.mono ?_
       rintro e w' ⟨rfl,n,os,rfl⟩
       have hw':sortWorldK encD 4 w l0.b (l0.sh+off) n (l.toArray.toList.mergeSort fun x y=>!(ltOf cf) y x).toArray os=grow (Go.Sort.ahead (sets w l0.b (l0.sh+off) (flatV (dsort l))) n) os:=by
        unfold sortWorldK putRowK
        rw [lt_cf,show (l.toArray.toList.mergeSort fun x y=>!dlt y x)=dsort l from rfl,flatK_eq,putRow_ahead,put_eq hF (by rw [hl2];simp)]
       rw [hw']
       exact ⟨_,rfl,μ,by simp only [Ty.to,VTy.tos,VR];exact ⟨#[],rfl,VRs.nil⟩,w3.below (below_grow _ n os),Ext.trans hr w4 (Ext.of_below (below_grow _ n os))⟩
     ·cases hx'
    ·cases hx'
   ·cases hx'
end Va
namespace Vp
noncomputable def E:Env:=envOf Tryz.prog [25,145] Va.nat
theorem envOK:EnvOK E Tryz.prog:=envOf_ok (by kernel_rfl) (by kernel_rfl)
theorem natOK:NativeOK E Tryz.prog:=Va.natOK
theorem hmix:Tryz.prog.follows .mixedOrders=true:=by kernel_rfl
abbrev T35:List CTy:=[(.int .i64),(.int .i64),.slice,(.int .u8),(.int .u8),(.int .u8),(.int .u8),(.int .u8),(.int .u8),(.int .u8),(.int .u8),(.int .u8),(.int .u8),(.int .u8),(.int .u8),(.int .u8),(.int .u8),(.int .u8),(.int .u8),(.int .u8),(.int .u8),(.int .u8),(.int .u8),(.int .u8),(.int .u8),(.int .u8),(.int .u8),(.int .u8),(.int .u8),(.int .u8),(.int .u8),(.int .u8),(.int .u8),(.int .u8),(.int .u8)]
abbrev T32:List CTy:=[(.int .u8),(.int .u8),(.int .u8),(.int .u8),(.int .u8),(.int .u8),(.int .u8),(.int .u8),(.int .u8),(.int .u8),(.int .u8),(.int .u8),(.int .u8),(.int .u8),(.int .u8),(.int .u8),(.int .u8),(.int .u8),(.int .u8),(.int .u8),(.int .u8),(.int .u8),(.int .u8),(.int .u8),(.int .u8),(.int .u8),(.int .u8),(.int .u8),(.int .u8),(.int .u8),(.int .u8),(.int .u8)]
abbrev T36:List CTy:=[.str,(.int .i64),(.int .i64),.slice,(.int .u8),(.int .u8),(.int .u8),(.int .u8),(.int .u8),(.int .u8),(.int .u8),(.int .u8),(.int .u8),(.int .u8),(.int .u8),(.int .u8),(.int .u8),(.int .u8),(.int .u8),(.int .u8),(.int .u8),(.int .u8),(.int .u8),(.int .u8),(.int .u8),(.int .u8),(.int .u8),(.int .u8),(.int .u8),(.int .u8),(.int .u8),(.int .u8),(.int .u8),(.int .u8),(.int .u8),(.int .u8)]
abbrev z32:dens T32:=(0,0,0,0,0,0,0,0,0,0,0,0,0,0,0,0,0,0,0,0,0,0,0,0,0,0,0,0,0,0,0,0,())
noncomputable def f6 (N:Nat)  (h:Heap):Option (Bool×Heap):=Vx.toldF  h
theorem f6_ok (N:Nat):FnOK Tryz.prog 6 [] (.val (.one .bool)) (fun x h=>f6 N  h):=Vx.f6_ok N
noncomputable def f25 (N:Nat) (a0:Int) (a1:Int) (h:Heap):Option (AV×Heap):=
 let x1:Bool:=eqInt a0 0
 (bif x1 then
  some (AV.nilIface,h)
 else
  let h2:Heap:=h.push (.row [(.int .i64 a0),(.int .i64 a1),(AV.iface 22 (.int .i64 a0))] .own)
  some ((AV.iface 137 (.ptr (some (h.next,0)))),h2))
noncomputable def ann25:Ann:=.n
theorem f25_ok (N:Nat):FnOK Tryz.prog 25 [(.one (.int .i64)),(.one (.int .i64))] (.val (.one .any)) (fun x h=>f25 N x.1 x.2.1 h):=
 runK_ok envOK hmix noCalls_ok (N:=N) (x:=ann25) (fn:=Tryz.f25) (c:=Tryz.f25.body.getD .skip) (by kernel_rfl) (by kernel_rfl) (by kernel_rfl) (by kernel_rfl) (fun _ _=>by kernel_rfl)
noncomputable def f26 (N:Nat)  (h:Heap):Option (Option (Nat×Nat)×Heap):=
 let h1:Heap:=h.push (.row [(.slice none 0 0 0)] .own)
 some ((some (h.next,0)),h1)
noncomputable def ann26:Ann:=.n
theorem f26_ok (N:Nat):FnOK Tryz.prog 26 [] (.val (.one .ptr)) (fun x h=>f26 N  h):=
 runK_ok envOK hmix noCalls_ok (N:=N) (x:=ann26) (fn:=Tryz.f26) (c:=Tryz.f26.body.getD .skip) (by kernel_rfl) (by kernel_rfl) (by kernel_rfl) (by kernel_rfl) (fun _ _=>by kernel_rfl)
noncomputable def f29_l1_b (N:Nat) (go:Option (Nat×Nat)→Int→Heap→Option (Out×(Option (Nat×Nat)×Int×Unit)×Heap)) (v0:Option (Nat×Nat)) (v1:Int) (h:Heap):Option (Out×(Option (Nat×Nat)×Int×Unit)×Heap):=
 let x1:Bool:=leInt 128 v1
 (bif x1 then
  (need v0 fun q2=>
  (bindV (.val (.one .slice)) (h.cell (q2.1,q2.2+0)) fun (x3:SL)=>
  let x4:Int:=wrapA .u8 v1
  (bindV (.val (.one (.int .u8))) (bitsA .or .u8 x4 128) fun (x5:Int)=>
  let h6:Heap:=h.push (.row [(.int .u8 x5)] .own)
  (bindT (.val (.one .slice)) (appendA E 28 28 (.slice x3.a x3.len x3.cap x3.sz) (.slice (some (h.next,0)) 1 1 1) h6) fun (x7:SL) h8=>
  (need v0 fun q9=>
  (need (h8.store (q9.1,q9.2+0) [(.slice x7.a x7.len x7.cap x7.sz)]) fun h10=>
  (bindV (.val (.one (.int .u64))) (shiftA .shr .u64 v1 7) fun (x11:Int)=>
  go v0 x11 h10)))))))
 else
  some ((Out.exit 0),(v0,v1,()),h))
noncomputable def f29_l1 (N:Nat) (M:Nat) (v0:Option (Nat×Nat)) (v1:Int) (h:Heap):Option (Out×(Option (Nat×Nat)×Int×Unit)×Heap):=iter (fun go s h=>f29_l1_b N (fun v0 v1 h=>go (v0,v1,()) h) s.1 s.2.1 h) M (v0,v1,()) h
theorem f29_l1_succ (N:Nat) (M:Nat) (v0:Option (Nat×Nat)) (v1:Int) (h:Heap):f29_l1 N (M+1) v0 v1 h=f29_l1_b N (f29_l1 N M) v0 v1 h:=rfl
noncomputable def f29 (N:Nat) (a0:Option (Nat×Nat)) (a1:Int) (h:Heap):Option ((Unit)×Heap):=
 (bif a0.isNone then
  some ((()),h)
 else
  (bind3 (f29_l1 N N a0 a1 h) fun _ (j13:(Option (Nat×Nat)×Int×Unit)) h14=>
  (need j13.1 fun q15=>
  (bindV (.val (.one .slice)) (h14.cell (q15.1,q15.2+0)) fun (x16:SL)=>
  let x17:Int:=wrapA .u8 j13.2.1
  let h18:Heap:=h14.push (.row [(.int .u8 x17)] .own)
  (bindT (.val (.one .slice)) (appendA E 28 28 (.slice x16.a x16.len x16.cap x16.sz) (.slice (some (h14.next,0)) 1 1 1) h18) fun (x19:SL) h20=>
  (need j13.1 fun q21=>
  (need (h20.store (q21.1,q21.2+0) [(.slice x19.a x19.len x19.cap x19.sz)]) fun h22=>
  some ((()),h22))))))))
noncomputable def ann29:Ann:=(.two .n (.two (.two (.loop [(0,(.one .ptr)),(1,(.one (.int .u64)))] [(.exit 0)] [(0,(.one .ptr)),(1,(.one (.int .u64)))] .n) .n) .n))
theorem f29_ok (N:Nat):FnOK Tryz.prog 29 [(.one .ptr),(.one (.int .u64))] (.tup []) (fun x h=>f29 N x.1 x.2.1 h):=
 runK_ok envOK hmix noCalls_ok (N:=N) (x:=ann29) (fn:=Tryz.f29) (c:=Tryz.f29.body.getD .skip) (by kernel_rfl) (by kernel_rfl) (by kernel_rfl) (by kernel_rfl) (fun _ _=>by kernel_rfl)
noncomputable def f27 (N:Nat) (a0:Option (Nat×Nat)) (a1:List UInt8) (h:Heap):Option ((Unit)×Heap):=
 (bif a0.isNone then
  some ((()),h)
 else
  let x1:Int:=wrapA .u64 (Int.ofNat a1.length)
  (bind2 (f29 N a0 x1 h) fun (x2:(Unit)) h3=>
  (need a0 fun q4=>
  (bindV (.val (.one .slice)) (h3.cell (q4.1,q4.2+0)) fun (x5:SL)=>
  (bindT (.val (.one .slice)) (appendA E 28 9 (.slice x5.a x5.len x5.cap x5.sz) (.str a1) h3) fun (x6:SL) h7=>
  (need a0 fun q8=>
  (need (h7.store (q8.1,q8.2+0) [(.slice x6.a x6.len x6.cap x6.sz)]) fun h9=>
  some ((()),h9))))))))
noncomputable def ann27:Ann:=.n
theorem f27_ok (N:Nat):FnOK Tryz.prog 27 [(.one .ptr),(.one .str)] (.tup []) (fun x h=>f27 N x.1 x.2.1 h):=
 runK_ok envOK hmix (addCall_ok (f29_ok N) noCalls_ok) (N:=N) (x:=ann27) (fn:=Tryz.f27) (c:=Tryz.f27.body.getD .skip) (by kernel_rfl) (by kernel_rfl) (by kernel_rfl) (by kernel_rfl) (fun _ _=>by kernel_rfl)
noncomputable def f28 (N:Nat) (a0:Option (Nat×Nat)) (a1:Int) (h:Heap):Option ((Unit)×Heap):=
 let x1:Int:=wrapA .u64 a1
 (bindV (.val (.one (.int .u64))) (shiftA .shl .u64 x1 1) fun (x2:Int)=>
 let x3:Bool:=ltInt a1 0
 (bif x3 then
  (bindV (.val (.one (.int .u64))) (unA .xor (.int .u64 x2)) fun (x4:Int)=>
  (bind2 (f29 N a0 x4 h) fun (x5:(Unit)) h6=>
  some ((()),h6)))
 else
  (bind2 (f29 N a0 x2 h) fun (x7:(Unit)) h8=>
  some ((()),h8))))
noncomputable def ann28:Ann:=.n
theorem f28_ok (N:Nat):FnOK Tryz.prog 28 [(.one .ptr),(.one (.int .i64))] (.tup []) (fun x h=>f28 N x.1 x.2.1 h):=
 runK_ok envOK hmix (addCall_ok (f29_ok N) noCalls_ok) (N:=N) (x:=ann28) (fn:=Tryz.f28) (c:=Tryz.f28.body.getD .skip) (by kernel_rfl) (by kernel_rfl) (by kernel_rfl) (by kernel_rfl) (fun _ _=>by kernel_rfl)
noncomputable def f155 (N:Nat) (a0:Int) (h:Heap):Option (Bool×Heap):=
 let x1:Bool:=leInt 97 a0
 (bif x1 then
  let x2:Bool:=leInt a0 122
  (bif x2 then
  some (true,h)
  else
  let x3:Bool:=leInt 65 a0
  (bif x3 then
   let x4:Bool:=leInt a0 90
   (bif x4 then
   some (true,h)
   else
   let x5:Bool:=eqInt a0 95
   (bif x5 then
    some (true,h)
   else
    some (false,h)))
  else
   let x6:Bool:=eqInt a0 95
   (bif x6 then
   some (true,h)
   else
   some (false,h))))
 else
  let x7:Bool:=leInt 65 a0
  (bif x7 then
  let x8:Bool:=leInt a0 90
  (bif x8 then
   some (true,h)
  else
   let x9:Bool:=eqInt a0 95
   (bif x9 then
   some (true,h)
   else
   some (false,h)))
  else
  let x10:Bool:=eqInt a0 95
  (bif x10 then
   some (true,h)
  else
   some (false,h))))
noncomputable def ann155:Ann:=.n
theorem f155_ok (N:Nat):FnOK Tryz.prog 155 [(.one (.int .u8))] (.val (.one .bool)) (fun x h=>f155 N x.1 h):=
 runK_ok envOK hmix noCalls_ok (N:=N) (x:=ann155) (fn:=Tryz.f155) (c:=Tryz.f155.body.getD .skip) (by kernel_rfl) (by kernel_rfl) (by kernel_rfl) (by kernel_rfl) (fun _ _=>by kernel_rfl)
noncomputable def f189 (N:Nat) (a0:Int) (h:Heap):Option (Bool×Heap):=
 (bind2 (f155 N a0 h) fun (x1:Bool) h2=>
 (bif x1 then
  some (true,h2)
 else
  let x3:Bool:=leInt 48 a0
  (bif x3 then
  let x4:Bool:=leInt a0 57
  some (x4,h2)
  else
  some (false,h2))))
noncomputable def ann189:Ann:=.n
theorem f189_ok (N:Nat):FnOK Tryz.prog 189 [(.one (.int .u8))] (.val (.one .bool)) (fun x h=>f189 N x.1 h):=
 runK_ok envOK hmix (addCall_ok (f155_ok N) noCalls_ok) (N:=N) (x:=ann189) (fn:=Tryz.f189) (c:=Tryz.f189.body.getD .skip) (by kernel_rfl) (by kernel_rfl) (by kernel_rfl) (by kernel_rfl) (fun _ _=>by kernel_rfl)
noncomputable def f156_l1_b (N:Nat) (go:List UInt8→Int→Heap→Option (Out×(Int×Unit)×Heap)) (v0:List UInt8) (v1:Int) (h:Heap):Option (Out×(Int×Unit)×Heap):=
 let x1:Bool:=ltInt v1 (Int.ofNat v0.length)
 (bif x1 then
  (strK v0 v1 fun x2=>
  (bind2 (f189 N x2 h) fun (x3:Bool) h4=>
  (bif x3 then
  let x5:Int:=wrapA .i64 (v1+1)
  go v0 x5 h4
  else
  some ((Out.exit 0),(v1,()),h4))))
 else
  some ((Out.exit 0),(v1,()),h))
noncomputable def f156_l1 (N:Nat) (M:Nat) (v0:List UInt8) (v1:Int) (h:Heap):Option (Out×(Int×Unit)×Heap):=iter (fun go s h=>f156_l1_b N (fun v0 v1 h=>go (v0,v1,()) h) s.1 s.2.1 h) M (v0,v1,()) h
theorem f156_l1_succ (N:Nat) (M:Nat) (v0:List UInt8) (v1:Int) (h:Heap):f156_l1 N (M+1) v0 v1 h=f156_l1_b N (f156_l1 N M) v0 v1 h:=rfl
noncomputable def f156 (N:Nat) (a0:List UInt8) (a1:Int) (h:Heap):Option (Int×Heap):=
 (bind3 (f156_l1 N N a0 a1 h) fun _ (j7:(Int×Unit)) h8=>
 some (j7.1,h8))
noncomputable def ann156:Ann:=(.two .n (.two (.two (.loop [(0,(.one .str)),(1,(.one (.int .i64)))] [(.exit 0)] [(1,(.one (.int .i64)))] .n) .n) .n))
theorem f156_ok (N:Nat):FnOK Tryz.prog 156 [(.one .str),(.one (.int .i64))] (.val (.one (.int .i64))) (fun x h=>f156 N x.1 x.2.1 h):=
 runK_ok envOK hmix (addCall_ok (f189_ok N) noCalls_ok) (N:=N) (x:=ann156) (fn:=Tryz.f156) (c:=Tryz.f156.body.getD .skip) (by kernel_rfl) (by kernel_rfl) (by kernel_rfl) (by kernel_rfl) (fun _ _=>by kernel_rfl)
noncomputable def f157 (N:Nat) (a0:List UInt8) (h:Heap):Option (Bool×Heap):=
 let x1:Bool:=eqBytes a0 [102,110]
 (bif x1 then
  (bif x1 then
  some (true,h)
  else
  some (false,h))
 else
  let x2:Bool:=eqBytes a0 [115,116,114,117,99,116]
  (bif x2 then
  (bif x2 then
   some (true,h)
  else
   some (false,h))
  else
  let x3:Bool:=eqBytes a0 [112,117,98]
  (bif x3 then
   (bif x3 then
   some (true,h)
   else
   some (false,h))
  else
   let x4:Bool:=eqBytes a0 [108,101,116]
   (bif x4 then
   (bif x4 then
    some (true,h)
   else
    some (false,h))
   else
   let x5:Bool:=eqBytes a0 [109,117,116]
   (bif x5 then
    (bif x5 then
    some (true,h)
    else
    some (false,h))
   else
    let x6:Bool:=eqBytes a0 [105,102]
    (bif x6 then
    (bif x6 then
     some (true,h)
    else
     some (false,h))
    else
    let x7:Bool:=eqBytes a0 [101,108,115,101]
    (bif x7 then
     (bif x7 then
     some (true,h)
     else
     some (false,h))
    else
     let x8:Bool:=eqBytes a0 [119,104,105,108,101]
     (bif x8 then
     (bif x8 then
      some (true,h)
     else
      some (false,h))
     else
     let x9:Bool:=eqBytes a0 [108,111,111,112]
     (bif x9 then
      (bif x9 then
      some (true,h)
      else
      some (false,h))
     else
      let x10:Bool:=eqBytes a0 [98,114,101,97,107]
      (bif x10 then
      (bif x10 then
       some (true,h)
      else
       some (false,h))
      else
      let x11:Bool:=eqBytes a0 [99,111,110,116,105,110,117,101]
      (bif x11 then
       (bif x11 then
       some (true,h)
       else
       some (false,h))
      else
       let x12:Bool:=eqBytes a0 [114,101,116,117,114,110]
       (bif x12 then
       (bif x12 then
        some (true,h)
       else
        some (false,h))
       else
       let x13:Bool:=eqBytes a0 [100,114,111,112]
       (bif x13 then
        (bif x13 then
        some (true,h)
        else
        some (false,h))
       else
        let x14:Bool:=eqBytes a0 [116,114,117,101]
        (bif x14 then
        (bif x14 then
         some (true,h)
        else
         some (false,h))
        else
        let x15:Bool:=eqBytes a0 [102,97,108,115,101]
        (bif x15 then
         (bif x15 then
         some (true,h)
         else
         some (false,h))
        else
         let x16:Bool:=eqBytes a0 [105,110,116]
         (bif x16 then
         (bif x16 then
          some (true,h)
         else
          some (false,h))
         else
         let x17:Bool:=eqBytes a0 [98,111,111,108]
         (bif x17 then
          some (true,h)
         else
          some (false,h))))))))))))))))))
noncomputable def ann157:Ann:=.n
theorem f157_ok (N:Nat):FnOK Tryz.prog 157 [(.one .str)] (.val (.one .bool)) (fun x h=>f157 N x.1 h):=
 runK_ok envOK hmix noCalls_ok (N:=N) (x:=ann157) (fn:=Tryz.f157) (c:=Tryz.f157.body.getD .skip) (by kernel_rfl) (by kernel_rfl) (by kernel_rfl) (by kernel_rfl) (fun _ _=>by kernel_rfl)
noncomputable def f100 (N:Nat) (a0:List UInt8) (h:Heap):Option (Bool×Heap):=
 let x1:Bool:=!eqBytes a0 []
 (bif x1 then
  let x2:Bool:=leInt (Int.ofNat a0.length) 32
  (bif x2 then
  (strK a0 0 fun x3=>
  (bind2 (f155 N x3 h) fun (x4:Bool) h5=>
  (bif x4 then
   (bind2 (f156 N a0 0 h5) fun (x6:Int) h7=>
   let x8:Bool:=eqInt x6 (Int.ofNat a0.length)
   (bif x8 then
   (bind2 (f157 N a0 h7) fun (x9:Bool) h10=>
   let x11:Bool:=!x9
   some (x11,h10))
   else
   some (false,h7)))
  else
   some (false,h5))))
  else
  some (false,h))
 else
  some (false,h))
noncomputable def ann100:Ann:=.n
theorem f100_ok (N:Nat):FnOK Tryz.prog 100 [(.one .str)] (.val (.one .bool)) (fun x h=>f100 N x.1 h):=
 runK_ok envOK hmix (addCall_ok (f157_ok N) (addCall_ok (f156_ok N) (addCall_ok (f155_ok N) noCalls_ok))) (N:=N) (x:=ann100) (fn:=Tryz.f100) (c:=Tryz.f100.body.getD .skip) (by kernel_rfl) (by kernel_rfl) (by kernel_rfl) (by kernel_rfl) (fun _ _=>by kernel_rfl)
noncomputable def f101 (N:Nat) (a0:Int) (h:Heap):Option (Bool×Heap):=
 let x1:Bool:=eqInt a0 0
 (bif x1 then
  (bif x1 then
  some (true,h)
  else
  let x2:Bool:=leInt 20 a0
  (bif x2 then
   let x3:Bool:=leInt a0 29
   some (x3,h)
  else
   some (false,h)))
 else
  let x4:Bool:=eqInt a0 5
  (bif x4 then
  (bif x4 then
   some (true,h)
  else
   let x5:Bool:=leInt 20 a0
   (bif x5 then
   let x6:Bool:=leInt a0 29
   some (x6,h)
   else
   some (false,h)))
  else
  let x7:Bool:=eqInt a0 6
  (bif x7 then
   (bif x7 then
   some (true,h)
   else
   let x8:Bool:=leInt 20 a0
   (bif x8 then
    let x9:Bool:=leInt a0 29
    some (x9,h)
   else
    some (false,h)))
  else
   let x10:Bool:=eqInt a0 1
   (bif x10 then
   (bif x10 then
    some (true,h)
   else
    let x11:Bool:=leInt 20 a0
    (bif x11 then
    let x12:Bool:=leInt a0 29
    some (x12,h)
    else
    some (false,h)))
   else
   let x13:Bool:=eqInt a0 43
   (bif x13 then
    (bif x13 then
    some (true,h)
    else
    let x14:Bool:=leInt 20 a0
    (bif x14 then
     let x15:Bool:=leInt a0 29
     some (x15,h)
    else
     some (false,h)))
   else
    let x16:Bool:=eqInt a0 44
    (bif x16 then
    some (true,h)
    else
    let x17:Bool:=leInt 20 a0
    (bif x17 then
     let x18:Bool:=leInt a0 29
     some (x18,h)
    else
     some (false,h))))))))
noncomputable def ann101:Ann:=.n
theorem f101_ok (N:Nat):FnOK Tryz.prog 101 [(.one (.int .i64))] (.val (.one .bool)) (fun x h=>f101 N x.1 h):=
 runK_ok envOK hmix noCalls_ok (N:=N) (x:=ann101) (fn:=Tryz.f101) (c:=Tryz.f101.body.getD .skip) (by kernel_rfl) (by kernel_rfl) (by kernel_rfl) (by kernel_rfl) (fun _ _=>by kernel_rfl)
noncomputable def f158c159 (N:Nat) (a0:SL) (a1:(Unit)) (h:Heap):Option ((Unit)×Heap):=Va.sortF a0 a1 h
theorem f158c159_ok (N:Nat):FnOK Tryz.prog 158 [(.one .slice),(.clo 159 [])] (.tup []) (fun x h=>f158c159 N x.1 x.2.1 h):=Va.f158_ok N
noncomputable def f162_l2_b (N:Nat) (go:SL→Int→SL→Int→Heap→Option (Out×(SL×Int×Unit)×Heap)) (v0:SL) (v3:Int) (v4:SL) (v5:Int) (h:Heap):Option (Out×(SL×Int×Unit)×Heap):=
 let x10:Bool:=ltInt v5 (Int.ofNat v4.len)
 (bif x10 then
  (ixK v4.a v4.len v5 4 fun q11=>
  (bindV (.val (.agg [(.int .i64),(.int .i64),(.int .i64),(.int .i64)])) (h.cells q11 4) fun (x12:(Int×Int×Int×Int×Unit))=>
  let x13:Int:=wrapA .i64 (v5-1)
  (ixK v4.a v4.len x13 4 fun q14=>
  (bindV (.val (.agg [(.int .i64),(.int .i64),(.int .i64),(.int .i64)])) (h.cells q14 4) fun (x15:(Int×Int×Int×Int×Unit))=>
  (bindV (.val (.one .bool)) (binA E .neq 145 (.tmp 38) (.tmp 43) (.agg [(.int .i64 x12.1),(.int .i64 x12.2.1),(.int .i64 x12.2.2.1),(.int .i64 x12.2.2.2.1)]) (.agg [(.int .i64 x15.1),(.int .i64 x15.2.1),(.int .i64 x15.2.2.1),(.int .i64 x15.2.2.2.1)])) fun (x16:Bool)=>
  (bif x16 then
  (ixK v4.a v4.len v5 4 fun q17=>
  (bindV (.val (.agg [(.int .i64),(.int .i64),(.int .i64),(.int .i64)])) (h.cells q17 4) fun (x18:(Int×Int×Int×Int×Unit))=>
  (ixK v0.a v0.len v3 4 fun q19=>
  (need (h.store q19 [(.int .i64 x18.1),(.int .i64 x18.2.1),(.int .i64 x18.2.2.1),(.int .i64 x18.2.2.2.1)]) fun h20=>
  let x21:Int:=wrapA .i64 (v3+1)
  let x22:Int:=wrapA .i64 (v5+1)
  go v0 x21 v4 x22 h20))))
  else
  let x23:Int:=wrapA .i64 (v5+1)
  go v0 v3 v4 x23 h))))))
 else
  some ((Out.exit 2),(v0,v3,()),h))
noncomputable def f162_l2 (N:Nat) (M:Nat) (v0:SL) (v3:Int) (v4:SL) (v5:Int) (h:Heap):Option (Out×(SL×Int×Unit)×Heap):=iter (fun go s h=>f162_l2_b N (fun v0 v3 v4 v5 h=>go (v0,v3,v4,v5,()) h) s.1 s.2.1 s.2.2.1 s.2.2.2.1 h) M (v0,v3,v4,v5,()) h
theorem f162_l2_succ (N:Nat) (M:Nat) (v0:SL) (v3:Int) (v4:SL) (v5:Int) (h:Heap):f162_l2 N (M+1) v0 v3 v4 v5 h=f162_l2_b N (f162_l2 N M) v0 v3 v4 v5 h:=rfl
noncomputable def f162_l1_b (N:Nat) (go:SL→SL→Int→Heap→Option (Out×(SL×SL×Unit)×Heap)) (v0:SL) (v2:SL) (v3:Int) (h:Heap):Option (Out×(SL×SL×Unit)×Heap):=
 let x2:Bool:=ltInt v3 (Int.ofNat v0.len)
 (bif x2 then
  (ixK v0.a v0.len v3 4 fun q3=>
  (bindV (.val (.agg [(.int .i64),(.int .i64),(.int .i64),(.int .i64)])) (h.cells q3 4) fun (x4:(Int×Int×Int×Int×Unit))=>
  let x5:Int:=wrapA .i64 (v3-1)
  (ixK v0.a v0.len x5 4 fun q6=>
  (bindV (.val (.agg [(.int .i64),(.int .i64),(.int .i64),(.int .i64)])) (h.cells q6 4) fun (x7:(Int×Int×Int×Int×Unit))=>
  (bindV (.val (.one .bool)) (binA E .eql 145 (.tmp 19) (.tmp 24) (.agg [(.int .i64 x4.1),(.int .i64 x4.2.1),(.int .i64 x4.2.2.1),(.int .i64 x4.2.2.2.1)]) (.agg [(.int .i64 x7.1),(.int .i64 x7.2.1),(.int .i64 x7.2.2.1),(.int .i64 x7.2.2.2.1)])) fun (x8:Bool)=>
  (bif x8 then
  (bindV (.val (.one .slice)) (sliceA E h 30 (.slice v0.a v0.len v0.cap v0.sz) (some (.int .i64 v3)) none) fun (x9:SL)=>
  (bind3 (f162_l2 N N v0 v3 x9 1 h) fun _ (j25:(SL×Int×Unit)) h26=>
  (bindV (.val (.one .slice)) (sliceA E h26 30 (.slice j25.1.a j25.1.len j25.1.cap j25.1.sz) (some (.int .i64 j25.2.1)) none) fun (x27:SL)=>
  (bindT (.val (.one .any)) (clearA E 30 (.slice x27.a x27.len x27.cap x27.sz) h26) fun (x28:AV) h29=>
  (bindV (.val (.one .slice)) (sliceA E h29 30 (.slice j25.1.a j25.1.len j25.1.cap j25.1.sz) none (some (.int .i64 j25.2.1))) fun (x30:SL)=>
  some (Out.ret,(j25.1,x30,()),h29))))))
  else
  let x31:Int:=wrapA .i64 (v3+1)
  go v0 v2 x31 h))))))
 else
  some ((Out.exit 0),(v0,v2,()),h))
noncomputable def f162_l1 (N:Nat) (M:Nat) (v0:SL) (v2:SL) (v3:Int) (h:Heap):Option (Out×(SL×SL×Unit)×Heap):=iter (fun go s h=>f162_l1_b N (fun v0 v2 v3 h=>go (v0,v2,v3,()) h) s.1 s.2.1 s.2.2.1 h) M (v0,v2,v3,()) h
theorem f162_l1_succ (N:Nat) (M:Nat) (v0:SL) (v2:SL) (v3:Int) (h:Heap):f162_l1 N (M+1) v0 v2 v3 h=f162_l1_b N (f162_l1 N M) v0 v2 v3 h:=rfl
noncomputable def f162 (N:Nat) (a0:SL) (h:Heap):Option (SL×Heap):=
 let x1:Bool:=ltInt (Int.ofNat a0.len) 2
 (bif x1 then
  some (a0,h)
 else
  (bind3 (f162_l1 N N a0 ⟨none,0,0,0⟩ 1 h) fun o32 (j33:(SL×SL×Unit)) h34=>
  (bif eqOut o32 (.exit 0) then
  some (j33.1,h34)
  else
  some (j33.2.1,h34))))
noncomputable def ann162:Ann:=(.two .n (.two .n (.two (.two .n (.two (.loop [(0,(.one .slice)),(2,(.one .slice)),(3,(.one (.int .i64)))] [(.exit 0),.ret] [(0,(.one .slice)),(2,(.one .slice))] (.two .n (.two (.two (.two .n (.two (.two .n (.two (.two .n (.two (.loop [(0,(.one .slice)),(3,(.one (.int .i64))),(4,(.one .slice)),(5,(.one (.int .i64)))] [(.exit 2)] [(0,(.one .slice)),(3,(.one (.int .i64)))] .n) .n)) .n)) .n)) .n) .n))) .n)) .n)))
theorem f162_ok (N:Nat):FnOK Tryz.prog 162 [(.one .slice)] (.val (.one .slice)) (fun x h=>f162 N x.1 h):=
 runK_ok envOK hmix noCalls_ok (N:=N) (x:=ann162) (fn:=Tryz.f162) (c:=Tryz.f162.body.getD .skip) (by kernel_rfl) (by kernel_rfl) (by kernel_rfl) (by kernel_rfl) (fun _ _=>by kernel_rfl)
noncomputable def f103 (N:Nat) (a0:SL) (h:Heap):Option (SL×Heap):=
 (bindT (.val (.one .slice)) (appendA E 30 30 (.slice none 0 0 0) (.slice a0.a a0.len a0.cap a0.sz) h) fun (x1:SL) h2=>
 (bind2 (f158c159 N x1 (()) h2) fun (x3:(Unit)) h4=>
 (bind2 (f162 N x1 h4) fun (x5:SL) h6=>
 some (x5,h6))))
noncomputable def ann103:Ann:=.n
theorem f103_ok (N:Nat):FnOK Tryz.prog 103 [(.one .slice)] (.val (.one .slice)) (fun x h=>f103 N x.1 h):=
 runK_ok envOK hmix (addCall_ok (f162_ok N) (addCallS_ok (sel:=fun a=>isClo 1 159 a) (f158c159_ok N) noCalls_ok)) (N:=N) (x:=ann103) (fn:=Tryz.f103) (c:=Tryz.f103.body.getD .skip) (by kernel_rfl) (by kernel_rfl) (by kernel_rfl) (by kernel_rfl) (fun _ _=>by kernel_rfl)
noncomputable def f102_l1_b (N:Nat) (go:SL→SL→Bool→Int→Int→Heap→Option (Out×(Bool×Unit)×Heap)) (v0:SL) (v1:SL) (v4:Bool) (v12:Int) (v13:Int) (h:Heap):Option (Out×(Bool×Unit)×Heap):=
 let x2:Bool:=ltInt v13 v12
 (bif x2 then
  (ixK v0.a v0.len v13 4 fun q3=>
  (bindV (.val (.agg [(.int .i64),(.int .i64),(.int .i64),(.int .i64)])) (h.cells q3 4) fun (x4:(Int×Int×Int×Int×Unit))=>
  (ixK v1.a v1.len v13 4 fun q5=>
  (bindV (.val (.agg [(.int .i64),(.int .i64),(.int .i64),(.int .i64)])) (h.cells q5 4) fun (x6:(Int×Int×Int×Int×Unit))=>
  (bindV (.val (.one .bool)) (binA E .neq 145 (.tmp 19) (.tmp 23) (.agg [(.int .i64 x4.1),(.int .i64 x4.2.1),(.int .i64 x4.2.2.1),(.int .i64 x4.2.2.2.1)]) (.agg [(.int .i64 x6.1),(.int .i64 x6.2.1),(.int .i64 x6.2.2.1),(.int .i64 x6.2.2.2.1)])) fun (x7:Bool)=>
  (bif x7 then
  some (Out.ret,(false,()),h)
  else
  let x8:Int:=wrapA .i64 (v13+1)
  go v0 v1 v4 v12 x8 h))))))
 else
  some ((Out.exit 0),(v4,()),h))
noncomputable def f102_l1 (N:Nat) (M:Nat) (v0:SL) (v1:SL) (v4:Bool) (v12:Int) (v13:Int) (h:Heap):Option (Out×(Bool×Unit)×Heap):=iter (fun go s h=>f102_l1_b N (fun v0 v1 v4 v12 v13 h=>go (v0,v1,v4,v12,v13,()) h) s.1 s.2.1 s.2.2.1 s.2.2.2.1 s.2.2.2.2.1 h) M (v0,v1,v4,v12,v13,()) h
theorem f102_l1_succ (N:Nat) (M:Nat) (v0:SL) (v1:SL) (v4:Bool) (v12:Int) (v13:Int) (h:Heap):f102_l1 N (M+1) v0 v1 v4 v12 v13 h=f102_l1_b N (f102_l1 N M) v0 v1 v4 v12 v13 h:=rfl
noncomputable def f102 (N:Nat) (a0:SL) (a1:SL) (h:Heap):Option (Bool×Heap):=
 let x1:Bool:=!eqInt (Int.ofNat a0.len) (Int.ofNat a1.len)
 (bif x1 then
  some (false,h)
 else
  (bind3 (f102_l1 N N a0 a1 false (Int.ofNat a0.len) 0 h) fun o9 (j10:(Bool×Unit)) h11=>
  (bif eqOut o9 (.exit 0) then
  some (true,h11)
  else
  some (j10.1,h11))))
noncomputable def ann102:Ann:=(.two .n (.two .n (.two (.two .n (.two (.loop [(0,(.one .slice)),(1,(.one .slice)),(4,(.one .bool)),(12,(.one (.int .i64))),(13,(.one (.int .i64)))] [(.exit 0),.ret] [(4,(.one .bool))] .n) .n)) .n)))
theorem f102_ok (N:Nat):FnOK Tryz.prog 102 [(.one .slice),(.one .slice)] (.val (.one .bool)) (fun x h=>f102 N x.1 x.2.1 h):=
 runK_ok envOK hmix noCalls_ok (N:=N) (x:=ann102) (fn:=Tryz.f102) (c:=Tryz.f102.body.getD .skip) (by kernel_rfl) (by kernel_rfl) (by kernel_rfl) (by kernel_rfl) (fun _ _=>by kernel_rfl)
noncomputable def f106 (N:Nat) (a0:(Int×Int×Int×Int×Unit)) (h:Heap):Option (Bool×Heap):=
 let h1:Heap:=h.push (.row [(.int .i64 a0.1),(.int .i64 a0.2.1),(.int .i64 a0.2.2.1),(.int .i64 a0.2.2.2.1)] .own)
 (bindV (.val (.one (.int .i64))) (h1.cell ((h.next,0).1,(h.next,0).2+0)) fun (x2:Int)=>
 let x3:Bool:=leInt 0 x2
 (bif x3 then
  (bindV (.val (.one (.int .i64))) (h1.cell ((h.next,0).1,(h.next,0).2+0)) fun (x4:Int)=>
  let x5:Bool:=leInt x4 1048576
  (bif x5 then
  (bindV (.val (.one (.int .i64))) (h1.cell ((h.next,0).1,(h.next,0).2+1)) fun (x6:Int)=>
  let x7:Bool:=leInt 1 x6
  (bif x7 then
   (bindV (.val (.one (.int .i64))) (h1.cell ((h.next,0).1,(h.next,0).2+1)) fun (x8:Int)=>
   let x9:Bool:=leInt x8 8
   (bif x9 then
   (bindV (.val (.one (.int .i64))) (h1.cell ((h.next,0).1,(h.next,0).2+2)) fun (x10:Int)=>
   (bindV (.val (.one (.int .i64))) (h1.cell ((h.next,0).1,(h.next,0).2+3)) fun (x11:Int)=>
   let x12:Int:=(bif ltInt x11 x10 then x11 else x10)
   let x13:Bool:=leInt 0 x12
   (bif x13 then
    (bindV (.val (.one (.int .i64))) (h1.cell ((h.next,0).1,(h.next,0).2+2)) fun (x14:Int)=>
    (bindV (.val (.one (.int .i64))) (h1.cell ((h.next,0).1,(h.next,0).2+3)) fun (x15:Int)=>
    let x16:Int:=(bif ltInt x14 x15 then x15 else x14)
    let x17:Bool:=leInt x16 64
    some (x17,h1)))
   else
    some (false,h1))))
   else
   some (false,h1)))
  else
   some (false,h1)))
  else
  some (false,h1)))
 else
  some (false,h1)))
noncomputable def ann106:Ann:=.n
theorem f106_ok (N:Nat):FnOK Tryz.prog 106 [(.agg [(.int .i64),(.int .i64),(.int .i64),(.int .i64)])] (.val (.one .bool)) (fun x h=>f106 N x.1 h):=
 runK_ok envOK hmix noCalls_ok (N:=N) (x:=ann106) (fn:=Tryz.f106) (c:=Tryz.f106.body.getD .skip) (by kernel_rfl) (by kernel_rfl) (by kernel_rfl) (by kernel_rfl) (fun _ _=>by kernel_rfl)
noncomputable def f105 (N:Nat) (a0:(Int×Int×Int×Int×Unit)) (h:Heap):Option (Bool×Heap):=
 let h1:Heap:=h.push (.row [(.int .i64 a0.1),(.int .i64 a0.2.1),(.int .i64 a0.2.2.1),(.int .i64 a0.2.2.2.1)] .own)
 (bindV (.val (.agg [(.int .i64),(.int .i64),(.int .i64),(.int .i64)])) (h1.cells (h.next,0) 4) fun (x2:(Int×Int×Int×Int×Unit))=>
 (bind2 (f106 N (x2.1,x2.2.1,x2.2.2.1,x2.2.2.2.1,()) h1) fun (x3:Bool) h4=>
 let x5:Bool:=!x3
 some (x5,h4)))
noncomputable def ann105:Ann:=.n
theorem f105_ok (N:Nat):FnOK Tryz.prog 105 [(.agg [(.int .i64),(.int .i64),(.int .i64),(.int .i64)])] (.val (.one .bool)) (fun x h=>f105 N x.1 h):=
 runK_ok envOK hmix (addCall_ok (f106_ok N) noCalls_ok) (N:=N) (x:=ann105) (fn:=Tryz.f105) (c:=Tryz.f105.body.getD .skip) (by kernel_rfl) (by kernel_rfl) (by kernel_rfl) (by kernel_rfl) (fun _ _=>by kernel_rfl)
noncomputable def f163c105_l1_b (N:Nat) (go:SL→(Unit)→Int→Int→Int→Heap→Option (Out×(Int×Unit)×Heap)) (v0:SL) (v1:(Unit)) (v4:Int) (v7:Int) (v8:Int) (h:Heap):Option (Out×(Int×Unit)×Heap):=
 let x1:Bool:=ltInt v8 v7
 (bif x1 then
  (ixK v0.a v0.len v8 4 fun q2=>
  (bindV (.val (.agg [(.int .i64),(.int .i64),(.int .i64),(.int .i64)])) (h.cells q2 4) fun (x3:(Int×Int×Int×Int×Unit))=>
  (bind2 (f105 N (x3.1,x3.2.1,x3.2.2.1,x3.2.2.2.1,()) h) fun (x4:Bool) h5=>
  (bif x4 then
  some (Out.ret,(v8,()),h5)
  else
  let x6:Int:=wrapA .i64 (v8+1)
  go v0 (()) v4 v7 x6 h5))))
 else
  some ((Out.exit 0),(v4,()),h))
noncomputable def f163c105_l1 (N:Nat) (M:Nat) (v0:SL) (v1:(Unit)) (v4:Int) (v7:Int) (v8:Int) (h:Heap):Option (Out×(Int×Unit)×Heap):=iter (fun go s h=>f163c105_l1_b N (fun v0 v1 v4 v7 v8 h=>go (v0,v1,v4,v7,v8,()) h) s.1 s.2.1 s.2.2.1 s.2.2.2.1 s.2.2.2.2.1 h) M (v0,v1,v4,v7,v8,()) h
theorem f163c105_l1_succ (N:Nat) (M:Nat) (v0:SL) (v1:(Unit)) (v4:Int) (v7:Int) (v8:Int) (h:Heap):f163c105_l1 N (M+1) v0 v1 v4 v7 v8 h=f163c105_l1_b N (f163c105_l1 N M) v0 v1 v4 v7 v8 h:=rfl
noncomputable def f163c105 (N:Nat) (a0:SL) (a1:(Unit)) (h:Heap):Option (Int×Heap):=
 (bind3 (f163c105_l1 N N a0 (()) 0 (Int.ofNat a0.len) 0 h) fun o7 (j8:(Int×Unit)) h9=>
 (bif eqOut o7 (.exit 0) then
  some ((-1),h9)
 else
  some (j8.1,h9)))
noncomputable def ann163c105:Ann:=(.two .n (.two (.two .n (.two (.loop [(0,(.one .slice)),(1,(.clo 105 [])),(4,(.one (.int .i64))),(7,(.one (.int .i64))),(8,(.one (.int .i64)))] [(.exit 0),.ret] [(4,(.one (.int .i64)))] .n) .n)) .n))
theorem f163c105_ok (N:Nat):FnOK Tryz.prog 163 [(.one .slice),(.clo 105 [])] (.val (.one (.int .i64))) (fun x h=>f163c105 N x.1 x.2.1 h):=
 runK_ok envOK hmix (addCall_ok (f105_ok N) noCalls_ok) (N:=N) (x:=ann163c105) (fn:=Tryz.f163) (c:=Tryz.f163.body.getD .skip) (by kernel_rfl) (by kernel_rfl) (by kernel_rfl) (by kernel_rfl) (fun _ _=>by kernel_rfl)
noncomputable def f104c105 (N:Nat) (a0:SL) (a1:(Unit)) (h:Heap):Option (Bool×Heap):=
 (bind2 (f163c105 N a0 (()) h) fun (x1:Int) h2=>
 let x3:Bool:=leInt 0 x1
 some (x3,h2))
noncomputable def ann104c105:Ann:=.n
theorem f104c105_ok (N:Nat):FnOK Tryz.prog 104 [(.one .slice),(.clo 105 [])] (.val (.one .bool)) (fun x h=>f104c105 N x.1 x.2.1 h):=
 runK_ok envOK hmix (addCallS_ok (sel:=fun a=>isClo 1 105 a) (f163c105_ok N) noCalls_ok) (N:=N) (x:=ann104c105) (fn:=Tryz.f104) (c:=Tryz.f104.body.getD .skip) (by kernel_rfl) (by kernel_rfl) (by kernel_rfl) (by kernel_rfl) (fun _ _=>by kernel_rfl)
noncomputable def f63 (N:Nat) (a0:dens T36) (h:Heap):Option (Bool×Heap):=
 let h1:Heap:=h.push (.row (CTy.tos T36 a0) .own)
 (bindV (.val (.one .str)) (h1.cell ((h.next,0).1,(h.next,0).2+0)) fun (x2:List UInt8)=>
 (bind2 (f100 N x2 h1) fun (x3:Bool) h4=>
 let x5:Bool:=!x3
 (bif x5 then
  some (false,h4)
 else
  (bindV (.val (.one (.int .i64))) (h4.cell ((h.next,0).1,(h.next,0).2+1)) fun (x6:Int)=>
  (bind2 (f101 N x6 h4) fun (x7:Bool) h8=>
  let x9:Bool:=!x7
  (bif x9 then
  some (false,h8)
  else
  (bindV (.val (.one (.int .i64))) (h8.cell ((h.next,0).1,(h.next,0).2+2)) fun (x10:Int)=>
  let x11:Bool:=ltInt x10 0
  (bif x11 then
   some (false,h8)
  else
   (bindV (.val (.one (.int .i64))) (h8.cell ((h.next,0).1,(h.next,0).2+2)) fun (x12:Int)=>
   let x13:Bool:=ltInt 1048576 x12
   (bif x13 then
   some (false,h8)
   else
   (bindV (.val (.one .slice)) (h8.cell ((h.next,0).1,(h.next,0).2+3)) fun (x14:SL)=>
   let x15:Bool:=ltInt 1000 (Int.ofNat x14.len)
   (bif x15 then
    some (false,h8)
   else
    (bindV (.val (.one .slice)) (h8.cell ((h.next,0).1,(h.next,0).2+3)) fun (x16:SL)=>
    let x17:Bool:=ltInt 0 (Int.ofNat x16.len)
    (bindV (.val (.one (.int .i64))) (h8.cell ((h.next,0).1,(h.next,0).2+1)) fun (x18:Int)=>
    let x19:Bool:=eqInt x18 43
    let x20:Bool:=!(bif x17 then x19 else !x19)
    (bif x20 then
    some (false,h8)
    else
    (bindV (.val (.one (.int .i64))) (h8.cell ((h.next,0).1,(h.next,0).2+1)) fun (x21:Int)=>
    let x22:Bool:=!eqInt x21 0
    (bif x22 then
     (bindV (.val (.agg T32)) (h8.cells ((h.next,0).1,(h.next,0).2+4) 32) fun (x23:dens T32)=>
     (bindV (.val (.one .bool)) (binA E .neq 25 (.tmp 45) (.tmp 46) (.agg (CTy.tos T32 x23)) (.agg (CTy.tos T32 z32))) fun (x24:Bool)=>
     (bif x24 then
     some (false,h8)
     else
     (bindV (.val (.one .slice)) (h8.cell ((h.next,0).1,(h.next,0).2+3)) fun (x25:SL)=>
     (bind2 (f103 N x25 h8) fun (x26:SL) h27=>
     (bindV (.val (.one .slice)) (h27.cell ((h.next,0).1,(h.next,0).2+3)) fun (x28:SL)=>
     (bind2 (f102 N x26 x28 h27) fun (x29:Bool) h30=>
     (bif x29 then
      (bindV (.val (.one .slice)) (h30.cell ((h.next,0).1,(h.next,0).2+3)) fun (x31:SL)=>
      (bind2 (f104c105 N x31 (()) h30) fun (x32:Bool) h33=>
      let x34:Bool:=!x32
      (guardB (bif (sameO (h30.cell ((h.next,0).1,(h.next,0).2+3)) (.slice x31.a x31.len x31.cap x31.sz)) then (bif (sameO (h27.cell ((h.next,0).1,(h.next,0).2+3)) (.slice x28.a x28.len x28.cap x28.sz)) then (bif (sameO (h8.cell ((h.next,0).1,(h.next,0).2+3)) (.slice x28.a x28.len x28.cap x28.sz)) then (bif (sameO (h8.cell ((h.next,0).1,(h.next,0).2+3)) (.slice x25.a x25.len x25.cap x25.sz)) then true else false) else false) else false) else false) (
      some (x34,h33)))))
     else
      (guardB (bif (sameO (h27.cell ((h.next,0).1,(h.next,0).2+3)) (.slice x28.a x28.len x28.cap x28.sz)) then (bif (sameO (h8.cell ((h.next,0).1,(h.next,0).2+3)) (.slice x28.a x28.len x28.cap x28.sz)) then (bif (sameO (h8.cell ((h.next,0).1,(h.next,0).2+3)) (.slice x25.a x25.len x25.cap x25.sz)) then true else false) else false) else false) (
      some (false,h30)))))))))))
    else
     (bindV (.val (.one .slice)) (h8.cell ((h.next,0).1,(h.next,0).2+3)) fun (x35:SL)=>
     (bind2 (f103 N x35 h8) fun (x36:SL) h37=>
     (bindV (.val (.one .slice)) (h37.cell ((h.next,0).1,(h.next,0).2+3)) fun (x38:SL)=>
     (bind2 (f102 N x36 x38 h37) fun (x39:Bool) h40=>
     (bif x39 then
     (bindV (.val (.one .slice)) (h40.cell ((h.next,0).1,(h.next,0).2+3)) fun (x41:SL)=>
     (bind2 (f104c105 N x41 (()) h40) fun (x42:Bool) h43=>
     let x44:Bool:=!x42
     (guardB (bif (sameO (h40.cell ((h.next,0).1,(h.next,0).2+3)) (.slice x41.a x41.len x41.cap x41.sz)) then (bif (sameO (h37.cell ((h.next,0).1,(h.next,0).2+3)) (.slice x38.a x38.len x38.cap x38.sz)) then (bif (sameO (h8.cell ((h.next,0).1,(h.next,0).2+3)) (.slice x38.a x38.len x38.cap x38.sz)) then (bif (sameO (h8.cell ((h.next,0).1,(h.next,0).2+3)) (.slice x35.a x35.len x35.cap x35.sz)) then true else false) else false) else false) else false) (
     some (x44,h43)))))
     else
     (guardB (bif (sameO (h37.cell ((h.next,0).1,(h.next,0).2+3)) (.slice x38.a x38.len x38.cap x38.sz)) then (bif (sameO (h8.cell ((h.next,0).1,(h.next,0).2+3)) (.slice x38.a x38.len x38.cap x38.sz)) then (bif (sameO (h8.cell ((h.next,0).1,(h.next,0).2+3)) (.slice x35.a x35.len x35.cap x35.sz)) then true else false) else false) else false) (
     some (false,h40)))))))))))))))))))))))))
noncomputable def ann63:Ann:=.n
theorem f63_ok (N:Nat):FnOK Tryz.prog 63 [(.agg T36)] (.val (.one .bool)) (fun x h=>f63 N x.1 h):=
 runK_ok envOK hmix (addCallS_ok (sel:=fun a=>isClo 1 105 a) (f104c105_ok N) (addCall_ok (f103_ok N) (addCall_ok (f102_ok N) (addCall_ok (f101_ok N) (addCall_ok (f100_ok N) noCalls_ok))))) (N:=N) (x:=ann63) (fn:=Tryz.f63) (c:=Tryz.f63.body.getD .skip) (by kernel_rfl) (by kernel_rfl) (by kernel_rfl) (by kernel_rfl) (fun _ _=>by kernel_rfl)
noncomputable def f31 (N:Nat) (a0:Option (Nat×Nat)) (a1:dens T32) (h:Heap):Option ((Unit)×Heap):=
 let h1:Heap:=h.push (.row (CTy.tos T32 a1) .own)
 let x2:Bool:=(!a0.isNone)
 (bif x2 then
  (need a0 fun q3=>
  (bindV (.val (.one .slice)) (h1.cell (q3.1,q3.2+0)) fun (x4:SL)=>
  (bindV (.val (.one .slice)) (sliceA E h1 25 (.ptr (some (h.next,0))) none none) fun (x5:SL)=>
  (bindT (.val (.one .slice)) (appendA E 28 28 (.slice x4.a x4.len x4.cap x4.sz) (.slice x5.a x5.len x5.cap x5.sz) h1) fun (x6:SL) h7=>
  (need a0 fun q8=>
  (need (h7.store (q8.1,q8.2+0) [(.slice x6.a x6.len x6.cap x6.sz)]) fun h9=>
  some ((()),h9)))))))
 else
  some ((()),h1))
noncomputable def ann31:Ann:=.n
theorem f31_ok (N:Nat):FnOK Tryz.prog 31 [(.one .ptr),(.agg T32)] (.tup []) (fun x h=>f31 N x.1 x.2.1 h):=
 runK_ok envOK hmix noCalls_ok (N:=N) (x:=ann31) (fn:=Tryz.f31) (c:=Tryz.f31.body.getD .skip) (by kernel_rfl) (by kernel_rfl) (by kernel_rfl) (by kernel_rfl) (fun _ _=>by kernel_rfl)
noncomputable def f32 (N:Nat) (a0:Option (Nat×Nat)) (h:Heap):Option (SL×Heap):=
 (bif a0.isNone then
  some (⟨none,0,0,0⟩,h)
 else
  let h1:Heap:=h.push (.row [] .own)
  (need a0 fun q2=>
  (bindV (.val (.one .slice)) (h1.cell (q2.1,q2.2+0)) fun (x3:SL)=>
  (bindT (.val (.one .slice)) (appendA E 28 28 (.slice (some (h.next,0)) 0 0 1) (.slice x3.a x3.len x3.cap x3.sz) h1) fun (x4:SL) h5=>
  some (x4,h5)))))
noncomputable def ann32:Ann:=.n
theorem f32_ok (N:Nat):FnOK Tryz.prog 32 [(.one .ptr)] (.val (.one .slice)) (fun x h=>f32 N x.1 h):=
 runK_ok envOK hmix noCalls_ok (N:=N) (x:=ann32) (fn:=Tryz.f32) (c:=Tryz.f32.body.getD .skip) (by kernel_rfl) (by kernel_rfl) (by kernel_rfl) (by kernel_rfl) (fun _ _=>by kernel_rfl)
noncomputable def f30_l2_b (N:Nat) (go:Option (Nat×Nat)→Option (Nat×Nat)→SL→Int→Int→SL→Int→Int→Heap→Option (Out×(Option (Nat×Nat)×Option (Nat×Nat)×SL×Int×Int×Unit)×Heap)) (v1:Option (Nat×Nat)) (v4:Option (Nat×Nat)) (v35:SL) (v36:Int) (v37:Int) (v49:SL) (v50:Int) (v51:Int) (h:Heap):Option (Out×(Option (Nat×Nat)×Option (Nat×Nat)×SL×Int×Int×Unit)×Heap):=
 let x36:Bool:=ltInt v51 v50
 (bif x36 then
  (ixK v49.a v49.len v51 1 fun q37=>
  (bindV (.val (.one (.int .i64))) (h.cell q37) fun (x38:Int)=>
  (bind2 (f28 N v4 x38 h) fun (x39:(Unit)) h40=>
  let x41:Int:=wrapA .i64 (v51+1)
  go v1 v4 v35 v36 v37 v49 v50 x41 h40)))
 else
  some ((Out.exit 2),(v1,v4,v35,v36,v37,()),h))
noncomputable def f30_l2 (N:Nat) (M:Nat) (v1:Option (Nat×Nat)) (v4:Option (Nat×Nat)) (v35:SL) (v36:Int) (v37:Int) (v49:SL) (v50:Int) (v51:Int) (h:Heap):Option (Out×(Option (Nat×Nat)×Option (Nat×Nat)×SL×Int×Int×Unit)×Heap):=iter (fun go s h=>f30_l2_b N (fun v1 v4 v35 v36 v37 v49 v50 v51 h=>go (v1,v4,v35,v36,v37,v49,v50,v51,()) h) s.1 s.2.1 s.2.2.1 s.2.2.2.1 s.2.2.2.2.1 s.2.2.2.2.2.1 s.2.2.2.2.2.2.1 s.2.2.2.2.2.2.2.1 h) M (v1,v4,v35,v36,v37,v49,v50,v51,()) h
theorem f30_l2_succ (N:Nat) (M:Nat) (v1:Option (Nat×Nat)) (v4:Option (Nat×Nat)) (v35:SL) (v36:Int) (v37:Int) (v49:SL) (v50:Int) (v51:Int) (h:Heap):f30_l2 N (M+1) v1 v4 v35 v36 v37 v49 v50 v51 h=f30_l2_b N (f30_l2 N M) v1 v4 v35 v36 v37 v49 v50 v51 h:=rfl
noncomputable def f30_l1_b (N:Nat) (go:Option (Nat×Nat)→Option (Nat×Nat)→SL→Int→Int→Heap→Option (Out×(Option (Nat×Nat)×Option (Nat×Nat)×Unit)×Heap)) (v1:Option (Nat×Nat)) (v4:Option (Nat×Nat)) (v35:SL) (v36:Int) (v37:Int) (h:Heap):Option (Out×(Option (Nat×Nat)×Option (Nat×Nat)×Unit)×Heap):=
 let x26:Bool:=ltInt v37 v36
 (bif x26 then
  (ixK v35.a v35.len v37 4 fun q27=>
  (bindV (.val (.agg [(.int .i64),(.int .i64),(.int .i64),(.int .i64)])) (h.cells q27 4) fun (x28:(Int×Int×Int×Int×Unit))=>
  let h29:Heap:=h.push (.row [(.int .i64 0),(.int .i64 0),(.int .i64 0),(.int .i64 0)] .own)
  (need (h29.store (h.next,0) [(.int .i64 x28.1),(.int .i64 x28.2.1),(.int .i64 x28.2.2.1),(.int .i64 x28.2.2.2.1)]) fun h30=>
  (bindV (.val (.one (.int .i64))) (h30.cell ((h.next,0).1,(h.next,0).2+0)) fun (x31:Int)=>
  (bindV (.val (.one (.int .i64))) (h30.cell ((h.next,0).1,(h.next,0).2+1)) fun (x32:Int)=>
  (bindV (.val (.one (.int .i64))) (h30.cell ((h.next,0).1,(h.next,0).2+2)) fun (x33:Int)=>
  (bindV (.val (.one (.int .i64))) (h30.cell ((h.next,0).1,(h.next,0).2+3)) fun (x34:Int)=>
  let h35:Heap:=h30.push (.row [(.int .i64 x31),(.int .i64 x32),(.int .i64 x33),(.int .i64 x34)] .own)
  (bind3 (f30_l2 N N v1 v4 v35 v36 v37 ⟨(some (h30.next,0)),4,4,1⟩ (Int.ofNat 4) 0 h35) fun _ (j43:(Option (Nat×Nat)×Option (Nat×Nat)×SL×Int×Int×Unit)) h44=>
  let x45:Int:=wrapA .i64 (j43.2.2.2.2.1+1)
  go j43.1 j43.2.1 j43.2.2.1 j43.2.2.2.1 x45 h44))))))))
 else
  some ((Out.exit 0),(v1,v4,()),h))
noncomputable def f30_l1 (N:Nat) (M:Nat) (v1:Option (Nat×Nat)) (v4:Option (Nat×Nat)) (v35:SL) (v36:Int) (v37:Int) (h:Heap):Option (Out×(Option (Nat×Nat)×Option (Nat×Nat)×Unit)×Heap):=iter (fun go s h=>f30_l1_b N (fun v1 v4 v35 v36 v37 h=>go (v1,v4,v35,v36,v37,()) h) s.1 s.2.1 s.2.2.1 s.2.2.2.1 s.2.2.2.2.1 h) M (v1,v4,v35,v36,v37,()) h
theorem f30_l1_succ (N:Nat) (M:Nat) (v1:Option (Nat×Nat)) (v4:Option (Nat×Nat)) (v35:SL) (v36:Int) (v37:Int) (h:Heap):f30_l1 N (M+1) v1 v4 v35 v36 v37 h=f30_l1_b N (f30_l1 N M) v1 v4 v35 v36 v37 h:=rfl
noncomputable def f30 (N:Nat) (a0:dens T36) (h:Heap):Option ((SL×AV×Unit)×Heap):=
 let h1:Heap:=h.push (.row (CTy.tos T36 a0) .own)
 (bindV (.val (.agg T36)) (h1.cells (h.next,0) 36) fun (x2:dens T36)=>
 (bind2 (f63 N x2 h1) fun (x3:Bool) h4=>
 let x5:Bool:=!x3
 (bif x5 then
  (bind2 (f25 N 1 0 h4) fun (x6:AV) h7=>
  some ((⟨none,0,0,0⟩,x6,()),h7))
 else
  (bind2 (f26 N  h4) fun (x8:Option (Nat×Nat)) h9=>
  (bind2 (f27 N x8 [85,82,69,67] h9) fun (x10:(Unit)) h11=>
  (bindV (.val (.one .str)) (h11.cell ((h.next,0).1,(h.next,0).2+0)) fun (x12:List UInt8)=>
  (bind2 (f27 N x8 x12 h11) fun (x13:(Unit)) h14=>
  (bindV (.val (.one (.int .i64))) (h14.cell ((h.next,0).1,(h.next,0).2+1)) fun (x15:Int)=>
  (bind2 (f28 N x8 x15 h14) fun (x16:(Unit)) h17=>
  (bindV (.val (.one (.int .i64))) (h17.cell ((h.next,0).1,(h.next,0).2+2)) fun (x18:Int)=>
  (bind2 (f28 N x8 x18 h17) fun (x19:(Unit)) h20=>
  (bindV (.val (.one .slice)) (h20.cell ((h.next,0).1,(h.next,0).2+3)) fun (x21:SL)=>
  let x22:Int:=wrapA .u64 (Int.ofNat x21.len)
  (bind2 (f29 N x8 x22 h20) fun (x23:(Unit)) h24=>
  (bindV (.val (.one .slice)) (h24.cell ((h.next,0).1,(h.next,0).2+3)) fun (x25:SL)=>
  (bind3 (f30_l1 N N (some (h.next,0)) x8 x25 (Int.ofNat x25.len) 0 h24) fun _ (j47:(Option (Nat×Nat)×Option (Nat×Nat)×Unit)) h48=>
  (need j47.1 fun q49=>
  (bindV (.val (.agg T32)) (h48.cells (q49.1,q49.2+4) 32) fun (x50:dens T32)=>
  (bind2 (f31 N j47.2.1 x50 h48) fun (x51:(Unit)) h52=>
  (bind2 (f32 N j47.2.1 h52) fun (x53:SL) h54=>
  some ((x53,AV.nilIface,()),h54))))))))))))))))))))
noncomputable def ann30:Ann:=(.two .n (.two .n (.two .n (.two .n (.two .n (.two .n (.two .n (.two .n (.two (.two .n (.two (.loop [(1,(.one .ptr)),(4,(.one .ptr)),(35,(.one .slice)),(36,(.one (.int .i64))),(37,(.one (.int .i64)))] [(.exit 0)] [(1,(.one .ptr)),(4,(.one .ptr))] (.two .n (.two .n (.two (.two (.two .n (.two .n (.two (.loop [(1,(.one .ptr)),(4,(.one .ptr)),(35,(.one .slice)),(36,(.one (.int .i64))),(37,(.one (.int .i64))),(49,(.one .slice)),(50,(.one (.int .i64))),(51,(.one (.int .i64)))] [(.exit 2)] [(1,(.one .ptr)),(4,(.one .ptr)),(35,(.one .slice)),(36,(.one (.int .i64))),(37,(.one (.int .i64)))] .n) .n))) .n) .n)))) .n)) .n)))))))))
theorem f30_ok (N:Nat):FnOK Tryz.prog 30 [(.agg T36)] (.tup [(.one .slice),(.one .any)]) (fun x h=>f30 N x.1 h):=
 runK_ok envOK hmix (addCall_ok (f63_ok N) (addCall_ok (f32_ok N) (addCall_ok (f31_ok N) (addCall_ok (f29_ok N) (addCall_ok (f28_ok N) (addCall_ok (f27_ok N) (addCall_ok (f26_ok N) (addCall_ok (f25_ok N) noCalls_ok)))))))) (N:=N) (x:=ann30) (fn:=Tryz.f30) (c:=Tryz.f30.body.getD .skip) (by kernel_rfl) (by kernel_rfl) (by kernel_rfl) (by kernel_rfl) (fun _ _=>by kernel_rfl)
noncomputable def f7_l1_b (N:Nat) (go:Option (Nat×Nat)→SL→AV→Option (Nat×Nat)→SL→Int→Int→Heap→Option (Out×(Option (Nat×Nat)×SL×AV×Option (Nat×Nat)×Unit)×Heap)) (v1:Option (Nat×Nat)) (v2:SL) (v3:AV) (v4:Option (Nat×Nat)) (v52:SL) (v53:Int) (v54:Int) (h:Heap):Option (Out×(Option (Nat×Nat)×SL×AV×Option (Nat×Nat)×Unit)×Heap):=
 let x37:Bool:=ltInt v54 v53
 (bif x37 then
  (ixK v52.a v52.len v54 36 fun q38=>
  (bindV (.val (.agg T36)) (h.cells q38 36) fun (x39:dens T36)=>
  let h40:Heap:=h.push (.row ((.str [])::(.int .i64 0)::(.int .i64 0)::(.slice none 0 0 0)::CTy.tos T32 z32) .own)
  (need (h40.store (h.next,0) (CTy.tos T36 x39)) fun h41=>
  (bindV (.val (.agg T36)) (h41.cells (h.next,0) 36) fun (x42:dens T36)=>
  (bind2 (f30 N x42 h41) fun (x43:(SL×AV×Unit)) h44=>
  (bindV (.val (.one .bool)) (binA E .neq 34 (.tmp 63) (.const .nilIface) x43.2.1 AV.nilIface) fun (x45:Bool)=>
  (bif x45 then
  (bind2 (f25 N 1 0 h44) fun (x46:AV) h47=>
  some (Out.ret,(v1,⟨none,0,0,0⟩,x46,v4,()),h47))
  else
  (bindV (.val (.one .str)) (convS E 28 9 (.slice x43.1.a x43.1.len x43.1.cap x43.1.sz) h44) fun (x48:List UInt8)=>
  (bind2 (f27 N v4 x48 h44) fun (x49:(Unit)) h50=>
  let x51:Int:=wrapA .i64 (v54+1)
  go v1 v2 v3 v4 v52 v53 x51 h50)))))))))
 else
  some ((Out.exit 0),(v1,v2,v3,v4,()),h))
noncomputable def f7_l1 (N:Nat) (M:Nat) (v1:Option (Nat×Nat)) (v2:SL) (v3:AV) (v4:Option (Nat×Nat)) (v52:SL) (v53:Int) (v54:Int) (h:Heap):Option (Out×(Option (Nat×Nat)×SL×AV×Option (Nat×Nat)×Unit)×Heap):=iter (fun go s h=>f7_l1_b N (fun v1 v2 v3 v4 v52 v53 v54 h=>go (v1,v2,v3,v4,v52,v53,v54,()) h) s.1 s.2.1 s.2.2.1 s.2.2.2.1 s.2.2.2.2.1 s.2.2.2.2.2.1 s.2.2.2.2.2.2.1 h) M (v1,v2,v3,v4,v52,v53,v54,()) h
theorem f7_l1_succ (N:Nat) (M:Nat) (v1:Option (Nat×Nat)) (v2:SL) (v3:AV) (v4:Option (Nat×Nat)) (v52:SL) (v53:Int) (v54:Int) (h:Heap):f7_l1 N (M+1) v1 v2 v3 v4 v52 v53 v54 h=f7_l1_b N (f7_l1 N M) v1 v2 v3 v4 v52 v53 v54 h:=rfl
noncomputable def f7 (N:Nat) (a0:dens T35) (h:Heap):Option ((SL×AV×Unit)×Heap):=
 let h1:Heap:=h.push (.row (CTy.tos T35 a0) .own)
 (bindV (.val (.one (.int .i64))) (h1.cell ((h.next,0).1,(h.next,0).2+0)) fun (x2:Int)=>
 let x3:Bool:=ltInt x2 0
 (bif x3 then
  (bind2 (f25 N 1 0 h1) fun (x4:AV) h5=>
  some ((⟨none,0,0,0⟩,x4,()),h5))
 else
  (bindV (.val (.one (.int .i64))) (h1.cell ((h.next,0).1,(h.next,0).2+0)) fun (x6:Int)=>
  let x7:Bool:=ltInt 44 x6
  (bif x7 then
  (bind2 (f25 N 1 0 h1) fun (x8:AV) h9=>
  some ((⟨none,0,0,0⟩,x8,()),h9))
  else
  (bindV (.val (.one (.int .i64))) (h1.cell ((h.next,0).1,(h.next,0).2+1)) fun (x10:Int)=>
  let x11:Bool:=ltInt x10 0
  (bif x11 then
   (bind2 (f25 N 1 0 h1) fun (x12:AV) h13=>
   some ((⟨none,0,0,0⟩,x12,()),h13))
  else
   (bindV (.val (.one (.int .i64))) (h1.cell ((h.next,0).1,(h.next,0).2+1)) fun (x14:Int)=>
   let x15:Bool:=ltInt 4194304 x14
   (bif x15 then
   (bind2 (f25 N 1 0 h1) fun (x16:AV) h17=>
   some ((⟨none,0,0,0⟩,x16,()),h17))
   else
   (bindV (.val (.one .slice)) (h1.cell ((h.next,0).1,(h.next,0).2+2)) fun (x18:SL)=>
   let x19:Bool:=ltInt 64 (Int.ofNat x18.len)
   (bif x19 then
    (bind2 (f25 N 1 0 h1) fun (x20:AV) h21=>
    some ((⟨none,0,0,0⟩,x20,()),h21))
   else
    (bind2 (f26 N  h1) fun (x22:Option (Nat×Nat)) h23=>
    (bind2 (f27 N x22 [85,86,69,82] h23) fun (x24:(Unit)) h25=>
    (bindV (.val (.one (.int .i64))) (h25.cell ((h.next,0).1,(h.next,0).2+0)) fun (x26:Int)=>
    (bind2 (f28 N x22 x26 h25) fun (x27:(Unit)) h28=>
    (bindV (.val (.one (.int .i64))) (h28.cell ((h.next,0).1,(h.next,0).2+1)) fun (x29:Int)=>
    (bind2 (f28 N x22 x29 h28) fun (x30:(Unit)) h31=>
    (bindV (.val (.one .slice)) (h31.cell ((h.next,0).1,(h.next,0).2+2)) fun (x32:SL)=>
    let x33:Int:=wrapA .u64 (Int.ofNat x32.len)
    (bind2 (f29 N x22 x33 h31) fun (x34:(Unit)) h35=>
    (bindV (.val (.one .slice)) (h35.cell ((h.next,0).1,(h.next,0).2+2)) fun (x36:SL)=>
    (bind3 (f7_l1 N N (some (h.next,0)) ⟨none,0,0,0⟩ AV.nilIface x22 x36 (Int.ofNat x36.len) 0 h35) fun o52 (j53:(Option (Nat×Nat)×SL×AV×Option (Nat×Nat)×Unit)) h54=>
    (bif eqOut o52 (.exit 0) then
    (need j53.1 fun q55=>
    (bindV (.val (.agg T32)) (h54.cells (q55.1,q55.2+3) 32) fun (x56:dens T32)=>
    (bind2 (f31 N j53.2.2.2.1 x56 h54) fun (x57:(Unit)) h58=>
    (bind2 (f32 N j53.2.2.2.1 h58) fun (x59:SL) h60=>
    some ((x59,AV.nilIface,()),h60)))))
    else
    some ((j53.2.1,j53.2.2.1,()),h54))))))))))))))))))))))
noncomputable def ann7:Ann:=(.two .n (.two .n (.two .n (.two .n (.two .n (.two .n (.two .n (.two (.two .n (.two (.loop [(1,(.one .ptr)),(2,(.one .slice)),(3,(.one .any)),(4,(.one .ptr)),(52,(.one .slice)),(53,(.one (.int .i64))),(54,(.one (.int .i64)))] [(.exit 0),.ret] [(1,(.one .ptr)),(2,(.one .slice)),(3,(.one .any)),(4,(.one .ptr))] .n) .n)) .n))))))))
theorem f7_ok (N:Nat):FnOK Tryz.prog 7 [(.agg T35)] (.tup [(.one .slice),(.one .any)]) (fun x h=>f7 N x.1 h):=
 runK_ok envOK hmix (addCall_ok (f32_ok N) (addCall_ok (f31_ok N) (addCall_ok (f30_ok N) (addCall_ok (f29_ok N) (addCall_ok (f28_ok N) (addCall_ok (f27_ok N) (addCall_ok (f26_ok N) (addCall_ok (f25_ok N) noCalls_ok)))))))) (N:=N) (x:=ann7) (fn:=Tryz.f7) (c:=Tryz.f7.body.getD .skip) (by kernel_rfl) (by kernel_rfl) (by kernel_rfl) (by kernel_rfl) (fun _ _=>by kernel_rfl)
noncomputable def f35_r (N:Nat) (rec35:Int→Heap→Option (List UInt8×Heap)) (a0:Int) (h:Heap):Option (List UInt8×Heap):=
 let x1:Bool:=ltInt a0 128
 (bif x1 then
  let x2:Int:=wrapA .u8 a0
  let h3:Heap:=h.push (.row [(.int .u8 x2)] .own)
  (bindV (.val (.one .str)) (convS E 28 9 (.slice (some (h.next,0)) 1 1 1) h3) fun (x4:List UInt8)=>
  some (x4,h3))
 else
  (bindV (.val (.one (.int .u64))) (bitsA .and .u64 a0 127) fun (x5:Int)=>
  let x6:Int:=wrapA .u8 x5
  (bindV (.val (.one (.int .u8))) (bitsA .or .u8 x6 128) fun (x7:Int)=>
  let h8:Heap:=h.push (.row [(.int .u8 x7)] .own)
  (bindV (.val (.one .str)) (convS E 28 9 (.slice (some (h.next,0)) 1 1 1) h8) fun (x9:List UInt8)=>
  (bindV (.val (.one (.int .u64))) (binInt .quo .u64 a0 128) fun (x10:Int)=>
  (bind2 (rec35 x10 h8) fun (x11:List UInt8) h12=>
  (bindV (.val (.one .str)) (binStr .add x9 x11) fun (x13:List UInt8)=>
  (guardB (bif (sameO (convS E 28 9 (.slice (some (h.next,0)) 1 1 1) h12) (.str x9)) then (bif (sameO (convS E 28 9 (.slice (some (h.next,0)) 1 1 1) h8) (.str x9)) then true else false) else false) (
  (guardB (((blkEq (h12.t.get h.next) (h8.t.get h.next))&&true)&&true) (
  some (x13,h12))))))))))))
noncomputable def ann35:Ann:=.n
noncomputable def cl_f35 (N M:Nat):((Int→Heap→Option (List UInt8×Heap))×Unit):=Nat.rec (fun _ _=>none,()) (fun _ r=>(f35_r N r.1,())) M
noncomputable def f35 (N M:Nat):Int→Heap→Option (List UInt8×Heap):=(cl_f35 N M).1
theorem f35_succ (N M:Nat) (a0:Int) (h:Heap):f35 N (M+1) a0 h=f35_r N (f35 N M) a0 h:=rfl
theorem cl_f35_okm (N:Nat):∀ M:Nat,(FnOK Tryz.prog 35 [(.one (.int .u64))] (.val (.one .str)) (fun x h=>f35 N M x.1 h))∧True
 | 0=>⟨(fun xs h r h' hx=>by cases hx),trivial⟩
 | M+1=>⟨runK_ok envOK hmix (addCall_ok (cl_f35_okm N M).1 noCalls_ok) (N:=N) (x:=ann35) (fn:=Tryz.f35) (c:=Tryz.f35.body.getD .skip) (by kernel_rfl) (by kernel_rfl) (by kernel_rfl) (by kernel_rfl) (fun _ _=>by kernel_rfl),trivial⟩
theorem f35_ok (N:Nat):FnOK Tryz.prog 35 [(.one (.int .u64))] (.val (.one .str)) (fun x h=>f35 N N x.1 h):=(cl_f35_okm N N).1
noncomputable def f33 (N:Nat) (a0:List UInt8) (h:Heap):Option (List UInt8×Heap):=
 let x1:Int:=wrapA .u64 (Int.ofNat a0.length)
 (bind2 (f35 N N x1 h) fun (x2:List UInt8) h3=>
 (bindV (.val (.one .str)) (binStr .add x2 a0) fun (x4:List UInt8)=>
 some (x4,h3)))
noncomputable def ann33:Ann:=.n
theorem f33_ok (N:Nat):FnOK Tryz.prog 33 [(.one .str)] (.val (.one .str)) (fun x h=>f33 N x.1 h):=
 runK_ok envOK hmix (addCall_ok (f35_ok N) noCalls_ok) (N:=N) (x:=ann33) (fn:=Tryz.f33) (c:=Tryz.f33.body.getD .skip) (by kernel_rfl) (by kernel_rfl) (by kernel_rfl) (by kernel_rfl) (fun _ _=>by kernel_rfl)
noncomputable def f34 (N:Nat) (a0:Int) (h:Heap):Option (List UInt8×Heap):=
 let x1:Bool:=ltInt a0 0
 (bif x1 then
  let x2:Int:=wrapA .i64 (a0+1)
  let x3:Int:=wrapA .i64 (0-x2)
  let x4:Int:=wrapA .u64 x3
  let x5:Int:=wrapA .u64 (x4 * 2)
  let x6:Int:=wrapA .u64 (x5+1)
  (bind2 (f35 N N x6 h) fun (x7:List UInt8) h8=>
  some (x7,h8))
 else
  let x9:Int:=wrapA .u64 a0
  let x10:Int:=wrapA .u64 (x9 * 2)
  (bind2 (f35 N N x10 h) fun (x11:List UInt8) h12=>
  some (x11,h12)))
noncomputable def ann34:Ann:=.n
theorem f34_ok (N:Nat):FnOK Tryz.prog 34 [(.one (.int .i64))] (.val (.one .str)) (fun x h=>f34 N x.1 h):=
 runK_ok envOK hmix (addCall_ok (f35_ok N) noCalls_ok) (N:=N) (x:=ann34) (fn:=Tryz.f34) (c:=Tryz.f34.body.getD .skip) (by kernel_rfl) (by kernel_rfl) (by kernel_rfl) (by kernel_rfl) (fun _ _=>by kernel_rfl)
noncomputable def f184 (N:Nat) (a0:Int) (h:Heap):Option (Bool×Heap):=
 let x1:Bool:=leInt 97 a0
 (bif x1 then
  let x2:Bool:=leInt a0 122
  (bif x2 then
  some (true,h)
  else
  let x3:Bool:=leInt 65 a0
  (bif x3 then
   let x4:Bool:=leInt a0 90
   (bif x4 then
   some (true,h)
   else
   let x5:Bool:=eqInt a0 95
   some (x5,h))
  else
   let x6:Bool:=eqInt a0 95
   some (x6,h)))
 else
  let x7:Bool:=leInt 65 a0
  (bif x7 then
  let x8:Bool:=leInt a0 90
  (bif x8 then
   some (true,h)
  else
   let x9:Bool:=eqInt a0 95
   some (x9,h))
  else
  let x10:Bool:=eqInt a0 95
  some (x10,h)))
noncomputable def ann184:Ann:=.n
theorem f184_ok (N:Nat):FnOK Tryz.prog 184 [(.one (.int .u8))] (.val (.one .bool)) (fun x h=>f184 N x.1 h):=
 runK_ok envOK hmix noCalls_ok (N:=N) (x:=ann184) (fn:=Tryz.f184) (c:=Tryz.f184.body.getD .skip) (by kernel_rfl) (by kernel_rfl) (by kernel_rfl) (by kernel_rfl) (fun _ _=>by kernel_rfl)
noncomputable def f210 (N:Nat) (a0:Int) (h:Heap):Option (Bool×Heap):=
 let x1:Bool:=leInt 48 a0
 (bif x1 then
  let x2:Bool:=leInt a0 57
  some (x2,h)
 else
  some (false,h))
noncomputable def ann210:Ann:=.n
theorem f210_ok (N:Nat):FnOK Tryz.prog 210 [(.one (.int .u8))] (.val (.one .bool)) (fun x h=>f210 N x.1 h):=
 runK_ok envOK hmix noCalls_ok (N:=N) (x:=ann210) (fn:=Tryz.f210) (c:=Tryz.f210.body.getD .skip) (by kernel_rfl) (by kernel_rfl) (by kernel_rfl) (by kernel_rfl) (fun _ _=>by kernel_rfl)
noncomputable def f185_l1_b (N:Nat) (go:List UInt8→Int→Heap→Option (Out×(Int×Unit)×Heap)) (v0:List UInt8) (v1:Int) (h:Heap):Option (Out×(Int×Unit)×Heap):=
 let x1:Bool:=ltInt v1 (Int.ofNat v0.length)
 (bif x1 then
  (strK v0 v1 fun x2=>
  (bind2 (f184 N x2 h) fun (x3:Bool) h4=>
  (bif x3 then
  let x5:Int:=wrapA .i64 (v1+1)
  go v0 x5 h4
  else
  (strK v0 v1 fun x6=>
  (bind2 (f210 N x6 h4) fun (x7:Bool) h8=>
  (bif x7 then
   let x9:Int:=wrapA .i64 (v1+1)
   go v0 x9 h8
  else
   some ((Out.exit 0),(v1,()),h8)))))))
 else
  some ((Out.exit 0),(v1,()),h))
noncomputable def f185_l1 (N:Nat) (M:Nat) (v0:List UInt8) (v1:Int) (h:Heap):Option (Out×(Int×Unit)×Heap):=iter (fun go s h=>f185_l1_b N (fun v0 v1 h=>go (v0,v1,()) h) s.1 s.2.1 h) M (v0,v1,()) h
theorem f185_l1_succ (N:Nat) (M:Nat) (v0:List UInt8) (v1:Int) (h:Heap):f185_l1 N (M+1) v0 v1 h=f185_l1_b N (f185_l1 N M) v0 v1 h:=rfl
noncomputable def f185 (N:Nat) (a0:List UInt8) (a1:Int) (h:Heap):Option (Int×Heap):=
 (bind3 (f185_l1 N N a0 a1 h) fun _ (j11:(Int×Unit)) h12=>
 some (j11.1,h12))
noncomputable def ann185:Ann:=(.two .n (.two (.two (.loop [(0,(.one .str)),(1,(.one (.int .i64)))] [(.exit 0)] [(1,(.one (.int .i64)))] .n) .n) .n))
theorem f185_ok (N:Nat):FnOK Tryz.prog 185 [(.one .str),(.one (.int .i64))] (.val (.one (.int .i64))) (fun x h=>f185 N x.1 x.2.1 h):=
 runK_ok envOK hmix (addCall_ok (f210_ok N) (addCall_ok (f184_ok N) noCalls_ok)) (N:=N) (x:=ann185) (fn:=Tryz.f185) (c:=Tryz.f185.body.getD .skip) (by kernel_rfl) (by kernel_rfl) (by kernel_rfl) (by kernel_rfl) (fun _ _=>by kernel_rfl)
noncomputable def f144 (N:Nat) (a0:List UInt8) (h:Heap):Option (Bool×Heap):=
 let x1:Bool:=leInt 1 (Int.ofNat a0.length)
 (bif x1 then
  let x2:Bool:=leInt (Int.ofNat a0.length) 32
  (bif x2 then
  (strK a0 0 fun x3=>
  (bind2 (f184 N x3 h) fun (x4:Bool) h5=>
  (bif x4 then
   (bind2 (f185 N a0 0 h5) fun (x6:Int) h7=>
   let x8:Bool:=eqInt x6 (Int.ofNat a0.length)
   some (x8,h7))
  else
   some (false,h5))))
  else
  some (false,h))
 else
  some (false,h))
noncomputable def ann144:Ann:=.n
theorem f144_ok (N:Nat):FnOK Tryz.prog 144 [(.one .str)] (.val (.one .bool)) (fun x h=>f144 N x.1 h):=
 runK_ok envOK hmix (addCall_ok (f185_ok N) (addCall_ok (f184_ok N) noCalls_ok)) (N:=N) (x:=ann144) (fn:=Tryz.f144) (c:=Tryz.f144.body.getD .skip) (by kernel_rfl) (by kernel_rfl) (by kernel_rfl) (by kernel_rfl) (fun _ _=>by kernel_rfl)
noncomputable def f145_l1_b (N:Nat) (go:List UInt8→Bool→SL→Int→Heap→Option (Out×(Bool×Unit)×Heap)) (v0:List UInt8) (v2:Bool) (v3:SL) (v4:Int) (h:Heap):Option (Out×(Bool×Unit)×Heap):=
 let x2:Bool:=ltInt v4 (Int.ofNat v3.len)
 (bif x2 then
  (ixK v3.a v3.len v4 1 fun q3=>
  (bindV (.val (.one .str)) (h.cell q3) fun (x4:List UInt8)=>
  let x5:Bool:=eqBytes x4 v0
  (bif x5 then
  some (Out.ret,(true,()),h)
  else
  let x6:Int:=wrapA .i64 (v4+1)
  go v0 v2 v3 x6 h)))
 else
  some ((Out.exit 0),(v2,()),h))
noncomputable def f145_l1 (N:Nat) (M:Nat) (v0:List UInt8) (v2:Bool) (v3:SL) (v4:Int) (h:Heap):Option (Out×(Bool×Unit)×Heap):=iter (fun go s h=>f145_l1_b N (fun v0 v2 v3 v4 h=>go (v0,v2,v3,v4,()) h) s.1 s.2.1 s.2.2.1 s.2.2.2.1 h) M (v0,v2,v3,v4,()) h
theorem f145_l1_succ (N:Nat) (M:Nat) (v0:List UInt8) (v2:Bool) (v3:SL) (v4:Int) (h:Heap):f145_l1 N (M+1) v0 v2 v3 v4 h=f145_l1_b N (f145_l1 N M) v0 v2 v3 v4 h:=rfl
noncomputable def f145 (N:Nat) (a0:List UInt8) (h:Heap):Option (Bool×Heap):=
 let h1:Heap:=h.push (.row [(.str [102,110]),(.str [115,116,114,117,99,116]),(.str [112,117,98]),(.str [108,101,116]),(.str [109,117,116]),(.str [105,102]),(.str [101,108,115,101]),(.str [119,104,105,108,101]),(.str [108,111,111,112]),(.str [98,114,101,97,107]),(.str [99,111,110,116,105,110,117,101]),(.str [114,101,116,117,114,110]),(.str [100,114,111,112]),(.str [116,114,117,101]),(.str [102,97,108,115,101]),(.str [105,110,116]),(.str [98,111,111,108])] .own)
 (bind3 (f145_l1 N N a0 false ⟨(some (h.next,0)),17,17,1⟩ 0 h1) fun o7 (j8:(Bool×Unit)) h9=>
 (bif eqOut o7 (.exit 0) then
  some (false,h9)
 else
  some (j8.1,h9)))
noncomputable def ann145:Ann:=(.two .n (.two .n (.two (.two .n (.two (.loop [(0,(.one .str)),(2,(.one .bool)),(3,(.one .slice)),(4,(.one (.int .i64)))] [(.exit 0),.ret] [(2,(.one .bool))] .n) .n)) .n)))
theorem f145_ok (N:Nat):FnOK Tryz.prog 145 [(.one .str)] (.val (.one .bool)) (fun x h=>f145 N x.1 h):=
 runK_ok envOK hmix noCalls_ok (N:=N) (x:=ann145) (fn:=Tryz.f145) (c:=Tryz.f145.body.getD .skip) (by kernel_rfl) (by kernel_rfl) (by kernel_rfl) (by kernel_rfl) (fun _ _=>by kernel_rfl)
noncomputable def f88 (N:Nat) (a0:List UInt8) (h:Heap):Option (Bool×Heap):=
 (bind2 (f144 N a0 h) fun (x1:Bool) h2=>
 (bif x1 then
  (bind2 (f145 N a0 h2) fun (x3:Bool) h4=>
  let x5:Bool:=!x3
  some (x5,h4))
 else
  some (false,h2)))
noncomputable def ann88:Ann:=.n
theorem f88_ok (N:Nat):FnOK Tryz.prog 88 [(.one .str)] (.val (.one .bool)) (fun x h=>f88 N x.1 h):=
 runK_ok envOK hmix (addCall_ok (f145_ok N) (addCall_ok (f144_ok N) noCalls_ok)) (N:=N) (x:=ann88) (fn:=Tryz.f88) (c:=Tryz.f88.body.getD .skip) (by kernel_rfl) (by kernel_rfl) (by kernel_rfl) (by kernel_rfl) (fun _ _=>by kernel_rfl)
noncomputable def f107 (N:Nat) (a0:(Int×Int×Int×Int×Unit)) (a1:(Int×Int×Int×Int×Unit)) (h:Heap):Option (Bool×Heap):=
 let h1:Heap:=h.push (.row [(.int .i64 a0.1),(.int .i64 a0.2.1),(.int .i64 a0.2.2.1),(.int .i64 a0.2.2.2.1)] .own)
 let h2:Heap:=h1.push (.row [(.int .i64 a1.1),(.int .i64 a1.2.1),(.int .i64 a1.2.2.1),(.int .i64 a1.2.2.2.1)] .own)
 (bindV (.val (.one (.int .i64))) (h2.cell ((h.next,0).1,(h.next,0).2+0)) fun (x3:Int)=>
 (bindV (.val (.one (.int .i64))) (h2.cell ((h1.next,0).1,(h1.next,0).2+0)) fun (x4:Int)=>
 let x5:Bool:=!eqInt x3 x4
 (bif x5 then
  (bindV (.val (.one (.int .i64))) (h2.cell ((h.next,0).1,(h.next,0).2+0)) fun (x6:Int)=>
  (bindV (.val (.one (.int .i64))) (h2.cell ((h1.next,0).1,(h1.next,0).2+0)) fun (x7:Int)=>
  let x8:Bool:=ltInt x6 x7
  some (x8,h2)))
 else
  (bindV (.val (.one (.int .i64))) (h2.cell ((h.next,0).1,(h.next,0).2+1)) fun (x9:Int)=>
  (bindV (.val (.one (.int .i64))) (h2.cell ((h1.next,0).1,(h1.next,0).2+1)) fun (x10:Int)=>
  let x11:Bool:=!eqInt x9 x10
  (bif x11 then
  (bindV (.val (.one (.int .i64))) (h2.cell ((h.next,0).1,(h.next,0).2+1)) fun (x12:Int)=>
  (bindV (.val (.one (.int .i64))) (h2.cell ((h1.next,0).1,(h1.next,0).2+1)) fun (x13:Int)=>
  let x14:Bool:=ltInt x12 x13
  some (x14,h2)))
  else
  (bindV (.val (.one (.int .i64))) (h2.cell ((h.next,0).1,(h.next,0).2+2)) fun (x15:Int)=>
  (bindV (.val (.one (.int .i64))) (h2.cell ((h1.next,0).1,(h1.next,0).2+2)) fun (x16:Int)=>
  let x17:Bool:=!eqInt x15 x16
  (bif x17 then
   (bindV (.val (.one (.int .i64))) (h2.cell ((h.next,0).1,(h.next,0).2+2)) fun (x18:Int)=>
   (bindV (.val (.one (.int .i64))) (h2.cell ((h1.next,0).1,(h1.next,0).2+2)) fun (x19:Int)=>
   let x20:Bool:=ltInt x18 x19
   some (x20,h2)))
  else
   (bindV (.val (.one (.int .i64))) (h2.cell ((h.next,0).1,(h.next,0).2+3)) fun (x21:Int)=>
   (bindV (.val (.one (.int .i64))) (h2.cell ((h1.next,0).1,(h1.next,0).2+3)) fun (x22:Int)=>
   let x23:Bool:=ltInt x21 x22
   some (x23,h2))))))))))))
noncomputable def ann107:Ann:=.n
theorem f107_ok (N:Nat):FnOK Tryz.prog 107 [(.agg [(.int .i64),(.int .i64),(.int .i64),(.int .i64)]),(.agg [(.int .i64),(.int .i64),(.int .i64),(.int .i64)])] (.val (.one .bool)) (fun x h=>f107 N x.1 x.2.1 h):=
 runK_ok envOK hmix noCalls_ok (N:=N) (x:=ann107) (fn:=Tryz.f107) (c:=Tryz.f107.body.getD .skip) (by kernel_rfl) (by kernel_rfl) (by kernel_rfl) (by kernel_rfl) (fun _ _=>by kernel_rfl)
noncomputable def f64_l1_b (N:Nat) (go:Option (Nat×Nat)→Bool→Int→Heap→Option (Out×(Bool×Unit)×Heap)) (v1:Option (Nat×Nat)) (v2:Bool) (v4:Int) (h:Heap):Option (Out×(Bool×Unit)×Heap):=
 (need v1 fun q140=>
 (bindV (.val (.one .slice)) (h.cell (q140.1,q140.2+3)) fun (x141:SL)=>
 let x142:Bool:=ltInt v4 (Int.ofNat x141.len)
 (bif x142 then
  (need (α:=Sum ((Option (Nat×Nat)×Bool×Int×Unit)×Heap) (Sum ((Bool×Unit)×Heap) (Empty))) (
  (need v1 fun q143=>
  (bindV (.val (.one .slice)) (h.cell (q143.1,q143.2+3)) fun (x144:SL)=>
  (ixK x144.a x144.len v4 4 fun q145=>
  (bindV (.val (.agg [(.int .i64),(.int .i64),(.int .i64),(.int .i64)])) (h.cells q145 4) fun (x146:(Int×Int×Int×Int×Unit))=>
  let h147:Heap:=h.push (.row [(.int .i64 0),(.int .i64 0),(.int .i64 0),(.int .i64 0)] .own)
  (need (h147.store (h.next,0) [(.int .i64 x146.1),(.int .i64 x146.2.1),(.int .i64 x146.2.2.1),(.int .i64 x146.2.2.2.1)]) fun h148=>
  (bindV (.val (.one (.int .i64))) (h148.cell ((h.next,0).1,(h.next,0).2+0)) fun (x149:Int)=>
  let x150:Bool:=ltInt x149 0
  (bif x150 then
   some (Sum.inr (Sum.inl ((false,()),h148)))
  else
   (bindV (.val (.one (.int .i64))) (h148.cell ((h.next,0).1,(h.next,0).2+0)) fun (x151:Int)=>
   let x152:Bool:=ltInt 1048576 x151
   (bif x152 then
   some (Sum.inr (Sum.inl ((false,()),h148)))
   else
   (bindV (.val (.one (.int .i64))) (h148.cell ((h.next,0).1,(h.next,0).2+1)) fun (x153:Int)=>
   let x154:Bool:=ltInt x153 1
   (bif x154 then
    some (Sum.inr (Sum.inl ((false,()),h148)))
   else
    (bindV (.val (.one (.int .i64))) (h148.cell ((h.next,0).1,(h.next,0).2+1)) fun (x155:Int)=>
    let x156:Bool:=ltInt 8 x155
    (bif x156 then
    some (Sum.inr (Sum.inl ((false,()),h148)))
    else
    (bindV (.val (.one (.int .i64))) (h148.cell ((h.next,0).1,(h.next,0).2+2)) fun (x157:Int)=>
    let x158:Bool:=ltInt x157 0
    (bif x158 then
     some (Sum.inr (Sum.inl ((false,()),h148)))
    else
     (bindV (.val (.one (.int .i64))) (h148.cell ((h.next,0).1,(h.next,0).2+2)) fun (x159:Int)=>
     let x160:Bool:=ltInt 64 x159
     (bif x160 then
     some (Sum.inr (Sum.inl ((false,()),h148)))
     else
     (bindV (.val (.one (.int .i64))) (h148.cell ((h.next,0).1,(h.next,0).2+3)) fun (x161:Int)=>
     let x162:Bool:=ltInt x161 0
     (bif x162 then
      some (Sum.inr (Sum.inl ((false,()),h148)))
     else
      (bindV (.val (.one (.int .i64))) (h148.cell ((h.next,0).1,(h.next,0).2+3)) fun (x163:Int)=>
      let x164:Bool:=ltInt 64 x163
      (bif x164 then
      some (Sum.inr (Sum.inl ((false,()),h148)))
      else
      let x165:Bool:=ltInt 0 v4
      (bif x165 then
       (need v1 fun q166=>
       (bindV (.val (.one .slice)) (h148.cell (q166.1,q166.2+3)) fun (x167:SL)=>
       let x168:Int:=wrapA .i64 (v4-1)
       (ixK x167.a x167.len x168 4 fun q169=>
       (bindV (.val (.agg [(.int .i64),(.int .i64),(.int .i64),(.int .i64)])) (h148.cells q169 4) fun (x170:(Int×Int×Int×Int×Unit))=>
       (bindV (.val (.agg [(.int .i64),(.int .i64),(.int .i64),(.int .i64)])) (h148.cells (h.next,0) 4) fun (x171:(Int×Int×Int×Int×Unit))=>
       (bind2 (f107 N (x170.1,x170.2.1,x170.2.2.1,x170.2.2.2.1,()) (x171.1,x171.2.1,x171.2.2.1,x171.2.2.2.1,()) h148) fun (x172:Bool) h173=>
       let x174:Bool:=!x172
       (bif x174 then
       some (Sum.inr (Sum.inl ((false,()),h173)))
       else
       some (Sum.inl ((v1,v2,v4,()),h173)))))))))
      else
       some (Sum.inl ((v1,v2,v4,()),h148))))))))))))))))))))))))) fun j175=>
  (jcase j175 (fun (j176:(Option (Nat×Nat)×Bool×Int×Unit)) h177=>
  let x179:Int:=wrapA .i64 (j176.2.2.1+1)
  go j176.1 j176.2.1 x179 h177) fun j178=>
  (jcase j178 (fun (j180:(Bool×Unit)) h181=>
  some (Out.ret,(j180.1,()),h181)) fun _=>
  none)))
 else
  some ((Out.exit 0),(v2,()),h))))
noncomputable def f64_l1 (N:Nat) (M:Nat) (v1:Option (Nat×Nat)) (v2:Bool) (v4:Int) (h:Heap):Option (Out×(Bool×Unit)×Heap):=iter (fun go s h=>f64_l1_b N (fun v1 v2 v4 h=>go (v1,v2,v4,()) h) s.1 s.2.1 s.2.2.1 h) M (v1,v2,v4,()) h
theorem f64_l1_succ (N:Nat) (M:Nat) (v1:Option (Nat×Nat)) (v2:Bool) (v4:Int) (h:Heap):f64_l1 N (M+1) v1 v2 v4 h=f64_l1_b N (f64_l1 N M) v1 v2 v4 h:=rfl
noncomputable def f64 (N:Nat) (a0:dens T36) (h:Heap):Option (Bool×Heap):=
 let h1:Heap:=h.push (.row (CTy.tos T36 a0) .own)
 (bindV (.val (.one (.int .i64))) (h1.cell ((h.next,0).1,(h.next,0).2+1)) fun (x2:Int)=>
 (need (α:=Sum ((Option (Nat×Nat)×Bool×Unit)×Heap) (Sum ((Bool×Unit)×Heap) (Empty))) (
  (bindV (.val (.one .str)) (h1.cell ((h.next,0).1,(h.next,0).2+0)) fun (x3:List UInt8)=>
  (bind2 (f88 N x3 h1) fun (x4:Bool) h5=>
  let x6:Bool:=!x4
  (bif x6 then
  some (Sum.inr (Sum.inl ((false,()),h5)))
  else
  let x7:Bool:=eqInt x2 0
  (bif x7 then
   (bindV (.val (.one (.int .i64))) (h5.cell ((h.next,0).1,(h.next,0).2+2)) fun (x8:Int)=>
   let x9:Bool:=ltInt x8 0
   (bif x9 then
   some (Sum.inr (Sum.inl ((false,()),h5)))
   else
   (bindV (.val (.one (.int .i64))) (h5.cell ((h.next,0).1,(h.next,0).2+2)) fun (x10:Int)=>
   let x11:Bool:=ltInt 1048576 x10
   (bif x11 then
    some (Sum.inr (Sum.inl ((false,()),h5)))
   else
    (bindV (.val (.one .slice)) (h5.cell ((h.next,0).1,(h.next,0).2+3)) fun (x12:SL)=>
    let x13:Bool:=ltInt 0 (Int.ofNat x12.len)
    let x14:Bool:=eqInt x2 43
    let x15:Bool:=!(bif x13 then x14 else !x14)
    (bif x15 then
    some (Sum.inr (Sum.inl ((false,()),h5)))
    else
    (bindV (.val (.one .slice)) (h5.cell ((h.next,0).1,(h.next,0).2+3)) fun (x16:SL)=>
    let x17:Bool:=ltInt 1000 (Int.ofNat x16.len)
    (bif x17 then
     some (Sum.inr (Sum.inl ((false,()),h5)))
    else
     let x18:Bool:=!eqInt x2 0
     (bif x18 then
     (bindV (.val (.agg T32)) (h5.cells ((h.next,0).1,(h.next,0).2+4) 32) fun (x19:dens T32)=>
     (bindV (.val (.one .bool)) (binA E .neq 25 (.tmp 75) (.tmp 76) (.agg (CTy.tos T32 x19)) (.agg (CTy.tos T32 z32))) fun (x20:Bool)=>
     (bif x20 then
      some (Sum.inr (Sum.inl ((false,()),h5)))
     else
      some (Sum.inl (((some (h.next,0)),false,()),h5)))))
     else
     some (Sum.inl (((some (h.next,0)),false,()),h5)))))))))))
  else
   let x21:Bool:=eqInt x2 1
   (bif x21 then
   (bindV (.val (.one (.int .i64))) (h5.cell ((h.next,0).1,(h.next,0).2+2)) fun (x22:Int)=>
   let x23:Bool:=ltInt x22 0
   (bif x23 then
    some (Sum.inr (Sum.inl ((false,()),h5)))
   else
    (bindV (.val (.one (.int .i64))) (h5.cell ((h.next,0).1,(h.next,0).2+2)) fun (x24:Int)=>
    let x25:Bool:=ltInt 1048576 x24
    (bif x25 then
    some (Sum.inr (Sum.inl ((false,()),h5)))
    else
    (bindV (.val (.one .slice)) (h5.cell ((h.next,0).1,(h.next,0).2+3)) fun (x26:SL)=>
    let x27:Bool:=ltInt 0 (Int.ofNat x26.len)
    let x28:Bool:=eqInt x2 43
    let x29:Bool:=!(bif x27 then x28 else !x28)
    (bif x29 then
     some (Sum.inr (Sum.inl ((false,()),h5)))
    else
     (bindV (.val (.one .slice)) (h5.cell ((h.next,0).1,(h.next,0).2+3)) fun (x30:SL)=>
     let x31:Bool:=ltInt 1000 (Int.ofNat x30.len)
     (bif x31 then
     some (Sum.inr (Sum.inl ((false,()),h5)))
     else
     let x32:Bool:=!eqInt x2 0
     (bif x32 then
      (bindV (.val (.agg T32)) (h5.cells ((h.next,0).1,(h.next,0).2+4) 32) fun (x33:dens T32)=>
      (bindV (.val (.one .bool)) (binA E .neq 25 (.tmp 75) (.tmp 76) (.agg (CTy.tos T32 x33)) (.agg (CTy.tos T32 z32))) fun (x34:Bool)=>
      (bif x34 then
      some (Sum.inr (Sum.inl ((false,()),h5)))
      else
      some (Sum.inl (((some (h.next,0)),false,()),h5)))))
     else
      some (Sum.inl (((some (h.next,0)),false,()),h5)))))))))))
   else
   let x35:Bool:=eqInt x2 5
   (bif x35 then
    (bindV (.val (.one (.int .i64))) (h5.cell ((h.next,0).1,(h.next,0).2+2)) fun (x36:Int)=>
    let x37:Bool:=ltInt x36 0
    (bif x37 then
    some (Sum.inr (Sum.inl ((false,()),h5)))
    else
    (bindV (.val (.one (.int .i64))) (h5.cell ((h.next,0).1,(h.next,0).2+2)) fun (x38:Int)=>
    let x39:Bool:=ltInt 1048576 x38
    (bif x39 then
     some (Sum.inr (Sum.inl ((false,()),h5)))
    else
     (bindV (.val (.one .slice)) (h5.cell ((h.next,0).1,(h.next,0).2+3)) fun (x40:SL)=>
     let x41:Bool:=ltInt 0 (Int.ofNat x40.len)
     let x42:Bool:=eqInt x2 43
     let x43:Bool:=!(bif x41 then x42 else !x42)
     (bif x43 then
     some (Sum.inr (Sum.inl ((false,()),h5)))
     else
     (bindV (.val (.one .slice)) (h5.cell ((h.next,0).1,(h.next,0).2+3)) fun (x44:SL)=>
     let x45:Bool:=ltInt 1000 (Int.ofNat x44.len)
     (bif x45 then
      some (Sum.inr (Sum.inl ((false,()),h5)))
     else
      let x46:Bool:=!eqInt x2 0
      (bif x46 then
      (bindV (.val (.agg T32)) (h5.cells ((h.next,0).1,(h.next,0).2+4) 32) fun (x47:dens T32)=>
      (bindV (.val (.one .bool)) (binA E .neq 25 (.tmp 75) (.tmp 76) (.agg (CTy.tos T32 x47)) (.agg (CTy.tos T32 z32))) fun (x48:Bool)=>
      (bif x48 then
       some (Sum.inr (Sum.inl ((false,()),h5)))
      else
       some (Sum.inl (((some (h.next,0)),false,()),h5)))))
      else
      some (Sum.inl (((some (h.next,0)),false,()),h5)))))))))))
   else
    let x49:Bool:=eqInt x2 6
    (bif x49 then
    (bindV (.val (.one (.int .i64))) (h5.cell ((h.next,0).1,(h.next,0).2+2)) fun (x50:Int)=>
    let x51:Bool:=ltInt x50 0
    (bif x51 then
     some (Sum.inr (Sum.inl ((false,()),h5)))
    else
     (bindV (.val (.one (.int .i64))) (h5.cell ((h.next,0).1,(h.next,0).2+2)) fun (x52:Int)=>
     let x53:Bool:=ltInt 1048576 x52
     (bif x53 then
     some (Sum.inr (Sum.inl ((false,()),h5)))
     else
     (bindV (.val (.one .slice)) (h5.cell ((h.next,0).1,(h.next,0).2+3)) fun (x54:SL)=>
     let x55:Bool:=ltInt 0 (Int.ofNat x54.len)
     let x56:Bool:=eqInt x2 43
     let x57:Bool:=!(bif x55 then x56 else !x56)
     (bif x57 then
      some (Sum.inr (Sum.inl ((false,()),h5)))
     else
      (bindV (.val (.one .slice)) (h5.cell ((h.next,0).1,(h.next,0).2+3)) fun (x58:SL)=>
      let x59:Bool:=ltInt 1000 (Int.ofNat x58.len)
      (bif x59 then
      some (Sum.inr (Sum.inl ((false,()),h5)))
      else
      let x60:Bool:=!eqInt x2 0
      (bif x60 then
       (bindV (.val (.agg T32)) (h5.cells ((h.next,0).1,(h.next,0).2+4) 32) fun (x61:dens T32)=>
       (bindV (.val (.one .bool)) (binA E .neq 25 (.tmp 75) (.tmp 76) (.agg (CTy.tos T32 x61)) (.agg (CTy.tos T32 z32))) fun (x62:Bool)=>
       (bif x62 then
       some (Sum.inr (Sum.inl ((false,()),h5)))
       else
       some (Sum.inl (((some (h.next,0)),false,()),h5)))))
      else
       some (Sum.inl (((some (h.next,0)),false,()),h5)))))))))))
    else
    let x63:Bool:=leInt 20 x2
    (bif x63 then
     let x64:Bool:=leInt x2 29
     (bif x64 then
     (bindV (.val (.one (.int .i64))) (h5.cell ((h.next,0).1,(h.next,0).2+2)) fun (x65:Int)=>
     let x66:Bool:=ltInt x65 0
     (bif x66 then
      some (Sum.inr (Sum.inl ((false,()),h5)))
     else
      (bindV (.val (.one (.int .i64))) (h5.cell ((h.next,0).1,(h.next,0).2+2)) fun (x67:Int)=>
      let x68:Bool:=ltInt 1048576 x67
      (bif x68 then
      some (Sum.inr (Sum.inl ((false,()),h5)))
      else
      (bindV (.val (.one .slice)) (h5.cell ((h.next,0).1,(h.next,0).2+3)) fun (x69:SL)=>
      let x70:Bool:=ltInt 0 (Int.ofNat x69.len)
      let x71:Bool:=eqInt x2 43
      let x72:Bool:=!(bif x70 then x71 else !x71)
      (bif x72 then
       some (Sum.inr (Sum.inl ((false,()),h5)))
      else
       (bindV (.val (.one .slice)) (h5.cell ((h.next,0).1,(h.next,0).2+3)) fun (x73:SL)=>
       let x74:Bool:=ltInt 1000 (Int.ofNat x73.len)
       (bif x74 then
       some (Sum.inr (Sum.inl ((false,()),h5)))
       else
       let x75:Bool:=!eqInt x2 0
       (bif x75 then
        (bindV (.val (.agg T32)) (h5.cells ((h.next,0).1,(h.next,0).2+4) 32) fun (x76:dens T32)=>
        (bindV (.val (.one .bool)) (binA E .neq 25 (.tmp 75) (.tmp 76) (.agg (CTy.tos T32 x76)) (.agg (CTy.tos T32 z32))) fun (x77:Bool)=>
        (bif x77 then
        some (Sum.inr (Sum.inl ((false,()),h5)))
        else
        some (Sum.inl (((some (h.next,0)),false,()),h5)))))
       else
        some (Sum.inl (((some (h.next,0)),false,()),h5)))))))))))
     else
     let x78:Bool:=eqInt x2 43
     (bif x78 then
      (bindV (.val (.one (.int .i64))) (h5.cell ((h.next,0).1,(h.next,0).2+2)) fun (x79:Int)=>
      let x80:Bool:=ltInt x79 0
      (bif x80 then
      some (Sum.inr (Sum.inl ((false,()),h5)))
      else
      (bindV (.val (.one (.int .i64))) (h5.cell ((h.next,0).1,(h.next,0).2+2)) fun (x81:Int)=>
      let x82:Bool:=ltInt 1048576 x81
      (bif x82 then
       some (Sum.inr (Sum.inl ((false,()),h5)))
      else
       (bindV (.val (.one .slice)) (h5.cell ((h.next,0).1,(h.next,0).2+3)) fun (x83:SL)=>
       let x84:Bool:=ltInt 0 (Int.ofNat x83.len)
       let x85:Bool:=eqInt x2 43
       let x86:Bool:=!(bif x84 then x85 else !x85)
       (bif x86 then
       some (Sum.inr (Sum.inl ((false,()),h5)))
       else
       (bindV (.val (.one .slice)) (h5.cell ((h.next,0).1,(h.next,0).2+3)) fun (x87:SL)=>
       let x88:Bool:=ltInt 1000 (Int.ofNat x87.len)
       (bif x88 then
        some (Sum.inr (Sum.inl ((false,()),h5)))
       else
        let x89:Bool:=!eqInt x2 0
        (bif x89 then
        (bindV (.val (.agg T32)) (h5.cells ((h.next,0).1,(h.next,0).2+4) 32) fun (x90:dens T32)=>
        (bindV (.val (.one .bool)) (binA E .neq 25 (.tmp 75) (.tmp 76) (.agg (CTy.tos T32 x90)) (.agg (CTy.tos T32 z32))) fun (x91:Bool)=>
        (bif x91 then
         some (Sum.inr (Sum.inl ((false,()),h5)))
        else
         some (Sum.inl (((some (h.next,0)),false,()),h5)))))
        else
        some (Sum.inl (((some (h.next,0)),false,()),h5)))))))))))
     else
      let x92:Bool:=eqInt x2 44
      let x93:Bool:=!x92
      (bif x93 then
      some (Sum.inr (Sum.inl ((false,()),h5)))
      else
      (bindV (.val (.one (.int .i64))) (h5.cell ((h.next,0).1,(h.next,0).2+2)) fun (x94:Int)=>
      let x95:Bool:=ltInt x94 0
      (bif x95 then
       some (Sum.inr (Sum.inl ((false,()),h5)))
      else
       (bindV (.val (.one (.int .i64))) (h5.cell ((h.next,0).1,(h.next,0).2+2)) fun (x96:Int)=>
       let x97:Bool:=ltInt 1048576 x96
       (bif x97 then
       some (Sum.inr (Sum.inl ((false,()),h5)))
       else
       (bindV (.val (.one .slice)) (h5.cell ((h.next,0).1,(h.next,0).2+3)) fun (x98:SL)=>
       let x99:Bool:=ltInt 0 (Int.ofNat x98.len)
       let x100:Bool:=eqInt x2 43
       let x101:Bool:=!(bif x99 then x100 else !x100)
       (bif x101 then
        some (Sum.inr (Sum.inl ((false,()),h5)))
       else
        (bindV (.val (.one .slice)) (h5.cell ((h.next,0).1,(h.next,0).2+3)) fun (x102:SL)=>
        let x103:Bool:=ltInt 1000 (Int.ofNat x102.len)
        (bif x103 then
        some (Sum.inr (Sum.inl ((false,()),h5)))
        else
        let x104:Bool:=!eqInt x2 0
        (bif x104 then
         (bindV (.val (.agg T32)) (h5.cells ((h.next,0).1,(h.next,0).2+4) 32) fun (x105:dens T32)=>
         (bindV (.val (.one .bool)) (binA E .neq 25 (.tmp 75) (.tmp 76) (.agg (CTy.tos T32 x105)) (.agg (CTy.tos T32 z32))) fun (x106:Bool)=>
         (bif x106 then
         some (Sum.inr (Sum.inl ((false,()),h5)))
         else
         some (Sum.inl (((some (h.next,0)),false,()),h5)))))
        else
         some (Sum.inl (((some (h.next,0)),false,()),h5))))))))))))))
    else
     let x107:Bool:=eqInt x2 43
     (bif x107 then
     (bindV (.val (.one (.int .i64))) (h5.cell ((h.next,0).1,(h.next,0).2+2)) fun (x108:Int)=>
     let x109:Bool:=ltInt x108 0
     (bif x109 then
      some (Sum.inr (Sum.inl ((false,()),h5)))
     else
      (bindV (.val (.one (.int .i64))) (h5.cell ((h.next,0).1,(h.next,0).2+2)) fun (x110:Int)=>
      let x111:Bool:=ltInt 1048576 x110
      (bif x111 then
      some (Sum.inr (Sum.inl ((false,()),h5)))
      else
      (bindV (.val (.one .slice)) (h5.cell ((h.next,0).1,(h.next,0).2+3)) fun (x112:SL)=>
      let x113:Bool:=ltInt 0 (Int.ofNat x112.len)
      let x114:Bool:=eqInt x2 43
      let x115:Bool:=!(bif x113 then x114 else !x114)
      (bif x115 then
       some (Sum.inr (Sum.inl ((false,()),h5)))
      else
       (bindV (.val (.one .slice)) (h5.cell ((h.next,0).1,(h.next,0).2+3)) fun (x116:SL)=>
       let x117:Bool:=ltInt 1000 (Int.ofNat x116.len)
       (bif x117 then
       some (Sum.inr (Sum.inl ((false,()),h5)))
       else
       let x118:Bool:=!eqInt x2 0
       (bif x118 then
        (bindV (.val (.agg T32)) (h5.cells ((h.next,0).1,(h.next,0).2+4) 32) fun (x119:dens T32)=>
        (bindV (.val (.one .bool)) (binA E .neq 25 (.tmp 75) (.tmp 76) (.agg (CTy.tos T32 x119)) (.agg (CTy.tos T32 z32))) fun (x120:Bool)=>
        (bif x120 then
        some (Sum.inr (Sum.inl ((false,()),h5)))
        else
        some (Sum.inl (((some (h.next,0)),false,()),h5)))))
       else
        some (Sum.inl (((some (h.next,0)),false,()),h5)))))))))))
     else
     let x121:Bool:=eqInt x2 44
     let x122:Bool:=!x121
     (bif x122 then
      some (Sum.inr (Sum.inl ((false,()),h5)))
     else
      (bindV (.val (.one (.int .i64))) (h5.cell ((h.next,0).1,(h.next,0).2+2)) fun (x123:Int)=>
      let x124:Bool:=ltInt x123 0
      (bif x124 then
      some (Sum.inr (Sum.inl ((false,()),h5)))
      else
      (bindV (.val (.one (.int .i64))) (h5.cell ((h.next,0).1,(h.next,0).2+2)) fun (x125:Int)=>
      let x126:Bool:=ltInt 1048576 x125
      (bif x126 then
       some (Sum.inr (Sum.inl ((false,()),h5)))
      else
       (bindV (.val (.one .slice)) (h5.cell ((h.next,0).1,(h.next,0).2+3)) fun (x127:SL)=>
       let x128:Bool:=ltInt 0 (Int.ofNat x127.len)
       let x129:Bool:=eqInt x2 43
       let x130:Bool:=!(bif x128 then x129 else !x129)
       (bif x130 then
       some (Sum.inr (Sum.inl ((false,()),h5)))
       else
       (bindV (.val (.one .slice)) (h5.cell ((h.next,0).1,(h.next,0).2+3)) fun (x131:SL)=>
       let x132:Bool:=ltInt 1000 (Int.ofNat x131.len)
       (bif x132 then
        some (Sum.inr (Sum.inl ((false,()),h5)))
       else
        let x133:Bool:=!eqInt x2 0
        (bif x133 then
        (bindV (.val (.agg T32)) (h5.cells ((h.next,0).1,(h.next,0).2+4) 32) fun (x134:dens T32)=>
        (bindV (.val (.one .bool)) (binA E .neq 25 (.tmp 75) (.tmp 76) (.agg (CTy.tos T32 x134)) (.agg (CTy.tos T32 z32))) fun (x135:Bool)=>
        (bif x135 then
         some (Sum.inr (Sum.inl ((false,()),h5)))
        else
         some (Sum.inl (((some (h.next,0)),false,()),h5)))))
        else
        some (Sum.inl (((some (h.next,0)),false,()),h5)))))))))))))))))))))) fun j136=>
 (jcase j136 (fun (j137:(Option (Nat×Nat)×Bool×Unit)) h138=>
  (bind3 (f64_l1 N N j137.1 j137.2.1 0 h138) fun o183 (j184:(Bool×Unit)) h185=>
  (bif eqOut o183 (.exit 0) then
  some (true,h185)
  else
  some (j184.1,h185)))) fun j139=>
 (jcase j139 (fun (j186:(Bool×Unit)) h187=>
  some (j186.1,h187)) fun _=>
 none))))
noncomputable def ann64:Ann:=(.two .n (.two .n (.two (.joinO [(.norm,[(1,(.one .ptr)),(2,(.one .bool))]),(.ret,[(2,(.one .bool))])] .n) (.two (.two .n (.two (.loop [(1,(.one .ptr)),(2,(.one .bool)),(4,(.one (.int .i64)))] [(.exit 0),.ret] [(2,(.one .bool))] (.two .n (.two (.joinO [(.norm,[(1,(.one .ptr)),(2,(.one .bool)),(4,(.one (.int .i64)))]),(.ret,[(2,(.one .bool))])] .n) .n))) .n)) .n))))
theorem f64_ok (N:Nat):FnOK Tryz.prog 64 [(.agg T36)] (.val (.one .bool)) (fun x h=>f64 N x.1 h):=
 runK_ok envOK hmix (addCall_ok (f88_ok N) (addCall_ok (f107_ok N) noCalls_ok)) (N:=N) (x:=ann64) (fn:=Tryz.f64) (c:=Tryz.f64.body.getD .skip) (by kernel_rfl) (by kernel_rfl) (by kernel_rfl) (by kernel_rfl) (fun _ _=>by kernel_rfl)
noncomputable def f37_l1_b (N:Nat) (go:Option (Nat×Nat)→SL→Int→Heap→Option (Out×(SL×Unit)×Heap)) (v1:Option (Nat×Nat)) (v3:SL) (v4:Int) (h:Heap):Option (Out×(SL×Unit)×Heap):=
 let x2:Bool:=ltInt v4 32
 (bif x2 then
  (ixK v1 32 v4 1 fun q3=>
  (bindV (.val (.one (.int .u8))) (h.cell q3) fun (x4:Int)=>
  let h5:Heap:=h.push (.row [(.int .u8 x4)] .own)
  (bindT (.val (.one .slice)) (appendA E 28 28 (.slice v3.a v3.len v3.cap v3.sz) (.slice (some (h.next,0)) 1 1 1) h5) fun (x6:SL) h7=>
  let x8:Int:=wrapA .i64 (v4+1)
  go v1 x6 x8 h7)))
 else
  some ((Out.exit 0),(v3,()),h))
noncomputable def f37_l1 (N:Nat) (M:Nat) (v1:Option (Nat×Nat)) (v3:SL) (v4:Int) (h:Heap):Option (Out×(SL×Unit)×Heap):=iter (fun go s h=>f37_l1_b N (fun v1 v3 v4 h=>go (v1,v3,v4,()) h) s.1 s.2.1 s.2.2.1 h) M (v1,v3,v4,()) h
theorem f37_l1_succ (N:Nat) (M:Nat) (v1:Option (Nat×Nat)) (v3:SL) (v4:Int) (h:Heap):f37_l1 N (M+1) v1 v3 v4 h=f37_l1_b N (f37_l1 N M) v1 v3 v4 h:=rfl
noncomputable def f37 (N:Nat) (a0:dens T32) (h:Heap):Option (List UInt8×Heap):=
 let h1:Heap:=h.push (.row (CTy.tos T32 a0) .own)
 (bind3 (f37_l1 N N (some (h.next,0)) ⟨none,0,0,0⟩ 0 h1) fun _ (j10:(SL×Unit)) h11=>
 (bindV (.val (.one .str)) (convS E 28 9 (.slice j10.1.a j10.1.len j10.1.cap j10.1.sz) h11) fun (x12:List UInt8)=>
 some (x12,h11)))
noncomputable def ann37:Ann:=(.two .n (.two .n (.two (.two .n (.two (.loop [(1,(.one .ptr)),(3,(.one .slice)),(4,(.one (.int .i64)))] [(.exit 0)] [(3,(.one .slice))] .n) .n)) .n)))
theorem f37_ok (N:Nat):FnOK Tryz.prog 37 [(.agg T32)] (.val (.one .str)) (fun x h=>f37 N x.1 h):=
 runK_ok envOK hmix noCalls_ok (N:=N) (x:=ann37) (fn:=Tryz.f37) (c:=Tryz.f37.body.getD .skip) (by kernel_rfl) (by kernel_rfl) (by kernel_rfl) (by kernel_rfl) (fun _ _=>by kernel_rfl)
noncomputable def f36_l1_b (N:Nat) (go:Option (Nat×Nat)→List UInt8→Int→Heap→Option (Out×(Option (Nat×Nat)×List UInt8×Unit)×Heap)) (v1:Option (Nat×Nat)) (v4:List UInt8) (v5:Int) (h:Heap):Option (Out×(Option (Nat×Nat)×List UInt8×Unit)×Heap):=
 (need v1 fun q25=>
 (bindV (.val (.one .slice)) (h.cell (q25.1,q25.2+3)) fun (x26:SL)=>
 let x27:Bool:=ltInt v5 (Int.ofNat x26.len)
 (bif x27 then
  (need v1 fun q28=>
  (bindV (.val (.one .slice)) (h.cell (q28.1,q28.2+3)) fun (x29:SL)=>
  (ixK x29.a x29.len v5 4 fun q30=>
  (bindV (.val (.agg [(.int .i64),(.int .i64),(.int .i64),(.int .i64)])) (h.cells q30 4) fun (x31:(Int×Int×Int×Int×Unit))=>
  let h32:Heap:=h.push (.row [(.int .i64 0),(.int .i64 0),(.int .i64 0),(.int .i64 0)] .own)
  (need (h32.store (h.next,0) [(.int .i64 x31.1),(.int .i64 x31.2.1),(.int .i64 x31.2.2.1),(.int .i64 x31.2.2.2.1)]) fun h33=>
  (bindV (.val (.one (.int .i64))) (h33.cell ((h.next,0).1,(h.next,0).2+0)) fun (x34:Int)=>
  (bind2 (f34 N x34 h33) fun (x35:List UInt8) h36=>
  (bindV (.val (.one .str)) (binStr .add v4 x35) fun (x37:List UInt8)=>
  (bindV (.val (.one (.int .i64))) (h36.cell ((h.next,0).1,(h.next,0).2+1)) fun (x38:Int)=>
  (bind2 (f34 N x38 h36) fun (x39:List UInt8) h40=>
  (bindV (.val (.one .str)) (binStr .add x37 x39) fun (x41:List UInt8)=>
  (bindV (.val (.one (.int .i64))) (h40.cell ((h.next,0).1,(h.next,0).2+2)) fun (x42:Int)=>
  (bind2 (f34 N x42 h40) fun (x43:List UInt8) h44=>
  (bindV (.val (.one .str)) (binStr .add x41 x43) fun (x45:List UInt8)=>
  (bindV (.val (.one (.int .i64))) (h44.cell ((h.next,0).1,(h.next,0).2+3)) fun (x46:Int)=>
  (bind2 (f34 N x46 h44) fun (x47:List UInt8) h48=>
  (bindV (.val (.one .str)) (binStr .add x45 x47) fun (x49:List UInt8)=>
  (guardB (bif (sameO (h44.cell ((h.next,0).1,(h.next,0).2+3)) (.int .i64 x46)) then (bif (sameO (h40.cell ((h.next,0).1,(h.next,0).2+3)) (.int .i64 x46)) then (bif (sameO (h36.cell ((h.next,0).1,(h.next,0).2+3)) (.int .i64 x46)) then (bif (sameO (h33.cell ((h.next,0).1,(h.next,0).2+3)) (.int .i64 x46)) then (bif (sameO (h40.cell ((h.next,0).1,(h.next,0).2+2)) (.int .i64 x42)) then (bif (sameO (h36.cell ((h.next,0).1,(h.next,0).2+2)) (.int .i64 x42)) then (bif (sameO (h33.cell ((h.next,0).1,(h.next,0).2+2)) (.int .i64 x42)) then (bif (sameO (h36.cell ((h.next,0).1,(h.next,0).2+1)) (.int .i64 x38)) then (bif (sameO (h33.cell ((h.next,0).1,(h.next,0).2+1)) (.int .i64 x38)) then (bif (sameO (h33.cell ((h.next,0).1,(h.next,0).2+0)) (.int .i64 x34)) then true else false) else false) else false) else false) else false) else false) else false) else false) else false) else false) (
  let x50:Int:=wrapA .i64 (v5+1)
  go v1 x49 x50 h48)))))))))))))))))))
 else
  some ((Out.exit 0),(v1,v4,()),h))))
noncomputable def f36_l1 (N:Nat) (M:Nat) (v1:Option (Nat×Nat)) (v4:List UInt8) (v5:Int) (h:Heap):Option (Out×(Option (Nat×Nat)×List UInt8×Unit)×Heap):=iter (fun go s h=>f36_l1_b N (fun v1 v4 v5 h=>go (v1,v4,v5,()) h) s.1 s.2.1 s.2.2.1 h) M (v1,v4,v5,()) h
theorem f36_l1_succ (N:Nat) (M:Nat) (v1:Option (Nat×Nat)) (v4:List UInt8) (v5:Int) (h:Heap):f36_l1 N (M+1) v1 v4 v5 h=f36_l1_b N (f36_l1 N M) v1 v4 v5 h:=rfl
noncomputable def f36 (N:Nat) (a0:dens T36) (h:Heap):Option ((List UInt8×Int×Unit)×Heap):=
 let h1:Heap:=h.push (.row (CTy.tos T36 a0) .own)
 (bindV (.val (.agg T36)) (h1.cells (h.next,0) 36) fun (x2:dens T36)=>
 (bind2 (f64 N x2 h1) fun (x3:Bool) h4=>
 let x5:Bool:=!x3
 (bif x5 then
  some (([],1,()),h4)
 else
  (bind2 (f33 N [85,82,69,67] h4) fun (x6:List UInt8) h7=>
  (bindV (.val (.one .str)) (h7.cell ((h.next,0).1,(h.next,0).2+0)) fun (x8:List UInt8)=>
  (bind2 (f33 N x8 h7) fun (x9:List UInt8) h10=>
  (bindV (.val (.one .str)) (binStr .add x6 x9) fun (x11:List UInt8)=>
  (bindV (.val (.one (.int .i64))) (h10.cell ((h.next,0).1,(h.next,0).2+1)) fun (x12:Int)=>
  (bind2 (f34 N x12 h10) fun (x13:List UInt8) h14=>
  (bindV (.val (.one .str)) (binStr .add x11 x13) fun (x15:List UInt8)=>
  (bindV (.val (.one (.int .i64))) (h14.cell ((h.next,0).1,(h.next,0).2+2)) fun (x16:Int)=>
  (bind2 (f34 N x16 h14) fun (x17:List UInt8) h18=>
  (bindV (.val (.one .str)) (binStr .add x15 x17) fun (x19:List UInt8)=>
  (bindV (.val (.one .slice)) (h18.cell ((h.next,0).1,(h.next,0).2+3)) fun (x20:SL)=>
  let x21:Int:=wrapA .u64 (Int.ofNat x20.len)
  (bind2 (f35 N N x21 h18) fun (x22:List UInt8) h23=>
  (bindV (.val (.one .str)) (binStr .add x19 x22) fun (x24:List UInt8)=>
  (guardB (bif (sameO (h18.cell ((h.next,0).1,(h.next,0).2+3)) (.slice x20.a x20.len x20.cap x20.sz)) then (bif (sameO (h14.cell ((h.next,0).1,(h.next,0).2+3)) (.slice x20.a x20.len x20.cap x20.sz)) then (bif (sameO (h10.cell ((h.next,0).1,(h.next,0).2+3)) (.slice x20.a x20.len x20.cap x20.sz)) then (bif (sameO (h7.cell ((h.next,0).1,(h.next,0).2+3)) (.slice x20.a x20.len x20.cap x20.sz)) then (bif (sameO (h4.cell ((h.next,0).1,(h.next,0).2+3)) (.slice x20.a x20.len x20.cap x20.sz)) then (bif (sameO (h14.cell ((h.next,0).1,(h.next,0).2+2)) (.int .i64 x16)) then (bif (sameO (h10.cell ((h.next,0).1,(h.next,0).2+2)) (.int .i64 x16)) then (bif (sameO (h7.cell ((h.next,0).1,(h.next,0).2+2)) (.int .i64 x16)) then (bif (sameO (h4.cell ((h.next,0).1,(h.next,0).2+2)) (.int .i64 x16)) then (bif (sameO (h10.cell ((h.next,0).1,(h.next,0).2+1)) (.int .i64 x12)) then (bif (sameO (h7.cell ((h.next,0).1,(h.next,0).2+1)) (.int .i64 x12)) then (bif (sameO (h4.cell ((h.next,0).1,(h.next,0).2+1)) (.int .i64 x12)) then (bif (sameO (h7.cell ((h.next,0).1,(h.next,0).2+0)) (.str x8)) then (bif (sameO (h4.cell ((h.next,0).1,(h.next,0).2+0)) (.str x8)) then true else false) else false) else false) else false) else false) else false) else false) else false) else false) else false) else false) else false) else false) else false) (
  (bind3 (f36_l1 N N (some (h.next,0)) x24 0 h23) fun _ (j52:(Option (Nat×Nat)×List UInt8×Unit)) h53=>
  (need j52.1 fun q54=>
  (bindV (.val (.agg T32)) (h53.cells (q54.1,q54.2+4) 32) fun (x55:dens T32)=>
  (bind2 (f37 N x55 h53) fun (x56:List UInt8) h57=>
  (bindV (.val (.one .str)) (binStr .add j52.2.1 x56) fun (x58:List UInt8)=>
  some ((x58,0,()),h57))))))))))))))))))))))))
noncomputable def ann36:Ann:=(.two .n (.two .n (.two .n (.two (.two .n (.two (.loop [(1,(.one .ptr)),(4,(.one .str)),(5,(.one (.int .i64)))] [(.exit 0)] [(1,(.one .ptr)),(4,(.one .str))] .n) .n)) .n))))
theorem f36_ok (N:Nat):FnOK Tryz.prog 36 [(.agg T36)] (.tup [(.one .str),(.one (.int .i64))]) (fun x h=>f36 N x.1 h):=
 runK_ok envOK hmix (addCall_ok (f64_ok N) (addCall_ok (f37_ok N) (addCall_ok (f35_ok N) (addCall_ok (f34_ok N) (addCall_ok (f33_ok N) noCalls_ok))))) (N:=N) (x:=ann36) (fn:=Tryz.f36) (c:=Tryz.f36.body.getD .skip) (by kernel_rfl) (by kernel_rfl) (by kernel_rfl) (by kernel_rfl) (fun _ _=>by kernel_rfl)
noncomputable def f8_l1_b (N:Nat) (go:Option (Nat×Nat)→List UInt8→Int→List UInt8→Int→Heap→Option (Out×(Option (Nat×Nat)×List UInt8×Int×List UInt8×Unit)×Heap)) (v1:Option (Nat×Nat)) (v2:List UInt8) (v3:Int) (v4:List UInt8) (v5:Int) (h:Heap):Option (Out×(Option (Nat×Nat)×List UInt8×Int×List UInt8×Unit)×Heap):=
 (need v1 fun q27=>
 (bindV (.val (.one .slice)) (h.cell (q27.1,q27.2+2)) fun (x28:SL)=>
 let x29:Bool:=ltInt v5 (Int.ofNat x28.len)
 (bif x29 then
  (need v1 fun q30=>
  (bindV (.val (.one .slice)) (h.cell (q30.1,q30.2+2)) fun (x31:SL)=>
  (ixK x31.a x31.len v5 36 fun q32=>
  (bindV (.val (.agg T36)) (h.cells q32 36) fun (x33:dens T36)=>
  (bind2 (f36 N x33 h) fun (x34:(List UInt8×Int×Unit)) h35=>
  let x36:Bool:=!eqInt x34.2.1 0
  (bif x36 then
  some (Out.ret,(v1,[],1,v4,()),h35)
  else
  (bind2 (f33 N x34.1 h35) fun (x37:List UInt8) h38=>
  (bindV (.val (.one .str)) (binStr .add v4 x37) fun (x39:List UInt8)=>
  let x40:Int:=wrapA .i64 (v5+1)
  go v1 v2 v3 x39 x40 h38))))))))
 else
  some ((Out.exit 0),(v1,v2,v3,v4,()),h))))
noncomputable def f8_l1 (N:Nat) (M:Nat) (v1:Option (Nat×Nat)) (v2:List UInt8) (v3:Int) (v4:List UInt8) (v5:Int) (h:Heap):Option (Out×(Option (Nat×Nat)×List UInt8×Int×List UInt8×Unit)×Heap):=iter (fun go s h=>f8_l1_b N (fun v1 v2 v3 v4 v5 h=>go (v1,v2,v3,v4,v5,()) h) s.1 s.2.1 s.2.2.1 s.2.2.2.1 s.2.2.2.2.1 h) M (v1,v2,v3,v4,v5,()) h
theorem f8_l1_succ (N:Nat) (M:Nat) (v1:Option (Nat×Nat)) (v2:List UInt8) (v3:Int) (v4:List UInt8) (v5:Int) (h:Heap):f8_l1 N (M+1) v1 v2 v3 v4 v5 h=f8_l1_b N (f8_l1 N M) v1 v2 v3 v4 v5 h:=rfl
noncomputable def f8 (N:Nat) (a0:dens T35) (h:Heap):Option ((List UInt8×Int×Unit)×Heap):=
 let h1:Heap:=h.push (.row (CTy.tos T35 a0) .own)
 (bindV (.val (.one (.int .i64))) (h1.cell ((h.next,0).1,(h.next,0).2+0)) fun (x2:Int)=>
 let x3:Bool:=ltInt x2 0
 (bif x3 then
  some (([],1,()),h1)
 else
  (bindV (.val (.one (.int .i64))) (h1.cell ((h.next,0).1,(h.next,0).2+0)) fun (x4:Int)=>
  let x5:Bool:=ltInt 44 x4
  (bif x5 then
  some (([],1,()),h1)
  else
  (bindV (.val (.one (.int .i64))) (h1.cell ((h.next,0).1,(h.next,0).2+1)) fun (x6:Int)=>
  let x7:Bool:=ltInt x6 0
  (bif x7 then
   some (([],1,()),h1)
  else
   (bindV (.val (.one (.int .i64))) (h1.cell ((h.next,0).1,(h.next,0).2+1)) fun (x8:Int)=>
   let x9:Bool:=ltInt 4194304 x8
   (bif x9 then
   some (([],1,()),h1)
   else
   (bindV (.val (.one .slice)) (h1.cell ((h.next,0).1,(h.next,0).2+2)) fun (x10:SL)=>
   let x11:Bool:=ltInt 64 (Int.ofNat x10.len)
   (bif x11 then
    some (([],1,()),h1)
   else
    (bind2 (f33 N [85,86,69,82] h1) fun (x12:List UInt8) h13=>
    (bindV (.val (.one (.int .i64))) (h13.cell ((h.next,0).1,(h.next,0).2+0)) fun (x14:Int)=>
    (bind2 (f34 N x14 h13) fun (x15:List UInt8) h16=>
    (bindV (.val (.one .str)) (binStr .add x12 x15) fun (x17:List UInt8)=>
    (bindV (.val (.one (.int .i64))) (h16.cell ((h.next,0).1,(h.next,0).2+1)) fun (x18:Int)=>
    (bind2 (f34 N x18 h16) fun (x19:List UInt8) h20=>
    (bindV (.val (.one .str)) (binStr .add x17 x19) fun (x21:List UInt8)=>
    (bindV (.val (.one .slice)) (h20.cell ((h.next,0).1,(h.next,0).2+2)) fun (x22:SL)=>
    let x23:Int:=wrapA .u64 (Int.ofNat x22.len)
    (bind2 (f35 N N x23 h20) fun (x24:List UInt8) h25=>
    (bindV (.val (.one .str)) (binStr .add x21 x24) fun (x26:List UInt8)=>
    (guardB (bif (sameO (h20.cell ((h.next,0).1,(h.next,0).2+2)) (.slice x22.a x22.len x22.cap x22.sz)) then (bif (sameO (h16.cell ((h.next,0).1,(h.next,0).2+2)) (.slice x22.a x22.len x22.cap x22.sz)) then (bif (sameO (h13.cell ((h.next,0).1,(h.next,0).2+2)) (.slice x22.a x22.len x22.cap x22.sz)) then (bif (sameO (h1.cell ((h.next,0).1,(h.next,0).2+2)) (.slice x22.a x22.len x22.cap x22.sz)) then (bif (sameO (h16.cell ((h.next,0).1,(h.next,0).2+1)) (.int .i64 x18)) then (bif (sameO (h13.cell ((h.next,0).1,(h.next,0).2+1)) (.int .i64 x18)) then (bif (sameO (h1.cell ((h.next,0).1,(h.next,0).2+1)) (.int .i64 x18)) then (bif (sameO (h13.cell ((h.next,0).1,(h.next,0).2+0)) (.int .i64 x14)) then (bif (sameO (h1.cell ((h.next,0).1,(h.next,0).2+0)) (.int .i64 x14)) then true else false) else false) else false) else false) else false) else false) else false) else false) else false) (
    (bind3 (f8_l1 N N (some (h.next,0)) [] 0 x26 0 h25) fun o41 (j42:(Option (Nat×Nat)×List UInt8×Int×List UInt8×Unit)) h43=>
    (bif eqOut o41 (.exit 0) then
    (need j42.1 fun q44=>
    (bindV (.val (.agg T32)) (h43.cells (q44.1,q44.2+3) 32) fun (x45:dens T32)=>
    (bind2 (f37 N x45 h43) fun (x46:List UInt8) h47=>
    (bindV (.val (.one .str)) (binStr .add j42.2.2.2.1 x46) fun (x48:List UInt8)=>
    some ((x48,0,()),h47)))))
    else
    some ((j42.2.1,j42.2.2.1,()),h43)))))))))))))))))))))))))
noncomputable def ann8:Ann:=(.two .n (.two .n (.two .n (.two (.two .n (.two (.loop [(1,(.one .ptr)),(2,(.one .str)),(3,(.one (.int .i64))),(4,(.one .str)),(5,(.one (.int .i64)))] [(.exit 0),.ret] [(1,(.one .ptr)),(2,(.one .str)),(3,(.one (.int .i64))),(4,(.one .str))] .n) .n)) .n))))
theorem f8_ok (N:Nat):FnOK Tryz.prog 8 [(.agg T35)] (.tup [(.one .str),(.one (.int .i64))]) (fun x h=>f8 N x.1 h):=
 runK_ok envOK hmix (addCall_ok (f37_ok N) (addCall_ok (f36_ok N) (addCall_ok (f35_ok N) (addCall_ok (f34_ok N) (addCall_ok (f33_ok N) noCalls_ok))))) (N:=N) (x:=ann8) (fn:=Tryz.f8) (c:=Tryz.f8.body.getD .skip) (by kernel_rfl) (by kernel_rfl) (by kernel_rfl) (by kernel_rfl) (fun _ _=>by kernel_rfl)
noncomputable def f38_l1_b (N:Nat) (go:Option (Nat×Nat)→Int→Int→Int→Heap→Option (Out×(Int×Int×Unit)×Heap)) (v4:Option (Nat×Nat)) (v6:Int) (v7:Int) (v8:Int) (h:Heap):Option (Out×(Int×Int×Unit)×Heap):=
 let x8:Bool:=ltInt v8 200
 (bif x8 then
  (need v4 fun q9=>
  (bindV (.val (.one .any)) (h.cell (q9.1,q9.2+2)) fun (x10:AV)=>
  (bindV (.tup [(.one .ptr),(.one .bool)]) (assertA E x10 137 true) fun (x11:(Option (Nat×Nat)×Bool×Unit))=>
  let x12:Bool:=!x11.2.1
  (bif x12 then
  some ((Out.exit 0),(v6,v7,()),h)
  else
  (bif x11.1.isNone then
   some ((Out.exit 0),(v6,v7,()),h)
  else
   (need x11.1 fun q13=>
   (bindV (.val (.one (.int .i64))) (h.cell (q13.1,q13.2+1)) fun (x14:Int)=>
   let x15:Int:=wrapA .i64 (v8+1)
   go x11.1 v6 x14 x15 h)))))))
 else
  some ((Out.exit 0),(v6,v7,()),h))
noncomputable def f38_l1 (N:Nat) (M:Nat) (v4:Option (Nat×Nat)) (v6:Int) (v7:Int) (v8:Int) (h:Heap):Option (Out×(Int×Int×Unit)×Heap):=iter (fun go s h=>f38_l1_b N (fun v4 v6 v7 v8 h=>go (v4,v6,v7,v8,()) h) s.1 s.2.1 s.2.2.1 s.2.2.2.1 h) M (v4,v6,v7,v8,()) h
theorem f38_l1_succ (N:Nat) (M:Nat) (v4:Option (Nat×Nat)) (v6:Int) (v7:Int) (v8:Int) (h:Heap):f38_l1 N (M+1) v4 v6 v7 v8 h=f38_l1_b N (f38_l1 N M) v4 v6 v7 v8 h:=rfl
noncomputable def f38 (N:Nat) (a0:AV) (h:Heap):Option ((Int×Int×Unit)×Heap):=
 (bindV (.val (.one .bool)) (binA E .eql 34 (.tmp 11) (.const .nilIface) a0 AV.nilIface) fun (x1:Bool)=>
 (bif x1 then
  some ((0,0,()),h)
 else
  (bindV (.tup [(.one .ptr),(.one .bool)]) (assertA E a0 137 true) fun (x2:(Option (Nat×Nat)×Bool×Unit))=>
  let x3:Bool:=!x2.2.1
  (bif x3 then
  some (((-1),0,()),h)
  else
  (bif x2.1.isNone then
   some (((-1),0,()),h)
  else
   (need x2.1 fun q4=>
   (bindV (.val (.one (.int .i64))) (h.cell (q4.1,q4.2+0)) fun (x5:Int)=>
   (need x2.1 fun q6=>
   (bindV (.val (.one (.int .i64))) (h.cell (q6.1,q6.2+1)) fun (x7:Int)=>
   (bind3 (f38_l1 N N x2.1 x5 x7 0 h) fun _ (j17:(Int×Int×Unit)) h18=>
   some ((j17.1,j17.2.1,()),h18)))))))))))
noncomputable def ann38:Ann:=(.two .n (.two .n (.two .n (.two .n (.two .n (.two (.two .n (.two (.loop [(4,(.one .ptr)),(6,(.one (.int .i64))),(7,(.one (.int .i64))),(8,(.one (.int .i64)))] [(.exit 0)] [(6,(.one (.int .i64))),(7,(.one (.int .i64)))] .n) .n)) .n))))))
theorem f38_ok (N:Nat):FnOK Tryz.prog 38 [(.one .any)] (.tup [(.one (.int .i64)),(.one (.int .i64))]) (fun x h=>f38 N x.1 h):=
 runK_ok envOK hmix noCalls_ok (N:=N) (x:=ann38) (fn:=Tryz.f38) (c:=Tryz.f38.body.getD .skip) (by kernel_rfl) (by kernel_rfl) (by kernel_rfl) (by kernel_rfl) (fun _ _=>by kernel_rfl)
noncomputable def f9 (N:Nat) (a0:AV) (a1:Int) (a2:Int) (h:Heap):Option (Bool×Heap):=
 (bind2 (f38 N a0 h) fun (x1:(Int×Int×Unit)) h2=>
 let x3:Bool:=eqInt x1.1 a1
 (bif x3 then
  let x4:Bool:=eqInt x1.2.1 a2
  some (x4,h2)
 else
  some (false,h2)))
noncomputable def ann9:Ann:=.n
theorem f9_ok (N:Nat):FnOK Tryz.prog 9 [(.one .any),(.one (.int .i64)),(.one (.int .i64))] (.val (.one .bool)) (fun x h=>f9 N x.1 x.2.1 x.2.2.1 h):=
 runK_ok envOK hmix (addCall_ok (f38_ok N) noCalls_ok) (N:=N) (x:=ann9) (fn:=Tryz.f9) (c:=Tryz.f9.body.getD .skip) (by kernel_rfl) (by kernel_rfl) (by kernel_rfl) (by kernel_rfl) (fun _ _=>by kernel_rfl)
noncomputable def f65 (N:Nat) (a0:SL) (h:Heap):Option (Option (Nat×Nat)×Heap):=
 let h1:Heap:=h.push (.row [] .own)
 (bindT (.val (.one .slice)) (appendA E 28 28 (.slice (some (h.next,0)) 0 0 1) (.slice a0.a a0.len a0.cap a0.sz) h1) fun (x2:SL) h3=>
 let h4:Heap:=h3.push (.row [(.slice x2.a x2.len x2.cap x2.sz),(.int .i64 0)] .own)
 some ((some (h3.next,0)),h4))
noncomputable def ann65:Ann:=.n
theorem f65_ok (N:Nat):FnOK Tryz.prog 65 [(.one .slice)] (.val (.one .ptr)) (fun x h=>f65 N x.1 h):=
 runK_ok envOK hmix noCalls_ok (N:=N) (x:=ann65) (fn:=Tryz.f65) (c:=Tryz.f65.body.getD .skip) (by kernel_rfl) (by kernel_rfl) (by kernel_rfl) (by kernel_rfl) (fun _ _=>by kernel_rfl)
noncomputable def f108 (N:Nat) (a0:Option (Nat×Nat)) (h:Heap):Option (Int×Heap):=
 (bif a0.isNone then
  some (0,h)
 else
  (need a0 fun q1=>
  (bindV (.val (.one (.int .i64))) (h.cell (q1.1,q1.2+1)) fun (x2:Int)=>
  some (x2,h))))
noncomputable def ann108:Ann:=.n
theorem f108_ok (N:Nat):FnOK Tryz.prog 108 [(.one .ptr)] (.val (.one (.int .i64))) (fun x h=>f108 N x.1 h):=
 runK_ok envOK hmix noCalls_ok (N:=N) (x:=ann108) (fn:=Tryz.f108) (c:=Tryz.f108.body.getD .skip) (by kernel_rfl) (by kernel_rfl) (by kernel_rfl) (by kernel_rfl) (fun _ _=>by kernel_rfl)
noncomputable def f110 (N:Nat) (a0:Option (Nat×Nat)) (a1:Int) (h:Heap):Option (AV×Heap):=
 (need a0 fun q1=>
 (bindV (.val (.one (.int .i64))) (h.cell (q1.1,q1.2+1)) fun (x2:Int)=>
 (bind2 (f25 N a1 x2 h) fun (x3:AV) h4=>
 some (x3,h4))))
noncomputable def ann110:Ann:=.n
theorem f110_ok (N:Nat):FnOK Tryz.prog 110 [(.one .ptr),(.one (.int .i64))] (.val (.one .any)) (fun x h=>f110 N x.1 x.2.1 h):=
 runK_ok envOK hmix (addCall_ok (f25_ok N) noCalls_ok) (N:=N) (x:=ann110) (fn:=Tryz.f110) (c:=Tryz.f110.body.getD .skip) (by kernel_rfl) (by kernel_rfl) (by kernel_rfl) (by kernel_rfl) (fun _ _=>by kernel_rfl)
noncomputable def f109_l1_b (N:Nat) (go:Option (Nat×Nat)→Int→AV→Int→Int→Heap→Option (Out×(Int×AV×Unit)×Heap)) (v0:Option (Nat×Nat)) (v2:Int) (v3:AV) (v4:Int) (v5:Int) (h:Heap):Option (Out×(Int×AV×Unit)×Heap):=
 (need v0 fun q3=>
 (bindV (.val (.one (.int .i64))) (h.cell (q3.1,q3.2+1)) fun (x4:Int)=>
 let x5:Int:=wrapA .i64 (x4+v5)
 (need v0 fun q6=>
 (bindV (.val (.one .slice)) (h.cell (q6.1,q6.2+0)) fun (x7:SL)=>
 let x8:Bool:=leInt (Int.ofNat x7.len) x5
 (bif x8 then
  (bind2 (f110 N v0 3 h) fun (x9:AV) h10=>
  some (Out.ret,(0,x9,()),h10))
 else
  (need v0 fun q11=>
  (bindV (.val (.one .slice)) (h.cell (q11.1,q11.2+0)) fun (x12:SL)=>
  (need v0 fun q13=>
  (bindV (.val (.one (.int .i64))) (h.cell (q13.1,q13.2+1)) fun (x14:Int)=>
  let x15:Int:=wrapA .i64 (x14+v5)
  (ixK x12.a x12.len x15 1 fun q16=>
  (bindV (.val (.one (.int .u8))) (h.cell q16) fun (x17:Int)=>
  let x18:Bool:=eqInt v5 9
  (bif x18 then
  let x19:Bool:=ltInt 1 x17
  (bif x19 then
   (bif x19 then
   (bind2 (f110 N v0 4 h) fun (x20:AV) h21=>
   some (Out.ret,(0,x20,()),h21))
   else
   let x22:Bool:=ltInt x17 128
   (bif x22 then
    (bindV (.val (.one (.int .u8))) (bitsA .and .u8 x17 127) fun (x23:Int)=>
    let x24:Int:=wrapA .u64 x23
    let x25:Int:=wrapA .i64 (7 * v5)
    let x26:Int:=wrapA .u64 x25
    (bindV (.val (.one (.int .u64))) (shiftA .shl .u64 x24 x26) fun (x27:Int)=>
    (bindV (.val (.one (.int .u64))) (bitsA .or .u64 v4 x27) fun (x28:Int)=>
    (need v0 fun q29=>
    (bindV (.val (.one (.int .i64))) (h.cell (q29.1,q29.2+1)) fun (x30:Int)=>
    let x31:Int:=wrapA .i64 (x30+v5)
    let x32:Int:=wrapA .i64 (x31+1)
    (need v0 fun q33=>
    (need (h.store (q33.1,q33.2+1) [(.int .i64 x32)]) fun h34=>
    some (Out.ret,(x28,AV.nilIface,()),h34))))))))
   else
    (bindV (.val (.one (.int .u8))) (bitsA .and .u8 x17 127) fun (x35:Int)=>
    let x36:Int:=wrapA .u64 x35
    let x37:Int:=wrapA .i64 (7 * v5)
    let x38:Int:=wrapA .u64 x37
    (bindV (.val (.one (.int .u64))) (shiftA .shl .u64 x36 x38) fun (x39:Int)=>
    (bindV (.val (.one (.int .u64))) (bitsA .or .u64 v4 x39) fun (x40:Int)=>
    let x41:Int:=wrapA .i64 (v5+1)
    go v0 v2 v3 x40 x41 h)))))
  else
   let x42:Bool:=ltInt 0 v5
   (bif x42 then
   let x43:Bool:=eqInt x17 0
   (bif x43 then
    (bind2 (f110 N v0 4 h) fun (x44:AV) h45=>
    some (Out.ret,(0,x44,()),h45))
   else
    let x46:Bool:=ltInt x17 128
    (bif x46 then
    (bindV (.val (.one (.int .u8))) (bitsA .and .u8 x17 127) fun (x47:Int)=>
    let x48:Int:=wrapA .u64 x47
    let x49:Int:=wrapA .i64 (7 * v5)
    let x50:Int:=wrapA .u64 x49
    (bindV (.val (.one (.int .u64))) (shiftA .shl .u64 x48 x50) fun (x51:Int)=>
    (bindV (.val (.one (.int .u64))) (bitsA .or .u64 v4 x51) fun (x52:Int)=>
    (need v0 fun q53=>
    (bindV (.val (.one (.int .i64))) (h.cell (q53.1,q53.2+1)) fun (x54:Int)=>
    let x55:Int:=wrapA .i64 (x54+v5)
    let x56:Int:=wrapA .i64 (x55+1)
    (need v0 fun q57=>
    (need (h.store (q57.1,q57.2+1) [(.int .i64 x56)]) fun h58=>
    some (Out.ret,(x52,AV.nilIface,()),h58))))))))
    else
    (bindV (.val (.one (.int .u8))) (bitsA .and .u8 x17 127) fun (x59:Int)=>
    let x60:Int:=wrapA .u64 x59
    let x61:Int:=wrapA .i64 (7 * v5)
    let x62:Int:=wrapA .u64 x61
    (bindV (.val (.one (.int .u64))) (shiftA .shl .u64 x60 x62) fun (x63:Int)=>
    (bindV (.val (.one (.int .u64))) (bitsA .or .u64 v4 x63) fun (x64:Int)=>
    let x65:Int:=wrapA .i64 (v5+1)
    go v0 v2 v3 x64 x65 h)))))
   else
   let x66:Bool:=ltInt x17 128
   (bif x66 then
    (bindV (.val (.one (.int .u8))) (bitsA .and .u8 x17 127) fun (x67:Int)=>
    let x68:Int:=wrapA .u64 x67
    let x69:Int:=wrapA .i64 (7 * v5)
    let x70:Int:=wrapA .u64 x69
    (bindV (.val (.one (.int .u64))) (shiftA .shl .u64 x68 x70) fun (x71:Int)=>
    (bindV (.val (.one (.int .u64))) (bitsA .or .u64 v4 x71) fun (x72:Int)=>
    (need v0 fun q73=>
    (bindV (.val (.one (.int .i64))) (h.cell (q73.1,q73.2+1)) fun (x74:Int)=>
    let x75:Int:=wrapA .i64 (x74+v5)
    let x76:Int:=wrapA .i64 (x75+1)
    (need v0 fun q77=>
    (need (h.store (q77.1,q77.2+1) [(.int .i64 x76)]) fun h78=>
    some (Out.ret,(x72,AV.nilIface,()),h78))))))))
   else
    (bindV (.val (.one (.int .u8))) (bitsA .and .u8 x17 127) fun (x79:Int)=>
    let x80:Int:=wrapA .u64 x79
    let x81:Int:=wrapA .i64 (7 * v5)
    let x82:Int:=wrapA .u64 x81
    (bindV (.val (.one (.int .u64))) (shiftA .shl .u64 x80 x82) fun (x83:Int)=>
    (bindV (.val (.one (.int .u64))) (bitsA .or .u64 v4 x83) fun (x84:Int)=>
    let x85:Int:=wrapA .i64 (v5+1)
    go v0 v2 v3 x84 x85 h))))))
  else
  let x86:Bool:=ltInt 0 v5
  (bif x86 then
   let x87:Bool:=eqInt x17 0
   (bif x87 then
   (bind2 (f110 N v0 4 h) fun (x88:AV) h89=>
   some (Out.ret,(0,x88,()),h89))
   else
   let x90:Bool:=ltInt x17 128
   (bif x90 then
    (bindV (.val (.one (.int .u8))) (bitsA .and .u8 x17 127) fun (x91:Int)=>
    let x92:Int:=wrapA .u64 x91
    let x93:Int:=wrapA .i64 (7 * v5)
    let x94:Int:=wrapA .u64 x93
    (bindV (.val (.one (.int .u64))) (shiftA .shl .u64 x92 x94) fun (x95:Int)=>
    (bindV (.val (.one (.int .u64))) (bitsA .or .u64 v4 x95) fun (x96:Int)=>
    (need v0 fun q97=>
    (bindV (.val (.one (.int .i64))) (h.cell (q97.1,q97.2+1)) fun (x98:Int)=>
    let x99:Int:=wrapA .i64 (x98+v5)
    let x100:Int:=wrapA .i64 (x99+1)
    (need v0 fun q101=>
    (need (h.store (q101.1,q101.2+1) [(.int .i64 x100)]) fun h102=>
    some (Out.ret,(x96,AV.nilIface,()),h102))))))))
   else
    (bindV (.val (.one (.int .u8))) (bitsA .and .u8 x17 127) fun (x103:Int)=>
    let x104:Int:=wrapA .u64 x103
    let x105:Int:=wrapA .i64 (7 * v5)
    let x106:Int:=wrapA .u64 x105
    (bindV (.val (.one (.int .u64))) (shiftA .shl .u64 x104 x106) fun (x107:Int)=>
    (bindV (.val (.one (.int .u64))) (bitsA .or .u64 v4 x107) fun (x108:Int)=>
    let x109:Int:=wrapA .i64 (v5+1)
    go v0 v2 v3 x108 x109 h)))))
  else
   let x110:Bool:=ltInt x17 128
   (bif x110 then
   (bindV (.val (.one (.int .u8))) (bitsA .and .u8 x17 127) fun (x111:Int)=>
   let x112:Int:=wrapA .u64 x111
   let x113:Int:=wrapA .i64 (7 * v5)
   let x114:Int:=wrapA .u64 x113
   (bindV (.val (.one (.int .u64))) (shiftA .shl .u64 x112 x114) fun (x115:Int)=>
   (bindV (.val (.one (.int .u64))) (bitsA .or .u64 v4 x115) fun (x116:Int)=>
   (need v0 fun q117=>
   (bindV (.val (.one (.int .i64))) (h.cell (q117.1,q117.2+1)) fun (x118:Int)=>
   let x119:Int:=wrapA .i64 (x118+v5)
   let x120:Int:=wrapA .i64 (x119+1)
   (need v0 fun q121=>
   (need (h.store (q121.1,q121.2+1) [(.int .i64 x120)]) fun h122=>
   some (Out.ret,(x116,AV.nilIface,()),h122))))))))
   else
   (bindV (.val (.one (.int .u8))) (bitsA .and .u8 x17 127) fun (x123:Int)=>
   let x124:Int:=wrapA .u64 x123
   let x125:Int:=wrapA .i64 (7 * v5)
   let x126:Int:=wrapA .u64 x125
   (bindV (.val (.one (.int .u64))) (shiftA .shl .u64 x124 x126) fun (x127:Int)=>
   (bindV (.val (.one (.int .u64))) (bitsA .or .u64 v4 x127) fun (x128:Int)=>
   let x129:Int:=wrapA .i64 (v5+1)
   go v0 v2 v3 x128 x129 h)))))))))))))))))
noncomputable def f109_l1 (N:Nat) (M:Nat) (v0:Option (Nat×Nat)) (v2:Int) (v3:AV) (v4:Int) (v5:Int) (h:Heap):Option (Out×(Int×AV×Unit)×Heap):=iter (fun go s h=>f109_l1_b N (fun v0 v2 v3 v4 v5 h=>go (v0,v2,v3,v4,v5,()) h) s.1 s.2.1 s.2.2.1 s.2.2.2.1 s.2.2.2.2.1 h) M (v0,v2,v3,v4,v5,()) h
theorem f109_l1_succ (N:Nat) (M:Nat) (v0:Option (Nat×Nat)) (v2:Int) (v3:AV) (v4:Int) (v5:Int) (h:Heap):f109_l1 N (M+1) v0 v2 v3 v4 v5 h=f109_l1_b N (f109_l1 N M) v0 v2 v3 v4 v5 h:=rfl
noncomputable def f109 (N:Nat) (a0:Option (Nat×Nat)) (h:Heap):Option ((Int×AV×Unit)×Heap):=
 (bif a0.isNone then
  (bind2 (f25 N 1 0 h) fun (x1:AV) h2=>
  some ((0,x1,()),h2))
 else
  (bind3 (f109_l1 N N a0 0 AV.nilIface 0 0 h) fun _ (j131:(Int×AV×Unit)) h132=>
  some ((j131.1,j131.2.1,()),h132)))
noncomputable def ann109:Ann:=(.two .n (.two .n (.two .n (.two .n (.two (.loop [(0,(.one .ptr)),(2,(.one (.int .u64))),(3,(.one .any)),(4,(.one (.int .u64))),(5,(.one (.int .i64)))] [.ret] [(2,(.one (.int .u64))),(3,(.one .any))] .n) .n)))))
theorem f109_ok (N:Nat):FnOK Tryz.prog 109 [(.one .ptr)] (.tup [(.one (.int .u64)),(.one .any)]) (fun x h=>f109 N x.1 h):=
 runK_ok envOK hmix (addCall_ok (f25_ok N) (addCall_ok (f110_ok N) noCalls_ok)) (N:=N) (x:=ann109) (fn:=Tryz.f109) (c:=Tryz.f109.body.getD .skip) (by kernel_rfl) (by kernel_rfl) (by kernel_rfl) (by kernel_rfl) (fun _ _=>by kernel_rfl)
noncomputable def f66 (N:Nat) (a0:Option (Nat×Nat)) (a1:Int) (h:Heap):Option ((List UInt8×AV×Unit)×Heap):=
 (bind2 (f108 N a0 h) fun (x1:Int) h2=>
 (bind2 (f109 N a0 h2) fun (x3:(Int×AV×Unit)) h4=>
 (bindV (.val (.one .bool)) (binA E .neq 34 (.tmp 17) (.const .nilIface) x3.2.1 AV.nilIface) fun (x5:Bool)=>
 (bif x5 then
  some (([],x3.2.1,()),h4)
 else
  (need a0 fun q6=>
  (bindV (.val (.one (.int .i64))) (h4.cell (q6.1,q6.2+1)) fun (x7:Int)=>
  (need a0 fun q8=>
  (need (h4.store (q8.1,q8.2+1) [(.int .i64 x1)]) fun h9=>
  let x10:Bool:=ltInt a1 0
  (bif x10 then
  (bind2 (f110 N a0 5 h9) fun (x11:AV) h12=>
  some (([],x11,()),h12))
  else
  let x13:Int:=wrapA .u64 a1
  let x14:Bool:=ltInt x13 x3.1
  (bif x14 then
   (bind2 (f110 N a0 5 h9) fun (x15:AV) h16=>
   some (([],x15,()),h16))
  else
   (need a0 fun q17=>
   (bindV (.val (.one .slice)) (h9.cell (q17.1,q17.2+0)) fun (x18:SL)=>
   let x19:Int:=wrapA .i64 ((Int.ofNat x18.len)-x7)
   let x20:Int:=wrapA .u64 x19
   let x21:Bool:=ltInt x20 x3.1
   (bif x21 then
   (bind2 (f110 N a0 3 h9) fun (x22:AV) h23=>
   some (([],x22,()),h23))
   else
   let x24:Int:=wrapA .i64 x3.1
   let x25:Int:=wrapA .i64 (x7+x24)
   (need a0 fun q26=>
   (need (h9.store (q26.1,q26.2+1) [(.int .i64 x25)]) fun h27=>
   (need a0 fun q28=>
   (bindV (.val (.one .slice)) (h27.cell (q28.1,q28.2+0)) fun (x29:SL)=>
   (need a0 fun q30=>
   (bindV (.val (.one (.int .i64))) (h27.cell (q30.1,q30.2+1)) fun (x31:Int)=>
   (bindV (.val (.one .slice)) (sliceA E h27 28 (.slice x29.a x29.len x29.cap x29.sz) (some (.int .i64 x7)) (some (.int .i64 x31))) fun (x32:SL)=>
   (bindV (.val (.one .str)) (convS E 28 9 (.slice x32.a x32.len x32.cap x32.sz) h27) fun (x33:List UInt8)=>
   some ((x33,AV.nilIface,()),h27))))))))))))))))))))))
noncomputable def ann66:Ann:=.n
theorem f66_ok (N:Nat):FnOK Tryz.prog 66 [(.one .ptr),(.one (.int .i64))] (.tup [(.one .str),(.one .any)]) (fun x h=>f66 N x.1 x.2.1 h):=
 runK_ok envOK hmix (addCall_ok (f110_ok N) (addCall_ok (f109_ok N) (addCall_ok (f108_ok N) noCalls_ok))) (N:=N) (x:=ann66) (fn:=Tryz.f66) (c:=Tryz.f66.body.getD .skip) (by kernel_rfl) (by kernel_rfl) (by kernel_rfl) (by kernel_rfl) (fun _ _=>by kernel_rfl)
noncomputable def f67 (N:Nat) (a0:Option (Nat×Nat)) (h:Heap):Option ((Int×AV×Unit)×Heap):=
 (bind2 (f109 N a0 h) fun (x1:(Int×AV×Unit)) h2=>
 (bindV (.val (.one .bool)) (binA E .neq 34 (.tmp 11) (.const .nilIface) x1.2.1 AV.nilIface) fun (x3:Bool)=>
 (bif x3 then
  some ((0,x1.2.1,()),h2)
 else
  (bindV (.val (.one (.int .u64))) (bitsA .and .u64 x1.1 1) fun (x4:Int)=>
  let x5:Bool:=eqInt x4 1
  (bif x5 then
  (bindV (.val (.one (.int .u64))) (shiftA .shr .u64 x1.1 1) fun (x6:Int)=>
  let x7:Int:=wrapA .i64 x6
  let x8:Int:=wrapA .i64 (0-x7)
  let x9:Int:=wrapA .i64 (x8-1)
  some ((x9,AV.nilIface,()),h2))
  else
  (bindV (.val (.one (.int .u64))) (shiftA .shr .u64 x1.1 1) fun (x10:Int)=>
  let x11:Int:=wrapA .i64 x10
  some ((x11,AV.nilIface,()),h2)))))))
noncomputable def ann67:Ann:=.n
theorem f67_ok (N:Nat):FnOK Tryz.prog 67 [(.one .ptr)] (.tup [(.one (.int .i64)),(.one .any)]) (fun x h=>f67 N x.1 h):=
 runK_ok envOK hmix (addCall_ok (f109_ok N) noCalls_ok) (N:=N) (x:=ann67) (fn:=Tryz.f67) (c:=Tryz.f67.body.getD .skip) (by kernel_rfl) (by kernel_rfl) (by kernel_rfl) (by kernel_rfl) (fun _ _=>by kernel_rfl)
noncomputable def f68 (N:Nat) (a0:Option (Nat×Nat)) (a1:Int) (h:Heap):Option ((Int×AV×Unit)×Heap):=
 (bind2 (f108 N a0 h) fun (x1:Int) h2=>
 (bind2 (f109 N a0 h2) fun (x3:(Int×AV×Unit)) h4=>
 (bindV (.val (.one .bool)) (binA E .neq 34 (.tmp 16) (.const .nilIface) x3.2.1 AV.nilIface) fun (x5:Bool)=>
 (bif x5 then
  some ((0,x3.2.1,()),h4)
 else
  let x6:Bool:=ltInt a1 0
  (bif x6 then
  (need a0 fun q7=>
  (need (h4.store (q7.1,q7.2+1) [(.int .i64 x1)]) fun h8=>
  (bind2 (f110 N a0 2 h8) fun (x9:AV) h10=>
  some ((0,x9,()),h10))))
  else
  let x11:Int:=wrapA .u64 a1
  let x12:Bool:=ltInt x11 x3.1
  (bif x12 then
   (need a0 fun q13=>
   (need (h4.store (q13.1,q13.2+1) [(.int .i64 x1)]) fun h14=>
   (bind2 (f110 N a0 2 h14) fun (x15:AV) h16=>
   some ((0,x15,()),h16))))
  else
   let x17:Int:=wrapA .i64 x3.1
   some ((x17,AV.nilIface,()),h4)))))))
noncomputable def ann68:Ann:=.n
theorem f68_ok (N:Nat):FnOK Tryz.prog 68 [(.one .ptr),(.one (.int .i64))] (.tup [(.one (.int .i64)),(.one .any)]) (fun x h=>f68 N x.1 x.2.1 h):=
 runK_ok envOK hmix (addCall_ok (f110_ok N) (addCall_ok (f109_ok N) (addCall_ok (f108_ok N) noCalls_ok))) (N:=N) (x:=ann68) (fn:=Tryz.f68) (c:=Tryz.f68.body.getD .skip) (by kernel_rfl) (by kernel_rfl) (by kernel_rfl) (by kernel_rfl) (fun _ _=>by kernel_rfl)
noncomputable def f112 (N:Nat) (a0:Option (Nat×Nat)) (a1:Option (Nat×Nat)) (h:Heap):Option (List UInt8×Heap):=
 (need a0 fun q1=>
 (bindV (.val (.one .ptr)) (h.cell q1) fun (x2:Option (Nat×Nat))=>
 (bind2 (f66 N x2 32 h) fun (x3:(List UInt8×AV×Unit)) h4=>
 (need a1 fun q5=>
 (bindV (.val (.one .bool)) (h4.cell q5) fun (x6:Bool)=>
 (bif x6 then
  (need a1 fun q8=>
  (need (h4.store q8 [(.bool true)]) fun h7=>
  some (x3.1,h7)))
 else
  (bindV (.val (.one .bool)) (binA E .neq 34 (.tmp 12) (.const .nilIface) x3.2.1 AV.nilIface) fun (x9:Bool)=>
  (need a1 fun q11=>
  (need (h4.store q11 [(.bool x9)]) fun h10=>
  some (x3.1,h10))))))))))
noncomputable def ann112:Ann:=.n
theorem f112_ok (N:Nat):FnOK Tryz.prog 112 [(.one .ptr),(.one .ptr)] (.val (.one .str)) (fun x h=>f112 N x.1 x.2.1 h):=
 runK_ok envOK hmix (addCall_ok (f66_ok N) noCalls_ok) (N:=N) (x:=ann112) (fn:=Tryz.f112) (c:=Tryz.f112.body.getD .skip) (by kernel_rfl) (by kernel_rfl) (by kernel_rfl) (by kernel_rfl) (fun _ _=>by kernel_rfl)
noncomputable def f111 (N:Nat) (a0:Option (Nat×Nat)) (a1:Option (Nat×Nat)) (h:Heap):Option (Int×Heap):=
 (need a0 fun q1=>
 (bindV (.val (.one .ptr)) (h.cell q1) fun (x2:Option (Nat×Nat))=>
 (bind2 (f67 N x2 h) fun (x3:(Int×AV×Unit)) h4=>
 (need a1 fun q5=>
 (bindV (.val (.one .bool)) (h4.cell q5) fun (x6:Bool)=>
 (bif x6 then
  (need a1 fun q8=>
  (need (h4.store q8 [(.bool true)]) fun h7=>
  some (x3.1,h7)))
 else
  (bindV (.val (.one .bool)) (binA E .neq 34 (.tmp 12) (.const .nilIface) x3.2.1 AV.nilIface) fun (x9:Bool)=>
  (need a1 fun q11=>
  (need (h4.store q11 [(.bool x9)]) fun h10=>
  some (x3.1,h10))))))))))
noncomputable def ann111:Ann:=.n
theorem f111_ok (N:Nat):FnOK Tryz.prog 111 [(.one .ptr),(.one .ptr)] (.val (.one (.int .i64))) (fun x h=>f111 N x.1 x.2.1 h):=
 runK_ok envOK hmix (addCall_ok (f67_ok N) noCalls_ok) (N:=N) (x:=ann111) (fn:=Tryz.f111) (c:=Tryz.f111.body.getD .skip) (by kernel_rfl) (by kernel_rfl) (by kernel_rfl) (by kernel_rfl) (fun _ _=>by kernel_rfl)
noncomputable def f70 (N:Nat) (a0:Option (Nat×Nat)) (h:Heap):Option ((dens T32×AV×Unit)×Heap):=
 let h1:Heap:=h.push (.row (CTy.tos T32 z32) .own)
 let h2:Heap:=h1.push (.row (CTy.tos T32 z32) .own)
 (bif a0.isNone then
  (bindV (.val (.agg T32)) (h2.cells (h1.next,0) 32) fun (x3:dens T32)=>
  (bind2 (f25 N 1 0 h2) fun (x4:AV) h5=>
  (need (h5.store (h.next,0) (CTy.tos T32 x3)) fun h6=>
  (guardB (bif (sameO (h5.cells (h1.next,0) 32) (.agg (CTy.tos T32 x3))) then (bif (sameO (h2.cells (h1.next,0) 32) (.agg (CTy.tos T32 x3))) then true else false) else false) (
  (bindV (.val (.agg T32)) (h6.cells (h.next,0) 32) fun (x7:dens T32)=>
  some ((x7,x4,()),h6)))))))
 else
  (need a0 fun q8=>
  (bindV (.val (.one .slice)) (h2.cell (q8.1,q8.2+0)) fun (x9:SL)=>
  (need a0 fun q10=>
  (bindV (.val (.one (.int .i64))) (h2.cell (q10.1,q10.2+1)) fun (x11:Int)=>
  let x12:Int:=wrapA .i64 ((Int.ofNat x9.len)-x11)
  let x13:Bool:=ltInt x12 32
  (bif x13 then
  (bindV (.val (.agg T32)) (h2.cells (h1.next,0) 32) fun (x14:dens T32)=>
  (bind2 (f110 N a0 3 h2) fun (x15:AV) h16=>
  (need (h16.store (h.next,0) (CTy.tos T32 x14)) fun h17=>
  (guardB (bif (sameO (h16.cells (h1.next,0) 32) (.agg (CTy.tos T32 x14))) then (bif (sameO (h2.cells (h1.next,0) 32) (.agg (CTy.tos T32 x14))) then true else false) else false) (
  (bindV (.val (.agg T32)) (h17.cells (h.next,0) 32) fun (x18:dens T32)=>
  some ((x18,x15,()),h17)))))))
  else
  (bindV (.val (.one .slice)) (sliceA E h2 25 (.ptr (some (h1.next,0))) none none) fun (x19:SL)=>
  (need a0 fun q20=>
  (bindV (.val (.one .slice)) (h2.cell (q20.1,q20.2+0)) fun (x21:SL)=>
  (need a0 fun q22=>
  (bindV (.val (.one (.int .i64))) (h2.cell (q22.1,q22.2+1)) fun (x23:Int)=>
  (bindV (.val (.one .slice)) (sliceA E h2 28 (.slice x21.a x21.len x21.cap x21.sz) (some (.int .i64 x23)) none) fun (x24:SL)=>
  (bindT (.val (.one (.int .i64))) (copyA E 28 (.slice x19.a x19.len x19.cap x19.sz) (.slice x24.a x24.len x24.cap x24.sz) h2) fun (x25:Int) h26=>
  (need a0 fun q27=>
  (bindV (.val (.one (.int .i64))) (h26.cell (q27.1,q27.2+1)) fun (x28:Int)=>
  let x29:Int:=wrapA .i64 (x28+32)
  (need a0 fun q30=>
  (need (h26.store (q30.1,q30.2+1) [(.int .i64 x29)]) fun h31=>
  (bindV (.val (.agg T32)) (h31.cells (h1.next,0) 32) fun (x32:dens T32)=>
  (need (h31.store (h.next,0) (CTy.tos T32 x32)) fun h33=>
  (bindV (.val (.agg T32)) (h33.cells (h.next,0) 32) fun (x34:dens T32)=>
  some ((x34,AV.nilIface,()),h33)))))))))))))))))))))
noncomputable def ann70:Ann:=.n
theorem f70_ok (N:Nat):FnOK Tryz.prog 70 [(.one .ptr)] (.tup [(.agg T32),(.one .any)]) (fun x h=>f70 N x.1 h):=
 runK_ok envOK hmix (addCall_ok (f25_ok N) (addCall_ok (f110_ok N) noCalls_ok)) (N:=N) (x:=ann70) (fn:=Tryz.f70) (c:=Tryz.f70.body.getD .skip) (by kernel_rfl) (by kernel_rfl) (by kernel_rfl) (by kernel_rfl) (fun _ _=>by kernel_rfl)
noncomputable def f40 (N:Nat) (a0:SL) (a1:SL) (h:Heap):Option (Bool×Heap):=
 (bindV (.val (.one .str)) (convS E 28 9 (.slice a0.a a0.len a0.cap a0.sz) h) fun (x1:List UInt8)=>
 (bindV (.val (.one .str)) (convS E 28 9 (.slice a1.a a1.len a1.cap a1.sz) h) fun (x2:List UInt8)=>
 let x3:Bool:=eqBytes x1 x2
 some (x3,h)))
noncomputable def ann40:Ann:=.n
theorem f40_ok (N:Nat):FnOK Tryz.prog 40 [(.one .slice),(.one .slice)] (.val (.one .bool)) (fun x h=>f40 N x.1 x.2.1 h):=
 runK_ok envOK hmix noCalls_ok (N:=N) (x:=ann40) (fn:=Tryz.f40) (c:=Tryz.f40.body.getD .skip) (by kernel_rfl) (by kernel_rfl) (by kernel_rfl) (by kernel_rfl) (fun _ _=>by kernel_rfl)
noncomputable def f69_l1_b (N:Nat) (go:SL→Option (Nat×Nat)→Option (Nat×Nat)→Option (Nat×Nat)→(Option (Nat×Nat)×Option (Nat×Nat)×Unit)→Option (Nat×Nat)→Int→Int→Heap→Option (Out×(SL×Option (Nat×Nat)×Option (Nat×Nat)×Option (Nat×Nat)×Option (Nat×Nat)×Unit)×Heap)) (v0:SL) (v2:Option (Nat×Nat)) (v4:Option (Nat×Nat)) (v5:Option (Nat×Nat)) (v6:(Option (Nat×Nat)×Option (Nat×Nat)×Unit)) (v8:Option (Nat×Nat)) (v9:Int) (v11:Int) (h:Heap):Option (Out×(SL×Option (Nat×Nat)×Option (Nat×Nat)×Option (Nat×Nat)×Option (Nat×Nat)×Unit)×Heap):=
 let x39:Bool:=ltInt v11 v9
 (bif x39 then
  (need v5 fun q40=>
  (bindV (.val (.one .bool)) (h.cell q40) fun (x41:Bool)=>
  let x42:Bool:=!x41
  (bif x42 then
  (bind2 (f111 N v6.1 v6.2.1 h) fun (x43:Int) h44=>
  let h45:Heap:=h44.push (.row [(.int .i64 0),(.int .i64 0),(.int .i64 0),(.int .i64 0)] .own)
  (need (h45.store (h44.next,0) [(.int .i64 x43),(.int .i64 0),(.int .i64 0),(.int .i64 0)]) fun h46=>
  (bind2 (f111 N v6.1 v6.2.1 h46) fun (x47:Int) h48=>
  (need (h48.store ((h44.next,0).1,(h44.next,0).2+1) [(.int .i64 x47)]) fun h49=>
  (bind2 (f111 N v6.1 v6.2.1 h49) fun (x50:Int) h51=>
  (need (h51.store ((h44.next,0).1,(h44.next,0).2+2) [(.int .i64 x50)]) fun h52=>
  (bind2 (f111 N v6.1 v6.2.1 h52) fun (x53:Int) h54=>
  (need (h54.store ((h44.next,0).1,(h44.next,0).2+3) [(.int .i64 x53)]) fun h55=>
  (need v8 fun q56=>
  (bindV (.val (.one .slice)) (h55.cell (q56.1,q56.2+3)) fun (x57:SL)=>
  (bindV (.val (.agg [(.int .i64),(.int .i64),(.int .i64),(.int .i64)])) (h55.cells (h44.next,0) 4) fun (x58:(Int×Int×Int×Int×Unit))=>
  let h59:Heap:=h55.push (.row [(.int .i64 x58.1),(.int .i64 x58.2.1),(.int .i64 x58.2.2.1),(.int .i64 x58.2.2.2.1)] .own)
  (bindT (.val (.one .slice)) (appendA E 30 30 (.slice x57.a x57.len x57.cap x57.sz) (.slice (some (h55.next,0)) 1 1 4) h59) fun (x60:SL) h61=>
  (need v8 fun q62=>
  (need (h61.store (q62.1,q62.2+3) [(.slice x60.a x60.len x60.cap x60.sz)]) fun h63=>
  let x64:Int:=wrapA .i64 (v11+1)
  go v0 v2 v4 v5 (v6.1,v6.2.1,()) v8 v9 x64 h63))))))))))))))
  else
  some ((Out.exit 0),(v0,v2,v4,v5,v8,()),h))))
 else
  some ((Out.exit 0),(v0,v2,v4,v5,v8,()),h))
noncomputable def f69_l1 (N:Nat) (M:Nat) (v0:SL) (v2:Option (Nat×Nat)) (v4:Option (Nat×Nat)) (v5:Option (Nat×Nat)) (v6:(Option (Nat×Nat)×Option (Nat×Nat)×Unit)) (v8:Option (Nat×Nat)) (v9:Int) (v11:Int) (h:Heap):Option (Out×(SL×Option (Nat×Nat)×Option (Nat×Nat)×Option (Nat×Nat)×Option (Nat×Nat)×Unit)×Heap):=iter (fun go s h=>f69_l1_b N (fun v0 v2 v4 v5 v6 v8 v9 v11 h=>go (v0,v2,v4,v5,v6,v8,v9,v11,()) h) s.1 s.2.1 s.2.2.1 s.2.2.2.1 s.2.2.2.2.1 s.2.2.2.2.2.1 s.2.2.2.2.2.2.1 s.2.2.2.2.2.2.2.1 h) M (v0,v2,v4,v5,v6,v8,v9,v11,()) h
theorem f69_l1_succ (N:Nat) (M:Nat) (v0:SL) (v2:Option (Nat×Nat)) (v4:Option (Nat×Nat)) (v5:Option (Nat×Nat)) (v6:(Option (Nat×Nat)×Option (Nat×Nat)×Unit)) (v8:Option (Nat×Nat)) (v9:Int) (v11:Int) (h:Heap):f69_l1 N (M+1) v0 v2 v4 v5 v6 v8 v9 v11 h=f69_l1_b N (f69_l1 N M) v0 v2 v4 v5 v6 v8 v9 v11 h:=rfl
noncomputable def f69 (N:Nat) (a0:SL) (h:Heap):Option ((dens T36×AV×Unit)×Heap):=
 let h1:Heap:=h.push (.row ((.str [])::(.int .i64 0)::(.int .i64 0)::(.slice none 0 0 0)::CTy.tos T32 z32) .own)
 (bind2 (f65 N a0 h1) fun (x2:Option (Nat×Nat)) h3=>
 let h4:Heap:=h3.push (.row [(.ptr none)] .own)
 (need (h4.store (h3.next,0) [(.ptr x2)]) fun h5=>
 let h6:Heap:=h5.push (.row [(.bool false)] .own)
 (need (h6.store (h5.next,0) [(.bool false)]) fun h7=>
 (bind2 (α:=(SL×Option (Nat×Nat)×Option (Nat×Nat)×Option (Nat×Nat)×(Option (Nat×Nat)×Option (Nat×Nat)×Unit)×(Option (Nat×Nat)×Option (Nat×Nat)×Unit)×Unit)) (
  (bind2 (f112 N (some (h3.next,0)) (some (h5.next,0)) h7) fun (x8:List UInt8) h9=>
  let x10:Bool:=!eqBytes x8 [85,82,69,67]
  (bif x10 then
  (need (h9.store (h5.next,0) [(.bool true)]) fun h11=>
  some ((a0,(some (h.next,0)),(some (h3.next,0)),(some (h5.next,0)),((some (h3.next,0)),(some (h5.next,0)),()),((some (h3.next,0)),(some (h5.next,0)),()),()),h11))
  else
  (bindV (.val (.one .bool)) (h9.cell (h5.next,0)) fun (x12:Bool)=>
  (need (h9.store (h5.next,0) [(.bool x12)]) fun h13=>
  some ((a0,(some (h.next,0)),(some (h3.next,0)),(some (h5.next,0)),((some (h3.next,0)),(some (h5.next,0)),()),((some (h3.next,0)),(some (h5.next,0)),()),()),h13)))))) fun (j14:(SL×Option (Nat×Nat)×Option (Nat×Nat)×Option (Nat×Nat)×(Option (Nat×Nat)×Option (Nat×Nat)×Unit)×(Option (Nat×Nat)×Option (Nat×Nat)×Unit)×Unit)) h15=>
 let h16:Heap:=h15.push (.row ((.str [])::(.int .i64 0)::(.int .i64 0)::(.slice none 0 0 0)::CTy.tos T32 z32) .own)
 (bind2 (f112 N j14.2.2.2.2.2.1.1 j14.2.2.2.2.2.1.2.1 h16) fun (x17:List UInt8) h18=>
 (need (h18.store ((h15.next,0).1,(h15.next,0).2+0) [(.str x17)]) fun h19=>
 (bind2 (f111 N j14.2.2.2.2.1.1 j14.2.2.2.2.1.2.1 h19) fun (x20:Int) h21=>
 (bind2 (f111 N j14.2.2.2.2.1.1 j14.2.2.2.2.1.2.1 h21) fun (x22:Int) h23=>
 (need (h23.store ((h15.next,0).1,(h15.next,0).2+1) [(.int .i64 x20)]) fun h24=>
 (need (h24.store ((h15.next,0).1,(h15.next,0).2+2) [(.int .i64 x22)]) fun h25=>
 (need j14.2.2.1 fun q26=>
 (bindV (.val (.one .ptr)) (h25.cell q26) fun (x27:Option (Nat×Nat))=>
 (bind2 (f68 N x27 1000 h25) fun (x28:(Int×AV×Unit)) h29=>
 (bind2 (α:=(SL×Option (Nat×Nat)×Option (Nat×Nat)×Option (Nat×Nat)×(Option (Nat×Nat)×Option (Nat×Nat)×Unit)×Option (Nat×Nat)×Int×Unit)) (
  (need j14.2.2.2.1 fun q30=>
  (bindV (.val (.one .bool)) (h29.cell q30) fun (x31:Bool)=>
  (bif x31 then
  (need j14.2.2.2.1 fun q33=>
  (need (h29.store q33 [(.bool true)]) fun h32=>
  some ((j14.1,j14.2.1,j14.2.2.1,j14.2.2.2.1,(j14.2.2.2.2.1.1,j14.2.2.2.2.1.2.1,()),(some (h15.next,0)),x28.1,()),h32)))
  else
  (bindV (.val (.one .bool)) (binA E .neq 34 (.tmp 42) (.const .nilIface) x28.2.1 AV.nilIface) fun (x34:Bool)=>
  (need j14.2.2.2.1 fun q36=>
  (need (h29.store q36 [(.bool x34)]) fun h35=>
  some ((j14.1,j14.2.1,j14.2.2.1,j14.2.2.2.1,(j14.2.2.2.2.1.1,j14.2.2.2.2.1.2.1,()),(some (h15.next,0)),x28.1,()),h35)))))))) fun (j37:(SL×Option (Nat×Nat)×Option (Nat×Nat)×Option (Nat×Nat)×(Option (Nat×Nat)×Option (Nat×Nat)×Unit)×Option (Nat×Nat)×Int×Unit)) h38=>
 (bind3 (f69_l1 N N j37.1 j37.2.1 j37.2.2.1 j37.2.2.2.1 (j37.2.2.2.2.1.1,j37.2.2.2.2.1.2.1,()) j37.2.2.2.2.2.1 j37.2.2.2.2.2.2.1 0 h38) fun _ (j66:(SL×Option (Nat×Nat)×Option (Nat×Nat)×Option (Nat×Nat)×Option (Nat×Nat)×Unit)) h67=>
 (need j66.2.2.1 fun q68=>
 (bindV (.val (.one .ptr)) (h67.cell q68) fun (x69:Option (Nat×Nat))=>
 (bind2 (f70 N x69 h67) fun (x70:(dens T32×AV×Unit)) h71=>
 let h72:Heap:=h71.push (.row (CTy.tos T32 z32) .own)
 (need (h72.store (h71.next,0) (CTy.tos T32 x70.1)) fun h73=>
 (bindV (.val (.agg T32)) (h73.cells (h71.next,0) 32) fun (x74:dens T32)=>
 (need j66.2.2.2.2.1 fun q75=>
 (need (h73.store (q75.1,q75.2+4) (CTy.tos T32 x74)) fun h76=>
 (bind2 (α:=(Option (Nat×Nat)×Option (Nat×Nat)×Option (Nat×Nat)×Unit)) (
  (bind2 (α:=(SL×Option (Nat×Nat)×Option (Nat×Nat)×Option (Nat×Nat)×Unit)) (
  (need j66.2.2.2.1 fun q77=>
  (bindV (.val (.one .bool)) (h76.cell q77) fun (x78:Bool)=>
  (bif x78 then
   (need j66.2.2.2.1 fun q80=>
   (need (h76.store q80 [(.bool true)]) fun h79=>
   some ((j66.1,j66.2.1,j66.2.2.2.1,j66.2.2.2.2.1,()),h79)))
  else
   (bindV (.val (.one .bool)) (binA E .neq 34 (.tmp 81) (.const .nilIface) x70.2.1 AV.nilIface) fun (x81:Bool)=>
   (need j66.2.2.2.1 fun q83=>
   (need (h76.store q83 [(.bool x81)]) fun h82=>
   some ((j66.1,j66.2.1,j66.2.2.2.1,j66.2.2.2.2.1,()),h82)))))))) fun (j84:(SL×Option (Nat×Nat)×Option (Nat×Nat)×Option (Nat×Nat)×Unit)) h85=>
  (need j84.2.2.1 fun q86=>
  (bindV (.val (.one .bool)) (h85.cell q86) fun (x87:Bool)=>
  let x88:Bool:=!x87
  (bif x88 then
  (need j84.2.2.2.1 fun q89=>
  (bindV (.val (.agg T36)) (h85.cells q89 36) fun (x90:dens T36)=>
  (bind2 (f30 N x90 h85) fun (x91:(SL×AV×Unit)) h92=>
  (bindV (.val (.one .bool)) (binA E .neq 34 (.tmp 91) (.const .nilIface) x91.2.1 AV.nilIface) fun (x93:Bool)=>
  (bif x93 then
   (need j84.2.2.1 fun q95=>
   (need (h92.store q95 [(.bool true)]) fun h94=>
   some ((j84.2.1,j84.2.2.1,j84.2.2.2.1,()),h94)))
  else
   (bind2 (f40 N x91.1 j84.1 h92) fun (x96:Bool) h97=>
   let x98:Bool:=!x96
   (need j84.2.2.1 fun q100=>
   (need (h97.store q100 [(.bool x98)]) fun h99=>
   some ((j84.2.1,j84.2.2.1,j84.2.2.2.1,()),h99)))))))))
  else
  some ((j84.2.1,j84.2.2.1,j84.2.2.2.1,()),h85)))))) fun (j101:(Option (Nat×Nat)×Option (Nat×Nat)×Option (Nat×Nat)×Unit)) h102=>
 (need j101.2.1 fun q103=>
 (bindV (.val (.one .bool)) (h102.cell q103) fun (x104:Bool)=>
 (bif x104 then
  (bind2 (f25 N 4 0 h102) fun (x105:AV) h106=>
  (need j101.1 fun q108=>
  (need (h106.store q108 ((.str [])::(.int .i64 0)::(.int .i64 0)::(.slice none 0 0 0)::CTy.tos T32 z32)) fun h107=>
  (need j101.1 fun q109=>
  (bindV (.val (.agg T36)) (h107.cells q109 36) fun (x110:dens T36)=>
  some ((x110,x105,()),h107))))))
 else
  (need j101.2.2.1 fun q111=>
  (bindV (.val (.agg T36)) (h102.cells q111 36) fun (x112:dens T36)=>
  (need j101.1 fun q114=>
  (need (h102.store q114 (CTy.tos T36 x112)) fun h113=>
  (need j101.1 fun q115=>
  (bindV (.val (.agg T36)) (h113.cells q115 36) fun (x116:dens T36)=>
  some ((x116,AV.nilIface,()),h113)))))))))))))))))))))))))))))))))
noncomputable def ann69:Ann:=(.two .n (.two .n (.two .n (.two .n (.two .n (.two (.join [(0,(.one .slice)),(2,(.one .ptr)),(4,(.one .ptr)),(5,(.one .ptr)),(6,(.clo 111 [.ptr,.ptr])),(7,(.clo 112 [.ptr,.ptr]))] .n) (.two .n (.two .n (.two .n (.two .n (.two (.join [(0,(.one .slice)),(2,(.one .ptr)),(4,(.one .ptr)),(5,(.one .ptr)),(6,(.clo 111 [.ptr,.ptr])),(8,(.one .ptr)),(9,(.one (.int .i64)))] .n) (.two (.two .n (.two (.loop [(0,(.one .slice)),(2,(.one .ptr)),(4,(.one .ptr)),(5,(.one .ptr)),(6,(.clo 111 [.ptr,.ptr])),(8,(.one .ptr)),(9,(.one (.int .i64))),(11,(.one (.int .i64)))] [(.exit 0)] [(0,(.one .slice)),(2,(.one .ptr)),(4,(.one .ptr)),(5,(.one .ptr)),(8,(.one .ptr))] .n) .n)) (.two .n (.two .n (.two (.join [(2,(.one .ptr)),(5,(.one .ptr)),(8,(.one .ptr))] (.two (.join [(0,(.one .slice)),(2,(.one .ptr)),(5,(.one .ptr)),(8,(.one .ptr))] .n) .n)) .n)))))))))))))))
theorem f69_ok (N:Nat):FnOK Tryz.prog 69 [(.one .slice)] (.tup [(.agg T36),(.one .any)]) (fun x h=>f69 N x.1 h):=
 runK_ok envOK hmix (addCall_ok (f70_ok N) (addCall_ok (f68_ok N) (addCall_ok (f65_ok N) (addCall_ok (f40_ok N) (addCall_ok (f30_ok N) (addCall_ok (f25_ok N) (addCall_ok (f112_ok N) (addCall_ok (f111_ok N) noCalls_ok)))))))) (N:=N) (x:=ann69) (fn:=Tryz.f69) (c:=Tryz.f69.body.getD .skip) (by kernel_rfl) (by kernel_rfl) (by kernel_rfl) (by kernel_rfl) (fun _ _=>by kernel_rfl)
noncomputable def f39_l1_b (N:Nat) (go:Option (Nat×Nat)→Bool→Option (Nat×Nat)→Option (Nat×Nat)→Int→Int→Heap→Option (Out×(Option (Nat×Nat)×Bool×Option (Nat×Nat)×Option (Nat×Nat)×Unit)×Heap)) (v2:Option (Nat×Nat)) (v3:Bool) (v4:Option (Nat×Nat)) (v5:Option (Nat×Nat)) (v64:Int) (v65:Int) (h:Heap):Option (Out×(Option (Nat×Nat)×Bool×Option (Nat×Nat)×Option (Nat×Nat)×Unit)×Heap):=
 let x35:Bool:=ltInt v65 v64
 (bif x35 then
  (bind2 (f66 N v4 4194304 h) fun (x36:(List UInt8×AV×Unit)) h37=>
  (bindV (.val (.one .bool)) (binA E .neq 34 (.tmp 72) (.const .nilIface) x36.2.1 AV.nilIface) fun (x38:Bool)=>
  (bif x38 then
  (need v5 fun q39=>
  (bindV (.val (.agg T35)) (h37.cells q39 35) fun (x40:dens T35)=>
  (need v2 fun q42=>
  (need (h37.store q42 (CTy.tos T35 x40)) fun h41=>
  some (Out.ret,(v2,false,v4,v5,()),h41)))))
  else
  (bindT (.val (.one .slice)) (convA E 9 28 (.str x36.1) h37) fun (x43:SL) h44=>
  (bind2 (f69 N x43 h44) fun (x45:(dens T36×AV×Unit)) h46=>
  let h47:Heap:=h46.push (.row ((.str [])::(.int .i64 0)::(.int .i64 0)::(.slice none 0 0 0)::CTy.tos T32 z32) .own)
  (need (h47.store (h46.next,0) (CTy.tos T36 x45.1)) fun h48=>
  (bindV (.val (.one .bool)) (binA E .neq 34 (.tmp 81) (.const .nilIface) x45.2.1 AV.nilIface) fun (x49:Bool)=>
  (bif x49 then
   (need v5 fun q50=>
   (bindV (.val (.agg T35)) (h48.cells q50 35) fun (x51:dens T35)=>
   (need v2 fun q53=>
   (need (h48.store q53 (CTy.tos T35 x51)) fun h52=>
   some (Out.ret,(v2,false,v4,v5,()),h52)))))
  else
   (need v5 fun q54=>
   (bindV (.val (.one .slice)) (h48.cell (q54.1,q54.2+2)) fun (x55:SL)=>
   (bindV (.val (.agg T36)) (h48.cells (h46.next,0) 36) fun (x56:dens T36)=>
   let h57:Heap:=h48.push (.row (CTy.tos T36 x56) .own)
   (bindT (.val (.one .slice)) (appendA E 23 23 (.slice x55.a x55.len x55.cap x55.sz) (.slice (some (h48.next,0)) 1 1 36) h57) fun (x58:SL) h59=>
   (need v5 fun q60=>
   (need (h59.store (q60.1,q60.2+2) [(.slice x58.a x58.len x58.cap x58.sz)]) fun h61=>
   let x62:Int:=wrapA .i64 (v65+1)
   go v2 v3 v4 v5 v64 x62 h61))))))))))))))
 else
  some ((Out.exit 0),(v2,v3,v4,v5,()),h))
noncomputable def f39_l1 (N:Nat) (M:Nat) (v2:Option (Nat×Nat)) (v3:Bool) (v4:Option (Nat×Nat)) (v5:Option (Nat×Nat)) (v64:Int) (v65:Int) (h:Heap):Option (Out×(Option (Nat×Nat)×Bool×Option (Nat×Nat)×Option (Nat×Nat)×Unit)×Heap):=iter (fun go s h=>f39_l1_b N (fun v2 v3 v4 v5 v64 v65 h=>go (v2,v3,v4,v5,v64,v65,()) h) s.1 s.2.1 s.2.2.1 s.2.2.2.1 s.2.2.2.2.1 s.2.2.2.2.2.1 h) M (v2,v3,v4,v5,v64,v65,()) h
theorem f39_l1_succ (N:Nat) (M:Nat) (v2:Option (Nat×Nat)) (v3:Bool) (v4:Option (Nat×Nat)) (v5:Option (Nat×Nat)) (v64:Int) (v65:Int) (h:Heap):f39_l1 N (M+1) v2 v3 v4 v5 v64 v65 h=f39_l1_b N (f39_l1 N M) v2 v3 v4 v5 v64 v65 h:=rfl
noncomputable def f39 (N:Nat) (a0:SL) (h:Heap):Option ((dens T35×Bool×Unit)×Heap):=
 let h1:Heap:=h.push (.row ((.int .i64 0)::(.int .i64 0)::(.slice none 0 0 0)::CTy.tos T32 z32) .own)
 (bind2 (f65 N a0 h1) fun (x2:Option (Nat×Nat)) h3=>
 let h4:Heap:=h3.push (.row ((.int .i64 0)::(.int .i64 0)::(.slice none 0 0 0)::CTy.tos T32 z32) .own)
 (bind2 (f66 N x2 4 h4) fun (x5:(List UInt8×AV×Unit)) h6=>
 (bind2 (f67 N x2 h6) fun (x7:(Int×AV×Unit)) h8=>
 (bind2 (f67 N x2 h8) fun (x9:(Int×AV×Unit)) h10=>
 (bind2 (f68 N x2 64 h10) fun (x11:(Int×AV×Unit)) h12=>
 (bindV (.val (.one .bool)) (binA E .neq 34 (.tmp 41) (.const .nilIface) x5.2.1 AV.nilIface) fun (x13:Bool)=>
 (bif x13 then
  (bindV (.val (.agg T35)) (h12.cells (h3.next,0) 35) fun (x14:dens T35)=>
  (need (h12.store (h.next,0) (CTy.tos T35 x14)) fun h15=>
  (bindV (.val (.agg T35)) (h15.cells (h.next,0) 35) fun (x16:dens T35)=>
  some ((x16,false,()),h15))))
 else
  (bindV (.val (.one .bool)) (binA E .neq 34 (.tmp 44) (.const .nilIface) x7.2.1 AV.nilIface) fun (x17:Bool)=>
  (bif x17 then
  (bindV (.val (.agg T35)) (h12.cells (h3.next,0) 35) fun (x18:dens T35)=>
  (need (h12.store (h.next,0) (CTy.tos T35 x18)) fun h19=>
  (bindV (.val (.agg T35)) (h19.cells (h.next,0) 35) fun (x20:dens T35)=>
  some ((x20,false,()),h19))))
  else
  (bindV (.val (.one .bool)) (binA E .neq 34 (.tmp 48) (.const .nilIface) x9.2.1 AV.nilIface) fun (x21:Bool)=>
  (bif x21 then
   (bindV (.val (.agg T35)) (h12.cells (h3.next,0) 35) fun (x22:dens T35)=>
   (need (h12.store (h.next,0) (CTy.tos T35 x22)) fun h23=>
   (bindV (.val (.agg T35)) (h23.cells (h.next,0) 35) fun (x24:dens T35)=>
   some ((x24,false,()),h23))))
  else
   (bindV (.val (.one .bool)) (binA E .neq 34 (.tmp 52) (.const .nilIface) x11.2.1 AV.nilIface) fun (x25:Bool)=>
   (bif x25 then
   (bindV (.val (.agg T35)) (h12.cells (h3.next,0) 35) fun (x26:dens T35)=>
   (need (h12.store (h.next,0) (CTy.tos T35 x26)) fun h27=>
   (bindV (.val (.agg T35)) (h27.cells (h.next,0) 35) fun (x28:dens T35)=>
   some ((x28,false,()),h27))))
   else
   let x29:Bool:=!eqBytes x5.1 [85,86,69,82]
   (bif x29 then
    (bindV (.val (.agg T35)) (h12.cells (h3.next,0) 35) fun (x30:dens T35)=>
    (need (h12.store (h.next,0) (CTy.tos T35 x30)) fun h31=>
    (bindV (.val (.agg T35)) (h31.cells (h.next,0) 35) fun (x32:dens T35)=>
    some ((x32,false,()),h31))))
   else
    (need (h12.store ((h3.next,0).1,(h3.next,0).2+0) [(.int .i64 x7.1)]) fun h33=>
    (need (h33.store ((h3.next,0).1,(h3.next,0).2+1) [(.int .i64 x9.1)]) fun h34=>
    (bind3 (f39_l1 N N (some (h.next,0)) false x2 (some (h3.next,0)) x11.1 0 h34) fun o63 (j64:(Option (Nat×Nat)×Bool×Option (Nat×Nat)×Option (Nat×Nat)×Unit)) h65=>
    (bif eqOut o63 (.exit 0) then
    (bind2 (f70 N j64.2.2.1 h65) fun (x66:(dens T32×AV×Unit)) h67=>
    let h68:Heap:=h67.push (.row (CTy.tos T32 z32) .own)
    (need (h68.store (h67.next,0) (CTy.tos T32 x66.1)) fun h69=>
    (bindV (.val (.agg T32)) (h69.cells (h67.next,0) 32) fun (x70:dens T32)=>
    (need j64.2.2.2.1 fun q71=>
    (need (h69.store (q71.1,q71.2+3) (CTy.tos T32 x70)) fun h72=>
    (need j64.2.2.2.1 fun q73=>
    (bindV (.val (.agg T35)) (h72.cells q73 35) fun (x74:dens T35)=>
    (bindV (.val (.one .bool)) (binA E .eql 34 (.tmp 99) (.const .nilIface) x66.2.1 AV.nilIface) fun (x75:Bool)=>
    (need j64.1 fun q77=>
    (need (h72.store q77 (CTy.tos T35 x74)) fun h76=>
    (need j64.1 fun q78=>
    (bindV (.val (.agg T35)) (h76.cells q78 35) fun (x79:dens T35)=>
    some ((x79,x75,()),h76)))))))))))))
    else
    (need j64.1 fun q80=>
    (bindV (.val (.agg T35)) (h65.cells q80 35) fun (x81:dens T35)=>
    some ((x81,j64.2.1,()),h65)))))))))))))))))))))
noncomputable def ann39:Ann:=(.two .n (.two .n (.two .n (.two .n (.two .n (.two .n (.two .n (.two .n (.two .n (.two (.two .n (.two (.loop [(2,(.one .ptr)),(3,(.one .bool)),(4,(.one .ptr)),(5,(.one .ptr)),(64,(.one (.int .i64))),(65,(.one (.int .i64)))] [(.exit 0),.ret] [(2,(.one .ptr)),(3,(.one .bool)),(4,(.one .ptr)),(5,(.one .ptr))] .n) .n)) .n))))))))))
theorem f39_ok (N:Nat):FnOK Tryz.prog 39 [(.one .slice)] (.tup [(.agg T35),(.one .bool)]) (fun x h=>f39 N x.1 h):=
 runK_ok envOK hmix (addCall_ok (f70_ok N) (addCall_ok (f69_ok N) (addCall_ok (f68_ok N) (addCall_ok (f67_ok N) (addCall_ok (f66_ok N) (addCall_ok (f65_ok N) noCalls_ok)))))) (N:=N) (x:=ann39) (fn:=Tryz.f39) (c:=Tryz.f39.body.getD .skip) (by kernel_rfl) (by kernel_rfl) (by kernel_rfl) (by kernel_rfl) (fun _ _=>by kernel_rfl)
noncomputable def f10 (N:Nat) (a0:SL) (h:Heap):Option ((dens T35×AV×Unit)×Heap):=
 let h1:Heap:=h.push (.row ((.int .i64 0)::(.int .i64 0)::(.slice none 0 0 0)::CTy.tos T32 z32) .own)
 (bind2 (f39 N a0 h1) fun (x2:(dens T35×Bool×Unit)) h3=>
 let h4:Heap:=h3.push (.row ((.int .i64 0)::(.int .i64 0)::(.slice none 0 0 0)::CTy.tos T32 z32) .own)
 (need (h4.store (h3.next,0) (CTy.tos T35 x2.1)) fun h5=>
 (bif x2.2.1 then
  (bindV (.val (.agg T35)) (h5.cells (h3.next,0) 35) fun (x6:dens T35)=>
  (bind2 (f7 N x6 h5) fun (x7:(SL×AV×Unit)) h8=>
  (bindV (.val (.one .bool)) (binA E .eql 34 (.tmp 19) (.const .nilIface) x7.2.1 AV.nilIface) fun (x9:Bool)=>
  (bif x9 then
  (bind2 (f40 N x7.1 a0 h8) fun (x10:Bool) h11=>
  let x12:Bool:=!x10
  (bif x12 then
   (bind2 (f25 N 4 0 h11) fun (x13:AV) h14=>
   (need (h14.store (h.next,0) ((.int .i64 0)::(.int .i64 0)::(.slice none 0 0 0)::CTy.tos T32 z32)) fun h15=>
   (bindV (.val (.agg T35)) (h15.cells (h.next,0) 35) fun (x16:dens T35)=>
   some ((x16,x13,()),h15))))
  else
   (bindV (.val (.agg T35)) (h11.cells (h3.next,0) 35) fun (x17:dens T35)=>
   (need (h11.store (h.next,0) (CTy.tos T35 x17)) fun h18=>
   (bindV (.val (.agg T35)) (h18.cells (h.next,0) 35) fun (x19:dens T35)=>
   some ((x19,AV.nilIface,()),h18))))))
  else
  (bind2 (f25 N 4 0 h8) fun (x20:AV) h21=>
  (need (h21.store (h.next,0) ((.int .i64 0)::(.int .i64 0)::(.slice none 0 0 0)::CTy.tos T32 z32)) fun h22=>
  (bindV (.val (.agg T35)) (h22.cells (h.next,0) 35) fun (x23:dens T35)=>
  some ((x23,x20,()),h22))))))))
 else
  let x24:Bool:=!x2.2.1
  (bif x24 then
  (bind2 (f25 N 4 0 h5) fun (x25:AV) h26=>
  (need (h26.store (h.next,0) ((.int .i64 0)::(.int .i64 0)::(.slice none 0 0 0)::CTy.tos T32 z32)) fun h27=>
  (bindV (.val (.agg T35)) (h27.cells (h.next,0) 35) fun (x28:dens T35)=>
  some ((x28,x25,()),h27))))
  else
  (bindV (.val (.agg T35)) (h5.cells (h3.next,0) 35) fun (x29:dens T35)=>
  (need (h5.store (h.next,0) (CTy.tos T35 x29)) fun h30=>
  (bindV (.val (.agg T35)) (h30.cells (h.next,0) 35) fun (x31:dens T35)=>
  some ((x31,AV.nilIface,()),h30))))))))
noncomputable def ann10:Ann:=.n
theorem f10_ok (N:Nat):FnOK Tryz.prog 10 [(.one .slice)] (.tup [(.agg T35),(.one .any)]) (fun x h=>f10 N x.1 h):=
 runK_ok envOK hmix (addCall_ok (f7_ok N) (addCall_ok (f40_ok N) (addCall_ok (f39_ok N) (addCall_ok (f25_ok N) noCalls_ok)))) (N:=N) (x:=ann10) (fn:=Tryz.f10) (c:=Tryz.f10.body.getD .skip) (by kernel_rfl) (by kernel_rfl) (by kernel_rfl) (by kernel_rfl) (fun _ _=>by kernel_rfl)
noncomputable def f113_l1_b (N:Nat) (go:List UInt8→Int→Int→Int→Int→Int→Int→Heap→Option (Out×(Int×Int×Int×Unit)×Heap)) (v0:List UInt8) (v1:Int) (v4:Int) (v5:Int) (v6:Int) (v7:Int) (v8:Int) (h:Heap):Option (Out×(Int×Int×Int×Unit)×Heap):=
 let x1:Int:=wrapA .i64 (v1+v8)
 let x2:Bool:=leInt (Int.ofNat v0.length) x1
 (bif x2 then
  some (Out.ret,(0,0,3,()),h)
 else
  let x3:Int:=wrapA .i64 (v1+v8)
  (strK v0 x3 fun x4=>
  let x5:Bool:=eqInt v8 9
  (bif x5 then
  let x6:Bool:=ltInt 1 x4
  (bif x6 then
   some (Out.ret,(0,0,4,()),h)
  else
   (bindV (.val (.one (.int .u8))) (bitsA .and .u8 x4 127) fun (x7:Int)=>
   let x8:Int:=wrapA .u64 x7
   let x9:Int:=wrapA .i64 (7 * v8)
   let x10:Int:=wrapA .u64 x9
   (bindV (.val (.one (.int .u64))) (shiftA .shl .u64 x8 x10) fun (x11:Int)=>
   (bindV (.val (.one (.int .u64))) (bitsA .or .u64 v7 x11) fun (x12:Int)=>
   let x13:Bool:=ltInt x4 128
   (bif x13 then
   let x14:Bool:=eqInt x4 0
   (bif x14 then
    let x15:Bool:=ltInt 0 v8
    (bif x15 then
    some (Out.ret,(0,0,4,()),h)
    else
    let x16:Int:=wrapA .i64 (v1+v8)
    let x17:Int:=wrapA .i64 (x16+1)
    some (Out.ret,(x12,x17,0,()),h))
   else
    let x18:Int:=wrapA .i64 (v1+v8)
    let x19:Int:=wrapA .i64 (x18+1)
    some (Out.ret,(x12,x19,0,()),h))
   else
   let x20:Int:=wrapA .i64 (v8+1)
   go v0 v1 v4 v5 v6 x12 x20 h)))))
  else
  (bindV (.val (.one (.int .u8))) (bitsA .and .u8 x4 127) fun (x21:Int)=>
  let x22:Int:=wrapA .u64 x21
  let x23:Int:=wrapA .i64 (7 * v8)
  let x24:Int:=wrapA .u64 x23
  (bindV (.val (.one (.int .u64))) (shiftA .shl .u64 x22 x24) fun (x25:Int)=>
  (bindV (.val (.one (.int .u64))) (bitsA .or .u64 v7 x25) fun (x26:Int)=>
  let x27:Bool:=ltInt x4 128
  (bif x27 then
   let x28:Bool:=eqInt x4 0
   (bif x28 then
   let x29:Bool:=ltInt 0 v8
   (bif x29 then
    some (Out.ret,(0,0,4,()),h)
   else
    let x30:Int:=wrapA .i64 (v1+v8)
    let x31:Int:=wrapA .i64 (x30+1)
    some (Out.ret,(x26,x31,0,()),h))
   else
   let x32:Int:=wrapA .i64 (v1+v8)
   let x33:Int:=wrapA .i64 (x32+1)
   some (Out.ret,(x26,x33,0,()),h))
  else
   let x34:Int:=wrapA .i64 (v8+1)
   go v0 v1 v4 v5 v6 x26 x34 h)))))))
noncomputable def f113_l1 (N:Nat) (M:Nat) (v0:List UInt8) (v1:Int) (v4:Int) (v5:Int) (v6:Int) (v7:Int) (v8:Int) (h:Heap):Option (Out×(Int×Int×Int×Unit)×Heap):=iter (fun go s h=>f113_l1_b N (fun v0 v1 v4 v5 v6 v7 v8 h=>go (v0,v1,v4,v5,v6,v7,v8,()) h) s.1 s.2.1 s.2.2.1 s.2.2.2.1 s.2.2.2.2.1 s.2.2.2.2.2.1 s.2.2.2.2.2.2.1 h) M (v0,v1,v4,v5,v6,v7,v8,()) h
theorem f113_l1_succ (N:Nat) (M:Nat) (v0:List UInt8) (v1:Int) (v4:Int) (v5:Int) (v6:Int) (v7:Int) (v8:Int) (h:Heap):f113_l1 N (M+1) v0 v1 v4 v5 v6 v7 v8 h=f113_l1_b N (f113_l1 N M) v0 v1 v4 v5 v6 v7 v8 h:=rfl
noncomputable def f113 (N:Nat) (a0:List UInt8) (a1:Int) (h:Heap):Option ((Int×Int×Int×Unit)×Heap):=
 (bind3 (f113_l1 N N a0 a1 0 0 0 0 0 h) fun _ (j36:(Int×Int×Int×Unit)) h37=>
 some ((j36.1,j36.2.1,j36.2.2.1,()),h37))
noncomputable def ann113:Ann:=(.two .n (.two .n (.two .n (.two (.loop [(0,(.one .str)),(1,(.one (.int .i64))),(4,(.one (.int .u64))),(5,(.one (.int .i64))),(6,(.one (.int .i64))),(7,(.one (.int .u64))),(8,(.one (.int .i64)))] [.ret] [(4,(.one (.int .u64))),(5,(.one (.int .i64))),(6,(.one (.int .i64)))] .n) .n))))
theorem f113_ok (N:Nat):FnOK Tryz.prog 113 [(.one .str),(.one (.int .i64))] (.tup [(.one (.int .u64)),(.one (.int .i64)),(.one (.int .i64))]) (fun x h=>f113 N x.1 x.2.1 h):=
 runK_ok envOK hmix noCalls_ok (N:=N) (x:=ann113) (fn:=Tryz.f113) (c:=Tryz.f113.body.getD .skip) (by kernel_rfl) (by kernel_rfl) (by kernel_rfl) (by kernel_rfl) (fun _ _=>by kernel_rfl)
noncomputable def f72 (N:Nat) (a0:Option (Nat×Nat)) (a1:Int) (a2:Int) (h:Heap):Option ((Unit)×Heap):=
 (need a0 fun q1=>
 (bindV (.val (.one (.int .i64))) (h.cell (q1.1,q1.2+2)) fun (x2:Int)=>
 let x3:Bool:=eqInt x2 0
 (bif x3 then
  (need a0 fun q4=>
  (need (h.store (q4.1,q4.2+2) [(.int .i64 a1)]) fun h5=>
  (need a0 fun q6=>
  (need (h5.store (q6.1,q6.2+3) [(.int .i64 a2)]) fun h7=>
  some ((()),h7)))))
 else
  some ((()),h))))
noncomputable def ann72:Ann:=.n
theorem f72_ok (N:Nat):FnOK Tryz.prog 72 [(.one .ptr),(.one (.int .i64)),(.one (.int .i64))] (.tup []) (fun x h=>f72 N x.1 x.2.1 x.2.2.1 h):=
 runK_ok envOK hmix noCalls_ok (N:=N) (x:=ann72) (fn:=Tryz.f72) (c:=Tryz.f72.body.getD .skip) (by kernel_rfl) (by kernel_rfl) (by kernel_rfl) (by kernel_rfl) (fun _ _=>by kernel_rfl)
noncomputable def f71 (N:Nat) (a0:Option (Nat×Nat)) (h:Heap):Option (Int×Heap):=
 (need a0 fun q1=>
 (bindV (.val (.one (.int .i64))) (h.cell (q1.1,q1.2+2)) fun (x2:Int)=>
 let x3:Bool:=!eqInt x2 0
 (bif x3 then
  some (0,h)
 else
  (need a0 fun q4=>
  (bindV (.val (.one .str)) (h.cell (q4.1,q4.2+0)) fun (x5:List UInt8)=>
  (need a0 fun q6=>
  (bindV (.val (.one (.int .i64))) (h.cell (q6.1,q6.2+1)) fun (x7:Int)=>
  (bind2 (f113 N x5 x7 h) fun (x8:(Int×Int×Int×Unit)) h9=>
  let x10:Bool:=!eqInt x8.2.2.1 0
  (bif x10 then
  (need a0 fun q11=>
  (bindV (.val (.one (.int .i64))) (h9.cell (q11.1,q11.2+1)) fun (x12:Int)=>
  (bind2 (f72 N a0 x8.2.2.1 x12 h9) fun (x13:(Unit)) h14=>
  some (0,h14))))
  else
  (need a0 fun q15=>
  (need (h9.store (q15.1,q15.2+1) [(.int .i64 x8.2.1)]) fun h16=>
  some (x8.1,h16))))))))))))
noncomputable def ann71:Ann:=.n
theorem f71_ok (N:Nat):FnOK Tryz.prog 71 [(.one .ptr)] (.val (.one (.int .u64))) (fun x h=>f71 N x.1 h):=
 runK_ok envOK hmix (addCall_ok (f72_ok N) (addCall_ok (f113_ok N) noCalls_ok)) (N:=N) (x:=ann71) (fn:=Tryz.f71) (c:=Tryz.f71.body.getD .skip) (by kernel_rfl) (by kernel_rfl) (by kernel_rfl) (by kernel_rfl) (fun _ _=>by kernel_rfl)
noncomputable def f41 (N:Nat) (a0:Option (Nat×Nat)) (a1:Int) (h:Heap):Option (List UInt8×Heap):=
 (need a0 fun q1=>
 (bindV (.val (.one (.int .i64))) (h.cell (q1.1,q1.2+1)) fun (x2:Int)=>
 (bind2 (f71 N a0 h) fun (x3:Int) h4=>
 (need a0 fun q5=>
 (bindV (.val (.one (.int .i64))) (h4.cell (q5.1,q5.2+2)) fun (x6:Int)=>
 let x7:Bool:=!eqInt x6 0
 (bif x7 then
  some ([],h4)
 else
  let x8:Bool:=ltInt a1 0
  (bif x8 then
  (need a0 fun q9=>
  (need (h4.store (q9.1,q9.2+1) [(.int .i64 x2)]) fun h10=>
  (bind2 (f72 N a0 5 x2 h10) fun (x11:(Unit)) h12=>
  some ([],h12))))
  else
  let x13:Int:=wrapA .u64 a1
  let x14:Bool:=ltInt x13 x3
  (bif x14 then
   (need a0 fun q15=>
   (need (h4.store (q15.1,q15.2+1) [(.int .i64 x2)]) fun h16=>
   (bind2 (f72 N a0 5 x2 h16) fun (x17:(Unit)) h18=>
   some ([],h18))))
  else
   (need a0 fun q19=>
   (bindV (.val (.one .str)) (h4.cell (q19.1,q19.2+0)) fun (x20:List UInt8)=>
   (need a0 fun q21=>
   (bindV (.val (.one (.int .i64))) (h4.cell (q21.1,q21.2+1)) fun (x22:Int)=>
   let x23:Int:=wrapA .i64 ((Int.ofNat x20.length)-x22)
   let x24:Int:=wrapA .u64 x23
   let x25:Bool:=ltInt x24 x3
   (bif x25 then
   (need a0 fun q26=>
   (need (h4.store (q26.1,q26.2+1) [(.int .i64 x2)]) fun h27=>
   (bind2 (f72 N a0 3 x2 h27) fun (x28:(Unit)) h29=>
   some ([],h29))))
   else
   (need a0 fun q30=>
   (bindV (.val (.one .str)) (h4.cell (q30.1,q30.2+0)) fun (x31:List UInt8)=>
   (need a0 fun q32=>
   (bindV (.val (.one (.int .i64))) (h4.cell (q32.1,q32.2+1)) fun (x33:Int)=>
   (need a0 fun q34=>
   (bindV (.val (.one (.int .i64))) (h4.cell (q34.1,q34.2+1)) fun (x35:Int)=>
   let x36:Int:=wrapA .i64 x3
   let x37:Int:=wrapA .i64 (x35+x36)
   (bindV (.val (.one .str)) (sliceA E h4 9 (.str x31) (some (.int .i64 x33)) (some (.int .i64 x37))) fun (x38:List UInt8)=>
   (need a0 fun q39=>
   (bindV (.val (.one (.int .i64))) (h4.cell (q39.1,q39.2+1)) fun (x40:Int)=>
   let x41:Int:=wrapA .i64 x3
   let x42:Int:=wrapA .i64 (x40+x41)
   (need a0 fun q43=>
   (need (h4.store (q43.1,q43.2+1) [(.int .i64 x42)]) fun h44=>
   some (x38,h44)))))))))))))))))))))))))
noncomputable def ann41:Ann:=.n
theorem f41_ok (N:Nat):FnOK Tryz.prog 41 [(.one .ptr),(.one (.int .i64))] (.val (.one .str)) (fun x h=>f41 N x.1 x.2.1 h):=
 runK_ok envOK hmix (addCall_ok (f72_ok N) (addCall_ok (f71_ok N) noCalls_ok)) (N:=N) (x:=ann41) (fn:=Tryz.f41) (c:=Tryz.f41.body.getD .skip) (by kernel_rfl) (by kernel_rfl) (by kernel_rfl) (by kernel_rfl) (fun _ _=>by kernel_rfl)
noncomputable def f42 (N:Nat) (a0:Option (Nat×Nat)) (h:Heap):Option (Int×Heap):=
 (bind2 (f71 N a0 h) fun (x1:Int) h2=>
 (bindV (.val (.one (.int .u64))) (bitsA .and .u64 x1 1) fun (x3:Int)=>
 let x4:Bool:=eqInt x3 1
 (bif x4 then
  (bindV (.val (.one (.int .u64))) (binInt .quo .u64 x1 2) fun (x5:Int)=>
  let x6:Int:=wrapA .i64 x5
  let x7:Int:=wrapA .i64 ((-1)-x6)
  some (x7,h2))
 else
  (bindV (.val (.one (.int .u64))) (binInt .quo .u64 x1 2) fun (x8:Int)=>
  let x9:Int:=wrapA .i64 x8
  some (x9,h2)))))
noncomputable def ann42:Ann:=.n
theorem f42_ok (N:Nat):FnOK Tryz.prog 42 [(.one .ptr)] (.val (.one (.int .i64))) (fun x h=>f42 N x.1 h):=
 runK_ok envOK hmix (addCall_ok (f71_ok N) noCalls_ok) (N:=N) (x:=ann42) (fn:=Tryz.f42) (c:=Tryz.f42.body.getD .skip) (by kernel_rfl) (by kernel_rfl) (by kernel_rfl) (by kernel_rfl) (fun _ _=>by kernel_rfl)
noncomputable def f43 (N:Nat) (a0:Option (Nat×Nat)) (a1:Int) (h:Heap):Option (Int×Heap):=
 (need a0 fun q1=>
 (bindV (.val (.one (.int .i64))) (h.cell (q1.1,q1.2+1)) fun (x2:Int)=>
 (bind2 (f71 N a0 h) fun (x3:Int) h4=>
 (need a0 fun q5=>
 (bindV (.val (.one (.int .i64))) (h4.cell (q5.1,q5.2+2)) fun (x6:Int)=>
 let x7:Bool:=eqInt x6 0
 (bif x7 then
  let x8:Bool:=ltInt a1 0
  (bif x8 then
  (need a0 fun q9=>
  (need (h4.store (q9.1,q9.2+1) [(.int .i64 x2)]) fun h10=>
  (bind2 (f72 N a0 2 x2 h10) fun (x11:(Unit)) h12=>
  some (0,h12))))
  else
  let x13:Int:=wrapA .u64 a1
  let x14:Bool:=ltInt x13 x3
  (bif x14 then
   (need a0 fun q15=>
   (need (h4.store (q15.1,q15.2+1) [(.int .i64 x2)]) fun h16=>
   (bind2 (f72 N a0 2 x2 h16) fun (x17:(Unit)) h18=>
   some (0,h18))))
  else
   let x19:Int:=wrapA .i64 x3
   some (x19,h4)))
 else
  let x20:Int:=wrapA .i64 x3
  some (x20,h4)))))))
noncomputable def ann43:Ann:=.n
theorem f43_ok (N:Nat):FnOK Tryz.prog 43 [(.one .ptr),(.one (.int .i64))] (.val (.one (.int .i64))) (fun x h=>f43 N x.1 x.2.1 h):=
 runK_ok envOK hmix (addCall_ok (f72_ok N) (addCall_ok (f71_ok N) noCalls_ok)) (N:=N) (x:=ann43) (fn:=Tryz.f43) (c:=Tryz.f43.body.getD .skip) (by kernel_rfl) (by kernel_rfl) (by kernel_rfl) (by kernel_rfl) (fun _ _=>by kernel_rfl)
noncomputable def f45_l1_b (N:Nat) (go:Option (Nat×Nat)→Option (Nat×Nat)→Option (Nat×Nat)→Int→Heap→Option (Out×(Option (Nat×Nat)×Option (Nat×Nat)×Option (Nat×Nat)×Unit)×Heap)) (v0:Option (Nat×Nat)) (v2:Option (Nat×Nat)) (v3:Option (Nat×Nat)) (v4:Int) (h:Heap):Option (Out×(Option (Nat×Nat)×Option (Nat×Nat)×Option (Nat×Nat)×Unit)×Heap):=
 let x22:Bool:=ltInt v4 32
 (bif x22 then
  (need v0 fun q23=>
  (bindV (.val (.one .str)) (h.cell (q23.1,q23.2+0)) fun (x24:List UInt8)=>
  (need v0 fun q25=>
  (bindV (.val (.one (.int .i64))) (h.cell (q25.1,q25.2+1)) fun (x26:Int)=>
  let x27:Int:=wrapA .i64 (x26+v4)
  (strK x24 x27 fun x28=>
  (ixK v3 32 v4 1 fun q29=>
  (need (h.store q29 [(.int .u8 x28)]) fun h30=>
  let x31:Int:=wrapA .i64 (v4+1)
  go v0 v2 v3 x31 h30)))))))
 else
  some ((Out.exit 0),(v0,v2,v3,()),h))
noncomputable def f45_l1 (N:Nat) (M:Nat) (v0:Option (Nat×Nat)) (v2:Option (Nat×Nat)) (v3:Option (Nat×Nat)) (v4:Int) (h:Heap):Option (Out×(Option (Nat×Nat)×Option (Nat×Nat)×Option (Nat×Nat)×Unit)×Heap):=iter (fun go s h=>f45_l1_b N (fun v0 v2 v3 v4 h=>go (v0,v2,v3,v4,()) h) s.1 s.2.1 s.2.2.1 s.2.2.2.1 h) M (v0,v2,v3,v4,()) h
theorem f45_l1_succ (N:Nat) (M:Nat) (v0:Option (Nat×Nat)) (v2:Option (Nat×Nat)) (v3:Option (Nat×Nat)) (v4:Int) (h:Heap):f45_l1 N (M+1) v0 v2 v3 v4 h=f45_l1_b N (f45_l1 N M) v0 v2 v3 v4 h:=rfl
noncomputable def f45 (N:Nat) (a0:Option (Nat×Nat)) (h:Heap):Option (dens T32×Heap):=
 let h1:Heap:=h.push (.row (CTy.tos T32 z32) .own)
 let h2:Heap:=h1.push (.row (CTy.tos T32 z32) .own)
 (need a0 fun q3=>
 (bindV (.val (.one (.int .i64))) (h2.cell (q3.1,q3.2+2)) fun (x4:Int)=>
 let x5:Bool:=!eqInt x4 0
 (bif x5 then
  (bindV (.val (.agg T32)) (h2.cells (h1.next,0) 32) fun (x6:dens T32)=>
  (need (h2.store (h.next,0) (CTy.tos T32 x6)) fun h7=>
  (bindV (.val (.agg T32)) (h7.cells (h.next,0) 32) fun (x8:dens T32)=>
  some (x8,h7))))
 else
  (need a0 fun q9=>
  (bindV (.val (.one .str)) (h2.cell (q9.1,q9.2+0)) fun (x10:List UInt8)=>
  (need a0 fun q11=>
  (bindV (.val (.one (.int .i64))) (h2.cell (q11.1,q11.2+1)) fun (x12:Int)=>
  let x13:Int:=wrapA .i64 ((Int.ofNat x10.length)-x12)
  let x14:Bool:=ltInt x13 32
  (bif x14 then
  (need a0 fun q15=>
  (bindV (.val (.one (.int .i64))) (h2.cell (q15.1,q15.2+1)) fun (x16:Int)=>
  (bind2 (f72 N a0 3 x16 h2) fun (x17:(Unit)) h18=>
  (bindV (.val (.agg T32)) (h18.cells (h1.next,0) 32) fun (x19:dens T32)=>
  (need (h18.store (h.next,0) (CTy.tos T32 x19)) fun h20=>
  (bindV (.val (.agg T32)) (h20.cells (h.next,0) 32) fun (x21:dens T32)=>
  some (x21,h20)))))))
  else
  (bind3 (f45_l1 N N a0 (some (h.next,0)) (some (h1.next,0)) 0 h2) fun _ (j33:(Option (Nat×Nat)×Option (Nat×Nat)×Option (Nat×Nat)×Unit)) h34=>
  (need j33.1 fun q35=>
  (bindV (.val (.one (.int .i64))) (h34.cell (q35.1,q35.2+1)) fun (x36:Int)=>
  let x37:Int:=wrapA .i64 (x36+32)
  (need j33.1 fun q38=>
  (need (h34.store (q38.1,q38.2+1) [(.int .i64 x37)]) fun h39=>
  (need j33.2.2.1 fun q40=>
  (bindV (.val (.agg T32)) (h39.cells q40 32) fun (x41:dens T32)=>
  (need j33.2.1 fun q43=>
  (need (h39.store q43 (CTy.tos T32 x41)) fun h42=>
  (need j33.2.1 fun q44=>
  (bindV (.val (.agg T32)) (h42.cells q44 32) fun (x45:dens T32)=>
  some (x45,h42))))))))))))))))))))
noncomputable def ann45:Ann:=(.two .n (.two .n (.two .n (.two .n (.two (.two .n (.two (.loop [(0,(.one .ptr)),(2,(.one .ptr)),(3,(.one .ptr)),(4,(.one (.int .i64)))] [(.exit 0)] [(0,(.one .ptr)),(2,(.one .ptr)),(3,(.one .ptr))] .n) .n)) .n)))))
theorem f45_ok (N:Nat):FnOK Tryz.prog 45 [(.one .ptr)] (.val (.agg T32)) (fun x h=>f45 N x.1 h):=
 runK_ok envOK hmix (addCall_ok (f72_ok N) noCalls_ok) (N:=N) (x:=ann45) (fn:=Tryz.f45) (c:=Tryz.f45.body.getD .skip) (by kernel_rfl) (by kernel_rfl) (by kernel_rfl) (by kernel_rfl) (fun _ _=>by kernel_rfl)
noncomputable def f44_l1_b (N:Nat) (go:List UInt8→Option (Nat×Nat)→Option (Nat×Nat)→Option (Nat×Nat)→Int→Heap→Option (Out×(List UInt8×Option (Nat×Nat)×Option (Nat×Nat)×Option (Nat×Nat)×Unit)×Heap)) (v0:List UInt8) (v2:Option (Nat×Nat)) (v4:Option (Nat×Nat)) (v5:Option (Nat×Nat)) (v6:Int) (h:Heap):Option (Out×(List UInt8×Option (Nat×Nat)×Option (Nat×Nat)×Option (Nat×Nat)×Unit)×Heap):=
 let x17:Bool:=ltInt 0 v6
 (bif x17 then
  (need v4 fun q18=>
  (bindV (.val (.one (.int .i64))) (h.cell (q18.1,q18.2+2)) fun (x19:Int)=>
  let x20:Bool:=eqInt x19 0
  (bif x20 then
  let h21:Heap:=h.push (.row [(.int .i64 0),(.int .i64 0),(.int .i64 0),(.int .i64 0)] .own)
  (bind2 (f42 N v4 h21) fun (x22:Int) h23=>
  (need (h23.store ((h.next,0).1,(h.next,0).2+0) [(.int .i64 x22)]) fun h24=>
  (bind2 (f42 N v4 h24) fun (x25:Int) h26=>
  (need (h26.store ((h.next,0).1,(h.next,0).2+1) [(.int .i64 x25)]) fun h27=>
  (bind2 (f42 N v4 h27) fun (x28:Int) h29=>
  (need (h29.store ((h.next,0).1,(h.next,0).2+2) [(.int .i64 x28)]) fun h30=>
  (bind2 (f42 N v4 h30) fun (x31:Int) h32=>
  (need (h32.store ((h.next,0).1,(h.next,0).2+3) [(.int .i64 x31)]) fun h33=>
  (need v5 fun q34=>
  (bindV (.val (.one .slice)) (h33.cell (q34.1,q34.2+3)) fun (x35:SL)=>
  (bindV (.val (.agg [(.int .i64),(.int .i64),(.int .i64),(.int .i64)])) (h33.cells (h.next,0) 4) fun (x36:(Int×Int×Int×Int×Unit))=>
  let h37:Heap:=h33.push (.row [(.int .i64 x36.1),(.int .i64 x36.2.1),(.int .i64 x36.2.2.1),(.int .i64 x36.2.2.2.1)] .own)
  (bindT (.val (.one .slice)) (appendA E 30 30 (.slice x35.a x35.len x35.cap x35.sz) (.slice (some (h33.next,0)) 1 1 4) h37) fun (x38:SL) h39=>
  (need v5 fun q40=>
  (need (h39.store (q40.1,q40.2+3) [(.slice x38.a x38.len x38.cap x38.sz)]) fun h41=>
  let x42:Int:=wrapA .i64 (v6-1)
  go v0 v2 v4 v5 x42 h41))))))))))))))
  else
  some ((Out.exit 0),(v0,v2,v4,v5,()),h))))
 else
  some ((Out.exit 0),(v0,v2,v4,v5,()),h))
noncomputable def f44_l1 (N:Nat) (M:Nat) (v0:List UInt8) (v2:Option (Nat×Nat)) (v4:Option (Nat×Nat)) (v5:Option (Nat×Nat)) (v6:Int) (h:Heap):Option (Out×(List UInt8×Option (Nat×Nat)×Option (Nat×Nat)×Option (Nat×Nat)×Unit)×Heap):=iter (fun go s h=>f44_l1_b N (fun v0 v2 v4 v5 v6 h=>go (v0,v2,v4,v5,v6,()) h) s.1 s.2.1 s.2.2.1 s.2.2.2.1 s.2.2.2.2.1 h) M (v0,v2,v4,v5,v6,()) h
theorem f44_l1_succ (N:Nat) (M:Nat) (v0:List UInt8) (v2:Option (Nat×Nat)) (v4:Option (Nat×Nat)) (v5:Option (Nat×Nat)) (v6:Int) (h:Heap):f44_l1 N (M+1) v0 v2 v4 v5 v6 h=f44_l1_b N (f44_l1 N M) v0 v2 v4 v5 v6 h:=rfl
noncomputable def f44 (N:Nat) (a0:List UInt8) (h:Heap):Option ((dens T36×Int×Unit)×Heap):=
 let h1:Heap:=h.push (.row ((.str [])::(.int .i64 0)::(.int .i64 0)::(.slice none 0 0 0)::CTy.tos T32 z32) .own)
 let h2:Heap:=h1.push (.row [(.str a0),(.int .i64 0),(.int .i64 0),(.int .i64 0)] .own)
 let h3:Heap:=h2.push (.row ((.str [])::(.int .i64 0)::(.int .i64 0)::(.slice none 0 0 0)::CTy.tos T32 z32) .own)
 (bind2 (f41 N (some (h1.next,0)) 4 h3) fun (x4:List UInt8) h5=>
 (bind2 (f41 N (some (h1.next,0)) 100 h5) fun (x6:List UInt8) h7=>
 (need (h7.store ((h2.next,0).1,(h2.next,0).2+0) [(.str x6)]) fun h8=>
 (bind2 (f42 N (some (h1.next,0)) h8) fun (x9:Int) h10=>
 (need (h10.store ((h2.next,0).1,(h2.next,0).2+1) [(.int .i64 x9)]) fun h11=>
 (bind2 (f42 N (some (h1.next,0)) h11) fun (x12:Int) h13=>
 (need (h13.store ((h2.next,0).1,(h2.next,0).2+2) [(.int .i64 x12)]) fun h14=>
 (bind2 (f43 N (some (h1.next,0)) 1000 h14) fun (x15:Int) h16=>
 (bind3 (f44_l1 N N a0 (some (h.next,0)) (some (h1.next,0)) (some (h2.next,0)) x15 h16) fun _ (j44:(List UInt8×Option (Nat×Nat)×Option (Nat×Nat)×Option (Nat×Nat)×Unit)) h45=>
 (bind2 (f45 N j44.2.2.1 h45) fun (x46:dens T32) h47=>
 (need j44.2.2.2.1 fun q48=>
 (need (h47.store (q48.1,q48.2+4) (CTy.tos T32 x46)) fun h49=>
 (need j44.2.2.1 fun q50=>
 (bindV (.val (.one (.int .i64))) (h49.cell (q50.1,q50.2+2)) fun (x51:Int)=>
 let x52:Bool:=!eqInt x51 0
 (bif x52 then
  (need j44.2.1 fun q54=>
  (need (h49.store q54 ((.str [])::(.int .i64 0)::(.int .i64 0)::(.slice none 0 0 0)::CTy.tos T32 z32)) fun h53=>
  (need j44.2.1 fun q55=>
  (bindV (.val (.agg T36)) (h53.cells q55 36) fun (x56:dens T36)=>
  some ((x56,4,()),h53)))))
 else
  (need j44.2.2.2.1 fun q57=>
  (bindV (.val (.agg T36)) (h49.cells q57 36) fun (x58:dens T36)=>
  (bind2 (f36 N x58 h49) fun (x59:(List UInt8×Int×Unit)) h60=>
  let x61:Bool:=!eqInt x59.2.1 0
  (bif x61 then
  (need j44.2.1 fun q63=>
  (need (h60.store q63 ((.str [])::(.int .i64 0)::(.int .i64 0)::(.slice none 0 0 0)::CTy.tos T32 z32)) fun h62=>
  (need j44.2.1 fun q64=>
  (bindV (.val (.agg T36)) (h62.cells q64 36) fun (x65:dens T36)=>
  some ((x65,4,()),h62)))))
  else
  let x66:Bool:=!eqBytes x59.1 j44.1
  (bif x66 then
   (need j44.2.1 fun q68=>
   (need (h60.store q68 ((.str [])::(.int .i64 0)::(.int .i64 0)::(.slice none 0 0 0)::CTy.tos T32 z32)) fun h67=>
   (need j44.2.1 fun q69=>
   (bindV (.val (.agg T36)) (h67.cells q69 36) fun (x70:dens T36)=>
   some ((x70,4,()),h67)))))
  else
   (need j44.2.2.2.1 fun q71=>
   (bindV (.val (.agg T36)) (h60.cells q71 36) fun (x72:dens T36)=>
   (need j44.2.1 fun q74=>
   (need (h60.store q74 (CTy.tos T36 x72)) fun h73=>
   (need j44.2.1 fun q75=>
   (bindV (.val (.agg T36)) (h73.cells q75 36) fun (x76:dens T36)=>
   some ((x76,0,()),h73)))))))))))))))))))))))))))
noncomputable def ann44:Ann:=(.two .n (.two .n (.two .n (.two .n (.two .n (.two .n (.two .n (.two (.two .n (.two (.loop [(0,(.one .str)),(2,(.one .ptr)),(4,(.one .ptr)),(5,(.one .ptr)),(6,(.one (.int .i64)))] [(.exit 0)] [(0,(.one .str)),(2,(.one .ptr)),(4,(.one .ptr)),(5,(.one .ptr))] .n) .n)) .n))))))))
theorem f44_ok (N:Nat):FnOK Tryz.prog 44 [(.one .str)] (.tup [(.agg T36),(.one (.int .i64))]) (fun x h=>f44 N x.1 h):=
 runK_ok envOK hmix (addCall_ok (f45_ok N) (addCall_ok (f43_ok N) (addCall_ok (f42_ok N) (addCall_ok (f41_ok N) (addCall_ok (f36_ok N) noCalls_ok))))) (N:=N) (x:=ann44) (fn:=Tryz.f44) (c:=Tryz.f44.body.getD .skip) (by kernel_rfl) (by kernel_rfl) (by kernel_rfl) (by kernel_rfl) (fun _ _=>by kernel_rfl)
noncomputable def f11_l1_b (N:Nat) (go:List UInt8→Option (Nat×Nat)→Int→Option (Nat×Nat)→Option (Nat×Nat)→Int→Heap→Option (Out×(List UInt8×Option (Nat×Nat)×Int×Option (Nat×Nat)×Option (Nat×Nat)×Unit)×Heap)) (v0:List UInt8) (v2:Option (Nat×Nat)) (v3:Int) (v4:Option (Nat×Nat)) (v5:Option (Nat×Nat)) (v6:Int) (h:Heap):Option (Out×(List UInt8×Option (Nat×Nat)×Int×Option (Nat×Nat)×Option (Nat×Nat)×Unit)×Heap):=
 let x14:Bool:=ltInt 0 v6
 (bif x14 then
  (need v4 fun q15=>
  (bindV (.val (.one (.int .i64))) (h.cell (q15.1,q15.2+2)) fun (x16:Int)=>
  let x17:Bool:=eqInt x16 0
  (bif x17 then
  (bind2 (f41 N v4 4194304 h) fun (x18:List UInt8) h19=>
  (bind2 (f44 N x18 h19) fun (x20:(dens T36×Int×Unit)) h21=>
  let h22:Heap:=h21.push (.row ((.str [])::(.int .i64 0)::(.int .i64 0)::(.slice none 0 0 0)::CTy.tos T32 z32) .own)
  (need (h22.store (h21.next,0) (CTy.tos T36 x20.1)) fun h23=>
  let x24:Bool:=!eqInt x20.2.1 0
  (bif x24 then
   (need v2 fun q26=>
   (need (h23.store q26 ((.int .i64 0)::(.int .i64 0)::(.slice none 0 0 0)::CTy.tos T32 z32)) fun h25=>
   some (Out.ret,(v0,v2,4,v4,v5,()),h25)))
  else
   (need v5 fun q27=>
   (bindV (.val (.one .slice)) (h23.cell (q27.1,q27.2+2)) fun (x28:SL)=>
   (bindV (.val (.agg T36)) (h23.cells (h21.next,0) 36) fun (x29:dens T36)=>
   let h30:Heap:=h23.push (.row (CTy.tos T36 x29) .own)
   (bindT (.val (.one .slice)) (appendA E 23 23 (.slice x28.a x28.len x28.cap x28.sz) (.slice (some (h23.next,0)) 1 1 36) h30) fun (x31:SL) h32=>
   (need v5 fun q33=>
   (need (h32.store (q33.1,q33.2+2) [(.slice x31.a x31.len x31.cap x31.sz)]) fun h34=>
   let x35:Int:=wrapA .i64 (v6-1)
   go v0 v2 v3 v4 v5 x35 h34))))))))))
  else
  some ((Out.exit 0),(v0,v2,v3,v4,v5,()),h))))
 else
  some ((Out.exit 0),(v0,v2,v3,v4,v5,()),h))
noncomputable def f11_l1 (N:Nat) (M:Nat) (v0:List UInt8) (v2:Option (Nat×Nat)) (v3:Int) (v4:Option (Nat×Nat)) (v5:Option (Nat×Nat)) (v6:Int) (h:Heap):Option (Out×(List UInt8×Option (Nat×Nat)×Int×Option (Nat×Nat)×Option (Nat×Nat)×Unit)×Heap):=iter (fun go s h=>f11_l1_b N (fun v0 v2 v3 v4 v5 v6 h=>go (v0,v2,v3,v4,v5,v6,()) h) s.1 s.2.1 s.2.2.1 s.2.2.2.1 s.2.2.2.2.1 s.2.2.2.2.2.1 h) M (v0,v2,v3,v4,v5,v6,()) h
theorem f11_l1_succ (N:Nat) (M:Nat) (v0:List UInt8) (v2:Option (Nat×Nat)) (v3:Int) (v4:Option (Nat×Nat)) (v5:Option (Nat×Nat)) (v6:Int) (h:Heap):f11_l1 N (M+1) v0 v2 v3 v4 v5 v6 h=f11_l1_b N (f11_l1 N M) v0 v2 v3 v4 v5 v6 h:=rfl
noncomputable def f11 (N:Nat) (a0:List UInt8) (h:Heap):Option ((dens T35×Int×Unit)×Heap):=
 let h1:Heap:=h.push (.row ((.int .i64 0)::(.int .i64 0)::(.slice none 0 0 0)::CTy.tos T32 z32) .own)
 let h2:Heap:=h1.push (.row [(.str a0),(.int .i64 0),(.int .i64 0),(.int .i64 0)] .own)
 let h3:Heap:=h2.push (.row ((.int .i64 0)::(.int .i64 0)::(.slice none 0 0 0)::CTy.tos T32 z32) .own)
 (bind2 (f41 N (some (h1.next,0)) 4 h3) fun (x4:List UInt8) h5=>
 (bind2 (f42 N (some (h1.next,0)) h5) fun (x6:Int) h7=>
 (need (h7.store ((h2.next,0).1,(h2.next,0).2+0) [(.int .i64 x6)]) fun h8=>
 (bind2 (f42 N (some (h1.next,0)) h8) fun (x9:Int) h10=>
 (need (h10.store ((h2.next,0).1,(h2.next,0).2+1) [(.int .i64 x9)]) fun h11=>
 (bind2 (f43 N (some (h1.next,0)) 64 h11) fun (x12:Int) h13=>
 (bind3 (f11_l1 N N a0 (some (h.next,0)) 0 (some (h1.next,0)) (some (h2.next,0)) x12 h13) fun o36 (j37:(List UInt8×Option (Nat×Nat)×Int×Option (Nat×Nat)×Option (Nat×Nat)×Unit)) h38=>
 (bif eqOut o36 (.exit 0) then
  (bind2 (f45 N j37.2.2.2.1 h38) fun (x39:dens T32) h40=>
  (need j37.2.2.2.2.1 fun q41=>
  (need (h40.store (q41.1,q41.2+3) (CTy.tos T32 x39)) fun h42=>
  (need j37.2.2.2.1 fun q43=>
  (bindV (.val (.one (.int .i64))) (h42.cell (q43.1,q43.2+2)) fun (x44:Int)=>
  let x45:Bool:=!eqInt x44 0
  (bif x45 then
  (need j37.2.1 fun q47=>
  (need (h42.store q47 ((.int .i64 0)::(.int .i64 0)::(.slice none 0 0 0)::CTy.tos T32 z32)) fun h46=>
  (need j37.2.1 fun q48=>
  (bindV (.val (.agg T35)) (h46.cells q48 35) fun (x49:dens T35)=>
  some ((x49,4,()),h46)))))
  else
  (need j37.2.2.2.2.1 fun q50=>
  (bindV (.val (.agg T35)) (h42.cells q50 35) fun (x51:dens T35)=>
  (bind2 (f8 N x51 h42) fun (x52:(List UInt8×Int×Unit)) h53=>
  let x54:Bool:=!eqInt x52.2.1 0
  (bif x54 then
   (need j37.2.1 fun q56=>
   (need (h53.store q56 ((.int .i64 0)::(.int .i64 0)::(.slice none 0 0 0)::CTy.tos T32 z32)) fun h55=>
   (need j37.2.1 fun q57=>
   (bindV (.val (.agg T35)) (h55.cells q57 35) fun (x58:dens T35)=>
   some ((x58,4,()),h55)))))
  else
   let x59:Bool:=!eqBytes x52.1 j37.1
   (bif x59 then
   (need j37.2.1 fun q61=>
   (need (h53.store q61 ((.int .i64 0)::(.int .i64 0)::(.slice none 0 0 0)::CTy.tos T32 z32)) fun h60=>
   (need j37.2.1 fun q62=>
   (bindV (.val (.agg T35)) (h60.cells q62 35) fun (x63:dens T35)=>
   some ((x63,4,()),h60)))))
   else
   (need j37.2.2.2.2.1 fun q64=>
   (bindV (.val (.agg T35)) (h53.cells q64 35) fun (x65:dens T35)=>
   (need j37.2.1 fun q67=>
   (need (h53.store q67 (CTy.tos T35 x65)) fun h66=>
   (need j37.2.1 fun q68=>
   (bindV (.val (.agg T35)) (h66.cells q68 35) fun (x69:dens T35)=>
   some ((x69,0,()),h66))))))))))))))))))
 else
  (need j37.2.1 fun q70=>
  (bindV (.val (.agg T35)) (h38.cells q70 35) fun (x71:dens T35)=>
  some ((x71,j37.2.2.1,()),h38)))))))))))
noncomputable def ann11:Ann:=(.two .n (.two .n (.two .n (.two .n (.two .n (.two .n (.two (.two .n (.two (.loop [(0,(.one .str)),(2,(.one .ptr)),(3,(.one (.int .i64))),(4,(.one .ptr)),(5,(.one .ptr)),(6,(.one (.int .i64)))] [(.exit 0),.ret] [(0,(.one .str)),(2,(.one .ptr)),(3,(.one (.int .i64))),(4,(.one .ptr)),(5,(.one .ptr))] .n) .n)) .n)))))))
theorem f11_ok (N:Nat):FnOK Tryz.prog 11 [(.one .str)] (.tup [(.agg T35),(.one (.int .i64))]) (fun x h=>f11 N x.1 h):=
 runK_ok envOK hmix (addCall_ok (f8_ok N) (addCall_ok (f45_ok N) (addCall_ok (f44_ok N) (addCall_ok (f43_ok N) (addCall_ok (f42_ok N) (addCall_ok (f41_ok N) noCalls_ok)))))) (N:=N) (x:=ann11) (fn:=Tryz.f11) (c:=Tryz.f11.body.getD .skip) (by kernel_rfl) (by kernel_rfl) (by kernel_rfl) (by kernel_rfl) (fun _ _=>by kernel_rfl)
noncomputable def f73_l1_b (N:Nat) (go:SL→SL→Bool→Int→Heap→Option (Out×(Bool×Unit)×Heap)) (v0:SL) (v1:SL) (v4:Bool) (v5:Int) (h:Heap):Option (Out×(Bool×Unit)×Heap):=
 let x2:Bool:=ltInt v5 (Int.ofNat v0.len)
 (bif x2 then
  (ixK v0.a v0.len v5 4 fun q3=>
  (bindV (.val (.agg [(.int .i64),(.int .i64),(.int .i64),(.int .i64)])) (h.cells q3 4) fun (x4:(Int×Int×Int×Int×Unit))=>
  (ixK v1.a v1.len v5 4 fun q5=>
  (bindV (.val (.agg [(.int .i64),(.int .i64),(.int .i64),(.int .i64)])) (h.cells q5 4) fun (x6:(Int×Int×Int×Int×Unit))=>
  (bindV (.val (.one .bool)) (binA E .neq 145 (.tmp 20) (.tmp 24) (.agg [(.int .i64 x4.1),(.int .i64 x4.2.1),(.int .i64 x4.2.2.1),(.int .i64 x4.2.2.2.1)]) (.agg [(.int .i64 x6.1),(.int .i64 x6.2.1),(.int .i64 x6.2.2.1),(.int .i64 x6.2.2.2.1)])) fun (x7:Bool)=>
  (bif x7 then
  some (Out.ret,(false,()),h)
  else
  let x8:Int:=wrapA .i64 (v5+1)
  go v0 v1 v4 x8 h))))))
 else
  some ((Out.exit 0),(v4,()),h))
noncomputable def f73_l1 (N:Nat) (M:Nat) (v0:SL) (v1:SL) (v4:Bool) (v5:Int) (h:Heap):Option (Out×(Bool×Unit)×Heap):=iter (fun go s h=>f73_l1_b N (fun v0 v1 v4 v5 h=>go (v0,v1,v4,v5,()) h) s.1 s.2.1 s.2.2.1 s.2.2.2.1 h) M (v0,v1,v4,v5,()) h
theorem f73_l1_succ (N:Nat) (M:Nat) (v0:SL) (v1:SL) (v4:Bool) (v5:Int) (h:Heap):f73_l1 N (M+1) v0 v1 v4 v5 h=f73_l1_b N (f73_l1 N M) v0 v1 v4 v5 h:=rfl
noncomputable def f73 (N:Nat) (a0:SL) (a1:SL) (h:Heap):Option (Bool×Heap):=
 let x1:Bool:=!eqInt (Int.ofNat a0.len) (Int.ofNat a1.len)
 (bif x1 then
  some (false,h)
 else
  (bind3 (f73_l1 N N a0 a1 false 0 h) fun o9 (j10:(Bool×Unit)) h11=>
  (bif eqOut o9 (.exit 0) then
  some (true,h11)
  else
  some (j10.1,h11))))
noncomputable def ann73:Ann:=(.two .n (.two .n (.two (.two .n (.two (.loop [(0,(.one .slice)),(1,(.one .slice)),(4,(.one .bool)),(5,(.one (.int .i64)))] [(.exit 0),.ret] [(4,(.one .bool))] .n) .n)) .n)))
theorem f73_ok (N:Nat):FnOK Tryz.prog 73 [(.one .slice),(.one .slice)] (.val (.one .bool)) (fun x h=>f73 N x.1 x.2.1 h):=
 runK_ok envOK hmix noCalls_ok (N:=N) (x:=ann73) (fn:=Tryz.f73) (c:=Tryz.f73.body.getD .skip) (by kernel_rfl) (by kernel_rfl) (by kernel_rfl) (by kernel_rfl) (fun _ _=>by kernel_rfl)
noncomputable def f46 (N:Nat) (a0:dens T36) (a1:dens T36) (h:Heap):Option (Bool×Heap):=
 let h1:Heap:=h.push (.row (CTy.tos T36 a0) .own)
 let h2:Heap:=h1.push (.row (CTy.tos T36 a1) .own)
 (bindV (.val (.one .str)) (h2.cell ((h.next,0).1,(h.next,0).2+0)) fun (x3:List UInt8)=>
 (bindV (.val (.one .str)) (h2.cell ((h1.next,0).1,(h1.next,0).2+0)) fun (x4:List UInt8)=>
 let x5:Bool:=eqBytes x3 x4
 (bif x5 then
  (bindV (.val (.one (.int .i64))) (h2.cell ((h.next,0).1,(h.next,0).2+1)) fun (x6:Int)=>
  (bindV (.val (.one (.int .i64))) (h2.cell ((h1.next,0).1,(h1.next,0).2+1)) fun (x7:Int)=>
  let x8:Bool:=eqInt x6 x7
  (bif x8 then
  (bindV (.val (.one (.int .i64))) (h2.cell ((h.next,0).1,(h.next,0).2+2)) fun (x9:Int)=>
  (bindV (.val (.one (.int .i64))) (h2.cell ((h1.next,0).1,(h1.next,0).2+2)) fun (x10:Int)=>
  let x11:Bool:=eqInt x9 x10
  (bif x11 then
   (bindV (.val (.agg T32)) (h2.cells ((h.next,0).1,(h.next,0).2+4) 32) fun (x12:dens T32)=>
   (bindV (.val (.agg T32)) (h2.cells ((h1.next,0).1,(h1.next,0).2+4) 32) fun (x13:dens T32)=>
   (bindV (.val (.one .bool)) (binA E .eql 25 (.tmp 26) (.tmp 28) (.agg (CTy.tos T32 x12)) (.agg (CTy.tos T32 x13))) fun (x14:Bool)=>
   (bif x14 then
   (bindV (.val (.one .slice)) (h2.cell ((h.next,0).1,(h.next,0).2+3)) fun (x15:SL)=>
   (bindV (.val (.one .slice)) (h2.cell ((h1.next,0).1,(h1.next,0).2+3)) fun (x16:SL)=>
   (bind2 (f73 N x15 x16 h2) fun (x17:Bool) h18=>
   some (x17,h18))))
   else
   some (false,h2)))))
  else
   some (false,h2))))
  else
  some (false,h2))))
 else
  some (false,h2))))
noncomputable def ann46:Ann:=.n
theorem f46_ok (N:Nat):FnOK Tryz.prog 46 [(.agg T36),(.agg T36)] (.val (.one .bool)) (fun x h=>f46 N x.1 x.2.1 h):=
 runK_ok envOK hmix (addCall_ok (f73_ok N) noCalls_ok) (N:=N) (x:=ann46) (fn:=Tryz.f46) (c:=Tryz.f46.body.getD .skip) (by kernel_rfl) (by kernel_rfl) (by kernel_rfl) (by kernel_rfl) (fun _ _=>by kernel_rfl)
noncomputable def f12_l1_b (N:Nat) (go:Option (Nat×Nat)→Option (Nat×Nat)→Bool→Int→Heap→Option (Out×(Bool×Unit)×Heap)) (v2:Option (Nat×Nat)) (v3:Option (Nat×Nat)) (v4:Bool) (v5:Int) (h:Heap):Option (Out×(Bool×Unit)×Heap):=
 (need v2 fun q15=>
 (bindV (.val (.one .slice)) (h.cell (q15.1,q15.2+2)) fun (x16:SL)=>
 let x17:Bool:=ltInt v5 (Int.ofNat x16.len)
 (bif x17 then
  (need v2 fun q18=>
  (bindV (.val (.one .slice)) (h.cell (q18.1,q18.2+2)) fun (x19:SL)=>
  (ixK x19.a x19.len v5 36 fun q20=>
  (bindV (.val (.agg T36)) (h.cells q20 36) fun (x21:dens T36)=>
  (need v3 fun q22=>
  (bindV (.val (.one .slice)) (h.cell (q22.1,q22.2+2)) fun (x23:SL)=>
  (ixK x23.a x23.len v5 36 fun q24=>
  (bindV (.val (.agg T36)) (h.cells q24 36) fun (x25:dens T36)=>
  (bind2 (f46 N x21 x25 h) fun (x26:Bool) h27=>
  let x28:Bool:=!x26
  (bif x28 then
  some (Out.ret,(false,()),h27)
  else
  let x29:Int:=wrapA .i64 (v5+1)
  go v2 v3 v4 x29 h27))))))))))
 else
  some ((Out.exit 0),(v4,()),h))))
noncomputable def f12_l1 (N:Nat) (M:Nat) (v2:Option (Nat×Nat)) (v3:Option (Nat×Nat)) (v4:Bool) (v5:Int) (h:Heap):Option (Out×(Bool×Unit)×Heap):=iter (fun go s h=>f12_l1_b N (fun v2 v3 v4 v5 h=>go (v2,v3,v4,v5,()) h) s.1 s.2.1 s.2.2.1 s.2.2.2.1 h) M (v2,v3,v4,v5,()) h
theorem f12_l1_succ (N:Nat) (M:Nat) (v2:Option (Nat×Nat)) (v3:Option (Nat×Nat)) (v4:Bool) (v5:Int) (h:Heap):f12_l1 N (M+1) v2 v3 v4 v5 h=f12_l1_b N (f12_l1 N M) v2 v3 v4 v5 h:=rfl
noncomputable def f12 (N:Nat) (a0:dens T35) (a1:dens T35) (h:Heap):Option (Bool×Heap):=
 let h1:Heap:=h.push (.row (CTy.tos T35 a0) .own)
 let h2:Heap:=h1.push (.row (CTy.tos T35 a1) .own)
 (bindV (.val (.one (.int .i64))) (h2.cell ((h.next,0).1,(h.next,0).2+0)) fun (x3:Int)=>
 (bindV (.val (.one (.int .i64))) (h2.cell ((h1.next,0).1,(h1.next,0).2+0)) fun (x4:Int)=>
 let x5:Bool:=!eqInt x3 x4
 (bif x5 then
  some (false,h2)
 else
  (bindV (.val (.one (.int .i64))) (h2.cell ((h.next,0).1,(h.next,0).2+1)) fun (x6:Int)=>
  (bindV (.val (.one (.int .i64))) (h2.cell ((h1.next,0).1,(h1.next,0).2+1)) fun (x7:Int)=>
  let x8:Bool:=!eqInt x6 x7
  (bif x8 then
  some (false,h2)
  else
  (bindV (.val (.agg T32)) (h2.cells ((h.next,0).1,(h.next,0).2+3) 32) fun (x9:dens T32)=>
  (bindV (.val (.agg T32)) (h2.cells ((h1.next,0).1,(h1.next,0).2+3) 32) fun (x10:dens T32)=>
  (bindV (.val (.one .bool)) (binA E .neq 25 (.tmp 20) (.tmp 22) (.agg (CTy.tos T32 x9)) (.agg (CTy.tos T32 x10))) fun (x11:Bool)=>
  (bif x11 then
   some (false,h2)
  else
   (bindV (.val (.one .slice)) (h2.cell ((h.next,0).1,(h.next,0).2+2)) fun (x12:SL)=>
   (bindV (.val (.one .slice)) (h2.cell ((h1.next,0).1,(h1.next,0).2+2)) fun (x13:SL)=>
   let x14:Bool:=!eqInt (Int.ofNat x12.len) (Int.ofNat x13.len)
   (bif x14 then
   some (false,h2)
   else
   (bind3 (f12_l1 N N (some (h.next,0)) (some (h1.next,0)) false 0 h2) fun o30 (j31:(Bool×Unit)) h32=>
   (bif eqOut o30 (.exit 0) then
    some (true,h32)
   else
    some (j31.1,h32))))))))))))))))
noncomputable def ann12:Ann:=(.two .n (.two .n (.two (.two .n (.two (.loop [(2,(.one .ptr)),(3,(.one .ptr)),(4,(.one .bool)),(5,(.one (.int .i64)))] [(.exit 0),.ret] [(4,(.one .bool))] .n) .n)) .n)))
theorem f12_ok (N:Nat):FnOK Tryz.prog 12 [(.agg T35),(.agg T35)] (.val (.one .bool)) (fun x h=>f12 N x.1 x.2.1 h):=
 runK_ok envOK hmix (addCall_ok (f46_ok N) noCalls_ok) (N:=N) (x:=ann12) (fn:=Tryz.f12) (c:=Tryz.f12.body.getD .skip) (by kernel_rfl) (by kernel_rfl) (by kernel_rfl) (by kernel_rfl) (fun _ _=>by kernel_rfl)
noncomputable def f3_l3_b (N:Nat) (go:Bool→SL→Int→Heap→Option (Out×(Bool×Unit)×Heap)) (v10:Bool) (v16:SL) (v18:Int) (h:Heap):Option (Out×(Bool×Unit)×Heap):=
 let x105:Bool:=ltInt v18 (Int.ofNat v16.len)
 (bif x105 then
  (ixK v16.a v16.len v18 1 fun q106=>
  (bindV (.val (.one .str)) (h.cell q106) fun (x107:List UInt8)=>
  (bindT (.val (.one .slice)) (convA E 9 28 (.str x107) h) fun (x108:SL) h109=>
  (bind2 (f10 N x108 h109) fun (x110:(dens T35×AV×Unit)) h111=>
  let h112:Heap:=h111.push (.row ((.int .i64 0)::(.int .i64 0)::(.slice none 0 0 0)::CTy.tos T32 z32) .own)
  (need (h112.store (h111.next,0) (CTy.tos T35 x110.1)) fun h113=>
  (ixK v16.a v16.len v18 1 fun q114=>
  (bindV (.val (.one .str)) (h113.cell q114) fun (x115:List UInt8)=>
  (bind2 (f11 N x115 h113) fun (x116:(dens T35×Int×Unit)) h117=>
  let h118:Heap:=h117.push (.row ((.int .i64 0)::(.int .i64 0)::(.slice none 0 0 0)::CTy.tos T32 z32) .own)
  (need (h118.store (h117.next,0) (CTy.tos T35 x116.1)) fun h119=>
  (bindV (.val (.agg T35)) (h119.cells (h111.next,0) 35) fun (x120:dens T35)=>
  (bindV (.val (.agg T35)) (h119.cells (h117.next,0) 35) fun (x121:dens T35)=>
  (bind2 (f12 N x120 x121 h119) fun (x122:Bool) h123=>
  let x124:Bool:=!x122
  (bif x124 then
  some (Out.ret,(false,()),h123)
  else
  (bind2 (f9 N x110.2.1 x116.2.1 0 h123) fun (x125:Bool) h126=>
  let x127:Bool:=!x125
  (bif x127 then
   some (Out.ret,(false,()),h126)
  else
   let x128:Int:=wrapA .i64 (v18+1)
   go v10 v16 x128 h126)))))))))))))))
 else
  some ((Out.exit 2),(v10,()),h))
noncomputable def f3_l3 (N:Nat) (M:Nat) (v10:Bool) (v16:SL) (v18:Int) (h:Heap):Option (Out×(Bool×Unit)×Heap):=iter (fun go s h=>f3_l3_b N (fun v10 v16 v18 h=>go (v10,v16,v18,()) h) s.1 s.2.1 s.2.2.1 h) M (v10,v16,v18,()) h
noncomputable def f3_l2_b (N:Nat) (go:Bool→SL→Int→Heap→Option (Out×(Bool×Unit)×Heap)) (v10:Bool) (v16:SL) (v18:Int) (h:Heap):Option (Out×(Bool×Unit)×Heap):=
 let x76:Bool:=ltInt v18 (Int.ofNat v16.len)
 (bif x76 then
  (ixK v16.a v16.len v18 1 fun q77=>
  (bindV (.val (.one .str)) (h.cell q77) fun (x78:List UInt8)=>
  (bindT (.val (.one .slice)) (convA E 9 28 (.str x78) h) fun (x79:SL) h80=>
  (bind2 (f10 N x79 h80) fun (x81:(dens T35×AV×Unit)) h82=>
  let h83:Heap:=h82.push (.row ((.int .i64 0)::(.int .i64 0)::(.slice none 0 0 0)::CTy.tos T32 z32) .own)
  (need (h83.store (h82.next,0) (CTy.tos T35 x81.1)) fun h84=>
  (ixK v16.a v16.len v18 1 fun q85=>
  (bindV (.val (.one .str)) (h84.cell q85) fun (x86:List UInt8)=>
  (bind2 (f11 N x86 h84) fun (x87:(dens T35×Int×Unit)) h88=>
  let h89:Heap:=h88.push (.row ((.int .i64 0)::(.int .i64 0)::(.slice none 0 0 0)::CTy.tos T32 z32) .own)
  (need (h89.store (h88.next,0) (CTy.tos T35 x87.1)) fun h90=>
  (bindV (.val (.agg T35)) (h90.cells (h82.next,0) 35) fun (x91:dens T35)=>
  (bindV (.val (.agg T35)) (h90.cells (h88.next,0) 35) fun (x92:dens T35)=>
  (bind2 (f12 N x91 x92 h90) fun (x93:Bool) h94=>
  let x95:Bool:=!x93
  (bif x95 then
  some (Out.ret,(false,()),h94)
  else
  (bind2 (f9 N x81.2.1 x87.2.1 0 h94) fun (x96:Bool) h97=>
  let x98:Bool:=!x96
  (bif x98 then
   some (Out.ret,(false,()),h97)
  else
   let x99:Int:=wrapA .i64 (v18+1)
   go v10 v16 x99 h97)))))))))))))))
 else
  some ((Out.exit 2),(v10,()),h))
noncomputable def f3_l2 (N:Nat) (M:Nat) (v10:Bool) (v16:SL) (v18:Int) (h:Heap):Option (Out×(Bool×Unit)×Heap):=iter (fun go s h=>f3_l2_b N (fun v10 v16 v18 h=>go (v10,v16,v18,()) h) s.1 s.2.1 s.2.2.1 h) M (v10,v16,v18,()) h
theorem f3_l2_succ (N:Nat) (M:Nat) (v10:Bool) (v16:SL) (v18:Int) (h:Heap):f3_l2 N (M+1) v10 v16 v18 h=f3_l2_b N (f3_l2 N M) v10 v16 v18 h:=rfl
noncomputable def f3_l1_b (N:Nat) (go:SL→Int→Int→Int→Option (Nat×Nat)→Bool→Int→Heap→Option (Out×(SL×Int×Int×Int×Option (Nat×Nat)×Bool×Unit)×Heap)) (v1:SL) (v2:Int) (v3:Int) (v4:Int) (v5:Option (Nat×Nat)) (v10:Bool) (v11:Int) (h:Heap):Option (Out×(SL×Int×Int×Int×Option (Nat×Nat)×Bool×Unit)×Heap):=
 (need v5 fun q9=>
 (bindV (.val (.one .slice)) (h.cell (q9.1,q9.2+2)) fun (x10:SL)=>
 let x11:Bool:=ltInt v11 (Int.ofNat x10.len)
 (bif x11 then
  (need v5 fun q12=>
  (bindV (.val (.one .slice)) (h.cell (q12.1,q12.2+2)) fun (x13:SL)=>
  (ixK x13.a x13.len v11 36 fun q14=>
  (bindV (.val (.one .slice)) (h.cell (q14.1,q14.2+3)) fun (x15:SL)=>
  let x16:Bool:=ltInt 20 (Int.ofNat x15.len)
  (bif x16 then
  (bind2 (f6 N  h) fun (x17:Bool) h18=>
  some (Out.ret,(v1,v2,v3,v4,v5,x17,()),h18))
  else
  (need v5 fun q19=>
  (bindV (.val (.one .slice)) (h.cell (q19.1,q19.2+2)) fun (x20:SL)=>
  (ixK x20.a x20.len v11 36 fun q21=>
  (bindV (.val (.one .str)) (h.cell (q21.1,q21.2+0)) fun (x22:List UInt8)=>
  let x23:Bool:=ltInt 100 (Int.ofNat x22.length)
  (bif x23 then
   (bind2 (f6 N  h) fun (x24:Bool) h25=>
   some (Out.ret,(v1,v2,v3,v4,v5,x24,()),h25))
  else
   let x26:Int:=wrapA .i64 (v11+1)
   go v1 v2 v3 v4 v5 v10 x26 h))))))))))
 else
  some ((Out.exit 0),(v1,v2,v3,v4,v5,v10,()),h))))
noncomputable def f3_l1 (N:Nat) (M:Nat) (v1:SL) (v2:Int) (v3:Int) (v4:Int) (v5:Option (Nat×Nat)) (v10:Bool) (v11:Int) (h:Heap):Option (Out×(SL×Int×Int×Int×Option (Nat×Nat)×Bool×Unit)×Heap):=iter (fun go s h=>f3_l1_b N (fun v1 v2 v3 v4 v5 v10 v11 h=>go (v1,v2,v3,v4,v5,v10,v11,()) h) s.1 s.2.1 s.2.2.1 s.2.2.2.1 s.2.2.2.2.1 s.2.2.2.2.2.1 s.2.2.2.2.2.2.1 h) M (v1,v2,v3,v4,v5,v10,v11,()) h
theorem f3_l1_succ (N:Nat) (M:Nat) (v1:SL) (v2:Int) (v3:Int) (v4:Int) (v5:Option (Nat×Nat)) (v10:Bool) (v11:Int) (h:Heap):f3_l1 N (M+1) v1 v2 v3 v4 v5 v10 v11 h=f3_l1_b N (f3_l1 N M) v1 v2 v3 v4 v5 v10 v11 h:=rfl
noncomputable def f3 (N:Nat) (a0:dens T35) (a1:SL) (a2:Int) (a3:Int) (a4:Int) (h:Heap):Option (Bool×Heap):=
 let h1:Heap:=h.push (.row (CTy.tos T35 a0) .own)
 (bindV (.val (.one .slice)) (h1.cell ((h.next,0).1,(h.next,0).2+2)) fun (x2:SL)=>
 let x3:Bool:=ltInt 8 (Int.ofNat x2.len)
 (bif x3 then
  (bind2 (f6 N  h1) fun (x4:Bool) h5=>
  some (x4,h5))
 else
  let x6:Bool:=ltInt 2000 (Int.ofNat a1.len)
  (bif x6 then
  (bind2 (f6 N  h1) fun (x7:Bool) h8=>
  some (x7,h8))
  else
  (bind3 (f3_l1 N N a1 a2 a3 a4 (some (h.next,0)) false 0 h1) fun o27 (j28:(SL×Int×Int×Int×Option (Nat×Nat)×Bool×Unit)) h29=>
  (bif eqOut o27 (.exit 0) then
   (need j28.2.2.2.2.1 fun q30=>
   (bindV (.val (.agg T35)) (h29.cells q30 35) fun (x31:dens T35)=>
   (bind2 (f7 N x31 h29) fun (x32:(SL×AV×Unit)) h33=>
   (need j28.2.2.2.2.1 fun q34=>
   (bindV (.val (.agg T35)) (h33.cells q34 35) fun (x35:dens T35)=>
   (bind2 (f8 N x35 h33) fun (x36:(List UInt8×Int×Unit)) h37=>
   (bindV (.val (.one .str)) (convS E 28 9 (.slice x32.1.a x32.1.len x32.1.cap x32.1.sz) h37) fun (x38:List UInt8)=>
   let x39:Bool:=!eqBytes x38 x36.1
   (bif x39 then
   some (false,h37)
   else
   (bind2 (f9 N x32.2.1 x36.2.1 0 h37) fun (x40:Bool) h41=>
   let x42:Bool:=!x40
   (bif x42 then
    some (false,h41)
   else
    (bindV (.val (.one .str)) (convS E 28 9 (.slice j28.1.a j28.1.len j28.1.cap j28.1.sz) h41) fun (x43:List UInt8)=>
    let h44:Heap:=h41.push (.row [(.str x43),(.str x36.1)] .own)
    let x45:Bool:=ltInt 0 (Int.ofNat x36.1.length)
    (bif x45 then
    (bindV (.val (.one (.int .i64))) (binInt .rem .i64 j28.2.1 (Int.ofNat x36.1.length)) fun (x46:Int)=>
    let x47:Int:=wrapA .i64 (x46+(Int.ofNat x36.1.length))
    (bindV (.val (.one (.int .i64))) (binInt .rem .i64 x47 (Int.ofNat x36.1.length)) fun (x48:Int)=>
    (bindV (.val (.one .str)) (sliceA E h44 9 (.str x36.1) none (some (.int .i64 x48))) fun (x49:List UInt8)=>
    (bindV (.val (.one .str)) (sliceA E h44 9 (.str x36.1) none (some (.int .i64 x48))) fun (x50:List UInt8)=>
    let h51:Heap:=h44.push (.row [(.int .u8 j28.2.2.1)] .own)
    (bindV (.val (.one .str)) (convS E 28 9 (.slice (some (h44.next,0)) 1 1 1) h51) fun (x52:List UInt8)=>
    (bindV (.val (.one .str)) (binStr .add x50 x52) fun (x53:List UInt8)=>
    let x54:Int:=wrapA .i64 (x48+1)
    (bindV (.val (.one .str)) (sliceA E h51 9 (.str x36.1) (some (.int .i64 x54)) none) fun (x55:List UInt8)=>
    (bindV (.val (.one .str)) (binStr .add x53 x55) fun (x56:List UInt8)=>
    (bindV (.val (.one .str)) (sliceA E h51 9 (.str x36.1) none (some (.int .i64 x48))) fun (x57:List UInt8)=>
    let x58:Int:=wrapA .i64 (x48+1)
    (bindV (.val (.one .str)) (sliceA E h51 9 (.str x36.1) (some (.int .i64 x58)) none) fun (x59:List UInt8)=>
    (bindV (.val (.one .str)) (binStr .add x57 x59) fun (x60:List UInt8)=>
    (bindV (.val (.one .str)) (sliceA E h51 9 (.str x36.1) none (some (.int .i64 x48))) fun (x61:List UInt8)=>
    let h62:Heap:=h51.push (.row [(.int .u8 j28.2.2.1)] .own)
    (bindV (.val (.one .str)) (convS E 28 9 (.slice (some (h51.next,0)) 1 1 1) h62) fun (x63:List UInt8)=>
    (bindV (.val (.one .str)) (binStr .add x61 x63) fun (x64:List UInt8)=>
    (bindV (.val (.one .str)) (sliceA E h62 9 (.str x36.1) (some (.int .i64 x48)) none) fun (x65:List UInt8)=>
    (bindV (.val (.one .str)) (binStr .add x64 x65) fun (x66:List UInt8)=>
    let h67:Heap:=h62.push (.row [(.str x49),(.str x56),(.str x60),(.str x66)] .own)
    (bindV (.val (.one (.int .i64))) (binInt .rem .i64 j28.2.2.2.1 4) fun (x68:Int)=>
    let x69:Int:=wrapA .i64 (x68+4)
    (bindV (.val (.one (.int .i64))) (binInt .rem .i64 x69 4) fun (x70:Int)=>
    (ixK (some (h62.next,0)) 4 x70 1 fun q71=>
    (bindV (.val (.one .str)) (h67.cell q71) fun (x72:List UInt8)=>
    let h73:Heap:=h67.push (.row [(.str x72)] .own)
    (bindT (.val (.one .slice)) (appendA E 40 40 (.slice (some (h41.next,0)) 2 2 1) (.slice (some (h67.next,0)) 1 1 1) h73) fun (x74:SL) h75=>
    (guardB (bif (sameO (h75.cell q71) (.str x72)) then (bif (sameO (h73.cell q71) (.str x72)) then (bif (sameO (convS E 28 9 (.slice (some (h51.next,0)) 1 1 1) h75) (.str x63)) then (bif (sameO (convS E 28 9 (.slice (some (h51.next,0)) 1 1 1) h73) (.str x63)) then (bif (sameO (convS E 28 9 (.slice (some (h44.next,0)) 1 1 1) h75) (.str x52)) then (bif (sameO (convS E 28 9 (.slice (some (h44.next,0)) 1 1 1) h73) (.str x52)) then true else false) else false) else false) else false) else false) else false) (
    (guardB true (
    (bind3 (f3_l2 N N j28.2.2.2.2.2.1 x74 0 h75) fun o100 (j101:(Bool×Unit)) h102=>
    (bif eqOut o100 (.exit 2) then
     (bind2 (f6 N  h102) fun (x103:Bool) h104=>
     some (x103,h104))
    else
     some (j101.1,h102))))))))))))))))))))))))))))
    else
    (bind3 (f3_l3 N N j28.2.2.2.2.2.1 ⟨(some (h41.next,0)),2,2,1⟩ 0 h44) fun o129 (j130:(Bool×Unit)) h131=>
    (bif eqOut o129 (.exit 2) then
     (bind2 (f6 N  h131) fun (x132:Bool) h133=>
     some (x132,h133))
    else
     some (j130.1,h131)))))))))))))))
  else
   some (j28.2.2.2.2.2.1,h29))))))
noncomputable def ann3:Ann:=(.two .n (.two .n (.two (.two .n (.two (.loop [(1,(.one .slice)),(2,(.one (.int .i64))),(3,(.one (.int .u8))),(4,(.one (.int .i64))),(5,(.one .ptr)),(10,(.one .bool)),(11,(.one (.int .i64)))] [(.exit 0),.ret] [(1,(.one .slice)),(2,(.one (.int .i64))),(3,(.one (.int .u8))),(4,(.one (.int .i64))),(5,(.one .ptr)),(10,(.one .bool))] .n) .n)) (.two .n (.two .n (.two .n (.two .n (.two .n (.two (.two .n (.two (.loop [(10,(.one .bool)),(16,(.one .slice)),(18,(.one (.int .i64)))] [(.exit 2),.ret] [(10,(.one .bool))] .n) .n)) .n)))))))))
theorem f3_ok (N:Nat):FnOK Tryz.prog 3 [(.agg T35),(.one .slice),(.one (.int .i64)),(.one (.int .u8)),(.one (.int .i64))] (.val (.one .bool)) (fun x h=>f3 N x.1 x.2.1 x.2.2.1 x.2.2.2.1 x.2.2.2.2.1 h):=
 runK_ok envOK hmix (addCall_ok (f9_ok N) (addCall_ok (f8_ok N) (addCall_ok (f7_ok N) (addCall_ok (f6_ok N) (addCall_ok (f12_ok N) (addCall_ok (f11_ok N) (addCall_ok (f10_ok N) noCalls_ok))))))) (N:=N) (x:=ann3) (fn:=Tryz.f3) (c:=Tryz.f3.body.getD .skip) (by kernel_rfl) (by kernel_rfl) (by kernel_rfl) (by kernel_rfl) (fun _ _=>by kernel_rfl)
end Vp
namespace Vp
abbrev Bs:=List UInt8
theorem und28:E.und 28=some (.slice 5):=by kernel_rfl
theorem und9:E.und 9=some .string:=by kernel_rfl
theorem und5:E.und 5=some (.int .u8):=by kernel_rfl
theorem app28:AppN E 28 5 1 10:=AppN.of (by kernel_rfl)
theorem ofB_app:∀ (a c:Bs),ofBytes (a++c)=ofBytes a++ofBytes c
 | [],c=>rfl
 | x::r,c=>by simp only [List.cons_append,ofBytes,ofB_app r c]
theorem ofB_len:∀ (a:Bs),(ofBytes a).length=a.length
 | []=>rfl
 | x::r=>by simp only [ofBytes,List.length_cons,ofB_len r]
theorem ofB_single:∀ (a:Bs),(ofBytes a).all AV.single=true
 | []=>rfl
 | x::r=>by simp only [ofBytes,List.all_cons,ofB_single r,Bool.and_true];rfl
theorem toB_ofB:∀ (a:Bs),toBytes (ofBytes a)=some a
 | []=>rfl
 | x::r=>by simp only [ofBytes,toBytes,toB_ofB r];simp
def Bt (h:Heap) (s:SL) (b:Bs):Prop:=
 (s.a=none∧s.len=0∧s.cap=0∧b=[])∨
 ∃ B cs st,s.a=some (B,0)∧s.sz=1∧B<h.next∧h.g B=some (.row cs st)∧s.len=b.length∧cs.take b.length=ofBytes b∧b.length≤cs.length∧s.len≤s.cap∧(st=.bytes 5∨st=.grown∨(st=.own∧s.cap=cs.length))
section
variable {h h':Heap} {s:SL} {b xs:Bs} {M:List Nat}
theorem Bt.nil (h:Heap) (z:Nat):Bt h ⟨none,0,0,z⟩ []:=.inl ⟨rfl,rfl,rfl,rfl⟩
theorem Bt.len (p:Bt h s b):s.len=b.length:=by
 rcases p with ⟨_,h1,_,rfl⟩ | ⟨B,cs,st,_,_,_,_,h1,_⟩
 ·exact h1
 ·exact h1
theorem Bt.lt (p:Bt h s b):∀ B,s.blk=some B→B<h.next:=by
 intro B hB
 rcases p with ⟨h1,_⟩ | ⟨B',cs,st,h1,_,h3,_⟩
 ·simp [SL.blk,h1] at hB
 ·simp [SL.blk,h1] at hB;omega
theorem Bt.chg (p:Bt h s b) (c:Chg M h h') (hM:∀ B,s.blk=some B→B ∉ M):Bt h' s b:=by
 rcases p with h1 | ⟨B,cs,st,h1,h2,h3,h4,h5⟩
 ·exact .inl h1
 ·exact .inr ⟨B,cs,st,h1,h2,Nat.lt_of_lt_of_le h3 c.next,(c.g B h3 (hM B (by simp [SL.blk,h1]))).trans h4,h5⟩
theorem Bt.one (p:Bt h s b):One h s (ofBytes b):=by
 rcases p with ⟨h1,h2,h3,rfl⟩ | ⟨B,cs,st,h1,h2,h3,h4,h5,h6,h7,h8,h9⟩
 ·exact ⟨h2,.inr h2,by simp [h2,ofBytes],fun _=>h2,fun A off ha=>by rw [h1] at ha;cases ha⟩
 ·refine ⟨by rw [ofB_len];exact h5,.inl h2,by rw [ofB_len,h2,h5];simp,fun ha=>(by rw [h1] at ha;cases ha),fun A off ha=>?_⟩
  rw [h1] at ha
  simp only [Option.some.injEq,Prod.mk.injEq] at ha
  obtain ⟨rfl,rfl⟩:=ha
  refine ⟨h3,cs,?_,by rw [List.drop_zero,ofB_len];exact h6⟩
  rw [h4]
  rcases h9 with rfl | rfl | ⟨rfl,_⟩ <;> rfl
theorem grow_ok (p:Bt h s b) (hx:xs≠[]):∃ s' h',growA h s.a s.len s.cap 1 xs.length (ofBytes xs)=some (SL.av s',h')∧Bt h' s' (b++xs)∧Chg s.blk.toList h h'∧(∀ B,s'.blk=some B→s.blk=some B∨h.next≤B):=by
 have hlx:=ofB_len xs
 rcases p with ⟨h1,h2,h3,rfl⟩ | ⟨B,cs,st,h1,h2,h3,h4,h5,h6,h7,h8,h9⟩
 ·refine ⟨⟨some (h.next,0),xs.length,xs.length,1⟩,h.push (.row (ofBytes xs) .grown),by simp only [growA,h1,h2,Nat.zero_add,SL.av],.inr ⟨h.next,ofBytes xs,.grown,rfl,rfl,Nat.lt_succ_self _,g_push_eq _ rfl,rfl,by rw [List.nil_append,List.take_of_length_le (by omega)],by rw [List.nil_append];omega,Nat.le_refl _,.inr (.inl rfl)⟩,((Chg.refl [] h).push _).mono (by simp),fun B hB=>.inr ?_⟩
  simp [SL.blk] at hB;omega
 ·have hbl:s.blk=some B:=by simp [SL.blk,h1]
  have htk:takeN (s.len * 1) (cs.drop 0)=some (ofBytes b):=by
   rw [List.drop_zero,Nat.mul_one,takeN_of _ _ (by omega),h5,h6]
  have hg:h.t.get B=some (.row cs st):=h4
  have fresh:∀ H:Heap,H.next=h.next→Chg [B] h H→Bt (H.push (.row (ofBytes b++ofBytes xs) .grown)) ⟨some (h.next,0),s.len+xs.length,s.len+xs.length,1⟩ (b++xs):=fun H hH cH=>by
   refine .inr ⟨h.next,ofBytes b++ofBytes xs,.grown,rfl,rfl,by simp [hH],g_push_eq _ hH.symm,by simp [h5],?_,?_,Nat.le_refl _,.inr (.inl rfl)⟩
   ·rw [← ofB_app,List.take_of_length_le (by rw [ofB_len];exact Nat.le_refl _)]
   ·rw [← ofB_app,ofB_len];exact Nat.le_refl _
  have dead:∀ y,(h.put B y).next=h.next:=fun _=>rfl
  rcases h9 with rfl | rfl | ⟨rfl,h9⟩
  ·have cH:Chg [B] h (h.put B (.row cs .dead)):=(Chg.refl [B] h).put (.inl (by simp)) _
   exact ⟨_,_,by simp only [growA,h1,hg,htk];rfl,fresh (h.put B (.row cs .dead)) rfl cH,(cH.push _).mono (by simp [hbl]),fun C hC=>.inr (by simp [SL.blk] at hC;omega)⟩
  ·have cH:Chg [B] h (h.put B (.row cs .dead)):=(Chg.refl [B] h).put (.inl (by simp)) _
   exact ⟨_,_,by simp only [growA,h1,hg,htk];rfl,fresh (h.put B (.row cs .dead)) rfl cH,(cH.push _).mono (by simp [hbl]),fun C hC=>.inr (by simp [SL.blk] at hC;omega)⟩
  ·by_cases hc:s.len+xs.length≤s.cap
   ·have hb1:Nat.ble (s.len+xs.length) s.cap=true:=by simpa using hc
    have hov:=over_at cs (ofBytes xs) s.len (by omega)
    have cH:Chg [B] h (h.put B (.row (cs.take s.len++ofBytes xs++cs.drop (s.len+(ofBytes xs).length)) .own)):=(Chg.refl [B] h).put (.inl (by simp)) _
    have htk':takeN s.len (cs.drop 0)=some (ofBytes b):=by rw [Nat.mul_one] at htk;exact htk
    refine ⟨⟨some (B,0),s.len+xs.length,s.cap,1⟩,h.put B (.row (cs.take s.len++ofBytes xs++cs.drop (s.len+(ofBytes xs).length)) .own),by simp only [growA,h1,hg,htk',hb1,cond_true,Nat.mul_one,Nat.zero_add,hov,SL.av],.inr ⟨B,_,.own,rfl,rfl,h3,g_put_eq _ rfl,by simp [h5],?_,?_,hc,.inr (.inr ⟨rfl,?_⟩)⟩,cH.mono (by simp [hbl]),fun C hC=>.inl (by simp [SL.blk] at hC;rw [hbl,hC])⟩
    ·rw [h5,h6,← ofB_app,List.take_append_of_le_length (by rw [ofB_len];exact Nat.le_refl _),List.take_of_length_le (by rw [ofB_len];exact Nat.le_refl _)]
    ·simp only [List.length_append,List.length_take,List.length_drop];omega
    ·simp only [List.length_append,List.length_take,List.length_drop];omega
   ·have hb1:Nat.ble (s.len+xs.length) s.cap=false:=by
     cases hq:Nat.ble (s.len+xs.length) s.cap with
     | false=>rfl
     | true=>exact absurd (by simpa using hq) hc
    exact ⟨_,_,by simp only [growA,h1,hg,htk,hb1,cond_false];rfl,fresh h rfl (Chg.refl _ _),((Chg.refl [] h).push _).mono (by simp),fun C hC=>.inr (by simp [SL.blk] at hC;omega)⟩
theorem growB_ok (p:Bt h s b) (hx:xs≠[]):∃ s' h',growB 5 h s.a s.len s.cap 1 xs.length (ofBytes xs)=some (SL.av s',h')∧Bt h' s' (b++xs)∧Chg s.blk.toList h h'∧(∀ B,s'.blk=some B→s.blk=some B∨h.next≤B):=by
 have hlx:=ofB_len xs
 have hp:=p
 rcases p with ⟨h1,h2,h3,rfl⟩ | ⟨B,cs,st,h1,h2,h3,h4,h5,h6,h7,h8,h9⟩
 ·refine ⟨⟨some (h.next,0),xs.length,xs.length,1⟩,h.push (.row (ofBytes xs) (.bytes 5)),by simp only [growB,h1,h2,Nat.zero_add,SL.av],.inr ⟨h.next,ofBytes xs,.bytes 5,rfl,rfl,Nat.lt_succ_self _,g_push_eq _ rfl,rfl,by rw [List.nil_append,List.take_of_length_le (by omega)],by rw [List.nil_append];omega,Nat.le_refl _,.inl rfl⟩,((Chg.refl [] h).push _).mono (by simp),fun B hB=>.inr ?_⟩
  simp [SL.blk] at hB;omega
 ·have hbl:s.blk=some B:=by simp [SL.blk,h1]
  have hg:h.t.get B=some (.row cs st):=h4
  rcases h9 with rfl | rfl | ⟨rfl,h9⟩
  ·have htk:takeN (s.len * 1) (cs.drop 0)=some (ofBytes b):=by
    rw [List.drop_zero,Nat.mul_one,takeN_of _ _ (by omega),h5,h6]
   have hb:(Nat.beq 5 5&&Nat.beq 0 0)=true:=rfl
   have cH:Chg [B] h (h.put B (.row cs .dead)):=(Chg.refl [B] h).put (.inl (by simp)) _
   refine ⟨⟨some (h.next,0),s.len+xs.length,s.len+xs.length,1⟩,_,by simp only [growB,h1,hg,hb,cond_true,htk,SL.av],.inr ⟨h.next,ofBytes b++ofBytes xs,.bytes 5,rfl,rfl,Nat.lt_succ_self _,g_push_eq (h:=h.put B (.row cs .dead)) _ rfl,by simp [h5],?_,?_,Nat.le_refl _,.inl rfl⟩,(cH.push _).mono (by simp [hbl]),fun C hC=>.inr (by simp [SL.blk] at hC;omega)⟩
   ·rw [← ofB_app,List.take_of_length_le (by rw [ofB_len];exact Nat.le_refl _)]
   ·rw [← ofB_app,ofB_len];exact Nat.le_refl _
  ·have e:growB 5 h s.a s.len s.cap 1 xs.length (ofBytes xs)=growA h s.a s.len s.cap 1 xs.length (ofBytes xs):=by simp only [growB,h1,hg]
   rw [e];exact grow_ok hp hx
  ·have e:growB 5 h s.a s.len s.cap 1 xs.length (ofBytes xs)=growA h s.a s.len s.cap 1 xs.length (ofBytes xs):=by simp only [growB,h1,hg]
   rw [e];exact grow_ok hp hx
theorem app_b {xt:TypeId} {d:TypeDesc} {x:AV} (hd:E.und xt=some d) (hi:isIntD d=false) (hn:lenOfA x=some xs.length) (hf:firstCellsA h 1 xs.length x=some (ofBytes xs)) (p:Bt h s b) (hl:b.length+xs.length≤100000000) :
  ∃ s' h',appendA E 28 xt (.slice s.a s.len s.cap s.sz) x h=some (SL.av s',h')∧Bt h' s' (b++xs)∧Chg s.blk.toList h h'∧(∀ B,s'.blk=some B→s.blk=some B∨h.next≤B):=by
 obtain ⟨hu,⟨i,hi0,hi1,hi2⟩,⟨z,hz,hz1⟩⟩:=app28
 by_cases hx:xs=[]
 ·subst hx
  refine ⟨s,h,?_,by rw [List.append_nil];exact p,(Chg.refl [] h).mono (by simp),fun B hB=>.inl hB⟩
  have hf':firstCellsA h 1 0 x=some []:=hf
  simp only [appendA,hd,hu,hi,cond_false,hi0,hz,hn,List.length_nil,hi1,hf',show Nat.beq 0 0=true from rfl,cond_true,SL.av]
 have hlx:=ofB_len xs
 have hpos:0<xs.length:=List.length_pos_iff.2 hx
 have hn0:Nat.beq xs.length 0=false:=by
  cases hq:Nat.beq xs.length 0 with
  | false=>rfl
  | true=>have:=Nat.eq_of_beq_eq_true hq;omega
 have hlen:=p.len
 have hroom:Nat.ble ((s.len+xs.length) * (i.bytes+1+1)) roomA=true:=by
  have h1:(s.len+xs.length) * (i.bytes+1+1)≤(s.len+xs.length) * 10:=Nat.mul_le_mul (Nat.le_refl _) (by omega)
  simp only [roomA,Nat.ble_eq];omega
 have hz2:Nat.beq z.cells.length 1=true:=by rw [hz1];rfl
 have hnl:Nat.beq (ofBytes xs).length (xs.length * 1)=true:=by rw [hlx,Nat.mul_one];exact Nat.beq_refl _
 have hsz:(Nat.beq s.sz 1||s.a.isNone)=true:=by
  rcases p with ⟨h1,_⟩ | ⟨B,cs,st,h1,h2,_⟩
  ·simp [h1]
  ·simp [h2]
 have key:appendA E 28 xt (.slice s.a s.len s.cap s.sz) x h=(bif isStrD d then growB 5 h s.a s.len s.cap 1 xs.length (ofBytes xs) else growA h s.a s.len s.cap 1 xs.length (ofBytes xs)):=by
  simp only [appendA,hd,hu,hi,cond_false,hi0,hz,hn]
  simp only [hi1,hf,hn0,cond_false,hroom,hsz,hz2,hnl,ofB_single,Bool.and_self,cond_true]
 rw [key]
 cases isStrD d with
 | true=>exact growB_ok p hx
 | false=>exact grow_ok p hx
theorem app_str (x:Bs) (p:Bt h s b) (hl:b.length+x.length≤100000000):∃ s' h',appendA E 28 9 (.slice s.a s.len s.cap s.sz) (.str x) h=some (SL.av s',h')∧Bt h' s' (b++x)∧Chg s.blk.toList h h'∧(∀ B,s'.blk=some B→s.blk=some B∨h.next≤B):=
 app_b und9 rfl rfl (by simp only [firstCellsA,List.take_length]) p hl
theorem app_sl {x:SL} (hx:One h x (ofBytes xs)) (p:Bt h s b) (hl:b.length+xs.length≤100000000):∃ s' h',appendA E 28 28 (.slice s.a s.len s.cap s.sz) (.slice x.a x.len x.cap x.sz) h=some (SL.av s',h')∧Bt h' s' (b++xs)∧Chg s.blk.toList h h'∧(∀ B,s'.blk=some B→s.blk=some B∨h.next≤B):=by
 have e:x.len=xs.length:=by rw [hx.1,ofB_len]
 refine app_b und28 rfl (by simp only [lenOfA,e]) ?_ p hl
 rw [← e];exact hx.first
theorem app_one (c:UInt8) (p:Bt h s b) (hl:b.length+1≤100000000):∃ s' h',appendA E 28 28 (.slice s.a s.len s.cap s.sz) (.slice (some (h.next,0)) 1 1 1) (h.push (.row [.int .u8 c.toNat] .own))=some (SL.av s',h')∧Bt h' s' (b++[c])∧Chg s.blk.toList h h'∧(∀ B,s'.blk=some B→s.blk=some B∨h.next≤B):=by
 have c1:=chg_push h (.row [.int .u8 c.toNat] .own)
 have o:One (h.push (.row [.int .u8 c.toNat] .own)) ⟨some (h.next,0),1,1,1⟩ (ofBytes [c]):=by
  refine ⟨rfl,.inl rfl,rfl,fun ha=>by (cases ha),fun A off ha=>?_⟩
  cases ha
  exact ⟨Nat.lt_succ_self _,[.int .u8 c.toNat],by rw [g_push_eq _ rfl];rfl,rfl⟩
 obtain ⟨s',h',e,p',c',n'⟩:=app_sl (xs:=[c]) o (p.chg c1 (by simp)) hl
 exact ⟨s',h',e,p',(c1.mono (by simp)).trans c',fun B hB=>(n' B hB).imp id fun q=>by have:h.next+1≤B:=q;omega⟩
theorem conv_one {s:SL} (hs:One h s (ofBytes b)):convS E 28 9 (.slice s.a s.len s.cap s.sz) h=some (.str b):=by
 have h1:=hs.first
 have hl:s.len=b.length:=by rw [hs.1,ofB_len]
 unfold convS
 rw [und28,und9]
 simp only [und5]
 cases ha:s.a with
 | none=>
  have:=hs.2.2.2.1 ha
  have:b=[]:=List.eq_nil_of_length_eq_zero (by omega)
  rw [this]
 | some q=>
  obtain ⟨A,off⟩:=q
  simp only
  rw [ha] at h1
  simp only [firstCellsA,Nat.mul_one] at h1
  rw [h1]
  simp only [toB_ofB]
theorem Bt.conv (p:Bt h s b):convS E 28 9 (.slice s.a s.len s.cap s.sz) h=some (.str b):=conv_one p.one
end
end Vp
set_option maxRecDepth 20000
namespace Vp
theorem leI (a b:Int):leInt a b=decide (a≤b):=leInt_dec a b
theorem ltI (a b:Int):ltInt a b=decide (a<b):=ltInt_dec a b
theorem eqI (a b:Int):eqInt a b=decide (a=b):=eqInt_dec a b
theorem wr8 (n:Nat):wrapA .u8 (n:Int)=((n % 256:Nat):Int):=rfl
theorem wr64 (n:Nat):wrapA .u64 (n:Int)=((n % 18446744073709551616:Nat):Int):=rfl
theorem wr64s {n:Nat} (h:n<18446744073709551616):wrapA .u64 (n:Int)=(n:Int):=by rw [wr64,Nat.mod_eq_of_lt h]
theorem or8 (n:Nat):bitsA .or .u8 (n:Int) 128=some (.int .u8 ((n % 128+128:Nat):Int)):=by
 have h0:∀ m<256,Nat.lor m 128 % 256=m % 128+128:=by decide
 show some (AV.int .u8 ((Nat.lor (n % 256) 128 % 256:Nat):Int))=_
 rw [h0 _ (Nat.mod_lt _ (by omega)),show n % 256 % 128=n % 128 by omega]
theorem and64 (n:Nat) (h:n<18446744073709551616):bitsA .and .u64 (n:Int) 127=some (.int .u64 ((n % 128:Nat):Int)):=by
 show some (AV.int .u64 ((Nat.land (n % 18446744073709551616) 127 % 18446744073709551616:Nat):Int))=_
 rw [Nat.mod_eq_of_lt h,show Nat.land n 127=n &&& (2 ^ 7-1) from rfl,Nat.and_two_pow_sub_one_eq_mod,Nat.mod_eq_of_lt (by omega)]
theorem shr7 (n:Nat):shiftA .shr .u64 (n:Int) 7=some (.int .u64 ((n / 128:Nat):Int)):=by
 show some (AV.int .u64 ((n:Int).fdiv (Int.ofNat (2 ^ 7))))=_
 have e:(n:Int).fdiv (Int.ofNat (2 ^ 7))=((n / 128:Nat):Int):=by
  rw [show Int.ofNat (2 ^ 7)=(128:Int) from rfl,Int.fdiv_eq_ediv_of_nonneg _ (by omega)];rfl
 rw [e]
def lo (n:Nat):UInt8:=UInt8.ofNat (n % 128+128)
theorem lo_nat (n:Nat):(lo n).toNat=n % 128+128:=by
 have:n % 128+128<256:=by omega
 simp [lo,Nat.mod_eq_of_lt this]
def encU (n:Nat):Bs:=if n<128 then [UInt8.ofNat n] else lo n::encU (n / 128)
termination_by n
decreasing_by omega
theorem encU_lt {n:Nat} (h:n<128):encU n=[UInt8.ofNat n]:=by rw [encU,if_pos h]
theorem encU_ge {n:Nat} (h:¬ n<128):encU n=lo n::encU (n / 128):=by rw [encU,if_neg h]
theorem encU_len:∀ (k n:Nat),n<128 ^ (k+1)→(encU n).length≤k+1
 | 0,n,h=>by rw [encU_lt (by simpa using h)];simp
 | k+1,n,h=>by
  by_cases hn:n<128
  ·rw [encU_lt hn];simp
  ·rw [encU_ge hn,List.length_cons]
   have:=encU_len k (n / 128) (by rw [Nat.pow_succ] at h;omega)
   omega
theorem encU_len10 {n:Nat} (h:n<18446744073709551616):(encU n).length≤10:=encU_len 9 n (by omega)
def encT (s:Bs):Bs:=encU s.length++s
def natI (v:Int):Nat:=if v<0 then (-2 * v-1).toNat else (2 * v).toNat
def encI (v:Int):Bs:=encU (natI v)
theorem natI_lt {v:Int} (h1:-9223372036854775808≤v) (h2:v≤9223372036854775807):natI v<18446744073709551616:=by
 unfold natI;split <;> omega
theorem byte_nat {n:Nat} (h:n<256):(UInt8.ofNat n).toNat=n:=by simp [Nat.mod_eq_of_lt h]
structure Fr0 (G:Nat→Prop) (h0 h:Heap):Prop where
 lt:∀ C,G C→C<h0.next
 g:∀ C,G C→h.g C=h0.g C
 next:h0.next≤h.next
 pins:h.pins=h0.pins
def WG (G:Nat→Prop) (h0 h:Heap) (A:Nat) (b:Bs):Prop:=∃ s,h.own A [SL.av s]∧Bt h s b∧s.blk≠some A∧¬ G A∧(∀ B,s.blk=some B→¬ G B)∧Fr0 G h0 h
abbrev WQ (h0:Heap):Heap→Nat→Bs→Prop:=WG (fun C=>C<h0.next) h0
section
variable {N:Nat} {h0 h h':Heap} {A:Nat} {b:Bs} {G:Nat→Prop}
theorem Fr0.step {M:List Nat} (f:Fr0 G h0 h) (c:Chg M h h') (hM:∀ C∈M,¬ G C):Fr0 G h0 h':=
 ⟨f.lt,fun C hC=>(c.g C (Nat.lt_of_lt_of_le (f.lt C hC) f.next) (fun hm=>hM C hm hC)).trans (f.g C hC),Nat.le_trans f.next c.next,c.pins.trans f.pins⟩
theorem WG.chg (p:WG G h0 h A b) (c:Chg [] h h'):WG G h0 h' A b:=by
 obtain ⟨s,p1,p2,p3,p4,p5,p6⟩:=p
 exact ⟨s,p1.chg c (by simp),p2.chg c (by simp),p3,p4,p5,p6.step c (by simp)⟩
theorem WG.fr (p:WG G h0 h A b):Fr0 G h0 h:=by obtain ⟨s,p1,p2,p3,p4,p5,p6⟩:=p;exact p6
theorem WQ.base (p:WQ h0 h A b):Chg [] h0 h:=⟨fun C hC _=>p.fr.g C hC,p.fr.next,p.fr.pins⟩
theorem WQ.put {s s':SL} {b':Bs} {h1:Heap} (p1:h.own A [SL.av s]) (p3:s.blk≠some A) (p4:¬ G A) (p5:∀ B,s.blk=some B→¬ G B) (p6:Fr0 G h0 h) (q:Bt h1 s' b') (c:Chg s.blk.toList h h1) (n:∀ B,s'.blk=some B→s.blk=some B∨h.next≤B) :
  ∃ h2,h1.store (A,0) [SL.av s']=some h2∧WG G h0 h2 A b':=by
 have hA:A ∉ s.blk.toList:=by
  intro hm
  cases hb:s.blk with
  | none=>rw [hb] at hm;cases hm
  | some B=>rw [hb] at hm;simp at hm;exact p3 (by rw [hb,hm])
 have o1:h1.own A [SL.av s]:=p1.chg c hA
 have hne:s'.blk≠some A:=fun e=>by
  rcases n A e with q | q
  ·exact p3 q
  ·have:=p1.2;omega
 refine ⟨_,o1.store (vs:=[SL.av s']) rfl,s',own_put o1 _,q.chg (o1.put _) (fun B hB hm=>hne (by rw [hB,List.mem_singleton.1 hm])),hne,p4,fun B hB hG=>?_,?_⟩
 ·rcases n B hB with q | q
  ·exact p5 B q hG
  ·have:=p6.lt B hG;have:=p6.next;omega
 ·refine (p6.step c fun C hC=>?_).step (o1.put _) fun C hC=>by rw [List.mem_singleton.1 hC];exact p4
  cases hb:s.blk with
  | none=>rw [hb] at hC;cases hC
  | some B=>rw [hb] at hC;simp at hC;subst hC;exact p5 _ hb
theorem WQ.rebase {h1:Heap} (p:WQ h0 h A b) (c:Chg [] h h1):∃ G:Nat→Prop,WG G h1 h1 A b∧(∀ C,C<h0.next→G C)∧(∀ C,h.next≤C→C<h1.next→G C):=by
 obtain ⟨s,p1,p2,p3,p4,p5,p6⟩:=p
 refine ⟨fun C=>C<h0.next∨(h.next≤C∧C<h1.next),⟨s,p1.chg c (by simp),p2.chg c (by simp),p3,fun q=>?_,fun B hB q=>?_,⟨fun C hC=>?_,fun C _=>rfl,Nat.le_refl _,rfl⟩⟩,fun C h1=>.inl h1,fun C h1 h2=>.inr ⟨h1,h2⟩⟩
 ·rcases q with q | q
  ·exact p4 q
  ·have:=p1.2;omega
 ·rcases q with q | q
  ·exact p5 B hB q
  ·have:=p2.lt B hB;omega
 ·have:=p6.next;have:=c.next;omega
theorem WQ.back {h1 h2:Heap} {b':Bs} (p:WQ h0 h A b) (c:Chg [] h h1) (hG:∀ C,C<h0.next→G C) (q:WG G h1 h2 A b'):WQ h0 h2 A b':=by
 obtain ⟨s,q1,q2,q3,q4,q5,q6⟩:=q
 refine ⟨s,q1,q2,q3,fun e=>q4 (hG _ e),fun B hB e=>q5 B hB (hG _ e),⟨fun C hC=>hC,fun C hC=>?_,Nat.le_trans (Nat.le_trans p.fr.next c.next) q6.next,q6.pins.trans (c.pins.trans p.fr.pins)⟩⟩
 rw [q6.g C (hG C hC),c.g C (Nat.lt_of_lt_of_le hC p.fr.next) (by simp)]
 exact p.fr.g C hC
theorem f29_loop {N:Nat}:∀ (k n M:Nat) {h:Heap} {b:Bs},n<128 ^ (k+1)→k<M→b.length+k≤99999990→WG G h0 h A b→∃ (m:Nat) (pre:Bs) (h':Heap),f29_l1 N M (some (A,0)) (n:Int) h=some (.exit 0,(some (A,0),(m:Int),()),h')∧m<128∧encU n=pre++[UInt8.ofNat m]∧WG G h0 h' A (b++pre):=by
 intro k
 induction k with
 | zero=>
  intro n M h b hn hM hl p
  obtain ⟨M,rfl⟩:∃ M',M=M'+1:=⟨M-1,by omega⟩
  have hn':n<128:=by simpa using hn
  refine ⟨n,[],h,?_,hn',encU_lt hn',by rw [List.append_nil];exact p⟩
  rw [f29_l1_succ]
  unfold f29_l1_b
  rw [leI,decide_eq_false (by omega)]
  rfl
 | succ k ih=>
  intro n M h b hn hM hl p
  obtain ⟨M,rfl⟩:∃ M',M=M'+1:=⟨M-1,by omega⟩
  by_cases hn':n<128
  ·refine ⟨n,[],h,?_,hn',encU_lt hn',by rw [List.append_nil];exact p⟩
   rw [f29_l1_succ]
   unfold f29_l1_b
   rw [leI,decide_eq_false (by omega)]
   rfl
  ·obtain ⟨s,p1,p2,p3,p4,p5,p6⟩:=p
   obtain ⟨s',h1,e1,q1,c1,n1⟩:=app_one (lo n) p2 (by omega)
   obtain ⟨h2,e2,q2⟩:=WQ.put p1 p3 p4 p5 p6 q1 c1 n1
   obtain ⟨m,pre,h3,e3,hm,he,q3⟩:=ih (n / 128) M (by rw [Nat.pow_succ] at hn;omega) (by omega) (by rw [List.length_append,List.length_singleton];omega) q2
   refine ⟨m,lo n::pre,h3,?_,hm,by rw [encU_ge hn',he];rfl,by rw [List.append_assoc] at q3;exact q3⟩
   rw [lo_nat] at e1
   simp only [SL.av] at e2
   have c0:h.cell (A,0)=some (SL.av s):=by rw [p1.cell];rfl
   rw [f29_l1_succ]
   unfold f29_l1_b
   rw [leI,decide_eq_true (by omega)]
   simp only [cond_true,need_some,Nat.zero_add,c0,SL.av,bindV_some,cast_slice,wr8,or8,cast_int,show n % 256 % 128=n % 128 by omega,e1,bindT_some,e2,shr7]
   exact e3
end
end Vp
namespace Vp
theorem xor64 (a:Nat) (h:a<18446744073709551616):unA .xor (.int .u64 (a:Int))=some (.int .u64 ((18446744073709551615-a:Nat):Int)):=by
 have e:Nat.xor 18446744073709551615 a=18446744073709551615-a:=by
  apply Nat.eq_of_testBit_eq
  intro i
  rw [show Nat.xor 18446744073709551615 a=(2 ^ 64-1) ^^^ a from rfl,Nat.testBit_xor,Nat.testBit_two_pow_sub_one,show 18446744073709551615-a=2 ^ 64-(a+1) by omega,Nat.testBit_two_pow_sub_succ (by omega)]
  by_cases hi:i<64
  ·simp [hi]
  ·have:a<2 ^ i:=Nat.lt_of_lt_of_le h (Nat.pow_le_pow_right (n:=2) (by omega) (show 64≤i by omega))
   simp [hi,Nat.testBit_lt_two_pow this]
 show some (AV.int .u64 ((Nat.xor 18446744073709551615 (a % 18446744073709551616) % 18446744073709551616:Nat):Int))=_
 rw [Nat.mod_eq_of_lt h,e,Nat.mod_eq_of_lt (by omega)]
theorem shl1 (a:Nat):shiftA .shl .u64 (a:Int) 1=some (.int .u64 ((a * 2 % 18446744073709551616:Nat):Int)):=rfl
theorem wr64n (m:Nat) (h:m<18446744073709551616):wrapA .u64 (Int.negSucc m)=((18446744073709551615-m:Nat):Int):=by
 show ((18446744073709551615-m % 18446744073709551616:Nat):Int)=_
 rw [Nat.mod_eq_of_lt h]
def HB (a:dens T32) (x:Bs):Prop:=CTy.tos T32 a=ofBytes x
theorem HB.len {a:dens T32} {x:Bs} (h:HB a x):x.length=32:=by
 have:=congrArg List.length h
 rw [ofB_len] at this
 rw [← this];rfl
theorem und25:E.und 25=some (.array 32 5):=by kernel_rfl
theorem size5:E.size 5=some 1:=by kernel_rfl
theorem slice25 {h:Heap} {A:Nat} {cs:List AV} (hr:h.row A=some cs) (hl:cs.length=32):sliceA E h 25 (.ptr (some (A,0))) none none=some (.slice (some (A,0)) 32 32 1):=by
 unfold sliceA
 rw [und25]
 simp only [sliceArr,size5,hr,hl]
 rfl
section
variable {N:Nat} {h0 h h':Heap} {A:Nat} {b:Bs} {G:Nat→Prop}
theorem f29_eq {n:Nat} (p:WG G h0 h A b) (hn:n<18446744073709551616) (hl:b.length≤99000000) (hN:20≤N):∃ h',f29 N (some (A,0)) (n:Int) h=some ((),h')∧WG G h0 h' A (b++encU n):=by
 obtain ⟨m,pre,h1,e1,hm,he,q⟩:=f29_loop (N:=N) 9 n N (by omega) (by omega) (by omega) p
 have hp:pre.length≤10:=by
  have:=encU_len10 hn
  rw [he,List.length_append] at this;omega
 obtain ⟨s,p1,p2,p3,p4,p5,p6⟩:=q
 obtain ⟨s',h2,e2,q1,c1,n1⟩:=app_one (UInt8.ofNat m) p2 (by rw [List.length_append];omega)
 obtain ⟨h3,e3,q2⟩:=WQ.put p1 p3 p4 p5 p6 q1 c1 n1
 rw [byte_nat (by omega)] at e2
 simp only [SL.av] at e3
 have c0:h1.cell (A,0)=some (SL.av s):=by rw [p1.cell];rfl
 refine ⟨h3,?_,by rw [he,← List.append_assoc];exact q2⟩
 unfold f29
 simp only [Option.isNone_some,cond_false,e1,bind3_some,need_some,Nat.zero_add,c0,SL.av,bindV_some,cast_slice,wr8,Nat.mod_eq_of_lt (show m<256 by omega),e2,bindT_some,e3]
theorem f28_eq {v:Int} (p:WG G h0 h A b) (h1:-9223372036854775808≤v) (h2:v≤9223372036854775807) (hl:b.length≤99000000) (hN:20≤N):∃ h',f28 N (some (A,0)) v h=some ((),h')∧WG G h0 h' A (b++encI v):=by
 obtain ⟨h',e,q⟩:=f29_eq (n:=natI v) p (natI_lt h1 h2) hl hN
 refine ⟨h',?_,q⟩
 unfold f28
 cases v with
 | ofNat n=>
  rw [show Int.ofNat n=(n:Int) from rfl] at h1 h2 e ⊢
  have hn:natI (n:Int)=n * 2:=by unfold natI;rw [if_neg (by omega)];omega
  rw [hn] at e
  rw [wr64s (by omega)]
  simp only [shl1,ltI,decide_eq_false (show ¬ (n:Int)<0 by omega)]
  rw [Nat.mod_eq_of_lt (by omega)]
  simp only [bindV_some,cast_int,cond_false,e,bind2_some]
 | negSucc m=>
  have hn:natI (Int.negSucc m)=2 * m+1:=by unfold natI;rw [if_pos (by omega)];omega
  rw [hn] at e
  have hm:m≤9223372036854775807:=by omega
  rw [wr64n m (by omega)]
  simp only [shl1,ltI,decide_eq_true (show Int.negSucc m<0 by omega),bindV_some,cast_int,cond_true]
  rw [xor64 _ (Nat.mod_lt _ (by omega)),show 18446744073709551615-(18446744073709551615-m) * 2 % 18446744073709551616=2 * m+1 by omega]
  simp only [bindV_some,cast_int,e,bind2_some]
theorem f27_eq {x:Bs} (p:WG G h0 h A b) (hx:x.length≤9000000) (hl:b.length≤90000000) (hN:20≤N):∃ h',f27 N (some (A,0)) x h=some ((),h')∧WG G h0 h' A (b++encT x):=by
 obtain ⟨h1,e1,q⟩:=f29_eq (n:=x.length) p (by omega) (by omega) hN
 have hu:=encU_len10 (n:=x.length) (by omega)
 obtain ⟨s,p1,p2,p3,p4,p5,p6⟩:=q
 obtain ⟨s',h2,e2,q1,c1,n1⟩:=app_str x p2 (by rw [List.length_append];omega)
 obtain ⟨h3,e3,q2⟩:=WQ.put p1 p3 p4 p5 p6 q1 c1 n1
 simp only [SL.av] at e3
 have c0:h1.cell (A,0)=some (SL.av s):=by rw [p1.cell];rfl
 refine ⟨h3,?_,by rw [encT,← List.append_assoc];exact q2⟩
 unfold f27
 rw [show Int.ofNat x.length=(x.length:Int) from rfl,wr64s (by omega)]
 simp only [Option.isNone_some,cond_false,e1,bind2_some,need_some,Nat.zero_add,c0,SL.av,bindV_some,cast_slice,e2,bindT_some,e3]
theorem f31_eq {a:dens T32} {x:Bs} (p:WG G h0 h A b) (ha:HB a x) (hl:b.length≤99000000):∃ h',f31 N (some (A,0)) a h=some ((),h')∧WG G h0 h' A (b++x):=by
 have hx:=ha.len
 have c0:=chg_push h (.row (CTy.tos T32 a) .own)
 have o:One (h.push (.row (CTy.tos T32 a) .own)) ⟨some (h.next,0),32,32,1⟩ (ofBytes x):=by
  refine ⟨by rw [ofB_len,hx],.inl rfl,by rw [ofB_len,hx];rfl,fun e=>(by cases e),fun B off e=>?_⟩
  cases e
  refine ⟨Nat.lt_succ_self _,CTy.tos T32 a,by rw [g_push_eq _ rfl];rfl,?_⟩
  rw [List.drop_zero,ofB_len,hx,show CTy.tos T32 a=ofBytes x from ha,List.take_of_length_le (by rw [ofB_len];omega)]
 obtain ⟨s,p1,p2,p3,p4,p5,p6⟩:=p.chg c0
 obtain ⟨s',h2,e2,q1,c1,n1⟩:=app_sl o p2 (by omega)
 obtain ⟨h3,e3,q2⟩:=WQ.put p1 p3 p4 p5 p6 q1 c1 n1
 simp only [SL.av] at e3
 have cc:(h.push (.row (CTy.tos T32 a) .own)).cell (A,0)=some (SL.av s):=by rw [p1.cell];rfl
 have hr:(h.push (.row (CTy.tos T32 a) .own)).row h.next=some (CTy.tos T32 a):=(Heap.is_push h _).row
 refine ⟨h3,?_,q2⟩
 unfold f31
 simp only [Option.isNone_some,Bool.not_false,cond_true,need_some,Nat.zero_add,cc,SL.av,bindV_some,cast_slice,slice25 hr rfl,e2,bindT_some,e3]
theorem f26_eq:f26 N h=some (some (h.next,0),h.push (.row [SL.av ⟨none,0,0,0⟩] .own))∧WQ h (h.push (.row [SL.av ⟨none,0,0,0⟩] .own)) h.next []:=by
 refine ⟨rfl,⟨none,0,0,0⟩,own_push h _,Bt.nil _ 0,by simp [SL.blk],fun q=>Nat.lt_irrefl _ q,fun B hB=>by simp [SL.blk] at hB,⟨fun C hC=>hC,fun C hC=>g_push_ne _ (Nat.ne_of_lt hC),Nat.le_succ _,rfl⟩⟩
theorem f32_eq (p:WG G h0 h A b) (hl:b.length≤99000000):∃ x h',f32 N (some (A,0)) h=some (x,h')∧Bt h' x b∧Chg [] h h':=by
 have c0:=chg_push h (.row [] .own)
 obtain ⟨s,p1,p2,p3,p4,p5,p6⟩:=p.chg c0
 have q0:Bt (h.push (.row [] .own)) ⟨some (h.next,0),0,0,1⟩ []:=.inr ⟨h.next,[],.own,rfl,rfl,Nat.lt_succ_self _,g_push_eq _ rfl,rfl,rfl,Nat.le_refl _,Nat.le_refl _,.inr (.inr ⟨rfl,rfl⟩)⟩
 obtain ⟨s',h2,e2,q1,c1,n1⟩:=app_sl p2.one q0 (by simpa using by omega)
 have cc:(h.push (.row [] .own)).cell (A,0)=some (SL.av s):=by rw [p1.cell];rfl
 refine ⟨s',h2,?_,q1,c0.step c1 fun B hB hl=>?_⟩
 ·unfold f32
  simp only [Option.isNone_some,cond_false,need_some,Nat.zero_add,cc,SL.av,bindV_some,cast_slice,e2,bindT_some]
 ·simp [SL.blk] at hB;omega
end
end Vp
namespace Vp
theorem One.chgM {h h':Heap} {s:SL} {vs:List AV} {M:List Nat} (x:One h s vs) (c:Chg M h h') (hM:∀ A,s.blk=some A→A ∉ M):One h' s vs:=⟨x.1,x.2.1,x.2.2.chg c hM⟩
theorem one_new (h:Heap) (c:UInt8):One (h.push (.row [.int .u8 c.toNat] .own)) ⟨some (h.next,0),1,1,1⟩ (ofBytes [c]):=by
 refine ⟨rfl,.inl rfl,rfl,fun ha=>by (cases ha),fun A off ha=>?_⟩
 cases ha
 exact ⟨Nat.lt_succ_self _,[.int .u8 c.toNat],by rw [g_push_eq _ rfl];rfl,rfl⟩
theorem conv_new (h:Heap) (c:UInt8):convS E 28 9 (.slice (some (h.next,0)) 1 1 1) (h.push (.row [.int .u8 c.toNat] .own))=some (.str [c]):=conv_one (one_new h c)
theorem add_str {x y:Bs} (h:x.length+y.length≤1099511627776):binStr .add x y=some (.str (x++y)):=by
 have:Nat.ble (x.length+y.length) 1099511627776=true:=by rw [Nat.ble_eq];exact h
 simp only [binStr,this,cond_true]
theorem same_refl (v:AV):sameO (some v) v=true:=eqV_refl v
theorem blk_refl (cs:List AV):blkEq (some (.row cs .own)) (some (.row cs .own))=true:=by simp only [blkEq,eqV_refl,stEq,Bool.and_self]
theorem quo128 (n:Nat) (h:n<18446744073709551616):binInt .quo .u64 (n:Int) 128=some (.int .u64 ((n / 128:Nat):Int)):=by
 have e:(n:Int).tdiv 128=((n / 128:Nat):Int):=by rw [Int.tdiv_eq_ediv_of_nonneg (by omega)];rfl
 show some (AV.int .u64 (wrapA .u64 ((n:Int).tdiv 128)))=_
 rw [e,wr64s (by omega)]
section
variable {N:Nat} {h:Heap}
theorem f35_rec:∀ (k n M:Nat) (h:Heap),n<128 ^ (k+1)→n<18446744073709551616→k≤20→k<M→∃ h',f35 N M (n:Int) h=some (encU n,h')∧Chg [] h h':=by
 have base:∀ (n M:Nat) (h:Heap),n<128→∃ h',f35 N (M+1) (n:Int) h=some (encU n,h')∧Chg [] h h':=by
  intro n M h hn
  refine ⟨_,?_,chg_push h (.row [.int .u8 (UInt8.ofNat n).toNat] .own)⟩
  rw [f35_succ]
  unfold f35_r
  have hc:=conv_new h (UInt8.ofNat n)
  rw [byte_nat (by omega)] at hc ⊢
  simp only [ltI,decide_eq_true (show (n:Int)<128 by omega),cond_true,wr8,Nat.mod_eq_of_lt (show n<256 by omega),hc,bindV_some,cast_str,encU_lt hn]
 intro k
 induction k with
 | zero=>
  intro n M h hn hn2 _ hM
  obtain ⟨M,rfl⟩:∃ M',M=M'+1:=⟨M-1,by omega⟩
  exact base n M h (by simpa using hn)
 | succ k ih=>
  intro n M h hn hn2 hk hM
  obtain ⟨M,rfl⟩:∃ M',M=M'+1:=⟨M-1,by omega⟩
  by_cases hn':n<128
  ·exact base n M h hn'
  ·obtain ⟨h',e,c⟩:=ih (n / 128) M (h.push (.row [.int .u8 (lo n).toNat] .own)) (by rw [Nat.pow_succ] at hn;omega) (by omega) (by omega) (by omega)
   have c0:=chg_push h (.row [.int .u8 (lo n).toNat] .own)
   refine ⟨h',?_,c0.trans c⟩
   rw [f35_succ]
   unfold f35_r
   have hc:=conv_new h (lo n)
   have hc2:convS E 28 9 (.slice (some (h.next,0)) 1 1 1) h'=some (.str [lo n]):=conv_one (One.chgM (one_new h (lo n)) c (by simp))
   have hg:h'.t.get h.next=(h.push (.row [.int .u8 (lo n).toNat] .own)).t.get h.next:=c.g h.next (Nat.lt_succ_self _) (by simp)
   have hb:blkEq (h'.t.get h.next) ((h.push (.row [.int .u8 (lo n).toNat] .own)).t.get h.next)=true:=by
    have g2:(h.push (.row [.int .u8 (lo n).toNat] .own)).t.get h.next=some (.row [.int .u8 (lo n).toNat] .own):=g_push_eq _ rfl
    rw [hg,g2];exact blk_refl _
   have hlen:=encU_len k (n / 128) (by rw [Nat.pow_succ] at hn;omega)
   have ha:binStr .add [lo n] (encU (n / 128))=some (.str (encU n)):=by rw [add_str (by rw [List.length_singleton];omega),encU_ge hn'];rfl
   rw [lo_nat] at hc e hb
   simp only [ltI,decide_eq_false (show ¬ (n:Int)<128 by omega),cond_false,and64 n hn2,bindV_some,cast_int,wr8,or8,show n % 128 % 256 % 128=n % 128 by omega,hc,cast_str,quo128 n hn2,e,bind2_some,ha,hc2,same_refl,cond_true,hb,Bool.and_self,Bool.true_and]
   rfl
theorem f35_eq {n:Nat} (hn:n<18446744073709551616) (hN:20≤N):∃ h',f35 N N (n:Int) h=some (encU n,h')∧Chg [] h h':=f35_rec 9 n N h (by omega) hn (by omega) (by omega)
theorem f33_eq {x:Bs} (hx:x.length≤100000000) (hN:20≤N):∃ h',f33 N x h=some (encT x,h')∧Chg [] h h':=by
 obtain ⟨h',e,c⟩:=f35_eq (N:=N) (h:=h) (n:=x.length) (by omega) hN
 refine ⟨h',?_,c⟩
 unfold f33
 have:=encU_len10 (n:=x.length) (by omega)
 rw [show Int.ofNat x.length=(x.length:Int) from rfl,wr64s (by omega)]
 simp only [e,bind2_some,add_str (show (encU x.length).length+x.length≤1099511627776 by omega),bindV_some,cast_str]
 rfl
theorem f34_eq {v:Int} (h1:-9223372036854775808≤v) (h2:v≤9223372036854775807) (hN:20≤N):∃ h',f34 N v h=some (encI v,h')∧Chg [] h h':=by
 obtain ⟨h',e,c⟩:=f35_eq (N:=N) (h:=h) (n:=natI v) (natI_lt h1 h2) hN
 refine ⟨h',?_,c⟩
 unfold f34
 cases v with
 | ofNat n=>
  rw [show Int.ofNat n=(n:Int) from rfl] at h1 h2 e ⊢
  have hn:natI (n:Int)=n * 2:=by unfold natI;rw [if_neg (by omega)];omega
  have e2:wrapA .u64 ((n:Int) * 2)=((n * 2:Nat):Int):=by rw [show (n:Int) * 2=((n * 2:Nat):Int) by omega,wr64s (by omega)]
  rw [hn] at e
  simp only [ltI,decide_eq_false (show ¬ (n:Int)<0 by omega),cond_false,wr64s (show n<18446744073709551616 by omega),e2,e,bind2_some,encI,hn]
 | negSucc m=>
  have hn:natI (Int.negSucc m)=2 * m+1:=by unfold natI;rw [if_pos (by omega)];omega
  have e1:wrapA .i64 (Int.negSucc m+1) = -(m:Int):=by rw [wrapA_small (by omega) (by omega)];omega
  have e2:wrapA .i64 (0 - -(m:Int))=(m:Int):=by rw [wrapA_small (by omega) (by omega)];omega
  have e3:wrapA .u64 ((m:Int) * 2)=((m * 2:Nat):Int):=by rw [show (m:Int) * 2=((m * 2:Nat):Int) by omega,wr64s (by omega)]
  have e4:wrapA .u64 (((m * 2:Nat):Int)+1)=((2 * m+1:Nat):Int):=by rw [show ((m * 2:Nat):Int)+1=((2 * m+1:Nat):Int) by omega,wr64s (by omega)]
  rw [hn] at e
  simp only [ltI,decide_eq_true (show Int.negSucc m<0 by omega),cond_true,e1,e2,wr64s (show m<18446744073709551616 by omega),e3,e4,e,bind2_some,encI,hn]
theorem f37_loop {A:Nat} {x:Bs} (hx:x.length=32):∀ (k i M:Nat) {h:Heap} {s:SL},i+k=32→k<M→h.own A (ofBytes x)→Bt h s (x.take i)→s.blk≠some A→∃ s' h',f37_l1 N M (some (A,0)) s (i:Int) h=some (.exit 0,(s',()),h')∧Bt h' s' x∧Chg s.blk.toList h h'∧(∀ B,s'.blk=some B→s.blk=some B∨h.next≤B):=by
 intro k
 induction k with
 | zero=>
  intro i M h s hi hM ho hs hne
  obtain ⟨M,rfl⟩:∃ M',M=M'+1:=⟨M-1,by omega⟩
  refine ⟨s,h,?_,by rw [List.take_of_length_le (by omega)] at hs;exact hs,(Chg.refl [] h).mono (by simp),fun B hB=>.inl hB⟩
  rw [f37_l1_succ]
  unfold f37_l1_b
  simp only [ltI,decide_eq_false (show ¬ (i:Int)<32 by omega),cond_false]
 | succ k ih=>
  intro i M h s hi hM ho hs hne
  obtain ⟨M,rfl⟩:∃ M',M=M'+1:=⟨M-1,by omega⟩
  have hl:(x.take i).length=i:=by rw [List.length_take];omega
  obtain ⟨s',h1,e1,q1,c1,n1⟩:=app_one x[i] hs (by rw [hl];omega)
  have hA:A ∉ s.blk.toList:=by
   intro hm
   cases hb:s.blk with
   | none=>rw [hb] at hm;cases hm
   | some B=>rw [hb] at hm;simp at hm;exact hne (by rw [hb,hm])
  have hne':s'.blk≠some A:=fun e=>by
   rcases n1 A e with q | q
   ·exact hne q
   ·have:=ho.2;omega
  have hcat:x.take i++[x[i]]=x.take (i+1):=by rw [List.take_succ_eq_append_getElem (by omega)]
  rw [hcat] at q1
  obtain ⟨s2,h2,e2,q2,c2,n2⟩:=ih (i+1) M (by omega) (by omega) (ho.chg c1 hA) q1 hne'
  refine ⟨s2,h2,?_,q2,c1.step c2 fun B hB hl=>?_,fun B hB=>?_⟩
  ·have hc:h.cell (A,0+i * 1)=some (.int .u8 x[i].toNat):=by
    rw [Nat.zero_add,Nat.mul_one,ho.cell]
    have:∀ (l:Bs) (j:Nat) (hj:j<l.length),(ofBytes l)[j]? = some (.int .u8 l[j].toNat):=by
     intro l
     induction l with
     | nil=>intro j hj;simp at hj
     | cons y r ih=>intro j hj;cases j with
      | zero=>rfl
      | succ j=>simpa [ofBytes] using ih j (by simpa using hj)
    exact this x i (by omega)
   rw [f37_l1_succ]
   unfold f37_l1_b
   simp only [ltI,decide_eq_true (show (i:Int)<32 by omega),cond_true]
   rw [show (i:Int)=Int.ofNat i from rfl,ixK_of _ _ _ _ _ (by omega),hc]
   simp only [bindV_some,cast_int,e1,SL.av,bindT_some,cast_slice]
   have hw:wrapA .i64 (Int.ofNat i+1)=((i+1:Nat):Int):=wrapA_small (x:=(i:Int)+1) (by omega) (by omega)
   rw [hw]
   exact e2
  ·cases hb:s'.blk with
   | none=>rw [hb] at hB;cases hB
   | some C=>
    rw [hb] at hB;simp at hB;subst hB
    rcases n1 _ hb with q | q
    ·rw [q];simp
    ·omega
  ·rcases n2 B hB with q | q
   ·exact n1 B q
   ·exact .inr (Nat.le_trans c1.next q)
theorem f37_eq {a:dens T32} {x:Bs} (ha:HB a x) (hN:40≤N):∃ h',f37 N a h=some (x,h')∧Chg [] h h':=by
 have hx:=ha.len
 have c0:=chg_push h (.row (CTy.tos T32 a) .own)
 have ho:(h.push (.row (CTy.tos T32 a) .own)).own h.next (ofBytes x):=by
  have:=own_push h (CTy.tos T32 a)
  rw [show CTy.tos T32 a=ofBytes x from ha] at this ⊢;exact this
 obtain ⟨s',h',e,q,c,n⟩:=f37_loop (N:=N) hx 32 0 N (s:=⟨none,0,0,0⟩) rfl (by omega) ho (Bt.nil _ 0) (by simp [SL.blk])
 refine ⟨h',?_,c0.trans c⟩
 rw [show ((0:Nat):Int)=0 from rfl] at e
 unfold f37
 simp only [e,bind3_some,q.conv,bindV_some,cast_str]
end
end Vp
end Go.Proofs.YtjipnkhkkhpenaaGreatDoor
